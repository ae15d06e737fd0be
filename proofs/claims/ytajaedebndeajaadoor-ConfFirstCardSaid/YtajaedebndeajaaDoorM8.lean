/- Contracts and plain facts that the law's proof needs. -/
import Derived.Test.YtajaedebndeajaaDoorM7
namespace Go.Proofs.YtajaedebndeajaaDoor.Pure
open Go Go.RowKit Go.Proofs.YtajaedebndeajaaDoor.Q Go.Proofs.YtajaedebndeajaaDoor.Quad Go.Proofs.YtajaedebndeajaaDoorW.PrintWords Go.Proofs.YtajaedebndeajaaDoorW.PrintLast Go.Proofs.YtajaedebndeajaaDoorW.PrintMore
set_option linter.unusedVariables false
set_option linter.unusedSimpArgs false

theorem why_at (o0 o1 o2 o3 : Int) (l : List Ten) (pre life idle : Int) (lf : Bool) (hl : okAll l) : conf_Why.f o0 o1 o2 o3 l pre life idle lf = some (whyS l pre life idle) := if_pos hl
theorem may_at (o0 o1 o2 o3 : Int) (l : List Ten) (pre life idle : Int) (lf : Bool) (hl : okAll l) : conf_May.f o0 o1 o2 o3 l pre life idle lf = some ((whyS l pre life idle).2 == 0) := if_pos hl
theorem head_len {n : Nat} {pre life idle : Int} (h : okHead n pre life idle = true) : 1 ≤ n ∧ n ≤ 4 := by
  rw [okHead, Bool.and_eq_true, inR, inR, inR, inR, Bool.and_eq_true (decide ((1 : Int) ≤ (n : Int))), decide_eq_true_iff, decide_eq_true_iff] at h
  omega
theorem head_other {n m : Nat} {pre life idle : Int} (h : okHead n pre life idle = true) (h1 : 1 ≤ m) (h4 : m ≤ 4) : okHead m pre life idle = true := by
  rw [okHead, Bool.and_eq_true] at h ⊢
  refine ⟨h.1, ?_⟩
  rw [inR, decide_eq_true (by omega), decide_eq_true (by omega)]; rfl
/-- What it means that a conf may be. -/
theorem may_means {l : List Ten} {pre life idle : Int} (h : ((whyS l pre life idle).2 == 0) = true) : okHead l.length pre life idle = true ∧ ∀ j, j < l.length → fine l j := by
  rw [whyS] at h
  cases hh : okHead l.length pre life idle
  · rw [hh] at h; simp at h
  · rw [hh, if_pos rfl] at h
    refine ⟨rfl, ?_⟩
    rcases scan_goes l with ⟨_, hf⟩ | ⟨i, hi, hs, _⟩ | ⟨i, hi, hs, _⟩
    · exact hf
    · rw [hs] at h; simp at h
    · rw [hs] at h; simp at h
theorem may_of {l : List Ten} {pre life idle : Int} (h : okHead l.length pre life idle = true) (hf : ∀ j, j < l.length → fine l j) : whyS l pre life idle = (-1, 0) := by
  rw [whyS, if_pos h, scan_none l hf]
theorem take_fine {l : List Ten} {m : Nat} (h : ∀ j, j < m → fine l j) : ∀ j, j < m → fine (l.take m) j := by
  intro j hj t ht
  rw [List.getElem?_take_of_lt hj] at ht
  rw [List.take_take, Nat.min_eq_left (by omega)]
  exact h j hj t ht
theorem ok_sub {l m : List Ten} (h : okAll l) (hs : ∀ x ∈ m, x ∈ l) (hlen : m.length ≤ l.length) : okAll m := ⟨Nat.le_trans hlen h.1, fun t ht => h.2 t (hs t ht)⟩
theorem ok_take {l : List Ten} (h : okAll l) (m : Nat) : okAll (l.take m) := ok_sub h (fun x hx => List.mem_of_mem_take hx) (by rw [List.length_take]; omega)
theorem ok_drop {l : List Ten} (h : okAll l) (m : Nat) : okAll (l.drop m) := ok_sub h (fun x hx => List.mem_of_mem_drop hx) (by rw [List.length_drop]; omega)
theorem any_sub {l m : List Ten} {p : Ten → Bool} (hs : ∀ x ∈ m, x ∈ l) (h : l.any p = false) : m.any p = false := by
  rw [List.any_eq_false] at h ⊢
  exact fun x hx => h x (hs x hx)
theorem one_sub {t : Ten} {l m : List Ten} (hs : ∀ x ∈ m, x ∈ l) (h : oneS t l = true) : oneS t m = true := by
  rw [oneS, Bool.and_eq_true, Bool.and_eq_true, Bool.and_eq_true] at h ⊢
  refine ⟨⟨h.1.1, h.1.2.1, ?_⟩, h.2⟩
  have := h.1.2.2
  rw [Bool.not_eq_true'] at this ⊢
  exact any_sub hs this
theorem ports_sub {t : Ten} {l m : List Ten} (hs : ∀ x ∈ m, x ∈ l) (h : portsS t l = true) : portsS t m = true := by
  rw [portsS, Bool.and_eq_true] at h ⊢
  refine ⟨?_, h.2⟩
  have := h.1
  rw [Bool.not_eq_true'] at this ⊢
  exact any_sub hs this
theorem drop_fine {l : List Ten} (h : ∀ j, j < l.length → fine l j) : ∀ j, j < (l.drop 1).length → fine (l.drop 1) j := by
  intro j hj t ht
  rw [List.length_drop] at hj
  rw [List.getElem?_drop] at ht
  obtain ⟨h1, h2⟩ := h (1 + j) (by omega) t ht
  have hs : ∀ x ∈ (l.drop 1).take j, x ∈ l.take (1 + j) := by
    intro x hx
    rw [List.take_drop] at hx
    exact List.mem_of_mem_drop hx
  exact ⟨one_sub hs h1, ports_sub hs h2⟩
/-- What a tenant's being fine tells. -/
theorem fine_facts {l : List Ten} {i : Nat} (hi : i < l.length) (h : fine l i) : 1024 ≤ (l[i]).f3 ∧ (l[i]).f3 ≤ (l[i]).f4 ∧ (l[i]).f4 ≤ 65535 ∧ 1 ≤ (l[i]).f6 ∧ 1 ≤ (l[i]).f7 ∧ (∀ x ∈ l.take i, (x.f1.toList = (l[i]).f1.toList) = False) ∧ ∀ x ∈ l.take i, meets l[i] x = false := by
  obtain ⟨h1, h2⟩ := h _ (List.getElem?_eq_getElem hi)
  rw [oneS] at h1
  rw [portsS] at h2
  simp only [inR, Bool.and_eq_true, decide_eq_true_iff, Bool.not_eq_true', List.any_eq_false] at h1 h2
  refine ⟨h2.2.1.1, h2.2.1.2, h2.2.2, h1.2.1.1.1.1.1.1, h1.2.1.1.1.1.2.1, fun x hx => ?_, fun x hx => ?_⟩
  · have := h1.1.2.2 x hx
    rw [isHost, beq_iff_eq] at this
    exact eq_false this
  · exact eq_false_of_ne_true (h2.1 x hx)
end Go.Proofs.YtajaedebndeajaaDoor.Pure
