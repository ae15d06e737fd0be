/- General laws of the walks of this seat: a guarded operation whose guard lets it run; an append of any slice, a nil one too, to a row of the call's own. -/
import Derived.Test.YtoeknbnchmpklaaWMore
import Derived.Test.YtoeknbnchmpklaaWNEv
import Derived.Below
import Derived.Deep.Draws
import Derived.Deep.AppendLies
import Derived.Maps.AppendAt
import Derived.OwnWalk
import Derived.Laws.BytesArg
import Derived.Laws.MakeOwn
import Derived.Laws.OwnMore
import Derived.Deep.OwnRows
import Derived.Tactics
import Derived.Lib.ConvBytes
import Derived.Laws.Slices
import Derived.WalkKit
import Derived.KernelRfl
import Derived.RowKit3
import Derived.Deep.LoopGhost
import Derived.Deep.QuietTactic
import Derived.BigQuiet
import Derived.WideLaws
import Derived.Deep.DeepCutAuto
import Derived.Deep.CutBlock
import Derived.Deep.RegionHeld3
import Derived.Laws.Rows
import Derived.Lib.AppendStr
import Derived.ArgAppend
import Derived.Laws.IdiomCopy
import Derived.OrdersHeld
import Derived.Laws.BitsLemmas
import Derived.RowKit
set_option linter.unusedVariables false
namespace Go.Proofs.Ytoeknbnchmpklaa.Laws
open Go Go.RowKit Go.Proofs.YtoeknbnchmpklaaW.PrintWords

theorem own_ge {w : World} {base : Nat} {e : TypeId} {size n : Nat} {v : Value} {xs : List Value} (h : w.ownsRow base e size v n xs) (k : Nat) (hk : v.ownBlock = some k) : base ≤ k := own_base h k hk

theorem row_cells {w : World} {q : IntKind} {A : Option Addr} {l : List Int} (h : Kd.C (Kd.int q) w A l.length l) : 0 < l.length → ∃ ad, A = some ad ∧ ∀ j u, (nums q l)[j]? = some u → w.cell? (ad.add j) = some u := by
  intro hl
  obtain ⟨h1, h2, h3⟩ := Kd.reads_of_C (d := (0 : Int)) (h1 := fun _ => rfl) h
  obtain ⟨ad, e, hc⟩ := h3 hl
  refine ⟨ad, e, fun j u hj => ?_⟩
  have hjl : j < l.length := by
    have := (List.getElem?_eq_some_iff.1 hj).1
    simpa [nums] using this
  rw [hc j hjl]
  simp [nums, List.getD, hjl] at hj ⊢
  exact hj

theorem new_cells (w : World) (xs : List Value) (T : TypeId) (cs : Array Value) (h : cs = xs.toArray) : ∀ j u, xs[j]? = some u → (w.alloc (.cells cs T)).cell? ((⟨w.heap.size, 0, none⟩ : Addr).add j) = some u := by
  intro j u hj
  subst h
  rw [add_plain, World.cell?_alloc_at _ _ _ _ rfl]
  simpa using hj

/-- A row that was made, of whole numbers, as it is read. -/
theorem own_ints {w : World} {b : Nat} {e : TypeId} {q : IntKind} {v : Value} {n : Nat} {l : List Int} (h : w.ownsRow b e 1 v n (nums q l)) : ∃ L A c, Aside0 (L = l) ∧ v = .slice A L.length c ∧ Aside0 (L.length ≤ c) ∧ Aside0 (Kd.C (Kd.int q) w A L.length L) := by
  have hn : n = l.length := by have := h.1; simp [nums] at this; omega
  subst hn
  obtain ⟨A, c, h1, h2, h3⟩ := own_reads_of_le (d := (0 : Int)) (enc := Value.int q) h
  exact ⟨l, A, c, ⟨rfl⟩, h1, ⟨h2⟩, ⟨Kd.C_of_reads (d := (0 : Int)) (h1 := fun _ => rfl) h3⟩⟩

/-- A literal row of whole numbers in a new block, as it is read. -/
theorem lit_ints (w : World) (q : IntKind) (l : List Int) (T : TypeId) (cs : Array Value) (hcs : cs = (nums q l).toArray) (hl : l.length ≤ 9223372036854775807) :
    Kd.C (Kd.int q) (w.alloc (.cells cs T)) (some ⟨w.heap.size, 0, none⟩) l.length l := by
  subst hcs
  refine Kd.C_of_reads (d := (0 : Int)) (h1 := fun _ => rfl) ⟨rfl, hl, fun h0 => ⟨_, rfl, fun j hj => ?_⟩⟩
  rw [add_plain, World.cell?_alloc_at _ _ _ _ rfl]
  simp [nums, List.getD, hj]

theorem own_form {w : World} {base : Nat} {e : TypeId} {size n : Nat} {v : Value} {xs : List Value} (h : w.ownsRow base e size v n xs) (hn : 0 < n) : ∃ q k, v = .slice (some ⟨q, 0, none⟩) n k := by
  rcases h.2 with ⟨_, h0⟩ | ⟨g, cap, cur, h1, _⟩
  · omega
  · exact ⟨g, cap, h1⟩

/-- A row that was made, cell by cell. -/
theorem own_cells {w : World} {base : Nat} {e : TypeId} {n : Nat} {v : Value} {xs : List Value} (h : w.ownsRow base e 1 v n xs) (hn : 0 < n) : ∃ q c, v = .slice (some ⟨q, 0, none⟩) n c ∧ n ≤ c ∧ base ≤ q ∧ q < w.heap.size ∧ ∀ (j : Nat) x, xs[j]? = some x → w.cell? ⟨q, 0 + j, none⟩ = some x := by
  obtain ⟨h1, h2⟩ := h
  rcases h2 with ⟨_, h2⟩ | ⟨g, cap, cur, rfl, hg, hh, hc, hm, hs, ht⟩
  · omega
  · refine ⟨g, cap, rfl, hc, hg, blk_lt hh, fun j x hx => ?_⟩
    rw [Nat.zero_add, blk_cell hh, ← Array.getElem?_toList]
    rw [← ht] at hx
    have hj := (List.getElem?_eq_some_iff.1 hx).1
    rw [List.getElem?_take_of_lt (by simp at hj; omega)] at hx
    exact hx

section
variable {P : Program} {ops : Array Oper} {rest : List Oper} {o : Oper} {a : Act} {Q : Exit → Act → World → Prop} {w : World}

/-- Only at the operation that writes this slot. -/
theorem gate (d : Nat) (_h : o.dst = some d) (h : wpList P ops Q (o :: rest) a w) : wpList P ops Q (o :: rest) a w := h

/-- A guarded operation that is let run goes as if it had no guard. -/
theorem unguard (hw : Region.wanted o (yielded ops a.tmps) = true) (h : wpList P ops Q ({ o with guard := none } :: rest) a w) : wpList P ops Q (o :: rest) a w := by
  unfold wpList at h ⊢
  rw [if_pos hw]
  rw [if_pos (by simp [Region.wanted])] at h
  exact h

theorem append_none (t ty e : TypeId) (i : TypeInfo) (ht : P.underlying t = some (.slice e)) (hi : P.info? e = some i) (v : Value) (n c : Nat) (base size : Nat) (xs : List Value) (hown : w.ownsRow base e size v n xs) (hsl : ∃ A k, v = .slice A n k ∧ n ≤ k) :
    (Builtin.append_ #[t, t] ty #[v, .slice none 0 c]).run P w = .ok v w := by
  obtain ⟨A, k, rfl, hk⟩ := hsl
  cases A <;> simp [Builtin.append_, run_underlying ht, hi, sizeOf, typeInfo, Builtin.lenOf, Builtin.firstCells, Result.andThen, storeCells, hk]

theorem append_any (hgd : o.guard = none) (s x : Operand) (t : TypeId)
    (ho : o.op = .call { callee := .builtin .append, args := #[s, x], argTypes := #[t, t] })
    (base : Nat) (e : TypeId) (i : TypeInfo) (z : Value) (size bytes : Nat) (ht : P.underlying t = some (.slice e)) (hi : P.info? e = some i) (hz : i.zero = some z)
    (hsize : i.size = size) (hby : i.bytes = bytes) (hzs : z.cells.size = size) (hsz : 0 < size)
    (v : Value) (n : Nat) (xs : List Value) (hs : a.eval s = v) (hown : w.ownsRow base e size v n xs)
    (A : Option Addr) (m c : Nat) (news : List Value) (hx : a.eval x = .slice A m c) (hl : news.length = m * size) (hnews : 0 < m → ∃ ad, A = some ad ∧ ∀ j u, news[j]? = some u → w.cell? (ad.add j) = some u) (h1 : ∀ u ∈ news, u.oneCell' = true)
    (h63 : n + m ≤ maxLen) (hbytes : (n + m) * bytes ≤ 140737488355328) (hbase : base ≤ w.heap.size)
    (h : ∀ v' w', w'.ownsRow base e size v' (n + m) (xs ++ news) → w.grownBy w' v.ownBlock → (v' = .slice none 0 0 ↔ v = .slice none 0 0 ∧ m = 0) → (v'.ownBlock = v.ownBlock ∨ v'.ownBlock = some w.heap.size) → wpList P ops Q rest (a.put o.dst v') w') :
    wpList P ops Q (o :: rest) a w := by
  cases A with
  | some ad =>
    refine wpList_append_own_at w hgd s x t ho base e i z size bytes ht hi hz hsize hby hzs hsz v n xs hs hown ad m c news hx hl (fun j u hj => ?_) h1 h63 hbytes hbase h
    have hm : 0 < m := by
      rcases Nat.eq_zero_or_pos m with rfl | hm
      · have : news = [] := List.length_eq_zero_iff.1 (by rw [hl]; simp)
        rw [this] at hj; cases hj
      · exact hm
    obtain ⟨ad', e', hc⟩ := hnews hm
    cases e'
    exact hc j u hj
  | none =>
    have hm : m = 0 := by
      rcases Nat.eq_zero_or_pos m with hm | hm
      · exact hm
      · obtain ⟨ad', e', _⟩ := hnews hm; cases e'
    subst hm
    have hn : news = [] := List.length_eq_zero_iff.1 (by rw [hl]; simp)
    subst hn
    have hsl : ∃ A k, v = .slice A n k ∧ n ≤ k := by
      rcases hown.2 with ⟨rfl, rfl⟩ | ⟨g, cap, cur, rfl, _, _, hc, _⟩
      · exact ⟨none, 0, rfl, Nat.le_refl _⟩
      · exact ⟨_, _, rfl, hc⟩
    have hr := append_none (P := P) (w := w) t o.type e i ht hi v n c base size xs hown hsl
    refine wpList_plain hgd fun K hK => ?_
    unfold Oper.wp execOp
    simp only [ho, resolve, invoke, builtin, Sem.run_bind, Sem.run_pure, Result.andThen_ok, List.map_toArray, List.map_cons, List.map_nil, hs, hx, hr]
    refine hK _ _ (h v w ?_ ⟨rfl, rfl, rfl, Nat.le_refl _, fun _ _ _ => rfl⟩ ⟨fun h => ⟨h, rfl⟩, fun h => h.1⟩ (.inl rfl))
    simpa using hown
end
end Go.Proofs.Ytoeknbnchmpklaa.Laws
