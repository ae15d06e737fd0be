/- Rows of one-cell elements that a call reads and grows: of its own, or full. -/
import Derived.Test.YtfbjejkmjbknaaaDoorLib
import Derived.ArgAppend
namespace Go.Proofs.YtfbjejkmjbknaaaDoor.Row
open Go Go.RowKit Go.Proofs.YtfbjejkmjbknaaaDoorW.PrintWords

/-- A slice of one-cell elements in a block of the call's own: grown by it, or full. -/
def Lies (w : World) (base : Nat) (e : TypeId) (v : Value) (xs : List Value) : Prop :=
  w.ownsRow base e 1 v xs.length xs ∨
  ∃ g, v = .slice (some ⟨g, 0, none⟩) xs.length xs.length ∧ g < w.heap.size ∧ ∀ (j : Nat) x, xs[j]? = some x → w.cell? ⟨g, 0 + j, none⟩ = some x

theorem Lies.nil (w : World) (base : Nat) (e : TypeId) : Lies w base e (.slice none 0 0) [] := .inl (own_nil _ _ _ _)
theorem Lies.form {w : World} {base : Nat} {e : TypeId} {v : Value} {xs : List Value} (h : Lies w base e v xs) :
    (v = .slice none 0 0 ∧ xs = []) ∨ ∃ g c, v = .slice (some ⟨g, 0, none⟩) xs.length c ∧ xs.length ≤ c ∧ g < w.heap.size ∧ ∀ (j : Nat) x, xs[j]? = some x → w.cell? ⟨g, 0 + j, none⟩ = some x := by
  rcases h with h | ⟨g, h1, h3, h4⟩
  · by_cases h0 : xs = []
    · subst h0
      rcases h.2 with ⟨h1, _⟩ | ⟨g, cap, cur, h1, h2, h3, h4, _⟩
      · exact .inl ⟨h1, rfl⟩
      · exact .inr ⟨g, cap, h1, h4, blk_lt h3, fun j x hx => by simp at hx⟩
    · obtain ⟨g, c, h1, h2, h3, h4, h5⟩ := Laws.own_cells h (List.length_pos_iff.2 h0)
      exact .inr ⟨g, c, h1, h2, h4, h5⟩
  · exact .inr ⟨g, xs.length, h1, Nat.le_refl _, h3, h4⟩
/-- As it is read: one form, a nil slice too. -/
theorem Lies.read {w : World} {base : Nat} {e : TypeId} {v : Value} {xs : List Value} (h : Lies w base e v xs) :
    ∃ A c, v = .slice A xs.length c ∧ xs.length ≤ c ∧ ∀ (j : Nat) x, xs[j]? = some x → ∃ g, A = some ⟨g, 0, none⟩ ∧ g < w.heap.size ∧ w.cell? ⟨g, j, none⟩ = some x := by
  rcases h.form with ⟨rfl, rfl⟩ | ⟨g, c, rfl, hc, hg, hx⟩
  · exact ⟨none, 0, rfl, Nat.le_refl _, fun j x hx => by simp at hx⟩
  · exact ⟨_, c, rfl, hc, fun j x hj => ⟨g, rfl, hg, by have := hx j x hj; rwa [Nat.zero_add] at this⟩⟩
theorem Lies.readN {w : World} {base : Nat} {e : TypeId} {v : Value} {xs : List Value} (h : Lies w base e v xs) :
    ∃ A N c, v = .slice A N c ∧ N = xs.length ∧ N ≤ c ∧ ∀ (j : Nat) x, xs[j]? = some x → ∃ g, A = some ⟨g, 0, none⟩ ∧ g < w.heap.size ∧ w.cell? ⟨g, j, none⟩ = some x := by
  obtain ⟨A, c, h1, h2, h3⟩ := h.read
  exact ⟨A, _, c, h1, rfl, h2, h3⟩
theorem Lies.below {w w' : World} {base : Nat} {e : TypeId} {v : Value} {xs : List Value} (h : Lies w base e v xs) (hb : Below w.heap.size w w') : Lies w' base e v xs := by
  rcases h with h | ⟨g, h1, h3, h4⟩
  · exact .inl (own_move h (fun j hj => hb.block j (own_lt h j hj)))
  · exact .inr ⟨g, h1, Nat.lt_of_lt_of_le h3 hb.size, fun j x hx => (hb.cell h3).trans (h4 j x hx)⟩
theorem Lies.alloc {w : World} {base : Nat} {e : TypeId} {v : Value} {xs : List Value} (h : Lies w base e v xs) (o : Obj) : Lies (w.alloc o) base e v xs := h.below ((Below.refl _ _).alloc (Nat.le_refl _) o)
/-- A new block, whole. -/
theorem Lies.whole (w : World) (base : Nat) (e T : TypeId) (xs : List Value) : Lies (w.alloc (.cells xs.toArray T)) base e (.slice (some ⟨w.heap.size, 0, none⟩) xs.length xs.length) xs := by
  refine .inr ⟨w.heap.size, rfl, by simp, fun j x hx => ?_⟩
  have := Laws.new_cells w xs T xs.toArray rfl j x hx
  rw [add_plain] at this
  rw [Nat.zero_add]; exact this
/-- All but the last, with no room behind. -/
theorem Lies.last {w : World} {base : Nat} {e : TypeId} {xs : List Value} {g n c : Nat} (h : Lies w base e (.slice (some ⟨g, 0, none⟩) n c) xs) (n' : Nat) (hn' : n' = n - 1) : Lies w base e (.slice (some ⟨g, 0, none⟩) n' n') xs.dropLast := by
  rcases h.form with ⟨h1, _⟩ | ⟨g', c', h1, h2, h4, h5⟩
  · cases h1
  · cases h1
    have hl : n' = xs.dropLast.length := by rw [hn', List.length_dropLast]
    rw [hl]
    refine .inr ⟨g, rfl, h4, fun j x hx => h5 j x ?_⟩
    have hj := (List.getElem?_eq_some_iff.1 hx).1
    rw [List.dropLast_eq_take, List.getElem?_take_of_lt (by rw [List.length_dropLast] at hj; exact hj)] at hx
    exact hx
/-- All but the last of a row of the call's own, with room behind. -/
theorem own_last {w : World} {base : Nat} {e : TypeId} {xs : List Value} {g n c : Nat} (h : w.ownsRow base e 1 (.slice (some ⟨g, 0, none⟩) n c) n xs) (n' : Nat) (hn' : n' = n - 1) : w.ownsRow base e 1 (.slice (some ⟨g, 0, none⟩) n' c) n' xs.dropLast := by
  obtain ⟨h1, h2⟩ := h
  rcases h2 with ⟨h2, _⟩ | ⟨g', cap, cur, h2, hg, hh, hc, hm, hs, ht⟩
  · cases h2
  · cases h2
    refine ⟨by rw [List.length_dropLast]; omega, .inr ⟨g, c, cur, rfl, hg, hh, by omega, hm, hs, ?_⟩⟩
    rw [List.dropLast_eq_take, ← ht, List.take_take]
    congr 1
    have : ((cur.toList.take (n * 1)).length) = n * 1 := by rw [ht]; exact h1
    omega

theorem own_mono {w : World} {base base' : Nat} {e : TypeId} {size n : Nat} {v : Value} {xs : List Value} (h : w.ownsRow base e size v n xs) (hb : base' ≤ base) : w.ownsRow base' e size v n xs := by
  obtain ⟨h1, h2⟩ := h
  rcases h2 with h2 | ⟨g, cap, cur, h3, h4, h5⟩
  · exact ⟨h1, .inl h2⟩
  · exact ⟨h1, .inr ⟨g, cap, cur, h3, Nat.le_trans hb h4, h5⟩⟩
section
variable {P : Program} {ops : Array Oper} {rest : List Oper} {o : Oper} {a : Act} {Q : Exit → Act → World → Prop} {w : World}
/-- An append of some elements to a row that lies so. -/
theorem append (hgd : o.guard = none) (s x : Operand) (t : TypeId)
    (ho : o.op = .call { callee := .builtin .append, args := #[s, x], argTypes := #[t, t] })
    (base : Nat) (e : TypeId) (i : TypeInfo) (z : Value) (bytes : Nat) (ht : P.underlying t = some (.slice e)) (hi : P.info? e = some i) (hz : i.zero = some z)
    (hsize : i.size = 1) (hby : i.bytes = bytes) (hzs : z.cells.size = 1)
    (v : Value) (xs : List Value) (hs : a.eval s = v) (hown : Lies w base e v xs)
    (ad : Addr) (m c : Nat) (news : List Value) (hx : a.eval x = .slice (some ad) m c) (hl : news.length = m) (hm : 0 < m) (hnews : ∀ j u, news[j]? = some u → w.cell? (ad.add j) = some u) (h1 : ∀ u ∈ news, u.oneCell' = true)
    (h63 : xs.length + m ≤ maxLen) (hbytes : (xs.length + m) * bytes ≤ 140737488355328) (hbase : base ≤ w.heap.size)
    (h : ∀ v' w', w'.ownsRow base e 1 v' (xs.length + m) (xs ++ news) → Below base w w' → wpList P ops Q rest (a.put o.dst v') w') :
    wpList P ops Q (o :: rest) a w := by
  rcases hown with hown | ⟨g, rfl, h3, h4⟩
  · refine wpList_append_own_at w hgd s x t ho base e i z 1 bytes ht hi hz hsize hby hzs (by decide) v xs.length xs hs hown ad m c news hx (by rw [hl, Nat.mul_one]) hnews h1 h63 hbytes hbase ?_
    intro v' w' r1 r2 _ _
    exact h v' w' r1 ((Below.refl _ _).grown r2 hbase (fun k hk => Laws.own_ge hown k hk))
  · refine wpList_append_grows w hgd s x t ho e i z 1 bytes ht hi hz hsize hby hzs (by decide) (some ⟨g, 0, none⟩) xs.length xs.length xs hs (fun hh => by cases hh) (by rw [Nat.mul_one]) (fun b hb j u hj => by cases hb; rw [add_plain]; have := h4 j u hj; rwa [Nat.zero_add] at this) ad m c news hx (by rw [hl, Nat.mul_one]) hnews h1 (by omega) h63 hbytes ?_
    intro v' w' r1 r2
    exact h v' w' (own_mono r1 hbase) ((Below.refl _ _).grown r2 hbase (fun k hk => by cases hk))
end
end Go.Proofs.YtfbjejkmjbknaaaDoor.Row
