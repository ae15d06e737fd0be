/- The contracts of package quad's functions. -/
import Derived.Test.YtfbjejkmjbknaaaDoorLib
import Derived.Test.YtfbjejkmjbknaaaDoorDig
import Derived.Test.YtfbjejkmjbknaaaDoorProg
namespace Go.Proofs.YtfbjejkmjbknaaaDoor.Quad
open Go Go.RowKit Go.Proofs.YtfbjejkmjbknaaaDoorW.PrintWords Go.Proofs.YtfbjejkmjbknaaaDoorW.PrintLast Go.Proofs.YtfbjejkmjbknaaaDoorW.PrintMore Go.Proofs.YtfbjejkmjbknaaaDoor.Dig
set_option linter.unusedVariables false
set_option linter.unusedSimpArgs false

theorem slice24 (g b : Nat) (L : List Int) (hb : b + L.length = 24) (h0 : L ≠ []) (W : World) :
    (Instr.sliceAt 67 (.pointer (some ⟨g, 0, none⟩)) (some (.int .i64 b)) none none).run Tryd.prog W = .ok (.slice (some ⟨g, b, none⟩) L.length L.length) W := by
  have hl : 0 < L.length := List.length_pos_iff.2 h0
  have ha : Tryd.prog.arrayLen 67 = 24 := by kernel_rfl
  have he : Tryd.prog.elem 67 = 5 := by kernel_rfl
  have hz : ∀ W, (sizeOf 5).run Tryd.prog W = .ok 1 W := Tryd.sizeOf5
  rw [run_sliceAt_array_l W 67 ⟨g, 0, none⟩ (by kernel_rfl) .i64 b (by omega) (by rw [ha]; omega), he, hz, Result.andThen_ok, ha]
  simp only [slicedAt, Int.toNat_natCast]
  rw [if_neg (by omega), show 24 - b = L.length from by omega, add_plain, Nat.mul_one]

theorem str24 (W : World) (g b : Nat) (tl L : List Int) (hb : b + L.length = 24) (hL : L = tl) (h : W.heap[g]? = some (.cells (cells b tl) 67 (0, 0))) :
    (convert 39 9 (.slice (some ⟨g, b, none⟩) L.length L.length)).run Tryd.prog W = .ok (.string (strOfNums L)) W := by
  subst hL
  refine string_of_reads Tryd.underlying39 Tryd.underlying5 Tryd.underlying9 ⟨rfl, by omega, fun h0 => ⟨_, rfl, fun j hj => ?_⟩⟩
  rw [show (⟨g, b, none⟩ : Addr).add j = ⟨g, b + j, none⟩ from by simp [Addr.add], blk_cell h]
  exact cells_at b L j hj

set_option maxHeartbeats 1000000 in
set_option maxRecDepth 100000 in
theorem num_calls (n : Int) (h0 : -9223372036854775808 ≤ n) (h1 : n ≤ 9223372036854775807) (w : World) :
    Calls Tryd.prog 20 #[.int .i64 n] w fun e w' => e = .returned (.string (strOfNums (num n))) ∧ Below w.heap.size w w' := by
  obtain ⟨R, hR⟩ : ∃ R, R = strOfNums (num n) := ⟨_, rfl⟩
  have HR := Aside0.mk hR
  rw [← hR]
  clear hR
  obtain ⟨U, hU⟩ : ∃ U : Nat, U = n.natAbs := ⟨_, rfl⟩
  have hUlt : U < 10 ^ 20 := by omega
  have HU := Aside0.mk (And.intro hU hUlt)
  have hgoes : (decide (n < 0) = true ∧ IntKind.u64.wrap (-(IntKind.u64.wrap n)) = (U : Int)) ∨ (decide (n < 0) = false ∧ IntKind.u64.wrap n = (U : Int)) := by
    by_cases h : n < 0
    · exact .inl ⟨decide_eq_true h, by rw [hU]; simp [IntKind.wrap, IntKind.bits, IntKind.signed]; omega⟩
    · exact .inr ⟨decide_eq_false h, by rw [hU]; simp [IntKind.wrap, IntKind.bits, IntKind.signed]; omega⟩
  clear hU hUlt
  rcases hgoes with ⟨d1, hu⟩ | ⟨d1, hu⟩
  all_goals
    go_enter Tryd.func20, Tryd.ntmps20
    go_wp2
    go_loopw [4, 5, 6] (fun at_ u_ f_ wr => ∃ (a u : Nat) (f : Bool) (tl : List Int), at_ = .int .i64 a ∧ u_ = .int .u64 u ∧ f_ = .bool f ∧ Aside0 (Inv U a u f tl) ∧ Aside0 (wr.heap[w.heap.size]? = some (.cells (cells a tl) 67 (0, 0))) ∧ Aside0 (Below w.heap.size w wr))
      (fun a_ _ _ _ => (intOf a_).toNat)
    case atStart => exact ⟨24, U, true, [], rfl, rfl, rfl, ⟨Inv.start U⟩, ⟨by have := blk_new w (.cells (cells 24 []) 67); exact this⟩, ⟨(Below.refl _ _).alloc (Nat.le_refl _) _⟩⟩
    case round =>
      obtain ⟨a, u, f, tl, rfl, rfl, rfl, HI, HC, HB⟩ := hrel
      have hlo := HI.out.low HU.out.2
      have hhi : a ≤ 24 := by have := HI.out.2.1; omega
      obtain ⟨b, hb⟩ : ∃ b : Nat, b + 1 = a := ⟨a - 1, by omega⟩
      obtain ⟨v, hv⟩ : ∃ v : Nat, v = u / 10 := ⟨_, rfl⟩
      have hu64 : u < 18446744073709551616 := by have := HI.out.1; have := HU.out.1; omega
      have hwb : wrap64 ((a : Int) - 1) = (b : Int) := by rw [show (a : Int) - 1 = (b : Int) from by omega]; unfold wrap64; omega
      have hwv : IntKind.u64.wrap ((u : Int) / 10) = (v : Int) := by rw [hv]; simp [IntKind.wrap, IntKind.bits, IntKind.signed]; omega
      have hcell : wr.cell? ⟨w.heap.size, b, none⟩ = some (.int .u8 (0 : Int)) := (blk_cell HC.out b).trans (cells_nought a tl b (by omega))
      have hfroz : wr.frozen? ⟨w.heap.size, b, none⟩ = false := blk_frozen HC.out b
      have hb0 : 0 ≤ b ∧ b < 24 := by omega
      have HN := Aside0.mk (fun hl => HI.out.next (f := f) HU.out.2 hl)
      have HBV := Aside0.mk (And.intro hb hv)
      have HBD := Aside0.mk (And.intro hlo hhi)
      clear hb hv hlo hhi
      by_cases hlive : f = true ∨ 0 < u
      · have hl : f = true ∨ (f = false ∧ decide (0 < u) = true) := by
          rcases hlive with h | h
          · exact .inl h
          · cases f
            · exact .inr ⟨rfl, decide_eq_true h⟩
            · exact .inl rfl
        have HX := Aside0.mk (HN.out hlive)
        clear hlive
        rcases hl with hl | ⟨hl, hl2⟩
        all_goals
          subst hl
          go_wp2
          go_roundw
          case rel =>
            refine ⟨b, v, false, (48 + ((u % 10 : Nat) : Int)) :: tl, rfl, rfl, rfl, ⟨?_⟩, ⟨?_⟩, ⟨HB.out.setCell (Nat.le_refl _) _⟩⟩
            · have := HX.out.2
              rwa [← HBV.out.1, Nat.add_sub_cancel, ← HBV.out.2] at this
            · refine blk_put HC.out b _ ?_
              rw [digit_at, show b = a - 1 from by have := HBV.out.1; omega]
              exact cells_put a tl _ (by have := HBV.out.1; omega)
          case measure => have := HBV.out.1; simp [intOf]; omega
      · have hl1 : f = false := by cases f <;> simp_all
        have hl2 : u = 0 := by omega
        have hD := HI.out.done hl1 hl2
        have htl : tl ≠ [] := by intro h; have := dig_pos U; rw [hD, h] at this; simp at this
        have hbL : b + (tl.length + 1) = 24 := by have := HI.out.2.1; have := HBV.out.1; omega
        clear hlive
        subst hl1; subst hl2
        first
          | (have hn : n < 0 := of_decide_eq_true d1
             obtain ⟨L, hL⟩ : ∃ L : List Int, L = 45 :: tl := ⟨_, rfl⟩
             have HE : Aside0 (R = strOfNums L) := ⟨by rw [HR.out, num, if_pos hn, ← HU.out.1, hD, hL]⟩
             have ks := slice24 w.heap.size b L (by rw [hL]; simpa using hbL) (by rw [hL]; simp)
             have kc := str24 (wr.setCell ⟨w.heap.size, b, none⟩ (.int .u8 45)) w.heap.size b (45 :: tl) L (by rw [hL]; simpa using hbL) hL (blk_put HC.out b _ (by have := cells_put a tl 45 (by have := HBV.out.1; omega); rwa [show a - 1 = b from by have := HBV.out.1; omega] at this))
             clear hn hL htl hD hbL
             go_wp2
             go_ret
             exact ⟨by rw [HE.out]; rfl, HB.out.setCell (Nat.le_refl _) _⟩)
          | (have hn : ¬ n < 0 := of_decide_eq_false d1
             have HE : Aside0 (R = strOfNums tl) := ⟨by rw [HR.out, num, if_neg hn, ← HU.out.1, hD]⟩
             have ks := slice24 w.heap.size a tl (by have := HBV.out.1; omega) htl
             have kc := str24 wr w.heap.size a tl tl (by have := HBV.out.1; omega) rfl HC.out
             clear hn htl hD hbL
             go_wp2
             go_ret
             exact ⟨by rw [HE.out]; rfl, HB.out⟩)
end Go.Proofs.YtfbjejkmjbknaaaDoor.Quad
