/- The walk of ExtKinds. -/
import Derived.Test.YtfbjejkmjbknaaaDoorExtFew
namespace Go.Proofs.YtfbjejkmjbknaaaDoor.Ext
open Go Go.RowKit Go.Proofs.YtfbjejkmjbknaaaDoorW.PrintWords Go.Proofs.YtfbjejkmjbknaaaDoorW.PrintLast Go.Proofs.YtfbjejkmjbknaaaDoorW.PrintMore Go.Proofs.YtfbjejkmjbknaaaDoor.Dig Go.Proofs.YtfbjejkmjbknaaaDoor.Quad Go.Proofs.YtfbjejkmjbknaaaDoor.ExtP Go.Proofs.YtfbjejkmjbknaaaDoor.SixP
set_option linter.unusedVariables false
set_option linter.unusedSimpArgs false

theorem conv1 (w : World) (k : UInt8) (x : Nat) (hx : x = k.toNat) : (convert 39 9 (.slice (some ⟨w.heap.size, 0, none⟩) 1 1)).run Tryd.prog (w.alloc (.cells #[.int .u8 (x : Int)] 5)) = .ok (.string ⟨#[k]⟩) (w.alloc (.cells #[.int .u8 (x : Int)] 5)) := by
  have h := string_of_reads (w := w.alloc (.cells #[.int .u8 (x : Int)] 5)) (c := 1) Tryd.underlying39 Tryd.underlying5 Tryd.underlying9 (A := some ⟨w.heap.size, 0, none⟩) (n := 1) (xs := [(x : Int)]) ⟨rfl, by omega, fun h0 => ⟨_, rfl, fun j hj => ?_⟩⟩
  · rw [h]
    have : strOfNums [(x : Int)] = ⟨#[k]⟩ := by
      apply ByteArray.ext; apply Array.ext'
      rw [strOfNums_data]
      simp [hx]
    rw [this]
  · obtain rfl : j = 0 := by simpa using hj
    rw [show (⟨w.heap.size, 0, none⟩ : Addr).add 0 = ⟨w.heap.size, 0, none⟩ from rfl, blk_cell (blk_new w _)]
    rfl
theorem no_next {l : List UInt8} {c : UInt8} {k : Nat} (h : c ∉ l.take k) (hk : k < l.length) (hc : l[k] ≠ c) : c ∉ l.take (k + 1) := by
  rw [List.take_succ_eq_append_getElem hk, List.mem_append, List.mem_singleton]
  exact fun e => e.elim h (fun e => hc e.symm)

set_option maxHeartbeats 4000000 in
set_option maxRecDepth 100000 in
theorem kinds_walk (k : UInt8) (s : ByteArray) (w : World) (hm : Met w) :
    Calls Tryd.prog 7 #[.int .u8 (k.toNat : Int), .string s] w fun e w' => e = .returned (.bool true) ∧ Below w.heap.size w w' := by
  have HM := Aside0.mk hm
  have HB := Aside0.mk (Below.refl w.heap.size w)
  clear hm
  obtain ⟨x, hx⟩ : ∃ x, x = k.toNat := ⟨_, rfl⟩
  rw [← hx]
  have HX := Aside0.mk hx
  by_cases hs : 60 < (s.size : Int)
  · have hs' := decide_eq_true hs
    clear hs hx
    go_enter Tryd.func7, Tryd.ntmps7
    go_wp2_with (first
      | (go_at_call 8; with_reducible refine (awake_calls _ (HM.out.below HB.out)).mono ?_; rintro e v1 ⟨rfl, hb⟩; replace HB := Aside0.mk (HB.out.trans (hb.mono HB.out.size)); clear hb; have tok1 := trivial))
    go_ret
    exact ⟨rfl, HB.out⟩
  · have hs' := decide_eq_false hs
    have hs6 : s.size ≤ 60 := by omega
    by_cases hk : k = 124
    · have hk' : ((x : Int) == 124) = true := by rw [hx, hk]; rfl
      clear hs hx hk
      go_enter Tryd.func7, Tryd.ntmps7
      go_wp2_with (first
        | (go_at_call 8; with_reducible refine (awake_calls _ (HM.out.below HB.out)).mono ?_; rintro e v1 ⟨rfl, hb⟩; replace HB := Aside0.mk (HB.out.trans (hb.mono HB.out.size)); clear hb; have tok1 := trivial))
      go_ret
      exact ⟨rfl, HB.out⟩
    · have hk' : ((x : Int) == 124) = false := by
        refine beq_eq_false_iff_ne.2 fun e => hk (UInt8.toNat_inj.1 ?_)
        rw [← hx]; have e2 : (124 : UInt8).toNat = 124 := rfl
        omega
      have HK := Aside0.mk hk
      have HL := Aside0.mk (data_length s)
      clear hs hx hk
      go_enter Tryd.func7, Tryd.ntmps7
      go_wp2_with (first
        | (go_at_call 8; with_reducible refine (awake_calls _ (HM.out.below HB.out)).mono ?_; rintro e v1 ⟨rfl, hb⟩; replace HB := Aside0.mk (HB.out.trans (hb.mono HB.out.size)); clear hb; have tok1 := trivial))
      go_loop [6] (fun i_ => ∃ j : Nat, j ≤ s.size ∧ i_ = .int .i64 j ∧ Aside0 (124 ∉ s.data.toList.take j)) (fun i_ => s.size - (intOf i_).toNat)
      case atStart => exact ⟨0, Nat.zero_le _, rfl, ⟨by simp⟩⟩
      case round =>
        obtain ⟨j, hj, rfl, HA⟩ := hrel
        by_cases hlt : j < s.size
        · have hj' : j < s.data.toList.length := by rw [HL.out]; exact hlt
          obtain ⟨c, hc⟩ : ∃ c, c = s.data.toList[j] := ⟨_, rfl⟩
          obtain ⟨y, hy⟩ : ∃ y : Nat, y = c.toNat := ⟨_, rfl⟩
          have hckc : ∀ h : j < s.size, ((s[j]'h).toNat : Int) = (y : Int) := fun h => by rw [hy, hc, ← bt_byte s j hj']; exact bt_at s j h
          by_cases h24 : c = 124
          · have hcmp : ((y : Int) == 124) = true := by rw [hy, h24]; rfl
            clear hc hy h24 hj'
            go_wp2
            go_ret
            exact ⟨rfl, HB.out⟩
          · have hcmp : ((y : Int) == 124) = false := by
              refine beq_eq_false_iff_ne.2 fun e => h24 (UInt8.toNat_inj.1 ?_)
              rw [← hy]; have e2 : (124 : UInt8).toNat = 124 := rfl
              omega
            have HA3 := Aside0.mk (no_next HA.out hj' (by rw [← hc]; exact h24))
            clear hc hy h24 hj'
            go_wp2
            go_round
            case rel => exact ⟨j + 1, by omega, by go_num, HA3⟩
            case measure => simp [intOf]; omega
        · obtain rfl : j = s.size := by omega
          have HN := Aside0.mk (show 124 ∉ s.data.toList from by have := HA.out; rwa [List.take_of_length_le (by rw [HL.out]; exact Nat.le_refl _)] at this)
          have hcv := fun w => conv1 w k x HX.out
          have hq := eq_zero
          have z1 : (ByteArray.mk #[124]).size = 1 := rfl
          have z2 : (ByteArray.mk #[k]).size = 1 := rfl
          have z3 : (ByteArray.mk #[124, 56, 48, 124]).size = 4 := rfl
          obtain ⟨T, hT⟩ : ∃ T : ByteArray, T = ⟨#[124]⟩ ++ ⟨#[k]⟩ ++ ⟨#[124]⟩ ++ s ++ ⟨#[124, 56, 48, 124]⟩ := ⟨_, rfl⟩
          have hTl : T.data.toList = 124 :: k :: 124 :: (s.data.toList ++ 124 :: [56, 48, 124]) := by rw [hT]; simp
          have hTs : T.size ≤ 1000000 := by rw [hT]; simp only [ByteArray.size_append, z1, z2, z3]; omega
          have hrk := read_kinds k HK.out s.data.toList HN.out
          rw [← hTl] at hrk
          by_cases h1 : 50 ≤ (x : Int)
          · have h1' := decide_eq_true h1
            by_cases h2 : (x : Int) ≤ 57
            · have h2' := decide_eq_true h2
              have HR := Aside0.mk (show EndIs T 0 0 0 0 0 8 from ⟨hTs, by rw [hrk.1 (by have := HX.out; omega)]; rfl⟩)
              rw [hT] at HR
              clear hT hTl hTs hrk h1 h2
              go_wp2_with (go_at_call 11; with_reducible refine (HR.out.zcalls (HM.out.below (HB.out.alloc HB.out.size _))).mono ?_; rintro e v9 ⟨rfl, hb⟩; have HB9 := Aside0.mk ((HB.out.alloc HB.out.size _).trans (hb.mono (HB.out.alloc HB.out.size _).size)); clear hb)
              go_ret
              exact ⟨rfl, (HB9.out.alloc HB9.out.size _)⟩
            · have h2' := decide_eq_false h2
              have HR := Aside0.mk (show EndIs T 0 0 0 0 0 2 from ⟨hTs, by rw [hrk.2 (by have := HX.out; omega)]; rfl⟩)
              rw [hT] at HR
              have h49 : ((x : Int) == 49) = false := beq_eq_false_iff_ne.2 (by omega)
              clear hT hTl hTs hrk h1 h2
              go_wp2_with (go_at_call 11; with_reducible refine (HR.out.zcalls (HM.out.below (HB.out.alloc HB.out.size _))).mono ?_; rintro e v9 ⟨rfl, hb⟩; have HB9 := Aside0.mk ((HB.out.alloc HB.out.size _).trans (hb.mono (HB.out.alloc HB.out.size _).size)); clear hb)
              go_ret
              exact ⟨rfl, (HB9.out.alloc HB9.out.size _)⟩
          · have h1' := decide_eq_false h1
            by_cases h49 : (x : Int) = 49
            · have h49' : ((x : Int) == 49) = true := by rw [h49]; rfl
              obtain ⟨x0, x1, x2, x3, x4, xn, hxx⟩ : ∃ a b c d p x, EndIs T a b c d p x := by
                rcases end_goes T hTs with ⟨a, b, c, d, p, _, h1⟩ | ⟨_, h1⟩ | ⟨_, h1⟩
                · exact ⟨_, _, _, _, _, _, h1⟩
                · exact ⟨_, _, _, _, _, _, h1⟩
                · exact ⟨_, _, _, _, _, _, h1⟩
              have HR := Aside0.mk hxx
              rw [hT] at HR
              clear hT hTl hTs hrk h1 h49 hxx
              go_wp2_with (go_at_call 11; with_reducible refine (HR.out.calls (HM.out.below (HB.out.alloc HB.out.size _))).mono ?_; rintro e v9 ⟨rfl, hb⟩; have HB9 := Aside0.mk ((HB.out.alloc HB.out.size _).trans (hb.mono (HB.out.alloc HB.out.size _).size)); clear hb)
              go_ret
              exact ⟨rfl, (HB9.out.alloc HB9.out.size _)⟩
            · have h49' : ((x : Int) == 49) = false := beq_eq_false_iff_ne.2 h49
              have HR := Aside0.mk (show EndIs T 0 0 0 0 0 2 from ⟨hTs, by rw [hrk.2 (by have := HX.out; omega)]; rfl⟩)
              rw [hT] at HR
              clear hT hTl hTs hrk h1 h49
              go_wp2_with (go_at_call 11; with_reducible refine (HR.out.zcalls (HM.out.below (HB.out.alloc HB.out.size _))).mono ?_; rintro e v9 ⟨rfl, hb⟩; have HB9 := Aside0.mk ((HB.out.alloc HB.out.size _).trans (hb.mono (HB.out.alloc HB.out.size _).size)); clear hb)
              go_ret
              exact ⟨rfl, (HB9.out.alloc HB9.out.size _)⟩
end Go.Proofs.YtfbjejkmjbknaaaDoor.Ext
