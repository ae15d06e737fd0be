/- The contracts of ext.Text and of the reference's Text. -/
import Derived.Test.YtfbjejkmjbknaaaDoorExtText
import Derived.Deep.RegionWith
import Derived.BigQuiet
namespace Go.Proofs.YtfbjejkmjbknaaaDoor.Ext
open Go Go.RowKit Go.Proofs.YtfbjejkmjbknaaaDoorW.PrintWords Go.Proofs.YtfbjejkmjbknaaaDoorW.PrintLast Go.Proofs.YtfbjejkmjbknaaaDoorW.PrintMore Go.Proofs.YtfbjejkmjbknaaaDoor.Dig Go.Proofs.YtfbjejkmjbknaaaDoor.Quad Go.Proofs.YtfbjejkmjbknaaaDoor.ExtP
set_option linter.unusedVariables false
set_option linter.unusedSimpArgs false

/-- An end in a block of the call's own. -/
def OneE (w W : World) (a b c d : Nat) (p : Int) : Prop :=
  Below w.heap.size w W ∧ W.heap[w.heap.size]? = some (.cells #[.int .u8 a, .int .u8 b, .int .u8 c, .int .u8 d, .int .i64 p] 25 (0, 0))
theorem OneE.start (w : World) (a b c d : Nat) (p : Int) : OneE w (w.alloc (.cells #[.int .u8 a, .int .u8 b, .int .u8 c, .int .u8 d, .int .i64 p] 25)) a b c d p := ⟨(Below.refl _ _).alloc (Nat.le_refl _) _, blk_new w _⟩
theorem OneE.drew {w W : World} {a b c d : Nat} {p : Int} (h : OneE w W a b c d p) : OneE w { W with drawn := W.drawn + 1 } a b c d p := ⟨h.1.drew, h.2⟩
theorem OneE.below {w W W' : World} {a b c d : Nat} {p : Int} (h : OneE w W a b c d p) (hb : Below W.heap.size W W') : OneE w W' a b c d p := ⟨h.1.trans (hb.mono h.1.size), blk_below h.2 hb⟩
theorem OneE.cells {w W : World} {a b c d : Nat} {p : Int} (h : OneE w W a b c d p) : W.cell? ⟨w.heap.size, 0, none⟩ = some (.int .u8 a) ∧ W.cell? ⟨w.heap.size, 1, none⟩ = some (.int .u8 b) ∧ W.cell? ⟨w.heap.size, 2, none⟩ = some (.int .u8 c) ∧ W.cell? ⟨w.heap.size, 3, none⟩ = some (.int .u8 d) ∧ W.cell? ⟨w.heap.size, 4, none⟩ = some (.int .i64 p) :=
  ⟨(blk_cell h.2 0).trans rfl, (blk_cell h.2 1).trans rfl, (blk_cell h.2 2).trans rfl, (blk_cell h.2 3).trans rfl, (blk_cell h.2 4).trans rfl⟩

set_option maxHeartbeats 2000000 in
set_option maxRecDepth 100000 in
theorem text_calls (a b c d : Nat) (p : Int) (ha : a < 256) (hb : b < 256) (hc : c < 256) (hd : d < 256) (w : World) :
    Calls Tryd.prog 9 #[endV a b c d p] w fun e w' => e = .returned (textR a b c d p) ∧ Below w.heap.size w w' := by
  unfold endV
  have HO := Aside0.mk (OneE.start w a b c d p)
  by_cases h : 0 < p ∧ p ≤ 65535
  · obtain ⟨n, rfl⟩ : ∃ n : Nat, p = n := ⟨p.toNat, by omega⟩
    have hp0 : 0 < n := by omega
    have hp1 := decide_eq_true h.1
    have hp2 := decide_eq_true h.2
    have HN := Aside0.mk (show n ≤ 65535 from by omega)
    have HABCD := Aside0.mk (And.intro ha (And.intro hb (And.intro hc hd)))
    obtain ⟨H, hH⟩ : ∃ H : ByteArray, H = ⟨(hostU a b c d).toArray⟩ := ⟨_, rfl⟩
    obtain ⟨N, hN⟩ : ∃ N : ByteArray, N = ⟨(digU n).toArray⟩ := ⟨_, rfl⟩
    have HE := Aside0.mk (show textR a b c d n = .tuple #[str (endU a b c d n), .bool true] from if_pos h)
    have HV := Aside0.mk (And.intro hH hN)
    have HT := Aside0.mk (show tot ([[], [49], hostU a b c d, digU n, []] : List (List UInt8)) ≤ 100000000 ∧ Cut.jn 124 [[], [49], hostU a b c d, digU n, []] = endU a b c d n ∧ (#[.string ⟨#[]⟩, .string ⟨#[49]⟩, .string H, .string N, .string ⟨#[]⟩] : Array Value) = ([[], [49], hostU a b c d, digU n, []].map str).toArray from by
      have h1 := host_short (And.intro ha (And.intro hb (And.intro hc hd))); have h2 := dig_short (show n ≤ 65535 from by omega)
      refine ⟨by simp only [tot, List.length_nil, List.length_cons]; omega, by simp [Cut.jn, endU], by rw [hH, hN]; rfl⟩)
    clear h hH hN ha hb hc hd
    go_enter Tryd.func9, Tryd.ntmps9
    go_wp2
    obtain ⟨W0, hW0⟩ : ∃ W0, W0 = w.alloc (.cells #[.int .u8 a, .int .u8 b, .int .u8 c, .int .u8 d, .int .i64 n] 25) := ⟨_, rfl⟩
    have HW := Aside0.mk (show OneE w W0 a b c d n from by rw [hW0]; exact HO.out)
    rw [← hW0]
    clear hW0 HO
    obtain ⟨q0, q1, q2, q3, q4⟩ := HW.out.cells
    clear hp0 hp1 hp2
    go_region_with (first
      | (go_at_call 19
         with_reducible refine (Quad.text_calls a b c d HABCD.out.1 HABCD.out.2.1 HABCD.out.2.2.1 HABCD.out.2.2.2 _).mono ?_
         rw [← HV.out.1]
         rintro e w5 ⟨rfl, hb5⟩
         have HW5 := Aside0.mk (HW.out.drew.below hb5)
         clear hb5
         obtain ⟨r0, r1, r2, r3, r4⟩ := HW5.out.cells)
      | (go_at_call 20
         with_reducible refine (num_callsP n HN.out _).mono ?_
         rw [← HV.out.2]
         rintro e w6 ⟨rfl, hb6⟩
         have HW6 := Aside0.mk (HW5.out.below hb6)
         clear hb6)
      | (go_at_call 18
         have HL := Row.Lies.whole w6 0 9 9 ([[], [49], hostU a b c d, digU n, []].map str)
         rw [← HT.out.2.2] at HL
         refine (join_lies 124 _ _ 0 _ HL HT.out.1).mono ?_
         rw [HT.out.2.1]
         rintro e w7 ⟨rfl, hb7⟩
         have HB7 := Aside0.mk ((HW6.out.1.alloc HW6.out.1.size _).trans (hb7.mono (HW6.out.1.alloc HW6.out.1.size _).size))
         clear hb7))
    all_goals
      go_wp2
      go_ret2
      exact ⟨by rw [HE.out]; rfl, HB7.out⟩
  · have HE := Aside0.mk (show textR a b c d p = .tuple #[str [], .bool false] from if_neg h)
    have HP := Aside0.mk (decide_eq_false h)
    clear h ha hb hc hd
    go_enter Tryd.func9, Tryd.ntmps9
    go_wp2_with (go_at_call 17; refine (port_calls _ _).mono ?_; rintro e w1 ⟨rfl, hw⟩; obtain rfl := hw.symm; rw [HP.out])
    go_ret2
    exact ⟨by rw [HE.out]; rfl, HO.out.1⟩

set_option maxHeartbeats 2000000 in
set_option maxRecDepth 100000 in
theorem ref_text_calls (a b c d : Nat) (p : Int) (ha : a < 256) (hb : b < 256) (hc : c < 256) (hd : d < 256) (w : World) :
    Calls Tryd.prog 10 #[endV a b c d p] w fun e w' => e = .returned (textR a b c d p) ∧ Below w.heap.size w w' := by
  unfold endV
  have HO := Aside0.mk (OneE.start w a b c d p)
  by_cases h1 : p < 1
  · have h1' := decide_eq_true h1
    have HE := Aside0.mk (show textR a b c d p = .tuple #[str [], .bool false] from if_neg (by omega))
    clear h1
    go_enter Tryd.func10, Tryd.ntmps10
    go_wp2
    go_ret2
    exact ⟨by rw [HE.out]; rfl, HO.out.1⟩
  · have h1' := decide_eq_false h1
    by_cases h2 : 65535 < p
    · have h2' := decide_eq_true h2
      have HE := Aside0.mk (show textR a b c d p = .tuple #[str [], .bool false] from if_neg (by omega))
      clear h1 h2
      go_enter Tryd.func10, Tryd.ntmps10
      go_wp2
      go_ret2
      exact ⟨by rw [HE.out]; rfl, HO.out.1⟩
    · have h2' := decide_eq_false h2
      obtain ⟨n, rfl⟩ : ∃ n : Nat, p = n := ⟨p.toNat, by omega⟩
      have HN := Aside0.mk (show n ≤ 65535 from by omega)
      have HABCD := Aside0.mk (And.intro ha (And.intro hb (And.intro hc hd)))
      obtain ⟨H, hH⟩ : ∃ H : ByteArray, H = ⟨(hostU a b c d).toArray⟩ := ⟨_, rfl⟩
      obtain ⟨N, hN⟩ : ∃ N : ByteArray, N = ⟨(digU n).toArray⟩ := ⟨_, rfl⟩
      have hHs : H.size ≤ 15 := by rw [hH, ← data_length]; exact host_short ⟨ha, hb, hc, hd⟩
      have hNs : N.size ≤ 5 := by rw [hN, ← data_length]; exact dig_short HN.out
      have e1 : (ByteArray.mk #[124, 49, 124]).size = 3 := rfl
      have e2 : (ByteArray.mk #[124]).size = 1 := rfl
      have HE := Aside0.mk (show textR a b c d n = .tuple #[.string (⟨#[124, 49, 124]⟩ ++ H ++ ⟨#[124]⟩ ++ N ++ ⟨#[124]⟩), .bool true] from by
        rw [textR, if_pos (by omega), hH, hN]
        have : (str (endU a b c d n)) = .string (⟨#[124, 49, 124]⟩ ++ (⟨(hostU a b c d).toArray⟩ : ByteArray) ++ ⟨#[124]⟩ ++ (⟨(digU n).toArray⟩ : ByteArray) ++ ⟨#[124]⟩) := by
          refine congrArg Value.string ?_; apply ByteArray.ext; apply Array.ext'; simp [endU, Cut.jn]
        rw [← this]; rfl)
      have HV := Aside0.mk (And.intro hH hN)
      clear h1 h2 hH hN ha hb hc hd
      go_enter Tryd.func10, Tryd.ntmps10
      go_wp2
      refine wp_region_quiet (C := fun W => OneE w W a b c d n) (by kernel_rfl) (by kernel_rfl) HO.out.drew ?_
      simp only []
      repeat
        refine wpQuiet_step (fun K hK => ?_)
        go_simp
        first
          | (refine hK _ ?_; clear hK K)
          | (apply Exists.intro
             refine ⟨fun W hW => ?_, hK _ ?_⟩
             (first
              | (go_at_call 21; with_reducible refine (Quad.ref_text_calls a b c d HABCD.out.1 HABCD.out.2.1 HABCD.out.2.2.1 HABCD.out.2.2.2 _).mono ?_; rw [← HV.out.1]; rintro e w5 ⟨rfl, hb5⟩; exact ⟨rfl, hW.below hb5⟩)
              | (go_at_call 22; with_reducible refine (ref_num_callsP n HN.out _).mono ?_; rw [← HV.out.2]; rintro e w5 ⟨rfl, rfl⟩; exact ⟨rfl, hW⟩)
              | ((try simp only [ByteArray.size_append, e1, e2]); rw [if_neg (by omega)]; exact ⟨rfl, rfl⟩)
              | (obtain ⟨q0, q1, q2, q3, q4⟩ := hW.cells; go_simp; rfl))
             clear hK K)
      refine wpQuiet_nil ?_
      intro W hW
      go_wp2
      go_ret2
      exact ⟨by rw [HE.out]; rfl, hW.1⟩
end Go.Proofs.YtfbjejkmjbknaaaDoor.Ext
