/- The contract of the reference's Text. -/
import Derived.Test.YtfhfldpdkmankaaDoorSixText
import Derived.Test.YtfhfldpdkmankaaDoorRefNum
namespace Go.Proofs.YtfhfldpdkmankaaDoor.Six
open Go Go.RowKit Go.Proofs.YtfhfldpdkmankaaDoorW.PrintWords Go.Proofs.YtfhfldpdkmankaaDoorW.PrintLast Go.Proofs.YtfhfldpdkmankaaDoorW.PrintMore Go.Proofs.YtfhfldpdkmankaaDoor.Dig Go.Proofs.YtfhfldpdkmankaaDoor.Quad Go.Proofs.YtfhfldpdkmankaaDoor.SixP
set_option linter.unusedVariables false
set_option linter.unusedSimpArgs false

theorem ref_num_callsU (n : Nat) (h : n < 256) (w : World) :
    Calls Tryd.prog 17 #[.int .i64 n] w fun e w' => e = .returned (.string ⟨(digU n).toArray⟩) ∧ w' = w := by
  have := ref_num_calls (n : Int) (by omega) (by omega) w
  rwa [numU_nat] at this
/-- Numbers, each with a comma behind. -/
def pre (l : List Nat) : List UInt8 := l.flatMap fun x => digU x ++ [44]
theorem pre_snoc (l : List Nat) (x : Nat) : pre (l ++ [x]) = pre l ++ digU x ++ [44] := by simp [pre]
theorem pre_len (l : List Nat) (h : ∀ x ∈ l, x < 256) : (pre l).length ≤ 4 * l.length := by
  induction l with
  | nil => exact Nat.le_refl _
  | cons x l ih =>
    have h1 : (digU x).length ≤ 3 := by rw [digU_len]; exact dig_len 2 x (by have := h x (List.mem_cons_self ..); omega)
    have h2 := ih fun y hy => h y (List.mem_cons_of_mem _ hy)
    have : pre (x :: l) = digU x ++ [44] ++ pre l := by simp [pre]
    rw [this]
    simp only [List.length_append, List.length_cons, List.length_nil]; omega
/-- An end in a block of the call's own. -/
def OneE (w W : World) (a b c d : Nat) (p : Int) : Prop :=
  Below w.heap.size w W ∧ W.heap[w.heap.size]? = some (.cells #[.int .u8 a, .int .u8 b, .int .u8 c, .int .u8 d, .int .i64 p] 25 (0, 0))
theorem OneE.start (w : World) (a b c d : Nat) (p : Int) : OneE w (w.alloc (.cells #[.int .u8 a, .int .u8 b, .int .u8 c, .int .u8 d, .int .i64 p] 25)) a b c d p := ⟨(Below.refl _ _).alloc (Nat.le_refl _) _, blk_new w _⟩
theorem OneE.drew {w W : World} {a b c d : Nat} {p : Int} (h : OneE w W a b c d p) : OneE w { W with drawn := W.drawn + 1 } a b c d p := ⟨h.1.drew, h.2⟩

set_option maxHeartbeats 2000000 in
set_option maxRecDepth 100000 in
theorem ref_text_calls (a b c d : Nat) (p : Int) (ha : a < 256) (hb : b < 256) (hc : c < 256) (hd : d < 256) (w : World) :
    Calls Tryd.prog 10 #[endV a b c d p] w fun e w' => e = .returned (textR a b c d p) ∧ Below w.heap.size w w' := by
  unfold endV
  by_cases h0 : p < 0
  · have h0' := decide_eq_true h0
    have HF := Aside0.mk (show textR a b c d p = .tuple #[str [], .bool false] from if_pos (.inl h0))
    clear h0
    go_enter Tryd.func10, Tryd.ntmps10
    go_wp2
    go_ret2
    exact ⟨by rw [HF.out]; rfl, (Below.refl _ _).alloc (Nat.le_refl _) _⟩
  · have h0' := decide_eq_false h0
    by_cases h1 : 65535 < p
    · have h1' := decide_eq_true h1
      have HF := Aside0.mk (show textR a b c d p = .tuple #[str [], .bool false] from if_pos (.inr h1))
      clear h0 h1
      go_enter Tryd.func10, Tryd.ntmps10
      go_wp2
      go_ret2
      exact ⟨by rw [HF.out]; rfl, (Below.refl _ _).alloc (Nat.le_refl _) _⟩
    · obtain ⟨n, rfl⟩ : ∃ n : Nat, p = n := ⟨p.toNat, by omega⟩
      have h1' := decide_eq_false h1
      have HF := Aside0.mk (show textR a b c d n = .tuple #[str (sixU a b c d n), .bool true] from by rw [textR, if_neg (by omega)]; rfl)
      obtain ⟨hi, hhi⟩ : ∃ hi : Nat, hi = n / 256 := ⟨_, rfl⟩
      obtain ⟨lo, hlo⟩ : ∃ lo : Nat, lo = n % 256 := ⟨_, rfl⟩
      have HN := Aside0.mk (show hi = n / 256 ∧ lo = n % 256 ∧ hi < 256 ∧ lo < 256 from by omega)
      obtain ⟨ds, hds⟩ : ∃ ds : List Nat, ds = [a, b, c, d] := ⟨_, rfl⟩
      have HDS := Aside0.mk hds
      have HALL := Aside0.mk (show ∀ x ∈ ds, x < 256 from by
        intro x hx; rw [hds] at hx
        simp only [List.mem_cons, List.not_mem_nil, or_false] at hx
        rcases hx with rfl | rfl | rfl | rfl <;> omega)
      have HO := Aside0.mk (OneE.start w a b c d n)
      clear h0 h1 hhi hlo hds ha hb hc hd
      go_enter Tryd.func10, Tryd.ntmps10
      go_wp2
      obtain ⟨W0, hW0⟩ : ∃ W0, W0 = w.alloc (.cells #[.int .u8 a, .int .u8 b, .int .u8 c, .int .u8 d, .int .i64 n] 25) := ⟨_, rfl⟩
      have HW := Aside0.mk (show OneE w W0 a b c d n from by rw [hW0]; exact HO.out)
      rw [← hW0]
      clear hW0 HO
      go_loop [4, 5] (fun o_ i_ => ∃ (k : Nat) (O : ByteArray), k ≤ 4 ∧ i_ = .int .i64 k ∧ o_ = .string O ∧ Aside0 (O.data.toList = pre (ds.take k))) (fun _ i_ => 4 - (intOf i_).toNat)
      case atStart => exact ⟨0, ⟨#[]⟩, Nat.zero_le _, rfl, rfl, ⟨rfl⟩⟩
      case round =>
        obtain ⟨k, O, hk, rfl, rfl, HOO⟩ := hrel
        have hOs : O.size ≤ 16 := by
          rw [← data_length, HOO.out]
          refine Nat.le_trans (pre_len _ fun x hx => HALL.out x (List.mem_of_mem_take hx)) ?_
          rw [List.length_take]; omega
        have h44 : (ByteArray.mk #[44]).size = 1 := rfl
        by_cases hlt : k < 4
        · have hkd : k < ds.length := by rw [HDS.out]; exact hlt
          obtain ⟨x, hx⟩ : ∃ x, x = ds[k] := ⟨_, rfl⟩
          have hx256 : x < 256 := HALL.out x (by rw [hx]; exact List.getElem_mem _)
          have hcell : W0.cell? ⟨w.heap.size, k, none⟩ = some (.int .u8 x) := by
            rw [blk_cell HW.out.2]
            have h3 : (ds.map fun n : Nat => Value.int .u8 (n : Int))[k]? = some (.int .u8 x) := by rw [List.getElem?_map, List.getElem?_eq_getElem hkd, ← hx]; rfl
            rw [HDS.out] at h3
            obtain rfl | rfl | rfl | rfl : k = 0 ∨ k = 1 ∨ k = 2 ∨ k = 3 := by omega
            all_goals exact h3
          have hcv : IntKind.i64.wrap (x : Int) = (x : Int) := by simp [IntKind.wrap, IntKind.bits, IntKind.signed]; omega
          obtain ⟨X, hX⟩ : ∃ X : ByteArray, X = ⟨(digU x).toArray⟩ := ⟨_, rfl⟩
          have hXs : X.size ≤ 3 := by rw [hX, ← data_length]; show (digU x).length ≤ 3; rw [digU_len]; exact dig_len 2 x (by omega)
          have HV := Aside0.mk (And.intro hx256 hX)
          have HNX := Aside0.mk (show ((O ++ X : ByteArray) ++ ⟨#[44]⟩).data.toList = pre (ds.take (k + 1)) from by
            rw [List.take_succ_eq_append_getElem hkd, pre_snoc, ← HOO.out, ← hx, hX]; simp)
          clear hx hx256 hkd hX
          go_wp2_with (go_at_call 17; refine (ref_num_callsU x HV.out.1 _).mono ?_; rw [← HV.out.2]; rintro e w1 ⟨rfl, hw⟩; obtain rfl := hw.symm)
          go_round
          case rel => exact ⟨k + 1, _, by omega, by go_num, rfl, HNX⟩
          case measure => simp [intOf]; omega
        · obtain rfl : k = 4 := by omega
          obtain ⟨X, hX⟩ : ∃ X : ByteArray, X = ⟨(digU hi).toArray⟩ := ⟨_, rfl⟩
          obtain ⟨Y, hY⟩ : ∃ Y : ByteArray, Y = ⟨(digU lo).toArray⟩ := ⟨_, rfl⟩
          have hXs : X.size ≤ 3 := by rw [hX, ← data_length]; show (digU hi).length ≤ 3; rw [digU_len]; exact dig_len 2 hi (by have := HN.out; omega)
          have hYs : Y.size ≤ 3 := by rw [hY, ← data_length]; show (digU lo).length ≤ 3; rw [digU_len]; exact dig_len 2 lo (by have := HN.out; omega)
          have HX := Aside0.mk (And.intro HN.out.2.2.1 hX)
          have HY := Aside0.mk (And.intro HN.out.2.2.2 hY)
          have HE := Aside0.mk (show ((O ++ X : ByteArray) ++ ⟨#[44]⟩ ++ Y).data.toList = sixU a b c d n from by
            have h5 : O.data.toList = pre [a, b, c, d] := by rw [HOO.out, HDS.out]; rfl
            rw [sixU, ← HN.out.1, ← HN.out.2.1]
            simp [h5, hX, hY, pre, Cut.jn])
          have hq1 : Int.tdiv (n : Int) 256 = (hi : Int) := by have := HN.out; rw [Int.tdiv_eq_ediv_of_nonneg (by omega)]; omega
          have hq2 : Int.tmod (n : Int) 256 = (lo : Int) := by have := HN.out; rw [Int.tmod_eq_emod_of_nonneg (by omega)]; omega
          have hv1 : IntKind.i64.wrap (hi : Int) = (hi : Int) := by have := HN.out; simp [IntKind.wrap, IntKind.bits, IntKind.signed]; omega
          have hv2 : IntKind.i64.wrap (lo : Int) = (lo : Int) := by have := HN.out; simp [IntKind.wrap, IntKind.bits, IntKind.signed]; omega
          clear hX hY
          go_wp2
          refine wp_region_quiet (C := fun W => OneE w W a b c d n) (by kernel_rfl) (by kernel_rfl) HW.out.drew ?_
          simp only []
          repeat
            refine wpQuiet_step (fun K hK => ?_)
            go_simp
            first
              | (refine hK _ ?_; clear hK K)
              | (apply Exists.intro
                 refine ⟨fun W hW => ?_, hK _ ?_⟩
                 (first
                  | (go_at_call 17; with_reducible refine (ref_num_callsU hi HX.out.1 _).mono ?_; rw [← HX.out.2]; rintro e w5 ⟨rfl, rfl⟩; exact ⟨rfl, hW⟩)
                  | (go_at_call 17; with_reducible refine (ref_num_callsU lo HY.out.1 _).mono ?_; rw [← HY.out.2]; rintro e w5 ⟨rfl, rfl⟩; exact ⟨rfl, hW⟩)
                  | ((try simp only [ByteArray.size_append, h44]); rw [if_neg (by omega)]; exact ⟨rfl, rfl⟩)
                  | (have q4 : W.cell? ⟨w.heap.size, 4, none⟩ = some (.int .i64 n) := (blk_cell hW.2 4).trans rfl; go_simp; rfl))
                 clear hK K)
          refine wpQuiet_nil ?_
          intro W hW
          go_wp2
          go_ret2
          refine ⟨?_, hW.1⟩
          rw [HF.out, str, ← HE.out]; rfl
end Go.Proofs.YtfhfldpdkmankaaDoor.Six
