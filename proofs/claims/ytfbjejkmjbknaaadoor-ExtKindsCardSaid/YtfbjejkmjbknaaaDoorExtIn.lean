/- The contract of the reference's inside. -/
import Derived.Test.YtfbjejkmjbknaaaDoorExtW
namespace Go.Proofs.YtfbjejkmjbknaaaDoor.Ext
open Go Go.RowKit Go.Proofs.YtfbjejkmjbknaaaDoorW.PrintWords Go.Proofs.YtfbjejkmjbknaaaDoorW.PrintLast Go.Proofs.YtfbjejkmjbknaaaDoorW.PrintMore Go.Proofs.YtfbjejkmjbknaaaDoor.Dig Go.Proofs.YtfbjejkmjbknaaaDoor.Quad Go.Proofs.YtfbjejkmjbknaaaDoor.ExtP Go.Proofs.YtfbjejkmjbknaaaDoor.SixP
set_option linter.unusedVariables false
set_option linter.unusedSimpArgs false

/-- The next byte, in a text that has none so far. -/
theorem not_next {b : UInt8} {l : List UInt8} {f k : Nat} (h : b ∉ (l.take k).drop f) (hf : f ≤ k) (hk : k < l.length) (hb : l[k] ≠ b) : b ∉ (l.take (k + 1)).drop f := by
  rw [List.take_succ_eq_append_getElem hk, List.drop_append_of_le_length (by rw [List.length_take]; omega), List.mem_append, List.mem_singleton]
  exact fun e => e.elim h (fun e => hb e.symm)
/-- What stands between the first brackets. -/
def between (l : List UInt8) : Option (List UInt8) := (cut1 40 l).bind fun x => (cut1 41 x.2).map fun y => y.1
def insideR (o : Option (List UInt8)) : Value := match o with
  | some m => .tuple #[str m, .bool true]
  | none => .tuple #[str [], .bool false]
theorem findE_between (l : List UInt8) : findE l = (between l).bind inner := by
  unfold findE between
  cases cut1 40 l with
  | none => rfl
  | some x => simp only [Option.bind_some]; cases cut1 41 x.2 <;> rfl

set_option maxHeartbeats 2000000 in
set_option maxRecDepth 100000 in
theorem inside_calls (s : ByteArray) (hs : s.size ≤ 1000000) (w : World) :
    Calls Tryd.prog 34 #[.string s] w fun e w' => e = .returned (insideR (between s.data.toList)) ∧ w' = w := by
  have HS := Aside0.mk hs
  have HL := Aside0.mk (data_length s)
  clear hs
  go_enter Tryd.func34, Tryd.ntmps34
  go_wp2
  go_loop [4] (fun i_ => ∃ k : Nat, k ≤ s.size ∧ i_ = .int .i64 k ∧ Aside0 (40 ∉ (s.data.toList.take k).drop 0)) (fun i_ => s.size - (intOf i_).toNat)
  case atStart => exact ⟨0, Nat.zero_le _, rfl, ⟨by simp⟩⟩
  case round =>
    obtain ⟨k, hk, rfl, HA⟩ := hrel
    by_cases hlt : k < s.size
    · have hk6 : k < 1000000 := by have := HS.out; omega
      have hk' : k < s.data.toList.length := by rw [HL.out]; exact hlt
      obtain ⟨c, hc⟩ : ∃ c, c = s.data.toList[k] := ⟨_, rfl⟩
      obtain ⟨x, hx⟩ : ∃ x : Nat, x = c.toNat := ⟨_, rfl⟩
      have hckc : ∀ h : k < s.size, ((s[k]'h).toNat : Int) = (x : Int) := fun h => by rw [hx, hc, ← bt_byte s k hk']; exact bt_at s k h
      by_cases h40 : c = 40
      · have hcmp : ((x : Int) == 40) = true := by rw [hx, h40]; rfl
        have hsplit : s.data.toList = s.data.toList.take k ++ 40 :: s.data.toList.drop (k + 1) := by
          conv => lhs; rw [← List.take_append_drop k s.data.toList]
          rw [List.drop_eq_getElem_cons hk', ← hc, h40]
        have HC1 := Aside0.mk (show cut1 40 s.data.toList = some (s.data.toList.take k, s.data.toList.drop (k + 1)) from by
          conv => lhs; rw [hsplit]
          exact cut1_some _ (by have := HA.out; rwa [List.drop_zero] at this))
        clear hc hx h40 hk' hsplit
        go_wp2
        go_loop [5] (fun j_ => ∃ j : Nat, k + 1 ≤ j ∧ j ≤ s.size ∧ j_ = .int .i64 j ∧ Aside0 (41 ∉ (s.data.toList.take j).drop (k + 1))) (fun j_ => s.size - (intOf j_).toNat)
        case atStart => exact ⟨k + 1, Nat.le_refl _, by omega, by go_num, ⟨by simp⟩⟩
        case round =>
          obtain ⟨j, hkj, hj, rfl, HA2⟩ := hrel
          clear hcmp hckc
          by_cases hltj : j < s.size
          · have hj6 : j < 1000000 := by have := HS.out; omega
            have hj' : j < s.data.toList.length := by rw [HL.out]; exact hltj
            obtain ⟨c, hc⟩ : ∃ c, c = s.data.toList[j] := ⟨_, rfl⟩
            obtain ⟨x, hx⟩ : ∃ x : Nat, x = c.toNat := ⟨_, rfl⟩
            have hckc : ∀ h : j < s.size, ((s[j]'h).toNat : Int) = (x : Int) := fun h => by rw [hx, hc, ← bt_byte s j hj']; exact bt_at s j h
            by_cases h41 : c = 41
            · have hcmp : ((x : Int) == 41) = true := by rw [hx, h41]; rfl
              obtain ⟨m, hm⟩ : ∃ m, m = (s.data.toList.take j).drop (k + 1) := ⟨_, rfl⟩
              have hsplit : s.data.toList.drop (k + 1) = m ++ 41 :: s.data.toList.drop (j + 1) := by
                rw [take_split s.data.toList j (k + 1) hkj (by omega), ← hm, List.drop_eq_getElem_cons hj', ← hc, h41]
              have hc2 : cut1 41 (s.data.toList.drop (k + 1)) = some (m, s.data.toList.drop (j + 1)) := by
                rw [hsplit]; exact cut1_some _ (by rw [hm]; exact HA2.out)
              have hmr : between s.data.toList = some m := by
                rw [between, HC1.out]; show (cut1 41 (s.data.toList.drop (k + 1))).map _ = _; rw [hc2]; rfl
              obtain ⟨M, hM⟩ : ∃ M : ByteArray, M = ⟨m.toArray⟩ := ⟨_, rfl⟩
              have hsl : ∀ W, (Instr.slice 9 (.string s) (some (.int .i64 ((k : Int) + 1))) (some (.int .i64 j)) none).run Tryd.prog W = .ok (.string M) W := fun W => by rw [hM, hm]; exact slice_fk s (k + 1) j hkj (by omega) W
              have HF := Aside0.mk (show insideR (between s.data.toList) = .tuple #[.string M, .bool true] from by rw [hmr, hM]; rfl)
              clear hc hx h41 hj' hsplit hc2 hmr hM hm
              go_wp2
              go_ret2
              exact ⟨by rw [HF.out]; rfl, rfl⟩
            · have hcmp : ((x : Int) == 41) = false := by
                refine beq_eq_false_iff_ne.2 fun e => h41 (UInt8.toNat_inj.1 ?_)
                rw [← hx]; have e2 : (41 : UInt8).toNat = 41 := rfl
                omega
              have HA3 := Aside0.mk (not_next HA2.out hkj hj' (by rw [← hc]; exact h41))
              clear hc hx h41 hj'
              go_wp2
              go_round
              case rel => exact ⟨j + 1, by omega, by omega, by go_num, HA3⟩
              case measure => simp [intOf]; omega
          · obtain rfl : j = s.size := by omega
            have HF := Aside0.mk (show insideR (between s.data.toList) = .tuple #[str [], .bool false] from by
              rw [between, HC1.out]
              show insideR ((cut1 41 (s.data.toList.drop (k + 1))).map _) = _
              have := HA2.out
              rw [List.take_of_length_le (by rw [HL.out]; exact Nat.le_refl _)] at this
              rw [cut1_none this]; rfl)
            go_wp2
            go_ret2
            exact ⟨by rw [HF.out]; rfl, rfl⟩
      · have hcmp : ((x : Int) == 40) = false := by
          refine beq_eq_false_iff_ne.2 fun e => h40 (UInt8.toNat_inj.1 ?_)
          rw [← hx]; have e2 : (40 : UInt8).toNat = 40 := rfl
          omega
        have HA3 := Aside0.mk (not_next HA.out (Nat.zero_le _) hk' (by rw [← hc]; exact h40))
        clear hc hx h40 hk'
        go_wp2
        go_round
        case rel => exact ⟨k + 1, by omega, by go_num, HA3⟩
        case measure => simp [intOf]; omega
    · obtain rfl : k = s.size := by omega
      have HF := Aside0.mk (show insideR (between s.data.toList) = .tuple #[str [], .bool false] from by
        have := HA.out
        rw [List.drop_zero, List.take_of_length_le (by rw [HL.out]; exact Nat.le_refl _)] at this
        rw [between, cut1_none this]; rfl)
      go_wp2
      go_ret2
      exact ⟨by rw [HF.out]; rfl, rfl⟩
end Go.Proofs.YtfbjejkmjbknaaaDoor.Ext
