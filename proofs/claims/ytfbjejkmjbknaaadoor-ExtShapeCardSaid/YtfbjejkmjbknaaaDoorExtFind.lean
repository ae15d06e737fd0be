/- The contract of ext.Find. -/
import Derived.Test.YtfbjejkmjbknaaaDoorExtFindP
import Derived.WalkSmall
namespace Go.Proofs.YtfbjejkmjbknaaaDoor.Ext
open Go Go.RowKit Go.Proofs.YtfbjejkmjbknaaaDoorW.PrintWords Go.Proofs.YtfbjejkmjbknaaaDoorW.PrintLast Go.Proofs.YtfbjejkmjbknaaaDoorW.PrintMore Go.Proofs.YtfbjejkmjbknaaaDoor.Dig Go.Proofs.YtfbjejkmjbknaaaDoor.Quad Go.Proofs.YtfbjejkmjbknaaaDoor.ExtP Go.Proofs.YtfbjejkmjbknaaaDoor.SixP
set_option linter.unusedVariables false
set_option linter.unusedSimpArgs false

/-- strings.Cut by one byte, as it is met. -/
theorem cut_calls (c : UInt8) (s x y : ByteArray) (t : Bool) (hs : s.size < 4294967281) (h : Lib.cut s.data.toList [c] = (x.data.toList, y.data.toList, t)) (w0 w : World) (hm : Mx w0) (hb : Below w0.heap.size w0 w) :
    Calls Tryd.prog 29 #[.string s, .string ⟨#[c]⟩] w fun e w' => e = .returned (.tuple #[.string x, .string y, .bool t]) ∧ Below w.heap.size w w' := by
  obtain ⟨m, hm⟩ := hm.below hb
  refine (Tryd.strings_Cut s ⟨#[c]⟩ m w hs hm).mono ?_
  rintro e w' ⟨he, n, rfl⟩
  rw [show (ByteArray.mk #[c]).data.toList = [c] from rfl, h] at he
  exact ⟨he, below_drewN (Below.refl _ _) n⟩
def CutIs (c : UInt8) (s x y : ByteArray) (t : Bool) : Prop := s.size < 4294967281 ∧ Lib.cut s.data.toList [c] = (x.data.toList, y.data.toList, t)
theorem CutIs.calls {c : UInt8} {s x y : ByteArray} {t : Bool} (h : CutIs c s x y t) {w0 w : World} (hm : Mx w0) (hb : Below w0.heap.size w0 w) :
    Calls Tryd.prog 29 #[.string s, .string ⟨#[c]⟩] w fun e w' => e = .returned (.tuple #[.string x, .string y, .bool t]) ∧ Below w.heap.size w w' := cut_calls c s x y t h.1 h.2 w0 w hm hb
theorem slice_1 (s : ByteArray) (X : ByteArray) (hs : 1 ≤ s.size) (hX : X.data.toList = s.data.toList.take 1) (W : World) : (Instr.slice 9 (.string s) none (some (.int .i64 1)) none).run Tryd.prog W = .ok (.string X) W := by
  rw [run_slice_string_to_if W 9 s .i64 1 Tryd.underlying9, if_pos (by omega)]
  rw [show (1 : Int).toNat = 1 from rfl, piece_of s 0 1 hs, List.drop_zero, ← hX]

set_option maxHeartbeats 2000000 in
set_option maxRecDepth 100000 in
theorem find_calls (s : ByteArray) (hs : s.size ≤ 1000000) (w : World) (hm : Mx w) :
    Calls Tryd.prog 15 #[.string s] w fun e w' => e = .returned (findR (findE s.data.toList)) ∧ Below w.heap.size w w' := by
  have HM := Aside0.mk hm
  have HB := Aside0.mk (Below.refl w.heap.size w)
  have hl := data_length s
  cases h1 : cut1 40 s.data.toList with
  | none =>
    have HC1 := Aside0.mk (show CutIs 40 s s ⟨#[]⟩ false from ⟨by omega, by rw [lib_cut, h1]⟩)
    have HC2 := Aside0.mk (show CutIs 41 ⟨#[]⟩ ⟨#[]⟩ ⟨#[]⟩ false from ⟨by decide, by decide⟩)
    have HF := Aside0.mk (show findR (findE s.data.toList) = findR none from by rw [findE, h1]; rfl)
    clear h1 hl hm
    go_enter Tryd.func15, Tryd.ntmps15
    go_wp2_with (first
      | (go_at_call 29; with_reducible refine (HC1.out.calls HM.out HB.out).mono ?_; rintro e w1 ⟨rfl, hb⟩; replace HB := Aside0.mk (HB.out.trans (hb.mono HB.out.size)); clear hb)
      | (go_at_call 29; with_reducible refine (HC2.out.calls HM.out HB.out).mono ?_; rintro e w2 ⟨rfl, hb⟩; replace HB := Aside0.mk (HB.out.trans (hb.mono HB.out.size)); clear hb))
    go_ret2
    exact ⟨by rw [HF.out]; rfl, HB.out⟩
  | some xr =>
    obtain ⟨a, r⟩ := xr
    have hi := (cut1_is h1).1
    have hrl : r.length ≤ s.data.toList.length := by rw [hi]; simp; omega
    cases h2 : cut1 41 r with
    | none =>
      have HC1 := Aside0.mk (show CutIs 40 s ⟨a.toArray⟩ ⟨r.toArray⟩ true from ⟨by omega, by rw [lib_cut, h1]⟩)
      have HC2 := Aside0.mk (show CutIs 41 ⟨r.toArray⟩ ⟨r.toArray⟩ ⟨#[]⟩ false from ⟨by rw [← data_length]; show r.length < _; omega, by rw [lib_cut]; show (match cut1 41 r with | some (a, b) => (a, b, true) | none => (r, [], false)) = _; rw [h2]⟩)
      have HF := Aside0.mk (show findR (findE s.data.toList) = findR none from by rw [findE, h1]; show findR ((cut1 41 r).bind fun y => inner y.1) = _; rw [h2]; rfl)
      obtain ⟨A, hA⟩ : ∃ A : ByteArray, A = ⟨a.toArray⟩ := ⟨_, rfl⟩
      obtain ⟨R, hR⟩ : ∃ R : ByteArray, R = ⟨r.toArray⟩ := ⟨_, rfl⟩
      rw [← hA, ← hR] at HC1
      rw [← hR] at HC2
      clear h1 h2 hl hm hi hrl hA hR
      go_enter Tryd.func15, Tryd.ntmps15
      go_wp2_with (first
        | (go_at_call 29; with_reducible refine (HC1.out.calls HM.out HB.out).mono ?_; rintro e w1 ⟨rfl, hb⟩; replace HB := Aside0.mk (HB.out.trans (hb.mono HB.out.size)); clear hb)
        | (go_at_call 29; with_reducible refine (HC2.out.calls HM.out HB.out).mono ?_; rintro e w2 ⟨rfl, hb⟩; replace HB := Aside0.mk (HB.out.trans (hb.mono HB.out.size)); clear hb))
      go_ret2
      exact ⟨by rw [HF.out]; rfl, HB.out⟩
    | some yr =>
      obtain ⟨t, r2⟩ := yr
      have hi2 := (cut1_is h2).1
      have hml : t.length ≤ r.length := by rw [hi2]; simp
      have hfe : findE s.data.toList = inner t := by rw [findE, h1]; show ((cut1 41 r).bind fun y => inner y.1) = _; rw [h2]; rfl
      have HC1 := Aside0.mk (show CutIs 40 s ⟨a.toArray⟩ ⟨r.toArray⟩ true from ⟨by omega, by rw [lib_cut, h1]⟩)
      have HC2 := Aside0.mk (show CutIs 41 ⟨r.toArray⟩ ⟨t.toArray⟩ ⟨r2.toArray⟩ true from ⟨by rw [← data_length]; show r.length < _; omega, by rw [lib_cut]; show (match cut1 41 r with | some (a, b) => (a, b, true) | none => (r, [], false)) = _; rw [h2]⟩)
      obtain ⟨A, hA⟩ : ∃ A : ByteArray, A = ⟨a.toArray⟩ := ⟨_, rfl⟩
      obtain ⟨R, hR⟩ : ∃ R : ByteArray, R = ⟨r.toArray⟩ := ⟨_, rfl⟩
      obtain ⟨M, hM⟩ : ∃ M : ByteArray, M = ⟨t.toArray⟩ := ⟨_, rfl⟩
      obtain ⟨R2, hR2⟩ : ∃ R2 : ByteArray, R2 = ⟨r2.toArray⟩ := ⟨_, rfl⟩
      rw [← hA, ← hR] at HC1
      rw [← hR, ← hM, ← hR2] at HC2
      have hMl : M.data.toList = t := by rw [hM]
      have HMl := Aside0.mk (show t.length ≤ 1000000 from by omega)
      clear h1 h2 hl hm hi hrl hA hR hi2 hml hM hR2
      match t, HMl, hMl, hfe with
      | [], HMl, hMl, hfe =>
        have hemp : M.toList = [] := by rw [ByteArray.toList_eq]; exact hMl
        have HF := Aside0.mk (show findR (findE s.data.toList) = findR none from by rw [hfe]; rfl)
        clear hfe hMl
        go_enter Tryd.func15, Tryd.ntmps15
        go_wp2_with (first
          | (go_at_call 29; with_reducible refine (HC1.out.calls HM.out HB.out).mono ?_; rintro e w1 ⟨rfl, hb⟩; replace HB := Aside0.mk (HB.out.trans (hb.mono HB.out.size)); clear hb)
          | (go_at_call 29; with_reducible refine (HC2.out.calls HM.out HB.out).mono ?_; rintro e w2 ⟨rfl, hb⟩; replace HB := Aside0.mk (HB.out.trans (hb.mono HB.out.size)); clear hb))
        go_ret2
        exact ⟨by first | (rw [HF.out]; rfl) | rfl | simp [findR], HB.out⟩
      | m :: l, HMl, hMl, hfe =>
        have hMs : M.size = l.length + 1 := by rw [← data_length, hMl]; rfl
        have hne : M.toList.isEmpty = false := by rw [ByteArray.toList_eq, hMl]; rfl
        have h0s : 0 < M.size := by omega
        have h0c : ∀ h : 0 < M.size, ((M[0]'h).toNat : Int) = (m.toNat : Int) := fun h => by have e := bt_byte M 0 (by rw [hMl]; simp); simp only [hMl, List.getElem_cons_zero] at e; rw [← e]; exact bt_at M 0 h
        have HK0 := Aside0.mk (fun W => mark_calls m W)
        obtain ⟨x, hx⟩ : ∃ x, x = m.toNat := ⟨_, rfl⟩
        rw [← hx] at h0c HK0
        cases hk : isMark m with
        | false =>
          have HF := Aside0.mk (show findR (findE s.data.toList) = findR none from by rw [hfe, show inner (m :: l) = none from if_pos hk])
          have HK := HK0
          rw [hk] at HK
          clear hfe hMl hMs hk hx
          go_enter Tryd.func15, Tryd.ntmps15
          go_wp2_with (first
            | (go_at_call 29; with_reducible refine (HC1.out.calls HM.out HB.out).mono ?_; rintro e w1 ⟨rfl, hb⟩; replace HB := Aside0.mk (HB.out.trans (hb.mono HB.out.size)); clear hb)
            | (go_at_call 29; with_reducible refine (HC2.out.calls HM.out HB.out).mono ?_; rintro e w2 ⟨rfl, hb⟩; replace HB := Aside0.mk (HB.out.trans (hb.mono HB.out.size)); clear hb)
            | (go_at_call 30; refine (HK.out _).mono ?_; rintro e w3 ⟨rfl, hw⟩; obtain rfl := hw.symm))
          go_ret2
          exact ⟨by first | (rw [HF.out]; rfl) | rfl | simp [findR], HB.out⟩
        | true =>
          have HK := HK0
          rw [hk] at HK
          have hin := inner_ext m l hk
          have hgm := getMost_get 65535 (rest2 (m :: l) m)
          obtain ⟨X, hX⟩ : ∃ X : ByteArray, X = ⟨#[m]⟩ := ⟨_, rfl⟩
          have hXs : X.size = 1 := by rw [hX]; rfl
          have hsl : ∀ W, (Instr.slice 9 (.string M) none (some (.int .i64 1)) none).run Tryd.prog W = .ok (.string X) W := slice_1 M X h0s (by rw [hMl, hX]; rfl)
          have hX3 : (X ++ X ++ X).data.toList = [m, m, m] := by rw [hX]; simp
          have hX1 : X.data.toList = [m] := by rw [hX]
          obtain ⟨S1, hS1⟩ : ∃ S1 : ByteArray, S1 = ⟨(rest1 (m :: l) m).toArray⟩ := ⟨_, rfl⟩
          obtain ⟨S2, hS2⟩ : ∃ S2 : ByteArray, S2 = ⟨(rest2 (m :: l) m).toArray⟩ := ⟨_, rfl⟩
          have hS1l : S1.data.toList = rest1 (m :: l) m := by rw [hS1]
          have hS2l : S2.data.toList = rest2 (m :: l) m := by rw [hS2]
          have hS1s : S1.size ≤ 1000000 := by
            rw [← data_length, hS1l, rest1, Lib.trimPrefix]; have := HMl.out
            split
            · rw [List.length_drop]; omega
            · exact this
          obtain ⟨b1, hb1⟩ : ∃ b1, b1 = Lib.hasPrefix (m :: l) [m, m, m] := ⟨_, rfl⟩
          obtain ⟨b2, hb2⟩ : ∃ b2, b2 = Lib.hasSuffix (rest1 (m :: l) m) [m] := ⟨_, rfl⟩
          have HP1 := Aside0.mk (show ∀ W, Calls Tryd.prog 31 #[.string M, .string (X ++ X ++ X)] W fun e w' => e = .returned (.tuple #[.string S1, .bool b1]) ∧ w' = W from fun W => by
            have := Tryd.strings_CutPrefix M (X ++ X ++ X) W
            rw [hX3, hMl, ← hb1] at this
            rw [hS1]; exact this)
          have HP2 := Aside0.mk (show ∀ W, Calls Tryd.prog 32 #[.string S1, .string X] W fun e w' => e = .returned (.tuple #[.string S2, .bool b2]) ∧ w' = W from fun W => by
            have := Tryd.strings_CutSuffix S1 X W (by omega)
            rw [hX1, hS1l, ← hb2] at this
            rw [hS2]; exact this)
          have HG0 := Aside0.mk (fun W => get_calls S2 65535 W)
          have hin2 : inner (m :: l) = if b1 = true ∧ b2 = true then (getMost 65535 (rest2 (m :: l) m)).bind (fun n => if n = 0 then none else some n) else none := by rw [hb1, hb2]; exact hin
          rw [hS2l] at HG0
          clear hS1 hS2 hS1l hS2l hX hX3 hX1 hb1 hb2 hin hMl hMs hx hk hS1s HK0
          rw [hfe, hin2]
          cases hgo : getMost 65535 (rest2 (m :: l) m) with
          | none =>
            rw [hgo] at hgm
            rw [show Dig.get (rest2 (m :: l) m) 65535 = _ from hgm] at HG0
            have HF := Aside0.mk (show findR (if b1 = true ∧ b2 = true then (none : Option Nat).bind (fun n => if n = 0 then none else some n) else none) = findR none from by split <;> rfl)
            clear hgm hgo hfe hin2
            cases b1 <;> cases b2
            all_goals
              go_enter Tryd.func15, Tryd.ntmps15
              go_wp2_with (first
                | (go_at_call 29; with_reducible refine (HC1.out.calls HM.out HB.out).mono ?_; rintro e w1 ⟨rfl, hb⟩; replace HB := Aside0.mk (HB.out.trans (hb.mono HB.out.size)); clear hb)
                | (go_at_call 29; with_reducible refine (HC2.out.calls HM.out HB.out).mono ?_; rintro e w2 ⟨rfl, hb⟩; replace HB := Aside0.mk (HB.out.trans (hb.mono HB.out.size)); clear hb)
                | (go_at_call 30; refine (HK.out _).mono ?_; rintro e w3 ⟨rfl, hw⟩; obtain rfl := hw.symm)
                | (go_at_call 31; refine (HP1.out _).mono ?_; rintro e w3 ⟨rfl, hw⟩; obtain rfl := hw.symm)
                | (go_at_call 32; refine (HP2.out _).mono ?_; rintro e w3 ⟨rfl, hw⟩; obtain rfl := hw.symm)
                | (go_at_call 33; refine (HG0.out _).mono ?_; rintro e w3 ⟨rfl, hw⟩; obtain rfl := hw.symm))
              go_ret2
              exact ⟨by first | (rw [HF.out]; rfl) | rfl | simp [findR], HB.out⟩
          | some n =>
            rw [hgo] at hgm
            rw [show Dig.get (rest2 (m :: l) m) 65535 = _ from hgm] at HG0
            have hn := ((getMost_iff 65535 (by decide) _ _).1 hgo).2
            by_cases h0 : n = 0
            · subst h0
              have HF := Aside0.mk (show findR (if b1 = true ∧ b2 = true then (some 0 : Option Nat).bind (fun n => if n = 0 then none else some n) else none) = findR none from by split <;> rfl)
              have HPT := Aside0.mk (fun W => port_calls ((0 : Nat) : Int) W)
              rw [show decide (0 < ((0 : Nat) : Int) ∧ ((0 : Nat) : Int) ≤ 65535) = false from rfl] at HPT
              clear hgm hgo hfe hin2
              cases b1 <;> cases b2
              all_goals
                go_enter Tryd.func15, Tryd.ntmps15
                go_wp2_with (first
                  | (go_at_call 29; with_reducible refine (HC1.out.calls HM.out HB.out).mono ?_; rintro e w1 ⟨rfl, hb⟩; replace HB := Aside0.mk (HB.out.trans (hb.mono HB.out.size)); clear hb)
                  | (go_at_call 29; with_reducible refine (HC2.out.calls HM.out HB.out).mono ?_; rintro e w2 ⟨rfl, hb⟩; replace HB := Aside0.mk (HB.out.trans (hb.mono HB.out.size)); clear hb)
                  | (go_at_call 30; refine (HK.out _).mono ?_; rintro e w3 ⟨rfl, hw⟩; obtain rfl := hw.symm)
                  | (go_at_call 31; refine (HP1.out _).mono ?_; rintro e w3 ⟨rfl, hw⟩; obtain rfl := hw.symm)
                  | (go_at_call 32; refine (HP2.out _).mono ?_; rintro e w3 ⟨rfl, hw⟩; obtain rfl := hw.symm)
                  | (go_at_call 33; refine (HG0.out _).mono ?_; rintro e w3 ⟨rfl, hw⟩; obtain rfl := hw.symm)
                  | (go_at_call 17; refine (HPT.out _).mono ?_; rintro e w3 ⟨rfl, hw⟩; obtain rfl := hw.symm))
                go_ret2
                exact ⟨by first | (rw [HF.out]; rfl) | rfl | simp [findR], HB.out⟩
            · have HPT := Aside0.mk (fun W => port_calls (n : Int) W)
              rw [decide_eq_true (show 0 < (n : Int) ∧ (n : Int) ≤ 65535 from by omega)] at HPT
              clear hgm hgo hfe hin2
              cases b1 <;> cases b2
              all_goals
                first
                  | have HF := Aside0.mk (show findR (if true = true ∧ true = true then (some n : Option Nat).bind (fun n => if n = 0 then none else some n) else none) = .tuple #[.int .i64 n, .bool true] from by rw [if_pos ⟨rfl, rfl⟩, Option.bind_some, if_neg h0]; rfl)
                  | skip
                go_enter Tryd.func15, Tryd.ntmps15
                go_wp2_with (first
                  | (go_at_call 29; with_reducible refine (HC1.out.calls HM.out HB.out).mono ?_; rintro e w1 ⟨rfl, hb⟩; replace HB := Aside0.mk (HB.out.trans (hb.mono HB.out.size)); clear hb)
                  | (go_at_call 29; with_reducible refine (HC2.out.calls HM.out HB.out).mono ?_; rintro e w2 ⟨rfl, hb⟩; replace HB := Aside0.mk (HB.out.trans (hb.mono HB.out.size)); clear hb)
                  | (go_at_call 30; refine (HK.out _).mono ?_; rintro e w3 ⟨rfl, hw⟩; obtain rfl := hw.symm)
                  | (go_at_call 31; refine (HP1.out _).mono ?_; rintro e w3 ⟨rfl, hw⟩; obtain rfl := hw.symm)
                  | (go_at_call 32; refine (HP2.out _).mono ?_; rintro e w3 ⟨rfl, hw⟩; obtain rfl := hw.symm)
                  | (go_at_call 33; refine (HG0.out _).mono ?_; rintro e w3 ⟨rfl, hw⟩; obtain rfl := hw.symm)
                  | (go_at_call 17; refine (HPT.out _).mono ?_; rintro e w3 ⟨rfl, hw⟩; obtain rfl := hw.symm))
                go_ret2
                exact ⟨by first | (rw [HF.out]; rfl) | rfl | simp [findR, h0], HB.out⟩
end Go.Proofs.YtfbjejkmjbknaaaDoor.Ext
