/- The contract of the reference's Read. -/
import Derived.Test.YtfbjejkmjbknaaaDoorExtRead
namespace Go.Proofs.YtfbjejkmjbknaaaDoor.Ext
open Go Go.RowKit Go.Proofs.YtfbjejkmjbknaaaDoorW.PrintWords Go.Proofs.YtfbjejkmjbknaaaDoorW.PrintLast Go.Proofs.YtfbjejkmjbknaaaDoorW.PrintMore Go.Proofs.YtfbjejkmjbknaaaDoor.Dig Go.Proofs.YtfbjejkmjbknaaaDoor.Quad Go.Proofs.YtfbjejkmjbknaaaDoor.ExtP Go.Proofs.YtfbjejkmjbknaaaDoor.SixP
set_option linter.unusedVariables false
set_option linter.unusedSimpArgs false

theorem res_rRead (tmps : Array Value) (W : World) (H : Nat) (a b c d p : Int) (e : Value) (h2 : tmps.getD 2 undef = .pointer (some ⟨H, 0, none⟩)) (h3 : tmps.getD 3 undef = e) (hh : W.heap[H]? = some (.cells #[.int .u8 a, .int .u8 b, .int .u8 c, .int .u8 d, .int .i64 p] 25 (0, 0))) :
   (results Tryd.f12 tmps).run Tryd.prog W = .ok (.tuple #[.agg #[.int .u8 a, .int .u8 b, .int .u8 c, .int .u8 d, .int .i64 p], e]) W := by
  have c0 : W.cell? ⟨H, 0, none⟩ = some (.int .u8 a) := (blk_cell hh 0).trans rfl
  have c1 : W.cell? ⟨H, 1, none⟩ = some (.int .u8 b) := (blk_cell hh 1).trans rfl
  have c2 : W.cell? ⟨H, 2, none⟩ = some (.int .u8 c) := (blk_cell hh 2).trans rfl
  have c3 : W.cell? ⟨H, 3, none⟩ = some (.int .u8 d) := (blk_cell hh 3).trans rfl
  have c4 : W.cell? ⟨H, 4, none⟩ = some (.int .i64 p) := (blk_cell hh 4).trans rfl
  rw [Array.getD_eq_getD_getElem?] at h2 h3
  simp [results, show Tryd.f12.results = #[.cell 2 25, .tmp 3] from rfl, h2, h3, go_sem, c0, c1, c2, c3, c4]
theorem cut_row (s : ByteArray) (m : UInt8) (hs : s.size ≤ 1000000) (w : World) : Calls Tryd.prog 26 #[.string s, .int .u8 (m.toNat : Int)] w fun e w' => ∃ A c, (Cut.cut m s.data.toList).length ≤ c ∧ e = .returned (.slice A (Cut.cut m s.data.toList).length c) ∧ Below w.heap.size w w' ∧ ∀ (j : Nat) x, ((Cut.cut m s.data.toList).map str)[j]? = some x → ∃ g, A = some ⟨g, 0, none⟩ ∧ g < w'.heap.size ∧ w'.cell? ⟨g, j, none⟩ = some x := by
  refine (ref_cut_calls s m hs w).mono ?_
  rintro e w' ⟨v, rfl, ho, hb⟩
  have hl : Row.Lies w' w.heap.size 9 v ((Cut.cut m s.data.toList).map str) := .inl (by rw [List.length_map]; exact ho)
  obtain ⟨A, c, rfl, hc, hx⟩ := hl.read
  rw [List.length_map] at hc ⊢
  exact ⟨A, c, hc, rfl, hb, hx⟩

set_option maxHeartbeats 4000000 in
set_option maxRecDepth 100000 in
theorem ref_read_five (s : ByteArray) (hs : s.size ≤ 1000000) (w : World) (m : UInt8) (l : List UInt8) (h : s.data.toList = m :: l) (hk : isMark m = true) (h5 : (Cut.cut m s.data.toList).length = 5) (h0s : 0 < s.size) (h0n : ¬ s.size = 0) (h0b : ((s.size : Int) == 0) = false) (x : Nat) (hxm : x = m.toNat)
    (HK : Aside0 (∀ W, Calls Tryd.prog 25 #[.int .u8 (x : Int)] W fun e w' => e = .returned (.bool true) ∧ w' = W)) (h0c : ∀ h : 0 < s.size, ((s[0]'h).toNat : Int) = (x : Int)) :
    Calls Tryd.prog 12 #[.string s] w fun e w' => e = .returned (readV (readE s.data.toList)) ∧ Below w.heap.size w w' := by
  have hle : ∀ p ∈ Cut.cut m s.data.toList, p.length ≤ 1000000 := fun p hp => by
    have := cut_le hp
    rw [data_length] at this; omega
  have HC0 := cut_row s m hs
  have HP0 := read_parts h hk
  rw [← hxm] at HC0
  match hq : Cut.cut m s.data.toList, h5 with
  | [q0, q1, q2, q3, q4], _ =>
    rw [hq] at HC0 HP0 hle
    obtain ⟨P0, hP0⟩ : ∃ P : ByteArray, P = ⟨q0.toArray⟩ := ⟨_, rfl⟩
    obtain ⟨P1, hP1⟩ : ∃ P : ByteArray, P = ⟨q1.toArray⟩ := ⟨_, rfl⟩
    obtain ⟨P2, hP2⟩ : ∃ P : ByteArray, P = ⟨q2.toArray⟩ := ⟨_, rfl⟩
    obtain ⟨P3, hP3⟩ : ∃ P : ByteArray, P = ⟨q3.toArray⟩ := ⟨_, rfl⟩
    obtain ⟨P4, hP4⟩ : ∃ P : ByteArray, P = ⟨q4.toArray⟩ := ⟨_, rfl⟩
    have e1 : P1.data.toList = q1 := by rw [hP1]
    have e2 : P2.data.toList = q2 := by rw [hP2]
    have e3 : P3.data.toList = q3 := by rw [hP3]
    have e4 : P4.data.toList = q4 := by rw [hP4]
    have s2 : P2.size ≤ 1000000 := by rw [← data_length, e2]; exact hle q2 (by simp)
    have HC := Aside0.mk (show ∀ W, Calls Tryd.prog 26 #[.string s, .int .u8 (x : Int)] W fun e w' => ∃ g c, 5 ≤ c ∧ e = .returned (.slice (some ⟨g, 0, none⟩) 5 c) ∧ Below W.heap.size W w' ∧ g < w'.heap.size ∧ w'.cell? ⟨g, 0, none⟩ = some (.string P0) ∧ w'.cell? ⟨g, 1, none⟩ = some (.string P1) ∧ w'.cell? ⟨g, 2, none⟩ = some (.string P2) ∧ w'.cell? ⟨g, 3, none⟩ = some (.string P3) ∧ w'.cell? ⟨g, 4, none⟩ = some (.string P4) from fun W => (HC0 W).mono (by
      rintro e w' ⟨A, c, h1, h2, h3, h4⟩
      obtain ⟨g, rfl, hg, c0⟩ := h4 0 (.string P0) (by rw [hP0]; rfl)
      obtain ⟨g', hg1, _, c1⟩ := h4 1 (.string P1) (by rw [hP1]; rfl)
      cases hg1
      obtain ⟨g', hg1, _, c2⟩ := h4 2 (.string P2) (by rw [hP2]; rfl)
      cases hg1
      obtain ⟨g', hg1, _, c3⟩ := h4 3 (.string P3) (by rw [hP3]; rfl)
      cases hg1
      obtain ⟨g', hg1, _, c4⟩ := h4 4 (.string P4) (by rw [hP4]; rfl)
      cases hg1
      exact ⟨g, c, h1, h2, h3, hg, c0, c1, c2, c3, c4⟩))
    have HP := Aside0.mk (show readE s.data.toList = five P1.data.toList P2.data.toList P3.data.toList P4.data.toList from by
      rw [HP0, e1, e2, e3, e4])
    have HG1 := Aside0.mk (fun W => ref_get_calls P1 9 W)
    have HG3 := Aside0.mk (fun W => ref_get_calls P3 65535 W)
    have hg1 := getMost_get 9 P1.data.toList
    have hg3 := getMost_get 65535 P3.data.toList
    have HQ := Aside0.mk (fun W => Quad.ref_read_calls P2 s2 W)
    clear hq HC0 HP0 hle hP0 hP1 hP2 hP3 hP4 e1 e2 e3 e4 s2 h hk hxm h5 hs
    by_cases h4 : P4.data.toList = []
    · have h4e : P4.toList = [] := by rw [ByteArray.toList_eq]; exact h4
      have HP4 := Aside0.mk (show readE s.data.toList = five P1.data.toList P2.data.toList P3.data.toList [] from by rw [HP.out, h4])
      clear h4
      cases hk1 : getMost 9 P1.data.toList with
      | none =>
        rw [hk1] at hg1
        rw [show Dig.get P1.data.toList 9 = _ from hg1] at HG1
        have HF := Aside0.mk (show readE s.data.toList = .form from by rw [HP4.out, five, if_neg (by simp), hk1])
        clear hg1 hg3 hk1
        go_enter Tryd.func12, Tryd.ntmps12
        go_wp2_with (first
          | (go_at_call 25; refine (HK.out _).mono ?_; rintro e w3 ⟨rfl, hw⟩; obtain rfl := hw.symm)
          | (go_at_call 26; refine (HC.out _).mono ?_; rintro e w1 ⟨g, cc, hcc, rfl, hb1, hg1⟩; have HR := Aside0.mk ((Rd.start w).below hb1); have HG := Aside0.mk hg1; clear hb1 hg1; obtain ⟨qc0, qc1, qc2, qc3, qc4, qf0, qf1, qf2, qf3, qf4⟩ := HR.out.facts; obtain ⟨hgl, g0, g1, g2, g3, g4⟩ := HG.out; clear hgl)
          | (go_at_call 27; with_reducible refine (HG1.out _).mono ?_; rintro e w3 ⟨rfl, hw⟩; obtain rfl := hw.symm))
        try simp only [Exit.inBlock, Exit.then]
        refine bodyPost_ret (res_rRead _ _ w.heap.size 0 0 0 0 0 (.int .i64 2) rfl rfl (HR.out.putV 0 0 0 0 0)) rfl ⟨?_, HR.out.putB 0 0 0 0 0⟩
        first | (rw [HF.out]; rfl) | rfl
      | some k =>
        rw [hk1] at hg1
        rw [show Dig.get P1.data.toList 9 = _ from hg1] at HG1
        have hk9 := ((getMost_iff 9 (by decide) _ _).1 hk1).2
        match k, hk1, HG1, hk9 with
        | 0, hk1, HG1, hk9 =>
          have HF := Aside0.mk (show readE s.data.toList = .form from by rw [HP4.out, five, if_neg (by simp), hk1]; rfl)
          clear hg1 hg3 hk1
          go_enter Tryd.func12, Tryd.ntmps12
          go_wp2_with (first
            | (go_at_call 25; refine (HK.out _).mono ?_; rintro e w3 ⟨rfl, hw⟩; obtain rfl := hw.symm)
            | (go_at_call 26; refine (HC.out _).mono ?_; rintro e w1 ⟨g, cc, hcc, rfl, hb1, hg1⟩; have HR := Aside0.mk ((Rd.start w).below hb1); have HG := Aside0.mk hg1; clear hb1 hg1; obtain ⟨qc0, qc1, qc2, qc3, qc4, qf0, qf1, qf2, qf3, qf4⟩ := HR.out.facts; obtain ⟨hgl, g0, g1, g2, g3, g4⟩ := HG.out; clear hgl)
            | (go_at_call 27; with_reducible refine (HG1.out _).mono ?_; rintro e w3 ⟨rfl, hw⟩; obtain rfl := hw.symm))
          try simp only [Exit.inBlock, Exit.then]
          refine bodyPost_ret (res_rRead _ _ w.heap.size 0 0 0 0 0 (.int .i64 2) rfl rfl (HR.out.putV 0 0 0 0 0)) rfl ⟨?_, HR.out.putB 0 0 0 0 0⟩
          first | (rw [HF.out]; rfl) | rfl
        | k + 2, hk1, HG1, hk9 =>
          have HF := Aside0.mk (show readE s.data.toList = .kind from by rw [HP4.out, five, if_neg (by simp), hk1]; rfl)
          obtain ⟨q, hq⟩ : ∃ q, q = k + 2 := ⟨_, rfl⟩
          rw [← hq] at HG1
          have hq0 : decide ((q : Int) < 1) = false := decide_eq_false (by omega)
          have hq1 : ((q : Int) != 1) = true := bne_iff_ne.2 (by omega)
          have hq2 : ¬ q = 0 := by omega
          clear hg1 hg3 hk1 hq hk9
          go_enter Tryd.func12, Tryd.ntmps12
          go_wp2_with (first
            | (go_at_call 25; refine (HK.out _).mono ?_; rintro e w3 ⟨rfl, hw⟩; obtain rfl := hw.symm)
            | (go_at_call 26; refine (HC.out _).mono ?_; rintro e w1 ⟨g, cc, hcc, rfl, hb1, hg1⟩; have HR := Aside0.mk ((Rd.start w).below hb1); have HG := Aside0.mk hg1; clear hb1 hg1; obtain ⟨qc0, qc1, qc2, qc3, qc4, qf0, qf1, qf2, qf3, qf4⟩ := HR.out.facts; obtain ⟨hgl, g0, g1, g2, g3, g4⟩ := HG.out; clear hgl)
            | (go_at_call 27; with_reducible refine (HG1.out _).mono ?_; rintro e w3 ⟨rfl, hw⟩; obtain rfl := hw.symm))
          try simp only [Exit.inBlock, Exit.then]
          refine bodyPost_ret (res_rRead _ _ w.heap.size 0 0 0 0 0 (.int .i64 8) rfl rfl (HR.out.putV 0 0 0 0 0)) rfl ⟨?_, HR.out.putB 0 0 0 0 0⟩
          first | (rw [HF.out]; rfl) | rfl
        | 1, hk1, HG1, hk9 =>
          have HP5 := Aside0.mk (show readE s.data.toList = match readN P2.data.toList, getMost 65535 P3.data.toList with | some (a, b, c, d), some p => if p = 0 then .form else .ok a b c d p | _, _ => .form from by rw [HP4.out, five, if_neg (by simp), hk1]; rfl)
          clear hg1 hk1 hk9 HP4
          cases hr : readN P2.data.toList with
          | none =>
            rw [hr] at HQ HP5
            have HF := Aside0.mk (show readE s.data.toList = .form from HP5.out)
            obtain ⟨g', b, hgb⟩ : ∃ g b, Dig.get P3.data.toList 65535 = (g, b) := ⟨_, _, rfl⟩
            rw [hgb] at HG3
            clear hg3 hgb hr HP5
            go_enter Tryd.func12, Tryd.ntmps12
            go_wp2_with (first
              | (go_at_call 25; refine (HK.out _).mono ?_; rintro e w3 ⟨rfl, hw⟩; obtain rfl := hw.symm)
              | (go_at_call 26; refine (HC.out _).mono ?_; rintro e w1 ⟨g, cc, hcc, rfl, hb1, hg1⟩; have HR := Aside0.mk ((Rd.start w).below hb1); have HG := Aside0.mk hg1; clear hb1 hg1; obtain ⟨qc0, qc1, qc2, qc3, qc4, qf0, qf1, qf2, qf3, qf4⟩ := HR.out.facts; obtain ⟨hgl, g0, g1, g2, g3, g4⟩ := HG.out; clear hgl)
              | (go_at_call 27; with_reducible refine (HG1.out _).mono ?_; rintro e w3 ⟨rfl, hw⟩; obtain rfl := hw.symm)
              | (go_at_call 28; refine (HQ.out _).mono ?_; rintro e w5 ⟨rfl, hb5⟩; clear g0 g1 g2 g3 g4; clear qc0 qc1 qc2 qc3 qc4 qf0 qf1 qf2 qf3 qf4; have HR5 := Aside0.mk (HR.out.below hb5); have g3 : ∀ o, (w5.alloc o).cell? ⟨g, 3, none⟩ = some (.string P3) := fun o => ((hb5.trans ((Below.refl _ _).alloc hb5.size o)).cell HG.out.1).trans HG.out.2.2.2.2.1; have hlt5 := Aside0.mk (Nat.lt_of_lt_of_le HG.out.1 hb5.size); have hne1 : g ≠ w5.heap.size := Nat.ne_of_lt hlt5.out; have hne2 : w5.heap.size ≠ g := Nat.ne_of_gt hlt5.out; obtain ⟨qc0, qc1, qc2, qc3, qc4, qf0, qf1, qf2, qf3, qf4⟩ := (HR5.out.alloc (.cells #[.int .u8 0, .int .u8 0, .int .u8 0, .int .u8 0] 23)).facts; clear hb5; simp only [readR])
              | (go_at_call 27; with_reducible refine (HG3.out _).mono ?_; rintro e w3 ⟨rfl, hw⟩; obtain rfl := hw.symm))
            try simp only [Exit.inBlock, Exit.then]
            refine bodyPost_ret (res_rRead _ _ w.heap.size 0 0 0 0 0 (.int .i64 2) rfl rfl ((HR5.out.alloc _).putV 0 0 0 0 0)) rfl ⟨?_, (HR5.out.alloc _).putB 0 0 0 0 0⟩
            first | (rw [HF.out]; rfl) | rfl
          | some t =>
            obtain ⟨a, b, c, d⟩ := t
            rw [hr] at HQ HP5
            cases hn : getMost 65535 P3.data.toList with
            | none =>
              rw [hn] at hg3 HP5
              have HF := Aside0.mk (show readE s.data.toList = .form from HP5.out)
              rw [show Dig.get P3.data.toList 65535 = _ from hg3] at HG3
              clear hg3 hn hr HP5
              go_enter Tryd.func12, Tryd.ntmps12
              go_wp2_with (first
                | (go_at_call 25; refine (HK.out _).mono ?_; rintro e w3 ⟨rfl, hw⟩; obtain rfl := hw.symm)
                | (go_at_call 26; refine (HC.out _).mono ?_; rintro e w1 ⟨g, cc, hcc, rfl, hb1, hg1⟩; have HR := Aside0.mk ((Rd.start w).below hb1); have HG := Aside0.mk hg1; clear hb1 hg1; obtain ⟨qc0, qc1, qc2, qc3, qc4, qf0, qf1, qf2, qf3, qf4⟩ := HR.out.facts; obtain ⟨hgl, g0, g1, g2, g3, g4⟩ := HG.out; clear hgl)
                | (go_at_call 27; with_reducible refine (HG1.out _).mono ?_; rintro e w3 ⟨rfl, hw⟩; obtain rfl := hw.symm)
                | (go_at_call 28; refine (HQ.out _).mono ?_; rintro e w5 ⟨rfl, hb5⟩; clear g0 g1 g2 g3 g4; clear qc0 qc1 qc2 qc3 qc4 qf0 qf1 qf2 qf3 qf4; have HR5 := Aside0.mk (HR.out.below hb5); have g3 : ∀ o, (w5.alloc o).cell? ⟨g, 3, none⟩ = some (.string P3) := fun o => ((hb5.trans ((Below.refl _ _).alloc hb5.size o)).cell HG.out.1).trans HG.out.2.2.2.2.1; have hlt5 := Aside0.mk (Nat.lt_of_lt_of_le HG.out.1 hb5.size); have hne1 : g ≠ w5.heap.size := Nat.ne_of_lt hlt5.out; have hne2 : w5.heap.size ≠ g := Nat.ne_of_gt hlt5.out; obtain ⟨qc0, qc1, qc2, qc3, qc4, qf0, qf1, qf2, qf3, qf4⟩ := (HR5.out.alloc (.cells #[.int .u8 a, .int .u8 b, .int .u8 c, .int .u8 d] 23)).facts; clear hb5; simp only [readR])
                | (go_at_call 27; with_reducible refine (HG3.out _).mono ?_; rintro e w3 ⟨rfl, hw⟩; obtain rfl := hw.symm))
              try simp only [Exit.inBlock, Exit.then]
              refine bodyPost_ret (res_rRead _ _ w.heap.size 0 0 0 0 0 (.int .i64 2) rfl rfl ((HR5.out.alloc _).putV 0 0 0 0 0)) rfl ⟨?_, (HR5.out.alloc _).putB 0 0 0 0 0⟩
              first | (rw [HF.out]; rfl) | rfl
            | some n =>
              rw [hn] at hg3 HP5
              rw [show Dig.get P3.data.toList 65535 = _ from hg3] at HG3
              have hn5 := ((getMost_iff 65535 (by decide) _ _).1 hn).2
              have HP6 := Aside0.mk (show readE s.data.toList = if n = 0 then .form else .ok a b c d n from HP5.out)
              clear hg3 hn hr HP5
              by_cases h0 : n = 0
              · subst h0
                have HF := Aside0.mk (show readE s.data.toList = .form from HP6.out)
                clear HP6
                go_enter Tryd.func12, Tryd.ntmps12
                go_wp2_with (first
                  | (go_at_call 25; refine (HK.out _).mono ?_; rintro e w3 ⟨rfl, hw⟩; obtain rfl := hw.symm)
                  | (go_at_call 26; refine (HC.out _).mono ?_; rintro e w1 ⟨g, cc, hcc, rfl, hb1, hg1⟩; have HR := Aside0.mk ((Rd.start w).below hb1); have HG := Aside0.mk hg1; clear hb1 hg1; obtain ⟨qc0, qc1, qc2, qc3, qc4, qf0, qf1, qf2, qf3, qf4⟩ := HR.out.facts; obtain ⟨hgl, g0, g1, g2, g3, g4⟩ := HG.out; clear hgl)
                  | (go_at_call 27; with_reducible refine (HG1.out _).mono ?_; rintro e w3 ⟨rfl, hw⟩; obtain rfl := hw.symm)
                  | (go_at_call 28; refine (HQ.out _).mono ?_; rintro e w5 ⟨rfl, hb5⟩; clear g0 g1 g2 g3 g4; clear qc0 qc1 qc2 qc3 qc4 qf0 qf1 qf2 qf3 qf4; have HR5 := Aside0.mk (HR.out.below hb5); have g3 : ∀ o, (w5.alloc o).cell? ⟨g, 3, none⟩ = some (.string P3) := fun o => ((hb5.trans ((Below.refl _ _).alloc hb5.size o)).cell HG.out.1).trans HG.out.2.2.2.2.1; have hlt5 := Aside0.mk (Nat.lt_of_lt_of_le HG.out.1 hb5.size); have hne1 : g ≠ w5.heap.size := Nat.ne_of_lt hlt5.out; have hne2 : w5.heap.size ≠ g := Nat.ne_of_gt hlt5.out; obtain ⟨qc0, qc1, qc2, qc3, qc4, qf0, qf1, qf2, qf3, qf4⟩ := (HR5.out.alloc (.cells #[.int .u8 a, .int .u8 b, .int .u8 c, .int .u8 d] 23)).facts; clear hb5; simp only [readR])
                  | (go_at_call 27; with_reducible refine (HG3.out _).mono ?_; rintro e w3 ⟨rfl, hw⟩; obtain rfl := hw.symm))
                try simp only [Exit.inBlock, Exit.then]
                refine bodyPost_ret (res_rRead _ _ w.heap.size 0 0 0 0 0 (.int .i64 2) rfl rfl ((HR5.out.alloc _).putV 0 0 0 0 0)) rfl ⟨?_, (HR5.out.alloc _).putB 0 0 0 0 0⟩
                first | (rw [HF.out]; rfl) | rfl
              · have HF := Aside0.mk (show readE s.data.toList = .ok a b c d n from by rw [HP6.out, if_neg h0])
                have hn1 : decide ((n : Int) < 1) = false := decide_eq_false (by omega)
                clear HP6
                go_enter Tryd.func12, Tryd.ntmps12
                go_wp2_with (first
                  | (go_at_call 25; refine (HK.out _).mono ?_; rintro e w3 ⟨rfl, hw⟩; obtain rfl := hw.symm)
                  | (go_at_call 26; refine (HC.out _).mono ?_; rintro e w1 ⟨g, cc, hcc, rfl, hb1, hg1⟩; have HR := Aside0.mk ((Rd.start w).below hb1); have HG := Aside0.mk hg1; clear hb1 hg1; obtain ⟨qc0, qc1, qc2, qc3, qc4, qf0, qf1, qf2, qf3, qf4⟩ := HR.out.facts; obtain ⟨hgl, g0, g1, g2, g3, g4⟩ := HG.out; clear hgl)
                  | (go_at_call 27; with_reducible refine (HG1.out _).mono ?_; rintro e w3 ⟨rfl, hw⟩; obtain rfl := hw.symm)
                  | (go_at_call 28; refine (HQ.out _).mono ?_; rintro e w5 ⟨rfl, hb5⟩; clear g0 g1 g2 g3 g4; clear qc0 qc1 qc2 qc3 qc4 qf0 qf1 qf2 qf3 qf4; have HR5 := Aside0.mk (HR.out.below hb5); have g3 : ∀ o, (w5.alloc o).cell? ⟨g, 3, none⟩ = some (.string P3) := fun o => ((hb5.trans ((Below.refl _ _).alloc hb5.size o)).cell HG.out.1).trans HG.out.2.2.2.2.1; have hlt5 := Aside0.mk (Nat.lt_of_lt_of_le HG.out.1 hb5.size); have hne1 : g ≠ w5.heap.size := Nat.ne_of_lt hlt5.out; have hne2 : w5.heap.size ≠ g := Nat.ne_of_gt hlt5.out; obtain ⟨qc0, qc1, qc2, qc3, qc4, qf0, qf1, qf2, qf3, qf4⟩ := (HR5.out.alloc (.cells #[.int .u8 a, .int .u8 b, .int .u8 c, .int .u8 d] 23)).facts; clear hb5; simp only [readR])
                  | (go_at_call 27; with_reducible refine (HG3.out _).mono ?_; rintro e w3 ⟨rfl, hw⟩; obtain rfl := hw.symm))
                try simp only [Exit.inBlock, Exit.then]
                refine bodyPost_ret (res_rRead _ _ w.heap.size a b c d n (.int .i64 0) rfl rfl ((HR5.out.alloc _).putV a b c d n)) rfl ⟨?_, (HR5.out.alloc _).putB a b c d n⟩
                first | (rw [HF.out]; rfl) | rfl
    · have h4e : P4.toList.isEmpty = false := by rw [ByteArray.toList_eq]; exact List.isEmpty_eq_false_iff.2 h4
      have HF := Aside0.mk (show readE s.data.toList = .form from by rw [HP.out]; exact if_pos h4)
      clear hg1 hg3 h4
      go_enter Tryd.func12, Tryd.ntmps12
      go_wp2_with (first
        | (go_at_call 25; refine (HK.out _).mono ?_; rintro e w3 ⟨rfl, hw⟩; obtain rfl := hw.symm)
        | (go_at_call 26; refine (HC.out _).mono ?_; rintro e w1 ⟨g, cc, hcc, rfl, hb1, hg1⟩; have HR := Aside0.mk ((Rd.start w).below hb1); have HG := Aside0.mk hg1; clear hb1 hg1; obtain ⟨qc0, qc1, qc2, qc3, qc4, qf0, qf1, qf2, qf3, qf4⟩ := HR.out.facts; obtain ⟨hgl, g0, g1, g2, g3, g4⟩ := HG.out; clear hgl))
      try simp only [Exit.inBlock, Exit.then]
      refine bodyPost_ret (res_rRead _ _ w.heap.size 0 0 0 0 0 (.int .i64 2) rfl rfl (HR.out.putV 0 0 0 0 0)) rfl ⟨?_, HR.out.putB 0 0 0 0 0⟩
      first | (rw [HF.out]; rfl) | rfl

set_option maxHeartbeats 4000000 in
set_option maxRecDepth 100000 in
theorem ref_read_calls (s : ByteArray) (hs : s.size ≤ 1000000) (w : World) :
    Calls Tryd.prog 12 #[.string s] w fun e w' => e = .returned (readV (readE s.data.toList)) ∧ Below w.heap.size w w' := by
  match h : s.data.toList with
  | [] =>
    have h0 : s.size = 0 := by rw [← data_length, h]; rfl
    have HF := Aside0.mk (show readV (readE []) = readV .form from rfl)
    clear h
    go_enter Tryd.func12, Tryd.ntmps12
    go_wp2
    try simp only [Exit.inBlock, Exit.then]
    refine bodyPost_ret (res_rRead _ _ w.heap.size 0 0 0 0 0 (.int .i64 2) rfl rfl (Rd.start w).2) rfl ⟨?_, (Rd.start w).1⟩
    first | (rw [HF.out]; rfl) | rfl
  | m :: l =>
    rw [← h]
    have h0s : 0 < s.size := by rw [← data_length, h]; exact Nat.succ_pos _
    have h0n : ¬ s.size = 0 := by omega
    have h0b : ((s.size : Int) == 0) = false := beq_eq_false_iff_ne.2 (by omega)
    have h0c : ∀ h : 0 < s.size, ((s[0]'h).toNat : Int) = (m.toNat : Int) := fun hh => by have e := bt_byte s 0 (by rw [h]; simp); simp only [h, List.getElem_cons_zero] at e; rw [← e]; exact bt_at s 0 hh
    have HK := Aside0.mk (fun W => ref_mark_calls m W)
    have HC0 := Aside0.mk (cut_row s m hs)
    obtain ⟨x, hx⟩ : ∃ x, x = m.toNat := ⟨_, rfl⟩
    rw [← hx] at h0c HK HC0
    have hxm := Aside0.mk hx
    clear hx
    cases hk : isMark m with
    | false =>
      rw [hk] at HK
      have HF := Aside0.mk (show readE s.data.toList = .form from by rw [h]; exact if_pos hk)
      have HC := Aside0.mk (show ∀ W, Calls Tryd.prog 26 #[.string s, .int .u8 (x : Int)] W fun e w' => ∃ A c, (Cut.cut m s.data.toList).length ≤ c ∧ e = .returned (.slice A (Cut.cut m s.data.toList).length c) ∧ Below W.heap.size W w' from fun W => (HC0.out W).mono fun e w' ⟨A, c, h1, h2, h3, _⟩ => ⟨A, c, h1, h2, h3⟩)
      obtain ⟨N, hN⟩ : ∃ N, N = (Cut.cut m s.data.toList).length := ⟨_, rfl⟩
      rw [← hN] at HC
      clear h hk hN HC0
      go_enter Tryd.func12, Tryd.ntmps12
      go_wp2_with (first
        | (go_at_call 25; refine (HK.out _).mono ?_; rintro e w3 ⟨rfl, hw⟩; obtain rfl := hw.symm)
        | (go_at_call 26; refine (HC.out _).mono ?_; rintro e w1 ⟨A, cc, hcc, rfl, hb1⟩; have HR := Aside0.mk ((Rd.start w).below hb1); clear hb1; obtain ⟨qc0, qc1, qc2, qc3, qc4, qf0, qf1, qf2, qf3, qf4⟩ := HR.out.facts))
      try simp only [Exit.inBlock, Exit.then]
      refine bodyPost_ret (res_rRead _ _ w.heap.size 0 0 0 0 0 (.int .i64 2) rfl rfl (HR.out.putV 0 0 0 0 0)) rfl ⟨?_, HR.out.putB 0 0 0 0 0⟩
      first | (rw [HF.out]; rfl) | rfl
    | true =>
      rw [hk] at HK
      by_cases h5 : (Cut.cut m s.data.toList).length = 5
      · exact ref_read_five s hs w m l h hk h5 h0s h0n h0b x hxm.out HK h0c
      · have HF := Aside0.mk (read_not5 h hk h5)
        have HC := Aside0.mk (show ∀ W, Calls Tryd.prog 26 #[.string s, .int .u8 (x : Int)] W fun e w' => ∃ A c, (Cut.cut m s.data.toList).length ≤ c ∧ e = .returned (.slice A (Cut.cut m s.data.toList).length c) ∧ Below W.heap.size W w' from fun W => (HC0.out W).mono fun e w' ⟨A, c, h1, h2, h3, _⟩ => ⟨A, c, h1, h2, h3⟩)
        obtain ⟨N, hN⟩ : ∃ N, N = (Cut.cut m s.data.toList).length := ⟨_, rfl⟩
        rw [← hN] at HC h5
        have hN5 : ((N : Int) != 5) = true := bne_iff_ne.2 (by omega)
        clear h hk hN HC0
        go_enter Tryd.func12, Tryd.ntmps12
        go_wp2_with (first
          | (go_at_call 25; refine (HK.out _).mono ?_; rintro e w3 ⟨rfl, hw⟩; obtain rfl := hw.symm)
          | (go_at_call 26; refine (HC.out _).mono ?_; rintro e w1 ⟨A, cc, hcc, rfl, hb1⟩; have HR := Aside0.mk ((Rd.start w).below hb1); clear hb1; obtain ⟨qc0, qc1, qc2, qc3, qc4, qf0, qf1, qf2, qf3, qf4⟩ := HR.out.facts))
        try simp only [Exit.inBlock, Exit.then]
        refine bodyPost_ret (res_rRead _ _ w.heap.size 0 0 0 0 0 (.int .i64 2) rfl rfl (HR.out.putV 0 0 0 0 0)) rfl ⟨?_, HR.out.putB 0 0 0 0 0⟩
        first | (rw [HF.out]; rfl) | rfl
end Go.Proofs.YtfbjejkmjbknaaaDoor.Ext
