/- The contract of the reference's Find. -/
import Derived.Test.YtfbjejkmjbknaaaDoorExtFindP
namespace Go.Proofs.YtfbjejkmjbknaaaDoor.Ext
open Go Go.RowKit Go.Proofs.YtfbjejkmjbknaaaDoorW.PrintWords Go.Proofs.YtfbjejkmjbknaaaDoorW.PrintLast Go.Proofs.YtfbjejkmjbknaaaDoorW.PrintMore Go.Proofs.YtfbjejkmjbknaaaDoor.Dig Go.Proofs.YtfbjejkmjbknaaaDoor.Quad Go.Proofs.YtfbjejkmjbknaaaDoor.ExtP Go.Proofs.YtfbjejkmjbknaaaDoor.SixP
set_option linter.unusedVariables false
set_option linter.unusedSimpArgs false

theorem eq_true {a b : UInt8} (h : a = b) : (((a.toNat : Nat) : Int) == (b.toNat : Int)) = true := by rw [h]; exact beq_self_eq_true _
theorem eq_false {a b : UInt8} (h : a ≠ b) : (((a.toNat : Nat) : Int) == (b.toNat : Int)) = false :=
  beq_eq_false_iff_ne.2 fun e => h (UInt8.toNat_inj.1 (by omega))
theorem list_five {l : List UInt8} (h : 5 ≤ l.length) : ∃ m x y z v, l = m :: x :: y :: z ∧ 2 ≤ z.length ∧ z.getLast? = some v ∧ ∃ h : l.length - 1 < l.length, l[l.length - 1] = v := by
  match l, h with
  | m :: x :: y :: a :: b :: r, _ =>
    obtain ⟨z, hz⟩ : ∃ z, z = a :: b :: r := ⟨_, rfl⟩
    have hne : z ≠ [] := by rw [hz]; simp
    refine ⟨m, x, y, z, z.getLast hne, by rw [hz], by rw [hz]; simp, List.getLast?_eq_some_getLast hne, by simp, ?_⟩
    have : (m :: x :: y :: a :: b :: r).getLast (by simp) = z.getLast hne := by subst hz; simp [List.getLast_cons]
    rw [← this, List.getLast_eq_getElem]

set_option maxHeartbeats 2000000 in
set_option maxRecDepth 100000 in
theorem ref_find_calls (s : ByteArray) (hs : s.size ≤ 1000000) (w : World) :
    Calls Tryd.prog 16 #[.string s] w fun e w' => e = .returned (findR (findE s.data.toList)) ∧ w' = w := by
  rw [findE_between]
  have HI := Aside0.mk (fun W => inside_calls s hs W)
  have hbl : ∀ m, between s.data.toList = some m → m.length ≤ 1000000 := by
    intro m h
    simp only [between, Option.bind_eq_some_iff, Option.map_eq_some_iff] at h
    obtain ⟨x, h1, y, h2, h3⟩ := h
    obtain ⟨a, r⟩ := x
    obtain ⟨b, r2⟩ := y
    have e1 := (cut1_is h1).1
    have e2 := (cut1_is h2).1
    have := data_length s
    simp only at h3 e2
    subst h3
    have l1 := congrArg List.length e1
    have l2 := congrArg List.length e2
    simp only [List.length_append, List.length_cons] at l1 l2
    omega
  cases hb : between s.data.toList with
  | none =>
    rw [hb] at HI
    go_enter Tryd.func16, Tryd.ntmps16
    go_wp2_with (go_at_call 34; refine (HI.out _).mono ?_; rintro e w1 ⟨rfl, hw⟩; obtain rfl := hw.symm; simp only [insideR])
    go_ret2
    exact ⟨rfl, rfl⟩
  | some t =>
    rw [hb] at HI
    have hml := hbl t hb
    clear hbl hb
    obtain ⟨M, hM⟩ : ∃ M : ByteArray, M = ⟨t.toArray⟩ := ⟨_, rfl⟩
    have hMl : M.data.toList = t := by rw [hM]
    have HMs := Aside0.mk (show M.size = t.length from by rw [← data_length, hMl])
    have HV := Aside0.mk (show insideR (some t) = .tuple #[.string M, .bool true] from by rw [hM]; rfl)
    clear hM
    by_cases h5 : t.length < 5
    · have hlt : decide (((M.size : Nat) : Int) < 5) = true := decide_eq_true (by have := HMs.out; omega)
      have hlt2 : M.size < 5 := by have := HMs.out; omega
      have HF := Aside0.mk (show findR ((some t).bind inner) = .tuple #[.int .i64 0, .bool false] from by show findR (inner t) = _; rw [inner_short h5]; rfl)
      clear h5
      go_enter Tryd.func16, Tryd.ntmps16
      go_wp2_with (go_at_call 34; refine (HI.out _).mono ?_; rw [HV.out]; rintro e w1 ⟨rfl, hw⟩; obtain rfl := hw.symm)
      go_ret2
      exact ⟨by rw [HF.out]; rfl, rfl⟩
    · obtain ⟨m, x, y, z, v, ht, hz2, hv, hl1, hl2⟩ := list_five (Nat.le_of_not_lt h5)
      have hg := inner_goes m x y v z hv
      rw [← ht] at hg
      have h5' : 5 ≤ M.size := by have := HMs.out; omega
      have h0c : ∀ h : 0 < M.size, ((M[0]'h).toNat : Int) = (m.toNat : Int) := fun h => by have e := bt_byte M 0 (by rw [hMl]; omega); simp only [hMl, ht, List.getElem_cons_zero] at e; rw [← e]; exact bt_at M 0 h
      have h1c : ∀ h : 1 < M.size, ((M[1]'h).toNat : Int) = (x.toNat : Int) := fun h => by have e := bt_byte M 1 (by rw [hMl]; omega); simp only [hMl, ht, List.getElem_cons_zero, List.getElem_cons_succ] at e; rw [← e]; exact bt_at M 1 h
      have h2c : ∀ h : 2 < M.size, ((M[2]'h).toNat : Int) = (y.toNat : Int) := fun h => by have e := bt_byte M 2 (by rw [hMl]; omega); simp only [hMl, ht, List.getElem_cons_zero, List.getElem_cons_succ] at e; rw [← e]; exact bt_at M 2 h
      obtain ⟨L, hL⟩ : ∃ L, M.size = L + 1 := ⟨M.size - 1, by omega⟩
      have hLt : L = t.length - 1 := by have := HMs.out; omega
      have hLc : ∀ h : L < M.size, ((M[L]'h).toNat : Int) = (v.toNat : Int) := fun h => by
        have e := bt_byte M L (by rw [hMl, hLt]; exact hl1)
        subst hLt
        simp only [hMl] at e
        rw [hl2] at e
        rw [← e]; exact bt_at M (((t.length - 1 : Nat) : Int)) h
      have hL4 : 4 ≤ L := by omega
      have hL6 : L < 1000000 := by omega
      have hdr : (t.take L).drop 3 = z.dropLast := by
        rw [hLt, ht, List.dropLast_eq_take]
        simp only [List.length_cons]
        rw [show z.length + 1 + 1 + 1 - 1 = (z.length - 1) + 1 + 1 + 1 from by omega]
        rfl
      have hsl : ∀ W, (Instr.slice 9 (.string M) (some (.int .i64 3)) (some (.int .i64 (L : Int))) none).run Tryd.prog W = .ok (.string ⟨z.dropLast.toArray⟩) W := fun W => by
        have := slice_fk M 3 L (by omega) (by omega) W
        rw [hMl, hdr] at this; exact this
      have HK0 := Aside0.mk (fun W => ref_mark_calls m W)
      have HG0 := Aside0.mk (fun W => ref_get_calls ⟨z.dropLast.toArray⟩ 65535 W)
      have hL5 : decide (((L : Int) + 1) < 5) = false := decide_eq_false (by omega)
      clear hl1 hl2 hLt hdr HMs hv ht hz2 hMl
      obtain ⟨a, ha⟩ : ∃ a, a = m.toNat := ⟨_, rfl⟩
      obtain ⟨b, hb⟩ : ∃ b, b = x.toNat := ⟨_, rfl⟩
      obtain ⟨c, hc⟩ : ∃ c, c = y.toNat := ⟨_, rfl⟩
      obtain ⟨d, hd⟩ : ∃ d, d = v.toNat := ⟨_, rfl⟩
      rw [← ha] at h0c HK0
      rw [← hb] at h1c
      rw [← hc] at h2c
      rw [← hd] at hLc
      rcases hg with ⟨g1, g9⟩ | ⟨g1, g2, g9⟩ | ⟨g1, g2, g3, g9⟩ | ⟨g1, g2, g3, g4, g9⟩ | ⟨g1, g2, g3, g4, g5, g9⟩ | ⟨g1, g2, g3, g4, g5, g9⟩ | ⟨n, g1, g2, g3, g4, n0, n1, g5, g9⟩
      · have HK := HK0
        rw [g1] at HK
        have HF := Aside0.mk (show findR ((some t).bind inner) = .tuple #[.int .i64 0, .bool false] from by show findR (inner t) = _; rw [g9]; rfl)
        clear g1  g9 ha hb hc hd
        go_enter Tryd.func16, Tryd.ntmps16
        go_wp2_with (first
          | (go_at_call 34; refine (HI.out _).mono ?_; rw [HV.out]; rintro e w1 ⟨rfl, hw⟩; obtain rfl := hw.symm)
          | (go_at_call 25; refine (HK.out _).mono ?_; rintro e w1 ⟨rfl, hw⟩; obtain rfl := hw.symm))
        go_ret2
        exact ⟨by rw [HF.out]; rfl, rfl⟩
      · have HK := HK0
        rw [g1] at HK
        have cb : (((b : Nat) : Int) != (a : Int)) = true := by rw [bne, hb, ha, eq_false g2]; rfl
        have HF := Aside0.mk (show findR ((some t).bind inner) = .tuple #[.int .i64 0, .bool false] from by show findR (inner t) = _; rw [g9]; rfl)
        clear g1 g2 g9 ha hb hc hd
        go_enter Tryd.func16, Tryd.ntmps16
        go_wp2_with (first
          | (go_at_call 34; refine (HI.out _).mono ?_; rw [HV.out]; rintro e w1 ⟨rfl, hw⟩; obtain rfl := hw.symm)
          | (go_at_call 25; refine (HK.out _).mono ?_; rintro e w1 ⟨rfl, hw⟩; obtain rfl := hw.symm))
        go_ret2
        exact ⟨by rw [HF.out]; rfl, rfl⟩
      · have HK := HK0
        rw [g1] at HK
        have cb : (((b : Nat) : Int) != (a : Int)) = false := by rw [bne, hb, ha, eq_true g2]; rfl
        have cc : (((c : Nat) : Int) != (a : Int)) = true := by rw [bne, hc, ha, eq_false g3]; rfl
        have HF := Aside0.mk (show findR ((some t).bind inner) = .tuple #[.int .i64 0, .bool false] from by show findR (inner t) = _; rw [g9]; rfl)
        clear g1 g2 g3 g9 ha hb hc hd
        go_enter Tryd.func16, Tryd.ntmps16
        go_wp2_with (first
          | (go_at_call 34; refine (HI.out _).mono ?_; rw [HV.out]; rintro e w1 ⟨rfl, hw⟩; obtain rfl := hw.symm)
          | (go_at_call 25; refine (HK.out _).mono ?_; rintro e w1 ⟨rfl, hw⟩; obtain rfl := hw.symm))
        go_ret2
        exact ⟨by rw [HF.out]; rfl, rfl⟩
      · have HK := HK0
        rw [g1] at HK
        have cb : (((b : Nat) : Int) != (a : Int)) = false := by rw [bne, hb, ha, eq_true g2]; rfl
        have cc : (((c : Nat) : Int) != (a : Int)) = false := by rw [bne, hc, ha, eq_true g3]; rfl
        have cd : (((d : Nat) : Int) != (a : Int)) = true := by rw [bne, hd, ha, eq_false g4]; rfl
        have HF := Aside0.mk (show findR ((some t).bind inner) = .tuple #[.int .i64 0, .bool false] from by show findR (inner t) = _; rw [g9]; rfl)
        clear g1 g2 g3 g4 g9 ha hb hc hd
        go_enter Tryd.func16, Tryd.ntmps16
        go_wp2_with (first
          | (go_at_call 34; refine (HI.out _).mono ?_; rw [HV.out]; rintro e w1 ⟨rfl, hw⟩; obtain rfl := hw.symm)
          | (go_at_call 25; refine (HK.out _).mono ?_; rintro e w1 ⟨rfl, hw⟩; obtain rfl := hw.symm))
        go_ret2
        exact ⟨by rw [HF.out]; rfl, rfl⟩
      · have HK := HK0
        rw [g1] at HK
        have cb : (((b : Nat) : Int) != (a : Int)) = false := by rw [bne, hb, ha, eq_true g2]; rfl
        have cc : (((c : Nat) : Int) != (a : Int)) = false := by rw [bne, hc, ha, eq_true g3]; rfl
        have cd : (((d : Nat) : Int) != (a : Int)) = false := by rw [bne, hd, ha, eq_true g4]; rfl
        have HG := HG0
        rw [show (Dig.get (⟨z.dropLast.toArray⟩ : ByteArray).data.toList 65535) = _ from g5] at HG
        have HF := Aside0.mk (show findR ((some t).bind inner) = .tuple #[.int .i64 0, .bool false] from by show findR (inner t) = _; rw [g9]; rfl)
        clear g1 g2 g3 g4 g5 g9 ha hb hc hd
        go_enter Tryd.func16, Tryd.ntmps16
        go_wp2_with (first
          | (go_at_call 34; refine (HI.out _).mono ?_; rw [HV.out]; rintro e w1 ⟨rfl, hw⟩; obtain rfl := hw.symm)
          | (go_at_call 25; refine (HK.out _).mono ?_; rintro e w1 ⟨rfl, hw⟩; obtain rfl := hw.symm)
          | (go_at_call 27; refine (HG.out _).mono ?_; rintro e w1 ⟨rfl, hw⟩; obtain rfl := hw.symm))
        go_ret2
        exact ⟨by rw [HF.out]; rfl, rfl⟩
      · have HK := HK0
        rw [g1] at HK
        have cb : (((b : Nat) : Int) != (a : Int)) = false := by rw [bne, hb, ha, eq_true g2]; rfl
        have cc : (((c : Nat) : Int) != (a : Int)) = false := by rw [bne, hc, ha, eq_true g3]; rfl
        have cd : (((d : Nat) : Int) != (a : Int)) = false := by rw [bne, hd, ha, eq_true g4]; rfl
        have HG := HG0
        rw [show (Dig.get (⟨z.dropLast.toArray⟩ : ByteArray).data.toList 65535) = _ from g5] at HG
        have HF := Aside0.mk (show findR ((some t).bind inner) = .tuple #[.int .i64 0, .bool false] from by show findR (inner t) = _; rw [g9]; rfl)
        clear g1 g2 g3 g4 g5 g9 ha hb hc hd
        go_enter Tryd.func16, Tryd.ntmps16
        go_wp2_with (first
          | (go_at_call 34; refine (HI.out _).mono ?_; rw [HV.out]; rintro e w1 ⟨rfl, hw⟩; obtain rfl := hw.symm)
          | (go_at_call 25; refine (HK.out _).mono ?_; rintro e w1 ⟨rfl, hw⟩; obtain rfl := hw.symm)
          | (go_at_call 27; refine (HG.out _).mono ?_; rintro e w1 ⟨rfl, hw⟩; obtain rfl := hw.symm))
        go_ret2
        exact ⟨by rw [HF.out]; rfl, rfl⟩
      · have HK := HK0
        rw [g1] at HK
        have cb : (((b : Nat) : Int) != (a : Int)) = false := by rw [bne, hb, ha, eq_true g2]; rfl
        have cc : (((c : Nat) : Int) != (a : Int)) = false := by rw [bne, hc, ha, eq_true g3]; rfl
        have cd : (((d : Nat) : Int) != (a : Int)) = false := by rw [bne, hd, ha, eq_true g4]; rfl
        have HG := HG0
        rw [show (Dig.get (⟨z.dropLast.toArray⟩ : ByteArray).data.toList 65535) = _ from g5] at HG
        have hn1 : decide ((n : Int) < 1) = false := decide_eq_false (by omega)
        have HF := Aside0.mk (show findR ((some t).bind inner) = .tuple #[.int .i64 n, .bool true] from by show findR (inner t) = _; rw [g9]; rfl)
        clear g1 g2 g3 g4 g5 g9 ha hb hc hd
        go_enter Tryd.func16, Tryd.ntmps16
        go_wp2_with (first
          | (go_at_call 34; refine (HI.out _).mono ?_; rw [HV.out]; rintro e w1 ⟨rfl, hw⟩; obtain rfl := hw.symm)
          | (go_at_call 25; refine (HK.out _).mono ?_; rintro e w1 ⟨rfl, hw⟩; obtain rfl := hw.symm)
          | (go_at_call 27; refine (HG.out _).mono ?_; rintro e w1 ⟨rfl, hw⟩; obtain rfl := hw.symm))
        go_ret2
        exact ⟨by rw [HF.out]; rfl, rfl⟩
end Go.Proofs.YtfbjejkmjbknaaaDoor.Ext
