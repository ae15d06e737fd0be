/- Contracts and plain facts that the law's proof needs. -/
import Derived.Test.YtdcbkeihgbekdaaGreatDoorM3
import Derived.Test.YtdcbkeihgbekdaaGreatDoorM2
import Derived.Deep.RegionWith
import Derived.BigQuiet
import Derived.Test.YtdcbkeihgbekdaaGreatDoorM1
import Derived.WalkMore
import Derived.Test.YtdcbkeihgbekdaaGreatDoorProg
import Derived.Below
import Derived.Deep.Draws
import Derived.Deep.AppendLies
import Derived.Maps.AppendAt
import Derived.OwnWalk
import Derived.Laws.BytesArg
import Derived.Laws.MakeOwn
import Derived.Laws.OwnMore
import Derived.Deep.OwnRows
import Derived.Tactics
import Derived.Lib.ConvBytes
import Derived.Laws.Slices
import Derived.WalkKit
import Derived.KernelRfl
import Derived.RowKit3
import Derived.Deep.LoopGhost
import Derived.Deep.QuietTactic
import Derived.WideLaws
import Derived.Deep.DeepCutAuto
import Derived.Deep.CutBlock
import Derived.Deep.RegionHeld3
import Derived.Laws.Rows
import Derived.Lib.AppendStr
import Derived.ArgAppend
import Derived.Laws.IdiomCopy
import Derived.OrdersHeld
import Derived.Laws.BitsLemmas
import Derived.RowKit
namespace Go.Proofs.YtdcbkeihgbekdaaGreatDoor.Ext
open Go Go.RowKit Go.Proofs.YtdcbkeihgbekdaaGreatDoorW.PrintWords Go.Proofs.YtdcbkeihgbekdaaGreatDoorW.PrintLast Go.Proofs.YtdcbkeihgbekdaaGreatDoorW.PrintMore Go.Proofs.YtdcbkeihgbekdaaGreatDoor.Dig Go.Proofs.YtdcbkeihgbekdaaGreatDoor.Quad Go.Proofs.YtdcbkeihgbekdaaGreatDoor.ExtP Go.Proofs.YtdcbkeihgbekdaaGreatDoor.SixP
set_option linter.unusedVariables false
set_option linter.unusedSimpArgs false

set_option maxHeartbeats 4000000 in
set_option maxRecDepth 100000 in
theorem read_not (s : ByteArray) (hs : s.size ≤ 1000000) (w : World) (hm : Mx w) (ak af : Addr) (hx : Ex w ak af) (m : UInt8) (l : List UInt8) (h : s.data.toList = m :: l) (hk : isMark m = true) (h5 : (Cut.cut m s.data.toList).length ≠ 5) :
    Calls Tryz.prog 36 #[.string s] w (ReadIs w ak af (readE s.data.toList)) := by
  have HX := Aside0.mk hx
  have HM := Aside0.mk hm
  clear hx hm
  have hne : s.toList.isEmpty = false := by rw [ByteArray.toList_eq, h]; rfl
  have h0s : 0 < s.size := by rw [← data_length, h]; exact Nat.succ_pos _
  have h0c : ∀ h : 0 < s.size, ((s[0]'h).toNat : Int) = (m.toNat : Int) := fun hh => by have e := bt_byte s 0 (by rw [h]; simp); simp only [h, List.getElem_cons_zero] at e; rw [← e]; exact bt_at s 0 hh
  have HK := Aside0.mk (fun W => mark_calls m W)
  rw [hk] at HK
  obtain ⟨x, hx⟩ : ∃ x, x = m.toNat := ⟨_, rfl⟩
  rw [← hx] at h0c HK
  obtain ⟨X, hX⟩ : ∃ X : ByteArray, X = ⟨#[m]⟩ := ⟨_, rfl⟩
  have hsl : ∀ W, (Instr.slice 9 (.string s) none (some (.int .i64 1)) none).run Tryz.prog W = .ok (.string X) W := slice_1 s X h0s (by rw [h, hX]; rfl)
  obtain ⟨ps, hps, hsp⟩ := split_calls m s (by omega)
  obtain ⟨N, hN⟩ : ∃ N, N = ps.length := ⟨_, rfl⟩
  have hN5 : ((N : Int) != 5) = true := by
    rw [bne_iff_ne]
    have := congrArg List.length hps
    rw [List.length_map] at this
    omega
  have HSP := Aside0.mk (show ∀ W, Mx W → Calls Tryz.prog 34 #[.string s, .string X] W fun e w' => e = .returned (.slice (some ⟨W.heap.size, 0, none⟩) N N) ∧ Below W.heap.size W w' ∧ True from fun W hW => by
    rw [hX, hN]
    refine (hsp W hW).mono ?_
    rintro e w' ⟨he, rfl⟩
    exact ⟨he, (Below.refl _ _).alloc (Nat.le_refl _) _, trivial⟩)
  have HF := Aside0.mk (read_not5 h hk h5)
  clear hps hsp h hk h5 hx hX hN hs
  go_enter Tryz.func36, Tryz.ntmps36
  go_wp2_with (first
    | (go_at_call 44; refine (HK.out _).mono ?_; rintro e w3 ⟨rfl, hw⟩; obtain rfl := hw.symm)
    | (go_at_call 34; refine (HSP.out _ (HM.out.below (Rd.start w).1)).mono ?_; rintro e w1 ⟨rfl, hb1, hg1⟩; have HR := Aside0.mk ((Rd.start w).below hb1); have HG := Aside0.mk hg1; clear hb1 hg1))
  refine wp_at (fun W => Rd w W) HR.out (fun W0 hR0 => ?_)
  replace HR := Aside0.mk hR0
  clear hR0
  obtain ⟨qc0, qc1, qc2, qc3, qc4, qf0, qf1, qf2, qf3, qf4⟩ := HR.out.facts
  go_region_with (go_at_call 56; refine (form_callsO ak af _ (HX.out.below HR.out.drew.1)).mono ?_; rintro ev w9 ⟨x, rfl, hx9, hb9⟩; have HX9 := Aside0.mk hx9; have HR9 := Aside0.mk (HR.out.drew.below hb9); clear hx9 hb9; obtain ⟨yc0, yc1, yc2, yc3, yc4, yf0, yf1, yf2, yf3, yf4⟩ := HR9.out.facts)
  all_goals
    go_wp2
    try simp only [Exit.inBlock, Exit.then]
    refine bodyPost_ret (res_read _ _ w.heap.size 0 0 0 0 0 x rfl rfl (HR9.out.putV 0 0 0 0 0)) rfl ⟨x, ?_, ?_, ?_⟩
    · first | (rw [HF.out]; rfl) | rfl
    · rw [HF.out]; exact HR9.out.putE HX9.out 0 0 0 0 0
    · exact HR9.out.putB 0 0 0 0 0

set_option maxHeartbeats 4000000 in
set_option maxRecDepth 100000 in
theorem read_five (s : ByteArray) (hs : s.size ≤ 1000000) (w : World) (hm : Mx w) (ak af : Addr) (hx : Ex w ak af) (m : UInt8) (l : List UInt8) (h : s.data.toList = m :: l) (hk : isMark m = true) (h5 : (Cut.cut m s.data.toList).length = 5) :
    Calls Tryz.prog 36 #[.string s] w (ReadIs w ak af (readE s.data.toList)) := by
  have HX := Aside0.mk hx
  have HM := Aside0.mk hm
  clear hx hm
  have hne : s.toList.isEmpty = false := by rw [ByteArray.toList_eq, h]; rfl
  have h0s : 0 < s.size := by rw [← data_length, h]; exact Nat.succ_pos _
  have h0c : ∀ h : 0 < s.size, ((s[0]'h).toNat : Int) = (m.toNat : Int) := fun hh => by have e := bt_byte s 0 (by rw [h]; simp); simp only [h, List.getElem_cons_zero] at e; rw [← e]; exact bt_at s 0 hh
  have HK := Aside0.mk (fun W => mark_calls m W)
  rw [hk] at HK
  obtain ⟨x, hx⟩ : ∃ x, x = m.toNat := ⟨_, rfl⟩
  rw [← hx] at h0c HK
  obtain ⟨X, hX⟩ : ∃ X : ByteArray, X = ⟨#[m]⟩ := ⟨_, rfl⟩
  have hsl : ∀ W, (Instr.slice 9 (.string s) none (some (.int .i64 1)) none).run Tryz.prog W = .ok (.string X) W := slice_1 s X h0s (by rw [h, hX]; rfl)
  obtain ⟨ps, hps, hsp⟩ := split_calls m s (by omega)
  have hpl : ps.length = 5 := by rw [← h5, ← hps, List.length_map]
  have hle : ∀ p ∈ ps, p.size ≤ 1000000 := fun p hp => by
    have hmem : p.data.toList ∈ Cut.cut m s.data.toList := by rw [← hps]; exact List.mem_map_of_mem hp
    have := cut_le hmem
    rw [data_length, data_length] at this; omega
  match ps, hpl, hps, hsp, hle with
  | [p0, p1, p2, p3, p4], _, hps, hsp, hle =>
    have HSP := Aside0.mk (show ∀ W, Mx W → Calls Tryz.prog 34 #[.string s, .string X] W fun e w' => e = .returned (.slice (some ⟨W.heap.size, 0, none⟩) 5 5) ∧ Below W.heap.size W w' ∧ w'.heap[W.heap.size]? = some (.cells #[.string p0, .string p1, .string p2, .string p3, .string p4] 9 (0, 0)) from fun W hW => by
      rw [hX]
      refine (hsp W hW).mono ?_
      rintro e w' ⟨he, rfl⟩
      exact ⟨he, (Below.refl _ _).alloc (Nat.le_refl _) _, blk_new _ _⟩)
    have HP := Aside0.mk (show readE s.data.toList = five p1.data.toList p2.data.toList p3.data.toList p4.data.toList from by
      rw [read_parts h hk, ← hps]; rfl)
    have HG1 := Aside0.mk (fun W => get_calls p1 9 W)
    have HG3 := Aside0.mk (fun W => get_calls p3 65535 W)
    have hg1 := getMost_get 9 p1.data.toList
    have hg3 := getMost_get 65535 p3.data.toList
    have HQ := Aside0.mk (fun W hW => Quad.read_calls p2 (by have := hle p2 (by simp); omega) W hW)
    clear hps hsp h hk h5 hx hX hs hle
    by_cases h4 : p4.data.toList = []
    · have h4e : p4.toList = [] := by rw [ByteArray.toList_eq]; exact h4
      have HP4 := Aside0.mk (show readE s.data.toList = five p1.data.toList p2.data.toList p3.data.toList [] from by rw [HP.out, h4])
      clear h4
      cases hk1 : getMost 9 p1.data.toList with
      | none =>
        rw [hk1] at hg1
        rw [show Dig.get p1.data.toList 9 = _ from hg1] at HG1
        have HF := Aside0.mk (show readE s.data.toList = .form from by rw [HP4.out, five, if_neg (by simp), hk1])
        clear hg1 hg3 hk1
        go_enter Tryz.func36, Tryz.ntmps36
        go_wp2_with (first
          | (go_at_call 44; refine (HK.out _).mono ?_; rintro e w3 ⟨rfl, hw⟩; obtain rfl := hw.symm)
          | (go_at_call 34; refine (HSP.out _ (HM.out.below (Rd.start w).1)).mono ?_; rintro e w1 ⟨rfl, hb1, hg1⟩; rw [size_alloc] at hg1; have HR := Aside0.mk ((Rd.start w).below hb1); have HG := Aside0.mk hg1; clear hb1 hg1; have g1 : w1.cell? ⟨w.heap.size + 1, 1, none⟩ = some (.string p1) := (blk_cell HG.out 1).trans rfl; have g4 : w1.cell? ⟨w.heap.size + 1, 4, none⟩ = some (.string p4) := (blk_cell HG.out 4).trans rfl)
          | (go_at_call 35; with_reducible refine (HG1.out _).mono ?_; rintro e w3 ⟨rfl, hw⟩; obtain rfl := hw.symm))
        refine wp_at (fun W => Rd w W) HR.out (fun W0 hR0 => ?_)
        replace HR := Aside0.mk hR0
        clear hR0
        obtain ⟨qc0, qc1, qc2, qc3, qc4, qf0, qf1, qf2, qf3, qf4⟩ := HR.out.facts
        go_region_with (go_at_call 56; refine (form_callsO ak af _ (HX.out.below HR.out.drew.1)).mono ?_; rintro ev w9 ⟨x, rfl, hx9, hb9⟩; have HX9 := Aside0.mk hx9; have HR9 := Aside0.mk (HR.out.drew.below hb9); clear hx9 hb9; obtain ⟨yc0, yc1, yc2, yc3, yc4, yf0, yf1, yf2, yf3, yf4⟩ := HR9.out.facts)
        all_goals
          go_wp2
          try simp only [Exit.inBlock, Exit.then]
          refine bodyPost_ret (res_read _ _ w.heap.size 0 0 0 0 0 x rfl rfl (HR9.out.putV 0 0 0 0 0)) rfl ⟨x, ?_, ?_, ?_⟩
          · first | (rw [HF.out]; rfl) | rfl
          · rw [HF.out]; exact HR9.out.putE HX9.out 0 0 0 0 0
          · exact HR9.out.putB 0 0 0 0 0
      | some k =>
        rw [hk1] at hg1
        rw [show Dig.get p1.data.toList 9 = _ from hg1] at HG1
        have hk9 := ((getMost_iff 9 (by decide) _ _).1 hk1).2
        match k, hk1, HG1, hk9 with
        | 0, hk1, HG1, hk9 =>
          have HF := Aside0.mk (show readE s.data.toList = .form from by rw [HP4.out, five, if_neg (by simp), hk1]; rfl)
          clear hg1 hg3 hk1
          go_enter Tryz.func36, Tryz.ntmps36
          go_wp2_with (first
            | (go_at_call 44; refine (HK.out _).mono ?_; rintro e w3 ⟨rfl, hw⟩; obtain rfl := hw.symm)
            | (go_at_call 34; refine (HSP.out _ (HM.out.below (Rd.start w).1)).mono ?_; rintro e w1 ⟨rfl, hb1, hg1⟩; rw [size_alloc] at hg1; have HR := Aside0.mk ((Rd.start w).below hb1); have HG := Aside0.mk hg1; clear hb1 hg1; have g1 : w1.cell? ⟨w.heap.size + 1, 1, none⟩ = some (.string p1) := (blk_cell HG.out 1).trans rfl; have g4 : w1.cell? ⟨w.heap.size + 1, 4, none⟩ = some (.string p4) := (blk_cell HG.out 4).trans rfl)
            | (go_at_call 35; with_reducible refine (HG1.out _).mono ?_; rintro e w3 ⟨rfl, hw⟩; obtain rfl := hw.symm))
          refine wp_at (fun W => Rd w W) HR.out (fun W0 hR0 => ?_)
          replace HR := Aside0.mk hR0
          clear hR0
          obtain ⟨qc0, qc1, qc2, qc3, qc4, qf0, qf1, qf2, qf3, qf4⟩ := HR.out.facts
          go_region_with (go_at_call 56; refine (form_callsO ak af _ (HX.out.below HR.out.drew.1)).mono ?_; rintro ev w9 ⟨x, rfl, hx9, hb9⟩; have HX9 := Aside0.mk hx9; have HR9 := Aside0.mk (HR.out.drew.below hb9); clear hx9 hb9; obtain ⟨yc0, yc1, yc2, yc3, yc4, yf0, yf1, yf2, yf3, yf4⟩ := HR9.out.facts)
          all_goals
            go_wp2
            try simp only [Exit.inBlock, Exit.then]
            refine bodyPost_ret (res_read _ _ w.heap.size 0 0 0 0 0 x rfl rfl (HR9.out.putV 0 0 0 0 0)) rfl ⟨x, ?_, ?_, ?_⟩
            · first | (rw [HF.out]; rfl) | rfl
            · rw [HF.out]; exact HR9.out.putE HX9.out 0 0 0 0 0
            · exact HR9.out.putB 0 0 0 0 0
        | k + 2, hk1, HG1, hk9 =>
          have HF := Aside0.mk (show readE s.data.toList = .kind from by rw [HP4.out, five, if_neg (by simp), hk1]; rfl)
          obtain ⟨q, hq⟩ : ∃ q, q = k + 2 := ⟨_, rfl⟩
          rw [← hq] at HG1
          have hq0 : ((q : Int) == 0) = false := beq_eq_false_iff_ne.2 (by omega)
          have hq1 : ((q : Int) != 1) = true := bne_iff_ne.2 (by omega)
          have hq2 : ¬ q = 0 := by omega
          clear hg1 hg3 hk1 hq hk9
          go_enter Tryz.func36, Tryz.ntmps36
          go_wp2_with (first
            | (go_at_call 44; refine (HK.out _).mono ?_; rintro e w3 ⟨rfl, hw⟩; obtain rfl := hw.symm)
            | (go_at_call 34; refine (HSP.out _ (HM.out.below (Rd.start w).1)).mono ?_; rintro e w1 ⟨rfl, hb1, hg1⟩; rw [size_alloc] at hg1; have HR := Aside0.mk ((Rd.start w).below hb1); have HG := Aside0.mk hg1; clear hb1 hg1; have g1 : w1.cell? ⟨w.heap.size + 1, 1, none⟩ = some (.string p1) := (blk_cell HG.out 1).trans rfl; have g4 : w1.cell? ⟨w.heap.size + 1, 4, none⟩ = some (.string p4) := (blk_cell HG.out 4).trans rfl)
            | (go_at_call 35; with_reducible refine (HG1.out _).mono ?_; rintro e w3 ⟨rfl, hw⟩; obtain rfl := hw.symm))
          refine wp_at (fun W => Rd w W) HR.out (fun W0 hR0 => ?_)
          replace HR := Aside0.mk hR0
          clear hR0
          obtain ⟨qc0, qc1, qc2, qc3, qc4, qf0, qf1, qf2, qf3, qf4⟩ := HR.out.facts
          obtain ⟨yc0, yc1, yc2, yc3, yc4, yf0, yf1, yf2, yf3, yf4⟩ := (HR.out.below ((Below.refl W0.heap.size W0).alloc (Nat.le_refl _) (.cells #[.int .i64 8, .iface 148 (.pointer (some ak))] 88))).facts
          have hgl := (HX.out.below HR.out.1).kind
          have hpos : 2 < w.heap.size := World.block_lt_of_cell? w _ HX.out.kind
          have hn1 : ¬ w.heap.size = 2 := by omega
          have hn2 : ¬ 2 = w.heap.size := by omega
          have hn3 : W0.heap.size ≠ w.heap.size := Nat.ne_of_gt (blk_lt HR.out.2)
          go_region
          all_goals
            go_wp2
            try simp only [Exit.inBlock, Exit.then]
            refine bodyPost_ret (res_read _ _ w.heap.size 0 0 0 0 0 _ rfl rfl (Rd.two ?_)) rfl ⟨.iface 86 (.pointer (some ⟨W0.heap.size, 0, none⟩)), ?_, ?_, Rd.one (w := w) ?_⟩
            rotate_left
            · rw [HF.out]; rfl
            · rw [HF.out]
              refine .kind W0.heap.size 8 rfl ?_
              repeat first | with_reducible refine blk_far ?_ hn3 _ | with_reducible refine blk_drew ?_ | exact new_at _ _ _ (by simp)
            all_goals
              repeat first | with_reducible exact HR.out | with_reducible refine Rd.same ?_ _ _ rfl | with_reducible refine Rd.alloc ?_ _ | with_reducible refine Rd.drewW ?_
        | 1, hk1, HG1, hk9 =>
          have HP5 := Aside0.mk (show readE s.data.toList = match readN p2.data.toList, getMost 65535 p3.data.toList with | some (a, b, c, d), some p => if p = 0 then .form else .ok a b c d p | _, _ => .form from by rw [HP4.out, five, if_neg (by simp), hk1]; rfl)
          clear hg1 hk1 hk9 HP4
          exact read_one s w ak af HX HM hne h0s x HK h0c X hsl p0 p1 p2 p3 p4 HSP HG1 HG3 hg3 HQ h4e HP5
    · have h4e : p4.toList.isEmpty = false := by rw [ByteArray.toList_eq]; exact List.isEmpty_eq_false_iff.2 h4
      have HF := Aside0.mk (show readE s.data.toList = .form from by rw [HP.out]; exact if_pos h4)
      clear hg1 hg3 h4
      go_enter Tryz.func36, Tryz.ntmps36
      go_wp2_with (first
        | (go_at_call 44; refine (HK.out _).mono ?_; rintro e w3 ⟨rfl, hw⟩; obtain rfl := hw.symm)
        | (go_at_call 34; refine (HSP.out _ (HM.out.below (Rd.start w).1)).mono ?_; rintro e w1 ⟨rfl, hb1, hg1⟩; rw [size_alloc] at hg1; have HR := Aside0.mk ((Rd.start w).below hb1); have HG := Aside0.mk hg1; clear hb1 hg1; have g4 : w1.cell? ⟨w.heap.size + 1, 4, none⟩ = some (.string p4) := (blk_cell HG.out 4).trans rfl))
      refine wp_at (fun W => Rd w W) HR.out (fun W0 hR0 => ?_)
      replace HR := Aside0.mk hR0
      clear hR0
      obtain ⟨qc0, qc1, qc2, qc3, qc4, qf0, qf1, qf2, qf3, qf4⟩ := HR.out.facts
      go_region_with (go_at_call 56; refine (form_callsO ak af _ (HX.out.below HR.out.drew.1)).mono ?_; rintro ev w9 ⟨x, rfl, hx9, hb9⟩; have HX9 := Aside0.mk hx9; have HR9 := Aside0.mk (HR.out.drew.below hb9); clear hx9 hb9; obtain ⟨yc0, yc1, yc2, yc3, yc4, yf0, yf1, yf2, yf3, yf4⟩ := HR9.out.facts)
      all_goals
        go_wp2
        try simp only [Exit.inBlock, Exit.then]
        refine bodyPost_ret (res_read _ _ w.heap.size 0 0 0 0 0 x rfl rfl (HR9.out.putV 0 0 0 0 0)) rfl ⟨x, ?_, ?_, ?_⟩
        · first | (rw [HF.out]; rfl) | rfl
        · rw [HF.out]; exact HR9.out.putE HX9.out 0 0 0 0 0
        · exact HR9.out.putB 0 0 0 0 0
end Go.Proofs.YtdcbkeihgbekdaaGreatDoor.Ext

namespace Go.Proofs.YtdcbkeihgbekdaaGreatDoor.Ext
open Go Go.RowKit Go.Proofs.YtdcbkeihgbekdaaGreatDoorW.PrintWords Go.Proofs.YtdcbkeihgbekdaaGreatDoorW.PrintLast Go.Proofs.YtdcbkeihgbekdaaGreatDoorW.PrintMore Go.Proofs.YtdcbkeihgbekdaaGreatDoor.Dig Go.Proofs.YtdcbkeihgbekdaaGreatDoor.Quad Go.Proofs.YtdcbkeihgbekdaaGreatDoor.ExtP Go.Proofs.YtdcbkeihgbekdaaGreatDoor.SixP
set_option linter.unusedVariables false
set_option linter.unusedSimpArgs false

theorem read_calls (s : ByteArray) (hs : s.size ≤ 1000000) (w : World) (hm : Mx w) (ak af : Addr) (hx : Ex w ak af) :
    Calls Tryz.prog 36 #[.string s] w (ReadIs w ak af (readE s.data.toList)) := by
  match h : s.data.toList with
  | [] => rw [← h]; exact read_short s w ak af hx (.inl h)
  | m :: l =>
    rw [← h]
    cases hk : isMark m with
    | false => exact read_short s w ak af hx (.inr ⟨m, l, h, hk⟩)
    | true =>
      by_cases h5 : (Cut.cut m s.data.toList).length = 5
      · exact read_five s hs w hm ak af hx m l h hk h5
      · exact read_not s hs w hm ak af hx m l h hk h5
theorem outV_form (o : Out) : ∃ a b c d p : Nat, outV o = .agg #[.int .u8 a, .int .u8 b, .int .u8 c, .int .u8 d, .int .i64 p] := by
  cases o with
  | ok a b c d p => exact ⟨a, b, c, d, p, rfl⟩
  | form => exact ⟨0, 0, 0, 0, 0, rfl⟩
  | kind => exact ⟨0, 0, 0, 0, 0, rfl⟩
/-- What Read hands back. -/
def readV (o : Out) : Value := .tuple #[outV o, .int .i64 (outN o)]
theorem res_Read (tmps : Array Value) (W : World) (H : Nat) (a b c d p : Int) (e : Value) (h2 : tmps.getD 2 undef = .pointer (some ⟨H, 0, none⟩)) (h3 : tmps.getD 3 undef = e) (hh : W.heap[H]? = some (.cells #[.int .u8 a, .int .u8 b, .int .u8 c, .int .u8 d, .int .i64 p] 30 (0, 0))) :
   (results Tryz.f17 tmps).run Tryz.prog W = .ok (.tuple #[.agg #[.int .u8 a, .int .u8 b, .int .u8 c, .int .u8 d, .int .i64 p], e]) W := by
  have c0 : W.cell? ⟨H, 0, none⟩ = some (.int .u8 a) := (blk_cell hh 0).trans rfl
  have c1 : W.cell? ⟨H, 1, none⟩ = some (.int .u8 b) := (blk_cell hh 1).trans rfl
  have c2 : W.cell? ⟨H, 2, none⟩ = some (.int .u8 c) := (blk_cell hh 2).trans rfl
  have c3 : W.cell? ⟨H, 3, none⟩ = some (.int .u8 d) := (blk_cell hh 3).trans rfl
  have c4 : W.cell? ⟨H, 4, none⟩ = some (.int .i64 p) := (blk_cell hh 4).trans rfl
  rw [Array.getD_eq_getD_getElem?] at h2 h3
  simp [results, show Tryz.f17.results = #[.cell 2 30, .tmp 3] from rfl, h2, h3, go_sem, c0, c1, c2, c3, c4]
theorem end_cells {W : World} {g : Nat} {a b c d p : Int} (h : W.heap[g]? = some (.cells #[.int .u8 a, .int .u8 b, .int .u8 c, .int .u8 d, .int .i64 p] 30 (0, 0))) : W.cell? ⟨g, 0, none⟩ = some (.int .u8 a) ∧ W.cell? ⟨g, 1, none⟩ = some (.int .u8 b) ∧ W.cell? ⟨g, 2, none⟩ = some (.int .u8 c) ∧ W.cell? ⟨g, 3, none⟩ = some (.int .u8 d) ∧ W.cell? ⟨g, 4, none⟩ = some (.int .i64 p) :=
  ⟨(blk_cell h 0).trans rfl, (blk_cell h 1).trans rfl, (blk_cell h 2).trans rfl, (blk_cell h 3).trans rfl, (blk_cell h 4).trans rfl⟩

set_option maxHeartbeats 4000000 in
set_option maxRecDepth 100000 in
theorem Read_calls (s : ByteArray) (hs : s.size ≤ 1000000) (w : World) (hm : Mx w) (ak af : Addr) (hx : Ex w ak af) :
    Calls Tryz.prog 17 #[.string s] w fun e w' => e = .returned (readV (readE s.data.toList)) ∧ Below w.heap.size w w' := by
  have HRD := Aside0.mk (read_calls s hs (w.alloc (.cells #[.int .u8 0, .int .u8 0, .int .u8 0, .int .u8 0, .int .i64 0] 30)) (hm.below (Rd.start w).1) ak af (hx.below (Rd.start w).1))
  have HX := Aside0.mk hx
  obtain ⟨o, ho⟩ : ∃ o, o = readE s.data.toList := ⟨_, rfl⟩
  rw [← ho] at HRD ⊢
  obtain ⟨a, b, c, d, p, hv⟩ := outV_form o
  obtain ⟨n, hn⟩ : ∃ n, n = outN o := ⟨_, rfl⟩
  have HV := Aside0.mk (And.intro hv hn)
  have HF := Aside0.mk (show readV o = .tuple #[.agg #[.int .u8 a, .int .u8 b, .int .u8 c, .int .u8 d, .int .i64 p], .int .i64 n] from by rw [readV, hv, hn])
  clear hm hx ho hv hn
  go_enter Tryz.func17, Tryz.ntmps17
  go_wp2_with (go_at_call 36; refine HRD.out.mono ?_; rintro ev w1 ⟨e, rfl, he, hb⟩; rw [HV.out.1]; rw [← HV.out.2] at he; have HR := Aside0.mk ((Rd.start w).below hb); have HE := Aside0.mk he; clear he hb)
  refine wp_at (fun W => Rd w W ∧ W.heap[w1.heap.size]? = some (.cells #[.int .u8 a, .int .u8 b, .int .u8 c, .int .u8 d, .int .i64 p] 30 (0, 0)) ∧ ErrIs W ak af n e) ⟨HR.out.alloc _, blk_new _ _, HE.out.below ((Below.refl _ _).alloc (Nat.le_refl _) _)⟩ (fun W0 h0 => ?_)
  have HR0 := Aside0.mk h0.1
  have HC0 := Aside0.mk h0.2.1
  have HE0 := Aside0.mk (h0.2.2.below (Below.refl _ _).drew)
  clear h0 HE
  obtain ⟨qc0, qc1, qc2, qc3, qc4, qf0, qf1, qf2, qf3, qf4⟩ := HR0.out.facts
  obtain ⟨x0, x1, x2, x3, x4⟩ := end_cells HC0.out
  go_region_with (go_at_call 37; refine (number_calls _ ak af (HX.out.below HR0.out.drew.1) n e HE0.out).mono ?_; rintro ev w9 ⟨rfl, hb9⟩; have HR9 := Aside0.mk (HR0.out.drew.below hb9); have HC9 := Aside0.mk (blk_below (blk_drew HC0.out) hb9); clear hb9; obtain ⟨yc0, yc1, yc2, yc3, yc4, yf0, yf1, yf2, yf3, yf4⟩ := HR9.out.facts; obtain ⟨z0, z1, z2, z3, z4⟩ := end_cells HC9.out)
  all_goals
    go_wp2
    try simp only [Exit.inBlock, Exit.then]
    refine bodyPost_ret (res_Read _ _ w.heap.size a b c d p _ rfl rfl (HR9.out.putV a b c d p)) rfl ⟨?_, ?_⟩
    · first | (rw [HF.out]; rfl) | rfl
    · exact HR9.out.putB a b c d p
end Go.Proofs.YtdcbkeihgbekdaaGreatDoor.Ext

namespace Go.Proofs.YtdcbkeihgbekdaaGreatDoor.Ext
open Go Go.RowKit Go.Proofs.YtdcbkeihgbekdaaGreatDoorW.PrintWords Go.Proofs.YtdcbkeihgbekdaaGreatDoorW.PrintLast Go.Proofs.YtdcbkeihgbekdaaGreatDoorW.PrintMore Go.Proofs.YtdcbkeihgbekdaaGreatDoor.Dig Go.Proofs.YtdcbkeihgbekdaaGreatDoor.Quad Go.Proofs.YtdcbkeihgbekdaaGreatDoor.ExtP
set_option linter.unusedVariables false
set_option linter.unusedSimpArgs false

/-- An end in a block of the call's own. -/
def OneE (w W : World) (a b c d : Nat) (p : Int) : Prop :=
  Below w.heap.size w W ∧ W.heap[w.heap.size]? = some (.cells #[.int .u8 a, .int .u8 b, .int .u8 c, .int .u8 d, .int .i64 p] 30 (0, 0))
theorem OneE.start (w : World) (a b c d : Nat) (p : Int) : OneE w (w.alloc (.cells #[.int .u8 a, .int .u8 b, .int .u8 c, .int .u8 d, .int .i64 p] 30)) a b c d p := ⟨(Below.refl _ _).alloc (Nat.le_refl _) _, blk_new w _⟩
theorem OneE.drew {w W : World} {a b c d : Nat} {p : Int} (h : OneE w W a b c d p) : OneE w { W with drawn := W.drawn + 1 } a b c d p := ⟨h.1.drew, h.2⟩
theorem OneE.below {w W W' : World} {a b c d : Nat} {p : Int} (h : OneE w W a b c d p) (hb : Below W.heap.size W W') : OneE w W' a b c d p := ⟨h.1.trans (hb.mono h.1.size), blk_below h.2 hb⟩
theorem OneE.cells {w W : World} {a b c d : Nat} {p : Int} (h : OneE w W a b c d p) : W.cell? ⟨w.heap.size, 0, none⟩ = some (.int .u8 a) ∧ W.cell? ⟨w.heap.size, 1, none⟩ = some (.int .u8 b) ∧ W.cell? ⟨w.heap.size, 2, none⟩ = some (.int .u8 c) ∧ W.cell? ⟨w.heap.size, 3, none⟩ = some (.int .u8 d) ∧ W.cell? ⟨w.heap.size, 4, none⟩ = some (.int .i64 p) :=
  ⟨(blk_cell h.2 0).trans rfl, (blk_cell h.2 1).trans rfl, (blk_cell h.2 2).trans rfl, (blk_cell h.2 3).trans rfl, (blk_cell h.2 4).trans rfl⟩

set_option maxHeartbeats 2000000 in
set_option maxRecDepth 100000 in
theorem text_calls (a b c d : Nat) (p : Int) (ha : a < 256) (hb : b < 256) (hc : c < 256) (hd : d < 256) (w : World) :
    Calls Tryz.prog 27 #[endV a b c d p] w fun e w' => e = .returned (textR a b c d p) ∧ Below w.heap.size w w' := by
  unfold endV
  have HO := Aside0.mk (OneE.start w a b c d p)
  by_cases h : 0 < p ∧ p ≤ 65535
  · obtain ⟨n, rfl⟩ : ∃ n : Nat, p = n := ⟨p.toNat, by omega⟩
    have hp0 : 0 < n := by omega
    have hp1 := decide_eq_true h.1
    have hp2 := decide_eq_true h.2
    have HN := Aside0.mk (show n ≤ 65535 from by omega)
    have HABCD := Aside0.mk (And.intro ha (And.intro hb (And.intro hc hd)))
    obtain ⟨H, hH⟩ : ∃ H : ByteArray, H = ⟨(hostU a b c d).toArray⟩ := ⟨_, rfl⟩
    obtain ⟨N, hN⟩ : ∃ N : ByteArray, N = ⟨(digU n).toArray⟩ := ⟨_, rfl⟩
    have HE := Aside0.mk (show textR a b c d n = .tuple #[str (endU a b c d n), .bool true] from if_pos h)
    have HV := Aside0.mk (And.intro hH hN)
    have HT := Aside0.mk (show tot ([[], [49], hostU a b c d, digU n, []] : List (List UInt8)) ≤ 100000000 ∧ Cut.jn 124 [[], [49], hostU a b c d, digU n, []] = endU a b c d n ∧ (#[.string ⟨#[]⟩, .string ⟨#[49]⟩, .string H, .string N, .string ⟨#[]⟩] : Array Value) = ([[], [49], hostU a b c d, digU n, []].map str).toArray from by
      have h1 := host_short (And.intro ha (And.intro hb (And.intro hc hd))); have h2 := dig_short (show n ≤ 65535 from by omega)
      refine ⟨by simp only [tot, List.length_nil, List.length_cons]; omega, by simp [Cut.jn, endU], by rw [hH, hN]; rfl⟩)
    clear h hH hN ha hb hc hd
    go_enter Tryz.func27, Tryz.ntmps27
    go_wp2
    obtain ⟨W0, hW0⟩ : ∃ W0, W0 = w.alloc (.cells #[.int .u8 a, .int .u8 b, .int .u8 c, .int .u8 d, .int .i64 n] 30) := ⟨_, rfl⟩
    have HW := Aside0.mk (show OneE w W0 a b c d n from by rw [hW0]; exact HO.out)
    rw [← hW0]
    clear hW0 HO
    obtain ⟨q0, q1, q2, q3, q4⟩ := HW.out.cells
    clear hp0 hp1 hp2
    go_region_with (first
      | (go_at_call 51
         with_reducible refine (Quad.text_calls a b c d HABCD.out.1 HABCD.out.2.1 HABCD.out.2.2.1 HABCD.out.2.2.2 _).mono ?_
         rw [← HV.out.1]
         rintro e w5 ⟨rfl, hb5⟩
         have HW5 := Aside0.mk (HW.out.drew.below hb5)
         clear hb5
         obtain ⟨r0, r1, r2, r3, r4⟩ := HW5.out.cells)
      | (go_at_call 49
         with_reducible refine (num_callsP n HN.out _).mono ?_
         rw [← HV.out.2]
         rintro e w6 ⟨rfl, hb6⟩
         have HW6 := Aside0.mk (HW5.out.below hb6)
         clear hb6)
      | (go_at_call 50
         have HL := Row.Lies.whole w6 0 9 9 ([[], [49], hostU a b c d, digU n, []].map str)
         rw [← HT.out.2.2] at HL
         refine (join_lies 124 _ _ 0 _ HL HT.out.1).mono ?_
         rw [HT.out.2.1]
         rintro e w7 ⟨rfl, hb7⟩
         have HB7 := Aside0.mk ((HW6.out.1.alloc HW6.out.1.size _).trans (hb7.mono (HW6.out.1.alloc HW6.out.1.size _).size))
         clear hb7))
    all_goals
      go_wp2
      go_ret2
      exact ⟨by rw [HE.out]; rfl, HB7.out⟩
  · have HE := Aside0.mk (show textR a b c d p = .tuple #[str [], .bool false] from if_neg h)
    have HP := Aside0.mk (decide_eq_false h)
    clear h ha hb hc hd
    go_enter Tryz.func27, Tryz.ntmps27
    go_wp2_with (go_at_call 47; refine (port_calls _ _).mono ?_; rintro e w1 ⟨rfl, hw⟩; obtain rfl := hw.symm; rw [HP.out])
    go_ret2
    exact ⟨by rw [HE.out]; rfl, HO.out.1⟩

set_option maxHeartbeats 2000000 in
set_option maxRecDepth 100000 in
theorem ref_text_calls (a b c d : Nat) (p : Int) (ha : a < 256) (hb : b < 256) (hc : c < 256) (hd : d < 256) (w : World) :
    Calls Tryz.prog 31 #[endV a b c d p] w fun e w' => e = .returned (textR a b c d p) ∧ Below w.heap.size w w' := by
  unfold endV
  have HO := Aside0.mk (OneE.start w a b c d p)
  by_cases h1 : p < 1
  · have h1' := decide_eq_true h1
    have HE := Aside0.mk (show textR a b c d p = .tuple #[str [], .bool false] from if_neg (by omega))
    clear h1
    go_enter Tryz.func31, Tryz.ntmps31
    go_wp2
    go_ret2
    exact ⟨by rw [HE.out]; rfl, HO.out.1⟩
  · have h1' := decide_eq_false h1
    by_cases h2 : 65535 < p
    · have h2' := decide_eq_true h2
      have HE := Aside0.mk (show textR a b c d p = .tuple #[str [], .bool false] from if_neg (by omega))
      clear h1 h2
      go_enter Tryz.func31, Tryz.ntmps31
      go_wp2
      go_ret2
      exact ⟨by rw [HE.out]; rfl, HO.out.1⟩
    · have h2' := decide_eq_false h2
      obtain ⟨n, rfl⟩ : ∃ n : Nat, p = n := ⟨p.toNat, by omega⟩
      have HN := Aside0.mk (show n ≤ 65535 from by omega)
      have HABCD := Aside0.mk (And.intro ha (And.intro hb (And.intro hc hd)))
      obtain ⟨H, hH⟩ : ∃ H : ByteArray, H = ⟨(hostU a b c d).toArray⟩ := ⟨_, rfl⟩
      obtain ⟨N, hN⟩ : ∃ N : ByteArray, N = ⟨(digU n).toArray⟩ := ⟨_, rfl⟩
      have hHs : H.size ≤ 15 := by rw [hH, ← data_length]; exact host_short ⟨ha, hb, hc, hd⟩
      have hNs : N.size ≤ 5 := by rw [hN, ← data_length]; exact dig_short HN.out
      have e1 : (ByteArray.mk #[124, 49, 124]).size = 3 := rfl
      have e2 : (ByteArray.mk #[124]).size = 1 := rfl
      have HE := Aside0.mk (show textR a b c d n = .tuple #[.string (⟨#[124, 49, 124]⟩ ++ H ++ ⟨#[124]⟩ ++ N ++ ⟨#[124]⟩), .bool true] from by
        rw [textR, if_pos (by omega), hH, hN]
        have : (str (endU a b c d n)) = .string (⟨#[124, 49, 124]⟩ ++ (⟨(hostU a b c d).toArray⟩ : ByteArray) ++ ⟨#[124]⟩ ++ (⟨(digU n).toArray⟩ : ByteArray) ++ ⟨#[124]⟩) := by
          refine congrArg Value.string ?_; apply ByteArray.ext; apply Array.ext'; simp [endU, Cut.jn]
        rw [← this]; rfl)
      have HV := Aside0.mk (And.intro hH hN)
      clear h1 h2 hH hN ha hb hc hd
      go_enter Tryz.func31, Tryz.ntmps31
      go_wp2
      refine wp_region_quiet (C := fun W => OneE w W a b c d n) (by kernel_rfl) (by kernel_rfl) HO.out.drew ?_
      simp only []
      repeat
        refine wpQuiet_step (fun K hK => ?_)
        go_simp
        first
          | (refine hK _ ?_; clear hK K)
          | (apply Exists.intro
             refine ⟨fun W hW => ?_, hK _ ?_⟩
             (first
              | (go_at_call 53; with_reducible refine (Quad.ref_text_calls a b c d HABCD.out.1 HABCD.out.2.1 HABCD.out.2.2.1 HABCD.out.2.2.2 _).mono ?_; rw [← HV.out.1]; rintro e w5 ⟨rfl, hb5⟩; exact ⟨rfl, hW.below hb5⟩)
              | (go_at_call 52; with_reducible refine (ref_num_callsP n HN.out _).mono ?_; rw [← HV.out.2]; rintro e w5 ⟨rfl, rfl⟩; exact ⟨rfl, hW⟩)
              | ((try simp only [ByteArray.size_append, e1, e2]); rw [if_neg (by omega)]; exact ⟨rfl, rfl⟩)
              | (obtain ⟨q0, q1, q2, q3, q4⟩ := hW.cells; go_simp; rfl))
             clear hK K)
      refine wpQuiet_nil ?_
      intro W hW
      go_wp2
      go_ret2
      exact ⟨by rw [HE.out]; rfl, hW.1⟩
end Go.Proofs.YtdcbkeihgbekdaaGreatDoor.Ext

namespace Go.Proofs.YtdcbkeihgbekdaaGreatDoor.Turn
open Go Go.RowKit Go.Proofs.YtdcbkeihgbekdaaGreatDoorW.PrintWords Go.Proofs.YtdcbkeihgbekdaaGreatDoorW.PrintLast Go.Proofs.YtdcbkeihgbekdaaGreatDoorW.PrintMore Go.Proofs.YtdcbkeihgbekdaaGreatDoor.Dig Go.Proofs.YtdcbkeihgbekdaaGreatDoor.Quad Go.Proofs.YtdcbkeihgbekdaaGreatDoor.ExtP Go.Proofs.YtdcbkeihgbekdaaGreatDoor.SixP
set_option linter.unusedVariables false
set_option linter.unusedSimpArgs false
abbrev Six6 := Int × Int × Int × Int × Int × Int
def sixE (o : Option (Nat × Nat × Nat × Nat × Nat)) (h0 h1 h2 h3 : Int) : Six6 := match o with
  | some (a, b, c, d, p) => toldE 0 a b c d p h0 h1 h2 h3
  | none => toldE 2 0 0 0 0 0 h0 h1 h2 h3
def extE (o : Out) (h0 h1 h2 h3 : Int) : Six6 := match o with
  | .ok a b c d p => toldE 0 a b c d p h0 h1 h2 h3
  | .form => toldE 2 0 0 0 0 0 h0 h1 h2 h3
  | .kind => toldE 8 0 0 0 0 0 h0 h1 h2 h3
def pointE (verb arg : ByteArray) (h0 h1 h2 h3 : Int) : Six6 :=
  if verb = PORT then sixE (readSix arg.data.toList) h0 h1 h2 h3 else if verb = EPRT then extE (readE arg.data.toList) h0 h1 h2 h3 else toldE 1 0 0 0 0 0 h0 h1 h2 h3
def epsvE (o : Option Nat) (h0 h1 h2 h3 : Int) : Six6 := match o with
  | some q => toldE 0 h0 h1 h2 h3 q h0 h1 h2 h3
  | none => toldE 2 h0 h1 h2 h3 0 h0 h1 h2 h3
def one1 (l : List ByteArray) (X : ByteArray → Six6) (Y : Six6) : Six6 := match l with
  | [s] => X s
  | _ => Y
theorem one1_ne {l : List ByteArray} (h : l.length ≠ 1) (X : ByteArray → Six6) (Y : Six6) : one1 l X Y = Y := by
  match l, h with
  | [], _ => rfl
  | [s], h => exact absurd rfl h
  | _ :: _ :: _, _ => rfl
theorem one1_len {l : List ByteArray} (h : l.length = 1) : ∃ s, l = [s] := by
  match l, h with
  | [s], _ => exact ⟨s, rfl⟩
def listenE (name : ByteArray) (code : Int) (l : List ByteArray) (h0 h1 h2 h3 : Int) : Six6 :=
  if name = PASV then (if code = 227 then one1 l (fun s => sixE (find s.data.toList) h0 h1 h2 h3) (toldE 2 0 0 0 0 0 h0 h1 h2 h3) else toldE 2 0 0 0 0 0 h0 h1 h2 h3)
  else if name = EPSV then (if code = 229 then one1 l (fun s => epsvE (findE s.data.toList) h0 h1 h2 h3) (toldE 2 0 0 0 0 0 h0 h1 h2 h3) else toldE 2 0 0 0 0 0 h0 h1 h2 h3)
  else toldE 1 0 0 0 0 0 h0 h1 h2 h3
theorem lit_ne {s : ByteArray} {l : List UInt8} (h : s ≠ ⟨l.toArray⟩) : (s.toList == l) = false := by
  rw [beq_eq_false_iff_ne]
  intro e
  rw [ByteArray.toList_eq] at e
  exact h (by apply ByteArray.ext; apply Array.ext'; rw [e])

theorem point_calls (verb arg : ByteArray) (hs : arg.size ≤ 1000000) (h0 h1 h2 h3 : Int) (w : World) (hm : WMet w) :
    Calls Tryz.prog 5 #[.agg #[.string verb, .string arg], .agg #[.int .u8 h0, .int .u8 h1, .int .u8 h2, .int .u8 h3]] w fun e w' => e = .returned (endR (pointE verb arg h0 h1 h2 h3)) ∧ Below w.heap.size w w' := by
  obtain ⟨ad, af, hx⟩ := hm.tx
  by_cases hv : verb = PORT
  · subst hv
    have hread : ∀ W, Below w.heap.size w W → _ := fun W hW => Six.read_calls arg (by omega) W (hm.below hW).mx
    rw [pointE, if_pos rfl]
    cases ho : readSix arg.data.toList with
    | none =>
      rw [ho] at hread
      exact point_six PORT arg h0 h1 h2 h3 w ad af hx (by decide +kernel) 0 0 0 0 0 false hread
    | some x =>
      obtain ⟨a, b, c, d, p⟩ := x
      rw [ho] at hread
      exact point_six PORT arg h0 h1 h2 h3 w ad af hx (by decide +kernel) a b c d p true hread
  · by_cases hv2 : verb = EPRT
    · subst hv2
      have hread : ∀ W, Below w.heap.size w W → Calls Tryz.prog 17 #[.string arg] W fun e w' => e = .returned (Ext.readV (readE arg.data.toList)) ∧ Below W.heap.size W w' := fun W hW => by
        obtain ⟨ak, af2, hx2⟩ := (hm.below hW).ex
        exact Ext.Read_calls arg hs W (hm.below hW).mx ak af2 hx2
      rw [pointE, if_neg hv, if_pos rfl]
      cases ho : readE arg.data.toList with
      | ok a b c d p => rw [ho] at hread; exact point_ext EPRT arg h0 h1 h2 h3 w ad af hx (by decide +kernel) (by decide +kernel) a b c d p 0 hread
      | form => rw [ho] at hread; exact point_ext EPRT arg h0 h1 h2 h3 w ad af hx (by decide +kernel) (by decide +kernel) 0 0 0 0 0 2 hread
      | kind => rw [ho] at hread; exact point_ext EPRT arg h0 h1 h2 h3 w ad af hx (by decide +kernel) (by decide +kernel) 0 0 0 0 0 8 hread
    · rw [pointE, if_neg hv, if_neg hv2]
      exact point_other verb arg h0 h1 h2 h3 w ad af hx (lit_ne (l := [80, 79, 82, 84]) hv) (lit_ne (l := [69, 80, 82, 84]) hv2)
theorem row1 {w : World} {A : Option Addr} {s : ByteArray} (hr : Kd.C Kd.string w A 1 [s]) : ∃ ad : Addr, A = some ad ∧ w.cell? ad = some (.string s) := by
  obtain ⟨_, _, hn⟩ := hr
  obtain ⟨ad, rfl, h⟩ := hn (by decide)
  obtain ⟨c, _, hK, hc⟩ := h 0 s rfl
  have hK' : c = [.string s] := hK
  subst hK'
  have := hc 0 (.string s) rfl
  simp only [Nat.zero_mul, Nat.zero_add] at this
  exact ⟨ad, rfl, by simpa [Addr.add] using this⟩
theorem listen_calls (name : ByteArray) (code : Int) (A : Option Addr) (cap : Nat) (l : List ByteArray) (hl : ∀ s, l = [s] → s.size ≤ 1000000) (h0 h1 h2 h3 : Int) (w : World) (hm : WMet w) (hr : Kd.C Kd.string w A l.length l) :
    Calls Tryz.prog 7 #[.string name, .agg #[.int .i64 code, .slice A l.length cap], .agg #[.int .u8 h0, .int .u8 h1, .int .u8 h2, .int .u8 h3]] w fun e w' => e = .returned (endR (listenE name code l h0 h1 h2 h3)) ∧ Below w.heap.size w w' := by
  obtain ⟨ad, af, hx⟩ := hm.tx
  by_cases hv : name = PASV
  · subst hv
    rw [listenE, if_pos rfl]
    by_cases hc : code = 227
    · subst hc
      rw [if_pos rfl]
      by_cases h1' : l.length = 1
      · obtain ⟨s, rfl⟩ := one1_len h1'
        have hread : ∀ W, Below w.heap.size w W → _ := fun W hW => Six.find_calls s (hl s rfl) W (hm.below hW).mx
        cases ho : find s.data.toList with
        | none =>
          rw [ho] at hread
          rw [show ∀ X Y, one1 [s] X Y = X s from fun _ _ => rfl, ho]
          exact listen_six A cap h0 h1 h2 h3 w ad af hx s (fun W hW => row1 (Kd.C_below hr hW)) 0 0 0 0 0 false hread
        | some x =>
          obtain ⟨a, b, c, d, p⟩ := x
          rw [ho] at hread
          rw [show ∀ X Y, one1 [s] X Y = X s from fun _ _ => rfl, ho]
          exact listen_six A cap h0 h1 h2 h3 w ad af hx s (fun W hW => row1 (Kd.C_below hr hW)) a b c d p true hread
      · rw [one1_ne h1']
        exact listen_form PASV A cap l.length 227 h0 h1 h2 h3 w ad af hx 227 rfl (.inr ⟨by decide, by rw [beq_eq_false_iff_ne]; omega⟩)
    · rw [if_neg hc]
      exact listen_form PASV A cap l.length code h0 h1 h2 h3 w ad af hx 227 rfl (.inl (by rw [beq_eq_false_iff_ne]; exact hc))
  · by_cases hv2 : name = EPSV
    · subst hv2
      rw [listenE, if_neg hv, if_pos rfl]
      by_cases hc : code = 229
      · subst hc
        rw [if_pos rfl]
        by_cases h1' : l.length = 1
        · obtain ⟨s, rfl⟩ := one1_len h1'
          obtain ⟨a, b, c, d, p, z, hz⟩ := Six.readR_form (find s.data.toList)
          have hread1 : ∀ W, Below w.heap.size w W → _ := fun W hW => Six.find_calls s (hl s rfl) W (hm.below hW).mx
          have hread : ∀ W, Below w.heap.size w W → _ := fun W hW => Ext.find_calls s (hl s rfl) W (hm.below hW).mx
          rw [hz] at hread1
          cases ho : findE s.data.toList with
          | none =>
            rw [ho] at hread
            rw [show ∀ X Y, one1 [s] X Y = X s from fun _ _ => rfl, ho]
            exact listen_ext A cap h0 h1 h2 h3 w ad af hx s (fun W hW => row1 (Kd.C_below hr hW)) a b c d p z hread1 0 false hread
          | some q =>
            rw [ho] at hread
            rw [show ∀ X Y, one1 [s] X Y = X s from fun _ _ => rfl, ho]
            exact listen_ext A cap h0 h1 h2 h3 w ad af hx s (fun W hW => row1 (Kd.C_below hr hW)) a b c d p z hread1 q true hread
        · rw [one1_ne h1']
          exact listen_form EPSV A cap l.length 229 h0 h1 h2 h3 w ad af hx 229 rfl (.inr ⟨by decide, by rw [beq_eq_false_iff_ne]; omega⟩)
      · rw [if_neg hc]
        exact listen_form EPSV A cap l.length code h0 h1 h2 h3 w ad af hx 229 rfl (.inl (by rw [beq_eq_false_iff_ne]; exact hc))
    · rw [listenE, if_neg hv, if_neg hv2]
      exact listen_other name A cap l.length code h0 h1 h2 h3 w ad af hx hv hv2
/-- The command that tells an end. -/
def askE (name : ByteArray) (a b c d : Nat) (p : Int) : ByteArray × ByteArray × Bool :=
  if highB p = true then (if name = PORT then (PORT, ⟨(sixU a b c d p.toNat).toArray⟩, true) else if name = EPRT then (EPRT, ⟨(endU a b c d p.toNat).toArray⟩, true) else (⟨#[]⟩, ⟨#[]⟩, false)) else (⟨#[]⟩, ⟨#[]⟩, false)
theorem high_iff {p : Int} : highB p = true ↔ 1024 ≤ p ∧ p ≤ 65535 := by simp [highB]
theorem six_text (a b c d : Nat) (p : Int) (h : a < 256 ∧ b < 256 ∧ c < 256 ∧ d < 256) (hp : highB p = true) (w : World) : Calls Tryz.prog 26 #[.agg #[.int .u8 a, .int .u8 b, .int .u8 c, .int .u8 d, .int .i64 p]] w fun e w' => e = .returned (.tuple #[.string ⟨(sixU a b c d p.toNat).toArray⟩, .bool true]) ∧ Below w.heap.size w w' := by
  have := Six.text_calls a b c d p h.1 h.2.1 h.2.2.1 h.2.2.2 w
  rw [Six.textR, if_neg (by have := high_iff.1 hp; omega)] at this
  exact this
theorem ext_text (a b c d : Nat) (p : Int) (h : a < 256 ∧ b < 256 ∧ c < 256 ∧ d < 256) (hp : highB p = true) (w : World) : Calls Tryz.prog 27 #[.agg #[.int .u8 a, .int .u8 b, .int .u8 c, .int .u8 d, .int .i64 p]] w fun e w' => e = .returned (.tuple #[.string ⟨(endU a b c d p.toNat).toArray⟩, .bool true]) ∧ Below w.heap.size w w' := by
  have := Ext.text_calls a b c d p h.1 h.2.1 h.2.2.1 h.2.2.2 w
  rw [Ext.textR, if_pos (by have := high_iff.1 hp; omega)] at this
  exact this
theorem ask_calls (name : ByteArray) (a b c d : Nat) (p : Int) (h : a < 256 ∧ b < 256 ∧ c < 256 ∧ d < 256) (w : World) :
    Calls Tryz.prog 9 #[.string name, .agg #[.int .u8 a, .int .u8 b, .int .u8 c, .int .u8 d, .int .i64 p]] w fun e w' => e = .returned (.tuple #[.agg #[.string (askE name a b c d p).1, .string (askE name a b c d p).2.1], .bool (askE name a b c d p).2.2]) ∧ Below w.heap.size w w' := by
  by_cases hv : name = PORT
  · subst hv
    cases hp : highB p
    · rw [askE, if_neg (by rw [hp]; decide)]
      exact ask_low PORT a b c d p w SixF rfl hp
    · rw [askE, if_pos hp, if_pos rfl]
      exact ask_port a b c d p w _ hp (fun W _ => six_text a b c d p h hp W)
  · by_cases hv2 : name = EPRT
    · subst hv2
      cases hp : highB p
      · rw [askE, if_neg (by rw [hp]; decide)]
        exact ask_low EPRT a b c d p w ExtF rfl hp
      · rw [askE, if_pos hp, if_neg hv, if_pos rfl]
        exact ask_eprt a b c d p w _ hp (fun W _ => ext_text a b c d p h hp W)
    · have e : askE name a b c d p = (⟨#[]⟩, ⟨#[]⟩, false) := by
        by_cases hp : highB p = true
        · rw [askE, if_pos hp, if_neg hv, if_neg hv2]
        · rw [askE, if_neg hp]
      rw [e]
      exact ask_other name a b c d p w ⟨hv, hv2⟩
/-- The reply that tells an end: its code, its line. -/
def tellE (name : ByteArray) (a b c d : Nat) (p : Int) : Option (Int × ByteArray) :=
  if highB p = true then (if name = PASV then some (227, entering ++ ⟨(sixU a b c d p.toNat).toArray⟩ ++ ⟨#[41, 46]⟩) else if name = EPSV then some (229, entended ++ ⟨(portU p.toNat).toArray⟩ ++ ⟨#[46]⟩) else none) else none
/-- What a call of Tell hands back. -/
def TellR (w : World) (o : Option (Int × ByteArray)) (e : Ending) (w' : World) : Prop := match o with
  | some (code, t) => Told w code t e w'
  | none => e = .returned (.tuple #[.agg #[.int .i64 0, .slice none 0 0], .bool false]) ∧ Below w.heap.size w w'
theorem six_short (a b c d p : Nat) (h : a < 256 ∧ b < 256 ∧ c < 256 ∧ d < 256) (hp : p ≤ 65535) : (sixU a b c d p).length ≤ 100 := by
  have hll : ∀ n : Nat, n < 256 → (digU n).length ≤ 3 := fun n hn => by rw [digU_len]; exact dig_len 2 n (by omega)
  have := hll a h.1; have := hll b h.2.1; have := hll c h.2.2.1; have := hll d h.2.2.2; have := hll (p / 256) (by omega); have := hll (p % 256) (by omega)
  simp only [sixU, Cut.jn, List.length_append, List.length_cons, List.length_nil]; omega
theorem tell_calls (name : ByteArray) (a b c d : Nat) (p : Int) (h : a < 256 ∧ b < 256 ∧ c < 256 ∧ d < 256) (w : World) :
    Calls Tryz.prog 11 #[.string name, .agg #[.int .u8 a, .int .u8 b, .int .u8 c, .int .u8 d, .int .i64 p]] w (TellR w (tellE name a b c d p)) := by
  cases hp : highB p
  · have e : tellE name a b c d p = none := by rw [tellE, if_neg (by rw [hp]; decide)]
    rw [e]
    exact tell_no name a b c d p w (.inl hp)
  · have hh := high_iff.1 hp
    by_cases hv : name = PASV
    · subst hv
      rw [tellE, if_pos hp, if_pos rfl]
      exact tell_pasv a b c d p w _ (by rw [← data_length]; show (sixU a b c d p.toNat).length ≤ _; have := six_short a b c d p.toNat h (by omega); omega) hp (fun W _ => six_text a b c d p h hp W)
    · by_cases hv2 : name = EPSV
      · subst hv2
        rw [tellE, if_pos hp, if_neg hv, if_pos rfl]
        refine tell_epsv a b c d p w _ (by rw [← data_length]; show (portU p.toNat).length ≤ _; have := Ext.dig_short (p := p.toNat) (by omega); simp only [portU, List.length_cons, List.length_append, List.length_nil]; omega) hp (fun W _ => ?_)
        have := Ext.portT_calls p W
        rw [Ext.portR, if_pos (by omega)] at this
        exact this
      · have e : tellE name a b c d p = none := by rw [tellE, if_pos hp, if_neg hv, if_neg hv2]
        rw [e]
        exact tell_no name a b c d p w (.inr ⟨hp, lit_ne (l := [80, 65, 83, 86]) hv, lit_ne (l := [69, 80, 83, 86]) hv2⟩)
end Go.Proofs.YtdcbkeihgbekdaaGreatDoor.Turn

namespace Go.Proofs.YtdcbkeihgbekdaaGreatDoor.Wk
open Go Go.RowKit
theorem st1 {w v : World} (h : Below w.heap.size w v) (o1 : Obj) : Below w.heap.size w (v.alloc o1) := h.alloc h.size o1
theorem st2 {w v : World} (h : Below w.heap.size w v) (o1 o2 : Obj) : Below w.heap.size w ((v.alloc o1).alloc o2) := st1 (st1 h o1) o2
theorem st3 {w v : World} (h : Below w.heap.size w v) (o1 o2 o3 : Obj) : Below w.heap.size w (((v.alloc o1).alloc o2).alloc o3) := st1 (st2 h o1 o2) o3
theorem st4 {w v : World} (h : Below w.heap.size w v) (o1 o2 o3 o4 : Obj) : Below w.heap.size w ((((v.alloc o1).alloc o2).alloc o3).alloc o4) := st1 (st3 h o1 o2 o3) o4
theorem nw0 (w : World) (o1 : Obj) : (w.alloc o1).heap[w.heap.size]? = some o1 := by
  cases o1 <;> exact (MapKept.heap_alloc w _).1
theorem nw1 (w : World) (o1 o2 : Obj) : ((w.alloc o1).alloc o2).heap[w.heap.size + 1]? = some o2 := by
  have := nw0 (w.alloc o1) o2
  simpa using this
theorem nw2 (w : World) (o1 o2 o3 : Obj) : (((w.alloc o1).alloc o2).alloc o3).heap[w.heap.size + 1 + 1]? = some o3 := by
  have := nw0 ((w.alloc o1).alloc o2) o3
  simpa using this
theorem nw3 (w : World) (o1 o2 o3 o4 : Obj) : ((((w.alloc o1).alloc o2).alloc o3).alloc o4).heap[w.heap.size + 1 + 1 + 1]? = some o4 := by
  have := nw0 (((w.alloc o1).alloc o2).alloc o3) o4
  simpa using this
end Go.Proofs.YtdcbkeihgbekdaaGreatDoor.Wk
namespace Go.Proofs.YtdcbkeihgbekdaaGreatDoor.Turn
open Go Go.RowKit Go.Proofs.YtdcbkeihgbekdaaGreatDoorW.PrintWords Go.Proofs.YtdcbkeihgbekdaaGreatDoorW.PrintLast Go.Proofs.YtdcbkeihgbekdaaGreatDoorW.PrintMore Go.Proofs.YtdcbkeihgbekdaaGreatDoor.Dig Go.Proofs.YtdcbkeihgbekdaaGreatDoor.Quad Go.Proofs.YtdcbkeihgbekdaaGreatDoor.ExtP Go.Proofs.YtdcbkeihgbekdaaGreatDoor.SixP
set_option linter.unusedVariables false
set_option linter.unusedSimpArgs false
set_option maxHeartbeats 4000000 in
set_option maxRecDepth 100000 in
theorem eq_end (a b c d p a' b' c' d' p' : Int) (W : World) : (Op.equalIn 10000 30 (.agg #[.int .u8 a, .int .u8 b, .int .u8 c, .int .u8 d, .int .i64 p]) (.agg #[.int .u8 a', .int .u8 b', .int .u8 c', .int .u8 d', .int .i64 p'])).run Tryz.prog W = .ok ((a == a' && (b == b' && (c == c' && d == d'))) && p == p') W :=
  eqA_of (d := 9999) Tryz.underlying30 (by kernel_rfl)
    (eqf_cons rfl (show _ = Result.ok (.agg #[.int .u8 a, .int .u8 b, .int .u8 c, .int .u8 d]) W from rfl) (show _ = Result.ok (.agg #[.int .u8 a', .int .u8 b', .int .u8 c', .int .u8 d']) W from rfl) (eq_host' 9997 a b c d a' b' c' d' W)
      (eqf_last rfl (show _ = Result.ok (.int .i64 p) W from rfl) (show _ = Result.ok (.int .i64 p') W from rfl) (run_equalIn_int W 9998 3 .i64 .i64 p p' Tryz.underlying3)))
set_option maxRecDepth 100000 in
theorem eq_cmd (a b a' b' : ByteArray) (W : World) : (Op.equalIn 10000 23 (.agg #[.string a, .string b]) (.agg #[.string a', .string b'])).run Tryz.prog W = .ok (a.toList == a'.toList && b.toList == b'.toList) W :=
  eqA_of (d := 9999) Tryz.underlying23 (by kernel_rfl)
    (eqf_cons rfl (show _ = Result.ok (.string a) W from rfl) (show _ = Result.ok (.string a') W from rfl) (run_equalIn_string W 9998 9 a a' Tryz.underlying9)
      (eqf_last rfl (show _ = Result.ok (.string b) W from rfl) (show _ = Result.ok (.string b') W from rfl) (run_equalIn_string W 9998 9 b b' Tryz.underlying9)))
def awS : ByteArray := ⟨#[49, 48, 44, 48, 44, 48, 44, 49, 44, 56, 44, 48]⟩
def awL : ByteArray := entering ++ awS ++ ⟨#[41, 46]⟩
theorem aw_read : readSix awS.data.toList = some (10, 0, 0, 1, 2048) := by decide +kernel
theorem aw_find : find awL.data.toList = some (10, 0, 0, 1, 2048) := by decide +kernel
theorem aw_six : sixU 10 0 0 1 2048 = awS.data.toList := by
  have := (readSix_iff _ _ _ _ _ _).1 aw_read
  exact this.1.symm
theorem aw_point1 (w : World) (hm : WMet w) : Calls Tryz.prog 5 #[.agg #[.string ⟨#[80, 79, 82, 84]⟩, .string ⟨#[49, 48, 44, 48, 44, 48, 44, 49, 44, 56, 44, 48]⟩], .agg #[.int .u8 10, .int .u8 0, .int .u8 0, .int .u8 1]] w fun e w' => e = .returned (.tuple #[.agg #[.int .u8 10, .int .u8 0, .int .u8 0, .int .u8 1, .int .i64 2048], .int .i64 0]) ∧ Below w.heap.size w w' := by
  have := point_calls PORT awS (by decide) 10 0 0 1 w hm
  rw [pointE, if_pos rfl, aw_read] at this
  exact this
theorem aw_point2 (w : World) (hm : WMet w) : Calls Tryz.prog 5 #[.agg #[.string ⟨#[80, 79, 82, 84]⟩, .string ⟨#[49, 48, 44, 48, 44, 48, 44, 49, 44, 56, 44, 48]⟩], .agg #[.int .u8 10, .int .u8 0, .int .u8 0, .int .u8 2]] w fun e w' => e = .returned (.tuple #[.agg #[.int .u8 0, .int .u8 0, .int .u8 0, .int .u8 0, .int .i64 0], .int .i64 6]) ∧ Below w.heap.size w w' := by
  have := point_calls PORT awS (by decide) 10 0 0 2 w hm
  rw [pointE, if_pos rfl, aw_read] at this
  exact this
theorem aw_ask (w : World) : Calls Tryz.prog 9 #[.string ⟨#[80, 79, 82, 84]⟩, .agg #[.int .u8 10, .int .u8 0, .int .u8 0, .int .u8 1, .int .i64 2048]] w fun e w' => e = .returned (.tuple #[.agg #[.string ⟨#[80, 79, 82, 84]⟩, .string ⟨#[49, 48, 44, 48, 44, 48, 44, 49, 44, 56, 44, 48]⟩], .bool true]) ∧ Below w.heap.size w w' := by
  have := ask_calls PORT 10 0 0 1 2048 (by decide) w
  rw [show askE PORT 10 0 0 1 2048 = (PORT, awS, true) from by
    rw [askE, if_pos (by decide), if_pos rfl, show ((2048 : Int)).toNat = 2048 from rfl, aw_six]] at this
  exact this
theorem aw_tell (w : World) : Calls Tryz.prog 11 #[.string ⟨#[80, 65, 83, 86]⟩, .agg #[.int .u8 10, .int .u8 0, .int .u8 0, .int .u8 1, .int .i64 2048]] w (Told w 227 awL) := by
  have := tell_calls PASV 10 0 0 1 2048 (by decide) w
  rw [show tellE PASV 10 0 0 1 2048 = some (227, awL) from by
    rw [tellE, if_pos (by decide), if_pos rfl, show ((2048 : Int)).toNat = 2048 from rfl, aw_six]; rfl] at this
  exact this
theorem row_of {w : World} {g : Nat} {s : ByteArray} (h : w.heap[g]? = some (.cells #[.string s] 9 (0, 0))) : Kd.C Kd.string w (some ⟨g, 0, none⟩) 1 [s] := by
  refine ⟨rfl, by decide, fun _ => ⟨⟨g, 0, none⟩, rfl, fun j p hj => ?_⟩⟩
  have hj0 : j = 0 := by
    have := (List.getElem?_eq_some_iff.1 hj).1
    simp at this; exact this
  subst hj0
  obtain rfl : s = p := by simpa using hj
  refine ⟨[.string s], rfl, rfl, fun k u hk => ?_⟩
  have hk0 : k = 0 := by
    have := (List.getElem?_eq_some_iff.1 hk).1
    simpa [Kd.string, Kd.scalar] using this
  subst hk0
  obtain rfl : Value.string s = u := by simpa using hk
  exact (blk_cell h 0).trans rfl
theorem aw_listen (g : Nat) (w : World) (hm : WMet w) (hg : w.heap[g]? = some (.cells #[.string awL] 9 (0, 0))) : Calls Tryz.prog 7 #[.string ⟨#[80, 65, 83, 86]⟩, .agg #[.int .i64 227, .slice (some ⟨g, 0, none⟩) 1 1], .agg #[.int .u8 10, .int .u8 0, .int .u8 0, .int .u8 1]] w fun e w' => e = .returned (.tuple #[.agg #[.int .u8 10, .int .u8 0, .int .u8 0, .int .u8 1, .int .i64 2048], .int .i64 0]) ∧ Below w.heap.size w w' := by
  have := listen_calls PASV 227 (some ⟨g, 0, none⟩) 1 [awL] (fun s hs => by cases hs; decide +kernel) 10 0 0 1 w hm (row_of hg)
  rw [show listenE PASV 227 [awL] 10 0 0 1 = (10, 0, 0, 1, 2048, 0) from by
    rw [listenE, if_pos rfl, if_pos rfl, show ∀ X Y, one1 [awL] X Y = X awL from fun _ _ => rfl, aw_find]; rfl] at this
  exact this
set_option maxHeartbeats 4000000 in
set_option maxRecDepth 100000 in
theorem awake_calls (w : World) (hm : WMet w) : Calls Tryz.prog 4 #[] w fun e w' => e = .returned (.bool true) ∧ Below w.heap.size w w' := by
  have HM := Aside0.mk hm
  have HB := Aside0.mk (Below.refl w.heap.size w)
  have q1 : ∀ W, _ := fun W => eq_end 10 0 0 1 2048 10 0 0 1 2048 W
  have q2 : ∀ W, _ := fun W => eq_cmd ⟨#[80, 79, 82, 84]⟩ ⟨#[49, 48, 44, 48, 44, 48, 44, 49, 44, 56, 44, 48]⟩ ⟨#[80, 79, 82, 84]⟩ ⟨#[49, 48, 44, 48, 44, 48, 44, 49, 44, 56, 44, 48]⟩ W
  clear hm
  go_enter Tryz.func4, Tryz.ntmps4
  go_wp2_with (first
    | (go_at_call 5; (with_reducible refine (aw_point1 _ (HM.out.below (Wk.st1 HB.out _))).mono ?_); rintro e v1 ⟨rfl, hb⟩; have KC := Aside0.mk (blk_below (Wk.nw0 w (.cells #[.string ⟨#[80, 79, 82, 84]⟩, .string ⟨#[49, 48, 44, 48, 44, 48, 44, 49, 44, 56, 44, 48]⟩] 23)) hb); replace HB := Aside0.mk ((Wk.st1 HB.out _).trans (hb.mono (Wk.st1 HB.out _).size)); clear hb; have c0C0 : v1.cell? ⟨w.heap.size, 0, none⟩ = some (.string ⟨#[80, 79, 82, 84]⟩) := (blk_cell KC.out 0).trans rfl; have c1C0 : ∀ o0, (v1.alloc o0).cell? ⟨w.heap.size, 0, none⟩ = some (.string ⟨#[80, 79, 82, 84]⟩) := fun o0 => (blk_cell (blk_alloc KC.out o0) 0).trans rfl; have c2C0 : ∀ o0 o1, ((v1.alloc o0).alloc o1).cell? ⟨w.heap.size, 0, none⟩ = some (.string ⟨#[80, 79, 82, 84]⟩) := fun o0 o1 => (blk_cell (blk_alloc (blk_alloc KC.out o0) o1) 0).trans rfl; have c0C1 : v1.cell? ⟨w.heap.size, 1, none⟩ = some (.string ⟨#[49, 48, 44, 48, 44, 48, 44, 49, 44, 56, 44, 48]⟩) := (blk_cell KC.out 1).trans rfl; have c1C1 : ∀ o0, (v1.alloc o0).cell? ⟨w.heap.size, 1, none⟩ = some (.string ⟨#[49, 48, 44, 48, 44, 48, 44, 49, 44, 56, 44, 48]⟩) := fun o0 => (blk_cell (blk_alloc KC.out o0) 1).trans rfl; have c2C1 : ∀ o0 o1, ((v1.alloc o0).alloc o1).cell? ⟨w.heap.size, 1, none⟩ = some (.string ⟨#[49, 48, 44, 48, 44, 48, 44, 49, 44, 56, 44, 48]⟩) := fun o0 o1 => (blk_cell (blk_alloc (blk_alloc KC.out o0) o1) 1).trans rfl; have tok1 := trivial)
    | (go_at_call 5; (with_reducible refine (aw_point2 _ (HM.out.below (Wk.st1 HB.out _))).mono ?_); rintro e v2 ⟨rfl, hb⟩; clear c0C0 c1C0 c2C0 c0C1 c1C1 c2C1; replace KC := Aside0.mk (blk_below (blk_alloc KC.out _) hb); have KE := Aside0.mk (blk_below (Wk.nw0 v1 (.cells #[.int .u8 10, .int .u8 0, .int .u8 0, .int .u8 1, .int .i64 2048] 30)) hb); replace HB := Aside0.mk ((Wk.st1 HB.out _).trans (hb.mono (Wk.st1 HB.out _).size)); clear hb; have c0C0 : v2.cell? ⟨w.heap.size, 0, none⟩ = some (.string ⟨#[80, 79, 82, 84]⟩) := (blk_cell KC.out 0).trans rfl; have c1C0 : ∀ o0, (v2.alloc o0).cell? ⟨w.heap.size, 0, none⟩ = some (.string ⟨#[80, 79, 82, 84]⟩) := fun o0 => (blk_cell (blk_alloc KC.out o0) 0).trans rfl; have c2C0 : ∀ o0 o1, ((v2.alloc o0).alloc o1).cell? ⟨w.heap.size, 0, none⟩ = some (.string ⟨#[80, 79, 82, 84]⟩) := fun o0 o1 => (blk_cell (blk_alloc (blk_alloc KC.out o0) o1) 0).trans rfl; have c0C1 : v2.cell? ⟨w.heap.size, 1, none⟩ = some (.string ⟨#[49, 48, 44, 48, 44, 48, 44, 49, 44, 56, 44, 48]⟩) := (blk_cell KC.out 1).trans rfl; have c1C1 : ∀ o0, (v2.alloc o0).cell? ⟨w.heap.size, 1, none⟩ = some (.string ⟨#[49, 48, 44, 48, 44, 48, 44, 49, 44, 56, 44, 48]⟩) := fun o0 => (blk_cell (blk_alloc KC.out o0) 1).trans rfl; have c2C1 : ∀ o0 o1, ((v2.alloc o0).alloc o1).cell? ⟨w.heap.size, 1, none⟩ = some (.string ⟨#[49, 48, 44, 48, 44, 48, 44, 49, 44, 56, 44, 48]⟩) := fun o0 o1 => (blk_cell (blk_alloc (blk_alloc KC.out o0) o1) 1).trans rfl; have c0E0 : v2.cell? ⟨v1.heap.size, 0, none⟩ = some (.int .u8 10) := (blk_cell KE.out 0).trans rfl; have c1E0 : ∀ o0, (v2.alloc o0).cell? ⟨v1.heap.size, 0, none⟩ = some (.int .u8 10) := fun o0 => (blk_cell (blk_alloc KE.out o0) 0).trans rfl; have c2E0 : ∀ o0 o1, ((v2.alloc o0).alloc o1).cell? ⟨v1.heap.size, 0, none⟩ = some (.int .u8 10) := fun o0 o1 => (blk_cell (blk_alloc (blk_alloc KE.out o0) o1) 0).trans rfl; have c0E1 : v2.cell? ⟨v1.heap.size, 1, none⟩ = some (.int .u8 0) := (blk_cell KE.out 1).trans rfl; have c1E1 : ∀ o0, (v2.alloc o0).cell? ⟨v1.heap.size, 1, none⟩ = some (.int .u8 0) := fun o0 => (blk_cell (blk_alloc KE.out o0) 1).trans rfl; have c2E1 : ∀ o0 o1, ((v2.alloc o0).alloc o1).cell? ⟨v1.heap.size, 1, none⟩ = some (.int .u8 0) := fun o0 o1 => (blk_cell (blk_alloc (blk_alloc KE.out o0) o1) 1).trans rfl; have c0E2 : v2.cell? ⟨v1.heap.size, 2, none⟩ = some (.int .u8 0) := (blk_cell KE.out 2).trans rfl; have c1E2 : ∀ o0, (v2.alloc o0).cell? ⟨v1.heap.size, 2, none⟩ = some (.int .u8 0) := fun o0 => (blk_cell (blk_alloc KE.out o0) 2).trans rfl; have c2E2 : ∀ o0 o1, ((v2.alloc o0).alloc o1).cell? ⟨v1.heap.size, 2, none⟩ = some (.int .u8 0) := fun o0 o1 => (blk_cell (blk_alloc (blk_alloc KE.out o0) o1) 2).trans rfl; have c0E3 : v2.cell? ⟨v1.heap.size, 3, none⟩ = some (.int .u8 1) := (blk_cell KE.out 3).trans rfl; have c1E3 : ∀ o0, (v2.alloc o0).cell? ⟨v1.heap.size, 3, none⟩ = some (.int .u8 1) := fun o0 => (blk_cell (blk_alloc KE.out o0) 3).trans rfl; have c2E3 : ∀ o0 o1, ((v2.alloc o0).alloc o1).cell? ⟨v1.heap.size, 3, none⟩ = some (.int .u8 1) := fun o0 o1 => (blk_cell (blk_alloc (blk_alloc KE.out o0) o1) 3).trans rfl; have c0E4 : v2.cell? ⟨v1.heap.size, 4, none⟩ = some (.int .i64 2048) := (blk_cell KE.out 4).trans rfl; have c1E4 : ∀ o0, (v2.alloc o0).cell? ⟨v1.heap.size, 4, none⟩ = some (.int .i64 2048) := fun o0 => (blk_cell (blk_alloc KE.out o0) 4).trans rfl; have c2E4 : ∀ o0 o1, ((v2.alloc o0).alloc o1).cell? ⟨v1.heap.size, 4, none⟩ = some (.int .i64 2048) := fun o0 o1 => (blk_cell (blk_alloc (blk_alloc KE.out o0) o1) 4).trans rfl; have tok2 := trivial)
    | (go_at_call 9; (with_reducible refine (aw_ask _).mono ?_); rintro e v3 ⟨rfl, hb⟩; clear c0C0 c1C0 c2C0 c0C1 c1C1 c2C1 c0E0 c1E0 c2E0 c0E1 c1E1 c2E1 c0E2 c1E2 c2E2 c0E3 c1E3 c2E3 c0E4 c1E4 c2E4; replace KC := Aside0.mk (blk_below (blk_alloc KC.out _) hb); replace KE := Aside0.mk (blk_below (blk_alloc KE.out _) hb); have KF := Aside0.mk (blk_below (Wk.nw0 v2 (.cells #[.int .u8 0, .int .u8 0, .int .u8 0, .int .u8 0, .int .i64 0] 30)) hb); replace HB := Aside0.mk ((Wk.st1 HB.out _).trans (hb.mono (Wk.st1 HB.out _).size)); clear hb; have c0C0 : v3.cell? ⟨w.heap.size, 0, none⟩ = some (.string ⟨#[80, 79, 82, 84]⟩) := (blk_cell KC.out 0).trans rfl; have c1C0 : ∀ o0, (v3.alloc o0).cell? ⟨w.heap.size, 0, none⟩ = some (.string ⟨#[80, 79, 82, 84]⟩) := fun o0 => (blk_cell (blk_alloc KC.out o0) 0).trans rfl; have c2C0 : ∀ o0 o1, ((v3.alloc o0).alloc o1).cell? ⟨w.heap.size, 0, none⟩ = some (.string ⟨#[80, 79, 82, 84]⟩) := fun o0 o1 => (blk_cell (blk_alloc (blk_alloc KC.out o0) o1) 0).trans rfl; have c0C1 : v3.cell? ⟨w.heap.size, 1, none⟩ = some (.string ⟨#[49, 48, 44, 48, 44, 48, 44, 49, 44, 56, 44, 48]⟩) := (blk_cell KC.out 1).trans rfl; have c1C1 : ∀ o0, (v3.alloc o0).cell? ⟨w.heap.size, 1, none⟩ = some (.string ⟨#[49, 48, 44, 48, 44, 48, 44, 49, 44, 56, 44, 48]⟩) := fun o0 => (blk_cell (blk_alloc KC.out o0) 1).trans rfl; have c2C1 : ∀ o0 o1, ((v3.alloc o0).alloc o1).cell? ⟨w.heap.size, 1, none⟩ = some (.string ⟨#[49, 48, 44, 48, 44, 48, 44, 49, 44, 56, 44, 48]⟩) := fun o0 o1 => (blk_cell (blk_alloc (blk_alloc KC.out o0) o1) 1).trans rfl; have c0E0 : v3.cell? ⟨v1.heap.size, 0, none⟩ = some (.int .u8 10) := (blk_cell KE.out 0).trans rfl; have c1E0 : ∀ o0, (v3.alloc o0).cell? ⟨v1.heap.size, 0, none⟩ = some (.int .u8 10) := fun o0 => (blk_cell (blk_alloc KE.out o0) 0).trans rfl; have c2E0 : ∀ o0 o1, ((v3.alloc o0).alloc o1).cell? ⟨v1.heap.size, 0, none⟩ = some (.int .u8 10) := fun o0 o1 => (blk_cell (blk_alloc (blk_alloc KE.out o0) o1) 0).trans rfl; have c0E1 : v3.cell? ⟨v1.heap.size, 1, none⟩ = some (.int .u8 0) := (blk_cell KE.out 1).trans rfl; have c1E1 : ∀ o0, (v3.alloc o0).cell? ⟨v1.heap.size, 1, none⟩ = some (.int .u8 0) := fun o0 => (blk_cell (blk_alloc KE.out o0) 1).trans rfl; have c2E1 : ∀ o0 o1, ((v3.alloc o0).alloc o1).cell? ⟨v1.heap.size, 1, none⟩ = some (.int .u8 0) := fun o0 o1 => (blk_cell (blk_alloc (blk_alloc KE.out o0) o1) 1).trans rfl; have c0E2 : v3.cell? ⟨v1.heap.size, 2, none⟩ = some (.int .u8 0) := (blk_cell KE.out 2).trans rfl; have c1E2 : ∀ o0, (v3.alloc o0).cell? ⟨v1.heap.size, 2, none⟩ = some (.int .u8 0) := fun o0 => (blk_cell (blk_alloc KE.out o0) 2).trans rfl; have c2E2 : ∀ o0 o1, ((v3.alloc o0).alloc o1).cell? ⟨v1.heap.size, 2, none⟩ = some (.int .u8 0) := fun o0 o1 => (blk_cell (blk_alloc (blk_alloc KE.out o0) o1) 2).trans rfl; have c0E3 : v3.cell? ⟨v1.heap.size, 3, none⟩ = some (.int .u8 1) := (blk_cell KE.out 3).trans rfl; have c1E3 : ∀ o0, (v3.alloc o0).cell? ⟨v1.heap.size, 3, none⟩ = some (.int .u8 1) := fun o0 => (blk_cell (blk_alloc KE.out o0) 3).trans rfl; have c2E3 : ∀ o0 o1, ((v3.alloc o0).alloc o1).cell? ⟨v1.heap.size, 3, none⟩ = some (.int .u8 1) := fun o0 o1 => (blk_cell (blk_alloc (blk_alloc KE.out o0) o1) 3).trans rfl; have c0E4 : v3.cell? ⟨v1.heap.size, 4, none⟩ = some (.int .i64 2048) := (blk_cell KE.out 4).trans rfl; have c1E4 : ∀ o0, (v3.alloc o0).cell? ⟨v1.heap.size, 4, none⟩ = some (.int .i64 2048) := fun o0 => (blk_cell (blk_alloc KE.out o0) 4).trans rfl; have c2E4 : ∀ o0 o1, ((v3.alloc o0).alloc o1).cell? ⟨v1.heap.size, 4, none⟩ = some (.int .i64 2048) := fun o0 o1 => (blk_cell (blk_alloc (blk_alloc KE.out o0) o1) 4).trans rfl; have c0F0 : v3.cell? ⟨v2.heap.size, 0, none⟩ = some (.int .u8 0) := (blk_cell KF.out 0).trans rfl; have c1F0 : ∀ o0, (v3.alloc o0).cell? ⟨v2.heap.size, 0, none⟩ = some (.int .u8 0) := fun o0 => (blk_cell (blk_alloc KF.out o0) 0).trans rfl; have c2F0 : ∀ o0 o1, ((v3.alloc o0).alloc o1).cell? ⟨v2.heap.size, 0, none⟩ = some (.int .u8 0) := fun o0 o1 => (blk_cell (blk_alloc (blk_alloc KF.out o0) o1) 0).trans rfl; have c0F1 : v3.cell? ⟨v2.heap.size, 1, none⟩ = some (.int .u8 0) := (blk_cell KF.out 1).trans rfl; have c1F1 : ∀ o0, (v3.alloc o0).cell? ⟨v2.heap.size, 1, none⟩ = some (.int .u8 0) := fun o0 => (blk_cell (blk_alloc KF.out o0) 1).trans rfl; have c2F1 : ∀ o0 o1, ((v3.alloc o0).alloc o1).cell? ⟨v2.heap.size, 1, none⟩ = some (.int .u8 0) := fun o0 o1 => (blk_cell (blk_alloc (blk_alloc KF.out o0) o1) 1).trans rfl; have c0F2 : v3.cell? ⟨v2.heap.size, 2, none⟩ = some (.int .u8 0) := (blk_cell KF.out 2).trans rfl; have c1F2 : ∀ o0, (v3.alloc o0).cell? ⟨v2.heap.size, 2, none⟩ = some (.int .u8 0) := fun o0 => (blk_cell (blk_alloc KF.out o0) 2).trans rfl; have c2F2 : ∀ o0 o1, ((v3.alloc o0).alloc o1).cell? ⟨v2.heap.size, 2, none⟩ = some (.int .u8 0) := fun o0 o1 => (blk_cell (blk_alloc (blk_alloc KF.out o0) o1) 2).trans rfl; have c0F3 : v3.cell? ⟨v2.heap.size, 3, none⟩ = some (.int .u8 0) := (blk_cell KF.out 3).trans rfl; have c1F3 : ∀ o0, (v3.alloc o0).cell? ⟨v2.heap.size, 3, none⟩ = some (.int .u8 0) := fun o0 => (blk_cell (blk_alloc KF.out o0) 3).trans rfl; have c2F3 : ∀ o0 o1, ((v3.alloc o0).alloc o1).cell? ⟨v2.heap.size, 3, none⟩ = some (.int .u8 0) := fun o0 o1 => (blk_cell (blk_alloc (blk_alloc KF.out o0) o1) 3).trans rfl; have c0F4 : v3.cell? ⟨v2.heap.size, 4, none⟩ = some (.int .i64 0) := (blk_cell KF.out 4).trans rfl; have c1F4 : ∀ o0, (v3.alloc o0).cell? ⟨v2.heap.size, 4, none⟩ = some (.int .i64 0) := fun o0 => (blk_cell (blk_alloc KF.out o0) 4).trans rfl; have c2F4 : ∀ o0 o1, ((v3.alloc o0).alloc o1).cell? ⟨v2.heap.size, 4, none⟩ = some (.int .i64 0) := fun o0 o1 => (blk_cell (blk_alloc (blk_alloc KF.out o0) o1) 4).trans rfl; have tok3 := trivial)
    | (go_at_call 11; (with_reducible refine (aw_tell _).mono ?_); rintro e v4 ⟨g, rfl, hg, _, hb⟩; clear c0C0 c1C0 c2C0 c0C1 c1C1 c2C1 c0E0 c1E0 c2E0 c0E1 c1E1 c2E1 c0E2 c1E2 c2E2 c0E3 c1E3 c2E3 c0E4 c1E4 c2E4 c0F0 c1F0 c2F0 c0F1 c1F1 c2F1 c0F2 c1F2 c2F2 c0F3 c1F3 c2F3 c0F4 c1F4 c2F4; replace KC := Aside0.mk (blk_below (blk_alloc KC.out _) hb); replace KE := Aside0.mk (blk_below (blk_alloc KE.out _) hb); replace KF := Aside0.mk (blk_below (blk_alloc KF.out _) hb); have KD := Aside0.mk (blk_below (Wk.nw0 v3 (.cells #[.string ⟨#[80, 79, 82, 84]⟩, .string ⟨#[49, 48, 44, 48, 44, 48, 44, 49, 44, 56, 44, 48]⟩] 23)) hb); replace HB := Aside0.mk ((Wk.st1 HB.out _).trans (hb.mono (Wk.st1 HB.out _).size)); clear hb; have c0C0 : v4.cell? ⟨w.heap.size, 0, none⟩ = some (.string ⟨#[80, 79, 82, 84]⟩) := (blk_cell KC.out 0).trans rfl; have c1C0 : ∀ o0, (v4.alloc o0).cell? ⟨w.heap.size, 0, none⟩ = some (.string ⟨#[80, 79, 82, 84]⟩) := fun o0 => (blk_cell (blk_alloc KC.out o0) 0).trans rfl; have c2C0 : ∀ o0 o1, ((v4.alloc o0).alloc o1).cell? ⟨w.heap.size, 0, none⟩ = some (.string ⟨#[80, 79, 82, 84]⟩) := fun o0 o1 => (blk_cell (blk_alloc (blk_alloc KC.out o0) o1) 0).trans rfl; have c0C1 : v4.cell? ⟨w.heap.size, 1, none⟩ = some (.string ⟨#[49, 48, 44, 48, 44, 48, 44, 49, 44, 56, 44, 48]⟩) := (blk_cell KC.out 1).trans rfl; have c1C1 : ∀ o0, (v4.alloc o0).cell? ⟨w.heap.size, 1, none⟩ = some (.string ⟨#[49, 48, 44, 48, 44, 48, 44, 49, 44, 56, 44, 48]⟩) := fun o0 => (blk_cell (blk_alloc KC.out o0) 1).trans rfl; have c2C1 : ∀ o0 o1, ((v4.alloc o0).alloc o1).cell? ⟨w.heap.size, 1, none⟩ = some (.string ⟨#[49, 48, 44, 48, 44, 48, 44, 49, 44, 56, 44, 48]⟩) := fun o0 o1 => (blk_cell (blk_alloc (blk_alloc KC.out o0) o1) 1).trans rfl; have c0E0 : v4.cell? ⟨v1.heap.size, 0, none⟩ = some (.int .u8 10) := (blk_cell KE.out 0).trans rfl; have c1E0 : ∀ o0, (v4.alloc o0).cell? ⟨v1.heap.size, 0, none⟩ = some (.int .u8 10) := fun o0 => (blk_cell (blk_alloc KE.out o0) 0).trans rfl; have c2E0 : ∀ o0 o1, ((v4.alloc o0).alloc o1).cell? ⟨v1.heap.size, 0, none⟩ = some (.int .u8 10) := fun o0 o1 => (blk_cell (blk_alloc (blk_alloc KE.out o0) o1) 0).trans rfl; have c0E1 : v4.cell? ⟨v1.heap.size, 1, none⟩ = some (.int .u8 0) := (blk_cell KE.out 1).trans rfl; have c1E1 : ∀ o0, (v4.alloc o0).cell? ⟨v1.heap.size, 1, none⟩ = some (.int .u8 0) := fun o0 => (blk_cell (blk_alloc KE.out o0) 1).trans rfl; have c2E1 : ∀ o0 o1, ((v4.alloc o0).alloc o1).cell? ⟨v1.heap.size, 1, none⟩ = some (.int .u8 0) := fun o0 o1 => (blk_cell (blk_alloc (blk_alloc KE.out o0) o1) 1).trans rfl; have c0E2 : v4.cell? ⟨v1.heap.size, 2, none⟩ = some (.int .u8 0) := (blk_cell KE.out 2).trans rfl; have c1E2 : ∀ o0, (v4.alloc o0).cell? ⟨v1.heap.size, 2, none⟩ = some (.int .u8 0) := fun o0 => (blk_cell (blk_alloc KE.out o0) 2).trans rfl; have c2E2 : ∀ o0 o1, ((v4.alloc o0).alloc o1).cell? ⟨v1.heap.size, 2, none⟩ = some (.int .u8 0) := fun o0 o1 => (blk_cell (blk_alloc (blk_alloc KE.out o0) o1) 2).trans rfl; have c0E3 : v4.cell? ⟨v1.heap.size, 3, none⟩ = some (.int .u8 1) := (blk_cell KE.out 3).trans rfl; have c1E3 : ∀ o0, (v4.alloc o0).cell? ⟨v1.heap.size, 3, none⟩ = some (.int .u8 1) := fun o0 => (blk_cell (blk_alloc KE.out o0) 3).trans rfl; have c2E3 : ∀ o0 o1, ((v4.alloc o0).alloc o1).cell? ⟨v1.heap.size, 3, none⟩ = some (.int .u8 1) := fun o0 o1 => (blk_cell (blk_alloc (blk_alloc KE.out o0) o1) 3).trans rfl; have c0E4 : v4.cell? ⟨v1.heap.size, 4, none⟩ = some (.int .i64 2048) := (blk_cell KE.out 4).trans rfl; have c1E4 : ∀ o0, (v4.alloc o0).cell? ⟨v1.heap.size, 4, none⟩ = some (.int .i64 2048) := fun o0 => (blk_cell (blk_alloc KE.out o0) 4).trans rfl; have c2E4 : ∀ o0 o1, ((v4.alloc o0).alloc o1).cell? ⟨v1.heap.size, 4, none⟩ = some (.int .i64 2048) := fun o0 o1 => (blk_cell (blk_alloc (blk_alloc KE.out o0) o1) 4).trans rfl; have c0F0 : v4.cell? ⟨v2.heap.size, 0, none⟩ = some (.int .u8 0) := (blk_cell KF.out 0).trans rfl; have c1F0 : ∀ o0, (v4.alloc o0).cell? ⟨v2.heap.size, 0, none⟩ = some (.int .u8 0) := fun o0 => (blk_cell (blk_alloc KF.out o0) 0).trans rfl; have c2F0 : ∀ o0 o1, ((v4.alloc o0).alloc o1).cell? ⟨v2.heap.size, 0, none⟩ = some (.int .u8 0) := fun o0 o1 => (blk_cell (blk_alloc (blk_alloc KF.out o0) o1) 0).trans rfl; have c0F1 : v4.cell? ⟨v2.heap.size, 1, none⟩ = some (.int .u8 0) := (blk_cell KF.out 1).trans rfl; have c1F1 : ∀ o0, (v4.alloc o0).cell? ⟨v2.heap.size, 1, none⟩ = some (.int .u8 0) := fun o0 => (blk_cell (blk_alloc KF.out o0) 1).trans rfl; have c2F1 : ∀ o0 o1, ((v4.alloc o0).alloc o1).cell? ⟨v2.heap.size, 1, none⟩ = some (.int .u8 0) := fun o0 o1 => (blk_cell (blk_alloc (blk_alloc KF.out o0) o1) 1).trans rfl; have c0F2 : v4.cell? ⟨v2.heap.size, 2, none⟩ = some (.int .u8 0) := (blk_cell KF.out 2).trans rfl; have c1F2 : ∀ o0, (v4.alloc o0).cell? ⟨v2.heap.size, 2, none⟩ = some (.int .u8 0) := fun o0 => (blk_cell (blk_alloc KF.out o0) 2).trans rfl; have c2F2 : ∀ o0 o1, ((v4.alloc o0).alloc o1).cell? ⟨v2.heap.size, 2, none⟩ = some (.int .u8 0) := fun o0 o1 => (blk_cell (blk_alloc (blk_alloc KF.out o0) o1) 2).trans rfl; have c0F3 : v4.cell? ⟨v2.heap.size, 3, none⟩ = some (.int .u8 0) := (blk_cell KF.out 3).trans rfl; have c1F3 : ∀ o0, (v4.alloc o0).cell? ⟨v2.heap.size, 3, none⟩ = some (.int .u8 0) := fun o0 => (blk_cell (blk_alloc KF.out o0) 3).trans rfl; have c2F3 : ∀ o0 o1, ((v4.alloc o0).alloc o1).cell? ⟨v2.heap.size, 3, none⟩ = some (.int .u8 0) := fun o0 o1 => (blk_cell (blk_alloc (blk_alloc KF.out o0) o1) 3).trans rfl; have c0F4 : v4.cell? ⟨v2.heap.size, 4, none⟩ = some (.int .i64 0) := (blk_cell KF.out 4).trans rfl; have c1F4 : ∀ o0, (v4.alloc o0).cell? ⟨v2.heap.size, 4, none⟩ = some (.int .i64 0) := fun o0 => (blk_cell (blk_alloc KF.out o0) 4).trans rfl; have c2F4 : ∀ o0 o1, ((v4.alloc o0).alloc o1).cell? ⟨v2.heap.size, 4, none⟩ = some (.int .i64 0) := fun o0 o1 => (blk_cell (blk_alloc (blk_alloc KF.out o0) o1) 4).trans rfl; have c0D0 : v4.cell? ⟨v3.heap.size, 0, none⟩ = some (.string ⟨#[80, 79, 82, 84]⟩) := (blk_cell KD.out 0).trans rfl; have c1D0 : ∀ o0, (v4.alloc o0).cell? ⟨v3.heap.size, 0, none⟩ = some (.string ⟨#[80, 79, 82, 84]⟩) := fun o0 => (blk_cell (blk_alloc KD.out o0) 0).trans rfl; have c2D0 : ∀ o0 o1, ((v4.alloc o0).alloc o1).cell? ⟨v3.heap.size, 0, none⟩ = some (.string ⟨#[80, 79, 82, 84]⟩) := fun o0 o1 => (blk_cell (blk_alloc (blk_alloc KD.out o0) o1) 0).trans rfl; have c0D1 : v4.cell? ⟨v3.heap.size, 1, none⟩ = some (.string ⟨#[49, 48, 44, 48, 44, 48, 44, 49, 44, 56, 44, 48]⟩) := (blk_cell KD.out 1).trans rfl; have c1D1 : ∀ o0, (v4.alloc o0).cell? ⟨v3.heap.size, 1, none⟩ = some (.string ⟨#[49, 48, 44, 48, 44, 48, 44, 49, 44, 56, 44, 48]⟩) := fun o0 => (blk_cell (blk_alloc KD.out o0) 1).trans rfl; have c2D1 : ∀ o0 o1, ((v4.alloc o0).alloc o1).cell? ⟨v3.heap.size, 1, none⟩ = some (.string ⟨#[49, 48, 44, 48, 44, 48, 44, 49, 44, 56, 44, 48]⟩) := fun o0 o1 => (blk_cell (blk_alloc (blk_alloc KD.out o0) o1) 1).trans rfl; have HG := Aside0.mk hg; clear hg; have tok4 := trivial)
    | (go_at_call 7; (with_reducible refine (aw_listen g _ (HM.out.below (Wk.st1 HB.out _)) (blk_alloc HG.out _)).mono ?_); rintro e v5 ⟨rfl, hb⟩; clear c0C0 c1C0 c2C0 c0C1 c1C1 c2C1 c0E0 c1E0 c2E0 c0E1 c1E1 c2E1 c0E2 c1E2 c2E2 c0E3 c1E3 c2E3 c0E4 c1E4 c2E4 c0F0 c1F0 c2F0 c0F1 c1F1 c2F1 c0F2 c1F2 c2F2 c0F3 c1F3 c2F3 c0F4 c1F4 c2F4 c0D0 c1D0 c2D0 c0D1 c1D1 c2D1; replace KC := Aside0.mk (blk_below (blk_alloc KC.out _) hb); replace KE := Aside0.mk (blk_below (blk_alloc KE.out _) hb); replace KF := Aside0.mk (blk_below (blk_alloc KF.out _) hb); replace KD := Aside0.mk (blk_below (blk_alloc KD.out _) hb); have KR := Aside0.mk (blk_below (Wk.nw0 v4 (.cells #[.int .i64 227, .slice (some ⟨g, 0, none⟩) 1 1] 26)) hb); replace HB := Aside0.mk ((Wk.st1 HB.out _).trans (hb.mono (Wk.st1 HB.out _).size)); clear hb; have c0C0 : v5.cell? ⟨w.heap.size, 0, none⟩ = some (.string ⟨#[80, 79, 82, 84]⟩) := (blk_cell KC.out 0).trans rfl; have c1C0 : ∀ o0, (v5.alloc o0).cell? ⟨w.heap.size, 0, none⟩ = some (.string ⟨#[80, 79, 82, 84]⟩) := fun o0 => (blk_cell (blk_alloc KC.out o0) 0).trans rfl; have c2C0 : ∀ o0 o1, ((v5.alloc o0).alloc o1).cell? ⟨w.heap.size, 0, none⟩ = some (.string ⟨#[80, 79, 82, 84]⟩) := fun o0 o1 => (blk_cell (blk_alloc (blk_alloc KC.out o0) o1) 0).trans rfl; have c0C1 : v5.cell? ⟨w.heap.size, 1, none⟩ = some (.string ⟨#[49, 48, 44, 48, 44, 48, 44, 49, 44, 56, 44, 48]⟩) := (blk_cell KC.out 1).trans rfl; have c1C1 : ∀ o0, (v5.alloc o0).cell? ⟨w.heap.size, 1, none⟩ = some (.string ⟨#[49, 48, 44, 48, 44, 48, 44, 49, 44, 56, 44, 48]⟩) := fun o0 => (blk_cell (blk_alloc KC.out o0) 1).trans rfl; have c2C1 : ∀ o0 o1, ((v5.alloc o0).alloc o1).cell? ⟨w.heap.size, 1, none⟩ = some (.string ⟨#[49, 48, 44, 48, 44, 48, 44, 49, 44, 56, 44, 48]⟩) := fun o0 o1 => (blk_cell (blk_alloc (blk_alloc KC.out o0) o1) 1).trans rfl; have c0E0 : v5.cell? ⟨v1.heap.size, 0, none⟩ = some (.int .u8 10) := (blk_cell KE.out 0).trans rfl; have c1E0 : ∀ o0, (v5.alloc o0).cell? ⟨v1.heap.size, 0, none⟩ = some (.int .u8 10) := fun o0 => (blk_cell (blk_alloc KE.out o0) 0).trans rfl; have c2E0 : ∀ o0 o1, ((v5.alloc o0).alloc o1).cell? ⟨v1.heap.size, 0, none⟩ = some (.int .u8 10) := fun o0 o1 => (blk_cell (blk_alloc (blk_alloc KE.out o0) o1) 0).trans rfl; have c0E1 : v5.cell? ⟨v1.heap.size, 1, none⟩ = some (.int .u8 0) := (blk_cell KE.out 1).trans rfl; have c1E1 : ∀ o0, (v5.alloc o0).cell? ⟨v1.heap.size, 1, none⟩ = some (.int .u8 0) := fun o0 => (blk_cell (blk_alloc KE.out o0) 1).trans rfl; have c2E1 : ∀ o0 o1, ((v5.alloc o0).alloc o1).cell? ⟨v1.heap.size, 1, none⟩ = some (.int .u8 0) := fun o0 o1 => (blk_cell (blk_alloc (blk_alloc KE.out o0) o1) 1).trans rfl; have c0E2 : v5.cell? ⟨v1.heap.size, 2, none⟩ = some (.int .u8 0) := (blk_cell KE.out 2).trans rfl; have c1E2 : ∀ o0, (v5.alloc o0).cell? ⟨v1.heap.size, 2, none⟩ = some (.int .u8 0) := fun o0 => (blk_cell (blk_alloc KE.out o0) 2).trans rfl; have c2E2 : ∀ o0 o1, ((v5.alloc o0).alloc o1).cell? ⟨v1.heap.size, 2, none⟩ = some (.int .u8 0) := fun o0 o1 => (blk_cell (blk_alloc (blk_alloc KE.out o0) o1) 2).trans rfl; have c0E3 : v5.cell? ⟨v1.heap.size, 3, none⟩ = some (.int .u8 1) := (blk_cell KE.out 3).trans rfl; have c1E3 : ∀ o0, (v5.alloc o0).cell? ⟨v1.heap.size, 3, none⟩ = some (.int .u8 1) := fun o0 => (blk_cell (blk_alloc KE.out o0) 3).trans rfl; have c2E3 : ∀ o0 o1, ((v5.alloc o0).alloc o1).cell? ⟨v1.heap.size, 3, none⟩ = some (.int .u8 1) := fun o0 o1 => (blk_cell (blk_alloc (blk_alloc KE.out o0) o1) 3).trans rfl; have c0E4 : v5.cell? ⟨v1.heap.size, 4, none⟩ = some (.int .i64 2048) := (blk_cell KE.out 4).trans rfl; have c1E4 : ∀ o0, (v5.alloc o0).cell? ⟨v1.heap.size, 4, none⟩ = some (.int .i64 2048) := fun o0 => (blk_cell (blk_alloc KE.out o0) 4).trans rfl; have c2E4 : ∀ o0 o1, ((v5.alloc o0).alloc o1).cell? ⟨v1.heap.size, 4, none⟩ = some (.int .i64 2048) := fun o0 o1 => (blk_cell (blk_alloc (blk_alloc KE.out o0) o1) 4).trans rfl; have c0F0 : v5.cell? ⟨v2.heap.size, 0, none⟩ = some (.int .u8 0) := (blk_cell KF.out 0).trans rfl; have c1F0 : ∀ o0, (v5.alloc o0).cell? ⟨v2.heap.size, 0, none⟩ = some (.int .u8 0) := fun o0 => (blk_cell (blk_alloc KF.out o0) 0).trans rfl; have c2F0 : ∀ o0 o1, ((v5.alloc o0).alloc o1).cell? ⟨v2.heap.size, 0, none⟩ = some (.int .u8 0) := fun o0 o1 => (blk_cell (blk_alloc (blk_alloc KF.out o0) o1) 0).trans rfl; have c0F1 : v5.cell? ⟨v2.heap.size, 1, none⟩ = some (.int .u8 0) := (blk_cell KF.out 1).trans rfl; have c1F1 : ∀ o0, (v5.alloc o0).cell? ⟨v2.heap.size, 1, none⟩ = some (.int .u8 0) := fun o0 => (blk_cell (blk_alloc KF.out o0) 1).trans rfl; have c2F1 : ∀ o0 o1, ((v5.alloc o0).alloc o1).cell? ⟨v2.heap.size, 1, none⟩ = some (.int .u8 0) := fun o0 o1 => (blk_cell (blk_alloc (blk_alloc KF.out o0) o1) 1).trans rfl; have c0F2 : v5.cell? ⟨v2.heap.size, 2, none⟩ = some (.int .u8 0) := (blk_cell KF.out 2).trans rfl; have c1F2 : ∀ o0, (v5.alloc o0).cell? ⟨v2.heap.size, 2, none⟩ = some (.int .u8 0) := fun o0 => (blk_cell (blk_alloc KF.out o0) 2).trans rfl; have c2F2 : ∀ o0 o1, ((v5.alloc o0).alloc o1).cell? ⟨v2.heap.size, 2, none⟩ = some (.int .u8 0) := fun o0 o1 => (blk_cell (blk_alloc (blk_alloc KF.out o0) o1) 2).trans rfl; have c0F3 : v5.cell? ⟨v2.heap.size, 3, none⟩ = some (.int .u8 0) := (blk_cell KF.out 3).trans rfl; have c1F3 : ∀ o0, (v5.alloc o0).cell? ⟨v2.heap.size, 3, none⟩ = some (.int .u8 0) := fun o0 => (blk_cell (blk_alloc KF.out o0) 3).trans rfl; have c2F3 : ∀ o0 o1, ((v5.alloc o0).alloc o1).cell? ⟨v2.heap.size, 3, none⟩ = some (.int .u8 0) := fun o0 o1 => (blk_cell (blk_alloc (blk_alloc KF.out o0) o1) 3).trans rfl; have c0F4 : v5.cell? ⟨v2.heap.size, 4, none⟩ = some (.int .i64 0) := (blk_cell KF.out 4).trans rfl; have c1F4 : ∀ o0, (v5.alloc o0).cell? ⟨v2.heap.size, 4, none⟩ = some (.int .i64 0) := fun o0 => (blk_cell (blk_alloc KF.out o0) 4).trans rfl; have c2F4 : ∀ o0 o1, ((v5.alloc o0).alloc o1).cell? ⟨v2.heap.size, 4, none⟩ = some (.int .i64 0) := fun o0 o1 => (blk_cell (blk_alloc (blk_alloc KF.out o0) o1) 4).trans rfl; have c0D0 : v5.cell? ⟨v3.heap.size, 0, none⟩ = some (.string ⟨#[80, 79, 82, 84]⟩) := (blk_cell KD.out 0).trans rfl; have c1D0 : ∀ o0, (v5.alloc o0).cell? ⟨v3.heap.size, 0, none⟩ = some (.string ⟨#[80, 79, 82, 84]⟩) := fun o0 => (blk_cell (blk_alloc KD.out o0) 0).trans rfl; have c2D0 : ∀ o0 o1, ((v5.alloc o0).alloc o1).cell? ⟨v3.heap.size, 0, none⟩ = some (.string ⟨#[80, 79, 82, 84]⟩) := fun o0 o1 => (blk_cell (blk_alloc (blk_alloc KD.out o0) o1) 0).trans rfl; have c0D1 : v5.cell? ⟨v3.heap.size, 1, none⟩ = some (.string ⟨#[49, 48, 44, 48, 44, 48, 44, 49, 44, 56, 44, 48]⟩) := (blk_cell KD.out 1).trans rfl; have c1D1 : ∀ o0, (v5.alloc o0).cell? ⟨v3.heap.size, 1, none⟩ = some (.string ⟨#[49, 48, 44, 48, 44, 48, 44, 49, 44, 56, 44, 48]⟩) := fun o0 => (blk_cell (blk_alloc KD.out o0) 1).trans rfl; have c2D1 : ∀ o0 o1, ((v5.alloc o0).alloc o1).cell? ⟨v3.heap.size, 1, none⟩ = some (.string ⟨#[49, 48, 44, 48, 44, 48, 44, 49, 44, 56, 44, 48]⟩) := fun o0 o1 => (blk_cell (blk_alloc (blk_alloc KD.out o0) o1) 1).trans rfl; have c0R0 : v5.cell? ⟨v4.heap.size, 0, none⟩ = some (.int .i64 227) := (blk_cell KR.out 0).trans rfl; have c1R0 : ∀ o0, (v5.alloc o0).cell? ⟨v4.heap.size, 0, none⟩ = some (.int .i64 227) := fun o0 => (blk_cell (blk_alloc KR.out o0) 0).trans rfl; have c2R0 : ∀ o0 o1, ((v5.alloc o0).alloc o1).cell? ⟨v4.heap.size, 0, none⟩ = some (.int .i64 227) := fun o0 o1 => (blk_cell (blk_alloc (blk_alloc KR.out o0) o1) 0).trans rfl; have c0R1 : v5.cell? ⟨v4.heap.size, 1, none⟩ = some (.slice (some ⟨g, 0, none⟩) 1 1) := (blk_cell KR.out 1).trans rfl; have c1R1 : ∀ o0, (v5.alloc o0).cell? ⟨v4.heap.size, 1, none⟩ = some (.slice (some ⟨g, 0, none⟩) 1 1) := fun o0 => (blk_cell (blk_alloc KR.out o0) 1).trans rfl; have c2R1 : ∀ o0 o1, ((v5.alloc o0).alloc o1).cell? ⟨v4.heap.size, 1, none⟩ = some (.slice (some ⟨g, 0, none⟩) 1 1) := fun o0 o1 => (blk_cell (blk_alloc (blk_alloc KR.out o0) o1) 1).trans rfl; have tok5 := trivial))
  go_ret
  exact ⟨rfl, (Wk.st1 HB.out _)⟩
end Go.Proofs.YtdcbkeihgbekdaaGreatDoor.Turn

namespace Go.Proofs.YtdcbkeihgbekdaaGreatDoor.Turn
open Go Go.RowKit Go.Proofs.YtdcbkeihgbekdaaGreatDoorW.PrintWords Go.Proofs.YtdcbkeihgbekdaaGreatDoorW.PrintLast Go.Proofs.YtdcbkeihgbekdaaGreatDoorW.PrintMore Go.Proofs.YtdcbkeihgbekdaaGreatDoor.Dig Go.Proofs.YtdcbkeihgbekdaaGreatDoor.Quad Go.Proofs.YtdcbkeihgbekdaaGreatDoor.ExtP Go.Proofs.YtdcbkeihgbekdaaGreatDoor.SixP
set_option linter.unusedVariables false
set_option linter.unusedSimpArgs false

theorem row_at {w : World} {A : Option Addr} {n : Nat} {l : List ByteArray} (hr : Kd.C Kd.string w A n l) (k : Nat) (hk : k < l.length) : ∃ ad : Addr, A = some ad ∧ w.cell? (ad.add k) = some (.string l[k]) := by
  obtain ⟨hl, _, hn⟩ := hr
  obtain ⟨ad, rfl, h⟩ := hn (by omega)
  obtain ⟨c, _, hK, hc⟩ := h k l[k] (List.getElem?_eq_getElem hk)
  have hK' : c = [.string l[k]] := hK
  subst hK'
  have := hc 0 (.string l[k]) rfl
  exact ⟨ad, rfl, by simpa [Kd.string, Kd.scalar] using this⟩
end Go.Proofs.YtdcbkeihgbekdaaGreatDoor.Turn

namespace Go.Proofs.YtdcbkeihgbekdaaGreatDoor.Six
open Go Go.RowKit Go.Proofs.YtdcbkeihgbekdaaGreatDoorW.PrintWords Go.Proofs.YtdcbkeihgbekdaaGreatDoorW.PrintLast Go.Proofs.YtdcbkeihgbekdaaGreatDoorW.PrintMore Go.Proofs.YtdcbkeihgbekdaaGreatDoor.Dig Go.Proofs.YtdcbkeihgbekdaaGreatDoor.Quad Go.Proofs.YtdcbkeihgbekdaaGreatDoor.SixP
set_option linter.unusedVariables false
set_option linter.unusedSimpArgs false

theorem res_rfind (tmps : Array Value) (W : World) (H : Nat) (a b c d p : Int) (t : Bool) (h2 : tmps.getD 2 undef = .pointer (some ⟨H, 0, none⟩)) (h3 : tmps.getD 3 undef = .bool t) (hh : W.heap[H]? = some (.cells #[.int .u8 a, .int .u8 b, .int .u8 c, .int .u8 d, .int .i64 p] 30 (0, 0))) :
   (results Tryz.f24 tmps).run Tryz.prog W = .ok (.tuple #[.agg #[.int .u8 a, .int .u8 b, .int .u8 c, .int .u8 d, .int .i64 p], .bool t]) W := by
  have c0 : W.cell? ⟨H, 0, none⟩ = some (.int .u8 a) := (blk_cell hh 0).trans rfl
  have c1 : W.cell? ⟨H, 1, none⟩ = some (.int .u8 b) := (blk_cell hh 1).trans rfl
  have c2 : W.cell? ⟨H, 2, none⟩ = some (.int .u8 c) := (blk_cell hh 2).trans rfl
  have c3 : W.cell? ⟨H, 3, none⟩ = some (.int .u8 d) := (blk_cell hh 3).trans rfl
  have c4 : W.cell? ⟨H, 4, none⟩ = some (.int .i64 p) := (blk_cell hh 4).trans rfl
  rw [Array.getD_eq_getD_getElem?] at h2 h3
  simp [results, show Tryz.f24.results = #[.cell 2 30, .tmp 3] from rfl, h2, h3, go_sem, c0, c1, c2, c3, c4]
/-- The next byte, in a text that has none so far. -/
theorem not_next {b : UInt8} {l : List UInt8} {f k : Nat} (h : b ∉ (l.take k).drop f) (hf : f ≤ k) (hk : k < l.length) (hb : l[k] ≠ b) : b ∉ (l.take (k + 1)).drop f := by
  rw [List.take_succ_eq_append_getElem hk, List.drop_append_of_le_length (by rw [List.length_take]; omega), List.mem_append, List.mem_singleton]
  exact fun e => e.elim h (fun e => hb e.symm)

set_option maxHeartbeats 2000000 in
set_option maxRecDepth 100000 in
theorem ref_find_calls (s : ByteArray) (hs : s.size ≤ 1000000) (w : World) :
    Calls Tryz.prog 24 #[.string s] w fun e w' => e = .returned (readR (find s.data.toList)) ∧ Below w.heap.size w w' := by
  have HS := Aside0.mk hs
  have HL := Aside0.mk (data_length s)
  clear hs
  go_enter Tryz.func24, Tryz.ntmps24
  go_wp2
  obtain ⟨W0, hW0⟩ : ∃ W0, W0 = w.alloc (.cells #[.int .u8 0, .int .u8 0, .int .u8 0, .int .u8 0, .int .i64 0] 30) := ⟨_, rfl⟩
  have HB := Aside0.mk (show Below w.heap.size w W0 from by rw [hW0]; exact (Below.refl _ _).alloc (Nat.le_refl _) _)
  have HZ := Aside0.mk (show W0.heap[w.heap.size]? = some (.cells #[.int .u8 0, .int .u8 0, .int .u8 0, .int .u8 0, .int .i64 0] 30 (0, 0)) from by rw [hW0]; exact blk_new _ _)
  rw [← hW0]
  clear hW0
  go_loop [4] (fun i_ => ∃ k : Nat, k ≤ s.size ∧ i_ = .int .i64 k ∧ Aside0 (40 ∉ (s.data.toList.take k).drop 0)) (fun i_ => s.size - (intOf i_).toNat)
  case atStart => exact ⟨0, Nat.zero_le _, rfl, ⟨by simp⟩⟩
  case round =>
    obtain ⟨k, hk, rfl, HA⟩ := hrel
    by_cases hlt : k < s.size
    · have hk6 : k < 1000000 := by have := HS.out; omega
      have hk' : k < s.data.toList.length := by rw [HL.out]; exact hlt
      obtain ⟨c, hc⟩ : ∃ c, c = s.data.toList[k] := ⟨_, rfl⟩
      obtain ⟨x, hx⟩ : ∃ x : Nat, x = c.toNat := ⟨_, rfl⟩
      have hckc : ∀ h : k < s.size, ((s[k]'h).toNat : Int) = (x : Int) := fun h => by rw [hx, hc, ← bt_byte s k hk']; exact bt_at s k h
      by_cases h40 : c = 40
      · have hcmp : ((x : Int) == 40) = true := by rw [hx, h40]; rfl
        have hsplit : s.data.toList = s.data.toList.take k ++ 40 :: s.data.toList.drop (k + 1) := by
          conv => lhs; rw [← List.take_append_drop k s.data.toList]
          rw [List.drop_eq_getElem_cons hk', ← hc, h40]
        have HC1 := Aside0.mk (show cut1 40 s.data.toList = some (s.data.toList.take k, s.data.toList.drop (k + 1)) from by
          conv => lhs; rw [hsplit]
          exact cut1_some _ (by have := HA.out; rwa [List.drop_zero] at this))
        clear hc hx h40 hk' hsplit
        go_wp2
        go_loop [5] (fun j_ => ∃ j : Nat, k + 1 ≤ j ∧ j ≤ s.size ∧ j_ = .int .i64 j ∧ Aside0 (41 ∉ (s.data.toList.take j).drop (k + 1))) (fun j_ => s.size - (intOf j_).toNat)
        case atStart => exact ⟨k + 1, Nat.le_refl _, by omega, by go_num, ⟨by simp⟩⟩
        case round =>
          obtain ⟨j, hkj, hj, rfl, HA2⟩ := hrel
          clear hcmp hckc
          by_cases hltj : j < s.size
          · have hj6 : j < 1000000 := by have := HS.out; omega
            have hj' : j < s.data.toList.length := by rw [HL.out]; exact hltj
            obtain ⟨c, hc⟩ : ∃ c, c = s.data.toList[j] := ⟨_, rfl⟩
            obtain ⟨x, hx⟩ : ∃ x : Nat, x = c.toNat := ⟨_, rfl⟩
            have hckc : ∀ h : j < s.size, ((s[j]'h).toNat : Int) = (x : Int) := fun h => by rw [hx, hc, ← bt_byte s j hj']; exact bt_at s j h
            by_cases h41 : c = 41
            · have hcmp : ((x : Int) == 41) = true := by rw [hx, h41]; rfl
              obtain ⟨m, hm⟩ : ∃ m, m = (s.data.toList.take j).drop (k + 1) := ⟨_, rfl⟩
              have hsplit : s.data.toList.drop (k + 1) = m ++ 41 :: s.data.toList.drop (j + 1) := by
                rw [take_split s.data.toList j (k + 1) hkj (by omega), ← hm, List.drop_eq_getElem_cons hj', ← hc, h41]
              have hc2 : cut1 41 (s.data.toList.drop (k + 1)) = some (m, s.data.toList.drop (j + 1)) := by
                rw [hsplit]; exact cut1_some _ (by rw [hm]; exact HA2.out)
              have hmr : readR (find s.data.toList) = readR (readSix m) := by
                rw [find, HC1.out]; show readR ((cut1 41 (s.data.toList.drop (k + 1))).bind fun y => readSix y.1) = _; rw [hc2]; rfl
              obtain ⟨M, hM⟩ : ∃ M : ByteArray, M = ⟨m.toArray⟩ := ⟨_, rfl⟩
              have hsl : ∀ W, (Instr.slice 9 (.string s) (some (.int .i64 ((k : Int) + 1))) (some (.int .i64 j)) none).run Tryz.prog W = .ok (.string M) W := fun W => by rw [hM, hm]; exact slice_fk s (k + 1) j hkj (by omega) W
              obtain ⟨a1, b1, c1, d1, p1, t1, hrv⟩ := readR_form (readSix m)
              have HRV := Aside0.mk (show readR (readSix M.data.toList) = .tuple #[.agg #[.int .u8 a1, .int .u8 b1, .int .u8 c1, .int .u8 d1, .int .i64 p1], .bool t1] from by rw [hM]; exact hrv)
              have HF := Aside0.mk (show readR (find s.data.toList) = .tuple #[.agg #[.int .u8 a1, .int .u8 b1, .int .u8 c1, .int .u8 d1, .int .i64 p1], .bool t1] from hmr.trans hrv)
              have HRS := Aside0.mk (show M.size ≤ 1000000 from by
                rw [← data_length, hM]; show m.length ≤ _
                rw [hm, List.length_drop, List.length_take]; omega)
              clear hc hx h41 hj' hsplit hc2 hmr hM hrv hm
              go_wp2_with (go_at_call 19; refine (ref_read_calls _ HRS.out _).mono ?_; rw [HRV.out]; rintro e w3 ⟨rfl, hb⟩; have HB3 := Aside0.mk (HB.out.trans (hb.mono HB.out.size)); have HZ3 := Aside0.mk (blk_below HZ.out hb); clear hb; have zf0 : ∀ o, (w3.alloc o).frozen? ⟨w.heap.size, 0, none⟩ = false := fun o => blk_frozen (blk_alloc HZ3.out o) 0; have zc0 : ∀ o, (w3.alloc o).cell? ⟨w.heap.size, 0, none⟩ = some (.int .u8 0) := fun o => (blk_cell (blk_alloc HZ3.out o) 0).trans rfl; have zf1 : ∀ o, (w3.alloc o).frozen? ⟨w.heap.size, 1, none⟩ = false := fun o => blk_frozen (blk_alloc HZ3.out o) 1; have zc1 : ∀ o, (w3.alloc o).cell? ⟨w.heap.size, 1, none⟩ = some (.int .u8 0) := fun o => (blk_cell (blk_alloc HZ3.out o) 1).trans rfl; have zf2 : ∀ o, (w3.alloc o).frozen? ⟨w.heap.size, 2, none⟩ = false := fun o => blk_frozen (blk_alloc HZ3.out o) 2; have zc2 : ∀ o, (w3.alloc o).cell? ⟨w.heap.size, 2, none⟩ = some (.int .u8 0) := fun o => (blk_cell (blk_alloc HZ3.out o) 2).trans rfl; have zf3 : ∀ o, (w3.alloc o).frozen? ⟨w.heap.size, 3, none⟩ = false := fun o => blk_frozen (blk_alloc HZ3.out o) 3; have zc3 : ∀ o, (w3.alloc o).cell? ⟨w.heap.size, 3, none⟩ = some (.int .u8 0) := fun o => (blk_cell (blk_alloc HZ3.out o) 3).trans rfl; have zf4 : ∀ o, (w3.alloc o).frozen? ⟨w.heap.size, 4, none⟩ = false := fun o => blk_frozen (blk_alloc HZ3.out o) 4; have zc4 : ∀ o, (w3.alloc o).cell? ⟨w.heap.size, 4, none⟩ = some (.int .i64 0) := fun o => (blk_cell (blk_alloc HZ3.out o) 4).trans rfl; have HW1 := Aside0.mk (blk_lt HZ3.out); have hne1 : w.heap.size ≠ w3.heap.size := Nat.ne_of_lt HW1.out; have hne2 : w3.heap.size ≠ w.heap.size := Nat.ne_of_gt HW1.out)
              try simp only [Exit.inBlock, Exit.then]
              refine bodyPost_ret (res_rfind _ _ w.heap.size a1 b1 c1 d1 p1 t1 rfl rfl (blk_put (blk_put (blk_put (blk_put (blk_put (blk_alloc HZ3.out _) 0 _ rfl) 1 _ rfl) 2 _ rfl) 3 _ rfl) 4 _ rfl)) rfl ⟨?_, ?_⟩
              · first | (rw [HF.out]; rfl) | (rw [HF.out]) | rfl
              · exact ((((((HB3.out.alloc HB3.out.size _).setCell (Nat.le_refl _) _).setCell (Nat.le_refl _) _).setCell (Nat.le_refl _) _).setCell (Nat.le_refl _) _).setCell (Nat.le_refl _) _)
            · have hcmp : ((x : Int) == 41) = false := by
                refine beq_eq_false_iff_ne.2 fun e => h41 (UInt8.toNat_inj.1 ?_)
                rw [← hx]; have e2 : (41 : UInt8).toNat = 41 := rfl
                omega
              have HA3 := Aside0.mk (not_next HA2.out hkj hj' (by rw [← hc]; exact h41))
              clear hc hx h41 hj'
              go_wp2
              go_round
              case rel => exact ⟨j + 1, by omega, by omega, by go_num, HA3⟩
              case measure => simp [intOf]; omega
          · obtain rfl : j = s.size := by omega
            have HF := Aside0.mk (show readR (find s.data.toList) = readR none from by
              rw [find, HC1.out]
              show readR ((cut1 41 (s.data.toList.drop (k + 1))).bind fun y => readSix y.1) = _
              have := HA2.out
              rw [List.take_of_length_le (by rw [HL.out]; exact Nat.le_refl _)] at this
              rw [cut1_none this]; rfl)
            have zf0 := blk_frozen HZ.out 0
            have zc0 : W0.cell? ⟨w.heap.size, 0, none⟩ = some (.int .u8 0) := (blk_cell HZ.out 0).trans rfl
            have zf1 := blk_frozen HZ.out 1
            have zc1 : W0.cell? ⟨w.heap.size, 1, none⟩ = some (.int .u8 0) := (blk_cell HZ.out 1).trans rfl
            have zf2 := blk_frozen HZ.out 2
            have zc2 : W0.cell? ⟨w.heap.size, 2, none⟩ = some (.int .u8 0) := (blk_cell HZ.out 2).trans rfl
            have zf3 := blk_frozen HZ.out 3
            have zc3 : W0.cell? ⟨w.heap.size, 3, none⟩ = some (.int .u8 0) := (blk_cell HZ.out 3).trans rfl
            have zf4 := blk_frozen HZ.out 4
            have zc4 : W0.cell? ⟨w.heap.size, 4, none⟩ = some (.int .i64 0) := (blk_cell HZ.out 4).trans rfl
            go_wp2
            try simp only [Exit.inBlock, Exit.then]
            refine bodyPost_ret (res_rfind _ _ w.heap.size 0 0 0 0 0 false rfl rfl (blk_put (blk_put (blk_put (blk_put (blk_put (HZ.out) 0 _ rfl) 1 _ rfl) 2 _ rfl) 3 _ rfl) 4 _ rfl)) rfl ⟨?_, ?_⟩
            · first | (rw [HF.out]; rfl) | (rw [HF.out]) | rfl
            · exact ((((((HB.out).setCell (Nat.le_refl _) _).setCell (Nat.le_refl _) _).setCell (Nat.le_refl _) _).setCell (Nat.le_refl _) _).setCell (Nat.le_refl _) _)
      · have hcmp : ((x : Int) == 40) = false := by
          refine beq_eq_false_iff_ne.2 fun e => h40 (UInt8.toNat_inj.1 ?_)
          rw [← hx]; have e2 : (40 : UInt8).toNat = 40 := rfl
          omega
        have HA3 := Aside0.mk (not_next HA.out (Nat.zero_le _) hk' (by rw [← hc]; exact h40))
        clear hc hx h40 hk'
        go_wp2
        go_round
        case rel => exact ⟨k + 1, by omega, by go_num, HA3⟩
        case measure => simp [intOf]; omega
    · obtain rfl : k = s.size := by omega
      have HF := Aside0.mk (show readR (find s.data.toList) = readR none from by
        have := HA.out
        rw [List.drop_zero, List.take_of_length_le (by rw [HL.out]; exact Nat.le_refl _)] at this
        rw [find, cut1_none this]; rfl)
      have zf0 := blk_frozen HZ.out 0
      have zc0 : W0.cell? ⟨w.heap.size, 0, none⟩ = some (.int .u8 0) := (blk_cell HZ.out 0).trans rfl
      have zf1 := blk_frozen HZ.out 1
      have zc1 : W0.cell? ⟨w.heap.size, 1, none⟩ = some (.int .u8 0) := (blk_cell HZ.out 1).trans rfl
      have zf2 := blk_frozen HZ.out 2
      have zc2 : W0.cell? ⟨w.heap.size, 2, none⟩ = some (.int .u8 0) := (blk_cell HZ.out 2).trans rfl
      have zf3 := blk_frozen HZ.out 3
      have zc3 : W0.cell? ⟨w.heap.size, 3, none⟩ = some (.int .u8 0) := (blk_cell HZ.out 3).trans rfl
      have zf4 := blk_frozen HZ.out 4
      have zc4 : W0.cell? ⟨w.heap.size, 4, none⟩ = some (.int .i64 0) := (blk_cell HZ.out 4).trans rfl
      go_wp2
      try simp only [Exit.inBlock, Exit.then]
      refine bodyPost_ret (res_rfind _ _ w.heap.size 0 0 0 0 0 false rfl rfl (blk_put (blk_put (blk_put (blk_put (blk_put (HZ.out) 0 _ rfl) 1 _ rfl) 2 _ rfl) 3 _ rfl) 4 _ rfl)) rfl ⟨?_, ?_⟩
      · first | (rw [HF.out]; rfl) | (rw [HF.out]) | rfl
      · exact ((((((HB.out).setCell (Nat.le_refl _) _).setCell (Nat.le_refl _) _).setCell (Nat.le_refl _) _).setCell (Nat.le_refl _) _).setCell (Nat.le_refl _) _)
end Go.Proofs.YtdcbkeihgbekdaaGreatDoor.Six

namespace Go.Proofs.YtdcbkeihgbekdaaGreatDoor.Six
open Go Go.RowKit Go.Proofs.YtdcbkeihgbekdaaGreatDoorW.PrintWords Go.Proofs.YtdcbkeihgbekdaaGreatDoorW.PrintLast Go.Proofs.YtdcbkeihgbekdaaGreatDoorW.PrintMore Go.Proofs.YtdcbkeihgbekdaaGreatDoor.Dig Go.Proofs.YtdcbkeihgbekdaaGreatDoor.Quad Go.Proofs.YtdcbkeihgbekdaaGreatDoor.SixP
set_option linter.unusedVariables false
set_option linter.unusedSimpArgs false

theorem ref_num_callsU (n : Nat) (h : n < 256) (w : World) :
    Calls Tryz.prog 52 #[.int .i64 n] w fun e w' => e = .returned (.string ⟨(digU n).toArray⟩) ∧ w' = w := by
  have := ref_num_calls (n : Int) (by omega) (by omega) w
  rwa [numU_nat] at this
/-- Numbers, each with a comma behind. -/
def pre (l : List Nat) : List UInt8 := l.flatMap fun x => digU x ++ [44]
theorem pre_snoc (l : List Nat) (x : Nat) : pre (l ++ [x]) = pre l ++ digU x ++ [44] := by simp [pre]
theorem pre_len (l : List Nat) (h : ∀ x ∈ l, x < 256) : (pre l).length ≤ 4 * l.length := by
  induction l with
  | nil => exact Nat.le_refl _
  | cons x l ih =>
    have h1 : (digU x).length ≤ 3 := by rw [digU_len]; exact dig_len 2 x (by have := h x (List.mem_cons_self ..); omega)
    have h2 := ih fun y hy => h y (List.mem_cons_of_mem _ hy)
    have : pre (x :: l) = digU x ++ [44] ++ pre l := by simp [pre]
    rw [this]
    simp only [List.length_append, List.length_cons, List.length_nil]; omega
/-- An end in a block of the call's own. -/
def OneE (w W : World) (a b c d : Nat) (p : Int) : Prop :=
  Below w.heap.size w W ∧ W.heap[w.heap.size]? = some (.cells #[.int .u8 a, .int .u8 b, .int .u8 c, .int .u8 d, .int .i64 p] 30 (0, 0))
theorem OneE.start (w : World) (a b c d : Nat) (p : Int) : OneE w (w.alloc (.cells #[.int .u8 a, .int .u8 b, .int .u8 c, .int .u8 d, .int .i64 p] 30)) a b c d p := ⟨(Below.refl _ _).alloc (Nat.le_refl _) _, blk_new w _⟩
theorem OneE.drew {w W : World} {a b c d : Nat} {p : Int} (h : OneE w W a b c d p) : OneE w { W with drawn := W.drawn + 1 } a b c d p := ⟨h.1.drew, h.2⟩

set_option maxHeartbeats 2000000 in
set_option maxRecDepth 100000 in
theorem ref_text_calls (a b c d : Nat) (p : Int) (ha : a < 256) (hb : b < 256) (hc : c < 256) (hd : d < 256) (w : World) :
    Calls Tryz.prog 30 #[endV a b c d p] w fun e w' => e = .returned (textR a b c d p) ∧ Below w.heap.size w w' := by
  unfold endV
  by_cases h0 : p < 0
  · have h0' := decide_eq_true h0
    have HF := Aside0.mk (show textR a b c d p = .tuple #[str [], .bool false] from if_pos (.inl h0))
    clear h0
    go_enter Tryz.func30, Tryz.ntmps30
    go_wp2
    go_ret2
    exact ⟨by rw [HF.out]; rfl, (Below.refl _ _).alloc (Nat.le_refl _) _⟩
  · have h0' := decide_eq_false h0
    by_cases h1 : 65535 < p
    · have h1' := decide_eq_true h1
      have HF := Aside0.mk (show textR a b c d p = .tuple #[str [], .bool false] from if_pos (.inr h1))
      clear h0 h1
      go_enter Tryz.func30, Tryz.ntmps30
      go_wp2
      go_ret2
      exact ⟨by rw [HF.out]; rfl, (Below.refl _ _).alloc (Nat.le_refl _) _⟩
    · obtain ⟨n, rfl⟩ : ∃ n : Nat, p = n := ⟨p.toNat, by omega⟩
      have h1' := decide_eq_false h1
      have HF := Aside0.mk (show textR a b c d n = .tuple #[str (sixU a b c d n), .bool true] from by rw [textR, if_neg (by omega)]; rfl)
      obtain ⟨hi, hhi⟩ : ∃ hi : Nat, hi = n / 256 := ⟨_, rfl⟩
      obtain ⟨lo, hlo⟩ : ∃ lo : Nat, lo = n % 256 := ⟨_, rfl⟩
      have HN := Aside0.mk (show hi = n / 256 ∧ lo = n % 256 ∧ hi < 256 ∧ lo < 256 from by omega)
      obtain ⟨ds, hds⟩ : ∃ ds : List Nat, ds = [a, b, c, d] := ⟨_, rfl⟩
      have HDS := Aside0.mk hds
      have HALL := Aside0.mk (show ∀ x ∈ ds, x < 256 from by
        intro x hx; rw [hds] at hx
        simp only [List.mem_cons, List.not_mem_nil, or_false] at hx
        rcases hx with rfl | rfl | rfl | rfl <;> omega)
      have HO := Aside0.mk (OneE.start w a b c d n)
      clear h0 h1 hhi hlo hds ha hb hc hd
      go_enter Tryz.func30, Tryz.ntmps30
      go_wp2
      obtain ⟨W0, hW0⟩ : ∃ W0, W0 = w.alloc (.cells #[.int .u8 a, .int .u8 b, .int .u8 c, .int .u8 d, .int .i64 n] 30) := ⟨_, rfl⟩
      have HW := Aside0.mk (show OneE w W0 a b c d n from by rw [hW0]; exact HO.out)
      rw [← hW0]
      clear hW0 HO
      go_loop [4, 5] (fun o_ i_ => ∃ (k : Nat) (O : ByteArray), k ≤ 4 ∧ i_ = .int .i64 k ∧ o_ = .string O ∧ Aside0 (O.data.toList = pre (ds.take k))) (fun _ i_ => 4 - (intOf i_).toNat)
      case atStart => exact ⟨0, ⟨#[]⟩, Nat.zero_le _, rfl, rfl, ⟨rfl⟩⟩
      case round =>
        obtain ⟨k, O, hk, rfl, rfl, HOO⟩ := hrel
        have hOs : O.size ≤ 16 := by
          rw [← data_length, HOO.out]
          refine Nat.le_trans (pre_len _ fun x hx => HALL.out x (List.mem_of_mem_take hx)) ?_
          rw [List.length_take]; omega
        have h44 : (ByteArray.mk #[44]).size = 1 := rfl
        by_cases hlt : k < 4
        · have hkd : k < ds.length := by rw [HDS.out]; exact hlt
          obtain ⟨x, hx⟩ : ∃ x, x = ds[k] := ⟨_, rfl⟩
          have hx256 : x < 256 := HALL.out x (by rw [hx]; exact List.getElem_mem _)
          have hcell : W0.cell? ⟨w.heap.size, k, none⟩ = some (.int .u8 x) := by
            rw [blk_cell HW.out.2]
            have h3 : (ds.map fun n : Nat => Value.int .u8 (n : Int))[k]? = some (.int .u8 x) := by rw [List.getElem?_map, List.getElem?_eq_getElem hkd, ← hx]; rfl
            rw [HDS.out] at h3
            obtain rfl | rfl | rfl | rfl : k = 0 ∨ k = 1 ∨ k = 2 ∨ k = 3 := by omega
            all_goals exact h3
          have hcv : IntKind.i64.wrap (x : Int) = (x : Int) := by simp [IntKind.wrap, IntKind.bits, IntKind.signed]; omega
          obtain ⟨X, hX⟩ : ∃ X : ByteArray, X = ⟨(digU x).toArray⟩ := ⟨_, rfl⟩
          have hXs : X.size ≤ 3 := by rw [hX, ← data_length]; show (digU x).length ≤ 3; rw [digU_len]; exact dig_len 2 x (by omega)
          have HV := Aside0.mk (And.intro hx256 hX)
          have HNX := Aside0.mk (show ((O ++ X : ByteArray) ++ ⟨#[44]⟩).data.toList = pre (ds.take (k + 1)) from by
            rw [List.take_succ_eq_append_getElem hkd, pre_snoc, ← HOO.out, ← hx, hX]; simp)
          clear hx hx256 hkd hX
          go_wp2_with (go_at_call 52; refine (ref_num_callsU x HV.out.1 _).mono ?_; rw [← HV.out.2]; rintro e w1 ⟨rfl, hw⟩; obtain rfl := hw.symm)
          go_round
          case rel => exact ⟨k + 1, _, by omega, by go_num, rfl, HNX⟩
          case measure => simp [intOf]; omega
        · obtain rfl : k = 4 := by omega
          obtain ⟨X, hX⟩ : ∃ X : ByteArray, X = ⟨(digU hi).toArray⟩ := ⟨_, rfl⟩
          obtain ⟨Y, hY⟩ : ∃ Y : ByteArray, Y = ⟨(digU lo).toArray⟩ := ⟨_, rfl⟩
          have hXs : X.size ≤ 3 := by rw [hX, ← data_length]; show (digU hi).length ≤ 3; rw [digU_len]; exact dig_len 2 hi (by have := HN.out; omega)
          have hYs : Y.size ≤ 3 := by rw [hY, ← data_length]; show (digU lo).length ≤ 3; rw [digU_len]; exact dig_len 2 lo (by have := HN.out; omega)
          have HX := Aside0.mk (And.intro HN.out.2.2.1 hX)
          have HY := Aside0.mk (And.intro HN.out.2.2.2 hY)
          have HE := Aside0.mk (show ((O ++ X : ByteArray) ++ ⟨#[44]⟩ ++ Y).data.toList = sixU a b c d n from by
            have h5 : O.data.toList = pre [a, b, c, d] := by rw [HOO.out, HDS.out]; rfl
            rw [sixU, ← HN.out.1, ← HN.out.2.1]
            simp [h5, hX, hY, pre, Cut.jn])
          have hq1 : Int.tdiv (n : Int) 256 = (hi : Int) := by have := HN.out; rw [Int.tdiv_eq_ediv_of_nonneg (by omega)]; omega
          have hq2 : Int.tmod (n : Int) 256 = (lo : Int) := by have := HN.out; rw [Int.tmod_eq_emod_of_nonneg (by omega)]; omega
          have hv1 : IntKind.i64.wrap (hi : Int) = (hi : Int) := by have := HN.out; simp [IntKind.wrap, IntKind.bits, IntKind.signed]; omega
          have hv2 : IntKind.i64.wrap (lo : Int) = (lo : Int) := by have := HN.out; simp [IntKind.wrap, IntKind.bits, IntKind.signed]; omega
          clear hX hY
          go_wp2
          refine wp_region_quiet (C := fun W => OneE w W a b c d n) (by kernel_rfl) (by kernel_rfl) HW.out.drew ?_
          simp only []
          repeat
            refine wpQuiet_step (fun K hK => ?_)
            go_simp
            first
              | (refine hK _ ?_; clear hK K)
              | (apply Exists.intro
                 refine ⟨fun W hW => ?_, hK _ ?_⟩
                 (first
                  | (go_at_call 52; with_reducible refine (ref_num_callsU hi HX.out.1 _).mono ?_; rw [← HX.out.2]; rintro e w5 ⟨rfl, rfl⟩; exact ⟨rfl, hW⟩)
                  | (go_at_call 52; with_reducible refine (ref_num_callsU lo HY.out.1 _).mono ?_; rw [← HY.out.2]; rintro e w5 ⟨rfl, rfl⟩; exact ⟨rfl, hW⟩)
                  | ((try simp only [ByteArray.size_append, h44]); rw [if_neg (by omega)]; exact ⟨rfl, rfl⟩)
                  | (have q4 : W.cell? ⟨w.heap.size, 4, none⟩ = some (.int .i64 n) := (blk_cell hW.2 4).trans rfl; go_simp; rfl))
                 clear hK K)
          refine wpQuiet_nil ?_
          intro W hW
          go_wp2
          go_ret2
          refine ⟨?_, hW.1⟩
          rw [HF.out, str, ← HE.out]; rfl
end Go.Proofs.YtdcbkeihgbekdaaGreatDoor.Six

namespace Go.Proofs.YtdcbkeihgbekdaaGreatDoor.Ext
open Go Go.RowKit Go.Proofs.YtdcbkeihgbekdaaGreatDoorW.PrintWords Go.Proofs.YtdcbkeihgbekdaaGreatDoorW.PrintLast Go.Proofs.YtdcbkeihgbekdaaGreatDoorW.PrintMore Go.Proofs.YtdcbkeihgbekdaaGreatDoor.Dig Go.Proofs.YtdcbkeihgbekdaaGreatDoor.Quad Go.Proofs.YtdcbkeihgbekdaaGreatDoor.ExtP Go.Proofs.YtdcbkeihgbekdaaGreatDoor.SixP
set_option linter.unusedVariables false
set_option linter.unusedSimpArgs false

theorem res_rRead (tmps : Array Value) (W : World) (H : Nat) (a b c d p : Int) (e : Value) (h2 : tmps.getD 2 undef = .pointer (some ⟨H, 0, none⟩)) (h3 : tmps.getD 3 undef = e) (hh : W.heap[H]? = some (.cells #[.int .u8 a, .int .u8 b, .int .u8 c, .int .u8 d, .int .i64 p] 30 (0, 0))) :
   (results Tryz.f20 tmps).run Tryz.prog W = .ok (.tuple #[.agg #[.int .u8 a, .int .u8 b, .int .u8 c, .int .u8 d, .int .i64 p], e]) W := by
  have c0 : W.cell? ⟨H, 0, none⟩ = some (.int .u8 a) := (blk_cell hh 0).trans rfl
  have c1 : W.cell? ⟨H, 1, none⟩ = some (.int .u8 b) := (blk_cell hh 1).trans rfl
  have c2 : W.cell? ⟨H, 2, none⟩ = some (.int .u8 c) := (blk_cell hh 2).trans rfl
  have c3 : W.cell? ⟨H, 3, none⟩ = some (.int .u8 d) := (blk_cell hh 3).trans rfl
  have c4 : W.cell? ⟨H, 4, none⟩ = some (.int .i64 p) := (blk_cell hh 4).trans rfl
  rw [Array.getD_eq_getD_getElem?] at h2 h3
  simp [results, show Tryz.f20.results = #[.cell 2 30, .tmp 3] from rfl, h2, h3, go_sem, c0, c1, c2, c3, c4]
theorem cut_row (s : ByteArray) (m : UInt8) (hs : s.size ≤ 1000000) (w : World) : Calls Tryz.prog 39 #[.string s, .int .u8 (m.toNat : Int)] w fun e w' => ∃ A c, (Cut.cut m s.data.toList).length ≤ c ∧ e = .returned (.slice A (Cut.cut m s.data.toList).length c) ∧ Below w.heap.size w w' ∧ ∀ (j : Nat) x, ((Cut.cut m s.data.toList).map str)[j]? = some x → ∃ g, A = some ⟨g, 0, none⟩ ∧ g < w'.heap.size ∧ w'.cell? ⟨g, j, none⟩ = some x := by
  refine (ref_cut_calls s m hs w).mono ?_
  rintro e w' ⟨v, rfl, ho, hb⟩
  have hl : Row.Lies w' w.heap.size 9 v ((Cut.cut m s.data.toList).map str) := .inl (by rw [List.length_map]; exact ho)
  obtain ⟨A, c, rfl, hc, hx⟩ := hl.read
  rw [List.length_map] at hc ⊢
  exact ⟨A, c, hc, rfl, hb, hx⟩

set_option maxHeartbeats 4000000 in
set_option maxRecDepth 100000 in
theorem ref_read_five (s : ByteArray) (hs : s.size ≤ 1000000) (w : World) (m : UInt8) (l : List UInt8) (h : s.data.toList = m :: l) (hk : isMark m = true) (h5 : (Cut.cut m s.data.toList).length = 5) (h0s : 0 < s.size) (h0n : ¬ s.size = 0) (h0b : ((s.size : Int) == 0) = false) (x : Nat) (hxm : x = m.toNat)
    (HK : Aside0 (∀ W, Calls Tryz.prog 41 #[.int .u8 (x : Int)] W fun e w' => e = .returned (.bool true) ∧ w' = W)) (h0c : ∀ h : 0 < s.size, ((s[0]'h).toNat : Int) = (x : Int)) :
    Calls Tryz.prog 20 #[.string s] w fun e w' => e = .returned (readV (readE s.data.toList)) ∧ Below w.heap.size w w' := by
  have hle : ∀ p ∈ Cut.cut m s.data.toList, p.length ≤ 1000000 := fun p hp => by
    have := cut_le hp
    rw [data_length] at this; omega
  have HC0 := cut_row s m hs
  have HP0 := read_parts h hk
  rw [← hxm] at HC0
  match hq : Cut.cut m s.data.toList, h5 with
  | [q0, q1, q2, q3, q4], _ =>
    rw [hq] at HC0 HP0 hle
    obtain ⟨P0, hP0⟩ : ∃ P : ByteArray, P = ⟨q0.toArray⟩ := ⟨_, rfl⟩
    obtain ⟨P1, hP1⟩ : ∃ P : ByteArray, P = ⟨q1.toArray⟩ := ⟨_, rfl⟩
    obtain ⟨P2, hP2⟩ : ∃ P : ByteArray, P = ⟨q2.toArray⟩ := ⟨_, rfl⟩
    obtain ⟨P3, hP3⟩ : ∃ P : ByteArray, P = ⟨q3.toArray⟩ := ⟨_, rfl⟩
    obtain ⟨P4, hP4⟩ : ∃ P : ByteArray, P = ⟨q4.toArray⟩ := ⟨_, rfl⟩
    have e1 : P1.data.toList = q1 := by rw [hP1]
    have e2 : P2.data.toList = q2 := by rw [hP2]
    have e3 : P3.data.toList = q3 := by rw [hP3]
    have e4 : P4.data.toList = q4 := by rw [hP4]
    have s2 : P2.size ≤ 1000000 := by rw [← data_length, e2]; exact hle q2 (by simp)
    have HC := Aside0.mk (show ∀ W, Calls Tryz.prog 39 #[.string s, .int .u8 (x : Int)] W fun e w' => ∃ g c, 5 ≤ c ∧ e = .returned (.slice (some ⟨g, 0, none⟩) 5 c) ∧ Below W.heap.size W w' ∧ g < w'.heap.size ∧ w'.cell? ⟨g, 0, none⟩ = some (.string P0) ∧ w'.cell? ⟨g, 1, none⟩ = some (.string P1) ∧ w'.cell? ⟨g, 2, none⟩ = some (.string P2) ∧ w'.cell? ⟨g, 3, none⟩ = some (.string P3) ∧ w'.cell? ⟨g, 4, none⟩ = some (.string P4) from fun W => (HC0 W).mono (by
      rintro e w' ⟨A, c, h1, h2, h3, h4⟩
      obtain ⟨g, rfl, hg, c0⟩ := h4 0 (.string P0) (by rw [hP0]; rfl)
      obtain ⟨g', hg1, _, c1⟩ := h4 1 (.string P1) (by rw [hP1]; rfl)
      cases hg1
      obtain ⟨g', hg1, _, c2⟩ := h4 2 (.string P2) (by rw [hP2]; rfl)
      cases hg1
      obtain ⟨g', hg1, _, c3⟩ := h4 3 (.string P3) (by rw [hP3]; rfl)
      cases hg1
      obtain ⟨g', hg1, _, c4⟩ := h4 4 (.string P4) (by rw [hP4]; rfl)
      cases hg1
      exact ⟨g, c, h1, h2, h3, hg, c0, c1, c2, c3, c4⟩))
    have HP := Aside0.mk (show readE s.data.toList = five P1.data.toList P2.data.toList P3.data.toList P4.data.toList from by
      rw [HP0, e1, e2, e3, e4])
    have HG1 := Aside0.mk (fun W => ref_get_calls P1 9 W)
    have HG3 := Aside0.mk (fun W => ref_get_calls P3 65535 W)
    have hg1 := getMost_get 9 P1.data.toList
    have hg3 := getMost_get 65535 P3.data.toList
    have HQ := Aside0.mk (fun W => Quad.ref_read_calls P2 s2 W)
    clear hq HC0 HP0 hle hP0 hP1 hP2 hP3 hP4 e1 e2 e3 e4 s2 h hk hxm h5 hs
    by_cases h4 : P4.data.toList = []
    · have h4e : P4.toList = [] := by rw [ByteArray.toList_eq]; exact h4
      have HP4 := Aside0.mk (show readE s.data.toList = five P1.data.toList P2.data.toList P3.data.toList [] from by rw [HP.out, h4])
      clear h4
      cases hk1 : getMost 9 P1.data.toList with
      | none =>
        rw [hk1] at hg1
        rw [show Dig.get P1.data.toList 9 = _ from hg1] at HG1
        have HF := Aside0.mk (show readE s.data.toList = .form from by rw [HP4.out, five, if_neg (by simp), hk1])
        clear hg1 hg3 hk1
        go_enter Tryz.func20, Tryz.ntmps20
        go_wp2_with (first
          | (go_at_call 41; refine (HK.out _).mono ?_; rintro e w3 ⟨rfl, hw⟩; obtain rfl := hw.symm)
          | (go_at_call 39; refine (HC.out _).mono ?_; rintro e w1 ⟨g, cc, hcc, rfl, hb1, hg1⟩; have HR := Aside0.mk ((Rd.start w).below hb1); have HG := Aside0.mk hg1; clear hb1 hg1; obtain ⟨qc0, qc1, qc2, qc3, qc4, qf0, qf1, qf2, qf3, qf4⟩ := HR.out.facts; obtain ⟨hgl, g0, g1, g2, g3, g4⟩ := HG.out; clear hgl)
          | (go_at_call 40; with_reducible refine (HG1.out _).mono ?_; rintro e w3 ⟨rfl, hw⟩; obtain rfl := hw.symm))
        try simp only [Exit.inBlock, Exit.then]
        refine bodyPost_ret (res_rRead _ _ w.heap.size 0 0 0 0 0 (.int .i64 2) rfl rfl (HR.out.putV 0 0 0 0 0)) rfl ⟨?_, HR.out.putB 0 0 0 0 0⟩
        first | (rw [HF.out]; rfl) | rfl
      | some k =>
        rw [hk1] at hg1
        rw [show Dig.get P1.data.toList 9 = _ from hg1] at HG1
        have hk9 := ((getMost_iff 9 (by decide) _ _).1 hk1).2
        match k, hk1, HG1, hk9 with
        | 0, hk1, HG1, hk9 =>
          have HF := Aside0.mk (show readE s.data.toList = .form from by rw [HP4.out, five, if_neg (by simp), hk1]; rfl)
          clear hg1 hg3 hk1
          go_enter Tryz.func20, Tryz.ntmps20
          go_wp2_with (first
            | (go_at_call 41; refine (HK.out _).mono ?_; rintro e w3 ⟨rfl, hw⟩; obtain rfl := hw.symm)
            | (go_at_call 39; refine (HC.out _).mono ?_; rintro e w1 ⟨g, cc, hcc, rfl, hb1, hg1⟩; have HR := Aside0.mk ((Rd.start w).below hb1); have HG := Aside0.mk hg1; clear hb1 hg1; obtain ⟨qc0, qc1, qc2, qc3, qc4, qf0, qf1, qf2, qf3, qf4⟩ := HR.out.facts; obtain ⟨hgl, g0, g1, g2, g3, g4⟩ := HG.out; clear hgl)
            | (go_at_call 40; with_reducible refine (HG1.out _).mono ?_; rintro e w3 ⟨rfl, hw⟩; obtain rfl := hw.symm))
          try simp only [Exit.inBlock, Exit.then]
          refine bodyPost_ret (res_rRead _ _ w.heap.size 0 0 0 0 0 (.int .i64 2) rfl rfl (HR.out.putV 0 0 0 0 0)) rfl ⟨?_, HR.out.putB 0 0 0 0 0⟩
          first | (rw [HF.out]; rfl) | rfl
        | k + 2, hk1, HG1, hk9 =>
          have HF := Aside0.mk (show readE s.data.toList = .kind from by rw [HP4.out, five, if_neg (by simp), hk1]; rfl)
          obtain ⟨q, hq⟩ : ∃ q, q = k + 2 := ⟨_, rfl⟩
          rw [← hq] at HG1
          have hq0 : decide ((q : Int) < 1) = false := decide_eq_false (by omega)
          have hq1 : ((q : Int) != 1) = true := bne_iff_ne.2 (by omega)
          have hq2 : ¬ q = 0 := by omega
          clear hg1 hg3 hk1 hq hk9
          go_enter Tryz.func20, Tryz.ntmps20
          go_wp2_with (first
            | (go_at_call 41; refine (HK.out _).mono ?_; rintro e w3 ⟨rfl, hw⟩; obtain rfl := hw.symm)
            | (go_at_call 39; refine (HC.out _).mono ?_; rintro e w1 ⟨g, cc, hcc, rfl, hb1, hg1⟩; have HR := Aside0.mk ((Rd.start w).below hb1); have HG := Aside0.mk hg1; clear hb1 hg1; obtain ⟨qc0, qc1, qc2, qc3, qc4, qf0, qf1, qf2, qf3, qf4⟩ := HR.out.facts; obtain ⟨hgl, g0, g1, g2, g3, g4⟩ := HG.out; clear hgl)
            | (go_at_call 40; with_reducible refine (HG1.out _).mono ?_; rintro e w3 ⟨rfl, hw⟩; obtain rfl := hw.symm))
          try simp only [Exit.inBlock, Exit.then]
          refine bodyPost_ret (res_rRead _ _ w.heap.size 0 0 0 0 0 (.int .i64 8) rfl rfl (HR.out.putV 0 0 0 0 0)) rfl ⟨?_, HR.out.putB 0 0 0 0 0⟩
          first | (rw [HF.out]; rfl) | rfl
        | 1, hk1, HG1, hk9 =>
          have HP5 := Aside0.mk (show readE s.data.toList = match readN P2.data.toList, getMost 65535 P3.data.toList with | some (a, b, c, d), some p => if p = 0 then .form else .ok a b c d p | _, _ => .form from by rw [HP4.out, five, if_neg (by simp), hk1]; rfl)
          clear hg1 hk1 hk9 HP4
          cases hr : readN P2.data.toList with
          | none =>
            rw [hr] at HQ HP5
            have HF := Aside0.mk (show readE s.data.toList = .form from HP5.out)
            obtain ⟨g', b, hgb⟩ : ∃ g b, Dig.get P3.data.toList 65535 = (g, b) := ⟨_, _, rfl⟩
            rw [hgb] at HG3
            clear hg3 hgb hr HP5
            go_enter Tryz.func20, Tryz.ntmps20
            go_wp2_with (first
              | (go_at_call 41; refine (HK.out _).mono ?_; rintro e w3 ⟨rfl, hw⟩; obtain rfl := hw.symm)
              | (go_at_call 39; refine (HC.out _).mono ?_; rintro e w1 ⟨g, cc, hcc, rfl, hb1, hg1⟩; have HR := Aside0.mk ((Rd.start w).below hb1); have HG := Aside0.mk hg1; clear hb1 hg1; obtain ⟨qc0, qc1, qc2, qc3, qc4, qf0, qf1, qf2, qf3, qf4⟩ := HR.out.facts; obtain ⟨hgl, g0, g1, g2, g3, g4⟩ := HG.out; clear hgl)
              | (go_at_call 40; with_reducible refine (HG1.out _).mono ?_; rintro e w3 ⟨rfl, hw⟩; obtain rfl := hw.symm)
              | (go_at_call 42; refine (HQ.out _).mono ?_; rintro e w5 ⟨rfl, hb5⟩; clear g0 g1 g2 g3 g4; clear qc0 qc1 qc2 qc3 qc4 qf0 qf1 qf2 qf3 qf4; have HR5 := Aside0.mk (HR.out.below hb5); have g3 : ∀ o, (w5.alloc o).cell? ⟨g, 3, none⟩ = some (.string P3) := fun o => ((hb5.trans ((Below.refl _ _).alloc hb5.size o)).cell HG.out.1).trans HG.out.2.2.2.2.1; have hlt5 := Aside0.mk (Nat.lt_of_lt_of_le HG.out.1 hb5.size); have hne1 : g ≠ w5.heap.size := Nat.ne_of_lt hlt5.out; have hne2 : w5.heap.size ≠ g := Nat.ne_of_gt hlt5.out; obtain ⟨qc0, qc1, qc2, qc3, qc4, qf0, qf1, qf2, qf3, qf4⟩ := (HR5.out.alloc (.cells #[.int .u8 0, .int .u8 0, .int .u8 0, .int .u8 0] 28)).facts; clear hb5; simp only [readR])
              | (go_at_call 40; with_reducible refine (HG3.out _).mono ?_; rintro e w3 ⟨rfl, hw⟩; obtain rfl := hw.symm))
            try simp only [Exit.inBlock, Exit.then]
            refine bodyPost_ret (res_rRead _ _ w.heap.size 0 0 0 0 0 (.int .i64 2) rfl rfl ((HR5.out.alloc _).putV 0 0 0 0 0)) rfl ⟨?_, (HR5.out.alloc _).putB 0 0 0 0 0⟩
            first | (rw [HF.out]; rfl) | rfl
          | some t =>
            obtain ⟨a, b, c, d⟩ := t
            rw [hr] at HQ HP5
            cases hn : getMost 65535 P3.data.toList with
            | none =>
              rw [hn] at hg3 HP5
              have HF := Aside0.mk (show readE s.data.toList = .form from HP5.out)
              rw [show Dig.get P3.data.toList 65535 = _ from hg3] at HG3
              clear hg3 hn hr HP5
              go_enter Tryz.func20, Tryz.ntmps20
              go_wp2_with (first
                | (go_at_call 41; refine (HK.out _).mono ?_; rintro e w3 ⟨rfl, hw⟩; obtain rfl := hw.symm)
                | (go_at_call 39; refine (HC.out _).mono ?_; rintro e w1 ⟨g, cc, hcc, rfl, hb1, hg1⟩; have HR := Aside0.mk ((Rd.start w).below hb1); have HG := Aside0.mk hg1; clear hb1 hg1; obtain ⟨qc0, qc1, qc2, qc3, qc4, qf0, qf1, qf2, qf3, qf4⟩ := HR.out.facts; obtain ⟨hgl, g0, g1, g2, g3, g4⟩ := HG.out; clear hgl)
                | (go_at_call 40; with_reducible refine (HG1.out _).mono ?_; rintro e w3 ⟨rfl, hw⟩; obtain rfl := hw.symm)
                | (go_at_call 42; refine (HQ.out _).mono ?_; rintro e w5 ⟨rfl, hb5⟩; clear g0 g1 g2 g3 g4; clear qc0 qc1 qc2 qc3 qc4 qf0 qf1 qf2 qf3 qf4; have HR5 := Aside0.mk (HR.out.below hb5); have g3 : ∀ o, (w5.alloc o).cell? ⟨g, 3, none⟩ = some (.string P3) := fun o => ((hb5.trans ((Below.refl _ _).alloc hb5.size o)).cell HG.out.1).trans HG.out.2.2.2.2.1; have hlt5 := Aside0.mk (Nat.lt_of_lt_of_le HG.out.1 hb5.size); have hne1 : g ≠ w5.heap.size := Nat.ne_of_lt hlt5.out; have hne2 : w5.heap.size ≠ g := Nat.ne_of_gt hlt5.out; obtain ⟨qc0, qc1, qc2, qc3, qc4, qf0, qf1, qf2, qf3, qf4⟩ := (HR5.out.alloc (.cells #[.int .u8 a, .int .u8 b, .int .u8 c, .int .u8 d] 28)).facts; clear hb5; simp only [readR])
                | (go_at_call 40; with_reducible refine (HG3.out _).mono ?_; rintro e w3 ⟨rfl, hw⟩; obtain rfl := hw.symm))
              try simp only [Exit.inBlock, Exit.then]
              refine bodyPost_ret (res_rRead _ _ w.heap.size 0 0 0 0 0 (.int .i64 2) rfl rfl ((HR5.out.alloc _).putV 0 0 0 0 0)) rfl ⟨?_, (HR5.out.alloc _).putB 0 0 0 0 0⟩
              first | (rw [HF.out]; rfl) | rfl
            | some n =>
              rw [hn] at hg3 HP5
              rw [show Dig.get P3.data.toList 65535 = _ from hg3] at HG3
              have hn5 := ((getMost_iff 65535 (by decide) _ _).1 hn).2
              have HP6 := Aside0.mk (show readE s.data.toList = if n = 0 then .form else .ok a b c d n from HP5.out)
              clear hg3 hn hr HP5
              by_cases h0 : n = 0
              · subst h0
                have HF := Aside0.mk (show readE s.data.toList = .form from HP6.out)
                clear HP6
                go_enter Tryz.func20, Tryz.ntmps20
                go_wp2_with (first
                  | (go_at_call 41; refine (HK.out _).mono ?_; rintro e w3 ⟨rfl, hw⟩; obtain rfl := hw.symm)
                  | (go_at_call 39; refine (HC.out _).mono ?_; rintro e w1 ⟨g, cc, hcc, rfl, hb1, hg1⟩; have HR := Aside0.mk ((Rd.start w).below hb1); have HG := Aside0.mk hg1; clear hb1 hg1; obtain ⟨qc0, qc1, qc2, qc3, qc4, qf0, qf1, qf2, qf3, qf4⟩ := HR.out.facts; obtain ⟨hgl, g0, g1, g2, g3, g4⟩ := HG.out; clear hgl)
                  | (go_at_call 40; with_reducible refine (HG1.out _).mono ?_; rintro e w3 ⟨rfl, hw⟩; obtain rfl := hw.symm)
                  | (go_at_call 42; refine (HQ.out _).mono ?_; rintro e w5 ⟨rfl, hb5⟩; clear g0 g1 g2 g3 g4; clear qc0 qc1 qc2 qc3 qc4 qf0 qf1 qf2 qf3 qf4; have HR5 := Aside0.mk (HR.out.below hb5); have g3 : ∀ o, (w5.alloc o).cell? ⟨g, 3, none⟩ = some (.string P3) := fun o => ((hb5.trans ((Below.refl _ _).alloc hb5.size o)).cell HG.out.1).trans HG.out.2.2.2.2.1; have hlt5 := Aside0.mk (Nat.lt_of_lt_of_le HG.out.1 hb5.size); have hne1 : g ≠ w5.heap.size := Nat.ne_of_lt hlt5.out; have hne2 : w5.heap.size ≠ g := Nat.ne_of_gt hlt5.out; obtain ⟨qc0, qc1, qc2, qc3, qc4, qf0, qf1, qf2, qf3, qf4⟩ := (HR5.out.alloc (.cells #[.int .u8 a, .int .u8 b, .int .u8 c, .int .u8 d] 28)).facts; clear hb5; simp only [readR])
                  | (go_at_call 40; with_reducible refine (HG3.out _).mono ?_; rintro e w3 ⟨rfl, hw⟩; obtain rfl := hw.symm))
                try simp only [Exit.inBlock, Exit.then]
                refine bodyPost_ret (res_rRead _ _ w.heap.size 0 0 0 0 0 (.int .i64 2) rfl rfl ((HR5.out.alloc _).putV 0 0 0 0 0)) rfl ⟨?_, (HR5.out.alloc _).putB 0 0 0 0 0⟩
                first | (rw [HF.out]; rfl) | rfl
              · have HF := Aside0.mk (show readE s.data.toList = .ok a b c d n from by rw [HP6.out, if_neg h0])
                have hn1 : decide ((n : Int) < 1) = false := decide_eq_false (by omega)
                clear HP6
                go_enter Tryz.func20, Tryz.ntmps20
                go_wp2_with (first
                  | (go_at_call 41; refine (HK.out _).mono ?_; rintro e w3 ⟨rfl, hw⟩; obtain rfl := hw.symm)
                  | (go_at_call 39; refine (HC.out _).mono ?_; rintro e w1 ⟨g, cc, hcc, rfl, hb1, hg1⟩; have HR := Aside0.mk ((Rd.start w).below hb1); have HG := Aside0.mk hg1; clear hb1 hg1; obtain ⟨qc0, qc1, qc2, qc3, qc4, qf0, qf1, qf2, qf3, qf4⟩ := HR.out.facts; obtain ⟨hgl, g0, g1, g2, g3, g4⟩ := HG.out; clear hgl)
                  | (go_at_call 40; with_reducible refine (HG1.out _).mono ?_; rintro e w3 ⟨rfl, hw⟩; obtain rfl := hw.symm)
                  | (go_at_call 42; refine (HQ.out _).mono ?_; rintro e w5 ⟨rfl, hb5⟩; clear g0 g1 g2 g3 g4; clear qc0 qc1 qc2 qc3 qc4 qf0 qf1 qf2 qf3 qf4; have HR5 := Aside0.mk (HR.out.below hb5); have g3 : ∀ o, (w5.alloc o).cell? ⟨g, 3, none⟩ = some (.string P3) := fun o => ((hb5.trans ((Below.refl _ _).alloc hb5.size o)).cell HG.out.1).trans HG.out.2.2.2.2.1; have hlt5 := Aside0.mk (Nat.lt_of_lt_of_le HG.out.1 hb5.size); have hne1 : g ≠ w5.heap.size := Nat.ne_of_lt hlt5.out; have hne2 : w5.heap.size ≠ g := Nat.ne_of_gt hlt5.out; obtain ⟨qc0, qc1, qc2, qc3, qc4, qf0, qf1, qf2, qf3, qf4⟩ := (HR5.out.alloc (.cells #[.int .u8 a, .int .u8 b, .int .u8 c, .int .u8 d] 28)).facts; clear hb5; simp only [readR])
                  | (go_at_call 40; with_reducible refine (HG3.out _).mono ?_; rintro e w3 ⟨rfl, hw⟩; obtain rfl := hw.symm))
                try simp only [Exit.inBlock, Exit.then]
                refine bodyPost_ret (res_rRead _ _ w.heap.size a b c d n (.int .i64 0) rfl rfl ((HR5.out.alloc _).putV a b c d n)) rfl ⟨?_, (HR5.out.alloc _).putB a b c d n⟩
                first | (rw [HF.out]; rfl) | rfl
    · have h4e : P4.toList.isEmpty = false := by rw [ByteArray.toList_eq]; exact List.isEmpty_eq_false_iff.2 h4
      have HF := Aside0.mk (show readE s.data.toList = .form from by rw [HP.out]; exact if_pos h4)
      clear hg1 hg3 h4
      go_enter Tryz.func20, Tryz.ntmps20
      go_wp2_with (first
        | (go_at_call 41; refine (HK.out _).mono ?_; rintro e w3 ⟨rfl, hw⟩; obtain rfl := hw.symm)
        | (go_at_call 39; refine (HC.out _).mono ?_; rintro e w1 ⟨g, cc, hcc, rfl, hb1, hg1⟩; have HR := Aside0.mk ((Rd.start w).below hb1); have HG := Aside0.mk hg1; clear hb1 hg1; obtain ⟨qc0, qc1, qc2, qc3, qc4, qf0, qf1, qf2, qf3, qf4⟩ := HR.out.facts; obtain ⟨hgl, g0, g1, g2, g3, g4⟩ := HG.out; clear hgl))
      try simp only [Exit.inBlock, Exit.then]
      refine bodyPost_ret (res_rRead _ _ w.heap.size 0 0 0 0 0 (.int .i64 2) rfl rfl (HR.out.putV 0 0 0 0 0)) rfl ⟨?_, HR.out.putB 0 0 0 0 0⟩
      first | (rw [HF.out]; rfl) | rfl

set_option maxHeartbeats 4000000 in
set_option maxRecDepth 100000 in
theorem ref_read_calls (s : ByteArray) (hs : s.size ≤ 1000000) (w : World) :
    Calls Tryz.prog 20 #[.string s] w fun e w' => e = .returned (readV (readE s.data.toList)) ∧ Below w.heap.size w w' := by
  match h : s.data.toList with
  | [] =>
    have h0 : s.size = 0 := by rw [← data_length, h]; rfl
    have HF := Aside0.mk (show readV (readE []) = readV .form from rfl)
    clear h
    go_enter Tryz.func20, Tryz.ntmps20
    go_wp2
    try simp only [Exit.inBlock, Exit.then]
    refine bodyPost_ret (res_rRead _ _ w.heap.size 0 0 0 0 0 (.int .i64 2) rfl rfl (Rd.start w).2) rfl ⟨?_, (Rd.start w).1⟩
    first | (rw [HF.out]; rfl) | rfl
  | m :: l =>
    rw [← h]
    have h0s : 0 < s.size := by rw [← data_length, h]; exact Nat.succ_pos _
    have h0n : ¬ s.size = 0 := by omega
    have h0b : ((s.size : Int) == 0) = false := beq_eq_false_iff_ne.2 (by omega)
    have h0c : ∀ h : 0 < s.size, ((s[0]'h).toNat : Int) = (m.toNat : Int) := fun hh => by have e := bt_byte s 0 (by rw [h]; simp); simp only [h, List.getElem_cons_zero] at e; rw [← e]; exact bt_at s 0 hh
    have HK := Aside0.mk (fun W => ref_mark_calls m W)
    have HC0 := Aside0.mk (cut_row s m hs)
    obtain ⟨x, hx⟩ : ∃ x, x = m.toNat := ⟨_, rfl⟩
    rw [← hx] at h0c HK HC0
    have hxm := Aside0.mk hx
    clear hx
    cases hk : isMark m with
    | false =>
      rw [hk] at HK
      have HF := Aside0.mk (show readE s.data.toList = .form from by rw [h]; exact if_pos hk)
      have HC := Aside0.mk (show ∀ W, Calls Tryz.prog 39 #[.string s, .int .u8 (x : Int)] W fun e w' => ∃ A c, (Cut.cut m s.data.toList).length ≤ c ∧ e = .returned (.slice A (Cut.cut m s.data.toList).length c) ∧ Below W.heap.size W w' from fun W => (HC0.out W).mono fun e w' ⟨A, c, h1, h2, h3, _⟩ => ⟨A, c, h1, h2, h3⟩)
      obtain ⟨N, hN⟩ : ∃ N, N = (Cut.cut m s.data.toList).length := ⟨_, rfl⟩
      rw [← hN] at HC
      clear h hk hN HC0
      go_enter Tryz.func20, Tryz.ntmps20
      go_wp2_with (first
        | (go_at_call 41; refine (HK.out _).mono ?_; rintro e w3 ⟨rfl, hw⟩; obtain rfl := hw.symm)
        | (go_at_call 39; refine (HC.out _).mono ?_; rintro e w1 ⟨A, cc, hcc, rfl, hb1⟩; have HR := Aside0.mk ((Rd.start w).below hb1); clear hb1; obtain ⟨qc0, qc1, qc2, qc3, qc4, qf0, qf1, qf2, qf3, qf4⟩ := HR.out.facts))
      try simp only [Exit.inBlock, Exit.then]
      refine bodyPost_ret (res_rRead _ _ w.heap.size 0 0 0 0 0 (.int .i64 2) rfl rfl (HR.out.putV 0 0 0 0 0)) rfl ⟨?_, HR.out.putB 0 0 0 0 0⟩
      first | (rw [HF.out]; rfl) | rfl
    | true =>
      rw [hk] at HK
      by_cases h5 : (Cut.cut m s.data.toList).length = 5
      · exact ref_read_five s hs w m l h hk h5 h0s h0n h0b x hxm.out HK h0c
      · have HF := Aside0.mk (read_not5 h hk h5)
        have HC := Aside0.mk (show ∀ W, Calls Tryz.prog 39 #[.string s, .int .u8 (x : Int)] W fun e w' => ∃ A c, (Cut.cut m s.data.toList).length ≤ c ∧ e = .returned (.slice A (Cut.cut m s.data.toList).length c) ∧ Below W.heap.size W w' from fun W => (HC0.out W).mono fun e w' ⟨A, c, h1, h2, h3, _⟩ => ⟨A, c, h1, h2, h3⟩)
        obtain ⟨N, hN⟩ : ∃ N, N = (Cut.cut m s.data.toList).length := ⟨_, rfl⟩
        rw [← hN] at HC h5
        have hN5 : ((N : Int) != 5) = true := bne_iff_ne.2 (by omega)
        clear h hk hN HC0
        go_enter Tryz.func20, Tryz.ntmps20
        go_wp2_with (first
          | (go_at_call 41; refine (HK.out _).mono ?_; rintro e w3 ⟨rfl, hw⟩; obtain rfl := hw.symm)
          | (go_at_call 39; refine (HC.out _).mono ?_; rintro e w1 ⟨A, cc, hcc, rfl, hb1⟩; have HR := Aside0.mk ((Rd.start w).below hb1); clear hb1; obtain ⟨qc0, qc1, qc2, qc3, qc4, qf0, qf1, qf2, qf3, qf4⟩ := HR.out.facts))
        try simp only [Exit.inBlock, Exit.then]
        refine bodyPost_ret (res_rRead _ _ w.heap.size 0 0 0 0 0 (.int .i64 2) rfl rfl (HR.out.putV 0 0 0 0 0)) rfl ⟨?_, HR.out.putB 0 0 0 0 0⟩
        first | (rw [HF.out]; rfl) | rfl
end Go.Proofs.YtdcbkeihgbekdaaGreatDoor.Ext

namespace Go.Proofs.YtdcbkeihgbekdaaGreatDoor.Ext
open Go Go.RowKit Go.Proofs.YtdcbkeihgbekdaaGreatDoorW.PrintWords Go.Proofs.YtdcbkeihgbekdaaGreatDoorW.PrintLast Go.Proofs.YtdcbkeihgbekdaaGreatDoorW.PrintMore Go.Proofs.YtdcbkeihgbekdaaGreatDoor.Dig Go.Proofs.YtdcbkeihgbekdaaGreatDoor.Quad Go.Proofs.YtdcbkeihgbekdaaGreatDoor.ExtP Go.Proofs.YtdcbkeihgbekdaaGreatDoor.SixP
set_option linter.unusedVariables false
set_option linter.unusedSimpArgs false

theorem eq_true {a b : UInt8} (h : a = b) : (((a.toNat : Nat) : Int) == (b.toNat : Int)) = true := by rw [h]; exact beq_self_eq_true _
theorem eq_false {a b : UInt8} (h : a ≠ b) : (((a.toNat : Nat) : Int) == (b.toNat : Int)) = false :=
  beq_eq_false_iff_ne.2 fun e => h (UInt8.toNat_inj.1 (by omega))
theorem list_five {l : List UInt8} (h : 5 ≤ l.length) : ∃ m x y z v, l = m :: x :: y :: z ∧ 2 ≤ z.length ∧ z.getLast? = some v ∧ ∃ h : l.length - 1 < l.length, l[l.length - 1] = v := by
  match l, h with
  | m :: x :: y :: a :: b :: r, _ =>
    obtain ⟨z, hz⟩ : ∃ z, z = a :: b :: r := ⟨_, rfl⟩
    have hne : z ≠ [] := by rw [hz]; simp
    refine ⟨m, x, y, z, z.getLast hne, by rw [hz], by rw [hz]; simp, List.getLast?_eq_some_getLast hne, by simp, ?_⟩
    have : (m :: x :: y :: a :: b :: r).getLast (by simp) = z.getLast hne := by subst hz; simp [List.getLast_cons]
    rw [← this, List.getLast_eq_getElem]

set_option maxHeartbeats 2000000 in
set_option maxRecDepth 100000 in
theorem ref_find_calls (s : ByteArray) (hs : s.size ≤ 1000000) (w : World) :
    Calls Tryz.prog 25 #[.string s] w fun e w' => e = .returned (findR (findE s.data.toList)) ∧ w' = w := by
  rw [findE_between]
  have HI := Aside0.mk (fun W => inside_calls s hs W)
  have hbl : ∀ m, between s.data.toList = some m → m.length ≤ 1000000 := by
    intro m h
    simp only [between, Option.bind_eq_some_iff, Option.map_eq_some_iff] at h
    obtain ⟨x, h1, y, h2, h3⟩ := h
    obtain ⟨a, r⟩ := x
    obtain ⟨b, r2⟩ := y
    have e1 := (cut1_is h1).1
    have e2 := (cut1_is h2).1
    have := data_length s
    simp only at h3 e2
    subst h3
    have l1 := congrArg List.length e1
    have l2 := congrArg List.length e2
    simp only [List.length_append, List.length_cons] at l1 l2
    omega
  cases hb : between s.data.toList with
  | none =>
    rw [hb] at HI
    go_enter Tryz.func25, Tryz.ntmps25
    go_wp2_with (go_at_call 48; refine (HI.out _).mono ?_; rintro e w1 ⟨rfl, hw⟩; obtain rfl := hw.symm; simp only [insideR])
    go_ret2
    exact ⟨rfl, rfl⟩
  | some t =>
    rw [hb] at HI
    have hml := hbl t hb
    clear hbl hb
    obtain ⟨M, hM⟩ : ∃ M : ByteArray, M = ⟨t.toArray⟩ := ⟨_, rfl⟩
    have hMl : M.data.toList = t := by rw [hM]
    have HMs := Aside0.mk (show M.size = t.length from by rw [← data_length, hMl])
    have HV := Aside0.mk (show insideR (some t) = .tuple #[.string M, .bool true] from by rw [hM]; rfl)
    clear hM
    by_cases h5 : t.length < 5
    · have hlt : decide (((M.size : Nat) : Int) < 5) = true := decide_eq_true (by have := HMs.out; omega)
      have hlt2 : M.size < 5 := by have := HMs.out; omega
      have HF := Aside0.mk (show findR ((some t).bind inner) = .tuple #[.int .i64 0, .bool false] from by show findR (inner t) = _; rw [inner_short h5]; rfl)
      clear h5
      go_enter Tryz.func25, Tryz.ntmps25
      go_wp2_with (go_at_call 48; refine (HI.out _).mono ?_; rw [HV.out]; rintro e w1 ⟨rfl, hw⟩; obtain rfl := hw.symm)
      go_ret2
      exact ⟨by rw [HF.out]; rfl, rfl⟩
    · obtain ⟨m, x, y, z, v, ht, hz2, hv, hl1, hl2⟩ := list_five (Nat.le_of_not_lt h5)
      have hg := inner_goes m x y v z hv
      rw [← ht] at hg
      have h5' : 5 ≤ M.size := by have := HMs.out; omega
      have h0c : ∀ h : 0 < M.size, ((M[0]'h).toNat : Int) = (m.toNat : Int) := fun h => by have e := bt_byte M 0 (by rw [hMl]; omega); simp only [hMl, ht, List.getElem_cons_zero] at e; rw [← e]; exact bt_at M 0 h
      have h1c : ∀ h : 1 < M.size, ((M[1]'h).toNat : Int) = (x.toNat : Int) := fun h => by have e := bt_byte M 1 (by rw [hMl]; omega); simp only [hMl, ht, List.getElem_cons_zero, List.getElem_cons_succ] at e; rw [← e]; exact bt_at M 1 h
      have h2c : ∀ h : 2 < M.size, ((M[2]'h).toNat : Int) = (y.toNat : Int) := fun h => by have e := bt_byte M 2 (by rw [hMl]; omega); simp only [hMl, ht, List.getElem_cons_zero, List.getElem_cons_succ] at e; rw [← e]; exact bt_at M 2 h
      obtain ⟨L, hL⟩ : ∃ L, M.size = L + 1 := ⟨M.size - 1, by omega⟩
      have hLt : L = t.length - 1 := by have := HMs.out; omega
      have hLc : ∀ h : L < M.size, ((M[L]'h).toNat : Int) = (v.toNat : Int) := fun h => by
        have e := bt_byte M L (by rw [hMl, hLt]; exact hl1)
        subst hLt
        simp only [hMl] at e
        rw [hl2] at e
        rw [← e]; exact bt_at M (((t.length - 1 : Nat) : Int)) h
      have hL4 : 4 ≤ L := by omega
      have hL6 : L < 1000000 := by omega
      have hdr : (t.take L).drop 3 = z.dropLast := by
        rw [hLt, ht, List.dropLast_eq_take]
        simp only [List.length_cons]
        rw [show z.length + 1 + 1 + 1 - 1 = (z.length - 1) + 1 + 1 + 1 from by omega]
        rfl
      have hsl : ∀ W, (Instr.slice 9 (.string M) (some (.int .i64 3)) (some (.int .i64 (L : Int))) none).run Tryz.prog W = .ok (.string ⟨z.dropLast.toArray⟩) W := fun W => by
        have := slice_fk M 3 L (by omega) (by omega) W
        rw [hMl, hdr] at this; exact this
      have HK0 := Aside0.mk (fun W => ref_mark_calls m W)
      have HG0 := Aside0.mk (fun W => ref_get_calls ⟨z.dropLast.toArray⟩ 65535 W)
      have hL5 : decide (((L : Int) + 1) < 5) = false := decide_eq_false (by omega)
      clear hl1 hl2 hLt hdr HMs hv ht hz2 hMl
      obtain ⟨a, ha⟩ : ∃ a, a = m.toNat := ⟨_, rfl⟩
      obtain ⟨b, hb⟩ : ∃ b, b = x.toNat := ⟨_, rfl⟩
      obtain ⟨c, hc⟩ : ∃ c, c = y.toNat := ⟨_, rfl⟩
      obtain ⟨d, hd⟩ : ∃ d, d = v.toNat := ⟨_, rfl⟩
      rw [← ha] at h0c HK0
      rw [← hb] at h1c
      rw [← hc] at h2c
      rw [← hd] at hLc
      rcases hg with ⟨g1, g9⟩ | ⟨g1, g2, g9⟩ | ⟨g1, g2, g3, g9⟩ | ⟨g1, g2, g3, g4, g9⟩ | ⟨g1, g2, g3, g4, g5, g9⟩ | ⟨g1, g2, g3, g4, g5, g9⟩ | ⟨n, g1, g2, g3, g4, n0, n1, g5, g9⟩
      · have HK := HK0
        rw [g1] at HK
        have HF := Aside0.mk (show findR ((some t).bind inner) = .tuple #[.int .i64 0, .bool false] from by show findR (inner t) = _; rw [g9]; rfl)
        clear g1  g9 ha hb hc hd
        go_enter Tryz.func25, Tryz.ntmps25
        go_wp2_with (first
          | (go_at_call 48; refine (HI.out _).mono ?_; rw [HV.out]; rintro e w1 ⟨rfl, hw⟩; obtain rfl := hw.symm)
          | (go_at_call 41; refine (HK.out _).mono ?_; rintro e w1 ⟨rfl, hw⟩; obtain rfl := hw.symm))
        go_ret2
        exact ⟨by rw [HF.out]; rfl, rfl⟩
      · have HK := HK0
        rw [g1] at HK
        have cb : (((b : Nat) : Int) != (a : Int)) = true := by rw [bne, hb, ha, eq_false g2]; rfl
        have HF := Aside0.mk (show findR ((some t).bind inner) = .tuple #[.int .i64 0, .bool false] from by show findR (inner t) = _; rw [g9]; rfl)
        clear g1 g2 g9 ha hb hc hd
        go_enter Tryz.func25, Tryz.ntmps25
        go_wp2_with (first
          | (go_at_call 48; refine (HI.out _).mono ?_; rw [HV.out]; rintro e w1 ⟨rfl, hw⟩; obtain rfl := hw.symm)
          | (go_at_call 41; refine (HK.out _).mono ?_; rintro e w1 ⟨rfl, hw⟩; obtain rfl := hw.symm))
        go_ret2
        exact ⟨by rw [HF.out]; rfl, rfl⟩
      · have HK := HK0
        rw [g1] at HK
        have cb : (((b : Nat) : Int) != (a : Int)) = false := by rw [bne, hb, ha, eq_true g2]; rfl
        have cc : (((c : Nat) : Int) != (a : Int)) = true := by rw [bne, hc, ha, eq_false g3]; rfl
        have HF := Aside0.mk (show findR ((some t).bind inner) = .tuple #[.int .i64 0, .bool false] from by show findR (inner t) = _; rw [g9]; rfl)
        clear g1 g2 g3 g9 ha hb hc hd
        go_enter Tryz.func25, Tryz.ntmps25
        go_wp2_with (first
          | (go_at_call 48; refine (HI.out _).mono ?_; rw [HV.out]; rintro e w1 ⟨rfl, hw⟩; obtain rfl := hw.symm)
          | (go_at_call 41; refine (HK.out _).mono ?_; rintro e w1 ⟨rfl, hw⟩; obtain rfl := hw.symm))
        go_ret2
        exact ⟨by rw [HF.out]; rfl, rfl⟩
      · have HK := HK0
        rw [g1] at HK
        have cb : (((b : Nat) : Int) != (a : Int)) = false := by rw [bne, hb, ha, eq_true g2]; rfl
        have cc : (((c : Nat) : Int) != (a : Int)) = false := by rw [bne, hc, ha, eq_true g3]; rfl
        have cd : (((d : Nat) : Int) != (a : Int)) = true := by rw [bne, hd, ha, eq_false g4]; rfl
        have HF := Aside0.mk (show findR ((some t).bind inner) = .tuple #[.int .i64 0, .bool false] from by show findR (inner t) = _; rw [g9]; rfl)
        clear g1 g2 g3 g4 g9 ha hb hc hd
        go_enter Tryz.func25, Tryz.ntmps25
        go_wp2_with (first
          | (go_at_call 48; refine (HI.out _).mono ?_; rw [HV.out]; rintro e w1 ⟨rfl, hw⟩; obtain rfl := hw.symm)
          | (go_at_call 41; refine (HK.out _).mono ?_; rintro e w1 ⟨rfl, hw⟩; obtain rfl := hw.symm))
        go_ret2
        exact ⟨by rw [HF.out]; rfl, rfl⟩
      · have HK := HK0
        rw [g1] at HK
        have cb : (((b : Nat) : Int) != (a : Int)) = false := by rw [bne, hb, ha, eq_true g2]; rfl
        have cc : (((c : Nat) : Int) != (a : Int)) = false := by rw [bne, hc, ha, eq_true g3]; rfl
        have cd : (((d : Nat) : Int) != (a : Int)) = false := by rw [bne, hd, ha, eq_true g4]; rfl
        have HG := HG0
        rw [show (Dig.get (⟨z.dropLast.toArray⟩ : ByteArray).data.toList 65535) = _ from g5] at HG
        have HF := Aside0.mk (show findR ((some t).bind inner) = .tuple #[.int .i64 0, .bool false] from by show findR (inner t) = _; rw [g9]; rfl)
        clear g1 g2 g3 g4 g5 g9 ha hb hc hd
        go_enter Tryz.func25, Tryz.ntmps25
        go_wp2_with (first
          | (go_at_call 48; refine (HI.out _).mono ?_; rw [HV.out]; rintro e w1 ⟨rfl, hw⟩; obtain rfl := hw.symm)
          | (go_at_call 41; refine (HK.out _).mono ?_; rintro e w1 ⟨rfl, hw⟩; obtain rfl := hw.symm)
          | (go_at_call 40; refine (HG.out _).mono ?_; rintro e w1 ⟨rfl, hw⟩; obtain rfl := hw.symm))
        go_ret2
        exact ⟨by rw [HF.out]; rfl, rfl⟩
      · have HK := HK0
        rw [g1] at HK
        have cb : (((b : Nat) : Int) != (a : Int)) = false := by rw [bne, hb, ha, eq_true g2]; rfl
        have cc : (((c : Nat) : Int) != (a : Int)) = false := by rw [bne, hc, ha, eq_true g3]; rfl
        have cd : (((d : Nat) : Int) != (a : Int)) = false := by rw [bne, hd, ha, eq_true g4]; rfl
        have HG := HG0
        rw [show (Dig.get (⟨z.dropLast.toArray⟩ : ByteArray).data.toList 65535) = _ from g5] at HG
        have HF := Aside0.mk (show findR ((some t).bind inner) = .tuple #[.int .i64 0, .bool false] from by show findR (inner t) = _; rw [g9]; rfl)
        clear g1 g2 g3 g4 g5 g9 ha hb hc hd
        go_enter Tryz.func25, Tryz.ntmps25
        go_wp2_with (first
          | (go_at_call 48; refine (HI.out _).mono ?_; rw [HV.out]; rintro e w1 ⟨rfl, hw⟩; obtain rfl := hw.symm)
          | (go_at_call 41; refine (HK.out _).mono ?_; rintro e w1 ⟨rfl, hw⟩; obtain rfl := hw.symm)
          | (go_at_call 40; refine (HG.out _).mono ?_; rintro e w1 ⟨rfl, hw⟩; obtain rfl := hw.symm))
        go_ret2
        exact ⟨by rw [HF.out]; rfl, rfl⟩
      · have HK := HK0
        rw [g1] at HK
        have cb : (((b : Nat) : Int) != (a : Int)) = false := by rw [bne, hb, ha, eq_true g2]; rfl
        have cc : (((c : Nat) : Int) != (a : Int)) = false := by rw [bne, hc, ha, eq_true g3]; rfl
        have cd : (((d : Nat) : Int) != (a : Int)) = false := by rw [bne, hd, ha, eq_true g4]; rfl
        have HG := HG0
        rw [show (Dig.get (⟨z.dropLast.toArray⟩ : ByteArray).data.toList 65535) = _ from g5] at HG
        have hn1 : decide ((n : Int) < 1) = false := decide_eq_false (by omega)
        have HF := Aside0.mk (show findR ((some t).bind inner) = .tuple #[.int .i64 n, .bool true] from by show findR (inner t) = _; rw [g9]; rfl)
        clear g1 g2 g3 g4 g5 g9 ha hb hc hd
        go_enter Tryz.func25, Tryz.ntmps25
        go_wp2_with (first
          | (go_at_call 48; refine (HI.out _).mono ?_; rw [HV.out]; rintro e w1 ⟨rfl, hw⟩; obtain rfl := hw.symm)
          | (go_at_call 41; refine (HK.out _).mono ?_; rintro e w1 ⟨rfl, hw⟩; obtain rfl := hw.symm)
          | (go_at_call 40; refine (HG.out _).mono ?_; rintro e w1 ⟨rfl, hw⟩; obtain rfl := hw.symm))
        go_ret2
        exact ⟨by rw [HF.out]; rfl, rfl⟩
end Go.Proofs.YtdcbkeihgbekdaaGreatDoor.Ext

namespace Go.Proofs.YtdcbkeihgbekdaaGreatDoor.Q
open Go Go.RowKit Go.Proofs.YtdcbkeihgbekdaaGreatDoorW.PrintWords Go.Proofs.YtdcbkeihgbekdaaGreatDoorW.PrintLast Go.Proofs.YtdcbkeihgbekdaaGreatDoorW.PrintMore Go.Proofs.YtdcbkeihgbekdaaGreatDoor.Dig Go.Proofs.YtdcbkeihgbekdaaGreatDoor.Quad Go.Proofs.YtdcbkeihgbekdaaGreatDoor.ExtP Go.Proofs.YtdcbkeihgbekdaaGreatDoor.SixP
set_option linter.unusedVariables false
def sixF : Option (Nat × Nat × Nat × Nat × Nat) → Int × Int × Int × Int × Int × Bool
  | some (a, b, c, d, p) => (a, b, c, d, p, true)
  | none => (0, 0, 0, 0, 0, false)
def extF : Out → Int × Int × Int × Int × Int × Int
  | .ok a b c d p => (a, b, c, d, p, 0)
  | .form => (0, 0, 0, 0, 0, 2)
  | .kind => (0, 0, 0, 0, 0, 8)
def portF : Option Nat → Int × Bool
  | some q => (q, true)
  | none => (0, false)
theorem sixF_is {o : Option (Nat × Nat × Nat × Nat × Nat)} {r1 r2 r3 r4 r5 : Int} {r6 : Bool} (h : sixF o = (r1, r2, r3, r4, r5, r6)) : Six.readR o = .tuple #[.agg #[.int .u8 r1, .int .u8 r2, .int .u8 r3, .int .u8 r4, .int .i64 r5], .bool r6] := by
  cases o with
  | none => cases h; rfl
  | some x => obtain ⟨a, b, c, d, p⟩ := x; cases h; rfl
theorem extF_is {o : Out} {r1 r2 r3 r4 r5 r6 : Int} (h : extF o = (r1, r2, r3, r4, r5, r6)) : Ext.readV o = .tuple #[.agg #[.int .u8 r1, .int .u8 r2, .int .u8 r3, .int .u8 r4, .int .i64 r5], .int .i64 r6] := by
  cases o <;> cases h <;> rfl
theorem portF_is {o : Option Nat} {r1 : Int} {r2 : Bool} (h : portF o = (r1, r2)) : Ext.findR o = .tuple #[.int .i64 r1, .bool r2] := by
  cases o <;> cases h <;> rfl
def wharfingerref03_Read.f (s : ByteArray) : Option (Int × Int × Int × Int × Int × Bool) := if s.size ≤ 1000000 then some (sixF (readSix s.data.toList)) else none
theorem wharfingerref03_Read.calls (a0 : ByteArray) (r1 r2 r3 r4 r5 : Int) (r6 : Bool) (w : World) (h : wharfingerref03_Read.f a0 = some (r1, r2, r3, r4, r5, r6)) :
    Calls Tryz.prog 19 #[.string a0] w fun e w' => e = .returned (.tuple #[.agg #[.int .u8 r1, .int .u8 r2, .int .u8 r3, .int .u8 r4, .int .i64 r5], .bool r6]) ∧ Below w.heap.size w w' := by
  unfold wharfingerref03_Read.f at h
  split at h
  · rename_i hs
    have := Six.ref_read_calls a0 hs w
    rwa [sixF_is (Option.some.inj h)] at this
  · cases h
def wharfingerref03_Find.f (s : ByteArray) : Option (Int × Int × Int × Int × Int × Bool) := if s.size ≤ 1000000 then some (sixF (find s.data.toList)) else none
theorem wharfingerref03_Find.calls (a0 : ByteArray) (r1 r2 r3 r4 r5 : Int) (r6 : Bool) (w : World) (h : wharfingerref03_Find.f a0 = some (r1, r2, r3, r4, r5, r6)) :
    Calls Tryz.prog 24 #[.string a0] w fun e w' => e = .returned (.tuple #[.agg #[.int .u8 r1, .int .u8 r2, .int .u8 r3, .int .u8 r4, .int .i64 r5], .bool r6]) ∧ Below w.heap.size w w' := by
  unfold wharfingerref03_Find.f at h
  split at h
  · rename_i hs
    have := Six.ref_find_calls a0 hs w
    rwa [sixF_is (Option.some.inj h)] at this
  · cases h
def wharfingerref04_Read.f (s : ByteArray) : Option (Int × Int × Int × Int × Int × Int) := if s.size ≤ 1000000 then some (extF (readE s.data.toList)) else none
theorem wharfingerref04_Read.calls (a0 : ByteArray) (r1 r2 r3 r4 r5 r6 : Int) (w : World) (h : wharfingerref04_Read.f a0 = some (r1, r2, r3, r4, r5, r6)) :
    Calls Tryz.prog 20 #[.string a0] w fun e w' => e = .returned (.tuple #[.agg #[.int .u8 r1, .int .u8 r2, .int .u8 r3, .int .u8 r4, .int .i64 r5], .int .i64 r6]) ∧ Below w.heap.size w w' := by
  unfold wharfingerref04_Read.f at h
  split at h
  · rename_i hs
    have := Ext.ref_read_calls a0 hs w
    rwa [extF_is (Option.some.inj h)] at this
  · cases h
def wharfingerref04_Find.f (s : ByteArray) : Option (Int × Bool) := if s.size ≤ 1000000 then some (portF (findE s.data.toList)) else none
theorem wharfingerref04_Find.calls (a0 : ByteArray) (r1 : Int) (r2 : Bool) (w : World) (h : wharfingerref04_Find.f a0 = some (r1, r2)) :
    Calls Tryz.prog 25 #[.string a0] w fun e w' => e = .returned (.tuple #[.int .i64 r1, .bool r2]) ∧ Below w.heap.size w w' := by
  unfold wharfingerref04_Find.f at h
  split at h
  · rename_i hs
    refine (Ext.ref_find_calls a0 hs w).mono fun e w' ⟨he, hw⟩ => ⟨?_, hw ▸ Below.refl _ _⟩
    rwa [portF_is (Option.some.inj h)] at he
  · cases h
def isByte (n : Int) : Prop := 0 ≤ n ∧ n < 256
instance (n : Int) : Decidable (isByte n) := inferInstanceAs (Decidable (_ ∧ _))
def wharfingerref03_Text.f (a b c d p : Int) : Option (ByteArray × Bool) := if isByte a ∧ isByte b ∧ isByte c ∧ isByte d then (if p < 0 ∨ 65535 < p then some (⟨#[]⟩, false) else some (⟨(sixU a.toNat b.toNat c.toNat d.toNat p.toNat).toArray⟩, true)) else none
theorem wharfingerref03_Text.calls (a b c d p : Int) (r1 : ByteArray) (r2 : Bool) (w : World) (h : wharfingerref03_Text.f a b c d p = some (r1, r2)) :
    Calls Tryz.prog 30 #[.agg #[.int .u8 a, .int .u8 b, .int .u8 c, .int .u8 d, .int .i64 p]] w fun e w' => e = .returned (.tuple #[.string r1, .bool r2]) ∧ Below w.heap.size w w' := by
  unfold wharfingerref03_Text.f at h
  split at h
  · rename_i hb
    obtain ⟨⟨a0, a1⟩, ⟨b0, b1⟩, ⟨c0, c1⟩, d0, d1⟩ := hb
    obtain ⟨a, rfl⟩ := Int.eq_ofNat_of_zero_le a0
    obtain ⟨b, rfl⟩ := Int.eq_ofNat_of_zero_le b0
    obtain ⟨c, rfl⟩ := Int.eq_ofNat_of_zero_le c0
    obtain ⟨d, rfl⟩ := Int.eq_ofNat_of_zero_le d0
    have := Six.ref_text_calls a b c d p (by omega) (by omega) (by omega) (by omega) w
    rw [Six.textR] at this
    split at h
    · rename_i hp
      rw [if_pos hp] at this
      cases h
      exact this
    · rename_i hp
      rw [if_neg hp] at this
      cases h
      exact this
  · cases h
def wharfingerref04_Text.f (a b c d p : Int) : Option (ByteArray × Bool) := if isByte a ∧ isByte b ∧ isByte c ∧ isByte d then (if 0 < p ∧ p ≤ 65535 then some (⟨(endU a.toNat b.toNat c.toNat d.toNat p.toNat).toArray⟩, true) else some (⟨#[]⟩, false)) else none
theorem wharfingerref04_Text.calls (a b c d p : Int) (r1 : ByteArray) (r2 : Bool) (w : World) (h : wharfingerref04_Text.f a b c d p = some (r1, r2)) :
    Calls Tryz.prog 31 #[.agg #[.int .u8 a, .int .u8 b, .int .u8 c, .int .u8 d, .int .i64 p]] w fun e w' => e = .returned (.tuple #[.string r1, .bool r2]) ∧ Below w.heap.size w w' := by
  unfold wharfingerref04_Text.f at h
  split at h
  · rename_i hb
    obtain ⟨⟨a0, a1⟩, ⟨b0, b1⟩, ⟨c0, c1⟩, d0, d1⟩ := hb
    obtain ⟨a, rfl⟩ := Int.eq_ofNat_of_zero_le a0
    obtain ⟨b, rfl⟩ := Int.eq_ofNat_of_zero_le b0
    obtain ⟨c, rfl⟩ := Int.eq_ofNat_of_zero_le c0
    obtain ⟨d, rfl⟩ := Int.eq_ofNat_of_zero_le d0
    have := Ext.ref_text_calls a b c d p (by omega) (by omega) (by omega) (by omega) w
    rw [Ext.textR] at this
    split at h
    · rename_i hp
      rw [if_pos hp] at this
      cases h
      exact this
    · rename_i hp
      rw [if_neg hp] at this
      cases h
      exact this
  · cases h
end Go.Proofs.YtdcbkeihgbekdaaGreatDoor.Q

namespace Go.Proofs.YtdcbkeihgbekdaaGreatDoor.Q
open Go.RowKit Go.Proofs.YtdcbkeihgbekdaaGreatDoor.Turn Go.Proofs.YtdcbkeihgbekdaaGreatDoorW.PrintWords Go.Proofs.YtdcbkeihgbekdaaGreatDoorW.PrintLast Go.Proofs.YtdcbkeihgbekdaaGreatDoorW.PrintMore
attribute [local go_sem] max2_int min2_int max_two min_two max_three min_three max_four min_four   -- for this text's walks alone
set_option linter.unusedVariables false
set_option linter.unusedSimpArgs false



def errW : Option Int → Value
 | none => .nilIface
 | some c => .iface 0 (.int .i64 c)
theorem errW_none : errW none = .nilIface := rfl
theorem errW_some (c : Int) : errW (some c) = .iface 0 (.int .i64 c) := rfl

theorem info9 : (Tryz.prog.info? 9).map (fun i => (i.zero, i.size, i.bytes)) = some (some (.string ⟨#[]⟩), 1, 16) := by kernel_rfl
-- the values' own types

theorem cl_2 {w : World} {g : Nat} {t : TypeId} (a0 a1 : Value) (h : w.heap[g]? = some (.cells #[a0, a1] t (0, 0))) : w.cell? ⟨g, 0, none⟩ = some a0 ∧ w.cell? ⟨g, 1, none⟩ = some a1 := ⟨(blk_cell h 0).trans rfl, (blk_cell h 1).trans rfl⟩
theorem cl_4 {w : World} {g : Nat} {t : TypeId} (a0 a1 a2 a3 : Value) (h : w.heap[g]? = some (.cells #[a0, a1, a2, a3] t (0, 0))) : w.cell? ⟨g, 0, none⟩ = some a0 ∧ w.cell? ⟨g, 1, none⟩ = some a1 ∧ w.cell? ⟨g, 2, none⟩ = some a2 ∧ w.cell? ⟨g, 3, none⟩ = some a3 := ⟨(blk_cell h 0).trans rfl, (blk_cell h 1).trans rfl, (blk_cell h 2).trans rfl, (blk_cell h 3).trans rfl⟩
theorem cl_5 {w : World} {g : Nat} {t : TypeId} (a0 a1 a2 a3 a4 : Value) (h : w.heap[g]? = some (.cells #[a0, a1, a2, a3, a4] t (0, 0))) : w.cell? ⟨g, 0, none⟩ = some a0 ∧ w.cell? ⟨g, 1, none⟩ = some a1 ∧ w.cell? ⟨g, 2, none⟩ = some a2 ∧ w.cell? ⟨g, 3, none⟩ = some a3 ∧ w.cell? ⟨g, 4, none⟩ = some a4 := ⟨(blk_cell h 0).trans rfl, (blk_cell h 1).trans rfl, (blk_cell h 2).trans rfl, (blk_cell h 3).trans rfl, (blk_cell h 4).trans rfl⟩
theorem fz_2 {w : World} {g : Nat} {t : TypeId} {cs : Array Value} (h : w.heap[g]? = some (.cells cs t (0, 0))) : w.frozen? ⟨g, 0, none⟩ = false ∧ w.frozen? ⟨g, 1, none⟩ = false := ⟨blk_frozen h 0, blk_frozen h 1⟩
theorem fz_4 {w : World} {g : Nat} {t : TypeId} {cs : Array Value} (h : w.heap[g]? = some (.cells cs t (0, 0))) : w.frozen? ⟨g, 0, none⟩ = false ∧ w.frozen? ⟨g, 1, none⟩ = false ∧ w.frozen? ⟨g, 2, none⟩ = false ∧ w.frozen? ⟨g, 3, none⟩ = false := ⟨blk_frozen h 0, blk_frozen h 1, blk_frozen h 2, blk_frozen h 3⟩
theorem fz_5 {w : World} {g : Nat} {t : TypeId} {cs : Array Value} (h : w.heap[g]? = some (.cells cs t (0, 0))) : w.frozen? ⟨g, 0, none⟩ = false ∧ w.frozen? ⟨g, 1, none⟩ = false ∧ w.frozen? ⟨g, 2, none⟩ = false ∧ w.frozen? ⟨g, 3, none⟩ = false ∧ w.frozen? ⟨g, 4, none⟩ = false := ⟨blk_frozen h 0, blk_frozen h 1, blk_frozen h 2, blk_frozen h 3, blk_frozen h 4⟩

end Go.Proofs.YtdcbkeihgbekdaaGreatDoor.Q

namespace Go.Proofs.YtdcbkeihgbekdaaGreatDoor.Q
open Go.RowKit Go.Proofs.YtdcbkeihgbekdaaGreatDoor.Turn Go.Proofs.YtdcbkeihgbekdaaGreatDoorW.PrintWords Go.Proofs.YtdcbkeihgbekdaaGreatDoorW.PrintLast Go.Proofs.YtdcbkeihgbekdaaGreatDoorW.PrintMore
attribute [local go_sem] max2_int min2_int max_two min_two max_three min_three max_four min_four   -- for this text's walks alone
set_option linter.unusedVariables false
set_option linter.unusedSimpArgs false

set_option maxRecDepth 100000 in
theorem part28 (x0 x1 x2 x3 : Int) (W : World) (i : Nat) (h : i < 4) : (part 5 #[.int .u8 x0, .int .u8 x1, .int .u8 x2, .int .u8 x3] i).run Tryz.prog W = .ok (.int .u8 ([x0, x1, x2, x3].getD i 0)) W := by
 obtain rfl | rfl | rfl | rfl : i = 0 ∨ i = 1 ∨ i = 2 ∨ i = 3 := by omega
 all_goals rfl
theorem eqA28 (d : Nat) (w : World) (x0 y0 : Int) (x1 y1 : Int) (x2 y2 : Int) (x3 y3 : Int) : (Op.equalIn (d + 2) 28 (.agg #[.int .u8 x0, .int .u8 x1, .int .u8 x2, .int .u8 x3]) (.agg #[.int .u8 y0, .int .u8 y1, .int .u8 y2, .int .u8 y3])).run Tryz.prog w = .ok (x0 == y0 && (x1 == y1 && (x2 == y2 && (x3 == y3)))) w := by
 have hu : Tryz.prog.underlying 28 = some (.array 4 5) := by kernel_rfl
 have h5 : Tryz.prog.underlying 5 = some (.int .u8) := by kernel_rfl
 have hz : ∀ W, (sizeOf 5).run Tryz.prog W = .ok 1 W := Tryz.sizeOf5
 have he : ∀ x y W, (Op.equalIn (d + 1) 5 (.int .u8 x) (.int .u8 y)).run Tryz.prog W = .ok (x == y) W := fun x y W => run_equalIn_int W d 5 .u8 .u8 x y h5
 have p0 := part28 x0 x1 x2 x3 w 0 (by decide)
 have q0 := part28 y0 y1 y2 y3 w 0 (by decide)
 have p1 := part28 x0 x1 x2 x3 w 1 (by decide)
 have q1 := part28 y0 y1 y2 y3 w 1 (by decide)
 have p2 := part28 x0 x1 x2 x3 w 2 (by decide)
 have q2 := part28 y0 y1 y2 y3 w 2 (by decide)
 have p3 := part28 x0 x1 x2 x3 w 3 (by decide)
 have q3 := part28 y0 y1 y2 y3 w 3 (by decide)
 simp only [List.getD_cons_zero, List.getD_cons_succ] at p0 p1 p2 p3 q0 q1 q2 q3
 rw [Op.equalIn]
 simp only [Sem.run_bind, run_underlying hu, Result.andThen_ok, hz, Std.Legacy.Range.forIn_eq_forIn_range', Std.Legacy.Range.size, Nat.sub_zero, Nat.add_sub_cancel, Nat.div_one, List.range'_succ, List.range'_zero, List.forIn_cons, List.forIn_nil, Nat.mul_one, Nat.zero_add, Nat.reduceAdd, Nat.reduceMul, p0, p1, p2, p3, q0, q1, q2, q3, he]
 cases h0 : (x0 == y0) <;> simp only [Bool.not_true, Bool.not_false, Bool.false_eq_true, if_true, if_false, Sem.run_pure, Result.andThen_ok, Sem.run_bind, p1, q1, he, Bool.false_and, Bool.true_and]
 cases h1 : (x1 == y1) <;> simp only [Bool.not_true, Bool.not_false, Bool.false_eq_true, if_true, if_false, Sem.run_pure, Result.andThen_ok, Sem.run_bind, p2, q2, he, Bool.false_and, Bool.true_and]
 cases h2 : (x2 == y2) <;> simp only [Bool.not_true, Bool.not_false, Bool.false_eq_true, if_true, if_false, Sem.run_pure, Result.andThen_ok, Sem.run_bind, p3, q3, he, Bool.false_and, Bool.true_and]
 cases h3 : (x3 == y3) <;> simp only [Bool.not_true, Bool.not_false, Bool.false_eq_true, if_true, if_false, Sem.run_pure, Result.andThen_ok, Sem.run_bind]
end Go.Proofs.YtdcbkeihgbekdaaGreatDoor.Q

namespace Go.Proofs.YtdcbkeihgbekdaaGreatDoor.Q
open Go.RowKit Go.Proofs.YtdcbkeihgbekdaaGreatDoor.Turn Go.Proofs.YtdcbkeihgbekdaaGreatDoorW.PrintWords Go.Proofs.YtdcbkeihgbekdaaGreatDoorW.PrintLast Go.Proofs.YtdcbkeihgbekdaaGreatDoorW.PrintMore
attribute [local go_sem] max2_int min2_int max_two min_two max_three min_three max_four min_four   -- for this text's walks alone
set_option linter.unusedVariables false
set_option linter.unusedSimpArgs false

attribute [local go_sem high] eqA28
/-! ### wharfingerref19_own: function 21 -/
def wharfingerref19_own.f (a0_0 : Int) (a0_1 : Int) (a0_2 : Int) (a0_3 : Int) (a0_4 : Int) (a1_0 : Int) (a1_1 : Int) (a1_2 : Int) (a1_3 : Int) : Option (Int × Int × Int × Int × Int × Int) := if (!(a0_0 == a1_0) || (!(a0_1 == a1_1) || (!(a0_2 == a1_2) || (!(a0_3 == a1_3))))) = true then (some (0, 0, 0, 0, 0, 6)) else (if a0_4 < 1024 then (some (0, 0, 0, 0, 0, 6)) else (some (a0_0, a0_1, a0_2, a0_3, a0_4, 0)))
set_option maxHeartbeats 8000000 in
set_option maxRecDepth 100000 in
theorem wharfingerref19_own.calls (a0_0 : Int) (a0_1 : Int) (a0_2 : Int) (a0_3 : Int) (a0_4 : Int) (a1_0 : Int) (a1_1 : Int) (a1_2 : Int) (a1_3 : Int) (r1 : Int) (r2 : Int) (r3 : Int) (r4 : Int) (r5 : Int) (r6 : Int) (w : World) (h : wharfingerref19_own.f a0_0 a0_1 a0_2 a0_3 a0_4 a1_0 a1_1 a1_2 a1_3 = some (r1, r2, r3, r4, r5, r6)) :
  Calls Tryz.prog 21 #[.agg #[.int .u8 a0_0, .int .u8 a0_1, .int .u8 a0_2, .int .u8 a0_3, .int .i64 a0_4], .agg #[.int .u8 a1_0, .int .u8 a1_1, .int .u8 a1_2, .int .u8 a1_3]] w fun e w' => e = .returned (.tuple #[.agg #[.int .u8 r1, .int .u8 r2, .int .u8 r3, .int .u8 r4, .int .i64 r5], .int .i64 r6]) ∧ Below w.heap.size w w' := by
 have hu30 := Tryz.underlying30
 have hu28 := Tryz.underlying28
 have HB := Aside0.mk (Below.refl w.heap.size w)
 have H : (if (!(a0_0 == a1_0) || (!(a0_1 == a1_1) || (!(a0_2 == a1_2) || (!(a0_3 == a1_3))))) = true then (some (0, 0, 0, 0, 0, 6)) else (if a0_4 < 1024 then (some (0, 0, 0, 0, 0, 6)) else (some (a0_0, a0_1, a0_2, a0_3, a0_4, 0)))) = some (r1, r2, r3, r4, r5, r6) := h
 clear h
 by_cases c3 : (!(a0_0 == a1_0) || (!(a0_1 == a1_1) || (!(a0_2 == a1_2) || (!(a0_3 == a1_3))))) = true
 ·
  rw [if_pos c3] at H
  have c3b0 : (!(a0_0 == a1_0) || (!(a0_1 == a1_1) || (!(a0_2 == a1_2) || (!(a0_3 == a1_3))))) = true := c3
  clear c3
  simp only [Option.some.injEq, Prod.mk.injEq] at H
  obtain ⟨rfl, rfl, rfl, rfl, rfl, rfl⟩ := H
  go_enter Tryz.func21, Tryz.ntmps21
  go_wp2_with (first | ((with_reducible refine gate_dst (N := 2) rfl ?_); refine box_event ?hg (N := 2) ?hd (cs := #[.int .u8 a0_0, .int .u8 a0_1, .int .u8 a0_2, .int .u8 a0_3, .int .i64 a0_4]) (t := 30) ?hr ?_; (case hd => rfl); (case hg => rfl); (case hr => first | (go_simp; done) | (go_simp; rfl)); intro gb116 hg w4 hbox hb; have n0_ := Aside0.mk (below_step (by repeat (first | (with_reducible first | exact HB.out | apply below_alloc | apply pw_below_drewN | apply below_drew1) | exact HB.out)) hb); have n1_ := Aside0.mk (hbox); have n2_ := Aside0.mk ((by rw [hg]; exact (below_size (by repeat (first | (with_reducible first | exact HB.out | apply below_alloc | apply pw_below_drewN | apply below_drew1) | exact HB.out))) : w.heap.size ≤ gb116)); have n3_ := Aside0.mk ((by rw [hg]; exact (below_size (by repeat (first | (with_reducible first | exact HB.out | apply below_alloc | apply pw_below_drewN | apply below_drew1) | exact HB.out))) : w.heap.size ≤ gb116)); clear HB; have HB := n0_; have BK116 := n1_; have GW116 := n2_; have GE116 := n3_; clear n0_ n1_ n2_ n3_; clear hb hbox hg) | ((with_reducible refine gate_dst (N := 3) rfl ?_); refine box_event ?hg (N := 3) ?hd (cs := #[.int .u8 a1_0, .int .u8 a1_1, .int .u8 a1_2, .int .u8 a1_3]) (t := 28) ?hr ?_; (case hd => rfl); (case hg => rfl); (case hr => first | (go_simp; done) | (go_simp; rfl)); intro gb117 hg w5 hbox hb; have n0_ := Aside0.mk (blk_below (g := gb116) (o := .cells #[.int .u8 a0_0, .int .u8 a0_1, .int .u8 a0_2, .int .u8 a0_3, .int .i64 a0_4] 30 (0, 0)) (by (with_reducible repeat (first | refine blk_drewN ?_ _ | refine blk_drew ?_ | refine blk_alloc ?_ _)); exact BK116.out) hb); have n1_ := Aside0.mk (below_step (by repeat (first | (with_reducible first | exact HB.out | apply below_alloc | apply pw_below_drewN | apply below_drew1 | refine below_set ?_ GE116.out) | exact HB.out)) hb); have n2_ := Aside0.mk (hbox); have n3_ := Aside0.mk ((by rw [hg]; exact (below_size (by repeat (first | (with_reducible first | exact HB.out | apply below_alloc | apply pw_below_drewN | apply below_drew1 | refine below_set ?_ GE116.out) | exact HB.out))) : w.heap.size ≤ gb117)); have n4_ := Aside0.mk ((by rw [hg]; exact (below_size (by repeat (first | (with_reducible first | exact HB.out | apply below_alloc | apply pw_below_drewN | apply below_drew1 | refine below_set ?_ GE116.out) | exact HB.out))) : w.heap.size ≤ gb117)); have n5_ := Aside0.mk ((by rw [hg]; exact Nat.ne_of_lt (blk_lt (g := gb116) (o := .cells #[.int .u8 a0_0, .int .u8 a0_1, .int .u8 a0_2, .int .u8 a0_3, .int .i64 a0_4] 30 (0, 0)) (by (with_reducible repeat (first | refine blk_drewN ?_ _ | refine blk_drew ?_ | refine blk_alloc ?_ _)); exact BK116.out)) : gb116 ≠ gb117)); have n6_ := Aside0.mk ((by rw [hg]; exact Nat.ne_of_gt (blk_lt (g := gb116) (o := .cells #[.int .u8 a0_0, .int .u8 a0_1, .int .u8 a0_2, .int .u8 a0_3, .int .i64 a0_4] 30 (0, 0)) (by (with_reducible repeat (first | refine blk_drewN ?_ _ | refine blk_drew ?_ | refine blk_alloc ?_ _)); exact BK116.out)) : gb117 ≠ gb116)); clear BK116; clear HB; have BK116 := n0_; have HB := n1_; have BK117 := n2_; have GW117 := n3_; have GE117 := n4_; have NB116_117 := n5_; have NB117_116 := n6_; clear n0_ n1_ n2_ n3_ n4_ n5_ n6_; clear hb hbox hg) | ((with_reducible refine gate_dst (N := 4) rfl ?_); refine box_event ?hg (N := 4) ?hd (cs := #[.int .u8 0, .int .u8 0, .int .u8 0, .int .u8 0, .int .i64 0]) (t := 30) ?hr ?_; (case hd => rfl); (case hg => rfl); (case hr => first | (go_simp; done) | (go_simp; rfl)); intro gb118 hg w6 hbox hb; have n0_ := Aside0.mk (blk_below (g := gb116) (o := .cells #[.int .u8 a0_0, .int .u8 a0_1, .int .u8 a0_2, .int .u8 a0_3, .int .i64 a0_4] 30 (0, 0)) (by (with_reducible repeat (first | refine blk_drewN ?_ _ | refine blk_drew ?_ | refine blk_alloc ?_ _)); exact BK116.out) hb); have n1_ := Aside0.mk (blk_below (g := gb117) (o := .cells #[.int .u8 a1_0, .int .u8 a1_1, .int .u8 a1_2, .int .u8 a1_3] 28 (0, 0)) (by (with_reducible repeat (first | refine blk_drewN ?_ _ | refine blk_drew ?_ | refine blk_alloc ?_ _)); exact BK117.out) hb); have n2_ := Aside0.mk (below_step (by repeat (first | (with_reducible first | exact HB.out | apply below_alloc | apply pw_below_drewN | apply below_drew1 | refine below_set ?_ GE116.out | refine below_set ?_ GE117.out) | exact HB.out)) hb); have n3_ := Aside0.mk (hbox); have n4_ := Aside0.mk ((by rw [hg]; exact (below_size (by repeat (first | (with_reducible first | exact HB.out | apply below_alloc | apply pw_below_drewN | apply below_drew1 | refine below_set ?_ GE116.out | refine below_set ?_ GE117.out) | exact HB.out))) : w.heap.size ≤ gb118)); have n5_ := Aside0.mk ((by rw [hg]; exact (below_size (by repeat (first | (with_reducible first | exact HB.out | apply below_alloc | apply pw_below_drewN | apply below_drew1 | refine below_set ?_ GE116.out | refine below_set ?_ GE117.out) | exact HB.out))) : w.heap.size ≤ gb118)); have n6_ := Aside0.mk ((by rw [hg]; exact Nat.ne_of_lt (blk_lt (g := gb116) (o := .cells #[.int .u8 a0_0, .int .u8 a0_1, .int .u8 a0_2, .int .u8 a0_3, .int .i64 a0_4] 30 (0, 0)) (by (with_reducible repeat (first | refine blk_drewN ?_ _ | refine blk_drew ?_ | refine blk_alloc ?_ _)); exact BK116.out)) : gb116 ≠ gb118)); have n7_ := Aside0.mk ((by rw [hg]; exact Nat.ne_of_gt (blk_lt (g := gb116) (o := .cells #[.int .u8 a0_0, .int .u8 a0_1, .int .u8 a0_2, .int .u8 a0_3, .int .i64 a0_4] 30 (0, 0)) (by (with_reducible repeat (first | refine blk_drewN ?_ _ | refine blk_drew ?_ | refine blk_alloc ?_ _)); exact BK116.out)) : gb118 ≠ gb116)); have n8_ := Aside0.mk ((by rw [hg]; exact Nat.ne_of_lt (blk_lt (g := gb117) (o := .cells #[.int .u8 a1_0, .int .u8 a1_1, .int .u8 a1_2, .int .u8 a1_3] 28 (0, 0)) (by (with_reducible repeat (first | refine blk_drewN ?_ _ | refine blk_drew ?_ | refine blk_alloc ?_ _)); exact BK117.out)) : gb117 ≠ gb118)); have n9_ := Aside0.mk ((by rw [hg]; exact Nat.ne_of_gt (blk_lt (g := gb117) (o := .cells #[.int .u8 a1_0, .int .u8 a1_1, .int .u8 a1_2, .int .u8 a1_3] 28 (0, 0)) (by (with_reducible repeat (first | refine blk_drewN ?_ _ | refine blk_drew ?_ | refine blk_alloc ?_ _)); exact BK117.out)) : gb118 ≠ gb117)); clear BK116; clear BK117; clear HB; have BK116 := n0_; have BK117 := n1_; have HB := n2_; have BK118 := n3_; have GW118 := n4_; have GE118 := n5_; have NB116_118 := n6_; have NB118_116 := n7_; have NB117_118 := n8_; have NB118_117 := n9_; clear n0_ n1_ n2_ n3_ n4_ n5_ n6_ n7_ n8_ n9_; clear hb hbox hg; have hnb7 := NB116_117.out; have hnc7 := NB117_116.out; have hnb8 := NB116_118.out; have hnc8 := NB118_116.out; obtain ⟨hcz9_0, hcz9_1, hcz9_2, hcz9_3, hcz9_4⟩ := cl_5 (.int .u8 a0_0) (.int .u8 a0_1) (.int .u8 a0_2) (.int .u8 a0_3) (.int .i64 a0_4) BK116.out; obtain ⟨hfz9_0, hfz9_1, hfz9_2, hfz9_3, hfz9_4⟩ := fz_5 BK116.out; have hnb10 := NB117_118.out; have hnc10 := NB118_117.out; obtain ⟨hcz11_0, hcz11_1, hcz11_2, hcz11_3⟩ := cl_4 (.int .u8 a1_0) (.int .u8 a1_1) (.int .u8 a1_2) (.int .u8 a1_3) BK117.out; obtain ⟨hfz11_0, hfz11_1, hfz11_2, hfz11_3⟩ := fz_4 BK117.out; obtain ⟨hcz12_0, hcz12_1, hcz12_2, hcz12_3, hcz12_4⟩ := cl_5 (.int .u8 0) (.int .u8 0) (.int .u8 0) (.int .u8 0) (.int .i64 0) BK118.out; obtain ⟨hfz12_0, hfz12_1, hfz12_2, hfz12_3, hfz12_4⟩ := fz_5 BK118.out))
  refine bodyPost_ret (results_ct rfl _ _ gb118 30 #[.int .u8 0, .int .u8 0, .int .u8 0, .int .u8 0, .int .i64 0] (0, 0) _ rfl (by (with_reducible repeat (first | refine blk_drewN ?_ _ | refine blk_drew ?_ | refine blk_alloc ?_ _)); refine blk_put (cs := #[.int .u8 0, .int .u8 0, .int .u8 0, .int .u8 0, .int .i64 0]) ?_ 4 _ rfl; (with_reducible repeat (first | refine blk_drewN ?_ _ | refine blk_drew ?_ | refine blk_alloc ?_ _)); refine blk_put (cs := #[.int .u8 0, .int .u8 0, .int .u8 0, .int .u8 0, .int .i64 0]) ?_ 3 _ rfl; (with_reducible repeat (first | refine blk_drewN ?_ _ | refine blk_drew ?_ | refine blk_alloc ?_ _)); refine blk_put (cs := #[.int .u8 0, .int .u8 0, .int .u8 0, .int .u8 0, .int .i64 0]) ?_ 2 _ rfl; (with_reducible repeat (first | refine blk_drewN ?_ _ | refine blk_drew ?_ | refine blk_alloc ?_ _)); refine blk_put (cs := #[.int .u8 0, .int .u8 0, .int .u8 0, .int .u8 0, .int .i64 0]) ?_ 1 _ rfl; (with_reducible repeat (first | refine blk_drewN ?_ _ | refine blk_drew ?_ | refine blk_alloc ?_ _)); refine blk_put (cs := #[.int .u8 0, .int .u8 0, .int .u8 0, .int .u8 0, .int .i64 0]) ?_ 0 _ rfl; (with_reducible repeat (first | refine blk_drewN ?_ _ | refine blk_drew ?_ | refine blk_alloc ?_ _)); exact BK118.out) Tryz.underlying30 rfl (by kernel_rfl)) rfl ?_
  exact ⟨by first | rfl | (simp [errW_none, errW_some] <;> rfl) | (simp [*, errW_none, errW_some] <;> rfl), by repeat (first | (with_reducible first | exact HB.out | apply below_alloc | apply pw_below_drewN | apply below_drew1 | refine below_set ?_ GE116.out | refine below_set ?_ GE117.out | refine below_set ?_ GE118.out) | exact HB.out)⟩
 ·
  rw [if_neg c3] at H
  have c3b0 : (!(a0_0 == a1_0) || (!(a0_1 == a1_1) || (!(a0_2 == a1_2) || (!(a0_3 == a1_3))))) = false := by simpa using c3
  clear c3
  by_cases c13 : a0_4 < 1024
  ·
   rw [if_pos c13] at H
   have c13b0 : decide (a0_4 < 1024) = true := decide_eq_true c13
   clear c13
   simp only [Option.some.injEq, Prod.mk.injEq] at H
   obtain ⟨rfl, rfl, rfl, rfl, rfl, rfl⟩ := H
   go_enter Tryz.func21, Tryz.ntmps21
   go_wp2_with (first | ((with_reducible refine gate_dst (N := 2) rfl ?_); refine box_event ?hg (N := 2) ?hd (cs := #[.int .u8 a0_0, .int .u8 a0_1, .int .u8 a0_2, .int .u8 a0_3, .int .i64 a0_4]) (t := 30) ?hr ?_; (case hd => rfl); (case hg => rfl); (case hr => first | (go_simp; done) | (go_simp; rfl)); intro gb116 hg w14 hbox hb; have n0_ := Aside0.mk (below_step (by repeat (first | (with_reducible first | exact HB.out | apply below_alloc | apply pw_below_drewN | apply below_drew1) | exact HB.out)) hb); have n1_ := Aside0.mk (hbox); have n2_ := Aside0.mk ((by rw [hg]; exact (below_size (by repeat (first | (with_reducible first | exact HB.out | apply below_alloc | apply pw_below_drewN | apply below_drew1) | exact HB.out))) : w.heap.size ≤ gb116)); have n3_ := Aside0.mk ((by rw [hg]; exact (below_size (by repeat (first | (with_reducible first | exact HB.out | apply below_alloc | apply pw_below_drewN | apply below_drew1) | exact HB.out))) : w.heap.size ≤ gb116)); clear HB; have HB := n0_; have BK116 := n1_; have GW116 := n2_; have GE116 := n3_; clear n0_ n1_ n2_ n3_; clear hb hbox hg) | ((with_reducible refine gate_dst (N := 3) rfl ?_); refine box_event ?hg (N := 3) ?hd (cs := #[.int .u8 a1_0, .int .u8 a1_1, .int .u8 a1_2, .int .u8 a1_3]) (t := 28) ?hr ?_; (case hd => rfl); (case hg => rfl); (case hr => first | (go_simp; done) | (go_simp; rfl)); intro gb117 hg w15 hbox hb; have n0_ := Aside0.mk (blk_below (g := gb116) (o := .cells #[.int .u8 a0_0, .int .u8 a0_1, .int .u8 a0_2, .int .u8 a0_3, .int .i64 a0_4] 30 (0, 0)) (by (with_reducible repeat (first | refine blk_drewN ?_ _ | refine blk_drew ?_ | refine blk_alloc ?_ _)); exact BK116.out) hb); have n1_ := Aside0.mk (below_step (by repeat (first | (with_reducible first | exact HB.out | apply below_alloc | apply pw_below_drewN | apply below_drew1 | refine below_set ?_ GE116.out) | exact HB.out)) hb); have n2_ := Aside0.mk (hbox); have n3_ := Aside0.mk ((by rw [hg]; exact (below_size (by repeat (first | (with_reducible first | exact HB.out | apply below_alloc | apply pw_below_drewN | apply below_drew1 | refine below_set ?_ GE116.out) | exact HB.out))) : w.heap.size ≤ gb117)); have n4_ := Aside0.mk ((by rw [hg]; exact (below_size (by repeat (first | (with_reducible first | exact HB.out | apply below_alloc | apply pw_below_drewN | apply below_drew1 | refine below_set ?_ GE116.out) | exact HB.out))) : w.heap.size ≤ gb117)); have n5_ := Aside0.mk ((by rw [hg]; exact Nat.ne_of_lt (blk_lt (g := gb116) (o := .cells #[.int .u8 a0_0, .int .u8 a0_1, .int .u8 a0_2, .int .u8 a0_3, .int .i64 a0_4] 30 (0, 0)) (by (with_reducible repeat (first | refine blk_drewN ?_ _ | refine blk_drew ?_ | refine blk_alloc ?_ _)); exact BK116.out)) : gb116 ≠ gb117)); have n6_ := Aside0.mk ((by rw [hg]; exact Nat.ne_of_gt (blk_lt (g := gb116) (o := .cells #[.int .u8 a0_0, .int .u8 a0_1, .int .u8 a0_2, .int .u8 a0_3, .int .i64 a0_4] 30 (0, 0)) (by (with_reducible repeat (first | refine blk_drewN ?_ _ | refine blk_drew ?_ | refine blk_alloc ?_ _)); exact BK116.out)) : gb117 ≠ gb116)); clear BK116; clear HB; have BK116 := n0_; have HB := n1_; have BK117 := n2_; have GW117 := n3_; have GE117 := n4_; have NB116_117 := n5_; have NB117_116 := n6_; clear n0_ n1_ n2_ n3_ n4_ n5_ n6_; clear hb hbox hg) | ((with_reducible refine gate_dst (N := 4) rfl ?_); refine box_event ?hg (N := 4) ?hd (cs := #[.int .u8 0, .int .u8 0, .int .u8 0, .int .u8 0, .int .i64 0]) (t := 30) ?hr ?_; (case hd => rfl); (case hg => rfl); (case hr => first | (go_simp; done) | (go_simp; rfl)); intro gb118 hg w16 hbox hb; have n0_ := Aside0.mk (blk_below (g := gb116) (o := .cells #[.int .u8 a0_0, .int .u8 a0_1, .int .u8 a0_2, .int .u8 a0_3, .int .i64 a0_4] 30 (0, 0)) (by (with_reducible repeat (first | refine blk_drewN ?_ _ | refine blk_drew ?_ | refine blk_alloc ?_ _)); exact BK116.out) hb); have n1_ := Aside0.mk (blk_below (g := gb117) (o := .cells #[.int .u8 a1_0, .int .u8 a1_1, .int .u8 a1_2, .int .u8 a1_3] 28 (0, 0)) (by (with_reducible repeat (first | refine blk_drewN ?_ _ | refine blk_drew ?_ | refine blk_alloc ?_ _)); exact BK117.out) hb); have n2_ := Aside0.mk (below_step (by repeat (first | (with_reducible first | exact HB.out | apply below_alloc | apply pw_below_drewN | apply below_drew1 | refine below_set ?_ GE116.out | refine below_set ?_ GE117.out) | exact HB.out)) hb); have n3_ := Aside0.mk (hbox); have n4_ := Aside0.mk ((by rw [hg]; exact (below_size (by repeat (first | (with_reducible first | exact HB.out | apply below_alloc | apply pw_below_drewN | apply below_drew1 | refine below_set ?_ GE116.out | refine below_set ?_ GE117.out) | exact HB.out))) : w.heap.size ≤ gb118)); have n5_ := Aside0.mk ((by rw [hg]; exact (below_size (by repeat (first | (with_reducible first | exact HB.out | apply below_alloc | apply pw_below_drewN | apply below_drew1 | refine below_set ?_ GE116.out | refine below_set ?_ GE117.out) | exact HB.out))) : w.heap.size ≤ gb118)); have n6_ := Aside0.mk ((by rw [hg]; exact Nat.ne_of_lt (blk_lt (g := gb116) (o := .cells #[.int .u8 a0_0, .int .u8 a0_1, .int .u8 a0_2, .int .u8 a0_3, .int .i64 a0_4] 30 (0, 0)) (by (with_reducible repeat (first | refine blk_drewN ?_ _ | refine blk_drew ?_ | refine blk_alloc ?_ _)); exact BK116.out)) : gb116 ≠ gb118)); have n7_ := Aside0.mk ((by rw [hg]; exact Nat.ne_of_gt (blk_lt (g := gb116) (o := .cells #[.int .u8 a0_0, .int .u8 a0_1, .int .u8 a0_2, .int .u8 a0_3, .int .i64 a0_4] 30 (0, 0)) (by (with_reducible repeat (first | refine blk_drewN ?_ _ | refine blk_drew ?_ | refine blk_alloc ?_ _)); exact BK116.out)) : gb118 ≠ gb116)); have n8_ := Aside0.mk ((by rw [hg]; exact Nat.ne_of_lt (blk_lt (g := gb117) (o := .cells #[.int .u8 a1_0, .int .u8 a1_1, .int .u8 a1_2, .int .u8 a1_3] 28 (0, 0)) (by (with_reducible repeat (first | refine blk_drewN ?_ _ | refine blk_drew ?_ | refine blk_alloc ?_ _)); exact BK117.out)) : gb117 ≠ gb118)); have n9_ := Aside0.mk ((by rw [hg]; exact Nat.ne_of_gt (blk_lt (g := gb117) (o := .cells #[.int .u8 a1_0, .int .u8 a1_1, .int .u8 a1_2, .int .u8 a1_3] 28 (0, 0)) (by (with_reducible repeat (first | refine blk_drewN ?_ _ | refine blk_drew ?_ | refine blk_alloc ?_ _)); exact BK117.out)) : gb118 ≠ gb117)); clear BK116; clear BK117; clear HB; have BK116 := n0_; have BK117 := n1_; have HB := n2_; have BK118 := n3_; have GW118 := n4_; have GE118 := n5_; have NB116_118 := n6_; have NB118_116 := n7_; have NB117_118 := n8_; have NB118_117 := n9_; clear n0_ n1_ n2_ n3_ n4_ n5_ n6_ n7_ n8_ n9_; clear hb hbox hg; have hnb17 := NB116_117.out; have hnc17 := NB117_116.out; have hnb18 := NB116_118.out; have hnc18 := NB118_116.out; obtain ⟨hcz19_0, hcz19_1, hcz19_2, hcz19_3, hcz19_4⟩ := cl_5 (.int .u8 a0_0) (.int .u8 a0_1) (.int .u8 a0_2) (.int .u8 a0_3) (.int .i64 a0_4) BK116.out; obtain ⟨hfz19_0, hfz19_1, hfz19_2, hfz19_3, hfz19_4⟩ := fz_5 BK116.out; have hnb20 := NB117_118.out; have hnc20 := NB118_117.out; obtain ⟨hcz21_0, hcz21_1, hcz21_2, hcz21_3⟩ := cl_4 (.int .u8 a1_0) (.int .u8 a1_1) (.int .u8 a1_2) (.int .u8 a1_3) BK117.out; obtain ⟨hfz21_0, hfz21_1, hfz21_2, hfz21_3⟩ := fz_4 BK117.out; obtain ⟨hcz22_0, hcz22_1, hcz22_2, hcz22_3, hcz22_4⟩ := cl_5 (.int .u8 0) (.int .u8 0) (.int .u8 0) (.int .u8 0) (.int .i64 0) BK118.out; obtain ⟨hfz22_0, hfz22_1, hfz22_2, hfz22_3, hfz22_4⟩ := fz_5 BK118.out))
   refine bodyPost_ret (results_ct rfl _ _ gb118 30 #[.int .u8 0, .int .u8 0, .int .u8 0, .int .u8 0, .int .i64 0] (0, 0) _ rfl (by (with_reducible repeat (first | refine blk_drewN ?_ _ | refine blk_drew ?_ | refine blk_alloc ?_ _)); refine blk_put (cs := #[.int .u8 0, .int .u8 0, .int .u8 0, .int .u8 0, .int .i64 0]) ?_ 4 _ rfl; (with_reducible repeat (first | refine blk_drewN ?_ _ | refine blk_drew ?_ | refine blk_alloc ?_ _)); refine blk_put (cs := #[.int .u8 0, .int .u8 0, .int .u8 0, .int .u8 0, .int .i64 0]) ?_ 3 _ rfl; (with_reducible repeat (first | refine blk_drewN ?_ _ | refine blk_drew ?_ | refine blk_alloc ?_ _)); refine blk_put (cs := #[.int .u8 0, .int .u8 0, .int .u8 0, .int .u8 0, .int .i64 0]) ?_ 2 _ rfl; (with_reducible repeat (first | refine blk_drewN ?_ _ | refine blk_drew ?_ | refine blk_alloc ?_ _)); refine blk_put (cs := #[.int .u8 0, .int .u8 0, .int .u8 0, .int .u8 0, .int .i64 0]) ?_ 1 _ rfl; (with_reducible repeat (first | refine blk_drewN ?_ _ | refine blk_drew ?_ | refine blk_alloc ?_ _)); refine blk_put (cs := #[.int .u8 0, .int .u8 0, .int .u8 0, .int .u8 0, .int .i64 0]) ?_ 0 _ rfl; (with_reducible repeat (first | refine blk_drewN ?_ _ | refine blk_drew ?_ | refine blk_alloc ?_ _)); exact BK118.out) Tryz.underlying30 rfl (by kernel_rfl)) rfl ?_
   exact ⟨by first | rfl | (simp [errW_none, errW_some] <;> rfl) | (simp [*, errW_none, errW_some] <;> rfl), by repeat (first | (with_reducible first | exact HB.out | apply below_alloc | apply pw_below_drewN | apply below_drew1 | refine below_set ?_ GE116.out | refine below_set ?_ GE117.out | refine below_set ?_ GE118.out) | exact HB.out)⟩
  ·
   rw [if_neg c13] at H
   have c13b0 : decide (a0_4 < 1024) = false := decide_eq_false c13
   clear c13
   simp only [Option.some.injEq, Prod.mk.injEq] at H
   obtain ⟨rfl, rfl, rfl, rfl, rfl, rfl⟩ := H
   go_enter Tryz.func21, Tryz.ntmps21
   go_wp2_with (first | ((with_reducible refine gate_dst (N := 2) rfl ?_); refine box_event ?hg (N := 2) ?hd (cs := #[.int .u8 a0_0, .int .u8 a0_1, .int .u8 a0_2, .int .u8 a0_3, .int .i64 a0_4]) (t := 30) ?hr ?_; (case hd => rfl); (case hg => rfl); (case hr => first | (go_simp; done) | (go_simp; rfl)); intro gb116 hg w23 hbox hb; have n0_ := Aside0.mk (below_step (by repeat (first | (with_reducible first | exact HB.out | apply below_alloc | apply pw_below_drewN | apply below_drew1) | exact HB.out)) hb); have n1_ := Aside0.mk (hbox); have n2_ := Aside0.mk ((by rw [hg]; exact (below_size (by repeat (first | (with_reducible first | exact HB.out | apply below_alloc | apply pw_below_drewN | apply below_drew1) | exact HB.out))) : w.heap.size ≤ gb116)); have n3_ := Aside0.mk ((by rw [hg]; exact (below_size (by repeat (first | (with_reducible first | exact HB.out | apply below_alloc | apply pw_below_drewN | apply below_drew1) | exact HB.out))) : w.heap.size ≤ gb116)); clear HB; have HB := n0_; have BK116 := n1_; have GW116 := n2_; have GE116 := n3_; clear n0_ n1_ n2_ n3_; clear hb hbox hg) | ((with_reducible refine gate_dst (N := 3) rfl ?_); refine box_event ?hg (N := 3) ?hd (cs := #[.int .u8 a1_0, .int .u8 a1_1, .int .u8 a1_2, .int .u8 a1_3]) (t := 28) ?hr ?_; (case hd => rfl); (case hg => rfl); (case hr => first | (go_simp; done) | (go_simp; rfl)); intro gb117 hg w24 hbox hb; have n0_ := Aside0.mk (blk_below (g := gb116) (o := .cells #[.int .u8 a0_0, .int .u8 a0_1, .int .u8 a0_2, .int .u8 a0_3, .int .i64 a0_4] 30 (0, 0)) (by (with_reducible repeat (first | refine blk_drewN ?_ _ | refine blk_drew ?_ | refine blk_alloc ?_ _)); exact BK116.out) hb); have n1_ := Aside0.mk (below_step (by repeat (first | (with_reducible first | exact HB.out | apply below_alloc | apply pw_below_drewN | apply below_drew1 | refine below_set ?_ GE116.out) | exact HB.out)) hb); have n2_ := Aside0.mk (hbox); have n3_ := Aside0.mk ((by rw [hg]; exact (below_size (by repeat (first | (with_reducible first | exact HB.out | apply below_alloc | apply pw_below_drewN | apply below_drew1 | refine below_set ?_ GE116.out) | exact HB.out))) : w.heap.size ≤ gb117)); have n4_ := Aside0.mk ((by rw [hg]; exact (below_size (by repeat (first | (with_reducible first | exact HB.out | apply below_alloc | apply pw_below_drewN | apply below_drew1 | refine below_set ?_ GE116.out) | exact HB.out))) : w.heap.size ≤ gb117)); have n5_ := Aside0.mk ((by rw [hg]; exact Nat.ne_of_lt (blk_lt (g := gb116) (o := .cells #[.int .u8 a0_0, .int .u8 a0_1, .int .u8 a0_2, .int .u8 a0_3, .int .i64 a0_4] 30 (0, 0)) (by (with_reducible repeat (first | refine blk_drewN ?_ _ | refine blk_drew ?_ | refine blk_alloc ?_ _)); exact BK116.out)) : gb116 ≠ gb117)); have n6_ := Aside0.mk ((by rw [hg]; exact Nat.ne_of_gt (blk_lt (g := gb116) (o := .cells #[.int .u8 a0_0, .int .u8 a0_1, .int .u8 a0_2, .int .u8 a0_3, .int .i64 a0_4] 30 (0, 0)) (by (with_reducible repeat (first | refine blk_drewN ?_ _ | refine blk_drew ?_ | refine blk_alloc ?_ _)); exact BK116.out)) : gb117 ≠ gb116)); clear BK116; clear HB; have BK116 := n0_; have HB := n1_; have BK117 := n2_; have GW117 := n3_; have GE117 := n4_; have NB116_117 := n5_; have NB117_116 := n6_; clear n0_ n1_ n2_ n3_ n4_ n5_ n6_; clear hb hbox hg) | ((with_reducible refine gate_dst (N := 4) rfl ?_); refine box_event ?hg (N := 4) ?hd (cs := #[.int .u8 0, .int .u8 0, .int .u8 0, .int .u8 0, .int .i64 0]) (t := 30) ?hr ?_; (case hd => rfl); (case hg => rfl); (case hr => first | (go_simp; done) | (go_simp; rfl)); intro gb118 hg w25 hbox hb; have n0_ := Aside0.mk (blk_below (g := gb116) (o := .cells #[.int .u8 a0_0, .int .u8 a0_1, .int .u8 a0_2, .int .u8 a0_3, .int .i64 a0_4] 30 (0, 0)) (by (with_reducible repeat (first | refine blk_drewN ?_ _ | refine blk_drew ?_ | refine blk_alloc ?_ _)); exact BK116.out) hb); have n1_ := Aside0.mk (blk_below (g := gb117) (o := .cells #[.int .u8 a1_0, .int .u8 a1_1, .int .u8 a1_2, .int .u8 a1_3] 28 (0, 0)) (by (with_reducible repeat (first | refine blk_drewN ?_ _ | refine blk_drew ?_ | refine blk_alloc ?_ _)); exact BK117.out) hb); have n2_ := Aside0.mk (below_step (by repeat (first | (with_reducible first | exact HB.out | apply below_alloc | apply pw_below_drewN | apply below_drew1 | refine below_set ?_ GE116.out | refine below_set ?_ GE117.out) | exact HB.out)) hb); have n3_ := Aside0.mk (hbox); have n4_ := Aside0.mk ((by rw [hg]; exact (below_size (by repeat (first | (with_reducible first | exact HB.out | apply below_alloc | apply pw_below_drewN | apply below_drew1 | refine below_set ?_ GE116.out | refine below_set ?_ GE117.out) | exact HB.out))) : w.heap.size ≤ gb118)); have n5_ := Aside0.mk ((by rw [hg]; exact (below_size (by repeat (first | (with_reducible first | exact HB.out | apply below_alloc | apply pw_below_drewN | apply below_drew1 | refine below_set ?_ GE116.out | refine below_set ?_ GE117.out) | exact HB.out))) : w.heap.size ≤ gb118)); have n6_ := Aside0.mk ((by rw [hg]; exact Nat.ne_of_lt (blk_lt (g := gb116) (o := .cells #[.int .u8 a0_0, .int .u8 a0_1, .int .u8 a0_2, .int .u8 a0_3, .int .i64 a0_4] 30 (0, 0)) (by (with_reducible repeat (first | refine blk_drewN ?_ _ | refine blk_drew ?_ | refine blk_alloc ?_ _)); exact BK116.out)) : gb116 ≠ gb118)); have n7_ := Aside0.mk ((by rw [hg]; exact Nat.ne_of_gt (blk_lt (g := gb116) (o := .cells #[.int .u8 a0_0, .int .u8 a0_1, .int .u8 a0_2, .int .u8 a0_3, .int .i64 a0_4] 30 (0, 0)) (by (with_reducible repeat (first | refine blk_drewN ?_ _ | refine blk_drew ?_ | refine blk_alloc ?_ _)); exact BK116.out)) : gb118 ≠ gb116)); have n8_ := Aside0.mk ((by rw [hg]; exact Nat.ne_of_lt (blk_lt (g := gb117) (o := .cells #[.int .u8 a1_0, .int .u8 a1_1, .int .u8 a1_2, .int .u8 a1_3] 28 (0, 0)) (by (with_reducible repeat (first | refine blk_drewN ?_ _ | refine blk_drew ?_ | refine blk_alloc ?_ _)); exact BK117.out)) : gb117 ≠ gb118)); have n9_ := Aside0.mk ((by rw [hg]; exact Nat.ne_of_gt (blk_lt (g := gb117) (o := .cells #[.int .u8 a1_0, .int .u8 a1_1, .int .u8 a1_2, .int .u8 a1_3] 28 (0, 0)) (by (with_reducible repeat (first | refine blk_drewN ?_ _ | refine blk_drew ?_ | refine blk_alloc ?_ _)); exact BK117.out)) : gb118 ≠ gb117)); clear BK116; clear BK117; clear HB; have BK116 := n0_; have BK117 := n1_; have HB := n2_; have BK118 := n3_; have GW118 := n4_; have GE118 := n5_; have NB116_118 := n6_; have NB118_116 := n7_; have NB117_118 := n8_; have NB118_117 := n9_; clear n0_ n1_ n2_ n3_ n4_ n5_ n6_ n7_ n8_ n9_; clear hb hbox hg; have hnb26 := NB116_117.out; have hnc26 := NB117_116.out; have hnb27 := NB116_118.out; have hnc27 := NB118_116.out; obtain ⟨hcz28_0, hcz28_1, hcz28_2, hcz28_3, hcz28_4⟩ := cl_5 (.int .u8 a0_0) (.int .u8 a0_1) (.int .u8 a0_2) (.int .u8 a0_3) (.int .i64 a0_4) BK116.out; obtain ⟨hfz28_0, hfz28_1, hfz28_2, hfz28_3, hfz28_4⟩ := fz_5 BK116.out; have hnb29 := NB117_118.out; have hnc29 := NB118_117.out; obtain ⟨hcz30_0, hcz30_1, hcz30_2, hcz30_3⟩ := cl_4 (.int .u8 a1_0) (.int .u8 a1_1) (.int .u8 a1_2) (.int .u8 a1_3) BK117.out; obtain ⟨hfz30_0, hfz30_1, hfz30_2, hfz30_3⟩ := fz_4 BK117.out; obtain ⟨hcz31_0, hcz31_1, hcz31_2, hcz31_3, hcz31_4⟩ := cl_5 (.int .u8 0) (.int .u8 0) (.int .u8 0) (.int .u8 0) (.int .i64 0) BK118.out; obtain ⟨hfz31_0, hfz31_1, hfz31_2, hfz31_3, hfz31_4⟩ := fz_5 BK118.out))
   refine bodyPost_ret (results_ct rfl _ _ gb118 30 #[.int .u8 a0_0, .int .u8 a0_1, .int .u8 a0_2, .int .u8 a0_3, .int .i64 a0_4] (0, 0) _ rfl (by (with_reducible repeat (first | refine blk_drewN ?_ _ | refine blk_drew ?_ | refine blk_alloc ?_ _)); refine blk_put (cs := #[.int .u8 a0_0, .int .u8 a0_1, .int .u8 a0_2, .int .u8 a0_3, .int .i64 0]) ?_ 4 _ rfl; (with_reducible repeat (first | refine blk_drewN ?_ _ | refine blk_drew ?_ | refine blk_alloc ?_ _)); refine blk_put (cs := #[.int .u8 a0_0, .int .u8 a0_1, .int .u8 a0_2, .int .u8 0, .int .i64 0]) ?_ 3 _ rfl; (with_reducible repeat (first | refine blk_drewN ?_ _ | refine blk_drew ?_ | refine blk_alloc ?_ _)); refine blk_put (cs := #[.int .u8 a0_0, .int .u8 a0_1, .int .u8 0, .int .u8 0, .int .i64 0]) ?_ 2 _ rfl; (with_reducible repeat (first | refine blk_drewN ?_ _ | refine blk_drew ?_ | refine blk_alloc ?_ _)); refine blk_put (cs := #[.int .u8 a0_0, .int .u8 0, .int .u8 0, .int .u8 0, .int .i64 0]) ?_ 1 _ rfl; (with_reducible repeat (first | refine blk_drewN ?_ _ | refine blk_drew ?_ | refine blk_alloc ?_ _)); refine blk_put (cs := #[.int .u8 0, .int .u8 0, .int .u8 0, .int .u8 0, .int .i64 0]) ?_ 0 _ rfl; (with_reducible repeat (first | refine blk_drewN ?_ _ | refine blk_drew ?_ | refine blk_alloc ?_ _)); exact BK118.out) Tryz.underlying30 rfl (by kernel_rfl)) rfl ?_
   exact ⟨by first | rfl | (simp [errW_none, errW_some] <;> rfl) | (simp [*, errW_none, errW_some] <;> rfl), by repeat (first | (with_reducible first | exact HB.out | apply below_alloc | apply pw_below_drewN | apply below_drew1 | refine below_set ?_ GE116.out | refine below_set ?_ GE117.out | refine below_set ?_ GE118.out) | exact HB.out)⟩

end Go.Proofs.YtdcbkeihgbekdaaGreatDoor.Q
