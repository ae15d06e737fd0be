/- Contracts and plain facts that the law's proof needs. -/
import Derived.Test.YtdcbkeihgbekdaaDoorM2
import Derived.Laws.EntriesVeiled
import Derived.Deep.RegionLawGrows
import Derived.Test.YtdcbkeihgbekdaaDoorM1
import Derived.WalkMore
import Derived.WalkSmall
import Derived.Deep.RegionWith
import Derived.BigQuiet
import Derived.MapKept
import Derived.Below
import Derived.RowKit
import Derived.Laws.IdiomStrings
namespace Go.Proofs.YtdcbkeihgbekdaaDoor.Turn
open Go Go.RowKit Go.Proofs.YtdcbkeihgbekdaaDoorW.PrintWords Go.Proofs.YtdcbkeihgbekdaaDoorW.PrintLast Go.Proofs.YtdcbkeihgbekdaaDoorW.PrintMore Go.Proofs.YtdcbkeihgbekdaaDoor.Quad
set_option linter.unusedVariables false
set_option linter.unusedSimpArgs false
/-- The world further on: the reply, the host, the result (still zero). -/
structure LF (w W : World) (code : Int) (v : Value) (h0 h1 h2 h3 : Int) : Prop where
  bel : Below w.heap.size w W
  rep : W.heap[w.heap.size]? = some (.cells #[.int .i64 code, v] 26 (0, 0))
  host : W.heap[w.heap.size + 1]? = hostG h0 h1 h2 h3
  res : W.heap[w.heap.size + 1 + 1]? = endG 0 0 0 0 0
theorem LF.step {w W W' : World} {code : Int} {v : Value} {h0 h1 h2 h3 : Int} (h : LF w W code v h0 h1 h2 h3) (hb : Below W.heap.size W W') : LF w W' code v h0 h1 h2 h3 := ⟨h.bel.trans (hb.mono h.bel.size), blk_below h.rep hb, blk_below h.host hb, blk_below h.res hb⟩
theorem LF.grown {w W W' : World} {code : Int} {v : Value} {h0 h1 h2 h3 : Int} (h : LF w W code v h0 h1 h2 h3) {k : Nat} (hk : w.heap.size + 3 ≤ k) (hg : W.grownBy W' (some k)) : LF w W' code v h0 h1 h2 h3 :=
  ⟨h.bel.grown hg h.bel.size (fun j hj => by cases hj; omega), blk_grown h.rep hg (by simp; omega), blk_grown h.host hg (by simp; omega), blk_grown h.res hg (by simp; omega)⟩
theorem LF.far {w W : World} {code : Int} {v : Value} {h0 h1 h2 h3 : Int} (h : LF w W code v h0 h1 h2 h3) {m : Nat} (hm : w.heap.size + 3 ≤ m) (j : Nat) (u : Value) : LF w (W.setCell ⟨m, j, none⟩ u) code v h0 h1 h2 h3 :=
  ⟨h.bel.setCell (show w.heap.size ≤ m by omega) u, blk_far h.rep (show w.heap.size ≠ m by omega) u, blk_far h.host (show w.heap.size + 1 ≠ m by omega) u, blk_far h.res (show w.heap.size + 1 + 1 ≠ m by omega) u⟩
theorem LF.start (w : World) (code : Int) (v : Value) (h0 h1 h2 h3 : Int) : LF w (((w.alloc (.cells #[.int .i64 code, v] 26)).alloc (.cells #[.int .u8 h0, .int .u8 h1, .int .u8 h2, .int .u8 h3] 28)).alloc (endO 0 0 0 0 0)) code v h0 h1 h2 h3 :=
  ⟨below3 w _ _ _, blk_alloc (blk_alloc (blk_new w _) _) _, blk_alloc (by have := blk_new (w.alloc (.cells #[.int .i64 code, v] 26)) (.cells #[.int .u8 h0, .int .u8 h1, .int .u8 h2, .int .u8 h3] 28); simpa using this) _, new3 w _ _ _⟩
theorem LF.facts {w W : World} {code : Int} {v : Value} {h0 h1 h2 h3 : Int} (h : LF w W code v h0 h1 h2 h3) : W.cell? ⟨w.heap.size, 0, none⟩ = some (.int .i64 code) ∧ W.cell? ⟨w.heap.size, 1, none⟩ = some v := ⟨(blk_cell h.rep 0).trans rfl, (blk_cell h.rep 1).trans rfl⟩
theorem zeroI (w : World) : (zeroValue 3).run Tryd.prog w = .ok (.int .i64 0) w := by kernel_rfl
/-- The map that was made, three blocks further on. -/
theorem made3 (w : World) (o1 o2 o3 : Obj) : MapLaw.Is Value.string ((((w.alloc o1).alloc o2).alloc o3).alloc (.map #[] 0)) (w.heap.size + 1 + 1 + 1) [] := by
  have := MapLaw.Is.made Value.string (((w.alloc o1).alloc o2).alloc o3)
  simpa using this
theorem HC0 (name : ByteArray) : MapLaw.at_ name (MapLaw.put EPSV (.int .i64 229) (MapLaw.put PASV (.int .i64 227) [])) = if name = PASV then some (.int .i64 227) else if name = EPSV then some (.int .i64 229) else none := at_two PASV EPSV (by decide) _ _ name
set_option maxHeartbeats 4000000 in
set_option maxRecDepth 100000 in
theorem listen_other (name : ByteArray) (A : Option Addr) (cap len : Nat) (code : Int) (h0 h1 h2 h3 : Int) (w : World) (ad af : Addr) (hx : TEx w ad af) (hn1 : name ≠ PASV) (hn2 : name ≠ EPSV) :
    Calls Tryd.prog 9 #[.string name, .agg #[.int .i64 code, .slice A len cap], .agg #[.int .u8 h0, .int .u8 h1, .int .u8 h2, .int .u8 h3]] w fun e w' => e = .returned (endR (toldE 1 0 0 0 0 0 h0 h1 h2 h3)) ∧ Below w.heap.size w w' := by
  have hmm := @run_makeMap Tryd.prog
  have HX := Aside0.mk hx
  obtain ⟨⟨r0, r1, r2, r3, r4, r5⟩, hR⟩ : ∃ R, R = toldE 1 0 0 0 0 0 h0 h1 h2 h3 := ⟨_, rfl⟩
  rw [← hR, endR_mk]
  have HRR := Aside0.mk hR.symm
  have HAT : Aside0 ((if true then Value.tuple #[(MapLaw.at_ name (MapLaw.put EPSV (.int .i64 229) (MapLaw.put PASV (.int .i64 227) []))).getD (.int .i64 0), .bool (MapLaw.at_ name (MapLaw.put EPSV (.int .i64 229) (MapLaw.put PASV (.int .i64 227) []))).isSome] else (MapLaw.at_ name (MapLaw.put EPSV (.int .i64 229) (MapLaw.put PASV (.int .i64 227) []))).getD (.int .i64 0)) = Value.tuple #[.int .i64 0, .bool false]) := ⟨by rw [HC0, if_neg hn1, if_neg hn2]; rfl⟩
  clear hn1 hn2
  clear hx hR
  go_enter Tryd.func9, Tryd.ntmps9
  go_wp2_with (first
    | ((with_reducible refine MapLaw.gate_insert _ _ _ _ _ rfl ?_)
       refine MapLaw.wp_insert _ rfl _ _ _ 54 3 rfl keyS Tryd.underlying54 rfl (made3 w _ _ _) PASV rfl (.int .i64 227) rfl ?_
       intro w1 hm1 hg1
       have HM1 := Aside0.mk hm1
       have HL1 := Aside0.mk (((LF.start w code (.slice A len cap) h0 h1 h2 h3).step ((Below.refl _ _).alloc (Nat.le_refl _) _)).grown (Nat.le_refl _) hg1)
       clear hm1 hg1 hmm)
    | ((with_reducible refine MapLaw.gate_insert _ _ _ _ _ rfl ?_)
       refine MapLaw.wp_insert _ rfl _ _ _ 54 3 rfl keyS Tryd.underlying54 rfl HM1.out EPSV rfl (.int .i64 229) rfl ?_
       intro w2 hm2 hg2
       have HM2 := Aside0.mk hm2
       have HL := Aside0.mk (HL1.out.grown (Nat.le_refl _) hg2)
       clear hm2 hg2 HM1 HL1)
    | (at_lookup; refine MapLaw.wp_lookup _ rfl _ _ 54 3 true rfl keyS Tryd.underlying54 (zeroI _) rfl HM2.out name rfl ?_; rw [HAT.out]; obtain ⟨c0, c1⟩ := HL.out.facts; obtain ⟨q0, q1, q2, q3⟩ := host_facts HL.out.host; obtain ⟨x0, x1, x2, x3, x4, u0, u1, u2, u3, u4⟩ := endCells_facts HL.out.res))
  go_region_with (first
    | (go_at_call 14; with_reducible refine (fail_calls 1 (by decide) ad af _ (HX.out.below HL.out.bel.drew)).mono ?_; rintro e w9 ⟨x9, rfl, hx9, hb9⟩; have HK := Aside0.mk (And.intro ((HL.out.step (Below.refl _ _).drew).step hb9) hx9); clear hx9 hb9; obtain ⟨g0, g1, g2, g3⟩ := host_facts HK.out.1.host)
    | (go_at_call 18; with_reducible refine (told_calls _ _ _ _ _ _ _ _ _ _ _ _ ad af (HX.out.below HK.out.1.bel) HK.out.2).mono ?_; rintro e w3 ⟨rfl, hb3⟩; have HB := Aside0.mk (HK.out.1.bel.trans (hb3.mono HK.out.1.bel.size)); have HZ := Aside0.mk (blk_below HK.out.1.res hb3); rw [HRR.out, endR_mk]; clear hb3; obtain ⟨p0, p1, p2, p3, p4, o0, o1, o2, o3, o4⟩ := endCells_facts HZ.out))
  all_goals
    go_wp2
    try simp only [Exit.inBlock, Exit.then]
    exact bodyPost_ret (res_end _ 6 7 rfl _ _ (w.heap.size + 1 + 1) r0 r1 r2 r3 r4 (.int .i64 r5) rfl rfl (put5 HZ.out r0 r1 r2 r3 r4)) rfl ⟨rfl, put5B HB.out (by omega) _ _ _ _ _⟩
set_option maxHeartbeats 4000000 in
set_option maxRecDepth 100000 in
theorem listen_form (name : ByteArray) (A : Option Addr) (cap len : Nat) (code : Int) (h0 h1 h2 h3 : Int) (w : World) (ad af : Addr) (hx : TEx w ad af) (cd : Int) (hcd : Value.tuple #[(if name = PASV then some (Value.int .i64 227) else if name = EPSV then some (.int .i64 229) else none).getD (.int .i64 0), .bool (if name = PASV then some (Value.int .i64 227) else if name = EPSV then some (.int .i64 229) else none).isSome] = Value.tuple #[.int .i64 cd, .bool true]) (hf : (code == cd) = false ∨ ((code == cd) = true ∧ ((len : Int) == 1) = false)) :
    Calls Tryd.prog 9 #[.string name, .agg #[.int .i64 code, .slice A len cap], .agg #[.int .u8 h0, .int .u8 h1, .int .u8 h2, .int .u8 h3]] w fun e w' => e = .returned (endR (toldE 2 0 0 0 0 0 h0 h1 h2 h3)) ∧ Below w.heap.size w w' := by
  have hmm := @run_makeMap Tryd.prog
  have HX := Aside0.mk hx
  obtain ⟨⟨r0, r1, r2, r3, r4, r5⟩, hR⟩ : ∃ R, R = toldE 2 0 0 0 0 0 h0 h1 h2 h3 := ⟨_, rfl⟩
  rw [← hR, endR_mk]
  have HRR := Aside0.mk hR.symm
  have HAT : Aside0 ((if true then Value.tuple #[(MapLaw.at_ name (MapLaw.put EPSV (.int .i64 229) (MapLaw.put PASV (.int .i64 227) []))).getD (.int .i64 0), .bool (MapLaw.at_ name (MapLaw.put EPSV (.int .i64 229) (MapLaw.put PASV (.int .i64 227) []))).isSome] else (MapLaw.at_ name (MapLaw.put EPSV (.int .i64 229) (MapLaw.put PASV (.int .i64 227) []))).getD (.int .i64 0)) = Value.tuple #[.int .i64 cd, .bool true]) := ⟨by rw [HC0]; exact hcd⟩
  have hf2 : ((code == cd) = false ∧ (code != cd) = true) ∨ ((code == cd) = true ∧ (code != cd) = false ∧ ((len : Int) == 1) = false ∧ ((len : Int) != 1) = true) := by
    rcases hf with h | ⟨h, h'⟩
    · exact .inl ⟨h, by simp [bne, h]⟩
    · exact .inr ⟨h, by simp [bne, h], h', by simp [bne, h']⟩
  clear hcd hf
  clear hx hR
  rcases hf2 with ⟨f1, f2⟩ | ⟨f1, f2, f3, f4⟩
  all_goals
    go_enter Tryd.func9, Tryd.ntmps9
    go_wp2_with (first
      | ((with_reducible refine MapLaw.gate_insert _ _ _ _ _ rfl ?_)
         refine MapLaw.wp_insert _ rfl _ _ _ 54 3 rfl keyS Tryd.underlying54 rfl (made3 w _ _ _) PASV rfl (.int .i64 227) rfl ?_
         intro w1 hm1 hg1
         have HM1 := Aside0.mk hm1
         have HL1 := Aside0.mk (((LF.start w code (.slice A len cap) h0 h1 h2 h3).step ((Below.refl _ _).alloc (Nat.le_refl _) _)).grown (Nat.le_refl _) hg1)
         clear hm1 hg1 hmm)
      | ((with_reducible refine MapLaw.gate_insert _ _ _ _ _ rfl ?_)
         refine MapLaw.wp_insert _ rfl _ _ _ 54 3 rfl keyS Tryd.underlying54 rfl HM1.out EPSV rfl (.int .i64 229) rfl ?_
         intro w2 hm2 hg2
         have HM2 := Aside0.mk hm2
         have HL := Aside0.mk (HL1.out.grown (Nat.le_refl _) hg2)
         clear hm2 hg2 HM1 HL1)
      | (at_lookup; refine MapLaw.wp_lookup _ rfl _ _ 54 3 true rfl keyS Tryd.underlying54 (zeroI _) rfl HM2.out name rfl ?_; rw [HAT.out]; obtain ⟨c0, c1⟩ := HL.out.facts; obtain ⟨q0, q1, q2, q3⟩ := host_facts HL.out.host; obtain ⟨x0, x1, x2, x3, x4, u0, u1, u2, u3, u4⟩ := endCells_facts HL.out.res))
    go_region_with (first
      | (go_at_call 14; with_reducible refine (fail_calls 2 (by decide) ad af _ (HX.out.below HL.out.bel.drew)).mono ?_; rintro e w9 ⟨x9, rfl, hx9, hb9⟩; have HK := Aside0.mk (And.intro ((HL.out.step (Below.refl _ _).drew).step hb9) hx9); clear hx9 hb9; obtain ⟨g0, g1, g2, g3⟩ := host_facts HK.out.1.host)
      | (go_at_call 18; with_reducible refine (told_calls _ _ _ _ _ _ _ _ _ _ _ _ ad af (HX.out.below HK.out.1.bel) HK.out.2).mono ?_; rintro e w3 ⟨rfl, hb3⟩; have HB := Aside0.mk (HK.out.1.bel.trans (hb3.mono HK.out.1.bel.size)); have HZ := Aside0.mk (blk_below HK.out.1.res hb3); rw [HRR.out, endR_mk]; clear hb3; obtain ⟨p0, p1, p2, p3, p4, o0, o1, o2, o3, o4⟩ := endCells_facts HZ.out))
    all_goals
      go_wp2
      try simp only [Exit.inBlock, Exit.then]
      exact bodyPost_ret (res_end _ 6 7 rfl _ _ (w.heap.size + 1 + 1) r0 r1 r2 r3 r4 (.int .i64 r5) rfl rfl (put5 HZ.out r0 r1 r2 r3 r4)) rfl ⟨rfl, put5B HB.out (by omega) _ _ _ _ _⟩
end Go.Proofs.YtdcbkeihgbekdaaDoor.Turn

namespace Go.Proofs.YtdcbkeihgbekdaaDoor.Turn
open Go Go.RowKit Go.Proofs.YtdcbkeihgbekdaaDoorW.PrintWords Go.Proofs.YtdcbkeihgbekdaaDoorW.PrintLast Go.Proofs.YtdcbkeihgbekdaaDoorW.PrintMore Go.Proofs.YtdcbkeihgbekdaaDoor.Quad
set_option linter.unusedVariables false
set_option linter.unusedSimpArgs false
def highB (p : Int) : Bool := decide (1024 ≤ p) && decide (p ≤ 65535)
set_option maxHeartbeats 4000000 in
set_option maxRecDepth 100000 in
theorem high_calls (a b c d p : Int) (w : World) : Calls Tryd.prog 23 #[.agg #[.int .u8 a, .int .u8 b, .int .u8 c, .int .u8 d, .int .i64 p]] w fun e w' => e = .returned (.bool (highB p)) ∧ Below w.heap.size w w' := by
  by_cases h1 : 1024 ≤ p
  · have h1' := decide_eq_true h1
    rw [highB, h1', Bool.true_and]
    clear h1
    go_enter Tryd.func23, Tryd.ntmps23
    go_wp2
    go_ret
    exact ⟨rfl, (Below.refl _ _).alloc (Nat.le_refl _) _⟩
  · have h1' := decide_eq_false h1
    rw [highB, h1', Bool.false_and]
    clear h1
    go_enter Tryd.func23, Tryd.ntmps23
    go_wp2
    go_ret
    exact ⟨rfl, (Below.refl _ _).alloc (Nat.le_refl _) _⟩
theorem zeroF (w : World) : (zeroValue 57).run Tryd.prog w = .ok .nilFunc w := by kernel_rfl
/-- The world further on: the end, the result (still zero). -/
structure AF (w W : World) (a b c d p : Int) : Prop where
  bel : Below w.heap.size w W
  e : W.heap[w.heap.size]? = endG a b c d p
  res : W.heap[w.heap.size + 1]? = some (.cells #[.string ⟨#[]⟩, .string ⟨#[]⟩] 23 (0, 0))
theorem AF.step {w W W' : World} {a b c d p : Int} (h : AF w W a b c d p) (hb : Below W.heap.size W W') : AF w W' a b c d p := ⟨h.bel.trans (hb.mono h.bel.size), blk_below h.e hb, blk_below h.res hb⟩
theorem AF.grown {w W W' : World} {a b c d p : Int} (h : AF w W a b c d p) {k : Nat} (hk : w.heap.size + 2 ≤ k) (hg : W.grownBy W' (some k)) : AF w W' a b c d p :=
  ⟨h.bel.grown hg h.bel.size (fun j hj => by cases hj; omega), blk_grown h.e hg (by simp; omega), blk_grown h.res hg (by simp; omega)⟩
theorem AF.start (w : World) (a b c d p : Int) : AF w ((w.alloc (endO a b c d p)).alloc (.cells #[.string ⟨#[]⟩, .string ⟨#[]⟩] 23)) a b c d p :=
  ⟨((Below.refl _ _).alloc (Nat.le_refl _) _).alloc (by simp) _, blk_alloc (blk_new w _) _, by have := blk_new (w.alloc (endO a b c d p)) (.cells #[.string ⟨#[]⟩, .string ⟨#[]⟩] 23); simpa using this⟩
theorem made2 (w : World) (o1 o2 : Obj) : MapLaw.Is Value.string (((w.alloc o1).alloc o2).alloc (.map #[] 0)) (w.heap.size + 1 + 1) [] := by
  have := MapLaw.Is.made Value.string ((w.alloc o1).alloc o2)
  simpa using this
theorem cmd_facts {W : World} {H : Nat} {x y : ByteArray} (h : W.heap[H]? = some (.cells #[.string x, .string y] 23 (0, 0))) : W.cell? ⟨H, 0, none⟩ = some (.string x) ∧ W.cell? ⟨H, 1, none⟩ = some (.string y) ∧ W.frozen? ⟨H, 0, none⟩ = false ∧ W.frozen? ⟨H, 1, none⟩ = false := ⟨(blk_cell h 0).trans rfl, (blk_cell h 1).trans rfl, blk_frozen h 0, blk_frozen h 1⟩
abbrev SixF : Value := .func (.func 21) #[] #[]
abbrev ExtF : Value := .func (.func 22) #[] #[]
theorem HA0 (name : ByteArray) : MapLaw.at_ name (MapLaw.put EPRT ExtF (MapLaw.put PORT SixF [])) = if name = PORT then some SixF else if name = EPRT then some ExtF else none := at_two PORT EPRT (by decide) _ _ name
theorem res_cmd (tmps : Array Value) (W : World) (H : Nat) (x y : ByteArray) (z : Bool) (h2 : tmps.getD 4 undef = .pointer (some ⟨H, 0, none⟩)) (h3 : tmps.getD 5 undef = .bool z) (hh : W.heap[H]? = some (.cells #[.string x, .string y] 23 (0, 0))) :
   (results Tryd.f10 tmps).run Tryd.prog W = .ok (.tuple #[.agg #[.string x, .string y], .bool z]) W := by
  have c0 : W.cell? ⟨H, 0, none⟩ = some (.string x) := (blk_cell hh 0).trans rfl
  have c1 : W.cell? ⟨H, 1, none⟩ = some (.string y) := (blk_cell hh 1).trans rfl
  rw [Array.getD_eq_getD_getElem?] at h2 h3
  simp [results, show Tryd.f10.results = #[.cell 4 23, .tmp 5] from rfl, h2, h3, go_sem, c0, c1]

set_option maxHeartbeats 4000000 in
set_option maxRecDepth 100000 in
theorem ask_port (a b c d p : Int) (w : World) (t : ByteArray) (hh : highB p = true) (hr : ∀ W, Below w.heap.size w W → Calls Tryd.prog 21 #[.agg #[.int .u8 a, .int .u8 b, .int .u8 c, .int .u8 d, .int .i64 p]] W fun e w' => e = .returned (.tuple #[.string t, .bool true]) ∧ Below W.heap.size W w') :
    Calls Tryd.prog 10 #[.string PORT, .agg #[.int .u8 a, .int .u8 b, .int .u8 c, .int .u8 d, .int .i64 p]] w fun e w' => e = .returned (.tuple #[.agg #[.string PORT, .string t], .bool true]) ∧ Below w.heap.size w w' := by
  have hmm := @run_makeMap Tryd.prog
  have HR := Aside0.mk hr
  have HH := Aside0.mk hh
  have HAT : Aside0 ((if true then Value.tuple #[(MapLaw.at_ PORT (MapLaw.put EPRT ExtF (MapLaw.put PORT SixF []))).getD .nilFunc, .bool (MapLaw.at_ PORT (MapLaw.put EPRT ExtF (MapLaw.put PORT SixF []))).isSome] else (MapLaw.at_ PORT (MapLaw.put EPRT ExtF (MapLaw.put PORT SixF []))).getD .nilFunc) = Value.tuple #[SixF, .bool true]) := ⟨by rw [HA0]; rfl⟩
  clear hr hh
  go_enter Tryd.func10, Tryd.ntmps10
  go_wp2_with (first
    | ((with_reducible refine MapLaw.gate_insert _ _ _ _ _ rfl ?_); refine MapLaw.wp_insert _ rfl _ _ _ 59 57 rfl keyS Tryd.underlying59 rfl (made2 w _ _) PORT rfl SixF rfl ?_; intro w1 hm1 hg1; have HM1 := Aside0.mk hm1; have HL1 := Aside0.mk (((AF.start w a b c d p).step ((Below.refl _ _).alloc (Nat.le_refl _) _)).grown (Nat.le_refl _) hg1); clear hm1 hg1 hmm)
    | ((with_reducible refine MapLaw.gate_insert _ _ _ _ _ rfl ?_); refine MapLaw.wp_insert _ rfl _ _ _ 59 57 rfl keyS Tryd.underlying59 rfl HM1.out EPRT rfl ExtF rfl ?_; intro w2 hm2 hg2; have HM2 := Aside0.mk hm2; have HL := Aside0.mk (HL1.out.grown (Nat.le_refl _) hg2); clear hm2 hg2 HM1 HL1)
    | (at_lookup; refine MapLaw.wp_lookup _ rfl _ _ 59 57 true rfl keyS Tryd.underlying59 (zeroF _) rfl HM2.out PORT rfl ?_; rw [HAT.out]; obtain ⟨c0, c1, f0, f1⟩ := cmd_facts HL.out.res; obtain ⟨x0, x1, x2, x3, x4, u0, u1, u2, u3, u4⟩ := endCells_facts HL.out.e)
    | (go_at_call 23; (with_reducible refine (high_calls a b c d p _).mono ?_); rintro e w3 ⟨rfl, hb3⟩; rw [HH.out]; replace HL := Aside0.mk (HL.out.step hb3); clear hb3 c0 c1 f0 f1 x0 x1 x2 x3 x4 u0 u1 u2 u3 u4; obtain ⟨c0, c1, f0, f1⟩ := cmd_facts HL.out.res; obtain ⟨x0, x1, x2, x3, x4, u0, u1, u2, u3, u4⟩ := endCells_facts HL.out.e)
    | (go_at_call 21; (with_reducible refine (HR.out _ HL.out.bel).mono ?_); rintro e w4 ⟨rfl, hb4⟩; have HN := Aside0.mk (HL.out.step hb4); clear hb4 c0 c1 f0 f1 x0 x1 x2 x3 x4 u0 u1 u2 u3 u4; obtain ⟨c0, c1, f0, f1⟩ := cmd_facts HN.out.res))
  try simp only [Exit.inBlock, Exit.then]
  exact bodyPost_ret (res_cmd _ _ (w.heap.size + 1) PORT t true rfl rfl (blk_put (blk_put HN.out.res 0 _ rfl) 1 _ rfl)) rfl ⟨rfl, (HN.out.bel.setCell (by show w.heap.size ≤ w.heap.size + 1; omega) _).setCell (by show w.heap.size ≤ w.heap.size + 1; omega) _⟩
set_option maxHeartbeats 4000000 in
set_option maxRecDepth 100000 in
theorem ask_eprt (a b c d p : Int) (w : World) (t : ByteArray) (hh : highB p = true) (hr : ∀ W, Below w.heap.size w W → Calls Tryd.prog 22 #[.agg #[.int .u8 a, .int .u8 b, .int .u8 c, .int .u8 d, .int .i64 p]] W fun e w' => e = .returned (.tuple #[.string t, .bool true]) ∧ Below W.heap.size W w') :
    Calls Tryd.prog 10 #[.string EPRT, .agg #[.int .u8 a, .int .u8 b, .int .u8 c, .int .u8 d, .int .i64 p]] w fun e w' => e = .returned (.tuple #[.agg #[.string EPRT, .string t], .bool true]) ∧ Below w.heap.size w w' := by
  have hmm := @run_makeMap Tryd.prog
  have HR := Aside0.mk hr
  have HH := Aside0.mk hh
  have HAT : Aside0 ((if true then Value.tuple #[(MapLaw.at_ EPRT (MapLaw.put EPRT ExtF (MapLaw.put PORT SixF []))).getD .nilFunc, .bool (MapLaw.at_ EPRT (MapLaw.put EPRT ExtF (MapLaw.put PORT SixF []))).isSome] else (MapLaw.at_ EPRT (MapLaw.put EPRT ExtF (MapLaw.put PORT SixF []))).getD .nilFunc) = Value.tuple #[ExtF, .bool true]) := ⟨by rw [HA0]; rfl⟩
  clear hr hh
  go_enter Tryd.func10, Tryd.ntmps10
  go_wp2_with (first
    | ((with_reducible refine MapLaw.gate_insert _ _ _ _ _ rfl ?_); refine MapLaw.wp_insert _ rfl _ _ _ 59 57 rfl keyS Tryd.underlying59 rfl (made2 w _ _) PORT rfl SixF rfl ?_; intro w1 hm1 hg1; have HM1 := Aside0.mk hm1; have HL1 := Aside0.mk (((AF.start w a b c d p).step ((Below.refl _ _).alloc (Nat.le_refl _) _)).grown (Nat.le_refl _) hg1); clear hm1 hg1 hmm)
    | ((with_reducible refine MapLaw.gate_insert _ _ _ _ _ rfl ?_); refine MapLaw.wp_insert _ rfl _ _ _ 59 57 rfl keyS Tryd.underlying59 rfl HM1.out EPRT rfl ExtF rfl ?_; intro w2 hm2 hg2; have HM2 := Aside0.mk hm2; have HL := Aside0.mk (HL1.out.grown (Nat.le_refl _) hg2); clear hm2 hg2 HM1 HL1)
    | (at_lookup; refine MapLaw.wp_lookup _ rfl _ _ 59 57 true rfl keyS Tryd.underlying59 (zeroF _) rfl HM2.out EPRT rfl ?_; rw [HAT.out]; obtain ⟨c0, c1, f0, f1⟩ := cmd_facts HL.out.res; obtain ⟨x0, x1, x2, x3, x4, u0, u1, u2, u3, u4⟩ := endCells_facts HL.out.e)
    | (go_at_call 23; (with_reducible refine (high_calls a b c d p _).mono ?_); rintro e w3 ⟨rfl, hb3⟩; rw [HH.out]; replace HL := Aside0.mk (HL.out.step hb3); clear hb3 c0 c1 f0 f1 x0 x1 x2 x3 x4 u0 u1 u2 u3 u4; obtain ⟨c0, c1, f0, f1⟩ := cmd_facts HL.out.res; obtain ⟨x0, x1, x2, x3, x4, u0, u1, u2, u3, u4⟩ := endCells_facts HL.out.e)
    | (go_at_call 22; (with_reducible refine (HR.out _ HL.out.bel).mono ?_); rintro e w4 ⟨rfl, hb4⟩; have HN := Aside0.mk (HL.out.step hb4); clear hb4 c0 c1 f0 f1 x0 x1 x2 x3 x4 u0 u1 u2 u3 u4; obtain ⟨c0, c1, f0, f1⟩ := cmd_facts HN.out.res))
  try simp only [Exit.inBlock, Exit.then]
  exact bodyPost_ret (res_cmd _ _ (w.heap.size + 1) EPRT t true rfl rfl (blk_put (blk_put HN.out.res 0 _ rfl) 1 _ rfl)) rfl ⟨rfl, (HN.out.bel.setCell (by show w.heap.size ≤ w.heap.size + 1; omega) _).setCell (by show w.heap.size ≤ w.heap.size + 1; omega) _⟩
set_option maxHeartbeats 4000000 in
set_option maxRecDepth 100000 in
theorem ask_other (name : ByteArray) (a b c d p : Int) (w : World) (hn : name ≠ PORT ∧ name ≠ EPRT) :
    Calls Tryd.prog 10 #[.string name, .agg #[.int .u8 a, .int .u8 b, .int .u8 c, .int .u8 d, .int .i64 p]] w fun e w' => e = .returned (.tuple #[.agg #[.string ⟨#[]⟩, .string ⟨#[]⟩], .bool false]) ∧ Below w.heap.size w w' := by
  have hmm := @run_makeMap Tryd.prog
  have HH : Aside0 (highB p = highB p) := ⟨rfl⟩
  have HAT : Aside0 ((if true then Value.tuple #[(MapLaw.at_ name (MapLaw.put EPRT ExtF (MapLaw.put PORT SixF []))).getD .nilFunc, .bool (MapLaw.at_ name (MapLaw.put EPRT ExtF (MapLaw.put PORT SixF []))).isSome] else (MapLaw.at_ name (MapLaw.put EPRT ExtF (MapLaw.put PORT SixF []))).getD .nilFunc) = Value.tuple #[.nilFunc, .bool false]) := ⟨by rw [HA0]; rw [if_neg hn.1, if_neg hn.2]; rfl⟩
  clear hn
  go_enter Tryd.func10, Tryd.ntmps10
  go_wp2_with (first
    | ((with_reducible refine MapLaw.gate_insert _ _ _ _ _ rfl ?_); refine MapLaw.wp_insert _ rfl _ _ _ 59 57 rfl keyS Tryd.underlying59 rfl (made2 w _ _) PORT rfl SixF rfl ?_; intro w1 hm1 hg1; have HM1 := Aside0.mk hm1; have HL1 := Aside0.mk (((AF.start w a b c d p).step ((Below.refl _ _).alloc (Nat.le_refl _) _)).grown (Nat.le_refl _) hg1); clear hm1 hg1 hmm)
    | ((with_reducible refine MapLaw.gate_insert _ _ _ _ _ rfl ?_); refine MapLaw.wp_insert _ rfl _ _ _ 59 57 rfl keyS Tryd.underlying59 rfl HM1.out EPRT rfl ExtF rfl ?_; intro w2 hm2 hg2; have HM2 := Aside0.mk hm2; have HL := Aside0.mk (HL1.out.grown (Nat.le_refl _) hg2); clear hm2 hg2 HM1 HL1)
    | (at_lookup; refine MapLaw.wp_lookup _ rfl _ _ 59 57 true rfl keyS Tryd.underlying59 (zeroF _) rfl HM2.out name rfl ?_; rw [HAT.out]; obtain ⟨c0, c1, f0, f1⟩ := cmd_facts HL.out.res; obtain ⟨x0, x1, x2, x3, x4, u0, u1, u2, u3, u4⟩ := endCells_facts HL.out.e)
    | (go_at_call 23; (with_reducible refine (high_calls a b c d p _).mono ?_); rintro e w3 ⟨rfl, hb3⟩; rw [HH.out]; replace HL := Aside0.mk (HL.out.step hb3); clear hb3 c0 c1 f0 f1 x0 x1 x2 x3 x4 u0 u1 u2 u3 u4; obtain ⟨c0, c1, f0, f1⟩ := cmd_facts HL.out.res; obtain ⟨x0, x1, x2, x3, x4, u0, u1, u2, u3, u4⟩ := endCells_facts HL.out.e))
  try simp only [Exit.inBlock, Exit.then]
  exact bodyPost_ret (res_cmd _ _ (w.heap.size + 1) ⟨#[]⟩ ⟨#[]⟩ false rfl rfl (blk_put (blk_put HL.out.res 0 _ rfl) 1 _ rfl)) rfl ⟨rfl, (HL.out.bel.setCell (by show w.heap.size ≤ w.heap.size + 1; omega) _).setCell (by show w.heap.size ≤ w.heap.size + 1; omega) _⟩
set_option maxHeartbeats 4000000 in
set_option maxRecDepth 100000 in
theorem ask_low (name : ByteArray) (a b c d p : Int) (w : World) (v : Value) (hn : Value.tuple #[(if name = PORT then some SixF else if name = EPRT then some ExtF else none).getD .nilFunc, .bool (if name = PORT then some SixF else if name = EPRT then some ExtF else none).isSome] = Value.tuple #[v, .bool true]) (hh : highB p = false) :
    Calls Tryd.prog 10 #[.string name, .agg #[.int .u8 a, .int .u8 b, .int .u8 c, .int .u8 d, .int .i64 p]] w fun e w' => e = .returned (.tuple #[.agg #[.string ⟨#[]⟩, .string ⟨#[]⟩], .bool false]) ∧ Below w.heap.size w w' := by
  have hmm := @run_makeMap Tryd.prog
  have HH := Aside0.mk hh
  clear hh
  have HAT : Aside0 ((if true then Value.tuple #[(MapLaw.at_ name (MapLaw.put EPRT ExtF (MapLaw.put PORT SixF []))).getD .nilFunc, .bool (MapLaw.at_ name (MapLaw.put EPRT ExtF (MapLaw.put PORT SixF []))).isSome] else (MapLaw.at_ name (MapLaw.put EPRT ExtF (MapLaw.put PORT SixF []))).getD .nilFunc) = Value.tuple #[v, .bool true]) := ⟨by rw [HA0]; exact hn⟩
  clear hn
  go_enter Tryd.func10, Tryd.ntmps10
  go_wp2_with (first
    | ((with_reducible refine MapLaw.gate_insert _ _ _ _ _ rfl ?_); refine MapLaw.wp_insert _ rfl _ _ _ 59 57 rfl keyS Tryd.underlying59 rfl (made2 w _ _) PORT rfl SixF rfl ?_; intro w1 hm1 hg1; have HM1 := Aside0.mk hm1; have HL1 := Aside0.mk (((AF.start w a b c d p).step ((Below.refl _ _).alloc (Nat.le_refl _) _)).grown (Nat.le_refl _) hg1); clear hm1 hg1 hmm)
    | ((with_reducible refine MapLaw.gate_insert _ _ _ _ _ rfl ?_); refine MapLaw.wp_insert _ rfl _ _ _ 59 57 rfl keyS Tryd.underlying59 rfl HM1.out EPRT rfl ExtF rfl ?_; intro w2 hm2 hg2; have HM2 := Aside0.mk hm2; have HL := Aside0.mk (HL1.out.grown (Nat.le_refl _) hg2); clear hm2 hg2 HM1 HL1)
    | (at_lookup; refine MapLaw.wp_lookup _ rfl _ _ 59 57 true rfl keyS Tryd.underlying59 (zeroF _) rfl HM2.out name rfl ?_; rw [HAT.out]; obtain ⟨c0, c1, f0, f1⟩ := cmd_facts HL.out.res; obtain ⟨x0, x1, x2, x3, x4, u0, u1, u2, u3, u4⟩ := endCells_facts HL.out.e)
    | (go_at_call 23; (with_reducible refine (high_calls a b c d p _).mono ?_); rintro e w3 ⟨rfl, hb3⟩; rw [HH.out]; replace HL := Aside0.mk (HL.out.step hb3); clear hb3 c0 c1 f0 f1 x0 x1 x2 x3 x4 u0 u1 u2 u3 u4; obtain ⟨c0, c1, f0, f1⟩ := cmd_facts HL.out.res; obtain ⟨x0, x1, x2, x3, x4, u0, u1, u2, u3, u4⟩ := endCells_facts HL.out.e))
  try simp only [Exit.inBlock, Exit.then]
  exact bodyPost_ret (res_cmd _ _ (w.heap.size + 1) ⟨#[]⟩ ⟨#[]⟩ false rfl rfl (blk_put (blk_put HL.out.res 0 _ rfl) 1 _ rfl)) rfl ⟨rfl, (HL.out.bel.setCell (by show w.heap.size ≤ w.heap.size + 1; omega) _).setCell (by show w.heap.size ≤ w.heap.size + 1; omega) _⟩
end Go.Proofs.YtdcbkeihgbekdaaDoor.Turn

namespace Go.Proofs.YtdcbkeihgbekdaaDoor.Turn
open Go Go.RowKit Go.Proofs.YtdcbkeihgbekdaaDoorW.PrintWords Go.Proofs.YtdcbkeihgbekdaaDoorW.PrintLast Go.Proofs.YtdcbkeihgbekdaaDoorW.PrintMore Go.Proofs.YtdcbkeihgbekdaaDoor.Quad
set_option linter.unusedVariables false
set_option linter.unusedSimpArgs false
def entering : ByteArray := ⟨#[69, 110, 116, 101, 114, 105, 110, 103, 32, 80, 97, 115, 115, 105, 118, 101, 32, 77, 111, 100, 101, 32, 40]⟩
def entended : ByteArray := ⟨#[69, 110, 116, 101, 114, 105, 110, 103, 32, 69, 120, 116, 101, 110, 100, 101, 100, 32, 80, 97, 115, 115, 105, 118, 101, 32, 77, 111, 100, 101, 32]⟩
/-- What a reply of one line looks like. -/
def Told (w : World) (code : Int) (t : ByteArray) (e : Ending) (w' : World) : Prop := ∃ g : Nat, e = .returned (.tuple #[.agg #[.int .i64 code, .slice (some ⟨g, 0, none⟩) 1 1], .bool true]) ∧ w'.heap[g]? = some (.cells #[.string t] 9 (0, 0)) ∧ w.heap.size ≤ g ∧ Below w.heap.size w w'
structure TF (w W : World) (a b c d p : Int) : Prop where
  bel : Below w.heap.size w W
  e : W.heap[w.heap.size]? = endG a b c d p
  res : W.heap[w.heap.size + 1]? = some (.cells #[.int .i64 0, .slice none 0 0] 26 (0, 0))
theorem TF.step {w W W' : World} {a b c d p : Int} (h : TF w W a b c d p) (hb : Below W.heap.size W W') : TF w W' a b c d p := ⟨h.bel.trans (hb.mono h.bel.size), blk_below h.e hb, blk_below h.res hb⟩
theorem TF.start (w : World) (a b c d p : Int) : TF w ((w.alloc (endO a b c d p)).alloc (.cells #[.int .i64 0, .slice none 0 0] 26)) a b c d p :=
  ⟨((Below.refl _ _).alloc (Nat.le_refl _) _).alloc (by simp) _, blk_alloc (blk_new w _) _, by have := blk_new (w.alloc (endO a b c d p)) (.cells #[.int .i64 0, .slice none 0 0] 26); simpa using this⟩
theorem rep_facts {W : World} {H : Nat} {x y : Value} (h : W.heap[H]? = some (.cells #[x, y] 26 (0, 0))) : W.cell? ⟨H, 0, none⟩ = some x ∧ W.cell? ⟨H, 1, none⟩ = some y ∧ W.frozen? ⟨H, 0, none⟩ = false ∧ W.frozen? ⟨H, 1, none⟩ = false := ⟨(blk_cell h 0).trans rfl, (blk_cell h 1).trans rfl, blk_frozen h 0, blk_frozen h 1⟩
theorem res_rep (tmps : Array Value) (W : World) (H : Nat) (code : Int) (v : Value) (A : Option Addr) (n c : Nat) (hv : v = .slice A n c) (z : Bool) (h2 : tmps.getD 4 undef = .pointer (some ⟨H, 0, none⟩)) (h3 : tmps.getD 5 undef = .bool z) (hh : W.heap[H]? = some (.cells #[.int .i64 code, v] 26 (0, 0))) :
   (results Tryd.f11 tmps).run Tryd.prog W = .ok (.tuple #[.agg #[.int .i64 code, v], .bool z]) W := by
  subst hv
  have c0 : W.cell? ⟨H, 0, none⟩ = some (.int .i64 code) := (blk_cell hh 0).trans rfl
  have c1 : W.cell? ⟨H, 1, none⟩ = some (.slice A n c) := (blk_cell hh 1).trans rfl
  rw [Array.getD_eq_getD_getElem?] at h2 h3
  simp [results, show Tryd.f11.results = #[.cell 4 26, .tmp 5] from rfl, h2, h3, go_sem, c0, c1]

set_option maxHeartbeats 4000000 in
set_option maxRecDepth 100000 in
theorem tell_pasv (a b c d p : Int) (w : World) (t : ByteArray) (hts : t.size ≤ 1000) (hh : highB p = true) (hr : ∀ W, Below w.heap.size w W → Calls Tryd.prog 21 #[.agg #[.int .u8 a, .int .u8 b, .int .u8 c, .int .u8 d, .int .i64 p]] W fun e w' => e = .returned (.tuple #[.string t, .bool true]) ∧ Below W.heap.size W w') :
    Calls Tryd.prog 11 #[.string PASV, .agg #[.int .u8 a, .int .u8 b, .int .u8 c, .int .u8 d, .int .i64 p]] w (Told w 227 (⟨#[69, 110, 116, 101, 114, 105, 110, 103, 32, 80, 97, 115, 115, 105, 118, 101, 32, 77, 111, 100, 101, 32, 40]⟩ ++ t ++ ⟨#[41, 46]⟩)) := by
  have HR := Aside0.mk hr
  have HH := Aside0.mk hh
  have e1 : (⟨#[69, 110, 116, 101, 114, 105, 110, 103, 32, 80, 97, 115, 115, 105, 118, 101, 32, 77, 111, 100, 101, 32, 40]⟩ : ByteArray).size = 23 := rfl
  have e2 : (⟨#[41, 46]⟩ : ByteArray).size = 2 := rfl
  have hp1 : (PASV.toList == [80, 65, 83, 86]) = true := by decide +kernel
  have hp2 : (PASV.toList == [69, 80, 83, 86]) = false := by decide +kernel
  clear hr hh
  go_enter Tryd.func11, Tryd.ntmps11
  go_wp2_with (first
    | (go_at_call 23; (with_reducible refine (high_calls a b c d p _).mono ?_); rintro e w3 ⟨rfl, hb3⟩; rw [HH.out]; have HL := Aside0.mk ((TF.start w a b c d p).step hb3); clear hb3; obtain ⟨c0, c1, f0, f1⟩ := rep_facts HL.out.res; obtain ⟨x0, x1, x2, x3, x4, u0, u1, u2, u3, u4⟩ := endCells_facts HL.out.e)
    | (go_at_call 21; (with_reducible refine (HR.out _ HL.out.bel).mono ?_); rintro e w4 ⟨rfl, hb4⟩; have HN := Aside0.mk (HL.out.step hb4); clear hb4 c0 c1 f0 f1 x0 x1 x2 x3 x4 u0 u1 u2 u3 u4; obtain ⟨c0, c1, f0, f1⟩ := rep_facts HN.out.res; have f0a : ∀ o, (w4.alloc o).frozen? ⟨w.heap.size + 1, 0, none⟩ = false := fun o => blk_frozen (blk_alloc HN.out.res o) 0; have f1a : ∀ o, (w4.alloc o).frozen? ⟨w.heap.size + 1, 1, none⟩ = false := fun o => blk_frozen (blk_alloc HN.out.res o) 1; have c0a : ∀ o, (w4.alloc o).cell? ⟨w.heap.size + 1, 0, none⟩ = some (.int .i64 0) := fun o => (blk_cell (blk_alloc HN.out.res o) 0).trans rfl; have c1a : ∀ o, (w4.alloc o).cell? ⟨w.heap.size + 1, 1, none⟩ = some (.slice none 0 0) := fun o => (blk_cell (blk_alloc HN.out.res o) 1).trans rfl))
  try simp only [Exit.inBlock, Exit.then]
  have hlt := blk_lt HN.out.res
  refine bodyPost_ret (res_rep _ _ (w.heap.size + 1) 227 _ (some ⟨w4.heap.size, 0, none⟩) 1 1 rfl true rfl rfl (blk_put (blk_put (blk_alloc HN.out.res _) 0 _ rfl) 1 _ rfl)) rfl ⟨w4.heap.size, rfl, ?_, HN.out.bel.size, ((HN.out.bel.alloc HN.out.bel.size _).setCell (by show w.heap.size ≤ w.heap.size + 1; omega) _).setCell (by show w.heap.size ≤ w.heap.size + 1; omega) _⟩
  exact blk_far (blk_far (blk_new w4 _) (show w4.heap.size ≠ w.heap.size + 1 by omega) _) (show w4.heap.size ≠ w.heap.size + 1 by omega) _
set_option maxHeartbeats 4000000 in
set_option maxRecDepth 100000 in
theorem tell_epsv (a b c d p : Int) (w : World) (t : ByteArray) (hts : t.size ≤ 1000) (hh : highB p = true) (hr : ∀ W, Below w.heap.size w W → Calls Tryd.prog 24 #[.int .i64 p] W fun e w' => e = .returned (.tuple #[.string t, .bool true]) ∧ Below W.heap.size W w') :
    Calls Tryd.prog 11 #[.string EPSV, .agg #[.int .u8 a, .int .u8 b, .int .u8 c, .int .u8 d, .int .i64 p]] w (Told w 229 (⟨#[69, 110, 116, 101, 114, 105, 110, 103, 32, 69, 120, 116, 101, 110, 100, 101, 100, 32, 80, 97, 115, 115, 105, 118, 101, 32, 77, 111, 100, 101, 32]⟩ ++ t ++ ⟨#[46]⟩)) := by
  have HR := Aside0.mk hr
  have HH := Aside0.mk hh
  have e1 : (⟨#[69, 110, 116, 101, 114, 105, 110, 103, 32, 69, 120, 116, 101, 110, 100, 101, 100, 32, 80, 97, 115, 115, 105, 118, 101, 32, 77, 111, 100, 101, 32]⟩ : ByteArray).size = 31 := rfl
  have e2 : (⟨#[46]⟩ : ByteArray).size = 1 := rfl
  have hp1 : (EPSV.toList == [80, 65, 83, 86]) = false := by decide +kernel
  have hp2 : (EPSV.toList == [69, 80, 83, 86]) = true := by decide +kernel
  clear hr hh
  go_enter Tryd.func11, Tryd.ntmps11
  go_wp2_with (first
    | (go_at_call 23; (with_reducible refine (high_calls a b c d p _).mono ?_); rintro e w3 ⟨rfl, hb3⟩; rw [HH.out]; have HL := Aside0.mk ((TF.start w a b c d p).step hb3); clear hb3; obtain ⟨c0, c1, f0, f1⟩ := rep_facts HL.out.res; obtain ⟨x0, x1, x2, x3, x4, u0, u1, u2, u3, u4⟩ := endCells_facts HL.out.e)
    | (go_at_call 24; (with_reducible refine (HR.out _ HL.out.bel).mono ?_); rintro e w4 ⟨rfl, hb4⟩; have HN := Aside0.mk (HL.out.step hb4); clear hb4 c0 c1 f0 f1 x0 x1 x2 x3 x4 u0 u1 u2 u3 u4; obtain ⟨c0, c1, f0, f1⟩ := rep_facts HN.out.res; have f0a : ∀ o, (w4.alloc o).frozen? ⟨w.heap.size + 1, 0, none⟩ = false := fun o => blk_frozen (blk_alloc HN.out.res o) 0; have f1a : ∀ o, (w4.alloc o).frozen? ⟨w.heap.size + 1, 1, none⟩ = false := fun o => blk_frozen (blk_alloc HN.out.res o) 1; have c0a : ∀ o, (w4.alloc o).cell? ⟨w.heap.size + 1, 0, none⟩ = some (.int .i64 0) := fun o => (blk_cell (blk_alloc HN.out.res o) 0).trans rfl; have c1a : ∀ o, (w4.alloc o).cell? ⟨w.heap.size + 1, 1, none⟩ = some (.slice none 0 0) := fun o => (blk_cell (blk_alloc HN.out.res o) 1).trans rfl))
  try simp only [Exit.inBlock, Exit.then]
  have hlt := blk_lt HN.out.res
  refine bodyPost_ret (res_rep _ _ (w.heap.size + 1) 229 _ (some ⟨w4.heap.size, 0, none⟩) 1 1 rfl true rfl rfl (blk_put (blk_put (blk_alloc HN.out.res _) 0 _ rfl) 1 _ rfl)) rfl ⟨w4.heap.size, rfl, ?_, HN.out.bel.size, ((HN.out.bel.alloc HN.out.bel.size _).setCell (by show w.heap.size ≤ w.heap.size + 1; omega) _).setCell (by show w.heap.size ≤ w.heap.size + 1; omega) _⟩
  exact blk_far (blk_far (blk_new w4 _) (show w4.heap.size ≠ w.heap.size + 1 by omega) _) (show w4.heap.size ≠ w.heap.size + 1 by omega) _
set_option maxHeartbeats 4000000 in
set_option maxRecDepth 100000 in
theorem tell_no (name : ByteArray) (a b c d p : Int) (w : World) (hn : highB p = false ∨ (highB p = true ∧ (name.toList == [80, 65, 83, 86]) = false ∧ (name.toList == [69, 80, 83, 86]) = false)) :
    Calls Tryd.prog 11 #[.string name, .agg #[.int .u8 a, .int .u8 b, .int .u8 c, .int .u8 d, .int .i64 p]] w fun e w' => e = .returned (.tuple #[.agg #[.int .i64 0, .slice none 0 0], .bool false]) ∧ Below w.heap.size w w' := by
  rcases hn with h | ⟨h, h1, h2⟩
  all_goals
    have HH := Aside0.mk h
    clear h
    go_enter Tryd.func11, Tryd.ntmps11
    go_wp2_with (go_at_call 23; (with_reducible refine (high_calls a b c d p _).mono ?_); rintro e w3 ⟨rfl, hb3⟩; rw [HH.out]; have HL := Aside0.mk ((TF.start w a b c d p).step hb3); clear hb3; obtain ⟨c0, c1, f0, f1⟩ := rep_facts HL.out.res; obtain ⟨x0, x1, x2, x3, x4, u0, u1, u2, u3, u4⟩ := endCells_facts HL.out.e)
    try simp only [Exit.inBlock, Exit.then]
    exact bodyPost_ret (res_rep _ _ (w.heap.size + 1) 0 _ none 0 0 rfl false rfl rfl (blk_put (blk_put HL.out.res 0 _ rfl) 1 _ rfl)) rfl ⟨rfl, (HL.out.bel.setCell (by show w.heap.size ≤ w.heap.size + 1; omega) _).setCell (by show w.heap.size ≤ w.heap.size + 1; omega) _⟩
end Go.Proofs.YtdcbkeihgbekdaaDoor.Turn

namespace Go.Proofs.YtdcbkeihgbekdaaDoor.Turn
open Go Go.RowKit Go.Proofs.YtdcbkeihgbekdaaDoorW.PrintWords Go.Proofs.YtdcbkeihgbekdaaDoorW.PrintLast Go.Proofs.YtdcbkeihgbekdaaDoorW.PrintMore Go.Proofs.YtdcbkeihgbekdaaDoor.Quad
set_option linter.unusedVariables false
set_option linter.unusedSimpArgs false
/-- The world ahead of the answer: the reply, the host, the result (still zero), what was read. -/
structure LM (w W : World) (m : Nat) (code : Int) (v : Value) (a b c d p h0 h1 h2 h3 : Int) : Prop where
  lf : LF w W code v h0 h1 h2 h3
  src : W.heap[m]? = endG a b c d p
  hm : w.heap.size + 4 ≤ m
theorem LM.step {w W W' : World} {m : Nat} {code : Int} {v : Value} {a b c d p h0 h1 h2 h3 : Int} (h : LM w W m code v a b c d p h0 h1 h2 h3) (hb : Below W.heap.size W W') : LM w W' m code v a b c d p h0 h1 h2 h3 := ⟨h.lf.step hb, blk_below h.src hb, h.hm⟩
theorem LF.read {w W : World} {code : Int} {v : Value} {h0 h1 h2 h3 : Int} (h : LF w W code v h0 h1 h2 h3) (hs : w.heap.size + 4 ≤ W.heap.size) (a b c d p : Int) : LM w (W.alloc (endO a b c d p)) W.heap.size code v a b c d p h0 h1 h2 h3 := ⟨h.step ((Below.refl _ _).alloc (Nat.le_refl _) _), blk_new _ _, hs⟩
theorem LM.put1 {w W : World} {m : Nat} {code : Int} {v : Value} {a b c d p h0 h1 h2 h3 : Int} (h : LM w W m code v a b c d p h0 h1 h2 h3) (q : Int) : LM w (W.setCell ⟨m, 4, none⟩ (.int .i64 q)) m code v a b c d q h0 h1 h2 h3 :=
  ⟨h.lf.far (by have := h.hm; omega) _ _, blk_put h.src 4 _ rfl, h.hm⟩
set_option maxHeartbeats 4000000 in
set_option maxRecDepth 100000 in
theorem listen_six (A : Option Addr) (cap : Nat) (h0 h1 h2 h3 : Int) (w : World) (ad af : Addr) (hx : TEx w ad af) (s : ByteArray) (hs : ∀ W, Below w.heap.size w W → ∃ ad : Addr, A = some ad ∧ W.cell? ad = some (.string s)) (a b c d p : Int) (z : Bool) (hr1 : ∀ W, Below w.heap.size w W → Calls Tryd.prog 19 #[.string s] W fun e w' => e = .returned (.tuple #[.agg #[.int .u8 a, .int .u8 b, .int .u8 c, .int .u8 d, .int .i64 p], .bool z]) ∧ Below W.heap.size W w') :
    Calls Tryd.prog 9 #[.string PASV, .agg #[.int .i64 227, .slice A 1 cap], .agg #[.int .u8 h0, .int .u8 h1, .int .u8 h2, .int .u8 h3]] w fun e w' => e = .returned (endR (toldE (if z then 0 else 2) a b c d p h0 h1 h2 h3)) ∧ Below w.heap.size w w' := by
  have hmm := @run_makeMap Tryd.prog
  have HX := Aside0.mk hx
  have HR1 := Aside0.mk hr1
  have HS := Aside0.mk hs
  obtain ⟨⟨r0, r1, r2, r3, r4, r5⟩, hR⟩ : ∃ R, R = toldE (if z then 0 else 2) a b c d p h0 h1 h2 h3 := ⟨_, rfl⟩
  rw [← hR, endR_mk]
  have HRR := Aside0.mk hR.symm
  have HAT : Aside0 ((if true then Value.tuple #[(MapLaw.at_ PASV (MapLaw.put EPSV (.int .i64 229) (MapLaw.put PASV (.int .i64 227) []))).getD (.int .i64 0), .bool (MapLaw.at_ PASV (MapLaw.put EPSV (.int .i64 229) (MapLaw.put PASV (.int .i64 227) []))).isSome] else (MapLaw.at_ PASV (MapLaw.put EPSV (.int .i64 229) (MapLaw.put PASV (.int .i64 227) []))).getD (.int .i64 0)) = Value.tuple #[.int .i64 227, .bool true]) := ⟨by rw [HC0]; rfl⟩
  have hA : ∃ ad0, A = some ad0 := by obtain ⟨ad0, e, _⟩ := hs w (Below.refl _ _); exact ⟨ad0, e⟩
  obtain ⟨ad0, rfl⟩ := hA
  have HC := Aside0.mk (show ∀ W, Below w.heap.size w W → W.cell? ad0 = some (.string s) from fun W hW => by obtain ⟨ad1, e, h⟩ := HS.out W hW; cases e; exact h)
  clear hx hr1 hs hR HS
  go_enter Tryd.func9, Tryd.ntmps9
  have hpe : (PASV.toList == [69, 80, 83, 86]) = false := by decide +kernel
  go_wp2_with (first
    | ((with_reducible refine MapLaw.gate_insert _ _ _ _ _ rfl ?_)
       refine MapLaw.wp_insert _ rfl _ _ _ 54 3 rfl keyS Tryd.underlying54 rfl (made3 w _ _ _) PASV rfl (.int .i64 227) rfl ?_
       intro w1 hm1 hg1
       have HM1 := Aside0.mk hm1
       have HL1 := Aside0.mk (((LF.start w 227 (.slice (some ad0) 1 cap) h0 h1 h2 h3).step ((Below.refl _ _).alloc (Nat.le_refl _) _)).grown (Nat.le_refl _) hg1)
       clear hm1 hg1 hmm)
    | ((with_reducible refine MapLaw.gate_insert _ _ _ _ _ rfl ?_)
       refine MapLaw.wp_insert _ rfl _ _ _ 54 3 rfl keyS Tryd.underlying54 rfl HM1.out EPSV rfl (.int .i64 229) rfl ?_
       intro w2 hm2 hg2
       have HM2 := Aside0.mk hm2
       have HL := Aside0.mk (HL1.out.grown (Nat.le_refl _) hg2)
       clear hm2 hg2 HM1 HL1)
    | (at_lookup; refine MapLaw.wp_lookup _ rfl _ _ 54 3 true rfl keyS Tryd.underlying54 (zeroI _) rfl HM2.out PASV rfl ?_; rw [HAT.out]; obtain ⟨c0, c1⟩ := HL.out.facts; have s0 := HC.out _ HL.out.bel; obtain ⟨q0, q1, q2, q3⟩ := host_facts HL.out.host; obtain ⟨x0, x1, x2, x3, x4, u0, u1, u2, u3, u4⟩ := endCells_facts HL.out.res)
    | (go_at_call 19; refine (HR1.out _ HL.out.bel).mono ?_; rintro e w5 ⟨rfl, hb5⟩; have HG := Aside0.mk (HL.out.step hb5); have HSZ := Aside0.mk (show w.heap.size + 4 ≤ w5.heap.size from Nat.le_trans HM2.out.lt hb5.size); clear hb5 c0 c1 s0 q0 q1 q2 q3 x0 x1 x2 x3 x4 u0 u1 u2 u3 u4))
  refine wp_at (fun W => LM w W w5.heap.size 227 (.slice (some ad0) 1 cap) a b c d p h0 h1 h2 h3) (HG.out.read HSZ.out a b c d p) (fun W0 hR0 => ?_)
  have HM := Aside0.mk hR0
  clear hR0 hpe
  obtain ⟨m, hm⟩ : ∃ m, m = w5.heap.size := ⟨_, rfl⟩
  rw [← hm] at HM ⊢
  clear hm
  obtain ⟨z0, z1, z2, z3, z4, y0, y1, y2, y3, y4⟩ := endCells_facts HM.out.src
  obtain ⟨q0, q1, q2, q3⟩ := host_facts HM.out.lf.host
  go_region_with (first
    | (go_at_call 16; with_reducible refine (unless_calls _ 2 (fun _ => by decide) ad af _ (HX.out.below HM.out.lf.bel.drew)).mono ?_; rintro e w9 ⟨x9, rfl, hx9, hb9⟩; have HN := Aside0.mk ((HM.out.step (Below.refl _ _).drew).step hb9); have HK := Aside0.mk (And.intro HN.out.lf hx9); clear hx9 hb9; obtain ⟨g0, g1, g2, g3⟩ := host_facts HK.out.1.host; obtain ⟨e0, e1, e2, e3, e4, _, _, _, _, _⟩ := endCells_facts HN.out.src)
    | (go_at_call 18; with_reducible refine (told_calls _ _ _ _ _ _ _ _ _ _ _ _ ad af (HX.out.below HK.out.1.bel) HK.out.2).mono ?_; rintro e w3 ⟨rfl, hb3⟩; have HB := Aside0.mk (HK.out.1.bel.trans (hb3.mono HK.out.1.bel.size)); have HZ := Aside0.mk (blk_below HK.out.1.res hb3); rw [HRR.out, endR_mk]; clear hb3; obtain ⟨p0, p1, p2, p3, p4, o0, o1, o2, o3, o4⟩ := endCells_facts HZ.out))
  all_goals
    go_wp2
    try simp only [Exit.inBlock, Exit.then]
    exact bodyPost_ret (res_end _ 6 7 rfl _ _ (w.heap.size + 1 + 1) r0 r1 r2 r3 r4 (.int .i64 r5) rfl rfl (put5 HZ.out r0 r1 r2 r3 r4)) rfl ⟨rfl, put5B HB.out (by omega) _ _ _ _ _⟩
set_option maxHeartbeats 4000000 in
set_option maxRecDepth 100000 in
theorem listen_ext (A : Option Addr) (cap : Nat) (h0 h1 h2 h3 : Int) (w : World) (ad af : Addr) (hx : TEx w ad af) (s : ByteArray) (hs : ∀ W, Below w.heap.size w W → ∃ ad : Addr, A = some ad ∧ W.cell? ad = some (.string s)) (a b c d p : Int) (z0_ : Bool) (hr1 : ∀ W, Below w.heap.size w W → Calls Tryd.prog 19 #[.string s] W fun e w' => e = .returned (.tuple #[.agg #[.int .u8 a, .int .u8 b, .int .u8 c, .int .u8 d, .int .i64 p], .bool z0_]) ∧ Below W.heap.size W w') (q : Int) (z : Bool) (hr2 : ∀ W, Below w.heap.size w W → Calls Tryd.prog 20 #[.string s] W fun e w' => e = .returned (.tuple #[.int .i64 q, .bool z]) ∧ Below W.heap.size W w') :
    Calls Tryd.prog 9 #[.string EPSV, .agg #[.int .i64 229, .slice A 1 cap], .agg #[.int .u8 h0, .int .u8 h1, .int .u8 h2, .int .u8 h3]] w fun e w' => e = .returned (endR (toldE (if z then 0 else 2) h0 h1 h2 h3 q h0 h1 h2 h3)) ∧ Below w.heap.size w w' := by
  have hmm := @run_makeMap Tryd.prog
  have HX := Aside0.mk hx
  have HR1 := Aside0.mk hr1
  have HR2 := Aside0.mk hr2
  have HS := Aside0.mk hs
  obtain ⟨⟨r0, r1, r2, r3, r4, r5⟩, hR⟩ : ∃ R, R = toldE (if z then 0 else 2) h0 h1 h2 h3 q h0 h1 h2 h3 := ⟨_, rfl⟩
  rw [← hR, endR_mk]
  have HRR := Aside0.mk hR.symm
  have HAT : Aside0 ((if true then Value.tuple #[(MapLaw.at_ EPSV (MapLaw.put EPSV (.int .i64 229) (MapLaw.put PASV (.int .i64 227) []))).getD (.int .i64 0), .bool (MapLaw.at_ EPSV (MapLaw.put EPSV (.int .i64 229) (MapLaw.put PASV (.int .i64 227) []))).isSome] else (MapLaw.at_ EPSV (MapLaw.put EPSV (.int .i64 229) (MapLaw.put PASV (.int .i64 227) []))).getD (.int .i64 0)) = Value.tuple #[.int .i64 229, .bool true]) := ⟨by rw [HC0]; rfl⟩
  have hA : ∃ ad0, A = some ad0 := by obtain ⟨ad0, e, _⟩ := hs w (Below.refl _ _); exact ⟨ad0, e⟩
  obtain ⟨ad0, rfl⟩ := hA
  have HC := Aside0.mk (show ∀ W, Below w.heap.size w W → W.cell? ad0 = some (.string s) from fun W hW => by obtain ⟨ad1, e, h⟩ := HS.out W hW; cases e; exact h)
  clear hx hr1 hs hR HS hr2
  go_enter Tryd.func9, Tryd.ntmps9
  have hpe : (EPSV.toList == [69, 80, 83, 86]) = true := by decide +kernel
  go_wp2_with (first
    | ((with_reducible refine MapLaw.gate_insert _ _ _ _ _ rfl ?_)
       refine MapLaw.wp_insert _ rfl _ _ _ 54 3 rfl keyS Tryd.underlying54 rfl (made3 w _ _ _) PASV rfl (.int .i64 227) rfl ?_
       intro w1 hm1 hg1
       have HM1 := Aside0.mk hm1
       have HL1 := Aside0.mk (((LF.start w 229 (.slice (some ad0) 1 cap) h0 h1 h2 h3).step ((Below.refl _ _).alloc (Nat.le_refl _) _)).grown (Nat.le_refl _) hg1)
       clear hm1 hg1 hmm)
    | ((with_reducible refine MapLaw.gate_insert _ _ _ _ _ rfl ?_)
       refine MapLaw.wp_insert _ rfl _ _ _ 54 3 rfl keyS Tryd.underlying54 rfl HM1.out EPSV rfl (.int .i64 229) rfl ?_
       intro w2 hm2 hg2
       have HM2 := Aside0.mk hm2
       have HL := Aside0.mk (HL1.out.grown (Nat.le_refl _) hg2)
       clear hm2 hg2 HM1 HL1)
    | (at_lookup; refine MapLaw.wp_lookup _ rfl _ _ 54 3 true rfl keyS Tryd.underlying54 (zeroI _) rfl HM2.out EPSV rfl ?_; rw [HAT.out]; obtain ⟨c0, c1⟩ := HL.out.facts; have s0 := HC.out _ HL.out.bel; obtain ⟨q0, q1, q2, q3⟩ := host_facts HL.out.host; obtain ⟨x0, x1, x2, x3, x4, u0, u1, u2, u3, u4⟩ := endCells_facts HL.out.res)
    | (go_at_call 19; refine (HR1.out _ HL.out.bel).mono ?_; rintro e w5 ⟨rfl, hb5⟩; have HG := Aside0.mk (HL.out.step hb5); have HSZ := Aside0.mk (show w.heap.size + 4 ≤ w5.heap.size from Nat.le_trans HM2.out.lt hb5.size); clear hb5 c0 c1 s0 q0 q1 q2 q3 x0 x1 x2 x3 x4 u0 u1 u2 u3 u4; have HA := fun o => HG.out.step ((Below.refl w5.heap.size w5).alloc (Nat.le_refl _) o); have c1a : ∀ o, (w5.alloc o).cell? ⟨w.heap.size, 1, none⟩ = some (.slice (some ad0) 1 cap) := fun o => (HA o).facts.2; have s0a : ∀ o, (w5.alloc o).cell? ad0 = some (.string s) := fun o => HC.out _ (HA o).bel; have q0a : ∀ o, (w5.alloc o).cell? ⟨w.heap.size + 1, 0, none⟩ = some (.int .u8 h0) := fun o => (host_facts (HA o).host).1; have q1a : ∀ o, (w5.alloc o).cell? ⟨w.heap.size + 1, 1, none⟩ = some (.int .u8 h1) := fun o => (host_facts (HA o).host).2.1; have q2a : ∀ o, (w5.alloc o).cell? ⟨w.heap.size + 1, 2, none⟩ = some (.int .u8 h2) := fun o => (host_facts (HA o).host).2.2.1; have q3a : ∀ o, (w5.alloc o).cell? ⟨w.heap.size + 1, 3, none⟩ = some (.int .u8 h3) := fun o => (host_facts (HA o).host).2.2.2; clear HA)
    | (go_at_call 20; refine (HR2.out _ (HG.out.bel.alloc HG.out.bel.size _)).mono ?_; rintro e w6 ⟨rfl, hb6⟩; have HM0 := Aside0.mk ((HG.out.read HSZ.out h0 h1 h2 h3 p).step hb6); clear hb6 c1a s0a q0a q1a q2a q3a; obtain ⟨m0, m1, m2, m3, m4, n0, n1, n2, n3, n4⟩ := endCells_facts HM0.out.src))
  refine wp_at (fun W => LM w W w5.heap.size 229 (.slice (some ad0) 1 cap) h0 h1 h2 h3 q h0 h1 h2 h3) (HM0.out.put1 q) (fun W0 hR0 => ?_)
  have HM := Aside0.mk hR0
  clear hR0 hpe
  obtain ⟨m, hm⟩ : ∃ m, m = w5.heap.size := ⟨_, rfl⟩
  rw [← hm] at HM ⊢
  clear hm HM0 m0 m1 m2 m3 m4 n0 n1 n2 n3 n4
  obtain ⟨z0, z1, z2, z3, z4, y0, y1, y2, y3, y4⟩ := endCells_facts HM.out.src
  obtain ⟨q0, q1, q2, q3⟩ := host_facts HM.out.lf.host
  go_region_with (first
    | (go_at_call 16; with_reducible refine (unless_calls _ 2 (fun _ => by decide) ad af _ (HX.out.below HM.out.lf.bel.drew)).mono ?_; rintro e w9 ⟨x9, rfl, hx9, hb9⟩; have HN := Aside0.mk ((HM.out.step (Below.refl _ _).drew).step hb9); have HK := Aside0.mk (And.intro HN.out.lf hx9); clear hx9 hb9; obtain ⟨g0, g1, g2, g3⟩ := host_facts HK.out.1.host; obtain ⟨e0, e1, e2, e3, e4, _, _, _, _, _⟩ := endCells_facts HN.out.src)
    | (go_at_call 18; with_reducible refine (told_calls _ _ _ _ _ _ _ _ _ _ _ _ ad af (HX.out.below HK.out.1.bel) HK.out.2).mono ?_; rintro e w3 ⟨rfl, hb3⟩; have HB := Aside0.mk (HK.out.1.bel.trans (hb3.mono HK.out.1.bel.size)); have HZ := Aside0.mk (blk_below HK.out.1.res hb3); rw [HRR.out, endR_mk]; clear hb3; obtain ⟨p0, p1, p2, p3, p4, o0, o1, o2, o3, o4⟩ := endCells_facts HZ.out))
  all_goals
    go_wp2
    try simp only [Exit.inBlock, Exit.then]
    exact bodyPost_ret (res_end _ 6 7 rfl _ _ (w.heap.size + 1 + 1) r0 r1 r2 r3 r4 (.int .i64 r5) rfl rfl (put5 HZ.out r0 r1 r2 r3 r4)) rfl ⟨rfl, put5B HB.out (by omega) _ _ _ _ _⟩
end Go.Proofs.YtdcbkeihgbekdaaDoor.Turn

namespace Go.Proofs.YtdcbkeihgbekdaaDoor.Six
open Go Go.RowKit Go.Proofs.YtdcbkeihgbekdaaDoorW.PrintWords Go.Proofs.YtdcbkeihgbekdaaDoorW.PrintLast Go.Proofs.YtdcbkeihgbekdaaDoorW.PrintMore Go.Proofs.YtdcbkeihgbekdaaDoor.Dig Go.Proofs.YtdcbkeihgbekdaaDoor.Quad Go.Proofs.YtdcbkeihgbekdaaDoor.SixP
set_option linter.unusedVariables false
set_option linter.unusedSimpArgs false

theorem info5 : (Tryd.prog.info? 5).map (fun i => (i.zero, i.size, i.bytes)) = some (some (.int .u8 0), 1, 1) := by kernel_rfl
/-- What Text hands back. -/
def textR (a b c d : Nat) (p : Int) : Value := if p < 0 ∨ 65535 < p then .tuple #[str [], .bool false] else .tuple #[str (sixU a b c d p.toNat), .bool true]
def endV (a b c d : Nat) (p : Int) : Value := .agg #[.int .u8 a, .int .u8 b, .int .u8 c, .int .u8 d, .int .i64 p]
set_option maxHeartbeats 2000000 in
set_option maxRecDepth 100000 in
theorem text_calls (a b c d : Nat) (p : Int) (ha : a < 256) (hb : b < 256) (hc : c < 256) (hd : d < 256) (w : World) :
    Calls Tryd.prog 21 #[endV a b c d p] w fun e w' => e = .returned (textR a b c d p) ∧ Below w.heap.size w w' := by
  unfold endV
  by_cases h0 : p < 0
  · have h0' := decide_eq_true h0
    have HF := Aside0.mk (show textR a b c d p = .tuple #[str [], .bool false] from if_pos (.inl h0))
    clear h0
    go_enter Tryd.func21, Tryd.ntmps21
    go_wp2
    go_ret2
    exact ⟨by rw [HF.out]; rfl, (Below.refl _ _).alloc (Nat.le_refl _) _⟩
  · have h0' := decide_eq_false h0
    by_cases h1 : 65535 < p
    · have h1' := decide_eq_true h1
      have HF := Aside0.mk (show textR a b c d p = .tuple #[str [], .bool false] from if_pos (.inr h1))
      clear h0 h1
      go_enter Tryd.func21, Tryd.ntmps21
      go_wp2
      go_ret2
      exact ⟨by rw [HF.out]; rfl, (Below.refl _ _).alloc (Nat.le_refl _) _⟩
    · obtain ⟨n, rfl⟩ : ∃ n : Nat, p = n := ⟨p.toNat, by omega⟩
      have h1' := decide_eq_false h1
      have HF := Aside0.mk (show textR a b c d n = .tuple #[str (sixU a b c d n), .bool true] from by rw [textR, if_neg (by omega)]; rfl)
      obtain ⟨hi, hhi⟩ : ∃ hi : Nat, hi = n / 256 := ⟨_, rfl⟩
      obtain ⟨lo, hlo⟩ : ∃ lo : Nat, lo = n % 256 := ⟨_, rfl⟩
      have HN := Aside0.mk (show hi = n / 256 ∧ lo = n % 256 ∧ hi < 256 ∧ lo < 256 from by omega)
      obtain ⟨i0, hi0, hz0, hz1, hz2⟩ := info_parts info9
      have HI := Aside0.mk (And.intro hi0 (And.intro hz0 (And.intro hz1 hz2)))
      obtain ⟨i5, hi5, hy0, hy1, hy2⟩ := info_parts info5
      have HI5 := Aside0.mk (And.intro hi5 (And.intro hy0 (And.intro hy1 hy2)))
      have HABCD := Aside0.mk (And.intro ha (And.intro hb (And.intro hc hd)))
      clear h0 h1 hi0 hz0 hz1 hz2 hi5 hy0 hy1 hy2 ha hb hc hd hhi hlo
      go_enter Tryd.func21, Tryd.ntmps21
      go_wp2
      obtain ⟨W0, hW0⟩ : ∃ W0, W0 = w.alloc (.cells #[.int .u8 a, .int .u8 b, .int .u8 c, .int .u8 d, .int .i64 n] 31) := ⟨_, rfl⟩
      have HW := Aside0.mk (show Below w.heap.size w W0 ∧ W0.heap[w.heap.size]? = some (.cells #[.int .u8 a, .int .u8 b, .int .u8 c, .int .u8 d, .int .i64 n] 31 (0, 0)) from by
        rw [hW0]; exact ⟨(Below.refl _ _).alloc (Nat.le_refl _) _, blk_new _ _⟩)
      rw [← hW0]
      clear hW0
      have c4 : W0.cell? ⟨w.heap.size, 4, none⟩ = some (.int .i64 n) := (blk_cell HW.out.2 4).trans rfl
      have hw1 : IntKind.u8.wrap ((n : Int) / 256) = (hi : Int) := by have := HN.out; simp [IntKind.wrap, IntKind.bits, IntKind.signed]; omega
      have hw2 : IntKind.u8.wrap (n : Int) = (lo : Int) := by have := HN.out; simp [IntKind.wrap, IntKind.bits, IntKind.signed]; omega
      obtain ⟨ds, hds⟩ : ∃ ds : List Nat, ds = [a, b, c, d, hi, lo] := ⟨_, rfl⟩
      have HDS := Aside0.mk hds
      clear hds
      have HC0 := Aside0.mk (show ∀ W : World, Below (w.heap.size + 1) W0 W → ∀ (j : Nat) (u : Value), [Value.int .u8 a, .int .u8 b, .int .u8 c, .int .u8 d][j]? = some u → W.cell? ((⟨w.heap.size, 0, none⟩ : Addr).add j) = some u from fun W hW j u hj => by
        rw [add_plain, hW.cell (show w.heap.size < w.heap.size + 1 from Nat.lt_succ_self _), blk_cell HW.out.2]
        have hj4 := (List.getElem?_eq_some_iff.1 hj).1
        simp only [List.length_cons, List.length_nil] at hj4
        obtain rfl | rfl | rfl | rfl : j = 0 ∨ j = 1 ∨ j = 2 ∨ j = 3 := by omega
        all_goals exact hj)
      have HS0 := Aside0.mk (show w.heap.size + 1 ≤ W0.heap.size from by have := blk_lt HW.out.2; omega)
      go_region_law (refine step_append_grows rfl (.tmp 16) (.tmp 24) 83 rfl 5 i5 (.int .u8 0) 1 1 Tryd.underlying83 HI5.out.1 HI5.out.2.1 HI5.out.2.2.1 HI5.out.2.2.2 rfl (by decide) (some ⟨w.heap.size, 0, none⟩) 4 4 [.int .u8 a, .int .u8 b, .int .u8 c, .int .u8 d] (by simp [Act.eval, Act.put]) (fun h => by cases h) rfl (fun b' hb' j u hj => by cases hb'; first | exact HC0.out _ (((Below.refl _ _).alloc HS0.out _).drew) j u hj | exact HC0.out _ (((Below.refl _ _).drew).alloc HS0.out _) j u hj) ⟨W0.heap.size, 0, none⟩ 2 2 [.int .u8 hi, .int .u8 lo] (by simp [Act.eval, Act.put]) rfl (fun j u hj => Laws.new_cells W0 [.int .u8 hi, .int .u8 lo] _ _ rfl j u hj) (fun u hu => by simp at hu; rcases hu with rfl | rfl <;> rfl) (by decide) (by decide) (by decide) ?_; intro v6 w6 ho6 hg6; obtain ⟨q6, c6, e6, hc6, hb6, hl6, hx6⟩ := Laws.own_cells ho6 (by decide); subst e6; have HB6 := Aside0.mk (show Below w.heap.size w w6 from HW.out.1.trans ((((Below.refl w.heap.size W0).alloc HW.out.1.size _).drew).grown hg6 (Nat.le_trans HW.out.1.size (by simp)) (fun k h => by cases h))); have HX6 := Aside0.mk (And.intro hl6 hx6); clear ho6 hg6 hc6 hb6 hl6 hx6)
      all_goals
        simp only [List.getElem_toArray, List.getElem_cons_succ, List.getElem_cons_zero, Act.put, Array.set!, List.setIfInBounds_toArray, List.set_cons_succ, List.set_cons_zero]
        go_wp2
        go_loopw [4, 27] (fun v i wr => ∃ k : Nat, k ≤ 6 ∧ i = .int .i64 k ∧ Aside0 (wr.ownsRow w6.heap.size 9 1 v k ((ds.take k).map fun x => str (digU x))) ∧ Aside0 (Below w6.heap.size w6 wr)) (fun _ i _ => 6 - (intOf i).toNat)
        case atStart => exact ⟨0, Nat.zero_le _, rfl, ⟨own_nil _ _ _ _⟩, ⟨Below.refl _ _⟩⟩
        case round =>
          obtain ⟨k, hk, rfl, HO, HB⟩ := hrel
          by_cases hlt : k < 6
          · have hkd : k < ds.length := by rw [HDS.out]; exact hlt
            obtain ⟨x, hx⟩ : ∃ x, x = ds[k] := ⟨_, rfl⟩
            have hx256 : x < 256 := by
              have hm : x ∈ ds := by rw [hx]; exact List.getElem_mem _
              rw [HDS.out] at hm
              have h1 := HABCD.out; have h2 := HN.out
              simp only [List.mem_cons, List.not_mem_nil, or_false] at hm
              rcases hm with rfl | rfl | rfl | rfl | rfl | rfl <;> omega
            have hcell : wr.cell? ⟨q6, k, none⟩ = some (.int .u8 x) := by
              rw [HB.out.cell HX6.out.1]
              have := HX6.out.2 k (.int .u8 x) (by
                have h3 : (ds.map fun n : Nat => Value.int .u8 (n : Int))[k]? = some (.int .u8 x) := by rw [List.getElem?_map, List.getElem?_eq_getElem hkd, ← hx]; rfl
                rw [HDS.out] at h3; exact h3)
              rwa [Nat.zero_add] at this
            have hcv : IntKind.i64.wrap (x : Int) = (x : Int) := by simp [IntKind.wrap, IntKind.bits, IntKind.signed]; omega
            have HV := Aside0.mk hx256
            have HNX := Aside0.mk (show (ds.take (k + 1)).map (fun x => str (digU x)) = (ds.take k).map (fun x => str (digU x)) ++ [str (digU x)] from by
              rw [List.take_succ_eq_append_getElem hkd, List.map_append, ← hx]; rfl)
            have HS := Aside0.mk HB.out.size
            clear hx hx256 hkd
            go_wp2_with (first
              | (go_at_call 38; refine (num_calls' x HV.out _).mono ?_; rintro e w1 ⟨rfl, hb1⟩; have HB1 := Aside0.mk (HB.out.trans (hb1.mono HS.out)); have HO1 := Aside0.mk (own_move HO.out (fun j hj => hb1.block j (own_lt HO.out j hj))); clear hb1)
              | ((with_reducible refine Laws.gate 36 rfl ?_); refine Laws.append_any rfl (.tmp 31) (.tmp 35) 24 rfl w6.heap.size 9 i0 (.string ⟨#[]⟩) 1 16 Tryd.underlying24 HI.out.1 HI.out.2.1 HI.out.2.2.1 HI.out.2.2.2 rfl (by decide) _ _ _ rfl (HO1.out.alloc _) (some ⟨w1.heap.size, 0, none⟩) 1 1 [str (digU x)] rfl rfl (fun _ => ⟨_, rfl, Laws.new_cells w1 _ _ _ rfl⟩) (fun u hu => by simp at hu; subst hu; rfl) (by simp only [maxLen]; omega) (by omega) (Nat.le_trans HB1.out.size (by simp)) ?_; intro v7 w7 ho7 hg7 _ _; have HO7 := Aside0.mk (show w7.ownsRow w6.heap.size 9 1 v7 (k + 1) ((ds.take (k + 1)).map fun x => str (digU x)) from by rw [HNX.out]; exact ho7); have HB7 := Aside0.mk (show Below w6.heap.size w6 w7 from ((HB1.out.alloc HB1.out.size _).grown hg7 (Nat.le_trans HB1.out.size (by simp)) (fun k h => Laws.own_ge HO1.out k h))); clear ho7 hg7))
            go_roundw
            case rel => exact ⟨k + 1, by omega, by go_num, HO7, HB7⟩
            case measure => simp [intOf]; omega
          · obtain rfl : k = 6 := by omega
            have hlast : (ds.take 6).map (fun x => str (digU x)) = ([digU a, digU b, digU c, digU d, digU hi, digU lo] : List (List UInt8)).map str := by rw [HDS.out]; rfl
            have hlies : Row.Lies wr w6.heap.size 9 u4 (([digU a, digU b, digU c, digU d, digU hi, digU lo] : List (List UInt8)).map str) := by
              have := HO.out; rw [hlast] at this; exact .inl this
            have htot : tot ([digU a, digU b, digU c, digU d, digU hi, digU lo] : List (List UInt8)) ≤ 100000000 := by
              have hll : ∀ n : Nat, n < 256 → (digU n).length ≤ 3 := fun n hn => by rw [digU_len]; exact dig_len 2 n (by omega)
              have h1 := HABCD.out; have h2 := HN.out
              have := hll a (by omega); have := hll b (by omega); have := hll c (by omega); have := hll d (by omega); have := hll hi (by omega); have := hll lo (by omega)
              simp only [tot]; omega
            have HJ := Aside0.mk (And.intro hlies htot)
            have HE := Aside0.mk (show Cut.jn 44 [digU a, digU b, digU c, digU d, digU hi, digU lo] = sixU a b c d n from by rw [sixU, ← HN.out.1, ← HN.out.2.1])
            clear hlies htot hlast
            go_wp2_with (go_at_call 39; refine (join_lies 44 _ _ _ _ HJ.out.1 HJ.out.2).mono ?_; rw [HE.out]; rintro e w8 ⟨rfl, hb8⟩; have HB8 := Aside0.mk ((HB6.out.trans (HB.out.mono HB6.out.size)).trans (hb8.mono (HB6.out.trans (HB.out.mono HB6.out.size)).size)); clear hb8)
            go_ret2
            exact ⟨by rw [HF.out]; rfl, HB8.out⟩
end Go.Proofs.YtdcbkeihgbekdaaDoor.Six

namespace Go.Proofs.YtdcbkeihgbekdaaDoor.Six
open Go Go.RowKit Go.Proofs.YtdcbkeihgbekdaaDoorW.PrintWords Go.Proofs.YtdcbkeihgbekdaaDoorW.PrintLast Go.Proofs.YtdcbkeihgbekdaaDoorW.PrintMore Go.Proofs.YtdcbkeihgbekdaaDoor.Dig Go.Proofs.YtdcbkeihgbekdaaDoor.Quad Go.Proofs.YtdcbkeihgbekdaaDoor.SixP
set_option linter.unusedVariables false
set_option linter.unusedSimpArgs false

/-- What Read hands back. -/
def readR : Option (Nat × Nat × Nat × Nat × Nat) → Value
  | some (a, b, c, d, p) => .tuple #[endV a b c d p, .bool true]
  | none => .tuple #[endV 0 0 0 0 0, .bool false]

set_option maxRecDepth 100000 in
theorem eq_end (a b c d p a' b' c' d' p' : Int) (W : World) : (Op.equalIn 10000 31 (.agg #[.int .u8 a, .int .u8 b, .int .u8 c, .int .u8 d, .int .i64 p]) (.agg #[.int .u8 a', .int .u8 b', .int .u8 c', .int .u8 d', .int .i64 p'])).run Tryd.prog W = .ok ((a == a' && (b == b' && (c == c' && d == d'))) && p == p') W :=
  eqA_of (d := 9999) Tryd.underlying31 (by kernel_rfl)
    (eqf_cons rfl (show _ = Result.ok (.agg #[.int .u8 a, .int .u8 b, .int .u8 c, .int .u8 d]) W from rfl) (show _ = Result.ok (.agg #[.int .u8 a', .int .u8 b', .int .u8 c', .int .u8 d']) W from rfl) (eq_host' 9997 a b c d a' b' c' d' W)
      (eqf_last rfl (show _ = Result.ok (.int .i64 p) W from rfl) (show _ = Result.ok (.int .i64 p') W from rfl) (run_equalIn_int W 9998 3 .i64 .i64 p p' Tryd.underlying3)))

theorem wraps_i64 (n : Int) (h₀ : 0 ≤ n) (h₁ : n < 2 ^ 31) : IntKind.i64.wrap n = n := by rw [IntKind.wrap_i64]; omega
theorem or8 (x y : Nat) (hx : x < 256) (hy : y < 256) : bits .or .i64 ((x : Int) * 256) (y : Int) = ((256 * x + y : Nat) : Int) := by
  have h := bits_join .i64 31 (by decide) wraps_i64 8 ((x : Int) * 256) (y : Int) (by omega) (by omega) (by omega) (by omega) (by omega) (by omega)
  rw [h]; omega
theorem or0 (y : Nat) (hy : y < 256) : bits .or .i64 0 (y : Int) = (y : Int) := by
  have := or8 0 y (by decide) hy
  simpa using this

theorem res_read (tmps : Array Value) (W : World) (H : Nat) (a b c d p : Int) (t : Bool) (h2 : tmps.getD 2 undef = .pointer (some ⟨H, 0, none⟩)) (h3 : tmps.getD 3 undef = .bool t) (hh : W.heap[H]? = some (.cells #[.int .u8 a, .int .u8 b, .int .u8 c, .int .u8 d, .int .i64 p] 31 (0, 0))) :
   (results Tryd.f15 tmps).run Tryd.prog W = .ok (.tuple #[.agg #[.int .u8 a, .int .u8 b, .int .u8 c, .int .u8 d, .int .i64 p], .bool t]) W := by
  have c0 : W.cell? ⟨H, 0, none⟩ = some (.int .u8 a) := (blk_cell hh 0).trans rfl
  have c1 : W.cell? ⟨H, 1, none⟩ = some (.int .u8 b) := (blk_cell hh 1).trans rfl
  have c2 : W.cell? ⟨H, 2, none⟩ = some (.int .u8 c) := (blk_cell hh 2).trans rfl
  have c3 : W.cell? ⟨H, 3, none⟩ = some (.int .u8 d) := (blk_cell hh 3).trans rfl
  have c4 : W.cell? ⟨H, 4, none⟩ = some (.int .i64 p) := (blk_cell hh 4).trans rfl
  rw [Array.getD_eq_getD_getElem?] at h2 h3
  simp [results, show Tryd.f15.results = #[.cell 2 31, .tmp 3] from rfl, h2, h3, go_sem, c0, c1, c2, c3, c4]

theorem six_none0 {p q r s t u : List UInt8} (h : get255 p = none) : six p q r s t u = none := by
  rw [six, h]; rfl
theorem six_none1 {p q r s t u : List UInt8} (h : get255 q = none) : six p q r s t u = none := by
  rw [six, h]; cases get255 p <;> rfl
theorem six_none2 {p q r s t u : List UInt8} (h : get255 r = none) : six p q r s t u = none := by
  rw [six, h]; cases get255 p <;> cases get255 q <;> rfl
theorem six_none3 {p q r s t u : List UInt8} (h : get255 s = none) : six p q r s t u = none := by
  rw [six, h]; cases get255 p <;> cases get255 q <;> cases get255 r <;> rfl
theorem six_none4 {p q r s t u : List UInt8} (h : get255 t = none) : six p q r s t u = none := by
  rw [six, h]; cases get255 p <;> cases get255 q <;> cases get255 r <;> cases get255 s <;> rfl
theorem six_none5 {p q r s t u : List UInt8} (h : get255 u = none) : six p q r s t u = none := by
  rw [six, h]; cases get255 p <;> cases get255 q <;> cases get255 r <;> cases get255 s <;> cases get255 t <;> rfl

set_option maxHeartbeats 4000000 in
set_option maxRecDepth 100000 in
theorem read_calls (s : ByteArray) (hs : s.size < 4294967281) (w : World) (hm : Mx w) :
    Calls Tryd.prog 15 #[.string s] w fun e w' => e = .returned (readR (readSix s.data.toList)) ∧ Below w.heap.size w w' := by
  obtain ⟨R, hR⟩ : ∃ R, R = readR (readSix s.data.toList) := ⟨_, rfl⟩
  rw [← hR]
  obtain ⟨ps, hps, hsp⟩ := split_calls 44 s hs
  have HSP := Aside0.mk hsp
  have HM := Aside0.mk hm
  have HRR := Aside0.mk hR
  clear hsp hm hR
  by_cases hl : ps.length = 6
  · obtain ⟨p0, p1, p2, p3, p4, p5, rfl⟩ : ∃ p0 p1 p2 p3 p4 p5, ps = [p0, p1, p2, p3, p4, p5] := by
      match ps, hl with
      | [p0, p1, p2, p3, p4, p5], _ => exact ⟨p0, p1, p2, p3, p4, p5, rfl⟩
    have HR := Aside0.mk (show R = readR (six p0.data.toList p1.data.toList p2.data.toList p3.data.toList p4.data.toList p5.data.toList) from by rw [HRR.out, readSix, ← hps]; rfl)
    clear hl
    have hpsx := Aside0.mk hps
    go_enter Tryd.func15, Tryd.ntmps15
    go_wp2
    go_step3
    go_wp2_with (go_at_call 28; refine (HSP.out _ (HM.out.below ((Below.refl _ _).alloc (Nat.le_refl _) _))).mono ?_; rintro e w1 ⟨rfl, rfl⟩)
    go_step3
    go_wp2
    go_loopw [18] (fun i wr => ∃ k : Nat, k ≤ 6 ∧ i = .int .i64 k ∧ ∃ vs : List Nat, vs.length = k ∧ Aside0 (([p0, p1, p2, p3, p4, p5].take k).map (fun p => get255 p.data.toList) = vs.map some) ∧
      Aside0 (wr.heap[w.heap.size]? = some (.cells (((vs.take 4).map (fun v => Value.int .u8 (v : Nat)) ++ List.replicate (4 - k) (Value.int .u8 0)) ++ [Value.int .i64 (match vs.drop 4 with | [] => (0 : Nat) | [e] => (e : Nat) | e :: f :: _ => (256 * e + f : Nat))]).toArray 31 (0, 0))) ∧
      Aside0 (wr.heap[w.heap.size + 1]? = some (.cells #[.string p0, .string p1, .string p2, .string p3, .string p4, .string p5] 9 (0, 0))) ∧ Aside0 (Below w.heap.size w wr)) (fun i _ => 6 - (intOf i).toNat)
    case atStart => exact ⟨0, Nat.zero_le _, rfl, [], rfl, ⟨rfl⟩, ⟨by have := blk_alloc (blk_new w (.cells #[.int .u8 0, .int .u8 0, .int .u8 0, .int .u8 0, .int .i64 0] 31)) (.cells ([p0, p1, p2, p3, p4, p5].map Value.string).toArray 9); exact this⟩, ⟨by have := blk_new (w.alloc (.cells #[.int .u8 0, .int .u8 0, .int .u8 0, .int .u8 0, .int .i64 0] 31)) (.cells ([p0, p1, p2, p3, p4, p5].map Value.string).toArray 9); simpa using this⟩, ⟨((Below.refl _ _).alloc (Nat.le_refl _) _).alloc (by simp) _⟩⟩
    case round =>
      obtain ⟨k, hk, rfl, vs, hvl, HV, HH, HG, HB⟩ := hrel
      obtain rfl | rfl | rfl | rfl | rfl | rfl | rfl : k = 0 ∨ k = 1 ∨ k = 2 ∨ k = 3 ∨ k = 4 ∨ k = 5 ∨ k = 6 := by omega
      · obtain rfl : vs = [] := by
          match vs, hvl with
          | [], _ => exact rfl
        have HH2 : Aside0 (wr.heap[w.heap.size]? = some (.cells #[.int .u8 0, .int .u8 0, .int .u8 0, .int .u8 0, .int .i64 0] 31 (0, 0))) := HH
        have f0 := blk_frozen HH2.out 0
        have c0 : wr.cell? ⟨w.heap.size, 0, none⟩ = some (.int .u8 0) := (blk_cell HH2.out 0).trans rfl
        have f1 := blk_frozen HH2.out 1
        have c1 : wr.cell? ⟨w.heap.size, 1, none⟩ = some (.int .u8 0) := (blk_cell HH2.out 1).trans rfl
        have f2 := blk_frozen HH2.out 2
        have c2 : wr.cell? ⟨w.heap.size, 2, none⟩ = some (.int .u8 0) := (blk_cell HH2.out 2).trans rfl
        have f3 := blk_frozen HH2.out 3
        have c3 : wr.cell? ⟨w.heap.size, 3, none⟩ = some (.int .u8 0) := (blk_cell HH2.out 3).trans rfl
        have f4 := blk_frozen HH2.out 4
        have c4 : wr.cell? ⟨w.heap.size, 4, none⟩ = some (.int .i64 0) := (blk_cell HH2.out 4).trans rfl
        have hc : wr.cell? ⟨w.heap.size + 1, 0, none⟩ = some (.string p0) := (blk_cell HG.out 0).trans rfl
        cases hg : get255 p0.data.toList with
        | none =>
          have hgg : get p0.data.toList 255 = (0, false) := by rw [get255_get, hg]
          have HF := Aside0.mk (show R = readR none from by rw [HR.out, six_none0 hg])
          clear hg hvl hk hps
          go_wp2_with (go_at_call 29; refine (get_calls _ _ _).mono ?_; rintro e w1 ⟨rfl, rfl⟩; rw [hgg])
          try rw [Exit.noGoto_ret]
          try simp only [Exit.inBlock, Exit.then]
          refine bodyPost_ret (res_read _ _ w.heap.size 0 0 0 0 0 false rfl rfl (blk_put (blk_put (blk_put (blk_put (blk_put HH2.out 0 _ rfl) 1 _ rfl) 2 _ rfl) 3 _ rfl) 4 _ rfl)) rfl ⟨?_, ?_⟩
          · first | (rw [HF.out]; rfl) | rfl
          · exact ((((HB.out.setCell (Nat.le_refl _) _).setCell (Nat.le_refl _) _).setCell (Nat.le_refl _) _).setCell (Nat.le_refl _) _).setCell (Nat.le_refl _) _
        | some n =>
          have hgg : get p0.data.toList 255 = ((n : Int), true) := by rw [get255_get, hg]
          have hn : n ≤ 255 := ((get255_iff _ _).1 hg).2
          have hcv : IntKind.u8.wrap (n : Int) = (n : Int) := by simp [IntKind.wrap, IntKind.bits, IntKind.signed]; omega
          have HGG := Aside0.mk hg
          clear hg hvl hk hps hn
          go_wp2_with (go_at_call 29; refine (get_calls _ _ _).mono ?_; rintro e w1 ⟨rfl, rfl⟩; rw [hgg])
          go_roundw
          case rel => exact ⟨0 + 1, by omega, by first | rfl | go_num, [] ++ [n], rfl, ⟨by have h := HV.out; have hg := HGG.out; simp only [List.take_succ_cons, List.take_zero, List.map_cons, List.map_nil, List.cons_append, List.nil_append, List.cons.injEq, and_true, true_and] at h ⊢; exact hg⟩, ⟨blk_put HH2.out 0 _ rfl⟩, ⟨blk_far HG.out (by simp) _⟩, ⟨HB.out.setCell (Nat.le_refl _) _⟩⟩
          case measure => simp [intOf]
      · obtain ⟨a, rfl⟩ : ∃ a, vs = [a] := by
          match vs, hvl with
          | [a], _ => exact ⟨a, rfl⟩
        have HH2 : Aside0 (wr.heap[w.heap.size]? = some (.cells #[.int .u8 (a : Nat), .int .u8 0, .int .u8 0, .int .u8 0, .int .i64 0] 31 (0, 0))) := HH
        have f0 := blk_frozen HH2.out 0
        have c0 : wr.cell? ⟨w.heap.size, 0, none⟩ = some (.int .u8 (a : Nat)) := (blk_cell HH2.out 0).trans rfl
        have f1 := blk_frozen HH2.out 1
        have c1 : wr.cell? ⟨w.heap.size, 1, none⟩ = some (.int .u8 0) := (blk_cell HH2.out 1).trans rfl
        have f2 := blk_frozen HH2.out 2
        have c2 : wr.cell? ⟨w.heap.size, 2, none⟩ = some (.int .u8 0) := (blk_cell HH2.out 2).trans rfl
        have f3 := blk_frozen HH2.out 3
        have c3 : wr.cell? ⟨w.heap.size, 3, none⟩ = some (.int .u8 0) := (blk_cell HH2.out 3).trans rfl
        have f4 := blk_frozen HH2.out 4
        have c4 : wr.cell? ⟨w.heap.size, 4, none⟩ = some (.int .i64 0) := (blk_cell HH2.out 4).trans rfl
        have hc : wr.cell? ⟨w.heap.size + 1, 1, none⟩ = some (.string p1) := (blk_cell HG.out 1).trans rfl
        cases hg : get255 p1.data.toList with
        | none =>
          have hgg : get p1.data.toList 255 = (0, false) := by rw [get255_get, hg]
          have HF := Aside0.mk (show R = readR none from by rw [HR.out, six_none1 hg])
          clear hg hvl hk hps
          go_wp2_with (go_at_call 29; refine (get_calls _ _ _).mono ?_; rintro e w1 ⟨rfl, rfl⟩; rw [hgg])
          try rw [Exit.noGoto_ret]
          try simp only [Exit.inBlock, Exit.then]
          refine bodyPost_ret (res_read _ _ w.heap.size 0 0 0 0 0 false rfl rfl (blk_put (blk_put (blk_put (blk_put (blk_put HH2.out 0 _ rfl) 1 _ rfl) 2 _ rfl) 3 _ rfl) 4 _ rfl)) rfl ⟨?_, ?_⟩
          · first | (rw [HF.out]; rfl) | rfl
          · exact ((((HB.out.setCell (Nat.le_refl _) _).setCell (Nat.le_refl _) _).setCell (Nat.le_refl _) _).setCell (Nat.le_refl _) _).setCell (Nat.le_refl _) _
        | some n =>
          have hgg : get p1.data.toList 255 = ((n : Int), true) := by rw [get255_get, hg]
          have hn : n ≤ 255 := ((get255_iff _ _).1 hg).2
          have hcv : IntKind.u8.wrap (n : Int) = (n : Int) := by simp [IntKind.wrap, IntKind.bits, IntKind.signed]; omega
          have HGG := Aside0.mk hg
          clear hg hvl hk hps hn
          go_wp2_with (go_at_call 29; refine (get_calls _ _ _).mono ?_; rintro e w1 ⟨rfl, rfl⟩; rw [hgg])
          go_roundw
          case rel => exact ⟨1 + 1, by omega, by first | rfl | go_num, [a] ++ [n], rfl, ⟨by have h := HV.out; have hg := HGG.out; simp only [List.take_succ_cons, List.take_zero, List.map_cons, List.map_nil, List.cons_append, List.nil_append, List.cons.injEq, and_true, true_and] at h ⊢; exact ⟨h, hg⟩⟩, ⟨blk_put HH2.out 1 _ rfl⟩, ⟨blk_far HG.out (by simp) _⟩, ⟨HB.out.setCell (Nat.le_refl _) _⟩⟩
          case measure => simp [intOf]
      · obtain ⟨a, b, rfl⟩ : ∃ a b, vs = [a, b] := by
          match vs, hvl with
          | [a, b], _ => exact ⟨a, b, rfl⟩
        have HH2 : Aside0 (wr.heap[w.heap.size]? = some (.cells #[.int .u8 (a : Nat), .int .u8 (b : Nat), .int .u8 0, .int .u8 0, .int .i64 0] 31 (0, 0))) := HH
        have f0 := blk_frozen HH2.out 0
        have c0 : wr.cell? ⟨w.heap.size, 0, none⟩ = some (.int .u8 (a : Nat)) := (blk_cell HH2.out 0).trans rfl
        have f1 := blk_frozen HH2.out 1
        have c1 : wr.cell? ⟨w.heap.size, 1, none⟩ = some (.int .u8 (b : Nat)) := (blk_cell HH2.out 1).trans rfl
        have f2 := blk_frozen HH2.out 2
        have c2 : wr.cell? ⟨w.heap.size, 2, none⟩ = some (.int .u8 0) := (blk_cell HH2.out 2).trans rfl
        have f3 := blk_frozen HH2.out 3
        have c3 : wr.cell? ⟨w.heap.size, 3, none⟩ = some (.int .u8 0) := (blk_cell HH2.out 3).trans rfl
        have f4 := blk_frozen HH2.out 4
        have c4 : wr.cell? ⟨w.heap.size, 4, none⟩ = some (.int .i64 0) := (blk_cell HH2.out 4).trans rfl
        have hc : wr.cell? ⟨w.heap.size + 1, 2, none⟩ = some (.string p2) := (blk_cell HG.out 2).trans rfl
        cases hg : get255 p2.data.toList with
        | none =>
          have hgg : get p2.data.toList 255 = (0, false) := by rw [get255_get, hg]
          have HF := Aside0.mk (show R = readR none from by rw [HR.out, six_none2 hg])
          clear hg hvl hk hps
          go_wp2_with (go_at_call 29; refine (get_calls _ _ _).mono ?_; rintro e w1 ⟨rfl, rfl⟩; rw [hgg])
          try rw [Exit.noGoto_ret]
          try simp only [Exit.inBlock, Exit.then]
          refine bodyPost_ret (res_read _ _ w.heap.size 0 0 0 0 0 false rfl rfl (blk_put (blk_put (blk_put (blk_put (blk_put HH2.out 0 _ rfl) 1 _ rfl) 2 _ rfl) 3 _ rfl) 4 _ rfl)) rfl ⟨?_, ?_⟩
          · first | (rw [HF.out]; rfl) | rfl
          · exact ((((HB.out.setCell (Nat.le_refl _) _).setCell (Nat.le_refl _) _).setCell (Nat.le_refl _) _).setCell (Nat.le_refl _) _).setCell (Nat.le_refl _) _
        | some n =>
          have hgg : get p2.data.toList 255 = ((n : Int), true) := by rw [get255_get, hg]
          have hn : n ≤ 255 := ((get255_iff _ _).1 hg).2
          have hcv : IntKind.u8.wrap (n : Int) = (n : Int) := by simp [IntKind.wrap, IntKind.bits, IntKind.signed]; omega
          have HGG := Aside0.mk hg
          clear hg hvl hk hps hn
          go_wp2_with (go_at_call 29; refine (get_calls _ _ _).mono ?_; rintro e w1 ⟨rfl, rfl⟩; rw [hgg])
          go_roundw
          case rel => exact ⟨2 + 1, by omega, by first | rfl | go_num, [a, b] ++ [n], rfl, ⟨by have h := HV.out; have hg := HGG.out; simp only [List.take_succ_cons, List.take_zero, List.map_cons, List.map_nil, List.cons_append, List.nil_append, List.cons.injEq, and_true, true_and] at h ⊢; exact ⟨h.1, h.2, hg⟩⟩, ⟨blk_put HH2.out 2 _ rfl⟩, ⟨blk_far HG.out (by simp) _⟩, ⟨HB.out.setCell (Nat.le_refl _) _⟩⟩
          case measure => simp [intOf]
      · obtain ⟨a, b, c, rfl⟩ : ∃ a b c, vs = [a, b, c] := by
          match vs, hvl with
          | [a, b, c], _ => exact ⟨a, b, c, rfl⟩
        have HH2 : Aside0 (wr.heap[w.heap.size]? = some (.cells #[.int .u8 (a : Nat), .int .u8 (b : Nat), .int .u8 (c : Nat), .int .u8 0, .int .i64 0] 31 (0, 0))) := HH
        have f0 := blk_frozen HH2.out 0
        have c0 : wr.cell? ⟨w.heap.size, 0, none⟩ = some (.int .u8 (a : Nat)) := (blk_cell HH2.out 0).trans rfl
        have f1 := blk_frozen HH2.out 1
        have c1 : wr.cell? ⟨w.heap.size, 1, none⟩ = some (.int .u8 (b : Nat)) := (blk_cell HH2.out 1).trans rfl
        have f2 := blk_frozen HH2.out 2
        have c2 : wr.cell? ⟨w.heap.size, 2, none⟩ = some (.int .u8 (c : Nat)) := (blk_cell HH2.out 2).trans rfl
        have f3 := blk_frozen HH2.out 3
        have c3 : wr.cell? ⟨w.heap.size, 3, none⟩ = some (.int .u8 0) := (blk_cell HH2.out 3).trans rfl
        have f4 := blk_frozen HH2.out 4
        have c4 : wr.cell? ⟨w.heap.size, 4, none⟩ = some (.int .i64 0) := (blk_cell HH2.out 4).trans rfl
        have hc : wr.cell? ⟨w.heap.size + 1, 3, none⟩ = some (.string p3) := (blk_cell HG.out 3).trans rfl
        cases hg : get255 p3.data.toList with
        | none =>
          have hgg : get p3.data.toList 255 = (0, false) := by rw [get255_get, hg]
          have HF := Aside0.mk (show R = readR none from by rw [HR.out, six_none3 hg])
          clear hg hvl hk hps
          go_wp2_with (go_at_call 29; refine (get_calls _ _ _).mono ?_; rintro e w1 ⟨rfl, rfl⟩; rw [hgg])
          try rw [Exit.noGoto_ret]
          try simp only [Exit.inBlock, Exit.then]
          refine bodyPost_ret (res_read _ _ w.heap.size 0 0 0 0 0 false rfl rfl (blk_put (blk_put (blk_put (blk_put (blk_put HH2.out 0 _ rfl) 1 _ rfl) 2 _ rfl) 3 _ rfl) 4 _ rfl)) rfl ⟨?_, ?_⟩
          · first | (rw [HF.out]; rfl) | rfl
          · exact ((((HB.out.setCell (Nat.le_refl _) _).setCell (Nat.le_refl _) _).setCell (Nat.le_refl _) _).setCell (Nat.le_refl _) _).setCell (Nat.le_refl _) _
        | some n =>
          have hgg : get p3.data.toList 255 = ((n : Int), true) := by rw [get255_get, hg]
          have hn : n ≤ 255 := ((get255_iff _ _).1 hg).2
          have hcv : IntKind.u8.wrap (n : Int) = (n : Int) := by simp [IntKind.wrap, IntKind.bits, IntKind.signed]; omega
          have HGG := Aside0.mk hg
          clear hg hvl hk hps hn
          go_wp2_with (go_at_call 29; refine (get_calls _ _ _).mono ?_; rintro e w1 ⟨rfl, rfl⟩; rw [hgg])
          go_roundw
          case rel => exact ⟨3 + 1, by omega, by first | rfl | go_num, [a, b, c] ++ [n], rfl, ⟨by have h := HV.out; have hg := HGG.out; simp only [List.take_succ_cons, List.take_zero, List.map_cons, List.map_nil, List.cons_append, List.nil_append, List.cons.injEq, and_true, true_and] at h ⊢; exact ⟨h.1, h.2.1, h.2.2, hg⟩⟩, ⟨blk_put HH2.out 3 _ rfl⟩, ⟨blk_far HG.out (by simp) _⟩, ⟨HB.out.setCell (Nat.le_refl _) _⟩⟩
          case measure => simp [intOf]
      · obtain ⟨a, b, c, d, rfl⟩ : ∃ a b c d, vs = [a, b, c, d] := by
          match vs, hvl with
          | [a, b, c, d], _ => exact ⟨a, b, c, d, rfl⟩
        have HH2 : Aside0 (wr.heap[w.heap.size]? = some (.cells #[.int .u8 (a : Nat), .int .u8 (b : Nat), .int .u8 (c : Nat), .int .u8 (d : Nat), .int .i64 0] 31 (0, 0))) := HH
        have f0 := blk_frozen HH2.out 0
        have c0 : wr.cell? ⟨w.heap.size, 0, none⟩ = some (.int .u8 (a : Nat)) := (blk_cell HH2.out 0).trans rfl
        have f1 := blk_frozen HH2.out 1
        have c1 : wr.cell? ⟨w.heap.size, 1, none⟩ = some (.int .u8 (b : Nat)) := (blk_cell HH2.out 1).trans rfl
        have f2 := blk_frozen HH2.out 2
        have c2 : wr.cell? ⟨w.heap.size, 2, none⟩ = some (.int .u8 (c : Nat)) := (blk_cell HH2.out 2).trans rfl
        have f3 := blk_frozen HH2.out 3
        have c3 : wr.cell? ⟨w.heap.size, 3, none⟩ = some (.int .u8 (d : Nat)) := (blk_cell HH2.out 3).trans rfl
        have f4 := blk_frozen HH2.out 4
        have c4 : wr.cell? ⟨w.heap.size, 4, none⟩ = some (.int .i64 0) := (blk_cell HH2.out 4).trans rfl
        have hc : wr.cell? ⟨w.heap.size + 1, 4, none⟩ = some (.string p4) := (blk_cell HG.out 4).trans rfl
        cases hg : get255 p4.data.toList with
        | none =>
          have hgg : get p4.data.toList 255 = (0, false) := by rw [get255_get, hg]
          have HF := Aside0.mk (show R = readR none from by rw [HR.out, six_none4 hg])
          clear hg hvl hk hps
          go_wp2_with (go_at_call 29; refine (get_calls _ _ _).mono ?_; rintro e w1 ⟨rfl, rfl⟩; rw [hgg])
          try rw [Exit.noGoto_ret]
          try simp only [Exit.inBlock, Exit.then]
          refine bodyPost_ret (res_read _ _ w.heap.size 0 0 0 0 0 false rfl rfl (blk_put (blk_put (blk_put (blk_put (blk_put HH2.out 0 _ rfl) 1 _ rfl) 2 _ rfl) 3 _ rfl) 4 _ rfl)) rfl ⟨?_, ?_⟩
          · first | (rw [HF.out]; rfl) | rfl
          · exact ((((HB.out.setCell (Nat.le_refl _) _).setCell (Nat.le_refl _) _).setCell (Nat.le_refl _) _).setCell (Nat.le_refl _) _).setCell (Nat.le_refl _) _
        | some n =>
          have hgg : get p4.data.toList 255 = ((n : Int), true) := by rw [get255_get, hg]
          have hn : n ≤ 255 := ((get255_iff _ _).1 hg).2
          have hcv : IntKind.u8.wrap (n : Int) = (n : Int) := by simp [IntKind.wrap, IntKind.bits, IntKind.signed]; omega
          have HGG := Aside0.mk hg
          have hor := or0 n (by omega)
          clear hg hvl hk hps hn
          go_wp2_with (go_at_call 29; refine (get_calls _ _ _).mono ?_; rintro e w1 ⟨rfl, rfl⟩; rw [hgg])
          go_roundw
          case rel => exact ⟨4 + 1, by omega, by first | rfl | go_num, [a, b, c, d] ++ [n], rfl, ⟨by have h := HV.out; have hg := HGG.out; simp only [List.take_succ_cons, List.take_zero, List.map_cons, List.map_nil, List.cons_append, List.nil_append, List.cons.injEq, and_true, true_and] at h ⊢; exact ⟨h.1, h.2.1, h.2.2.1, h.2.2.2, hg⟩⟩, ⟨blk_put HH2.out 4 _ rfl⟩, ⟨blk_far HG.out (by simp) _⟩, ⟨HB.out.setCell (Nat.le_refl _) _⟩⟩
          case measure => simp [intOf]
      · obtain ⟨a, b, c, d, e, rfl⟩ : ∃ a b c d e, vs = [a, b, c, d, e] := by
          match vs, hvl with
          | [a, b, c, d, e], _ => exact ⟨a, b, c, d, e, rfl⟩
        have HH2 : Aside0 (wr.heap[w.heap.size]? = some (.cells #[.int .u8 (a : Nat), .int .u8 (b : Nat), .int .u8 (c : Nat), .int .u8 (d : Nat), .int .i64 (e : Nat)] 31 (0, 0))) := HH
        have f0 := blk_frozen HH2.out 0
        have c0 : wr.cell? ⟨w.heap.size, 0, none⟩ = some (.int .u8 (a : Nat)) := (blk_cell HH2.out 0).trans rfl
        have f1 := blk_frozen HH2.out 1
        have c1 : wr.cell? ⟨w.heap.size, 1, none⟩ = some (.int .u8 (b : Nat)) := (blk_cell HH2.out 1).trans rfl
        have f2 := blk_frozen HH2.out 2
        have c2 : wr.cell? ⟨w.heap.size, 2, none⟩ = some (.int .u8 (c : Nat)) := (blk_cell HH2.out 2).trans rfl
        have f3 := blk_frozen HH2.out 3
        have c3 : wr.cell? ⟨w.heap.size, 3, none⟩ = some (.int .u8 (d : Nat)) := (blk_cell HH2.out 3).trans rfl
        have f4 := blk_frozen HH2.out 4
        have c4 : wr.cell? ⟨w.heap.size, 4, none⟩ = some (.int .i64 (e : Nat)) := (blk_cell HH2.out 4).trans rfl
        have hc : wr.cell? ⟨w.heap.size + 1, 5, none⟩ = some (.string p5) := (blk_cell HG.out 5).trans rfl
        cases hg : get255 p5.data.toList with
        | none =>
          have hgg : get p5.data.toList 255 = (0, false) := by rw [get255_get, hg]
          have HF := Aside0.mk (show R = readR none from by rw [HR.out, six_none5 hg])
          clear hg hvl hk hps
          go_wp2_with (go_at_call 29; refine (get_calls _ _ _).mono ?_; rintro e w1 ⟨rfl, rfl⟩; rw [hgg])
          try rw [Exit.noGoto_ret]
          try simp only [Exit.inBlock, Exit.then]
          refine bodyPost_ret (res_read _ _ w.heap.size 0 0 0 0 0 false rfl rfl (blk_put (blk_put (blk_put (blk_put (blk_put HH2.out 0 _ rfl) 1 _ rfl) 2 _ rfl) 3 _ rfl) 4 _ rfl)) rfl ⟨?_, ?_⟩
          · first | (rw [HF.out]; rfl) | rfl
          · exact ((((HB.out.setCell (Nat.le_refl _) _).setCell (Nat.le_refl _) _).setCell (Nat.le_refl _) _).setCell (Nat.le_refl _) _).setCell (Nat.le_refl _) _
        | some n =>
          have hgg : get p5.data.toList 255 = ((n : Int), true) := by rw [get255_get, hg]
          have hn : n ≤ 255 := ((get255_iff _ _).1 hg).2
          have hcv : IntKind.u8.wrap (n : Int) = (n : Int) := by simp [IntKind.wrap, IntKind.bits, IntKind.signed]; omega
          have HGG := Aside0.mk hg
          have he256 : e < 256 := by have h := HV.out; simp only [List.take_succ_cons, List.take_zero, List.map_cons, List.map_nil, List.cons.injEq, and_true] at h; have := ((get255_iff _ _).1 h.2.2.2.2).2; omega
          obtain ⟨q, hq⟩ : ∃ q : Nat, q = 256 * e + n := ⟨_, rfl⟩
          have hor : bits .or .i64 ((e : Int) * 256) (n : Int) = (q : Int) := by rw [hq]; exact or8 e n he256 (by omega)
          have HQ := Aside0.mk hq
          have hw8 : wrap64 ((e : Int) * 256) = (e : Int) * 256 := by unfold wrap64; omega
          clear he256 hq
          clear hg hvl hk hps hn
          go_wp2_with (go_at_call 29; refine (get_calls _ _ _).mono ?_; rintro e w1 ⟨rfl, rfl⟩; rw [hgg])
          go_roundw
          case rel => exact ⟨5 + 1, by omega, by first | rfl | go_num, [a, b, c, d, e] ++ [n], rfl, ⟨by have h := HV.out; have hg := HGG.out; simp only [List.take_succ_cons, List.take_zero, List.map_cons, List.map_nil, List.cons_append, List.nil_append, List.cons.injEq, and_true, true_and] at h ⊢; exact ⟨h.1, h.2.1, h.2.2.1, h.2.2.2.1, h.2.2.2.2, hg⟩⟩, ⟨by have h9 := blk_put HH2.out 4 (Value.int .i64 (q : Int)) rfl; rw [HQ.out] at h9 ⊢; exact h9⟩, ⟨blk_far HG.out (by simp) _⟩, ⟨HB.out.setCell (Nat.le_refl _) _⟩⟩
          case measure => simp [intOf]
      · obtain ⟨a, b, c, d, e, f, rfl⟩ : ∃ a b c d e f, vs = [a, b, c, d, e, f] := by
          match vs, hvl with
          | [a, b, c, d, e, f], _ => exact ⟨a, b, c, d, e, f, rfl⟩
        obtain ⟨q, hq⟩ : ∃ q : Nat, q = 256 * e + f := ⟨_, rfl⟩
        have HH2 : Aside0 (wr.heap[w.heap.size]? = some (.cells #[.int .u8 (a : Nat), .int .u8 (b : Nat), .int .u8 (c : Nat), .int .u8 (d : Nat), .int .i64 (q : Nat)] 31 (0, 0))) := by rw [hq]; exact HH
        have hsix : readSix s.data.toList = some (a, b, c, d, q) := by
          have := HV.out
          simp only [List.take_succ_cons, List.take_zero, List.map_cons, List.map_nil, List.cons.injEq, and_true] at this
          rw [readSix, ← hpsx.out]
          show six _ _ _ _ _ _ = _
          rw [six, this.1, this.2.1, this.2.2.1, this.2.2.2.1, this.2.2.2.2.1, this.2.2.2.2.2, hq]; rfl
        have hiff := (readSix_iff _ _ _ _ _ _).1 hsix
        have HF := Aside0.mk (show R = readR (some (a, b, c, d, q)) from by rw [HRR.out, hsix])
        have HT := Aside0.mk (show a < 256 ∧ b < 256 ∧ c < 256 ∧ d < 256 ∧ textR a b c d q = .tuple #[.string s, .bool true] from by
          refine ⟨by omega, by omega, by omega, by omega, ?_⟩
          rw [textR, if_neg (by omega), show ((q : Int)).toNat = q from rfl, ← hiff.1]; rfl)
        have hq2 : ∀ W, (Op.equalIn 10000 31 (.agg #[.int .u8 (a : Nat), .int .u8 (b : Nat), .int .u8 (c : Nat), .int .u8 (d : Nat), .int .i64 (q : Nat)]) (.agg #[.int .u8 (a : Nat), .int .u8 (b : Nat), .int .u8 (c : Nat), .int .u8 (d : Nat), .int .i64 (q : Nat)])).run Tryd.prog W = .ok true W := fun W => by rw [eq_end]; simp
        clear hps hvl hk hsix hiff hq HH
        have c0 : wr.cell? ⟨w.heap.size, 0, none⟩ = some (.int .u8 (a : Nat)) := (blk_cell HH2.out 0).trans rfl
        have c1 : wr.cell? ⟨w.heap.size, 1, none⟩ = some (.int .u8 (b : Nat)) := (blk_cell HH2.out 1).trans rfl
        have c2 : wr.cell? ⟨w.heap.size, 2, none⟩ = some (.int .u8 (c : Nat)) := (blk_cell HH2.out 2).trans rfl
        have c3 : wr.cell? ⟨w.heap.size, 3, none⟩ = some (.int .u8 (d : Nat)) := (blk_cell HH2.out 3).trans rfl
        have c4 : wr.cell? ⟨w.heap.size, 4, none⟩ = some (.int .i64 (q : Nat)) := (blk_cell HH2.out 4).trans rfl
        go_wp2_with (go_at_call 21; refine (text_calls a b c d q HT.out.1 HT.out.2.1 HT.out.2.2.1 HT.out.2.2.2.1 _).mono ?_; rw [HT.out.2.2.2.2]; rintro e' w7 ⟨rfl, hb7⟩; have HB7 := Aside0.mk (HB.out.trans (hb7.mono HB.out.size)); have HH7 := Aside0.mk (blk_below HH2.out hb7); clear hb7)
        clear c0 c1 c2 c3 c4
        have f0 := blk_frozen HH7.out 0
        have f1 := blk_frozen HH7.out 1
        have f2 := blk_frozen HH7.out 2
        have f3 := blk_frozen HH7.out 3
        have f4 := blk_frozen HH7.out 4
        have c0 : w7.cell? ⟨w.heap.size, 0, none⟩ = some (.int .u8 (a : Nat)) := (blk_cell HH7.out 0).trans rfl
        have c1 : w7.cell? ⟨w.heap.size, 1, none⟩ = some (.int .u8 (b : Nat)) := (blk_cell HH7.out 1).trans rfl
        have c2 : w7.cell? ⟨w.heap.size, 2, none⟩ = some (.int .u8 (c : Nat)) := (blk_cell HH7.out 2).trans rfl
        have c3 : w7.cell? ⟨w.heap.size, 3, none⟩ = some (.int .u8 (d : Nat)) := (blk_cell HH7.out 3).trans rfl
        have c4 : w7.cell? ⟨w.heap.size, 4, none⟩ = some (.int .i64 (q : Nat)) := (blk_cell HH7.out 4).trans rfl
        go_region
        all_goals
          go_wp2
          try rw [Exit.noGoto_ret]
          try simp only [Exit.inBlock, Exit.then]
          refine bodyPost_ret (res_read _ _ w.heap.size a b c d q true rfl rfl (blk_drew (blk_put (blk_put (blk_put (blk_put (blk_put HH7.out 0 _ rfl) 1 _ rfl) 2 _ rfl) 3 _ rfl) 4 _ rfl))) rfl ⟨?_, ?_⟩
          · first | (rw [HF.out]; rfl) | rfl
          · exact (((((HB7.out.setCell (Nat.le_refl _) _).setCell (Nat.le_refl _) _).setCell (Nat.le_refl _) _).setCell (Nat.le_refl _) _).setCell (Nat.le_refl _) _).drew
  · have hl2 : ((ps.length : Int) != 6) = true := by simp; omega
    have HF := Aside0.mk (show R = readR none from by
      rw [HRR.out, readSix, ← hps]
      split
      · rename_i p0 p1 p2 p3 p4 p5 h
        have := congrArg List.length h
        simp at this; omega
      · rfl)
    clear hl
    go_enter Tryd.func15, Tryd.ntmps15
    go_wp2
    go_step3
    go_wp2_with (go_at_call 28; refine (HSP.out _ (HM.out.below ((Below.refl _ _).alloc (Nat.le_refl _) _))).mono ?_; rintro e w1 ⟨rfl, rfl⟩)
    try rw [Exit.noGoto_ret]
    try simp only [Exit.inBlock, Exit.then]
    refine bodyPost_ret (res_read _ _ w.heap.size 0 0 0 0 0 false rfl rfl (by have := blk_alloc (blk_new w (.cells #[.int .u8 0, .int .u8 0, .int .u8 0, .int .u8 0, .int .i64 0] 31)) (.cells (ps.map Value.string).toArray 9); exact this)) rfl ⟨?_, ?_⟩
    · first | (rw [HF.out]; rfl) | rfl
    · exact ((Below.refl _ _).alloc (Nat.le_refl _) _).alloc (by simp) _
end Go.Proofs.YtdcbkeihgbekdaaDoor.Six

namespace Go.Proofs.YtdcbkeihgbekdaaDoor.Six
open Go Go.RowKit Go.Proofs.YtdcbkeihgbekdaaDoorW.PrintWords Go.Proofs.YtdcbkeihgbekdaaDoorW.PrintLast Go.Proofs.YtdcbkeihgbekdaaDoorW.PrintMore Go.Proofs.YtdcbkeihgbekdaaDoor.Dig Go.Proofs.YtdcbkeihgbekdaaDoor.Quad Go.Proofs.YtdcbkeihgbekdaaDoor.SixP
set_option linter.unusedVariables false
set_option linter.unusedSimpArgs false

end Go.Proofs.YtdcbkeihgbekdaaDoor.Six

namespace Go.Proofs.YtdcbkeihgbekdaaDoor.Six
open Go Go.RowKit Go.Proofs.YtdcbkeihgbekdaaDoorW.PrintWords Go.Proofs.YtdcbkeihgbekdaaDoorW.PrintLast Go.Proofs.YtdcbkeihgbekdaaDoorW.PrintMore Go.Proofs.YtdcbkeihgbekdaaDoor.Dig Go.Proofs.YtdcbkeihgbekdaaDoor.Quad Go.Proofs.YtdcbkeihgbekdaaDoor.SixP
set_option linter.unusedVariables false
set_option linter.unusedSimpArgs false

theorem res_find (tmps : Array Value) (W : World) (H : Nat) (a b c d p : Int) (t : Bool) (h2 : tmps.getD 2 undef = .pointer (some ⟨H, 0, none⟩)) (h3 : tmps.getD 3 undef = .bool t) (hh : W.heap[H]? = some (.cells #[.int .u8 a, .int .u8 b, .int .u8 c, .int .u8 d, .int .i64 p] 31 (0, 0))) :
   (results Tryd.f19 tmps).run Tryd.prog W = .ok (.tuple #[.agg #[.int .u8 a, .int .u8 b, .int .u8 c, .int .u8 d, .int .i64 p], .bool t]) W := by
  have c0 : W.cell? ⟨H, 0, none⟩ = some (.int .u8 a) := (blk_cell hh 0).trans rfl
  have c1 : W.cell? ⟨H, 1, none⟩ = some (.int .u8 b) := (blk_cell hh 1).trans rfl
  have c2 : W.cell? ⟨H, 2, none⟩ = some (.int .u8 c) := (blk_cell hh 2).trans rfl
  have c3 : W.cell? ⟨H, 3, none⟩ = some (.int .u8 d) := (blk_cell hh 3).trans rfl
  have c4 : W.cell? ⟨H, 4, none⟩ = some (.int .i64 p) := (blk_cell hh 4).trans rfl
  rw [Array.getD_eq_getD_getElem?] at h2 h3
  simp [results, show Tryd.f19.results = #[.cell 2 31, .tmp 3] from rfl, h2, h3, go_sem, c0, c1, c2, c3, c4]
/-- strings.Cut by one byte, as it is met. -/
theorem cut_calls (c : UInt8) (s x y : ByteArray) (t : Bool) (hs : s.size < 4294967281) (h : Lib.cut s.data.toList [c] = (x.data.toList, y.data.toList, t)) (w0 w : World) (hm : Mx w0) (hb : Below w0.heap.size w0 w) :
    Calls Tryd.prog 33 #[.string s, .string ⟨#[c]⟩] w fun e w' => e = .returned (.tuple #[.string x, .string y, .bool t]) ∧ Below w.heap.size w w' := by
  obtain ⟨m, hm⟩ := hm.below hb
  refine (Tryd.strings_Cut s ⟨#[c]⟩ m w hs hm).mono ?_
  rintro e w' ⟨he, n, rfl⟩
  rw [show (ByteArray.mk #[c]).data.toList = [c] from rfl, h] at he
  exact ⟨he, below_drewN (Below.refl _ _) n⟩
def CutIs (c : UInt8) (s x y : ByteArray) (t : Bool) : Prop := s.size < 4294967281 ∧ Lib.cut s.data.toList [c] = (x.data.toList, y.data.toList, t)
theorem CutIs.calls {c : UInt8} {s x y : ByteArray} {t : Bool} (h : CutIs c s x y t) {w0 w : World} (hm : Mx w0) (hb : Below w0.heap.size w0 w) :
    Calls Tryd.prog 33 #[.string s, .string ⟨#[c]⟩] w fun e w' => e = .returned (.tuple #[.string x, .string y, .bool t]) ∧ Below w.heap.size w w' := cut_calls c s x y t h.1 h.2 w0 w hm hb
def zeroE : Value := .agg #[.int .u8 0, .int .u8 0, .int .u8 0, .int .u8 0, .int .i64 0]
/-- What Read hands back, taken apart. -/
theorem readR_form (o : Option (Nat × Nat × Nat × Nat × Nat)) : ∃ (a b c d : Nat) (p : Nat) (t : Bool), readR o = .tuple #[.agg #[.int .u8 a, .int .u8 b, .int .u8 c, .int .u8 d, .int .i64 p], .bool t] := by
  cases o with
  | none => exact ⟨0, 0, 0, 0, 0, false, rfl⟩
  | some x => obtain ⟨a, b, c, d, p⟩ := x; exact ⟨a, b, c, d, p, true, rfl⟩

set_option maxHeartbeats 2000000 in
set_option maxRecDepth 100000 in
theorem find_calls (s : ByteArray) (hs : s.size ≤ 1000000) (w : World) (hm : Mx w) :
    Calls Tryd.prog 19 #[.string s] w fun e w' => e = .returned (readR (find s.data.toList)) ∧ Below w.heap.size w w' := by
  have HM := Aside0.mk hm
  have HB := Aside0.mk (show Below w.heap.size w (w.alloc (.cells #[.int .u8 0, .int .u8 0, .int .u8 0, .int .u8 0, .int .i64 0] 31)) from (Below.refl _ _).alloc (Nat.le_refl _) _)
  have HZ := Aside0.mk (show (w.alloc (.cells #[.int .u8 0, .int .u8 0, .int .u8 0, .int .u8 0, .int .i64 0] 31)).heap[w.heap.size]? = some (.cells #[.int .u8 0, .int .u8 0, .int .u8 0, .int .u8 0, .int .i64 0] 31 (0, 0)) from blk_new _ _)
  have hl := data_length s
  cases h1 : cut1 40 s.data.toList with
  | none =>
    have HC1 := Aside0.mk (show CutIs 40 s s ⟨#[]⟩ false from ⟨by omega, by rw [lib_cut, h1]⟩)
    have HC2 := Aside0.mk (show CutIs 41 ⟨#[]⟩ ⟨#[]⟩ ⟨#[]⟩ false from ⟨by decide, by decide⟩)
    have HF := Aside0.mk (show readR (find s.data.toList) = readR none from by rw [find, h1]; rfl)
    clear h1 hl hm
    go_enter Tryd.func19, Tryd.ntmps19
    go_wp2_with (first
      | (go_at_call 33; with_reducible refine (HC1.out.calls HM.out HB.out).mono ?_; rintro e w1 ⟨rfl, hb⟩; replace HB := Aside0.mk (HB.out.trans (hb.mono HB.out.size)); replace HZ := Aside0.mk (blk_below HZ.out hb); clear hb)
      | (go_at_call 33; with_reducible refine (HC2.out.calls HM.out HB.out).mono ?_; rintro e w2 ⟨rfl, hb⟩; replace HB := Aside0.mk (HB.out.trans (hb.mono HB.out.size)); replace HZ := Aside0.mk (blk_below HZ.out hb); clear hb; have zf0 := blk_frozen HZ.out 0; have zc0 : w2.cell? ⟨w.heap.size, 0, none⟩ = some (.int .u8 0) := (blk_cell HZ.out 0).trans rfl; have zf1 := blk_frozen HZ.out 1; have zc1 : w2.cell? ⟨w.heap.size, 1, none⟩ = some (.int .u8 0) := (blk_cell HZ.out 1).trans rfl; have zf2 := blk_frozen HZ.out 2; have zc2 : w2.cell? ⟨w.heap.size, 2, none⟩ = some (.int .u8 0) := (blk_cell HZ.out 2).trans rfl; have zf3 := blk_frozen HZ.out 3; have zc3 : w2.cell? ⟨w.heap.size, 3, none⟩ = some (.int .u8 0) := (blk_cell HZ.out 3).trans rfl; have zf4 := blk_frozen HZ.out 4; have zc4 : w2.cell? ⟨w.heap.size, 4, none⟩ = some (.int .i64 0) := (blk_cell HZ.out 4).trans rfl; have tok := trivial))
    try simp only [Exit.inBlock, Exit.then]
    refine bodyPost_ret (res_find _ _ w.heap.size 0 0 0 0 0 false rfl rfl (blk_put (blk_put (blk_put (blk_put (blk_put HZ.out 0 _ rfl) 1 _ rfl) 2 _ rfl) 3 _ rfl) 4 _ rfl)) rfl ⟨?_, ?_⟩
    · first | (rw [HF.out]; rfl) | (rw [HF.out]) | rfl
    · exact ((((HB.out.setCell (Nat.le_refl _) _).setCell (Nat.le_refl _) _).setCell (Nat.le_refl _) _).setCell (Nat.le_refl _) _).setCell (Nat.le_refl _) _
  | some xr =>
    obtain ⟨a, r⟩ := xr
    have hi := (cut1_is h1).1
    have hrl : r.length ≤ s.data.toList.length := by rw [hi]; simp; omega
    cases h2 : cut1 41 r with
    | none =>
      have HC1 := Aside0.mk (show CutIs 40 s ⟨a.toArray⟩ ⟨r.toArray⟩ true from ⟨by omega, by rw [lib_cut, h1]⟩)
      have HC2 := Aside0.mk (show CutIs 41 ⟨r.toArray⟩ ⟨r.toArray⟩ ⟨#[]⟩ false from ⟨by rw [← data_length]; show r.length < _; omega, by rw [lib_cut]; show (match cut1 41 r with | some (a, b) => (a, b, true) | none => (r, [], false)) = _; rw [h2]⟩)
      have HF := Aside0.mk (show readR (find s.data.toList) = readR none from by rw [find, h1]; show readR ((cut1 41 r).bind fun y => readSix y.1) = _; rw [h2]; rfl)
      clear h1 h2 hl hm hi hrl
      go_enter Tryd.func19, Tryd.ntmps19
      go_wp2_with (first
        | (go_at_call 33; with_reducible refine (HC1.out.calls HM.out HB.out).mono ?_; rintro e w1 ⟨rfl, hb⟩; replace HB := Aside0.mk (HB.out.trans (hb.mono HB.out.size)); replace HZ := Aside0.mk (blk_below HZ.out hb); clear hb)
        | (go_at_call 33; with_reducible refine (HC2.out.calls HM.out HB.out).mono ?_; rintro e w2 ⟨rfl, hb⟩; replace HB := Aside0.mk (HB.out.trans (hb.mono HB.out.size)); replace HZ := Aside0.mk (blk_below HZ.out hb); clear hb; have zf0 := blk_frozen HZ.out 0; have zc0 : w2.cell? ⟨w.heap.size, 0, none⟩ = some (.int .u8 0) := (blk_cell HZ.out 0).trans rfl; have zf1 := blk_frozen HZ.out 1; have zc1 : w2.cell? ⟨w.heap.size, 1, none⟩ = some (.int .u8 0) := (blk_cell HZ.out 1).trans rfl; have zf2 := blk_frozen HZ.out 2; have zc2 : w2.cell? ⟨w.heap.size, 2, none⟩ = some (.int .u8 0) := (blk_cell HZ.out 2).trans rfl; have zf3 := blk_frozen HZ.out 3; have zc3 : w2.cell? ⟨w.heap.size, 3, none⟩ = some (.int .u8 0) := (blk_cell HZ.out 3).trans rfl; have zf4 := blk_frozen HZ.out 4; have zc4 : w2.cell? ⟨w.heap.size, 4, none⟩ = some (.int .i64 0) := (blk_cell HZ.out 4).trans rfl; have tok := trivial))
      try simp only [Exit.inBlock, Exit.then]
      refine bodyPost_ret (res_find _ _ w.heap.size 0 0 0 0 0 false rfl rfl (blk_put (blk_put (blk_put (blk_put (blk_put HZ.out 0 _ rfl) 1 _ rfl) 2 _ rfl) 3 _ rfl) 4 _ rfl)) rfl ⟨?_, ?_⟩
      · first | (rw [HF.out]; rfl) | (rw [HF.out]) | rfl
      · exact ((((HB.out.setCell (Nat.le_refl _) _).setCell (Nat.le_refl _) _).setCell (Nat.le_refl _) _).setCell (Nat.le_refl _) _).setCell (Nat.le_refl _) _
    | some yr =>
      obtain ⟨m, r2⟩ := yr
      have hi2 := (cut1_is h2).1
      have hml : m.length ≤ r.length := by rw [hi2]; simp
      have HC1 := Aside0.mk (show CutIs 40 s ⟨a.toArray⟩ ⟨r.toArray⟩ true from ⟨by omega, by rw [lib_cut, h1]⟩)
      have HC2 := Aside0.mk (show CutIs 41 ⟨r.toArray⟩ ⟨m.toArray⟩ ⟨r2.toArray⟩ true from ⟨by rw [← data_length]; show r.length < _; omega, by rw [lib_cut]; show (match cut1 41 r with | some (a, b) => (a, b, true) | none => (r, [], false)) = _; rw [h2]⟩)
      have HRS := Aside0.mk (show (⟨m.toArray⟩ : ByteArray).size < 4294967281 from by rw [← data_length]; show m.length < _; omega)
      obtain ⟨a1, b1, c1, d1, p1, t1, hrv⟩ := readR_form (readSix m)
      have HRV := Aside0.mk (show readR (readSix (⟨m.toArray⟩ : ByteArray).data.toList) = .tuple #[.agg #[.int .u8 a1, .int .u8 b1, .int .u8 c1, .int .u8 d1, .int .i64 p1], .bool t1] from hrv)
      have HF := Aside0.mk (show readR (find s.data.toList) = .tuple #[.agg #[.int .u8 a1, .int .u8 b1, .int .u8 c1, .int .u8 d1, .int .i64 p1], .bool t1] from by rw [find, h1]; show readR ((cut1 41 r).bind fun y => readSix y.1) = _; rw [h2]; exact hrv)
      clear h1 h2 hl hm hi hrl hi2 hml hrv
      go_enter Tryd.func19, Tryd.ntmps19
      go_wp2_with (first
        | (go_at_call 33; with_reducible refine (HC1.out.calls HM.out HB.out).mono ?_; rintro e w1 ⟨rfl, hb⟩; replace HB := Aside0.mk (HB.out.trans (hb.mono HB.out.size)); replace HZ := Aside0.mk (blk_below HZ.out hb); clear hb)
        | (go_at_call 33; with_reducible refine (HC2.out.calls HM.out HB.out).mono ?_; rintro e w2 ⟨rfl, hb⟩; replace HB := Aside0.mk (HB.out.trans (hb.mono HB.out.size)); replace HZ := Aside0.mk (blk_below HZ.out hb); clear hb; have zf0 := blk_frozen HZ.out 0; have zc0 : w2.cell? ⟨w.heap.size, 0, none⟩ = some (.int .u8 0) := (blk_cell HZ.out 0).trans rfl; have zf1 := blk_frozen HZ.out 1; have zc1 : w2.cell? ⟨w.heap.size, 1, none⟩ = some (.int .u8 0) := (blk_cell HZ.out 1).trans rfl; have zf2 := blk_frozen HZ.out 2; have zc2 : w2.cell? ⟨w.heap.size, 2, none⟩ = some (.int .u8 0) := (blk_cell HZ.out 2).trans rfl; have zf3 := blk_frozen HZ.out 3; have zc3 : w2.cell? ⟨w.heap.size, 3, none⟩ = some (.int .u8 0) := (blk_cell HZ.out 3).trans rfl; have zf4 := blk_frozen HZ.out 4; have zc4 : w2.cell? ⟨w.heap.size, 4, none⟩ = some (.int .i64 0) := (blk_cell HZ.out 4).trans rfl; have tok := trivial)
        | (go_at_call 15; clear zf0 zc0; clear zf1 zc1; clear zf2 zc2; clear zf3 zc3; clear zf4 zc4; refine (read_calls _ HRS.out _ (HM.out.below HB.out)).mono ?_; rw [HRV.out]; rintro e w3 ⟨rfl, hb⟩; replace HB := Aside0.mk (HB.out.trans (hb.mono HB.out.size)); replace HZ := Aside0.mk (blk_below HZ.out hb); clear hb; have zf0 := blk_frozen HZ.out 0; have zc0 : w3.cell? ⟨w.heap.size, 0, none⟩ = some (.int .u8 0) := (blk_cell HZ.out 0).trans rfl; have zf1 := blk_frozen HZ.out 1; have zc1 : w3.cell? ⟨w.heap.size, 1, none⟩ = some (.int .u8 0) := (blk_cell HZ.out 1).trans rfl; have zf2 := blk_frozen HZ.out 2; have zc2 : w3.cell? ⟨w.heap.size, 2, none⟩ = some (.int .u8 0) := (blk_cell HZ.out 2).trans rfl; have zf3 := blk_frozen HZ.out 3; have zc3 : w3.cell? ⟨w.heap.size, 3, none⟩ = some (.int .u8 0) := (blk_cell HZ.out 3).trans rfl; have zf4 := blk_frozen HZ.out 4; have zc4 : w3.cell? ⟨w.heap.size, 4, none⟩ = some (.int .i64 0) := (blk_cell HZ.out 4).trans rfl; have tok2 := trivial))
      try simp only [Exit.inBlock, Exit.then]
      refine bodyPost_ret (res_find _ _ w.heap.size a1 b1 c1 d1 p1 t1 rfl rfl (blk_put (blk_put (blk_put (blk_put (blk_put HZ.out 0 _ rfl) 1 _ rfl) 2 _ rfl) 3 _ rfl) 4 _ rfl)) rfl ⟨?_, ?_⟩
      · first | (rw [HF.out]; rfl) | (rw [HF.out]) | rfl
      · exact ((((HB.out.setCell (Nat.le_refl _) _).setCell (Nat.le_refl _) _).setCell (Nat.le_refl _) _).setCell (Nat.le_refl _) _).setCell (Nat.le_refl _) _
end Go.Proofs.YtdcbkeihgbekdaaDoor.Six

namespace Go.Proofs.YtdcbkeihgbekdaaDoor.Ext
open Go Go.RowKit Go.Proofs.YtdcbkeihgbekdaaDoorW.PrintWords Go.Proofs.YtdcbkeihgbekdaaDoorW.PrintLast Go.Proofs.YtdcbkeihgbekdaaDoorW.PrintMore Go.Proofs.YtdcbkeihgbekdaaDoor.Dig Go.Proofs.YtdcbkeihgbekdaaDoor.Quad Go.Proofs.YtdcbkeihgbekdaaDoor.ExtP Go.Proofs.YtdcbkeihgbekdaaDoor.SixP
set_option linter.unusedVariables false
set_option linter.unusedSimpArgs false

end Go.Proofs.YtdcbkeihgbekdaaDoor.Ext

namespace Go.Proofs.YtdcbkeihgbekdaaDoor.Ext
open Go Go.Proofs.YtdcbkeihgbekdaaDoor.Dig Go.Proofs.YtdcbkeihgbekdaaDoor.Cut Go.Proofs.YtdcbkeihgbekdaaDoor.ExtP Go.Proofs.YtdcbkeihgbekdaaDoor.SixP
set_option linter.unusedVariables false
set_option linter.unusedSimpArgs false

theorem inner_short {l : List UInt8} (h : l.length < 5) : inner l = none := by
  match l, h with
  | [], _ => rfl
  | [a], _ => show (if isMark a = false then none else none) = none; split <;> rfl
  | [a, b], _ => show (if isMark a = false then none else none) = none; split <;> rfl
  | [a, b, c], _ =>
    show (if isMark a = false then none else if b = a ∧ c = a ∧ ([] : List UInt8).getLast? = some a then _ else none) = none
    split
    · rfl
    · rw [if_neg (by simp)]
  | [a, b, c, d], _ =>
    show (if isMark a = false then none else if b = a ∧ c = a ∧ [d].getLast? = some a then (getMost 65535 ([d].dropLast)).bind (fun n => if n = 0 then none else some n) else none) = none
    split
    · rfl
    · split
      · rfl
      · rfl
theorem inner_eq (m x y : UInt8) (z : List UInt8) : inner (m :: x :: y :: z) = if isMark m = false then none else if x = m ∧ y = m ∧ z.getLast? = some m then (getMost 65535 z.dropLast).bind (fun n => if n = 0 then none else some n) else none := rfl
/-- How ext comes to it. -/
def rest1 (l : List UInt8) (m : UInt8) : List UInt8 := Lib.trimPrefix l [m, m, m]
def rest2 (l : List UInt8) (m : UInt8) : List UInt8 := Lib.trimSuffix (rest1 l m) [m]
theorem suffix_last (z : List UInt8) (m : UInt8) : Lib.hasSuffix z [m] = true ↔ z.getLast? = some m := by
  rw [Lib.hasSuffix, List.isSuffixOf_iff_suffix, List.getLast?_eq_some_iff]
  constructor
  · rintro ⟨t, ht⟩; exact ⟨t, ht.symm⟩
  · rintro ⟨t, ht⟩; exact ⟨t, ht.symm⟩
theorem inner_ext (m : UInt8) (r : List UInt8) : isMark m = true → inner (m :: r) = if Lib.hasPrefix (m :: r) [m, m, m] = true ∧ Lib.hasSuffix (rest1 (m :: r) m) [m] = true then (getMost 65535 (rest2 (m :: r) m)).bind (fun n => if n = 0 then none else some n) else none := by
  intro hm
  match r with
  | [] =>
    rw [inner_short (by simp), if_neg]
    intro h; simp [Lib.hasPrefix, List.isPrefixOf] at h
  | [x] =>
    rw [inner_short (by simp), if_neg]
    intro h; simp [Lib.hasPrefix, List.isPrefixOf] at h
  | x :: y :: z =>
    have hp : Lib.hasPrefix (m :: x :: y :: z) [m, m, m] = true ↔ x = m ∧ y = m := by
      simp [Lib.hasPrefix, List.isPrefixOf]
      constructor
      · rintro ⟨h1, h2⟩; exact ⟨h1.symm, h2.symm⟩
      · rintro ⟨h1, h2⟩; exact ⟨h1.symm, h2.symm⟩
    rw [inner_eq, if_neg (by rw [hm]; decide)]
    by_cases hxy : x = m ∧ y = m
    · have h1 := hp.2 hxy
      have hr1 : rest1 (m :: x :: y :: z) m = z := by rw [rest1, Lib.trimPrefix, if_pos h1]; rfl
      rw [hr1]
      by_cases hz : z.getLast? = some m
      · have hr2 : rest2 (m :: x :: y :: z) m = z.dropLast := by
          rw [rest2, hr1, Lib.trimSuffix, if_pos ((suffix_last z m).2 hz), List.dropLast_eq_take]; rfl
        rw [if_pos ⟨hxy.1, hxy.2, hz⟩, if_pos ⟨h1, (suffix_last z m).2 hz⟩, hr2]
      · rw [if_neg (fun h => hz h.2.2), if_neg (fun h => hz ((suffix_last z m).1 h.2))]
    · rw [if_neg (fun h => hxy ⟨h.1, h.2.1⟩), if_neg (fun h => hxy (hp.1 h.1))]
/-- What Find hands back. -/
def findR (o : Option Nat) : Value := match o with
  | some n => .tuple #[.int .i64 n, .bool true]
  | none => .tuple #[.int .i64 0, .bool false]
end Go.Proofs.YtdcbkeihgbekdaaDoor.Ext

namespace Go.Proofs.YtdcbkeihgbekdaaDoor.Ext
open Go Go.RowKit Go.Proofs.YtdcbkeihgbekdaaDoorW.PrintWords Go.Proofs.YtdcbkeihgbekdaaDoorW.PrintLast Go.Proofs.YtdcbkeihgbekdaaDoorW.PrintMore Go.Proofs.YtdcbkeihgbekdaaDoor.Dig Go.Proofs.YtdcbkeihgbekdaaDoor.Quad Go.Proofs.YtdcbkeihgbekdaaDoor.ExtP Go.Proofs.YtdcbkeihgbekdaaDoor.SixP
set_option linter.unusedVariables false
set_option linter.unusedSimpArgs false

/-- strings.Cut by one byte, as it is met. -/
theorem cut_calls (c : UInt8) (s x y : ByteArray) (t : Bool) (hs : s.size < 4294967281) (h : Lib.cut s.data.toList [c] = (x.data.toList, y.data.toList, t)) (w0 w : World) (hm : Mx w0) (hb : Below w0.heap.size w0 w) :
    Calls Tryd.prog 33 #[.string s, .string ⟨#[c]⟩] w fun e w' => e = .returned (.tuple #[.string x, .string y, .bool t]) ∧ Below w.heap.size w w' := by
  obtain ⟨m, hm⟩ := hm.below hb
  refine (Tryd.strings_Cut s ⟨#[c]⟩ m w hs hm).mono ?_
  rintro e w' ⟨he, n, rfl⟩
  rw [show (ByteArray.mk #[c]).data.toList = [c] from rfl, h] at he
  exact ⟨he, below_drewN (Below.refl _ _) n⟩
def CutIs (c : UInt8) (s x y : ByteArray) (t : Bool) : Prop := s.size < 4294967281 ∧ Lib.cut s.data.toList [c] = (x.data.toList, y.data.toList, t)
theorem CutIs.calls {c : UInt8} {s x y : ByteArray} {t : Bool} (h : CutIs c s x y t) {w0 w : World} (hm : Mx w0) (hb : Below w0.heap.size w0 w) :
    Calls Tryd.prog 33 #[.string s, .string ⟨#[c]⟩] w fun e w' => e = .returned (.tuple #[.string x, .string y, .bool t]) ∧ Below w.heap.size w w' := cut_calls c s x y t h.1 h.2 w0 w hm hb
theorem slice_1 (s : ByteArray) (X : ByteArray) (hs : 1 ≤ s.size) (hX : X.data.toList = s.data.toList.take 1) (W : World) : (Instr.slice 9 (.string s) none (some (.int .i64 1)) none).run Tryd.prog W = .ok (.string X) W := by
  rw [run_slice_string_to_if W 9 s .i64 1 Tryd.underlying9, if_pos (by omega)]
  rw [show (1 : Int).toNat = 1 from rfl, piece_of s 0 1 hs, List.drop_zero, ← hX]

set_option maxHeartbeats 2000000 in
set_option maxRecDepth 100000 in
theorem find_calls (s : ByteArray) (hs : s.size ≤ 1000000) (w : World) (hm : Mx w) :
    Calls Tryd.prog 20 #[.string s] w fun e w' => e = .returned (findR (findE s.data.toList)) ∧ Below w.heap.size w w' := by
  have HM := Aside0.mk hm
  have HB := Aside0.mk (Below.refl w.heap.size w)
  have hl := data_length s
  cases h1 : cut1 40 s.data.toList with
  | none =>
    have HC1 := Aside0.mk (show CutIs 40 s s ⟨#[]⟩ false from ⟨by omega, by rw [lib_cut, h1]⟩)
    have HC2 := Aside0.mk (show CutIs 41 ⟨#[]⟩ ⟨#[]⟩ ⟨#[]⟩ false from ⟨by decide, by decide⟩)
    have HF := Aside0.mk (show findR (findE s.data.toList) = findR none from by rw [findE, h1]; rfl)
    clear h1 hl hm
    go_enter Tryd.func20, Tryd.ntmps20
    go_wp2_with (first
      | (go_at_call 33; with_reducible refine (HC1.out.calls HM.out HB.out).mono ?_; rintro e w1 ⟨rfl, hb⟩; replace HB := Aside0.mk (HB.out.trans (hb.mono HB.out.size)); clear hb)
      | (go_at_call 33; with_reducible refine (HC2.out.calls HM.out HB.out).mono ?_; rintro e w2 ⟨rfl, hb⟩; replace HB := Aside0.mk (HB.out.trans (hb.mono HB.out.size)); clear hb))
    go_ret2
    exact ⟨by rw [HF.out]; rfl, HB.out⟩
  | some xr =>
    obtain ⟨a, r⟩ := xr
    have hi := (cut1_is h1).1
    have hrl : r.length ≤ s.data.toList.length := by rw [hi]; simp; omega
    cases h2 : cut1 41 r with
    | none =>
      have HC1 := Aside0.mk (show CutIs 40 s ⟨a.toArray⟩ ⟨r.toArray⟩ true from ⟨by omega, by rw [lib_cut, h1]⟩)
      have HC2 := Aside0.mk (show CutIs 41 ⟨r.toArray⟩ ⟨r.toArray⟩ ⟨#[]⟩ false from ⟨by rw [← data_length]; show r.length < _; omega, by rw [lib_cut]; show (match cut1 41 r with | some (a, b) => (a, b, true) | none => (r, [], false)) = _; rw [h2]⟩)
      have HF := Aside0.mk (show findR (findE s.data.toList) = findR none from by rw [findE, h1]; show findR ((cut1 41 r).bind fun y => inner y.1) = _; rw [h2]; rfl)
      obtain ⟨A, hA⟩ : ∃ A : ByteArray, A = ⟨a.toArray⟩ := ⟨_, rfl⟩
      obtain ⟨R, hR⟩ : ∃ R : ByteArray, R = ⟨r.toArray⟩ := ⟨_, rfl⟩
      rw [← hA, ← hR] at HC1
      rw [← hR] at HC2
      clear h1 h2 hl hm hi hrl hA hR
      go_enter Tryd.func20, Tryd.ntmps20
      go_wp2_with (first
        | (go_at_call 33; with_reducible refine (HC1.out.calls HM.out HB.out).mono ?_; rintro e w1 ⟨rfl, hb⟩; replace HB := Aside0.mk (HB.out.trans (hb.mono HB.out.size)); clear hb)
        | (go_at_call 33; with_reducible refine (HC2.out.calls HM.out HB.out).mono ?_; rintro e w2 ⟨rfl, hb⟩; replace HB := Aside0.mk (HB.out.trans (hb.mono HB.out.size)); clear hb))
      go_ret2
      exact ⟨by rw [HF.out]; rfl, HB.out⟩
    | some yr =>
      obtain ⟨t, r2⟩ := yr
      have hi2 := (cut1_is h2).1
      have hml : t.length ≤ r.length := by rw [hi2]; simp
      have hfe : findE s.data.toList = inner t := by rw [findE, h1]; show ((cut1 41 r).bind fun y => inner y.1) = _; rw [h2]; rfl
      have HC1 := Aside0.mk (show CutIs 40 s ⟨a.toArray⟩ ⟨r.toArray⟩ true from ⟨by omega, by rw [lib_cut, h1]⟩)
      have HC2 := Aside0.mk (show CutIs 41 ⟨r.toArray⟩ ⟨t.toArray⟩ ⟨r2.toArray⟩ true from ⟨by rw [← data_length]; show r.length < _; omega, by rw [lib_cut]; show (match cut1 41 r with | some (a, b) => (a, b, true) | none => (r, [], false)) = _; rw [h2]⟩)
      obtain ⟨A, hA⟩ : ∃ A : ByteArray, A = ⟨a.toArray⟩ := ⟨_, rfl⟩
      obtain ⟨R, hR⟩ : ∃ R : ByteArray, R = ⟨r.toArray⟩ := ⟨_, rfl⟩
      obtain ⟨M, hM⟩ : ∃ M : ByteArray, M = ⟨t.toArray⟩ := ⟨_, rfl⟩
      obtain ⟨R2, hR2⟩ : ∃ R2 : ByteArray, R2 = ⟨r2.toArray⟩ := ⟨_, rfl⟩
      rw [← hA, ← hR] at HC1
      rw [← hR, ← hM, ← hR2] at HC2
      have hMl : M.data.toList = t := by rw [hM]
      have HMl := Aside0.mk (show t.length ≤ 1000000 from by omega)
      clear h1 h2 hl hm hi hrl hA hR hi2 hml hM hR2
      match t, HMl, hMl, hfe with
      | [], HMl, hMl, hfe =>
        have hemp : M.toList = [] := by rw [ByteArray.toList_eq]; exact hMl
        have HF := Aside0.mk (show findR (findE s.data.toList) = findR none from by rw [hfe]; rfl)
        clear hfe hMl
        go_enter Tryd.func20, Tryd.ntmps20
        go_wp2_with (first
          | (go_at_call 33; with_reducible refine (HC1.out.calls HM.out HB.out).mono ?_; rintro e w1 ⟨rfl, hb⟩; replace HB := Aside0.mk (HB.out.trans (hb.mono HB.out.size)); clear hb)
          | (go_at_call 33; with_reducible refine (HC2.out.calls HM.out HB.out).mono ?_; rintro e w2 ⟨rfl, hb⟩; replace HB := Aside0.mk (HB.out.trans (hb.mono HB.out.size)); clear hb))
        go_ret2
        exact ⟨by first | (rw [HF.out]; rfl) | rfl | simp [findR], HB.out⟩
      | m :: l, HMl, hMl, hfe =>
        have hMs : M.size = l.length + 1 := by rw [← data_length, hMl]; rfl
        have hne : M.toList.isEmpty = false := by rw [ByteArray.toList_eq, hMl]; rfl
        have h0s : 0 < M.size := by omega
        have h0c : ∀ h : 0 < M.size, ((M[0]'h).toNat : Int) = (m.toNat : Int) := fun h => by have e := bt_byte M 0 (by rw [hMl]; simp); simp only [hMl, List.getElem_cons_zero] at e; rw [← e]; exact bt_at M 0 h
        have HK0 := Aside0.mk (fun W => mark_calls m W)
        obtain ⟨x, hx⟩ : ∃ x, x = m.toNat := ⟨_, rfl⟩
        rw [← hx] at h0c HK0
        cases hk : isMark m with
        | false =>
          have HF := Aside0.mk (show findR (findE s.data.toList) = findR none from by rw [hfe, show inner (m :: l) = none from if_pos hk])
          have HK := HK0
          rw [hk] at HK
          clear hfe hMl hMs hk hx
          go_enter Tryd.func20, Tryd.ntmps20
          go_wp2_with (first
            | (go_at_call 33; with_reducible refine (HC1.out.calls HM.out HB.out).mono ?_; rintro e w1 ⟨rfl, hb⟩; replace HB := Aside0.mk (HB.out.trans (hb.mono HB.out.size)); clear hb)
            | (go_at_call 33; with_reducible refine (HC2.out.calls HM.out HB.out).mono ?_; rintro e w2 ⟨rfl, hb⟩; replace HB := Aside0.mk (HB.out.trans (hb.mono HB.out.size)); clear hb)
            | (go_at_call 34; refine (HK.out _).mono ?_; rintro e w3 ⟨rfl, hw⟩; obtain rfl := hw.symm))
          go_ret2
          exact ⟨by first | (rw [HF.out]; rfl) | rfl | simp [findR], HB.out⟩
        | true =>
          have HK := HK0
          rw [hk] at HK
          have hin := inner_ext m l hk
          have hgm := getMost_get 65535 (rest2 (m :: l) m)
          obtain ⟨X, hX⟩ : ∃ X : ByteArray, X = ⟨#[m]⟩ := ⟨_, rfl⟩
          have hXs : X.size = 1 := by rw [hX]; rfl
          have hsl : ∀ W, (Instr.slice 9 (.string M) none (some (.int .i64 1)) none).run Tryd.prog W = .ok (.string X) W := slice_1 M X h0s (by rw [hMl, hX]; rfl)
          have hX3 : (X ++ X ++ X).data.toList = [m, m, m] := by rw [hX]; simp
          have hX1 : X.data.toList = [m] := by rw [hX]
          obtain ⟨S1, hS1⟩ : ∃ S1 : ByteArray, S1 = ⟨(rest1 (m :: l) m).toArray⟩ := ⟨_, rfl⟩
          obtain ⟨S2, hS2⟩ : ∃ S2 : ByteArray, S2 = ⟨(rest2 (m :: l) m).toArray⟩ := ⟨_, rfl⟩
          have hS1l : S1.data.toList = rest1 (m :: l) m := by rw [hS1]
          have hS2l : S2.data.toList = rest2 (m :: l) m := by rw [hS2]
          have hS1s : S1.size ≤ 1000000 := by
            rw [← data_length, hS1l, rest1, Lib.trimPrefix]; have := HMl.out
            split
            · rw [List.length_drop]; omega
            · exact this
          obtain ⟨b1, hb1⟩ : ∃ b1, b1 = Lib.hasPrefix (m :: l) [m, m, m] := ⟨_, rfl⟩
          obtain ⟨b2, hb2⟩ : ∃ b2, b2 = Lib.hasSuffix (rest1 (m :: l) m) [m] := ⟨_, rfl⟩
          have HP1 := Aside0.mk (show ∀ W, Calls Tryd.prog 35 #[.string M, .string (X ++ X ++ X)] W fun e w' => e = .returned (.tuple #[.string S1, .bool b1]) ∧ w' = W from fun W => by
            have := Tryd.strings_CutPrefix M (X ++ X ++ X) W
            rw [hX3, hMl, ← hb1] at this
            rw [hS1]; exact this)
          have HP2 := Aside0.mk (show ∀ W, Calls Tryd.prog 36 #[.string S1, .string X] W fun e w' => e = .returned (.tuple #[.string S2, .bool b2]) ∧ w' = W from fun W => by
            have := Tryd.strings_CutSuffix S1 X W (by omega)
            rw [hX1, hS1l, ← hb2] at this
            rw [hS2]; exact this)
          have HG0 := Aside0.mk (fun W => get_calls S2 65535 W)
          have hin2 : inner (m :: l) = if b1 = true ∧ b2 = true then (getMost 65535 (rest2 (m :: l) m)).bind (fun n => if n = 0 then none else some n) else none := by rw [hb1, hb2]; exact hin
          rw [hS2l] at HG0
          clear hS1 hS2 hS1l hS2l hX hX3 hX1 hb1 hb2 hin hMl hMs hx hk hS1s HK0
          rw [hfe, hin2]
          cases hgo : getMost 65535 (rest2 (m :: l) m) with
          | none =>
            rw [hgo] at hgm
            rw [show Dig.get (rest2 (m :: l) m) 65535 = _ from hgm] at HG0
            have HF := Aside0.mk (show findR (if b1 = true ∧ b2 = true then (none : Option Nat).bind (fun n => if n = 0 then none else some n) else none) = findR none from by split <;> rfl)
            clear hgm hgo hfe hin2
            cases b1 <;> cases b2
            all_goals
              go_enter Tryd.func20, Tryd.ntmps20
              go_wp2_with (first
                | (go_at_call 33; with_reducible refine (HC1.out.calls HM.out HB.out).mono ?_; rintro e w1 ⟨rfl, hb⟩; replace HB := Aside0.mk (HB.out.trans (hb.mono HB.out.size)); clear hb)
                | (go_at_call 33; with_reducible refine (HC2.out.calls HM.out HB.out).mono ?_; rintro e w2 ⟨rfl, hb⟩; replace HB := Aside0.mk (HB.out.trans (hb.mono HB.out.size)); clear hb)
                | (go_at_call 34; refine (HK.out _).mono ?_; rintro e w3 ⟨rfl, hw⟩; obtain rfl := hw.symm)
                | (go_at_call 35; refine (HP1.out _).mono ?_; rintro e w3 ⟨rfl, hw⟩; obtain rfl := hw.symm)
                | (go_at_call 36; refine (HP2.out _).mono ?_; rintro e w3 ⟨rfl, hw⟩; obtain rfl := hw.symm)
                | (go_at_call 29; refine (HG0.out _).mono ?_; rintro e w3 ⟨rfl, hw⟩; obtain rfl := hw.symm))
              go_ret2
              exact ⟨by first | (rw [HF.out]; rfl) | rfl | simp [findR], HB.out⟩
          | some n =>
            rw [hgo] at hgm
            rw [show Dig.get (rest2 (m :: l) m) 65535 = _ from hgm] at HG0
            have hn := ((getMost_iff 65535 (by decide) _ _).1 hgo).2
            by_cases h0 : n = 0
            · subst h0
              have HF := Aside0.mk (show findR (if b1 = true ∧ b2 = true then (some 0 : Option Nat).bind (fun n => if n = 0 then none else some n) else none) = findR none from by split <;> rfl)
              have HPT := Aside0.mk (fun W => port_calls ((0 : Nat) : Int) W)
              rw [show decide (0 < ((0 : Nat) : Int) ∧ ((0 : Nat) : Int) ≤ 65535) = false from rfl] at HPT
              clear hgm hgo hfe hin2
              cases b1 <;> cases b2
              all_goals
                go_enter Tryd.func20, Tryd.ntmps20
                go_wp2_with (first
                  | (go_at_call 33; with_reducible refine (HC1.out.calls HM.out HB.out).mono ?_; rintro e w1 ⟨rfl, hb⟩; replace HB := Aside0.mk (HB.out.trans (hb.mono HB.out.size)); clear hb)
                  | (go_at_call 33; with_reducible refine (HC2.out.calls HM.out HB.out).mono ?_; rintro e w2 ⟨rfl, hb⟩; replace HB := Aside0.mk (HB.out.trans (hb.mono HB.out.size)); clear hb)
                  | (go_at_call 34; refine (HK.out _).mono ?_; rintro e w3 ⟨rfl, hw⟩; obtain rfl := hw.symm)
                  | (go_at_call 35; refine (HP1.out _).mono ?_; rintro e w3 ⟨rfl, hw⟩; obtain rfl := hw.symm)
                  | (go_at_call 36; refine (HP2.out _).mono ?_; rintro e w3 ⟨rfl, hw⟩; obtain rfl := hw.symm)
                  | (go_at_call 29; refine (HG0.out _).mono ?_; rintro e w3 ⟨rfl, hw⟩; obtain rfl := hw.symm)
                  | (go_at_call 37; refine (HPT.out _).mono ?_; rintro e w3 ⟨rfl, hw⟩; obtain rfl := hw.symm))
                go_ret2
                exact ⟨by first | (rw [HF.out]; rfl) | rfl | simp [findR], HB.out⟩
            · have HPT := Aside0.mk (fun W => port_calls (n : Int) W)
              rw [decide_eq_true (show 0 < (n : Int) ∧ (n : Int) ≤ 65535 from by omega)] at HPT
              clear hgm hgo hfe hin2
              cases b1 <;> cases b2
              all_goals
                first
                  | have HF := Aside0.mk (show findR (if true = true ∧ true = true then (some n : Option Nat).bind (fun n => if n = 0 then none else some n) else none) = .tuple #[.int .i64 n, .bool true] from by rw [if_pos ⟨rfl, rfl⟩, Option.bind_some, if_neg h0]; rfl)
                  | skip
                go_enter Tryd.func20, Tryd.ntmps20
                go_wp2_with (first
                  | (go_at_call 33; with_reducible refine (HC1.out.calls HM.out HB.out).mono ?_; rintro e w1 ⟨rfl, hb⟩; replace HB := Aside0.mk (HB.out.trans (hb.mono HB.out.size)); clear hb)
                  | (go_at_call 33; with_reducible refine (HC2.out.calls HM.out HB.out).mono ?_; rintro e w2 ⟨rfl, hb⟩; replace HB := Aside0.mk (HB.out.trans (hb.mono HB.out.size)); clear hb)
                  | (go_at_call 34; refine (HK.out _).mono ?_; rintro e w3 ⟨rfl, hw⟩; obtain rfl := hw.symm)
                  | (go_at_call 35; refine (HP1.out _).mono ?_; rintro e w3 ⟨rfl, hw⟩; obtain rfl := hw.symm)
                  | (go_at_call 36; refine (HP2.out _).mono ?_; rintro e w3 ⟨rfl, hw⟩; obtain rfl := hw.symm)
                  | (go_at_call 29; refine (HG0.out _).mono ?_; rintro e w3 ⟨rfl, hw⟩; obtain rfl := hw.symm)
                  | (go_at_call 37; refine (HPT.out _).mono ?_; rintro e w3 ⟨rfl, hw⟩; obtain rfl := hw.symm))
                go_ret2
                exact ⟨by first | (rw [HF.out]; rfl) | rfl | simp [findR, h0], HB.out⟩
end Go.Proofs.YtdcbkeihgbekdaaDoor.Ext

namespace Go.Proofs.YtdcbkeihgbekdaaDoor.Ext
open Go Go.RowKit Go.Proofs.YtdcbkeihgbekdaaDoorW.PrintWords Go.Proofs.YtdcbkeihgbekdaaDoorW.PrintLast Go.Proofs.YtdcbkeihgbekdaaDoorW.PrintMore Go.Proofs.YtdcbkeihgbekdaaDoor.Dig Go.Proofs.YtdcbkeihgbekdaaDoor.Quad Go.Proofs.YtdcbkeihgbekdaaDoor.ExtP Go.Proofs.YtdcbkeihgbekdaaDoor.SixP
set_option linter.unusedVariables false
set_option linter.unusedSimpArgs false

theorem wp_at {P : Program} {c : Code} {Q : Exit → Act → World → Prop} {a : Act} {w : World} (K : World → Prop) (h : K w) (hk : ∀ W, K W → Code.wp P c Q a W) : Code.wp P c Q a w := hk w h
def outV : Out → Value
  | .ok a b c d p => .agg #[.int .u8 a, .int .u8 b, .int .u8 c, .int .u8 d, .int .i64 p]
  | _ => .agg #[.int .u8 0, .int .u8 0, .int .u8 0, .int .u8 0, .int .i64 0]
def outN : Out → Int
  | .ok _ _ _ _ _ => 0
  | .form => 2
  | .kind => 8
theorem res_read (tmps : Array Value) (W : World) (H : Nat) (a b c d p : Int) (e : Value) (h2 : tmps.getD 2 undef = .pointer (some ⟨H, 0, none⟩)) (h3 : tmps.getD 3 undef = e) (hh : W.heap[H]? = some (.cells #[.int .u8 a, .int .u8 b, .int .u8 c, .int .u8 d, .int .i64 p] 31 (0, 0))) :
   (results Tryd.f30 tmps).run Tryd.prog W = .ok (.tuple #[.agg #[.int .u8 a, .int .u8 b, .int .u8 c, .int .u8 d, .int .i64 p], e]) W := by
  have c0 : W.cell? ⟨H, 0, none⟩ = some (.int .u8 a) := (blk_cell hh 0).trans rfl
  have c1 : W.cell? ⟨H, 1, none⟩ = some (.int .u8 b) := (blk_cell hh 1).trans rfl
  have c2 : W.cell? ⟨H, 2, none⟩ = some (.int .u8 c) := (blk_cell hh 2).trans rfl
  have c3 : W.cell? ⟨H, 3, none⟩ = some (.int .u8 d) := (blk_cell hh 3).trans rfl
  have c4 : W.cell? ⟨H, 4, none⟩ = some (.int .i64 p) := (blk_cell hh 4).trans rfl
  rw [Array.getD_eq_getD_getElem?] at h2 h3
  simp [results, show Tryd.f30.results = #[.cell 2 31, .tmp 3] from rfl, h2, h3, go_sem, c0, c1, c2, c3, c4]
/-- The result, still zero, in a block of the call's own. -/
def Rd (w W : World) : Prop := Below w.heap.size w W ∧ W.heap[w.heap.size]? = some (.cells #[.int .u8 0, .int .u8 0, .int .u8 0, .int .u8 0, .int .i64 0] 31 (0, 0))
theorem Rd.start (w : World) : Rd w (w.alloc (.cells #[.int .u8 0, .int .u8 0, .int .u8 0, .int .u8 0, .int .i64 0] 31)) := ⟨(Below.refl _ _).alloc (Nat.le_refl _) _, blk_new w _⟩
theorem Rd.drew {w W : World} (h : Rd w W) : Rd w { W with drawn := W.drawn + 1 } := ⟨h.1.drew, h.2⟩
theorem Rd.below {w W W' : World} (h : Rd w W) (hb : Below W.heap.size W W') : Rd w W' := ⟨h.1.trans (hb.mono h.1.size), blk_below h.2 hb⟩
theorem Rd.facts {w W : World} (h : Rd w W) : W.cell? ⟨w.heap.size, 0, none⟩ = some (.int .u8 0) ∧ W.cell? ⟨w.heap.size, 1, none⟩ = some (.int .u8 0) ∧ W.cell? ⟨w.heap.size, 2, none⟩ = some (.int .u8 0) ∧ W.cell? ⟨w.heap.size, 3, none⟩ = some (.int .u8 0) ∧ W.cell? ⟨w.heap.size, 4, none⟩ = some (.int .i64 0) ∧ W.frozen? ⟨w.heap.size, 0, none⟩ = false ∧ W.frozen? ⟨w.heap.size, 1, none⟩ = false ∧ W.frozen? ⟨w.heap.size, 2, none⟩ = false ∧ W.frozen? ⟨w.heap.size, 3, none⟩ = false ∧ W.frozen? ⟨w.heap.size, 4, none⟩ = false := ⟨(blk_cell h.2 0).trans rfl, (blk_cell h.2 1).trans rfl, (blk_cell h.2 2).trans rfl, (blk_cell h.2 3).trans rfl, (blk_cell h.2 4).trans rfl, blk_frozen h.2 0, blk_frozen h.2 1, blk_frozen h.2 2, blk_frozen h.2 3, blk_frozen h.2 4⟩
theorem Rd.putV {w W : World} (h : Rd w W) (a b c d p : Int) : ((((((W.setCell ⟨w.heap.size, 0, none⟩ (.int .u8 a)).setCell ⟨w.heap.size, 1, none⟩ (.int .u8 b)).setCell ⟨w.heap.size, 2, none⟩ (.int .u8 c)).setCell ⟨w.heap.size, 3, none⟩ (.int .u8 d)).setCell ⟨w.heap.size, 4, none⟩ (.int .i64 p))).heap[w.heap.size]? = some (.cells #[.int .u8 a, .int .u8 b, .int .u8 c, .int .u8 d, .int .i64 p] 31 (0, 0)) := blk_put (blk_put (blk_put (blk_put (blk_put h.2 0 _ rfl) 1 _ rfl) 2 _ rfl) 3 _ rfl) 4 _ rfl
theorem Rd.putB {w W : World} (h : Rd w W) (a b c d p : Int) : Below w.heap.size w ((((((W.setCell ⟨w.heap.size, 0, none⟩ (.int .u8 a)).setCell ⟨w.heap.size, 1, none⟩ (.int .u8 b)).setCell ⟨w.heap.size, 2, none⟩ (.int .u8 c)).setCell ⟨w.heap.size, 3, none⟩ (.int .u8 d)).setCell ⟨w.heap.size, 4, none⟩ (.int .i64 p))) := ((((h.1.setCell (Nat.le_refl _) _).setCell (Nat.le_refl _) _).setCell (Nat.le_refl _) _).setCell (Nat.le_refl _) _).setCell (Nat.le_refl _) _
theorem Rd.putE {w W : World} (h : Rd w W) {ak af : Addr} {n : Int} {e : Value} (he : ErrIs W ak af n e) (a b c d p : Int) : ErrIs ((((((W.setCell ⟨w.heap.size, 0, none⟩ (.int .u8 a)).setCell ⟨w.heap.size, 1, none⟩ (.int .u8 b)).setCell ⟨w.heap.size, 2, none⟩ (.int .u8 c)).setCell ⟨w.heap.size, 3, none⟩ (.int .u8 d)).setCell ⟨w.heap.size, 4, none⟩ (.int .i64 p))) ak af n e :=
  ((((he.put h.2 0 _).put (blk_put h.2 0 _ rfl) 1 _).put (blk_put (blk_put h.2 0 _ rfl) 1 _ rfl) 2 _).put (blk_put (blk_put (blk_put h.2 0 _ rfl) 1 _ rfl) 2 _ rfl) 3 _).put (blk_put (blk_put (blk_put (blk_put h.2 0 _ rfl) 1 _ rfl) 2 _ rfl) 3 _ rfl) 4 _
/-- What reads so. -/
def ReadIs (w : World) (ak af : Addr) (o : Out) (ev : Ending) (w' : World) : Prop := ∃ e, ev = .returned (.tuple #[outV o, e]) ∧ ErrIs w' ak af (outN o) e ∧ Below w.heap.size w w'

set_option maxHeartbeats 4000000 in
set_option maxRecDepth 100000 in
theorem read_short (s : ByteArray) (w : World) (ak af : Addr) (hx : Ex w ak af) (h : s.data.toList = [] ∨ ∃ m l, s.data.toList = m :: l ∧ isMark m = false) :
    Calls Tryd.prog 30 #[.string s] w (ReadIs w ak af (readE s.data.toList)) := by
  have HX := Aside0.mk hx
  clear hx
  rcases h with h | ⟨m, l, h, hk⟩
  · have HF := Aside0.mk (show readE s.data.toList = .form from by rw [h]; rfl)
    have hemp : s.toList = [] := by rw [ByteArray.toList_eq]; exact h
    clear h
    go_enter Tryd.func30, Tryd.ntmps30
    go_wp2
    refine wp_at (fun W => Rd w W) (Rd.start w) (fun W0 hR0 => ?_)
    have HR := Aside0.mk hR0
    clear hR0
    obtain ⟨qc0, qc1, qc2, qc3, qc4, qf0, qf1, qf2, qf3, qf4⟩ := HR.out.facts
    go_region_with (go_at_call 46; refine (form_callsO ak af _ (HX.out.below HR.out.drew.1)).mono ?_; rintro ev w9 ⟨x, rfl, hx9, hb9⟩; have HX9 := Aside0.mk hx9; have HR9 := Aside0.mk (HR.out.drew.below hb9); clear hx9 hb9; obtain ⟨yc0, yc1, yc2, yc3, yc4, yf0, yf1, yf2, yf3, yf4⟩ := HR9.out.facts)
    all_goals
      go_wp2
      try simp only [Exit.inBlock, Exit.then]
      refine bodyPost_ret (res_read _ _ w.heap.size 0 0 0 0 0 x rfl rfl (HR9.out.putV 0 0 0 0 0)) rfl ⟨x, ?_, ?_, ?_⟩
      · first | (rw [HF.out]; rfl) | rfl
      · rw [HF.out]; exact HR9.out.putE HX9.out 0 0 0 0 0
      · exact HR9.out.putB 0 0 0 0 0
  · have HF := Aside0.mk (show readE s.data.toList = .form from by rw [h]; exact if_pos hk)
    have hne : s.toList.isEmpty = false := by rw [ByteArray.toList_eq, h]; rfl
    have h0s : 0 < s.size := by rw [← data_length, h]; exact Nat.succ_pos _
    have h0c : ∀ h : 0 < s.size, ((s[0]'h).toNat : Int) = (m.toNat : Int) := fun hh => by have e := bt_byte s 0 (by rw [h]; simp); simp only [h, List.getElem_cons_zero] at e; rw [← e]; exact bt_at s 0 hh
    have HK := Aside0.mk (fun W => mark_calls m W)
    rw [hk] at HK
    obtain ⟨x, hx⟩ : ∃ x, x = m.toNat := ⟨_, rfl⟩
    rw [← hx] at h0c HK
    clear h hk hx
    go_enter Tryd.func30, Tryd.ntmps30
    go_wp2_with (go_at_call 34; refine (HK.out _).mono ?_; rintro e w3 ⟨rfl, hw⟩; obtain rfl := hw.symm)
    refine wp_at (fun W => Rd w W) (Rd.start w) (fun W0 hR0 => ?_)
    have HR := Aside0.mk hR0
    clear hR0
    obtain ⟨qc0, qc1, qc2, qc3, qc4, qf0, qf1, qf2, qf3, qf4⟩ := HR.out.facts
    go_region_with (go_at_call 46; refine (form_callsO ak af _ (HX.out.below HR.out.drew.1)).mono ?_; rintro ev w9 ⟨x, rfl, hx9, hb9⟩; have HX9 := Aside0.mk hx9; have HR9 := Aside0.mk (HR.out.drew.below hb9); clear hx9 hb9; obtain ⟨yc0, yc1, yc2, yc3, yc4, yf0, yf1, yf2, yf3, yf4⟩ := HR9.out.facts)
    all_goals
      go_wp2
      try simp only [Exit.inBlock, Exit.then]
      refine bodyPost_ret (res_read _ _ w.heap.size 0 0 0 0 0 x rfl rfl (HR9.out.putV 0 0 0 0 0)) rfl ⟨x, ?_, ?_, ?_⟩
      · first | (rw [HF.out]; rfl) | rfl
      · rw [HF.out]; exact HR9.out.putE HX9.out 0 0 0 0 0
      · exact HR9.out.putB 0 0 0 0 0
end Go.Proofs.YtdcbkeihgbekdaaDoor.Ext

namespace Go.Proofs.YtdcbkeihgbekdaaDoor.Ext
open Go Go.RowKit Go.Proofs.YtdcbkeihgbekdaaDoorW.PrintWords Go.Proofs.YtdcbkeihgbekdaaDoorW.PrintLast Go.Proofs.YtdcbkeihgbekdaaDoorW.PrintMore Go.Proofs.YtdcbkeihgbekdaaDoor.Dig Go.Proofs.YtdcbkeihgbekdaaDoor.Quad Go.Proofs.YtdcbkeihgbekdaaDoor.ExtP Go.Proofs.YtdcbkeihgbekdaaDoor.SixP
set_option linter.unusedVariables false
set_option linter.unusedSimpArgs false

theorem read_parts {l : List UInt8} {m : UInt8} {r : List UInt8} (h : l = m :: r) (hk : isMark m = true) : readE l = match Cut.cut m l with
    | [_, k, h, n, t] => five k h n t
    | _ => .form := by
  subst h
  show (if isMark m = false then Out.form else _) = _
  rw [if_neg (by rw [hk]; decide)]
  rfl
theorem cut_le {c : UInt8} : ∀ {l p : List UInt8}, p ∈ Cut.cut c l → p.length ≤ l.length
  | [], p, h => by simp [Cut.cut] at h; simp [h]
  | b :: l, p, h => by
    unfold Cut.cut at h
    split at h
    · rcases List.mem_cons.1 h with rfl | h
      · simp
      · exact Nat.le_succ_of_le (cut_le h)
    · match hq : Cut.cut c l, h with
      | [], h => simp at h; simp [h]
      | q :: r, h =>
        rcases List.mem_cons.1 h with rfl | h
        · have := cut_le (show q ∈ Cut.cut c l from by rw [hq]; exact List.mem_cons_self ..)
          simpa using this
        · exact Nat.le_succ_of_le (cut_le (show p ∈ Cut.cut c l from by rw [hq]; exact List.mem_cons_of_mem _ h))
theorem read_not5 {l : List UInt8} {m : UInt8} {r : List UInt8} (h : l = m :: r) (hk : isMark m = true) (h5 : (Cut.cut m l).length ≠ 5) : readE l = .form := by
  rw [read_parts h hk]
  split
  · rename_i hc; rw [hc] at h5; exact absurd rfl h5
  · rfl
theorem new_at (w : World) (o : Obj) (n : Nat) (h : n = w.heap.size) : (w.alloc o).heap[n]? = some o := h ▸ blk_new w o
theorem set_same {cs : Array Value} {j : Nat} {v : Value} (h : cs[j]? = some v) : cs.setIfInBounds j v = cs := by
  apply Array.ext'
  rw [Array.toList_setIfInBounds]
  have : cs.toList[j]? = some v := by rw [Array.getElem?_toList]; exact h
  obtain ⟨hj, he⟩ := List.getElem?_eq_some_iff.1 this
  rw [← he, List.set_getElem_self]
theorem Rd.one {w W : World} (h : Rd w W) : Below w.heap.size w W := h.1
theorem Rd.two {w W : World} (h : Rd w W) : W.heap[w.heap.size]? = some (.cells #[.int .u8 0, .int .u8 0, .int .u8 0, .int .u8 0, .int .i64 0] 31 (0, 0)) := h.2
theorem Rd.drewW {w W : World} (h : Rd w W) : Rd w W.drew := h.drew
theorem Rd.alloc {w W : World} (h : Rd w W) (o : Obj) : Rd w (W.alloc o) := h.below ((Below.refl _ _).alloc (Nat.le_refl _) _)
theorem Rd.same {w W : World} (h : Rd w W) (j : Nat) (v : Value) (hv : (#[.int .u8 0, .int .u8 0, .int .u8 0, .int .u8 0, .int .i64 0] : Array Value)[j]? = some v) : Rd w (W.setCell ⟨w.heap.size, j, none⟩ v) := by
  refine ⟨h.1.setCell (Nat.le_refl _) _, ?_⟩
  exact blk_put h.2 j v (set_same hv)
theorem size_alloc (w : World) (o : Obj) : (w.alloc o).heap.size = w.heap.size + 1 := by simp

set_option maxHeartbeats 4000000 in
set_option maxRecDepth 100000 in
theorem read_one (s : ByteArray) (w : World) (ak af : Addr) (HX : Aside0 (Ex w ak af)) (HM : Aside0 (Mx w)) (hne : s.toList.isEmpty = false) (h0s : 0 < s.size) (x : Nat) (HK : Aside0 (∀ W, Calls Tryd.prog 34 #[.int .u8 (x : Int)] W fun e w' => e = .returned (.bool true) ∧ w' = W)) (h0c : ∀ h : 0 < s.size, ((s[0]'h).toNat : Int) = (x : Int)) (X : ByteArray) (hsl : ∀ W, (Instr.slice 9 (.string s) none (some (.int .i64 1)) none).run Tryd.prog W = .ok (.string X) W) (p0 p1 p2 p3 p4 : ByteArray)
    (HSP : Aside0 (∀ W, Mx W → Calls Tryd.prog 28 #[.string s, .string X] W fun e w' => e = .returned (.slice (some ⟨W.heap.size, 0, none⟩) 5 5) ∧ Below W.heap.size W w' ∧ w'.heap[W.heap.size]? = some (.cells #[.string p0, .string p1, .string p2, .string p3, .string p4] 9 (0, 0))))
    (HG1 : Aside0 (∀ W, Calls Tryd.prog 29 #[.string p1, .int .i64 9] W fun e w' => e = .returned (.tuple #[.int .i64 1, .bool true]) ∧ w' = W))
    (HG3 : Aside0 (∀ W, Calls Tryd.prog 29 #[.string p3, .int .i64 65535] W fun e w' => e = .returned (.tuple #[.int .i64 (Dig.get p3.data.toList 65535).1, .bool (Dig.get p3.data.toList 65535).2]) ∧ w' = W))
    (hg3 : Dig.get p3.data.toList ((65535 : Nat) : Int) = match getMost 65535 p3.data.toList with | some n => ((n : Int), true) | none => (0, false))
    (HQ : Aside0 (∀ W, Mx W → Calls Tryd.prog 47 #[.string p2] W fun e w' => e = .returned (readR (readN p2.data.toList)) ∧ Below W.heap.size W w')) (h4e : p4.toList = [])
    (HP5 : Aside0 (readE s.data.toList = match readN p2.data.toList, getMost 65535 p3.data.toList with | some (a, b, c, d), some p => if p = 0 then .form else .ok a b c d p | _, _ => .form)) :
    Calls Tryd.prog 30 #[.string s] w (ReadIs w ak af (readE s.data.toList)) := by
  cases hr : readN p2.data.toList with
  | none =>
    rw [hr] at HQ HP5
    have HF := Aside0.mk (show readE s.data.toList = .form from HP5.out)
    obtain ⟨g, b, hgb⟩ : ∃ g b, Dig.get p3.data.toList 65535 = (g, b) := ⟨_, _, rfl⟩
    rw [hgb] at HG3
    clear hg3 hgb hr HP5
    go_enter Tryd.func30, Tryd.ntmps30
    go_wp2_with (first
      | (go_at_call 34; refine (HK.out _).mono ?_; rintro e w3 ⟨rfl, hw⟩; obtain rfl := hw.symm)
      | (go_at_call 28; refine (HSP.out _ (HM.out.below (Rd.start w).1)).mono ?_; rintro e w1 ⟨rfl, hb1, hg1⟩; rw [size_alloc] at hg1; have HR := Aside0.mk ((Rd.start w).below hb1); have HG := Aside0.mk hg1; clear hb1 hg1; have g1 : w1.cell? ⟨w.heap.size + 1, 1, none⟩ = some (.string p1) := (blk_cell HG.out 1).trans rfl; have g2 : w1.cell? ⟨w.heap.size + 1, 2, none⟩ = some (.string p2) := (blk_cell HG.out 2).trans rfl; have g4 : w1.cell? ⟨w.heap.size + 1, 4, none⟩ = some (.string p4) := (blk_cell HG.out 4).trans rfl)
      | (go_at_call 29; with_reducible refine (HG1.out _).mono ?_; rintro e w3 ⟨rfl, hw⟩; obtain rfl := hw.symm)
      | (go_at_call 47; refine (HQ.out _ (HM.out.below HR.out.1)).mono ?_; rintro e w5 ⟨rfl, hb5⟩; replace HR := Aside0.mk (HR.out.below hb5); replace HG := Aside0.mk (blk_below HG.out hb5); clear hb5; have g3 : ∀ o, (w5.alloc o).cell? ⟨w.heap.size + 1, 3, none⟩ = some (.string p3) := fun o => (blk_cell (blk_alloc HG.out o) 3).trans rfl; have hlt5 := Aside0.mk (blk_lt HG.out); have hne1 : w.heap.size + 1 ≠ w5.heap.size := Nat.ne_of_lt hlt5.out; have hne2 : w5.heap.size ≠ w.heap.size + 1 := Nat.ne_of_gt hlt5.out; simp only [readR])
      | (go_at_call 29; with_reducible refine (HG3.out _).mono ?_; rintro e w3 ⟨rfl, hw⟩; obtain rfl := hw.symm))
    refine wp_at (fun W => Rd w W) (HR.out.alloc _) (fun W0 hR0 => ?_)
    replace HR := Aside0.mk hR0
    clear hR0
    obtain ⟨qc0, qc1, qc2, qc3, qc4, qf0, qf1, qf2, qf3, qf4⟩ := HR.out.facts
    go_region_with (go_at_call 46; refine (form_callsO ak af _ (HX.out.below HR.out.drew.1)).mono ?_; rintro ev w9 ⟨x, rfl, hx9, hb9⟩; have HX9 := Aside0.mk hx9; have HR9 := Aside0.mk (HR.out.drew.below hb9); clear hx9 hb9; obtain ⟨yc0, yc1, yc2, yc3, yc4, yf0, yf1, yf2, yf3, yf4⟩ := HR9.out.facts)
    all_goals
      go_wp2
      try simp only [Exit.inBlock, Exit.then]
      refine bodyPost_ret (res_read _ _ w.heap.size 0 0 0 0 0 x rfl rfl (HR9.out.putV 0 0 0 0 0)) rfl ⟨x, ?_, ?_, ?_⟩
      · first | (rw [HF.out]; rfl) | rfl
      · rw [HF.out]; exact HR9.out.putE HX9.out 0 0 0 0 0
      · exact HR9.out.putB 0 0 0 0 0

  | some t =>
    obtain ⟨a, b, c, d⟩ := t
    rw [hr] at HQ HP5
    have hpl : HQ.out = HQ.out := rfl
    cases hn : getMost 65535 p3.data.toList with
    | none =>
      rw [hn] at hg3 HP5
      have HF := Aside0.mk (show readE s.data.toList = .form from HP5.out)
      rw [show Dig.get p3.data.toList 65535 = _ from hg3] at HG3
      clear hg3 hn hr HP5 hpl
      go_enter Tryd.func30, Tryd.ntmps30
      go_wp2_with (first
        | (go_at_call 34; refine (HK.out _).mono ?_; rintro e w3 ⟨rfl, hw⟩; obtain rfl := hw.symm)
        | (go_at_call 28; refine (HSP.out _ (HM.out.below (Rd.start w).1)).mono ?_; rintro e w1 ⟨rfl, hb1, hg1⟩; rw [size_alloc] at hg1; have HR := Aside0.mk ((Rd.start w).below hb1); have HG := Aside0.mk hg1; clear hb1 hg1; have g1 : w1.cell? ⟨w.heap.size + 1, 1, none⟩ = some (.string p1) := (blk_cell HG.out 1).trans rfl; have g2 : w1.cell? ⟨w.heap.size + 1, 2, none⟩ = some (.string p2) := (blk_cell HG.out 2).trans rfl; have g4 : w1.cell? ⟨w.heap.size + 1, 4, none⟩ = some (.string p4) := (blk_cell HG.out 4).trans rfl)
        | (go_at_call 29; with_reducible refine (HG1.out _).mono ?_; rintro e w3 ⟨rfl, hw⟩; obtain rfl := hw.symm)
        | (go_at_call 47; refine (HQ.out _ (HM.out.below HR.out.1)).mono ?_; rintro e w5 ⟨rfl, hb5⟩; replace HR := Aside0.mk (HR.out.below hb5); replace HG := Aside0.mk (blk_below HG.out hb5); clear hb5; have g3 : ∀ o, (w5.alloc o).cell? ⟨w.heap.size + 1, 3, none⟩ = some (.string p3) := fun o => (blk_cell (blk_alloc HG.out o) 3).trans rfl; have hlt5 := Aside0.mk (blk_lt HG.out); have hne1 : w.heap.size + 1 ≠ w5.heap.size := Nat.ne_of_lt hlt5.out; have hne2 : w5.heap.size ≠ w.heap.size + 1 := Nat.ne_of_gt hlt5.out; simp only [readR])
        | (go_at_call 29; with_reducible refine (HG3.out _).mono ?_; rintro e w3 ⟨rfl, hw⟩; obtain rfl := hw.symm))
      refine wp_at (fun W => Rd w W) (HR.out.alloc _) (fun W0 hR0 => ?_)
      replace HR := Aside0.mk hR0
      clear hR0
      obtain ⟨qc0, qc1, qc2, qc3, qc4, qf0, qf1, qf2, qf3, qf4⟩ := HR.out.facts
      go_region_with (go_at_call 46; refine (form_callsO ak af _ (HX.out.below HR.out.drew.1)).mono ?_; rintro ev w9 ⟨x, rfl, hx9, hb9⟩; have HX9 := Aside0.mk hx9; have HR9 := Aside0.mk (HR.out.drew.below hb9); clear hx9 hb9; obtain ⟨yc0, yc1, yc2, yc3, yc4, yf0, yf1, yf2, yf3, yf4⟩ := HR9.out.facts)
      all_goals
        go_wp2
        try simp only [Exit.inBlock, Exit.then]
        refine bodyPost_ret (res_read _ _ w.heap.size 0 0 0 0 0 x rfl rfl (HR9.out.putV 0 0 0 0 0)) rfl ⟨x, ?_, ?_, ?_⟩
        · first | (rw [HF.out]; rfl) | rfl
        · rw [HF.out]; exact HR9.out.putE HX9.out 0 0 0 0 0
        · exact HR9.out.putB 0 0 0 0 0

    | some n =>
      rw [hn] at hg3 HP5
      rw [show Dig.get p3.data.toList 65535 = _ from hg3] at HG3
      have hn5 := ((getMost_iff 65535 (by decide) _ _).1 hn).2
      have HP6 := Aside0.mk (show readE s.data.toList = if n = 0 then .form else .ok a b c d n from HP5.out)
      clear hg3 hn hr HP5 hpl
      by_cases h0 : n = 0
      · subst h0
        have HF := Aside0.mk (show readE s.data.toList = .form from HP6.out)
        have HPT := Aside0.mk (fun W => port_calls ((0 : Nat) : Int) W)
        rw [show decide (0 < ((0 : Nat) : Int) ∧ ((0 : Nat) : Int) ≤ 65535) = false from rfl] at HPT
        clear HP6
        go_enter Tryd.func30, Tryd.ntmps30
        go_wp2_with (first
          | (go_at_call 34; refine (HK.out _).mono ?_; rintro e w3 ⟨rfl, hw⟩; obtain rfl := hw.symm)
          | (go_at_call 28; refine (HSP.out _ (HM.out.below (Rd.start w).1)).mono ?_; rintro e w1 ⟨rfl, hb1, hg1⟩; rw [size_alloc] at hg1; have HR := Aside0.mk ((Rd.start w).below hb1); have HG := Aside0.mk hg1; clear hb1 hg1; have g1 : w1.cell? ⟨w.heap.size + 1, 1, none⟩ = some (.string p1) := (blk_cell HG.out 1).trans rfl; have g2 : w1.cell? ⟨w.heap.size + 1, 2, none⟩ = some (.string p2) := (blk_cell HG.out 2).trans rfl; have g4 : w1.cell? ⟨w.heap.size + 1, 4, none⟩ = some (.string p4) := (blk_cell HG.out 4).trans rfl)
          | (go_at_call 29; with_reducible refine (HG1.out _).mono ?_; rintro e w3 ⟨rfl, hw⟩; obtain rfl := hw.symm)
          | (go_at_call 47; refine (HQ.out _ (HM.out.below HR.out.1)).mono ?_; rintro e w5 ⟨rfl, hb5⟩; replace HR := Aside0.mk (HR.out.below hb5); replace HG := Aside0.mk (blk_below HG.out hb5); clear hb5; have g3 : ∀ o, (w5.alloc o).cell? ⟨w.heap.size + 1, 3, none⟩ = some (.string p3) := fun o => (blk_cell (blk_alloc HG.out o) 3).trans rfl; have hlt5 := Aside0.mk (blk_lt HG.out); have hne1 : w.heap.size + 1 ≠ w5.heap.size := Nat.ne_of_lt hlt5.out; have hne2 : w5.heap.size ≠ w.heap.size + 1 := Nat.ne_of_gt hlt5.out; simp only [readR])
          | (go_at_call 29; with_reducible refine (HG3.out _).mono ?_; rintro e w3 ⟨rfl, hw⟩; obtain rfl := hw.symm)
          | (go_at_call 37; refine (HPT.out _).mono ?_; rintro e w6 ⟨rfl, hw⟩; obtain rfl := hw.symm))
        refine wp_at (fun W => Rd w W) (HR.out.alloc _) (fun W0 hR0 => ?_)
        replace HR := Aside0.mk hR0
        clear hR0
        obtain ⟨qc0, qc1, qc2, qc3, qc4, qf0, qf1, qf2, qf3, qf4⟩ := HR.out.facts
        go_region_with (go_at_call 46; refine (form_callsO ak af _ (HX.out.below HR.out.drew.1)).mono ?_; rintro ev w9 ⟨x, rfl, hx9, hb9⟩; have HX9 := Aside0.mk hx9; have HR9 := Aside0.mk (HR.out.drew.below hb9); clear hx9 hb9; obtain ⟨yc0, yc1, yc2, yc3, yc4, yf0, yf1, yf2, yf3, yf4⟩ := HR9.out.facts)
        all_goals
          go_wp2
          try simp only [Exit.inBlock, Exit.then]
          refine bodyPost_ret (res_read _ _ w.heap.size 0 0 0 0 0 x rfl rfl (HR9.out.putV 0 0 0 0 0)) rfl ⟨x, ?_, ?_, ?_⟩
          · first | (rw [HF.out]; rfl) | rfl
          · rw [HF.out]; exact HR9.out.putE HX9.out 0 0 0 0 0
          · exact HR9.out.putB 0 0 0 0 0

      · have HF := Aside0.mk (show readE s.data.toList = .ok a b c d n from by rw [HP6.out, if_neg h0])
        have HPT := Aside0.mk (fun W => port_calls (n : Int) W)
        rw [decide_eq_true (show 0 < (n : Int) ∧ (n : Int) ≤ 65535 from by omega)] at HPT
        clear HP6
        go_enter Tryd.func30, Tryd.ntmps30
        go_wp2_with (first
          | (go_at_call 34; refine (HK.out _).mono ?_; rintro e w3 ⟨rfl, hw⟩; obtain rfl := hw.symm)
          | (go_at_call 28; refine (HSP.out _ (HM.out.below (Rd.start w).1)).mono ?_; rintro e w1 ⟨rfl, hb1, hg1⟩; rw [size_alloc] at hg1; have HR := Aside0.mk ((Rd.start w).below hb1); have HG := Aside0.mk hg1; clear hb1 hg1; have g1 : w1.cell? ⟨w.heap.size + 1, 1, none⟩ = some (.string p1) := (blk_cell HG.out 1).trans rfl; have g2 : w1.cell? ⟨w.heap.size + 1, 2, none⟩ = some (.string p2) := (blk_cell HG.out 2).trans rfl; have g4 : w1.cell? ⟨w.heap.size + 1, 4, none⟩ = some (.string p4) := (blk_cell HG.out 4).trans rfl)
          | (go_at_call 29; with_reducible refine (HG1.out _).mono ?_; rintro e w3 ⟨rfl, hw⟩; obtain rfl := hw.symm)
          | (go_at_call 47; refine (HQ.out _ (HM.out.below HR.out.1)).mono ?_; rintro e w5 ⟨rfl, hb5⟩; replace HR := Aside0.mk (HR.out.below hb5); replace HG := Aside0.mk (blk_below HG.out hb5); clear hb5; have g3 : ∀ o, (w5.alloc o).cell? ⟨w.heap.size + 1, 3, none⟩ = some (.string p3) := fun o => (blk_cell (blk_alloc HG.out o) 3).trans rfl; have hlt5 := Aside0.mk (blk_lt HG.out); have hne1 : w.heap.size + 1 ≠ w5.heap.size := Nat.ne_of_lt hlt5.out; have hne2 : w5.heap.size ≠ w.heap.size + 1 := Nat.ne_of_gt hlt5.out; simp only [readR]; obtain ⟨yc0, yc1, yc2, yc3, yc4, yf0, yf1, yf2, yf3, yf4⟩ := (HR.out.alloc (.cells #[.int .u8 a, .int .u8 b, .int .u8 c, .int .u8 d] 28)).facts)
          | (go_at_call 29; with_reducible refine (HG3.out _).mono ?_; rintro e w3 ⟨rfl, hw⟩; obtain rfl := hw.symm)
          | (go_at_call 37; refine (HPT.out _).mono ?_; rintro e w6 ⟨rfl, hw⟩; obtain rfl := hw.symm))
        try simp only [Exit.inBlock, Exit.then]
        refine bodyPost_ret (res_read _ _ w.heap.size a b c d n _ rfl rfl ((HR.out.alloc _).putV a b c d n)) rfl ⟨.nilIface, ?_, ?_, ?_⟩
        · first | (rw [HF.out]; rfl) | rfl
        · rw [HF.out]; exact .nil
        · exact (HR.out.alloc _).putB a b c d n


end Go.Proofs.YtdcbkeihgbekdaaDoor.Ext

namespace Go.Proofs.YtdcbkeihgbekdaaDoor.Ext
open Go Go.RowKit Go.Proofs.YtdcbkeihgbekdaaDoorW.PrintWords Go.Proofs.YtdcbkeihgbekdaaDoorW.PrintLast Go.Proofs.YtdcbkeihgbekdaaDoorW.PrintMore Go.Proofs.YtdcbkeihgbekdaaDoor.Dig Go.Proofs.YtdcbkeihgbekdaaDoor.Quad Go.Proofs.YtdcbkeihgbekdaaDoor.ExtP Go.Proofs.YtdcbkeihgbekdaaDoor.SixP
set_option linter.unusedVariables false
set_option linter.unusedSimpArgs false

set_option maxHeartbeats 4000000 in
set_option maxRecDepth 100000 in
theorem read_not (s : ByteArray) (hs : s.size ≤ 1000000) (w : World) (hm : Mx w) (ak af : Addr) (hx : Ex w ak af) (m : UInt8) (l : List UInt8) (h : s.data.toList = m :: l) (hk : isMark m = true) (h5 : (Cut.cut m s.data.toList).length ≠ 5) :
    Calls Tryd.prog 30 #[.string s] w (ReadIs w ak af (readE s.data.toList)) := by
  have HX := Aside0.mk hx
  have HM := Aside0.mk hm
  clear hx hm
  have hne : s.toList.isEmpty = false := by rw [ByteArray.toList_eq, h]; rfl
  have h0s : 0 < s.size := by rw [← data_length, h]; exact Nat.succ_pos _
  have h0c : ∀ h : 0 < s.size, ((s[0]'h).toNat : Int) = (m.toNat : Int) := fun hh => by have e := bt_byte s 0 (by rw [h]; simp); simp only [h, List.getElem_cons_zero] at e; rw [← e]; exact bt_at s 0 hh
  have HK := Aside0.mk (fun W => mark_calls m W)
  rw [hk] at HK
  obtain ⟨x, hx⟩ : ∃ x, x = m.toNat := ⟨_, rfl⟩
  rw [← hx] at h0c HK
  obtain ⟨X, hX⟩ : ∃ X : ByteArray, X = ⟨#[m]⟩ := ⟨_, rfl⟩
  have hsl : ∀ W, (Instr.slice 9 (.string s) none (some (.int .i64 1)) none).run Tryd.prog W = .ok (.string X) W := slice_1 s X h0s (by rw [h, hX]; rfl)
  obtain ⟨ps, hps, hsp⟩ := split_calls m s (by omega)
  obtain ⟨N, hN⟩ : ∃ N, N = ps.length := ⟨_, rfl⟩
  have hN5 : ((N : Int) != 5) = true := by
    rw [bne_iff_ne]
    have := congrArg List.length hps
    rw [List.length_map] at this
    omega
  have HSP := Aside0.mk (show ∀ W, Mx W → Calls Tryd.prog 28 #[.string s, .string X] W fun e w' => e = .returned (.slice (some ⟨W.heap.size, 0, none⟩) N N) ∧ Below W.heap.size W w' ∧ True from fun W hW => by
    rw [hX, hN]
    refine (hsp W hW).mono ?_
    rintro e w' ⟨he, rfl⟩
    exact ⟨he, (Below.refl _ _).alloc (Nat.le_refl _) _, trivial⟩)
  have HF := Aside0.mk (read_not5 h hk h5)
  clear hps hsp h hk h5 hx hX hN hs
  go_enter Tryd.func30, Tryd.ntmps30
  go_wp2_with (first
    | (go_at_call 34; refine (HK.out _).mono ?_; rintro e w3 ⟨rfl, hw⟩; obtain rfl := hw.symm)
    | (go_at_call 28; refine (HSP.out _ (HM.out.below (Rd.start w).1)).mono ?_; rintro e w1 ⟨rfl, hb1, hg1⟩; have HR := Aside0.mk ((Rd.start w).below hb1); have HG := Aside0.mk hg1; clear hb1 hg1))
  refine wp_at (fun W => Rd w W) HR.out (fun W0 hR0 => ?_)
  replace HR := Aside0.mk hR0
  clear hR0
  obtain ⟨qc0, qc1, qc2, qc3, qc4, qf0, qf1, qf2, qf3, qf4⟩ := HR.out.facts
  go_region_with (go_at_call 46; refine (form_callsO ak af _ (HX.out.below HR.out.drew.1)).mono ?_; rintro ev w9 ⟨x, rfl, hx9, hb9⟩; have HX9 := Aside0.mk hx9; have HR9 := Aside0.mk (HR.out.drew.below hb9); clear hx9 hb9; obtain ⟨yc0, yc1, yc2, yc3, yc4, yf0, yf1, yf2, yf3, yf4⟩ := HR9.out.facts)
  all_goals
    go_wp2
    try simp only [Exit.inBlock, Exit.then]
    refine bodyPost_ret (res_read _ _ w.heap.size 0 0 0 0 0 x rfl rfl (HR9.out.putV 0 0 0 0 0)) rfl ⟨x, ?_, ?_, ?_⟩
    · first | (rw [HF.out]; rfl) | rfl
    · rw [HF.out]; exact HR9.out.putE HX9.out 0 0 0 0 0
    · exact HR9.out.putB 0 0 0 0 0

set_option maxHeartbeats 4000000 in
set_option maxRecDepth 100000 in
theorem read_five (s : ByteArray) (hs : s.size ≤ 1000000) (w : World) (hm : Mx w) (ak af : Addr) (hx : Ex w ak af) (m : UInt8) (l : List UInt8) (h : s.data.toList = m :: l) (hk : isMark m = true) (h5 : (Cut.cut m s.data.toList).length = 5) :
    Calls Tryd.prog 30 #[.string s] w (ReadIs w ak af (readE s.data.toList)) := by
  have HX := Aside0.mk hx
  have HM := Aside0.mk hm
  clear hx hm
  have hne : s.toList.isEmpty = false := by rw [ByteArray.toList_eq, h]; rfl
  have h0s : 0 < s.size := by rw [← data_length, h]; exact Nat.succ_pos _
  have h0c : ∀ h : 0 < s.size, ((s[0]'h).toNat : Int) = (m.toNat : Int) := fun hh => by have e := bt_byte s 0 (by rw [h]; simp); simp only [h, List.getElem_cons_zero] at e; rw [← e]; exact bt_at s 0 hh
  have HK := Aside0.mk (fun W => mark_calls m W)
  rw [hk] at HK
  obtain ⟨x, hx⟩ : ∃ x, x = m.toNat := ⟨_, rfl⟩
  rw [← hx] at h0c HK
  obtain ⟨X, hX⟩ : ∃ X : ByteArray, X = ⟨#[m]⟩ := ⟨_, rfl⟩
  have hsl : ∀ W, (Instr.slice 9 (.string s) none (some (.int .i64 1)) none).run Tryd.prog W = .ok (.string X) W := slice_1 s X h0s (by rw [h, hX]; rfl)
  obtain ⟨ps, hps, hsp⟩ := split_calls m s (by omega)
  have hpl : ps.length = 5 := by rw [← h5, ← hps, List.length_map]
  have hle : ∀ p ∈ ps, p.size ≤ 1000000 := fun p hp => by
    have hmem : p.data.toList ∈ Cut.cut m s.data.toList := by rw [← hps]; exact List.mem_map_of_mem hp
    have := cut_le hmem
    rw [data_length, data_length] at this; omega
  match ps, hpl, hps, hsp, hle with
  | [p0, p1, p2, p3, p4], _, hps, hsp, hle =>
    have HSP := Aside0.mk (show ∀ W, Mx W → Calls Tryd.prog 28 #[.string s, .string X] W fun e w' => e = .returned (.slice (some ⟨W.heap.size, 0, none⟩) 5 5) ∧ Below W.heap.size W w' ∧ w'.heap[W.heap.size]? = some (.cells #[.string p0, .string p1, .string p2, .string p3, .string p4] 9 (0, 0)) from fun W hW => by
      rw [hX]
      refine (hsp W hW).mono ?_
      rintro e w' ⟨he, rfl⟩
      exact ⟨he, (Below.refl _ _).alloc (Nat.le_refl _) _, blk_new _ _⟩)
    have HP := Aside0.mk (show readE s.data.toList = five p1.data.toList p2.data.toList p3.data.toList p4.data.toList from by
      rw [read_parts h hk, ← hps]; rfl)
    have HG1 := Aside0.mk (fun W => get_calls p1 9 W)
    have HG3 := Aside0.mk (fun W => get_calls p3 65535 W)
    have hg1 := getMost_get 9 p1.data.toList
    have hg3 := getMost_get 65535 p3.data.toList
    have HQ := Aside0.mk (fun W hW => Quad.read_calls p2 (by have := hle p2 (by simp); omega) W hW)
    clear hps hsp h hk h5 hx hX hs hle
    by_cases h4 : p4.data.toList = []
    · have h4e : p4.toList = [] := by rw [ByteArray.toList_eq]; exact h4
      have HP4 := Aside0.mk (show readE s.data.toList = five p1.data.toList p2.data.toList p3.data.toList [] from by rw [HP.out, h4])
      clear h4
      cases hk1 : getMost 9 p1.data.toList with
      | none =>
        rw [hk1] at hg1
        rw [show Dig.get p1.data.toList 9 = _ from hg1] at HG1
        have HF := Aside0.mk (show readE s.data.toList = .form from by rw [HP4.out, five, if_neg (by simp), hk1])
        clear hg1 hg3 hk1
        go_enter Tryd.func30, Tryd.ntmps30
        go_wp2_with (first
          | (go_at_call 34; refine (HK.out _).mono ?_; rintro e w3 ⟨rfl, hw⟩; obtain rfl := hw.symm)
          | (go_at_call 28; refine (HSP.out _ (HM.out.below (Rd.start w).1)).mono ?_; rintro e w1 ⟨rfl, hb1, hg1⟩; rw [size_alloc] at hg1; have HR := Aside0.mk ((Rd.start w).below hb1); have HG := Aside0.mk hg1; clear hb1 hg1; have g1 : w1.cell? ⟨w.heap.size + 1, 1, none⟩ = some (.string p1) := (blk_cell HG.out 1).trans rfl; have g4 : w1.cell? ⟨w.heap.size + 1, 4, none⟩ = some (.string p4) := (blk_cell HG.out 4).trans rfl)
          | (go_at_call 29; with_reducible refine (HG1.out _).mono ?_; rintro e w3 ⟨rfl, hw⟩; obtain rfl := hw.symm))
        refine wp_at (fun W => Rd w W) HR.out (fun W0 hR0 => ?_)
        replace HR := Aside0.mk hR0
        clear hR0
        obtain ⟨qc0, qc1, qc2, qc3, qc4, qf0, qf1, qf2, qf3, qf4⟩ := HR.out.facts
        go_region_with (go_at_call 46; refine (form_callsO ak af _ (HX.out.below HR.out.drew.1)).mono ?_; rintro ev w9 ⟨x, rfl, hx9, hb9⟩; have HX9 := Aside0.mk hx9; have HR9 := Aside0.mk (HR.out.drew.below hb9); clear hx9 hb9; obtain ⟨yc0, yc1, yc2, yc3, yc4, yf0, yf1, yf2, yf3, yf4⟩ := HR9.out.facts)
        all_goals
          go_wp2
          try simp only [Exit.inBlock, Exit.then]
          refine bodyPost_ret (res_read _ _ w.heap.size 0 0 0 0 0 x rfl rfl (HR9.out.putV 0 0 0 0 0)) rfl ⟨x, ?_, ?_, ?_⟩
          · first | (rw [HF.out]; rfl) | rfl
          · rw [HF.out]; exact HR9.out.putE HX9.out 0 0 0 0 0
          · exact HR9.out.putB 0 0 0 0 0
      | some k =>
        rw [hk1] at hg1
        rw [show Dig.get p1.data.toList 9 = _ from hg1] at HG1
        have hk9 := ((getMost_iff 9 (by decide) _ _).1 hk1).2
        match k, hk1, HG1, hk9 with
        | 0, hk1, HG1, hk9 =>
          have HF := Aside0.mk (show readE s.data.toList = .form from by rw [HP4.out, five, if_neg (by simp), hk1]; rfl)
          clear hg1 hg3 hk1
          go_enter Tryd.func30, Tryd.ntmps30
          go_wp2_with (first
            | (go_at_call 34; refine (HK.out _).mono ?_; rintro e w3 ⟨rfl, hw⟩; obtain rfl := hw.symm)
            | (go_at_call 28; refine (HSP.out _ (HM.out.below (Rd.start w).1)).mono ?_; rintro e w1 ⟨rfl, hb1, hg1⟩; rw [size_alloc] at hg1; have HR := Aside0.mk ((Rd.start w).below hb1); have HG := Aside0.mk hg1; clear hb1 hg1; have g1 : w1.cell? ⟨w.heap.size + 1, 1, none⟩ = some (.string p1) := (blk_cell HG.out 1).trans rfl; have g4 : w1.cell? ⟨w.heap.size + 1, 4, none⟩ = some (.string p4) := (blk_cell HG.out 4).trans rfl)
            | (go_at_call 29; with_reducible refine (HG1.out _).mono ?_; rintro e w3 ⟨rfl, hw⟩; obtain rfl := hw.symm))
          refine wp_at (fun W => Rd w W) HR.out (fun W0 hR0 => ?_)
          replace HR := Aside0.mk hR0
          clear hR0
          obtain ⟨qc0, qc1, qc2, qc3, qc4, qf0, qf1, qf2, qf3, qf4⟩ := HR.out.facts
          go_region_with (go_at_call 46; refine (form_callsO ak af _ (HX.out.below HR.out.drew.1)).mono ?_; rintro ev w9 ⟨x, rfl, hx9, hb9⟩; have HX9 := Aside0.mk hx9; have HR9 := Aside0.mk (HR.out.drew.below hb9); clear hx9 hb9; obtain ⟨yc0, yc1, yc2, yc3, yc4, yf0, yf1, yf2, yf3, yf4⟩ := HR9.out.facts)
          all_goals
            go_wp2
            try simp only [Exit.inBlock, Exit.then]
            refine bodyPost_ret (res_read _ _ w.heap.size 0 0 0 0 0 x rfl rfl (HR9.out.putV 0 0 0 0 0)) rfl ⟨x, ?_, ?_, ?_⟩
            · first | (rw [HF.out]; rfl) | rfl
            · rw [HF.out]; exact HR9.out.putE HX9.out 0 0 0 0 0
            · exact HR9.out.putB 0 0 0 0 0
        | k + 2, hk1, HG1, hk9 =>
          have HF := Aside0.mk (show readE s.data.toList = .kind from by rw [HP4.out, five, if_neg (by simp), hk1]; rfl)
          obtain ⟨q, hq⟩ : ∃ q, q = k + 2 := ⟨_, rfl⟩
          rw [← hq] at HG1
          have hq0 : ((q : Int) == 0) = false := beq_eq_false_iff_ne.2 (by omega)
          have hq1 : ((q : Int) != 1) = true := bne_iff_ne.2 (by omega)
          have hq2 : ¬ q = 0 := by omega
          clear hg1 hg3 hk1 hq hk9
          go_enter Tryd.func30, Tryd.ntmps30
          go_wp2_with (first
            | (go_at_call 34; refine (HK.out _).mono ?_; rintro e w3 ⟨rfl, hw⟩; obtain rfl := hw.symm)
            | (go_at_call 28; refine (HSP.out _ (HM.out.below (Rd.start w).1)).mono ?_; rintro e w1 ⟨rfl, hb1, hg1⟩; rw [size_alloc] at hg1; have HR := Aside0.mk ((Rd.start w).below hb1); have HG := Aside0.mk hg1; clear hb1 hg1; have g1 : w1.cell? ⟨w.heap.size + 1, 1, none⟩ = some (.string p1) := (blk_cell HG.out 1).trans rfl; have g4 : w1.cell? ⟨w.heap.size + 1, 4, none⟩ = some (.string p4) := (blk_cell HG.out 4).trans rfl)
            | (go_at_call 29; with_reducible refine (HG1.out _).mono ?_; rintro e w3 ⟨rfl, hw⟩; obtain rfl := hw.symm))
          refine wp_at (fun W => Rd w W) HR.out (fun W0 hR0 => ?_)
          replace HR := Aside0.mk hR0
          clear hR0
          obtain ⟨qc0, qc1, qc2, qc3, qc4, qf0, qf1, qf2, qf3, qf4⟩ := HR.out.facts
          obtain ⟨yc0, yc1, yc2, yc3, yc4, yf0, yf1, yf2, yf3, yf4⟩ := (HR.out.below ((Below.refl W0.heap.size W0).alloc (Nat.le_refl _) (.cells #[.int .i64 8, .iface 159 (.pointer (some ak))] 96))).facts
          have hgl := (HX.out.below HR.out.1).kind
          have hpos : 2 < w.heap.size := World.block_lt_of_cell? w _ HX.out.kind
          have hn1 : ¬ w.heap.size = 2 := by omega
          have hn2 : ¬ 2 = w.heap.size := by omega
          have hn3 : W0.heap.size ≠ w.heap.size := Nat.ne_of_gt (blk_lt HR.out.2)
          go_region
          all_goals
            go_wp2
            try simp only [Exit.inBlock, Exit.then]
            refine bodyPost_ret (res_read _ _ w.heap.size 0 0 0 0 0 _ rfl rfl (Rd.two ?_)) rfl ⟨.iface 94 (.pointer (some ⟨W0.heap.size, 0, none⟩)), ?_, ?_, Rd.one (w := w) ?_⟩
            rotate_left
            · rw [HF.out]; rfl
            · rw [HF.out]
              refine .kind W0.heap.size 8 rfl ?_
              repeat first | with_reducible refine blk_far ?_ hn3 _ | with_reducible refine blk_drew ?_ | exact new_at _ _ _ (by simp)
            all_goals
              repeat first | with_reducible exact HR.out | with_reducible refine Rd.same ?_ _ _ rfl | with_reducible refine Rd.alloc ?_ _ | with_reducible refine Rd.drewW ?_
        | 1, hk1, HG1, hk9 =>
          have HP5 := Aside0.mk (show readE s.data.toList = match readN p2.data.toList, getMost 65535 p3.data.toList with | some (a, b, c, d), some p => if p = 0 then .form else .ok a b c d p | _, _ => .form from by rw [HP4.out, five, if_neg (by simp), hk1]; rfl)
          clear hg1 hk1 hk9 HP4
          exact read_one s w ak af HX HM hne h0s x HK h0c X hsl p0 p1 p2 p3 p4 HSP HG1 HG3 hg3 HQ h4e HP5
    · have h4e : p4.toList.isEmpty = false := by rw [ByteArray.toList_eq]; exact List.isEmpty_eq_false_iff.2 h4
      have HF := Aside0.mk (show readE s.data.toList = .form from by rw [HP.out]; exact if_pos h4)
      clear hg1 hg3 h4
      go_enter Tryd.func30, Tryd.ntmps30
      go_wp2_with (first
        | (go_at_call 34; refine (HK.out _).mono ?_; rintro e w3 ⟨rfl, hw⟩; obtain rfl := hw.symm)
        | (go_at_call 28; refine (HSP.out _ (HM.out.below (Rd.start w).1)).mono ?_; rintro e w1 ⟨rfl, hb1, hg1⟩; rw [size_alloc] at hg1; have HR := Aside0.mk ((Rd.start w).below hb1); have HG := Aside0.mk hg1; clear hb1 hg1; have g4 : w1.cell? ⟨w.heap.size + 1, 4, none⟩ = some (.string p4) := (blk_cell HG.out 4).trans rfl))
      refine wp_at (fun W => Rd w W) HR.out (fun W0 hR0 => ?_)
      replace HR := Aside0.mk hR0
      clear hR0
      obtain ⟨qc0, qc1, qc2, qc3, qc4, qf0, qf1, qf2, qf3, qf4⟩ := HR.out.facts
      go_region_with (go_at_call 46; refine (form_callsO ak af _ (HX.out.below HR.out.drew.1)).mono ?_; rintro ev w9 ⟨x, rfl, hx9, hb9⟩; have HX9 := Aside0.mk hx9; have HR9 := Aside0.mk (HR.out.drew.below hb9); clear hx9 hb9; obtain ⟨yc0, yc1, yc2, yc3, yc4, yf0, yf1, yf2, yf3, yf4⟩ := HR9.out.facts)
      all_goals
        go_wp2
        try simp only [Exit.inBlock, Exit.then]
        refine bodyPost_ret (res_read _ _ w.heap.size 0 0 0 0 0 x rfl rfl (HR9.out.putV 0 0 0 0 0)) rfl ⟨x, ?_, ?_, ?_⟩
        · first | (rw [HF.out]; rfl) | rfl
        · rw [HF.out]; exact HR9.out.putE HX9.out 0 0 0 0 0
        · exact HR9.out.putB 0 0 0 0 0
end Go.Proofs.YtdcbkeihgbekdaaDoor.Ext

namespace Go.Proofs.YtdcbkeihgbekdaaDoor.Ext
open Go Go.RowKit Go.Proofs.YtdcbkeihgbekdaaDoorW.PrintWords Go.Proofs.YtdcbkeihgbekdaaDoorW.PrintLast Go.Proofs.YtdcbkeihgbekdaaDoorW.PrintMore Go.Proofs.YtdcbkeihgbekdaaDoor.Dig Go.Proofs.YtdcbkeihgbekdaaDoor.Quad Go.Proofs.YtdcbkeihgbekdaaDoor.ExtP Go.Proofs.YtdcbkeihgbekdaaDoor.SixP
set_option linter.unusedVariables false
set_option linter.unusedSimpArgs false

theorem read_calls (s : ByteArray) (hs : s.size ≤ 1000000) (w : World) (hm : Mx w) (ak af : Addr) (hx : Ex w ak af) :
    Calls Tryd.prog 30 #[.string s] w (ReadIs w ak af (readE s.data.toList)) := by
  match h : s.data.toList with
  | [] => rw [← h]; exact read_short s w ak af hx (.inl h)
  | m :: l =>
    rw [← h]
    cases hk : isMark m with
    | false => exact read_short s w ak af hx (.inr ⟨m, l, h, hk⟩)
    | true =>
      by_cases h5 : (Cut.cut m s.data.toList).length = 5
      · exact read_five s hs w hm ak af hx m l h hk h5
      · exact read_not s hs w hm ak af hx m l h hk h5
theorem outV_form (o : Out) : ∃ a b c d p : Nat, outV o = .agg #[.int .u8 a, .int .u8 b, .int .u8 c, .int .u8 d, .int .i64 p] := by
  cases o with
  | ok a b c d p => exact ⟨a, b, c, d, p, rfl⟩
  | form => exact ⟨0, 0, 0, 0, 0, rfl⟩
  | kind => exact ⟨0, 0, 0, 0, 0, rfl⟩
/-- What Read hands back. -/
def readV (o : Out) : Value := .tuple #[outV o, .int .i64 (outN o)]
theorem res_Read (tmps : Array Value) (W : World) (H : Nat) (a b c d p : Int) (e : Value) (h2 : tmps.getD 2 undef = .pointer (some ⟨H, 0, none⟩)) (h3 : tmps.getD 3 undef = e) (hh : W.heap[H]? = some (.cells #[.int .u8 a, .int .u8 b, .int .u8 c, .int .u8 d, .int .i64 p] 31 (0, 0))) :
   (results Tryd.f17 tmps).run Tryd.prog W = .ok (.tuple #[.agg #[.int .u8 a, .int .u8 b, .int .u8 c, .int .u8 d, .int .i64 p], e]) W := by
  have c0 : W.cell? ⟨H, 0, none⟩ = some (.int .u8 a) := (blk_cell hh 0).trans rfl
  have c1 : W.cell? ⟨H, 1, none⟩ = some (.int .u8 b) := (blk_cell hh 1).trans rfl
  have c2 : W.cell? ⟨H, 2, none⟩ = some (.int .u8 c) := (blk_cell hh 2).trans rfl
  have c3 : W.cell? ⟨H, 3, none⟩ = some (.int .u8 d) := (blk_cell hh 3).trans rfl
  have c4 : W.cell? ⟨H, 4, none⟩ = some (.int .i64 p) := (blk_cell hh 4).trans rfl
  rw [Array.getD_eq_getD_getElem?] at h2 h3
  simp [results, show Tryd.f17.results = #[.cell 2 31, .tmp 3] from rfl, h2, h3, go_sem, c0, c1, c2, c3, c4]
theorem end_cells {W : World} {g : Nat} {a b c d p : Int} (h : W.heap[g]? = some (.cells #[.int .u8 a, .int .u8 b, .int .u8 c, .int .u8 d, .int .i64 p] 31 (0, 0))) : W.cell? ⟨g, 0, none⟩ = some (.int .u8 a) ∧ W.cell? ⟨g, 1, none⟩ = some (.int .u8 b) ∧ W.cell? ⟨g, 2, none⟩ = some (.int .u8 c) ∧ W.cell? ⟨g, 3, none⟩ = some (.int .u8 d) ∧ W.cell? ⟨g, 4, none⟩ = some (.int .i64 p) :=
  ⟨(blk_cell h 0).trans rfl, (blk_cell h 1).trans rfl, (blk_cell h 2).trans rfl, (blk_cell h 3).trans rfl, (blk_cell h 4).trans rfl⟩

set_option maxHeartbeats 4000000 in
set_option maxRecDepth 100000 in
theorem Read_calls (s : ByteArray) (hs : s.size ≤ 1000000) (w : World) (hm : Mx w) (ak af : Addr) (hx : Ex w ak af) :
    Calls Tryd.prog 17 #[.string s] w fun e w' => e = .returned (readV (readE s.data.toList)) ∧ Below w.heap.size w w' := by
  have HRD := Aside0.mk (read_calls s hs (w.alloc (.cells #[.int .u8 0, .int .u8 0, .int .u8 0, .int .u8 0, .int .i64 0] 31)) (hm.below (Rd.start w).1) ak af (hx.below (Rd.start w).1))
  have HX := Aside0.mk hx
  obtain ⟨o, ho⟩ : ∃ o, o = readE s.data.toList := ⟨_, rfl⟩
  rw [← ho] at HRD ⊢
  obtain ⟨a, b, c, d, p, hv⟩ := outV_form o
  obtain ⟨n, hn⟩ : ∃ n, n = outN o := ⟨_, rfl⟩
  have HV := Aside0.mk (And.intro hv hn)
  have HF := Aside0.mk (show readV o = .tuple #[.agg #[.int .u8 a, .int .u8 b, .int .u8 c, .int .u8 d, .int .i64 p], .int .i64 n] from by rw [readV, hv, hn])
  clear hm hx ho hv hn
  go_enter Tryd.func17, Tryd.ntmps17
  go_wp2_with (go_at_call 30; refine HRD.out.mono ?_; rintro ev w1 ⟨e, rfl, he, hb⟩; rw [HV.out.1]; rw [← HV.out.2] at he; have HR := Aside0.mk ((Rd.start w).below hb); have HE := Aside0.mk he; clear he hb)
  refine wp_at (fun W => Rd w W ∧ W.heap[w1.heap.size]? = some (.cells #[.int .u8 a, .int .u8 b, .int .u8 c, .int .u8 d, .int .i64 p] 31 (0, 0)) ∧ ErrIs W ak af n e) ⟨HR.out.alloc _, blk_new _ _, HE.out.below ((Below.refl _ _).alloc (Nat.le_refl _) _)⟩ (fun W0 h0 => ?_)
  have HR0 := Aside0.mk h0.1
  have HC0 := Aside0.mk h0.2.1
  have HE0 := Aside0.mk (h0.2.2.below (Below.refl _ _).drew)
  clear h0 HE
  obtain ⟨qc0, qc1, qc2, qc3, qc4, qf0, qf1, qf2, qf3, qf4⟩ := HR0.out.facts
  obtain ⟨x0, x1, x2, x3, x4⟩ := end_cells HC0.out
  go_region_with (go_at_call 31; refine (number_calls _ ak af (HX.out.below HR0.out.drew.1) n e HE0.out).mono ?_; rintro ev w9 ⟨rfl, hb9⟩; have HR9 := Aside0.mk (HR0.out.drew.below hb9); have HC9 := Aside0.mk (blk_below (blk_drew HC0.out) hb9); clear hb9; obtain ⟨yc0, yc1, yc2, yc3, yc4, yf0, yf1, yf2, yf3, yf4⟩ := HR9.out.facts; obtain ⟨z0, z1, z2, z3, z4⟩ := end_cells HC9.out)
  all_goals
    go_wp2
    try simp only [Exit.inBlock, Exit.then]
    refine bodyPost_ret (res_Read _ _ w.heap.size a b c d p _ rfl rfl (HR9.out.putV a b c d p)) rfl ⟨?_, ?_⟩
    · first | (rw [HF.out]; rfl) | rfl
    · exact HR9.out.putB a b c d p
end Go.Proofs.YtdcbkeihgbekdaaDoor.Ext

namespace Go.Proofs.YtdcbkeihgbekdaaDoor.Ext
open Go Go.RowKit Go.Proofs.YtdcbkeihgbekdaaDoorW.PrintWords Go.Proofs.YtdcbkeihgbekdaaDoorW.PrintLast Go.Proofs.YtdcbkeihgbekdaaDoorW.PrintMore Go.Proofs.YtdcbkeihgbekdaaDoor.Dig Go.Proofs.YtdcbkeihgbekdaaDoor.Quad Go.Proofs.YtdcbkeihgbekdaaDoor.ExtP
set_option linter.unusedVariables false
set_option linter.unusedSimpArgs false

/-- An end in a block of the call's own. -/
def OneE (w W : World) (a b c d : Nat) (p : Int) : Prop :=
  Below w.heap.size w W ∧ W.heap[w.heap.size]? = some (.cells #[.int .u8 a, .int .u8 b, .int .u8 c, .int .u8 d, .int .i64 p] 31 (0, 0))
theorem OneE.start (w : World) (a b c d : Nat) (p : Int) : OneE w (w.alloc (.cells #[.int .u8 a, .int .u8 b, .int .u8 c, .int .u8 d, .int .i64 p] 31)) a b c d p := ⟨(Below.refl _ _).alloc (Nat.le_refl _) _, blk_new w _⟩
theorem OneE.drew {w W : World} {a b c d : Nat} {p : Int} (h : OneE w W a b c d p) : OneE w { W with drawn := W.drawn + 1 } a b c d p := ⟨h.1.drew, h.2⟩
theorem OneE.below {w W W' : World} {a b c d : Nat} {p : Int} (h : OneE w W a b c d p) (hb : Below W.heap.size W W') : OneE w W' a b c d p := ⟨h.1.trans (hb.mono h.1.size), blk_below h.2 hb⟩
theorem OneE.cells {w W : World} {a b c d : Nat} {p : Int} (h : OneE w W a b c d p) : W.cell? ⟨w.heap.size, 0, none⟩ = some (.int .u8 a) ∧ W.cell? ⟨w.heap.size, 1, none⟩ = some (.int .u8 b) ∧ W.cell? ⟨w.heap.size, 2, none⟩ = some (.int .u8 c) ∧ W.cell? ⟨w.heap.size, 3, none⟩ = some (.int .u8 d) ∧ W.cell? ⟨w.heap.size, 4, none⟩ = some (.int .i64 p) :=
  ⟨(blk_cell h.2 0).trans rfl, (blk_cell h.2 1).trans rfl, (blk_cell h.2 2).trans rfl, (blk_cell h.2 3).trans rfl, (blk_cell h.2 4).trans rfl⟩

set_option maxHeartbeats 2000000 in
set_option maxRecDepth 100000 in
theorem text_calls (a b c d : Nat) (p : Int) (ha : a < 256) (hb : b < 256) (hc : c < 256) (hd : d < 256) (w : World) :
    Calls Tryd.prog 22 #[endV a b c d p] w fun e w' => e = .returned (textR a b c d p) ∧ Below w.heap.size w w' := by
  unfold endV
  have HO := Aside0.mk (OneE.start w a b c d p)
  by_cases h : 0 < p ∧ p ≤ 65535
  · obtain ⟨n, rfl⟩ : ∃ n : Nat, p = n := ⟨p.toNat, by omega⟩
    have hp0 : 0 < n := by omega
    have hp1 := decide_eq_true h.1
    have hp2 := decide_eq_true h.2
    have HN := Aside0.mk (show n ≤ 65535 from by omega)
    have HABCD := Aside0.mk (And.intro ha (And.intro hb (And.intro hc hd)))
    obtain ⟨H, hH⟩ : ∃ H : ByteArray, H = ⟨(hostU a b c d).toArray⟩ := ⟨_, rfl⟩
    obtain ⟨N, hN⟩ : ∃ N : ByteArray, N = ⟨(digU n).toArray⟩ := ⟨_, rfl⟩
    have HE := Aside0.mk (show textR a b c d n = .tuple #[str (endU a b c d n), .bool true] from if_pos h)
    have HV := Aside0.mk (And.intro hH hN)
    have HT := Aside0.mk (show tot ([[], [49], hostU a b c d, digU n, []] : List (List UInt8)) ≤ 100000000 ∧ Cut.jn 124 [[], [49], hostU a b c d, digU n, []] = endU a b c d n ∧ (#[.string ⟨#[]⟩, .string ⟨#[49]⟩, .string H, .string N, .string ⟨#[]⟩] : Array Value) = ([[], [49], hostU a b c d, digU n, []].map str).toArray from by
      have h1 := host_short (And.intro ha (And.intro hb (And.intro hc hd))); have h2 := dig_short (show n ≤ 65535 from by omega)
      refine ⟨by simp only [tot, List.length_nil, List.length_cons]; omega, by simp [Cut.jn, endU], by rw [hH, hN]; rfl⟩)
    clear h hH hN ha hb hc hd
    go_enter Tryd.func22, Tryd.ntmps22
    go_wp2
    obtain ⟨W0, hW0⟩ : ∃ W0, W0 = w.alloc (.cells #[.int .u8 a, .int .u8 b, .int .u8 c, .int .u8 d, .int .i64 n] 31) := ⟨_, rfl⟩
    have HW := Aside0.mk (show OneE w W0 a b c d n from by rw [hW0]; exact HO.out)
    rw [← hW0]
    clear hW0 HO
    obtain ⟨q0, q1, q2, q3, q4⟩ := HW.out.cells
    clear hp0 hp1 hp2
    go_region_with (first
      | (go_at_call 40
         with_reducible refine (Quad.text_calls a b c d HABCD.out.1 HABCD.out.2.1 HABCD.out.2.2.1 HABCD.out.2.2.2 _).mono ?_
         rw [← HV.out.1]
         rintro e w5 ⟨rfl, hb5⟩
         have HW5 := Aside0.mk (HW.out.drew.below hb5)
         clear hb5
         obtain ⟨r0, r1, r2, r3, r4⟩ := HW5.out.cells)
      | (go_at_call 38
         with_reducible refine (num_callsP n HN.out _).mono ?_
         rw [← HV.out.2]
         rintro e w6 ⟨rfl, hb6⟩
         have HW6 := Aside0.mk (HW5.out.below hb6)
         clear hb6)
      | (go_at_call 39
         have HL := Row.Lies.whole w6 0 9 9 ([[], [49], hostU a b c d, digU n, []].map str)
         rw [← HT.out.2.2] at HL
         refine (join_lies 124 _ _ 0 _ HL HT.out.1).mono ?_
         rw [HT.out.2.1]
         rintro e w7 ⟨rfl, hb7⟩
         have HB7 := Aside0.mk ((HW6.out.1.alloc HW6.out.1.size _).trans (hb7.mono (HW6.out.1.alloc HW6.out.1.size _).size))
         clear hb7))
    all_goals
      go_wp2
      go_ret2
      exact ⟨by rw [HE.out]; rfl, HB7.out⟩
  · have HE := Aside0.mk (show textR a b c d p = .tuple #[str [], .bool false] from if_neg h)
    have HP := Aside0.mk (decide_eq_false h)
    clear h ha hb hc hd
    go_enter Tryd.func22, Tryd.ntmps22
    go_wp2_with (go_at_call 37; refine (port_calls _ _).mono ?_; rintro e w1 ⟨rfl, hw⟩; obtain rfl := hw.symm; rw [HP.out])
    go_ret2
    exact ⟨by rw [HE.out]; rfl, HO.out.1⟩

end Go.Proofs.YtdcbkeihgbekdaaDoor.Ext

namespace Go.Proofs.YtdcbkeihgbekdaaDoor.Turn
open Go Go.RowKit Go.Proofs.YtdcbkeihgbekdaaDoorW.PrintWords Go.Proofs.YtdcbkeihgbekdaaDoorW.PrintLast Go.Proofs.YtdcbkeihgbekdaaDoorW.PrintMore Go.Proofs.YtdcbkeihgbekdaaDoor.Dig Go.Proofs.YtdcbkeihgbekdaaDoor.Quad Go.Proofs.YtdcbkeihgbekdaaDoor.ExtP Go.Proofs.YtdcbkeihgbekdaaDoor.SixP
set_option linter.unusedVariables false
set_option linter.unusedSimpArgs false
abbrev Six6 := Int × Int × Int × Int × Int × Int
def sixE (o : Option (Nat × Nat × Nat × Nat × Nat)) (h0 h1 h2 h3 : Int) : Six6 := match o with
  | some (a, b, c, d, p) => toldE 0 a b c d p h0 h1 h2 h3
  | none => toldE 2 0 0 0 0 0 h0 h1 h2 h3
def extE (o : Out) (h0 h1 h2 h3 : Int) : Six6 := match o with
  | .ok a b c d p => toldE 0 a b c d p h0 h1 h2 h3
  | .form => toldE 2 0 0 0 0 0 h0 h1 h2 h3
  | .kind => toldE 8 0 0 0 0 0 h0 h1 h2 h3
def pointE (verb arg : ByteArray) (h0 h1 h2 h3 : Int) : Six6 :=
  if verb = PORT then sixE (readSix arg.data.toList) h0 h1 h2 h3 else if verb = EPRT then extE (readE arg.data.toList) h0 h1 h2 h3 else toldE 1 0 0 0 0 0 h0 h1 h2 h3
def epsvE (o : Option Nat) (h0 h1 h2 h3 : Int) : Six6 := match o with
  | some q => toldE 0 h0 h1 h2 h3 q h0 h1 h2 h3
  | none => toldE 2 h0 h1 h2 h3 0 h0 h1 h2 h3
def one1 (l : List ByteArray) (X : ByteArray → Six6) (Y : Six6) : Six6 := match l with
  | [s] => X s
  | _ => Y
theorem one1_ne {l : List ByteArray} (h : l.length ≠ 1) (X : ByteArray → Six6) (Y : Six6) : one1 l X Y = Y := by
  match l, h with
  | [], _ => rfl
  | [s], h => exact absurd rfl h
  | _ :: _ :: _, _ => rfl
theorem one1_len {l : List ByteArray} (h : l.length = 1) : ∃ s, l = [s] := by
  match l, h with
  | [s], _ => exact ⟨s, rfl⟩
def listenE (name : ByteArray) (code : Int) (l : List ByteArray) (h0 h1 h2 h3 : Int) : Six6 :=
  if name = PASV then (if code = 227 then one1 l (fun s => sixE (find s.data.toList) h0 h1 h2 h3) (toldE 2 0 0 0 0 0 h0 h1 h2 h3) else toldE 2 0 0 0 0 0 h0 h1 h2 h3)
  else if name = EPSV then (if code = 229 then one1 l (fun s => epsvE (findE s.data.toList) h0 h1 h2 h3) (toldE 2 0 0 0 0 0 h0 h1 h2 h3) else toldE 2 0 0 0 0 0 h0 h1 h2 h3)
  else toldE 1 0 0 0 0 0 h0 h1 h2 h3
theorem lit_ne {s : ByteArray} {l : List UInt8} (h : s ≠ ⟨l.toArray⟩) : (s.toList == l) = false := by
  rw [beq_eq_false_iff_ne]
  intro e
  rw [ByteArray.toList_eq] at e
  exact h (by apply ByteArray.ext; apply Array.ext'; rw [e])

theorem point_calls (verb arg : ByteArray) (hs : arg.size ≤ 1000000) (h0 h1 h2 h3 : Int) (w : World) (hm : WMet w) :
    Calls Tryd.prog 8 #[.agg #[.string verb, .string arg], .agg #[.int .u8 h0, .int .u8 h1, .int .u8 h2, .int .u8 h3]] w fun e w' => e = .returned (endR (pointE verb arg h0 h1 h2 h3)) ∧ Below w.heap.size w w' := by
  obtain ⟨ad, af, hx⟩ := hm.tx
  by_cases hv : verb = PORT
  · subst hv
    have hread : ∀ W, Below w.heap.size w W → _ := fun W hW => Six.read_calls arg (by omega) W (hm.below hW).mx
    rw [pointE, if_pos rfl]
    cases ho : readSix arg.data.toList with
    | none =>
      rw [ho] at hread
      exact point_six PORT arg h0 h1 h2 h3 w ad af hx (by decide +kernel) 0 0 0 0 0 false hread
    | some x =>
      obtain ⟨a, b, c, d, p⟩ := x
      rw [ho] at hread
      exact point_six PORT arg h0 h1 h2 h3 w ad af hx (by decide +kernel) a b c d p true hread
  · by_cases hv2 : verb = EPRT
    · subst hv2
      have hread : ∀ W, Below w.heap.size w W → Calls Tryd.prog 17 #[.string arg] W fun e w' => e = .returned (Ext.readV (readE arg.data.toList)) ∧ Below W.heap.size W w' := fun W hW => by
        obtain ⟨ak, af2, hx2⟩ := (hm.below hW).ex
        exact Ext.Read_calls arg hs W (hm.below hW).mx ak af2 hx2
      rw [pointE, if_neg hv, if_pos rfl]
      cases ho : readE arg.data.toList with
      | ok a b c d p => rw [ho] at hread; exact point_ext EPRT arg h0 h1 h2 h3 w ad af hx (by decide +kernel) (by decide +kernel) a b c d p 0 hread
      | form => rw [ho] at hread; exact point_ext EPRT arg h0 h1 h2 h3 w ad af hx (by decide +kernel) (by decide +kernel) 0 0 0 0 0 2 hread
      | kind => rw [ho] at hread; exact point_ext EPRT arg h0 h1 h2 h3 w ad af hx (by decide +kernel) (by decide +kernel) 0 0 0 0 0 8 hread
    · rw [pointE, if_neg hv, if_neg hv2]
      exact point_other verb arg h0 h1 h2 h3 w ad af hx (lit_ne (l := [80, 79, 82, 84]) hv) (lit_ne (l := [69, 80, 82, 84]) hv2)
theorem row1 {w : World} {A : Option Addr} {s : ByteArray} (hr : Kd.C Kd.string w A 1 [s]) : ∃ ad : Addr, A = some ad ∧ w.cell? ad = some (.string s) := by
  obtain ⟨_, _, hn⟩ := hr
  obtain ⟨ad, rfl, h⟩ := hn (by decide)
  obtain ⟨c, _, hK, hc⟩ := h 0 s rfl
  have hK' : c = [.string s] := hK
  subst hK'
  have := hc 0 (.string s) rfl
  simp only [Nat.zero_mul, Nat.zero_add] at this
  exact ⟨ad, rfl, by simpa [Addr.add] using this⟩
theorem listen_calls (name : ByteArray) (code : Int) (A : Option Addr) (cap : Nat) (l : List ByteArray) (hl : ∀ s, l = [s] → s.size ≤ 1000000) (h0 h1 h2 h3 : Int) (w : World) (hm : WMet w) (hr : Kd.C Kd.string w A l.length l) :
    Calls Tryd.prog 9 #[.string name, .agg #[.int .i64 code, .slice A l.length cap], .agg #[.int .u8 h0, .int .u8 h1, .int .u8 h2, .int .u8 h3]] w fun e w' => e = .returned (endR (listenE name code l h0 h1 h2 h3)) ∧ Below w.heap.size w w' := by
  obtain ⟨ad, af, hx⟩ := hm.tx
  by_cases hv : name = PASV
  · subst hv
    rw [listenE, if_pos rfl]
    by_cases hc : code = 227
    · subst hc
      rw [if_pos rfl]
      by_cases h1' : l.length = 1
      · obtain ⟨s, rfl⟩ := one1_len h1'
        have hread : ∀ W, Below w.heap.size w W → _ := fun W hW => Six.find_calls s (hl s rfl) W (hm.below hW).mx
        cases ho : find s.data.toList with
        | none =>
          rw [ho] at hread
          rw [show ∀ X Y, one1 [s] X Y = X s from fun _ _ => rfl, ho]
          exact listen_six A cap h0 h1 h2 h3 w ad af hx s (fun W hW => row1 (Kd.C_below hr hW)) 0 0 0 0 0 false hread
        | some x =>
          obtain ⟨a, b, c, d, p⟩ := x
          rw [ho] at hread
          rw [show ∀ X Y, one1 [s] X Y = X s from fun _ _ => rfl, ho]
          exact listen_six A cap h0 h1 h2 h3 w ad af hx s (fun W hW => row1 (Kd.C_below hr hW)) a b c d p true hread
      · rw [one1_ne h1']
        exact listen_form PASV A cap l.length 227 h0 h1 h2 h3 w ad af hx 227 rfl (.inr ⟨by decide, by rw [beq_eq_false_iff_ne]; omega⟩)
    · rw [if_neg hc]
      exact listen_form PASV A cap l.length code h0 h1 h2 h3 w ad af hx 227 rfl (.inl (by rw [beq_eq_false_iff_ne]; exact hc))
  · by_cases hv2 : name = EPSV
    · subst hv2
      rw [listenE, if_neg hv, if_pos rfl]
      by_cases hc : code = 229
      · subst hc
        rw [if_pos rfl]
        by_cases h1' : l.length = 1
        · obtain ⟨s, rfl⟩ := one1_len h1'
          obtain ⟨a, b, c, d, p, z, hz⟩ := Six.readR_form (find s.data.toList)
          have hread1 : ∀ W, Below w.heap.size w W → _ := fun W hW => Six.find_calls s (hl s rfl) W (hm.below hW).mx
          have hread : ∀ W, Below w.heap.size w W → _ := fun W hW => Ext.find_calls s (hl s rfl) W (hm.below hW).mx
          rw [hz] at hread1
          cases ho : findE s.data.toList with
          | none =>
            rw [ho] at hread
            rw [show ∀ X Y, one1 [s] X Y = X s from fun _ _ => rfl, ho]
            exact listen_ext A cap h0 h1 h2 h3 w ad af hx s (fun W hW => row1 (Kd.C_below hr hW)) a b c d p z hread1 0 false hread
          | some q =>
            rw [ho] at hread
            rw [show ∀ X Y, one1 [s] X Y = X s from fun _ _ => rfl, ho]
            exact listen_ext A cap h0 h1 h2 h3 w ad af hx s (fun W hW => row1 (Kd.C_below hr hW)) a b c d p z hread1 q true hread
        · rw [one1_ne h1']
          exact listen_form EPSV A cap l.length 229 h0 h1 h2 h3 w ad af hx 229 rfl (.inr ⟨by decide, by rw [beq_eq_false_iff_ne]; omega⟩)
      · rw [if_neg hc]
        exact listen_form EPSV A cap l.length code h0 h1 h2 h3 w ad af hx 229 rfl (.inl (by rw [beq_eq_false_iff_ne]; exact hc))
    · rw [listenE, if_neg hv, if_neg hv2]
      exact listen_other name A cap l.length code h0 h1 h2 h3 w ad af hx hv hv2
/-- The command that tells an end. -/
def askE (name : ByteArray) (a b c d : Nat) (p : Int) : ByteArray × ByteArray × Bool :=
  if highB p = true then (if name = PORT then (PORT, ⟨(sixU a b c d p.toNat).toArray⟩, true) else if name = EPRT then (EPRT, ⟨(endU a b c d p.toNat).toArray⟩, true) else (⟨#[]⟩, ⟨#[]⟩, false)) else (⟨#[]⟩, ⟨#[]⟩, false)
theorem high_iff {p : Int} : highB p = true ↔ 1024 ≤ p ∧ p ≤ 65535 := by simp [highB]
theorem six_text (a b c d : Nat) (p : Int) (h : a < 256 ∧ b < 256 ∧ c < 256 ∧ d < 256) (hp : highB p = true) (w : World) : Calls Tryd.prog 21 #[.agg #[.int .u8 a, .int .u8 b, .int .u8 c, .int .u8 d, .int .i64 p]] w fun e w' => e = .returned (.tuple #[.string ⟨(sixU a b c d p.toNat).toArray⟩, .bool true]) ∧ Below w.heap.size w w' := by
  have := Six.text_calls a b c d p h.1 h.2.1 h.2.2.1 h.2.2.2 w
  rw [Six.textR, if_neg (by have := high_iff.1 hp; omega)] at this
  exact this
theorem ext_text (a b c d : Nat) (p : Int) (h : a < 256 ∧ b < 256 ∧ c < 256 ∧ d < 256) (hp : highB p = true) (w : World) : Calls Tryd.prog 22 #[.agg #[.int .u8 a, .int .u8 b, .int .u8 c, .int .u8 d, .int .i64 p]] w fun e w' => e = .returned (.tuple #[.string ⟨(endU a b c d p.toNat).toArray⟩, .bool true]) ∧ Below w.heap.size w w' := by
  have := Ext.text_calls a b c d p h.1 h.2.1 h.2.2.1 h.2.2.2 w
  rw [Ext.textR, if_pos (by have := high_iff.1 hp; omega)] at this
  exact this
theorem ask_calls (name : ByteArray) (a b c d : Nat) (p : Int) (h : a < 256 ∧ b < 256 ∧ c < 256 ∧ d < 256) (w : World) :
    Calls Tryd.prog 10 #[.string name, .agg #[.int .u8 a, .int .u8 b, .int .u8 c, .int .u8 d, .int .i64 p]] w fun e w' => e = .returned (.tuple #[.agg #[.string (askE name a b c d p).1, .string (askE name a b c d p).2.1], .bool (askE name a b c d p).2.2]) ∧ Below w.heap.size w w' := by
  by_cases hv : name = PORT
  · subst hv
    cases hp : highB p
    · rw [askE, if_neg (by rw [hp]; decide)]
      exact ask_low PORT a b c d p w SixF rfl hp
    · rw [askE, if_pos hp, if_pos rfl]
      exact ask_port a b c d p w _ hp (fun W _ => six_text a b c d p h hp W)
  · by_cases hv2 : name = EPRT
    · subst hv2
      cases hp : highB p
      · rw [askE, if_neg (by rw [hp]; decide)]
        exact ask_low EPRT a b c d p w ExtF rfl hp
      · rw [askE, if_pos hp, if_neg hv, if_pos rfl]
        exact ask_eprt a b c d p w _ hp (fun W _ => ext_text a b c d p h hp W)
    · have e : askE name a b c d p = (⟨#[]⟩, ⟨#[]⟩, false) := by
        by_cases hp : highB p = true
        · rw [askE, if_pos hp, if_neg hv, if_neg hv2]
        · rw [askE, if_neg hp]
      rw [e]
      exact ask_other name a b c d p w ⟨hv, hv2⟩
/-- The reply that tells an end: its code, its line. -/
def tellE (name : ByteArray) (a b c d : Nat) (p : Int) : Option (Int × ByteArray) :=
  if highB p = true then (if name = PASV then some (227, entering ++ ⟨(sixU a b c d p.toNat).toArray⟩ ++ ⟨#[41, 46]⟩) else if name = EPSV then some (229, entended ++ ⟨(portU p.toNat).toArray⟩ ++ ⟨#[46]⟩) else none) else none
/-- What a call of Tell hands back. -/
def TellR (w : World) (o : Option (Int × ByteArray)) (e : Ending) (w' : World) : Prop := match o with
  | some (code, t) => Told w code t e w'
  | none => e = .returned (.tuple #[.agg #[.int .i64 0, .slice none 0 0], .bool false]) ∧ Below w.heap.size w w'
theorem six_short (a b c d p : Nat) (h : a < 256 ∧ b < 256 ∧ c < 256 ∧ d < 256) (hp : p ≤ 65535) : (sixU a b c d p).length ≤ 100 := by
  have hll : ∀ n : Nat, n < 256 → (digU n).length ≤ 3 := fun n hn => by rw [digU_len]; exact dig_len 2 n (by omega)
  have := hll a h.1; have := hll b h.2.1; have := hll c h.2.2.1; have := hll d h.2.2.2; have := hll (p / 256) (by omega); have := hll (p % 256) (by omega)
  simp only [sixU, Cut.jn, List.length_append, List.length_cons, List.length_nil]; omega
theorem tell_calls (name : ByteArray) (a b c d : Nat) (p : Int) (h : a < 256 ∧ b < 256 ∧ c < 256 ∧ d < 256) (w : World) :
    Calls Tryd.prog 11 #[.string name, .agg #[.int .u8 a, .int .u8 b, .int .u8 c, .int .u8 d, .int .i64 p]] w (TellR w (tellE name a b c d p)) := by
  cases hp : highB p
  · have e : tellE name a b c d p = none := by rw [tellE, if_neg (by rw [hp]; decide)]
    rw [e]
    exact tell_no name a b c d p w (.inl hp)
  · have hh := high_iff.1 hp
    by_cases hv : name = PASV
    · subst hv
      rw [tellE, if_pos hp, if_pos rfl]
      exact tell_pasv a b c d p w _ (by rw [← data_length]; show (sixU a b c d p.toNat).length ≤ _; have := six_short a b c d p.toNat h (by omega); omega) hp (fun W _ => six_text a b c d p h hp W)
    · by_cases hv2 : name = EPSV
      · subst hv2
        rw [tellE, if_pos hp, if_neg hv, if_pos rfl]
        refine tell_epsv a b c d p w _ (by rw [← data_length]; show (portU p.toNat).length ≤ _; have := Ext.dig_short (p := p.toNat) (by omega); simp only [portU, List.length_cons, List.length_append, List.length_nil]; omega) hp (fun W _ => ?_)
        have := Ext.portT_calls p W
        rw [Ext.portR, if_pos (by omega)] at this
        exact this
      · have e : tellE name a b c d p = none := by rw [tellE, if_pos hp, if_neg hv, if_neg hv2]
        rw [e]
        exact tell_no name a b c d p w (.inr ⟨hp, lit_ne (l := [80, 65, 83, 86]) hv, lit_ne (l := [69, 80, 83, 86]) hv2⟩)
end Go.Proofs.YtdcbkeihgbekdaaDoor.Turn

namespace Go.Proofs.YtdcbkeihgbekdaaDoor.Wk
open Go Go.RowKit
theorem st1 {w v : World} (h : Below w.heap.size w v) (o1 : Obj) : Below w.heap.size w (v.alloc o1) := h.alloc h.size o1
theorem st2 {w v : World} (h : Below w.heap.size w v) (o1 o2 : Obj) : Below w.heap.size w ((v.alloc o1).alloc o2) := st1 (st1 h o1) o2
theorem nw0 (w : World) (o1 : Obj) : (w.alloc o1).heap[w.heap.size]? = some o1 := by
  cases o1 <;> exact (MapKept.heap_alloc w _).1
theorem nw1 (w : World) (o1 o2 : Obj) : ((w.alloc o1).alloc o2).heap[w.heap.size + 1]? = some o2 := by
  have := nw0 (w.alloc o1) o2
  simpa using this
end Go.Proofs.YtdcbkeihgbekdaaDoor.Wk

namespace Go.Proofs.YtdcbkeihgbekdaaDoor.Turn
open Go Go.RowKit Go.Proofs.YtdcbkeihgbekdaaDoorW.PrintWords Go.Proofs.YtdcbkeihgbekdaaDoorW.PrintLast Go.Proofs.YtdcbkeihgbekdaaDoorW.PrintMore Go.Proofs.YtdcbkeihgbekdaaDoor.Dig Go.Proofs.YtdcbkeihgbekdaaDoor.Quad Go.Proofs.YtdcbkeihgbekdaaDoor.ExtP Go.Proofs.YtdcbkeihgbekdaaDoor.SixP
set_option linter.unusedVariables false
set_option linter.unusedSimpArgs false
set_option maxHeartbeats 4000000 in
set_option maxRecDepth 100000 in
theorem eq_end (a b c d p a' b' c' d' p' : Int) (W : World) : (Op.equalIn 10000 31 (.agg #[.int .u8 a, .int .u8 b, .int .u8 c, .int .u8 d, .int .i64 p]) (.agg #[.int .u8 a', .int .u8 b', .int .u8 c', .int .u8 d', .int .i64 p'])).run Tryd.prog W = .ok ((a == a' && (b == b' && (c == c' && d == d'))) && p == p') W :=
  eqA_of (d := 9999) Tryd.underlying31 (by kernel_rfl)
    (eqf_cons rfl (show _ = Result.ok (.agg #[.int .u8 a, .int .u8 b, .int .u8 c, .int .u8 d]) W from rfl) (show _ = Result.ok (.agg #[.int .u8 a', .int .u8 b', .int .u8 c', .int .u8 d']) W from rfl) (eq_host' 9997 a b c d a' b' c' d' W)
      (eqf_last rfl (show _ = Result.ok (.int .i64 p) W from rfl) (show _ = Result.ok (.int .i64 p') W from rfl) (run_equalIn_int W 9998 3 .i64 .i64 p p' Tryd.underlying3)))
set_option maxRecDepth 100000 in
theorem eq_cmd (a b a' b' : ByteArray) (W : World) : (Op.equalIn 10000 23 (.agg #[.string a, .string b]) (.agg #[.string a', .string b'])).run Tryd.prog W = .ok (a.toList == a'.toList && b.toList == b'.toList) W :=
  eqA_of (d := 9999) Tryd.underlying23 (by kernel_rfl)
    (eqf_cons rfl (show _ = Result.ok (.string a) W from rfl) (show _ = Result.ok (.string a') W from rfl) (run_equalIn_string W 9998 9 a a' Tryd.underlying9)
      (eqf_last rfl (show _ = Result.ok (.string b) W from rfl) (show _ = Result.ok (.string b') W from rfl) (run_equalIn_string W 9998 9 b b' Tryd.underlying9)))
def awS : ByteArray := ⟨#[49, 48, 44, 48, 44, 48, 44, 49, 44, 56, 44, 48]⟩
def awL : ByteArray := entering ++ awS ++ ⟨#[41, 46]⟩
theorem aw_read : readSix awS.data.toList = some (10, 0, 0, 1, 2048) := by decide +kernel
theorem aw_find : find awL.data.toList = some (10, 0, 0, 1, 2048) := by decide +kernel
theorem aw_six : sixU 10 0 0 1 2048 = awS.data.toList := by
  have := (readSix_iff _ _ _ _ _ _).1 aw_read
  exact this.1.symm
theorem aw_point1 (w : World) (hm : WMet w) : Calls Tryd.prog 8 #[.agg #[.string ⟨#[80, 79, 82, 84]⟩, .string ⟨#[49, 48, 44, 48, 44, 48, 44, 49, 44, 56, 44, 48]⟩], .agg #[.int .u8 10, .int .u8 0, .int .u8 0, .int .u8 1]] w fun e w' => e = .returned (.tuple #[.agg #[.int .u8 10, .int .u8 0, .int .u8 0, .int .u8 1, .int .i64 2048], .int .i64 0]) ∧ Below w.heap.size w w' := by
  have := point_calls PORT awS (by decide) 10 0 0 1 w hm
  rw [pointE, if_pos rfl, aw_read] at this
  exact this
theorem aw_point2 (w : World) (hm : WMet w) : Calls Tryd.prog 8 #[.agg #[.string ⟨#[80, 79, 82, 84]⟩, .string ⟨#[49, 48, 44, 48, 44, 48, 44, 49, 44, 56, 44, 48]⟩], .agg #[.int .u8 10, .int .u8 0, .int .u8 0, .int .u8 2]] w fun e w' => e = .returned (.tuple #[.agg #[.int .u8 0, .int .u8 0, .int .u8 0, .int .u8 0, .int .i64 0], .int .i64 6]) ∧ Below w.heap.size w w' := by
  have := point_calls PORT awS (by decide) 10 0 0 2 w hm
  rw [pointE, if_pos rfl, aw_read] at this
  exact this
theorem aw_ask (w : World) : Calls Tryd.prog 10 #[.string ⟨#[80, 79, 82, 84]⟩, .agg #[.int .u8 10, .int .u8 0, .int .u8 0, .int .u8 1, .int .i64 2048]] w fun e w' => e = .returned (.tuple #[.agg #[.string ⟨#[80, 79, 82, 84]⟩, .string ⟨#[49, 48, 44, 48, 44, 48, 44, 49, 44, 56, 44, 48]⟩], .bool true]) ∧ Below w.heap.size w w' := by
  have := ask_calls PORT 10 0 0 1 2048 (by decide) w
  rw [show askE PORT 10 0 0 1 2048 = (PORT, awS, true) from by
    rw [askE, if_pos (by decide), if_pos rfl, show ((2048 : Int)).toNat = 2048 from rfl, aw_six]] at this
  exact this
theorem aw_tell (w : World) : Calls Tryd.prog 11 #[.string ⟨#[80, 65, 83, 86]⟩, .agg #[.int .u8 10, .int .u8 0, .int .u8 0, .int .u8 1, .int .i64 2048]] w (Told w 227 awL) := by
  have := tell_calls PASV 10 0 0 1 2048 (by decide) w
  rw [show tellE PASV 10 0 0 1 2048 = some (227, awL) from by
    rw [tellE, if_pos (by decide), if_pos rfl, show ((2048 : Int)).toNat = 2048 from rfl, aw_six]; rfl] at this
  exact this
theorem row_of {w : World} {g : Nat} {s : ByteArray} (h : w.heap[g]? = some (.cells #[.string s] 9 (0, 0))) : Kd.C Kd.string w (some ⟨g, 0, none⟩) 1 [s] := by
  refine ⟨rfl, by decide, fun _ => ⟨⟨g, 0, none⟩, rfl, fun j p hj => ?_⟩⟩
  have hj0 : j = 0 := by
    have := (List.getElem?_eq_some_iff.1 hj).1
    simp at this; exact this
  subst hj0
  obtain rfl : s = p := by simpa using hj
  refine ⟨[.string s], rfl, rfl, fun k u hk => ?_⟩
  have hk0 : k = 0 := by
    have := (List.getElem?_eq_some_iff.1 hk).1
    simpa [Kd.string, Kd.scalar] using this
  subst hk0
  obtain rfl : Value.string s = u := by simpa using hk
  exact (blk_cell h 0).trans rfl
theorem aw_listen (g : Nat) (w : World) (hm : WMet w) (hg : w.heap[g]? = some (.cells #[.string awL] 9 (0, 0))) : Calls Tryd.prog 9 #[.string ⟨#[80, 65, 83, 86]⟩, .agg #[.int .i64 227, .slice (some ⟨g, 0, none⟩) 1 1], .agg #[.int .u8 10, .int .u8 0, .int .u8 0, .int .u8 1]] w fun e w' => e = .returned (.tuple #[.agg #[.int .u8 10, .int .u8 0, .int .u8 0, .int .u8 1, .int .i64 2048], .int .i64 0]) ∧ Below w.heap.size w w' := by
  have := listen_calls PASV 227 (some ⟨g, 0, none⟩) 1 [awL] (fun s hs => by cases hs; decide +kernel) 10 0 0 1 w hm (row_of hg)
  rw [show listenE PASV 227 [awL] 10 0 0 1 = (10, 0, 0, 1, 2048, 0) from by
    rw [listenE, if_pos rfl, if_pos rfl, show ∀ X Y, one1 [awL] X Y = X awL from fun _ _ => rfl, aw_find]; rfl] at this
  exact this
set_option maxHeartbeats 4000000 in
set_option maxRecDepth 100000 in
theorem awake_calls (w : World) (hm : WMet w) : Calls Tryd.prog 7 #[] w fun e w' => e = .returned (.bool true) ∧ Below w.heap.size w w' := by
  have HM := Aside0.mk hm
  have HB := Aside0.mk (Below.refl w.heap.size w)
  have q1 : ∀ W, _ := fun W => eq_end 10 0 0 1 2048 10 0 0 1 2048 W
  have q2 : ∀ W, _ := fun W => eq_cmd ⟨#[80, 79, 82, 84]⟩ ⟨#[49, 48, 44, 48, 44, 48, 44, 49, 44, 56, 44, 48]⟩ ⟨#[80, 79, 82, 84]⟩ ⟨#[49, 48, 44, 48, 44, 48, 44, 49, 44, 56, 44, 48]⟩ W
  clear hm
  go_enter Tryd.func7, Tryd.ntmps7
  go_wp2_with (first
    | (go_at_call 8; (with_reducible refine (aw_point1 _ (HM.out.below (Wk.st1 HB.out _))).mono ?_); rintro e v1 ⟨rfl, hb⟩; have KC := Aside0.mk (blk_below (Wk.nw0 w (.cells #[.string ⟨#[80, 79, 82, 84]⟩, .string ⟨#[49, 48, 44, 48, 44, 48, 44, 49, 44, 56, 44, 48]⟩] 23)) hb); replace HB := Aside0.mk ((Wk.st1 HB.out _).trans (hb.mono (Wk.st1 HB.out _).size)); clear hb; have c0C0 : v1.cell? ⟨w.heap.size, 0, none⟩ = some (.string ⟨#[80, 79, 82, 84]⟩) := (blk_cell KC.out 0).trans rfl; have c1C0 : ∀ o0, (v1.alloc o0).cell? ⟨w.heap.size, 0, none⟩ = some (.string ⟨#[80, 79, 82, 84]⟩) := fun o0 => (blk_cell (blk_alloc KC.out o0) 0).trans rfl; have c2C0 : ∀ o0 o1, ((v1.alloc o0).alloc o1).cell? ⟨w.heap.size, 0, none⟩ = some (.string ⟨#[80, 79, 82, 84]⟩) := fun o0 o1 => (blk_cell (blk_alloc (blk_alloc KC.out o0) o1) 0).trans rfl; have c0C1 : v1.cell? ⟨w.heap.size, 1, none⟩ = some (.string ⟨#[49, 48, 44, 48, 44, 48, 44, 49, 44, 56, 44, 48]⟩) := (blk_cell KC.out 1).trans rfl; have c1C1 : ∀ o0, (v1.alloc o0).cell? ⟨w.heap.size, 1, none⟩ = some (.string ⟨#[49, 48, 44, 48, 44, 48, 44, 49, 44, 56, 44, 48]⟩) := fun o0 => (blk_cell (blk_alloc KC.out o0) 1).trans rfl; have c2C1 : ∀ o0 o1, ((v1.alloc o0).alloc o1).cell? ⟨w.heap.size, 1, none⟩ = some (.string ⟨#[49, 48, 44, 48, 44, 48, 44, 49, 44, 56, 44, 48]⟩) := fun o0 o1 => (blk_cell (blk_alloc (blk_alloc KC.out o0) o1) 1).trans rfl; have tok1 := trivial)
    | (go_at_call 8; (with_reducible refine (aw_point2 _ (HM.out.below (Wk.st1 HB.out _))).mono ?_); rintro e v2 ⟨rfl, hb⟩; clear c0C0 c1C0 c2C0 c0C1 c1C1 c2C1; replace KC := Aside0.mk (blk_below (blk_alloc KC.out _) hb); have KE := Aside0.mk (blk_below (Wk.nw0 v1 (.cells #[.int .u8 10, .int .u8 0, .int .u8 0, .int .u8 1, .int .i64 2048] 31)) hb); replace HB := Aside0.mk ((Wk.st1 HB.out _).trans (hb.mono (Wk.st1 HB.out _).size)); clear hb; have c0C0 : v2.cell? ⟨w.heap.size, 0, none⟩ = some (.string ⟨#[80, 79, 82, 84]⟩) := (blk_cell KC.out 0).trans rfl; have c1C0 : ∀ o0, (v2.alloc o0).cell? ⟨w.heap.size, 0, none⟩ = some (.string ⟨#[80, 79, 82, 84]⟩) := fun o0 => (blk_cell (blk_alloc KC.out o0) 0).trans rfl; have c2C0 : ∀ o0 o1, ((v2.alloc o0).alloc o1).cell? ⟨w.heap.size, 0, none⟩ = some (.string ⟨#[80, 79, 82, 84]⟩) := fun o0 o1 => (blk_cell (blk_alloc (blk_alloc KC.out o0) o1) 0).trans rfl; have c0C1 : v2.cell? ⟨w.heap.size, 1, none⟩ = some (.string ⟨#[49, 48, 44, 48, 44, 48, 44, 49, 44, 56, 44, 48]⟩) := (blk_cell KC.out 1).trans rfl; have c1C1 : ∀ o0, (v2.alloc o0).cell? ⟨w.heap.size, 1, none⟩ = some (.string ⟨#[49, 48, 44, 48, 44, 48, 44, 49, 44, 56, 44, 48]⟩) := fun o0 => (blk_cell (blk_alloc KC.out o0) 1).trans rfl; have c2C1 : ∀ o0 o1, ((v2.alloc o0).alloc o1).cell? ⟨w.heap.size, 1, none⟩ = some (.string ⟨#[49, 48, 44, 48, 44, 48, 44, 49, 44, 56, 44, 48]⟩) := fun o0 o1 => (blk_cell (blk_alloc (blk_alloc KC.out o0) o1) 1).trans rfl; have c0E0 : v2.cell? ⟨v1.heap.size, 0, none⟩ = some (.int .u8 10) := (blk_cell KE.out 0).trans rfl; have c1E0 : ∀ o0, (v2.alloc o0).cell? ⟨v1.heap.size, 0, none⟩ = some (.int .u8 10) := fun o0 => (blk_cell (blk_alloc KE.out o0) 0).trans rfl; have c2E0 : ∀ o0 o1, ((v2.alloc o0).alloc o1).cell? ⟨v1.heap.size, 0, none⟩ = some (.int .u8 10) := fun o0 o1 => (blk_cell (blk_alloc (blk_alloc KE.out o0) o1) 0).trans rfl; have c0E1 : v2.cell? ⟨v1.heap.size, 1, none⟩ = some (.int .u8 0) := (blk_cell KE.out 1).trans rfl; have c1E1 : ∀ o0, (v2.alloc o0).cell? ⟨v1.heap.size, 1, none⟩ = some (.int .u8 0) := fun o0 => (blk_cell (blk_alloc KE.out o0) 1).trans rfl; have c2E1 : ∀ o0 o1, ((v2.alloc o0).alloc o1).cell? ⟨v1.heap.size, 1, none⟩ = some (.int .u8 0) := fun o0 o1 => (blk_cell (blk_alloc (blk_alloc KE.out o0) o1) 1).trans rfl; have c0E2 : v2.cell? ⟨v1.heap.size, 2, none⟩ = some (.int .u8 0) := (blk_cell KE.out 2).trans rfl; have c1E2 : ∀ o0, (v2.alloc o0).cell? ⟨v1.heap.size, 2, none⟩ = some (.int .u8 0) := fun o0 => (blk_cell (blk_alloc KE.out o0) 2).trans rfl; have c2E2 : ∀ o0 o1, ((v2.alloc o0).alloc o1).cell? ⟨v1.heap.size, 2, none⟩ = some (.int .u8 0) := fun o0 o1 => (blk_cell (blk_alloc (blk_alloc KE.out o0) o1) 2).trans rfl; have c0E3 : v2.cell? ⟨v1.heap.size, 3, none⟩ = some (.int .u8 1) := (blk_cell KE.out 3).trans rfl; have c1E3 : ∀ o0, (v2.alloc o0).cell? ⟨v1.heap.size, 3, none⟩ = some (.int .u8 1) := fun o0 => (blk_cell (blk_alloc KE.out o0) 3).trans rfl; have c2E3 : ∀ o0 o1, ((v2.alloc o0).alloc o1).cell? ⟨v1.heap.size, 3, none⟩ = some (.int .u8 1) := fun o0 o1 => (blk_cell (blk_alloc (blk_alloc KE.out o0) o1) 3).trans rfl; have c0E4 : v2.cell? ⟨v1.heap.size, 4, none⟩ = some (.int .i64 2048) := (blk_cell KE.out 4).trans rfl; have c1E4 : ∀ o0, (v2.alloc o0).cell? ⟨v1.heap.size, 4, none⟩ = some (.int .i64 2048) := fun o0 => (blk_cell (blk_alloc KE.out o0) 4).trans rfl; have c2E4 : ∀ o0 o1, ((v2.alloc o0).alloc o1).cell? ⟨v1.heap.size, 4, none⟩ = some (.int .i64 2048) := fun o0 o1 => (blk_cell (blk_alloc (blk_alloc KE.out o0) o1) 4).trans rfl; have tok2 := trivial)
    | (go_at_call 10; (with_reducible refine (aw_ask _).mono ?_); rintro e v3 ⟨rfl, hb⟩; clear c0C0 c1C0 c2C0 c0C1 c1C1 c2C1 c0E0 c1E0 c2E0 c0E1 c1E1 c2E1 c0E2 c1E2 c2E2 c0E3 c1E3 c2E3 c0E4 c1E4 c2E4; replace KC := Aside0.mk (blk_below (blk_alloc KC.out _) hb); replace KE := Aside0.mk (blk_below (blk_alloc KE.out _) hb); have KF := Aside0.mk (blk_below (Wk.nw0 v2 (.cells #[.int .u8 0, .int .u8 0, .int .u8 0, .int .u8 0, .int .i64 0] 31)) hb); replace HB := Aside0.mk ((Wk.st1 HB.out _).trans (hb.mono (Wk.st1 HB.out _).size)); clear hb; have c0C0 : v3.cell? ⟨w.heap.size, 0, none⟩ = some (.string ⟨#[80, 79, 82, 84]⟩) := (blk_cell KC.out 0).trans rfl; have c1C0 : ∀ o0, (v3.alloc o0).cell? ⟨w.heap.size, 0, none⟩ = some (.string ⟨#[80, 79, 82, 84]⟩) := fun o0 => (blk_cell (blk_alloc KC.out o0) 0).trans rfl; have c2C0 : ∀ o0 o1, ((v3.alloc o0).alloc o1).cell? ⟨w.heap.size, 0, none⟩ = some (.string ⟨#[80, 79, 82, 84]⟩) := fun o0 o1 => (blk_cell (blk_alloc (blk_alloc KC.out o0) o1) 0).trans rfl; have c0C1 : v3.cell? ⟨w.heap.size, 1, none⟩ = some (.string ⟨#[49, 48, 44, 48, 44, 48, 44, 49, 44, 56, 44, 48]⟩) := (blk_cell KC.out 1).trans rfl; have c1C1 : ∀ o0, (v3.alloc o0).cell? ⟨w.heap.size, 1, none⟩ = some (.string ⟨#[49, 48, 44, 48, 44, 48, 44, 49, 44, 56, 44, 48]⟩) := fun o0 => (blk_cell (blk_alloc KC.out o0) 1).trans rfl; have c2C1 : ∀ o0 o1, ((v3.alloc o0).alloc o1).cell? ⟨w.heap.size, 1, none⟩ = some (.string ⟨#[49, 48, 44, 48, 44, 48, 44, 49, 44, 56, 44, 48]⟩) := fun o0 o1 => (blk_cell (blk_alloc (blk_alloc KC.out o0) o1) 1).trans rfl; have c0E0 : v3.cell? ⟨v1.heap.size, 0, none⟩ = some (.int .u8 10) := (blk_cell KE.out 0).trans rfl; have c1E0 : ∀ o0, (v3.alloc o0).cell? ⟨v1.heap.size, 0, none⟩ = some (.int .u8 10) := fun o0 => (blk_cell (blk_alloc KE.out o0) 0).trans rfl; have c2E0 : ∀ o0 o1, ((v3.alloc o0).alloc o1).cell? ⟨v1.heap.size, 0, none⟩ = some (.int .u8 10) := fun o0 o1 => (blk_cell (blk_alloc (blk_alloc KE.out o0) o1) 0).trans rfl; have c0E1 : v3.cell? ⟨v1.heap.size, 1, none⟩ = some (.int .u8 0) := (blk_cell KE.out 1).trans rfl; have c1E1 : ∀ o0, (v3.alloc o0).cell? ⟨v1.heap.size, 1, none⟩ = some (.int .u8 0) := fun o0 => (blk_cell (blk_alloc KE.out o0) 1).trans rfl; have c2E1 : ∀ o0 o1, ((v3.alloc o0).alloc o1).cell? ⟨v1.heap.size, 1, none⟩ = some (.int .u8 0) := fun o0 o1 => (blk_cell (blk_alloc (blk_alloc KE.out o0) o1) 1).trans rfl; have c0E2 : v3.cell? ⟨v1.heap.size, 2, none⟩ = some (.int .u8 0) := (blk_cell KE.out 2).trans rfl; have c1E2 : ∀ o0, (v3.alloc o0).cell? ⟨v1.heap.size, 2, none⟩ = some (.int .u8 0) := fun o0 => (blk_cell (blk_alloc KE.out o0) 2).trans rfl; have c2E2 : ∀ o0 o1, ((v3.alloc o0).alloc o1).cell? ⟨v1.heap.size, 2, none⟩ = some (.int .u8 0) := fun o0 o1 => (blk_cell (blk_alloc (blk_alloc KE.out o0) o1) 2).trans rfl; have c0E3 : v3.cell? ⟨v1.heap.size, 3, none⟩ = some (.int .u8 1) := (blk_cell KE.out 3).trans rfl; have c1E3 : ∀ o0, (v3.alloc o0).cell? ⟨v1.heap.size, 3, none⟩ = some (.int .u8 1) := fun o0 => (blk_cell (blk_alloc KE.out o0) 3).trans rfl; have c2E3 : ∀ o0 o1, ((v3.alloc o0).alloc o1).cell? ⟨v1.heap.size, 3, none⟩ = some (.int .u8 1) := fun o0 o1 => (blk_cell (blk_alloc (blk_alloc KE.out o0) o1) 3).trans rfl; have c0E4 : v3.cell? ⟨v1.heap.size, 4, none⟩ = some (.int .i64 2048) := (blk_cell KE.out 4).trans rfl; have c1E4 : ∀ o0, (v3.alloc o0).cell? ⟨v1.heap.size, 4, none⟩ = some (.int .i64 2048) := fun o0 => (blk_cell (blk_alloc KE.out o0) 4).trans rfl; have c2E4 : ∀ o0 o1, ((v3.alloc o0).alloc o1).cell? ⟨v1.heap.size, 4, none⟩ = some (.int .i64 2048) := fun o0 o1 => (blk_cell (blk_alloc (blk_alloc KE.out o0) o1) 4).trans rfl; have c0F0 : v3.cell? ⟨v2.heap.size, 0, none⟩ = some (.int .u8 0) := (blk_cell KF.out 0).trans rfl; have c1F0 : ∀ o0, (v3.alloc o0).cell? ⟨v2.heap.size, 0, none⟩ = some (.int .u8 0) := fun o0 => (blk_cell (blk_alloc KF.out o0) 0).trans rfl; have c2F0 : ∀ o0 o1, ((v3.alloc o0).alloc o1).cell? ⟨v2.heap.size, 0, none⟩ = some (.int .u8 0) := fun o0 o1 => (blk_cell (blk_alloc (blk_alloc KF.out o0) o1) 0).trans rfl; have c0F1 : v3.cell? ⟨v2.heap.size, 1, none⟩ = some (.int .u8 0) := (blk_cell KF.out 1).trans rfl; have c1F1 : ∀ o0, (v3.alloc o0).cell? ⟨v2.heap.size, 1, none⟩ = some (.int .u8 0) := fun o0 => (blk_cell (blk_alloc KF.out o0) 1).trans rfl; have c2F1 : ∀ o0 o1, ((v3.alloc o0).alloc o1).cell? ⟨v2.heap.size, 1, none⟩ = some (.int .u8 0) := fun o0 o1 => (blk_cell (blk_alloc (blk_alloc KF.out o0) o1) 1).trans rfl; have c0F2 : v3.cell? ⟨v2.heap.size, 2, none⟩ = some (.int .u8 0) := (blk_cell KF.out 2).trans rfl; have c1F2 : ∀ o0, (v3.alloc o0).cell? ⟨v2.heap.size, 2, none⟩ = some (.int .u8 0) := fun o0 => (blk_cell (blk_alloc KF.out o0) 2).trans rfl; have c2F2 : ∀ o0 o1, ((v3.alloc o0).alloc o1).cell? ⟨v2.heap.size, 2, none⟩ = some (.int .u8 0) := fun o0 o1 => (blk_cell (blk_alloc (blk_alloc KF.out o0) o1) 2).trans rfl; have c0F3 : v3.cell? ⟨v2.heap.size, 3, none⟩ = some (.int .u8 0) := (blk_cell KF.out 3).trans rfl; have c1F3 : ∀ o0, (v3.alloc o0).cell? ⟨v2.heap.size, 3, none⟩ = some (.int .u8 0) := fun o0 => (blk_cell (blk_alloc KF.out o0) 3).trans rfl; have c2F3 : ∀ o0 o1, ((v3.alloc o0).alloc o1).cell? ⟨v2.heap.size, 3, none⟩ = some (.int .u8 0) := fun o0 o1 => (blk_cell (blk_alloc (blk_alloc KF.out o0) o1) 3).trans rfl; have c0F4 : v3.cell? ⟨v2.heap.size, 4, none⟩ = some (.int .i64 0) := (blk_cell KF.out 4).trans rfl; have c1F4 : ∀ o0, (v3.alloc o0).cell? ⟨v2.heap.size, 4, none⟩ = some (.int .i64 0) := fun o0 => (blk_cell (blk_alloc KF.out o0) 4).trans rfl; have c2F4 : ∀ o0 o1, ((v3.alloc o0).alloc o1).cell? ⟨v2.heap.size, 4, none⟩ = some (.int .i64 0) := fun o0 o1 => (blk_cell (blk_alloc (blk_alloc KF.out o0) o1) 4).trans rfl; have tok3 := trivial)
    | (go_at_call 11; (with_reducible refine (aw_tell _).mono ?_); rintro e v4 ⟨g, rfl, hg, _, hb⟩; clear c0C0 c1C0 c2C0 c0C1 c1C1 c2C1 c0E0 c1E0 c2E0 c0E1 c1E1 c2E1 c0E2 c1E2 c2E2 c0E3 c1E3 c2E3 c0E4 c1E4 c2E4 c0F0 c1F0 c2F0 c0F1 c1F1 c2F1 c0F2 c1F2 c2F2 c0F3 c1F3 c2F3 c0F4 c1F4 c2F4; replace KC := Aside0.mk (blk_below (blk_alloc KC.out _) hb); replace KE := Aside0.mk (blk_below (blk_alloc KE.out _) hb); replace KF := Aside0.mk (blk_below (blk_alloc KF.out _) hb); have KD := Aside0.mk (blk_below (Wk.nw0 v3 (.cells #[.string ⟨#[80, 79, 82, 84]⟩, .string ⟨#[49, 48, 44, 48, 44, 48, 44, 49, 44, 56, 44, 48]⟩] 23)) hb); replace HB := Aside0.mk ((Wk.st1 HB.out _).trans (hb.mono (Wk.st1 HB.out _).size)); clear hb; have c0C0 : v4.cell? ⟨w.heap.size, 0, none⟩ = some (.string ⟨#[80, 79, 82, 84]⟩) := (blk_cell KC.out 0).trans rfl; have c1C0 : ∀ o0, (v4.alloc o0).cell? ⟨w.heap.size, 0, none⟩ = some (.string ⟨#[80, 79, 82, 84]⟩) := fun o0 => (blk_cell (blk_alloc KC.out o0) 0).trans rfl; have c2C0 : ∀ o0 o1, ((v4.alloc o0).alloc o1).cell? ⟨w.heap.size, 0, none⟩ = some (.string ⟨#[80, 79, 82, 84]⟩) := fun o0 o1 => (blk_cell (blk_alloc (blk_alloc KC.out o0) o1) 0).trans rfl; have c0C1 : v4.cell? ⟨w.heap.size, 1, none⟩ = some (.string ⟨#[49, 48, 44, 48, 44, 48, 44, 49, 44, 56, 44, 48]⟩) := (blk_cell KC.out 1).trans rfl; have c1C1 : ∀ o0, (v4.alloc o0).cell? ⟨w.heap.size, 1, none⟩ = some (.string ⟨#[49, 48, 44, 48, 44, 48, 44, 49, 44, 56, 44, 48]⟩) := fun o0 => (blk_cell (blk_alloc KC.out o0) 1).trans rfl; have c2C1 : ∀ o0 o1, ((v4.alloc o0).alloc o1).cell? ⟨w.heap.size, 1, none⟩ = some (.string ⟨#[49, 48, 44, 48, 44, 48, 44, 49, 44, 56, 44, 48]⟩) := fun o0 o1 => (blk_cell (blk_alloc (blk_alloc KC.out o0) o1) 1).trans rfl; have c0E0 : v4.cell? ⟨v1.heap.size, 0, none⟩ = some (.int .u8 10) := (blk_cell KE.out 0).trans rfl; have c1E0 : ∀ o0, (v4.alloc o0).cell? ⟨v1.heap.size, 0, none⟩ = some (.int .u8 10) := fun o0 => (blk_cell (blk_alloc KE.out o0) 0).trans rfl; have c2E0 : ∀ o0 o1, ((v4.alloc o0).alloc o1).cell? ⟨v1.heap.size, 0, none⟩ = some (.int .u8 10) := fun o0 o1 => (blk_cell (blk_alloc (blk_alloc KE.out o0) o1) 0).trans rfl; have c0E1 : v4.cell? ⟨v1.heap.size, 1, none⟩ = some (.int .u8 0) := (blk_cell KE.out 1).trans rfl; have c1E1 : ∀ o0, (v4.alloc o0).cell? ⟨v1.heap.size, 1, none⟩ = some (.int .u8 0) := fun o0 => (blk_cell (blk_alloc KE.out o0) 1).trans rfl; have c2E1 : ∀ o0 o1, ((v4.alloc o0).alloc o1).cell? ⟨v1.heap.size, 1, none⟩ = some (.int .u8 0) := fun o0 o1 => (blk_cell (blk_alloc (blk_alloc KE.out o0) o1) 1).trans rfl; have c0E2 : v4.cell? ⟨v1.heap.size, 2, none⟩ = some (.int .u8 0) := (blk_cell KE.out 2).trans rfl; have c1E2 : ∀ o0, (v4.alloc o0).cell? ⟨v1.heap.size, 2, none⟩ = some (.int .u8 0) := fun o0 => (blk_cell (blk_alloc KE.out o0) 2).trans rfl; have c2E2 : ∀ o0 o1, ((v4.alloc o0).alloc o1).cell? ⟨v1.heap.size, 2, none⟩ = some (.int .u8 0) := fun o0 o1 => (blk_cell (blk_alloc (blk_alloc KE.out o0) o1) 2).trans rfl; have c0E3 : v4.cell? ⟨v1.heap.size, 3, none⟩ = some (.int .u8 1) := (blk_cell KE.out 3).trans rfl; have c1E3 : ∀ o0, (v4.alloc o0).cell? ⟨v1.heap.size, 3, none⟩ = some (.int .u8 1) := fun o0 => (blk_cell (blk_alloc KE.out o0) 3).trans rfl; have c2E3 : ∀ o0 o1, ((v4.alloc o0).alloc o1).cell? ⟨v1.heap.size, 3, none⟩ = some (.int .u8 1) := fun o0 o1 => (blk_cell (blk_alloc (blk_alloc KE.out o0) o1) 3).trans rfl; have c0E4 : v4.cell? ⟨v1.heap.size, 4, none⟩ = some (.int .i64 2048) := (blk_cell KE.out 4).trans rfl; have c1E4 : ∀ o0, (v4.alloc o0).cell? ⟨v1.heap.size, 4, none⟩ = some (.int .i64 2048) := fun o0 => (blk_cell (blk_alloc KE.out o0) 4).trans rfl; have c2E4 : ∀ o0 o1, ((v4.alloc o0).alloc o1).cell? ⟨v1.heap.size, 4, none⟩ = some (.int .i64 2048) := fun o0 o1 => (blk_cell (blk_alloc (blk_alloc KE.out o0) o1) 4).trans rfl; have c0F0 : v4.cell? ⟨v2.heap.size, 0, none⟩ = some (.int .u8 0) := (blk_cell KF.out 0).trans rfl; have c1F0 : ∀ o0, (v4.alloc o0).cell? ⟨v2.heap.size, 0, none⟩ = some (.int .u8 0) := fun o0 => (blk_cell (blk_alloc KF.out o0) 0).trans rfl; have c2F0 : ∀ o0 o1, ((v4.alloc o0).alloc o1).cell? ⟨v2.heap.size, 0, none⟩ = some (.int .u8 0) := fun o0 o1 => (blk_cell (blk_alloc (blk_alloc KF.out o0) o1) 0).trans rfl; have c0F1 : v4.cell? ⟨v2.heap.size, 1, none⟩ = some (.int .u8 0) := (blk_cell KF.out 1).trans rfl; have c1F1 : ∀ o0, (v4.alloc o0).cell? ⟨v2.heap.size, 1, none⟩ = some (.int .u8 0) := fun o0 => (blk_cell (blk_alloc KF.out o0) 1).trans rfl; have c2F1 : ∀ o0 o1, ((v4.alloc o0).alloc o1).cell? ⟨v2.heap.size, 1, none⟩ = some (.int .u8 0) := fun o0 o1 => (blk_cell (blk_alloc (blk_alloc KF.out o0) o1) 1).trans rfl; have c0F2 : v4.cell? ⟨v2.heap.size, 2, none⟩ = some (.int .u8 0) := (blk_cell KF.out 2).trans rfl; have c1F2 : ∀ o0, (v4.alloc o0).cell? ⟨v2.heap.size, 2, none⟩ = some (.int .u8 0) := fun o0 => (blk_cell (blk_alloc KF.out o0) 2).trans rfl; have c2F2 : ∀ o0 o1, ((v4.alloc o0).alloc o1).cell? ⟨v2.heap.size, 2, none⟩ = some (.int .u8 0) := fun o0 o1 => (blk_cell (blk_alloc (blk_alloc KF.out o0) o1) 2).trans rfl; have c0F3 : v4.cell? ⟨v2.heap.size, 3, none⟩ = some (.int .u8 0) := (blk_cell KF.out 3).trans rfl; have c1F3 : ∀ o0, (v4.alloc o0).cell? ⟨v2.heap.size, 3, none⟩ = some (.int .u8 0) := fun o0 => (blk_cell (blk_alloc KF.out o0) 3).trans rfl; have c2F3 : ∀ o0 o1, ((v4.alloc o0).alloc o1).cell? ⟨v2.heap.size, 3, none⟩ = some (.int .u8 0) := fun o0 o1 => (blk_cell (blk_alloc (blk_alloc KF.out o0) o1) 3).trans rfl; have c0F4 : v4.cell? ⟨v2.heap.size, 4, none⟩ = some (.int .i64 0) := (blk_cell KF.out 4).trans rfl; have c1F4 : ∀ o0, (v4.alloc o0).cell? ⟨v2.heap.size, 4, none⟩ = some (.int .i64 0) := fun o0 => (blk_cell (blk_alloc KF.out o0) 4).trans rfl; have c2F4 : ∀ o0 o1, ((v4.alloc o0).alloc o1).cell? ⟨v2.heap.size, 4, none⟩ = some (.int .i64 0) := fun o0 o1 => (blk_cell (blk_alloc (blk_alloc KF.out o0) o1) 4).trans rfl; have c0D0 : v4.cell? ⟨v3.heap.size, 0, none⟩ = some (.string ⟨#[80, 79, 82, 84]⟩) := (blk_cell KD.out 0).trans rfl; have c1D0 : ∀ o0, (v4.alloc o0).cell? ⟨v3.heap.size, 0, none⟩ = some (.string ⟨#[80, 79, 82, 84]⟩) := fun o0 => (blk_cell (blk_alloc KD.out o0) 0).trans rfl; have c2D0 : ∀ o0 o1, ((v4.alloc o0).alloc o1).cell? ⟨v3.heap.size, 0, none⟩ = some (.string ⟨#[80, 79, 82, 84]⟩) := fun o0 o1 => (blk_cell (blk_alloc (blk_alloc KD.out o0) o1) 0).trans rfl; have c0D1 : v4.cell? ⟨v3.heap.size, 1, none⟩ = some (.string ⟨#[49, 48, 44, 48, 44, 48, 44, 49, 44, 56, 44, 48]⟩) := (blk_cell KD.out 1).trans rfl; have c1D1 : ∀ o0, (v4.alloc o0).cell? ⟨v3.heap.size, 1, none⟩ = some (.string ⟨#[49, 48, 44, 48, 44, 48, 44, 49, 44, 56, 44, 48]⟩) := fun o0 => (blk_cell (blk_alloc KD.out o0) 1).trans rfl; have c2D1 : ∀ o0 o1, ((v4.alloc o0).alloc o1).cell? ⟨v3.heap.size, 1, none⟩ = some (.string ⟨#[49, 48, 44, 48, 44, 48, 44, 49, 44, 56, 44, 48]⟩) := fun o0 o1 => (blk_cell (blk_alloc (blk_alloc KD.out o0) o1) 1).trans rfl; have HG := Aside0.mk hg; clear hg; have tok4 := trivial)
    | (go_at_call 9; (with_reducible refine (aw_listen g _ (HM.out.below (Wk.st1 HB.out _)) (blk_alloc HG.out _)).mono ?_); rintro e v5 ⟨rfl, hb⟩; clear c0C0 c1C0 c2C0 c0C1 c1C1 c2C1 c0E0 c1E0 c2E0 c0E1 c1E1 c2E1 c0E2 c1E2 c2E2 c0E3 c1E3 c2E3 c0E4 c1E4 c2E4 c0F0 c1F0 c2F0 c0F1 c1F1 c2F1 c0F2 c1F2 c2F2 c0F3 c1F3 c2F3 c0F4 c1F4 c2F4 c0D0 c1D0 c2D0 c0D1 c1D1 c2D1; replace KC := Aside0.mk (blk_below (blk_alloc KC.out _) hb); replace KE := Aside0.mk (blk_below (blk_alloc KE.out _) hb); replace KF := Aside0.mk (blk_below (blk_alloc KF.out _) hb); replace KD := Aside0.mk (blk_below (blk_alloc KD.out _) hb); have KR := Aside0.mk (blk_below (Wk.nw0 v4 (.cells #[.int .i64 227, .slice (some ⟨g, 0, none⟩) 1 1] 26)) hb); replace HB := Aside0.mk ((Wk.st1 HB.out _).trans (hb.mono (Wk.st1 HB.out _).size)); clear hb; have c0C0 : v5.cell? ⟨w.heap.size, 0, none⟩ = some (.string ⟨#[80, 79, 82, 84]⟩) := (blk_cell KC.out 0).trans rfl; have c1C0 : ∀ o0, (v5.alloc o0).cell? ⟨w.heap.size, 0, none⟩ = some (.string ⟨#[80, 79, 82, 84]⟩) := fun o0 => (blk_cell (blk_alloc KC.out o0) 0).trans rfl; have c2C0 : ∀ o0 o1, ((v5.alloc o0).alloc o1).cell? ⟨w.heap.size, 0, none⟩ = some (.string ⟨#[80, 79, 82, 84]⟩) := fun o0 o1 => (blk_cell (blk_alloc (blk_alloc KC.out o0) o1) 0).trans rfl; have c0C1 : v5.cell? ⟨w.heap.size, 1, none⟩ = some (.string ⟨#[49, 48, 44, 48, 44, 48, 44, 49, 44, 56, 44, 48]⟩) := (blk_cell KC.out 1).trans rfl; have c1C1 : ∀ o0, (v5.alloc o0).cell? ⟨w.heap.size, 1, none⟩ = some (.string ⟨#[49, 48, 44, 48, 44, 48, 44, 49, 44, 56, 44, 48]⟩) := fun o0 => (blk_cell (blk_alloc KC.out o0) 1).trans rfl; have c2C1 : ∀ o0 o1, ((v5.alloc o0).alloc o1).cell? ⟨w.heap.size, 1, none⟩ = some (.string ⟨#[49, 48, 44, 48, 44, 48, 44, 49, 44, 56, 44, 48]⟩) := fun o0 o1 => (blk_cell (blk_alloc (blk_alloc KC.out o0) o1) 1).trans rfl; have c0E0 : v5.cell? ⟨v1.heap.size, 0, none⟩ = some (.int .u8 10) := (blk_cell KE.out 0).trans rfl; have c1E0 : ∀ o0, (v5.alloc o0).cell? ⟨v1.heap.size, 0, none⟩ = some (.int .u8 10) := fun o0 => (blk_cell (blk_alloc KE.out o0) 0).trans rfl; have c2E0 : ∀ o0 o1, ((v5.alloc o0).alloc o1).cell? ⟨v1.heap.size, 0, none⟩ = some (.int .u8 10) := fun o0 o1 => (blk_cell (blk_alloc (blk_alloc KE.out o0) o1) 0).trans rfl; have c0E1 : v5.cell? ⟨v1.heap.size, 1, none⟩ = some (.int .u8 0) := (blk_cell KE.out 1).trans rfl; have c1E1 : ∀ o0, (v5.alloc o0).cell? ⟨v1.heap.size, 1, none⟩ = some (.int .u8 0) := fun o0 => (blk_cell (blk_alloc KE.out o0) 1).trans rfl; have c2E1 : ∀ o0 o1, ((v5.alloc o0).alloc o1).cell? ⟨v1.heap.size, 1, none⟩ = some (.int .u8 0) := fun o0 o1 => (blk_cell (blk_alloc (blk_alloc KE.out o0) o1) 1).trans rfl; have c0E2 : v5.cell? ⟨v1.heap.size, 2, none⟩ = some (.int .u8 0) := (blk_cell KE.out 2).trans rfl; have c1E2 : ∀ o0, (v5.alloc o0).cell? ⟨v1.heap.size, 2, none⟩ = some (.int .u8 0) := fun o0 => (blk_cell (blk_alloc KE.out o0) 2).trans rfl; have c2E2 : ∀ o0 o1, ((v5.alloc o0).alloc o1).cell? ⟨v1.heap.size, 2, none⟩ = some (.int .u8 0) := fun o0 o1 => (blk_cell (blk_alloc (blk_alloc KE.out o0) o1) 2).trans rfl; have c0E3 : v5.cell? ⟨v1.heap.size, 3, none⟩ = some (.int .u8 1) := (blk_cell KE.out 3).trans rfl; have c1E3 : ∀ o0, (v5.alloc o0).cell? ⟨v1.heap.size, 3, none⟩ = some (.int .u8 1) := fun o0 => (blk_cell (blk_alloc KE.out o0) 3).trans rfl; have c2E3 : ∀ o0 o1, ((v5.alloc o0).alloc o1).cell? ⟨v1.heap.size, 3, none⟩ = some (.int .u8 1) := fun o0 o1 => (blk_cell (blk_alloc (blk_alloc KE.out o0) o1) 3).trans rfl; have c0E4 : v5.cell? ⟨v1.heap.size, 4, none⟩ = some (.int .i64 2048) := (blk_cell KE.out 4).trans rfl; have c1E4 : ∀ o0, (v5.alloc o0).cell? ⟨v1.heap.size, 4, none⟩ = some (.int .i64 2048) := fun o0 => (blk_cell (blk_alloc KE.out o0) 4).trans rfl; have c2E4 : ∀ o0 o1, ((v5.alloc o0).alloc o1).cell? ⟨v1.heap.size, 4, none⟩ = some (.int .i64 2048) := fun o0 o1 => (blk_cell (blk_alloc (blk_alloc KE.out o0) o1) 4).trans rfl; have c0F0 : v5.cell? ⟨v2.heap.size, 0, none⟩ = some (.int .u8 0) := (blk_cell KF.out 0).trans rfl; have c1F0 : ∀ o0, (v5.alloc o0).cell? ⟨v2.heap.size, 0, none⟩ = some (.int .u8 0) := fun o0 => (blk_cell (blk_alloc KF.out o0) 0).trans rfl; have c2F0 : ∀ o0 o1, ((v5.alloc o0).alloc o1).cell? ⟨v2.heap.size, 0, none⟩ = some (.int .u8 0) := fun o0 o1 => (blk_cell (blk_alloc (blk_alloc KF.out o0) o1) 0).trans rfl; have c0F1 : v5.cell? ⟨v2.heap.size, 1, none⟩ = some (.int .u8 0) := (blk_cell KF.out 1).trans rfl; have c1F1 : ∀ o0, (v5.alloc o0).cell? ⟨v2.heap.size, 1, none⟩ = some (.int .u8 0) := fun o0 => (blk_cell (blk_alloc KF.out o0) 1).trans rfl; have c2F1 : ∀ o0 o1, ((v5.alloc o0).alloc o1).cell? ⟨v2.heap.size, 1, none⟩ = some (.int .u8 0) := fun o0 o1 => (blk_cell (blk_alloc (blk_alloc KF.out o0) o1) 1).trans rfl; have c0F2 : v5.cell? ⟨v2.heap.size, 2, none⟩ = some (.int .u8 0) := (blk_cell KF.out 2).trans rfl; have c1F2 : ∀ o0, (v5.alloc o0).cell? ⟨v2.heap.size, 2, none⟩ = some (.int .u8 0) := fun o0 => (blk_cell (blk_alloc KF.out o0) 2).trans rfl; have c2F2 : ∀ o0 o1, ((v5.alloc o0).alloc o1).cell? ⟨v2.heap.size, 2, none⟩ = some (.int .u8 0) := fun o0 o1 => (blk_cell (blk_alloc (blk_alloc KF.out o0) o1) 2).trans rfl; have c0F3 : v5.cell? ⟨v2.heap.size, 3, none⟩ = some (.int .u8 0) := (blk_cell KF.out 3).trans rfl; have c1F3 : ∀ o0, (v5.alloc o0).cell? ⟨v2.heap.size, 3, none⟩ = some (.int .u8 0) := fun o0 => (blk_cell (blk_alloc KF.out o0) 3).trans rfl; have c2F3 : ∀ o0 o1, ((v5.alloc o0).alloc o1).cell? ⟨v2.heap.size, 3, none⟩ = some (.int .u8 0) := fun o0 o1 => (blk_cell (blk_alloc (blk_alloc KF.out o0) o1) 3).trans rfl; have c0F4 : v5.cell? ⟨v2.heap.size, 4, none⟩ = some (.int .i64 0) := (blk_cell KF.out 4).trans rfl; have c1F4 : ∀ o0, (v5.alloc o0).cell? ⟨v2.heap.size, 4, none⟩ = some (.int .i64 0) := fun o0 => (blk_cell (blk_alloc KF.out o0) 4).trans rfl; have c2F4 : ∀ o0 o1, ((v5.alloc o0).alloc o1).cell? ⟨v2.heap.size, 4, none⟩ = some (.int .i64 0) := fun o0 o1 => (blk_cell (blk_alloc (blk_alloc KF.out o0) o1) 4).trans rfl; have c0D0 : v5.cell? ⟨v3.heap.size, 0, none⟩ = some (.string ⟨#[80, 79, 82, 84]⟩) := (blk_cell KD.out 0).trans rfl; have c1D0 : ∀ o0, (v5.alloc o0).cell? ⟨v3.heap.size, 0, none⟩ = some (.string ⟨#[80, 79, 82, 84]⟩) := fun o0 => (blk_cell (blk_alloc KD.out o0) 0).trans rfl; have c2D0 : ∀ o0 o1, ((v5.alloc o0).alloc o1).cell? ⟨v3.heap.size, 0, none⟩ = some (.string ⟨#[80, 79, 82, 84]⟩) := fun o0 o1 => (blk_cell (blk_alloc (blk_alloc KD.out o0) o1) 0).trans rfl; have c0D1 : v5.cell? ⟨v3.heap.size, 1, none⟩ = some (.string ⟨#[49, 48, 44, 48, 44, 48, 44, 49, 44, 56, 44, 48]⟩) := (blk_cell KD.out 1).trans rfl; have c1D1 : ∀ o0, (v5.alloc o0).cell? ⟨v3.heap.size, 1, none⟩ = some (.string ⟨#[49, 48, 44, 48, 44, 48, 44, 49, 44, 56, 44, 48]⟩) := fun o0 => (blk_cell (blk_alloc KD.out o0) 1).trans rfl; have c2D1 : ∀ o0 o1, ((v5.alloc o0).alloc o1).cell? ⟨v3.heap.size, 1, none⟩ = some (.string ⟨#[49, 48, 44, 48, 44, 48, 44, 49, 44, 56, 44, 48]⟩) := fun o0 o1 => (blk_cell (blk_alloc (blk_alloc KD.out o0) o1) 1).trans rfl; have c0R0 : v5.cell? ⟨v4.heap.size, 0, none⟩ = some (.int .i64 227) := (blk_cell KR.out 0).trans rfl; have c1R0 : ∀ o0, (v5.alloc o0).cell? ⟨v4.heap.size, 0, none⟩ = some (.int .i64 227) := fun o0 => (blk_cell (blk_alloc KR.out o0) 0).trans rfl; have c2R0 : ∀ o0 o1, ((v5.alloc o0).alloc o1).cell? ⟨v4.heap.size, 0, none⟩ = some (.int .i64 227) := fun o0 o1 => (blk_cell (blk_alloc (blk_alloc KR.out o0) o1) 0).trans rfl; have c0R1 : v5.cell? ⟨v4.heap.size, 1, none⟩ = some (.slice (some ⟨g, 0, none⟩) 1 1) := (blk_cell KR.out 1).trans rfl; have c1R1 : ∀ o0, (v5.alloc o0).cell? ⟨v4.heap.size, 1, none⟩ = some (.slice (some ⟨g, 0, none⟩) 1 1) := fun o0 => (blk_cell (blk_alloc KR.out o0) 1).trans rfl; have c2R1 : ∀ o0 o1, ((v5.alloc o0).alloc o1).cell? ⟨v4.heap.size, 1, none⟩ = some (.slice (some ⟨g, 0, none⟩) 1 1) := fun o0 o1 => (blk_cell (blk_alloc (blk_alloc KR.out o0) o1) 1).trans rfl; have tok5 := trivial))
  go_ret
  exact ⟨rfl, (Wk.st1 HB.out _)⟩
end Go.Proofs.YtdcbkeihgbekdaaDoor.Turn

namespace Go.Proofs.YtdcbkeihgbekdaaDoor.Turn
open Go Go.RowKit Go.Proofs.YtdcbkeihgbekdaaDoorW.PrintWords Go.Proofs.YtdcbkeihgbekdaaDoorW.PrintLast Go.Proofs.YtdcbkeihgbekdaaDoorW.PrintMore Go.Proofs.YtdcbkeihgbekdaaDoor.Dig Go.Proofs.YtdcbkeihgbekdaaDoor.Quad Go.Proofs.YtdcbkeihgbekdaaDoor.ExtP Go.Proofs.YtdcbkeihgbekdaaDoor.SixP
set_option linter.unusedVariables false
set_option linter.unusedSimpArgs false

end Go.Proofs.YtdcbkeihgbekdaaDoor.Turn

namespace Go.Proofs.YtdcbkeihgbekdaaDoor.Turn
open Go Go.RowKit Go.Proofs.YtdcbkeihgbekdaaDoorW.PrintWords Go.Proofs.YtdcbkeihgbekdaaDoorW.PrintLast Go.Proofs.YtdcbkeihgbekdaaDoorW.PrintMore Go.Proofs.YtdcbkeihgbekdaaDoor.Dig Go.Proofs.YtdcbkeihgbekdaaDoor.Quad Go.Proofs.YtdcbkeihgbekdaaDoor.ExtP Go.Proofs.YtdcbkeihgbekdaaDoor.SixP
set_option linter.unusedVariables false
set_option linter.unusedSimpArgs false

theorem lines_calls (name : ByteArray) (code : Int) (A : Option Addr) (cap n : Nat) (l : List ByteArray) (hn : n = l.length) (hl : ∀ s, l = [s] → s.size ≤ 1000000) (h0 h1 h2 h3 r0 r1 r2 r3 r4 r5 : Int) (hR : listenE name code l h0 h1 h2 h3 = (r0, r1, r2, r3, r4, r5)) (w : World) (hm : WMet w) (hr : Kd.C Kd.string w A n l) :
    Calls Tryd.prog 9 #[.string name, .agg #[.int .i64 code, .slice A n cap], .agg #[.int .u8 h0, .int .u8 h1, .int .u8 h2, .int .u8 h3]] w fun e w' => e = .returned (.tuple #[.agg #[.int .u8 r0, .int .u8 r1, .int .u8 r2, .int .u8 r3, .int .i64 r4], .int .i64 r5]) ∧ Below w.heap.size w w' := by
  subst hn
  have := listen_calls name code A cap l hl h0 h1 h2 h3 w hm hr
  rwa [hR] at this
end Go.Proofs.YtdcbkeihgbekdaaDoor.Turn

namespace Go.Proofs.YtdcbkeihgbekdaaDoor.Turn
open Go Go.RowKit Go.Proofs.YtdcbkeihgbekdaaDoorW.PrintWords Go.Proofs.YtdcbkeihgbekdaaDoorW.PrintLast Go.Proofs.YtdcbkeihgbekdaaDoorW.PrintMore Go.Proofs.YtdcbkeihgbekdaaDoor.Dig Go.Proofs.YtdcbkeihgbekdaaDoor.Quad Go.Proofs.YtdcbkeihgbekdaaDoor.ExtP Go.Proofs.YtdcbkeihgbekdaaDoor.SixP
set_option linter.unusedVariables false
set_option linter.unusedSimpArgs false

theorem tell_no_calls {name : ByteArray} {a b c d : Nat} {p : Int} (h : a < 256 ∧ b < 256 ∧ c < 256 ∧ d < 256) (hn : tellE name a b c d p = none) (w : World) : Calls Tryd.prog 11 #[.string name, .agg #[.int .u8 a, .int .u8 b, .int .u8 c, .int .u8 d, .int .i64 p]] w fun e w' => e = .returned (.tuple #[.agg #[.int .i64 0, .slice none 0 0], .bool false]) ∧ Below w.heap.size w w' := by
  have := tell_calls name a b c d p h w
  rwa [hn] at this
theorem tell_some_calls {name : ByteArray} {a b c d : Nat} {p : Int} (h : a < 256 ∧ b < 256 ∧ c < 256 ∧ d < 256) {code : Int} {t : ByteArray} (hn : tellE name a b c d p = some (code, t)) (w : World) : Calls Tryd.prog 11 #[.string name, .agg #[.int .u8 a, .int .u8 b, .int .u8 c, .int .u8 d, .int .i64 p]] w (Told w code t) := by
  have := tell_calls name a b c d p h w
  rwa [hn] at this
theorem ask_is_calls {name : ByteArray} {a b c d : Nat} {p : Int} (h : a < 256 ∧ b < 256 ∧ c < 256 ∧ d < 256) {x y : ByteArray} {z : Bool} (hn : askE name a b c d p = (x, y, z)) (w : World) : Calls Tryd.prog 10 #[.string name, .agg #[.int .u8 a, .int .u8 b, .int .u8 c, .int .u8 d, .int .i64 p]] w fun e w' => e = .returned (.tuple #[.agg #[.string x, .string y], .bool z]) ∧ Below w.heap.size w w' := by
  have := ask_calls name a b c d p h w
  rwa [hn] at this
theorem point_is_calls {verb arg : ByteArray} (hs : arg.size ≤ 1000000) {h0 h1 h2 h3 r0 r1 r2 r3 r4 r5 : Int} (hR : pointE verb arg h0 h1 h2 h3 = (r0, r1, r2, r3, r4, r5)) (w : World) (hm : WMet w) : Calls Tryd.prog 8 #[.agg #[.string verb, .string arg], .agg #[.int .u8 h0, .int .u8 h1, .int .u8 h2, .int .u8 h3]] w fun e w' => e = .returned (.tuple #[.agg #[.int .u8 r0, .int .u8 r1, .int .u8 r2, .int .u8 r3, .int .i64 r4], .int .i64 r5]) ∧ Below w.heap.size w w' := by
  have := point_calls verb arg hs h0 h1 h2 h3 w hm
  rwa [hR] at this
end Go.Proofs.YtdcbkeihgbekdaaDoor.Turn

namespace Go.Proofs.YtdcbkeihgbekdaaDoor.Q
open Go Go.RowKit Go.Proofs.YtdcbkeihgbekdaaDoorW.PrintWords Go.Proofs.YtdcbkeihgbekdaaDoorW.PrintLast Go.Proofs.YtdcbkeihgbekdaaDoorW.PrintMore
set_option linter.unusedVariables false
structure S64 where
 f0 : ByteArray
 f1 : Int
 f2 : Int
 f3 : Bool
def z64 : S64 := ⟨(⟨#[]⟩ : ByteArray), (0 : Int), (0 : Int), false⟩
def k64 : Kd S64 := Kd.iso (Kd.pair Kd.string (Kd.pair (Kd.int .i64) (Kd.pair (Kd.int .i64) Kd.bool))) (fun x : S64 => (x.f0, x.f1, x.f2, x.f3))
theorem k64_open {w : World} {x : S64} {cs : List Value} (h : k64.K w x cs) : cs = [.string x.f0, .int .i64 x.f1, .int .i64 x.f2, .bool x.f3] := by
 obtain ⟨_, _, rfl, rfl, ⟨_, _, rfl, rfl, ⟨_, _, rfl, rfl, rfl⟩⟩⟩ := h
 exact rfl
theorem k64_mk (w : World) (x : S64)  : k64.K w x [.string x.f0, .int .i64 x.f1, .int .i64 x.f2, .bool x.f3] := ⟨[.string x.f0], [.int .i64 x.f1, .int .i64 x.f2, .bool x.f3], rfl, rfl, ⟨[.int .i64 x.f1], [.int .i64 x.f2, .bool x.f3], rfl, rfl, ⟨[.int .i64 x.f2], [.bool x.f3], rfl, rfl, rfl⟩⟩⟩
def rd_T64 (xs : List S64) (i : Int) : S64 := xs.getD i.toNat z64
theorem at_T64 {w : World} {A : Option Addr} {n : Nat} {xs : List S64} (h : Kd.C k64 w A n xs) (i : Int) (h0 : 0 ≤ i) (h1 : i < n) : ∃ ad , A = some ad ∧ w.cell? (ad.add (i.toNat * 4)) = some (.string (rd_T64 xs i).f0) ∧ w.cell? ⟨(ad.add (i.toNat * 4)).block, (ad.add (i.toNat * 4)).off + 1, none⟩ = some (.int .i64 (rd_T64 xs i).f1) ∧ w.cell? ⟨(ad.add (i.toNat * 4)).block, (ad.add (i.toNat * 4)).off + 2, none⟩ = some (.int .i64 (rd_T64 xs i).f2) ∧ w.cell? ⟨(ad.add (i.toNat * 4)).block, (ad.add (i.toNat * 4)).off + 3, none⟩ = some (.bool (rd_T64 xs i).f3) := by
 obtain ⟨ad, c, e, _, hK, hc0⟩ := Kd.C_get h z64 i h0 h1
 have hc : ∀ j u, c[j]? = some u → w.cell? (ad.add (i.toNat * 4 + j)) = some u := hc0
 obtain rfl := k64_open hK
 exact ⟨ad, e, hc 0 _ rfl, by rw [← add_field _ _ 1 (by omega)]; exact hc 1 _ rfl, by rw [← add_field _ _ 2 (by omega)]; exact hc 2 _ rfl, by rw [← add_field _ _ 3 (by omega)]; exact hc 3 _ rfl⟩

end Go.Proofs.YtdcbkeihgbekdaaDoor.Q

namespace Go.Proofs.YtdcbkeihgbekdaaDoor.Q
open Go Go.RowKit Go.Proofs.YtdcbkeihgbekdaaDoorW.PrintWords Go.Proofs.YtdcbkeihgbekdaaDoorW.PrintLast Go.Proofs.YtdcbkeihgbekdaaDoorW.PrintMore
set_option linter.unusedVariables false
set_option linter.unusedSimpArgs false

/-! ### elements laid flat -/
theorem reps_app {α : Type} {R : α → List Value → Prop} {size : Nat} (enc : α → List Value) (hlen : ∀ x, (enc x).length = size) : ∀ (xs ps : List α) (cs : List Value), Reps R size ps cs → (∀ x ∈ xs, R x (enc x)) → Reps R size (ps ++ xs) (cs ++ xs.flatMap enc)
  | [], ps, cs, h, _ => by simpa using h
  | x :: xs, ps, cs, h, hx => by
    have h1 := reps_app enc hlen xs (ps ++ [x]) (cs ++ enc x) (h.snoc (hx x (List.mem_cons_self ..)) (hlen x)) (fun y hy => hx y (List.mem_cons_of_mem _ hy))
    simpa using h1
theorem reps_flat {α : Type} {R : α → List Value → Prop} {size : Nat} (enc : α → List Value) (hlen : ∀ x, (enc x).length = size) (xs : List α) (hx : ∀ x ∈ xs, R x (enc x)) : Reps R size xs (xs.flatMap enc) := by
  simpa using reps_app enc hlen xs [] [] (Reps.none R size) hx
/-- A row that lies in a block known whole. -/
theorem C_of_blk {α : Type} (d : Kd α) (e : TypeId) (w : World) (B : Nat) (xs : List α) (enc : α → List Value) (hlen : ∀ x, (enc x).length = d.sz) (hK : ∀ x ∈ xs, d.K w x (enc x)) (hm : xs.length ≤ 9223372036854775807) {cells : Array Value} (hc : cells = (xs.flatMap enc).toArray) (hb : w.heap[B]? = some (.cells cells e (0, 0))) :
    Kd.C d w (some ⟨B, 0, none⟩) xs.length xs := by
  subst hc
  have hr := reps_flat (R := fun x c => d.K w x c) enc hlen xs hK
  refine ⟨rfl, hm, fun _ => ⟨_, rfl, fun j p hp => ⟨_, ?_, hr.2 j p hp, fun i u hu => ?_⟩⟩⟩
  · exact d.K_len (hr.2 j p hp)
  · have e1 : (⟨B, 0, none⟩ : Addr).add (j * d.sz + i) = ⟨B, j * d.sz + i, none⟩ := by
      simp [Addr.add]
      intro h1 h2; omega
    rw [e1, blk_cell hb, List.getElem?_toArray]
    rw [List.getElem?_take] at hu
    split at hu
    · rwa [List.getElem?_drop] at hu
    · cases hu

/-! ### the table -/
def tableS : List S64 := [
  ⟨⟨#[65, 66, 79, 82]⟩, 9, 0, false⟩,
  ⟨⟨#[65, 67, 67, 84]⟩, 0, 2, false⟩,
  ⟨⟨#[65, 76, 76, 79]⟩, 1, 2, false⟩,
  ⟨⟨#[65, 80, 80, 69]⟩, 3, 2, true⟩,
  ⟨⟨#[67, 68, 85, 80]⟩, 2, 0, false⟩,
  ⟨⟨#[67, 87, 68]⟩, 2, 2, true⟩,
  ⟨⟨#[68, 69, 76, 69]⟩, 1, 2, true⟩,
  ⟨⟨#[69, 80, 82, 84]⟩, 5, 2, false⟩,
  ⟨⟨#[69, 80, 83, 86]⟩, 4, 0, false⟩,
  ⟨⟨#[70, 69, 65, 84]⟩, 1, 0, false⟩,
  ⟨⟨#[72, 69, 76, 80]⟩, 1, 1, false⟩,
  ⟨⟨#[76, 73, 83, 84]⟩, 3, 1, true⟩,
  ⟨⟨#[77, 68, 84, 77]⟩, 1, 2, true⟩,
  ⟨⟨#[77, 75, 68]⟩, 1, 2, true⟩,
  ⟨⟨#[77, 76, 83, 68]⟩, 3, 1, true⟩,
  ⟨⟨#[77, 76, 83, 84]⟩, 1, 1, true⟩,
  ⟨⟨#[77, 79, 68, 69]⟩, 1, 2, false⟩,
  ⟨⟨#[78, 76, 83, 84]⟩, 3, 1, true⟩,
  ⟨⟨#[78, 79, 79, 80]⟩, 1, 0, false⟩,
  ⟨⟨#[80, 65, 83, 83]⟩, 0, 1, false⟩,
  ⟨⟨#[80, 65, 83, 86]⟩, 4, 0, false⟩,
  ⟨⟨#[80, 79, 82, 84]⟩, 5, 2, false⟩,
  ⟨⟨#[80, 87, 68]⟩, 1, 0, false⟩,
  ⟨⟨#[81, 85, 73, 84]⟩, 10, 0, false⟩,
  ⟨⟨#[82, 69, 83, 84]⟩, 8, 2, false⟩,
  ⟨⟨#[82, 69, 84, 82]⟩, 3, 2, true⟩,
  ⟨⟨#[82, 77, 68]⟩, 1, 2, true⟩,
  ⟨⟨#[82, 78, 70, 82]⟩, 6, 2, true⟩,
  ⟨⟨#[82, 78, 84, 79]⟩, 7, 2, true⟩,
  ⟨⟨#[83, 73, 90, 69]⟩, 1, 2, true⟩,
  ⟨⟨#[83, 84, 65, 84]⟩, 1, 1, true⟩,
  ⟨⟨#[83, 84, 79, 82]⟩, 3, 2, true⟩,
  ⟨⟨#[83, 84, 82, 85]⟩, 1, 2, false⟩,
  ⟨⟨#[83, 89, 83, 84]⟩, 1, 0, false⟩,
  ⟨⟨#[84, 89, 80, 69]⟩, 1, 2, false⟩,
  ⟨⟨#[85, 83, 69, 82]⟩, 0, 2, false⟩]
def encS (v : S64) : List Value := [.string v.f0, .int .i64 v.f1, .int .i64 v.f2, .bool v.f3]
def encV (v : S64) : Value := .agg (encS v).toArray
set_option maxRecDepth 100000 in
theorem tableS_len : tableS.length = 36 := rfl
set_option maxRecDepth 100000 in
theorem tableC : #[.string ⟨#[65, 66, 79, 82]⟩, .int .i64 9, .int .i64 0, .bool false, .string ⟨#[65, 67, 67, 84]⟩, .int .i64 0, .int .i64 2, .bool false, .string ⟨#[65, 76, 76, 79]⟩, .int .i64 1, .int .i64 2, .bool false, .string ⟨#[65, 80, 80, 69]⟩, .int .i64 3, .int .i64 2, .bool true, .string ⟨#[67, 68, 85, 80]⟩, .int .i64 2, .int .i64 0, .bool false, .string ⟨#[67, 87, 68]⟩, .int .i64 2, .int .i64 2, .bool true, .string ⟨#[68, 69, 76, 69]⟩, .int .i64 1, .int .i64 2, .bool true, .string ⟨#[69, 80, 82, 84]⟩, .int .i64 5, .int .i64 2, .bool false, .string ⟨#[69, 80, 83, 86]⟩, .int .i64 4, .int .i64 0, .bool false, .string ⟨#[70, 69, 65, 84]⟩, .int .i64 1, .int .i64 0, .bool false, .string ⟨#[72, 69, 76, 80]⟩, .int .i64 1, .int .i64 1, .bool false, .string ⟨#[76, 73, 83, 84]⟩, .int .i64 3, .int .i64 1, .bool true, .string ⟨#[77, 68, 84, 77]⟩, .int .i64 1, .int .i64 2, .bool true, .string ⟨#[77, 75, 68]⟩, .int .i64 1, .int .i64 2, .bool true, .string ⟨#[77, 76, 83, 68]⟩, .int .i64 3, .int .i64 1, .bool true, .string ⟨#[77, 76, 83, 84]⟩, .int .i64 1, .int .i64 1, .bool true, .string ⟨#[77, 79, 68, 69]⟩, .int .i64 1, .int .i64 2, .bool false, .string ⟨#[78, 76, 83, 84]⟩, .int .i64 3, .int .i64 1, .bool true, .string ⟨#[78, 79, 79, 80]⟩, .int .i64 1, .int .i64 0, .bool false, .string ⟨#[80, 65, 83, 83]⟩, .int .i64 0, .int .i64 1, .bool false, .string ⟨#[80, 65, 83, 86]⟩, .int .i64 4, .int .i64 0, .bool false, .string ⟨#[80, 79, 82, 84]⟩, .int .i64 5, .int .i64 2, .bool false, .string ⟨#[80, 87, 68]⟩, .int .i64 1, .int .i64 0, .bool false, .string ⟨#[81, 85, 73, 84]⟩, .int .i64 10, .int .i64 0, .bool false, .string ⟨#[82, 69, 83, 84]⟩, .int .i64 8, .int .i64 2, .bool false, .string ⟨#[82, 69, 84, 82]⟩, .int .i64 3, .int .i64 2, .bool true, .string ⟨#[82, 77, 68]⟩, .int .i64 1, .int .i64 2, .bool true, .string ⟨#[82, 78, 70, 82]⟩, .int .i64 6, .int .i64 2, .bool true, .string ⟨#[82, 78, 84, 79]⟩, .int .i64 7, .int .i64 2, .bool true, .string ⟨#[83, 73, 90, 69]⟩, .int .i64 1, .int .i64 2, .bool true, .string ⟨#[83, 84, 65, 84]⟩, .int .i64 1, .int .i64 1, .bool true, .string ⟨#[83, 84, 79, 82]⟩, .int .i64 3, .int .i64 2, .bool true, .string ⟨#[83, 84, 82, 85]⟩, .int .i64 1, .int .i64 2, .bool false, .string ⟨#[83, 89, 83, 84]⟩, .int .i64 1, .int .i64 0, .bool false, .string ⟨#[84, 89, 80, 69]⟩, .int .i64 1, .int .i64 2, .bool false, .string ⟨#[85, 83, 69, 82]⟩, .int .i64 0, .int .i64 2, .bool false] = (tableS.flatMap encS).toArray := rfl
theorem encS_len (v : S64) : (encS v).length = k64.sz := rfl
end Go.Proofs.YtdcbkeihgbekdaaDoor.Q
