/- The contract of the reference's Text. -/
import Derived.Test.YtfbjejkmjbknaaaDoorRefNum
namespace Go.Proofs.YtfbjejkmjbknaaaDoor.Quad
open Go Go.RowKit Go.Proofs.YtfbjejkmjbknaaaDoorW.PrintWords Go.Proofs.YtfbjejkmjbknaaaDoorW.PrintLast Go.Proofs.YtfbjejkmjbknaaaDoorW.PrintMore Go.Proofs.YtfbjejkmjbknaaaDoor.Dig
set_option linter.unusedVariables false
set_option linter.unusedSimpArgs false

theorem ref_num_callsU (n : Nat) (h : n < 256) (w : World) :
    Calls Tryd.prog 22 #[.int .i64 n] w fun e w' => e = .returned (.string ⟨(digU n).toArray⟩) ∧ w' = w := by
  have := ref_num_calls (n : Int) (by omega) (by omega) w
  rwa [numU_nat] at this
/-- One address in a block of the call's own. -/
def One (w W : World) (a b c d : Nat) : Prop :=
  Below w.heap.size w W ∧ W.heap[w.heap.size]? = some (.cells #[.int .u8 a, .int .u8 b, .int .u8 c, .int .u8 d] 23 (0, 0))
theorem One.cells {w W : World} {a b c d : Nat} (h : One w W a b c d) :
    W.cell? ⟨w.heap.size, 0, none⟩ = some (.int .u8 a) ∧ W.cell? ⟨w.heap.size, 1, none⟩ = some (.int .u8 b) ∧ W.cell? ⟨w.heap.size, 2, none⟩ = some (.int .u8 c) ∧ W.cell? ⟨w.heap.size, 3, none⟩ = some (.int .u8 d) :=
  ⟨(blk_cell h.2 0).trans rfl, (blk_cell h.2 1).trans rfl, (blk_cell h.2 2).trans rfl, (blk_cell h.2 3).trans rfl⟩
theorem One.drew {w W : World} {a b c d : Nat} (h : One w W a b c d) : One w { W with drawn := W.drawn + 1 } a b c d := ⟨h.1.drew, h.2⟩
theorem One.start (w : World) (a b c d : Nat) : One w (w.alloc (.cells #[.int .u8 a, .int .u8 b, .int .u8 c, .int .u8 d] 23)) a b c d := ⟨(Below.refl _ _).alloc (Nat.le_refl _) _, blk_new w _⟩

set_option maxHeartbeats 2000000 in
set_option maxRecDepth 100000 in
theorem ref_text_calls (a b c d : Nat) (ha : a < 256) (hb : b < 256) (hc : c < 256) (hd : d < 256) (w : World) :
    Calls Tryd.prog 21 #[.agg #[.int .u8 a, .int .u8 b, .int .u8 c, .int .u8 d]] w fun e w' => e = .returned (.string ⟨(hostU a b c d).toArray⟩) ∧ Below w.heap.size w w' := by
  have hl : ∀ n : Nat, n < 256 → (digU n).length ≤ 3 := fun n hn => by rw [digU_len]; exact dig_len 2 n (by omega)
  obtain ⟨A, hA⟩ : ∃ A : ByteArray, A = ⟨(digU a).toArray⟩ := ⟨_, rfl⟩
  obtain ⟨B, hB⟩ : ∃ B : ByteArray, B = ⟨(digU b).toArray⟩ := ⟨_, rfl⟩
  obtain ⟨C, hC⟩ : ∃ C : ByteArray, C = ⟨(digU c).toArray⟩ := ⟨_, rfl⟩
  obtain ⟨D, hD⟩ : ∃ D : ByteArray, D = ⟨(digU d).toArray⟩ := ⟨_, rfl⟩
  have sA : A.size ≤ 3 := by rw [hA]; exact hl a ha
  have sB : B.size ≤ 3 := by rw [hB]; exact hl b hb
  have sC : C.size ≤ 3 := by rw [hC]; exact hl c hc
  have sD : D.size ≤ 3 := by rw [hD]; exact hl d hd
  have HE := Aside0.mk (show A ++ ⟨#[46]⟩ ++ B ++ ⟨#[46]⟩ ++ C ++ ⟨#[46]⟩ ++ D = (⟨(hostU a b c d).toArray⟩ : ByteArray) from by
    rw [hA, hB, hC, hD]; apply ByteArray.ext; apply Array.ext'; simp [hostU])
  have HA := Aside0.mk (And.intro ha hA)
  have HB := Aside0.mk (And.intro hb hB)
  have HC := Aside0.mk (And.intro hc hC)
  have HD := Aside0.mk (And.intro hd hD)
  have h46 : (ByteArray.mk #[46]).size = 1 := rfl
  have HO := Aside0.mk (One.start w a b c d)
  have hca : IntKind.i64.wrap (a : Int) = (a : Int) := by simp [IntKind.wrap, IntKind.bits, IntKind.signed]; omega
  have hcb : IntKind.i64.wrap (b : Int) = (b : Int) := by simp [IntKind.wrap, IntKind.bits, IntKind.signed]; omega
  have hcc : IntKind.i64.wrap (c : Int) = (c : Int) := by simp [IntKind.wrap, IntKind.bits, IntKind.signed]; omega
  have hcd : IntKind.i64.wrap (d : Int) = (d : Int) := by simp [IntKind.wrap, IntKind.bits, IntKind.signed]; omega
  clear hl hA hB hC hD ha hb hc hd
  go_enter Tryd.func21, Tryd.ntmps21
  go_wp2
  refine wp_region_quiet (C := fun W => One w W a b c d) (by kernel_rfl) (by kernel_rfl) HO.out.drew ?_
  simp only []
  repeat
    refine wpQuiet_step (fun K hK => ?_)
    go_simp
    first
      | (refine hK _ ?_; clear hK K)
      | (apply Exists.intro
         refine ⟨fun W hW => ?_, hK _ ?_⟩
         (first
          | (go_at_call 22; with_reducible refine (ref_num_callsU a HA.out.1 _).mono ?_; rw [← HA.out.2]; rintro e w5 ⟨rfl, rfl⟩; exact ⟨rfl, hW⟩)
          | (go_at_call 22; with_reducible refine (ref_num_callsU b HB.out.1 _).mono ?_; rw [← HB.out.2]; rintro e w5 ⟨rfl, rfl⟩; exact ⟨rfl, hW⟩)
          | (go_at_call 22; with_reducible refine (ref_num_callsU c HC.out.1 _).mono ?_; rw [← HC.out.2]; rintro e w5 ⟨rfl, rfl⟩; exact ⟨rfl, hW⟩)
          | (go_at_call 22; with_reducible refine (ref_num_callsU d HD.out.1 _).mono ?_; rw [← HD.out.2]; rintro e w5 ⟨rfl, rfl⟩; exact ⟨rfl, hW⟩)
          | ((try simp only [ByteArray.size_append, h46]); rw [if_neg (by omega)]; exact ⟨rfl, rfl⟩)
          | (obtain ⟨q0, q1, q2, q3⟩ := hW.cells; go_simp; rfl))
         clear hK K)
  refine wpQuiet_nil ?_
  intro W hW
  go_wp2
  go_ret
  exact ⟨by rw [← HE.out]; rfl, hW.1⟩
end Go.Proofs.YtfbjejkmjbknaaaDoor.Quad
