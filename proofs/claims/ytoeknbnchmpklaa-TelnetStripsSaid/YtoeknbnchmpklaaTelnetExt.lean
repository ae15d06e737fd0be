/- Package telnet's function Strip in the form that the printed texts call it by. -/
import Derived.Test.YtoeknbnchmpklaaTelnet
set_option linter.unusedVariables false
namespace Go.Proofs.Ytoeknbnchmpklaa.TelnetExt
open Go Go.RowKit Go.Proofs.YtoeknbnchmpklaaW.PrintWords Go.Proofs.YtoeknbnchmpklaaW.PrintLast Go.Proofs.YtoeknbnchmpklaaW.PrintMore

def telnet_Strip.f (a0 : Int) (l1 : List Int) : Option (Int × List Int × Int) := if l1.length ≤ 1000000 then some ((Telnet.strip a0 l1).1, (Telnet.strip a0 l1).2.2, (Telnet.strip a0 l1).2.1) else none
theorem telnet_Strip.calls (a0 : Int) (A1 : Option Addr) (c1 : Nat) (l1 : List Int) (r1 : Int) (r2 : List Int) (r3 : Int) (w : World) (hr1 : Kd.C (Kd.int .u8) w A1 l1.length l1) (hc1 : l1.length ≤ c1) (h : telnet_Strip.f a0 l1 = some (r1, r2, r3)) :
    Calls Try.prog 9 #[.int .i64 a0, .slice A1 l1.length c1] w fun e w' => ∃ v1_ : Value, e = .returned (.tuple #[.int .i64 r1, v1_, .int .i64 r3]) ∧ Kd.R (Kd.int .u8) 5 w' w.heap.size (fun _ => True) v1_ r2 ∧ Below w.heap.size w w' := by
  unfold telnet_Strip.f at h
  split at h
  · rename_i hl
    simp only [Option.some.injEq, Prod.mk.injEq] at h
    obtain ⟨rfl, rfl, rfl⟩ := h
    exact Telnet.strip_calls a0 A1 c1 l1 w hr1 hl
  · cases h
end Go.Proofs.Ytoeknbnchmpklaa.TelnetExt
