/- Package pool's functions in the form that the printed texts call them by. -/
import Derived.Test.YtjfddeflkehccaaPool
set_option linter.unusedVariables false
namespace Go.Proofs.Ytjfddeflkehccaa.PoolExt
open Go Go.RowKit Go.Proofs.YtjfddeflkehccaaW.PrintWords Go.Proofs.YtjfddeflkehccaaW.PrintLast Go.Proofs.YtjfddeflkehccaaW.PrintMore

def pool_Pick.f (a0 a1 a2 : Int) (l3 : List Int) : Option (Int × Bool) := some (Pool.pick a0 a1 a2 l3)
theorem pool_Pick.calls (a0 : Int) (a1 : Int) (a2 : Int) (A3 : Option Addr) (c3 : Nat) (l3 : List Int) (r1 : Int) (r2 : Bool) (w : World) (hr3 : Kd.C (Kd.int .i64) w A3 l3.length l3) (hc3 : l3.length ≤ c3) (h : pool_Pick.f a0 a1 a2 l3 = some (r1, r2)) :
    Calls Try.prog 9 #[.int .i64 a0, .int .i64 a1, .int .i64 a2, .slice A3 l3.length c3] w fun e w' => e = .returned (.tuple #[.int .i64 r1, .bool r2]) ∧ Below w.heap.size w w' := by
  refine (Pool.pick_calls a0 a1 a2 A3 c3 l3 w hr3).mono fun e w' ⟨he, hb⟩ => ⟨?_, hb⟩
  have := Option.some.inj h
  rw [he, this]

def pool_Free.f (a0 a1 : Int) (l2 : List Int) : Option Int := if l2.length ≤ 1000 then some (Pool.free a0 a1 l2) else none
theorem pool_Free.calls (a0 : Int) (a1 : Int) (A2 : Option Addr) (c2 : Nat) (l2 : List Int) (r : Int) (w : World) (hr2 : Kd.C (Kd.int .i64) w A2 l2.length l2) (hc2 : l2.length ≤ c2) (h : pool_Free.f a0 a1 l2 = some r) :
    Calls Try.prog 11 #[.int .i64 a0, .int .i64 a1, .slice A2 l2.length c2] w fun e w' => e = .returned (.int .i64 r) ∧ Below w.heap.size w w' := by
  unfold pool_Free.f at h
  split at h
  · rename_i hl
    refine (Pool.free_calls a0 a1 A2 c2 l2 w hr2 hl).mono fun e w' ⟨he, hb⟩ => ⟨?_, hb⟩
    have := Option.some.inj h
    rw [he, this]
  · cases h
end Go.Proofs.Ytjfddeflkehccaa.PoolExt
