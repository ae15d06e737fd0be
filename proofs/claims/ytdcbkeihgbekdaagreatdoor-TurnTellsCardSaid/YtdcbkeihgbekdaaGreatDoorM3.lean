/- Contracts and plain facts that the law's proof needs. -/
import Derived.Test.YtdcbkeihgbekdaaGreatDoorProg
import Derived.WalkKit
import Derived.LaidEql
import Derived.Stop.Asserts
import Derived.RowKitTokens
import Derived.Test.YtdcbkeihgbekdaaGreatDoorM2
import Derived.Stop.IfaceNil
import Derived.Deep.RegionWith
import Derived.Laws.EntriesVeiled
import Derived.Deep.RegionLawGrows
import Derived.Test.YtdcbkeihgbekdaaGreatDoorM1
import Derived.WalkMore
import Derived.WalkSmall
namespace Go.Proofs.YtdcbkeihgbekdaaGreatDoor.TErr
open Go.RowKit Go.Extern.Stop Go.Stop Go.Extern

/-! ### CLOSED FACTS ON THE MODEL's ENTRIES FOR internal/reflectlite, at this program's types: 25: *p.E · 27: **p.E · 23: error · 45: reflectlite's rtype · 1: how many package-level variables the dump has -/
theorem as_valueOf27 (t : Addr) (w : World) : (ReflectliteValue.unpack (.iface 92 (.pointer (some t)))).run Tryz.prog w
    = .ok (.agg #[.pointer (some ⟨8, 92, none⟩), .pointer (some ⟨w.heap.size, 0, none⟩), .int .u64 150]) (w.alloc (.cells #[.pointer (some t)] 92)) := by kernel_rfl
theorem as_type27 (a : Addr) (w : World) : (ReflectliteValue.methodAny (ReflectliteValue.valueError "reflectlite.Value.Type" 0) (fun t _ _ _ => ReflectliteType.toType t) #[.agg #[.pointer (some ⟨8, 92, none⟩), .pointer (some a), .int .u64 150]]).run Tryz.prog w
    = .ok (.iface 124 (.agg #[.pointer (some ⟨8, 92, none⟩)])) w := by kernel_rfl
theorem as_methodKind (h : Value) (w : World) : (Go.method 279 124 (.agg #[h]) "Kind").run Tryz.prog w = .ok (108, h) w := by kernel_rfl
theorem as_kind27 (w : World) : ((ReflectliteType.abiMethod fun t => (fun a : Nat => Value.int IntKind.u8 (a : Int)) <$> Rtype.kind t) #[.pointer (some ⟨8, 92, none⟩)]).run Tryz.prog w = .ok (.int .u8 22) w := by kernel_rfl
theorem as_kind25 (w : World) : ((ReflectliteType.abiMethod fun t => (fun a : Nat => Value.int IntKind.u8 (a : Int)) <$> Rtype.kind t) #[.pointer (some ⟨8, 60, none⟩)]).run Tryz.prog w = .ok (.int .u8 22) w := by kernel_rfl

/-! ### THE ENTRIES THAT READ OR WRITE MEMORY: laws with a premise on the cell (after Derived/Lib/ReflectliteSlice.lean's manner: each unfolding a lemma of its own, by rfl) -/
theorem rlm (z : Sem Value) (f : TypeId → Addr → Nat → Nat → Sem Value) (v : Value) :
    ReflectliteValue.method z f #[v] = (do match ← ReflectliteValue.parts v with | none => z | some (t, a, fl) => f t a fl (fl % 32)) := rfl
theorem as_parts27 (a : Addr) (w : World) : (ReflectliteValue.parts (.agg #[.pointer (some ⟨8, 92, none⟩), .pointer (some a), .int .u64 150])).run Tryz.prog w = .ok (some (92, a, 150)) w := by kernel_rfl
/-- (Value).IsNil at the Value of a **p.E that is not nil. -/
theorem as_isNil27 (a p : Addr) (W : World) (ha : W.cell? a = some (.pointer (some p))) :
    (ReflectliteValue.method (ReflectliteValue.valueError "reflectlite.Value.IsNil" 0) ReflectliteValue.isNil #[.agg #[.pointer (some ⟨8, 92, none⟩), .pointer (some a), .int .u64 150]]).run Tryz.prog W = .ok (.bool false) W := by
  rw [rlm]
  simp only [Sem.run_bind, as_parts27, Result.andThen]
  simp [ReflectliteValue.isNil, loadVar, isAgg, underlying, Tryz.underlying92, ha, Result.andThen]

theorem as_methodElem (h : Value) (w : World) : (Go.method 279 124 (.agg #[h]) "Elem").run Tryz.prog w = .ok (122, .agg #[h]) w := by kernel_rfl
theorem as_methodImplements (h : Value) (w : World) : (Go.method 279 124 (.agg #[h]) "Implements").run Tryz.prog w = .ok (123, .agg #[h]) w := by kernel_rfl
theorem as_methodAssignableTo (h : Value) (w : World) : (Go.method 279 124 (.agg #[h]) "AssignableTo").run Tryz.prog w = .ok (120, .agg #[h]) w := by kernel_rfl
theorem as_elem27 (w : World) : (ReflectliteType.method ReflectliteType.elem #[.agg #[.pointer (some ⟨8, 92, none⟩)]]).run Tryz.prog w = .ok (.iface 124 (.agg #[.pointer (some ⟨8, 60, none⟩)])) w := by kernel_rfl
theorem as_implements25 (w : World) : (ReflectliteType.relation "Implements" ReflectliteType.implements_ #[.agg #[.pointer (some ⟨8, 60, none⟩)], .iface 124 (.agg #[.pointer (some ⟨8, 43, none⟩)])]).run Tryz.prog w = .ok (.bool true) w := by kernel_rfl
theorem as_typeOf25 (v : Value) (w : World) : (ReflectliteType.typeOf #[.iface 60 v]).run Tryz.prog w = .ok (.iface 124 (.agg #[.pointer (some ⟨8, 60, none⟩)])) w := by kernel_rfl
theorem as_assignable25 (w : World) : (ReflectliteType.relation "AssignableTo" ReflectliteType.assignableTo #[.agg #[.pointer (some ⟨8, 60, none⟩)], .iface 124 (.agg #[.pointer (some ⟨8, 60, none⟩)])]).run Tryz.prog w = .ok (.bool true) w := by kernel_rfl
theorem as_valueOf25 (e : Addr) (w : World) : (ReflectliteValue.unpack (.iface 60 (.pointer (some e)))).run Tryz.prog w
    = .ok (.agg #[.pointer (some ⟨8, 60, none⟩), .pointer (some ⟨w.heap.size, 0, none⟩), .int .u64 150]) (w.alloc (.cells #[.pointer (some e)] 60)) := by kernel_rfl

theorem as_elemOf27 (w : World) : (Rtype.elem? 92).run Tryz.prog w = .ok (some 60) w := by kernel_rfl
theorem as_mk25 (p : Addr) (w : World) : (ReflectliteValue.mk 60 p ReflectliteValue.flagAddr).run Tryz.prog w = .ok (.agg #[.pointer (some ⟨8, 60, none⟩), .pointer (some p), .int .u64 406]) w := by kernel_rfl
/-- (Value).Elem at the Value of a **p.E that is not nil: the Value of the *p.E variable that it points to, addressable. -/
theorem as_elemV27 (a p : Addr) (W : World) (ha : W.cell? a = some (.pointer (some p))) :
    (ReflectliteValue.method (ReflectliteValue.valueError "reflectlite.Value.Elem" 0) ReflectliteValue.elem #[.agg #[.pointer (some ⟨8, 92, none⟩), .pointer (some a), .int .u64 150]]).run Tryz.prog W
      = .ok (.agg #[.pointer (some ⟨8, 60, none⟩), .pointer (some p), .int .u64 406]) W := by
  rw [rlm]
  simp only [Sem.run_bind, as_parts27, Result.andThen]
  simp [ReflectliteValue.elem, loadVar, isAgg, underlying, Tryz.underlying92, ha, Result.andThen, as_elemOf27, as_mk25]
theorem rls (v x : Value) : ReflectliteValue.set #[v, x] = (do
    let (some (dst, a, fl), some (src, b, _)) := (← ReflectliteValue.parts v, ← ReflectliteValue.parts x)
      | unsupported (.noEntry "extern/(internal/reflectlite.Value).Set.zeroValue")
    if fl / ReflectliteValue.flagAddr % 2 == 0 then unsupported (.noEntry "extern/(internal/reflectlite.Value).Set.unaddressable")
    let val ← loadVar src b
    if ← Rtype.directlyAssignable dst src then storeVar dst a val
    else if ← Rtype.implements dst src then
      if (← Rtype.kind src) == 20 then
        match val with
        | .nilIface => unsupported (.noEntry "extern/reflectlite: a nil value of one interface type handed on as a value of another")
        | _ => storeVar dst a val
      else storeVar dst a (.iface src val)
    else panicString ("reflectlite.Set: value of type " ++ (← Rtype.spelt src) ++ " is not assignable to type " ++ (← Rtype.spelt dst))
    pure (.tuple #[])) := rfl
theorem as_parts25a (a : Addr) (w : World) : (ReflectliteValue.parts (.agg #[.pointer (some ⟨8, 60, none⟩), .pointer (some a), .int .u64 406])).run Tryz.prog w = .ok (some (60, a, 406)) w := by kernel_rfl
theorem as_parts25 (a : Addr) (w : World) : (ReflectliteValue.parts (.agg #[.pointer (some ⟨8, 60, none⟩), .pointer (some a), .int .u64 150])).run Tryz.prog w = .ok (some (60, a, 150)) w := by kernel_rfl
theorem as_direct25 (w : World) : (Rtype.directlyAssignable 60 60).run Tryz.prog w = .ok true w := by kernel_rfl
/-- (Value).Set: the *p.E variable at 'ta' gets what the Value's own variable 'b' holds. -/
theorem as_set25 (ta b e : Addr) (old : Value) (W : World) (hb : W.cell? b = some (.pointer (some e))) (ht : W.cell? ta = some old) (hf : W.frozen? ta = false) :
    (ReflectliteValue.set #[.agg #[.pointer (some ⟨8, 60, none⟩), .pointer (some ta), .int .u64 406], .agg #[.pointer (some ⟨8, 60, none⟩), .pointer (some b), .int .u64 150]]).run Tryz.prog W
      = .ok (.tuple #[]) (W.setCell ta (.pointer (some e))) := by
  rw [rls]
  simp only [Sem.run_bind, as_parts25a, as_parts25, Result.andThen]
  simp [ReflectliteValue.flagAddr, loadVar, isAgg, underlying, Tryz.underlying60, hb, Result.andThen, as_direct25, storeVar, Value.cells, storeCells, Addr.add]
  rw [run_store Tryz.prog W ta _ _ (by rfl)]
  simp [ht, hf]

set_option maxHeartbeats 4000000 in
set_option maxRecDepth 100000 in
theorem as_hit (e t : Addr) (old : Value) (w : World) (hg : w.cell? ⟨4, 0, none⟩ = some (.iface 124 (.agg #[.pointer (some ⟨8, 43, none⟩)]))) (ht0 : w.cell? t = some old) (hf0 : w.frozen? t = false) :
    Calls Tryz.prog 59 #[.iface 60 (.pointer (some e)), .iface 92 (.pointer (some t))] w fun ev w' => ev = .returned (.bool true) ∧ w' = ((((w.alloc (.cells #[.pointer (some t)] 92)).alloc (.cells #[.pointer (some ⟨8, 92, none⟩), .pointer (some ⟨w.heap.size, 0, none⟩), .int .u64 150] 111)).alloc (.cells #[.pointer (some ⟨8, 92, none⟩), .pointer (some ⟨w.heap.size, 0, none⟩), .int .u64 150] 111)).alloc (.cells #[.pointer (some e)] 60)).setCell t (.pointer (some e)) := by
  have h6 := @run_callFunc_extern Tryz.prog 72 _ (fun args => ReflectliteValue.unpack (args.getD 0 (.tuple #[]))) Tryz.func72 (by kernel_rfl) (by kernel_rfl) (by kernel_rfl) (by kernel_rfl)
  have h7 := @run_callFunc_extern Tryz.prog 73 _ (ReflectliteValue.methodAny (ReflectliteValue.valueError "reflectlite.Value.Type" 0) (fun t _ _ _ => ReflectliteType.toType t)) Tryz.func73 (by kernel_rfl) (by kernel_rfl) (by kernel_rfl) (by kernel_rfl)
  have h8 := @run_callFunc_extern Tryz.prog 74 _ (ReflectliteValue.method (ReflectliteValue.valueError "reflectlite.Value.IsNil" 0) ReflectliteValue.isNil) Tryz.func74 (by kernel_rfl) (by kernel_rfl) (by kernel_rfl) (by kernel_rfl)
  have h27 := @run_callFunc_extern Tryz.prog 108 _ (ReflectliteType.abiMethod fun t => do pure (.int .u8 (← Rtype.kind t))) Tryz.func108 (by kernel_rfl) (by kernel_rfl) (by kernel_rfl) (by kernel_rfl)
  have h37 := @run_callFunc_extern Tryz.prog 122 _ (ReflectliteType.method ReflectliteType.elem) Tryz.func122 (by kernel_rfl) (by kernel_rfl) (by kernel_rfl) (by kernel_rfl)
  have h38 := @run_callFunc_extern Tryz.prog 123 _ (ReflectliteType.relation "Implements" ReflectliteType.implements_) Tryz.func123 (by kernel_rfl) (by kernel_rfl) (by kernel_rfl) (by kernel_rfl)
  have h10 := @run_callFunc_extern Tryz.prog 70 _ ReflectliteType.typeOf Tryz.func70 (by kernel_rfl) (by kernel_rfl) (by kernel_rfl) (by kernel_rfl)
  have h35 := @run_callFunc_extern Tryz.prog 120 _ (ReflectliteType.relation "AssignableTo" ReflectliteType.assignableTo) Tryz.func120 (by kernel_rfl) (by kernel_rfl) (by kernel_rfl) (by kernel_rfl)
  have h11 := @run_callFunc_extern Tryz.prog 85 _ (ReflectliteValue.method (ReflectliteValue.valueError "reflectlite.Value.Elem" 0) ReflectliteValue.elem) Tryz.func85 (by kernel_rfl) (by kernel_rfl) (by kernel_rfl) (by kernel_rfl)
  have h12 := @run_callFunc_extern Tryz.prog 86 _ ReflectliteValue.set Tryz.func86 (by kernel_rfl) (by kernel_rfl) (by kernel_rfl) (by kernel_rfl)
  have tO := as_typeOf25
  have mA := as_methodAssignableTo
  have a25 := as_assignable25
  have v25 := as_valueOf25
  have f6 := as_valueOf27
  have f7 := as_type27
  have mK := as_methodKind
  have mE := as_methodElem
  have mI := as_methodImplements
  have k27 := as_kind27
  have k25 := as_kind25
  have e27 := as_elem27
  have i25 := as_implements25
  have n8 := as_isNil27 ⟨w.heap.size, 0, none⟩ t ((w.alloc (.cells #[.pointer (some t)] 92)).alloc (.cells #[.pointer (some ⟨8, 92, none⟩), .pointer (some ⟨w.heap.size, 0, none⟩), .int .u64 150] 111)) (by simp)
  have hlt : 4 < w.heap.size := by
    rcases Nat.lt_or_ge 4 w.heap.size with h | h
    · exact h
    · simp [World.cell?, Array.getElem?_eq_none h] at hg
  have hg2 : ((w.alloc (.cells #[.pointer (some t)] 92)).alloc (.cells #[.pointer (some ⟨8, 92, none⟩), .pointer (some ⟨w.heap.size, 0, none⟩), .int .u64 150] 111)).cell? ⟨4, 0, none⟩ = some (.iface 124 (.agg #[.pointer (some ⟨8, 43, none⟩)])) := by
    rw [World.cell?_alloc_lt _ _ ⟨4, 0, none⟩ (by simp; omega), World.cell?_alloc_lt _ _ ⟨4, 0, none⟩ hlt]; exact hg
  have htl : t.block < w.heap.size := by
    rcases Nat.lt_or_ge t.block w.heap.size with h | h
    · exact h
    · simp [World.cell?, Array.getElem?_eq_none h] at ht0
  have el := as_elemV27 ⟨w.heap.size, 0, none⟩ t (((w.alloc (.cells #[.pointer (some t)] 92)).alloc (.cells #[.pointer (some ⟨8, 92, none⟩), .pointer (some ⟨w.heap.size, 0, none⟩), .int .u64 150] 111)).alloc (.cells #[.pointer (some ⟨8, 92, none⟩), .pointer (some ⟨w.heap.size, 0, none⟩), .int .u64 150] 111)) (by rw [World.cell?_alloc_lt _ _ ⟨w.heap.size, 0, none⟩ (by simp; omega)]; simp)
  have st := as_set25 t ⟨w.heap.size + 1 + 1 + 1, 0, none⟩ e old ((((w.alloc (.cells #[.pointer (some t)] 92)).alloc (.cells #[.pointer (some ⟨8, 92, none⟩), .pointer (some ⟨w.heap.size, 0, none⟩), .int .u64 150] 111)).alloc (.cells #[.pointer (some ⟨8, 92, none⟩), .pointer (some ⟨w.heap.size, 0, none⟩), .int .u64 150] 111)).alloc (.cells #[.pointer (some e)] 60))
    (by rw [World.cell?_alloc_at _ _ _ _ (by simp)]; rfl)
    (by rw [World.cell?_alloc_lt _ _ t (by simp; omega), World.cell?_alloc_lt _ _ t (by simp; omega), World.cell?_alloc_lt _ _ t (by simp; omega), World.cell?_alloc_lt _ _ t htl]; exact ht0)
    (by rw [World.frozen?_alloc_old _ _ t (by simp; omega), World.frozen?_alloc_old _ _ t (by simp; omega), World.frozen?_alloc_old _ _ t (by simp; omega), World.frozen?_alloc_old _ _ t (Nat.ne_of_lt htl)]; exact hf0)
  go_enter Tryz.func59, Tryz.ntmps59
  go_wp2
  refine wp_loop_rounds 1 ?_
  rw [rounds_succ]
  go_wp2
  go_ret
  exact ⟨rfl, rfl⟩
end Go.Proofs.YtdcbkeihgbekdaaGreatDoor.TErr

namespace Go.Proofs.YtdcbkeihgbekdaaGreatDoor.TErr
open Go.RowKit Go.Extern.Stop Go.Stop Go.Extern

/-! ### CLOSED FACTS: what 'reflectlite.TypeOf(target).Comparable()' gives at such a target -/
theorem is_fTypeOf (v : Value) (w : World) : (Extern.ReflectliteType.typeOf #[.iface 148 v]).run Tryz.prog w = .ok (.iface 124 (.agg #[.pointer (some ⟨8, 148, none⟩)])) w := by kernel_rfl
theorem is_fComparable (w : World) : ((Extern.ReflectliteType.method fun t => do Extern.Rtype.noPackHeld "Comparable" t; (fun a => Value.bool a.comparable) <$> typeInfo t) #[.agg #[.pointer (some ⟨8, 148, none⟩)]]).run Tryz.prog w = .ok (.bool true) w := by kernel_rfl
theorem is_fMethodComparable (v : Value) (w : World) : (Go.method 279 124 v "Comparable").run Tryz.prog w = .ok (121, v) w := by kernel_rfl
theorem is_fComp : (Tryz.prog.info? 148).map (·.comparable) = some true := by kernel_rfl
theorem is_fSize : (Tryz.prog.info? 167).map (·.size) = some 1 := by kernel_rfl

/-! ### CLOSED FACTS ON THE METHOD SETS: what errors.is's assertions find -/
theorem is_noIsE (v : Value) (xT : TypeId) (w : World) : (Instr.typeAssert (.iface 148 v) xT 126 true).run Tryz.prog w = .ok (.tuple #[.nilIface, .bool false]) w := run_typeAssert_lacksB Tryz.underlying126 (by kernel_rfl) (by kernel_rfl) v xT w
theorem is_noUnwrapE (v : Value) (xT : TypeId) (w : World) : (Instr.typeAssert (.iface 148 v) xT 129 true).run Tryz.prog w = .ok (.tuple #[.nilIface, .bool false]) w := run_typeAssert_lacksB Tryz.underlying129 (by kernel_rfl) (by kernel_rfl) v xT w
theorem is_noUnwrapsE (v : Value) (xT : TypeId) (w : World) : (Instr.typeAssert (.iface 148 v) xT 130 true).run Tryz.prog w = .ok (.tuple #[.nilIface, .bool false]) w := run_typeAssert_lacksB Tryz.underlying130 (by kernel_rfl) (by kernel_rfl) v xT w
theorem is_noIsW (v : Value) (xT : TypeId) (w : World) : (Instr.typeAssert (.iface 60 v) xT 126 true).run Tryz.prog w = .ok (.tuple #[.nilIface, .bool false]) w := run_typeAssert_lacksB Tryz.underlying126 (by kernel_rfl) (by kernel_rfl) v xT w
theorem is_hasUnwrapW (v : Value) (xT : TypeId) (w : World) : (Instr.typeAssert (.iface 60 v) xT 129 true).run Tryz.prog w = .ok (.tuple #[.iface 60 v, .bool true]) w := run_typeAssert_hasB Tryz.underlying129 (by kernel_rfl) v xT w
theorem is_methodUnwrap (v : Value) (w : World) : (Go.method 279 60 v "Unwrap").run Tryz.prog w = .ok (112, v) w := by kernel_rfl

set_option maxRecDepth 100000 in
/-- errors.Is(e, x), e a *fault that wraps x itself: one Unwrap, then equal. -/
theorem is_wrap_same (pb po : Nat) (b : Addr) (w : World) (h1 : w.cell? ⟨pb, po + 1, none⟩ = some (.iface 148 (.pointer (some b)))) :
    Calls Tryz.prog 58 #[.iface 60 (.pointer (some ⟨pb, po, none⟩)), .iface 148 (.pointer (some b))] w fun e w' => e = .returned (.bool true) ∧ w' = w := by
  obtain ⟨i, hi, hcmp⟩ := Option.map_eq_some_iff.1 is_fComp
  obtain ⟨j, hj, hjs⟩ := Option.map_eq_some_iff.1 is_fSize
  have h8 := @run_callFunc_extern Tryz.prog 70 _ Extern.ReflectliteType.typeOf Tryz.func70 (by kernel_rfl) (by kernel_rfl) (by kernel_rfl) (by kernel_rfl)
  have h32 := @run_callFunc_extern Tryz.prog 121 _ (Extern.ReflectliteType.method fun t => do Extern.Rtype.noPackHeld "Comparable" t; pure (.bool (← typeInfo t).comparable)) Tryz.func121 (by kernel_rfl) (by kernel_rfl) (by kernel_rfl) (by kernel_rfl)
  have tT := is_fTypeOf
  have cT := is_fComparable
  have mR := is_fMethodComparable
  have nE := is_noIsE
  have uE := is_noUnwrapE
  have vE := is_noUnwrapsE
  have nW := is_noIsW
  have uW := is_hasUnwrapW
  have mU := is_methodUnwrap
  have heq := run_eql_iface_ptr_same (P := Tryz.prog) w b Tryz.underlying43 Tryz.underlying148 hi hcmp hj
  have hty := run_eql_iface_types (P := Tryz.prog) 60 148 (.pointer (some ⟨pb, po, none⟩)) (.pointer (some b)) Tryz.underlying43 (by decide) w
  go_enter Tryz.func58, Tryz.ntmps58
  go_wp2
  refine wp_loop_rounds 2 ?_
  rw [rounds_succ]
  go_wp2
  rw [rounds_succ]
  go_wp2
  go_ret
  exact ⟨rfl, rfl⟩

set_option maxRecDepth 100000 in
/-- errors.Is(e, x), e a *fault that wraps another error of errors.New's make. -/
theorem is_wrap_other (pb po : Nat) (b a : Addr) (ca cb : Array Value) (ta tb : TypeId) (w : World) (h1 : w.cell? ⟨pb, po + 1, none⟩ = some (.iface 148 (.pointer (some a)))) (hne : a ≠ b) (ha : w.heap[a.block]? = some (.cells ca ta (0, 0))) (hb : w.heap[b.block]? = some (.cells cb tb (0, 0))) :
    Calls Tryz.prog 58 #[.iface 60 (.pointer (some ⟨pb, po, none⟩)), .iface 148 (.pointer (some b))] w fun e w' => e = .returned (.bool false) ∧ w' = w := by
  obtain ⟨i, hi, hcmp⟩ := Option.map_eq_some_iff.1 is_fComp
  obtain ⟨j, hj, hjs⟩ := Option.map_eq_some_iff.1 is_fSize
  have h8 := @run_callFunc_extern Tryz.prog 70 _ Extern.ReflectliteType.typeOf Tryz.func70 (by kernel_rfl) (by kernel_rfl) (by kernel_rfl) (by kernel_rfl)
  have h32 := @run_callFunc_extern Tryz.prog 121 _ (Extern.ReflectliteType.method fun t => do Extern.Rtype.noPackHeld "Comparable" t; pure (.bool (← typeInfo t).comparable)) Tryz.func121 (by kernel_rfl) (by kernel_rfl) (by kernel_rfl) (by kernel_rfl)
  have tT := is_fTypeOf
  have cT := is_fComparable
  have mR := is_fMethodComparable
  have nE := is_noIsE
  have uE := is_noUnwrapE
  have vE := is_noUnwrapsE
  have nW := is_noIsW
  have uW := is_hasUnwrapW
  have mU := is_methodUnwrap
  have heq := run_eql_iface_ptr_other (P := Tryz.prog) w Tryz.underlying43 Tryz.underlying148 hi hcmp hj (by rw [hjs]; decide) hne ha hb
  have hty := run_eql_iface_types (P := Tryz.prog) 60 148 (.pointer (some ⟨pb, po, none⟩)) (.pointer (some b)) Tryz.underlying43 (by decide) w
  go_enter Tryz.func58, Tryz.ntmps58
  go_wp2
  refine wp_loop_rounds 2 ?_
  rw [rounds_succ]
  go_wp2
  rw [rounds_succ]
  go_wp2
  go_ret
  exact ⟨rfl, rfl⟩

end Go.Proofs.YtdcbkeihgbekdaaGreatDoor.TErr

namespace Go.Proofs.YtdcbkeihgbekdaaGreatDoor.Turn
open Go Go.RowKit Go.Proofs.YtdcbkeihgbekdaaGreatDoorW.PrintWords Go.Proofs.YtdcbkeihgbekdaaGreatDoorW.PrintLast Go.Proofs.YtdcbkeihgbekdaaGreatDoorW.PrintMore Go.Proofs.YtdcbkeihgbekdaaGreatDoor.Quad
set_option linter.unusedVariables false
set_option linter.unusedSimpArgs false

/-- How an error comes back: nil (0), the denial (6), or the form's, with its number. -/
inductive ErrT (w : World) (ad af : Addr) : Int → Value → Prop
  | nil : ErrT w ad af 0 .nilIface
  | deny {e : Value} (pb : Nat) (no : Int) : e = .iface 60 (.pointer (some ⟨pb, 0, none⟩)) → w.heap[pb]? = some (.cells #[.int .i64 no, .iface 148 (.pointer (some ad))] 62 (0, 0)) → ErrT w ad af 6 e
  | form {e : Value} (pb : Nat) (no : Int) : no ≠ 0 → e = .iface 60 (.pointer (some ⟨pb, 0, none⟩)) → w.heap[pb]? = some (.cells #[.int .i64 no, .iface 148 (.pointer (some af))] 62 (0, 0)) → ErrT w ad af no e
theorem ErrT.below {w w' : World} {ad af : Addr} {n : Int} {e : Value} (h : ErrT w ad af n e) (hb : Below w.heap.size w w') : ErrT w' ad af n e := by
  cases h with
  | nil => exact .nil
  | deny pb no he hk => exact .deny pb no he (blk_below hk hb)
  | form pb no h0 he hk => exact .form pb _ h0 he (blk_below hk hb)
theorem ErrT.put {w : World} {ad af : Addr} {n : Int} {e : Value} (h : ErrT w ad af n e) {H : Nat} {cs : Array Value} (hz : w.heap[H]? = some (.cells cs 30 (0, 0))) (j : Nat) (v : Value) : ErrT (w.setCell ⟨H, j, none⟩ v) ad af n e := by
  have hne : ∀ pb c, w.heap[pb]? = some (.cells c 62 (0, 0)) → pb ≠ H := by
    rintro pb c hp rfl
    rw [hz] at hp
    cases hp
  cases h with
  | nil => exact .nil
  | deny pb no he hk => exact .deny pb no he (blk_far hk (hne _ _ hk) v)
  | form pb no h0 he hk => exact .form pb _ h0 he (blk_far hk (hne _ _ hk) v)
theorem gsize : Tryz.prog.globals.size = 8 := by kernel_rfl

set_option maxHeartbeats 1000000 in
set_option maxRecDepth 100000 in
theorem fail_calls (no : Int) (h0 : no ≠ 0) (ad af : Addr) (w : World) (hx : TEx w ad af) :
    Calls Tryz.prog 14 #[.int .i64 no] w fun e w' => ∃ x, e = .returned x ∧ ErrT w' ad af no x ∧ Below w.heap.size w w' := by
  have hg := hx.form
  have H0 := Aside0.mk h0
  clear hx h0
  go_enter Tryz.func14, Tryz.ntmps14
  go_wp2
  go_ret
  exact ⟨_, rfl, .form _ no H0.out rfl (blk_new _ _), (Below.refl _ _).alloc (Nat.le_refl _) _⟩
set_option maxHeartbeats 1000000 in
set_option maxRecDepth 100000 in
theorem unless_calls (is : Bool) (no : Int) (h0 : is = false → no ≠ 0) (ad af : Addr) (w : World) (hx : TEx w ad af) :
    Calls Tryz.prog 16 #[.bool is, .int .i64 no] w fun e w' => ∃ x, e = .returned x ∧ ErrT w' ad af (if is then 0 else no) x ∧ Below w.heap.size w w' := by
  have HX := Aside0.mk hx
  have H0 := Aside0.mk h0
  clear hx h0
  cases is
  · go_enter Tryz.func16, Tryz.ntmps16
    go_wp2_with (go_at_call 14; refine (fail_calls no (H0.out rfl) ad af _ HX.out).mono ?_; rintro e w1 ⟨x, rfl, hx1, hb1⟩; have HX1 := Aside0.mk hx1; have HB1 := Aside0.mk hb1; clear hx1 hb1)
    go_ret
    exact ⟨_, rfl, HX1.out, HB1.out⟩
  · go_enter Tryz.func16, Tryz.ntmps16
    go_wp2
    go_ret
    exact ⟨_, rfl, .nil, Below.refl _ _⟩

/-- errors.As at a *fault, by what it leaves. -/
theorem as_calls (e t : Addr) (w : World) (hg : w.cell? ⟨4, 0, none⟩ = some (.iface 124 (.agg #[.pointer (some ⟨Tryz.prog.globals.size, 43, none⟩)]))) (ht : w.heap[t.block]? = some (.cells #[.pointer none] 60 (0, 0))) (ht0 : t.off = 0) (htp : t.spot = none) :
    Calls Tryz.prog 59 #[.iface 60 (.pointer (some e)), .iface 92 (.pointer (some t))] w fun ev w' => ev = .returned (.bool true) ∧ w'.heap[t.block]? = some (.cells #[.pointer (some e)] 60 (0, 0)) ∧ ∀ B, B ≤ t.block → Below B w w' := by
  obtain ⟨b, o, pt⟩ := t
  simp only at ht0 htp ht
  subst ht0 htp
  rw [gsize] at hg
  refine (TErr.as_hit e ⟨b, 0, none⟩ (.pointer none) w hg ((blk_cell ht 0).trans rfl) (blk_frozen ht 0)).mono ?_
  rintro ev w' ⟨hev, rfl⟩
  refine ⟨hev, ?_, fun B hB => ?_⟩
  · exact blk_put (blk_alloc (blk_alloc (blk_alloc (blk_alloc ht _) _) _) _) 0 _ rfl
  · have hs := blk_lt ht
    replace hB : B ≤ b := hB
    replace hs : b < w.heap.size := hs
    exact ((((((Below.refl B w).alloc (by omega) _).alloc (by simp; omega) _).alloc (by simp; omega) _).alloc (by simp; omega) _)).setCell hB _
set_option maxHeartbeats 1000000 in
set_option maxRecDepth 100000 in
theorem number_calls (w : World) (ad af : Addr) (hx : TEx w ad af) (n : Int) (e : Value) (he : ErrT w ad af n e) (hn : n ≠ 0) :
    Calls Tryz.prog 38 #[e] w fun ev w' => ev = .returned (.int .i64 n) ∧ Below w.heap.size w w' := by
  cases he with
  | nil => exact absurd rfl hn
  | deny pb no he hk =>
    clear hn
    subst he
    have hif := Ext.isIfaceE
    have hX := Aside0.mk hx
    have hK := Aside0.mk hk
    have hc1 := (((Below.refl w.heap.size w).alloc (Nat.le_refl _) (.cells #[.pointer none] 60)).cell (World.block_lt_of_cell? w _ hx.deny)).trans hx.deny
    clear hx hk
    go_enter Tryz.func38, Tryz.ntmps38
    go_wp2_with (go_at_call 58; refine (TErr.is_wrap_same pb 0 ad _ ((blk_cell (blk_alloc hK.out _) 1).trans rfl)).mono ?_; rintro e w2 ⟨rfl, hw⟩; obtain rfl := hw.symm)
    go_ret
    exact ⟨rfl, (Below.refl _ _).alloc (Nat.le_refl _) _⟩
  | form pb no h0 he hk =>
    clear h0 hn
    subst he
    have hif := Ext.isIfaceE
    have hX := Aside0.mk hx
    have hK := Aside0.mk hk
    have hc1 := (((Below.refl w.heap.size w).alloc (Nat.le_refl _) (.cells #[.pointer none] 60)).cell (World.block_lt_of_cell? w _ hx.deny)).trans hx.deny
    clear hx hk
    go_enter Tryz.func38, Tryz.ntmps38
    go_wp2_with (first
      | (go_at_call 58; obtain ⟨ck, tk, hbk⟩ := hX.out.bd; obtain ⟨cf, tf, hbf⟩ := hX.out.bf; refine (TErr.is_wrap_other pb 0 ad af _ _ _ _ _ ((blk_cell (blk_alloc hK.out _) 1).trans rfl) hX.out.ne (blk_alloc hbf _) (blk_alloc hbk _)).mono ?_; rintro e w2 ⟨rfl, hw⟩; obtain rfl := hw.symm)
      | (go_at_call 59
         refine (as_calls ⟨pb, 0, none⟩ ⟨w.heap.size, 0, none⟩ _ ((((Below.refl w.heap.size w).alloc (Nat.le_refl _) _).cell (World.block_lt_of_cell? w _ hX.out.type)).trans hX.out.type) (blk_new w _) rfl rfl).mono ?_
         rintro e w3 ⟨rfl, ht, hb⟩
         have HB := Aside0.mk (((Below.refl w.heap.size w).alloc (Nat.le_refl _) _).trans (hb _ (Nat.le_refl _)))
         clear hb
         have hl1 := (blk_cell ht 0).trans rfl
         have hl2 := (blk_cell (blk_below hK.out HB.out) 0).trans rfl))
    go_ret
    exact ⟨rfl, HB.out⟩

/-- An end of who tells, of a port from 1024 on; else none, and why. -/
def toldE (n a b c d p h0 h1 h2 h3 : Int) : Int × Int × Int × Int × Int × Int :=
  if n = 0 then (if (a == h0 && (b == h1 && (c == h2 && d == h3))) = true ∧ 1024 ≤ p then (a, b, c, d, p, 0) else (0, 0, 0, 0, 0, 6)) else (0, 0, 0, 0, 0, n)
def endR (t : Int × Int × Int × Int × Int × Int) : Value := .tuple #[.agg #[.int .u8 t.1, .int .u8 t.2.1, .int .u8 t.2.2.1, .int .u8 t.2.2.2.1, .int .i64 t.2.2.2.2.1], .int .i64 t.2.2.2.2.2]
theorem res_end (f : Func) (i j : Tmp) (hf : f.results = #[.cell i 30, .tmp j]) (tmps : Array Value) (W : World) (H : Nat) (a b c d p : Int) (e : Value) (h2 : tmps.getD i undef = .pointer (some ⟨H, 0, none⟩)) (h3 : tmps.getD j undef = e) (hh : W.heap[H]? = some (.cells #[.int .u8 a, .int .u8 b, .int .u8 c, .int .u8 d, .int .i64 p] 30 (0, 0))) :
   (results f tmps).run Tryz.prog W = .ok (.tuple #[.agg #[.int .u8 a, .int .u8 b, .int .u8 c, .int .u8 d, .int .i64 p], e]) W := by
  have c0 : W.cell? ⟨H, 0, none⟩ = some (.int .u8 a) := (blk_cell hh 0).trans rfl
  have c1 : W.cell? ⟨H, 1, none⟩ = some (.int .u8 b) := (blk_cell hh 1).trans rfl
  have c2 : W.cell? ⟨H, 2, none⟩ = some (.int .u8 c) := (blk_cell hh 2).trans rfl
  have c3 : W.cell? ⟨H, 3, none⟩ = some (.int .u8 d) := (blk_cell hh 3).trans rfl
  have c4 : W.cell? ⟨H, 4, none⟩ = some (.int .i64 p) := (blk_cell hh 4).trans rfl
  rw [Array.getD_eq_getD_getElem?] at h2 h3
  simp [results, hf, h2, h3, go_sem, c0, c1, c2, c3, c4]
theorem put5 {W : World} {H : Nat} {x0 x1 x2 x3 x4 : Value} (h : W.heap[H]? = some (.cells #[x0, x1, x2, x3, x4] 30 (0, 0))) (a b c d p : Int) : ((((((W.setCell ⟨H, 0, none⟩ (.int .u8 a)).setCell ⟨H, 1, none⟩ (.int .u8 b)).setCell ⟨H, 2, none⟩ (.int .u8 c)).setCell ⟨H, 3, none⟩ (.int .u8 d)).setCell ⟨H, 4, none⟩ (.int .i64 p))).heap[H]? = some (.cells #[.int .u8 a, .int .u8 b, .int .u8 c, .int .u8 d, .int .i64 p] 30 (0, 0)) := blk_put (blk_put (blk_put (blk_put (blk_put h 0 _ rfl) 1 _ rfl) 2 _ rfl) 3 _ rfl) 4 _ rfl
theorem put5B {B : Nat} {w W : World} {H : Nat} (h : Below B w W) (hB : B ≤ H) (a b c d p : Int) : Below B w ((((((W.setCell ⟨H, 0, none⟩ (.int .u8 a)).setCell ⟨H, 1, none⟩ (.int .u8 b)).setCell ⟨H, 2, none⟩ (.int .u8 c)).setCell ⟨H, 3, none⟩ (.int .u8 d)).setCell ⟨H, 4, none⟩ (.int .i64 p))) := ((((h.setCell hB _).setCell hB _).setCell hB _).setCell hB _).setCell hB _
theorem endCells_facts {W : World} {H : Nat} {x0 x1 x2 x3 x4 : Value} (h : W.heap[H]? = some (.cells #[x0, x1, x2, x3, x4] 30 (0, 0))) : W.cell? ⟨H, 0, none⟩ = some x0 ∧ W.cell? ⟨H, 1, none⟩ = some x1 ∧ W.cell? ⟨H, 2, none⟩ = some x2 ∧ W.cell? ⟨H, 3, none⟩ = some x3 ∧ W.cell? ⟨H, 4, none⟩ = some x4 ∧ W.frozen? ⟨H, 0, none⟩ = false ∧ W.frozen? ⟨H, 1, none⟩ = false ∧ W.frozen? ⟨H, 2, none⟩ = false ∧ W.frozen? ⟨H, 3, none⟩ = false ∧ W.frozen? ⟨H, 4, none⟩ = false := ⟨(blk_cell h 0).trans rfl, (blk_cell h 1).trans rfl, (blk_cell h 2).trans rfl, (blk_cell h 3).trans rfl, (blk_cell h 4).trans rfl, blk_frozen h 0, blk_frozen h 1, blk_frozen h 2, blk_frozen h 3, blk_frozen h 4⟩

theorem new3 (w : World) (o1 o2 o3 : Obj) : (((w.alloc o1).alloc o2).alloc o3).heap[w.heap.size + 1 + 1]? = some o3 := by
  have := blk_new ((w.alloc o1).alloc o2) o3
  simpa using this
theorem new4 (w : World) (o1 o2 o3 o4 : Obj) : ((((w.alloc o1).alloc o2).alloc o3).alloc o4).heap[w.heap.size + 1 + 1 + 1]? = some o4 := by
  have := blk_new (((w.alloc o1).alloc o2).alloc o3) o4
  simpa using this
theorem below3 (w : World) (o1 o2 o3 : Obj) : Below w.heap.size w (((w.alloc o1).alloc o2).alloc o3) := (((Below.refl w.heap.size w).alloc (Nat.le_refl _) o1).alloc (by simp) o2).alloc (by simp; omega) o3
theorem below4 (w : World) (o1 o2 o3 o4 : Obj) : Below w.heap.size w ((((w.alloc o1).alloc o2).alloc o3).alloc o4) := (below3 w o1 o2 o3).alloc (by simp; omega) o4
def zeroE : Obj := .cells #[.int .u8 0, .int .u8 0, .int .u8 0, .int .u8 0, .int .i64 0] 30
/-- What a call leaves behind three blocks and one: the third is still zero. -/
theorem after4 {w W : World} (o1 o2 o4 : Obj) (hb : Below ((((w.alloc o1).alloc o2).alloc zeroE).alloc o4).heap.size ((((w.alloc o1).alloc o2).alloc zeroE).alloc o4) W) : Below w.heap.size w W ∧ W.heap[w.heap.size + 1 + 1]? = some zeroE :=
  ⟨(below4 w o1 o2 zeroE o4).trans (hb.mono (below4 w o1 o2 zeroE o4).size), blk_below (blk_alloc (new3 w o1 o2 zeroE) o4) hb⟩
theorem after3 {w W : World} (o1 o2 : Obj) (hb : Below (((w.alloc o1).alloc o2).alloc zeroE).heap.size (((w.alloc o1).alloc o2).alloc zeroE) W) : Below w.heap.size w W ∧ W.heap[w.heap.size + 1 + 1]? = some zeroE :=
  ⟨(below3 w o1 o2 zeroE).trans (hb.mono (below3 w o1 o2 zeroE).size), blk_below (new3 w o1 o2 zeroE) hb⟩

set_option maxHeartbeats 1000000 in
set_option maxRecDepth 100000 in
theorem told_ok (a b c d p h0 h1 h2 h3 : Int) (w : World) (hq : ∀ W, (Op.equalIn 10000 28 (.agg #[.int .u8 a, .int .u8 b, .int .u8 c, .int .u8 d]) (.agg #[.int .u8 h0, .int .u8 h1, .int .u8 h2, .int .u8 h3])).run Tryz.prog W = .ok true W) (hp : decide (p < 1024) = false) :
    Calls Tryz.prog 18 #[.agg #[.int .u8 a, .int .u8 b, .int .u8 c, .int .u8 d, .int .i64 p], .nilIface, .agg #[.int .u8 h0, .int .u8 h1, .int .u8 h2, .int .u8 h3]] w fun e w' => e = .returned (endR (a, b, c, d, p, 0)) ∧ Below w.heap.size w w' := by
  have hif := Ext.isIfaceE
  go_enter Tryz.func18, Tryz.ntmps18
  go_wp2
  try simp only [Exit.inBlock, Exit.then]
  exact bodyPost_ret (res_end _ 6 7 rfl _ _ (w.heap.size + 1 + 1) a b c d p (.int .i64 0) rfl rfl (new3 w _ _ _)) rfl ⟨rfl, below3 w _ _ _⟩
set_option maxHeartbeats 1000000 in
set_option maxRecDepth 100000 in
theorem told_deny (a b c d p h0 h1 h2 h3 : Int) (w : World) (ad af : Addr) (hx : TEx w ad af) (q : Bool) (hq : ∀ W, (Op.equalIn 10000 28 (.agg #[.int .u8 a, .int .u8 b, .int .u8 c, .int .u8 d]) (.agg #[.int .u8 h0, .int .u8 h1, .int .u8 h2, .int .u8 h3])).run Tryz.prog W = .ok q W) (hp : q = false ∨ (q = true ∧ decide (p < 1024) = true)) :
    Calls Tryz.prog 18 #[.agg #[.int .u8 a, .int .u8 b, .int .u8 c, .int .u8 d, .int .i64 p], .nilIface, .agg #[.int .u8 h0, .int .u8 h1, .int .u8 h2, .int .u8 h3]] w fun e w' => e = .returned (endR (0, 0, 0, 0, 0, 6)) ∧ Below w.heap.size w w' := by
  have hif := Ext.isIfaceE
  have HX := Aside0.mk hx
  have HG := Aside0.mk (fun o1 o2 o3 => (hx.below (below3 w o1 o2 o3)).deny)
  clear hx
  have hg := HG.out (.cells #[.int .u8 a, .int .u8 b, .int .u8 c, .int .u8 d, .int .i64 p] 30) (.cells #[.int .u8 h0, .int .u8 h1, .int .u8 h2, .int .u8 h3] 28) (.cells #[.int .u8 0, .int .u8 0, .int .u8 0, .int .u8 0, .int .i64 0] 30)
  clear HG
  rcases hp with rfl | ⟨rfl, hp2⟩
  all_goals
    go_enter Tryz.func18, Tryz.ntmps18
    go_wp2_with (go_at_call 38; with_reducible refine (number_calls _ ad af (HX.out.below (below4 w _ _ _ _)) 6 _ (.deny (w.heap.size + 1 + 1 + 1) 6 rfl (new4 w _ _ _ _)) (by decide)).mono ?_; rintro e w1 ⟨rfl, hb1⟩; have HB1 := Aside0.mk (after4 _ _ _ hb1); clear hb1; obtain ⟨z0, z1, z2, z3, z4, y0, y1, y2, y3, y4⟩ := endCells_facts HB1.out.2)
    try simp only [Exit.inBlock, Exit.then]
    exact bodyPost_ret (res_end _ 6 7 rfl _ _ (w.heap.size + 1 + 1) 0 0 0 0 0 (.int .i64 6) rfl rfl (put5 HB1.out.2 0 0 0 0 0)) rfl ⟨rfl, put5B HB1.out.1 (by omega) 0 0 0 0 0⟩
set_option maxHeartbeats 1000000 in
set_option maxRecDepth 100000 in
theorem told_err (n a b c d p h0 h1 h2 h3 : Int) (p1 : Addr) (w : World) (ad af : Addr) (hx : TEx w ad af) (hn : n ≠ 0) (he : ErrT w ad af n (.iface 60 (.pointer (some p1)))) :
    Calls Tryz.prog 18 #[.agg #[.int .u8 a, .int .u8 b, .int .u8 c, .int .u8 d, .int .i64 p], .iface 60 (.pointer (some p1)), .agg #[.int .u8 h0, .int .u8 h1, .int .u8 h2, .int .u8 h3]] w fun e w' => e = .returned (endR (0, 0, 0, 0, 0, n)) ∧ Below w.heap.size w w' := by
  have hif := Ext.isIfaceE
  have HX := Aside0.mk hx
  have HN := Aside0.mk hn
  have HE := Aside0.mk he
  clear hx hn he
  go_enter Tryz.func18, Tryz.ntmps18
  go_wp2_with (go_at_call 38; with_reducible refine (number_calls _ ad af (HX.out.below (below3 w _ _ _)) n _ (HE.out.below (below3 w _ _ _)) HN.out).mono ?_; rintro e w1 ⟨rfl, hb1⟩; have HB1 := Aside0.mk (after3 _ _ hb1); clear hb1; obtain ⟨z0, z1, z2, z3, z4, y0, y1, y2, y3, y4⟩ := endCells_facts HB1.out.2)
  try simp only [Exit.inBlock, Exit.then]
  exact bodyPost_ret (res_end _ 6 7 rfl _ _ (w.heap.size + 1 + 1) 0 0 0 0 0 (.int .i64 n) rfl rfl (put5 HB1.out.2 0 0 0 0 0)) rfl ⟨rfl, put5B HB1.out.1 (by omega) 0 0 0 0 0⟩
theorem told_calls (n a b c d p h0 h1 h2 h3 : Int) (ev : Value) (w : World) (ad af : Addr) (hx : TEx w ad af) (he : ErrT w ad af n ev) :
    Calls Tryz.prog 18 #[.agg #[.int .u8 a, .int .u8 b, .int .u8 c, .int .u8 d, .int .i64 p], ev, .agg #[.int .u8 h0, .int .u8 h1, .int .u8 h2, .int .u8 h3]] w fun e w' => e = .returned (endR (toldE n a b c d p h0 h1 h2 h3)) ∧ Below w.heap.size w w' := by
  by_cases hn : n = 0
  · obtain rfl : ev = .nilIface := by
      cases he with
      | nil => rfl
      | deny pb no he hk => cases hn
      | form pb no h0 he hk => exact absurd hn h0
    rw [toldE, if_pos hn]
    by_cases hk : (a == h0 && (b == h1 && (c == h2 && d == h3))) = true ∧ 1024 ≤ p
    · rw [if_pos hk]
      exact told_ok a b c d p h0 h1 h2 h3 w (fun W => by rw [eq_host, hk.1]) (decide_eq_false (by omega))
    · rw [if_neg hk]
      refine told_deny a b c d p h0 h1 h2 h3 w ad af hx _ (fun W => eq_host a b c d h0 h1 h2 h3 W) ?_
      cases hq : (a == h0 && (b == h1 && (c == h2 && d == h3)))
      · exact .inl rfl
      · exact .inr ⟨rfl, decide_eq_true (by rw [hq] at hk; simp at hk; omega)⟩
  · rw [toldE, if_neg hn]
    have hp : ∃ p1, ev = .iface 60 (.pointer (some p1)) := by
      cases he with
      | nil => exact absurd rfl hn
      | deny pb no he hk => exact ⟨_, he⟩
      | form pb no h0 he hk => exact ⟨_, he⟩
    obtain ⟨p1, rfl⟩ := hp
    exact told_err n a b c d p h0 h1 h2 h3 p1 w ad af hx hn he
end Go.Proofs.YtdcbkeihgbekdaaGreatDoor.Turn

namespace Go.Proofs.YtdcbkeihgbekdaaGreatDoor.Turn
open Go Go.RowKit Go.Proofs.YtdcbkeihgbekdaaGreatDoorW.PrintWords Go.Proofs.YtdcbkeihgbekdaaGreatDoorW.PrintLast Go.Proofs.YtdcbkeihgbekdaaGreatDoorW.PrintMore Go.Proofs.YtdcbkeihgbekdaaGreatDoor.Quad
set_option linter.unusedVariables false
set_option linter.unusedSimpArgs false
theorem endR_mk (a b c d p n : Int) : endR (a, b, c, d, p, n) = .tuple #[.agg #[.int .u8 a, .int .u8 b, .int .u8 c, .int .u8 d, .int .i64 p], .int .i64 n] := rfl
theorem wp_at {P : Program} {c : Code} {Q : Exit → Act → World → Prop} {a : Act} {w : World} (K : World → Prop) (h : K w) (hk : ∀ W, K W → Code.wp P c Q a W) : Code.wp P c Q a w := hk w h
def endO (a b c d p : Int) : Obj := .cells #[.int .u8 a, .int .u8 b, .int .u8 c, .int .u8 d, .int .i64 p] 30
def endG (a b c d p : Int) : Option Obj := some (.cells #[.int .u8 a, .int .u8 b, .int .u8 c, .int .u8 d, .int .i64 p] 30 (0, 0))
def hostG (a b c d : Int) : Option Obj := some (.cells #[.int .u8 a, .int .u8 b, .int .u8 c, .int .u8 d] 28 (0, 0))
theorem host_facts {W : World} {H : Nat} {a b c d : Int} (h : W.heap[H]? = hostG a b c d) : W.cell? ⟨H, 0, none⟩ = some (.int .u8 a) ∧ W.cell? ⟨H, 1, none⟩ = some (.int .u8 b) ∧ W.cell? ⟨H, 2, none⟩ = some (.int .u8 c) ∧ W.cell? ⟨H, 3, none⟩ = some (.int .u8 d) := ⟨(blk_cell h 0).trans rfl, (blk_cell h 1).trans rfl, (blk_cell h 2).trans rfl, (blk_cell h 3).trans rfl⟩
def put5w (W : World) (H : Nat) (a b c d p : Int) : World := (((((W.setCell ⟨H, 0, none⟩ (.int .u8 a)).setCell ⟨H, 1, none⟩ (.int .u8 b)).setCell ⟨H, 2, none⟩ (.int .u8 c)).setCell ⟨H, 3, none⟩ (.int .u8 d)).setCell ⟨H, 4, none⟩ (.int .i64 p))
theorem far5 {W : World} {K : Nat} {cs : Array Value} {t : TypeId} (h : W.heap[K]? = some (.cells cs t (0, 0))) {H : Nat} (hk : K ≠ H) (a b c d p : Int) : (put5w W H a b c d p).heap[K]? = some (.cells cs t (0, 0)) := blk_far (blk_far (blk_far (blk_far (blk_far h hk _) hk _) hk _) hk _) hk _
theorem ErrT.put5 {W : World} {ad af : Addr} {n : Int} {e : Value} (h : ErrT W ad af n e) {H : Nat} {x0 x1 x2 x3 x4 : Value} (hz : W.heap[H]? = some (.cells #[x0, x1, x2, x3, x4] 30 (0, 0))) (a b c d p : Int) : ErrT (put5w W H a b c d p) ad af n e :=
  ((((h.put hz 0 _).put (blk_put hz 0 _ rfl) 1 _).put (blk_put (blk_put hz 0 _ rfl) 1 _ rfl) 2 _).put (blk_put (blk_put (blk_put hz 0 _ rfl) 1 _ rfl) 2 _ rfl) 3 _).put (blk_put (blk_put (blk_put (blk_put hz 0 _ rfl) 1 _ rfl) 2 _ rfl) 3 _ rfl) 4 _
/-- Ahead of an end's being taken over: the peer, the result (still zero), the end (still zero), what was read. -/
structure PK (w W : World) (m : Nat) (a b c d p h0 h1 h2 h3 : Int) : Prop where
  bel : Below w.heap.size w W
  host : W.heap[w.heap.size + 1]? = hostG h0 h1 h2 h3
  res : W.heap[w.heap.size + 1 + 1]? = endG 0 0 0 0 0
  e : W.heap[w.heap.size + 1 + 1 + 1]? = endG 0 0 0 0 0
  src : W.heap[m]? = endG a b c d p
  hm : w.heap.size + 4 ≤ m
theorem PK.step {w W W' : World} {m : Nat} {a b c d p h0 h1 h2 h3 : Int} (h : PK w W m a b c d p h0 h1 h2 h3) (hb : Below W.heap.size W W') : PK w W' m a b c d p h0 h1 h2 h3 :=
  ⟨h.bel.trans (hb.mono h.bel.size), blk_below h.host hb, blk_below h.res hb, blk_below h.e hb, blk_below h.src hb, h.hm⟩
/-- Behind it. -/
structure PL (w W : World) (ad af : Addr) (n : Int) (x : Value) (a b c d p h0 h1 h2 h3 : Int) : Prop where
  bel : Below w.heap.size w W
  host : W.heap[w.heap.size + 1]? = hostG h0 h1 h2 h3
  res : W.heap[w.heap.size + 1 + 1]? = endG 0 0 0 0 0
  e : W.heap[w.heap.size + 1 + 1 + 1]? = endG a b c d p
  err : ErrT W ad af n x
theorem PL.of {w W : World} {m : Nat} {a b c d p h0 h1 h2 h3 : Int} {ad af : Addr} {n : Int} {x : Value} (h : PK w W m a b c d p h0 h1 h2 h3) (he : ErrT W ad af n x) : PL w (put5w W (w.heap.size + 1 + 1 + 1) a b c d p) ad af n x a b c d p h0 h1 h2 h3 :=
  ⟨put5B h.bel (by omega) a b c d p, far5 h.host (by omega) a b c d p, far5 h.res (by omega) a b c d p, put5 h.e a b c d p, he.put5 h.e a b c d p⟩
theorem PL.of0 {w W : World} {h0 h1 h2 h3 : Int} {ad af : Addr} {n : Int} {x : Value} (bel : Below w.heap.size w W) (host : W.heap[w.heap.size + 1]? = hostG h0 h1 h2 h3) (res : W.heap[w.heap.size + 1 + 1]? = endG 0 0 0 0 0) (e : W.heap[w.heap.size + 1 + 1 + 1]? = endG 0 0 0 0 0) (he : ErrT W ad af n x) : PL w W ad af n x 0 0 0 0 0 h0 h1 h2 h3 := ⟨bel, host, res, e, he⟩
/-- The world ahead of the verb: four blocks. -/
def w4 (w : World) (verb arg : ByteArray) (h0 h1 h2 h3 : Int) : World := (((w.alloc (.cells #[.string verb, .string arg] 23)).alloc (.cells #[.int .u8 h0, .int .u8 h1, .int .u8 h2, .int .u8 h3] 28)).alloc (endO 0 0 0 0 0)).alloc (endO 0 0 0 0 0)
theorem w4_bel (w : World) (verb arg : ByteArray) (h0 h1 h2 h3 : Int) : Below w.heap.size w (w4 w verb arg h0 h1 h2 h3) := below4 w _ _ _ _
theorem w4_cmd (w : World) (verb arg : ByteArray) (h0 h1 h2 h3 : Int) : (w4 w verb arg h0 h1 h2 h3).heap[w.heap.size]? = some (.cells #[.string verb, .string arg] 23 (0, 0)) := blk_alloc (blk_alloc (blk_alloc (blk_new w _) _) _) _
theorem w4_host (w : World) (verb arg : ByteArray) (h0 h1 h2 h3 : Int) : (w4 w verb arg h0 h1 h2 h3).heap[w.heap.size + 1]? = hostG h0 h1 h2 h3 := blk_alloc (blk_alloc (by have := blk_new (w.alloc (.cells #[.string verb, .string arg] 23)) (.cells #[.int .u8 h0, .int .u8 h1, .int .u8 h2, .int .u8 h3] 28); simpa using this) _) _
theorem w4_res (w : World) (verb arg : ByteArray) (h0 h1 h2 h3 : Int) : (w4 w verb arg h0 h1 h2 h3).heap[w.heap.size + 1 + 1]? = endG 0 0 0 0 0 := blk_alloc (new3 w _ _ _) _
theorem w4_e (w : World) (verb arg : ByteArray) (h0 h1 h2 h3 : Int) : (w4 w verb arg h0 h1 h2 h3).heap[w.heap.size + 1 + 1 + 1]? = endG 0 0 0 0 0 := new4 w _ _ _ _

set_option maxHeartbeats 4000000 in
set_option maxRecDepth 100000 in
theorem point_other (verb arg : ByteArray) (h0 h1 h2 h3 : Int) (w : World) (ad af : Addr) (hx : TEx w ad af) (hv1 : (verb.toList == [80, 79, 82, 84]) = false) (hv2 : (verb.toList == [69, 80, 82, 84]) = false) :
    Calls Tryz.prog 5 #[.agg #[.string verb, .string arg], .agg #[.int .u8 h0, .int .u8 h1, .int .u8 h2, .int .u8 h3]] w fun e w' => e = .returned (endR (toldE 1 0 0 0 0 0 h0 h1 h2 h3)) ∧ Below w.heap.size w w' := by
  have HX := Aside0.mk hx
  obtain ⟨⟨r0, r1, r2, r3, r4, r5⟩, hR⟩ : ∃ R, R = toldE 1 0 0 0 0 0 h0 h1 h2 h3 := ⟨_, rfl⟩
  rw [← hR, endR_mk]
  have HRR := Aside0.mk hR.symm
  clear hx hR
  go_enter Tryz.func5, Tryz.ntmps5
  go_wp2_with (first
    | (go_at_call 14
       refine (fail_calls 1 (by decide) ad af (w4 w verb arg h0 h1 h2 h3) (HX.out.below (w4_bel w verb arg h0 h1 h2 h3))).mono ?_
       rintro e w1 ⟨x, rfl, hx1, hb1⟩
       have HC := (blk_below (w4_cmd w verb arg h0 h1 h2 h3) hb1)
       have hc0 : w1.cell? ⟨w.heap.size, 0, none⟩ = some (.string verb) := (blk_cell HC 0).trans rfl
       have HL := Aside0.mk (PL.of0 ((w4_bel w verb arg h0 h1 h2 h3).trans (hb1.mono (w4_bel w verb arg h0 h1 h2 h3).size)) (blk_below (w4_host w verb arg h0 h1 h2 h3) hb1) (blk_below (w4_res w verb arg h0 h1 h2 h3) hb1) (blk_below (w4_e w verb arg h0 h1 h2 h3) hb1) hx1)
       clear hx1 hb1 HC
       obtain ⟨z0, z1, z2, z3, z4, y0, y1, y2, y3, y4⟩ := endCells_facts HL.out.e
       obtain ⟨q0, q1, q2, q3⟩ := host_facts HL.out.host)
    | (go_at_call 18
       with_reducible refine (told_calls 1 0 0 0 0 0 h0 h1 h2 h3 _ _ ad af (HX.out.below HL.out.bel) HL.out.err).mono ?_
       rintro e w2 ⟨rfl, hb2⟩
       have HB := Aside0.mk (HL.out.bel.trans (hb2.mono HL.out.bel.size))
       have HZ := Aside0.mk (blk_below HL.out.res hb2)
       rw [HRR.out, endR_mk]
       clear hb2
       obtain ⟨x0, x1, x2, x3, x4, u0, u1, u2, u3, u4⟩ := endCells_facts HZ.out))
  try simp only [Exit.inBlock, Exit.then]
  exact bodyPost_ret (res_end _ 4 5 rfl _ _ (w.heap.size + 1 + 1) r0 r1 r2 r3 r4 (.int .i64 r5) rfl rfl (put5 HZ.out r0 r1 r2 r3 r4)) rfl ⟨rfl, put5B HB.out (by omega) _ _ _ _ _⟩
/-- The frame's world behind fail, as it is wanted further on. -/
structure PF (w W : World) (verb arg : ByteArray) (h0 h1 h2 h3 : Int) : Prop where
  bel : Below w.heap.size w W
  cmd : W.heap[w.heap.size]? = some (.cells #[.string verb, .string arg] 23 (0, 0))
  host : W.heap[w.heap.size + 1]? = hostG h0 h1 h2 h3
  res : W.heap[w.heap.size + 1 + 1]? = endG 0 0 0 0 0
  e : W.heap[w.heap.size + 1 + 1 + 1]? = endG 0 0 0 0 0
theorem PF.start (w : World) (verb arg : ByteArray) (h0 h1 h2 h3 : Int) : PF w (w4 w verb arg h0 h1 h2 h3) verb arg h0 h1 h2 h3 := ⟨w4_bel .., w4_cmd .., w4_host .., w4_res .., w4_e ..⟩
theorem PF.step {w W W' : World} {verb arg : ByteArray} {h0 h1 h2 h3 : Int} (h : PF w W verb arg h0 h1 h2 h3) (hb : Below W.heap.size W W') : PF w W' verb arg h0 h1 h2 h3 := ⟨h.bel.trans (hb.mono h.bel.size), blk_below h.cmd hb, blk_below h.host hb, blk_below h.res hb, blk_below h.e hb⟩
theorem PF.read {w W : World} {verb arg : ByteArray} {h0 h1 h2 h3 : Int} (h : PF w W verb arg h0 h1 h2 h3) (a b c d p : Int) : PK w (W.alloc (endO a b c d p)) W.heap.size a b c d p h0 h1 h2 h3 :=
  ⟨h.bel.alloc h.bel.size _, blk_alloc h.host _, blk_alloc h.res _, blk_alloc h.e _, blk_new _ _, by have := blk_lt h.e; omega⟩
theorem PF.facts {w W : World} {verb arg : ByteArray} {h0 h1 h2 h3 : Int} (h : PF w W verb arg h0 h1 h2 h3) : W.cell? ⟨w.heap.size, 0, none⟩ = some (.string verb) ∧ W.cell? ⟨w.heap.size, 1, none⟩ = some (.string arg) := ⟨(blk_cell h.cmd 0).trans rfl, (blk_cell h.cmd 1).trans rfl⟩

set_option maxHeartbeats 4000000 in
set_option maxRecDepth 100000 in
theorem point_six (verb arg : ByteArray) (h0 h1 h2 h3 : Int) (w : World) (ad af : Addr) (hx : TEx w ad af) (hv1 : (verb.toList == [80, 79, 82, 84]) = true) (a b c d p : Int) (z : Bool) (hread : ∀ W, Below w.heap.size w W → Calls Tryz.prog 15 #[.string arg] W fun e w' => e = .returned (.tuple #[.agg #[.int .u8 a, .int .u8 b, .int .u8 c, .int .u8 d, .int .i64 p], .bool z]) ∧ Below W.heap.size W w') :
    Calls Tryz.prog 5 #[.agg #[.string verb, .string arg], .agg #[.int .u8 h0, .int .u8 h1, .int .u8 h2, .int .u8 h3]] w fun e w' => e = .returned (endR (toldE (if z then 0 else 2) a b c d p h0 h1 h2 h3)) ∧ Below w.heap.size w w' := by
  have HX := Aside0.mk hx
  have HRD := Aside0.mk hread
  obtain ⟨⟨r0, r1, r2, r3, r4, r5⟩, hR⟩ : ∃ R, R = toldE (if z then 0 else 2) a b c d p h0 h1 h2 h3 := ⟨_, rfl⟩
  rw [← hR, endR_mk]
  have HRR := Aside0.mk hR.symm
  clear hx hread hR
  go_enter Tryz.func5, Tryz.ntmps5
  go_wp2_with (first
    | (go_at_call 14
       refine (fail_calls 1 (by decide) ad af (w4 w verb arg h0 h1 h2 h3) (HX.out.below (w4_bel w verb arg h0 h1 h2 h3))).mono ?_
       rintro e w1 ⟨x, rfl, hx1, hb1⟩
       have HF := Aside0.mk ((PF.start w verb arg h0 h1 h2 h3).step hb1)
       clear hx1 hb1
       obtain ⟨c0, c1⟩ := HF.out.facts)
    | (go_at_call 15
       refine (HRD.out _ HF.out.bel).mono ?_
       rintro e w2 ⟨rfl, hb2⟩
       have HG := Aside0.mk (HF.out.step hb2)
       clear hb2 c0 c1))
  refine wp_at (fun W => PK w W w2.heap.size a b c d p h0 h1 h2 h3) (HG.out.read a b c d p) (fun W0 hR0 => ?_)
  have HP := Aside0.mk hR0
  clear hR0
  obtain ⟨m, hm⟩ : ∃ m, m = w2.heap.size := ⟨_, rfl⟩
  rw [← hm] at HP ⊢
  clear hm HG
  clear w2 HF
  obtain ⟨z0, z1, z2, z3, z4, y0, y1, y2, y3, y4⟩ := endCells_facts HP.out.e
  obtain ⟨s0, s1, s2, s3, s4, _, _, _, _, _⟩ := endCells_facts HP.out.src
  go_region_with (go_at_call 16; refine (unless_calls z 2 (fun _ => by decide) ad af _ (HX.out.below HP.out.bel.drew)).mono ?_; rintro ev w9 ⟨x9, rfl, hx9, hb9⟩; have HX9 := Aside0.mk hx9; have HP9 := Aside0.mk ((HP.out.step (Below.refl _ _).drew).step hb9); clear hx9 hb9; obtain ⟨t0, t1, t2, t3, t4, v0, v1, v2, v3, v4⟩ := endCells_facts HP9.out.e; obtain ⟨g0, g1, g2, g3, g4, _, _, _, _, _⟩ := endCells_facts HP9.out.src)
  all_goals
    have HL := Aside0.mk (show PL w (((((w9.setCell ⟨w.heap.size + 1 + 1 + 1, 0, none⟩ (.int .u8 a)).setCell ⟨w.heap.size + 1 + 1 + 1, 1, none⟩ (.int .u8 b)).setCell ⟨w.heap.size + 1 + 1 + 1, 2, none⟩ (.int .u8 c)).setCell ⟨w.heap.size + 1 + 1 + 1, 3, none⟩ (.int .u8 d)).setCell ⟨w.heap.size + 1 + 1 + 1, 4, none⟩ (.int .i64 p)) ad af (if z then 0 else 2) x9 a b c d p h0 h1 h2 h3 from PL.of HP9.out HX9.out)
    clear HX9 HP9 s0 s1 s2 s3 s4 z0 z1 z2 z3 z4 y0 y1 y2 y3 y4 g0 g1 g2 g3 g4
    obtain ⟨q0, q1, q2, q3⟩ := host_facts HL.out.host
    go_wp2_with (go_at_call 18
                 with_reducible refine (told_calls _ _ _ _ _ _ _ _ _ _ _ _ ad af (HX.out.below HL.out.bel) HL.out.err).mono ?_
                 rintro e w3 ⟨rfl, hb3⟩
                 have HB := Aside0.mk (HL.out.bel.trans (hb3.mono HL.out.bel.size))
                 have HZ := Aside0.mk (blk_below HL.out.res hb3)
                 rw [HRR.out, endR_mk]
                 clear hb3
                 obtain ⟨x0, x1, x2, x3, x4, u0, u1, u2, u3, u4⟩ := endCells_facts HZ.out)
    try simp only [Exit.inBlock, Exit.then]
    exact bodyPost_ret (res_end _ 4 5 rfl _ _ (w.heap.size + 1 + 1) r0 r1 r2 r3 r4 (.int .i64 r5) rfl rfl (put5 HZ.out r0 r1 r2 r3 r4)) rfl ⟨rfl, put5B HB.out (by omega) _ _ _ _ _⟩
set_option maxHeartbeats 4000000 in
set_option maxRecDepth 100000 in
theorem point_ext (verb arg : ByteArray) (h0 h1 h2 h3 : Int) (w : World) (ad af : Addr) (hx : TEx w ad af) (hv1 : (verb.toList == [80, 79, 82, 84]) = false) (hv2 : (verb.toList == [69, 80, 82, 84]) = true) (a b c d p : Int) (n : Int) (hread : ∀ W, Below w.heap.size w W → Calls Tryz.prog 17 #[.string arg] W fun e w' => e = .returned (.tuple #[.agg #[.int .u8 a, .int .u8 b, .int .u8 c, .int .u8 d, .int .i64 p], .int .i64 n]) ∧ Below W.heap.size W w') :
    Calls Tryz.prog 5 #[.agg #[.string verb, .string arg], .agg #[.int .u8 h0, .int .u8 h1, .int .u8 h2, .int .u8 h3]] w fun e w' => e = .returned (endR (toldE n a b c d p h0 h1 h2 h3)) ∧ Below w.heap.size w w' := by
  have HX := Aside0.mk hx
  have HRD := Aside0.mk hread
  obtain ⟨⟨r0, r1, r2, r3, r4, r5⟩, hR⟩ : ∃ R, R = toldE n a b c d p h0 h1 h2 h3 := ⟨_, rfl⟩
  rw [← hR, endR_mk]
  have HRR := Aside0.mk hR.symm
  obtain ⟨z, hz⟩ : ∃ z, z = (n == 0) := ⟨_, rfl⟩
  have HU := Aside0.mk (show ∀ W : World, TEx W ad af → Calls Tryz.prog 16 #[.bool z, .int .i64 n] W fun e w' => ∃ x, e = .returned x ∧ ErrT w' ad af n x ∧ Below W.heap.size W w' from fun W hW => by
    have := unless_calls z n (fun h => by rw [hz] at h; simpa using h) ad af W hW
    have e : (if z then 0 else n) = n := by
      cases hzz : z
      · rfl
      · rw [hzz] at hz; simp at hz; simp [hz]
    rwa [e] at this)
  have hz2 := hz.symm
  clear hz
  clear hx hread hR
  go_enter Tryz.func5, Tryz.ntmps5
  go_wp2_with (first
    | (go_at_call 14
       refine (fail_calls 1 (by decide) ad af (w4 w verb arg h0 h1 h2 h3) (HX.out.below (w4_bel w verb arg h0 h1 h2 h3))).mono ?_
       rintro e w1 ⟨x, rfl, hx1, hb1⟩
       have HF := Aside0.mk ((PF.start w verb arg h0 h1 h2 h3).step hb1)
       clear hx1 hb1
       obtain ⟨c0, c1⟩ := HF.out.facts)
    | (go_at_call 17
       refine (HRD.out _ HF.out.bel).mono ?_
       rintro e w2 ⟨rfl, hb2⟩
       have HG := Aside0.mk (HF.out.step hb2)
       clear hb2 c0 c1))
  refine wp_at (fun W => PK w W w2.heap.size a b c d p h0 h1 h2 h3) (HG.out.read a b c d p) (fun W0 hR0 => ?_)
  have HP := Aside0.mk hR0
  clear hR0
  obtain ⟨m, hm⟩ : ∃ m, m = w2.heap.size := ⟨_, rfl⟩
  rw [← hm] at HP ⊢
  clear hm HG
  clear w2 HF
  obtain ⟨z0, z1, z2, z3, z4, y0, y1, y2, y3, y4⟩ := endCells_facts HP.out.e
  obtain ⟨s0, s1, s2, s3, s4, _, _, _, _, _⟩ := endCells_facts HP.out.src
  go_region_with (go_at_call 16; refine (HU.out _ (HX.out.below HP.out.bel.drew)).mono ?_; rintro ev w9 ⟨x9, rfl, hx9, hb9⟩; have HX9 := Aside0.mk hx9; have HP9 := Aside0.mk ((HP.out.step (Below.refl _ _).drew).step hb9); clear hx9 hb9; obtain ⟨t0, t1, t2, t3, t4, v0, v1, v2, v3, v4⟩ := endCells_facts HP9.out.e; obtain ⟨g0, g1, g2, g3, g4, _, _, _, _, _⟩ := endCells_facts HP9.out.src)
  all_goals
    have HL := Aside0.mk (show PL w (((((w9.setCell ⟨w.heap.size + 1 + 1 + 1, 0, none⟩ (.int .u8 a)).setCell ⟨w.heap.size + 1 + 1 + 1, 1, none⟩ (.int .u8 b)).setCell ⟨w.heap.size + 1 + 1 + 1, 2, none⟩ (.int .u8 c)).setCell ⟨w.heap.size + 1 + 1 + 1, 3, none⟩ (.int .u8 d)).setCell ⟨w.heap.size + 1 + 1 + 1, 4, none⟩ (.int .i64 p)) ad af n x9 a b c d p h0 h1 h2 h3 from PL.of HP9.out HX9.out)
    clear HX9 HP9 s0 s1 s2 s3 s4 z0 z1 z2 z3 z4 y0 y1 y2 y3 y4 g0 g1 g2 g3 g4
    obtain ⟨q0, q1, q2, q3⟩ := host_facts HL.out.host
    go_wp2_with (go_at_call 18
                 with_reducible refine (told_calls _ _ _ _ _ _ _ _ _ _ _ _ ad af (HX.out.below HL.out.bel) HL.out.err).mono ?_
                 rintro e w3 ⟨rfl, hb3⟩
                 have HB := Aside0.mk (HL.out.bel.trans (hb3.mono HL.out.bel.size))
                 have HZ := Aside0.mk (blk_below HL.out.res hb3)
                 rw [HRR.out, endR_mk]
                 clear hb3
                 obtain ⟨x0, x1, x2, x3, x4, u0, u1, u2, u3, u4⟩ := endCells_facts HZ.out)
    try simp only [Exit.inBlock, Exit.then]
    exact bodyPost_ret (res_end _ 4 5 rfl _ _ (w.heap.size + 1 + 1) r0 r1 r2 r3 r4 (.int .i64 r5) rfl rfl (put5 HZ.out r0 r1 r2 r3 r4)) rfl ⟨rfl, put5B HB.out (by omega) _ _ _ _ _⟩
end Go.Proofs.YtdcbkeihgbekdaaGreatDoor.Turn

namespace Go.Proofs.YtdcbkeihgbekdaaGreatDoor.MapLaw
open Go Go.RowKit
set_option linter.unusedVariables false
section
variable {κ : Type} [DecidableEq κ] {kenc : κ → Value} {P : Program} {kt : TypeId} (w : World) {b : Nat} {l : List (κ × Value)}
variable {ops : Array Oper} {rest : List Oper} {o : Oper} {a : Act} {Q : Exit → Act → World → Prop}
theorem wp_insert (hg : o.guard = none) (m x v : Operand) (t e : TypeId) (hop : o.op = Op.insert t m x v) (K : KeyOk P kt kenc) (ht : P.underlying t = some (.map kt e))
    (hm : a.eval m = .map (some b)) (h : Is kenc w b l) (k : κ) (hx : a.eval x = kenc k) (val : Value) (hv : a.eval v = val)
    (hK : ∀ w', Is kenc w' b (put k val l) → w.grownBy w' (some b) → wpList P ops Q rest (a.put o.dst undef) w') : wpList P ops Q (o :: rest) a w := by
  refine wpList_plain hg fun K' hK' => ?_
  obtain ⟨w', hrun, r1, r2⟩ := run_update K ht h k val
  unfold Oper.wp
  simp [execOp, hop, hm, hx, hv, hrun, Result.andThen]
  exact hK' _ _ (hK w' r1 r2)
theorem gate_insert (t : TypeId) (m x v : Operand) (hop : o.op = Op.insert t m x v) (h : wpList P ops Q (o :: rest) a w) : wpList P ops Q (o :: rest) a w := h
end
end Go.Proofs.YtdcbkeihgbekdaaGreatDoor.MapLaw
namespace Go.Proofs.YtdcbkeihgbekdaaGreatDoor.Turn
open Go Go.RowKit Go.Proofs.YtdcbkeihgbekdaaGreatDoorW.PrintWords Go.Proofs.YtdcbkeihgbekdaaGreatDoor.Quad
set_option linter.unusedVariables false
theorem keyS : MapLaw.KeyOk Tryz.prog 9 Value.string := MapLaw.string_key Tryz.underlying9
def PASV : ByteArray := ⟨#[80, 65, 83, 86]⟩
def EPSV : ByteArray := ⟨#[69, 80, 83, 86]⟩
def PORT : ByteArray := ⟨#[80, 79, 82, 84]⟩
def EPRT : ByteArray := ⟨#[69, 80, 82, 84]⟩
theorem at_two (k1 k2 : ByteArray) (hk : k1 ≠ k2) (v1 v2 : Value) (k : ByteArray) : MapLaw.at_ k (MapLaw.put k2 v2 (MapLaw.put k1 v1 [])) = if k = k1 then some v1 else if k = k2 then some v2 else none := by
  have e : MapLaw.put k2 v2 (MapLaw.put k1 v1 []) = [(k1, v1), (k2, v2)] := by
    simp only [MapLaw.put]
    rw [if_neg (Ne.symm hk)]
  rw [e, MapLaw.at_]
  simp only [MapLaw.lk]
  by_cases h1 : k = k1
  · rw [if_pos h1, if_pos h1]; rfl
  · rw [if_neg h1, if_neg h1]
    by_cases h2 : k = k2
    · rw [if_pos h2, if_pos h2]; rfl
    · rw [if_neg h2, if_neg h2]; rfl
end Go.Proofs.YtdcbkeihgbekdaaGreatDoor.Turn

namespace Go.Proofs.YtdcbkeihgbekdaaGreatDoor.Turn
open Go Go.RowKit Go.Proofs.YtdcbkeihgbekdaaGreatDoorW.PrintWords Go.Proofs.YtdcbkeihgbekdaaGreatDoorW.PrintLast Go.Proofs.YtdcbkeihgbekdaaGreatDoorW.PrintMore Go.Proofs.YtdcbkeihgbekdaaGreatDoor.Quad
set_option linter.unusedVariables false
set_option linter.unusedSimpArgs false
/-- The world further on: the reply, the host, the result (still zero). -/
structure LF (w W : World) (code : Int) (v : Value) (h0 h1 h2 h3 : Int) : Prop where
  bel : Below w.heap.size w W
  rep : W.heap[w.heap.size]? = some (.cells #[.int .i64 code, v] 26 (0, 0))
  host : W.heap[w.heap.size + 1]? = hostG h0 h1 h2 h3
  res : W.heap[w.heap.size + 1 + 1]? = endG 0 0 0 0 0
theorem LF.step {w W W' : World} {code : Int} {v : Value} {h0 h1 h2 h3 : Int} (h : LF w W code v h0 h1 h2 h3) (hb : Below W.heap.size W W') : LF w W' code v h0 h1 h2 h3 := ⟨h.bel.trans (hb.mono h.bel.size), blk_below h.rep hb, blk_below h.host hb, blk_below h.res hb⟩
theorem LF.grown {w W W' : World} {code : Int} {v : Value} {h0 h1 h2 h3 : Int} (h : LF w W code v h0 h1 h2 h3) {k : Nat} (hk : w.heap.size + 3 ≤ k) (hg : W.grownBy W' (some k)) : LF w W' code v h0 h1 h2 h3 :=
  ⟨h.bel.grown hg h.bel.size (fun j hj => by cases hj; omega), blk_grown h.rep hg (by simp; omega), blk_grown h.host hg (by simp; omega), blk_grown h.res hg (by simp; omega)⟩
theorem LF.far {w W : World} {code : Int} {v : Value} {h0 h1 h2 h3 : Int} (h : LF w W code v h0 h1 h2 h3) {m : Nat} (hm : w.heap.size + 3 ≤ m) (j : Nat) (u : Value) : LF w (W.setCell ⟨m, j, none⟩ u) code v h0 h1 h2 h3 :=
  ⟨h.bel.setCell (show w.heap.size ≤ m by omega) u, blk_far h.rep (show w.heap.size ≠ m by omega) u, blk_far h.host (show w.heap.size + 1 ≠ m by omega) u, blk_far h.res (show w.heap.size + 1 + 1 ≠ m by omega) u⟩
theorem LF.start (w : World) (code : Int) (v : Value) (h0 h1 h2 h3 : Int) : LF w (((w.alloc (.cells #[.int .i64 code, v] 26)).alloc (.cells #[.int .u8 h0, .int .u8 h1, .int .u8 h2, .int .u8 h3] 28)).alloc (endO 0 0 0 0 0)) code v h0 h1 h2 h3 :=
  ⟨below3 w _ _ _, blk_alloc (blk_alloc (blk_new w _) _) _, blk_alloc (by have := blk_new (w.alloc (.cells #[.int .i64 code, v] 26)) (.cells #[.int .u8 h0, .int .u8 h1, .int .u8 h2, .int .u8 h3] 28); simpa using this) _, new3 w _ _ _⟩
theorem LF.facts {w W : World} {code : Int} {v : Value} {h0 h1 h2 h3 : Int} (h : LF w W code v h0 h1 h2 h3) : W.cell? ⟨w.heap.size, 0, none⟩ = some (.int .i64 code) ∧ W.cell? ⟨w.heap.size, 1, none⟩ = some v := ⟨(blk_cell h.rep 0).trans rfl, (blk_cell h.rep 1).trans rfl⟩
theorem zeroI (w : World) : (zeroValue 3).run Tryz.prog w = .ok (.int .i64 0) w := by kernel_rfl
/-- The map that was made, three blocks further on. -/
theorem made3 (w : World) (o1 o2 o3 : Obj) : MapLaw.Is Value.string ((((w.alloc o1).alloc o2).alloc o3).alloc (.map #[] 0)) (w.heap.size + 1 + 1 + 1) [] := by
  have := MapLaw.Is.made Value.string (((w.alloc o1).alloc o2).alloc o3)
  simpa using this
theorem HC0 (name : ByteArray) : MapLaw.at_ name (MapLaw.put EPSV (.int .i64 229) (MapLaw.put PASV (.int .i64 227) [])) = if name = PASV then some (.int .i64 227) else if name = EPSV then some (.int .i64 229) else none := at_two PASV EPSV (by decide) _ _ name
set_option maxHeartbeats 4000000 in
set_option maxRecDepth 100000 in
theorem listen_other (name : ByteArray) (A : Option Addr) (cap len : Nat) (code : Int) (h0 h1 h2 h3 : Int) (w : World) (ad af : Addr) (hx : TEx w ad af) (hn1 : name ≠ PASV) (hn2 : name ≠ EPSV) :
    Calls Tryz.prog 7 #[.string name, .agg #[.int .i64 code, .slice A len cap], .agg #[.int .u8 h0, .int .u8 h1, .int .u8 h2, .int .u8 h3]] w fun e w' => e = .returned (endR (toldE 1 0 0 0 0 0 h0 h1 h2 h3)) ∧ Below w.heap.size w w' := by
  have hmm := @run_makeMap Tryz.prog
  have HX := Aside0.mk hx
  obtain ⟨⟨r0, r1, r2, r3, r4, r5⟩, hR⟩ : ∃ R, R = toldE 1 0 0 0 0 0 h0 h1 h2 h3 := ⟨_, rfl⟩
  rw [← hR, endR_mk]
  have HRR := Aside0.mk hR.symm
  have HAT : Aside0 ((if true then Value.tuple #[(MapLaw.at_ name (MapLaw.put EPSV (.int .i64 229) (MapLaw.put PASV (.int .i64 227) []))).getD (.int .i64 0), .bool (MapLaw.at_ name (MapLaw.put EPSV (.int .i64 229) (MapLaw.put PASV (.int .i64 227) []))).isSome] else (MapLaw.at_ name (MapLaw.put EPSV (.int .i64 229) (MapLaw.put PASV (.int .i64 227) []))).getD (.int .i64 0)) = Value.tuple #[.int .i64 0, .bool false]) := ⟨by rw [HC0, if_neg hn1, if_neg hn2]; rfl⟩
  clear hn1 hn2
  clear hx hR
  go_enter Tryz.func7, Tryz.ntmps7
  go_wp2_with (first
    | ((with_reducible refine MapLaw.gate_insert _ _ _ _ _ rfl ?_)
       refine MapLaw.wp_insert _ rfl _ _ _ 51 3 rfl keyS Tryz.underlying51 rfl (made3 w _ _ _) PASV rfl (.int .i64 227) rfl ?_
       intro w1 hm1 hg1
       have HM1 := Aside0.mk hm1
       have HL1 := Aside0.mk (((LF.start w code (.slice A len cap) h0 h1 h2 h3).step ((Below.refl _ _).alloc (Nat.le_refl _) _)).grown (Nat.le_refl _) hg1)
       clear hm1 hg1 hmm)
    | ((with_reducible refine MapLaw.gate_insert _ _ _ _ _ rfl ?_)
       refine MapLaw.wp_insert _ rfl _ _ _ 51 3 rfl keyS Tryz.underlying51 rfl HM1.out EPSV rfl (.int .i64 229) rfl ?_
       intro w2 hm2 hg2
       have HM2 := Aside0.mk hm2
       have HL := Aside0.mk (HL1.out.grown (Nat.le_refl _) hg2)
       clear hm2 hg2 HM1 HL1)
    | (at_lookup; refine MapLaw.wp_lookup _ rfl _ _ 51 3 true rfl keyS Tryz.underlying51 (zeroI _) rfl HM2.out name rfl ?_; rw [HAT.out]; obtain ⟨c0, c1⟩ := HL.out.facts; obtain ⟨q0, q1, q2, q3⟩ := host_facts HL.out.host; obtain ⟨x0, x1, x2, x3, x4, u0, u1, u2, u3, u4⟩ := endCells_facts HL.out.res))
  go_region_with (first
    | (go_at_call 14; with_reducible refine (fail_calls 1 (by decide) ad af _ (HX.out.below HL.out.bel.drew)).mono ?_; rintro e w9 ⟨x9, rfl, hx9, hb9⟩; have HK := Aside0.mk (And.intro ((HL.out.step (Below.refl _ _).drew).step hb9) hx9); clear hx9 hb9; obtain ⟨g0, g1, g2, g3⟩ := host_facts HK.out.1.host)
    | (go_at_call 18; with_reducible refine (told_calls _ _ _ _ _ _ _ _ _ _ _ _ ad af (HX.out.below HK.out.1.bel) HK.out.2).mono ?_; rintro e w3 ⟨rfl, hb3⟩; have HB := Aside0.mk (HK.out.1.bel.trans (hb3.mono HK.out.1.bel.size)); have HZ := Aside0.mk (blk_below HK.out.1.res hb3); rw [HRR.out, endR_mk]; clear hb3; obtain ⟨p0, p1, p2, p3, p4, o0, o1, o2, o3, o4⟩ := endCells_facts HZ.out))
  all_goals
    go_wp2
    try simp only [Exit.inBlock, Exit.then]
    exact bodyPost_ret (res_end _ 6 7 rfl _ _ (w.heap.size + 1 + 1) r0 r1 r2 r3 r4 (.int .i64 r5) rfl rfl (put5 HZ.out r0 r1 r2 r3 r4)) rfl ⟨rfl, put5B HB.out (by omega) _ _ _ _ _⟩
set_option maxHeartbeats 4000000 in
set_option maxRecDepth 100000 in
theorem listen_form (name : ByteArray) (A : Option Addr) (cap len : Nat) (code : Int) (h0 h1 h2 h3 : Int) (w : World) (ad af : Addr) (hx : TEx w ad af) (cd : Int) (hcd : Value.tuple #[(if name = PASV then some (Value.int .i64 227) else if name = EPSV then some (.int .i64 229) else none).getD (.int .i64 0), .bool (if name = PASV then some (Value.int .i64 227) else if name = EPSV then some (.int .i64 229) else none).isSome] = Value.tuple #[.int .i64 cd, .bool true]) (hf : (code == cd) = false ∨ ((code == cd) = true ∧ ((len : Int) == 1) = false)) :
    Calls Tryz.prog 7 #[.string name, .agg #[.int .i64 code, .slice A len cap], .agg #[.int .u8 h0, .int .u8 h1, .int .u8 h2, .int .u8 h3]] w fun e w' => e = .returned (endR (toldE 2 0 0 0 0 0 h0 h1 h2 h3)) ∧ Below w.heap.size w w' := by
  have hmm := @run_makeMap Tryz.prog
  have HX := Aside0.mk hx
  obtain ⟨⟨r0, r1, r2, r3, r4, r5⟩, hR⟩ : ∃ R, R = toldE 2 0 0 0 0 0 h0 h1 h2 h3 := ⟨_, rfl⟩
  rw [← hR, endR_mk]
  have HRR := Aside0.mk hR.symm
  have HAT : Aside0 ((if true then Value.tuple #[(MapLaw.at_ name (MapLaw.put EPSV (.int .i64 229) (MapLaw.put PASV (.int .i64 227) []))).getD (.int .i64 0), .bool (MapLaw.at_ name (MapLaw.put EPSV (.int .i64 229) (MapLaw.put PASV (.int .i64 227) []))).isSome] else (MapLaw.at_ name (MapLaw.put EPSV (.int .i64 229) (MapLaw.put PASV (.int .i64 227) []))).getD (.int .i64 0)) = Value.tuple #[.int .i64 cd, .bool true]) := ⟨by rw [HC0]; exact hcd⟩
  have hf2 : ((code == cd) = false ∧ (code != cd) = true) ∨ ((code == cd) = true ∧ (code != cd) = false ∧ ((len : Int) == 1) = false ∧ ((len : Int) != 1) = true) := by
    rcases hf with h | ⟨h, h'⟩
    · exact .inl ⟨h, by simp [bne, h]⟩
    · exact .inr ⟨h, by simp [bne, h], h', by simp [bne, h']⟩
  clear hcd hf
  clear hx hR
  rcases hf2 with ⟨f1, f2⟩ | ⟨f1, f2, f3, f4⟩
  all_goals
    go_enter Tryz.func7, Tryz.ntmps7
    go_wp2_with (first
      | ((with_reducible refine MapLaw.gate_insert _ _ _ _ _ rfl ?_)
         refine MapLaw.wp_insert _ rfl _ _ _ 51 3 rfl keyS Tryz.underlying51 rfl (made3 w _ _ _) PASV rfl (.int .i64 227) rfl ?_
         intro w1 hm1 hg1
         have HM1 := Aside0.mk hm1
         have HL1 := Aside0.mk (((LF.start w code (.slice A len cap) h0 h1 h2 h3).step ((Below.refl _ _).alloc (Nat.le_refl _) _)).grown (Nat.le_refl _) hg1)
         clear hm1 hg1 hmm)
      | ((with_reducible refine MapLaw.gate_insert _ _ _ _ _ rfl ?_)
         refine MapLaw.wp_insert _ rfl _ _ _ 51 3 rfl keyS Tryz.underlying51 rfl HM1.out EPSV rfl (.int .i64 229) rfl ?_
         intro w2 hm2 hg2
         have HM2 := Aside0.mk hm2
         have HL := Aside0.mk (HL1.out.grown (Nat.le_refl _) hg2)
         clear hm2 hg2 HM1 HL1)
      | (at_lookup; refine MapLaw.wp_lookup _ rfl _ _ 51 3 true rfl keyS Tryz.underlying51 (zeroI _) rfl HM2.out name rfl ?_; rw [HAT.out]; obtain ⟨c0, c1⟩ := HL.out.facts; obtain ⟨q0, q1, q2, q3⟩ := host_facts HL.out.host; obtain ⟨x0, x1, x2, x3, x4, u0, u1, u2, u3, u4⟩ := endCells_facts HL.out.res))
    go_region_with (first
      | (go_at_call 14; with_reducible refine (fail_calls 2 (by decide) ad af _ (HX.out.below HL.out.bel.drew)).mono ?_; rintro e w9 ⟨x9, rfl, hx9, hb9⟩; have HK := Aside0.mk (And.intro ((HL.out.step (Below.refl _ _).drew).step hb9) hx9); clear hx9 hb9; obtain ⟨g0, g1, g2, g3⟩ := host_facts HK.out.1.host)
      | (go_at_call 18; with_reducible refine (told_calls _ _ _ _ _ _ _ _ _ _ _ _ ad af (HX.out.below HK.out.1.bel) HK.out.2).mono ?_; rintro e w3 ⟨rfl, hb3⟩; have HB := Aside0.mk (HK.out.1.bel.trans (hb3.mono HK.out.1.bel.size)); have HZ := Aside0.mk (blk_below HK.out.1.res hb3); rw [HRR.out, endR_mk]; clear hb3; obtain ⟨p0, p1, p2, p3, p4, o0, o1, o2, o3, o4⟩ := endCells_facts HZ.out))
    all_goals
      go_wp2
      try simp only [Exit.inBlock, Exit.then]
      exact bodyPost_ret (res_end _ 6 7 rfl _ _ (w.heap.size + 1 + 1) r0 r1 r2 r3 r4 (.int .i64 r5) rfl rfl (put5 HZ.out r0 r1 r2 r3 r4)) rfl ⟨rfl, put5B HB.out (by omega) _ _ _ _ _⟩
end Go.Proofs.YtdcbkeihgbekdaaGreatDoor.Turn

namespace Go.Proofs.YtdcbkeihgbekdaaGreatDoor.Turn
open Go Go.RowKit Go.Proofs.YtdcbkeihgbekdaaGreatDoorW.PrintWords Go.Proofs.YtdcbkeihgbekdaaGreatDoorW.PrintLast Go.Proofs.YtdcbkeihgbekdaaGreatDoorW.PrintMore Go.Proofs.YtdcbkeihgbekdaaGreatDoor.Quad
set_option linter.unusedVariables false
set_option linter.unusedSimpArgs false
def highB (p : Int) : Bool := decide (1024 ≤ p) && decide (p ≤ 65535)
set_option maxHeartbeats 4000000 in
set_option maxRecDepth 100000 in
theorem high_calls (a b c d p : Int) (w : World) : Calls Tryz.prog 28 #[.agg #[.int .u8 a, .int .u8 b, .int .u8 c, .int .u8 d, .int .i64 p]] w fun e w' => e = .returned (.bool (highB p)) ∧ Below w.heap.size w w' := by
  by_cases h1 : 1024 ≤ p
  · have h1' := decide_eq_true h1
    rw [highB, h1', Bool.true_and]
    clear h1
    go_enter Tryz.func28, Tryz.ntmps28
    go_wp2
    go_ret
    exact ⟨rfl, (Below.refl _ _).alloc (Nat.le_refl _) _⟩
  · have h1' := decide_eq_false h1
    rw [highB, h1', Bool.false_and]
    clear h1
    go_enter Tryz.func28, Tryz.ntmps28
    go_wp2
    go_ret
    exact ⟨rfl, (Below.refl _ _).alloc (Nat.le_refl _) _⟩
theorem zeroF (w : World) : (zeroValue 54).run Tryz.prog w = .ok .nilFunc w := by kernel_rfl
/-- The world further on: the end, the result (still zero). -/
structure AF (w W : World) (a b c d p : Int) : Prop where
  bel : Below w.heap.size w W
  e : W.heap[w.heap.size]? = endG a b c d p
  res : W.heap[w.heap.size + 1]? = some (.cells #[.string ⟨#[]⟩, .string ⟨#[]⟩] 23 (0, 0))
theorem AF.step {w W W' : World} {a b c d p : Int} (h : AF w W a b c d p) (hb : Below W.heap.size W W') : AF w W' a b c d p := ⟨h.bel.trans (hb.mono h.bel.size), blk_below h.e hb, blk_below h.res hb⟩
theorem AF.grown {w W W' : World} {a b c d p : Int} (h : AF w W a b c d p) {k : Nat} (hk : w.heap.size + 2 ≤ k) (hg : W.grownBy W' (some k)) : AF w W' a b c d p :=
  ⟨h.bel.grown hg h.bel.size (fun j hj => by cases hj; omega), blk_grown h.e hg (by simp; omega), blk_grown h.res hg (by simp; omega)⟩
theorem AF.start (w : World) (a b c d p : Int) : AF w ((w.alloc (endO a b c d p)).alloc (.cells #[.string ⟨#[]⟩, .string ⟨#[]⟩] 23)) a b c d p :=
  ⟨((Below.refl _ _).alloc (Nat.le_refl _) _).alloc (by simp) _, blk_alloc (blk_new w _) _, by have := blk_new (w.alloc (endO a b c d p)) (.cells #[.string ⟨#[]⟩, .string ⟨#[]⟩] 23); simpa using this⟩
theorem made2 (w : World) (o1 o2 : Obj) : MapLaw.Is Value.string (((w.alloc o1).alloc o2).alloc (.map #[] 0)) (w.heap.size + 1 + 1) [] := by
  have := MapLaw.Is.made Value.string ((w.alloc o1).alloc o2)
  simpa using this
theorem cmd_facts {W : World} {H : Nat} {x y : ByteArray} (h : W.heap[H]? = some (.cells #[.string x, .string y] 23 (0, 0))) : W.cell? ⟨H, 0, none⟩ = some (.string x) ∧ W.cell? ⟨H, 1, none⟩ = some (.string y) ∧ W.frozen? ⟨H, 0, none⟩ = false ∧ W.frozen? ⟨H, 1, none⟩ = false := ⟨(blk_cell h 0).trans rfl, (blk_cell h 1).trans rfl, blk_frozen h 0, blk_frozen h 1⟩
abbrev SixF : Value := .func (.func 26) #[] #[]
abbrev ExtF : Value := .func (.func 27) #[] #[]
theorem HA0 (name : ByteArray) : MapLaw.at_ name (MapLaw.put EPRT ExtF (MapLaw.put PORT SixF [])) = if name = PORT then some SixF else if name = EPRT then some ExtF else none := at_two PORT EPRT (by decide) _ _ name
theorem res_cmd (tmps : Array Value) (W : World) (H : Nat) (x y : ByteArray) (z : Bool) (h2 : tmps.getD 4 undef = .pointer (some ⟨H, 0, none⟩)) (h3 : tmps.getD 5 undef = .bool z) (hh : W.heap[H]? = some (.cells #[.string x, .string y] 23 (0, 0))) :
   (results Tryz.f9 tmps).run Tryz.prog W = .ok (.tuple #[.agg #[.string x, .string y], .bool z]) W := by
  have c0 : W.cell? ⟨H, 0, none⟩ = some (.string x) := (blk_cell hh 0).trans rfl
  have c1 : W.cell? ⟨H, 1, none⟩ = some (.string y) := (blk_cell hh 1).trans rfl
  rw [Array.getD_eq_getD_getElem?] at h2 h3
  simp [results, show Tryz.f9.results = #[.cell 4 23, .tmp 5] from rfl, h2, h3, go_sem, c0, c1]

set_option maxHeartbeats 4000000 in
set_option maxRecDepth 100000 in
theorem ask_port (a b c d p : Int) (w : World) (t : ByteArray) (hh : highB p = true) (hr : ∀ W, Below w.heap.size w W → Calls Tryz.prog 26 #[.agg #[.int .u8 a, .int .u8 b, .int .u8 c, .int .u8 d, .int .i64 p]] W fun e w' => e = .returned (.tuple #[.string t, .bool true]) ∧ Below W.heap.size W w') :
    Calls Tryz.prog 9 #[.string PORT, .agg #[.int .u8 a, .int .u8 b, .int .u8 c, .int .u8 d, .int .i64 p]] w fun e w' => e = .returned (.tuple #[.agg #[.string PORT, .string t], .bool true]) ∧ Below w.heap.size w w' := by
  have hmm := @run_makeMap Tryz.prog
  have HR := Aside0.mk hr
  have HH := Aside0.mk hh
  have HAT : Aside0 ((if true then Value.tuple #[(MapLaw.at_ PORT (MapLaw.put EPRT ExtF (MapLaw.put PORT SixF []))).getD .nilFunc, .bool (MapLaw.at_ PORT (MapLaw.put EPRT ExtF (MapLaw.put PORT SixF []))).isSome] else (MapLaw.at_ PORT (MapLaw.put EPRT ExtF (MapLaw.put PORT SixF []))).getD .nilFunc) = Value.tuple #[SixF, .bool true]) := ⟨by rw [HA0]; rfl⟩
  clear hr hh
  go_enter Tryz.func9, Tryz.ntmps9
  go_wp2_with (first
    | ((with_reducible refine MapLaw.gate_insert _ _ _ _ _ rfl ?_); refine MapLaw.wp_insert _ rfl _ _ _ 56 54 rfl keyS Tryz.underlying56 rfl (made2 w _ _) PORT rfl SixF rfl ?_; intro w1 hm1 hg1; have HM1 := Aside0.mk hm1; have HL1 := Aside0.mk (((AF.start w a b c d p).step ((Below.refl _ _).alloc (Nat.le_refl _) _)).grown (Nat.le_refl _) hg1); clear hm1 hg1 hmm)
    | ((with_reducible refine MapLaw.gate_insert _ _ _ _ _ rfl ?_); refine MapLaw.wp_insert _ rfl _ _ _ 56 54 rfl keyS Tryz.underlying56 rfl HM1.out EPRT rfl ExtF rfl ?_; intro w2 hm2 hg2; have HM2 := Aside0.mk hm2; have HL := Aside0.mk (HL1.out.grown (Nat.le_refl _) hg2); clear hm2 hg2 HM1 HL1)
    | (at_lookup; refine MapLaw.wp_lookup _ rfl _ _ 56 54 true rfl keyS Tryz.underlying56 (zeroF _) rfl HM2.out PORT rfl ?_; rw [HAT.out]; obtain ⟨c0, c1, f0, f1⟩ := cmd_facts HL.out.res; obtain ⟨x0, x1, x2, x3, x4, u0, u1, u2, u3, u4⟩ := endCells_facts HL.out.e)
    | (go_at_call 28; (with_reducible refine (high_calls a b c d p _).mono ?_); rintro e w3 ⟨rfl, hb3⟩; rw [HH.out]; replace HL := Aside0.mk (HL.out.step hb3); clear hb3 c0 c1 f0 f1 x0 x1 x2 x3 x4 u0 u1 u2 u3 u4; obtain ⟨c0, c1, f0, f1⟩ := cmd_facts HL.out.res; obtain ⟨x0, x1, x2, x3, x4, u0, u1, u2, u3, u4⟩ := endCells_facts HL.out.e)
    | (go_at_call 26; (with_reducible refine (HR.out _ HL.out.bel).mono ?_); rintro e w4 ⟨rfl, hb4⟩; have HN := Aside0.mk (HL.out.step hb4); clear hb4 c0 c1 f0 f1 x0 x1 x2 x3 x4 u0 u1 u2 u3 u4; obtain ⟨c0, c1, f0, f1⟩ := cmd_facts HN.out.res))
  try simp only [Exit.inBlock, Exit.then]
  exact bodyPost_ret (res_cmd _ _ (w.heap.size + 1) PORT t true rfl rfl (blk_put (blk_put HN.out.res 0 _ rfl) 1 _ rfl)) rfl ⟨rfl, (HN.out.bel.setCell (by show w.heap.size ≤ w.heap.size + 1; omega) _).setCell (by show w.heap.size ≤ w.heap.size + 1; omega) _⟩
set_option maxHeartbeats 4000000 in
set_option maxRecDepth 100000 in
theorem ask_eprt (a b c d p : Int) (w : World) (t : ByteArray) (hh : highB p = true) (hr : ∀ W, Below w.heap.size w W → Calls Tryz.prog 27 #[.agg #[.int .u8 a, .int .u8 b, .int .u8 c, .int .u8 d, .int .i64 p]] W fun e w' => e = .returned (.tuple #[.string t, .bool true]) ∧ Below W.heap.size W w') :
    Calls Tryz.prog 9 #[.string EPRT, .agg #[.int .u8 a, .int .u8 b, .int .u8 c, .int .u8 d, .int .i64 p]] w fun e w' => e = .returned (.tuple #[.agg #[.string EPRT, .string t], .bool true]) ∧ Below w.heap.size w w' := by
  have hmm := @run_makeMap Tryz.prog
  have HR := Aside0.mk hr
  have HH := Aside0.mk hh
  have HAT : Aside0 ((if true then Value.tuple #[(MapLaw.at_ EPRT (MapLaw.put EPRT ExtF (MapLaw.put PORT SixF []))).getD .nilFunc, .bool (MapLaw.at_ EPRT (MapLaw.put EPRT ExtF (MapLaw.put PORT SixF []))).isSome] else (MapLaw.at_ EPRT (MapLaw.put EPRT ExtF (MapLaw.put PORT SixF []))).getD .nilFunc) = Value.tuple #[ExtF, .bool true]) := ⟨by rw [HA0]; rfl⟩
  clear hr hh
  go_enter Tryz.func9, Tryz.ntmps9
  go_wp2_with (first
    | ((with_reducible refine MapLaw.gate_insert _ _ _ _ _ rfl ?_); refine MapLaw.wp_insert _ rfl _ _ _ 56 54 rfl keyS Tryz.underlying56 rfl (made2 w _ _) PORT rfl SixF rfl ?_; intro w1 hm1 hg1; have HM1 := Aside0.mk hm1; have HL1 := Aside0.mk (((AF.start w a b c d p).step ((Below.refl _ _).alloc (Nat.le_refl _) _)).grown (Nat.le_refl _) hg1); clear hm1 hg1 hmm)
    | ((with_reducible refine MapLaw.gate_insert _ _ _ _ _ rfl ?_); refine MapLaw.wp_insert _ rfl _ _ _ 56 54 rfl keyS Tryz.underlying56 rfl HM1.out EPRT rfl ExtF rfl ?_; intro w2 hm2 hg2; have HM2 := Aside0.mk hm2; have HL := Aside0.mk (HL1.out.grown (Nat.le_refl _) hg2); clear hm2 hg2 HM1 HL1)
    | (at_lookup; refine MapLaw.wp_lookup _ rfl _ _ 56 54 true rfl keyS Tryz.underlying56 (zeroF _) rfl HM2.out EPRT rfl ?_; rw [HAT.out]; obtain ⟨c0, c1, f0, f1⟩ := cmd_facts HL.out.res; obtain ⟨x0, x1, x2, x3, x4, u0, u1, u2, u3, u4⟩ := endCells_facts HL.out.e)
    | (go_at_call 28; (with_reducible refine (high_calls a b c d p _).mono ?_); rintro e w3 ⟨rfl, hb3⟩; rw [HH.out]; replace HL := Aside0.mk (HL.out.step hb3); clear hb3 c0 c1 f0 f1 x0 x1 x2 x3 x4 u0 u1 u2 u3 u4; obtain ⟨c0, c1, f0, f1⟩ := cmd_facts HL.out.res; obtain ⟨x0, x1, x2, x3, x4, u0, u1, u2, u3, u4⟩ := endCells_facts HL.out.e)
    | (go_at_call 27; (with_reducible refine (HR.out _ HL.out.bel).mono ?_); rintro e w4 ⟨rfl, hb4⟩; have HN := Aside0.mk (HL.out.step hb4); clear hb4 c0 c1 f0 f1 x0 x1 x2 x3 x4 u0 u1 u2 u3 u4; obtain ⟨c0, c1, f0, f1⟩ := cmd_facts HN.out.res))
  try simp only [Exit.inBlock, Exit.then]
  exact bodyPost_ret (res_cmd _ _ (w.heap.size + 1) EPRT t true rfl rfl (blk_put (blk_put HN.out.res 0 _ rfl) 1 _ rfl)) rfl ⟨rfl, (HN.out.bel.setCell (by show w.heap.size ≤ w.heap.size + 1; omega) _).setCell (by show w.heap.size ≤ w.heap.size + 1; omega) _⟩
set_option maxHeartbeats 4000000 in
set_option maxRecDepth 100000 in
theorem ask_other (name : ByteArray) (a b c d p : Int) (w : World) (hn : name ≠ PORT ∧ name ≠ EPRT) :
    Calls Tryz.prog 9 #[.string name, .agg #[.int .u8 a, .int .u8 b, .int .u8 c, .int .u8 d, .int .i64 p]] w fun e w' => e = .returned (.tuple #[.agg #[.string ⟨#[]⟩, .string ⟨#[]⟩], .bool false]) ∧ Below w.heap.size w w' := by
  have hmm := @run_makeMap Tryz.prog
  have HH : Aside0 (highB p = highB p) := ⟨rfl⟩
  have HAT : Aside0 ((if true then Value.tuple #[(MapLaw.at_ name (MapLaw.put EPRT ExtF (MapLaw.put PORT SixF []))).getD .nilFunc, .bool (MapLaw.at_ name (MapLaw.put EPRT ExtF (MapLaw.put PORT SixF []))).isSome] else (MapLaw.at_ name (MapLaw.put EPRT ExtF (MapLaw.put PORT SixF []))).getD .nilFunc) = Value.tuple #[.nilFunc, .bool false]) := ⟨by rw [HA0]; rw [if_neg hn.1, if_neg hn.2]; rfl⟩
  clear hn
  go_enter Tryz.func9, Tryz.ntmps9
  go_wp2_with (first
    | ((with_reducible refine MapLaw.gate_insert _ _ _ _ _ rfl ?_); refine MapLaw.wp_insert _ rfl _ _ _ 56 54 rfl keyS Tryz.underlying56 rfl (made2 w _ _) PORT rfl SixF rfl ?_; intro w1 hm1 hg1; have HM1 := Aside0.mk hm1; have HL1 := Aside0.mk (((AF.start w a b c d p).step ((Below.refl _ _).alloc (Nat.le_refl _) _)).grown (Nat.le_refl _) hg1); clear hm1 hg1 hmm)
    | ((with_reducible refine MapLaw.gate_insert _ _ _ _ _ rfl ?_); refine MapLaw.wp_insert _ rfl _ _ _ 56 54 rfl keyS Tryz.underlying56 rfl HM1.out EPRT rfl ExtF rfl ?_; intro w2 hm2 hg2; have HM2 := Aside0.mk hm2; have HL := Aside0.mk (HL1.out.grown (Nat.le_refl _) hg2); clear hm2 hg2 HM1 HL1)
    | (at_lookup; refine MapLaw.wp_lookup _ rfl _ _ 56 54 true rfl keyS Tryz.underlying56 (zeroF _) rfl HM2.out name rfl ?_; rw [HAT.out]; obtain ⟨c0, c1, f0, f1⟩ := cmd_facts HL.out.res; obtain ⟨x0, x1, x2, x3, x4, u0, u1, u2, u3, u4⟩ := endCells_facts HL.out.e)
    | (go_at_call 28; (with_reducible refine (high_calls a b c d p _).mono ?_); rintro e w3 ⟨rfl, hb3⟩; rw [HH.out]; replace HL := Aside0.mk (HL.out.step hb3); clear hb3 c0 c1 f0 f1 x0 x1 x2 x3 x4 u0 u1 u2 u3 u4; obtain ⟨c0, c1, f0, f1⟩ := cmd_facts HL.out.res; obtain ⟨x0, x1, x2, x3, x4, u0, u1, u2, u3, u4⟩ := endCells_facts HL.out.e))
  try simp only [Exit.inBlock, Exit.then]
  exact bodyPost_ret (res_cmd _ _ (w.heap.size + 1) ⟨#[]⟩ ⟨#[]⟩ false rfl rfl (blk_put (blk_put HL.out.res 0 _ rfl) 1 _ rfl)) rfl ⟨rfl, (HL.out.bel.setCell (by show w.heap.size ≤ w.heap.size + 1; omega) _).setCell (by show w.heap.size ≤ w.heap.size + 1; omega) _⟩
set_option maxHeartbeats 4000000 in
set_option maxRecDepth 100000 in
theorem ask_low (name : ByteArray) (a b c d p : Int) (w : World) (v : Value) (hn : Value.tuple #[(if name = PORT then some SixF else if name = EPRT then some ExtF else none).getD .nilFunc, .bool (if name = PORT then some SixF else if name = EPRT then some ExtF else none).isSome] = Value.tuple #[v, .bool true]) (hh : highB p = false) :
    Calls Tryz.prog 9 #[.string name, .agg #[.int .u8 a, .int .u8 b, .int .u8 c, .int .u8 d, .int .i64 p]] w fun e w' => e = .returned (.tuple #[.agg #[.string ⟨#[]⟩, .string ⟨#[]⟩], .bool false]) ∧ Below w.heap.size w w' := by
  have hmm := @run_makeMap Tryz.prog
  have HH := Aside0.mk hh
  clear hh
  have HAT : Aside0 ((if true then Value.tuple #[(MapLaw.at_ name (MapLaw.put EPRT ExtF (MapLaw.put PORT SixF []))).getD .nilFunc, .bool (MapLaw.at_ name (MapLaw.put EPRT ExtF (MapLaw.put PORT SixF []))).isSome] else (MapLaw.at_ name (MapLaw.put EPRT ExtF (MapLaw.put PORT SixF []))).getD .nilFunc) = Value.tuple #[v, .bool true]) := ⟨by rw [HA0]; exact hn⟩
  clear hn
  go_enter Tryz.func9, Tryz.ntmps9
  go_wp2_with (first
    | ((with_reducible refine MapLaw.gate_insert _ _ _ _ _ rfl ?_); refine MapLaw.wp_insert _ rfl _ _ _ 56 54 rfl keyS Tryz.underlying56 rfl (made2 w _ _) PORT rfl SixF rfl ?_; intro w1 hm1 hg1; have HM1 := Aside0.mk hm1; have HL1 := Aside0.mk (((AF.start w a b c d p).step ((Below.refl _ _).alloc (Nat.le_refl _) _)).grown (Nat.le_refl _) hg1); clear hm1 hg1 hmm)
    | ((with_reducible refine MapLaw.gate_insert _ _ _ _ _ rfl ?_); refine MapLaw.wp_insert _ rfl _ _ _ 56 54 rfl keyS Tryz.underlying56 rfl HM1.out EPRT rfl ExtF rfl ?_; intro w2 hm2 hg2; have HM2 := Aside0.mk hm2; have HL := Aside0.mk (HL1.out.grown (Nat.le_refl _) hg2); clear hm2 hg2 HM1 HL1)
    | (at_lookup; refine MapLaw.wp_lookup _ rfl _ _ 56 54 true rfl keyS Tryz.underlying56 (zeroF _) rfl HM2.out name rfl ?_; rw [HAT.out]; obtain ⟨c0, c1, f0, f1⟩ := cmd_facts HL.out.res; obtain ⟨x0, x1, x2, x3, x4, u0, u1, u2, u3, u4⟩ := endCells_facts HL.out.e)
    | (go_at_call 28; (with_reducible refine (high_calls a b c d p _).mono ?_); rintro e w3 ⟨rfl, hb3⟩; rw [HH.out]; replace HL := Aside0.mk (HL.out.step hb3); clear hb3 c0 c1 f0 f1 x0 x1 x2 x3 x4 u0 u1 u2 u3 u4; obtain ⟨c0, c1, f0, f1⟩ := cmd_facts HL.out.res; obtain ⟨x0, x1, x2, x3, x4, u0, u1, u2, u3, u4⟩ := endCells_facts HL.out.e))
  try simp only [Exit.inBlock, Exit.then]
  exact bodyPost_ret (res_cmd _ _ (w.heap.size + 1) ⟨#[]⟩ ⟨#[]⟩ false rfl rfl (blk_put (blk_put HL.out.res 0 _ rfl) 1 _ rfl)) rfl ⟨rfl, (HL.out.bel.setCell (by show w.heap.size ≤ w.heap.size + 1; omega) _).setCell (by show w.heap.size ≤ w.heap.size + 1; omega) _⟩
end Go.Proofs.YtdcbkeihgbekdaaGreatDoor.Turn

namespace Go.Proofs.YtdcbkeihgbekdaaGreatDoor.Turn
open Go Go.RowKit Go.Proofs.YtdcbkeihgbekdaaGreatDoorW.PrintWords Go.Proofs.YtdcbkeihgbekdaaGreatDoorW.PrintLast Go.Proofs.YtdcbkeihgbekdaaGreatDoorW.PrintMore Go.Proofs.YtdcbkeihgbekdaaGreatDoor.Quad
set_option linter.unusedVariables false
set_option linter.unusedSimpArgs false
def entering : ByteArray := ⟨#[69, 110, 116, 101, 114, 105, 110, 103, 32, 80, 97, 115, 115, 105, 118, 101, 32, 77, 111, 100, 101, 32, 40]⟩
def entended : ByteArray := ⟨#[69, 110, 116, 101, 114, 105, 110, 103, 32, 69, 120, 116, 101, 110, 100, 101, 100, 32, 80, 97, 115, 115, 105, 118, 101, 32, 77, 111, 100, 101, 32]⟩
/-- What a reply of one line looks like. -/
def Told (w : World) (code : Int) (t : ByteArray) (e : Ending) (w' : World) : Prop := ∃ g : Nat, e = .returned (.tuple #[.agg #[.int .i64 code, .slice (some ⟨g, 0, none⟩) 1 1], .bool true]) ∧ w'.heap[g]? = some (.cells #[.string t] 9 (0, 0)) ∧ w.heap.size ≤ g ∧ Below w.heap.size w w'
structure TF (w W : World) (a b c d p : Int) : Prop where
  bel : Below w.heap.size w W
  e : W.heap[w.heap.size]? = endG a b c d p
  res : W.heap[w.heap.size + 1]? = some (.cells #[.int .i64 0, .slice none 0 0] 26 (0, 0))
theorem TF.step {w W W' : World} {a b c d p : Int} (h : TF w W a b c d p) (hb : Below W.heap.size W W') : TF w W' a b c d p := ⟨h.bel.trans (hb.mono h.bel.size), blk_below h.e hb, blk_below h.res hb⟩
theorem TF.start (w : World) (a b c d p : Int) : TF w ((w.alloc (endO a b c d p)).alloc (.cells #[.int .i64 0, .slice none 0 0] 26)) a b c d p :=
  ⟨((Below.refl _ _).alloc (Nat.le_refl _) _).alloc (by simp) _, blk_alloc (blk_new w _) _, by have := blk_new (w.alloc (endO a b c d p)) (.cells #[.int .i64 0, .slice none 0 0] 26); simpa using this⟩
theorem rep_facts {W : World} {H : Nat} {x y : Value} (h : W.heap[H]? = some (.cells #[x, y] 26 (0, 0))) : W.cell? ⟨H, 0, none⟩ = some x ∧ W.cell? ⟨H, 1, none⟩ = some y ∧ W.frozen? ⟨H, 0, none⟩ = false ∧ W.frozen? ⟨H, 1, none⟩ = false := ⟨(blk_cell h 0).trans rfl, (blk_cell h 1).trans rfl, blk_frozen h 0, blk_frozen h 1⟩
theorem res_rep (tmps : Array Value) (W : World) (H : Nat) (code : Int) (v : Value) (A : Option Addr) (n c : Nat) (hv : v = .slice A n c) (z : Bool) (h2 : tmps.getD 4 undef = .pointer (some ⟨H, 0, none⟩)) (h3 : tmps.getD 5 undef = .bool z) (hh : W.heap[H]? = some (.cells #[.int .i64 code, v] 26 (0, 0))) :
   (results Tryz.f11 tmps).run Tryz.prog W = .ok (.tuple #[.agg #[.int .i64 code, v], .bool z]) W := by
  subst hv
  have c0 : W.cell? ⟨H, 0, none⟩ = some (.int .i64 code) := (blk_cell hh 0).trans rfl
  have c1 : W.cell? ⟨H, 1, none⟩ = some (.slice A n c) := (blk_cell hh 1).trans rfl
  rw [Array.getD_eq_getD_getElem?] at h2 h3
  simp [results, show Tryz.f11.results = #[.cell 4 26, .tmp 5] from rfl, h2, h3, go_sem, c0, c1]

set_option maxHeartbeats 4000000 in
set_option maxRecDepth 100000 in
theorem tell_pasv (a b c d p : Int) (w : World) (t : ByteArray) (hts : t.size ≤ 1000) (hh : highB p = true) (hr : ∀ W, Below w.heap.size w W → Calls Tryz.prog 26 #[.agg #[.int .u8 a, .int .u8 b, .int .u8 c, .int .u8 d, .int .i64 p]] W fun e w' => e = .returned (.tuple #[.string t, .bool true]) ∧ Below W.heap.size W w') :
    Calls Tryz.prog 11 #[.string PASV, .agg #[.int .u8 a, .int .u8 b, .int .u8 c, .int .u8 d, .int .i64 p]] w (Told w 227 (⟨#[69, 110, 116, 101, 114, 105, 110, 103, 32, 80, 97, 115, 115, 105, 118, 101, 32, 77, 111, 100, 101, 32, 40]⟩ ++ t ++ ⟨#[41, 46]⟩)) := by
  have HR := Aside0.mk hr
  have HH := Aside0.mk hh
  have e1 : (⟨#[69, 110, 116, 101, 114, 105, 110, 103, 32, 80, 97, 115, 115, 105, 118, 101, 32, 77, 111, 100, 101, 32, 40]⟩ : ByteArray).size = 23 := rfl
  have e2 : (⟨#[41, 46]⟩ : ByteArray).size = 2 := rfl
  have hp1 : (PASV.toList == [80, 65, 83, 86]) = true := by decide +kernel
  have hp2 : (PASV.toList == [69, 80, 83, 86]) = false := by decide +kernel
  clear hr hh
  go_enter Tryz.func11, Tryz.ntmps11
  go_wp2_with (first
    | (go_at_call 28; (with_reducible refine (high_calls a b c d p _).mono ?_); rintro e w3 ⟨rfl, hb3⟩; rw [HH.out]; have HL := Aside0.mk ((TF.start w a b c d p).step hb3); clear hb3; obtain ⟨c0, c1, f0, f1⟩ := rep_facts HL.out.res; obtain ⟨x0, x1, x2, x3, x4, u0, u1, u2, u3, u4⟩ := endCells_facts HL.out.e)
    | (go_at_call 26; (with_reducible refine (HR.out _ HL.out.bel).mono ?_); rintro e w4 ⟨rfl, hb4⟩; have HN := Aside0.mk (HL.out.step hb4); clear hb4 c0 c1 f0 f1 x0 x1 x2 x3 x4 u0 u1 u2 u3 u4; obtain ⟨c0, c1, f0, f1⟩ := rep_facts HN.out.res; have f0a : ∀ o, (w4.alloc o).frozen? ⟨w.heap.size + 1, 0, none⟩ = false := fun o => blk_frozen (blk_alloc HN.out.res o) 0; have f1a : ∀ o, (w4.alloc o).frozen? ⟨w.heap.size + 1, 1, none⟩ = false := fun o => blk_frozen (blk_alloc HN.out.res o) 1; have c0a : ∀ o, (w4.alloc o).cell? ⟨w.heap.size + 1, 0, none⟩ = some (.int .i64 0) := fun o => (blk_cell (blk_alloc HN.out.res o) 0).trans rfl; have c1a : ∀ o, (w4.alloc o).cell? ⟨w.heap.size + 1, 1, none⟩ = some (.slice none 0 0) := fun o => (blk_cell (blk_alloc HN.out.res o) 1).trans rfl))
  try simp only [Exit.inBlock, Exit.then]
  have hlt := blk_lt HN.out.res
  refine bodyPost_ret (res_rep _ _ (w.heap.size + 1) 227 _ (some ⟨w4.heap.size, 0, none⟩) 1 1 rfl true rfl rfl (blk_put (blk_put (blk_alloc HN.out.res _) 0 _ rfl) 1 _ rfl)) rfl ⟨w4.heap.size, rfl, ?_, HN.out.bel.size, ((HN.out.bel.alloc HN.out.bel.size _).setCell (by show w.heap.size ≤ w.heap.size + 1; omega) _).setCell (by show w.heap.size ≤ w.heap.size + 1; omega) _⟩
  exact blk_far (blk_far (blk_new w4 _) (show w4.heap.size ≠ w.heap.size + 1 by omega) _) (show w4.heap.size ≠ w.heap.size + 1 by omega) _
set_option maxHeartbeats 4000000 in
set_option maxRecDepth 100000 in
theorem tell_epsv (a b c d p : Int) (w : World) (t : ByteArray) (hts : t.size ≤ 1000) (hh : highB p = true) (hr : ∀ W, Below w.heap.size w W → Calls Tryz.prog 32 #[.int .i64 p] W fun e w' => e = .returned (.tuple #[.string t, .bool true]) ∧ Below W.heap.size W w') :
    Calls Tryz.prog 11 #[.string EPSV, .agg #[.int .u8 a, .int .u8 b, .int .u8 c, .int .u8 d, .int .i64 p]] w (Told w 229 (⟨#[69, 110, 116, 101, 114, 105, 110, 103, 32, 69, 120, 116, 101, 110, 100, 101, 100, 32, 80, 97, 115, 115, 105, 118, 101, 32, 77, 111, 100, 101, 32]⟩ ++ t ++ ⟨#[46]⟩)) := by
  have HR := Aside0.mk hr
  have HH := Aside0.mk hh
  have e1 : (⟨#[69, 110, 116, 101, 114, 105, 110, 103, 32, 69, 120, 116, 101, 110, 100, 101, 100, 32, 80, 97, 115, 115, 105, 118, 101, 32, 77, 111, 100, 101, 32]⟩ : ByteArray).size = 31 := rfl
  have e2 : (⟨#[46]⟩ : ByteArray).size = 1 := rfl
  have hp1 : (EPSV.toList == [80, 65, 83, 86]) = false := by decide +kernel
  have hp2 : (EPSV.toList == [69, 80, 83, 86]) = true := by decide +kernel
  clear hr hh
  go_enter Tryz.func11, Tryz.ntmps11
  go_wp2_with (first
    | (go_at_call 28; (with_reducible refine (high_calls a b c d p _).mono ?_); rintro e w3 ⟨rfl, hb3⟩; rw [HH.out]; have HL := Aside0.mk ((TF.start w a b c d p).step hb3); clear hb3; obtain ⟨c0, c1, f0, f1⟩ := rep_facts HL.out.res; obtain ⟨x0, x1, x2, x3, x4, u0, u1, u2, u3, u4⟩ := endCells_facts HL.out.e)
    | (go_at_call 32; (with_reducible refine (HR.out _ HL.out.bel).mono ?_); rintro e w4 ⟨rfl, hb4⟩; have HN := Aside0.mk (HL.out.step hb4); clear hb4 c0 c1 f0 f1 x0 x1 x2 x3 x4 u0 u1 u2 u3 u4; obtain ⟨c0, c1, f0, f1⟩ := rep_facts HN.out.res; have f0a : ∀ o, (w4.alloc o).frozen? ⟨w.heap.size + 1, 0, none⟩ = false := fun o => blk_frozen (blk_alloc HN.out.res o) 0; have f1a : ∀ o, (w4.alloc o).frozen? ⟨w.heap.size + 1, 1, none⟩ = false := fun o => blk_frozen (blk_alloc HN.out.res o) 1; have c0a : ∀ o, (w4.alloc o).cell? ⟨w.heap.size + 1, 0, none⟩ = some (.int .i64 0) := fun o => (blk_cell (blk_alloc HN.out.res o) 0).trans rfl; have c1a : ∀ o, (w4.alloc o).cell? ⟨w.heap.size + 1, 1, none⟩ = some (.slice none 0 0) := fun o => (blk_cell (blk_alloc HN.out.res o) 1).trans rfl))
  try simp only [Exit.inBlock, Exit.then]
  have hlt := blk_lt HN.out.res
  refine bodyPost_ret (res_rep _ _ (w.heap.size + 1) 229 _ (some ⟨w4.heap.size, 0, none⟩) 1 1 rfl true rfl rfl (blk_put (blk_put (blk_alloc HN.out.res _) 0 _ rfl) 1 _ rfl)) rfl ⟨w4.heap.size, rfl, ?_, HN.out.bel.size, ((HN.out.bel.alloc HN.out.bel.size _).setCell (by show w.heap.size ≤ w.heap.size + 1; omega) _).setCell (by show w.heap.size ≤ w.heap.size + 1; omega) _⟩
  exact blk_far (blk_far (blk_new w4 _) (show w4.heap.size ≠ w.heap.size + 1 by omega) _) (show w4.heap.size ≠ w.heap.size + 1 by omega) _
set_option maxHeartbeats 4000000 in
set_option maxRecDepth 100000 in
theorem tell_no (name : ByteArray) (a b c d p : Int) (w : World) (hn : highB p = false ∨ (highB p = true ∧ (name.toList == [80, 65, 83, 86]) = false ∧ (name.toList == [69, 80, 83, 86]) = false)) :
    Calls Tryz.prog 11 #[.string name, .agg #[.int .u8 a, .int .u8 b, .int .u8 c, .int .u8 d, .int .i64 p]] w fun e w' => e = .returned (.tuple #[.agg #[.int .i64 0, .slice none 0 0], .bool false]) ∧ Below w.heap.size w w' := by
  rcases hn with h | ⟨h, h1, h2⟩
  all_goals
    have HH := Aside0.mk h
    clear h
    go_enter Tryz.func11, Tryz.ntmps11
    go_wp2_with (go_at_call 28; (with_reducible refine (high_calls a b c d p _).mono ?_); rintro e w3 ⟨rfl, hb3⟩; rw [HH.out]; have HL := Aside0.mk ((TF.start w a b c d p).step hb3); clear hb3; obtain ⟨c0, c1, f0, f1⟩ := rep_facts HL.out.res; obtain ⟨x0, x1, x2, x3, x4, u0, u1, u2, u3, u4⟩ := endCells_facts HL.out.e)
    try simp only [Exit.inBlock, Exit.then]
    exact bodyPost_ret (res_rep _ _ (w.heap.size + 1) 0 _ none 0 0 rfl false rfl rfl (blk_put (blk_put HL.out.res 0 _ rfl) 1 _ rfl)) rfl ⟨rfl, (HL.out.bel.setCell (by show w.heap.size ≤ w.heap.size + 1; omega) _).setCell (by show w.heap.size ≤ w.heap.size + 1; omega) _⟩
end Go.Proofs.YtdcbkeihgbekdaaGreatDoor.Turn

namespace Go.Proofs.YtdcbkeihgbekdaaGreatDoor.Turn
open Go Go.RowKit Go.Proofs.YtdcbkeihgbekdaaGreatDoorW.PrintWords Go.Proofs.YtdcbkeihgbekdaaGreatDoorW.PrintLast Go.Proofs.YtdcbkeihgbekdaaGreatDoorW.PrintMore Go.Proofs.YtdcbkeihgbekdaaGreatDoor.Quad
set_option linter.unusedVariables false
set_option linter.unusedSimpArgs false
/-- The world ahead of the answer: the reply, the host, the result (still zero), what was read. -/
structure LM (w W : World) (m : Nat) (code : Int) (v : Value) (a b c d p h0 h1 h2 h3 : Int) : Prop where
  lf : LF w W code v h0 h1 h2 h3
  src : W.heap[m]? = endG a b c d p
  hm : w.heap.size + 4 ≤ m
theorem LM.step {w W W' : World} {m : Nat} {code : Int} {v : Value} {a b c d p h0 h1 h2 h3 : Int} (h : LM w W m code v a b c d p h0 h1 h2 h3) (hb : Below W.heap.size W W') : LM w W' m code v a b c d p h0 h1 h2 h3 := ⟨h.lf.step hb, blk_below h.src hb, h.hm⟩
theorem LF.read {w W : World} {code : Int} {v : Value} {h0 h1 h2 h3 : Int} (h : LF w W code v h0 h1 h2 h3) (hs : w.heap.size + 4 ≤ W.heap.size) (a b c d p : Int) : LM w (W.alloc (endO a b c d p)) W.heap.size code v a b c d p h0 h1 h2 h3 := ⟨h.step ((Below.refl _ _).alloc (Nat.le_refl _) _), blk_new _ _, hs⟩
theorem LM.put1 {w W : World} {m : Nat} {code : Int} {v : Value} {a b c d p h0 h1 h2 h3 : Int} (h : LM w W m code v a b c d p h0 h1 h2 h3) (q : Int) : LM w (W.setCell ⟨m, 4, none⟩ (.int .i64 q)) m code v a b c d q h0 h1 h2 h3 :=
  ⟨h.lf.far (by have := h.hm; omega) _ _, blk_put h.src 4 _ rfl, h.hm⟩
set_option maxHeartbeats 4000000 in
set_option maxRecDepth 100000 in
theorem listen_six (A : Option Addr) (cap : Nat) (h0 h1 h2 h3 : Int) (w : World) (ad af : Addr) (hx : TEx w ad af) (s : ByteArray) (hs : ∀ W, Below w.heap.size w W → ∃ ad : Addr, A = some ad ∧ W.cell? ad = some (.string s)) (a b c d p : Int) (z : Bool) (hr1 : ∀ W, Below w.heap.size w W → Calls Tryz.prog 22 #[.string s] W fun e w' => e = .returned (.tuple #[.agg #[.int .u8 a, .int .u8 b, .int .u8 c, .int .u8 d, .int .i64 p], .bool z]) ∧ Below W.heap.size W w') :
    Calls Tryz.prog 7 #[.string PASV, .agg #[.int .i64 227, .slice A 1 cap], .agg #[.int .u8 h0, .int .u8 h1, .int .u8 h2, .int .u8 h3]] w fun e w' => e = .returned (endR (toldE (if z then 0 else 2) a b c d p h0 h1 h2 h3)) ∧ Below w.heap.size w w' := by
  have hmm := @run_makeMap Tryz.prog
  have HX := Aside0.mk hx
  have HR1 := Aside0.mk hr1
  have HS := Aside0.mk hs
  obtain ⟨⟨r0, r1, r2, r3, r4, r5⟩, hR⟩ : ∃ R, R = toldE (if z then 0 else 2) a b c d p h0 h1 h2 h3 := ⟨_, rfl⟩
  rw [← hR, endR_mk]
  have HRR := Aside0.mk hR.symm
  have HAT : Aside0 ((if true then Value.tuple #[(MapLaw.at_ PASV (MapLaw.put EPSV (.int .i64 229) (MapLaw.put PASV (.int .i64 227) []))).getD (.int .i64 0), .bool (MapLaw.at_ PASV (MapLaw.put EPSV (.int .i64 229) (MapLaw.put PASV (.int .i64 227) []))).isSome] else (MapLaw.at_ PASV (MapLaw.put EPSV (.int .i64 229) (MapLaw.put PASV (.int .i64 227) []))).getD (.int .i64 0)) = Value.tuple #[.int .i64 227, .bool true]) := ⟨by rw [HC0]; rfl⟩
  have hA : ∃ ad0, A = some ad0 := by obtain ⟨ad0, e, _⟩ := hs w (Below.refl _ _); exact ⟨ad0, e⟩
  obtain ⟨ad0, rfl⟩ := hA
  have HC := Aside0.mk (show ∀ W, Below w.heap.size w W → W.cell? ad0 = some (.string s) from fun W hW => by obtain ⟨ad1, e, h⟩ := HS.out W hW; cases e; exact h)
  clear hx hr1 hs hR HS
  go_enter Tryz.func7, Tryz.ntmps7
  have hpe : (PASV.toList == [69, 80, 83, 86]) = false := by decide +kernel
  go_wp2_with (first
    | ((with_reducible refine MapLaw.gate_insert _ _ _ _ _ rfl ?_)
       refine MapLaw.wp_insert _ rfl _ _ _ 51 3 rfl keyS Tryz.underlying51 rfl (made3 w _ _ _) PASV rfl (.int .i64 227) rfl ?_
       intro w1 hm1 hg1
       have HM1 := Aside0.mk hm1
       have HL1 := Aside0.mk (((LF.start w 227 (.slice (some ad0) 1 cap) h0 h1 h2 h3).step ((Below.refl _ _).alloc (Nat.le_refl _) _)).grown (Nat.le_refl _) hg1)
       clear hm1 hg1 hmm)
    | ((with_reducible refine MapLaw.gate_insert _ _ _ _ _ rfl ?_)
       refine MapLaw.wp_insert _ rfl _ _ _ 51 3 rfl keyS Tryz.underlying51 rfl HM1.out EPSV rfl (.int .i64 229) rfl ?_
       intro w2 hm2 hg2
       have HM2 := Aside0.mk hm2
       have HL := Aside0.mk (HL1.out.grown (Nat.le_refl _) hg2)
       clear hm2 hg2 HM1 HL1)
    | (at_lookup; refine MapLaw.wp_lookup _ rfl _ _ 51 3 true rfl keyS Tryz.underlying51 (zeroI _) rfl HM2.out PASV rfl ?_; rw [HAT.out]; obtain ⟨c0, c1⟩ := HL.out.facts; have s0 := HC.out _ HL.out.bel; obtain ⟨q0, q1, q2, q3⟩ := host_facts HL.out.host; obtain ⟨x0, x1, x2, x3, x4, u0, u1, u2, u3, u4⟩ := endCells_facts HL.out.res)
    | (go_at_call 22; refine (HR1.out _ HL.out.bel).mono ?_; rintro e w5 ⟨rfl, hb5⟩; have HG := Aside0.mk (HL.out.step hb5); have HSZ := Aside0.mk (show w.heap.size + 4 ≤ w5.heap.size from Nat.le_trans HM2.out.lt hb5.size); clear hb5 c0 c1 s0 q0 q1 q2 q3 x0 x1 x2 x3 x4 u0 u1 u2 u3 u4))
  refine wp_at (fun W => LM w W w5.heap.size 227 (.slice (some ad0) 1 cap) a b c d p h0 h1 h2 h3) (HG.out.read HSZ.out a b c d p) (fun W0 hR0 => ?_)
  have HM := Aside0.mk hR0
  clear hR0 hpe
  obtain ⟨m, hm⟩ : ∃ m, m = w5.heap.size := ⟨_, rfl⟩
  rw [← hm] at HM ⊢
  clear hm
  obtain ⟨z0, z1, z2, z3, z4, y0, y1, y2, y3, y4⟩ := endCells_facts HM.out.src
  obtain ⟨q0, q1, q2, q3⟩ := host_facts HM.out.lf.host
  go_region_with (first
    | (go_at_call 16; with_reducible refine (unless_calls _ 2 (fun _ => by decide) ad af _ (HX.out.below HM.out.lf.bel.drew)).mono ?_; rintro e w9 ⟨x9, rfl, hx9, hb9⟩; have HN := Aside0.mk ((HM.out.step (Below.refl _ _).drew).step hb9); have HK := Aside0.mk (And.intro HN.out.lf hx9); clear hx9 hb9; obtain ⟨g0, g1, g2, g3⟩ := host_facts HK.out.1.host; obtain ⟨e0, e1, e2, e3, e4, _, _, _, _, _⟩ := endCells_facts HN.out.src)
    | (go_at_call 18; with_reducible refine (told_calls _ _ _ _ _ _ _ _ _ _ _ _ ad af (HX.out.below HK.out.1.bel) HK.out.2).mono ?_; rintro e w3 ⟨rfl, hb3⟩; have HB := Aside0.mk (HK.out.1.bel.trans (hb3.mono HK.out.1.bel.size)); have HZ := Aside0.mk (blk_below HK.out.1.res hb3); rw [HRR.out, endR_mk]; clear hb3; obtain ⟨p0, p1, p2, p3, p4, o0, o1, o2, o3, o4⟩ := endCells_facts HZ.out))
  all_goals
    go_wp2
    try simp only [Exit.inBlock, Exit.then]
    exact bodyPost_ret (res_end _ 6 7 rfl _ _ (w.heap.size + 1 + 1) r0 r1 r2 r3 r4 (.int .i64 r5) rfl rfl (put5 HZ.out r0 r1 r2 r3 r4)) rfl ⟨rfl, put5B HB.out (by omega) _ _ _ _ _⟩
set_option maxHeartbeats 4000000 in
set_option maxRecDepth 100000 in
theorem listen_ext (A : Option Addr) (cap : Nat) (h0 h1 h2 h3 : Int) (w : World) (ad af : Addr) (hx : TEx w ad af) (s : ByteArray) (hs : ∀ W, Below w.heap.size w W → ∃ ad : Addr, A = some ad ∧ W.cell? ad = some (.string s)) (a b c d p : Int) (z0_ : Bool) (hr1 : ∀ W, Below w.heap.size w W → Calls Tryz.prog 22 #[.string s] W fun e w' => e = .returned (.tuple #[.agg #[.int .u8 a, .int .u8 b, .int .u8 c, .int .u8 d, .int .i64 p], .bool z0_]) ∧ Below W.heap.size W w') (q : Int) (z : Bool) (hr2 : ∀ W, Below w.heap.size w W → Calls Tryz.prog 23 #[.string s] W fun e w' => e = .returned (.tuple #[.int .i64 q, .bool z]) ∧ Below W.heap.size W w') :
    Calls Tryz.prog 7 #[.string EPSV, .agg #[.int .i64 229, .slice A 1 cap], .agg #[.int .u8 h0, .int .u8 h1, .int .u8 h2, .int .u8 h3]] w fun e w' => e = .returned (endR (toldE (if z then 0 else 2) h0 h1 h2 h3 q h0 h1 h2 h3)) ∧ Below w.heap.size w w' := by
  have hmm := @run_makeMap Tryz.prog
  have HX := Aside0.mk hx
  have HR1 := Aside0.mk hr1
  have HR2 := Aside0.mk hr2
  have HS := Aside0.mk hs
  obtain ⟨⟨r0, r1, r2, r3, r4, r5⟩, hR⟩ : ∃ R, R = toldE (if z then 0 else 2) h0 h1 h2 h3 q h0 h1 h2 h3 := ⟨_, rfl⟩
  rw [← hR, endR_mk]
  have HRR := Aside0.mk hR.symm
  have HAT : Aside0 ((if true then Value.tuple #[(MapLaw.at_ EPSV (MapLaw.put EPSV (.int .i64 229) (MapLaw.put PASV (.int .i64 227) []))).getD (.int .i64 0), .bool (MapLaw.at_ EPSV (MapLaw.put EPSV (.int .i64 229) (MapLaw.put PASV (.int .i64 227) []))).isSome] else (MapLaw.at_ EPSV (MapLaw.put EPSV (.int .i64 229) (MapLaw.put PASV (.int .i64 227) []))).getD (.int .i64 0)) = Value.tuple #[.int .i64 229, .bool true]) := ⟨by rw [HC0]; rfl⟩
  have hA : ∃ ad0, A = some ad0 := by obtain ⟨ad0, e, _⟩ := hs w (Below.refl _ _); exact ⟨ad0, e⟩
  obtain ⟨ad0, rfl⟩ := hA
  have HC := Aside0.mk (show ∀ W, Below w.heap.size w W → W.cell? ad0 = some (.string s) from fun W hW => by obtain ⟨ad1, e, h⟩ := HS.out W hW; cases e; exact h)
  clear hx hr1 hs hR HS hr2
  go_enter Tryz.func7, Tryz.ntmps7
  have hpe : (EPSV.toList == [69, 80, 83, 86]) = true := by decide +kernel
  go_wp2_with (first
    | ((with_reducible refine MapLaw.gate_insert _ _ _ _ _ rfl ?_)
       refine MapLaw.wp_insert _ rfl _ _ _ 51 3 rfl keyS Tryz.underlying51 rfl (made3 w _ _ _) PASV rfl (.int .i64 227) rfl ?_
       intro w1 hm1 hg1
       have HM1 := Aside0.mk hm1
       have HL1 := Aside0.mk (((LF.start w 229 (.slice (some ad0) 1 cap) h0 h1 h2 h3).step ((Below.refl _ _).alloc (Nat.le_refl _) _)).grown (Nat.le_refl _) hg1)
       clear hm1 hg1 hmm)
    | ((with_reducible refine MapLaw.gate_insert _ _ _ _ _ rfl ?_)
       refine MapLaw.wp_insert _ rfl _ _ _ 51 3 rfl keyS Tryz.underlying51 rfl HM1.out EPSV rfl (.int .i64 229) rfl ?_
       intro w2 hm2 hg2
       have HM2 := Aside0.mk hm2
       have HL := Aside0.mk (HL1.out.grown (Nat.le_refl _) hg2)
       clear hm2 hg2 HM1 HL1)
    | (at_lookup; refine MapLaw.wp_lookup _ rfl _ _ 51 3 true rfl keyS Tryz.underlying51 (zeroI _) rfl HM2.out EPSV rfl ?_; rw [HAT.out]; obtain ⟨c0, c1⟩ := HL.out.facts; have s0 := HC.out _ HL.out.bel; obtain ⟨q0, q1, q2, q3⟩ := host_facts HL.out.host; obtain ⟨x0, x1, x2, x3, x4, u0, u1, u2, u3, u4⟩ := endCells_facts HL.out.res)
    | (go_at_call 22; refine (HR1.out _ HL.out.bel).mono ?_; rintro e w5 ⟨rfl, hb5⟩; have HG := Aside0.mk (HL.out.step hb5); have HSZ := Aside0.mk (show w.heap.size + 4 ≤ w5.heap.size from Nat.le_trans HM2.out.lt hb5.size); clear hb5 c0 c1 s0 q0 q1 q2 q3 x0 x1 x2 x3 x4 u0 u1 u2 u3 u4; have HA := fun o => HG.out.step ((Below.refl w5.heap.size w5).alloc (Nat.le_refl _) o); have c1a : ∀ o, (w5.alloc o).cell? ⟨w.heap.size, 1, none⟩ = some (.slice (some ad0) 1 cap) := fun o => (HA o).facts.2; have s0a : ∀ o, (w5.alloc o).cell? ad0 = some (.string s) := fun o => HC.out _ (HA o).bel; have q0a : ∀ o, (w5.alloc o).cell? ⟨w.heap.size + 1, 0, none⟩ = some (.int .u8 h0) := fun o => (host_facts (HA o).host).1; have q1a : ∀ o, (w5.alloc o).cell? ⟨w.heap.size + 1, 1, none⟩ = some (.int .u8 h1) := fun o => (host_facts (HA o).host).2.1; have q2a : ∀ o, (w5.alloc o).cell? ⟨w.heap.size + 1, 2, none⟩ = some (.int .u8 h2) := fun o => (host_facts (HA o).host).2.2.1; have q3a : ∀ o, (w5.alloc o).cell? ⟨w.heap.size + 1, 3, none⟩ = some (.int .u8 h3) := fun o => (host_facts (HA o).host).2.2.2; clear HA)
    | (go_at_call 23; refine (HR2.out _ (HG.out.bel.alloc HG.out.bel.size _)).mono ?_; rintro e w6 ⟨rfl, hb6⟩; have HM0 := Aside0.mk ((HG.out.read HSZ.out h0 h1 h2 h3 p).step hb6); clear hb6 c1a s0a q0a q1a q2a q3a; obtain ⟨m0, m1, m2, m3, m4, n0, n1, n2, n3, n4⟩ := endCells_facts HM0.out.src))
  refine wp_at (fun W => LM w W w5.heap.size 229 (.slice (some ad0) 1 cap) h0 h1 h2 h3 q h0 h1 h2 h3) (HM0.out.put1 q) (fun W0 hR0 => ?_)
  have HM := Aside0.mk hR0
  clear hR0 hpe
  obtain ⟨m, hm⟩ : ∃ m, m = w5.heap.size := ⟨_, rfl⟩
  rw [← hm] at HM ⊢
  clear hm HM0 m0 m1 m2 m3 m4 n0 n1 n2 n3 n4
  obtain ⟨z0, z1, z2, z3, z4, y0, y1, y2, y3, y4⟩ := endCells_facts HM.out.src
  obtain ⟨q0, q1, q2, q3⟩ := host_facts HM.out.lf.host
  go_region_with (first
    | (go_at_call 16; with_reducible refine (unless_calls _ 2 (fun _ => by decide) ad af _ (HX.out.below HM.out.lf.bel.drew)).mono ?_; rintro e w9 ⟨x9, rfl, hx9, hb9⟩; have HN := Aside0.mk ((HM.out.step (Below.refl _ _).drew).step hb9); have HK := Aside0.mk (And.intro HN.out.lf hx9); clear hx9 hb9; obtain ⟨g0, g1, g2, g3⟩ := host_facts HK.out.1.host; obtain ⟨e0, e1, e2, e3, e4, _, _, _, _, _⟩ := endCells_facts HN.out.src)
    | (go_at_call 18; with_reducible refine (told_calls _ _ _ _ _ _ _ _ _ _ _ _ ad af (HX.out.below HK.out.1.bel) HK.out.2).mono ?_; rintro e w3 ⟨rfl, hb3⟩; have HB := Aside0.mk (HK.out.1.bel.trans (hb3.mono HK.out.1.bel.size)); have HZ := Aside0.mk (blk_below HK.out.1.res hb3); rw [HRR.out, endR_mk]; clear hb3; obtain ⟨p0, p1, p2, p3, p4, o0, o1, o2, o3, o4⟩ := endCells_facts HZ.out))
  all_goals
    go_wp2
    try simp only [Exit.inBlock, Exit.then]
    exact bodyPost_ret (res_end _ 6 7 rfl _ _ (w.heap.size + 1 + 1) r0 r1 r2 r3 r4 (.int .i64 r5) rfl rfl (put5 HZ.out r0 r1 r2 r3 r4)) rfl ⟨rfl, put5B HB.out (by omega) _ _ _ _ _⟩
end Go.Proofs.YtdcbkeihgbekdaaGreatDoor.Turn

namespace Go.Proofs.YtdcbkeihgbekdaaGreatDoor.Six
open Go Go.RowKit Go.Proofs.YtdcbkeihgbekdaaGreatDoorW.PrintWords Go.Proofs.YtdcbkeihgbekdaaGreatDoorW.PrintLast Go.Proofs.YtdcbkeihgbekdaaGreatDoorW.PrintMore Go.Proofs.YtdcbkeihgbekdaaGreatDoor.Dig Go.Proofs.YtdcbkeihgbekdaaGreatDoor.Quad Go.Proofs.YtdcbkeihgbekdaaGreatDoor.SixP
set_option linter.unusedVariables false
set_option linter.unusedSimpArgs false

theorem info5 : (Tryz.prog.info? 5).map (fun i => (i.zero, i.size, i.bytes)) = some (some (.int .u8 0), 1, 1) := by kernel_rfl
/-- What Text hands back. -/
def textR (a b c d : Nat) (p : Int) : Value := if p < 0 ∨ 65535 < p then .tuple #[str [], .bool false] else .tuple #[str (sixU a b c d p.toNat), .bool true]
def endV (a b c d : Nat) (p : Int) : Value := .agg #[.int .u8 a, .int .u8 b, .int .u8 c, .int .u8 d, .int .i64 p]
set_option maxHeartbeats 2000000 in
set_option maxRecDepth 100000 in
theorem text_calls (a b c d : Nat) (p : Int) (ha : a < 256) (hb : b < 256) (hc : c < 256) (hd : d < 256) (w : World) :
    Calls Tryz.prog 26 #[endV a b c d p] w fun e w' => e = .returned (textR a b c d p) ∧ Below w.heap.size w w' := by
  unfold endV
  by_cases h0 : p < 0
  · have h0' := decide_eq_true h0
    have HF := Aside0.mk (show textR a b c d p = .tuple #[str [], .bool false] from if_pos (.inl h0))
    clear h0
    go_enter Tryz.func26, Tryz.ntmps26
    go_wp2
    go_ret2
    exact ⟨by rw [HF.out]; rfl, (Below.refl _ _).alloc (Nat.le_refl _) _⟩
  · have h0' := decide_eq_false h0
    by_cases h1 : 65535 < p
    · have h1' := decide_eq_true h1
      have HF := Aside0.mk (show textR a b c d p = .tuple #[str [], .bool false] from if_pos (.inr h1))
      clear h0 h1
      go_enter Tryz.func26, Tryz.ntmps26
      go_wp2
      go_ret2
      exact ⟨by rw [HF.out]; rfl, (Below.refl _ _).alloc (Nat.le_refl _) _⟩
    · obtain ⟨n, rfl⟩ : ∃ n : Nat, p = n := ⟨p.toNat, by omega⟩
      have h1' := decide_eq_false h1
      have HF := Aside0.mk (show textR a b c d n = .tuple #[str (sixU a b c d n), .bool true] from by rw [textR, if_neg (by omega)]; rfl)
      obtain ⟨hi, hhi⟩ : ∃ hi : Nat, hi = n / 256 := ⟨_, rfl⟩
      obtain ⟨lo, hlo⟩ : ∃ lo : Nat, lo = n % 256 := ⟨_, rfl⟩
      have HN := Aside0.mk (show hi = n / 256 ∧ lo = n % 256 ∧ hi < 256 ∧ lo < 256 from by omega)
      obtain ⟨i0, hi0, hz0, hz1, hz2⟩ := info_parts info9
      have HI := Aside0.mk (And.intro hi0 (And.intro hz0 (And.intro hz1 hz2)))
      obtain ⟨i5, hi5, hy0, hy1, hy2⟩ := info_parts info5
      have HI5 := Aside0.mk (And.intro hi5 (And.intro hy0 (And.intro hy1 hy2)))
      have HABCD := Aside0.mk (And.intro ha (And.intro hb (And.intro hc hd)))
      clear h0 h1 hi0 hz0 hz1 hz2 hi5 hy0 hy1 hy2 ha hb hc hd hhi hlo
      go_enter Tryz.func26, Tryz.ntmps26
      go_wp2
      obtain ⟨W0, hW0⟩ : ∃ W0, W0 = w.alloc (.cells #[.int .u8 a, .int .u8 b, .int .u8 c, .int .u8 d, .int .i64 n] 30) := ⟨_, rfl⟩
      have HW := Aside0.mk (show Below w.heap.size w W0 ∧ W0.heap[w.heap.size]? = some (.cells #[.int .u8 a, .int .u8 b, .int .u8 c, .int .u8 d, .int .i64 n] 30 (0, 0)) from by
        rw [hW0]; exact ⟨(Below.refl _ _).alloc (Nat.le_refl _) _, blk_new _ _⟩)
      rw [← hW0]
      clear hW0
      have c4 : W0.cell? ⟨w.heap.size, 4, none⟩ = some (.int .i64 n) := (blk_cell HW.out.2 4).trans rfl
      have hw1 : IntKind.u8.wrap ((n : Int) / 256) = (hi : Int) := by have := HN.out; simp [IntKind.wrap, IntKind.bits, IntKind.signed]; omega
      have hw2 : IntKind.u8.wrap (n : Int) = (lo : Int) := by have := HN.out; simp [IntKind.wrap, IntKind.bits, IntKind.signed]; omega
      obtain ⟨ds, hds⟩ : ∃ ds : List Nat, ds = [a, b, c, d, hi, lo] := ⟨_, rfl⟩
      have HDS := Aside0.mk hds
      clear hds
      have HC0 := Aside0.mk (show ∀ W : World, Below (w.heap.size + 1) W0 W → ∀ (j : Nat) (u : Value), [Value.int .u8 a, .int .u8 b, .int .u8 c, .int .u8 d][j]? = some u → W.cell? ((⟨w.heap.size, 0, none⟩ : Addr).add j) = some u from fun W hW j u hj => by
        rw [add_plain, hW.cell (show w.heap.size < w.heap.size + 1 from Nat.lt_succ_self _), blk_cell HW.out.2]
        have hj4 := (List.getElem?_eq_some_iff.1 hj).1
        simp only [List.length_cons, List.length_nil] at hj4
        obtain rfl | rfl | rfl | rfl : j = 0 ∨ j = 1 ∨ j = 2 ∨ j = 3 := by omega
        all_goals exact hj)
      have HS0 := Aside0.mk (show w.heap.size + 1 ≤ W0.heap.size from by have := blk_lt HW.out.2; omega)
      go_region_law (refine step_append_grows rfl (.tmp 16) (.tmp 24) 79 rfl 5 i5 (.int .u8 0) 1 1 Tryz.underlying79 HI5.out.1 HI5.out.2.1 HI5.out.2.2.1 HI5.out.2.2.2 rfl (by decide) (some ⟨w.heap.size, 0, none⟩) 4 4 [.int .u8 a, .int .u8 b, .int .u8 c, .int .u8 d] (by simp [Act.eval, Act.put]) (fun h => by cases h) rfl (fun b' hb' j u hj => by cases hb'; first | exact HC0.out _ (((Below.refl _ _).alloc HS0.out _).drew) j u hj | exact HC0.out _ (((Below.refl _ _).drew).alloc HS0.out _) j u hj) ⟨W0.heap.size, 0, none⟩ 2 2 [.int .u8 hi, .int .u8 lo] (by simp [Act.eval, Act.put]) rfl (fun j u hj => Laws.new_cells W0 [.int .u8 hi, .int .u8 lo] _ _ rfl j u hj) (fun u hu => by simp at hu; rcases hu with rfl | rfl <;> rfl) (by decide) (by decide) (by decide) ?_; intro v6 w6 ho6 hg6; obtain ⟨q6, c6, e6, hc6, hb6, hl6, hx6⟩ := Laws.own_cells ho6 (by decide); subst e6; have HB6 := Aside0.mk (show Below w.heap.size w w6 from HW.out.1.trans ((((Below.refl w.heap.size W0).alloc HW.out.1.size _).drew).grown hg6 (Nat.le_trans HW.out.1.size (by simp)) (fun k h => by cases h))); have HX6 := Aside0.mk (And.intro hl6 hx6); clear ho6 hg6 hc6 hb6 hl6 hx6)
      all_goals
        simp only [List.getElem_toArray, List.getElem_cons_succ, List.getElem_cons_zero, Act.put, Array.set!, List.setIfInBounds_toArray, List.set_cons_succ, List.set_cons_zero]
        go_wp2
        go_loopw [4, 27] (fun v i wr => ∃ k : Nat, k ≤ 6 ∧ i = .int .i64 k ∧ Aside0 (wr.ownsRow w6.heap.size 9 1 v k ((ds.take k).map fun x => str (digU x))) ∧ Aside0 (Below w6.heap.size w6 wr)) (fun _ i _ => 6 - (intOf i).toNat)
        case atStart => exact ⟨0, Nat.zero_le _, rfl, ⟨own_nil _ _ _ _⟩, ⟨Below.refl _ _⟩⟩
        case round =>
          obtain ⟨k, hk, rfl, HO, HB⟩ := hrel
          by_cases hlt : k < 6
          · have hkd : k < ds.length := by rw [HDS.out]; exact hlt
            obtain ⟨x, hx⟩ : ∃ x, x = ds[k] := ⟨_, rfl⟩
            have hx256 : x < 256 := by
              have hm : x ∈ ds := by rw [hx]; exact List.getElem_mem _
              rw [HDS.out] at hm
              have h1 := HABCD.out; have h2 := HN.out
              simp only [List.mem_cons, List.not_mem_nil, or_false] at hm
              rcases hm with rfl | rfl | rfl | rfl | rfl | rfl <;> omega
            have hcell : wr.cell? ⟨q6, k, none⟩ = some (.int .u8 x) := by
              rw [HB.out.cell HX6.out.1]
              have := HX6.out.2 k (.int .u8 x) (by
                have h3 : (ds.map fun n : Nat => Value.int .u8 (n : Int))[k]? = some (.int .u8 x) := by rw [List.getElem?_map, List.getElem?_eq_getElem hkd, ← hx]; rfl
                rw [HDS.out] at h3; exact h3)
              rwa [Nat.zero_add] at this
            have hcv : IntKind.i64.wrap (x : Int) = (x : Int) := by simp [IntKind.wrap, IntKind.bits, IntKind.signed]; omega
            have HV := Aside0.mk hx256
            have HNX := Aside0.mk (show (ds.take (k + 1)).map (fun x => str (digU x)) = (ds.take k).map (fun x => str (digU x)) ++ [str (digU x)] from by
              rw [List.take_succ_eq_append_getElem hkd, List.map_append, ← hx]; rfl)
            have HS := Aside0.mk HB.out.size
            clear hx hx256 hkd
            go_wp2_with (first
              | (go_at_call 49; refine (num_calls' x HV.out _).mono ?_; rintro e w1 ⟨rfl, hb1⟩; have HB1 := Aside0.mk (HB.out.trans (hb1.mono HS.out)); have HO1 := Aside0.mk (own_move HO.out (fun j hj => hb1.block j (own_lt HO.out j hj))); clear hb1)
              | ((with_reducible refine Laws.gate 36 rfl ?_); refine Laws.append_any rfl (.tmp 31) (.tmp 35) 24 rfl w6.heap.size 9 i0 (.string ⟨#[]⟩) 1 16 Tryz.underlying24 HI.out.1 HI.out.2.1 HI.out.2.2.1 HI.out.2.2.2 rfl (by decide) _ _ _ rfl (HO1.out.alloc _) (some ⟨w1.heap.size, 0, none⟩) 1 1 [str (digU x)] rfl rfl (fun _ => ⟨_, rfl, Laws.new_cells w1 _ _ _ rfl⟩) (fun u hu => by simp at hu; subst hu; rfl) (by simp only [maxLen]; omega) (by omega) (Nat.le_trans HB1.out.size (by simp)) ?_; intro v7 w7 ho7 hg7 _ _; have HO7 := Aside0.mk (show w7.ownsRow w6.heap.size 9 1 v7 (k + 1) ((ds.take (k + 1)).map fun x => str (digU x)) from by rw [HNX.out]; exact ho7); have HB7 := Aside0.mk (show Below w6.heap.size w6 w7 from ((HB1.out.alloc HB1.out.size _).grown hg7 (Nat.le_trans HB1.out.size (by simp)) (fun k h => Laws.own_ge HO1.out k h))); clear ho7 hg7))
            go_roundw
            case rel => exact ⟨k + 1, by omega, by go_num, HO7, HB7⟩
            case measure => simp [intOf]; omega
          · obtain rfl : k = 6 := by omega
            have hlast : (ds.take 6).map (fun x => str (digU x)) = ([digU a, digU b, digU c, digU d, digU hi, digU lo] : List (List UInt8)).map str := by rw [HDS.out]; rfl
            have hlies : Row.Lies wr w6.heap.size 9 u4 (([digU a, digU b, digU c, digU d, digU hi, digU lo] : List (List UInt8)).map str) := by
              have := HO.out; rw [hlast] at this; exact .inl this
            have htot : tot ([digU a, digU b, digU c, digU d, digU hi, digU lo] : List (List UInt8)) ≤ 100000000 := by
              have hll : ∀ n : Nat, n < 256 → (digU n).length ≤ 3 := fun n hn => by rw [digU_len]; exact dig_len 2 n (by omega)
              have h1 := HABCD.out; have h2 := HN.out
              have := hll a (by omega); have := hll b (by omega); have := hll c (by omega); have := hll d (by omega); have := hll hi (by omega); have := hll lo (by omega)
              simp only [tot]; omega
            have HJ := Aside0.mk (And.intro hlies htot)
            have HE := Aside0.mk (show Cut.jn 44 [digU a, digU b, digU c, digU d, digU hi, digU lo] = sixU a b c d n from by rw [sixU, ← HN.out.1, ← HN.out.2.1])
            clear hlies htot hlast
            go_wp2_with (go_at_call 50; refine (join_lies 44 _ _ _ _ HJ.out.1 HJ.out.2).mono ?_; rw [HE.out]; rintro e w8 ⟨rfl, hb8⟩; have HB8 := Aside0.mk ((HB6.out.trans (HB.out.mono HB6.out.size)).trans (hb8.mono (HB6.out.trans (HB.out.mono HB6.out.size)).size)); clear hb8)
            go_ret2
            exact ⟨by rw [HF.out]; rfl, HB8.out⟩
end Go.Proofs.YtdcbkeihgbekdaaGreatDoor.Six

namespace Go.Proofs.YtdcbkeihgbekdaaGreatDoor.Six
open Go Go.RowKit Go.Proofs.YtdcbkeihgbekdaaGreatDoorW.PrintWords Go.Proofs.YtdcbkeihgbekdaaGreatDoorW.PrintLast Go.Proofs.YtdcbkeihgbekdaaGreatDoorW.PrintMore Go.Proofs.YtdcbkeihgbekdaaGreatDoor.Dig Go.Proofs.YtdcbkeihgbekdaaGreatDoor.Quad Go.Proofs.YtdcbkeihgbekdaaGreatDoor.SixP
set_option linter.unusedVariables false
set_option linter.unusedSimpArgs false

/-- What Read hands back. -/
def readR : Option (Nat × Nat × Nat × Nat × Nat) → Value
  | some (a, b, c, d, p) => .tuple #[endV a b c d p, .bool true]
  | none => .tuple #[endV 0 0 0 0 0, .bool false]

set_option maxRecDepth 100000 in
theorem eq_end (a b c d p a' b' c' d' p' : Int) (W : World) : (Op.equalIn 10000 30 (.agg #[.int .u8 a, .int .u8 b, .int .u8 c, .int .u8 d, .int .i64 p]) (.agg #[.int .u8 a', .int .u8 b', .int .u8 c', .int .u8 d', .int .i64 p'])).run Tryz.prog W = .ok ((a == a' && (b == b' && (c == c' && d == d'))) && p == p') W :=
  eqA_of (d := 9999) Tryz.underlying30 (by kernel_rfl)
    (eqf_cons rfl (show _ = Result.ok (.agg #[.int .u8 a, .int .u8 b, .int .u8 c, .int .u8 d]) W from rfl) (show _ = Result.ok (.agg #[.int .u8 a', .int .u8 b', .int .u8 c', .int .u8 d']) W from rfl) (eq_host' 9997 a b c d a' b' c' d' W)
      (eqf_last rfl (show _ = Result.ok (.int .i64 p) W from rfl) (show _ = Result.ok (.int .i64 p') W from rfl) (run_equalIn_int W 9998 3 .i64 .i64 p p' Tryz.underlying3)))

theorem wraps_i64 (n : Int) (h₀ : 0 ≤ n) (h₁ : n < 2 ^ 31) : IntKind.i64.wrap n = n := by rw [IntKind.wrap_i64]; omega
theorem or8 (x y : Nat) (hx : x < 256) (hy : y < 256) : bits .or .i64 ((x : Int) * 256) (y : Int) = ((256 * x + y : Nat) : Int) := by
  have h := bits_join .i64 31 (by decide) wraps_i64 8 ((x : Int) * 256) (y : Int) (by omega) (by omega) (by omega) (by omega) (by omega) (by omega)
  rw [h]; omega
theorem or0 (y : Nat) (hy : y < 256) : bits .or .i64 0 (y : Int) = (y : Int) := by
  have := or8 0 y (by decide) hy
  simpa using this

theorem res_read (tmps : Array Value) (W : World) (H : Nat) (a b c d p : Int) (t : Bool) (h2 : tmps.getD 2 undef = .pointer (some ⟨H, 0, none⟩)) (h3 : tmps.getD 3 undef = .bool t) (hh : W.heap[H]? = some (.cells #[.int .u8 a, .int .u8 b, .int .u8 c, .int .u8 d, .int .i64 p] 30 (0, 0))) :
   (results Tryz.f15 tmps).run Tryz.prog W = .ok (.tuple #[.agg #[.int .u8 a, .int .u8 b, .int .u8 c, .int .u8 d, .int .i64 p], .bool t]) W := by
  have c0 : W.cell? ⟨H, 0, none⟩ = some (.int .u8 a) := (blk_cell hh 0).trans rfl
  have c1 : W.cell? ⟨H, 1, none⟩ = some (.int .u8 b) := (blk_cell hh 1).trans rfl
  have c2 : W.cell? ⟨H, 2, none⟩ = some (.int .u8 c) := (blk_cell hh 2).trans rfl
  have c3 : W.cell? ⟨H, 3, none⟩ = some (.int .u8 d) := (blk_cell hh 3).trans rfl
  have c4 : W.cell? ⟨H, 4, none⟩ = some (.int .i64 p) := (blk_cell hh 4).trans rfl
  rw [Array.getD_eq_getD_getElem?] at h2 h3
  simp [results, show Tryz.f15.results = #[.cell 2 30, .tmp 3] from rfl, h2, h3, go_sem, c0, c1, c2, c3, c4]

theorem six_none0 {p q r s t u : List UInt8} (h : get255 p = none) : six p q r s t u = none := by
  rw [six, h]; rfl
theorem six_none1 {p q r s t u : List UInt8} (h : get255 q = none) : six p q r s t u = none := by
  rw [six, h]; cases get255 p <;> rfl
theorem six_none2 {p q r s t u : List UInt8} (h : get255 r = none) : six p q r s t u = none := by
  rw [six, h]; cases get255 p <;> cases get255 q <;> rfl
theorem six_none3 {p q r s t u : List UInt8} (h : get255 s = none) : six p q r s t u = none := by
  rw [six, h]; cases get255 p <;> cases get255 q <;> cases get255 r <;> rfl
theorem six_none4 {p q r s t u : List UInt8} (h : get255 t = none) : six p q r s t u = none := by
  rw [six, h]; cases get255 p <;> cases get255 q <;> cases get255 r <;> cases get255 s <;> rfl
theorem six_none5 {p q r s t u : List UInt8} (h : get255 u = none) : six p q r s t u = none := by
  rw [six, h]; cases get255 p <;> cases get255 q <;> cases get255 r <;> cases get255 s <;> cases get255 t <;> rfl

set_option maxHeartbeats 4000000 in
set_option maxRecDepth 100000 in
theorem read_calls (s : ByteArray) (hs : s.size < 4294967281) (w : World) (hm : Mx w) :
    Calls Tryz.prog 15 #[.string s] w fun e w' => e = .returned (readR (readSix s.data.toList)) ∧ Below w.heap.size w w' := by
  obtain ⟨R, hR⟩ : ∃ R, R = readR (readSix s.data.toList) := ⟨_, rfl⟩
  rw [← hR]
  obtain ⟨ps, hps, hsp⟩ := split_calls 44 s hs
  have HSP := Aside0.mk hsp
  have HM := Aside0.mk hm
  have HRR := Aside0.mk hR
  clear hsp hm hR
  by_cases hl : ps.length = 6
  · obtain ⟨p0, p1, p2, p3, p4, p5, rfl⟩ : ∃ p0 p1 p2 p3 p4 p5, ps = [p0, p1, p2, p3, p4, p5] := by
      match ps, hl with
      | [p0, p1, p2, p3, p4, p5], _ => exact ⟨p0, p1, p2, p3, p4, p5, rfl⟩
    have HR := Aside0.mk (show R = readR (six p0.data.toList p1.data.toList p2.data.toList p3.data.toList p4.data.toList p5.data.toList) from by rw [HRR.out, readSix, ← hps]; rfl)
    clear hl
    have hpsx := Aside0.mk hps
    go_enter Tryz.func15, Tryz.ntmps15
    go_wp2
    go_step3
    go_wp2_with (go_at_call 34; refine (HSP.out _ (HM.out.below ((Below.refl _ _).alloc (Nat.le_refl _) _))).mono ?_; rintro e w1 ⟨rfl, rfl⟩)
    go_step3
    go_wp2
    go_loopw [18] (fun i wr => ∃ k : Nat, k ≤ 6 ∧ i = .int .i64 k ∧ ∃ vs : List Nat, vs.length = k ∧ Aside0 (([p0, p1, p2, p3, p4, p5].take k).map (fun p => get255 p.data.toList) = vs.map some) ∧
      Aside0 (wr.heap[w.heap.size]? = some (.cells (((vs.take 4).map (fun v => Value.int .u8 (v : Nat)) ++ List.replicate (4 - k) (Value.int .u8 0)) ++ [Value.int .i64 (match vs.drop 4 with | [] => (0 : Nat) | [e] => (e : Nat) | e :: f :: _ => (256 * e + f : Nat))]).toArray 30 (0, 0))) ∧
      Aside0 (wr.heap[w.heap.size + 1]? = some (.cells #[.string p0, .string p1, .string p2, .string p3, .string p4, .string p5] 9 (0, 0))) ∧ Aside0 (Below w.heap.size w wr)) (fun i _ => 6 - (intOf i).toNat)
    case atStart => exact ⟨0, Nat.zero_le _, rfl, [], rfl, ⟨rfl⟩, ⟨by have := blk_alloc (blk_new w (.cells #[.int .u8 0, .int .u8 0, .int .u8 0, .int .u8 0, .int .i64 0] 30)) (.cells ([p0, p1, p2, p3, p4, p5].map Value.string).toArray 9); exact this⟩, ⟨by have := blk_new (w.alloc (.cells #[.int .u8 0, .int .u8 0, .int .u8 0, .int .u8 0, .int .i64 0] 30)) (.cells ([p0, p1, p2, p3, p4, p5].map Value.string).toArray 9); simpa using this⟩, ⟨((Below.refl _ _).alloc (Nat.le_refl _) _).alloc (by simp) _⟩⟩
    case round =>
      obtain ⟨k, hk, rfl, vs, hvl, HV, HH, HG, HB⟩ := hrel
      obtain rfl | rfl | rfl | rfl | rfl | rfl | rfl : k = 0 ∨ k = 1 ∨ k = 2 ∨ k = 3 ∨ k = 4 ∨ k = 5 ∨ k = 6 := by omega
      · obtain rfl : vs = [] := by
          match vs, hvl with
          | [], _ => exact rfl
        have HH2 : Aside0 (wr.heap[w.heap.size]? = some (.cells #[.int .u8 0, .int .u8 0, .int .u8 0, .int .u8 0, .int .i64 0] 30 (0, 0))) := HH
        have f0 := blk_frozen HH2.out 0
        have c0 : wr.cell? ⟨w.heap.size, 0, none⟩ = some (.int .u8 0) := (blk_cell HH2.out 0).trans rfl
        have f1 := blk_frozen HH2.out 1
        have c1 : wr.cell? ⟨w.heap.size, 1, none⟩ = some (.int .u8 0) := (blk_cell HH2.out 1).trans rfl
        have f2 := blk_frozen HH2.out 2
        have c2 : wr.cell? ⟨w.heap.size, 2, none⟩ = some (.int .u8 0) := (blk_cell HH2.out 2).trans rfl
        have f3 := blk_frozen HH2.out 3
        have c3 : wr.cell? ⟨w.heap.size, 3, none⟩ = some (.int .u8 0) := (blk_cell HH2.out 3).trans rfl
        have f4 := blk_frozen HH2.out 4
        have c4 : wr.cell? ⟨w.heap.size, 4, none⟩ = some (.int .i64 0) := (blk_cell HH2.out 4).trans rfl
        have hc : wr.cell? ⟨w.heap.size + 1, 0, none⟩ = some (.string p0) := (blk_cell HG.out 0).trans rfl
        cases hg : get255 p0.data.toList with
        | none =>
          have hgg : get p0.data.toList 255 = (0, false) := by rw [get255_get, hg]
          have HF := Aside0.mk (show R = readR none from by rw [HR.out, six_none0 hg])
          clear hg hvl hk hps
          go_wp2_with (go_at_call 35; refine (get_calls _ _ _).mono ?_; rintro e w1 ⟨rfl, rfl⟩; rw [hgg])
          try rw [Exit.noGoto_ret]
          try simp only [Exit.inBlock, Exit.then]
          refine bodyPost_ret (res_read _ _ w.heap.size 0 0 0 0 0 false rfl rfl (blk_put (blk_put (blk_put (blk_put (blk_put HH2.out 0 _ rfl) 1 _ rfl) 2 _ rfl) 3 _ rfl) 4 _ rfl)) rfl ⟨?_, ?_⟩
          · first | (rw [HF.out]; rfl) | rfl
          · exact ((((HB.out.setCell (Nat.le_refl _) _).setCell (Nat.le_refl _) _).setCell (Nat.le_refl _) _).setCell (Nat.le_refl _) _).setCell (Nat.le_refl _) _
        | some n =>
          have hgg : get p0.data.toList 255 = ((n : Int), true) := by rw [get255_get, hg]
          have hn : n ≤ 255 := ((get255_iff _ _).1 hg).2
          have hcv : IntKind.u8.wrap (n : Int) = (n : Int) := by simp [IntKind.wrap, IntKind.bits, IntKind.signed]; omega
          have HGG := Aside0.mk hg
          clear hg hvl hk hps hn
          go_wp2_with (go_at_call 35; refine (get_calls _ _ _).mono ?_; rintro e w1 ⟨rfl, rfl⟩; rw [hgg])
          go_roundw
          case rel => exact ⟨0 + 1, by omega, by first | rfl | go_num, [] ++ [n], rfl, ⟨by have h := HV.out; have hg := HGG.out; simp only [List.take_succ_cons, List.take_zero, List.map_cons, List.map_nil, List.cons_append, List.nil_append, List.cons.injEq, and_true, true_and] at h ⊢; exact hg⟩, ⟨blk_put HH2.out 0 _ rfl⟩, ⟨blk_far HG.out (by simp) _⟩, ⟨HB.out.setCell (Nat.le_refl _) _⟩⟩
          case measure => simp [intOf]
      · obtain ⟨a, rfl⟩ : ∃ a, vs = [a] := by
          match vs, hvl with
          | [a], _ => exact ⟨a, rfl⟩
        have HH2 : Aside0 (wr.heap[w.heap.size]? = some (.cells #[.int .u8 (a : Nat), .int .u8 0, .int .u8 0, .int .u8 0, .int .i64 0] 30 (0, 0))) := HH
        have f0 := blk_frozen HH2.out 0
        have c0 : wr.cell? ⟨w.heap.size, 0, none⟩ = some (.int .u8 (a : Nat)) := (blk_cell HH2.out 0).trans rfl
        have f1 := blk_frozen HH2.out 1
        have c1 : wr.cell? ⟨w.heap.size, 1, none⟩ = some (.int .u8 0) := (blk_cell HH2.out 1).trans rfl
        have f2 := blk_frozen HH2.out 2
        have c2 : wr.cell? ⟨w.heap.size, 2, none⟩ = some (.int .u8 0) := (blk_cell HH2.out 2).trans rfl
        have f3 := blk_frozen HH2.out 3
        have c3 : wr.cell? ⟨w.heap.size, 3, none⟩ = some (.int .u8 0) := (blk_cell HH2.out 3).trans rfl
        have f4 := blk_frozen HH2.out 4
        have c4 : wr.cell? ⟨w.heap.size, 4, none⟩ = some (.int .i64 0) := (blk_cell HH2.out 4).trans rfl
        have hc : wr.cell? ⟨w.heap.size + 1, 1, none⟩ = some (.string p1) := (blk_cell HG.out 1).trans rfl
        cases hg : get255 p1.data.toList with
        | none =>
          have hgg : get p1.data.toList 255 = (0, false) := by rw [get255_get, hg]
          have HF := Aside0.mk (show R = readR none from by rw [HR.out, six_none1 hg])
          clear hg hvl hk hps
          go_wp2_with (go_at_call 35; refine (get_calls _ _ _).mono ?_; rintro e w1 ⟨rfl, rfl⟩; rw [hgg])
          try rw [Exit.noGoto_ret]
          try simp only [Exit.inBlock, Exit.then]
          refine bodyPost_ret (res_read _ _ w.heap.size 0 0 0 0 0 false rfl rfl (blk_put (blk_put (blk_put (blk_put (blk_put HH2.out 0 _ rfl) 1 _ rfl) 2 _ rfl) 3 _ rfl) 4 _ rfl)) rfl ⟨?_, ?_⟩
          · first | (rw [HF.out]; rfl) | rfl
          · exact ((((HB.out.setCell (Nat.le_refl _) _).setCell (Nat.le_refl _) _).setCell (Nat.le_refl _) _).setCell (Nat.le_refl _) _).setCell (Nat.le_refl _) _
        | some n =>
          have hgg : get p1.data.toList 255 = ((n : Int), true) := by rw [get255_get, hg]
          have hn : n ≤ 255 := ((get255_iff _ _).1 hg).2
          have hcv : IntKind.u8.wrap (n : Int) = (n : Int) := by simp [IntKind.wrap, IntKind.bits, IntKind.signed]; omega
          have HGG := Aside0.mk hg
          clear hg hvl hk hps hn
          go_wp2_with (go_at_call 35; refine (get_calls _ _ _).mono ?_; rintro e w1 ⟨rfl, rfl⟩; rw [hgg])
          go_roundw
          case rel => exact ⟨1 + 1, by omega, by first | rfl | go_num, [a] ++ [n], rfl, ⟨by have h := HV.out; have hg := HGG.out; simp only [List.take_succ_cons, List.take_zero, List.map_cons, List.map_nil, List.cons_append, List.nil_append, List.cons.injEq, and_true, true_and] at h ⊢; exact ⟨h, hg⟩⟩, ⟨blk_put HH2.out 1 _ rfl⟩, ⟨blk_far HG.out (by simp) _⟩, ⟨HB.out.setCell (Nat.le_refl _) _⟩⟩
          case measure => simp [intOf]
      · obtain ⟨a, b, rfl⟩ : ∃ a b, vs = [a, b] := by
          match vs, hvl with
          | [a, b], _ => exact ⟨a, b, rfl⟩
        have HH2 : Aside0 (wr.heap[w.heap.size]? = some (.cells #[.int .u8 (a : Nat), .int .u8 (b : Nat), .int .u8 0, .int .u8 0, .int .i64 0] 30 (0, 0))) := HH
        have f0 := blk_frozen HH2.out 0
        have c0 : wr.cell? ⟨w.heap.size, 0, none⟩ = some (.int .u8 (a : Nat)) := (blk_cell HH2.out 0).trans rfl
        have f1 := blk_frozen HH2.out 1
        have c1 : wr.cell? ⟨w.heap.size, 1, none⟩ = some (.int .u8 (b : Nat)) := (blk_cell HH2.out 1).trans rfl
        have f2 := blk_frozen HH2.out 2
        have c2 : wr.cell? ⟨w.heap.size, 2, none⟩ = some (.int .u8 0) := (blk_cell HH2.out 2).trans rfl
        have f3 := blk_frozen HH2.out 3
        have c3 : wr.cell? ⟨w.heap.size, 3, none⟩ = some (.int .u8 0) := (blk_cell HH2.out 3).trans rfl
        have f4 := blk_frozen HH2.out 4
        have c4 : wr.cell? ⟨w.heap.size, 4, none⟩ = some (.int .i64 0) := (blk_cell HH2.out 4).trans rfl
        have hc : wr.cell? ⟨w.heap.size + 1, 2, none⟩ = some (.string p2) := (blk_cell HG.out 2).trans rfl
        cases hg : get255 p2.data.toList with
        | none =>
          have hgg : get p2.data.toList 255 = (0, false) := by rw [get255_get, hg]
          have HF := Aside0.mk (show R = readR none from by rw [HR.out, six_none2 hg])
          clear hg hvl hk hps
          go_wp2_with (go_at_call 35; refine (get_calls _ _ _).mono ?_; rintro e w1 ⟨rfl, rfl⟩; rw [hgg])
          try rw [Exit.noGoto_ret]
          try simp only [Exit.inBlock, Exit.then]
          refine bodyPost_ret (res_read _ _ w.heap.size 0 0 0 0 0 false rfl rfl (blk_put (blk_put (blk_put (blk_put (blk_put HH2.out 0 _ rfl) 1 _ rfl) 2 _ rfl) 3 _ rfl) 4 _ rfl)) rfl ⟨?_, ?_⟩
          · first | (rw [HF.out]; rfl) | rfl
          · exact ((((HB.out.setCell (Nat.le_refl _) _).setCell (Nat.le_refl _) _).setCell (Nat.le_refl _) _).setCell (Nat.le_refl _) _).setCell (Nat.le_refl _) _
        | some n =>
          have hgg : get p2.data.toList 255 = ((n : Int), true) := by rw [get255_get, hg]
          have hn : n ≤ 255 := ((get255_iff _ _).1 hg).2
          have hcv : IntKind.u8.wrap (n : Int) = (n : Int) := by simp [IntKind.wrap, IntKind.bits, IntKind.signed]; omega
          have HGG := Aside0.mk hg
          clear hg hvl hk hps hn
          go_wp2_with (go_at_call 35; refine (get_calls _ _ _).mono ?_; rintro e w1 ⟨rfl, rfl⟩; rw [hgg])
          go_roundw
          case rel => exact ⟨2 + 1, by omega, by first | rfl | go_num, [a, b] ++ [n], rfl, ⟨by have h := HV.out; have hg := HGG.out; simp only [List.take_succ_cons, List.take_zero, List.map_cons, List.map_nil, List.cons_append, List.nil_append, List.cons.injEq, and_true, true_and] at h ⊢; exact ⟨h.1, h.2, hg⟩⟩, ⟨blk_put HH2.out 2 _ rfl⟩, ⟨blk_far HG.out (by simp) _⟩, ⟨HB.out.setCell (Nat.le_refl _) _⟩⟩
          case measure => simp [intOf]
      · obtain ⟨a, b, c, rfl⟩ : ∃ a b c, vs = [a, b, c] := by
          match vs, hvl with
          | [a, b, c], _ => exact ⟨a, b, c, rfl⟩
        have HH2 : Aside0 (wr.heap[w.heap.size]? = some (.cells #[.int .u8 (a : Nat), .int .u8 (b : Nat), .int .u8 (c : Nat), .int .u8 0, .int .i64 0] 30 (0, 0))) := HH
        have f0 := blk_frozen HH2.out 0
        have c0 : wr.cell? ⟨w.heap.size, 0, none⟩ = some (.int .u8 (a : Nat)) := (blk_cell HH2.out 0).trans rfl
        have f1 := blk_frozen HH2.out 1
        have c1 : wr.cell? ⟨w.heap.size, 1, none⟩ = some (.int .u8 (b : Nat)) := (blk_cell HH2.out 1).trans rfl
        have f2 := blk_frozen HH2.out 2
        have c2 : wr.cell? ⟨w.heap.size, 2, none⟩ = some (.int .u8 (c : Nat)) := (blk_cell HH2.out 2).trans rfl
        have f3 := blk_frozen HH2.out 3
        have c3 : wr.cell? ⟨w.heap.size, 3, none⟩ = some (.int .u8 0) := (blk_cell HH2.out 3).trans rfl
        have f4 := blk_frozen HH2.out 4
        have c4 : wr.cell? ⟨w.heap.size, 4, none⟩ = some (.int .i64 0) := (blk_cell HH2.out 4).trans rfl
        have hc : wr.cell? ⟨w.heap.size + 1, 3, none⟩ = some (.string p3) := (blk_cell HG.out 3).trans rfl
        cases hg : get255 p3.data.toList with
        | none =>
          have hgg : get p3.data.toList 255 = (0, false) := by rw [get255_get, hg]
          have HF := Aside0.mk (show R = readR none from by rw [HR.out, six_none3 hg])
          clear hg hvl hk hps
          go_wp2_with (go_at_call 35; refine (get_calls _ _ _).mono ?_; rintro e w1 ⟨rfl, rfl⟩; rw [hgg])
          try rw [Exit.noGoto_ret]
          try simp only [Exit.inBlock, Exit.then]
          refine bodyPost_ret (res_read _ _ w.heap.size 0 0 0 0 0 false rfl rfl (blk_put (blk_put (blk_put (blk_put (blk_put HH2.out 0 _ rfl) 1 _ rfl) 2 _ rfl) 3 _ rfl) 4 _ rfl)) rfl ⟨?_, ?_⟩
          · first | (rw [HF.out]; rfl) | rfl
          · exact ((((HB.out.setCell (Nat.le_refl _) _).setCell (Nat.le_refl _) _).setCell (Nat.le_refl _) _).setCell (Nat.le_refl _) _).setCell (Nat.le_refl _) _
        | some n =>
          have hgg : get p3.data.toList 255 = ((n : Int), true) := by rw [get255_get, hg]
          have hn : n ≤ 255 := ((get255_iff _ _).1 hg).2
          have hcv : IntKind.u8.wrap (n : Int) = (n : Int) := by simp [IntKind.wrap, IntKind.bits, IntKind.signed]; omega
          have HGG := Aside0.mk hg
          clear hg hvl hk hps hn
          go_wp2_with (go_at_call 35; refine (get_calls _ _ _).mono ?_; rintro e w1 ⟨rfl, rfl⟩; rw [hgg])
          go_roundw
          case rel => exact ⟨3 + 1, by omega, by first | rfl | go_num, [a, b, c] ++ [n], rfl, ⟨by have h := HV.out; have hg := HGG.out; simp only [List.take_succ_cons, List.take_zero, List.map_cons, List.map_nil, List.cons_append, List.nil_append, List.cons.injEq, and_true, true_and] at h ⊢; exact ⟨h.1, h.2.1, h.2.2, hg⟩⟩, ⟨blk_put HH2.out 3 _ rfl⟩, ⟨blk_far HG.out (by simp) _⟩, ⟨HB.out.setCell (Nat.le_refl _) _⟩⟩
          case measure => simp [intOf]
      · obtain ⟨a, b, c, d, rfl⟩ : ∃ a b c d, vs = [a, b, c, d] := by
          match vs, hvl with
          | [a, b, c, d], _ => exact ⟨a, b, c, d, rfl⟩
        have HH2 : Aside0 (wr.heap[w.heap.size]? = some (.cells #[.int .u8 (a : Nat), .int .u8 (b : Nat), .int .u8 (c : Nat), .int .u8 (d : Nat), .int .i64 0] 30 (0, 0))) := HH
        have f0 := blk_frozen HH2.out 0
        have c0 : wr.cell? ⟨w.heap.size, 0, none⟩ = some (.int .u8 (a : Nat)) := (blk_cell HH2.out 0).trans rfl
        have f1 := blk_frozen HH2.out 1
        have c1 : wr.cell? ⟨w.heap.size, 1, none⟩ = some (.int .u8 (b : Nat)) := (blk_cell HH2.out 1).trans rfl
        have f2 := blk_frozen HH2.out 2
        have c2 : wr.cell? ⟨w.heap.size, 2, none⟩ = some (.int .u8 (c : Nat)) := (blk_cell HH2.out 2).trans rfl
        have f3 := blk_frozen HH2.out 3
        have c3 : wr.cell? ⟨w.heap.size, 3, none⟩ = some (.int .u8 (d : Nat)) := (blk_cell HH2.out 3).trans rfl
        have f4 := blk_frozen HH2.out 4
        have c4 : wr.cell? ⟨w.heap.size, 4, none⟩ = some (.int .i64 0) := (blk_cell HH2.out 4).trans rfl
        have hc : wr.cell? ⟨w.heap.size + 1, 4, none⟩ = some (.string p4) := (blk_cell HG.out 4).trans rfl
        cases hg : get255 p4.data.toList with
        | none =>
          have hgg : get p4.data.toList 255 = (0, false) := by rw [get255_get, hg]
          have HF := Aside0.mk (show R = readR none from by rw [HR.out, six_none4 hg])
          clear hg hvl hk hps
          go_wp2_with (go_at_call 35; refine (get_calls _ _ _).mono ?_; rintro e w1 ⟨rfl, rfl⟩; rw [hgg])
          try rw [Exit.noGoto_ret]
          try simp only [Exit.inBlock, Exit.then]
          refine bodyPost_ret (res_read _ _ w.heap.size 0 0 0 0 0 false rfl rfl (blk_put (blk_put (blk_put (blk_put (blk_put HH2.out 0 _ rfl) 1 _ rfl) 2 _ rfl) 3 _ rfl) 4 _ rfl)) rfl ⟨?_, ?_⟩
          · first | (rw [HF.out]; rfl) | rfl
          · exact ((((HB.out.setCell (Nat.le_refl _) _).setCell (Nat.le_refl _) _).setCell (Nat.le_refl _) _).setCell (Nat.le_refl _) _).setCell (Nat.le_refl _) _
        | some n =>
          have hgg : get p4.data.toList 255 = ((n : Int), true) := by rw [get255_get, hg]
          have hn : n ≤ 255 := ((get255_iff _ _).1 hg).2
          have hcv : IntKind.u8.wrap (n : Int) = (n : Int) := by simp [IntKind.wrap, IntKind.bits, IntKind.signed]; omega
          have HGG := Aside0.mk hg
          have hor := or0 n (by omega)
          clear hg hvl hk hps hn
          go_wp2_with (go_at_call 35; refine (get_calls _ _ _).mono ?_; rintro e w1 ⟨rfl, rfl⟩; rw [hgg])
          go_roundw
          case rel => exact ⟨4 + 1, by omega, by first | rfl | go_num, [a, b, c, d] ++ [n], rfl, ⟨by have h := HV.out; have hg := HGG.out; simp only [List.take_succ_cons, List.take_zero, List.map_cons, List.map_nil, List.cons_append, List.nil_append, List.cons.injEq, and_true, true_and] at h ⊢; exact ⟨h.1, h.2.1, h.2.2.1, h.2.2.2, hg⟩⟩, ⟨blk_put HH2.out 4 _ rfl⟩, ⟨blk_far HG.out (by simp) _⟩, ⟨HB.out.setCell (Nat.le_refl _) _⟩⟩
          case measure => simp [intOf]
      · obtain ⟨a, b, c, d, e, rfl⟩ : ∃ a b c d e, vs = [a, b, c, d, e] := by
          match vs, hvl with
          | [a, b, c, d, e], _ => exact ⟨a, b, c, d, e, rfl⟩
        have HH2 : Aside0 (wr.heap[w.heap.size]? = some (.cells #[.int .u8 (a : Nat), .int .u8 (b : Nat), .int .u8 (c : Nat), .int .u8 (d : Nat), .int .i64 (e : Nat)] 30 (0, 0))) := HH
        have f0 := blk_frozen HH2.out 0
        have c0 : wr.cell? ⟨w.heap.size, 0, none⟩ = some (.int .u8 (a : Nat)) := (blk_cell HH2.out 0).trans rfl
        have f1 := blk_frozen HH2.out 1
        have c1 : wr.cell? ⟨w.heap.size, 1, none⟩ = some (.int .u8 (b : Nat)) := (blk_cell HH2.out 1).trans rfl
        have f2 := blk_frozen HH2.out 2
        have c2 : wr.cell? ⟨w.heap.size, 2, none⟩ = some (.int .u8 (c : Nat)) := (blk_cell HH2.out 2).trans rfl
        have f3 := blk_frozen HH2.out 3
        have c3 : wr.cell? ⟨w.heap.size, 3, none⟩ = some (.int .u8 (d : Nat)) := (blk_cell HH2.out 3).trans rfl
        have f4 := blk_frozen HH2.out 4
        have c4 : wr.cell? ⟨w.heap.size, 4, none⟩ = some (.int .i64 (e : Nat)) := (blk_cell HH2.out 4).trans rfl
        have hc : wr.cell? ⟨w.heap.size + 1, 5, none⟩ = some (.string p5) := (blk_cell HG.out 5).trans rfl
        cases hg : get255 p5.data.toList with
        | none =>
          have hgg : get p5.data.toList 255 = (0, false) := by rw [get255_get, hg]
          have HF := Aside0.mk (show R = readR none from by rw [HR.out, six_none5 hg])
          clear hg hvl hk hps
          go_wp2_with (go_at_call 35; refine (get_calls _ _ _).mono ?_; rintro e w1 ⟨rfl, rfl⟩; rw [hgg])
          try rw [Exit.noGoto_ret]
          try simp only [Exit.inBlock, Exit.then]
          refine bodyPost_ret (res_read _ _ w.heap.size 0 0 0 0 0 false rfl rfl (blk_put (blk_put (blk_put (blk_put (blk_put HH2.out 0 _ rfl) 1 _ rfl) 2 _ rfl) 3 _ rfl) 4 _ rfl)) rfl ⟨?_, ?_⟩
          · first | (rw [HF.out]; rfl) | rfl
          · exact ((((HB.out.setCell (Nat.le_refl _) _).setCell (Nat.le_refl _) _).setCell (Nat.le_refl _) _).setCell (Nat.le_refl _) _).setCell (Nat.le_refl _) _
        | some n =>
          have hgg : get p5.data.toList 255 = ((n : Int), true) := by rw [get255_get, hg]
          have hn : n ≤ 255 := ((get255_iff _ _).1 hg).2
          have hcv : IntKind.u8.wrap (n : Int) = (n : Int) := by simp [IntKind.wrap, IntKind.bits, IntKind.signed]; omega
          have HGG := Aside0.mk hg
          have he256 : e < 256 := by have h := HV.out; simp only [List.take_succ_cons, List.take_zero, List.map_cons, List.map_nil, List.cons.injEq, and_true] at h; have := ((get255_iff _ _).1 h.2.2.2.2).2; omega
          obtain ⟨q, hq⟩ : ∃ q : Nat, q = 256 * e + n := ⟨_, rfl⟩
          have hor : bits .or .i64 ((e : Int) * 256) (n : Int) = (q : Int) := by rw [hq]; exact or8 e n he256 (by omega)
          have HQ := Aside0.mk hq
          have hw8 : wrap64 ((e : Int) * 256) = (e : Int) * 256 := by unfold wrap64; omega
          clear he256 hq
          clear hg hvl hk hps hn
          go_wp2_with (go_at_call 35; refine (get_calls _ _ _).mono ?_; rintro e w1 ⟨rfl, rfl⟩; rw [hgg])
          go_roundw
          case rel => exact ⟨5 + 1, by omega, by first | rfl | go_num, [a, b, c, d, e] ++ [n], rfl, ⟨by have h := HV.out; have hg := HGG.out; simp only [List.take_succ_cons, List.take_zero, List.map_cons, List.map_nil, List.cons_append, List.nil_append, List.cons.injEq, and_true, true_and] at h ⊢; exact ⟨h.1, h.2.1, h.2.2.1, h.2.2.2.1, h.2.2.2.2, hg⟩⟩, ⟨by have h9 := blk_put HH2.out 4 (Value.int .i64 (q : Int)) rfl; rw [HQ.out] at h9 ⊢; exact h9⟩, ⟨blk_far HG.out (by simp) _⟩, ⟨HB.out.setCell (Nat.le_refl _) _⟩⟩
          case measure => simp [intOf]
      · obtain ⟨a, b, c, d, e, f, rfl⟩ : ∃ a b c d e f, vs = [a, b, c, d, e, f] := by
          match vs, hvl with
          | [a, b, c, d, e, f], _ => exact ⟨a, b, c, d, e, f, rfl⟩
        obtain ⟨q, hq⟩ : ∃ q : Nat, q = 256 * e + f := ⟨_, rfl⟩
        have HH2 : Aside0 (wr.heap[w.heap.size]? = some (.cells #[.int .u8 (a : Nat), .int .u8 (b : Nat), .int .u8 (c : Nat), .int .u8 (d : Nat), .int .i64 (q : Nat)] 30 (0, 0))) := by rw [hq]; exact HH
        have hsix : readSix s.data.toList = some (a, b, c, d, q) := by
          have := HV.out
          simp only [List.take_succ_cons, List.take_zero, List.map_cons, List.map_nil, List.cons.injEq, and_true] at this
          rw [readSix, ← hpsx.out]
          show six _ _ _ _ _ _ = _
          rw [six, this.1, this.2.1, this.2.2.1, this.2.2.2.1, this.2.2.2.2.1, this.2.2.2.2.2, hq]; rfl
        have hiff := (readSix_iff _ _ _ _ _ _).1 hsix
        have HF := Aside0.mk (show R = readR (some (a, b, c, d, q)) from by rw [HRR.out, hsix])
        have HT := Aside0.mk (show a < 256 ∧ b < 256 ∧ c < 256 ∧ d < 256 ∧ textR a b c d q = .tuple #[.string s, .bool true] from by
          refine ⟨by omega, by omega, by omega, by omega, ?_⟩
          rw [textR, if_neg (by omega), show ((q : Int)).toNat = q from rfl, ← hiff.1]; rfl)
        have hq2 : ∀ W, (Op.equalIn 10000 30 (.agg #[.int .u8 (a : Nat), .int .u8 (b : Nat), .int .u8 (c : Nat), .int .u8 (d : Nat), .int .i64 (q : Nat)]) (.agg #[.int .u8 (a : Nat), .int .u8 (b : Nat), .int .u8 (c : Nat), .int .u8 (d : Nat), .int .i64 (q : Nat)])).run Tryz.prog W = .ok true W := fun W => by rw [eq_end]; simp
        clear hps hvl hk hsix hiff hq HH
        have c0 : wr.cell? ⟨w.heap.size, 0, none⟩ = some (.int .u8 (a : Nat)) := (blk_cell HH2.out 0).trans rfl
        have c1 : wr.cell? ⟨w.heap.size, 1, none⟩ = some (.int .u8 (b : Nat)) := (blk_cell HH2.out 1).trans rfl
        have c2 : wr.cell? ⟨w.heap.size, 2, none⟩ = some (.int .u8 (c : Nat)) := (blk_cell HH2.out 2).trans rfl
        have c3 : wr.cell? ⟨w.heap.size, 3, none⟩ = some (.int .u8 (d : Nat)) := (blk_cell HH2.out 3).trans rfl
        have c4 : wr.cell? ⟨w.heap.size, 4, none⟩ = some (.int .i64 (q : Nat)) := (blk_cell HH2.out 4).trans rfl
        go_wp2_with (go_at_call 26; refine (text_calls a b c d q HT.out.1 HT.out.2.1 HT.out.2.2.1 HT.out.2.2.2.1 _).mono ?_; rw [HT.out.2.2.2.2]; rintro e' w7 ⟨rfl, hb7⟩; have HB7 := Aside0.mk (HB.out.trans (hb7.mono HB.out.size)); have HH7 := Aside0.mk (blk_below HH2.out hb7); clear hb7)
        clear c0 c1 c2 c3 c4
        have f0 := blk_frozen HH7.out 0
        have f1 := blk_frozen HH7.out 1
        have f2 := blk_frozen HH7.out 2
        have f3 := blk_frozen HH7.out 3
        have f4 := blk_frozen HH7.out 4
        have c0 : w7.cell? ⟨w.heap.size, 0, none⟩ = some (.int .u8 (a : Nat)) := (blk_cell HH7.out 0).trans rfl
        have c1 : w7.cell? ⟨w.heap.size, 1, none⟩ = some (.int .u8 (b : Nat)) := (blk_cell HH7.out 1).trans rfl
        have c2 : w7.cell? ⟨w.heap.size, 2, none⟩ = some (.int .u8 (c : Nat)) := (blk_cell HH7.out 2).trans rfl
        have c3 : w7.cell? ⟨w.heap.size, 3, none⟩ = some (.int .u8 (d : Nat)) := (blk_cell HH7.out 3).trans rfl
        have c4 : w7.cell? ⟨w.heap.size, 4, none⟩ = some (.int .i64 (q : Nat)) := (blk_cell HH7.out 4).trans rfl
        go_region
        all_goals
          go_wp2
          try rw [Exit.noGoto_ret]
          try simp only [Exit.inBlock, Exit.then]
          refine bodyPost_ret (res_read _ _ w.heap.size a b c d q true rfl rfl (blk_drew (blk_put (blk_put (blk_put (blk_put (blk_put HH7.out 0 _ rfl) 1 _ rfl) 2 _ rfl) 3 _ rfl) 4 _ rfl))) rfl ⟨?_, ?_⟩
          · first | (rw [HF.out]; rfl) | rfl
          · exact (((((HB7.out.setCell (Nat.le_refl _) _).setCell (Nat.le_refl _) _).setCell (Nat.le_refl _) _).setCell (Nat.le_refl _) _).setCell (Nat.le_refl _) _).drew
  · have hl2 : ((ps.length : Int) != 6) = true := by simp; omega
    have HF := Aside0.mk (show R = readR none from by
      rw [HRR.out, readSix, ← hps]
      split
      · rename_i p0 p1 p2 p3 p4 p5 h
        have := congrArg List.length h
        simp at this; omega
      · rfl)
    clear hl
    go_enter Tryz.func15, Tryz.ntmps15
    go_wp2
    go_step3
    go_wp2_with (go_at_call 34; refine (HSP.out _ (HM.out.below ((Below.refl _ _).alloc (Nat.le_refl _) _))).mono ?_; rintro e w1 ⟨rfl, rfl⟩)
    try rw [Exit.noGoto_ret]
    try simp only [Exit.inBlock, Exit.then]
    refine bodyPost_ret (res_read _ _ w.heap.size 0 0 0 0 0 false rfl rfl (by have := blk_alloc (blk_new w (.cells #[.int .u8 0, .int .u8 0, .int .u8 0, .int .u8 0, .int .i64 0] 30)) (.cells (ps.map Value.string).toArray 9); exact this)) rfl ⟨?_, ?_⟩
    · first | (rw [HF.out]; rfl) | rfl
    · exact ((Below.refl _ _).alloc (Nat.le_refl _) _).alloc (by simp) _
end Go.Proofs.YtdcbkeihgbekdaaGreatDoor.Six

namespace Go.Proofs.YtdcbkeihgbekdaaGreatDoor.Six
open Go Go.RowKit Go.Proofs.YtdcbkeihgbekdaaGreatDoorW.PrintWords Go.Proofs.YtdcbkeihgbekdaaGreatDoorW.PrintLast Go.Proofs.YtdcbkeihgbekdaaGreatDoorW.PrintMore Go.Proofs.YtdcbkeihgbekdaaGreatDoor.Dig Go.Proofs.YtdcbkeihgbekdaaGreatDoor.Quad Go.Proofs.YtdcbkeihgbekdaaGreatDoor.SixP
set_option linter.unusedVariables false
set_option linter.unusedSimpArgs false

theorem fill_put {α : Type} (f : Nat → α) (z : α) (vs : List Nat) (n m : Nat) (tl : List α) : ((vs.map f ++ List.replicate (m + 1) z) ++ tl).toArray.setIfInBounds vs.length (f n) = (((vs ++ [n]).map f ++ List.replicate m z) ++ tl).toArray := by
  apply Array.ext'
  rw [Array.toList_setIfInBounds]
  show List.set ((vs.map f ++ List.replicate (m + 1) z) ++ tl) vs.length (f n) = _
  rw [List.append_assoc, List.set_append_right _ _ (by simp), List.length_map, Nat.sub_self, List.replicate_succ]
  simp
theorem fill_get {α : Type} (f : Nat → α) (z : α) (vs : List Nat) (m : Nat) (tl : List α) : ((vs.map f ++ List.replicate (m + 1) z) ++ tl).toArray[vs.length]? = some z := by
  rw [List.getElem?_toArray, List.append_assoc, List.getElem?_append_right (by simp), List.length_map, Nat.sub_self, List.replicate_succ]
  rfl
theorem six_len {l : List UInt8} (h : (Cut.cut 44 l).length ≠ 6) : readSix l = none := by
  unfold readSix
  split
  · rename_i p0 p1 p2 p3 p4 p5 hc
    rw [hc] at h; exact absurd rfl h
  · rfl
theorem list6 {α : Type} (l : List α) (h : l.length = 6) : ∃ a b c d e f, l = [a, b, c, d, e, f] := by
  match l, h with
  | [a, b, c, d, e, f], _ => exact ⟨a, b, c, d, e, f, rfl⟩
theorem six_bad {l : List UInt8} (h6 : (Cut.cut 44 l).length = 6) (k : Nat) (hk : k < (Cut.cut 44 l).length) (hg : get255 (Cut.cut 44 l)[k] = none) : readSix l = none := by
  obtain ⟨p0, p1, p2, p3, p4, p5, hp⟩ := list6 _ h6
  have e : readSix l = six p0 p1 p2 p3 p4 p5 := by rw [readSix, hp]
  rw [e]
  simp only [hp, List.length_cons, List.length_nil] at hk
  obtain rfl | rfl | rfl | rfl | rfl | rfl : k = 0 ∨ k = 1 ∨ k = 2 ∨ k = 3 ∨ k = 4 ∨ k = 5 := by omega
  · simp only [hp, List.getElem_cons_zero] at hg; exact six_none0 hg
  · simp only [hp, List.getElem_cons_zero, List.getElem_cons_succ] at hg; exact six_none1 hg
  · simp only [hp, List.getElem_cons_zero, List.getElem_cons_succ] at hg; exact six_none2 hg
  · simp only [hp, List.getElem_cons_zero, List.getElem_cons_succ] at hg; exact six_none3 hg
  · simp only [hp, List.getElem_cons_zero, List.getElem_cons_succ] at hg; exact six_none4 hg
  · simp only [hp, List.getElem_cons_zero, List.getElem_cons_succ] at hg; exact six_none5 hg
theorem six_good {l : List UInt8} {a b c d e f : Nat} (h : (Cut.cut 44 l).map get255 = [some a, some b, some c, some d, some e, some f]) : readSix l = some (a, b, c, d, 256 * e + f) ∧ a < 256 ∧ b < 256 ∧ c < 256 ∧ d < 256 ∧ e < 256 ∧ f < 256 := by
  obtain ⟨p0, p1, p2, p3, p4, p5, hp⟩ := list6 (Cut.cut 44 l) (by have := congrArg List.length h; simpa using this)
  rw [hp] at h
  simp only [List.map_cons, List.map_nil, List.cons.injEq, and_true] at h
  obtain ⟨h0, h1, h2, h3, h4, h5⟩ := h
  refine ⟨?_, ?_⟩
  · rw [readSix, hp]
    show six _ _ _ _ _ _ = _
    rw [six, h0, h1, h2, h3, h4, h5]; rfl
  · have := ((get255_iff _ _).1 h0).2; have := ((get255_iff _ _).1 h1).2; have := ((get255_iff _ _).1 h2).2; have := ((get255_iff _ _).1 h3).2; have := ((get255_iff _ _).1 h4).2; have := ((get255_iff _ _).1 h5).2
    omega
theorem res_rread (tmps : Array Value) (W : World) (H : Nat) (a b c d p : Int) (t : Bool) (h2 : tmps.getD 2 undef = .pointer (some ⟨H, 0, none⟩)) (h3 : tmps.getD 3 undef = .bool t) (hh : W.heap[H]? = some (.cells #[.int .u8 a, .int .u8 b, .int .u8 c, .int .u8 d, .int .i64 p] 30 (0, 0))) :
   (results Tryz.f19 tmps).run Tryz.prog W = .ok (.tuple #[.agg #[.int .u8 a, .int .u8 b, .int .u8 c, .int .u8 d, .int .i64 p], .bool t]) W := by
  have c0 : W.cell? ⟨H, 0, none⟩ = some (.int .u8 a) := (blk_cell hh 0).trans rfl
  have c1 : W.cell? ⟨H, 1, none⟩ = some (.int .u8 b) := (blk_cell hh 1).trans rfl
  have c2 : W.cell? ⟨H, 2, none⟩ = some (.int .u8 c) := (blk_cell hh 2).trans rfl
  have c3 : W.cell? ⟨H, 3, none⟩ = some (.int .u8 d) := (blk_cell hh 3).trans rfl
  have c4 : W.cell? ⟨H, 4, none⟩ = some (.int .i64 p) := (blk_cell hh 4).trans rfl
  rw [Array.getD_eq_getD_getElem?] at h2 h3
  simp [results, show Tryz.f19.results = #[.cell 2 30, .tmp 3] from rfl, h2, h3, go_sem, c0, c1, c2, c3, c4]
def iv (n : Nat) : Value := .int .i64 (n : Int)
def bv (n : Nat) : Value := .int .u8 (n : Int)

set_option maxHeartbeats 4000000 in
set_option maxRecDepth 100000 in
theorem ref_read_calls (s : ByteArray) (hs : s.size ≤ 1000000) (w : World) :
    Calls Tryz.prog 19 #[.string s] w fun e w' => e = .returned (readR (readSix s.data.toList)) ∧ Below w.heap.size w w' := by
  obtain ⟨R, hR⟩ : ∃ R, R = readR (readSix s.data.toList) := ⟨_, rfl⟩
  rw [← hR]
  have HR := Aside0.mk hR
  have HS := Aside0.mk hs
  obtain ⟨ps, hps⟩ : ∃ ps, ps = Cut.cut 44 s.data.toList := ⟨_, rfl⟩
  have HP := Aside0.mk hps
  clear hR hs hps
  have H0 := Aside0.mk (show Below w.heap.size w (w.alloc (.cells #[.int .u8 0, .int .u8 0, .int .u8 0, .int .u8 0, .int .i64 0] 30)) ∧ (w.alloc (.cells #[.int .u8 0, .int .u8 0, .int .u8 0, .int .u8 0, .int .i64 0] 30)).heap[w.heap.size]? = some (.cells #[.int .u8 0, .int .u8 0, .int .u8 0, .int .u8 0, .int .i64 0] 30 (0, 0)) from ⟨(Below.refl _ _).alloc (Nat.le_refl _) _, blk_new _ _⟩)
  by_cases hl : ps.length = 6
  · go_enter Tryz.func19, Tryz.ntmps19
    go_wp2_with (go_at_call 39; refine (ref_cut_calls s 44 HS.out _).mono ?_; rw [← HP.out]; rintro e w1 ⟨v, rfl, ho, hb⟩; have HB1 := Aside0.mk (H0.out.1.trans (hb.mono H0.out.1.size)); have HZ1 := Aside0.mk (blk_below H0.out.2 hb); rw [hl] at ho; obtain ⟨g, c, rfl, hc, hgb, hgl, hx⟩ := Laws.own_cells ho (by decide); have HX := Aside0.mk (show g < w1.heap.size ∧ w.heap.size < g ∧ ∀ (j : Nat) x, (ps.map str)[j]? = some x → w1.cell? ⟨g, 0 + j, none⟩ = some x from ⟨hgl, by simp at hgb; omega, hx⟩); clear ho hb hc hgb hgl hx)
    have HW1 := Aside0.mk (show w.heap.size < w1.heap.size from by have := blk_lt HZ1.out; omega)
    go_loopw [7] (fun i_ wr => ∃ (k : Nat) (vs : List Nat), k ≤ 6 ∧ i_ = .int .i64 k ∧ vs.length = k ∧ Aside0 ((ps.take k).map get255 = vs.map some) ∧ Aside0 (Below w.heap.size w wr) ∧ Aside0 (wr.heap[w.heap.size]? = some (.cells #[.int .u8 0, .int .u8 0, .int .u8 0, .int .u8 0, .int .i64 0] 30 (0, 0))) ∧ Aside0 (wr.heap[w1.heap.size]? = some (.cells #[.int .u8 0, .int .u8 0, .int .u8 0, .int .u8 0, .int .i64 0] 30 (0, 0))) ∧ Aside0 (wr.heap[g]? = w1.heap[g]?) ∧ Aside0 (wr.heap[w1.heap.size + 1]? = some (.cells ((vs.map iv ++ List.replicate (6 - k) (iv 0)) ++ []).toArray 70 (0, 0)))) (fun i_ _ => 6 - (intOf i_).toNat)
    case atStart =>
      refine ⟨0, [], Nat.zero_le _, rfl, rfl, ⟨rfl⟩, ⟨(HB1.out.alloc HB1.out.size _).alloc (Nat.le_trans HB1.out.size (by simp)) _⟩, ⟨blk_alloc (blk_alloc HZ1.out _) _⟩, ⟨blk_alloc (blk_new w1 _) _⟩, ⟨?_⟩, ⟨?_⟩⟩
      · rw [Below.heap_alloc _ _ _ (by simp; have := HX.out.1; omega), Below.heap_alloc _ _ _ HX.out.1]
      · have := blk_new (w1.alloc (.cells #[.int .u8 0, .int .u8 0, .int .u8 0, .int .u8 0, .int .i64 0] 30)) (.cells #[.int .i64 0, .int .i64 0, .int .i64 0, .int .i64 0, .int .i64 0, .int .i64 0] 70)
        simpa [iv] using this
    case round =>
      obtain ⟨k, vs, hk, rfl, hvl, HV, HB, HZ, HE, HG, HN⟩ := hrel
      have HZo := HZ.out
      by_cases hlt : k < 6
      · have hkp : k < ps.length := by rw [hl]; exact hlt
        obtain ⟨p, hp⟩ : ∃ p : ByteArray, p = ⟨(ps[k]).toArray⟩ := ⟨_, rfl⟩
        have hpl : p.data.toList = ps[k] := by rw [hp]
        have hcell : wr.cell? ⟨g, k, none⟩ = some (.string p) := by
          rw [World.cell?_of_block (w := w1) HG.out]
          have := HX.out.2.2 k (.string p) (by rw [List.getElem?_map, List.getElem?_eq_getElem hkp, hp]; rfl)
          rwa [Nat.zero_add] at this
        have zf0 := blk_frozen HZo 0
        have zc0 : wr.cell? ⟨w.heap.size, 0, none⟩ = some (.int .u8 0) := (blk_cell HZo 0).trans rfl
        have zf1 := blk_frozen HZo 1
        have zc1 : wr.cell? ⟨w.heap.size, 1, none⟩ = some (.int .u8 0) := (blk_cell HZo 1).trans rfl
        have zf2 := blk_frozen HZo 2
        have zc2 : wr.cell? ⟨w.heap.size, 2, none⟩ = some (.int .u8 0) := (blk_cell HZo 2).trans rfl
        have zf3 := blk_frozen HZo 3
        have zc3 : wr.cell? ⟨w.heap.size, 3, none⟩ = some (.int .u8 0) := (blk_cell HZo 3).trans rfl
        have zf4 := blk_frozen HZo 4
        have zc4 : wr.cell? ⟨w.heap.size, 4, none⟩ = some (.int .i64 0) := (blk_cell HZo 4).trans rfl
        have nf := blk_frozen HN.out k
        have nc : wr.cell? ⟨w1.heap.size + 1, k, none⟩ = some (.int .i64 0) := by
          rw [blk_cell HN.out, ← hvl, show 6 - vs.length = (5 - vs.length) + 1 from by omega]
          exact fill_get iv (iv 0) vs _ []
        cases hg : get255 ps[k] with
        | none =>
          have hgg : get p.data.toList 255 = (0, false) := by rw [get255_get, hpl, hg]
          have HF := Aside0.mk (show R = readR none from by rw [HR.out]; have e := HP.out; subst e; exact congrArg readR (six_bad hl k hkp hg))
          clear hg hvl hk hp hpl hkp HZo
          go_wp2_with (go_at_call 40; refine (ref_get_calls _ _ _).mono ?_; rintro e w9 ⟨rfl, hw⟩; obtain rfl := hw.symm; rw [hgg])
          try simp only [Exit.inBlock, Exit.then]
          refine bodyPost_ret (res_rread _ _ w.heap.size 0 0 0 0 0 false rfl rfl (blk_put (blk_put (blk_put (blk_put (blk_put HZ.out 0 _ rfl) 1 _ rfl) 2 _ rfl) 3 _ rfl) 4 _ rfl)) rfl ⟨?_, ?_⟩
          · first | (rw [HF.out]; rfl) | rfl
          · exact ((((HB.out.setCell (Nat.le_refl _) _).setCell (Nat.le_refl _) _).setCell (Nat.le_refl _) _).setCell (Nat.le_refl _) _).setCell (Nat.le_refl _) _
        | some n =>
          have hgg : get p.data.toList 255 = ((n : Int), true) := by rw [get255_get, hpl, hg]
          have HNX := Aside0.mk (show (ps.take (k + 1)).map get255 = (vs ++ [n]).map some from by
            rw [List.take_succ_eq_append_getElem hkp, List.map_append, List.map_append, HV.out, List.map_cons, List.map_nil, hg]; rfl)
          have HN2 := Aside0.mk (show (wr.setCell ⟨w1.heap.size + 1, k, none⟩ (.int .i64 n)).heap[w1.heap.size + 1]? = some (.cells (((vs ++ [n]).map iv ++ List.replicate (6 - (k + 1)) (iv 0)) ++ []).toArray 70 (0, 0)) from by
            refine blk_put HN.out k _ ?_
            rw [show 6 - k = (5 - k) + 1 from by omega, show 6 - (k + 1) = 5 - k from by omega, ← hvl]
            exact fill_put iv (iv 0) vs n _ [])
          have HVL := Aside0.mk (show (vs ++ [n]).length = k + 1 from by rw [List.length_append, hvl]; rfl)
          clear hg hvl hp hpl hkp HZo
          go_wp2_with (go_at_call 40; refine (ref_get_calls _ _ _).mono ?_; rintro e w9 ⟨rfl, hw⟩; obtain rfl := hw.symm; rw [hgg])
          go_roundw
          case rel => exact ⟨k + 1, vs ++ [n], by omega, by go_num, HVL.out, HNX, ⟨HB.out.setCell (by have := HW1.out; simp; omega) _⟩, ⟨blk_far HZ.out (by have := HW1.out; simp; omega) _⟩, ⟨blk_far HE.out (by simp) _⟩, ⟨(Below.heap_setCell _ _ _ _ (by have := HX.out.1; simp; omega)).trans HG.out⟩, HN2⟩
          case measure => simp [intOf]; omega
      · obtain rfl : k = 6 := by omega
        obtain ⟨a, b, c', d, e, f, rfl⟩ := list6 vs hvl
        have hall : (Cut.cut 44 s.data.toList).map get255 = [some a, some b, some c', some d, some e, some f] := by
          have := HV.out
          rw [← hl, List.take_length] at this
          rw [← HP.out]; exact this
        obtain ⟨hsix, ha, hb, hc, hd, he, hf⟩ := six_good hall
        obtain ⟨q, hq⟩ : ∃ q : Nat, q = 256 * e + f := ⟨_, rfl⟩
        have HF := Aside0.mk (show R = readR (some (a, b, c', d, q)) from by rw [HR.out, hsix, hq])
        have HQ := Aside0.mk (show q = 256 * e + f ∧ a < 256 ∧ b < 256 ∧ c' < 256 ∧ d < 256 ∧ e < 256 ∧ f < 256 from ⟨hq, ha, hb, hc, hd, he, hf⟩)
        have HN6 := Aside0.mk (show wr.heap[w1.heap.size + 1]? = some (.cells #[.int .i64 (a : Nat), .int .i64 (b : Nat), .int .i64 (c' : Nat), .int .i64 (d : Nat), .int .i64 (e : Nat), .int .i64 (f : Nat)] 70 (0, 0)) from HN.out)
        clear hvl hk hall hsix ha hb hc hd he hf hq HN HZo
        go_wp2
        go_loopw [10] (fun i_ wq => ∃ k : Nat, k ≤ 4 ∧ i_ = .int .i64 k ∧ Aside0 (Below w.heap.size w wq) ∧ Aside0 (wq.heap[w.heap.size]? = some (.cells #[.int .u8 0, .int .u8 0, .int .u8 0, .int .u8 0, .int .i64 0] 30 (0, 0))) ∧ Aside0 (wq.heap[w1.heap.size]? = some (.cells ((([a, b, c', d].take k).map bv ++ List.replicate (4 - k) (bv 0)) ++ [Value.int .i64 0]).toArray 30 (0, 0))) ∧ Aside0 (wq.heap[w1.heap.size + 1]? = some (.cells #[.int .i64 (a : Nat), .int .i64 (b : Nat), .int .i64 (c' : Nat), .int .i64 (d : Nat), .int .i64 (e : Nat), .int .i64 (f : Nat)] 70 (0, 0)))) (fun i_ _ => 4 - (intOf i_).toNat)
        case atStart => exact ⟨0, Nat.zero_le _, rfl, HB, HZ, HE, HN6⟩
        case round =>
          obtain ⟨k, hk, rfl, HB, HZ, HE, HN⟩ := hrel
          by_cases hlt : k < 4
          · have hkd : k < [a, b, c', d].length := hlt
            obtain ⟨x, hx⟩ : ∃ x, x = [a, b, c', d][k] := ⟨_, rfl⟩
            have hx256 : x < 256 := by
              have hm : x ∈ [a, b, c', d] := by rw [hx]; exact List.getElem_mem _
              have := HQ.out
              simp only [List.mem_cons, List.not_mem_nil, or_false] at hm
              rcases hm with rfl | rfl | rfl | rfl <;> omega
            have hcell : wr.cell? ⟨w1.heap.size + 1, k, none⟩ = some (.int .i64 x) := by
              rw [blk_cell HN.out]
              have h3 : ([a, b, c', d].map fun n : Nat => Value.int .i64 (n : Int))[k]? = some (.int .i64 x) := by rw [List.getElem?_map, List.getElem?_eq_getElem hkd, ← hx]; rfl
              obtain rfl | rfl | rfl | rfl : k = 0 ∨ k = 1 ∨ k = 2 ∨ k = 3 := by omega
              all_goals exact h3
            have hlk : ([a, b, c', d].take k).length = k := by rw [List.length_take]; omega
            have ef := blk_frozen HE.out k
            have ec : wr.cell? ⟨w1.heap.size, k, none⟩ = some (.int .u8 0) := by
              have h4 := fill_get bv (bv 0) ([a, b, c', d].take k) (3 - k) [Value.int .i64 0]
              rw [hlk, show 3 - k + 1 = 4 - k from by omega] at h4
              rw [blk_cell HE.out]; exact h4
            have hcv : IntKind.u8.wrap (x : Int) = (x : Int) := by simp [IntKind.wrap, IntKind.bits, IntKind.signed]; omega
            have HE2 := Aside0.mk (show (wr.setCell ⟨w1.heap.size, k, none⟩ (.int .u8 x)).heap[w1.heap.size]? = some (.cells ((([a, b, c', d].take (k + 1)).map bv ++ List.replicate (4 - (k + 1)) (bv 0)) ++ [Value.int .i64 0]).toArray 30 (0, 0)) from by
              refine blk_put HE.out k _ ?_
              have h4 := fill_put bv (bv 0) ([a, b, c', d].take k) x (3 - k) [Value.int .i64 0]
              rw [hlk, show 3 - k + 1 = 4 - k from by omega, hx, ← List.take_succ_eq_append_getElem hkd] at h4
              rw [show 4 - (k + 1) = 3 - k from by omega, hx]; exact h4)
            clear hx hx256 hkd hlk
            go_wp2
            go_roundw
            case rel => exact ⟨k + 1, by omega, by go_num, ⟨HB.out.setCell (by have := HW1.out; simp; omega) _⟩, ⟨blk_far HZ.out (by have := HW1.out; simp; omega) _⟩, HE2, ⟨blk_far HN.out (by simp) _⟩⟩
            case measure => simp [intOf]; omega
          · obtain rfl : k = 4 := by omega
            have HE4 := Aside0.mk (show wr.heap[w1.heap.size]? = some (.cells #[.int .u8 (a : Nat), .int .u8 (b : Nat), .int .u8 (c' : Nat), .int .u8 (d : Nat), .int .i64 0] 30 (0, 0)) from HE.out)
            have HZo := HZ.out
            have HE4o := HE4.out
            have zf0 := blk_frozen HZo 0
            have zc0 : wr.cell? ⟨w.heap.size, 0, none⟩ = some (.int .u8 0) := (blk_cell HZo 0).trans rfl
            have zf1 := blk_frozen HZo 1
            have zc1 : wr.cell? ⟨w.heap.size, 1, none⟩ = some (.int .u8 0) := (blk_cell HZo 1).trans rfl
            have zf2 := blk_frozen HZo 2
            have zc2 : wr.cell? ⟨w.heap.size, 2, none⟩ = some (.int .u8 0) := (blk_cell HZo 2).trans rfl
            have zf3 := blk_frozen HZo 3
            have zc3 : wr.cell? ⟨w.heap.size, 3, none⟩ = some (.int .u8 0) := (blk_cell HZo 3).trans rfl
            have zf4 := blk_frozen HZo 4
            have zc4 : wr.cell? ⟨w.heap.size, 4, none⟩ = some (.int .i64 0) := (blk_cell HZo 4).trans rfl
            have ef0 := blk_frozen HE4o 0
            have ec0 : wr.cell? ⟨w1.heap.size, 0, none⟩ = some (.int .u8 (a : Nat)) := (blk_cell HE4o 0).trans rfl
            have ef1 := blk_frozen HE4o 1
            have ec1 : wr.cell? ⟨w1.heap.size, 1, none⟩ = some (.int .u8 (b : Nat)) := (blk_cell HE4o 1).trans rfl
            have ef2 := blk_frozen HE4o 2
            have ec2 : wr.cell? ⟨w1.heap.size, 2, none⟩ = some (.int .u8 (c' : Nat)) := (blk_cell HE4o 2).trans rfl
            have ef3 := blk_frozen HE4o 3
            have ec3 : wr.cell? ⟨w1.heap.size, 3, none⟩ = some (.int .u8 (d : Nat)) := (blk_cell HE4o 3).trans rfl
            have ef4 := blk_frozen HE4o 4
            have ec4 : wr.cell? ⟨w1.heap.size, 4, none⟩ = some (.int .i64 0) := (blk_cell HE4o 4).trans rfl
            have n4 : wr.cell? ⟨w1.heap.size + 1, 4, none⟩ = some (.int .i64 (e : Nat)) := (blk_cell HN.out 4).trans rfl
            have n5 : wr.cell? ⟨w1.heap.size + 1, 5, none⟩ = some (.int .i64 (f : Nat)) := (blk_cell HN.out 5).trans rfl
            have hw1 : wrap64 (256 * (e : Int)) = 256 * (e : Int) := by have := HQ.out; unfold wrap64; omega
            have hw2 : wrap64 (q : Int) = (q : Int) := by have := HQ.out; unfold wrap64; omega
            have hne1 : w.heap.size ≠ w1.heap.size := by have := HW1.out; omega
            have hne2 : w1.heap.size ≠ w.heap.size := by have := HW1.out; omega
            have hsum : 256 * (e : Int) + (f : Int) = (q : Int) := by have := HQ.out; omega
            clear HZo HE4o hk
            go_wp2
            try simp only [Exit.inBlock, Exit.then]
            refine bodyPost_ret (res_rread _ _ w.heap.size a b c' d q true rfl rfl (blk_put (blk_put (blk_put (blk_put (blk_put (blk_far HZ.out (by have := HW1.out; simp; omega) _) 0 _ rfl) 1 _ rfl) 2 _ rfl) 3 _ rfl) 4 _ rfl)) rfl ⟨?_, ?_⟩
            · first | (rw [HF.out]; rfl) | rfl
            · exact (((((HB.out.setCell (by have := HW1.out; simp; omega) _).setCell (Nat.le_refl _) _).setCell (Nat.le_refl _) _).setCell (Nat.le_refl _) _).setCell (Nat.le_refl _) _).setCell (Nat.le_refl _) _
  · have HF := Aside0.mk (show R = readR none from by rw [HR.out, six_len (by rw [← HP.out]; exact hl)])
    obtain ⟨N, hN⟩ : ∃ N, N = ps.length := ⟨_, rfl⟩
    have hl2 : ((N : Int) != 6) = true := by simp; omega
    have hl3 : ((N : Int) == 6) = false := beq_eq_false_iff_ne.2 (by omega)
    have HN := Aside0.mk hN
    clear hN hl
    go_enter Tryz.func19, Tryz.ntmps19
    go_wp2_with (go_at_call 39; refine (ref_cut_calls s 44 HS.out _).mono ?_; rw [← HP.out]; rintro e w1 ⟨v, rfl, ho, hb⟩; have HB1 := Aside0.mk (H0.out.1.trans (hb.mono H0.out.1.size)); have HZ1 := Aside0.mk (blk_below H0.out.2 hb); rw [← HN.out] at ho; obtain ⟨A, M, c, rfl, hM, hc, hx⟩ := (show Row.Lies w1 _ _ v (ps.map str) from .inl (by have := ho; rw [HN.out] at this; rw [List.length_map]; exact this)).readN; rw [List.length_map, ← HN.out] at hM; subst hM; clear ho hb hc hx; have zf0 : ∀ o, (w1.alloc o).frozen? ⟨w.heap.size, 0, none⟩ = false := fun o => blk_frozen (blk_alloc HZ1.out o) 0; have zc0 : ∀ o, (w1.alloc o).cell? ⟨w.heap.size, 0, none⟩ = some (.int .u8 0) := fun o => (blk_cell (blk_alloc HZ1.out o) 0).trans rfl; have zf1 : ∀ o, (w1.alloc o).frozen? ⟨w.heap.size, 1, none⟩ = false := fun o => blk_frozen (blk_alloc HZ1.out o) 1; have zc1 : ∀ o, (w1.alloc o).cell? ⟨w.heap.size, 1, none⟩ = some (.int .u8 0) := fun o => (blk_cell (blk_alloc HZ1.out o) 1).trans rfl; have zf2 : ∀ o, (w1.alloc o).frozen? ⟨w.heap.size, 2, none⟩ = false := fun o => blk_frozen (blk_alloc HZ1.out o) 2; have zc2 : ∀ o, (w1.alloc o).cell? ⟨w.heap.size, 2, none⟩ = some (.int .u8 0) := fun o => (blk_cell (blk_alloc HZ1.out o) 2).trans rfl; have zf3 : ∀ o, (w1.alloc o).frozen? ⟨w.heap.size, 3, none⟩ = false := fun o => blk_frozen (blk_alloc HZ1.out o) 3; have zc3 : ∀ o, (w1.alloc o).cell? ⟨w.heap.size, 3, none⟩ = some (.int .u8 0) := fun o => (blk_cell (blk_alloc HZ1.out o) 3).trans rfl; have zf4 : ∀ o, (w1.alloc o).frozen? ⟨w.heap.size, 4, none⟩ = false := fun o => blk_frozen (blk_alloc HZ1.out o) 4; have zc4 : ∀ o, (w1.alloc o).cell? ⟨w.heap.size, 4, none⟩ = some (.int .i64 0) := fun o => (blk_cell (blk_alloc HZ1.out o) 4).trans rfl; have HW1 := Aside0.mk (blk_lt HZ1.out); have hne1 : w.heap.size ≠ w1.heap.size := Nat.ne_of_lt HW1.out; have hne2 : w1.heap.size ≠ w.heap.size := Nat.ne_of_gt HW1.out)
    try simp only [Exit.inBlock, Exit.then]
    refine bodyPost_ret (res_rread _ _ w.heap.size 0 0 0 0 0 false rfl rfl (blk_put (blk_put (blk_put (blk_put (blk_put (blk_alloc HZ1.out _) 0 _ rfl) 1 _ rfl) 2 _ rfl) 3 _ rfl) 4 _ rfl)) rfl ⟨?_, ?_⟩
    · first | (rw [HF.out]; rfl) | rfl
    · exact (((((HB1.out.alloc HB1.out.size _).setCell (Nat.le_refl _) _).setCell (Nat.le_refl _) _).setCell (Nat.le_refl _) _).setCell (Nat.le_refl _) _).setCell (Nat.le_refl _) _
end Go.Proofs.YtdcbkeihgbekdaaGreatDoor.Six

namespace Go.Proofs.YtdcbkeihgbekdaaGreatDoor.Six
open Go Go.RowKit Go.Proofs.YtdcbkeihgbekdaaGreatDoorW.PrintWords Go.Proofs.YtdcbkeihgbekdaaGreatDoorW.PrintLast Go.Proofs.YtdcbkeihgbekdaaGreatDoorW.PrintMore Go.Proofs.YtdcbkeihgbekdaaGreatDoor.Dig Go.Proofs.YtdcbkeihgbekdaaGreatDoor.Quad Go.Proofs.YtdcbkeihgbekdaaGreatDoor.SixP
set_option linter.unusedVariables false
set_option linter.unusedSimpArgs false

theorem res_find (tmps : Array Value) (W : World) (H : Nat) (a b c d p : Int) (t : Bool) (h2 : tmps.getD 2 undef = .pointer (some ⟨H, 0, none⟩)) (h3 : tmps.getD 3 undef = .bool t) (hh : W.heap[H]? = some (.cells #[.int .u8 a, .int .u8 b, .int .u8 c, .int .u8 d, .int .i64 p] 30 (0, 0))) :
   (results Tryz.f22 tmps).run Tryz.prog W = .ok (.tuple #[.agg #[.int .u8 a, .int .u8 b, .int .u8 c, .int .u8 d, .int .i64 p], .bool t]) W := by
  have c0 : W.cell? ⟨H, 0, none⟩ = some (.int .u8 a) := (blk_cell hh 0).trans rfl
  have c1 : W.cell? ⟨H, 1, none⟩ = some (.int .u8 b) := (blk_cell hh 1).trans rfl
  have c2 : W.cell? ⟨H, 2, none⟩ = some (.int .u8 c) := (blk_cell hh 2).trans rfl
  have c3 : W.cell? ⟨H, 3, none⟩ = some (.int .u8 d) := (blk_cell hh 3).trans rfl
  have c4 : W.cell? ⟨H, 4, none⟩ = some (.int .i64 p) := (blk_cell hh 4).trans rfl
  rw [Array.getD_eq_getD_getElem?] at h2 h3
  simp [results, show Tryz.f22.results = #[.cell 2 30, .tmp 3] from rfl, h2, h3, go_sem, c0, c1, c2, c3, c4]
/-- strings.Cut by one byte, as it is met. -/
theorem cut_calls (c : UInt8) (s x y : ByteArray) (t : Bool) (hs : s.size < 4294967281) (h : Lib.cut s.data.toList [c] = (x.data.toList, y.data.toList, t)) (w0 w : World) (hm : Mx w0) (hb : Below w0.heap.size w0 w) :
    Calls Tryz.prog 43 #[.string s, .string ⟨#[c]⟩] w fun e w' => e = .returned (.tuple #[.string x, .string y, .bool t]) ∧ Below w.heap.size w w' := by
  obtain ⟨m, hm⟩ := hm.below hb
  refine (Tryz.strings_Cut s ⟨#[c]⟩ m w hs hm).mono ?_
  rintro e w' ⟨he, n, rfl⟩
  rw [show (ByteArray.mk #[c]).data.toList = [c] from rfl, h] at he
  exact ⟨he, below_drewN (Below.refl _ _) n⟩
def CutIs (c : UInt8) (s x y : ByteArray) (t : Bool) : Prop := s.size < 4294967281 ∧ Lib.cut s.data.toList [c] = (x.data.toList, y.data.toList, t)
theorem CutIs.calls {c : UInt8} {s x y : ByteArray} {t : Bool} (h : CutIs c s x y t) {w0 w : World} (hm : Mx w0) (hb : Below w0.heap.size w0 w) :
    Calls Tryz.prog 43 #[.string s, .string ⟨#[c]⟩] w fun e w' => e = .returned (.tuple #[.string x, .string y, .bool t]) ∧ Below w.heap.size w w' := cut_calls c s x y t h.1 h.2 w0 w hm hb
def zeroE : Value := .agg #[.int .u8 0, .int .u8 0, .int .u8 0, .int .u8 0, .int .i64 0]
/-- What Read hands back, taken apart. -/
theorem readR_form (o : Option (Nat × Nat × Nat × Nat × Nat)) : ∃ (a b c d : Nat) (p : Nat) (t : Bool), readR o = .tuple #[.agg #[.int .u8 a, .int .u8 b, .int .u8 c, .int .u8 d, .int .i64 p], .bool t] := by
  cases o with
  | none => exact ⟨0, 0, 0, 0, 0, false, rfl⟩
  | some x => obtain ⟨a, b, c, d, p⟩ := x; exact ⟨a, b, c, d, p, true, rfl⟩

set_option maxHeartbeats 2000000 in
set_option maxRecDepth 100000 in
theorem find_calls (s : ByteArray) (hs : s.size ≤ 1000000) (w : World) (hm : Mx w) :
    Calls Tryz.prog 22 #[.string s] w fun e w' => e = .returned (readR (find s.data.toList)) ∧ Below w.heap.size w w' := by
  have HM := Aside0.mk hm
  have HB := Aside0.mk (show Below w.heap.size w (w.alloc (.cells #[.int .u8 0, .int .u8 0, .int .u8 0, .int .u8 0, .int .i64 0] 30)) from (Below.refl _ _).alloc (Nat.le_refl _) _)
  have HZ := Aside0.mk (show (w.alloc (.cells #[.int .u8 0, .int .u8 0, .int .u8 0, .int .u8 0, .int .i64 0] 30)).heap[w.heap.size]? = some (.cells #[.int .u8 0, .int .u8 0, .int .u8 0, .int .u8 0, .int .i64 0] 30 (0, 0)) from blk_new _ _)
  have hl := data_length s
  cases h1 : cut1 40 s.data.toList with
  | none =>
    have HC1 := Aside0.mk (show CutIs 40 s s ⟨#[]⟩ false from ⟨by omega, by rw [lib_cut, h1]⟩)
    have HC2 := Aside0.mk (show CutIs 41 ⟨#[]⟩ ⟨#[]⟩ ⟨#[]⟩ false from ⟨by decide, by decide⟩)
    have HF := Aside0.mk (show readR (find s.data.toList) = readR none from by rw [find, h1]; rfl)
    clear h1 hl hm
    go_enter Tryz.func22, Tryz.ntmps22
    go_wp2_with (first
      | (go_at_call 43; with_reducible refine (HC1.out.calls HM.out HB.out).mono ?_; rintro e w1 ⟨rfl, hb⟩; replace HB := Aside0.mk (HB.out.trans (hb.mono HB.out.size)); replace HZ := Aside0.mk (blk_below HZ.out hb); clear hb)
      | (go_at_call 43; with_reducible refine (HC2.out.calls HM.out HB.out).mono ?_; rintro e w2 ⟨rfl, hb⟩; replace HB := Aside0.mk (HB.out.trans (hb.mono HB.out.size)); replace HZ := Aside0.mk (blk_below HZ.out hb); clear hb; have zf0 := blk_frozen HZ.out 0; have zc0 : w2.cell? ⟨w.heap.size, 0, none⟩ = some (.int .u8 0) := (blk_cell HZ.out 0).trans rfl; have zf1 := blk_frozen HZ.out 1; have zc1 : w2.cell? ⟨w.heap.size, 1, none⟩ = some (.int .u8 0) := (blk_cell HZ.out 1).trans rfl; have zf2 := blk_frozen HZ.out 2; have zc2 : w2.cell? ⟨w.heap.size, 2, none⟩ = some (.int .u8 0) := (blk_cell HZ.out 2).trans rfl; have zf3 := blk_frozen HZ.out 3; have zc3 : w2.cell? ⟨w.heap.size, 3, none⟩ = some (.int .u8 0) := (blk_cell HZ.out 3).trans rfl; have zf4 := blk_frozen HZ.out 4; have zc4 : w2.cell? ⟨w.heap.size, 4, none⟩ = some (.int .i64 0) := (blk_cell HZ.out 4).trans rfl; have tok := trivial))
    try simp only [Exit.inBlock, Exit.then]
    refine bodyPost_ret (res_find _ _ w.heap.size 0 0 0 0 0 false rfl rfl (blk_put (blk_put (blk_put (blk_put (blk_put HZ.out 0 _ rfl) 1 _ rfl) 2 _ rfl) 3 _ rfl) 4 _ rfl)) rfl ⟨?_, ?_⟩
    · first | (rw [HF.out]; rfl) | (rw [HF.out]) | rfl
    · exact ((((HB.out.setCell (Nat.le_refl _) _).setCell (Nat.le_refl _) _).setCell (Nat.le_refl _) _).setCell (Nat.le_refl _) _).setCell (Nat.le_refl _) _
  | some xr =>
    obtain ⟨a, r⟩ := xr
    have hi := (cut1_is h1).1
    have hrl : r.length ≤ s.data.toList.length := by rw [hi]; simp; omega
    cases h2 : cut1 41 r with
    | none =>
      have HC1 := Aside0.mk (show CutIs 40 s ⟨a.toArray⟩ ⟨r.toArray⟩ true from ⟨by omega, by rw [lib_cut, h1]⟩)
      have HC2 := Aside0.mk (show CutIs 41 ⟨r.toArray⟩ ⟨r.toArray⟩ ⟨#[]⟩ false from ⟨by rw [← data_length]; show r.length < _; omega, by rw [lib_cut]; show (match cut1 41 r with | some (a, b) => (a, b, true) | none => (r, [], false)) = _; rw [h2]⟩)
      have HF := Aside0.mk (show readR (find s.data.toList) = readR none from by rw [find, h1]; show readR ((cut1 41 r).bind fun y => readSix y.1) = _; rw [h2]; rfl)
      clear h1 h2 hl hm hi hrl
      go_enter Tryz.func22, Tryz.ntmps22
      go_wp2_with (first
        | (go_at_call 43; with_reducible refine (HC1.out.calls HM.out HB.out).mono ?_; rintro e w1 ⟨rfl, hb⟩; replace HB := Aside0.mk (HB.out.trans (hb.mono HB.out.size)); replace HZ := Aside0.mk (blk_below HZ.out hb); clear hb)
        | (go_at_call 43; with_reducible refine (HC2.out.calls HM.out HB.out).mono ?_; rintro e w2 ⟨rfl, hb⟩; replace HB := Aside0.mk (HB.out.trans (hb.mono HB.out.size)); replace HZ := Aside0.mk (blk_below HZ.out hb); clear hb; have zf0 := blk_frozen HZ.out 0; have zc0 : w2.cell? ⟨w.heap.size, 0, none⟩ = some (.int .u8 0) := (blk_cell HZ.out 0).trans rfl; have zf1 := blk_frozen HZ.out 1; have zc1 : w2.cell? ⟨w.heap.size, 1, none⟩ = some (.int .u8 0) := (blk_cell HZ.out 1).trans rfl; have zf2 := blk_frozen HZ.out 2; have zc2 : w2.cell? ⟨w.heap.size, 2, none⟩ = some (.int .u8 0) := (blk_cell HZ.out 2).trans rfl; have zf3 := blk_frozen HZ.out 3; have zc3 : w2.cell? ⟨w.heap.size, 3, none⟩ = some (.int .u8 0) := (blk_cell HZ.out 3).trans rfl; have zf4 := blk_frozen HZ.out 4; have zc4 : w2.cell? ⟨w.heap.size, 4, none⟩ = some (.int .i64 0) := (blk_cell HZ.out 4).trans rfl; have tok := trivial))
      try simp only [Exit.inBlock, Exit.then]
      refine bodyPost_ret (res_find _ _ w.heap.size 0 0 0 0 0 false rfl rfl (blk_put (blk_put (blk_put (blk_put (blk_put HZ.out 0 _ rfl) 1 _ rfl) 2 _ rfl) 3 _ rfl) 4 _ rfl)) rfl ⟨?_, ?_⟩
      · first | (rw [HF.out]; rfl) | (rw [HF.out]) | rfl
      · exact ((((HB.out.setCell (Nat.le_refl _) _).setCell (Nat.le_refl _) _).setCell (Nat.le_refl _) _).setCell (Nat.le_refl _) _).setCell (Nat.le_refl _) _
    | some yr =>
      obtain ⟨m, r2⟩ := yr
      have hi2 := (cut1_is h2).1
      have hml : m.length ≤ r.length := by rw [hi2]; simp
      have HC1 := Aside0.mk (show CutIs 40 s ⟨a.toArray⟩ ⟨r.toArray⟩ true from ⟨by omega, by rw [lib_cut, h1]⟩)
      have HC2 := Aside0.mk (show CutIs 41 ⟨r.toArray⟩ ⟨m.toArray⟩ ⟨r2.toArray⟩ true from ⟨by rw [← data_length]; show r.length < _; omega, by rw [lib_cut]; show (match cut1 41 r with | some (a, b) => (a, b, true) | none => (r, [], false)) = _; rw [h2]⟩)
      have HRS := Aside0.mk (show (⟨m.toArray⟩ : ByteArray).size < 4294967281 from by rw [← data_length]; show m.length < _; omega)
      obtain ⟨a1, b1, c1, d1, p1, t1, hrv⟩ := readR_form (readSix m)
      have HRV := Aside0.mk (show readR (readSix (⟨m.toArray⟩ : ByteArray).data.toList) = .tuple #[.agg #[.int .u8 a1, .int .u8 b1, .int .u8 c1, .int .u8 d1, .int .i64 p1], .bool t1] from hrv)
      have HF := Aside0.mk (show readR (find s.data.toList) = .tuple #[.agg #[.int .u8 a1, .int .u8 b1, .int .u8 c1, .int .u8 d1, .int .i64 p1], .bool t1] from by rw [find, h1]; show readR ((cut1 41 r).bind fun y => readSix y.1) = _; rw [h2]; exact hrv)
      clear h1 h2 hl hm hi hrl hi2 hml hrv
      go_enter Tryz.func22, Tryz.ntmps22
      go_wp2_with (first
        | (go_at_call 43; with_reducible refine (HC1.out.calls HM.out HB.out).mono ?_; rintro e w1 ⟨rfl, hb⟩; replace HB := Aside0.mk (HB.out.trans (hb.mono HB.out.size)); replace HZ := Aside0.mk (blk_below HZ.out hb); clear hb)
        | (go_at_call 43; with_reducible refine (HC2.out.calls HM.out HB.out).mono ?_; rintro e w2 ⟨rfl, hb⟩; replace HB := Aside0.mk (HB.out.trans (hb.mono HB.out.size)); replace HZ := Aside0.mk (blk_below HZ.out hb); clear hb; have zf0 := blk_frozen HZ.out 0; have zc0 : w2.cell? ⟨w.heap.size, 0, none⟩ = some (.int .u8 0) := (blk_cell HZ.out 0).trans rfl; have zf1 := blk_frozen HZ.out 1; have zc1 : w2.cell? ⟨w.heap.size, 1, none⟩ = some (.int .u8 0) := (blk_cell HZ.out 1).trans rfl; have zf2 := blk_frozen HZ.out 2; have zc2 : w2.cell? ⟨w.heap.size, 2, none⟩ = some (.int .u8 0) := (blk_cell HZ.out 2).trans rfl; have zf3 := blk_frozen HZ.out 3; have zc3 : w2.cell? ⟨w.heap.size, 3, none⟩ = some (.int .u8 0) := (blk_cell HZ.out 3).trans rfl; have zf4 := blk_frozen HZ.out 4; have zc4 : w2.cell? ⟨w.heap.size, 4, none⟩ = some (.int .i64 0) := (blk_cell HZ.out 4).trans rfl; have tok := trivial)
        | (go_at_call 15; clear zf0 zc0; clear zf1 zc1; clear zf2 zc2; clear zf3 zc3; clear zf4 zc4; refine (read_calls _ HRS.out _ (HM.out.below HB.out)).mono ?_; rw [HRV.out]; rintro e w3 ⟨rfl, hb⟩; replace HB := Aside0.mk (HB.out.trans (hb.mono HB.out.size)); replace HZ := Aside0.mk (blk_below HZ.out hb); clear hb; have zf0 := blk_frozen HZ.out 0; have zc0 : w3.cell? ⟨w.heap.size, 0, none⟩ = some (.int .u8 0) := (blk_cell HZ.out 0).trans rfl; have zf1 := blk_frozen HZ.out 1; have zc1 : w3.cell? ⟨w.heap.size, 1, none⟩ = some (.int .u8 0) := (blk_cell HZ.out 1).trans rfl; have zf2 := blk_frozen HZ.out 2; have zc2 : w3.cell? ⟨w.heap.size, 2, none⟩ = some (.int .u8 0) := (blk_cell HZ.out 2).trans rfl; have zf3 := blk_frozen HZ.out 3; have zc3 : w3.cell? ⟨w.heap.size, 3, none⟩ = some (.int .u8 0) := (blk_cell HZ.out 3).trans rfl; have zf4 := blk_frozen HZ.out 4; have zc4 : w3.cell? ⟨w.heap.size, 4, none⟩ = some (.int .i64 0) := (blk_cell HZ.out 4).trans rfl; have tok2 := trivial))
      try simp only [Exit.inBlock, Exit.then]
      refine bodyPost_ret (res_find _ _ w.heap.size a1 b1 c1 d1 p1 t1 rfl rfl (blk_put (blk_put (blk_put (blk_put (blk_put HZ.out 0 _ rfl) 1 _ rfl) 2 _ rfl) 3 _ rfl) 4 _ rfl)) rfl ⟨?_, ?_⟩
      · first | (rw [HF.out]; rfl) | (rw [HF.out]) | rfl
      · exact ((((HB.out.setCell (Nat.le_refl _) _).setCell (Nat.le_refl _) _).setCell (Nat.le_refl _) _).setCell (Nat.le_refl _) _).setCell (Nat.le_refl _) _
end Go.Proofs.YtdcbkeihgbekdaaGreatDoor.Six

namespace Go.Proofs.YtdcbkeihgbekdaaGreatDoor.Ext
open Go Go.RowKit Go.Proofs.YtdcbkeihgbekdaaGreatDoorW.PrintWords Go.Proofs.YtdcbkeihgbekdaaGreatDoorW.PrintLast Go.Proofs.YtdcbkeihgbekdaaGreatDoorW.PrintMore Go.Proofs.YtdcbkeihgbekdaaGreatDoor.Dig Go.Proofs.YtdcbkeihgbekdaaGreatDoor.Quad Go.Proofs.YtdcbkeihgbekdaaGreatDoor.ExtP Go.Proofs.YtdcbkeihgbekdaaGreatDoor.SixP
set_option linter.unusedVariables false
set_option linter.unusedSimpArgs false

/-- The next byte, in a text that has none so far. -/
theorem not_next {b : UInt8} {l : List UInt8} {f k : Nat} (h : b ∉ (l.take k).drop f) (hf : f ≤ k) (hk : k < l.length) (hb : l[k] ≠ b) : b ∉ (l.take (k + 1)).drop f := by
  rw [List.take_succ_eq_append_getElem hk, List.drop_append_of_le_length (by rw [List.length_take]; omega), List.mem_append, List.mem_singleton]
  exact fun e => e.elim h (fun e => hb e.symm)
/-- What stands between the first brackets. -/
def between (l : List UInt8) : Option (List UInt8) := (cut1 40 l).bind fun x => (cut1 41 x.2).map fun y => y.1
def insideR (o : Option (List UInt8)) : Value := match o with
  | some m => .tuple #[str m, .bool true]
  | none => .tuple #[str [], .bool false]
theorem findE_between (l : List UInt8) : findE l = (between l).bind inner := by
  unfold findE between
  cases cut1 40 l with
  | none => rfl
  | some x => simp only [Option.bind_some]; cases cut1 41 x.2 <;> rfl

set_option maxHeartbeats 2000000 in
set_option maxRecDepth 100000 in
theorem inside_calls (s : ByteArray) (hs : s.size ≤ 1000000) (w : World) :
    Calls Tryz.prog 48 #[.string s] w fun e w' => e = .returned (insideR (between s.data.toList)) ∧ w' = w := by
  have HS := Aside0.mk hs
  have HL := Aside0.mk (data_length s)
  clear hs
  go_enter Tryz.func48, Tryz.ntmps48
  go_wp2
  go_loop [4] (fun i_ => ∃ k : Nat, k ≤ s.size ∧ i_ = .int .i64 k ∧ Aside0 (40 ∉ (s.data.toList.take k).drop 0)) (fun i_ => s.size - (intOf i_).toNat)
  case atStart => exact ⟨0, Nat.zero_le _, rfl, ⟨by simp⟩⟩
  case round =>
    obtain ⟨k, hk, rfl, HA⟩ := hrel
    by_cases hlt : k < s.size
    · have hk6 : k < 1000000 := by have := HS.out; omega
      have hk' : k < s.data.toList.length := by rw [HL.out]; exact hlt
      obtain ⟨c, hc⟩ : ∃ c, c = s.data.toList[k] := ⟨_, rfl⟩
      obtain ⟨x, hx⟩ : ∃ x : Nat, x = c.toNat := ⟨_, rfl⟩
      have hckc : ∀ h : k < s.size, ((s[k]'h).toNat : Int) = (x : Int) := fun h => by rw [hx, hc, ← bt_byte s k hk']; exact bt_at s k h
      by_cases h40 : c = 40
      · have hcmp : ((x : Int) == 40) = true := by rw [hx, h40]; rfl
        have hsplit : s.data.toList = s.data.toList.take k ++ 40 :: s.data.toList.drop (k + 1) := by
          conv => lhs; rw [← List.take_append_drop k s.data.toList]
          rw [List.drop_eq_getElem_cons hk', ← hc, h40]
        have HC1 := Aside0.mk (show cut1 40 s.data.toList = some (s.data.toList.take k, s.data.toList.drop (k + 1)) from by
          conv => lhs; rw [hsplit]
          exact cut1_some _ (by have := HA.out; rwa [List.drop_zero] at this))
        clear hc hx h40 hk' hsplit
        go_wp2
        go_loop [5] (fun j_ => ∃ j : Nat, k + 1 ≤ j ∧ j ≤ s.size ∧ j_ = .int .i64 j ∧ Aside0 (41 ∉ (s.data.toList.take j).drop (k + 1))) (fun j_ => s.size - (intOf j_).toNat)
        case atStart => exact ⟨k + 1, Nat.le_refl _, by omega, by go_num, ⟨by simp⟩⟩
        case round =>
          obtain ⟨j, hkj, hj, rfl, HA2⟩ := hrel
          clear hcmp hckc
          by_cases hltj : j < s.size
          · have hj6 : j < 1000000 := by have := HS.out; omega
            have hj' : j < s.data.toList.length := by rw [HL.out]; exact hltj
            obtain ⟨c, hc⟩ : ∃ c, c = s.data.toList[j] := ⟨_, rfl⟩
            obtain ⟨x, hx⟩ : ∃ x : Nat, x = c.toNat := ⟨_, rfl⟩
            have hckc : ∀ h : j < s.size, ((s[j]'h).toNat : Int) = (x : Int) := fun h => by rw [hx, hc, ← bt_byte s j hj']; exact bt_at s j h
            by_cases h41 : c = 41
            · have hcmp : ((x : Int) == 41) = true := by rw [hx, h41]; rfl
              obtain ⟨m, hm⟩ : ∃ m, m = (s.data.toList.take j).drop (k + 1) := ⟨_, rfl⟩
              have hsplit : s.data.toList.drop (k + 1) = m ++ 41 :: s.data.toList.drop (j + 1) := by
                rw [take_split s.data.toList j (k + 1) hkj (by omega), ← hm, List.drop_eq_getElem_cons hj', ← hc, h41]
              have hc2 : cut1 41 (s.data.toList.drop (k + 1)) = some (m, s.data.toList.drop (j + 1)) := by
                rw [hsplit]; exact cut1_some _ (by rw [hm]; exact HA2.out)
              have hmr : between s.data.toList = some m := by
                rw [between, HC1.out]; show (cut1 41 (s.data.toList.drop (k + 1))).map _ = _; rw [hc2]; rfl
              obtain ⟨M, hM⟩ : ∃ M : ByteArray, M = ⟨m.toArray⟩ := ⟨_, rfl⟩
              have hsl : ∀ W, (Instr.slice 9 (.string s) (some (.int .i64 ((k : Int) + 1))) (some (.int .i64 j)) none).run Tryz.prog W = .ok (.string M) W := fun W => by rw [hM, hm]; exact slice_fk s (k + 1) j hkj (by omega) W
              have HF := Aside0.mk (show insideR (between s.data.toList) = .tuple #[.string M, .bool true] from by rw [hmr, hM]; rfl)
              clear hc hx h41 hj' hsplit hc2 hmr hM hm
              go_wp2
              go_ret2
              exact ⟨by rw [HF.out]; rfl, rfl⟩
            · have hcmp : ((x : Int) == 41) = false := by
                refine beq_eq_false_iff_ne.2 fun e => h41 (UInt8.toNat_inj.1 ?_)
                rw [← hx]; have e2 : (41 : UInt8).toNat = 41 := rfl
                omega
              have HA3 := Aside0.mk (not_next HA2.out hkj hj' (by rw [← hc]; exact h41))
              clear hc hx h41 hj'
              go_wp2
              go_round
              case rel => exact ⟨j + 1, by omega, by omega, by go_num, HA3⟩
              case measure => simp [intOf]; omega
          · obtain rfl : j = s.size := by omega
            have HF := Aside0.mk (show insideR (between s.data.toList) = .tuple #[str [], .bool false] from by
              rw [between, HC1.out]
              show insideR ((cut1 41 (s.data.toList.drop (k + 1))).map _) = _
              have := HA2.out
              rw [List.take_of_length_le (by rw [HL.out]; exact Nat.le_refl _)] at this
              rw [cut1_none this]; rfl)
            go_wp2
            go_ret2
            exact ⟨by rw [HF.out]; rfl, rfl⟩
      · have hcmp : ((x : Int) == 40) = false := by
          refine beq_eq_false_iff_ne.2 fun e => h40 (UInt8.toNat_inj.1 ?_)
          rw [← hx]; have e2 : (40 : UInt8).toNat = 40 := rfl
          omega
        have HA3 := Aside0.mk (not_next HA.out (Nat.zero_le _) hk' (by rw [← hc]; exact h40))
        clear hc hx h40 hk'
        go_wp2
        go_round
        case rel => exact ⟨k + 1, by omega, by go_num, HA3⟩
        case measure => simp [intOf]; omega
    · obtain rfl : k = s.size := by omega
      have HF := Aside0.mk (show insideR (between s.data.toList) = .tuple #[str [], .bool false] from by
        have := HA.out
        rw [List.drop_zero, List.take_of_length_le (by rw [HL.out]; exact Nat.le_refl _)] at this
        rw [between, cut1_none this]; rfl)
      go_wp2
      go_ret2
      exact ⟨by rw [HF.out]; rfl, rfl⟩
end Go.Proofs.YtdcbkeihgbekdaaGreatDoor.Ext

namespace Go.Proofs.YtdcbkeihgbekdaaGreatDoor.Ext
open Go Go.Proofs.YtdcbkeihgbekdaaGreatDoor.Dig Go.Proofs.YtdcbkeihgbekdaaGreatDoor.Cut Go.Proofs.YtdcbkeihgbekdaaGreatDoor.ExtP Go.Proofs.YtdcbkeihgbekdaaGreatDoor.SixP
set_option linter.unusedVariables false
set_option linter.unusedSimpArgs false

theorem inner_short {l : List UInt8} (h : l.length < 5) : inner l = none := by
  match l, h with
  | [], _ => rfl
  | [a], _ => show (if isMark a = false then none else none) = none; split <;> rfl
  | [a, b], _ => show (if isMark a = false then none else none) = none; split <;> rfl
  | [a, b, c], _ =>
    show (if isMark a = false then none else if b = a ∧ c = a ∧ ([] : List UInt8).getLast? = some a then _ else none) = none
    split
    · rfl
    · rw [if_neg (by simp)]
  | [a, b, c, d], _ =>
    show (if isMark a = false then none else if b = a ∧ c = a ∧ [d].getLast? = some a then (getMost 65535 ([d].dropLast)).bind (fun n => if n = 0 then none else some n) else none) = none
    split
    · rfl
    · split
      · rfl
      · rfl
theorem inner_eq (m x y : UInt8) (z : List UInt8) : inner (m :: x :: y :: z) = if isMark m = false then none else if x = m ∧ y = m ∧ z.getLast? = some m then (getMost 65535 z.dropLast).bind (fun n => if n = 0 then none else some n) else none := rfl
/-- How the reference comes to it. -/
theorem inner_goes (m x y v : UInt8) (z : List UInt8) (hv : z.getLast? = some v) : (isMark m = false ∧ inner (m :: x :: y :: z) = none) ∨ (isMark m = true ∧ x ≠ m ∧ inner (m :: x :: y :: z) = none) ∨
    (isMark m = true ∧ x = m ∧ y ≠ m ∧ inner (m :: x :: y :: z) = none) ∨ (isMark m = true ∧ x = m ∧ y = m ∧ v ≠ m ∧ inner (m :: x :: y :: z) = none) ∨
    (isMark m = true ∧ x = m ∧ y = m ∧ v = m ∧ Dig.get z.dropLast 65535 = (0, false) ∧ inner (m :: x :: y :: z) = none) ∨
    (isMark m = true ∧ x = m ∧ y = m ∧ v = m ∧ Dig.get z.dropLast 65535 = (0, true) ∧ inner (m :: x :: y :: z) = none) ∨
    (∃ n : Nat, isMark m = true ∧ x = m ∧ y = m ∧ v = m ∧ 0 < n ∧ n ≤ 65535 ∧ Dig.get z.dropLast 65535 = ((n : Int), true) ∧ inner (m :: x :: y :: z) = some n) := by
  rw [inner_eq]
  have hg := getMost_get 65535 z.dropLast
  cases hm : isMark m
  · exact .inl ⟨rfl, rfl⟩
  · refine .inr ?_
    rw [if_neg (by decide)]
    by_cases hx : x = m
    · refine .inr ?_
      by_cases hy : y = m
      · refine .inr ?_
        by_cases hv' : v = m
        · refine .inr ?_
          rw [if_pos ⟨hx, hy, by rw [hv, hv']⟩]
          cases hg2 : getMost 65535 z.dropLast with
          | none => rw [hg2] at hg; exact .inl ⟨rfl, hx, hy, hv', hg, rfl⟩
          | some n =>
            rw [hg2] at hg
            have hn := ((getMost_iff 65535 (by decide) _ _).1 hg2).2
            by_cases h0 : n = 0
            · subst h0; exact .inr (.inl ⟨rfl, hx, hy, hv', hg, rfl⟩)
            · exact .inr (.inr ⟨n, rfl, hx, hy, hv', by omega, hn, hg, by simp [h0]⟩)
        · exact .inl ⟨rfl, hx, hy, hv', if_neg (fun h => hv' (by rw [hv] at h; exact Option.some.inj h.2.2))⟩
      · exact .inl ⟨rfl, hx, hy, if_neg (fun h => hy h.2.1)⟩
    · exact .inl ⟨rfl, hx, if_neg (fun h => hx h.1)⟩
/-- How ext comes to it. -/
def rest1 (l : List UInt8) (m : UInt8) : List UInt8 := Lib.trimPrefix l [m, m, m]
def rest2 (l : List UInt8) (m : UInt8) : List UInt8 := Lib.trimSuffix (rest1 l m) [m]
theorem suffix_last (z : List UInt8) (m : UInt8) : Lib.hasSuffix z [m] = true ↔ z.getLast? = some m := by
  rw [Lib.hasSuffix, List.isSuffixOf_iff_suffix, List.getLast?_eq_some_iff]
  constructor
  · rintro ⟨t, ht⟩; exact ⟨t, ht.symm⟩
  · rintro ⟨t, ht⟩; exact ⟨t, ht.symm⟩
theorem inner_ext (m : UInt8) (r : List UInt8) : isMark m = true → inner (m :: r) = if Lib.hasPrefix (m :: r) [m, m, m] = true ∧ Lib.hasSuffix (rest1 (m :: r) m) [m] = true then (getMost 65535 (rest2 (m :: r) m)).bind (fun n => if n = 0 then none else some n) else none := by
  intro hm
  match r with
  | [] =>
    rw [inner_short (by simp), if_neg]
    intro h; simp [Lib.hasPrefix, List.isPrefixOf] at h
  | [x] =>
    rw [inner_short (by simp), if_neg]
    intro h; simp [Lib.hasPrefix, List.isPrefixOf] at h
  | x :: y :: z =>
    have hp : Lib.hasPrefix (m :: x :: y :: z) [m, m, m] = true ↔ x = m ∧ y = m := by
      simp [Lib.hasPrefix, List.isPrefixOf]
      constructor
      · rintro ⟨h1, h2⟩; exact ⟨h1.symm, h2.symm⟩
      · rintro ⟨h1, h2⟩; exact ⟨h1.symm, h2.symm⟩
    rw [inner_eq, if_neg (by rw [hm]; decide)]
    by_cases hxy : x = m ∧ y = m
    · have h1 := hp.2 hxy
      have hr1 : rest1 (m :: x :: y :: z) m = z := by rw [rest1, Lib.trimPrefix, if_pos h1]; rfl
      rw [hr1]
      by_cases hz : z.getLast? = some m
      · have hr2 : rest2 (m :: x :: y :: z) m = z.dropLast := by
          rw [rest2, hr1, Lib.trimSuffix, if_pos ((suffix_last z m).2 hz), List.dropLast_eq_take]; rfl
        rw [if_pos ⟨hxy.1, hxy.2, hz⟩, if_pos ⟨h1, (suffix_last z m).2 hz⟩, hr2]
      · rw [if_neg (fun h => hz h.2.2), if_neg (fun h => hz ((suffix_last z m).1 h.2))]
    · rw [if_neg (fun h => hxy ⟨h.1, h.2.1⟩), if_neg (fun h => hxy (hp.1 h.1))]
/-- What Find hands back. -/
def findR (o : Option Nat) : Value := match o with
  | some n => .tuple #[.int .i64 n, .bool true]
  | none => .tuple #[.int .i64 0, .bool false]
end Go.Proofs.YtdcbkeihgbekdaaGreatDoor.Ext

namespace Go.Proofs.YtdcbkeihgbekdaaGreatDoor.Ext
open Go Go.RowKit Go.Proofs.YtdcbkeihgbekdaaGreatDoorW.PrintWords Go.Proofs.YtdcbkeihgbekdaaGreatDoorW.PrintLast Go.Proofs.YtdcbkeihgbekdaaGreatDoorW.PrintMore Go.Proofs.YtdcbkeihgbekdaaGreatDoor.Dig Go.Proofs.YtdcbkeihgbekdaaGreatDoor.Quad Go.Proofs.YtdcbkeihgbekdaaGreatDoor.ExtP Go.Proofs.YtdcbkeihgbekdaaGreatDoor.SixP
set_option linter.unusedVariables false
set_option linter.unusedSimpArgs false

/-- strings.Cut by one byte, as it is met. -/
theorem cut_calls (c : UInt8) (s x y : ByteArray) (t : Bool) (hs : s.size < 4294967281) (h : Lib.cut s.data.toList [c] = (x.data.toList, y.data.toList, t)) (w0 w : World) (hm : Mx w0) (hb : Below w0.heap.size w0 w) :
    Calls Tryz.prog 43 #[.string s, .string ⟨#[c]⟩] w fun e w' => e = .returned (.tuple #[.string x, .string y, .bool t]) ∧ Below w.heap.size w w' := by
  obtain ⟨m, hm⟩ := hm.below hb
  refine (Tryz.strings_Cut s ⟨#[c]⟩ m w hs hm).mono ?_
  rintro e w' ⟨he, n, rfl⟩
  rw [show (ByteArray.mk #[c]).data.toList = [c] from rfl, h] at he
  exact ⟨he, below_drewN (Below.refl _ _) n⟩
def CutIs (c : UInt8) (s x y : ByteArray) (t : Bool) : Prop := s.size < 4294967281 ∧ Lib.cut s.data.toList [c] = (x.data.toList, y.data.toList, t)
theorem CutIs.calls {c : UInt8} {s x y : ByteArray} {t : Bool} (h : CutIs c s x y t) {w0 w : World} (hm : Mx w0) (hb : Below w0.heap.size w0 w) :
    Calls Tryz.prog 43 #[.string s, .string ⟨#[c]⟩] w fun e w' => e = .returned (.tuple #[.string x, .string y, .bool t]) ∧ Below w.heap.size w w' := cut_calls c s x y t h.1 h.2 w0 w hm hb
theorem slice_1 (s : ByteArray) (X : ByteArray) (hs : 1 ≤ s.size) (hX : X.data.toList = s.data.toList.take 1) (W : World) : (Instr.slice 9 (.string s) none (some (.int .i64 1)) none).run Tryz.prog W = .ok (.string X) W := by
  rw [run_slice_string_to_if W 9 s .i64 1 Tryz.underlying9, if_pos (by omega)]
  rw [show (1 : Int).toNat = 1 from rfl, piece_of s 0 1 hs, List.drop_zero, ← hX]

set_option maxHeartbeats 2000000 in
set_option maxRecDepth 100000 in
theorem find_calls (s : ByteArray) (hs : s.size ≤ 1000000) (w : World) (hm : Mx w) :
    Calls Tryz.prog 23 #[.string s] w fun e w' => e = .returned (findR (findE s.data.toList)) ∧ Below w.heap.size w w' := by
  have HM := Aside0.mk hm
  have HB := Aside0.mk (Below.refl w.heap.size w)
  have hl := data_length s
  cases h1 : cut1 40 s.data.toList with
  | none =>
    have HC1 := Aside0.mk (show CutIs 40 s s ⟨#[]⟩ false from ⟨by omega, by rw [lib_cut, h1]⟩)
    have HC2 := Aside0.mk (show CutIs 41 ⟨#[]⟩ ⟨#[]⟩ ⟨#[]⟩ false from ⟨by decide, by decide⟩)
    have HF := Aside0.mk (show findR (findE s.data.toList) = findR none from by rw [findE, h1]; rfl)
    clear h1 hl hm
    go_enter Tryz.func23, Tryz.ntmps23
    go_wp2_with (first
      | (go_at_call 43; with_reducible refine (HC1.out.calls HM.out HB.out).mono ?_; rintro e w1 ⟨rfl, hb⟩; replace HB := Aside0.mk (HB.out.trans (hb.mono HB.out.size)); clear hb)
      | (go_at_call 43; with_reducible refine (HC2.out.calls HM.out HB.out).mono ?_; rintro e w2 ⟨rfl, hb⟩; replace HB := Aside0.mk (HB.out.trans (hb.mono HB.out.size)); clear hb))
    go_ret2
    exact ⟨by rw [HF.out]; rfl, HB.out⟩
  | some xr =>
    obtain ⟨a, r⟩ := xr
    have hi := (cut1_is h1).1
    have hrl : r.length ≤ s.data.toList.length := by rw [hi]; simp; omega
    cases h2 : cut1 41 r with
    | none =>
      have HC1 := Aside0.mk (show CutIs 40 s ⟨a.toArray⟩ ⟨r.toArray⟩ true from ⟨by omega, by rw [lib_cut, h1]⟩)
      have HC2 := Aside0.mk (show CutIs 41 ⟨r.toArray⟩ ⟨r.toArray⟩ ⟨#[]⟩ false from ⟨by rw [← data_length]; show r.length < _; omega, by rw [lib_cut]; show (match cut1 41 r with | some (a, b) => (a, b, true) | none => (r, [], false)) = _; rw [h2]⟩)
      have HF := Aside0.mk (show findR (findE s.data.toList) = findR none from by rw [findE, h1]; show findR ((cut1 41 r).bind fun y => inner y.1) = _; rw [h2]; rfl)
      obtain ⟨A, hA⟩ : ∃ A : ByteArray, A = ⟨a.toArray⟩ := ⟨_, rfl⟩
      obtain ⟨R, hR⟩ : ∃ R : ByteArray, R = ⟨r.toArray⟩ := ⟨_, rfl⟩
      rw [← hA, ← hR] at HC1
      rw [← hR] at HC2
      clear h1 h2 hl hm hi hrl hA hR
      go_enter Tryz.func23, Tryz.ntmps23
      go_wp2_with (first
        | (go_at_call 43; with_reducible refine (HC1.out.calls HM.out HB.out).mono ?_; rintro e w1 ⟨rfl, hb⟩; replace HB := Aside0.mk (HB.out.trans (hb.mono HB.out.size)); clear hb)
        | (go_at_call 43; with_reducible refine (HC2.out.calls HM.out HB.out).mono ?_; rintro e w2 ⟨rfl, hb⟩; replace HB := Aside0.mk (HB.out.trans (hb.mono HB.out.size)); clear hb))
      go_ret2
      exact ⟨by rw [HF.out]; rfl, HB.out⟩
    | some yr =>
      obtain ⟨t, r2⟩ := yr
      have hi2 := (cut1_is h2).1
      have hml : t.length ≤ r.length := by rw [hi2]; simp
      have hfe : findE s.data.toList = inner t := by rw [findE, h1]; show ((cut1 41 r).bind fun y => inner y.1) = _; rw [h2]; rfl
      have HC1 := Aside0.mk (show CutIs 40 s ⟨a.toArray⟩ ⟨r.toArray⟩ true from ⟨by omega, by rw [lib_cut, h1]⟩)
      have HC2 := Aside0.mk (show CutIs 41 ⟨r.toArray⟩ ⟨t.toArray⟩ ⟨r2.toArray⟩ true from ⟨by rw [← data_length]; show r.length < _; omega, by rw [lib_cut]; show (match cut1 41 r with | some (a, b) => (a, b, true) | none => (r, [], false)) = _; rw [h2]⟩)
      obtain ⟨A, hA⟩ : ∃ A : ByteArray, A = ⟨a.toArray⟩ := ⟨_, rfl⟩
      obtain ⟨R, hR⟩ : ∃ R : ByteArray, R = ⟨r.toArray⟩ := ⟨_, rfl⟩
      obtain ⟨M, hM⟩ : ∃ M : ByteArray, M = ⟨t.toArray⟩ := ⟨_, rfl⟩
      obtain ⟨R2, hR2⟩ : ∃ R2 : ByteArray, R2 = ⟨r2.toArray⟩ := ⟨_, rfl⟩
      rw [← hA, ← hR] at HC1
      rw [← hR, ← hM, ← hR2] at HC2
      have hMl : M.data.toList = t := by rw [hM]
      have HMl := Aside0.mk (show t.length ≤ 1000000 from by omega)
      clear h1 h2 hl hm hi hrl hA hR hi2 hml hM hR2
      match t, HMl, hMl, hfe with
      | [], HMl, hMl, hfe =>
        have hemp : M.toList = [] := by rw [ByteArray.toList_eq]; exact hMl
        have HF := Aside0.mk (show findR (findE s.data.toList) = findR none from by rw [hfe]; rfl)
        clear hfe hMl
        go_enter Tryz.func23, Tryz.ntmps23
        go_wp2_with (first
          | (go_at_call 43; with_reducible refine (HC1.out.calls HM.out HB.out).mono ?_; rintro e w1 ⟨rfl, hb⟩; replace HB := Aside0.mk (HB.out.trans (hb.mono HB.out.size)); clear hb)
          | (go_at_call 43; with_reducible refine (HC2.out.calls HM.out HB.out).mono ?_; rintro e w2 ⟨rfl, hb⟩; replace HB := Aside0.mk (HB.out.trans (hb.mono HB.out.size)); clear hb))
        go_ret2
        exact ⟨by first | (rw [HF.out]; rfl) | rfl | simp [findR], HB.out⟩
      | m :: l, HMl, hMl, hfe =>
        have hMs : M.size = l.length + 1 := by rw [← data_length, hMl]; rfl
        have hne : M.toList.isEmpty = false := by rw [ByteArray.toList_eq, hMl]; rfl
        have h0s : 0 < M.size := by omega
        have h0c : ∀ h : 0 < M.size, ((M[0]'h).toNat : Int) = (m.toNat : Int) := fun h => by have e := bt_byte M 0 (by rw [hMl]; simp); simp only [hMl, List.getElem_cons_zero] at e; rw [← e]; exact bt_at M 0 h
        have HK0 := Aside0.mk (fun W => mark_calls m W)
        obtain ⟨x, hx⟩ : ∃ x, x = m.toNat := ⟨_, rfl⟩
        rw [← hx] at h0c HK0
        cases hk : isMark m with
        | false =>
          have HF := Aside0.mk (show findR (findE s.data.toList) = findR none from by rw [hfe, show inner (m :: l) = none from if_pos hk])
          have HK := HK0
          rw [hk] at HK
          clear hfe hMl hMs hk hx
          go_enter Tryz.func23, Tryz.ntmps23
          go_wp2_with (first
            | (go_at_call 43; with_reducible refine (HC1.out.calls HM.out HB.out).mono ?_; rintro e w1 ⟨rfl, hb⟩; replace HB := Aside0.mk (HB.out.trans (hb.mono HB.out.size)); clear hb)
            | (go_at_call 43; with_reducible refine (HC2.out.calls HM.out HB.out).mono ?_; rintro e w2 ⟨rfl, hb⟩; replace HB := Aside0.mk (HB.out.trans (hb.mono HB.out.size)); clear hb)
            | (go_at_call 44; refine (HK.out _).mono ?_; rintro e w3 ⟨rfl, hw⟩; obtain rfl := hw.symm))
          go_ret2
          exact ⟨by first | (rw [HF.out]; rfl) | rfl | simp [findR], HB.out⟩
        | true =>
          have HK := HK0
          rw [hk] at HK
          have hin := inner_ext m l hk
          have hgm := getMost_get 65535 (rest2 (m :: l) m)
          obtain ⟨X, hX⟩ : ∃ X : ByteArray, X = ⟨#[m]⟩ := ⟨_, rfl⟩
          have hXs : X.size = 1 := by rw [hX]; rfl
          have hsl : ∀ W, (Instr.slice 9 (.string M) none (some (.int .i64 1)) none).run Tryz.prog W = .ok (.string X) W := slice_1 M X h0s (by rw [hMl, hX]; rfl)
          have hX3 : (X ++ X ++ X).data.toList = [m, m, m] := by rw [hX]; simp
          have hX1 : X.data.toList = [m] := by rw [hX]
          obtain ⟨S1, hS1⟩ : ∃ S1 : ByteArray, S1 = ⟨(rest1 (m :: l) m).toArray⟩ := ⟨_, rfl⟩
          obtain ⟨S2, hS2⟩ : ∃ S2 : ByteArray, S2 = ⟨(rest2 (m :: l) m).toArray⟩ := ⟨_, rfl⟩
          have hS1l : S1.data.toList = rest1 (m :: l) m := by rw [hS1]
          have hS2l : S2.data.toList = rest2 (m :: l) m := by rw [hS2]
          have hS1s : S1.size ≤ 1000000 := by
            rw [← data_length, hS1l, rest1, Lib.trimPrefix]; have := HMl.out
            split
            · rw [List.length_drop]; omega
            · exact this
          obtain ⟨b1, hb1⟩ : ∃ b1, b1 = Lib.hasPrefix (m :: l) [m, m, m] := ⟨_, rfl⟩
          obtain ⟨b2, hb2⟩ : ∃ b2, b2 = Lib.hasSuffix (rest1 (m :: l) m) [m] := ⟨_, rfl⟩
          have HP1 := Aside0.mk (show ∀ W, Calls Tryz.prog 45 #[.string M, .string (X ++ X ++ X)] W fun e w' => e = .returned (.tuple #[.string S1, .bool b1]) ∧ w' = W from fun W => by
            have := Tryz.strings_CutPrefix M (X ++ X ++ X) W
            rw [hX3, hMl, ← hb1] at this
            rw [hS1]; exact this)
          have HP2 := Aside0.mk (show ∀ W, Calls Tryz.prog 46 #[.string S1, .string X] W fun e w' => e = .returned (.tuple #[.string S2, .bool b2]) ∧ w' = W from fun W => by
            have := Tryz.strings_CutSuffix S1 X W (by omega)
            rw [hX1, hS1l, ← hb2] at this
            rw [hS2]; exact this)
          have HG0 := Aside0.mk (fun W => get_calls S2 65535 W)
          have hin2 : inner (m :: l) = if b1 = true ∧ b2 = true then (getMost 65535 (rest2 (m :: l) m)).bind (fun n => if n = 0 then none else some n) else none := by rw [hb1, hb2]; exact hin
          rw [hS2l] at HG0
          clear hS1 hS2 hS1l hS2l hX hX3 hX1 hb1 hb2 hin hMl hMs hx hk hS1s HK0
          rw [hfe, hin2]
          cases hgo : getMost 65535 (rest2 (m :: l) m) with
          | none =>
            rw [hgo] at hgm
            rw [show Dig.get (rest2 (m :: l) m) 65535 = _ from hgm] at HG0
            have HF := Aside0.mk (show findR (if b1 = true ∧ b2 = true then (none : Option Nat).bind (fun n => if n = 0 then none else some n) else none) = findR none from by split <;> rfl)
            clear hgm hgo hfe hin2
            cases b1 <;> cases b2
            all_goals
              go_enter Tryz.func23, Tryz.ntmps23
              go_wp2_with (first
                | (go_at_call 43; with_reducible refine (HC1.out.calls HM.out HB.out).mono ?_; rintro e w1 ⟨rfl, hb⟩; replace HB := Aside0.mk (HB.out.trans (hb.mono HB.out.size)); clear hb)
                | (go_at_call 43; with_reducible refine (HC2.out.calls HM.out HB.out).mono ?_; rintro e w2 ⟨rfl, hb⟩; replace HB := Aside0.mk (HB.out.trans (hb.mono HB.out.size)); clear hb)
                | (go_at_call 44; refine (HK.out _).mono ?_; rintro e w3 ⟨rfl, hw⟩; obtain rfl := hw.symm)
                | (go_at_call 45; refine (HP1.out _).mono ?_; rintro e w3 ⟨rfl, hw⟩; obtain rfl := hw.symm)
                | (go_at_call 46; refine (HP2.out _).mono ?_; rintro e w3 ⟨rfl, hw⟩; obtain rfl := hw.symm)
                | (go_at_call 35; refine (HG0.out _).mono ?_; rintro e w3 ⟨rfl, hw⟩; obtain rfl := hw.symm))
              go_ret2
              exact ⟨by first | (rw [HF.out]; rfl) | rfl | simp [findR], HB.out⟩
          | some n =>
            rw [hgo] at hgm
            rw [show Dig.get (rest2 (m :: l) m) 65535 = _ from hgm] at HG0
            have hn := ((getMost_iff 65535 (by decide) _ _).1 hgo).2
            by_cases h0 : n = 0
            · subst h0
              have HF := Aside0.mk (show findR (if b1 = true ∧ b2 = true then (some 0 : Option Nat).bind (fun n => if n = 0 then none else some n) else none) = findR none from by split <;> rfl)
              have HPT := Aside0.mk (fun W => port_calls ((0 : Nat) : Int) W)
              rw [show decide (0 < ((0 : Nat) : Int) ∧ ((0 : Nat) : Int) ≤ 65535) = false from rfl] at HPT
              clear hgm hgo hfe hin2
              cases b1 <;> cases b2
              all_goals
                go_enter Tryz.func23, Tryz.ntmps23
                go_wp2_with (first
                  | (go_at_call 43; with_reducible refine (HC1.out.calls HM.out HB.out).mono ?_; rintro e w1 ⟨rfl, hb⟩; replace HB := Aside0.mk (HB.out.trans (hb.mono HB.out.size)); clear hb)
                  | (go_at_call 43; with_reducible refine (HC2.out.calls HM.out HB.out).mono ?_; rintro e w2 ⟨rfl, hb⟩; replace HB := Aside0.mk (HB.out.trans (hb.mono HB.out.size)); clear hb)
                  | (go_at_call 44; refine (HK.out _).mono ?_; rintro e w3 ⟨rfl, hw⟩; obtain rfl := hw.symm)
                  | (go_at_call 45; refine (HP1.out _).mono ?_; rintro e w3 ⟨rfl, hw⟩; obtain rfl := hw.symm)
                  | (go_at_call 46; refine (HP2.out _).mono ?_; rintro e w3 ⟨rfl, hw⟩; obtain rfl := hw.symm)
                  | (go_at_call 35; refine (HG0.out _).mono ?_; rintro e w3 ⟨rfl, hw⟩; obtain rfl := hw.symm)
                  | (go_at_call 47; refine (HPT.out _).mono ?_; rintro e w3 ⟨rfl, hw⟩; obtain rfl := hw.symm))
                go_ret2
                exact ⟨by first | (rw [HF.out]; rfl) | rfl | simp [findR], HB.out⟩
            · have HPT := Aside0.mk (fun W => port_calls (n : Int) W)
              rw [decide_eq_true (show 0 < (n : Int) ∧ (n : Int) ≤ 65535 from by omega)] at HPT
              clear hgm hgo hfe hin2
              cases b1 <;> cases b2
              all_goals
                first
                  | have HF := Aside0.mk (show findR (if true = true ∧ true = true then (some n : Option Nat).bind (fun n => if n = 0 then none else some n) else none) = .tuple #[.int .i64 n, .bool true] from by rw [if_pos ⟨rfl, rfl⟩, Option.bind_some, if_neg h0]; rfl)
                  | skip
                go_enter Tryz.func23, Tryz.ntmps23
                go_wp2_with (first
                  | (go_at_call 43; with_reducible refine (HC1.out.calls HM.out HB.out).mono ?_; rintro e w1 ⟨rfl, hb⟩; replace HB := Aside0.mk (HB.out.trans (hb.mono HB.out.size)); clear hb)
                  | (go_at_call 43; with_reducible refine (HC2.out.calls HM.out HB.out).mono ?_; rintro e w2 ⟨rfl, hb⟩; replace HB := Aside0.mk (HB.out.trans (hb.mono HB.out.size)); clear hb)
                  | (go_at_call 44; refine (HK.out _).mono ?_; rintro e w3 ⟨rfl, hw⟩; obtain rfl := hw.symm)
                  | (go_at_call 45; refine (HP1.out _).mono ?_; rintro e w3 ⟨rfl, hw⟩; obtain rfl := hw.symm)
                  | (go_at_call 46; refine (HP2.out _).mono ?_; rintro e w3 ⟨rfl, hw⟩; obtain rfl := hw.symm)
                  | (go_at_call 35; refine (HG0.out _).mono ?_; rintro e w3 ⟨rfl, hw⟩; obtain rfl := hw.symm)
                  | (go_at_call 47; refine (HPT.out _).mono ?_; rintro e w3 ⟨rfl, hw⟩; obtain rfl := hw.symm))
                go_ret2
                exact ⟨by first | (rw [HF.out]; rfl) | rfl | simp [findR, h0], HB.out⟩
end Go.Proofs.YtdcbkeihgbekdaaGreatDoor.Ext

namespace Go.Proofs.YtdcbkeihgbekdaaGreatDoor.Ext
open Go Go.RowKit Go.Proofs.YtdcbkeihgbekdaaGreatDoorW.PrintWords Go.Proofs.YtdcbkeihgbekdaaGreatDoorW.PrintLast Go.Proofs.YtdcbkeihgbekdaaGreatDoorW.PrintMore Go.Proofs.YtdcbkeihgbekdaaGreatDoor.Dig Go.Proofs.YtdcbkeihgbekdaaGreatDoor.Quad Go.Proofs.YtdcbkeihgbekdaaGreatDoor.ExtP Go.Proofs.YtdcbkeihgbekdaaGreatDoor.SixP
set_option linter.unusedVariables false
set_option linter.unusedSimpArgs false

theorem wp_at {P : Program} {c : Code} {Q : Exit → Act → World → Prop} {a : Act} {w : World} (K : World → Prop) (h : K w) (hk : ∀ W, K W → Code.wp P c Q a W) : Code.wp P c Q a w := hk w h
def outV : Out → Value
  | .ok a b c d p => .agg #[.int .u8 a, .int .u8 b, .int .u8 c, .int .u8 d, .int .i64 p]
  | _ => .agg #[.int .u8 0, .int .u8 0, .int .u8 0, .int .u8 0, .int .i64 0]
def outN : Out → Int
  | .ok _ _ _ _ _ => 0
  | .form => 2
  | .kind => 8
theorem res_read (tmps : Array Value) (W : World) (H : Nat) (a b c d p : Int) (e : Value) (h2 : tmps.getD 2 undef = .pointer (some ⟨H, 0, none⟩)) (h3 : tmps.getD 3 undef = e) (hh : W.heap[H]? = some (.cells #[.int .u8 a, .int .u8 b, .int .u8 c, .int .u8 d, .int .i64 p] 30 (0, 0))) :
   (results Tryz.f36 tmps).run Tryz.prog W = .ok (.tuple #[.agg #[.int .u8 a, .int .u8 b, .int .u8 c, .int .u8 d, .int .i64 p], e]) W := by
  have c0 : W.cell? ⟨H, 0, none⟩ = some (.int .u8 a) := (blk_cell hh 0).trans rfl
  have c1 : W.cell? ⟨H, 1, none⟩ = some (.int .u8 b) := (blk_cell hh 1).trans rfl
  have c2 : W.cell? ⟨H, 2, none⟩ = some (.int .u8 c) := (blk_cell hh 2).trans rfl
  have c3 : W.cell? ⟨H, 3, none⟩ = some (.int .u8 d) := (blk_cell hh 3).trans rfl
  have c4 : W.cell? ⟨H, 4, none⟩ = some (.int .i64 p) := (blk_cell hh 4).trans rfl
  rw [Array.getD_eq_getD_getElem?] at h2 h3
  simp [results, show Tryz.f36.results = #[.cell 2 30, .tmp 3] from rfl, h2, h3, go_sem, c0, c1, c2, c3, c4]
/-- The result, still zero, in a block of the call's own. -/
def Rd (w W : World) : Prop := Below w.heap.size w W ∧ W.heap[w.heap.size]? = some (.cells #[.int .u8 0, .int .u8 0, .int .u8 0, .int .u8 0, .int .i64 0] 30 (0, 0))
theorem Rd.start (w : World) : Rd w (w.alloc (.cells #[.int .u8 0, .int .u8 0, .int .u8 0, .int .u8 0, .int .i64 0] 30)) := ⟨(Below.refl _ _).alloc (Nat.le_refl _) _, blk_new w _⟩
theorem Rd.drew {w W : World} (h : Rd w W) : Rd w { W with drawn := W.drawn + 1 } := ⟨h.1.drew, h.2⟩
theorem Rd.below {w W W' : World} (h : Rd w W) (hb : Below W.heap.size W W') : Rd w W' := ⟨h.1.trans (hb.mono h.1.size), blk_below h.2 hb⟩
theorem Rd.facts {w W : World} (h : Rd w W) : W.cell? ⟨w.heap.size, 0, none⟩ = some (.int .u8 0) ∧ W.cell? ⟨w.heap.size, 1, none⟩ = some (.int .u8 0) ∧ W.cell? ⟨w.heap.size, 2, none⟩ = some (.int .u8 0) ∧ W.cell? ⟨w.heap.size, 3, none⟩ = some (.int .u8 0) ∧ W.cell? ⟨w.heap.size, 4, none⟩ = some (.int .i64 0) ∧ W.frozen? ⟨w.heap.size, 0, none⟩ = false ∧ W.frozen? ⟨w.heap.size, 1, none⟩ = false ∧ W.frozen? ⟨w.heap.size, 2, none⟩ = false ∧ W.frozen? ⟨w.heap.size, 3, none⟩ = false ∧ W.frozen? ⟨w.heap.size, 4, none⟩ = false := ⟨(blk_cell h.2 0).trans rfl, (blk_cell h.2 1).trans rfl, (blk_cell h.2 2).trans rfl, (blk_cell h.2 3).trans rfl, (blk_cell h.2 4).trans rfl, blk_frozen h.2 0, blk_frozen h.2 1, blk_frozen h.2 2, blk_frozen h.2 3, blk_frozen h.2 4⟩
theorem Rd.putV {w W : World} (h : Rd w W) (a b c d p : Int) : ((((((W.setCell ⟨w.heap.size, 0, none⟩ (.int .u8 a)).setCell ⟨w.heap.size, 1, none⟩ (.int .u8 b)).setCell ⟨w.heap.size, 2, none⟩ (.int .u8 c)).setCell ⟨w.heap.size, 3, none⟩ (.int .u8 d)).setCell ⟨w.heap.size, 4, none⟩ (.int .i64 p))).heap[w.heap.size]? = some (.cells #[.int .u8 a, .int .u8 b, .int .u8 c, .int .u8 d, .int .i64 p] 30 (0, 0)) := blk_put (blk_put (blk_put (blk_put (blk_put h.2 0 _ rfl) 1 _ rfl) 2 _ rfl) 3 _ rfl) 4 _ rfl
theorem Rd.putB {w W : World} (h : Rd w W) (a b c d p : Int) : Below w.heap.size w ((((((W.setCell ⟨w.heap.size, 0, none⟩ (.int .u8 a)).setCell ⟨w.heap.size, 1, none⟩ (.int .u8 b)).setCell ⟨w.heap.size, 2, none⟩ (.int .u8 c)).setCell ⟨w.heap.size, 3, none⟩ (.int .u8 d)).setCell ⟨w.heap.size, 4, none⟩ (.int .i64 p))) := ((((h.1.setCell (Nat.le_refl _) _).setCell (Nat.le_refl _) _).setCell (Nat.le_refl _) _).setCell (Nat.le_refl _) _).setCell (Nat.le_refl _) _
theorem Rd.putE {w W : World} (h : Rd w W) {ak af : Addr} {n : Int} {e : Value} (he : ErrIs W ak af n e) (a b c d p : Int) : ErrIs ((((((W.setCell ⟨w.heap.size, 0, none⟩ (.int .u8 a)).setCell ⟨w.heap.size, 1, none⟩ (.int .u8 b)).setCell ⟨w.heap.size, 2, none⟩ (.int .u8 c)).setCell ⟨w.heap.size, 3, none⟩ (.int .u8 d)).setCell ⟨w.heap.size, 4, none⟩ (.int .i64 p))) ak af n e :=
  ((((he.put h.2 0 _).put (blk_put h.2 0 _ rfl) 1 _).put (blk_put (blk_put h.2 0 _ rfl) 1 _ rfl) 2 _).put (blk_put (blk_put (blk_put h.2 0 _ rfl) 1 _ rfl) 2 _ rfl) 3 _).put (blk_put (blk_put (blk_put (blk_put h.2 0 _ rfl) 1 _ rfl) 2 _ rfl) 3 _ rfl) 4 _
/-- What reads so. -/
def ReadIs (w : World) (ak af : Addr) (o : Out) (ev : Ending) (w' : World) : Prop := ∃ e, ev = .returned (.tuple #[outV o, e]) ∧ ErrIs w' ak af (outN o) e ∧ Below w.heap.size w w'

set_option maxHeartbeats 4000000 in
set_option maxRecDepth 100000 in
theorem read_short (s : ByteArray) (w : World) (ak af : Addr) (hx : Ex w ak af) (h : s.data.toList = [] ∨ ∃ m l, s.data.toList = m :: l ∧ isMark m = false) :
    Calls Tryz.prog 36 #[.string s] w (ReadIs w ak af (readE s.data.toList)) := by
  have HX := Aside0.mk hx
  clear hx
  rcases h with h | ⟨m, l, h, hk⟩
  · have HF := Aside0.mk (show readE s.data.toList = .form from by rw [h]; rfl)
    have hemp : s.toList = [] := by rw [ByteArray.toList_eq]; exact h
    clear h
    go_enter Tryz.func36, Tryz.ntmps36
    go_wp2
    refine wp_at (fun W => Rd w W) (Rd.start w) (fun W0 hR0 => ?_)
    have HR := Aside0.mk hR0
    clear hR0
    obtain ⟨qc0, qc1, qc2, qc3, qc4, qf0, qf1, qf2, qf3, qf4⟩ := HR.out.facts
    go_region_with (go_at_call 56; refine (form_callsO ak af _ (HX.out.below HR.out.drew.1)).mono ?_; rintro ev w9 ⟨x, rfl, hx9, hb9⟩; have HX9 := Aside0.mk hx9; have HR9 := Aside0.mk (HR.out.drew.below hb9); clear hx9 hb9; obtain ⟨yc0, yc1, yc2, yc3, yc4, yf0, yf1, yf2, yf3, yf4⟩ := HR9.out.facts)
    all_goals
      go_wp2
      try simp only [Exit.inBlock, Exit.then]
      refine bodyPost_ret (res_read _ _ w.heap.size 0 0 0 0 0 x rfl rfl (HR9.out.putV 0 0 0 0 0)) rfl ⟨x, ?_, ?_, ?_⟩
      · first | (rw [HF.out]; rfl) | rfl
      · rw [HF.out]; exact HR9.out.putE HX9.out 0 0 0 0 0
      · exact HR9.out.putB 0 0 0 0 0
  · have HF := Aside0.mk (show readE s.data.toList = .form from by rw [h]; exact if_pos hk)
    have hne : s.toList.isEmpty = false := by rw [ByteArray.toList_eq, h]; rfl
    have h0s : 0 < s.size := by rw [← data_length, h]; exact Nat.succ_pos _
    have h0c : ∀ h : 0 < s.size, ((s[0]'h).toNat : Int) = (m.toNat : Int) := fun hh => by have e := bt_byte s 0 (by rw [h]; simp); simp only [h, List.getElem_cons_zero] at e; rw [← e]; exact bt_at s 0 hh
    have HK := Aside0.mk (fun W => mark_calls m W)
    rw [hk] at HK
    obtain ⟨x, hx⟩ : ∃ x, x = m.toNat := ⟨_, rfl⟩
    rw [← hx] at h0c HK
    clear h hk hx
    go_enter Tryz.func36, Tryz.ntmps36
    go_wp2_with (go_at_call 44; refine (HK.out _).mono ?_; rintro e w3 ⟨rfl, hw⟩; obtain rfl := hw.symm)
    refine wp_at (fun W => Rd w W) (Rd.start w) (fun W0 hR0 => ?_)
    have HR := Aside0.mk hR0
    clear hR0
    obtain ⟨qc0, qc1, qc2, qc3, qc4, qf0, qf1, qf2, qf3, qf4⟩ := HR.out.facts
    go_region_with (go_at_call 56; refine (form_callsO ak af _ (HX.out.below HR.out.drew.1)).mono ?_; rintro ev w9 ⟨x, rfl, hx9, hb9⟩; have HX9 := Aside0.mk hx9; have HR9 := Aside0.mk (HR.out.drew.below hb9); clear hx9 hb9; obtain ⟨yc0, yc1, yc2, yc3, yc4, yf0, yf1, yf2, yf3, yf4⟩ := HR9.out.facts)
    all_goals
      go_wp2
      try simp only [Exit.inBlock, Exit.then]
      refine bodyPost_ret (res_read _ _ w.heap.size 0 0 0 0 0 x rfl rfl (HR9.out.putV 0 0 0 0 0)) rfl ⟨x, ?_, ?_, ?_⟩
      · first | (rw [HF.out]; rfl) | rfl
      · rw [HF.out]; exact HR9.out.putE HX9.out 0 0 0 0 0
      · exact HR9.out.putB 0 0 0 0 0
end Go.Proofs.YtdcbkeihgbekdaaGreatDoor.Ext

namespace Go.Proofs.YtdcbkeihgbekdaaGreatDoor.Ext
open Go Go.RowKit Go.Proofs.YtdcbkeihgbekdaaGreatDoorW.PrintWords Go.Proofs.YtdcbkeihgbekdaaGreatDoorW.PrintLast Go.Proofs.YtdcbkeihgbekdaaGreatDoorW.PrintMore Go.Proofs.YtdcbkeihgbekdaaGreatDoor.Dig Go.Proofs.YtdcbkeihgbekdaaGreatDoor.Quad Go.Proofs.YtdcbkeihgbekdaaGreatDoor.ExtP Go.Proofs.YtdcbkeihgbekdaaGreatDoor.SixP
set_option linter.unusedVariables false
set_option linter.unusedSimpArgs false

theorem read_parts {l : List UInt8} {m : UInt8} {r : List UInt8} (h : l = m :: r) (hk : isMark m = true) : readE l = match Cut.cut m l with
    | [_, k, h, n, t] => five k h n t
    | _ => .form := by
  subst h
  show (if isMark m = false then Out.form else _) = _
  rw [if_neg (by rw [hk]; decide)]
  rfl
theorem cut_le {c : UInt8} : ∀ {l p : List UInt8}, p ∈ Cut.cut c l → p.length ≤ l.length
  | [], p, h => by simp [Cut.cut] at h; simp [h]
  | b :: l, p, h => by
    unfold Cut.cut at h
    split at h
    · rcases List.mem_cons.1 h with rfl | h
      · simp
      · exact Nat.le_succ_of_le (cut_le h)
    · match hq : Cut.cut c l, h with
      | [], h => simp at h; simp [h]
      | q :: r, h =>
        rcases List.mem_cons.1 h with rfl | h
        · have := cut_le (show q ∈ Cut.cut c l from by rw [hq]; exact List.mem_cons_self ..)
          simpa using this
        · exact Nat.le_succ_of_le (cut_le (show p ∈ Cut.cut c l from by rw [hq]; exact List.mem_cons_of_mem _ h))
theorem read_not5 {l : List UInt8} {m : UInt8} {r : List UInt8} (h : l = m :: r) (hk : isMark m = true) (h5 : (Cut.cut m l).length ≠ 5) : readE l = .form := by
  rw [read_parts h hk]
  split
  · rename_i hc; rw [hc] at h5; exact absurd rfl h5
  · rfl
theorem new_at (w : World) (o : Obj) (n : Nat) (h : n = w.heap.size) : (w.alloc o).heap[n]? = some o := h ▸ blk_new w o
theorem set_same {cs : Array Value} {j : Nat} {v : Value} (h : cs[j]? = some v) : cs.setIfInBounds j v = cs := by
  apply Array.ext'
  rw [Array.toList_setIfInBounds]
  have : cs.toList[j]? = some v := by rw [Array.getElem?_toList]; exact h
  obtain ⟨hj, he⟩ := List.getElem?_eq_some_iff.1 this
  rw [← he, List.set_getElem_self]
theorem Rd.one {w W : World} (h : Rd w W) : Below w.heap.size w W := h.1
theorem Rd.two {w W : World} (h : Rd w W) : W.heap[w.heap.size]? = some (.cells #[.int .u8 0, .int .u8 0, .int .u8 0, .int .u8 0, .int .i64 0] 30 (0, 0)) := h.2
theorem Rd.drewW {w W : World} (h : Rd w W) : Rd w W.drew := h.drew
theorem Rd.alloc {w W : World} (h : Rd w W) (o : Obj) : Rd w (W.alloc o) := h.below ((Below.refl _ _).alloc (Nat.le_refl _) _)
theorem Rd.same {w W : World} (h : Rd w W) (j : Nat) (v : Value) (hv : (#[.int .u8 0, .int .u8 0, .int .u8 0, .int .u8 0, .int .i64 0] : Array Value)[j]? = some v) : Rd w (W.setCell ⟨w.heap.size, j, none⟩ v) := by
  refine ⟨h.1.setCell (Nat.le_refl _) _, ?_⟩
  exact blk_put h.2 j v (set_same hv)
theorem size_alloc (w : World) (o : Obj) : (w.alloc o).heap.size = w.heap.size + 1 := by simp

set_option maxHeartbeats 4000000 in
set_option maxRecDepth 100000 in
theorem read_one (s : ByteArray) (w : World) (ak af : Addr) (HX : Aside0 (Ex w ak af)) (HM : Aside0 (Mx w)) (hne : s.toList.isEmpty = false) (h0s : 0 < s.size) (x : Nat) (HK : Aside0 (∀ W, Calls Tryz.prog 44 #[.int .u8 (x : Int)] W fun e w' => e = .returned (.bool true) ∧ w' = W)) (h0c : ∀ h : 0 < s.size, ((s[0]'h).toNat : Int) = (x : Int)) (X : ByteArray) (hsl : ∀ W, (Instr.slice 9 (.string s) none (some (.int .i64 1)) none).run Tryz.prog W = .ok (.string X) W) (p0 p1 p2 p3 p4 : ByteArray)
    (HSP : Aside0 (∀ W, Mx W → Calls Tryz.prog 34 #[.string s, .string X] W fun e w' => e = .returned (.slice (some ⟨W.heap.size, 0, none⟩) 5 5) ∧ Below W.heap.size W w' ∧ w'.heap[W.heap.size]? = some (.cells #[.string p0, .string p1, .string p2, .string p3, .string p4] 9 (0, 0))))
    (HG1 : Aside0 (∀ W, Calls Tryz.prog 35 #[.string p1, .int .i64 9] W fun e w' => e = .returned (.tuple #[.int .i64 1, .bool true]) ∧ w' = W))
    (HG3 : Aside0 (∀ W, Calls Tryz.prog 35 #[.string p3, .int .i64 65535] W fun e w' => e = .returned (.tuple #[.int .i64 (Dig.get p3.data.toList 65535).1, .bool (Dig.get p3.data.toList 65535).2]) ∧ w' = W))
    (hg3 : Dig.get p3.data.toList ((65535 : Nat) : Int) = match getMost 65535 p3.data.toList with | some n => ((n : Int), true) | none => (0, false))
    (HQ : Aside0 (∀ W, Mx W → Calls Tryz.prog 57 #[.string p2] W fun e w' => e = .returned (readR (readN p2.data.toList)) ∧ Below W.heap.size W w')) (h4e : p4.toList = [])
    (HP5 : Aside0 (readE s.data.toList = match readN p2.data.toList, getMost 65535 p3.data.toList with | some (a, b, c, d), some p => if p = 0 then .form else .ok a b c d p | _, _ => .form)) :
    Calls Tryz.prog 36 #[.string s] w (ReadIs w ak af (readE s.data.toList)) := by
  cases hr : readN p2.data.toList with
  | none =>
    rw [hr] at HQ HP5
    have HF := Aside0.mk (show readE s.data.toList = .form from HP5.out)
    obtain ⟨g, b, hgb⟩ : ∃ g b, Dig.get p3.data.toList 65535 = (g, b) := ⟨_, _, rfl⟩
    rw [hgb] at HG3
    clear hg3 hgb hr HP5
    go_enter Tryz.func36, Tryz.ntmps36
    go_wp2_with (first
      | (go_at_call 44; refine (HK.out _).mono ?_; rintro e w3 ⟨rfl, hw⟩; obtain rfl := hw.symm)
      | (go_at_call 34; refine (HSP.out _ (HM.out.below (Rd.start w).1)).mono ?_; rintro e w1 ⟨rfl, hb1, hg1⟩; rw [size_alloc] at hg1; have HR := Aside0.mk ((Rd.start w).below hb1); have HG := Aside0.mk hg1; clear hb1 hg1; have g1 : w1.cell? ⟨w.heap.size + 1, 1, none⟩ = some (.string p1) := (blk_cell HG.out 1).trans rfl; have g2 : w1.cell? ⟨w.heap.size + 1, 2, none⟩ = some (.string p2) := (blk_cell HG.out 2).trans rfl; have g4 : w1.cell? ⟨w.heap.size + 1, 4, none⟩ = some (.string p4) := (blk_cell HG.out 4).trans rfl)
      | (go_at_call 35; with_reducible refine (HG1.out _).mono ?_; rintro e w3 ⟨rfl, hw⟩; obtain rfl := hw.symm)
      | (go_at_call 57; refine (HQ.out _ (HM.out.below HR.out.1)).mono ?_; rintro e w5 ⟨rfl, hb5⟩; replace HR := Aside0.mk (HR.out.below hb5); replace HG := Aside0.mk (blk_below HG.out hb5); clear hb5; have g3 : ∀ o, (w5.alloc o).cell? ⟨w.heap.size + 1, 3, none⟩ = some (.string p3) := fun o => (blk_cell (blk_alloc HG.out o) 3).trans rfl; have hlt5 := Aside0.mk (blk_lt HG.out); have hne1 : w.heap.size + 1 ≠ w5.heap.size := Nat.ne_of_lt hlt5.out; have hne2 : w5.heap.size ≠ w.heap.size + 1 := Nat.ne_of_gt hlt5.out; simp only [readR])
      | (go_at_call 35; with_reducible refine (HG3.out _).mono ?_; rintro e w3 ⟨rfl, hw⟩; obtain rfl := hw.symm))
    refine wp_at (fun W => Rd w W) (HR.out.alloc _) (fun W0 hR0 => ?_)
    replace HR := Aside0.mk hR0
    clear hR0
    obtain ⟨qc0, qc1, qc2, qc3, qc4, qf0, qf1, qf2, qf3, qf4⟩ := HR.out.facts
    go_region_with (go_at_call 56; refine (form_callsO ak af _ (HX.out.below HR.out.drew.1)).mono ?_; rintro ev w9 ⟨x, rfl, hx9, hb9⟩; have HX9 := Aside0.mk hx9; have HR9 := Aside0.mk (HR.out.drew.below hb9); clear hx9 hb9; obtain ⟨yc0, yc1, yc2, yc3, yc4, yf0, yf1, yf2, yf3, yf4⟩ := HR9.out.facts)
    all_goals
      go_wp2
      try simp only [Exit.inBlock, Exit.then]
      refine bodyPost_ret (res_read _ _ w.heap.size 0 0 0 0 0 x rfl rfl (HR9.out.putV 0 0 0 0 0)) rfl ⟨x, ?_, ?_, ?_⟩
      · first | (rw [HF.out]; rfl) | rfl
      · rw [HF.out]; exact HR9.out.putE HX9.out 0 0 0 0 0
      · exact HR9.out.putB 0 0 0 0 0

  | some t =>
    obtain ⟨a, b, c, d⟩ := t
    rw [hr] at HQ HP5
    have hpl : HQ.out = HQ.out := rfl
    cases hn : getMost 65535 p3.data.toList with
    | none =>
      rw [hn] at hg3 HP5
      have HF := Aside0.mk (show readE s.data.toList = .form from HP5.out)
      rw [show Dig.get p3.data.toList 65535 = _ from hg3] at HG3
      clear hg3 hn hr HP5 hpl
      go_enter Tryz.func36, Tryz.ntmps36
      go_wp2_with (first
        | (go_at_call 44; refine (HK.out _).mono ?_; rintro e w3 ⟨rfl, hw⟩; obtain rfl := hw.symm)
        | (go_at_call 34; refine (HSP.out _ (HM.out.below (Rd.start w).1)).mono ?_; rintro e w1 ⟨rfl, hb1, hg1⟩; rw [size_alloc] at hg1; have HR := Aside0.mk ((Rd.start w).below hb1); have HG := Aside0.mk hg1; clear hb1 hg1; have g1 : w1.cell? ⟨w.heap.size + 1, 1, none⟩ = some (.string p1) := (blk_cell HG.out 1).trans rfl; have g2 : w1.cell? ⟨w.heap.size + 1, 2, none⟩ = some (.string p2) := (blk_cell HG.out 2).trans rfl; have g4 : w1.cell? ⟨w.heap.size + 1, 4, none⟩ = some (.string p4) := (blk_cell HG.out 4).trans rfl)
        | (go_at_call 35; with_reducible refine (HG1.out _).mono ?_; rintro e w3 ⟨rfl, hw⟩; obtain rfl := hw.symm)
        | (go_at_call 57; refine (HQ.out _ (HM.out.below HR.out.1)).mono ?_; rintro e w5 ⟨rfl, hb5⟩; replace HR := Aside0.mk (HR.out.below hb5); replace HG := Aside0.mk (blk_below HG.out hb5); clear hb5; have g3 : ∀ o, (w5.alloc o).cell? ⟨w.heap.size + 1, 3, none⟩ = some (.string p3) := fun o => (blk_cell (blk_alloc HG.out o) 3).trans rfl; have hlt5 := Aside0.mk (blk_lt HG.out); have hne1 : w.heap.size + 1 ≠ w5.heap.size := Nat.ne_of_lt hlt5.out; have hne2 : w5.heap.size ≠ w.heap.size + 1 := Nat.ne_of_gt hlt5.out; simp only [readR])
        | (go_at_call 35; with_reducible refine (HG3.out _).mono ?_; rintro e w3 ⟨rfl, hw⟩; obtain rfl := hw.symm))
      refine wp_at (fun W => Rd w W) (HR.out.alloc _) (fun W0 hR0 => ?_)
      replace HR := Aside0.mk hR0
      clear hR0
      obtain ⟨qc0, qc1, qc2, qc3, qc4, qf0, qf1, qf2, qf3, qf4⟩ := HR.out.facts
      go_region_with (go_at_call 56; refine (form_callsO ak af _ (HX.out.below HR.out.drew.1)).mono ?_; rintro ev w9 ⟨x, rfl, hx9, hb9⟩; have HX9 := Aside0.mk hx9; have HR9 := Aside0.mk (HR.out.drew.below hb9); clear hx9 hb9; obtain ⟨yc0, yc1, yc2, yc3, yc4, yf0, yf1, yf2, yf3, yf4⟩ := HR9.out.facts)
      all_goals
        go_wp2
        try simp only [Exit.inBlock, Exit.then]
        refine bodyPost_ret (res_read _ _ w.heap.size 0 0 0 0 0 x rfl rfl (HR9.out.putV 0 0 0 0 0)) rfl ⟨x, ?_, ?_, ?_⟩
        · first | (rw [HF.out]; rfl) | rfl
        · rw [HF.out]; exact HR9.out.putE HX9.out 0 0 0 0 0
        · exact HR9.out.putB 0 0 0 0 0

    | some n =>
      rw [hn] at hg3 HP5
      rw [show Dig.get p3.data.toList 65535 = _ from hg3] at HG3
      have hn5 := ((getMost_iff 65535 (by decide) _ _).1 hn).2
      have HP6 := Aside0.mk (show readE s.data.toList = if n = 0 then .form else .ok a b c d n from HP5.out)
      clear hg3 hn hr HP5 hpl
      by_cases h0 : n = 0
      · subst h0
        have HF := Aside0.mk (show readE s.data.toList = .form from HP6.out)
        have HPT := Aside0.mk (fun W => port_calls ((0 : Nat) : Int) W)
        rw [show decide (0 < ((0 : Nat) : Int) ∧ ((0 : Nat) : Int) ≤ 65535) = false from rfl] at HPT
        clear HP6
        go_enter Tryz.func36, Tryz.ntmps36
        go_wp2_with (first
          | (go_at_call 44; refine (HK.out _).mono ?_; rintro e w3 ⟨rfl, hw⟩; obtain rfl := hw.symm)
          | (go_at_call 34; refine (HSP.out _ (HM.out.below (Rd.start w).1)).mono ?_; rintro e w1 ⟨rfl, hb1, hg1⟩; rw [size_alloc] at hg1; have HR := Aside0.mk ((Rd.start w).below hb1); have HG := Aside0.mk hg1; clear hb1 hg1; have g1 : w1.cell? ⟨w.heap.size + 1, 1, none⟩ = some (.string p1) := (blk_cell HG.out 1).trans rfl; have g2 : w1.cell? ⟨w.heap.size + 1, 2, none⟩ = some (.string p2) := (blk_cell HG.out 2).trans rfl; have g4 : w1.cell? ⟨w.heap.size + 1, 4, none⟩ = some (.string p4) := (blk_cell HG.out 4).trans rfl)
          | (go_at_call 35; with_reducible refine (HG1.out _).mono ?_; rintro e w3 ⟨rfl, hw⟩; obtain rfl := hw.symm)
          | (go_at_call 57; refine (HQ.out _ (HM.out.below HR.out.1)).mono ?_; rintro e w5 ⟨rfl, hb5⟩; replace HR := Aside0.mk (HR.out.below hb5); replace HG := Aside0.mk (blk_below HG.out hb5); clear hb5; have g3 : ∀ o, (w5.alloc o).cell? ⟨w.heap.size + 1, 3, none⟩ = some (.string p3) := fun o => (blk_cell (blk_alloc HG.out o) 3).trans rfl; have hlt5 := Aside0.mk (blk_lt HG.out); have hne1 : w.heap.size + 1 ≠ w5.heap.size := Nat.ne_of_lt hlt5.out; have hne2 : w5.heap.size ≠ w.heap.size + 1 := Nat.ne_of_gt hlt5.out; simp only [readR])
          | (go_at_call 35; with_reducible refine (HG3.out _).mono ?_; rintro e w3 ⟨rfl, hw⟩; obtain rfl := hw.symm)
          | (go_at_call 47; refine (HPT.out _).mono ?_; rintro e w6 ⟨rfl, hw⟩; obtain rfl := hw.symm))
        refine wp_at (fun W => Rd w W) (HR.out.alloc _) (fun W0 hR0 => ?_)
        replace HR := Aside0.mk hR0
        clear hR0
        obtain ⟨qc0, qc1, qc2, qc3, qc4, qf0, qf1, qf2, qf3, qf4⟩ := HR.out.facts
        go_region_with (go_at_call 56; refine (form_callsO ak af _ (HX.out.below HR.out.drew.1)).mono ?_; rintro ev w9 ⟨x, rfl, hx9, hb9⟩; have HX9 := Aside0.mk hx9; have HR9 := Aside0.mk (HR.out.drew.below hb9); clear hx9 hb9; obtain ⟨yc0, yc1, yc2, yc3, yc4, yf0, yf1, yf2, yf3, yf4⟩ := HR9.out.facts)
        all_goals
          go_wp2
          try simp only [Exit.inBlock, Exit.then]
          refine bodyPost_ret (res_read _ _ w.heap.size 0 0 0 0 0 x rfl rfl (HR9.out.putV 0 0 0 0 0)) rfl ⟨x, ?_, ?_, ?_⟩
          · first | (rw [HF.out]; rfl) | rfl
          · rw [HF.out]; exact HR9.out.putE HX9.out 0 0 0 0 0
          · exact HR9.out.putB 0 0 0 0 0

      · have HF := Aside0.mk (show readE s.data.toList = .ok a b c d n from by rw [HP6.out, if_neg h0])
        have HPT := Aside0.mk (fun W => port_calls (n : Int) W)
        rw [decide_eq_true (show 0 < (n : Int) ∧ (n : Int) ≤ 65535 from by omega)] at HPT
        clear HP6
        go_enter Tryz.func36, Tryz.ntmps36
        go_wp2_with (first
          | (go_at_call 44; refine (HK.out _).mono ?_; rintro e w3 ⟨rfl, hw⟩; obtain rfl := hw.symm)
          | (go_at_call 34; refine (HSP.out _ (HM.out.below (Rd.start w).1)).mono ?_; rintro e w1 ⟨rfl, hb1, hg1⟩; rw [size_alloc] at hg1; have HR := Aside0.mk ((Rd.start w).below hb1); have HG := Aside0.mk hg1; clear hb1 hg1; have g1 : w1.cell? ⟨w.heap.size + 1, 1, none⟩ = some (.string p1) := (blk_cell HG.out 1).trans rfl; have g2 : w1.cell? ⟨w.heap.size + 1, 2, none⟩ = some (.string p2) := (blk_cell HG.out 2).trans rfl; have g4 : w1.cell? ⟨w.heap.size + 1, 4, none⟩ = some (.string p4) := (blk_cell HG.out 4).trans rfl)
          | (go_at_call 35; with_reducible refine (HG1.out _).mono ?_; rintro e w3 ⟨rfl, hw⟩; obtain rfl := hw.symm)
          | (go_at_call 57; refine (HQ.out _ (HM.out.below HR.out.1)).mono ?_; rintro e w5 ⟨rfl, hb5⟩; replace HR := Aside0.mk (HR.out.below hb5); replace HG := Aside0.mk (blk_below HG.out hb5); clear hb5; have g3 : ∀ o, (w5.alloc o).cell? ⟨w.heap.size + 1, 3, none⟩ = some (.string p3) := fun o => (blk_cell (blk_alloc HG.out o) 3).trans rfl; have hlt5 := Aside0.mk (blk_lt HG.out); have hne1 : w.heap.size + 1 ≠ w5.heap.size := Nat.ne_of_lt hlt5.out; have hne2 : w5.heap.size ≠ w.heap.size + 1 := Nat.ne_of_gt hlt5.out; simp only [readR]; obtain ⟨yc0, yc1, yc2, yc3, yc4, yf0, yf1, yf2, yf3, yf4⟩ := (HR.out.alloc (.cells #[.int .u8 a, .int .u8 b, .int .u8 c, .int .u8 d] 28)).facts)
          | (go_at_call 35; with_reducible refine (HG3.out _).mono ?_; rintro e w3 ⟨rfl, hw⟩; obtain rfl := hw.symm)
          | (go_at_call 47; refine (HPT.out _).mono ?_; rintro e w6 ⟨rfl, hw⟩; obtain rfl := hw.symm))
        try simp only [Exit.inBlock, Exit.then]
        refine bodyPost_ret (res_read _ _ w.heap.size a b c d n _ rfl rfl ((HR.out.alloc _).putV a b c d n)) rfl ⟨.nilIface, ?_, ?_, ?_⟩
        · first | (rw [HF.out]; rfl) | rfl
        · rw [HF.out]; exact .nil
        · exact (HR.out.alloc _).putB a b c d n


end Go.Proofs.YtdcbkeihgbekdaaGreatDoor.Ext
