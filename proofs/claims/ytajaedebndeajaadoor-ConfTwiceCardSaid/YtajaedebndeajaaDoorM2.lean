/- Contracts and plain facts that the law's proof needs. -/
import Derived.Shelf.Small.Strs
import Derived.Shelf.Utf8.RuneCount
import Derived.Shelf.Strings.Search1
import Derived.Shelf.Strings.Search2
import Derived.Shelf.Strings.Search3
import Derived.Shelf.Strings.Count
import Derived.Shelf.LaysM
import Derived.Shelf.Strings.Shaped
import Derived.Shelf.Strings.Prefix
import Derived.Shelf.Strings.Split
import Derived.Shelf.Strings.SplitShaped
import Derived.Shelf.Unicode.Decode
import Derived.Shelf.Strings.RuneCount
import Derived.Shelf.Strings.Explode
import Derived.Shelf.Unicode.DecodeSlow
import Derived.Shelf.Unicode.DecodeAny
import Derived.Test.YtajaedebndeajaaDoorProg
import Derived.Test.YtajaedebndeajaaDoorRows
import Derived.Test.YtajaedebndeajaaDoorTie
import Derived.Test.YtajaedebndeajaaDoorCards
import Derived.WalkKit
import Derived.ProofKit
import Derived.OpenShut
import Derived.ShutString
import Derived.ChangeOld
import Derived.Below
import Derived.SizedLaws
import Derived.LaidMore
import Derived.Lay
import Derived.HandedShaped
import Derived.Laws.IdiomArrays
import Derived.SevenTiedAt
import Derived.Stop.Joined
import Derived.Test.YtajaedebndeajaaDoorM1
import Derived.Deep.Draws
import Derived.Deep.AppendLies
import Derived.Maps.AppendAt
import Derived.OwnWalk
import Derived.Laws.BytesArg
import Derived.Laws.MakeOwn
import Derived.Laws.OwnMore
import Derived.Deep.OwnRows
import Derived.Tactics
import Derived.Lib.ConvBytes
import Derived.Laws.Slices
import Derived.KernelRfl
import Derived.RowKit3
import Derived.Deep.LoopGhost
import Derived.Deep.QuietTactic
import Derived.BigQuiet
import Derived.WideLaws
import Derived.Deep.DeepCutAuto
import Derived.Deep.CutBlock
import Derived.Deep.RegionHeld3
import Derived.Laws.Rows
import Derived.Lib.AppendStr
import Derived.ArgAppend
import Derived.Laws.IdiomCopy
import Derived.OrdersHeld
import Derived.Laws.BitsLemmas
import Derived.RowKit
import Derived.Lib.SplitLaws
import Derived.Lib.Join
import Derived.Lib.Bytealg
import Derived.LaidHandle
import Derived.Stop.LaidTwo
import Derived.LaidEql
import Derived.Stop.Asserts
import Derived.RowKitTokens
import Derived.MapKept
import Derived.Maps.OwnOps
import Derived.Maps.OwnSet
import Derived.ChangeMaps4
import Derived.Laws.IdiomStrings
import Derived.Laws.EntriesVeiled
namespace Go.Proofs
open Go.Shelf
def Tryd.lays137_ren : Go.Shelf.Ren := ⟨fun | 137 => 48 | 217 => 57 | 266 => 63 | n => n, fun | 9 => 9 | 5 => 5 | 3 => 3 | n => n, fun | n => n⟩
theorem Tryd.lays137 : Go.Proofs.Lays.n137 Tryd.prog Tryd.lays137_ren := {
  mixed := by kernel_rfl
  f137 := Tryd.func48.trans (congrArg some (by kernel_rfl))
  f217 := Tryd.func57.trans (congrArg some (by kernel_rfl))
  f266 := Tryd.func63.trans (congrArg some (by kernel_rfl))
  t3 := Tryd.underlying3
  a3 := Tryd.isAgg3
  z3 := Tryd.sizeOf3
  v3 := Tryd.zeroValue3
  t5 := Tryd.underlying5
  a5 := Tryd.isAgg5
  z5 := Tryd.sizeOf5
  v5 := Tryd.zeroValue5
  t9 := Tryd.underlying9
  a9 := Tryd.isAgg9
  z9 := Tryd.sizeOf9
  v9 := Tryd.zeroValue9 }
open Go.RowKit in
/-- strings.IndexByte: "IndexByte returns the index of the first instance of c in s, or -1 if c is not present in s.": IT RETURNS 'Lib.indexByte s c'; the world is as it was. (LAID: no walk: one application.) -/
theorem Tryd.strings_IndexByte (s : ByteArray) (c : Int) (w : World) :
    Calls Tryd.prog 48 #[.string s, .int .u8 c] w fun e w' => e = .returned (.int .i64 (Lib.indexByte s.data.toList c.toNat.toUInt8)) ∧ w' = w := Any.strings_IndexByte Tryd.lays137 s c w
def Tryd.lays144_ren : Go.Shelf.Ren := ⟨fun | 144 => 47 | 143 => 56 | 219 => 62 | 217 => 57 | 225 => 68 | 224 => 69 | 267 => 70 | 266 => 63 | 314 => 72 | n => n, fun | 9 => 9 | 4 => 4 | 3 => 3 | 5 => 5 | 46 => 107 | 146 => 110 | 51 => 109 | n => n, fun | 1 => 4 | n => n⟩
theorem Tryd.lays144 : Go.Proofs.Lays.n144 Tryd.prog Tryd.lays144_ren := {
  mixed := by kernel_rfl
  f143 := Tryd.func56.trans (congrArg some (by kernel_rfl))
  f144 := Tryd.func47.trans (congrArg some (by kernel_rfl))
  f217 := Tryd.func57.trans (congrArg some (by kernel_rfl))
  f219 := Tryd.func62.trans (congrArg some (by kernel_rfl))
  f224 := Tryd.func69.trans (congrArg some (by kernel_rfl))
  f225 := Tryd.func68.trans (congrArg some (by kernel_rfl))
  f266 := Tryd.func63.trans (congrArg some (by kernel_rfl))
  f267 := Tryd.func70.trans (congrArg some (by kernel_rfl))
  f314 := Tryd.func72.trans (congrArg some (by kernel_rfl))
  t3 := Tryd.underlying3
  a3 := Tryd.isAgg3
  z3 := Tryd.sizeOf3
  v3 := Tryd.zeroValue3
  t4 := Tryd.underlying4
  a4 := Tryd.isAgg4
  z4 := Tryd.sizeOf4
  v4 := Tryd.zeroValue4
  t5 := Tryd.underlying5
  a5 := Tryd.isAgg5
  z5 := Tryd.sizeOf5
  v5 := Tryd.zeroValue5
  t9 := Tryd.underlying9
  a9 := Tryd.isAgg9
  z9 := Tryd.sizeOf9
  v9 := Tryd.zeroValue9
  t46 := Tryd.underlying107
  a46 := Tryd.isAgg107
  z46 := Tryd.sizeOf107
  v46 := Tryd.zeroValue107
  t51 := Tryd.underlying109
  a51 := Tryd.isAgg109
  z51 := Tryd.sizeOf109
  v51 := Tryd.zeroValue109
  t146 := Tryd.underlying110
  a146 := Tryd.isAgg110
  z146 := Tryd.sizeOf110
  v146 := Tryd.zeroValue110
  g1 := by kernel_rfl }
open Go.RowKit Go.Lib in
/-- strings.Contains: "Contains reports whether substr is within s.": AT A substr OF ONE BYTE c: IT RETURNS 'decide (0 ≤ Lib.indexByte s c)'; the world is as it was. (LAID: no walk: one application.) -/
theorem Tryd.strings_Contains_one (s : ByteArray) (c : UInt8) (w : World) :
    Calls Tryd.prog 47 #[.string s, .string ⟨#[c]⟩] w fun e w' => e = .returned (.bool (decide (0 ≤ Lib.indexByte s.data.toList c))) ∧ w' = w := Any.strings_Contains_one Tryd.lays144 s c w
open Go.RowKit Go.Lib in
/-- strings.Contains: "Contains reports whether substr is within s.": IT RETURNS 'Lib.contains s substr'; the world is as it was. (LAID: no walk: one application.) -/
theorem Tryd.strings_Contains (s sub : ByteArray) (m : Int) (w : World) (hs : s.size < 4294967281) (hm : w.cell? ⟨4, 0, none⟩ = some (.int .i64 m)) :
    Calls Tryd.prog 47 #[.string s, .string sub] w fun e w' => e = .returned (.bool (Lib.contains s.data.toList sub.data.toList)) ∧ w' = w := Any.strings_Contains Tryd.lays144 s sub m w hs hm
def Tryd.lays99_ren : Go.Shelf.Ren := ⟨fun | 99 => 59 | 206 => 66 | n => n, fun | 9 => 9 | 4 => 4 | 3 => 3 | n => n, fun | n => n⟩
theorem Tryd.lays99 : Go.Proofs.Lays.n99 Tryd.prog Tryd.lays99_ren := {
  mixed := by kernel_rfl
  f99 := Tryd.func59.trans (congrArg some (by kernel_rfl))
  f206 := Tryd.func66.trans (congrArg some (by kernel_rfl))
  t3 := Tryd.underlying3
  a3 := Tryd.isAgg3
  z3 := Tryd.sizeOf3
  v3 := Tryd.zeroValue3
  t4 := Tryd.underlying4
  a4 := Tryd.isAgg4
  z4 := Tryd.sizeOf4
  v4 := Tryd.zeroValue4
  t9 := Tryd.underlying9
  a9 := Tryd.isAgg9
  z9 := Tryd.sizeOf9
  v9 := Tryd.zeroValue9 }
open Go.RowKit Go.Lib in
/-- strings.HasPrefix: "HasPrefix reports whether the string s begins with prefix.": IT RETURNS 'Lib.hasPrefix s prefix'; the world is as it was. (LAID: no walk: one application.) -/
theorem Tryd.strings_HasPrefix (s p : ByteArray) (w : World) :
    Calls Tryd.prog 59 #[.string s, .string p] w fun e w' => e = .returned (.bool (Lib.hasPrefix s.data.toList p.data.toList)) ∧ w' = w := Any.strings_HasPrefix Tryd.lays99 s p w
def Tryd.lays146_ren : Go.Shelf.Ren := ⟨fun | 146 => 67 | 221 => 71 | 268 => 73 | 138 => 74 | 143 => 56 | 195 => 75 | 197 => 76 | 218 => 77 | 219 => 62 | 260 => 78 | 217 => 57 | 225 => 68 | 224 => 69 | 267 => 70 | 266 => 63 | 314 => 72 | n => n, fun | 9 => 9 | 31 => 98 | 3 => 3 | 4 => 4 | 0 => 0 | 105 => 114 | 21 => 21 | 5 => 5 | 46 => 107 | 119 => 116 | 139 => 119 | 138 => 118 | 146 => 110 | 51 => 109 | n => n, fun | 1 => 4 | 3 => 5 | 4 => 6 | n => n⟩
theorem Tryd.lays146 : Go.Proofs.Lays.n146 Tryd.prog Tryd.lays146_ren := {
  mixed := by kernel_rfl
  f138 := Tryd.func74.trans (congrArg some (by kernel_rfl))
  f143 := Tryd.func56.trans (congrArg some (by kernel_rfl))
  f146 := Tryd.func67.trans (congrArg some (by kernel_rfl))
  f195 := Tryd.func75.trans (congrArg some (by kernel_rfl))
  f197 := Tryd.func76.trans (congrArg some (by kernel_rfl))
  f217 := Tryd.func57.trans (congrArg some (by kernel_rfl))
  f218 := Tryd.func77.trans (congrArg some (by kernel_rfl))
  f219 := Tryd.func62.trans (congrArg some (by kernel_rfl))
  f221 := Tryd.func71.trans (congrArg some (by kernel_rfl))
  f224 := Tryd.func69.trans (congrArg some (by kernel_rfl))
  f225 := Tryd.func68.trans (congrArg some (by kernel_rfl))
  f260 := Tryd.func78.trans (congrArg some (by kernel_rfl))
  f266 := Tryd.func63.trans (congrArg some (by kernel_rfl))
  f267 := Tryd.func70.trans (congrArg some (by kernel_rfl))
  f268 := Tryd.func73.trans (congrArg some (by kernel_rfl))
  f314 := Tryd.func72.trans (congrArg some (by kernel_rfl))
  t0 := Tryd.underlying0
  a0 := Tryd.isAgg0
  z0 := Tryd.sizeOf0
  v0 := Tryd.zeroValue0
  t3 := Tryd.underlying3
  a3 := Tryd.isAgg3
  z3 := Tryd.sizeOf3
  v3 := Tryd.zeroValue3
  t4 := Tryd.underlying4
  a4 := Tryd.isAgg4
  z4 := Tryd.sizeOf4
  v4 := Tryd.zeroValue4
  t5 := Tryd.underlying5
  a5 := Tryd.isAgg5
  z5 := Tryd.sizeOf5
  v5 := Tryd.zeroValue5
  t9 := Tryd.underlying9
  a9 := Tryd.isAgg9
  z9 := Tryd.sizeOf9
  v9 := Tryd.zeroValue9
  t21 := Tryd.underlying21
  a21 := Tryd.isAgg21
  z21 := Tryd.sizeOf21
  v21 := Tryd.zeroValue21
  t31 := Tryd.underlying98
  a31 := Tryd.isAgg98
  z31 := Tryd.sizeOf98
  v31 := Tryd.zeroValue98
  t46 := Tryd.underlying107
  a46 := Tryd.isAgg107
  z46 := Tryd.sizeOf107
  v46 := Tryd.zeroValue107
  t51 := Tryd.underlying109
  a51 := Tryd.isAgg109
  z51 := Tryd.sizeOf109
  v51 := Tryd.zeroValue109
  t105 := Tryd.underlying114
  a105 := Tryd.isAgg114
  z105 := Tryd.sizeOf114
  v105 := Tryd.zeroValue114
  t119 := Tryd.underlying116
  a119 := Tryd.isAgg116
  z119 := Tryd.sizeOf116
  t138 := Tryd.underlying118
  a138 := Tryd.isAgg118
  z138 := Tryd.sizeOf118
  v138 := Tryd.zeroValue118
  t139 := Tryd.underlying119
  a139 := Tryd.isAgg119
  z139 := Tryd.sizeOf119
  v139 := Tryd.zeroValue119
  t146 := Tryd.underlying110
  a146 := Tryd.isAgg110
  z146 := Tryd.sizeOf110
  v146 := Tryd.zeroValue110
  g1 := by kernel_rfl
  g3 := by kernel_rfl
  g4 := by kernel_rfl }
open Go.RowKit Go.Lib in
/-- strings.Split. (LAID: no walk: one application.) -/
theorem Tryd.strings_Split (s sep : ByteArray) (m : Int) (w : World) (hs : s.size < 4294967281) (hm : w.cell? ⟨4, 0, none⟩ = some (.int .i64 m)) (h1 : 1 ≤ sep.size) :
    Calls Tryd.prog 67 #[.string s, .string sep] w fun e w' =>
      e = .returned (.slice (some ⟨w.heap.size, 0, none⟩) (Lib.countB s sep + 1) (Lib.countB s sep + 1)) ∧ w' = w.alloc (.cells ((Lib.splitB sep 0 (Lib.countB s sep) s).map Value.string).toArray 9) := Any.strings_Split Tryd.lays146 (by kernel_rfl) s sep m w hs hm h1
end Go.Proofs

namespace Go.Proofs.YtajaedebndeajaaDoor.Door
open Go Go.ChangeShapes Go.WideShapes Go.ChangeAt Go.RowKit
set_option linter.unusedVariables false

theorem own : ownKnob Tryd.prog.godebug = none := by kernel_rfl
theorem laidOut : laidOutB Tryd.prog = true := by kernel_rfl
theorem handed {H : Type} {enc : TypeId × Value → H} {a : Assume} {C : Checked} {os : Os} {f : FuncId} {fn : Func} {s : ChangeSpec} {conds : List PathCond} {apart fresh handsOn again : Bool} {X : World → Array Value → Prop}
    (hX : ∀ (w w' : World) (args : Array Value), w.heap = w'.heap → X w args → X w' args)
    (own : ownKnob C.prog.godebug = none) (started : os.Started) (noInit : C.prog.inits.idxOf? f = none) (hfn : C.prog.funcs[f]? = some fn)
    (witness : ∃ (w : World) (tape : Tape) (i : Input), w.os = os ∧ (w.forCall tape i).Shaped C.prog ∧ i.vars = [] ∧ Input.okWide C.prog (w.forCall tape i) .any w.heap.size f i ∧
      ((s.pre enc C.prog fn conds apart (w.forCall tape i).memory i.args ∧ X (w.forCall tape i).memory i.args) ∧ sizedMet enc C.prog fn (OpenSpec.ofChange s) apart (w.forCall tape i).memory i.args) ∧ a.holds C.prog (lone (Frame.enter C.prog f i.args .normal) [] (w.forCall tape i)))
    (contract : ∀ (W : World) (base : Nat) (args : Array Value) (ds gs : List (DataW H)) (before : List MemPlace),
      (∀ (j : Nat) t v, fn.params[j]? = some t → args[j]? = some v → Value.okWide C.prog W .any base t v) →
      DataW.Whole enc C.prog fn.params.toList s.vars apart W args.toList ds gs before →
      (DataW.weightsEach C.prog (fn.params.toList ++ s.plain.varTypes C.prog) (ds ++ gs)).all (· ≤ reachBytes) = true → X W args → W.ShapedOpen C.prog →
      Calls C.prog f args W fun e W' => ∃ v, e = .returned v ∧ s.post enc C.prog fn apart fresh handsOn again W args v W') :
    ReturnsInHanded a C os f .any (fun w args => (s.pre enc C.prog fn conds apart w args ∧ X w args) ∧ sizedMet enc C.prog fn (OpenSpec.ofChange s) apart w args) (s.post enc C.prog fn apart fresh handsOn again) := by
  refine returnsInHanded_of_calls own started noInit witness ?_
  intro w tape i _ hsh _ hok hpre hholds
  obtain ⟨_, _, _, fn', hfn', _, _, _, _, hval⟩ := hok
  have e : fn' = fn := Option.some.inj (hfn'.symm.trans hfn)
  subst e
  obtain ⟨⟨⟨ds, gs, before, hw, hc⟩, hx⟩, hz⟩ := hpre
  have hw' := DataW.Whole.of_heap (w' := w.forCall tape i) (by rfl) hw
  refine (contract (w.forCall tape i) w.heap.size i.args ds gs before hval hw' (hz.weights hw) (hX _ _ _ (by rfl) hx) hsh).mono fun e W' ⟨v, he, hp⟩ => ?_
  subst he
  exact ChangeSpec.post_blind hp

/-- The variable internal/bytealg.MaxLen. -/
theorem maxLen_cell {W : World} (h : W.ShapedOpen Tryd.prog) : ∃ m : Int, W.cell? ⟨4, 0, none⟩ = some (.int .i64 m) :=
  Go.Proofs.cell_of_shapedOpen_int (P := Tryd.prog) (g := 4) (t := 3) (zero := #[.int .i64 0]) h (of_decide_eq_true (by kernel_rfl)) (by kernel_rfl) rfl (by kernel_rfl) (by kernel_rfl) Tryd.underlying3
end Go.Proofs.YtajaedebndeajaaDoor.Door

set_option linter.unusedVariables false
namespace Go.Proofs.YtajaedebndeajaaDoor.Laws
open Go Go.RowKit Go.Proofs.YtajaedebndeajaaDoorW.PrintWords

theorem own_ge {w : World} {base : Nat} {e : TypeId} {size n : Nat} {v : Value} {xs : List Value} (h : w.ownsRow base e size v n xs) (k : Nat) (hk : v.ownBlock = some k) : base ≤ k := own_base h k hk

theorem new_cells (w : World) (xs : List Value) (T : TypeId) (cs : Array Value) (h : cs = xs.toArray) : ∀ j u, xs[j]? = some u → (w.alloc (.cells cs T)).cell? ((⟨w.heap.size, 0, none⟩ : Addr).add j) = some u := by
  intro j u hj
  subst h
  rw [add_plain, World.cell?_alloc_at _ _ _ _ rfl]
  simpa using hj

/-- A row that was made, cell by cell. -/
theorem own_cells {w : World} {base : Nat} {e : TypeId} {n : Nat} {v : Value} {xs : List Value} (h : w.ownsRow base e 1 v n xs) (hn : 0 < n) : ∃ q c, v = .slice (some ⟨q, 0, none⟩) n c ∧ n ≤ c ∧ base ≤ q ∧ q < w.heap.size ∧ ∀ (j : Nat) x, xs[j]? = some x → w.cell? ⟨q, 0 + j, none⟩ = some x := by
  obtain ⟨h1, h2⟩ := h
  rcases h2 with ⟨_, h2⟩ | ⟨g, cap, cur, rfl, hg, hh, hc, hm, hs, ht⟩
  · omega
  · refine ⟨g, cap, rfl, hc, hg, blk_lt hh, fun j x hx => ?_⟩
    rw [Nat.zero_add, blk_cell hh, ← Array.getElem?_toList]
    rw [← ht] at hx
    have hj := (List.getElem?_eq_some_iff.1 hx).1
    rw [List.getElem?_take_of_lt (by simp at hj; omega)] at hx
    exact hx

section
variable {P : Program} {ops : Array Oper} {rest : List Oper} {o : Oper} {a : Act} {Q : Exit → Act → World → Prop} {w : World}

end
end Go.Proofs.YtajaedebndeajaaDoor.Laws

namespace Go.Proofs.YtajaedebndeajaaDoor.Cut
open Go

/-- The parts of a text between bytes of one kind. -/
def cut (c : UInt8) : List UInt8 → List (List UInt8)
  | [] => [[]]
  | b :: l => if b = c then [] :: cut c l else match cut c l with
    | p :: r => (b :: p) :: r
    | [] => [[b]]
/-- Parts, one behind the other, with a byte between. -/
def jn (c : UInt8) : List (List UInt8) → List UInt8
  | [] => []
  | [p] => p
  | p :: q :: r => p ++ c :: jn c (q :: r)

theorem cut_ne (c : UInt8) (l : List UInt8) : cut c l ≠ [] := by
  cases l with
  | nil => simp [cut]
  | cons b l => unfold cut; split; · simp
                split <;> simp
theorem index_one_eq (c : UInt8) (l : List UInt8) : Lib.index (c :: l) [c] = 0 := by
  simp [Lib.index, List.isPrefixOf]
theorem index_one_ne (b c : UInt8) (l : List UInt8) (h : b ≠ c) : Lib.index (b :: l) [c] = if (Lib.index l [c] == -1) = true then -1 else Lib.index l [c] + 1 := by
  have : (c == b) = false := by simpa using fun e => h e.symm
  simp [Lib.index, List.isPrefixOf, this]

theorem split_cut (c : UInt8) : ∀ l : List UInt8, Lib.splitK [c] 0 (Lib.count l [c]) l = cut c l
  | [] => by simp [Lib.count_one, Lib.splitK, cut]
  | b :: l => by
    have ih := split_cut c l
    by_cases hb : b = c
    · subst hb
      rw [Lib.count_cons_eq, Nat.add_comm, Lib.splitK, index_one_eq, cut, if_pos rfl]
      simp only [List.length_cons, List.length_nil]
      rw [if_neg (by decide)]
      simpa using ih
    · rw [Lib.count_cons_ne b c l hb, cut, if_neg hb]
      have hn := cut_ne c l
      rw [← ih] at hn ⊢
      cases hk : Lib.count l [c] with
      | zero => simp [Lib.splitK]
      | succ m =>
        rw [Lib.splitK, Lib.splitK, index_one_ne b c l hb]
        by_cases hm : (Lib.index l [c] == -1) = true
        · simp [hm]
        · have hge := Lib.index_ge l [c]
          have hne : Lib.index l [c] ≠ -1 := by simpa using hm
          obtain ⟨i, hi⟩ : ∃ i : Nat, Lib.index l [c] = i := ⟨(Lib.index l [c]).toNat, by omega⟩
          rw [hi]
          have h1 : ¬ (((i : Int) == -1) = true) := by simp <;> omega
          have h2 : ¬ (((i : Int) + 1 == -1) = true) := by simp <;> omega
          rw [if_neg h1, if_neg h1, if_neg h2]
          simp only [Int.toNat_natCast, show ((i : Int) + 1).toNat = i + 1 from by omega, Nat.add_zero, List.take_succ_cons, List.length_cons, List.length_nil]
          rw [show i + 1 + (0 + 1) = (i + 1) + 1 from by omega, List.drop_succ_cons]
/-- strings.Split by one byte. -/
theorem splitB_cut (c : UInt8) (s : ByteArray) : (Lib.splitB ⟨#[c]⟩ 0 (Lib.countB s ⟨#[c]⟩) s).map (·.data.toList) = cut c s.data.toList := by
  rw [Lib.splitB_data]
  exact split_cut c s.data.toList
end Go.Proofs.YtajaedebndeajaaDoor.Cut

namespace Go.Proofs.YtajaedebndeajaaDoor.Dig
open Go Go.RowKit Go.Proofs.YtajaedebndeajaaDoorW.PrintWords

/-- The cells of Num's array: noughts, then the text. -/
def cells (a : Nat) (tl : List Int) : Array Value := ((List.replicate a (0 : Int) ++ tl).map fun x => .int .u8 x).toArray
/-! ### The number that a text is -/
def val (l : List UInt8) : Nat := l.foldl (fun n c => 10 * n + (c.toNat - 48)) 0
/-! ### The address that a text is -/
end Go.Proofs.YtajaedebndeajaaDoor.Dig

namespace Go.Proofs.YtajaedebndeajaaDoor.Quad
open Go Go.RowKit Go.Proofs.YtajaedebndeajaaDoorW.PrintWords Go.Proofs.YtajaedebndeajaaDoorW.PrintLast Go.Proofs.YtajaedebndeajaaDoorW.PrintMore Go.Proofs.YtajaedebndeajaaDoor.Dig
set_option linter.unusedVariables false
set_option linter.unusedSimpArgs false

theorem bt_byte (s : ByteArray) (k : Nat) (h : k < s.data.toList.length) : bt s (k : Int) = ((s.data.toList[k]).toNat : Int) := by
  have h' : k < s.size := by rw [← data_length s]; exact h
  unfold bt
  rw [dif_pos (by simpa using h')]
  rfl

end Go.Proofs.YtajaedebndeajaaDoor.Quad

namespace Go.Proofs.YtajaedebndeajaaDoor.Quad
open Go Go.RowKit Go.Proofs.YtajaedebndeajaaDoorW.PrintWords Go.Proofs.YtajaedebndeajaaDoorW.PrintLast Go.Proofs.YtajaedebndeajaaDoorW.PrintMore Go.Proofs.YtajaedebndeajaaDoor.Dig
set_option linter.unusedVariables false
set_option linter.unusedSimpArgs false

/-- The variable that strings.Split's road reads. -/
def Mx (w : World) : Prop := ∃ m : Int, w.cell? ⟨4, 0, none⟩ = some (.int .i64 m)
theorem Mx.below {w w' : World} (h : Mx w) (hb : Below w.heap.size w w') : Mx w' := by
  obtain ⟨m, hm⟩ := h
  exact ⟨m, (hb.cell (World.block_lt_of_cell? w _ hm)).trans hm⟩

theorem split_calls (c : UInt8) (s : ByteArray) (hs : s.size < 4294967281) : ∃ ps : List ByteArray, ps.map (·.data.toList) = Cut.cut c s.data.toList ∧ ∀ w : World, Mx w →
    Calls Tryd.prog 67 #[.string s, .string ⟨#[c]⟩] w fun e w' => e = .returned (.slice (some ⟨w.heap.size, 0, none⟩) ps.length ps.length) ∧ w' = w.alloc (.cells (ps.map Value.string).toArray 9) := by
  refine ⟨Lib.splitB ⟨#[c]⟩ 0 (Lib.countB s ⟨#[c]⟩) s, Cut.splitB_cut c s, fun w hm => ?_⟩
  obtain ⟨m, hm⟩ := hm
  have h := Tryd.strings_Split s ⟨#[c]⟩ m w hs hm (Nat.le_refl 1)
  rwa [Lib.splitB_all ⟨#[c]⟩ (Nat.le_refl 1) 0 _ s rfl]

end Go.Proofs.YtajaedebndeajaaDoor.Quad

namespace Go.Proofs.YtajaedebndeajaaDoor.AclMet
open Go Go.RowKit Go.Proofs.YtajaedebndeajaaDoorW.PrintWords
/-- What the listed variables hold: the errors' three pointers, the handle of the type error. -/
structure Ex (w : World) (a1 a2 a3 : Addr) : Prop where
  conf : w.cell? ⟨0, 0, none⟩ = some (.iface 120 (.pointer (some a1)))
  tenant : w.cell? ⟨1, 0, none⟩ = some (.iface 120 (.pointer (some a2)))
  ports : w.cell? ⟨2, 0, none⟩ = some (.iface 120 (.pointer (some a3)))
  type : w.cell? ⟨3, 0, none⟩ = some (.iface 72 (.agg #[.pointer (some ⟨7, 32, none⟩)]))
  n12 : a1 ≠ a2
  n13 : a1 ≠ a3
  n23 : a2 ≠ a3
  b1 : ∃ cs t, w.heap[a1.block]? = some (.cells cs t (0, 0))
  b2 : ∃ cs t, w.heap[a2.block]? = some (.cells cs t (0, 0))
  b3 : ∃ cs t, w.heap[a3.block]? = some (.cells cs t (0, 0))
theorem Ex.below {w w' : World} {a1 a2 a3 : Addr} (h : Ex w a1 a2 a3) (hb : Below w.heap.size w w') : Ex w' a1 a2 a3 := by
  obtain ⟨c1, t1, k1⟩ := h.b1
  obtain ⟨c2, t2, k2⟩ := h.b2
  obtain ⟨c3, t3, k3⟩ := h.b3
  exact ⟨(hb.cell (World.block_lt_of_cell? w _ h.conf)).trans h.conf, (hb.cell (World.block_lt_of_cell? w _ h.tenant)).trans h.tenant, (hb.cell (World.block_lt_of_cell? w _ h.ports)).trans h.ports, (hb.cell (World.block_lt_of_cell? w _ h.type)).trans h.type,
    h.n12, h.n13, h.n23, ⟨c1, t1, blk_below k1 hb⟩, ⟨c2, t2, blk_below k2 hb⟩, ⟨c3, t3, blk_below k3 hb⟩⟩
structure WMet (w : World) : Prop where
  mx : Quad.Mx w
  ex : ∃ a1 a2 a3, Ex w a1 a2 a3
theorem WMet.below {w w' : World} (h : WMet w) (hb : Below w.heap.size w w') : WMet w' := by
  obtain ⟨a1, a2, a3, hx⟩ := h.ex
  exact ⟨Quad.Mx.below h.mx hb, a1, a2, a3, hx.below hb⟩
end Go.Proofs.YtajaedebndeajaaDoor.AclMet

namespace Go.Proofs.YtajaedebndeajaaDoor.Door
open Go Go.ChangeShapes Go.WideShapes Go.ChangeAt Go.RowKit
set_option linter.unusedVariables false

def laidX : List (String × DataW Unit) := [("unicode/utf8.acceptRanges", Rows.laid_unicode_utf8_acceptRanges), ("errors.errorType", Rows.laid_errors_errorType), ("wharfinger/api.ErrConf", Rows.laid_wharfinger_api_ErrConf), ("wharfinger/api.ErrTenant", Rows.laid_wharfinger_api_ErrTenant), ("wharfinger/api.ErrPorts", Rows.laid_wharfinger_api_ErrPorts), ("unicode/utf8.first", Rows.laid_unicode_utf8_first)]
def plainX : List (String × DataW Unit) := [("unicode/utf8.acceptRanges", Rows.laid_unicode_utf8_acceptRanges), ("wharfinger/api.ErrConf", Rows.laid_wharfinger_api_ErrConf), ("wharfinger/api.ErrTenant", Rows.laid_wharfinger_api_ErrTenant), ("wharfinger/api.ErrPorts", Rows.laid_wharfinger_api_ErrPorts), ("unicode/utf8.first", Rows.laid_unicode_utf8_first)]
def handX : List (String × DataW Unit) := [("errors.errorType", Rows.laid_errors_errorType)]
set_option maxRecDepth 100000 in
theorem plainX_eq : (laidX.filter fun x => x.2.handleName?.isNone) = plainX := by kernel_rfl
set_option maxRecDepth 100000 in
theorem handX_eq : (laidX.filter fun x => x.2.handleName?.isSome) = handX := by kernel_rfl
/-- A start at which the handle lies. -/
noncomputable def startX (os : Os) : World :=
  let w0 := World.holding Tryd.prog os ⟨#[], #[], []⟩
  { w0 with heap := w0.heap.modify 3 fun
      | .cells _ t frozen => .cells #[.iface 72 (.agg #[.pointer (some ⟨Tryd.prog.globals.size, 32, none⟩)])] t frozen
      | o => o }
noncomputable def worldX (os : Os) : World := (startX os).layVars Tryd.prog plainX
theorem worldX_os (os : Os) : (worldX os).os = os := World.layVars_os _ _ _
set_option maxRecDepth 100000 in
theorem laid_metP (os : Os) : laidMet Tryd.prog plainX (worldX os) := by
  have e1 : (plainX.filter fun x => (plainX.map (·.1)).contains x.1) = plainX := List.filter_eq_self.2 fun x hx => List.contains_iff_mem.2 (List.mem_map.2 ⟨x, hx, rfl⟩)
  have e2 : (plainX.filter fun x => !(plainX.map (·.1)).contains x.1) = [] := List.filter_eq_nil_iff.2 fun x hx => by rw [List.contains_iff_mem.2 (List.mem_map.2 ⟨x, hx, rfl⟩)]; simp
  exact laidMet_layVars (w0 := startX os) (plainX.map (·.1)) [] (by rw [e1]; rfl) (by rw [e1]; kernel_rfl) (by rw [e1]; kernel_rfl) (by rw [e2]; exact LaidIn.none)
set_option maxRecDepth 100000 in
theorem laid_metX (os : Os) (args : Array Value) : laidMetH Tryd.prog laidX ((worldX os).forCall (fun _ _ => 0) ⟨#[], args, []⟩).memory :=
  laidMetH_of_parts (by rw [plainX_eq]; exact (laid_metP os).of_heap (by simp [World.memory, World.forCall, Input.heap])) (by rw [handX_eq]; kernel_rfl)

theorem et : Tryd.prog.globalNamed "errors.errorType" = some 3 := by kernel_rfl
theorem rt : (Tryd.prog.cutTypes.find? (·.1 == "internal/reflectlite.rtype")).map (·.2) = some 72 := by kernel_rfl
set_option maxRecDepth 100000 in
theorem oneRow : ((List.range Tryd.prog.types.size).filter fun t => Tryd.prog.rowNamed t [101, 114, 114, 111, 114]) = [32] := by kernel_rfl
theorem gC : Tryd.prog.globalNamed "wharfinger/api.ErrConf" = some 0 := by kernel_rfl
theorem gCT : (Tryd.prog.globals[0]?).map (·.type) = some 32 := by kernel_rfl
theorem gT : Tryd.prog.globalNamed "wharfinger/api.ErrTenant" = some 1 := by kernel_rfl
theorem gTT : (Tryd.prog.globals[1]?).map (·.type) = some 32 := by kernel_rfl
theorem gP : Tryd.prog.globalNamed "wharfinger/api.ErrPorts" = some 2 := by kernel_rfl
theorem gPT : (Tryd.prog.globals[2]?).map (·.type) = some 32 := by kernel_rfl
theorem star : "*" ++ "errors.errorString" = "*errors.errorString" := by decide
theorem rowE (u : TypeId) (h : Tryd.prog.typeName? 3 u = some "*errors.errorString") : u = 120 :=
  typeName_ptr_named (nm := "errors.errorString") (by rw [star]; kernel_rfl) (by kernel_rfl) (by decide) u (by rw [star]; exact h)
theorem cellsE : Tryd.prog.cellsOf 141 = 1 := by kernel_rfl
theorem cellsS : Tryd.prog.cellsOf 9 = 1 := by kernel_rfl
theorem handle_of {W : World} (h : handlesMet Tryd.prog handX W) : W.cell? ⟨3, 0, none⟩ = some (.iface 72 (.agg #[.pointer (some ⟨Tryd.prog.globals.size, 32, none⟩)])) := by
  obtain ⟨name, u, ty, e1, e2, e3, e4, e5⟩ := h _ (List.mem_singleton.2 rfl)
  have en : name = [101, 114, 114, 111, 114] := (Option.some.inj e1).symm
  subst en
  obtain rfl := Option.some.inj (rt.symm.trans e2)
  have hm : ty ∈ (List.range Tryd.prog.types.size).filter fun t => Tryd.prog.rowNamed t [101, 114, 114, 111, 114] := List.mem_filter.2 ⟨List.mem_range.2 e3, e4⟩
  rw [oneRow] at hm
  obtain rfl := List.mem_singleton.1 hm
  have hh : typeHandle Tryd.prog 32 = .pointer (some ⟨Tryd.prog.globals.size, 32, none⟩) := by kernel_rfl
  rw [hh] at e5
  simpa using World.var?_cell et e5 0
theorem globals_size : Tryd.prog.globals.size = 7 := by kernel_rfl
theorem laidMet_drop2 {P : Program} {x y : String × DataW Unit} {r : List (String × DataW Unit)} {w : World} (h : laidMet P (x :: y :: r) w) : laidMet P (x :: r) w := by
  obtain ⟨ps, hv, hnd, hrows⟩ := h
  obtain ⟨n, d⟩ := x
  obtain ⟨m, e⟩ := y
  obtain ⟨g, t, cs, fuel, p, q, h1, h2, h3, h4, hq, rfl⟩ := hv
  obtain ⟨g', t', cs', fuel', p', q', _, _, _, _, hq', rfl⟩ := hq
  refine ⟨_, ⟨g, t, cs, fuel, p, q', h1, h2, h3, h4, hq', rfl⟩, hnd.sublist (List.Sublist.append (List.Sublist.refl _) (List.sublist_append_right _ _)), fun b off hm => hrows b off ?_⟩
  rcases List.mem_append.1 hm with h | h
  · exact List.mem_append_left _ h
  · exact List.mem_append_right _ (List.mem_append_right _ h)
/-- What the laws ask of the first world. -/
theorem met_of {W : World} (h : laidMetH Tryd.prog laidX W) (hsh : W.ShapedOpen Tryd.prog) : AclMet.WMet W := by
  have hp : laidMet Tryd.prog plainX W ∧ handlesMet Tryd.prog handX W := by
    have h' := h
    unfold laidMetH at h'
    rw [handX_eq, plainX_eq] at h'
    exact h'
  obtain ⟨a1, a2, _, _, _, _, _, _, hv1, hv2, _, _, _, _, _, _, n12, hb1, hb2⟩ := laid_sentinels2 hp.1.tail gC gCT gT gTT Tryd.underlying32 rowE Tryd.underlying120 Tryd.underlying141 rfl rfl Tryd.underlying9 cellsE cellsS
  obtain ⟨b1, b3, _, _, _, _, _, _, hw1, hv3, _, _, _, _, _, _, n13, _, hb3⟩ := laid_sentinels2 (laidMet_drop2 hp.1.tail) gC gCT gP gPT Tryd.underlying32 rowE Tryd.underlying120 Tryd.underlying141 rfl rfl Tryd.underlying9 cellsE cellsS
  obtain ⟨c2, c3, _, _, _, _, _, _, hw2, hw3, _, _, _, _, _, _, n23, _, _⟩ := laid_sentinels2 hp.1.tail.tail gT gTT gP gPT Tryd.underlying32 rowE Tryd.underlying120 Tryd.underlying141 rfl rfl Tryd.underlying9 cellsE cellsS
  have e1 := hv1.symm.trans hw1
  have e2 := hv2.symm.trans hw2
  have e3 := hv3.symm.trans hw3
  simp only [Option.some.injEq, Array.mk.injEq, List.cons.injEq, Value.iface.injEq, Value.pointer.injEq, true_and, and_true] at e1 e2 e3
  subst e1 e2 e3
  have hg1 : W.cell? ⟨0, 0, none⟩ = some (.iface 120 (.pointer (some a1))) := by simpa using World.var?_cell gC hv1 0
  have hg2 : W.cell? ⟨1, 0, none⟩ = some (.iface 120 (.pointer (some a2))) := by simpa using World.var?_cell gT hv2 0
  have hg3 : W.cell? ⟨2, 0, none⟩ = some (.iface 120 (.pointer (some b3))) := by simpa using World.var?_cell gP hv3 0
  have hh := handle_of hp.2
  rw [globals_size] at hh
  exact ⟨maxLen_cell hsh, a1, a2, b3, hg1, hg2, hg3, hh, n12, n13, n23, ⟨_, _, hb1⟩, ⟨_, _, hb2⟩, ⟨_, _, hb3⟩⟩
end Go.Proofs.YtajaedebndeajaaDoor.Door

namespace Go.Proofs.YtajaedebndeajaaDoor.Err
open Go.RowKit Go.Extern.Stop Go.Stop Go.Extern

/-- errors.As(nil, target). -/
theorem as_nil (t : Value) (w : World) :
    Calls Tryd.prog 18 #[.nilIface, t] w fun e w' => e = .returned (.bool false) ∧ w' = w := by
  go_enter Tryd.func18, Tryd.ntmps18
  go_wp2
  go_ret
  exact ⟨rfl, rfl⟩

/-! ### CLOSED FACTS ON THE MODEL's ENTRIES FOR internal/reflectlite, at this program's types: 25: *p.E · 27: **p.E · 23: error · 45: reflectlite's rtype · 1: how many package-level variables the dump has -/
theorem as_valueOf27 (t : Addr) (w : World) : (ReflectliteValue.unpack (.iface 47 (.pointer (some t)))).run Tryd.prog w
    = .ok (.agg #[.pointer (some ⟨7, 47, none⟩), .pointer (some ⟨w.heap.size, 0, none⟩), .int .u64 150]) (w.alloc (.cells #[.pointer (some t)] 47)) := by kernel_rfl
theorem as_type27 (a : Addr) (w : World) : (ReflectliteValue.methodAny (ReflectliteValue.valueError "reflectlite.Value.Type" 0) (fun t _ _ _ => ReflectliteType.toType t) #[.agg #[.pointer (some ⟨7, 47, none⟩), .pointer (some a), .int .u64 150]]).run Tryd.prog w
    = .ok (.iface 72 (.agg #[.pointer (some ⟨7, 47, none⟩)])) w := by kernel_rfl
theorem as_methodKind (h : Value) (w : World) : (Go.method 253 72 (.agg #[h]) "Kind").run Tryd.prog w = .ok (93, h) w := by kernel_rfl
theorem as_kind27 (w : World) : ((ReflectliteType.abiMethod fun t => (fun a : Nat => Value.int IntKind.u8 (a : Int)) <$> Rtype.kind t) #[.pointer (some ⟨7, 47, none⟩)]).run Tryd.prog w = .ok (.int .u8 22) w := by kernel_rfl
theorem as_kind25 (w : World) : ((ReflectliteType.abiMethod fun t => (fun a : Nat => Value.int IntKind.u8 (a : Int)) <$> Rtype.kind t) #[.pointer (some ⟨7, 45, none⟩)]).run Tryd.prog w = .ok (.int .u8 22) w := by kernel_rfl

/-! ### THE ENTRIES THAT READ OR WRITE MEMORY: laws with a premise on the cell (after Derived/Lib/ReflectliteSlice.lean's manner: each unfolding a lemma of its own, by rfl) -/
theorem rlm (z : Sem Value) (f : TypeId → Addr → Nat → Nat → Sem Value) (v : Value) :
    ReflectliteValue.method z f #[v] = (do match ← ReflectliteValue.parts v with | none => z | some (t, a, fl) => f t a fl (fl % 32)) := rfl
theorem as_parts27 (a : Addr) (w : World) : (ReflectliteValue.parts (.agg #[.pointer (some ⟨7, 47, none⟩), .pointer (some a), .int .u64 150])).run Tryd.prog w = .ok (some (47, a, 150)) w := by kernel_rfl
/-- (Value).IsNil at the Value of a **p.E that is not nil. -/
theorem as_isNil27 (a p : Addr) (W : World) (ha : W.cell? a = some (.pointer (some p))) :
    (ReflectliteValue.method (ReflectliteValue.valueError "reflectlite.Value.IsNil" 0) ReflectliteValue.isNil #[.agg #[.pointer (some ⟨7, 47, none⟩), .pointer (some a), .int .u64 150]]).run Tryd.prog W = .ok (.bool false) W := by
  rw [rlm]
  simp only [Sem.run_bind, as_parts27, Result.andThen]
  simp [ReflectliteValue.isNil, loadVar, isAgg, underlying, Tryd.underlying47, ha, Result.andThen]

theorem as_methodElem (h : Value) (w : World) : (Go.method 253 72 (.agg #[h]) "Elem").run Tryd.prog w = .ok (104, .agg #[h]) w := by kernel_rfl
theorem as_methodImplements (h : Value) (w : World) : (Go.method 253 72 (.agg #[h]) "Implements").run Tryd.prog w = .ok (105, .agg #[h]) w := by kernel_rfl
theorem as_methodAssignableTo (h : Value) (w : World) : (Go.method 253 72 (.agg #[h]) "AssignableTo").run Tryd.prog w = .ok (102, .agg #[h]) w := by kernel_rfl
theorem as_elem27 (w : World) : (ReflectliteType.method ReflectliteType.elem #[.agg #[.pointer (some ⟨7, 47, none⟩)]]).run Tryd.prog w = .ok (.iface 72 (.agg #[.pointer (some ⟨7, 45, none⟩)])) w := by kernel_rfl
theorem as_implements25 (w : World) : (ReflectliteType.relation "Implements" ReflectliteType.implements_ #[.agg #[.pointer (some ⟨7, 45, none⟩)], .iface 72 (.agg #[.pointer (some ⟨7, 32, none⟩)])]).run Tryd.prog w = .ok (.bool true) w := by kernel_rfl
theorem as_typeOf25 (v : Value) (w : World) : (ReflectliteType.typeOf #[.iface 45 v]).run Tryd.prog w = .ok (.iface 72 (.agg #[.pointer (some ⟨7, 45, none⟩)])) w := by kernel_rfl
theorem as_assignable25 (w : World) : (ReflectliteType.relation "AssignableTo" ReflectliteType.assignableTo #[.agg #[.pointer (some ⟨7, 45, none⟩)], .iface 72 (.agg #[.pointer (some ⟨7, 45, none⟩)])]).run Tryd.prog w = .ok (.bool true) w := by kernel_rfl
theorem as_valueOf25 (e : Addr) (w : World) : (ReflectliteValue.unpack (.iface 45 (.pointer (some e)))).run Tryd.prog w
    = .ok (.agg #[.pointer (some ⟨7, 45, none⟩), .pointer (some ⟨w.heap.size, 0, none⟩), .int .u64 150]) (w.alloc (.cells #[.pointer (some e)] 45)) := by kernel_rfl

theorem as_elemOf27 (w : World) : (Rtype.elem? 47).run Tryd.prog w = .ok (some 45) w := by kernel_rfl
theorem as_mk25 (p : Addr) (w : World) : (ReflectliteValue.mk 45 p ReflectliteValue.flagAddr).run Tryd.prog w = .ok (.agg #[.pointer (some ⟨7, 45, none⟩), .pointer (some p), .int .u64 406]) w := by kernel_rfl
/-- (Value).Elem at the Value of a **p.E that is not nil: the Value of the *p.E variable that it points to, addressable. -/
theorem as_elemV27 (a p : Addr) (W : World) (ha : W.cell? a = some (.pointer (some p))) :
    (ReflectliteValue.method (ReflectliteValue.valueError "reflectlite.Value.Elem" 0) ReflectliteValue.elem #[.agg #[.pointer (some ⟨7, 47, none⟩), .pointer (some a), .int .u64 150]]).run Tryd.prog W
      = .ok (.agg #[.pointer (some ⟨7, 45, none⟩), .pointer (some p), .int .u64 406]) W := by
  rw [rlm]
  simp only [Sem.run_bind, as_parts27, Result.andThen]
  simp [ReflectliteValue.elem, loadVar, isAgg, underlying, Tryd.underlying47, ha, Result.andThen, as_elemOf27, as_mk25]
theorem rls (v x : Value) : ReflectliteValue.set #[v, x] = (do
    let (some (dst, a, fl), some (src, b, _)) := (← ReflectliteValue.parts v, ← ReflectliteValue.parts x)
      | unsupported (.noEntry "extern/(internal/reflectlite.Value).Set.zeroValue")
    if fl / ReflectliteValue.flagAddr % 2 == 0 then unsupported (.noEntry "extern/(internal/reflectlite.Value).Set.unaddressable")
    let val ← loadVar src b
    if ← Rtype.directlyAssignable dst src then storeVar dst a val
    else if ← Rtype.implements dst src then
      if (← Rtype.kind src) == 20 then
        match val with
        | .nilIface => unsupported (.noEntry "extern/reflectlite: a nil value of one interface type handed on as a value of another")
        | _ => storeVar dst a val
      else storeVar dst a (.iface src val)
    else panicString ("reflectlite.Set: value of type " ++ (← Rtype.spelt src) ++ " is not assignable to type " ++ (← Rtype.spelt dst))
    pure (.tuple #[])) := rfl
theorem as_parts25a (a : Addr) (w : World) : (ReflectliteValue.parts (.agg #[.pointer (some ⟨7, 45, none⟩), .pointer (some a), .int .u64 406])).run Tryd.prog w = .ok (some (45, a, 406)) w := by kernel_rfl
theorem as_parts25 (a : Addr) (w : World) : (ReflectliteValue.parts (.agg #[.pointer (some ⟨7, 45, none⟩), .pointer (some a), .int .u64 150])).run Tryd.prog w = .ok (some (45, a, 150)) w := by kernel_rfl
theorem as_direct25 (w : World) : (Rtype.directlyAssignable 45 45).run Tryd.prog w = .ok true w := by kernel_rfl
/-- (Value).Set: the *p.E variable at 'ta' gets what the Value's own variable 'b' holds. -/
theorem as_set25 (ta b e : Addr) (old : Value) (W : World) (hb : W.cell? b = some (.pointer (some e))) (ht : W.cell? ta = some old) (hf : W.frozen? ta = false) :
    (ReflectliteValue.set #[.agg #[.pointer (some ⟨7, 45, none⟩), .pointer (some ta), .int .u64 406], .agg #[.pointer (some ⟨7, 45, none⟩), .pointer (some b), .int .u64 150]]).run Tryd.prog W
      = .ok (.tuple #[]) (W.setCell ta (.pointer (some e))) := by
  rw [rls]
  simp only [Sem.run_bind, as_parts25a, as_parts25, Result.andThen]
  simp [ReflectliteValue.flagAddr, loadVar, isAgg, underlying, Tryd.underlying45, hb, Result.andThen, as_direct25, storeVar, Value.cells, storeCells, Addr.add]
  rw [run_store Tryd.prog W ta _ _ (by rfl)]
  simp [ht, hf]

set_option maxHeartbeats 4000000 in
set_option maxRecDepth 100000 in
theorem as_hit (e t : Addr) (old : Value) (w : World) (hg : w.cell? ⟨3, 0, none⟩ = some (.iface 72 (.agg #[.pointer (some ⟨7, 32, none⟩)]))) (ht0 : w.cell? t = some old) (hf0 : w.frozen? t = false) :
    Calls Tryd.prog 18 #[.iface 45 (.pointer (some e)), .iface 47 (.pointer (some t))] w fun ev w' => ev = .returned (.bool true) ∧ w' = ((((w.alloc (.cells #[.pointer (some t)] 47)).alloc (.cells #[.pointer (some ⟨7, 47, none⟩), .pointer (some ⟨w.heap.size, 0, none⟩), .int .u64 150] 60)).alloc (.cells #[.pointer (some ⟨7, 47, none⟩), .pointer (some ⟨w.heap.size, 0, none⟩), .int .u64 150] 60)).alloc (.cells #[.pointer (some e)] 45)).setCell t (.pointer (some e)) := by
  have h6 := @run_callFunc_extern Tryd.prog 27 _ (fun args => ReflectliteValue.unpack (args.getD 0 (.tuple #[]))) Tryd.func27 (by kernel_rfl) (by kernel_rfl) (by kernel_rfl) (by kernel_rfl)
  have h7 := @run_callFunc_extern Tryd.prog 28 _ (ReflectliteValue.methodAny (ReflectliteValue.valueError "reflectlite.Value.Type" 0) (fun t _ _ _ => ReflectliteType.toType t)) Tryd.func28 (by kernel_rfl) (by kernel_rfl) (by kernel_rfl) (by kernel_rfl)
  have h8 := @run_callFunc_extern Tryd.prog 29 _ (ReflectliteValue.method (ReflectliteValue.valueError "reflectlite.Value.IsNil" 0) ReflectliteValue.isNil) Tryd.func29 (by kernel_rfl) (by kernel_rfl) (by kernel_rfl) (by kernel_rfl)
  have h27 := @run_callFunc_extern Tryd.prog 93 _ (ReflectliteType.abiMethod fun t => do pure (.int .u8 (← Rtype.kind t))) Tryd.func93 (by kernel_rfl) (by kernel_rfl) (by kernel_rfl) (by kernel_rfl)
  have h37 := @run_callFunc_extern Tryd.prog 104 _ (ReflectliteType.method ReflectliteType.elem) Tryd.func104 (by kernel_rfl) (by kernel_rfl) (by kernel_rfl) (by kernel_rfl)
  have h38 := @run_callFunc_extern Tryd.prog 105 _ (ReflectliteType.relation "Implements" ReflectliteType.implements_) Tryd.func105 (by kernel_rfl) (by kernel_rfl) (by kernel_rfl) (by kernel_rfl)
  have h10 := @run_callFunc_extern Tryd.prog 25 _ ReflectliteType.typeOf Tryd.func25 (by kernel_rfl) (by kernel_rfl) (by kernel_rfl) (by kernel_rfl)
  have h35 := @run_callFunc_extern Tryd.prog 102 _ (ReflectliteType.relation "AssignableTo" ReflectliteType.assignableTo) Tryd.func102 (by kernel_rfl) (by kernel_rfl) (by kernel_rfl) (by kernel_rfl)
  have h11 := @run_callFunc_extern Tryd.prog 40 _ (ReflectliteValue.method (ReflectliteValue.valueError "reflectlite.Value.Elem" 0) ReflectliteValue.elem) Tryd.func40 (by kernel_rfl) (by kernel_rfl) (by kernel_rfl) (by kernel_rfl)
  have h12 := @run_callFunc_extern Tryd.prog 41 _ ReflectliteValue.set Tryd.func41 (by kernel_rfl) (by kernel_rfl) (by kernel_rfl) (by kernel_rfl)
  have tO := as_typeOf25
  have mA := as_methodAssignableTo
  have a25 := as_assignable25
  have v25 := as_valueOf25
  have f6 := as_valueOf27
  have f7 := as_type27
  have mK := as_methodKind
  have mE := as_methodElem
  have mI := as_methodImplements
  have k27 := as_kind27
  have k25 := as_kind25
  have e27 := as_elem27
  have i25 := as_implements25
  have n8 := as_isNil27 ⟨w.heap.size, 0, none⟩ t ((w.alloc (.cells #[.pointer (some t)] 47)).alloc (.cells #[.pointer (some ⟨7, 47, none⟩), .pointer (some ⟨w.heap.size, 0, none⟩), .int .u64 150] 60)) (by simp)
  have hlt : 3 < w.heap.size := by
    rcases Nat.lt_or_ge 3 w.heap.size with h | h
    · exact h
    · simp [World.cell?, Array.getElem?_eq_none h] at hg
  have hg2 : ((w.alloc (.cells #[.pointer (some t)] 47)).alloc (.cells #[.pointer (some ⟨7, 47, none⟩), .pointer (some ⟨w.heap.size, 0, none⟩), .int .u64 150] 60)).cell? ⟨3, 0, none⟩ = some (.iface 72 (.agg #[.pointer (some ⟨7, 32, none⟩)])) := by
    rw [World.cell?_alloc_lt _ _ ⟨3, 0, none⟩ (by simp; omega), World.cell?_alloc_lt _ _ ⟨3, 0, none⟩ hlt]; exact hg
  have htl : t.block < w.heap.size := by
    rcases Nat.lt_or_ge t.block w.heap.size with h | h
    · exact h
    · simp [World.cell?, Array.getElem?_eq_none h] at ht0
  have el := as_elemV27 ⟨w.heap.size, 0, none⟩ t (((w.alloc (.cells #[.pointer (some t)] 47)).alloc (.cells #[.pointer (some ⟨7, 47, none⟩), .pointer (some ⟨w.heap.size, 0, none⟩), .int .u64 150] 60)).alloc (.cells #[.pointer (some ⟨7, 47, none⟩), .pointer (some ⟨w.heap.size, 0, none⟩), .int .u64 150] 60)) (by rw [World.cell?_alloc_lt _ _ ⟨w.heap.size, 0, none⟩ (by simp; omega)]; simp)
  have st := as_set25 t ⟨w.heap.size + 1 + 1 + 1, 0, none⟩ e old ((((w.alloc (.cells #[.pointer (some t)] 47)).alloc (.cells #[.pointer (some ⟨7, 47, none⟩), .pointer (some ⟨w.heap.size, 0, none⟩), .int .u64 150] 60)).alloc (.cells #[.pointer (some ⟨7, 47, none⟩), .pointer (some ⟨w.heap.size, 0, none⟩), .int .u64 150] 60)).alloc (.cells #[.pointer (some e)] 45))
    (by rw [World.cell?_alloc_at _ _ _ _ (by simp)]; rfl)
    (by rw [World.cell?_alloc_lt _ _ t (by simp; omega), World.cell?_alloc_lt _ _ t (by simp; omega), World.cell?_alloc_lt _ _ t (by simp; omega), World.cell?_alloc_lt _ _ t htl]; exact ht0)
    (by rw [World.frozen?_alloc_old _ _ t (by simp; omega), World.frozen?_alloc_old _ _ t (by simp; omega), World.frozen?_alloc_old _ _ t (by simp; omega), World.frozen?_alloc_old _ _ t (Nat.ne_of_lt htl)]; exact hf0)
  go_enter Tryd.func18, Tryd.ntmps18
  go_wp2
  refine wp_loop_rounds 1 ?_
  rw [rounds_succ]
  go_wp2
  go_ret
  exact ⟨rfl, rfl⟩
end Go.Proofs.YtajaedebndeajaaDoor.Err

namespace Go.Proofs.YtajaedebndeajaaDoor.Err
open Go.RowKit Go.Extern.Stop Go.Stop Go.Extern

/-! ### CLOSED FACTS: what 'reflectlite.TypeOf(target).Comparable()' gives at such a target -/
theorem is_fTypeOf (v : Value) (w : World) : (Extern.ReflectliteType.typeOf #[.iface 120 v]).run Tryd.prog w = .ok (.iface 72 (.agg #[.pointer (some ⟨7, 120, none⟩)])) w := by kernel_rfl
theorem is_fComparable (w : World) : ((Extern.ReflectliteType.method fun t => do Extern.Rtype.noPackHeld "Comparable" t; (fun a => Value.bool a.comparable) <$> typeInfo t) #[.agg #[.pointer (some ⟨7, 120, none⟩)]]).run Tryd.prog w = .ok (.bool true) w := by kernel_rfl
theorem is_fMethodComparable (v : Value) (w : World) : (Go.method 253 72 v "Comparable").run Tryd.prog w = .ok (103, v) w := by kernel_rfl
theorem is_fComp : (Tryd.prog.info? 120).map (·.comparable) = some true := by kernel_rfl
theorem is_fSize : (Tryd.prog.info? 141).map (·.size) = some 1 := by kernel_rfl

/-! ### CLOSED FACTS ON THE METHOD SETS: what errors.is's assertions find -/
theorem is_noIsE (v : Value) (xT : TypeId) (w : World) : (Instr.typeAssert (.iface 120 v) xT 74 true).run Tryd.prog w = .ok (.tuple #[.nilIface, .bool false]) w := run_typeAssert_lacksB Tryd.underlying74 (by kernel_rfl) (by kernel_rfl) v xT w
theorem is_noUnwrapE (v : Value) (xT : TypeId) (w : World) : (Instr.typeAssert (.iface 120 v) xT 77 true).run Tryd.prog w = .ok (.tuple #[.nilIface, .bool false]) w := run_typeAssert_lacksB Tryd.underlying77 (by kernel_rfl) (by kernel_rfl) v xT w
theorem is_noUnwrapsE (v : Value) (xT : TypeId) (w : World) : (Instr.typeAssert (.iface 120 v) xT 79 true).run Tryd.prog w = .ok (.tuple #[.nilIface, .bool false]) w := run_typeAssert_lacksB Tryd.underlying79 (by kernel_rfl) (by kernel_rfl) v xT w
theorem is_noIsW (v : Value) (xT : TypeId) (w : World) : (Instr.typeAssert (.iface 45 v) xT 74 true).run Tryd.prog w = .ok (.tuple #[.nilIface, .bool false]) w := run_typeAssert_lacksB Tryd.underlying74 (by kernel_rfl) (by kernel_rfl) v xT w
theorem is_hasUnwrapW (v : Value) (xT : TypeId) (w : World) : (Instr.typeAssert (.iface 45 v) xT 77 true).run Tryd.prog w = .ok (.tuple #[.iface 45 v, .bool true]) w := run_typeAssert_hasB Tryd.underlying77 (by kernel_rfl) v xT w
theorem is_methodUnwrap (v : Value) (w : World) : (Go.method 253 45 v "Unwrap").run Tryd.prog w = .ok (97, v) w := by kernel_rfl

set_option maxRecDepth 100000 in
/-- errors.Is(e, x), e a *bad that wraps x itself: one Unwrap, then equal. -/
theorem is_wrap_same (pb po : Nat) (b : Addr) (w : World) (h1 : w.cell? ⟨pb, po + 1, none⟩ = some (.iface 120 (.pointer (some b)))) :
    Calls Tryd.prog 16 #[.iface 45 (.pointer (some ⟨pb, po, none⟩)), .iface 120 (.pointer (some b))] w fun e w' => e = .returned (.bool true) ∧ w' = w := by
  obtain ⟨i, hi, hcmp⟩ := Option.map_eq_some_iff.1 is_fComp
  obtain ⟨j, hj, hjs⟩ := Option.map_eq_some_iff.1 is_fSize
  have h8 := @run_callFunc_extern Tryd.prog 25 _ Extern.ReflectliteType.typeOf Tryd.func25 (by kernel_rfl) (by kernel_rfl) (by kernel_rfl) (by kernel_rfl)
  have h32 := @run_callFunc_extern Tryd.prog 103 _ (Extern.ReflectliteType.method fun t => do Extern.Rtype.noPackHeld "Comparable" t; pure (.bool (← typeInfo t).comparable)) Tryd.func103 (by kernel_rfl) (by kernel_rfl) (by kernel_rfl) (by kernel_rfl)
  have tT := is_fTypeOf
  have cT := is_fComparable
  have mR := is_fMethodComparable
  have nE := is_noIsE
  have uE := is_noUnwrapE
  have vE := is_noUnwrapsE
  have nW := is_noIsW
  have uW := is_hasUnwrapW
  have mU := is_methodUnwrap
  have heq := run_eql_iface_ptr_same (P := Tryd.prog) w b Tryd.underlying32 Tryd.underlying120 hi hcmp hj
  have hty := run_eql_iface_types (P := Tryd.prog) 45 120 (.pointer (some ⟨pb, po, none⟩)) (.pointer (some b)) Tryd.underlying32 (by decide) w
  go_enter Tryd.func16, Tryd.ntmps16
  go_wp2
  refine wp_loop_rounds 2 ?_
  rw [rounds_succ]
  go_wp2
  rw [rounds_succ]
  go_wp2
  go_ret
  exact ⟨rfl, rfl⟩

set_option maxRecDepth 100000 in
/-- errors.Is(e, x), e a *bad that wraps another error of errors.New's make. -/
theorem is_wrap_other (pb po : Nat) (b a : Addr) (ca cb : Array Value) (ta tb : TypeId) (w : World) (h1 : w.cell? ⟨pb, po + 1, none⟩ = some (.iface 120 (.pointer (some a)))) (hne : a ≠ b) (ha : w.heap[a.block]? = some (.cells ca ta (0, 0))) (hb : w.heap[b.block]? = some (.cells cb tb (0, 0))) :
    Calls Tryd.prog 16 #[.iface 45 (.pointer (some ⟨pb, po, none⟩)), .iface 120 (.pointer (some b))] w fun e w' => e = .returned (.bool false) ∧ w' = w := by
  obtain ⟨i, hi, hcmp⟩ := Option.map_eq_some_iff.1 is_fComp
  obtain ⟨j, hj, hjs⟩ := Option.map_eq_some_iff.1 is_fSize
  have h8 := @run_callFunc_extern Tryd.prog 25 _ Extern.ReflectliteType.typeOf Tryd.func25 (by kernel_rfl) (by kernel_rfl) (by kernel_rfl) (by kernel_rfl)
  have h32 := @run_callFunc_extern Tryd.prog 103 _ (Extern.ReflectliteType.method fun t => do Extern.Rtype.noPackHeld "Comparable" t; pure (.bool (← typeInfo t).comparable)) Tryd.func103 (by kernel_rfl) (by kernel_rfl) (by kernel_rfl) (by kernel_rfl)
  have tT := is_fTypeOf
  have cT := is_fComparable
  have mR := is_fMethodComparable
  have nE := is_noIsE
  have uE := is_noUnwrapE
  have vE := is_noUnwrapsE
  have nW := is_noIsW
  have uW := is_hasUnwrapW
  have mU := is_methodUnwrap
  have heq := run_eql_iface_ptr_other (P := Tryd.prog) w Tryd.underlying32 Tryd.underlying120 hi hcmp hj (by rw [hjs]; decide) hne ha hb
  have hty := run_eql_iface_types (P := Tryd.prog) 45 120 (.pointer (some ⟨pb, po, none⟩)) (.pointer (some b)) Tryd.underlying32 (by decide) w
  go_enter Tryd.func16, Tryd.ntmps16
  go_wp2
  refine wp_loop_rounds 2 ?_
  rw [rounds_succ]
  go_wp2
  rw [rounds_succ]
  go_wp2
  go_ret
  exact ⟨rfl, rfl⟩

end Go.Proofs.YtajaedebndeajaaDoor.Err

namespace Go.Proofs.YtajaedebndeajaaDoor.Q
open Go.RowKit Go.Proofs.YtajaedebndeajaaDoor.AclMet Go.Proofs.YtajaedebndeajaaDoorW.PrintWords Go.Proofs.YtajaedebndeajaaDoorW.PrintLast Go.Proofs.YtajaedebndeajaaDoorW.PrintMore
attribute [local go_sem] max2_int min2_int max_two min_two max_three min_three max_four min_four   -- for this text's walks alone
set_option linter.unusedVariables false
set_option linter.unusedSimpArgs false



def errW : Option Int → Value
 | none => .nilIface
 | some c => .iface 0 (.int .i64 c)
theorem errW_none : errW none = .nilIface := rfl
theorem errW_some (c : Int) : errW (some c) = .iface 0 (.int .i64 c) := rfl

theorem info40 : (Tryd.prog.info? 40).map (fun i => (i.zero, i.size, i.bytes)) = some (some (.agg #[(.string ⟨#[]⟩), (.string ⟨#[]⟩), (.int .u8 0), (.int .u8 0), (.int .u8 0), (.int .u8 0), (.int .i64 0), (.int .i64 0), (.int .i64 0), (.slice none 0 0), (.int .i64 0), (.int .i64 0), (.int .i64 0), (.int .i64 0)]), 14, 120) := by kernel_rfl
-- the values' own types
/-! #### struct type 44 -/
structure S44 where
 f0 : Bool
 f1 : ByteArray
 f2 : ByteArray
def z44 : S44 := ⟨false, (⟨#[]⟩ : ByteArray), (⟨#[]⟩ : ByteArray)⟩
def k44 : Kd S44 := Kd.iso (Kd.pair Kd.bool (Kd.pair Kd.string Kd.string)) (fun x : S44 => (x.f0, x.f1, x.f2))
theorem k44_open {w : World} {x : S44} {cs : List Value} (h : k44.K w x cs) : cs = [.bool x.f0, .string x.f1, .string x.f2] := by
 obtain ⟨_, _, rfl, rfl, ⟨_, _, rfl, rfl, rfl⟩⟩ := h
 exact rfl
theorem k44_mkM (w : World) (base : Nat) (ok : Nat → Prop) (x : S44)  : k44.M w base ok x [.bool x.f0, .string x.f1, .string x.f2] := ⟨[.bool x.f0], [.string x.f1, .string x.f2], rfl, rfl, ⟨[.string x.f1], [.string x.f2], rfl, rfl, rfl⟩⟩
def rd_T44 (xs : List S44) (i : Int) : S44 := xs.getD i.toNat z44
theorem at_T44 {w : World} {A : Option Addr} {n : Nat} {xs : List S44} (h : Kd.C k44 w A n xs) (i : Int) (h0 : 0 ≤ i) (h1 : i < n) : ∃ ad , A = some ad ∧ w.cell? (ad.add (i.toNat * 3)) = some (.bool (rd_T44 xs i).f0) ∧ w.cell? ⟨(ad.add (i.toNat * 3)).block, (ad.add (i.toNat * 3)).off + 1, none⟩ = some (.string (rd_T44 xs i).f1) ∧ w.cell? ⟨(ad.add (i.toNat * 3)).block, (ad.add (i.toNat * 3)).off + 2, none⟩ = some (.string (rd_T44 xs i).f2) := by
 obtain ⟨ad, c, e, _, hK, hc0⟩ := Kd.C_get h z44 i h0 h1
 have hc : ∀ j u, c[j]? = some u → w.cell? (ad.add (i.toNat * 3 + j)) = some u := hc0
 obtain rfl := k44_open hK
 exact ⟨ad, e, hc 0 _ rfl, by rw [← add_field _ _ 1 (by omega)]; exact hc 1 _ rfl, by rw [← add_field _ _ 2 (by omega)]; exact hc 2 _ rfl⟩

/-! #### struct type 23 -/
structure S23 where
 f0 : Int
 f1 : Int
 f2 : Int
 f3 : Int
def z23 : S23 := ⟨(0 : Int), (0 : Int), (0 : Int), (0 : Int)⟩
def k23 : Kd S23 := Kd.iso (Kd.pair (Kd.int .u8) (Kd.pair (Kd.int .u8) (Kd.pair (Kd.int .u8) (Kd.int .u8)))) (fun x : S23 => (x.f0, x.f1, x.f2, x.f3))
theorem k23_open {w : World} {x : S23} {cs : List Value} (h : k23.K w x cs) : cs = [.int .u8 x.f0, .int .u8 x.f1, .int .u8 x.f2, .int .u8 x.f3] := by
 obtain ⟨_, _, rfl, rfl, ⟨_, _, rfl, rfl, ⟨_, _, rfl, rfl, rfl⟩⟩⟩ := h
 exact rfl
theorem k23_mk (w : World) (x : S23)  : k23.K w x [.int .u8 x.f0, .int .u8 x.f1, .int .u8 x.f2, .int .u8 x.f3] := ⟨[.int .u8 x.f0], [.int .u8 x.f1, .int .u8 x.f2, .int .u8 x.f3], rfl, rfl, ⟨[.int .u8 x.f1], [.int .u8 x.f2, .int .u8 x.f3], rfl, rfl, ⟨[.int .u8 x.f2], [.int .u8 x.f3], rfl, rfl, rfl⟩⟩⟩
/-! #### struct type 37 -/
structure S37 where
 f0 : S23
 f1 : Int
def z37 : S37 := ⟨z23, (0 : Int)⟩
def k37 : Kd S37 := Kd.iso (Kd.pair k23 (Kd.int .i64)) (fun x : S37 => (x.f0, x.f1))
theorem k37_open {w : World} {x : S37} {cs : List Value} (h : k37.K w x cs) : cs = [.int .u8 x.f0.f0, .int .u8 x.f0.f1, .int .u8 x.f0.f2, .int .u8 x.f0.f3, .int .i64 x.f1] := by
 obtain ⟨_, _, rfl, s0, rfl⟩ := h
 obtain rfl := k23_open s0
 exact rfl
theorem k37_mk (w : World) (x : S37)  : k37.K w x [.int .u8 x.f0.f0, .int .u8 x.f0.f1, .int .u8 x.f0.f2, .int .u8 x.f0.f3, .int .i64 x.f1] := ⟨[.int .u8 x.f0.f0, .int .u8 x.f0.f1, .int .u8 x.f0.f2, .int .u8 x.f0.f3], [.int .i64 x.f1], rfl, (k23_mk w x.f0 ), rfl⟩
/-! #### struct type 40 -/
structure S40 where
 f0 : ByteArray
 f1 : ByteArray
 f2 : S37
 f3 : Int
 f4 : Int
 f5 : (List S44)
 f6 : Int
 f7 : Int
 f8 : Int
 f9 : Int
def z40 : S40 := ⟨(⟨#[]⟩ : ByteArray), (⟨#[]⟩ : ByteArray), z37, (0 : Int), (0 : Int), ([] : List S44), (0 : Int), (0 : Int), (0 : Int), (0 : Int)⟩
def k40 : Kd S40 := Kd.iso (Kd.pair Kd.string (Kd.pair Kd.string (Kd.pair k37 (Kd.pair (Kd.int .i64) (Kd.pair (Kd.int .i64) (Kd.pair (Kd.slice 44 k44) (Kd.pair (Kd.int .i64) (Kd.pair (Kd.int .i64) (Kd.pair (Kd.int .i64) (Kd.int .i64)))))))))) (fun x : S40 => (x.f0, x.f1, x.f2, x.f3, x.f4, x.f5, x.f6, x.f7, x.f8, x.f9))
theorem k40_open {w : World} {x : S40} {cs : List Value} (h : k40.K w x cs) : ∃ A9 c9, cs = [.string x.f0, .string x.f1, .int .u8 x.f2.f0.f0, .int .u8 x.f2.f0.f1, .int .u8 x.f2.f0.f2, .int .u8 x.f2.f0.f3, .int .i64 x.f2.f1, .int .i64 x.f3, .int .i64 x.f4, .slice A9 x.f5.length c9, .int .i64 x.f6, .int .i64 x.f7, .int .i64 x.f8, .int .i64 x.f9] ∧ x.f5.length ≤ c9 ∧ k44.C w A9 x.f5.length x.f5 := by
 obtain ⟨_, _, rfl, rfl, ⟨_, _, rfl, rfl, ⟨_, _, rfl, s2, ⟨_, _, rfl, rfl, ⟨_, _, rfl, rfl, ⟨_, _, rfl, ⟨A9, c9, rfl, l9, g9⟩, ⟨_, _, rfl, rfl, ⟨_, _, rfl, rfl, ⟨_, _, rfl, rfl, rfl⟩⟩⟩⟩⟩⟩⟩⟩⟩ := h
 obtain rfl := k37_open s2
 exact ⟨A9, c9, rfl, l9, g9⟩
theorem k40_mk (w : World) (x : S40) {A9 : Option Addr} {c9 : Nat} (l9 : x.f5.length ≤ c9) (g9 : k44.C w A9 x.f5.length x.f5) : k40.K w x [.string x.f0, .string x.f1, .int .u8 x.f2.f0.f0, .int .u8 x.f2.f0.f1, .int .u8 x.f2.f0.f2, .int .u8 x.f2.f0.f3, .int .i64 x.f2.f1, .int .i64 x.f3, .int .i64 x.f4, .slice A9 x.f5.length c9, .int .i64 x.f6, .int .i64 x.f7, .int .i64 x.f8, .int .i64 x.f9] := ⟨[.string x.f0], [.string x.f1, .int .u8 x.f2.f0.f0, .int .u8 x.f2.f0.f1, .int .u8 x.f2.f0.f2, .int .u8 x.f2.f0.f3, .int .i64 x.f2.f1, .int .i64 x.f3, .int .i64 x.f4, .slice A9 x.f5.length c9, .int .i64 x.f6, .int .i64 x.f7, .int .i64 x.f8, .int .i64 x.f9], rfl, rfl, ⟨[.string x.f1], [.int .u8 x.f2.f0.f0, .int .u8 x.f2.f0.f1, .int .u8 x.f2.f0.f2, .int .u8 x.f2.f0.f3, .int .i64 x.f2.f1, .int .i64 x.f3, .int .i64 x.f4, .slice A9 x.f5.length c9, .int .i64 x.f6, .int .i64 x.f7, .int .i64 x.f8, .int .i64 x.f9], rfl, rfl, ⟨[.int .u8 x.f2.f0.f0, .int .u8 x.f2.f0.f1, .int .u8 x.f2.f0.f2, .int .u8 x.f2.f0.f3, .int .i64 x.f2.f1], [.int .i64 x.f3, .int .i64 x.f4, .slice A9 x.f5.length c9, .int .i64 x.f6, .int .i64 x.f7, .int .i64 x.f8, .int .i64 x.f9], rfl, (k37_mk w x.f2 ), ⟨[.int .i64 x.f3], [.int .i64 x.f4, .slice A9 x.f5.length c9, .int .i64 x.f6, .int .i64 x.f7, .int .i64 x.f8, .int .i64 x.f9], rfl, rfl, ⟨[.int .i64 x.f4], [.slice A9 x.f5.length c9, .int .i64 x.f6, .int .i64 x.f7, .int .i64 x.f8, .int .i64 x.f9], rfl, rfl, ⟨[.slice A9 x.f5.length c9], [.int .i64 x.f6, .int .i64 x.f7, .int .i64 x.f8, .int .i64 x.f9], rfl, ⟨A9, c9, rfl, l9, g9⟩, ⟨[.int .i64 x.f6], [.int .i64 x.f7, .int .i64 x.f8, .int .i64 x.f9], rfl, rfl, ⟨[.int .i64 x.f7], [.int .i64 x.f8, .int .i64 x.f9], rfl, rfl, ⟨[.int .i64 x.f8], [.int .i64 x.f9], rfl, rfl, rfl⟩⟩⟩⟩⟩⟩⟩⟩⟩
theorem k40_openF {W : World} {ok : Nat → Prop} {x : S40} {cs : List Value} (h : Kd.FK k40 W ok x cs) : ∃ A9 c9, cs = [.string x.f0, .string x.f1, .int .u8 x.f2.f0.f0, .int .u8 x.f2.f0.f1, .int .u8 x.f2.f0.f2, .int .u8 x.f2.f0.f3, .int .i64 x.f2.f1, .int .i64 x.f3, .int .i64 x.f4, .slice A9 x.f5.length c9, .int .i64 x.f6, .int .i64 x.f7, .int .i64 x.f8, .int .i64 x.f9] ∧ x.f5.length ≤ c9 ∧ Kd.F k44 W ok A9 x.f5.length x.f5 := by
 obtain ⟨A9, c9, rfl, l9, _⟩ := k40_open (Kd.FK_now h)
 exact ⟨A9, c9, rfl, l9, (fun W' hW => by obtain ⟨A9_, c9_, he, l9_, g9_⟩ := k40_open (h W' hW); injection (Option.some.inj (show some (Value.slice A9 x.f5.length c9) = some (Value.slice A9_ x.f5.length c9_) from congrArg (fun l => l[9]?) he)) with ha_ _ _; rw [ha_]; exact g9_)⟩
theorem k40_mkF (W : World) (ok : Nat → Prop) (x : S40) {A9 : Option Addr} {c9 : Nat} (l9 : x.f5.length ≤ c9) (g9 : Kd.F k44 W ok A9 x.f5.length x.f5) : Kd.FK k40 W ok x [.string x.f0, .string x.f1, .int .u8 x.f2.f0.f0, .int .u8 x.f2.f0.f1, .int .u8 x.f2.f0.f2, .int .u8 x.f2.f0.f3, .int .i64 x.f2.f1, .int .i64 x.f3, .int .i64 x.f4, .slice A9 x.f5.length c9, .int .i64 x.f6, .int .i64 x.f7, .int .i64 x.f8, .int .i64 x.f9] := fun W2 hW => k40_mk W2 x l9 (g9 W2 hW)
def rd_T40 (xs : List S40) (i : Int) : S40 := xs.getD i.toNat z40
theorem at_T40 {w : World} {A : Option Addr} {n : Nat} {xs : List S40} (h : Kd.C k40 w A n xs) (i : Int) (h0 : 0 ≤ i) (h1 : i < n) : ∃ ad A9 c9, A = some ad ∧ w.cell? (ad.add (i.toNat * 14)) = some (.string (rd_T40 xs i).f0) ∧ w.cell? ⟨(ad.add (i.toNat * 14)).block, (ad.add (i.toNat * 14)).off + 1, none⟩ = some (.string (rd_T40 xs i).f1) ∧ w.cell? ⟨(ad.add (i.toNat * 14)).block, (ad.add (i.toNat * 14)).off + 2, none⟩ = some (.int .u8 (rd_T40 xs i).f2.f0.f0) ∧ w.cell? ⟨(ad.add (i.toNat * 14)).block, (ad.add (i.toNat * 14)).off + 3, none⟩ = some (.int .u8 (rd_T40 xs i).f2.f0.f1) ∧ w.cell? ⟨(ad.add (i.toNat * 14)).block, (ad.add (i.toNat * 14)).off + 4, none⟩ = some (.int .u8 (rd_T40 xs i).f2.f0.f2) ∧ w.cell? ⟨(ad.add (i.toNat * 14)).block, (ad.add (i.toNat * 14)).off + 5, none⟩ = some (.int .u8 (rd_T40 xs i).f2.f0.f3) ∧ w.cell? ⟨(ad.add (i.toNat * 14)).block, (ad.add (i.toNat * 14)).off + 6, none⟩ = some (.int .i64 (rd_T40 xs i).f2.f1) ∧ w.cell? ⟨(ad.add (i.toNat * 14)).block, (ad.add (i.toNat * 14)).off + 7, none⟩ = some (.int .i64 (rd_T40 xs i).f3) ∧ w.cell? ⟨(ad.add (i.toNat * 14)).block, (ad.add (i.toNat * 14)).off + 8, none⟩ = some (.int .i64 (rd_T40 xs i).f4) ∧ w.cell? ⟨(ad.add (i.toNat * 14)).block, (ad.add (i.toNat * 14)).off + 9, none⟩ = some (.slice A9 (rd_T40 xs i).f5.length c9) ∧ w.cell? ⟨(ad.add (i.toNat * 14)).block, (ad.add (i.toNat * 14)).off + 10, none⟩ = some (.int .i64 (rd_T40 xs i).f6) ∧ w.cell? ⟨(ad.add (i.toNat * 14)).block, (ad.add (i.toNat * 14)).off + 11, none⟩ = some (.int .i64 (rd_T40 xs i).f7) ∧ w.cell? ⟨(ad.add (i.toNat * 14)).block, (ad.add (i.toNat * 14)).off + 12, none⟩ = some (.int .i64 (rd_T40 xs i).f8) ∧ w.cell? ⟨(ad.add (i.toNat * 14)).block, (ad.add (i.toNat * 14)).off + 13, none⟩ = some (.int .i64 (rd_T40 xs i).f9) ∧ (rd_T40 xs i).f5.length ≤ c9 ∧ k44.C w A9 (rd_T40 xs i).f5.length (rd_T40 xs i).f5 := by
 obtain ⟨ad, c, e, _, hK, hc0⟩ := Kd.C_get h z40 i h0 h1
 have hc : ∀ j u, c[j]? = some u → w.cell? (ad.add (i.toNat * 14 + j)) = some u := hc0
 obtain ⟨A9, c9, rfl, l9, g9⟩ := k40_open hK
 exact ⟨ad, A9, c9, e, hc 0 _ rfl, by rw [← add_field _ _ 1 (by omega)]; exact hc 1 _ rfl, by rw [← add_field _ _ 2 (by omega)]; exact hc 2 _ rfl, by rw [← add_field _ _ 3 (by omega)]; exact hc 3 _ rfl, by rw [← add_field _ _ 4 (by omega)]; exact hc 4 _ rfl, by rw [← add_field _ _ 5 (by omega)]; exact hc 5 _ rfl, by rw [← add_field _ _ 6 (by omega)]; exact hc 6 _ rfl, by rw [← add_field _ _ 7 (by omega)]; exact hc 7 _ rfl, by rw [← add_field _ _ 8 (by omega)]; exact hc 8 _ rfl, by rw [← add_field _ _ 9 (by omega)]; exact hc 9 _ rfl, by rw [← add_field _ _ 10 (by omega)]; exact hc 10 _ rfl, by rw [← add_field _ _ 11 (by omega)]; exact hc 11 _ rfl, by rw [← add_field _ _ 12 (by omega)]; exact hc 12 _ rfl, by rw [← add_field _ _ 13 (by omega)]; exact hc 13 _ rfl, l9, g9⟩

/-! #### struct type 88 -/
structure S88 where
 f0 : ByteArray
 f1 : Int
 f2 : Int
 f3 : Bool
def z88 : S88 := ⟨(⟨#[]⟩ : ByteArray), (0 : Int), (0 : Int), false⟩
def k88 : Kd S88 := Kd.iso (Kd.pair Kd.string (Kd.pair (Kd.int .i64) (Kd.pair (Kd.int .i64) Kd.bool))) (fun x : S88 => (x.f0, x.f1, x.f2, x.f3))
theorem k88_open {w : World} {x : S88} {cs : List Value} (h : k88.K w x cs) : cs = [.string x.f0, .int .i64 x.f1, .int .i64 x.f2, .bool x.f3] := by
 obtain ⟨_, _, rfl, rfl, ⟨_, _, rfl, rfl, ⟨_, _, rfl, rfl, rfl⟩⟩⟩ := h
 exact rfl
theorem k88_mk (w : World) (x : S88)  : k88.K w x [.string x.f0, .int .i64 x.f1, .int .i64 x.f2, .bool x.f3] := ⟨[.string x.f0], [.int .i64 x.f1, .int .i64 x.f2, .bool x.f3], rfl, rfl, ⟨[.int .i64 x.f1], [.int .i64 x.f2, .bool x.f3], rfl, rfl, ⟨[.int .i64 x.f2], [.bool x.f3], rfl, rfl, rfl⟩⟩⟩
def rd_T88 (xs : List S88) (i : Int) : S88 := xs.getD i.toNat z88
theorem at_T88 {w : World} {A : Option Addr} {n : Nat} {xs : List S88} (h : Kd.C k88 w A n xs) (i : Int) (h0 : 0 ≤ i) (h1 : i < n) : ∃ ad , A = some ad ∧ w.cell? (ad.add (i.toNat * 4)) = some (.string (rd_T88 xs i).f0) ∧ w.cell? ⟨(ad.add (i.toNat * 4)).block, (ad.add (i.toNat * 4)).off + 1, none⟩ = some (.int .i64 (rd_T88 xs i).f1) ∧ w.cell? ⟨(ad.add (i.toNat * 4)).block, (ad.add (i.toNat * 4)).off + 2, none⟩ = some (.int .i64 (rd_T88 xs i).f2) ∧ w.cell? ⟨(ad.add (i.toNat * 4)).block, (ad.add (i.toNat * 4)).off + 3, none⟩ = some (.bool (rd_T88 xs i).f3) := by
 obtain ⟨ad, c, e, _, hK, hc0⟩ := Kd.C_get h z88 i h0 h1
 have hc : ∀ j u, c[j]? = some u → w.cell? (ad.add (i.toNat * 4 + j)) = some u := hc0
 obtain rfl := k88_open hK
 exact ⟨ad, e, hc 0 _ rfl, by rw [← add_field _ _ 1 (by omega)]; exact hc 1 _ rfl, by rw [← add_field _ _ 2 (by omega)]; exact hc 2 _ rfl, by rw [← add_field _ _ 3 (by omega)]; exact hc 3 _ rfl⟩

theorem cl_3 {w : World} {g : Nat} {t : TypeId} (a0 a1 a2 : Value) (h : w.heap[g]? = some (.cells #[a0, a1, a2] t (0, 0))) : w.cell? ⟨g, 0, none⟩ = some a0 ∧ w.cell? ⟨g, 1, none⟩ = some a1 ∧ w.cell? ⟨g, 2, none⟩ = some a2 := ⟨(blk_cell h 0).trans rfl, (blk_cell h 1).trans rfl, (blk_cell h 2).trans rfl⟩
theorem cl_4 {w : World} {g : Nat} {t : TypeId} (a0 a1 a2 a3 : Value) (h : w.heap[g]? = some (.cells #[a0, a1, a2, a3] t (0, 0))) : w.cell? ⟨g, 0, none⟩ = some a0 ∧ w.cell? ⟨g, 1, none⟩ = some a1 ∧ w.cell? ⟨g, 2, none⟩ = some a2 ∧ w.cell? ⟨g, 3, none⟩ = some a3 := ⟨(blk_cell h 0).trans rfl, (blk_cell h 1).trans rfl, (blk_cell h 2).trans rfl, (blk_cell h 3).trans rfl⟩
theorem cl_9 {w : World} {g : Nat} {t : TypeId} (a0 a1 a2 a3 a4 a5 a6 a7 a8 : Value) (h : w.heap[g]? = some (.cells #[a0, a1, a2, a3, a4, a5, a6, a7, a8] t (0, 0))) : w.cell? ⟨g, 0, none⟩ = some a0 ∧ w.cell? ⟨g, 1, none⟩ = some a1 ∧ w.cell? ⟨g, 2, none⟩ = some a2 ∧ w.cell? ⟨g, 3, none⟩ = some a3 ∧ w.cell? ⟨g, 4, none⟩ = some a4 ∧ w.cell? ⟨g, 5, none⟩ = some a5 ∧ w.cell? ⟨g, 6, none⟩ = some a6 ∧ w.cell? ⟨g, 7, none⟩ = some a7 ∧ w.cell? ⟨g, 8, none⟩ = some a8 := ⟨(blk_cell h 0).trans rfl, (blk_cell h 1).trans rfl, (blk_cell h 2).trans rfl, (blk_cell h 3).trans rfl, (blk_cell h 4).trans rfl, (blk_cell h 5).trans rfl, (blk_cell h 6).trans rfl, (blk_cell h 7).trans rfl, (blk_cell h 8).trans rfl⟩
theorem cl_14 {w : World} {g : Nat} {t : TypeId} (a0 a1 a2 a3 a4 a5 a6 a7 a8 a9 a10 a11 a12 a13 : Value) (h : w.heap[g]? = some (.cells #[a0, a1, a2, a3, a4, a5, a6, a7, a8, a9, a10, a11, a12, a13] t (0, 0))) : w.cell? ⟨g, 0, none⟩ = some a0 ∧ w.cell? ⟨g, 1, none⟩ = some a1 ∧ w.cell? ⟨g, 2, none⟩ = some a2 ∧ w.cell? ⟨g, 3, none⟩ = some a3 ∧ w.cell? ⟨g, 4, none⟩ = some a4 ∧ w.cell? ⟨g, 5, none⟩ = some a5 ∧ w.cell? ⟨g, 6, none⟩ = some a6 ∧ w.cell? ⟨g, 7, none⟩ = some a7 ∧ w.cell? ⟨g, 8, none⟩ = some a8 ∧ w.cell? ⟨g, 9, none⟩ = some a9 ∧ w.cell? ⟨g, 10, none⟩ = some a10 ∧ w.cell? ⟨g, 11, none⟩ = some a11 ∧ w.cell? ⟨g, 12, none⟩ = some a12 ∧ w.cell? ⟨g, 13, none⟩ = some a13 := ⟨(blk_cell h 0).trans rfl, (blk_cell h 1).trans rfl, (blk_cell h 2).trans rfl, (blk_cell h 3).trans rfl, (blk_cell h 4).trans rfl, (blk_cell h 5).trans rfl, (blk_cell h 6).trans rfl, (blk_cell h 7).trans rfl, (blk_cell h 8).trans rfl, (blk_cell h 9).trans rfl, (blk_cell h 10).trans rfl, (blk_cell h 11).trans rfl, (blk_cell h 12).trans rfl, (blk_cell h 13).trans rfl⟩
theorem fz_3 {w : World} {g : Nat} {t : TypeId} {cs : Array Value} (h : w.heap[g]? = some (.cells cs t (0, 0))) : w.frozen? ⟨g, 0, none⟩ = false ∧ w.frozen? ⟨g, 1, none⟩ = false ∧ w.frozen? ⟨g, 2, none⟩ = false := ⟨blk_frozen h 0, blk_frozen h 1, blk_frozen h 2⟩
theorem fz_4 {w : World} {g : Nat} {t : TypeId} {cs : Array Value} (h : w.heap[g]? = some (.cells cs t (0, 0))) : w.frozen? ⟨g, 0, none⟩ = false ∧ w.frozen? ⟨g, 1, none⟩ = false ∧ w.frozen? ⟨g, 2, none⟩ = false ∧ w.frozen? ⟨g, 3, none⟩ = false := ⟨blk_frozen h 0, blk_frozen h 1, blk_frozen h 2, blk_frozen h 3⟩
theorem fz_9 {w : World} {g : Nat} {t : TypeId} {cs : Array Value} (h : w.heap[g]? = some (.cells cs t (0, 0))) : w.frozen? ⟨g, 0, none⟩ = false ∧ w.frozen? ⟨g, 1, none⟩ = false ∧ w.frozen? ⟨g, 2, none⟩ = false ∧ w.frozen? ⟨g, 3, none⟩ = false ∧ w.frozen? ⟨g, 4, none⟩ = false ∧ w.frozen? ⟨g, 5, none⟩ = false ∧ w.frozen? ⟨g, 6, none⟩ = false ∧ w.frozen? ⟨g, 7, none⟩ = false ∧ w.frozen? ⟨g, 8, none⟩ = false := ⟨blk_frozen h 0, blk_frozen h 1, blk_frozen h 2, blk_frozen h 3, blk_frozen h 4, blk_frozen h 5, blk_frozen h 6, blk_frozen h 7, blk_frozen h 8⟩
theorem fz_14 {w : World} {g : Nat} {t : TypeId} {cs : Array Value} (h : w.heap[g]? = some (.cells cs t (0, 0))) : w.frozen? ⟨g, 0, none⟩ = false ∧ w.frozen? ⟨g, 1, none⟩ = false ∧ w.frozen? ⟨g, 2, none⟩ = false ∧ w.frozen? ⟨g, 3, none⟩ = false ∧ w.frozen? ⟨g, 4, none⟩ = false ∧ w.frozen? ⟨g, 5, none⟩ = false ∧ w.frozen? ⟨g, 6, none⟩ = false ∧ w.frozen? ⟨g, 7, none⟩ = false ∧ w.frozen? ⟨g, 8, none⟩ = false ∧ w.frozen? ⟨g, 9, none⟩ = false ∧ w.frozen? ⟨g, 10, none⟩ = false ∧ w.frozen? ⟨g, 11, none⟩ = false ∧ w.frozen? ⟨g, 12, none⟩ = false ∧ w.frozen? ⟨g, 13, none⟩ = false := ⟨blk_frozen h 0, blk_frozen h 1, blk_frozen h 2, blk_frozen h 3, blk_frozen h 4, blk_frozen h 5, blk_frozen h 6, blk_frozen h 7, blk_frozen h 8, blk_frozen h 9, blk_frozen h 10, blk_frozen h 11, blk_frozen h 12, blk_frozen h 13⟩

end Go.Proofs.YtajaedebndeajaaDoor.Q

namespace Go.Proofs.YtajaedebndeajaaDoor.PathP
open Go Go.Proofs.YtajaedebndeajaaDoor.Cut

def clean (l : List UInt8) : Bool := l.all fun c => decide (32 ≤ c.toNat) && decide (c.toNat ≤ 126)
def badPart (x : List UInt8) : Bool := x == [] || x == [46] || x == [46, 46]
/-- The parts of a path that begins by a stroke. -/
def parts (s : List UInt8) : List (List UInt8) := if s.length < 2 then [] else cut 47 (s.drop 1)
def may (s : List UInt8) : Bool := decide (s.head? = some 47) && decide (s.length ≤ 200) && clean s && (parts s).all fun x => !badPart x
def step (l : List (List UInt8)) (x : List UInt8) : List (List UInt8) := if x = [] ∨ x = [46] then l else if x = [46, 46] then l.dropLast else l ++ [x]
/-- The path of parts. -/
def whole (l : List (List UInt8)) : List UInt8 := 47 :: jn 47 l
/-- Where an argument leads, and the error's number: 0 none, else by name. -/
inductive Err | ok | arg | form | over
  deriving DecidableEq
end Go.Proofs.YtajaedebndeajaaDoor.PathP

namespace Go.Proofs.YtajaedebndeajaaDoor.PathP
open Go Go.Proofs.YtajaedebndeajaaDoor.Cut

theorem clean_app (a b : List UInt8) : clean (a ++ b) = (clean a && clean b) := by simp [clean]
end Go.Proofs.YtajaedebndeajaaDoor.PathP

namespace Go.Proofs.YtajaedebndeajaaDoor.Path
open Go Go.RowKit Go.Proofs.YtajaedebndeajaaDoorW.PrintWords Go.Proofs.YtajaedebndeajaaDoorW.PrintLast Go.Proofs.YtajaedebndeajaaDoorW.PrintMore Go.Proofs.YtajaedebndeajaaDoor.Quad
set_option linter.unusedVariables false
set_option linter.unusedSimpArgs false

set_option maxHeartbeats 1000000 in
set_option maxRecDepth 100000 in
theorem clean_calls (s : ByteArray) (hs : s.size ≤ 1000000) (w : World) :
    Calls Tryd.prog 46 #[.string s] w fun e w' => e = .returned (.bool (PathP.clean s.data.toList)) ∧ w' = w := by
  obtain ⟨R, hR⟩ : ∃ R, R = PathP.clean s.data.toList := ⟨_, rfl⟩
  rw [← hR]
  have HR := Aside0.mk hR
  clear hR
  have HL := Aside0.mk (data_length s)
  go_enter Tryd.func46, Tryd.ntmps46
  go_wp2
  go_loop [6] (fun i_ => ∃ k : Nat, k ≤ s.size ∧ i_ = .int .i64 k ∧ Aside0 (PathP.clean (s.data.toList.take k) = true)) (fun i_ => s.size - (intOf i_).toNat)
  case atStart => exact ⟨0, Nat.zero_le _, rfl, ⟨rfl⟩⟩
  case round =>
    obtain ⟨k, hk, rfl, HA⟩ := hrel
    by_cases hlt : k < s.size
    · have hk6 : k < 1000000 := by omega
      have hk' : k < s.data.toList.length := by rw [HL.out]; exact hlt
      obtain ⟨c, hc⟩ : ∃ c, c = s.data.toList[k] := ⟨_, rfl⟩
      obtain ⟨x, hx⟩ : ∃ x : Nat, x = c.toNat := ⟨_, rfl⟩
      have hckc : ∀ h : k < s.size, ((s[k]'h).toNat : Int) = (x : Int) := fun h => by rw [hx, hc, ← bt_byte s k hk']; exact bt_at s k h
      have hnext : PathP.clean (s.data.toList.take (k + 1)) = (decide (32 ≤ x) && decide (x ≤ 126)) := by
        rw [List.take_succ_eq_append_getElem hk', PathP.clean_app, HA.out, ← hc, hx]
        simp [PathP.clean]
      have hall : R = true → (decide (32 ≤ x) && decide (x ≤ 126)) = true := fun h => by
        rw [HR.out, PathP.clean, List.all_eq_true] at h
        rw [hx]; exact h c (by rw [hc]; exact List.getElem_mem _)
      have HN := Aside0.mk (And.intro hnext hall)
      clear hc hx hnext hall
      by_cases h1 : x < 32
      · have hlo : decide ((x : Int) < 32) = true := decide_eq_true (by omega)
        have hF : R = false := by
          cases hR : R
          · rfl
          · have := HN.out.2 hR; simp at this; omega
        clear h1
        go_wp2
        go_ret
        exact ⟨by first | (rw [hF]; rfl) | rfl, rfl⟩
      · have hlo : decide ((x : Int) < 32) = false := decide_eq_false (by omega)
        by_cases h2 : 126 < x
        · have hhi : decide (126 < (x : Int)) = true := decide_eq_true (by omega)
          have hF : R = false := by
            cases hR : R
            · rfl
            · have := HN.out.2 hR; simp at this; omega
          clear h1 h2
          go_wp2
          go_ret
          exact ⟨by first | (rw [hF]; rfl) | rfl, rfl⟩
        · have hhi : decide (126 < (x : Int)) = false := decide_eq_false (by omega)
          have HN2 := Aside0.mk (show PathP.clean (s.data.toList.take (k + 1)) = true from by rw [HN.out.1]; simp; omega)
          clear h1 h2
          go_wp2
          go_round
          case rel => exact ⟨k + 1, by omega, by go_num, HN2⟩
          case measure => simp [intOf]; omega
    · obtain rfl : k = s.size := by omega
      have hF : R = true := by
        rw [HR.out, ← HA.out, List.take_of_length_le (by rw [HL.out]; exact Nat.le_refl _)]
      clear HA
      go_wp2
      go_ret
      exact ⟨by first | (rw [hF]; rfl) | rfl, rfl⟩

end Go.Proofs.YtajaedebndeajaaDoor.Path

namespace Go.Proofs.YtajaedebndeajaaDoor.Quad
open Go Go.RowKit Go.Proofs.YtajaedebndeajaaDoorW.PrintWords Go.Proofs.YtajaedebndeajaaDoorW.PrintLast Go.Proofs.YtajaedebndeajaaDoorW.PrintMore Go.Proofs.YtajaedebndeajaaDoor.Dig
set_option linter.unusedVariables false
set_option linter.unusedSimpArgs false

theorem extract_list (s : ByteArray) (f k : Nat) (h : k ≤ s.size) : (s.extract f k).data.toList = (s.data.toList.take k).drop f := by
  have h1 : (s.extract f k).data.toList = (s.data.toList.drop f).take (k - f) := by simp [ByteArray.data_extract, Array.toList_extract, List.extract]
  rw [h1, List.drop_take]

def str (l : List UInt8) : Value := .string ⟨l.toArray⟩
theorem piece_of (s : ByteArray) (f k : Nat) (h : k ≤ s.size) : s.extract f k = ⟨((s.data.toList.take k).drop f).toArray⟩ := by
  apply ByteArray.ext; apply Array.ext'
  rw [extract_list s f k h]
theorem slice_f (s : ByteArray) (f : Nat) (hf : f ≤ s.size) (W : World) : (Instr.slice 9 (.string s) (some (.int .i64 f)) none none).run Tryd.prog W = .ok (.string ⟨(s.data.toList.drop f).toArray⟩) W := by
  rw [run_slice_string_from_if W 9 s .i64 (f : Int) Tryd.underlying9, if_pos (by omega)]
  rw [show ((f : Int)).toNat = f from by omega, piece_of s f s.size (Nat.le_refl _), List.take_of_length_le (by rw [data_length]; exact Nat.le_refl _)]

end Go.Proofs.YtajaedebndeajaaDoor.Quad

namespace Go.Proofs.YtajaedebndeajaaDoor.Row
open Go Go.RowKit Go.Proofs.YtajaedebndeajaaDoorW.PrintWords

/-- A slice of one-cell elements in a block of the call's own: grown by it, or full. -/
def Lies (w : World) (base : Nat) (e : TypeId) (v : Value) (xs : List Value) : Prop :=
  w.ownsRow base e 1 v xs.length xs ∨
  ∃ g, v = .slice (some ⟨g, 0, none⟩) xs.length xs.length ∧ g < w.heap.size ∧ ∀ (j : Nat) x, xs[j]? = some x → w.cell? ⟨g, 0 + j, none⟩ = some x

theorem Lies.nil (w : World) (base : Nat) (e : TypeId) : Lies w base e (.slice none 0 0) [] := .inl (own_nil _ _ _ _)
theorem Lies.form {w : World} {base : Nat} {e : TypeId} {v : Value} {xs : List Value} (h : Lies w base e v xs) :
    (v = .slice none 0 0 ∧ xs = []) ∨ ∃ g c, v = .slice (some ⟨g, 0, none⟩) xs.length c ∧ xs.length ≤ c ∧ g < w.heap.size ∧ ∀ (j : Nat) x, xs[j]? = some x → w.cell? ⟨g, 0 + j, none⟩ = some x := by
  rcases h with h | ⟨g, h1, h3, h4⟩
  · by_cases h0 : xs = []
    · subst h0
      rcases h.2 with ⟨h1, _⟩ | ⟨g, cap, cur, h1, h2, h3, h4, _⟩
      · exact .inl ⟨h1, rfl⟩
      · exact .inr ⟨g, cap, h1, h4, blk_lt h3, fun j x hx => by simp at hx⟩
    · obtain ⟨g, c, h1, h2, h3, h4, h5⟩ := Laws.own_cells h (List.length_pos_iff.2 h0)
      exact .inr ⟨g, c, h1, h2, h4, h5⟩
  · exact .inr ⟨g, xs.length, h1, Nat.le_refl _, h3, h4⟩
/-- As it is read: one form, a nil slice too. -/
theorem Lies.read {w : World} {base : Nat} {e : TypeId} {v : Value} {xs : List Value} (h : Lies w base e v xs) :
    ∃ A c, v = .slice A xs.length c ∧ xs.length ≤ c ∧ ∀ (j : Nat) x, xs[j]? = some x → ∃ g, A = some ⟨g, 0, none⟩ ∧ g < w.heap.size ∧ w.cell? ⟨g, j, none⟩ = some x := by
  rcases h.form with ⟨rfl, rfl⟩ | ⟨g, c, rfl, hc, hg, hx⟩
  · exact ⟨none, 0, rfl, Nat.le_refl _, fun j x hx => by simp at hx⟩
  · exact ⟨_, c, rfl, hc, fun j x hj => ⟨g, rfl, hg, by have := hx j x hj; rwa [Nat.zero_add] at this⟩⟩
theorem Lies.below {w w' : World} {base : Nat} {e : TypeId} {v : Value} {xs : List Value} (h : Lies w base e v xs) (hb : Below w.heap.size w w') : Lies w' base e v xs := by
  rcases h with h | ⟨g, h1, h3, h4⟩
  · exact .inl (own_move h (fun j hj => hb.block j (own_lt h j hj)))
  · exact .inr ⟨g, h1, Nat.lt_of_lt_of_le h3 hb.size, fun j x hx => (hb.cell h3).trans (h4 j x hx)⟩
theorem Lies.alloc {w : World} {base : Nat} {e : TypeId} {v : Value} {xs : List Value} (h : Lies w base e v xs) (o : Obj) : Lies (w.alloc o) base e v xs := h.below ((Below.refl _ _).alloc (Nat.le_refl _) o)
/-- A new block, whole. -/
theorem Lies.whole (w : World) (base : Nat) (e T : TypeId) (xs : List Value) : Lies (w.alloc (.cells xs.toArray T)) base e (.slice (some ⟨w.heap.size, 0, none⟩) xs.length xs.length) xs := by
  refine .inr ⟨w.heap.size, rfl, by simp, fun j x hx => ?_⟩
  have := Laws.new_cells w xs T xs.toArray rfl j x hx
  rw [add_plain] at this
  rw [Nat.zero_add]; exact this
/-- All but the last, with no room behind. -/
theorem Lies.last {w : World} {base : Nat} {e : TypeId} {xs : List Value} {g n c : Nat} (h : Lies w base e (.slice (some ⟨g, 0, none⟩) n c) xs) (n' : Nat) (hn' : n' = n - 1) : Lies w base e (.slice (some ⟨g, 0, none⟩) n' n') xs.dropLast := by
  rcases h.form with ⟨h1, _⟩ | ⟨g', c', h1, h2, h4, h5⟩
  · cases h1
  · cases h1
    have hl : n' = xs.dropLast.length := by rw [hn', List.length_dropLast]
    rw [hl]
    refine .inr ⟨g, rfl, h4, fun j x hx => h5 j x ?_⟩
    have hj := (List.getElem?_eq_some_iff.1 hx).1
    rw [List.dropLast_eq_take, List.getElem?_take_of_lt (by rw [List.length_dropLast] at hj; exact hj)] at hx
    exact hx
theorem own_mono {w : World} {base base' : Nat} {e : TypeId} {size n : Nat} {v : Value} {xs : List Value} (h : w.ownsRow base e size v n xs) (hb : base' ≤ base) : w.ownsRow base' e size v n xs := by
  obtain ⟨h1, h2⟩ := h
  rcases h2 with h2 | ⟨g, cap, cur, h3, h4, h5⟩
  · exact ⟨h1, .inl h2⟩
  · exact ⟨h1, .inr ⟨g, cap, cur, h3, Nat.le_trans hb h4, h5⟩⟩
section
variable {P : Program} {ops : Array Oper} {rest : List Oper} {o : Oper} {a : Act} {Q : Exit → Act → World → Prop} {w : World}
/-- An append of some elements to a row that lies so. -/
theorem append (hgd : o.guard = none) (s x : Operand) (t : TypeId)
    (ho : o.op = .call { callee := .builtin .append, args := #[s, x], argTypes := #[t, t] })
    (base : Nat) (e : TypeId) (i : TypeInfo) (z : Value) (bytes : Nat) (ht : P.underlying t = some (.slice e)) (hi : P.info? e = some i) (hz : i.zero = some z)
    (hsize : i.size = 1) (hby : i.bytes = bytes) (hzs : z.cells.size = 1)
    (v : Value) (xs : List Value) (hs : a.eval s = v) (hown : Lies w base e v xs)
    (ad : Addr) (m c : Nat) (news : List Value) (hx : a.eval x = .slice (some ad) m c) (hl : news.length = m) (hm : 0 < m) (hnews : ∀ j u, news[j]? = some u → w.cell? (ad.add j) = some u) (h1 : ∀ u ∈ news, u.oneCell' = true)
    (h63 : xs.length + m ≤ maxLen) (hbytes : (xs.length + m) * bytes ≤ 140737488355328) (hbase : base ≤ w.heap.size)
    (h : ∀ v' w', w'.ownsRow base e 1 v' (xs.length + m) (xs ++ news) → Below base w w' → wpList P ops Q rest (a.put o.dst v') w') :
    wpList P ops Q (o :: rest) a w := by
  rcases hown with hown | ⟨g, rfl, h3, h4⟩
  · refine wpList_append_own_at w hgd s x t ho base e i z 1 bytes ht hi hz hsize hby hzs (by decide) v xs.length xs hs hown ad m c news hx (by rw [hl, Nat.mul_one]) hnews h1 h63 hbytes hbase ?_
    intro v' w' r1 r2 _ _
    exact h v' w' r1 ((Below.refl _ _).grown r2 hbase (fun k hk => Laws.own_ge hown k hk))
  · refine wpList_append_grows w hgd s x t ho e i z 1 bytes ht hi hz hsize hby hzs (by decide) (some ⟨g, 0, none⟩) xs.length xs.length xs hs (fun hh => by cases hh) (by rw [Nat.mul_one]) (fun b hb j u hj => by cases hb; rw [add_plain]; have := h4 j u hj; rwa [Nat.zero_add] at this) ad m c news hx (by rw [hl, Nat.mul_one]) hnews h1 (by omega) h63 hbytes ?_
    intro v' w' r1 r2
    exact h v' w' (own_mono r1 hbase) ((Below.refl _ _).grown r2 hbase (fun k hk => by cases hk))
end
end Go.Proofs.YtajaedebndeajaaDoor.Row

namespace Go.Proofs.YtajaedebndeajaaDoor.Path
open Go Go.RowKit Go.Proofs.YtajaedebndeajaaDoorW.PrintWords Go.Proofs.YtajaedebndeajaaDoorW.PrintLast Go.Proofs.YtajaedebndeajaaDoorW.PrintMore Go.Proofs.YtajaedebndeajaaDoor.Quad
set_option linter.unusedVariables false
set_option linter.unusedSimpArgs false

theorem pre47 (l : List UInt8) : Lib.hasPrefix l [47] = decide (l.head? = some 47) := by
  cases l with
  | nil => rfl
  | cons c r =>
    by_cases h : c = 47
    · subst h; simp [Lib.hasPrefix]
    · have h2 : ¬ (47 = c) := fun e => h e.symm
      simp [Lib.hasPrefix, List.isPrefixOf, h, h2]
theorem str_map (ps : List ByteArray) : ps.map Value.string = (ps.map (·.data.toList)).map str := by
  rw [List.map_map]; rfl
set_option maxHeartbeats 1000000 in
set_option maxRecDepth 100000 in
theorem parts_calls (s : ByteArray) (hs : s.size ≤ 1000000) (h47 : s.data.toList.head? = some 47) (w : World) (hm : Mx w) :
    Calls Tryd.prog 60 #[.string s] w fun e w' => ∃ v, e = .returned v ∧ (∀ B, Row.Lies w' B 9 v ((PathP.parts s.data.toList).map str)) ∧ Below w.heap.size w w' := by
  have hsz : 0 < s.data.toList.length := by
    cases hl : s.data.toList with
    | nil => rw [hl] at h47; cases h47
    | cons c r => simp
  by_cases h1 : s.data.toList = [47]
  · have hF := Aside0.mk (show (PathP.parts s.data.toList) = [] from by rw [h1]; rfl)
    have he : s.toList = [47] := by rw [ByteArray.toList_eq, h1]
    clear h1 h47 hsz
    go_enter Tryd.func60, Tryd.ntmps60
    go_wp2
    go_ret
    exact ⟨_, rfl, fun B => by rw [hF.out]; exact Row.Lies.nil _ _ _, Below.refl _ _⟩
  · have he : (s.toList == [47]) = false := by rw [ByteArray.toList_eq]; exact beq_eq_false_iff_ne.2 h1
    have h2 : 2 ≤ s.data.toList.length := by
      cases hl : s.data.toList with
      | nil => rw [hl] at h47; cases h47
      | cons c r =>
        cases r with
        | nil => rw [hl] at h47 h1; simp at h47; subst h47; exact absurd rfl h1
        | cons d r => simp
    have h1s : 1 ≤ s.size := by rw [← data_length]; omega
    obtain ⟨t, ht⟩ : ∃ t : ByteArray, t = ⟨(s.data.toList.drop 1).toArray⟩ := ⟨_, rfl⟩
    have hsl : ∀ W, (Instr.slice 9 (.string s) (some (.int .i64 1)) none none).run Tryd.prog W = .ok (.string t) W := fun W => by rw [ht]; exact slice_f s 1 h1s W
    have htl : t.data.toList = s.data.toList.drop 1 := by rw [ht]
    have hts : t.size < 4294967281 := by rw [← data_length, htl, List.length_drop, data_length]; omega
    obtain ⟨ps, hps, hsp⟩ := split_calls 47 t hts
    have HSP := Aside0.mk hsp
    have HM := Aside0.mk hm
    have hF := Aside0.mk (show (PathP.parts s.data.toList) = ps.map (·.data.toList) from by rw [hps, htl, PathP.parts, if_neg (by omega)])
    clear h1 h47 hsz ht htl hts hps hsp hm h2
    go_enter Tryd.func60, Tryd.ntmps60
    go_wp2_with (go_at_call 67; refine (HSP.out _ HM.out).mono ?_; rintro e w1 ⟨rfl, rfl⟩)
    go_ret
    refine ⟨_, rfl, fun B => ?_, (Below.refl _ _).alloc (Nat.le_refl _) _⟩
    rw [hF.out, ← str_map]
    have := Row.Lies.whole w B 9 9 (ps.map Value.string)
    rwa [List.length_map] at this

theorem cut_len (c : UInt8) : ∀ l : List UInt8, (Cut.cut c l).length ≤ l.length + 1
  | [] => by simp [Cut.cut]
  | b :: l => by
    have ih := cut_len c l
    unfold Cut.cut
    split
    · simp only [List.length_cons]; omega
    · match h : Cut.cut c l with
      | [] => simp
      | p :: r => rw [h] at ih; simp only [List.length_cons] at ih ⊢; omega
theorem parts_len (l : List UInt8) : (PathP.parts l).length ≤ l.length + 1 := by
  unfold PathP.parts
  split
  · simp
  · exact Nat.le_trans (cut_len 47 _) (by simp)
theorem bad_cases (p : ByteArray) : (p.toList = [] ∧ PathP.badPart p.data.toList = true) ∨ (p.toList.isEmpty = false ∧ p.toList = [46] ∧ PathP.badPart p.data.toList = true) ∨
    (p.toList.isEmpty = false ∧ (p.toList == [46]) = false ∧ p.toList = [46, 46] ∧ PathP.badPart p.data.toList = true) ∨
    (p.toList.isEmpty = false ∧ (p.toList == [46]) = false ∧ (p.toList == [46, 46]) = false ∧ PathP.badPart p.data.toList = false) := by
  have e : p.toList = p.data.toList := ByteArray.toList_eq p
  rw [e]
  by_cases h1 : p.data.toList = []
  · exact .inl ⟨h1, by rw [h1]; rfl⟩
  · by_cases h2 : p.data.toList = [46]
    · exact .inr (.inl ⟨by rw [h2]; rfl, h2, by rw [h2]; rfl⟩)
    · by_cases h3 : p.data.toList = [46, 46]
      · exact .inr (.inr (.inl ⟨by rw [h3]; rfl, beq_eq_false_iff_ne.2 h2, h3, by rw [h3]; rfl⟩))
      · refine .inr (.inr (.inr ⟨List.isEmpty_eq_false_iff.2 h1, beq_eq_false_iff_ne.2 h2, beq_eq_false_iff_ne.2 h3, ?_⟩))
        rw [PathP.badPart, beq_eq_false_iff_ne.2 h1, beq_eq_false_iff_ne.2 h2, beq_eq_false_iff_ne.2 h3]; rfl
theorem may_false {l : List UInt8} {p : List UInt8} (hp : p ∈ PathP.parts l) (h : PathP.badPart p = true) : PathP.may l = false := by
  cases hm : PathP.may l
  · rfl
  · simp only [PathP.may, Bool.and_eq_true, List.all_eq_true] at hm
    have := hm.2 p hp
    rw [h] at this; cases this

set_option maxHeartbeats 1000000 in
set_option maxRecDepth 100000 in
theorem may_calls (s : ByteArray) (hs : s.size ≤ 1000000) (w : World) (hm : Mx w) :
    Calls Tryd.prog 52 #[.string s] w fun e w' => e = .returned (.bool (PathP.may s.data.toList)) ∧ Below w.heap.size w w' := by
  obtain ⟨R, hR⟩ : ∃ R, R = PathP.may s.data.toList := ⟨_, rfl⟩
  rw [← hR]
  have HR := Aside0.mk hR
  clear hR
  have HL := Aside0.mk (data_length s)
  have HM := Aside0.mk hm
  have HS := Aside0.mk hs
  clear hm hs
  obtain ⟨b1, hb1⟩ : ∃ b, b = Lib.hasPrefix s.data.toList [47] := ⟨_, rfl⟩
  obtain ⟨b3, hb3⟩ : ∃ b, b = PathP.clean s.data.toList := ⟨_, rfl⟩
  have HB := Aside0.mk (show b1 = decide (s.data.toList.head? = some 47) from by
    rw [hb1]
    exact pre47 _)
  have H1 := Aside0.mk hb1
  have H3 := Aside0.mk hb3
  clear hb1 hb3
  cases b1 with
  | false =>
    have hF : R = false := by rw [HR.out, PathP.may, ← HB.out]; rfl
    go_enter Tryd.func52, Tryd.ntmps52
    go_wp2_with (go_at_call 59; refine (Tryd.strings_HasPrefix _ _ _).mono ?_; rintro e w1 ⟨rfl, rfl⟩; rw [show (ByteArray.mk #[47]).data.toList = [47] from rfl, ← H1.out])
    go_ret
    exact ⟨by first | (rw [hF]; rfl) | rfl, Below.refl _ _⟩
  | true =>
    by_cases h2 : 200 < (s.size : Int)
    · have hF : R = false := by rw [HR.out, PathP.may, show decide (s.data.toList.length ≤ 200) = false from decide_eq_false (by rw [HL.out]; omega), Bool.and_false, Bool.false_and, Bool.false_and]
      have h2' := decide_eq_true h2
      clear h2
      go_enter Tryd.func52, Tryd.ntmps52
      go_wp2_with (go_at_call 59; refine (Tryd.strings_HasPrefix _ _ _).mono ?_; rintro e w1 ⟨rfl, rfl⟩; rw [show (ByteArray.mk #[47]).data.toList = [47] from rfl, ← H1.out])
      go_ret
      exact ⟨by first | (rw [hF]; rfl) | rfl, Below.refl _ _⟩
    · have h2' := decide_eq_false h2
      have H2 := Aside0.mk (show s.data.toList.length ≤ 200 from by rw [HL.out]; omega)
      clear h2
      cases b3 with
      | false =>
        have hF : R = false := by rw [HR.out, PathP.may, ← H3.out, Bool.and_false, Bool.false_and]
        go_enter Tryd.func52, Tryd.ntmps52
        go_wp2_with (first
          | (go_at_call 59; refine (Tryd.strings_HasPrefix _ _ _).mono ?_; rintro e w1 ⟨rfl, rfl⟩; rw [show (ByteArray.mk #[47]).data.toList = [47] from rfl, ← H1.out])
          | (go_at_call 46; refine (clean_calls _ HS.out _).mono ?_; rintro e w1 ⟨rfl, rfl⟩; rw [← H3.out]))
        go_ret
        exact ⟨by first | (rw [hF]; rfl) | rfl, Below.refl _ _⟩
      | true =>
        have H47 := Aside0.mk (show s.data.toList.head? = some 47 from of_decide_eq_true HB.out.symm)
        obtain ⟨l, hl⟩ : ∃ l, l = PathP.parts s.data.toList := ⟨_, rfl⟩
        have HP := Aside0.mk hl
        have HLL := Aside0.mk (show l.length ≤ 201 from by rw [hl]; exact Nat.le_trans (parts_len _) (by have := H2.out; omega))
        have HG := Aside0.mk (show R = l.all fun x => !PathP.badPart x from by rw [HR.out, PathP.may, ← H3.out, ← HB.out, show decide (s.data.toList.length ≤ 200) = true from decide_eq_true H2.out, hl]; rfl)
        clear hl
        go_enter Tryd.func52, Tryd.ntmps52
        go_wp2_with (first
          | (go_at_call 59; refine (Tryd.strings_HasPrefix _ _ _).mono ?_; rintro e w1 ⟨rfl, rfl⟩; rw [show (ByteArray.mk #[47]).data.toList = [47] from rfl, ← H1.out])
          | (go_at_call 46; refine (clean_calls _ HS.out _).mono ?_; rintro e w1 ⟨rfl, rfl⟩; rw [← H3.out])
          | (go_at_call 60; refine (parts_calls _ HS.out H47.out _ HM.out).mono ?_; rw [← HP.out]; rintro e w1 ⟨v, rfl, hv, hb⟩; have HB1 := Aside0.mk hb; clear hb; obtain ⟨A, c, rfl, hc, hx⟩ := (hv 0).read; have HV := Aside0.mk (And.intro hc hx); clear hc hx hv))
        go_loop [21] (fun i_ => ∃ k : Nat, k ≤ l.length ∧ i_ = .int .i64 k ∧ Aside0 ((l.take k).all (fun x => !PathP.badPart x) = true)) (fun i_ => l.length - (intOf i_).toNat)
        case atStart => exact ⟨0, Nat.zero_le _, rfl, ⟨rfl⟩⟩
        case round =>
          obtain ⟨k, hk, rfl, HA⟩ := hrel
          by_cases hlt : k < l.length
          · obtain ⟨p, hp⟩ : ∃ p : ByteArray, p = ⟨(l[k]).toArray⟩ := ⟨_, rfl⟩
            have hpl : p.data.toList = l[k] := by rw [hp]
            have hcx : (l.map str)[k]? = some (.string p) := by rw [List.getElem?_map, List.getElem?_eq_getElem hlt, hp]; rfl
            obtain ⟨g, rfl, hg2, hcell⟩ := HV.out.2 k _ hcx
            have hk6 : k < 1000000 := by have := HLL.out; omega
            have HPL := Aside0.mk (show p.data.toList ∈ l ∧ (l.take (k + 1)).all (fun x => !PathP.badPart x) = !PathP.badPart p.data.toList from by
              refine ⟨by rw [hpl]; exact List.getElem_mem _, ?_⟩
              rw [List.take_succ_eq_append_getElem hlt, List.all_append, HA.out, hpl]; simp)
            clear hp hpl hcx hg2
            rcases bad_cases p with ⟨e1, hb⟩ | ⟨e1, e2, hb⟩ | ⟨e1, e2, e3, hb⟩ | ⟨e1, e2, e3, hb⟩
            iterate 3
              · have hF : R = false := by rw [HR.out]; exact may_false (by rw [← HP.out]; exact HPL.out.1) hb
                clear hb
                go_wp2
                go_ret
                exact ⟨by first | (rw [hF]; rfl) | rfl, HB1.out⟩
            · have HN := Aside0.mk (show (l.take (k + 1)).all (fun x => !PathP.badPart x) = true from by rw [HPL.out.2, hb]; rfl)
              clear hb
              go_wp2
              go_round
              case rel => exact ⟨k + 1, by omega, by go_num, HN⟩
              case measure => simp [intOf]; omega
          · obtain rfl : k = l.length := by omega
            have hF : R = true := by rw [HG.out]; have := HA.out; rwa [List.take_length] at this
            go_wp2
            go_ret
            exact ⟨by first | (rw [hF]; rfl) | rfl, HB1.out⟩
end Go.Proofs.YtajaedebndeajaaDoor.Path

namespace Go.Proofs.YtajaedebndeajaaDoor.Path
open Go Go.RowKit Go.Proofs.YtajaedebndeajaaDoorW.PrintWords Go.Proofs.YtajaedebndeajaaDoorW.PrintLast Go.Proofs.YtajaedebndeajaaDoorW.PrintMore Go.Proofs.YtajaedebndeajaaDoor.Quad
set_option linter.unusedVariables false
set_option linter.unusedSimpArgs false

end Go.Proofs.YtajaedebndeajaaDoor.Path

namespace Go.Proofs.YtajaedebndeajaaDoor.Q
open Go Go.RowKit Go.Proofs.YtajaedebndeajaaDoorW.PrintWords Go.Proofs.YtajaedebndeajaaDoorW.PrintLast Go.Proofs.YtajaedebndeajaaDoorW.PrintMore Go.Proofs.YtajaedebndeajaaDoor.AclMet
set_option linter.unusedVariables false
set_option linter.unusedSimpArgs false

def path_May.f (a0 : ByteArray) : Option Bool := if a0.size ≤ 1000000 then some (PathP.may a0.data.toList) else none
theorem path_May.calls (a0 : ByteArray) (r : Bool) (w : World) (hmet : WMet w) (h : path_May.f a0 = some r) :
    Calls Tryd.prog 52 #[.string a0] w fun e w' => e = .returned (.bool r) ∧ Below w.heap.size w w' := by
  unfold path_May.f at h
  split at h
  · rename_i hs
    obtain rfl := Option.some.inj h
    exact Path.may_calls a0 hs w hmet.mx
  · cases h
end Go.Proofs.YtajaedebndeajaaDoor.Q

namespace Go.Proofs.YtajaedebndeajaaDoor.MapLaw
open Go Go.RowKit

/-- The first place of a key, and its value. -/
def lk {κ : Type} [DecidableEq κ] (k : κ) : List (κ × Value) → Nat → Option (Nat × Value)
  | [], _ => none
  | (a, v) :: r, i => if k = a then some (i, v) else lk k r (i + 1)

/-- The value at a key. -/
def at_ {κ : Type} [DecidableEq κ] (k : κ) (l : List (κ × Value)) : Option Value := (lk k l 0).map (·.2)

/-- The list behind a store. -/
def put {κ : Type} [DecidableEq κ] (k : κ) (v : Value) : List (κ × Value) → List (κ × Value)
  | [] => [(k, v)]
  | (a, u) :: r => if k = a then (k, v) :: r else (a, u) :: put k v r

/-- What the laws ask of a key's type. -/
structure KeyOk {κ : Type} [DecidableEq κ] (P : Program) (kt : TypeId) (kenc : κ → Value) : Prop where
  check : ∀ (w : World) (em : Bool) (k : κ), (Instr.checkKey em 10000 kt (kenc k)).run P w = .ok () w
  find : ∀ (w : World) (k : κ) (es : List MapEntry) (l : List (κ × Value)), es.map (fun e => (e.key, e.val)) = l.map (fun p => (kenc p.1, p.2)) →
    (Instr.findKey kt (kenc k) es).run P w = .ok (lk k l 0) w
  stays : ∀ (w : World) (k : κ), (Instr.keyThatStays (kenc k) (kenc k)).run P w = .ok (kenc k) w

/-- Block b is a map that reads as the list l. -/
def Is {κ : Type} (kenc : κ → Value) (w : World) (b : Nat) (l : List (κ × Value)) : Prop :=
  ∃ es clock, w.heap[b]? = some (.map es clock) ∧ es.toList.map (fun e => (e.key, e.val)) = l.map (fun p => (kenc p.1, p.2))

section
variable {κ : Type} {kenc : κ → Value} {w : World} {b : Nat} {l : List (κ × Value)}
theorem Is.made (kenc : κ → Value) (w : World) : Is kenc (w.alloc (.map #[] 0)) w.heap.size [] := ⟨#[], 0, (MapKept.heap_alloc w _).1, rfl⟩
theorem Is.lt (h : Is kenc w b l) : b < w.heap.size := by obtain ⟨es, c, hb, _⟩ := h; exact (Array.getElem?_eq_some_iff.1 hb).1
theorem Is.move {w' : World} (h : Is kenc w b l) (hm : w'.heap[b]? = w.heap[b]?) : Is kenc w' b l := by obtain ⟨es, c, hb, hl⟩ := h; exact ⟨es, c, hm.trans hb, hl⟩
theorem Is.alloc (h : Is kenc w b l) (o : Obj) : Is kenc (w.alloc o) b l := h.move (Below.heap_alloc _ _ _ h.lt)
theorem Is.drew (h : Is kenc w b l) : Is kenc w.drew b l := h.move rfl
theorem Is.drewN (h : Is kenc w b l) (n : Nat) : Is kenc (w.drewN n) b l := h.move rfl
theorem Is.below (h : Is kenc w b l) {w' : World} (hb : Below w.heap.size w w') : Is kenc w' b l := h.move (hb.block _ h.lt)
theorem Is.grown (h : Is kenc w b l) {w' : World} {row : Option Nat} (hg : w.grownBy w' row) (hne : some b ≠ row) : Is kenc w' b l := h.move (hg.block b h.lt hne)
theorem Is.size {w : World} (h : Is kenc w b l) : ∃ es c, w.heap[b]? = some (.map es c) ∧ es.size = l.length := by
  obtain ⟨es, c, hb, hl⟩ := h
  refine ⟨es, c, hb, ?_⟩
  have := congrArg List.length hl
  simpa using this
end

section
variable {κ : Type} [DecidableEq κ] {kenc : κ → Value} {P : Program} {kt : TypeId} {w : World} {b : Nat} {l : List (κ × Value)}

theorem lk_shift (k : κ) : ∀ (l : List (κ × Value)) (i : Nat), lk k l i = (lk k l 0).map (fun p => (p.1 + i, p.2))
  | [], i => rfl
  | (a, v) :: r, i => by
    unfold lk
    split
    · simp
    · rw [lk_shift k r (i + 1), lk_shift k r (0 + 1)]
      cases lk k r 0 <;> simp; omega

theorem run_lookup (K : KeyOk P kt kenc) {t e : TypeId} (ht : P.underlying t = some (.map kt e)) {z : Value} (hz : (zeroValue e).run P w = .ok z w) (h : Is kenc w b l) (k : κ) (c : Bool) :
    (Instr.lookup t (.map (some b)) (kenc k) c).run P w = .ok (if c then .tuple #[(at_ k l).getD z, .bool (at_ k l).isSome] else (at_ k l).getD z) w := by
  obtain ⟨es, cl, hb, hl⟩ := h
  have h1 := K.find w k es.toList l hl
  cases hx : lk k l 0 with
  | none =>
    rw [hx] at h1
    cases c <;> simp [Instr.lookup, run_underlying ht, MapKept.run_getObj_map hb, K.check, h1, hz, Result.andThen, at_, hx]
  | some p =>
    rw [hx] at h1
    cases c <;> simp [Instr.lookup, run_underlying ht, MapKept.run_getObj_map hb, K.check, h1, Result.andThen, at_, hx]

theorem lk_spec (k : κ) : ∀ (l : List (κ × Value)) (i : Nat) (v : Value), lk k l 0 = some (i, v) → l[i]? = some (k, v) ∧ ∀ u, put k u l = l.set i (k, u)
  | [], _, _, h => by simp [lk] at h
  | (a, u) :: r, i, v, h => by
    unfold lk at h
    split at h
    · rename_i e
      subst e
      simp at h
      obtain ⟨rfl, rfl⟩ := h
      exact ⟨by simp, fun u => by simp [put]⟩
    · rename_i e
      rw [lk_shift] at h
      cases hr : lk k r 0 with
      | none => rw [hr] at h; simp at h
      | some p =>
        obtain ⟨j, x⟩ := p
        rw [hr] at h
        simp at h
        obtain ⟨rfl, rfl⟩ := h
        obtain ⟨h1, h2⟩ := lk_spec k r j x hr
        exact ⟨by simpa using h1, fun u => by simp [put, e, h2 u]⟩

theorem put_new (k : κ) (u : Value) : ∀ (l : List (κ × Value)), lk k l 0 = none → put k u l = l ++ [(k, u)]
  | [], _ => rfl
  | (a, x) :: r, h => by
    unfold lk at h
    split at h
    · cases h
    · rename_i e
      rw [lk_shift] at h
      simp at h
      simp [put, e, put_new k u r h]

theorem run_update (K : KeyOk P kt kenc) {t e : TypeId} (ht : P.underlying t = some (.map kt e)) (h : Is kenc w b l) (k : κ) (v : Value) :
    ∃ w', (Instr.mapUpdate t (.map (some b)) (kenc k) v).run P w = .ok () w' ∧ Is kenc w' b (put k v l) ∧ w.grownBy w' (some b) := by
  obtain ⟨es, cl, hb, hl⟩ := h
  have h1 := K.find w k es.toList l hl
  have hlt := (Array.getElem?_eq_some_iff.1 hb).1
  have gr : ∀ o, w.grownBy (ChangeMaps.setBlock w b o) (some b) := fun o =>
    ⟨rfl, rfl, rfl, by simp [ChangeMaps.setBlock], fun i _ hi => ChangeMaps.heap_setBlock_other hb _ (fun e => hi (by rw [e]))⟩
  cases hx : lk k l 0 with
  | none =>
    rw [hx] at h1
    refine ⟨ChangeMaps.setBlock w b (.map (es.push { key := kenc k, val := v, born := cl }) (cl + 1)), ?_, ⟨_, _, ChangeMaps.heap_setBlock_same hb _, ?_⟩, gr _⟩
    · simp [Instr.mapUpdate, run_underlying ht, MapKept.run_getObj_map hb, K.check, h1, MapKept.run_setObj_map _ hb, Result.andThen, ChangeMaps.setBlock]
    · rw [put_new k v l hx]; simp [hl]
  | some p =>
    obtain ⟨i, u⟩ := p
    rw [hx] at h1
    obtain ⟨h2, h3⟩ := lk_spec k l i u hx
    have h4 : (es.toList.map (fun e => (e.key, e.val)))[i]? = some (kenc k, u) := by rw [hl]; simp [h2]
    obtain ⟨e0, he0, hk0⟩ : ∃ e0, es[i]? = some e0 ∧ e0.key = kenc k := by
      rw [List.getElem?_map] at h4
      cases hh : es.toList[i]? with
      | none => rw [hh] at h4; cases h4
      | some e0 =>
        rw [hh] at h4
        simp at h4
        exact ⟨e0, by simpa using hh, h4.1⟩
    refine ⟨ChangeMaps.setBlock w b (.map (es.modify i fun e => { e with key := kenc k, val := v }) cl), ?_, ⟨_, _, ChangeMaps.heap_setBlock_same hb _, ?_⟩, gr _⟩
    · simp [Instr.mapUpdate, run_underlying ht, MapKept.run_getObj_map hb, K.check, h1, he0, hk0, K.stays, MapKept.run_setObj_map _ hb, Result.andThen, ChangeMaps.setBlock]
    · rw [h3 v]
      apply List.ext_getElem?
      intro j
      have hj := congrArg (fun z => z[j]?) hl
      simp only [List.getElem?_map, Array.getElem?_toList] at hj
      simp only [List.getElem?_map, Array.getElem?_toList, Array.getElem?_modify, List.getElem?_set]
      by_cases hij : i = j
      · subst hij
        simp [he0, (List.getElem?_eq_some_iff.1 h2).1]
      · simp [hij, hj]

end

/-! ### at the operation -/
section
variable {κ : Type} [DecidableEq κ] {kenc : κ → Value} {P : Program} {kt : TypeId} (w : World) {b : Nat} {l : List (κ × Value)}
variable {ops : Array Oper} {rest : List Oper} {o : Oper} {a : Act} {Q : Exit → Act → World → Prop}

theorem wp_lookup (hg : o.guard = none) (m x : Operand) (t e : TypeId) (c : Bool) (hop : o.op = Op.lookup t m x c) (K : KeyOk P kt kenc) (ht : P.underlying t = some (.map kt e)) {z : Value} (hz : (zeroValue e).run P w = .ok z w)
    (hm : a.eval m = .map (some b)) (h : Is kenc w b l) (k : κ) (hx : a.eval x = kenc k)
    (hK : wpList P ops Q rest (a.put o.dst (if c then .tuple #[(at_ k l).getD z, .bool (at_ k l).isSome] else (at_ k l).getD z)) w) : wpList P ops Q (o :: rest) a w := by
  refine wpList_plain hg fun K' hK' => ?_
  have hrun := run_lookup K ht hz h k c
  unfold Oper.wp
  simp only [execOp, hop, hm, hx]
  simp [hrun, Result.andThen]
  exact hK' _ _ (by simpa using hK)

theorem wp_update (hg : o.guard = none) (m x v : Operand) (t e : TypeId) (hop : o.op = Op.mapUpdate t m x v) (K : KeyOk P kt kenc) (ht : P.underlying t = some (.map kt e))
    (hm : a.eval m = .map (some b)) (h : Is kenc w b l) (k : κ) (hx : a.eval x = kenc k) (val : Value) (hv : a.eval v = val)
    (hK : ∀ w', Is kenc w' b (put k val l) → w.grownBy w' (some b) → wpList P ops Q rest (a.put o.dst undef) w') : wpList P ops Q (o :: rest) a w := by
  refine wpList_plain hg fun K' hK' => ?_
  obtain ⟨w', hrun, r1, r2⟩ := run_update K ht h k val
  unfold Oper.wp
  simp [execOp, hop, hm, hx, hv, hrun, Result.andThen]
  exact hK' _ _ (hK w' r1 r2)

omit [DecidableEq κ] in
end

/-! ### keys -/
theorem find_plain {κ : Type} [DecidableEq κ] {P : Program} {kt : TypeId} {kenc : κ → Value} {d : TypeDesc} (hk : P.underlying kt = some d) (hs : ∀ a b : κ, Instr.sameNow d (kenc a) (kenc b) = some (decide (a = b)))
    (w : World) (k : κ) (es : List MapEntry) (l : List (κ × Value)) (hl : es.map (fun e => (e.key, e.val)) = l.map (fun p => (kenc p.1, p.2))) : (Instr.findKey kt (kenc k) es).run P w = .ok (lk k l 0) w := by
  have h : ∀ (es : List MapEntry) (l : List (κ × Value)) (i : Nat), es.map (fun e => (e.key, e.val)) = l.map (fun p => (kenc p.1, p.2)) → Instr.findNow d (kenc k) es i = some (lk k l i) := by
    intro es
    induction es with
    | nil => intro l i h; cases l <;> simp at h; rfl
    | cons e es ih =>
      intro l i h
      cases l with
      | nil => simp at h
      | cons p r =>
        simp at h
        obtain ⟨⟨h1, h2⟩, h3⟩ := h
        unfold Instr.findNow lk
        rw [h1, hs, h2]
        by_cases e : k = p.1
        · simp [e]
        · simp [e, ih r (i + 1) (by simpa using h3)]
  simp [Instr.findKey, run_underlying hk, h es l 0 hl, Result.andThen]

theorem beq_str (a b : ByteArray) : (a == b) = decide (a = b) := by
  cases a with | mk a => cases b with | mk b =>
  show (a == b) = _
  by_cases h : a = b
  · subst h; simp
  · rw [beq_eq_false_iff_ne.2 h, decide_eq_false (by simpa using h)]

theorem string_key {P : Program} {kt : TypeId} (hk : P.underlying kt = some .string) : KeyOk P kt Value.string where
  check w em k := MapKept.run_checkKey hk (k := .string k) (show MapKept.IsKey .string (.string k) from trivial) em 9999
  find := find_plain hk (fun a b => by simp only [Instr.sameNow, beq_str])
  stays w k := MapKept.run_keyThatStays (show MapKept.IsKey .string (.string k) from trivial)

/-! ### what a list of stores leaves -/
section
variable {κ : Type} [DecidableEq κ]
theorem at_cons (k a : κ) (v : Value) (r : List (κ × Value)) : at_ k ((a, v) :: r) = if k = a then some v else at_ k r := by
  unfold at_
  rw [lk]
  split
  · rfl
  · rw [lk_shift]; cases lk k r 0 <;> rfl
theorem at_put (k x : κ) (v : Value) : ∀ l : List (κ × Value), at_ k (put x v l) = if k = x then some v else at_ k l
  | [] => by simp [put, at_cons]
  | (a, u) :: r => by
    unfold put
    split
    · rename_i e; subst e
      rw [at_cons, at_cons]
      split <;> simp [*]
    · rename_i e
      rw [at_cons, at_cons, at_put k x v r]
      by_cases h : k = a
      · subst h; simp [Ne.symm e]
      · simp [h]
end
end Go.Proofs.YtajaedebndeajaaDoor.MapLaw

namespace Go.Proofs.YtajaedebndeajaaDoor.Q
open Go Go.RowKit Go.Proofs.YtajaedebndeajaaDoorW.PrintWords Go.Proofs.YtajaedebndeajaaDoorW.PrintLast Go.Proofs.YtajaedebndeajaaDoorW.PrintMore
set_option linter.unusedVariables false
set_option linter.unusedSimpArgs false

/-! ### elements laid flat -/
theorem reps_app {α : Type} {R : α → List Value → Prop} {size : Nat} (enc : α → List Value) (hlen : ∀ x, (enc x).length = size) : ∀ (xs ps : List α) (cs : List Value), Reps R size ps cs → (∀ x ∈ xs, R x (enc x)) → Reps R size (ps ++ xs) (cs ++ xs.flatMap enc)
  | [], ps, cs, h, _ => by simpa using h
  | x :: xs, ps, cs, h, hx => by
    have h1 := reps_app enc hlen xs (ps ++ [x]) (cs ++ enc x) (h.snoc (hx x (List.mem_cons_self ..)) (hlen x)) (fun y hy => hx y (List.mem_cons_of_mem _ hy))
    simpa using h1
theorem reps_flat {α : Type} {R : α → List Value → Prop} {size : Nat} (enc : α → List Value) (hlen : ∀ x, (enc x).length = size) (xs : List α) (hx : ∀ x ∈ xs, R x (enc x)) : Reps R size xs (xs.flatMap enc) := by
  simpa using reps_app enc hlen xs [] [] (Reps.none R size) hx
/-- A row that lies in a block known whole. -/
theorem C_of_blk {α : Type} (d : Kd α) (e : TypeId) (w : World) (B : Nat) (xs : List α) (enc : α → List Value) (hlen : ∀ x, (enc x).length = d.sz) (hK : ∀ x ∈ xs, d.K w x (enc x)) (hm : xs.length ≤ 9223372036854775807) {cells : Array Value} (hc : cells = (xs.flatMap enc).toArray) (hb : w.heap[B]? = some (.cells cells e (0, 0))) :
    Kd.C d w (some ⟨B, 0, none⟩) xs.length xs := by
  subst hc
  have hr := reps_flat (R := fun x c => d.K w x c) enc hlen xs hK
  refine ⟨rfl, hm, fun _ => ⟨_, rfl, fun j p hp => ⟨_, ?_, hr.2 j p hp, fun i u hu => ?_⟩⟩⟩
  · exact d.K_len (hr.2 j p hp)
  · have e1 : (⟨B, 0, none⟩ : Addr).add (j * d.sz + i) = ⟨B, j * d.sz + i, none⟩ := by
      simp [Addr.add]
      intro h1 h2; omega
    rw [e1, blk_cell hb, List.getElem?_toArray]
    rw [List.getElem?_take] at hu
    split at hu
    · rwa [List.getElem?_drop] at hu
    · cases hu

/-! ### the table -/
def tableS : List S88 := [
  ⟨⟨#[65, 66, 79, 82]⟩, 9, 0, false⟩,
  ⟨⟨#[65, 67, 67, 84]⟩, 0, 2, false⟩,
  ⟨⟨#[65, 76, 76, 79]⟩, 1, 2, false⟩,
  ⟨⟨#[65, 80, 80, 69]⟩, 3, 2, true⟩,
  ⟨⟨#[67, 68, 85, 80]⟩, 2, 0, false⟩,
  ⟨⟨#[67, 87, 68]⟩, 2, 2, true⟩,
  ⟨⟨#[68, 69, 76, 69]⟩, 1, 2, true⟩,
  ⟨⟨#[69, 80, 82, 84]⟩, 5, 2, false⟩,
  ⟨⟨#[69, 80, 83, 86]⟩, 4, 0, false⟩,
  ⟨⟨#[70, 69, 65, 84]⟩, 1, 0, false⟩,
  ⟨⟨#[72, 69, 76, 80]⟩, 1, 1, false⟩,
  ⟨⟨#[76, 73, 83, 84]⟩, 3, 1, true⟩,
  ⟨⟨#[77, 68, 84, 77]⟩, 1, 2, true⟩,
  ⟨⟨#[77, 75, 68]⟩, 1, 2, true⟩,
  ⟨⟨#[77, 76, 83, 68]⟩, 3, 1, true⟩,
  ⟨⟨#[77, 76, 83, 84]⟩, 1, 1, true⟩,
  ⟨⟨#[77, 79, 68, 69]⟩, 1, 2, false⟩,
  ⟨⟨#[78, 76, 83, 84]⟩, 3, 1, true⟩,
  ⟨⟨#[78, 79, 79, 80]⟩, 1, 0, false⟩,
  ⟨⟨#[80, 65, 83, 83]⟩, 0, 1, false⟩,
  ⟨⟨#[80, 65, 83, 86]⟩, 4, 0, false⟩,
  ⟨⟨#[80, 79, 82, 84]⟩, 5, 2, false⟩,
  ⟨⟨#[80, 87, 68]⟩, 1, 0, false⟩,
  ⟨⟨#[81, 85, 73, 84]⟩, 10, 0, false⟩,
  ⟨⟨#[82, 69, 83, 84]⟩, 8, 2, false⟩,
  ⟨⟨#[82, 69, 84, 82]⟩, 3, 2, true⟩,
  ⟨⟨#[82, 77, 68]⟩, 1, 2, true⟩,
  ⟨⟨#[82, 78, 70, 82]⟩, 6, 2, true⟩,
  ⟨⟨#[82, 78, 84, 79]⟩, 7, 2, true⟩,
  ⟨⟨#[83, 73, 90, 69]⟩, 1, 2, true⟩,
  ⟨⟨#[83, 84, 65, 84]⟩, 1, 1, true⟩,
  ⟨⟨#[83, 84, 79, 82]⟩, 3, 2, true⟩,
  ⟨⟨#[83, 84, 82, 85]⟩, 1, 2, false⟩,
  ⟨⟨#[83, 89, 83, 84]⟩, 1, 0, false⟩,
  ⟨⟨#[84, 89, 80, 69]⟩, 1, 2, false⟩,
  ⟨⟨#[85, 83, 69, 82]⟩, 0, 2, false⟩]
def encS (v : S88) : List Value := [.string v.f0, .int .i64 v.f1, .int .i64 v.f2, .bool v.f3]
def encV (v : S88) : Value := .agg (encS v).toArray
set_option maxRecDepth 100000 in
theorem tableS_len : tableS.length = 36 := rfl
set_option maxRecDepth 100000 in
theorem tableC : #[.string ⟨#[65, 66, 79, 82]⟩, .int .i64 9, .int .i64 0, .bool false, .string ⟨#[65, 67, 67, 84]⟩, .int .i64 0, .int .i64 2, .bool false, .string ⟨#[65, 76, 76, 79]⟩, .int .i64 1, .int .i64 2, .bool false, .string ⟨#[65, 80, 80, 69]⟩, .int .i64 3, .int .i64 2, .bool true, .string ⟨#[67, 68, 85, 80]⟩, .int .i64 2, .int .i64 0, .bool false, .string ⟨#[67, 87, 68]⟩, .int .i64 2, .int .i64 2, .bool true, .string ⟨#[68, 69, 76, 69]⟩, .int .i64 1, .int .i64 2, .bool true, .string ⟨#[69, 80, 82, 84]⟩, .int .i64 5, .int .i64 2, .bool false, .string ⟨#[69, 80, 83, 86]⟩, .int .i64 4, .int .i64 0, .bool false, .string ⟨#[70, 69, 65, 84]⟩, .int .i64 1, .int .i64 0, .bool false, .string ⟨#[72, 69, 76, 80]⟩, .int .i64 1, .int .i64 1, .bool false, .string ⟨#[76, 73, 83, 84]⟩, .int .i64 3, .int .i64 1, .bool true, .string ⟨#[77, 68, 84, 77]⟩, .int .i64 1, .int .i64 2, .bool true, .string ⟨#[77, 75, 68]⟩, .int .i64 1, .int .i64 2, .bool true, .string ⟨#[77, 76, 83, 68]⟩, .int .i64 3, .int .i64 1, .bool true, .string ⟨#[77, 76, 83, 84]⟩, .int .i64 1, .int .i64 1, .bool true, .string ⟨#[77, 79, 68, 69]⟩, .int .i64 1, .int .i64 2, .bool false, .string ⟨#[78, 76, 83, 84]⟩, .int .i64 3, .int .i64 1, .bool true, .string ⟨#[78, 79, 79, 80]⟩, .int .i64 1, .int .i64 0, .bool false, .string ⟨#[80, 65, 83, 83]⟩, .int .i64 0, .int .i64 1, .bool false, .string ⟨#[80, 65, 83, 86]⟩, .int .i64 4, .int .i64 0, .bool false, .string ⟨#[80, 79, 82, 84]⟩, .int .i64 5, .int .i64 2, .bool false, .string ⟨#[80, 87, 68]⟩, .int .i64 1, .int .i64 0, .bool false, .string ⟨#[81, 85, 73, 84]⟩, .int .i64 10, .int .i64 0, .bool false, .string ⟨#[82, 69, 83, 84]⟩, .int .i64 8, .int .i64 2, .bool false, .string ⟨#[82, 69, 84, 82]⟩, .int .i64 3, .int .i64 2, .bool true, .string ⟨#[82, 77, 68]⟩, .int .i64 1, .int .i64 2, .bool true, .string ⟨#[82, 78, 70, 82]⟩, .int .i64 6, .int .i64 2, .bool true, .string ⟨#[82, 78, 84, 79]⟩, .int .i64 7, .int .i64 2, .bool true, .string ⟨#[83, 73, 90, 69]⟩, .int .i64 1, .int .i64 2, .bool true, .string ⟨#[83, 84, 65, 84]⟩, .int .i64 1, .int .i64 1, .bool true, .string ⟨#[83, 84, 79, 82]⟩, .int .i64 3, .int .i64 2, .bool true, .string ⟨#[83, 84, 82, 85]⟩, .int .i64 1, .int .i64 2, .bool false, .string ⟨#[83, 89, 83, 84]⟩, .int .i64 1, .int .i64 0, .bool false, .string ⟨#[84, 89, 80, 69]⟩, .int .i64 1, .int .i64 2, .bool false, .string ⟨#[85, 83, 69, 82]⟩, .int .i64 0, .int .i64 2, .bool false] = (tableS.flatMap encS).toArray := rfl
theorem encS_len (v : S88) : (encS v).length = k88.sz := rfl
end Go.Proofs.YtajaedebndeajaaDoor.Q

namespace Go.Proofs.YtajaedebndeajaaDoor.Q
open Go Go.RowKit Go.Proofs.YtajaedebndeajaaDoorW.PrintWords Go.Proofs.YtajaedebndeajaaDoorW.PrintLast Go.Proofs.YtajaedebndeajaaDoorW.PrintMore
set_option linter.unusedVariables false
set_option linter.unusedSimpArgs false

/-! ### a row with the run-time's mark -/
theorem fblk_cell {w : World} {B : Nat} {C : Array Value} {t : TypeId} {f : Nat × Nat} (h : w.heap[B]? = some (.cells C t f)) (j : Nat) : w.cell? ⟨B, j, none⟩ = C[j]? := by simp [World.cell?, h]
theorem fblk_frozen {w : World} {B N : Nat} {C : Array Value} {t : TypeId} (h : w.heap[B]? = some (.cells C t (N, N + 1))) {j : Nat} (hj : j < N) : w.frozen? ⟨B, j, none⟩ = false := by simp [World.frozen?, h]; omega
theorem fblk_put {w : World} {B : Nat} {C : Array Value} {t : TypeId} {f : Nat × Nat} (h : w.heap[B]? = some (.cells C t f)) (j : Nat) (u : Value) (hu : u.oneCell' = true) : (w.setCell ⟨B, j, none⟩ u).heap[B]? = some (.cells (C.setIfInBounds j u) t f) := by
  simp [World.setCell, Array.getElem?_modify, h]

def upB (c : UInt8) : UInt8 := if 97 ≤ c.toNat ∧ c.toNat ≤ 122 then c - 32 else c
def upper (l : List UInt8) : List UInt8 := l.map upB
theorem not32 (x : Nat) (h1 : 97 ≤ x) (h2 : x ≤ 122) : bits .andNot .u8 (x : Int) 32 = ((x - 32 : Nat) : Int) := by
  have : ∀ y : Fin 26, bits .andNot .u8 ((y.val + 97 : Nat) : Int) 32 = ((y.val + 97 - 32 : Nat) : Int) := by decide +kernel
  have := this ⟨x - 97, by omega⟩
  rwa [show x - 97 + 97 = x from by omega] at this
theorem upB_low (c : UInt8) (h1 : 97 ≤ c.toNat) (h2 : c.toNat ≤ 122) : (upB c).toNat = c.toNat - 32 := by
  rw [upB, if_pos ⟨h1, h2⟩, UInt8.toNat_sub_of_le _ _ (by rw [UInt8.le_iff_toNat_le]; show 32 ≤ _; omega)]; rfl
theorem upB_else (c : UInt8) (h : ¬ (97 ≤ c.toNat ∧ c.toNat ≤ 122)) : upB c = c := by rw [upB, if_neg h]
/-- The bytes behind k rounds. -/
def upTo (l : List UInt8) (k : Nat) : List UInt8 := (l.take k).map upB ++ l.drop k
theorem upTo_at (l : List UInt8) (k : Nat) (hk : k < l.length) : (upTo l k)[k]? = some l[k] := by
  rw [upTo, List.getElem?_append_right (by simp; omega)]
  simp [Nat.min_eq_left (Nat.le_of_lt hk), List.getElem?_eq_getElem hk]
theorem upTo_next (l : List UInt8) (k : Nat) (hk : k < l.length) : upTo l (k + 1) = (upTo l k).set k (upB l[k]) := by
  apply List.ext_getElem?
  intro j
  rw [List.getElem?_set]
  simp only [upTo, List.length_append, List.length_map, List.length_take, List.length_drop]
  by_cases hj : k = j
  · subst hj
    rw [if_pos rfl, if_pos (by omega), List.getElem?_append_left (by simp; omega)]
    simp [hk]
  · rw [if_neg hj]
    by_cases h2 : j < k
    · rw [List.getElem?_append_left (by simp; omega), List.getElem?_append_left (by simp; omega)]
      simp [h2, show j < k + 1 from by omega]
    · rw [List.getElem?_append_right (by simp; omega), List.getElem?_append_right (by simp; omega)]
      simp only [List.length_map, List.length_take, List.getElem?_drop]
      congr 1
      omega
theorem upTo_len (l : List UInt8) (k : Nat) : (upTo l k).length = l.length := by simp [upTo]; omega
/-- What the row holds behind k rounds. -/
def Ups (w : World) (B : Nat) (l : List UInt8) : Prop := ∃ C : Array Value, w.heap[B]? = some (.cells C 5 (C.size, C.size + 1)) ∧ l.length ≤ C.size ∧ ∀ (j : Nat) (c : UInt8), l[j]? = some c → C[j]? = some (Value.int .u8 (c.toNat : Int))
theorem Ups.drew {w : World} {B : Nat} {l : List UInt8} (h : Ups w B l) : Ups w.drew B l := h
theorem Ups.start (w : World) (s : ByteArray) (cap : Nat) : Ups (w.alloc (.cells (bytesRow s cap) 5 ((bytesRow s cap).size, (bytesRow s cap).size + 1))) w.heap.size (upTo s.data.toList 0) := by
  refine ⟨bytesRow s cap, blk_new _ _, ?_, fun j c hj => ?_⟩
  · simp [upTo, bytesRow]
  · have hj' : s.data.toList[j]? = some c := by simpa [upTo] using hj
    have hlt : j < s.data.toList.length := (List.getElem?_eq_some_iff.1 hj').1
    have hs : j < s.data.size := by simpa using hlt
    rw [bytesRow, Array.getElem?_append_left (by simpa using hs)]
    rw [Array.getElem?_map]
    rw [← Array.getElem?_toList, hj']; rfl
theorem Ups.cell {w : World} {B : Nat} {l : List UInt8} (h : Ups w B l) {j : Nat} {c : UInt8} (hj : l[j]? = some c) : w.cell? ⟨B, j, none⟩ = some (.int .u8 (c.toNat : Int)) ∧ w.frozen? ⟨B, j, none⟩ = false := by
  obtain ⟨C, hb, hl, hc⟩ := h
  have hlt := (List.getElem?_eq_some_iff.1 hj).1
  exact ⟨(fblk_cell hb j).trans (hc j c hj), fblk_frozen hb (by omega)⟩
theorem Ups.put {w : World} {B : Nat} {l : List UInt8} (h : Ups w B l) (j : Nat) (c : UInt8) : Ups (w.setCell ⟨B, j, none⟩ (.int .u8 (c.toNat : Int))) B (l.set j c) := by
  obtain ⟨C, hb, hl, hc⟩ := h
  refine ⟨_, by have := fblk_put hb j (Value.int .u8 (c.toNat : Int)) rfl; rw [Array.size_setIfInBounds]; exact this, by simpa using hl, fun i x hi => ?_⟩
  rw [List.getElem?_set] at hi
  rw [Array.getElem?_setIfInBounds]
  split at hi
  · rename_i e
    subst e
    split at hi
    · cases hi
      rw [if_pos rfl, if_pos (by omega)]
    · cases hi
  · rename_i e
    rw [if_neg e]; exact hc i x hi
theorem Ups.reads {w : World} {B : Nat} {l : List UInt8} (h : Ups w B l) (hm : l.length ≤ 9223372036854775807) : ReadsInt w .u8 (some ⟨B, 0, none⟩) l.length (l.map fun c => (c.toNat : Int)) := by
  refine ⟨by simp, hm, fun _ => ⟨_, rfl, fun j hj => ?_⟩⟩
  have e1 : (⟨B, 0, none⟩ : Addr).add j = ⟨B, j, none⟩ := by
    simp [Addr.add]
    try (intro h1; omega)
  rw [e1, (h.cell (List.getElem?_eq_getElem (l := l) (by simpa using hj))).1]
  simp [List.getElem?_eq_getElem (l := l) (by simpa using hj)]
theorem str_upper (l : List UInt8) : strOfNums (l.map fun c => (c.toNat : Int)) = ⟨l.toArray⟩ := by
  apply ByteArray.ext; apply Array.ext'
  rw [strOfNums_data]
  have e : ((fun n : Int => UInt8.ofNat n.toNat) ∘ fun c : UInt8 => (c.toNat : Int)) = id := by funext c; simp
  simp [List.map_map, e]

set_option maxHeartbeats 2000000 in
set_option maxRecDepth 100000 in
theorem Upper_calls (s : ByteArray) (hs : s.size ≤ 1000000) (w : World) :
    Calls Tryd.prog 65 #[.string s] w fun e w' => e = .returned (.string ⟨(upper s.data.toList).toArray⟩) ∧ Below w.heap.size w w' := by
  have hcv := fun (W : World) => run_bytes_of_string (P := Tryd.prog) W 9 101 5 s Tryd.underlying9 Tryd.underlying101 Tryd.underlying5
  have HL := Aside0.mk (data_length s)
  go_enter Tryd.func65, Tryd.ntmps65
  go_wp2
  clear hcv
  go_loopw [10] (fun i wr => ∃ k : Nat, k ≤ s.size ∧ i = .int .i64 k ∧ Aside0 (Ups wr w.heap.size (upTo s.data.toList k)) ∧ Aside0 (Below w.heap.size w wr)) (fun i _ => s.size - (intOf i).toNat)
  case atStart => exact ⟨0, Nat.zero_le _, rfl, ⟨(Ups.start w s _).drew⟩, ⟨((Below.refl _ _).alloc (Nat.le_refl _) _).drew⟩⟩
  case round =>
    obtain ⟨k, hk, rfl, HU, HB⟩ := hrel
    by_cases hlt : k < s.size
    · have hk' : k < s.data.toList.length := by rw [HL.out]; exact hlt
      obtain ⟨c, hc⟩ : ∃ c, c = s.data.toList[k] := ⟨_, rfl⟩
      obtain ⟨y, hy⟩ : ∃ y : Nat, y = c.toNat := ⟨_, rfl⟩
      have hcell := (HU.out.cell (upTo_at _ k hk')).1
      have hfr := (HU.out.cell (upTo_at _ k hk')).2
      rw [← hc, ← hy] at hcell
      have HN := Aside0.mk (upTo_next _ k hk')
      rw [← hc] at HN
      have hy8 : y < 256 := by rw [hy]; exact c.toNat_lt
      by_cases h1 : 97 ≤ c.toNat ∧ c.toNat ≤ 122
      · have hge : decide ((97 : Int) ≤ (y : Int)) = true := decide_eq_true (by omega)
        have hle : decide ((y : Int) ≤ 122) = true := decide_eq_true (by omega)
        have hbits := not32 y (by omega) (by omega)
        obtain ⟨z, hz⟩ : ∃ z : Nat, z = y - 32 := ⟨_, rfl⟩
        rw [← hz] at hbits
        have HZ := Aside0.mk (show z = (upB c).toNat from by rw [upB_low c h1.1 h1.2, hz, hy])
        clear h1 hc hy hz hk'
        go_wp2
        go_roundw
        case rel => exact ⟨k + 1, by omega, by go_num, ⟨by rw [HN.out]; have := HU.out.put k (upB c); rwa [← HZ.out] at this⟩, ⟨HB.out.setCell (Nat.le_refl _) _⟩⟩
        case measure => simp [intOf]; omega
      · have HZ := Aside0.mk (upB_else c h1)
        have HS := Aside0.mk (show (upTo s.data.toList k).set k c = upTo s.data.toList k from by
          apply List.ext_getElem?
          intro j
          rw [List.getElem?_set]
          split
          · rename_i e; subst e
            rw [upTo_at _ _ hk', ← hc, if_pos (by rw [upTo_len]; exact hk')]
          · rfl)
        rw [HZ.out] at HN
        rcases (show (decide ((97 : Int) ≤ (y : Int)) = false) ∨ (decide ((97 : Int) ≤ (y : Int)) = true ∧ decide ((y : Int) ≤ 122) = false) from by
          simp only [decide_eq_true_eq, decide_eq_false_iff_not]; omega) with g1 | ⟨g1, g2⟩
        all_goals
          clear h1 hc hy hk'
          go_wp2
          go_roundw
          case rel => exact ⟨k + 1, by omega, by go_num, ⟨by rw [HN.out, HS.out]; exact HU.out⟩, HB⟩
          case measure => simp [intOf]; omega
    · obtain rfl : k = s.size := by omega
      have hall : upTo s.data.toList s.size = upper s.data.toList := by
        rw [upTo, upper, List.take_of_length_le (by rw [HL.out]; exact Nat.le_refl _), List.drop_of_length_le (by rw [HL.out]; exact Nat.le_refl _), List.append_nil]
      have hlen : (upper s.data.toList).length = s.size := by rw [upper, List.length_map]; exact HL.out
      have hR := HU.out.reads (by rw [upTo_len, HL.out]; omega)
      rw [hall, hlen] at hR
      have hcv : ∀ c, (convert 101 9 (.slice (some ⟨w.heap.size, 0, none⟩) s.size c)).run Tryd.prog wr = .ok (.string ⟨(upper s.data.toList).toArray⟩) wr := fun c => by
        rw [string_of_reads (c := c) Tryd.underlying101 Tryd.underlying5 Tryd.underlying9 hR, str_upper]
      clear hall hlen hR
      go_wp2
      go_ret
      exact ⟨rfl, HB.out⟩
end Go.Proofs.YtajaedebndeajaaDoor.Q

namespace Go.Proofs.YtajaedebndeajaaDoor.Q
open Go Go.RowKit Go.Proofs.YtajaedebndeajaaDoorW.PrintWords Go.Proofs.YtajaedebndeajaaDoorW.PrintLast Go.Proofs.YtajaedebndeajaaDoorW.PrintMore
set_option linter.unusedVariables false
set_option linter.unusedSimpArgs false

end Go.Proofs.YtajaedebndeajaaDoor.Q

namespace Go.Proofs.YtajaedebndeajaaDoor.Q
open Go Go.RowKit Go.Proofs.YtajaedebndeajaaDoorW.PrintWords Go.Proofs.YtajaedebndeajaaDoorW.PrintLast Go.Proofs.YtajaedebndeajaaDoorW.PrintMore
set_option linter.unusedVariables false
set_option linter.unusedSimpArgs false

theorem zeroV (w : World) : (zeroValue 88).run Tryd.prog w = .ok (.agg #[.string ⟨#[]⟩, .int .i64 0, .int .i64 0, .bool false]) w := by kernel_rfl
theorem keyV : MapLaw.KeyOk Tryd.prog 9 Value.string := MapLaw.string_key Tryd.underlying9
def mapOf (l : List S88) : List (ByteArray × Value) := l.foldl (fun m v => MapLaw.put v.f0 (encV v) m) []
theorem mapOf_next (l : List S88) (k : Nat) (hk : k < l.length) : mapOf (l.take (k + 1)) = MapLaw.put (l[k]).f0 (encV l[k]) (mapOf (l.take k)) := by
  rw [List.take_succ_eq_append_getElem hk, mapOf, List.foldl_append]; rfl
theorem at_fold (key : ByteArray) : ∀ (l : List S88) (m : List (ByteArray × Value)), (l.map (·.f0)).Nodup → MapLaw.at_ key (l.foldl (fun m v => MapLaw.put v.f0 (encV v) m) m) = match l.find? (fun v => decide (v.f0 = key)) with | some v => some (encV v) | none => MapLaw.at_ key m
  | [], m, _ => rfl
  | a :: r, m, h => by
    rw [List.map_cons, List.nodup_cons] at h
    rw [List.foldl_cons, at_fold key r _ h.2, List.find?_cons]
    by_cases e : a.f0 = key
    · have hno : r.find? (fun v => decide (v.f0 = key)) = none := by
        rw [List.find?_eq_none]
        intro x hx hd
        exact h.1 (by rw [e, ← of_decide_eq_true hd]; exact List.mem_map.2 ⟨x, hx, rfl⟩)
      rw [hno, decide_eq_true e]
      show MapLaw.at_ key (MapLaw.put a.f0 (encV a) m) = some (encV a)
      rw [MapLaw.at_put, if_pos e.symm]
    · rw [decide_eq_false e]
      cases r.find? (fun v => decide (v.f0 = key)) with
      | some v => rfl
      | none =>
        show MapLaw.at_ key (MapLaw.put a.f0 (encV a) m) = MapLaw.at_ key m
        rw [MapLaw.at_put, if_neg (fun h => e h.symm)]
set_option maxRecDepth 100000 in
theorem table_nodup : (tableS.map (·.f0)).Nodup := by decide +kernel
/-- The verb of a name. -/
def findV (l : List UInt8) : Option S88 := tableS.find? fun v => v.f0.data.toList == upper l
theorem at_table (l : List UInt8) : MapLaw.at_ ⟨(upper l).toArray⟩ (mapOf tableS) = (findV l).map encV := by
  rw [mapOf, at_fold _ _ _ table_nodup, findV]
  have e : (fun v : S88 => decide (v.f0 = ⟨(upper l).toArray⟩)) = fun v => v.f0.data.toList == upper l := by
    funext v
    rw [Bool.eq_iff_iff, decide_eq_true_iff, beq_iff_eq]
    constructor
    · intro h; rw [h]
    · intro h; apply ByteArray.ext; apply Array.ext'; exact h
  rw [e]
  cases tableS.find? fun v => v.f0.data.toList == upper l <;> rfl
def TabAt (w : World) (B : Nat) : Prop := w.heap[B]? = some (.cells (tableS.flatMap encS).toArray 88 (0, 0))

set_option maxHeartbeats 8000000 in
set_option maxRecDepth 100000 in
theorem table_calls (w : World) :
    Calls Tryd.prog 64 #[] w fun e w' => e = .returned (.map (some w.heap.size)) ∧ MapLaw.Is Value.string w' w.heap.size (mapOf tableS) ∧ Below w.heap.size w w' := by
  have hmm := @run_makeMap Tryd.prog
  have HT : ∀ W : World, TabAt (W.alloc (.cells (tableS.flatMap encS).toArray 88)) W.heap.size := fun W => blk_new _ _
  rw [← tableC] at HT
  replace HT := Aside0.mk HT
  go_enter Tryd.func64, Tryd.ntmps64
  go_wp2
  clear hmm
  go_loopw [43] (fun i wr => ∃ k : Nat, k ≤ 36 ∧ i = .int .i64 k ∧ Aside0 (MapLaw.Is Value.string wr w.heap.size (mapOf (tableS.take k))) ∧ Aside0 (TabAt wr (w.heap.size + 1)) ∧ Aside0 (Below w.heap.size w wr)) (fun i _ => 36 - (intOf i).toNat)
  case atStart => exact ⟨0, Nat.zero_le _, rfl, ⟨(MapLaw.Is.made _ _).alloc _⟩, ⟨by have := HT.out (w.alloc (.map #[] 0)); simpa using this⟩, ⟨((Below.refl _ _).alloc (Nat.le_refl _) _).alloc (by simp) _⟩⟩
  case round =>
    clear HT
    obtain ⟨k, hk, rfl, HM, HC, HB⟩ := hrel
    by_cases hlt : k < 36
    · have hC := C_of_blk k88 88 wr (w.heap.size + 1) tableS encS encS_len (fun x _ => k88_mk wr x) (by rw [tableS_len]; decide) rfl HC.out
      have hkl : k < tableS.length := by rw [tableS_len]; exact hlt
      obtain ⟨ad, e, x0, x1, x2, x3⟩ := at_T88 hC (k : Int) (by omega) (by omega)
      obtain rfl := Option.some.inj e
      have hv : rd_T88 tableS (k : Int) = tableS[k] := by
        rw [rd_T88, Int.toNat_natCast, List.getD_eq_getElem?_getD, List.getElem?_eq_getElem hkl]; rfl
      have HN := Aside0.mk (mapOf_next tableS k hkl)
      rw [← hv] at HN
      obtain ⟨v, hv'⟩ : ∃ v, v = rd_T88 tableS (k : Int) := ⟨_, rfl⟩
      rw [← hv'] at x0 x1 x2 x3 HN
      have e0 : ((⟨w.heap.size + 1, 0, none⟩ : Addr).add ((k : Int).toNat * 4)) = ⟨w.heap.size + 1, k * 4, none⟩ := by simp [Addr.add]; try (intro h1; omega)
      rw [e0] at x0 x1 x2 x3
      clear hC e hv hv' hkl e0
      have HSZ := Aside0.mk HB.out.size
      go_wp2_with (at_mapUpdate; refine MapLaw.wp_update _ rfl _ _ _ 103 88 rfl keyV Tryd.underlying103 rfl (HM.out.alloc _) v.f0 rfl (encV v) rfl ?_; intro w1 hm1 hg1)
      go_roundw
      case rel => exact ⟨k + 1, by omega, by go_num, ⟨by rw [HN.out]; exact hm1⟩, ⟨blk_grown (blk_alloc HC.out _) hg1 (by simp)⟩, ⟨(HB.out.alloc HSZ.out _).grown hg1 (HB.out.alloc HSZ.out _).size (fun j hj => by cases hj; exact Nat.le_refl _)⟩⟩
      case measure => simp [intOf]; omega
    · obtain rfl : k = 36 := by omega
      have HM2 : Aside0 (MapLaw.Is Value.string wr w.heap.size (mapOf tableS)) := ⟨by have := HM.out; rwa [List.take_of_length_le (by rw [tableS_len]; exact Nat.le_refl _)] at this⟩
      go_wp2
      go_ret
      exact ⟨rfl, HM2.out, HB.out⟩

end Go.Proofs.YtajaedebndeajaaDoor.Q

namespace Go.Proofs.YtajaedebndeajaaDoor.Q
open Go Go.RowKit Go.Proofs.YtajaedebndeajaaDoorW.PrintWords Go.Proofs.YtajaedebndeajaaDoorW.PrintLast Go.Proofs.YtajaedebndeajaaDoorW.PrintMore
set_option linter.unusedVariables false
set_option linter.unusedSimpArgs false

def verb_Find.f (a0 : ByteArray) : Option (ByteArray × Int × Int × Bool × Bool) := if a0.size ≤ 1000000 then (match findV a0.data.toList with | some v => some (v.f0, v.f1, v.f2, v.f3, true) | none => some (⟨#[]⟩, 0, 0, false, false)) else none
set_option maxHeartbeats 1000000 in
set_option maxRecDepth 100000 in
theorem Find_calls (s : ByteArray) (hs : s.size ≤ 1000000) (n : ByteArray) (k a : Int) (p z : Bool) (h : (match findV s.data.toList with | some v => (v.f0, v.f1, v.f2, v.f3, true) | none => (⟨#[]⟩, 0, 0, false, false)) = (n, k, a, p, z)) (w : World) :
    Calls Tryd.prog 58 #[.string s] w fun e w' => e = .returned (.tuple #[.agg #[.string n, .int .i64 k, .int .i64 a, .bool p], .bool z]) ∧ Below w.heap.size w w' := by
  have HAT := Aside0.mk (at_table s.data.toList)
  have HV := Aside0.mk (show ((findV s.data.toList).map encV).getD (.agg #[.string ⟨#[]⟩, .int .i64 0, .int .i64 0, .bool false]) = .agg #[.string n, .int .i64 k, .int .i64 a, .bool p] ∧ ((findV s.data.toList).map encV).isSome = z from by
    cases hf : findV s.data.toList with
    | none => rw [hf] at h; cases h; exact ⟨rfl, rfl⟩
    | some v => rw [hf] at h; cases h; exact ⟨rfl, rfl⟩)
  clear h
  have HB := Aside0.mk ((Below.refl w.heap.size w).alloc (Nat.le_refl _) (.cells #[.string ⟨#[]⟩, .int .i64 0, .int .i64 0, .bool false] 88))
  have HK := Aside0.mk (blk_new w (.cells #[.string ⟨#[]⟩, .int .i64 0, .int .i64 0, .bool false] 88))
  go_enter Tryd.func58, Tryd.ntmps58
  go_wp2_with (first
    | (go_at_call 64; with_reducible refine (table_calls _).mono ?_; rintro e w1 ⟨rfl, hm, hb⟩; have HM := Aside0.mk (show MapLaw.Is Value.string w1 (w.heap.size + 1) (mapOf tableS) from by simpa using hm); replace HK := Aside0.mk (blk_below HK.out hb); replace HB := Aside0.mk (HB.out.trans (hb.mono HB.out.size)); clear hm hb)
    | (go_at_call 65; with_reducible refine (Upper_calls s hs _).mono ?_; rintro e w2 ⟨rfl, hb⟩; replace HM := Aside0.mk (HM.out.below hb); replace HK := Aside0.mk (blk_below HK.out hb); replace HB := Aside0.mk (HB.out.trans (hb.mono HB.out.size)); clear hb)
    | (at_lookup; refine MapLaw.wp_lookup _ rfl _ _ 103 88 true rfl keyV Tryd.underlying103 (zeroV _) rfl HM.out ⟨(upper s.data.toList).toArray⟩ rfl ?_; rw [HAT.out, HV.out.1, HV.out.2]; have kc0 : ∀ o, (w2.alloc o).cell? ⟨w.heap.size, 0, none⟩ = some (.string ⟨#[]⟩) := fun o => (blk_cell (blk_alloc HK.out o) 0).trans rfl; have kf0 : ∀ o, (w2.alloc o).frozen? ⟨w.heap.size, 0, none⟩ = false := fun o => blk_frozen (blk_alloc HK.out o) 0; have kc1 : ∀ o, (w2.alloc o).cell? ⟨w.heap.size, 1, none⟩ = some (.int .i64 0) := fun o => (blk_cell (blk_alloc HK.out o) 1).trans rfl; have kf1 : ∀ o, (w2.alloc o).frozen? ⟨w.heap.size, 1, none⟩ = false := fun o => blk_frozen (blk_alloc HK.out o) 1; have kc2 : ∀ o, (w2.alloc o).cell? ⟨w.heap.size, 2, none⟩ = some (.int .i64 0) := fun o => (blk_cell (blk_alloc HK.out o) 2).trans rfl; have kf2 : ∀ o, (w2.alloc o).frozen? ⟨w.heap.size, 2, none⟩ = false := fun o => blk_frozen (blk_alloc HK.out o) 2; have kc3 : ∀ o, (w2.alloc o).cell? ⟨w.heap.size, 3, none⟩ = some (.bool false) := fun o => (blk_cell (blk_alloc HK.out o) 3).trans rfl; have kf3 : ∀ o, (w2.alloc o).frozen? ⟨w.heap.size, 3, none⟩ = false := fun o => blk_frozen (blk_alloc HK.out o) 3))
  refine bodyPost_ret (results_ct rfl _ _ w.heap.size 88 #[.string n, .int .i64 k, .int .i64 a, .bool p] (0, 0) _ rfl (by refine blk_put (cs := #[.string n, .int .i64 k, .int .i64 a, .bool false]) ?_ 3 _ rfl; refine blk_put (cs := #[.string n, .int .i64 k, .int .i64 0, .bool false]) ?_ 2 _ rfl; refine blk_put (cs := #[.string n, .int .i64 0, .int .i64 0, .bool false]) ?_ 1 _ rfl; refine blk_put (cs := #[.string ⟨#[]⟩, .int .i64 0, .int .i64 0, .bool false]) ?_ 0 _ rfl; exact blk_alloc HK.out _) Tryd.underlying88 rfl (by kernel_rfl)) rfl ?_
  exact ⟨rfl, ((((HB.out.alloc HB.out.size _).setCell (Nat.le_refl _) _).setCell (Nat.le_refl _) _).setCell (Nat.le_refl _) _).setCell (Nat.le_refl _) _⟩
theorem verb_Find.calls (a0 : ByteArray) (r1 : ByteArray) (r2 : Int) (r3 : Int) (r4 : Bool) (r5 : Bool) (w : World) (h : verb_Find.f a0 = some (r1, r2, r3, r4, r5)) :
    Calls Tryd.prog 58 #[.string a0] w fun e w' => e = .returned (.tuple #[.agg #[.string r1, .int .i64 r2, .int .i64 r3, .bool r4], .bool r5]) ∧ Below w.heap.size w w' := by
  unfold verb_Find.f at h
  split at h
  · rename_i hs
    refine Find_calls a0 hs r1 r2 r3 r4 r5 ?_ w
    cases hf : findV a0.data.toList with
    | none => rw [hf] at h; exact Option.some.inj h
    | some v => rw [hf] at h; exact Option.some.inj h
  · cases h
end Go.Proofs.YtajaedebndeajaaDoor.Q

namespace Go.Proofs.YtajaedebndeajaaDoor.Q
open Go.RowKit Go.Proofs.YtajaedebndeajaaDoor.AclMet Go.Proofs.YtajaedebndeajaaDoorW.PrintWords Go.Proofs.YtajaedebndeajaaDoorW.PrintLast Go.Proofs.YtajaedebndeajaaDoorW.PrintMore
attribute [local go_sem] max2_int min2_int max_two min_two max_three min_three max_four min_four   -- for this text's walks alone
set_option linter.unusedVariables false
set_option linter.unusedSimpArgs false

/-! ### wharfingerref07_Upper: function 54 -/
end Go.Proofs.YtajaedebndeajaaDoor.Q

namespace Go.Proofs.YtajaedebndeajaaDoor.Q
open Go.RowKit Go.Proofs.YtajaedebndeajaaDoor.AclMet Go.Proofs.YtajaedebndeajaaDoorW.PrintWords Go.Proofs.YtajaedebndeajaaDoorW.PrintLast Go.Proofs.YtajaedebndeajaaDoorW.PrintMore
attribute [local go_sem] max2_int min2_int max_two min_two max_three min_three max_four min_four   -- for this text's walks alone
set_option linter.unusedVariables false
set_option linter.unusedSimpArgs false

/-! ### wharfingerref07_Find: function 43 -/
end Go.Proofs.YtajaedebndeajaaDoor.Q

namespace Go.Proofs.YtajaedebndeajaaDoor.Q
open Go.RowKit Go.Proofs.YtajaedebndeajaaDoor.AclMet Go.Proofs.YtajaedebndeajaaDoorW.PrintWords Go.Proofs.YtajaedebndeajaaDoorW.PrintLast Go.Proofs.YtajaedebndeajaaDoorW.PrintMore
attribute [local go_sem] max2_int min2_int max_two min_two max_three min_three max_four min_four   -- for this text's walks alone
set_option linter.unusedVariables false
set_option linter.unusedSimpArgs false

/-! ### acl_known: function 51 -/
def acl_known.f (a0 : ByteArray) : Option (Bool) := (verb_Find.f a0).bind fun bt108 => (if bt108.2.2.2.2 = true then (some (bt108.1.toList == a0.toList)) else (some false))
set_option maxHeartbeats 8000000 in
set_option maxRecDepth 100000 in
theorem acl_known.calls (a0 : ByteArray) (r : Bool) (w : World) (h : acl_known.f a0 = some r) :
  Calls Tryd.prog 51 #[.string a0] w fun e w' => e = .returned (.bool r) ∧ Below w.heap.size w w' := by
 have hu88 := Tryd.underlying88
 have HB := Aside0.mk (Below.refl w.heap.size w)
 have H : ((verb_Find.f a0).bind fun bt108 => (if bt108.2.2.2.2 = true then (some (bt108.1.toList == a0.toList)) else (some false))) = some r := h
 clear h
 replace H := Option.bind_eq_some_iff.mp H
 obtain ⟨⟨t108, t109, t110, t111, t112⟩, A20, H⟩ := H
 replace H : (if t112 = true then (some (t108.toList == a0.toList)) else (some false)) = some r := H
 have A2 := Aside0.mk A20
 clear A20
 by_cases c3 : t112 = true
 ·
  subst c3
  have H1 : (some (t108.toList == a0.toList)) = some r := by rw [if_pos rfl] at H; exact H
  clear H
  have H := H1
  clear H1
  obtain rfl := Option.some.inj H
  go_enter Tryd.func51, Tryd.ntmps51
  go_wp2_with (first | ((with_reducible refine gate_callee (f := 58) rfl ?_); refine goesL_ (some 7) rfl rfl Tryd.func58 (by kernel_rfl) rfl #[.string a0] rfl (by (try simp only [List.map_toArray, List.map_cons, List.map_nil]); first | done | rfl | (simp only [List.length_drop, List.length_take]; rfl)) ?_; (with_reducible refine (verb_Find.calls a0 t108 t109 t110 t111 true _ A2.out).mono ?_); rintro e w4 ⟨rfl, hb⟩; refine ⟨_, rfl, ?_⟩; have n0_ := Aside0.mk (below_step (by repeat (first | (with_reducible first | exact HB.out | apply below_alloc | apply pw_below_drewN | apply below_drew1) | exact HB.out)) hb); clear HB; have HB := n0_; clear n0_; (try clear hb); (try clear hb2); (try clear hk); (try clear hi)) | ((with_reducible refine gate_dst (N := 3) rfl ?_); refine box_event ?hg (N := 3) ?hd (cs := #[.string (⟨#[]⟩ : ByteArray), .int .i64 0, .int .i64 0, .bool false]) (t := 88) ?hr ?_; (case hd => rfl); (case hg => rfl); (case hr => first | (go_simp; done) | (go_simp; rfl)); intro gb113 hg w5 hbox hb; have n0_ := Aside0.mk (below_step (by repeat (first | (with_reducible first | exact HB.out | apply below_alloc | apply pw_below_drewN | apply below_drew1) | exact HB.out)) hb); have n1_ := Aside0.mk (hbox); have n2_ := Aside0.mk ((by rw [hg]; exact (below_size (by repeat (first | (with_reducible first | exact HB.out | apply below_alloc | apply pw_below_drewN | apply below_drew1) | exact HB.out))) : w.heap.size ≤ gb113)); have n3_ := Aside0.mk ((by rw [hg]; exact (below_size (by repeat (first | (with_reducible first | exact HB.out | apply below_alloc | apply pw_below_drewN | apply below_drew1) | exact HB.out))) : w.heap.size ≤ gb113)); clear HB; have HB := n0_; have BK113 := n1_; have GW113 := n2_; have GE113 := n3_; clear n0_ n1_ n2_ n3_; clear hb hbox hg; obtain ⟨hcz6_0, hcz6_1, hcz6_2, hcz6_3⟩ := cl_4 (.string (⟨#[]⟩ : ByteArray)) (.int .i64 0) (.int .i64 0) (.bool false) BK113.out; obtain ⟨hfz6_0, hfz6_1, hfz6_2, hfz6_3⟩ := fz_4 BK113.out))
  go_ret
  exact ⟨by first | rfl | (simp [errW_none, errW_some] <;> rfl) | (simp [*, errW_none, errW_some] <;> rfl), by repeat (first | (with_reducible first | exact HB.out | apply below_alloc | apply pw_below_drewN | apply below_drew1 | refine below_set ?_ GE113.out) | exact HB.out)⟩
 ·
  replace c3 := Bool.eq_false_iff.mpr c3
  subst c3
  have H1 : (some false) = some r := by rw [if_neg (show ¬ (false = true) by decide)] at H; exact H
  clear H
  have H := H1
  clear H1
  obtain rfl := Option.some.inj H
  go_enter Tryd.func51, Tryd.ntmps51
  go_wp2_with (first | ((with_reducible refine gate_callee (f := 58) rfl ?_); refine goesL_ (some 7) rfl rfl Tryd.func58 (by kernel_rfl) rfl #[.string a0] rfl (by (try simp only [List.map_toArray, List.map_cons, List.map_nil]); first | done | rfl | (simp only [List.length_drop, List.length_take]; rfl)) ?_; (with_reducible refine (verb_Find.calls a0 t108 t109 t110 t111 false _ A2.out).mono ?_); rintro e w7 ⟨rfl, hb⟩; refine ⟨_, rfl, ?_⟩; have n0_ := Aside0.mk (below_step (by repeat (first | (with_reducible first | exact HB.out | apply below_alloc | apply pw_below_drewN | apply below_drew1) | exact HB.out)) hb); clear HB; have HB := n0_; clear n0_; (try clear hb); (try clear hb2); (try clear hk); (try clear hi)) | ((with_reducible refine gate_dst (N := 3) rfl ?_); refine box_event ?hg (N := 3) ?hd (cs := #[.string (⟨#[]⟩ : ByteArray), .int .i64 0, .int .i64 0, .bool false]) (t := 88) ?hr ?_; (case hd => rfl); (case hg => rfl); (case hr => first | (go_simp; done) | (go_simp; rfl)); intro gb113 hg w8 hbox hb; have n0_ := Aside0.mk (below_step (by repeat (first | (with_reducible first | exact HB.out | apply below_alloc | apply pw_below_drewN | apply below_drew1) | exact HB.out)) hb); have n1_ := Aside0.mk (hbox); have n2_ := Aside0.mk ((by rw [hg]; exact (below_size (by repeat (first | (with_reducible first | exact HB.out | apply below_alloc | apply pw_below_drewN | apply below_drew1) | exact HB.out))) : w.heap.size ≤ gb113)); have n3_ := Aside0.mk ((by rw [hg]; exact (below_size (by repeat (first | (with_reducible first | exact HB.out | apply below_alloc | apply pw_below_drewN | apply below_drew1) | exact HB.out))) : w.heap.size ≤ gb113)); clear HB; have HB := n0_; have BK113 := n1_; have GW113 := n2_; have GE113 := n3_; clear n0_ n1_ n2_ n3_; clear hb hbox hg; obtain ⟨hcz9_0, hcz9_1, hcz9_2, hcz9_3⟩ := cl_4 (.string (⟨#[]⟩ : ByteArray)) (.int .i64 0) (.int .i64 0) (.bool false) BK113.out; obtain ⟨hfz9_0, hfz9_1, hfz9_2, hfz9_3⟩ := fz_4 BK113.out))
  go_ret
  exact ⟨by first | rfl | (simp [errW_none, errW_some] <;> rfl) | (simp [*, errW_none, errW_some] <;> rfl), by repeat (first | (with_reducible first | exact HB.out | apply below_alloc | apply pw_below_drewN | apply below_drew1 | refine below_set ?_ GE113.out) | exact HB.out)⟩

end Go.Proofs.YtajaedebndeajaaDoor.Q

namespace Go.Proofs.YtajaedebndeajaaDoor.Q
open Go.RowKit Go.Proofs.YtajaedebndeajaaDoor.AclMet Go.Proofs.YtajaedebndeajaaDoorW.PrintWords Go.Proofs.YtajaedebndeajaaDoorW.PrintLast Go.Proofs.YtajaedebndeajaaDoorW.PrintMore
attribute [local go_sem] max2_int min2_int max_two min_two max_three min_three max_four min_four   -- for this text's walks alone
set_option linter.unusedVariables false
set_option linter.unusedSimpArgs false

/-! ### acl_May: function 39 -/
def acl_May.l0 : Nat → List (S44) → List (S44) → Int → Int → Option (Bool)
 | 0, _, _, _, _ => none
 | k + 1, x0, x5, x6, x7 => if x7 < x6 then (if 0 ≤ x7 then (if x7 < (x5.length : Int) then (if ((rd_T44 x5 x7).f1).toList = ([] : List UInt8) then ((path_May.f ((rd_T44 x5 x7).f2)).bind fun t117 => (if t117 = true then (acl_May.l0 k x0 x5 x6 (wrap64 (x7 + 1))) else (some false))) else ((acl_known.f ((rd_T44 x5 x7).f1)).bind fun t118 => (if t118 = true then ((path_May.f ((rd_T44 x5 x7).f2)).bind fun t119 => (if t119 = true then (acl_May.l0 k x0 x5 x6 (wrap64 (x7 + 1))) else (some false))) else (some false)))) else (none)) else (none)) else (some (decide ((x0.length : Int) ≤ 8)))
def acl_May.f (k : Nat) (l0 : List (S44)) : Option (Bool) := acl_May.l0 k l0 l0 (l0.length : Int) 0
theorem acl_May.mono_l : ∀ k, (∀ y0 y1 y2 y3, LeO (acl_May.l0 k y0 y1 y2 y3) (acl_May.l0 (k + 1) y0 y1 y2 y3))
 | 0 => fun _ _ _ _ r h => by simp [acl_May.l0] at h
 | k + 1 => by
  have ih0 := acl_May.mono_l k
  ·
   intro y0 y1 y2 y3
   unfold acl_May.l0
   repeat' first
   | (with_reducible exact ih0 _ _ _ _)
   | (with_reducible exact LeO.refl _)
   | (with_reducible exact LeO.none _)
   | (with_reducible refine LeO.ite ?_ ?_)
   | (with_reducible refine LeO.bind ?_ (fun _ => ?_))
   | exact ih0 _ _ _ _
   | exact LeO.none _
   | refine LeO.ite ?_ ?_
   | refine LeO.bind ?_ (fun _ => ?_)
theorem acl_May.mono : ∀ a0 k, LeO (acl_May.f k a0) (acl_May.f (k + 1) a0) := by
 intro a0 k
 have ih0 := acl_May.mono_l k
 unfold acl_May.f
 repeat' first
   | (with_reducible exact ih0 _ _ _ _)
   | (with_reducible exact LeO.refl _)
   | (with_reducible exact LeO.none _)
   | (with_reducible refine LeO.ite ?_ ?_)
   | (with_reducible refine LeO.bind ?_ (fun _ => ?_))
   | exact ih0 _ _ _ _
   | exact LeO.none _
   | refine LeO.ite ?_ ?_
   | refine LeO.bind ?_ (fun _ => ?_)
set_option maxHeartbeats 8000000 in
set_option maxRecDepth 100000 in
theorem acl_May.calls (k : Nat) (A0 : Option Addr) (c0 : Nat) (l0 : List (S44)) (r : Bool) (w : World) (hr0 : Kd.C k44 w A0 l0.length l0) (hc0 : l0.length ≤ c0) (hmet : WMet w) (h : acl_May.f k l0 = some r) :
  Calls Tryd.prog 39 #[.slice A0 l0.length c0] w fun e w' => e = .returned (.bool r) ∧ Below w.heap.size w w' := by
 have HMET := Aside0.mk hmet
 clear hmet
 have hu44 := Tryd.underlying44
 have HR0 := Aside0.mk hr0
 have HC0 := Aside0.mk hc0
 clear hr0 hc0
 have HB := Aside0.mk (Below.refl w.heap.size w)
 have H : (acl_May.l0 k l0 l0 (l0.length : Int) 0) = some r := h
 clear h
 have H' := Aside0.mk H
 clear H
 go_enter Tryd.func39, Tryd.ntmps39
 go_wp2
 go_loopg [7] k (fun kq v7 w' => ∃ (x7_1 : Int), v7 = .int .i64 x7_1 ∧ Aside0 (acl_May.l0 kq l0 l0 (l0.length : Int) x7_1 = some r) ∧ Aside0 (kq ≤ k) ∧ Aside0 (Below w.heap.size w w'))
 case atStart => exact ⟨(0), (by first | rfl | (simp; done) | (simp [*]; done)), H', ⟨Nat.le_refl _⟩, ⟨by repeat (first | (with_reducible first | exact HB.out | apply below_alloc | apply pw_below_drewN | apply below_drew1) | exact HB.out)⟩⟩
 case round =>
  clear H'
  obtain ⟨x7_1, rfl, HA, HK1, HB⟩ := hrel
  cases gk with
  | zero => exact absurd HA.out (by simp [acl_May.l0])
  | succ k1 =>
   have H := HA.out
   clear HA
   simp only [acl_May.l0] at H
   by_cases c2 : x7_1 < (l0.length : Int)
   ·
    rw [if_pos c2] at H
    have c2b0 : decide (x7_1 < (l0.length : Int)) = true := decide_eq_true c2
    clear c2
    by_cases c3 : 0 ≤ x7_1
    ·
     rw [if_pos c3] at H
     have c3b0 : decide (0 ≤ x7_1) = true := decide_eq_true c3
     clear c3
     by_cases c4 : x7_1 < (l0.length : Int)
     ·
      rw [if_pos c4] at H
      have c4b0 : decide (x7_1 < (l0.length : Int)) = true := decide_eq_true c4
      clear c4
      by_cases c5 : ((rd_T44 l0 x7_1).f1).toList = ([] : List UInt8)
      ·
       rw [if_pos c5] at H
       have c5b0 : (((rd_T44 l0 x7_1).f1).toList == ([] : List UInt8)) = true := beq_iff_eq.mpr c5
       have c5b1 : (((rd_T44 l0 x7_1).f1).toList != ([] : List UInt8)) = false := bne_eq_false_iff_eq.mpr c5
       clear c5
       replace H := Option.bind_eq_some_iff.mp H
       obtain ⟨t117, A60, H⟩ := H
       replace H : (if t117 = true then (acl_May.l0 k1 l0 l0 (l0.length : Int) (wrap64 (x7_1 + 1))) else (some false)) = some r := H
       have A6 := Aside0.mk A60
       clear A60
       by_cases c7 : t117 = true
       ·
        subst c7
        have H1 : (acl_May.l0 k1 l0 l0 (l0.length : Int) (wrap64 (x7_1 + 1))) = some r := by rw [if_pos rfl] at H; exact H
        clear H
        have H := H1
        clear H1
        have H' := Aside0.mk H
        clear H
        have p115 : 0 ≤ (x7_1 : Int) := of_decide_eq_true (by first | (with_reducible assumption) | assumption)
        have q115 : x7_1 < (l0.length : Int) := of_decide_eq_true (by first | (with_reducible assumption) | assumption)
        obtain ⟨ad115, e115, hx115_0, hx115_1, hx115_2⟩ := at_T44 HR0.out x7_1 p115 q115
        cases e115
        replace hx115_0 := (HB.out.cell (World.block_lt_of_cell? w _ hx115_0)).trans hx115_0
        replace hx115_1 := (HB.out.cell (World.block_lt_of_cell? w _ hx115_1)).trans hx115_1
        replace hx115_2 := (HB.out.cell (World.block_lt_of_cell? w _ hx115_2)).trans hx115_2
        replace p115 := eq_true p115
        replace q115 := eq_true q115
        go_wp2_with (first | ((with_reducible refine gate_dst (N := 4) rfl ?_); refine box_event ?hg (N := 4) ?hd (cs := #[.bool false, .string (⟨#[]⟩ : ByteArray), .string (⟨#[]⟩ : ByteArray)]) (t := 44) ?hr ?_; (case hd => rfl); (case hg => rfl); (case hr => first | (go_simp; done) | (go_simp; rfl)); intro gb116 hg w8 hbox hb; have n0_ := Aside0.mk (below_step (by repeat (first | (with_reducible first | exact HB.out | apply below_alloc | apply pw_below_drewN | apply below_drew1) | exact HB.out)) hb); have n1_ := Aside0.mk (hbox); have n2_ := Aside0.mk ((by rw [hg]; exact (below_size (by repeat (first | (with_reducible first | exact HB.out | apply below_alloc | apply pw_below_drewN | apply below_drew1) | exact HB.out))) : w.heap.size ≤ gb116)); have n3_ := Aside0.mk ((by rw [hg]; exact (below_size (by repeat (first | (with_reducible first | exact HB.out | apply below_alloc | apply pw_below_drewN | apply below_drew1) | exact HB.out))) : w.heap.size ≤ gb116)); clear HB; have HB := n0_; have BK116 := n1_; have GW116 := n2_; have GE116 := n3_; clear n0_ n1_ n2_ n3_; clear hb hbox hg; obtain ⟨hcz9_0, hcz9_1, hcz9_2⟩ := cl_3 (.bool false) (.string (⟨#[]⟩ : ByteArray)) (.string (⟨#[]⟩ : ByteArray)) BK116.out; obtain ⟨hfz9_0, hfz9_1, hfz9_2⟩ := fz_3 BK116.out) | (go_at_call 52; (with_reducible refine (path_May.calls ((rd_T44 l0 x7_1).f2) true _ ?side1 A6.out).mono ?_); (case side1 => exact HMET.out.below (by repeat (first | (with_reducible first | exact HB.out | apply below_alloc | apply pw_below_drewN | apply below_drew1 | refine below_set ?_ GE116.out) | exact HB.out))); rintro e w10 ⟨rfl, hb⟩; have n0_ := Aside0.mk (blk_below (g := gb116) (o := .cells #[.bool ((rd_T44 l0 x7_1).f0), .string ((rd_T44 l0 x7_1).f1), .string ((rd_T44 l0 x7_1).f2)] 44 (0, 0)) (by (with_reducible repeat (first | refine blk_drewN ?_ _ | refine blk_drew ?_ | refine blk_alloc ?_ _)); refine blk_put (cs := #[.bool ((rd_T44 l0 x7_1).f0), .string ((rd_T44 l0 x7_1).f1), .string (⟨#[]⟩ : ByteArray)]) ?_ 2 _ rfl; (with_reducible repeat (first | refine blk_drewN ?_ _ | refine blk_drew ?_ | refine blk_alloc ?_ _)); refine blk_put (cs := #[.bool ((rd_T44 l0 x7_1).f0), .string (⟨#[]⟩ : ByteArray), .string (⟨#[]⟩ : ByteArray)]) ?_ 1 _ rfl; (with_reducible repeat (first | refine blk_drewN ?_ _ | refine blk_drew ?_ | refine blk_alloc ?_ _)); refine blk_put (cs := #[.bool false, .string (⟨#[]⟩ : ByteArray), .string (⟨#[]⟩ : ByteArray)]) ?_ 0 _ rfl; (with_reducible repeat (first | refine blk_drewN ?_ _ | refine blk_drew ?_ | refine blk_alloc ?_ _)); exact BK116.out) hb); have n1_ := Aside0.mk (below_step (by repeat (first | (with_reducible first | exact HB.out | apply below_alloc | apply pw_below_drewN | apply below_drew1 | refine below_set ?_ GE116.out) | exact HB.out)) hb); clear BK116; clear HB; have BK116 := n0_; have HB := n1_; clear n0_ n1_; (try clear hb); (try clear hb2); (try clear hk); (try clear hi)))
        go_roundg k1
        case measure => have := HK1.out; omega
        case rel => exact ⟨(wrap64 (x7_1 + 1)), (by first | rfl | (simp; done) | (simp [*]; done)), H', ⟨by have := HK1.out; omega⟩, ⟨by repeat (first | (with_reducible first | exact HB.out | apply below_alloc | apply pw_below_drewN | apply below_drew1 | refine below_set ?_ GE116.out) | exact HB.out)⟩⟩
       ·
        replace c7 := Bool.eq_false_iff.mpr c7
        subst c7
        have H1 : (some false) = some r := by rw [if_neg (show ¬ (false = true) by decide)] at H; exact H
        clear H
        have H := H1
        clear H1
        obtain rfl := Option.some.inj H
        have p115 : 0 ≤ (x7_1 : Int) := of_decide_eq_true (by first | (with_reducible assumption) | assumption)
        have q115 : x7_1 < (l0.length : Int) := of_decide_eq_true (by first | (with_reducible assumption) | assumption)
        obtain ⟨ad115, e115, hx115_0, hx115_1, hx115_2⟩ := at_T44 HR0.out x7_1 p115 q115
        cases e115
        replace hx115_0 := (HB.out.cell (World.block_lt_of_cell? w _ hx115_0)).trans hx115_0
        replace hx115_1 := (HB.out.cell (World.block_lt_of_cell? w _ hx115_1)).trans hx115_1
        replace hx115_2 := (HB.out.cell (World.block_lt_of_cell? w _ hx115_2)).trans hx115_2
        replace p115 := eq_true p115
        replace q115 := eq_true q115
        go_wp2_with (first | ((with_reducible refine gate_dst (N := 4) rfl ?_); refine box_event ?hg (N := 4) ?hd (cs := #[.bool false, .string (⟨#[]⟩ : ByteArray), .string (⟨#[]⟩ : ByteArray)]) (t := 44) ?hr ?_; (case hd => rfl); (case hg => rfl); (case hr => first | (go_simp; done) | (go_simp; rfl)); intro gb116 hg w11 hbox hb; have n0_ := Aside0.mk (below_step (by repeat (first | (with_reducible first | exact HB.out | apply below_alloc | apply pw_below_drewN | apply below_drew1) | exact HB.out)) hb); have n1_ := Aside0.mk (hbox); have n2_ := Aside0.mk ((by rw [hg]; exact (below_size (by repeat (first | (with_reducible first | exact HB.out | apply below_alloc | apply pw_below_drewN | apply below_drew1) | exact HB.out))) : w.heap.size ≤ gb116)); have n3_ := Aside0.mk ((by rw [hg]; exact (below_size (by repeat (first | (with_reducible first | exact HB.out | apply below_alloc | apply pw_below_drewN | apply below_drew1) | exact HB.out))) : w.heap.size ≤ gb116)); clear HB; have HB := n0_; have BK116 := n1_; have GW116 := n2_; have GE116 := n3_; clear n0_ n1_ n2_ n3_; clear hb hbox hg; obtain ⟨hcz12_0, hcz12_1, hcz12_2⟩ := cl_3 (.bool false) (.string (⟨#[]⟩ : ByteArray)) (.string (⟨#[]⟩ : ByteArray)) BK116.out; obtain ⟨hfz12_0, hfz12_1, hfz12_2⟩ := fz_3 BK116.out) | (go_at_call 52; (with_reducible refine (path_May.calls ((rd_T44 l0 x7_1).f2) false _ ?side1 A6.out).mono ?_); (case side1 => exact HMET.out.below (by repeat (first | (with_reducible first | exact HB.out | apply below_alloc | apply pw_below_drewN | apply below_drew1 | refine below_set ?_ GE116.out) | exact HB.out))); rintro e w13 ⟨rfl, hb⟩; have n0_ := Aside0.mk (blk_below (g := gb116) (o := .cells #[.bool ((rd_T44 l0 x7_1).f0), .string ((rd_T44 l0 x7_1).f1), .string ((rd_T44 l0 x7_1).f2)] 44 (0, 0)) (by (with_reducible repeat (first | refine blk_drewN ?_ _ | refine blk_drew ?_ | refine blk_alloc ?_ _)); refine blk_put (cs := #[.bool ((rd_T44 l0 x7_1).f0), .string ((rd_T44 l0 x7_1).f1), .string (⟨#[]⟩ : ByteArray)]) ?_ 2 _ rfl; (with_reducible repeat (first | refine blk_drewN ?_ _ | refine blk_drew ?_ | refine blk_alloc ?_ _)); refine blk_put (cs := #[.bool ((rd_T44 l0 x7_1).f0), .string (⟨#[]⟩ : ByteArray), .string (⟨#[]⟩ : ByteArray)]) ?_ 1 _ rfl; (with_reducible repeat (first | refine blk_drewN ?_ _ | refine blk_drew ?_ | refine blk_alloc ?_ _)); refine blk_put (cs := #[.bool false, .string (⟨#[]⟩ : ByteArray), .string (⟨#[]⟩ : ByteArray)]) ?_ 0 _ rfl; (with_reducible repeat (first | refine blk_drewN ?_ _ | refine blk_drew ?_ | refine blk_alloc ?_ _)); exact BK116.out) hb); have n1_ := Aside0.mk (below_step (by repeat (first | (with_reducible first | exact HB.out | apply below_alloc | apply pw_below_drewN | apply below_drew1 | refine below_set ?_ GE116.out) | exact HB.out)) hb); clear BK116; clear HB; have BK116 := n0_; have HB := n1_; clear n0_ n1_; (try clear hb); (try clear hb2); (try clear hk); (try clear hi)))
        go_ret
        exact ⟨by first | rfl | (simp [errW_none, errW_some] <;> rfl) | (simp [*, errW_none, errW_some] <;> rfl), by repeat (first | (with_reducible first | exact HB.out | apply below_alloc | apply pw_below_drewN | apply below_drew1 | refine below_set ?_ GE116.out) | exact HB.out)⟩
      ·
       rw [if_neg c5] at H
       have c5b0 : (((rd_T44 l0 x7_1).f1).toList == ([] : List UInt8)) = false := beq_eq_false_iff_ne.mpr c5
       have c5b1 : (((rd_T44 l0 x7_1).f1).toList != ([] : List UInt8)) = true := bne_iff_ne.mpr c5
       replace H := Option.bind_eq_some_iff.mp H
       obtain ⟨t118, A140, H⟩ := H
       replace H : (if t118 = true then ((path_May.f ((rd_T44 l0 x7_1).f2)).bind fun t119 => (if t119 = true then (acl_May.l0 k1 l0 l0 (l0.length : Int) (wrap64 (x7_1 + 1))) else (some false))) else (some false)) = some r := H
       have A14 := Aside0.mk A140
       clear A140
       by_cases c15 : t118 = true
       ·
        subst c15
        have H1 : ((path_May.f ((rd_T44 l0 x7_1).f2)).bind fun t119 => (if t119 = true then (acl_May.l0 k1 l0 l0 (l0.length : Int) (wrap64 (x7_1 + 1))) else (some false))) = some r := by rw [if_pos rfl] at H; exact H
        clear H
        have H := H1
        clear H1
        replace H := Option.bind_eq_some_iff.mp H
        obtain ⟨t119, A160, H⟩ := H
        replace H : (if t119 = true then (acl_May.l0 k1 l0 l0 (l0.length : Int) (wrap64 (x7_1 + 1))) else (some false)) = some r := H
        have A16 := Aside0.mk A160
        clear A160
        by_cases c17 : t119 = true
        ·
         subst c17
         have H1 : (acl_May.l0 k1 l0 l0 (l0.length : Int) (wrap64 (x7_1 + 1))) = some r := by rw [if_pos rfl] at H; exact H
         clear H
         have H := H1
         clear H1
         have H' := Aside0.mk H
         clear H
         have p115 : 0 ≤ (x7_1 : Int) := of_decide_eq_true (by first | (with_reducible assumption) | assumption)
         have q115 : x7_1 < (l0.length : Int) := of_decide_eq_true (by first | (with_reducible assumption) | assumption)
         obtain ⟨ad115, e115, hx115_0, hx115_1, hx115_2⟩ := at_T44 HR0.out x7_1 p115 q115
         cases e115
         replace hx115_0 := (HB.out.cell (World.block_lt_of_cell? w _ hx115_0)).trans hx115_0
         replace hx115_1 := (HB.out.cell (World.block_lt_of_cell? w _ hx115_1)).trans hx115_1
         replace hx115_2 := (HB.out.cell (World.block_lt_of_cell? w _ hx115_2)).trans hx115_2
         replace p115 := eq_true p115
         replace q115 := eq_true q115
         go_wp2_with (first | ((with_reducible refine gate_dst (N := 4) rfl ?_); refine box_event ?hg (N := 4) ?hd (cs := #[.bool false, .string (⟨#[]⟩ : ByteArray), .string (⟨#[]⟩ : ByteArray)]) (t := 44) ?hr ?_; (case hd => rfl); (case hg => rfl); (case hr => first | (go_simp; done) | (go_simp; rfl)); intro gb116 hg w18 hbox hb; have n0_ := Aside0.mk (below_step (by repeat (first | (with_reducible first | exact HB.out | apply below_alloc | apply pw_below_drewN | apply below_drew1) | exact HB.out)) hb); have n1_ := Aside0.mk (hbox); have n2_ := Aside0.mk ((by rw [hg]; exact (below_size (by repeat (first | (with_reducible first | exact HB.out | apply below_alloc | apply pw_below_drewN | apply below_drew1) | exact HB.out))) : w.heap.size ≤ gb116)); have n3_ := Aside0.mk ((by rw [hg]; exact (below_size (by repeat (first | (with_reducible first | exact HB.out | apply below_alloc | apply pw_below_drewN | apply below_drew1) | exact HB.out))) : w.heap.size ≤ gb116)); clear HB; have HB := n0_; have BK116 := n1_; have GW116 := n2_; have GE116 := n3_; clear n0_ n1_ n2_ n3_; clear hb hbox hg; obtain ⟨hcz19_0, hcz19_1, hcz19_2⟩ := cl_3 (.bool false) (.string (⟨#[]⟩ : ByteArray)) (.string (⟨#[]⟩ : ByteArray)) BK116.out; obtain ⟨hfz19_0, hfz19_1, hfz19_2⟩ := fz_3 BK116.out) | (go_at_call 51; (with_reducible refine (acl_known.calls ((rd_T44 l0 x7_1).f1) true _ A14.out).mono ?_); rintro e w20 ⟨rfl, hb⟩; have n0_ := Aside0.mk (blk_below (g := gb116) (o := .cells #[.bool ((rd_T44 l0 x7_1).f0), .string ((rd_T44 l0 x7_1).f1), .string ((rd_T44 l0 x7_1).f2)] 44 (0, 0)) (by (with_reducible repeat (first | refine blk_drewN ?_ _ | refine blk_drew ?_ | refine blk_alloc ?_ _)); refine blk_put (cs := #[.bool ((rd_T44 l0 x7_1).f0), .string ((rd_T44 l0 x7_1).f1), .string (⟨#[]⟩ : ByteArray)]) ?_ 2 _ rfl; (with_reducible repeat (first | refine blk_drewN ?_ _ | refine blk_drew ?_ | refine blk_alloc ?_ _)); refine blk_put (cs := #[.bool ((rd_T44 l0 x7_1).f0), .string (⟨#[]⟩ : ByteArray), .string (⟨#[]⟩ : ByteArray)]) ?_ 1 _ rfl; (with_reducible repeat (first | refine blk_drewN ?_ _ | refine blk_drew ?_ | refine blk_alloc ?_ _)); refine blk_put (cs := #[.bool false, .string (⟨#[]⟩ : ByteArray), .string (⟨#[]⟩ : ByteArray)]) ?_ 0 _ rfl; (with_reducible repeat (first | refine blk_drewN ?_ _ | refine blk_drew ?_ | refine blk_alloc ?_ _)); exact BK116.out) hb); have n1_ := Aside0.mk (below_step (by repeat (first | (with_reducible first | exact HB.out | apply below_alloc | apply pw_below_drewN | apply below_drew1 | refine below_set ?_ GE116.out) | exact HB.out)) hb); clear BK116; clear HB; have BK116 := n0_; have HB := n1_; clear n0_ n1_; (try clear hb); (try clear hb2); (try clear hk); (try clear hi); obtain ⟨hcz21_0, hcz21_1, hcz21_2⟩ := cl_3 (.bool ((rd_T44 l0 x7_1).f0)) (.string ((rd_T44 l0 x7_1).f1)) (.string ((rd_T44 l0 x7_1).f2)) BK116.out; obtain ⟨hfz21_0, hfz21_1, hfz21_2⟩ := fz_3 BK116.out) | (go_at_call 52; (with_reducible refine (path_May.calls ((rd_T44 l0 x7_1).f2) true _ ?side1 A16.out).mono ?_); (case side1 => exact HMET.out.below (by repeat (first | (with_reducible first | exact HB.out | apply below_alloc | apply pw_below_drewN | apply below_drew1 | refine below_set ?_ GE116.out) | exact HB.out))); rintro e w22 ⟨rfl, hb⟩; have n0_ := Aside0.mk (blk_below (g := gb116) (o := .cells #[.bool ((rd_T44 l0 x7_1).f0), .string ((rd_T44 l0 x7_1).f1), .string ((rd_T44 l0 x7_1).f2)] 44 (0, 0)) (by (with_reducible repeat (first | refine blk_drewN ?_ _ | refine blk_drew ?_ | refine blk_alloc ?_ _)); exact BK116.out) hb); have n1_ := Aside0.mk (below_step (by repeat (first | (with_reducible first | exact HB.out | apply below_alloc | apply pw_below_drewN | apply below_drew1 | refine below_set ?_ GE116.out) | exact HB.out)) hb); clear BK116; clear HB; have BK116 := n0_; have HB := n1_; clear n0_ n1_; (try clear hb); (try clear hb2); (try clear hk); (try clear hi)))
         go_roundg k1
         case measure => have := HK1.out; omega
         case rel => exact ⟨(wrap64 (x7_1 + 1)), (by first | rfl | (simp; done) | (simp [*]; done)), H', ⟨by have := HK1.out; omega⟩, ⟨by repeat (first | (with_reducible first | exact HB.out | apply below_alloc | apply pw_below_drewN | apply below_drew1 | refine below_set ?_ GE116.out) | exact HB.out)⟩⟩
        ·
         replace c17 := Bool.eq_false_iff.mpr c17
         subst c17
         have H1 : (some false) = some r := by rw [if_neg (show ¬ (false = true) by decide)] at H; exact H
         clear H
         have H := H1
         clear H1
         obtain rfl := Option.some.inj H
         have p115 : 0 ≤ (x7_1 : Int) := of_decide_eq_true (by first | (with_reducible assumption) | assumption)
         have q115 : x7_1 < (l0.length : Int) := of_decide_eq_true (by first | (with_reducible assumption) | assumption)
         obtain ⟨ad115, e115, hx115_0, hx115_1, hx115_2⟩ := at_T44 HR0.out x7_1 p115 q115
         cases e115
         replace hx115_0 := (HB.out.cell (World.block_lt_of_cell? w _ hx115_0)).trans hx115_0
         replace hx115_1 := (HB.out.cell (World.block_lt_of_cell? w _ hx115_1)).trans hx115_1
         replace hx115_2 := (HB.out.cell (World.block_lt_of_cell? w _ hx115_2)).trans hx115_2
         replace p115 := eq_true p115
         replace q115 := eq_true q115
         go_wp2_with (first | ((with_reducible refine gate_dst (N := 4) rfl ?_); refine box_event ?hg (N := 4) ?hd (cs := #[.bool false, .string (⟨#[]⟩ : ByteArray), .string (⟨#[]⟩ : ByteArray)]) (t := 44) ?hr ?_; (case hd => rfl); (case hg => rfl); (case hr => first | (go_simp; done) | (go_simp; rfl)); intro gb116 hg w23 hbox hb; have n0_ := Aside0.mk (below_step (by repeat (first | (with_reducible first | exact HB.out | apply below_alloc | apply pw_below_drewN | apply below_drew1) | exact HB.out)) hb); have n1_ := Aside0.mk (hbox); have n2_ := Aside0.mk ((by rw [hg]; exact (below_size (by repeat (first | (with_reducible first | exact HB.out | apply below_alloc | apply pw_below_drewN | apply below_drew1) | exact HB.out))) : w.heap.size ≤ gb116)); have n3_ := Aside0.mk ((by rw [hg]; exact (below_size (by repeat (first | (with_reducible first | exact HB.out | apply below_alloc | apply pw_below_drewN | apply below_drew1) | exact HB.out))) : w.heap.size ≤ gb116)); clear HB; have HB := n0_; have BK116 := n1_; have GW116 := n2_; have GE116 := n3_; clear n0_ n1_ n2_ n3_; clear hb hbox hg; obtain ⟨hcz24_0, hcz24_1, hcz24_2⟩ := cl_3 (.bool false) (.string (⟨#[]⟩ : ByteArray)) (.string (⟨#[]⟩ : ByteArray)) BK116.out; obtain ⟨hfz24_0, hfz24_1, hfz24_2⟩ := fz_3 BK116.out) | (go_at_call 51; (with_reducible refine (acl_known.calls ((rd_T44 l0 x7_1).f1) true _ A14.out).mono ?_); rintro e w25 ⟨rfl, hb⟩; have n0_ := Aside0.mk (blk_below (g := gb116) (o := .cells #[.bool ((rd_T44 l0 x7_1).f0), .string ((rd_T44 l0 x7_1).f1), .string ((rd_T44 l0 x7_1).f2)] 44 (0, 0)) (by (with_reducible repeat (first | refine blk_drewN ?_ _ | refine blk_drew ?_ | refine blk_alloc ?_ _)); refine blk_put (cs := #[.bool ((rd_T44 l0 x7_1).f0), .string ((rd_T44 l0 x7_1).f1), .string (⟨#[]⟩ : ByteArray)]) ?_ 2 _ rfl; (with_reducible repeat (first | refine blk_drewN ?_ _ | refine blk_drew ?_ | refine blk_alloc ?_ _)); refine blk_put (cs := #[.bool ((rd_T44 l0 x7_1).f0), .string (⟨#[]⟩ : ByteArray), .string (⟨#[]⟩ : ByteArray)]) ?_ 1 _ rfl; (with_reducible repeat (first | refine blk_drewN ?_ _ | refine blk_drew ?_ | refine blk_alloc ?_ _)); refine blk_put (cs := #[.bool false, .string (⟨#[]⟩ : ByteArray), .string (⟨#[]⟩ : ByteArray)]) ?_ 0 _ rfl; (with_reducible repeat (first | refine blk_drewN ?_ _ | refine blk_drew ?_ | refine blk_alloc ?_ _)); exact BK116.out) hb); have n1_ := Aside0.mk (below_step (by repeat (first | (with_reducible first | exact HB.out | apply below_alloc | apply pw_below_drewN | apply below_drew1 | refine below_set ?_ GE116.out) | exact HB.out)) hb); clear BK116; clear HB; have BK116 := n0_; have HB := n1_; clear n0_ n1_; (try clear hb); (try clear hb2); (try clear hk); (try clear hi); obtain ⟨hcz26_0, hcz26_1, hcz26_2⟩ := cl_3 (.bool ((rd_T44 l0 x7_1).f0)) (.string ((rd_T44 l0 x7_1).f1)) (.string ((rd_T44 l0 x7_1).f2)) BK116.out; obtain ⟨hfz26_0, hfz26_1, hfz26_2⟩ := fz_3 BK116.out) | (go_at_call 52; (with_reducible refine (path_May.calls ((rd_T44 l0 x7_1).f2) false _ ?side1 A16.out).mono ?_); (case side1 => exact HMET.out.below (by repeat (first | (with_reducible first | exact HB.out | apply below_alloc | apply pw_below_drewN | apply below_drew1 | refine below_set ?_ GE116.out) | exact HB.out))); rintro e w27 ⟨rfl, hb⟩; have n0_ := Aside0.mk (blk_below (g := gb116) (o := .cells #[.bool ((rd_T44 l0 x7_1).f0), .string ((rd_T44 l0 x7_1).f1), .string ((rd_T44 l0 x7_1).f2)] 44 (0, 0)) (by (with_reducible repeat (first | refine blk_drewN ?_ _ | refine blk_drew ?_ | refine blk_alloc ?_ _)); exact BK116.out) hb); have n1_ := Aside0.mk (below_step (by repeat (first | (with_reducible first | exact HB.out | apply below_alloc | apply pw_below_drewN | apply below_drew1 | refine below_set ?_ GE116.out) | exact HB.out)) hb); clear BK116; clear HB; have BK116 := n0_; have HB := n1_; clear n0_ n1_; (try clear hb); (try clear hb2); (try clear hk); (try clear hi)))
         go_ret
         exact ⟨by first | rfl | (simp [errW_none, errW_some] <;> rfl) | (simp [*, errW_none, errW_some] <;> rfl), by repeat (first | (with_reducible first | exact HB.out | apply below_alloc | apply pw_below_drewN | apply below_drew1 | refine below_set ?_ GE116.out) | exact HB.out)⟩
       ·
        replace c15 := Bool.eq_false_iff.mpr c15
        subst c15
        have H1 : (some false) = some r := by rw [if_neg (show ¬ (false = true) by decide)] at H; exact H
        clear H
        have H := H1
        clear H1
        obtain rfl := Option.some.inj H
        have p115 : 0 ≤ (x7_1 : Int) := of_decide_eq_true (by first | (with_reducible assumption) | assumption)
        have q115 : x7_1 < (l0.length : Int) := of_decide_eq_true (by first | (with_reducible assumption) | assumption)
        obtain ⟨ad115, e115, hx115_0, hx115_1, hx115_2⟩ := at_T44 HR0.out x7_1 p115 q115
        cases e115
        replace hx115_0 := (HB.out.cell (World.block_lt_of_cell? w _ hx115_0)).trans hx115_0
        replace hx115_1 := (HB.out.cell (World.block_lt_of_cell? w _ hx115_1)).trans hx115_1
        replace hx115_2 := (HB.out.cell (World.block_lt_of_cell? w _ hx115_2)).trans hx115_2
        replace p115 := eq_true p115
        replace q115 := eq_true q115
        go_wp2_with (first | ((with_reducible refine gate_dst (N := 4) rfl ?_); refine box_event ?hg (N := 4) ?hd (cs := #[.bool false, .string (⟨#[]⟩ : ByteArray), .string (⟨#[]⟩ : ByteArray)]) (t := 44) ?hr ?_; (case hd => rfl); (case hg => rfl); (case hr => first | (go_simp; done) | (go_simp; rfl)); intro gb116 hg w28 hbox hb; have n0_ := Aside0.mk (below_step (by repeat (first | (with_reducible first | exact HB.out | apply below_alloc | apply pw_below_drewN | apply below_drew1) | exact HB.out)) hb); have n1_ := Aside0.mk (hbox); have n2_ := Aside0.mk ((by rw [hg]; exact (below_size (by repeat (first | (with_reducible first | exact HB.out | apply below_alloc | apply pw_below_drewN | apply below_drew1) | exact HB.out))) : w.heap.size ≤ gb116)); have n3_ := Aside0.mk ((by rw [hg]; exact (below_size (by repeat (first | (with_reducible first | exact HB.out | apply below_alloc | apply pw_below_drewN | apply below_drew1) | exact HB.out))) : w.heap.size ≤ gb116)); clear HB; have HB := n0_; have BK116 := n1_; have GW116 := n2_; have GE116 := n3_; clear n0_ n1_ n2_ n3_; clear hb hbox hg; obtain ⟨hcz29_0, hcz29_1, hcz29_2⟩ := cl_3 (.bool false) (.string (⟨#[]⟩ : ByteArray)) (.string (⟨#[]⟩ : ByteArray)) BK116.out; obtain ⟨hfz29_0, hfz29_1, hfz29_2⟩ := fz_3 BK116.out) | (go_at_call 51; (with_reducible refine (acl_known.calls ((rd_T44 l0 x7_1).f1) false _ A14.out).mono ?_); rintro e w30 ⟨rfl, hb⟩; have n0_ := Aside0.mk (blk_below (g := gb116) (o := .cells #[.bool ((rd_T44 l0 x7_1).f0), .string ((rd_T44 l0 x7_1).f1), .string ((rd_T44 l0 x7_1).f2)] 44 (0, 0)) (by (with_reducible repeat (first | refine blk_drewN ?_ _ | refine blk_drew ?_ | refine blk_alloc ?_ _)); refine blk_put (cs := #[.bool ((rd_T44 l0 x7_1).f0), .string ((rd_T44 l0 x7_1).f1), .string (⟨#[]⟩ : ByteArray)]) ?_ 2 _ rfl; (with_reducible repeat (first | refine blk_drewN ?_ _ | refine blk_drew ?_ | refine blk_alloc ?_ _)); refine blk_put (cs := #[.bool ((rd_T44 l0 x7_1).f0), .string (⟨#[]⟩ : ByteArray), .string (⟨#[]⟩ : ByteArray)]) ?_ 1 _ rfl; (with_reducible repeat (first | refine blk_drewN ?_ _ | refine blk_drew ?_ | refine blk_alloc ?_ _)); refine blk_put (cs := #[.bool false, .string (⟨#[]⟩ : ByteArray), .string (⟨#[]⟩ : ByteArray)]) ?_ 0 _ rfl; (with_reducible repeat (first | refine blk_drewN ?_ _ | refine blk_drew ?_ | refine blk_alloc ?_ _)); exact BK116.out) hb); have n1_ := Aside0.mk (below_step (by repeat (first | (with_reducible first | exact HB.out | apply below_alloc | apply pw_below_drewN | apply below_drew1 | refine below_set ?_ GE116.out) | exact HB.out)) hb); clear BK116; clear HB; have BK116 := n0_; have HB := n1_; clear n0_ n1_; (try clear hb); (try clear hb2); (try clear hk); (try clear hi)))
        go_ret
        exact ⟨by first | rfl | (simp [errW_none, errW_some] <;> rfl) | (simp [*, errW_none, errW_some] <;> rfl), by repeat (first | (with_reducible first | exact HB.out | apply below_alloc | apply pw_below_drewN | apply below_drew1 | refine below_set ?_ GE116.out) | exact HB.out)⟩
     ·
      rw [if_neg c4] at H
      exact absurd H (by simp)
    ·
     rw [if_neg c3] at H
     exact absurd H (by simp)
   ·
    rw [if_neg c2] at H
    have c2b0 : decide (x7_1 < (l0.length : Int)) = false := decide_eq_false c2
    clear c2
    obtain rfl := Option.some.inj H
    go_wp2
    go_ret
    exact ⟨by first | rfl | (simp [errW_none, errW_some] <;> rfl) | (simp [*, errW_none, errW_some] <;> rfl), by repeat (first | (with_reducible first | exact HB.out | apply below_alloc | apply pw_below_drewN | apply below_drew1) | exact HB.out)⟩

end Go.Proofs.YtajaedebndeajaaDoor.Q

namespace Go.Proofs.YtajaedebndeajaaDoor.Q
open Go.RowKit Go.Proofs.YtajaedebndeajaaDoor.AclMet Go.Proofs.YtajaedebndeajaaDoorW.PrintWords Go.Proofs.YtajaedebndeajaaDoorW.PrintLast Go.Proofs.YtajaedebndeajaaDoorW.PrintMore
attribute [local go_sem] max2_int min2_int max_two min_two max_three min_three max_four min_four   -- for this text's walks alone
set_option linter.unusedVariables false
set_option linter.unusedSimpArgs false

/-! ### wharfingerref11_May: function 33 -/
end Go.Proofs.YtajaedebndeajaaDoor.Q

namespace Go.Proofs.YtajaedebndeajaaDoor.Pure
open Go Go.RowKit Go.Proofs.YtajaedebndeajaaDoor.Q Go.Proofs.YtajaedebndeajaaDoor.Quad Go.Proofs.YtajaedebndeajaaDoorW.PrintWords Go.Proofs.YtajaedebndeajaaDoorW.PrintLast Go.Proofs.YtajaedebndeajaaDoorW.PrintMore
set_option linter.unusedVariables false
set_option linter.unusedSimpArgs false

theorem wrap_up {i : Nat} (h : i < 1000000000) : wrap64 ((i : Int) + 1) = ((i + 1 : Nat) : Int) := by unfold wrap64; omega
/-- What a look-up answers. -/
def foundV : Option S88 → ByteArray × Int × Int × Bool × Bool
  | some v => (v.f0, v.f1, v.f2, v.f3, true)
  | none => (⟨#[]⟩, 0, 0, false, false)
theorem rd_rule (l : List S44) (i : Nat) (h : i < l.length) : rd_T44 l (i : Int) = l[i] := by
  rw [rd_T44, Int.toNat_natCast, List.getD_eq_getElem?_getD, List.getElem?_eq_getElem h]; rfl
theorem verb_find (s : ByteArray) (hs : s.size ≤ 1000000) : verb_Find.f s = some (foundV (findV s.data.toList)) := by
  rw [verb_Find.f, if_pos hs]
  cases findV s.data.toList <;> rfl
/-- Is a text a verb's name? -/
def knownS (s : ByteArray) : Bool := (foundV (findV s.data.toList)).2.2.2.2 && ((foundV (findV s.data.toList)).1.toList == s.toList)
theorem known_is (s : ByteArray) (hs : s.size ≤ 1000000) : acl_known.f s = some (knownS s) := by
  rw [acl_known.f, verb_find s hs, knownS]
  simp only [Option.bind_some]
  cases (foundV (findV s.data.toList)).2.2.2.2 <;> rfl
def okS (x : S44) : Bool := (x.f1.toList == [] || knownS x.f1) && PathP.may x.f2.data.toList
def mayS (l : List S44) : Bool := l.all okS && decide (l.length ≤ 8)
def okL (l : List S44) : Prop := l.length ≤ 1000000 ∧ ∀ x ∈ l, x.f1.size ≤ 1000000 ∧ x.f2.size ≤ 1000000
theorem path_may_is (s : ByteArray) (hs : s.size ≤ 1000000) : path_May.f s = some (PathP.may s.data.toList) := if_pos hs
theorem may_l0 (l : List S44) (hl : okL l) : ∀ d i : Nat, i + d = l.length → Ev (fun k => acl_May.l0 k l l (l.length : Int) (i : Int)) ((l.drop i).all okS && decide (l.length ≤ 8)) := by
  have hl6 := hl.1
  intro d
  induction d with
  | zero =>
    intro i hi
    refine Ev.step (f := fun _ => some (decide (l.length ≤ 8))) (fun k => ?_) (by rw [List.drop_of_length_le (by omega)]; exact Ev.now _)
    simp only [acl_May.l0]
    rw [if_neg (by omega)]
    congr 1
    rw [Bool.eq_iff_iff, decide_eq_true_iff, decide_eq_true_iff]; omega
  | succ d ih =>
    intro i hi
    have hlt : i < l.length := by omega
    have hx := hl.2 l[i] (List.getElem_mem _)
    rw [List.drop_eq_getElem_cons hlt, List.all_cons]
    have hst : ∀ k, acl_May.l0 (k + 1) l l (l.length : Int) (i : Int) = if okS l[i] = true then acl_May.l0 k l l (l.length : Int) ((i + 1 : Nat) : Int) else some false := fun k => by
      simp only [acl_May.l0]
      rw [if_pos (by omega), if_pos (by omega), if_pos (by omega), rd_rule l i hlt, wrap_up (by omega), path_may_is _ hx.2, known_is _ hx.1, okS]
      simp only [Option.bind_some]
      by_cases h1 : (l[i]).f1.toList = []
      · rw [if_pos h1, show ((l[i]).f1.toList == []) = true from by simpa using h1]
        cases PathP.may (l[i]).f2.data.toList <;> rfl
      · rw [if_neg h1, show ((l[i]).f1.toList == []) = false from beq_eq_false_iff_ne.2 h1]
        cases knownS (l[i]).f1 <;> cases PathP.may (l[i]).f2.data.toList <;> rfl
    cases h : okS l[i]
    · refine Ev.step (f := fun _ => some false) (fun k => ?_) (Ev.now _)
      rw [hst, h]; rfl
    · refine Ev.step (fun k => ?_) (ih (i + 1) (by omega))
      rw [hst, h]; rfl
theorem may_ev (l : List S44) (hl : okL l) : Ev (fun k => acl_May.f k l) (mayS l) := by
  have := may_l0 l hl l.length 0 (by omega)
  rwa [List.drop_zero] at this
/-! ### which rule tells -/
end Go.Proofs.YtajaedebndeajaaDoor.Pure

namespace Go.Proofs.YtajaedebndeajaaDoor.Q
open Go Go.RowKit Go.Proofs.YtajaedebndeajaaDoorW.PrintWords Go.Proofs.YtajaedebndeajaaDoorW.PrintLast Go.Proofs.YtajaedebndeajaaDoorW.PrintMore Go.Proofs.YtajaedebndeajaaDoor.AclMet
set_option linter.unusedVariables false
set_option linter.unusedSimpArgs false

theorem drawn_same (w : World) : Drawn0 w w := Drawn0.refl w
def strings_IndexByte.f (a0 : ByteArray) (a1 : Int) : Option Int := some (Lib.indexByte a0.data.toList a1.toNat.toUInt8)
theorem strings_IndexByte.calls (a0 : ByteArray) (a1 : Int) (r : Int) (w : World) (h : strings_IndexByte.f a0 a1 = some r) :
    Calls Tryd.prog 48 #[.string a0, .int .u8 a1] w fun e w' => e = .returned (.int .i64 r) ∧ Drawn0 w w' := by
  obtain rfl := Option.some.inj h
  exact (Tryd.strings_IndexByte a0 a1 w).mono fun e w' ⟨he, hw⟩ => ⟨he, hw ▸ drawn_same w⟩
def strings_Contains.f (a0 a1 : ByteArray) : Option Bool := match a1.data.toList with
  | [c] => some (decide (0 ≤ Lib.indexByte a0.data.toList c))
  | _ => none
theorem strings_Contains.calls (a0 a1 : ByteArray) (r : Bool) (w : World) (h : strings_Contains.f a0 a1 = some r) :
    Calls Tryd.prog 47 #[.string a0, .string a1] w fun e w' => e = .returned (.bool r) ∧ Drawn0 w w' := by
  unfold strings_Contains.f at h
  split at h
  · rename_i c hc
    obtain rfl := Option.some.inj h
    have e1 : a1 = ⟨#[c]⟩ := by apply ByteArray.ext; apply Array.ext'; exact hc
    subst e1
    exact (Tryd.strings_Contains_one a0 c w).mono fun e w' ⟨he, hw⟩ => ⟨he, hw ▸ drawn_same w⟩
  · cases h
end Go.Proofs.YtajaedebndeajaaDoor.Q

namespace Go.Proofs.YtajaedebndeajaaDoor.Q
open Go Go.RowKit Go.Proofs.YtajaedebndeajaaDoorW.PrintWords Go.Proofs.YtajaedebndeajaaDoorW.PrintLast Go.Proofs.YtajaedebndeajaaDoorW.PrintMore Go.Proofs.YtajaedebndeajaaDoor.AclMet
set_option linter.unusedVariables false
set_option linter.unusedSimpArgs false

def isHost (host : ByteArray) (x : S40) : Bool := x.f1.toList == host.toList
def findI (l : List S40) (host : ByteArray) : Int := match l.findIdx? (isHost host) with
  | some i => (i : Int)
  | none => -1
theorem findI_hit {l : List S40} {host : ByteArray} {k : Nat} (h : ∀ x ∈ l.take k, isHost host x = false) (hk : k < l.length) (hx : isHost host l[k] = true) : findI l host = k := by
  have e : l.findIdx? (isHost host) = some k := by
    rw [List.findIdx?_eq_some_iff_getElem]
    refine ⟨hk, hx, fun j hj => ?_⟩
    rw [h l[j] (List.mem_take_iff_getElem.2 ⟨j, by omega, rfl⟩)]
    exact Bool.false_ne_true
  rw [findI, e]
theorem findI_none {l : List S40} {host : ByteArray} (h : ∀ x ∈ l, isHost host x = false) : findI l host = -1 := by
  have e : l.findIdx? (isHost host) = none := List.findIdx?_eq_none_iff.2 h
  rw [findI, e]
theorem nohost_more {l : List S40} {host : ByteArray} {k : Nat} (h : ∀ x ∈ l.take k, isHost host x = false) (hk : k < l.length) (hx : isHost host l[k] = false) : ∀ x ∈ l.take (k + 1), isHost host x = false := by
  intro x hm
  rw [List.take_succ_eq_append_getElem hk, List.mem_append, List.mem_singleton] at hm
  rcases hm with hm | rfl
  · exact h x hm
  · exact hx
theorem find1_calls (n h : ByteArray) (x0 x1 x2 x3 x4 x5 x6 : Int) (A : Option Addr) (len c : Nat) (x7 x8 x9 x10 : Int) (host : ByteArray) (B : Addr) (w : World) (hn : w.cell? B = some (.string host)) :
    Calls Tryd.prog 50 #[.agg #[.string n, .string h, .int .u8 x0, .int .u8 x1, .int .u8 x2, .int .u8 x3, .int .i64 x4, .int .i64 x5, .int .i64 x6, .slice A len c, .int .i64 x7, .int .i64 x8, .int .i64 x9, .int .i64 x10], .pointer (some B)] w fun e w' => e = .returned (.bool (h.toList == host.toList)) ∧ Below w.heap.size w w' := by
  have hn2 : ∀ o, (w.alloc o).cell? B = some (.string host) := fun o => (((Below.refl w.heap.size w).alloc (Nat.le_refl _) o).cell (World.block_lt_of_cell? w _ hn)).trans hn
  have HB := Aside0.mk (fun o => (Below.refl w.heap.size w).alloc (Nat.le_refl _) o)
  clear hn
  go_enter Tryd.func50, Tryd.ntmps50
  go_wp2
  go_ret
  exact ⟨rfl, HB.out _⟩
set_option maxHeartbeats 2000000 in
set_option maxRecDepth 100000 in
theorem indexFunc_calls (A0 : Option Addr) (c0 : Nat) (l0 : List S40) (host : ByteArray) (B : Nat) (w : World) (hr : Kd.C k40 w A0 l0.length l0) (hB : B < w.heap.size) (hh : w.heap[B]? = some (.cells #[.string host] 9 (0, 0))) (hs : l0.length ≤ 1000000) :
    Calls Tryd.prog 49 #[.slice A0 l0.length c0, .func (.func 50) #[] #[.pointer (some ⟨B, 0, none⟩)]] w fun e w' => e = .returned (.int .i64 (findI l0 host)) ∧ Below w.heap.size w w' := by
  have HR := Aside0.mk hr
  have HH := Aside0.mk hh
  clear hr hh
  go_enter Tryd.func49, Tryd.ntmps49
  go_wp2
  go_loopw [8] (fun i wr => ∃ k : Nat, k ≤ l0.length ∧ i = .int .i64 k ∧ Aside0 (∀ x ∈ l0.take k, isHost host x = false) ∧ Aside0 (Below w.heap.size w wr)) (fun i _ => l0.length - (intOf i).toNat)
  case atStart => exact ⟨0, Nat.zero_le _, rfl, ⟨by simp⟩, ⟨Below.refl _ _⟩⟩
  case round =>
    obtain ⟨k, hk, rfl, HN, HB⟩ := hrel
    by_cases hlt : k < l0.length
    · have hC := Kd.C_below HR.out HB.out
      obtain ⟨ad, A9, c9, e, x0, x1, x2, x3, x4, x5, x6, x7, x8, x9, x10, x11, x12, x13, _⟩ := at_T40 hC (k : Int) (by omega) (by omega)
      have hv : rd_T40 l0 (k : Int) = l0[k] := by
        rw [rd_T40, Int.toNat_natCast, List.getD_eq_getElem?_getD, List.getElem?_eq_getElem hlt]; rfl
      obtain ⟨x, hx⟩ : ∃ x, x = rd_T40 l0 (k : Int) := ⟨_, rfl⟩
      rw [← hx] at x0 x1 x2 x3 x4 x5 x6 x7 x8 x9 x10 x11 x12 x13 hv
      subst e
      simp only [Int.toNat_natCast] at x0 x1 x2 x3 x4 x5 x6 x7 x8 x9 x10 x11 x12 x13
      clear hC hx
      obtain ⟨b, hb⟩ : ∃ b, b = (x.f1.toList == host.toList) := ⟨_, rfl⟩
      have HT := Aside0.mk (show isHost host l0[k] = b from by rw [← hv, hb]; rfl)
      have HV := Aside0.mk hb
      clear hb hv
      cases b
      · go_wp2_with (go_at_call 50; with_reducible refine (find1_calls _ _ _ _ _ _ _ _ _ _ _ _ _ _ _ _ host _ _ ((blk_cell (blk_below HH.out HB.out) 0).trans rfl)).mono ?_; rintro e w1 ⟨rfl, hb⟩; have HE := Aside0.mk hb; clear hb; rw [← HV.out])
        go_roundw
        case rel => exact ⟨k + 1, by omega, by go_num, ⟨nohost_more HN.out hlt HT.out⟩, ⟨HB.out.trans (HE.out.mono HB.out.size)⟩⟩
        case measure => simp [intOf]; omega
      · go_wp2_with (go_at_call 50; with_reducible refine (find1_calls _ _ _ _ _ _ _ _ _ _ _ _ _ _ _ _ host _ _ ((blk_cell (blk_below HH.out HB.out) 0).trans rfl)).mono ?_; rintro e w1 ⟨rfl, hb⟩; have HE := Aside0.mk hb; clear hb; rw [← HV.out])
        try rw [Exit.noGoto_ret]
        go_ret
        exact ⟨by rw [findI_hit HN.out hlt HT.out]; rfl, HB.out.trans (HE.out.mono HB.out.size)⟩
    · obtain rfl : k = l0.length := by omega
      have HNN := Aside0.mk (findI_none (l := l0) (host := host) (by have := HN.out; rwa [List.take_length] at this))
      go_wp2
      try rw [Exit.noGoto_ret]
      go_ret
      exact ⟨by rw [HNN.out]; rfl, HB.out⟩
def route_Find.f (l0 : List S40) (a1 : ByteArray) : Option Int := if l0.length ≤ 1000000 then some (findI l0 a1) else none
theorem route_Find.calls (A0 : Option Addr) (c0 : Nat) (l0 : List S40) (a1 : ByteArray) (r : Int) (w : World) (hr0 : Kd.C k40 w A0 l0.length l0) (hc0 : l0.length ≤ c0) (h : route_Find.f l0 a1 = some r) :
    Calls Tryd.prog 37 #[.slice A0 l0.length c0, .string a1] w fun e w' => e = .returned (.int .i64 r) ∧ Below w.heap.size w w' := by
  unfold route_Find.f at h
  split at h
  · rename_i hs
    obtain rfl := Option.some.inj h
    have HC := indexFunc_calls A0 c0 l0 a1 w.heap.size (w.alloc (.cells #[.string a1] 9)) (Kd.C_alloc hr0 _) (by simp) (blk_new _ _) hs
    have HB := Aside0.mk (fun o => (Below.refl w.heap.size w).alloc (Nat.le_refl _) o)
    obtain ⟨v, hv⟩ : ∃ v, v = findI l0 a1 := ⟨_, rfl⟩
    rw [← hv] at HC ⊢
    clear hr0 hv
    go_enter Tryd.func37, Tryd.ntmps37
    go_wp2_with (go_at_call 49; refine HC.mono ?_; rintro e w1 ⟨rfl, hb⟩; have HE := Aside0.mk hb; clear hb)
    go_ret
    exact ⟨rfl, (HB.out _).trans (HE.out.mono (HB.out _).size)⟩
  · cases h
end Go.Proofs.YtajaedebndeajaaDoor.Q

namespace Go.Proofs.YtajaedebndeajaaDoor.Q
open Go.RowKit Go.Proofs.YtajaedebndeajaaDoor.AclMet Go.Proofs.YtajaedebndeajaaDoorW.PrintWords Go.Proofs.YtajaedebndeajaaDoorW.PrintLast Go.Proofs.YtajaedebndeajaaDoorW.PrintMore
attribute [local go_sem] max2_int min2_int max_two min_two max_three min_three max_four min_four   -- for this text's walks alone
set_option linter.unusedVariables false
set_option linter.unusedSimpArgs false

/-! ### conf_in: function 22 -/
def conf_in.f (a0 : Int) (a1 : Int) (a2 : Int) : Option (Bool) := if a0 ≥ a1 then (some (decide (a0 ≤ a2))) else (some false)
set_option maxHeartbeats 8000000 in
set_option maxRecDepth 100000 in
theorem conf_in.calls (a0 : Int) (a1 : Int) (a2 : Int) (r : Bool) (w : World) (h : conf_in.f a0 a1 a2 = some r) :
  Calls Tryd.prog 22 #[.int .i64 a0, .int .i64 a1, .int .i64 a2] w fun e w' => e = .returned (.bool r) ∧ Drawn0 w w' := by
 have H : (if a0 ≥ a1 then (some (decide (a0 ≤ a2))) else (some false)) = some r := h
 clear h
 by_cases c4 : a0 ≥ a1
 ·
  rw [if_pos c4] at H
  have c4b0 : decide (a1 ≤ a0) = true := decide_eq_true c4
  clear c4
  obtain rfl := Option.some.inj H
  go_enter Tryd.func22, Tryd.ntmps22
  go_wp2
  go_ret
  exact ⟨by first | rfl | (simp; done) | (simp [*]; done), by repeat (first | exact Drawn0.refl _ | apply Drawn0.step)⟩
 ·
  rw [if_neg c4] at H
  have c4b0 : decide (a1 ≤ a0) = false := decide_eq_false c4
  clear c4
  obtain rfl := Option.some.inj H
  go_enter Tryd.func22, Tryd.ntmps22
  go_wp2
  go_ret
  exact ⟨by first | rfl | (simp; done) | (simp [*]; done), by repeat (first | exact Drawn0.refl _ | apply Drawn0.step)⟩

end Go.Proofs.YtajaedebndeajaaDoor.Q

namespace Go.Proofs.YtajaedebndeajaaDoor.Q
open Go.RowKit Go.Proofs.YtajaedebndeajaaDoor.AclMet Go.Proofs.YtajaedebndeajaaDoorW.PrintWords Go.Proofs.YtajaedebndeajaaDoorW.PrintLast Go.Proofs.YtajaedebndeajaaDoorW.PrintMore
attribute [local go_sem] max2_int min2_int max_two min_two max_three min_three max_four min_four   -- for this text's walks alone
set_option linter.unusedVariables false
set_option linter.unusedSimpArgs false

/-! ### route_long: function 45 -/
def route_long.f (a0 : ByteArray) : Option (Bool) := if a0.toList = ([] : List UInt8) then (some false) else (some (decide ((a0.size : Int) ≤ 60)))
set_option maxHeartbeats 8000000 in
set_option maxRecDepth 100000 in
theorem route_long.calls (a0 : ByteArray) (r : Bool) (w : World) (h : route_long.f a0 = some r) :
  Calls Tryd.prog 45 #[.string a0] w fun e w' => e = .returned (.bool r) ∧ Drawn0 w w' := by
 have H : (if a0.toList = ([] : List UInt8) then (some false) else (some (decide ((a0.size : Int) ≤ 60)))) = some r := h
 clear h
 by_cases c2 : a0.toList = ([] : List UInt8)
 ·
  rw [if_pos c2] at H
  have c2b0 : (a0.toList == ([] : List UInt8)) = true := beq_iff_eq.mpr c2
  have c2b1 : (a0.toList != ([] : List UInt8)) = false := bne_eq_false_iff_eq.mpr c2
  clear c2
  obtain rfl := Option.some.inj H
  go_enter Tryd.func45, Tryd.ntmps45
  go_wp2
  go_ret
  exact ⟨by first | rfl | (simp; done) | (simp [*]; done), by repeat (first | exact Drawn0.refl _ | apply Drawn0.step)⟩
 ·
  rw [if_neg c2] at H
  have c2b0 : (a0.toList == ([] : List UInt8)) = false := beq_eq_false_iff_ne.mpr c2
  have c2b1 : (a0.toList != ([] : List UInt8)) = true := bne_iff_ne.mpr c2
  obtain rfl := Option.some.inj H
  go_enter Tryd.func45, Tryd.ntmps45
  go_wp2
  go_ret
  exact ⟨by first | rfl | (simp; done) | (simp [*]; done), by repeat (first | exact Drawn0.refl _ | apply Drawn0.step)⟩

end Go.Proofs.YtajaedebndeajaaDoor.Q

namespace Go.Proofs.YtajaedebndeajaaDoor.Q
open Go.RowKit Go.Proofs.YtajaedebndeajaaDoor.AclMet Go.Proofs.YtajaedebndeajaaDoorW.PrintWords Go.Proofs.YtajaedebndeajaaDoorW.PrintLast Go.Proofs.YtajaedebndeajaaDoorW.PrintMore
attribute [local go_sem] max2_int min2_int max_two min_two max_three min_three max_four min_four   -- for this text's walks alone
set_option linter.unusedVariables false
set_option linter.unusedSimpArgs false

/-! ### route_Name: function 36 -/
def route_Name.l0 : Nat → ByteArray → Int → Int → Option (Bool)
 | 0, _, _, _ => none
 | k + 1, x0, x5, x6 => if x6 < x5 then (if 0 ≤ x6 then (if x6 < (x0.size : Int) then ((strings_IndexByte.f (⟨#[97, 98, 99, 100, 101, 102, 103, 104, 105, 106, 107, 108, 109, 110, 111, 112, 113, 114, 115, 116, 117, 118, 119, 120, 121, 122, 48, 49, 50, 51, 52, 53, 54, 55, 56, 57, 46, 45]⟩ : ByteArray) (bt x0 x6)).bind fun t106 => (if t106 < 0 then (some false) else (route_Name.l0 k x0 x5 (wrap64 (x6 + 1))))) else (none)) else (none)) else ((route_long.f x0).bind fun t107 => (some t107))
def route_Name.f (k : Nat) (a0 : ByteArray) : Option (Bool) := route_Name.l0 k a0 (a0.size : Int) 0
theorem route_Name.mono_l : ∀ k, (∀ y0 y1 y2, LeO (route_Name.l0 k y0 y1 y2) (route_Name.l0 (k + 1) y0 y1 y2))
 | 0 => fun _ _ _ r h => by simp [route_Name.l0] at h
 | k + 1 => by
  have ih0 := route_Name.mono_l k
  ·
   intro y0 y1 y2
   unfold route_Name.l0
   repeat' first
   | (with_reducible exact ih0 _ _ _)
   | (with_reducible exact LeO.refl _)
   | (with_reducible exact LeO.none _)
   | (with_reducible refine LeO.ite ?_ ?_)
   | (with_reducible refine LeO.bind ?_ (fun _ => ?_))
   | exact ih0 _ _ _
   | exact LeO.none _
   | refine LeO.ite ?_ ?_
   | refine LeO.bind ?_ (fun _ => ?_)
theorem route_Name.mono : ∀ a0 k, LeO (route_Name.f k a0) (route_Name.f (k + 1) a0) := by
 intro a0 k
 have ih0 := route_Name.mono_l k
 unfold route_Name.f
 repeat' first
   | (with_reducible exact ih0 _ _ _)
   | (with_reducible exact LeO.refl _)
   | (with_reducible exact LeO.none _)
   | (with_reducible refine LeO.ite ?_ ?_)
   | (with_reducible refine LeO.bind ?_ (fun _ => ?_))
   | exact ih0 _ _ _
   | exact LeO.none _
   | refine LeO.ite ?_ ?_
   | refine LeO.bind ?_ (fun _ => ?_)
set_option maxHeartbeats 8000000 in
set_option maxRecDepth 100000 in
theorem route_Name.calls (k : Nat) (a0 : ByteArray) (r : Bool) (w : World) (h : route_Name.f k a0 = some r) :
  Calls Tryd.prog 36 #[.string a0] w fun e w' => e = .returned (.bool r) ∧ Drawn0 w w' := by
 have H : (route_Name.l0 k a0 (a0.size : Int) 0) = some r := h
 clear h
 have H' := Aside0.mk H
 clear H
 go_enter Tryd.func36, Tryd.ntmps36
 go_wp2
 go_loopg [6] k (fun kq v6 w' => ∃ (x6_1 : Int), v6 = .int .i64 x6_1 ∧ Aside0 (route_Name.l0 kq a0 (a0.size : Int) x6_1 = some r) ∧ Aside0 (kq ≤ k) ∧ Drawn0 w w')
 case atStart => exact ⟨(0), (by first | rfl | (simp; done) | (simp [*]; done)), H', ⟨Nat.le_refl _⟩, by repeat (first | exact Drawn0.refl _ | apply Drawn0.step)⟩
 case round =>
  clear H'
  obtain ⟨x6_1, rfl, HA, HK1, ⟨m1, rfl⟩⟩ := hrel
  cases gk with
  | zero => exact absurd HA.out (by simp [route_Name.l0])
  | succ k1 =>
   have H := HA.out
   clear HA
   simp only [route_Name.l0] at H
   by_cases c2 : x6_1 < (a0.size : Int)
   ·
    rw [if_pos c2] at H
    have c2b0 : decide (x6_1 < (a0.size : Int)) = true := decide_eq_true c2
    clear c2
    by_cases c3 : 0 ≤ x6_1
    ·
     rw [if_pos c3] at H
     have c3b0 : decide (0 ≤ x6_1) = true := decide_eq_true c3
     clear c3
     by_cases c4 : x6_1 < (a0.size : Int)
     ·
      rw [if_pos c4] at H
      have c4b0 : decide (x6_1 < (a0.size : Int)) = true := decide_eq_true c4
      clear c4
      replace H := Option.bind_eq_some_iff.mp H
      obtain ⟨t106, A60, H⟩ := H
      replace H : (if t106 < 0 then (some false) else (route_Name.l0 k1 a0 (a0.size : Int) (wrap64 (x6_1 + 1)))) = some r := H
      have A6 := Aside0.mk A60
      clear A60
      by_cases c7 : t106 < 0
      ·
       rw [if_pos c7] at H
       have c7b0 : decide (t106 < 0) = true := decide_eq_true c7
       clear c7
       obtain rfl := Option.some.inj H
       have p5 : 0 ≤ (x6_1 : Int) := of_decide_eq_true (by first | (with_reducible assumption) | assumption)
       have q5 : x6_1 < (a0.size : Int) := of_decide_eq_true (by first | (with_reducible assumption) | assumption)
       have hx5 := bt_at a0 x6_1
       replace p5 := eq_true p5
       replace q5 := eq_true q5
       go_wp2_with (first | ((with_reducible refine gate_callee (f := 48) rfl ?_); refine goesL_ (some 12) rfl rfl Tryd.func48 (by kernel_rfl) rfl #[.string (⟨#[97, 98, 99, 100, 101, 102, 103, 104, 105, 106, 107, 108, 109, 110, 111, 112, 113, 114, 115, 116, 117, 118, 119, 120, 121, 122, 48, 49, 50, 51, 52, 53, 54, 55, 56, 57, 46, 45]⟩ : ByteArray), .int .u8 (bt a0 x6_1)] rfl (by (try simp only [List.map_toArray, List.map_cons, List.map_nil]); first | done | rfl | (simp only [List.length_drop, List.length_take]; rfl)) ?_; (with_reducible refine (strings_IndexByte.calls (⟨#[97, 98, 99, 100, 101, 102, 103, 104, 105, 106, 107, 108, 109, 110, 111, 112, 113, 114, 115, 116, 117, 118, 119, 120, 121, 122, 48, 49, 50, 51, 52, 53, 54, 55, 56, 57, 46, 45]⟩ : ByteArray) (bt a0 x6_1) t106 _ A6.out).mono ?_); rintro e w' ⟨rfl, ⟨nd, rfl⟩⟩; refine ⟨_, rfl, ?_⟩))
       go_ret
       exact ⟨by first | rfl | (simp; done) | (simp [*]; done), by repeat (first | exact Drawn0.refl _ | apply Drawn0.step)⟩
      ·
       rw [if_neg c7] at H
       have c7b0 : decide (t106 < 0) = false := decide_eq_false c7
       clear c7
       have H' := Aside0.mk H
       clear H
       have p5 : 0 ≤ (x6_1 : Int) := of_decide_eq_true (by first | (with_reducible assumption) | assumption)
       have q5 : x6_1 < (a0.size : Int) := of_decide_eq_true (by first | (with_reducible assumption) | assumption)
       have hx5 := bt_at a0 x6_1
       replace p5 := eq_true p5
       replace q5 := eq_true q5
       go_wp2_with (first | ((with_reducible refine gate_callee (f := 48) rfl ?_); refine goesL_ (some 12) rfl rfl Tryd.func48 (by kernel_rfl) rfl #[.string (⟨#[97, 98, 99, 100, 101, 102, 103, 104, 105, 106, 107, 108, 109, 110, 111, 112, 113, 114, 115, 116, 117, 118, 119, 120, 121, 122, 48, 49, 50, 51, 52, 53, 54, 55, 56, 57, 46, 45]⟩ : ByteArray), .int .u8 (bt a0 x6_1)] rfl (by (try simp only [List.map_toArray, List.map_cons, List.map_nil]); first | done | rfl | (simp only [List.length_drop, List.length_take]; rfl)) ?_; (with_reducible refine (strings_IndexByte.calls (⟨#[97, 98, 99, 100, 101, 102, 103, 104, 105, 106, 107, 108, 109, 110, 111, 112, 113, 114, 115, 116, 117, 118, 119, 120, 121, 122, 48, 49, 50, 51, 52, 53, 54, 55, 56, 57, 46, 45]⟩ : ByteArray) (bt a0 x6_1) t106 _ A6.out).mono ?_); rintro e w' ⟨rfl, ⟨nd, rfl⟩⟩; refine ⟨_, rfl, ?_⟩))
       go_roundg k1
       case measure => have := HK1.out; omega
       case rel => exact ⟨(wrap64 (x6_1 + 1)), (by first | rfl | (simp; done) | (simp [*]; done)), H', ⟨by have := HK1.out; omega⟩, by repeat (first | exact Drawn0.refl _ | apply Drawn0.step)⟩
     ·
      rw [if_neg c4] at H
      exact absurd H (by simp)
    ·
     rw [if_neg c3] at H
     exact absurd H (by simp)
   ·
    rw [if_neg c2] at H
    have c2b0 : decide (x6_1 < (a0.size : Int)) = false := decide_eq_false c2
    clear c2
    replace H := Option.bind_eq_some_iff.mp H
    obtain ⟨t107, A80, H⟩ := H
    replace H : (some t107) = some r := H
    have A8 := Aside0.mk A80
    clear A80
    obtain rfl := Option.some.inj H
    go_wp2_with (first | ((with_reducible refine gate_callee (f := 45) rfl ?_); refine goesL_ (some 16) rfl rfl Tryd.func45 (by kernel_rfl) rfl #[.string a0] rfl (by (try simp only [List.map_toArray, List.map_cons, List.map_nil]); first | done | rfl | (simp only [List.length_drop, List.length_take]; rfl)) ?_; (with_reducible refine (route_long.calls a0 t107 _ A8.out).mono ?_); rintro e w' ⟨rfl, ⟨nd, rfl⟩⟩; refine ⟨_, rfl, ?_⟩))
    go_ret
    exact ⟨by first | rfl | (simp; done) | (simp [*]; done), by repeat (first | exact Drawn0.refl _ | apply Drawn0.step)⟩

end Go.Proofs.YtajaedebndeajaaDoor.Q

namespace Go.Proofs.YtajaedebndeajaaDoor.Q
open Go.RowKit Go.Proofs.YtajaedebndeajaaDoor.AclMet Go.Proofs.YtajaedebndeajaaDoorW.PrintWords Go.Proofs.YtajaedebndeajaaDoorW.PrintLast Go.Proofs.YtajaedebndeajaaDoorW.PrintMore
attribute [local go_sem] max2_int min2_int max_two min_two max_three min_three max_four min_four   -- for this text's walks alone
set_option linter.unusedVariables false
set_option linter.unusedSimpArgs false

/-! ### cmd_Clean: function 46 -/
def cmd_Clean.l0 : Nat → ByteArray → Int → Int → Option (Bool)
 | 0, _, _, _ => none
 | k + 1, x0, x5, x6 => if x6 < x5 then (if 0 ≤ x6 then (if x6 < (x0.size : Int) then (if (bt x0 x6) < 32 then (some false) else (if (bt x0 x6) > 126 then (some false) else (cmd_Clean.l0 k x0 x5 (wrap64 (x6 + 1))))) else (none)) else (none)) else (some true)
def cmd_Clean.f (k : Nat) (a0 : ByteArray) : Option (Bool) := cmd_Clean.l0 k a0 (a0.size : Int) 0
theorem cmd_Clean.mono_l : ∀ k, (∀ y0 y1 y2, LeO (cmd_Clean.l0 k y0 y1 y2) (cmd_Clean.l0 (k + 1) y0 y1 y2))
 | 0 => fun _ _ _ r h => by simp [cmd_Clean.l0] at h
 | k + 1 => by
  have ih0 := cmd_Clean.mono_l k
  ·
   intro y0 y1 y2
   unfold cmd_Clean.l0
   repeat' first
   | (with_reducible exact ih0 _ _ _)
   | (with_reducible exact LeO.refl _)
   | (with_reducible exact LeO.none _)
   | (with_reducible refine LeO.ite ?_ ?_)
   | (with_reducible refine LeO.bind ?_ (fun _ => ?_))
   | exact ih0 _ _ _
   | exact LeO.none _
   | refine LeO.ite ?_ ?_
   | refine LeO.bind ?_ (fun _ => ?_)
theorem cmd_Clean.mono : ∀ a0 k, LeO (cmd_Clean.f k a0) (cmd_Clean.f (k + 1) a0) := by
 intro a0 k
 have ih0 := cmd_Clean.mono_l k
 unfold cmd_Clean.f
 repeat' first
   | (with_reducible exact ih0 _ _ _)
   | (with_reducible exact LeO.refl _)
   | (with_reducible exact LeO.none _)
   | (with_reducible refine LeO.ite ?_ ?_)
   | (with_reducible refine LeO.bind ?_ (fun _ => ?_))
   | exact ih0 _ _ _
   | exact LeO.none _
   | refine LeO.ite ?_ ?_
   | refine LeO.bind ?_ (fun _ => ?_)
set_option maxHeartbeats 8000000 in
set_option maxRecDepth 100000 in
theorem cmd_Clean.calls (k : Nat) (a0 : ByteArray) (r : Bool) (w : World) (h : cmd_Clean.f k a0 = some r) :
  Calls Tryd.prog 46 #[.string a0] w fun e w' => e = .returned (.bool r) ∧ Drawn0 w w' := by
 have H : (cmd_Clean.l0 k a0 (a0.size : Int) 0) = some r := h
 clear h
 have H' := Aside0.mk H
 clear H
 go_enter Tryd.func46, Tryd.ntmps46
 go_wp2
 go_loopg [6] k (fun kq v6 w' => ∃ (x6_1 : Int), v6 = .int .i64 x6_1 ∧ Aside0 (cmd_Clean.l0 kq a0 (a0.size : Int) x6_1 = some r) ∧ Aside0 (kq ≤ k) ∧ Drawn0 w w')
 case atStart => exact ⟨(0), (by first | rfl | (simp; done) | (simp [*]; done)), H', ⟨Nat.le_refl _⟩, by repeat (first | exact Drawn0.refl _ | apply Drawn0.step)⟩
 case round =>
  clear H'
  obtain ⟨x6_1, rfl, HA, HK1, ⟨m1, rfl⟩⟩ := hrel
  cases gk with
  | zero => exact absurd HA.out (by simp [cmd_Clean.l0])
  | succ k1 =>
   have H := HA.out
   clear HA
   simp only [cmd_Clean.l0] at H
   by_cases c2 : x6_1 < (a0.size : Int)
   ·
    rw [if_pos c2] at H
    have c2b0 : decide (x6_1 < (a0.size : Int)) = true := decide_eq_true c2
    clear c2
    by_cases c3 : 0 ≤ x6_1
    ·
     rw [if_pos c3] at H
     have c3b0 : decide (0 ≤ x6_1) = true := decide_eq_true c3
     clear c3
     by_cases c4 : x6_1 < (a0.size : Int)
     ·
      rw [if_pos c4] at H
      have c4b0 : decide (x6_1 < (a0.size : Int)) = true := decide_eq_true c4
      clear c4
      by_cases c6 : (bt a0 x6_1) < 32
      ·
       rw [if_pos c6] at H
       have c6b0 : decide ((bt a0 x6_1) < 32) = true := decide_eq_true c6
       clear c6
       obtain rfl := Option.some.inj H
       have p5 : 0 ≤ (x6_1 : Int) := of_decide_eq_true (by first | (with_reducible assumption) | assumption)
       have q5 : x6_1 < (a0.size : Int) := of_decide_eq_true (by first | (with_reducible assumption) | assumption)
       have hx5 := bt_at a0 x6_1
       replace p5 := eq_true p5
       replace q5 := eq_true q5
       go_wp2
       go_ret
       exact ⟨by first | rfl | (simp; done) | (simp [*]; done), by repeat (first | exact Drawn0.refl _ | apply Drawn0.step)⟩
      ·
       rw [if_neg c6] at H
       have c6b0 : decide ((bt a0 x6_1) < 32) = false := decide_eq_false c6
       clear c6
       by_cases c8 : (bt a0 x6_1) > 126
       ·
        rw [if_pos c8] at H
        have c8b0 : decide (126 < (bt a0 x6_1)) = true := decide_eq_true c8
        clear c8
        obtain rfl := Option.some.inj H
        have p5 : 0 ≤ (x6_1 : Int) := of_decide_eq_true (by first | (with_reducible assumption) | assumption)
        have q5 : x6_1 < (a0.size : Int) := of_decide_eq_true (by first | (with_reducible assumption) | assumption)
        have hx5 := bt_at a0 x6_1
        replace p5 := eq_true p5
        replace q5 := eq_true q5
        have p7 : 0 ≤ (x6_1 : Int) := of_decide_eq_true (by first | (with_reducible assumption) | assumption)
        have q7 : x6_1 < (a0.size : Int) := of_decide_eq_true (by first | (with_reducible assumption) | assumption)
        have hx7 := bt_at a0 x6_1
        replace p7 := eq_true p7
        replace q7 := eq_true q7
        go_wp2
        go_ret
        exact ⟨by first | rfl | (simp; done) | (simp [*]; done), by repeat (first | exact Drawn0.refl _ | apply Drawn0.step)⟩
       ·
        rw [if_neg c8] at H
        have c8b0 : decide (126 < (bt a0 x6_1)) = false := decide_eq_false c8
        clear c8
        have H' := Aside0.mk H
        clear H
        have p5 : 0 ≤ (x6_1 : Int) := of_decide_eq_true (by first | (with_reducible assumption) | assumption)
        have q5 : x6_1 < (a0.size : Int) := of_decide_eq_true (by first | (with_reducible assumption) | assumption)
        have hx5 := bt_at a0 x6_1
        replace p5 := eq_true p5
        replace q5 := eq_true q5
        have p7 : 0 ≤ (x6_1 : Int) := of_decide_eq_true (by first | (with_reducible assumption) | assumption)
        have q7 : x6_1 < (a0.size : Int) := of_decide_eq_true (by first | (with_reducible assumption) | assumption)
        have hx7 := bt_at a0 x6_1
        replace p7 := eq_true p7
        replace q7 := eq_true q7
        go_wp2
        go_roundg k1
        case measure => have := HK1.out; omega
        case rel => exact ⟨(wrap64 (x6_1 + 1)), (by first | rfl | (simp; done) | (simp [*]; done)), H', ⟨by have := HK1.out; omega⟩, by repeat (first | exact Drawn0.refl _ | apply Drawn0.step)⟩
     ·
      rw [if_neg c4] at H
      exact absurd H (by simp)
    ·
     rw [if_neg c3] at H
     exact absurd H (by simp)
   ·
    rw [if_neg c2] at H
    have c2b0 : decide (x6_1 < (a0.size : Int)) = false := decide_eq_false c2
    clear c2
    obtain rfl := Option.some.inj H
    go_wp2
    go_ret
    exact ⟨by first | rfl | (simp; done) | (simp [*]; done), by repeat (first | exact Drawn0.refl _ | apply Drawn0.step)⟩

end Go.Proofs.YtajaedebndeajaaDoor.Q

namespace Go.Proofs.YtajaedebndeajaaDoor.Q
open Go.RowKit Go.Proofs.YtajaedebndeajaaDoor.AclMet Go.Proofs.YtajaedebndeajaaDoorW.PrintWords Go.Proofs.YtajaedebndeajaaDoorW.PrintLast Go.Proofs.YtajaedebndeajaaDoorW.PrintMore
attribute [local go_sem] max2_int min2_int max_two min_two max_three min_three max_four min_four   -- for this text's walks alone
set_option linter.unusedVariables false
set_option linter.unusedSimpArgs false

/-! ### route_User: function 35 -/
def route_User.f (k : Nat) (a0 : ByteArray) : Option (Bool) := (route_long.f a0).bind fun t103 => (if t103 = true then ((cmd_Clean.f k a0).bind fun t104 => (if t104 = true then ((strings_Contains.f a0 (⟨#[32]⟩ : ByteArray)).bind fun t105 => (some (!t105))) else (some false))) else (some false))
theorem route_User.mono : ∀ a0 k, LeO (route_User.f k a0) (route_User.f (k + 1) a0) := by
 intro a0 k
 unfold route_User.f
 repeat' first
   | (with_reducible exact cmd_Clean.mono _ _)
   | (with_reducible exact LeO.refl _)
   | (with_reducible exact LeO.none _)
   | (with_reducible refine LeO.ite ?_ ?_)
   | (with_reducible refine LeO.bind ?_ (fun _ => ?_))
   | exact cmd_Clean.mono _ _
   | exact LeO.none _
   | refine LeO.ite ?_ ?_
   | refine LeO.bind ?_ (fun _ => ?_)
set_option maxHeartbeats 8000000 in
set_option maxRecDepth 100000 in
theorem route_User.calls (k : Nat) (a0 : ByteArray) (r : Bool) (w : World) (h : route_User.f k a0 = some r) :
  Calls Tryd.prog 35 #[.string a0] w fun e w' => e = .returned (.bool r) ∧ Drawn0 w w' := by
 have H : ((route_long.f a0).bind fun t103 => (if t103 = true then ((cmd_Clean.f k a0).bind fun t104 => (if t104 = true then ((strings_Contains.f a0 (⟨#[32]⟩ : ByteArray)).bind fun t105 => (some (!t105))) else (some false))) else (some false))) = some r := h
 clear h
 replace H := Option.bind_eq_some_iff.mp H
 obtain ⟨t103, A20, H⟩ := H
 replace H : (if t103 = true then ((cmd_Clean.f k a0).bind fun t104 => (if t104 = true then ((strings_Contains.f a0 (⟨#[32]⟩ : ByteArray)).bind fun t105 => (some (!t105))) else (some false))) else (some false)) = some r := H
 have A2 := Aside0.mk A20
 clear A20
 by_cases c3 : t103 = true
 ·
  subst c3
  have H1 : ((cmd_Clean.f k a0).bind fun t104 => (if t104 = true then ((strings_Contains.f a0 (⟨#[32]⟩ : ByteArray)).bind fun t105 => (some (!t105))) else (some false))) = some r := by rw [if_pos rfl] at H; exact H
  clear H
  have H := H1
  clear H1
  replace H := Option.bind_eq_some_iff.mp H
  obtain ⟨t104, A40, H⟩ := H
  replace H : (if t104 = true then ((strings_Contains.f a0 (⟨#[32]⟩ : ByteArray)).bind fun t105 => (some (!t105))) else (some false)) = some r := H
  have A4 := Aside0.mk A40
  clear A40
  by_cases c5 : t104 = true
  ·
   subst c5
   have H1 : ((strings_Contains.f a0 (⟨#[32]⟩ : ByteArray)).bind fun t105 => (some (!t105))) = some r := by rw [if_pos rfl] at H; exact H
   clear H
   have H := H1
   clear H1
   replace H := Option.bind_eq_some_iff.mp H
   obtain ⟨t105, A60, H⟩ := H
   replace H : (some (!t105)) = some r := H
   have A6 := Aside0.mk A60
   clear A60
   obtain rfl := Option.some.inj H
   go_enter Tryd.func35, Tryd.ntmps35
   go_wp2_with (first | ((with_reducible refine gate_callee (f := 45) rfl ?_); refine goesL_ (some 4) rfl rfl Tryd.func45 (by kernel_rfl) rfl #[.string a0] rfl (by (try simp only [List.map_toArray, List.map_cons, List.map_nil]); first | done | rfl | (simp only [List.length_drop, List.length_take]; rfl)) ?_; (with_reducible refine (route_long.calls a0 true _ A2.out).mono ?_); rintro e w' ⟨rfl, ⟨nd, rfl⟩⟩; refine ⟨_, rfl, ?_⟩) | (go_at_call 46; (with_reducible refine (cmd_Clean.calls k a0 true _ A4.out).mono ?_); rintro e w' ⟨rfl, ⟨nd, rfl⟩⟩) | (go_at_call 47; (with_reducible refine (strings_Contains.calls a0 (⟨#[32]⟩ : ByteArray) t105 _ A6.out).mono ?_); rintro e w' ⟨rfl, ⟨nd, rfl⟩⟩))
   go_ret
   exact ⟨by first | rfl | (simp; done) | (simp [*]; done), by repeat (first | exact Drawn0.refl _ | apply Drawn0.step)⟩
  ·
   replace c5 := Bool.eq_false_iff.mpr c5
   subst c5
   have H1 : (some false) = some r := by rw [if_neg (show ¬ (false = true) by decide)] at H; exact H
   clear H
   have H := H1
   clear H1
   obtain rfl := Option.some.inj H
   go_enter Tryd.func35, Tryd.ntmps35
   go_wp2_with (first | ((with_reducible refine gate_callee (f := 45) rfl ?_); refine goesL_ (some 4) rfl rfl Tryd.func45 (by kernel_rfl) rfl #[.string a0] rfl (by (try simp only [List.map_toArray, List.map_cons, List.map_nil]); first | done | rfl | (simp only [List.length_drop, List.length_take]; rfl)) ?_; (with_reducible refine (route_long.calls a0 true _ A2.out).mono ?_); rintro e w' ⟨rfl, ⟨nd, rfl⟩⟩; refine ⟨_, rfl, ?_⟩) | (go_at_call 46; (with_reducible refine (cmd_Clean.calls k a0 false _ A4.out).mono ?_); rintro e w' ⟨rfl, ⟨nd, rfl⟩⟩))
   go_ret
   exact ⟨by first | rfl | (simp; done) | (simp [*]; done), by repeat (first | exact Drawn0.refl _ | apply Drawn0.step)⟩
 ·
  replace c3 := Bool.eq_false_iff.mpr c3
  subst c3
  have H1 : (some false) = some r := by rw [if_neg (show ¬ (false = true) by decide)] at H; exact H
  clear H
  have H := H1
  clear H1
  obtain rfl := Option.some.inj H
  go_enter Tryd.func35, Tryd.ntmps35
  go_wp2_with (first | ((with_reducible refine gate_callee (f := 45) rfl ?_); refine goesL_ (some 4) rfl rfl Tryd.func45 (by kernel_rfl) rfl #[.string a0] rfl (by (try simp only [List.map_toArray, List.map_cons, List.map_nil]); first | done | rfl | (simp only [List.length_drop, List.length_take]; rfl)) ?_; (with_reducible refine (route_long.calls a0 false _ A2.out).mono ?_); rintro e w' ⟨rfl, ⟨nd, rfl⟩⟩; refine ⟨_, rfl, ?_⟩))
  go_ret
  exact ⟨by first | rfl | (simp; done) | (simp [*]; done), by repeat (first | exact Drawn0.refl _ | apply Drawn0.step)⟩

end Go.Proofs.YtajaedebndeajaaDoor.Q

namespace Go.Proofs.YtajaedebndeajaaDoor.Q
open Go.RowKit Go.Proofs.YtajaedebndeajaaDoor.AclMet Go.Proofs.YtajaedebndeajaaDoorW.PrintWords Go.Proofs.YtajaedebndeajaaDoorW.PrintLast Go.Proofs.YtajaedebndeajaaDoorW.PrintMore
attribute [local go_sem] max2_int min2_int max_two min_two max_three min_three max_four min_four   -- for this text's walks alone
set_option linter.unusedVariables false
set_option linter.unusedSimpArgs false

/-! ### sat_May: function 38 -/
def sat_May.f (a0 : Int) : Option (Bool) := if a0 ≥ 0 then (some (decide (a0 ≤ 1099511627776))) else (some false)
set_option maxHeartbeats 8000000 in
set_option maxRecDepth 100000 in
theorem sat_May.calls (a0 : Int) (r : Bool) (w : World) (h : sat_May.f a0 = some r) :
  Calls Tryd.prog 38 #[.int .i64 a0] w fun e w' => e = .returned (.bool r) ∧ Drawn0 w w' := by
 have H : (if a0 ≥ 0 then (some (decide (a0 ≤ 1099511627776))) else (some false)) = some r := h
 clear h
 by_cases c2 : a0 ≥ 0
 ·
  rw [if_pos c2] at H
  have c2b0 : decide (0 ≤ a0) = true := decide_eq_true c2
  clear c2
  obtain rfl := Option.some.inj H
  go_enter Tryd.func38, Tryd.ntmps38
  go_wp2
  go_ret
  exact ⟨by first | rfl | (simp; done) | (simp [*]; done), by repeat (first | exact Drawn0.refl _ | apply Drawn0.step)⟩
 ·
  rw [if_neg c2] at H
  have c2b0 : decide (0 ≤ a0) = false := decide_eq_false c2
  clear c2
  obtain rfl := Option.some.inj H
  go_enter Tryd.func38, Tryd.ntmps38
  go_wp2
  go_ret
  exact ⟨by first | rfl | (simp; done) | (simp [*]; done), by repeat (first | exact Drawn0.refl _ | apply Drawn0.step)⟩

end Go.Proofs.YtajaedebndeajaaDoor.Q
