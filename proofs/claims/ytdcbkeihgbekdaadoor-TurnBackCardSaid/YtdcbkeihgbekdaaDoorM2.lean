/- Contracts and plain facts that the law's proof needs. -/
import Derived.Shelf.Strings.Builder1
import Derived.Shelf.Strings.Builder2
import Derived.Shelf.Strings.OnBuilder
import Derived.Shelf.Small.Strs
import Derived.Shelf.Small.Wraps
import Derived.Shelf.Strings.BuilderF
import Derived.Shelf.Strings.BuilderK
import Derived.Shelf.Utf8.RuneCount
import Derived.Shelf.Strings.Builder2Cap
import Derived.Shelf.Strings.Search1
import Derived.Shelf.Strings.Search2
import Derived.Shelf.Strings.Search3
import Derived.Shelf.Strings.Cut
import Derived.Shelf.Strings.Count
import Derived.Shelf.LaysM
import Derived.Shelf.Strings.Shaped
import Derived.Shelf.Strings.Prefix
import Derived.Shelf.Strings.Split
import Derived.Shelf.Strings.SplitShaped
import Derived.Shelf.Unicode.Decode
import Derived.Shelf.Strings.RuneCount
import Derived.Shelf.Strings.Explode
import Derived.Shelf.Unicode.DecodeSlow
import Derived.Shelf.Unicode.DecodeAny
import Derived.Shelf.Strings.BuilderCap
import Derived.Test.YtdcbkeihgbekdaaDoorProg
import Derived.Test.YtdcbkeihgbekdaaDoorRows
import Derived.Test.YtdcbkeihgbekdaaDoorTie
import Derived.Test.YtdcbkeihgbekdaaDoorCards
import Derived.WalkKit
import Derived.ProofKit
import Derived.OpenShut
import Derived.ShutString
import Derived.ChangeOld
import Derived.Below
import Derived.SizedLaws
import Derived.LaidMore
import Derived.Lay
import Derived.HandedShaped
import Derived.Laws.IdiomArrays
import Derived.SevenTiedAt
import Derived.Stop.Joined
import Derived.LaidEql
import Derived.Stop.Asserts
import Derived.RowKitTokens
import Derived.Test.YtdcbkeihgbekdaaDoorM1
import Derived.Deep.Draws
import Derived.Deep.AppendLies
import Derived.Maps.AppendAt
import Derived.OwnWalk
import Derived.Laws.BytesArg
import Derived.Laws.MakeOwn
import Derived.Laws.OwnMore
import Derived.Deep.OwnRows
import Derived.Tactics
import Derived.Lib.ConvBytes
import Derived.Laws.Slices
import Derived.KernelRfl
import Derived.RowKit3
import Derived.Deep.LoopGhost
import Derived.Deep.QuietTactic
import Derived.BigQuiet
import Derived.WideLaws
import Derived.Deep.DeepCutAuto
import Derived.Deep.CutBlock
import Derived.Deep.RegionHeld3
import Derived.Laws.Rows
import Derived.Lib.AppendStr
import Derived.ArgAppend
import Derived.Laws.IdiomCopy
import Derived.OrdersHeld
import Derived.Laws.BitsLemmas
import Derived.RowKit
import Derived.Lib.SplitLaws
import Derived.Lib.Join
import Derived.Lib.Bytealg
import Derived.Lib.IndexMore
import Derived.Deep.RegionWith
import Derived.Stop.IfaceNil
import Derived.LaidHandle
import Derived.Stop.LaidTwo
import Derived.MapKept
import Derived.Maps.OwnOps
import Derived.Maps.OwnSet
import Derived.ChangeMaps4
namespace Go.Proofs
open Go.Shelf
def Tryd.lays156_ren : Go.Shelf.Ren := ⟨fun | 156 => 39 | 165 => 53 | 166 => 54 | 169 => 55 | 240 => 69 | 241 => 70 | 276 => 80 | 277 => 81 | n => n, fun | 31 => 24 | 9 => 9 | 3 => 3 | 4 => 4 | 0 => 0 | 20 => 20 | 72 => 107 | 76 => 109 | 70 => 105 | 37 => 83 | 75 => 47 | 127 => 130 | 164 => 119 | 5 => 5 | 80 => 111 | n => n, fun | n => n⟩
theorem Tryd.lays156 : Go.Proofs.Lays.n156 Tryd.prog Tryd.lays156_ren := {
  mixed := by kernel_rfl
  f156 := Tryd.func39.trans (congrArg some (by kernel_rfl))
  f165 := Tryd.func53.trans (congrArg some (by kernel_rfl))
  f166 := Tryd.func54.trans (congrArg some (by kernel_rfl))
  f169 := Tryd.func55.trans (congrArg some (by kernel_rfl))
  f240 := Tryd.func69.trans (congrArg some (by kernel_rfl))
  f241 := Tryd.func70.trans (congrArg some (by kernel_rfl))
  f276 := Tryd.func80.trans (congrArg some (by kernel_rfl))
  f277 := Tryd.func81.trans (congrArg some (by kernel_rfl))
  t0 := Tryd.underlying0
  a0 := Tryd.isAgg0
  z0 := Tryd.sizeOf0
  v0 := Tryd.zeroValue0
  t3 := Tryd.underlying3
  a3 := Tryd.isAgg3
  z3 := Tryd.sizeOf3
  v3 := Tryd.zeroValue3
  t4 := Tryd.underlying4
  a4 := Tryd.isAgg4
  z4 := Tryd.sizeOf4
  v4 := Tryd.zeroValue4
  t9 := Tryd.underlying9
  a9 := Tryd.isAgg9
  z9 := Tryd.sizeOf9
  v9 := Tryd.zeroValue9
  t20 := Tryd.underlying20
  a20 := Tryd.isAgg20
  z20 := Tryd.sizeOf20
  v20 := Tryd.zeroValue20
  t31 := Tryd.underlying24
  a31 := Tryd.isAgg24
  z31 := Tryd.sizeOf24
  v31 := Tryd.zeroValue24
  t37 := Tryd.underlying83
  a37 := Tryd.isAgg83
  z37 := Tryd.sizeOf83
  v37 := Tryd.zeroValue83
  t70 := Tryd.underlying105
  a70 := Tryd.isAgg105
  z70 := Tryd.sizeOf105
  v70 := Tryd.zeroValue105
  t72 := Tryd.underlying107
  a72 := Tryd.isAgg107
  z72 := Tryd.sizeOf107
  v72 := Tryd.zeroValue107
  t75 := Tryd.underlying47
  a75 := Tryd.isAgg47
  z75 := Tryd.sizeOf47
  v75 := Tryd.zeroValue47
  t76 := Tryd.underlying109
  a76 := Tryd.isAgg109
  z76 := Tryd.sizeOf109
  v76 := Tryd.zeroValue109
  t127 := Tryd.underlying130
  a127 := Tryd.isAgg130
  z127 := Tryd.sizeOf130
  v127 := Tryd.zeroValue130
  t164 := Tryd.underlying119
  a164 := Tryd.isAgg119
  z164 := Tryd.sizeOf119
  v164 := Tryd.zeroValue119 }
theorem Tryd.Builder_Extra_156 : Builder.Extra Tryd.prog Tryd.lays156_ren := {
  sizeBuilder := by kernel_rfl
  liesBuilder := by kernel_rfl
  t5 := Tryd.underlying5
  a5 := Tryd.isAgg5
  z5 := Tryd.sizeOf5
  v5 := Tryd.zeroValue5
  infoByte := by kernel_rfl
  cellsByte := by kernel_rfl
  sizeByte := by kernel_rfl
  neB5 := by decide }
open Go.RowKit in
/-- No element: the empty string; the world is as it was. (Whatever the slice's address and capacity: a nil slice too.) (LAID: no walk: one application.) -/
theorem Tryd.strings_Join_none (a : Option Addr) (c : Nat) (sep : ByteArray) (w : World) :
    Calls Tryd.prog 39 #[.slice a 0 c, .string sep] w fun e w' => e = .returned (.string ⟨#[]⟩) ∧ w' = w := Any.strings_Join_none Tryd.lays156 Tryd.Builder_Extra_156 a c sep w
open Go.RowKit in
/-- strings.Join: "Join concatenates the elements of its first argument to create a single string. The separator string sep is placed between elements in the resulting string.": HOWEVER MANY ELEMENTS. Below the heap's end the world is as it was. (LAID: no walk: one application.) -/
theorem Tryd.strings_Join (bk o c : Nat) (xs : List ByteArray) (sep : ByteArray) (w : World) (hcells : ∀ (j : Nat) x, xs[j]? = some x → w.cell? ⟨bk, o + j, none⟩ = some (.string x)) (hbk : bk < w.heap.size) (hN : xs.length ≤ 140737488355328) (hcap : xs.length ≤ c) (hlen : (Lib.join (xs.map (·.data.toList)) sep.data.toList).length ≤ 140737488355328) :
    Calls Tryd.prog 39 #[.slice (some ⟨bk, o, none⟩) xs.length c, .string sep] w fun e w' => e = .returned (.string ⟨(Lib.join (xs.map (·.data.toList)) sep.data.toList).toArray⟩) ∧ Below w.heap.size w w' := Any.strings_Join Tryd.lays156 Tryd.Builder_Extra_156 bk o c xs sep w hcells hbk hN hcap hlen
def Tryd.lays137_ren : Go.Shelf.Ren := ⟨fun | 137 => 45 | 217 => 59 | 266 => 74 | n => n, fun | 9 => 9 | 5 => 5 | 3 => 3 | n => n, fun | n => n⟩
theorem Tryd.lays137 : Go.Proofs.Lays.n137 Tryd.prog Tryd.lays137_ren := {
  mixed := by kernel_rfl
  f137 := Tryd.func45.trans (congrArg some (by kernel_rfl))
  f217 := Tryd.func59.trans (congrArg some (by kernel_rfl))
  f266 := Tryd.func74.trans (congrArg some (by kernel_rfl))
  t3 := Tryd.underlying3
  a3 := Tryd.isAgg3
  z3 := Tryd.sizeOf3
  v3 := Tryd.zeroValue3
  t5 := Tryd.underlying5
  a5 := Tryd.isAgg5
  z5 := Tryd.sizeOf5
  v5 := Tryd.zeroValue5
  t9 := Tryd.underlying9
  a9 := Tryd.isAgg9
  z9 := Tryd.sizeOf9
  v9 := Tryd.zeroValue9 }
open Go.RowKit in
/-- strings.IndexByte: "IndexByte returns the index of the first instance of c in s, or -1 if c is not present in s.": IT RETURNS 'Lib.indexByte s c'; the world is as it was. (LAID: no walk: one application.) -/
theorem Tryd.strings_IndexByte (s : ByteArray) (c : Int) (w : World) :
    Calls Tryd.prog 45 #[.string s, .int .u8 c] w fun e w' => e = .returned (.int .i64 (Lib.indexByte s.data.toList c.toNat.toUInt8)) ∧ w' = w := Any.strings_IndexByte Tryd.lays137 s c w
def Tryd.lays210_ren : Go.Shelf.Ren := ⟨fun | 210 => 51 | 206 => 67 | n => n, fun | 9 => 9 | 4 => 4 | 3 => 3 | n => n, fun | n => n⟩
theorem Tryd.lays210 : Go.Proofs.Lays.n210 Tryd.prog Tryd.lays210_ren := {
  mixed := by kernel_rfl
  f206 := Tryd.func67.trans (congrArg some (by kernel_rfl))
  f210 := Tryd.func51.trans (congrArg some (by kernel_rfl))
  t3 := Tryd.underlying3
  a3 := Tryd.isAgg3
  z3 := Tryd.sizeOf3
  v3 := Tryd.zeroValue3
  t4 := Tryd.underlying4
  a4 := Tryd.isAgg4
  z4 := Tryd.sizeOf4
  v4 := Tryd.zeroValue4
  t9 := Tryd.underlying9
  a9 := Tryd.isAgg9
  z9 := Tryd.sizeOf9
  v9 := Tryd.zeroValue9 }
open Go.RowKit in
/-- internal/stringslite.CutPrefix (what strings.CutPrefix calls). (LAID: no walk: one application.) -/
theorem Tryd.stringslite_CutPrefix (s p : ByteArray) (w : World) :
    Calls Tryd.prog 51 #[.string s, .string p] w fun e w' => e = .returned (.tuple #[.string ⟨(Lib.trimPrefix s.data.toList p.data.toList).toArray⟩, .bool (Lib.hasPrefix s.data.toList p.data.toList)]) ∧ w' = w := Any.stringslite_CutPrefix Tryd.lays210 s p w
def Tryd.lays103_ren : Go.Shelf.Ren := ⟨fun | 103 => 35 | 210 => 51 | 206 => 67 | n => n, fun | 9 => 9 | 4 => 4 | 24 => 61 | 3 => 3 | n => n, fun | n => n⟩
theorem Tryd.lays103 : Go.Proofs.Lays.n103 Tryd.prog Tryd.lays103_ren := {
  mixed := by kernel_rfl
  f103 := Tryd.func35.trans (congrArg some (by kernel_rfl))
  f206 := Tryd.func67.trans (congrArg some (by kernel_rfl))
  f210 := Tryd.func51.trans (congrArg some (by kernel_rfl))
  t3 := Tryd.underlying3
  a3 := Tryd.isAgg3
  z3 := Tryd.sizeOf3
  v3 := Tryd.zeroValue3
  t4 := Tryd.underlying4
  a4 := Tryd.isAgg4
  z4 := Tryd.sizeOf4
  v4 := Tryd.zeroValue4
  t9 := Tryd.underlying9
  a9 := Tryd.isAgg9
  z9 := Tryd.sizeOf9
  v9 := Tryd.zeroValue9
  t24 := Tryd.underlying61
  a24 := Tryd.isAgg61
  z24 := Tryd.sizeOf61
  v24 := Tryd.zeroValue61 }
open Go.RowKit in
/-- strings.CutPrefix: "CutPrefix returns s without the provided leading prefix string and reports whether it found the prefix. If s doesn't start with prefix, CutPrefix returns s, false. If prefix is the empty string, CutPrefix returns s, true.": IT RETURNS '(Lib.trimPrefix s p, Lib.hasPrefix s p)'; the world is as it was. (LAID: no walk: one application.) -/
theorem Tryd.strings_CutPrefix (s p : ByteArray) (w : World) :
    Calls Tryd.prog 35 #[.string s, .string p] w fun e w' => e = .returned (.tuple #[.string ⟨(Lib.trimPrefix s.data.toList p.data.toList).toArray⟩, .bool (Lib.hasPrefix s.data.toList p.data.toList)]) ∧ w' = w := Any.strings_CutPrefix Tryd.lays103 s p w
def Tryd.lays104_ren : Go.Shelf.Ren := ⟨fun | 104 => 36 | 211 => 52 | 207 => 68 | n => n, fun | 9 => 9 | 4 => 4 | 24 => 61 | 3 => 3 | n => n, fun | n => n⟩
theorem Tryd.lays104 : Go.Proofs.Lays.n104 Tryd.prog Tryd.lays104_ren := {
  mixed := by kernel_rfl
  f104 := Tryd.func36.trans (congrArg some (by kernel_rfl))
  f207 := Tryd.func68.trans (congrArg some (by kernel_rfl))
  f211 := Tryd.func52.trans (congrArg some (by kernel_rfl))
  t3 := Tryd.underlying3
  a3 := Tryd.isAgg3
  z3 := Tryd.sizeOf3
  v3 := Tryd.zeroValue3
  t4 := Tryd.underlying4
  a4 := Tryd.isAgg4
  z4 := Tryd.sizeOf4
  v4 := Tryd.zeroValue4
  t9 := Tryd.underlying9
  a9 := Tryd.isAgg9
  z9 := Tryd.sizeOf9
  v9 := Tryd.zeroValue9
  t24 := Tryd.underlying61
  a24 := Tryd.isAgg61
  z24 := Tryd.sizeOf61
  v24 := Tryd.zeroValue61 }
open Go.RowKit in
/-- strings.CutSuffix: "CutSuffix returns s without the provided ending suffix string and reports whether it found the suffix. If s doesn't end with suffix, CutSuffix returns s, false. If suffix is the empty string, CutSuffix returns s, true.": IT RETURNS '(Lib.trimSuffix s p, Lib.hasSuffix s p)'; the world is as it was. (LAID: no walk: one application.) -/
theorem Tryd.strings_CutSuffix (s p : ByteArray) (w : World) (hs : s.size ≤ 9223372036854775807) :
    Calls Tryd.prog 36 #[.string s, .string p] w fun e w' => e = .returned (.tuple #[.string ⟨(Lib.trimSuffix s.data.toList p.data.toList).toArray⟩, .bool (Lib.hasSuffix s.data.toList p.data.toList)]) ∧ w' = w := Any.strings_CutSuffix Tryd.lays104 s p w hs
def Tryd.lays145_ren : Go.Shelf.Ren := ⟨fun | 145 => 33 | 220 => 50 | 219 => 66 | 217 => 59 | 225 => 77 | 224 => 78 | 267 => 79 | 266 => 74 | 314 => 83 | n => n, fun | 9 => 9 | 4 => 4 | 59 => 78 | 3 => 3 | 5 => 5 | 46 => 74 | 146 => 153 | 51 => 152 | n => n, fun | 1 => 5 | n => n⟩
theorem Tryd.lays145 : Go.Proofs.Lays.n145 Tryd.prog Tryd.lays145_ren := {
  mixed := by kernel_rfl
  f145 := Tryd.func33.trans (congrArg some (by kernel_rfl))
  f217 := Tryd.func59.trans (congrArg some (by kernel_rfl))
  f219 := Tryd.func66.trans (congrArg some (by kernel_rfl))
  f220 := Tryd.func50.trans (congrArg some (by kernel_rfl))
  f224 := Tryd.func78.trans (congrArg some (by kernel_rfl))
  f225 := Tryd.func77.trans (congrArg some (by kernel_rfl))
  f266 := Tryd.func74.trans (congrArg some (by kernel_rfl))
  f267 := Tryd.func79.trans (congrArg some (by kernel_rfl))
  f314 := Tryd.func83.trans (congrArg some (by kernel_rfl))
  t3 := Tryd.underlying3
  a3 := Tryd.isAgg3
  z3 := Tryd.sizeOf3
  v3 := Tryd.zeroValue3
  t4 := Tryd.underlying4
  a4 := Tryd.isAgg4
  z4 := Tryd.sizeOf4
  v4 := Tryd.zeroValue4
  t5 := Tryd.underlying5
  a5 := Tryd.isAgg5
  z5 := Tryd.sizeOf5
  v5 := Tryd.zeroValue5
  t9 := Tryd.underlying9
  a9 := Tryd.isAgg9
  z9 := Tryd.sizeOf9
  v9 := Tryd.zeroValue9
  t46 := Tryd.underlying74
  a46 := Tryd.isAgg74
  z46 := Tryd.sizeOf74
  v46 := Tryd.zeroValue74
  t51 := Tryd.underlying152
  a51 := Tryd.isAgg152
  z51 := Tryd.sizeOf152
  v51 := Tryd.zeroValue152
  t59 := Tryd.underlying78
  a59 := Tryd.isAgg78
  z59 := Tryd.sizeOf78
  v59 := Tryd.zeroValue78
  t146 := Tryd.underlying153
  a146 := Tryd.isAgg153
  z146 := Tryd.sizeOf153
  v146 := Tryd.zeroValue153
  g1 := by kernel_rfl }
open Go.RowKit Go.Lib in
/-- strings.Cut: "Cut slices s around the first instance of sep, returning the text before and after sep. The found result reports whether sep appears in s. If sep does not appear in s, cut returns s, "", false.": IT RETURNS 'Lib.cut s sep'; the world is as it was but for the count of draws. (LAID: no walk: one application.) -/
theorem Tryd.strings_Cut (s sep : ByteArray) (m : Int) (w : World) (hs : s.size < 4294967281) (hm : w.cell? ⟨5, 0, none⟩ = some (.int .i64 m)) :
    Calls Tryd.prog 33 #[.string s, .string sep] w fun e w' => e = .returned (.tuple #[.string ⟨(Lib.cut s.data.toList sep.data.toList).1.toArray⟩, .string ⟨(Lib.cut s.data.toList sep.data.toList).2.1.toArray⟩, .bool (Lib.cut s.data.toList sep.data.toList).2.2]) ∧ ∃ n, w' = w.drewN n := Any.strings_Cut Tryd.lays145 s sep m w hs hm
def Tryd.lays206_ren : Go.Shelf.Ren := ⟨fun | 206 => 67 | n => n, fun | 9 => 9 | 4 => 4 | 3 => 3 | n => n, fun | n => n⟩
theorem Tryd.lays206 : Go.Proofs.Lays.n206 Tryd.prog Tryd.lays206_ren := {
  mixed := by kernel_rfl
  f206 := Tryd.func67.trans (congrArg some (by kernel_rfl))
  t3 := Tryd.underlying3
  a3 := Tryd.isAgg3
  z3 := Tryd.sizeOf3
  v3 := Tryd.zeroValue3
  t4 := Tryd.underlying4
  a4 := Tryd.isAgg4
  z4 := Tryd.sizeOf4
  v4 := Tryd.zeroValue4
  t9 := Tryd.underlying9
  a9 := Tryd.isAgg9
  z9 := Tryd.sizeOf9
  v9 := Tryd.zeroValue9 }
open Go.RowKit Go.Lib in
/-- internal/stringslite.HasPrefix (what strings.HasPrefix calls). (LAID: no walk: one application.) -/
theorem Tryd.stringslite_HasPrefix (s p : ByteArray) (w : World) :
    Calls Tryd.prog 67 #[.string s, .string p] w fun e w' => e = .returned (.bool (Lib.hasPrefix s.data.toList p.data.toList)) ∧ w' = w := Any.stringslite_HasPrefix Tryd.lays206 s p w
def Tryd.lays146_ren : Go.Shelf.Ren := ⟨fun | 146 => 28 | 221 => 44 | 268 => 56 | 138 => 57 | 143 => 58 | 195 => 71 | 197 => 72 | 218 => 73 | 219 => 66 | 260 => 82 | 217 => 59 | 225 => 77 | 224 => 78 | 267 => 79 | 266 => 74 | 314 => 83 | n => n, fun | 9 => 9 | 31 => 24 | 3 => 3 | 4 => 4 | 0 => 0 | 105 => 132 | 21 => 21 | 5 => 5 | 46 => 74 | 119 => 155 | 139 => 158 | 138 => 157 | 146 => 153 | 51 => 152 | n => n, fun | 1 => 5 | 3 => 6 | 4 => 7 | n => n⟩
theorem Tryd.lays146 : Go.Proofs.Lays.n146 Tryd.prog Tryd.lays146_ren := {
  mixed := by kernel_rfl
  f138 := Tryd.func57.trans (congrArg some (by kernel_rfl))
  f143 := Tryd.func58.trans (congrArg some (by kernel_rfl))
  f146 := Tryd.func28.trans (congrArg some (by kernel_rfl))
  f195 := Tryd.func71.trans (congrArg some (by kernel_rfl))
  f197 := Tryd.func72.trans (congrArg some (by kernel_rfl))
  f217 := Tryd.func59.trans (congrArg some (by kernel_rfl))
  f218 := Tryd.func73.trans (congrArg some (by kernel_rfl))
  f219 := Tryd.func66.trans (congrArg some (by kernel_rfl))
  f221 := Tryd.func44.trans (congrArg some (by kernel_rfl))
  f224 := Tryd.func78.trans (congrArg some (by kernel_rfl))
  f225 := Tryd.func77.trans (congrArg some (by kernel_rfl))
  f260 := Tryd.func82.trans (congrArg some (by kernel_rfl))
  f266 := Tryd.func74.trans (congrArg some (by kernel_rfl))
  f267 := Tryd.func79.trans (congrArg some (by kernel_rfl))
  f268 := Tryd.func56.trans (congrArg some (by kernel_rfl))
  f314 := Tryd.func83.trans (congrArg some (by kernel_rfl))
  t0 := Tryd.underlying0
  a0 := Tryd.isAgg0
  z0 := Tryd.sizeOf0
  v0 := Tryd.zeroValue0
  t3 := Tryd.underlying3
  a3 := Tryd.isAgg3
  z3 := Tryd.sizeOf3
  v3 := Tryd.zeroValue3
  t4 := Tryd.underlying4
  a4 := Tryd.isAgg4
  z4 := Tryd.sizeOf4
  v4 := Tryd.zeroValue4
  t5 := Tryd.underlying5
  a5 := Tryd.isAgg5
  z5 := Tryd.sizeOf5
  v5 := Tryd.zeroValue5
  t9 := Tryd.underlying9
  a9 := Tryd.isAgg9
  z9 := Tryd.sizeOf9
  v9 := Tryd.zeroValue9
  t21 := Tryd.underlying21
  a21 := Tryd.isAgg21
  z21 := Tryd.sizeOf21
  v21 := Tryd.zeroValue21
  t31 := Tryd.underlying24
  a31 := Tryd.isAgg24
  z31 := Tryd.sizeOf24
  v31 := Tryd.zeroValue24
  t46 := Tryd.underlying74
  a46 := Tryd.isAgg74
  z46 := Tryd.sizeOf74
  v46 := Tryd.zeroValue74
  t51 := Tryd.underlying152
  a51 := Tryd.isAgg152
  z51 := Tryd.sizeOf152
  v51 := Tryd.zeroValue152
  t105 := Tryd.underlying132
  a105 := Tryd.isAgg132
  z105 := Tryd.sizeOf132
  v105 := Tryd.zeroValue132
  t119 := Tryd.underlying155
  a119 := Tryd.isAgg155
  z119 := Tryd.sizeOf155
  t138 := Tryd.underlying157
  a138 := Tryd.isAgg157
  z138 := Tryd.sizeOf157
  v138 := Tryd.zeroValue157
  t139 := Tryd.underlying158
  a139 := Tryd.isAgg158
  z139 := Tryd.sizeOf158
  v139 := Tryd.zeroValue158
  t146 := Tryd.underlying153
  a146 := Tryd.isAgg153
  z146 := Tryd.sizeOf153
  v146 := Tryd.zeroValue153
  g1 := by kernel_rfl
  g3 := by kernel_rfl
  g4 := by kernel_rfl }
open Go.RowKit Go.Lib in
/-- strings.Split. (LAID: no walk: one application.) -/
theorem Tryd.strings_Split (s sep : ByteArray) (m : Int) (w : World) (hs : s.size < 4294967281) (hm : w.cell? ⟨5, 0, none⟩ = some (.int .i64 m)) (h1 : 1 ≤ sep.size) :
    Calls Tryd.prog 28 #[.string s, .string sep] w fun e w' =>
      e = .returned (.slice (some ⟨w.heap.size, 0, none⟩) (Lib.countB s sep + 1) (Lib.countB s sep + 1)) ∧ w' = w.alloc (.cells ((Lib.splitB sep 0 (Lib.countB s sep) s).map Value.string).toArray 9) := Any.strings_Split Tryd.lays146 (by kernel_rfl) s sep m w hs hm h1
end Go.Proofs

namespace Go.Proofs.YtdcbkeihgbekdaaDoor.Door
open Go Go.ChangeShapes Go.WideShapes Go.ChangeAt Go.RowKit
set_option linter.unusedVariables false

theorem own : ownKnob Tryd.prog.godebug = none := by kernel_rfl
theorem laidOut : laidOutB Tryd.prog = true := by kernel_rfl
theorem handed {H : Type} {enc : TypeId × Value → H} {a : Assume} {C : Checked} {os : Os} {f : FuncId} {fn : Func} {s : ChangeSpec} {conds : List PathCond} {apart fresh handsOn again : Bool} {X : World → Array Value → Prop}
    (hX : ∀ (w w' : World) (args : Array Value), w.heap = w'.heap → X w args → X w' args)
    (own : ownKnob C.prog.godebug = none) (started : os.Started) (noInit : C.prog.inits.idxOf? f = none) (hfn : C.prog.funcs[f]? = some fn)
    (witness : ∃ (w : World) (tape : Tape) (i : Input), w.os = os ∧ (w.forCall tape i).Shaped C.prog ∧ i.vars = [] ∧ Input.okWide C.prog (w.forCall tape i) .any w.heap.size f i ∧
      ((s.pre enc C.prog fn conds apart (w.forCall tape i).memory i.args ∧ X (w.forCall tape i).memory i.args) ∧ sizedMet enc C.prog fn (OpenSpec.ofChange s) apart (w.forCall tape i).memory i.args) ∧ a.holds C.prog (lone (Frame.enter C.prog f i.args .normal) [] (w.forCall tape i)))
    (contract : ∀ (W : World) (base : Nat) (args : Array Value) (ds gs : List (DataW H)) (before : List MemPlace),
      (∀ (j : Nat) t v, fn.params[j]? = some t → args[j]? = some v → Value.okWide C.prog W .any base t v) →
      DataW.Whole enc C.prog fn.params.toList s.vars apart W args.toList ds gs before →
      (DataW.weightsEach C.prog (fn.params.toList ++ s.plain.varTypes C.prog) (ds ++ gs)).all (· ≤ reachBytes) = true → X W args → W.ShapedOpen C.prog →
      Calls C.prog f args W fun e W' => ∃ v, e = .returned v ∧ s.post enc C.prog fn apart fresh handsOn again W args v W') :
    ReturnsInHanded a C os f .any (fun w args => (s.pre enc C.prog fn conds apart w args ∧ X w args) ∧ sizedMet enc C.prog fn (OpenSpec.ofChange s) apart w args) (s.post enc C.prog fn apart fresh handsOn again) := by
  refine returnsInHanded_of_calls own started noInit witness ?_
  intro w tape i _ hsh _ hok hpre hholds
  obtain ⟨_, _, _, fn', hfn', _, _, _, _, hval⟩ := hok
  have e : fn' = fn := Option.some.inj (hfn'.symm.trans hfn)
  subst e
  obtain ⟨⟨⟨ds, gs, before, hw, hc⟩, hx⟩, hz⟩ := hpre
  have hw' := DataW.Whole.of_heap (w' := w.forCall tape i) (by rfl) hw
  refine (contract (w.forCall tape i) w.heap.size i.args ds gs before hval hw' (hz.weights hw) (hX _ _ _ (by rfl) hx) hsh).mono fun e W' ⟨v, he, hp⟩ => ?_
  subst he
  exact ChangeSpec.post_blind hp

/-- The variable internal/bytealg.MaxLen. -/
theorem maxLen_cell {W : World} (h : W.ShapedOpen Tryd.prog) : ∃ m : Int, W.cell? ⟨5, 0, none⟩ = some (.int .i64 m) :=
  Go.Proofs.cell_of_shapedOpen_int (P := Tryd.prog) (g := 5) (t := 3) (zero := #[.int .i64 0]) h (of_decide_eq_true (by kernel_rfl)) (by kernel_rfl) rfl (by kernel_rfl) (by kernel_rfl) Tryd.underlying3
theorem int_bounds {x : Int} (h : (Lit.int .i64 x).wf = true) : -9223372036854775808 ≤ x ∧ x ≤ 9223372036854775807 := by
  simp [Lit.wf, IntKind.min, IntKind.max, IntKind.signed, IntKind.bits] at h
  omega
end Go.Proofs.YtdcbkeihgbekdaaDoor.Door

namespace Go.Proofs.YtdcbkeihgbekdaaDoor.Door
open Go Go.ChangeShapes Go.WideShapes Go.ChangeAt Go.RowKit
set_option linter.unusedVariables false

theorem list4 {α : Type} (l : List α) (h : (⟨l⟩ : Array α).size = 4) : ∃ a b c d, l = [a, b, c, d] := by
  match l, h with
  | [a, b, c, d], _ => exact ⟨a, b, c, d, rfl⟩
theorem u8_nat {x : Int} (h : (Lit.int .u8 x).wf = true) : ∃ n : Nat, x = n ∧ n < 256 := by
  simp [Lit.wf, IntKind.min, IntKind.max, IntKind.signed, IntKind.bits] at h
  exact ⟨x.toNat, by omega, by omega⟩
theorem cells5 : Tryd.prog.cellsOf 5 = 1 := by kernel_rfl
theorem cells23 : Tryd.prog.cellsOf 28 = 4 := by kernel_rfl
theorem host_array : Tryd.prog.underlying 28 = some (.array 4 5) := by kernel_rfl
set_option maxRecDepth 100000 in
/-- An address that came in, by value. -/
theorem open_host {H : Type} {enc : TypeId × Value → H} {W : World} {base b0 : Nat} {sp : Nat → Bool} {held : Bool} {v : Value} {d : DataW H} {p : List MemPlace} (hv : Value.okWide Tryd.prog W .any base 28 v) (h : DataW.Trod enc Tryd.prog W b0 sp held 28 v d p) :
    ∃ a b c e : Nat, a < 256 ∧ b < 256 ∧ c < 256 ∧ e < 256 ∧ v = .agg #[.int .u8 a, .int .u8 b, .int .u8 c, .int .u8 e] := by
  obtain ⟨cs, rfl, hsz, _⟩ : ∃ cs, v = .agg cs ∧ cs.size = Tryd.prog.cellsOf 28 ∧ Row.okWide Tryd.prog W .any base 28 cs := by
    simpa [Value.okWide, host_array] using hv
  rw [cells23] at hsz
  obtain ⟨l⟩ := cs
  obtain ⟨c0, c1, c2, c3, rfl⟩ := list4 l hsz
  obtain ⟨fuel, hf⟩ := h
  obtain ⟨y0, y1, y2, y3, m, hx, hy0, hy1, hy2, hy3⟩ := trod_array4 host_array cells5 hf
  obtain ⟨x0, e0, rfl, w0⟩ := DataW.trod_int Tryd.underlying5 hy0
  obtain ⟨x1, e1, rfl, w1⟩ := DataW.trod_int Tryd.underlying5 hy1
  obtain ⟨x2, e2, rfl, w2⟩ := DataW.trod_int Tryd.underlying5 hy2
  obtain ⟨x3, e3, rfl, w3⟩ := DataW.trod_int Tryd.underlying5 hy3
  simp at e0 e1 e2 e3
  subst e0 e1 e2 e3
  obtain ⟨a, rfl, ha⟩ := u8_nat w0
  obtain ⟨b, rfl, hb⟩ := u8_nat w1
  obtain ⟨c, rfl, hc⟩ := u8_nat w2
  obtain ⟨e, rfl, he⟩ := u8_nat w3
  exact ⟨a, b, c, e, ha, hb, hc, he, rfl⟩
end Go.Proofs.YtdcbkeihgbekdaaDoor.Door

namespace Go.Proofs.YtdcbkeihgbekdaaDoor.Door
open Go Go.ChangeShapes Go.WideShapes Go.ChangeAt Go.RowKit
set_option linter.unusedVariables false

theorem list5 {α : Type} (l : List α) (h : (⟨l⟩ : Array α).size = 5) : ∃ a b c d e, l = [a, b, c, d, e] := by
  match l, h with
  | [a, b, c, d, e], _ => exact ⟨a, b, c, d, e, rfl⟩
theorem cells3 : Tryd.prog.cellsOf 3 = 1 := by kernel_rfl
theorem cells25 : Tryd.prog.cellsOf 31 = 5 := by kernel_rfl
theorem end_struct : ∃ f0 f1, Tryd.prog.underlying 31 = some (.struct #[f0, f1]) ∧ f0.type = 28 ∧ f0.offset = 0 ∧ f1.type = 3 ∧ f1.offset = 4 := ⟨_, _, Tryd.underlying31, rfl, rfl, rfl, rfl⟩
set_option maxRecDepth 100000 in
theorem open_end {H : Type} {enc : TypeId × Value → H} {W : World} {base b0 : Nat} {sp : Nat → Bool} {held : Bool} {v : Value} {d : DataW H} {p : List MemPlace} (hv : Value.okWide Tryd.prog W .any base 31 v) (h : DataW.Trod enc Tryd.prog W b0 sp held 31 v d p) :
    ∃ (a b c e : Nat) (q : Int), a < 256 ∧ b < 256 ∧ c < 256 ∧ e < 256 ∧ (-9223372036854775808 ≤ q ∧ q ≤ 9223372036854775807) ∧ v = .agg #[.int .u8 a, .int .u8 b, .int .u8 c, .int .u8 e, .int .i64 q] := by
  obtain ⟨f0, f1, hst, ht0, ho0, ht1, ho1⟩ := end_struct
  obtain ⟨cs, rfl, hsz, _⟩ : ∃ cs, v = .agg cs ∧ cs.size = Tryd.prog.cellsOf 31 ∧ Row.okWide Tryd.prog W .any base 31 cs := by
    simpa [Value.okWide, hst] using hv
  rw [cells25] at hsz
  obtain ⟨l⟩ := cs
  obtain ⟨c0, c1, c2, c3, c4, rfl⟩ := list5 l hsz
  obtain ⟨fuel, hf⟩ := h
  obtain ⟨z0, z1, n, hx, _, g0, g1⟩ := trod_struct2 hst hf
  rw [ht0, ho0, cells23] at g0
  rw [ht1, ho1, cells3] at g1
  replace g0 : DataW.trod enc Tryd.prog W b0 sp held n 28 [c0, c1, c2, c3] = some z0 := g0
  replace g1 : DataW.trod enc Tryd.prog W b0 sp held n 3 [c4] = some z1 := g1
  obtain ⟨y0, y1, y2, y3, m, hx0, hy0, hy1, hy2, hy3⟩ := trod_array4 host_array cells5 g0
  obtain ⟨x0, e0, rfl, w0⟩ := DataW.trod_int Tryd.underlying5 hy0
  obtain ⟨x1, e1, rfl, w1⟩ := DataW.trod_int Tryd.underlying5 hy1
  obtain ⟨x2, e2, rfl, w2⟩ := DataW.trod_int Tryd.underlying5 hy2
  obtain ⟨x3, e3, rfl, w3⟩ := DataW.trod_int Tryd.underlying5 hy3
  obtain ⟨x4, e4, rfl, w4⟩ := DataW.trod_int Tryd.underlying3 g1
  simp at e0 e1 e2 e3 e4
  subst e0 e1 e2 e3 e4
  obtain ⟨a, rfl, ha⟩ := u8_nat w0
  obtain ⟨b, rfl, hb⟩ := u8_nat w1
  obtain ⟨c, rfl, hc⟩ := u8_nat w2
  obtain ⟨e, rfl, he⟩ := u8_nat w3
  exact ⟨a, b, c, e, x4, ha, hb, hc, he, int_bounds w4, rfl⟩
end Go.Proofs.YtdcbkeihgbekdaaDoor.Door

namespace Go.Proofs.YtdcbkeihgbekdaaDoor.Err
open Go.RowKit Go.Extern.Stop Go.Stop Go.Extern

/-! ### CLOSED FACTS ON THE MODEL's ENTRIES FOR internal/reflectlite, at this program's types: 25: *p.E · 27: **p.E · 23: error · 45: reflectlite's rtype · 1: how many package-level variables the dump has -/
theorem as_valueOf27 (t : Addr) (w : World) : (ReflectliteValue.unpack (.iface 101 (.pointer (some t)))).run Tryd.prog w
    = .ok (.agg #[.pointer (some ⟨8, 101, none⟩), .pointer (some ⟨w.heap.size, 0, none⟩), .int .u64 150]) (w.alloc (.cells #[.pointer (some t)] 101)) := by kernel_rfl
theorem as_type27 (a : Addr) (w : World) : (ReflectliteValue.methodAny (ReflectliteValue.valueError "reflectlite.Value.Type" 0) (fun t _ _ _ => ReflectliteType.toType t) #[.agg #[.pointer (some ⟨8, 101, none⟩), .pointer (some a), .int .u64 150]]).run Tryd.prog w
    = .ok (.iface 135 (.agg #[.pointer (some ⟨8, 101, none⟩)])) w := by kernel_rfl
theorem as_methodKind (h : Value) (w : World) : (Go.method 290 135 (.agg #[h]) "Kind").run Tryd.prog w = .ok (98, h) w := by kernel_rfl
theorem as_kind27 (w : World) : ((ReflectliteType.abiMethod fun t => (fun a : Nat => Value.int IntKind.u8 (a : Int)) <$> Rtype.kind t) #[.pointer (some ⟨8, 101, none⟩)]).run Tryd.prog w = .ok (.int .u8 22) w := by kernel_rfl
theorem as_kind25 (w : World) : ((ReflectliteType.abiMethod fun t => (fun a : Nat => Value.int IntKind.u8 (a : Int)) <$> Rtype.kind t) #[.pointer (some ⟨8, 94, none⟩)]).run Tryd.prog w = .ok (.int .u8 22) w := by kernel_rfl

/-! ### THE ENTRIES THAT READ OR WRITE MEMORY: laws with a premise on the cell (after Derived/Lib/ReflectliteSlice.lean's manner: each unfolding a lemma of its own, by rfl) -/
theorem rlm (z : Sem Value) (f : TypeId → Addr → Nat → Nat → Sem Value) (v : Value) :
    ReflectliteValue.method z f #[v] = (do match ← ReflectliteValue.parts v with | none => z | some (t, a, fl) => f t a fl (fl % 32)) := rfl
theorem as_parts27 (a : Addr) (w : World) : (ReflectliteValue.parts (.agg #[.pointer (some ⟨8, 101, none⟩), .pointer (some a), .int .u64 150])).run Tryd.prog w = .ok (some (101, a, 150)) w := by kernel_rfl
/-- (Value).IsNil at the Value of a **p.E that is not nil. -/
theorem as_isNil27 (a p : Addr) (W : World) (ha : W.cell? a = some (.pointer (some p))) :
    (ReflectliteValue.method (ReflectliteValue.valueError "reflectlite.Value.IsNil" 0) ReflectliteValue.isNil #[.agg #[.pointer (some ⟨8, 101, none⟩), .pointer (some a), .int .u64 150]]).run Tryd.prog W = .ok (.bool false) W := by
  rw [rlm]
  simp only [Sem.run_bind, as_parts27, Result.andThen]
  simp [ReflectliteValue.isNil, loadVar, isAgg, underlying, Tryd.underlying101, ha, Result.andThen]

theorem as_methodElem (h : Value) (w : World) : (Go.method 290 135 (.agg #[h]) "Elem").run Tryd.prog w = .ok (112, .agg #[h]) w := by kernel_rfl
theorem as_methodImplements (h : Value) (w : World) : (Go.method 290 135 (.agg #[h]) "Implements").run Tryd.prog w = .ok (113, .agg #[h]) w := by kernel_rfl
theorem as_methodAssignableTo (h : Value) (w : World) : (Go.method 290 135 (.agg #[h]) "AssignableTo").run Tryd.prog w = .ok (110, .agg #[h]) w := by kernel_rfl
theorem as_elem27 (w : World) : (ReflectliteType.method ReflectliteType.elem #[.agg #[.pointer (some ⟨8, 101, none⟩)]]).run Tryd.prog w = .ok (.iface 135 (.agg #[.pointer (some ⟨8, 94, none⟩)])) w := by kernel_rfl
theorem as_implements25 (w : World) : (ReflectliteType.relation "Implements" ReflectliteType.implements_ #[.agg #[.pointer (some ⟨8, 94, none⟩)], .iface 135 (.agg #[.pointer (some ⟨8, 47, none⟩)])]).run Tryd.prog w = .ok (.bool true) w := by kernel_rfl
theorem as_typeOf25 (v : Value) (w : World) : (ReflectliteType.typeOf #[.iface 94 v]).run Tryd.prog w = .ok (.iface 135 (.agg #[.pointer (some ⟨8, 94, none⟩)])) w := by kernel_rfl
theorem as_assignable25 (w : World) : (ReflectliteType.relation "AssignableTo" ReflectliteType.assignableTo #[.agg #[.pointer (some ⟨8, 94, none⟩)], .iface 135 (.agg #[.pointer (some ⟨8, 94, none⟩)])]).run Tryd.prog w = .ok (.bool true) w := by kernel_rfl
theorem as_valueOf25 (e : Addr) (w : World) : (ReflectliteValue.unpack (.iface 94 (.pointer (some e)))).run Tryd.prog w
    = .ok (.agg #[.pointer (some ⟨8, 94, none⟩), .pointer (some ⟨w.heap.size, 0, none⟩), .int .u64 150]) (w.alloc (.cells #[.pointer (some e)] 94)) := by kernel_rfl

theorem as_elemOf27 (w : World) : (Rtype.elem? 101).run Tryd.prog w = .ok (some 94) w := by kernel_rfl
theorem as_mk25 (p : Addr) (w : World) : (ReflectliteValue.mk 94 p ReflectliteValue.flagAddr).run Tryd.prog w = .ok (.agg #[.pointer (some ⟨8, 94, none⟩), .pointer (some p), .int .u64 406]) w := by kernel_rfl
/-- (Value).Elem at the Value of a **p.E that is not nil: the Value of the *p.E variable that it points to, addressable. -/
theorem as_elemV27 (a p : Addr) (W : World) (ha : W.cell? a = some (.pointer (some p))) :
    (ReflectliteValue.method (ReflectliteValue.valueError "reflectlite.Value.Elem" 0) ReflectliteValue.elem #[.agg #[.pointer (some ⟨8, 101, none⟩), .pointer (some a), .int .u64 150]]).run Tryd.prog W
      = .ok (.agg #[.pointer (some ⟨8, 94, none⟩), .pointer (some p), .int .u64 406]) W := by
  rw [rlm]
  simp only [Sem.run_bind, as_parts27, Result.andThen]
  simp [ReflectliteValue.elem, loadVar, isAgg, underlying, Tryd.underlying101, ha, Result.andThen, as_elemOf27, as_mk25]
theorem rls (v x : Value) : ReflectliteValue.set #[v, x] = (do
    let (some (dst, a, fl), some (src, b, _)) := (← ReflectliteValue.parts v, ← ReflectliteValue.parts x)
      | unsupported (.noEntry "extern/(internal/reflectlite.Value).Set.zeroValue")
    if fl / ReflectliteValue.flagAddr % 2 == 0 then unsupported (.noEntry "extern/(internal/reflectlite.Value).Set.unaddressable")
    let val ← loadVar src b
    if ← Rtype.directlyAssignable dst src then storeVar dst a val
    else if ← Rtype.implements dst src then
      if (← Rtype.kind src) == 20 then
        match val with
        | .nilIface => unsupported (.noEntry "extern/reflectlite: a nil value of one interface type handed on as a value of another")
        | _ => storeVar dst a val
      else storeVar dst a (.iface src val)
    else panicString ("reflectlite.Set: value of type " ++ (← Rtype.spelt src) ++ " is not assignable to type " ++ (← Rtype.spelt dst))
    pure (.tuple #[])) := rfl
theorem as_parts25a (a : Addr) (w : World) : (ReflectliteValue.parts (.agg #[.pointer (some ⟨8, 94, none⟩), .pointer (some a), .int .u64 406])).run Tryd.prog w = .ok (some (94, a, 406)) w := by kernel_rfl
theorem as_parts25 (a : Addr) (w : World) : (ReflectliteValue.parts (.agg #[.pointer (some ⟨8, 94, none⟩), .pointer (some a), .int .u64 150])).run Tryd.prog w = .ok (some (94, a, 150)) w := by kernel_rfl
theorem as_direct25 (w : World) : (Rtype.directlyAssignable 94 94).run Tryd.prog w = .ok true w := by kernel_rfl
/-- (Value).Set: the *p.E variable at 'ta' gets what the Value's own variable 'b' holds. -/
theorem as_set25 (ta b e : Addr) (old : Value) (W : World) (hb : W.cell? b = some (.pointer (some e))) (ht : W.cell? ta = some old) (hf : W.frozen? ta = false) :
    (ReflectliteValue.set #[.agg #[.pointer (some ⟨8, 94, none⟩), .pointer (some ta), .int .u64 406], .agg #[.pointer (some ⟨8, 94, none⟩), .pointer (some b), .int .u64 150]]).run Tryd.prog W
      = .ok (.tuple #[]) (W.setCell ta (.pointer (some e))) := by
  rw [rls]
  simp only [Sem.run_bind, as_parts25a, as_parts25, Result.andThen]
  simp [ReflectliteValue.flagAddr, loadVar, isAgg, underlying, Tryd.underlying94, hb, Result.andThen, as_direct25, storeVar, Value.cells, storeCells, Addr.add]
  rw [run_store Tryd.prog W ta _ _ (by rfl)]
  simp [ht, hf]

set_option maxHeartbeats 4000000 in
set_option maxRecDepth 100000 in
theorem as_hit (e t : Addr) (old : Value) (w : World) (hg : w.cell? ⟨4, 0, none⟩ = some (.iface 135 (.agg #[.pointer (some ⟨8, 47, none⟩)]))) (ht0 : w.cell? t = some old) (hf0 : w.frozen? t = false) :
    Calls Tryd.prog 49 #[.iface 94 (.pointer (some e)), .iface 101 (.pointer (some t))] w fun ev w' => ev = .returned (.bool true) ∧ w' = ((((w.alloc (.cells #[.pointer (some t)] 101)).alloc (.cells #[.pointer (some ⟨8, 101, none⟩), .pointer (some ⟨w.heap.size, 0, none⟩), .int .u64 150] 122)).alloc (.cells #[.pointer (some ⟨8, 101, none⟩), .pointer (some ⟨w.heap.size, 0, none⟩), .int .u64 150] 122)).alloc (.cells #[.pointer (some e)] 94)).setCell t (.pointer (some e)) := by
  have h6 := @run_callFunc_extern Tryd.prog 62 _ (fun args => ReflectliteValue.unpack (args.getD 0 (.tuple #[]))) Tryd.func62 (by kernel_rfl) (by kernel_rfl) (by kernel_rfl) (by kernel_rfl)
  have h7 := @run_callFunc_extern Tryd.prog 63 _ (ReflectliteValue.methodAny (ReflectliteValue.valueError "reflectlite.Value.Type" 0) (fun t _ _ _ => ReflectliteType.toType t)) Tryd.func63 (by kernel_rfl) (by kernel_rfl) (by kernel_rfl) (by kernel_rfl)
  have h8 := @run_callFunc_extern Tryd.prog 64 _ (ReflectliteValue.method (ReflectliteValue.valueError "reflectlite.Value.IsNil" 0) ReflectliteValue.isNil) Tryd.func64 (by kernel_rfl) (by kernel_rfl) (by kernel_rfl) (by kernel_rfl)
  have h27 := @run_callFunc_extern Tryd.prog 98 _ (ReflectliteType.abiMethod fun t => do pure (.int .u8 (← Rtype.kind t))) Tryd.func98 (by kernel_rfl) (by kernel_rfl) (by kernel_rfl) (by kernel_rfl)
  have h37 := @run_callFunc_extern Tryd.prog 112 _ (ReflectliteType.method ReflectliteType.elem) Tryd.func112 (by kernel_rfl) (by kernel_rfl) (by kernel_rfl) (by kernel_rfl)
  have h38 := @run_callFunc_extern Tryd.prog 113 _ (ReflectliteType.relation "Implements" ReflectliteType.implements_) Tryd.func113 (by kernel_rfl) (by kernel_rfl) (by kernel_rfl) (by kernel_rfl)
  have h10 := @run_callFunc_extern Tryd.prog 60 _ ReflectliteType.typeOf Tryd.func60 (by kernel_rfl) (by kernel_rfl) (by kernel_rfl) (by kernel_rfl)
  have h35 := @run_callFunc_extern Tryd.prog 110 _ (ReflectliteType.relation "AssignableTo" ReflectliteType.assignableTo) Tryd.func110 (by kernel_rfl) (by kernel_rfl) (by kernel_rfl) (by kernel_rfl)
  have h11 := @run_callFunc_extern Tryd.prog 75 _ (ReflectliteValue.method (ReflectliteValue.valueError "reflectlite.Value.Elem" 0) ReflectliteValue.elem) Tryd.func75 (by kernel_rfl) (by kernel_rfl) (by kernel_rfl) (by kernel_rfl)
  have h12 := @run_callFunc_extern Tryd.prog 76 _ ReflectliteValue.set Tryd.func76 (by kernel_rfl) (by kernel_rfl) (by kernel_rfl) (by kernel_rfl)
  have tO := as_typeOf25
  have mA := as_methodAssignableTo
  have a25 := as_assignable25
  have v25 := as_valueOf25
  have f6 := as_valueOf27
  have f7 := as_type27
  have mK := as_methodKind
  have mE := as_methodElem
  have mI := as_methodImplements
  have k27 := as_kind27
  have k25 := as_kind25
  have e27 := as_elem27
  have i25 := as_implements25
  have n8 := as_isNil27 ⟨w.heap.size, 0, none⟩ t ((w.alloc (.cells #[.pointer (some t)] 101)).alloc (.cells #[.pointer (some ⟨8, 101, none⟩), .pointer (some ⟨w.heap.size, 0, none⟩), .int .u64 150] 122)) (by simp)
  have hlt : 4 < w.heap.size := by
    rcases Nat.lt_or_ge 4 w.heap.size with h | h
    · exact h
    · simp [World.cell?, Array.getElem?_eq_none h] at hg
  have hg2 : ((w.alloc (.cells #[.pointer (some t)] 101)).alloc (.cells #[.pointer (some ⟨8, 101, none⟩), .pointer (some ⟨w.heap.size, 0, none⟩), .int .u64 150] 122)).cell? ⟨4, 0, none⟩ = some (.iface 135 (.agg #[.pointer (some ⟨8, 47, none⟩)])) := by
    rw [World.cell?_alloc_lt _ _ ⟨4, 0, none⟩ (by simp; omega), World.cell?_alloc_lt _ _ ⟨4, 0, none⟩ hlt]; exact hg
  have htl : t.block < w.heap.size := by
    rcases Nat.lt_or_ge t.block w.heap.size with h | h
    · exact h
    · simp [World.cell?, Array.getElem?_eq_none h] at ht0
  have el := as_elemV27 ⟨w.heap.size, 0, none⟩ t (((w.alloc (.cells #[.pointer (some t)] 101)).alloc (.cells #[.pointer (some ⟨8, 101, none⟩), .pointer (some ⟨w.heap.size, 0, none⟩), .int .u64 150] 122)).alloc (.cells #[.pointer (some ⟨8, 101, none⟩), .pointer (some ⟨w.heap.size, 0, none⟩), .int .u64 150] 122)) (by rw [World.cell?_alloc_lt _ _ ⟨w.heap.size, 0, none⟩ (by simp; omega)]; simp)
  have st := as_set25 t ⟨w.heap.size + 1 + 1 + 1, 0, none⟩ e old ((((w.alloc (.cells #[.pointer (some t)] 101)).alloc (.cells #[.pointer (some ⟨8, 101, none⟩), .pointer (some ⟨w.heap.size, 0, none⟩), .int .u64 150] 122)).alloc (.cells #[.pointer (some ⟨8, 101, none⟩), .pointer (some ⟨w.heap.size, 0, none⟩), .int .u64 150] 122)).alloc (.cells #[.pointer (some e)] 94))
    (by rw [World.cell?_alloc_at _ _ _ _ (by simp)]; rfl)
    (by rw [World.cell?_alloc_lt _ _ t (by simp; omega), World.cell?_alloc_lt _ _ t (by simp; omega), World.cell?_alloc_lt _ _ t (by simp; omega), World.cell?_alloc_lt _ _ t htl]; exact ht0)
    (by rw [World.frozen?_alloc_old _ _ t (by simp; omega), World.frozen?_alloc_old _ _ t (by simp; omega), World.frozen?_alloc_old _ _ t (by simp; omega), World.frozen?_alloc_old _ _ t (Nat.ne_of_lt htl)]; exact hf0)
  go_enter Tryd.func49, Tryd.ntmps49
  go_wp2
  refine wp_loop_rounds 1 ?_
  rw [rounds_succ]
  go_wp2
  go_ret
  exact ⟨rfl, rfl⟩
end Go.Proofs.YtdcbkeihgbekdaaDoor.Err

namespace Go.Proofs.YtdcbkeihgbekdaaDoor.Err
open Go.RowKit Go.Extern.Stop Go.Stop Go.Extern

/-! ### CLOSED FACTS: what 'reflectlite.TypeOf(target).Comparable()' gives at such a target -/
theorem is_fTypeOf (v : Value) (w : World) : (Extern.ReflectliteType.typeOf #[.iface 159 v]).run Tryd.prog w = .ok (.iface 135 (.agg #[.pointer (some ⟨8, 159, none⟩)])) w := by kernel_rfl
theorem is_fComparable (w : World) : ((Extern.ReflectliteType.method fun t => do Extern.Rtype.noPackHeld "Comparable" t; (fun a => Value.bool a.comparable) <$> typeInfo t) #[.agg #[.pointer (some ⟨8, 159, none⟩)]]).run Tryd.prog w = .ok (.bool true) w := by kernel_rfl
theorem is_fMethodComparable (v : Value) (w : World) : (Go.method 290 135 v "Comparable").run Tryd.prog w = .ok (111, v) w := by kernel_rfl
theorem is_fComp : (Tryd.prog.info? 159).map (·.comparable) = some true := by kernel_rfl
theorem is_fSize : (Tryd.prog.info? 178).map (·.size) = some 1 := by kernel_rfl

/-! ### CLOSED FACTS ON THE METHOD SETS: what errors.is's assertions find -/
theorem is_noIsE (v : Value) (xT : TypeId) (w : World) : (Instr.typeAssert (.iface 159 v) xT 137 true).run Tryd.prog w = .ok (.tuple #[.nilIface, .bool false]) w := run_typeAssert_lacksB Tryd.underlying137 (by kernel_rfl) (by kernel_rfl) v xT w
theorem is_noUnwrapE (v : Value) (xT : TypeId) (w : World) : (Instr.typeAssert (.iface 159 v) xT 140 true).run Tryd.prog w = .ok (.tuple #[.nilIface, .bool false]) w := run_typeAssert_lacksB Tryd.underlying140 (by kernel_rfl) (by kernel_rfl) v xT w
theorem is_noUnwrapsE (v : Value) (xT : TypeId) (w : World) : (Instr.typeAssert (.iface 159 v) xT 141 true).run Tryd.prog w = .ok (.tuple #[.nilIface, .bool false]) w := run_typeAssert_lacksB Tryd.underlying141 (by kernel_rfl) (by kernel_rfl) v xT w
theorem is_noIsW (v : Value) (xT : TypeId) (w : World) : (Instr.typeAssert (.iface 94 v) xT 137 true).run Tryd.prog w = .ok (.tuple #[.nilIface, .bool false]) w := run_typeAssert_lacksB Tryd.underlying137 (by kernel_rfl) (by kernel_rfl) v xT w
theorem is_hasUnwrapW (v : Value) (xT : TypeId) (w : World) : (Instr.typeAssert (.iface 94 v) xT 140 true).run Tryd.prog w = .ok (.tuple #[.iface 94 v, .bool true]) w := run_typeAssert_hasB Tryd.underlying140 (by kernel_rfl) v xT w
theorem is_methodUnwrap (v : Value) (w : World) : (Go.method 290 94 v "Unwrap").run Tryd.prog w = .ok (104, v) w := by kernel_rfl

set_option maxRecDepth 100000 in
/-- errors.Is(e, x), e a *bad that wraps x itself: one Unwrap, then equal. -/
theorem is_wrap_same (pb po : Nat) (b : Addr) (w : World) (h1 : w.cell? ⟨pb, po + 1, none⟩ = some (.iface 159 (.pointer (some b)))) :
    Calls Tryd.prog 48 #[.iface 94 (.pointer (some ⟨pb, po, none⟩)), .iface 159 (.pointer (some b))] w fun e w' => e = .returned (.bool true) ∧ w' = w := by
  obtain ⟨i, hi, hcmp⟩ := Option.map_eq_some_iff.1 is_fComp
  obtain ⟨j, hj, hjs⟩ := Option.map_eq_some_iff.1 is_fSize
  have h8 := @run_callFunc_extern Tryd.prog 60 _ Extern.ReflectliteType.typeOf Tryd.func60 (by kernel_rfl) (by kernel_rfl) (by kernel_rfl) (by kernel_rfl)
  have h32 := @run_callFunc_extern Tryd.prog 111 _ (Extern.ReflectliteType.method fun t => do Extern.Rtype.noPackHeld "Comparable" t; pure (.bool (← typeInfo t).comparable)) Tryd.func111 (by kernel_rfl) (by kernel_rfl) (by kernel_rfl) (by kernel_rfl)
  have tT := is_fTypeOf
  have cT := is_fComparable
  have mR := is_fMethodComparable
  have nE := is_noIsE
  have uE := is_noUnwrapE
  have vE := is_noUnwrapsE
  have nW := is_noIsW
  have uW := is_hasUnwrapW
  have mU := is_methodUnwrap
  have heq := run_eql_iface_ptr_same (P := Tryd.prog) w b Tryd.underlying47 Tryd.underlying159 hi hcmp hj
  have hty := run_eql_iface_types (P := Tryd.prog) 94 159 (.pointer (some ⟨pb, po, none⟩)) (.pointer (some b)) Tryd.underlying47 (by decide) w
  go_enter Tryd.func48, Tryd.ntmps48
  go_wp2
  refine wp_loop_rounds 2 ?_
  rw [rounds_succ]
  go_wp2
  rw [rounds_succ]
  go_wp2
  go_ret
  exact ⟨rfl, rfl⟩

set_option maxRecDepth 100000 in
/-- errors.Is(e, x), e a *bad that wraps another error of errors.New's make. -/
theorem is_wrap_other (pb po : Nat) (b a : Addr) (ca cb : Array Value) (ta tb : TypeId) (w : World) (h1 : w.cell? ⟨pb, po + 1, none⟩ = some (.iface 159 (.pointer (some a)))) (hne : a ≠ b) (ha : w.heap[a.block]? = some (.cells ca ta (0, 0))) (hb : w.heap[b.block]? = some (.cells cb tb (0, 0))) :
    Calls Tryd.prog 48 #[.iface 94 (.pointer (some ⟨pb, po, none⟩)), .iface 159 (.pointer (some b))] w fun e w' => e = .returned (.bool false) ∧ w' = w := by
  obtain ⟨i, hi, hcmp⟩ := Option.map_eq_some_iff.1 is_fComp
  obtain ⟨j, hj, hjs⟩ := Option.map_eq_some_iff.1 is_fSize
  have h8 := @run_callFunc_extern Tryd.prog 60 _ Extern.ReflectliteType.typeOf Tryd.func60 (by kernel_rfl) (by kernel_rfl) (by kernel_rfl) (by kernel_rfl)
  have h32 := @run_callFunc_extern Tryd.prog 111 _ (Extern.ReflectliteType.method fun t => do Extern.Rtype.noPackHeld "Comparable" t; pure (.bool (← typeInfo t).comparable)) Tryd.func111 (by kernel_rfl) (by kernel_rfl) (by kernel_rfl) (by kernel_rfl)
  have tT := is_fTypeOf
  have cT := is_fComparable
  have mR := is_fMethodComparable
  have nE := is_noIsE
  have uE := is_noUnwrapE
  have vE := is_noUnwrapsE
  have nW := is_noIsW
  have uW := is_hasUnwrapW
  have mU := is_methodUnwrap
  have heq := run_eql_iface_ptr_other (P := Tryd.prog) w Tryd.underlying47 Tryd.underlying159 hi hcmp hj (by rw [hjs]; decide) hne ha hb
  have hty := run_eql_iface_types (P := Tryd.prog) 94 159 (.pointer (some ⟨pb, po, none⟩)) (.pointer (some b)) Tryd.underlying47 (by decide) w
  go_enter Tryd.func48, Tryd.ntmps48
  go_wp2
  refine wp_loop_rounds 2 ?_
  rw [rounds_succ]
  go_wp2
  rw [rounds_succ]
  go_wp2
  go_ret
  exact ⟨rfl, rfl⟩

end Go.Proofs.YtdcbkeihgbekdaaDoor.Err

set_option linter.unusedVariables false
namespace Go.Proofs.YtdcbkeihgbekdaaDoor.Laws
open Go Go.RowKit Go.Proofs.YtdcbkeihgbekdaaDoorW.PrintWords

theorem own_ge {w : World} {base : Nat} {e : TypeId} {size n : Nat} {v : Value} {xs : List Value} (h : w.ownsRow base e size v n xs) (k : Nat) (hk : v.ownBlock = some k) : base ≤ k := own_base h k hk

theorem new_cells (w : World) (xs : List Value) (T : TypeId) (cs : Array Value) (h : cs = xs.toArray) : ∀ j u, xs[j]? = some u → (w.alloc (.cells cs T)).cell? ((⟨w.heap.size, 0, none⟩ : Addr).add j) = some u := by
  intro j u hj
  subst h
  rw [add_plain, World.cell?_alloc_at _ _ _ _ rfl]
  simpa using hj

/-- A row that was made, cell by cell. -/
theorem own_cells {w : World} {base : Nat} {e : TypeId} {n : Nat} {v : Value} {xs : List Value} (h : w.ownsRow base e 1 v n xs) (hn : 0 < n) : ∃ q c, v = .slice (some ⟨q, 0, none⟩) n c ∧ n ≤ c ∧ base ≤ q ∧ q < w.heap.size ∧ ∀ (j : Nat) x, xs[j]? = some x → w.cell? ⟨q, 0 + j, none⟩ = some x := by
  obtain ⟨h1, h2⟩ := h
  rcases h2 with ⟨_, h2⟩ | ⟨g, cap, cur, rfl, hg, hh, hc, hm, hs, ht⟩
  · omega
  · refine ⟨g, cap, rfl, hc, hg, blk_lt hh, fun j x hx => ?_⟩
    rw [Nat.zero_add, blk_cell hh, ← Array.getElem?_toList]
    rw [← ht] at hx
    have hj := (List.getElem?_eq_some_iff.1 hx).1
    rw [List.getElem?_take_of_lt (by simp at hj; omega)] at hx
    exact hx

section
variable {P : Program} {ops : Array Oper} {rest : List Oper} {o : Oper} {a : Act} {Q : Exit → Act → World → Prop} {w : World}

/-- Only at the operation that writes this slot. -/
theorem gate (d : Nat) (_h : o.dst = some d) (h : wpList P ops Q (o :: rest) a w) : wpList P ops Q (o :: rest) a w := h

theorem append_none (t ty e : TypeId) (i : TypeInfo) (ht : P.underlying t = some (.slice e)) (hi : P.info? e = some i) (v : Value) (n c : Nat) (base size : Nat) (xs : List Value) (hown : w.ownsRow base e size v n xs) (hsl : ∃ A k, v = .slice A n k ∧ n ≤ k) :
    (Builtin.append_ #[t, t] ty #[v, .slice none 0 c]).run P w = .ok v w := by
  obtain ⟨A, k, rfl, hk⟩ := hsl
  cases A <;> simp [Builtin.append_, run_underlying ht, hi, sizeOf, typeInfo, Builtin.lenOf, Builtin.firstCells, Result.andThen, storeCells, hk]

theorem append_any (hgd : o.guard = none) (s x : Operand) (t : TypeId)
    (ho : o.op = .call { callee := .builtin .append, args := #[s, x], argTypes := #[t, t] })
    (base : Nat) (e : TypeId) (i : TypeInfo) (z : Value) (size bytes : Nat) (ht : P.underlying t = some (.slice e)) (hi : P.info? e = some i) (hz : i.zero = some z)
    (hsize : i.size = size) (hby : i.bytes = bytes) (hzs : z.cells.size = size) (hsz : 0 < size)
    (v : Value) (n : Nat) (xs : List Value) (hs : a.eval s = v) (hown : w.ownsRow base e size v n xs)
    (A : Option Addr) (m c : Nat) (news : List Value) (hx : a.eval x = .slice A m c) (hl : news.length = m * size) (hnews : 0 < m → ∃ ad, A = some ad ∧ ∀ j u, news[j]? = some u → w.cell? (ad.add j) = some u) (h1 : ∀ u ∈ news, u.oneCell' = true)
    (h63 : n + m ≤ maxLen) (hbytes : (n + m) * bytes ≤ 140737488355328) (hbase : base ≤ w.heap.size)
    (h : ∀ v' w', w'.ownsRow base e size v' (n + m) (xs ++ news) → w.grownBy w' v.ownBlock → (v' = .slice none 0 0 ↔ v = .slice none 0 0 ∧ m = 0) → (v'.ownBlock = v.ownBlock ∨ v'.ownBlock = some w.heap.size) → wpList P ops Q rest (a.put o.dst v') w') :
    wpList P ops Q (o :: rest) a w := by
  cases A with
  | some ad =>
    refine wpList_append_own_at w hgd s x t ho base e i z size bytes ht hi hz hsize hby hzs hsz v n xs hs hown ad m c news hx hl (fun j u hj => ?_) h1 h63 hbytes hbase h
    have hm : 0 < m := by
      rcases Nat.eq_zero_or_pos m with rfl | hm
      · have : news = [] := List.length_eq_zero_iff.1 (by rw [hl]; simp)
        rw [this] at hj; cases hj
      · exact hm
    obtain ⟨ad', e', hc⟩ := hnews hm
    cases e'
    exact hc j u hj
  | none =>
    have hm : m = 0 := by
      rcases Nat.eq_zero_or_pos m with hm | hm
      · exact hm
      · obtain ⟨ad', e', _⟩ := hnews hm; cases e'
    subst hm
    have hn : news = [] := List.length_eq_zero_iff.1 (by rw [hl]; simp)
    subst hn
    have hsl : ∃ A k, v = .slice A n k ∧ n ≤ k := by
      rcases hown.2 with ⟨rfl, rfl⟩ | ⟨g, cap, cur, rfl, _, _, hc, _⟩
      · exact ⟨none, 0, rfl, Nat.le_refl _⟩
      · exact ⟨_, _, rfl, hc⟩
    have hr := append_none (P := P) (w := w) t o.type e i ht hi v n c base size xs hown hsl
    refine wpList_plain hgd fun K hK => ?_
    unfold Oper.wp execOp
    simp only [ho, resolve, invoke, builtin, Sem.run_bind, Sem.run_pure, Result.andThen_ok, List.map_toArray, List.map_cons, List.map_nil, hs, hx, hr]
    refine hK _ _ (h v w ?_ ⟨rfl, rfl, rfl, Nat.le_refl _, fun _ _ _ => rfl⟩ ⟨fun h => ⟨h, rfl⟩, fun h => h.1⟩ (.inl rfl))
    simpa using hown
end
end Go.Proofs.YtdcbkeihgbekdaaDoor.Laws

namespace Go.Proofs.YtdcbkeihgbekdaaDoor.Cut
open Go

/-- The parts of a text between bytes of one kind. -/
def cut (c : UInt8) : List UInt8 → List (List UInt8)
  | [] => [[]]
  | b :: l => if b = c then [] :: cut c l else match cut c l with
    | p :: r => (b :: p) :: r
    | [] => [[b]]
/-- Parts, one behind the other, with a byte between. -/
def jn (c : UInt8) : List (List UInt8) → List UInt8
  | [] => []
  | [p] => p
  | p :: q :: r => p ++ c :: jn c (q :: r)

theorem cut_ne (c : UInt8) (l : List UInt8) : cut c l ≠ [] := by
  cases l with
  | nil => simp [cut]
  | cons b l => unfold cut; split; · simp
                split <;> simp
theorem jn_cons (c : UInt8) (p : List UInt8) {r : List (List UInt8)} (h : r ≠ []) : jn c (p :: r) = p ++ c :: jn c r := by
  cases r with
  | nil => exact absurd rfl h
  | cons q r => rfl
theorem jn_cut (c : UInt8) : ∀ l : List UInt8, jn c (cut c l) = l
  | [] => rfl
  | b :: l => by
    have ih := jn_cut c l
    unfold cut
    split
    · rename_i hb
      rw [jn_cons c [] (cut_ne c l), ih, hb]; rfl
    · have hn := cut_ne c l
      match h : cut c l with
      | [] => exact absurd h hn
      | [p] => rw [h] at ih; simp only [jn] at ih ⊢; rw [ih]
      | p :: q :: r => rw [h] at ih; simp only [jn] at ih ⊢; rw [← ih]; rfl
theorem cut_plain (c : UInt8) : ∀ p : List UInt8, c ∉ p → cut c p = [p]
  | [], _ => rfl
  | b :: p, h => by
    simp only [List.mem_cons, not_or] at h
    rw [cut, if_neg (fun e => h.1 e.symm), cut_plain c p h.2]
theorem cut_app (c : UInt8) (l : List UInt8) : ∀ p : List UInt8, c ∉ p → cut c (p ++ c :: l) = p :: cut c l
  | [], _ => by rw [List.nil_append, cut, if_pos rfl]
  | b :: p, h => by
    simp only [List.mem_cons, not_or] at h
    rw [List.cons_append, cut, if_neg (fun e => h.1 e.symm), cut_app c l p h.2]
theorem cut_jn (c : UInt8) : ∀ ps : List (List UInt8), ps ≠ [] → (∀ p ∈ ps, c ∉ p) → cut c (jn c ps) = ps
  | [], h, _ => absurd rfl h
  | [p], _, h => cut_plain c p (h p (List.mem_cons_self ..))
  | p :: q :: r, _, h => by
    rw [jn, cut_app c _ p (h p (List.mem_cons_self ..)), cut_jn c (q :: r) (by simp) (fun x hx => h x (List.mem_cons_of_mem _ hx))]

theorem join_jn (c : UInt8) : ∀ ps : List (List UInt8), Lib.join ps [c] = jn c ps
  | [] => rfl
  | [p] => Lib.join_one p [c]
  | p :: q :: r => by
    have ih := join_jn c (q :: r)
    simp only [Lib.join, List.intercalate, List.intersperse, List.flatten_cons] at ih ⊢
    rw [jn, ← ih]; rfl

theorem index_one_eq (c : UInt8) (l : List UInt8) : Lib.index (c :: l) [c] = 0 := by
  simp [Lib.index, List.isPrefixOf]
theorem index_one_ne (b c : UInt8) (l : List UInt8) (h : b ≠ c) : Lib.index (b :: l) [c] = if (Lib.index l [c] == -1) = true then -1 else Lib.index l [c] + 1 := by
  have : (c == b) = false := by simpa using fun e => h e.symm
  simp [Lib.index, List.isPrefixOf, this]

theorem split_cut (c : UInt8) : ∀ l : List UInt8, Lib.splitK [c] 0 (Lib.count l [c]) l = cut c l
  | [] => by simp [Lib.count_one, Lib.splitK, cut]
  | b :: l => by
    have ih := split_cut c l
    by_cases hb : b = c
    · subst hb
      rw [Lib.count_cons_eq, Nat.add_comm, Lib.splitK, index_one_eq, cut, if_pos rfl]
      simp only [List.length_cons, List.length_nil]
      rw [if_neg (by decide)]
      simpa using ih
    · rw [Lib.count_cons_ne b c l hb, cut, if_neg hb]
      have hn := cut_ne c l
      rw [← ih] at hn ⊢
      cases hk : Lib.count l [c] with
      | zero => simp [Lib.splitK]
      | succ m =>
        rw [Lib.splitK, Lib.splitK, index_one_ne b c l hb]
        by_cases hm : (Lib.index l [c] == -1) = true
        · simp [hm]
        · have hge := Lib.index_ge l [c]
          have hne : Lib.index l [c] ≠ -1 := by simpa using hm
          obtain ⟨i, hi⟩ : ∃ i : Nat, Lib.index l [c] = i := ⟨(Lib.index l [c]).toNat, by omega⟩
          rw [hi]
          have h1 : ¬ (((i : Int) == -1) = true) := by simp <;> omega
          have h2 : ¬ (((i : Int) + 1 == -1) = true) := by simp <;> omega
          rw [if_neg h1, if_neg h1, if_neg h2]
          simp only [Int.toNat_natCast, show ((i : Int) + 1).toNat = i + 1 from by omega, Nat.add_zero, List.take_succ_cons, List.length_cons, List.length_nil]
          rw [show i + 1 + (0 + 1) = (i + 1) + 1 from by omega, List.drop_succ_cons]
/-- strings.Split by one byte. -/
theorem splitB_cut (c : UInt8) (s : ByteArray) : (Lib.splitB ⟨#[c]⟩ 0 (Lib.countB s ⟨#[c]⟩) s).map (·.data.toList) = cut c s.data.toList := by
  rw [Lib.splitB_data]
  exact split_cut c s.data.toList
end Go.Proofs.YtdcbkeihgbekdaaDoor.Cut

namespace Go.Proofs.YtdcbkeihgbekdaaDoor.Dig
open Go Go.RowKit Go.Proofs.YtdcbkeihgbekdaaDoorW.PrintWords

/-- The digits of a number. -/
def dig (u : Nat) : List Int := if u < 10 then [48 + (u : Int)] else dig (u / 10) ++ [48 + ((u % 10 : Nat) : Int)]
termination_by u
decreasing_by omega

/-- A number as it is written. -/
def num (n : Int) : List Int := if n < 0 then 45 :: dig n.natAbs else dig n.natAbs

theorem dig_small {u : Nat} (h : u < 10) : dig u = [48 + (u : Int)] := by rw [dig, if_pos h]
theorem dig_big {u : Nat} (h : 10 ≤ u) : dig u = dig (u / 10) ++ [48 + ((u % 10 : Nat) : Int)] := by rw [dig, if_neg (by omega)]

theorem dig_len : ∀ (k u : Nat), u < 10 ^ (k + 1) → (dig u).length ≤ k + 1
  | 0, u, h => by rw [dig_small (by simpa using h)]; simp
  | k + 1, u, h => by
    by_cases hs : u < 10
    · rw [dig_small hs]; simp
    · rw [dig_big (by omega)]
      have := dig_len k (u / 10) (by rw [Nat.pow_succ] at h; omega)
      simp; omega
theorem dig_pos (u : Nat) : 1 ≤ (dig u).length := by
  by_cases hs : u < 10
  · rw [dig_small hs]; simp
  · rw [dig_big (by omega)]; simp

/-- What the loop of Num holds: U the whole number, a where the text begins, u what is left, f the first round, tl the text. -/
def Inv (U a u : Nat) (f : Bool) (tl : List Int) : Prop :=
  u ≤ U ∧ a + tl.length = 24 ∧ ((f = true ∧ tl = [] ∧ u = U) ∨ (f = false ∧ 0 < u ∧ dig U = dig u ++ tl) ∨ (f = false ∧ u = 0 ∧ dig U = tl))

theorem Inv.start (U : Nat) : Inv U 24 U true [] := ⟨Nat.le_refl _, rfl, .inl ⟨rfl, rfl, rfl⟩⟩
theorem Inv.low {U a u : Nat} {f : Bool} {tl : List Int} (h : Inv U a u f tl) (hU : U < 10 ^ 20) : 4 ≤ a := by
  have := dig_len 19 U hU
  rcases h with ⟨hle, h0, ⟨_, rfl, _⟩ | ⟨_, _, h1⟩ | ⟨_, _, h1⟩⟩
  · simp at h0; omega
  · rw [h1] at this; simp at this; omega
  · rw [h1] at this; omega
theorem Inv.next {U a u : Nat} {f : Bool} {tl : List Int} (h : Inv U a u f tl) (hU : U < 10 ^ 20) (hl : f = true ∨ 0 < u) :
    5 ≤ a ∧ Inv U (a - 1) (u / 10) false ((48 + ((u % 10 : Nat) : Int)) :: tl) := by
  have hlen := dig_len 19 U hU
  have key : dig U = dig u ++ tl ∧ 5 ≤ a := by
    rcases h with ⟨hle, h0, ⟨_, rfl, rfl⟩ | ⟨_, _, h1⟩ | ⟨hf, hu, h1⟩⟩
    · simp at h0; simp; omega
    · refine ⟨h1, ?_⟩
      have := dig_pos u
      rw [h1] at hlen; simp at hlen; omega
    · rcases hl with hl | hl
      · rw [hf] at hl; cases hl
      · omega
  refine ⟨key.2, ?_, ?_, ?_⟩
  · have := h.1; omega
  · have := h.2.1; simp; omega
  · by_cases hs : u < 10
    · refine .inr (.inr ⟨rfl, by omega, ?_⟩)
      rw [key.1, dig_small hs, Nat.mod_eq_of_lt hs]; rfl
    · refine .inr (.inl ⟨rfl, by omega, ?_⟩)
      rw [key.1, dig_big (by omega)]; simp
theorem Inv.done {U a u : Nat} {f : Bool} {tl : List Int} (h : Inv U a u f tl) (hf : f = false) (hu : u = 0) : dig U = tl := by
  rcases h with ⟨_, _, ⟨h1, _⟩ | ⟨_, h1, _⟩ | ⟨_, _, h1⟩⟩
  · rw [hf] at h1; cases h1
  · omega
  · exact h1

/-- The cells of Num's array: noughts, then the text. -/
def cells (a : Nat) (tl : List Int) : Array Value := ((List.replicate a (0 : Int) ++ tl).map fun x => .int .u8 x).toArray
theorem cells_put (a : Nat) (tl : List Int) (x : Int) (h : 1 ≤ a) : (cells a tl).setIfInBounds (a - 1) (.int .u8 x) = cells (a - 1) (x :: tl) := by
  obtain ⟨b, rfl⟩ : ∃ b, a = b + 1 := ⟨a - 1, by omega⟩
  simp only [cells, Nat.add_sub_cancel]
  rw [List.setIfInBounds_toArray]
  congr 1
  rw [← List.map_set]
  congr 1
  rw [List.replicate_succ', List.append_assoc, List.set_append_right _ _ (by simp)]
  simp
theorem cells_at (a : Nat) (tl : List Int) (j : Nat) (h : j < tl.length) : (cells a tl)[a + j]? = some (.int .u8 (rd tl j)) := by
  simp [cells, rd, List.getD, h]

theorem cells_nought (a : Nat) (tl : List Int) (j : Nat) (h : j < a) : (cells a tl)[j]? = some (.int .u8 0) := by
  simp only [cells, List.getElem?_toArray, List.getElem?_map]
  rw [List.getElem?_append_left (by simpa using h)]
  simp [h]
theorem digit_at (u : Nat) (h : u % 10 < (⟨#[48, 49, 50, 51, 52, 53, 54, 55, 56, 57]⟩ : ByteArray).size) : (((⟨#[48, 49, 50, 51, 52, 53, 54, 55, 56, 57]⟩ : ByteArray)[u % 10]'h).toNat : Int) = 48 + ((u % 10 : Nat) : Int) := by
  have key : ∀ v : Fin 10, (((⟨#[48, 49, 50, 51, 52, 53, 54, 55, 56, 57]⟩ : ByteArray)[v.1]'v.2).toNat : Int) = 48 + ((v.1 : Nat) : Int) := by decide +kernel
  exact key ⟨u % 10, Nat.mod_lt _ (by decide)⟩
/-! ### The number that a text is -/
def isDig (c : UInt8) : Bool := decide (48 ≤ c.toNat) && decide (c.toNat ≤ 57)
def val (l : List UInt8) : Nat := l.foldl (fun n c => 10 * n + (c.toNat - 48)) 0
def getN (l : List UInt8) : Option Nat := if l ≠ [] ∧ l.length ≤ 18 ∧ (l.head? = some 48 → l.length = 1) ∧ l.all isDig = true then some (val l) else none
def get (l : List UInt8) (most : Int) : Int × Bool := match getN l with
  | some n => if most < (n : Int) then (0, false) else ((n : Int), true)
  | none => (0, false)

theorem index_dig (c : UInt8) : Lib.indexByte [48, 49, 50, 51, 52, 53, 54, 55, 56, 57] c = if isDig c = true then ((c.toNat - 48 : Nat) : Int) else -1 := by
  have key : ∀ c : Fin 256, Lib.indexByte [48, 49, 50, 51, 52, 53, 54, 55, 56, 57] (UInt8.ofNat c.1) = if isDig (UInt8.ofNat c.1) = true then (((UInt8.ofNat c.1).toNat - 48 : Nat) : Int) else -1 := by decide +kernel
  have h := key ⟨c.toNat, c.toNat_lt⟩
  simpa using h

theorem val_snoc (l : List UInt8) (c : UInt8) : val (l ++ [c]) = 10 * val l + (c.toNat - 48) := by simp [val, List.foldl_append]
theorem val_lt : ∀ (n : Nat) (l : List UInt8), l.length = n → l.all isDig = true → val l < 10 ^ n
  | 0, l, h, _ => by obtain rfl := List.length_eq_zero_iff.1 h; simp [val]
  | n + 1, l, h, ha => by
    obtain ⟨m, c, rfl⟩ : ∃ m c, l = m ++ [c] := ⟨l.dropLast, l.getLast (by intro e; simp [e] at h), (List.dropLast_concat_getLast _).symm⟩
    simp only [List.all_append, List.all_cons, List.all_nil, Bool.and_true, Bool.and_eq_true] at ha
    have := val_lt n m (by simpa using h) ha.1
    have h2 := ha.2
    simp only [isDig, Bool.and_eq_true, decide_eq_true_eq] at h2
    rw [val_snoc, Nat.pow_succ]; omega

/-- The digits as bytes. -/
def digU (u : Nat) : List UInt8 := (dig u).map fun n => UInt8.ofNat n.toNat
theorem digU_small {u : Nat} (h : u < 10) : digU u = [UInt8.ofNat (48 + u)] := by
  rw [digU, dig_small h]; simp only [List.map_cons, List.map_nil]; rw [show (48 + (u : Int)).toNat = 48 + u from by omega]
theorem digU_big {u : Nat} (h : 10 ≤ u) : digU u = digU (u / 10) ++ [UInt8.ofNat (48 + u % 10)] := by
  rw [digU, dig_big h, List.map_append]; simp only [List.map_cons, List.map_nil]; rw [show (48 + ((u % 10 : Nat) : Int)).toNat = 48 + u % 10 from by omega]; rfl
theorem digit_nat (d : Nat) (h : d < 10) : (UInt8.ofNat (48 + d)).toNat = 48 + d := by
  rw [UInt8.toNat_ofNat']; omega
theorem digit_isDig (d : Nat) (h : d < 10) : isDig (UInt8.ofNat (48 + d)) = true := by
  simp only [isDig, digit_nat d h, Bool.and_eq_true, decide_eq_true_eq]; omega
theorem digU_ne (u : Nat) : digU u ≠ [] := by
  intro h; have := dig_pos u; have h2 := congrArg List.length h; rw [digU, List.length_map] at h2; simp only [List.length_nil] at h2; omega
theorem digU_len (u : Nat) : (digU u).length = (dig u).length := by simp [digU]

theorem head_app {m : List UInt8} (x : List UInt8) (h : m ≠ []) : (m ++ x).head? = m.head? := by cases m <;> simp_all

theorem digU_all (u : Nat) : (digU u).all isDig = true ∧ val (digU u) = u ∧ ((digU u).head? = some 48 → u = 0) := by
  induction u using Nat.strongRecOn with
  | _ u ih =>
    by_cases hs : u < 10
    · rw [digU_small hs]
      refine ⟨by simp only [List.all_cons, List.all_nil, Bool.and_true]; exact digit_isDig u hs, by simp only [val, List.foldl_cons, List.foldl_nil]; rw [digit_nat u hs]; omega, fun h => ?_⟩
      have h' : UInt8.ofNat (48 + u) = 48 := by simpa using h
      have := congrArg UInt8.toNat h'
      rw [digit_nat u hs] at this
      have e : (48 : UInt8).toNat = 48 := rfl
      omega
    · have ⟨h1, h2, h3⟩ := ih (u / 10) (by omega)
      have hm : u % 10 < 10 := Nat.mod_lt _ (by decide)
      rw [digU_big (by omega)]
      refine ⟨by rw [List.all_append, h1]; simp only [List.all_cons, List.all_nil, Bool.and_true, Bool.true_and]; exact digit_isDig _ hm, by rw [val_snoc, h2, digit_nat _ hm]; omega, fun h => ?_⟩
      rw [head_app _ (digU_ne _)] at h
      have := h3 h; omega

theorem toNat_back (c : UInt8) (h : isDig c = true) : UInt8.ofNat (48 + (c.toNat - 48)) = c := by
  simp only [isDig, Bool.and_eq_true, decide_eq_true_eq] at h
  rw [show 48 + (c.toNat - 48) = c.toNat from by omega]; simp

/-- A text of digits that begins by no nought, but alone, is its number as it is written. -/
theorem digU_val : ∀ (n : Nat) (l : List UInt8), l.length = n + 1 → l.all isDig = true → (l.head? = some 48 → l.length = 1) → digU (val l) = l ∧ (l.head? ≠ some 48 → 0 < val l)
  | 0, l, h, ha, _ => by
    obtain ⟨c, rfl⟩ := List.length_eq_one_iff.1 h
    simp only [List.all_cons, List.all_nil, Bool.and_true] at ha
    have hd := ha
    simp only [isDig, Bool.and_eq_true, decide_eq_true_eq] at hd
    have hv : val [c] = c.toNat - 48 := by simp [val]
    rw [hv]
    refine ⟨?_, fun h => ?_⟩
    · rw [digU_small (by omega), toNat_back c ha]
    · have : c ≠ 48 := by simpa using h
      have h2 : c.toNat ≠ 48 := fun e => this (by apply UInt8.toNat_inj.1; rw [e]; rfl)
      omega
  | n + 1, l, h, ha, hz => by
    obtain ⟨m, c, rfl⟩ : ∃ m c, l = m ++ [c] := ⟨l.dropLast, l.getLast (by intro e; simp [e] at h), (List.dropLast_concat_getLast _).symm⟩
    simp only [List.all_append, List.all_cons, List.all_nil, Bool.and_true, Bool.and_eq_true] at ha
    have hml : m.length = n + 1 := by simpa using h
    have hm : m ≠ [] := by intro e; simp [e] at hml
    rw [head_app _ hm] at hz ⊢
    have hz2 : m.head? ≠ some 48 := fun e => by have := hz e; rw [List.length_append] at this; simp only [List.length_cons, List.length_nil] at this; omega
    have ⟨i1, i2⟩ := digU_val n m hml ha.1 (fun e => absurd e hz2)
    have i3 := i2 hz2
    have hd := ha.2
    simp only [isDig, Bool.and_eq_true, decide_eq_true_eq] at hd
    rw [val_snoc]
    refine ⟨?_, fun _ => by omega⟩
    rw [digU_big (by omega), show (10 * val m + (c.toNat - 48)) / 10 = val m from by omega, show (10 * val m + (c.toNat - 48)) % 10 = c.toNat - 48 from by omega, i1, toNat_back c ha.2]

/-- A text is a number just where it is that number as it is written, of at most eighteen digits. -/
theorem getN_iff (l : List UInt8) (n : Nat) : getN l = some n ↔ l = digU n ∧ n < 1000000000000000000 := by
  constructor
  · intro h
    unfold getN at h
    split at h
    · rename_i hc
      obtain ⟨h1, h2, h3, h4⟩ := hc
      cases h
      have hp : 0 < l.length := List.length_pos_iff.2 h1
      have ⟨e, _⟩ := digU_val (l.length - 1) l (by omega) h4 h3
      refine ⟨e.symm, ?_⟩
      have := val_lt l.length l rfl h4
      exact Nat.lt_of_lt_of_le this (Nat.le_trans (Nat.pow_le_pow_right (by decide) h2) (by decide))
    · cases h
  · rintro ⟨rfl, hn⟩
    have ⟨a1, a2, a3⟩ := digU_all n
    have hl : (digU n).length ≤ 18 := by rw [digU_len]; exact dig_len 17 n (by omega)
    rw [getN, if_pos ⟨digU_ne n, hl, fun h => by rw [a3 h, digU_small (by decide)]; rfl, a1⟩, a2]

/-- A number as it is written, as bytes. -/
def numU (n : Int) : List UInt8 := if n < 0 then 45 :: digU n.natAbs else digU n.natAbs
theorem numU_eq (n : Int) : strOfNums (num n) = ⟨(numU n).toArray⟩ := by
  unfold num numU strOfNums
  split <;> simp [digU]
theorem numU_nat (n : Nat) : numU (n : Int) = digU n := by rw [numU, if_neg (by omega)]; simp
/-- An address as it is written. -/
def hostU (a b c d : Nat) : List UInt8 := digU a ++ 46 :: (digU b ++ 46 :: (digU c ++ 46 :: digU d))

/-! ### The address that a text is -/
def get255 (l : List UInt8) : Option Nat := (getN l).bind fun n => if n ≤ 255 then some n else none
theorem get255_get (l : List UInt8) : get l 255 = match get255 l with
  | some n => ((n : Int), true)
  | none => (0, false) := by
  unfold get get255
  cases h : getN l with
  | none => rfl
  | some n =>
    simp only [Option.bind_some]
    by_cases hn : n ≤ 255
    · rw [if_pos hn, if_neg (by omega)]
    · rw [if_neg hn, if_pos (by omega)]
theorem get255_iff (l : List UInt8) (n : Nat) : get255 l = some n ↔ l = digU n ∧ n ≤ 255 := by
  unfold get255
  constructor
  · intro h
    cases hg : getN l with
    | none => rw [hg] at h; cases h
    | some m =>
      rw [hg] at h
      simp only [Option.bind_some] at h
      split at h
      · cases h; exact ⟨((getN_iff l n).1 hg).1, by assumption⟩
      · cases h
  · rintro ⟨rfl, h⟩
    rw [(getN_iff (digU n) n).2 ⟨rfl, by omega⟩]
    simp [h]
/-- The address of four parts. -/
def four (p q r t : List UInt8) : Option (Nat × Nat × Nat × Nat) := (get255 p).bind fun a => (get255 q).bind fun b => (get255 r).bind fun c => (get255 t).bind fun d => some (a, b, c, d)
def readN (l : List UInt8) : Option (Nat × Nat × Nat × Nat) := match Cut.cut 46 l with
  | [p, q, r, t] => four p q r t
  | _ => none
theorem dig_not46 (n : Nat) : (46 : UInt8) ∉ digU n := by
  intro h
  have := List.all_eq_true.1 (digU_all n).1 _ h
  exact absurd this (by decide)
theorem four_iff (p q r t : List UInt8) (a b c d : Nat) : four p q r t = some (a, b, c, d) ↔ (p = digU a ∧ a ≤ 255) ∧ (q = digU b ∧ b ≤ 255) ∧ (r = digU c ∧ c ≤ 255) ∧ (t = digU d ∧ d ≤ 255) := by
  simp only [four, Option.bind_eq_some_iff, Option.some.injEq, Prod.mk.injEq]
  constructor
  · rintro ⟨a', ha, b', hb, c', hc, d', hd, rfl, rfl, rfl, rfl⟩
    exact ⟨(get255_iff _ _).1 ha, (get255_iff _ _).1 hb, (get255_iff _ _).1 hc, (get255_iff _ _).1 hd⟩
  · rintro ⟨ha, hb, hc, hd⟩
    exact ⟨a, (get255_iff _ _).2 ha, b, (get255_iff _ _).2 hb, c, (get255_iff _ _).2 hc, d, (get255_iff _ _).2 hd, rfl, rfl, rfl, rfl⟩
theorem host_jn (a b c d : Nat) : hostU a b c d = Cut.jn 46 [digU a, digU b, digU c, digU d] := rfl
/-- A text is an address just where it is that address as it is written. -/
theorem readN_iff (l : List UInt8) (a b c d : Nat) : readN l = some (a, b, c, d) ↔ l = hostU a b c d ∧ a ≤ 255 ∧ b ≤ 255 ∧ c ≤ 255 ∧ d ≤ 255 := by
  constructor
  · intro h
    unfold readN at h
    split at h
    · rename_i p q r t hc
      have hj := Cut.jn_cut 46 l
      rw [hc] at hj
      obtain ⟨⟨rfl, ha⟩, ⟨rfl, hb⟩, ⟨rfl, hc'⟩, ⟨rfl, hd⟩⟩ := (four_iff p q r t a b c d).1 h
      exact ⟨hj.symm.trans (host_jn a b c d).symm, ha, hb, hc', hd⟩
    · cases h
  · rintro ⟨rfl, ha, hb, hc, hd⟩
    have h : Cut.cut 46 (hostU a b c d) = [digU a, digU b, digU c, digU d] := by
      rw [host_jn]
      refine Cut.cut_jn 46 _ (by simp) ?_
      intro p hp
      simp only [List.mem_cons, List.not_mem_nil, or_false] at hp
      rcases hp with rfl | rfl | rfl | rfl <;> exact dig_not46 _
    rw [readN, h]
    exact (four_iff _ _ _ _ a b c d).2 ⟨⟨rfl, ha⟩, ⟨rfl, hb⟩, ⟨rfl, hc⟩, ⟨rfl, hd⟩⟩

end Go.Proofs.YtdcbkeihgbekdaaDoor.Dig

namespace Go.Proofs.YtdcbkeihgbekdaaDoor.Quad
open Go Go.RowKit Go.Proofs.YtdcbkeihgbekdaaDoorW.PrintWords Go.Proofs.YtdcbkeihgbekdaaDoorW.PrintLast Go.Proofs.YtdcbkeihgbekdaaDoorW.PrintMore Go.Proofs.YtdcbkeihgbekdaaDoor.Dig
set_option linter.unusedVariables false
set_option linter.unusedSimpArgs false

theorem slice24 (g b : Nat) (L : List Int) (hb : b + L.length = 24) (h0 : L ≠ []) (W : World) :
    (Instr.sliceAt 103 (.pointer (some ⟨g, 0, none⟩)) (some (.int .i64 b)) none none).run Tryd.prog W = .ok (.slice (some ⟨g, b, none⟩) L.length L.length) W := by
  have hl : 0 < L.length := List.length_pos_iff.2 h0
  have ha : Tryd.prog.arrayLen 103 = 24 := by kernel_rfl
  have he : Tryd.prog.elem 103 = 5 := by kernel_rfl
  have hz : ∀ W, (sizeOf 5).run Tryd.prog W = .ok 1 W := Tryd.sizeOf5
  rw [run_sliceAt_array_l W 103 ⟨g, 0, none⟩ (by kernel_rfl) .i64 b (by omega) (by rw [ha]; omega), he, hz, Result.andThen_ok, ha]
  simp only [slicedAt, Int.toNat_natCast]
  rw [if_neg (by omega), show 24 - b = L.length from by omega, add_plain, Nat.mul_one]

theorem str24 (W : World) (g b : Nat) (tl L : List Int) (hb : b + L.length = 24) (hL : L = tl) (h : W.heap[g]? = some (.cells (cells b tl) 103 (0, 0))) :
    (convert 83 9 (.slice (some ⟨g, b, none⟩) L.length L.length)).run Tryd.prog W = .ok (.string (strOfNums L)) W := by
  subst hL
  refine string_of_reads Tryd.underlying83 Tryd.underlying5 Tryd.underlying9 ⟨rfl, by omega, fun h0 => ⟨_, rfl, fun j hj => ?_⟩⟩
  rw [show (⟨g, b, none⟩ : Addr).add j = ⟨g, b + j, none⟩ from by simp [Addr.add], blk_cell h]
  exact cells_at b L j hj

set_option maxHeartbeats 1000000 in
set_option maxRecDepth 100000 in
theorem num_calls (n : Int) (h0 : -9223372036854775808 ≤ n) (h1 : n ≤ 9223372036854775807) (w : World) :
    Calls Tryd.prog 38 #[.int .i64 n] w fun e w' => e = .returned (.string (strOfNums (num n))) ∧ Below w.heap.size w w' := by
  obtain ⟨R, hR⟩ : ∃ R, R = strOfNums (num n) := ⟨_, rfl⟩
  have HR := Aside0.mk hR
  rw [← hR]
  clear hR
  obtain ⟨U, hU⟩ : ∃ U : Nat, U = n.natAbs := ⟨_, rfl⟩
  have hUlt : U < 10 ^ 20 := by omega
  have HU := Aside0.mk (And.intro hU hUlt)
  have hgoes : (decide (n < 0) = true ∧ IntKind.u64.wrap (-(IntKind.u64.wrap n)) = (U : Int)) ∨ (decide (n < 0) = false ∧ IntKind.u64.wrap n = (U : Int)) := by
    by_cases h : n < 0
    · exact .inl ⟨decide_eq_true h, by rw [hU]; simp [IntKind.wrap, IntKind.bits, IntKind.signed]; omega⟩
    · exact .inr ⟨decide_eq_false h, by rw [hU]; simp [IntKind.wrap, IntKind.bits, IntKind.signed]; omega⟩
  clear hU hUlt
  rcases hgoes with ⟨d1, hu⟩ | ⟨d1, hu⟩
  all_goals
    go_enter Tryd.func38, Tryd.ntmps38
    go_wp2
    go_loopw [4, 5, 6] (fun at_ u_ f_ wr => ∃ (a u : Nat) (f : Bool) (tl : List Int), at_ = .int .i64 a ∧ u_ = .int .u64 u ∧ f_ = .bool f ∧ Aside0 (Inv U a u f tl) ∧ Aside0 (wr.heap[w.heap.size]? = some (.cells (cells a tl) 103 (0, 0))) ∧ Aside0 (Below w.heap.size w wr))
      (fun a_ _ _ _ => (intOf a_).toNat)
    case atStart => exact ⟨24, U, true, [], rfl, rfl, rfl, ⟨Inv.start U⟩, ⟨by have := blk_new w (.cells (cells 24 []) 103); exact this⟩, ⟨(Below.refl _ _).alloc (Nat.le_refl _) _⟩⟩
    case round =>
      obtain ⟨a, u, f, tl, rfl, rfl, rfl, HI, HC, HB⟩ := hrel
      have hlo := HI.out.low HU.out.2
      have hhi : a ≤ 24 := by have := HI.out.2.1; omega
      obtain ⟨b, hb⟩ : ∃ b : Nat, b + 1 = a := ⟨a - 1, by omega⟩
      obtain ⟨v, hv⟩ : ∃ v : Nat, v = u / 10 := ⟨_, rfl⟩
      have hu64 : u < 18446744073709551616 := by have := HI.out.1; have := HU.out.1; omega
      have hwb : wrap64 ((a : Int) - 1) = (b : Int) := by rw [show (a : Int) - 1 = (b : Int) from by omega]; unfold wrap64; omega
      have hwv : IntKind.u64.wrap ((u : Int) / 10) = (v : Int) := by rw [hv]; simp [IntKind.wrap, IntKind.bits, IntKind.signed]; omega
      have hcell : wr.cell? ⟨w.heap.size, b, none⟩ = some (.int .u8 (0 : Int)) := (blk_cell HC.out b).trans (cells_nought a tl b (by omega))
      have hfroz : wr.frozen? ⟨w.heap.size, b, none⟩ = false := blk_frozen HC.out b
      have hb0 : 0 ≤ b ∧ b < 24 := by omega
      have HN := Aside0.mk (fun hl => HI.out.next (f := f) HU.out.2 hl)
      have HBV := Aside0.mk (And.intro hb hv)
      have HBD := Aside0.mk (And.intro hlo hhi)
      clear hb hv hlo hhi
      by_cases hlive : f = true ∨ 0 < u
      · have hl : f = true ∨ (f = false ∧ decide (0 < u) = true) := by
          rcases hlive with h | h
          · exact .inl h
          · cases f
            · exact .inr ⟨rfl, decide_eq_true h⟩
            · exact .inl rfl
        have HX := Aside0.mk (HN.out hlive)
        clear hlive
        rcases hl with hl | ⟨hl, hl2⟩
        all_goals
          subst hl
          go_wp2
          go_roundw
          case rel =>
            refine ⟨b, v, false, (48 + ((u % 10 : Nat) : Int)) :: tl, rfl, rfl, rfl, ⟨?_⟩, ⟨?_⟩, ⟨HB.out.setCell (Nat.le_refl _) _⟩⟩
            · have := HX.out.2
              rwa [← HBV.out.1, Nat.add_sub_cancel, ← HBV.out.2] at this
            · refine blk_put HC.out b _ ?_
              rw [digit_at, show b = a - 1 from by have := HBV.out.1; omega]
              exact cells_put a tl _ (by have := HBV.out.1; omega)
          case measure => have := HBV.out.1; simp [intOf]; omega
      · have hl1 : f = false := by cases f <;> simp_all
        have hl2 : u = 0 := by omega
        have hD := HI.out.done hl1 hl2
        have htl : tl ≠ [] := by intro h; have := dig_pos U; rw [hD, h] at this; simp at this
        have hbL : b + (tl.length + 1) = 24 := by have := HI.out.2.1; have := HBV.out.1; omega
        clear hlive
        subst hl1; subst hl2
        first
          | (have hn : n < 0 := of_decide_eq_true d1
             obtain ⟨L, hL⟩ : ∃ L : List Int, L = 45 :: tl := ⟨_, rfl⟩
             have HE : Aside0 (R = strOfNums L) := ⟨by rw [HR.out, num, if_pos hn, ← HU.out.1, hD, hL]⟩
             have ks := slice24 w.heap.size b L (by rw [hL]; simpa using hbL) (by rw [hL]; simp)
             have kc := str24 (wr.setCell ⟨w.heap.size, b, none⟩ (.int .u8 45)) w.heap.size b (45 :: tl) L (by rw [hL]; simpa using hbL) hL (blk_put HC.out b _ (by have := cells_put a tl 45 (by have := HBV.out.1; omega); rwa [show a - 1 = b from by have := HBV.out.1; omega] at this))
             clear hn hL htl hD hbL
             go_wp2
             go_ret
             exact ⟨by rw [HE.out]; rfl, HB.out.setCell (Nat.le_refl _) _⟩)
          | (have hn : ¬ n < 0 := of_decide_eq_false d1
             have HE : Aside0 (R = strOfNums tl) := ⟨by rw [HR.out, num, if_neg hn, ← HU.out.1, hD]⟩
             have ks := slice24 w.heap.size a tl (by have := HBV.out.1; omega) htl
             have kc := str24 wr w.heap.size a tl tl (by have := HBV.out.1; omega) rfl HC.out
             clear hn htl hD hbL
             go_wp2
             go_ret
             exact ⟨by rw [HE.out]; rfl, HB.out⟩)
end Go.Proofs.YtdcbkeihgbekdaaDoor.Quad

namespace Go.Proofs.YtdcbkeihgbekdaaDoor.Quad
open Go Go.RowKit Go.Proofs.YtdcbkeihgbekdaaDoorW.PrintWords Go.Proofs.YtdcbkeihgbekdaaDoorW.PrintLast Go.Proofs.YtdcbkeihgbekdaaDoorW.PrintMore Go.Proofs.YtdcbkeihgbekdaaDoor.Dig
set_option linter.unusedVariables false
set_option linter.unusedSimpArgs false

theorem bt_byte (s : ByteArray) (k : Nat) (h : k < s.data.toList.length) : bt s (k : Int) = ((s.data.toList[k]).toNat : Int) := by
  have h' : k < s.size := by rw [← data_length s]; exact h
  unfold bt
  rw [dif_pos (by simpa using h')]
  rfl

theorem info9 : (Tryd.prog.info? 9).map (fun i => (i.zero, i.size, i.bytes)) = some (some (.string ⟨#[]⟩), 1, 16) := by kernel_rfl
end Go.Proofs.YtdcbkeihgbekdaaDoor.Quad

namespace Go.Proofs.YtdcbkeihgbekdaaDoor.Quad
open Go Go.RowKit Go.Proofs.YtdcbkeihgbekdaaDoorW.PrintWords Go.Proofs.YtdcbkeihgbekdaaDoorW.PrintLast Go.Proofs.YtdcbkeihgbekdaaDoorW.PrintMore Go.Proofs.YtdcbkeihgbekdaaDoor.Dig
set_option linter.unusedVariables false
set_option linter.unusedSimpArgs false

set_option maxHeartbeats 1000000 in
set_option maxRecDepth 100000 in
theorem get_calls (s : ByteArray) (most : Int) (w : World) :
    Calls Tryd.prog 29 #[.string s, .int .i64 most] w fun e w' => e = .returned (.tuple #[.int .i64 (get s.data.toList most).1, .bool (get s.data.toList most).2]) ∧ w' = w := by
  obtain ⟨R, hR⟩ : ∃ R, R = get s.data.toList most := ⟨_, rfl⟩
  have HR := Aside0.mk hR
  rw [← hR]
  clear hR
  have HL := Aside0.mk (data_length s)
  obtain ⟨c0, hc0⟩ : ∃ c, c = bt s 0 := ⟨_, rfl⟩
  have HC0 := Aside0.mk hc0
  have hx0 : ∀ h : 0 < s.size, ((s[0]'h).toNat : Int) = c0 := fun h => by rw [hc0]; exact bt_at s 0 h
  clear hc0
  have hnone : getN s.data.toList = none → R = (0, false) := fun h => by rw [HR.out, Dig.get, h]
  have HN := Aside0.mk hnone
  clear hnone
  have hgoes : s.toList = [] ∨ (s.toList.isEmpty = false ∧ decide (18 < (s.size : Int)) = true) ∨ (s.toList.isEmpty = false ∧ decide (18 < (s.size : Int)) = false ∧ 0 < s.size ∧ (c0 == 48) = true ∧ decide (1 < (s.size : Int)) = true) ∨ (s.toList.isEmpty = false ∧ decide (18 < (s.size : Int)) = false ∧ 0 < s.size ∧ ((c0 == 48) = false ∨ (c0 == 48) = true ∧ decide (1 < (s.size : Int)) = false)) := by
    have e : s.toList = s.data.toList := ByteArray.toList_eq s
    rw [e]
    by_cases h1 : s.data.toList = []
    · exact .inl h1
    · have h1' : s.data.toList.isEmpty = false := by simpa using h1
      have h2 : 0 < s.size := by rw [← HL.out]; exact List.length_pos_iff.2 h1
      refine .inr ?_
      by_cases h3 : 18 < (s.size : Int)
      · exact .inl ⟨h1', decide_eq_true h3⟩
      · refine .inr ?_
        by_cases h4 : c0 = 48 <;> by_cases h5 : 1 < (s.size : Int) <;> simp [h1', h2, h3, h4, h5] <;> omega
  have hlist : s.toList = s.data.toList := ByteArray.toList_eq s
  have HX := Aside0.mk hlist
  clear hlist
  have h48n : (c0 == 48) = true → decide (1 < (s.size : Int)) = true → getN s.data.toList = none := fun h1 h2 => by
    have h2' : 1 < (s.size : Int) := of_decide_eq_true h2
    have h1' : c0 = 48 := beq_iff_eq.1 h1
    rw [getN, if_neg]
    rintro ⟨_, _, h3, _⟩
    have hp : 0 < s.data.toList.length := by rw [HL.out]; omega
    have := h3 (by
      rw [List.head?_eq_getElem?, List.getElem?_eq_getElem hp]
      have h4 := bt_byte s 0 hp
      rw [show ((0 : Nat) : Int) = 0 from rfl, ← HC0.out, h1'] at h4
      congr 1
      apply UInt8.toNat_inj.1
      have e : (48 : UInt8).toNat = 48 := rfl
      omega)
    rw [HL.out] at this; omega
  have H48 := Aside0.mk h48n
  clear h48n
  rcases hgoes with hE | ⟨hE, h18⟩ | ⟨hE, h18, hs0, h48, hs1⟩ | ⟨hE, h18, hs0, hz⟩
  · have hF : R = (0, false) := HN.out (by rw [getN, if_neg]; rintro ⟨h, _⟩; exact h (HX.out.symm.trans hE))
    clear hx0
    go_enter Tryd.func29, Tryd.ntmps29
    go_wp2
    go_ret2
    exact ⟨by first | (rw [hF]; rfl) | rfl, rfl⟩
  · have hF : R = (0, false) := HN.out (by rw [getN, if_neg]; rintro ⟨_, h, _⟩; have := of_decide_eq_true h18; rw [HL.out] at h; omega)
    go_enter Tryd.func29, Tryd.ntmps29
    go_wp2
    go_ret2
    exact ⟨by first | (rw [hF]; rfl) | rfl, rfl⟩
  · have hF : R = (0, false) := HN.out (H48.out h48 hs1)
    go_enter Tryd.func29, Tryd.ntmps29
    go_wp2
    go_ret2
    exact ⟨by first | (rw [hF]; rfl) | rfl, rfl⟩
  · have HZ : Aside0 (s.data.toList ≠ [] ∧ s.data.toList.length ≤ 18 ∧ (s.data.toList.head? = some 48 → s.data.toList.length = 1)) := by
      have hp : 0 < s.data.toList.length := by rw [HL.out]; exact hs0
      refine ⟨List.length_pos_iff.1 hp, by have := of_decide_eq_false h18; rw [HL.out]; omega, fun h => ?_⟩
      rw [HL.out]
      rcases hz with hz | ⟨_, hz⟩
      · exfalso
        rw [List.head?_eq_getElem?, List.getElem?_eq_getElem hp] at h
        have h4 := bt_byte s 0 hp
        rw [Option.some.inj h, show ((0 : Nat) : Int) = 0 from rfl, ← HC0.out] at h4
        exact beq_eq_false_iff_ne.1 hz h4
      · have := of_decide_eq_false hz; omega
    rcases hz with hz | ⟨hz, hs1⟩
    all_goals
      go_enter Tryd.func29, Tryd.ntmps29
      go_wp2
      go_loop [6, 28] (fun n_ i_ => ∃ k : Nat, k ≤ s.size ∧ i_ = .int .i64 k ∧ n_ = .int .i64 (val (s.data.toList.take k) : Nat) ∧ Aside0 ((s.data.toList.take k).all isDig = true)) (fun _ i_ => s.size - (intOf i_).toNat)
      case atStart => exact ⟨0, Nat.zero_le _, rfl, rfl, ⟨rfl⟩⟩
      case round =>
        obtain ⟨k, hk, rfl, rfl, HA⟩ := hrel
        clear hz hE
        try clear hs1
        clear hx0 hs0
        by_cases hlt : k < s.size
        · have hk18 : k < 18 := by have := HZ.out.2.1; rw [HL.out] at this; omega
          have hk' : k < s.data.toList.length := by rw [HL.out]; exact hlt
          obtain ⟨c, hc⟩ : ∃ c, c = s.data.toList[k] := ⟨_, rfl⟩
          have hck : ∀ h : k < s.size, ((s[k]'h).toNat : Int) = (c.toNat : Int) := fun h => by rw [hc, ← bt_byte s k hk']; exact bt_at s k h
          have hidx : Lib.indexByte [48, 49, 50, 51, 52, 53, 54, 55, 56, 57] c = if isDig c = true then ((c.toNat - 48 : Nat) : Int) else -1 := index_dig c
          obtain ⟨n, hn⟩ : ∃ n, n = val (s.data.toList.take k) := ⟨_, rfl⟩
          have hnb : n < 100000000000000000 := by
            rw [hn]
            refine Nat.lt_of_lt_of_le (val_lt _ _ rfl HA.out) (Nat.le_trans (Nat.pow_le_pow_right (n := 10) (by decide) (show _ ≤ 17 from ?_)) (by decide))
            rw [List.length_take]; have := HZ.out.2.1; omega
          have hsn : val (s.data.toList.take (k + 1)) = 10 * n + (c.toNat - 48) ∧ (isDig c = true → (s.data.toList.take (k + 1)).all isDig = true) := by
            rw [List.take_succ_eq_append_getElem hk', ← hc, val_snoc, ← hn, List.all_append, HA.out]
            exact ⟨rfl, fun h => by simpa using h⟩
          have HSN := Aside0.mk hsn
          rw [← hn]
          have HCM := Aside0.mk (show c ∈ s.data.toList from by rw [hc]; exact List.getElem_mem _)
          clear hc hn hsn
          by_cases hd : isDig c = true
          · rw [if_pos hd] at hidx
            obtain ⟨d, hdd⟩ : ∃ d : Nat, d = c.toNat - 48 := ⟨_, rfl⟩
            rw [← hdd] at hidx
            have hdn : d < 256 := by have := c.toNat_lt; omega
            have hw1 : wrap64 (10 * (n : Int)) = ((10 * n : Nat) : Int) := by unfold wrap64; omega
            obtain ⟨m, hm⟩ : ∃ m : Nat, m = 10 * n := ⟨_, rfl⟩
            rw [← hm] at hw1
            obtain ⟨r, hr⟩ : ∃ r : Nat, r = m + d := ⟨_, rfl⟩
            have hw2 : wrap64 ((m : Int) + (d : Int)) = (r : Int) := by unfold wrap64; omega
            have HREL : Aside0 (val (s.data.toList.take (k + 1)) = r ∧ (s.data.toList.take (k + 1)).all isDig = true) := ⟨by rw [HSN.out.1, hr, hm, hdd], HSN.out.2 hd⟩
            clear hdd hm hr hdn hnb hd
            go_wp2_with (go_at_call 45; refine (Tryd.strings_IndexByte _ _ _).mono ?_; rintro e w1 ⟨rfl, rfl⟩; simp only [Int.toNat_natCast, Nat.toUInt8_eq, UInt8.ofNat_toNat]; rw [hidx])
            go_round
            case rel => exact ⟨k + 1, by omega, by go_num, by rw [HREL.out.1]; exact congrArg (Value.int .i64) hw2, ⟨HREL.out.2⟩⟩
            case measure => simp [intOf]; omega
          · rw [if_neg hd] at hidx
            have hF : R = (0, false) := HN.out (by rw [getN, if_neg]; rintro ⟨_, _, _, h⟩; exact hd (List.all_eq_true.1 h c HCM.out))
            clear hnb hd
            go_wp2_with (go_at_call 45; refine (Tryd.strings_IndexByte _ _ _).mono ?_; rintro e w1 ⟨rfl, rfl⟩; simp only [Int.toNat_natCast, Nat.toUInt8_eq, UInt8.ofNat_toNat]; rw [hidx])
            go_ret2
            exact ⟨by first | (rw [hF]; rfl) | rfl, rfl⟩
        · obtain rfl : k = s.size := by omega
          rw [show s.data.toList.take s.size = s.data.toList from List.take_of_length_le (by rw [HL.out]; exact Nat.le_refl _)] at *
          have hN : getN s.data.toList = some (val s.data.toList) := by rw [getN, if_pos ⟨HZ.out.1, HZ.out.2.1, HZ.out.2.2, HA.out⟩]
          obtain ⟨n, hn⟩ : ∃ n, n = val s.data.toList := ⟨_, rfl⟩
          have hRR := HR.out
          rw [Dig.get, hN] at hRR
          simp only at hRR
          rw [← hn] at hRR ⊢
          clear hN hn
          by_cases hm : most < (n : Int)
          · have hF : R = (0, false) := by rw [hRR, if_pos hm]
            have hm' := decide_eq_true hm
            clear hRR hm
            go_wp2
            go_ret2
            exact ⟨by first | (rw [hF]; rfl) | rfl, rfl⟩
          · have hF : R = ((n : Int), true) := by rw [hRR, if_neg hm]
            have hm' := decide_eq_false hm
            clear hRR hm
            go_wp2
            go_ret2
            exact ⟨by first | (rw [hF]; rfl) | rfl, rfl⟩
end Go.Proofs.YtdcbkeihgbekdaaDoor.Quad

namespace Go.Proofs.YtdcbkeihgbekdaaDoor.Quad
open Go Go.RowKit Go.Proofs.YtdcbkeihgbekdaaDoorW.PrintWords Go.Proofs.YtdcbkeihgbekdaaDoorW.PrintLast Go.Proofs.YtdcbkeihgbekdaaDoorW.PrintMore Go.Proofs.YtdcbkeihgbekdaaDoor.Dig
set_option linter.unusedVariables false
set_option linter.unusedSimpArgs false

/-- quad.Num in terms of bytes. -/
theorem num_calls' (n : Nat) (h : n < 256) (w : World) :
    Calls Tryd.prog 38 #[.int .i64 n] w fun e w' => e = .returned (.string ⟨(digU n).toArray⟩) ∧ Below w.heap.size w w' := by
  have := num_calls (n : Int) (by omega) (by omega) w
  rwa [numU_eq, numU_nat] at this

set_option maxRecDepth 100000 in
theorem part4 (a b c d : Int) (W : World) (i : Nat) (h : i < 4) : (part 5 #[.int .u8 a, .int .u8 b, .int .u8 c, .int .u8 d] i).run Tryd.prog W = .ok (.int .u8 ([a, b, c, d].getD i 0)) W := by
  obtain rfl | rfl | rfl | rfl : i = 0 ∨ i = 1 ∨ i = 2 ∨ i = 3 := by omega
  all_goals rfl
theorem eq_host' (n : Nat) (a b c d a' b' c' d' : Int) (W : World) : (Op.equalIn (n + 2) 28 (.agg #[.int .u8 a, .int .u8 b, .int .u8 c, .int .u8 d]) (.agg #[.int .u8 a', .int .u8 b', .int .u8 c', .int .u8 d'])).run Tryd.prog W = .ok (a == a' && (b == b' && (c == c' && d == d'))) W := by
  have hu : Tryd.prog.underlying 28 = some (.array 4 5) := by kernel_rfl
  have h5 : Tryd.prog.underlying 5 = some (.int .u8) := by kernel_rfl
  have hz : ∀ W, (sizeOf 5).run Tryd.prog W = .ok 1 W := Tryd.sizeOf5
  have he : ∀ x y W, (Op.equalIn (n + 1) 5 (.int .u8 x) (.int .u8 y)).run Tryd.prog W = .ok (x == y) W := fun x y W => run_equalIn_int W n 5 .u8 .u8 x y h5
  have p0 := part4 a b c d W 0 (by decide)
  have p1 := part4 a b c d W 1 (by decide)
  have p2 := part4 a b c d W 2 (by decide)
  have p3 := part4 a b c d W 3 (by decide)
  have q0 := part4 a' b' c' d' W 0 (by decide)
  have q1 := part4 a' b' c' d' W 1 (by decide)
  have q2 := part4 a' b' c' d' W 2 (by decide)
  have q3 := part4 a' b' c' d' W 3 (by decide)
  simp only [List.getD_cons_zero, List.getD_cons_succ] at p0 p1 p2 p3 q0 q1 q2 q3
  rw [Op.equalIn]
  simp only [Sem.run_bind, run_underlying hu, Result.andThen_ok, hz, Std.Legacy.Range.forIn_eq_forIn_range', Std.Legacy.Range.size, Nat.sub_zero, Nat.add_sub_cancel, Nat.div_one, List.range'_succ, List.range'_zero, List.forIn_cons, List.forIn_nil, Nat.mul_one, Nat.zero_add, Nat.reduceAdd, Nat.reduceMul, p0, p1, p2, p3, q0, q1, q2, q3, he]
  cases h0 : (a == a') <;> simp only [Bool.not_true, Bool.not_false, Bool.false_eq_true, if_true, if_false, Sem.run_pure, Result.andThen_ok, Sem.run_bind, p1, q1, he, Bool.false_and, Bool.true_and]
  cases h1 : (b == b') <;> simp only [Bool.not_true, Bool.not_false, Bool.false_eq_true, if_true, if_false, Sem.run_pure, Result.andThen_ok, Sem.run_bind, p2, q2, he, Bool.false_and, Bool.true_and]
  cases h2 : (c == c') <;> simp only [Bool.not_true, Bool.not_false, Bool.false_eq_true, if_true, if_false, Sem.run_pure, Result.andThen_ok, Sem.run_bind, p3, q3, he, Bool.false_and, Bool.true_and]
  cases h3 : (d == d') <;> simp only [Bool.not_true, Bool.not_false, Bool.false_eq_true, if_true, if_false, Sem.run_pure, Result.andThen_ok, Sem.run_bind]
theorem eq_host (a b c d a' b' c' d' : Int) (W : World) : (Op.equalIn 10000 28 (.agg #[.int .u8 a, .int .u8 b, .int .u8 c, .int .u8 d]) (.agg #[.int .u8 a', .int .u8 b', .int .u8 c', .int .u8 d'])).run Tryd.prog W = .ok (a == a' && (b == b' && (c == c' && d == d'))) W := eq_host' 9998 a b c d a' b' c' d' W
end Go.Proofs.YtdcbkeihgbekdaaDoor.Quad

namespace Go.Proofs.YtdcbkeihgbekdaaDoor.Quad
open Go Go.RowKit Go.Proofs.YtdcbkeihgbekdaaDoorW.PrintWords Go.Proofs.YtdcbkeihgbekdaaDoorW.PrintLast Go.Proofs.YtdcbkeihgbekdaaDoorW.PrintMore Go.Proofs.YtdcbkeihgbekdaaDoor.Dig
set_option linter.unusedVariables false
set_option linter.unusedSimpArgs false

def host (a b c d : Nat) : Value := .agg #[.int .u8 a, .int .u8 b, .int .u8 c, .int .u8 d]
def parts (a b c d : Nat) : List ByteArray := [⟨(digU a).toArray⟩, ⟨(digU b).toArray⟩, ⟨(digU c).toArray⟩, ⟨(digU d).toArray⟩]

theorem join4 (q c : Nat) (l : List ByteArray) (out : List UInt8) (w : World) (h4 : l.length = 4) (hj : Lib.join (l.map (·.data.toList)) [46] = out) (ho : out.length ≤ 140737488355328) (hc : 4 ≤ c) (hq : q < w.heap.size) (hcell : ∀ (j : Nat) x, (l.map Value.string)[j]? = some x → w.cell? ⟨q, 0 + j, none⟩ = some x) :
    Calls Tryd.prog 39 #[.slice (some ⟨q, 0, none⟩) 4 c, .string ⟨#[46]⟩] w fun e w' => e = .returned (.string ⟨out.toArray⟩) ∧ Below w.heap.size w w' := by
  have h := Tryd.strings_Join q 0 c l ⟨#[46]⟩ w (fun j x hx => hcell j (.string x) (by rw [List.getElem?_map, hx]; rfl)) hq (by rw [h4]; decide) (by rw [h4]; exact hc) (by rw [show (ByteArray.mk #[46]).data.toList = [46] from rfl, hj]; exact ho)
  rwa [show (ByteArray.mk #[46]).data.toList = [46] from rfl, hj, h4] at h

set_option maxHeartbeats 1000000 in
set_option maxRecDepth 100000 in
theorem text_calls (a b c d : Nat) (ha : a < 256) (hb : b < 256) (hc : c < 256) (hd : d < 256) (w : World) :
    Calls Tryd.prog 40 #[.agg #[.int .u8 a, .int .u8 b, .int .u8 c, .int .u8 d]] w fun e w' => e = .returned (.string ⟨(hostU a b c d).toArray⟩) ∧ Below w.heap.size w w' := by
  obtain ⟨i0, hi, hz0, hz1, hz2⟩ := info_parts info9
  have HI := Aside0.mk (And.intro hi (And.intro hz0 (And.intro hz1 hz2)))
  clear hi hz0 hz1 hz2
  go_enter Tryd.func40, Tryd.ntmps40
  go_wp2
  go_loopw [3, 7] (fun v i wr => ∃ k : Nat, k ≤ 4 ∧ i = .int .i64 k ∧ Aside0 (wr.ownsRow w.heap.size 9 1 v k (((parts a b c d).take k).map Value.string)) ∧ Aside0 (Below w.heap.size w wr)) (fun _ i _ => 4 - (intOf i).toNat)
  case atStart => exact ⟨0, Nat.zero_le _, rfl, ⟨own_nil _ _ _ _⟩, ⟨(Below.refl _ _).alloc (Nat.le_refl _) _⟩⟩
  case round =>
    obtain ⟨k, hk, rfl, HO, HB⟩ := hrel
    have HS := Aside0.mk HB.out.size
    obtain rfl | rfl | rfl | rfl | rfl : k = 0 ∨ k = 1 ∨ k = 2 ∨ k = 3 ∨ k = 4 := by omega
    · have hx : ∀ W, (Instr.index 28 (.agg #[.int .u8 a, .int .u8 b, .int .u8 c, .int .u8 d]) (.int .i64 0)).run Tryd.prog W = .ok (.int .u8 a) W := fun W => rfl
      have hcv : IntKind.i64.wrap (a : Int) = (a : Int) := by simp [IntKind.wrap, IntKind.bits, IntKind.signed]; omega
      have HV := Aside0.mk ha
      clear ha hb hc hd
      go_wp2_with (first
        | (go_at_call 38; refine (num_calls' a HV.out _).mono ?_; rintro e w1 ⟨rfl, hb1⟩; have HB1 := Aside0.mk (HB.out.trans (hb1.mono HS.out)); have HO1 := Aside0.mk (own_move HO.out (fun j hj => hb1.block j (own_lt HO.out j hj))); clear hb1)
        | ((with_reducible refine Laws.gate 15 rfl ?_); refine Laws.append_any rfl (.tmp 10) (.tmp 14) 24 rfl w.heap.size 9 i0 (.string ⟨#[]⟩) 1 16 Tryd.underlying24 HI.out.1 HI.out.2.1 HI.out.2.2.1 HI.out.2.2.2 rfl (by decide) _ _ _ rfl (HO1.out.alloc _) (some ⟨w1.heap.size, 0, none⟩) 1 1 [.string ⟨(digU a).toArray⟩] rfl rfl (fun _ => ⟨_, rfl, Laws.new_cells w1 _ _ _ rfl⟩) (fun u hu => by simp at hu; subst hu; rfl) (by decide) (by decide) (Nat.le_trans HB1.out.size (by simp)) ?_; intro v6 w6 ho6 hg6 hn6 hl6; have HO6 := Aside0.mk (show w6.ownsRow w.heap.size 9 1 v6 (0 + 1) (((parts a b c d).take (0 + 1)).map Value.string) from ho6); have HB6 := Aside0.mk (show Below w.heap.size w w6 from ((HB1.out.alloc HB1.out.size _).grown hg6 (Nat.le_trans HB1.out.size (by simp)) (fun k h => Laws.own_ge HO1.out k h))); clear ho6 hg6 hn6 hl6))
      go_roundw
      case rel => exact ⟨0 + 1, by omega, by first | rfl | go_num, HO6, HB6⟩
      case measure => simp [intOf]
    · have hx : ∀ W, (Instr.index 28 (.agg #[.int .u8 a, .int .u8 b, .int .u8 c, .int .u8 d]) (.int .i64 1)).run Tryd.prog W = .ok (.int .u8 b) W := fun W => rfl
      have hcv : IntKind.i64.wrap (b : Int) = (b : Int) := by simp [IntKind.wrap, IntKind.bits, IntKind.signed]; omega
      have HV := Aside0.mk hb
      clear ha hb hc hd
      go_wp2_with (first
        | (go_at_call 38; refine (num_calls' b HV.out _).mono ?_; rintro e w1 ⟨rfl, hb1⟩; have HB1 := Aside0.mk (HB.out.trans (hb1.mono HS.out)); have HO1 := Aside0.mk (own_move HO.out (fun j hj => hb1.block j (own_lt HO.out j hj))); clear hb1)
        | ((with_reducible refine Laws.gate 15 rfl ?_); refine Laws.append_any rfl (.tmp 10) (.tmp 14) 24 rfl w.heap.size 9 i0 (.string ⟨#[]⟩) 1 16 Tryd.underlying24 HI.out.1 HI.out.2.1 HI.out.2.2.1 HI.out.2.2.2 rfl (by decide) _ _ _ rfl (HO1.out.alloc _) (some ⟨w1.heap.size, 0, none⟩) 1 1 [.string ⟨(digU b).toArray⟩] rfl rfl (fun _ => ⟨_, rfl, Laws.new_cells w1 _ _ _ rfl⟩) (fun u hu => by simp at hu; subst hu; rfl) (by decide) (by decide) (Nat.le_trans HB1.out.size (by simp)) ?_; intro v6 w6 ho6 hg6 hn6 hl6; have HO6 := Aside0.mk (show w6.ownsRow w.heap.size 9 1 v6 (1 + 1) (((parts a b c d).take (1 + 1)).map Value.string) from ho6); have HB6 := Aside0.mk (show Below w.heap.size w w6 from ((HB1.out.alloc HB1.out.size _).grown hg6 (Nat.le_trans HB1.out.size (by simp)) (fun k h => Laws.own_ge HO1.out k h))); clear ho6 hg6 hn6 hl6))
      go_roundw
      case rel => exact ⟨1 + 1, by omega, by first | rfl | go_num, HO6, HB6⟩
      case measure => simp [intOf]
    · have hx : ∀ W, (Instr.index 28 (.agg #[.int .u8 a, .int .u8 b, .int .u8 c, .int .u8 d]) (.int .i64 2)).run Tryd.prog W = .ok (.int .u8 c) W := fun W => rfl
      have hcv : IntKind.i64.wrap (c : Int) = (c : Int) := by simp [IntKind.wrap, IntKind.bits, IntKind.signed]; omega
      have HV := Aside0.mk hc
      clear ha hb hc hd
      go_wp2_with (first
        | (go_at_call 38; refine (num_calls' c HV.out _).mono ?_; rintro e w1 ⟨rfl, hb1⟩; have HB1 := Aside0.mk (HB.out.trans (hb1.mono HS.out)); have HO1 := Aside0.mk (own_move HO.out (fun j hj => hb1.block j (own_lt HO.out j hj))); clear hb1)
        | ((with_reducible refine Laws.gate 15 rfl ?_); refine Laws.append_any rfl (.tmp 10) (.tmp 14) 24 rfl w.heap.size 9 i0 (.string ⟨#[]⟩) 1 16 Tryd.underlying24 HI.out.1 HI.out.2.1 HI.out.2.2.1 HI.out.2.2.2 rfl (by decide) _ _ _ rfl (HO1.out.alloc _) (some ⟨w1.heap.size, 0, none⟩) 1 1 [.string ⟨(digU c).toArray⟩] rfl rfl (fun _ => ⟨_, rfl, Laws.new_cells w1 _ _ _ rfl⟩) (fun u hu => by simp at hu; subst hu; rfl) (by decide) (by decide) (Nat.le_trans HB1.out.size (by simp)) ?_; intro v6 w6 ho6 hg6 hn6 hl6; have HO6 := Aside0.mk (show w6.ownsRow w.heap.size 9 1 v6 (2 + 1) (((parts a b c d).take (2 + 1)).map Value.string) from ho6); have HB6 := Aside0.mk (show Below w.heap.size w w6 from ((HB1.out.alloc HB1.out.size _).grown hg6 (Nat.le_trans HB1.out.size (by simp)) (fun k h => Laws.own_ge HO1.out k h))); clear ho6 hg6 hn6 hl6))
      go_roundw
      case rel => exact ⟨2 + 1, by omega, by first | rfl | go_num, HO6, HB6⟩
      case measure => simp [intOf]
    · have hx : ∀ W, (Instr.index 28 (.agg #[.int .u8 a, .int .u8 b, .int .u8 c, .int .u8 d]) (.int .i64 3)).run Tryd.prog W = .ok (.int .u8 d) W := fun W => rfl
      have hcv : IntKind.i64.wrap (d : Int) = (d : Int) := by simp [IntKind.wrap, IntKind.bits, IntKind.signed]; omega
      have HV := Aside0.mk hd
      clear ha hb hc hd
      go_wp2_with (first
        | (go_at_call 38; refine (num_calls' d HV.out _).mono ?_; rintro e w1 ⟨rfl, hb1⟩; have HB1 := Aside0.mk (HB.out.trans (hb1.mono HS.out)); have HO1 := Aside0.mk (own_move HO.out (fun j hj => hb1.block j (own_lt HO.out j hj))); clear hb1)
        | ((with_reducible refine Laws.gate 15 rfl ?_); refine Laws.append_any rfl (.tmp 10) (.tmp 14) 24 rfl w.heap.size 9 i0 (.string ⟨#[]⟩) 1 16 Tryd.underlying24 HI.out.1 HI.out.2.1 HI.out.2.2.1 HI.out.2.2.2 rfl (by decide) _ _ _ rfl (HO1.out.alloc _) (some ⟨w1.heap.size, 0, none⟩) 1 1 [.string ⟨(digU d).toArray⟩] rfl rfl (fun _ => ⟨_, rfl, Laws.new_cells w1 _ _ _ rfl⟩) (fun u hu => by simp at hu; subst hu; rfl) (by decide) (by decide) (Nat.le_trans HB1.out.size (by simp)) ?_; intro v6 w6 ho6 hg6 hn6 hl6; have HO6 := Aside0.mk (show w6.ownsRow w.heap.size 9 1 v6 (3 + 1) (((parts a b c d).take (3 + 1)).map Value.string) from ho6); have HB6 := Aside0.mk (show Below w.heap.size w w6 from ((HB1.out.alloc HB1.out.size _).grown hg6 (Nat.le_trans HB1.out.size (by simp)) (fun k h => Laws.own_ge HO1.out k h))); clear ho6 hg6 hn6 hl6))
      go_roundw
      case rel => exact ⟨3 + 1, by omega, by first | rfl | go_num, HO6, HB6⟩
      case measure => simp [intOf]
    · have ho := HO.out
      rw [show (parts a b c d).take 4 = parts a b c d from rfl] at ho
      have hll : ∀ n : Nat, n < 256 → (digU n).length ≤ 3 := fun n hn => by rw [digU_len]; exact dig_len 2 n (by omega)
      have HJ := Aside0.mk (show (Lib.join ((parts a b c d).map (·.data.toList)) [46]) = hostU a b c d ∧ (hostU a b c d).length ≤ 140737488355328 from ⟨by simp [parts, Lib.join, List.intercalate, hostU], by
        have := hll a ha; have := hll b hb; have := hll c hc; have := hll d hd
        simp [hostU]; omega⟩)
      obtain ⟨q, cp, rfl, hcp, hq, hql, hcell⟩ := Laws.own_cells ho (by decide)
      have HC := Aside0.mk (And.intro hcp (And.intro hql (And.intro hcell hq)))
      clear hcp hq hql hcell ho ha hb hc hd hll HO
      go_wp2_with (go_at_call 39; refine (join4 q cp (parts a b c d) (hostU a b c d) _ rfl HJ.out.1 HJ.out.2 HC.out.1 HC.out.2.1 HC.out.2.2.1).mono ?_; rintro e w1 ⟨rfl, hb1⟩; have HB1 := Aside0.mk (HB.out.trans (hb1.mono HS.out)); clear hb1)
      go_ret
      exact ⟨rfl, HB1.out⟩
end Go.Proofs.YtdcbkeihgbekdaaDoor.Quad

namespace Go.Proofs.YtdcbkeihgbekdaaDoor.Quad
open Go Go.RowKit Go.Proofs.YtdcbkeihgbekdaaDoorW.PrintWords Go.Proofs.YtdcbkeihgbekdaaDoorW.PrintLast Go.Proofs.YtdcbkeihgbekdaaDoorW.PrintMore Go.Proofs.YtdcbkeihgbekdaaDoor.Dig
set_option linter.unusedVariables false
set_option linter.unusedSimpArgs false

/-- The variable that strings.Split's road reads. -/
def Mx (w : World) : Prop := ∃ m : Int, w.cell? ⟨5, 0, none⟩ = some (.int .i64 m)
theorem Mx.below {w w' : World} (h : Mx w) (hb : Below w.heap.size w w') : Mx w' := by
  obtain ⟨m, hm⟩ := h
  exact ⟨m, (hb.cell (World.block_lt_of_cell? w _ hm)).trans hm⟩

theorem split_calls (c : UInt8) (s : ByteArray) (hs : s.size < 4294967281) : ∃ ps : List ByteArray, ps.map (·.data.toList) = Cut.cut c s.data.toList ∧ ∀ w : World, Mx w →
    Calls Tryd.prog 28 #[.string s, .string ⟨#[c]⟩] w fun e w' => e = .returned (.slice (some ⟨w.heap.size, 0, none⟩) ps.length ps.length) ∧ w' = w.alloc (.cells (ps.map Value.string).toArray 9) := by
  refine ⟨Lib.splitB ⟨#[c]⟩ 0 (Lib.countB s ⟨#[c]⟩) s, Cut.splitB_cut c s, fun w hm => ?_⟩
  obtain ⟨m, hm⟩ := hm
  have h := Tryd.strings_Split s ⟨#[c]⟩ m w hs hm (Nat.le_refl 1)
  rwa [Lib.splitB_all ⟨#[c]⟩ (Nat.le_refl 1) 0 _ s rfl]

end Go.Proofs.YtdcbkeihgbekdaaDoor.Quad

namespace Go.Proofs.YtdcbkeihgbekdaaDoor.Quad
open Go Go.RowKit Go.Proofs.YtdcbkeihgbekdaaDoorW.PrintWords Go.Proofs.YtdcbkeihgbekdaaDoorW.PrintLast Go.Proofs.YtdcbkeihgbekdaaDoorW.PrintMore Go.Proofs.YtdcbkeihgbekdaaDoor.Dig
set_option linter.unusedVariables false
set_option linter.unusedSimpArgs false

/-- What quad.Read hands back. -/
def readR : Option (Nat × Nat × Nat × Nat) → Value
  | some (a, b, c, d) => .tuple #[.agg #[.int .u8 a, .int .u8 b, .int .u8 c, .int .u8 d], .bool true]
  | none => .tuple #[.agg #[.int .u8 0, .int .u8 0, .int .u8 0, .int .u8 0], .bool false]

theorem res_read (tmps : Array Value) (W : World) (H : Nat) (a b c d : Int) (t : Bool) (h2 : tmps.getD 2 undef = .pointer (some ⟨H, 0, none⟩)) (h3 : tmps.getD 3 undef = .bool t) (hh : W.heap[H]? = some (.cells #[.int .u8 a, .int .u8 b, .int .u8 c, .int .u8 d] 28 (0, 0))) :
   (results Tryd.f47 tmps).run Tryd.prog W = .ok (.tuple #[.agg #[.int .u8 a, .int .u8 b, .int .u8 c, .int .u8 d], .bool t]) W := by
  have c0 : W.cell? ⟨H, 0, none⟩ = some (.int .u8 a) := (blk_cell hh 0).trans rfl
  have c1 : W.cell? ⟨H, 1, none⟩ = some (.int .u8 b) := (blk_cell hh 1).trans rfl
  have c2 : W.cell? ⟨H, 2, none⟩ = some (.int .u8 c) := (blk_cell hh 2).trans rfl
  have c3 : W.cell? ⟨H, 3, none⟩ = some (.int .u8 d) := (blk_cell hh 3).trans rfl
  rw [Array.getD_eq_getD_getElem?] at h2 h3
  simp [results, show Tryd.f47.results = #[.cell 2 28, .tmp 3] from rfl, h2, h3, go_sem, c0, c1, c2, c3]

theorem four_none0 {p q r t : List UInt8} (h : get255 p = none) : four p q r t = none := by rw [four, h]; rfl
theorem four_none1 {p q r t : List UInt8} (h : get255 q = none) : four p q r t = none := by
  rw [four, h]; cases get255 p <;> rfl
theorem four_none2 {p q r t : List UInt8} (h : get255 r = none) : four p q r t = none := by
  rw [four, h]; cases get255 p <;> cases get255 q <;> rfl
theorem four_none3 {p q r t : List UInt8} (h : get255 t = none) : four p q r t = none := by
  rw [four, h]; cases get255 p <;> cases get255 q <;> cases get255 r <;> rfl

set_option maxHeartbeats 2000000 in
set_option maxRecDepth 100000 in
theorem read_calls (s : ByteArray) (hs : s.size < 4294967281) (w : World) (hm : Mx w) :
    Calls Tryd.prog 47 #[.string s] w fun e w' => e = .returned (readR (readN s.data.toList)) ∧ Below w.heap.size w w' := by
  obtain ⟨R, hR⟩ : ∃ R, R = readR (readN s.data.toList) := ⟨_, rfl⟩
  rw [← hR]
  obtain ⟨ps, hps, hsp⟩ := split_calls 46 s hs
  have HSP := Aside0.mk hsp
  have HM := Aside0.mk hm
  have HRR := Aside0.mk hR
  clear hsp hm hR
  by_cases hl : ps.length = 4
  · obtain ⟨p0, p1, p2, p3, rfl⟩ : ∃ p0 p1 p2 p3, ps = [p0, p1, p2, p3] := by
      match ps, hl with
      | [p0, p1, p2, p3], _ => exact ⟨p0, p1, p2, p3, rfl⟩
    have HR := Aside0.mk (show R = readR (four p0.data.toList p1.data.toList p2.data.toList p3.data.toList) from by rw [HRR.out, readN, ← hps]; rfl)
    clear hl
    have hpsx := Aside0.mk hps
    go_enter Tryd.func47, Tryd.ntmps47
    go_wp2_with (go_at_call 28; refine (HSP.out _ (HM.out.below ((Below.refl _ _).alloc (Nat.le_refl _) _))).mono ?_; rintro e w1 ⟨rfl, rfl⟩)
    go_loopw [17] (fun i wr => ∃ k : Nat, k ≤ 4 ∧ i = .int .i64 k ∧ ∃ vs : List Nat, vs.length = k ∧ Aside0 (([p0, p1, p2, p3].take k).map (fun p => get255 p.data.toList) = vs.map some) ∧
      Aside0 (wr.heap[w.heap.size]? = some (.cells (vs.map (fun v => Value.int .u8 (v : Nat)) ++ List.replicate (4 - k) (Value.int .u8 0)).toArray 28 (0, 0))) ∧
      Aside0 (wr.heap[w.heap.size + 1]? = some (.cells #[.string p0, .string p1, .string p2, .string p3] 9 (0, 0))) ∧ Aside0 (Below w.heap.size w wr)) (fun i _ => 4 - (intOf i).toNat)
    case atStart => exact ⟨0, Nat.zero_le _, rfl, [], rfl, ⟨rfl⟩, ⟨by have := blk_alloc (blk_new w (.cells #[.int .u8 0, .int .u8 0, .int .u8 0, .int .u8 0] 28)) (.cells ([p0, p1, p2, p3].map Value.string).toArray 9); exact this⟩, ⟨by have := blk_new (w.alloc (.cells #[.int .u8 0, .int .u8 0, .int .u8 0, .int .u8 0] 28)) (.cells ([p0, p1, p2, p3].map Value.string).toArray 9); simpa using this⟩, ⟨((Below.refl _ _).alloc (Nat.le_refl _) _).alloc (by simp) _⟩⟩
    case round =>
      obtain ⟨k, hk, rfl, vs, hvl, HV, HH, HG, HB⟩ := hrel
      obtain rfl | rfl | rfl | rfl | rfl : k = 0 ∨ k = 1 ∨ k = 2 ∨ k = 3 ∨ k = 4 := by omega
      · obtain rfl : vs = [] := by
          match vs, hvl with
          | [], _ => exact rfl
        have HH2 : Aside0 (wr.heap[w.heap.size]? = some (.cells #[.int .u8 0, .int .u8 0, .int .u8 0, .int .u8 0] 28 (0, 0))) := HH
        have f0 := blk_frozen HH2.out 0
        have c0 : wr.cell? ⟨w.heap.size, 0, none⟩ = some (.int .u8 0) := (blk_cell HH2.out 0).trans rfl
        have f1 := blk_frozen HH2.out 1
        have c1 : wr.cell? ⟨w.heap.size, 1, none⟩ = some (.int .u8 0) := (blk_cell HH2.out 1).trans rfl
        have f2 := blk_frozen HH2.out 2
        have c2 : wr.cell? ⟨w.heap.size, 2, none⟩ = some (.int .u8 0) := (blk_cell HH2.out 2).trans rfl
        have f3 := blk_frozen HH2.out 3
        have c3 : wr.cell? ⟨w.heap.size, 3, none⟩ = some (.int .u8 0) := (blk_cell HH2.out 3).trans rfl
        have hc : wr.cell? ⟨w.heap.size + 1, 0, none⟩ = some (.string p0) := (blk_cell HG.out 0).trans rfl
        cases hg : get255 p0.data.toList with
        | none =>
          have hgg : get p0.data.toList 255 = (0, false) := by rw [get255_get, hg]
          have HF := Aside0.mk (show R = readR none from by rw [HR.out, four_none0 hg])
          clear hg hvl hk hps
          go_wp2_with (go_at_call 29; refine (get_calls _ _ _).mono ?_; rintro e w1 ⟨rfl, rfl⟩; rw [hgg])
          try simp only [Exit.inBlock, Exit.then]
          refine bodyPost_ret (res_read _ _ w.heap.size 0 0 0 0 false rfl rfl (blk_put (blk_put (blk_put (blk_put HH2.out 0 _ rfl) 1 _ rfl) 2 _ rfl) 3 _ rfl)) rfl ⟨?_, ?_⟩
          · first | (rw [HF.out]; rfl) | rfl
          · exact (((HB.out.setCell (Nat.le_refl _) _).setCell (Nat.le_refl _) _).setCell (Nat.le_refl _) _).setCell (Nat.le_refl _) _
        | some n =>
          have hgg : get p0.data.toList 255 = ((n : Int), true) := by rw [get255_get, hg]
          have hn : n ≤ 255 := ((get255_iff _ _).1 hg).2
          have hcv : IntKind.u8.wrap (n : Int) = (n : Int) := by simp [IntKind.wrap, IntKind.bits, IntKind.signed]; omega
          have HGG := Aside0.mk hg
          clear hg hvl hk hps hn
          go_wp2_with (go_at_call 29; refine (get_calls _ _ _).mono ?_; rintro e w1 ⟨rfl, rfl⟩; rw [hgg])
          go_roundw
          case rel => exact ⟨0 + 1, by omega, by first | rfl | go_num, [] ++ [n], rfl, ⟨by have h := HV.out; have hg := HGG.out; simp only [List.take_succ_cons, List.take_zero, List.map_cons, List.map_nil, List.cons_append, List.nil_append, List.cons.injEq, and_true, true_and] at h ⊢; exact hg⟩, ⟨blk_put HH2.out 0 _ rfl⟩, ⟨blk_far HG.out (by simp) _⟩, ⟨HB.out.setCell (Nat.le_refl _) _⟩⟩
          case measure => simp [intOf]
      · obtain ⟨a, rfl⟩ : ∃ a, vs = [a] := by
          match vs, hvl with
          | [a], _ => exact ⟨a, rfl⟩
        have HH2 : Aside0 (wr.heap[w.heap.size]? = some (.cells #[.int .u8 (a : Nat), .int .u8 0, .int .u8 0, .int .u8 0] 28 (0, 0))) := HH
        have f0 := blk_frozen HH2.out 0
        have c0 : wr.cell? ⟨w.heap.size, 0, none⟩ = some (.int .u8 (a : Nat)) := (blk_cell HH2.out 0).trans rfl
        have f1 := blk_frozen HH2.out 1
        have c1 : wr.cell? ⟨w.heap.size, 1, none⟩ = some (.int .u8 0) := (blk_cell HH2.out 1).trans rfl
        have f2 := blk_frozen HH2.out 2
        have c2 : wr.cell? ⟨w.heap.size, 2, none⟩ = some (.int .u8 0) := (blk_cell HH2.out 2).trans rfl
        have f3 := blk_frozen HH2.out 3
        have c3 : wr.cell? ⟨w.heap.size, 3, none⟩ = some (.int .u8 0) := (blk_cell HH2.out 3).trans rfl
        have hc : wr.cell? ⟨w.heap.size + 1, 1, none⟩ = some (.string p1) := (blk_cell HG.out 1).trans rfl
        cases hg : get255 p1.data.toList with
        | none =>
          have hgg : get p1.data.toList 255 = (0, false) := by rw [get255_get, hg]
          have HF := Aside0.mk (show R = readR none from by rw [HR.out, four_none1 hg])
          clear hg hvl hk hps
          go_wp2_with (go_at_call 29; refine (get_calls _ _ _).mono ?_; rintro e w1 ⟨rfl, rfl⟩; rw [hgg])
          try simp only [Exit.inBlock, Exit.then]
          refine bodyPost_ret (res_read _ _ w.heap.size 0 0 0 0 false rfl rfl (blk_put (blk_put (blk_put (blk_put HH2.out 0 _ rfl) 1 _ rfl) 2 _ rfl) 3 _ rfl)) rfl ⟨?_, ?_⟩
          · first | (rw [HF.out]; rfl) | rfl
          · exact (((HB.out.setCell (Nat.le_refl _) _).setCell (Nat.le_refl _) _).setCell (Nat.le_refl _) _).setCell (Nat.le_refl _) _
        | some n =>
          have hgg : get p1.data.toList 255 = ((n : Int), true) := by rw [get255_get, hg]
          have hn : n ≤ 255 := ((get255_iff _ _).1 hg).2
          have hcv : IntKind.u8.wrap (n : Int) = (n : Int) := by simp [IntKind.wrap, IntKind.bits, IntKind.signed]; omega
          have HGG := Aside0.mk hg
          clear hg hvl hk hps hn
          go_wp2_with (go_at_call 29; refine (get_calls _ _ _).mono ?_; rintro e w1 ⟨rfl, rfl⟩; rw [hgg])
          go_roundw
          case rel => exact ⟨1 + 1, by omega, by first | rfl | go_num, [a] ++ [n], rfl, ⟨by have h := HV.out; have hg := HGG.out; simp only [List.take_succ_cons, List.take_zero, List.map_cons, List.map_nil, List.cons_append, List.nil_append, List.cons.injEq, and_true, true_and] at h ⊢; exact ⟨h, hg⟩⟩, ⟨blk_put HH2.out 1 _ rfl⟩, ⟨blk_far HG.out (by simp) _⟩, ⟨HB.out.setCell (Nat.le_refl _) _⟩⟩
          case measure => simp [intOf]
      · obtain ⟨a, b, rfl⟩ : ∃ a b, vs = [a, b] := by
          match vs, hvl with
          | [a, b], _ => exact ⟨a, b, rfl⟩
        have HH2 : Aside0 (wr.heap[w.heap.size]? = some (.cells #[.int .u8 (a : Nat), .int .u8 (b : Nat), .int .u8 0, .int .u8 0] 28 (0, 0))) := HH
        have f0 := blk_frozen HH2.out 0
        have c0 : wr.cell? ⟨w.heap.size, 0, none⟩ = some (.int .u8 (a : Nat)) := (blk_cell HH2.out 0).trans rfl
        have f1 := blk_frozen HH2.out 1
        have c1 : wr.cell? ⟨w.heap.size, 1, none⟩ = some (.int .u8 (b : Nat)) := (blk_cell HH2.out 1).trans rfl
        have f2 := blk_frozen HH2.out 2
        have c2 : wr.cell? ⟨w.heap.size, 2, none⟩ = some (.int .u8 0) := (blk_cell HH2.out 2).trans rfl
        have f3 := blk_frozen HH2.out 3
        have c3 : wr.cell? ⟨w.heap.size, 3, none⟩ = some (.int .u8 0) := (blk_cell HH2.out 3).trans rfl
        have hc : wr.cell? ⟨w.heap.size + 1, 2, none⟩ = some (.string p2) := (blk_cell HG.out 2).trans rfl
        cases hg : get255 p2.data.toList with
        | none =>
          have hgg : get p2.data.toList 255 = (0, false) := by rw [get255_get, hg]
          have HF := Aside0.mk (show R = readR none from by rw [HR.out, four_none2 hg])
          clear hg hvl hk hps
          go_wp2_with (go_at_call 29; refine (get_calls _ _ _).mono ?_; rintro e w1 ⟨rfl, rfl⟩; rw [hgg])
          try simp only [Exit.inBlock, Exit.then]
          refine bodyPost_ret (res_read _ _ w.heap.size 0 0 0 0 false rfl rfl (blk_put (blk_put (blk_put (blk_put HH2.out 0 _ rfl) 1 _ rfl) 2 _ rfl) 3 _ rfl)) rfl ⟨?_, ?_⟩
          · first | (rw [HF.out]; rfl) | rfl
          · exact (((HB.out.setCell (Nat.le_refl _) _).setCell (Nat.le_refl _) _).setCell (Nat.le_refl _) _).setCell (Nat.le_refl _) _
        | some n =>
          have hgg : get p2.data.toList 255 = ((n : Int), true) := by rw [get255_get, hg]
          have hn : n ≤ 255 := ((get255_iff _ _).1 hg).2
          have hcv : IntKind.u8.wrap (n : Int) = (n : Int) := by simp [IntKind.wrap, IntKind.bits, IntKind.signed]; omega
          have HGG := Aside0.mk hg
          clear hg hvl hk hps hn
          go_wp2_with (go_at_call 29; refine (get_calls _ _ _).mono ?_; rintro e w1 ⟨rfl, rfl⟩; rw [hgg])
          go_roundw
          case rel => exact ⟨2 + 1, by omega, by first | rfl | go_num, [a, b] ++ [n], rfl, ⟨by have h := HV.out; have hg := HGG.out; simp only [List.take_succ_cons, List.take_zero, List.map_cons, List.map_nil, List.cons_append, List.nil_append, List.cons.injEq, and_true, true_and] at h ⊢; exact ⟨h.1, h.2, hg⟩⟩, ⟨blk_put HH2.out 2 _ rfl⟩, ⟨blk_far HG.out (by simp) _⟩, ⟨HB.out.setCell (Nat.le_refl _) _⟩⟩
          case measure => simp [intOf]
      · obtain ⟨a, b, c, rfl⟩ : ∃ a b c, vs = [a, b, c] := by
          match vs, hvl with
          | [a, b, c], _ => exact ⟨a, b, c, rfl⟩
        have HH2 : Aside0 (wr.heap[w.heap.size]? = some (.cells #[.int .u8 (a : Nat), .int .u8 (b : Nat), .int .u8 (c : Nat), .int .u8 0] 28 (0, 0))) := HH
        have f0 := blk_frozen HH2.out 0
        have c0 : wr.cell? ⟨w.heap.size, 0, none⟩ = some (.int .u8 (a : Nat)) := (blk_cell HH2.out 0).trans rfl
        have f1 := blk_frozen HH2.out 1
        have c1 : wr.cell? ⟨w.heap.size, 1, none⟩ = some (.int .u8 (b : Nat)) := (blk_cell HH2.out 1).trans rfl
        have f2 := blk_frozen HH2.out 2
        have c2 : wr.cell? ⟨w.heap.size, 2, none⟩ = some (.int .u8 (c : Nat)) := (blk_cell HH2.out 2).trans rfl
        have f3 := blk_frozen HH2.out 3
        have c3 : wr.cell? ⟨w.heap.size, 3, none⟩ = some (.int .u8 0) := (blk_cell HH2.out 3).trans rfl
        have hc : wr.cell? ⟨w.heap.size + 1, 3, none⟩ = some (.string p3) := (blk_cell HG.out 3).trans rfl
        cases hg : get255 p3.data.toList with
        | none =>
          have hgg : get p3.data.toList 255 = (0, false) := by rw [get255_get, hg]
          have HF := Aside0.mk (show R = readR none from by rw [HR.out, four_none3 hg])
          clear hg hvl hk hps
          go_wp2_with (go_at_call 29; refine (get_calls _ _ _).mono ?_; rintro e w1 ⟨rfl, rfl⟩; rw [hgg])
          try simp only [Exit.inBlock, Exit.then]
          refine bodyPost_ret (res_read _ _ w.heap.size 0 0 0 0 false rfl rfl (blk_put (blk_put (blk_put (blk_put HH2.out 0 _ rfl) 1 _ rfl) 2 _ rfl) 3 _ rfl)) rfl ⟨?_, ?_⟩
          · first | (rw [HF.out]; rfl) | rfl
          · exact (((HB.out.setCell (Nat.le_refl _) _).setCell (Nat.le_refl _) _).setCell (Nat.le_refl _) _).setCell (Nat.le_refl _) _
        | some n =>
          have hgg : get p3.data.toList 255 = ((n : Int), true) := by rw [get255_get, hg]
          have hn : n ≤ 255 := ((get255_iff _ _).1 hg).2
          have hcv : IntKind.u8.wrap (n : Int) = (n : Int) := by simp [IntKind.wrap, IntKind.bits, IntKind.signed]; omega
          have HGG := Aside0.mk hg
          clear hg hvl hk hps hn
          go_wp2_with (go_at_call 29; refine (get_calls _ _ _).mono ?_; rintro e w1 ⟨rfl, rfl⟩; rw [hgg])
          go_roundw
          case rel => exact ⟨3 + 1, by omega, by first | rfl | go_num, [a, b, c] ++ [n], rfl, ⟨by have h := HV.out; have hg := HGG.out; simp only [List.take_succ_cons, List.take_zero, List.map_cons, List.map_nil, List.cons_append, List.nil_append, List.cons.injEq, and_true, true_and] at h ⊢; exact ⟨h.1, h.2.1, h.2.2, hg⟩⟩, ⟨blk_put HH2.out 3 _ rfl⟩, ⟨blk_far HG.out (by simp) _⟩, ⟨HB.out.setCell (Nat.le_refl _) _⟩⟩
          case measure => simp [intOf]
      · obtain ⟨a, b, c, d, rfl⟩ : ∃ a b c d, vs = [a, b, c, d] := by
          match vs, hvl with
          | [a, b, c, d], _ => exact ⟨a, b, c, d, rfl⟩
        have HH2 : Aside0 (wr.heap[w.heap.size]? = some (.cells #[.int .u8 (a : Nat), .int .u8 (b : Nat), .int .u8 (c : Nat), .int .u8 (d : Nat)] 28 (0, 0))) := HH
        have hfour : four p0.data.toList p1.data.toList p2.data.toList p3.data.toList = some (a, b, c, d) := by
          have := HV.out
          simp only [List.take_succ_cons, List.take_zero, List.map_cons, List.map_nil, List.cons.injEq, and_true] at this
          rw [four, this.1, this.2.1, this.2.2.1, this.2.2.2]; rfl
        have HF := Aside0.mk (show R = readR (some (a, b, c, d)) from by rw [HR.out, hfour])
        have f0 := blk_frozen HH2.out 0
        have c0 : wr.cell? ⟨w.heap.size, 0, none⟩ = some (.int .u8 (a : Nat)) := (blk_cell HH2.out 0).trans rfl
        have f1 := blk_frozen HH2.out 1
        have c1 : wr.cell? ⟨w.heap.size, 1, none⟩ = some (.int .u8 (b : Nat)) := (blk_cell HH2.out 1).trans rfl
        have f2 := blk_frozen HH2.out 2
        have c2 : wr.cell? ⟨w.heap.size, 2, none⟩ = some (.int .u8 (c : Nat)) := (blk_cell HH2.out 2).trans rfl
        have f3 := blk_frozen HH2.out 3
        have c3 : wr.cell? ⟨w.heap.size, 3, none⟩ = some (.int .u8 (d : Nat)) := (blk_cell HH2.out 3).trans rfl
        clear hps hvl hk
        by_cases hz : a = 0 ∧ b = 0 ∧ c = 0 ∧ d = 0
        · obtain ⟨rfl, rfl, rfl, rfl⟩ := hz
          have hq : ∀ W, (Op.equalIn 10000 28 (.agg #[.int .u8 0, .int .u8 0, .int .u8 0, .int .u8 0]) (.agg #[.int .u8 0, .int .u8 0, .int .u8 0, .int .u8 0])).run Tryd.prog W = .ok true W := fun W => eq_host 0 0 0 0 0 0 0 0 W
          have hse : s.toList = [48, 46, 48, 46, 48, 46, 48] := by
            have hr : readN s.data.toList = some (0, 0, 0, 0) := by rw [readN, ← hpsx.out]; exact hfour
            rw [ByteArray.toList_eq, ((readN_iff _ _ _ _ _).1 hr).1]
            simp [hostU, digU_small]
          clear hfour
          go_wp2
          go_region
          all_goals
            go_wp2
            try simp only [Exit.inBlock, Exit.then]
            refine bodyPost_ret (res_read _ _ w.heap.size 0 0 0 0 true rfl rfl (blk_drew (blk_put (blk_put (blk_put (blk_put HH2.out 0 _ rfl) 1 _ rfl) 2 _ rfl) 3 _ rfl))) rfl ⟨?_, ?_⟩
            · first | (rw [HF.out]; rfl) | rfl
            · exact ((((HB.out.setCell (Nat.le_refl _) _).setCell (Nat.le_refl _) _).setCell (Nat.le_refl _) _).setCell (Nat.le_refl _) _).drew
        · have hq : ∀ W, (Op.equalIn 10000 28 (.agg #[.int .u8 (a : Nat), .int .u8 (b : Nat), .int .u8 (c : Nat), .int .u8 (d : Nat)]) (.agg #[.int .u8 0, .int .u8 0, .int .u8 0, .int .u8 0])).run Tryd.prog W = .ok false W := fun W => by
            rw [eq_host]
            congr 1
            simp only [Bool.and_eq_false_iff, beq_eq_false_iff_ne]; omega
          clear hz hfour
          go_wp2
          go_region
          all_goals
            go_wp2
            try simp only [Exit.inBlock, Exit.then]
            refine bodyPost_ret (res_read _ _ w.heap.size a b c d true rfl rfl (blk_drew (blk_put (blk_put (blk_put (blk_put HH2.out 0 _ rfl) 1 _ rfl) 2 _ rfl) 3 _ rfl))) rfl ⟨?_, ?_⟩
            · first | (rw [HF.out]; rfl) | rfl
            · exact ((((HB.out.setCell (Nat.le_refl _) _).setCell (Nat.le_refl _) _).setCell (Nat.le_refl _) _).setCell (Nat.le_refl _) _).drew
  · have hl2 : ((ps.length : Int) != 4) = true := by simp; omega
    have HF := Aside0.mk (show R = readR none from by
      rw [HRR.out, readN, ← hps]
      split
      · rename_i p q r t h
        have := congrArg List.length h
        simp at this; omega
      · rfl)
    clear hl
    go_enter Tryd.func47, Tryd.ntmps47
    go_wp2_with (go_at_call 28; refine (HSP.out _ (HM.out.below ((Below.refl _ _).alloc (Nat.le_refl _) _))).mono ?_; rintro e w1 ⟨rfl, rfl⟩)
    try simp only [Exit.inBlock, Exit.then]
    refine bodyPost_ret (res_read _ _ w.heap.size 0 0 0 0 false rfl rfl (by have := blk_alloc (blk_new w (.cells #[.int .u8 0, .int .u8 0, .int .u8 0, .int .u8 0] 28)) (.cells (ps.map Value.string).toArray 9); exact this)) rfl ⟨?_, ?_⟩
    · first | (rw [HF.out]; rfl) | rfl
    · exact ((Below.refl _ _).alloc (Nat.le_refl _) _).alloc (by simp) _
end Go.Proofs.YtdcbkeihgbekdaaDoor.Quad

namespace Go.Proofs.YtdcbkeihgbekdaaDoor.Quad
open Go Go.RowKit Go.Proofs.YtdcbkeihgbekdaaDoorW.PrintWords Go.Proofs.YtdcbkeihgbekdaaDoorW.PrintLast Go.Proofs.YtdcbkeihgbekdaaDoorW.PrintMore Go.Proofs.YtdcbkeihgbekdaaDoor.Dig
set_option linter.unusedVariables false
set_option linter.unusedSimpArgs false

theorem extract_list (s : ByteArray) (f k : Nat) (h : k ≤ s.size) : (s.extract f k).data.toList = (s.data.toList.take k).drop f := by
  have h1 : (s.extract f k).data.toList = (s.data.toList.drop f).take (k - f) := by simp [ByteArray.data_extract, Array.toList_extract, List.extract]
  rw [h1, List.drop_take]

def str (l : List UInt8) : Value := .string ⟨l.toArray⟩
theorem piece_of (s : ByteArray) (f k : Nat) (h : k ≤ s.size) : s.extract f k = ⟨((s.data.toList.take k).drop f).toArray⟩ := by
  apply ByteArray.ext; apply Array.ext'
  rw [extract_list s f k h]
end Go.Proofs.YtdcbkeihgbekdaaDoor.Quad

namespace Go.Proofs.YtdcbkeihgbekdaaDoor.Quad
open Go Go.RowKit Go.Proofs.YtdcbkeihgbekdaaDoorW.PrintWords Go.Proofs.YtdcbkeihgbekdaaDoorW.PrintLast Go.Proofs.YtdcbkeihgbekdaaDoorW.PrintMore Go.Proofs.YtdcbkeihgbekdaaDoor.Dig
set_option linter.unusedVariables false
set_option linter.unusedSimpArgs false

end Go.Proofs.YtdcbkeihgbekdaaDoor.Quad

namespace Go.Proofs.YtdcbkeihgbekdaaDoor.Quad
open Go Go.RowKit Go.Proofs.YtdcbkeihgbekdaaDoorW.PrintWords Go.Proofs.YtdcbkeihgbekdaaDoorW.PrintLast Go.Proofs.YtdcbkeihgbekdaaDoorW.PrintMore Go.Proofs.YtdcbkeihgbekdaaDoor.Dig
set_option linter.unusedVariables false
set_option linter.unusedSimpArgs false

end Go.Proofs.YtdcbkeihgbekdaaDoor.Quad

namespace Go.Proofs.YtdcbkeihgbekdaaDoor.Quad
open Go Go.RowKit Go.Proofs.YtdcbkeihgbekdaaDoorW.PrintWords Go.Proofs.YtdcbkeihgbekdaaDoorW.PrintLast Go.Proofs.YtdcbkeihgbekdaaDoorW.PrintMore Go.Proofs.YtdcbkeihgbekdaaDoor.Dig
set_option linter.unusedVariables false
set_option linter.unusedSimpArgs false

end Go.Proofs.YtdcbkeihgbekdaaDoor.Quad

namespace Go.Proofs.YtdcbkeihgbekdaaDoor.Quad
open Go Go.RowKit Go.Proofs.YtdcbkeihgbekdaaDoorW.PrintWords Go.Proofs.YtdcbkeihgbekdaaDoorW.PrintLast Go.Proofs.YtdcbkeihgbekdaaDoorW.PrintMore Go.Proofs.YtdcbkeihgbekdaaDoor.Dig
set_option linter.unusedVariables false
set_option linter.unusedSimpArgs false

end Go.Proofs.YtdcbkeihgbekdaaDoor.Quad

namespace Go.Proofs.YtdcbkeihgbekdaaDoor.Row
open Go Go.RowKit Go.Proofs.YtdcbkeihgbekdaaDoorW.PrintWords

/-- A slice of one-cell elements in a block of the call's own: grown by it, or full. -/
def Lies (w : World) (base : Nat) (e : TypeId) (v : Value) (xs : List Value) : Prop :=
  w.ownsRow base e 1 v xs.length xs ∨
  ∃ g, v = .slice (some ⟨g, 0, none⟩) xs.length xs.length ∧ g < w.heap.size ∧ ∀ (j : Nat) x, xs[j]? = some x → w.cell? ⟨g, 0 + j, none⟩ = some x

theorem Lies.nil (w : World) (base : Nat) (e : TypeId) : Lies w base e (.slice none 0 0) [] := .inl (own_nil _ _ _ _)
theorem Lies.form {w : World} {base : Nat} {e : TypeId} {v : Value} {xs : List Value} (h : Lies w base e v xs) :
    (v = .slice none 0 0 ∧ xs = []) ∨ ∃ g c, v = .slice (some ⟨g, 0, none⟩) xs.length c ∧ xs.length ≤ c ∧ g < w.heap.size ∧ ∀ (j : Nat) x, xs[j]? = some x → w.cell? ⟨g, 0 + j, none⟩ = some x := by
  rcases h with h | ⟨g, h1, h3, h4⟩
  · by_cases h0 : xs = []
    · subst h0
      rcases h.2 with ⟨h1, _⟩ | ⟨g, cap, cur, h1, h2, h3, h4, _⟩
      · exact .inl ⟨h1, rfl⟩
      · exact .inr ⟨g, cap, h1, h4, blk_lt h3, fun j x hx => by simp at hx⟩
    · obtain ⟨g, c, h1, h2, h3, h4, h5⟩ := Laws.own_cells h (List.length_pos_iff.2 h0)
      exact .inr ⟨g, c, h1, h2, h4, h5⟩
  · exact .inr ⟨g, xs.length, h1, Nat.le_refl _, h3, h4⟩
/-- As it is read: one form, a nil slice too. -/
theorem Lies.read {w : World} {base : Nat} {e : TypeId} {v : Value} {xs : List Value} (h : Lies w base e v xs) :
    ∃ A c, v = .slice A xs.length c ∧ xs.length ≤ c ∧ ∀ (j : Nat) x, xs[j]? = some x → ∃ g, A = some ⟨g, 0, none⟩ ∧ g < w.heap.size ∧ w.cell? ⟨g, j, none⟩ = some x := by
  rcases h.form with ⟨rfl, rfl⟩ | ⟨g, c, rfl, hc, hg, hx⟩
  · exact ⟨none, 0, rfl, Nat.le_refl _, fun j x hx => by simp at hx⟩
  · exact ⟨_, c, rfl, hc, fun j x hj => ⟨g, rfl, hg, by have := hx j x hj; rwa [Nat.zero_add] at this⟩⟩
theorem Lies.readN {w : World} {base : Nat} {e : TypeId} {v : Value} {xs : List Value} (h : Lies w base e v xs) :
    ∃ A N c, v = .slice A N c ∧ N = xs.length ∧ N ≤ c ∧ ∀ (j : Nat) x, xs[j]? = some x → ∃ g, A = some ⟨g, 0, none⟩ ∧ g < w.heap.size ∧ w.cell? ⟨g, j, none⟩ = some x := by
  obtain ⟨A, c, h1, h2, h3⟩ := h.read
  exact ⟨A, _, c, h1, rfl, h2, h3⟩
theorem Lies.below {w w' : World} {base : Nat} {e : TypeId} {v : Value} {xs : List Value} (h : Lies w base e v xs) (hb : Below w.heap.size w w') : Lies w' base e v xs := by
  rcases h with h | ⟨g, h1, h3, h4⟩
  · exact .inl (own_move h (fun j hj => hb.block j (own_lt h j hj)))
  · exact .inr ⟨g, h1, Nat.lt_of_lt_of_le h3 hb.size, fun j x hx => (hb.cell h3).trans (h4 j x hx)⟩
theorem Lies.alloc {w : World} {base : Nat} {e : TypeId} {v : Value} {xs : List Value} (h : Lies w base e v xs) (o : Obj) : Lies (w.alloc o) base e v xs := h.below ((Below.refl _ _).alloc (Nat.le_refl _) o)
/-- A new block, whole. -/
theorem Lies.whole (w : World) (base : Nat) (e T : TypeId) (xs : List Value) : Lies (w.alloc (.cells xs.toArray T)) base e (.slice (some ⟨w.heap.size, 0, none⟩) xs.length xs.length) xs := by
  refine .inr ⟨w.heap.size, rfl, by simp, fun j x hx => ?_⟩
  have := Laws.new_cells w xs T xs.toArray rfl j x hx
  rw [add_plain] at this
  rw [Nat.zero_add]; exact this
theorem own_mono {w : World} {base base' : Nat} {e : TypeId} {size n : Nat} {v : Value} {xs : List Value} (h : w.ownsRow base e size v n xs) (hb : base' ≤ base) : w.ownsRow base' e size v n xs := by
  obtain ⟨h1, h2⟩ := h
  rcases h2 with h2 | ⟨g, cap, cur, h3, h4, h5⟩
  · exact ⟨h1, .inl h2⟩
  · exact ⟨h1, .inr ⟨g, cap, cur, h3, Nat.le_trans hb h4, h5⟩⟩
section
variable {P : Program} {ops : Array Oper} {rest : List Oper} {o : Oper} {a : Act} {Q : Exit → Act → World → Prop} {w : World}
/-- An append of some elements to a row that lies so. -/
theorem append (hgd : o.guard = none) (s x : Operand) (t : TypeId)
    (ho : o.op = .call { callee := .builtin .append, args := #[s, x], argTypes := #[t, t] })
    (base : Nat) (e : TypeId) (i : TypeInfo) (z : Value) (bytes : Nat) (ht : P.underlying t = some (.slice e)) (hi : P.info? e = some i) (hz : i.zero = some z)
    (hsize : i.size = 1) (hby : i.bytes = bytes) (hzs : z.cells.size = 1)
    (v : Value) (xs : List Value) (hs : a.eval s = v) (hown : Lies w base e v xs)
    (ad : Addr) (m c : Nat) (news : List Value) (hx : a.eval x = .slice (some ad) m c) (hl : news.length = m) (hm : 0 < m) (hnews : ∀ j u, news[j]? = some u → w.cell? (ad.add j) = some u) (h1 : ∀ u ∈ news, u.oneCell' = true)
    (h63 : xs.length + m ≤ maxLen) (hbytes : (xs.length + m) * bytes ≤ 140737488355328) (hbase : base ≤ w.heap.size)
    (h : ∀ v' w', w'.ownsRow base e 1 v' (xs.length + m) (xs ++ news) → Below base w w' → wpList P ops Q rest (a.put o.dst v') w') :
    wpList P ops Q (o :: rest) a w := by
  rcases hown with hown | ⟨g, rfl, h3, h4⟩
  · refine wpList_append_own_at w hgd s x t ho base e i z 1 bytes ht hi hz hsize hby hzs (by decide) v xs.length xs hs hown ad m c news hx (by rw [hl, Nat.mul_one]) hnews h1 h63 hbytes hbase ?_
    intro v' w' r1 r2 _ _
    exact h v' w' r1 ((Below.refl _ _).grown r2 hbase (fun k hk => Laws.own_ge hown k hk))
  · refine wpList_append_grows w hgd s x t ho e i z 1 bytes ht hi hz hsize hby hzs (by decide) (some ⟨g, 0, none⟩) xs.length xs.length xs hs (fun hh => by cases hh) (by rw [Nat.mul_one]) (fun b hb j u hj => by cases hb; rw [add_plain]; have := h4 j u hj; rwa [Nat.zero_add] at this) ad m c news hx (by rw [hl, Nat.mul_one]) hnews h1 (by omega) h63 hbytes ?_
    intro v' w' r1 r2
    exact h v' w' (own_mono r1 hbase) ((Below.refl _ _).grown r2 hbase (fun k hk => by cases hk))
end
end Go.Proofs.YtdcbkeihgbekdaaDoor.Row

namespace Go.Proofs.YtdcbkeihgbekdaaDoor.Quad
open Go Go.RowKit Go.Proofs.YtdcbkeihgbekdaaDoorW.PrintWords Go.Proofs.YtdcbkeihgbekdaaDoorW.PrintLast Go.Proofs.YtdcbkeihgbekdaaDoorW.PrintMore
set_option linter.unusedVariables false
set_option linter.unusedSimpArgs false

def tot : List (List UInt8) → Nat
  | [] => 0
  | x :: l => x.length + 1 + tot l
theorem tot_len (l : List (List UInt8)) : l.length ≤ tot l := by
  induction l with
  | nil => exact Nat.le_refl _
  | cons x l ih => simp only [List.length_cons, tot]; omega
theorem jn_tot (c : UInt8) : ∀ l : List (List UInt8), (Cut.jn c l).length ≤ tot l
  | [] => by simp [Cut.jn]
  | [p] => by simp [Cut.jn, tot]
  | p :: q :: r => by
    have ih := jn_tot c (q :: r)
    rw [Cut.jn, tot]
    simp only [List.length_append, List.length_cons]; omega
theorem join_lies (b : UInt8) (ls : List (List UInt8)) (v : Value) (B : Nat) (w : World) (h : Row.Lies w B 9 v (ls.map str)) (hl : tot ls ≤ 100000000) :
    Calls Tryd.prog 39 #[v, .string ⟨#[b]⟩] w fun e w' => e = .returned (.string ⟨(Cut.jn b ls).toArray⟩) ∧ Below w.heap.size w w' := by
  have hm : ls.map str = (ls.map fun x => (⟨x.toArray⟩ : ByteArray)).map Value.string := by rw [List.map_map]; rfl
  have hd : (ls.map fun x => (⟨x.toArray⟩ : ByteArray)).map (·.data.toList) = ls := by
    rw [List.map_map]
    conv => rhs; rw [← List.map_id ls]
    rfl
  rcases h.form with ⟨rfl, h0⟩ | ⟨g, c, rfl, hc, hg, hx⟩
  · have h1 : ls = [] := by simpa using h0
    subst h1
    exact (Tryd.strings_Join_none none 0 ⟨#[b]⟩ w).mono fun e w' ⟨he, hw⟩ => ⟨he, hw ▸ Below.refl _ _⟩
  · have hj := Tryd.strings_Join g 0 c (ls.map fun x => (⟨x.toArray⟩ : ByteArray)) ⟨#[b]⟩ w (fun j x hx' => hx j (.string x) (by rw [hm, List.getElem?_map, hx']; rfl)) hg
      (by rw [List.length_map]; have := tot_len ls; omega) (by rw [List.length_map] at hc ⊢; exact hc)
      (by rw [hd, show (ByteArray.mk #[b]).data.toList = [b] from rfl, Cut.join_jn]; have := jn_tot b ls; omega)
    rw [hd, show (ByteArray.mk #[b]).data.toList = [b] from rfl, Cut.join_jn, List.length_map] at hj
    rw [List.length_map]
    exact hj
end Go.Proofs.YtdcbkeihgbekdaaDoor.Quad

namespace Go.Proofs.YtdcbkeihgbekdaaDoor.SixP
open Go Go.Proofs.YtdcbkeihgbekdaaDoor.Dig Go.Proofs.YtdcbkeihgbekdaaDoor.Cut

/-- An end as it is written. -/
def sixU (a b c d p : Nat) : List UInt8 := jn 44 [digU a, digU b, digU c, digU d, digU (p / 256), digU (p % 256)]
def six (p0 p1 p2 p3 p4 p5 : List UInt8) : Option (Nat × Nat × Nat × Nat × Nat) :=
  (get255 p0).bind fun a => (get255 p1).bind fun b => (get255 p2).bind fun c => (get255 p3).bind fun d => (get255 p4).bind fun e => (get255 p5).bind fun f => some (a, b, c, d, 256 * e + f)
def readSix (l : List UInt8) : Option (Nat × Nat × Nat × Nat × Nat) := match cut 44 l with
  | [p0, p1, p2, p3, p4, p5] => six p0 p1 p2 p3 p4 p5
  | _ => none
theorem dig_not44 (n : Nat) : (44 : UInt8) ∉ digU n := by
  intro h
  exact absurd (List.all_eq_true.1 (digU_all n).1 _ h) (by decide)
theorem cut_six (a b c d p : Nat) : cut 44 (sixU a b c d p) = [digU a, digU b, digU c, digU d, digU (p / 256), digU (p % 256)] := by
  refine cut_jn 44 _ (by simp) ?_
  intro x hx
  simp only [List.mem_cons, List.not_mem_nil, or_false] at hx
  rcases hx with rfl | rfl | rfl | rfl | rfl | rfl <;> exact dig_not44 _
theorem six_iff (p0 p1 p2 p3 p4 p5 : List UInt8) (a b c d p : Nat) : six p0 p1 p2 p3 p4 p5 = some (a, b, c, d, p) ↔
    (p0 = digU a ∧ a ≤ 255) ∧ (p1 = digU b ∧ b ≤ 255) ∧ (p2 = digU c ∧ c ≤ 255) ∧ (p3 = digU d ∧ d ≤ 255) ∧ p4 = digU (p / 256) ∧ p5 = digU (p % 256) ∧ p ≤ 65535 := by
  simp only [six, Option.bind_eq_some_iff, Option.some.injEq, Prod.mk.injEq]
  constructor
  · rintro ⟨a', ha, b', hb, c', hc, d', hd, e', he, f', hf, rfl, rfl, rfl, rfl, rfl⟩
    have he := (get255_iff _ _).1 he
    have hf := (get255_iff _ _).1 hf
    refine ⟨(get255_iff _ _).1 ha, (get255_iff _ _).1 hb, (get255_iff _ _).1 hc, (get255_iff _ _).1 hd, ?_, ?_, by omega⟩
    · rw [he.1, show (256 * e' + f') / 256 = e' from by omega]
    · rw [hf.1, show (256 * e' + f') % 256 = f' from by omega]
  · rintro ⟨ha, hb, hc, hd, he, hf, hp⟩
    exact ⟨a, (get255_iff _ _).2 ha, b, (get255_iff _ _).2 hb, c, (get255_iff _ _).2 hc, d, (get255_iff _ _).2 hd, p / 256, (get255_iff _ _).2 ⟨he, by omega⟩, p % 256, (get255_iff _ _).2 ⟨hf, by omega⟩, rfl, rfl, rfl, rfl, by omega⟩
/-- A text is an end just where it is that end as it is written. -/
theorem readSix_iff (l : List UInt8) (a b c d p : Nat) : readSix l = some (a, b, c, d, p) ↔ l = sixU a b c d p ∧ a ≤ 255 ∧ b ≤ 255 ∧ c ≤ 255 ∧ d ≤ 255 ∧ p ≤ 65535 := by
  constructor
  · intro h
    unfold readSix at h
    split at h
    · rename_i p0 p1 p2 p3 p4 p5 hc
      have hj := jn_cut 44 l
      rw [hc] at hj
      obtain ⟨⟨rfl, ha⟩, ⟨rfl, hb⟩, ⟨rfl, hc'⟩, ⟨rfl, hd⟩, rfl, rfl, hp⟩ := (six_iff p0 p1 p2 p3 p4 p5 a b c d p).1 h
      exact ⟨hj.symm, ha, hb, hc', hd, hp⟩
    · cases h
  · rintro ⟨rfl, ha, hb, hc, hd, hp⟩
    rw [readSix, cut_six]
    exact (six_iff _ _ _ _ _ _ a b c d p).2 ⟨⟨rfl, ha⟩, ⟨rfl, hb⟩, ⟨rfl, hc⟩, ⟨rfl, hd⟩, rfl, rfl, hp⟩
end Go.Proofs.YtdcbkeihgbekdaaDoor.SixP

namespace Go.Proofs.YtdcbkeihgbekdaaDoor.SixP
open Go Go.Proofs.YtdcbkeihgbekdaaDoor.Dig Go.Proofs.YtdcbkeihgbekdaaDoor.Cut

/-- What stands ahead of the first such byte, and behind it. -/
def cut1 (c : UInt8) : List UInt8 → Option (List UInt8 × List UInt8)
  | [] => none
  | b :: l => if b = c then some ([], l) else (cut1 c l).map fun x => (b :: x.1, x.2)
theorem cut1_some {c : UInt8} (r : List UInt8) : ∀ {p : List UInt8}, c ∉ p → cut1 c (p ++ c :: r) = some (p, r)
  | [], _ => by rw [List.nil_append, cut1, if_pos rfl]
  | b :: p, h => by
    rw [List.cons_append, cut1, if_neg (fun e => h (by rw [e]; exact List.mem_cons_self ..)), cut1_some r (fun e => h (List.mem_cons_of_mem _ e))]; rfl
theorem cut1_is {c : UInt8} : ∀ {l a b : List UInt8}, cut1 c l = some (a, b) → l = a ++ c :: b ∧ c ∉ a
  | [], a, b, h => by cases h
  | x :: l, a, b, h => by
    rw [cut1] at h
    split at h
    · rename_i hx
      cases h; subst hx; exact ⟨rfl, by simp⟩
    · rename_i hx
      cases hc : cut1 c l with
      | none => rw [hc] at h; cases h
      | some y =>
        rw [hc] at h
        cases h
        obtain ⟨h1, h2⟩ := cut1_is (l := l) (a := y.1) (b := y.2) hc
        refine ⟨by rw [List.cons_append, ← h1], ?_⟩
        simp only [List.mem_cons, not_or]
        exact ⟨fun e => hx e.symm, h2⟩
theorem lib_cut (c : UInt8) (l : List UInt8) : Lib.cut l [c] = match cut1 c l with
    | some (a, b) => (a, b, true)
    | none => (l, [], false) := by
  have hi : ∀ l, (cut1 c l = none ∧ Lib.index l [c] = -1) ∨ (∃ a b, cut1 c l = some (a, b) ∧ Lib.index l [c] = (a.length : Int)) := by
    intro l
    induction l with
    | nil => exact .inl ⟨rfl, by simp [Lib.index]⟩
    | cons b l ih =>
      by_cases hb : b = c
      · subst hb
        exact .inr ⟨[], l, by rw [cut1, if_pos rfl], by rw [index_one_eq]; rfl⟩
      · rcases ih with ⟨h1, h2⟩ | ⟨a, r, h1, h2⟩
        · exact .inl ⟨by rw [cut1, if_neg hb, h1]; rfl, by rw [index_one_ne b c l hb, h2]; rfl⟩
        · refine .inr ⟨b :: a, r, by rw [cut1, if_neg hb, h1]; rfl, ?_⟩
          rw [index_one_ne b c l hb, h2, if_neg (by simp <;> omega), List.length_cons]; omega
  rcases hi l with ⟨h1, h2⟩ | ⟨a, b, h1, h2⟩
  · rw [h1, Lib.cut, h2, if_neg (by decide)]
  · obtain ⟨h3, h4⟩ := cut1_is h1
    rw [h1, Lib.cut, h2, if_pos (by omega)]
    simp only [Int.toNat_natCast, List.length_cons, List.length_nil]
    rw [h3]
    simp
/-- The end that a text has. -/
def find (l : List UInt8) : Option (Nat × Nat × Nat × Nat × Nat) := (cut1 40 l).bind fun x => (cut1 41 x.2).bind fun y => readSix y.1
end Go.Proofs.YtdcbkeihgbekdaaDoor.SixP

namespace Go.Proofs.YtdcbkeihgbekdaaDoor.ExtP
set_option linter.unusedVariables false
set_option linter.unusedSimpArgs false
open Go Go.Proofs.YtdcbkeihgbekdaaDoor.Dig Go.Proofs.YtdcbkeihgbekdaaDoor.Cut Go.Proofs.YtdcbkeihgbekdaaDoor.SixP

def isMark (c : UInt8) : Bool := decide (33 ≤ c.toNat) && decide (c.toNat ≤ 126) && !isDig c
/-- An end as it is written. -/
def endU (a b c d p : Nat) : List UInt8 := jn 124 [[], [49], hostU a b c d, digU p, []]
/-- A port as it is written. -/
def portU (p : Nat) : List UInt8 := 40 :: 124 :: 124 :: 124 :: (digU p ++ [124, 41])
inductive Out | ok (a b c d p : Nat) | form | kind
  deriving DecidableEq
def getMost (most : Nat) (l : List UInt8) : Option Nat := (getN l).bind fun n => if n ≤ most then some n else none
theorem getMost_get (most : Nat) (l : List UInt8) : Dig.get l (most : Int) = match getMost most l with
  | some n => ((n : Int), true)
  | none => (0, false) := by
  unfold getMost Dig.get
  cases h : getN l with
  | none => rfl
  | some n =>
    simp only [Option.bind_some]
    by_cases hn : n ≤ most
    · rw [if_pos hn, if_neg (by omega)]
    · rw [if_neg hn, if_pos (by omega)]
theorem getMost_iff (most : Nat) (hm : most < 1000000000000000000) (l : List UInt8) (n : Nat) : getMost most l = some n ↔ l = digU n ∧ n ≤ most := by
  unfold getMost
  constructor
  · intro h
    cases hg : getN l with
    | none => rw [hg] at h; cases h
    | some m =>
      rw [hg] at h
      simp only [Option.bind_some] at h
      split at h
      · cases h; exact ⟨((getN_iff l n).1 hg).1, by assumption⟩
      · cases h
  · rintro ⟨rfl, h⟩
    rw [(getN_iff (digU n) n).2 ⟨rfl, by omega⟩]
    simp [h]
/-- Which end, or why none, five parts are. -/
def five (k h n t : List UInt8) : Out :=
  if t ≠ [] then .form else match getMost 9 k with
  | none => .form
  | some 0 => .form
  | some 1 => match readN h, getMost 65535 n with
    | some (a, b, c, d), some p => if p = 0 then .form else .ok a b c d p
    | _, _ => .form
  | some _ => .kind
def readE (l : List UInt8) : Out := match l with
  | [] => .form
  | m :: r => if isMark m = false then .form else match cut m (m :: r) with
    | [_, k, h, n, t] => five k h n t
    | _ => .form
/-- The port between marks. -/
def inner (t : List UInt8) : Option Nat := match t with
  | m :: r => if isMark m = false then none else match r with
    | x :: y :: z => if x = m ∧ y = m ∧ z.getLast? = some m then (getMost 65535 z.dropLast).bind fun n => if n = 0 then none else some n else none
    | _ => none
  | [] => none
def findE (l : List UInt8) : Option Nat := (cut1 40 l).bind fun x => (cut1 41 x.2).bind fun y => inner y.1

theorem dig_no (n : Nat) (c : UInt8) (h : isDig c = false) : c ∉ digU n := fun hm => by
  rw [List.all_eq_true.1 (digU_all n).1 _ hm] at h; cases h
theorem host_no (a b c d : Nat) : 124 ∉ hostU a b c d := by
  simp only [hostU, List.mem_append, List.mem_cons, not_or]
  exact ⟨dig_no a _ (by decide), by decide, dig_no b _ (by decide), by decide, dig_no c _ (by decide), by decide, dig_no d _ (by decide)⟩
theorem cut_end (a b c d p : Nat) : cut 124 (endU a b c d p) = [[], [49], hostU a b c d, digU p, []] := by
  refine cut_jn 124 _ (by simp) ?_
  intro x hx
  simp only [List.mem_cons, List.not_mem_nil, or_false] at hx
  rcases hx with rfl | rfl | rfl | rfl | rfl
  · simp
  · decide
  · exact host_no a b c d
  · exact dig_no p _ (by decide)
  · simp
theorem end_head (a b c d p : Nat) : endU a b c d p = 124 :: 49 :: 124 :: (hostU a b c d ++ 124 :: (digU p ++ [124])) := by simp [endU, jn]
theorem read_end {a b c d p : Nat} (ha : a ≤ 255) (hb : b ≤ 255) (hc : c ≤ 255) (hd : d ≤ 255) (h0 : 0 < p) (hp : p ≤ 65535) : readE (endU a b c d p) = .ok a b c d p := by
  have hcut := cut_end a b c d p
  rw [end_head] at hcut ⊢
  rw [readE, if_neg (by decide), hcut]
  show five [49] (hostU a b c d) (digU p) [] = _
  rw [five, if_neg (by simp), show getMost 9 [49] = some 1 from by rw [getMost_iff 9 (by decide)]; exact ⟨by rw [digU_small (by decide)]; rfl, by decide⟩]
  show (match readN (hostU a b c d), getMost 65535 (digU p) with | some (a, b, c, d), some p => if p = 0 then Out.form else .ok a b c d p | _, _ => .form) = _
  rw [(readN_iff _ a b c d).2 ⟨rfl, ha, hb, hc, hd⟩, (getMost_iff 65535 (by decide) _ p).2 ⟨rfl, hp⟩]
  show (if p = 0 then Out.form else .ok a b c d p) = _
  rw [if_neg (by omega)]
theorem find_port {ahead : List UInt8} (h : 40 ∉ ahead) {p : Nat} (h0 : 0 < p) (hp : p ≤ 65535) (behind : List UInt8) : findE (ahead ++ (portU p ++ behind)) = some p := by
  have h41 : 41 ∉ (124 :: 124 :: 124 :: (digU p ++ [124]) : List UInt8) := by
    simp only [List.mem_cons, List.mem_append, List.not_mem_nil, or_false, not_or]
    exact ⟨by decide, by decide, by decide, dig_no p _ (by decide), by decide⟩
  have e : portU p ++ behind = 40 :: ((124 :: 124 :: 124 :: (digU p ++ [124])) ++ 41 :: behind) := by simp [portU]
  rw [e]
  simp only [findE, Option.bind_eq_some_iff]
  refine ⟨_, cut1_some _ h, _, cut1_some _ h41, ?_⟩
  show inner (124 :: 124 :: 124 :: (digU p ++ [124])) = some p
  rw [inner, if_neg (by decide)]
  show (if (124 : UInt8) = 124 ∧ (124 : UInt8) = 124 ∧ (digU p ++ [124]).getLast? = some 124 then _ else _) = _
  rw [if_pos ⟨rfl, rfl, by simp⟩, List.dropLast_concat, (getMost_iff 65535 (by decide) _ p).2 ⟨rfl, hp⟩]
  show (if p = 0 then none else some p) = _
  rw [if_neg (by omega)]
end Go.Proofs.YtdcbkeihgbekdaaDoor.ExtP

namespace Go.Proofs.YtdcbkeihgbekdaaDoor.Ext
open Go Go.RowKit Go.Proofs.YtdcbkeihgbekdaaDoorW.PrintWords Go.Proofs.YtdcbkeihgbekdaaDoorW.PrintLast Go.Proofs.YtdcbkeihgbekdaaDoorW.PrintMore Go.Proofs.YtdcbkeihgbekdaaDoor.Dig Go.Proofs.YtdcbkeihgbekdaaDoor.Quad Go.Proofs.YtdcbkeihgbekdaaDoor.ExtP
set_option linter.unusedVariables false
set_option linter.unusedSimpArgs false

def endV (a b c d : Nat) (p : Int) : Value := .agg #[.int .u8 a, .int .u8 b, .int .u8 c, .int .u8 d, .int .i64 p]
/-- What Text hands back. -/
def textR (a b c d : Nat) (p : Int) : Value := if 0 < p ∧ p ≤ 65535 then .tuple #[str (endU a b c d p.toNat), .bool true] else .tuple #[str [], .bool false]
/-- What Port hands back. -/
def portR (p : Int) : Value := if 0 < p ∧ p ≤ 65535 then .tuple #[str (portU p.toNat), .bool true] else .tuple #[str [], .bool false]

set_option maxHeartbeats 1000000 in
theorem port_calls (n : Int) (w : World) : Calls Tryd.prog 37 #[.int .i64 n] w fun e w' => e = .returned (.bool (decide (0 < n ∧ n ≤ 65535))) ∧ w' = w := by
  by_cases h0 : 0 < n
  · by_cases h1 : n ≤ 65535
    · have h0' := decide_eq_true h0
      have h1' := decide_eq_true h1
      rw [decide_eq_true (And.intro h0 h1)]
      clear h0 h1
      go_enter Tryd.func37, Tryd.ntmps37
      go_wp2
      go_ret
      exact ⟨rfl, rfl⟩
    · have h0' := decide_eq_true h0
      have h1' := decide_eq_false h1
      rw [decide_eq_false (fun h => h1 h.2)]
      clear h0 h1
      go_enter Tryd.func37, Tryd.ntmps37
      go_wp2
      go_ret
      exact ⟨rfl, rfl⟩
  · have h0' := decide_eq_false h0
    rw [decide_eq_false (fun h => h0 h.1)]
    clear h0
    go_enter Tryd.func37, Tryd.ntmps37
    go_wp2
    go_ret
    exact ⟨rfl, rfl⟩
theorem mark_goes (c : UInt8) : (decide (32 < (c.toNat : Int)) = false ∧ isMark c = false) ∨ (decide (32 < (c.toNat : Int)) = true ∧ decide ((c.toNat : Int) < 127) = false ∧ isMark c = false) ∨
    (decide (32 < (c.toNat : Int)) = true ∧ decide ((c.toNat : Int) < 127) = true ∧ decide ((c.toNat : Int) < 48) = true ∧ isMark c = true) ∨
    (decide (32 < (c.toNat : Int)) = true ∧ decide ((c.toNat : Int) < 127) = true ∧ decide ((c.toNat : Int) < 48) = false ∧ decide (57 < (c.toNat : Int)) = true ∧ isMark c = true) ∨
    (decide (32 < (c.toNat : Int)) = true ∧ decide ((c.toNat : Int) < 127) = true ∧ decide ((c.toNat : Int) < 48) = false ∧ decide (57 < (c.toNat : Int)) = false ∧ isMark c = false) := by
  obtain ⟨n, hn⟩ : ∃ n, n = c.toNat := ⟨_, rfl⟩
  simp only [isMark, isDig, ← hn]
  by_cases h1 : 32 < n <;> by_cases h2 : n < 127 <;> by_cases h3 : n < 48 <;> by_cases h4 : 57 < n <;> simp <;> omega

set_option maxHeartbeats 1000000 in
theorem mark_calls (c : UInt8) (w : World) : Calls Tryd.prog 34 #[.int .u8 (c.toNat : Int)] w fun e w' => e = .returned (.bool (isMark c)) ∧ w' = w := by
  have hg := mark_goes c
  obtain ⟨n, hn⟩ : ∃ n : Nat, n = c.toNat := ⟨_, rfl⟩
  rw [← hn] at hg ⊢
  rcases hg with ⟨h1, hm⟩ | ⟨h1, h2, hm⟩ | ⟨h1, h2, h3, hm⟩ | ⟨h1, h2, h3, h4, hm⟩ | ⟨h1, h2, h3, h4, hm⟩
  all_goals
    rw [hm]
    clear hm hn
    go_enter Tryd.func34, Tryd.ntmps34
    go_wp2
    go_ret
    exact ⟨rfl, rfl⟩
end Go.Proofs.YtdcbkeihgbekdaaDoor.Ext

namespace Go.Proofs.YtdcbkeihgbekdaaDoor.Ext
open Go Go.RowKit Go.Proofs.YtdcbkeihgbekdaaDoorW.PrintWords Go.Proofs.YtdcbkeihgbekdaaDoorW.PrintLast Go.Proofs.YtdcbkeihgbekdaaDoorW.PrintMore Go.Proofs.YtdcbkeihgbekdaaDoor.Dig Go.Proofs.YtdcbkeihgbekdaaDoor.Quad Go.Proofs.YtdcbkeihgbekdaaDoor.ExtP
set_option linter.unusedVariables false
set_option linter.unusedSimpArgs false

theorem num_callsP (p : Nat) (h : p ≤ 65535) (w : World) :
    Calls Tryd.prog 38 #[.int .i64 p] w fun e w' => e = .returned (.string ⟨(digU p).toArray⟩) ∧ Below w.heap.size w w' := by
  have := num_calls (p : Int) (by omega) (by omega) w
  rwa [numU_eq, numU_nat] at this
theorem dig_short {p : Nat} (h : p ≤ 65535) : (digU p).length ≤ 5 := by rw [digU_len]; exact dig_len 4 p (by omega)
theorem host_short {a b c d : Nat} (h : a < 256 ∧ b < 256 ∧ c < 256 ∧ d < 256) : (hostU a b c d).length ≤ 15 := by
  have hll : ∀ n : Nat, n < 256 → (digU n).length ≤ 3 := fun n hn => by rw [digU_len]; exact dig_len 2 n (by omega)
  have := hll a h.1; have := hll b h.2.1; have := hll c h.2.2.1; have := hll d h.2.2.2
  simp only [hostU, List.length_append, List.length_cons]; omega

set_option maxHeartbeats 1000000 in
set_option maxRecDepth 100000 in
theorem portT_calls (p : Int) (w : World) : Calls Tryd.prog 24 #[.int .i64 p] w fun e w' => e = .returned (portR p) ∧ Below w.heap.size w w' := by
  by_cases h : 0 < p ∧ p ≤ 65535
  · obtain ⟨n, rfl⟩ : ∃ n : Nat, p = n := ⟨p.toNat, by omega⟩
    have HP := Aside0.mk (decide_eq_true h)
    have HN := Aside0.mk (show n ≤ 65535 from by omega)
    obtain ⟨N, hN⟩ : ∃ N : ByteArray, N = ⟨(digU n).toArray⟩ := ⟨_, rfl⟩
    have hNs : N.size ≤ 5 := by rw [hN, ← data_length]; exact dig_short HN.out
    have e1 : (ByteArray.mk #[40, 124, 124, 124]).size = 4 := rfl
    have e2 : (ByteArray.mk #[124, 41]).size = 2 := rfl
    have HE := Aside0.mk (show portR n = .tuple #[.string (⟨#[40, 124, 124, 124]⟩ ++ N ++ ⟨#[124, 41]⟩), .bool true] from by
      rw [portR, if_pos h, hN]
      have : (str (portU n)) = .string (⟨#[40, 124, 124, 124]⟩ ++ (⟨(digU n).toArray⟩ : ByteArray) ++ ⟨#[124, 41]⟩) := by
        refine congrArg Value.string ?_; apply ByteArray.ext; apply Array.ext'; simp [portU]
      rw [← this]; rfl)
    have HV := Aside0.mk hN
    clear h hN
    go_enter Tryd.func24, Tryd.ntmps24
    go_wp2_with (first
      | (go_at_call 37; refine (port_calls _ _).mono ?_; rintro e w1 ⟨rfl, hw⟩; obtain rfl := hw.symm; rw [HP.out])
      | (go_at_call 38; refine (num_callsP n HN.out _).mono ?_; rw [← HV.out]; rintro e w2 ⟨rfl, hb⟩; have HB := Aside0.mk hb; clear hb))
    go_ret2
    exact ⟨by rw [HE.out]; rfl, HB.out⟩
  · have HP := Aside0.mk (decide_eq_false h)
    have HE := Aside0.mk (show portR p = .tuple #[str [], .bool false] from if_neg h)
    clear h
    go_enter Tryd.func24, Tryd.ntmps24
    go_wp2_with (go_at_call 37; refine (port_calls _ _).mono ?_; rintro e w1 ⟨rfl, hw⟩; obtain rfl := hw.symm; rw [HP.out])
    go_ret2
    exact ⟨by rw [HE.out]; rfl, Below.refl _ _⟩

end Go.Proofs.YtdcbkeihgbekdaaDoor.Ext

namespace Go.Proofs.YtdcbkeihgbekdaaDoor.Ext
open Go Go.RowKit Go.Proofs.YtdcbkeihgbekdaaDoorW.PrintWords Go.Proofs.YtdcbkeihgbekdaaDoorW.PrintLast Go.Proofs.YtdcbkeihgbekdaaDoorW.PrintMore Go.Proofs.YtdcbkeihgbekdaaDoor.Dig Go.Proofs.YtdcbkeihgbekdaaDoor.Quad Go.Proofs.YtdcbkeihgbekdaaDoor.ExtP
set_option linter.unusedVariables false
set_option linter.unusedSimpArgs false

/-- What the listed variables hold: the errors' two pointers, the handle of the type error. -/
structure Ex (w : World) (ak af : Addr) : Prop where
  kind : w.cell? ⟨2, 0, none⟩ = some (.iface 159 (.pointer (some ak)))
  form : w.cell? ⟨3, 0, none⟩ = some (.iface 159 (.pointer (some af)))
  type : w.cell? ⟨4, 0, none⟩ = some (.iface 135 (.agg #[.pointer (some ⟨8, 47, none⟩)]))
  ne : af ≠ ak
  bk : ∃ cs t, w.heap[ak.block]? = some (.cells cs t (0, 0))
  bf : ∃ cs t, w.heap[af.block]? = some (.cells cs t (0, 0))
theorem Ex.below {w w' : World} {ak af : Addr} (h : Ex w ak af) (hb : Below w.heap.size w w') : Ex w' ak af := by
  obtain ⟨ck, tk, hk⟩ := h.bk
  obtain ⟨cf, tf, hf⟩ := h.bf
  exact ⟨(hb.cell (World.block_lt_of_cell? w _ h.kind)).trans h.kind, (hb.cell (World.block_lt_of_cell? w _ h.form)).trans h.form, (hb.cell (World.block_lt_of_cell? w _ h.type)).trans h.type, h.ne, ⟨ck, tk, blk_below hk hb⟩, ⟨cf, tf, blk_below hf hb⟩⟩

set_option maxHeartbeats 1000000 in
set_option maxRecDepth 100000 in
theorem form_calls (w : World) (af : Addr) (hx : w.cell? ⟨3, 0, none⟩ = some (.iface 159 (.pointer (some af)))) :
    Calls Tryd.prog 46 #[] w fun e w' => e = .returned (.iface 94 (.pointer (some ⟨w.heap.size, 0, none⟩))) ∧ w' = w.alloc (.cells #[.int .i64 2, .iface 159 (.pointer (some af))] 96) := by
  go_enter Tryd.func46, Tryd.ntmps46
  go_wp2
  go_ret
  exact ⟨rfl, rfl⟩

/-- errors.As at a *bad, by what it leaves. -/
theorem as_calls (e t : Addr) (w : World) (hg : w.cell? ⟨4, 0, none⟩ = some (.iface 135 (.agg #[.pointer (some ⟨8, 47, none⟩)]))) (ht : w.heap[t.block]? = some (.cells #[.pointer none] 94 (0, 0))) (ht0 : t.off = 0) (htp : t.spot = none) :
    Calls Tryd.prog 49 #[.iface 94 (.pointer (some e)), .iface 101 (.pointer (some t))] w fun ev w' => ev = .returned (.bool true) ∧ w'.heap[t.block]? = some (.cells #[.pointer (some e)] 94 (0, 0)) ∧ ∀ B, B ≤ t.block → Below B w w' := by
  obtain ⟨b, o, pt⟩ := t
  simp only at ht0 htp ht
  subst ht0 htp
  refine (Err.as_hit e ⟨b, 0, none⟩ (.pointer none) w hg ((blk_cell ht 0).trans rfl) (blk_frozen ht 0)).mono ?_
  rintro ev w' ⟨hev, rfl⟩
  refine ⟨hev, ?_, fun B hB => ?_⟩
  · exact blk_put (blk_alloc (blk_alloc (blk_alloc (blk_alloc ht _) _) _) _) 0 _ rfl
  · have hs := blk_lt ht
    replace hB : B ≤ b := hB
    replace hs : b < w.heap.size := hs
    exact ((((((Below.refl B w).alloc (by omega) _).alloc (by simp; omega) _).alloc (by simp; omega) _).alloc (by simp; omega) _)).setCell hB _

/-- How an error comes back: nil (0), the kind's (8), or the form's, with its number. -/
inductive ErrIs (w : World) (ak af : Addr) : Int → Value → Prop
  | nil : ErrIs w ak af 0 .nilIface
  | kind {e : Value} (pb : Nat) (no : Int) : e = .iface 94 (.pointer (some ⟨pb, 0, none⟩)) → w.heap[pb]? = some (.cells #[.int .i64 no, .iface 159 (.pointer (some ak))] 96 (0, 0)) → ErrIs w ak af 8 e
  | form {e : Value} (pb : Nat) (no : Int) : e = .iface 94 (.pointer (some ⟨pb, 0, none⟩)) → w.heap[pb]? = some (.cells #[.int .i64 no, .iface 159 (.pointer (some af))] 96 (0, 0)) → ErrIs w ak af no e
theorem ErrIs.below {w w' : World} {ak af : Addr} {n : Int} {e : Value} (h : ErrIs w ak af n e) (hb : Below w.heap.size w w') : ErrIs w' ak af n e := by
  cases h with
  | nil => exact .nil
  | kind pb no he hk => exact .kind pb no he (blk_below hk hb)
  | form pb no he hk => exact .form pb _ he (blk_below hk hb)

theorem isIfaceE : Tryd.prog.isIface 47 = true := by kernel_rfl
set_option maxHeartbeats 1000000 in
set_option maxRecDepth 100000 in
theorem number_calls (w : World) (ak af : Addr) (hx : Ex w ak af) (n : Int) (e : Value) (he : ErrIs w ak af n e) :
    Calls Tryd.prog 31 #[e] w fun ev w' => ev = .returned (.int .i64 n) ∧ Below w.heap.size w w' := by
  cases he with
  | nil =>
    have hif := isIfaceE
    go_enter Tryd.func31, Tryd.ntmps31
    go_wp2
    go_ret
    exact ⟨rfl, (Below.refl _ _).alloc (Nat.le_refl _) _⟩
  | kind pb no he hk =>
    subst he
    have hif := isIfaceE
    have hX := Aside0.mk hx
    have hK := Aside0.mk hk
    have hc1 := (((Below.refl w.heap.size w).alloc (Nat.le_refl _) (.cells #[.pointer none] 94)).cell (World.block_lt_of_cell? w _ hx.kind)).trans hx.kind
    clear hx hk
    go_enter Tryd.func31, Tryd.ntmps31
    go_wp2_with (go_at_call 48; refine (Err.is_wrap_same pb 0 ak _ ((blk_cell (blk_alloc hK.out _) 1).trans rfl)).mono ?_; rintro e w2 ⟨rfl, hw⟩; obtain rfl := hw.symm)
    go_ret
    exact ⟨rfl, (Below.refl _ _).alloc (Nat.le_refl _) _⟩
  | form pb no he hk =>
    subst he
    have hif := isIfaceE
    have hX := Aside0.mk hx
    have hK := Aside0.mk hk
    have hc1 := (((Below.refl w.heap.size w).alloc (Nat.le_refl _) (.cells #[.pointer none] 94)).cell (World.block_lt_of_cell? w _ hx.kind)).trans hx.kind
    clear hx hk
    go_enter Tryd.func31, Tryd.ntmps31
    go_wp2_with (first
      | (go_at_call 48; obtain ⟨ck, tk, hbk⟩ := hX.out.bk; obtain ⟨cf, tf, hbf⟩ := hX.out.bf; refine (Err.is_wrap_other pb 0 ak af _ _ _ _ _ ((blk_cell (blk_alloc hK.out _) 1).trans rfl) hX.out.ne (blk_alloc hbf _) (blk_alloc hbk _)).mono ?_; rintro e w2 ⟨rfl, hw⟩; obtain rfl := hw.symm)
      | (go_at_call 49
         refine (as_calls ⟨pb, 0, none⟩ ⟨w.heap.size, 0, none⟩ _ ((((Below.refl w.heap.size w).alloc (Nat.le_refl _) _).cell (World.block_lt_of_cell? w _ hX.out.type)).trans hX.out.type) (blk_new w _) rfl rfl).mono ?_
         rintro e w3 ⟨rfl, ht, hb⟩
         have HB := Aside0.mk (((Below.refl w.heap.size w).alloc (Nat.le_refl _) _).trans (hb _ (Nat.le_refl _)))
         clear hb
         have hl1 := (blk_cell ht 0).trans rfl
         have hl2 := (blk_cell (blk_below hK.out HB.out) 0).trans rfl))
    go_ret
    exact ⟨rfl, HB.out⟩
theorem form_callsO (ak af : Addr) (w : World) (hx : Ex w ak af) :
    Calls Tryd.prog 46 #[] w fun e w' => ∃ x, e = .returned x ∧ ErrIs w' ak af 2 x ∧ Below w.heap.size w w' := by
  refine (form_calls w af hx.form).mono ?_
  rintro e w' ⟨rfl, rfl⟩
  exact ⟨_, rfl, .form _ 2 rfl (blk_new _ _), (Below.refl _ _).alloc (Nat.le_refl _) _⟩
theorem ErrIs.put {w : World} {ak af : Addr} {n : Int} {e : Value} (h : ErrIs w ak af n e) {H : Nat} {cs : Array Value} (hz : w.heap[H]? = some (.cells cs 31 (0, 0))) (j : Nat) (v : Value) : ErrIs (w.setCell ⟨H, j, none⟩ v) ak af n e := by
  have hne : ∀ pb c, w.heap[pb]? = some (.cells c 96 (0, 0)) → pb ≠ H := by
    rintro pb c hp rfl
    rw [hz] at hp
    cases hp
  cases h with
  | nil => exact .nil
  | kind pb no he hk => exact .kind pb no he (blk_far hk (hne _ _ hk) v)
  | form pb no he hk => exact .form pb _ he (blk_far hk (hne _ _ hk) v)
end Go.Proofs.YtdcbkeihgbekdaaDoor.Ext

namespace Go.Proofs.YtdcbkeihgbekdaaDoor.Turn
open Go Go.RowKit Go.Proofs.YtdcbkeihgbekdaaDoorW.PrintWords
set_option linter.unusedVariables false
/-- What turn's listed variables hold. -/
structure TEx (w : World) (ad af : Addr) : Prop where
  deny : w.cell? ⟨1, 0, none⟩ = some (.iface 159 (.pointer (some ad)))
  form : w.cell? ⟨0, 0, none⟩ = some (.iface 159 (.pointer (some af)))
  type : w.cell? ⟨4, 0, none⟩ = some (.iface 135 (.agg #[.pointer (some ⟨Tryd.prog.globals.size, 47, none⟩)]))
  ne : af ≠ ad
  bd : ∃ cs t, w.heap[ad.block]? = some (.cells cs t (0, 0))
  bf : ∃ cs t, w.heap[af.block]? = some (.cells cs t (0, 0))
theorem TEx.below {w w' : World} {ad af : Addr} (h : TEx w ad af) (hb : Below w.heap.size w w') : TEx w' ad af := by
  obtain ⟨ck, tk, hk⟩ := h.bd
  obtain ⟨cf, tf, hf⟩ := h.bf
  exact ⟨(hb.cell (World.block_lt_of_cell? w _ h.deny)).trans h.deny, (hb.cell (World.block_lt_of_cell? w _ h.form)).trans h.form, (hb.cell (World.block_lt_of_cell? w _ h.type)).trans h.type, h.ne, ⟨ck, tk, blk_below hk hb⟩, ⟨cf, tf, blk_below hf hb⟩⟩
structure WMet (w : World) : Prop where
  mx : Quad.Mx w
  ex : ∃ ak af, Ext.Ex w ak af
  tx : ∃ ad af, TEx w ad af
theorem WMet.below {w w' : World} (h : WMet w) (hb : Below w.heap.size w w') : WMet w' :=
  ⟨h.mx.below hb, let ⟨ak, af, hx⟩ := h.ex; ⟨ak, af, hx.below hb⟩, let ⟨ad, af, hx⟩ := h.tx; ⟨ad, af, hx.below hb⟩⟩
end Go.Proofs.YtdcbkeihgbekdaaDoor.Turn

namespace Go.Proofs.YtdcbkeihgbekdaaDoor.Door
open Go Go.ChangeShapes Go.WideShapes Go.ChangeAt Go.RowKit
set_option linter.unusedVariables false

def laidX : List (String × DataW Unit) := [("unicode/utf8.acceptRanges", Rows.laid_unicode_utf8_acceptRanges), ("errors.errorType", Rows.laid_errors_errorType), ("wharfinger/ext.errForm", Rows.laid_wharfinger_ext_errForm), ("wharfinger/ext.errKind", Rows.laid_wharfinger_ext_errKind), ("wharfinger/turn.errDeny", Rows.laid_wharfinger_turn_errDeny), ("wharfinger/turn.errForm", Rows.laid_wharfinger_turn_errForm), ("unicode/utf8.first", Rows.laid_unicode_utf8_first)]
def plainX : List (String × DataW Unit) := [("unicode/utf8.acceptRanges", Rows.laid_unicode_utf8_acceptRanges), ("wharfinger/ext.errForm", Rows.laid_wharfinger_ext_errForm), ("wharfinger/ext.errKind", Rows.laid_wharfinger_ext_errKind), ("wharfinger/turn.errDeny", Rows.laid_wharfinger_turn_errDeny), ("wharfinger/turn.errForm", Rows.laid_wharfinger_turn_errForm), ("unicode/utf8.first", Rows.laid_unicode_utf8_first)]
def handX : List (String × DataW Unit) := [("errors.errorType", Rows.laid_errors_errorType)]
set_option maxRecDepth 100000 in
theorem plainX_eq : (laidX.filter fun x => x.2.handleName?.isNone) = plainX := by kernel_rfl
set_option maxRecDepth 100000 in
theorem handX_eq : (laidX.filter fun x => x.2.handleName?.isSome) = handX := by kernel_rfl
/-- A start at which the handle lies. -/
noncomputable def startX (os : Os) : World :=
  let w0 := World.holding Tryd.prog os ⟨#[], #[], []⟩
  { w0 with heap := w0.heap.modify 4 fun
      | .cells _ t frozen => .cells #[.iface 135 (.agg #[.pointer (some ⟨Tryd.prog.globals.size, 47, none⟩)])] t frozen
      | o => o }
noncomputable def worldX (os : Os) : World := (startX os).layVars Tryd.prog plainX
theorem worldX_os (os : Os) : (worldX os).os = os := World.layVars_os _ _ _
set_option maxRecDepth 100000 in
theorem laid_metP (os : Os) : laidMet Tryd.prog plainX (worldX os) := by
  have e1 : (plainX.filter fun x => (plainX.map (·.1)).contains x.1) = plainX := List.filter_eq_self.2 fun x hx => List.contains_iff_mem.2 (List.mem_map.2 ⟨x, hx, rfl⟩)
  have e2 : (plainX.filter fun x => !(plainX.map (·.1)).contains x.1) = [] := List.filter_eq_nil_iff.2 fun x hx => by rw [List.contains_iff_mem.2 (List.mem_map.2 ⟨x, hx, rfl⟩)]; simp
  exact laidMet_layVars (w0 := startX os) (plainX.map (·.1)) [] (by rw [e1]; rfl) (by rw [e1]; kernel_rfl) (by rw [e1]; kernel_rfl) (by rw [e2]; exact LaidIn.none)
set_option maxRecDepth 100000 in
theorem laid_metX (os : Os) (args : Array Value) : laidMetH Tryd.prog laidX ((worldX os).forCall (fun _ _ => 0) ⟨#[], args, []⟩).memory :=
  laidMetH_of_parts (by rw [plainX_eq]; exact (laid_metP os).of_heap (by simp [World.memory, World.forCall, Input.heap])) (by rw [handX_eq]; kernel_rfl)

theorem et : Tryd.prog.globalNamed "errors.errorType" = some 4 := by kernel_rfl
theorem rt : (Tryd.prog.cutTypes.find? (·.1 == "internal/reflectlite.rtype")).map (·.2) = some 135 := by kernel_rfl
set_option maxRecDepth 100000 in
theorem oneRow : ((List.range Tryd.prog.types.size).filter fun t => Tryd.prog.rowNamed t [101, 114, 114, 111, 114]) = [47] := by kernel_rfl
theorem gF : Tryd.prog.globalNamed "wharfinger/ext.errForm" = some 3 := by kernel_rfl
theorem gK : Tryd.prog.globalNamed "wharfinger/ext.errKind" = some 2 := by kernel_rfl
theorem gFT : (Tryd.prog.globals[3]?).map (·.type) = some 47 := by kernel_rfl
theorem gKT : (Tryd.prog.globals[2]?).map (·.type) = some 47 := by kernel_rfl
theorem gD : Tryd.prog.globalNamed "wharfinger/turn.errDeny" = some 1 := by kernel_rfl
theorem gO : Tryd.prog.globalNamed "wharfinger/turn.errForm" = some 0 := by kernel_rfl
theorem gDT : (Tryd.prog.globals[1]?).map (·.type) = some 47 := by kernel_rfl
theorem gOT : (Tryd.prog.globals[0]?).map (·.type) = some 47 := by kernel_rfl
theorem star : "*" ++ "errors.errorString" = "*errors.errorString" := by decide
theorem rowE (u : TypeId) (h : Tryd.prog.typeName? 3 u = some "*errors.errorString") : u = 159 :=
  typeName_ptr_named (nm := "errors.errorString") (by rw [star]; kernel_rfl) (by kernel_rfl) (by decide) u (by rw [star]; exact h)
theorem cellsE : Tryd.prog.cellsOf 178 = 1 := by kernel_rfl
theorem cellsS : Tryd.prog.cellsOf 9 = 1 := by kernel_rfl
theorem handle_of {W : World} (h : handlesMet Tryd.prog handX W) : W.cell? ⟨4, 0, none⟩ = some (.iface 135 (.agg #[.pointer (some ⟨Tryd.prog.globals.size, 47, none⟩)])) := by
  obtain ⟨name, u, ty, e1, e2, e3, e4, e5⟩ := h _ (List.mem_singleton.2 rfl)
  have en : name = [101, 114, 114, 111, 114] := (Option.some.inj e1).symm
  subst en
  obtain rfl := Option.some.inj (rt.symm.trans e2)
  have hm : ty ∈ (List.range Tryd.prog.types.size).filter fun t => Tryd.prog.rowNamed t [101, 114, 114, 111, 114] := List.mem_filter.2 ⟨List.mem_range.2 e3, e4⟩
  rw [oneRow] at hm
  obtain rfl := List.mem_singleton.1 hm
  have hh : typeHandle Tryd.prog 47 = .pointer (some ⟨Tryd.prog.globals.size, 47, none⟩) := by kernel_rfl
  rw [hh] at e5
  simpa using World.var?_cell et e5 0
theorem globals_size : Tryd.prog.globals.size = 8 := by kernel_rfl
/-- What the laws ask of the first world. -/
theorem met_of {W : World} (h : laidMetH Tryd.prog laidX W) (hsh : W.ShapedOpen Tryd.prog) : Turn.WMet W := by
  have hp : laidMet Tryd.prog plainX W ∧ handlesMet Tryd.prog handX W := by
    have h' := h
    unfold laidMetH at h'
    rw [handX_eq, plainX_eq] at h'
    exact h'
  obtain ⟨a0, a1, s0, s1, c0, c1, t0, t1, hv0, hv1, hc0, hs0, hz0, hc1, hs1, hz1, hne, hb0, hb1⟩ := laid_sentinels2 hp.1.tail gF gFT gK gKT Tryd.underlying47 rowE Tryd.underlying159 Tryd.underlying178 rfl rfl Tryd.underlying9 cellsE cellsS
  have hg0 : W.cell? ⟨3, 0, none⟩ = some (.iface 159 (.pointer (some a0))) := by simpa using World.var?_cell gF hv0 0
  have hg1 : W.cell? ⟨2, 0, none⟩ = some (.iface 159 (.pointer (some a1))) := by simpa using World.var?_cell gK hv1 0
  obtain ⟨b0, b1, _, _, _, _, _, _, kv0, kv1, _, _, _, _, _, _, kne, kb0, kb1⟩ := laid_sentinels2 hp.1.tail.tail.tail gD gDT gO gOT Tryd.underlying47 rowE Tryd.underlying159 Tryd.underlying178 rfl rfl Tryd.underlying9 cellsE cellsS
  have kg0 : W.cell? ⟨1, 0, none⟩ = some (.iface 159 (.pointer (some b0))) := by simpa using World.var?_cell gD kv0 0
  have kg1 : W.cell? ⟨0, 0, none⟩ = some (.iface 159 (.pointer (some b1))) := by simpa using World.var?_cell gO kv1 0
  have hh := handle_of hp.2
  have hh2 := hh
  rw [globals_size] at hh2
  exact ⟨maxLen_cell hsh, ⟨a1, a0, hg1, hg0, hh2, hne, ⟨_, _, hb1⟩, ⟨_, _, hb0⟩⟩, ⟨b0, b1, kg0, kg1, hh, Ne.symm kne, ⟨_, _, kb0⟩, ⟨_, _, kb1⟩⟩⟩
end Go.Proofs.YtdcbkeihgbekdaaDoor.Door

namespace Go.Proofs.YtdcbkeihgbekdaaDoor.MapLaw
open Go Go.RowKit

/-- The first place of a key, and its value. -/
def lk {κ : Type} [DecidableEq κ] (k : κ) : List (κ × Value) → Nat → Option (Nat × Value)
  | [], _ => none
  | (a, v) :: r, i => if k = a then some (i, v) else lk k r (i + 1)

/-- The value at a key. -/
def at_ {κ : Type} [DecidableEq κ] (k : κ) (l : List (κ × Value)) : Option Value := (lk k l 0).map (·.2)

/-- The list behind a store. -/
def put {κ : Type} [DecidableEq κ] (k : κ) (v : Value) : List (κ × Value) → List (κ × Value)
  | [] => [(k, v)]
  | (a, u) :: r => if k = a then (k, v) :: r else (a, u) :: put k v r

/-- What the laws ask of a key's type. -/
structure KeyOk {κ : Type} [DecidableEq κ] (P : Program) (kt : TypeId) (kenc : κ → Value) : Prop where
  check : ∀ (w : World) (em : Bool) (k : κ), (Instr.checkKey em 10000 kt (kenc k)).run P w = .ok () w
  find : ∀ (w : World) (k : κ) (es : List MapEntry) (l : List (κ × Value)), es.map (fun e => (e.key, e.val)) = l.map (fun p => (kenc p.1, p.2)) →
    (Instr.findKey kt (kenc k) es).run P w = .ok (lk k l 0) w
  stays : ∀ (w : World) (k : κ), (Instr.keyThatStays (kenc k) (kenc k)).run P w = .ok (kenc k) w

/-- Block b is a map that reads as the list l. -/
def Is {κ : Type} (kenc : κ → Value) (w : World) (b : Nat) (l : List (κ × Value)) : Prop :=
  ∃ es clock, w.heap[b]? = some (.map es clock) ∧ es.toList.map (fun e => (e.key, e.val)) = l.map (fun p => (kenc p.1, p.2))

section
variable {κ : Type} {kenc : κ → Value} {w : World} {b : Nat} {l : List (κ × Value)}
theorem Is.made (kenc : κ → Value) (w : World) : Is kenc (w.alloc (.map #[] 0)) w.heap.size [] := ⟨#[], 0, (MapKept.heap_alloc w _).1, rfl⟩
theorem Is.lt (h : Is kenc w b l) : b < w.heap.size := by obtain ⟨es, c, hb, _⟩ := h; exact (Array.getElem?_eq_some_iff.1 hb).1
theorem Is.move {w' : World} (h : Is kenc w b l) (hm : w'.heap[b]? = w.heap[b]?) : Is kenc w' b l := by obtain ⟨es, c, hb, hl⟩ := h; exact ⟨es, c, hm.trans hb, hl⟩
theorem Is.alloc (h : Is kenc w b l) (o : Obj) : Is kenc (w.alloc o) b l := h.move (Below.heap_alloc _ _ _ h.lt)
theorem Is.drew (h : Is kenc w b l) : Is kenc w.drew b l := h.move rfl
theorem Is.drewN (h : Is kenc w b l) (n : Nat) : Is kenc (w.drewN n) b l := h.move rfl
theorem Is.below (h : Is kenc w b l) {w' : World} (hb : Below w.heap.size w w') : Is kenc w' b l := h.move (hb.block _ h.lt)
theorem Is.grown (h : Is kenc w b l) {w' : World} {row : Option Nat} (hg : w.grownBy w' row) (hne : some b ≠ row) : Is kenc w' b l := h.move (hg.block b h.lt hne)
theorem Is.size {w : World} (h : Is kenc w b l) : ∃ es c, w.heap[b]? = some (.map es c) ∧ es.size = l.length := by
  obtain ⟨es, c, hb, hl⟩ := h
  refine ⟨es, c, hb, ?_⟩
  have := congrArg List.length hl
  simpa using this
end

section
variable {κ : Type} [DecidableEq κ] {kenc : κ → Value} {P : Program} {kt : TypeId} {w : World} {b : Nat} {l : List (κ × Value)}

theorem lk_shift (k : κ) : ∀ (l : List (κ × Value)) (i : Nat), lk k l i = (lk k l 0).map (fun p => (p.1 + i, p.2))
  | [], i => rfl
  | (a, v) :: r, i => by
    unfold lk
    split
    · simp
    · rw [lk_shift k r (i + 1), lk_shift k r (0 + 1)]
      cases lk k r 0 <;> simp; omega

theorem run_lookup (K : KeyOk P kt kenc) {t e : TypeId} (ht : P.underlying t = some (.map kt e)) {z : Value} (hz : (zeroValue e).run P w = .ok z w) (h : Is kenc w b l) (k : κ) (c : Bool) :
    (Instr.lookup t (.map (some b)) (kenc k) c).run P w = .ok (if c then .tuple #[(at_ k l).getD z, .bool (at_ k l).isSome] else (at_ k l).getD z) w := by
  obtain ⟨es, cl, hb, hl⟩ := h
  have h1 := K.find w k es.toList l hl
  cases hx : lk k l 0 with
  | none =>
    rw [hx] at h1
    cases c <;> simp [Instr.lookup, run_underlying ht, MapKept.run_getObj_map hb, K.check, h1, hz, Result.andThen, at_, hx]
  | some p =>
    rw [hx] at h1
    cases c <;> simp [Instr.lookup, run_underlying ht, MapKept.run_getObj_map hb, K.check, h1, Result.andThen, at_, hx]

theorem lk_spec (k : κ) : ∀ (l : List (κ × Value)) (i : Nat) (v : Value), lk k l 0 = some (i, v) → l[i]? = some (k, v) ∧ ∀ u, put k u l = l.set i (k, u)
  | [], _, _, h => by simp [lk] at h
  | (a, u) :: r, i, v, h => by
    unfold lk at h
    split at h
    · rename_i e
      subst e
      simp at h
      obtain ⟨rfl, rfl⟩ := h
      exact ⟨by simp, fun u => by simp [put]⟩
    · rename_i e
      rw [lk_shift] at h
      cases hr : lk k r 0 with
      | none => rw [hr] at h; simp at h
      | some p =>
        obtain ⟨j, x⟩ := p
        rw [hr] at h
        simp at h
        obtain ⟨rfl, rfl⟩ := h
        obtain ⟨h1, h2⟩ := lk_spec k r j x hr
        exact ⟨by simpa using h1, fun u => by simp [put, e, h2 u]⟩

theorem put_new (k : κ) (u : Value) : ∀ (l : List (κ × Value)), lk k l 0 = none → put k u l = l ++ [(k, u)]
  | [], _ => rfl
  | (a, x) :: r, h => by
    unfold lk at h
    split at h
    · cases h
    · rename_i e
      rw [lk_shift] at h
      simp at h
      simp [put, e, put_new k u r h]

theorem run_update (K : KeyOk P kt kenc) {t e : TypeId} (ht : P.underlying t = some (.map kt e)) (h : Is kenc w b l) (k : κ) (v : Value) :
    ∃ w', (Instr.mapUpdate t (.map (some b)) (kenc k) v).run P w = .ok () w' ∧ Is kenc w' b (put k v l) ∧ w.grownBy w' (some b) := by
  obtain ⟨es, cl, hb, hl⟩ := h
  have h1 := K.find w k es.toList l hl
  have hlt := (Array.getElem?_eq_some_iff.1 hb).1
  have gr : ∀ o, w.grownBy (ChangeMaps.setBlock w b o) (some b) := fun o =>
    ⟨rfl, rfl, rfl, by simp [ChangeMaps.setBlock], fun i _ hi => ChangeMaps.heap_setBlock_other hb _ (fun e => hi (by rw [e]))⟩
  cases hx : lk k l 0 with
  | none =>
    rw [hx] at h1
    refine ⟨ChangeMaps.setBlock w b (.map (es.push { key := kenc k, val := v, born := cl }) (cl + 1)), ?_, ⟨_, _, ChangeMaps.heap_setBlock_same hb _, ?_⟩, gr _⟩
    · simp [Instr.mapUpdate, run_underlying ht, MapKept.run_getObj_map hb, K.check, h1, MapKept.run_setObj_map _ hb, Result.andThen, ChangeMaps.setBlock]
    · rw [put_new k v l hx]; simp [hl]
  | some p =>
    obtain ⟨i, u⟩ := p
    rw [hx] at h1
    obtain ⟨h2, h3⟩ := lk_spec k l i u hx
    have h4 : (es.toList.map (fun e => (e.key, e.val)))[i]? = some (kenc k, u) := by rw [hl]; simp [h2]
    obtain ⟨e0, he0, hk0⟩ : ∃ e0, es[i]? = some e0 ∧ e0.key = kenc k := by
      rw [List.getElem?_map] at h4
      cases hh : es.toList[i]? with
      | none => rw [hh] at h4; cases h4
      | some e0 =>
        rw [hh] at h4
        simp at h4
        exact ⟨e0, by simpa using hh, h4.1⟩
    refine ⟨ChangeMaps.setBlock w b (.map (es.modify i fun e => { e with key := kenc k, val := v }) cl), ?_, ⟨_, _, ChangeMaps.heap_setBlock_same hb _, ?_⟩, gr _⟩
    · simp [Instr.mapUpdate, run_underlying ht, MapKept.run_getObj_map hb, K.check, h1, he0, hk0, K.stays, MapKept.run_setObj_map _ hb, Result.andThen, ChangeMaps.setBlock]
    · rw [h3 v]
      apply List.ext_getElem?
      intro j
      have hj := congrArg (fun z => z[j]?) hl
      simp only [List.getElem?_map, Array.getElem?_toList] at hj
      simp only [List.getElem?_map, Array.getElem?_toList, Array.getElem?_modify, List.getElem?_set]
      by_cases hij : i = j
      · subst hij
        simp [he0, (List.getElem?_eq_some_iff.1 h2).1]
      · simp [hij, hj]

end

/-! ### at the operation -/
section
variable {κ : Type} [DecidableEq κ] {kenc : κ → Value} {P : Program} {kt : TypeId} (w : World) {b : Nat} {l : List (κ × Value)}
variable {ops : Array Oper} {rest : List Oper} {o : Oper} {a : Act} {Q : Exit → Act → World → Prop}

theorem wp_lookup (hg : o.guard = none) (m x : Operand) (t e : TypeId) (c : Bool) (hop : o.op = Op.lookup t m x c) (K : KeyOk P kt kenc) (ht : P.underlying t = some (.map kt e)) {z : Value} (hz : (zeroValue e).run P w = .ok z w)
    (hm : a.eval m = .map (some b)) (h : Is kenc w b l) (k : κ) (hx : a.eval x = kenc k)
    (hK : wpList P ops Q rest (a.put o.dst (if c then .tuple #[(at_ k l).getD z, .bool (at_ k l).isSome] else (at_ k l).getD z)) w) : wpList P ops Q (o :: rest) a w := by
  refine wpList_plain hg fun K' hK' => ?_
  have hrun := run_lookup K ht hz h k c
  unfold Oper.wp
  simp only [execOp, hop, hm, hx]
  simp [hrun, Result.andThen]
  exact hK' _ _ (by simpa using hK)

theorem wp_update (hg : o.guard = none) (m x v : Operand) (t e : TypeId) (hop : o.op = Op.mapUpdate t m x v) (K : KeyOk P kt kenc) (ht : P.underlying t = some (.map kt e))
    (hm : a.eval m = .map (some b)) (h : Is kenc w b l) (k : κ) (hx : a.eval x = kenc k) (val : Value) (hv : a.eval v = val)
    (hK : ∀ w', Is kenc w' b (put k val l) → w.grownBy w' (some b) → wpList P ops Q rest (a.put o.dst undef) w') : wpList P ops Q (o :: rest) a w := by
  refine wpList_plain hg fun K' hK' => ?_
  obtain ⟨w', hrun, r1, r2⟩ := run_update K ht h k val
  unfold Oper.wp
  simp [execOp, hop, hm, hx, hv, hrun, Result.andThen]
  exact hK' _ _ (hK w' r1 r2)

omit [DecidableEq κ] in
end

/-! ### keys -/
theorem find_plain {κ : Type} [DecidableEq κ] {P : Program} {kt : TypeId} {kenc : κ → Value} {d : TypeDesc} (hk : P.underlying kt = some d) (hs : ∀ a b : κ, Instr.sameNow d (kenc a) (kenc b) = some (decide (a = b)))
    (w : World) (k : κ) (es : List MapEntry) (l : List (κ × Value)) (hl : es.map (fun e => (e.key, e.val)) = l.map (fun p => (kenc p.1, p.2))) : (Instr.findKey kt (kenc k) es).run P w = .ok (lk k l 0) w := by
  have h : ∀ (es : List MapEntry) (l : List (κ × Value)) (i : Nat), es.map (fun e => (e.key, e.val)) = l.map (fun p => (kenc p.1, p.2)) → Instr.findNow d (kenc k) es i = some (lk k l i) := by
    intro es
    induction es with
    | nil => intro l i h; cases l <;> simp at h; rfl
    | cons e es ih =>
      intro l i h
      cases l with
      | nil => simp at h
      | cons p r =>
        simp at h
        obtain ⟨⟨h1, h2⟩, h3⟩ := h
        unfold Instr.findNow lk
        rw [h1, hs, h2]
        by_cases e : k = p.1
        · simp [e]
        · simp [e, ih r (i + 1) (by simpa using h3)]
  simp [Instr.findKey, run_underlying hk, h es l 0 hl, Result.andThen]

theorem beq_str (a b : ByteArray) : (a == b) = decide (a = b) := by
  cases a with | mk a => cases b with | mk b =>
  show (a == b) = _
  by_cases h : a = b
  · subst h; simp
  · rw [beq_eq_false_iff_ne.2 h, decide_eq_false (by simpa using h)]

theorem string_key {P : Program} {kt : TypeId} (hk : P.underlying kt = some .string) : KeyOk P kt Value.string where
  check w em k := MapKept.run_checkKey hk (k := .string k) (show MapKept.IsKey .string (.string k) from trivial) em 9999
  find := find_plain hk (fun a b => by simp only [Instr.sameNow, beq_str])
  stays w k := MapKept.run_keyThatStays (show MapKept.IsKey .string (.string k) from trivial)

/-! ### what a list of stores leaves -/
section
variable {κ : Type} [DecidableEq κ]
theorem at_cons (k a : κ) (v : Value) (r : List (κ × Value)) : at_ k ((a, v) :: r) = if k = a then some v else at_ k r := by
  unfold at_
  rw [lk]
  split
  · rfl
  · rw [lk_shift]; cases lk k r 0 <;> rfl
theorem at_put (k x : κ) (v : Value) : ∀ l : List (κ × Value), at_ k (put x v l) = if k = x then some v else at_ k l
  | [] => by simp [put, at_cons]
  | (a, u) :: r => by
    unfold put
    split
    · rename_i e; subst e
      rw [at_cons, at_cons]
      split <;> simp [*]
    · rename_i e
      rw [at_cons, at_cons, at_put k x v r]
      by_cases h : k = a
      · subst h; simp [Ne.symm e]
      · simp [h]
end
end Go.Proofs.YtdcbkeihgbekdaaDoor.MapLaw

namespace Go.Proofs.YtdcbkeihgbekdaaDoor.TErr
open Go.RowKit Go.Extern.Stop Go.Stop Go.Extern

/-! ### CLOSED FACTS ON THE MODEL's ENTRIES FOR internal/reflectlite, at this program's types: 25: *p.E · 27: **p.E · 23: error · 45: reflectlite's rtype · 1: how many package-level variables the dump has -/
theorem as_valueOf27 (t : Addr) (w : World) : (ReflectliteValue.unpack (.iface 102 (.pointer (some t)))).run Tryd.prog w
    = .ok (.agg #[.pointer (some ⟨8, 102, none⟩), .pointer (some ⟨w.heap.size, 0, none⟩), .int .u64 150]) (w.alloc (.cells #[.pointer (some t)] 102)) := by kernel_rfl
theorem as_type27 (a : Addr) (w : World) : (ReflectliteValue.methodAny (ReflectliteValue.valueError "reflectlite.Value.Type" 0) (fun t _ _ _ => ReflectliteType.toType t) #[.agg #[.pointer (some ⟨8, 102, none⟩), .pointer (some a), .int .u64 150]]).run Tryd.prog w
    = .ok (.iface 135 (.agg #[.pointer (some ⟨8, 102, none⟩)])) w := by kernel_rfl
theorem as_methodKind (h : Value) (w : World) : (Go.method 290 135 (.agg #[h]) "Kind").run Tryd.prog w = .ok (98, h) w := by kernel_rfl
theorem as_kind27 (w : World) : ((ReflectliteType.abiMethod fun t => (fun a : Nat => Value.int IntKind.u8 (a : Int)) <$> Rtype.kind t) #[.pointer (some ⟨8, 102, none⟩)]).run Tryd.prog w = .ok (.int .u8 22) w := by kernel_rfl
theorem as_kind25 (w : World) : ((ReflectliteType.abiMethod fun t => (fun a : Nat => Value.int IntKind.u8 (a : Int)) <$> Rtype.kind t) #[.pointer (some ⟨8, 69, none⟩)]).run Tryd.prog w = .ok (.int .u8 22) w := by kernel_rfl

/-! ### THE ENTRIES THAT READ OR WRITE MEMORY: laws with a premise on the cell (after Derived/Lib/ReflectliteSlice.lean's manner: each unfolding a lemma of its own, by rfl) -/
theorem rlm (z : Sem Value) (f : TypeId → Addr → Nat → Nat → Sem Value) (v : Value) :
    ReflectliteValue.method z f #[v] = (do match ← ReflectliteValue.parts v with | none => z | some (t, a, fl) => f t a fl (fl % 32)) := rfl
theorem as_parts27 (a : Addr) (w : World) : (ReflectliteValue.parts (.agg #[.pointer (some ⟨8, 102, none⟩), .pointer (some a), .int .u64 150])).run Tryd.prog w = .ok (some (102, a, 150)) w := by kernel_rfl
/-- (Value).IsNil at the Value of a **p.E that is not nil. -/
theorem as_isNil27 (a p : Addr) (W : World) (ha : W.cell? a = some (.pointer (some p))) :
    (ReflectliteValue.method (ReflectliteValue.valueError "reflectlite.Value.IsNil" 0) ReflectliteValue.isNil #[.agg #[.pointer (some ⟨8, 102, none⟩), .pointer (some a), .int .u64 150]]).run Tryd.prog W = .ok (.bool false) W := by
  rw [rlm]
  simp only [Sem.run_bind, as_parts27, Result.andThen]
  simp [ReflectliteValue.isNil, loadVar, isAgg, underlying, Tryd.underlying102, ha, Result.andThen]

theorem as_methodElem (h : Value) (w : World) : (Go.method 290 135 (.agg #[h]) "Elem").run Tryd.prog w = .ok (112, .agg #[h]) w := by kernel_rfl
theorem as_methodImplements (h : Value) (w : World) : (Go.method 290 135 (.agg #[h]) "Implements").run Tryd.prog w = .ok (113, .agg #[h]) w := by kernel_rfl
theorem as_methodAssignableTo (h : Value) (w : World) : (Go.method 290 135 (.agg #[h]) "AssignableTo").run Tryd.prog w = .ok (110, .agg #[h]) w := by kernel_rfl
theorem as_elem27 (w : World) : (ReflectliteType.method ReflectliteType.elem #[.agg #[.pointer (some ⟨8, 102, none⟩)]]).run Tryd.prog w = .ok (.iface 135 (.agg #[.pointer (some ⟨8, 69, none⟩)])) w := by kernel_rfl
theorem as_implements25 (w : World) : (ReflectliteType.relation "Implements" ReflectliteType.implements_ #[.agg #[.pointer (some ⟨8, 69, none⟩)], .iface 135 (.agg #[.pointer (some ⟨8, 47, none⟩)])]).run Tryd.prog w = .ok (.bool true) w := by kernel_rfl
theorem as_typeOf25 (v : Value) (w : World) : (ReflectliteType.typeOf #[.iface 69 v]).run Tryd.prog w = .ok (.iface 135 (.agg #[.pointer (some ⟨8, 69, none⟩)])) w := by kernel_rfl
theorem as_assignable25 (w : World) : (ReflectliteType.relation "AssignableTo" ReflectliteType.assignableTo #[.agg #[.pointer (some ⟨8, 69, none⟩)], .iface 135 (.agg #[.pointer (some ⟨8, 69, none⟩)])]).run Tryd.prog w = .ok (.bool true) w := by kernel_rfl
theorem as_valueOf25 (e : Addr) (w : World) : (ReflectliteValue.unpack (.iface 69 (.pointer (some e)))).run Tryd.prog w
    = .ok (.agg #[.pointer (some ⟨8, 69, none⟩), .pointer (some ⟨w.heap.size, 0, none⟩), .int .u64 150]) (w.alloc (.cells #[.pointer (some e)] 69)) := by kernel_rfl

theorem as_elemOf27 (w : World) : (Rtype.elem? 102).run Tryd.prog w = .ok (some 69) w := by kernel_rfl
theorem as_mk25 (p : Addr) (w : World) : (ReflectliteValue.mk 69 p ReflectliteValue.flagAddr).run Tryd.prog w = .ok (.agg #[.pointer (some ⟨8, 69, none⟩), .pointer (some p), .int .u64 406]) w := by kernel_rfl
/-- (Value).Elem at the Value of a **p.E that is not nil: the Value of the *p.E variable that it points to, addressable. -/
theorem as_elemV27 (a p : Addr) (W : World) (ha : W.cell? a = some (.pointer (some p))) :
    (ReflectliteValue.method (ReflectliteValue.valueError "reflectlite.Value.Elem" 0) ReflectliteValue.elem #[.agg #[.pointer (some ⟨8, 102, none⟩), .pointer (some a), .int .u64 150]]).run Tryd.prog W
      = .ok (.agg #[.pointer (some ⟨8, 69, none⟩), .pointer (some p), .int .u64 406]) W := by
  rw [rlm]
  simp only [Sem.run_bind, as_parts27, Result.andThen]
  simp [ReflectliteValue.elem, loadVar, isAgg, underlying, Tryd.underlying102, ha, Result.andThen, as_elemOf27, as_mk25]
theorem rls (v x : Value) : ReflectliteValue.set #[v, x] = (do
    let (some (dst, a, fl), some (src, b, _)) := (← ReflectliteValue.parts v, ← ReflectliteValue.parts x)
      | unsupported (.noEntry "extern/(internal/reflectlite.Value).Set.zeroValue")
    if fl / ReflectliteValue.flagAddr % 2 == 0 then unsupported (.noEntry "extern/(internal/reflectlite.Value).Set.unaddressable")
    let val ← loadVar src b
    if ← Rtype.directlyAssignable dst src then storeVar dst a val
    else if ← Rtype.implements dst src then
      if (← Rtype.kind src) == 20 then
        match val with
        | .nilIface => unsupported (.noEntry "extern/reflectlite: a nil value of one interface type handed on as a value of another")
        | _ => storeVar dst a val
      else storeVar dst a (.iface src val)
    else panicString ("reflectlite.Set: value of type " ++ (← Rtype.spelt src) ++ " is not assignable to type " ++ (← Rtype.spelt dst))
    pure (.tuple #[])) := rfl
theorem as_parts25a (a : Addr) (w : World) : (ReflectliteValue.parts (.agg #[.pointer (some ⟨8, 69, none⟩), .pointer (some a), .int .u64 406])).run Tryd.prog w = .ok (some (69, a, 406)) w := by kernel_rfl
theorem as_parts25 (a : Addr) (w : World) : (ReflectliteValue.parts (.agg #[.pointer (some ⟨8, 69, none⟩), .pointer (some a), .int .u64 150])).run Tryd.prog w = .ok (some (69, a, 150)) w := by kernel_rfl
theorem as_direct25 (w : World) : (Rtype.directlyAssignable 69 69).run Tryd.prog w = .ok true w := by kernel_rfl
/-- (Value).Set: the *p.E variable at 'ta' gets what the Value's own variable 'b' holds. -/
theorem as_set25 (ta b e : Addr) (old : Value) (W : World) (hb : W.cell? b = some (.pointer (some e))) (ht : W.cell? ta = some old) (hf : W.frozen? ta = false) :
    (ReflectliteValue.set #[.agg #[.pointer (some ⟨8, 69, none⟩), .pointer (some ta), .int .u64 406], .agg #[.pointer (some ⟨8, 69, none⟩), .pointer (some b), .int .u64 150]]).run Tryd.prog W
      = .ok (.tuple #[]) (W.setCell ta (.pointer (some e))) := by
  rw [rls]
  simp only [Sem.run_bind, as_parts25a, as_parts25, Result.andThen]
  simp [ReflectliteValue.flagAddr, loadVar, isAgg, underlying, Tryd.underlying69, hb, Result.andThen, as_direct25, storeVar, Value.cells, storeCells, Addr.add]
  rw [run_store Tryd.prog W ta _ _ (by rfl)]
  simp [ht, hf]

set_option maxHeartbeats 4000000 in
set_option maxRecDepth 100000 in
theorem as_hit (e t : Addr) (old : Value) (w : World) (hg : w.cell? ⟨4, 0, none⟩ = some (.iface 135 (.agg #[.pointer (some ⟨8, 47, none⟩)]))) (ht0 : w.cell? t = some old) (hf0 : w.frozen? t = false) :
    Calls Tryd.prog 49 #[.iface 69 (.pointer (some e)), .iface 102 (.pointer (some t))] w fun ev w' => ev = .returned (.bool true) ∧ w' = ((((w.alloc (.cells #[.pointer (some t)] 102)).alloc (.cells #[.pointer (some ⟨8, 102, none⟩), .pointer (some ⟨w.heap.size, 0, none⟩), .int .u64 150] 122)).alloc (.cells #[.pointer (some ⟨8, 102, none⟩), .pointer (some ⟨w.heap.size, 0, none⟩), .int .u64 150] 122)).alloc (.cells #[.pointer (some e)] 69)).setCell t (.pointer (some e)) := by
  have h6 := @run_callFunc_extern Tryd.prog 62 _ (fun args => ReflectliteValue.unpack (args.getD 0 (.tuple #[]))) Tryd.func62 (by kernel_rfl) (by kernel_rfl) (by kernel_rfl) (by kernel_rfl)
  have h7 := @run_callFunc_extern Tryd.prog 63 _ (ReflectliteValue.methodAny (ReflectliteValue.valueError "reflectlite.Value.Type" 0) (fun t _ _ _ => ReflectliteType.toType t)) Tryd.func63 (by kernel_rfl) (by kernel_rfl) (by kernel_rfl) (by kernel_rfl)
  have h8 := @run_callFunc_extern Tryd.prog 64 _ (ReflectliteValue.method (ReflectliteValue.valueError "reflectlite.Value.IsNil" 0) ReflectliteValue.isNil) Tryd.func64 (by kernel_rfl) (by kernel_rfl) (by kernel_rfl) (by kernel_rfl)
  have h27 := @run_callFunc_extern Tryd.prog 98 _ (ReflectliteType.abiMethod fun t => do pure (.int .u8 (← Rtype.kind t))) Tryd.func98 (by kernel_rfl) (by kernel_rfl) (by kernel_rfl) (by kernel_rfl)
  have h37 := @run_callFunc_extern Tryd.prog 112 _ (ReflectliteType.method ReflectliteType.elem) Tryd.func112 (by kernel_rfl) (by kernel_rfl) (by kernel_rfl) (by kernel_rfl)
  have h38 := @run_callFunc_extern Tryd.prog 113 _ (ReflectliteType.relation "Implements" ReflectliteType.implements_) Tryd.func113 (by kernel_rfl) (by kernel_rfl) (by kernel_rfl) (by kernel_rfl)
  have h10 := @run_callFunc_extern Tryd.prog 60 _ ReflectliteType.typeOf Tryd.func60 (by kernel_rfl) (by kernel_rfl) (by kernel_rfl) (by kernel_rfl)
  have h35 := @run_callFunc_extern Tryd.prog 110 _ (ReflectliteType.relation "AssignableTo" ReflectliteType.assignableTo) Tryd.func110 (by kernel_rfl) (by kernel_rfl) (by kernel_rfl) (by kernel_rfl)
  have h11 := @run_callFunc_extern Tryd.prog 75 _ (ReflectliteValue.method (ReflectliteValue.valueError "reflectlite.Value.Elem" 0) ReflectliteValue.elem) Tryd.func75 (by kernel_rfl) (by kernel_rfl) (by kernel_rfl) (by kernel_rfl)
  have h12 := @run_callFunc_extern Tryd.prog 76 _ ReflectliteValue.set Tryd.func76 (by kernel_rfl) (by kernel_rfl) (by kernel_rfl) (by kernel_rfl)
  have tO := as_typeOf25
  have mA := as_methodAssignableTo
  have a25 := as_assignable25
  have v25 := as_valueOf25
  have f6 := as_valueOf27
  have f7 := as_type27
  have mK := as_methodKind
  have mE := as_methodElem
  have mI := as_methodImplements
  have k27 := as_kind27
  have k25 := as_kind25
  have e27 := as_elem27
  have i25 := as_implements25
  have n8 := as_isNil27 ⟨w.heap.size, 0, none⟩ t ((w.alloc (.cells #[.pointer (some t)] 102)).alloc (.cells #[.pointer (some ⟨8, 102, none⟩), .pointer (some ⟨w.heap.size, 0, none⟩), .int .u64 150] 122)) (by simp)
  have hlt : 4 < w.heap.size := by
    rcases Nat.lt_or_ge 4 w.heap.size with h | h
    · exact h
    · simp [World.cell?, Array.getElem?_eq_none h] at hg
  have hg2 : ((w.alloc (.cells #[.pointer (some t)] 102)).alloc (.cells #[.pointer (some ⟨8, 102, none⟩), .pointer (some ⟨w.heap.size, 0, none⟩), .int .u64 150] 122)).cell? ⟨4, 0, none⟩ = some (.iface 135 (.agg #[.pointer (some ⟨8, 47, none⟩)])) := by
    rw [World.cell?_alloc_lt _ _ ⟨4, 0, none⟩ (by simp; omega), World.cell?_alloc_lt _ _ ⟨4, 0, none⟩ hlt]; exact hg
  have htl : t.block < w.heap.size := by
    rcases Nat.lt_or_ge t.block w.heap.size with h | h
    · exact h
    · simp [World.cell?, Array.getElem?_eq_none h] at ht0
  have el := as_elemV27 ⟨w.heap.size, 0, none⟩ t (((w.alloc (.cells #[.pointer (some t)] 102)).alloc (.cells #[.pointer (some ⟨8, 102, none⟩), .pointer (some ⟨w.heap.size, 0, none⟩), .int .u64 150] 122)).alloc (.cells #[.pointer (some ⟨8, 102, none⟩), .pointer (some ⟨w.heap.size, 0, none⟩), .int .u64 150] 122)) (by rw [World.cell?_alloc_lt _ _ ⟨w.heap.size, 0, none⟩ (by simp; omega)]; simp)
  have st := as_set25 t ⟨w.heap.size + 1 + 1 + 1, 0, none⟩ e old ((((w.alloc (.cells #[.pointer (some t)] 102)).alloc (.cells #[.pointer (some ⟨8, 102, none⟩), .pointer (some ⟨w.heap.size, 0, none⟩), .int .u64 150] 122)).alloc (.cells #[.pointer (some ⟨8, 102, none⟩), .pointer (some ⟨w.heap.size, 0, none⟩), .int .u64 150] 122)).alloc (.cells #[.pointer (some e)] 69))
    (by rw [World.cell?_alloc_at _ _ _ _ (by simp)]; rfl)
    (by rw [World.cell?_alloc_lt _ _ t (by simp; omega), World.cell?_alloc_lt _ _ t (by simp; omega), World.cell?_alloc_lt _ _ t (by simp; omega), World.cell?_alloc_lt _ _ t htl]; exact ht0)
    (by rw [World.frozen?_alloc_old _ _ t (by simp; omega), World.frozen?_alloc_old _ _ t (by simp; omega), World.frozen?_alloc_old _ _ t (by simp; omega), World.frozen?_alloc_old _ _ t (Nat.ne_of_lt htl)]; exact hf0)
  go_enter Tryd.func49, Tryd.ntmps49
  go_wp2
  refine wp_loop_rounds 1 ?_
  rw [rounds_succ]
  go_wp2
  go_ret
  exact ⟨rfl, rfl⟩
end Go.Proofs.YtdcbkeihgbekdaaDoor.TErr

namespace Go.Proofs.YtdcbkeihgbekdaaDoor.TErr
open Go.RowKit Go.Extern.Stop Go.Stop Go.Extern

/-! ### CLOSED FACTS: what 'reflectlite.TypeOf(target).Comparable()' gives at such a target -/
theorem is_fTypeOf (v : Value) (w : World) : (Extern.ReflectliteType.typeOf #[.iface 159 v]).run Tryd.prog w = .ok (.iface 135 (.agg #[.pointer (some ⟨8, 159, none⟩)])) w := by kernel_rfl
theorem is_fComparable (w : World) : ((Extern.ReflectliteType.method fun t => do Extern.Rtype.noPackHeld "Comparable" t; (fun a => Value.bool a.comparable) <$> typeInfo t) #[.agg #[.pointer (some ⟨8, 159, none⟩)]]).run Tryd.prog w = .ok (.bool true) w := by kernel_rfl
theorem is_fMethodComparable (v : Value) (w : World) : (Go.method 290 135 v "Comparable").run Tryd.prog w = .ok (111, v) w := by kernel_rfl
theorem is_fComp : (Tryd.prog.info? 159).map (·.comparable) = some true := by kernel_rfl
theorem is_fSize : (Tryd.prog.info? 178).map (·.size) = some 1 := by kernel_rfl

/-! ### CLOSED FACTS ON THE METHOD SETS: what errors.is's assertions find -/
theorem is_noIsE (v : Value) (xT : TypeId) (w : World) : (Instr.typeAssert (.iface 159 v) xT 137 true).run Tryd.prog w = .ok (.tuple #[.nilIface, .bool false]) w := run_typeAssert_lacksB Tryd.underlying137 (by kernel_rfl) (by kernel_rfl) v xT w
theorem is_noUnwrapE (v : Value) (xT : TypeId) (w : World) : (Instr.typeAssert (.iface 159 v) xT 140 true).run Tryd.prog w = .ok (.tuple #[.nilIface, .bool false]) w := run_typeAssert_lacksB Tryd.underlying140 (by kernel_rfl) (by kernel_rfl) v xT w
theorem is_noUnwrapsE (v : Value) (xT : TypeId) (w : World) : (Instr.typeAssert (.iface 159 v) xT 141 true).run Tryd.prog w = .ok (.tuple #[.nilIface, .bool false]) w := run_typeAssert_lacksB Tryd.underlying141 (by kernel_rfl) (by kernel_rfl) v xT w
theorem is_noIsW (v : Value) (xT : TypeId) (w : World) : (Instr.typeAssert (.iface 69 v) xT 137 true).run Tryd.prog w = .ok (.tuple #[.nilIface, .bool false]) w := run_typeAssert_lacksB Tryd.underlying137 (by kernel_rfl) (by kernel_rfl) v xT w
theorem is_hasUnwrapW (v : Value) (xT : TypeId) (w : World) : (Instr.typeAssert (.iface 69 v) xT 140 true).run Tryd.prog w = .ok (.tuple #[.iface 69 v, .bool true]) w := run_typeAssert_hasB Tryd.underlying140 (by kernel_rfl) v xT w
theorem is_methodUnwrap (v : Value) (w : World) : (Go.method 290 69 v "Unwrap").run Tryd.prog w = .ok (102, v) w := by kernel_rfl

set_option maxRecDepth 100000 in
/-- errors.Is(e, x), e a *fault that wraps x itself: one Unwrap, then equal. -/
theorem is_wrap_same (pb po : Nat) (b : Addr) (w : World) (h1 : w.cell? ⟨pb, po + 1, none⟩ = some (.iface 159 (.pointer (some b)))) :
    Calls Tryd.prog 48 #[.iface 69 (.pointer (some ⟨pb, po, none⟩)), .iface 159 (.pointer (some b))] w fun e w' => e = .returned (.bool true) ∧ w' = w := by
  obtain ⟨i, hi, hcmp⟩ := Option.map_eq_some_iff.1 is_fComp
  obtain ⟨j, hj, hjs⟩ := Option.map_eq_some_iff.1 is_fSize
  have h8 := @run_callFunc_extern Tryd.prog 60 _ Extern.ReflectliteType.typeOf Tryd.func60 (by kernel_rfl) (by kernel_rfl) (by kernel_rfl) (by kernel_rfl)
  have h32 := @run_callFunc_extern Tryd.prog 111 _ (Extern.ReflectliteType.method fun t => do Extern.Rtype.noPackHeld "Comparable" t; pure (.bool (← typeInfo t).comparable)) Tryd.func111 (by kernel_rfl) (by kernel_rfl) (by kernel_rfl) (by kernel_rfl)
  have tT := is_fTypeOf
  have cT := is_fComparable
  have mR := is_fMethodComparable
  have nE := is_noIsE
  have uE := is_noUnwrapE
  have vE := is_noUnwrapsE
  have nW := is_noIsW
  have uW := is_hasUnwrapW
  have mU := is_methodUnwrap
  have heq := run_eql_iface_ptr_same (P := Tryd.prog) w b Tryd.underlying47 Tryd.underlying159 hi hcmp hj
  have hty := run_eql_iface_types (P := Tryd.prog) 69 159 (.pointer (some ⟨pb, po, none⟩)) (.pointer (some b)) Tryd.underlying47 (by decide) w
  go_enter Tryd.func48, Tryd.ntmps48
  go_wp2
  refine wp_loop_rounds 2 ?_
  rw [rounds_succ]
  go_wp2
  rw [rounds_succ]
  go_wp2
  go_ret
  exact ⟨rfl, rfl⟩

set_option maxRecDepth 100000 in
/-- errors.Is(e, x), e a *fault that wraps another error of errors.New's make. -/
theorem is_wrap_other (pb po : Nat) (b a : Addr) (ca cb : Array Value) (ta tb : TypeId) (w : World) (h1 : w.cell? ⟨pb, po + 1, none⟩ = some (.iface 159 (.pointer (some a)))) (hne : a ≠ b) (ha : w.heap[a.block]? = some (.cells ca ta (0, 0))) (hb : w.heap[b.block]? = some (.cells cb tb (0, 0))) :
    Calls Tryd.prog 48 #[.iface 69 (.pointer (some ⟨pb, po, none⟩)), .iface 159 (.pointer (some b))] w fun e w' => e = .returned (.bool false) ∧ w' = w := by
  obtain ⟨i, hi, hcmp⟩ := Option.map_eq_some_iff.1 is_fComp
  obtain ⟨j, hj, hjs⟩ := Option.map_eq_some_iff.1 is_fSize
  have h8 := @run_callFunc_extern Tryd.prog 60 _ Extern.ReflectliteType.typeOf Tryd.func60 (by kernel_rfl) (by kernel_rfl) (by kernel_rfl) (by kernel_rfl)
  have h32 := @run_callFunc_extern Tryd.prog 111 _ (Extern.ReflectliteType.method fun t => do Extern.Rtype.noPackHeld "Comparable" t; pure (.bool (← typeInfo t).comparable)) Tryd.func111 (by kernel_rfl) (by kernel_rfl) (by kernel_rfl) (by kernel_rfl)
  have tT := is_fTypeOf
  have cT := is_fComparable
  have mR := is_fMethodComparable
  have nE := is_noIsE
  have uE := is_noUnwrapE
  have vE := is_noUnwrapsE
  have nW := is_noIsW
  have uW := is_hasUnwrapW
  have mU := is_methodUnwrap
  have heq := run_eql_iface_ptr_other (P := Tryd.prog) w Tryd.underlying47 Tryd.underlying159 hi hcmp hj (by rw [hjs]; decide) hne ha hb
  have hty := run_eql_iface_types (P := Tryd.prog) 69 159 (.pointer (some ⟨pb, po, none⟩)) (.pointer (some b)) Tryd.underlying47 (by decide) w
  go_enter Tryd.func48, Tryd.ntmps48
  go_wp2
  refine wp_loop_rounds 2 ?_
  rw [rounds_succ]
  go_wp2
  rw [rounds_succ]
  go_wp2
  go_ret
  exact ⟨rfl, rfl⟩

end Go.Proofs.YtdcbkeihgbekdaaDoor.TErr

namespace Go.Proofs.YtdcbkeihgbekdaaDoor.Turn
open Go Go.RowKit Go.Proofs.YtdcbkeihgbekdaaDoorW.PrintWords Go.Proofs.YtdcbkeihgbekdaaDoorW.PrintLast Go.Proofs.YtdcbkeihgbekdaaDoorW.PrintMore Go.Proofs.YtdcbkeihgbekdaaDoor.Quad
set_option linter.unusedVariables false
set_option linter.unusedSimpArgs false

/-- How an error comes back: nil (0), the denial (6), or the form's, with its number. -/
inductive ErrT (w : World) (ad af : Addr) : Int → Value → Prop
  | nil : ErrT w ad af 0 .nilIface
  | deny {e : Value} (pb : Nat) (no : Int) : e = .iface 69 (.pointer (some ⟨pb, 0, none⟩)) → w.heap[pb]? = some (.cells #[.int .i64 no, .iface 159 (.pointer (some ad))] 71 (0, 0)) → ErrT w ad af 6 e
  | form {e : Value} (pb : Nat) (no : Int) : no ≠ 0 → e = .iface 69 (.pointer (some ⟨pb, 0, none⟩)) → w.heap[pb]? = some (.cells #[.int .i64 no, .iface 159 (.pointer (some af))] 71 (0, 0)) → ErrT w ad af no e
theorem ErrT.below {w w' : World} {ad af : Addr} {n : Int} {e : Value} (h : ErrT w ad af n e) (hb : Below w.heap.size w w') : ErrT w' ad af n e := by
  cases h with
  | nil => exact .nil
  | deny pb no he hk => exact .deny pb no he (blk_below hk hb)
  | form pb no h0 he hk => exact .form pb _ h0 he (blk_below hk hb)
theorem ErrT.put {w : World} {ad af : Addr} {n : Int} {e : Value} (h : ErrT w ad af n e) {H : Nat} {cs : Array Value} (hz : w.heap[H]? = some (.cells cs 31 (0, 0))) (j : Nat) (v : Value) : ErrT (w.setCell ⟨H, j, none⟩ v) ad af n e := by
  have hne : ∀ pb c, w.heap[pb]? = some (.cells c 71 (0, 0)) → pb ≠ H := by
    rintro pb c hp rfl
    rw [hz] at hp
    cases hp
  cases h with
  | nil => exact .nil
  | deny pb no he hk => exact .deny pb no he (blk_far hk (hne _ _ hk) v)
  | form pb no h0 he hk => exact .form pb _ h0 he (blk_far hk (hne _ _ hk) v)
theorem gsize : Tryd.prog.globals.size = 8 := by kernel_rfl

set_option maxHeartbeats 1000000 in
set_option maxRecDepth 100000 in
theorem fail_calls (no : Int) (h0 : no ≠ 0) (ad af : Addr) (w : World) (hx : TEx w ad af) :
    Calls Tryd.prog 14 #[.int .i64 no] w fun e w' => ∃ x, e = .returned x ∧ ErrT w' ad af no x ∧ Below w.heap.size w w' := by
  have hg := hx.form
  have H0 := Aside0.mk h0
  clear hx h0
  go_enter Tryd.func14, Tryd.ntmps14
  go_wp2
  go_ret
  exact ⟨_, rfl, .form _ no H0.out rfl (blk_new _ _), (Below.refl _ _).alloc (Nat.le_refl _) _⟩
set_option maxHeartbeats 1000000 in
set_option maxRecDepth 100000 in
theorem unless_calls (is : Bool) (no : Int) (h0 : is = false → no ≠ 0) (ad af : Addr) (w : World) (hx : TEx w ad af) :
    Calls Tryd.prog 16 #[.bool is, .int .i64 no] w fun e w' => ∃ x, e = .returned x ∧ ErrT w' ad af (if is then 0 else no) x ∧ Below w.heap.size w w' := by
  have HX := Aside0.mk hx
  have H0 := Aside0.mk h0
  clear hx h0
  cases is
  · go_enter Tryd.func16, Tryd.ntmps16
    go_wp2_with (go_at_call 14; refine (fail_calls no (H0.out rfl) ad af _ HX.out).mono ?_; rintro e w1 ⟨x, rfl, hx1, hb1⟩; have HX1 := Aside0.mk hx1; have HB1 := Aside0.mk hb1; clear hx1 hb1)
    go_ret
    exact ⟨_, rfl, HX1.out, HB1.out⟩
  · go_enter Tryd.func16, Tryd.ntmps16
    go_wp2
    go_ret
    exact ⟨_, rfl, .nil, Below.refl _ _⟩

/-- errors.As at a *fault, by what it leaves. -/
theorem as_calls (e t : Addr) (w : World) (hg : w.cell? ⟨4, 0, none⟩ = some (.iface 135 (.agg #[.pointer (some ⟨Tryd.prog.globals.size, 47, none⟩)]))) (ht : w.heap[t.block]? = some (.cells #[.pointer none] 69 (0, 0))) (ht0 : t.off = 0) (htp : t.spot = none) :
    Calls Tryd.prog 49 #[.iface 69 (.pointer (some e)), .iface 102 (.pointer (some t))] w fun ev w' => ev = .returned (.bool true) ∧ w'.heap[t.block]? = some (.cells #[.pointer (some e)] 69 (0, 0)) ∧ ∀ B, B ≤ t.block → Below B w w' := by
  obtain ⟨b, o, pt⟩ := t
  simp only at ht0 htp ht
  subst ht0 htp
  rw [gsize] at hg
  refine (TErr.as_hit e ⟨b, 0, none⟩ (.pointer none) w hg ((blk_cell ht 0).trans rfl) (blk_frozen ht 0)).mono ?_
  rintro ev w' ⟨hev, rfl⟩
  refine ⟨hev, ?_, fun B hB => ?_⟩
  · exact blk_put (blk_alloc (blk_alloc (blk_alloc (blk_alloc ht _) _) _) _) 0 _ rfl
  · have hs := blk_lt ht
    replace hB : B ≤ b := hB
    replace hs : b < w.heap.size := hs
    exact ((((((Below.refl B w).alloc (by omega) _).alloc (by simp; omega) _).alloc (by simp; omega) _).alloc (by simp; omega) _)).setCell hB _
set_option maxHeartbeats 1000000 in
set_option maxRecDepth 100000 in
theorem number_calls (w : World) (ad af : Addr) (hx : TEx w ad af) (n : Int) (e : Value) (he : ErrT w ad af n e) (hn : n ≠ 0) :
    Calls Tryd.prog 32 #[e] w fun ev w' => ev = .returned (.int .i64 n) ∧ Below w.heap.size w w' := by
  cases he with
  | nil => exact absurd rfl hn
  | deny pb no he hk =>
    clear hn
    subst he
    have hif := Ext.isIfaceE
    have hX := Aside0.mk hx
    have hK := Aside0.mk hk
    have hc1 := (((Below.refl w.heap.size w).alloc (Nat.le_refl _) (.cells #[.pointer none] 69)).cell (World.block_lt_of_cell? w _ hx.deny)).trans hx.deny
    clear hx hk
    go_enter Tryd.func32, Tryd.ntmps32
    go_wp2_with (go_at_call 48; refine (TErr.is_wrap_same pb 0 ad _ ((blk_cell (blk_alloc hK.out _) 1).trans rfl)).mono ?_; rintro e w2 ⟨rfl, hw⟩; obtain rfl := hw.symm)
    go_ret
    exact ⟨rfl, (Below.refl _ _).alloc (Nat.le_refl _) _⟩
  | form pb no h0 he hk =>
    clear h0 hn
    subst he
    have hif := Ext.isIfaceE
    have hX := Aside0.mk hx
    have hK := Aside0.mk hk
    have hc1 := (((Below.refl w.heap.size w).alloc (Nat.le_refl _) (.cells #[.pointer none] 69)).cell (World.block_lt_of_cell? w _ hx.deny)).trans hx.deny
    clear hx hk
    go_enter Tryd.func32, Tryd.ntmps32
    go_wp2_with (first
      | (go_at_call 48; obtain ⟨ck, tk, hbk⟩ := hX.out.bd; obtain ⟨cf, tf, hbf⟩ := hX.out.bf; refine (TErr.is_wrap_other pb 0 ad af _ _ _ _ _ ((blk_cell (blk_alloc hK.out _) 1).trans rfl) hX.out.ne (blk_alloc hbf _) (blk_alloc hbk _)).mono ?_; rintro e w2 ⟨rfl, hw⟩; obtain rfl := hw.symm)
      | (go_at_call 49
         refine (as_calls ⟨pb, 0, none⟩ ⟨w.heap.size, 0, none⟩ _ ((((Below.refl w.heap.size w).alloc (Nat.le_refl _) _).cell (World.block_lt_of_cell? w _ hX.out.type)).trans hX.out.type) (blk_new w _) rfl rfl).mono ?_
         rintro e w3 ⟨rfl, ht, hb⟩
         have HB := Aside0.mk (((Below.refl w.heap.size w).alloc (Nat.le_refl _) _).trans (hb _ (Nat.le_refl _)))
         clear hb
         have hl1 := (blk_cell ht 0).trans rfl
         have hl2 := (blk_cell (blk_below hK.out HB.out) 0).trans rfl))
    go_ret
    exact ⟨rfl, HB.out⟩

/-- An end of who tells, of a port from 1024 on; else none, and why. -/
def toldE (n a b c d p h0 h1 h2 h3 : Int) : Int × Int × Int × Int × Int × Int :=
  if n = 0 then (if (a == h0 && (b == h1 && (c == h2 && d == h3))) = true ∧ 1024 ≤ p then (a, b, c, d, p, 0) else (0, 0, 0, 0, 0, 6)) else (0, 0, 0, 0, 0, n)
def endR (t : Int × Int × Int × Int × Int × Int) : Value := .tuple #[.agg #[.int .u8 t.1, .int .u8 t.2.1, .int .u8 t.2.2.1, .int .u8 t.2.2.2.1, .int .i64 t.2.2.2.2.1], .int .i64 t.2.2.2.2.2]
theorem res_end (f : Func) (i j : Tmp) (hf : f.results = #[.cell i 31, .tmp j]) (tmps : Array Value) (W : World) (H : Nat) (a b c d p : Int) (e : Value) (h2 : tmps.getD i undef = .pointer (some ⟨H, 0, none⟩)) (h3 : tmps.getD j undef = e) (hh : W.heap[H]? = some (.cells #[.int .u8 a, .int .u8 b, .int .u8 c, .int .u8 d, .int .i64 p] 31 (0, 0))) :
   (results f tmps).run Tryd.prog W = .ok (.tuple #[.agg #[.int .u8 a, .int .u8 b, .int .u8 c, .int .u8 d, .int .i64 p], e]) W := by
  have c0 : W.cell? ⟨H, 0, none⟩ = some (.int .u8 a) := (blk_cell hh 0).trans rfl
  have c1 : W.cell? ⟨H, 1, none⟩ = some (.int .u8 b) := (blk_cell hh 1).trans rfl
  have c2 : W.cell? ⟨H, 2, none⟩ = some (.int .u8 c) := (blk_cell hh 2).trans rfl
  have c3 : W.cell? ⟨H, 3, none⟩ = some (.int .u8 d) := (blk_cell hh 3).trans rfl
  have c4 : W.cell? ⟨H, 4, none⟩ = some (.int .i64 p) := (blk_cell hh 4).trans rfl
  rw [Array.getD_eq_getD_getElem?] at h2 h3
  simp [results, hf, h2, h3, go_sem, c0, c1, c2, c3, c4]
theorem put5 {W : World} {H : Nat} {x0 x1 x2 x3 x4 : Value} (h : W.heap[H]? = some (.cells #[x0, x1, x2, x3, x4] 31 (0, 0))) (a b c d p : Int) : ((((((W.setCell ⟨H, 0, none⟩ (.int .u8 a)).setCell ⟨H, 1, none⟩ (.int .u8 b)).setCell ⟨H, 2, none⟩ (.int .u8 c)).setCell ⟨H, 3, none⟩ (.int .u8 d)).setCell ⟨H, 4, none⟩ (.int .i64 p))).heap[H]? = some (.cells #[.int .u8 a, .int .u8 b, .int .u8 c, .int .u8 d, .int .i64 p] 31 (0, 0)) := blk_put (blk_put (blk_put (blk_put (blk_put h 0 _ rfl) 1 _ rfl) 2 _ rfl) 3 _ rfl) 4 _ rfl
theorem put5B {B : Nat} {w W : World} {H : Nat} (h : Below B w W) (hB : B ≤ H) (a b c d p : Int) : Below B w ((((((W.setCell ⟨H, 0, none⟩ (.int .u8 a)).setCell ⟨H, 1, none⟩ (.int .u8 b)).setCell ⟨H, 2, none⟩ (.int .u8 c)).setCell ⟨H, 3, none⟩ (.int .u8 d)).setCell ⟨H, 4, none⟩ (.int .i64 p))) := ((((h.setCell hB _).setCell hB _).setCell hB _).setCell hB _).setCell hB _
theorem endCells_facts {W : World} {H : Nat} {x0 x1 x2 x3 x4 : Value} (h : W.heap[H]? = some (.cells #[x0, x1, x2, x3, x4] 31 (0, 0))) : W.cell? ⟨H, 0, none⟩ = some x0 ∧ W.cell? ⟨H, 1, none⟩ = some x1 ∧ W.cell? ⟨H, 2, none⟩ = some x2 ∧ W.cell? ⟨H, 3, none⟩ = some x3 ∧ W.cell? ⟨H, 4, none⟩ = some x4 ∧ W.frozen? ⟨H, 0, none⟩ = false ∧ W.frozen? ⟨H, 1, none⟩ = false ∧ W.frozen? ⟨H, 2, none⟩ = false ∧ W.frozen? ⟨H, 3, none⟩ = false ∧ W.frozen? ⟨H, 4, none⟩ = false := ⟨(blk_cell h 0).trans rfl, (blk_cell h 1).trans rfl, (blk_cell h 2).trans rfl, (blk_cell h 3).trans rfl, (blk_cell h 4).trans rfl, blk_frozen h 0, blk_frozen h 1, blk_frozen h 2, blk_frozen h 3, blk_frozen h 4⟩

theorem new3 (w : World) (o1 o2 o3 : Obj) : (((w.alloc o1).alloc o2).alloc o3).heap[w.heap.size + 1 + 1]? = some o3 := by
  have := blk_new ((w.alloc o1).alloc o2) o3
  simpa using this
theorem new4 (w : World) (o1 o2 o3 o4 : Obj) : ((((w.alloc o1).alloc o2).alloc o3).alloc o4).heap[w.heap.size + 1 + 1 + 1]? = some o4 := by
  have := blk_new (((w.alloc o1).alloc o2).alloc o3) o4
  simpa using this
theorem below3 (w : World) (o1 o2 o3 : Obj) : Below w.heap.size w (((w.alloc o1).alloc o2).alloc o3) := (((Below.refl w.heap.size w).alloc (Nat.le_refl _) o1).alloc (by simp) o2).alloc (by simp; omega) o3
theorem below4 (w : World) (o1 o2 o3 o4 : Obj) : Below w.heap.size w ((((w.alloc o1).alloc o2).alloc o3).alloc o4) := (below3 w o1 o2 o3).alloc (by simp; omega) o4
def zeroE : Obj := .cells #[.int .u8 0, .int .u8 0, .int .u8 0, .int .u8 0, .int .i64 0] 31
/-- What a call leaves behind three blocks and one: the third is still zero. -/
theorem after4 {w W : World} (o1 o2 o4 : Obj) (hb : Below ((((w.alloc o1).alloc o2).alloc zeroE).alloc o4).heap.size ((((w.alloc o1).alloc o2).alloc zeroE).alloc o4) W) : Below w.heap.size w W ∧ W.heap[w.heap.size + 1 + 1]? = some zeroE :=
  ⟨(below4 w o1 o2 zeroE o4).trans (hb.mono (below4 w o1 o2 zeroE o4).size), blk_below (blk_alloc (new3 w o1 o2 zeroE) o4) hb⟩
theorem after3 {w W : World} (o1 o2 : Obj) (hb : Below (((w.alloc o1).alloc o2).alloc zeroE).heap.size (((w.alloc o1).alloc o2).alloc zeroE) W) : Below w.heap.size w W ∧ W.heap[w.heap.size + 1 + 1]? = some zeroE :=
  ⟨(below3 w o1 o2 zeroE).trans (hb.mono (below3 w o1 o2 zeroE).size), blk_below (new3 w o1 o2 zeroE) hb⟩

set_option maxHeartbeats 1000000 in
set_option maxRecDepth 100000 in
theorem told_ok (a b c d p h0 h1 h2 h3 : Int) (w : World) (hq : ∀ W, (Op.equalIn 10000 28 (.agg #[.int .u8 a, .int .u8 b, .int .u8 c, .int .u8 d]) (.agg #[.int .u8 h0, .int .u8 h1, .int .u8 h2, .int .u8 h3])).run Tryd.prog W = .ok true W) (hp : decide (p < 1024) = false) :
    Calls Tryd.prog 18 #[.agg #[.int .u8 a, .int .u8 b, .int .u8 c, .int .u8 d, .int .i64 p], .nilIface, .agg #[.int .u8 h0, .int .u8 h1, .int .u8 h2, .int .u8 h3]] w fun e w' => e = .returned (endR (a, b, c, d, p, 0)) ∧ Below w.heap.size w w' := by
  have hif := Ext.isIfaceE
  go_enter Tryd.func18, Tryd.ntmps18
  go_wp2
  try simp only [Exit.inBlock, Exit.then]
  exact bodyPost_ret (res_end _ 6 7 rfl _ _ (w.heap.size + 1 + 1) a b c d p (.int .i64 0) rfl rfl (new3 w _ _ _)) rfl ⟨rfl, below3 w _ _ _⟩
set_option maxHeartbeats 1000000 in
set_option maxRecDepth 100000 in
theorem told_deny (a b c d p h0 h1 h2 h3 : Int) (w : World) (ad af : Addr) (hx : TEx w ad af) (q : Bool) (hq : ∀ W, (Op.equalIn 10000 28 (.agg #[.int .u8 a, .int .u8 b, .int .u8 c, .int .u8 d]) (.agg #[.int .u8 h0, .int .u8 h1, .int .u8 h2, .int .u8 h3])).run Tryd.prog W = .ok q W) (hp : q = false ∨ (q = true ∧ decide (p < 1024) = true)) :
    Calls Tryd.prog 18 #[.agg #[.int .u8 a, .int .u8 b, .int .u8 c, .int .u8 d, .int .i64 p], .nilIface, .agg #[.int .u8 h0, .int .u8 h1, .int .u8 h2, .int .u8 h3]] w fun e w' => e = .returned (endR (0, 0, 0, 0, 0, 6)) ∧ Below w.heap.size w w' := by
  have hif := Ext.isIfaceE
  have HX := Aside0.mk hx
  have HG := Aside0.mk (fun o1 o2 o3 => (hx.below (below3 w o1 o2 o3)).deny)
  clear hx
  have hg := HG.out (.cells #[.int .u8 a, .int .u8 b, .int .u8 c, .int .u8 d, .int .i64 p] 31) (.cells #[.int .u8 h0, .int .u8 h1, .int .u8 h2, .int .u8 h3] 28) (.cells #[.int .u8 0, .int .u8 0, .int .u8 0, .int .u8 0, .int .i64 0] 31)
  clear HG
  rcases hp with rfl | ⟨rfl, hp2⟩
  all_goals
    go_enter Tryd.func18, Tryd.ntmps18
    go_wp2_with (go_at_call 32; with_reducible refine (number_calls _ ad af (HX.out.below (below4 w _ _ _ _)) 6 _ (.deny (w.heap.size + 1 + 1 + 1) 6 rfl (new4 w _ _ _ _)) (by decide)).mono ?_; rintro e w1 ⟨rfl, hb1⟩; have HB1 := Aside0.mk (after4 _ _ _ hb1); clear hb1; obtain ⟨z0, z1, z2, z3, z4, y0, y1, y2, y3, y4⟩ := endCells_facts HB1.out.2)
    try simp only [Exit.inBlock, Exit.then]
    exact bodyPost_ret (res_end _ 6 7 rfl _ _ (w.heap.size + 1 + 1) 0 0 0 0 0 (.int .i64 6) rfl rfl (put5 HB1.out.2 0 0 0 0 0)) rfl ⟨rfl, put5B HB1.out.1 (by omega) 0 0 0 0 0⟩
set_option maxHeartbeats 1000000 in
set_option maxRecDepth 100000 in
theorem told_err (n a b c d p h0 h1 h2 h3 : Int) (p1 : Addr) (w : World) (ad af : Addr) (hx : TEx w ad af) (hn : n ≠ 0) (he : ErrT w ad af n (.iface 69 (.pointer (some p1)))) :
    Calls Tryd.prog 18 #[.agg #[.int .u8 a, .int .u8 b, .int .u8 c, .int .u8 d, .int .i64 p], .iface 69 (.pointer (some p1)), .agg #[.int .u8 h0, .int .u8 h1, .int .u8 h2, .int .u8 h3]] w fun e w' => e = .returned (endR (0, 0, 0, 0, 0, n)) ∧ Below w.heap.size w w' := by
  have hif := Ext.isIfaceE
  have HX := Aside0.mk hx
  have HN := Aside0.mk hn
  have HE := Aside0.mk he
  clear hx hn he
  go_enter Tryd.func18, Tryd.ntmps18
  go_wp2_with (go_at_call 32; with_reducible refine (number_calls _ ad af (HX.out.below (below3 w _ _ _)) n _ (HE.out.below (below3 w _ _ _)) HN.out).mono ?_; rintro e w1 ⟨rfl, hb1⟩; have HB1 := Aside0.mk (after3 _ _ hb1); clear hb1; obtain ⟨z0, z1, z2, z3, z4, y0, y1, y2, y3, y4⟩ := endCells_facts HB1.out.2)
  try simp only [Exit.inBlock, Exit.then]
  exact bodyPost_ret (res_end _ 6 7 rfl _ _ (w.heap.size + 1 + 1) 0 0 0 0 0 (.int .i64 n) rfl rfl (put5 HB1.out.2 0 0 0 0 0)) rfl ⟨rfl, put5B HB1.out.1 (by omega) 0 0 0 0 0⟩
theorem told_calls (n a b c d p h0 h1 h2 h3 : Int) (ev : Value) (w : World) (ad af : Addr) (hx : TEx w ad af) (he : ErrT w ad af n ev) :
    Calls Tryd.prog 18 #[.agg #[.int .u8 a, .int .u8 b, .int .u8 c, .int .u8 d, .int .i64 p], ev, .agg #[.int .u8 h0, .int .u8 h1, .int .u8 h2, .int .u8 h3]] w fun e w' => e = .returned (endR (toldE n a b c d p h0 h1 h2 h3)) ∧ Below w.heap.size w w' := by
  by_cases hn : n = 0
  · obtain rfl : ev = .nilIface := by
      cases he with
      | nil => rfl
      | deny pb no he hk => cases hn
      | form pb no h0 he hk => exact absurd hn h0
    rw [toldE, if_pos hn]
    by_cases hk : (a == h0 && (b == h1 && (c == h2 && d == h3))) = true ∧ 1024 ≤ p
    · rw [if_pos hk]
      exact told_ok a b c d p h0 h1 h2 h3 w (fun W => by rw [eq_host, hk.1]) (decide_eq_false (by omega))
    · rw [if_neg hk]
      refine told_deny a b c d p h0 h1 h2 h3 w ad af hx _ (fun W => eq_host a b c d h0 h1 h2 h3 W) ?_
      cases hq : (a == h0 && (b == h1 && (c == h2 && d == h3)))
      · exact .inl rfl
      · exact .inr ⟨rfl, decide_eq_true (by rw [hq] at hk; simp at hk; omega)⟩
  · rw [toldE, if_neg hn]
    have hp : ∃ p1, ev = .iface 69 (.pointer (some p1)) := by
      cases he with
      | nil => exact absurd rfl hn
      | deny pb no he hk => exact ⟨_, he⟩
      | form pb no h0 he hk => exact ⟨_, he⟩
    obtain ⟨p1, rfl⟩ := hp
    exact told_err n a b c d p h0 h1 h2 h3 p1 w ad af hx hn he
end Go.Proofs.YtdcbkeihgbekdaaDoor.Turn

namespace Go.Proofs.YtdcbkeihgbekdaaDoor.Turn
open Go Go.RowKit Go.Proofs.YtdcbkeihgbekdaaDoorW.PrintWords Go.Proofs.YtdcbkeihgbekdaaDoorW.PrintLast Go.Proofs.YtdcbkeihgbekdaaDoorW.PrintMore Go.Proofs.YtdcbkeihgbekdaaDoor.Quad
set_option linter.unusedVariables false
set_option linter.unusedSimpArgs false
theorem endR_mk (a b c d p n : Int) : endR (a, b, c, d, p, n) = .tuple #[.agg #[.int .u8 a, .int .u8 b, .int .u8 c, .int .u8 d, .int .i64 p], .int .i64 n] := rfl
theorem wp_at {P : Program} {c : Code} {Q : Exit → Act → World → Prop} {a : Act} {w : World} (K : World → Prop) (h : K w) (hk : ∀ W, K W → Code.wp P c Q a W) : Code.wp P c Q a w := hk w h
def endO (a b c d p : Int) : Obj := .cells #[.int .u8 a, .int .u8 b, .int .u8 c, .int .u8 d, .int .i64 p] 31
def endG (a b c d p : Int) : Option Obj := some (.cells #[.int .u8 a, .int .u8 b, .int .u8 c, .int .u8 d, .int .i64 p] 31 (0, 0))
def hostG (a b c d : Int) : Option Obj := some (.cells #[.int .u8 a, .int .u8 b, .int .u8 c, .int .u8 d] 28 (0, 0))
theorem host_facts {W : World} {H : Nat} {a b c d : Int} (h : W.heap[H]? = hostG a b c d) : W.cell? ⟨H, 0, none⟩ = some (.int .u8 a) ∧ W.cell? ⟨H, 1, none⟩ = some (.int .u8 b) ∧ W.cell? ⟨H, 2, none⟩ = some (.int .u8 c) ∧ W.cell? ⟨H, 3, none⟩ = some (.int .u8 d) := ⟨(blk_cell h 0).trans rfl, (blk_cell h 1).trans rfl, (blk_cell h 2).trans rfl, (blk_cell h 3).trans rfl⟩
def put5w (W : World) (H : Nat) (a b c d p : Int) : World := (((((W.setCell ⟨H, 0, none⟩ (.int .u8 a)).setCell ⟨H, 1, none⟩ (.int .u8 b)).setCell ⟨H, 2, none⟩ (.int .u8 c)).setCell ⟨H, 3, none⟩ (.int .u8 d)).setCell ⟨H, 4, none⟩ (.int .i64 p))
theorem far5 {W : World} {K : Nat} {cs : Array Value} {t : TypeId} (h : W.heap[K]? = some (.cells cs t (0, 0))) {H : Nat} (hk : K ≠ H) (a b c d p : Int) : (put5w W H a b c d p).heap[K]? = some (.cells cs t (0, 0)) := blk_far (blk_far (blk_far (blk_far (blk_far h hk _) hk _) hk _) hk _) hk _
theorem ErrT.put5 {W : World} {ad af : Addr} {n : Int} {e : Value} (h : ErrT W ad af n e) {H : Nat} {x0 x1 x2 x3 x4 : Value} (hz : W.heap[H]? = some (.cells #[x0, x1, x2, x3, x4] 31 (0, 0))) (a b c d p : Int) : ErrT (put5w W H a b c d p) ad af n e :=
  ((((h.put hz 0 _).put (blk_put hz 0 _ rfl) 1 _).put (blk_put (blk_put hz 0 _ rfl) 1 _ rfl) 2 _).put (blk_put (blk_put (blk_put hz 0 _ rfl) 1 _ rfl) 2 _ rfl) 3 _).put (blk_put (blk_put (blk_put (blk_put hz 0 _ rfl) 1 _ rfl) 2 _ rfl) 3 _ rfl) 4 _
/-- Ahead of an end's being taken over: the peer, the result (still zero), the end (still zero), what was read. -/
structure PK (w W : World) (m : Nat) (a b c d p h0 h1 h2 h3 : Int) : Prop where
  bel : Below w.heap.size w W
  host : W.heap[w.heap.size + 1]? = hostG h0 h1 h2 h3
  res : W.heap[w.heap.size + 1 + 1]? = endG 0 0 0 0 0
  e : W.heap[w.heap.size + 1 + 1 + 1]? = endG 0 0 0 0 0
  src : W.heap[m]? = endG a b c d p
  hm : w.heap.size + 4 ≤ m
theorem PK.step {w W W' : World} {m : Nat} {a b c d p h0 h1 h2 h3 : Int} (h : PK w W m a b c d p h0 h1 h2 h3) (hb : Below W.heap.size W W') : PK w W' m a b c d p h0 h1 h2 h3 :=
  ⟨h.bel.trans (hb.mono h.bel.size), blk_below h.host hb, blk_below h.res hb, blk_below h.e hb, blk_below h.src hb, h.hm⟩
/-- Behind it. -/
structure PL (w W : World) (ad af : Addr) (n : Int) (x : Value) (a b c d p h0 h1 h2 h3 : Int) : Prop where
  bel : Below w.heap.size w W
  host : W.heap[w.heap.size + 1]? = hostG h0 h1 h2 h3
  res : W.heap[w.heap.size + 1 + 1]? = endG 0 0 0 0 0
  e : W.heap[w.heap.size + 1 + 1 + 1]? = endG a b c d p
  err : ErrT W ad af n x
theorem PL.of {w W : World} {m : Nat} {a b c d p h0 h1 h2 h3 : Int} {ad af : Addr} {n : Int} {x : Value} (h : PK w W m a b c d p h0 h1 h2 h3) (he : ErrT W ad af n x) : PL w (put5w W (w.heap.size + 1 + 1 + 1) a b c d p) ad af n x a b c d p h0 h1 h2 h3 :=
  ⟨put5B h.bel (by omega) a b c d p, far5 h.host (by omega) a b c d p, far5 h.res (by omega) a b c d p, put5 h.e a b c d p, he.put5 h.e a b c d p⟩
theorem PL.of0 {w W : World} {h0 h1 h2 h3 : Int} {ad af : Addr} {n : Int} {x : Value} (bel : Below w.heap.size w W) (host : W.heap[w.heap.size + 1]? = hostG h0 h1 h2 h3) (res : W.heap[w.heap.size + 1 + 1]? = endG 0 0 0 0 0) (e : W.heap[w.heap.size + 1 + 1 + 1]? = endG 0 0 0 0 0) (he : ErrT W ad af n x) : PL w W ad af n x 0 0 0 0 0 h0 h1 h2 h3 := ⟨bel, host, res, e, he⟩
/-- The world ahead of the verb: four blocks. -/
def w4 (w : World) (verb arg : ByteArray) (h0 h1 h2 h3 : Int) : World := (((w.alloc (.cells #[.string verb, .string arg] 23)).alloc (.cells #[.int .u8 h0, .int .u8 h1, .int .u8 h2, .int .u8 h3] 28)).alloc (endO 0 0 0 0 0)).alloc (endO 0 0 0 0 0)
theorem w4_bel (w : World) (verb arg : ByteArray) (h0 h1 h2 h3 : Int) : Below w.heap.size w (w4 w verb arg h0 h1 h2 h3) := below4 w _ _ _ _
theorem w4_cmd (w : World) (verb arg : ByteArray) (h0 h1 h2 h3 : Int) : (w4 w verb arg h0 h1 h2 h3).heap[w.heap.size]? = some (.cells #[.string verb, .string arg] 23 (0, 0)) := blk_alloc (blk_alloc (blk_alloc (blk_new w _) _) _) _
theorem w4_host (w : World) (verb arg : ByteArray) (h0 h1 h2 h3 : Int) : (w4 w verb arg h0 h1 h2 h3).heap[w.heap.size + 1]? = hostG h0 h1 h2 h3 := blk_alloc (blk_alloc (by have := blk_new (w.alloc (.cells #[.string verb, .string arg] 23)) (.cells #[.int .u8 h0, .int .u8 h1, .int .u8 h2, .int .u8 h3] 28); simpa using this) _) _
theorem w4_res (w : World) (verb arg : ByteArray) (h0 h1 h2 h3 : Int) : (w4 w verb arg h0 h1 h2 h3).heap[w.heap.size + 1 + 1]? = endG 0 0 0 0 0 := blk_alloc (new3 w _ _ _) _
theorem w4_e (w : World) (verb arg : ByteArray) (h0 h1 h2 h3 : Int) : (w4 w verb arg h0 h1 h2 h3).heap[w.heap.size + 1 + 1 + 1]? = endG 0 0 0 0 0 := new4 w _ _ _ _

set_option maxHeartbeats 4000000 in
set_option maxRecDepth 100000 in
theorem point_other (verb arg : ByteArray) (h0 h1 h2 h3 : Int) (w : World) (ad af : Addr) (hx : TEx w ad af) (hv1 : (verb.toList == [80, 79, 82, 84]) = false) (hv2 : (verb.toList == [69, 80, 82, 84]) = false) :
    Calls Tryd.prog 8 #[.agg #[.string verb, .string arg], .agg #[.int .u8 h0, .int .u8 h1, .int .u8 h2, .int .u8 h3]] w fun e w' => e = .returned (endR (toldE 1 0 0 0 0 0 h0 h1 h2 h3)) ∧ Below w.heap.size w w' := by
  have HX := Aside0.mk hx
  obtain ⟨⟨r0, r1, r2, r3, r4, r5⟩, hR⟩ : ∃ R, R = toldE 1 0 0 0 0 0 h0 h1 h2 h3 := ⟨_, rfl⟩
  rw [← hR, endR_mk]
  have HRR := Aside0.mk hR.symm
  clear hx hR
  go_enter Tryd.func8, Tryd.ntmps8
  go_wp2_with (first
    | (go_at_call 14
       refine (fail_calls 1 (by decide) ad af (w4 w verb arg h0 h1 h2 h3) (HX.out.below (w4_bel w verb arg h0 h1 h2 h3))).mono ?_
       rintro e w1 ⟨x, rfl, hx1, hb1⟩
       have HC := (blk_below (w4_cmd w verb arg h0 h1 h2 h3) hb1)
       have hc0 : w1.cell? ⟨w.heap.size, 0, none⟩ = some (.string verb) := (blk_cell HC 0).trans rfl
       have HL := Aside0.mk (PL.of0 ((w4_bel w verb arg h0 h1 h2 h3).trans (hb1.mono (w4_bel w verb arg h0 h1 h2 h3).size)) (blk_below (w4_host w verb arg h0 h1 h2 h3) hb1) (blk_below (w4_res w verb arg h0 h1 h2 h3) hb1) (blk_below (w4_e w verb arg h0 h1 h2 h3) hb1) hx1)
       clear hx1 hb1 HC
       obtain ⟨z0, z1, z2, z3, z4, y0, y1, y2, y3, y4⟩ := endCells_facts HL.out.e
       obtain ⟨q0, q1, q2, q3⟩ := host_facts HL.out.host)
    | (go_at_call 18
       with_reducible refine (told_calls 1 0 0 0 0 0 h0 h1 h2 h3 _ _ ad af (HX.out.below HL.out.bel) HL.out.err).mono ?_
       rintro e w2 ⟨rfl, hb2⟩
       have HB := Aside0.mk (HL.out.bel.trans (hb2.mono HL.out.bel.size))
       have HZ := Aside0.mk (blk_below HL.out.res hb2)
       rw [HRR.out, endR_mk]
       clear hb2
       obtain ⟨x0, x1, x2, x3, x4, u0, u1, u2, u3, u4⟩ := endCells_facts HZ.out))
  try simp only [Exit.inBlock, Exit.then]
  exact bodyPost_ret (res_end _ 4 5 rfl _ _ (w.heap.size + 1 + 1) r0 r1 r2 r3 r4 (.int .i64 r5) rfl rfl (put5 HZ.out r0 r1 r2 r3 r4)) rfl ⟨rfl, put5B HB.out (by omega) _ _ _ _ _⟩
/-- The frame's world behind fail, as it is wanted further on. -/
structure PF (w W : World) (verb arg : ByteArray) (h0 h1 h2 h3 : Int) : Prop where
  bel : Below w.heap.size w W
  cmd : W.heap[w.heap.size]? = some (.cells #[.string verb, .string arg] 23 (0, 0))
  host : W.heap[w.heap.size + 1]? = hostG h0 h1 h2 h3
  res : W.heap[w.heap.size + 1 + 1]? = endG 0 0 0 0 0
  e : W.heap[w.heap.size + 1 + 1 + 1]? = endG 0 0 0 0 0
theorem PF.start (w : World) (verb arg : ByteArray) (h0 h1 h2 h3 : Int) : PF w (w4 w verb arg h0 h1 h2 h3) verb arg h0 h1 h2 h3 := ⟨w4_bel .., w4_cmd .., w4_host .., w4_res .., w4_e ..⟩
theorem PF.step {w W W' : World} {verb arg : ByteArray} {h0 h1 h2 h3 : Int} (h : PF w W verb arg h0 h1 h2 h3) (hb : Below W.heap.size W W') : PF w W' verb arg h0 h1 h2 h3 := ⟨h.bel.trans (hb.mono h.bel.size), blk_below h.cmd hb, blk_below h.host hb, blk_below h.res hb, blk_below h.e hb⟩
theorem PF.read {w W : World} {verb arg : ByteArray} {h0 h1 h2 h3 : Int} (h : PF w W verb arg h0 h1 h2 h3) (a b c d p : Int) : PK w (W.alloc (endO a b c d p)) W.heap.size a b c d p h0 h1 h2 h3 :=
  ⟨h.bel.alloc h.bel.size _, blk_alloc h.host _, blk_alloc h.res _, blk_alloc h.e _, blk_new _ _, by have := blk_lt h.e; omega⟩
theorem PF.facts {w W : World} {verb arg : ByteArray} {h0 h1 h2 h3 : Int} (h : PF w W verb arg h0 h1 h2 h3) : W.cell? ⟨w.heap.size, 0, none⟩ = some (.string verb) ∧ W.cell? ⟨w.heap.size, 1, none⟩ = some (.string arg) := ⟨(blk_cell h.cmd 0).trans rfl, (blk_cell h.cmd 1).trans rfl⟩

set_option maxHeartbeats 4000000 in
set_option maxRecDepth 100000 in
theorem point_six (verb arg : ByteArray) (h0 h1 h2 h3 : Int) (w : World) (ad af : Addr) (hx : TEx w ad af) (hv1 : (verb.toList == [80, 79, 82, 84]) = true) (a b c d p : Int) (z : Bool) (hread : ∀ W, Below w.heap.size w W → Calls Tryd.prog 15 #[.string arg] W fun e w' => e = .returned (.tuple #[.agg #[.int .u8 a, .int .u8 b, .int .u8 c, .int .u8 d, .int .i64 p], .bool z]) ∧ Below W.heap.size W w') :
    Calls Tryd.prog 8 #[.agg #[.string verb, .string arg], .agg #[.int .u8 h0, .int .u8 h1, .int .u8 h2, .int .u8 h3]] w fun e w' => e = .returned (endR (toldE (if z then 0 else 2) a b c d p h0 h1 h2 h3)) ∧ Below w.heap.size w w' := by
  have HX := Aside0.mk hx
  have HRD := Aside0.mk hread
  obtain ⟨⟨r0, r1, r2, r3, r4, r5⟩, hR⟩ : ∃ R, R = toldE (if z then 0 else 2) a b c d p h0 h1 h2 h3 := ⟨_, rfl⟩
  rw [← hR, endR_mk]
  have HRR := Aside0.mk hR.symm
  clear hx hread hR
  go_enter Tryd.func8, Tryd.ntmps8
  go_wp2_with (first
    | (go_at_call 14
       refine (fail_calls 1 (by decide) ad af (w4 w verb arg h0 h1 h2 h3) (HX.out.below (w4_bel w verb arg h0 h1 h2 h3))).mono ?_
       rintro e w1 ⟨x, rfl, hx1, hb1⟩
       have HF := Aside0.mk ((PF.start w verb arg h0 h1 h2 h3).step hb1)
       clear hx1 hb1
       obtain ⟨c0, c1⟩ := HF.out.facts)
    | (go_at_call 15
       refine (HRD.out _ HF.out.bel).mono ?_
       rintro e w2 ⟨rfl, hb2⟩
       have HG := Aside0.mk (HF.out.step hb2)
       clear hb2 c0 c1))
  refine wp_at (fun W => PK w W w2.heap.size a b c d p h0 h1 h2 h3) (HG.out.read a b c d p) (fun W0 hR0 => ?_)
  have HP := Aside0.mk hR0
  clear hR0
  obtain ⟨m, hm⟩ : ∃ m, m = w2.heap.size := ⟨_, rfl⟩
  rw [← hm] at HP ⊢
  clear hm HG
  clear w2 HF
  obtain ⟨z0, z1, z2, z3, z4, y0, y1, y2, y3, y4⟩ := endCells_facts HP.out.e
  obtain ⟨s0, s1, s2, s3, s4, _, _, _, _, _⟩ := endCells_facts HP.out.src
  go_region_with (go_at_call 16; refine (unless_calls z 2 (fun _ => by decide) ad af _ (HX.out.below HP.out.bel.drew)).mono ?_; rintro ev w9 ⟨x9, rfl, hx9, hb9⟩; have HX9 := Aside0.mk hx9; have HP9 := Aside0.mk ((HP.out.step (Below.refl _ _).drew).step hb9); clear hx9 hb9; obtain ⟨t0, t1, t2, t3, t4, v0, v1, v2, v3, v4⟩ := endCells_facts HP9.out.e; obtain ⟨g0, g1, g2, g3, g4, _, _, _, _, _⟩ := endCells_facts HP9.out.src)
  all_goals
    have HL := Aside0.mk (show PL w (((((w9.setCell ⟨w.heap.size + 1 + 1 + 1, 0, none⟩ (.int .u8 a)).setCell ⟨w.heap.size + 1 + 1 + 1, 1, none⟩ (.int .u8 b)).setCell ⟨w.heap.size + 1 + 1 + 1, 2, none⟩ (.int .u8 c)).setCell ⟨w.heap.size + 1 + 1 + 1, 3, none⟩ (.int .u8 d)).setCell ⟨w.heap.size + 1 + 1 + 1, 4, none⟩ (.int .i64 p)) ad af (if z then 0 else 2) x9 a b c d p h0 h1 h2 h3 from PL.of HP9.out HX9.out)
    clear HX9 HP9 s0 s1 s2 s3 s4 z0 z1 z2 z3 z4 y0 y1 y2 y3 y4 g0 g1 g2 g3 g4
    obtain ⟨q0, q1, q2, q3⟩ := host_facts HL.out.host
    go_wp2_with (go_at_call 18
                 with_reducible refine (told_calls _ _ _ _ _ _ _ _ _ _ _ _ ad af (HX.out.below HL.out.bel) HL.out.err).mono ?_
                 rintro e w3 ⟨rfl, hb3⟩
                 have HB := Aside0.mk (HL.out.bel.trans (hb3.mono HL.out.bel.size))
                 have HZ := Aside0.mk (blk_below HL.out.res hb3)
                 rw [HRR.out, endR_mk]
                 clear hb3
                 obtain ⟨x0, x1, x2, x3, x4, u0, u1, u2, u3, u4⟩ := endCells_facts HZ.out)
    try simp only [Exit.inBlock, Exit.then]
    exact bodyPost_ret (res_end _ 4 5 rfl _ _ (w.heap.size + 1 + 1) r0 r1 r2 r3 r4 (.int .i64 r5) rfl rfl (put5 HZ.out r0 r1 r2 r3 r4)) rfl ⟨rfl, put5B HB.out (by omega) _ _ _ _ _⟩
set_option maxHeartbeats 4000000 in
set_option maxRecDepth 100000 in
theorem point_ext (verb arg : ByteArray) (h0 h1 h2 h3 : Int) (w : World) (ad af : Addr) (hx : TEx w ad af) (hv1 : (verb.toList == [80, 79, 82, 84]) = false) (hv2 : (verb.toList == [69, 80, 82, 84]) = true) (a b c d p : Int) (n : Int) (hread : ∀ W, Below w.heap.size w W → Calls Tryd.prog 17 #[.string arg] W fun e w' => e = .returned (.tuple #[.agg #[.int .u8 a, .int .u8 b, .int .u8 c, .int .u8 d, .int .i64 p], .int .i64 n]) ∧ Below W.heap.size W w') :
    Calls Tryd.prog 8 #[.agg #[.string verb, .string arg], .agg #[.int .u8 h0, .int .u8 h1, .int .u8 h2, .int .u8 h3]] w fun e w' => e = .returned (endR (toldE n a b c d p h0 h1 h2 h3)) ∧ Below w.heap.size w w' := by
  have HX := Aside0.mk hx
  have HRD := Aside0.mk hread
  obtain ⟨⟨r0, r1, r2, r3, r4, r5⟩, hR⟩ : ∃ R, R = toldE n a b c d p h0 h1 h2 h3 := ⟨_, rfl⟩
  rw [← hR, endR_mk]
  have HRR := Aside0.mk hR.symm
  obtain ⟨z, hz⟩ : ∃ z, z = (n == 0) := ⟨_, rfl⟩
  have HU := Aside0.mk (show ∀ W : World, TEx W ad af → Calls Tryd.prog 16 #[.bool z, .int .i64 n] W fun e w' => ∃ x, e = .returned x ∧ ErrT w' ad af n x ∧ Below W.heap.size W w' from fun W hW => by
    have := unless_calls z n (fun h => by rw [hz] at h; simpa using h) ad af W hW
    have e : (if z then 0 else n) = n := by
      cases hzz : z
      · rfl
      · rw [hzz] at hz; simp at hz; simp [hz]
    rwa [e] at this)
  have hz2 := hz.symm
  clear hz
  clear hx hread hR
  go_enter Tryd.func8, Tryd.ntmps8
  go_wp2_with (first
    | (go_at_call 14
       refine (fail_calls 1 (by decide) ad af (w4 w verb arg h0 h1 h2 h3) (HX.out.below (w4_bel w verb arg h0 h1 h2 h3))).mono ?_
       rintro e w1 ⟨x, rfl, hx1, hb1⟩
       have HF := Aside0.mk ((PF.start w verb arg h0 h1 h2 h3).step hb1)
       clear hx1 hb1
       obtain ⟨c0, c1⟩ := HF.out.facts)
    | (go_at_call 17
       refine (HRD.out _ HF.out.bel).mono ?_
       rintro e w2 ⟨rfl, hb2⟩
       have HG := Aside0.mk (HF.out.step hb2)
       clear hb2 c0 c1))
  refine wp_at (fun W => PK w W w2.heap.size a b c d p h0 h1 h2 h3) (HG.out.read a b c d p) (fun W0 hR0 => ?_)
  have HP := Aside0.mk hR0
  clear hR0
  obtain ⟨m, hm⟩ : ∃ m, m = w2.heap.size := ⟨_, rfl⟩
  rw [← hm] at HP ⊢
  clear hm HG
  clear w2 HF
  obtain ⟨z0, z1, z2, z3, z4, y0, y1, y2, y3, y4⟩ := endCells_facts HP.out.e
  obtain ⟨s0, s1, s2, s3, s4, _, _, _, _, _⟩ := endCells_facts HP.out.src
  go_region_with (go_at_call 16; refine (HU.out _ (HX.out.below HP.out.bel.drew)).mono ?_; rintro ev w9 ⟨x9, rfl, hx9, hb9⟩; have HX9 := Aside0.mk hx9; have HP9 := Aside0.mk ((HP.out.step (Below.refl _ _).drew).step hb9); clear hx9 hb9; obtain ⟨t0, t1, t2, t3, t4, v0, v1, v2, v3, v4⟩ := endCells_facts HP9.out.e; obtain ⟨g0, g1, g2, g3, g4, _, _, _, _, _⟩ := endCells_facts HP9.out.src)
  all_goals
    have HL := Aside0.mk (show PL w (((((w9.setCell ⟨w.heap.size + 1 + 1 + 1, 0, none⟩ (.int .u8 a)).setCell ⟨w.heap.size + 1 + 1 + 1, 1, none⟩ (.int .u8 b)).setCell ⟨w.heap.size + 1 + 1 + 1, 2, none⟩ (.int .u8 c)).setCell ⟨w.heap.size + 1 + 1 + 1, 3, none⟩ (.int .u8 d)).setCell ⟨w.heap.size + 1 + 1 + 1, 4, none⟩ (.int .i64 p)) ad af n x9 a b c d p h0 h1 h2 h3 from PL.of HP9.out HX9.out)
    clear HX9 HP9 s0 s1 s2 s3 s4 z0 z1 z2 z3 z4 y0 y1 y2 y3 y4 g0 g1 g2 g3 g4
    obtain ⟨q0, q1, q2, q3⟩ := host_facts HL.out.host
    go_wp2_with (go_at_call 18
                 with_reducible refine (told_calls _ _ _ _ _ _ _ _ _ _ _ _ ad af (HX.out.below HL.out.bel) HL.out.err).mono ?_
                 rintro e w3 ⟨rfl, hb3⟩
                 have HB := Aside0.mk (HL.out.bel.trans (hb3.mono HL.out.bel.size))
                 have HZ := Aside0.mk (blk_below HL.out.res hb3)
                 rw [HRR.out, endR_mk]
                 clear hb3
                 obtain ⟨x0, x1, x2, x3, x4, u0, u1, u2, u3, u4⟩ := endCells_facts HZ.out)
    try simp only [Exit.inBlock, Exit.then]
    exact bodyPost_ret (res_end _ 4 5 rfl _ _ (w.heap.size + 1 + 1) r0 r1 r2 r3 r4 (.int .i64 r5) rfl rfl (put5 HZ.out r0 r1 r2 r3 r4)) rfl ⟨rfl, put5B HB.out (by omega) _ _ _ _ _⟩
end Go.Proofs.YtdcbkeihgbekdaaDoor.Turn

namespace Go.Proofs.YtdcbkeihgbekdaaDoor.MapLaw
open Go Go.RowKit
set_option linter.unusedVariables false
section
variable {κ : Type} [DecidableEq κ] {kenc : κ → Value} {P : Program} {kt : TypeId} (w : World) {b : Nat} {l : List (κ × Value)}
variable {ops : Array Oper} {rest : List Oper} {o : Oper} {a : Act} {Q : Exit → Act → World → Prop}
theorem wp_insert (hg : o.guard = none) (m x v : Operand) (t e : TypeId) (hop : o.op = Op.insert t m x v) (K : KeyOk P kt kenc) (ht : P.underlying t = some (.map kt e))
    (hm : a.eval m = .map (some b)) (h : Is kenc w b l) (k : κ) (hx : a.eval x = kenc k) (val : Value) (hv : a.eval v = val)
    (hK : ∀ w', Is kenc w' b (put k val l) → w.grownBy w' (some b) → wpList P ops Q rest (a.put o.dst undef) w') : wpList P ops Q (o :: rest) a w := by
  refine wpList_plain hg fun K' hK' => ?_
  obtain ⟨w', hrun, r1, r2⟩ := run_update K ht h k val
  unfold Oper.wp
  simp [execOp, hop, hm, hx, hv, hrun, Result.andThen]
  exact hK' _ _ (hK w' r1 r2)
theorem gate_insert (t : TypeId) (m x v : Operand) (hop : o.op = Op.insert t m x v) (h : wpList P ops Q (o :: rest) a w) : wpList P ops Q (o :: rest) a w := h
end
end Go.Proofs.YtdcbkeihgbekdaaDoor.MapLaw
namespace Go.Proofs.YtdcbkeihgbekdaaDoor.Turn
open Go Go.RowKit Go.Proofs.YtdcbkeihgbekdaaDoorW.PrintWords Go.Proofs.YtdcbkeihgbekdaaDoor.Quad
set_option linter.unusedVariables false
theorem keyS : MapLaw.KeyOk Tryd.prog 9 Value.string := MapLaw.string_key Tryd.underlying9
def PASV : ByteArray := ⟨#[80, 65, 83, 86]⟩
def EPSV : ByteArray := ⟨#[69, 80, 83, 86]⟩
def PORT : ByteArray := ⟨#[80, 79, 82, 84]⟩
def EPRT : ByteArray := ⟨#[69, 80, 82, 84]⟩
theorem at_two (k1 k2 : ByteArray) (hk : k1 ≠ k2) (v1 v2 : Value) (k : ByteArray) : MapLaw.at_ k (MapLaw.put k2 v2 (MapLaw.put k1 v1 [])) = if k = k1 then some v1 else if k = k2 then some v2 else none := by
  have e : MapLaw.put k2 v2 (MapLaw.put k1 v1 []) = [(k1, v1), (k2, v2)] := by
    simp only [MapLaw.put]
    rw [if_neg (Ne.symm hk)]
  rw [e, MapLaw.at_]
  simp only [MapLaw.lk]
  by_cases h1 : k = k1
  · rw [if_pos h1, if_pos h1]; rfl
  · rw [if_neg h1, if_neg h1]
    by_cases h2 : k = k2
    · rw [if_pos h2, if_pos h2]; rfl
    · rw [if_neg h2, if_neg h2]; rfl
end Go.Proofs.YtdcbkeihgbekdaaDoor.Turn
