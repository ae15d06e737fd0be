/- Contracts and plain facts that the law's proof needs. -/
import Derived.Shelf.Utf8.RuneCount
import Derived.Shelf.Strings.Search1
import Derived.Shelf.Strings.Search2
import Derived.Shelf.Strings.Search3
import Derived.Shelf.Strings.Count
import Derived.Shelf.LaysM
import Derived.Shelf.Strings.Shaped
import Derived.Shelf.Strings.Prefix
import Derived.Shelf.Strings.Split
import Derived.Shelf.Strings.SplitShaped
import Derived.Shelf.Unicode.Decode
import Derived.Shelf.Strings.RuneCount
import Derived.Shelf.Strings.Explode
import Derived.Shelf.Unicode.DecodeSlow
import Derived.Shelf.Unicode.DecodeAny
import Derived.Test.YtdemfgijfnicpaaDoorProg
import Derived.Test.YtdemfgijfnicpaaDoorRows
import Derived.Test.YtdemfgijfnicpaaDoorTie
import Derived.Test.YtdemfgijfnicpaaDoorCards
import Derived.WalkKit
import Derived.ProofKit
import Derived.OpenShut
import Derived.ShutString
import Derived.ChangeOld
import Derived.Below
import Derived.SizedLaws
import Derived.LaidMore
import Derived.Lay
import Derived.HandedShaped
import Derived.Laws.IdiomArrays
import Derived.SevenTiedAt
import Derived.Stop.Joined
import Derived.Test.YtdemfgijfnicpaaDoorWMore
import Derived.Test.YtdemfgijfnicpaaDoorWNEv
import Derived.Deep.Draws
import Derived.Deep.AppendLies
import Derived.Maps.AppendAt
import Derived.OwnWalk
import Derived.Laws.BytesArg
import Derived.Laws.MakeOwn
import Derived.Laws.OwnMore
import Derived.Deep.OwnRows
import Derived.Tactics
import Derived.Lib.ConvBytes
import Derived.Laws.Slices
import Derived.KernelRfl
import Derived.RowKit3
import Derived.Deep.LoopGhost
import Derived.Deep.QuietTactic
import Derived.BigQuiet
import Derived.WideLaws
import Derived.Deep.DeepCutAuto
import Derived.Deep.CutBlock
import Derived.Deep.RegionHeld3
import Derived.Laws.Rows
import Derived.Lib.AppendStr
import Derived.ArgAppend
import Derived.Laws.IdiomCopy
import Derived.OrdersHeld
import Derived.Laws.BitsLemmas
import Derived.RowKit
import Derived.Lib.SplitLaws
import Derived.Lib.Join
import Derived.Lib.Bytealg
import Derived.Test.YtdemfgijfnicpaaDoorWWords
import Derived.Test.YtdemfgijfnicpaaDoorWLast
import Derived.Test.YtdemfgijfnicpaaDoorWTab
import Derived.Test.YtdemfgijfnicpaaDoorWFour
import Derived.Test.YtdemfgijfnicpaaDoorWQPut
import Derived.Test.YtdemfgijfnicpaaDoorWApart
import Derived.Test.YtdemfgijfnicpaaDoorWArr
import Derived.Test.YtdemfgijfnicpaaDoorWZeros
import Derived.Test.YtdemfgijfnicpaaDoorWFoot
import Derived.Test.YtdemfgijfnicpaaDoorWKept
import Derived.Test.YtdemfgijfnicpaaDoorWShare
import Derived.Test.YtdemfgijfnicpaaDoorWN
import Derived.Test.YtdemfgijfnicpaaDoorWFootNe
import Derived.Test.YtdemfgijfnicpaaDoorWAt
import Derived.Test.YtdemfgijfnicpaaDoorWEqStruct
import Derived.Test.YtdemfgijfnicpaaDoorWRepsOne
import Derived.Test.YtdemfgijfnicpaaDoorWInv
import Derived.Test.YtdemfgijfnicpaaDoorWInvWords
import Derived.Test.YtdemfgijfnicpaaDoorWGuard
import Derived.WideShapes
import Derived.WalkMore
import Derived.MapKept
import Derived.Maps.OwnOps
import Derived.Maps.OwnSet
import Derived.ChangeMaps4
import Derived.Laws.IdiomStrings
namespace Go.Proofs
open Go.Shelf
def Tryd.lays195_ren : Go.Shelf.Ren := ⟨fun | 195 => 40 | n => n, fun | 9 => 9 | 3 => 3 | 0 => 0 | 4 => 4 | n => n, fun | n => n⟩
theorem Tryd.lays195 : Go.Proofs.Lays.n195 Tryd.prog Tryd.lays195_ren := {
  mixed := by kernel_rfl
  f195 := Tryd.func40.trans (congrArg some (by kernel_rfl))
  t0 := Tryd.underlying0
  a0 := Tryd.isAgg0
  z0 := Tryd.sizeOf0
  v0 := Tryd.zeroValue0
  t3 := Tryd.underlying3
  a3 := Tryd.isAgg3
  z3 := Tryd.sizeOf3
  v3 := Tryd.zeroValue3
  t4 := Tryd.underlying4
  a4 := Tryd.isAgg4
  z4 := Tryd.sizeOf4
  v4 := Tryd.zeroValue4
  t9 := Tryd.underlying9
  a9 := Tryd.isAgg9
  z9 := Tryd.sizeOf9
  v9 := Tryd.zeroValue9 }
open Go.RowKit in
/-- unicode/utf8.RuneCountInString: "RuneCountInString is like RuneCount but its input is a string." ("RuneCount returns the number of runes in p. Erroneous and short encodings are treated as single runes of width 1 byte."): EVERY STRING, valid UTF-8 or not: 'Lib.runeCount s' (plain Lean over the model's own 'Utf8.decode'; 'Lib.runeCount_le': at most len(s); 'Lib.runeCount_ascii': on ASCII: len(s)). THE ONE CONDITION: len(s) below 2^63 - 1 (the counter does not wrap): the form's reach pays it. THE WORLD BEHIND THE CALL: ONE BLOCK MORE: the model's iterator over s, at its end: all else as it was. (LAID: no walk: one application.) -/
theorem Tryd.utf8_RuneCountInString (s : ByteArray) (w : World) (hs : s.size < 9223372036854775807) :
    Calls Tryd.prog 40 #[.string s] w fun e w' => e = .returned (.int .i64 (Lib.runeCount s)) ∧ ∃ pos, w' = w.iter s pos := Any.utf8_RuneCountInString Tryd.lays195 s w hs
def Tryd.lays217_ren : Go.Shelf.Ren := ⟨fun | 217 => 45 | 266 => 49 | n => n, fun | 9 => 9 | 5 => 5 | 3 => 3 | n => n, fun | n => n⟩
theorem Tryd.lays217 : Go.Proofs.Lays.n217 Tryd.prog Tryd.lays217_ren := {
  mixed := by kernel_rfl
  f217 := Tryd.func45.trans (congrArg some (by kernel_rfl))
  f266 := Tryd.func49.trans (congrArg some (by kernel_rfl))
  t3 := Tryd.underlying3
  a3 := Tryd.isAgg3
  z3 := Tryd.sizeOf3
  v3 := Tryd.zeroValue3
  t5 := Tryd.underlying5
  a5 := Tryd.isAgg5
  z5 := Tryd.sizeOf5
  v5 := Tryd.zeroValue5
  t9 := Tryd.underlying9
  a9 := Tryd.isAgg9
  z9 := Tryd.sizeOf9
  v9 := Tryd.zeroValue9 }
open Go.RowKit Go.Lib in
/-- internal/stringslite.IndexByte (what strings.IndexByte calls): IT RETURNS 'Lib.indexByte s c'; the world is as it was. (LAID: no walk: one application.) -/
theorem Tryd.stringslite_IndexByte (s : ByteArray) (c : Int) (w : World) :
    Calls Tryd.prog 45 #[.string s, .int .u8 c] w fun e w' => e = .returned (.int .i64 (Lib.indexByte s.data.toList c.toNat.toUInt8)) ∧ w' = w := Any.stringslite_IndexByte Tryd.lays217 s c w
def Tryd.lays224_ren : Go.Shelf.Ren := ⟨fun | 224 => 47 | n => n, fun | 3 => 3 | n => n, fun | n => n⟩
theorem Tryd.lays224 : Go.Proofs.Lays.n224 Tryd.prog Tryd.lays224_ren := {
  mixed := by kernel_rfl
  f224 := Tryd.func47.trans (congrArg some (by kernel_rfl))
  t3 := Tryd.underlying3
  a3 := Tryd.isAgg3
  z3 := Tryd.sizeOf3
  v3 := Tryd.zeroValue3 }
open Go.RowKit Go.Lib in
/-- internal/bytealg.Cutover: "Cutover reports the number of failures of IndexByte we should tolerate before switching over to Index. n is the number of bytes processed so far.": on amd64: (n + 16) / 8. (LAID: no walk: one application.) -/
theorem Tryd.bytealg_Cutover (n : Int) (h0 : 0 ≤ n) (h1 : n < 4611686018427387904) (w : World) :
    Calls Tryd.prog 47 #[.int .i64 n] w fun e w' => e = .returned (.int .i64 ((n + 16) / 8)) ∧ w' = w := Any.bytealg_Cutover Tryd.lays224 n h0 h1 w
def Tryd.lays314_ren : Go.Shelf.Ren := ⟨fun | 314 => 50 | n => n, fun | 9 => 9 | 51 => 63 | 3 => 3 | 4 => 4 | 5 => 5 | 46 => 58 | n => n, fun | n => n⟩
theorem Tryd.lays314 : Go.Proofs.Lays.n314 Tryd.prog Tryd.lays314_ren := {
  mixed := by kernel_rfl
  f314 := Tryd.func50.trans (congrArg some (by kernel_rfl))
  t3 := Tryd.underlying3
  a3 := Tryd.isAgg3
  z3 := Tryd.sizeOf3
  v3 := Tryd.zeroValue3
  t4 := Tryd.underlying4
  a4 := Tryd.isAgg4
  z4 := Tryd.sizeOf4
  v4 := Tryd.zeroValue4
  t5 := Tryd.underlying5
  a5 := Tryd.isAgg5
  z5 := Tryd.sizeOf5
  v5 := Tryd.zeroValue5
  t9 := Tryd.underlying9
  a9 := Tryd.isAgg9
  z9 := Tryd.sizeOf9
  v9 := Tryd.zeroValue9
  t46 := Tryd.underlying58
  a46 := Tryd.isAgg58
  z46 := Tryd.sizeOf58
  v46 := Tryd.zeroValue58
  t51 := Tryd.underlying63
  a51 := Tryd.isAgg63
  z51 := Tryd.sizeOf63
  v51 := Tryd.zeroValue63 }
open Go.RowKit Go.Lib in
/-- hashStr: "returns the hash and the appropriate multiplicative factor for use in Rabin-Karp algorithm": THE HASH OF ALL OF sep, AND 16777619 ^ len(sep), both in uint32. (LAID: no walk: one application.) -/
theorem Tryd.bytealg_hashStr (sep : ByteArray) (hs : sep.size < 4294967281) (w : World) :
    Calls Tryd.prog 50 #[.string sep] w fun e w' => e = .returned (.tuple #[.int .u32 (RK.H sep.data.toList % 4294967296), .int .u32 (16777619 ^ sep.size % 4294967296)]) ∧ w' = w := Any.bytealg_hashStr Tryd.lays314 sep hs w
def Tryd.lays267_ren : Go.Shelf.Ren := ⟨fun | 267 => 48 | 314 => 50 | n => n, fun | 9 => 9 | 3 => 3 | 146 => 64 | 51 => 63 | 4 => 4 | 5 => 5 | 46 => 58 | n => n, fun | n => n⟩
theorem Tryd.lays267 : Go.Proofs.Lays.n267 Tryd.prog Tryd.lays267_ren := {
  mixed := by kernel_rfl
  f267 := Tryd.func48.trans (congrArg some (by kernel_rfl))
  f314 := Tryd.func50.trans (congrArg some (by kernel_rfl))
  t3 := Tryd.underlying3
  a3 := Tryd.isAgg3
  z3 := Tryd.sizeOf3
  v3 := Tryd.zeroValue3
  t4 := Tryd.underlying4
  a4 := Tryd.isAgg4
  z4 := Tryd.sizeOf4
  v4 := Tryd.zeroValue4
  t5 := Tryd.underlying5
  a5 := Tryd.isAgg5
  z5 := Tryd.sizeOf5
  v5 := Tryd.zeroValue5
  t9 := Tryd.underlying9
  a9 := Tryd.isAgg9
  z9 := Tryd.sizeOf9
  v9 := Tryd.zeroValue9
  t46 := Tryd.underlying58
  a46 := Tryd.isAgg58
  z46 := Tryd.sizeOf58
  v46 := Tryd.zeroValue58
  t51 := Tryd.underlying63
  a51 := Tryd.isAgg63
  z51 := Tryd.sizeOf63
  v51 := Tryd.zeroValue63
  t146 := Tryd.underlying64
  a146 := Tryd.isAgg64
  z146 := Tryd.sizeOf64
  v146 := Tryd.zeroValue64 }
open Go.RowKit Go.Lib in
theorem Tryd.bytealg_IndexRabinKarp (s sep : ByteArray) (h1 : 1 ≤ sep.size) (h2 : sep.size ≤ s.size) (hs : s.size < 4294967281) (w : World) :
    Calls Tryd.prog 48 #[.string s, .string sep] w fun e w' => e = .returned (.int .i64 (Lib.index s.data.toList sep.data.toList)) ∧ w' = w := Any.bytealg_IndexRabinKarp Tryd.lays267 s sep h1 h2 hs w
def Tryd.lays219_ren : Go.Shelf.Ren := ⟨fun | 219 => 43 | 217 => 45 | 225 => 46 | 224 => 47 | 267 => 48 | 266 => 49 | 314 => 50 | n => n, fun | 9 => 9 | 3 => 3 | 4 => 4 | 5 => 5 | 46 => 58 | 146 => 64 | 51 => 63 | n => n, fun | 1 => 0 | n => n⟩
theorem Tryd.lays219 : Go.Proofs.Lays.n219 Tryd.prog Tryd.lays219_ren := {
  mixed := by kernel_rfl
  f217 := Tryd.func45.trans (congrArg some (by kernel_rfl))
  f219 := Tryd.func43.trans (congrArg some (by kernel_rfl))
  f224 := Tryd.func47.trans (congrArg some (by kernel_rfl))
  f225 := Tryd.func46.trans (congrArg some (by kernel_rfl))
  f266 := Tryd.func49.trans (congrArg some (by kernel_rfl))
  f267 := Tryd.func48.trans (congrArg some (by kernel_rfl))
  f314 := Tryd.func50.trans (congrArg some (by kernel_rfl))
  t3 := Tryd.underlying3
  a3 := Tryd.isAgg3
  z3 := Tryd.sizeOf3
  v3 := Tryd.zeroValue3
  t4 := Tryd.underlying4
  a4 := Tryd.isAgg4
  z4 := Tryd.sizeOf4
  v4 := Tryd.zeroValue4
  t5 := Tryd.underlying5
  a5 := Tryd.isAgg5
  z5 := Tryd.sizeOf5
  v5 := Tryd.zeroValue5
  t9 := Tryd.underlying9
  a9 := Tryd.isAgg9
  z9 := Tryd.sizeOf9
  v9 := Tryd.zeroValue9
  t46 := Tryd.underlying58
  a46 := Tryd.isAgg58
  z46 := Tryd.sizeOf58
  v46 := Tryd.zeroValue58
  t51 := Tryd.underlying63
  a51 := Tryd.isAgg63
  z51 := Tryd.sizeOf63
  v51 := Tryd.zeroValue63
  t146 := Tryd.underlying64
  a146 := Tryd.isAgg64
  z146 := Tryd.sizeOf64
  v146 := Tryd.zeroValue64
  g1 := by kernel_rfl }
open Go.RowKit Go.Lib in
/-- internal/stringslite.Index (what strings.Index calls) AT A substr OF ONE BYTE c: IT RETURNS 'Lib.indexByte s c'; the world is as it was. (LAID: no walk: one application.) -/
theorem Tryd.stringslite_Index_one (s : ByteArray) (c : UInt8) (w : World) :
    Calls Tryd.prog 43 #[.string s, .string ⟨#[c]⟩] w fun e w' => e = .returned (.int .i64 (Lib.indexByte s.data.toList c)) ∧ w' = w := Any.stringslite_Index_one Tryd.lays219 s c w
open Go.RowKit Go.Lib in
/-- internal/stringslite.Index (what strings.Index calls) AT A substr OF WHATEVER LENGTH: IT RETURNS 'Lib.index s substr'; the world is as it was. 'm': what internal/bytealg.MaxLen holds: whatever. (LAID: no walk: one application.) -/
theorem Tryd.stringslite_Index (s sub : ByteArray) (m : Int) (w : World) (hs : s.size < 4294967281) (hm : w.cell? ⟨0, 0, none⟩ = some (.int .i64 m)) :
    Calls Tryd.prog 43 #[.string s, .string sub] w fun e w' => e = .returned (.int .i64 (Lib.index s.data.toList sub.data.toList)) ∧ w' = w := Any.stringslite_Index Tryd.lays219 s sub m w hs hm
def Tryd.lays143_ren : Go.Shelf.Ren := ⟨fun | 143 => 39 | 219 => 43 | 217 => 45 | 225 => 46 | 224 => 47 | 267 => 48 | 266 => 49 | 314 => 50 | n => n, fun | 9 => 9 | 3 => 3 | 4 => 4 | 5 => 5 | 46 => 58 | 146 => 64 | 51 => 63 | n => n, fun | 1 => 0 | n => n⟩
theorem Tryd.lays143 : Go.Proofs.Lays.n143 Tryd.prog Tryd.lays143_ren := {
  mixed := by kernel_rfl
  f143 := Tryd.func39.trans (congrArg some (by kernel_rfl))
  f217 := Tryd.func45.trans (congrArg some (by kernel_rfl))
  f219 := Tryd.func43.trans (congrArg some (by kernel_rfl))
  f224 := Tryd.func47.trans (congrArg some (by kernel_rfl))
  f225 := Tryd.func46.trans (congrArg some (by kernel_rfl))
  f266 := Tryd.func49.trans (congrArg some (by kernel_rfl))
  f267 := Tryd.func48.trans (congrArg some (by kernel_rfl))
  f314 := Tryd.func50.trans (congrArg some (by kernel_rfl))
  t3 := Tryd.underlying3
  a3 := Tryd.isAgg3
  z3 := Tryd.sizeOf3
  v3 := Tryd.zeroValue3
  t4 := Tryd.underlying4
  a4 := Tryd.isAgg4
  z4 := Tryd.sizeOf4
  v4 := Tryd.zeroValue4
  t5 := Tryd.underlying5
  a5 := Tryd.isAgg5
  z5 := Tryd.sizeOf5
  v5 := Tryd.zeroValue5
  t9 := Tryd.underlying9
  a9 := Tryd.isAgg9
  z9 := Tryd.sizeOf9
  v9 := Tryd.zeroValue9
  t46 := Tryd.underlying58
  a46 := Tryd.isAgg58
  z46 := Tryd.sizeOf58
  v46 := Tryd.zeroValue58
  t51 := Tryd.underlying63
  a51 := Tryd.isAgg63
  z51 := Tryd.sizeOf63
  v51 := Tryd.zeroValue63
  t146 := Tryd.underlying64
  a146 := Tryd.isAgg64
  z146 := Tryd.sizeOf64
  v146 := Tryd.zeroValue64
  g1 := by kernel_rfl }
open Go.RowKit Go.Lib in
/-- strings.Index: "Index returns the index of the first instance of substr in s, or -1 if substr is not present in s.": AT A substr OF ONE BYTE c: IT RETURNS 'Lib.indexByte s c'; the world is as it was. (LAID: no walk: one application.) -/
theorem Tryd.strings_Index_one (s : ByteArray) (c : UInt8) (w : World) :
    Calls Tryd.prog 39 #[.string s, .string ⟨#[c]⟩] w fun e w' => e = .returned (.int .i64 (Lib.indexByte s.data.toList c)) ∧ w' = w := Any.strings_Index_one Tryd.lays143 s c w
open Go.RowKit Go.Lib in
/-- strings.Index: "Index returns the index of the first instance of substr in s, or -1 if substr is not present in s.": IT RETURNS 'Lib.index s substr'; the world is as it was. (LAID: no walk: one application.) -/
theorem Tryd.strings_Index (s sub : ByteArray) (m : Int) (w : World) (hs : s.size < 4294967281) (hm : w.cell? ⟨0, 0, none⟩ = some (.int .i64 m)) :
    Calls Tryd.prog 39 #[.string s, .string sub] w fun e w' => e = .returned (.int .i64 (Lib.index s.data.toList sub.data.toList)) ∧ w' = w := Any.strings_Index Tryd.lays143 s sub m w hs hm
def Tryd.lays138_ren : Go.Shelf.Ren := ⟨fun | 138 => 38 | 195 => 40 | 218 => 42 | 143 => 39 | 219 => 43 | 217 => 45 | 225 => 46 | 224 => 47 | 267 => 48 | 266 => 49 | 314 => 50 | n => n, fun | 9 => 9 | 3 => 3 | 4 => 4 | 5 => 5 | 0 => 0 | 46 => 58 | 146 => 64 | 51 => 63 | n => n, fun | 1 => 0 | n => n⟩
theorem Tryd.lays138 : Go.Proofs.Lays.n138 Tryd.prog Tryd.lays138_ren := {
  mixed := by kernel_rfl
  f138 := Tryd.func38.trans (congrArg some (by kernel_rfl))
  f143 := Tryd.func39.trans (congrArg some (by kernel_rfl))
  f195 := Tryd.func40.trans (congrArg some (by kernel_rfl))
  f217 := Tryd.func45.trans (congrArg some (by kernel_rfl))
  f218 := Tryd.func42.trans (congrArg some (by kernel_rfl))
  f219 := Tryd.func43.trans (congrArg some (by kernel_rfl))
  f224 := Tryd.func47.trans (congrArg some (by kernel_rfl))
  f225 := Tryd.func46.trans (congrArg some (by kernel_rfl))
  f266 := Tryd.func49.trans (congrArg some (by kernel_rfl))
  f267 := Tryd.func48.trans (congrArg some (by kernel_rfl))
  f314 := Tryd.func50.trans (congrArg some (by kernel_rfl))
  t0 := Tryd.underlying0
  a0 := Tryd.isAgg0
  z0 := Tryd.sizeOf0
  v0 := Tryd.zeroValue0
  t3 := Tryd.underlying3
  a3 := Tryd.isAgg3
  z3 := Tryd.sizeOf3
  v3 := Tryd.zeroValue3
  t4 := Tryd.underlying4
  a4 := Tryd.isAgg4
  z4 := Tryd.sizeOf4
  v4 := Tryd.zeroValue4
  t5 := Tryd.underlying5
  a5 := Tryd.isAgg5
  z5 := Tryd.sizeOf5
  v5 := Tryd.zeroValue5
  t9 := Tryd.underlying9
  a9 := Tryd.isAgg9
  z9 := Tryd.sizeOf9
  v9 := Tryd.zeroValue9
  t46 := Tryd.underlying58
  a46 := Tryd.isAgg58
  z46 := Tryd.sizeOf58
  v46 := Tryd.zeroValue58
  t51 := Tryd.underlying63
  a51 := Tryd.isAgg63
  z51 := Tryd.sizeOf63
  v51 := Tryd.zeroValue63
  t146 := Tryd.underlying64
  a146 := Tryd.isAgg64
  z146 := Tryd.sizeOf64
  v146 := Tryd.zeroValue64
  g1 := by kernel_rfl }
open Go.RowKit Go.Lib in
/-- strings.Count AT A substr OF ONE BYTE ('hp'): "Count counts the number of non-overlapping instances of substr in s.": IT RETURNS 'Lib.countByte s (that byte)'; the world is as it was. ✋ NO CONTRACT HERE YET at an empty substr (utf8.RuneCountInString) or at a longer one (a loop over strings.Index). (LAID: no walk: one application.) -/
theorem Tryd.strings_Count_one (s : ByteArray) (c : UInt8) (w : World) :
    Calls Tryd.prog 38 #[.string s, .string ⟨#[c]⟩] w fun e w' => e = .returned (.int .i64 (Lib.countByte s.data.toList c)) ∧ w' = w := Any.strings_Count_one Tryd.lays138 s c w
open Go.RowKit Go.Lib in
/-- strings.Count AT A substr OF TWO BYTES OR MORE: "Count counts the number of non-overlapping instances of substr in s.": IT RETURNS 'Lib.count s substr'; the world is as it was. (LAID: no walk: one application.) -/
theorem Tryd.strings_Count (s sub : ByteArray) (m : Int) (w : World) (hs : s.size < 4294967281) (hm : w.cell? ⟨0, 0, none⟩ = some (.int .i64 m)) (h2 : 2 ≤ sub.size) :
    Calls Tryd.prog 38 #[.string s, .string sub] w fun e w' => e = .returned (.int .i64 (Lib.countB s sub)) ∧ w' = w := Any.strings_Count Tryd.lays138 s sub m w hs hm h2
def Tryd.laysM219_ren : Go.Shelf.Ren := ⟨fun | 219 => 43 | 217 => 45 | 225 => 46 | 224 => 47 | 267 => 48 | 266 => 49 | 314 => 50 | n => n, fun | 9 => 9 | 3 => 3 | 4 => 4 | 5 => 5 | 46 => 58 | 146 => 64 | 51 => 63 | n => n, fun | 1 => 0 | n => n⟩
theorem Tryd.laysM219 : Go.Proofs.LaysM.n219 Tryd.prog Tryd.laysM219_ren := {
  mixed := by kernel_rfl
  f217 := Tryd.func45.trans (congrArg some (by kernel_rfl))
  f219 := Tryd.func43.trans (congrArg some (by kernel_rfl))
  f224 := Tryd.func47.trans (congrArg some (by kernel_rfl))
  f225 := Tryd.func46.trans (congrArg some (by kernel_rfl))
  f266 := Tryd.func49.trans (congrArg some (by kernel_rfl))
  f267 := Tryd.func48.trans (congrArg some (by kernel_rfl))
  f314 := Tryd.func50.trans (congrArg some (by kernel_rfl))
  t3 := Tryd.underlying3
  a3 := Tryd.isAgg3
  z3 := Tryd.sizeOf3
  v3 := Tryd.zeroValue3
  t4 := Tryd.underlying4
  a4 := Tryd.isAgg4
  z4 := Tryd.sizeOf4
  v4 := Tryd.zeroValue4
  t5 := Tryd.underlying5
  a5 := Tryd.isAgg5
  z5 := Tryd.sizeOf5
  v5 := Tryd.zeroValue5
  t9 := Tryd.underlying9
  a9 := Tryd.isAgg9
  z9 := Tryd.sizeOf9
  v9 := Tryd.zeroValue9
  t46 := Tryd.underlying58
  a46 := Tryd.isAgg58
  z46 := Tryd.sizeOf58
  v46 := Tryd.zeroValue58
  t51 := Tryd.underlying63
  a51 := Tryd.isAgg63
  z51 := Tryd.sizeOf63
  v51 := Tryd.zeroValue63
  t146 := Tryd.underlying64
  a146 := Tryd.isAgg64
  z146 := Tryd.sizeOf64
  v146 := Tryd.zeroValue64
  g1 := by kernel_rfl
  i3 := by kernel_rfl
  i4 := by kernel_rfl
  i5 := by kernel_rfl
  i9 := by kernel_rfl
  i46 := by kernel_rfl
  i51 := by kernel_rfl
  i146 := by kernel_rfl
  m1 := by kernel_rfl
  s1_3 := fun w h => Go.Proofs.cell_of_shapedOpen_int (zero := #[.int .i64 0]) (t := 3) h (of_decide_eq_true (by kernel_rfl)) (by kernel_rfl) rfl (by kernel_rfl) (by kernel_rfl) Tryd.underlying3 }
open Go.RowKit Go.Lib in
theorem Tryd.stringslite_Index_shaped (s sub : ByteArray) (w : World) (h : w.ShapedOpen Tryd.prog) (hs : s.size < 4294967281) :
    Calls Tryd.prog 43 #[.string s, .string sub] w fun e w' => e = .returned (.int .i64 (Lib.index s.data.toList sub.data.toList)) ∧ w' = w := Any.stringslite_Index_shaped Tryd.laysM219 s sub w h hs
def Tryd.laysM143_ren : Go.Shelf.Ren := ⟨fun | 143 => 39 | 219 => 43 | 217 => 45 | 225 => 46 | 224 => 47 | 267 => 48 | 266 => 49 | 314 => 50 | n => n, fun | 9 => 9 | 3 => 3 | 4 => 4 | 5 => 5 | 46 => 58 | 146 => 64 | 51 => 63 | n => n, fun | 1 => 0 | n => n⟩
theorem Tryd.laysM143 : Go.Proofs.LaysM.n143 Tryd.prog Tryd.laysM143_ren := {
  mixed := by kernel_rfl
  f143 := Tryd.func39.trans (congrArg some (by kernel_rfl))
  f217 := Tryd.func45.trans (congrArg some (by kernel_rfl))
  f219 := Tryd.func43.trans (congrArg some (by kernel_rfl))
  f224 := Tryd.func47.trans (congrArg some (by kernel_rfl))
  f225 := Tryd.func46.trans (congrArg some (by kernel_rfl))
  f266 := Tryd.func49.trans (congrArg some (by kernel_rfl))
  f267 := Tryd.func48.trans (congrArg some (by kernel_rfl))
  f314 := Tryd.func50.trans (congrArg some (by kernel_rfl))
  t3 := Tryd.underlying3
  a3 := Tryd.isAgg3
  z3 := Tryd.sizeOf3
  v3 := Tryd.zeroValue3
  t4 := Tryd.underlying4
  a4 := Tryd.isAgg4
  z4 := Tryd.sizeOf4
  v4 := Tryd.zeroValue4
  t5 := Tryd.underlying5
  a5 := Tryd.isAgg5
  z5 := Tryd.sizeOf5
  v5 := Tryd.zeroValue5
  t9 := Tryd.underlying9
  a9 := Tryd.isAgg9
  z9 := Tryd.sizeOf9
  v9 := Tryd.zeroValue9
  t46 := Tryd.underlying58
  a46 := Tryd.isAgg58
  z46 := Tryd.sizeOf58
  v46 := Tryd.zeroValue58
  t51 := Tryd.underlying63
  a51 := Tryd.isAgg63
  z51 := Tryd.sizeOf63
  v51 := Tryd.zeroValue63
  t146 := Tryd.underlying64
  a146 := Tryd.isAgg64
  z146 := Tryd.sizeOf64
  v146 := Tryd.zeroValue64
  g1 := by kernel_rfl
  i3 := by kernel_rfl
  i4 := by kernel_rfl
  i5 := by kernel_rfl
  i9 := by kernel_rfl
  i46 := by kernel_rfl
  i51 := by kernel_rfl
  i146 := by kernel_rfl
  m1 := by kernel_rfl
  s1_3 := fun w h => Go.Proofs.cell_of_shapedOpen_int (zero := #[.int .i64 0]) (t := 3) h (of_decide_eq_true (by kernel_rfl)) (by kernel_rfl) rfl (by kernel_rfl) (by kernel_rfl) Tryd.underlying3 }
open Go.RowKit Go.Lib in
theorem Tryd.strings_Index_shaped (s sub : ByteArray) (w : World) (h : w.ShapedOpen Tryd.prog) (hs : s.size < 4294967281) :
    Calls Tryd.prog 39 #[.string s, .string sub] w fun e w' => e = .returned (.int .i64 (Lib.index s.data.toList sub.data.toList)) ∧ w' = w := Any.strings_Index_shaped Tryd.laysM143 s sub w h hs
def Tryd.laysM138_ren : Go.Shelf.Ren := ⟨fun | 138 => 38 | 195 => 40 | 218 => 42 | 143 => 39 | 219 => 43 | 217 => 45 | 225 => 46 | 224 => 47 | 267 => 48 | 266 => 49 | 314 => 50 | n => n, fun | 9 => 9 | 3 => 3 | 4 => 4 | 5 => 5 | 0 => 0 | 46 => 58 | 146 => 64 | 51 => 63 | n => n, fun | 1 => 0 | n => n⟩
theorem Tryd.laysM138 : Go.Proofs.LaysM.n138 Tryd.prog Tryd.laysM138_ren := {
  mixed := by kernel_rfl
  f138 := Tryd.func38.trans (congrArg some (by kernel_rfl))
  f143 := Tryd.func39.trans (congrArg some (by kernel_rfl))
  f195 := Tryd.func40.trans (congrArg some (by kernel_rfl))
  f217 := Tryd.func45.trans (congrArg some (by kernel_rfl))
  f218 := Tryd.func42.trans (congrArg some (by kernel_rfl))
  f219 := Tryd.func43.trans (congrArg some (by kernel_rfl))
  f224 := Tryd.func47.trans (congrArg some (by kernel_rfl))
  f225 := Tryd.func46.trans (congrArg some (by kernel_rfl))
  f266 := Tryd.func49.trans (congrArg some (by kernel_rfl))
  f267 := Tryd.func48.trans (congrArg some (by kernel_rfl))
  f314 := Tryd.func50.trans (congrArg some (by kernel_rfl))
  t0 := Tryd.underlying0
  a0 := Tryd.isAgg0
  z0 := Tryd.sizeOf0
  v0 := Tryd.zeroValue0
  t3 := Tryd.underlying3
  a3 := Tryd.isAgg3
  z3 := Tryd.sizeOf3
  v3 := Tryd.zeroValue3
  t4 := Tryd.underlying4
  a4 := Tryd.isAgg4
  z4 := Tryd.sizeOf4
  v4 := Tryd.zeroValue4
  t5 := Tryd.underlying5
  a5 := Tryd.isAgg5
  z5 := Tryd.sizeOf5
  v5 := Tryd.zeroValue5
  t9 := Tryd.underlying9
  a9 := Tryd.isAgg9
  z9 := Tryd.sizeOf9
  v9 := Tryd.zeroValue9
  t46 := Tryd.underlying58
  a46 := Tryd.isAgg58
  z46 := Tryd.sizeOf58
  v46 := Tryd.zeroValue58
  t51 := Tryd.underlying63
  a51 := Tryd.isAgg63
  z51 := Tryd.sizeOf63
  v51 := Tryd.zeroValue63
  t146 := Tryd.underlying64
  a146 := Tryd.isAgg64
  z146 := Tryd.sizeOf64
  v146 := Tryd.zeroValue64
  g1 := by kernel_rfl
  i0 := by kernel_rfl
  i3 := by kernel_rfl
  i4 := by kernel_rfl
  i5 := by kernel_rfl
  i9 := by kernel_rfl
  i46 := by kernel_rfl
  i51 := by kernel_rfl
  i146 := by kernel_rfl
  m1 := by kernel_rfl
  s1_3 := fun w h => Go.Proofs.cell_of_shapedOpen_int (zero := #[.int .i64 0]) (t := 3) h (of_decide_eq_true (by kernel_rfl)) (by kernel_rfl) rfl (by kernel_rfl) (by kernel_rfl) Tryd.underlying3 }
open Go.RowKit Go.Lib in
theorem Tryd.strings_Count_shaped (s sub : ByteArray) (w : World) (h : w.ShapedOpen Tryd.prog) (hs : s.size < 4294967281) (h2 : 2 ≤ sub.size) :
    Calls Tryd.prog 38 #[.string s, .string sub] w fun e w' => e = .returned (.int .i64 (Lib.countB s sub)) ∧ w' = w := Any.strings_Count_shaped Tryd.laysM138 s sub w h hs h2
def Tryd.lays206_ren : Go.Shelf.Ren := ⟨fun | 206 => 31 | n => n, fun | 9 => 9 | 4 => 4 | 3 => 3 | n => n, fun | n => n⟩
theorem Tryd.lays206 : Go.Proofs.Lays.n206 Tryd.prog Tryd.lays206_ren := {
  mixed := by kernel_rfl
  f206 := Tryd.func31.trans (congrArg some (by kernel_rfl))
  t3 := Tryd.underlying3
  a3 := Tryd.isAgg3
  z3 := Tryd.sizeOf3
  v3 := Tryd.zeroValue3
  t4 := Tryd.underlying4
  a4 := Tryd.isAgg4
  z4 := Tryd.sizeOf4
  v4 := Tryd.zeroValue4
  t9 := Tryd.underlying9
  a9 := Tryd.isAgg9
  z9 := Tryd.sizeOf9
  v9 := Tryd.zeroValue9 }
open Go.RowKit Go.Lib in
/-- internal/stringslite.HasPrefix (what strings.HasPrefix calls). (LAID: no walk: one application.) -/
theorem Tryd.stringslite_HasPrefix (s p : ByteArray) (w : World) :
    Calls Tryd.prog 31 #[.string s, .string p] w fun e w' => e = .returned (.bool (Lib.hasPrefix s.data.toList p.data.toList)) ∧ w' = w := Any.stringslite_HasPrefix Tryd.lays206 s p w
def Tryd.lays99_ren : Go.Shelf.Ren := ⟨fun | 99 => 23 | 206 => 31 | n => n, fun | 9 => 9 | 4 => 4 | 3 => 3 | n => n, fun | n => n⟩
theorem Tryd.lays99 : Go.Proofs.Lays.n99 Tryd.prog Tryd.lays99_ren := {
  mixed := by kernel_rfl
  f99 := Tryd.func23.trans (congrArg some (by kernel_rfl))
  f206 := Tryd.func31.trans (congrArg some (by kernel_rfl))
  t3 := Tryd.underlying3
  a3 := Tryd.isAgg3
  z3 := Tryd.sizeOf3
  v3 := Tryd.zeroValue3
  t4 := Tryd.underlying4
  a4 := Tryd.isAgg4
  z4 := Tryd.sizeOf4
  v4 := Tryd.zeroValue4
  t9 := Tryd.underlying9
  a9 := Tryd.isAgg9
  z9 := Tryd.sizeOf9
  v9 := Tryd.zeroValue9 }
open Go.RowKit Go.Lib in
/-- strings.HasPrefix: "HasPrefix reports whether the string s begins with prefix.": IT RETURNS 'Lib.hasPrefix s prefix'; the world is as it was. (LAID: no walk: one application.) -/
theorem Tryd.strings_HasPrefix (s p : ByteArray) (w : World) :
    Calls Tryd.prog 23 #[.string s, .string p] w fun e w' => e = .returned (.bool (Lib.hasPrefix s.data.toList p.data.toList)) ∧ w' = w := Any.strings_HasPrefix Tryd.lays99 s p w
open Go.RowKit Go.Lib in
/-- strings.Count at whatever sep that is not empty: the two roads under one statement. (LAID: no walk: one application.) -/
theorem Tryd.strings_Count_any (s sep : ByteArray) (m : Int) (w : World) (hs : s.size < 4294967281) (hm : w.cell? ⟨0, 0, none⟩ = some (.int .i64 m)) (h1 : 1 ≤ sep.size) :
    Calls Tryd.prog 38 #[.string s, .string sep] w fun e w' => e = .returned (.int .i64 (Lib.countB s sep)) ∧ w' = w := Any.strings_Count_any Tryd.lays138 s sep m w hs hm h1
def Tryd.lays221_ren : Go.Shelf.Ren := ⟨fun | 221 => 36 | 268 => 37 | 138 => 38 | 143 => 39 | 195 => 40 | 197 => 41 | 218 => 42 | 219 => 43 | 260 => 44 | 217 => 45 | 225 => 46 | 224 => 47 | 267 => 48 | 266 => 49 | 314 => 50 | n => n, fun | 9 => 9 | 3 => 3 | 31 => 40 | 4 => 4 | 0 => 0 | 105 => 54 | 21 => 21 | 5 => 5 | 46 => 58 | 119 => 59 | 139 => 62 | 138 => 61 | 146 => 64 | 51 => 63 | n => n, fun | 1 => 0 | 3 => 1 | 4 => 2 | n => n⟩
theorem Tryd.lays221 : Go.Proofs.Lays.n221 Tryd.prog Tryd.lays221_ren := {
  mixed := by kernel_rfl
  f138 := Tryd.func38.trans (congrArg some (by kernel_rfl))
  f143 := Tryd.func39.trans (congrArg some (by kernel_rfl))
  f195 := Tryd.func40.trans (congrArg some (by kernel_rfl))
  f197 := Tryd.func41.trans (congrArg some (by kernel_rfl))
  f217 := Tryd.func45.trans (congrArg some (by kernel_rfl))
  f218 := Tryd.func42.trans (congrArg some (by kernel_rfl))
  f219 := Tryd.func43.trans (congrArg some (by kernel_rfl))
  f221 := Tryd.func36.trans (congrArg some (by kernel_rfl))
  f224 := Tryd.func47.trans (congrArg some (by kernel_rfl))
  f225 := Tryd.func46.trans (congrArg some (by kernel_rfl))
  f260 := Tryd.func44.trans (congrArg some (by kernel_rfl))
  f266 := Tryd.func49.trans (congrArg some (by kernel_rfl))
  f267 := Tryd.func48.trans (congrArg some (by kernel_rfl))
  f268 := Tryd.func37.trans (congrArg some (by kernel_rfl))
  f314 := Tryd.func50.trans (congrArg some (by kernel_rfl))
  t0 := Tryd.underlying0
  a0 := Tryd.isAgg0
  z0 := Tryd.sizeOf0
  v0 := Tryd.zeroValue0
  t3 := Tryd.underlying3
  a3 := Tryd.isAgg3
  z3 := Tryd.sizeOf3
  v3 := Tryd.zeroValue3
  t4 := Tryd.underlying4
  a4 := Tryd.isAgg4
  z4 := Tryd.sizeOf4
  v4 := Tryd.zeroValue4
  t5 := Tryd.underlying5
  a5 := Tryd.isAgg5
  z5 := Tryd.sizeOf5
  v5 := Tryd.zeroValue5
  t9 := Tryd.underlying9
  a9 := Tryd.isAgg9
  z9 := Tryd.sizeOf9
  v9 := Tryd.zeroValue9
  t21 := Tryd.underlying21
  a21 := Tryd.isAgg21
  z21 := Tryd.sizeOf21
  v21 := Tryd.zeroValue21
  t31 := Tryd.underlying40
  a31 := Tryd.isAgg40
  z31 := Tryd.sizeOf40
  v31 := Tryd.zeroValue40
  t46 := Tryd.underlying58
  a46 := Tryd.isAgg58
  z46 := Tryd.sizeOf58
  v46 := Tryd.zeroValue58
  t51 := Tryd.underlying63
  a51 := Tryd.isAgg63
  z51 := Tryd.sizeOf63
  v51 := Tryd.zeroValue63
  t105 := Tryd.underlying54
  a105 := Tryd.isAgg54
  z105 := Tryd.sizeOf54
  v105 := Tryd.zeroValue54
  t119 := Tryd.underlying59
  a119 := Tryd.isAgg59
  z119 := Tryd.sizeOf59
  t138 := Tryd.underlying61
  a138 := Tryd.isAgg61
  z138 := Tryd.sizeOf61
  v138 := Tryd.zeroValue61
  t139 := Tryd.underlying62
  a139 := Tryd.isAgg62
  z139 := Tryd.sizeOf62
  v139 := Tryd.zeroValue62
  t146 := Tryd.underlying64
  a146 := Tryd.isAgg64
  z146 := Tryd.sizeOf64
  v146 := Tryd.zeroValue64
  g1 := by kernel_rfl
  g3 := by kernel_rfl
  g4 := by kernel_rfl }
open Go.RowKit Go.Lib in
theorem Tryd.strings_genSplit (s sep : ByteArray) (sv : Nat) (n : Int) (N : Nat) (m : Int) (w : World) (hs : s.size < 4294967281) (hm : w.cell? ⟨0, 0, none⟩ = some (.int .i64 m)) (h1 : 1 ≤ sep.size) (hsv : sv ≤ sep.size) (hn0 : n ≠ 0) (hn63 : n ≤ 9223372036854775807) (hN : (N : Int) = min (if n < 0 then (Lib.countB s sep : Int) + 1 else n) ((s.size : Int) + 1)) :
    Calls Tryd.prog 36 #[.string s, .string sep, .int .i64 sv, .int .i64 n] w fun e w' =>
      e = .returned (.slice (some ⟨w.heap.size, 0, none⟩) (Lib.splitB sep sv (N - 1) s).length N) ∧ w' = w.alloc (.cells (Lib.cellsOf (Lib.splitB sep sv (N - 1) s) N) 9) := Any.strings_genSplit Tryd.lays221 (by kernel_rfl) s sep sv n N m w hs hm h1 hsv hn0 hn63 hN
def Tryd.lays146_ren : Go.Shelf.Ren := ⟨fun | 146 => 32 | 221 => 36 | 268 => 37 | 138 => 38 | 143 => 39 | 195 => 40 | 197 => 41 | 218 => 42 | 219 => 43 | 260 => 44 | 217 => 45 | 225 => 46 | 224 => 47 | 267 => 48 | 266 => 49 | 314 => 50 | n => n, fun | 9 => 9 | 31 => 40 | 3 => 3 | 4 => 4 | 0 => 0 | 105 => 54 | 21 => 21 | 5 => 5 | 46 => 58 | 119 => 59 | 139 => 62 | 138 => 61 | 146 => 64 | 51 => 63 | n => n, fun | 1 => 0 | 3 => 1 | 4 => 2 | n => n⟩
theorem Tryd.lays146 : Go.Proofs.Lays.n146 Tryd.prog Tryd.lays146_ren := {
  mixed := by kernel_rfl
  f138 := Tryd.func38.trans (congrArg some (by kernel_rfl))
  f143 := Tryd.func39.trans (congrArg some (by kernel_rfl))
  f146 := Tryd.func32.trans (congrArg some (by kernel_rfl))
  f195 := Tryd.func40.trans (congrArg some (by kernel_rfl))
  f197 := Tryd.func41.trans (congrArg some (by kernel_rfl))
  f217 := Tryd.func45.trans (congrArg some (by kernel_rfl))
  f218 := Tryd.func42.trans (congrArg some (by kernel_rfl))
  f219 := Tryd.func43.trans (congrArg some (by kernel_rfl))
  f221 := Tryd.func36.trans (congrArg some (by kernel_rfl))
  f224 := Tryd.func47.trans (congrArg some (by kernel_rfl))
  f225 := Tryd.func46.trans (congrArg some (by kernel_rfl))
  f260 := Tryd.func44.trans (congrArg some (by kernel_rfl))
  f266 := Tryd.func49.trans (congrArg some (by kernel_rfl))
  f267 := Tryd.func48.trans (congrArg some (by kernel_rfl))
  f268 := Tryd.func37.trans (congrArg some (by kernel_rfl))
  f314 := Tryd.func50.trans (congrArg some (by kernel_rfl))
  t0 := Tryd.underlying0
  a0 := Tryd.isAgg0
  z0 := Tryd.sizeOf0
  v0 := Tryd.zeroValue0
  t3 := Tryd.underlying3
  a3 := Tryd.isAgg3
  z3 := Tryd.sizeOf3
  v3 := Tryd.zeroValue3
  t4 := Tryd.underlying4
  a4 := Tryd.isAgg4
  z4 := Tryd.sizeOf4
  v4 := Tryd.zeroValue4
  t5 := Tryd.underlying5
  a5 := Tryd.isAgg5
  z5 := Tryd.sizeOf5
  v5 := Tryd.zeroValue5
  t9 := Tryd.underlying9
  a9 := Tryd.isAgg9
  z9 := Tryd.sizeOf9
  v9 := Tryd.zeroValue9
  t21 := Tryd.underlying21
  a21 := Tryd.isAgg21
  z21 := Tryd.sizeOf21
  v21 := Tryd.zeroValue21
  t31 := Tryd.underlying40
  a31 := Tryd.isAgg40
  z31 := Tryd.sizeOf40
  v31 := Tryd.zeroValue40
  t46 := Tryd.underlying58
  a46 := Tryd.isAgg58
  z46 := Tryd.sizeOf58
  v46 := Tryd.zeroValue58
  t51 := Tryd.underlying63
  a51 := Tryd.isAgg63
  z51 := Tryd.sizeOf63
  v51 := Tryd.zeroValue63
  t105 := Tryd.underlying54
  a105 := Tryd.isAgg54
  z105 := Tryd.sizeOf54
  v105 := Tryd.zeroValue54
  t119 := Tryd.underlying59
  a119 := Tryd.isAgg59
  z119 := Tryd.sizeOf59
  t138 := Tryd.underlying61
  a138 := Tryd.isAgg61
  z138 := Tryd.sizeOf61
  v138 := Tryd.zeroValue61
  t139 := Tryd.underlying62
  a139 := Tryd.isAgg62
  z139 := Tryd.sizeOf62
  v139 := Tryd.zeroValue62
  t146 := Tryd.underlying64
  a146 := Tryd.isAgg64
  z146 := Tryd.sizeOf64
  v146 := Tryd.zeroValue64
  g1 := by kernel_rfl
  g3 := by kernel_rfl
  g4 := by kernel_rfl }
open Go.RowKit Go.Lib in
/-- strings.Split. (LAID: no walk: one application.) -/
theorem Tryd.strings_Split (s sep : ByteArray) (m : Int) (w : World) (hs : s.size < 4294967281) (hm : w.cell? ⟨0, 0, none⟩ = some (.int .i64 m)) (h1 : 1 ≤ sep.size) :
    Calls Tryd.prog 32 #[.string s, .string sep] w fun e w' =>
      e = .returned (.slice (some ⟨w.heap.size, 0, none⟩) (Lib.countB s sep + 1) (Lib.countB s sep + 1)) ∧ w' = w.alloc (.cells ((Lib.splitB sep 0 (Lib.countB s sep) s).map Value.string).toArray 9) := Any.strings_Split Tryd.lays146 (by kernel_rfl) s sep m w hs hm h1
def Tryd.laysM146_ren : Go.Shelf.Ren := ⟨fun | 146 => 32 | 221 => 36 | 268 => 37 | 138 => 38 | 143 => 39 | 195 => 40 | 197 => 41 | 218 => 42 | 219 => 43 | 260 => 44 | 217 => 45 | 225 => 46 | 224 => 47 | 267 => 48 | 266 => 49 | 314 => 50 | n => n, fun | 9 => 9 | 31 => 40 | 3 => 3 | 4 => 4 | 0 => 0 | 105 => 54 | 21 => 21 | 5 => 5 | 46 => 58 | 119 => 59 | 139 => 62 | 138 => 61 | 146 => 64 | 51 => 63 | n => n, fun | 1 => 0 | 3 => 1 | 4 => 2 | n => n⟩
theorem Tryd.laysM146 : Go.Proofs.LaysM.n146 Tryd.prog Tryd.laysM146_ren := {
  mixed := by kernel_rfl
  f138 := Tryd.func38.trans (congrArg some (by kernel_rfl))
  f143 := Tryd.func39.trans (congrArg some (by kernel_rfl))
  f146 := Tryd.func32.trans (congrArg some (by kernel_rfl))
  f195 := Tryd.func40.trans (congrArg some (by kernel_rfl))
  f197 := Tryd.func41.trans (congrArg some (by kernel_rfl))
  f217 := Tryd.func45.trans (congrArg some (by kernel_rfl))
  f218 := Tryd.func42.trans (congrArg some (by kernel_rfl))
  f219 := Tryd.func43.trans (congrArg some (by kernel_rfl))
  f221 := Tryd.func36.trans (congrArg some (by kernel_rfl))
  f224 := Tryd.func47.trans (congrArg some (by kernel_rfl))
  f225 := Tryd.func46.trans (congrArg some (by kernel_rfl))
  f260 := Tryd.func44.trans (congrArg some (by kernel_rfl))
  f266 := Tryd.func49.trans (congrArg some (by kernel_rfl))
  f267 := Tryd.func48.trans (congrArg some (by kernel_rfl))
  f268 := Tryd.func37.trans (congrArg some (by kernel_rfl))
  f314 := Tryd.func50.trans (congrArg some (by kernel_rfl))
  t0 := Tryd.underlying0
  a0 := Tryd.isAgg0
  z0 := Tryd.sizeOf0
  v0 := Tryd.zeroValue0
  t3 := Tryd.underlying3
  a3 := Tryd.isAgg3
  z3 := Tryd.sizeOf3
  v3 := Tryd.zeroValue3
  t4 := Tryd.underlying4
  a4 := Tryd.isAgg4
  z4 := Tryd.sizeOf4
  v4 := Tryd.zeroValue4
  t5 := Tryd.underlying5
  a5 := Tryd.isAgg5
  z5 := Tryd.sizeOf5
  v5 := Tryd.zeroValue5
  t9 := Tryd.underlying9
  a9 := Tryd.isAgg9
  z9 := Tryd.sizeOf9
  v9 := Tryd.zeroValue9
  t21 := Tryd.underlying21
  a21 := Tryd.isAgg21
  z21 := Tryd.sizeOf21
  v21 := Tryd.zeroValue21
  t31 := Tryd.underlying40
  a31 := Tryd.isAgg40
  z31 := Tryd.sizeOf40
  v31 := Tryd.zeroValue40
  t46 := Tryd.underlying58
  a46 := Tryd.isAgg58
  z46 := Tryd.sizeOf58
  v46 := Tryd.zeroValue58
  t51 := Tryd.underlying63
  a51 := Tryd.isAgg63
  z51 := Tryd.sizeOf63
  v51 := Tryd.zeroValue63
  t105 := Tryd.underlying54
  a105 := Tryd.isAgg54
  z105 := Tryd.sizeOf54
  v105 := Tryd.zeroValue54
  t119 := Tryd.underlying59
  a119 := Tryd.isAgg59
  z119 := Tryd.sizeOf59
  t138 := Tryd.underlying61
  a138 := Tryd.isAgg61
  z138 := Tryd.sizeOf61
  v138 := Tryd.zeroValue61
  t139 := Tryd.underlying62
  a139 := Tryd.isAgg62
  z139 := Tryd.sizeOf62
  v139 := Tryd.zeroValue62
  t146 := Tryd.underlying64
  a146 := Tryd.isAgg64
  z146 := Tryd.sizeOf64
  v146 := Tryd.zeroValue64
  g1 := by kernel_rfl
  g3 := by kernel_rfl
  g4 := by kernel_rfl
  i0 := by kernel_rfl
  i3 := by kernel_rfl
  i4 := by kernel_rfl
  i5 := by kernel_rfl
  i9 := by kernel_rfl
  i21 := by kernel_rfl
  i31 := by kernel_rfl
  i46 := by kernel_rfl
  i51 := by kernel_rfl
  i105 := by kernel_rfl
  i138 := by kernel_rfl
  i139 := by kernel_rfl
  i146 := by kernel_rfl
  m1 := by kernel_rfl
  s1_3 := fun w h => Go.Proofs.cell_of_shapedOpen_int (zero := #[.int .i64 0]) (t := 3) h (of_decide_eq_true (by kernel_rfl)) (by kernel_rfl) rfl (by kernel_rfl) (by kernel_rfl) Tryd.underlying3
  m3 := by kernel_rfl
  m4 := by kernel_rfl }
open Go.RowKit Go.Lib in
/-- strings.Split, sep not empty. (LAID: no walk: one application.) -/
theorem Tryd.strings_Split_shaped (s sep : ByteArray) (w : World) (h : w.ShapedOpen Tryd.prog) (hs : s.size < 4294967281) (h1 : 1 ≤ sep.size) :
    Calls Tryd.prog 32 #[.string s, .string sep] w fun e w' =>
      e = .returned (.slice (some ⟨w.heap.size, 0, none⟩) (Lib.countB s sep + 1) (Lib.countB s sep + 1)) ∧ w' = w.alloc (.cells ((Lib.splitB sep 0 (Lib.countB s sep) s).map Value.string).toArray 9) := Any.strings_Split_shaped Tryd.laysM146 s sep w h hs h1
def Tryd.lays197_ren : Go.Shelf.Ren := ⟨fun | 197 => 41 | 260 => 44 | n => n, fun | 9 => 9 | 21 => 21 | 3 => 3 | 4 => 4 | 5 => 5 | 105 => 54 | 119 => 59 | 0 => 0 | 46 => 58 | 139 => 62 | 138 => 61 | n => n, fun | 3 => 1 | 4 => 2 | n => n⟩
theorem Tryd.lays197 : Go.Proofs.Lays.n197 Tryd.prog Tryd.lays197_ren := {
  mixed := by kernel_rfl
  f197 := Tryd.func41.trans (congrArg some (by kernel_rfl))
  f260 := Tryd.func44.trans (congrArg some (by kernel_rfl))
  t0 := Tryd.underlying0
  a0 := Tryd.isAgg0
  z0 := Tryd.sizeOf0
  v0 := Tryd.zeroValue0
  t3 := Tryd.underlying3
  a3 := Tryd.isAgg3
  z3 := Tryd.sizeOf3
  v3 := Tryd.zeroValue3
  t4 := Tryd.underlying4
  a4 := Tryd.isAgg4
  z4 := Tryd.sizeOf4
  v4 := Tryd.zeroValue4
  t5 := Tryd.underlying5
  a5 := Tryd.isAgg5
  z5 := Tryd.sizeOf5
  v5 := Tryd.zeroValue5
  t9 := Tryd.underlying9
  a9 := Tryd.isAgg9
  z9 := Tryd.sizeOf9
  v9 := Tryd.zeroValue9
  t21 := Tryd.underlying21
  a21 := Tryd.isAgg21
  z21 := Tryd.sizeOf21
  v21 := Tryd.zeroValue21
  t46 := Tryd.underlying58
  a46 := Tryd.isAgg58
  z46 := Tryd.sizeOf58
  v46 := Tryd.zeroValue58
  t105 := Tryd.underlying54
  a105 := Tryd.isAgg54
  z105 := Tryd.sizeOf54
  v105 := Tryd.zeroValue54
  t119 := Tryd.underlying59
  a119 := Tryd.isAgg59
  z119 := Tryd.sizeOf59
  t138 := Tryd.underlying61
  a138 := Tryd.isAgg61
  z138 := Tryd.sizeOf61
  v138 := Tryd.zeroValue61
  t139 := Tryd.underlying62
  a139 := Tryd.isAgg62
  z139 := Tryd.sizeOf62
  v139 := Tryd.zeroValue62
  g3 := by kernel_rfl
  g4 := by kernel_rfl }
open Go.RowKit Go.Lib in
/-- unicode/utf8.DecodeRuneInString: "DecodeRuneInString is like DecodeRune but its input is a string.": ("DecodeRune unpacks the first UTF-8 encoding in p and returns the rune and its width in bytes."): WHERE s BEGINS WITH AN ASCII BYTE x: (x, 1). (LAID: no walk: one application.) -/
theorem Tryd.utf8_DecodeRuneInString_ascii (s : ByteArray) (x : UInt8) (w : World) (h0 : s.data.toList[0]? = some x) (hx : x.toNat < 128) :
    Calls Tryd.prog 41 #[.string s] w fun e w' => e = .returned (.tuple #[.int .i32 x.toNat, .int .i64 1]) ∧ w' = w := Any.utf8_DecodeRuneInString_ascii Tryd.lays197 s x w h0 hx
open Go.RowKit Go.Lib in
theorem Tryd.utf8_RuneCountInString_ascii (s : ByteArray) (w : World) (hs : s.size < 4294967281) (hascii : ∀ (j : Nat) b, s.data.toList[j]? = some b → b.toNat < 128) :
    Calls Tryd.prog 40 #[.string s] w fun e w' => e = .returned (.int .i64 s.size) ∧ w' = w.iter s s.size := Any.utf8_RuneCountInString_ascii Tryd.lays195 s w hs hascii
def Tryd.lays268_ren : Go.Shelf.Ren := ⟨fun | 268 => 37 | 195 => 40 | 197 => 41 | 260 => 44 | n => n, fun | 9 => 9 | 3 => 3 | 31 => 40 | 4 => 4 | 105 => 54 | 21 => 21 | 0 => 0 | 5 => 5 | 119 => 59 | 46 => 58 | 139 => 62 | 138 => 61 | n => n, fun | 3 => 1 | 4 => 2 | n => n⟩
theorem Tryd.lays268 : Go.Proofs.Lays.n268 Tryd.prog Tryd.lays268_ren := {
  mixed := by kernel_rfl
  f195 := Tryd.func40.trans (congrArg some (by kernel_rfl))
  f197 := Tryd.func41.trans (congrArg some (by kernel_rfl))
  f260 := Tryd.func44.trans (congrArg some (by kernel_rfl))
  f268 := Tryd.func37.trans (congrArg some (by kernel_rfl))
  t0 := Tryd.underlying0
  a0 := Tryd.isAgg0
  z0 := Tryd.sizeOf0
  v0 := Tryd.zeroValue0
  t3 := Tryd.underlying3
  a3 := Tryd.isAgg3
  z3 := Tryd.sizeOf3
  v3 := Tryd.zeroValue3
  t4 := Tryd.underlying4
  a4 := Tryd.isAgg4
  z4 := Tryd.sizeOf4
  v4 := Tryd.zeroValue4
  t5 := Tryd.underlying5
  a5 := Tryd.isAgg5
  z5 := Tryd.sizeOf5
  v5 := Tryd.zeroValue5
  t9 := Tryd.underlying9
  a9 := Tryd.isAgg9
  z9 := Tryd.sizeOf9
  v9 := Tryd.zeroValue9
  t21 := Tryd.underlying21
  a21 := Tryd.isAgg21
  z21 := Tryd.sizeOf21
  v21 := Tryd.zeroValue21
  t31 := Tryd.underlying40
  a31 := Tryd.isAgg40
  z31 := Tryd.sizeOf40
  v31 := Tryd.zeroValue40
  t46 := Tryd.underlying58
  a46 := Tryd.isAgg58
  z46 := Tryd.sizeOf58
  v46 := Tryd.zeroValue58
  t105 := Tryd.underlying54
  a105 := Tryd.isAgg54
  z105 := Tryd.sizeOf54
  v105 := Tryd.zeroValue54
  t119 := Tryd.underlying59
  a119 := Tryd.isAgg59
  z119 := Tryd.sizeOf59
  t138 := Tryd.underlying61
  a138 := Tryd.isAgg61
  z138 := Tryd.sizeOf61
  v138 := Tryd.zeroValue61
  t139 := Tryd.underlying62
  a139 := Tryd.isAgg62
  z139 := Tryd.sizeOf62
  v139 := Tryd.zeroValue62
  g3 := by kernel_rfl
  g4 := by kernel_rfl }
open Go.RowKit Go.Lib in
theorem Tryd.strings_explode_all (s : ByteArray) (n : Int) (w : World) (hn : n < 0) (hs : s.size < 4294967281) (hascii : ∀ (j : Nat) b, s.data.toList[j]? = some b → b.toNat < 128) :
    Calls Tryd.prog 37 #[.string s, .int .i64 n] w fun e w' =>
      e = .returned (.slice (some ⟨(w.iter s s.size).heap.size, 0, none⟩) s.size s.size) ∧ w' = (w.iter s s.size).alloc (.cells ((Lib.charsB s).map Value.string).toArray 9) := Any.strings_explode_all Tryd.lays268 (by kernel_rfl) s n w hn hs hascii
open Go.RowKit Go.Lib in
/-- strings.genSplit at sep == "", n < 0: 'return explode(s, n)'. (LAID: no walk: one application.) -/
theorem Tryd.strings_genSplit_chars (s sep : ByteArray) (sv n : Int) (w : World) (h0 : sep.size = 0) (hn : n < 0) (hs : s.size < 4294967281) (hascii : ∀ (j : Nat) b, s.data.toList[j]? = some b → b.toNat < 128) :
    Calls Tryd.prog 36 #[.string s, .string sep, .int .i64 sv, .int .i64 n] w fun e w' =>
      e = .returned (.slice (some ⟨(w.iter s s.size).heap.size, 0, none⟩) s.size s.size) ∧ w' = (w.iter s s.size).alloc (.cells ((Lib.charsB s).map Value.string).toArray 9) := Any.strings_genSplit_chars Tryd.lays221 (by kernel_rfl) s sep sv n w h0 hn hs hascii
open Go.RowKit Go.Lib in
/-- strings.Split(s, ""), s ASCII: a piece a byte. (LAID: no walk: one application.) -/
theorem Tryd.strings_Split_chars (s sep : ByteArray) (w : World) (h0 : sep.size = 0) (hs : s.size < 4294967281) (hascii : ∀ (j : Nat) b, s.data.toList[j]? = some b → b.toNat < 128) :
    Calls Tryd.prog 32 #[.string s, .string sep] w fun e w' =>
      e = .returned (.slice (some ⟨(w.iter s s.size).heap.size, 0, none⟩) s.size s.size) ∧ w' = (w.iter s s.size).alloc (.cells ((Lib.charsB s).map Value.string).toArray 9) := Any.strings_Split_chars Tryd.lays146 (by kernel_rfl) s sep w h0 hs hascii
def Tryd.lays260_ren : Go.Shelf.Ren := ⟨fun | 260 => 44 | n => n, fun | 9 => 9 | 21 => 21 | 3 => 3 | 4 => 4 | 5 => 5 | 119 => 59 | 0 => 0 | 46 => 58 | 139 => 62 | 138 => 61 | n => n, fun | 3 => 1 | 4 => 2 | n => n⟩
theorem Tryd.lays260 : Go.Proofs.Lays.n260 Tryd.prog Tryd.lays260_ren := {
  mixed := by kernel_rfl
  f260 := Tryd.func44.trans (congrArg some (by kernel_rfl))
  t0 := Tryd.underlying0
  a0 := Tryd.isAgg0
  z0 := Tryd.sizeOf0
  v0 := Tryd.zeroValue0
  t3 := Tryd.underlying3
  a3 := Tryd.isAgg3
  z3 := Tryd.sizeOf3
  v3 := Tryd.zeroValue3
  t4 := Tryd.underlying4
  a4 := Tryd.isAgg4
  z4 := Tryd.sizeOf4
  v4 := Tryd.zeroValue4
  t5 := Tryd.underlying5
  a5 := Tryd.isAgg5
  z5 := Tryd.sizeOf5
  v5 := Tryd.zeroValue5
  t9 := Tryd.underlying9
  a9 := Tryd.isAgg9
  z9 := Tryd.sizeOf9
  v9 := Tryd.zeroValue9
  t21 := Tryd.underlying21
  a21 := Tryd.isAgg21
  z21 := Tryd.sizeOf21
  v21 := Tryd.zeroValue21
  t46 := Tryd.underlying58
  a46 := Tryd.isAgg58
  z46 := Tryd.sizeOf58
  v46 := Tryd.zeroValue58
  t119 := Tryd.underlying59
  a119 := Tryd.isAgg59
  z119 := Tryd.sizeOf59
  t138 := Tryd.underlying61
  a138 := Tryd.isAgg61
  z138 := Tryd.sizeOf61
  v138 := Tryd.zeroValue61
  t139 := Tryd.underlying62
  a139 := Tryd.isAgg62
  z139 := Tryd.sizeOf62
  v139 := Tryd.zeroValue62
  g3 := by kernel_rfl
  g4 := by kernel_rfl }
open Go.RowKit Go.Lib in
theorem Tryd.utf8_decodeRuneInStringSlow (s : ByteArray) (w : World) (hT : Lib.Utf8Tabs 1 2 w) :
    Calls Tryd.prog 44 #[.string s] w fun e w' => e = .returned (.tuple #[.int .i32 (Lib.decodeGo s).1, .int .i64 (Lib.decodeGo s).2]) ∧ Below w.heap.size w w' := Any.utf8_decodeRuneInStringSlow Tryd.lays260 s w hT
open Go.RowKit Go.Lib in
/-- **unicode/utf8.DecodeRuneInString AT EVERY STRING.** (LAID: no walk: one application.) -/
theorem Tryd.utf8_DecodeRuneInString (s : ByteArray) (w : World) (hT : Lib.Utf8Tabs 1 2 w) :
    Calls Tryd.prog 41 #[.string s] w fun e w' => e = .returned (.tuple #[.int .i32 (Lib.decodeGo s).1, .int .i64 (Lib.decodeGo s).2]) ∧ Below w.heap.size w w' := Any.utf8_DecodeRuneInString Tryd.lays197 s w hT
end Go.Proofs

namespace Go.Proofs.YtdemfgijfnicpaaDoor.Door
open Go Go.ChangeShapes Go.WideShapes Go.ChangeAt Go.RowKit
set_option linter.unusedVariables false

theorem own : ownKnob Tryd.prog.godebug = none := by kernel_rfl
theorem laidOut : laidOutB Tryd.prog = true := by kernel_rfl
def laidL : List (String × DataW Unit) := [("unicode/utf8.acceptRanges", Rows.laid_unicode_utf8_acceptRanges), ("unicode/utf8.first", Rows.laid_unicode_utf8_first)]

theorem handed {H : Type} {enc : TypeId × Value → H} {a : Assume} {C : Checked} {os : Os} {f : FuncId} {fn : Func} {s : ChangeSpec} {conds : List PathCond} {apart fresh handsOn again : Bool} {X : World → Array Value → Prop}
    (hX : ∀ (w w' : World) (args : Array Value), w.heap = w'.heap → X w args → X w' args)
    (own : ownKnob C.prog.godebug = none) (started : os.Started) (noInit : C.prog.inits.idxOf? f = none) (hfn : C.prog.funcs[f]? = some fn)
    (witness : ∃ (w : World) (tape : Tape) (i : Input), w.os = os ∧ (w.forCall tape i).Shaped C.prog ∧ i.vars = [] ∧ Input.okWide C.prog (w.forCall tape i) .any w.heap.size f i ∧
      ((s.pre enc C.prog fn conds apart (w.forCall tape i).memory i.args ∧ X (w.forCall tape i).memory i.args) ∧ sizedMet enc C.prog fn (OpenSpec.ofChange s) apart (w.forCall tape i).memory i.args) ∧ a.holds C.prog (lone (Frame.enter C.prog f i.args .normal) [] (w.forCall tape i)))
    (contract : ∀ (W : World) (base : Nat) (args : Array Value) (ds gs : List (DataW H)) (before : List MemPlace),
      (∀ (j : Nat) t v, fn.params[j]? = some t → args[j]? = some v → Value.okWide C.prog W .any base t v) →
      DataW.Whole enc C.prog fn.params.toList s.vars apart W args.toList ds gs before →
      (DataW.weightsEach C.prog (fn.params.toList ++ s.plain.varTypes C.prog) (ds ++ gs)).all (· ≤ reachBytes) = true → X W args → W.ShapedOpen C.prog →
      Calls C.prog f args W fun e W' => ∃ v, e = .returned v ∧ s.post enc C.prog fn apart fresh handsOn again W args v W') :
    ReturnsInHanded a C os f .any (fun w args => (s.pre enc C.prog fn conds apart w args ∧ X w args) ∧ sizedMet enc C.prog fn (OpenSpec.ofChange s) apart w args) (s.post enc C.prog fn apart fresh handsOn again) := by
  refine returnsInHanded_of_calls own started noInit witness ?_
  intro w tape i _ hsh _ hok hpre hholds
  obtain ⟨_, _, _, fn', hfn', _, _, _, _, hval⟩ := hok
  have e : fn' = fn := Option.some.inj (hfn'.symm.trans hfn)
  subst e
  obtain ⟨⟨⟨ds, gs, before, hw, hc⟩, hx⟩, hz⟩ := hpre
  have hw' := DataW.Whole.of_heap (w' := w.forCall tape i) (by rfl) hw
  refine (contract (w.forCall tape i) w.heap.size i.args ds gs before hval hw' (hz.weights hw) (hX _ _ _ (by rfl) hx) hsh).mono fun e W' ⟨v, he, hp⟩ => ?_
  subst he
  exact ChangeSpec.post_blind hp

set_option maxRecDepth 100000 in
theorem laid_met (os : Os) (args : Array Value) : laidMetH Tryd.prog laidL ((World.laidAll Tryd.prog os laidL).forCall (fun _ _ => 0) ⟨#[], args, []⟩).memory := by
  rw [MakeChecks.laidMetH_plain _ _ _ (by kernel_rfl)]
  exact laidMet_laidAll _ (by kernel_rfl) (by kernel_rfl)
/-- The variable internal/bytealg.MaxLen. -/
theorem maxLen_cell {W : World} (h : W.ShapedOpen Tryd.prog) : ∃ m : Int, W.cell? ⟨0, 0, none⟩ = some (.int .i64 m) :=
  Go.Proofs.cell_of_shapedOpen_int (P := Tryd.prog) (g := 0) (t := 3) (zero := #[.int .i64 0]) h (of_decide_eq_true (by kernel_rfl)) (by kernel_rfl) rfl (by kernel_rfl) (by kernel_rfl) Tryd.underlying3
theorem int_bounds {x : Int} (h : (Lit.int .i64 x).wf = true) : -9223372036854775808 ≤ x ∧ x ≤ 9223372036854775807 := by
  simp [Lit.wf, IntKind.min, IntKind.max, IntKind.signed, IntKind.bits] at h
  omega
end Go.Proofs.YtdemfgijfnicpaaDoor.Door

set_option linter.unusedVariables false
namespace Go.Proofs.YtdemfgijfnicpaaDoor.Laws
open Go Go.RowKit Go.Proofs.YtdemfgijfnicpaaDoorW.PrintWords

theorem own_ge {w : World} {base : Nat} {e : TypeId} {size n : Nat} {v : Value} {xs : List Value} (h : w.ownsRow base e size v n xs) (k : Nat) (hk : v.ownBlock = some k) : base ≤ k := own_base h k hk

theorem row_cells {w : World} {q : IntKind} {A : Option Addr} {l : List Int} (h : Kd.C (Kd.int q) w A l.length l) : 0 < l.length → ∃ ad, A = some ad ∧ ∀ j u, (nums q l)[j]? = some u → w.cell? (ad.add j) = some u := by
  intro hl
  obtain ⟨h1, h2, h3⟩ := Kd.reads_of_C (d := (0 : Int)) (h1 := fun _ => rfl) h
  obtain ⟨ad, e, hc⟩ := h3 hl
  refine ⟨ad, e, fun j u hj => ?_⟩
  have hjl : j < l.length := by
    have := (List.getElem?_eq_some_iff.1 hj).1
    simpa [nums] using this
  rw [hc j hjl]
  simp [nums, List.getD, hjl] at hj ⊢
  exact hj

theorem new_cells (w : World) (xs : List Value) (T : TypeId) (cs : Array Value) (h : cs = xs.toArray) : ∀ j u, xs[j]? = some u → (w.alloc (.cells cs T)).cell? ((⟨w.heap.size, 0, none⟩ : Addr).add j) = some u := by
  intro j u hj
  subst h
  rw [add_plain, World.cell?_alloc_at _ _ _ _ rfl]
  simpa using hj

/-- A row that was made, of whole numbers, as it is read. -/
theorem own_ints {w : World} {b : Nat} {e : TypeId} {q : IntKind} {v : Value} {n : Nat} {l : List Int} (h : w.ownsRow b e 1 v n (nums q l)) : ∃ L A c, Aside0 (L = l) ∧ v = .slice A L.length c ∧ Aside0 (L.length ≤ c) ∧ Aside0 (Kd.C (Kd.int q) w A L.length L) := by
  have hn : n = l.length := by have := h.1; simp [nums] at this; omega
  subst hn
  obtain ⟨A, c, h1, h2, h3⟩ := own_reads_of_le (d := (0 : Int)) (enc := Value.int q) h
  exact ⟨l, A, c, ⟨rfl⟩, h1, ⟨h2⟩, ⟨Kd.C_of_reads (d := (0 : Int)) (h1 := fun _ => rfl) h3⟩⟩

/-- A literal row of whole numbers in a new block, as it is read. -/
theorem lit_ints (w : World) (q : IntKind) (l : List Int) (T : TypeId) (cs : Array Value) (hcs : cs = (nums q l).toArray) (hl : l.length ≤ 9223372036854775807) :
    Kd.C (Kd.int q) (w.alloc (.cells cs T)) (some ⟨w.heap.size, 0, none⟩) l.length l := by
  subst hcs
  refine Kd.C_of_reads (d := (0 : Int)) (h1 := fun _ => rfl) ⟨rfl, hl, fun h0 => ⟨_, rfl, fun j hj => ?_⟩⟩
  rw [add_plain, World.cell?_alloc_at _ _ _ _ rfl]
  simp [nums, List.getD, hj]

theorem own_form {w : World} {base : Nat} {e : TypeId} {size n : Nat} {v : Value} {xs : List Value} (h : w.ownsRow base e size v n xs) (hn : 0 < n) : ∃ q k, v = .slice (some ⟨q, 0, none⟩) n k := by
  rcases h.2 with ⟨_, h0⟩ | ⟨g, cap, cur, h1, _⟩
  · omega
  · exact ⟨g, cap, h1⟩

/-- A row that was made, cell by cell. -/
theorem own_cells {w : World} {base : Nat} {e : TypeId} {n : Nat} {v : Value} {xs : List Value} (h : w.ownsRow base e 1 v n xs) (hn : 0 < n) : ∃ q c, v = .slice (some ⟨q, 0, none⟩) n c ∧ n ≤ c ∧ base ≤ q ∧ q < w.heap.size ∧ ∀ (j : Nat) x, xs[j]? = some x → w.cell? ⟨q, 0 + j, none⟩ = some x := by
  obtain ⟨h1, h2⟩ := h
  rcases h2 with ⟨_, h2⟩ | ⟨g, cap, cur, rfl, hg, hh, hc, hm, hs, ht⟩
  · omega
  · refine ⟨g, cap, rfl, hc, hg, blk_lt hh, fun j x hx => ?_⟩
    rw [Nat.zero_add, blk_cell hh, ← Array.getElem?_toList]
    rw [← ht] at hx
    have hj := (List.getElem?_eq_some_iff.1 hx).1
    rw [List.getElem?_take_of_lt (by simp at hj; omega)] at hx
    exact hx

section
variable {P : Program} {ops : Array Oper} {rest : List Oper} {o : Oper} {a : Act} {Q : Exit → Act → World → Prop} {w : World}

/-- Only at the operation that writes this slot. -/
theorem gate (d : Nat) (_h : o.dst = some d) (h : wpList P ops Q (o :: rest) a w) : wpList P ops Q (o :: rest) a w := h

/-- A guarded operation that is let run goes as if it had no guard. -/
theorem unguard (hw : Region.wanted o (yielded ops a.tmps) = true) (h : wpList P ops Q ({ o with guard := none } :: rest) a w) : wpList P ops Q (o :: rest) a w := by
  unfold wpList at h ⊢
  rw [if_pos hw]
  rw [if_pos (by simp [Region.wanted])] at h
  exact h

theorem append_none (t ty e : TypeId) (i : TypeInfo) (ht : P.underlying t = some (.slice e)) (hi : P.info? e = some i) (v : Value) (n c : Nat) (base size : Nat) (xs : List Value) (hown : w.ownsRow base e size v n xs) (hsl : ∃ A k, v = .slice A n k ∧ n ≤ k) :
    (Builtin.append_ #[t, t] ty #[v, .slice none 0 c]).run P w = .ok v w := by
  obtain ⟨A, k, rfl, hk⟩ := hsl
  cases A <;> simp [Builtin.append_, run_underlying ht, hi, sizeOf, typeInfo, Builtin.lenOf, Builtin.firstCells, Result.andThen, storeCells, hk]

theorem append_any (hgd : o.guard = none) (s x : Operand) (t : TypeId)
    (ho : o.op = .call { callee := .builtin .append, args := #[s, x], argTypes := #[t, t] })
    (base : Nat) (e : TypeId) (i : TypeInfo) (z : Value) (size bytes : Nat) (ht : P.underlying t = some (.slice e)) (hi : P.info? e = some i) (hz : i.zero = some z)
    (hsize : i.size = size) (hby : i.bytes = bytes) (hzs : z.cells.size = size) (hsz : 0 < size)
    (v : Value) (n : Nat) (xs : List Value) (hs : a.eval s = v) (hown : w.ownsRow base e size v n xs)
    (A : Option Addr) (m c : Nat) (news : List Value) (hx : a.eval x = .slice A m c) (hl : news.length = m * size) (hnews : 0 < m → ∃ ad, A = some ad ∧ ∀ j u, news[j]? = some u → w.cell? (ad.add j) = some u) (h1 : ∀ u ∈ news, u.oneCell' = true)
    (h63 : n + m ≤ maxLen) (hbytes : (n + m) * bytes ≤ 140737488355328) (hbase : base ≤ w.heap.size)
    (h : ∀ v' w', w'.ownsRow base e size v' (n + m) (xs ++ news) → w.grownBy w' v.ownBlock → (v' = .slice none 0 0 ↔ v = .slice none 0 0 ∧ m = 0) → (v'.ownBlock = v.ownBlock ∨ v'.ownBlock = some w.heap.size) → wpList P ops Q rest (a.put o.dst v') w') :
    wpList P ops Q (o :: rest) a w := by
  cases A with
  | some ad =>
    refine wpList_append_own_at w hgd s x t ho base e i z size bytes ht hi hz hsize hby hzs hsz v n xs hs hown ad m c news hx hl (fun j u hj => ?_) h1 h63 hbytes hbase h
    have hm : 0 < m := by
      rcases Nat.eq_zero_or_pos m with rfl | hm
      · have : news = [] := List.length_eq_zero_iff.1 (by rw [hl]; simp)
        rw [this] at hj; cases hj
      · exact hm
    obtain ⟨ad', e', hc⟩ := hnews hm
    cases e'
    exact hc j u hj
  | none =>
    have hm : m = 0 := by
      rcases Nat.eq_zero_or_pos m with hm | hm
      · exact hm
      · obtain ⟨ad', e', _⟩ := hnews hm; cases e'
    subst hm
    have hn : news = [] := List.length_eq_zero_iff.1 (by rw [hl]; simp)
    subst hn
    have hsl : ∃ A k, v = .slice A n k ∧ n ≤ k := by
      rcases hown.2 with ⟨rfl, rfl⟩ | ⟨g, cap, cur, rfl, _, _, hc, _⟩
      · exact ⟨none, 0, rfl, Nat.le_refl _⟩
      · exact ⟨_, _, rfl, hc⟩
    have hr := append_none (P := P) (w := w) t o.type e i ht hi v n c base size xs hown hsl
    refine wpList_plain hgd fun K hK => ?_
    unfold Oper.wp execOp
    simp only [ho, resolve, invoke, builtin, Sem.run_bind, Sem.run_pure, Result.andThen_ok, List.map_toArray, List.map_cons, List.map_nil, hs, hx, hr]
    refine hK _ _ (h v w ?_ ⟨rfl, rfl, rfl, Nat.le_refl _, fun _ _ _ => rfl⟩ ⟨fun h => ⟨h, rfl⟩, fun h => h.1⟩ (.inl rfl))
    simpa using hown
end
end Go.Proofs.YtdemfgijfnicpaaDoor.Laws

namespace Go.Proofs.YtdemfgijfnicpaaDoor.Cut
open Go

/-- The parts of a text between bytes of one kind. -/
def cut (c : UInt8) : List UInt8 → List (List UInt8)
  | [] => [[]]
  | b :: l => if b = c then [] :: cut c l else match cut c l with
    | p :: r => (b :: p) :: r
    | [] => [[b]]
/-- Parts, one behind the other, with a byte between. -/
def jn (c : UInt8) : List (List UInt8) → List UInt8
  | [] => []
  | [p] => p
  | p :: q :: r => p ++ c :: jn c (q :: r)

theorem cut_ne (c : UInt8) (l : List UInt8) : cut c l ≠ [] := by
  cases l with
  | nil => simp [cut]
  | cons b l => unfold cut; split; · simp
                split <;> simp
theorem jn_cons (c : UInt8) (p : List UInt8) {r : List (List UInt8)} (h : r ≠ []) : jn c (p :: r) = p ++ c :: jn c r := by
  cases r with
  | nil => exact absurd rfl h
  | cons q r => rfl
theorem jn_cut (c : UInt8) : ∀ l : List UInt8, jn c (cut c l) = l
  | [] => rfl
  | b :: l => by
    have ih := jn_cut c l
    unfold cut
    split
    · rename_i hb
      rw [jn_cons c [] (cut_ne c l), ih, hb]; rfl
    · have hn := cut_ne c l
      match h : cut c l with
      | [] => exact absurd h hn
      | [p] => rw [h] at ih; simp only [jn] at ih ⊢; rw [ih]
      | p :: q :: r => rw [h] at ih; simp only [jn] at ih ⊢; rw [← ih]; rfl
theorem cut_mem (c : UInt8) : ∀ l : List UInt8, ∀ p ∈ cut c l, c ∉ p
  | [], p, hp => by simp [cut] at hp; subst hp; simp
  | b :: l, p, hp => by
    have ih := cut_mem c l
    unfold cut at hp
    split at hp
    · rcases List.mem_cons.1 hp with h | h
      · subst h; simp
      · exact ih p h
    · rename_i hb
      match h : cut c l with
      | [] => exact absurd h (cut_ne c l)
      | q :: r =>
        rw [h] at hp ih
        rcases List.mem_cons.1 hp with h | h
        · subst h
          have := ih q (List.mem_cons_self ..)
          simp only [List.mem_cons, not_or]
          exact ⟨fun e => hb e.symm, this⟩
        · exact ih p (List.mem_cons_of_mem _ h)
theorem cut_plain (c : UInt8) : ∀ p : List UInt8, c ∉ p → cut c p = [p]
  | [], _ => rfl
  | b :: p, h => by
    simp only [List.mem_cons, not_or] at h
    rw [cut, if_neg (fun e => h.1 e.symm), cut_plain c p h.2]
theorem cut_app (c : UInt8) (l : List UInt8) : ∀ p : List UInt8, c ∉ p → cut c (p ++ c :: l) = p :: cut c l
  | [], _ => by rw [List.nil_append, cut, if_pos rfl]
  | b :: p, h => by
    simp only [List.mem_cons, not_or] at h
    rw [List.cons_append, cut, if_neg (fun e => h.1 e.symm), cut_app c l p h.2]
theorem cut_jn (c : UInt8) : ∀ ps : List (List UInt8), ps ≠ [] → (∀ p ∈ ps, c ∉ p) → cut c (jn c ps) = ps
  | [], h, _ => absurd rfl h
  | [p], _, h => cut_plain c p (h p (List.mem_cons_self ..))
  | p :: q :: r, _, h => by
    rw [jn, cut_app c _ p (h p (List.mem_cons_self ..)), cut_jn c (q :: r) (by simp) (fun x hx => h x (List.mem_cons_of_mem _ hx))]

theorem join_jn (c : UInt8) : ∀ ps : List (List UInt8), Lib.join ps [c] = jn c ps
  | [] => rfl
  | [p] => Lib.join_one p [c]
  | p :: q :: r => by
    have ih := join_jn c (q :: r)
    simp only [Lib.join, List.intercalate, List.intersperse, List.flatten_cons] at ih ⊢
    rw [jn, ← ih]; rfl

theorem index_one_eq (c : UInt8) (l : List UInt8) : Lib.index (c :: l) [c] = 0 := by
  simp [Lib.index, List.isPrefixOf]
theorem index_one_ne (b c : UInt8) (l : List UInt8) (h : b ≠ c) : Lib.index (b :: l) [c] = if (Lib.index l [c] == -1) = true then -1 else Lib.index l [c] + 1 := by
  have : (c == b) = false := by simpa using fun e => h e.symm
  simp [Lib.index, List.isPrefixOf, this]

theorem split_cut (c : UInt8) : ∀ l : List UInt8, Lib.splitK [c] 0 (Lib.count l [c]) l = cut c l
  | [] => by simp [Lib.count_one, Lib.splitK, cut]
  | b :: l => by
    have ih := split_cut c l
    by_cases hb : b = c
    · subst hb
      rw [Lib.count_cons_eq, Nat.add_comm, Lib.splitK, index_one_eq, cut, if_pos rfl]
      simp only [List.length_cons, List.length_nil]
      rw [if_neg (by decide)]
      simpa using ih
    · rw [Lib.count_cons_ne b c l hb, cut, if_neg hb]
      have hn := cut_ne c l
      rw [← ih] at hn ⊢
      cases hk : Lib.count l [c] with
      | zero => simp [Lib.splitK]
      | succ m =>
        rw [Lib.splitK, Lib.splitK, index_one_ne b c l hb]
        by_cases hm : (Lib.index l [c] == -1) = true
        · simp [hm]
        · have hge := Lib.index_ge l [c]
          have hne : Lib.index l [c] ≠ -1 := by simpa using hm
          obtain ⟨i, hi⟩ : ∃ i : Nat, Lib.index l [c] = i := ⟨(Lib.index l [c]).toNat, by omega⟩
          rw [hi]
          have h1 : ¬ (((i : Int) == -1) = true) := by simp <;> omega
          have h2 : ¬ (((i : Int) + 1 == -1) = true) := by simp <;> omega
          rw [if_neg h1, if_neg h1, if_neg h2]
          simp only [Int.toNat_natCast, show ((i : Int) + 1).toNat = i + 1 from by omega, Nat.add_zero, List.take_succ_cons, List.length_cons, List.length_nil]
          rw [show i + 1 + (0 + 1) = (i + 1) + 1 from by omega, List.drop_succ_cons]
/-- strings.Split by one byte. -/
theorem splitB_cut (c : UInt8) (s : ByteArray) : (Lib.splitB ⟨#[c]⟩ 0 (Lib.countB s ⟨#[c]⟩) s).map (·.data.toList) = cut c s.data.toList := by
  rw [Lib.splitB_data]
  exact split_cut c s.data.toList
theorem countB_cut (c : UInt8) (s : ByteArray) : (cut c s.data.toList).length = Lib.countB s ⟨#[c]⟩ + 1 := by
  rw [← splitB_cut, List.length_map, Lib.splitB_all ⟨#[c]⟩ (Nat.le_refl 1) 0 _ s rfl]
end Go.Proofs.YtdemfgijfnicpaaDoor.Cut

namespace Go.Proofs.YtdemfgijfnicpaaDoor.Dig
open Go Go.RowKit Go.Proofs.YtdemfgijfnicpaaDoorW.PrintWords

/-- The digits of a number. -/
def dig (u : Nat) : List Int := if u < 10 then [48 + (u : Int)] else dig (u / 10) ++ [48 + ((u % 10 : Nat) : Int)]
termination_by u
decreasing_by omega

/-- A number as it is written. -/
def num (n : Int) : List Int := if n < 0 then 45 :: dig n.natAbs else dig n.natAbs

theorem dig_small {u : Nat} (h : u < 10) : dig u = [48 + (u : Int)] := by rw [dig, if_pos h]
theorem dig_big {u : Nat} (h : 10 ≤ u) : dig u = dig (u / 10) ++ [48 + ((u % 10 : Nat) : Int)] := by rw [dig, if_neg (by omega)]

theorem dig_len : ∀ (k u : Nat), u < 10 ^ (k + 1) → (dig u).length ≤ k + 1
  | 0, u, h => by rw [dig_small (by simpa using h)]; simp
  | k + 1, u, h => by
    by_cases hs : u < 10
    · rw [dig_small hs]; simp
    · rw [dig_big (by omega)]
      have := dig_len k (u / 10) (by rw [Nat.pow_succ] at h; omega)
      simp; omega
theorem dig_pos (u : Nat) : 1 ≤ (dig u).length := by
  by_cases hs : u < 10
  · rw [dig_small hs]; simp
  · rw [dig_big (by omega)]; simp

/-- What the loop of Num holds: U the whole number, a where the text begins, u what is left, f the first round, tl the text. -/
def Inv (U a u : Nat) (f : Bool) (tl : List Int) : Prop :=
  u ≤ U ∧ a + tl.length = 24 ∧ ((f = true ∧ tl = [] ∧ u = U) ∨ (f = false ∧ 0 < u ∧ dig U = dig u ++ tl) ∨ (f = false ∧ u = 0 ∧ dig U = tl))

theorem Inv.start (U : Nat) : Inv U 24 U true [] := ⟨Nat.le_refl _, rfl, .inl ⟨rfl, rfl, rfl⟩⟩
theorem Inv.low {U a u : Nat} {f : Bool} {tl : List Int} (h : Inv U a u f tl) (hU : U < 10 ^ 20) : 4 ≤ a := by
  have := dig_len 19 U hU
  rcases h with ⟨hle, h0, ⟨_, rfl, _⟩ | ⟨_, _, h1⟩ | ⟨_, _, h1⟩⟩
  · simp at h0; omega
  · rw [h1] at this; simp at this; omega
  · rw [h1] at this; omega
theorem Inv.next {U a u : Nat} {f : Bool} {tl : List Int} (h : Inv U a u f tl) (hU : U < 10 ^ 20) (hl : f = true ∨ 0 < u) :
    5 ≤ a ∧ Inv U (a - 1) (u / 10) false ((48 + ((u % 10 : Nat) : Int)) :: tl) := by
  have hlen := dig_len 19 U hU
  have key : dig U = dig u ++ tl ∧ 5 ≤ a := by
    rcases h with ⟨hle, h0, ⟨_, rfl, rfl⟩ | ⟨_, _, h1⟩ | ⟨hf, hu, h1⟩⟩
    · simp at h0; simp; omega
    · refine ⟨h1, ?_⟩
      have := dig_pos u
      rw [h1] at hlen; simp at hlen; omega
    · rcases hl with hl | hl
      · rw [hf] at hl; cases hl
      · omega
  refine ⟨key.2, ?_, ?_, ?_⟩
  · have := h.1; omega
  · have := h.2.1; simp; omega
  · by_cases hs : u < 10
    · refine .inr (.inr ⟨rfl, by omega, ?_⟩)
      rw [key.1, dig_small hs, Nat.mod_eq_of_lt hs]; rfl
    · refine .inr (.inl ⟨rfl, by omega, ?_⟩)
      rw [key.1, dig_big (by omega)]; simp
theorem Inv.done {U a u : Nat} {f : Bool} {tl : List Int} (h : Inv U a u f tl) (hf : f = false) (hu : u = 0) : dig U = tl := by
  rcases h with ⟨_, _, ⟨h1, _⟩ | ⟨_, h1, _⟩ | ⟨_, _, h1⟩⟩
  · rw [hf] at h1; cases h1
  · omega
  · exact h1

/-- The cells of Num's array: noughts, then the text. -/
def cells (a : Nat) (tl : List Int) : Array Value := ((List.replicate a (0 : Int) ++ tl).map fun x => .int .u8 x).toArray
theorem cells_size (a : Nat) (tl : List Int) : (cells a tl).size = a + tl.length := by simp [cells]
theorem cells_put (a : Nat) (tl : List Int) (x : Int) (h : 1 ≤ a) : (cells a tl).setIfInBounds (a - 1) (.int .u8 x) = cells (a - 1) (x :: tl) := by
  obtain ⟨b, rfl⟩ : ∃ b, a = b + 1 := ⟨a - 1, by omega⟩
  simp only [cells, Nat.add_sub_cancel]
  rw [List.setIfInBounds_toArray]
  congr 1
  rw [← List.map_set]
  congr 1
  rw [List.replicate_succ', List.append_assoc, List.set_append_right _ _ (by simp)]
  simp
theorem cells_at (a : Nat) (tl : List Int) (j : Nat) (h : j < tl.length) : (cells a tl)[a + j]? = some (.int .u8 (rd tl j)) := by
  simp [cells, rd, List.getD, h]

theorem cells_nought (a : Nat) (tl : List Int) (j : Nat) (h : j < a) : (cells a tl)[j]? = some (.int .u8 0) := by
  simp only [cells, List.getElem?_toArray, List.getElem?_map]
  rw [List.getElem?_append_left (by simpa using h)]
  simp [h]
theorem digit_at (u : Nat) (h : u % 10 < (⟨#[48, 49, 50, 51, 52, 53, 54, 55, 56, 57]⟩ : ByteArray).size) : (((⟨#[48, 49, 50, 51, 52, 53, 54, 55, 56, 57]⟩ : ByteArray)[u % 10]'h).toNat : Int) = 48 + ((u % 10 : Nat) : Int) := by
  have key : ∀ v : Fin 10, (((⟨#[48, 49, 50, 51, 52, 53, 54, 55, 56, 57]⟩ : ByteArray)[v.1]'v.2).toNat : Int) = 48 + ((v.1 : Nat) : Int) := by decide +kernel
  exact key ⟨u % 10, Nat.mod_lt _ (by decide)⟩
theorem digit_byte (u : Nat) (h : u < 10) : bt ⟨#[48, 49, 50, 51, 52, 53, 54, 55, 56, 57]⟩ (u : Int) = 48 + (u : Int) := by
  have : ∀ u : Fin 10, bt ⟨#[48, 49, 50, 51, 52, 53, 54, 55, 56, 57]⟩ ((u : Nat) : Int) = 48 + ((u : Nat) : Int) := by decide +kernel
  exact this ⟨u, h⟩

/-! ### The number that a text is -/
def isDig (c : UInt8) : Bool := decide (48 ≤ c.toNat) && decide (c.toNat ≤ 57)
def val (l : List UInt8) : Nat := l.foldl (fun n c => 10 * n + (c.toNat - 48)) 0
def getN (l : List UInt8) : Option Nat := if l ≠ [] ∧ l.length ≤ 18 ∧ (l.head? = some 48 → l.length = 1) ∧ l.all isDig = true then some (val l) else none
def get (l : List UInt8) (most : Int) : Int × Bool := match getN l with
  | some n => if most < (n : Int) then (0, false) else ((n : Int), true)
  | none => (0, false)

theorem index_dig (c : UInt8) : Lib.indexByte [48, 49, 50, 51, 52, 53, 54, 55, 56, 57] c = if isDig c = true then ((c.toNat - 48 : Nat) : Int) else -1 := by
  have key : ∀ c : Fin 256, Lib.indexByte [48, 49, 50, 51, 52, 53, 54, 55, 56, 57] (UInt8.ofNat c.1) = if isDig (UInt8.ofNat c.1) = true then (((UInt8.ofNat c.1).toNat - 48 : Nat) : Int) else -1 := by decide +kernel
  have h := key ⟨c.toNat, c.toNat_lt⟩
  simpa using h

theorem val_snoc (l : List UInt8) (c : UInt8) : val (l ++ [c]) = 10 * val l + (c.toNat - 48) := by simp [val, List.foldl_append]
theorem val_lt : ∀ (n : Nat) (l : List UInt8), l.length = n → l.all isDig = true → val l < 10 ^ n
  | 0, l, h, _ => by obtain rfl := List.length_eq_zero_iff.1 h; simp [val]
  | n + 1, l, h, ha => by
    obtain ⟨m, c, rfl⟩ : ∃ m c, l = m ++ [c] := ⟨l.dropLast, l.getLast (by intro e; simp [e] at h), (List.dropLast_concat_getLast _).symm⟩
    simp only [List.all_append, List.all_cons, List.all_nil, Bool.and_true, Bool.and_eq_true] at ha
    have := val_lt n m (by simpa using h) ha.1
    have h2 := ha.2
    simp only [isDig, Bool.and_eq_true, decide_eq_true_eq] at h2
    rw [val_snoc, Nat.pow_succ]; omega

/-- The digits as bytes. -/
def digU (u : Nat) : List UInt8 := (dig u).map fun n => UInt8.ofNat n.toNat
theorem digU_small {u : Nat} (h : u < 10) : digU u = [UInt8.ofNat (48 + u)] := by
  rw [digU, dig_small h]; simp only [List.map_cons, List.map_nil]; rw [show (48 + (u : Int)).toNat = 48 + u from by omega]
theorem digU_big {u : Nat} (h : 10 ≤ u) : digU u = digU (u / 10) ++ [UInt8.ofNat (48 + u % 10)] := by
  rw [digU, dig_big h, List.map_append]; simp only [List.map_cons, List.map_nil]; rw [show (48 + ((u % 10 : Nat) : Int)).toNat = 48 + u % 10 from by omega]; rfl
theorem digit_nat (d : Nat) (h : d < 10) : (UInt8.ofNat (48 + d)).toNat = 48 + d := by
  rw [UInt8.toNat_ofNat']; omega
theorem digit_isDig (d : Nat) (h : d < 10) : isDig (UInt8.ofNat (48 + d)) = true := by
  simp only [isDig, digit_nat d h, Bool.and_eq_true, decide_eq_true_eq]; omega
theorem digU_ne (u : Nat) : digU u ≠ [] := by
  intro h; have := dig_pos u; have h2 := congrArg List.length h; rw [digU, List.length_map] at h2; simp only [List.length_nil] at h2; omega
theorem digU_len (u : Nat) : (digU u).length = (dig u).length := by simp [digU]

theorem head_app {m : List UInt8} (x : List UInt8) (h : m ≠ []) : (m ++ x).head? = m.head? := by cases m <;> simp_all

theorem digU_all (u : Nat) : (digU u).all isDig = true ∧ val (digU u) = u ∧ ((digU u).head? = some 48 → u = 0) := by
  induction u using Nat.strongRecOn with
  | _ u ih =>
    by_cases hs : u < 10
    · rw [digU_small hs]
      refine ⟨by simp only [List.all_cons, List.all_nil, Bool.and_true]; exact digit_isDig u hs, by simp only [val, List.foldl_cons, List.foldl_nil]; rw [digit_nat u hs]; omega, fun h => ?_⟩
      have h' : UInt8.ofNat (48 + u) = 48 := by simpa using h
      have := congrArg UInt8.toNat h'
      rw [digit_nat u hs] at this
      have e : (48 : UInt8).toNat = 48 := rfl
      omega
    · have ⟨h1, h2, h3⟩ := ih (u / 10) (by omega)
      have hm : u % 10 < 10 := Nat.mod_lt _ (by decide)
      rw [digU_big (by omega)]
      refine ⟨by rw [List.all_append, h1]; simp only [List.all_cons, List.all_nil, Bool.and_true, Bool.true_and]; exact digit_isDig _ hm, by rw [val_snoc, h2, digit_nat _ hm]; omega, fun h => ?_⟩
      rw [head_app _ (digU_ne _)] at h
      have := h3 h; omega

theorem toNat_back (c : UInt8) (h : isDig c = true) : UInt8.ofNat (48 + (c.toNat - 48)) = c := by
  simp only [isDig, Bool.and_eq_true, decide_eq_true_eq] at h
  rw [show 48 + (c.toNat - 48) = c.toNat from by omega]; simp

/-- A text of digits that begins by no nought, but alone, is its number as it is written. -/
theorem digU_val : ∀ (n : Nat) (l : List UInt8), l.length = n + 1 → l.all isDig = true → (l.head? = some 48 → l.length = 1) → digU (val l) = l ∧ (l.head? ≠ some 48 → 0 < val l)
  | 0, l, h, ha, _ => by
    obtain ⟨c, rfl⟩ := List.length_eq_one_iff.1 h
    simp only [List.all_cons, List.all_nil, Bool.and_true] at ha
    have hd := ha
    simp only [isDig, Bool.and_eq_true, decide_eq_true_eq] at hd
    have hv : val [c] = c.toNat - 48 := by simp [val]
    rw [hv]
    refine ⟨?_, fun h => ?_⟩
    · rw [digU_small (by omega), toNat_back c ha]
    · have : c ≠ 48 := by simpa using h
      have h2 : c.toNat ≠ 48 := fun e => this (by apply UInt8.toNat_inj.1; rw [e]; rfl)
      omega
  | n + 1, l, h, ha, hz => by
    obtain ⟨m, c, rfl⟩ : ∃ m c, l = m ++ [c] := ⟨l.dropLast, l.getLast (by intro e; simp [e] at h), (List.dropLast_concat_getLast _).symm⟩
    simp only [List.all_append, List.all_cons, List.all_nil, Bool.and_true, Bool.and_eq_true] at ha
    have hml : m.length = n + 1 := by simpa using h
    have hm : m ≠ [] := by intro e; simp [e] at hml
    rw [head_app _ hm] at hz ⊢
    have hz2 : m.head? ≠ some 48 := fun e => by have := hz e; rw [List.length_append] at this; simp only [List.length_cons, List.length_nil] at this; omega
    have ⟨i1, i2⟩ := digU_val n m hml ha.1 (fun e => absurd e hz2)
    have i3 := i2 hz2
    have hd := ha.2
    simp only [isDig, Bool.and_eq_true, decide_eq_true_eq] at hd
    rw [val_snoc]
    refine ⟨?_, fun _ => by omega⟩
    rw [digU_big (by omega), show (10 * val m + (c.toNat - 48)) / 10 = val m from by omega, show (10 * val m + (c.toNat - 48)) % 10 = c.toNat - 48 from by omega, i1, toNat_back c ha.2]

/-- A text is a number just where it is that number as it is written, of at most eighteen digits. -/
theorem getN_iff (l : List UInt8) (n : Nat) : getN l = some n ↔ l = digU n ∧ n < 1000000000000000000 := by
  constructor
  · intro h
    unfold getN at h
    split at h
    · rename_i hc
      obtain ⟨h1, h2, h3, h4⟩ := hc
      cases h
      have hp : 0 < l.length := List.length_pos_iff.2 h1
      have ⟨e, _⟩ := digU_val (l.length - 1) l (by omega) h4 h3
      refine ⟨e.symm, ?_⟩
      have := val_lt l.length l rfl h4
      exact Nat.lt_of_lt_of_le this (Nat.le_trans (Nat.pow_le_pow_right (by decide) h2) (by decide))
    · cases h
  · rintro ⟨rfl, hn⟩
    have ⟨a1, a2, a3⟩ := digU_all n
    have hl : (digU n).length ≤ 18 := by rw [digU_len]; exact dig_len 17 n (by omega)
    rw [getN, if_pos ⟨digU_ne n, hl, fun h => by rw [a3 h, digU_small (by decide)]; rfl, a1⟩, a2]

/-- A number as it is written, as bytes. -/
def numU (n : Int) : List UInt8 := if n < 0 then 45 :: digU n.natAbs else digU n.natAbs
theorem numU_eq (n : Int) : strOfNums (num n) = ⟨(numU n).toArray⟩ := by
  unfold num numU strOfNums
  split <;> simp [digU]
theorem numU_nat (n : Nat) : numU (n : Int) = digU n := by rw [numU, if_neg (by omega)]; simp
/-- An address as it is written. -/
def hostU (a b c d : Nat) : List UInt8 := digU a ++ 46 :: (digU b ++ 46 :: (digU c ++ 46 :: digU d))

/-! ### The address that a text is -/
def get255 (l : List UInt8) : Option Nat := (getN l).bind fun n => if n ≤ 255 then some n else none
theorem get255_get (l : List UInt8) : get l 255 = match get255 l with
  | some n => ((n : Int), true)
  | none => (0, false) := by
  unfold get get255
  cases h : getN l with
  | none => rfl
  | some n =>
    simp only [Option.bind_some]
    by_cases hn : n ≤ 255
    · rw [if_pos hn, if_neg (by omega)]
    · rw [if_neg hn, if_pos (by omega)]
theorem get255_iff (l : List UInt8) (n : Nat) : get255 l = some n ↔ l = digU n ∧ n ≤ 255 := by
  unfold get255
  constructor
  · intro h
    cases hg : getN l with
    | none => rw [hg] at h; cases h
    | some m =>
      rw [hg] at h
      simp only [Option.bind_some] at h
      split at h
      · cases h; exact ⟨((getN_iff l n).1 hg).1, by assumption⟩
      · cases h
  · rintro ⟨rfl, h⟩
    rw [(getN_iff (digU n) n).2 ⟨rfl, by omega⟩]
    simp [h]
/-- The address of four parts. -/
def four (p q r t : List UInt8) : Option (Nat × Nat × Nat × Nat) := (get255 p).bind fun a => (get255 q).bind fun b => (get255 r).bind fun c => (get255 t).bind fun d => some (a, b, c, d)
def readN (l : List UInt8) : Option (Nat × Nat × Nat × Nat) := match Cut.cut 46 l with
  | [p, q, r, t] => four p q r t
  | _ => none
theorem dig_not46 (n : Nat) : (46 : UInt8) ∉ digU n := by
  intro h
  have := List.all_eq_true.1 (digU_all n).1 _ h
  exact absurd this (by decide)
theorem four_iff (p q r t : List UInt8) (a b c d : Nat) : four p q r t = some (a, b, c, d) ↔ (p = digU a ∧ a ≤ 255) ∧ (q = digU b ∧ b ≤ 255) ∧ (r = digU c ∧ c ≤ 255) ∧ (t = digU d ∧ d ≤ 255) := by
  simp only [four, Option.bind_eq_some_iff, Option.some.injEq, Prod.mk.injEq]
  constructor
  · rintro ⟨a', ha, b', hb, c', hc, d', hd, rfl, rfl, rfl, rfl⟩
    exact ⟨(get255_iff _ _).1 ha, (get255_iff _ _).1 hb, (get255_iff _ _).1 hc, (get255_iff _ _).1 hd⟩
  · rintro ⟨ha, hb, hc, hd⟩
    exact ⟨a, (get255_iff _ _).2 ha, b, (get255_iff _ _).2 hb, c, (get255_iff _ _).2 hc, d, (get255_iff _ _).2 hd, rfl, rfl, rfl, rfl⟩
theorem host_jn (a b c d : Nat) : hostU a b c d = Cut.jn 46 [digU a, digU b, digU c, digU d] := rfl
/-- A text is an address just where it is that address as it is written. -/
theorem readN_iff (l : List UInt8) (a b c d : Nat) : readN l = some (a, b, c, d) ↔ l = hostU a b c d ∧ a ≤ 255 ∧ b ≤ 255 ∧ c ≤ 255 ∧ d ≤ 255 := by
  constructor
  · intro h
    unfold readN at h
    split at h
    · rename_i p q r t hc
      have hj := Cut.jn_cut 46 l
      rw [hc] at hj
      obtain ⟨⟨rfl, ha⟩, ⟨rfl, hb⟩, ⟨rfl, hc'⟩, ⟨rfl, hd⟩⟩ := (four_iff p q r t a b c d).1 h
      exact ⟨hj.symm.trans (host_jn a b c d).symm, ha, hb, hc', hd⟩
    · cases h
  · rintro ⟨rfl, ha, hb, hc, hd⟩
    have h : Cut.cut 46 (hostU a b c d) = [digU a, digU b, digU c, digU d] := by
      rw [host_jn]
      refine Cut.cut_jn 46 _ (by simp) ?_
      intro p hp
      simp only [List.mem_cons, List.not_mem_nil, or_false] at hp
      rcases hp with rfl | rfl | rfl | rfl <;> exact dig_not46 _
    rw [readN, h]
    exact (four_iff _ _ _ _ a b c d).2 ⟨⟨rfl, ha⟩, ⟨rfl, hb⟩, ⟨rfl, hc⟩, ⟨rfl, hd⟩⟩

theorem digU_inj {a b : Nat} (h : digU a = digU b) : a = b := by rw [← (digU_all a).2.1, h, (digU_all b).2.1]
end Go.Proofs.YtdemfgijfnicpaaDoor.Dig

namespace Go.Proofs.YtdemfgijfnicpaaDoor.Quad
open Go Go.RowKit Go.Proofs.YtdemfgijfnicpaaDoorW.PrintWords Go.Proofs.YtdemfgijfnicpaaDoorW.PrintLast Go.Proofs.YtdemfgijfnicpaaDoorW.PrintMore Go.Proofs.YtdemfgijfnicpaaDoor.Dig
set_option linter.unusedVariables false
set_option linter.unusedSimpArgs false

theorem bt_byte (s : ByteArray) (k : Nat) (h : k < s.data.toList.length) : bt s (k : Int) = ((s.data.toList[k]).toNat : Int) := by
  have h' : k < s.size := by rw [← data_length s]; exact h
  unfold bt
  rw [dif_pos (by simpa using h')]
  rfl

theorem info9 : (Tryd.prog.info? 9).map (fun i => (i.zero, i.size, i.bytes)) = some (some (.string ⟨#[]⟩), 1, 16) := by kernel_rfl
end Go.Proofs.YtdemfgijfnicpaaDoor.Quad

namespace Go.Proofs.YtdemfgijfnicpaaDoor.Quad
open Go Go.RowKit Go.Proofs.YtdemfgijfnicpaaDoorW.PrintWords Go.Proofs.YtdemfgijfnicpaaDoorW.PrintLast Go.Proofs.YtdemfgijfnicpaaDoorW.PrintMore Go.Proofs.YtdemfgijfnicpaaDoor.Dig
set_option linter.unusedVariables false
set_option linter.unusedSimpArgs false

/-- The variable that strings.Split's road reads. -/
def Mx (w : World) : Prop := ∃ m : Int, w.cell? ⟨0, 0, none⟩ = some (.int .i64 m)
theorem Mx.below {w w' : World} (h : Mx w) (hb : Below w.heap.size w w') : Mx w' := by
  obtain ⟨m, hm⟩ := h
  exact ⟨m, (hb.cell (World.block_lt_of_cell? w _ hm)).trans hm⟩

theorem split_calls (c : UInt8) (s : ByteArray) (hs : s.size < 4294967281) : ∃ ps : List ByteArray, ps.map (·.data.toList) = Cut.cut c s.data.toList ∧ ∀ w : World, Mx w →
    Calls Tryd.prog 32 #[.string s, .string ⟨#[c]⟩] w fun e w' => e = .returned (.slice (some ⟨w.heap.size, 0, none⟩) ps.length ps.length) ∧ w' = w.alloc (.cells (ps.map Value.string).toArray 9) := by
  refine ⟨Lib.splitB ⟨#[c]⟩ 0 (Lib.countB s ⟨#[c]⟩) s, Cut.splitB_cut c s, fun w hm => ?_⟩
  obtain ⟨m, hm⟩ := hm
  have h := Tryd.strings_Split s ⟨#[c]⟩ m w hs hm (Nat.le_refl 1)
  rwa [Lib.splitB_all ⟨#[c]⟩ (Nat.le_refl 1) 0 _ s rfl]

end Go.Proofs.YtdemfgijfnicpaaDoor.Quad

namespace Go.Proofs.YtdemfgijfnicpaaDoor.AclMet
open Go Go.RowKit
def WMet (w : World) : Prop := Quad.Mx w
theorem WMet.below {w w' : World} (h : WMet w) (hb : Below w.heap.size w w') : WMet w' := Quad.Mx.below h hb
end Go.Proofs.YtdemfgijfnicpaaDoor.AclMet

namespace Go.Proofs.YtdemfgijfnicpaaDoor.Q
open Go.RowKit Go.Proofs.YtdemfgijfnicpaaDoor.AclMet Go.Proofs.YtdemfgijfnicpaaDoorW.PrintWords Go.Proofs.YtdemfgijfnicpaaDoorW.PrintLast Go.Proofs.YtdemfgijfnicpaaDoorW.PrintMore
attribute [local go_sem] max2_int min2_int max_two min_two max_three min_three max_four min_four   -- for this text's walks alone
set_option linter.unusedVariables false
set_option linter.unusedSimpArgs false



def errW : Option Int → Value
  | none => .nilIface
  | some c => .iface 0 (.int .i64 c)
theorem errW_none : errW none = .nilIface := rfl
theorem errW_some (c : Int) : errW (some c) = .iface 0 (.int .i64 c) := rfl

theorem info5 : (Tryd.prog.info? 5).map (fun i => (i.zero, i.size, i.bytes)) = some (some (.int .u8 0), 1, 1) := by kernel_rfl
theorem info9 : (Tryd.prog.info? 9).map (fun i => (i.zero, i.size, i.bytes)) = some (some (.string ⟨#[]⟩), 1, 16) := by kernel_rfl
theorem info28 : (Tryd.prog.info? 28).map (fun i => (i.zero, i.size, i.bytes)) = some (some (.agg #[(.bool false), (.string ⟨#[]⟩), (.string ⟨#[]⟩)]), 3, 40) := by kernel_rfl
-- the values' own types
/-! #### struct type 28 -/
structure S28 where
  f0 : Bool
  f1 : ByteArray
  f2 : ByteArray
def z28 : S28 := ⟨false, (⟨#[]⟩ : ByteArray), (⟨#[]⟩ : ByteArray)⟩
def k28 : Kd S28 := Kd.iso (Kd.pair Kd.bool (Kd.pair Kd.string Kd.string)) (fun x : S28 => (x.f0, x.f1, x.f2))
theorem k28_open {w : World} {x : S28} {cs : List Value} (h : k28.K w x cs) : cs = [.bool x.f0, .string x.f1, .string x.f2] := by
  obtain ⟨_, _, rfl, rfl, ⟨_, _, rfl, rfl, rfl⟩⟩ := h
  exact rfl
theorem k28_openM {w : World} {base : Nat} {ok : Nat → Prop} {x : S28} {cs : List Value} (h : k28.M w base ok x cs) : cs = [.bool x.f0, .string x.f1, .string x.f2] := by
  obtain ⟨_, _, rfl, rfl, ⟨_, _, rfl, rfl, rfl⟩⟩ := h
  exact rfl
theorem k28_mk (w : World) (x : S28)  : k28.K w x [.bool x.f0, .string x.f1, .string x.f2] := ⟨[.bool x.f0], [.string x.f1, .string x.f2], rfl, rfl, ⟨[.string x.f1], [.string x.f2], rfl, rfl, rfl⟩⟩
theorem k28_mkM (w : World) (base : Nat) (ok : Nat → Prop) (x : S28)  : k28.M w base ok x [.bool x.f0, .string x.f1, .string x.f2] := ⟨[.bool x.f0], [.string x.f1, .string x.f2], rfl, rfl, ⟨[.string x.f1], [.string x.f2], rfl, rfl, rfl⟩⟩
def rd_T28 (xs : List S28) (i : Int) : S28 := xs.getD i.toNat z28
theorem at_T28 {w : World} {A : Option Addr} {n : Nat} {xs : List S28} (h : Kd.C k28 w A n xs) (i : Int) (h0 : 0 ≤ i) (h1 : i < n) : ∃ ad , A = some ad ∧ w.cell? (ad.add (i.toNat * 3)) = some (.bool (rd_T28 xs i).f0) ∧ w.cell? ⟨(ad.add (i.toNat * 3)).block, (ad.add (i.toNat * 3)).off + 1, none⟩ = some (.string (rd_T28 xs i).f1) ∧ w.cell? ⟨(ad.add (i.toNat * 3)).block, (ad.add (i.toNat * 3)).off + 2, none⟩ = some (.string (rd_T28 xs i).f2) := by
  obtain ⟨ad, c, e, _, hK, hc0⟩ := Kd.C_get h z28 i h0 h1
  have hc : ∀ j u, c[j]? = some u → w.cell? (ad.add (i.toNat * 3 + j)) = some u := hc0
  obtain rfl := k28_open hK
  exact ⟨ad, e, hc 0 _ rfl, by rw [← add_field _ _ 1 (by omega)]; exact hc 1 _ rfl, by rw [← add_field _ _ 2 (by omega)]; exact hc 2 _ rfl⟩

/-! #### struct type 35 -/
structure S35 where
  f0 : ByteArray
  f1 : Int
  f2 : Int
  f3 : Bool
def z35 : S35 := ⟨(⟨#[]⟩ : ByteArray), (0 : Int), (0 : Int), false⟩
def k35 : Kd S35 := Kd.iso (Kd.pair Kd.string (Kd.pair (Kd.int .i64) (Kd.pair (Kd.int .i64) Kd.bool))) (fun x : S35 => (x.f0, x.f1, x.f2, x.f3))
theorem k35_open {w : World} {x : S35} {cs : List Value} (h : k35.K w x cs) : cs = [.string x.f0, .int .i64 x.f1, .int .i64 x.f2, .bool x.f3] := by
  obtain ⟨_, _, rfl, rfl, ⟨_, _, rfl, rfl, ⟨_, _, rfl, rfl, rfl⟩⟩⟩ := h
  exact rfl
theorem k35_openM {w : World} {base : Nat} {ok : Nat → Prop} {x : S35} {cs : List Value} (h : k35.M w base ok x cs) : cs = [.string x.f0, .int .i64 x.f1, .int .i64 x.f2, .bool x.f3] := by
  obtain ⟨_, _, rfl, rfl, ⟨_, _, rfl, rfl, ⟨_, _, rfl, rfl, rfl⟩⟩⟩ := h
  exact rfl
theorem k35_mk (w : World) (x : S35)  : k35.K w x [.string x.f0, .int .i64 x.f1, .int .i64 x.f2, .bool x.f3] := ⟨[.string x.f0], [.int .i64 x.f1, .int .i64 x.f2, .bool x.f3], rfl, rfl, ⟨[.int .i64 x.f1], [.int .i64 x.f2, .bool x.f3], rfl, rfl, ⟨[.int .i64 x.f2], [.bool x.f3], rfl, rfl, rfl⟩⟩⟩
theorem k35_mkM (w : World) (base : Nat) (ok : Nat → Prop) (x : S35)  : k35.M w base ok x [.string x.f0, .int .i64 x.f1, .int .i64 x.f2, .bool x.f3] := ⟨[.string x.f0], [.int .i64 x.f1, .int .i64 x.f2, .bool x.f3], rfl, rfl, ⟨[.int .i64 x.f1], [.int .i64 x.f2, .bool x.f3], rfl, rfl, ⟨[.int .i64 x.f2], [.bool x.f3], rfl, rfl, rfl⟩⟩⟩
def rd_T35 (xs : List S35) (i : Int) : S35 := xs.getD i.toNat z35
theorem at_T35 {w : World} {A : Option Addr} {n : Nat} {xs : List S35} (h : Kd.C k35 w A n xs) (i : Int) (h0 : 0 ≤ i) (h1 : i < n) : ∃ ad , A = some ad ∧ w.cell? (ad.add (i.toNat * 4)) = some (.string (rd_T35 xs i).f0) ∧ w.cell? ⟨(ad.add (i.toNat * 4)).block, (ad.add (i.toNat * 4)).off + 1, none⟩ = some (.int .i64 (rd_T35 xs i).f1) ∧ w.cell? ⟨(ad.add (i.toNat * 4)).block, (ad.add (i.toNat * 4)).off + 2, none⟩ = some (.int .i64 (rd_T35 xs i).f2) ∧ w.cell? ⟨(ad.add (i.toNat * 4)).block, (ad.add (i.toNat * 4)).off + 3, none⟩ = some (.bool (rd_T35 xs i).f3) := by
  obtain ⟨ad, c, e, _, hK, hc0⟩ := Kd.C_get h z35 i h0 h1
  have hc : ∀ j u, c[j]? = some u → w.cell? (ad.add (i.toNat * 4 + j)) = some u := hc0
  obtain rfl := k35_open hK
  exact ⟨ad, e, hc 0 _ rfl, by rw [← add_field _ _ 1 (by omega)]; exact hc 1 _ rfl, by rw [← add_field _ _ 2 (by omega)]; exact hc 2 _ rfl, by rw [← add_field _ _ 3 (by omega)]; exact hc 3 _ rfl⟩

end Go.Proofs.YtdemfgijfnicpaaDoor.Q

namespace Go.Proofs.YtdemfgijfnicpaaDoor.Opens
open Go Go.RowKit Go.Proofs.YtdemfgijfnicpaaDoorW.PrintWords
set_option linter.unusedVariables false

theorem mapM_each {α β : Type} {f : α → Option β} : ∀ {l : List α} {ys : List β}, l.mapM f = some ys → ∀ x ∈ l, ∃ y, f x = some y
  | [], _, _, x, hx => by cases hx
  | a :: r, ys, h, x, hx => by
    rw [List.mapM_cons] at h
    cases h1 : f a with
    | none => rw [h1] at h; cases h
    | some y =>
      rw [h1] at h
      cases h2 : r.mapM f with
      | none => simp [h2] at h
      | some z =>
        rcases List.mem_cons.1 hx with rfl | hx
        · exact ⟨y, h1⟩
        · exact mapM_each h2 x hx
theorem mapM_at {β : Type} {f : Nat → Option β} : ∀ {n : Nat} {ys : List β}, (List.range n).mapM f = some ys → ys.length = n ∧ ∀ i, i < n → f i = ys[i]?
  | n, ys, h => by
    have key : ∀ (l : List Nat) (ys : List β), l.mapM f = some ys → ys.length = l.length ∧ ∀ i (hi : i < l.length), f l[i] = ys[i]? := by
      intro l
      induction l with
      | nil => intro ys h; cases h; exact ⟨rfl, fun i hi => by simp at hi⟩
      | cons a r ih =>
        intro ys h
        rw [List.mapM_cons] at h
        cases h1 : f a with
        | none => rw [h1] at h; cases h
        | some y =>
          rw [h1] at h
          cases h2 : r.mapM f with
          | none => simp [h2] at h
          | some z =>
            rw [h2] at h
            have h' : y :: z = ys := by simpa using h
            subst h'
            obtain ⟨h3, h4⟩ := ih z h2
            refine ⟨by simp [h3], fun i hi => ?_⟩
            cases i with
            | zero => exact h1
            | succ i => exact h4 i (by simpa using hi)
    obtain ⟨h1, h2⟩ := key _ ys h
    rw [List.length_range] at h1
    exact ⟨h1, fun i hi => by have := h2 i (by simpa using hi); simpa using this⟩
theorem choose_list {α : Type} {P : Nat → α → Prop} : ∀ n : Nat, (∀ j, j < n → ∃ a, P j a) → ∃ xs : List α, xs.length = n ∧ ∀ j a, xs[j]? = some a → P j a
  | 0, _ => ⟨[], rfl, fun j a h => by simp at h⟩
  | n + 1, h => by
    obtain ⟨xs, hl, hx⟩ := choose_list n (fun j hj => h j (by omega))
    obtain ⟨a, ha⟩ := h n (by omega)
    refine ⟨xs ++ [a], by simp [hl], fun j b hj => ?_⟩
    by_cases e : j < xs.length
    · rw [List.getElem?_append_left e] at hj; exact hx j b hj
    · rw [List.getElem?_append_right (by omega)] at hj
      have e2 : j - xs.length = 0 := by
        rcases Nat.eq_zero_or_pos (j - xs.length) with h | h
        · exact h
        · rw [List.getElem?_eq_none (by simp; omega)] at hj; cases hj
      rw [e2] at hj
      have e3 : j = n := by omega
      subst e3
      have : a = b := by simpa using hj
      rw [← this]; exact ha

section
variable {H : Type} (enc : TypeId × Value → H) (P : Program) (W : World) (sp : Nat → Bool) (held : Bool)
/-- Cells that the form reads at a type are what the kind says, of a value that meets Q. -/
def Opn {α : Type} (d : Kd α) (t : TypeId) (Q : α → Prop) : Prop := ∀ (fuel : Nat) (cs : List Value) (y : DataW H × List MemPlace), DataW.trod enc P W 0 sp held fuel t cs = some y → ∃ a, d.K W a cs ∧ Q a
/-- The same of pieces: types and places. -/
def Opns {α : Type} (d : Kd α) (fs : List (TypeId × Nat)) (o : Nat) (Q : α → Prop) : Prop := ∀ (fuel : Nat) (cs : List Value), cs.length = o + d.sz → (∀ f ∈ fs, ∃ y, DataW.trod enc P W 0 sp held fuel f.1 ((cs.drop f.2).take (P.cellsOf f.1)) = some y) → ∃ a, d.K W a (cs.drop o) ∧ Q a
end
section
variable {H : Type} {enc : TypeId × Value → H} {P : Program} {W : World} {sp : Nat → Bool} {held : Bool}
theorem Opn.string {t : TypeId} (hu : P.underlying t = some .string) : Opn enc P W sp held Kd.string t (fun s => s.size ≤ 9223372036854775807) := by
  intro fuel cs y h
  cases fuel with
  | zero => cases h
  | succ fuel =>
    unfold DataW.trod at h
    rw [hu] at h
    split at h
    case h_4 =>
      rename_i s e1
      split at h
      · rename_i hs; exact ⟨s, rfl, by simpa [maxLen] using hs⟩
      · cases h
    all_goals first | (rename_i e _; cases e; done) | (rename_i e; cases e; done) | cases h
theorem Opn.bool {t : TypeId} (hu : P.underlying t = some .bool) : Opn enc P W sp held Kd.bool t (fun _ => True) := by
  intro fuel cs y h
  cases fuel with
  | zero => cases h
  | succ fuel =>
    unfold DataW.trod at h
    rw [hu] at h
    split at h
    case h_1 b e1 => exact ⟨b, rfl, trivial⟩
    all_goals first | (rename_i e _; cases e; done) | (rename_i e; cases e; done) | cases h
theorem Opn.int {t : TypeId} {k : IntKind} (hu : P.underlying t = some (.int k)) : Opn enc P W sp held (Kd.int k) t (fun n => (Lit.int k n).wf = true) := by
  intro fuel cs y h
  cases fuel with
  | zero => cases h
  | succ fuel =>
    unfold DataW.trod at h
    rw [hu] at h
    split at h
    case h_2 =>
      rename_i k1 k2 n e1
      cases e1
      split at h
      · rename_i hs
        obtain ⟨rfl, hw⟩ := hs
        exact ⟨n, rfl, hw⟩
      · cases h
    all_goals first | (rename_i e _; cases e; done) | (rename_i e; cases e; done) | cases h
theorem Opn.iso {α β : Type} {d : Kd α} {t : TypeId} {Q : α → Prop} (h : Opn enc P W sp held d t Q) (f : β → α) (g : α → β) (hfg : ∀ a, f (g a) = a) : Opn enc P W sp held (Kd.iso d f) t (fun b => Q (f b)) := by
  intro fuel cs y hy
  obtain ⟨a, h1, h2⟩ := h fuel cs y hy
  exact ⟨g a, show d.K W (f (g a)) cs by rw [hfg]; exact h1, show Q (f (g a)) by rw [hfg]; exact h2⟩
theorem Opns.cons {α β : Type} {d1 : Kd α} {d2 : Kd β} {t : TypeId} {o : Nat} {fs : List (TypeId × Nat)} {Q1 : α → Prop} {Q2 : β → Prop} (hc : P.cellsOf t = d1.sz) (h1 : Opn enc P W sp held d1 t Q1) (h2 : Opns enc P W sp held d2 fs (o + d1.sz) Q2) :
    Opns enc P W sp held (Kd.pair d1 d2) ((t, o) :: fs) o (fun x => Q1 x.1 ∧ Q2 x.2) := by
  intro fuel cs hl hf
  have hsz : (Kd.pair d1 d2).sz = d1.sz + d2.sz := rfl
  obtain ⟨y, hy⟩ := hf _ (List.mem_cons_self ..)
  obtain ⟨a, ha, hqa⟩ := h1 fuel _ y hy
  obtain ⟨b, hb, hqb⟩ := h2 fuel cs (by rw [hl, hsz]; omega) (fun f hm => hf f (List.mem_cons_of_mem _ hm))
  refine ⟨(a, b), ⟨_, _, ?_, ha, hb⟩, hqa, hqb⟩
  show cs.drop o = ((cs.drop o).take (P.cellsOf t)) ++ cs.drop (o + d1.sz)
  rw [hc, ← List.drop_drop, List.take_append_drop]
theorem Opns.last {α : Type} {d : Kd α} {t : TypeId} {o : Nat} {Q : α → Prop} (hc : P.cellsOf t = d.sz) (h : Opn enc P W sp held d t Q) : Opns enc P W sp held d [(t, o)] o Q := by
  intro fuel cs hl hf
  obtain ⟨y, hy⟩ := hf _ (List.mem_cons_self ..)
  obtain ⟨a, ha, hq⟩ := h fuel _ y hy
  have e : (cs.drop o).take (P.cellsOf t) = cs.drop o := by rw [hc]; exact List.take_of_length_le (by rw [List.length_drop]; omega)
  have ha' : d.K W a ((cs.drop o).take (P.cellsOf t)) := ha
  rw [e] at ha'
  exact ⟨a, ha', hq⟩
theorem Opn.struct {α : Type} {d : Kd α} {t : TypeId} {fs : Array Field} {Q : α → Prop} (hu : P.underlying t = some (.struct fs)) (hc : P.cellsOf t = d.sz) (h : Opns enc P W sp held d (fs.toList.map fun f => (f.type, f.offset)) 0 Q) : Opn enc P W sp held d t Q := by
  intro fuel cs y hy
  cases fuel with
  | zero => cases hy
  | succ fuel =>
    unfold DataW.trod at hy
    rw [hu] at hy
    simp only at hy
    split at hy
    · rename_i hl
      cases hm : fs.toList.mapM (fun f => DataW.trod enc P W 0 sp held fuel f.type ((cs.drop f.offset).take (P.cellsOf f.type))) with
      | none => rw [hm] at hy; cases hy
      | some ys =>
        have := h fuel cs (by omega) (fun f hf => by
          obtain ⟨g, hg, rfl⟩ := List.mem_map.1 hf
          exact mapM_each hm g hg)
        simpa using this
    · cases hy
theorem Opn.array {α : Type} {d : Kd α} {t e : TypeId} {n : Nat} {Q : α → Prop} (hu : P.underlying t = some (.array n e)) (hc : P.cellsOf t = d.sz) (h : Opns enc P W sp held d ((List.range n).map fun i => (e, i * P.cellsOf e)) 0 Q) : Opn enc P W sp held d t Q := by
  intro fuel cs y hy
  cases fuel with
  | zero => cases hy
  | succ fuel =>
    unfold DataW.trod at hy
    rw [hu] at hy
    simp only at hy
    split at hy
    · rename_i hl
      cases hm : (List.range n).mapM (fun i => DataW.trod enc P W 0 sp held fuel e ((cs.drop (i * P.cellsOf e)).take (P.cellsOf e))) with
      | none => rw [hm] at hy; cases hy
      | some ys =>
        have := h fuel cs (by omega) (fun f hf => by
          obtain ⟨i, hi, rfl⟩ := List.mem_map.1 hf
          exact mapM_each hm i hi)
        simpa using this
    · cases hy
theorem add_add' (a : Addr) (x y : Nat) : (a.add x).add y = a.add (x + y) := by
  unfold Addr.add
  by_cases h0 : x = 0
  · subst h0; simp
  · by_cases h1 : y = 0
    · subst h1; simp [h0]
    · simp [h0, h1, Nat.add_assoc]
theorem Opn.slice {α : Type} {d : Kd α} {t e : TypeId} {Q : α → Prop} (hu : P.underlying t = some (.slice e)) (hc : P.cellsOf e = d.sz) (h : Opn enc P W sp held d e Q) : Opn enc P W sp held (Kd.slice e d) t (fun xs => xs.length ≤ 9223372036854775807 ∧ ∀ x ∈ xs, Q x) := by
  intro fuel cs y hy
  cases fuel with
  | zero => cases hy
  | succ fuel =>
    unfold DataW.trod at hy
    rw [hu] at hy
    split at hy
    case h_7 => 
      exact ⟨[], ⟨none, 0, rfl, Nat.le_refl _, ⟨rfl, by simp, fun h => by simp at h⟩⟩, by simp, fun x hx => by cases hx⟩
    case h_8 =>
      rename_i e' a len cap e1
      cases e1
      simp only at hy
      split at hy
      · rename_i hb
        obtain ⟨_, hlc, hcm⟩ := hb
        cases hm : (List.range len).mapM (fun i => (W.cells? 0 (a.add (i * P.cellsOf e)) (P.cellsOf e)).bind (DataW.trod enc P W 0 sp held fuel e)) with
        | none => rw [hm] at hy; cases hy
        | some ys =>
          have hm9 : len ≤ 9223372036854775807 := by have : maxLen = 9223372036854775807 := rfl; omega
          obtain ⟨xs, hxl, hxs⟩ := choose_list (P := fun j x => ∃ c : List Value, c.length = d.sz ∧ d.K W x c ∧ Q x ∧ ∀ i u, c[i]? = some u → W.cell? (a.add (j * d.sz + i)) = some u) len (fun j hj => by
            obtain ⟨z, hz⟩ := mapM_each hm j (List.mem_range.2 hj)
            obtain ⟨c, hc1, hc2⟩ := Option.bind_eq_some_iff.1 hz
            obtain ⟨x, hx, hq⟩ := h fuel c z hc2
            unfold World.cells? at hc1
            rw [if_pos (Nat.zero_le _)] at hc1
            obtain ⟨h3, h4⟩ := mapM_at hc1
            refine ⟨x, c, by rw [h3, hc], hx, hq, fun i u hi => ?_⟩
            have hi' : i < P.cellsOf e := by have := (List.getElem?_eq_some_iff.1 hi).1; omega
            have := h4 i hi'
            rw [add_add', hc] at this
            rw [this, hi])
          subst hxl
          refine ⟨xs, ⟨some a, cap, rfl, hlc, ⟨rfl, hm9, fun _ => ⟨a, rfl, fun j p hp => ?_⟩⟩⟩, hm9, fun x hx => ?_⟩
          · obtain ⟨c, k1, k2, _, k4⟩ := hxs j p hp
            exact ⟨c, k1, k2, k4⟩
          · obtain ⟨j, hj⟩ := List.getElem?_of_mem hx
            obtain ⟨c, _, _, k3, _⟩ := hxs j x hj
            exact k3
      · cases hy
    all_goals first | (rename_i e _; cases e; done) | (rename_i e; cases e; done) | cases hy
/-- An argument that is a slice. -/
theorem slice_arg {α : Type} {d : Kd α} {t e : TypeId} {Q : List α → Prop} {base : Nat} {v : Value} {dt : DataW H} {p : List MemPlace} (hu : P.underlying t = some (.slice e)) (ho : Opn enc P W sp held (Kd.slice e d) t Q) (hv : Value.okWide P W .any base t v) (h : DataW.Trod enc P W 0 sp held t v dt p) :
    ∃ A c l, v = .slice A l.length c ∧ l.length ≤ c ∧ d.C W A l.length l ∧ Q l := by
  obtain ⟨a, n, c, rfl⟩ := WideShapes.okWide_slice hu hv
  obtain ⟨fuel, hf⟩ := h
  obtain ⟨l, ⟨A, c', e1, hl, hC⟩, hq⟩ := ho fuel _ _ hf
  have e2 : [Value.slice a n c] = [.slice A l.length c'] := by simpa [Value.cells] using e1
  simp only [List.cons.injEq, Value.slice.injEq, and_true] at e2
  obtain ⟨rfl, rfl, rfl⟩ := e2
  exact ⟨_, _, l, rfl, hl, hC, hq⟩
/-- An argument that is a struct or an array. -/
theorem agg_arg {α : Type} {d : Kd α} {t : TypeId} {Q : α → Prop} {base : Nat} {v : Value} {dt : DataW H} {p : List MemPlace} (hu : (match P.underlying t with | some (.struct _) | some (.array _ _) => true | _ => false) = true) (ho : Opn enc P W sp held d t Q) (hv : Value.okWide P W .any base t v) (h : DataW.Trod enc P W 0 sp held t v dt p) :
    ∃ cs x, v = .agg cs.toArray ∧ d.K W x cs ∧ Q x := by
  obtain ⟨fuel, hf⟩ := h
  obtain ⟨x, hK, hq⟩ := ho fuel _ _ hf
  unfold Value.okWide at hv
  split at hv
  · obtain ⟨cs, rfl, _⟩ := hv
    exact ⟨cs.toList, x, by simp, by simpa [Value.cells] using hK, hq⟩
  · obtain ⟨cs, rfl, _⟩ := hv
    exact ⟨cs.toList, x, by simp, by simpa [Value.cells] using hK, hq⟩
  · rename_i h1 h2
    split at hu
    · rename_i e; exact absurd e (h1 _)
    · rename_i e; exact absurd e (h2 _ _)
    · cases hu
end
end Go.Proofs.YtdemfgijfnicpaaDoor.Opens

namespace Go.Proofs.YtdemfgijfnicpaaDoor.PathP
open Go Go.Proofs.YtdemfgijfnicpaaDoor.Cut

def clean (l : List UInt8) : Bool := l.all fun c => decide (32 ≤ c.toNat) && decide (c.toNat ≤ 126)
def badPart (x : List UInt8) : Bool := x == [] || x == [46] || x == [46, 46]
/-- The parts of a path that begins by a stroke. -/
def parts (s : List UInt8) : List (List UInt8) := if s.length < 2 then [] else cut 47 (s.drop 1)
def may (s : List UInt8) : Bool := decide (s.head? = some 47) && decide (s.length ≤ 200) && clean s && (parts s).all fun x => !badPart x
def step (l : List (List UInt8)) (x : List UInt8) : List (List UInt8) := if x = [] ∨ x = [46] then l else if x = [46, 46] then l.dropLast else l ++ [x]
/-- The path of parts. -/
def whole (l : List (List UInt8)) : List UInt8 := 47 :: jn 47 l
def lead (cwd arg : List UInt8) : List UInt8 := whole ((cut 47 arg).foldl step (if arg.head? = some 47 then [] else parts cwd))
/-- Where an argument leads, and the error's number: 0 none, else by name. -/
inductive Err | ok | arg | form | over
  deriving DecidableEq
def join (cwd arg : List UInt8) : List UInt8 × Err :=
  if may cwd = false then ([], .arg) else if clean arg = false then ([], .form)
  else if 200 < (lead cwd arg).length then ([], .over) else (lead cwd arg, .ok)
def under (top s : List UInt8) : Bool := may top && may s && decide (parts top <+: parts s)

theorem parts_whole {l : List (List UInt8)} (h : ∀ x ∈ l, x ≠ [] ∧ 47 ∉ x) : parts (whole l) = l := by
  unfold parts whole
  cases l with
  | nil => simp [jn]
  | cons p r =>
    have hp := h p (List.mem_cons_self ..)
    have h1 : 0 < (jn 47 (p :: r)).length := by
      cases r with
      | nil => simp only [jn]; exact List.length_pos_iff.2 hp.1
      | cons q r => simp only [jn, List.length_append, List.length_cons]; omega
    rw [if_neg (by simp only [List.length_cons]; omega)]
    simp only [List.drop_succ_cons, List.drop_zero]
    exact cut_jn 47 _ (by simp) (fun x hx => (h x hx).2)
theorem whole_parts {s : List UInt8} (h : s.head? = some 47) : whole (parts s) = s := by
  cases s with
  | nil => cases h
  | cons c r =>
    obtain rfl : c = 47 := by simpa using h
    unfold parts whole
    by_cases hr : r = []
    · subst hr; simp [jn]
    · rw [if_neg (by have := List.length_pos_iff.2 hr; simp only [List.length_cons]; omega)]
      simp only [List.drop_succ_cons, List.drop_zero]
      rw [jn_cut]
theorem may_parts {s : List UInt8} (h : may s = true) : (∀ x ∈ parts s, x ≠ [] ∧ 47 ∉ x ∧ x ≠ [46] ∧ x ≠ [46, 46]) ∧ whole (parts s) = s := by
  simp only [may, Bool.and_eq_true, decide_eq_true_eq, List.all_eq_true] at h
  obtain ⟨⟨⟨h1, h2⟩, h3⟩, h4⟩ := h
  refine ⟨fun x hx => ?_, whole_parts h1⟩
  have hb := h4 x hx
  have h47 : 47 ∉ x := by
    unfold parts at hx
    split at hx
    · cases hx
    · exact cut_mem 47 _ x hx
  simp only [badPart, Bool.not_eq_true', Bool.or_eq_false_iff, beq_eq_false_iff_ne] at hb
  exact ⟨hb.1.1, h47, hb.1.2, hb.2⟩

/-- Each part with a stroke behind. -/
def seg : List (List UInt8) → List UInt8
  | [] => []
  | p :: r => p ++ 47 :: seg r
theorem jn_seg : ∀ {l : List (List UInt8)}, l ≠ [] → jn 47 l ++ [47] = seg l
  | [], h => absurd rfl h
  | [p], _ => by simp [jn, seg]
  | p :: q :: r, _ => by
    rw [jn, seg, List.append_assoc, List.cons_append, jn_seg (l := q :: r) (by simp)]
theorem seg_prefix : ∀ (a b : List (List UInt8)), (∀ x ∈ a, 47 ∉ x) → (∀ x ∈ b, 47 ∉ x) → (seg a <+: seg b ↔ a <+: b)
  | [], b, _, _ => by simp [seg]
  | p :: a, [], _, _ => by simp [seg]
  | p :: a, q :: b, ha, hb => by
    have ih := seg_prefix a b (fun x hx => ha x (List.mem_cons_of_mem _ hx)) (fun x hx => hb x (List.mem_cons_of_mem _ hx))
    rw [List.cons_prefix_cons, ← ih, seg, seg]
    constructor
    · rintro ⟨t, ht⟩
      have h1 := congrArg (cut 47) ht
      rw [List.append_assoc, List.cons_append, cut_app 47 _ p (ha p (List.mem_cons_self ..)), cut_app 47 _ q (hb q (List.mem_cons_self ..))] at h1
      have hpq : p = q := (List.cons.inj h1).1
      subst hpq
      rw [List.append_assoc, List.cons_append] at ht
      have h2 := List.append_cancel_left ht
      exact ⟨rfl, t, (List.cons.inj h2).2⟩
    · rintro ⟨rfl, t, ht⟩
      exact ⟨t, by rw [List.append_assoc, List.cons_append, ht]⟩
/-- Below, as the code sees it. -/
theorem under_prefix {top s : List UInt8} (ht : may top = true) (hs : may s = true) : (top = [47] ∨ (top ++ [47]) <+: (s ++ [47])) ↔ parts top <+: parts s := by
  obtain ⟨a1, a2⟩ := may_parts ht
  obtain ⟨b1, b2⟩ := may_parts hs
  have hsp := seg_prefix (parts top) (parts s) (fun x hx => (a1 x hx).2.1) (fun x hx => (b1 x hx).2.1)
  by_cases h0 : parts top = []
  · rw [h0] at a2 ⊢
    simp only [List.nil_prefix, iff_true]
    exact .inl (by rw [← a2]; rfl)
  · have hne : top ≠ [47] := fun e => h0 (by rw [e]; rfl)
    have e1 : top ++ [47] = 47 :: seg (parts top) := by
      conv => lhs; rw [← a2]
      rw [whole, List.cons_append, jn_seg h0]
    by_cases h1 : parts s = []
    · have e2 : s ++ [47] = [47, 47] := by
        conv => lhs; rw [← b2, h1]
        rfl
      rw [h1, e1, e2, List.prefix_nil]
      constructor
      · rintro (h | h)
        · exact absurd h hne
        · exfalso
          cases hp : parts top with
          | nil => exact h0 hp
          | cons p r =>
            rw [hp, seg] at h
            have hp0 := (a1 p (by rw [hp]; exact List.mem_cons_self ..)).1
            have := h.length_le
            have hpl := List.length_pos_iff.2 hp0
            simp only [List.length_cons, List.length_append, List.length_nil] at this
            omega
      · intro h; exact absurd h h0
    · have e2 : s ++ [47] = 47 :: seg (parts s) := by
        conv => lhs; rw [← b2]
        rw [whole, List.cons_append, jn_seg h1]
      rw [e1, e2, List.cons_prefix_cons]
      simp only [true_and, hsp]
      exact ⟨fun h => h.elim (fun h => absurd h hne) id, .inr⟩
end Go.Proofs.YtdemfgijfnicpaaDoor.PathP

namespace Go.Proofs.YtdemfgijfnicpaaDoor.PathP
open Go Go.Proofs.YtdemfgijfnicpaaDoor.Cut

def good (x : List UInt8) : Prop := x ≠ [] ∧ 47 ∉ x ∧ x ≠ [46] ∧ x ≠ [46, 46] ∧ clean x = true
theorem clean_app (a b : List UInt8) : clean (a ++ b) = (clean a && clean b) := by simp [clean]
theorem clean_cons (c : UInt8) (b : List UInt8) : clean (c :: b) = (clean [c] && clean b) := by simp [clean]
theorem clean47 : clean [47] = true := by decide
theorem clean_jn : ∀ l : List (List UInt8), clean (jn 47 l) = true ↔ ∀ x ∈ l, clean x = true
  | [] => by simp [jn, clean]
  | [p] => by simp [jn]
  | p :: q :: r => by
    have ih := clean_jn (q :: r)
    rw [jn, clean_app, clean_cons, clean47, Bool.true_and, Bool.and_eq_true, ih]; simp
theorem clean_cut {l : List UInt8} (h : clean l = true) : ∀ x ∈ cut 47 l, clean x = true := by
  rw [← clean_jn, jn_cut]; exact h
theorem may_good {s : List UInt8} (h : may s = true) : (∀ x ∈ parts s, good x) ∧ whole (parts s) = s ∧ s.length ≤ 200 := by
  obtain ⟨h1, h2⟩ := may_parts h
  simp only [may, Bool.and_eq_true, decide_eq_true_eq] at h
  have hc : clean (jn 47 (parts s)) = true := by
    have := h.1.2
    rw [← h2, whole, clean_cons, clean47, Bool.true_and] at this
    exact this
  exact ⟨fun x hx => ⟨(h1 x hx).1, (h1 x hx).2.1, (h1 x hx).2.2.1, (h1 x hx).2.2.2, (clean_jn _).1 hc x hx⟩, h2, h.1.1.2⟩
theorem good_may {l : List (List UInt8)} (h : ∀ x ∈ l, good x) (hl : (whole l).length ≤ 200) : may (whole l) = true ∧ parts (whole l) = l := by
  have hp := parts_whole (fun x hx => ⟨(h x hx).1, (h x hx).2.1⟩)
  refine ⟨?_, hp⟩
  simp only [may, Bool.and_eq_true, decide_eq_true_eq, List.all_eq_true, hp]
  refine ⟨⟨⟨rfl, hl⟩, ?_⟩, fun x hx => ?_⟩
  · rw [whole, clean_cons, clean47, Bool.true_and]
    exact (clean_jn l).2 fun x hx => (h x hx).2.2.2.2
  · obtain ⟨a, b, c, d, e⟩ := h x hx
    simp [badPart, a, c, d]
theorem step_good {l : List (List UInt8)} {x : List UInt8} (h : ∀ y ∈ l, good y) (h47 : 47 ∉ x) (hc : clean x = true) : ∀ y ∈ step l x, good y := by
  unfold step
  split
  · exact h
  · split
    · intro y hy; exact h y (List.dropLast_subset _ hy)
    · rename_i h1 h2
      intro y hy
      rcases List.mem_append.1 hy with hy | hy
      · exact h y hy
      · rw [List.mem_singleton] at hy; subst hy
        exact ⟨fun e => h1 (.inl e), h47, fun e => h1 (.inr e), h2, hc⟩
theorem fold_good : ∀ (xs l : List (List UInt8)), (∀ y ∈ l, good y) → (∀ x ∈ xs, 47 ∉ x ∧ clean x = true) → ∀ y ∈ xs.foldl step l, good y
  | [], _, h, _ => h
  | x :: xs, l, h, hx => fold_good xs (step l x) (step_good h (hx x (List.mem_cons_self ..)).1 (hx x (List.mem_cons_self ..)).2) (fun z hz => hx z (List.mem_cons_of_mem _ hz))
/-- Of good parts nothing is dropped. -/
theorem fold_plain : ∀ (xs l : List (List UInt8)), (∀ x ∈ xs, good x) → xs.foldl step l = l ++ xs
  | [], l, _ => by simp
  | x :: xs, l, h => by
    have hx := h x (List.mem_cons_self ..)
    rw [List.foldl_cons, step, if_neg (fun e => e.elim hx.1 hx.2.2.1), if_neg hx.2.2.2.1, fold_plain xs _ (fun z hz => h z (List.mem_cons_of_mem _ hz)), List.append_assoc]
    rfl
/-- Where an argument leads may be. -/
theorem join_may {cwd arg : List UInt8} (h : (join cwd arg).2 = .ok) : may (join cwd arg).1 = true ∧ parts (join cwd arg).1 = (cut 47 arg).foldl step (if arg.head? = some 47 then [] else parts cwd) ∧ may cwd = true ∧ clean arg = true ∧ (join cwd arg).1 = lead cwd arg := by
  unfold join at h ⊢
  split at h
  · cases h
  · rename_i h1
    split at h
    · cases h
    · rename_i h2
      split at h
      · cases h
      · rename_i h3
        rw [if_neg h1, if_neg h2, if_neg h3]
        have hm : may cwd = true := by simpa using h1
        have hc : clean arg = true := by simpa using h2
        have hg := fold_good (cut 47 arg) (if arg.head? = some 47 then [] else parts cwd) (by split; · simp
                                                                                              · exact (may_good hm).1) (fun x hx => ⟨cut_mem 47 _ x hx, clean_cut hc x hx⟩)
        have := good_may hg (by simp only [lead] at h3; omega)
        exact ⟨this.1, this.2, hm, hc, rfl⟩
end Go.Proofs.YtdemfgijfnicpaaDoor.PathP

namespace Go.Proofs.YtdemfgijfnicpaaDoor.Path
open Go Go.RowKit Go.Proofs.YtdemfgijfnicpaaDoorW.PrintWords Go.Proofs.YtdemfgijfnicpaaDoorW.PrintLast Go.Proofs.YtdemfgijfnicpaaDoorW.PrintMore Go.Proofs.YtdemfgijfnicpaaDoor.Quad
set_option linter.unusedVariables false
set_option linter.unusedSimpArgs false

set_option maxHeartbeats 1000000 in
set_option maxRecDepth 100000 in
theorem clean_calls (s : ByteArray) (hs : s.size ≤ 1000000) (w : World) :
    Calls Tryd.prog 24 #[.string s] w fun e w' => e = .returned (.bool (PathP.clean s.data.toList)) ∧ w' = w := by
  obtain ⟨R, hR⟩ : ∃ R, R = PathP.clean s.data.toList := ⟨_, rfl⟩
  rw [← hR]
  have HR := Aside0.mk hR
  clear hR
  have HL := Aside0.mk (data_length s)
  go_enter Tryd.func24, Tryd.ntmps24
  go_wp2
  go_loop [6] (fun i_ => ∃ k : Nat, k ≤ s.size ∧ i_ = .int .i64 k ∧ Aside0 (PathP.clean (s.data.toList.take k) = true)) (fun i_ => s.size - (intOf i_).toNat)
  case atStart => exact ⟨0, Nat.zero_le _, rfl, ⟨rfl⟩⟩
  case round =>
    obtain ⟨k, hk, rfl, HA⟩ := hrel
    by_cases hlt : k < s.size
    · have hk6 : k < 1000000 := by omega
      have hk' : k < s.data.toList.length := by rw [HL.out]; exact hlt
      obtain ⟨c, hc⟩ : ∃ c, c = s.data.toList[k] := ⟨_, rfl⟩
      obtain ⟨x, hx⟩ : ∃ x : Nat, x = c.toNat := ⟨_, rfl⟩
      have hckc : ∀ h : k < s.size, ((s[k]'h).toNat : Int) = (x : Int) := fun h => by rw [hx, hc, ← bt_byte s k hk']; exact bt_at s k h
      have hnext : PathP.clean (s.data.toList.take (k + 1)) = (decide (32 ≤ x) && decide (x ≤ 126)) := by
        rw [List.take_succ_eq_append_getElem hk', PathP.clean_app, HA.out, ← hc, hx]
        simp [PathP.clean]
      have hall : R = true → (decide (32 ≤ x) && decide (x ≤ 126)) = true := fun h => by
        rw [HR.out, PathP.clean, List.all_eq_true] at h
        rw [hx]; exact h c (by rw [hc]; exact List.getElem_mem _)
      have HN := Aside0.mk (And.intro hnext hall)
      clear hc hx hnext hall
      by_cases h1 : x < 32
      · have hlo : decide ((x : Int) < 32) = true := decide_eq_true (by omega)
        have hF : R = false := by
          cases hR : R
          · rfl
          · have := HN.out.2 hR; simp at this; omega
        clear h1
        go_wp2
        go_ret
        exact ⟨by first | (rw [hF]; rfl) | rfl, rfl⟩
      · have hlo : decide ((x : Int) < 32) = false := decide_eq_false (by omega)
        by_cases h2 : 126 < x
        · have hhi : decide (126 < (x : Int)) = true := decide_eq_true (by omega)
          have hF : R = false := by
            cases hR : R
            · rfl
            · have := HN.out.2 hR; simp at this; omega
          clear h1 h2
          go_wp2
          go_ret
          exact ⟨by first | (rw [hF]; rfl) | rfl, rfl⟩
        · have hhi : decide (126 < (x : Int)) = false := decide_eq_false (by omega)
          have HN2 := Aside0.mk (show PathP.clean (s.data.toList.take (k + 1)) = true from by rw [HN.out.1]; simp; omega)
          clear h1 h2
          go_wp2
          go_round
          case rel => exact ⟨k + 1, by omega, by go_num, HN2⟩
          case measure => simp [intOf]; omega
    · obtain rfl : k = s.size := by omega
      have hF : R = true := by
        rw [HR.out, ← HA.out, List.take_of_length_le (by rw [HL.out]; exact Nat.le_refl _)]
      clear HA
      go_wp2
      go_ret
      exact ⟨by first | (rw [hF]; rfl) | rfl, rfl⟩

set_option maxHeartbeats 1000000 in
set_option maxRecDepth 100000 in
theorem ref_clean_calls (s : ByteArray) (hs : s.size ≤ 1000000) (w : World) :
    Calls Tryd.prog 28 #[.string s] w fun e w' => e = .returned (.bool (PathP.clean s.data.toList)) ∧ w' = w := by
  obtain ⟨R, hR⟩ : ∃ R, R = PathP.clean s.data.toList := ⟨_, rfl⟩
  rw [← hR]
  have HR := Aside0.mk hR
  clear hR
  have HL := Aside0.mk (data_length s)
  go_enter Tryd.func28, Tryd.ntmps28
  go_wp2
  go_loop [3] (fun i_ => ∃ k : Nat, k ≤ s.size ∧ i_ = .int .i64 k ∧ Aside0 (PathP.clean (s.data.toList.take k) = true)) (fun i_ => s.size - (intOf i_).toNat)
  case atStart => exact ⟨0, Nat.zero_le _, rfl, ⟨rfl⟩⟩
  case round =>
    obtain ⟨k, hk, rfl, HA⟩ := hrel
    by_cases hlt : k < s.size
    · have hk6 : k < 1000000 := by omega
      have hk' : k < s.data.toList.length := by rw [HL.out]; exact hlt
      obtain ⟨c, hc⟩ : ∃ c, c = s.data.toList[k] := ⟨_, rfl⟩
      obtain ⟨x, hx⟩ : ∃ x : Nat, x = c.toNat := ⟨_, rfl⟩
      have hckc : ∀ h : k < s.size, ((s[k]'h).toNat : Int) = (x : Int) := fun h => by rw [hx, hc, ← bt_byte s k hk']; exact bt_at s k h
      have hnext : PathP.clean (s.data.toList.take (k + 1)) = (decide (32 ≤ x) && decide (x ≤ 126)) := by
        rw [List.take_succ_eq_append_getElem hk', PathP.clean_app, HA.out, ← hc, hx]
        simp [PathP.clean]
      have hall : R = true → (decide (32 ≤ x) && decide (x ≤ 126)) = true := fun h => by
        rw [HR.out, PathP.clean, List.all_eq_true] at h
        rw [hx]; exact h c (by rw [hc]; exact List.getElem_mem _)
      have HN := Aside0.mk (And.intro hnext hall)
      clear hc hx hnext hall
      by_cases h1 : x < 32
      · have hlo : decide ((x : Int) < 32) = true := decide_eq_true (by omega)
        have hF : R = false := by
          cases hR : R
          · rfl
          · have := HN.out.2 hR; simp at this; omega
        clear h1
        go_wp2
        go_ret
        exact ⟨by first | (rw [hF]; rfl) | rfl, rfl⟩
      · have hlo : decide ((x : Int) < 32) = false := decide_eq_false (by omega)
        by_cases h2 : 126 < x
        · have hhi : decide (126 < (x : Int)) = true := decide_eq_true (by omega)
          have hF : R = false := by
            cases hR : R
            · rfl
            · have := HN.out.2 hR; simp at this; omega
          clear h1 h2
          go_wp2
          go_ret
          exact ⟨by first | (rw [hF]; rfl) | rfl, rfl⟩
        · have hhi : decide (126 < (x : Int)) = false := decide_eq_false (by omega)
          have HN2 := Aside0.mk (show PathP.clean (s.data.toList.take (k + 1)) = true from by rw [HN.out.1]; simp; omega)
          clear h1 h2
          go_wp2
          go_round
          case rel => exact ⟨k + 1, by omega, by go_num, HN2⟩
          case measure => simp [intOf]; omega
    · obtain rfl : k = s.size := by omega
      have hF : R = true := by
        rw [HR.out, ← HA.out, List.take_of_length_le (by rw [HL.out]; exact Nat.le_refl _)]
      clear HA
      go_wp2
      go_ret
      exact ⟨by first | (rw [hF]; rfl) | rfl, rfl⟩
end Go.Proofs.YtdemfgijfnicpaaDoor.Path

namespace Go.Proofs.YtdemfgijfnicpaaDoor.Quad
open Go Go.RowKit Go.Proofs.YtdemfgijfnicpaaDoorW.PrintWords Go.Proofs.YtdemfgijfnicpaaDoorW.PrintLast Go.Proofs.YtdemfgijfnicpaaDoorW.PrintMore Go.Proofs.YtdemfgijfnicpaaDoor.Dig
set_option linter.unusedVariables false
set_option linter.unusedSimpArgs false

/-- The parts that are done, and where the next one begins, behind k bytes. -/
def CInv (by_ : UInt8) (l : List UInt8) (k from_ : Nat) (out : List (List UInt8)) : Prop :=
  from_ ≤ k ∧ k ≤ l.length ∧ by_ ∉ (l.take k).drop from_ ∧ Cut.cut by_ l = out ++ Cut.cut by_ (l.drop from_) ∧ out.length ≤ k
theorem CInv.start (b : UInt8) (l : List UInt8) : CInv b l 0 0 [] := ⟨Nat.le_refl _, Nat.zero_le _, by simp, by simp, by simp⟩
theorem take_split (l : List UInt8) (k f : Nat) (hf : f ≤ k) (hk : k ≤ l.length) : l.drop f = (l.take k).drop f ++ l.drop k := by
  have : l = l.take k ++ l.drop k := (List.take_append_drop k l).symm
  have h := congrArg (List.drop f) this
  rwa [List.drop_append_of_le_length (by rw [List.length_take]; omega)] at h
theorem CInv.skip {b : UInt8} {l : List UInt8} {k f : Nat} {out : List (List UInt8)} (h : CInv b l k f out) (hk : k < l.length) (hb : l[k] ≠ b) : CInv b l (k + 1) f out := by
  obtain ⟨h1, h2, h3, h4, h5⟩ := h
  refine ⟨by omega, hk, ?_, h4, by omega⟩
  rw [List.take_succ_eq_append_getElem hk, List.drop_append_of_le_length (by rw [List.length_take]; omega), List.mem_append, List.mem_singleton]
  rintro (h | h)
  · exact h3 h
  · exact hb h.symm
theorem CInv.hit {b : UInt8} {l : List UInt8} {k f : Nat} {out : List (List UInt8)} (h : CInv b l k f out) (hk : k < l.length) (hb : l[k] = b) : CInv b l (k + 1) (k + 1) (out ++ [(l.take k).drop f]) := by
  obtain ⟨h1, h2, h3, h4, h5⟩ := h
  refine ⟨Nat.le_refl _, hk, by simp, ?_, by simp; omega⟩
  rw [h4, take_split l k f h1 h2, List.drop_eq_getElem_cons hk, hb, Cut.cut_app b _ _ h3, List.append_assoc]
  rfl
theorem CInv.done {b : UInt8} {l : List UInt8} {f : Nat} {out : List (List UInt8)} (h : CInv b l l.length f out) : Cut.cut b l = out ++ [l.drop f] := by
  obtain ⟨h1, h2, h3, h4, h5⟩ := h
  rw [List.take_length] at h3
  rw [h4, Cut.cut_plain b _ h3]
theorem extract_list (s : ByteArray) (f k : Nat) (h : k ≤ s.size) : (s.extract f k).data.toList = (s.data.toList.take k).drop f := by
  have h1 : (s.extract f k).data.toList = (s.data.toList.drop f).take (k - f) := by simp [ByteArray.data_extract, Array.toList_extract, List.extract]
  rw [h1, List.drop_take]

def str (l : List UInt8) : Value := .string ⟨l.toArray⟩
theorem piece_of (s : ByteArray) (f k : Nat) (h : k ≤ s.size) : s.extract f k = ⟨((s.data.toList.take k).drop f).toArray⟩ := by
  apply ByteArray.ext; apply Array.ext'
  rw [extract_list s f k h]
theorem slice_fk (s : ByteArray) (f k : Nat) (hf : f ≤ k) (hk : k ≤ s.size) (W : World) : (Instr.slice 9 (.string s) (some (.int .i64 f)) (some (.int .i64 k)) none).run Tryd.prog W = .ok (.string ⟨((s.data.toList.take k).drop f).toArray⟩) W := by
  rw [run_slice_string W 9 _ .i64 .i64 (f : Int) (k : Int) Tryd.underlying9 (by omega) (by omega) (by omega)]
  rw [show ((f : Int)).toNat = f from by omega, show ((k : Int)).toNat = k from by omega, piece_of s f k hk]
theorem slice_f (s : ByteArray) (f : Nat) (hf : f ≤ s.size) (W : World) : (Instr.slice 9 (.string s) (some (.int .i64 f)) none none).run Tryd.prog W = .ok (.string ⟨(s.data.toList.drop f).toArray⟩) W := by
  rw [run_slice_string_from_if W 9 s .i64 (f : Int) Tryd.underlying9, if_pos (by omega)]
  rw [show ((f : Int)).toNat = f from by omega, piece_of s f s.size (Nat.le_refl _), List.take_of_length_le (by rw [data_length]; exact Nat.le_refl _)]

set_option maxHeartbeats 1000000 in
set_option maxRecDepth 100000 in
theorem ref_cut_calls (s : ByteArray) (b : UInt8) (hs : s.size ≤ 1000000) (w : World) :
    Calls Tryd.prog 33 #[.string s, .int .u8 (b.toNat : Int)] w fun e w' => ∃ v, e = .returned v ∧ w'.ownsRow w.heap.size 9 1 v (Cut.cut b s.data.toList).length ((Cut.cut b s.data.toList).map str) ∧ Below w.heap.size w w' := by
  obtain ⟨R, hR⟩ : ∃ R, R = Cut.cut b s.data.toList := ⟨_, rfl⟩
  have HR := Aside0.mk hR
  rw [← hR]
  clear hR
  have HL := Aside0.mk (data_length s)
  have HSZ := Aside0.mk hs
  obtain ⟨y, hy⟩ : ∃ y : Nat, y = b.toNat := ⟨_, rfl⟩
  rw [← hy]
  have HY := Aside0.mk hy
  clear hy
  obtain ⟨i0, hi, hz0, hz1, hz2⟩ := info_parts info9
  have HI := Aside0.mk (And.intro hi (And.intro hz0 (And.intro hz1 hz2)))
  clear hi hz0 hz1 hz2
  go_enter Tryd.func33, Tryd.ntmps33
  go_wp2
  go_loopw [5, 6, 7] (fun v f_ i wr => ∃ (k f : Nat) (out : List (List UInt8)), i = .int .i64 k ∧ f_ = .int .i64 f ∧ k ≤ s.size ∧ Aside0 (CInv b s.data.toList k f out) ∧ Aside0 (wr.ownsRow w.heap.size 9 1 v out.length (out.map str)) ∧ Aside0 (Below w.heap.size w wr)) (fun _ _ i _ => s.size - (intOf i).toNat)
  case atStart => exact ⟨0, 0, [], rfl, rfl, Nat.zero_le _, ⟨CInv.start _ _⟩, ⟨own_nil _ _ _ _⟩, ⟨Below.refl _ _⟩⟩
  case round =>
    obtain ⟨k, f, out, rfl, rfl, hk, HC, HO, HB⟩ := hrel
    have HS := Aside0.mk HB.out.size
    obtain ⟨N, hN⟩ : ∃ N : Nat, N = out.length := ⟨_, rfl⟩
    have HN := Aside0.mk hN
    have HO1 : Aside0 (wr.ownsRow w.heap.size 9 1 u5 N (out.map str)) := ⟨by rw [hN]; exact HO.out⟩
    have hNk : N ≤ 1000000 := by have := HC.out.2.2.2.2; omega
    clear hN HO
    by_cases hlt : k < s.size
    · have hk' : k < s.data.toList.length := by rw [HL.out]; exact hlt
      obtain ⟨c, hc⟩ : ∃ c, c = s.data.toList[k] := ⟨_, rfl⟩
      obtain ⟨x, hx⟩ : ∃ x : Nat, x = c.toNat := ⟨_, rfl⟩
      have hckc : ∀ h : k < s.size, ((s[k]'h).toNat : Int) = (x : Int) := fun h => by rw [hx, hc, ← bt_byte s k hk']; exact bt_at s k h
      have hk6 : k < 1000000 := by omega
      have hw : wrap64 ((k : Int) + 1) = ((k + 1 : Nat) : Int) := by unfold wrap64; omega
      by_cases hb : c = b
      · have hcmp : ((x : Int) == (y : Int)) = true := by rw [hx, hb, HY.out]; simp
        have HC2 := Aside0.mk (HC.out.hit hk' (hc.symm.trans hb))
        have hsl := slice_fk s f k HC.out.1 (by omega)
        obtain ⟨pc, hpc⟩ : ∃ pc : ByteArray, pc = ⟨((s.data.toList.take k).drop f).toArray⟩ := ⟨_, rfl⟩
        rw [← hpc] at hsl
        have HPC := Aside0.mk (show Value.string pc = str ((s.data.toList.take k).drop f) from by rw [hpc]; rfl)
        clear hpc hc hx hb
        go_wp2_with ((with_reducible refine Laws.gate 25 rfl ?_); refine Laws.append_any rfl (.tmp 19) (.tmp 24) 40 rfl w.heap.size 9 i0 (.string ⟨#[]⟩) 1 16 Tryd.underlying40 HI.out.1 HI.out.2.1 HI.out.2.2.1 HI.out.2.2.2 rfl (by decide) _ _ _ rfl (HO1.out.alloc _) (some ⟨wr.heap.size, 0, none⟩) 1 1 [.string pc] rfl rfl (fun _ => ⟨_, rfl, Laws.new_cells wr _ _ _ rfl⟩) (fun u hu => by simp at hu; subst hu; rfl) (by simp only [maxLen]; omega) (by omega) (Nat.le_trans HB.out.size (by simp)) ?_; intro v6 w6 ho6 hg6 hn6 hl6; have HO6 := Aside0.mk (show w6.ownsRow w.heap.size 9 1 v6 (out ++ [(s.data.toList.take k).drop f]).length ((out ++ [(s.data.toList.take k).drop f]).map str) from by rw [List.length_append, List.map_append, ← HN.out]; simpa [HPC.out] using ho6); have HB6 := Aside0.mk (show Below w.heap.size w w6 from ((HB.out.alloc HB.out.size _).grown hg6 (Nat.le_trans HB.out.size (by simp)) (fun k h => Laws.own_ge HO1.out k h))); clear ho6 hg6 hn6 hl6)
        go_roundw
        case rel => exact ⟨k + 1, k + 1, _, by go_num, by go_num, by omega, HC2, HO6, HB6⟩
        case measure => simp [intOf]; omega
      · have hcmp : ((x : Int) == (y : Int)) = false := by
          rw [hx, HY.out]; refine beq_eq_false_iff_ne.2 (fun e => hb (UInt8.toNat_inj.1 (by omega)))
        have HC2 := Aside0.mk (HC.out.skip hk' (by rw [← hc]; exact hb))
        clear hc hx hb
        go_wp2
        go_roundw
        case rel => exact ⟨k + 1, f, out, by go_num, rfl, by omega, HC2, ⟨by rw [← HN.out]; exact HO1.out⟩, HB⟩
        case measure => simp [intOf]; omega
    · obtain rfl : k = s.size := by omega
      have hfs : f ≤ s.size := HC.out.1
      have hsl := slice_f s f hfs
      obtain ⟨pc, hpc⟩ : ∃ pc : ByteArray, pc = ⟨(s.data.toList.drop f).toArray⟩ := ⟨_, rfl⟩
      rw [← hpc] at hsl
      have HPC := Aside0.mk (show Value.string pc = str (s.data.toList.drop f) from by rw [hpc]; rfl)
      have HE := Aside0.mk (show R = out ++ [s.data.toList.drop f] from by
        have h := HC.out
        rw [← HL.out] at h
        rw [HR.out]; exact h.done)
      clear hpc hfs
      go_wp2_with ((with_reducible refine Laws.gate 33 rfl ?_); refine Laws.append_any rfl (.tmp 28) (.tmp 32) 40 rfl w.heap.size 9 i0 (.string ⟨#[]⟩) 1 16 Tryd.underlying40 HI.out.1 HI.out.2.1 HI.out.2.2.1 HI.out.2.2.2 rfl (by decide) _ _ _ rfl (HO1.out.alloc _) (some ⟨wr.heap.size, 0, none⟩) 1 1 [.string pc] rfl rfl (fun _ => ⟨_, rfl, Laws.new_cells wr _ _ _ rfl⟩) (fun u hu => by simp at hu; subst hu; rfl) (by simp only [maxLen]; omega) (by omega) (Nat.le_trans HB.out.size (by simp)) ?_; intro v6 w6 ho6 hg6 hn6 hl6; have HO6 := Aside0.mk (show w6.ownsRow w.heap.size 9 1 v6 R.length (R.map str) from by rw [HE.out, List.length_append, List.map_append, ← HN.out]; simpa [HPC.out] using ho6); have HB6 := Aside0.mk (show Below w.heap.size w w6 from ((HB.out.alloc HB.out.size _).grown hg6 (Nat.le_trans HB.out.size (by simp)) (fun k h => Laws.own_ge HO1.out k h))); clear ho6 hg6 hn6 hl6)
      go_ret
      exact ⟨_, rfl, HO6.out, HB6.out⟩
end Go.Proofs.YtdemfgijfnicpaaDoor.Quad

namespace Go.Proofs.YtdemfgijfnicpaaDoor.Row
open Go Go.RowKit Go.Proofs.YtdemfgijfnicpaaDoorW.PrintWords

/-- A slice of one-cell elements in a block of the call's own: grown by it, or full. -/
def Lies (w : World) (base : Nat) (e : TypeId) (v : Value) (xs : List Value) : Prop :=
  w.ownsRow base e 1 v xs.length xs ∨
  ∃ g, v = .slice (some ⟨g, 0, none⟩) xs.length xs.length ∧ g < w.heap.size ∧ ∀ (j : Nat) x, xs[j]? = some x → w.cell? ⟨g, 0 + j, none⟩ = some x

theorem Lies.nil (w : World) (base : Nat) (e : TypeId) : Lies w base e (.slice none 0 0) [] := .inl (own_nil _ _ _ _)
theorem Lies.form {w : World} {base : Nat} {e : TypeId} {v : Value} {xs : List Value} (h : Lies w base e v xs) :
    (v = .slice none 0 0 ∧ xs = []) ∨ ∃ g c, v = .slice (some ⟨g, 0, none⟩) xs.length c ∧ xs.length ≤ c ∧ g < w.heap.size ∧ ∀ (j : Nat) x, xs[j]? = some x → w.cell? ⟨g, 0 + j, none⟩ = some x := by
  rcases h with h | ⟨g, h1, h3, h4⟩
  · by_cases h0 : xs = []
    · subst h0
      rcases h.2 with ⟨h1, _⟩ | ⟨g, cap, cur, h1, h2, h3, h4, _⟩
      · exact .inl ⟨h1, rfl⟩
      · exact .inr ⟨g, cap, h1, h4, blk_lt h3, fun j x hx => by simp at hx⟩
    · obtain ⟨g, c, h1, h2, h3, h4, h5⟩ := Laws.own_cells h (List.length_pos_iff.2 h0)
      exact .inr ⟨g, c, h1, h2, h4, h5⟩
  · exact .inr ⟨g, xs.length, h1, Nat.le_refl _, h3, h4⟩
/-- As it is read: one form, a nil slice too. -/
theorem Lies.read {w : World} {base : Nat} {e : TypeId} {v : Value} {xs : List Value} (h : Lies w base e v xs) :
    ∃ A c, v = .slice A xs.length c ∧ xs.length ≤ c ∧ ∀ (j : Nat) x, xs[j]? = some x → ∃ g, A = some ⟨g, 0, none⟩ ∧ g < w.heap.size ∧ w.cell? ⟨g, j, none⟩ = some x := by
  rcases h.form with ⟨rfl, rfl⟩ | ⟨g, c, rfl, hc, hg, hx⟩
  · exact ⟨none, 0, rfl, Nat.le_refl _, fun j x hx => by simp at hx⟩
  · exact ⟨_, c, rfl, hc, fun j x hj => ⟨g, rfl, hg, by have := hx j x hj; rwa [Nat.zero_add] at this⟩⟩
theorem Lies.readN {w : World} {base : Nat} {e : TypeId} {v : Value} {xs : List Value} (h : Lies w base e v xs) :
    ∃ A N c, v = .slice A N c ∧ N = xs.length ∧ N ≤ c ∧ ∀ (j : Nat) x, xs[j]? = some x → ∃ g, A = some ⟨g, 0, none⟩ ∧ g < w.heap.size ∧ w.cell? ⟨g, j, none⟩ = some x := by
  obtain ⟨A, c, h1, h2, h3⟩ := h.read
  exact ⟨A, _, c, h1, rfl, h2, h3⟩
theorem Lies.below {w w' : World} {base : Nat} {e : TypeId} {v : Value} {xs : List Value} (h : Lies w base e v xs) (hb : Below w.heap.size w w') : Lies w' base e v xs := by
  rcases h with h | ⟨g, h1, h3, h4⟩
  · exact .inl (own_move h (fun j hj => hb.block j (own_lt h j hj)))
  · exact .inr ⟨g, h1, Nat.lt_of_lt_of_le h3 hb.size, fun j x hx => (hb.cell h3).trans (h4 j x hx)⟩
theorem Lies.alloc {w : World} {base : Nat} {e : TypeId} {v : Value} {xs : List Value} (h : Lies w base e v xs) (o : Obj) : Lies (w.alloc o) base e v xs := h.below ((Below.refl _ _).alloc (Nat.le_refl _) o)
/-- A new block, whole. -/
theorem Lies.whole (w : World) (base : Nat) (e T : TypeId) (xs : List Value) : Lies (w.alloc (.cells xs.toArray T)) base e (.slice (some ⟨w.heap.size, 0, none⟩) xs.length xs.length) xs := by
  refine .inr ⟨w.heap.size, rfl, by simp, fun j x hx => ?_⟩
  have := Laws.new_cells w xs T xs.toArray rfl j x hx
  rw [add_plain] at this
  rw [Nat.zero_add]; exact this
/-- All but the last, with no room behind. -/
theorem Lies.last {w : World} {base : Nat} {e : TypeId} {xs : List Value} {g n c : Nat} (h : Lies w base e (.slice (some ⟨g, 0, none⟩) n c) xs) (n' : Nat) (hn' : n' = n - 1) : Lies w base e (.slice (some ⟨g, 0, none⟩) n' n') xs.dropLast := by
  rcases h.form with ⟨h1, _⟩ | ⟨g', c', h1, h2, h4, h5⟩
  · cases h1
  · cases h1
    have hl : n' = xs.dropLast.length := by rw [hn', List.length_dropLast]
    rw [hl]
    refine .inr ⟨g, rfl, h4, fun j x hx => h5 j x ?_⟩
    have hj := (List.getElem?_eq_some_iff.1 hx).1
    rw [List.dropLast_eq_take, List.getElem?_take_of_lt (by rw [List.length_dropLast] at hj; exact hj)] at hx
    exact hx
/-- All but the last of a row of the call's own, with room behind. -/
theorem own_last {w : World} {base : Nat} {e : TypeId} {xs : List Value} {g n c : Nat} (h : w.ownsRow base e 1 (.slice (some ⟨g, 0, none⟩) n c) n xs) (n' : Nat) (hn' : n' = n - 1) : w.ownsRow base e 1 (.slice (some ⟨g, 0, none⟩) n' c) n' xs.dropLast := by
  obtain ⟨h1, h2⟩ := h
  rcases h2 with ⟨h2, _⟩ | ⟨g', cap, cur, h2, hg, hh, hc, hm, hs, ht⟩
  · cases h2
  · cases h2
    refine ⟨by rw [List.length_dropLast]; omega, .inr ⟨g, c, cur, rfl, hg, hh, by omega, hm, hs, ?_⟩⟩
    rw [List.dropLast_eq_take, ← ht, List.take_take]
    congr 1
    have : ((cur.toList.take (n * 1)).length) = n * 1 := by rw [ht]; exact h1
    omega

theorem own_mono {w : World} {base base' : Nat} {e : TypeId} {size n : Nat} {v : Value} {xs : List Value} (h : w.ownsRow base e size v n xs) (hb : base' ≤ base) : w.ownsRow base' e size v n xs := by
  obtain ⟨h1, h2⟩ := h
  rcases h2 with h2 | ⟨g, cap, cur, h3, h4, h5⟩
  · exact ⟨h1, .inl h2⟩
  · exact ⟨h1, .inr ⟨g, cap, cur, h3, Nat.le_trans hb h4, h5⟩⟩
section
variable {P : Program} {ops : Array Oper} {rest : List Oper} {o : Oper} {a : Act} {Q : Exit → Act → World → Prop} {w : World}
/-- An append of some elements to a row that lies so. -/
theorem append (hgd : o.guard = none) (s x : Operand) (t : TypeId)
    (ho : o.op = .call { callee := .builtin .append, args := #[s, x], argTypes := #[t, t] })
    (base : Nat) (e : TypeId) (i : TypeInfo) (z : Value) (bytes : Nat) (ht : P.underlying t = some (.slice e)) (hi : P.info? e = some i) (hz : i.zero = some z)
    (hsize : i.size = 1) (hby : i.bytes = bytes) (hzs : z.cells.size = 1)
    (v : Value) (xs : List Value) (hs : a.eval s = v) (hown : Lies w base e v xs)
    (ad : Addr) (m c : Nat) (news : List Value) (hx : a.eval x = .slice (some ad) m c) (hl : news.length = m) (hm : 0 < m) (hnews : ∀ j u, news[j]? = some u → w.cell? (ad.add j) = some u) (h1 : ∀ u ∈ news, u.oneCell' = true)
    (h63 : xs.length + m ≤ maxLen) (hbytes : (xs.length + m) * bytes ≤ 140737488355328) (hbase : base ≤ w.heap.size)
    (h : ∀ v' w', w'.ownsRow base e 1 v' (xs.length + m) (xs ++ news) → Below base w w' → wpList P ops Q rest (a.put o.dst v') w') :
    wpList P ops Q (o :: rest) a w := by
  rcases hown with hown | ⟨g, rfl, h3, h4⟩
  · refine wpList_append_own_at w hgd s x t ho base e i z 1 bytes ht hi hz hsize hby hzs (by decide) v xs.length xs hs hown ad m c news hx (by rw [hl, Nat.mul_one]) hnews h1 h63 hbytes hbase ?_
    intro v' w' r1 r2 _ _
    exact h v' w' r1 ((Below.refl _ _).grown r2 hbase (fun k hk => Laws.own_ge hown k hk))
  · refine wpList_append_grows w hgd s x t ho e i z 1 bytes ht hi hz hsize hby hzs (by decide) (some ⟨g, 0, none⟩) xs.length xs.length xs hs (fun hh => by cases hh) (by rw [Nat.mul_one]) (fun b hb j u hj => by cases hb; rw [add_plain]; have := h4 j u hj; rwa [Nat.zero_add] at this) ad m c news hx (by rw [hl, Nat.mul_one]) hnews h1 (by omega) h63 hbytes ?_
    intro v' w' r1 r2
    exact h v' w' (own_mono r1 hbase) ((Below.refl _ _).grown r2 hbase (fun k hk => by cases hk))
end
end Go.Proofs.YtdemfgijfnicpaaDoor.Row

namespace Go.Proofs.YtdemfgijfnicpaaDoor.Path
open Go Go.RowKit Go.Proofs.YtdemfgijfnicpaaDoorW.PrintWords Go.Proofs.YtdemfgijfnicpaaDoorW.PrintLast Go.Proofs.YtdemfgijfnicpaaDoorW.PrintMore Go.Proofs.YtdemfgijfnicpaaDoor.Quad
set_option linter.unusedVariables false
set_option linter.unusedSimpArgs false

theorem pre47 (l : List UInt8) : Lib.hasPrefix l [47] = decide (l.head? = some 47) := by
  cases l with
  | nil => rfl
  | cons c r =>
    by_cases h : c = 47
    · subst h; simp [Lib.hasPrefix]
    · have h2 : ¬ (47 = c) := fun e => h e.symm
      simp [Lib.hasPrefix, List.isPrefixOf, h, h2]
theorem str_map (ps : List ByteArray) : ps.map Value.string = (ps.map (·.data.toList)).map str := by
  rw [List.map_map]; rfl
theorem drop1 {s : ByteArray} {l : List UInt8} (h : s.data.toList = l) : (s.extract 1 s.size).data.toList = l.drop 1 := by
  rw [extract_list s 1 s.size (Nat.le_refl _), List.take_of_length_le (by rw [data_length]; exact Nat.le_refl _), h]

set_option maxHeartbeats 1000000 in
set_option maxRecDepth 100000 in
theorem parts_calls (s : ByteArray) (hs : s.size ≤ 1000000) (h47 : s.data.toList.head? = some 47) (w : World) (hm : Mx w) :
    Calls Tryd.prog 25 #[.string s] w fun e w' => ∃ v, e = .returned v ∧ (∀ B, Row.Lies w' B 9 v ((PathP.parts s.data.toList).map str)) ∧ Below w.heap.size w w' := by
  have hsz : 0 < s.data.toList.length := by
    cases hl : s.data.toList with
    | nil => rw [hl] at h47; cases h47
    | cons c r => simp
  by_cases h1 : s.data.toList = [47]
  · have hF := Aside0.mk (show (PathP.parts s.data.toList) = [] from by rw [h1]; rfl)
    have he : s.toList = [47] := by rw [ByteArray.toList_eq, h1]
    clear h1 h47 hsz
    go_enter Tryd.func25, Tryd.ntmps25
    go_wp2
    go_ret
    exact ⟨_, rfl, fun B => by rw [hF.out]; exact Row.Lies.nil _ _ _, Below.refl _ _⟩
  · have he : (s.toList == [47]) = false := by rw [ByteArray.toList_eq]; exact beq_eq_false_iff_ne.2 h1
    have h2 : 2 ≤ s.data.toList.length := by
      cases hl : s.data.toList with
      | nil => rw [hl] at h47; cases h47
      | cons c r =>
        cases r with
        | nil => rw [hl] at h47 h1; simp at h47; subst h47; exact absurd rfl h1
        | cons d r => simp
    have h1s : 1 ≤ s.size := by rw [← data_length]; omega
    obtain ⟨t, ht⟩ : ∃ t : ByteArray, t = ⟨(s.data.toList.drop 1).toArray⟩ := ⟨_, rfl⟩
    have hsl : ∀ W, (Instr.slice 9 (.string s) (some (.int .i64 1)) none none).run Tryd.prog W = .ok (.string t) W := fun W => by rw [ht]; exact slice_f s 1 h1s W
    have htl : t.data.toList = s.data.toList.drop 1 := by rw [ht]
    have hts : t.size < 4294967281 := by rw [← data_length, htl, List.length_drop, data_length]; omega
    obtain ⟨ps, hps, hsp⟩ := split_calls 47 t hts
    have HSP := Aside0.mk hsp
    have HM := Aside0.mk hm
    have hF := Aside0.mk (show (PathP.parts s.data.toList) = ps.map (·.data.toList) from by rw [hps, htl, PathP.parts, if_neg (by omega)])
    clear h1 h47 hsz ht htl hts hps hsp hm h2
    go_enter Tryd.func25, Tryd.ntmps25
    go_wp2_with (go_at_call 32; refine (HSP.out _ HM.out).mono ?_; rintro e w1 ⟨rfl, rfl⟩)
    go_ret
    refine ⟨_, rfl, fun B => ?_, (Below.refl _ _).alloc (Nat.le_refl _) _⟩
    rw [hF.out, ← str_map]
    have := Row.Lies.whole w B 9 9 (ps.map Value.string)
    rwa [List.length_map] at this

theorem cut_len (c : UInt8) : ∀ l : List UInt8, (Cut.cut c l).length ≤ l.length + 1
  | [] => by simp [Cut.cut]
  | b :: l => by
    have ih := cut_len c l
    unfold Cut.cut
    split
    · simp only [List.length_cons]; omega
    · match h : Cut.cut c l with
      | [] => simp
      | p :: r => rw [h] at ih; simp only [List.length_cons] at ih ⊢; omega
theorem parts_len (l : List UInt8) : (PathP.parts l).length ≤ l.length + 1 := by
  unfold PathP.parts
  split
  · simp
  · exact Nat.le_trans (cut_len 47 _) (by simp)
theorem bad_cases (p : ByteArray) : (p.toList = [] ∧ PathP.badPart p.data.toList = true) ∨ (p.toList.isEmpty = false ∧ p.toList = [46] ∧ PathP.badPart p.data.toList = true) ∨
    (p.toList.isEmpty = false ∧ (p.toList == [46]) = false ∧ p.toList = [46, 46] ∧ PathP.badPart p.data.toList = true) ∨
    (p.toList.isEmpty = false ∧ (p.toList == [46]) = false ∧ (p.toList == [46, 46]) = false ∧ PathP.badPart p.data.toList = false) := by
  have e : p.toList = p.data.toList := ByteArray.toList_eq p
  rw [e]
  by_cases h1 : p.data.toList = []
  · exact .inl ⟨h1, by rw [h1]; rfl⟩
  · by_cases h2 : p.data.toList = [46]
    · exact .inr (.inl ⟨by rw [h2]; rfl, h2, by rw [h2]; rfl⟩)
    · by_cases h3 : p.data.toList = [46, 46]
      · exact .inr (.inr (.inl ⟨by rw [h3]; rfl, beq_eq_false_iff_ne.2 h2, h3, by rw [h3]; rfl⟩))
      · refine .inr (.inr (.inr ⟨List.isEmpty_eq_false_iff.2 h1, beq_eq_false_iff_ne.2 h2, beq_eq_false_iff_ne.2 h3, ?_⟩))
        rw [PathP.badPart, beq_eq_false_iff_ne.2 h1, beq_eq_false_iff_ne.2 h2, beq_eq_false_iff_ne.2 h3]; rfl
theorem may_false {l : List UInt8} {p : List UInt8} (hp : p ∈ PathP.parts l) (h : PathP.badPart p = true) : PathP.may l = false := by
  cases hm : PathP.may l
  · rfl
  · simp only [PathP.may, Bool.and_eq_true, List.all_eq_true] at hm
    have := hm.2 p hp
    rw [h] at this; cases this

set_option maxHeartbeats 1000000 in
set_option maxRecDepth 100000 in
theorem may_calls (s : ByteArray) (hs : s.size ≤ 1000000) (w : World) (hm : Mx w) :
    Calls Tryd.prog 15 #[.string s] w fun e w' => e = .returned (.bool (PathP.may s.data.toList)) ∧ Below w.heap.size w w' := by
  obtain ⟨R, hR⟩ : ∃ R, R = PathP.may s.data.toList := ⟨_, rfl⟩
  rw [← hR]
  have HR := Aside0.mk hR
  clear hR
  have HL := Aside0.mk (data_length s)
  have HM := Aside0.mk hm
  have HS := Aside0.mk hs
  clear hm hs
  obtain ⟨b1, hb1⟩ : ∃ b, b = Lib.hasPrefix s.data.toList [47] := ⟨_, rfl⟩
  obtain ⟨b3, hb3⟩ : ∃ b, b = PathP.clean s.data.toList := ⟨_, rfl⟩
  have HB := Aside0.mk (show b1 = decide (s.data.toList.head? = some 47) from by
    rw [hb1]
    exact pre47 _)
  have H1 := Aside0.mk hb1
  have H3 := Aside0.mk hb3
  clear hb1 hb3
  cases b1 with
  | false =>
    have hF : R = false := by rw [HR.out, PathP.may, ← HB.out]; rfl
    go_enter Tryd.func15, Tryd.ntmps15
    go_wp2_with (go_at_call 23; refine (Tryd.strings_HasPrefix _ _ _).mono ?_; rintro e w1 ⟨rfl, rfl⟩; rw [show (ByteArray.mk #[47]).data.toList = [47] from rfl, ← H1.out])
    go_ret
    exact ⟨by first | (rw [hF]; rfl) | rfl, Below.refl _ _⟩
  | true =>
    by_cases h2 : 200 < (s.size : Int)
    · have hF : R = false := by rw [HR.out, PathP.may, show decide (s.data.toList.length ≤ 200) = false from decide_eq_false (by rw [HL.out]; omega), Bool.and_false, Bool.false_and, Bool.false_and]
      have h2' := decide_eq_true h2
      clear h2
      go_enter Tryd.func15, Tryd.ntmps15
      go_wp2_with (go_at_call 23; refine (Tryd.strings_HasPrefix _ _ _).mono ?_; rintro e w1 ⟨rfl, rfl⟩; rw [show (ByteArray.mk #[47]).data.toList = [47] from rfl, ← H1.out])
      go_ret
      exact ⟨by first | (rw [hF]; rfl) | rfl, Below.refl _ _⟩
    · have h2' := decide_eq_false h2
      have H2 := Aside0.mk (show s.data.toList.length ≤ 200 from by rw [HL.out]; omega)
      clear h2
      cases b3 with
      | false =>
        have hF : R = false := by rw [HR.out, PathP.may, ← H3.out, Bool.and_false, Bool.false_and]
        go_enter Tryd.func15, Tryd.ntmps15
        go_wp2_with (first
          | (go_at_call 23; refine (Tryd.strings_HasPrefix _ _ _).mono ?_; rintro e w1 ⟨rfl, rfl⟩; rw [show (ByteArray.mk #[47]).data.toList = [47] from rfl, ← H1.out])
          | (go_at_call 24; refine (clean_calls _ HS.out _).mono ?_; rintro e w1 ⟨rfl, rfl⟩; rw [← H3.out]))
        go_ret
        exact ⟨by first | (rw [hF]; rfl) | rfl, Below.refl _ _⟩
      | true =>
        have H47 := Aside0.mk (show s.data.toList.head? = some 47 from of_decide_eq_true HB.out.symm)
        obtain ⟨l, hl⟩ : ∃ l, l = PathP.parts s.data.toList := ⟨_, rfl⟩
        have HP := Aside0.mk hl
        have HLL := Aside0.mk (show l.length ≤ 201 from by rw [hl]; exact Nat.le_trans (parts_len _) (by have := H2.out; omega))
        have HG := Aside0.mk (show R = l.all fun x => !PathP.badPart x from by rw [HR.out, PathP.may, ← H3.out, ← HB.out, show decide (s.data.toList.length ≤ 200) = true from decide_eq_true H2.out, hl]; rfl)
        clear hl
        go_enter Tryd.func15, Tryd.ntmps15
        go_wp2_with (first
          | (go_at_call 23; refine (Tryd.strings_HasPrefix _ _ _).mono ?_; rintro e w1 ⟨rfl, rfl⟩; rw [show (ByteArray.mk #[47]).data.toList = [47] from rfl, ← H1.out])
          | (go_at_call 24; refine (clean_calls _ HS.out _).mono ?_; rintro e w1 ⟨rfl, rfl⟩; rw [← H3.out])
          | (go_at_call 25; refine (parts_calls _ HS.out H47.out _ HM.out).mono ?_; rw [← HP.out]; rintro e w1 ⟨v, rfl, hv, hb⟩; have HB1 := Aside0.mk hb; clear hb; obtain ⟨A, c, rfl, hc, hx⟩ := (hv 0).read; have HV := Aside0.mk (And.intro hc hx); clear hc hx hv))
        go_loop [21] (fun i_ => ∃ k : Nat, k ≤ l.length ∧ i_ = .int .i64 k ∧ Aside0 ((l.take k).all (fun x => !PathP.badPart x) = true)) (fun i_ => l.length - (intOf i_).toNat)
        case atStart => exact ⟨0, Nat.zero_le _, rfl, ⟨rfl⟩⟩
        case round =>
          obtain ⟨k, hk, rfl, HA⟩ := hrel
          by_cases hlt : k < l.length
          · obtain ⟨p, hp⟩ : ∃ p : ByteArray, p = ⟨(l[k]).toArray⟩ := ⟨_, rfl⟩
            have hpl : p.data.toList = l[k] := by rw [hp]
            have hcx : (l.map str)[k]? = some (.string p) := by rw [List.getElem?_map, List.getElem?_eq_getElem hlt, hp]; rfl
            obtain ⟨g, rfl, hg2, hcell⟩ := HV.out.2 k _ hcx
            have hk6 : k < 1000000 := by have := HLL.out; omega
            have HPL := Aside0.mk (show p.data.toList ∈ l ∧ (l.take (k + 1)).all (fun x => !PathP.badPart x) = !PathP.badPart p.data.toList from by
              refine ⟨by rw [hpl]; exact List.getElem_mem _, ?_⟩
              rw [List.take_succ_eq_append_getElem hlt, List.all_append, HA.out, hpl]; simp)
            clear hp hpl hcx hg2
            rcases bad_cases p with ⟨e1, hb⟩ | ⟨e1, e2, hb⟩ | ⟨e1, e2, e3, hb⟩ | ⟨e1, e2, e3, hb⟩
            iterate 3
              · have hF : R = false := by rw [HR.out]; exact may_false (by rw [← HP.out]; exact HPL.out.1) hb
                clear hb
                go_wp2
                go_ret
                exact ⟨by first | (rw [hF]; rfl) | rfl, HB1.out⟩
            · have HN := Aside0.mk (show (l.take (k + 1)).all (fun x => !PathP.badPart x) = true from by rw [HPL.out.2, hb]; rfl)
              clear hb
              go_wp2
              go_round
              case rel => exact ⟨k + 1, by omega, by go_num, HN⟩
              case measure => simp [intOf]; omega
          · obtain rfl : k = l.length := by omega
            have hF : R = true := by rw [HG.out]; have := HA.out; rwa [List.take_length] at this
            go_wp2
            go_ret
            exact ⟨by first | (rw [hF]; rfl) | rfl, HB1.out⟩
end Go.Proofs.YtdemfgijfnicpaaDoor.Path

namespace Go.Proofs.YtdemfgijfnicpaaDoor.Path
open Go Go.RowKit Go.Proofs.YtdemfgijfnicpaaDoorW.PrintWords Go.Proofs.YtdemfgijfnicpaaDoorW.PrintLast Go.Proofs.YtdemfgijfnicpaaDoorW.PrintMore Go.Proofs.YtdemfgijfnicpaaDoor.Quad
set_option linter.unusedVariables false
set_option linter.unusedSimpArgs false

theorem own_lies {w : World} {B e : Nat} {v : Value} {n : Nat} {xs : List Value} (h : w.ownsRow B e 1 v n xs) : Row.Lies w B e v xs := by
  have : n = xs.length := by have := h.1; omega
  subst this
  exact .inl h

set_option maxHeartbeats 1000000 in
set_option maxRecDepth 100000 in
theorem ref_parts_calls (s : ByteArray) (hs : s.size ≤ 1000000) (w : World) :
    Calls Tryd.prog 29 #[.string s] w fun e w' => ∃ v, e = .returned v ∧ w'.ownsRow w.heap.size 9 1 v (PathP.parts s.data.toList).length ((PathP.parts s.data.toList).map str) ∧ Below w.heap.size w w' := by
  by_cases h : (s.size : Int) < 2
  · have h' := decide_eq_true h
    have HF := Aside0.mk (show PathP.parts s.data.toList = [] from by rw [PathP.parts, if_pos (by rw [data_length]; omega)])
    clear h
    go_enter Tryd.func29, Tryd.ntmps29
    go_wp2
    go_ret
    exact ⟨_, rfl, by rw [HF.out]; exact own_nil _ _ _ _, Below.refl _ _⟩
  · have h' := decide_eq_false h
    have h1s : 1 ≤ s.size := by omega
    obtain ⟨t, ht⟩ : ∃ t : ByteArray, t = ⟨(s.data.toList.drop 1).toArray⟩ := ⟨_, rfl⟩
    have hsl : ∀ W, (Instr.slice 9 (.string s) (some (.int .i64 1)) none none).run Tryd.prog W = .ok (.string t) W := fun W => by rw [ht]; exact slice_f s 1 h1s W
    have htl : t.data.toList = s.data.toList.drop 1 := by rw [ht]
    have HTS := Aside0.mk (show t.size ≤ 1000000 from by rw [← data_length, htl, List.length_drop, data_length]; omega)
    have HF := Aside0.mk (show PathP.parts s.data.toList = Cut.cut 47 t.data.toList from by rw [htl, PathP.parts, if_neg (by rw [data_length]; omega)])
    clear h ht htl h1s hs
    go_enter Tryd.func29, Tryd.ntmps29
    go_wp2_with (go_at_call 33; refine (ref_cut_calls t 47 HTS.out _).mono ?_; rw [← HF.out]; rintro e w1 ⟨v, rfl, ho, hb⟩; have HO := Aside0.mk ho; have HB := Aside0.mk hb; clear ho hb)
    go_ret
    exact ⟨_, rfl, HO.out, HB.out⟩

set_option maxHeartbeats 1000000 in
set_option maxRecDepth 100000 in
theorem ref_may_calls (s : ByteArray) (hs : s.size ≤ 1000000) (w : World) :
    Calls Tryd.prog 18 #[.string s] w fun e w' => e = .returned (.bool (PathP.may s.data.toList)) ∧ Below w.heap.size w w' := by
  obtain ⟨R, hR⟩ : ∃ R, R = PathP.may s.data.toList := ⟨_, rfl⟩
  rw [← hR]
  have HR := Aside0.mk hR
  clear hR
  have HL := Aside0.mk (data_length s)
  have HS := Aside0.mk hs
  obtain ⟨b3, hb3⟩ : ∃ b, b = PathP.clean s.data.toList := ⟨_, rfl⟩
  have H3 := Aside0.mk hb3
  obtain ⟨c0, hc0⟩ : ∃ c, c = bt s 0 := ⟨_, rfl⟩
  have HC0 := Aside0.mk (show 0 < s.size → (c0 = 47 ↔ s.data.toList.head? = some 47) from fun h => by
    have hp : 0 < s.data.toList.length := by rw [HL.out]; exact h
    have h4 := bt_byte s 0 hp
    rw [show ((0 : Nat) : Int) = 0 from rfl, ← hc0] at h4
    rw [h4, List.head?_eq_getElem?, List.getElem?_eq_getElem hp, Option.some.injEq, ← UInt8.toNat_inj]
    have e : (47 : UInt8).toNat = 47 := rfl
    omega)
  have hx0 : ∀ h : 0 < s.size, ((s[0]'h).toNat : Int) = c0 := fun h => by rw [hc0]; exact bt_at s 0 h
  clear hc0 hb3 hs
  cases b3 with
  | false =>
    have hF : R = false := by rw [HR.out, PathP.may, ← H3.out, Bool.and_false, Bool.false_and]
    clear hx0
    go_enter Tryd.func18, Tryd.ntmps18
    go_wp2_with (go_at_call 28; refine (ref_clean_calls _ HS.out _).mono ?_; rintro e w2 ⟨rfl, hw⟩; obtain rfl := hw.symm; rw [← H3.out])
    go_ret
    exact ⟨by first | (rw [hF]; rfl) | rfl, Below.refl _ _⟩
  | true =>
    by_cases h2 : 200 < (s.size : Int)
    · have hF : R = false := by rw [HR.out, PathP.may, show decide (s.data.toList.length ≤ 200) = false from decide_eq_false (by rw [HL.out]; omega), Bool.and_false, Bool.false_and, Bool.false_and]
      have h2' := decide_eq_true h2
      clear h2 hx0
      go_enter Tryd.func18, Tryd.ntmps18
      go_wp2_with (go_at_call 28; refine (ref_clean_calls _ HS.out _).mono ?_; rintro e w2 ⟨rfl, hw⟩; obtain rfl := hw.symm; rw [← H3.out])
      go_ret
      exact ⟨by first | (rw [hF]; rfl) | rfl, Below.refl _ _⟩
    · have h2' := decide_eq_false h2
      have H2 := Aside0.mk (show s.data.toList.length ≤ 200 from by rw [HL.out]; omega)
      clear h2
      by_cases h0 : s.size = 0
      · have hF : R = false := by
          rw [HR.out, PathP.may, List.eq_nil_of_length_eq_zero (l := s.data.toList) (by rw [HL.out, h0])]; rfl
        have hE : ((s.size : Int) == 0) = true := by rw [h0]; rfl
        clear h0 hx0
        go_enter Tryd.func18, Tryd.ntmps18
        go_wp2_with (go_at_call 28; refine (ref_clean_calls _ HS.out _).mono ?_; rintro e w2 ⟨rfl, hw⟩; obtain rfl := hw.symm; rw [← H3.out])
        go_ret
        exact ⟨by first | (rw [hF]; rfl) | rfl, Below.refl _ _⟩
      · have hE : ((s.size : Int) == 0) = false := beq_eq_false_iff_ne.2 (by omega)
        have hp : 0 < s.size := by omega
        by_cases h47 : c0 = 47
        · have hN : (c0 != 47) = false := by rw [h47]; rfl
          have H47 := Aside0.mk ((HC0.out hp).1 h47)
          obtain ⟨l, hl⟩ : ∃ l, l = PathP.parts s.data.toList := ⟨_, rfl⟩
          have HP := Aside0.mk hl
          have HLL := Aside0.mk (show l.length ≤ 201 from by rw [hl]; exact Nat.le_trans (parts_len _) (by have := H2.out; omega))
          have HG := Aside0.mk (show R = l.all fun x => !PathP.badPart x from by rw [HR.out, PathP.may, ← H3.out, decide_eq_true H47.out, show decide (s.data.toList.length ≤ 200) = true from decide_eq_true H2.out, hl]; rfl)
          clear hl h47 h0
          go_enter Tryd.func18, Tryd.ntmps18
          go_wp2_with (first
            | (go_at_call 28; refine (ref_clean_calls _ HS.out _).mono ?_; rintro e w2 ⟨rfl, hw⟩; obtain rfl := hw.symm; rw [← H3.out])
            | (go_at_call 29; refine (ref_parts_calls _ HS.out _).mono ?_; rw [← HP.out]; rintro e w1 ⟨v, rfl, ho, hb⟩; have HB1 := Aside0.mk hb; clear hb; obtain ⟨A, N, c, rfl, hN', hc, hx⟩ := (own_lies ho).readN; rw [List.length_map] at hN'; have HV := Aside0.mk (And.intro hN' (And.intro hc hx)); clear hc hx ho hN'))
          have hNl : N ≤ 201 := by rw [HV.out.1]; exact HLL.out
          go_loop [5] (fun i_ => ∃ k : Nat, k ≤ N ∧ i_ = .int .i64 k ∧ Aside0 ((l.take k).all (fun x => !PathP.badPart x) = true)) (fun i_ => N - (intOf i_).toNat)
          case atStart => exact ⟨0, Nat.zero_le _, rfl, ⟨rfl⟩⟩
          case round =>
            obtain ⟨k, hk, rfl, HA⟩ := hrel
            by_cases hlt : k < N
            · have hlt' : k < l.length := by rw [← HV.out.1]; exact hlt
              obtain ⟨p, hp'⟩ : ∃ p : ByteArray, p = ⟨(l[k]).toArray⟩ := ⟨_, rfl⟩
              have hpl : p.data.toList = l[k] := by rw [hp']
              have hcx : (l.map str)[k]? = some (.string p) := by rw [List.getElem?_map, List.getElem?_eq_getElem hlt', hp']; rfl
              obtain ⟨g, rfl, hg2, hcell⟩ := HV.out.2.2 k _ hcx
              have hk6 : k < 1000000 := by omega
              have HPL := Aside0.mk (show p.data.toList ∈ l ∧ (l.take (k + 1)).all (fun x => !PathP.badPart x) = !PathP.badPart p.data.toList from by
                refine ⟨by rw [hpl]; exact List.getElem_mem _, ?_⟩
                rw [List.take_succ_eq_append_getElem hlt', List.all_append, HA.out, hpl]; simp)
              clear hp' hpl hcx hg2 hlt'
              rcases bad_cases p with ⟨e1, hb⟩ | ⟨e1, e2, hb⟩ | ⟨e1, e2, e3, hb⟩ | ⟨e1, e2, e3, hb⟩
              iterate 3
                · have hF : R = false := by rw [HR.out]; exact may_false (by rw [← HP.out]; exact HPL.out.1) hb
                  clear hb
                  go_wp2
                  go_ret
                  exact ⟨by first | (rw [hF]; rfl) | rfl, HB1.out⟩
              · have HN := Aside0.mk (show (l.take (k + 1)).all (fun x => !PathP.badPart x) = true from by rw [HPL.out.2, hb]; rfl)
                clear hb
                go_wp2
                go_round
                case rel => exact ⟨k + 1, by omega, by go_num, HN⟩
                case measure => simp [intOf]; omega
            · obtain rfl : k = N := by omega
              have hF : R = true := by rw [HG.out]; have := HA.out; rw [HV.out.1] at this; rwa [List.take_length] at this
              go_wp2
              go_ret
              exact ⟨by first | (rw [hF]; rfl) | rfl, HB1.out⟩
        · have hN : (c0 != 47) = true := by simpa using h47
          have hF : R = false := by rw [HR.out, PathP.may, decide_eq_false (fun h => h47 ((HC0.out hp).2 h)), Bool.false_and, Bool.false_and, Bool.false_and]
          clear h47 h0
          go_enter Tryd.func18, Tryd.ntmps18
          go_wp2_with (go_at_call 28; refine (ref_clean_calls _ HS.out _).mono ?_; rintro e w2 ⟨rfl, hw⟩; obtain rfl := hw.symm; rw [← H3.out])
          go_ret
          exact ⟨by first | (rw [hF]; rfl) | rfl, Below.refl _ _⟩
end Go.Proofs.YtdemfgijfnicpaaDoor.Path

namespace Go.Proofs.YtdemfgijfnicpaaDoor.Path
open Go Go.RowKit Go.Proofs.YtdemfgijfnicpaaDoorW.PrintWords Go.Proofs.YtdemfgijfnicpaaDoorW.PrintLast Go.Proofs.YtdemfgijfnicpaaDoorW.PrintMore Go.Proofs.YtdemfgijfnicpaaDoor.Quad
set_option linter.unusedVariables false
set_option linter.unusedSimpArgs false

set_option maxHeartbeats 1000000 in
set_option maxRecDepth 100000 in
theorem under_calls (s t : ByteArray) (hs : s.size ≤ 1000000) (ht : t.size ≤ 1000000) (w : World) (hm : Mx w) :
    Calls Tryd.prog 16 #[.string s, .string t] w fun e w' => e = .returned (.bool (PathP.under s.data.toList t.data.toList)) ∧ Below w.heap.size w w' := by
  obtain ⟨R, hR⟩ : ∃ R, R = PathP.under s.data.toList t.data.toList := ⟨_, rfl⟩
  rw [← hR]
  have HR := Aside0.mk hR
  clear hR
  have HM := Aside0.mk hm
  have HS := Aside0.mk (And.intro hs ht)
  clear hm
  obtain ⟨b1, hb1⟩ : ∃ b, b = PathP.may s.data.toList := ⟨_, rfl⟩
  obtain ⟨b2, hb2⟩ : ∃ b, b = PathP.may t.data.toList := ⟨_, rfl⟩
  have H1 := Aside0.mk hb1
  have H2 := Aside0.mk hb2
  clear hb1 hb2
  cases b1 with
  | false =>
    have HF := Aside0.mk (show R = false from by rw [HR.out, PathP.under, ← H1.out]; rfl)
    clear hs ht
    go_enter Tryd.func16, Tryd.ntmps16
    go_wp2_with (go_at_call 15; refine (may_calls _ HS.out.1 _ HM.out).mono ?_; rw [← H1.out]; rintro e w1 ⟨rfl, hb⟩; have HB1 := Aside0.mk hb; clear hb)
    go_ret
    exact ⟨by first | (rw [HF.out]; rfl) | rfl, HB1.out⟩
  | true =>
    cases b2 with
    | false =>
      have HF := Aside0.mk (show R = false from by rw [HR.out, PathP.under, ← H2.out, Bool.and_false]; rfl)
      clear hs ht
      have tok1 : True := trivial
      go_enter Tryd.func16, Tryd.ntmps16
      go_wp2_with (first
        | (go_at_call 15; have _t := tok1; clear tok1 _t; refine (may_calls _ HS.out.1 _ HM.out).mono ?_; rw [← H1.out]; rintro e w1 ⟨rfl, hb⟩; have HB1 := Aside0.mk hb; clear hb)
        | (go_at_call 15; refine (may_calls _ HS.out.2 _ (HM.out.below HB1.out)).mono ?_; rw [← H2.out]; rintro e w3 ⟨rfl, hb⟩; have HB2 := Aside0.mk (HB1.out.trans (hb.mono HB1.out.size)); clear hb))
      go_ret
      exact ⟨by first | (rw [HF.out]; rfl) | rfl, HB2.out⟩
    | true =>
      have tok1 : True := trivial
      have HU := Aside0.mk (PathP.under_prefix H1.out.symm H2.out.symm)
      have HG := Aside0.mk (show R = decide (PathP.parts s.data.toList <+: PathP.parts t.data.toList) from by rw [HR.out, PathP.under, ← H1.out, ← H2.out]; rfl)
      have hs1 : (ByteArray.mk #[47]).size = 1 := rfl
      have he : s.toList = s.data.toList := ByteArray.toList_eq s
      by_cases h47 : s.data.toList = [47]
      · have HF := Aside0.mk (show R = true from by rw [HG.out]; exact decide_eq_true (HU.out.1 (.inl h47)))
        have he' : s.toList = [47] := he.trans h47
        clear hs ht he h47
        go_enter Tryd.func16, Tryd.ntmps16
        go_wp2_with (first
          | (go_at_call 15; have _t := tok1; clear tok1 _t; refine (may_calls _ HS.out.1 _ HM.out).mono ?_; rw [← H1.out]; rintro e w1 ⟨rfl, hb⟩; have HB1 := Aside0.mk hb; clear hb)
          | (go_at_call 15; refine (may_calls _ HS.out.2 _ (HM.out.below HB1.out)).mono ?_; rw [← H2.out]; rintro e w3 ⟨rfl, hb⟩; have HB2 := Aside0.mk (HB1.out.trans (hb.mono HB1.out.size)); clear hb))
        go_ret
        exact ⟨by first | (rw [HF.out]; rfl) | rfl, HB2.out⟩
      · have he' : (s.toList == [47]) = false := by rw [he]; exact beq_eq_false_iff_ne.2 h47
        have HP := Aside0.mk (show Lib.hasPrefix (t ++ ⟨#[47]⟩ : ByteArray).data.toList (s ++ ⟨#[47]⟩ : ByteArray).data.toList = R from by
          rw [HG.out, Bool.eq_iff_iff, decide_eq_true_iff]
          rw [show (t ++ ⟨#[47]⟩ : ByteArray).data.toList = t.data.toList ++ [47] from by simp, show (s ++ ⟨#[47]⟩ : ByteArray).data.toList = s.data.toList ++ [47] from by simp]
          rw [Lib.hasPrefix, List.isPrefixOf_iff_prefix, ← HU.out]
          exact ⟨.inr, fun h => h.elim (fun h => absurd h h47) id⟩)
        clear he h47
        go_enter Tryd.func16, Tryd.ntmps16
        go_wp2_with (first
          | (go_at_call 15; have _t := tok1; clear tok1 _t; refine (may_calls _ HS.out.1 _ HM.out).mono ?_; rw [← H1.out]; rintro e w1 ⟨rfl, hb⟩; have HB1 := Aside0.mk hb; clear hb)
          | (go_at_call 15; refine (may_calls _ HS.out.2 _ (HM.out.below HB1.out)).mono ?_; rw [← H2.out]; rintro e w3 ⟨rfl, hb⟩; have HB2 := Aside0.mk (HB1.out.trans (hb.mono HB1.out.size)); clear hb)
          | (go_at_call 23; refine (Tryd.strings_HasPrefix _ _ _).mono ?_; rintro e w2 ⟨rfl, hw⟩; obtain rfl := hw.symm; rw [HP.out]))
        go_ret
        exact ⟨rfl, HB2.out⟩

set_option maxHeartbeats 1000000 in
set_option maxRecDepth 100000 in
theorem ref_under_calls (s t : ByteArray) (hs : s.size ≤ 1000000) (ht : t.size ≤ 1000000) (w : World) :
    Calls Tryd.prog 22 #[.string s, .string t] w fun e w' => e = .returned (.bool (PathP.under s.data.toList t.data.toList)) ∧ Below w.heap.size w w' := by
  obtain ⟨R, hR⟩ : ∃ R, R = PathP.under s.data.toList t.data.toList := ⟨_, rfl⟩
  rw [← hR]
  have HR := Aside0.mk hR
  clear hR
  have HS := Aside0.mk (And.intro hs ht)
  obtain ⟨b1, hb1⟩ : ∃ b, b = PathP.may s.data.toList := ⟨_, rfl⟩
  obtain ⟨b2, hb2⟩ : ∃ b, b = PathP.may t.data.toList := ⟨_, rfl⟩
  have H1 := Aside0.mk hb1
  have H2 := Aside0.mk hb2
  have tok1 : True := trivial
  clear hb1 hb2 hs ht
  by_cases hb : b1 = true ∧ b2 = true
  · obtain ⟨rfl, rfl⟩ := hb
    have tok2 : True := trivial
    obtain ⟨x, hx⟩ : ∃ x, x = PathP.parts s.data.toList := ⟨_, rfl⟩
    obtain ⟨y, hy⟩ : ∃ y, y = PathP.parts t.data.toList := ⟨_, rfl⟩
    have HG := Aside0.mk (show R = decide (x <+: y) from by rw [HR.out, PathP.under, ← H1.out, ← H2.out, hx, hy]; rfl)
    have HX := Aside0.mk hx
    have HY := Aside0.mk hy
    have HLL := Aside0.mk (show x.length ≤ 1000001 ∧ y.length ≤ 1000001 from by
      have h1 := parts_len s.data.toList; have h2 := parts_len t.data.toList
      rw [data_length] at h1 h2
      rw [hx, hy]; have := HS.out; omega)
    clear hx hy
    go_enter Tryd.func22, Tryd.ntmps22
    go_wp2_with (first
      | (go_at_call 18; have _t := tok1; clear tok1 _t; refine (ref_may_calls _ HS.out.1 _).mono ?_; rw [← H1.out]; rintro e w1 ⟨rfl, hb⟩; have HB1 := Aside0.mk hb; clear hb)
      | (go_at_call 18; refine (ref_may_calls _ HS.out.2 _).mono ?_; rw [← H2.out]; rintro e w2 ⟨rfl, hb⟩; have HB2 := Aside0.mk (HB1.out.trans (hb.mono HB1.out.size)); clear hb)
      | (go_at_call 29; have _t := tok2; clear tok2 _t; refine (ref_parts_calls _ HS.out.1 _).mono ?_; rw [← HX.out]; rintro e w3 ⟨v, rfl, ho, hb⟩; have HB3 := Aside0.mk (HB2.out.trans (hb.mono HB2.out.size)); clear hb; have HV := Aside0.mk (own_lies ho); clear ho; obtain ⟨A, N, c, rfl, hN', _⟩ := HV.out.readN; rw [List.length_map] at hN'; have HN := Aside0.mk hN'; clear hN')
      | (go_at_call 29; refine (ref_parts_calls _ HS.out.2 _).mono ?_; rw [← HY.out]; rintro e w4 ⟨v, rfl, ho, hb⟩; have HB4 := Aside0.mk (HB3.out.trans (hb.mono HB3.out.size)); have HV4 := Aside0.mk (HV.out.below hb); clear hb; have HU := Aside0.mk (own_lies ho); clear ho; obtain ⟨A', N', c', rfl, hN', _⟩ := HU.out.readN; rw [List.length_map] at hN'; have HN4 := Aside0.mk hN'; clear hN'))
    · rename_i hlt
      have HF := Aside0.mk (show R = false from by
        rw [HG.out]; refine decide_eq_false fun hp => ?_
        have h1 := hp.length_le
        have h2 := HN.out; have h3 := HN4.out
        omega)
      go_ret
      exact ⟨by first | (rw [HF.out]; rfl) | rfl, HB4.out⟩
    · rename_i hge
      have hN6 : N ≤ 1000001 := by rw [HN.out]; exact HLL.out.1
      go_loopw [9] (fun i_ wr => ∃ k : Nat, k ≤ N ∧ i_ = .int .i64 k ∧ Aside0 (x.take k = y.take k) ∧ Aside0 (Below w4.heap.size w4 wr)) (fun i_ _ => N - (intOf i_).toNat)
      case atStart => exact ⟨0, Nat.zero_le _, rfl, ⟨rfl⟩, ⟨Below.refl _ _⟩⟩
      case round =>
        obtain ⟨k, hk, rfl, HA, HBW⟩ := hrel
        by_cases hlt : k < N
        · have hx' : k < x.length := by rw [← HN.out]; exact hlt
          have hy' : k < y.length := by rw [← HN4.out]; omega
          obtain ⟨p, hp⟩ : ∃ p : ByteArray, p = ⟨(x[k]).toArray⟩ := ⟨_, rfl⟩
          obtain ⟨q, hq⟩ : ∃ q : ByteArray, q = ⟨(y[k]).toArray⟩ := ⟨_, rfl⟩
          have hcx : (x.map str)[k]? = some (.string p) := by rw [List.getElem?_map, List.getElem?_eq_getElem hx', hp]; rfl
          have hcy : (y.map str)[k]? = some (.string q) := by rw [List.getElem?_map, List.getElem?_eq_getElem hy', hq]; rfl
          obtain ⟨A1, N1, c1, e1, n1, hNc1, hr1⟩ := HV4.out.readN
          cases e1
          clear n1
          obtain ⟨A2, N2, c2, e2, n2, hNc2, hr2⟩ := HU.out.readN
          cases e2
          clear n2
          obtain ⟨g, rfl, hg2, hcell0⟩ := hr1 k _ hcx
          have hcell := (HBW.out.cell hg2).trans hcell0
          obtain ⟨g', rfl, hg2', hcell0'⟩ := hr2 k _ hcy
          have hcell' := (HBW.out.cell hg2').trans hcell0'
          clear hcell0 hcell0'
          have hk6 : k < 10000000 := by omega
          have hkN' : k < N' := by omega
          have hpe : p.toList = x[k] := by rw [ByteArray.toList_eq, hp]
          have hqe : q.toList = y[k] := by rw [ByteArray.toList_eq, hq]
          have HK := Aside0.mk (show (x.take (k + 1) = y.take (k + 1) ↔ p.toList = q.toList) ∧ (x <+: y → p.toList = q.toList) from by
            refine ⟨?_, fun h => ?_⟩
            · rw [List.take_succ_eq_append_getElem hx', List.take_succ_eq_append_getElem hy', HA.out, hpe, hqe]
              constructor
              · intro h; have := List.append_cancel_left h; simpa using this
              · intro h; rw [h]
            · rw [hpe, hqe]
              obtain ⟨r, rfl⟩ := h
              rw [List.getElem_append_left hx'])
          clear hp hq hcx hcy hr1 hr2 hg2 hg2' hpe hqe hx' hy'
          by_cases he : p.toList = q.toList
          · have he' : (p.toList == q.toList) = true := beq_iff_eq.2 he
            have HN2 := Aside0.mk (HK.out.1.2 he)
            clear he
            go_wp2
            go_region
            all_goals
              go_wp2
              go_roundw
              case rel => exact ⟨k + 1, by omega, by go_num, HN2, ⟨HBW.out.drew⟩⟩
              case measure => simp [intOf]; omega
          · have he' : (p.toList == q.toList) = false := beq_eq_false_iff_ne.2 he
            have HF := Aside0.mk (show R = false from by rw [HG.out]; exact decide_eq_false fun h => he (HK.out.2 h))
            clear he
            go_wp2
            go_region
            all_goals
              go_wp2
              go_ret
              exact ⟨by first | (rw [HF.out]; rfl) | rfl, (HB4.out.trans (HBW.out.mono HB4.out.size)).drew⟩
        · obtain rfl : k = N := by omega
          have HF := Aside0.mk (show R = true from by
            rw [HG.out]; refine decide_eq_true ?_
            have := HA.out
            rw [HN.out, List.take_length] at this
            rw [this]; exact List.take_prefix _ _)
          go_wp2
          go_ret
          exact ⟨by first | (rw [HF.out]; rfl) | rfl, HB4.out.trans (HBW.out.mono HB4.out.size)⟩
  · have HF := Aside0.mk (show R = false from by
      rw [HR.out, PathP.under, ← H1.out, ← H2.out]
      cases b1 <;> cases b2 <;> first | rfl | exact absurd ⟨rfl, rfl⟩ hb)
    cases b1 <;> cases b2
    iterate 3
      · clear hb
        go_enter Tryd.func22, Tryd.ntmps22
        go_wp2_with (first
          | (go_at_call 18; have _t := tok1; clear tok1 _t; refine (ref_may_calls _ HS.out.1 _).mono ?_; rw [← H1.out]; rintro e w1 ⟨rfl, hb⟩; have HB1 := Aside0.mk hb; clear hb)
          | (go_at_call 18; refine (ref_may_calls _ HS.out.2 _).mono ?_; rw [← H2.out]; rintro e w2 ⟨rfl, hb⟩; have HB2 := Aside0.mk (HB1.out.trans (hb.mono HB1.out.size)); clear hb))
        go_ret
        exact ⟨by first | (rw [HF.out]; rfl) | rfl, HB2.out⟩
    · exact absurd ⟨rfl, rfl⟩ hb
end Go.Proofs.YtdemfgijfnicpaaDoor.Path

namespace Go.Proofs.YtdemfgijfnicpaaDoor.PathP
open Go Go.Proofs.YtdemfgijfnicpaaDoor.Cut

theorem cut_split (c : UInt8) (b : List UInt8) : ∀ a : List UInt8, cut c (a ++ c :: b) = cut c a ++ cut c b
  | [] => by simp [cut]
  | x :: a => by
    have ih := cut_split c b a
    rw [List.cons_append, cut]
    conv => rhs; rw [cut]
    split
    · rw [ih]; rfl
    · rw [ih]
      have hn := cut_ne c a
      match h : cut c a with
      | [] => exact absurd h hn
      | p :: r => rfl
theorem step_empty (l : List (List UInt8)) : step l [] = l := by simp [step]
theorem step_dot (l : List (List UInt8)) : step l [46] = l := by simp [step]
theorem step_up (l : List (List UInt8)) : step l [46, 46] = l.dropLast := by simp [step]
theorem step_good_eq {l : List (List UInt8)} {x : List UInt8} (h : good x) : step l x = l ++ [x] := by
  rw [step, if_neg (fun e => e.elim h.1 h.2.2.1), if_neg h.2.2.2.1]
/-- A path that may be, cut by strokes, leads from nothing to its parts. -/
theorem fold_self {s : List UInt8} (h : may s = true) : (cut 47 s).foldl step [] = parts s ∧ s.head? = some 47 := by
  have h0 := (may_good h).1
  have hh : s.head? = some 47 := by simp only [may, Bool.and_eq_true, decide_eq_true_eq] at h; exact h.1.1.1
  refine ⟨?_, hh⟩
  cases s with
  | nil => cases hh
  | cons c r =>
    obtain rfl : c = 47 := by simpa using hh
    rw [cut, if_pos rfl, List.foldl_cons, step_empty]
    cases r with
    | nil => rfl
    | cons x r =>
      have hp : parts (47 :: x :: r) = cut 47 (x :: r) := by
        unfold parts; rw [if_neg (by simp only [List.length_cons]; omega)]; rfl
      rw [hp] at h0 ⊢
      rw [fold_plain _ _ h0]; rfl
theorem may_clean {s : List UInt8} (h : may s = true) : clean s = true ∧ s.length ≤ 200 ∧ s.head? = some 47 := by
  simp only [may, Bool.and_eq_true, decide_eq_true_eq] at h
  exact ⟨h.1.2, h.1.1.2, h.1.1.1⟩
theorem may_root : may [47] = true := by decide
theorem join_eq {cwd arg : List UInt8} (h1 : may cwd = true) (h2 : clean arg = true) (h3 : (lead cwd arg).length ≤ 200) : join cwd arg = (lead cwd arg, .ok) := by
  rw [join, if_neg (by simp [h1]), if_neg (by simp [h2]), if_neg (by omega)]
theorem join_fail {cwd arg : List UInt8} (h : (join cwd arg).2 ≠ .ok) : (join cwd arg).1 = [] := by
  unfold join at h ⊢
  split
  · rfl
  · split
    · rfl
    · split
      · rfl
      · rename_i h1 h2 h3
        rw [if_neg h1, if_neg h2, if_neg h3] at h
        exact absurd rfl h
/-- An argument that is a path leads there, from wherever. -/
theorem join_abs {cwd s : List UInt8} (hc : may cwd = true) (h : may s = true) : join cwd s = (s, .ok) := by
  obtain ⟨f1, f2⟩ := fold_self h
  have hl : lead cwd s = s := by rw [lead, if_pos f2, f1, (may_good h).2.1]
  rw [join_eq hc (may_clean h).1 (by rw [hl]; exact (may_clean h).2.1), hl]
theorem join_stay {s x : List UInt8} (h : may s = true) (hx : x = [] ∨ x = [46]) : join s x = (s, .ok) := by
  have hl : lead s x = s := by
    rcases hx with rfl | rfl
    · rw [lead, if_neg (by simp), cut, List.foldl_cons, step_empty, List.foldl_nil, (may_good h).2.1]
    · rw [lead, if_neg (by simp), show cut 47 [46] = [[46]] from by decide, List.foldl_cons, step_dot, List.foldl_nil, (may_good h).2.1]
  rw [join_eq h (by rcases hx with rfl | rfl <;> decide) (by rw [hl]; exact (may_clean h).2.1), hl]
theorem join_abs_dot {cwd s : List UInt8} (hc : may cwd = true) (h : may s = true) : join cwd (s ++ [47, 46]) = (s, .ok) := by
  obtain ⟨f1, f2⟩ := fold_self h
  have hl : lead cwd (s ++ [47, 46]) = s := by
    rw [lead, if_pos (by cases s with | nil => cases f2 | cons c r => exact f2), cut_split, List.foldl_append, f1, show cut 47 [46] = [[46]] from by decide, List.foldl_cons, step_dot, List.foldl_nil, (may_good h).2.1]
  rw [join_eq hc (by rw [clean_app, (may_clean h).1]; decide) (by rw [hl]; exact (may_clean h).2.1), hl]

/-- One part more. -/
theorem may_part {part : List UInt8} (h : may (47 :: part) = true) (h0 : part ≠ []) (h47 : 47 ∉ part) : good part ∧ part.length ≤ 199 := by
  have h1 := (may_good h).1
  have hp : parts (47 :: part) = [part] := by
    unfold parts; rw [if_neg (by have := List.length_pos_iff.2 h0; simp only [List.length_cons]; omega)]
    exact cut_plain 47 part h47
  rw [hp] at h1
  exact ⟨h1 part (List.mem_cons_self ..), by have := (may_clean h).2.1; simp only [List.length_cons] at this; omega⟩
theorem head_part {part : List UInt8} (h47 : 47 ∉ part) : part.head? ≠ some 47 := by
  cases part with
  | nil => simp
  | cons c r => simp only [List.head?_cons, ne_eq, Option.some.injEq]; intro e; exact h47 (by rw [e]; exact List.mem_cons_self ..)
theorem lead_part {cwd part : List UInt8} (h : good part) : lead cwd part = whole (parts cwd ++ [part]) := by
  rw [lead, if_neg (head_part h.2.1), cut_plain 47 part h.2.1, List.foldl_cons, step_good_eq h, List.foldl_nil]
theorem jn_snoc (c : UInt8) (p : List UInt8) : ∀ l : List (List UInt8), l ≠ [] → jn c (l ++ [p]) = jn c l ++ c :: p
  | [], h => absurd rfl h
  | [q], _ => rfl
  | q :: r :: t, _ => by
    have ih := jn_snoc c p (r :: t) (by simp)
    rw [List.cons_append, jn_cons c q (by simp), jn_cons c q (r := r :: t) (by simp), ih, List.append_assoc]; rfl
theorem whole_snoc {cwd part : List UInt8} (h : may cwd = true) : (whole (parts cwd ++ [part])).length ≤ cwd.length + part.length + 1 := by
  have h2 := (may_good h).2.1
  by_cases h0 : parts cwd = []
  · rw [h0] at h2 ⊢
    rw [← h2]; simp [whole, jn]
  · conv => rhs; rw [← h2]
    rw [whole, whole, jn_snoc 47 part _ h0]
    simp only [List.length_cons, List.length_append]; omega
theorem join_up {s : List UInt8} (h : may s = true) : (join s [46, 46]).2 = .ok ∧ (join s [46, 46]).1 = whole (parts s).dropLast := by
  have hl : lead s [46, 46] = whole (parts s).dropLast := by
    rw [lead, if_neg (by simp), show cut 47 [46, 46] = [[46, 46]] from by decide, List.foldl_cons, step_up, List.foldl_nil]
  have hg := (may_good h)
  have hlen : (whole (parts s).dropLast).length ≤ 200 := by
    rcases List.eq_nil_or_concat (parts s) with h0 | ⟨l, x, h0⟩
    · rw [h0]; simp [whole, jn]
    · rw [List.concat_eq_append] at h0
      have h2 := hg.2.2
      rw [← hg.2.1, h0] at h2
      rw [h0, List.dropLast_concat]
      cases l with
      | nil => simp [whole, jn]
      | cons q r =>
        rw [whole, jn_snoc 47 x _ (by simp)] at h2
        rw [whole]
        simp only [List.length_cons, List.length_append] at h2 ⊢; omega
  rw [join_eq h (by decide) (by rw [hl]; exact hlen), hl]
  exact ⟨rfl, rfl⟩
theorem join_part_up {cwd part : List UInt8} (h : may cwd = true) (hp : good part) : join cwd (part ++ [47, 46, 46]) = (cwd, .ok) := by
  have hh : (part ++ [47, 46, 46]).head? ≠ some 47 := by
    have := head_part hp.2.1
    cases part with
    | nil => exact absurd rfl hp.1
    | cons c r => exact this
  have hl : lead cwd (part ++ [47, 46, 46]) = cwd := by
    rw [lead, if_neg hh, cut_split, cut_plain 47 part hp.2.1, show cut 47 [46, 46] = [[46, 46]] from by decide]
    simp only [List.foldl_append, List.foldl_cons, List.foldl_nil, step_good_eq hp, step_up, List.dropLast_concat, (may_good h).2.1]
  rw [join_eq h (by rw [clean_app, hp.2.2.2.2]; decide) (by rw [hl]; exact (may_clean h).2.1), hl]
/-- What PathUp says. -/
theorem up_law {cwd part : List UInt8} (h : may cwd = true) (hp : good part) :
    ((join cwd part).2 ≠ .ok → (join cwd part).2 = .over ∧ 200 ≤ cwd.length + part.length) ∧
    ((join cwd part).2 = .ok → join (join cwd part).1 [46, 46] = (cwd, .ok) ∧ under cwd (join cwd part).1 = true ∧ (join cwd part).1 ≠ cwd) := by
  have hl := lead_part (cwd := cwd) hp
  have hw := whole_snoc (part := part) h
  by_cases h3 : (lead cwd part).length ≤ 200
  · have hj := join_eq h hp.2.2.2.2 h3
    rw [hj]
    refine ⟨fun e => absurd rfl e, fun _ => ?_⟩
    have hgood : ∀ x ∈ parts cwd ++ [part], good x := by
      intro x hx
      rcases List.mem_append.1 hx with hx | hx
      · exact (may_good h).1 x hx
      · rw [List.mem_singleton] at hx; subst hx; exact hp
    obtain ⟨m1, m2⟩ := good_may hgood (by rw [← hl]; exact h3)
    rw [hl]
    obtain ⟨u1, u2⟩ := join_up m1
    refine ⟨?_, ?_, ?_⟩
    · rw [Prod.ext_iff]
      refine ⟨?_, u1⟩
      rw [u2, m2, List.dropLast_concat, (may_good h).2.1]
    · simp only [under, h, m1, m2, Bool.and_self, Bool.true_and, decide_eq_true_eq]
      exact ⟨[part], rfl⟩
    · intro e
      have := congrArg parts e
      rw [m2] at this
      have := congrArg List.length this
      simp at this
  · have hj : join cwd part = ([], .over) := by
      rw [join, if_neg (by simp [h]), if_neg (by simp [hp.2.2.2.2]), if_pos (by omega)]
    rw [hj]
    refine ⟨fun _ => ⟨rfl, ?_⟩, fun e => by cases e⟩
    rw [hl] at h3; omega

/-- Below. -/
theorem under_root {a : List UInt8} (h : may a = true) : under [47] a = true := by
  simp only [under, may_root, h, Bool.and_self, Bool.true_and, decide_eq_true_eq]
  exact ⟨parts a, rfl⟩
theorem under_self {a : List UInt8} (h : may a = true) : under a a = true := by
  simp [under, h]
theorem under_none {a b : List UInt8} (h : may a = false) : under a b = false ∧ under b a = false := by
  simp [under, h]
theorem under_trans {a b c : List UInt8} (h1 : under a b = true) (h2 : under b c = true) : under a c = true := by
  simp only [under, Bool.and_eq_true, decide_eq_true_eq] at h1 h2 ⊢
  exact ⟨⟨h1.1.1, h2.1.2⟩, h1.2.trans h2.2⟩
theorem under_anti {a b : List UInt8} (h1 : under a b = true) (h2 : under b a = true) : a = b := by
  simp only [under, Bool.and_eq_true, decide_eq_true_eq] at h1 h2
  have hp : parts a = parts b := h1.2.eq_of_length_le h2.2.length_le
  rw [← (may_good h1.1.1).2.1, ← (may_good h1.1.2).2.1, hp]

/-- Two arguments, one behind the other. -/
theorem twice_law {cwd a b : List UInt8} (h1 : (join cwd a).2 = .ok) (h2 : (join (join cwd a).1 b).2 = .ok) :
    (b.head? = some 47 → join [47] b = join (join cwd a).1 b) ∧
    (b.head? ≠ some 47 → join cwd (if a = [] then b else a ++ 47 :: b) = join (join cwd a).1 b) := by
  obtain ⟨m1, p1, c1, k1, l1⟩ := join_may h1
  obtain ⟨m2, p2, c2, k2, l2⟩ := join_may h2
  have e2 : join (join cwd a).1 b = (lead (join cwd a).1 b, .ok) := by rw [← l2, ← h2]
  have g2 : (lead (join cwd a).1 b).length ≤ 200 := by rw [← l2]; exact (may_clean m2).2.1
  rw [e2]
  constructor
  · intro hb
    have hl : lead [47] b = lead (join cwd a).1 b := by rw [lead, lead, if_pos hb, if_pos hb]
    rw [join_eq may_root k2 (by rw [hl]; exact g2), hl]
  · intro hb
    by_cases ha : a = []
    · rw [if_pos ha]
      have hs : (join cwd a).1 = cwd := by rw [ha, join_stay c1 (.inl rfl)]
      rw [hs] at e2 g2 ⊢
      exact join_eq c1 k2 g2
    · rw [if_neg ha]
      have hh : (a ++ 47 :: b).head? = a.head? := by cases a with | nil => exact absurd rfl ha | cons => rfl
      have hl : lead cwd (a ++ 47 :: b) = lead (join cwd a).1 b := by
        rw [lead, lead, if_neg hb, p1, hh, cut_split, List.foldl_append]
      rw [join_eq c1 (by rw [clean_app, k1, clean_cons, clean47, k2]; rfl) (by rw [hl]; exact g2), hl]

/-- A stroke at the end. -/
theorem down_stroke {cwd arg : List UInt8} (h : arg ≠ []) : join cwd (arg ++ [47]) = join cwd arg := by
  have hh : (arg ++ [47]).head? = arg.head? := by cases arg with | nil => exact absurd rfl h | cons => rfl
  have hl : lead cwd (arg ++ [47]) = lead cwd arg := by
    rw [lead, lead, hh, cut_split, List.foldl_append, cut, List.foldl_cons, step_empty, List.foldl_nil]
  have hc : clean (arg ++ [47]) = clean arg := by rw [clean_app, clean47, Bool.and_true]
  rw [join, join, hl, hc]
theorem cut_sub (c : UInt8) : ∀ l : List UInt8, ∀ p ∈ cut c l, ∀ x ∈ p, x ∈ l
  | [], p, hp, x, hx => by simp [cut] at hp; subst hp; cases hx
  | b :: l, p, hp, x, hx => by
    have ih := cut_sub c l
    unfold cut at hp
    split at hp
    · rcases List.mem_cons.1 hp with h | h
      · subst h; cases hx
      · exact List.mem_cons_of_mem _ (ih p h x hx)
    · match h : cut c l with
      | [] => exact absurd h (cut_ne c l)
      | q :: r =>
        rw [h] at hp ih
        rcases List.mem_cons.1 hp with h | h
        · subst h
          rcases List.mem_cons.1 hx with hx | hx
          · subst hx; exact List.mem_cons_self ..
          · exact List.mem_cons_of_mem _ (ih q (List.mem_cons_self ..) x hx)
        · exact List.mem_cons_of_mem _ (ih p (List.mem_cons_of_mem _ h) x hx)
theorem fold_down : ∀ (xs l : List (List UInt8)), (∀ x ∈ xs, 46 ∉ x) → l <+: xs.foldl step l
  | [], l, _ => List.prefix_rfl
  | x :: xs, l, h => by
    rw [List.foldl_cons]
    refine List.IsPrefix.trans ?_ (fold_down xs (step l x) fun y hy => h y (List.mem_cons_of_mem _ hy))
    have hx := h x (List.mem_cons_self ..)
    unfold step
    split
    · exact List.prefix_rfl
    · rw [if_neg (fun e => hx (by rw [e]; simp))]
      exact List.prefix_append _ _
theorem down_law {cwd arg : List UInt8} (h46 : 46 ∉ arg) (hh : arg.head? ≠ some 47) (h : (join cwd arg).2 = .ok) : under cwd (join cwd arg).1 = true := by
  obtain ⟨m1, p1, c1, k1, l1⟩ := join_may h
  simp only [under, c1, m1, Bool.and_self, Bool.true_and, decide_eq_true_eq]
  rw [p1, if_neg hh]
  exact fold_down _ _ fun x hx hx46 => h46 (cut_sub 47 arg x hx 46 hx46)

/-- Long paths. -/
def xs (n : Nat) : List UInt8 := 47 :: List.replicate n 120
theorem clean_x (n : Nat) : clean (List.replicate n 120) = true := by
  simp only [clean, List.all_eq_true]
  intro x hx
  rw [(List.mem_replicate.1 hx).2]; decide
theorem xs_good {n : Nat} (h : 0 < n) : good (List.replicate n 120) := by
  refine ⟨?_, ?_, ?_, ?_, clean_x n⟩
  · intro e; have := congrArg List.length e; simp at this; omega
  · intro e; exact absurd (List.mem_replicate.1 e).2 (by decide)
  · intro e; have := (List.mem_replicate.1 (show (46 : UInt8) ∈ List.replicate n 120 from by rw [e]; simp)).2; exact absurd this (by decide)
  · intro e; have := (List.mem_replicate.1 (show (46 : UInt8) ∈ List.replicate n 120 from by rw [e]; simp)).2; exact absurd this (by decide)
theorem good_y : good [121] := ⟨by simp, by decide, by decide, by decide, by decide⟩
theorem long_may {n : Nat} (h : n ≤ 199) : may (xs n) = true := by
  by_cases h0 : n = 0
  · subst h0; exact may_root
  · have := (good_may (l := [List.replicate n 120]) (by intro x hx; rw [List.mem_singleton] at hx; subst hx; exact xs_good (by omega)) (by simp [whole, jn]; omega)).1
    exact this
theorem long_not {n : Nat} (h : 200 ≤ n) : may (xs n) = false := by
  rw [may, show decide ((xs n).length ≤ 200) = false from by simp [xs]; omega]
  simp
theorem long_join {n : Nat} (h0 : 0 < n) (h : n ≤ 199) : (join (xs n) [121]).2 = (if 200 < n + 3 then .over else .ok) := by
  have hm := long_may h
  have hp : parts (xs n) = [List.replicate n 120] := parts_whole (l := [List.replicate n 120]) (by intro x hx; rw [List.mem_singleton] at hx; subst hx; exact ⟨(xs_good h0).1, (xs_good h0).2.1⟩)
  have hl : (lead (xs n) [121]).length = n + 3 := by
    rw [lead_part good_y, hp]; simp [whole, jn]
  rw [join, if_neg (by simp [hm]), if_neg (by decide), hl]
  split <;> rfl
theorem long_join0 : (join (xs 0) [121]).2 = .ok := by decide
theorem long_join_not {n : Nat} (h : 200 ≤ n) : join (xs n) [121] = ([], .arg) := by rw [join, if_pos (long_not h)]
end Go.Proofs.YtdemfgijfnicpaaDoor.PathP

namespace Go.Proofs.YtdemfgijfnicpaaDoor.AclP
set_option linter.unusedVariables false
set_option linter.unusedSimpArgs false
open Go Go.Proofs.YtdemfgijfnicpaaDoor.PathP

structure Rule where
  allow : Bool
  verb : ByteArray
  path : ByteArray
/-- The names of all verbs. -/
def names : List (List UInt8) := [
  [65, 66, 79, 82],
  [65, 67, 67, 84],
  [65, 76, 76, 79],
  [65, 80, 80, 69],
  [67, 68, 85, 80],
  [67, 87, 68],
  [68, 69, 76, 69],
  [69, 80, 82, 84],
  [69, 80, 83, 86],
  [70, 69, 65, 84],
  [72, 69, 76, 80],
  [76, 73, 83, 84],
  [77, 68, 84, 77],
  [77, 75, 68],
  [77, 76, 83, 68],
  [77, 76, 83, 84],
  [77, 79, 68, 69],
  [78, 76, 83, 84],
  [78, 79, 79, 80],
  [80, 65, 83, 83],
  [80, 65, 83, 86],
  [80, 79, 82, 84],
  [80, 87, 68],
  [81, 85, 73, 84],
  [82, 69, 83, 84],
  [82, 69, 84, 82],
  [82, 77, 68],
  [82, 78, 70, 82],
  [82, 78, 84, 79],
  [83, 73, 90, 69],
  [83, 84, 65, 84],
  [83, 84, 79, 82],
  [83, 84, 82, 85],
  [83, 89, 83, 84],
  [84, 89, 80, 69],
  [85, 83, 69, 82]]
def known (s : List UInt8) : Bool := names.contains s
def okRule (r : Rule) : Bool := (r.verb.data.toList == [] || known r.verb.data.toList) && may r.path.data.toList
def mayRules (l : List Rule) : Bool := decide (l.length ≤ 8) && l.all okRule
def tells (r : Rule) (name wher : List UInt8) : Bool := (r.verb.data.toList == [] || r.verb.data.toList == name) && under r.path.data.toList wher
/-- The first rule that tells, from number k on. -/
def whichF (k : Nat) : List Rule → List UInt8 → List UInt8 → Option Nat
  | [], _, _ => none
  | r :: l, name, wher => if tells r name wher = true then some k else whichF (k + 1) l name wher
def which (l : List Rule) (name wher : List UInt8) : Option Nat := whichF 0 l name wher
def whichI : Option Nat → Int
  | some k => k
  | none => -1
def allowed : List Rule → List UInt8 → List UInt8 → Bool
  | [], _, _ => false
  | r :: l, name, wher => if tells r name wher = true then r.allow else allowed l name wher

theorem whichF_some : ∀ {k : Nat} {l : List Rule} {n w : List UInt8} {i : Nat}, whichF k l n w = some i → k ≤ i ∧ i < k + l.length
  | k, [], n, w, i, h => by cases h
  | k, r :: l, n, w, i, h => by
    rw [whichF] at h
    split at h
    · cases h; simp
    · have := whichF_some h; simp only [List.length_cons]; omega
theorem whichF_shift : ∀ (k j : Nat) (l : List Rule) (n w : List UInt8), whichF (k + j) l n w = (whichF k l n w).map (· + j)
  | k, j, [], n, w => rfl
  | k, j, r :: l, n, w => by
    rw [whichF, whichF]
    split
    · rfl
    · rw [show k + j + 1 = (k + 1) + j from by omega, whichF_shift (k + 1) j l n w]
theorem whichF_app : ∀ (k : Nat) (l m : List Rule) (n w : List UInt8), whichF k (l ++ m) n w = match whichF k l n w with | some i => some i | none => whichF (k + l.length) m n w
  | k, [], m, n, w => by simp [whichF]
  | k, r :: l, m, n, w => by
    rw [List.cons_append, whichF, whichF]
    split
    · rfl
    · rw [whichF_app (k + 1) l m n w, List.length_cons, show k + 1 + l.length = k + (l.length + 1) from by omega]
theorem which_take : ∀ {k : Nat} {l : List Rule} {n w : List UInt8} {i : Nat}, whichF k l n w = some i → whichF k (l.take (i - k)) n w = none
  | k, [], n, w, i, h => by cases h
  | k, r :: l, n, w, i, h => by
    rw [whichF] at h
    split at h
    · cases h; rw [Nat.sub_self]; rfl
    · rename_i hr
      have h1 := whichF_some h
      rw [show i - k = (i - (k + 1)) + 1 from by omega, List.take_succ_cons, whichF, if_neg hr]
      exact which_take h
theorem allowed_app : ∀ (l m : List Rule) (k : Nat) (n w : List UInt8), allowed (l ++ m) n w = match whichF k l n w with | some _ => allowed l n w | none => allowed m n w
  | [], m, k, n, w => by simp [whichF]
  | r :: l, m, k, n, w => by
    rw [List.cons_append, allowed, allowed, whichF]
    split
    · rfl
    · exact allowed_app l m (k + 1) n w
theorem allowed_none : ∀ {l : List Rule} {k : Nat} {n w : List UInt8}, whichF k l n w = none → allowed l n w = false
  | [], _, _, _, _ => rfl
  | r :: l, k, n, w, h => by
    rw [whichF] at h
    split at h
    · cases h
    · rename_i hr
      rw [allowed, if_neg hr]; exact allowed_none h
/-- Allowed, by the rule's number. -/
theorem allowed_get : ∀ {l : List Rule} {k i : Nat} {n w : List UInt8} (h : whichF k l n w = some i), ∃ r, l[i - k]? = some r ∧ allowed l n w = r.allow
  | [], k, i, n, w, h => by cases h
  | r :: l, k, i, n, w, h => by
    rw [whichF] at h
    split at h
    · rename_i hr
      cases h
      exact ⟨r, by rw [Nat.sub_self]; rfl, by rw [allowed, if_pos hr]⟩
    · rename_i hr
      have h1 := whichF_some h
      obtain ⟨r', h2, h3⟩ := allowed_get h
      exact ⟨r', by rw [show i - k = (i - (k + 1)) + 1 from by omega, List.getElem?_cons_succ]; exact h2, by rw [allowed, if_neg hr]; exact h3⟩
/-- A rule of all, ahead. -/
theorem allowed_all (l : List Rule) (b : Bool) (n w : List UInt8) : allowed (⟨b, ⟨#[]⟩, ⟨#[47]⟩⟩ :: l) n w = (b && may w) := by
  have h1 : (⟨#[47]⟩ : ByteArray).data.toList = [47] := rfl
  have ht : tells ⟨b, ⟨#[]⟩, ⟨#[47]⟩⟩ n w = may w := by
    cases hm : may w
    · simp only [tells, h1, (under_none hm).2, Bool.and_false]
    · simp only [tells, h1, under_root hm]; rfl
  rw [allowed, ht]
  cases hm : may w
  · simp only [Bool.false_eq_true, if_false, Bool.and_false]
    have hno : ∀ (l : List Rule), allowed l n w = false := by
      intro l
      induction l with
      | nil => rfl
      | cons r l ih => rw [allowed, if_neg (by rw [tells, (under_none hm).2]; simp)]; exact ih
    exact hno l
  · simp
theorem tells_below {r : Rule} {n w v : List UInt8} (h : tells r n w = true) (hb : under w v = true) : tells r n v = true := by
  simp only [tells, Bool.and_eq_true] at h ⊢
  exact ⟨h.1, under_trans h.2 hb⟩
/-- A rule that tells nothing, somewhere. -/
theorem which_skip (l m : List Rule) (r : Rule) (n w : List UInt8) (h : tells r n w = false) (i j : Int) (hi : whichI (which (l ++ m) n w) = i) (hj : whichI (which (l ++ r :: m) n w) = j) :
    ((l.length : Int) ≤ i → j = i + 1) ∧ (i < (l.length : Int) → j = i) := by
  subst hi hj
  have e1 : which (l ++ m) n w = match whichF 0 l n w with | some i => some i | none => whichF (0 + l.length) m n w := whichF_app 0 l m n w
  have e2 : which (l ++ r :: m) n w = match whichF 0 l n w with | some i => some i | none => whichF (0 + l.length) (r :: m) n w := whichF_app 0 l (r :: m) n w
  rw [e1, e2]
  cases h1 : whichF 0 l n w with
  | some i =>
    have := whichF_some h1
    show ((l.length : Int) ≤ (i : Int) → (i : Int) = (i : Int) + 1) ∧ ((i : Int) < (l.length : Int) → (i : Int) = (i : Int))
    omega
  | none =>
    show ((l.length : Int) ≤ whichI (whichF (0 + l.length) m n w) → whichI (whichF (0 + l.length) (r :: m) n w) = whichI (whichF (0 + l.length) m n w) + 1) ∧ (whichI (whichF (0 + l.length) m n w) < (l.length : Int) → whichI (whichF (0 + l.length) (r :: m) n w) = whichI (whichF (0 + l.length) m n w))
    rw [whichF, if_neg (by rw [h]; simp), whichF_shift (0 + l.length) 1]
    cases h2 : whichF (0 + l.length) m n w with
    | none => exact ⟨fun h => by exfalso; have h3 : ((l.length : Int) ≤ -1) := h; omega, fun _ => rfl⟩
    | some j =>
      have := whichF_some h2
      simp only [Option.map_some, whichI]; omega
theorem allowed_skip (l m : List Rule) (r : Rule) (n w : List UInt8) (h : tells r n w = false) : allowed (l ++ r :: m) n w = allowed (l ++ m) n w := by
  rw [allowed_app l (r :: m) 0, allowed_app l m 0]
  cases whichF 0 l n w with
  | some i => rfl
  | none => show allowed (r :: m) n w = allowed m n w; rw [allowed, if_neg (by rw [h]; simp)]
end Go.Proofs.YtdemfgijfnicpaaDoor.AclP

namespace Go.Proofs.YtdemfgijfnicpaaDoor.Q
open Go Go.RowKit Go.Proofs.YtdemfgijfnicpaaDoorW.PrintWords Go.Proofs.YtdemfgijfnicpaaDoorW.PrintLast Go.Proofs.YtdemfgijfnicpaaDoorW.PrintMore Go.Proofs.YtdemfgijfnicpaaDoor.AclMet
set_option linter.unusedVariables false
set_option linter.unusedSimpArgs false

def path_May.f (a0 : ByteArray) : Option Bool := if a0.size ≤ 1000000 then some (PathP.may a0.data.toList) else none
theorem path_May.calls (a0 : ByteArray) (r : Bool) (w : World) (hmet : WMet w) (h : path_May.f a0 = some r) :
    Calls Tryd.prog 15 #[.string a0] w fun e w' => e = .returned (.bool r) ∧ Below w.heap.size w w' := by
  unfold path_May.f at h
  split at h
  · rename_i hs
    obtain rfl := Option.some.inj h
    exact Path.may_calls a0 hs w hmet
  · cases h
def path_Under.f (a0 a1 : ByteArray) : Option Bool := if a0.size ≤ 1000000 ∧ a1.size ≤ 1000000 then some (PathP.under a0.data.toList a1.data.toList) else none
theorem path_Under.calls (a0 a1 : ByteArray) (r : Bool) (w : World) (hmet : WMet w) (h : path_Under.f a0 a1 = some r) :
    Calls Tryd.prog 16 #[.string a0, .string a1] w fun e w' => e = .returned (.bool r) ∧ Below w.heap.size w w' := by
  unfold path_Under.f at h
  split at h
  · rename_i hs
    obtain rfl := Option.some.inj h
    exact Path.under_calls a0 a1 hs.1 hs.2 w hmet
  · cases h
def wharfingerref10_May.f (a0 : ByteArray) : Option Bool := if a0.size ≤ 1000000 then some (PathP.may a0.data.toList) else none
theorem wharfingerref10_May.calls (a0 : ByteArray) (r : Bool) (w : World) (h : wharfingerref10_May.f a0 = some r) :
    Calls Tryd.prog 18 #[.string a0] w fun e w' => e = .returned (.bool r) ∧ Below w.heap.size w w' := by
  unfold wharfingerref10_May.f at h
  split at h
  · rename_i hs
    obtain rfl := Option.some.inj h
    exact Path.ref_may_calls a0 hs w
  · cases h
def wharfingerref10_Under.f (a0 a1 : ByteArray) : Option Bool := if a0.size ≤ 1000000 ∧ a1.size ≤ 1000000 then some (PathP.under a0.data.toList a1.data.toList) else none
theorem wharfingerref10_Under.calls (a0 a1 : ByteArray) (r : Bool) (w : World) (h : wharfingerref10_Under.f a0 a1 = some r) :
    Calls Tryd.prog 22 #[.string a0, .string a1] w fun e w' => e = .returned (.bool r) ∧ Below w.heap.size w w' := by
  unfold wharfingerref10_Under.f at h
  split at h
  · rename_i hs
    obtain rfl := Option.some.inj h
    exact Path.ref_under_calls a0 a1 hs.1 hs.2 w
  · cases h

theorem str_is_nil (v : ByteArray) : v.toList.isEmpty = (v.data.toList == []) := by
  rw [ByteArray.toList_eq]; cases v.data.toList <;> rfl
set_option maxRecDepth 100000 in
theorem which1_calls (b : Bool) (v p name : ByteArray) (B : Addr) (w : World) (hn : w.cell? B = some (.string name)) :
    Calls Tryd.prog 20 #[.agg #[.bool b, .string v, .string p], .pointer (some B)] w fun e w' => e = .returned (.bool (v.data.toList == [] || v.data.toList == name.data.toList)) ∧ Below w.heap.size w w' := by
  have hn2 : ∀ o, (w.alloc o).cell? B = some (.string name) := fun o => (((Below.refl w.heap.size w).alloc (Nat.le_refl _) o).cell (World.block_lt_of_cell? w _ hn)).trans hn
  have HB := Aside0.mk (((Below.refl w.heap.size w).alloc (Nat.le_refl _) (.cells #[.bool b, .string v, .string p] 28)))
  clear hn
  by_cases h1 : v.data.toList = []
  · have h2 : v.toList.isEmpty = true := by rw [str_is_nil, h1]; rfl
    have HR := Aside0.mk (show (v.data.toList == [] || v.data.toList == name.data.toList) = true from by rw [h1]; rfl)
    clear h1
    go_enter Tryd.func20, Tryd.ntmps20
    go_wp2
    go_ret
    exact ⟨by rw [HR.out]; rfl, HB.out⟩
  · have h2 : v.toList.isEmpty = false := by rw [str_is_nil]; exact beq_eq_false_iff_ne.2 h1
    have HR := Aside0.mk (show (v.data.toList == [] || v.data.toList == name.data.toList) = (v.toList == name.toList) from by rw [beq_eq_false_iff_ne.2 h1, ByteArray.toList_eq, ByteArray.toList_eq]; rfl)
    clear h1
    go_enter Tryd.func20, Tryd.ntmps20
    go_wp2
    go_ret
    exact ⟨by rw [HR.out]; rfl, HB.out⟩
set_option maxRecDepth 100000 in
theorem which2_calls (b : Bool) (v p wher : ByteArray) (B : Addr) (w : World) (hn : w.cell? B = some (.string wher)) (hp : p.size ≤ 1000000) (hw : wher.size ≤ 1000000) (hmet : WMet w) :
    Calls Tryd.prog 21 #[.agg #[.bool b, .string v, .string p], .pointer (some B)] w fun e w' => e = .returned (.bool (PathP.under p.data.toList wher.data.toList)) ∧ Below w.heap.size w w' := by
  have hn2 : ∀ o, (w.alloc o).cell? B = some (.string wher) := fun o => (((Below.refl w.heap.size w).alloc (Nat.le_refl _) o).cell (World.block_lt_of_cell? w _ hn)).trans hn
  have HB := Aside0.mk (((Below.refl w.heap.size w).alloc (Nat.le_refl _) (.cells #[.bool b, .string v, .string p] 28)))
  have HM := Aside0.mk hmet
  clear hn hmet
  go_enter Tryd.func21, Tryd.ntmps21
  go_wp2_with (go_at_call 16; refine (Path.under_calls p wher hp hw _ (HM.out.below HB.out)).mono ?_; rintro e w2 ⟨rfl, hb⟩; replace HB := Aside0.mk (HB.out.trans (hb.mono HB.out.size)); clear hb)
  go_ret
  exact ⟨rfl, HB.out⟩
end Go.Proofs.YtdemfgijfnicpaaDoor.Q

namespace Go.Proofs.YtdemfgijfnicpaaDoor.MapLaw
open Go Go.RowKit

/-- The first place of a key, and its value. -/
def lk {κ : Type} [DecidableEq κ] (k : κ) : List (κ × Value) → Nat → Option (Nat × Value)
  | [], _ => none
  | (a, v) :: r, i => if k = a then some (i, v) else lk k r (i + 1)

/-- The value at a key. -/
def at_ {κ : Type} [DecidableEq κ] (k : κ) (l : List (κ × Value)) : Option Value := (lk k l 0).map (·.2)

/-- The list behind a store. -/
def put {κ : Type} [DecidableEq κ] (k : κ) (v : Value) : List (κ × Value) → List (κ × Value)
  | [] => [(k, v)]
  | (a, u) :: r => if k = a then (k, v) :: r else (a, u) :: put k v r

/-- What the laws ask of a key's type. -/
structure KeyOk {κ : Type} [DecidableEq κ] (P : Program) (kt : TypeId) (kenc : κ → Value) : Prop where
  check : ∀ (w : World) (em : Bool) (k : κ), (Instr.checkKey em 10000 kt (kenc k)).run P w = .ok () w
  find : ∀ (w : World) (k : κ) (es : List MapEntry) (l : List (κ × Value)), es.map (fun e => (e.key, e.val)) = l.map (fun p => (kenc p.1, p.2)) →
    (Instr.findKey kt (kenc k) es).run P w = .ok (lk k l 0) w
  stays : ∀ (w : World) (k : κ), (Instr.keyThatStays (kenc k) (kenc k)).run P w = .ok (kenc k) w

/-- Block b is a map that reads as the list l. -/
def Is {κ : Type} (kenc : κ → Value) (w : World) (b : Nat) (l : List (κ × Value)) : Prop :=
  ∃ es clock, w.heap[b]? = some (.map es clock) ∧ es.toList.map (fun e => (e.key, e.val)) = l.map (fun p => (kenc p.1, p.2))

section
variable {κ : Type} {kenc : κ → Value} {w : World} {b : Nat} {l : List (κ × Value)}
theorem Is.made (kenc : κ → Value) (w : World) : Is kenc (w.alloc (.map #[] 0)) w.heap.size [] := ⟨#[], 0, (MapKept.heap_alloc w _).1, rfl⟩
theorem Is.lt (h : Is kenc w b l) : b < w.heap.size := by obtain ⟨es, c, hb, _⟩ := h; exact (Array.getElem?_eq_some_iff.1 hb).1
theorem Is.move {w' : World} (h : Is kenc w b l) (hm : w'.heap[b]? = w.heap[b]?) : Is kenc w' b l := by obtain ⟨es, c, hb, hl⟩ := h; exact ⟨es, c, hm.trans hb, hl⟩
theorem Is.alloc (h : Is kenc w b l) (o : Obj) : Is kenc (w.alloc o) b l := h.move (Below.heap_alloc _ _ _ h.lt)
theorem Is.drew (h : Is kenc w b l) : Is kenc w.drew b l := h.move rfl
theorem Is.drewN (h : Is kenc w b l) (n : Nat) : Is kenc (w.drewN n) b l := h.move rfl
theorem Is.below (h : Is kenc w b l) {w' : World} (hb : Below w.heap.size w w') : Is kenc w' b l := h.move (hb.block _ h.lt)
theorem Is.grown (h : Is kenc w b l) {w' : World} {row : Option Nat} (hg : w.grownBy w' row) (hne : some b ≠ row) : Is kenc w' b l := h.move (hg.block b h.lt hne)
theorem Is.size {w : World} (h : Is kenc w b l) : ∃ es c, w.heap[b]? = some (.map es c) ∧ es.size = l.length := by
  obtain ⟨es, c, hb, hl⟩ := h
  refine ⟨es, c, hb, ?_⟩
  have := congrArg List.length hl
  simpa using this
end

section
variable {κ : Type} [DecidableEq κ] {kenc : κ → Value} {P : Program} {kt : TypeId} {w : World} {b : Nat} {l : List (κ × Value)}

theorem lk_shift (k : κ) : ∀ (l : List (κ × Value)) (i : Nat), lk k l i = (lk k l 0).map (fun p => (p.1 + i, p.2))
  | [], i => rfl
  | (a, v) :: r, i => by
    unfold lk
    split
    · simp
    · rw [lk_shift k r (i + 1), lk_shift k r (0 + 1)]
      cases lk k r 0 <;> simp; omega

theorem run_lookup (K : KeyOk P kt kenc) {t e : TypeId} (ht : P.underlying t = some (.map kt e)) {z : Value} (hz : (zeroValue e).run P w = .ok z w) (h : Is kenc w b l) (k : κ) (c : Bool) :
    (Instr.lookup t (.map (some b)) (kenc k) c).run P w = .ok (if c then .tuple #[(at_ k l).getD z, .bool (at_ k l).isSome] else (at_ k l).getD z) w := by
  obtain ⟨es, cl, hb, hl⟩ := h
  have h1 := K.find w k es.toList l hl
  cases hx : lk k l 0 with
  | none =>
    rw [hx] at h1
    cases c <;> simp [Instr.lookup, run_underlying ht, MapKept.run_getObj_map hb, K.check, h1, hz, Result.andThen, at_, hx]
  | some p =>
    rw [hx] at h1
    cases c <;> simp [Instr.lookup, run_underlying ht, MapKept.run_getObj_map hb, K.check, h1, Result.andThen, at_, hx]

theorem modify_toList (es : Array MapEntry) (i : Nat) (f : MapEntry → MapEntry) : (es.modify i f).toList = es.toList.modify i f := by simp

theorem lk_spec (k : κ) : ∀ (l : List (κ × Value)) (i : Nat) (v : Value), lk k l 0 = some (i, v) → l[i]? = some (k, v) ∧ ∀ u, put k u l = l.set i (k, u)
  | [], _, _, h => by simp [lk] at h
  | (a, u) :: r, i, v, h => by
    unfold lk at h
    split at h
    · rename_i e
      subst e
      simp at h
      obtain ⟨rfl, rfl⟩ := h
      exact ⟨by simp, fun u => by simp [put]⟩
    · rename_i e
      rw [lk_shift] at h
      cases hr : lk k r 0 with
      | none => rw [hr] at h; simp at h
      | some p =>
        obtain ⟨j, x⟩ := p
        rw [hr] at h
        simp at h
        obtain ⟨rfl, rfl⟩ := h
        obtain ⟨h1, h2⟩ := lk_spec k r j x hr
        exact ⟨by simpa using h1, fun u => by simp [put, e, h2 u]⟩

theorem put_new (k : κ) (u : Value) : ∀ (l : List (κ × Value)), lk k l 0 = none → put k u l = l ++ [(k, u)]
  | [], _ => rfl
  | (a, x) :: r, h => by
    unfold lk at h
    split at h
    · cases h
    · rename_i e
      rw [lk_shift] at h
      simp at h
      simp [put, e, put_new k u r h]

theorem run_update (K : KeyOk P kt kenc) {t e : TypeId} (ht : P.underlying t = some (.map kt e)) (h : Is kenc w b l) (k : κ) (v : Value) :
    ∃ w', (Instr.mapUpdate t (.map (some b)) (kenc k) v).run P w = .ok () w' ∧ Is kenc w' b (put k v l) ∧ w.grownBy w' (some b) := by
  obtain ⟨es, cl, hb, hl⟩ := h
  have h1 := K.find w k es.toList l hl
  have hlt := (Array.getElem?_eq_some_iff.1 hb).1
  have gr : ∀ o, w.grownBy (ChangeMaps.setBlock w b o) (some b) := fun o =>
    ⟨rfl, rfl, rfl, by simp [ChangeMaps.setBlock], fun i _ hi => ChangeMaps.heap_setBlock_other hb _ (fun e => hi (by rw [e]))⟩
  cases hx : lk k l 0 with
  | none =>
    rw [hx] at h1
    refine ⟨ChangeMaps.setBlock w b (.map (es.push { key := kenc k, val := v, born := cl }) (cl + 1)), ?_, ⟨_, _, ChangeMaps.heap_setBlock_same hb _, ?_⟩, gr _⟩
    · simp [Instr.mapUpdate, run_underlying ht, MapKept.run_getObj_map hb, K.check, h1, MapKept.run_setObj_map _ hb, Result.andThen, ChangeMaps.setBlock]
    · rw [put_new k v l hx]; simp [hl]
  | some p =>
    obtain ⟨i, u⟩ := p
    rw [hx] at h1
    obtain ⟨h2, h3⟩ := lk_spec k l i u hx
    have h4 : (es.toList.map (fun e => (e.key, e.val)))[i]? = some (kenc k, u) := by rw [hl]; simp [h2]
    obtain ⟨e0, he0, hk0⟩ : ∃ e0, es[i]? = some e0 ∧ e0.key = kenc k := by
      rw [List.getElem?_map] at h4
      cases hh : es.toList[i]? with
      | none => rw [hh] at h4; cases h4
      | some e0 =>
        rw [hh] at h4
        simp at h4
        exact ⟨e0, by simpa using hh, h4.1⟩
    refine ⟨ChangeMaps.setBlock w b (.map (es.modify i fun e => { e with key := kenc k, val := v }) cl), ?_, ⟨_, _, ChangeMaps.heap_setBlock_same hb _, ?_⟩, gr _⟩
    · simp [Instr.mapUpdate, run_underlying ht, MapKept.run_getObj_map hb, K.check, h1, he0, hk0, K.stays, MapKept.run_setObj_map _ hb, Result.andThen, ChangeMaps.setBlock]
    · rw [h3 v]
      apply List.ext_getElem?
      intro j
      have hj := congrArg (fun z => z[j]?) hl
      simp only [List.getElem?_map, Array.getElem?_toList] at hj
      simp only [List.getElem?_map, Array.getElem?_toList, Array.getElem?_modify, List.getElem?_set]
      by_cases hij : i = j
      · subst hij
        simp [he0, (List.getElem?_eq_some_iff.1 h2).1]
      · simp [hij, hj]

end

/-! ### at the operation -/
section
variable {κ : Type} [DecidableEq κ] {kenc : κ → Value} {P : Program} {kt : TypeId} (w : World) {b : Nat} {l : List (κ × Value)}
variable {ops : Array Oper} {rest : List Oper} {o : Oper} {a : Act} {Q : Exit → Act → World → Prop}

theorem wp_lookup (hg : o.guard = none) (m x : Operand) (t e : TypeId) (c : Bool) (hop : o.op = Op.lookup t m x c) (K : KeyOk P kt kenc) (ht : P.underlying t = some (.map kt e)) {z : Value} (hz : (zeroValue e).run P w = .ok z w)
    (hm : a.eval m = .map (some b)) (h : Is kenc w b l) (k : κ) (hx : a.eval x = kenc k)
    (hK : wpList P ops Q rest (a.put o.dst (if c then .tuple #[(at_ k l).getD z, .bool (at_ k l).isSome] else (at_ k l).getD z)) w) : wpList P ops Q (o :: rest) a w := by
  refine wpList_plain hg fun K' hK' => ?_
  have hrun := run_lookup K ht hz h k c
  unfold Oper.wp
  simp only [execOp, hop, hm, hx]
  simp [hrun, Result.andThen]
  exact hK' _ _ (by simpa using hK)

theorem wp_update (hg : o.guard = none) (m x v : Operand) (t e : TypeId) (hop : o.op = Op.mapUpdate t m x v) (K : KeyOk P kt kenc) (ht : P.underlying t = some (.map kt e))
    (hm : a.eval m = .map (some b)) (h : Is kenc w b l) (k : κ) (hx : a.eval x = kenc k) (val : Value) (hv : a.eval v = val)
    (hK : ∀ w', Is kenc w' b (put k val l) → w.grownBy w' (some b) → wpList P ops Q rest (a.put o.dst undef) w') : wpList P ops Q (o :: rest) a w := by
  refine wpList_plain hg fun K' hK' => ?_
  obtain ⟨w', hrun, r1, r2⟩ := run_update K ht h k val
  unfold Oper.wp
  simp [execOp, hop, hm, hx, hv, hrun, Result.andThen]
  exact hK' _ _ (hK w' r1 r2)

omit [DecidableEq κ] in
theorem wp_len (hg : o.guard = none) (m : Operand) (t e : TypeId) (hop : o.op = Op.call { callee := Callee.builtin Builtin.len, args := #[m], argTypes := #[t] })
    (ht : P.underlying t = some (.map kt e)) (hm : a.eval m = .map (some b)) (h : Is kenc w b l)
    (hK : wpList P ops Q rest (a.put o.dst (.int .i64 l.length)) w) : wpList P ops Q (o :: rest) a w := by
  refine wpList_plain hg fun K' hK' => ?_
  obtain ⟨es, c, hb, hs⟩ := h.size
  have hrun : ∀ ty, (Builtin.len_ #[t] ty #[.map (some b)]).run P w = .ok (.int .i64 l.length) w := fun ty => by
    simp [Builtin.len_, run_underlying ht, MapKept.run_getObj_map hb, goInt, Result.andThen, hs]
  unfold Oper.wp
  simp [execOp, hop, resolve, invoke, builtin, hm, hrun o.type, Result.andThen]
  exact hK' _ _ hK
end

/-! ### keys -/
theorem find_plain {κ : Type} [DecidableEq κ] {P : Program} {kt : TypeId} {kenc : κ → Value} {d : TypeDesc} (hk : P.underlying kt = some d) (hs : ∀ a b : κ, Instr.sameNow d (kenc a) (kenc b) = some (decide (a = b)))
    (w : World) (k : κ) (es : List MapEntry) (l : List (κ × Value)) (hl : es.map (fun e => (e.key, e.val)) = l.map (fun p => (kenc p.1, p.2))) : (Instr.findKey kt (kenc k) es).run P w = .ok (lk k l 0) w := by
  have h : ∀ (es : List MapEntry) (l : List (κ × Value)) (i : Nat), es.map (fun e => (e.key, e.val)) = l.map (fun p => (kenc p.1, p.2)) → Instr.findNow d (kenc k) es i = some (lk k l i) := by
    intro es
    induction es with
    | nil => intro l i h; cases l <;> simp at h; rfl
    | cons e es ih =>
      intro l i h
      cases l with
      | nil => simp at h
      | cons p r =>
        simp at h
        obtain ⟨⟨h1, h2⟩, h3⟩ := h
        unfold Instr.findNow lk
        rw [h1, hs, h2]
        by_cases e : k = p.1
        · simp [e]
        · simp [e, ih r (i + 1) (by simpa using h3)]
  simp [Instr.findKey, run_underlying hk, h es l 0 hl, Result.andThen]

theorem beq_str (a b : ByteArray) : (a == b) = decide (a = b) := by
  cases a with | mk a => cases b with | mk b =>
  show (a == b) = _
  by_cases h : a = b
  · subst h; simp
  · rw [beq_eq_false_iff_ne.2 h, decide_eq_false (by simpa using h)]

theorem int_key {P : Program} {kt : TypeId} {q : IntKind} (hk : P.underlying kt = some (.int q)) : KeyOk P kt (Value.int q) where
  check w em k := MapKept.run_checkKey hk (k := .int q k) (show MapKept.IsKey (.int q) (.int q k) from rfl) em 9999
  find := find_plain hk (fun a b => by simp only [Instr.sameNow, if_true]; rfl)
  stays w k := MapKept.run_keyThatStays (show MapKept.IsKey (.int q) (.int q k) from rfl)

theorem string_key {P : Program} {kt : TypeId} (hk : P.underlying kt = some .string) : KeyOk P kt Value.string where
  check w em k := MapKept.run_checkKey hk (k := .string k) (show MapKept.IsKey .string (.string k) from trivial) em 9999
  find := find_plain hk (fun a b => by simp only [Instr.sameNow, beq_str])
  stays w k := MapKept.run_keyThatStays (show MapKept.IsKey .string (.string k) from trivial)

/-! ### what a list of stores leaves -/
section
variable {κ : Type} [DecidableEq κ]
theorem at_nil (k : κ) : at_ k ([] : List (κ × Value)) = none := rfl
theorem at_cons (k a : κ) (v : Value) (r : List (κ × Value)) : at_ k ((a, v) :: r) = if k = a then some v else at_ k r := by
  unfold at_
  rw [lk]
  split
  · rfl
  · rw [lk_shift]; cases lk k r 0 <;> rfl
theorem at_put (k x : κ) (v : Value) : ∀ l : List (κ × Value), at_ k (put x v l) = if k = x then some v else at_ k l
  | [] => by simp [put, at_cons]
  | (a, u) :: r => by
    unfold put
    split
    · rename_i e; subst e
      rw [at_cons, at_cons]
      split <;> simp [*]
    · rename_i e
      rw [at_cons, at_cons, at_put k x v r]
      by_cases h : k = a
      · subst h; simp [Ne.symm e]
      · simp [h]
theorem length_put (x : κ) (v : Value) : ∀ l : List (κ × Value), (put x v l).length = if (at_ x l).isSome then l.length else l.length + 1
  | [] => rfl
  | (a, u) :: r => by
    unfold put
    rw [at_cons]
    split
    · simp
    · rw [List.length_cons, length_put x v r]; split <;> simp
end
end Go.Proofs.YtdemfgijfnicpaaDoor.MapLaw

namespace Go.Proofs.YtdemfgijfnicpaaDoor.Q
open Go Go.RowKit Go.Proofs.YtdemfgijfnicpaaDoorW.PrintWords Go.Proofs.YtdemfgijfnicpaaDoorW.PrintLast Go.Proofs.YtdemfgijfnicpaaDoorW.PrintMore
set_option linter.unusedVariables false
set_option linter.unusedSimpArgs false

/-! ### elements laid flat -/
theorem reps_app {α : Type} {R : α → List Value → Prop} {size : Nat} (enc : α → List Value) (hlen : ∀ x, (enc x).length = size) : ∀ (xs ps : List α) (cs : List Value), Reps R size ps cs → (∀ x ∈ xs, R x (enc x)) → Reps R size (ps ++ xs) (cs ++ xs.flatMap enc)
  | [], ps, cs, h, _ => by simpa using h
  | x :: xs, ps, cs, h, hx => by
    have h1 := reps_app enc hlen xs (ps ++ [x]) (cs ++ enc x) (h.snoc (hx x (List.mem_cons_self ..)) (hlen x)) (fun y hy => hx y (List.mem_cons_of_mem _ hy))
    simpa using h1
theorem reps_flat {α : Type} {R : α → List Value → Prop} {size : Nat} (enc : α → List Value) (hlen : ∀ x, (enc x).length = size) (xs : List α) (hx : ∀ x ∈ xs, R x (enc x)) : Reps R size xs (xs.flatMap enc) := by
  simpa using reps_app enc hlen xs [] [] (Reps.none R size) hx
/-- A row that was just laid. -/
theorem R_fresh {α : Type} (d : Kd α) (e : TypeId) (w : World) (xs : List α) (enc : α → List Value) (hlen : ∀ x, (enc x).length = d.sz) (hM : ∀ x ∈ xs, d.M w w.heap.size (fun _ => False) x (enc x)) (hm : xs.length ≤ 9223372036854775807) (cells : Array Value) (hc : cells = (xs.flatMap enc).toArray) :
    d.R e (w.alloc (.cells cells e)) w.heap.size (fun _ => True) (.slice (some ⟨w.heap.size, 0, none⟩) xs.length xs.length) xs := by
  subst hc
  have hr := reps_flat (R := fun x c => d.M w w.heap.size (fun _ => False) x c) enc hlen xs hM
  refine ⟨fun _ _ => trivial, xs.flatMap enc, ?_, ?_⟩
  · have h2 := World.ownsRow_lit (base := w.heap.size) (e := e) (size := d.sz) w (xs.flatMap enc).toArray xs.length (Nat.le_refl _) (by simpa [maxLen] using hm) (by simpa using hr.1)
    simpa using h2
  · exact hr.imp_ (fun p c hp => d.M_mono (fun k hk => hk.1.elim) (Kd.M_below (d.M_bound hp) (below_alloc (Below.refl _ _) _)))
/-- A row that lies in a block known whole. -/
theorem C_of_blk {α : Type} (d : Kd α) (e : TypeId) (w : World) (B : Nat) (xs : List α) (enc : α → List Value) (hlen : ∀ x, (enc x).length = d.sz) (hK : ∀ x ∈ xs, d.K w x (enc x)) (hm : xs.length ≤ 9223372036854775807) {cells : Array Value} (hc : cells = (xs.flatMap enc).toArray) (hb : w.heap[B]? = some (.cells cells e (0, 0))) :
    Kd.C d w (some ⟨B, 0, none⟩) xs.length xs := by
  subst hc
  have hr := reps_flat (R := fun x c => d.K w x c) enc hlen xs hK
  refine ⟨rfl, hm, fun _ => ⟨_, rfl, fun j p hp => ⟨_, ?_, hr.2 j p hp, fun i u hu => ?_⟩⟩⟩
  · exact d.K_len (hr.2 j p hp)
  · have e1 : (⟨B, 0, none⟩ : Addr).add (j * d.sz + i) = ⟨B, j * d.sz + i, none⟩ := by
      simp [Addr.add]
      intro h1 h2; omega
    rw [e1, blk_cell hb, List.getElem?_toArray]
    rw [List.getElem?_take] at hu
    split at hu
    · rwa [List.getElem?_drop] at hu
    · cases hu

/-! ### the table -/
def tableS : List S35 := [
  ⟨⟨#[65, 66, 79, 82]⟩, 9, 0, false⟩,
  ⟨⟨#[65, 67, 67, 84]⟩, 0, 2, false⟩,
  ⟨⟨#[65, 76, 76, 79]⟩, 1, 2, false⟩,
  ⟨⟨#[65, 80, 80, 69]⟩, 3, 2, true⟩,
  ⟨⟨#[67, 68, 85, 80]⟩, 2, 0, false⟩,
  ⟨⟨#[67, 87, 68]⟩, 2, 2, true⟩,
  ⟨⟨#[68, 69, 76, 69]⟩, 1, 2, true⟩,
  ⟨⟨#[69, 80, 82, 84]⟩, 5, 2, false⟩,
  ⟨⟨#[69, 80, 83, 86]⟩, 4, 0, false⟩,
  ⟨⟨#[70, 69, 65, 84]⟩, 1, 0, false⟩,
  ⟨⟨#[72, 69, 76, 80]⟩, 1, 1, false⟩,
  ⟨⟨#[76, 73, 83, 84]⟩, 3, 1, true⟩,
  ⟨⟨#[77, 68, 84, 77]⟩, 1, 2, true⟩,
  ⟨⟨#[77, 75, 68]⟩, 1, 2, true⟩,
  ⟨⟨#[77, 76, 83, 68]⟩, 3, 1, true⟩,
  ⟨⟨#[77, 76, 83, 84]⟩, 1, 1, true⟩,
  ⟨⟨#[77, 79, 68, 69]⟩, 1, 2, false⟩,
  ⟨⟨#[78, 76, 83, 84]⟩, 3, 1, true⟩,
  ⟨⟨#[78, 79, 79, 80]⟩, 1, 0, false⟩,
  ⟨⟨#[80, 65, 83, 83]⟩, 0, 1, false⟩,
  ⟨⟨#[80, 65, 83, 86]⟩, 4, 0, false⟩,
  ⟨⟨#[80, 79, 82, 84]⟩, 5, 2, false⟩,
  ⟨⟨#[80, 87, 68]⟩, 1, 0, false⟩,
  ⟨⟨#[81, 85, 73, 84]⟩, 10, 0, false⟩,
  ⟨⟨#[82, 69, 83, 84]⟩, 8, 2, false⟩,
  ⟨⟨#[82, 69, 84, 82]⟩, 3, 2, true⟩,
  ⟨⟨#[82, 77, 68]⟩, 1, 2, true⟩,
  ⟨⟨#[82, 78, 70, 82]⟩, 6, 2, true⟩,
  ⟨⟨#[82, 78, 84, 79]⟩, 7, 2, true⟩,
  ⟨⟨#[83, 73, 90, 69]⟩, 1, 2, true⟩,
  ⟨⟨#[83, 84, 65, 84]⟩, 1, 1, true⟩,
  ⟨⟨#[83, 84, 79, 82]⟩, 3, 2, true⟩,
  ⟨⟨#[83, 84, 82, 85]⟩, 1, 2, false⟩,
  ⟨⟨#[83, 89, 83, 84]⟩, 1, 0, false⟩,
  ⟨⟨#[84, 89, 80, 69]⟩, 1, 2, false⟩,
  ⟨⟨#[85, 83, 69, 82]⟩, 0, 2, false⟩]
def encS (v : S35) : List Value := [.string v.f0, .int .i64 v.f1, .int .i64 v.f2, .bool v.f3]
def encV (v : S35) : Value := .agg (encS v).toArray
set_option maxRecDepth 100000 in
theorem tableS_len : tableS.length = 36 := rfl
set_option maxRecDepth 100000 in
theorem tableC : #[.string ⟨#[65, 66, 79, 82]⟩, .int .i64 9, .int .i64 0, .bool false, .string ⟨#[65, 67, 67, 84]⟩, .int .i64 0, .int .i64 2, .bool false, .string ⟨#[65, 76, 76, 79]⟩, .int .i64 1, .int .i64 2, .bool false, .string ⟨#[65, 80, 80, 69]⟩, .int .i64 3, .int .i64 2, .bool true, .string ⟨#[67, 68, 85, 80]⟩, .int .i64 2, .int .i64 0, .bool false, .string ⟨#[67, 87, 68]⟩, .int .i64 2, .int .i64 2, .bool true, .string ⟨#[68, 69, 76, 69]⟩, .int .i64 1, .int .i64 2, .bool true, .string ⟨#[69, 80, 82, 84]⟩, .int .i64 5, .int .i64 2, .bool false, .string ⟨#[69, 80, 83, 86]⟩, .int .i64 4, .int .i64 0, .bool false, .string ⟨#[70, 69, 65, 84]⟩, .int .i64 1, .int .i64 0, .bool false, .string ⟨#[72, 69, 76, 80]⟩, .int .i64 1, .int .i64 1, .bool false, .string ⟨#[76, 73, 83, 84]⟩, .int .i64 3, .int .i64 1, .bool true, .string ⟨#[77, 68, 84, 77]⟩, .int .i64 1, .int .i64 2, .bool true, .string ⟨#[77, 75, 68]⟩, .int .i64 1, .int .i64 2, .bool true, .string ⟨#[77, 76, 83, 68]⟩, .int .i64 3, .int .i64 1, .bool true, .string ⟨#[77, 76, 83, 84]⟩, .int .i64 1, .int .i64 1, .bool true, .string ⟨#[77, 79, 68, 69]⟩, .int .i64 1, .int .i64 2, .bool false, .string ⟨#[78, 76, 83, 84]⟩, .int .i64 3, .int .i64 1, .bool true, .string ⟨#[78, 79, 79, 80]⟩, .int .i64 1, .int .i64 0, .bool false, .string ⟨#[80, 65, 83, 83]⟩, .int .i64 0, .int .i64 1, .bool false, .string ⟨#[80, 65, 83, 86]⟩, .int .i64 4, .int .i64 0, .bool false, .string ⟨#[80, 79, 82, 84]⟩, .int .i64 5, .int .i64 2, .bool false, .string ⟨#[80, 87, 68]⟩, .int .i64 1, .int .i64 0, .bool false, .string ⟨#[81, 85, 73, 84]⟩, .int .i64 10, .int .i64 0, .bool false, .string ⟨#[82, 69, 83, 84]⟩, .int .i64 8, .int .i64 2, .bool false, .string ⟨#[82, 69, 84, 82]⟩, .int .i64 3, .int .i64 2, .bool true, .string ⟨#[82, 77, 68]⟩, .int .i64 1, .int .i64 2, .bool true, .string ⟨#[82, 78, 70, 82]⟩, .int .i64 6, .int .i64 2, .bool true, .string ⟨#[82, 78, 84, 79]⟩, .int .i64 7, .int .i64 2, .bool true, .string ⟨#[83, 73, 90, 69]⟩, .int .i64 1, .int .i64 2, .bool true, .string ⟨#[83, 84, 65, 84]⟩, .int .i64 1, .int .i64 1, .bool true, .string ⟨#[83, 84, 79, 82]⟩, .int .i64 3, .int .i64 2, .bool true, .string ⟨#[83, 84, 82, 85]⟩, .int .i64 1, .int .i64 2, .bool false, .string ⟨#[83, 89, 83, 84]⟩, .int .i64 1, .int .i64 0, .bool false, .string ⟨#[84, 89, 80, 69]⟩, .int .i64 1, .int .i64 2, .bool false, .string ⟨#[85, 83, 69, 82]⟩, .int .i64 0, .int .i64 2, .bool false] = (tableS.flatMap encS).toArray := rfl
theorem encS_len (v : S35) : (encS v).length = k35.sz := rfl
end Go.Proofs.YtdemfgijfnicpaaDoor.Q

namespace Go.Proofs.YtdemfgijfnicpaaDoor.Q
open Go Go.RowKit Go.Proofs.YtdemfgijfnicpaaDoorW.PrintWords Go.Proofs.YtdemfgijfnicpaaDoorW.PrintLast Go.Proofs.YtdemfgijfnicpaaDoorW.PrintMore
set_option linter.unusedVariables false
set_option linter.unusedSimpArgs false

/-! ### a row with the run-time's mark -/
theorem fblk_cell {w : World} {B : Nat} {C : Array Value} {t : TypeId} {f : Nat × Nat} (h : w.heap[B]? = some (.cells C t f)) (j : Nat) : w.cell? ⟨B, j, none⟩ = C[j]? := by simp [World.cell?, h]
theorem fblk_frozen {w : World} {B N : Nat} {C : Array Value} {t : TypeId} (h : w.heap[B]? = some (.cells C t (N, N + 1))) {j : Nat} (hj : j < N) : w.frozen? ⟨B, j, none⟩ = false := by simp [World.frozen?, h]; omega
theorem fblk_put {w : World} {B : Nat} {C : Array Value} {t : TypeId} {f : Nat × Nat} (h : w.heap[B]? = some (.cells C t f)) (j : Nat) (u : Value) (hu : u.oneCell' = true) : (w.setCell ⟨B, j, none⟩ u).heap[B]? = some (.cells (C.setIfInBounds j u) t f) := by
  simp [World.setCell, Array.getElem?_modify, h]

def upB (c : UInt8) : UInt8 := if 97 ≤ c.toNat ∧ c.toNat ≤ 122 then c - 32 else c
def upper (l : List UInt8) : List UInt8 := l.map upB
theorem not32 (x : Nat) (h1 : 97 ≤ x) (h2 : x ≤ 122) : bits .andNot .u8 (x : Int) 32 = ((x - 32 : Nat) : Int) := by
  have : ∀ y : Fin 26, bits .andNot .u8 ((y.val + 97 : Nat) : Int) 32 = ((y.val + 97 - 32 : Nat) : Int) := by decide +kernel
  have := this ⟨x - 97, by omega⟩
  rwa [show x - 97 + 97 = x from by omega] at this
theorem upB_low (c : UInt8) (h1 : 97 ≤ c.toNat) (h2 : c.toNat ≤ 122) : (upB c).toNat = c.toNat - 32 := by
  rw [upB, if_pos ⟨h1, h2⟩, UInt8.toNat_sub_of_le _ _ (by rw [UInt8.le_iff_toNat_le]; show 32 ≤ _; omega)]; rfl
theorem upB_else (c : UInt8) (h : ¬ (97 ≤ c.toNat ∧ c.toNat ≤ 122)) : upB c = c := by rw [upB, if_neg h]
/-- The bytes behind k rounds. -/
def upTo (l : List UInt8) (k : Nat) : List UInt8 := (l.take k).map upB ++ l.drop k
theorem upTo_at (l : List UInt8) (k : Nat) (hk : k < l.length) : (upTo l k)[k]? = some l[k] := by
  rw [upTo, List.getElem?_append_right (by simp; omega)]
  simp [Nat.min_eq_left (Nat.le_of_lt hk), List.getElem?_eq_getElem hk]
theorem upTo_next (l : List UInt8) (k : Nat) (hk : k < l.length) : upTo l (k + 1) = (upTo l k).set k (upB l[k]) := by
  apply List.ext_getElem?
  intro j
  rw [List.getElem?_set]
  simp only [upTo, List.length_append, List.length_map, List.length_take, List.length_drop]
  by_cases hj : k = j
  · subst hj
    rw [if_pos rfl, if_pos (by omega), List.getElem?_append_left (by simp; omega)]
    simp [hk]
  · rw [if_neg hj]
    by_cases h2 : j < k
    · rw [List.getElem?_append_left (by simp; omega), List.getElem?_append_left (by simp; omega)]
      simp [h2, show j < k + 1 from by omega]
    · rw [List.getElem?_append_right (by simp; omega), List.getElem?_append_right (by simp; omega)]
      simp only [List.length_map, List.length_take, List.getElem?_drop]
      congr 1
      omega
theorem upTo_len (l : List UInt8) (k : Nat) : (upTo l k).length = l.length := by simp [upTo]; omega
/-- What the row holds behind k rounds. -/
def Ups (w : World) (B : Nat) (l : List UInt8) : Prop := ∃ C : Array Value, w.heap[B]? = some (.cells C 5 (C.size, C.size + 1)) ∧ l.length ≤ C.size ∧ ∀ (j : Nat) (c : UInt8), l[j]? = some c → C[j]? = some (Value.int .u8 (c.toNat : Int))
theorem Ups.drew {w : World} {B : Nat} {l : List UInt8} (h : Ups w B l) : Ups w.drew B l := h
theorem Ups.start (w : World) (s : ByteArray) (cap : Nat) : Ups (w.alloc (.cells (bytesRow s cap) 5 ((bytesRow s cap).size, (bytesRow s cap).size + 1))) w.heap.size (upTo s.data.toList 0) := by
  refine ⟨bytesRow s cap, blk_new _ _, ?_, fun j c hj => ?_⟩
  · simp [upTo, bytesRow]
  · have hj' : s.data.toList[j]? = some c := by simpa [upTo] using hj
    have hlt : j < s.data.toList.length := (List.getElem?_eq_some_iff.1 hj').1
    have hs : j < s.data.size := by simpa using hlt
    rw [bytesRow, Array.getElem?_append_left (by simpa using hs)]
    rw [Array.getElem?_map]
    rw [← Array.getElem?_toList, hj']; rfl
theorem Ups.cell {w : World} {B : Nat} {l : List UInt8} (h : Ups w B l) {j : Nat} {c : UInt8} (hj : l[j]? = some c) : w.cell? ⟨B, j, none⟩ = some (.int .u8 (c.toNat : Int)) ∧ w.frozen? ⟨B, j, none⟩ = false := by
  obtain ⟨C, hb, hl, hc⟩ := h
  have hlt := (List.getElem?_eq_some_iff.1 hj).1
  exact ⟨(fblk_cell hb j).trans (hc j c hj), fblk_frozen hb (by omega)⟩
theorem Ups.put {w : World} {B : Nat} {l : List UInt8} (h : Ups w B l) (j : Nat) (c : UInt8) : Ups (w.setCell ⟨B, j, none⟩ (.int .u8 (c.toNat : Int))) B (l.set j c) := by
  obtain ⟨C, hb, hl, hc⟩ := h
  refine ⟨_, by have := fblk_put hb j (Value.int .u8 (c.toNat : Int)) rfl; rw [Array.size_setIfInBounds]; exact this, by simpa using hl, fun i x hi => ?_⟩
  rw [List.getElem?_set] at hi
  rw [Array.getElem?_setIfInBounds]
  split at hi
  · rename_i e
    subst e
    split at hi
    · cases hi
      rw [if_pos rfl, if_pos (by omega)]
    · cases hi
  · rename_i e
    rw [if_neg e]; exact hc i x hi
theorem Ups.reads {w : World} {B : Nat} {l : List UInt8} (h : Ups w B l) (hm : l.length ≤ 9223372036854775807) : ReadsInt w .u8 (some ⟨B, 0, none⟩) l.length (l.map fun c => (c.toNat : Int)) := by
  refine ⟨by simp, hm, fun _ => ⟨_, rfl, fun j hj => ?_⟩⟩
  have e1 : (⟨B, 0, none⟩ : Addr).add j = ⟨B, j, none⟩ := by
    simp [Addr.add]
    try (intro h1; omega)
  rw [e1, (h.cell (List.getElem?_eq_getElem (l := l) (by simpa using hj))).1]
  simp [List.getElem?_eq_getElem (l := l) (by simpa using hj)]
theorem str_upper (l : List UInt8) : strOfNums (l.map fun c => (c.toNat : Int)) = ⟨l.toArray⟩ := by
  apply ByteArray.ext; apply Array.ext'
  rw [strOfNums_data]
  have e : ((fun n : Int => UInt8.ofNat n.toNat) ∘ fun c : UInt8 => (c.toNat : Int)) = id := by funext c; simp
  simp [List.map_map, e]

set_option maxHeartbeats 2000000 in
set_option maxRecDepth 100000 in
theorem Upper_calls (s : ByteArray) (hs : s.size ≤ 1000000) (w : World) :
    Calls Tryd.prog 35 #[.string s] w fun e w' => e = .returned (.string ⟨(upper s.data.toList).toArray⟩) ∧ Below w.heap.size w w' := by
  have hcv := fun (W : World) => run_bytes_of_string (P := Tryd.prog) W 9 46 5 s Tryd.underlying9 Tryd.underlying46 Tryd.underlying5
  have HL := Aside0.mk (data_length s)
  go_enter Tryd.func35, Tryd.ntmps35
  go_wp2
  clear hcv
  go_loopw [10] (fun i wr => ∃ k : Nat, k ≤ s.size ∧ i = .int .i64 k ∧ Aside0 (Ups wr w.heap.size (upTo s.data.toList k)) ∧ Aside0 (Below w.heap.size w wr)) (fun i _ => s.size - (intOf i).toNat)
  case atStart => exact ⟨0, Nat.zero_le _, rfl, ⟨(Ups.start w s _).drew⟩, ⟨((Below.refl _ _).alloc (Nat.le_refl _) _).drew⟩⟩
  case round =>
    obtain ⟨k, hk, rfl, HU, HB⟩ := hrel
    by_cases hlt : k < s.size
    · have hk' : k < s.data.toList.length := by rw [HL.out]; exact hlt
      obtain ⟨c, hc⟩ : ∃ c, c = s.data.toList[k] := ⟨_, rfl⟩
      obtain ⟨y, hy⟩ : ∃ y : Nat, y = c.toNat := ⟨_, rfl⟩
      have hcell := (HU.out.cell (upTo_at _ k hk')).1
      have hfr := (HU.out.cell (upTo_at _ k hk')).2
      rw [← hc, ← hy] at hcell
      have HN := Aside0.mk (upTo_next _ k hk')
      rw [← hc] at HN
      have hy8 : y < 256 := by rw [hy]; exact c.toNat_lt
      by_cases h1 : 97 ≤ c.toNat ∧ c.toNat ≤ 122
      · have hge : decide ((97 : Int) ≤ (y : Int)) = true := decide_eq_true (by omega)
        have hle : decide ((y : Int) ≤ 122) = true := decide_eq_true (by omega)
        have hbits := not32 y (by omega) (by omega)
        obtain ⟨z, hz⟩ : ∃ z : Nat, z = y - 32 := ⟨_, rfl⟩
        rw [← hz] at hbits
        have HZ := Aside0.mk (show z = (upB c).toNat from by rw [upB_low c h1.1 h1.2, hz, hy])
        clear h1 hc hy hz hk'
        go_wp2
        go_roundw
        case rel => exact ⟨k + 1, by omega, by go_num, ⟨by rw [HN.out]; have := HU.out.put k (upB c); rwa [← HZ.out] at this⟩, ⟨HB.out.setCell (Nat.le_refl _) _⟩⟩
        case measure => simp [intOf]; omega
      · have HZ := Aside0.mk (upB_else c h1)
        have HS := Aside0.mk (show (upTo s.data.toList k).set k c = upTo s.data.toList k from by
          apply List.ext_getElem?
          intro j
          rw [List.getElem?_set]
          split
          · rename_i e; subst e
            rw [upTo_at _ _ hk', ← hc, if_pos (by rw [upTo_len]; exact hk')]
          · rfl)
        rw [HZ.out] at HN
        rcases (show (decide ((97 : Int) ≤ (y : Int)) = false) ∨ (decide ((97 : Int) ≤ (y : Int)) = true ∧ decide ((y : Int) ≤ 122) = false) from by
          simp only [decide_eq_true_eq, decide_eq_false_iff_not]; omega) with g1 | ⟨g1, g2⟩
        all_goals
          clear h1 hc hy hk'
          go_wp2
          go_roundw
          case rel => exact ⟨k + 1, by omega, by go_num, ⟨by rw [HN.out, HS.out]; exact HU.out⟩, HB⟩
          case measure => simp [intOf]; omega
    · obtain rfl : k = s.size := by omega
      have hall : upTo s.data.toList s.size = upper s.data.toList := by
        rw [upTo, upper, List.take_of_length_le (by rw [HL.out]; exact Nat.le_refl _), List.drop_of_length_le (by rw [HL.out]; exact Nat.le_refl _), List.append_nil]
      have hlen : (upper s.data.toList).length = s.size := by rw [upper, List.length_map]; exact HL.out
      have hR := HU.out.reads (by rw [upTo_len, HL.out]; omega)
      rw [hall, hlen] at hR
      have hcv : ∀ c, (convert 46 9 (.slice (some ⟨w.heap.size, 0, none⟩) s.size c)).run Tryd.prog wr = .ok (.string ⟨(upper s.data.toList).toArray⟩) wr := fun c => by
        rw [string_of_reads (c := c) Tryd.underlying46 Tryd.underlying5 Tryd.underlying9 hR, str_upper]
      clear hall hlen hR
      go_wp2
      go_ret
      exact ⟨rfl, HB.out⟩
end Go.Proofs.YtdemfgijfnicpaaDoor.Q

namespace Go.Proofs.YtdemfgijfnicpaaDoor.Q
open Go Go.RowKit Go.Proofs.YtdemfgijfnicpaaDoorW.PrintWords Go.Proofs.YtdemfgijfnicpaaDoorW.PrintLast Go.Proofs.YtdemfgijfnicpaaDoorW.PrintMore
set_option linter.unusedVariables false
set_option linter.unusedSimpArgs false

def wharfingerref07_All.f : Option (List S35) := some tableS
set_option maxHeartbeats 8000000 in
set_option maxRecDepth 100000 in
theorem wharfingerref07_All.calls (r : List S35) (w : World) (h : wharfingerref07_All.f = some r) :
    Calls Tryd.prog 26 #[] w fun e w' => ∃ v0_ : Value, e = .returned (v0_) ∧ Kd.R k35 35 w' w.heap.size (fun _ => True) v0_ r ∧ Below w.heap.size w w' := by
  have hr := R_fresh k35 35 w tableS encS encS_len (fun x _ => k35_mkM w w.heap.size _ x) (by rw [tableS_len]; decide) _ tableC
  obtain rfl := Option.some.inj h
  rw [tableS_len] at hr
  have HR := Aside0.mk hr
  clear hr h
  go_enter Tryd.func26, Tryd.ntmps26
  go_wp2
  go_ret
  exact ⟨_, rfl, HR.out, (Below.refl _ _).alloc (Nat.le_refl _) _⟩
end Go.Proofs.YtdemfgijfnicpaaDoor.Q

namespace Go.Proofs.YtdemfgijfnicpaaDoor.Q
open Go Go.RowKit Go.Proofs.YtdemfgijfnicpaaDoorW.PrintWords Go.Proofs.YtdemfgijfnicpaaDoorW.PrintLast Go.Proofs.YtdemfgijfnicpaaDoorW.PrintMore
set_option linter.unusedVariables false
set_option linter.unusedSimpArgs false

theorem zeroV (w : World) : (zeroValue 35).run Tryd.prog w = .ok (.agg #[.string ⟨#[]⟩, .int .i64 0, .int .i64 0, .bool false]) w := by kernel_rfl
theorem keyV : MapLaw.KeyOk Tryd.prog 9 Value.string := MapLaw.string_key Tryd.underlying9
def mapOf (l : List S35) : List (ByteArray × Value) := l.foldl (fun m v => MapLaw.put v.f0 (encV v) m) []
theorem mapOf_next (l : List S35) (k : Nat) (hk : k < l.length) : mapOf (l.take (k + 1)) = MapLaw.put (l[k]).f0 (encV l[k]) (mapOf (l.take k)) := by
  rw [List.take_succ_eq_append_getElem hk, mapOf, List.foldl_append]; rfl
theorem at_fold (key : ByteArray) : ∀ (l : List S35) (m : List (ByteArray × Value)), (l.map (·.f0)).Nodup → MapLaw.at_ key (l.foldl (fun m v => MapLaw.put v.f0 (encV v) m) m) = match l.find? (fun v => decide (v.f0 = key)) with | some v => some (encV v) | none => MapLaw.at_ key m
  | [], m, _ => rfl
  | a :: r, m, h => by
    rw [List.map_cons, List.nodup_cons] at h
    rw [List.foldl_cons, at_fold key r _ h.2, List.find?_cons]
    by_cases e : a.f0 = key
    · have hno : r.find? (fun v => decide (v.f0 = key)) = none := by
        rw [List.find?_eq_none]
        intro x hx hd
        exact h.1 (by rw [e, ← of_decide_eq_true hd]; exact List.mem_map.2 ⟨x, hx, rfl⟩)
      rw [hno, decide_eq_true e]
      show MapLaw.at_ key (MapLaw.put a.f0 (encV a) m) = some (encV a)
      rw [MapLaw.at_put, if_pos e.symm]
    · rw [decide_eq_false e]
      cases r.find? (fun v => decide (v.f0 = key)) with
      | some v => rfl
      | none =>
        show MapLaw.at_ key (MapLaw.put a.f0 (encV a) m) = MapLaw.at_ key m
        rw [MapLaw.at_put, if_neg (fun h => e h.symm)]
set_option maxRecDepth 100000 in
theorem table_nodup : (tableS.map (·.f0)).Nodup := by decide +kernel
/-- The verb of a name. -/
def findV (l : List UInt8) : Option S35 := tableS.find? fun v => v.f0.data.toList == upper l
theorem at_table (l : List UInt8) : MapLaw.at_ ⟨(upper l).toArray⟩ (mapOf tableS) = (findV l).map encV := by
  rw [mapOf, at_fold _ _ _ table_nodup, findV]
  have e : (fun v : S35 => decide (v.f0 = ⟨(upper l).toArray⟩)) = fun v => v.f0.data.toList == upper l := by
    funext v
    rw [Bool.eq_iff_iff, decide_eq_true_iff, beq_iff_eq]
    constructor
    · intro h; rw [h]
    · intro h; apply ByteArray.ext; apply Array.ext'; exact h
  rw [e]
  cases tableS.find? fun v => v.f0.data.toList == upper l <;> rfl
def TabAt (w : World) (B : Nat) : Prop := w.heap[B]? = some (.cells (tableS.flatMap encS).toArray 35 (0, 0))

set_option maxHeartbeats 8000000 in
set_option maxRecDepth 100000 in
theorem table_calls (w : World) :
    Calls Tryd.prog 34 #[] w fun e w' => e = .returned (.map (some w.heap.size)) ∧ MapLaw.Is Value.string w' w.heap.size (mapOf tableS) ∧ Below w.heap.size w w' := by
  have hmm := @run_makeMap Tryd.prog
  have HT : ∀ W : World, TabAt (W.alloc (.cells (tableS.flatMap encS).toArray 35)) W.heap.size := fun W => blk_new _ _
  rw [← tableC] at HT
  replace HT := Aside0.mk HT
  go_enter Tryd.func34, Tryd.ntmps34
  go_wp2
  clear hmm
  go_loopw [43] (fun i wr => ∃ k : Nat, k ≤ 36 ∧ i = .int .i64 k ∧ Aside0 (MapLaw.Is Value.string wr w.heap.size (mapOf (tableS.take k))) ∧ Aside0 (TabAt wr (w.heap.size + 1)) ∧ Aside0 (Below w.heap.size w wr)) (fun i _ => 36 - (intOf i).toNat)
  case atStart => exact ⟨0, Nat.zero_le _, rfl, ⟨(MapLaw.Is.made _ _).alloc _⟩, ⟨by have := HT.out (w.alloc (.map #[] 0)); simpa using this⟩, ⟨((Below.refl _ _).alloc (Nat.le_refl _) _).alloc (by simp) _⟩⟩
  case round =>
    clear HT
    obtain ⟨k, hk, rfl, HM, HC, HB⟩ := hrel
    by_cases hlt : k < 36
    · have hC := C_of_blk k35 35 wr (w.heap.size + 1) tableS encS encS_len (fun x _ => k35_mk wr x) (by rw [tableS_len]; decide) rfl HC.out
      have hkl : k < tableS.length := by rw [tableS_len]; exact hlt
      obtain ⟨ad, e, x0, x1, x2, x3⟩ := at_T35 hC (k : Int) (by omega) (by omega)
      obtain rfl := Option.some.inj e
      have hv : rd_T35 tableS (k : Int) = tableS[k] := by
        rw [rd_T35, Int.toNat_natCast, List.getD_eq_getElem?_getD, List.getElem?_eq_getElem hkl]; rfl
      have HN := Aside0.mk (mapOf_next tableS k hkl)
      rw [← hv] at HN
      obtain ⟨v, hv'⟩ : ∃ v, v = rd_T35 tableS (k : Int) := ⟨_, rfl⟩
      rw [← hv'] at x0 x1 x2 x3 HN
      have e0 : ((⟨w.heap.size + 1, 0, none⟩ : Addr).add ((k : Int).toNat * 4)) = ⟨w.heap.size + 1, k * 4, none⟩ := by simp [Addr.add]; try (intro h1; omega)
      rw [e0] at x0 x1 x2 x3
      clear hC e hv hv' hkl e0
      have HSZ := Aside0.mk HB.out.size
      go_wp2_with (at_mapUpdate; refine MapLaw.wp_update _ rfl _ _ _ 48 35 rfl keyV Tryd.underlying48 rfl (HM.out.alloc _) v.f0 rfl (encV v) rfl ?_; intro w1 hm1 hg1)
      go_roundw
      case rel => exact ⟨k + 1, by omega, by go_num, ⟨by rw [HN.out]; exact hm1⟩, ⟨blk_grown (blk_alloc HC.out _) hg1 (by simp)⟩, ⟨(HB.out.alloc HSZ.out _).grown hg1 (HB.out.alloc HSZ.out _).size (fun j hj => by cases hj; exact Nat.le_refl _)⟩⟩
      case measure => simp [intOf]; omega
    · obtain rfl : k = 36 := by omega
      have HM2 : Aside0 (MapLaw.Is Value.string wr w.heap.size (mapOf tableS)) := ⟨by have := HM.out; rwa [List.take_of_length_le (by rw [tableS_len]; exact Nat.le_refl _)] at this⟩
      go_wp2
      go_ret
      exact ⟨rfl, HM2.out, HB.out⟩

end Go.Proofs.YtdemfgijfnicpaaDoor.Q
