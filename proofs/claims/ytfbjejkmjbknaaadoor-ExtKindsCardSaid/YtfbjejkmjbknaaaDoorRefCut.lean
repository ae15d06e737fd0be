/- The contracts of the reference's Cut, Text, Read. -/
import Derived.Test.YtfbjejkmjbknaaaDoorByte
import Derived.Test.YtfbjejkmjbknaaaDoorCut
namespace Go.Proofs.YtfbjejkmjbknaaaDoor.Quad
open Go Go.RowKit Go.Proofs.YtfbjejkmjbknaaaDoorW.PrintWords Go.Proofs.YtfbjejkmjbknaaaDoorW.PrintLast Go.Proofs.YtfbjejkmjbknaaaDoorW.PrintMore Go.Proofs.YtfbjejkmjbknaaaDoor.Dig
set_option linter.unusedVariables false
set_option linter.unusedSimpArgs false

/-- The parts that are done, and where the next one begins, behind k bytes. -/
def CInv (by_ : UInt8) (l : List UInt8) (k from_ : Nat) (out : List (List UInt8)) : Prop :=
  from_ ≤ k ∧ k ≤ l.length ∧ by_ ∉ (l.take k).drop from_ ∧ Cut.cut by_ l = out ++ Cut.cut by_ (l.drop from_) ∧ out.length ≤ k
theorem CInv.start (b : UInt8) (l : List UInt8) : CInv b l 0 0 [] := ⟨Nat.le_refl _, Nat.zero_le _, by simp, by simp, by simp⟩
theorem take_split (l : List UInt8) (k f : Nat) (hf : f ≤ k) (hk : k ≤ l.length) : l.drop f = (l.take k).drop f ++ l.drop k := by
  have : l = l.take k ++ l.drop k := (List.take_append_drop k l).symm
  have h := congrArg (List.drop f) this
  rwa [List.drop_append_of_le_length (by rw [List.length_take]; omega)] at h
theorem CInv.skip {b : UInt8} {l : List UInt8} {k f : Nat} {out : List (List UInt8)} (h : CInv b l k f out) (hk : k < l.length) (hb : l[k] ≠ b) : CInv b l (k + 1) f out := by
  obtain ⟨h1, h2, h3, h4, h5⟩ := h
  refine ⟨by omega, hk, ?_, h4, by omega⟩
  rw [List.take_succ_eq_append_getElem hk, List.drop_append_of_le_length (by rw [List.length_take]; omega), List.mem_append, List.mem_singleton]
  rintro (h | h)
  · exact h3 h
  · exact hb h.symm
theorem CInv.hit {b : UInt8} {l : List UInt8} {k f : Nat} {out : List (List UInt8)} (h : CInv b l k f out) (hk : k < l.length) (hb : l[k] = b) : CInv b l (k + 1) (k + 1) (out ++ [(l.take k).drop f]) := by
  obtain ⟨h1, h2, h3, h4, h5⟩ := h
  refine ⟨Nat.le_refl _, hk, by simp, ?_, by simp; omega⟩
  rw [h4, take_split l k f h1 h2, List.drop_eq_getElem_cons hk, hb, Cut.cut_app b _ _ h3, List.append_assoc]
  rfl
theorem CInv.done {b : UInt8} {l : List UInt8} {f : Nat} {out : List (List UInt8)} (h : CInv b l l.length f out) : Cut.cut b l = out ++ [l.drop f] := by
  obtain ⟨h1, h2, h3, h4, h5⟩ := h
  rw [List.take_length] at h3
  rw [h4, Cut.cut_plain b _ h3]
theorem extract_list (s : ByteArray) (f k : Nat) (h : k ≤ s.size) : (s.extract f k).data.toList = (s.data.toList.take k).drop f := by
  have h1 : (s.extract f k).data.toList = (s.data.toList.drop f).take (k - f) := by simp [ByteArray.data_extract, Array.toList_extract, List.extract]
  rw [h1, List.drop_take]

def str (l : List UInt8) : Value := .string ⟨l.toArray⟩
theorem piece_of (s : ByteArray) (f k : Nat) (h : k ≤ s.size) : s.extract f k = ⟨((s.data.toList.take k).drop f).toArray⟩ := by
  apply ByteArray.ext; apply Array.ext'
  rw [extract_list s f k h]
theorem slice_fk (s : ByteArray) (f k : Nat) (hf : f ≤ k) (hk : k ≤ s.size) (W : World) : (Instr.slice 9 (.string s) (some (.int .i64 f)) (some (.int .i64 k)) none).run Tryd.prog W = .ok (.string ⟨((s.data.toList.take k).drop f).toArray⟩) W := by
  rw [run_slice_string W 9 _ .i64 .i64 (f : Int) (k : Int) Tryd.underlying9 (by omega) (by omega) (by omega)]
  rw [show ((f : Int)).toNat = f from by omega, show ((k : Int)).toNat = k from by omega, piece_of s f k hk]
theorem slice_f (s : ByteArray) (f : Nat) (hf : f ≤ s.size) (W : World) : (Instr.slice 9 (.string s) (some (.int .i64 f)) none none).run Tryd.prog W = .ok (.string ⟨(s.data.toList.drop f).toArray⟩) W := by
  rw [run_slice_string_from_if W 9 s .i64 (f : Int) Tryd.underlying9, if_pos (by omega)]
  rw [show ((f : Int)).toNat = f from by omega, piece_of s f s.size (Nat.le_refl _), List.take_of_length_le (by rw [data_length]; exact Nat.le_refl _)]

set_option maxHeartbeats 1000000 in
set_option maxRecDepth 100000 in
theorem ref_cut_calls (s : ByteArray) (b : UInt8) (hs : s.size ≤ 1000000) (w : World) :
    Calls Tryd.prog 26 #[.string s, .int .u8 (b.toNat : Int)] w fun e w' => ∃ v, e = .returned v ∧ w'.ownsRow w.heap.size 9 1 v (Cut.cut b s.data.toList).length ((Cut.cut b s.data.toList).map str) ∧ Below w.heap.size w w' := by
  obtain ⟨R, hR⟩ : ∃ R, R = Cut.cut b s.data.toList := ⟨_, rfl⟩
  have HR := Aside0.mk hR
  rw [← hR]
  clear hR
  have HL := Aside0.mk (data_length s)
  have HSZ := Aside0.mk hs
  obtain ⟨y, hy⟩ : ∃ y : Nat, y = b.toNat := ⟨_, rfl⟩
  rw [← hy]
  have HY := Aside0.mk hy
  clear hy
  obtain ⟨i0, hi, hz0, hz1, hz2⟩ := info_parts info9
  have HI := Aside0.mk (And.intro hi (And.intro hz0 (And.intro hz1 hz2)))
  clear hi hz0 hz1 hz2
  go_enter Tryd.func26, Tryd.ntmps26
  go_wp2
  go_loopw [5, 6, 7] (fun v f_ i wr => ∃ (k f : Nat) (out : List (List UInt8)), i = .int .i64 k ∧ f_ = .int .i64 f ∧ k ≤ s.size ∧ Aside0 (CInv b s.data.toList k f out) ∧ Aside0 (wr.ownsRow w.heap.size 9 1 v out.length (out.map str)) ∧ Aside0 (Below w.heap.size w wr)) (fun _ _ i _ => s.size - (intOf i).toNat)
  case atStart => exact ⟨0, 0, [], rfl, rfl, Nat.zero_le _, ⟨CInv.start _ _⟩, ⟨own_nil _ _ _ _⟩, ⟨Below.refl _ _⟩⟩
  case round =>
    obtain ⟨k, f, out, rfl, rfl, hk, HC, HO, HB⟩ := hrel
    have HS := Aside0.mk HB.out.size
    obtain ⟨N, hN⟩ : ∃ N : Nat, N = out.length := ⟨_, rfl⟩
    have HN := Aside0.mk hN
    have HO1 : Aside0 (wr.ownsRow w.heap.size 9 1 u5 N (out.map str)) := ⟨by rw [hN]; exact HO.out⟩
    have hNk : N ≤ 1000000 := by have := HC.out.2.2.2.2; omega
    clear hN HO
    by_cases hlt : k < s.size
    · have hk' : k < s.data.toList.length := by rw [HL.out]; exact hlt
      obtain ⟨c, hc⟩ : ∃ c, c = s.data.toList[k] := ⟨_, rfl⟩
      obtain ⟨x, hx⟩ : ∃ x : Nat, x = c.toNat := ⟨_, rfl⟩
      have hckc : ∀ h : k < s.size, ((s[k]'h).toNat : Int) = (x : Int) := fun h => by rw [hx, hc, ← bt_byte s k hk']; exact bt_at s k h
      have hk6 : k < 1000000 := by omega
      have hw : wrap64 ((k : Int) + 1) = ((k + 1 : Nat) : Int) := by unfold wrap64; omega
      by_cases hb : c = b
      · have hcmp : ((x : Int) == (y : Int)) = true := by rw [hx, hb, HY.out]; simp
        have HC2 := Aside0.mk (HC.out.hit hk' (hc.symm.trans hb))
        have hsl := slice_fk s f k HC.out.1 (by omega)
        obtain ⟨pc, hpc⟩ : ∃ pc : ByteArray, pc = ⟨((s.data.toList.take k).drop f).toArray⟩ := ⟨_, rfl⟩
        rw [← hpc] at hsl
        have HPC := Aside0.mk (show Value.string pc = str ((s.data.toList.take k).drop f) from by rw [hpc]; rfl)
        clear hpc hc hx hb
        go_wp2_with ((with_reducible refine Laws.gate 25 rfl ?_); refine Laws.append_any rfl (.tmp 19) (.tmp 24) 45 rfl w.heap.size 9 i0 (.string ⟨#[]⟩) 1 16 Tryd.underlying45 HI.out.1 HI.out.2.1 HI.out.2.2.1 HI.out.2.2.2 rfl (by decide) _ _ _ rfl (HO1.out.alloc _) (some ⟨wr.heap.size, 0, none⟩) 1 1 [.string pc] rfl rfl (fun _ => ⟨_, rfl, Laws.new_cells wr _ _ _ rfl⟩) (fun u hu => by simp at hu; subst hu; rfl) (by simp only [maxLen]; omega) (by omega) (Nat.le_trans HB.out.size (by simp)) ?_; intro v6 w6 ho6 hg6 hn6 hl6; have HO6 := Aside0.mk (show w6.ownsRow w.heap.size 9 1 v6 (out ++ [(s.data.toList.take k).drop f]).length ((out ++ [(s.data.toList.take k).drop f]).map str) from by rw [List.length_append, List.map_append, ← HN.out]; simpa [HPC.out] using ho6); have HB6 := Aside0.mk (show Below w.heap.size w w6 from ((HB.out.alloc HB.out.size _).grown hg6 (Nat.le_trans HB.out.size (by simp)) (fun k h => Laws.own_ge HO1.out k h))); clear ho6 hg6 hn6 hl6)
        go_roundw
        case rel => exact ⟨k + 1, k + 1, _, by go_num, by go_num, by omega, HC2, HO6, HB6⟩
        case measure => simp [intOf]; omega
      · have hcmp : ((x : Int) == (y : Int)) = false := by
          rw [hx, HY.out]; refine beq_eq_false_iff_ne.2 (fun e => hb (UInt8.toNat_inj.1 (by omega)))
        have HC2 := Aside0.mk (HC.out.skip hk' (by rw [← hc]; exact hb))
        clear hc hx hb
        go_wp2
        go_roundw
        case rel => exact ⟨k + 1, f, out, by go_num, rfl, by omega, HC2, ⟨by rw [← HN.out]; exact HO1.out⟩, HB⟩
        case measure => simp [intOf]; omega
    · obtain rfl : k = s.size := by omega
      have hfs : f ≤ s.size := HC.out.1
      have hsl := slice_f s f hfs
      obtain ⟨pc, hpc⟩ : ∃ pc : ByteArray, pc = ⟨(s.data.toList.drop f).toArray⟩ := ⟨_, rfl⟩
      rw [← hpc] at hsl
      have HPC := Aside0.mk (show Value.string pc = str (s.data.toList.drop f) from by rw [hpc]; rfl)
      have HE := Aside0.mk (show R = out ++ [s.data.toList.drop f] from by
        have h := HC.out
        rw [← HL.out] at h
        rw [HR.out]; exact h.done)
      clear hpc hfs
      go_wp2_with ((with_reducible refine Laws.gate 33 rfl ?_); refine Laws.append_any rfl (.tmp 28) (.tmp 32) 45 rfl w.heap.size 9 i0 (.string ⟨#[]⟩) 1 16 Tryd.underlying45 HI.out.1 HI.out.2.1 HI.out.2.2.1 HI.out.2.2.2 rfl (by decide) _ _ _ rfl (HO1.out.alloc _) (some ⟨wr.heap.size, 0, none⟩) 1 1 [.string pc] rfl rfl (fun _ => ⟨_, rfl, Laws.new_cells wr _ _ _ rfl⟩) (fun u hu => by simp at hu; subst hu; rfl) (by simp only [maxLen]; omega) (by omega) (Nat.le_trans HB.out.size (by simp)) ?_; intro v6 w6 ho6 hg6 hn6 hl6; have HO6 := Aside0.mk (show w6.ownsRow w.heap.size 9 1 v6 R.length (R.map str) from by rw [HE.out, List.length_append, List.map_append, ← HN.out]; simpa [HPC.out] using ho6); have HB6 := Aside0.mk (show Below w.heap.size w w6 from ((HB.out.alloc HB.out.size _).grown hg6 (Nat.le_trans HB.out.size (by simp)) (fun k h => Laws.own_ge HO1.out k h))); clear ho6 hg6 hn6 hl6)
      go_ret
      exact ⟨_, rfl, HO6.out, HB6.out⟩
end Go.Proofs.YtfbjejkmjbknaaaDoor.Quad
