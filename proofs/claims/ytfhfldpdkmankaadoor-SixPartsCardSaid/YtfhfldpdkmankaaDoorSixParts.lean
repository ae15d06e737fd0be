/- The walk of SixParts. -/
import Derived.Test.YtfhfldpdkmankaaDoorSixLaws
namespace Go.Proofs.YtfhfldpdkmankaaDoor.Six
open Go Go.RowKit Go.Proofs.YtfhfldpdkmankaaDoorW.PrintWords Go.Proofs.YtfhfldpdkmankaaDoorW.PrintLast Go.Proofs.YtfhfldpdkmankaaDoorW.PrintMore Go.Proofs.YtfhfldpdkmankaaDoor.Dig Go.Proofs.YtfhfldpdkmankaaDoor.Quad Go.Proofs.YtfhfldpdkmankaaDoor.SixP
set_option linter.unusedVariables false
set_option linter.unusedSimpArgs false

theorem ten_lt {v r m g f : Nat} (h : v < 10 ^ r) (hm : m = 10 * v) (hf : f = m + g) (hg : g < 10) : f < 10 ^ (r + 1) := by
  rw [Nat.pow_succ]
  generalize 10 ^ r = P at h ⊢
  omega

set_option maxHeartbeats 4000000 in
set_option maxRecDepth 100000 in
theorem parts_walk (a b c d : Nat) (p : Int) (h : a < 256 ∧ b < 256 ∧ c < 256 ∧ d < 256) (w : World) (hm : Mx w) :
    Calls Tryd.prog 6 #[.agg #[.int .u8 a, .int .u8 b, .int .u8 c, .int .u8 d, .int .i64 p]] w fun e w' => e = .returned (.bool true) ∧ Below w.heap.size w w' := by
  have HM := Aside0.mk hm
  have HB := Aside0.mk (Below.refl w.heap.size w)
  clear hm
  rcases text_goes (p := p) h with ⟨n, s, rfl, hn, ht, hs⟩ | ⟨_, ht⟩
  · have HT := Aside0.mk ht
    obtain ⟨l, hl⟩ : ∃ l, l = sixU a b c d n := ⟨_, rfl⟩
    have HL := Aside0.mk (show s.size = l.length ∧ l.length ≤ 23 ∧ l.foldl pst (0, 0, 0) = (5, 256 * (n / 256), n % 256) ∧ (∀ x ∈ l, x = 44 ∨ isDig x = true) from by
      rw [hl, ← data_length, hs]
      exact ⟨rfl, SixP.six_len a b c d n h.1 h.2.1 h.2.2.1 h.2.2.2 hn, pst_six a b c d n, six_bytes a b c d n⟩)
    have HOK := Aside0.mk (show okRun 0 l = true from by rw [hl]; exact okRun_six a b c d n h.1 h.2.1 h.2.2.1 h.2.2.2 hn)
    have HSL := Aside0.mk (show s.data.toList = l from by rw [hl]; exact hs)
    have HN := Aside0.mk hn
    clear h hn ht hs hl
    go_enter Tryd.func6, Tryd.ntmps6
    go_wp2_with (first
      | (go_at_call 8; with_reducible refine (awake_calls _ (HM.out.below (HB.out.alloc HB.out.size _))).mono ?_; rintro e v1 ⟨rfl, hb⟩; have KE := Aside0.mk (blk_below (blk_new w (.cells #[.int .u8 a, .int .u8 b, .int .u8 c, .int .u8 d, .int .i64 n] 25)) hb); replace HB := Aside0.mk ((HB.out.alloc HB.out.size _).trans (hb.mono (HB.out.alloc HB.out.size _).size)); clear hb; have kE0 : v1.cell? ⟨w.heap.size, 0, none⟩ = some (.int .u8 a) := (blk_cell KE.out 0).trans rfl; have jE0 : ∀ o, (v1.alloc o).cell? ⟨w.heap.size, 0, none⟩ = some (.int .u8 a) := fun o => (blk_cell (blk_alloc KE.out o) 0).trans rfl; have kE1 : v1.cell? ⟨w.heap.size, 1, none⟩ = some (.int .u8 b) := (blk_cell KE.out 1).trans rfl; have jE1 : ∀ o, (v1.alloc o).cell? ⟨w.heap.size, 1, none⟩ = some (.int .u8 b) := fun o => (blk_cell (blk_alloc KE.out o) 1).trans rfl; have kE2 : v1.cell? ⟨w.heap.size, 2, none⟩ = some (.int .u8 c) := (blk_cell KE.out 2).trans rfl; have jE2 : ∀ o, (v1.alloc o).cell? ⟨w.heap.size, 2, none⟩ = some (.int .u8 c) := fun o => (blk_cell (blk_alloc KE.out o) 2).trans rfl; have kE3 : v1.cell? ⟨w.heap.size, 3, none⟩ = some (.int .u8 d) := (blk_cell KE.out 3).trans rfl; have jE3 : ∀ o, (v1.alloc o).cell? ⟨w.heap.size, 3, none⟩ = some (.int .u8 d) := fun o => (blk_cell (blk_alloc KE.out o) 3).trans rfl; have kE4 : v1.cell? ⟨w.heap.size, 4, none⟩ = some (.int .i64 n) := (blk_cell KE.out 4).trans rfl; have jE4 : ∀ o, (v1.alloc o).cell? ⟨w.heap.size, 4, none⟩ = some (.int .i64 n) := fun o => (blk_cell (blk_alloc KE.out o) 4).trans rfl; have tok1 := trivial)
      | (go_at_call 9; clear kE0 jE0; clear kE1 jE1; clear kE2 jE2; clear kE3 jE3; clear kE4 jE4; with_reducible refine (HT.out.calls _).mono ?_; rintro e v2 ⟨rfl, hb⟩; replace KE := Aside0.mk (blk_below KE.out hb); replace HB := Aside0.mk (HB.out.trans (hb.mono HB.out.size)); clear hb; have kE0 : v2.cell? ⟨w.heap.size, 0, none⟩ = some (.int .u8 a) := (blk_cell KE.out 0).trans rfl; have jE0 : ∀ o, (v2.alloc o).cell? ⟨w.heap.size, 0, none⟩ = some (.int .u8 a) := fun o => (blk_cell (blk_alloc KE.out o) 0).trans rfl; have kE1 : v2.cell? ⟨w.heap.size, 1, none⟩ = some (.int .u8 b) := (blk_cell KE.out 1).trans rfl; have jE1 : ∀ o, (v2.alloc o).cell? ⟨w.heap.size, 1, none⟩ = some (.int .u8 b) := fun o => (blk_cell (blk_alloc KE.out o) 1).trans rfl; have kE2 : v2.cell? ⟨w.heap.size, 2, none⟩ = some (.int .u8 c) := (blk_cell KE.out 2).trans rfl; have jE2 : ∀ o, (v2.alloc o).cell? ⟨w.heap.size, 2, none⟩ = some (.int .u8 c) := fun o => (blk_cell (blk_alloc KE.out o) 2).trans rfl; have kE3 : v2.cell? ⟨w.heap.size, 3, none⟩ = some (.int .u8 d) := (blk_cell KE.out 3).trans rfl; have jE3 : ∀ o, (v2.alloc o).cell? ⟨w.heap.size, 3, none⟩ = some (.int .u8 d) := fun o => (blk_cell (blk_alloc KE.out o) 3).trans rfl; have kE4 : v2.cell? ⟨w.heap.size, 4, none⟩ = some (.int .i64 n) := (blk_cell KE.out 4).trans rfl; have jE4 : ∀ o, (v2.alloc o).cell? ⟨w.heap.size, 4, none⟩ = some (.int .i64 n) := fun o => (blk_cell (blk_alloc KE.out o) 4).trans rfl; have tok2 := trivial))
    go_loop [6, 7, 8, 9] (fun c_ q_ n_ i_ => ∃ k : Nat, k ≤ l.length ∧ i_ = .int .i64 k ∧ ∃ cm q v r : Nat, (l.take k).foldl pst (0, 0, 0) = (cm, q, v) ∧ c_ = .int .i64 cm ∧ q_ = .int .i64 q ∧ n_ = .int .i64 v ∧ Aside0 (v < 10 ^ r ∧ r ≤ 3 ∧ okRun r (l.drop k) = true ∧ cm ≤ k ∧ q ≤ 256000)) (fun _ _ _ i_ => l.length - (intOf i_).toNat)
    case atStart => exact ⟨0, Nat.zero_le _, rfl, 0, 0, 0, 0, rfl, rfl, rfl, rfl, ⟨by decide, by decide, by rw [List.drop_zero]; exact HOK.out, Nat.le_refl _, by decide⟩⟩
    case round =>
      obtain ⟨k, hk, rfl, cm, q, v, r, hst, rfl, rfl, rfl, HI⟩ := hrel
      have hsz : s.size = l.length := HL.out.1
      have hl23 : l.length ≤ 23 := HL.out.2.1
      have hv3 : v < 1000 := Nat.lt_of_lt_of_le HI.out.1 (Nat.pow_le_pow_right (n := 10) (by decide) HI.out.2.1)
      by_cases hlt : k < l.length
      · have hks : k < s.size := by omega
        have hk6 : k < 100 := by omega
        obtain ⟨x, hx⟩ : ∃ x, x = l[k] := ⟨_, rfl⟩
        obtain ⟨y, hy⟩ : ∃ y : Nat, y = x.toNat := ⟨_, rfl⟩
        have hck : ∀ h : k < s.size, ((s[k]'h).toNat : Int) = (y : Int) := fun h => by
          have h2 : k < s.data.toList.length := by rw [data_length]; exact h
          have e := bt_byte s k h2
          have e2 : s.data.toList[k] = l[k] := by congr 1; exact HSL.out
          rw [hy, hx, ← e2, ← e]; exact bt_at s k h
        have HNX := Aside0.mk (show (l.take (k + 1)).foldl pst (0, 0, 0) = pst (cm, q, v) x from by
          rw [List.take_succ_eq_append_getElem hlt, List.foldl_append, hst, ← hx]; rfl)
        have hrun := HI.out.2.2.1
        rw [List.drop_eq_getElem_cons hlt, ← hx, okRun] at hrun
        have hmem := HL.out.2.2.2 x (by rw [hx]; exact List.getElem_mem _)
        have hcm := HI.out.2.2.2.1
        have hq6 := HI.out.2.2.2.2
        have hw1 : wrap64 ((cm : Int) + 1) = (cm : Int) + 1 := by unfold wrap64; omega
        clear hst
        by_cases h44 : x = 44
        · have hcmp : ((y : Int) == 44) = true := by rw [hy, h44]; rfl
          rw [if_pos h44] at hrun
          have HX := Aside0.mk (And.intro h44 hrun)
          by_cases h5 : cm + 1 = 5
          · have h5' : ((cm : Int) + 1 == 5) = true := beq_iff_eq.2 (by omega)
            have hw2 : wrap64 (256 * (v : Int)) = 256 * (v : Int) := by unfold wrap64; omega
            have H5 := Aside0.mk h5
            clear hy hx h44 hrun hmem hv3 h5
            go_wp2
            go_round
            case rel => exact ⟨k + 1, by omega, by go_num, cm + 1, 256 * v, 0, 0, by rw [HNX.out, pst, if_pos HX.out.1, if_pos H5.out], by go_num, by go_num, rfl, ⟨by decide, by decide, HX.out.2, by omega, by have := Nat.lt_of_lt_of_le HI.out.1 (Nat.pow_le_pow_right (n := 10) (by decide) HI.out.2.1); omega⟩⟩
            case measure => simp [intOf]; omega
          · have h5' : ((cm : Int) + 1 == 5) = false := beq_eq_false_iff_ne.2 (by omega)
            have H5 := Aside0.mk h5
            clear hy hx h44 hrun hmem hv3 h5
            go_wp2
            go_round
            case rel => exact ⟨k + 1, by omega, by go_num, cm + 1, q, 0, 0, by rw [HNX.out, pst, if_pos HX.out.1, if_neg H5.out], by go_num, rfl, rfl, ⟨by decide, by decide, HX.out.2, by omega, hq6⟩⟩
            case measure => simp [intOf]; omega
        · have hd : isDig x = true := by
            rcases hmem with e | e
            · exact absurd e h44
            · exact e
          have hr48 : 48 ≤ x.toNat ∧ x.toNat ≤ 57 := by simpa [isDig] using hd
          rw [if_neg h44, Bool.and_eq_true, decide_eq_true_eq] at hrun
          obtain ⟨g, hg⟩ : ∃ g : Nat, g = x.toNat - 48 := ⟨_, rfl⟩
          have hg10 : g < 10 := by omega
          have hcmp : ((y : Int) == 44) = false := beq_eq_false_iff_ne.2 (by omega)
          have hlo : decide ((y : Int) < 48) = false := decide_eq_false (by omega)
          have hhi : decide (57 < (y : Int)) = false := decide_eq_false (by omega)
          have hsub : IntKind.u8.wrap ((y : Int) - 48) = (g : Int) := by simp [IntKind.wrap, IntKind.bits, IntKind.signed]; omega
          have hcv : IntKind.i64.wrap (g : Int) = (g : Int) := by simp [IntKind.wrap, IntKind.bits, IntKind.signed]; omega
          have hw2 : wrap64 (10 * (v : Int)) = ((10 * v : Nat) : Int) := by unfold wrap64; omega
          obtain ⟨m, hm⟩ : ∃ m : Nat, m = 10 * v := ⟨_, rfl⟩
          rw [← hm] at hw2
          obtain ⟨f, hf⟩ : ∃ f : Nat, f = m + g := ⟨_, rfl⟩
          have hw3 : wrap64 ((m : Int) + (g : Int)) = (f : Int) := by unfold wrap64; omega
          have HX := Aside0.mk (show pst (cm, q, v) x = (cm, q, f) ∧ okRun (r + 1) (l.drop (k + 1)) = true ∧ r + 1 ≤ 3 ∧ f < 10 ^ (r + 1) from by
            refine ⟨?_, hrun.2, by omega, ?_⟩
            · rw [pst, if_neg h44, hf, hm, hg]
            · exact ten_lt HI.out.1 hm hf hg10)
          clear hy hx h44 hrun hmem hv3 hd hr48 hg hg10 hm hf
          go_wp2
          go_round
          case rel => exact ⟨k + 1, by omega, by go_num, cm, q, f, r + 1, by rw [HNX.out, HX.out.1], rfl, rfl, by first | exact congrArg (Value.int .i64) hw3 | go_num, ⟨HX.out.2.2.2, HX.out.2.2.1, HX.out.2.1, by omega, hq6⟩⟩
          case measure => simp [intOf]; omega
      · obtain rfl : k = l.length := by omega
        rw [List.take_length, HL.out.2.2.1] at hst
        obtain ⟨rfl, h1, h2⟩ : 5 = cm ∧ 256 * (n / 256) = q ∧ n % 256 = v := by
          have := hst; simp only [Prod.mk.injEq] at this; exact this
        have hq : wrap64 ((q : Int) + (v : Int)) = (n : Int) := by have := HN.out; unfold wrap64; omega
        have hqs : (q : Int) + (v : Int) = (n : Int) := by omega
        have hwn : wrap64 (n : Int) = (n : Int) := by have := HN.out; unfold wrap64; omega
        have hle : decide ((l.length : Int) ≤ 23) = true := decide_eq_true (by omega)
        have hlts : ¬ l.length < s.size := by omega
        clear hst h1 h2 hv3
        go_wp2
        go_ret
        exact ⟨rfl, HB.out⟩
  · have HT := Aside0.mk ht
    clear h ht
    go_enter Tryd.func6, Tryd.ntmps6
    go_wp2_with (first
      | (go_at_call 8; with_reducible refine (awake_calls _ (HM.out.below (HB.out.alloc HB.out.size _))).mono ?_; rintro e v1 ⟨rfl, hb⟩; have KE := Aside0.mk (blk_below (blk_new w (.cells #[.int .u8 a, .int .u8 b, .int .u8 c, .int .u8 d, .int .i64 p] 25)) hb); replace HB := Aside0.mk ((HB.out.alloc HB.out.size _).trans (hb.mono (HB.out.alloc HB.out.size _).size)); clear hb; have kE0 : v1.cell? ⟨w.heap.size, 0, none⟩ = some (.int .u8 a) := (blk_cell KE.out 0).trans rfl; have jE0 : ∀ o, (v1.alloc o).cell? ⟨w.heap.size, 0, none⟩ = some (.int .u8 a) := fun o => (blk_cell (blk_alloc KE.out o) 0).trans rfl; have kE1 : v1.cell? ⟨w.heap.size, 1, none⟩ = some (.int .u8 b) := (blk_cell KE.out 1).trans rfl; have jE1 : ∀ o, (v1.alloc o).cell? ⟨w.heap.size, 1, none⟩ = some (.int .u8 b) := fun o => (blk_cell (blk_alloc KE.out o) 1).trans rfl; have kE2 : v1.cell? ⟨w.heap.size, 2, none⟩ = some (.int .u8 c) := (blk_cell KE.out 2).trans rfl; have jE2 : ∀ o, (v1.alloc o).cell? ⟨w.heap.size, 2, none⟩ = some (.int .u8 c) := fun o => (blk_cell (blk_alloc KE.out o) 2).trans rfl; have kE3 : v1.cell? ⟨w.heap.size, 3, none⟩ = some (.int .u8 d) := (blk_cell KE.out 3).trans rfl; have jE3 : ∀ o, (v1.alloc o).cell? ⟨w.heap.size, 3, none⟩ = some (.int .u8 d) := fun o => (blk_cell (blk_alloc KE.out o) 3).trans rfl; have kE4 : v1.cell? ⟨w.heap.size, 4, none⟩ = some (.int .i64 p) := (blk_cell KE.out 4).trans rfl; have jE4 : ∀ o, (v1.alloc o).cell? ⟨w.heap.size, 4, none⟩ = some (.int .i64 p) := fun o => (blk_cell (blk_alloc KE.out o) 4).trans rfl; have tok1 := trivial)
      | (go_at_call 9; clear kE0 jE0; clear kE1 jE1; clear kE2 jE2; clear kE3 jE3; clear kE4 jE4; with_reducible refine (HT.out.calls _).mono ?_; rintro e v2 ⟨rfl, hb⟩; replace KE := Aside0.mk (blk_below KE.out hb); replace HB := Aside0.mk (HB.out.trans (hb.mono HB.out.size)); clear hb; have kE0 : v2.cell? ⟨w.heap.size, 0, none⟩ = some (.int .u8 a) := (blk_cell KE.out 0).trans rfl; have jE0 : ∀ o, (v2.alloc o).cell? ⟨w.heap.size, 0, none⟩ = some (.int .u8 a) := fun o => (blk_cell (blk_alloc KE.out o) 0).trans rfl; have kE1 : v2.cell? ⟨w.heap.size, 1, none⟩ = some (.int .u8 b) := (blk_cell KE.out 1).trans rfl; have jE1 : ∀ o, (v2.alloc o).cell? ⟨w.heap.size, 1, none⟩ = some (.int .u8 b) := fun o => (blk_cell (blk_alloc KE.out o) 1).trans rfl; have kE2 : v2.cell? ⟨w.heap.size, 2, none⟩ = some (.int .u8 c) := (blk_cell KE.out 2).trans rfl; have jE2 : ∀ o, (v2.alloc o).cell? ⟨w.heap.size, 2, none⟩ = some (.int .u8 c) := fun o => (blk_cell (blk_alloc KE.out o) 2).trans rfl; have kE3 : v2.cell? ⟨w.heap.size, 3, none⟩ = some (.int .u8 d) := (blk_cell KE.out 3).trans rfl; have jE3 : ∀ o, (v2.alloc o).cell? ⟨w.heap.size, 3, none⟩ = some (.int .u8 d) := fun o => (blk_cell (blk_alloc KE.out o) 3).trans rfl; have kE4 : v2.cell? ⟨w.heap.size, 4, none⟩ = some (.int .i64 p) := (blk_cell KE.out 4).trans rfl; have jE4 : ∀ o, (v2.alloc o).cell? ⟨w.heap.size, 4, none⟩ = some (.int .i64 p) := fun o => (blk_cell (blk_alloc KE.out o) 4).trans rfl; have tok2 := trivial))
    go_ret
    exact ⟨rfl, HB.out⟩
end Go.Proofs.YtfhfldpdkmankaaDoor.Six
