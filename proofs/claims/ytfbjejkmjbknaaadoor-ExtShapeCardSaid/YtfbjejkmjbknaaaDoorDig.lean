/- The digits of a number, as numbers of bytes: plain. -/
import Derived.Test.YtfbjejkmjbknaaaDoorWMore
import Derived.Lib.Bytealg
import Derived.Test.YtfbjejkmjbknaaaDoorCut
namespace Go.Proofs.YtfbjejkmjbknaaaDoor.Dig
open Go Go.RowKit Go.Proofs.YtfbjejkmjbknaaaDoorW.PrintWords

/-- The digits of a number. -/
def dig (u : Nat) : List Int := if u < 10 then [48 + (u : Int)] else dig (u / 10) ++ [48 + ((u % 10 : Nat) : Int)]
termination_by u
decreasing_by omega

/-- A number as it is written. -/
def num (n : Int) : List Int := if n < 0 then 45 :: dig n.natAbs else dig n.natAbs

theorem dig_small {u : Nat} (h : u < 10) : dig u = [48 + (u : Int)] := by rw [dig, if_pos h]
theorem dig_big {u : Nat} (h : 10 ≤ u) : dig u = dig (u / 10) ++ [48 + ((u % 10 : Nat) : Int)] := by rw [dig, if_neg (by omega)]

theorem dig_len : ∀ (k u : Nat), u < 10 ^ (k + 1) → (dig u).length ≤ k + 1
  | 0, u, h => by rw [dig_small (by simpa using h)]; simp
  | k + 1, u, h => by
    by_cases hs : u < 10
    · rw [dig_small hs]; simp
    · rw [dig_big (by omega)]
      have := dig_len k (u / 10) (by rw [Nat.pow_succ] at h; omega)
      simp; omega
theorem dig_pos (u : Nat) : 1 ≤ (dig u).length := by
  by_cases hs : u < 10
  · rw [dig_small hs]; simp
  · rw [dig_big (by omega)]; simp

/-- What the loop of Num holds: U the whole number, a where the text begins, u what is left, f the first round, tl the text. -/
def Inv (U a u : Nat) (f : Bool) (tl : List Int) : Prop :=
  u ≤ U ∧ a + tl.length = 24 ∧ ((f = true ∧ tl = [] ∧ u = U) ∨ (f = false ∧ 0 < u ∧ dig U = dig u ++ tl) ∨ (f = false ∧ u = 0 ∧ dig U = tl))

theorem Inv.start (U : Nat) : Inv U 24 U true [] := ⟨Nat.le_refl _, rfl, .inl ⟨rfl, rfl, rfl⟩⟩
theorem Inv.low {U a u : Nat} {f : Bool} {tl : List Int} (h : Inv U a u f tl) (hU : U < 10 ^ 20) : 4 ≤ a := by
  have := dig_len 19 U hU
  rcases h with ⟨hle, h0, ⟨_, rfl, _⟩ | ⟨_, _, h1⟩ | ⟨_, _, h1⟩⟩
  · simp at h0; omega
  · rw [h1] at this; simp at this; omega
  · rw [h1] at this; omega
theorem Inv.next {U a u : Nat} {f : Bool} {tl : List Int} (h : Inv U a u f tl) (hU : U < 10 ^ 20) (hl : f = true ∨ 0 < u) :
    5 ≤ a ∧ Inv U (a - 1) (u / 10) false ((48 + ((u % 10 : Nat) : Int)) :: tl) := by
  have hlen := dig_len 19 U hU
  have key : dig U = dig u ++ tl ∧ 5 ≤ a := by
    rcases h with ⟨hle, h0, ⟨_, rfl, rfl⟩ | ⟨_, _, h1⟩ | ⟨hf, hu, h1⟩⟩
    · simp at h0; simp; omega
    · refine ⟨h1, ?_⟩
      have := dig_pos u
      rw [h1] at hlen; simp at hlen; omega
    · rcases hl with hl | hl
      · rw [hf] at hl; cases hl
      · omega
  refine ⟨key.2, ?_, ?_, ?_⟩
  · have := h.1; omega
  · have := h.2.1; simp; omega
  · by_cases hs : u < 10
    · refine .inr (.inr ⟨rfl, by omega, ?_⟩)
      rw [key.1, dig_small hs, Nat.mod_eq_of_lt hs]; rfl
    · refine .inr (.inl ⟨rfl, by omega, ?_⟩)
      rw [key.1, dig_big (by omega)]; simp
theorem Inv.done {U a u : Nat} {f : Bool} {tl : List Int} (h : Inv U a u f tl) (hf : f = false) (hu : u = 0) : dig U = tl := by
  rcases h with ⟨_, _, ⟨h1, _⟩ | ⟨_, h1, _⟩ | ⟨_, _, h1⟩⟩
  · rw [hf] at h1; cases h1
  · omega
  · exact h1

/-- The cells of Num's array: noughts, then the text. -/
def cells (a : Nat) (tl : List Int) : Array Value := ((List.replicate a (0 : Int) ++ tl).map fun x => .int .u8 x).toArray
theorem cells_size (a : Nat) (tl : List Int) : (cells a tl).size = a + tl.length := by simp [cells]
theorem cells_put (a : Nat) (tl : List Int) (x : Int) (h : 1 ≤ a) : (cells a tl).setIfInBounds (a - 1) (.int .u8 x) = cells (a - 1) (x :: tl) := by
  obtain ⟨b, rfl⟩ : ∃ b, a = b + 1 := ⟨a - 1, by omega⟩
  simp only [cells, Nat.add_sub_cancel]
  rw [List.setIfInBounds_toArray]
  congr 1
  rw [← List.map_set]
  congr 1
  rw [List.replicate_succ', List.append_assoc, List.set_append_right _ _ (by simp)]
  simp
theorem cells_at (a : Nat) (tl : List Int) (j : Nat) (h : j < tl.length) : (cells a tl)[a + j]? = some (.int .u8 (rd tl j)) := by
  simp [cells, rd, List.getD, h]

theorem cells_nought (a : Nat) (tl : List Int) (j : Nat) (h : j < a) : (cells a tl)[j]? = some (.int .u8 0) := by
  simp only [cells, List.getElem?_toArray, List.getElem?_map]
  rw [List.getElem?_append_left (by simpa using h)]
  simp [h]
theorem digit_at (u : Nat) (h : u % 10 < (⟨#[48, 49, 50, 51, 52, 53, 54, 55, 56, 57]⟩ : ByteArray).size) : (((⟨#[48, 49, 50, 51, 52, 53, 54, 55, 56, 57]⟩ : ByteArray)[u % 10]'h).toNat : Int) = 48 + ((u % 10 : Nat) : Int) := by
  have key : ∀ v : Fin 10, (((⟨#[48, 49, 50, 51, 52, 53, 54, 55, 56, 57]⟩ : ByteArray)[v.1]'v.2).toNat : Int) = 48 + ((v.1 : Nat) : Int) := by decide +kernel
  exact key ⟨u % 10, Nat.mod_lt _ (by decide)⟩
theorem digit_byte (u : Nat) (h : u < 10) : bt ⟨#[48, 49, 50, 51, 52, 53, 54, 55, 56, 57]⟩ (u : Int) = 48 + (u : Int) := by
  have : ∀ u : Fin 10, bt ⟨#[48, 49, 50, 51, 52, 53, 54, 55, 56, 57]⟩ ((u : Nat) : Int) = 48 + ((u : Nat) : Int) := by decide +kernel
  exact this ⟨u, h⟩

/-! ### The number that a text is -/
def isDig (c : UInt8) : Bool := decide (48 ≤ c.toNat) && decide (c.toNat ≤ 57)
def val (l : List UInt8) : Nat := l.foldl (fun n c => 10 * n + (c.toNat - 48)) 0
def getN (l : List UInt8) : Option Nat := if l ≠ [] ∧ l.length ≤ 18 ∧ (l.head? = some 48 → l.length = 1) ∧ l.all isDig = true then some (val l) else none
def get (l : List UInt8) (most : Int) : Int × Bool := match getN l with
  | some n => if most < (n : Int) then (0, false) else ((n : Int), true)
  | none => (0, false)

theorem index_dig (c : UInt8) : Lib.indexByte [48, 49, 50, 51, 52, 53, 54, 55, 56, 57] c = if isDig c = true then ((c.toNat - 48 : Nat) : Int) else -1 := by
  have key : ∀ c : Fin 256, Lib.indexByte [48, 49, 50, 51, 52, 53, 54, 55, 56, 57] (UInt8.ofNat c.1) = if isDig (UInt8.ofNat c.1) = true then (((UInt8.ofNat c.1).toNat - 48 : Nat) : Int) else -1 := by decide +kernel
  have h := key ⟨c.toNat, c.toNat_lt⟩
  simpa using h

theorem val_snoc (l : List UInt8) (c : UInt8) : val (l ++ [c]) = 10 * val l + (c.toNat - 48) := by simp [val, List.foldl_append]
theorem val_lt : ∀ (n : Nat) (l : List UInt8), l.length = n → l.all isDig = true → val l < 10 ^ n
  | 0, l, h, _ => by obtain rfl := List.length_eq_zero_iff.1 h; simp [val]
  | n + 1, l, h, ha => by
    obtain ⟨m, c, rfl⟩ : ∃ m c, l = m ++ [c] := ⟨l.dropLast, l.getLast (by intro e; simp [e] at h), (List.dropLast_concat_getLast _).symm⟩
    simp only [List.all_append, List.all_cons, List.all_nil, Bool.and_true, Bool.and_eq_true] at ha
    have := val_lt n m (by simpa using h) ha.1
    have h2 := ha.2
    simp only [isDig, Bool.and_eq_true, decide_eq_true_eq] at h2
    rw [val_snoc, Nat.pow_succ]; omega

/-- The digits as bytes. -/
def digU (u : Nat) : List UInt8 := (dig u).map fun n => UInt8.ofNat n.toNat
theorem digU_small {u : Nat} (h : u < 10) : digU u = [UInt8.ofNat (48 + u)] := by
  rw [digU, dig_small h]; simp only [List.map_cons, List.map_nil]; rw [show (48 + (u : Int)).toNat = 48 + u from by omega]
theorem digU_big {u : Nat} (h : 10 ≤ u) : digU u = digU (u / 10) ++ [UInt8.ofNat (48 + u % 10)] := by
  rw [digU, dig_big h, List.map_append]; simp only [List.map_cons, List.map_nil]; rw [show (48 + ((u % 10 : Nat) : Int)).toNat = 48 + u % 10 from by omega]; rfl
theorem digit_nat (d : Nat) (h : d < 10) : (UInt8.ofNat (48 + d)).toNat = 48 + d := by
  rw [UInt8.toNat_ofNat']; omega
theorem digit_isDig (d : Nat) (h : d < 10) : isDig (UInt8.ofNat (48 + d)) = true := by
  simp only [isDig, digit_nat d h, Bool.and_eq_true, decide_eq_true_eq]; omega
theorem digU_ne (u : Nat) : digU u ≠ [] := by
  intro h; have := dig_pos u; have h2 := congrArg List.length h; rw [digU, List.length_map] at h2; simp only [List.length_nil] at h2; omega
theorem digU_len (u : Nat) : (digU u).length = (dig u).length := by simp [digU]

theorem head_app {m : List UInt8} (x : List UInt8) (h : m ≠ []) : (m ++ x).head? = m.head? := by cases m <;> simp_all

theorem digU_all (u : Nat) : (digU u).all isDig = true ∧ val (digU u) = u ∧ ((digU u).head? = some 48 → u = 0) := by
  induction u using Nat.strongRecOn with
  | _ u ih =>
    by_cases hs : u < 10
    · rw [digU_small hs]
      refine ⟨by simp only [List.all_cons, List.all_nil, Bool.and_true]; exact digit_isDig u hs, by simp only [val, List.foldl_cons, List.foldl_nil]; rw [digit_nat u hs]; omega, fun h => ?_⟩
      have h' : UInt8.ofNat (48 + u) = 48 := by simpa using h
      have := congrArg UInt8.toNat h'
      rw [digit_nat u hs] at this
      have e : (48 : UInt8).toNat = 48 := rfl
      omega
    · have ⟨h1, h2, h3⟩ := ih (u / 10) (by omega)
      have hm : u % 10 < 10 := Nat.mod_lt _ (by decide)
      rw [digU_big (by omega)]
      refine ⟨by rw [List.all_append, h1]; simp only [List.all_cons, List.all_nil, Bool.and_true, Bool.true_and]; exact digit_isDig _ hm, by rw [val_snoc, h2, digit_nat _ hm]; omega, fun h => ?_⟩
      rw [head_app _ (digU_ne _)] at h
      have := h3 h; omega

theorem toNat_back (c : UInt8) (h : isDig c = true) : UInt8.ofNat (48 + (c.toNat - 48)) = c := by
  simp only [isDig, Bool.and_eq_true, decide_eq_true_eq] at h
  rw [show 48 + (c.toNat - 48) = c.toNat from by omega]; simp

/-- A text of digits that begins by no nought, but alone, is its number as it is written. -/
theorem digU_val : ∀ (n : Nat) (l : List UInt8), l.length = n + 1 → l.all isDig = true → (l.head? = some 48 → l.length = 1) → digU (val l) = l ∧ (l.head? ≠ some 48 → 0 < val l)
  | 0, l, h, ha, _ => by
    obtain ⟨c, rfl⟩ := List.length_eq_one_iff.1 h
    simp only [List.all_cons, List.all_nil, Bool.and_true] at ha
    have hd := ha
    simp only [isDig, Bool.and_eq_true, decide_eq_true_eq] at hd
    have hv : val [c] = c.toNat - 48 := by simp [val]
    rw [hv]
    refine ⟨?_, fun h => ?_⟩
    · rw [digU_small (by omega), toNat_back c ha]
    · have : c ≠ 48 := by simpa using h
      have h2 : c.toNat ≠ 48 := fun e => this (by apply UInt8.toNat_inj.1; rw [e]; rfl)
      omega
  | n + 1, l, h, ha, hz => by
    obtain ⟨m, c, rfl⟩ : ∃ m c, l = m ++ [c] := ⟨l.dropLast, l.getLast (by intro e; simp [e] at h), (List.dropLast_concat_getLast _).symm⟩
    simp only [List.all_append, List.all_cons, List.all_nil, Bool.and_true, Bool.and_eq_true] at ha
    have hml : m.length = n + 1 := by simpa using h
    have hm : m ≠ [] := by intro e; simp [e] at hml
    rw [head_app _ hm] at hz ⊢
    have hz2 : m.head? ≠ some 48 := fun e => by have := hz e; rw [List.length_append] at this; simp only [List.length_cons, List.length_nil] at this; omega
    have ⟨i1, i2⟩ := digU_val n m hml ha.1 (fun e => absurd e hz2)
    have i3 := i2 hz2
    have hd := ha.2
    simp only [isDig, Bool.and_eq_true, decide_eq_true_eq] at hd
    rw [val_snoc]
    refine ⟨?_, fun _ => by omega⟩
    rw [digU_big (by omega), show (10 * val m + (c.toNat - 48)) / 10 = val m from by omega, show (10 * val m + (c.toNat - 48)) % 10 = c.toNat - 48 from by omega, i1, toNat_back c ha.2]

/-- A text is a number just where it is that number as it is written, of at most eighteen digits. -/
theorem getN_iff (l : List UInt8) (n : Nat) : getN l = some n ↔ l = digU n ∧ n < 1000000000000000000 := by
  constructor
  · intro h
    unfold getN at h
    split at h
    · rename_i hc
      obtain ⟨h1, h2, h3, h4⟩ := hc
      cases h
      have hp : 0 < l.length := List.length_pos_iff.2 h1
      have ⟨e, _⟩ := digU_val (l.length - 1) l (by omega) h4 h3
      refine ⟨e.symm, ?_⟩
      have := val_lt l.length l rfl h4
      exact Nat.lt_of_lt_of_le this (Nat.le_trans (Nat.pow_le_pow_right (by decide) h2) (by decide))
    · cases h
  · rintro ⟨rfl, hn⟩
    have ⟨a1, a2, a3⟩ := digU_all n
    have hl : (digU n).length ≤ 18 := by rw [digU_len]; exact dig_len 17 n (by omega)
    rw [getN, if_pos ⟨digU_ne n, hl, fun h => by rw [a3 h, digU_small (by decide)]; rfl, a1⟩, a2]

/-- A number as it is written, as bytes. -/
def numU (n : Int) : List UInt8 := if n < 0 then 45 :: digU n.natAbs else digU n.natAbs
theorem numU_eq (n : Int) : strOfNums (num n) = ⟨(numU n).toArray⟩ := by
  unfold num numU strOfNums
  split <;> simp [digU]
theorem numU_nat (n : Nat) : numU (n : Int) = digU n := by rw [numU, if_neg (by omega)]; simp
/-- An address as it is written. -/
def hostU (a b c d : Nat) : List UInt8 := digU a ++ 46 :: (digU b ++ 46 :: (digU c ++ 46 :: digU d))

/-! ### The address that a text is -/
def get255 (l : List UInt8) : Option Nat := (getN l).bind fun n => if n ≤ 255 then some n else none
theorem get255_get (l : List UInt8) : get l 255 = match get255 l with
  | some n => ((n : Int), true)
  | none => (0, false) := by
  unfold get get255
  cases h : getN l with
  | none => rfl
  | some n =>
    simp only [Option.bind_some]
    by_cases hn : n ≤ 255
    · rw [if_pos hn, if_neg (by omega)]
    · rw [if_neg hn, if_pos (by omega)]
theorem get255_iff (l : List UInt8) (n : Nat) : get255 l = some n ↔ l = digU n ∧ n ≤ 255 := by
  unfold get255
  constructor
  · intro h
    cases hg : getN l with
    | none => rw [hg] at h; cases h
    | some m =>
      rw [hg] at h
      simp only [Option.bind_some] at h
      split at h
      · cases h; exact ⟨((getN_iff l n).1 hg).1, by assumption⟩
      · cases h
  · rintro ⟨rfl, h⟩
    rw [(getN_iff (digU n) n).2 ⟨rfl, by omega⟩]
    simp [h]
/-- The address of four parts. -/
def four (p q r t : List UInt8) : Option (Nat × Nat × Nat × Nat) := (get255 p).bind fun a => (get255 q).bind fun b => (get255 r).bind fun c => (get255 t).bind fun d => some (a, b, c, d)
def readN (l : List UInt8) : Option (Nat × Nat × Nat × Nat) := match Cut.cut 46 l with
  | [p, q, r, t] => four p q r t
  | _ => none
theorem dig_not46 (n : Nat) : (46 : UInt8) ∉ digU n := by
  intro h
  have := List.all_eq_true.1 (digU_all n).1 _ h
  exact absurd this (by decide)
theorem four_iff (p q r t : List UInt8) (a b c d : Nat) : four p q r t = some (a, b, c, d) ↔ (p = digU a ∧ a ≤ 255) ∧ (q = digU b ∧ b ≤ 255) ∧ (r = digU c ∧ c ≤ 255) ∧ (t = digU d ∧ d ≤ 255) := by
  simp only [four, Option.bind_eq_some_iff, Option.some.injEq, Prod.mk.injEq]
  constructor
  · rintro ⟨a', ha, b', hb, c', hc, d', hd, rfl, rfl, rfl, rfl⟩
    exact ⟨(get255_iff _ _).1 ha, (get255_iff _ _).1 hb, (get255_iff _ _).1 hc, (get255_iff _ _).1 hd⟩
  · rintro ⟨ha, hb, hc, hd⟩
    exact ⟨a, (get255_iff _ _).2 ha, b, (get255_iff _ _).2 hb, c, (get255_iff _ _).2 hc, d, (get255_iff _ _).2 hd, rfl, rfl, rfl, rfl⟩
theorem host_jn (a b c d : Nat) : hostU a b c d = Cut.jn 46 [digU a, digU b, digU c, digU d] := rfl
/-- A text is an address just where it is that address as it is written. -/
theorem readN_iff (l : List UInt8) (a b c d : Nat) : readN l = some (a, b, c, d) ↔ l = hostU a b c d ∧ a ≤ 255 ∧ b ≤ 255 ∧ c ≤ 255 ∧ d ≤ 255 := by
  constructor
  · intro h
    unfold readN at h
    split at h
    · rename_i p q r t hc
      have hj := Cut.jn_cut 46 l
      rw [hc] at hj
      obtain ⟨⟨rfl, ha⟩, ⟨rfl, hb⟩, ⟨rfl, hc'⟩, ⟨rfl, hd⟩⟩ := (four_iff p q r t a b c d).1 h
      exact ⟨hj.symm.trans (host_jn a b c d).symm, ha, hb, hc', hd⟩
    · cases h
  · rintro ⟨rfl, ha, hb, hc, hd⟩
    have h : Cut.cut 46 (hostU a b c d) = [digU a, digU b, digU c, digU d] := by
      rw [host_jn]
      refine Cut.cut_jn 46 _ (by simp) ?_
      intro p hp
      simp only [List.mem_cons, List.not_mem_nil, or_false] at hp
      rcases hp with rfl | rfl | rfl | rfl <;> exact dig_not46 _
    rw [readN, h]
    exact (four_iff _ _ _ _ a b c d).2 ⟨⟨rfl, ha⟩, ⟨rfl, hb⟩, ⟨rfl, hc⟩, ⟨rfl, hd⟩⟩

theorem digU_inj {a b : Nat} (h : digU a = digU b) : a = b := by rw [← (digU_all a).2.1, h, (digU_all b).2.1]
end Go.Proofs.YtfbjejkmjbknaaaDoor.Dig
