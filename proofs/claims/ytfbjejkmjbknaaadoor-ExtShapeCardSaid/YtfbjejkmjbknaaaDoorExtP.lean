/- Ends and ports as EPRT and EPSV tell them, plain. -/
import Derived.Test.YtfbjejkmjbknaaaDoorSixQ
namespace Go.Proofs.YtfbjejkmjbknaaaDoor.ExtP
set_option linter.unusedVariables false
set_option linter.unusedSimpArgs false
open Go Go.Proofs.YtfbjejkmjbknaaaDoor.Dig Go.Proofs.YtfbjejkmjbknaaaDoor.Cut Go.Proofs.YtfbjejkmjbknaaaDoor.SixP

def isMark (c : UInt8) : Bool := decide (33 ≤ c.toNat) && decide (c.toNat ≤ 126) && !isDig c
/-- An end as it is written. -/
def endU (a b c d p : Nat) : List UInt8 := jn 124 [[], [49], hostU a b c d, digU p, []]
/-- A port as it is written. -/
def portU (p : Nat) : List UInt8 := 40 :: 124 :: 124 :: 124 :: (digU p ++ [124, 41])
inductive Out | ok (a b c d p : Nat) | form | kind
  deriving DecidableEq
def getMost (most : Nat) (l : List UInt8) : Option Nat := (getN l).bind fun n => if n ≤ most then some n else none
theorem getMost_get (most : Nat) (l : List UInt8) : Dig.get l (most : Int) = match getMost most l with
  | some n => ((n : Int), true)
  | none => (0, false) := by
  unfold getMost Dig.get
  cases h : getN l with
  | none => rfl
  | some n =>
    simp only [Option.bind_some]
    by_cases hn : n ≤ most
    · rw [if_pos hn, if_neg (by omega)]
    · rw [if_neg hn, if_pos (by omega)]
theorem getMost_iff (most : Nat) (hm : most < 1000000000000000000) (l : List UInt8) (n : Nat) : getMost most l = some n ↔ l = digU n ∧ n ≤ most := by
  unfold getMost
  constructor
  · intro h
    cases hg : getN l with
    | none => rw [hg] at h; cases h
    | some m =>
      rw [hg] at h
      simp only [Option.bind_some] at h
      split at h
      · cases h; exact ⟨((getN_iff l n).1 hg).1, by assumption⟩
      · cases h
  · rintro ⟨rfl, h⟩
    rw [(getN_iff (digU n) n).2 ⟨rfl, by omega⟩]
    simp [h]
/-- Which end, or why none, five parts are. -/
def five (k h n t : List UInt8) : Out :=
  if t ≠ [] then .form else match getMost 9 k with
  | none => .form
  | some 0 => .form
  | some 1 => match readN h, getMost 65535 n with
    | some (a, b, c, d), some p => if p = 0 then .form else .ok a b c d p
    | _, _ => .form
  | some _ => .kind
def readE (l : List UInt8) : Out := match l with
  | [] => .form
  | m :: r => if isMark m = false then .form else match cut m (m :: r) with
    | [_, k, h, n, t] => five k h n t
    | _ => .form
/-- The port between marks. -/
def inner (t : List UInt8) : Option Nat := match t with
  | m :: r => if isMark m = false then none else match r with
    | x :: y :: z => if x = m ∧ y = m ∧ z.getLast? = some m then (getMost 65535 z.dropLast).bind fun n => if n = 0 then none else some n else none
    | _ => none
  | [] => none
def findE (l : List UInt8) : Option Nat := (cut1 40 l).bind fun x => (cut1 41 x.2).bind fun y => inner y.1

theorem dig_no (n : Nat) (c : UInt8) (h : isDig c = false) : c ∉ digU n := fun hm => by
  rw [List.all_eq_true.1 (digU_all n).1 _ hm] at h; cases h
theorem host_no (a b c d : Nat) : 124 ∉ hostU a b c d := by
  simp only [hostU, List.mem_append, List.mem_cons, not_or]
  exact ⟨dig_no a _ (by decide), by decide, dig_no b _ (by decide), by decide, dig_no c _ (by decide), by decide, dig_no d _ (by decide)⟩
theorem cut_end (a b c d p : Nat) : cut 124 (endU a b c d p) = [[], [49], hostU a b c d, digU p, []] := by
  refine cut_jn 124 _ (by simp) ?_
  intro x hx
  simp only [List.mem_cons, List.not_mem_nil, or_false] at hx
  rcases hx with rfl | rfl | rfl | rfl | rfl
  · simp
  · decide
  · exact host_no a b c d
  · exact dig_no p _ (by decide)
  · simp
theorem end_head (a b c d p : Nat) : endU a b c d p = 124 :: 49 :: 124 :: (hostU a b c d ++ 124 :: (digU p ++ [124])) := by simp [endU, jn]
theorem read_end {a b c d p : Nat} (ha : a ≤ 255) (hb : b ≤ 255) (hc : c ≤ 255) (hd : d ≤ 255) (h0 : 0 < p) (hp : p ≤ 65535) : readE (endU a b c d p) = .ok a b c d p := by
  have hcut := cut_end a b c d p
  rw [end_head] at hcut ⊢
  rw [readE, if_neg (by decide), hcut]
  show five [49] (hostU a b c d) (digU p) [] = _
  rw [five, if_neg (by simp), show getMost 9 [49] = some 1 from by rw [getMost_iff 9 (by decide)]; exact ⟨by rw [digU_small (by decide)]; rfl, by decide⟩]
  show (match readN (hostU a b c d), getMost 65535 (digU p) with | some (a, b, c, d), some p => if p = 0 then Out.form else .ok a b c d p | _, _ => .form) = _
  rw [(readN_iff _ a b c d).2 ⟨rfl, ha, hb, hc, hd⟩, (getMost_iff 65535 (by decide) _ p).2 ⟨rfl, hp⟩]
  show (if p = 0 then Out.form else .ok a b c d p) = _
  rw [if_neg (by omega)]
theorem read_port {l : List UInt8} {a b c d p : Nat} (h : readE l = .ok a b c d p) : 0 < p ∧ p ≤ 65535 ∧ a ≤ 255 ∧ b ≤ 255 ∧ c ≤ 255 ∧ d ≤ 255 := by
  unfold readE at h
  split at h
  · cases h
  · split at h
    · cases h
    · split at h
      · unfold five at h
        split at h
        · cases h
        · split at h
          · cases h
          · cases h
          · split at h
            · rename_i x1 x2 h1 h2
              split at h
              · cases h
              · cases h
                have e1 := (readN_iff _ _ _ _ _).1 h1
                have e2 := (getMost_iff 65535 (by decide) _ _).1 h2
                omega
            · cases h
          · cases h
      · cases h
theorem cut_count (c : UInt8) : ∀ l : List UInt8, (cut c l).length = l.count c + 1
  | [] => rfl
  | b :: l => by
    have ih := cut_count c l
    unfold cut
    split
    · rename_i hb
      rw [List.length_cons, ih, hb, List.count_cons_self]
    · rename_i hb
      rw [List.count_cons_of_ne hb]
      match h : cut c l with
      | [] => exact absurd h (cut_ne c l)
      | p :: r => rw [h] at ih; exact ih
theorem end_count (a b c d p : Nat) : (endU a b c d p).count 124 = 4 := by
  have h := cut_count 124 (endU a b c d p)
  rw [cut_end] at h
  simp only [List.length_cons, List.length_nil] at h; omega
/-- A beginning of what is written is none. -/
theorem read_take (a b c d p at_ : Nat) (h : at_ < (endU a b c d p).length) : readE ((endU a b c d p).take at_) = .form := by
  have hlast : endU a b c d p = (endU a b c d p).dropLast ++ [124] := by
    rw [end_head]
    have e : (124 :: 49 :: 124 :: (hostU a b c d ++ 124 :: (digU p ++ [124])) : List UInt8) = (124 :: 49 :: 124 :: (hostU a b c d ++ 124 :: digU p)) ++ [124] := by simp
    rw [e, List.dropLast_concat]
  have hc : ((endU a b c d p).take at_).count 124 ≤ 3 := by
    have h1 : ((endU a b c d p).dropLast).count 124 = 3 := by
      have := end_count a b c d p
      rw [hlast, List.count_append] at this
      simp at this; simpa using this
    have h2 : (endU a b c d p).take at_ = ((endU a b c d p).dropLast).take at_ := by
      conv => lhs; rw [hlast]
      rw [List.take_append_of_le_length (by rw [List.length_dropLast]; omega)]
    rw [h2, ← h1]
    exact (List.take_sublist _ _).count_le _
  cases hq : (endU a b c d p).take at_ with
  | nil => rfl
  | cons m r =>
    have hm : m = 124 := by
      have e := congrArg List.head? hq
      rw [List.head?_take, end_head] at e
      cases at_ with
      | zero => cases hq
      | succ n => simpa using e.symm
    subst hm
    rw [readE, if_neg (by decide)]
    rw [hq] at hc
    have hl := cut_count 124 (124 :: r)
    split
    · rename_i h5
      rw [h5] at hl; simp only [List.length_cons, List.length_nil] at hl; omega
    · rfl
/-- Another kind. -/
theorem read_kind (k : UInt8) (hk : k ≠ 124) (host : List UInt8) (hh : 124 ∉ host) : cut 124 (124 :: k :: 124 :: (host ++ 124 :: [56, 48, 124])) = [[], [k], host, [56, 48], []] := by
  have e : (124 :: k :: 124 :: (host ++ 124 :: [56, 48, 124]) : List UInt8) = jn 124 [[], [k], host, [56, 48], []] := by simp [jn]
  rw [e]
  refine cut_jn 124 _ (by simp) ?_
  intro x hx
  simp only [List.mem_cons, List.not_mem_nil, or_false] at hx
  rcases hx with rfl | rfl | rfl | rfl | rfl
  · simp
  · simpa using fun e => hk e.symm
  · exact hh
  · decide
  · simp
theorem kind_most (k : UInt8) : getMost 9 [k] = if isDig k = true then some (k.toNat - 48) else none := by
  by_cases hd : isDig k = true
  · rw [if_pos hd, getMost_iff 9 (by decide)]
    have h48 : 48 ≤ k.toNat ∧ k.toNat ≤ 57 := by simpa [isDig] using hd
    refine ⟨?_, by omega⟩
    rw [digU_small (by omega), toNat_back k hd]
  · rw [if_neg hd]
    cases h : getMost 9 [k] with
    | none => rfl
    | some n =>
      have h1 := ((getMost_iff 9 (by decide) [k] n).1 h).1
      exact absurd (List.all_eq_true.1 (digU_all n).1 k (by rw [← h1]; exact List.mem_cons_self ..)) hd
theorem read_kinds (k : UInt8) (hk : k ≠ 124) (host : List UInt8) (hh : 124 ∉ host) :
    (50 ≤ k.toNat ∧ k.toNat ≤ 57 → readE (124 :: k :: 124 :: (host ++ 124 :: [56, 48, 124])) = .kind) ∧ (k.toNat < 49 ∨ 57 < k.toNat → readE (124 :: k :: 124 :: (host ++ 124 :: [56, 48, 124])) = .form) := by
  have hr : readE (124 :: k :: 124 :: (host ++ 124 :: [56, 48, 124])) = five [k] host [56, 48] [] := by
    rw [readE, if_neg (by decide), read_kind k hk host hh]
  rw [hr, five, if_neg (by simp), kind_most]
  constructor
  · rintro ⟨h1, h2⟩
    rw [if_pos (by simp [isDig]; omega)]
    obtain ⟨n, hn⟩ : ∃ n, k.toNat - 48 = n + 2 := ⟨k.toNat - 50, by omega⟩
    rw [hn]; rfl
  · intro h
    by_cases hd : isDig k = true
    · have h48 : 48 ≤ k.toNat ∧ k.toNat ≤ 57 := by simpa [isDig] using hd
      rw [if_pos hd, show k.toNat - 48 = 0 from by omega]
      rfl
    · rw [if_neg hd]
theorem find_port {ahead : List UInt8} (h : 40 ∉ ahead) {p : Nat} (h0 : 0 < p) (hp : p ≤ 65535) (behind : List UInt8) : findE (ahead ++ (portU p ++ behind)) = some p := by
  have h41 : 41 ∉ (124 :: 124 :: 124 :: (digU p ++ [124]) : List UInt8) := by
    simp only [List.mem_cons, List.mem_append, List.not_mem_nil, or_false, not_or]
    exact ⟨by decide, by decide, by decide, dig_no p _ (by decide), by decide⟩
  have e : portU p ++ behind = 40 :: ((124 :: 124 :: 124 :: (digU p ++ [124])) ++ 41 :: behind) := by simp [portU]
  rw [e]
  simp only [findE, Option.bind_eq_some_iff]
  refine ⟨_, cut1_some _ h, _, cut1_some _ h41, ?_⟩
  show inner (124 :: 124 :: 124 :: (digU p ++ [124])) = some p
  rw [inner, if_neg (by decide)]
  show (if (124 : UInt8) = 124 ∧ (124 : UInt8) = 124 ∧ (digU p ++ [124]).getLast? = some 124 then _ else _) = _
  rw [if_pos ⟨rfl, rfl, by simp⟩, List.dropLast_concat, (getMost_iff 65535 (by decide) _ p).2 ⟨rfl, hp⟩]
  show (if p = 0 then none else some p) = _
  rw [if_neg (by omega)]
end Go.Proofs.YtfbjejkmjbknaaaDoor.ExtP
