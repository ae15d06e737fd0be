/- However bytes are cut into two parts what is left of them is the same: for at most 500 bytes. -/
import Derived.Test.YtoeknbnchmpklaaQx3
import Derived.Test.YtoeknbnchmpklaaPureTelnetRef
set_option linter.unusedVariables false
namespace Go.Proofs.Ytoeknbnchmpklaa.Pure
open Go Go.RowKit Go.Proofs.Ytoeknbnchmpklaa.TelnetExt Go.Proofs.Ytoeknbnchmpklaa.Q Go.Proofs.YtoeknbnchmpklaaW.PrintWords Go.Proofs.YtoeknbnchmpklaaW.PrintLast

theorem TelnetParts : wharfingerlaw05_TelnetParts.Pure := by
  intro st l at_ w0 hm hs hw w2
  refine ⟨1000, ?_⟩
  unfold wharfingerlaw05_TelnetParts.f
  rw [awake]
  simp only [Option.bind_some, if_true]
  have ht : wharfingerlaw05_TelnetParts.j0 1000 st l at_ true true = some true := by simp only [wharfingerlaw05_TelnetParts.j0]; rfl
  split
  · exact ht
  split
  · exact ht
  by_cases hgt : at_ > l.length
  · rw [decide_eq_true hgt]; exact ht
  · rw [decide_eq_false hgt]
    simp only [wharfingerlaw05_TelnetParts.j0]
    rw [if_neg (by decide)]
    obtain ⟨n, rfl⟩ : ∃ n : Nat, at_ = n := ⟨at_.toNat, by omega⟩
    rw [Int.toNat_natCast]
    have hl : l.length ≤ 500 := by omega
    unfold telnet_Strip.f
    rw [if_pos (by omega), if_pos (show (l.take n).length ≤ 1000000 by rw [List.length_take]; omega)]
    have hb := Telnet.strip_less st (l.take n)
    have hb2 := Telnet.strip_less (Telnet.strip st (l.take n)).1 (l.drop n)
    have hq := Telnet.strip_state (Telnet.strip st (l.take n)).1 (l.drop n)
    have l1 := hb.1.length_le
    have l2 := hb2.1.length_le
    rw [List.length_take] at l1
    rw [List.length_drop] at l2
    have e := Telnet.strip_append st (l.take n) (l.drop n)
    rw [List.take_append_drop] at e
    simp only [Option.bind_some]
    rw [if_pos (show (0 : Int) ≤ (n : Int) by omega), if_pos (show (n : Int) ≤ (l.length : Int) by omega), if_pos (show (l.drop n).length ≤ 1000000 by rw [List.length_drop]; omega), e]
    simp only [Option.bind_some]
    have b1 := hb.2.2
    have b2 := hb2.2.2
    rw [List.length_take] at b1
    rw [List.length_drop] at b2
    simp only [if_true]
    rw [strOfNums_size, strOfNums_size, if_pos (by omega), if_pos (by rw [Telnet.str_append]), wrap_in (by omega) (by omega), if_pos rfl, if_pos hq.1, decide_eq_true hq.2]

end Go.Proofs.Ytoeknbnchmpklaa.Pure
