/- strings.Join by one byte, of a row that lies so. -/
import Derived.Test.YtfbjejkmjbknaaaDoorRow
import Derived.Test.YtfbjejkmjbknaaaDoorCut
import Derived.Test.YtfbjejkmjbknaaaDoorRefCut
import Derived.Test.YtfbjejkmjbknaaaDoorShelf
namespace Go.Proofs.YtfbjejkmjbknaaaDoor.Quad
open Go Go.RowKit Go.Proofs.YtfbjejkmjbknaaaDoorW.PrintWords Go.Proofs.YtfbjejkmjbknaaaDoorW.PrintLast Go.Proofs.YtfbjejkmjbknaaaDoorW.PrintMore
set_option linter.unusedVariables false
set_option linter.unusedSimpArgs false

def tot : List (List UInt8) → Nat
  | [] => 0
  | x :: l => x.length + 1 + tot l
theorem tot_len (l : List (List UInt8)) : l.length ≤ tot l := by
  induction l with
  | nil => exact Nat.le_refl _
  | cons x l ih => simp only [List.length_cons, tot]; omega
theorem jn_tot (c : UInt8) : ∀ l : List (List UInt8), (Cut.jn c l).length ≤ tot l
  | [] => by simp [Cut.jn]
  | [p] => by simp [Cut.jn, tot]
  | p :: q :: r => by
    have ih := jn_tot c (q :: r)
    rw [Cut.jn, tot]
    simp only [List.length_append, List.length_cons]; omega
theorem join_lies (b : UInt8) (ls : List (List UInt8)) (v : Value) (B : Nat) (w : World) (h : Row.Lies w B 9 v (ls.map str)) (hl : tot ls ≤ 100000000) :
    Calls Tryd.prog 18 #[v, .string ⟨#[b]⟩] w fun e w' => e = .returned (.string ⟨(Cut.jn b ls).toArray⟩) ∧ Below w.heap.size w w' := by
  have hm : ls.map str = (ls.map fun x => (⟨x.toArray⟩ : ByteArray)).map Value.string := by rw [List.map_map]; rfl
  have hd : (ls.map fun x => (⟨x.toArray⟩ : ByteArray)).map (·.data.toList) = ls := by
    rw [List.map_map]
    conv => rhs; rw [← List.map_id ls]
    rfl
  rcases h.form with ⟨rfl, h0⟩ | ⟨g, c, rfl, hc, hg, hx⟩
  · have h1 : ls = [] := by simpa using h0
    subst h1
    exact (Tryd.strings_Join_none none 0 ⟨#[b]⟩ w).mono fun e w' ⟨he, hw⟩ => ⟨he, hw ▸ Below.refl _ _⟩
  · have hj := Tryd.strings_Join g 0 c (ls.map fun x => (⟨x.toArray⟩ : ByteArray)) ⟨#[b]⟩ w (fun j x hx' => hx j (.string x) (by rw [hm, List.getElem?_map, hx']; rfl)) hg
      (by rw [List.length_map]; have := tot_len ls; omega) (by rw [List.length_map] at hc ⊢; exact hc)
      (by rw [hd, show (ByteArray.mk #[b]).data.toList = [b] from rfl, Cut.join_jn]; have := jn_tot b ls; omega)
    rw [hd, show (ByteArray.mk #[b]).data.toList = [b] from rfl, Cut.join_jn, List.length_map] at hj
    rw [List.length_map]
    exact hj
end Go.Proofs.YtfbjejkmjbknaaaDoor.Quad
