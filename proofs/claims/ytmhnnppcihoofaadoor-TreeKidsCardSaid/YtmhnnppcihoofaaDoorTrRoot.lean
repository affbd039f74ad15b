/-
  thimbleref18.Root; what is built above the pages of a plan.
-/
import Derived.Test.YtmhnnppcihoofaaDoorTrAll
import Derived.Test.YtmhnnppcihoofaaDoorTrMade
import Derived.Test.YtmhnnppcihoofaaDoorTrBuildE
import Derived.Test.YtmhnnppcihoofaaDoorShEq
set_option linter.unusedSimpArgs false
set_option linter.unusedVariables false
namespace Go.Proofs.YtmhnnppcihoofaaDoor
open Go.RowKit Go.Proofs.YtmhnnppcihoofaaDoor.Sl Go.Proofs.YtmhnnppcihoofaaDoor.Sha Go.Proofs.YtmhnnppcihoofaaDoor.Jp Go.Proofs.YtmhnnppcihoofaaDoor.Tr

/-- How many levels of nodes. -/
def cM (P : Nat) : Nat := (lvs (cL P) (cN P)).length
section
variable {w0 w : World} {va vb lv : Value} {X : List (Value × List Int)}
theorem cM_is {P : Nat} (h1 : 1 ≤ P) (h3 : P ≤ 300) : (cM P = 1 ∧ cL P = 1 ∧ cN P = 1) ∨ (cM P = 2 ∧ 2 ≤ cL P ∧ cL P ≤ 3 ∧ cN P = cL P + 1) := by
  have h := cN_or h1
  have := (c_le h3).2
  unfold cM lvs
  rcases h with ⟨h2, h4⟩ | ⟨h2, h4⟩
  · rw [if_pos h2]; left; exact ⟨rfl, h4, by omega⟩
  · rw [if_neg (by omega)]; right; exact ⟨rfl, h4, by omega, h2⟩
theorem c_pos {P : Nat} (h1 : 1 ≤ P) : 1 ≤ cC P ∧ 1 ≤ cL P ∧ 1 ≤ cN P := by
  have h := cN_or h1
  unfold cC
  omega
theorem c_fit {P : Nat} (h1 : 1 ≤ P) (h3 : P ≤ 300) : cC P + 7 ≤ 8 * cL P + 7 ∧ cL P ≤ 8 := by
  have := (c_le h3).2
  unfold cL at *
  omega
/-- The document's nodes are the program's; how great all is. -/
theorem built {P : Nat} (h1 : 1 ≤ P) (h3 : P ≤ 300) {bs : List Row} (hC : bs.length = cC P) :
    (∀ k, k ≤ cM P → (stB dig P bs k).1 ≤ 400000 ∧ (stB dig P bs k).2.1.length ≤ 1000 ∧ (stB dig P bs k).2.2.length ≤ 100000) ∧
    all dig P (cC P) (cL P) (cN P) bs (cC P + cN P) = bs ++ (stB dig P bs (cM P)).2.2 ∧ (stB dig P bs (cM P)).2.1.length = 1 ∧ (stB dig P bs (cM P)).1 + 1 = P + cC P + cN P ∧
    (stB dig P bs (cM P)).2.2.getD (cN P - 1) [] = (stB dig P bs (cM P)).2.1.getD 0 [] ∧ (stB dig P bs (cM P)).2.2.length = cN P := by
  have hc := c_le h3
  have hm := cM_is h1 h3
  have hN : cN P = cL P + (cM P - 1) := by omega
  have h := all_is (d := dig) P (cC P) (cL P) (cM P) bs hC rfl (by omega)
  rw [← hN] at h
  obtain ⟨a1, a2, a3, a4, a5⟩ := h
  refine ⟨fun k hk => ?_, a1, a2, ?_, a4, a5⟩
  · have l0 : (stB dig P bs 0).2.1.length = cC P := hC
    have l1 : (stB dig P bs 1).2.1.length = cL P := by
      show (ab dig _ _ _).length = _
      rw [ab_len, l0]; rfl
    match k, hk with
    | 0, _ => exact ⟨by show P ≤ _; omega, by rw [l0]; omega, by show 0 ≤ _; omega⟩
    | 1, _ => exact ⟨by show P + (stB dig P bs 0).2.1.length ≤ _; rw [l0]; omega, by rw [l1]; omega, by show ([] ++ (stB dig P bs 1).2.1).length ≤ _; rw [List.nil_append, l1]; omega⟩
    | 2, h2 =>
      have e : cM P = 2 := by omega
      rw [← e]
      exact ⟨by rw [a3]; split <;> omega, by rw [a2]; omega, by rw [a5]; omega⟩
    | k + 3, h2 => omega
  · rw [a3]
    rcases hm with ⟨e1, e2, e3⟩ | ⟨e1, e2, e3, e4⟩
    · rw [if_pos e1]; omega
    · rw [if_neg (by omega)]; omega
end
end Go.Proofs.YtmhnnppcihoofaaDoor
