/-
  thimbleref18.All, Root.
-/
import Derived.Test.YtmhnnppcihoofaaDoorTrOf
import Derived.Test.YtmhnnppcihoofaaDoorTrAb
import Derived.Test.YtmhnnppcihoofaaDoorTrRef
import Derived.Test.YtmhnnppcihoofaaDoorTrBuild
import Derived.Test.YtmhnnppcihoofaaDoorJ03
import Derived.Test.YtmhnnppcihoofaaDoorSlB
set_option linter.unusedSimpArgs false
set_option linter.unusedVariables false
namespace Go.Proofs.YtmhnnppcihoofaaDoor
open Go.RowKit Go.Proofs.YtmhnnppcihoofaaDoor.Sl Go.Proofs.YtmhnnppcihoofaaDoor.Sha Go.Proofs.YtmhnnppcihoofaaDoor.Jp Go.Proofs.YtmhnnppcihoofaaDoor.Tr

section
variable {w0 w : World} {va vb lv : Value} {X : List (Value × List Int)}
theorem putAt_set (A D : Row) (o j : Nat) (x : Int) (hx : D[j]? = some x) (hl : o + D.length ≤ A.length) : (putAt A o (D.take j)).set (o + j) x = putAt A o (D.take (j + 1)) := by
  obtain ⟨hj, he⟩ := List.getElem?_eq_some_iff.1 hx
  unfold putAt
  have e1 : (D.take j).length = j := by simp; omega
  have e2 : (D.take (j + 1)).length = j + 1 := by simp; omega
  have e3 : (A.take o ++ D.take j).length = o + j := by simp; omega
  rw [e1, e2, List.set_append_right _ _ (by omega), e3, Nat.sub_self, List.take_add_one, hx]
  obtain ⟨y, ys, hy⟩ : ∃ y ys, A.drop (o + j) = y :: ys := by
    match h : A.drop (o + j) with
    | [] => have := congrArg List.length h; simp at this; omega
    | y :: ys => exact ⟨y, ys, rfl⟩
  rw [hy]
  have hd : A.drop (o + (j + 1)) = ys := by
    rw [← Nat.add_assoc, ← List.drop_drop, hy]; rfl
  rw [hd]
  simp
theorem refDigest_i {k : Nat} {ki : Int} {A D : List Int} (hki : ki = (k : Int)) (hD : dig k A = D) (hA : RB w0 A va) (hl : A.length ≤ 10000) :
    Calls Tryd.prog 16 #[.int .i64 ki, va] w0 fun e w' => e = .returned (.agg (D.map u8v).toArray) ∧ Sat w0 [] w' := by
  subst hki
  exact refDigest_any hD hA hl
end
end Go.Proofs.YtmhnnppcihoofaaDoor
