/-
  How long an argument may be: a reading's weight. It names no program.
-/
import Derived.Test.YtmhnnppcihoofaaDoorSlA
import Derived.ChangeArms
set_option linter.unusedSimpArgs false
set_option linter.unusedVariables false
namespace Go.Proofs.YtmhnnppcihoofaaDoor.Sl
open Go Go.RowKit Go.WideShapes

section
variable {H : Type} {enc : TypeId × Value → H} {P : Program} {w : World} {base : Nat} {spare : Nat → Bool} {held : Bool} {t e : TypeId} {ts : List TypeId} {d : DataW H} {ds : List (DataW H)} {v : Value} {ps : List MemPlace}
theorem weight0 (hw : (DataW.weightsEach P (t :: ts) (d :: ds)).all (· ≤ reachBytes) = true) : (d.weights P t).all (· ≤ reachBytes) = true := by
  unfold DataW.weightsEach at hw
  rw [List.all_append, Bool.and_eq_true] at hw
  exact hw.1
theorem lenOf (ht : P.underlying t = some (.slice e)) (hb : P.bytesOf e = 1) (hw : (d.weights P t).all (· ≤ reachBytes) = true) (h : DataW.Trod enc P w base spare held t v d ps) {q : Option Addr} {n c : Nat} (hv : v = .slice q n c) : n ≤ 140737488351232 := by
  obtain ⟨m, hm⟩ := h
  subst hv
  have e0 : (Value.slice q n c).cells.toList = [.slice q n c] := rfl
  rw [e0] at hm
  rcases DataW.trod_slice ht hm with ⟨h1, h2⟩ | ⟨a, len, cap, elems, rest, k, h1, h2, h3, -, -, -, h4, -⟩
  · have h5 : Value.slice q n c = .slice none 0 0 := by simpa using h1
    cases h5
    omega
  · have h5 : Value.slice q n c = .slice (some a) len cap := by simpa using h2
    cases h5
    have h6 : d = .slice (elems.map (·.1)) (rest.map (·.1)) := congrArg Prod.fst h3
    rw [h6] at hw
    unfold DataW.weights at hw
    rw [ht] at hw
    simp only [List.all_cons, Bool.and_eq_true, decide_eq_true_eq, List.length_map, hb, Nat.mul_one] at hw
    have h7 := hw.1
    unfold reachBytes at h7
    omega
end
end Go.Proofs.YtmhnnppcihoofaaDoor.Sl
