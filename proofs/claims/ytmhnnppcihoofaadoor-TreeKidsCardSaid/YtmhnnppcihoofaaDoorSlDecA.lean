/-
  What comes in, in plain words: arrays of bytes.
-/
import Derived.Test.YtmhnnppcihoofaaDoorSlDec
set_option linter.unusedSimpArgs false
set_option linter.unusedVariables false
namespace Go.Proofs.YtmhnnppcihoofaaDoor
open Go.RowKit Go.Proofs.YtmhnnppcihoofaaDoor.Sl Go.Proofs.YtmhnnppcihoofaaDoor.Jp

theorem decArr {w : World} : ∀ (n : Nat) {us : List Value}, OkL w (List.replicate n (.int .u8)) us → ∃ R : List Int, us = R.map u8v ∧ R.length = n ∧ ∀ x ∈ R, okByte x
  | 0, us, h => by
    match us, h with
    | [], _ => exact ⟨[], rfl, rfl, fun x hx => by cases hx⟩
  | n + 1, us, h => by
    match us, h with
    | u :: us, h =>
      obtain ⟨h1, h2⟩ : Sc.Ok w (.int .u8) u ∧ OkL w (List.replicate n (.int .u8)) us := h
      obtain ⟨R, rfl, hl, hb⟩ := decArr n h2
      obtain ⟨x, hx, hxb⟩ := dec8 (us := [u]) ⟨h1, trivial⟩
      have e : u = u8v x := (List.cons.inj hx).1.symm
      subst e
      refine ⟨x :: R, rfl, by rw [List.length_cons, hl], fun y hy => ?_⟩
      rcases List.mem_cons.1 hy with rfl | hy
      · exact hxb
      · exact hb y hy
theorem decDig {w : World} {v : Value} {n : Nat} (h : ∃ us, v = .agg us.toArray ∧ OkL w (List.replicate n (.int .u8)) us) : ∃ R : List Int, v = .agg (R.map u8v).toArray ∧ R.length = n ∧ ∀ x ∈ R, okByte x := by
  obtain ⟨us, rfl, h2⟩ := h
  obtain ⟨R, rfl, hl, hb⟩ := decArr n h2
  exact ⟨R, rfl, hl, hb⟩
end Go.Proofs.YtmhnnppcihoofaaDoor
