/-
  FramesPlays: any act done to both tables.
-/
import Derived.Test.YtlkoclalcfeniaaFrDA
import Derived.Test.YtlkoclalcfeniaaFrDB
import Derived.Test.YtlkoclalcfeniaaFrDC
set_option linter.unusedSimpArgs false
set_option linter.unusedVariables false
namespace Go.Proofs.Ytlkoclalcfeniaa
open Go.RowKit Go.Shelf Go.Proofs.Ytlkoclalcfeniaa.Sl Go.Proofs.Ytlkoclalcfeniaa.Jp

theorem do_any {w0 w : World} {K : List Chunk} {t x i : Nat} {T : Tb} {kd tk ky : Int} {vB : Value} {wr : Bool} {bts : Nat} {B : List Int} (hRB : RB w0 B vB) (hBl : B.length ≤ 1000) (ho : okI tk ∧ okI ky) (hi : i ≤ 200) (hb : Bth w0 T t x i K w) : Calls Try.prog 27 #[.agg (pairC t x), .agg (actC kd tk ky vB wr bts)] w fun e w' => e = .returned (.bool true) ∧ Bth w0 T t x (i + 1) K w' := by
  have hB : vB.oneCell' = true := by
    obtain ⟨a, c, h6, -⟩ := hRB.at
    rw [h6]
    rfl
  obtain ⟨FL, PW, SL, now, sp, X, h, hS⟩ := hb
  have hq : kd % 9 = 0 ∨ kd % 9 = 1 ∨ kd % 9 = 2 ∨ kd % 9 = 3 ∨ kd % 9 = 4 ∨ kd % 9 = 5 ∨ kd % 9 = 6 ∨ kd % 9 = 7 ∨ kd % 9 = 8 := by omega
  rcases hq with hq | hq | hq
  · exact do_0 hq h hi hB hS
  · exact do_1 hq h hi hB hS
  · have hf := h.1.fr ky
    rcases at_cases X.l ky with ⟨ha, hx⟩ | ⟨j, e, ha, hj, he, hx⟩
    · have hn : mget FL ky = none := by
        rw [hx] at hf
        cases hg : mget FL ky with
        | none => rfl
        | some f => rw [hg] at hf; cases hf
      by_cases hm : (FL.length : Int) < T.most
      · rcases hq with hq | hq | hq | hq | hq | hq | hq
        · exact do_2n hRB hBl ho.2 hn hm ha hq h hi hB hS
        · exact do_3n hRB hBl ho.2 hn hm ha hq h hi hB hS
        · exact do_4n hn ha hq h hi hB hS
        · exact do_5n hn ha hq h hi hB hS
        · exact do_6n hn ha hq h hi hB hS
        · exact do_7n hn ha hq h hi hB hS
        · exact do_8n hn ha hq h hi hB hS
      · rcases hq with hq | hq | hq | hq | hq | hq | hq
        · exact do_2f hRB hBl hn hm ha hq h hi hB hS
        · exact do_3f hRB hBl hn hm ha hq h hi hB hS
        · exact do_4n hn ha hq h hi hB hS
        · exact do_5n hn ha hq h hi hB hS
        · exact do_6n hn ha hq h hi hB hS
        · exact do_7n hn ha hq h hi hB hS
        · exact do_8n hn ha hq h hi hB hS
    · obtain ⟨ek, va, A, bb⟩ := e
      have he' : ek = ky := he
      subst he'
      rw [hx] at hf
      cases hg : mget FL ek with
      | none => rw [hg] at hf; cases hf
      | some f =>
        obtain ⟨xa, xv, A2, b2⟩ := f
        rw [hg] at hf
        have hf2 : ((A2, b2) : List Int × Bool) = (A, bb) := Option.some.inj hf
        cases hf2
        have hsome : (mget FL ek).isSome = true := by rw [hg]; rfl
        rcases hq with hq | hq | hq | hq | hq | hq | hq
        · exact do_2o hRB hBl hg hj ha hq h hi hB hS
        · exact do_3o hRB hBl hg hj ha hq h hi hB hS
        · exact do_4 hg hj ha hq h hi hB hS
        · exact do_5 hg hj ha hq h hi hB hS
        · cases hp : pinX X.pins ek with
          | true => exact do_6b hsome hp ha hq h hi hB hS
          | false => exact do_6 hsome hp hj rfl ha hq h hi hB hS
        · exact do_7 ho hsome ha hq h hi hB hS
        · exact do_8 hsome ha hq h hi hB hS
end Go.Proofs.Ytlkoclalcfeniaa
