/-
  thimblelaw13: acts that come in.
-/
import Derived.Test.YtlkoclalcfeniaaFrGreat
import Derived.Test.YtlkoclalcfeniaaSlDec
set_option linter.unusedSimpArgs false
set_option linter.unusedVariables false
namespace Go.Proofs.Ytlkoclalcfeniaa
open Go.RowKit Go.Proofs.Ytlkoclalcfeniaa.Sl Go.Proofs.Ytlkoclalcfeniaa.Jp

theorem decAct13 {w : World} {us : List Value} (h : OkL w [.int .i64, .int .i64, .int .i64, .sl [.int .u8], .bool, .float .f64] us) : ∃ x : Ac13, acF x = us ∧ AcIn w x := by
  match us, h with
  | [a, b, c, d, e, f], ⟨ha, hb, hc, hd, he, hf, _⟩ =>
    obtain ⟨B, hB⟩ := decBytes (w := w) (v := d) ⟨hd, trivial⟩
    cases ha with
    | int _ n1 _ =>
    cases hb with
    | int _ n2 _ =>
    cases hc with
    | int _ n3 _ =>
    cases he with
    | bool b1 =>
    cases hf with
    | float _ f1 _ => exact ⟨((n1, n2, n3), (d, B), b1, f1), rfl, hB⟩
theorem decActs13 {w : World} {v : Value} (h : OkL w [.sl [.int .i64, .int .i64, .int .i64, .sl [.int .u8], .bool, .float .f64]] [v]) : ∃ L : List Ac13, BSl w 6 acF (AcIn w) L v :=
  toBSl (f := acF) (g := AcIn w) h.1 (by decide) fun _ hu => decAct13 hu
end Go.Proofs.Ytlkoclalcfeniaa
