/-
  thimblelaw14: an act; one act done to a table.
-/
import Derived.Test.YtojdkioimklhmaaLaInv
import Derived.Test.YtojdkioimklhmaaSpPick
import Derived.Test.YtojdkioimklhmaaSlA
import Derived.Deep.CutRange
import Derived.Deep.CutBlock
set_option linter.unusedSimpArgs false
set_option linter.unusedVariables false
namespace Go.Proofs.Ytojdkioimklhmaa
open Go.RowKit Go.Proofs.Ytojdkioimklhmaa.Sl

/-- An act: its kind, task, key, mark. -/
abbrev La := Int × Int × Int × Bool
def laF (x : La) : List Value := [.int .i64 x.1, .int .i64 x.2.1, .int .i64 x.2.2.1, .bool x.2.2.2]
theorem decLa {w : World} {us : List Value} (h : OkL w [.int .i64, .int .i64, .int .i64, .bool] us) : ∃ x : La, laF x = us ∧ True := by
  match us, h with
  | [a, b, c, d], ⟨ha, hb, hc, hd, _⟩ =>
    cases ha; cases hb; cases hc; cases hd
    exact ⟨(_, _, _, _), rfl, trivial⟩
theorem decLas {w : World} {v : Value} (h : OkL w [.sl [.int .i64, .int .i64, .int .i64, .bool]] [v]) : ∃ L : List La, BSl w 4 laF (fun _ => True) L v :=
  toBSl (f := laF) (g := fun _ => True) h.1 (by decide) fun _ hu => decLa hu
/-- An act done. -/
def actP (PL : PLts) (W : Wts) (x : La) : Prop := True
section
variable {w0 w : World} {K : List Chunk} {t i : Nat} {PL : PLts} {W : Wts} {key task : Int} {al : Bool}
theorem freeS_any (hs : Sized PL i) (hi : i ≤ 900) (ha : AllInv PL) (hS : Sat w0 ((t, TabC PL W) :: K) w) : Calls Try.prog 11 #[.pointer (some ⟨t, 0, none⟩), .int .i64 task] w fun e w' => ∃ v PL' W', e = .returned v ∧ Sized PL' (i + 1) ∧ AllInv PL' ∧ Sat w0 ((t, TabC PL' W') :: K) w' := by
  refine (free_pl (fun e he => Nat.le_trans (hs.que e he) (by omega)) (Nat.le_trans hs.num hi) hS).mono ?_
  rintro e w' ⟨v, wk, -, rfl, hS⟩
  exact ⟨v, _, _, rfl, hs.free, ha.free, hS.tail⟩
theorem askS_any (hs : Sized PL i) (hi : i ≤ 900) (ha : AllInv PL) (hS : Sat w0 ((t, TabC PL W) :: K) w) : Calls Try.prog 12 #[.pointer (some ⟨t, 0, none⟩), .int .i64 task, .int .i64 key, .bool al] w fun e w' => ∃ (r : Bool) (n : Int) (PL' : PLts) (W' : Wts), e = .returned (.tuple #[.bool r, .int .i64 n]) ∧ Sized PL' (i + 1) ∧ AllInv PL' ∧ Sat w0 ((t, TabC PL' W') :: K) w' := by
  cases hm : mayAsk PL W task key with
  | false =>
    refine (ask_busy hm hS).mono ?_
    rintro e w' ⟨rfl, hS⟩
    exact ⟨false, 6, PL, W, rfl, hs.up, ha, hS⟩
  | true =>
    have hq := at_que (key := key) hs
    refine (ask_any (al := al) hm (by omega) hS).mono ?_
    rintro e w' ⟨r, l, hr, rfl, hS⟩
    have e2 : l = (askL (atKey PL key) task al).2 := by rw [hr]
    subst e2
    exact ⟨r, 0, _, _, rfl, hs.ask, ha.ask, hS⟩
end
end Go.Proofs.Ytojdkioimklhmaa
