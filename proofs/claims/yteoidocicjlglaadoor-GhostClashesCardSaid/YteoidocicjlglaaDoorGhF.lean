/-
  The whole log: what was hashed, sealed, opened.
-/
import Derived.Test.YteoidocicjlglaaDoorGhT
set_option linter.unusedSimpArgs false
set_option linter.unusedVariables false
namespace Go.Proofs.YteoidocicjlglaaDoor
open Go.RowKit Go.Proofs.YteoidocicjlglaaDoor.Sl Go.Proofs.YteoidocicjlglaaDoor.Sha Go.Proofs.YteoidocicjlglaaDoor.Jp

/-- Tuples of the log's own. -/
def tupL (Y : List TupV) (v : Value) : List Chunk := [(blk v, sl 15 tupF Y 46 v), (1, inn (rowsT Y) 5)]
def TupC (v : Value) (Ss : List Tup) : K := fun _ h => ∃ Y, Y.map (·.2.2) = Ss ∧ holds (tupL Y v) h
/-- The log. -/
def logF (Ps : List (List Int × List Int)) (Ss Os : List Tup) (vs vo : Value) (l : Nat) : List Chunk := [(l, LogG vs vo Ps), (2, TupC vs Ss), (3, TupC vo Os)]
def LogF (Ps : List (List Int × List Int)) (Ss Os : List Tup) : K := fun l h => ∃ vs vo, holds (logF Ps Ss Os vs vo l) h
section
variable {w0 w : World} {K F S : List Chunk} {l j : Nat} {Ps : List (List Int × List Int)} {Ss Os : List Tup} {v vs vo : Value} {Y : List TupV}
theorem openF (hS : Sat w0 ((l, LogF Ps Ss Os) :: F) w) : ∃ vs vo, Sat w0 ((l, LogG vs vo Ps) :: (2, TupC vs Ss) :: (3, TupC vo Os) :: F) w := by
  obtain ⟨vs, hS⟩ := hS.ex (Z := fun (vs : Value) l h => ∃ vo, holds (logF Ps Ss Os vs vo l) h) fun _ h => h
  obtain ⟨vo, hS⟩ := hS.ex (Z := fun (vo : Value) l h => holds (logF Ps Ss Os vs vo l) h) fun _ h => h
  exact ⟨vs, vo, hS.open (T := logF Ps Ss Os vs vo l) fun _ h => h⟩
theorem closeF (hS : Sat w0 ((l, LogG vs vo Ps) :: (2, TupC vs Ss) :: (3, TupC vo Os) :: F) w) : Sat w0 ((l, LogF Ps Ss Os) :: F) w :=
  Sat.close (T := logF Ps Ss Os vs vo l) hS fun _ h => ⟨vs, vo, h⟩
theorem openT (hS : Sat w0 ((j, TupC v Ss) :: F) w) : ∃ Y, Y.map (·.2.2) = Ss ∧ Sat w0 ((blk v, sl 15 tupF Y 46 v) :: (1, inn (rowsT Y) 5) :: F) w := by
  obtain ⟨Y, hS⟩ := hS.ex (Z := fun (Y : List TupV) _ h => Y.map (·.2.2) = Ss ∧ holds (tupL Y v) h) fun _ h => h
  obtain ⟨h1, hS⟩ := hS.and (Y := fun _ h => holds (tupL Y v) h) fun _ h => h
  exact ⟨Y, h1, hS.open (T := tupL Y v) fun _ h => h⟩
theorem closeT (j : Nat) (hY : Y.map (·.2.2) = Ss) (hS : Sat w0 ((blk v, sl 15 tupF Y 46 v) :: (1, inn (rowsT Y) 5) :: F) w) : Sat w0 ((j, TupC v Ss) :: F) w :=
  Sat.close (T := tupL Y v) hS fun _ h => ⟨Y, hY, h⟩
theorem nilT (j : Nat) (hS : Sat w0 F w) : Sat w0 ((j, TupC (.slice none 0 0) []) :: F) w :=
  closeT (Y := []) j rfl ((hS.innNil 1 5).slNil 15 tupF 46)
/-- A log that has seen hashes alone is a log. -/
theorem logF_of (hS : Sat w0 ((l, LogC Ps) :: F) w) : Sat w0 ((l, LogF Ps [] []) :: F) w := by
  have h1 := nilT 3 (nilT 2 hS)
  refine closeF (vs := .slice none 0 0) (vo := .slice none 0 0) (h1.perm ?_)
  exact (List.Perm.swap _ _ _).trans ((List.Perm.cons _ (List.Perm.swap _ _ _)).trans (List.Perm.swap _ _ _)) |>.trans (List.Perm.cons _ (List.Perm.refl _))
end
end Go.Proofs.YteoidocicjlglaaDoor
