/-
  LatchPlays: Free and Ask of both tables, tied.
-/
import Derived.Test.YtojdkioimklhmaaLaRefD
set_option linter.unusedSimpArgs false
set_option linter.unusedVariables false
namespace Go.Proofs.Ytojdkioimklhmaa
open Go.RowKit Go.Proofs.Ytojdkioimklhmaa.Sl

/-- What an Ask answered. -/
def Asked (PL : PLts) (W : Wts) (task key : Int) (al r : Bool) (n : Int) (PL' : PLts) (W' : Wts) : Prop :=
  (mayAsk PL W task key = false ∧ r = false ∧ n = 6 ∧ PL' = PL ∧ W' = W) ∨ (mayAsk PL W task key = true ∧ n = 0 ∧ ∃ l, askL (atKey PL key) task al = (r, l) ∧ PL' = mput PL key l ∧ W' = if r then W else mput W task key)
section
variable {w0 w : World} {K : List Chunk} {t x i : Nat} {X : XR} {PL PL' : PLts} {W W' : Wts} {key task n : Int} {al r : Bool} {wk : List Int}
theorem freeT_any (h : TieX X PL W i) (hi : i ≤ 900) (hS : Sat w0 ((t, TabC PL W) :: K) w) : Calls Try.prog 11 #[.pointer (some ⟨t, 0, none⟩), .int .i64 task] w fun e w' => ∃ v wk, e = .returned v ∧ Bx (wk.Perm (wokenP task PL) ∧ (mkeys PL).Nodup) ∧ Sat w0 ((blk v, sl 1 i64 (sortI (wokenP task PL)) 3 v) :: (t, TabC (freeAll task PL) (unwait (mdel W task) wk)) :: K) w' := by
  have hn := (tab_nodup hS).1
  refine (free_pl (fun e he => Nat.le_trans (h.sz.que e he) (by omega)) (Nat.le_trans h.sz.num hi) hS).mono ?_
  rintro e w' ⟨v, wk, hwk, rfl, hS⟩
  exact ⟨v, wk, rfl, ⟨hwk, hn⟩, hS⟩
theorem freeR_any (h : TieX X PL W i) (hi : i ≤ 900) (hw : wk.Perm (wokenP task PL) ∧ (mkeys PL).Nodup) (hS : Sat w0 ((x, XtC X) :: K) w) : Calls Try.prog 16 #[.pointer (some ⟨x, 0, none⟩), .int .i64 task] w fun e w' => ∃ v X', e = .returned v ∧ Bx (TieX X' (freeAll task PL) (unwait (mdel W task) wk) (i + 1)) ∧ Sat w0 ((blk v, sl 1 i64 (sortI (wokenP task PL)) 3 v) :: (x, XtC X') :: K) w' := by
  refine (refFree_any (task := task) (Nat.le_trans h.sx hi) hS).mono ?_
  rintro e w' ⟨v, out, X', rfl, HT, hS⟩
  obtain ⟨h1, h2⟩ := h.free HT.out.1 HT.out.2 hw.2 hw.1
  rw [sortI_of_perm h1] at hS
  exact ⟨v, X', rfl, ⟨h2⟩, hS⟩
theorem askT_any (h : TieX X PL W i) (hi : i ≤ 900) (hS : Sat w0 ((t, TabC PL W) :: K) w) : Calls Try.prog 12 #[.pointer (some ⟨t, 0, none⟩), .int .i64 task, .int .i64 key, .bool al] w fun e w' => ∃ (r : Bool) (n : Int) (PL' : PLts) (W' : Wts), e = .returned (.tuple #[.bool r, .int .i64 n]) ∧ Bx (Asked PL W task key al r n PL' W') ∧ Sat w0 ((t, TabC PL' W') :: K) w' := by
  cases hm : mayAsk PL W task key with
  | false =>
    refine (ask_busy hm hS).mono ?_
    rintro e w' ⟨rfl, hS⟩
    exact ⟨false, 6, PL, W, rfl, ⟨.inl ⟨hm, rfl, rfl, rfl, rfl⟩⟩, hS⟩
  | true =>
    have hq := at_que (key := key) h.sz
    refine (ask_any (al := al) hm (by omega) hS).mono ?_
    rintro e w' ⟨r, l, hr, rfl, hS⟩
    exact ⟨r, 0, _, _, rfl, ⟨.inr ⟨hm, rfl, l, hr, rfl, rfl⟩⟩, hS⟩
theorem askR_any (h : TieX X PL W i) (hi : i + 1 ≤ 900) (ha : Asked PL W task key al r n PL' W') (hS : Sat w0 ((x, XtC X) :: K) w) : Calls Try.prog 17 #[.pointer (some ⟨x, 0, none⟩), .int .i64 task, .int .i64 key, .bool al] w fun e w' => ∃ X', e = .returned (.tuple #[.bool r, .int .i64 n]) ∧ Bx (TieX X' PL' W' (i + 1)) ∧ Sat w0 ((x, XtC X') :: K) w' := by
  rcases ha with ⟨hm, rfl, rfl, rfl, rfl⟩ | ⟨hm, rfl, l, hr, rfl, rfl⟩
  · have hb : (waitsX X.queue task).isSome = true ∨ 0 < holdsX X.has task key := by
      rw [h.waits, h.holds]
      unfold mayAsk at hm
      simp only [Bool.and_eq_false_iff, Bool.not_eq_false', decide_eq_true_eq] at hm
      exact hm
    refine (refAsk_busy hb hS).mono ?_
    rintro e w' ⟨rfl, hS⟩
    exact ⟨X, rfl, ⟨h.up⟩, hS⟩
  · have hb : (waitsX X.queue task).isSome = false ∧ ¬ 0 < holdsX X.has task key := by
      rw [h.waits, h.holds]
      unfold mayAsk at hm
      simpa using hm
    have hx := h.sx
    refine (refAsk_any (al := al) hb.1 hb.2 (by omega) hS).mono ?_
    rintro e w' ⟨out, X', rfl, HT, hS⟩
    obtain ⟨h1, h2⟩ := h.ask hm hr HT.out.1 HT.out.2
    exact ⟨X', by rw [h1], ⟨h2⟩, hS⟩
theorem xtNew (h : Sat w0 ((x, cells #[.slice none 0 0, .slice none 0 0] 42) :: K) w) : Sat w0 ((x, XtC ⟨[], []⟩) :: K) w := by
  have h1 := (h.slNil 3 waF 69).slNil 3 waF 69
  have h2 : Sat w0 ((x, cells #[.slice none 0 0, .slice none 0 0] 42) :: (blk (.slice none 0 0), sl 3 waF [] 69 (.slice none 0 0)) :: (blk (.slice none 0 0), sl 3 waF [] 69 (.slice none 0 0)) :: K) w := h1.perm (((List.Perm.swap _ _ _).cons _).trans (List.Perm.swap _ _ _ |>.trans ((List.Perm.swap _ _ _).cons _)) |>.trans (by exact List.Perm.refl _))
  exact xtShut (X := ⟨[], []⟩) h2
end
end Go.Proofs.Ytojdkioimklhmaa
