/-
  script.form.ask and step of a line.
-/
import Derived.Test.YtpbjkfomdindnaaGreatDoorScO
set_option linter.unusedSimpArgs false
set_option linter.unusedVariables false
namespace Go.Proofs.YtpbjkfomdindnaaGreatDoor
open Go.RowKit Go.Shelf Go.Proofs.YtpbjkfomdindnaaGreatDoor.Sl Go.Proofs.YtpbjkfomdindnaaGreatDoor.Jp Go.Proofs.YtpbjkfomdindnaaGreatDoor.Sc

abbrev nilV : Value := .slice none 0 0
/-- A step's cells. -/
abbrev stC (s : St) (vo vd vf : Value) : Array Value := #[.int .i64 s.kind, .int .i64 s.a, .int .i64 s.b, .int .i64 s.okd, .int .i64 s.pg, vo, .float .f64 s.bt, vd, vf]
section
variable {w0 w : World} {S F K : List Chunk} {W : List Bs} {fb sb : Nat} {c : Array Value} {tb : TypeId}
theorem choice_ok {L : List Bs} {gl n off : Nat} {m : Int} {W' : List Bs} (h : takeW (choiceW L) W = some (m, W')) (hn : L.length = n) (h1n : 1 ≤ n) (hn2 : n ≤ 100) (hoff : off < c.size) (hS : Sat w0 ((gl, slc 1 strF L n 9) :: (fb, frm W) :: (sb, cells c tb) :: K) w) :
    Calls Tryz.prog 48 #[.pointer (some ⟨fb, 0, none⟩), .pointer (some ⟨sb, off, none⟩), .slice (some ⟨gl, 0, none⟩) n n] w fun e w' => e = .returned (.tuple #[]) ∧ Sat w0 ((fb, frm W') :: (sb, cells (c.setIfInBounds off (.int .i64 m)) tb) :: K) w' :=
  (choice_parse (tb := tb) hn h1n hn2 hoff hS.conv).mono fun e w' h2 => by
    rcases h2 with ⟨m2, W2, h3, rfl, hS⟩ | ⟨h3, rfl, hS⟩
    · rw [h] at h3; cases h3; exact ⟨rfl, hS⟩
    · rw [h] at h3; cases h3
theorem choice_no {L : List Bs} {gl n off : Nat} (h : takeW (choiceW L) W = none) (hn : L.length = n) (h1n : 1 ≤ n) (hn2 : n ≤ 100) (hoff : off < c.size) (hS : Sat w0 ((gl, slc 1 strF L n 9) :: (fb, frm W) :: (sb, cells c tb) :: K) w) :
    Calls Tryz.prog 48 #[.pointer (some ⟨fb, 0, none⟩), .pointer (some ⟨sb, off, none⟩), .slice (some ⟨gl, 0, none⟩) n n] w fun e w' => e = .panicked badP ∧ Sat w0 K w' :=
  (choice_parse (tb := tb) hn h1n hn2 hoff hS.conv).mono fun e w' h2 => by
    rcases h2 with ⟨m2, W2, h3, rfl, hS⟩ | ⟨h3, rfl, hS⟩
    · rw [h] at h3; cases h3
    · exact ⟨rfl, hS⟩
theorem asks_range {k : Int} {W W' : List Bs} (h : takeW (choiceW asksL) W = some (k, W')) : 1 ≤ k ∧ k ≤ 6 := by
  obtain ⟨w, rfl, hw⟩ := takeW_back h
  obtain ⟨h1, h2, -⟩ := choice_back hw
  have : asksL.length = 7 := rfl
  omega
theorem steps_range {k : Int} {W W' : List Bs} (h : takeW (choiceW stepsL) W = some (k, W')) : 1 ≤ k ∧ k ≤ 12 := by
  obtain ⟨w, rfl, hw⟩ := takeW_back h
  obtain ⟨h1, h2, -⟩ := choice_back hw
  have : stepsL.length = 13 := rfl
  omega
set_option maxRecDepth 100000 in
set_option maxHeartbeats 4000000 in
theorem ask_parse {s : St} {vd vf : Value} (hK : KV w0) (hs : s.od = []) (hS : Sat w0 ((fb, frm W) :: (sb, cells (stC s nilV vd vf) 29) :: K) w) :
    Calls Tryz.prog 54 #[.pointer (some ⟨fb, 0, none⟩), .pointer (some ⟨sb, 3, none⟩)] w fun e w' =>
      (∃ s' W' vo, askP s W = some (s', W') ∧ e = .returned (.tuple #[]) ∧ Sat w0 ((fb, frm W') :: (sb, cells (stC s' vo vd vf) 29) :: (blk vo, sl 1 by8 s'.od 5 vo) :: K) w') ∨ (askP s W = none ∧ e = .panicked badP ∧ Sat w0 K w') := by
  have HK : Bx _ := ⟨hK⟩
  clear hK
  obtain ⟨kind, a, b, okd, pg, od, bt, da, fa⟩ := s
  simp only at hs
  subst hs
  cases hch : takeW (choiceW asksL) W with
  | none =>
    have HN : Bx (askP ⟨kind, a, b, okd, pg, [], bt, da, fa⟩ W = none) := ⟨by unfold askP; rw [hch]; rfl⟩
    go_enter Tryz.func54, Tryz.ntmps54
    go_upto_region 0 with (refine load1 hS rfl rfl rfl rfl ?_; simp only [putW])
    (refine wp_region_held (S := fun w' => Sat w0 ((fb, frm W) :: (sb, cells (stC ⟨kind, a, b, okd, pg, [], bt, da, fa⟩ nilV vd vf) 29) :: K) w') (by kernel_rfl) ?_; replace hS := hS.drew; (refine takeIf (i := 0) rfl (by kernel_rfl) (fun _ _ _ h => h) (yMove rfl rfl rfl) hS.conv ?_; simp only [evW, putW]); (refine takeIf (i := 1) rfl (by kernel_rfl) (fun _ _ _ h => h) (yMove rfl rfl rfl) hS.conv ?_; simp only [evW, putW]); (apply takeIf (i := 2) rfl (by kernel_rfl) (fun _ _ _ h => h); (focus (apply yRun rfl; intro w; first | (go_simp; done) | (go_simp; rfl))); (focus (exact hS.conv)); simp only [putW]); (apply takeIf (i := 3) rfl (by kernel_rfl) (fun _ _ _ h => h); (focus (apply yRun rfl; intro w; first | (go_simp; done) | (go_simp; rfl))); (focus (exact hS.conv)); simp only [putW]); refine wpAnyH_all (rs := [4]) (by kernel_rfl) (by simp) ?_; intro i hi; simp only [List.mem_cons, List.not_mem_nil, or_false] at hi; subst hi; refine wpOp_of_list rfl ?_; go_wp2_with (go_at_call 81; refine Calls.mono (asks_any) ?_; rintro _ w2 ⟨gl, rfl, h2⟩; replace hS := hS.frame h2; clear h2; (try simp only [List.cons_append, List.nil_append] at hS); simp only [putW]); refine ⟨rfl, hS.conv, ?_⟩; refine wpAnyH_all (rs := [5]) (by kernel_rfl) (by simp) ?_; intro i hi; simp only [List.mem_cons, List.not_mem_nil, or_false] at hi; subst hi; refine opPanic rfl rfl Tryz.call48 rfl ?_; refine Calls.mono (choice_no (off := 3) hch rfl (by decide) (by decide) (by simp) hS) ?_; rintro _ w2 ⟨rfl, hS⟩; refine ⟨_, rfl, ?_⟩; (exact ⟨rfl, .inr ⟨HN.out, rfl, hS⟩⟩))
  | some x =>
    obtain ⟨k, W1⟩ := x
    obtain ⟨k1, k2⟩ := asks_range hch
    have hcn : ∀ {gl : Nat} {w : World}, Sat w0 ((gl, slc 1 strF asksL 7 9) :: (fb, frm W) :: (sb, cells (stC ⟨kind, a, b, okd, pg, [], bt, da, fa⟩ nilV vd vf) 29) :: K) w → Calls Tryz.prog 48 #[.pointer (some ⟨fb, 0, none⟩), .pointer (some ⟨sb, 3, none⟩), .slice (some ⟨gl, 0, none⟩) 7 7] w fun e w' => e = .returned (.tuple #[]) ∧ Sat w0 ((fb, frm W1) :: (sb, cells (stC ⟨kind, a, b, k, pg, [], bt, da, fa⟩ nilV vd vf) 29) :: K) w' := fun h => choice_ok (off := 3) hch rfl (by decide) (by decide) (by simp) h
    have HA : Bx (∀ r, askK ⟨kind, a, b, okd, pg, [], bt, da, fa⟩ k W1 = r → askP ⟨kind, a, b, okd, pg, [], bt, da, fa⟩ W = r) := ⟨fun r h => by unfold askP; rw [hch]; exact h⟩
    clear hch
    rcases kinds6 k1 k2 with e | e | e | e | e | e <;> subst e <;> clear k1 k2
    all_goals
      go_enter Tryz.func54, Tryz.ntmps54
      go_upto_region 0 with (refine load1 hS rfl rfl rfl rfl ?_; simp only [putW])
      (refine wp_region_held (S := fun w' => Sat w0 (K) w') (by kernel_rfl) ?_; replace hS := hS.drew; (refine takeIf (i := 0) rfl (by kernel_rfl) (fun _ _ _ h => h) (yMove rfl rfl rfl) hS.conv ?_; simp only [evW, putW]); (refine takeIf (i := 1) rfl (by kernel_rfl) (fun _ _ _ h => h) (yMove rfl rfl rfl) hS.conv ?_; simp only [evW, putW]); (apply takeIf (i := 2) rfl (by kernel_rfl) (fun _ _ _ h => h); (focus (apply yRun rfl; intro w; first | (go_simp; done) | (go_simp; rfl))); (focus (exact hS.conv)); simp only [putW]); (apply takeIf (i := 3) rfl (by kernel_rfl) (fun _ _ _ h => h); (focus (apply yRun rfl; intro w; first | (go_simp; done) | (go_simp; rfl))); (focus (exact hS.conv)); simp only [putW]); refine wpAnyH_all (rs := [4]) (by kernel_rfl) (by simp) ?_; intro i hi; simp only [List.mem_cons, List.not_mem_nil, or_false] at hi; subst hi; refine wpOp_of_list rfl ?_; go_wp2_with (go_at_call 81; refine Calls.mono (asks_any) ?_; rintro _ w2 ⟨gl, rfl, h2⟩; replace hS := hS.frame h2; clear h2; (try simp only [List.cons_append, List.nil_append] at hS); simp only [putW]); refine ⟨rfl, hS.conv, ?_⟩; refine wpAnyH_all (rs := [5]) (by kernel_rfl) (by simp) ?_; intro i hi; simp only [List.mem_cons, List.not_mem_nil, or_false] at hi; subst hi; refine wpOp_of_list rfl ?_; go_wp2_with (go_at_call 48; refine Calls.mono (hcn hS) ?_; clear hS; rintro _ w ⟨rfl, hS⟩; simp only [putW]); refine ⟨rfl, hS.conv, ?_⟩; refine wpAnyH_done (by kernel_rfl) ?_ _; skip)
      clear hcn
    · go_wp2_with (first | (guard_target =~ Calls _ 50 _ _ _; refine Stopped.out ?_) | (refine load1 hS rfl rfl rfl rfl ?_; simp only [putW]))
      refine ⟨?_⟩
      refine Calls.mono (fnum_parse (off := 4) (tb := 29) (HK.out) (by simp) hS) ?_
      clear hS
      rintro _ w (⟨p, W2, hp, rfl, hS⟩ | ⟨hp, rfl, hS⟩)
      · simp only [putW]
        replace hS : Sat w0 ((fb, frm W2) :: (sb, cells (stC ⟨kind, a, b, 1, p, [], bt, da, fa⟩ nilV vd vf) 29) :: K) w := hS
        go_wp2_with (refine load1 hS rfl rfl rfl rfl ?_; simp only [putW])
        go_end0
        exact .inl ⟨⟨kind, a, b, 1, p, [], bt, da, fa⟩, W2, nilV, HA.out _ (by simp [askK, hp]), rfl, Sat.conv (S' := (fb, frm W2) :: (sb, cells (stC ⟨kind, a, b, 1, p, [], bt, da, fa⟩ nilV vd vf) 29) :: (0, sl 1 by8 [] 5 nilV) :: K) (hS.slNil 1 by8 5)⟩
      · exact ⟨rfl, .inr ⟨HA.out _ (by simp [askK, hp]), rfl, hS⟩⟩
    · go_wp2_with (first | (guard_target =~ Calls _ 50 _ _ _; refine Stopped.out ?_) | (refine load1 hS rfl rfl rfl rfl ?_; simp only [putW]))
      refine ⟨?_⟩
      refine Calls.mono (fnum_parse (off := 4) (tb := 29) (HK.out) (by simp) hS) ?_
      clear hS
      rintro _ w (⟨p, W2, hp, rfl, hS⟩ | ⟨hp, rfl, hS⟩)
      · simp only [putW]
        replace hS : Sat w0 ((fb, frm W2) :: (sb, cells (stC ⟨kind, a, b, 2, p, [], bt, da, fa⟩ nilV vd vf) 29) :: K) w := hS
        go_wp2_with (guard_target =~ Calls _ 51 _ _ _; refine Stopped.out ?_)
        refine ⟨?_⟩
        refine Calls.mono (fdata_parse (mx := 240) (off := 5) (tb := 29) (by decide) (by simp) rfl hS) ?_
        clear hS
        rintro _ w (⟨A, v, W3, hd, rfl, hS⟩ | ⟨hd, rfl, hS⟩)
        · simp only [putW]
          replace hS : Sat w0 ((fb, frm W3) :: (sb, cells (stC ⟨kind, a, b, 2, p, A, bt, da, fa⟩ v vd vf) 29) :: (blk v, sl 1 by8 A 5 v) :: K) w := hS
          go_wp2_with (refine load1 hS rfl rfl rfl rfl ?_; simp only [putW])
          go_end0
          exact .inl ⟨⟨kind, a, b, 2, p, A, bt, da, fa⟩, W3, v, HA.out _ (by simp [askK, hp, hd]), rfl, hS⟩
        · exact ⟨rfl, .inr ⟨HA.out _ (by simp [askK, hp, hd]), rfl, hS⟩⟩
      · exact ⟨rfl, .inr ⟨HA.out _ (by simp [askK, hp]), rfl, hS⟩⟩
    · go_wp2_with (refine load1 hS rfl rfl rfl rfl ?_; simp only [putW])
      go_end0
      exact .inl ⟨⟨kind, a, b, 3, pg, [], bt, da, fa⟩, W1, nilV, HA.out _ (by simp [askK]), rfl, Sat.conv (S' := (fb, frm W1) :: (sb, cells (stC ⟨kind, a, b, 3, pg, [], bt, da, fa⟩ nilV vd vf) 29) :: (0, sl 1 by8 [] 5 nilV) :: K) (hS.slNil 1 by8 5)⟩
    · go_wp2_with (refine load1 hS rfl rfl rfl rfl ?_; simp only [putW])
      go_end0
      exact .inl ⟨⟨kind, a, b, 4, pg, [], bt, da, fa⟩, W1, nilV, HA.out _ (by simp [askK]), rfl, Sat.conv (S' := (fb, frm W1) :: (sb, cells (stC ⟨kind, a, b, 4, pg, [], bt, da, fa⟩ nilV vd vf) 29) :: (0, sl 1 by8 [] 5 nilV) :: K) (hS.slNil 1 by8 5)⟩
    · go_wp2_with (first | (guard_target =~ Calls _ 50 _ _ _; refine Stopped.out ?_) | (refine load1 hS rfl rfl rfl rfl ?_; simp only [putW]))
      refine ⟨?_⟩
      refine Calls.mono (fnum_parse (off := 4) (tb := 29) (HK.out) (by simp) hS) ?_
      clear hS
      rintro _ w (⟨p, W2, hp, rfl, hS⟩ | ⟨hp, rfl, hS⟩)
      · simp only [putW]
        replace hS : Sat w0 ((fb, frm W2) :: (sb, cells (stC ⟨kind, a, b, 5, p, [], bt, da, fa⟩ nilV vd vf) 29) :: K) w := hS
        go_wp2_with (guard_target =~ Calls _ 53 _ _ _; refine Stopped.out ?_)
        refine ⟨?_⟩
        refine Calls.mono (fbits_parse (off := 6) (tb := 29) (by simp) hS) ?_
        clear hS
        rintro _ w (⟨n, W3, hd, rfl, hS⟩ | ⟨hd, rfl, hS⟩)
        · simp only [putW]
          replace hS : Sat w0 ((fb, frm W3) :: (sb, cells (stC ⟨kind, a, b, 5, p, [], n, da, fa⟩ nilV vd vf) 29) :: K) w := hS
          go_wp2_with (refine load1 hS rfl rfl rfl rfl ?_; simp only [putW])
          go_end0
          exact .inl ⟨⟨kind, a, b, 5, p, [], n, da, fa⟩, W3, nilV, HA.out _ (by simp [askK, hp, hd]), rfl, Sat.conv (S' := (fb, frm W3) :: (sb, cells (stC ⟨kind, a, b, 5, p, [], n, da, fa⟩ nilV vd vf) 29) :: (0, sl 1 by8 [] 5 nilV) :: K) (hS.slNil 1 by8 5)⟩
        · exact ⟨rfl, .inr ⟨HA.out _ (by simp [askK, hp, hd]), rfl, hS⟩⟩
      · exact ⟨rfl, .inr ⟨HA.out _ (by simp [askK, hp]), rfl, hS⟩⟩
    · go_wp2_with (refine load1 hS rfl rfl rfl rfl ?_; simp only [putW])
      go_end0
      exact .inl ⟨⟨kind, a, b, 6, pg, [], bt, da, fa⟩, W1, nilV, HA.out _ (by simp [askK]), rfl, Sat.conv (S' := (fb, frm W1) :: (sb, cells (stC ⟨kind, a, b, 6, pg, [], bt, da, fa⟩ nilV vd vf) 29) :: (0, sl 1 by8 [] 5 nilV) :: K) (hS.slNil 1 by8 5)⟩
end
end Go.Proofs.YtpbjkfomdindnaaGreatDoor
