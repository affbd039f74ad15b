/-
  The two readings of a line are one; thimblelaw25.ScriptParses.
-/
import Derived.Test.YtpbjkfomdindnaaGreatDoorScRh
import Derived.Test.YtpbjkfomdindnaaGreatDoorScLi
import Derived.Test.YtpbjkfomdindnaaGreatDoorScY
set_option linter.unusedSimpArgs false
set_option linter.unusedVariables false
namespace Go.Proofs.YtpbjkfomdindnaaGreatDoor
open Go.RowKit Go.Shelf Go.Proofs.YtpbjkfomdindnaaGreatDoor.Sl Go.Proofs.YtpbjkfomdindnaaGreatDoor.Jp Go.Proofs.YtpbjkfomdindnaaGreatDoor.Sc

theorem kwS_len : ∀ k : Fin 13, (kwS k.val).length ≤ 20 := by decide +kernel
theorem kwA_len2 : ∀ k : Fin 7, (kwA k.val).length ≤ 20 := by decide +kernel
theorem asked_len1 {s : St} (hp : okN s.pg) (hl : s.od.length ≤ 240) : (joinC 32 (askedW s)).length ≤ 1600 := by
  have hZl : (Lib.itoa s.pg).length ≤ 21 := Lib.itoa_length_le s.pg (by have := hp.1; omega) (by have := hp.2; omega)
  have hDl : (dashL s.od).length ≤ 500 := by unfold dashL; split <;> first | (simp; done) | (rw [hexL_len]; omega)
  have hBl : (bitsL s.bt).length ≤ 16 := by unfold bitsL; rw [hexL_len, beL_len]; omega
  have j1 : (kwA 1).length ≤ 20 := kwA_len2 1
  have j2 : (kwA 2).length ≤ 20 := kwA_len2 2
  have j3 : (kwA 3).length ≤ 20 := kwA_len2 3
  have j4 : (kwA 4).length ≤ 20 := kwA_len2 4
  have j5 : (kwA 5).length ≤ 20 := kwA_len2 5
  have j6 : (kwA 6).length ≤ 20 := kwA_len2 6
  unfold askedW
  repeat' split
  all_goals
    simp only [joinC, List.length_append, List.length_cons]
    omega
theorem line_len {s : St} (h : Plain s) : (lineS s).length ≤ 2000 := by
  obtain ⟨⟨h1, h2⟩, -, -, ha, hb, hp, ho, hd, hf, hx⟩ := h
  have hZa : (Lib.itoa s.a).length ≤ 21 := Lib.itoa_length_le s.a (by have := ha.1; omega) (by have := ha.2; omega)
  have hZb : (Lib.itoa s.b).length ≤ 21 := Lib.itoa_length_le s.b (by have := hb.1; omega) (by have := hb.2; omega)
  have hBl : (bitsL s.bt).length ≤ 16 := by unfold bitsL; rw [hexL_len, beL_len]; omega
  have hDl : (dashL s.da).length ≤ 512 := by unfold dashL; split <;> first | (simp; done) | (rw [hexL_len]; omega)
  have hFl : (fatesL s.fa).length ≤ 352 := by
    unfold fatesL
    have := join_leM (c := 44) (M := 21) (W := s.fa.map Lib.itoa) fun w hw => by
      obtain ⟨x, hx2, rfl⟩ := List.mem_map.1 hw
      have := hx x hx2
      exact Lib.itoa_length_le x (by have := this.1; omega) (by have := this.2; omega)
    rw [List.length_map] at this
    have : s.fa.length * (21 + 1) ≤ 16 * 22 := Nat.mul_le_mul_right _ hf
    omega
  have hAl : (joinC 32 (askedW s)).length ≤ 1600 := by
    exact asked_len1 hp ho
  have k1 : (kwS 1).length ≤ 20 := kwS_len 1
  have k2 : (kwS 2).length ≤ 20 := kwS_len 2
  have k3 : (kwS 3).length ≤ 20 := kwS_len 3
  have k4 : (kwS 4).length ≤ 20 := kwS_len 4
  have k5 : (kwS 5).length ≤ 20 := kwS_len 5
  have k6 : (kwS 6).length ≤ 20 := kwS_len 6
  have k7 : (kwS 7).length ≤ 20 := kwS_len 7
  have k8 : (kwS 8).length ≤ 20 := kwS_len 8
  have k9 : (kwS 9).length ≤ 20 := kwS_len 9
  have k10 : (kwS 10).length ≤ 20 := kwS_len 10
  have k11 : (kwS 11).length ≤ 20 := kwS_len 11
  have k12 : (kwS 12).length ≤ 20 := kwS_len 12
  unfold lineS
  rcases kinds12 h1 h2 with e | e | e | e | e | e | e | e | e | e | e | e
  · have : lineW s = kwS 1 :: Lib.itoa s.a :: askedW s := by unfold lineW; rw [if_pos e]
    rw [this, joinC_cons _ (by simp), joinC_cons _ (askedW_ne s)]
    simp only [List.length_append, List.length_cons]
    omega
  all_goals simp only [lineW, e, reduceIte, Int.reduceEq]
  case inr.inr.inr.inr.inr.inr.inl =>
    split
    all_goals
      simp only [joinC, List.length_append, List.length_cons]
      omega
  all_goals
    simp only [joinC, List.length_append, List.length_cons]
    omega
/-- The program's reading and the document's. -/
theorem readings (l : Bs) : okR l = (parseS l).isSome ∧ eqv (gotL l) (gotR l) := by
  cases h : parseS l with
  | some t =>
    obtain ⟨hw, hp, hl⟩ := parseS_back h
    have hc : eqv (candS l) t := by rw [← hl]; exact cand_line hw hp
    have hr := (rparse_two (l := l) (by rw [← hl]; exact line_len hp)).1 ⟨Plain_eqv (eqv_symm hc) hp, by rw [lineS_eqv hc, hl]⟩
    refine ⟨by rw [hr.2] <;> rfl, ?_⟩
    have hg : gotL l = t := by unfold gotL; rw [h]; rfl
    rw [hr.1, hg]
    exact eqv_symm hc
  | none =>
    have hn : rparse l = none := by
      unfold rparse
      rw [if_neg]
      rintro ⟨-, hp, hl⟩
      have := parseS_of (cand_wf l) hp
      rw [hl, h] at this
      cases this
    have hg : gotL l = st0 := by unfold gotL; rw [h]; rfl
    have hr : gotR l = st0 := by unfold gotR; rw [hn]; rfl
    refine ⟨by unfold okR; rw [hn] <;> rfl, ?_⟩
    rw [hg, hr]
    exact eqv_refl _
theorem errL_ok (l : Bs) : (errL l = 0 ∧ okR l = true) ∨ (errL l = 3 ∧ okR l = false) := by
  have := (readings l).1
  unfold errL
  cases h : parseS l with
  | some t => rw [h] at this; exact .inl ⟨if_neg (by simp), this⟩
  | none => rw [h] at this; exact .inr ⟨if_pos rfl, this⟩
theorem gotR_ok (l : Bs) : SOk (gotR l) := by
  unfold gotR rparse
  split
  · exact ⟨(cand_wf l).od, (cand_wf l).da, (cand_wf l).bt⟩
  · exact ⟨fun x hx => (by cases hx), fun x hx => (by cases hx), (by decide : (0 : Nat) < 18446744073709551616)⟩
section
variable {w0 : World}
set_option maxRecDepth 100000 in
set_option maxHeartbeats 4000000 in
theorem scriptParses_any (l : Bs) (hK : KV w0) : Calls Tryz.prog 3 #[str l] w0 fun e w' => e = .returned (.bool true) ∧ Sat w0 [] w' := by
  have hS := Sat.refl w0
  have HK : Bx (KV w0) := ⟨hK⟩
  clear hK
  by_cases hl : 2000 < l.length
  · go_enter Tryz.func3, Tryz.ntmps3
    go_wp2_with (first | (go_at_call 9; refine Calls.mono (awake_any (HK.out.mono hS.base)) ?_; rintro _ w2 ⟨rfl, h2⟩; replace hS := hS.frame h2; clear h2; (try simp only [List.cons_append, List.nil_append] at hS); simp only [putW]) | (refine load1 hS rfl rfl rfl rfl ?_; simp only [putW]) | (refine loadAll hS rfl rfl rfl ?_ ?_; rfl; simp only [putW]) | (refine loadPart hS rfl rfl rfl ?_ rfl ?_; rfl; simp only [putW]) | (refine store1 hS rfl rfl rfl rfl rfl ?_ ?_; (focus (simp; done)); clear hS; intro w hS; simp only [evW, putW] at hS; try simp only [putW]) | (refine storeAll hS rfl rfl rfl rfl ?_ ?_ ?_ ?_; rfl; (focus (simp [Value.oneCell']; done)); rfl; clear hS; intro w hS; try simp only [putW]) | (refine storeN hS rfl rfl rfl rfl ?_ ?_ ?_ ?_; rfl; (focus (simp [Value.oneCell']; done)); (focus (simp; done)); clear hS; intro w hS; simp at hS; try simp only [putW]) | (refine alloc hS rfl rfl ?_; clear hS; intro mb w hS; simp only [putW]) | (refine box1 hS rfl rfl rfl rfl ?_; clear hS; intro mb w hS; try simp only [evW, putW] at hS; simp only [putW]) | (refine boxN hS rfl rfl rfl ?_; clear hS; intro mb w hS; simp only [putW]))
    go_ret
    exact ⟨rfl, hS⟩
  have HL : Bx (l.length ≤ 900000) := ⟨by omega⟩
  have HO1 : Bx (SOk (gotL l)) := ⟨gotL_ok l⟩
  have HO2 : Bx (SOk (gotR l)) := ⟨gotR_ok l⟩
  have HE : Bx (decide (eqv (gotL l) (gotR l)) = true) := ⟨decide_eq_true (readings l).2⟩
  have hx := errL_ok l
  have HP1 : Bx (∀ w : World, Sat w0 [] w → Calls Tryz.prog 10 #[str l] w fun e w' => ∃ vo vd vf, e = .returned (.tuple #[.agg (stC (gotL l) vo vd vf), .int .i64 (errL l)]) ∧ Sat w (stL (gotL l) vo vd vf) w') := ⟨fun w h => parse_two l (HK.out.mono h.base) HL.out⟩
  have HP2 : Bx (∀ w : World, Sat w0 [] w → Calls Tryz.prog 11 #[str l] w fun e w' => ∃ vo vd vf, e = .returned (.tuple #[.agg (stC (gotR l) vo vd vf), .bool (okR l)]) ∧ Sat w (stL (gotR l) vo vd vf) w') := ⟨fun w h => rparse_any l (HK.out.mono h.base) HL.out⟩
  generalize gotL l = s at HO1 HE HP1
  generalize gotR l = t at HO2 HE HP2
  generalize errL l = er at hx HP1
  generalize okR l = ok at hx HP2
  rcases hx with ⟨rfl, rfl⟩ | ⟨rfl, rfl⟩
  all_goals
    go_enter Tryz.func3, Tryz.ntmps3
    go_wp2_with (first | (guard_target =~ Calls _ 10 _ _ _; refine Stopped.out ?_) | (refine load1 hS rfl rfl rfl rfl ?_; simp only [putW]) | (refine loadAll hS rfl rfl rfl ?_ ?_; rfl; simp only [putW]) | (refine loadPart hS rfl rfl rfl ?_ rfl ?_; rfl; simp only [putW]) | (refine store1 hS rfl rfl rfl rfl rfl ?_ ?_; (focus (simp; done)); clear hS; intro w hS; simp only [evW, putW] at hS; try simp only [putW]) | (refine storeAll hS rfl rfl rfl rfl ?_ ?_ ?_ ?_; rfl; (focus (simp [Value.oneCell']; done)); rfl; clear hS; intro w hS; try simp only [putW]) | (refine storeN hS rfl rfl rfl rfl ?_ ?_ ?_ ?_; rfl; (focus (simp [Value.oneCell']; done)); (focus (simp; done)); clear hS; intro w hS; simp at hS; try simp only [putW]) | (refine alloc hS rfl rfl ?_; clear hS; intro mb w hS; simp only [putW]) | (refine box1 hS rfl rfl rfl rfl ?_; clear hS; intro mb w hS; try simp only [evW, putW] at hS; simp only [putW]) | (refine boxN hS rfl rfl rfl ?_; clear hS; intro mb w hS; simp only [putW]))
    refine ⟨?_⟩
    refine Calls.mono (HP1.out _ hS.nothing) ?_
    rintro _ w ⟨vo, vd, vf, rfl, h2⟩
    replace hS := hS.frame h2
    clear h2
    simp only [stL, List.cons_append, List.nil_append] at hS
    have HC : Bx (∀ u ∈ (stC s vo vd vf).toList, u.oneCell' = true) := ⟨stC_one (Sat.slCell (α := Int) (v := vo) hS) (Sat.slCell (α := Int) (v := vd) hS) (Sat.slCell (α := Int) (v := vf) hS)⟩
    simp only [putW]
    go_wp2_with (first | (guard_target =~ wpList _ _ _ (Oper.mk (some 3) _ _ _ _ _ :: _) _ _; refine alloc hS rfl rfl ?_; clear hS; intro ab w hS; simp only [putW]) | (refine storeAll hS rfl rfl rfl rfl ?_ ?_ ?_ ?_; rfl; (focus (exact HC.out)); rfl; clear hS; intro w hS; try simp only [putW]) | (guard_target =~ Calls _ 11 _ _ _; refine Stopped.out ?_) | (refine load1 hS rfl rfl rfl rfl ?_; simp only [putW]) | (refine loadAll hS rfl rfl rfl ?_ ?_; rfl; simp only [putW]) | (refine loadPart hS rfl rfl rfl ?_ rfl ?_; rfl; simp only [putW]) | (refine store1 hS rfl rfl rfl rfl rfl ?_ ?_; (focus (simp; done)); clear hS; intro w hS; simp only [evW, putW] at hS; try simp only [putW]) | (refine storeAll hS rfl rfl rfl rfl ?_ ?_ ?_ ?_; rfl; (focus (simp [Value.oneCell']; done)); rfl; clear hS; intro w hS; try simp only [putW]) | (refine storeN hS rfl rfl rfl rfl ?_ ?_ ?_ ?_; rfl; (focus (simp [Value.oneCell']; done)); (focus (simp; done)); clear hS; intro w hS; simp at hS; try simp only [putW]) | (refine alloc hS rfl rfl ?_; clear hS; intro mb w hS; simp only [putW]) | (refine box1 hS rfl rfl rfl rfl ?_; clear hS; intro mb w hS; try simp only [evW, putW] at hS; simp only [putW]) | (refine boxN hS rfl rfl rfl ?_; clear hS; intro mb w hS; simp only [putW]))
    refine ⟨?_⟩
    refine Calls.mono (HP2.out _ hS.nothing) ?_
    rintro _ w3 ⟨vo', vd', vf', rfl, h2⟩
    replace hS := hS.frame h2
    clear h2
    simp only [stL, List.cons_append, List.nil_append] at hS
    have HC2 : Bx (∀ u ∈ (stC t vo' vd' vf').toList, u.oneCell' = true) := ⟨stC_one (Sat.slCell (α := Int) (v := vo') hS) (Sat.slCell (α := Int) (v := vd') hS) (Sat.slCell (α := Int) (v := vf') hS)⟩
    simp only [putW]
    go_wp2_with (first | (guard_target =~ wpList _ _ _ (Oper.mk (some 5) _ _ _ _ _ :: _) _ _; refine alloc hS rfl rfl ?_; clear hS; intro bb w hS; simp only [putW]) | (refine storeAll hS rfl rfl rfl rfl ?_ ?_ ?_ ?_; rfl; (focus (exact HC2.out)); rfl; clear hS; intro w hS; try simp only [putW]) | (go_at_call 12; refine Calls.mono (sameS_any ⟨Sat.readsSl (v := vo) hS HO1.out.od, Sat.readsSl (v := vd) hS HO1.out.da, Sat.readsSl (v := vf) hS (fun _ _ => trivial), HO1.out.bt⟩ ⟨Sat.readsSl (v := vo') hS HO2.out.od, Sat.readsSl (v := vd') hS HO2.out.da, Sat.readsSl (v := vf') hS (fun _ _ => trivial), HO2.out.bt⟩ HE.out) ?_; rintro _ w2 ⟨rfl, h2⟩; replace hS := hS.frame h2; clear h2; (try simp only [List.cons_append, List.nil_append] at hS); simp only [putW]) | (go_at_call 9; refine Calls.mono (awake_any (HK.out.mono hS.base)) ?_; rintro _ w2 ⟨rfl, h2⟩; replace hS := hS.frame h2; clear h2; (try simp only [List.cons_append, List.nil_append] at hS); simp only [putW]) | (refine load1 hS rfl rfl rfl rfl ?_; simp only [putW]) | (refine loadAll hS rfl rfl rfl ?_ ?_; rfl; simp only [putW]) | (refine loadPart hS rfl rfl rfl ?_ rfl ?_; rfl; simp only [putW]) | (refine store1 hS rfl rfl rfl rfl rfl ?_ ?_; (focus (simp; done)); clear hS; intro w hS; simp only [evW, putW] at hS; try simp only [putW]) | (refine storeAll hS rfl rfl rfl rfl ?_ ?_ ?_ ?_; rfl; (focus (simp [Value.oneCell']; done)); rfl; clear hS; intro w hS; try simp only [putW]) | (refine storeN hS rfl rfl rfl rfl ?_ ?_ ?_ ?_; rfl; (focus (simp [Value.oneCell']; done)); (focus (simp; done)); clear hS; intro w hS; simp at hS; try simp only [putW]) | (refine alloc hS rfl rfl ?_; clear hS; intro mb w hS; simp only [putW]) | (refine box1 hS rfl rfl rfl rfl ?_; clear hS; intro mb w hS; try simp only [evW, putW] at hS; simp only [putW]) | (refine boxN hS rfl rfl rfl ?_; clear hS; intro mb w hS; simp only [putW]))
    go_ret
    exact ⟨rfl, hS.nothing⟩
end
end Go.Proofs.YtpbjkfomdindnaaGreatDoor
