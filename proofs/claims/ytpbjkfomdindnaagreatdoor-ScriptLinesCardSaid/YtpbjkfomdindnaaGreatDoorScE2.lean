/-
  thimbleref25.Same: printed by program (mksame.py).
-/
import Derived.Test.YtpbjkfomdindnaaGreatDoorScE
set_option linter.unusedSimpArgs false
set_option linter.unusedVariables false
namespace Go.Proofs.YtpbjkfomdindnaaGreatDoor
open Go.RowKit Go.Shelf Go.Proofs.YtpbjkfomdindnaaGreatDoor.Sl Go.Proofs.YtpbjkfomdindnaaGreatDoor.Jp Go.Proofs.YtpbjkfomdindnaaGreatDoor.Sc

/-- A step that can be read: its slices, and its number. -/
structure RSt (w : World) (s : St) (vo vd vf : Value) : Prop where
  od : RB w s.od vo
  da : RB w s.da vd
  fa : RI w s.fa vf
  bt : s.bt < 18446744073709551616
theorem RSt.mono {w w' : World} {s : St} {vo vd vf : Value} (h : RSt w s vo vd vf) (hb : Below w.heap.size w w') : RSt w' s vo vd vf := ⟨h.od.mono hb, h.da.mono hb, h.fa.mono hb, h.bt⟩
section
variable {w0 : World}
set_option maxRecDepth 100000 in
set_option maxHeartbeats 4000000 in
theorem sameS_any {s t : St} {vo vd vf vo' vd' vf' : Value} {r : Bool} (hs : RSt w0 s vo vd vf) (ht : RSt w0 t vo' vd' vf') (hr : decide (eqv s t) = r) :
    Calls Tryz.prog 12 #[.agg (stC s vo vd vf), .agg (stC t vo' vd' vf')] w0 fun e w' => e = .returned (.bool r) ∧ Sat w0 [] w' := by
  have hS := Sat.refl w0
  have HS : Bx (RSt w0 s vo vd vf) := ⟨hs⟩
  have HT : Bx (RSt w0 t vo' vd' vf') := ⟨ht⟩
  clear hs ht
  have HR : Bx (decide (eqv s t) = r) := ⟨hr⟩
  clear hr
  obtain ⟨s0, s1, s2, s3, s4, s5, s6, s7, s8⟩ := s
  obtain ⟨t0, t1, t2, t3, t4, t5, t6, t7, t8⟩ := t
  by_cases h0 : s0 = t0
  · have q0 : (s0 == t0) = true := beq_iff_eq.2 h0
    by_cases h1 : s1 = t1
    · have q1 : (s1 == t1) = true := beq_iff_eq.2 h1
      by_cases h2 : s2 = t2
      · have q2 : (s2 == t2) = true := beq_iff_eq.2 h2
        by_cases ho : s3 = t3 ∧ s4 = t4 ∧ s5 = t5 ∧ canB s6 = canB t6
        · have hop : decide (s3 = t3 ∧ s4 = t4 ∧ s5 = t5 ∧ canB s6 = canB t6) = true := decide_eq_true ho
          have hda : ∀ w, Sat w0 [] w → Calls Tryz.prog 33 #[vd, vd'] w fun e w' => e = .returned (.bool (decide (s7 = t7))) ∧ Sat w [] w' := fun w h => same_any (HS.out.da.mono h.base) (HT.out.da.mono h.base)
          by_cases hd : s7 = t7
          · rw [decide_eq_true hd] at hda
            have hfa : ∀ w, Sat w0 [] w → Calls Tryz.prog 34 #[vf, vf'] w fun e w' => e = .returned (.bool (decide (s8 = t8))) ∧ Sat w [] w' := fun w h => sameInts_any (HS.out.fa.mono h.base) (HT.out.fa.mono h.base)
            by_cases hf : s8 = t8
            · rw [decide_eq_true hf] at hfa
              have HR2 : Bx (r = true) := ⟨by rw [← HR.out]; exact decide_eq_true ⟨h0, h1, h2, ho.1, ho.2.1, ho.2.2.1, ho.2.2.2, hd, hf⟩⟩
              clear HR h0 h1 h2 ho hd hf
              go_enter Tryz.func12, Tryz.ntmps12
              go_wp2_with (first | (go_at_call 32; refine Calls.mono (sameOp_any (HS.out.od.mono hS.base) (HT.out.od.mono hS.base) HS.out.bt HT.out.bt hop) ?_; rintro _ w2 ⟨rfl, h2⟩; replace hS := hS.frame h2; clear h2; (try simp only [List.cons_append, List.nil_append] at hS); simp only [putW]) | (go_at_call 33; refine Calls.mono (hda _ hS.nothing) ?_; rintro _ w2 ⟨rfl, h2⟩; replace hS := hS.frame h2; clear h2; (try simp only [List.cons_append, List.nil_append] at hS); simp only [putW]) | (go_at_call 34; refine Calls.mono (hfa _ hS.nothing) ?_; rintro _ w2 ⟨rfl, h2⟩; replace hS := hS.frame h2; clear h2; (try simp only [List.cons_append, List.nil_append] at hS); simp only [putW]) | (refine load1 hS rfl rfl rfl rfl ?_; simp only [putW]) | (refine loadPart hS rfl rfl rfl ?_ rfl ?_; rfl; simp only [putW]) | (refine boxN hS rfl rfl rfl ?_; clear hS; intro mb w hS; simp only [putW]))
              go_ret
              exact ⟨by rw [HR2.out]; rfl, hS.nothing⟩
            · rw [decide_eq_false hf] at hfa
              have HR2 : Bx (r = false) := ⟨by rw [← HR.out]; exact decide_eq_false fun h => hf h.2.2.2.2.2.2.2.2⟩
              clear HR h0 h1 h2 ho hd hf
              go_enter Tryz.func12, Tryz.ntmps12
              go_wp2_with (first | (go_at_call 32; refine Calls.mono (sameOp_any (HS.out.od.mono hS.base) (HT.out.od.mono hS.base) HS.out.bt HT.out.bt hop) ?_; rintro _ w2 ⟨rfl, h2⟩; replace hS := hS.frame h2; clear h2; (try simp only [List.cons_append, List.nil_append] at hS); simp only [putW]) | (go_at_call 33; refine Calls.mono (hda _ hS.nothing) ?_; rintro _ w2 ⟨rfl, h2⟩; replace hS := hS.frame h2; clear h2; (try simp only [List.cons_append, List.nil_append] at hS); simp only [putW]) | (go_at_call 34; refine Calls.mono (hfa _ hS.nothing) ?_; rintro _ w2 ⟨rfl, h2⟩; replace hS := hS.frame h2; clear h2; (try simp only [List.cons_append, List.nil_append] at hS); simp only [putW]) | (refine load1 hS rfl rfl rfl rfl ?_; simp only [putW]) | (refine loadPart hS rfl rfl rfl ?_ rfl ?_; rfl; simp only [putW]) | (refine boxN hS rfl rfl rfl ?_; clear hS; intro mb w hS; simp only [putW]))
              go_ret
              exact ⟨by rw [HR2.out]; rfl, hS.nothing⟩
          · rw [decide_eq_false hd] at hda
            have HR2 : Bx (r = false) := ⟨by rw [← HR.out]; exact decide_eq_false fun h => hd h.2.2.2.2.2.2.2.1⟩
            clear HR h0 h1 h2 ho hd
            go_enter Tryz.func12, Tryz.ntmps12
            go_wp2_with (first | (go_at_call 32; refine Calls.mono (sameOp_any (HS.out.od.mono hS.base) (HT.out.od.mono hS.base) HS.out.bt HT.out.bt hop) ?_; rintro _ w2 ⟨rfl, h2⟩; replace hS := hS.frame h2; clear h2; (try simp only [List.cons_append, List.nil_append] at hS); simp only [putW]) | (go_at_call 33; refine Calls.mono (hda _ hS.nothing) ?_; rintro _ w2 ⟨rfl, h2⟩; replace hS := hS.frame h2; clear h2; (try simp only [List.cons_append, List.nil_append] at hS); simp only [putW]) | (refine load1 hS rfl rfl rfl rfl ?_; simp only [putW]) | (refine loadPart hS rfl rfl rfl ?_ rfl ?_; rfl; simp only [putW]) | (refine boxN hS rfl rfl rfl ?_; clear hS; intro mb w hS; simp only [putW]))
            go_ret
            exact ⟨by rw [HR2.out]; rfl, hS.nothing⟩
        · have hop : decide (s3 = t3 ∧ s4 = t4 ∧ s5 = t5 ∧ canB s6 = canB t6) = false := decide_eq_false ho
          have HR2 : Bx (r = false) := ⟨by rw [← HR.out]; exact decide_eq_false fun h => ho ⟨h.2.2.2.1, h.2.2.2.2.1, h.2.2.2.2.2.1, h.2.2.2.2.2.2.1⟩⟩
          clear HR h0 h1 h2 ho
          go_enter Tryz.func12, Tryz.ntmps12
          go_wp2_with (first | (go_at_call 32; refine Calls.mono (sameOp_any (HS.out.od.mono hS.base) (HT.out.od.mono hS.base) HS.out.bt HT.out.bt hop) ?_; rintro _ w2 ⟨rfl, h2⟩; replace hS := hS.frame h2; clear h2; (try simp only [List.cons_append, List.nil_append] at hS); simp only [putW]) | (refine load1 hS rfl rfl rfl rfl ?_; simp only [putW]) | (refine loadPart hS rfl rfl rfl ?_ rfl ?_; rfl; simp only [putW]) | (refine boxN hS rfl rfl rfl ?_; clear hS; intro mb w hS; simp only [putW]))
          go_ret
          exact ⟨by rw [HR2.out]; rfl, hS.nothing⟩
      · have q2 : (s2 == t2) = false := by simpa using h2
        have HR2 : Bx (r = false) := ⟨by rw [← HR.out]; exact decide_eq_false fun h => h2 h.2.2.1⟩
        clear HR h0 h1 h2
        go_enter Tryz.func12, Tryz.ntmps12
        go_wp2_with (first | (refine load1 hS rfl rfl rfl rfl ?_; simp only [putW]) | (refine boxN hS rfl rfl rfl ?_; clear hS; intro mb w hS; simp only [putW]))
        go_ret
        exact ⟨by rw [HR2.out]; rfl, hS.nothing⟩
    · have q1 : (s1 == t1) = false := by simpa using h1
      have HR2 : Bx (r = false) := ⟨by rw [← HR.out]; exact decide_eq_false fun h => h1 h.2.1⟩
      clear HR h0 h1
      go_enter Tryz.func12, Tryz.ntmps12
      go_wp2_with (first | (refine load1 hS rfl rfl rfl rfl ?_; simp only [putW]) | (refine boxN hS rfl rfl rfl ?_; clear hS; intro mb w hS; simp only [putW]))
      go_ret
      exact ⟨by rw [HR2.out]; rfl, hS.nothing⟩
  · have q0 : (s0 == t0) = false := by simpa using h0
    have HR2 : Bx (r = false) := ⟨by rw [← HR.out]; exact decide_eq_false fun h => h0 h.1⟩
    clear HR h0
    go_enter Tryz.func12, Tryz.ntmps12
    go_wp2_with (first | (refine load1 hS rfl rfl rfl rfl ?_; simp only [putW]) | (refine boxN hS rfl rfl rfl ?_; clear hS; intro mb w hS; simp only [putW]))
    go_ret
    exact ⟨by rw [HR2.out]; rfl, hS.nothing⟩
end
end Go.Proofs.YtpbjkfomdindnaaGreatDoor
