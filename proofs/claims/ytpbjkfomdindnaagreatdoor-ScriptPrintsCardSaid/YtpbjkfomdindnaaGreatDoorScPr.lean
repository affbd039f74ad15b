/-
  thimblelaw25.ScriptPrints, over script.same.
-/
import Derived.Test.YtpbjkfomdindnaaGreatDoorScPl
import Derived.Test.YtpbjkfomdindnaaGreatDoorScRY
set_option linter.unusedSimpArgs false
set_option linter.unusedVariables false
namespace Go.Proofs.YtpbjkfomdindnaaGreatDoor
open Go.RowKit Go.Shelf Go.Proofs.YtpbjkfomdindnaaGreatDoor.Sl Go.Proofs.YtpbjkfomdindnaaGreatDoor.Jp Go.Proofs.YtpbjkfomdindnaaGreatDoor.Sc

section
variable {w0 : World} {s : St} {vo vd vf : Value}
set_option maxRecDepth 100000 in
set_option maxHeartbeats 4000000 in
theorem scriptPrints_any (hsame : SameTells) (hK : KV w0) (hR : RSt w0 s vo vd vf) :
    Calls Tryz.prog 6 #[.agg (stC s vo vd vf)] w0 fun e w' => e = .returned (.bool true) ∧ Sat w0 [] w' := by
  have hS := Sat.refl w0
  have HK : Bx (KV w0) := ⟨hK⟩
  have HQ : Bx SameTells := ⟨hsame⟩
  have HR : Bx (RSt w0 s vo vd vf) := ⟨hR⟩
  have HW : Bx (Wf s) := ⟨hR.wf⟩
  obtain ⟨po, co, rfl, -⟩ := BSl.at hR.od
  obtain ⟨pd, cd, rfl, -⟩ := BSl.at hR.da
  obtain ⟨pq, cf, rfl, -⟩ := BSl.at hR.fa
  clear hK hR hsame
  have HT : Bx ((printS s = some (rprintS s) ∧ decide (Plain s) = true) ∨ (printS s = none ∧ rprintS s = [] ∧ decide (Plain s) = false)) := ⟨by
    rw [printS_eq HW.out]
    unfold rprintS
    by_cases h : Plain s
    · exact .inl ⟨by rw [if_pos h, if_pos h], decide_eq_true h⟩
    · exact .inr ⟨by rw [if_neg h], by rw [if_neg h], decide_eq_false h⟩⟩
  go_enter Tryz.func6, Tryz.ntmps6
  go_wp2_with (first | (guard_target =~ wpList _ _ _ (Oper.mk (some 1) _ _ _ _ _ :: _) _ _; refine boxN hS rfl rfl rfl ?_; clear hS; intro sb w hS; simp only [putW]) | (guard_target =~ Calls _ 18 _ _ _; refine Stopped.out ?_) | (refine loadAll hS rfl rfl rfl ?_ ?_; rfl; simp only [putW]))
  refine ⟨?_⟩
  refine Calls.mono (great25_any (HR.out.mono hS.base)) ?_
  rintro _ w ⟨⟨b, rfl⟩, h2⟩
  replace hS := hS.frame h2
  clear h2
  simp only [List.nil_append] at hS
  simp only [putW]
  cases b
  · go_wp2_with (first | (guard_target =~ Calls _ 19 _ _ _; refine Stopped.out ?_) | (refine loadAll hS rfl rfl rfl ?_ ?_; rfl; simp only [putW]))
    refine ⟨?_⟩
    refine Calls.mono (print_any HQ.out (HK.out.mono hS.base) (HR.out.mono hS.base)) ?_
    rintro _ w ⟨hres, h2⟩
    replace hS := hS.frame h2
    clear h2
    simp only [List.nil_append] at hS
    have hrp : Bx (∀ w : World, Sat w0 [] w → Calls Tryz.prog 20 #[.agg (stC s (.slice po s.od.length co) (.slice pd s.da.length cd) (.slice pq s.fa.length cf))] w fun e w' => e = .returned (.tuple #[str (rprintS s), .bool (decide (Plain s))]) ∧ Sat w [] w') := ⟨fun w h => rprint_any (HK.out.mono h.base) (HR.out.mono h.base)⟩
    rcases HT.out with ⟨h1, h2⟩ | ⟨h1, h2, h3⟩
    · rw [h2] at hrp
      rw [h1] at hres
      clear HT h1 h2
      rcases hres with ⟨l, hl, rfl⟩ | ⟨h, -⟩
      · obtain rfl : rprintS s = l := Option.some.inj hl
        clear hl
        generalize rprintS s = Q at hrp ⊢
        simp only [putW]
        go_wp2_with (first | (go_at_call 20; refine Calls.mono (hrp.out _ hS.nothing) ?_; rintro _ w2 ⟨rfl, h2⟩; replace hS := hS.frame h2; clear h2; (try simp only [List.cons_append, List.nil_append] at hS); simp only [putW]) | (go_at_call 9; refine Calls.mono (awake_any (HK.out.mono hS.base)) ?_; rintro _ w2 ⟨rfl, h2⟩; replace hS := hS.frame h2; clear h2; (try simp only [List.cons_append, List.nil_append] at hS); simp only [putW]) | (refine loadAll hS rfl rfl rfl ?_ ?_; rfl; simp only [putW]))
        go_ret
        exact ⟨rfl, hS.nothing⟩
      · cases h
    · rw [h2, h3] at hrp
      rw [h1] at hres
      clear HT h1 h2 h3
      rcases hres with ⟨l, hl, rfl⟩ | ⟨-, rfl⟩
      · cases hl
      · simp only [putW]
        go_wp2_with (first | (go_at_call 20; refine Calls.mono (hrp.out _ hS.nothing) ?_; rintro _ w2 ⟨rfl, h2⟩; replace hS := hS.frame h2; clear h2; (try simp only [List.cons_append, List.nil_append] at hS); simp only [putW]) | (go_at_call 9; refine Calls.mono (awake_any (HK.out.mono hS.base)) ?_; rintro _ w2 ⟨rfl, h2⟩; replace hS := hS.frame h2; clear h2; (try simp only [List.cons_append, List.nil_append] at hS); simp only [putW]) | (refine loadAll hS rfl rfl rfl ?_ ?_; rfl; simp only [putW]))
        go_ret
        exact ⟨rfl, hS.nothing⟩
  · go_wp2_with (go_at_call 9; refine Calls.mono (awake_any (HK.out.mono hS.base)) ?_; rintro _ w2 ⟨rfl, h2⟩; replace hS := hS.frame h2; clear h2; (try simp only [List.cons_append, List.nil_append] at hS); simp only [putW])
    go_ret
    exact ⟨rfl, hS.nothing⟩
end
end Go.Proofs.YtpbjkfomdindnaaGreatDoor
