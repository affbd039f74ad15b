/-
  reg: Follows.
  reg: New, Read, Write.
-/
import Derived.Test.YtdkimdobcacpfaaDoorRgA
set_option linter.unusedSimpArgs false
set_option linter.unusedVariables false
namespace Go.Proofs.YtdkimdobcacpfaaDoor
open Go.RowKit Go.Proofs.YtdkimdobcacpfaaDoor.Sl Go.Proofs.YtdkimdobcacpfaaDoor.Sha Go.Proofs.YtdkimdobcacpfaaDoor.Jp Go.Proofs.YtdkimdobcacpfaaDoor.Tr Go.Proofs.YtdkimdobcacpfaaDoor.Dv

section
variable {w0 w : World} {K F S : List Chunk} {A B : Rg}
set_option maxRecDepth 100000 in
set_option maxHeartbeats 8000000 in
theorem follows_any (hA : A.Wf) (hB : B.Wf) : Calls Tryd.prog 45 #[.agg (stV A).toArray,.agg (stV B).toArray] w0 fun e w' => e = .returned (.bool (A.follows B)) ∧ Sat w0 [] w' := by
  have hS := Sat.refl w0
  have hEq := eqSt hA st0_wf
  have HSa : Bx ((stV A).toArray.size = 72) := ⟨by rw [List.size_toArray];exact stV_len hA⟩
  have HSb : Bx ((stV B).toArray.size = 72) := ⟨by rw [List.size_toArray];exact stV_len hB⟩
  obtain ⟨f,hf⟩ : ∃ f,A.follows B = f := ⟨_,rfl⟩
  rw [hf]
  unfold Rg.follows at hf
  obtain ⟨r,hr⟩ : ∃ r,B.right = r := ⟨_,rfl⟩
  have HR : Bx _ := ⟨hr⟩
  rw [hr] at hf
  clear hr hA hB
  cases r with
  | false =>
    have hf : f = false := by rw [← hf];rfl
    subst hf
    go_enter Tryd.func45,Tryd.ntmps45
    go_wp2_with (first | (refine boxN (cs := (stV A).toArray) hS rfl rfl rfl ?_;clear hS;intro ma w hS;simp only [putW]) | (refine boxN (cs := (stV B).toArray) hS rfl rfl rfl ?_;clear hS;intro mb w hS;simp only [putW]) | (refine loadAll (c := (stV B).toArray) hS rfl rfl rfl HSb.out ?_;simp only [putW]) | (go_at_call 71;refine Calls.mono (right_any) ?_;rw [HR.out];rintro _ w2 ⟨rfl,h2⟩;replace hS := hS.frame h2;clear h2;(try simp only [List.cons_append,List.nil_append] at hS);simp only [putW]))
    go_ret
    exact ⟨rfl,hS.nothing⟩
  | true =>
    by_cases h0 : A = st0
    · have hf : f = true := by rw [← hf];simp [h0]
      subst hf
      have d0 : decide (A = st0) = true := decide_eq_true h0
      rw [d0] at hEq
      clear h0 d0
      go_enter Tryd.func45,Tryd.ntmps45
      go_wp2_with (first | (refine boxN (cs := (stV A).toArray) hS rfl rfl rfl ?_;clear hS;intro ma w hS;simp only [putW]) | (refine boxN (cs := (stV B).toArray) hS rfl rfl rfl ?_;clear hS;intro mb w hS;simp only [putW]) | (refine loadAll (c := (stV A).toArray) hS rfl rfl rfl HSa.out ?_;simp only [putW]) | (refine loadAll (c := (stV B).toArray) hS rfl rfl rfl HSb.out ?_;simp only [putW]) | (go_at_call 71;refine Calls.mono (right_any) ?_;rw [HR.out];rintro _ w2 ⟨rfl,h2⟩;replace hS := hS.frame h2;clear h2;(try simp only [List.cons_append,List.nil_append] at hS);simp only [putW]) | (refine buildS (segs := stSeg st0) (out := stV st0) rfl rfl [] rfl (fun p hp => by cases hp) (stSeg_flat _) ?_;simp only [putW]))
      go_ret
      exact ⟨rfl,hS.nothing⟩
    · have d0 : decide (A = st0) = false := decide_eq_false h0
      rw [d0] at hEq
      by_cases h1 : A.pages = B.pages
      rotate_left
      · have hf : f = false := by rw [← hf,d0];simp [h1]
        subst hf
        clear d0 h0
        have d1 : decide (A.pages = B.pages) = false := decide_eq_false h1
        have d1b : (A.pages != B.pages) = true := by simpa using h1
        have d1c : (A.pages == B.pages) = false := by simpa using h1
        clear h1
        go_enter Tryd.func45,Tryd.ntmps45
        go_upto_region 3 with (first | (refine boxN (cs := (stV A).toArray) hS rfl rfl rfl ?_;clear hS;intro ma w hS;simp only [putW]) | (refine boxN (cs := (stV B).toArray) hS rfl rfl rfl ?_;clear hS;intro mb w hS;simp only [putW]) | (refine loadAll (c := (stV A).toArray) hS rfl rfl rfl HSa.out ?_;simp only [putW]) | (refine loadAll (c := (stV B).toArray) hS rfl rfl rfl HSb.out ?_;simp only [putW]) | (go_at_call 71;refine Calls.mono (right_any) ?_;rw [HR.out];rintro _ w2 ⟨rfl,h2⟩;replace hS := hS.frame h2;clear h2;(try simp only [List.cons_append,List.nil_append] at hS);simp only [putW]) | (refine buildS (segs := stSeg st0) (out := stV st0) rfl rfl [] rfl (fun p hp => by cases hp) (stSeg_flat _) ?_;simp only [putW]))
        go_wp2_with (first | (refine loadC (c := (stV A).toArray) hS rfl rfl rfl (stCell0 A) ?_;simp only [putW]) | (refine loadC (c := (stV B).toArray) hS rfl rfl rfl (stCell0 B) ?_;simp only [putW]))
        go_ret
        exact ⟨rfl,hS.nothing⟩
      by_cases h2 : A.budget = B.budget
      rotate_left
      · have hf : f = false := by rw [← hf,d0];simp [h2]
        subst hf
        clear d0 h0
        have d1 : decide (A.pages = B.pages) = true := decide_eq_true h1
        have d1b : (A.pages != B.pages) = false := by simpa using h1
        have d1c : (A.pages == B.pages) = true := by simpa using h1
        have d2 : decide (A.budget = B.budget) = false := decide_eq_false h2
        have d2b : (A.budget != B.budget) = true := by simpa using h2
        have d2c : (A.budget == B.budget) = false := by simpa using h2
        clear h1 h2
        go_enter Tryd.func45,Tryd.ntmps45
        go_upto_region 3 with (first | (refine boxN (cs := (stV A).toArray) hS rfl rfl rfl ?_;clear hS;intro ma w hS;simp only [putW]) | (refine boxN (cs := (stV B).toArray) hS rfl rfl rfl ?_;clear hS;intro mb w hS;simp only [putW]) | (refine loadAll (c := (stV A).toArray) hS rfl rfl rfl HSa.out ?_;simp only [putW]) | (refine loadAll (c := (stV B).toArray) hS rfl rfl rfl HSb.out ?_;simp only [putW]) | (go_at_call 71;refine Calls.mono (right_any) ?_;rw [HR.out];rintro _ w2 ⟨rfl,h2⟩;replace hS := hS.frame h2;clear h2;(try simp only [List.cons_append,List.nil_append] at hS);simp only [putW]) | (refine buildS (segs := stSeg st0) (out := stV st0) rfl rfl [] rfl (fun p hp => by cases hp) (stSeg_flat _) ?_;simp only [putW]))
        go_wp2_with (first | (refine loadC (c := (stV A).toArray) hS rfl rfl rfl (stCell0 A) ?_;simp only [putW]) | (refine loadC (c := (stV B).toArray) hS rfl rfl rfl (stCell0 B) ?_;simp only [putW]) | (refine loadC (c := (stV A).toArray) hS rfl rfl rfl (stCell1 A) ?_;simp only [putW]) | (refine loadC (c := (stV B).toArray) hS rfl rfl rfl (stCell1 B) ?_;simp only [putW]))
        go_ret
        exact ⟨rfl,hS.nothing⟩
      by_cases h3 : A.wide = B.wide
      rotate_left
      · have hf : f = false := by rw [← hf,d0];simp [h3]
        subst hf
        clear d0 h0
        have d1 : decide (A.pages = B.pages) = true := decide_eq_true h1
        have d1b : (A.pages != B.pages) = false := by simpa using h1
        have d1c : (A.pages == B.pages) = true := by simpa using h1
        have d2 : decide (A.budget = B.budget) = true := decide_eq_true h2
        have d2b : (A.budget != B.budget) = false := by simpa using h2
        have d2c : (A.budget == B.budget) = true := by simpa using h2
        have d3 : decide (A.wide = B.wide) = false := decide_eq_false h3
        have d3b : (A.wide != B.wide) = true := by simpa using h3
        have d3c : (A.wide == B.wide) = false := by simpa using h3
        clear h1 h2 h3
        go_enter Tryd.func45,Tryd.ntmps45
        go_upto_region 3 with (first | (refine boxN (cs := (stV A).toArray) hS rfl rfl rfl ?_;clear hS;intro ma w hS;simp only [putW]) | (refine boxN (cs := (stV B).toArray) hS rfl rfl rfl ?_;clear hS;intro mb w hS;simp only [putW]) | (refine loadAll (c := (stV A).toArray) hS rfl rfl rfl HSa.out ?_;simp only [putW]) | (refine loadAll (c := (stV B).toArray) hS rfl rfl rfl HSb.out ?_;simp only [putW]) | (go_at_call 71;refine Calls.mono (right_any) ?_;rw [HR.out];rintro _ w2 ⟨rfl,h2⟩;replace hS := hS.frame h2;clear h2;(try simp only [List.cons_append,List.nil_append] at hS);simp only [putW]) | (refine buildS (segs := stSeg st0) (out := stV st0) rfl rfl [] rfl (fun p hp => by cases hp) (stSeg_flat _) ?_;simp only [putW]))
        go_wp2_with (first | (refine loadC (c := (stV A).toArray) hS rfl rfl rfl (stCell0 A) ?_;simp only [putW]) | (refine loadC (c := (stV B).toArray) hS rfl rfl rfl (stCell0 B) ?_;simp only [putW]) | (refine loadC (c := (stV A).toArray) hS rfl rfl rfl (stCell1 A) ?_;simp only [putW]) | (refine loadC (c := (stV B).toArray) hS rfl rfl rfl (stCell1 B) ?_;simp only [putW]) | (refine loadC (c := (stV A).toArray) hS rfl rfl rfl (stCell2 A) ?_;simp only [putW]) | (refine loadC (c := (stV B).toArray) hS rfl rfl rfl (stCell2 B) ?_;simp only [putW]))
        go_ret
        exact ⟨rfl,hS.nothing⟩
      by_cases h4 : A.boot ≤ B.boot
      rotate_left
      · have hf : f = false := by rw [← hf,d0];simp [h4]
        subst hf
        clear d0 h0
        have d1 : decide (A.pages = B.pages) = true := decide_eq_true h1
        have d1b : (A.pages != B.pages) = false := by simpa using h1
        have d1c : (A.pages == B.pages) = true := by simpa using h1
        have d2 : decide (A.budget = B.budget) = true := decide_eq_true h2
        have d2b : (A.budget != B.budget) = false := by simpa using h2
        have d2c : (A.budget == B.budget) = true := by simpa using h2
        have d3 : decide (A.wide = B.wide) = true := decide_eq_true h3
        have d3b : (A.wide != B.wide) = false := by simpa using h3
        have d3c : (A.wide == B.wide) = true := by simpa using h3
        have d4 : decide (A.boot ≤ B.boot) = false := decide_eq_false h4
        clear h1 h2 h3 h4
        go_enter Tryd.func45,Tryd.ntmps45
        go_upto_region 3 with (first | (refine boxN (cs := (stV A).toArray) hS rfl rfl rfl ?_;clear hS;intro ma w hS;simp only [putW]) | (refine boxN (cs := (stV B).toArray) hS rfl rfl rfl ?_;clear hS;intro mb w hS;simp only [putW]) | (refine loadAll (c := (stV A).toArray) hS rfl rfl rfl HSa.out ?_;simp only [putW]) | (refine loadAll (c := (stV B).toArray) hS rfl rfl rfl HSb.out ?_;simp only [putW]) | (go_at_call 71;refine Calls.mono (right_any) ?_;rw [HR.out];rintro _ w2 ⟨rfl,h2⟩;replace hS := hS.frame h2;clear h2;(try simp only [List.cons_append,List.nil_append] at hS);simp only [putW]) | (refine buildS (segs := stSeg st0) (out := stV st0) rfl rfl [] rfl (fun p hp => by cases hp) (stSeg_flat _) ?_;simp only [putW]))
        go_upto_region 5 with (first | (refine loadC (c := (stV A).toArray) hS rfl rfl rfl (stCell0 A) ?_;simp only [putW]) | (refine loadC (c := (stV B).toArray) hS rfl rfl rfl (stCell0 B) ?_;simp only [putW]) | (refine loadC (c := (stV A).toArray) hS rfl rfl rfl (stCell1 A) ?_;simp only [putW]) | (refine loadC (c := (stV B).toArray) hS rfl rfl rfl (stCell1 B) ?_;simp only [putW]) | (refine loadC (c := (stV A).toArray) hS rfl rfl rfl (stCell2 A) ?_;simp only [putW]) | (refine loadC (c := (stV B).toArray) hS rfl rfl rfl (stCell2 B) ?_;simp only [putW]))
        go_wp2_with (first | (refine loadC (c := (stV A).toArray) hS rfl rfl rfl (stCell3 A) ?_;simp only [putW]) | (refine loadC (c := (stV B).toArray) hS rfl rfl rfl (stCell3 B) ?_;simp only [putW]))
        go_ret
        exact ⟨rfl,hS.nothing⟩
      by_cases h5 : A.version ≤ B.version
      rotate_left
      · have hf : f = false := by rw [← hf,d0];simp [h5]
        subst hf
        clear d0 h0
        have d1 : decide (A.pages = B.pages) = true := decide_eq_true h1
        have d1b : (A.pages != B.pages) = false := by simpa using h1
        have d1c : (A.pages == B.pages) = true := by simpa using h1
        have d2 : decide (A.budget = B.budget) = true := decide_eq_true h2
        have d2b : (A.budget != B.budget) = false := by simpa using h2
        have d2c : (A.budget == B.budget) = true := by simpa using h2
        have d3 : decide (A.wide = B.wide) = true := decide_eq_true h3
        have d3b : (A.wide != B.wide) = false := by simpa using h3
        have d3c : (A.wide == B.wide) = true := by simpa using h3
        have d4 : decide (A.boot ≤ B.boot) = true := decide_eq_true h4
        have d5 : decide (A.version ≤ B.version) = false := decide_eq_false h5
        clear h1 h2 h3 h4 h5
        go_enter Tryd.func45,Tryd.ntmps45
        go_upto_region 3 with (first | (refine boxN (cs := (stV A).toArray) hS rfl rfl rfl ?_;clear hS;intro ma w hS;simp only [putW]) | (refine boxN (cs := (stV B).toArray) hS rfl rfl rfl ?_;clear hS;intro mb w hS;simp only [putW]) | (refine loadAll (c := (stV A).toArray) hS rfl rfl rfl HSa.out ?_;simp only [putW]) | (refine loadAll (c := (stV B).toArray) hS rfl rfl rfl HSb.out ?_;simp only [putW]) | (go_at_call 71;refine Calls.mono (right_any) ?_;rw [HR.out];rintro _ w2 ⟨rfl,h2⟩;replace hS := hS.frame h2;clear h2;(try simp only [List.cons_append,List.nil_append] at hS);simp only [putW]) | (refine buildS (segs := stSeg st0) (out := stV st0) rfl rfl [] rfl (fun p hp => by cases hp) (stSeg_flat _) ?_;simp only [putW]))
        go_upto_region 5 with (first | (refine loadC (c := (stV A).toArray) hS rfl rfl rfl (stCell0 A) ?_;simp only [putW]) | (refine loadC (c := (stV B).toArray) hS rfl rfl rfl (stCell0 B) ?_;simp only [putW]) | (refine loadC (c := (stV A).toArray) hS rfl rfl rfl (stCell1 A) ?_;simp only [putW]) | (refine loadC (c := (stV B).toArray) hS rfl rfl rfl (stCell1 B) ?_;simp only [putW]) | (refine loadC (c := (stV A).toArray) hS rfl rfl rfl (stCell2 A) ?_;simp only [putW]) | (refine loadC (c := (stV B).toArray) hS rfl rfl rfl (stCell2 B) ?_;simp only [putW]))
        go_wp2_with (first | (refine loadC (c := (stV A).toArray) hS rfl rfl rfl (stCell3 A) ?_;simp only [putW]) | (refine loadC (c := (stV B).toArray) hS rfl rfl rfl (stCell3 B) ?_;simp only [putW]) | (refine loadC (c := (stV A).toArray) hS rfl rfl rfl (stCell4 A) ?_;simp only [putW]) | (refine loadC (c := (stV B).toArray) hS rfl rfl rfl (stCell4 B) ?_;simp only [putW]))
        go_ret
        exact ⟨rfl,hS.nothing⟩
      by_cases h6 : A.epoch ≤ B.epoch
      rotate_left
      · have hf : f = false := by rw [← hf,d0];simp [h6]
        subst hf
        clear d0 h0
        have d1 : decide (A.pages = B.pages) = true := decide_eq_true h1
        have d1b : (A.pages != B.pages) = false := by simpa using h1
        have d1c : (A.pages == B.pages) = true := by simpa using h1
        have d2 : decide (A.budget = B.budget) = true := decide_eq_true h2
        have d2b : (A.budget != B.budget) = false := by simpa using h2
        have d2c : (A.budget == B.budget) = true := by simpa using h2
        have d3 : decide (A.wide = B.wide) = true := decide_eq_true h3
        have d3b : (A.wide != B.wide) = false := by simpa using h3
        have d3c : (A.wide == B.wide) = true := by simpa using h3
        have d4 : decide (A.boot ≤ B.boot) = true := decide_eq_true h4
        have d5 : decide (A.version ≤ B.version) = true := decide_eq_true h5
        have d6 : decide (A.epoch ≤ B.epoch) = false := decide_eq_false h6
        clear h1 h2 h3 h4 h5 h6
        go_enter Tryd.func45,Tryd.ntmps45
        go_upto_region 3 with (first | (refine boxN (cs := (stV A).toArray) hS rfl rfl rfl ?_;clear hS;intro ma w hS;simp only [putW]) | (refine boxN (cs := (stV B).toArray) hS rfl rfl rfl ?_;clear hS;intro mb w hS;simp only [putW]) | (refine loadAll (c := (stV A).toArray) hS rfl rfl rfl HSa.out ?_;simp only [putW]) | (refine loadAll (c := (stV B).toArray) hS rfl rfl rfl HSb.out ?_;simp only [putW]) | (go_at_call 71;refine Calls.mono (right_any) ?_;rw [HR.out];rintro _ w2 ⟨rfl,h2⟩;replace hS := hS.frame h2;clear h2;(try simp only [List.cons_append,List.nil_append] at hS);simp only [putW]) | (refine buildS (segs := stSeg st0) (out := stV st0) rfl rfl [] rfl (fun p hp => by cases hp) (stSeg_flat _) ?_;simp only [putW]))
        go_upto_region 5 with (first | (refine loadC (c := (stV A).toArray) hS rfl rfl rfl (stCell0 A) ?_;simp only [putW]) | (refine loadC (c := (stV B).toArray) hS rfl rfl rfl (stCell0 B) ?_;simp only [putW]) | (refine loadC (c := (stV A).toArray) hS rfl rfl rfl (stCell1 A) ?_;simp only [putW]) | (refine loadC (c := (stV B).toArray) hS rfl rfl rfl (stCell1 B) ?_;simp only [putW]) | (refine loadC (c := (stV A).toArray) hS rfl rfl rfl (stCell2 A) ?_;simp only [putW]) | (refine loadC (c := (stV B).toArray) hS rfl rfl rfl (stCell2 B) ?_;simp only [putW]))
        go_wp2_with (first | (refine loadC (c := (stV A).toArray) hS rfl rfl rfl (stCell3 A) ?_;simp only [putW]) | (refine loadC (c := (stV B).toArray) hS rfl rfl rfl (stCell3 B) ?_;simp only [putW]) | (refine loadC (c := (stV A).toArray) hS rfl rfl rfl (stCell4 A) ?_;simp only [putW]) | (refine loadC (c := (stV B).toArray) hS rfl rfl rfl (stCell4 B) ?_;simp only [putW]) | (refine loadC (c := (stV A).toArray) hS rfl rfl rfl (stCell5 A) ?_;simp only [putW]) | (refine loadC (c := (stV B).toArray) hS rfl rfl rfl (stCell5 B) ?_;simp only [putW]))
        go_ret
        exact ⟨rfl,hS.nothing⟩
      have hf : f = true := by rw [← hf,d0];simp [h1,h2,h3,h4,h5,h6]
      subst hf
      clear d0 h0
      have d1 : decide (A.pages = B.pages) = true := decide_eq_true h1
      have d1b : (A.pages != B.pages) = false := by simpa using h1
      have d1c : (A.pages == B.pages) = true := by simpa using h1
      have d2 : decide (A.budget = B.budget) = true := decide_eq_true h2
      have d2b : (A.budget != B.budget) = false := by simpa using h2
      have d2c : (A.budget == B.budget) = true := by simpa using h2
      have d3 : decide (A.wide = B.wide) = true := decide_eq_true h3
      have d3b : (A.wide != B.wide) = false := by simpa using h3
      have d3c : (A.wide == B.wide) = true := by simpa using h3
      have d4 : decide (A.boot ≤ B.boot) = true := decide_eq_true h4
      have d5 : decide (A.version ≤ B.version) = true := decide_eq_true h5
      have d6 : decide (A.epoch ≤ B.epoch) = true := decide_eq_true h6
      clear h1 h2 h3 h4 h5 h6
      go_enter Tryd.func45,Tryd.ntmps45
      go_upto_region 3 with (first | (refine boxN (cs := (stV A).toArray) hS rfl rfl rfl ?_;clear hS;intro ma w hS;simp only [putW]) | (refine boxN (cs := (stV B).toArray) hS rfl rfl rfl ?_;clear hS;intro mb w hS;simp only [putW]) | (refine loadAll (c := (stV A).toArray) hS rfl rfl rfl HSa.out ?_;simp only [putW]) | (refine loadAll (c := (stV B).toArray) hS rfl rfl rfl HSb.out ?_;simp only [putW]) | (go_at_call 71;refine Calls.mono (right_any) ?_;rw [HR.out];rintro _ w2 ⟨rfl,h2⟩;replace hS := hS.frame h2;clear h2;(try simp only [List.cons_append,List.nil_append] at hS);simp only [putW]) | (refine buildS (segs := stSeg st0) (out := stV st0) rfl rfl [] rfl (fun p hp => by cases hp) (stSeg_flat _) ?_;simp only [putW]))
      go_upto_region 5 with (first | (refine loadC (c := (stV A).toArray) hS rfl rfl rfl (stCell0 A) ?_;simp only [putW]) | (refine loadC (c := (stV B).toArray) hS rfl rfl rfl (stCell0 B) ?_;simp only [putW]) | (refine loadC (c := (stV A).toArray) hS rfl rfl rfl (stCell1 A) ?_;simp only [putW]) | (refine loadC (c := (stV B).toArray) hS rfl rfl rfl (stCell1 B) ?_;simp only [putW]) | (refine loadC (c := (stV A).toArray) hS rfl rfl rfl (stCell2 A) ?_;simp only [putW]) | (refine loadC (c := (stV B).toArray) hS rfl rfl rfl (stCell2 B) ?_;simp only [putW]))
      go_wp2_with (first | (refine loadC (c := (stV A).toArray) hS rfl rfl rfl (stCell3 A) ?_;simp only [putW]) | (refine loadC (c := (stV B).toArray) hS rfl rfl rfl (stCell3 B) ?_;simp only [putW]) | (refine loadC (c := (stV A).toArray) hS rfl rfl rfl (stCell4 A) ?_;simp only [putW]) | (refine loadC (c := (stV B).toArray) hS rfl rfl rfl (stCell4 B) ?_;simp only [putW]) | (refine loadC (c := (stV A).toArray) hS rfl rfl rfl (stCell5 A) ?_;simp only [putW]) | (refine loadC (c := (stV B).toArray) hS rfl rfl rfl (stCell5 B) ?_;simp only [putW]))
      go_ret
      exact ⟨rfl,hS.nothing⟩
end
end Go.Proofs.YtdkimdobcacpfaaDoor
namespace Go.Proofs.YtdkimdobcacpfaaDoor
open Go.RowKit Go.Proofs.YtdkimdobcacpfaaDoor.Sl Go.Proofs.YtdkimdobcacpfaaDoor.Sha Go.Proofs.YtdkimdobcacpfaaDoor.Jp Go.Proofs.YtdkimdobcacpfaaDoor.Tr Go.Proofs.YtdkimdobcacpfaaDoor.Dv

set_option maxRecDepth 100000 in
instance : StrT Tryd.prog 114 [[.pointer none],stV st0] := StrT.mk' Tryd.underlying114 (by kernel_rfl) (pl := #[(0,1),(1,72)]) (fun w => by go_simp) (by kernel_rfl)
section
variable {P : Program} {ops : Array Oper} {rest : List Oper} {o : Oper} {a : Act} {Q : Exit → Act → World → Prop} {w0 w : World} {S F : List Chunk}
variable {b n : Nat} {z : Array Value} {zv v0 : Value} {t tb : TypeId} {x y : Operand} {agg : Bool} {l cs : List Value}
/-- All cells but the first are written. -/
theorem storeTail (hS : Sat w0 S w) (hw : Region.wanted o (yielded ops a.tmps) = true) (ho : o.op = .store t x y) (hx : a.eval x = .pointer (some ⟨b,1,none⟩))
    [ty : Ty P t agg n zv z] (hy : a.eval y = .agg cs.toArray) (hn : cs.length = n) (hv : ∀ v ∈ cs,v.oneCell' = true) [Pull S b (cells (v0::l).toArray tb) F] (hc : l.length = n)
    (k : ∀ w',Sat w0 ((b,cells (v0::cs).toArray tb)::F) w' → wpList P ops Q rest (a.put o.dst undef) w') : wpList P ops Q (o::rest) a w := by
  refine storeN hS hw ho hx hy (by simpa using hn) (by simpa using hv) (b := b) (c := (v0::l).toArray) (tb := tb) (by simp;omega) fun w' h => k w' ?_
  have e : (((v0::l).toArray.toList.take 1 ++ cs.toArray.toList ++ (v0::l).toArray.toList.drop (1 + n)).toArray) = (v0::cs).toArray := by
    have e2 : (v0::l).drop (1 + n) = [] := List.drop_eq_nil_of_le (by simp;omega)
    simp [e2]
  rw [e] at h
  exact h
end
section
variable {w0 w : World} {K F S : List Chunk} {d r : Nat} {D : Dev} {cv : Value} {s R : Rg}
theorem stV_one (s : Rg) : ∀ u ∈ stV s,u.oneCell' = true := by
  intro u hu
  simp only [stV,List.mem_cons,List.mem_append,List.mem_map] at hu
  rcases hu with rfl | rfl | rfl | rfl | rfl | rfl | rfl | rfl | ⟨y,_,rfl⟩ | ⟨y,_,rfl⟩ <;> rfl
theorem stPart {s : Rg} (h : s.Wf) (v : Value) : PartIs (v::stV s).toArray 1 72 (stV s) := ⟨stV_len h,by
  show (stV s).take 72 = stV s
  rw [List.take_of_length_le (by rw [stV_len h];exact Nat.le_refl _)]⟩
theorem st0_len : (stV st0).toArray.size = 72 := by rw [List.size_toArray];exact stV_len st0_wf
set_option maxRecDepth 100000 in
set_option maxHeartbeats 4000000 in
theorem regNew_any : Calls Tryd.prog 25 #[.pointer (some ⟨d,0,none⟩)] w0 fun e w' => ∃ r,e = .returned (.tuple #[.pointer (some ⟨r,0,none⟩),.int .i64 0]) ∧ Sat w0 [(r,RegC d st0)] w' := by
  have hS := Sat.refl w0
  go_enter Tryd.func25,Tryd.ntmps25
  go_wp2_with (first | (refine buildS (segs := [[.pointer none],stV st0]) (out := .pointer (some ⟨d,0,none⟩)::stV st0) rfl rfl [(0,.pointer (some ⟨d,0,none⟩))] rfl (fun p hp => by rw [List.mem_singleton.1 hp];rfl) (by simp [setSegs,Value.cells]) ?_;simp only [putW]) | (refine boxN (cs := (.pointer (some ⟨d,0,none⟩)::stV st0).toArray) hS rfl rfl rfl ?_;clear hS;intro mr w hS;simp only [putW]))
  go_ret2
  exact ⟨mr,rfl,hS⟩
set_option maxRecDepth 100000 in
set_option maxHeartbeats 4000000 in
theorem regRead_any (hR : R.Wf) (hS : Sat w0 ((r,RegC d R)::K) w) : Calls Tryd.prog 35 #[.pointer (some ⟨r,0,none⟩)] w fun e w' => e = .returned (.agg (stV R).toArray) ∧ Sat w0 ((r,RegC d R)::K) w' := by
  have HP : Bx _ := ⟨stPart hR (.pointer (some ⟨d,0,none⟩))⟩
  have HL : Bx ((stV R).toArray.size = 72) := ⟨by rw [List.size_toArray];exact stV_len hR⟩
  have H1 : Bx (∀ u ∈ (stV R).toArray.toList,u.oneCell' = true) := ⟨stV_one R⟩
  clear hR
  go_enter Tryd.func35,Tryd.ntmps35
  go_wp2_with (first | (refine allocS (t := 28) hS rfl rfl (stV st0).toArray st0_cells ?_;clear hS;intro mo w hS;simp only [putW]) | (refine loadP (b := r) hS rfl rfl rfl HP.out ?_;simp only [putW]) | (refine storeAll (b := mo) (cs := (stV R).toArray) hS rfl rfl rfl rfl HL.out H1.out st0_len ?_;clear hS;intro w hS;try simp only [putW]))
  have hr := run_loadAll (P := Tryd.prog) hS mo 28 HL.out
  exact bodyPost_ret (v := .agg (stV R).toArray) (by simp [results,Tryd.results35,asAddr,hr]) rfl ⟨rfl,hS.conv⟩
set_option maxRecDepth 100000 in
set_option maxHeartbeats 8000000 in
theorem regWrite_any (hz : D.Sz) (hR : R.Wf) (hs : s.Wf) (hS : Sat w0 ((r,RegC d R)::(d,DevG cv D)::K) w) : Calls Tryd.prog 29 #[.pointer (some ⟨r,0,none⟩),.agg (stV s).toArray] w fun e w' => e = .returned (.int .i64 (regWrite D R s).2.2) ∧ Sat w0 ((r,RegC d (regWrite D R s).2.1)::(d,DevG cv (regWrite D R s).1)::K) w' := by
  have HP : Bx _ := ⟨stPart hR (.pointer (some ⟨d,0,none⟩))⟩
  have HL : Bx ((stV s).toArray.size = 72) := ⟨by rw [List.size_toArray];exact stV_len hs⟩
  have HLl : Bx ((stV s).length = 72) := ⟨stV_len hs⟩
  have HRl : Bx ((stV R).length = 72) := ⟨stV_len hR⟩
  have H1 : Bx (∀ u ∈ stV s,u.oneCell' = true) := ⟨stV_one s⟩
  obtain ⟨o,ho⟩ : ∃ o,D.off = o := ⟨_,rfl⟩
  obtain ⟨f,hf⟩ : ∃ f,R.follows s = f := ⟨_,rfl⟩
  obtain ⟨p,hp⟩ : ∃ p,D.spend.off = p := ⟨_,rfl⟩
  have HO : Bx _ := ⟨ho⟩
  have HF : Bx _ := ⟨hf⟩
  have HPo : Bx _ := ⟨hp⟩
  have HQ : Bx (regWrite D R s = if o then (D,R,7) else if f then (if p then (D.spend,R,7) else (D.spend,s,0)) else (D,R,3)) := ⟨by unfold regWrite;rw [ho,hf,hp]⟩
  rw [HQ.out]
  clear ho hf hp
  go_enter Tryd.func29,Tryd.ntmps29
  go_wp2_with (first | (refine boxN (cs := (stV s).toArray) hS rfl rfl rfl ?_;clear hS;intro ms w hS;simp only [putW]) | (guard_target =~ Calls _ 20 _ _ _;refine Stopped.out ?_) | (refine load1 hS rfl rfl rfl rfl ?_;simp only [putW]))
  refine ⟨?_⟩
  refine Calls.mono (devUp_any (hS.pull d (X := DevG cv D))) ?_
  rw [HO.out]
  clear hS
  rintro _ w ⟨rfl,hS⟩
  simp only [putW]
  cases o with
  | true =>
    go_wp2_with (refine load1 hS rfl rfl rfl rfl ?_;simp only [putW])
    go_ret
    exact ⟨rfl,hS.conv⟩
  | false =>
    go_upto_region 5 with (refine load1 hS rfl rfl rfl rfl ?_;simp only [putW])
    (refine region_quiet hS (by kernel_rfl) (by kernel_rfl) (by kernel_rfl) ?_;clear hS;(repeat (first | (apply quiet_go rfl Tryd.call45 rfl;(focus (intro w hS;refine Calls.mono (follows_any hR hs) ?_;rw [HF.out];rintro _ w2 ⟨rfl,h2⟩;exact ⟨rfl,by simpa using hS.frame h2⟩));simp only [putW]) | (refine quiet_y (yLoadP (b := r) (fun _ h => h) rfl rfl rfl HP.out) ?_;simp only [putW]) | (refine quiet_y (yLoadAll (c := (stV s).toArray) (fun _ h => h) rfl rfl rfl HL.out) ?_;simp only [putW]) | (refine quiet_y (yMove rfl rfl rfl) ?_;simp only [evW,putW]) | (refine quiet_y (yNil rfl rfl rfl) ?_;simp only [putW]) | (apply quiet_y;(focus (apply yRun rfl;intro w;first | (go_simp;done) | (go_simp;rfl)));simp only [putW])));refine quiet_nil ?_;intro w hS)
    cases f with
    | false =>
      go_wp2_with (refine load1 hS rfl rfl rfl rfl ?_;simp only [putW])
      go_ret
      exact ⟨rfl,hS.conv⟩
    | true =>
      go_wp2_with (first | (guard_target =~ Calls _ 46 _ _ _;refine Stopped.out ?_) | (refine load1 hS rfl rfl rfl rfl ?_;simp only [putW]))
      refine ⟨?_⟩
      refine Calls.mono (devSpend2_any hz (hS.pull d (X := DevG cv D))) ?_
      rw [HO.out,HPo.out]
      clear hS
      rintro _ w ⟨rfl,hS⟩
      simp only [Bool.false_eq_true,if_false] at hS
      simp only [putW]
      cases p with
      | true =>
        go_wp2_with (refine load1 hS rfl rfl rfl rfl ?_;simp only [putW])
        go_ret
        exact ⟨rfl,hS.conv⟩
      | false =>
        go_wp2_with (first | (refine loadAll (c := (stV s).toArray) hS rfl rfl rfl HL.out ?_;simp only [putW]) | (refine storeTail (b := r) (cs := stV s) (l := stV R) hS rfl rfl rfl rfl HLl.out H1.out HRl.out ?_;clear hS;intro w hS;try simp only [putW]))
        go_ret
        have h9 : Sat w0 ((r,cells (Value.pointer (some ⟨d,0,none⟩)::stV s).toArray 114)::(d,DevG cv D.spend)::K) w := hS.conv
        exact ⟨rfl,h9⟩
end
end Go.Proofs.YtdkimdobcacpfaaDoor
