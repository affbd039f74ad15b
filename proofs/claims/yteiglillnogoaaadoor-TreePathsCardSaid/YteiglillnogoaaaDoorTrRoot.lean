/-
  thimbleref18.Root; what is built above the pages of a plan.
-/
import Derived.Test.YteiglillnogoaaaDoorTrAll
import Derived.Test.YteiglillnogoaaaDoorTrMade
import Derived.Test.YteiglillnogoaaaDoorTrBuildE
import Derived.Test.YteiglillnogoaaaDoorShEq
set_option linter.unusedSimpArgs false
set_option linter.unusedVariables false
namespace Go.Proofs.YteiglillnogoaaaDoor
open Go.RowKit Go.Proofs.YteiglillnogoaaaDoor.Sl Go.Proofs.YteiglillnogoaaaDoor.Sha Go.Proofs.YteiglillnogoaaaDoor.Jp Go.Proofs.YteiglillnogoaaaDoor.Tr

/-- How many levels of nodes. -/
def cM (P : Nat) : Nat := (lvs (cL P) (cN P)).length
section
variable {w0 w : World} {va vb lv : Value} {X : List (Value × List Int)}
theorem cM_is {P : Nat} (h1 : 1 ≤ P) (h3 : P ≤ 300) : (cM P = 1 ∧ cL P = 1 ∧ cN P = 1) ∨ (cM P = 2 ∧ 2 ≤ cL P ∧ cL P ≤ 3 ∧ cN P = cL P + 1) := by
  have h := cN_or h1
  have := (c_le h3).2
  unfold cM lvs
  rcases h with ⟨h2, h4⟩ | ⟨h2, h4⟩
  · rw [if_pos h2]; left; exact ⟨rfl, h4, by omega⟩
  · rw [if_neg (by omega)]; right; exact ⟨rfl, h4, by omega, h2⟩
theorem c_pos {P : Nat} (h1 : 1 ≤ P) : 1 ≤ cC P ∧ 1 ≤ cL P ∧ 1 ≤ cN P := by
  have h := cN_or h1
  unfold cC
  omega
theorem c_fit {P : Nat} (h1 : 1 ≤ P) (h3 : P ≤ 300) : cC P + 7 ≤ 8 * cL P + 7 ∧ cL P ≤ 8 := by
  have := (c_le h3).2
  unfold cL at *
  omega
/-- The document's nodes are the program's; how great all is. -/
theorem built {P : Nat} (h1 : 1 ≤ P) (h3 : P ≤ 300) {bs : List Row} (hC : bs.length = cC P) :
    (∀ k, k ≤ cM P → (stB dig P bs k).1 ≤ 400000 ∧ (stB dig P bs k).2.1.length ≤ 1000 ∧ (stB dig P bs k).2.2.length ≤ 100000) ∧
    all dig P (cC P) (cL P) (cN P) bs (cC P + cN P) = bs ++ (stB dig P bs (cM P)).2.2 ∧ (stB dig P bs (cM P)).2.1.length = 1 ∧ (stB dig P bs (cM P)).1 + 1 = P + cC P + cN P ∧
    (stB dig P bs (cM P)).2.2.getD (cN P - 1) [] = (stB dig P bs (cM P)).2.1.getD 0 [] ∧ (stB dig P bs (cM P)).2.2.length = cN P := by
  have hc := c_le h3
  have hm := cM_is h1 h3
  have hN : cN P = cL P + (cM P - 1) := by omega
  have h := all_is (d := dig) P (cC P) (cL P) (cM P) bs hC rfl (by omega)
  rw [← hN] at h
  obtain ⟨a1, a2, a3, a4, a5⟩ := h
  refine ⟨fun k hk => ?_, a1, a2, ?_, a4, a5⟩
  · have l0 : (stB dig P bs 0).2.1.length = cC P := hC
    have l1 : (stB dig P bs 1).2.1.length = cL P := by
      show (ab dig _ _ _).length = _
      rw [ab_len, l0]; rfl
    match k, hk with
    | 0, _ => exact ⟨by show P ≤ _; omega, by rw [l0]; omega, by show 0 ≤ _; omega⟩
    | 1, _ => exact ⟨by show P + (stB dig P bs 0).2.1.length ≤ _; rw [l0]; omega, by rw [l1]; omega, by show ([] ++ (stB dig P bs 1).2.1).length ≤ _; rw [List.nil_append, l1]; omega⟩
    | 2, h2 =>
      have e : cM P = 2 := by omega
      rw [← e]
      exact ⟨by rw [a3]; split <;> omega, by rw [a2]; omega, by rw [a5]; omega⟩
    | k + 3, h2 => omega
  · rw [a3]
    rcases hm with ⟨e1, e2, e3⟩ | ⟨e1, e2, e3, e4⟩
    · rw [if_pos e1]; omega
    · rw [if_neg (by omega)]; omega
set_option maxRecDepth 100000 in
set_option maxHeartbeats 1000000 in
theorem refRoot_any {k n : Nat} {P b C N H J s t hd : Int} {D A : List Int} {av : Value} (hR : RR w0 X va) (hn : X.length = n + 1) (hx : X[n]? = some (av, A)) (hH : hd = k + 1) (hk : k ≤ 1000000) (hD : dig k A = D) (hl : A.length ≤ 10000) :
    Calls Tryd.prog 13 #[.agg (plL P b C lv N hd H J s t).toArray, va] w0 fun e w' => e = .returned (.agg (D.map u8v).toArray) ∧ Sat w0 [] w' := by
  have hS := Sat.refl w0
  obtain ⟨a, c, rfl, hlx, hat⟩ := hR.at
  obtain ⟨bb, ob, rfl, hB⟩ := hat (by intro e; subst e; simp at hx)
  have hdl : Bx (D.length = 32) := ⟨by rw [← hD]; exact dig_len' _ _⟩
  have HD : Bx _ := ⟨hD⟩
  have hr0 := (hB.2 n _ hx).1
  clear hR hat hD
  rw [hn]
  rw [hn] at hlx
  clear hn
  subst hH
  go_enter Tryd.func13, Tryd.ntmps13
  go_wp2_with (first | (refine allocA (t := 29) (vv := u8v) hS rfl rfl (List.replicate 32 0) zeros32 ?_; clear hS; intro mo w hS; simp only [putW]) | (refine load1 hS rfl rfl rfl rfl ?_; simp only [putW]) | (refine loadAll hS rfl rfl rfl ?_ ?_; rfl; simp only [putW]) | (refine loadPart hS rfl rfl rfl ?_ rfl ?_; rfl; simp only [putW]) | (refine store1 hS rfl rfl rfl rfl rfl ?_ ?_; (focus (simp; done)); clear hS; intro w hS; simp only [evW, putW] at hS; try simp only [putW]) | (refine storeAll hS rfl rfl rfl rfl ?_ ?_ ?_ ?_; rfl; (focus (simp [Value.oneCell']; done)); rfl; clear hS; intro w hS; try simp only [putW]) | (refine storeN hS rfl rfl rfl rfl ?_ ?_ ?_ ?_; rfl; (focus (simp [Value.oneCell']; done)); (focus (simp; done)); clear hS; intro w hS; simp at hS; try simp only [putW]) | (refine alloc hS rfl rfl ?_; clear hS; intro mb w hS; simp only [putW]) | (refine box1 hS rfl rfl rfl rfl ?_; clear hS; intro mb w hS; try simp only [evW, putW] at hS; simp only [putW]) | (refine boxN hS rfl rfl rfl ?_; clear hS; intro mb w hS; simp only [putW]))
  (refine region_upd mo (cells (D.map u8v).toArray 29) 10 hS (by kernel_rfl) (by kernel_rfl) (by kernel_rfl) (by kernel_rfl) ?_; clear hS; (repeat (first | (apply one_dep rfl; (focus (intro w hS; go_wp2_with (first | (refine loadB (f := rowF) hS rfl rfl rfl hB n 0 ?_ hx rfl ?_; omega; simp only [putW]) | (go_at_call 18; refine Calls.mono (refDigest_i (k := k) (by omega) HD.out (hr0.mono hS.base) hl) ?_; rintro _ w2 ⟨rfl, h2⟩; replace hS := hS.frame h2; clear h2; (try simp only [List.cons_append, List.nil_append] at hS); simp only [putW]) | (refine storeAllA (vv := u8v) hS rfl rfl rfl D rfl hdl.out (fun _ _ => rfl) (by simp) ?_; clear hS; intro w hS; try simp only [putW]) | (refine load1 hS rfl rfl rfl rfl ?_; simp only [putW]) | (refine loadAll hS rfl rfl rfl ?_ ?_; rfl; simp only [putW]) | (refine loadPart hS rfl rfl rfl ?_ rfl ?_; rfl; simp only [putW])); exact ⟨rfl, rfl, hS⟩)); simp only [putW]) | (apply one_step rfl; (focus (intro w hS; go_wp2_with (first | (refine loadB (f := rowF) hS rfl rfl rfl hB n 0 ?_ hx rfl ?_; omega; simp only [putW]) | (go_at_call 18; refine Calls.mono (refDigest_i (k := k) (by omega) HD.out (hr0.mono hS.base) hl) ?_; rintro _ w2 ⟨rfl, h2⟩; replace hS := hS.frame h2; clear h2; (try simp only [List.cons_append, List.nil_append] at hS); simp only [putW]) | (refine storeAllA (vv := u8v) hS rfl rfl rfl D rfl hdl.out (fun _ _ => rfl) (by simp) ?_; clear hS; intro w hS; try simp only [putW]) | (refine load1 hS rfl rfl rfl rfl ?_; simp only [putW]) | (refine loadAll hS rfl rfl rfl ?_ ?_; rfl; simp only [putW]) | (refine loadPart hS rfl rfl rfl ?_ rfl ?_; rfl; simp only [putW])); exact ⟨rfl, rfl, hS⟩)); (focus (intro w hS; go_wp2_with (first | (refine loadB (f := rowF) hS rfl rfl rfl hB n 0 ?_ hx rfl ?_; omega; simp only [putW]) | (go_at_call 18; refine Calls.mono (refDigest_i (k := k) (by omega) HD.out (hr0.mono hS.base) hl) ?_; rintro _ w2 ⟨rfl, h2⟩; replace hS := hS.frame h2; clear h2; (try simp only [List.cons_append, List.nil_append] at hS); simp only [putW]) | (refine storeAllA (vv := u8v) hS rfl rfl rfl D rfl hdl.out (fun _ _ => rfl) (by simp) ?_; clear hS; intro w hS; try simp only [putW]) | (refine load1 hS rfl rfl rfl rfl ?_; simp only [putW]) | (refine loadAll hS rfl rfl rfl ?_ ?_; rfl; simp only [putW]) | (refine loadPart hS rfl rfl rfl ?_ rfl ?_; rfl; simp only [putW])); exact ⟨rfl, rfl, hS⟩)); simp only [putW]) | (refine one_here rfl (v := undef) ?_ ?_; (focus (intro w hS; go_wp2_with (first | (refine loadB (f := rowF) hS rfl rfl rfl hB n 0 ?_ hx rfl ?_; omega; simp only [putW]) | (go_at_call 18; refine Calls.mono (refDigest_i (k := k) (by omega) HD.out (hr0.mono hS.base) hl) ?_; rintro _ w2 ⟨rfl, h2⟩; replace hS := hS.frame h2; clear h2; (try simp only [List.cons_append, List.nil_append] at hS); simp only [putW]) | (refine storeAllA (vv := u8v) hS rfl rfl rfl D rfl hdl.out (fun _ _ => rfl) (by simp) ?_; clear hS; intro w hS; try simp only [putW]) | (refine load1 hS rfl rfl rfl rfl ?_; simp only [putW]) | (refine loadAll hS rfl rfl rfl ?_ ?_; rfl; simp only [putW]) | (refine loadPart hS rfl rfl rfl ?_ rfl ?_; rfl; simp only [putW]) | (refine store1 hS rfl rfl rfl rfl rfl ?_ ?_; (focus (simp; done)); clear hS; intro w hS; simp only [evW, putW] at hS; try simp only [putW]) | (refine storeAll hS rfl rfl rfl rfl ?_ ?_ ?_ ?_; rfl; (focus (simp [Value.oneCell']; done)); rfl; clear hS; intro w hS; try simp only [putW]) | (refine storeN hS rfl rfl rfl rfl ?_ ?_ ?_ ?_; rfl; (focus (simp [Value.oneCell']; done)); (focus (simp; done)); clear hS; intro w hS; simp at hS; try simp only [putW]) | (refine alloc hS rfl rfl ?_; clear hS; intro mb w hS; simp only [putW]) | (refine box1 hS rfl rfl rfl rfl ?_; clear hS; intro mb w hS; try simp only [evW, putW] at hS; simp only [putW]) | (refine boxN hS rfl rfl rfl ?_; clear hS; intro mb w hS; simp only [putW])); (first | exact ⟨rfl, rfl, hS⟩ | exact ⟨rfl, rfl, hS.conv⟩))); simp only [putW]))); refine one_nil ?_; intro w hS)
  go_wp2_with (first | (refine load1 hS rfl rfl rfl rfl ?_; simp only [putW]) | (refine loadAll hS rfl rfl rfl ?_ ?_; rfl; simp only [putW]) | (refine loadPart hS rfl rfl rfl ?_ rfl ?_; rfl; simp only [putW]) | (refine store1 hS rfl rfl rfl rfl rfl ?_ ?_; (focus (simp; done)); clear hS; intro w hS; simp only [evW, putW] at hS; try simp only [putW]) | (refine storeAll hS rfl rfl rfl rfl ?_ ?_ ?_ ?_; rfl; (focus (simp [Value.oneCell']; done)); rfl; clear hS; intro w hS; try simp only [putW]) | (refine storeN hS rfl rfl rfl rfl ?_ ?_ ?_ ?_; rfl; (focus (simp [Value.oneCell']; done)); (focus (simp; done)); clear hS; intro w hS; simp at hS; try simp only [putW]) | (refine alloc hS rfl rfl ?_; clear hS; intro mb w hS; simp only [putW]) | (refine box1 hS rfl rfl rfl rfl ?_; clear hS; intro mb w hS; try simp only [evW, putW] at hS; simp only [putW]) | (refine boxN hS rfl rfl rfl ?_; clear hS; intro mb w hS; simp only [putW]))
  have hr := run_loadAll (P := Tryd.prog) hS mo 29 (by simpa using hdl.out)
  refine bodyPost_ret (v := .agg (D.map u8v).toArray) (by simp [results, Tryd.results13, asAddr, hr]) rfl ⟨rfl, hS.nothing⟩
end
end Go.Proofs.YteiglillnogoaaaDoor
