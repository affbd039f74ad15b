/-
  GhostNil: the walk.
-/
import Derived.Test.YteoidocicjlglaaDoorGhNils
import Derived.Test.YteoidocicjlglaaDoorGhAwake
import Derived.Test.YteoidocicjlglaaDoorGhAct
import Derived.Test.YteoidocicjlglaaDoorShaR
set_option linter.unusedSimpArgs false
set_option linter.unusedVariables false
namespace Go.Proofs.YteoidocicjlglaaDoor.GhostNilDone
open Go.RowKit Go.Proofs.YteoidocicjlglaaDoor Go.Proofs.YteoidocicjlglaaDoor.Sl Go.Proofs.YteoidocicjlglaaDoor.Sha Go.Proofs.YteoidocicjlglaaDoor.Jp

theorem zT_rd (w : World) : TupRd w (.slice none 0 0, .slice none 0 0, zT) := by
  refine ⟨⟨⟨by decide, by decide⟩, ⟨rfl, fun b hb => ?_⟩, ⟨by decide, fun b hb => by cases hb⟩, by decide, fun b hb => by cases hb⟩, okNil w, okNil w⟩
  have : b = 0 := by simpa [zT] using hb
  subst this
  unfold okByte
  omega
abbrev D1 : List Int := [1, 0, 0, 0, 0, 0, 0, 0, 0, 0, 0, 0, 0, 0, 0, 0, 0, 0, 0, 0, 0, 0, 0, 0, 0, 0, 0, 0, 0, 0, 0, 0]
section
variable {w0 : World} {va : Value} {A : List Int} {pv : List Value}
set_option maxRecDepth 100000 in
set_option maxHeartbeats 4000000 in
theorem core (hA : RB w0 A va) (hpv : pv.length = 15) (hK : KTab w0) : Calls Tryd.prog 8 #[va, .agg pv.toArray] w0 fun e w' => e = .returned (.bool true) ∧ Sat w0 [] w' := by
  have hS := Sat.refl w0
  obtain ⟨q0, c0, rfl, hl0, -⟩ := hA.at
  obtain ⟨n0, hn0⟩ : ∃ n, A.length = n := ⟨_, rfl⟩
  have Hn0 : Bx _ := ⟨hn0⟩
  rw [hn0] at hA hl0 ⊢
  have HA : Bx _ := ⟨hA⟩
  have Hpl : Bx _ := ⟨hpv⟩
  clear hA hpv hn0
  go_enter Tryd.func8, Tryd.ntmps8
  by_cases hg : n0 ≤ 20000
  · obtain ⟨pz, hpz⟩ : ∃ pz, tupF (.slice none 0 0, .slice none 0 0, zT) = pz := ⟨_, rfl⟩
    have Hpz : Bx _ := ⟨hpz⟩
    have Hpzl : Bx (pz.length = 15) := ⟨by rw [← hpz]; rfl⟩
    have Hpzc : Bx (∀ u ∈ pz, u.oneCell' = true) := ⟨by rw [← hpz]; exact tupF_cell rfl rfl⟩
    have Hpze : Bx ((Value.agg #[.int .u32 0, .int .u8 0, .int .u8 0, .int .u8 0, .int .u8 0, .int .u8 0, .int .u8 0, .int .u8 0, .int .u8 0, .int .u8 0, .int .u8 0, .int .u8 0, .int .u8 0, .slice none 0 0, .slice none 0 0]) = .agg pz.toArray) := ⟨by rw [← hpz]; rfl⟩
    have hzz : eqT zT zT = true := by decide
    clear hpz
    have hOfl : A.length ≤ 100000000 := by rw [Hn0.out]; omega
    have HCL : Bx ((cat [((.slice q0 n0 c0 : Value), A)]).length ≤ 100000000000) := ⟨by rw [cat_one, Hn0.out]; omega⟩
    go_wp2_with (first | (refine boxN (cs := pv.toArray) hS rfl rfl rfl ?_; clear hS; intro m3 w hS; simp only [putW]) | (guard_target =~ Calls _ 25 _ _ _; refine Stopped.out ?_) | (refine load1 hS rfl rfl rfl rfl ?_; simp only [putW]) | (refine loadAll hS rfl rfl rfl ?_ ?_; rfl; simp only [putW]) | (refine loadPart hS rfl rfl rfl ?_ rfl ?_; rfl; simp only [putW]) | (refine store1 hS rfl rfl rfl rfl rfl ?_ ?_; (focus (simp; done)); clear hS; intro w hS; simp only [evW, putW] at hS; try simp only [putW]) | (refine storeAll hS rfl rfl rfl rfl ?_ ?_ ?_ ?_; rfl; (focus (simp [Value.oneCell']; done)); rfl; clear hS; intro w hS; try simp only [putW]) | (refine storeN hS rfl rfl rfl rfl ?_ ?_ ?_ ?_; rfl; (focus (simp [Value.oneCell']; done)); (focus (simp; done)); clear hS; intro w hS; simp at hS; try simp only [putW]) | (refine alloc hS rfl rfl ?_; clear hS; intro mb w hS; simp only [putW]) | (refine box1 hS rfl rfl rfl rfl ?_; clear hS; intro mb w hS; try simp only [evW, putW] at hS; simp only [putW]) | (refine boxN hS rfl rfl rfl ?_; clear hS; intro mb w hS; simp only [putW]))
    refine ⟨?_⟩
    (refine Calls.mono (note_nil _ _ D1) ?_; rintro _ w2 ⟨rfl, h2⟩; replace hS := hS.frame h2; clear h2; (try simp only [List.cons_append, List.nil_append] at hS); simp only [putW])
    go_wp2_with (first | (refine loadAll (c := pv.toArray) hS rfl rfl rfl Hpl.out ?_; simp only [putW]) | (go_at_call 26; refine Calls.mono (sealed_nil Hpl.out) ?_; rintro _ w2 ⟨rfl, h2⟩; replace hS := hS.frame h2; clear h2; (try simp only [List.cons_append, List.nil_append] at hS); simp only [putW]) | (go_at_call 27; refine Calls.mono (opened_nil Hpl.out) ?_; rintro _ w2 ⟨rfl, h2⟩; replace hS := hS.frame h2; clear h2; (try simp only [List.cons_append, List.nil_append] at hS); simp only [putW]) | (go_at_call 23; refine Calls.mono (count_nil) ?_; rintro _ w2 ⟨rfl, h2⟩; replace hS := hS.frame h2; clear h2; (try simp only [List.cons_append, List.nil_append] at hS); simp only [putW]) | (go_at_call 13; refine Calls.mono (clash_nil) ?_; rintro _ w2 ⟨rfl, h2⟩; replace hS := hS.frame h2; clear h2; (try simp only [List.cons_append, List.nil_append] at hS); simp only [putW]) | (guard_target =~ Calls _ 16 _ _ _; refine Stopped.out ?_) | (refine load1 hS rfl rfl rfl rfl ?_; simp only [putW]) | (refine loadAll hS rfl rfl rfl ?_ ?_; rfl; simp only [putW]) | (refine loadPart hS rfl rfl rfl ?_ rfl ?_; rfl; simp only [putW]) | (refine store1 hS rfl rfl rfl rfl rfl ?_ ?_; (focus (simp; done)); clear hS; intro w hS; simp only [evW, putW] at hS; try simp only [putW]) | (refine storeAll hS rfl rfl rfl rfl ?_ ?_ ?_ ?_; rfl; (focus (simp [Value.oneCell']; done)); rfl; clear hS; intro w hS; try simp only [putW]) | (refine storeN hS rfl rfl rfl rfl ?_ ?_ ?_ ?_; rfl; (focus (simp [Value.oneCell']; done)); (focus (simp; done)); clear hS; intro w hS; simp at hS; try simp only [putW]) | (refine alloc hS rfl rfl ?_; clear hS; intro mb w hS; simp only [putW]) | (refine box1 hS rfl rfl rfl rfl ?_; clear hS; intro mb w hS; try simp only [evW, putW] at hS; simp only [putW]) | (refine boxN hS rfl rfl rfl ?_; clear hS; intro mb w hS; simp only [putW]))
    refine ⟨?_⟩
    (refine Calls.mono (forged_nil) ?_; rintro _ w2 ⟨rfl, h2⟩; replace hS := hS.frame h2; clear h2; (try simp only [List.cons_append, List.nil_append] at hS); simp only [putW])
    rw [Hpz.out]
    go_wp2_with (first | (refine alloc (t := 46) hS rfl rfl ?_; clear hS; intro m12 w hS; simp only [putW]) | (refine storeAll (cs := pz.toArray) hS rfl rfl rfl rfl ?_ ?_ ?_ ?_; (focus exact Hpzl.out); (focus exact Hpzc.out); (focus rfl); clear hS; intro w hS; try simp only [putW]) | (guard_target =~ Calls _ 22 _ _ _; refine Stopped.out ?_) | (refine load1 hS rfl rfl rfl rfl ?_; simp only [putW]) | (refine loadAll hS rfl rfl rfl ?_ ?_; rfl; simp only [putW]) | (refine loadPart hS rfl rfl rfl ?_ rfl ?_; rfl; simp only [putW]) | (refine store1 hS rfl rfl rfl rfl rfl ?_ ?_; (focus (simp; done)); clear hS; intro w hS; simp only [evW, putW] at hS; try simp only [putW]) | (refine storeAll hS rfl rfl rfl rfl ?_ ?_ ?_ ?_; rfl; (focus (simp [Value.oneCell']; done)); rfl; clear hS; intro w hS; try simp only [putW]) | (refine storeN hS rfl rfl rfl rfl ?_ ?_ ?_ ?_; rfl; (focus (simp [Value.oneCell']; done)); (focus (simp; done)); clear hS; intro w hS; simp at hS; try simp only [putW]) | (refine alloc hS rfl rfl ?_; clear hS; intro mb w hS; simp only [putW]) | (refine box1 hS rfl rfl rfl rfl ?_; clear hS; intro mb w hS; try simp only [evW, putW] at hS; simp only [putW]) | (refine boxN hS rfl rfl rfl ?_; clear hS; intro mb w hS; simp only [putW]))
    refine ⟨?_⟩
    (refine Calls.mono (twice_nil) ?_; rintro _ w2 ⟨rfl, h2⟩; replace hS := hS.frame h2; clear h2; (try simp only [List.cons_append, List.nil_append] at hS); simp only [putW])
    rw [Hpz.out]
    have tok : True := trivial
    go_wp2_with (first | (guard_target =~ wpList _ _ _ (Oper.mk (some 17) _ _ _ _ _ :: _) _ _; refine Stopped.out ?_) | (have _t := tok; refine alloc (t := 46) hS rfl rfl ?_; clear hS tok; intro m14 w hS; simp only [putW]) | (refine alloc (t := 46) hS rfl rfl ?_; clear hS; intro m15 w hS; simp only [putW]) | (refine storeAll (cs := pz.toArray) hS rfl rfl rfl rfl ?_ ?_ ?_ ?_; (focus exact Hpzl.out); (focus exact Hpzc.out); (focus rfl); clear hS; intro w hS; try simp only [putW]) | (refine load1 hS rfl rfl rfl rfl ?_; simp only [putW]) | (refine loadAll hS rfl rfl rfl ?_ ?_; rfl; simp only [putW]) | (refine loadPart hS rfl rfl rfl ?_ rfl ?_; rfl; simp only [putW]) | (refine store1 hS rfl rfl rfl rfl rfl ?_ ?_; (focus (simp; done)); clear hS; intro w hS; simp only [evW, putW] at hS; try simp only [putW]) | (refine storeAll hS rfl rfl rfl rfl ?_ ?_ ?_ ?_; rfl; (focus (simp [Value.oneCell']; done)); rfl; clear hS; intro w hS; try simp only [putW]) | (refine storeN hS rfl rfl rfl rfl ?_ ?_ ?_ ?_; rfl; (focus (simp [Value.oneCell']; done)); (focus (simp; done)); clear hS; intro w hS; simp at hS; try simp only [putW]) | (refine alloc hS rfl rfl ?_; clear hS; intro mb w hS; simp only [putW]) | (refine box1 hS rfl rfl rfl rfl ?_; clear hS; intro mb w hS; try simp only [evW, putW] at hS; simp only [putW]) | (refine boxN hS rfl rfl rfl ?_; clear hS; intro mb w hS; simp only [putW]))
    refine ⟨?_⟩
    rw [Hpze.out]
    go_wp2_with (first | (refine alloc (t := 46) hS rfl rfl ?_; clear hS; intro m17 w hS; simp only [putW]) | (refine storeAll (cs := pz.toArray) hS rfl rfl rfl rfl ?_ ?_ ?_ ?_; (focus exact Hpzl.out); (focus exact Hpzc.out); (focus rfl); clear hS; intro w hS; try simp only [putW]) | (refine buildSlice1 (c := #[.slice q0 n0 c0]) hS rfl rfl rfl ?_ ?_ ?_ ?_; rfl; rfl; rfl; clear hS; intro mb w hS; simp only [putW]) | (guard_target =~ Calls _ 19 _ _ _; refine Stopped.out ?_) | (refine load1 hS rfl rfl rfl rfl ?_; simp only [putW]) | (refine loadAll hS rfl rfl rfl ?_ ?_; rfl; simp only [putW]) | (refine loadPart hS rfl rfl rfl ?_ rfl ?_; rfl; simp only [putW]) | (refine store1 hS rfl rfl rfl rfl rfl ?_ ?_; (focus (simp; done)); clear hS; intro w hS; simp only [evW, putW] at hS; try simp only [putW]) | (refine storeAll hS rfl rfl rfl rfl ?_ ?_ ?_ ?_; rfl; (focus (simp [Value.oneCell']; done)); rfl; clear hS; intro w hS; try simp only [putW]) | (refine storeN hS rfl rfl rfl rfl ?_ ?_ ?_ ?_; rfl; (focus (simp [Value.oneCell']; done)); (focus (simp; done)); clear hS; intro w hS; simp at hS; try simp only [putW]) | (refine alloc hS rfl rfl ?_; clear hS; intro mb w hS; simp only [putW]) | (refine box1 hS rfl rfl rfl rfl ?_; clear hS; intro mb w hS; try simp only [evW, putW] at hS; simp only [putW]) | (refine boxN hS rfl rfl rfl ?_; clear hS; intro mb w hS; simp only [putW]))
    refine ⟨?_⟩
    obtain ⟨DD, hDD⟩ : ∃ DD, shaF A = DD := ⟨_, rfl⟩
    have HDD : Bx _ := ⟨hDD⟩
    have HDD32 : Bx (DD.length = 32) := ⟨by rw [← hDD]; exact dig_len _⟩
    have HDDb : Bx (∀ b ∈ DD, okByte b) := ⟨by rw [← hDD]; exact dig_byte _⟩
    have hEq : ∀ w : World, (Op.equalIn 10000 35 (.agg (DD.map u8v).toArray) (.agg (DD.map u8v).toArray)).run Tryd.prog w = .ok true w := fun w => by
      rw [eq32 HDD32.out HDD32.out HDDb.out HDDb.out, decide_eq_true rfl]
    clear hDD
    (refine Calls.mono (hash_nil (litRR hS (HA.out.mono hS.base)) (hK.mono hS.base) HCL.out) ?_; rintro _ w2 ⟨rfl, h2⟩; replace hS := hS.frame h2; clear h2; (try simp only [List.cons_append, List.nil_append] at hS); simp only [putW])
    rw [cat_one, HDD.out]
    go_wp2_with (first | (guard_target =~ Calls _ 20 _ _ _; refine Stopped.out ?_) | (refine load1 hS rfl rfl rfl rfl ?_; simp only [putW]) | (refine loadAll hS rfl rfl rfl ?_ ?_; rfl; simp only [putW]) | (refine loadPart hS rfl rfl rfl ?_ rfl ?_; rfl; simp only [putW]) | (refine store1 hS rfl rfl rfl rfl rfl ?_ ?_; (focus (simp; done)); clear hS; intro w hS; simp only [evW, putW] at hS; try simp only [putW]) | (refine storeAll hS rfl rfl rfl rfl ?_ ?_ ?_ ?_; rfl; (focus (simp [Value.oneCell']; done)); rfl; clear hS; intro w hS; try simp only [putW]) | (refine storeN hS rfl rfl rfl rfl ?_ ?_ ?_ ?_; rfl; (focus (simp [Value.oneCell']; done)); (focus (simp; done)); clear hS; intro w hS; simp at hS; try simp only [putW]) | (refine alloc hS rfl rfl ?_; clear hS; intro mb w hS; simp only [putW]) | (refine box1 hS rfl rfl rfl rfl ?_; clear hS; intro mb w hS; try simp only [evW, putW] at hS; simp only [putW]) | (refine boxN hS rfl rfl rfl ?_; clear hS; intro mb w hS; simp only [putW]))
    refine ⟨?_⟩
    (refine Calls.mono (refOf_any (HA.out.mono hS.base) hOfl) ?_; rintro _ w2 ⟨rfl, h2⟩; replace hS := hS.frame h2; clear h2; (try simp only [List.cons_append, List.nil_append] at hS); simp only [putW])
    rw [HDD.out]
    go_wp2_with (first | (refine loadAll (c := pz.toArray) hS rfl rfl rfl Hpzl.out ?_; simp only [putW]) | ((go_at_call 17; refine Calls.mono (sameT_any Hpz.out Hpz.out (zT_rd _) (zT_rd _)) ?_; rintro _ w2 ⟨rfl, h2⟩; replace hS := hS.frame h2; clear h2; (try simp only [List.cons_append, List.nil_append] at hS); simp only [putW]); rw [hzz]) | (go_at_call 24; refine Calls.mono (blocks_nil) ?_; rintro _ w2 ⟨rfl, h2⟩; replace hS := hS.frame h2; clear h2; (try simp only [List.cons_append, List.nil_append] at hS); simp only [putW]) | (go_at_call 10; refine Calls.mono (awakeG_any) ?_; rintro _ w2 ⟨rfl, h2⟩; replace hS := hS.frame h2; clear h2; (try simp only [List.cons_append, List.nil_append] at hS); simp only [putW]) | (refine load1 hS rfl rfl rfl rfl ?_; simp only [putW]) | (refine loadAll hS rfl rfl rfl ?_ ?_; rfl; simp only [putW]) | (refine loadPart hS rfl rfl rfl ?_ rfl ?_; rfl; simp only [putW]) | (refine store1 hS rfl rfl rfl rfl rfl ?_ ?_; (focus (simp; done)); clear hS; intro w hS; simp only [evW, putW] at hS; try simp only [putW]) | (refine storeAll hS rfl rfl rfl rfl ?_ ?_ ?_ ?_; rfl; (focus (simp [Value.oneCell']; done)); rfl; clear hS; intro w hS; try simp only [putW]) | (refine storeN hS rfl rfl rfl rfl ?_ ?_ ?_ ?_; rfl; (focus (simp [Value.oneCell']; done)); (focus (simp; done)); clear hS; intro w hS; simp at hS; try simp only [putW]) | (refine alloc hS rfl rfl ?_; clear hS; intro mb w hS; simp only [putW]) | (refine box1 hS rfl rfl rfl rfl ?_; clear hS; intro mb w hS; try simp only [evW, putW] at hS; simp only [putW]) | (refine boxN hS rfl rfl rfl ?_; clear hS; intro mb w hS; simp only [putW]))
    go_ret
    exact ⟨rfl, hS.nothing⟩
  · go_wp2_with (first | (refine boxN (cs := pv.toArray) hS rfl rfl rfl ?_; clear hS; intro m3 w hS; simp only [putW]) | (go_at_call 10; refine Calls.mono (awakeG_any) ?_; rintro _ w2 ⟨rfl, h2⟩; replace hS := hS.frame h2; clear h2; (try simp only [List.cons_append, List.nil_append] at hS); simp only [putW]) | (refine load1 hS rfl rfl rfl rfl ?_; simp only [putW]) | (refine loadAll hS rfl rfl rfl ?_ ?_; rfl; simp only [putW]) | (refine loadPart hS rfl rfl rfl ?_ rfl ?_; rfl; simp only [putW]) | (refine store1 hS rfl rfl rfl rfl rfl ?_ ?_; (focus (simp; done)); clear hS; intro w hS; simp only [evW, putW] at hS; try simp only [putW]) | (refine storeAll hS rfl rfl rfl rfl ?_ ?_ ?_ ?_; rfl; (focus (simp [Value.oneCell']; done)); rfl; clear hS; intro w hS; try simp only [putW]) | (refine storeN hS rfl rfl rfl rfl ?_ ?_ ?_ ?_; rfl; (focus (simp [Value.oneCell']; done)); (focus (simp; done)); clear hS; intro w hS; simp at hS; try simp only [putW]) | (refine alloc hS rfl rfl ?_; clear hS; intro mb w hS; simp only [putW]) | (refine box1 hS rfl rfl rfl rfl ?_; clear hS; intro mb w hS; try simp only [evW, putW] at hS; simp only [putW]) | (refine boxN hS rfl rfl rfl ?_; clear hS; intro mb w hS; simp only [putW]))
    go_ret
    exact ⟨rfl, hS.nothing⟩
end
end Go.Proofs.YteoidocicjlglaaDoor.GhostNilDone
