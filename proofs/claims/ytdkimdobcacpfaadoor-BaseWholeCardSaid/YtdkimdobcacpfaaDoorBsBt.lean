/-
  base.Boot, whatever waits: the plain function bootP.
-/
import Derived.Test.YtdkimdobcacpfaaDoorBsFi
import Derived.Test.YtdkimdobcacpfaaDoorJbA
set_option linter.unusedSimpArgs false
set_option linter.unusedVariables false
namespace Go.Proofs.YtdkimdobcacpfaaDoor
open Go.RowKit Go.Proofs.YtdkimdobcacpfaaDoor.Sl Go.Proofs.YtdkimdobcacpfaaDoor.Sha Go.Proofs.YtdkimdobcacpfaaDoor.Jp Go.Proofs.YtdkimdobcacpfaaDoor.Tr Go.Proofs.YtdkimdobcacpfaaDoor.Dv

/-- What the end of a boot notes. -/
def endL (hd : Nat) (D : Dev) : List (List Int × List Int) := [(pre (hd - 1) (D.now (hd - 1)),dig (hd - 1) (D.now (hd - 1)))]
/-- What a boot notes where the register is known and its plan fits. -/
def btL (hd hs jn : Nat) (D : Dev) (R : Rg) : List (List Int × List Int) :=
  if D.off then [] else if R.boot = 4294967295 then [] else if (regWrite D R (up1 R)).2.2 ≠ 0 then []
  else if R.busy = false then endL hd (regWrite D R (up1 R)).1
  else if (finishP openR mkF hd hs jn (regWrite D R (up1 R)).1 (up1 R)).2 ≠ 0 then finL hd hs jn (regWrite D R (up1 R)).1 (up1 R)
  else if (regWrite (finishP openR mkF hd hs jn (regWrite D R (up1 R)).1 (up1 R)).1 (up1 R) (calm (up1 R))).2.2 ≠ 0 then finL hd hs jn (regWrite D R (up1 R)).1 (up1 R)
  else finL hd hs jn (regWrite D R (up1 R)).1 (up1 R) ++ endL hd (regWrite (finishP openR mkF hd hs jn (regWrite D R (up1 R)).1 (up1 R)).1 (up1 R) (calm (up1 R))).1
abbrev bootF (D : Dev) (R : Rg) : Dev × Rg × Rg × Int := bootP openR mkF dig (plH R.pages.toNat) (plHd R.budget.toNat) (plJ R.pages.toNat R.budget.toNat) D R
abbrev bootFL (D : Dev) (R : Rg) : List (List Int × List Int) := btL (plH R.pages.toNat) (plHd R.budget.toNat) (plJ R.pages.toNat R.budget.toNat) D R
section
variable {D : Dev} {R : Rg}
theorem bootN_is (hfit : fits D.st.length R.pages R.budget) (hb : R.busy = false) : bootN D R = bootF D R ∧ bootL D R = bootFL D R := by
  have hp : ¬ R.pages = 0 := by have := hfit.1.1;omega
  have eb : bump R = up1 R := rfl
  have et : ∀ R' : Rg,R'.pages = R.pages → plTop R' = plH R.pages.toNat - 1 := fun R' h => by unfold plTop;rw [h]
  constructor
  · unfold bootN
    show _ = bootP openR mkF dig (plH R.pages.toNat) (plHd R.budget.toNat) (plJ R.pages.toNat R.budget.toNat) D R
    unfold bootP
    by_cases ho : D.off = true
    · rw [if_pos ho,if_pos ho]
    rw [if_neg ho,if_neg ho,if_neg hp,if_neg (not_not_intro hfit)]
    by_cases hm : R.boot = 4294967295
    · rw [if_pos hm,if_pos hm]
    rw [if_neg hm,if_neg hm,eb]
    by_cases hw : (regWrite D R (up1 R)).2.2 ≠ 0
    · rw [if_pos hw,if_pos hw]
    rw [if_neg hw,if_neg hw,if_pos hb]
    have hw0 : (regWrite D R (up1 R)).2.2 = 0 := Classical.byContradiction hw
    have hr := (regWrite_ok hw0).2.2.2
    rw [hr]
    unfold bootEnd endP
    rw [et (up1 R) rfl]
    by_cases hd : dig (plH R.pages.toNat - 1) (D.spend.now (plH R.pages.toNat - 1)) = (up1 R).root
    · rw [if_pos hd,if_pos hd]
    · rw [if_neg hd,if_neg hd]
  · unfold bootL
    show _ = btL (plH R.pages.toNat) (plHd R.budget.toNat) (plJ R.pages.toNat R.budget.toNat) D R
    unfold btL
    by_cases ho : D.off = true
    · rw [if_pos (.inl ho),if_pos ho]
    rw [if_neg ho]
    by_cases hm : R.boot = 4294967295
    · rw [if_pos (.inr (.inr (.inr (.inl hm)))),if_pos hm]
    rw [if_neg hm]
    by_cases hw : (regWrite D R (up1 R)).2.2 ≠ 0
    · rw [if_pos (.inr (.inr (.inr (.inr (by rw [eb];exact hw))))),if_pos hw]
    rw [if_neg hw,if_pos hb,if_neg (by rintro (h | h | h | h | h);exact ho h;exact hp h;exact h hfit;exact hm h;rw [eb] at h;exact hw h)]
    have hw0 : (regWrite D R (up1 R)).2.2 = 0 := Classical.byContradiction hw
    have hr := (regWrite_ok hw0).2.2.2
    rw [hr,et R rfl]
    rfl
end
theorem wrL_sz : ∀ (l : List (Nat × Row)) (D : Dev) {n : Nat},(D.wt.length ≤ n ∧ D.wr.length ≤ n ∧ D.count ≤ n ∧ D.armed ≤ 9223372036854775807) → ((wrL D l).1.wt.length ≤ n + l.length ∧ (wrL D l).1.wr.length ≤ n + l.length ∧ (wrL D l).1.count ≤ n + l.length ∧ (wrL D l).1.armed ≤ 9223372036854775807)
  | [],D,n,h => h
  | (k,b)::l,D,n,h => by
    have h1 := write_sz (k := (k : Int)) (r := b) h
    rw [wrL,List.length_cons]
    split
    · exact ⟨by omega,by omega,by omega,h1.2.2.2⟩
    · have h2 := wrL_sz l (D.write (k : Int) b).1 h1
      exact ⟨by omega,by omega,by omega,h2.2.2.2⟩
theorem flush_szn {D : Dev} {n : Nat} (h : D.wt.length ≤ n ∧ D.wr.length ≤ n ∧ D.count ≤ n ∧ D.armed ≤ 9223372036854775807) : D.flush.1.wt.length ≤ n + 1 ∧ D.flush.1.wr.length ≤ n + 1 ∧ D.flush.1.count ≤ n + 1 ∧ D.flush.1.armed ≤ 9223372036854775807 := by
  unfold Dev.flush
  split
  · exact ⟨by show D.wt.length ≤ _;omega,by show D.wr.length ≤ _;omega,by show D.count ≤ _;omega,h.2.2.2⟩
  · split
    · exact ⟨by show D.wt.length ≤ _;omega,by show D.wr.length ≤ _;omega,by show D.count + 1 ≤ _;omega,by show D.armed - 1 ≤ _;omega⟩
    · exact ⟨by show 0 ≤ _;omega,by show D.wr.length ≤ _;omega,by show D.count + 1 ≤ _;omega,by show D.armed - 1 ≤ _;omega⟩
theorem finish_sz {hd hs jn n b : Nat} {D : Dev} {R : Rg} (hb : R.budget = (b : Int)) (hb2 : b ≤ 256) (h : D.wt.length ≤ n ∧ D.wr.length ≤ n ∧ D.count ≤ n ∧ D.armed ≤ 9223372036854775807) :
    (finishP openR mkF hd hs jn D R).1.wt.length ≤ n + 300 ∧ (finishP openR mkF hd hs jn D R).1.wr.length ≤ n + 300 ∧ (finishP openR mkF hd hs jn D R).1.count ≤ n + 300 ∧ (finishP openR mkF hd hs jn D R).1.armed ≤ 9223372036854775807 := by
  unfold finishP
  split
  · exact ⟨by show D.wt.length ≤ _;omega,by show D.wr.length ≤ _;omega,by show D.count ≤ _;omega,h.2.2.2⟩
  · rename_i hk
    have hk2 : headOk openR mkF hd hs jn D R = true := by simpa using hk
    unfold headOk at hk2
    simp only [Bool.and_eq_true,decide_eq_true_eq] at hk2
    have hlen := (openR_facts hk2.1.1.1).1
    have hl : (imgs openR hd hs jn D R).length ≤ 256 := by
      unfold imgs
      rw [List.length_zip,List.length_map,rowsAt_len,Nat.min_self]
      have e : R.budget.toNat = b := by rw [hb];rfl
      omega
    have h2 := wrL_sz (imgs openR hd hs jn D R) D h
    split
    · exact ⟨by omega,by omega,by omega,h2.2.2.2⟩
    · have h3 := flush_szn h2
      exact ⟨by omega,by omega,by omega,h3.2.2.2⟩
section
variable {w0 w : World} {K F S : List Chunk} {d r : Nat} {D : Dev} {cv lg : Value} {R : Rg} {Ps : List (List Int × List Int)}
theorem up1_wf (h : R.Wf) (hb : R.boot ≠ 4294967295) : (up1 R).Wf := bump_wf h hb
set_option maxRecDepth 100000 in
set_option maxHeartbeats 16000000 in
theorem boot_busy {n0 : Nat} (hsm : D.wt.length ≤ n0 ∧ D.wr.length ≤ n0 ∧ D.count ≤ n0 ∧ D.armed ≤ 9223372036854775807) (hn0 : n0 ≤ 800000) (hR : R.Wf) (hb : R.busy = true) (hfit : fits D.st.length R.pages R.budget) (hP : Ps.length ≤ 800000) (hK : KTab w0) (hS : Sat w0 ((1,LogV lg Ps)::(r,RegC d R)::(d,DevG cv D)::K) w) :
    Calls Tryd.prog 6 #[.pointer (some ⟨d,0,none⟩),.pointer (some ⟨r,0,none⟩),lg] w fun e w' => e = .returned (btRes (bootF D R).2.2.1 (bootF D R).2.2.2) ∧ Sat w0 ((1,LogV lg (Ps ++ bootFL D R))::(r,RegC d (bootF D R).2.1)::(d,DevG cv (bootF D R).1)::K) w' := by
  obtain ⟨o,ho⟩ : ∃ o,D.off = o := ⟨_,rfl⟩
  have HO : Bx _ := ⟨ho⟩
  have HOk : Bx D.Ok := ⟨devOk (hS.pull d (X := DevG cv D))⟩
  have hp0 : R.pages ≠ 0 := by have := hfit.1.1;omega
  obtain ⟨hd,hhd⟩ : ∃ hd,plH R.pages.toNat = hd := ⟨_,rfl⟩
  obtain ⟨hs,hhs⟩ : ∃ hs,plHd R.budget.toNat = hs := ⟨_,rfl⟩
  obtain ⟨jn,hjn⟩ : ∃ jn,plJ R.pages.toNat R.budget.toNat = jn := ⟨_,rfl⟩
  obtain ⟨BN,hBN⟩ : ∃ BN,bootP openR mkF dig hd hs jn D R = BN := ⟨_,rfl⟩
  obtain ⟨BL,hBL⟩ : ∃ BL,btL hd hs jn D R = BL := ⟨_,rfl⟩
  show Calls _ _ _ _ fun e w' => e = .returned (btRes (bootP openR mkF dig (plH R.pages.toNat) (plHd R.budget.toNat) (plJ R.pages.toNat R.budget.toNat) D R).2.2.1 (bootP openR mkF dig (plH R.pages.toNat) (plHd R.budget.toNat) (plJ R.pages.toNat R.budget.toNat) D R).2.2.2) ∧ Sat w0 ((1,LogV lg (Ps ++ btL (plH R.pages.toNat) (plHd R.budget.toNat) (plJ R.pages.toNat R.budget.toNat) D R))::(r,RegC d (bootP openR mkF dig (plH R.pages.toNat) (plHd R.budget.toNat) (plJ R.pages.toNat R.budget.toNat) D R).2.1)::(d,DevG cv (bootP openR mkF dig (plH R.pages.toNat) (plHd R.budget.toNat) (plJ R.pages.toNat R.budget.toNat) D R).1)::K) w'
  rw [hhd,hhs,hjn,hBN,hBL]
  unfold bootP at hBN
  unfold btL at hBL
  have HBN : Bx _ := ⟨hBN⟩
  have HBL : Bx _ := ⟨hBL⟩
  have HFit : Bx _ := ⟨hfit⟩
  have HSm : Bx _ := ⟨hsm⟩
  have HR : Bx _ := ⟨hR⟩
  have HBz : Bx _ := ⟨hb⟩
  have HNm : Bx (plH R.pages.toNat = hd ∧ plHd R.budget.toNat = hs ∧ plJ R.pages.toNat R.budget.toNat = jn) := ⟨hhd,hhs,hjn⟩
  have HL : Bx ((stV R).toArray.size = 72) := ⟨by rw [List.size_toArray];exact stV_len hR⟩
  have Hp0 : Bx _ := ⟨hp0⟩
  clear hBN hBL ho hfit hsm hhd hhs hjn hb hp0
  go_enter Tryd.func6,Tryd.ntmps6
  go_wp2_with (first | (refine allocS (t := 28) hS rfl rfl (stV st0).toArray st0_cells ?_;clear hS;intro m6 w hS;simp only [putW]) | (guard_target =~ Calls _ 20 _ _ _;refine Stopped.out ?_))
  refine ⟨?_⟩
  refine Calls.mono (devUp_any (hS.pull d (X := DevG cv D))) ?_
  rw [HO.out]
  clear hS
  rintro _ w ⟨rfl,hS⟩
  simp only [putW]
  have hfin : ∀ {e : Int} {D1 : Dev} {R1 : Rg} {L : List (List Int × List Int)} {w4 : World},BN = (D1,R1,st0,e) → BL = L → Sat w0 ((m6,cells (stV st0).toArray 28)::(d,DevG cv D1)::(r,RegC d R1)::(1,LogV lg (Ps ++ L))::K) w4 → (loadVar 28 ⟨m6,0,none⟩).run Tryd.prog w4 = .ok (.agg (stV st0).toArray) w4 ∧ (Ending.returned (btRes st0 e) = .returned (btRes BN.2.2.1 BN.2.2.2) ∧ Sat w0 ((1,LogV lg (Ps ++ BL))::(r,RegC d BN.2.1)::(d,DevG cv BN.1)::K) w4) := fun h1 h2 h3 => by
    subst h1;subst h2
    exact ⟨run_loadAll (P := Tryd.prog) h3 m6 28 st0_len,rfl,h3.conv⟩
  cases o with
  | true =>
    have HB1 : Bx (BN = (D,R,st0,7)) := ⟨by rw [← HBN.out,if_pos HO.out]⟩
    have HB2 : Bx (BL = []) := ⟨by rw [← HBL.out,if_pos HO.out]⟩
    go_wp2_with (first | (refine buildS (segs := stSeg st0) (out := stV st0) rfl rfl [] rfl (fun p hp => by cases hp) (stSeg_flat _) ?_;simp only [putW]) | (refine storeAll (b := m6) (cs := (stV st0).toArray) hS rfl rfl rfl rfl st0_len (stOne st0) st0_len ?_;clear hS;intro w hS;try simp only [putW]))
    obtain ⟨h1,h2⟩ := hfin HB1.out HB2.out (by rw [List.append_nil];exact hS.conv)
    exact bodyPost_ret (v := btRes st0 7) (by simp [results,Tryd.results6,asAddr,h1]) rfl h2
  | false =>
    have hno : ¬ D.off = true := by rw [HO.out];simp
    have HNO : Bx _ := ⟨hno⟩
    clear hno
    go_wp2_with (guard_target =~ Calls _ 28 _ _ _;refine Stopped.out ?_)
    refine ⟨?_⟩
    refine Calls.mono (known_any hR Hp0.out (hS.conv (S' := (r,RegC d R)::(d,DevG cv D)::(m6,cells (stV st0).toArray 28)::(1,LogV lg Ps)::K))) ?_
    clear hS
    rintro _ w ⟨pl,e,Tk,hF,rfl,hS⟩
    simp only [putW]
    have HPl : Bx (pl.toArray.size = 10) := ⟨by rw [List.size_toArray];exact hF.len⟩
    have HP1 : Bx _ := ⟨hF.one⟩
    rcases hF with ⟨rfl,rfl,hno,rfl⟩ | ⟨q,c,rfl,rfl,-,rfl⟩
    · exact absurd HFit.out hno
    have hS2 := unpacked hS
    clear hS
    have hS := hS2
    clear hS2
    simp only [List.cons_append,List.nil_append] at hS
    go_upto_region 6 with (first | (refine allocS (t := 28) hS rfl rfl (stV st0).toArray st0_cells ?_;clear hS;intro m8 w hS;simp only [putW]) | (refine alloc (t := 60) hS rfl rfl ?_;clear hS;intro m9 w hS;simp only [putW]) | (refine storeAll (b := m8) (cs := (stV R).toArray) hS rfl rfl rfl rfl HL.out (stOne R) st0_len ?_;clear hS;intro w hS;try simp only [putW]) | (refine storeAll (b := m9) (cs := (planV R.pages.toNat R.budget.toNat (.slice q (nI (plLv R.pages.toNat)).length c)).toArray) hS rfl rfl rfl rfl HPl.out HP1.out ?_ ?_;(focus rfl);clear hS;intro w hS;try simp only [putW]))
    by_cases hmx : R.boot = 4294967295
    · have HB1 : Bx (BN = (D,R,st0,13)) := ⟨by rw [← HBN.out,if_neg HNO.out,if_pos hmx]⟩
      have HB2 : Bx (BL = []) := ⟨by rw [← HBL.out,if_neg HNO.out,if_pos hmx]⟩
      have HC3 : Bx (CellIs (stV R).toArray 3 (.int .u32 4294967295)) := ⟨by rw [← hmx];exact stCell3 R⟩
      have HS3 : Bx ((stV R).toArray.setIfInBounds 3 (.int .u32 0) = (stV { R with boot := 0 }).toArray) := ⟨stSet3 R 0⟩
      have HC4 : Bx (CellIs (stV { R with boot := 0 }).toArray 3 (.int .u32 0)) := ⟨stCell3 _⟩
      clear hmx
      go_wp2_with (first | (refine loadC (b := m8) (c := (stV R).toArray) hS rfl rfl rfl HC3.out ?_;simp only [putW]) | (refine store1 (v := .int .u32 0) (b := m8) (c := (stV R).toArray) hS rfl rfl rfl rfl rfl ?_ ?_;(focus (rw [HL.out];decide));clear hS;intro w hS;rw [HS3.out] at hS;try simp only [putW]) | (refine loadC (b := m8) (c := (stV { R with boot := 0 }).toArray) hS rfl rfl rfl HC4.out ?_;simp only [putW]) | (refine buildS (segs := stSeg st0) (out := stV st0) rfl rfl [] rfl (fun p hp => by cases hp) (stSeg_flat _) ?_;simp only [putW]) | (refine storeAll (b := m6) (cs := (stV st0).toArray) hS rfl rfl rfl rfl st0_len (stOne st0) st0_len ?_;clear hS;intro w hS;try simp only [putW]))
      obtain ⟨h1,h2⟩ := hfin HB1.out HB2.out (by rw [List.append_nil];exact hS.conv)
      exact bodyPost_ret (v := btRes st0 13) (by simp [results,Tryd.results6,asAddr,h1]) rfl h2
    have hbw := up1_wf hR hmx
    obtain ⟨B,hB⟩ : ∃ B,up1 R = B := ⟨_,rfl⟩
    have HB : Bx _ := ⟨hB⟩
    rw [hB] at hbw
    have hx0 : 0 ≤ R.boot + 1 := by have := hR.boot.1;omega
    have hx1 : R.boot + 1 < 4294967296 := by have := hR.boot.2;omega
    have HC3 : Bx (CellIs (stV R).toArray 3 (.int .u32 R.boot)) := ⟨stCell3 R⟩
    have HS3 : Bx ((stV R).toArray.setIfInBounds 3 (.int .u32 (R.boot + 1)) = (stV B).toArray) := ⟨by rw [stSet3 R (R.boot + 1),← hB];rfl⟩
    have HC4 : Bx (CellIs (stV B).toArray 3 (.int .u32 (R.boot + 1))) := ⟨by rw [← hB];exact stCell3 _⟩
    have HC7 : Bx (CellIs (stV B).toArray 7 (.bool true)) := ⟨by have h7 := stCell7 B;rw [show B.busy = true by rw [← hB];exact HBz.out] at h7;exact h7⟩
    have HBl : Bx ((stV B).toArray.size = 72) := ⟨by rw [List.size_toArray];exact stV_len hbw⟩
    have HBw : Bx _ := ⟨hbw⟩
    have HMX : Bx _ := ⟨hmx⟩
    have dx : decide (R.boot + 1 = 0) = false := decide_eq_false (by have := hR.boot.1;omega)
    have dxb : (R.boot + 1 == 0) = false := by simpa using (show R.boot + 1 ≠ 0 by have := hR.boot.1;omega)
    obtain ⟨W,hW⟩ : ∃ W,regWrite D R B = W := ⟨_,rfl⟩
    have HW : Bx _ := ⟨hW⟩
    clear hmx hW hB hbw
    go_wp2_with (first | (refine loadC (b := m8) (c := (stV R).toArray) hS rfl rfl rfl HC3.out ?_;simp only [putW]) | (refine store1 (v := .int .u32 (R.boot + 1)) (b := m8) (c := (stV R).toArray) hS rfl rfl rfl rfl rfl ?_ ?_;(focus (rw [HL.out];decide));clear hS;intro w hS;rw [HS3.out] at hS;try simp only [putW]) | (refine loadC (b := m8) (c := (stV B).toArray) hS rfl rfl rfl HC4.out ?_;simp only [putW]) | (refine loadAll (b := m8) (c := (stV B).toArray) hS rfl rfl rfl HBl.out ?_;simp only [putW]) | (guard_target =~ Calls _ 29 _ _ _;refine Stopped.out ?_))
    refine ⟨?_⟩
    refine Calls.mono (regWrite_any ⟨by have := HSm.out.1;omega,by have := HSm.out.2.1;omega,by have := HSm.out.2.2.1;omega,HSm.out.2.2.2⟩ hR HBw.out (hS.conv (S' := (r,RegC d R)::(d,DevG cv D)::(m8,cells (stV B).toArray 28)::(m9,cells (planV R.pages.toNat R.budget.toNat (.slice q (nI (plLv R.pages.toNat)).length c)).toArray 60)::(m6,cells (stV st0).toArray 28)::(1,LogV lg Ps)::K))) ?_
    rw [HW.out]
    obtain ⟨D1,R1,cd⟩ := W
    clear hS
    rintro _ w ⟨rfl,hS⟩
    simp only [putW]
    replace hS : Sat w0 ((r,RegC d R1)::(d,DevG cv D1)::(m8,cells (stV B).toArray 28)::(m9,cells (planV R.pages.toNat R.budget.toNat (.slice q (nI (plLv R.pages.toNat)).length c)).toArray 60)::(m6,cells (stV st0).toArray 28)::(1,LogV lg Ps)::K) w := hS
    by_cases hcd : cd = 0
    rotate_left
    · have d9 : decide (cd = 0) = false := decide_eq_false hcd
      have d9b : (cd == 0) = false := by simpa using hcd
      have d9c : (cd != 0) = true := by simpa using hcd
      have HB1 : Bx (BN = (D1,R1,st0,cd)) := ⟨by rw [← HBN.out,if_neg HNO.out,if_neg HMX.out,HB.out,HW.out,if_pos hcd]⟩
      have HB2 : Bx (BL = []) := ⟨by rw [← HBL.out,if_neg HNO.out,if_neg HMX.out,HB.out,HW.out,if_pos hcd]⟩
      clear hcd
      go_wp2_with (first | (refine buildS (segs := stSeg st0) (out := stV st0) rfl rfl [] rfl (fun p hp => by cases hp) (stSeg_flat _) ?_;simp only [putW]) | (refine storeAll (b := m6) (cs := (stV st0).toArray) hS rfl rfl rfl rfl st0_len (stOne st0) st0_len ?_;clear hS;intro w hS;try simp only [putW]))
      obtain ⟨h1,h2⟩ := hfin HB1.out HB2.out (by rw [List.append_nil];exact hS.conv)
      exact bodyPost_ret (v := btRes st0 cd) (by simp [results,Tryd.results6,asAddr,h1]) rfl h2
    subst hcd
    have hok := regWrite_ok (D := D) (R := R) (s := B) (by rw [HW.out])
    have hWe := hok.2.2.2
    rw [HW.out] at hWe
    have e1 : D1 = D.spend := congrArg (·.1) hWe
    have e2 : R1 = B := congrArg (·.2.1) hWe
    have hoff1 : D1.off = false := by rw [e1];exact hok.2.2.1
    have hst1 : D1.st = D.st := by rw [e1];rfl
    have hsm1 : D1.wt.length ≤ n0 + 1 ∧ D1.wr.length ≤ n0 + 1 ∧ D1.count ≤ n0 + 1 ∧ D1.armed ≤ 9223372036854775807 := by
      rw [e1]
      have h := HSm.out
      exact ⟨by show D.wt.length ≤ _;omega,by show D.wr.length ≤ _;omega,by show D.count + 1 ≤ _;omega,by show D.armed - 1 ≤ _;omega⟩
    subst e2
    have HOff1 : Bx _ := ⟨hoff1⟩
    have HSt1 : Bx _ := ⟨hst1⟩
    have HSm1 : Bx _ := ⟨hsm1⟩
    clear hok hWe e1 hoff1 hst1 hsm1
    obtain ⟨b,hbn⟩ : ∃ b,R.budget.toNat = b := ⟨_,rfl⟩
    have hpb := HFit.out.1
    have hbb : R1.budget = (b : Int) := by
      have h3 := hpb.2.2.1
      rw [← HB.out]
      show R.budget = _
      omega
    have hb1 : 1 ≤ b := by have := hpb.2.2.1;omega
    have hb2 : b ≤ 256 := by have := hpb.2.2.2;omega
    have htot : plT R.pages.toNat b ≤ D1.st.length := by rw [HSt1.out,← hbn];exact HFit.out.2.2
    obtain ⟨P,hPn⟩ : ∃ P,R.pages.toNat = P := ⟨_,rfl⟩
    have HNm2 : Bx (plH P = hd ∧ plHd b = hs ∧ plJ P b = jn) := ⟨by rw [← hPn,← hbn];exact HNm.out⟩
    have HTot : Bx (plT P b ≤ D1.st.length) := ⟨by rw [← hPn];exact htot⟩
    have HBb : Bx _ := ⟨hbb⟩
    have HPb : Bx (R.pages.toNat = P ∧ R.budget.toNat = b) := ⟨hPn,hbn⟩
    have hP4 : P ≤ 4096 := by have := hpb.2.1;omega
    have hP1 : 1 ≤ P := by have := hpb.1;omega
    clear htot hbn hpb hPn hbb
    obtain ⟨FP,hFP⟩ : ∃ FP,finishP openR mkF hd hs jn D1 R1 = FP := ⟨_,rfl⟩
    obtain ⟨FL,hFL⟩ : ∃ FL,finL hd hs jn D1 R1 = FL := ⟨_,rfl⟩
    have HFP : Bx _ := ⟨hFP⟩
    have HFL : Bx _ := ⟨hFL⟩
    have HFLl : Bx (FL.length ≤ 1) := ⟨by rw [← hFL];unfold finL;split <;> simp⟩
    clear hFP hFL
    have HBN2 : Bx ((if FP.2 ≠ 0 then (FP.1,R1,st0,FP.2) else if (regWrite FP.1 R1 (calm R1)).2.2 ≠ 0 then ((regWrite FP.1 R1 (calm R1)).1,(regWrite FP.1 R1 (calm R1)).2.1,st0,(regWrite FP.1 R1 (calm R1)).2.2) else endP dig hd (regWrite FP.1 R1 (calm R1)).1 (calm R1)) = BN ∧ (if FP.2 ≠ 0 then FL else if (regWrite FP.1 R1 (calm R1)).2.2 ≠ 0 then FL else FL ++ endL hd (regWrite FP.1 R1 (calm R1)).1) = BL) := ⟨by
      have h1 := HBN.out
      have h2 := HBL.out
      rw [if_neg HNO.out,if_neg HMX.out,HB.out,HW.out,if_neg (fun h => h rfl),if_neg (by rw [HBz.out];simp)] at h1 h2
      simp only [HFP.out,HFL.out] at h1 h2
      exact ⟨h1,h2⟩⟩
    clear HBN HBL
    go_wp2_with (first | (refine loadC (b := m8) (c := (stV R1).toArray) hS rfl rfl rfl HC7.out ?_;simp only [putW]) | (refine loadAll (b := m8) (c := (stV R1).toArray) hS rfl rfl rfl HBl.out ?_;simp only [putW]) | (refine loadAll (b := m9) (c := (planV R.pages.toNat R.budget.toNat (.slice q (nI (plLv R.pages.toNat)).length c)).toArray) hS rfl rfl rfl rfl ?_;simp only [putW]) | (guard_target =~ Calls _ 30 _ _ _;refine Stopped.out ?_))
    refine ⟨?_⟩
    have hfi := finish_any (lg := lg) (d := d) (cv := cv) (P := P) (b := b) (lv := .slice q (nI (plLv R.pages.toNat)).length c) (K := (r,RegC d R1)::(m8,cells (stV R1).toArray 28)::(m9,cells (planV R.pages.toNat R.budget.toNat (.slice q (nI (plLv R.pages.toNat)).length c)).toArray 60)::(m6,cells (stV st0).toArray 28)::K) (Ps := Ps) (n0 := n0 + 1) (by omega) HBw.out HBb.out hb1 hb2 HTot.out HOff1.out HSm1.out (by omega) hK hS.conv
    rw [HNm2.out.1,HNm2.out.2.1,HNm2.out.2.2,HFP.out,HFL.out,← HPb.out.1,← HPb.out.2] at hfi
    refine Calls.mono hfi ?_
    clear hfi hS
    rintro _ w ⟨rfl,hS⟩
    simp only [putW]
    obtain ⟨D2,c2⟩ := FP
    replace hS : Sat w0 ((1,LogV lg (Ps ++ FL))::(d,DevG cv D2)::(r,RegC d R1)::(m8,cells (stV R1).toArray 28)::(m9,cells (planV R.pages.toNat R.budget.toNat (.slice q (nI (plLv R.pages.toNat)).length c)).toArray 60)::(m6,cells (stV st0).toArray 28)::K) w := hS
    by_cases hc2 : c2 = 0
    rotate_left
    · have d9 : decide (c2 = 0) = false := decide_eq_false hc2
      have d9b : (c2 == 0) = false := by simpa using hc2
      have d9c : (c2 != 0) = true := by simpa using hc2
      have HB1 : Bx (BN = (D2,R1,st0,c2)) := ⟨by rw [← HBN2.out.1,if_pos hc2]⟩
      have HB2 : Bx (BL = FL) := ⟨by rw [← HBN2.out.2,if_pos hc2]⟩
      clear hc2
      go_wp2_with (first | (refine buildS (segs := stSeg st0) (out := stV st0) rfl rfl [] rfl (fun p hp => by cases hp) (stSeg_flat _) ?_;simp only [putW]) | (refine storeAll (b := m6) (cs := (stV st0).toArray) hS rfl rfl rfl rfl st0_len (stOne st0) st0_len ?_;clear hS;intro w hS;try simp only [putW]))
      obtain ⟨h1,h2⟩ := hfin HB1.out HB2.out hS.conv
      exact bodyPost_ret (v := btRes st0 c2) (by simp [results,Tryd.results6,asAddr,h1]) rfl h2
    subst hc2
    have hsm2 := finish_sz (hd := hd) (hs := hs) (jn := jn) HBb.out hb2 HSm1.out
    rw [HFP.out] at hsm2
    have hst2 : D2.st.length = D.st.length := by
      have h1 := finish_len (opn := openR) (mk := mkF) (hd := hd) (hs := hs) (jn := jn) D1 R1
      rw [HFP.out] at h1
      rw [← HSt1.out]
      exact h1
    have HSm2 : Bx _ := ⟨hsm2⟩
    have HSt2 : Bx _ := ⟨hst2⟩
    have hcw := calm_wf HBw.out
    obtain ⟨CR,hCR⟩ : ∃ CR,calm R1 = CR := ⟨_,rfl⟩
    rw [hCR] at hcw
    have HCe : Bx _ := ⟨(calm_is R1).trans hCR⟩
    have HCR : Bx _ := ⟨hCR⟩
    have HCw : Bx _ := ⟨hcw⟩
    have HSq : Bx _ := ⟨quiet_wf HBw.out⟩
    have HS7 : Bx _ := ⟨stSet7 R1⟩
    have HCl : Bx ((stV CR).toArray.size = 72) := ⟨by rw [List.size_toArray];exact stV_len hcw⟩
    obtain ⟨W,hW⟩ : ∃ W,regWrite D2 R1 CR = W := ⟨_,rfl⟩
    have HW2 : Bx _ := ⟨hW⟩
    have HBN3 := HBN2
    clear HBN2
    have HBN2 : Bx ((if W.2.2 ≠ 0 then (W.1,W.2.1,st0,W.2.2) else endP dig hd W.1 CR) = BN ∧ (if W.2.2 ≠ 0 then FL else FL ++ endL hd W.1) = BL) := ⟨by
      have h1 := HBN3.out
      simp only [ne_eq,not_true_eq_false,if_false,hCR,hW] at h1
      exact h1⟩
    clear HBN3 hsm2 hst2 hcw hCR hW
    go_wp2_with (first | (refine store1 (v := .bool false) (b := m8) (c := (stV R1).toArray) hS rfl rfl rfl rfl rfl ?_ ?_;(focus (rw [HBl.out];decide));clear hS;intro w hS;rw [HS7.out] at hS;try simp only [putW]) | (refine storeMark (b := m8) hS rfl rfl rfl rfl HSq.out ?_;clear hS;intro w hS;rw [HCe.out] at hS;try simp only [putW]) | (refine loadAll (b := m8) (c := (stV CR).toArray) hS rfl rfl rfl HCl.out ?_;simp only [putW]) | (guard_target =~ Calls _ 29 _ _ _;refine Stopped.out ?_))
    refine ⟨?_⟩
    refine Calls.mono (regWrite_any ⟨by have := HSm2.out.1;omega,by have := HSm2.out.2.1;omega,by have := HSm2.out.2.2.1;omega,HSm2.out.2.2.2⟩ HBw.out HCw.out (hS.conv (S' := (r,RegC d R1)::(d,DevG cv D2)::(m8,cells (stV CR).toArray 28)::(m9,cells (planV R.pages.toNat R.budget.toNat (.slice q (nI (plLv R.pages.toNat)).length c)).toArray 60)::(m6,cells (stV st0).toArray 28)::(1,LogV lg (Ps ++ FL))::K))) ?_
    rw [HW2.out]
    obtain ⟨D3,R3,c3⟩ := W
    clear hS
    rintro _ w ⟨rfl,hS⟩
    simp only [putW]
    replace hS : Sat w0 ((r,RegC d R3)::(d,DevG cv D3)::(m8,cells (stV CR).toArray 28)::(m9,cells (planV R.pages.toNat R.budget.toNat (.slice q (nI (plLv R.pages.toNat)).length c)).toArray 60)::(m6,cells (stV st0).toArray 28)::(1,LogV lg (Ps ++ FL))::K) w := hS
    by_cases hc3 : c3 = 0
    rotate_left
    · have d9 : decide (c3 = 0) = false := decide_eq_false hc3
      have d9b : (c3 == 0) = false := by simpa using hc3
      have d9c : (c3 != 0) = true := by simpa using hc3
      have HB1 : Bx (BN = (D3,R3,st0,c3)) := ⟨by rw [← HBN2.out.1,if_pos hc3]⟩
      have HB2 : Bx (BL = FL) := ⟨by rw [← HBN2.out.2,if_pos hc3]⟩
      clear hc3
      go_wp2_with (first | (refine buildS (segs := stSeg st0) (out := stV st0) rfl rfl [] rfl (fun p hp => by cases hp) (stSeg_flat _) ?_;simp only [putW]) | (refine storeAll (b := m6) (cs := (stV st0).toArray) hS rfl rfl rfl rfl st0_len (stOne st0) st0_len ?_;clear hS;intro w hS;try simp only [putW]))
      obtain ⟨h1,h2⟩ := hfin HB1.out HB2.out hS.conv
      exact bodyPost_ret (v := btRes st0 c3) (by simp [results,Tryd.results6,asAddr,h1]) rfl h2
    subst hc3
    have hok := regWrite_ok (D := D2) (R := R1) (s := CR) (by rw [HW2.out])
    have hWe := hok.2.2.2
    rw [HW2.out] at hWe
    have e1 : D3 = D2.spend := congrArg (·.1) hWe
    have e2 : R3 = CR := congrArg (·.2.1) hWe
    subst e2
    have hoff : D3.off = false := by rw [e1];exact hok.2.2.1
    have hst3 : D3.st.length = D.st.length := by rw [e1];exact HSt2.out
    have hwt : D3.wt.length ≤ 1000000 := by rw [e1];show D2.wt.length ≤ _;have := HSm2.out.1;omega
    have hO3 := devOk (hS.pull d (X := DevG cv D3))
    clear hok hWe e1
    obtain ⟨H,hH⟩ : ∃ H,hd = H + 1 := ⟨hd - 1,by have h5 := plH_pos (P := P) hP1;have := HNm2.out.1;omega⟩
    have hHst : H < D3.st.length := by
      have h6 : plT P b = plH P + plHd b + b + b := rfl
      have h7 := HTot.out
      have h8 := HNm2.out.1
      rw [HSt1.out] at h7
      rw [hst3]
      omega
    have hH6 : H ≤ 100000 := by have h5 := plH_le (P := P) hP4;have := HNm2.out.1;omega
    have HTp : Bx (((plH R.pages.toNat : Nat) : Int) = (H : Int) + 1) := ⟨by rw [HNm.out.1,hH];simp⟩
    have hH9 : H ≤ 900000 := by omega
    have HHe : Bx _ := ⟨hH⟩
    have HOff : Bx _ := ⟨hoff⟩
    have HSt : Bx _ := ⟨hHst⟩
    have hrow := hO3.now hHst
    obtain ⟨row,hrw⟩ : ∃ row,D3.now H = row := ⟨_,rfl⟩
    have HRw : Bx _ := ⟨hrw⟩
    rw [hrw] at hrow
    obtain ⟨Dg,hDg⟩ : ∃ Dg,dig H row = Dg := ⟨_,rfl⟩
    have HDg : Bx _ := ⟨hDg⟩
    have hdl : Dg.length = 32 := by rw [← hDg];exact dig_len' _ _
    have hdb : ∀ x ∈ Dg,okByte x := by rw [← hDg];exact dig_okB _ _
    have hEq := eq32 hdl HCw.out.root.1 hdb HCw.out.root.2
    have HR8 : Bx _ := ⟨stPart8 HCw.out⟩
    have HRl : Bx (List.length row ≤ 10000) := ⟨by rw [hrow.1];omega⟩
    have HRr : Bx _ := ⟨hrow⟩
    have HPl2 : Bx ((Ps ++ FL).length ≤ 1000000) := ⟨by rw [List.length_append];have := HFLl.out;omega⟩
    have HBE : Bx (BL = FL ++ [(pre H row,Dg)] ∧ (Dg = R3.root → BN = (D3,R3,R3,0)) ∧ (Dg ≠ R3.root → BN = (D3,R3,st0,10))) := ⟨by
      have h1 := HBN2.out
      simp only [ne_eq,not_true_eq_false,if_false] at h1
      have e3 : hd - 1 = H := by have := HHe.out;omega
      refine ⟨?_,fun h => ?_,fun h => ?_⟩
      · rw [← h1.2];unfold endL;rw [e3,HRw.out,HDg.out]
      · rw [← h1.1];unfold endP;rw [e3,HRw.out,HDg.out,if_pos h]
      · rw [← h1.1];unfold endP;rw [e3,HRw.out,HDg.out,if_neg h]⟩
    clear hH hHst hoff hrw hDg hrow hdl hdb hO3 hst3 HBN2
    go_wp2_with (first | (refine loadAll (b := m9) (c := (planV R.pages.toNat R.budget.toNat (.slice q (nI (plLv R.pages.toNat)).length c)).toArray) hS rfl rfl rfl rfl ?_;simp only [putW]) | (go_at_call 32;refine Calls.mono (top_at HTp.out hH9) ?_;rintro _ w2 ⟨rfl,h2⟩;replace hS := hS.frame h2;clear h2;(try simp only [List.cons_append,List.nil_append] at hS);simp only [putW]) | (guard_target =~ Calls _ 31 _ _ _;refine Stopped.out ?_))
    refine ⟨?_⟩
    refine Calls.mono (devRead_ok HOff.out HSt.out hwt (hS.pull d (X := DevG cv D3))) ?_
    rw [HRw.out]
    clear hS
    rintro _ w ⟨v,rfl,hS⟩
    simp only [putW]
    obtain ⟨qv,cv2,hv⟩ := shapeN hS HRr.out.1
    subst hv
    obtain ⟨gv,hgv⟩ : ∃ gv,blk (.slice qv 256 cv2) = gv := ⟨_,rfl⟩
    rw [hgv] at hS
    have HRd : Bx (∀ w1,Sat w0 ((gv,sl 1 by8 row 109 (.slice qv 256 cv2))::[]) w1 → RB w1 row (.slice qv 256 cv2)) := ⟨fun w1 h => by rw [← hgv] at h;exact h.readsSl (v := .slice qv 256 cv2) (L := row) HRr.out.2⟩
    clear hgv
    go_upto_region 23 with (refine load1 hS rfl rfl rfl rfl ?_;simp only [putW])
    by_cases hrt : Dg = R3.root
    · have drt : decide (Dg = R3.root) = true := decide_eq_true hrt
      rw [drt] at hEq
      have hb1 : Bx (BN = (D3,R3,R3,0)) := ⟨HBE.out.2.1 hrt⟩
      clear hrt drt
      (refine wp_region_held (S := fun w' => Sat w0 ((m8,cells (stV R3).toArray 28)::(m9,cells (planV R.pages.toNat R.budget.toNat (.slice q (nI (plLv R.pages.toNat)).length c)).toArray 60)::(m6,cells (stV st0).toArray 28)::(gv,sl 1 by8 row 109 (.slice qv 256 cv2))::(r,RegC d R3)::(d,DevG cv D3)::K) w') (by kernel_rfl) ?_;replace hS := hS.drew;(refine takeIf (i := 0) rfl (by kernel_rfl) (fun _ _ _ h => h) (yMove rfl rfl rfl) hS.conv ?_;simp only [evW,putW]);(refine takeIf (i := 1) rfl (by kernel_rfl) (fun _ _ _ h => h) (yLoadAll (b := m9) (c := (planV R.pages.toNat R.budget.toNat (.slice q (nI (plLv R.pages.toNat)).length c)).toArray) (fun _ h => h) rfl rfl rfl rfl) hS.conv ?_;simp only [putW]);(refine takeIf (i := 3) rfl (by kernel_rfl) (fun _ _ _ h => h) (yMove rfl rfl rfl) hS.conv ?_;simp only [evW,putW]);(apply takeIf (i := 5) rfl (by kernel_rfl) (fun _ _ _ h => h);(focus (apply yRun rfl;intro w;first | (go_simp;done) | (go_simp;rfl)));(focus (exact hS.conv));simp only [putW]);(refine takeIf (i := 6) rfl (by kernel_rfl) (fun _ _ _ h => h) (yLoadP (b := m8) (fun _ h => h) rfl rfl rfl HR8.out) hS.conv ?_;simp only [putW]);refine wpAnyH_all (rs := [2]) (by kernel_rfl) (by simp) ?_;intro i hi;simp only [List.mem_cons,List.not_mem_nil,or_false] at hi;subst hi;refine wpOp_of_list rfl ?_;go_wp2_with ((go_at_call 32;refine Calls.mono (top_at HTp.out hH9) ?_;rintro _ w2 ⟨rfl,h2⟩;replace hS := hS.frame h2;clear h2;(try simp only [List.cons_append,List.nil_append] at hS);simp only [putW]));refine ⟨rfl,hS.conv,?_⟩;refine wpAnyH_all (rs := [4]) (by kernel_rfl) (by simp) ?_;intro i hi;simp only [List.mem_cons,List.not_mem_nil,or_false] at hi;subst hi;refine wpOp_of_list rfl ?_;go_wp2_with (go_at_call 33;refine Calls.mono (digest_vi (b := H) (D := Dg) rfl (hS.pull 1 (X := LogV lg (Ps ++ FL))) HPl2.out (HRd.out _ hS.conv) hK HRl.out HDg.out) ?_;clear hS;rintro _ w ⟨rfl,hS⟩;simp only [putW]);refine ⟨rfl,hS.conv,?_⟩;refine wpAnyH_all (rs := [7]) (by kernel_rfl) (by simp) ?_;intro i hi;simp only [List.mem_cons,List.not_mem_nil,or_false] at hi;subst hi;refine wpOp_of_list rfl ?_;go_wp2_with (refine load1 hS rfl rfl rfl rfl ?_;simp only [putW]);refine ⟨rfl,hS.conv,?_⟩;refine wpAnyH_done (by kernel_rfl) ?_ _;(go_wp2_with (first | (refine loadAll (b := m8) (c := (stV R3).toArray) hS rfl rfl rfl HCl.out ?_;simp only [putW]) | (refine storeAll (b := m6) (cs := (stV R3).toArray) hS rfl rfl rfl rfl HCl.out (stOne R3) st0_len ?_;clear hS;intro w hS;try simp only [putW]));have h1 := run_loadAll (P := Tryd.prog) hS m6 28 HCl.out;exact bodyPost_ret (v := btRes R3 0) (by simp [results,Tryd.results6,asAddr,h1]) rfl (by rw [hb1.out,HBE.out.1,← List.append_assoc];exact ⟨rfl,hS.conv⟩)))
    · have drt : decide (Dg = R3.root) = false := decide_eq_false hrt
      rw [drt] at hEq
      have hb1 : Bx (BN = (D3,R3,st0,10)) := ⟨HBE.out.2.2 hrt⟩
      clear hrt drt
      (refine wp_region_held (S := fun w' => Sat w0 ((m8,cells (stV R3).toArray 28)::(m9,cells (planV R.pages.toNat R.budget.toNat (.slice q (nI (plLv R.pages.toNat)).length c)).toArray 60)::(m6,cells (stV st0).toArray 28)::(gv,sl 1 by8 row 109 (.slice qv 256 cv2))::(r,RegC d R3)::(d,DevG cv D3)::K) w') (by kernel_rfl) ?_;replace hS := hS.drew;(refine takeIf (i := 0) rfl (by kernel_rfl) (fun _ _ _ h => h) (yMove rfl rfl rfl) hS.conv ?_;simp only [evW,putW]);(refine takeIf (i := 1) rfl (by kernel_rfl) (fun _ _ _ h => h) (yLoadAll (b := m9) (c := (planV R.pages.toNat R.budget.toNat (.slice q (nI (plLv R.pages.toNat)).length c)).toArray) (fun _ h => h) rfl rfl rfl rfl) hS.conv ?_;simp only [putW]);(refine takeIf (i := 3) rfl (by kernel_rfl) (fun _ _ _ h => h) (yMove rfl rfl rfl) hS.conv ?_;simp only [evW,putW]);(apply takeIf (i := 5) rfl (by kernel_rfl) (fun _ _ _ h => h);(focus (apply yRun rfl;intro w;first | (go_simp;done) | (go_simp;rfl)));(focus (exact hS.conv));simp only [putW]);(refine takeIf (i := 6) rfl (by kernel_rfl) (fun _ _ _ h => h) (yLoadP (b := m8) (fun _ h => h) rfl rfl rfl HR8.out) hS.conv ?_;simp only [putW]);refine wpAnyH_all (rs := [2]) (by kernel_rfl) (by simp) ?_;intro i hi;simp only [List.mem_cons,List.not_mem_nil,or_false] at hi;subst hi;refine wpOp_of_list rfl ?_;go_wp2_with ((go_at_call 32;refine Calls.mono (top_at HTp.out hH9) ?_;rintro _ w2 ⟨rfl,h2⟩;replace hS := hS.frame h2;clear h2;(try simp only [List.cons_append,List.nil_append] at hS);simp only [putW]));refine ⟨rfl,hS.conv,?_⟩;refine wpAnyH_all (rs := [4]) (by kernel_rfl) (by simp) ?_;intro i hi;simp only [List.mem_cons,List.not_mem_nil,or_false] at hi;subst hi;refine wpOp_of_list rfl ?_;go_wp2_with (go_at_call 33;refine Calls.mono (digest_vi (b := H) (D := Dg) rfl (hS.pull 1 (X := LogV lg (Ps ++ FL))) HPl2.out (HRd.out _ hS.conv) hK HRl.out HDg.out) ?_;clear hS;rintro _ w ⟨rfl,hS⟩;simp only [putW]);refine ⟨rfl,hS.conv,?_⟩;refine wpAnyH_all (rs := [7]) (by kernel_rfl) (by simp) ?_;intro i hi;simp only [List.mem_cons,List.not_mem_nil,or_false] at hi;subst hi;refine wpOp_of_list rfl ?_;go_wp2_with (refine load1 hS rfl rfl rfl rfl ?_;simp only [putW]);refine ⟨rfl,hS.conv,?_⟩;refine wpAnyH_done (by kernel_rfl) ?_ _;(go_wp2_with (first | (refine buildS (segs := stSeg st0) (out := stV st0) rfl rfl [] rfl (fun p hp => by cases hp) (stSeg_flat _) ?_;simp only [putW]) | (refine storeAll (b := m6) (cs := (stV st0).toArray) hS rfl rfl rfl rfl st0_len (stOne st0) st0_len ?_;clear hS;intro w hS;try simp only [putW]));have h1 := run_loadAll (P := Tryd.prog) hS m6 28 st0_len;exact bodyPost_ret (v := btRes st0 10) (by simp [results,Tryd.results6,asAddr,h1]) rfl (by rw [hb1.out,HBE.out.1,← List.append_assoc];exact ⟨rfl,hS.conv⟩)))
/-- Boot where the register is known and its plan fits. -/
theorem boot_full {n0 : Nat} (hsm : D.wt.length ≤ n0 ∧ D.wr.length ≤ n0 ∧ D.count ≤ n0 ∧ D.armed ≤ 9223372036854775807) (hn0 : n0 ≤ 800000) (hR : R.Wf) (hfit : fits D.st.length R.pages R.budget) (hP : Ps.length ≤ 800000) (hK : KTab w0) (hS : Sat w0 ((1,LogV lg Ps)::(r,RegC d R)::(d,DevG cv D)::K) w) :
    Calls Tryd.prog 6 #[.pointer (some ⟨d,0,none⟩),.pointer (some ⟨r,0,none⟩),lg] w fun e w' => e = .returned (btRes (bootF D R).2.2.1 (bootF D R).2.2.2) ∧ Sat w0 ((1,LogV lg (Ps ++ bootFL D R))::(r,RegC d (bootF D R).2.1)::(d,DevG cv (bootF D R).1)::K) w' := by
  cases hb : R.busy with
  | true => exact boot_busy hsm hn0 hR hb hfit hP hK hS
  | false =>
    obtain ⟨e1,e2⟩ := bootN_is hfit hb
    rw [← e1,← e2]
    exact boot_any ⟨by omega,by omega,by omega,hsm.2.2.2⟩ hR hb (by omega) hK hS
end
end Go.Proofs.YtdkimdobcacpfaaDoor
