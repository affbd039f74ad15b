/-
  base.Boot in plain words, where no images wait.
  base.Boot, where no images wait.
-/
import Derived.Test.YtdkimdobcacpfaaDoorBsK
import Derived.Test.YtdkimdobcacpfaaDoorTrBu
import Derived.Test.YtdkimdobcacpfaaDoorTrPar
import Derived.Test.YtdkimdobcacpfaaDoorShEq
set_option linter.unusedSimpArgs false
set_option linter.unusedVariables false
namespace Go.Proofs.YtdkimdobcacpfaaDoor
open Go.RowKit Go.Proofs.YtdkimdobcacpfaaDoor.Sl Go.Proofs.YtdkimdobcacpfaaDoor.Sha Go.Proofs.YtdkimdobcacpfaaDoor.Jp Go.Proofs.YtdkimdobcacpfaaDoor.Tr Go.Proofs.YtdkimdobcacpfaaDoor.Dv

def plTop (R : Rg) : Nat := plH R.pages.toNat - 1
def bump (R : Rg) : Rg := { R with boot := R.boot + 1 }
/-- The end of a boot: the top is held against the root. -/
def bootEnd (D : Dev) (R : Rg) : Rg × Int := if dig (plTop R) (D.now (plTop R)) = R.root then (R,0) else (st0,10)
/-- The device, the register, what is told, its code. -/
def bootN (D : Dev) (R : Rg) : Dev × Rg × Rg × Int :=
  if D.off then (D,R,st0,7) else if R.pages = 0 then (D,R,st0,8) else if ¬ fits D.st.length R.pages R.budget then (D,R,st0,1) else if R.boot = 4294967295 then (D,R,st0,13)
  else if (regWrite D R (bump R)).2.2 ≠ 0 then ((regWrite D R (bump R)).1,(regWrite D R (bump R)).2.1,st0,(regWrite D R (bump R)).2.2)
  else (D.spend,bump R,bootEnd D.spend (bump R))
/-- What is noted. -/
def bootL (D : Dev) (R : Rg) : List (List Int × List Int) :=
  if D.off ∨ R.pages = 0 ∨ ¬ fits D.st.length R.pages R.budget ∨ R.boot = 4294967295 ∨ (regWrite D R (bump R)).2.2 ≠ 0 then [] else [(pre (plTop R) (D.now (plTop R)),dig (plTop R) (D.now (plTop R)))]
theorem regWrite_ok {D : Dev} {R s : Rg} (h : (regWrite D R s).2.2 = 0) : D.off = false ∧ R.follows s = true ∧ D.spend.off = false ∧ regWrite D R s = (D.spend,s,0) := by
  unfold regWrite at h ⊢
  cases ho : D.off <;> cases hf : R.follows s <;> cases hp : D.spend.off <;> simp [ho,hf,hp] at h ⊢
theorem bump_wf {R : Rg} (h : R.Wf) (hb : R.boot ≠ 4294967295) : (bump R).Wf :=
  ⟨h.pages,h.budget,⟨by have := h.boot.1;show 0 ≤ R.boot + 1;omega,by have := h.boot.2;show R.boot + 1 < 4294967296;omega⟩,h.version,h.epoch,h.cursor,h.root,h.mark⟩
theorem stSet3 (R : Rg) (x : Int) : (stV R).toArray.setIfInBounds 3 (.int .u32 x) = (stV { R with boot := x }).toArray := by
  rw [List.setIfInBounds_toArray]
  rfl
end Go.Proofs.YtdkimdobcacpfaaDoor
namespace Go.Proofs.YtdkimdobcacpfaaDoor
open Go.RowKit Go.Proofs.YtdkimdobcacpfaaDoor.Sl Go.Proofs.YtdkimdobcacpfaaDoor.Sha Go.Proofs.YtdkimdobcacpfaaDoor.Jp Go.Proofs.YtdkimdobcacpfaaDoor.Tr Go.Proofs.YtdkimdobcacpfaaDoor.Dv

theorem plH_pos {P : Nat} (h : 1 ≤ P) : 1 ≤ plH P := by unfold plH;omega
theorem stPart8 {s : Rg} (h : s.Wf) : PartIs (stV s).toArray 8 32 (s.root.map u8v) := ⟨by rw [List.length_map];exact h.root.1,by
  show (s.root.map u8v ++ s.mark.map u8v).take 32 = _
  rw [List.take_left' (by rw [List.length_map];exact h.root.1)]⟩
theorem top_at {w0 : World} {P b C N H hd J s t : Int} {lv : Value} {k : Nat} (hk : H = (k : Int) + 1) (h : k ≤ 900000) : Calls Tryd.prog 32 #[.agg (plL P b C lv N H hd J s t).toArray] w0 fun e w' => e = .returned (.int .i64 k) ∧ Sat w0 [] w' := by
  subst hk
  have h1 := top_any (w0 := w0) (lv := lv) (P := P) (b := b) (C := C) (N := N) (H := (k : Int) + 1) (hd := hd) (J := J) (s := s) (t := t) ⟨by omega,by omega⟩
  rw [show (k : Int) + 1 - 1 = k by omega] at h1
  exact h1
section
variable {w0 w : World} {K F S : List Chunk} {d r : Nat} {D : Dev} {cv lg : Value} {R : Rg} {Ps : List (List Int × List Int)}
abbrev btRes (R : Rg) (e : Int) : Value := .tuple #[.agg (stV R).toArray,.int .i64 e]
set_option maxRecDepth 100000 in
set_option maxHeartbeats 8000000 in
theorem boot_any (hz : D.Sz) (hR : R.Wf) (hb : R.busy = false) (hP : Ps.length ≤ 1000000) (hK : KTab w0) (hS : Sat w0 ((1,LogV lg Ps)::(r,RegC d R)::(d,DevG cv D)::K) w) :
    Calls Tryd.prog 6 #[.pointer (some ⟨d,0,none⟩),.pointer (some ⟨r,0,none⟩),lg] w fun e w' => e = .returned (btRes (bootN D R).2.2.1 (bootN D R).2.2.2) ∧ Sat w0 ((1,LogV lg (Ps ++ bootL D R))::(r,RegC d (bootN D R).2.1)::(d,DevG cv (bootN D R).1)::K) w' := by
  obtain ⟨o,ho⟩ : ∃ o,D.off = o := ⟨_,rfl⟩
  have HO : Bx _ := ⟨ho⟩
  have HOk : Bx D.Ok := ⟨devOk (hS.pull d (X := DevG cv D))⟩
  obtain ⟨BN,hBN⟩ : ∃ BN,bootN D R = BN := ⟨_,rfl⟩
  obtain ⟨BL,hBL⟩ : ∃ BL,bootL D R = BL := ⟨_,rfl⟩
  rw [hBN,hBL]
  have HBN : Bx _ := ⟨hBN⟩
  have HBL : Bx _ := ⟨hBL⟩
  clear hBN hBL
  clear ho
  go_enter Tryd.func6,Tryd.ntmps6
  go_wp2_with (first | (refine allocS (t := 28) hS rfl rfl (stV st0).toArray st0_cells ?_;clear hS;intro m6 w hS;simp only [putW]) | (guard_target =~ Calls _ 20 _ _ _;refine Stopped.out ?_))
  refine ⟨?_⟩
  refine Calls.mono (devUp_any (hS.pull d (X := DevG cv D))) ?_
  rw [HO.out]
  clear hS
  rintro _ w ⟨rfl,hS⟩
  simp only [putW]
  have hfin : ∀ {e : Int} {D1 : Dev} {R1 : Rg} {w4 : World},BN = (D1,R1,st0,e) → BL = [] → Sat w0 ((m6,cells (stV st0).toArray 28)::(d,DevG cv D1)::(r,RegC d R1)::(1,LogV lg Ps)::K) w4 → (loadVar 28 ⟨m6,0,none⟩).run Tryd.prog w4 = .ok (.agg (stV st0).toArray) w4 ∧ (Ending.returned (btRes st0 e) = .returned (btRes BN.2.2.1 BN.2.2.2) ∧ Sat w0 ((1,LogV lg (Ps ++ BL))::(r,RegC d BN.2.1)::(d,DevG cv BN.1)::K) w4) := fun h1 h2 h3 => by
    subst h1;subst h2
    rw [List.append_nil]
    exact ⟨run_loadAll (P := Tryd.prog) h3 m6 28 st0_len,rfl,h3.conv⟩
  cases o with
  | true =>
    have hb1 : Bx (BN = (D,R,st0,7)) := ⟨by rw [← HBN.out];unfold bootN;rw [if_pos HO.out]⟩
    have hb2 : Bx (BL = []) := ⟨by rw [← HBL.out];unfold bootL;rw [if_pos (.inl HO.out)]⟩
    go_wp2_with (first | (refine buildS (segs := stSeg st0) (out := stV st0) rfl rfl [] rfl (fun p hp => by cases hp) (stSeg_flat _) ?_;simp only [putW]) | (refine storeAll (b := m6) (cs := (stV st0).toArray) hS rfl rfl rfl rfl st0_len (stOne st0) st0_len ?_;clear hS;intro w hS;try simp only [putW]))
    obtain ⟨h1,h2⟩ := hfin hb1.out hb2.out hS.conv
    exact bodyPost_ret (v := btRes st0 7) (by simp [results,Tryd.results6,asAddr,h1]) rfl h2
  | false =>
    go_wp2_with (guard_target =~ Calls _ 28 _ _ _;refine Stopped.out ?_)
    refine ⟨?_⟩
    have HL : Bx ((stV R).toArray.size = 72) := ⟨by rw [List.size_toArray];exact stV_len hR⟩
    have hno : ¬ D.off = true := by rw [HO.out];simp
    have HNO : Bx _ := ⟨hno⟩
    clear hno
    by_cases hp0 : R.pages = 0
    · have hb1 : Bx (BN = (D,R,st0,8)) := ⟨by rw [← HBN.out];unfold bootN;rw [if_neg HNO.out,if_pos hp0]⟩
      have hb2 : Bx (BL = []) := ⟨by rw [← HBL.out];unfold bootL;rw [if_pos (.inr (.inl hp0))]⟩
      refine Calls.mono (known_blank hR hp0 (hS.conv (S' := (r,RegC d R)::(d,DevG cv D)::(m6,cells (stV st0).toArray 28)::(1,LogV lg Ps)::K))) ?_
      clear hS hp0
      rintro _ w ⟨rfl,hS⟩
      simp only [putW]
      go_wp2_with (first | (refine allocS (t := 28) hS rfl rfl (stV st0).toArray st0_cells ?_;clear hS;intro m8 w hS;simp only [putW]) | (refine alloc (t := 60) hS rfl rfl ?_;clear hS;intro m9 w hS;simp only [putW]) | (refine storeAll (b := m8) (cs := (stV R).toArray) hS rfl rfl rfl rfl HL.out (stOne R) st0_len ?_;clear hS;intro w hS;try simp only [putW]) | (refine buildS (segs := stSeg st0) (out := stV st0) rfl rfl [] rfl (fun p hp => by cases hp) (stSeg_flat _) ?_;simp only [putW]) | (refine storeAll (b := m6) (cs := (stV st0).toArray) hS rfl rfl rfl rfl st0_len (stOne st0) st0_len ?_;clear hS;intro w hS;try simp only [putW]) | (refine storeAll hS rfl rfl rfl rfl ?_ ?_ ?_ ?_;rfl;(focus (simp [Value.oneCell'];done));rfl;clear hS;intro w hS;try simp only [putW]))
      obtain ⟨h1,h2⟩ := hfin hb1.out hb2.out hS.conv
      exact bodyPost_ret (v := btRes st0 8) (by simp [results,Tryd.results6,asAddr,h1]) rfl h2
    · refine Calls.mono (known_any hR hp0 (hS.conv (S' := (r,RegC d R)::(d,DevG cv D)::(m6,cells (stV st0).toArray 28)::(1,LogV lg Ps)::K))) ?_
      have Hp0 : Bx _ := ⟨hp0⟩
      clear hS hp0
      rintro _ w ⟨pl,e,T,hF,rfl,hS⟩
      simp only [putW]
      have HPl : Bx (pl.toArray.size = 10) := ⟨by rw [List.size_toArray];exact hF.len⟩
      have HP1 : Bx _ := ⟨hF.one⟩
      rcases hF with ⟨rfl,rfl,hfit,rfl⟩ | ⟨q,c,rfl,rfl,hfit,rfl⟩
      · have hb1 : Bx (BN = (D,R,st0,1)) := ⟨by rw [← HBN.out];unfold bootN;rw [if_neg HNO.out,if_neg Hp0.out,if_pos hfit]⟩
        have hb2 : Bx (BL = []) := ⟨by rw [← HBL.out];unfold bootL;rw [if_pos (.inr (.inr (.inl hfit)))]⟩
        clear hfit
        go_wp2_with (first | (refine allocS (t := 28) hS rfl rfl (stV st0).toArray st0_cells ?_;clear hS;intro m8 w hS;simp only [putW]) | (refine alloc (t := 60) hS rfl rfl ?_;clear hS;intro m9 w hS;simp only [putW]) | (refine storeAll (b := m8) (cs := (stV R).toArray) hS rfl rfl rfl rfl HL.out (stOne R) st0_len ?_;clear hS;intro w hS;try simp only [putW]) | (refine buildS (segs := stSeg st0) (out := stV st0) rfl rfl [] rfl (fun p hp => by cases hp) (stSeg_flat _) ?_;simp only [putW]) | (refine storeAll (b := m6) (cs := (stV st0).toArray) hS rfl rfl rfl rfl st0_len (stOne st0) st0_len ?_;clear hS;intro w hS;try simp only [putW]) | (refine storeAll hS rfl rfl rfl rfl ?_ ?_ ?_ ?_;rfl;(focus (simp [Value.oneCell'];done));rfl;clear hS;intro w hS;try simp only [putW]))
        obtain ⟨h1,h2⟩ := hfin hb1.out hb2.out hS.conv
        exact bodyPost_ret (v := btRes st0 1) (by simp [results,Tryd.results6,asAddr,h1]) rfl h2
      · have hS2 := unpacked hS
        clear hS
        have hS := hS2
        clear hS2
        simp only [List.cons_append,List.nil_append] at hS
        have HFit : Bx _ := ⟨hfit⟩
        clear hfit
        go_upto_region 6 with (first | (refine allocS (t := 28) hS rfl rfl (stV st0).toArray st0_cells ?_;clear hS;intro m8 w hS;simp only [putW]) | (refine alloc (t := 60) hS rfl rfl ?_;clear hS;intro m9 w hS;simp only [putW]) | (refine storeAll (b := m8) (cs := (stV R).toArray) hS rfl rfl rfl rfl HL.out (stOne R) st0_len ?_;clear hS;intro w hS;try simp only [putW]) | (refine storeAll (b := m9) (cs := (planV R.pages.toNat R.budget.toNat (.slice q (nI (plLv R.pages.toNat)).length c)).toArray) hS rfl rfl rfl rfl HPl.out HP1.out ?_ ?_;(focus rfl);clear hS;intro w hS;try simp only [putW]))
        by_cases hmx : R.boot = 4294967295
        · have hb1 : Bx (BN = (D,R,st0,13)) := ⟨by rw [← HBN.out];unfold bootN;rw [if_neg HNO.out,if_neg Hp0.out,if_neg (not_not_intro HFit.out),if_pos hmx]⟩
          have hb2 : Bx (BL = []) := ⟨by rw [← HBL.out];unfold bootL;rw [if_pos (.inr (.inr (.inr (.inl hmx))))]⟩
          have HC3 : Bx (CellIs (stV R).toArray 3 (.int .u32 4294967295)) := ⟨by rw [← hmx];exact stCell3 R⟩
          have HS3 : Bx ((stV R).toArray.setIfInBounds 3 (.int .u32 0) = (stV { R with boot := 0 }).toArray) := ⟨stSet3 R 0⟩
          have HC4 : Bx (CellIs (stV { R with boot := 0 }).toArray 3 (.int .u32 0)) := ⟨stCell3 _⟩
          clear hmx
          go_wp2_with (first | (refine loadC (b := m8) (c := (stV R).toArray) hS rfl rfl rfl HC3.out ?_;simp only [putW]) | (refine store1 (v := .int .u32 0) (b := m8) (c := (stV R).toArray) hS rfl rfl rfl rfl rfl ?_ ?_;(focus (rw [HL.out];decide));clear hS;intro w hS;rw [HS3.out] at hS;try simp only [putW]) | (refine loadC (b := m8) (c := (stV { R with boot := 0 }).toArray) hS rfl rfl rfl HC4.out ?_;simp only [putW]) | (refine buildS (segs := stSeg st0) (out := stV st0) rfl rfl [] rfl (fun p hp => by cases hp) (stSeg_flat _) ?_;simp only [putW]) | (refine storeAll (b := m6) (cs := (stV st0).toArray) hS rfl rfl rfl rfl st0_len (stOne st0) st0_len ?_;clear hS;intro w hS;try simp only [putW]))
          obtain ⟨h1,h2⟩ := hfin hb1.out hb2.out hS.conv
          exact bodyPost_ret (v := btRes st0 13) (by simp [results,Tryd.results6,asAddr,h1]) rfl h2
        · have hbw := bump_wf hR hmx
          obtain ⟨B,hB⟩ : ∃ B,bump R = B := ⟨_,rfl⟩
          have HB : Bx _ := ⟨hB⟩
          rw [hB] at hbw
          have hx0 : 0 ≤ R.boot + 1 := by have := hR.boot.1;omega
          have hx1 : R.boot + 1 < 4294967296 := by have := hR.boot.2;omega
          have HC3 : Bx (CellIs (stV R).toArray 3 (.int .u32 R.boot)) := ⟨stCell3 R⟩
          have HS3 : Bx ((stV R).toArray.setIfInBounds 3 (.int .u32 (R.boot + 1)) = (stV B).toArray) := ⟨by rw [stSet3 R (R.boot + 1),← hB];rfl⟩
          have HC4 : Bx (CellIs (stV B).toArray 3 (.int .u32 (R.boot + 1))) := ⟨by rw [← hB];exact stCell3 _⟩
          have HC7 : Bx (CellIs (stV B).toArray 7 (.bool false)) := ⟨by have h7 := stCell7 B;rw [show B.busy = false by rw [← hB];exact hb] at h7;exact h7⟩
          have HBl : Bx ((stV B).toArray.size = 72) := ⟨by rw [List.size_toArray];exact stV_len hbw⟩
          have HMX : Bx _ := ⟨hmx⟩
          have dx : decide (R.boot + 1 = 0) = false := decide_eq_false (by have := hR.boot.1;omega)
          have dxb : (R.boot + 1 == 0) = false := by simpa using (show R.boot + 1 ≠ 0 by have := hR.boot.1;omega)
          obtain ⟨W,hW⟩ : ∃ W,regWrite D R B = W := ⟨_,rfl⟩
          have HW : Bx _ := ⟨hW⟩
          clear hmx hW hB
          go_wp2_with (first | (refine loadC (b := m8) (c := (stV R).toArray) hS rfl rfl rfl HC3.out ?_;simp only [putW]) | (refine store1 (v := .int .u32 (R.boot + 1)) (b := m8) (c := (stV R).toArray) hS rfl rfl rfl rfl rfl ?_ ?_;(focus (rw [HL.out];decide));clear hS;intro w hS;rw [HS3.out] at hS;try simp only [putW]) | (refine loadC (b := m8) (c := (stV B).toArray) hS rfl rfl rfl HC4.out ?_;simp only [putW]) | (refine loadAll (b := m8) (c := (stV B).toArray) hS rfl rfl rfl HBl.out ?_;simp only [putW]) | (guard_target =~ Calls _ 29 _ _ _;refine Stopped.out ?_))
          refine ⟨?_⟩
          refine Calls.mono (regWrite_any hz hR hbw (hS.conv (S' := (r,RegC d R)::(d,DevG cv D)::(m8,cells (stV B).toArray 28)::(m9,cells (planV R.pages.toNat R.budget.toNat (.slice q (nI (plLv R.pages.toNat)).length c)).toArray 60)::(m6,cells (stV st0).toArray 28)::(1,LogV lg Ps)::K))) ?_
          rw [HW.out]
          obtain ⟨D1,R1,cd⟩ := W
          clear hS
          rintro _ w ⟨rfl,hS⟩
          simp only [putW]
          replace hS : Sat w0 ((r,RegC d R1)::(d,DevG cv D1)::(m8,cells (stV B).toArray 28)::(m9,cells (planV R.pages.toNat R.budget.toNat (.slice q (nI (plLv R.pages.toNat)).length c)).toArray 60)::(m6,cells (stV st0).toArray 28)::(1,LogV lg Ps)::K) w := hS
          by_cases hcd : cd = 0
          · subst hcd
            have hok := regWrite_ok (D := D) (R := R) (s := B) (by rw [HW.out])
            have hWe := hok.2.2.2
            rw [HW.out] at hWe
            have e1 : D1 = D.spend := congrArg (·.1) hWe
            have e2 : R1 = B := congrArg (·.2.1) hWe
            rw [e1,e2] at hS
            have hoff : D.spend.off = false := hok.2.2.1
            clear hok hWe e1 e2
            have hfit := HFit.out
            obtain ⟨hpb,hneed,htot⟩ := hfit
            have hPt : plT R.pages.toNat R.budget.toNat = plH R.pages.toNat + plHd R.budget.toNat + R.budget.toNat + R.budget.toNat := rfl
            obtain ⟨H,hH⟩ : ∃ H,plH R.pages.toNat = H + 1 := ⟨plH R.pages.toNat - 1,by have h5 := plH_pos (P := R.pages.toNat) (by have := hpb.1;omega);omega⟩
            have hHst : H < D.spend.st.length := by show H < D.st.length;omega
            have hH6 : H ≤ 100000 := by have h5 := plH_le (P := R.pages.toNat) (by have := hpb.2.1;omega);omega
            have htop : plTop R = H := by unfold plTop;omega
            have HT : Bx _ := ⟨htop⟩
            have HHp : Bx _ := ⟨hH⟩
            have HTp : Bx (((plH R.pages.toNat : Nat) : Int) = (H : Int) + 1) := ⟨by rw [hH];simp⟩
            have hH9 : H ≤ 900000 := by omega
            have hwt : D.spend.wt.length ≤ 1000000 := hz.wt
            have HOff : Bx _ := ⟨hoff⟩
            have HSt : Bx _ := ⟨hHst⟩
            have hrow := HOk.out.spend.now hHst
            obtain ⟨row,hrw⟩ : ∃ row,D.spend.now H = row := ⟨_,rfl⟩
            have HRw : Bx _ := ⟨hrw⟩
            rw [hrw] at hrow
            obtain ⟨Dg,hDg⟩ : ∃ Dg,dig H row = Dg := ⟨_,rfl⟩
            have HDg : Bx _ := ⟨hDg⟩
            have hdl : Dg.length = 32 := by rw [← hDg];exact dig_len' _ _
            have hdb : ∀ x ∈ Dg,okByte x := by rw [← hDg];exact dig_okB _ _
            have hEq := eq32 hdl hbw.root.1 hdb hbw.root.2
            have HR8 : Bx _ := ⟨stPart8 hbw⟩
            have HRl : Bx (List.length row ≤ 10000) := ⟨by rw [hrow.1];omega⟩
            have HRr : Bx _ := ⟨hrow⟩
            have hroot : B.root = R.root := by rw [← HB.out];rfl
            clear hH htop hPt hneed htot hpb hHst hoff hrw hDg hrow
            have hBE : Bx (BN = (D.spend,B,bootEnd D.spend B) ∧ BL = [(pre H row,Dg)]) := ⟨by
              have hnz : ¬ (regWrite D R (bump R)).2.2 ≠ 0 := by rw [HB.out,HW.out];exact fun h => h rfl
              rw [← HBN.out,← HBL.out]
              constructor
              · unfold bootN
                rw [if_neg HNO.out,if_neg Hp0.out,if_neg (not_not_intro HFit.out),if_neg HMX.out,if_neg hnz,HB.out]
              · unfold bootL
                rw [if_neg (by rintro (h | h | h | h | h);exact HNO.out h;exact Hp0.out h;exact h HFit.out;exact HMX.out h;exact hnz h),HT.out]
                have e : D.now H = row := HRw.out
                rw [e,HDg.out]⟩
            go_wp2_with (first | (refine loadC (b := m8) (c := (stV B).toArray) hS rfl rfl rfl HC7.out ?_;simp only [putW]) | (refine loadAll (b := m9) (c := (planV R.pages.toNat R.budget.toNat (.slice q (nI (plLv R.pages.toNat)).length c)).toArray) hS rfl rfl rfl rfl ?_;simp only [putW]) | (go_at_call 32;refine Calls.mono (top_at HTp.out hH9) ?_;rintro _ w2 ⟨rfl,h2⟩;replace hS := hS.frame h2;clear h2;(try simp only [List.cons_append,List.nil_append] at hS);simp only [putW]) | (guard_target =~ Calls _ 31 _ _ _;refine Stopped.out ?_))
            refine ⟨?_⟩
            refine Calls.mono (devRead_ok HOff.out HSt.out hwt (hS.pull d (X := DevG cv D.spend))) ?_
            rw [HRw.out]
            clear hS
            rintro _ w ⟨v,rfl,hS⟩
            simp only [putW]
            obtain ⟨qv,cv2,hv⟩ := shapeN hS HRr.out.1
            subst hv
            obtain ⟨gv,hgv⟩ : ∃ gv,blk (.slice qv 256 cv2) = gv := ⟨_,rfl⟩
            rw [hgv] at hS
            have HRd : Bx (∀ w1,Sat w0 ((gv,sl 1 by8 row 109 (.slice qv 256 cv2))::[]) w1 → RB w1 row (.slice qv 256 cv2)) := ⟨fun w1 h => by rw [← hgv] at h;exact h.readsSl (v := .slice qv 256 cv2) (L := row) HRr.out.2⟩
            clear hgv
            go_upto_region 23 with (refine load1 hS rfl rfl rfl rfl ?_;simp only [putW])
            by_cases hrt : Dg = B.root
            · have drt : decide (Dg = B.root) = true := decide_eq_true hrt
              rw [drt] at hEq
              have hb1 : Bx (BN = (D.spend,B,B,0)) := ⟨by
                have e : plTop B = H := by rw [← HT.out,← HB.out];rfl
                rw [hBE.out.1];unfold bootEnd;rw [e,HRw.out,HDg.out,if_pos hrt]⟩
              clear hrt drt hroot
              (refine wp_region_held (S := fun w' => Sat w0 ((m8,cells (stV B).toArray 28)::(m9,cells (planV R.pages.toNat R.budget.toNat (.slice q (nI (plLv R.pages.toNat)).length c)).toArray 60)::(m6,cells (stV st0).toArray 28)::(gv,sl 1 by8 row 109 (.slice qv 256 cv2))::(r,RegC d B)::(d,DevG cv D.spend)::K) w') (by kernel_rfl) ?_;replace hS := hS.drew;(refine takeIf (i := 0) rfl (by kernel_rfl) (fun _ _ _ h => h) (yMove rfl rfl rfl) hS.conv ?_;simp only [evW,putW]);(refine takeIf (i := 1) rfl (by kernel_rfl) (fun _ _ _ h => h) (yLoadAll (b := m9) (c := (planV R.pages.toNat R.budget.toNat (.slice q (nI (plLv R.pages.toNat)).length c)).toArray) (fun _ h => h) rfl rfl rfl rfl) hS.conv ?_;simp only [putW]);(refine takeIf (i := 3) rfl (by kernel_rfl) (fun _ _ _ h => h) (yMove rfl rfl rfl) hS.conv ?_;simp only [evW,putW]);(apply takeIf (i := 5) rfl (by kernel_rfl) (fun _ _ _ h => h);(focus (apply yRun rfl;intro w;first | (go_simp;done) | (go_simp;rfl)));(focus (exact hS.conv));simp only [putW]);(refine takeIf (i := 6) rfl (by kernel_rfl) (fun _ _ _ h => h) (yLoadP (b := m8) (fun _ h => h) rfl rfl rfl HR8.out) hS.conv ?_;simp only [putW]);refine wpAnyH_all (rs := [2]) (by kernel_rfl) (by simp) ?_;intro i hi;simp only [List.mem_cons,List.not_mem_nil,or_false] at hi;subst hi;refine wpOp_of_list rfl ?_;go_wp2_with ((go_at_call 32;refine Calls.mono (top_at HTp.out hH9) ?_;rintro _ w2 ⟨rfl,h2⟩;replace hS := hS.frame h2;clear h2;(try simp only [List.cons_append,List.nil_append] at hS);simp only [putW]));refine ⟨rfl,hS.conv,?_⟩;refine wpAnyH_all (rs := [4]) (by kernel_rfl) (by simp) ?_;intro i hi;simp only [List.mem_cons,List.not_mem_nil,or_false] at hi;subst hi;refine wpOp_of_list rfl ?_;go_wp2_with (go_at_call 33;refine Calls.mono (digest_vi (b := H) (D := Dg) rfl (hS.pull 1 (X := LogV lg Ps)) hP (HRd.out _ hS.conv) hK HRl.out HDg.out) ?_;clear hS;rintro _ w ⟨rfl,hS⟩;simp only [putW]);refine ⟨rfl,hS.conv,?_⟩;refine wpAnyH_all (rs := [7]) (by kernel_rfl) (by simp) ?_;intro i hi;simp only [List.mem_cons,List.not_mem_nil,or_false] at hi;subst hi;refine wpOp_of_list rfl ?_;go_wp2_with (refine load1 hS rfl rfl rfl rfl ?_;simp only [putW]);refine ⟨rfl,hS.conv,?_⟩;refine wpAnyH_done (by kernel_rfl) ?_ _;(go_wp2_with (first | (refine loadAll (b := m8) (c := (stV B).toArray) hS rfl rfl rfl HBl.out ?_;simp only [putW]) | (refine storeAll (b := m6) (cs := (stV B).toArray) hS rfl rfl rfl rfl HBl.out (stOne B) st0_len ?_;clear hS;intro w hS;try simp only [putW]));have h1 := run_loadAll (P := Tryd.prog) hS m6 28 HBl.out;exact bodyPost_ret (v := btRes B 0) (by simp [results,Tryd.results6,asAddr,h1]) rfl (by rw [hb1.out,hBE.out.2];exact ⟨rfl,hS.conv⟩)))
            · have drt : decide (Dg = B.root) = false := decide_eq_false hrt
              rw [drt] at hEq
              have hb1 : Bx (BN = (D.spend,B,st0,10)) := ⟨by
                have e : plTop B = H := by rw [← HT.out,← HB.out];rfl
                rw [hBE.out.1];unfold bootEnd;rw [e,HRw.out,HDg.out,if_neg hrt]⟩
              clear hrt drt hroot
              (refine wp_region_held (S := fun w' => Sat w0 ((m8,cells (stV B).toArray 28)::(m9,cells (planV R.pages.toNat R.budget.toNat (.slice q (nI (plLv R.pages.toNat)).length c)).toArray 60)::(m6,cells (stV st0).toArray 28)::(gv,sl 1 by8 row 109 (.slice qv 256 cv2))::(r,RegC d B)::(d,DevG cv D.spend)::K) w') (by kernel_rfl) ?_;replace hS := hS.drew;(refine takeIf (i := 0) rfl (by kernel_rfl) (fun _ _ _ h => h) (yMove rfl rfl rfl) hS.conv ?_;simp only [evW,putW]);(refine takeIf (i := 1) rfl (by kernel_rfl) (fun _ _ _ h => h) (yLoadAll (b := m9) (c := (planV R.pages.toNat R.budget.toNat (.slice q (nI (plLv R.pages.toNat)).length c)).toArray) (fun _ h => h) rfl rfl rfl rfl) hS.conv ?_;simp only [putW]);(refine takeIf (i := 3) rfl (by kernel_rfl) (fun _ _ _ h => h) (yMove rfl rfl rfl) hS.conv ?_;simp only [evW,putW]);(apply takeIf (i := 5) rfl (by kernel_rfl) (fun _ _ _ h => h);(focus (apply yRun rfl;intro w;first | (go_simp;done) | (go_simp;rfl)));(focus (exact hS.conv));simp only [putW]);(refine takeIf (i := 6) rfl (by kernel_rfl) (fun _ _ _ h => h) (yLoadP (b := m8) (fun _ h => h) rfl rfl rfl HR8.out) hS.conv ?_;simp only [putW]);refine wpAnyH_all (rs := [2]) (by kernel_rfl) (by simp) ?_;intro i hi;simp only [List.mem_cons,List.not_mem_nil,or_false] at hi;subst hi;refine wpOp_of_list rfl ?_;go_wp2_with ((go_at_call 32;refine Calls.mono (top_at HTp.out hH9) ?_;rintro _ w2 ⟨rfl,h2⟩;replace hS := hS.frame h2;clear h2;(try simp only [List.cons_append,List.nil_append] at hS);simp only [putW]));refine ⟨rfl,hS.conv,?_⟩;refine wpAnyH_all (rs := [4]) (by kernel_rfl) (by simp) ?_;intro i hi;simp only [List.mem_cons,List.not_mem_nil,or_false] at hi;subst hi;refine wpOp_of_list rfl ?_;go_wp2_with (go_at_call 33;refine Calls.mono (digest_vi (b := H) (D := Dg) rfl (hS.pull 1 (X := LogV lg Ps)) hP (HRd.out _ hS.conv) hK HRl.out HDg.out) ?_;clear hS;rintro _ w ⟨rfl,hS⟩;simp only [putW]);refine ⟨rfl,hS.conv,?_⟩;refine wpAnyH_all (rs := [7]) (by kernel_rfl) (by simp) ?_;intro i hi;simp only [List.mem_cons,List.not_mem_nil,or_false] at hi;subst hi;refine wpOp_of_list rfl ?_;go_wp2_with (refine load1 hS rfl rfl rfl rfl ?_;simp only [putW]);refine ⟨rfl,hS.conv,?_⟩;refine wpAnyH_done (by kernel_rfl) ?_ _;(go_wp2_with (first | (refine buildS (segs := stSeg st0) (out := stV st0) rfl rfl [] rfl (fun p hp => by cases hp) (stSeg_flat _) ?_;simp only [putW]) | (refine storeAll (b := m6) (cs := (stV st0).toArray) hS rfl rfl rfl rfl st0_len (stOne st0) st0_len ?_;clear hS;intro w hS;try simp only [putW]));have h1 := run_loadAll (P := Tryd.prog) hS m6 28 st0_len;exact bodyPost_ret (v := btRes st0 10) (by simp [results,Tryd.results6,asAddr,h1]) rfl (by rw [hb1.out,hBE.out.2];exact ⟨rfl,hS.conv⟩)))
          · have d9 : decide (cd = 0) = false := decide_eq_false hcd
            have d9b : (cd == 0) = false := by simpa using hcd
            have d9c : (cd != 0) = true := by simpa using hcd
            have hb1 : Bx (BN = (D1,R1,st0,cd)) := ⟨by rw [← HBN.out];unfold bootN;rw [if_neg HNO.out,if_neg Hp0.out,if_neg (not_not_intro HFit.out),if_neg HMX.out,HB.out,HW.out,if_pos hcd]⟩
            have hb2 : Bx (BL = []) := ⟨by rw [← HBL.out];unfold bootL;rw [HB.out,HW.out,if_pos (.inr (.inr (.inr (.inr hcd))))]⟩
            clear hcd
            go_wp2_with (first | (refine buildS (segs := stSeg st0) (out := stV st0) rfl rfl [] rfl (fun p hp => by cases hp) (stSeg_flat _) ?_;simp only [putW]) | (refine storeAll (b := m6) (cs := (stV st0).toArray) hS rfl rfl rfl rfl st0_len (stOne st0) st0_len ?_;clear hS;intro w hS;try simp only [putW]))
            obtain ⟨h1,h2⟩ := hfin hb1.out hb2.out hS.conv
            exact bodyPost_ret (v := btRes st0 cd) (by simp [results,Tryd.results6,asAddr,h1]) rfl h2
end
end Go.Proofs.YtdkimdobcacpfaaDoor
