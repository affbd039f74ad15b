/-
  base.Job: a job in memory; an image goes home; the steps' closures.
  base.Job: the closures of a job's steps.
  base.Job: a job at work; Go does one step of it.
-/
import Derived.Test.YtdkimdobcacpfaaDoorBsFi
set_option linter.unusedSimpArgs false
set_option linter.unusedVariables false
namespace Go.Proofs.YtdkimdobcacpfaaDoor
open Go.RowKit Go.Proofs.YtdkimdobcacpfaaDoor.Sl Go.Proofs.YtdkimdobcacpfaaDoor.Sha Go.Proofs.YtdkimdobcacpfaaDoor.Jp Go.Proofs.YtdkimdobcacpfaaDoor.Tr Go.Proofs.YtdkimdobcacpfaaDoor.Dv

/-- A job's plan: what is read of it by number, the rest as it stands. -/
structure Pl where
  x0 : Value
  b : Nat
  x2 : Value
  lv : Value
  x4 : Value
  hd : Nat
  x6 : Value
  jn : Nat
  x8 : Value
  x9 : Value
abbrev jobA (d r : Nat) (lg : Value) (pl : Pl) (vB vD vI vS : Value) (bg : Bool) (ft : Int) : Array Value :=
  #[.pointer (some ⟨d,0,none⟩),.pointer (some ⟨r,0,none⟩),lg,pl.x0,.int .i64 (pl.b : Nat),pl.x2,pl.lv,pl.x4,.int .i64 (pl.hd : Nat),pl.x6,.int .i64 (pl.jn : Nat),pl.x8,pl.x9,vB,vD,vI,vS,.bool bg,.int .i64 ft]
def digF (A : List Int) : List Value := A.map u8v
/-- An image goes home: the device, the code; what is noted. -/
def homP (D : Dev) (k src : Nat) (A : List Int) : Dev × Int := if D.ready src ≠ 0 then (D,D.ready src) else if dig k (D.now src) ≠ A then (D,10) else D.write k (D.now src)
def homL (D : Dev) (k src : Nat) : List (List Int × List Int) := if D.ready src ≠ 0 then [] else [(pre k (D.now src),dig k (D.now src))]
theorem stepJ_hm (D : Dev) (R : Rg) (k src : Nat) (A : List Int) : stepJ dig D R (.hm k src A) = ((homP D k src A).1,R,(homP D k src A).2) := by
  show (if D.ready src ≠ 0 then (D,R,D.ready src) else if dig k (D.now src) ≠ A then (D,R,10) else ((D.write k (D.now src)).1,R,(D.write k (D.now src)).2)) = _
  unfold homP
  by_cases h : D.ready src ≠ 0
  · rw [if_pos h,if_pos h]
  · rw [if_neg h,if_neg h]
    by_cases h2 : dig k (D.now src) ≠ A
    · rw [if_pos h2,if_pos h2]
    · rw [if_neg h2,if_neg h2]
section
variable {w0 w : World} {K F S : List Chunk} {d r j : Nat} {D : Dev} {cv lg vB vD vI vS : Value} {pl : Pl} {bg : Bool} {ft : Int} {Ps : List (List Int × List Int)} {Bs : List Int} {Ds : List (List Int)}
set_option maxRecDepth 100000 in
set_option maxHeartbeats 8000000 in
theorem home_any {i k n0 : Nat} {A : List Int} (hB : Bs[i]? = some (k : Int)) (hDs : Ds[i]? = some A) (hA : isDig A) (hi : pl.jn + i < D.st.length) (hP : Ps.length ≤ 900000) (hsm : D.wt.length ≤ n0 ∧ D.wr.length ≤ n0 ∧ D.count ≤ n0 ∧ D.armed ≤ 9223372036854775807) (hn0 : n0 ≤ 900000) (hK : KTab w0)
    (hS : Sat w0 ((1,LogV lg Ps)::(j,cells (jobA d r lg pl vB vD vI vS bg ft) 90)::(blk vB,sl 1 i64 Bs 3 vB)::(blk vD,sl 32 digF Ds 26 vD)::(d,DevG cv D)::K) w) :
    Calls Tryd.prog 58 #[.pointer (some ⟨j,0,none⟩),.int .i64 i] w fun e w' => e = .returned (.int .i64 (homP D k (pl.jn + i) A).2) ∧ Sat w0 ((1,LogV lg (Ps ++ homL D k (pl.jn + i)))::(j,cells (jobA d r lg pl vB vD vI vS bg ft) 90)::(blk vB,sl 1 i64 Bs 3 vB)::(blk vD,sl 32 digF Ds 26 vD)::(d,DevG cv (homP D k (pl.jn + i) A).1)::K) w' := by
  have hO := devOk (hS.pull d (X := DevG cv D))
  have hst : D.st.length ≤ 65536 := hO.n2
  have hjn6 : pl.jn ≤ 65536 := by omega
  have hi6 : i ≤ 65536 := by omega
  have hib : i < Bs.length := (List.getElem?_eq_some_iff.1 hB).1
  have hid : i < Ds.length := (List.getElem?_eq_some_iff.1 hDs).1
  obtain ⟨nB,hnB⟩ : ∃ n,Bs.length = n := ⟨_,rfl⟩
  obtain ⟨nD,hnD⟩ : ∃ n,Ds.length = n := ⟨_,rfl⟩
  obtain ⟨qB,cB,hv⟩ := shapeN (hS.pull (blk vB) (X := sl 1 i64 Bs 3 vB)) hnB
  subst hv
  obtain ⟨qD,cD,hv⟩ := shapeN (hS.pull (blk vD) (X := sl 32 digF Ds 26 vD)) hnD
  subst hv
  rw [hnB] at hib
  rw [hnD] at hid
  obtain ⟨gB,hq,hcB,hS2⟩ := openS (hS.pull (blk (.slice qB nB cB)) (X := sl 1 i64 Bs 3 (.slice qB nB cB))) hnB (by omega)
  subst hq
  clear hS
  obtain ⟨gD,hq,hcD,hS⟩ := openS (hS2.pull (blk (.slice qD nD cD)) (X := sl 32 digF Ds 26 (.slice qD nD cD))) hnD (by omega)
  subst hq
  clear hS2
  have HnB : Bx _ := ⟨hnB⟩
  have HnD : Bx _ := ⟨hnD⟩
  have HB : Bx _ := ⟨hB⟩
  have HDs : Bx _ := ⟨hDs⟩
  have HO : Bx _ := ⟨hO⟩
  have HI : Bx _ := ⟨hi⟩
  have HSm : Bx _ := ⟨hsm⟩
  have HA : Bx _ := ⟨hA⟩
  have hfin : ∀ {w4 : World} {D' : Dev} {L : List (List Int × List Int)},Sat w0 ((1,LogV lg L)::(j,cells (jobA d r lg pl (.slice (some ⟨gB,0,none⟩) nB cB) (.slice (some ⟨gD,0,none⟩) nD cD) vI vS bg ft) 90)::(gB,slc 1 i64 Bs cB 3)::(gD,slc 32 digF Ds cD 26)::(d,DevG cv D')::K) w4 →
      Sat w0 ((1,LogV lg L)::(j,cells (jobA d r lg pl (.slice (some ⟨gB,0,none⟩) nB cB) (.slice (some ⟨gD,0,none⟩) nD cD) vI vS bg ft) 90)::(blk (.slice (some ⟨gB,0,none⟩) nB cB),sl 1 i64 Bs 3 (.slice (some ⟨gB,0,none⟩) nB cB))::(blk (.slice (some ⟨gD,0,none⟩) nD cD),sl 32 digF Ds 26 (.slice (some ⟨gD,0,none⟩) nD cD))::(d,DevG cv D')::K) w4 := fun {w4 D' L} h => by
    have h1 := closeSlN (m := nB) (h.pull gB (X := slc 1 i64 Bs cB 3)) HnB.out
    have h2 := closeSlN (m := nD) (h1.pull gD (X := slc 32 digF Ds cD 26)) HnD.out
    exact h2.conv
  obtain ⟨HP,hHP⟩ : ∃ HP,homP D k (pl.jn + i) A = HP := ⟨_,rfl⟩
  obtain ⟨HL,hHL⟩ : ∃ HL,homL D k (pl.jn + i) = HL := ⟨_,rfl⟩
  have HHP : Bx _ := ⟨hHP⟩
  have HHL : Bx _ := ⟨hHL⟩
  rw [hHP,hHL]
  clear hnB hnD hB hDs hO hi hsm hA hHP hHL
  obtain ⟨off,hoff⟩ : ∃ off,D.off = off := ⟨_,rfl⟩
  have HOff : Bx _ := ⟨hoff⟩
  cases off with
  | true =>
    have hr : D.ready ((pl.jn + i : Nat) : Int) = 7 := by unfold Dev.ready;rw [if_pos hoff]
    have HR7 : Bx (HP = (D,7) ∧ HL = []) := ⟨by
      rw [← HHP.out,← HHL.out]
      unfold homP homL
      rw [if_pos (by rw [hr];omega),if_pos (by rw [hr];omega),hr]
      exact ⟨rfl,rfl⟩⟩
    have HRd : ∀ {at' : Int} {w1 : World} {K1 : List Chunk},at' = ((pl.jn + i : Nat) : Int) → Sat w0 ((d,DevG cv D)::K1) w1 → Calls Tryd.prog 31 #[.pointer (some ⟨d,0,none⟩),.int .i64 at'] w1 fun e w' => e = .returned (.tuple #[.slice none 0 0,.int .i64 7]) ∧ Sat w0 ((d,DevG cv D)::K1) w' := fun {at' w1 K1} e h => by
      subst e
      have h1 := devRead_no (at' := ((pl.jn + i : Nat) : Int)) (by rw [hr];omega) h
      rw [hr] at h1
      exact h1
    clear hr hoff
    go_enter Tryd.func58,Tryd.ntmps58
    go_upto_region 1 with (refine load1 hS rfl rfl rfl rfl ?_;simp only [putW])
    (refine wp_region_held (S := fun w' => Sat w0 ((1,LogV lg Ps)::(j,cells (jobA d r lg pl (.slice (some ⟨gB,0,none⟩) nB cB) (.slice (some ⟨gD,0,none⟩) nD cD) vI vS bg ft) 90)::(gB,slc 1 i64 Bs cB 3)::(gD,slc 32 digF Ds cD 26)::(d,DevG cv D)::K) w') (by kernel_rfl) ?_;replace hS := hS.drew;(refine takeIf (i := 0) rfl (by kernel_rfl) (fun _ _ _ h => h) (yMove rfl rfl rfl) hS.conv ?_;simp only [evW,putW]);(apply takeIf (i := 1) rfl (by kernel_rfl) (fun _ _ _ h => h);(focus (apply yRun rfl;intro w;first | (go_simp;done) | (go_simp;rfl)));(focus (exact hS.conv));simp only [putW]);(apply takeIf (i := 2) rfl (by kernel_rfl) (fun _ _ _ h => h);(focus (apply yRun rfl;intro w;first | (go_simp;done) | (go_simp;rfl)));(focus (exact hS.conv));simp only [putW]);(refine takeIf (i := 3) rfl (by kernel_rfl) (fun _ _ _ h => h) (yLoad1 (fun _ h => h) rfl rfl rfl rfl) hS.conv ?_;simp only [putW]);(refine takeIf (i := 4) rfl (by kernel_rfl) (fun _ _ _ h => h) (yMove rfl rfl rfl) hS.conv ?_;simp only [evW,putW]);(apply takeIf (i := 5) rfl (by kernel_rfl) (fun _ _ _ h => h);(focus (apply yRun rfl;intro w;first | (go_simp;done) | (go_simp;rfl)));(focus (exact hS.conv));simp only [putW]);(apply takeIf (i := 6) rfl (by kernel_rfl) (fun _ _ _ h => h);(focus (apply yRun rfl;intro w;first | (go_simp;done) | (go_simp;rfl)));(focus (exact hS.conv));simp only [putW]);(apply takeIf (i := 7) rfl (by kernel_rfl) (fun _ _ _ h => h);(focus (apply yRun rfl;intro w;first | (go_simp;done) | (go_simp;rfl)));(focus (exact hS.conv));simp only [putW]);(refine takeIf (i := 8) rfl (by kernel_rfl) (fun _ _ _ h => h) (yLoad1 (fun _ h => h) rfl rfl rfl rfl) hS.conv ?_;simp only [putW]);(refine takeIf (i := 9) rfl (by kernel_rfl) (fun _ _ _ h => h) (yMove rfl rfl rfl) hS.conv ?_;simp only [evW,putW]);(apply takeIf (i := 10) rfl (by kernel_rfl) (fun _ _ _ h => h);(focus (apply yRun rfl;intro w;first | (go_simp;done) | (go_simp;rfl)));(focus (exact hS.conv));simp only [putW]);refine wpAnyH_all (rs := [11]) (by kernel_rfl) (by simp) ?_;intro i hi;simp only [List.mem_cons,List.not_mem_nil,or_false] at hi;subst hi;refine wpOp_of_list rfl ?_;go_wp2_with (go_at_call 31;refine Calls.mono (HRd (by omega) (hS.pull d (X := DevG cv D))) ?_;clear hS;rintro _ w ⟨rfl,hS⟩;simp only [putW]);refine ⟨rfl,hS.conv,?_⟩;(refine takeIf (i := 12) rfl (by kernel_rfl) (fun _ _ _ h => h) (yMove rfl rfl rfl) hS.conv ?_;simp only [evW,putW]);(apply takeIf (i := 13) rfl (by kernel_rfl) (fun _ _ _ h => h);(focus (apply yRun rfl;intro w;first | (go_simp;done) | (go_simp;rfl)));(focus (exact hS.conv));simp only [putW]);(apply takeIf (i := 14) rfl (by kernel_rfl) (fun _ _ _ h => h);(focus (apply yRun rfl;intro w;first | (go_simp;done) | (go_simp;rfl)));(focus (exact hS.conv));simp only [putW]);(apply takeIf (i := 15) rfl (by kernel_rfl) (fun _ _ _ h => h);(focus (apply yRun rfl;intro w;first | (go_simp;done) | (go_simp;rfl)));(focus (exact hS.conv));simp only [putW]);(apply takeIf (i := 16) rfl (by kernel_rfl) (fun _ _ _ h => h);(focus (apply yRun rfl;intro w;first | (go_simp;done) | (go_simp;rfl)));(focus (exact hS.conv));simp only [putW]);refine wpAnyH_done (by kernel_rfl) ?_ _;skip)
    go_wp2_with (refine load1 hS rfl rfl rfl rfl ?_;simp only [putW])
    go_ret
    rw [HR7.out.1,HR7.out.2,List.append_nil]
    exact ⟨rfl,hfin hS.conv⟩
  | false =>
    have hr : D.ready ((pl.jn + i : Nat) : Int) = 0 := by unfold Dev.ready;rw [if_neg (by rw [hoff];simp),if_neg (by have := HI.out;omega)]
    obtain ⟨row,hrow⟩ : ∃ row,D.now (pl.jn + i) = row := ⟨_,rfl⟩
    have hrr := HO.out.now HI.out
    rw [hrow] at hrr
    obtain ⟨Dg,hDg⟩ : ∃ Dg,dig k row = Dg := ⟨_,rfl⟩
    have hdl : Dg.length = 32 := by rw [← hDg];exact dig_len' _ _
    have hdb : ∀ x ∈ Dg,okByte x := by rw [← hDg];exact dig_okB _ _
    have hEq := eq32 hdl HA.out.1 hdb HA.out.2
    have HRow : Bx _ := ⟨hrow⟩
    have HRr : Bx _ := ⟨hrr⟩
    have HRl : Bx (List.length row ≤ 10000) := ⟨by rw [hrr.1];omega⟩
    have HDg : Bx _ := ⟨hDg⟩
    have HRes : Bx (HL = [(pre k row,Dg)] ∧ (Dg ≠ A → HP = (D,10)) ∧ (Dg = A → HP = D.write k row)) := ⟨by
      rw [← HHP.out,← HHL.out]
      unfold homP homL
      rw [if_neg (not_not_intro hr),if_neg (not_not_intro hr),hrow,hDg]
      exact ⟨rfl,fun h => by rw [if_pos h],fun h => by rw [if_neg (not_not_intro h)]⟩⟩
    clear hr hoff hrow hrr hDg hdl hdb
    go_enter Tryd.func58,Tryd.ntmps58
    go_upto_region 1 with (refine load1 hS rfl rfl rfl rfl ?_;simp only [putW])
    (refine wp_region_held (S := fun w' => Sat w0 ((1,LogV lg Ps)::(j,cells (jobA d r lg pl (.slice (some ⟨gB,0,none⟩) nB cB) (.slice (some ⟨gD,0,none⟩) nD cD) vI vS bg ft) 90)::(gB,slc 1 i64 Bs cB 3)::(gD,slc 32 digF Ds cD 26)::(d,DevG cv D)::K) w') (by kernel_rfl) ?_;replace hS := hS.drew;(refine takeIf (i := 0) rfl (by kernel_rfl) (fun _ _ _ h => h) (yMove rfl rfl rfl) hS.conv ?_;simp only [evW,putW]);(apply takeIf (i := 1) rfl (by kernel_rfl) (fun _ _ _ h => h);(focus (apply yRun rfl;intro w;first | (go_simp;done) | (go_simp;rfl)));(focus (exact hS.conv));simp only [putW]);(apply takeIf (i := 2) rfl (by kernel_rfl) (fun _ _ _ h => h);(focus (apply yRun rfl;intro w;first | (go_simp;done) | (go_simp;rfl)));(focus (exact hS.conv));simp only [putW]);(refine takeIf (i := 3) rfl (by kernel_rfl) (fun _ _ _ h => h) (yLoad1 (fun _ h => h) rfl rfl rfl rfl) hS.conv ?_;simp only [putW]);(refine takeIf (i := 4) rfl (by kernel_rfl) (fun _ _ _ h => h) (yMove rfl rfl rfl) hS.conv ?_;simp only [evW,putW]);(apply takeIf (i := 5) rfl (by kernel_rfl) (fun _ _ _ h => h);(focus (apply yRun rfl;intro w;first | (go_simp;done) | (go_simp;rfl)));(focus (exact hS.conv));simp only [putW]);(apply takeIf (i := 6) rfl (by kernel_rfl) (fun _ _ _ h => h);(focus (apply yRun rfl;intro w;first | (go_simp;done) | (go_simp;rfl)));(focus (exact hS.conv));simp only [putW]);(apply takeIf (i := 7) rfl (by kernel_rfl) (fun _ _ _ h => h);(focus (apply yRun rfl;intro w;first | (go_simp;done) | (go_simp;rfl)));(focus (exact hS.conv));simp only [putW]);(refine takeIf (i := 8) rfl (by kernel_rfl) (fun _ _ _ h => h) (yLoad1 (fun _ h => h) rfl rfl rfl rfl) hS.conv ?_;simp only [putW]);(refine takeIf (i := 9) rfl (by kernel_rfl) (fun _ _ _ h => h) (yMove rfl rfl rfl) hS.conv ?_;simp only [evW,putW]);(apply takeIf (i := 10) rfl (by kernel_rfl) (fun _ _ _ h => h);(focus (apply yRun rfl;intro w;first | (go_simp;done) | (go_simp;rfl)));(focus (exact hS.conv));simp only [putW]);refine wpAnyH_all (rs := [11]) (by kernel_rfl) (by simp) ?_;intro i hi;simp only [List.mem_cons,List.not_mem_nil,or_false] at hi;subst hi;refine wpOp_of_list rfl ?_;go_wp2_with (go_at_call 31;refine Calls.mono (devRead_at (k := pl.jn + i) (by omega) HOff.out HI.out (by have := HSm.out.1;omega) (hS.pull d (X := DevG cv D))) ?_;rw [HRow.out];clear hS;rintro _ w ⟨v,rfl,hS⟩;obtain ⟨qv,cv2,hv⟩ := shapeN hS HRr.out.1;subst hv;simp only [putW]);refine ⟨rfl,hS.conv,?_⟩;(refine takeIf (i := 12) rfl (by kernel_rfl) (fun _ _ _ h => h) (yMove rfl rfl rfl) hS.conv ?_;simp only [evW,putW]);(apply takeIf (i := 13) rfl (by kernel_rfl) (fun _ _ _ h => h);(focus (apply yRun rfl;intro w;first | (go_simp;done) | (go_simp;rfl)));(focus (exact hS.conv));simp only [putW]);(apply takeIf (i := 14) rfl (by kernel_rfl) (fun _ _ _ h => h);(focus (apply yRun rfl;intro w;first | (go_simp;done) | (go_simp;rfl)));(focus (exact hS.conv));simp only [putW]);(apply takeIf (i := 15) rfl (by kernel_rfl) (fun _ _ _ h => h);(focus (apply yRun rfl;intro w;first | (go_simp;done) | (go_simp;rfl)));(focus (exact hS.conv));simp only [putW]);(apply takeIf (i := 16) rfl (by kernel_rfl) (fun _ _ _ h => h);(focus (apply yRun rfl;intro w;first | (go_simp;done) | (go_simp;rfl)));(focus (exact hS.conv));simp only [putW]);refine wpAnyH_done (by kernel_rfl) ?_ _;skip)
    obtain ⟨gv,hgv⟩ : ∃ gv,blk (.slice qv 256 cv2) = gv := ⟨_,rfl⟩
    rw [hgv] at hS
    have HRd : Bx (∀ w1,Sat w0 ((gv,sl 1 by8 row 109 (.slice qv 256 cv2))::[]) w1 → RB w1 row (.slice qv 256 cv2)) := ⟨fun w1 h => by rw [← hgv] at h;exact h.readsSl (v := .slice qv 256 cv2) (L := row) HRr.out.2⟩
    clear hgv
    go_upto_region 4 with (refine load1 hS rfl rfl rfl rfl ?_;simp only [putW])
    by_cases hrt : Dg = A
    · have drt : decide (Dg = A) = true := decide_eq_true hrt
      rw [drt] at hEq
      have hb1 : Bx (HP = D.write k row) := ⟨HRes.out.2.2 hrt⟩
      clear hrt drt
      (refine wp_region_held (S := fun w' => Sat w0 ((j,cells (jobA d r lg pl (.slice (some ⟨gB,0,none⟩) nB cB) (.slice (some ⟨gD,0,none⟩) nD cD) vI vS bg ft) 90)::(gB,slc 1 i64 Bs cB 3)::(gD,slc 32 digF Ds cD 26)::(gv,sl 1 by8 row 109 (.slice qv 256 cv2))::(d,DevG cv D)::K) w') (by kernel_rfl) ?_;replace hS := hS.drew;(refine takeIf (i := 0) rfl (by kernel_rfl) (fun _ _ _ h => h) (yMove rfl rfl rfl) hS.conv ?_;simp only [evW,putW]);(apply takeIf (i := 1) rfl (by kernel_rfl) (fun _ _ _ h => h);(focus (apply yRun rfl;intro w;first | (go_simp;done) | (go_simp;rfl)));(focus (exact hS.conv));simp only [putW]);(apply takeIf (i := 2) rfl (by kernel_rfl) (fun _ _ _ h => h);(focus (apply yRun rfl;intro w;first | (go_simp;done) | (go_simp;rfl)));(focus (exact hS.conv));simp only [putW]);(refine takeIf (i := 3) rfl (by kernel_rfl) (fun _ _ _ h => h) (yLoad1 (fun _ h => h) rfl rfl rfl rfl) hS.conv ?_;simp only [putW]);(refine takeIf (i := 4) rfl (by kernel_rfl) (fun _ _ _ h => h) (yMove rfl rfl rfl) hS.conv ?_;simp only [evW,putW]);(apply takeIf (i := 5) rfl (by kernel_rfl) (fun _ _ _ h => h);(focus (apply yRun rfl;intro w;first | (go_simp;done) | (go_simp;rfl)));(focus (exact hS.conv));simp only [putW]);(apply takeIf (i := 6) rfl (by kernel_rfl) (fun _ _ _ h => h);(focus (apply yRun rfl;intro w;first | (go_simp;done) | (go_simp;rfl)));(focus (exact hS.conv));simp only [putW]);(refine takeIf (i := 7) rfl (by kernel_rfl) (fun _ _ _ h => h) (yLoad1 (fun _ h => h) rfl rfl rfl rfl) hS.conv ?_;simp only [putW]);(refine takeIf (i := 8) rfl (by kernel_rfl) (fun _ _ _ h => h) (yMove rfl rfl rfl) hS.conv ?_;simp only [evW,putW]);(apply takeIf (i := 9) rfl (by kernel_rfl) (fun _ _ _ h => h);(focus (apply yRun rfl;intro w;first | (go_simp;done) | (go_simp;rfl)));(focus (exact hS.conv));simp only [putW]);(refine takeIf (i := 10) rfl (by kernel_rfl) (fun _ _ _ h => h) (yLoadS (g := gB) (m := 1) (f := i64) (l := Bs) (fun _ h => h) rfl rfl rfl i 0 (by omega) HB.out rfl (by omega)) hS.conv ?_;simp only [putW]);(refine takeIf (i := 11) rfl (by kernel_rfl) (fun _ _ _ h => h) (yMove rfl rfl rfl) hS.conv ?_;simp only [evW,putW]);(refine takeIf (i := 13) rfl (by kernel_rfl) (fun _ _ _ h => h) (yMove rfl rfl rfl) hS.conv ?_;simp only [evW,putW]);(apply takeIf (i := 14) rfl (by kernel_rfl) (fun _ _ _ h => h);(focus (apply yRun rfl;intro w;first | (go_simp;done) | (go_simp;rfl)));(focus (exact hS.conv));simp only [putW]);(apply takeIf (i := 15) rfl (by kernel_rfl) (fun _ _ _ h => h);(focus (apply yRun rfl;intro w;first | (go_simp;done) | (go_simp;rfl)));(focus (exact hS.conv));simp only [putW]);(refine takeIf (i := 16) rfl (by kernel_rfl) (fun _ _ _ h => h) (yLoad1 (fun _ h => h) rfl rfl rfl rfl) hS.conv ?_;simp only [putW]);(refine takeIf (i := 17) rfl (by kernel_rfl) (fun _ _ _ h => h) (yMove rfl rfl rfl) hS.conv ?_;simp only [evW,putW]);(apply takeIf (i := 18) rfl (by kernel_rfl) (fun _ _ _ h => h);(focus (apply yRun rfl;intro w;first | (go_simp;done) | (go_simp;rfl)));(focus (exact hS.conv));simp only [putW]);(refine takeIf (i := 19) rfl (by kernel_rfl) (fun _ _ _ h => h) (yLoadSN (g := gD) (m := 32) (f := digF) (L := Ds) (vs := A.map u8v) (fun _ h => h) rfl rfl rfl i (by omega) HDs.out rfl) hS.conv ?_;simp only [putW]);refine wpAnyH_all (rs := [12]) (by kernel_rfl) (by simp) ?_;intro i hi;simp only [List.mem_cons,List.not_mem_nil,or_false] at hi;subst hi;refine wpOp_of_list rfl ?_;go_wp2_with (go_at_call 33;refine Calls.mono (digest_vi (b := k) (D := Dg) rfl (hS.pull 1 (X := LogV lg Ps)) (by omega) (HRd.out _ hS.conv) hK HRl.out HDg.out) ?_;clear hS;rintro _ w ⟨rfl,hS⟩;simp only [putW]);refine ⟨rfl,hS.conv,?_⟩;refine wpAnyH_all (rs := [20]) (by kernel_rfl) (by simp) ?_;intro i hi;simp only [List.mem_cons,List.not_mem_nil,or_false] at hi;subst hi;refine wpOp_of_list rfl ?_;go_wp2_with (refine load1 hS rfl rfl rfl rfl ?_;simp only [putW]);refine ⟨rfl,hS.conv,?_⟩;refine wpAnyH_done (by kernel_rfl) ?_ _;skip)
      go_upto_region 6 with (refine load1 hS rfl rfl rfl rfl ?_;simp only [putW])
      have hRb : ∀ w',Sat w0 ((gv,sl 1 by8 row 109 (.slice qv 256 cv2))::(1,LogV lg (Ps ++ [(pre k row,Dg)]))::(j,cells (jobA d r lg pl (.slice (some ⟨gB,0,none⟩) nB cB) (.slice (some ⟨gD,0,none⟩) nD cD) vI vS bg ft) 90)::(gB,slc 1 i64 Bs cB 3)::(gD,slc 32 digF Ds cD 26)::K) w' → RB w' row (.slice qv 256 cv2) := fun w' h => HRd.out w' h.conv
      (refine wp_region_held (S := fun w' => Sat w0 ((gv,sl 1 by8 row 109 (.slice qv 256 cv2))::(1,LogV lg (Ps ++ [(pre k row,Dg)]))::(j,cells (jobA d r lg pl (.slice (some ⟨gB,0,none⟩) nB cB) (.slice (some ⟨gD,0,none⟩) nD cD) vI vS bg ft) 90)::(gB,slc 1 i64 Bs cB 3)::(gD,slc 32 digF Ds cD 26)::K) w') (by kernel_rfl) ?_;replace hS := hS.drew;(refine takeIf (i := 0) rfl (by kernel_rfl) (fun _ _ _ h => h) (yMove rfl rfl rfl) hS.conv ?_;simp only [evW,putW]);(apply takeIf (i := 1) rfl (by kernel_rfl) (fun _ _ _ h => h);(focus (apply yRun rfl;intro w;first | (go_simp;done) | (go_simp;rfl)));(focus (exact hS.conv));simp only [putW]);(apply takeIf (i := 2) rfl (by kernel_rfl) (fun _ _ _ h => h);(focus (apply yRun rfl;intro w;first | (go_simp;done) | (go_simp;rfl)));(focus (exact hS.conv));simp only [putW]);(refine takeIf (i := 3) rfl (by kernel_rfl) (fun _ _ _ h => h) (yLoad1 (fun _ h => h) rfl rfl rfl rfl) hS.conv ?_;simp only [putW]);(refine takeIf (i := 4) rfl (by kernel_rfl) (fun _ _ _ h => h) (yMove rfl rfl rfl) hS.conv ?_;simp only [evW,putW]);(apply takeIf (i := 5) rfl (by kernel_rfl) (fun _ _ _ h => h);(focus (apply yRun rfl;intro w;first | (go_simp;done) | (go_simp;rfl)));(focus (exact hS.conv));simp only [putW]);(apply takeIf (i := 6) rfl (by kernel_rfl) (fun _ _ _ h => h);(focus (apply yRun rfl;intro w;first | (go_simp;done) | (go_simp;rfl)));(focus (exact hS.conv));simp only [putW]);(refine takeIf (i := 7) rfl (by kernel_rfl) (fun _ _ _ h => h) (yLoad1 (fun _ h => h) rfl rfl rfl rfl) hS.conv ?_;simp only [putW]);(refine takeIf (i := 8) rfl (by kernel_rfl) (fun _ _ _ h => h) (yMove rfl rfl rfl) hS.conv ?_;simp only [evW,putW]);(apply takeIf (i := 9) rfl (by kernel_rfl) (fun _ _ _ h => h);(focus (apply yRun rfl;intro w;first | (go_simp;done) | (go_simp;rfl)));(focus (exact hS.conv));simp only [putW]);(refine takeIf (i := 10) rfl (by kernel_rfl) (fun _ _ _ h => h) (yLoadS (g := gB) (m := 1) (f := i64) (l := Bs) (fun _ h => h) rfl rfl rfl i 0 (by omega) HB.out rfl (by omega)) hS.conv ?_;simp only [putW]);(refine takeIf (i := 11) rfl (by kernel_rfl) (fun _ _ _ h => h) (yMove rfl rfl rfl) hS.conv ?_;simp only [evW,putW]);refine wpAnyH_all (rs := [12]) (by kernel_rfl) (by simp) ?_;intro i hi;simp only [List.mem_cons,List.not_mem_nil,or_false] at hi;subst hi;refine wpOp_of_list rfl ?_;go_wp2_with (go_at_call 38;refine Calls.mono (devWrite_any (B := row) HRr.out.2 ⟨by have := HSm.out.1;omega,by have := HSm.out.2.1;omega,by have := HSm.out.2.2.1;omega,HSm.out.2.2.2⟩ ⟨by have := HSm.out.1;omega,by have := HSm.out.2.1;omega⟩ hRb (hS.conv (S' := (d,DevG cv D)::(gv,sl 1 by8 row 109 (.slice qv 256 cv2))::(1,LogV lg (Ps ++ [(pre k row,Dg)]))::(j,cells (jobA d r lg pl (.slice (some ⟨gB,0,none⟩) nB cB) (.slice (some ⟨gD,0,none⟩) nD cD) vI vS bg ft) 90)::(gB,slc 1 i64 Bs cB 3)::(gD,slc 32 digF Ds cD 26)::K))) ?_;clear hS;rintro _ w ⟨rfl,hS⟩;simp only [putW]);refine ⟨rfl,hS.conv,?_⟩;(apply takeIf (i := 13) rfl (by kernel_rfl) (fun _ _ _ h => h);(focus (apply yRun rfl;intro w;first | (go_simp;done) | (go_simp;rfl)));(focus (exact hS.conv));simp only [putW]);refine wpAnyH_done (by kernel_rfl) ?_ _;skip)
      go_wp2_with (refine load1 hS rfl rfl rfl rfl ?_;simp only [putW])
      go_ret
      rw [hb1.out,HRes.out.1]
      exact ⟨rfl,hfin hS.conv⟩
    · have drt : decide (Dg = A) = false := decide_eq_false hrt
      rw [drt] at hEq
      have hb1 : Bx (HP = (D,10)) := ⟨HRes.out.2.1 hrt⟩
      clear hrt drt
      (refine wp_region_held (S := fun w' => Sat w0 ((j,cells (jobA d r lg pl (.slice (some ⟨gB,0,none⟩) nB cB) (.slice (some ⟨gD,0,none⟩) nD cD) vI vS bg ft) 90)::(gB,slc 1 i64 Bs cB 3)::(gD,slc 32 digF Ds cD 26)::(gv,sl 1 by8 row 109 (.slice qv 256 cv2))::(d,DevG cv D)::K) w') (by kernel_rfl) ?_;replace hS := hS.drew;(refine takeIf (i := 0) rfl (by kernel_rfl) (fun _ _ _ h => h) (yMove rfl rfl rfl) hS.conv ?_;simp only [evW,putW]);(apply takeIf (i := 1) rfl (by kernel_rfl) (fun _ _ _ h => h);(focus (apply yRun rfl;intro w;first | (go_simp;done) | (go_simp;rfl)));(focus (exact hS.conv));simp only [putW]);(apply takeIf (i := 2) rfl (by kernel_rfl) (fun _ _ _ h => h);(focus (apply yRun rfl;intro w;first | (go_simp;done) | (go_simp;rfl)));(focus (exact hS.conv));simp only [putW]);(refine takeIf (i := 3) rfl (by kernel_rfl) (fun _ _ _ h => h) (yLoad1 (fun _ h => h) rfl rfl rfl rfl) hS.conv ?_;simp only [putW]);(refine takeIf (i := 4) rfl (by kernel_rfl) (fun _ _ _ h => h) (yMove rfl rfl rfl) hS.conv ?_;simp only [evW,putW]);(apply takeIf (i := 5) rfl (by kernel_rfl) (fun _ _ _ h => h);(focus (apply yRun rfl;intro w;first | (go_simp;done) | (go_simp;rfl)));(focus (exact hS.conv));simp only [putW]);(apply takeIf (i := 6) rfl (by kernel_rfl) (fun _ _ _ h => h);(focus (apply yRun rfl;intro w;first | (go_simp;done) | (go_simp;rfl)));(focus (exact hS.conv));simp only [putW]);(refine takeIf (i := 7) rfl (by kernel_rfl) (fun _ _ _ h => h) (yLoad1 (fun _ h => h) rfl rfl rfl rfl) hS.conv ?_;simp only [putW]);(refine takeIf (i := 8) rfl (by kernel_rfl) (fun _ _ _ h => h) (yMove rfl rfl rfl) hS.conv ?_;simp only [evW,putW]);(apply takeIf (i := 9) rfl (by kernel_rfl) (fun _ _ _ h => h);(focus (apply yRun rfl;intro w;first | (go_simp;done) | (go_simp;rfl)));(focus (exact hS.conv));simp only [putW]);(refine takeIf (i := 10) rfl (by kernel_rfl) (fun _ _ _ h => h) (yLoadS (g := gB) (m := 1) (f := i64) (l := Bs) (fun _ h => h) rfl rfl rfl i 0 (by omega) HB.out rfl (by omega)) hS.conv ?_;simp only [putW]);(refine takeIf (i := 11) rfl (by kernel_rfl) (fun _ _ _ h => h) (yMove rfl rfl rfl) hS.conv ?_;simp only [evW,putW]);(refine takeIf (i := 13) rfl (by kernel_rfl) (fun _ _ _ h => h) (yMove rfl rfl rfl) hS.conv ?_;simp only [evW,putW]);(apply takeIf (i := 14) rfl (by kernel_rfl) (fun _ _ _ h => h);(focus (apply yRun rfl;intro w;first | (go_simp;done) | (go_simp;rfl)));(focus (exact hS.conv));simp only [putW]);(apply takeIf (i := 15) rfl (by kernel_rfl) (fun _ _ _ h => h);(focus (apply yRun rfl;intro w;first | (go_simp;done) | (go_simp;rfl)));(focus (exact hS.conv));simp only [putW]);(refine takeIf (i := 16) rfl (by kernel_rfl) (fun _ _ _ h => h) (yLoad1 (fun _ h => h) rfl rfl rfl rfl) hS.conv ?_;simp only [putW]);(refine takeIf (i := 17) rfl (by kernel_rfl) (fun _ _ _ h => h) (yMove rfl rfl rfl) hS.conv ?_;simp only [evW,putW]);(apply takeIf (i := 18) rfl (by kernel_rfl) (fun _ _ _ h => h);(focus (apply yRun rfl;intro w;first | (go_simp;done) | (go_simp;rfl)));(focus (exact hS.conv));simp only [putW]);(refine takeIf (i := 19) rfl (by kernel_rfl) (fun _ _ _ h => h) (yLoadSN (g := gD) (m := 32) (f := digF) (L := Ds) (vs := A.map u8v) (fun _ h => h) rfl rfl rfl i (by omega) HDs.out rfl) hS.conv ?_;simp only [putW]);refine wpAnyH_all (rs := [12]) (by kernel_rfl) (by simp) ?_;intro i hi;simp only [List.mem_cons,List.not_mem_nil,or_false] at hi;subst hi;refine wpOp_of_list rfl ?_;go_wp2_with (go_at_call 33;refine Calls.mono (digest_vi (b := k) (D := Dg) rfl (hS.pull 1 (X := LogV lg Ps)) (by omega) (HRd.out _ hS.conv) hK HRl.out HDg.out) ?_;clear hS;rintro _ w ⟨rfl,hS⟩;simp only [putW]);refine ⟨rfl,hS.conv,?_⟩;refine wpAnyH_all (rs := [20]) (by kernel_rfl) (by simp) ?_;intro i hi;simp only [List.mem_cons,List.not_mem_nil,or_false] at hi;subst hi;refine wpOp_of_list rfl ?_;go_wp2_with (refine load1 hS rfl rfl rfl rfl ?_;simp only [putW]);refine ⟨rfl,hS.conv,?_⟩;refine wpAnyH_done (by kernel_rfl) ?_ _;skip)
      go_wp2_with (refine load1 hS rfl rfl rfl rfl ?_;simp only [putW])
      go_ret
      rw [hb1.out,HRes.out.1]
      exact ⟨rfl,hfin hS.conv⟩
end
end Go.Proofs.YtdkimdobcacpfaaDoor
namespace Go.Proofs.YtdkimdobcacpfaaDoor
open Go.RowKit Go.Proofs.YtdkimdobcacpfaaDoor.Sl Go.Proofs.YtdkimdobcacpfaaDoor.Sha Go.Proofs.YtdkimdobcacpfaaDoor.Jp Go.Proofs.YtdkimdobcacpfaaDoor.Tr Go.Proofs.YtdkimdobcacpfaaDoor.Dv

theorem stSet7 (s : Rg) : (stV s).toArray.setIfInBounds 7 (.bool false) = (stV { s with busy := false }).toArray := by
  rw [List.setIfInBounds_toArray]
  rfl
theorem stSet40 {s : Rg} (h : s.Wf) : ((stV s).toArray.toList.take 40 ++ ((zero32.map u8v).toArray).toList ++ (stV s).toArray.toList.drop (40 + 32)).toArray = (stV { s with mark := zero32 }).toArray := by
  have e : stV s = (.int .i64 s.pages::.int .i64 s.budget::.bool s.wide::.int .u32 s.boot::.int .u64 s.version::.int .u32 s.epoch::.int .i64 s.cursor::.bool s.busy::s.root.map u8v) ++ s.mark.map u8v := rfl
  have hl : (Value.int .i64 s.pages::.int .i64 s.budget::.bool s.wide::.int .u32 s.boot::.int .u64 s.version::.int .u32 s.epoch::.int .i64 s.cursor::.bool s.busy::s.root.map u8v).length = 40 := by simp [h.root.1]
  have hd : (stV s).drop (40 + 32) = [] := List.drop_eq_nil_of_le (by rw [stV_len h];exact Nat.le_refl _)
  show ((stV s).take 40 ++ zero32.map u8v ++ (stV s).drop (40 + 32)).toArray = _
  rw [hd,List.append_nil,e,List.take_left' hl]
  rfl
theorem calm_is (s : Rg) : ({ ({ s with busy := false } : Rg) with mark := zero32 } : Rg) = calm s := rfl
theorem calm_wf {s : Rg} (h : s.Wf) : (calm s).Wf := ⟨h.pages,h.budget,h.boot,h.version,h.epoch,h.cursor,h.root,isDig_zero⟩
theorem quiet_wf {s : Rg} (h : s.Wf) : ({ s with busy := false } : Rg).Wf := ⟨h.pages,h.budget,h.boot,h.version,h.epoch,h.cursor,h.root,h.mark⟩
theorem zero32_cells : ∀ u ∈ ((zero32.map u8v).toArray).toList,u.oneCell' = true := by
  intro u hu
  obtain ⟨x,_,rfl⟩ := List.mem_map.1 hu
  rfl
section
variable {w0 w : World} {K F S : List Chunk} {d r j bj bn mi mb : Nat} {D : Dev} {cv lg vB vD vI vS vb : Value} {pl : Pl} {bg : Bool} {ft : Int} {Ps : List (List Int × List Int)} {Bs : List Int} {Ds : List (List Int)} {R s : Rg}
/-- A mark is cleared. -/
theorem storeMark {ops : Array Oper} {rest : List Oper} {o : Oper} {a : Act} {Q : Exit → Act → World → Prop} {x y : Operand} {b : Nat} {tb : TypeId} (hS : Sat w0 S w) (hw : Region.wanted o (yielded ops a.tmps) = true) (ho : o.op = .store 26 x y) (hx : a.eval x = .pointer (some ⟨b,40,none⟩)) (hy : a.eval y = .agg (zero32.map u8v).toArray) (hs : s.Wf)
    [Pull S b (cells (stV s).toArray tb) F] (k : ∀ w',Sat w0 ((b,cells (stV { s with mark := zero32 }).toArray tb)::F) w' → wpList Tryd.prog ops Q rest (a.put o.dst undef) w') : wpList Tryd.prog ops Q (o::rest) a w := by
  refine storeN hS hw ho hx hy (by simp [zero32]) zero32_cells (b := b) (c := (stV s).toArray) (tb := tb) (by rw [List.size_toArray,stV_len hs];omega) fun w' h => ?_
  rw [stSet40 hs] at h
  exact k w' h
set_option maxRecDepth 100000 in
set_option maxHeartbeats 4000000 in
theorem step_wr {i n0 : Nat} {B : Row} (hB : isRow B) (hi : pl.hd + i ≤ 65536) (hsm : D.wt.length ≤ n0 ∧ D.wr.length ≤ n0 ∧ D.count ≤ n0 ∧ D.armed ≤ 9223372036854775807) (hn0 : n0 ≤ 900000) (hS : Sat w0 ((bj,cells #[.pointer (some ⟨j,0,none⟩)] 38)::(j,cells (jobA d r lg pl vB vD vI vS bg ft) 90)::(mi,cells #[.int .i64 i] 3)::(mb,cells #[vb] 48)::(blk vb,sl 1 by8 B 5 vb)::(d,DevG cv D)::K) w) :
    Calls Tryd.prog 55 #[.pointer (some ⟨bj,0,none⟩),.pointer (some ⟨mi,0,none⟩),.pointer (some ⟨mb,0,none⟩)] w fun e w' => e = .returned (.int .i64 (D.write ((pl.hd + i : Nat) : Int) B).2) ∧ Sat w0 ((d,DevG cv (D.write ((pl.hd + i : Nat) : Int) B).1)::(bj,cells #[.pointer (some ⟨j,0,none⟩)] 38)::(j,cells (jobA d r lg pl vB vD vI vS bg ft) 90)::K) w' := by
  obtain ⟨q,c,hv⟩ := shapeN (hS.pull (blk vb) (X := sl 1 by8 B 5 vb)) hB.1
  subst hv
  obtain ⟨gv,hgv⟩ : ∃ gv,blk (.slice q 256 c) = gv := ⟨_,rfl⟩
  rw [hgv] at hS
  have HRd : Bx (∀ w1,Sat w0 ((gv,sl 1 by8 B 5 (.slice q 256 c))::[]) w1 → RB w1 B (.slice q 256 c)) := ⟨fun w1 h => by rw [← hgv] at h;exact h.readsSl (v := .slice q 256 c) (L := B) hB.2⟩
  have HB : Bx _ := ⟨hB⟩
  have HSm : Bx _ := ⟨hsm⟩
  have hd6 : pl.hd ≤ 65536 := by omega
  have hi6 : i ≤ 65536 := by omega
  obtain ⟨W,hW⟩ : ∃ W,D.write ((pl.hd + i : Nat) : Int) B = W := ⟨_,rfl⟩
  have HW : Bx _ := ⟨hW⟩
  rw [hW]
  clear hgv hB hsm hi hW
  have HWr : ∀ {at' : Int} {w1 : World},at' = ((pl.hd + i : Nat) : Int) → Sat w0 ((d,DevG cv D)::(gv,sl 1 by8 B 5 (.slice q 256 c))::(bj,cells #[.pointer (some ⟨j,0,none⟩)] 38)::(j,cells (jobA d r lg pl vB vD vI vS bg ft) 90)::(mi,cells #[.int .i64 i] 3)::(mb,cells #[.slice q 256 c] 48)::K) w1 → Calls Tryd.prog 38 #[.pointer (some ⟨d,0,none⟩),.int .i64 at',.slice q 256 c] w1 fun e w' => e = .returned (.int .i64 W.2) ∧ Sat w0 ((d,DevG cv W.1)::(gv,sl 1 by8 B 5 (.slice q 256 c))::(bj,cells #[.pointer (some ⟨j,0,none⟩)] 38)::(j,cells (jobA d r lg pl vB vD vI vS bg ft) 90)::(mi,cells #[.int .i64 i] 3)::(mb,cells #[.slice q 256 c] 48)::K) w' := fun {at' w1} e h => by
    subst e
    rw [← HW.out]
    exact devWrite_any (B := B) HB.out.2 ⟨by have := HSm.out.1;omega,by have := HSm.out.2.1;omega,by have := HSm.out.2.2.1;omega,HSm.out.2.2.2⟩ ⟨by have := HSm.out.1;omega,by have := HSm.out.2.1;omega⟩ (fun w' h' => HRd.out w' h'.conv) h
  go_enter Tryd.func55,Tryd.ntmps55
  go_upto_region 1 with (refine load1 hS rfl rfl rfl rfl ?_;simp only [putW])
  (refine wp_region_held (S := fun w' => Sat w0 ((bj,cells #[.pointer (some ⟨j,0,none⟩)] 38)::(j,cells (jobA d r lg pl vB vD vI vS bg ft) 90)::(mi,cells #[.int .i64 i] 3)::(mb,cells #[.slice q 256 c] 48)::K) w') (by kernel_rfl) ?_;replace hS := hS.drew;(refine takeIf (i := 0) rfl (by kernel_rfl) (fun _ _ _ h => h) (yLoad1 (fun _ h => h) rfl rfl rfl rfl) hS.conv ?_;simp only [putW]);(apply takeIf (i := 1) rfl (by kernel_rfl) (fun _ _ _ h => h);(focus (apply yRun rfl;intro w;first | (go_simp;done) | (go_simp;rfl)));(focus (exact hS.conv));simp only [putW]);(apply takeIf (i := 2) rfl (by kernel_rfl) (fun _ _ _ h => h);(focus (apply yRun rfl;intro w;first | (go_simp;done) | (go_simp;rfl)));(focus (exact hS.conv));simp only [putW]);(refine takeIf (i := 3) rfl (by kernel_rfl) (fun _ _ _ h => h) (yLoad1 (fun _ h => h) rfl rfl rfl rfl) hS.conv ?_;simp only [putW]);(refine takeIf (i := 4) rfl (by kernel_rfl) (fun _ _ _ h => h) (yLoad1 (fun _ h => h) rfl rfl rfl rfl) hS.conv ?_;simp only [putW]);(apply takeIf (i := 5) rfl (by kernel_rfl) (fun _ _ _ h => h);(focus (apply yRun rfl;intro w;first | (go_simp;done) | (go_simp;rfl)));(focus (exact hS.conv));simp only [putW]);(apply takeIf (i := 6) rfl (by kernel_rfl) (fun _ _ _ h => h);(focus (apply yRun rfl;intro w;first | (go_simp;done) | (go_simp;rfl)));(focus (exact hS.conv));simp only [putW]);(apply takeIf (i := 7) rfl (by kernel_rfl) (fun _ _ _ h => h);(focus (apply yRun rfl;intro w;first | (go_simp;done) | (go_simp;rfl)));(focus (exact hS.conv));simp only [putW]);(refine takeIf (i := 8) rfl (by kernel_rfl) (fun _ _ _ h => h) (yLoad1 (fun _ h => h) rfl rfl rfl rfl) hS.conv ?_;simp only [putW]);(refine takeIf (i := 9) rfl (by kernel_rfl) (fun _ _ _ h => h) (yLoad1 (fun _ h => h) rfl rfl rfl rfl) hS.conv ?_;simp only [putW]);(apply takeIf (i := 10) rfl (by kernel_rfl) (fun _ _ _ h => h);(focus (apply yRun rfl;intro w;first | (go_simp;done) | (go_simp;rfl)));(focus (exact hS.conv));simp only [putW]);(refine takeIf (i := 11) rfl (by kernel_rfl) (fun _ _ _ h => h) (yLoad1 (fun _ h => h) rfl rfl rfl rfl) hS.conv ?_;simp only [putW]);refine wpAnyH_all (rs := [12]) (by kernel_rfl) (by simp) ?_;intro i hi;simp only [List.mem_cons,List.not_mem_nil,or_false] at hi;subst hi;refine wpOp_of_list rfl ?_;go_wp2_with (go_at_call 38;refine Calls.mono (HWr (by omega) hS.conv) ?_;clear hS;rintro _ w ⟨rfl,hS⟩;simp only [putW]);refine ⟨rfl,hS.conv,?_⟩;(apply takeIf (i := 13) rfl (by kernel_rfl) (fun _ _ _ h => h);(focus (apply yRun rfl;intro w;first | (go_simp;done) | (go_simp;rfl)));(focus (exact hS.conv));simp only [putW]);refine wpAnyH_done (by kernel_rfl) ?_ _;skip)
  go_wp2_with (refine load1 hS rfl rfl rfl rfl ?_;simp only [putW])
  go_ret
  exact ⟨rfl,hS.conv⟩
set_option maxRecDepth 100000 in
set_option maxHeartbeats 4000000 in
theorem step_rg1 {n0 : Nat} (hR : R.Wf) (hs : s.Wf) (hsm : D.wt.length ≤ n0 ∧ D.wr.length ≤ n0 ∧ D.count ≤ n0 ∧ D.armed ≤ 9223372036854775807) (hn0 : n0 ≤ 900000) (hS : Sat w0 ((bj,cells #[.pointer (some ⟨j,0,none⟩)] 38)::(j,cells (jobA d r lg pl vB vD vI vS bg ft) 90)::(bn,cells (stV s).toArray 28)::(r,RegC d R)::(d,DevG cv D)::K) w) :
    Calls Tryd.prog 56 #[.pointer (some ⟨bj,0,none⟩),.pointer (some ⟨bn,0,none⟩)] w fun e w' => e = .returned (.int .i64 (regWrite D R s).2.2) ∧ Sat w0 ((r,RegC d (regWrite D R s).2.1)::(d,DevG cv (regWrite D R s).1)::(bj,cells #[.pointer (some ⟨j,0,none⟩)] 38)::(j,cells (jobA d r lg pl vB vD vI vS bg ft) 90)::(bn,cells (stV s).toArray 28)::K) w' := by
  have HL : Bx ((stV s).toArray.size = 72) := ⟨by rw [List.size_toArray];exact stV_len hs⟩
  have HR : Bx _ := ⟨hR⟩
  have HS0 : Bx _ := ⟨hs⟩
  have HSm : Bx _ := ⟨hsm⟩
  obtain ⟨W,hW⟩ : ∃ W,regWrite D R s = W := ⟨_,rfl⟩
  have HW : Bx _ := ⟨hW⟩
  rw [hW]
  clear hR hs hsm hW
  have HWr : ∀ {w1 : World},Sat w0 ((r,RegC d R)::(d,DevG cv D)::(bj,cells #[.pointer (some ⟨j,0,none⟩)] 38)::(j,cells (jobA d r lg pl vB vD vI vS bg ft) 90)::(bn,cells (stV s).toArray 28)::K) w1 → Calls Tryd.prog 29 #[.pointer (some ⟨r,0,none⟩),.agg (stV s).toArray] w1 fun e w' => e = .returned (.int .i64 W.2.2) ∧ Sat w0 ((r,RegC d W.2.1)::(d,DevG cv W.1)::(bj,cells #[.pointer (some ⟨j,0,none⟩)] 38)::(j,cells (jobA d r lg pl vB vD vI vS bg ft) 90)::(bn,cells (stV s).toArray 28)::K) w' := fun {w1} h => by
    rw [← HW.out]
    exact regWrite_any ⟨by have := HSm.out.1;omega,by have := HSm.out.2.1;omega,by have := HSm.out.2.2.1;omega,HSm.out.2.2.2⟩ HR.out HS0.out h
  go_enter Tryd.func56,Tryd.ntmps56
  go_upto_region 1 with (refine load1 hS rfl rfl rfl rfl ?_;simp only [putW])
  (refine wp_region_held (S := fun w' => Sat w0 ((bj,cells #[.pointer (some ⟨j,0,none⟩)] 38)::(j,cells (jobA d r lg pl vB vD vI vS bg ft) 90)::(bn,cells (stV s).toArray 28)::K) w') (by kernel_rfl) ?_;replace hS := hS.drew;(refine takeIf (i := 0) rfl (by kernel_rfl) (fun _ _ _ h => h) (yLoad1 (fun _ h => h) rfl rfl rfl rfl) hS.conv ?_;simp only [putW]);(apply takeIf (i := 1) rfl (by kernel_rfl) (fun _ _ _ h => h);(focus (apply yRun rfl;intro w;first | (go_simp;done) | (go_simp;rfl)));(focus (exact hS.conv));simp only [putW]);(apply takeIf (i := 2) rfl (by kernel_rfl) (fun _ _ _ h => h);(focus (apply yRun rfl;intro w;first | (go_simp;done) | (go_simp;rfl)));(focus (exact hS.conv));simp only [putW]);(refine takeIf (i := 3) rfl (by kernel_rfl) (fun _ _ _ h => h) (yLoad1 (fun _ h => h) rfl rfl rfl rfl) hS.conv ?_;simp only [putW]);(refine takeIf (i := 4) rfl (by kernel_rfl) (fun _ _ _ h => h) (yLoadAll (b := bn) (c := (stV s).toArray) (fun _ h => h) rfl rfl rfl HL.out) hS.conv ?_;simp only [putW]);refine wpAnyH_all (rs := [5]) (by kernel_rfl) (by simp) ?_;intro i hi;simp only [List.mem_cons,List.not_mem_nil,or_false] at hi;subst hi;refine wpOp_of_list rfl ?_;go_wp2_with (go_at_call 29;refine Calls.mono (HWr hS.conv) ?_;clear hS;rintro _ w ⟨rfl,hS⟩;simp only [putW]);refine ⟨rfl,hS.conv,?_⟩;(apply takeIf (i := 6) rfl (by kernel_rfl) (fun _ _ _ h => h);(focus (apply yRun rfl;intro w;first | (go_simp;done) | (go_simp;rfl)));(focus (exact hS.conv));simp only [putW]);refine wpAnyH_done (by kernel_rfl) ?_ _;skip)
  go_wp2_with (refine load1 hS rfl rfl rfl rfl ?_;simp only [putW])
  go_ret
  exact ⟨rfl,hS.conv⟩
set_option maxRecDepth 100000 in
set_option maxHeartbeats 4000000 in
theorem step_rg2 {n0 : Nat} (hR : R.Wf) (hs : s.Wf) (hsm : D.wt.length ≤ n0 ∧ D.wr.length ≤ n0 ∧ D.count ≤ n0 ∧ D.armed ≤ 9223372036854775807) (hn0 : n0 ≤ 900000) (hS : Sat w0 ((bj,cells #[.pointer (some ⟨j,0,none⟩)] 38)::(j,cells (jobA d r lg pl vB vD vI vS bg ft) 90)::(bn,cells (stV s).toArray 28)::(r,RegC d R)::(d,DevG cv D)::K) w) :
    Calls Tryd.prog 59 #[.pointer (some ⟨bn,0,none⟩),.pointer (some ⟨bj,0,none⟩)] w fun e w' => e = .returned (.int .i64 (regWrite D R (calm s)).2.2) ∧ Sat w0 ((r,RegC d (regWrite D R (calm s)).2.1)::(d,DevG cv (regWrite D R (calm s)).1)::(bj,cells #[.pointer (some ⟨j,0,none⟩)] 38)::(j,cells (jobA d r lg pl vB vD vI vS bg ft) 90)::(bn,cells (stV (calm s)).toArray 28)::K) w' := by
  have hc := calm_wf hs
  have HL0 : Bx ((stV s).toArray.size = 72) := ⟨by rw [List.size_toArray];exact stV_len hs⟩
  have HL : Bx ((stV (calm s)).toArray.size = 72) := ⟨by rw [List.size_toArray];exact stV_len hc⟩
  have HS7 : Bx _ := ⟨stSet7 s⟩
  have HR : Bx _ := ⟨hR⟩
  have HS0 : Bx _ := ⟨hc⟩
  have HSq : Bx _ := ⟨quiet_wf hs⟩
  have HSm : Bx _ := ⟨hsm⟩
  have hce := calm_is s
  obtain ⟨W,hW⟩ : ∃ W,regWrite D R (calm s) = W := ⟨_,rfl⟩
  have HW : Bx _ := ⟨hW⟩
  rw [hW]
  obtain ⟨cs,hcs⟩ : ∃ cs,calm s = cs := ⟨_,rfl⟩
  rw [hcs] at HW HL HS0 hce ⊢
  have HCe : Bx _ := ⟨hce⟩
  clear hR hs hsm hW hce hcs hc
  have HWr : ∀ {w1 : World},Sat w0 ((r,RegC d R)::(d,DevG cv D)::(bj,cells #[.pointer (some ⟨j,0,none⟩)] 38)::(j,cells (jobA d r lg pl vB vD vI vS bg ft) 90)::(bn,cells (stV cs).toArray 28)::K) w1 → Calls Tryd.prog 29 #[.pointer (some ⟨r,0,none⟩),.agg (stV cs).toArray] w1 fun e w' => e = .returned (.int .i64 W.2.2) ∧ Sat w0 ((r,RegC d W.2.1)::(d,DevG cv W.1)::(bj,cells #[.pointer (some ⟨j,0,none⟩)] 38)::(j,cells (jobA d r lg pl vB vD vI vS bg ft) 90)::(bn,cells (stV cs).toArray 28)::K) w' := fun {w1} h => by
    rw [← HW.out]
    exact regWrite_any ⟨by have := HSm.out.1;omega,by have := HSm.out.2.1;omega,by have := HSm.out.2.2.1;omega,HSm.out.2.2.2⟩ HR.out HS0.out h
  go_enter Tryd.func59,Tryd.ntmps59
  go_upto_region 2 with (first | (refine store1 (v := .bool false) (b := bn) (c := (stV s).toArray) hS rfl rfl rfl rfl rfl ?_ ?_;(focus (rw [HL0.out];decide));clear hS;intro w hS;rw [HS7.out] at hS;try simp only [putW]) | (refine storeMark (b := bn) hS rfl rfl rfl rfl HSq.out ?_;clear hS;intro w hS;rw [HCe.out] at hS;try simp only [putW]))
  (refine wp_region_held (S := fun w' => Sat w0 ((bj,cells #[.pointer (some ⟨j,0,none⟩)] 38)::(j,cells (jobA d r lg pl vB vD vI vS bg ft) 90)::(bn,cells (stV cs).toArray 28)::K) w') (by kernel_rfl) ?_;replace hS := hS.drew;(refine takeIf (i := 0) rfl (by kernel_rfl) (fun _ _ _ h => h) (yLoad1 (fun _ h => h) rfl rfl rfl rfl) hS.conv ?_;simp only [putW]);(apply takeIf (i := 1) rfl (by kernel_rfl) (fun _ _ _ h => h);(focus (apply yRun rfl;intro w;first | (go_simp;done) | (go_simp;rfl)));(focus (exact hS.conv));simp only [putW]);(apply takeIf (i := 2) rfl (by kernel_rfl) (fun _ _ _ h => h);(focus (apply yRun rfl;intro w;first | (go_simp;done) | (go_simp;rfl)));(focus (exact hS.conv));simp only [putW]);(refine takeIf (i := 3) rfl (by kernel_rfl) (fun _ _ _ h => h) (yLoad1 (fun _ h => h) rfl rfl rfl rfl) hS.conv ?_;simp only [putW]);(refine takeIf (i := 4) rfl (by kernel_rfl) (fun _ _ _ h => h) (yLoadAll (b := bn) (c := (stV cs).toArray) (fun _ h => h) rfl rfl rfl HL.out) hS.conv ?_;simp only [putW]);refine wpAnyH_all (rs := [5]) (by kernel_rfl) (by simp) ?_;intro i hi;simp only [List.mem_cons,List.not_mem_nil,or_false] at hi;subst hi;refine wpOp_of_list rfl ?_;go_wp2_with (go_at_call 29;refine Calls.mono (HWr hS.conv) ?_;clear hS;rintro _ w ⟨rfl,hS⟩;simp only [putW]);refine ⟨rfl,hS.conv,?_⟩;(apply takeIf (i := 6) rfl (by kernel_rfl) (fun _ _ _ h => h);(focus (apply yRun rfl;intro w;first | (go_simp;done) | (go_simp;rfl)));(focus (exact hS.conv));simp only [putW]);refine wpAnyH_done (by kernel_rfl) ?_ _;skip)
  go_wp2_with (refine load1 hS rfl rfl rfl rfl ?_;simp only [putW])
  go_ret
  exact ⟨rfl,hS.conv⟩
set_option maxRecDepth 100000 in
set_option maxHeartbeats 4000000 in
theorem step_hm {i k n0 : Nat} {A : List Int} (hB : Bs[i]? = some (k : Int)) (hDs : Ds[i]? = some A) (hA : isDig A) (hi : pl.jn + i < D.st.length) (hP : Ps.length ≤ 900000) (hsm : D.wt.length ≤ n0 ∧ D.wr.length ≤ n0 ∧ D.count ≤ n0 ∧ D.armed ≤ 9223372036854775807) (hn0 : n0 ≤ 900000) (hK : KTab w0)
    (hS : Sat w0 ((1,LogV lg Ps)::(bj,cells #[.pointer (some ⟨j,0,none⟩)] 38)::(mi,cells #[.int .i64 i] 3)::(j,cells (jobA d r lg pl vB vD vI vS bg ft) 90)::(blk vB,sl 1 i64 Bs 3 vB)::(blk vD,sl 32 digF Ds 26 vD)::(d,DevG cv D)::K) w) :
    Calls Tryd.prog 57 #[.pointer (some ⟨bj,0,none⟩),.pointer (some ⟨mi,0,none⟩)] w fun e w' => e = .returned (.int .i64 (homP D k (pl.jn + i) A).2) ∧ Sat w0 ((1,LogV lg (Ps ++ homL D k (pl.jn + i)))::(j,cells (jobA d r lg pl vB vD vI vS bg ft) 90)::(blk vB,sl 1 i64 Bs 3 vB)::(blk vD,sl 32 digF Ds 26 vD)::(d,DevG cv (homP D k (pl.jn + i) A).1)::(bj,cells #[.pointer (some ⟨j,0,none⟩)] 38)::K) w' := by
  obtain ⟨W,hW⟩ : ∃ W,homP D k (pl.jn + i) A = W := ⟨_,rfl⟩
  have HW : Bx _ := ⟨hW⟩
  rw [hW]
  clear hW
  go_enter Tryd.func57,Tryd.ntmps57
  go_wp2_with (first | (guard_target =~ Calls _ 58 _ _ _;refine Stopped.out ?_) | (refine load1 hS rfl rfl rfl rfl ?_;simp only [putW]))
  refine ⟨?_⟩
  refine Calls.mono (home_any hB hDs hA hi hP hsm hn0 hK (hS.conv (S' := (1,LogV lg Ps)::(j,cells (jobA d r lg pl vB vD vI vS bg ft) 90)::(blk vB,sl 1 i64 Bs 3 vB)::(blk vD,sl 32 digF Ds 26 vD)::(d,DevG cv D)::(bj,cells #[.pointer (some ⟨j,0,none⟩)] 38)::K))) ?_
  rw [HW.out]
  clear hS
  rintro _ w ⟨rfl,hS⟩
  simp only [putW]
  go_wp2_with (refine load1 hS rfl rfl rfl rfl ?_;simp only [putW])
  go_ret
  exact ⟨rfl,hS⟩
end
end Go.Proofs.YtdkimdobcacpfaaDoor
namespace Go.Proofs.YtdkimdobcacpfaaDoor
open Go.RowKit Go.Proofs.YtdkimdobcacpfaaDoor.Sl Go.Proofs.YtdkimdobcacpfaaDoor.Sha Go.Proofs.YtdkimdobcacpfaaDoor.Jp Go.Proofs.YtdkimdobcacpfaaDoor.Tr Go.Proofs.YtdkimdobcacpfaaDoor.Dv

instance : Ty Tryd.prog 91 false 1 (.nilFunc) #[.nilFunc] := Ty.mk' (by kernel_rfl) rfl rfl
instance : Bytes Tryd.prog 91 8 := ⟨by kernel_rfl⟩
/-- What a step is, by the job's own numbers. -/
inductive StK where
  | wr (i : Nat) (B : Row)
  | fl
  | rg1
  | hm (i : Nat)
  | rg2
/-- A step in memory: the cells that its closure holds. -/
structure StM where
  k : StK
  m1 : Nat
  m2 : Nat
  v : Value
def stVal (d bj bn : Nat) (x : StM) : Value := match x.k with
  | .wr _ _ => .func (.func 55) #[] #[.pointer (some ⟨bj,0,none⟩),.pointer (some ⟨x.m1,0,none⟩),.pointer (some ⟨x.m2,0,none⟩)]
  | .fl => .func (.func 39) #[.pointer (some ⟨d,0,none⟩)] #[]
  | .rg1 => .func (.func 56) #[] #[.pointer (some ⟨bj,0,none⟩),.pointer (some ⟨bn,0,none⟩)]
  | .hm _ => .func (.func 57) #[] #[.pointer (some ⟨bj,0,none⟩),.pointer (some ⟨x.m1,0,none⟩)]
  | .rg2 => .func (.func 59) #[] #[.pointer (some ⟨bn,0,none⟩),.pointer (some ⟨bj,0,none⟩)]
def stChunks (x : StM) : List Chunk := match x.k with
  | .wr i B => [(x.m1,cells #[.int .i64 i] 3),(x.m2,cells #[x.v] 48),(blk x.v,sl 1 by8 B 5 x.v)]
  | .hm i => [(x.m1,cells #[.int .i64 i] 3)]
  | _ => []
def stEnv (X : List StM) : Sl.K := fun _ h => holds (X.flatMap stChunks) h
def skOf (pl : Pl) (Bs : List Int) (Ds : List (List Int)) (nx : Rg) (x : StM) : SK := match x.k with
  | .wr i B => .wr (pl.hd + i) B
  | .fl => .fl
  | .rg1 => .rg nx
  | .hm i => .hm (Bs.getD i 0).toNat (pl.jn + i) (Ds.getD i [])
  | .rg2 => .rg (calm nx)
def stOk (n : Nat) (pl : Pl) (Bs : List Int) (Ds : List (List Int)) (x : StM) : Prop := match x.k with
  | .wr i B => isRow B ∧ pl.hd + i ≤ 65536
  | .hm i => (∃ k : Nat,Bs[i]? = some (k : Int)) ∧ (∃ A,Ds[i]? = some A ∧ isDig A) ∧ pl.jn + i < n
  | _ => True
/-- The last write of the register stands last. -/
def stLast (X : List StM) : Prop := ∀ (i : Nat) (x : StM),X[i]? = some x → x.k = .rg2 → X.length = i + 1
/-- What a step notes. -/
def noteJ (D : Dev) : SK → List (List Int × List Int)
  | .hm k src _ => homL D k src
  | _ => []
/-- A slice of single cells that may begin anywhere in its block. -/
def q1C {α : Type} (f : α → Value) (L : List α) (t : TypeId) (v : Value) : Sl.K := fun b h =>
  (v = .slice none 0 0 ∧ L = []) ∨ ∃ off cap cur,v = .slice (some ⟨b,off,none⟩) L.length cap ∧ L.length ≤ cap ∧ h b = some (.cells cur t (0,0)) ∧ ∀ (k : Nat) (x : α),L[k]? = some x → cur[off + k]? = some (f x)
abbrev jobL (d r : Nat) (lg : Value) (pl : Pl) (vB vD vI vS : Value) (bg : Bool) (ft : Int) (Bs : List Int) (Ds : List (List Int)) (bj bn : Nat) (nx : Rg) (X : List StM) (j : Nat) : List Chunk :=
  [(j,cells (jobA d r lg pl vB vD vI vS bg ft) 90),(blk vB,sl 1 i64 Bs 3 vB),(blk vD,sl 32 digF Ds 26 vD),(bj,cells #[.pointer (some ⟨j,0,none⟩)] 38),(bn,cells (stV nx).toArray 28),(blk vS,q1C (stVal d bj bn) X 91 vS),(77,stEnv X)]
/-- A job at work: what is still to be done, and its fault. -/
def JobB (n d r : Nat) (lg : Value) (pl : Pl) (Y : List SK) (ft : Int) : Sl.K := fun j h => ∃ vB vD vI vS Bs Ds bj bn nx X,((X : List StM).map (skOf pl Bs Ds nx) = Y ∧ nx.Wf ∧ (∀ x ∈ X,stOk n pl Bs Ds x) ∧ stLast X) ∧ holds (jobL d r lg pl vB vD vI vS true ft Bs Ds bj bn nx X j) h
section
variable {w0 w : World} {K F S : List Chunk} {n d r j : Nat} {D : Dev} {cv lg vS : Value} {pl : Pl} {ft : Int} {Ps : List (List Int × List Int)} {R s : Rg} {Y : List SK}
theorem openJobB (h : Sat w0 ((j,JobB n d r lg pl Y ft)::F) w) : ∃ vB vD vI vS Bs Ds bj bn nx X,((X : List StM).map (skOf pl Bs Ds nx) = Y ∧ nx.Wf ∧ (∀ x ∈ X,stOk n pl Bs Ds x) ∧ stLast X) ∧ Sat w0 (jobL d r lg pl vB vD vI vS true ft Bs Ds bj bn nx X j ++ F) w := by
  obtain ⟨h1,h2,dd,l1,l2,⟨vB,vD,vI,vS,Bs,Ds,bj,bn,nx,X,hf,hh⟩,rest⟩ := h.has
  exact ⟨vB,vD,vI,vS,Bs,Ds,bj,bn,nx,X,hf,h.base,holds_join dd l1 l2 hh rest⟩
theorem closeJobB {vB vD vI vS : Value} {Bs : List Int} {Ds : List (List Int)} {bj bn : Nat} {nx : Rg} {X : List StM} (hf : X.map (skOf pl Bs Ds nx) = Y ∧ nx.Wf ∧ (∀ x ∈ X,stOk n pl Bs Ds x) ∧ stLast X)
    (h : Sat w0 ((j,cells (jobA d r lg pl vB vD vI vS true ft) 90)::(blk vB,sl 1 i64 Bs 3 vB)::(blk vD,sl 32 digF Ds 26 vD)::(bj,cells #[.pointer (some ⟨j,0,none⟩)] 38)::(bn,cells (stV nx).toArray 28)::(blk vS,q1C (stVal d bj bn) X 91 vS)::(77,stEnv X)::F) w) : Sat w0 ((j,JobB n d r lg pl Y ft)::F) w :=
  Sat.close (T := jobL d r lg pl vB vD vI vS true ft Bs Ds bj bn nx X j) h fun _ h => ⟨vB,vD,vI,vS,Bs,Ds,bj,bn,nx,X,hf,h⟩
theorem q1Open {α : Type} {f : α → Value} {L : List α} {t : TypeId} {b : Nat} {v : Value} (h : Sat w0 ((b,q1C f L t v)::F) w) (h0 : L ≠ []) : ∃ off cap cur,v = .slice (some ⟨b,off,none⟩) L.length cap ∧ L.length ≤ cap ∧ (∀ (k : Nat) (x : α),L[k]? = some x → cur[off + k]? = some (f x)) ∧ Sat w0 ((b,cells cur t)::F) w := by
  obtain ⟨h1,h2,d,l1,l2,hx,rest⟩ := h.has
  rcases hx with ⟨hv,hl⟩ | ⟨off,cap,cur,hv,hq,hx,hk⟩
  · exact absurd hl h0
  · exact ⟨off,cap,cur,hv,hq,hk,h.base,h1,h2,d,l1,l2,hx,rest⟩
/-- The first one taken away. -/
theorem q1Pop {α : Type} {f : α → Value} {x : α} {L : List α} {t : TypeId} {b off cap m : Nat} {cur : Array Value} (h : Sat w0 ((b,cells cur t)::F) w) (hc : (x::L).length ≤ cap) (hk : ∀ (k : Nat) (y : α),(x::L)[k]? = some y → cur[off + k]? = some (f y)) (hm : L.length = m) :
    Sat w0 ((blk (loVn 1 (some ⟨b,off,none⟩) (m + 1) cap 1),q1C f L t (loVn 1 (some ⟨b,off,none⟩) (m + 1) cap 1))::F) w := by
  subst hm
  simp only [List.length_cons] at hc
  have hadd : (⟨b,off,none⟩ : Addr).add (1 * 1) = ⟨b,off + 1,none⟩ := by unfold Addr.add;split <;> simp_all
  unfold loVn
  by_cases e : cap = 1
  · rw [if_pos e]
    refine h.turn fun hp hx => .inr ⟨off,cap - 1,cur,?_,by omega,hx,fun k y hy => ?_⟩
    · rw [show L.length + 1 - 1 = L.length by omega];rfl
    · have hl : L.length = 0 := by omega
      have := (List.getElem?_eq_some_iff.1 hy).1
      omega
  · rw [if_neg e]
    show Sat w0 ((blk (.slice (some ((⟨b,off,none⟩ : Addr).add (1 * 1))) (L.length + 1 - 1) (cap - 1)),q1C f L t (.slice (some ((⟨b,off,none⟩ : Addr).add (1 * 1))) (L.length + 1 - 1) (cap - 1)))::F) w
    rw [hadd]
    refine h.turn fun hp hx => .inr ⟨off + 1,cap - 1,cur,?_,by omega,hx,fun k y hy => ?_⟩
    · rw [show L.length + 1 - 1 = L.length by omega];rfl
    · have := hk (k + 1) y hy
      rw [show off + 1 + k = off + (k + 1) by omega]
      exact this
theorem stEnv_cons {x : StM} {X : List StM} (h : Sat w0 ((77,stEnv (x::X))::F) w) : Sat w0 (stChunks x ++ (77,stEnv X)::F) w := by
  have h1 := h.open (T := (x::X).flatMap stChunks) fun _ h => h
  rw [List.flatMap_cons,List.append_assoc] at h1
  obtain ⟨a,b,dd,l1,l2,ha,hb⟩ := holds_append h1.has
  exact ⟨h1.base,holds_join dd l1 l2 ha (holds_close hb fun _ h => h)⟩
theorem stEnv_snoc {x : StM} {X : List StM} (h : Sat w0 (stChunks x ++ (77,stEnv X)::F) w) : Sat w0 ((77,stEnv (X ++ [x]))::F) w := by
  have h1 : Sat w0 ((77,stEnv X)::(stChunks x ++ F)) w := h.perm (List.perm_middle)
  have h2 := h1.open (T := X.flatMap stChunks) fun _ h => h
  rw [← List.append_assoc] at h2
  refine h2.close (b := 77) fun _ h => ?_
  show holds ((X ++ [x]).flatMap stChunks) _
  rw [List.flatMap_append]
  simpa using h
theorem stLast_tail {x : StM} {X : List StM} (h : stLast (x::X)) : stLast X := fun i y hy hk => by
  have := h (i + 1) y (by simpa using hy) hk
  simp only [List.length_cons] at this
  omega
end
end Go.Proofs.YtdkimdobcacpfaaDoor
