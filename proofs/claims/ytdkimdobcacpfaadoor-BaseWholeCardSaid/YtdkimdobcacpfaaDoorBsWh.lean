/-
  BaseWhole: the walk.
-/
import Derived.Test.YtdkimdobcacpfaaDoorBsWv
set_option linter.unusedSimpArgs false
set_option linter.unusedVariables false
namespace Go.Proofs.YtdkimdobcacpfaaDoor.BaseWholeDone
open Go.RowKit Go.Proofs.YtdkimdobcacpfaaDoor Go.Proofs.YtdkimdobcacpfaaDoor.Sl Go.Proofs.YtdkimdobcacpfaaDoor.Sha Go.Proofs.YtdkimdobcacpfaaDoor.Jp Go.Proofs.YtdkimdobcacpfaaDoor.Tr Go.Proofs.YtdkimdobcacpfaaDoor.Dv

section
variable {w0 : World} {vfill vi vf0 vc : Value} {fill F0 : List Int} {IX : List (Value × List Int)} {CS : List CutV}
set_option maxRecDepth 200000 in
set_option maxHeartbeats 40000000 in
theorem core (xp a0 : Int) (ha : a0 ≤ 9223372036854775807) (hF : RB w0 fill vfill) (hI : RR w0 IX vi) (hF0 : RI w0 F0 vf0) (hC : BSl w0 2 cutF (CutIn w0) CS vc) (hCb : ∀ x ∈ CS,x.1 ≤ 9223372036854775807) (hK : KTab w0) :
    Calls Tryd.prog 4 #[.int .i64 xp,vfill,vi,.agg #[.int .i64 a0,vf0],vc] w0 fun e w' => e = .returned (.bool true) ∧ Sat w0 [] w' := by
  have hS := Sat.refl w0
  obtain ⟨hp1,hp3,hpe⟩ := nW_le xp
  obtain ⟨P,hP⟩ : ∃ P,nW xp = P := ⟨_,rfl⟩
  rw [hP] at hp1 hp3 hpe
  obtain ⟨hc3,hc1,-,-⟩ := c40 hp1 hp3
  obtain ⟨c,hc⟩ : ∃ c,cC P = c := ⟨_,rfl⟩
  rw [hc] at hc3 hc1
  obtain ⟨H,hH⟩ : ∃ H,P + c + 1 = H := ⟨_,rfl⟩
  have hH6 : H ≤ 50 := by omega
  have hPH : P ≤ H := by omega
  obtain ⟨qf,cf,hvf,hfl,-⟩ := BSl.at hF0
  obtain ⟨nf,hnf⟩ : ∃ nf,F0.length = nf := ⟨_,rfl⟩
  rw [hnf] at hvf
  subst hvf
  have HF : Bx _ := ⟨hF⟩
  have HI : Bx _ := ⟨hI⟩
  have HF0 : Bx _ := ⟨hF0⟩
  have HCs : Bx _ := ⟨hC⟩
  have HCb : Bx _ := ⟨hCb⟩
  have HNf : Bx _ := ⟨hnf⟩
  have HPe : Bx _ := ⟨hpe⟩
  have HFit : Bx (∀ {w1 : World} {xi : Int},xi = (P : Int) → Calls Tryd.prog 15 #[.int .i64 1000,.int .i64 xi,.int .i64 20] w1 fun e w' => ∃ g,e = .returned (.tuple #[.agg (plan20 P c H (.slice (some ⟨g,0,none⟩) 1 1)).toArray,.int .i64 0]) ∧ Sat w1 [(g,sl 1 i64 [1] 3 (.slice (some ⟨g,0,none⟩) 1 1))] w') := ⟨fun {w1 xi} h => by
    have h1 := fit20_i (w0 := w1) h hp1 hp3
    rw [hc,hH] at h1
    exact h1⟩
  have HCc : Bx _ := ⟨hc⟩
  have HHh : Bx _ := ⟨hH⟩
  have hx4 := Int.emod_nonneg xp (show (40 : Int) ≠ 0 by omega)
  have hx5 := Int.emod_lt_of_pos xp (show (0 : Int) < 40 by omega)
  clear hF hI hF0 hC hCb hnf hpe hc hH hP hfl
  go_enter Tryd.func4,Tryd.ntmps4
  go_wp2_with (first | (refine boxN (cs := #[.int .i64 a0,.slice qf nf cf]) hS rfl rfl rfl ?_;clear hS;intro m8 w hS;simp only [putW]) | (guard_target =~ Calls _ 14 _ _ _;refine Stopped.out ?_))
  refine ⟨?_⟩
  (refine Calls.mono (pick_sat xp 40 (by omega) (by omega) hS) ?_;clear hS;rintro _ w ⟨rfl,hS⟩;simp only [putW])
  go_wp2_with (guard_target =~ Calls _ 15 _ _ _;refine Stopped.out ?_)
  refine ⟨?_⟩
  refine Calls.mono (HFit.out (by have := HPe.out;omega)) ?_
  rintro _ w2 ⟨gl,rfl,h2⟩
  replace hS := hS.frame h2
  clear h2
  simp only [List.cons_append,List.nil_append] at hS
  simp only [putW]
  rw [HPe.out]
  clear hx4 hx5
  go_wp2_with (first | (refine alloc (t := 60) hS rfl rfl ?_;clear hS;intro m12 w hS;simp only [putW]) | (guard_target =~ Calls _ 5 _ _ _;refine Stopped.out ?_) | (refine load1 hS rfl rfl rfl rfl ?_;simp only [putW]) | (refine storeAll hS rfl rfl rfl rfl ?_ ?_ ?_ ?_;rfl;(focus (simp [Value.oneCell'];done));rfl;clear hS;intro w hS;try simp only [putW]))
  refine ⟨?_⟩
  refine Calls.mono (begun22 (n := H + 41) (by omega) (by omega)) ?_
  rintro _ w2 ⟨p,d,r,l,x,rfl,h2⟩
  replace hS := hS.frame h2
  clear h2
  simp only [List.cons_append,List.nil_append] at hS
  simp only [putW]
  go_upto_region 4 with (refine load1 hS rfl rfl rfl rfl ?_;simp only [putW])
  have hT : H + 41 = P + cC P + 42 := by rw [HCc.out];have := HHh.out;omega
  rw [hT] at hS
  (refine wp_region_held (S := fun w' => Sat w0 ((p,cells (pairP d r l x (.pointer none) (.pointer none)) 41)::(m8,cells #[.int .i64 a0,.slice qf nf cf] 56)::(m12,cells (plan20 P c H (.slice (some ⟨gl,0,none⟩) 1 1)).toArray 60)::(gl,sl 1 i64 [1] 3 (.slice (some ⟨gl,0,none⟩) 1 1))::[]) w') (by kernel_rfl) ?_;replace hS := hS.drew;(refine takeIf (i := 0) rfl (by kernel_rfl) (fun _ _ _ h => h) (yMove rfl rfl rfl) hS.conv ?_;simp only [evW,putW]);(apply takeIf (i := 1) rfl (by kernel_rfl) (fun _ _ _ h => h);(focus (apply yRun rfl;intro w;first | (go_simp;done) | (go_simp;rfl)));(focus (exact hS.conv));simp only [putW]);(apply takeIf (i := 2) rfl (by kernel_rfl) (fun _ _ _ h => h);(focus (apply yRun rfl;intro w;first | (go_simp;done) | (go_simp;rfl)));(focus (exact hS.conv));simp only [putW]);(refine takeIf (i := 3) rfl (by kernel_rfl) (fun _ _ _ h => h) (yLoad1 (fun _ h => h) rfl rfl rfl rfl) hS.conv ?_;simp only [putW]);(refine takeIf (i := 4) rfl (by kernel_rfl) (fun _ _ _ h => h) (yMove rfl rfl rfl) hS.conv ?_;simp only [evW,putW]);(apply takeIf (i := 5) rfl (by kernel_rfl) (fun _ _ _ h => h);(focus (apply yRun rfl;intro w;first | (go_simp;done) | (go_simp;rfl)));(focus (exact hS.conv));simp only [putW]);(apply takeIf (i := 6) rfl (by kernel_rfl) (fun _ _ _ h => h);(focus (apply yRun rfl;intro w;first | (go_simp;done) | (go_simp;rfl)));(focus (exact hS.conv));simp only [putW]);(refine takeIf (i := 7) rfl (by kernel_rfl) (fun _ _ _ h => h) (yLoad1 (fun _ h => h) rfl rfl rfl rfl) hS.conv ?_;simp only [putW]);(refine takeIf (i := 8) rfl (by kernel_rfl) (fun _ _ _ h => h) (yMove rfl rfl rfl) hS.conv ?_;simp only [evW,putW]);(apply takeIf (i := 9) rfl (by kernel_rfl) (fun _ _ _ h => h);(focus (apply yRun rfl;intro w;first | (go_simp;done) | (go_simp;rfl)));(focus (exact hS.conv));simp only [putW]);(refine takeIf (i := 10) rfl (by kernel_rfl) (fun _ _ _ h => h) (yMove rfl rfl rfl) hS.conv ?_;simp only [evW,putW]);(apply takeIf (i := 11) rfl (by kernel_rfl) (fun _ _ _ h => h);(focus (apply yRun rfl;intro w;first | (go_simp;done) | (go_simp;rfl)));(focus (exact hS.conv));simp only [putW]);(apply takeIf (i := 12) rfl (by kernel_rfl) (fun _ _ _ h => h);(focus (apply yRun rfl;intro w;first | (go_simp;done) | (go_simp;rfl)));(focus (exact hS.conv));simp only [putW]);(refine takeIf (i := 13) rfl (by kernel_rfl) (fun _ _ _ h => h) (yLoad1 (fun _ h => h) rfl rfl rfl rfl) hS.conv ?_;simp only [putW]);refine wpAnyH_all (rs := [14]) (by kernel_rfl) (by simp) ?_;intro i hi;simp only [List.mem_cons,List.not_mem_nil,or_false] at hi;subst hi;refine wpOp_of_list rfl ?_;go_wp2_with (go_at_call 9;refine Calls.mono (format_whole hp1 hp3 hK (hS.conv (S' := (1,LogV (.pointer (some ⟨l,0,none⟩)) [])::(r,RegC d st0)::(d,DevC (fresh (P + cC P + 42)))::(p,cells (pairP d r l x (.pointer none) (.pointer none)) 41)::(m8,cells #[.int .i64 a0,.slice qf nf cf] 56)::(m12,cells (plan20 P c H (.slice (some ⟨gl,0,none⟩) 1 1)).toArray 60)::(gl,sl 1 i64 [1] 3 (.slice (some ⟨gl,0,none⟩) 1 1))::[]))) ?_;clear hS;rintro _ w ⟨rfl,D1,hFm,hS⟩;simp only [putW]);refine ⟨rfl,hS.conv,?_⟩;(apply takeIf (i := 15) rfl (by kernel_rfl) (fun _ _ _ h => h);(focus (apply yRun rfl;intro w;first | (go_simp;done) | (go_simp;rfl)));(focus (exact hS.conv));simp only [putW]);refine wpAnyH_done (by kernel_rfl) ?_ _;skip)
  have hQ0 : (newL P).length ≤ 100 := by have := newL_len hp1 hp3;omega
  obtain ⟨Q0,hQ0e⟩ : ∃ Q0,newL P = Q0 := ⟨_,rfl⟩
  rw [hQ0e] at hS hQ0
  have HFm : Bx _ := ⟨hFm⟩
  have HHc : Bx (P + cC P + 1 = H) := ⟨by rw [HCc.out];exact HHh.out⟩
  clear hQ0e hFm hT
  go_upto_region 6 with (refine load1 hS rfl rfl rfl rfl ?_;simp only [putW])
  go_cut [15,16] from 62 to 77 (fun v15 v16 wc => ∃ m15,v15 = .pointer (some ⟨m15,0,none⟩) ∧ v16 = .int .i64 0 ∧ ∃ D2 R2 Q,Bt P H D2 R2 ∧ List.length Q ≤ 110 ∧ Sat w0 ((m15,cells (stV R2).toArray 28)::(1,LogV (.pointer (some ⟨l,0,none⟩)) Q)::(r,RegC d R2)::(d,DevC D2)::(p,cells (pairP d r l x (.pointer none) (.pointer none)) 41)::(m8,cells #[.int .i64 a0,.slice qf nf cf] 56)::(m12,cells (plan20 P c H (.slice (some ⟨gl,0,none⟩) 1 1)).toArray 60)::(gl,sl 1 i64 [1] 3 (.slice (some ⟨gl,0,none⟩) 1 1))::[]) wc)
  case first =>
    (refine wp_region_held (S := fun w' => Sat w0 ((p,cells (pairP d r l x (.pointer none) (.pointer none)) 41)::(m8,cells #[.int .i64 a0,.slice qf nf cf] 56)::(m12,cells (plan20 P c H (.slice (some ⟨gl,0,none⟩) 1 1)).toArray 60)::(gl,sl 1 i64 [1] 3 (.slice (some ⟨gl,0,none⟩) 1 1))::[]) w') (by kernel_rfl) ?_;replace hS := hS.drew;(refine takeIf (i := 0) rfl (by kernel_rfl) (fun _ _ _ h => h) (yMove rfl rfl rfl) hS.conv ?_;simp only [evW,putW]);(apply takeIf (i := 1) rfl (by kernel_rfl) (fun _ _ _ h => h);(focus (apply yRun rfl;intro w;first | (go_simp;done) | (go_simp;rfl)));(focus (exact hS.conv));simp only [putW]);(apply takeIf (i := 2) rfl (by kernel_rfl) (fun _ _ _ h => h);(focus (apply yRun rfl;intro w;first | (go_simp;done) | (go_simp;rfl)));(focus (exact hS.conv));simp only [putW]);(refine takeIf (i := 3) rfl (by kernel_rfl) (fun _ _ _ h => h) (yLoad1 (fun _ h => h) rfl rfl rfl rfl) hS.conv ?_;simp only [putW]);(refine takeIf (i := 4) rfl (by kernel_rfl) (fun _ _ _ h => h) (yMove rfl rfl rfl) hS.conv ?_;simp only [evW,putW]);(apply takeIf (i := 5) rfl (by kernel_rfl) (fun _ _ _ h => h);(focus (apply yRun rfl;intro w;first | (go_simp;done) | (go_simp;rfl)));(focus (exact hS.conv));simp only [putW]);(apply takeIf (i := 6) rfl (by kernel_rfl) (fun _ _ _ h => h);(focus (apply yRun rfl;intro w;first | (go_simp;done) | (go_simp;rfl)));(focus (exact hS.conv));simp only [putW]);(refine takeIf (i := 7) rfl (by kernel_rfl) (fun _ _ _ h => h) (yLoad1 (fun _ h => h) rfl rfl rfl rfl) hS.conv ?_;simp only [putW]);(refine takeIf (i := 8) rfl (by kernel_rfl) (fun _ _ _ h => h) (yMove rfl rfl rfl) hS.conv ?_;simp only [evW,putW]);(apply takeIf (i := 9) rfl (by kernel_rfl) (fun _ _ _ h => h);(focus (apply yRun rfl;intro w;first | (go_simp;done) | (go_simp;rfl)));(focus (exact hS.conv));simp only [putW]);(apply takeIf (i := 10) rfl (by kernel_rfl) (fun _ _ _ h => h);(focus (apply yRun rfl;intro w;first | (go_simp;done) | (go_simp;rfl)));(focus (exact hS.conv));simp only [putW]);(refine takeIf (i := 11) rfl (by kernel_rfl) (fun _ _ _ h => h) (yLoad1 (fun _ h => h) rfl rfl rfl rfl) hS.conv ?_;simp only [putW]);refine wpAnyH_all (rs := [12,16]) (by kernel_rfl) (by simp) ?_;intro i hi;simp only [List.mem_cons,List.not_mem_nil,or_false] at hi;rcases hi with rfl | rfl;(focus (refine wpOp_of_list rfl ?_;go_wp2_with (go_at_call 6;refine Calls.mono (boot_whole hp1 hp3 HHc.out HFm.out hQ0 hK (((hS.pull d (X := DevC D1)).pull r (X := RegC d (newSt (cfW P)))).pull 1 (X := LogV (.pointer (some ⟨l,0,none⟩)) Q0))) ?_;clear hS;rintro _ w ⟨D2,R2,Q,hBt,hQl,rfl,hS⟩;have HL2 : Bx ((stV R2).toArray.size = 72) := ⟨by rw [List.size_toArray];exact stV_len hBt.rg.wf⟩;simp only [putW]);refine ⟨rfl,hS.conv,?_⟩;(refine takeIf (i := 13) rfl (by kernel_rfl) (fun _ _ _ h => h) (yMove rfl rfl rfl) hS.conv ?_;simp only [evW,putW]);(apply takeIf (i := 14) rfl (by kernel_rfl) (fun _ _ _ h => h);(focus (apply yRun rfl;intro w;first | (go_simp;done) | (go_simp;rfl)));(focus (exact hS.conv));simp only [putW]);(apply takeIf (i := 15) rfl (by kernel_rfl) (fun _ _ _ h => h);(focus (apply yRun rfl;intro w;first | (go_simp;done) | (go_simp;rfl)));(focus (exact hS.conv));simp only [putW]);refine wpAnyH_all (rs := [16]) (by kernel_rfl) (by simp) ?_;intro i hi;simp only [List.mem_cons,List.not_mem_nil,or_false] at hi;subst hi;refine wpOp_of_list rfl ?_;go_wp2_with (refine allocS (t := 28) hS rfl rfl (stV st0).toArray st0_cells ?_;clear hS;intro m15 w hS;simp only [putW]);refine ⟨rfl,hS.conv,?_⟩;refine wpAnyH_all (rs := [17]) (by kernel_rfl) (by simp) ?_;intro i hi;simp only [List.mem_cons,List.not_mem_nil,or_false] at hi;subst hi;refine wpOp_of_list rfl ?_;go_wp2_with (refine storeAll (b := m15) (cs := (stV R2).toArray) hS rfl rfl rfl rfl HL2.out (stOne R2) st0_len ?_;clear hS;intro w hS;try simp only [putW]);refine ⟨rfl,hS.conv,?_⟩;(apply takeIf (i := 18) rfl (by kernel_rfl) (fun _ _ _ h => h);(focus (apply yRun rfl;intro w;first | (go_simp;done) | (go_simp;rfl)));(focus (exact hS.conv));simp only [putW]);refine wpAnyH_done (by kernel_rfl) ?_ _;go_wp2_with (refine load1 hS rfl rfl rfl rfl ?_;simp only [putW]);go_meet;(case rel => exact ⟨m15,rfl,rfl,D2,R2,Q,hBt,by omega,hS.conv⟩)));(focus (refine wpOp_of_list rfl ?_;go_wp2_with (refine allocS (t := 28) hS rfl rfl (stV st0).toArray st0_cells ?_;clear hS;intro m15 w hS;simp only [putW]);refine ⟨rfl,hS.conv,?_⟩;refine wpAnyH_all (rs := [12]) (by kernel_rfl) (by simp) ?_;intro i hi;simp only [List.mem_cons,List.not_mem_nil,or_false] at hi;subst hi;refine wpOp_of_list rfl ?_;go_wp2_with (go_at_call 6;refine Calls.mono (boot_whole hp1 hp3 HHc.out HFm.out hQ0 hK (((hS.pull d (X := DevC D1)).pull r (X := RegC d (newSt (cfW P)))).pull 1 (X := LogV (.pointer (some ⟨l,0,none⟩)) Q0))) ?_;clear hS;rintro _ w ⟨D2,R2,Q,hBt,hQl,rfl,hS⟩;have HL2 : Bx ((stV R2).toArray.size = 72) := ⟨by rw [List.size_toArray];exact stV_len hBt.rg.wf⟩;simp only [putW]);refine ⟨rfl,hS.conv,?_⟩;(refine takeIf (i := 13) rfl (by kernel_rfl) (fun _ _ _ h => h) (yMove rfl rfl rfl) hS.conv ?_;simp only [evW,putW]);(apply takeIf (i := 14) rfl (by kernel_rfl) (fun _ _ _ h => h);(focus (apply yRun rfl;intro w;first | (go_simp;done) | (go_simp;rfl)));(focus (exact hS.conv));simp only [putW]);(apply takeIf (i := 15) rfl (by kernel_rfl) (fun _ _ _ h => h);(focus (apply yRun rfl;intro w;first | (go_simp;done) | (go_simp;rfl)));(focus (exact hS.conv));simp only [putW]);refine wpAnyH_all (rs := [17]) (by kernel_rfl) (by simp) ?_;intro i hi;simp only [List.mem_cons,List.not_mem_nil,or_false] at hi;subst hi;refine wpOp_of_list rfl ?_;go_wp2_with (refine storeAll (b := m15) (cs := (stV R2).toArray) hS rfl rfl rfl rfl HL2.out (stOne R2) st0_len ?_;clear hS;intro w hS;try simp only [putW]);refine ⟨rfl,hS.conv,?_⟩;(apply takeIf (i := 18) rfl (by kernel_rfl) (fun _ _ _ h => h);(focus (apply yRun rfl;intro w;first | (go_simp;done) | (go_simp;rfl)));(focus (exact hS.conv));simp only [putW]);refine wpAnyH_done (by kernel_rfl) ?_ _;go_wp2_with (refine load1 hS rfl rfl rfl rfl ?_;simp only [putW]);go_meet;(case rel => exact ⟨m15,rfl,rfl,D2,R2,Q,hBt,by omega,hS.conv⟩))))
  case rest =>
    clear hS
    obtain ⟨m15,rfl,rfl,D2,R2,Q,hBt,hQl,hS⟩ := hcut
    have HBt : Bx _ := ⟨hBt⟩
    have HL2 : Bx ((stV R2).toArray.size = 72) := ⟨by rw [List.size_toArray];exact stV_len hBt.rg.wf⟩
    clear hBt HFm hQ0
    by_cases hnf : nf ≤ 1000
    rotate_left
    · have d1 : decide ((1000 : Int) < (nf : Int)) = true := decide_eq_true (by omega)
      have d2 : decide (1000 < nf) = true := decide_eq_true (by omega)
      clear hnf
      go_wp2_with (refine load1 hS rfl rfl rfl rfl ?_;simp only [putW])
      go_ret
      exact ⟨rfl,hS.nothing⟩
    have d1 : decide ((1000 : Int) < (nf : Int)) = false := decide_eq_false (by omega)
    have d2 : decide (1000 < nf) = false := decide_eq_false (by omega)
    have HNf9 : Bx (nf ≤ 1000) := ⟨hnf⟩
    go_wp2_with (first | (refine loadAll (b := m12) hS rfl rfl rfl rfl ?_;simp only [putW]) | (guard_target =~ Calls _ 16 _ _ _;refine Stopped.out ?_) | (refine load1 hS rfl rfl rfl rfl ?_;simp only [putW]))
    refine ⟨?_⟩
    refine Calls.mono (all_any (H := H) (P := P) (c := c) HBt.out.on.off (by have := HBt.out.len;omega) (by rw [HBt.out.wt];simp) (hS.conv (S' := (p,cells (pairP d r l x (.pointer none) (.pointer none)) 41)::(d,DevC D2)::(m15,cells (stV R2).toArray 28)::(1,LogV (.pointer (some ⟨l,0,none⟩)) Q)::(r,RegC d R2)::(m8,cells #[.int .i64 a0,.slice qf nf cf] 56)::(m12,cells (plan20 P c H (.slice (some ⟨gl,0,none⟩) 1 1)).toArray 60)::(gl,sl 1 i64 [1] 3 (.slice (some ⟨gl,0,none⟩) 1 1))::[]))) ?_
    clear hS
    rintro _ w ⟨v17,X0,rfl,HX0,hS⟩
    simp only [putW]
    have hX0l : X0.length = H := by have h := congrArg List.length HX0.out;rw [List.length_map,rowsAt_len] at h;exact h
    have hX0r : ∀ y ∈ X0,isRow y.2 := fun y hy => rowsAt_row (f := 0) (n := H) (devOk (hS.pull d (X := DevC D2))) (by have := HBt.out.len;omega) y.2 (by rw [← HX0.out];exact List.mem_map_of_mem hy)
    obtain ⟨q0,c0,hv⟩ := shapeN (hS.pull (blk v17) (X := sl 1 rowF X0 48 v17)) hX0l
    subst hv
    have HX0l : Bx _ := ⟨hX0l⟩
    have HX0r : Bx _ := ⟨hX0r⟩
    have hS1 := (hS.innNil 81 5).slNil 1 rowF 48
    clear hS hX0l hX0r
    have hS : Sat w0 ((blk (.slice none 0 0),sl 1 rowF ([] : List (Value × List Int)) 48 (.slice none 0 0))::(81,inn [] 5)::(blk (.slice q0 H c0),sl 1 rowF X0 48 (.slice q0 H c0))::(71,inn X0 109)::(p,cells (pairP d r l x (.pointer none) (.pointer none)) 41)::(d,DevC D2)::(m15,cells (stV R2).toArray 28)::(1,LogV (.pointer (some ⟨l,0,none⟩)) Q)::(r,RegC d R2)::(m8,cells #[.int .i64 a0,.slice qf nf cf] 56)::(m12,cells (plan20 P c H (.slice (some ⟨gl,0,none⟩) 1 1)).toArray 60)::(gl,sl 1 i64 [1] 3 (.slice (some ⟨gl,0,none⟩) 1 1))::[]) w := hS1
    clear hS1
    have hFb : ∀ y ∈ fill,okByte y := (HF.out).all
    have HFb : Bx _ := ⟨hFb⟩
    clear hFb
    go_wp2_with (refine load1 hS rfl rfl rfl rfl ?_;simp only [putW])
    go_loopg [18,19] c (fun g v i wr => ∃ (k : Nat) (XC : List (Value × List Int)),k + g = c ∧ i = .int .i64 k ∧ Bx (XC.map (·.2) = (List.range k).map (cntR fill)) ∧ Sat w0 ((blk v,sl 1 rowF XC 48 v)::(81,inn XC 5)::(blk (.slice q0 H c0),sl 1 rowF X0 48 (.slice q0 H c0))::(71,inn X0 109)::(p,cells (pairP d r l x (.pointer none) (.pointer none)) 41)::(d,DevC D2)::(m15,cells (stV R2).toArray 28)::(1,LogV (.pointer (some ⟨l,0,none⟩)) Q)::(r,RegC d R2)::(m8,cells #[.int .i64 a0,.slice qf nf cf] 56)::(m12,cells (plan20 P c H (.slice (some ⟨gl,0,none⟩) 1 1)).toArray 60)::(gl,sl 1 i64 [1] 3 (.slice (some ⟨gl,0,none⟩) 1 1))::[]) wr)
    case atStart => exact ⟨0,[],by omega,rfl,⟨rfl⟩,hS⟩
    case round =>
      clear hS
      obtain ⟨k,XC,hkg,rfl,HXC,hS⟩ := hrel
      have hXCl : XC.length = k := by have h := congrArg List.length HXC.out;rw [List.length_map,List.length_map,List.length_range] at h;exact h
      have hXC6 : XC.length ≤ 100 := by omega
      cases gk with
      | succ g =>
        have hkc : k < c := by omega
        have hk3 : k ≤ 3 := by omega
        have hw8 : IntKind.u8.wrap (k : Int) = (k : Int) := by rw [IntKind.wrap_u8];omega
        have hm8 : (k : Int) % 256 = (k : Int) := by omega
        have HSet : Bx ((fullR fill).set 0 (k : Int) = cntR fill k) := ⟨rfl⟩
        have HRow : Bx (isRow (cntR fill k)) := ⟨cntR_row HFb.out (by omega)⟩
        have HFl : Bx ((fullR fill).length = 256) := ⟨(fullR_row HFb.out).1⟩
        clear hXCl
        go_wp2_with (first | (guard_target =~ Calls _ 11 _ _ _;refine Stopped.out ?_) | (refine load1 hS rfl rfl rfl rfl ?_;simp only [putW]))
        refine ⟨?_⟩
        refine Calls.mono (full_any (HF.out.mono hS.base)) ?_
        rintro _ w2 ⟨gr,rfl,h2⟩
        replace hS := hS.frame h2
        clear h2
        simp only [List.cons_append,List.nil_append] at hS
        simp only [putW]
        go_wp2_with (first | (refine storeS1 (v1 := Value.int .u8) hS rfl rfl rfl (k : Int) rfl rfl ?_ ?_;(focus (rw [HFl.out];omega));clear hS;intro w hS;rw [HSet.out] at hS;try simp only [putW]) | (refine buildSlice1 (c := #[.slice (some ⟨gr,0,none⟩) 256 256]) hS rfl rfl rfl ?_ ?_ ?_ ?_;rfl;rfl;rfl;clear hS;intro mb w hS;simp only [putW]) | (refine append1 (f := rowF) hS rfl rfl u18 rfl rfl ((.slice (some ⟨gr,0,none⟩) 256 256,cntR fill k) : Value × List Int) ?_ ?_ ?_ ?_ ?_ ?_;rfl;(focus (simp [rowF,one,Value.oneCell'];done));rfl;(focus (simp [maxLen];omega));(focus (omega));clear hS;intro v' w hS;simp only [putW]))
        go_roundg g
        case measure => omega
        case rel =>
          have h1 := closeSlN (m := 256) (hS.pull gr (X := slc 1 by8 (cntR fill k) 256 5)) HRow.out.1
          have h2 := h1.innAdd (.slice (some ⟨gr,0,none⟩) 256 256) (j := 81) (X := XC) (t := 5) rfl
          exact ⟨k + 1,XC ++ [(.slice (some ⟨gr,0,none⟩) 256 256,cntR fill k)],by omega,by go_num,⟨by rw [List.map_append,HXC.out,List.range_succ,List.map_append];rfl⟩,h2.conv⟩
      | zero =>
        have hkc : c = k := by omega
        subst hkc
        clear hkg
        have HXCl : Bx (XC.length = c) := ⟨hXCl⟩
        have hXCr : ∀ y ∈ XC,isRow y.2 := fun y hy => by
          have h1 : y.2 ∈ (List.range c).map (cntR fill) := by rw [← HXC.out];exact List.mem_map_of_mem hy
          obtain ⟨i,hi,he⟩ := List.mem_map.1 h1
          rw [← he]
          exact cntR_row HFb.out (by have := List.mem_range.1 hi;omega)
        have HXCr : Bx _ := ⟨hXCr⟩
        clear hXCl hXCr hXC6
        go_wp2_with (first | (refine loadAll (b := m12) hS rfl rfl rfl rfl ?_;simp only [putW]) | (guard_target =~ Calls _ 17 _ _ _;refine Stopped.out ?_) | (refine load1 hS rfl rfl rfl rfl ?_;simp only [putW]))
        refine ⟨?_⟩
        have hrr := hS.rowsRead (j := 81) (X := XC) (t := 5) (T := 48) (vo := u18) fun y hy => (HXCr.out y hy).2
        have hlv : RI _ (lvs 1 1) (.slice (some ⟨gl,0,none⟩) 1 1) := hS.readsSl (v := .slice (some ⟨gl,0,none⟩) 1 1) (L := [(1 : Int)]) fun _ _ => trivial
        refine Calls.mono (refAll_any (P := P) (C := c) (n1 := 1) (N := 1) (b := 20) (H := H) (hd := 1) (J := ((H + 1 : Nat) : Int)) (s := ((H + 21 : Nat) : Int)) (t := ((H + 41 : Nat) : Int)) hrr hlv (by omega) HXCl.out (by omega) (by omega) (.inl ⟨rfl,rfl⟩) (fun y hy => (HXCr.out y hy).1) (by omega)) ?_
        clear hrr hlv
        rintro _ w2 ⟨gT,Y,cT,rfl,hY,h2⟩
        replace hS := hS.frame h2
        clear h2
        simp only [List.cons_append,List.nil_append] at hS
        simp only [putW]
        replace hS := (hS.pull 0 (X := inn Y 5)).turn (b' := 82) (Y := inn Y 5) fun _ h => h
        have hYl : Y.length = c + 1 := by have h := congrArg List.length hY;rw [List.length_map,all_len,List.length_map,HXCl.out] at h;exact h
        have hYr : ∀ y ∈ Y,isRow y.2 := fun y hy => by
          have h1 : y.2 ∈ all dig P c 1 1 (XC.map (·.2)) (c + 1) := by rw [← hY];exact List.mem_map_of_mem hy
          exact all_rows dig_len' dig_okB P c 1 1 (XC.map (·.2)) (fun r hr => by obtain ⟨z,hz,rfl⟩ := List.mem_map.1 hr;exact HXCr.out z hz) (c + 1) y.2 h1
        have HYl : Bx _ := ⟨hYl⟩
        have HYr : Bx _ := ⟨hYr⟩
        obtain ⟨g0,hq0,hc0,hS2⟩ := openS (hS.pull (blk (.slice q0 H c0)) (X := sl 1 rowF X0 48 (.slice q0 H c0))) HX0l.out (by omega)
        subst hq0
        have hPc0 : P ≤ c0 := by omega
        have hS3 := hS2.conv (S' := (g0,slc 1 rowF X0 c0 48)::(gT,slc 1 rowF Y cT 48)::(82,inn Y 5)::(71,inn X0 109)::(p,cells (pairP d r l x (.pointer none) (.pointer none)) 41)::(d,DevC D2)::(m15,cells (stV R2).toArray 28)::(1,LogV (.pointer (some ⟨l,0,none⟩)) Q)::(r,RegC d R2)::(m8,cells #[.int .i64 a0,.slice qf nf cf] 56)::(m12,cells (plan20 P c H (.slice (some ⟨gl,0,none⟩) 1 1)).toArray 60)::(gl,sl 1 i64 [1] 3 (.slice (some ⟨gl,0,none⟩) 1 1))::[])
        clear hS hS2 hYl hYr hY
        have hS := hS3
        clear hS3
        have HX0c : Bx _ := ⟨innCells (j := 71) (t := 109) hS HX0r.out⟩
        have HYc : Bx _ := ⟨innCells (j := 82) (t := 5) hS HYr.out⟩
        have HYt : Bx (∀ y ∈ Y,∀ u ∈ rowF y,u.oneCell' = true) := ⟨row_cells _ HYc.out⟩
        have HTl : Bx (((X0.take P).length = P) ∧ P ≤ H) := ⟨by rw [List.length_take,HX0l.out];omega,by omega⟩
        have HM1 : Bx (([] : List (Value × List Int)).length + (X0.take P).length ≤ maxLen ∧ (([] : List (Value × List Int)).length + (X0.take P).length) * 24 ≤ 140737488355328) := ⟨by rw [HTl.out.1];simp [maxLen];omega,by rw [HTl.out.1];simp;omega⟩
        have HM2 : Bx (([] ++ X0.take P).length + Y.length ≤ maxLen ∧ (([] ++ X0.take P).length + Y.length) * 24 ≤ 140737488355328) := ⟨by rw [List.nil_append,HTl.out.1,HYl.out];simp [maxLen];omega,by rw [List.nil_append,HTl.out.1,HYl.out];omega⟩
        have HPc0 : Bx _ := ⟨hPc0⟩
        clear hPc0 hc0
        have HC4 : Bx (CellIs (stV R2).toArray 4 (.int .u64 0)) := ⟨by rw [← HBt.out.version];exact stCell4 R2⟩
        have HS4 : Bx ((stV R2).toArray.setIfInBounds 4 (.int .u64 1) = (stV { R2 with version := 1 }).toArray) := ⟨stSet4 R2 1⟩
        go_wp2_with (first | (refine buildSlice0 hS rfl rfl rowF ?_;clear hS;intro m0 w hS;simp only [putW]) | (refine sliceHiV (k := P) rfl rfl rfl rfl rfl HPc0.out ?_;simp only [putW]) | (refine appendB (n := 1) (f := rowF) hS rfl rfl (.slice (some ⟨m0,0,none⟩) 0 0) rfl rfl (X0.take P) (takeRead (g := g0) hS HX0l.out HTl.out.2) (takeCells HX0c.out P) HM1.out.1 HM1.out.2 ?_;clear hS;intro v21 w hS;simp only [putW]) | (refine appendB (n := 1) (f := rowF) hS rfl rfl v21 rfl rfl Y (allRead (g := gT) hS HYl.out) HYt.out HM2.out.1 HM2.out.2 ?_;clear hS;intro v22 w hS;simp only [putW]) | (refine loadC (b := m15) (c := (stV R2).toArray) hS rfl rfl rfl HC4.out ?_;simp only [putW]) | (refine store1 (v := .int .u64 1) (b := m15) (c := (stV R2).toArray) hS rfl rfl rfl rfl rfl ?_ ?_;(focus (rw [HL2.out];decide));clear hS;intro w hS;rw [HS4.out] at hS;try simp only [putW]) | (refine loadAll (b := m12) hS rfl rfl rfl rfl ?_;simp only [putW]) | (guard_target =~ Calls _ 18 _ _ _;refine Stopped.out ?_))
        refine ⟨?_⟩
        obtain ⟨⟨vt,top⟩,htop⟩ : ∃ y,Y[c]? = some y := ⟨_,List.getElem?_eq_getElem (by rw [HYl.out];omega)⟩
        have hdtop : isDig (dig (H - 1) top) := ⟨dig_len' _ _,dig_okB _ _⟩
        obtain ⟨rt,hrt⟩ : ∃ rt,dig (H - 1) top = rt := ⟨_,rfl⟩
        rw [hrt] at hdtop
        have hrr := rrSlc (g := gT) (j := 82) (t := 5) hS HYl.out HYr.out
        refine Calls.mono (refRoot_any (k := H - 1) (n := c) (D := rt) hrr HYl.out htop (by have := HHh.out;omega) (by omega) hrt (by rw [(HYr.out _ (List.mem_of_getElem? htop)).1];omega)) ?_
        clear hrr
        rintro _ w2 ⟨rfl,h2⟩
        replace hS := hS.frame h2
        clear h2
        simp only [List.cons_append,List.nil_append] at hS
        simp only [putW]
        have HRt : Bx (dig (H - 1) top = rt) := ⟨hrt⟩
        have HTop : Bx (Y[c]? = some (vt,top)) := ⟨htop⟩
        have HRd : Bx _ := ⟨hdtop⟩
        clear hrt htop hdtop
        have hwv : ({ R2 with version := 1 } : Rg).Wf := ⟨HBt.out.rg.wf.pages,HBt.out.rg.wf.budget,HBt.out.rg.wf.boot,by show (0 : Int) ≤ 1 ∧ (1 : Int) < _;omega,HBt.out.rg.wf.epoch,HBt.out.rg.wf.cursor,HBt.out.rg.wf.root,HBt.out.rg.wf.mark⟩
        have HWv : Bx _ := ⟨hwv⟩
        have hws : ({ R2 with version := 1,root := rt } : Rg).Wf := ⟨hwv.pages,hwv.budget,hwv.boot,hwv.version,hwv.epoch,hwv.cursor,HRd.out,hwv.mark⟩
        obtain ⟨S0,hS0⟩ : ∃ S0,({ R2 with version := 1,root := rt } : Rg) = S0 := ⟨_,rfl⟩
        have HS0 : Bx _ := ⟨hS0⟩
        rw [hS0] at hws
        have HS0r : Bx (({ ({ R2 with version := 1 } : Rg) with root := rt } : Rg) = S0) := ⟨hS0⟩
        have HWs : Bx _ := ⟨hws⟩
        have HSl : Bx ((stV S0).toArray.size = 72) := ⟨by rw [List.size_toArray];exact stV_len hws⟩
        clear hwv hws hS0
        go_upto_region 21 with (refine storeRoot (b := m15) (m := rt) hS rfl rfl rfl rfl HWv.out HRd.out.1 ?_;clear hS;intro w hS;rw [HS0r.out] at hS;try simp only [putW])
        (refine wp_region_held (S := fun w' => Sat w0 ((blk v22,sl 1 rowF (List.take P X0 ++ Y) 48 v22)::(1,LogV (.pointer (some ⟨l,0,none⟩)) Q)::(g0,slc 1 rowF X0 c0 48)::(71,inn X0 109)::(gT,slc 1 rowF Y cT 48)::(82,inn Y 5)::(p,cells (pairP d r l x (.pointer none) (.pointer none)) 41)::(m15,cells (stV S0).toArray 28)::(r,RegC d R2)::(m8,cells #[.int .i64 a0,.slice qf nf cf] 56)::(m12,cells (plan20 P c H (.slice (some ⟨gl,0,none⟩) 1 1)).toArray 60)::(gl,sl 1 i64 [1] 3 (.slice (some ⟨gl,0,none⟩) 1 1))::[]) w') (by kernel_rfl) ?_;replace hS := hS.drew;(refine takeIf (i := 0) rfl (by kernel_rfl) (fun _ _ _ h => h) (yMove rfl rfl rfl) hS.conv ?_;simp only [evW,putW]);(apply takeIf (i := 1) rfl (by kernel_rfl) (fun _ _ _ h => h);(focus (apply yRun rfl;intro w;first | (go_simp;done) | (go_simp;rfl)));(focus (exact hS.conv));simp only [putW]);(apply takeIf (i := 2) rfl (by kernel_rfl) (fun _ _ _ h => h);(focus (apply yRun rfl;intro w;first | (go_simp;done) | (go_simp;rfl)));(focus (exact hS.conv));simp only [putW]);(refine takeIf (i := 3) rfl (by kernel_rfl) (fun _ _ _ h => h) (yLoad1 (fun _ h => h) rfl rfl rfl rfl) hS.conv ?_;simp only [putW]);(apply takeIf (i := 4) rfl (by kernel_rfl) (fun _ _ _ h => h);(focus (apply yRun rfl;intro w;first | (go_simp;done) | (go_simp;rfl)));(focus (exact hS.conv));simp only [putW]);(refine takeIf (i := 5) rfl (by kernel_rfl) (fun _ _ _ h => h) (yLoad1 (fun _ h => h) rfl rfl rfl rfl) hS.conv ?_;simp only [putW]);refine wpAnyH_all (rs := [6]) (by kernel_rfl) (by simp) ?_;intro i hi;simp only [List.mem_cons,List.not_mem_nil,or_false] at hi;subst hi;refine wpOp_of_list rfl ?_;go_wp2_with (go_at_call 19;refine Calls.mono (devArm_any ha (hS.pull d (X := DevC D2))) ?_;clear hS;rintro _ w ⟨rfl,hS⟩;simp only [putW]);refine ⟨rfl,hS.conv,?_⟩;refine wpAnyH_done (by kernel_rfl) ?_ _;skip)
        obtain ⟨D3,hD3⟩ : ∃ D3,D2.arm a0 = D3 := ⟨_,rfl⟩
        rw [hD3] at hS
        have hD3st : D3.st = D2.st := by rw [← hD3];unfold Dev.arm;split <;> rfl
        have hD3wt : D3.wt = D2.wt := by rw [← hD3];unfold Dev.arm;split <;> rfl
        have hD3sz : SzN 101 D3 := by rw [← hD3];exact HBt.out.sz.arm ha
        have HD3 : Bx (D3.st = D2.st ∧ D3.wt = [] ∧ SzN 101 D3) := ⟨hD3st,by rw [hD3wt,HBt.out.wt],hD3sz⟩
        clear hD3 hD3st hD3wt hD3sz
        go_upto_region 22 with (refine load1 hS rfl rfl rfl rfl ?_;simp only [putW])
        have hfit : fits D3.st.length R2.pages R2.budget := by rw [HD3.out.1];exact fits40 hp1 hp3 (by rw [HBt.out.len,HCc.out];have := HHh.out;omega) HBt.out.rg
        have HFits : Bx _ := ⟨hfit⟩
        have hpg0 : R2.pages ≠ 0 := by rw [HBt.out.rg.pages];omega
        have HPg0 : Bx _ := ⟨hpg0⟩
        clear hfit hpg0
        (refine wp_region_held (S := fun w' => Sat w0 ((blk v22,sl 1 rowF (List.take P X0 ++ Y) 48 v22)::(1,LogV (.pointer (some ⟨l,0,none⟩)) Q)::(g0,slc 1 rowF X0 c0 48)::(71,inn X0 109)::(gT,slc 1 rowF Y cT 48)::(82,inn Y 5)::(p,cells (pairP d r l x (.pointer none) (.pointer none)) 41)::(m15,cells (stV S0).toArray 28)::(m8,cells #[.int .i64 a0,.slice qf nf cf] 56)::(m12,cells (plan20 P c H (.slice (some ⟨gl,0,none⟩) 1 1)).toArray 60)::(gl,sl 1 i64 [1] 3 (.slice (some ⟨gl,0,none⟩) 1 1))::[]) w') (by kernel_rfl) ?_;replace hS := hS.drew;(refine takeIf (i := 0) rfl (by kernel_rfl) (fun _ _ _ h => h) (yMove rfl rfl rfl) hS.conv ?_;simp only [evW,putW]);(apply takeIf (i := 1) rfl (by kernel_rfl) (fun _ _ _ h => h);(focus (apply yRun rfl;intro w;first | (go_simp;done) | (go_simp;rfl)));(focus (exact hS.conv));simp only [putW]);(apply takeIf (i := 2) rfl (by kernel_rfl) (fun _ _ _ h => h);(focus (apply yRun rfl;intro w;first | (go_simp;done) | (go_simp;rfl)));(focus (exact hS.conv));simp only [putW]);(refine takeIf (i := 3) rfl (by kernel_rfl) (fun _ _ _ h => h) (yLoad1 (fun _ h => h) rfl rfl rfl rfl) hS.conv ?_;simp only [putW]);(refine takeIf (i := 4) rfl (by kernel_rfl) (fun _ _ _ h => h) (yMove rfl rfl rfl) hS.conv ?_;simp only [evW,putW]);(apply takeIf (i := 5) rfl (by kernel_rfl) (fun _ _ _ h => h);(focus (apply yRun rfl;intro w;first | (go_simp;done) | (go_simp;rfl)));(focus (exact hS.conv));simp only [putW]);(apply takeIf (i := 6) rfl (by kernel_rfl) (fun _ _ _ h => h);(focus (apply yRun rfl;intro w;first | (go_simp;done) | (go_simp;rfl)));(focus (exact hS.conv));simp only [putW]);(refine takeIf (i := 7) rfl (by kernel_rfl) (fun _ _ _ h => h) (yLoad1 (fun _ h => h) rfl rfl rfl rfl) hS.conv ?_;simp only [putW]);(refine takeIf (i := 8) rfl (by kernel_rfl) (fun _ _ _ h => h) (yMove rfl rfl rfl) hS.conv ?_;simp only [evW,putW]);(apply takeIf (i := 9) rfl (by kernel_rfl) (fun _ _ _ h => h);(focus (apply yRun rfl;intro w;first | (go_simp;done) | (go_simp;rfl)));(focus (exact hS.conv));simp only [putW]);(apply takeIf (i := 10) rfl (by kernel_rfl) (fun _ _ _ h => h);(focus (apply yRun rfl;intro w;first | (go_simp;done) | (go_simp;rfl)));(focus (exact hS.conv));simp only [putW]);(refine takeIf (i := 11) rfl (by kernel_rfl) (fun _ _ _ h => h) (yLoad1 (fun _ h => h) rfl rfl rfl rfl) hS.conv ?_;simp only [putW]);refine wpAnyH_all (rs := [12]) (by kernel_rfl) (by simp) ?_;intro i hi;simp only [List.mem_cons,List.not_mem_nil,or_false] at hi;subst hi;refine wpOp_of_list rfl ?_;go_wp2_with (go_at_call 7;refine Calls.mono (newJob_any HBt.out.rg.wf HPg0.out HFits.out ((hS.pull d (X := DevC D3)).pull r (X := RegC d R2))) ?_;clear hS;rintro _ w ⟨j,lv2,rfl,hS⟩;simp only [putW]);refine ⟨rfl,hS.conv,?_⟩;(refine takeIf (i := 13) rfl (by kernel_rfl) (fun _ _ _ h => h) (yMove rfl rfl rfl) hS.conv ?_;simp only [evW,putW]);(apply takeIf (i := 14) rfl (by kernel_rfl) (fun _ _ _ h => h);(focus (apply yRun rfl;intro w;first | (go_simp;done) | (go_simp;rfl)));(focus (exact hS.conv));simp only [putW]);(apply takeIf (i := 15) rfl (by kernel_rfl) (fun _ _ _ h => h);(focus (apply yRun rfl;intro w;first | (go_simp;done) | (go_simp;rfl)));(focus (exact hS.conv));simp only [putW]);(apply takeIf (i := 16) rfl (by kernel_rfl) (fun _ _ _ h => h);(focus (apply yRun rfl;intro w;first | (go_simp;done) | (go_simp;rfl)));(focus (exact hS.conv));simp only [putW]);(apply takeIf (i := 17) rfl (by kernel_rfl) (fun _ _ _ h => h);(focus (apply yRun rfl;intro w;first | (go_simp;done) | (go_simp;rfl)));(focus (exact hS.conv));simp only [putW]);refine wpAnyH_done (by kernel_rfl) ?_ _;skip)
        have hpl := plOf_is (lv := lv2) hp1 hp3 HBt.out.rg
        obtain ⟨pl,hple⟩ : ∃ pl,plOf R2.pages.toNat R2.budget.toNat lv2 = pl := ⟨_,rfl⟩
        rw [hple] at hS hpl
        have HPl : Bx (pl.b = 20 ∧ pl.hd = H ∧ pl.jn = H + 1) := ⟨hpl.1,by rw [hpl.2.1,HCc.out];exact HHh.out,by rw [hpl.2.2,HCc.out];have := HHh.out;omega⟩
        clear hpl hple
        have hXBl : (List.take P X0 ++ Y).length = H := by rw [List.length_append,HTl.out.1,HYl.out];have := HHh.out;omega
        obtain ⟨XB,hXB⟩ : ∃ XB,List.take P X0 ++ Y = XB := ⟨_,rfl⟩
        rw [hXB] at hS hXBl
        have HXB : Bx (XB = X0.take P ++ Y) := ⟨hXB.symm⟩
        obtain ⟨qF,cF,hv22⟩ := shapeN (hS.pull (blk v22) (X := sl 1 rowF XB 48 v22)) hXBl
        subst hv22
        obtain ⟨gF,hqF,hcF,hS2⟩ := openS (hS.pull (blk (.slice qF H cF)) (X := sl 1 rowF XB 48 (.slice qF H cF))) hXBl (by omega)
        subst hqF
        have HXBl : Bx _ := ⟨hXBl⟩
        have hS3 := (hS2.innNil 83 5).conv (S' := (j,JobN d r (.pointer (some ⟨l,0,none⟩)) pl [])::(d,DevC D3)::(1,LogV (.pointer (some ⟨l,0,none⟩)) Q)::(gF,slc 1 rowF XB cF 48)::(83,inn [] 5)::(g0,slc 1 rowF X0 c0 48)::(71,inn X0 109)::(gT,slc 1 rowF Y cT 48)::(82,inn Y 5)::(p,cells (pairP d r l x (.pointer none) (.pointer none)) 41)::(m15,cells (stV S0).toArray 28)::(r,RegC d R2)::(m8,cells #[.int .i64 a0,.slice qf nf cf] 56)::(m12,cells (plan20 P c H (.slice (some ⟨gl,0,none⟩) 1 1)).toArray 60)::(gl,sl 1 i64 [1] 3 (.slice (some ⟨gl,0,none⟩) 1 1))::[])
        clear hS hS2 hXB hXBl
        have hS := hS3
        clear hS3
        obtain ⟨qi,ci,hvi,hil,hiat⟩ := BSl.at HI.out
        obtain ⟨ni,hni⟩ : ∃ ni,IX.length = ni := ⟨_,rfl⟩
        rw [hni] at hvi hil
        subst hvi
        obtain ⟨M,hM⟩ : ∃ M,min (min ni P) 12 = M := ⟨_,rfl⟩
        have hMb : M ≤ 12 ∧ M ≤ P ∧ M ≤ ni := by omega
        have hMn : ni ≤ M ∨ P ≤ M ∨ 12 ≤ M := by omega
        obtain ⟨Im,hIm⟩ : ∃ Im,(IX.take M).map (fun y => fullR y.2) = Im := ⟨_,rfl⟩
        obtain ⟨Tr,hTr⟩ : ∃ Tr,Y.map (·.2) = Tr := ⟨_,rfl⟩
        have hIml : Im.length = M := by rw [← hIm,List.length_map,List.length_take,hni];omega
        have hTrl : Tr.length = c + 1 := by rw [← hTr,List.length_map,HYl.out]
        have hImr : ∀ y ∈ Im,isRow y := fun y hy => by
          rw [← hIm] at hy
          obtain ⟨z,hz,rfl⟩ := List.mem_map.1 hy
          exact fullR_row (HI.out.all z (List.mem_of_mem_take hz)).all
        have hTrr : ∀ y ∈ Tr,isRow y := fun y hy => by
          rw [← hTr] at hy
          obtain ⟨z,hz,rfl⟩ := List.mem_map.1 hy
          exact HYr.out z hz
        have HIm : Bx _ := ⟨hIm⟩
        have HTr : Bx _ := ⟨hTr⟩
        have HIml : Bx _ := ⟨hIml⟩
        have HTrl : Bx _ := ⟨hTrl⟩
        have HImr : Bx _ := ⟨hImr⟩
        have HTrr : Bx _ := ⟨hTrr⟩
        have HIat : Bx _ := ⟨hiat⟩
        have HNi : Bx _ := ⟨hni⟩
        have HMn : Bx _ := ⟨hMn⟩
        obtain ⟨A,hA⟩ : ∃ A,putsA Im P Tr = A := ⟨_,rfl⟩
        have HA : Bx _ := ⟨hA⟩
        obtain ⟨hM12,hMP,hMni⟩ := hMb
        clear hIm hTr hIml hTrl hImr hTrr hiat hni hM hMn hA hil
        have hD3i : PutI H (H + 1) (fun k => D2.st.getD k []) D2.st A 0 D3 [] := ⟨⟨fun k _ => by rw [HD3.out.1],by rw [HD3.out.2.1];exact fun x hx => by cases hx⟩,HD3.out.1,fun _ => ⟨rfl,HD3.out.2.1⟩,Nat.le_refl _⟩
        have HD3i : Bx _ := ⟨hD3i⟩
        clear hD3i
        go_wp2_with (refine load1 hS rfl rfl rfl rfl ?_;simp only [putW])
        go_loopg [25] M (fun g i wr => ∃ (k : Nat) (XI : List (Value × List Int)) (Dk : Dev) (Lk : List (Nat × Row)) (Qk : List (List Int × List Int)),k + g = M ∧ i = .int .i64 k ∧ Bx (XI.length = k ∧ XI.map (·.2) = Im.take k) ∧ Bx (PutI H (H + 1) (fun k => D2.st.getD k []) D2.st A k Dk Lk ∧ SzN (101 + k) Dk ∧ Qk.length ≤ 110 + k) ∧ Sat w0 ((j,JobN d r (.pointer (some ⟨l,0,none⟩)) pl Lk)::(d,DevC Dk)::(1,LogV (.pointer (some ⟨l,0,none⟩)) Qk)::(gF,slc 1 rowF (XI ++ XB.drop k) cF 48)::(83,inn XI 5)::(g0,slc 1 rowF X0 c0 48)::(71,inn X0 109)::(gT,slc 1 rowF Y cT 48)::(82,inn Y 5)::(p,cells (pairP d r l x (.pointer none) (.pointer none)) 41)::(m15,cells (stV S0).toArray 28)::(r,RegC d R2)::(m8,cells #[.int .i64 a0,.slice qf nf cf] 56)::(m12,cells (plan20 P c H (.slice (some ⟨gl,0,none⟩) 1 1)).toArray 60)::(gl,sl 1 i64 [1] 3 (.slice (some ⟨gl,0,none⟩) 1 1))::[]) wr)
        case atStart => exact ⟨0,[],D3,[],Q,by omega,rfl,⟨rfl,rfl⟩,⟨HD3i.out,HD3.out.2.2,by omega⟩,hS⟩
        case round =>
          clear hS
          obtain ⟨k,XI,Dk,Lk,Qk,hkg,rfl,HXI,HPu,hS⟩ := hrel
          cases gk with
          | succ g =>
            have hkM : k < M := by omega
            have d5 : decide ((k : Int) < (ni : Int)) = true := decide_eq_true (by omega)
            have d6 : decide ((k : Int) < (P : Int)) = true := decide_eq_true (by omega)
            have d7 : decide ((k : Int) < 12) = true := decide_eq_true (by omega)
            have d5b : decide (k < ni) = true := decide_eq_true (by omega)
            have d6b : decide (k < P) = true := decide_eq_true (by omega)
            have d7b : decide (k < 12) = true := decide_eq_true (by omega)
            obtain ⟨⟨vk,ak⟩,hk⟩ : ∃ y,IX[k]? = some y := ⟨_,List.getElem?_eq_getElem (by rw [HNi.out];omega)⟩
            obtain ⟨fb,fo,rfl,hBk⟩ := HIat.out (by intro e;rw [e] at hk;simp at hk)
            have hrk : RB w0 ak vk := (hBk.2 k _ hk).1
            have HIk : Bx _ := ⟨hk⟩
            have HBk : Bx _ := ⟨hBk⟩
            have HRk : Bx _ := ⟨hrk⟩
            obtain ⟨rk,hrk2⟩ : ∃ rk,fullR ak = rk := ⟨_,rfl⟩
            have hrow : isRow rk := by rw [← hrk2];exact fullR_row hrk.all
            have hImk : Im[k]? = some rk := by rw [← HIm.out,List.getElem?_map,List.getElem?_take,if_pos hkM,hk,← hrk2];rfl
            have hAk : A[k]? = some (k,rk) := by rw [← HA.out];exact putsA_get_left hImk
            have HRow : Bx _ := ⟨hrow⟩
            have HAk : Bx _ := ⟨hAk⟩
            have HImk : Bx _ := ⟨hImk⟩
            have HRk2 : Bx _ := ⟨hrk2⟩
            have HFl : Bx ((XI ++ XB.drop k).length = H) := ⟨by rw [List.length_append,HXI.out.1,List.length_drop,HXBl.out];omega⟩
            have HFs : Bx (∀ y : Value × List Int,(XI ++ XB.drop k).set k y = (XI ++ [y]) ++ XB.drop (k + 1)) := ⟨fun y => by
              have hkl : k < XB.length := by rw [HXBl.out];omega
              rw [List.set_append_right _ _ (by rw [HXI.out.1];omega),HXI.out.1,Nat.sub_self,drop_set0 hkl,List.append_assoc]
              rfl⟩
            clear hk hBk hrk hrow hImk hAk hrk2
            go_wp2_with (first | (refine loadB (f := rowF) hS rfl rfl rfl HBk.out k 0 ?_ HIk.out rfl ?_;omega;simp only [putW]) | (guard_target =~ Calls _ 11 _ _ _;refine Stopped.out ?_))
            refine ⟨?_⟩
            refine Calls.mono (full_any (HRk.out.mono hS.base)) ?_
            rw [HRk2.out]
            rintro _ w2 ⟨gr,rfl,h2⟩
            replace hS := hS.frame h2
            clear h2
            simp only [List.cons_append,List.nil_append] at hS
            simp only [putW]
            have HFr : Bx (((XI ++ [((.slice (some ⟨gr,0,none⟩) 256 256,rk) : Value × List Int)]) ++ XB.drop (k + 1))[k]? = some (.slice (some ⟨gr,0,none⟩) 256 256,rk)) := ⟨by
              rw [List.append_assoc,List.getElem?_append_right (by rw [HXI.out.1];omega),HXI.out.1,Nat.sub_self];rfl⟩
            go_wp2_with (first | (refine storeS (f := rowF) hS rfl rfl rfl k ?_ ((.slice (some ⟨gr,0,none⟩) 256 256,rk) : Value × List Int) rfl ?_ ?_ ?_ ?_ ?_;omega;rfl;(focus (simp [Value.oneCell'];done));rfl;(focus (rw [HFl.out];omega));clear hS;intro w hS;rw [HFs.out] at hS;try simp only [putW]) | (refine loadS (f := rowF) hS rfl rfl rfl k 0 ?_ HFr.out rfl ?_ ?_;omega;omega;simp only [putW]) | (guard_target =~ Calls _ 10 _ _ _;refine Stopped.out ?_))
            refine ⟨?_⟩
            obtain ⟨XI2,hXI2⟩ : ∃ XI2,XI ++ [((.slice (some ⟨gr,0,none⟩) 256 256,rk) : Value × List Int)] = XI2 := ⟨_,rfl⟩
            have h1 := closeSlN (m := 256) (hS.pull gr (X := slc 1 by8 rk 256 5)) HRow.out.1
            have h2 := h1.innAdd (.slice (some ⟨gr,0,none⟩) 256 256) (j := 83) (X := XI) (t := 5) rfl
            rw [hXI2] at h2
            have hm2 : ((.slice (some ⟨gr,0,none⟩) 256 256,rk) : Value × List Int) ∈ XI2 := by rw [← hXI2];simp
            have HM2x : Bx _ := ⟨hm2⟩
            have HXI2 : Bx (XI2.length = k + 1 ∧ XI2.map (·.2) = Im.take (k + 1)) := ⟨by rw [← hXI2,List.length_append,HXI.out.1];rfl,by rw [← hXI2,List.map_append,HXI.out.2,List.take_add_one,HImk.out];rfl⟩
            have hS3 := h2.conv (S' := (1,LogV (.pointer (some ⟨l,0,none⟩)) Qk)::(j,JobN d r (.pointer (some ⟨l,0,none⟩)) pl Lk)::(d,DevC Dk)::(gF,slc 1 rowF (XI2 ++ XB.drop (k + 1)) cF 48)::(83,inn XI2 5)::(g0,slc 1 rowF X0 c0 48)::(71,inn X0 109)::(gT,slc 1 rowF Y cT 48)::(82,inn Y 5)::(p,cells (pairP d r l x (.pointer none) (.pointer none)) 41)::(m15,cells (stV S0).toArray 28)::(r,RegC d R2)::(m8,cells #[.int .i64 a0,.slice qf nf cf] 56)::(m12,cells (plan20 P c H (.slice (some ⟨gl,0,none⟩) 1 1)).toArray 60)::(gl,sl 1 i64 [1] 3 (.slice (some ⟨gl,0,none⟩) 1 1))::[])
            clear hS h1 h2 hXI2 hm2
            have hS := hS3
            clear hS3
            have hput := put_ok (k := k) (B := rk) (vb := .slice (some ⟨gr,0,none⟩) 256 256) (n0 := 101 + k) (by rw [HPl.out.2.1];omega) HRow.out (by rw [HPl.out.1];have := HPu.out.1.len;omega) (by rw [HPl.out.1,HPl.out.2.2];omega) (by rw [HPl.out.2.1];omega) (by have := HPu.out.2.2;omega) HPu.out.2.1.all (by omega) hK (K := (gF,slc 1 rowF (XI2 ++ XB.drop (k + 1)) cF 48)::(83,inn XI2 5)::(g0,slc 1 rowF X0 c0 48)::(71,inn X0 109)::(gT,slc 1 rowF Y cT 48)::(82,inn Y 5)::(p,cells (pairP d r l x (.pointer none) (.pointer none)) 41)::(m15,cells (stV S0).toArray 28)::(r,RegC d R2)::(m8,cells #[.int .i64 a0,.slice qf nf cf] 56)::(m12,cells (plan20 P c H (.slice (some ⟨gl,0,none⟩) 1 1)).toArray 60)::(gl,sl 1 i64 [1] 3 (.slice (some ⟨gl,0,none⟩) 1 1))::[]) (fun w' h => (h.pull 83 (X := inn XI2 5)).innReads HM2x.out HRow.out.2) hS
            have hnext := HPu.out.1.next HAk.out HRow.out.1 (by omega) (by have := HBt.out.len;omega)
            have hszn := HPu.out.2.1.write (((H + 1) + Lk.length : Nat) : Int) rk
            rw [HPl.out.2.2] at hput
            obtain ⟨W,hW⟩ : ∃ W,Dk.write (((H + 1) + Lk.length : Nat) : Int) rk = W := ⟨_,rfl⟩
            rw [hW] at hput hnext hszn
            refine Calls.mono hput ?_
            have HNext : Bx (PutI H (H + 1) (fun k => D2.st.getD k []) D2.st A (k + 1) W.1 (putL W.2 Lk k rk) ∧ SzN (101 + (k + 1)) W.1 ∧ (putPs W.2 Qk k rk).length ≤ 110 + (k + 1)) := ⟨hnext,hszn,by have := putPs_len (c := W.2) (Ps := Qk) (k := k) (B := rk);have := HPu.out.2.2;omega⟩
            clear hput hnext hszn hW hS
            rintro _ w ⟨rfl,hS⟩
            simp only [putW]
            go_wp2_with (refine load1 hS rfl rfl rfl rfl ?_;simp only [putW])
            go_roundg g
            case measure => omega
            case rel => exact ⟨k + 1,XI2,W.1,putL W.2 Lk k rk,putPs W.2 Qk k rk,by omega,by go_num,HXI2,HNext,hS.conv⟩
          | zero =>
            have hkM : M = k := by omega
            subst hkM
            go_upto_region 26 with (refine load1 hS rfl rfl rfl rfl ?_;simp only [putW])
            go_cut [162] from 150 to 161 (fun v wc => v = .bool false ∧ Sat w0 ((j,JobN d r (.pointer (some ⟨l,0,none⟩)) pl Lk)::(d,DevC Dk)::(1,LogV (.pointer (some ⟨l,0,none⟩)) Qk)::(gF,slc 1 rowF (XI ++ XB.drop M) cF 48)::(83,inn XI 5)::(g0,slc 1 rowF X0 c0 48)::(71,inn X0 109)::(gT,slc 1 rowF Y cT 48)::(82,inn Y 5)::(p,cells (pairP d r l x (.pointer none) (.pointer none)) 41)::(m15,cells (stV S0).toArray 28)::(r,RegC d R2)::(m8,cells #[.int .i64 a0,.slice qf nf cf] 56)::(m12,cells (plan20 P c H (.slice (some ⟨gl,0,none⟩) 1 1)).toArray 60)::(gl,sl 1 i64 [1] 3 (.slice (some ⟨gl,0,none⟩) 1 1))::[]) wc)
            case first =>
              by_cases h1 : ni ≤ M
              · have d5 : decide ((M : Int) < (ni : Int)) = false := decide_eq_false (by omega)
                have d5b : decide (M < ni) = false := decide_eq_false (by omega)
                go_wp2_with (refine load1 hS rfl rfl rfl rfl ?_;simp only [putW])
                go_meet
                case rel => exact ⟨rfl,hS⟩
              · have d5 : decide ((M : Int) < (ni : Int)) = true := decide_eq_true (by omega)
                have d5b : decide (M < ni) = true := decide_eq_true (by omega)
                by_cases h2 : P ≤ M
                · have d6 : decide ((M : Int) < (P : Int)) = false := decide_eq_false (by omega)
                  have d6b : decide (M < P) = false := decide_eq_false (by omega)
                  go_wp2_with (refine load1 hS rfl rfl rfl rfl ?_;simp only [putW])
                  go_meet
                  case rel => exact ⟨rfl,hS⟩
                · have d6 : decide ((M : Int) < (P : Int)) = true := decide_eq_true (by omega)
                  have d6b : decide (M < P) = true := decide_eq_true (by omega)
                  have d7 : decide ((M : Int) < 12) = false := decide_eq_false (by have := HMn.out;omega)
                  have d7b : decide (M < 12) = false := decide_eq_false (by have := HMn.out;omega)
                  go_wp2_with (refine load1 hS rfl rfl rfl rfl ?_;simp only [putW])
                  go_meet
                  case rel => exact ⟨rfl,hS⟩
            case rest =>
              clear hS
              obtain ⟨rfl,hS⟩ := hcut
              obtain ⟨XF,hXF⟩ : ∃ XF,XI ++ XB.drop M = XF := ⟨_,rfl⟩
              have HXF : Bx (XF = XI ++ XB.drop M) := ⟨hXF.symm⟩
              rw [hXF] at hS
              clear hXF hkg
              go_wp2_with (refine load1 hS rfl rfl rfl rfl ?_;simp only [putW])
              go_loopg [26] (c + 1) (fun g i wr => ∃ (k : Nat) (Dk : Dev) (Lk : List (Nat × Row)) (Qk : List (List Int × List Int)),k + g = c + 1 ∧ i = .int .i64 k ∧ Bx (PutI H (H + 1) (fun k => D2.st.getD k []) D2.st A (M + k) Dk Lk ∧ SzN (101 + (M + k)) Dk ∧ Qk.length ≤ 110 + (M + k)) ∧ Sat w0 ((j,JobN d r (.pointer (some ⟨l,0,none⟩)) pl Lk)::(d,DevC Dk)::(1,LogV (.pointer (some ⟨l,0,none⟩)) Qk)::(gF,slc 1 rowF XF cF 48)::(83,inn XI 5)::(g0,slc 1 rowF X0 c0 48)::(71,inn X0 109)::(gT,slc 1 rowF Y cT 48)::(82,inn Y 5)::(p,cells (pairP d r l x (.pointer none) (.pointer none)) 41)::(m15,cells (stV S0).toArray 28)::(r,RegC d R2)::(m8,cells #[.int .i64 a0,.slice qf nf cf] 56)::(m12,cells (plan20 P c H (.slice (some ⟨gl,0,none⟩) 1 1)).toArray 60)::(gl,sl 1 i64 [1] 3 (.slice (some ⟨gl,0,none⟩) 1 1))::[]) wr)
              case atStart => exact ⟨0,Dk,Lk,Qk,by omega,rfl,HPu,hS⟩
              case round =>
                clear hS HPu
                obtain ⟨k,Dk,Lk,Qk,hkg,rfl,HPu,hS⟩ := hrel
                cases gk with
                | succ g =>
                  have hkc : k < c + 1 := by omega
                  obtain ⟨⟨vk,rk⟩,hk⟩ : ∃ y,Y[k]? = some y := ⟨_,List.getElem?_eq_getElem (by rw [HYl.out];exact hkc)⟩
                  have hrow : isRow rk := HYr.out _ (List.mem_of_getElem? hk)
                  have hTk : Tr[k]? = some rk := by rw [← HTr.out,List.getElem?_map,hk];rfl
                  have hAk : A[M + k]? = some (P + k,rk) := by
                    have h := putsA_get_right (I := Im) (n := P) hTk
                    rw [HIml.out,HA.out] at h
                    exact h
                  have HYk : Bx _ := ⟨hk⟩
                  have HRow : Bx _ := ⟨hrow⟩
                  have HAk : Bx _ := ⟨hAk⟩
                  have hPH2 : P + c + 1 = H := HHh.out
                  have hk6 : k ≤ 100 := by omega
                  clear hk hrow hTk hAk
                  have HNum : Bx (P + k < H ∧ P ≤ 40 ∧ M + k ≤ 16) := ⟨by omega,hp3,by omega⟩
                  clear hPH2
                  go_wp2_with (first | (refine loadS (f := rowF) hS rfl rfl rfl k 0 ?_ HYk.out rfl ?_ ?_;omega;omega;simp only [putW]) | (guard_target =~ Calls _ 10 _ _ _;refine Stopped.out ?_))
                  refine ⟨?_⟩
                  have hS3 := hS.conv (S' := (1,LogV (.pointer (some ⟨l,0,none⟩)) Qk)::(j,JobN d r (.pointer (some ⟨l,0,none⟩)) pl Lk)::(d,DevC Dk)::(gF,slc 1 rowF XF cF 48)::(83,inn XI 5)::(g0,slc 1 rowF X0 c0 48)::(71,inn X0 109)::(gT,slc 1 rowF Y cT 48)::(82,inn Y 5)::(p,cells (pairP d r l x (.pointer none) (.pointer none)) 41)::(m15,cells (stV S0).toArray 28)::(r,RegC d R2)::(m8,cells #[.int .i64 a0,.slice qf nf cf] 56)::(m12,cells (plan20 P c H (.slice (some ⟨gl,0,none⟩) 1 1)).toArray 60)::(gl,sl 1 i64 [1] 3 (.slice (some ⟨gl,0,none⟩) 1 1))::[])
                  clear hS
                  have hS := hS3
                  clear hS3
                  have hput := put_at (ki := (P : Int) + (k : Int)) (k := P + k) (B := rk) (vb := vk) (n0 := 101 + (M + k)) (by omega) (by rw [HPl.out.2.1];exact HNum.out.1) HRow.out (by rw [HPl.out.1];have := HPu.out.1.len;have := HNum.out.2.2;omega) (by rw [HPl.out.1,HPl.out.2.2];omega) (by rw [HPl.out.2.1];omega) (by have := HPu.out.2.2;have := HNum.out.2.2;omega) HPu.out.2.1.all (by have := HNum.out.2.2;omega) hK (K := (gF,slc 1 rowF XF cF 48)::(83,inn XI 5)::(g0,slc 1 rowF X0 c0 48)::(71,inn X0 109)::(gT,slc 1 rowF Y cT 48)::(82,inn Y 5)::(p,cells (pairP d r l x (.pointer none) (.pointer none)) 41)::(m15,cells (stV S0).toArray 28)::(r,RegC d R2)::(m8,cells #[.int .i64 a0,.slice qf nf cf] 56)::(m12,cells (plan20 P c H (.slice (some ⟨gl,0,none⟩) 1 1)).toArray 60)::(gl,sl 1 i64 [1] 3 (.slice (some ⟨gl,0,none⟩) 1 1))::[]) (fun w' h => (h.pull 82 (X := inn Y 5)).innReads (List.mem_of_getElem? HYk.out) HRow.out.2) hS
                  have hnext := HPu.out.1.next HAk.out HRow.out.1 (by omega) (by have := HBt.out.len;have := HNum.out.2.2;omega)
                  have hszn := HPu.out.2.1.write (((H + 1) + Lk.length : Nat) : Int) rk
                  rw [HPl.out.2.2] at hput
                  obtain ⟨W,hW⟩ : ∃ W,Dk.write (((H + 1) + Lk.length : Nat) : Int) rk = W := ⟨_,rfl⟩
                  rw [hW] at hput hnext hszn
                  refine Calls.mono hput ?_
                  have HNext : Bx (PutI H (H + 1) (fun k => D2.st.getD k []) D2.st A (M + (k + 1)) W.1 (putL W.2 Lk (P + k) rk) ∧ SzN (101 + (M + (k + 1))) W.1 ∧ (putPs W.2 Qk (P + k) rk).length ≤ 110 + (M + (k + 1))) := ⟨hnext,hszn,by have := putPs_len (c := W.2) (Ps := Qk) (k := P + k) (B := rk);have := HPu.out.2.2;omega⟩
                  clear hput hnext hszn hW hS
                  rintro _ w ⟨rfl,hS⟩
                  simp only [putW]
                  go_wp2_with (refine load1 hS rfl rfl rfl rfl ?_;simp only [putW])
                  go_roundg g
                  case measure => omega
                  case rel => exact ⟨k + 1,W.1,putL W.2 Lk (P + k) rk,putPs W.2 Qk (P + k) rk,by omega,by go_num,HNext,hS.conv⟩
                | zero =>
                  have hkc : k = c + 1 := by omega
                  have hAe : A.length = M + k := by have h9 := putsA_len Im Tr P;rw [HA.out,HIml.out,HTrl.out] at h9;omega
                  have hAl : A.length ≤ 20 := by omega
                  have hDl : Dk.st.length = H + 41 := by rw [HPu.out.1.st];exact HBt.out.len
                  obtain ⟨h0,hh0⟩ := headR_one S0.version A
                  obtain ⟨mk,hmk⟩ : ∃ mk,mkF [h0] (A.map (·.2)) = mk := ⟨_,rfl⟩
                  obtain ⟨sB,hsB⟩ : ∃ sB,busyR S0 mk = sB := ⟨_,rfl⟩
                  obtain ⟨steps,hst⟩ : ∃ st,stepsJ dig (H + 1) (headWs H [h0]) A sB = st := ⟨_,rfl⟩
                  have hst2 : stepsJ dig (H + 1) (headWs H (headR S0.version A 20)) A (busyR S0 (mkF (headR S0.version A 20) (A.map (·.2)))) = steps := by rw [hh0,hmk,hsB,hst]
                  have hso := stepsJ_one (H + 1) H h0 A sB
                  rw [hst] at hso
                  have hok := putsA_ok (I := Im) (Tr := Tr) (P := P) (c := c) (H := H) HImr.out HTrr.out (by rw [HIml.out];exact hMP) (by rw [HTrl.out];have := HHh.out;omega)
                  rw [HA.out] at hok
                  have hr0 := headR_row hh0 hAl (by omega) hok.1
                  have hP9 := HPu.out.1
                  rw [← hAe] at hP9
                  have hTie := whTie (P := P) hp1 hp3 (by rw [HCc.out];have := HHh.out;omega) hH6 HBt.out HS0.out HWs.out hh0 hmk hsB hst hAl hok.1 hok.2 hr0 hP9
                  have hswf : ∀ s,SK.rg s ∈ steps → s.Wf := by rw [← hst];exact stepsJ_wf (by rw [← hsB];exact busyR_wf HWs.out (by rw [← hmk];exact mkF_dig _ _))
                  have HTie : Bx _ := ⟨hTie⟩
                  have HSwf : Bx _ := ⟨hswf⟩
                  have HMd : Bx (isDig mk) := ⟨by rw [← hmk];exact mkF_dig _ _⟩
                  clear hok hr0 hP9 hTie hswf
                  have HAl : Bx (A.length ≤ 20 ∧ steps.length ≤ 25 ∧ M + k ≤ 20) := ⟨hAl,by omega,by omega⟩
                  have HDl : Bx _ := ⟨hDl⟩
                  have Hh0 : Bx _ := ⟨hh0⟩
                  have Hmk : Bx _ := ⟨hmk⟩
                  have HsB : Bx _ := ⟨hsB⟩
                  have Hst : Bx _ := ⟨hst⟩
                  have Hst2 : Bx _ := ⟨hst2⟩
                  have HSo : Bx _ := ⟨hso.2⟩
                  clear hAe hAl hDl hh0 hmk hsB hst hst2 hso
                  go_wp2_with (refine load1 hS rfl rfl rfl rfl ?_;simp only [putW])
                  clear hkc hkg
                  go_loopg [27,28] 60 (fun g v i wr => ∃ (k2 : Nat) (b2 : Bool) (D3 : Dev) (R3 : Rg) (Q3 : List (List Int × List Int)) (l3 : List SK) (c3 : Int) (dn : Bool),k2 + g = 60 ∧ i = .int .i64 k2 ∧ v = .bool dn ∧ Bx (LpI Dk R2 steps (110 + (M + k)) (101 + (M + k)) b2 k2 D3 R3 Q3 l3 c3 dn) ∧ Sat w0 ((j,JobW (H + 41) d r (.pointer (some ⟨l,0,none⟩)) pl Lk b2 l3 c3)::(d,DevC D3)::(1,LogV (.pointer (some ⟨l,0,none⟩)) Q3)::(gF,slc 1 rowF XF cF 48)::(83,inn XI 5)::(g0,slc 1 rowF X0 c0 48)::(71,inn X0 109)::(gT,slc 1 rowF Y cT 48)::(82,inn Y 5)::(p,cells (pairP d r l x (.pointer none) (.pointer none)) 41)::(m15,cells (stV S0).toArray 28)::(r,RegC d R3)::(m8,cells #[.int .i64 a0,.slice qf nf cf] 56)::(m12,cells (plan20 P c H (.slice (some ⟨gl,0,none⟩) 1 1)).toArray 60)::(gl,sl 1 i64 [1] 3 (.slice (some ⟨gl,0,none⟩) 1 1))::[]) wr)
                  case atStart =>
                    have hS9 := hS.conv (S' := (j,JobN d r (.pointer (some ⟨l,0,none⟩)) pl Lk)::(d,DevC Dk)::(1,LogV (.pointer (some ⟨l,0,none⟩)) Qk)::(gF,slc 1 rowF XF cF 48)::(83,inn XI 5)::(g0,slc 1 rowF X0 c0 48)::(71,inn X0 109)::(gT,slc 1 rowF Y cT 48)::(82,inn Y 5)::(p,cells (pairP d r l x (.pointer none) (.pointer none)) 41)::(m15,cells (stV S0).toArray 28)::(r,RegC d R2)::(m8,cells #[.int .i64 a0,.slice qf nf cf] 56)::(m12,cells (plan20 P c H (.slice (some ⟨gl,0,none⟩) 1 1)).toArray 60)::(gl,sl 1 i64 [1] 3 (.slice (some ⟨gl,0,none⟩) 1 1))::[])
                    exact ⟨0,true,Dk,R2,Qk,[],0,false,by omega,rfl,rfl,⟨⟨fun _ => ⟨rfl,rfl,rfl,rfl⟩,fun h9 => (by cases h9),HPu.out.2.1,HPu.out.2.2⟩⟩,hS9⟩
                  case round =>
                    clear hS
                    obtain ⟨k2,b2,D3,R3,Q3,l3,c3,dn,hk2,rfl,rfl,HL,hS⟩ := hrel
                    cases gk with
                    | zero => exact absurd HL.out.le (by have := HAl.out;omega)
                    | succ g =>
                      have hk60 : k2 < 60 := by omega
                      have e1 : decide ((k2 : Int) < 60) = true := decide_eq_true (by omega)
                      have e1b : decide (k2 < 60) = true := decide_eq_true hk60
                      go_upto_region 36 with (refine load1 hS rfl rfl rfl rfl ?_;simp only [putW])
                      go_cut [207] from 195 to 206 (fun v wc => v = .bool (!dn && !D3.off) ∧ Sat w0 ((j,JobW (H + 41) d r (.pointer (some ⟨l,0,none⟩)) pl Lk b2 l3 c3)::(d,DevC D3)::(1,LogV (.pointer (some ⟨l,0,none⟩)) Q3)::(gF,slc 1 rowF XF cF 48)::(83,inn XI 5)::(g0,slc 1 rowF X0 c0 48)::(71,inn X0 109)::(gT,slc 1 rowF Y cT 48)::(82,inn Y 5)::(p,cells (pairP d r l x (.pointer none) (.pointer none)) 41)::(m15,cells (stV S0).toArray 28)::(r,RegC d R3)::(m8,cells #[.int .i64 a0,.slice qf nf cf] 56)::(m12,cells (plan20 P c H (.slice (some ⟨gl,0,none⟩) 1 1)).toArray 60)::(gl,sl 1 i64 [1] 3 (.slice (some ⟨gl,0,none⟩) 1 1))::[]) wc)
                      case first =>
                        cases dn with
                        | true =>
                          go_wp2_with (refine load1 hS rfl rfl rfl rfl ?_;simp only [putW])
                          go_meet
                          case rel => exact ⟨rfl,hS.conv⟩
                        | false =>
                          go_wp2_with (first | (guard_target =~ Calls _ 20 _ _ _;refine Stopped.out ?_) | (refine load1 hS rfl rfl rfl rfl ?_;simp only [putW]))
                          refine ⟨?_⟩
                          refine Calls.mono (devUp_any (hS.pull d (X := DevC D3))) ?_
                          clear hS
                          rintro _ w ⟨rfl,hS⟩
                          simp only [putW]
                          go_wp2_with (refine load1 hS rfl rfl rfl rfl ?_;simp only [putW])
                          go_meet
                          case rel => exact ⟨by cases D3.off <;> rfl,hS.conv⟩
                      case rest =>
                        clear hS
                        obtain ⟨rfl,hS⟩ := hcut
                        cases hgo : (!dn && !D3.off) with
                        | true =>
                          have hgo2 := hgo
                          rw [Bool.and_eq_true] at hgo2
                          obtain ⟨a1,a2⟩ := hgo2
                          have hdn : dn = false := by simpa using a1
                          have ho3 : D3.off = false := by simpa using a2
                          clear a1 a2 hgo
                          go_wp2_with (first | (refine loadAll (b := m15) (c := (stV S0).toArray) hS rfl rfl rfl HSl.out ?_;simp only [putW]) | (guard_target =~ Calls _ 8 _ _ _;refine Stopped.out ?_))
                          refine ⟨?_⟩
                          have hgo9 := goW HPl.out.1 HPl.out.2.1 HPl.out.2.2 (by omega) HDl.out HWs.out Hst2.out HSo.out HSwf.out HBt.out.rg.wf (fun ho => (HTie.out.2.2 ho).1) HTie.out.1 (by omega) (by have := HAl.out;omega) (by have := HAl.out;omega) HL.out hdn ho3 hK (hS.conv (S' := (1,LogV (.pointer (some ⟨l,0,none⟩)) Q3)::(j,JobW (H + 41) d r (.pointer (some ⟨l,0,none⟩)) pl Lk b2 l3 c3)::(r,RegC d R3)::(d,DevC D3)::(gF,slc 1 rowF XF cF 48)::(83,inn XI 5)::(g0,slc 1 rowF X0 c0 48)::(71,inn X0 109)::(gT,slc 1 rowF Y cT 48)::(82,inn Y 5)::(p,cells (pairP d r l x (.pointer none) (.pointer none)) 41)::(m15,cells (stV S0).toArray 28)::(m8,cells #[.int .i64 a0,.slice qf nf cf] 56)::(m12,cells (plan20 P c H (.slice (some ⟨gl,0,none⟩) 1 1)).toArray 60)::(gl,sl 1 i64 [1] 3 (.slice (some ⟨gl,0,none⟩) 1 1))::[]))
                          refine Calls.mono hgo9 ?_
                          clear hS hgo9
                          rintro _ w ⟨D4,R4,Q4,l4,c4,dn4,rfl,HL4,hS⟩
                          simp only [putW]
                          go_wp2_with (refine load1 hS rfl rfl rfl rfl ?_;simp only [putW])
                          go_roundg g
                          case measure => omega
                          case rel => exact ⟨k2 + 1,false,D4,R4,Q4,l4,c4,dn4,by omega,by go_num,rfl,HL4,hS.conv⟩
                        | false =>
                          have hend : dn = true ∨ D3.off = true := by
                            cases dn with
                            | true => exact .inl rfl
                            | false =>
                              cases h9 : D3.off with
                              | true => exact .inr rfl
                              | false => rw [h9] at hgo;cases hgo
                          have hWh : Wh H (H + 1) (H + 41) (fun k => D2.st.getD k []) A R2 sB dn 0 D3 R3 := by
                            cases b2 with
                            | true =>
                              obtain ⟨-,e1,e2,e3⟩ := HL.out.new rfl
                              rw [e1,e2,e3]
                              exact HTie.out.2.1
                            | false =>
                              obtain ⟨o1,o2⟩ := HL.out.old rfl
                              exact o2.stop hend (HTie.out.2.2 o1).2
                          have hSz : SzN 200 D3 := HL.out.sz.le (by have := HL.out.le;have := HAl.out;omega)
                          have hQ3 : Q3.length ≤ 400 := by have := HL.out.log;have := HL.out.le;have := HAl.out;omega
                          have HWh : Bx _ := ⟨hWh⟩
                          have HSz : Bx _ := ⟨hSz⟩
                          have HQ3 : Bx _ := ⟨hQ3⟩
                          have HEnd : Bx _ := ⟨hend⟩
                          clear hgo hWh hSz hQ3 hend HL
                          have hS9 := hS.conv (S' := (71,inn X0 109)::(d,DevC D3)::(1,LogV (.pointer (some ⟨l,0,none⟩)) Q3)::(r,RegC d R3)::(gF,slc 1 rowF XF cF 48)::(83,inn XI 5)::(g0,slc 1 rowF X0 c0 48)::(gT,slc 1 rowF Y cT 48)::(82,inn Y 5)::(p,cells (pairP d r l x (.pointer none) (.pointer none)) 41)::(m15,cells (stV S0).toArray 28)::(m8,cells #[.int .i64 a0,.slice qf nf cf] 56)::(m12,cells (plan20 P c H (.slice (some ⟨gl,0,none⟩) 1 1)).toArray 60)::(gl,sl 1 i64 [1] 3 (.slice (some ⟨gl,0,none⟩) 1 1))::[])
                          clear hS
                          have hS := hS9.turn (b' := 72) (Y := inn X0 109) fun _ h => h
                          clear hS9
                          go_upto_region 39 with (refine load1 hS rfl rfl rfl rfl ?_;simp only [putW])
                          go_cut [224] from 216 to 223 (fun v wc => v = .bool false ∧ Sat w0 ((d,DevC D3)::(1,LogV (.pointer (some ⟨l,0,none⟩)) Q3)::(r,RegC d R3)::(gF,slc 1 rowF XF cF 48)::(83,inn XI 5)::(g0,slc 1 rowF X0 c0 48)::(72,inn X0 109)::(gT,slc 1 rowF Y cT 48)::(82,inn Y 5)::(p,cells (pairP d r l x (.pointer none) (.pointer none)) 41)::(m15,cells (stV S0).toArray 28)::(m8,cells #[.int .i64 a0,.slice qf nf cf] 56)::(m12,cells (plan20 P c H (.slice (some ⟨gl,0,none⟩) 1 1)).toArray 60)::(gl,sl 1 i64 [1] 3 (.slice (some ⟨gl,0,none⟩) 1 1))::[]) wc)
                          case first =>
                            cases dn with
                            | true =>
                              go_wp2_with (refine load1 hS rfl rfl rfl rfl ?_;simp only [putW])
                              go_meet
                              case rel => exact ⟨rfl,hS.conv⟩
                            | false =>
                              have ho3 : D3.off = true := HEnd.out.resolve_left (by simp)
                              go_wp2_with (first | (guard_target =~ Calls _ 20 _ _ _;refine Stopped.out ?_) | (refine load1 hS rfl rfl rfl rfl ?_;simp only [putW]))
                              refine ⟨?_⟩
                              refine Calls.mono (devUp_any (hS.pull d (X := DevC D3))) ?_
                              rw [ho3]
                              clear hS
                              rintro _ w ⟨rfl,hS⟩
                              simp only [putW]
                              go_wp2_with (refine load1 hS rfl rfl rfl rfl ?_;simp only [putW])
                              go_meet
                              case rel => exact ⟨rfl,hS.conv⟩
                          case rest =>
                            clear hS
                            obtain ⟨rfl,hS⟩ := hcut
                            go_wp2_with (first | (guard_target =~ Calls _ 21 _ _ _;refine Stopped.out ?_) | (refine load1 hS rfl rfl rfl rfl ?_;simp only [putW]))
                            refine ⟨?_⟩
                            refine Calls.mono (devCrash_any (hS.pull d (X := DevC D3))) ?_
                            clear hS
                            rintro _ w ⟨rfl,hS⟩
                            simp only [putW]
                            go_upto_region 42 with (refine load1 hS rfl rfl rfl rfl ?_;simp only [putW])
                            (refine wp_region_held (S := fun w' => Sat w0 ((1,LogV (.pointer (some ⟨l,0,none⟩)) Q3)::(r,RegC d R3)::(gF,slc 1 rowF XF cF 48)::(83,inn XI 5)::(g0,slc 1 rowF X0 c0 48)::(72,inn X0 109)::(gT,slc 1 rowF Y cT 48)::(82,inn Y 5)::(p,cells (pairP d r l x (.pointer none) (.pointer none)) 41)::(m15,cells (stV S0).toArray 28)::(m8,cells #[.int .i64 a0,.slice qf nf cf] 56)::(m12,cells (plan20 P c H (.slice (some ⟨gl,0,none⟩) 1 1)).toArray 60)::(gl,sl 1 i64 [1] 3 (.slice (some ⟨gl,0,none⟩) 1 1))::[]) w') (by kernel_rfl) ?_;replace hS := hS.drew;(refine takeIf (i := 0) rfl (by kernel_rfl) (fun _ _ _ h => h) (yMove rfl rfl rfl) hS.conv ?_;simp only [evW,putW]);(apply takeIf (i := 1) rfl (by kernel_rfl) (fun _ _ _ h => h);(focus (apply yRun rfl;intro w;first | (go_simp;done) | (go_simp;rfl)));(focus (exact hS.conv));simp only [putW]);(apply takeIf (i := 2) rfl (by kernel_rfl) (fun _ _ _ h => h);(focus (apply yRun rfl;intro w;first | (go_simp;done) | (go_simp;rfl)));(focus (exact hS.conv));simp only [putW]);(refine takeIf (i := 3) rfl (by kernel_rfl) (fun _ _ _ h => h) (yLoad1 (fun _ h => h) rfl rfl rfl rfl) hS.conv ?_;simp only [putW]);(apply takeIf (i := 4) rfl (by kernel_rfl) (fun _ _ _ h => h);(focus (apply yRun rfl;intro w;first | (go_simp;done) | (go_simp;rfl)));(focus (exact hS.conv));simp only [putW]);(refine takeIf (i := 5) rfl (by kernel_rfl) (fun _ _ _ h => h) (yLoad1 (fun _ h => h) rfl rfl rfl rfl) hS.conv ?_;simp only [putW]);refine wpAnyH_all (rs := [6]) (by kernel_rfl) (by simp) ?_;intro i hi;simp only [List.mem_cons,List.not_mem_nil,or_false] at hi;subst hi;refine wpOp_of_list rfl ?_;go_wp2_with (go_at_call 22;refine Calls.mono (devOn_any (Fa := F0) (by have := HSz.out.all.1;show D3.wt.length ≤ _;omega) (by have := HNf.out;have := HNf9.out;omega) (fun w' h => HF0.out.mono h.base) (hS.pull d (X := DevC D3.crash))) ?_;clear hS;rintro _ w ⟨rfl,hS⟩;simp only [putW]);refine ⟨rfl,hS.conv,?_⟩;refine wpAnyH_done (by kernel_rfl) ?_ _;skip)
                            obtain ⟨D4,hD4⟩ : ∃ D4,D3.crash.on F0 = D4 := ⟨_,rfl⟩
                            rw [hD4] at hS
                            have HW4 : Bx (Wh H (H + 1) (H + 41) (fun k => D2.st.getD k []) A R2 sB dn 0 D4 R3 ∧ SzN 200 D4 ∧ D4.On) := ⟨by rw [← hD4];exact ⟨HWh.out.off F0,HSz.out.crash.on F0,crashOn_on D3 F0⟩⟩
                            clear hD4 HWh HSz
                            obtain ⟨qc,cc,hvc,hcl,hcat⟩ := BSl.at HCs.out
                            obtain ⟨nc,hnc⟩ : ∃ nc,CS.length = nc := ⟨_,rfl⟩
                            rw [hnc] at hvc hcl
                            subst hvc
                            have HCat : Bx _ := ⟨hcat⟩
                            have HNc : Bx _ := ⟨hnc⟩
                            obtain ⟨N5,hN5⟩ : ∃ N5,min nc 20 = N5 := ⟨_,rfl⟩
                            have hN5a : N5 ≤ 20 := by omega
                            have hN5b : N5 ≤ nc := by omega
                            have HN5 : Bx (nc ≤ N5 ∨ 20 ≤ N5) := ⟨by omega⟩
                            clear hcat hnc hN5 hcl
                            go_wp2_with (refine load1 hS rfl rfl rfl rfl ?_;simp only [putW])
                            go_loopg [29] N5 (fun g i wr => ∃ (k5 : Nat) (D5 : Dev) (R5 : Rg) (Q5 : List (List Int × List Int)),k5 + g = N5 ∧ i = .int .i64 k5 ∧ Bx (Wh H (H + 1) (H + 41) (fun k => D2.st.getD k []) A R2 sB dn k5 D5 R5 ∧ SzN (200 + 310 * k5) D5 ∧ Q5.length ≤ 400 + 2 * k5 ∧ D5.On) ∧ Sat w0 ((d,DevC D5)::(1,LogV (.pointer (some ⟨l,0,none⟩)) Q5)::(r,RegC d R5)::(gF,slc 1 rowF XF cF 48)::(83,inn XI 5)::(g0,slc 1 rowF X0 c0 48)::(72,inn X0 109)::(gT,slc 1 rowF Y cT 48)::(82,inn Y 5)::(p,cells (pairP d r l x (.pointer none) (.pointer none)) 41)::(m15,cells (stV S0).toArray 28)::(m8,cells #[.int .i64 a0,.slice qf nf cf] 56)::(m12,cells (plan20 P c H (.slice (some ⟨gl,0,none⟩) 1 1)).toArray 60)::(gl,sl 1 i64 [1] 3 (.slice (some ⟨gl,0,none⟩) 1 1))::[]) wr)
                            case atStart => exact ⟨0,D4,R3,Q3,by omega,rfl,⟨HW4.out.1,HW4.out.2.1,HQ3.out,HW4.out.2.2⟩,hS.conv⟩
                            case round =>
                              clear hS HW4 HQ3
                              obtain ⟨k5,D5,R5,Q5,hk5,rfl,HW,hS⟩ := hrel
                              cases gk with
                              | succ g =>
                                have hkN : k5 < N5 := by omega
                                have d8 : decide ((k5 : Int) < (nc : Int)) = true := decide_eq_true (by omega)
                                have d8b : decide (k5 < nc) = true := decide_eq_true (by omega)
                                have hk5n : k5 < nc := by omega
                                have d9 : decide ((k5 : Int) < 20) = true := decide_eq_true (by omega)
                                have d9b : decide (k5 < 20) = true := decide_eq_true (by omega)
                                obtain ⟨⟨ak,vk,Fk⟩,hk⟩ : ∃ y,CS[k5]? = some y := ⟨_,List.getElem?_eq_getElem (by rw [HNc.out];omega)⟩
                                obtain ⟨fb,fo,rfl,hBk⟩ := HCat.out (by intro e;rw [e] at hk;simp at hk)
                                have hFk : RI w0 Fk vk := (hBk.2 k5 _ hk).1
                                have hak : ak ≤ 9223372036854775807 := HCb.out _ (List.mem_of_getElem? hk)
                                obtain ⟨qk,ck,hvk,-,-⟩ := BSl.at hFk
                                obtain ⟨nk,hnk⟩ : ∃ nk,Fk.length = nk := ⟨_,rfl⟩
                                rw [hnk] at hvk
                                subst hvk
                                have HCk : Bx _ := ⟨hk⟩
                                have HBc : Bx _ := ⟨hBk⟩
                                have HFk : Bx _ := ⟨hFk⟩
                                have HNk : Bx _ := ⟨hnk⟩
                                clear hk hBk hFk hnk
                                by_cases hn9 : nk ≤ 1000
                                rotate_left
                                · have d10 : decide ((1000 : Int) < (nk : Int)) = true := decide_eq_true (by omega)
                                  have d10b : decide (1000 < nk) = true := decide_eq_true (by omega)
                                  clear hn9
                                  go_wp2_with (first | (refine loadB (f := cutF) hS rfl rfl rfl HBc.out k5 1 ?_ HCk.out rfl ?_;omega;simp only [putW]) | (go_at_call 13;refine Calls.mono (awake22 (hK.mono hS.base)) ?_;rintro _ w2 ⟨rfl,h2⟩;replace hS := hS.frame h2;clear h2;(try simp only [List.cons_append,List.nil_append] at hS);simp only [putW]))
                                  go_ret
                                  exact ⟨rfl,hS.nothing⟩
                                have d10 : decide ((1000 : Int) < (nk : Int)) = false := decide_eq_false (by omega)
                                have d10b : decide (1000 < nk) = false := decide_eq_false (by omega)
                                have HNk9 : Bx _ := ⟨hn9⟩
                                clear hn9
                                go_upto_region 48 with (refine loadB (f := cutF) hS rfl rfl rfl HBc.out k5 1 ?_ HCk.out rfl ?_;omega;simp only [putW])
                                have hx6 := Int.emod_nonneg ak (show (30 : Int) ≠ 0 by omega)
                                have hx7 := Int.emod_lt_of_pos ak (show (0 : Int) < 30 by omega)
                                (refine wp_region_held (S := fun w' => Sat w0 ((1,LogV (.pointer (some ⟨l,0,none⟩)) Q5)::(r,RegC d R5)::(gF,slc 1 rowF XF cF 48)::(83,inn XI 5)::(g0,slc 1 rowF X0 c0 48)::(72,inn X0 109)::(gT,slc 1 rowF Y cT 48)::(82,inn Y 5)::(p,cells (pairP d r l x (.pointer none) (.pointer none)) 41)::(m15,cells (stV S0).toArray 28)::(m8,cells #[.int .i64 a0,.slice qf nf cf] 56)::(m12,cells (plan20 P c H (.slice (some ⟨gl,0,none⟩) 1 1)).toArray 60)::(gl,sl 1 i64 [1] 3 (.slice (some ⟨gl,0,none⟩) 1 1))::[]) w') (by kernel_rfl) ?_;replace hS := hS.drew;(refine takeIf (i := 0) rfl (by kernel_rfl) (fun _ _ _ h => h) (yMove rfl rfl rfl) hS.conv ?_;simp only [evW,putW]);(apply takeIf (i := 1) rfl (by kernel_rfl) (fun _ _ _ h => h);(focus (apply yRun rfl;intro w;first | (go_simp;done) | (go_simp;rfl)));(focus (exact hS.conv));simp only [putW]);(apply takeIf (i := 2) rfl (by kernel_rfl) (fun _ _ _ h => h);(focus (apply yRun rfl;intro w;first | (go_simp;done) | (go_simp;rfl)));(focus (exact hS.conv));simp only [putW]);(refine takeIf (i := 3) rfl (by kernel_rfl) (fun _ _ _ h => h) (yLoad1 (fun _ h => h) rfl rfl rfl rfl) hS.conv ?_;simp only [putW]);(refine takeIf (i := 4) rfl (by kernel_rfl) (fun _ _ _ h => h) (yMove rfl rfl rfl) hS.conv ?_;simp only [evW,putW]);(refine takeIf (i := 5) rfl (by kernel_rfl) (fun _ _ _ h => h) (yMove rfl rfl rfl) hS.conv ?_;simp only [evW,putW]);(apply takeIf (i := 6) rfl (by kernel_rfl) (fun _ _ _ h => h);(focus (apply yRun rfl;intro w;first | (go_simp;done) | (go_simp;rfl)));(focus (exact hS.conv));simp only [putW]);(apply takeIf (i := 7) rfl (by kernel_rfl) (fun _ _ _ h => h);(focus (apply yRun rfl;intro w;first | (go_simp;done) | (go_simp;rfl)));(focus (exact hS.conv));simp only [putW]);(refine takeIf (i := 8) rfl (by kernel_rfl) (fun _ _ _ h => h) (yLoadB (f := cutF) (L := CS) (m := 2) (fun w h => HBc.out.mono h.base fun _ _ h => h) rfl rfl rfl k5 0 (by omega) HCk.out rfl) hS.conv ?_;simp only [putW]);refine wpAnyH_all (rs := [9]) (by kernel_rfl) (by simp) ?_;intro i hi;simp only [List.mem_cons,List.not_mem_nil,or_false] at hi;subst hi;refine wpOp_of_list rfl ?_;go_wp2_with (go_at_call 14;refine Calls.mono (pick_sat ak 30 (by omega) (by omega) hS) ?_;clear hS;rintro _ w ⟨rfl,hS⟩;simp only [putW]);refine ⟨rfl,hS.conv,?_⟩;(apply takeIf (i := 10) rfl (by kernel_rfl) (fun _ _ _ h => h);(focus (apply yRun rfl;intro w;first | (go_simp;done) | (go_simp;rfl)));(focus (exact hS.conv));simp only [putW]);refine wpAnyH_all (rs := [11]) (by kernel_rfl) (by simp) ?_;intro i hi;simp only [List.mem_cons,List.not_mem_nil,or_false] at hi;subst hi;refine wpOp_of_list rfl ?_;go_wp2_with (go_at_call 19;refine Calls.mono (devArm_any (by omega) (hS.pull d (X := DevC D5))) ?_;clear hS;rintro _ w ⟨rfl,hS⟩;simp only [putW]);refine ⟨rfl,hS.conv,?_⟩;refine wpAnyH_done (by kernel_rfl) ?_ _;skip)
                                obtain ⟨D6,hD6⟩ : ∃ D6,D5.arm (1 + ak % 30) = D6 := ⟨_,rfl⟩
                                rw [hD6] at hS
                                have HW6 : Bx (Wh H (H + 1) (H + 41) (fun k => D2.st.getD k []) A R2 sB dn k5 D6 R5 ∧ SzN (200 + 310 * k5) D6) := ⟨by rw [← hD6];exact ⟨HW.out.1.arm _,HW.out.2.1.arm (by omega)⟩⟩
                                clear hD6 hx6 hx7
                                go_upto_region 49 with (refine load1 hS rfl rfl rfl rfl ?_;simp only [putW])
                                (refine wp_region_held (S := fun w' => Sat w0 ((gF,slc 1 rowF XF cF 48)::(83,inn XI 5)::(g0,slc 1 rowF X0 c0 48)::(72,inn X0 109)::(gT,slc 1 rowF Y cT 48)::(82,inn Y 5)::(p,cells (pairP d r l x (.pointer none) (.pointer none)) 41)::(m15,cells (stV S0).toArray 28)::(m8,cells #[.int .i64 a0,.slice qf nf cf] 56)::(m12,cells (plan20 P c H (.slice (some ⟨gl,0,none⟩) 1 1)).toArray 60)::(gl,sl 1 i64 [1] 3 (.slice (some ⟨gl,0,none⟩) 1 1))::[]) w') (by kernel_rfl) ?_;replace hS := hS.drew;(refine takeIf (i := 0) rfl (by kernel_rfl) (fun _ _ _ h => h) (yMove rfl rfl rfl) hS.conv ?_;simp only [evW,putW]);(apply takeIf (i := 1) rfl (by kernel_rfl) (fun _ _ _ h => h);(focus (apply yRun rfl;intro w;first | (go_simp;done) | (go_simp;rfl)));(focus (exact hS.conv));simp only [putW]);(apply takeIf (i := 2) rfl (by kernel_rfl) (fun _ _ _ h => h);(focus (apply yRun rfl;intro w;first | (go_simp;done) | (go_simp;rfl)));(focus (exact hS.conv));simp only [putW]);(refine takeIf (i := 3) rfl (by kernel_rfl) (fun _ _ _ h => h) (yLoad1 (fun _ h => h) rfl rfl rfl rfl) hS.conv ?_;simp only [putW]);(refine takeIf (i := 4) rfl (by kernel_rfl) (fun _ _ _ h => h) (yMove rfl rfl rfl) hS.conv ?_;simp only [evW,putW]);(apply takeIf (i := 5) rfl (by kernel_rfl) (fun _ _ _ h => h);(focus (apply yRun rfl;intro w;first | (go_simp;done) | (go_simp;rfl)));(focus (exact hS.conv));simp only [putW]);(apply takeIf (i := 6) rfl (by kernel_rfl) (fun _ _ _ h => h);(focus (apply yRun rfl;intro w;first | (go_simp;done) | (go_simp;rfl)));(focus (exact hS.conv));simp only [putW]);(refine takeIf (i := 7) rfl (by kernel_rfl) (fun _ _ _ h => h) (yLoad1 (fun _ h => h) rfl rfl rfl rfl) hS.conv ?_;simp only [putW]);(refine takeIf (i := 8) rfl (by kernel_rfl) (fun _ _ _ h => h) (yMove rfl rfl rfl) hS.conv ?_;simp only [evW,putW]);(apply takeIf (i := 9) rfl (by kernel_rfl) (fun _ _ _ h => h);(focus (apply yRun rfl;intro w;first | (go_simp;done) | (go_simp;rfl)));(focus (exact hS.conv));simp only [putW]);(apply takeIf (i := 10) rfl (by kernel_rfl) (fun _ _ _ h => h);(focus (apply yRun rfl;intro w;first | (go_simp;done) | (go_simp;rfl)));(focus (exact hS.conv));simp only [putW]);(refine takeIf (i := 11) rfl (by kernel_rfl) (fun _ _ _ h => h) (yLoad1 (fun _ h => h) rfl rfl rfl rfl) hS.conv ?_;simp only [putW]);refine wpAnyH_all (rs := [12]) (by kernel_rfl) (by simp) ?_;intro i hi;simp only [List.mem_cons,List.not_mem_nil,or_false] at hi;subst hi;refine wpOp_of_list rfl ?_;go_wp2_with (go_at_call 6;refine Calls.mono (boot_way hp1 hp3 HHc.out HBt.out HS0.out HWs.out HMd.out HsB.out HW6.out.1 HW6.out.2 HW.out.2.2.1 (by omega) hK (((hS.pull d (X := DevC D6)).pull r (X := RegC d R5)).pull 1 (X := LogV (.pointer (some ⟨l,0,none⟩)) Q5))) ?_;clear hS;rintro _ w ⟨v7,D7,R7,Q7,rfl,HW7,hS⟩;simp only [putW]);refine ⟨rfl,hS.conv,?_⟩;refine wpAnyH_done (by kernel_rfl) ?_ _;skip)
                                go_wp2_with (first | (guard_target =~ Calls _ 21 _ _ _;refine Stopped.out ?_) | (refine load1 hS rfl rfl rfl rfl ?_;simp only [putW]))
                                refine ⟨?_⟩
                                refine Calls.mono (devCrash_any (hS.pull d (X := DevC D7))) ?_
                                clear hS
                                rintro _ w ⟨rfl,hS⟩
                                simp only [putW]
                                go_upto_region 51 with (refine load1 hS rfl rfl rfl rfl ?_;simp only [putW])
                                (refine wp_region_held (S := fun w' => Sat w0 ((1,LogV (.pointer (some ⟨l,0,none⟩)) Q7)::(r,RegC d R7)::(gF,slc 1 rowF XF cF 48)::(83,inn XI 5)::(g0,slc 1 rowF X0 c0 48)::(72,inn X0 109)::(gT,slc 1 rowF Y cT 48)::(82,inn Y 5)::(p,cells (pairP d r l x (.pointer none) (.pointer none)) 41)::(m15,cells (stV S0).toArray 28)::(m8,cells #[.int .i64 a0,.slice qf nf cf] 56)::(m12,cells (plan20 P c H (.slice (some ⟨gl,0,none⟩) 1 1)).toArray 60)::(gl,sl 1 i64 [1] 3 (.slice (some ⟨gl,0,none⟩) 1 1))::[]) w') (by kernel_rfl) ?_;replace hS := hS.drew;(refine takeIf (i := 0) rfl (by kernel_rfl) (fun _ _ _ h => h) (yMove rfl rfl rfl) hS.conv ?_;simp only [evW,putW]);(apply takeIf (i := 1) rfl (by kernel_rfl) (fun _ _ _ h => h);(focus (apply yRun rfl;intro w;first | (go_simp;done) | (go_simp;rfl)));(focus (exact hS.conv));simp only [putW]);(apply takeIf (i := 2) rfl (by kernel_rfl) (fun _ _ _ h => h);(focus (apply yRun rfl;intro w;first | (go_simp;done) | (go_simp;rfl)));(focus (exact hS.conv));simp only [putW]);(refine takeIf (i := 3) rfl (by kernel_rfl) (fun _ _ _ h => h) (yLoad1 (fun _ h => h) rfl rfl rfl rfl) hS.conv ?_;simp only [putW]);(refine takeIf (i := 4) rfl (by kernel_rfl) (fun _ _ _ h => h) (yMove rfl rfl rfl) hS.conv ?_;simp only [evW,putW]);(refine takeIf (i := 5) rfl (by kernel_rfl) (fun _ _ _ h => h) (yMove rfl rfl rfl) hS.conv ?_;simp only [evW,putW]);(apply takeIf (i := 6) rfl (by kernel_rfl) (fun _ _ _ h => h);(focus (apply yRun rfl;intro w;first | (go_simp;done) | (go_simp;rfl)));(focus (exact hS.conv));simp only [putW]);(apply takeIf (i := 7) rfl (by kernel_rfl) (fun _ _ _ h => h);(focus (apply yRun rfl;intro w;first | (go_simp;done) | (go_simp;rfl)));(focus (exact hS.conv));simp only [putW]);(refine takeIf (i := 8) rfl (by kernel_rfl) (fun _ _ _ h => h) (yLoadB (f := cutF) (L := CS) (m := 2) (fun w h => HBc.out.mono h.base fun _ _ h => h) rfl rfl rfl k5 1 (by omega) HCk.out rfl) hS.conv ?_;simp only [putW]);refine wpAnyH_all (rs := [9]) (by kernel_rfl) (by simp) ?_;intro i hi;simp only [List.mem_cons,List.not_mem_nil,or_false] at hi;subst hi;refine wpOp_of_list rfl ?_;go_wp2_with (go_at_call 22;refine Calls.mono (devOn_any (Fa := Fk) (by have := HW7.out.2.1.all.1;show D7.wt.length ≤ _;omega) (by have := HNk.out;have := HNk9.out;omega) (fun w' h => HFk.out.mono h.base) (hS.pull d (X := DevC D7.crash))) ?_;clear hS;rintro _ w ⟨rfl,hS⟩;simp only [putW]);refine ⟨rfl,hS.conv,?_⟩;refine wpAnyH_done (by kernel_rfl) ?_ _;skip)
                                go_wp2_with (refine load1 hS rfl rfl rfl rfl ?_;simp only [putW])
                                go_roundg g
                                case measure => omega
                                case rel => exact ⟨k5 + 1,_,R7,Q7,by omega,by go_num,⟨HW7.out.1.off Fk,HW7.out.2.1.crash.on Fk,HW7.out.2.2,crashOn_on D7 Fk⟩,hS.conv⟩
                              | zero =>
                                have hkN : k5 = N5 := by omega
                                have hk20 : k5 ≤ 20 := by omega
                                have hend5 : nc ≤ k5 ∨ 20 ≤ k5 := by have := HN5.out;omega
                                clear hkN hk5
                                go_upto_region 44 with (refine load1 hS rfl rfl rfl rfl ?_;simp only [putW])
                                go_cut [244] from 237 to 243 (fun v wc => v = .bool false ∧ Sat w0 ((d,DevC D5)::(1,LogV (.pointer (some ⟨l,0,none⟩)) Q5)::(r,RegC d R5)::(gF,slc 1 rowF XF cF 48)::(83,inn XI 5)::(g0,slc 1 rowF X0 c0 48)::(72,inn X0 109)::(gT,slc 1 rowF Y cT 48)::(82,inn Y 5)::(p,cells (pairP d r l x (.pointer none) (.pointer none)) 41)::(m15,cells (stV S0).toArray 28)::(m8,cells #[.int .i64 a0,.slice qf nf cf] 56)::(m12,cells (plan20 P c H (.slice (some ⟨gl,0,none⟩) 1 1)).toArray 60)::(gl,sl 1 i64 [1] 3 (.slice (some ⟨gl,0,none⟩) 1 1))::[]) wc)
                                case first =>
                                  by_cases q1 : nc ≤ k5
                                  · have d8 : decide ((k5 : Int) < (nc : Int)) = false := decide_eq_false (by omega)
                                    have d8b : decide (k5 < nc) = false := decide_eq_false (by omega)
                                    go_wp2_with (refine load1 hS rfl rfl rfl rfl ?_;simp only [putW])
                                    go_meet
                                    case rel => exact ⟨rfl,hS⟩
                                  · have d8 : decide ((k5 : Int) < (nc : Int)) = true := decide_eq_true (by omega)
                                    have d8b : decide (k5 < nc) = true := decide_eq_true (by omega)
                                    have d9 : decide ((k5 : Int) < 20) = false := decide_eq_false (by omega)
                                    have d9b : decide (k5 < 20) = false := decide_eq_false (by omega)
                                    go_wp2_with (refine load1 hS rfl rfl rfl rfl ?_;simp only [putW])
                                    go_meet
                                    case rel => exact ⟨rfl,hS⟩
                                case rest =>
                                  clear hS
                                  obtain ⟨rfl,hS⟩ := hcut
                                  have HK20 : Bx _ := ⟨hk20⟩
                                  clear hend5 hk20
                                  have htop : Tr[c]? = some top := by rw [← HTr.out,List.getElem?_map,HTop.out];rfl
                                  have HTop2 : Bx _ := ⟨htop⟩
                                  clear htop
                                  go_upto_region 52 with (refine load1 hS rfl rfl rfl rfl ?_;simp only [putW])
                                  go_cut [30,31] from 295 to 310 (fun v30 v31 wc => ∃ m30,v30 = .pointer (some ⟨m30,0,none⟩) ∧ v31 = .int .i64 0 ∧ ∃ D9 R9 Q9,EndF P H M Im Tr D2 rt dn D9 R9 ∧ Sat w0 ((m30,cells (stV R9).toArray 28)::(d,DevC D9)::(1,LogV (.pointer (some ⟨l,0,none⟩)) Q9)::(r,RegC d R9)::(gF,slc 1 rowF XF cF 48)::(83,inn XI 5)::(g0,slc 1 rowF X0 c0 48)::(72,inn X0 109)::(gT,slc 1 rowF Y cT 48)::(82,inn Y 5)::(p,cells (pairP d r l x (.pointer none) (.pointer none)) 41)::(m15,cells (stV S0).toArray 28)::(m8,cells #[.int .i64 a0,.slice qf nf cf] 56)::(m12,cells (plan20 P c H (.slice (some ⟨gl,0,none⟩) 1 1)).toArray 60)::(gl,sl 1 i64 [1] 3 (.slice (some ⟨gl,0,none⟩) 1 1))::[]) wc)
                                  case first =>
                                    (refine wp_region_held (S := fun w' => Sat w0 ((gF,slc 1 rowF XF cF 48)::(83,inn XI 5)::(g0,slc 1 rowF X0 c0 48)::(72,inn X0 109)::(gT,slc 1 rowF Y cT 48)::(82,inn Y 5)::(p,cells (pairP d r l x (.pointer none) (.pointer none)) 41)::(m15,cells (stV S0).toArray 28)::(m8,cells #[.int .i64 a0,.slice qf nf cf] 56)::(m12,cells (plan20 P c H (.slice (some ⟨gl,0,none⟩) 1 1)).toArray 60)::(gl,sl 1 i64 [1] 3 (.slice (some ⟨gl,0,none⟩) 1 1))::[]) w') (by kernel_rfl) ?_;replace hS := hS.drew;(refine takeIf (i := 0) rfl (by kernel_rfl) (fun _ _ _ h => h) (yMove rfl rfl rfl) hS.conv ?_;simp only [evW,putW]);(apply takeIf (i := 1) rfl (by kernel_rfl) (fun _ _ _ h => h);(focus (apply yRun rfl;intro w;first | (go_simp;done) | (go_simp;rfl)));(focus (exact hS.conv));simp only [putW]);(apply takeIf (i := 2) rfl (by kernel_rfl) (fun _ _ _ h => h);(focus (apply yRun rfl;intro w;first | (go_simp;done) | (go_simp;rfl)));(focus (exact hS.conv));simp only [putW]);(refine takeIf (i := 3) rfl (by kernel_rfl) (fun _ _ _ h => h) (yLoad1 (fun _ h => h) rfl rfl rfl rfl) hS.conv ?_;simp only [putW]);(refine takeIf (i := 4) rfl (by kernel_rfl) (fun _ _ _ h => h) (yMove rfl rfl rfl) hS.conv ?_;simp only [evW,putW]);(apply takeIf (i := 5) rfl (by kernel_rfl) (fun _ _ _ h => h);(focus (apply yRun rfl;intro w;first | (go_simp;done) | (go_simp;rfl)));(focus (exact hS.conv));simp only [putW]);(apply takeIf (i := 6) rfl (by kernel_rfl) (fun _ _ _ h => h);(focus (apply yRun rfl;intro w;first | (go_simp;done) | (go_simp;rfl)));(focus (exact hS.conv));simp only [putW]);(refine takeIf (i := 7) rfl (by kernel_rfl) (fun _ _ _ h => h) (yLoad1 (fun _ h => h) rfl rfl rfl rfl) hS.conv ?_;simp only [putW]);(refine takeIf (i := 8) rfl (by kernel_rfl) (fun _ _ _ h => h) (yMove rfl rfl rfl) hS.conv ?_;simp only [evW,putW]);(apply takeIf (i := 9) rfl (by kernel_rfl) (fun _ _ _ h => h);(focus (apply yRun rfl;intro w;first | (go_simp;done) | (go_simp;rfl)));(focus (exact hS.conv));simp only [putW]);(apply takeIf (i := 10) rfl (by kernel_rfl) (fun _ _ _ h => h);(focus (apply yRun rfl;intro w;first | (go_simp;done) | (go_simp;rfl)));(focus (exact hS.conv));simp only [putW]);(refine takeIf (i := 11) rfl (by kernel_rfl) (fun _ _ _ h => h) (yLoad1 (fun _ h => h) rfl rfl rfl rfl) hS.conv ?_;simp only [putW]);refine wpAnyH_all (rs := [12,16]) (by kernel_rfl) (by simp) ?_;intro i hi;simp only [List.mem_cons,List.not_mem_nil,or_false] at hi;rcases hi with rfl | rfl;(focus (refine wpOp_of_list rfl ?_;go_wp2_with (go_at_call 6;refine Calls.mono (boot_end hp1 hp3 HCc.out HHh.out HBt.out HS0.out HWs.out HMd.out HsB.out HA.out HIml.out hMP HTrl.out HImr.out HTrr.out HTop2.out HRt.out HW.out.1 HW.out.2.2.2 HW.out.2.1 HW.out.2.2.1 HK20.out hK (((hS.pull d (X := DevC D5)).pull r (X := RegC d R5)).pull 1 (X := LogV (.pointer (some ⟨l,0,none⟩)) Q5))) ?_;clear hS;rintro _ w ⟨D9,R9,Q9,rfl,HE,hS⟩;have HL9 : Bx ((stV R9).toArray.size = 72) := ⟨by rw [List.size_toArray];exact stV_len HE.out.wf⟩;simp only [putW]);refine ⟨rfl,hS.conv,?_⟩;(refine takeIf (i := 13) rfl (by kernel_rfl) (fun _ _ _ h => h) (yMove rfl rfl rfl) hS.conv ?_;simp only [evW,putW]);(apply takeIf (i := 14) rfl (by kernel_rfl) (fun _ _ _ h => h);(focus (apply yRun rfl;intro w;first | (go_simp;done) | (go_simp;rfl)));(focus (exact hS.conv));simp only [putW]);(apply takeIf (i := 15) rfl (by kernel_rfl) (fun _ _ _ h => h);(focus (apply yRun rfl;intro w;first | (go_simp;done) | (go_simp;rfl)));(focus (exact hS.conv));simp only [putW]);refine wpAnyH_all (rs := [16]) (by kernel_rfl) (by simp) ?_;intro i hi;simp only [List.mem_cons,List.not_mem_nil,or_false] at hi;subst hi;refine wpOp_of_list rfl ?_;go_wp2_with (refine allocS (t := 28) hS rfl rfl (stV st0).toArray st0_cells ?_;clear hS;intro m30 w hS;simp only [putW]);refine ⟨rfl,hS.conv,?_⟩;refine wpAnyH_all (rs := [17]) (by kernel_rfl) (by simp) ?_;intro i hi;simp only [List.mem_cons,List.not_mem_nil,or_false] at hi;subst hi;refine wpOp_of_list rfl ?_;go_wp2_with (refine storeAll (b := m30) (cs := (stV R9).toArray) hS rfl rfl rfl rfl HL9.out (stOne R9) st0_len ?_;clear hS;intro w hS;try simp only [putW]);refine ⟨rfl,hS.conv,?_⟩;(apply takeIf (i := 18) rfl (by kernel_rfl) (fun _ _ _ h => h);(focus (apply yRun rfl;intro w;first | (go_simp;done) | (go_simp;rfl)));(focus (exact hS.conv));simp only [putW]);refine wpAnyH_done (by kernel_rfl) ?_ _;go_wp2_with (refine load1 hS rfl rfl rfl rfl ?_;simp only [putW]);go_meet;(case rel => exact ⟨m30,rfl,rfl,D9,R9,Q9,HE.out,hS.conv⟩)));(focus (refine wpOp_of_list rfl ?_;go_wp2_with (refine allocS (t := 28) hS rfl rfl (stV st0).toArray st0_cells ?_;clear hS;intro m30 w hS;simp only [putW]);refine ⟨rfl,hS.conv,?_⟩;refine wpAnyH_all (rs := [12]) (by kernel_rfl) (by simp) ?_;intro i hi;simp only [List.mem_cons,List.not_mem_nil,or_false] at hi;subst hi;refine wpOp_of_list rfl ?_;go_wp2_with (go_at_call 6;refine Calls.mono (boot_end hp1 hp3 HCc.out HHh.out HBt.out HS0.out HWs.out HMd.out HsB.out HA.out HIml.out hMP HTrl.out HImr.out HTrr.out HTop2.out HRt.out HW.out.1 HW.out.2.2.2 HW.out.2.1 HW.out.2.2.1 HK20.out hK (((hS.pull d (X := DevC D5)).pull r (X := RegC d R5)).pull 1 (X := LogV (.pointer (some ⟨l,0,none⟩)) Q5))) ?_;clear hS;rintro _ w ⟨D9,R9,Q9,rfl,HE,hS⟩;have HL9 : Bx ((stV R9).toArray.size = 72) := ⟨by rw [List.size_toArray];exact stV_len HE.out.wf⟩;simp only [putW]);refine ⟨rfl,hS.conv,?_⟩;(refine takeIf (i := 13) rfl (by kernel_rfl) (fun _ _ _ h => h) (yMove rfl rfl rfl) hS.conv ?_;simp only [evW,putW]);(apply takeIf (i := 14) rfl (by kernel_rfl) (fun _ _ _ h => h);(focus (apply yRun rfl;intro w;first | (go_simp;done) | (go_simp;rfl)));(focus (exact hS.conv));simp only [putW]);(apply takeIf (i := 15) rfl (by kernel_rfl) (fun _ _ _ h => h);(focus (apply yRun rfl;intro w;first | (go_simp;done) | (go_simp;rfl)));(focus (exact hS.conv));simp only [putW]);refine wpAnyH_all (rs := [17]) (by kernel_rfl) (by simp) ?_;intro i hi;simp only [List.mem_cons,List.not_mem_nil,or_false] at hi;subst hi;refine wpOp_of_list rfl ?_;go_wp2_with (refine storeAll (b := m30) (cs := (stV R9).toArray) hS rfl rfl rfl rfl HL9.out (stOne R9) st0_len ?_;clear hS;intro w hS;try simp only [putW]);refine ⟨rfl,hS.conv,?_⟩;(apply takeIf (i := 18) rfl (by kernel_rfl) (fun _ _ _ h => h);(focus (apply yRun rfl;intro w;first | (go_simp;done) | (go_simp;rfl)));(focus (exact hS.conv));simp only [putW]);refine wpAnyH_done (by kernel_rfl) ?_ _;go_wp2_with (refine load1 hS rfl rfl rfl rfl ?_;simp only [putW]);go_meet;(case rel => exact ⟨m30,rfl,rfl,D9,R9,Q9,HE.out,hS.conv⟩))))
                                  case rest =>
                                    clear hS HW
                                    obtain ⟨m30,rfl,rfl,D9,R9,Q9,hE,hS⟩ := hcut
                                    have HE : Bx _ := ⟨hE⟩
                                    clear hE
                                    go_wp2_with (first | (refine loadAll (b := m12) hS rfl rfl rfl rfl ?_;simp only [putW]) | (guard_target =~ Calls _ 16 _ _ _;refine Stopped.out ?_))
                                    refine ⟨?_⟩
                                    refine Calls.mono (all_any (H := H) (P := P) (c := c) HE.out.off (by have := HE.out.len;omega) (by have := HE.out.wt;omega) (hS.conv (S' := (p,cells (pairP d r l x (.pointer none) (.pointer none)) 41)::(d,DevC D9)::(m30,cells (stV R9).toArray 28)::(1,LogV (.pointer (some ⟨l,0,none⟩)) Q9)::(r,RegC d R9)::(gF,slc 1 rowF XF cF 48)::(83,inn XI 5)::(g0,slc 1 rowF X0 c0 48)::(72,inn X0 109)::(gT,slc 1 rowF Y cT 48)::(82,inn Y 5)::(m15,cells (stV S0).toArray 28)::(m8,cells #[.int .i64 a0,.slice qf nf cf] 56)::(m12,cells (plan20 P c H (.slice (some ⟨gl,0,none⟩) 1 1)).toArray 60)::(gl,sl 1 i64 [1] 3 (.slice (some ⟨gl,0,none⟩) 1 1))::[]))) ?_
                                    clear hS
                                    rintro _ w ⟨v32,XA,rfl,HXA,hS⟩
                                    simp only [putW]
                                    have hXAl : XA.length = H := by have h := congrArg List.length HXA.out;rw [List.length_map,rowsAt_len] at h;exact h
                                    have hXAr : ∀ y ∈ XA,isRow y.2 := fun y hy => rowsAt_row (f := 0) (n := H) (devOk (hS.pull d (X := DevC D9))) (by have := HE.out.len;omega) y.2 (by rw [← HXA.out];exact List.mem_map_of_mem hy)
                                    obtain ⟨qa,ca,hv⟩ := shapeN (hS.pull (blk v32) (X := sl 1 rowF XA 48 v32)) hXAl
                                    subst hv
                                    have HXAl : Bx _ := ⟨hXAl⟩
                                    have HXAr : Bx _ := ⟨hXAr⟩
                                    clear hXAl hXAr
                                    have hXFm : XF.map (·.2) = Im ++ ((rowsAt D2 0 H).take P ++ Tr).drop M := by
                                      rw [HXF.out,List.map_append,HXI.out.2,List.take_of_length_le (by rw [HIml.out];omega),List.map_drop,HXB.out,List.map_append,List.map_take,HX0.out,HTr.out]
                                    have hXFl : XF.length = H := by
                                      have h := congrArg List.length hXFm
                                      rw [List.length_map,List.length_append,List.length_drop,List.length_append,List.length_take,rowsAt_len,HIml.out,HTrl.out,Nat.min_eq_left (by omega)] at h
                                      rw [h]
                                      have := HHh.out
                                      omega
                                    have HXFm : Bx _ := ⟨hXFm⟩
                                    have HXFl : Bx _ := ⟨hXFl⟩
                                    clear hXFm hXFl
                                    obtain ⟨LL,hLL⟩ : ∃ LL : List Chunk,(blk (.slice qa H ca),sl 1 rowF XA 48 (.slice qa H ca))::(71,inn XA 109)::(gF,slc 1 rowF XF cF 48)::(83,inn XI 5)::(g0,slc 1 rowF X0 c0 48)::(72,inn X0 109)::(gT,slc 1 rowF Y cT 48)::(82,inn Y 5)::(m15,cells (stV S0).toArray 28)::(m30,cells (stV R9).toArray 28)::[] = LL := ⟨_,rfl⟩
                                    have HA1 : Bx (∀ w1,Sat w0 LL w1 → RR w1 XA (.slice qa H ca)) := ⟨fun w1 h => by
                                      rw [← hLL] at h
                                      exact h.rowsRead (j := 71) (X := XA) (t := 109) (T := 48) (vo := .slice qa H ca) fun y hy => (HXAr.out y hy).2⟩
                                    have HA2 : Bx (∀ w1,Sat w0 LL w1 → RR w1 X0 (.slice (some ⟨g0,0,none⟩) H c0)) := ⟨fun w1 h => by
                                      rw [← hLL] at h
                                      exact rrSlc (g := g0) (j := 72) (t := 109) h HX0l.out HX0r.out⟩
                                    have HA3 : Bx (∀ w1,Sat w0 LL w1 → RR w1 XF (.slice (some ⟨gF,0,none⟩) H cF)) := ⟨fun w1 h => by
                                      rw [← hLL] at h
                                      refine rrAny (g := gF) (T := 48) h HXFl.out fun y hy => ?_
                                      rw [HXF.out] at hy
                                      rcases List.mem_append.1 hy with hy | hy
                                      · have h1 : y.2 ∈ Im := by
                                          have h2 : y.2 ∈ XI.map (·.2) := List.mem_map_of_mem hy
                                          rw [HXI.out.2] at h2
                                          exact List.mem_of_mem_take h2
                                        exact (h.pull 83 (X := inn XI 5)).innReads (v := y.1) (A := y.2) hy (HImr.out _ h1).2
                                      · have h1 := List.mem_of_mem_drop hy
                                        rw [HXB.out] at h1
                                        rcases List.mem_append.1 h1 with h1 | h1
                                        · have h2 := List.mem_of_mem_take h1
                                          exact (h.pull 72 (X := inn X0 109)).innReads (v := y.1) (A := y.2) h2 (HX0r.out y h2).2
                                        · exact (h.pull 82 (X := inn Y 5)).innReads (v := y.1) (A := y.2) h1 (HYr.out y h1).2⟩
                                    have hS9 := hS.conv (S' := (blk (.slice qa H ca),sl 1 rowF XA 48 (.slice qa H ca))::(71,inn XA 109)::(gF,slc 1 rowF XF cF 48)::(83,inn XI 5)::(g0,slc 1 rowF X0 c0 48)::(72,inn X0 109)::(gT,slc 1 rowF Y cT 48)::(82,inn Y 5)::(m15,cells (stV S0).toArray 28)::(m30,cells (stV R9).toArray 28)::[])
                                    clear hS
                                    have HSL : Bx (∀ w1,Sat w0 ((blk (.slice qa H ca),sl 1 rowF XA 48 (.slice qa H ca))::(71,inn XA 109)::(gF,slc 1 rowF XF cF 48)::(83,inn XI 5)::(g0,slc 1 rowF X0 c0 48)::(72,inn X0 109)::(gT,slc 1 rowF Y cT 48)::(82,inn Y 5)::(m15,cells (stV S0).toArray 28)::(m30,cells (stV R9).toArray 28)::[]) w1 → Sat w0 LL w1) := ⟨fun w1 h => by rw [← hLL];exact h⟩
                                    clear hLL
                                    have hS := hS9
                                    clear hS9
                                    have HC7 : Bx (CellIs (stV R9).toArray 7 (.bool false)) := ⟨by rw [← HE.out.busy];exact stCell7 R9⟩
                                    rcases HE.out.ways with ⟨e1,e2,e3⟩ | ⟨e1,e2,e3⟩
                                    · have HC5 : Bx (CellIs (stV R9).toArray 4 (.int .u64 0)) := ⟨by rw [← e2];exact stCell4 R9⟩
                                      have hb1 : decide (XA.map (·.2) = X0.map (·.2)) = true := decide_eq_true (by rw [HXA.out,HX0.out,e3])
                                      obtain ⟨b2,hb2⟩ : ∃ b,decide (XA.map (·.2) = XF.map (·.2)) = b := ⟨_,rfl⟩
                                      have HB1 : Bx _ := ⟨hb1⟩
                                      have HB2 : Bx _ := ⟨hb2⟩
                                      clear e2 e3 hb1 hb2
                                      go_wp2_with (guard_target =~ Calls _ 23 _ _ _;refine Stopped.out ?_)
                                      refine ⟨?_⟩
                                      refine Calls.mono (sameAll_any (HA1.out _ (HSL.out _ hS)) (HA2.out _ (HSL.out _ hS))) ?_
                                      rw [HB1.out]
                                      rintro _ w2 ⟨rfl,h2⟩
                                      replace hS := hS.frame h2
                                      clear h2
                                      simp only [List.nil_append] at hS
                                      simp only [putW]
                                      cases b2 with
                                      | true =>
                                        go_wp2_with (first | (refine loadC (b := m30) (c := (stV R9).toArray) hS rfl rfl rfl HC5.out ?_;simp only [putW]) | (guard_target =~ Calls _ 23 _ _ _;refine Stopped.out ?_))
                                        refine ⟨?_⟩
                                        refine Calls.mono (sameAll_any (HA1.out _ (HSL.out _ hS)) (HA3.out _ (HSL.out _ hS))) ?_
                                        rw [HB2.out]
                                        rintro _ w2 ⟨rfl,h2⟩
                                        replace hS := hS.frame h2
                                        clear h2
                                        simp only [List.nil_append] at hS
                                        simp only [putW]
                                        go_wp2_with (first | (refine no_implicit_lambda% (loadC (b := m30) (c := (stV R9).toArray) hS rfl rfl rfl HC5.out ?_);simp only [putW]) | (refine no_implicit_lambda% (loadC (b := m30) (c := (stV R9).toArray) hS rfl rfl rfl HC7.out ?_);simp only [putW]) | (go_at_call 13;refine Calls.mono (awake22 (hK.mono hS.base)) ?_;rintro _ w2 ⟨rfl,h2⟩;replace hS := hS.frame h2;clear h2;(try simp only [List.cons_append,List.nil_append] at hS);simp only [putW]))
                                        go_ret
                                        exact ⟨rfl,hS.nothing⟩
                                      | false =>
                                        go_wp2_with (first | (refine loadC (b := m30) (c := (stV R9).toArray) hS rfl rfl rfl HC5.out ?_;simp only [putW]) | (guard_target =~ Calls _ 23 _ _ _;refine Stopped.out ?_))
                                        refine ⟨?_⟩
                                        refine Calls.mono (sameAll_any (HA1.out _ (HSL.out _ hS)) (HA3.out _ (HSL.out _ hS))) ?_
                                        rw [HB2.out]
                                        rintro _ w2 ⟨rfl,h2⟩
                                        replace hS := hS.frame h2
                                        clear h2
                                        simp only [List.nil_append] at hS
                                        simp only [putW]
                                        go_wp2_with (first | (refine no_implicit_lambda% (loadC (b := m30) (c := (stV R9).toArray) hS rfl rfl rfl HC7.out ?_);simp only [putW]) | (go_at_call 13;refine Calls.mono (awake22 (hK.mono hS.base)) ?_;rintro _ w2 ⟨rfl,h2⟩;replace hS := hS.frame h2;clear h2;(try simp only [List.cons_append,List.nil_append] at hS);simp only [putW]))
                                        go_ret
                                        exact ⟨rfl,hS.nothing⟩
                                    · have HC5 : Bx (CellIs (stV R9).toArray 4 (.int .u64 1)) := ⟨by rw [← e1];exact stCell4 R9⟩
                                      have HP9 : Bx (PartIs (stV R9).toArray 8 32 (rt.map u8v)) := ⟨by rw [← e2];exact stPart8 HE.out.wf⟩
                                      have HP5 : Bx (PartIs (stV S0).toArray 8 32 (rt.map u8v)) := ⟨by have h9 := stPart8 HWs.out;rw [← HS0.out] at h9 ⊢;exact h9⟩
                                      have hEq := eq32 HRd.out.1 HRd.out.1 HRd.out.2 HRd.out.2
                                      rw [decide_eq_true rfl] at hEq
                                      have hb2 : decide (XA.map (·.2) = XF.map (·.2)) = true := decide_eq_true (by rw [HXA.out,HXFm.out,e3])
                                      obtain ⟨b1,hb1⟩ : ∃ b,decide (XA.map (·.2) = X0.map (·.2)) = b := ⟨_,rfl⟩
                                      have HB1 : Bx _ := ⟨hb1⟩
                                      have HB2 : Bx _ := ⟨hb2⟩
                                      clear e1 e2 e3 hb1 hb2
                                      go_wp2_with (guard_target =~ Calls _ 23 _ _ _;refine Stopped.out ?_)
                                      refine ⟨?_⟩
                                      refine Calls.mono (sameAll_any (HA1.out _ (HSL.out _ hS)) (HA2.out _ (HSL.out _ hS))) ?_
                                      rw [HB1.out]
                                      rintro _ w2 ⟨rfl,h2⟩
                                      replace hS := hS.frame h2
                                      clear h2
                                      simp only [List.nil_append] at hS
                                      simp only [putW]
                                      cases b1 with
                                      | true =>
                                        go_wp2_with (first | (refine loadC (b := m30) (c := (stV R9).toArray) hS rfl rfl rfl HC5.out ?_;simp only [putW]) | (guard_target =~ Calls _ 23 _ _ _;refine Stopped.out ?_))
                                        refine ⟨?_⟩
                                        refine Calls.mono (sameAll_any (HA1.out _ (HSL.out _ hS)) (HA3.out _ (HSL.out _ hS))) ?_
                                        rw [HB2.out]
                                        rintro _ w2 ⟨rfl,h2⟩
                                        replace hS := hS.frame h2
                                        clear h2
                                        simp only [List.nil_append] at hS
                                        simp only [putW]
                                        go_wp2_with (first | (refine loadC (b := m30) (c := (stV R9).toArray) hS rfl rfl rfl HC5.out ?_;simp only [putW]) | (refine loadC (b := m30) (c := (stV R9).toArray) hS rfl rfl rfl HC7.out ?_;simp only [putW]) | (refine loadP (b := m30) (c := (stV R9).toArray) (l := rt.map u8v) hS rfl rfl rfl HP9.out ?_;simp only [putW]) | (refine loadP (b := m15) (c := (stV S0).toArray) (l := rt.map u8v) hS rfl rfl rfl HP5.out ?_;simp only [putW]) | (go_at_call 13;refine Calls.mono (awake22 (hK.mono hS.base)) ?_;rintro _ w2 ⟨rfl,h2⟩;replace hS := hS.frame h2;clear h2;(try simp only [List.cons_append,List.nil_append] at hS);simp only [putW]))
                                        go_ret
                                        exact ⟨rfl,hS.nothing⟩
                                      | false =>
                                        go_wp2_with (guard_target =~ Calls _ 23 _ _ _;refine Stopped.out ?_)
                                        refine ⟨?_⟩
                                        refine Calls.mono (sameAll_any (HA1.out _ (HSL.out _ hS)) (HA3.out _ (HSL.out _ hS))) ?_
                                        rw [HB2.out]
                                        rintro _ w2 ⟨rfl,h2⟩
                                        replace hS := hS.frame h2
                                        clear h2
                                        simp only [List.nil_append] at hS
                                        simp only [putW]
                                        go_wp2_with (first | (refine loadC (b := m30) (c := (stV R9).toArray) hS rfl rfl rfl HC5.out ?_;simp only [putW]) | (refine loadC (b := m30) (c := (stV R9).toArray) hS rfl rfl rfl HC7.out ?_;simp only [putW]) | (refine loadP (b := m30) (c := (stV R9).toArray) (l := rt.map u8v) hS rfl rfl rfl HP9.out ?_;simp only [putW]) | (refine loadP (b := m15) (c := (stV S0).toArray) (l := rt.map u8v) hS rfl rfl rfl HP5.out ?_;simp only [putW]) | (go_at_call 13;refine Calls.mono (awake22 (hK.mono hS.base)) ?_;rintro _ w2 ⟨rfl,h2⟩;replace hS := hS.frame h2;clear h2;(try simp only [List.cons_append,List.nil_append] at hS);simp only [putW]))
                                        go_ret
                                        exact ⟨rfl,hS.nothing⟩
end
end Go.Proofs.YtdkimdobcacpfaaDoor.BaseWholeDone
