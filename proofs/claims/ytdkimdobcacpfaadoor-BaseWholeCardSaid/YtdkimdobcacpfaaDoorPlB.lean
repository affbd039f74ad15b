/-
  plan.Parent at any plan.
  plan.Path from page 0, plan.Need of page 0.
-/
import Derived.Test.YtdkimdobcacpfaaDoorPlA
import Derived.Test.YtdkimdobcacpfaaDoorTrPar
import Derived.Test.YtdkimdobcacpfaaDoorDvA
set_option linter.unusedSimpArgs false
set_option linter.unusedVariables false
namespace Go.Proofs.YtdkimdobcacpfaaDoor
open Go.RowKit Go.Proofs.YtdkimdobcacpfaaDoor.Sl Go.Proofs.YtdkimdobcacpfaaDoor.Jp Go.Proofs.YtdkimdobcacpfaaDoor.Tr Go.Proofs.YtdkimdobcacpfaaDoor.Dv

theorem sum_take_step {B : List Nat} {j y : Nat} (h : B[j]? = some y) : (B.take (j + 1)).sum = (B.take j).sum + y := by
  rw [List.take_add_one,h,List.sum_append];simp
theorem sum_take_mono (B : List Nat) {i j : Nat} (h : i ≤ j) : (B.take i).sum ≤ (B.take j).sum := by
  have e : B.take i = (B.take j).take i := by rw [List.take_take,Nat.min_eq_left h]
  have e2 : ((B.take j).take i).sum + ((B.take j).drop i).sum = (B.take j).sum := by rw [← List.sum_append,List.take_append_drop]
  rw [e]
  omega
section
variable {w0 w : World} {lv : Value} {b hd J s t : Int} {P C : Nat}
set_option maxRecDepth 100000 in
set_option maxHeartbeats 4000000 in
theorem planParent_at {B : List Nat} {L : List Int} {j0 y0 k : Nat} {H N : Int} {ki : Int} (hki : ki = (k : Int)) (hL : RI w0 L lv) (hBi : B.map (fun n : Nat => (n : Int)) = [(P : Int),(C : Int)] ++ L) (hBl : B.length ≤ 6) (hlb : ∀ x ∈ B,x ≤ 100000) (hj0 : B[j0]? = some y0) (h1 : (B.take j0).sum ≤ k) (h2 : k < (B.take j0).sum + y0) (hk : k ≤ 500000) (hH : 0 ≤ H ∧ H ≤ 1000000) :
    Calls Tryd.prog 91 #[.agg (plL P b C lv N H hd J s t).toArray,.int .i64 ki] w0 fun e w' => e = .returned (if (k : Int) + 1 = H then .tuple #[.agg #[.int .i64 0,.int .i64 0],.int .i64 5] else .tuple #[.agg #[.int .i64 ((((B.take j0).sum + y0 + (k - (B.take j0).sum) / fan j0 : Nat)) : Int),.int .i64 (((k - (B.take j0).sum) % fan j0 : Nat) : Int)],.int .i64 0]) ∧ Sat w0 [] w' := by
  subst hki
  have hS := Sat.refl w0
  obtain ⟨a,c,rfl,hll,hat⟩ := hL.at
  have hLl : L.length + 2 = B.length := by have := congrArg List.length hBi;simp at this;omega
  have Hlb : Bx _ := ⟨hlb⟩
  have HBi : Bx _ := ⟨hBi⟩
  have HJ : Bx _ := ⟨hj0⟩
  have H1 : Bx _ := ⟨h1⟩
  have H2 : Bx _ := ⟨h2⟩
  obtain ⟨V,hV⟩ : ∃ V,(if (k : Int) + 1 = H then Value.tuple #[.agg #[.int .i64 0,.int .i64 0],.int .i64 5] else .tuple #[.agg #[.int .i64 ((((B.take j0).sum + y0 + (k - (B.take j0).sum) / fan j0 : Nat)) : Int),.int .i64 (((k - (B.take j0).sum) % fan j0 : Nat) : Int)],.int .i64 0]) = V := ⟨_,rfl⟩
  have HV : Bx _ := ⟨hV⟩
  rw [hV]
  clear hV hlb hBi hat hj0 h1 h2
  go_enter Tryd.func91,Tryd.ntmps91
  have tok : True := trivial
  go_wp2_with (first | (have _t := tok;refine alloc hS rfl rfl ?_;clear hS tok;intro m4 w hS;simp only [putW]) | (guard_target =~ wpList _ _ _ (Oper.mk (some 18) _ _ _ _ _::_) _ _;refine Stopped.out ?_) | (refine load1 hS rfl rfl rfl rfl ?_;simp only [putW]) | (refine boxN hS rfl rfl rfl ?_;clear hS;intro mb w hS;simp only [putW]))
  refine ⟨?_⟩
  refine buildSlice2 (u0 := .int .i64 P) (u1 := .int .i64 C) hS rfl rfl rfl rfl ?_
  clear hS
  intro m1 w hS
  simp only [putW]
  have h1 := hS.toSlc (l := [(P : Int),(C : Int)]) (cap := 2) (n := 1) (f := i64) (by simp) (by simp) (by simp [maxLen]) (by rfl) (fun _ _ => rfl)
  replace hS := h1.slOfSlc
  simp only [List.length_cons,List.length_nil,Nat.zero_add] at hS
  clear h1
  go_wp2_with (first | (guard_target =~ wpList _ _ _ (Oper.mk (some 21) _ _ _ _ _::_) _ _;refine Stopped.out ?_) | (refine load1 hS rfl rfl rfl rfl ?_;simp only [putW]))
  refine ⟨?_⟩
  refine appendB (f := i64) hS rfl rfl (.slice (some ⟨m1,0,none⟩) 2 2) rfl rfl L (hL.mono hS.base) ?_ ?_ ?_ ?_
  · intro x _ u hu;rw [List.mem_singleton.1 hu];rfl
  · simp [maxLen];omega
  · simp;omega
  clear hS
  intro v2 w hS
  simp only [putW]
  rw [← HBi.out] at hS
  obtain ⟨g2,c2,hv2,hS2⟩ := hS.slFormC B.length (by simp) (by omega)
  subst hv2
  clear hS
  have hS := hS2
  clear hS2
  go_wp2_with (refine load1 hS rfl rfl rfl rfl ?_;simp only [putW])
  go_loopw [6,7,23] (fun f' n' i' wr => ∃ j : Nat,j ≤ j0 ∧ i' = .int .i64 j ∧ f' = .int .i64 ((B.take j).sum : Nat) ∧ n' = .int .i64 (fan j : Nat) ∧ Sat w0 _ wr) (fun _ _ i' _ => B.length - (intOf i').toNat)
  case atStart => exact ⟨0,Nat.zero_le _,rfl,rfl,rfl,hS⟩
  case round =>
    clear hS
    obtain ⟨j,hj,rfl,rfl,rfl,hS⟩ := hrel
    have hj0l : j0 < B.length := (List.getElem?_eq_some_iff.1 HJ.out).1
    have hlt : j < B.length := by omega
    obtain ⟨y,hy⟩ : ∃ y,B[j]? = some y := ⟨_,List.getElem?_eq_getElem hlt⟩
    have hyi : (B.map (fun n : Nat => (n : Int)))[j]? = some (y : Int) := by simp [hy]
    obtain ⟨fr,hfr⟩ : ∃ fr,(B.take j).sum = fr := ⟨_,rfl⟩
    have HFr : Bx _ := ⟨hfr⟩
    have hfk : fr ≤ k := by rw [← hfr];exact Nat.le_trans (sum_take_mono B hj) H1.out
    have hstp : Bx ((B.take (j + 1)).sum = fr + y) := ⟨by rw [sum_take_step hy,hfr]⟩
    have HY : Bx _ := ⟨hy⟩
    have hyb : y ≤ 100000 := Hlb.out y (List.mem_of_getElem? hy)
    rw [hfr]
    clear hfr hy
    by_cases hjj : j = j0
    · subst hjj
      have e0 : y = y0 := Option.some.inj (HY.out.symm.trans HJ.out)
      subst e0
      have H2' := H2.out
      rw [HFr.out] at H2'
      have hVv := HV.out
      rw [HFr.out] at hVv
      obtain ⟨q,hq⟩ : ∃ q,fan j = q := ⟨_,rfl⟩
      have hq2 : q = 16 ∨ q = 8 := by rw [← hq];cases j <;> simp [fan]
      rw [hq] at hVv ⊢
      clear hq
      obtain ⟨i,rfl⟩ : ∃ i,k = fr + i := ⟨k - fr,by omega⟩
      rw [show fr + i - fr = i by omega] at hVv
      have HVv : Bx _ := ⟨hVv⟩
      clear hVv
      have hky : fr + i - fr < y := by omega
      go_upto_region 8 with (refine loadS1 (v1 := Value.int .i64) hS rfl rfl rfl hyi ?_;simp only [putW])
      go_cut [10] from 32 to 46 (fun p wc => ∃ m10,p = .pointer (some ⟨m10,0,none⟩) ∧ Sat w0 ((m10,cells #[.int .i64 ((fr + y + i / q : Nat) : Int),.int .i64 ((i % q : Nat) : Int)] 105)::(m4,cells #[.int .i64 0,.int .i64 0] 105)::(mb,cells (plL P b C (.slice a L.length c) N H hd J s t).toArray 60)::[]) wc)
      case first =>
        rcases hq2 with rfl | rfl
        · have hnp := num_par fr y i 16 (by omega) (by omega) (by omega) (by omega)
          (refine wp_region_held (S := fun w' => Sat w0 ((g2,slc 1 i64 (B.map fun n : Nat => (n : Int)) c2 3)::(m4,cells #[.int .i64 0,.int .i64 0] 105)::(mb,cells (plL P b C (.slice a L.length c) N H hd J s t).toArray 60)::[]) w') (by kernel_rfl) ?_;replace hS := hS.drew;(refine takeIf (i := 0) rfl (by kernel_rfl) (fun _ _ _ h => h) (yMove rfl rfl rfl) hS.conv ?_;simp only [evW,putW]);(refine takeIf (i := 1) rfl (by kernel_rfl) (fun _ _ _ h => h) (yMove rfl rfl rfl) hS.conv ?_;simp only [evW,putW]);(apply takeIf (i := 2) rfl (by kernel_rfl) (fun _ _ _ h => h);(focus (apply yRun rfl;intro w;first | (go_simp;done) | (go_simp;rfl)));(focus (exact hS.conv));simp only [putW]);(refine takeIf (i := 3) rfl (by kernel_rfl) (fun _ _ _ h => h) (yMove rfl rfl rfl) hS.conv ?_;simp only [evW,putW]);(refine takeIf (i := 4) rfl (by kernel_rfl) (fun _ _ _ h => h) (yMove rfl rfl rfl) hS.conv ?_;simp only [evW,putW]);(apply takeIf (i := 5) rfl (by kernel_rfl) (fun _ _ _ h => h);(focus (apply yRun rfl;intro w;first | (go_simp;done) | (go_simp;rfl)));(focus (exact hS.conv));simp only [putW]);(refine takeIf (i := 6) rfl (by kernel_rfl) (fun _ _ _ h => h) (yMove rfl rfl rfl) hS.conv ?_;simp only [evW,putW]);(apply takeIf (i := 7) rfl (by kernel_rfl) (fun _ _ _ h => h);(focus (apply yRun rfl;intro w;first | (go_simp;done) | (go_simp;rfl)));(focus (exact hS.conv));simp only [putW]);(apply takeIf (i := 8) rfl (by kernel_rfl) (fun _ _ _ h => h);(focus (apply yRun rfl;intro w;first | (go_simp;done) | (go_simp;rfl)));(focus (exact hS.conv));simp only [putW]);(refine takeIf (i := 9) rfl (by kernel_rfl) (fun _ _ _ h => h) (yMove rfl rfl rfl) hS.conv ?_;simp only [evW,putW]);(refine takeIf (i := 10) rfl (by kernel_rfl) (fun _ _ _ h => h) (yMove rfl rfl rfl) hS.conv ?_;simp only [evW,putW]);(apply takeIf (i := 11) rfl (by kernel_rfl) (fun _ _ _ h => h);(focus (apply yRun rfl;intro w;first | (go_simp;done) | (go_simp;rfl)));(focus (exact hS.conv));simp only [putW]);(refine takeIf (i := 12) rfl (by kernel_rfl) (fun _ _ _ h => h) (yMove rfl rfl rfl) hS.conv ?_;simp only [evW,putW]);(apply takeIf (i := 13) rfl (by kernel_rfl) (fun _ _ _ h => h);(focus (apply yRun rfl;intro w;first | (go_simp;done) | (go_simp;rfl)));(focus (exact hS.conv));simp only [putW]);(apply takeIf (i := 14) rfl (by kernel_rfl) (fun _ _ _ h => h);(focus (apply yRun rfl;intro w;first | (go_simp;done) | (go_simp;rfl)));(focus (exact hS.conv));simp only [putW]);refine wpAnyH_all (rs := [15]) (by kernel_rfl) (by simp) ?_;intro i hi;simp only [List.mem_cons,List.not_mem_nil,or_false] at hi;subst hi;refine wpOp_of_list rfl ?_;go_wp2_with (refine alloc hS rfl rfl ?_;clear hS;intro m10 w hS;simp only [putW]);refine ⟨rfl,hS.conv,?_⟩;refine wpAnyH_all (rs := [16]) (by kernel_rfl) (by simp) ?_;intro i hi;simp only [List.mem_cons,List.not_mem_nil,or_false] at hi;subst hi;refine wpOp_of_list rfl ?_;go_wp2_with (refine storeAll hS rfl rfl rfl rfl ?_ ?_ ?_ ?_;rfl;(focus (simp [Value.oneCell'];done));rfl;clear hS;intro w hS;try simp only [putW]);refine ⟨rfl,hS.conv,?_⟩;refine wpAnyH_done (by kernel_rfl) ?_ _;skip)
          replace hS := hS.conv (S' := (m10,cells #[.int .i64 (IntKind.i64.wrap (IntKind.i64.wrap ((fr : Int) + y) + IntKind.i64.wrap ((IntKind.i64.wrap ((fr : Int) + i - fr)).tdiv (16 : Nat)))),.int .i64 ((IntKind.i64.wrap ((fr : Int) + i - fr)).tmod (16 : Nat))] 105)::(m4,cells #[.int .i64 0,.int .i64 0] 105)::(mb,cells (plL P b C (.slice a L.length c) N H hd J s t).toArray 60)::[])
          rw [hnp.1,hnp.2] at hS
          go_wp2_with (refine load1 hS rfl rfl rfl rfl ?_;simp only [putW])
          go_meet
          case rel => exact ⟨m10,rfl,hS⟩
        · have hnp := num_par fr y i 8 (by omega) (by omega) (by omega) (by omega)
          (refine wp_region_held (S := fun w' => Sat w0 ((g2,slc 1 i64 (B.map fun n : Nat => (n : Int)) c2 3)::(m4,cells #[.int .i64 0,.int .i64 0] 105)::(mb,cells (plL P b C (.slice a L.length c) N H hd J s t).toArray 60)::[]) w') (by kernel_rfl) ?_;replace hS := hS.drew;(refine takeIf (i := 0) rfl (by kernel_rfl) (fun _ _ _ h => h) (yMove rfl rfl rfl) hS.conv ?_;simp only [evW,putW]);(refine takeIf (i := 1) rfl (by kernel_rfl) (fun _ _ _ h => h) (yMove rfl rfl rfl) hS.conv ?_;simp only [evW,putW]);(apply takeIf (i := 2) rfl (by kernel_rfl) (fun _ _ _ h => h);(focus (apply yRun rfl;intro w;first | (go_simp;done) | (go_simp;rfl)));(focus (exact hS.conv));simp only [putW]);(refine takeIf (i := 3) rfl (by kernel_rfl) (fun _ _ _ h => h) (yMove rfl rfl rfl) hS.conv ?_;simp only [evW,putW]);(refine takeIf (i := 4) rfl (by kernel_rfl) (fun _ _ _ h => h) (yMove rfl rfl rfl) hS.conv ?_;simp only [evW,putW]);(apply takeIf (i := 5) rfl (by kernel_rfl) (fun _ _ _ h => h);(focus (apply yRun rfl;intro w;first | (go_simp;done) | (go_simp;rfl)));(focus (exact hS.conv));simp only [putW]);(refine takeIf (i := 6) rfl (by kernel_rfl) (fun _ _ _ h => h) (yMove rfl rfl rfl) hS.conv ?_;simp only [evW,putW]);(apply takeIf (i := 7) rfl (by kernel_rfl) (fun _ _ _ h => h);(focus (apply yRun rfl;intro w;first | (go_simp;done) | (go_simp;rfl)));(focus (exact hS.conv));simp only [putW]);(apply takeIf (i := 8) rfl (by kernel_rfl) (fun _ _ _ h => h);(focus (apply yRun rfl;intro w;first | (go_simp;done) | (go_simp;rfl)));(focus (exact hS.conv));simp only [putW]);(refine takeIf (i := 9) rfl (by kernel_rfl) (fun _ _ _ h => h) (yMove rfl rfl rfl) hS.conv ?_;simp only [evW,putW]);(refine takeIf (i := 10) rfl (by kernel_rfl) (fun _ _ _ h => h) (yMove rfl rfl rfl) hS.conv ?_;simp only [evW,putW]);(apply takeIf (i := 11) rfl (by kernel_rfl) (fun _ _ _ h => h);(focus (apply yRun rfl;intro w;first | (go_simp;done) | (go_simp;rfl)));(focus (exact hS.conv));simp only [putW]);(refine takeIf (i := 12) rfl (by kernel_rfl) (fun _ _ _ h => h) (yMove rfl rfl rfl) hS.conv ?_;simp only [evW,putW]);(apply takeIf (i := 13) rfl (by kernel_rfl) (fun _ _ _ h => h);(focus (apply yRun rfl;intro w;first | (go_simp;done) | (go_simp;rfl)));(focus (exact hS.conv));simp only [putW]);(apply takeIf (i := 14) rfl (by kernel_rfl) (fun _ _ _ h => h);(focus (apply yRun rfl;intro w;first | (go_simp;done) | (go_simp;rfl)));(focus (exact hS.conv));simp only [putW]);refine wpAnyH_all (rs := [15]) (by kernel_rfl) (by simp) ?_;intro i hi;simp only [List.mem_cons,List.not_mem_nil,or_false] at hi;subst hi;refine wpOp_of_list rfl ?_;go_wp2_with (refine alloc hS rfl rfl ?_;clear hS;intro m10 w hS;simp only [putW]);refine ⟨rfl,hS.conv,?_⟩;refine wpAnyH_all (rs := [16]) (by kernel_rfl) (by simp) ?_;intro i hi;simp only [List.mem_cons,List.not_mem_nil,or_false] at hi;subst hi;refine wpOp_of_list rfl ?_;go_wp2_with (refine storeAll hS rfl rfl rfl rfl ?_ ?_ ?_ ?_;rfl;(focus (simp [Value.oneCell'];done));rfl;clear hS;intro w hS;try simp only [putW]);refine ⟨rfl,hS.conv,?_⟩;refine wpAnyH_done (by kernel_rfl) ?_ _;skip)
          replace hS := hS.conv (S' := (m10,cells #[.int .i64 (IntKind.i64.wrap (IntKind.i64.wrap ((fr : Int) + y) + IntKind.i64.wrap ((IntKind.i64.wrap ((fr : Int) + i - fr)).tdiv (8 : Nat)))),.int .i64 ((IntKind.i64.wrap ((fr : Int) + i - fr)).tmod (8 : Nat))] 105)::(m4,cells #[.int .i64 0,.int .i64 0] 105)::(mb,cells (plL P b C (.slice a L.length c) N H hd J s t).toArray 60)::[])
          rw [hnp.1,hnp.2] at hS
          go_wp2_with (refine load1 hS rfl rfl rfl rfl ?_;simp only [putW])
          go_meet
          case rel => exact ⟨m10,rfl,hS⟩
      case rest =>
        clear hS
        obtain ⟨m10,rfl,hS⟩ := hcut
        obtain ⟨A1,hA1⟩ : ∃ A1,fr + y + i / q = A1 := ⟨_,rfl⟩
        obtain ⟨A2,hA2⟩ : ∃ A2,i % q = A2 := ⟨_,rfl⟩
        have hVv := HVv.out
        rw [hA1,hA2] at hVv
        rw [hA1,hA2] at hS
        clear hA1 hA2
        by_cases ht : ((fr + i : Nat) : Int) + 1 = H
        · rw [if_pos ht] at hVv
          have ht2 : ((fr + i : Nat) : Int) = H - 1 := by omega
          have d1 : decide (((fr : Int) + i) = H - 1) = true := decide_eq_true (by omega)
          go_wp2_with (first | (go_at_call 32;refine Calls.mono (top_any hH) ?_;rintro _ w2 ⟨rfl,h2⟩;replace hS := hS.frame h2;clear h2;(try simp only [List.cons_append,List.nil_append] at hS);simp only [putW]) | (refine loadAll hS rfl rfl rfl ?_ ?_;rfl;simp only [putW]) | (refine storeAll hS rfl rfl rfl rfl ?_ ?_ ?_ ?_;rfl;(focus (simp [Value.oneCell'];done));rfl;clear hS;intro w hS;try simp only [putW]))
          subst hVv
          have hr := run_loadAll (P := Tryd.prog) hS m4 105 rfl
          exact bodyPost_ret (v := .tuple #[.agg #[.int .i64 0,.int .i64 0],.int .i64 5]) (by simp [results,Tryd.results91,asAddr,hr]) rfl ⟨rfl,hS.nothing⟩
        · rw [if_neg ht] at hVv
          have ht2 : ((fr + i : Nat) : Int) ≠ H - 1 := by omega
          have d1 : decide (((fr : Int) + i) = H - 1) = false := decide_eq_false (by omega)
          go_wp2_with (first | (go_at_call 32;refine Calls.mono (top_any hH) ?_;rintro _ w2 ⟨rfl,h2⟩;replace hS := hS.frame h2;clear h2;(try simp only [List.cons_append,List.nil_append] at hS);simp only [putW]) | (refine loadAll hS rfl rfl rfl ?_ ?_;rfl;simp only [putW]) | (refine storeAll hS rfl rfl rfl rfl ?_ ?_ ?_ ?_;rfl;(focus (simp [Value.oneCell'];done));rfl;clear hS;intro w hS;try simp only [putW]))
          subst hVv
          have hr := run_loadAll (P := Tryd.prog) hS m4 105 rfl
          exact bodyPost_ret (v := .tuple #[.agg #[.int .i64 (A1 : Int),.int .i64 (A2 : Int)],.int .i64 0]) (by simp [results,Tryd.results91,asAddr,hr]) rfl ⟨rfl,hS.nothing⟩
    · have hjlt : j < j0 := by omega
      have hnx : fr + y ≤ k := by rw [← hstp.out];exact Nat.le_trans (sum_take_mono B hjlt) H1.out
      have hky : ¬ k - fr < y := by omega
      obtain ⟨i,rfl⟩ : ∃ i,k = fr + i := ⟨k - fr,by omega⟩
      go_wp2_with (refine loadS1 (v1 := Value.int .i64) hS rfl rfl rfl hyi ?_;simp only [putW])
      go_roundw
      case rel => exact ⟨j + 1,by omega,by go_num,by rw [hstp.out];go_num,rfl,hS⟩
      case measure => simp [intOf];omega
end
end Go.Proofs.YtdkimdobcacpfaaDoor
namespace Go.Proofs.YtdkimdobcacpfaaDoor
open Go.RowKit Go.Proofs.YtdkimdobcacpfaaDoor.Sl Go.Proofs.YtdkimdobcacpfaaDoor.Jp Go.Proofs.YtdkimdobcacpfaaDoor.Tr Go.Proofs.YtdkimdobcacpfaaDoor.Dv

/-- The rows of a plan: pages, counters, levels. -/
def plB (P : Nat) : List Nat := [P,plC P] ++ plLv P
/-- Where row j begins. -/
def plK (P j : Nat) : Nat := ((plB P).take j).sum
def plM (P : Nat) : Nat := (plLv P).length
theorem lvGo_pos : ∀ (f n : Nat),0 < n → ∀ y ∈ lvGo f n,1 ≤ y
  | 0,_,_,_,h => by cases h
  | f + 1,n,hn,y,h => by
    simp only [lvGo,List.mem_cons] at h
    rcases h with rfl | h
    · exact ceil_pos hn (by omega)
    · split at h
      · exact lvGo_pos f _ (by omega) y h
      · cases h
theorem plB_pos {P : Nat} (h : 1 ≤ P) : ∀ y ∈ plB P,1 ≤ y := by
  intro y hy
  rcases List.mem_append.1 hy with h1 | h1
  · simp only [List.mem_cons,List.not_mem_nil,or_false] at h1
    rcases h1 with rfl | rfl
    · exact h
    · exact plC_pos h
  · exact lvGo_pos _ _ (plC_pos h) y h1
theorem plB_sum (P : Nat) : (plB P).sum = plH P := by simp [plB,plH,plN];omega
theorem plB_len (P : Nat) : (plB P).length = plM P + 2 := by simp [plB,plM]
theorem plM_le (P : Nat) : plM P ≤ 4 := lvGo_len 4 _
theorem mem_le_sum : ∀ {l : List Nat} {y : Nat},y ∈ l → y ≤ l.sum
  | a::l,y,h => by
    simp only [List.sum_cons]
    rcases List.mem_cons.1 h with rfl | h
    · omega
    · have := mem_le_sum h;omega
theorem plH_le {P : Nat} (h : P ≤ 4096) : plH P ≤ 10000 := by
  have := plN_le h
  have := plC_le h
  unfold plH
  omega
theorem plB_le {P : Nat} (h : P ≤ 4096) : ∀ y ∈ plB P,y ≤ 100000 := fun y hy => by
  have h1 := mem_le_sum hy
  rw [plB_sum] at h1
  have := plH_le h
  omega
theorem plK_step {P j y : Nat} (h : (plB P)[j]? = some y) : plK P (j + 1) = plK P j + y := sum_take_step h
theorem plK_le (P j : Nat) : plK P j ≤ plH P := by
  have := sum_take_mono (plB P) (i := j) (j := max j (plB P).length) (by omega)
  rw [List.take_of_length_le (by omega : (plB P).length ≤ max j (plB P).length),plB_sum] at this
  exact this
/-- The blocks from page 0 to the top, the first j of them. -/
def plPt (P j : Nat) : List Int := (List.range j).map fun i => ((plK P (i + 1) : Nat) : Int)
theorem plPt_succ (P j : Nat) : plPt P (j + 1) = plPt P j ++ [((plK P (j + 1) : Nat) : Int)] := by
  simp [plPt,List.range_succ]
section
variable {w0 w : World} {lv : Value} {P b : Nat}
set_option maxRecDepth 100000 in
set_option maxHeartbeats 4000000 in
theorem planPath0 {H : Int} {bI Nn hd J s t : Int} (h1 : 1 ≤ P) (h2 : P ≤ 4096) (hH : H = (plH P : Nat)) (hL : RI w0 (nI (plLv P)) lv) :
    Calls Tryd.prog 80 #[.agg (plL P bI (plC P : Nat) lv Nn H hd J s t).toArray,.int .i64 0] w0 fun e w' => ∃ v,e = .returned (.tuple #[v,.int .i64 0]) ∧ Sat w0 [(blk v,sl 1 i64 (plPt P (plM P + 1)) 3 v)] w' := by
  have hS := Sat.refl w0
  subst hH
  obtain ⟨m,hm⟩ : ∃ m,plM P = m := ⟨_,rfl⟩
  have hm4 : m ≤ 4 := by rw [← hm];exact plM_le P
  obtain ⟨a,c,rfl,hll,-⟩ := hL.at
  have hnl : (nI (plLv P)).length = m := by rw [nI,List.length_map];exact hm
  rw [hnl] at hL hll ⊢
  rw [hm]
  have HM : Bx _ := ⟨hm⟩
  have HL : Bx _ := ⟨hL⟩
  have hbl : (plB P).length = m + 2 := by rw [plB_len,hm]
  have HBl : Bx _ := ⟨hbl⟩
  have hHl := plH_le h2
  clear hm hL hnl hbl
  obtain ⟨Hn,hHn⟩ : ∃ Hn,plH P = Hn := ⟨_,rfl⟩
  obtain ⟨Cn,hCn⟩ : ∃ Cn,plC P = Cn := ⟨_,rfl⟩
  have HHn : Bx _ := ⟨hHn⟩
  have HCn : Bx _ := ⟨hCn⟩
  rw [hHn,hCn]
  rw [hHn] at hHl
  clear hHn hCn
  have d1 : decide ((P : Int) ≤ 0) = false := decide_eq_false (by omega)
  have d1n : decide (P ≤ 0) = false := decide_eq_false (by omega)
  have d1e : decide (P = 0) = false := decide_eq_false (by omega)
  go_enter Tryd.func80,Tryd.ntmps80
  go_wp2_with (first | (refine load1 hS rfl rfl rfl rfl ?_;simp only [putW]) | (refine boxN hS rfl rfl rfl ?_;clear hS;intro mb w hS;simp only [putW]))
  obtain ⟨mp,rfl⟩ : ∃ mp,mp = mb := ⟨_,rfl⟩
  go_loopg [6,7,23] (m + 1) (fun g v at' i wr => ∃ j : Nat,j + g = m + 1 ∧ i = .int .i64 j ∧ at' = .int .i64 ((plK P j : Nat) : Int) ∧ Sat w0 ((blk v,sl 1 i64 (plPt P j) 3 v)::(mp,cells (plL P bI Cn (.slice a m c) Nn Hn hd J s t).toArray 60)::[]) wr)
  case atStart => exact ⟨0,by omega,rfl,rfl,hS.slNil 1 i64 3⟩
  case round =>
    clear hS
    obtain ⟨j,hjg,rfl,rfl,hS⟩ := hrel
    cases gk with
    | zero =>
      have hj : j = m + 1 := by omega
      subst hj
      go_wp2_with (refine load1 hS rfl rfl rfl rfl ?_;simp only [putW])
      go_ret2
      exact ⟨u6,rfl,hS.conv⟩
    | succ g =>
      have hjm : j ≤ m := by omega
      obtain ⟨y,hy⟩ : ∃ y,(plB P)[j]? = some y := ⟨_,List.getElem?_eq_getElem (by rw [HBl.out];omega)⟩
      obtain ⟨z,hz⟩ : ∃ z,(plB P)[j + 1]? = some z := ⟨_,List.getElem?_eq_getElem (by rw [HBl.out];omega)⟩
      have hy1 := plB_pos h1 y (List.mem_of_getElem? hy)
      have hz1 := plB_pos h1 z (List.mem_of_getElem? hz)
      obtain ⟨x,hx⟩ : ∃ x,plK P j = x := ⟨_,rfl⟩
      have hx1 : plK P (j + 1) = x + y := by rw [plK_step hy,hx]
      have hx2 : plK P (j + 2) = x + y + z := by rw [plK_step hz,hx1]
      have hle := plK_le P (j + 2)
      rw [hx2,HHn.out] at hle
      have hpt : Bx (plPt P (j + 1) = plPt P j ++ [((x + y : Nat) : Int)]) := ⟨by rw [plPt_succ,hx1]⟩
      have HX1 : Bx _ := ⟨hx1⟩
      have HY : Bx _ := ⟨hy⟩
      have HX : Bx (((plB P).take j).sum = x) := ⟨hx⟩
      have hne : ¬ ((x : Int) + 1 = (Hn : Int)) := by omega
      have hpl : (plPt P j).length ≤ 10 := by rw [plPt,List.length_map,List.length_range];omega
      have hr : Bx ((if ((x : Nat) : Int) + 1 = (Hn : Int) then Value.tuple #[.agg #[.int .i64 0,.int .i64 0],.int .i64 5] else .tuple #[.agg #[.int .i64 ((((((plB P).take j).sum) + y + (x - ((plB P).take j).sum) / fan j : Nat)) : Int),.int .i64 (((x - ((plB P).take j).sum) % fan j : Nat) : Int)],.int .i64 0]) = .tuple #[.agg #[.int .i64 ((x + y : Nat) : Int),.int .i64 0],.int .i64 0]) := ⟨by
        rw [if_neg hne,HX.out,Nat.sub_self,Nat.zero_div,Nat.zero_mod]
        rfl⟩
      rw [hx]
      clear hy hz hx hx1 hx2 hne
      go_wp2_with (first | (guard_target =~ Calls _ 91 _ _ _;refine Stopped.out ?_) | (refine loadAll hS rfl rfl rfl ?_ ?_;rfl;simp only [putW]))
      refine ⟨?_⟩
      refine Calls.mono (planParent_at (B := plB P) (L := nI (plLv P)) (j0 := j) (y0 := y) (k := x) rfl (HL.out.mono hS.base) (by rw [← HCn.out];rfl) (by rw [HBl.out];omega) (plB_le h2) HY.out (by rw [HX.out];exact Nat.le_refl _) (by rw [HX.out];omega) (by omega) (by omega)) ?_
      rw [hr.out]
      rintro _ w2 ⟨rfl,h3⟩
      replace hS := hS.frame h3
      clear h3
      simp only [List.nil_append] at hS
      simp only [putW]
      go_wp2_with (first | (refine buildSlice1 (c := #[.int .i64 ((x + y : Nat) : Int)]) hS rfl rfl rfl ?_ ?_ ?_ ?_;rfl;rfl;rfl;clear hS;intro mb w hS;simp only [putW]) | (guard_target =~ wpList _ _ _ (Oper.mk (some 38) _ _ _ _ _::_) _ _;refine Stopped.out ?_) | (refine load1 hS rfl rfl rfl rfl ?_;simp only [putW]) | (refine storeAll hS rfl rfl rfl rfl ?_ ?_ ?_ ?_;rfl;(focus (simp [Value.oneCell'];done));rfl;clear hS;intro w hS;try simp only [putW]) | (refine alloc hS rfl rfl ?_;clear hS;intro mb w hS;simp only [putW]))
      refine ⟨?_⟩
      refine append1 (f := i64) (n := 1) hS rfl rfl u6 rfl rfl ((x + y : Nat) : Int) rfl ?_ rfl ?_ ?_ ?_
      · intro u hu;rw [List.mem_singleton.1 hu];rfl
      · simp [maxLen];omega
      · omega
      clear hS
      intro v' w hS
      simp only [putW]
      rw [← hpt.out] at hS
      go_wp2_with (refine load1 hS rfl rfl rfl rfl ?_;simp only [putW])
      go_roundg g
      case measure => omega
      case rel => exact ⟨j + 1,by omega,by go_num,by rw [HX1.out];simp,hS.conv⟩
instance keyPl : KeyEnc Tryd.prog 3 encInt := encInt_ok Tryd.underlying3
def unV (_ : Unit) : Value := .agg #[]
/-- What is in the way of a page and its path, as a map's keys. -/
def plPs (P j : Nat) : List (Int × Unit) := ((0 : Int)::plPt P j).map fun k => (k,())
theorem plK_pos {P : Nat} (h : 1 ≤ P) (i : Nat) : 1 ≤ plK P (i + 1) := by
  have := sum_take_mono (plB P) (i := 1) (j := i + 1) (by omega)
  have e : ((plB P).take 1).sum = P := by simp [plB]
  unfold plK
  omega
theorem plK_lt {P i j : Nat} (h : 1 ≤ P) (hij : i < j) (hj : j ≤ plM P + 2) : plK P i < plK P j := by
  obtain ⟨y,hy⟩ : ∃ y,(plB P)[i]? = some y := ⟨_,List.getElem?_eq_getElem (by rw [plB_len];omega)⟩
  have h1 := plK_step hy
  have h2 := plB_pos h y (List.mem_of_getElem? hy)
  have h3 := sum_take_mono (plB P) (i := i + 1) (j := j) (by omega)
  unfold plK at *
  omega
theorem plPs_succ {P j : Nat} (h : 1 ≤ P) (hj : j + 1 ≤ plM P + 2) : mput (plPs P j) ((plK P (j + 1) : Nat) : Int) () = plPs P (j + 1) := by
  have hn : findL (plPs P j) ((plK P (j + 1) : Nat) : Int) 0 = none := by
    rw [findL_none]
    intro hm
    simp only [mkeys,plPs,List.map_map,List.mem_map] at hm
    obtain ⟨x,hx,he⟩ := hm
    have he : x = ((plK P (j + 1) : Nat) : Int) := he
    rcases List.mem_cons.1 hx with h0 | h0
    · have := plK_pos h j;omega
    · simp only [plPt,List.mem_map,List.mem_range] at h0
      obtain ⟨i,hi,rfl⟩ := h0
      have := plK_lt (i := i + 1) (j := j + 1) h (by omega) hj
      omega
  unfold mput
  rw [hn]
  simp [plPs,plPt_succ]
set_option maxRecDepth 100000 in
set_option maxHeartbeats 4000000 in
theorem planNeed0 {H : Int} {bI Nn hd J s t : Int} {va : Value} (h1 : 1 ≤ P) (h2 : P ≤ 4096) (hH : H = (plH P : Nat)) (hL : RI w0 (nI (plLv P)) lv) (hA : RI w0 [0] va) :
    Calls Tryd.prog 61 #[.agg (plL P bI (plC P : Nat) lv Nn H hd J s t).toArray,va] w0 fun e w' => e = .returned (.int .i64 ((plM P + 2 : Nat) : Int)) ∧ Sat w0 [] w' := by
  have hS := Sat.refl w0
  subst hH
  obtain ⟨m,hm⟩ : ∃ m,plM P = m := ⟨_,rfl⟩
  have hm4 : m ≤ 4 := by rw [← hm];exact plM_le P
  obtain ⟨a,c,rfl,-,-⟩ := hL.at
  obtain ⟨a2,c2,rfl,hal,hat⟩ := hA.at
  obtain ⟨ab,ao,rfl,hB⟩ := hat (by simp)
  have HL : Bx _ := ⟨hL⟩
  have HM : Bx _ := ⟨hm⟩
  rw [hm]
  clear hm hL hat hA
  go_enter Tryd.func61,Tryd.ntmps61
  go_wp2_with (first | (refine boxN (cs := (plL P bI (plC P : Nat) (.slice a (nI (plLv P)).length c) Nn (plH P : Nat) hd J s t).toArray) hS rfl rfl rfl ?_;clear hS;intro mp w hS;simp only [putW]) | (refine makeMap hS rfl rfl encInt  unV ?_;clear hS;intro mb w hS;simp only [putW]))
  obtain ⟨mm,rfl⟩ : ∃ mm,mm = mb := ⟨_,rfl⟩
  have hx0 : [(0 : Int)][0]? = some 0 := rfl
  have HPs : Bx (mput [] (0 : Int) () = plPs P 0) := ⟨rfl⟩
  have hpl : (plPt P (m + 1)).length = m + 1 := by rw [plPt,List.length_map,List.length_range]
  have HPl : Bx _ := ⟨hpl⟩
  have HPn : Bx ((plPs P (m + 1)).length = m + 2) := ⟨by simp [plPs,plPt]⟩
  clear hpl
  go_loopg [15] 1 (fun g i wr => (g = 1 ∧ i = .int .i64 0 ∧ Sat w0 ((mm,mapC encInt unV [])::(mp,cells (plL P bI (plC P : Nat) (.slice a (nI (plLv P)).length c) Nn (plH P : Nat) hd J s t).toArray 60)::[]) wr) ∨ (g = 0 ∧ i = .int .i64 1 ∧ Sat w0 ((mm,mapC encInt unV (plPs P (m + 1)))::[]) wr))
  case atStart => exact .inl ⟨rfl,rfl,hS⟩
  case round =>
    clear hS
    rcases hrel with ⟨hg,rfl,hS⟩ | ⟨hg,rfl,hS⟩
    · subst hg
      go_wp2_with (first | (refine loadB (f := i64) hS rfl rfl rfl hB 0 0 ?_ hx0 rfl ?_;omega;simp only [putW]) | (guard_target =~ Calls _ 80 _ _ _;refine Stopped.out ?_) | (refine loadAll hS rfl rfl rfl ?_ ?_;rfl;simp only [putW]))
      refine ⟨?_⟩
      refine Calls.mono (planPath0 h1 h2 rfl (HL.out.mono hS.base)) ?_
      rw [HM.out]
      rintro _ w2 ⟨v,rfl,h3⟩
      replace hS := hS.frame h3
      clear h3
      simp only [List.cons_append,List.nil_append] at hS
      simp only [putW]
      obtain ⟨q1,c1,hv1⟩ := shapeN hS HPl.out
      subst hv1
      go_wp2_with (refine mapUpdate (enc := encInt) (ve := unV) hS rfl rfl (0 : Int) () rfl rfl rfl ?_;clear hS;intro w hS;rw [HPs.out] at hS;try simp only [putW])

      go_loopg [32] (m + 1) (fun g i wr => ∃ j : Nat,j + g = m + 1 ∧ i = .int .i64 j ∧ Sat w0 ((mm,mapC encInt unV (plPs P j))::(blk (Value.slice q1 (m + 1) c1),sl 1 i64 (plPt P (m + 1)) 3 (Value.slice q1 (m + 1) c1))::[]) wr)
      case atStart => exact ⟨0,by omega,rfl,hS.conv⟩
      case round =>
        clear hS
        obtain ⟨j,hjg,rfl,hS⟩ := hrel
        cases gk with
        | zero =>
          have hj : j = m + 1 := by omega
          subst hj
          have d1 : decide (((m + 1 : Nat) : Int) < ((m + 1 : Nat) : Int)) = false := decide_eq_false (by omega)
          go_wp2_with (refine load1 hS rfl rfl rfl rfl ?_;simp only [putW])
          go_roundg 0
          case measure => omega
          case rel => exact .inr ⟨rfl,rfl,hS.conv⟩
        | succ g =>
          have hjm : j < m + 1 := by omega
          have d1 : decide ((j : Int) < ((m + 1 : Nat) : Int)) = true := decide_eq_true (by omega)
          obtain ⟨y,hy⟩ : ∃ y,(plPt P (m + 1))[j]? = some y := ⟨_,List.getElem?_eq_getElem (by rw [HPl.out];exact hjm)⟩
          have hy2 : y = ((plK P (j + 1) : Nat) : Int) := by
            simp only [plPt,List.getElem?_map,List.getElem?_range hjm,Option.map_some,Option.some.injEq] at hy
            exact hy.symm
          subst hy2
          have HY : Bx _ := ⟨hy⟩
          have HS : Bx (mput (plPs P j) ((plK P (j + 1) : Nat) : Int) () = plPs P (j + 1)) := ⟨plPs_succ h1 (by rw [HM.out];omega)⟩
          obtain ⟨gq,hqq,hcq,hS2⟩ := openS (hS.pull (blk (Value.slice q1 (m + 1) c1)) (X := sl 1 i64 (plPt P (m + 1)) 3 (Value.slice q1 (m + 1) c1))) HPl.out (by omega)
          subst hqq
          clear hS hy
          have hS := hS2
          clear hS2
          go_wp2_with (first | (refine loadS1 (v1 := Value.int .i64) hS rfl rfl rfl HY.out ?_;simp only [putW]) | (refine mapUpdate (enc := encInt) (ve := unV) hS rfl rfl ((plK P (j + 1) : Nat) : Int) () rfl rfl rfl ?_;clear hS;intro w hS;rw [HS.out] at hS;try simp only [putW]))
          go_roundg g
          case measure => omega
          case rel => exact ⟨j + 1,by omega,by go_num,(closeSlN (hS.pull gq (X := slc 1 i64 (plPt P (m + 1)) c1 3)) HPl.out).conv⟩
    · subst hg
      go_wp2_with (refine lenMap (enc := encInt) (ve := unV) (l := plPs P (m + 1)) hS rfl rfl rfl ?_;rw [HPn.out];simp only [putW])
      go_ret
      exact ⟨rfl,hS.nothing⟩
end
end Go.Proofs.YtdkimdobcacpfaaDoor
