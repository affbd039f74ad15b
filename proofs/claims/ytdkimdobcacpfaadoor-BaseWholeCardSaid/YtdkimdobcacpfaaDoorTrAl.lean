/-
  thimbleref18.All, Root.
  thimblelaw18.made.
  thimbleref18.Root; what is built above the pages of a plan.
-/
import Derived.Test.YtdkimdobcacpfaaDoorTrSt
import Derived.Test.YtdkimdobcacpfaaDoorTrBu
import Derived.Test.YtdkimdobcacpfaaDoorTrDi
import Derived.Test.YtdkimdobcacpfaaDoorJ23
import Derived.Test.YtdkimdobcacpfaaDoorSlB
import Derived.Test.YtdkimdobcacpfaaDoorSpPick
import Derived.Test.YtdkimdobcacpfaaDoorJRow
import Derived.Laws.BitsAllLaws
import Derived.Test.YtdkimdobcacpfaaDoorShEq
set_option linter.unusedSimpArgs false
set_option linter.unusedVariables false
namespace Go.Proofs.YtdkimdobcacpfaaDoor
open Go.RowKit Go.Proofs.YtdkimdobcacpfaaDoor.Sl Go.Proofs.YtdkimdobcacpfaaDoor.Sha Go.Proofs.YtdkimdobcacpfaaDoor.Jp Go.Proofs.YtdkimdobcacpfaaDoor.Tr

section
variable {w0 w : World} {va vb lv : Value} {X : List (Value × List Int)}
theorem putAt_set (A D : Row) (o j : Nat) (x : Int) (hx : D[j]? = some x) (hl : o + D.length ≤ A.length) : (putAt A o (D.take j)).set (o + j) x = putAt A o (D.take (j + 1)) := by
  obtain ⟨hj,he⟩ := List.getElem?_eq_some_iff.1 hx
  unfold putAt
  have e1 : (D.take j).length = j := by simp;omega
  have e2 : (D.take (j + 1)).length = j + 1 := by simp;omega
  have e3 : (A.take o ++ D.take j).length = o + j := by simp;omega
  rw [e1,e2,List.set_append_right _ _ (by omega),e3,Nat.sub_self,List.take_add_one,hx]
  obtain ⟨y,ys,hy⟩ : ∃ y ys,A.drop (o + j) = y::ys := by
    match h : A.drop (o + j) with
    | [] => have := congrArg List.length h;simp at this;omega
    | y::ys => exact ⟨y,ys,rfl⟩
  rw [hy]
  have hd : A.drop (o + (j + 1)) = ys := by
    rw [← Nat.add_assoc,← List.drop_drop,hy];rfl
  rw [hd]
  simp
theorem refParent_i {n1 N' k P C : Nat} {b N H hd J s t ki : Int} (hki : ki = (k : Int)) (hL : RI w0 (lvs n1 N') lv) (hP : P ≤ 100000) (hC : C ≤ 100000) (hn : n1 ≤ 100000) (hN : (N' = n1 ∧ n1 = 1) ∨ (N' = n1 + 1 ∧ 2 ≤ n1)) (hk : k < P + C + N') {v : Value} (hv : parV (parP P C n1 N' k) = v) :
    Calls Tryd.prog 42 #[.agg (plL P b C lv N H hd J s t).toArray,.int .i64 ki] w0 fun e w' => e = .returned v ∧ Sat w0 [] w' := by
  subst hki;subst hv
  exact refParent_any hL hP hC hn hN hk
theorem refDigest_i {k : Nat} {ki : Int} {A D : List Int} (hki : ki = (k : Int)) (hD : dig k A = D) (hA : RB w0 A va) (hl : A.length ≤ 10000) :
    Calls Tryd.prog 43 #[.int .i64 ki,va] w0 fun e w' => e = .returned (.agg (D.map u8v).toArray) ∧ Sat w0 [] w' := by
  subst hki
  exact refDigest_any hD hA hl
set_option maxRecDepth 100000 in
set_option maxHeartbeats 4000000 in
theorem refAll_any {P C n1 N : Nat} {b H hd J s t : Int} (hR : RR w0 X vb) (hL : RI w0 (lvs n1 N) lv) (hP : P ≤ 100000) (hC : X.length = C) (hC1 : C ≤ 10000) (hn : n1 ≤ 1000) (hN : (N = n1 ∧ n1 = 1) ∨ (N = n1 + 1 ∧ 2 ≤ n1)) (hrow : ∀ x ∈ X,x.2.length = 256) (hfit : C + 7 ≤ 8 * n1 + 7 ∧ n1 ≤ 8) :
    Calls Tryd.prog 17 #[.agg (plL P b C lv N H hd J s t).toArray,vb] w0 fun e w' => ∃ g Y cap,e = .returned (.slice (some ⟨g,0,none⟩) (C + N) cap) ∧ Y.map (·.2) = all dig P C n1 N (X.map (·.2)) (C + N) ∧ Sat w0 [(g,slc 1 rowF Y cap 48),(0,inn Y 5)] w' := by
  have hS := Sat.refl w0
  obtain ⟨a0,c0,hvb,hln,hat⟩ := hR.at
  subst hvb
  obtain ⟨bs,hbs⟩ : ∃ bs,X.map (·.2) = bs := ⟨_,rfl⟩
  have hbl : Bx (bs.length = C) := ⟨by rw [← hbs,← hC];simp⟩
  rw [hbs]
  have HB : Bx _ := ⟨hbs⟩
  have HW : Bx _ := ⟨hrow⟩
  have HX : Bx _ := ⟨hC⟩
  rw [hC]
  rw [hC] at hln
  clear hbs hrow hC
  have hbr : ∀ r ∈ bs,isRow r := fun r hr => by
    rw [← HB.out] at hr
    obtain ⟨x,hx,rfl⟩ := List.mem_map.1 hr
    exact ⟨HW.out x hx,(hR.all x hx).all⟩
  have HBR : Bx _ := ⟨hbr⟩
  clear hbr
  go_enter Tryd.func17,Tryd.ntmps17
  go_wp2_with (refine boxN hS rfl rfl rfl ?_;clear hS;intro mb w hS;simp only [putW])
  obtain ⟨mp,rfl⟩ : ∃ mp,mp = mb := ⟨_,rfl⟩
  go_loopw [5,6] (fun v i wr => ∃ (k : Nat) (Y : List (Value × List Int)),k ≤ C ∧ i = .int .i64 k ∧ Bx (Y.map (·.2) = bs.take k) ∧ Sat w0 ((blk v,sl 1 rowF Y 48 v)::(0,inn Y 5)::(mp,cells (plL P b C lv N H hd J s t).toArray 60)::[]) wr) (fun _ i _ => C - (intOf i).toNat)
  case atStart => exact ⟨0,[],Nat.zero_le _,rfl,⟨rfl⟩,(hS.innNil 0 5).slNil 1 rowF 48⟩
  case round =>
    clear hS
    obtain ⟨k,Y,hk,rfl,hY,hS⟩ := hrel
    have hYl : Y.length ≤ C := by have := congrArg List.length hY.out;simp at this;omega
    by_cases hlt : k < C
    · obtain ⟨⟨xv,xl⟩,hx⟩ : ∃ x,X[k]? = some x := ⟨_,List.getElem?_eq_getElem (by rw [HX.out];exact hlt)⟩
      have h256 : xl.length = 256 := HW.out _ (List.mem_of_getElem? hx)
      obtain ⟨bb,ob,rfl,hBb⟩ := hat (by intro e;subst e;simp at hx)
      have hxr := (hBb.2 k _ hx).1
      have hnext : Bx (bs.take (k + 1) = bs.take k ++ [xl]) := ⟨by rw [List.take_add_one,← HB.out,List.getElem?_map,hx];rfl⟩
      have hxl : xl.length ≤ 100000000000000 := by omega
      go_wp2_with (first | (refine loadB (f := rowF) hS rfl rfl rfl hBb k 0 ?_ hx rfl ?_;omega;simp only [putW]) | (guard_target =~ Calls _ 41 _ _ _;refine Stopped.out ?_))
      refine ⟨?_⟩
      (refine Calls.mono (copy_any (hxr.mono hS.base) hxl) ?_;rintro _ w2 ⟨vc,rfl,h2⟩;replace hS := hS.frame h2;clear h2;(try simp only [List.cons_append,List.nil_append] at hS);simp only [putW])
      obtain ⟨gc,cc,hvc,hS2⟩ := hS.slForm 256 h256 (by omega)
      subst hvc
      clear hS hxr
      have hS := hS2
      clear hS2
      go_wp2_with (first | (refine buildSlice1 (c := #[.slice (some ⟨gc,0,none⟩) 256 cc]) hS rfl rfl rfl ?_ ?_ ?_ ?_;rfl;rfl;rfl;clear hS;intro mb w hS;simp only [putW]) | (guard_target =~ wpList _ _ _ (Oper.mk (some 26) _ _ _ _ _::_) _ _;refine Stopped.out ?_))
      refine ⟨?_⟩
      refine append1 (f := rowF) (n := 1) hS rfl rfl u5 rfl rfl ((.slice (some ⟨gc,0,none⟩) 256 cc,xl) : Value × List Int) rfl ?_ rfl ?_ ?_ ?_
      · intro u hu;rw [List.mem_singleton.1 hu];rfl
      · simp [maxLen];omega
      · omega
      clear hS
      intro v' w hS
      simp only [putW]
      have hS2 := hS.innAdd (j := 0) (X := Y) (t := 5) (.slice (some ⟨gc,0,none⟩) 256 cc) rfl
      clear hS
      have hS := hS2
      clear hS2
      go_wp2_with (refine load1 hS rfl rfl rfl rfl ?_;simp only [putW])
      go_roundw
      case rel => exact ⟨k + 1,Y ++ [(.slice (some ⟨gc,0,none⟩) 256 cc,xl)],by omega,by go_num,⟨by rw [List.map_append,hY.out,hnext.out];rfl⟩,hS.conv⟩
      case measure => simp [intOf];omega
    · have hkC : k = C := by omega
      subst hkC
      have hY0 : Bx (Y.map (·.2) = bs) := ⟨by rw [hY.out,List.take_of_length_le (by rw [hbl.out];omega)]⟩
      clear hY
      go_wp2_with (refine load1 hS rfl rfl rfl rfl ?_;simp only [putW])
      go_loopw [5,7] (fun v i wr => ∃ (q : Nat) (Z : List (Value × List Int)),q ≤ N ∧ i = .int .i64 q ∧ Bx (Z.map (·.2) = bs ++ List.replicate q z256) ∧ Sat w0 ((blk v,sl 1 rowF Z 48 v)::(0,inn Z 5)::(mp,cells (plL P b k lv N H hd J s t).toArray 60)::[]) wr) (fun _ i _ => N - (intOf i).toNat)
      case atStart => exact ⟨0,Y,Nat.zero_le _,rfl,⟨by rw [hY0.out];simp⟩,hS⟩
      case round =>
        clear hS hY0 hYl
        obtain ⟨q,Z,hq,rfl,hZ,hS⟩ := hrel
        have hZl : Z.length = k + q := by have := congrArg List.length hZ.out;rw [List.length_append,hbl.out] at this;simpa using this
        have HZl : Bx _ := ⟨hZl⟩
        have hZl2 : Z.length ≤ 20000 := by omega
        clear hZl
        by_cases hqN : q < N
        · go_wp2_with (first | (guard_target =~ wpList _ _ _ (Oper.mk (some 34) _ _ _ _ _::_) _ _;refine Stopped.out ?_) | (refine load1 hS rfl rfl rfl rfl ?_;simp only [putW]))
          refine ⟨?_⟩
          refine makeN hS rfl rfl 256 rfl rfl by8 (0 : Int) rfl ?_ ?_ ?_
          · omega
          · simp [maxLen]
          clear hS
          intro m1 w hS
          simp only [putW]
          go_wp2_with (first | (refine buildSlice1 (c := #[.slice (some ⟨m1,0,none⟩) 256 256]) hS rfl rfl rfl ?_ ?_ ?_ ?_;rfl;rfl;rfl;clear hS;intro mb w hS;simp only [putW]) | (guard_target =~ wpList _ _ _ (Oper.mk (some 36) _ _ _ _ _::_) _ _;refine Stopped.out ?_))
          refine ⟨?_⟩
          refine append1 (f := rowF) (n := 1) hS rfl rfl u5 rfl rfl ((.slice (some ⟨m1,0,none⟩) 256 256,z256) : Value × List Int) rfl ?_ rfl ?_ ?_ ?_
          · intro u hu;rw [List.mem_singleton.1 hu];rfl
          · simp [maxLen];omega
          · omega
          clear hS
          intro v' w hS
          simp only [putW]
          go_wp2_with (refine load1 hS rfl rfl rfl rfl ?_;simp only [putW])
          go_roundw
          case rel =>
            refine ⟨q + 1,Z ++ [((.slice (some ⟨m1,0,none⟩) 256 256,z256) : Value × List Int)],by omega,by go_num,⟨by rw [List.map_append,hZ.out,List.replicate_succ',← List.append_assoc];rfl⟩,?_⟩
            have h1 := (hS.pull m1).slOfSlc
            rw [show (List.replicate 256 (0 : Int)).length = 256 from List.length_replicate,show List.replicate 256 (0 : Int) = z256 from rfl] at h1
            exact (h1.innAdd (j := 0) (X := Z) (t := 5) (.slice (some ⟨m1,0,none⟩) 256 256) rfl).conv
          case measure => simp [intOf];omega
        · have hqe : q = N := by omega
          subst hqe
          have hall0 : Bx (Z.map (·.2) = all dig P k n1 q bs 0) := ⟨by rw [hZ.out];rfl⟩
          obtain ⟨g,cap,hv,hS2⟩ := hS.slFormC (k + q) HZl.out (by omega)
          subst hv
          clear hS hZ
          have hS := hS2
          clear hS2
          go_wp2_with (refine load1 hS rfl rfl rfl rfl ?_;simp only [putW])
          go_loopw [8] (fun i wr => ∃ (j : Nat) (Y : List (Value × List Int)),j ≤ k + q ∧ i = .int .i64 j ∧ Bx (Y.map (·.2) = all dig P k n1 q bs j) ∧ Sat w0 ((g,slc 1 rowF Y cap 48)::(0,inn Y 5)::(mp,cells (plL P b k lv q H hd J s t).toArray 60)::[]) wr) (fun i _ => k + q - (intOf i).toNat)
          case atStart => exact ⟨0,Z,Nat.zero_le _,rfl,hall0,hS⟩
          case round =>
            clear hS hall0 HZl hZl2
            obtain ⟨j,Y,hj,rfl,hY,hS⟩ := hrel
            have HYl : Bx (Y.length = k + q) := ⟨by have := congrArg List.length hY.out;rw [all_len,hbl.out] at this;simpa using this⟩
            by_cases hlt : j < k + q
            · have hpar : parP P k n1 q (P + j) = (par k n1 q j).map fun x => (P + x.1,x.2) := by rw [parP,if_neg (by omega),Nat.add_sub_cancel_left]
              rcases hp : par k n1 q j with _ | ⟨u,t'⟩
              · have hpv : parV (parP P k n1 q (P + j)) = .tuple #[.agg #[.int .i64 0,.int .i64 0],.int .i64 5] := by rw [hpar,hp];rfl
                have hnext : Bx (all dig P k n1 q bs (j + 1) = all dig P k n1 q bs j) := ⟨by rw [all,allStep,hp]⟩
                have Hpv : Bx _ := ⟨hpv⟩
                clear hpv hp hpar
                go_wp2_with (first | (guard_target =~ Calls _ 42 _ _ _;refine Stopped.out ?_) | (refine load1 hS rfl rfl rfl rfl ?_;simp only [putW]) | (refine loadAll hS rfl rfl rfl ?_ ?_;rfl;simp only [putW]))
                refine ⟨?_⟩
                (refine Calls.mono (refParent_i (k := P + j) (by omega) (hL.mono hS.base) hP (by omega) (by omega) hN (by omega) Hpv.out) ?_;rintro _ w2 ⟨rfl,h2⟩;replace hS := hS.frame h2;clear h2;(try simp only [List.cons_append,List.nil_append] at hS);simp only [putW])
                go_wp2_with (first | (refine storeAll hS rfl rfl rfl rfl ?_ ?_ ?_ ?_;rfl;(focus (simp [Value.oneCell'];done));rfl;clear hS;intro w hS;try simp only [putW]) | (refine alloc hS rfl rfl ?_;clear hS;intro mb w hS;simp only [putW]))
                go_roundw
                case rel => exact ⟨j + 1,Y,by omega,by go_num,⟨by rw [hY.out,hnext.out]⟩,hS.conv⟩
                case measure => simp [intOf];omega
              · have hpv : parV (parP P k n1 q (P + j)) = .tuple #[.agg #[.int .i64 ((P + u : Nat) : Int),.int .i64 (t' : Int)],.int .i64 0] := by rw [hpar,hp];rfl
                have hlu := par_lt hp
                have ht8 : t' < 8 := hlu.2.2.2.1
                have hu : u < k + q := by
                  rw [hlu.2.2.1]
                  have := hlu.2.1
                  have := hlu.2.2.2.2
                  split <;> omega
                obtain ⟨⟨rj,Aj⟩,hyj⟩ : ∃ y,Y[j]? = some y := ⟨_,List.getElem?_eq_getElem (by rw [HYl.out];exact hlt)⟩
                have hrows := all_rows dig_len' dig_okB P k n1 q bs HBR.out j
                have hAj : isRow Aj := hrows Aj (by rw [← hY.out];exact List.mem_map_of_mem (f := fun x : Value × List Int => x.2) (List.mem_of_getElem? hyj))
                obtain ⟨D,hD⟩ : ∃ D,dig (P + j) Aj = D := ⟨_,rfl⟩
                have hdl : Bx (D.length = 32) := ⟨by rw [← hD];exact dig_len' _ _⟩
                have hgd : (all dig P k n1 q bs j).getD j [] = Aj := by rw [← hY.out];exact mapGet hyj
                obtain ⟨⟨rv,A⟩,hyu⟩ : ∃ y,Y[u]? = some y := ⟨_,List.getElem?_eq_getElem (by rw [HYl.out];exact hu)⟩
                have hAr : isRow A := hrows A (by rw [← hY.out];exact List.mem_map_of_mem (f := fun x : Value × List Int => x.2) (List.mem_of_getElem? hyu))
                have hau : (all dig P k n1 q bs j)[u]? = some A := by rw [← hY.out];simp [hyu]
                have hnext : Bx (all dig P k n1 q bs (j + 1) = (all dig P k n1 q bs j).set u (putAt A (32 * t') D)) := ⟨by
                  rw [all,allStep,hp]
                  show List.modify _ u _ = _
                  rw [modify_set hau,hgd,hD]⟩
                have Hpv : Bx _ := ⟨hpv⟩
                have HD : Bx _ := ⟨hD⟩
                have HAj : Bx _ := ⟨hAj⟩
                have hAjl : Aj.length ≤ 10000 := by rw [hAj.1];omega
                have HAr : Bx _ := ⟨hAr⟩
                clear hpv hp hpar hrows hAj hD hgd hAr hau hlu
                go_wp2_with (first | (guard_target =~ Calls _ 42 _ _ _;refine Stopped.out ?_) | (refine load1 hS rfl rfl rfl rfl ?_;simp only [putW]) | (refine loadAll hS rfl rfl rfl ?_ ?_;rfl;simp only [putW]))
                refine ⟨?_⟩
                (refine Calls.mono (refParent_i (k := P + j) (by omega) (hL.mono hS.base) hP (by omega) (by omega) hN (by omega) Hpv.out) ?_;rintro _ w2 ⟨rfl,h2⟩;replace hS := hS.frame h2;clear h2;(try simp only [List.cons_append,List.nil_append] at hS);simp only [putW])
                go_upto_region 15 with (first | (refine alloc hS rfl rfl ?_;clear hS;intro m9 w hS;simp only [putW]) | (refine storeAll hS rfl rfl rfl rfl ?_ ?_ ?_ ?_;rfl;(focus (simp [Value.oneCell'];done));rfl;clear hS;intro w hS;try simp only [putW]))
                go_cut [11] from 54 to 62 (fun p wc => ∃ md : Nat,p = .pointer (some ⟨md,0,none⟩) ∧ Sat w0 ((md,cells (D.map u8v).toArray 26)::(m9,cells #[.int .i64 ((P : Int) + (u : Int)),.int .i64 (t' : Int)] 105)::(g,slc 1 rowF Y cap 48)::(0,inn Y 5)::(mp,cells (plL P b k lv q H hd J s t).toArray 60)::[]) wc)
                case first =>
                  replace hS := hS.conv (S' := (m9,cells #[.int .i64 ((P : Int) + (u : Int)),.int .i64 (t' : Int)] 105)::(g,slc 1 rowF Y cap 48)::(0,inn Y 5)::(mp,cells (plL P b k lv q H hd J s t).toArray 60)::[])
                  (refine wp_region_held (S := fun w' => Sat w0 ((m9,cells #[.int .i64 ((P : Int) + (u : Int)),.int .i64 (t' : Int)] 105)::(g,slc 1 rowF Y cap 48)::(0,inn Y 5)::(mp,cells (plL P b k lv q H hd J s t).toArray 60)::[]) w') (by kernel_rfl) ?_;replace hS := hS.drew;(apply takeIf (i := 0) rfl (by kernel_rfl) (fun _ _ _ h => h);(focus (apply yRun rfl;intro w;first | (go_simp;done) | (go_simp;rfl)));(focus (exact hS.conv));simp only [putW]);(refine takeIf (i := 1) rfl (by kernel_rfl) (fun _ _ _ h => h) (yLoad1 (fun _ h => h) rfl rfl rfl rfl) hS.conv ?_;simp only [putW]);(refine takeIf (i := 2) rfl (by kernel_rfl) (fun _ _ _ h => h) (yMove rfl rfl rfl) hS.conv ?_;simp only [evW,putW]);(apply takeIf (i := 3) rfl (by kernel_rfl) (fun _ _ _ h => h);(focus (apply yRun rfl;intro w;first | (go_simp;done) | (go_simp;rfl)));(focus (exact hS.conv));simp only [putW]);(refine takeIf (i := 4) rfl (by kernel_rfl) (fun _ _ _ h => h) (yMove rfl rfl rfl) hS.conv ?_;simp only [evW,putW]);(refine takeIf (i := 5) rfl (by kernel_rfl) (fun _ _ _ h => h) (yMove rfl rfl rfl) hS.conv ?_;simp only [evW,putW]);(apply takeIf (i := 6) rfl (by kernel_rfl) (fun _ _ _ h => h);(focus (apply yRun rfl;intro w;first | (go_simp;done) | (go_simp;rfl)));(focus (exact hS.conv));simp only [putW]);(refine takeIf (i := 7) rfl (by kernel_rfl) (fun _ _ _ h => h) (yLoadS (fun _ h => h) rfl rfl rfl j 0 (by omega) hyj rfl (by omega)) hS.conv ?_;simp only [putW]);refine wpAnyH_all (rs := [8,9]) (by kernel_rfl) (by simp) ?_;intro i hi;simp only [List.mem_cons,List.not_mem_nil,or_false] at hi;rcases hi with rfl | rfl;(focus (refine wpOp_of_list rfl ?_;go_wp2_with (go_at_call 43;refine Calls.mono (refDigest_i (k := P + j) (by omega) HD.out ((hS.pull 0 (X := inn Y 5)).innReads (List.mem_of_getElem? hyj) HAj.out.2) hAjl) ?_;rintro _ w2 ⟨rfl,h2⟩;replace hS := hS.frame h2;clear h2;(try simp only [List.cons_append,List.nil_append] at hS);simp only [putW]);refine ⟨rfl,hS.conv,?_⟩;refine wpAnyH_all (rs := [9]) (by kernel_rfl) (by simp) ?_;intro i hi;simp only [List.mem_cons,List.not_mem_nil,or_false] at hi;subst hi;refine wpOp_of_list rfl ?_;go_wp2_with (refine allocA (t := 26) (vv := u8v) hS rfl rfl (List.replicate 32 0) zeros32 ?_;clear hS;intro md w hS;simp only [putW]);refine ⟨rfl,hS.conv,?_⟩;refine wpAnyH_all (rs := [10]) (by kernel_rfl) (by simp) ?_;intro i hi;simp only [List.mem_cons,List.not_mem_nil,or_false] at hi;subst hi;refine wpOp_of_list rfl ?_;go_wp2_with (refine storeAllA (vv := u8v) hS rfl rfl rfl D rfl hdl.out (fun _ _ => rfl) (by simp) ?_;clear hS;intro w hS;try simp only [putW]);refine ⟨rfl,hS.conv,?_⟩;refine wpAnyH_done (by kernel_rfl) ?_ _;go_wp2_with (refine load1 hS rfl rfl rfl rfl ?_;simp only [putW]);go_meet;case rel => exact ⟨_,rfl,hS.conv⟩));(focus (refine wpOp_of_list rfl ?_;go_wp2_with (refine allocA (t := 26) (vv := u8v) hS rfl rfl (List.replicate 32 0) zeros32 ?_;clear hS;intro md w hS;simp only [putW]);refine ⟨rfl,hS.conv,?_⟩;refine wpAnyH_all (rs := [8]) (by kernel_rfl) (by simp) ?_;intro i hi;simp only [List.mem_cons,List.not_mem_nil,or_false] at hi;subst hi;refine wpOp_of_list rfl ?_;go_wp2_with (go_at_call 43;refine Calls.mono (refDigest_i (k := P + j) (by omega) HD.out ((hS.pull 0 (X := inn Y 5)).innReads (List.mem_of_getElem? hyj) HAj.out.2) hAjl) ?_;rintro _ w2 ⟨rfl,h2⟩;replace hS := hS.frame h2;clear h2;(try simp only [List.cons_append,List.nil_append] at hS);simp only [putW]);refine ⟨rfl,hS.conv,?_⟩;refine wpAnyH_all (rs := [10]) (by kernel_rfl) (by simp) ?_;intro i hi;simp only [List.mem_cons,List.not_mem_nil,or_false] at hi;subst hi;refine wpOp_of_list rfl ?_;go_wp2_with (refine storeAllA (vv := u8v) hS rfl rfl rfl D rfl hdl.out (fun _ _ => rfl) (by simp) ?_;clear hS;intro w hS;try simp only [putW]);refine ⟨rfl,hS.conv,?_⟩;refine wpAnyH_done (by kernel_rfl) ?_ _;go_wp2_with (refine load1 hS rfl rfl rfl rfl ?_;simp only [putW]);go_meet;case rel => exact ⟨_,rfl,hS.conv⟩)))
                case rest =>
                  clear hS
                  obtain ⟨md,rfl,hS⟩ := hcut
                  have hS3 := hS.rowAt (j := 0) hyu
                  obtain ⟨ga,ca,hrv,hS4⟩ := hS3.slFormC 256 HAr.out.1 (by omega)
                  subst hrv
                  have hyB : Bx _ := ⟨hyu⟩
                  clear hS hS3 hyj hyu
                  have hS := hS4
                  clear hS4
                  go_wp2_with (refine load1 hS rfl rfl rfl rfl ?_;simp only [putW])
                  go_loopw [12] (fun i wr => ∃ j2 : Nat,j2 ≤ 32 ∧ i = .int .i64 j2 ∧ Sat w0 ((ga,slc 1 by8 (putAt A (32 * t') (D.take j2)) ca 5)::(0,inn (Y.take u ++ Y.drop (u + 1)) 5)::(md,cells (D.map u8v).toArray 26)::(m9,cells #[.int .i64 ((P : Int) + (u : Int)),.int .i64 (t' : Int)] 105)::(g,slc 1 rowF Y cap 48)::(mp,cells (plL P b k lv q H hd J s t).toArray 60)::[]) wr) (fun i _ => 32 - (intOf i).toNat)
                  case atStart =>
                    refine ⟨0,by omega,rfl,?_⟩
                    rw [show putAt A (32 * t') (D.take 0) = A by simp [putAt]]
                    exact hS.conv
                  case round =>
                    clear hS
                    obtain ⟨j2,hj2,rfl,hS⟩ := hrel
                    by_cases hl2 : j2 < 32
                    · obtain ⟨x,hx⟩ : ∃ x,D[j2]? = some x := ⟨_,List.getElem?_eq_getElem (by rw [hdl.out];exact hl2)⟩
                      have hset := putAt_set A D (32 * t') j2 x hx (by rw [hdl.out,HAr.out.1];omega)
                      have hBl : 256 ≤ (putAt A (32 * t') (D.take j2)).length := by rw [putAt_len (by rw [List.length_take,hdl.out,HAr.out.1];omega),HAr.out.1];omega
                      obtain ⟨B2,hB2⟩ : ∃ B2,putAt A (32 * t') (D.take (j2 + 1)) = B2 := ⟨_,rfl⟩
                      rw [hB2] at hset
                      have HB2 : Bx _ := ⟨hB2⟩
                      clear hB2
                      obtain ⟨B,hB⟩ : ∃ B,putAt A (32 * t') (D.take j2) = B := ⟨_,rfl⟩
                      rw [hB] at hset hBl hS
                      have Hset : Bx _ := ⟨hset⟩
                      clear hset hB
                      go_wp2_with (refine load1 hS rfl rfl rfl rfl ?_;simp only [putW])
                      (refine region_upd ga (slc 1 by8 B2 ca 5) 17 hS (by kernel_rfl) (by kernel_rfl) (by kernel_rfl) (by kernel_rfl) ?_;clear hS;(repeat (first | (apply one_dep rfl;(focus (intro w hS;go_wp2_with (first | (refine loadS (f := rowF) hS rfl rfl rfl u 0 ?_ hyB.out rfl ?_ ?_;omega;omega;simp only [putW]) | (refine loadAi (vv := u8v) (l := D) hS rfl rfl rfl (j2) (hx) ?_ ?_;(focus (omega));simp only [putW]) | (refine load1 hS rfl rfl rfl rfl ?_;simp only [putW]));exact ⟨rfl,rfl,hS⟩));simp only [putW]) | (refine one_here rfl (v := undef) ?_ ?_;(focus (intro w hS;go_wp2_with ((refine storeS1 (v1 := Value.int .u8) hS rfl rfl rfl x rfl rfl ?_ ?_;(focus (omega));clear hS;intro w hS;try simp only [putW]);rw [Hset.out] at hS);(exact ⟨rfl,rfl,hS⟩)));simp only [putW])));refine one_nil ?_;intro w hS)
                      go_wp2_with (refine load1 hS rfl rfl rfl rfl ?_;simp only [putW])
                      go_roundw
                      case rel => exact ⟨j2 + 1,by omega,by go_num,by rw [HB2.out];exact hS.conv⟩
                      case measure => simp [intOf];omega
                    · have h32 : j2 = 32 := by omega
                      subst h32
                      rw [show D.take 32 = D from List.take_of_length_le (by rw [hdl.out];omega)] at hS
                      have hl3 : (putAt A (32 * t') D).length = 256 := by rw [putAt_len (by rw [hdl.out,HAr.out.1];omega)];exact HAr.out.1
                      replace hS := hS.slOfSlc
                      rw [hl3] at hS
                      replace hS := (hS.rowBack (v := Value.slice (some ⟨ga,0,none⟩) 256 ca) (B := putAt A (32 * t') D) (j := 0) rfl hyB.out)
                      go_wp2_with (refine load1 hS rfl rfl rfl rfl ?_;simp only [putW])
                      go_roundw
                      case rel =>
                        refine ⟨j + 1,Y.set u (Value.slice (some ⟨ga,0,none⟩) 256 ca,putAt A (32 * t') D),by omega,by go_num,⟨by rw [hnext.out,List.map_set,hY.out]⟩,?_⟩
                        have h1 := (hS.pull g).turn (Y := slc 1 rowF (Y.set u (Value.slice (some ⟨ga,0,none⟩) 256 ca,putAt A (32 * t') D)) cap 48) (b' := g) (slcSetSame hyB.out)
                        exact h1.conv
                      case measure => simp [intOf];omega
            · have hje : j = k + q := by omega
              subst hje
              go_wp2_with (refine load1 hS rfl rfl rfl rfl ?_;simp only [putW])
              go_ret
              exact ⟨g,Y,cap,rfl,hY.out,hS.conv⟩
end
end Go.Proofs.YtdkimdobcacpfaaDoor
namespace Go.Proofs.YtdkimdobcacpfaaDoor
open Go.RowKit Go.Proofs.YtdkimdobcacpfaaDoor.Sl Go.Proofs.YtdkimdobcacpfaaDoor.Jp Go.Proofs.YtdkimdobcacpfaaDoor.Tr

section
variable {w0 w : World} {S : List Chunk} {va vb vf lv : Value} {X : List (Value × List Int)}
end
end Go.Proofs.YtdkimdobcacpfaaDoor
namespace Go.Proofs.YtdkimdobcacpfaaDoor
open Go.RowKit Go.Proofs.YtdkimdobcacpfaaDoor.Sl Go.Proofs.YtdkimdobcacpfaaDoor.Sha Go.Proofs.YtdkimdobcacpfaaDoor.Jp Go.Proofs.YtdkimdobcacpfaaDoor.Tr

/-- How many levels of nodes. -/
def cM (P : Nat) : Nat := (lvs (cL P) (cN P)).length
section
variable {w0 w : World} {va vb lv : Value} {X : List (Value × List Int)}
theorem cM_is {P : Nat} (h1 : 1 ≤ P) (h3 : P ≤ 300) : (cM P = 1 ∧ cL P = 1 ∧ cN P = 1) ∨ (cM P = 2 ∧ 2 ≤ cL P ∧ cL P ≤ 3 ∧ cN P = cL P + 1) := by
  have h := cN_or h1
  have := (c_le h3).2
  unfold cM lvs
  rcases h with ⟨h2,h4⟩ | ⟨h2,h4⟩
  · rw [if_pos h2];left;exact ⟨rfl,h4,by omega⟩
  · rw [if_neg (by omega)];right;exact ⟨rfl,h4,by omega,h2⟩
/-- The document's nodes are the program's; how great all is. -/
theorem built {P : Nat} (h1 : 1 ≤ P) (h3 : P ≤ 300) {bs : List Row} (hC : bs.length = cC P) :
    (∀ k,k ≤ cM P → (stB dig P bs k).1 ≤ 400000 ∧ (stB dig P bs k).2.1.length ≤ 1000 ∧ (stB dig P bs k).2.2.length ≤ 100000) ∧
    all dig P (cC P) (cL P) (cN P) bs (cC P + cN P) = bs ++ (stB dig P bs (cM P)).2.2 ∧ (stB dig P bs (cM P)).2.1.length = 1 ∧ (stB dig P bs (cM P)).1 + 1 = P + cC P + cN P ∧
    (stB dig P bs (cM P)).2.2.getD (cN P - 1) [] = (stB dig P bs (cM P)).2.1.getD 0 [] ∧ (stB dig P bs (cM P)).2.2.length = cN P := by
  have hc := c_le h3
  have hm := cM_is h1 h3
  have hN : cN P = cL P + (cM P - 1) := by omega
  have h := all_is (d := dig) P (cC P) (cL P) (cM P) bs hC rfl (by omega)
  rw [← hN] at h
  obtain ⟨a1,a2,a3,a4,a5⟩ := h
  refine ⟨fun k hk => ?_,a1,a2,?_,a4,a5⟩
  · have l0 : (stB dig P bs 0).2.1.length = cC P := hC
    have l1 : (stB dig P bs 1).2.1.length = cL P := by
      show (ab dig _ _ _).length = _
      rw [ab_len,l0];rfl
    match k,hk with
    | 0,_ => exact ⟨by show P ≤ _;omega,by rw [l0];omega,by show 0 ≤ _;omega⟩
    | 1,_ => exact ⟨by show P + (stB dig P bs 0).2.1.length ≤ _;rw [l0];omega,by rw [l1];omega,by show ([] ++ (stB dig P bs 1).2.1).length ≤ _;rw [List.nil_append,l1];omega⟩
    | 2,h2 =>
      have e : cM P = 2 := by omega
      rw [← e]
      exact ⟨by rw [a3];split <;> omega,by rw [a2];omega,by rw [a5];omega⟩
    | k + 3,h2 => omega
  · rw [a3]
    rcases hm with ⟨e1,e2,e3⟩ | ⟨e1,e2,e3,e4⟩
    · rw [if_pos e1];omega
    · rw [if_neg (by omega)];omega
set_option maxRecDepth 100000 in
set_option maxHeartbeats 1000000 in
theorem refRoot_any {k n : Nat} {P b C N H J s t hd : Int} {D A : List Int} {av : Value} (hR : RR w0 X va) (hn : X.length = n + 1) (hx : X[n]? = some (av,A)) (hH : hd = k + 1) (hk : k ≤ 1000000) (hD : dig k A = D) (hl : A.length ≤ 10000) :
    Calls Tryd.prog 18 #[.agg (plL P b C lv N hd H J s t).toArray,va] w0 fun e w' => e = .returned (.agg (D.map u8v).toArray) ∧ Sat w0 [] w' := by
  have hS := Sat.refl w0
  obtain ⟨a,c,rfl,hlx,hat⟩ := hR.at
  obtain ⟨bb,ob,rfl,hB⟩ := hat (by intro e;subst e;simp at hx)
  have hdl : Bx (D.length = 32) := ⟨by rw [← hD];exact dig_len' _ _⟩
  have HD : Bx _ := ⟨hD⟩
  have hr0 := (hB.2 n _ hx).1
  clear hR hat hD
  rw [hn]
  rw [hn] at hlx
  clear hn
  subst hH
  go_enter Tryd.func18,Tryd.ntmps18
  go_wp2_with (first | (refine allocA (t := 26) (vv := u8v) hS rfl rfl (List.replicate 32 0) zeros32 ?_;clear hS;intro mo w hS;simp only [putW]) | (refine boxN hS rfl rfl rfl ?_;clear hS;intro mb w hS;simp only [putW]))
  (refine region_upd mo (cells (D.map u8v).toArray 26) 10 hS (by kernel_rfl) (by kernel_rfl) (by kernel_rfl) (by kernel_rfl) ?_;clear hS;(repeat (first | (apply one_dep rfl;(focus (intro w hS;go_wp2_with (first | (refine loadB (f := rowF) hS rfl rfl rfl hB n 0 ?_ hx rfl ?_;omega;simp only [putW]) | (go_at_call 43;refine Calls.mono (refDigest_i (k := k) (by omega) HD.out (hr0.mono hS.base) hl) ?_;rintro _ w2 ⟨rfl,h2⟩;replace hS := hS.frame h2;clear h2;(try simp only [List.cons_append,List.nil_append] at hS);simp only [putW]) | (refine load1 hS rfl rfl rfl rfl ?_;simp only [putW]));exact ⟨rfl,rfl,hS⟩));simp only [putW]) | (refine one_here rfl (v := undef) ?_ ?_;(focus (intro w hS;go_wp2_with (refine storeAllA (vv := u8v) hS rfl rfl rfl D rfl hdl.out (fun _ _ => rfl) (by simp) ?_;clear hS;intro w hS;try simp only [putW]);(exact ⟨rfl,rfl,hS⟩)));simp only [putW])));refine one_nil ?_;intro w hS)
  go_wp2_with (refine load1 hS rfl rfl rfl rfl ?_;simp only [putW])
  have hr := run_loadAll (P := Tryd.prog) hS mo 26 (by simpa using hdl.out)
  refine bodyPost_ret (v := .agg (D.map u8v).toArray) (by simp [results,Tryd.results18,asAddr,hr]) rfl ⟨rfl,hS.nothing⟩
end
end Go.Proofs.YtdkimdobcacpfaaDoor
