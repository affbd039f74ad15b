/-
  thimbleref03.Of: the document's digest.
-/
import Derived.Test.YtdkimdobcacpfaaDoorShA
import Derived.Test.YtdkimdobcacpfaaDoorSlB
import Derived.BigFrame
set_option linter.unusedSimpArgs false
set_option linter.unusedVariables false
namespace Go.Proofs.YtdkimdobcacpfaaDoor
open Go.RowKit Go.Proofs.YtdkimdobcacpfaaDoor.Sl Go.Proofs.YtdkimdobcacpfaaDoor.Sha Go.Proofs.YtdkimdobcacpfaaDoor.Jp

theorem zeros8 : (#[.int .u32 0,.int .u32 0,.int .u32 0,.int .u32 0,.int .u32 0,.int .u32 0,.int .u32 0,.int .u32 0] : Array Value) = ((List.replicate 8 (0 : Int)).map u32v).toArray := by simp [List.replicate,u32v]
section
variable {w0 : World} {A : List Int} {va : Value}
set_option maxRecDepth 100000 in
set_option maxHeartbeats 10000000 in
theorem refOf_any (ha : RB w0 A va) (hb : A.length ≤ 100000000) : Calls Tryd.prog 69 #[va] w0 fun e w' => e = .returned (.agg ((shaF A).map u8v).toArray) ∧ Sat w0 [] w' := by
  have hS := Sat.refl w0
  have hAB := ha.all
  obtain ⟨P,hP⟩ : ∃ P,pad A = P := ⟨_,rfl⟩
  have hPl : ∃ nb,P.length = 64 * nb ∧ nb ≤ 2000000 := by
    have hz : (pad A).length = A.length + 1 + zc A.length + 8 := by simp [pad];omega
    refine ⟨P.length / 64,?_,?_⟩ <;> rw [← hP,hz] <;> unfold zc <;> omega
  obtain ⟨nb,hPl,hnb⟩ := hPl
  have hPB : Bx (∀ x ∈ P,okByte x) := ⟨by rw [← hP];exact pad_byte hAB⟩
  have HA : Bx _ := ⟨ha⟩
  have HP : Bx _ := ⟨hP⟩
  have HPl : Bx _ := ⟨hPl⟩
  clear hAB ha hP hPl
  go_enter Tryd.func69,Tryd.ntmps69
  go_wp2_with (first | (refine allocA (t := 26) (vv := u8v) hS rfl rfl (List.replicate 32 0) zeros32 ?_;clear hS;intro mo w hS;simp only [putW]) | (refine allocA (t := 153) (vv := u32v) hS rfl rfl (List.replicate 64 0) zeros64 ?_;clear hS;intro mk w hS;simp only [putW]) | (refine allocA (t := 155) (vv := u32v) hS rfl rfl (List.replicate 8 0) zeros8 ?_;clear hS;intro mh w hS;simp only [putW]) | (go_at_call 81;refine Calls.mono (words_any) ?_;rintro _ w2 ⟨rfl,h2⟩;replace hS := hS.frame h2;clear h2;(try simp only [List.cons_append,List.nil_append] at hS);simp only [putW]) | (refine storeAllA (vv := u32v) hS rfl rfl rfl kTab rfl rfl (fun _ _ => rfl) (by simp;rfl) ?_;clear hS;intro w hS;try simp only [putW]) | (refine storeAllA (vv := u32v) hS rfl rfl rfl hTab rfl rfl (fun _ _ => rfl) (by simp;rfl) ?_;clear hS;intro w hS;try simp only [putW]) | (guard_target =~ Calls _ 82 _ _ _;refine Stopped.out ?_))
  refine ⟨?_⟩
  (refine Calls.mono (padded_any (HA.out.mono hS.base) hb) ?_;rintro _ w2 ⟨vp,rfl,h2⟩;replace hS := hS.frame h2;clear h2;(try simp only [List.cons_append,List.nil_append] at hS);simp only [putW])
  rw [HP.out] at hS
  have hnb1 : 1 ≤ nb := by
    have h1 : (pad A).length = A.length + 1 + zc A.length + 8 := by simp [pad];omega
    rw [HP.out,HPl.out] at h1
    omega
  obtain ⟨gp,cp,rfl,hS2⟩ := hS.slFormC (64 * nb) HPl.out (by omega)
  clear hS
  have hS := hS2
  clear hS2
  go_wp2_with (refine load1 hS rfl rfl rfl rfl ?_;simp only [putW])
  go_loopw [6] (fun v wr => ∃ j : Nat,j ≤ nb ∧ v = .int .i64 ((64 * j : Nat) : Int) ∧ Sat w0 [(mh,cells ((blks P j).map u32v).toArray 155),(gp,slc 1 by8 P cp 5),(mk,cells (kTab.map u32v).toArray 153),(mo,cells ((List.replicate 32 (0 : Int)).map u8v).toArray 26)] wr) (fun v _ => 64 * nb - (intOf v).toNat)
  case atStart => exact ⟨0,by omega,rfl,hS.perm (List.Perm.swap _ _ _)⟩
  case round =>
    clear hS
    obtain ⟨j,hj,rfl,hS⟩ := hrel
    by_cases hlt : j < nb
    · obtain ⟨B,hB⟩ : ∃ B,(P.drop (64 * j)).take 64 = B := ⟨_,rfl⟩
      have hBl : B.length = 64 := by rw [← hB,List.length_take,List.length_drop,HPl.out];omega
      have hBB : ∀ x ∈ B,okByte x := fun x hx => hPB.out x (by rw [← hB] at hx;exact List.mem_of_mem_drop (List.mem_of_mem_take hx))
      have hBP : ∀ i,i < 64 → P[64 * j + i]? = B[i]? := fun i hi => by rw [← hB,List.getElem?_take,if_pos hi,List.getElem?_drop]
      obtain ⟨hs,hhs⟩ : ∃ hs,blks P j = hs := ⟨_,rfl⟩
      have hh : Ok8 hs := by rw [← hhs];exact blks_ok P j
      rw [hhs] at hS
      have hnext : Bx (blks P (j + 1) = blkF B hs) := ⟨by rw [← hhs,← hB];rfl⟩
      have HBl : Bx _ := ⟨hBl⟩
      have HBB : Bx _ := ⟨hBB⟩
      have HBP : Bx _ := ⟨hBP⟩
      have Hh : Bx _ := ⟨hh⟩
      clear hB hBl hBB hBP hhs hh
      go_wp2_with (refine allocA (t := 153) (vv := u32v) hS rfl rfl (List.replicate 64 0) zeros64 ?_;clear hS;intro mw w hS;simp only [putW])
      go_loopw [8] (fun i wr => ∃ t : Nat,t ≤ 64 ∧ i = .int .i64 (t : Int) ∧ Sat w0 [(mw,cells ((wArr B t).map u32v).toArray 153),(mh,cells (hs.map u32v).toArray 155),(gp,slc 1 by8 P cp 5),(mk,cells (kTab.map u32v).toArray 153),(mo,cells ((List.replicate 32 (0 : Int)).map u8v).toArray 26)] wr) (fun i _ => 64 - (intOf i).toNat)
      case atStart => exact ⟨0,by omega,rfl,hS⟩
      case round =>
        clear hS
        obtain ⟨t,ht,rfl,hS⟩ := hrel
        by_cases hlt2 : t < 64
        · by_cases h16 : t < 16
          · as_aux_lemma =>
            obtain ⟨x0,hx0⟩ : ∃ x,B[4 * t]? = some x := ⟨_,List.getElem?_eq_getElem (by have := HBl.out;omega)⟩
            obtain ⟨x1,hx1⟩ : ∃ x,B[4 * t + 1]? = some x := ⟨_,List.getElem?_eq_getElem (by have := HBl.out;omega)⟩
            obtain ⟨x2,hx2⟩ : ∃ x,B[4 * t + 2]? = some x := ⟨_,List.getElem?_eq_getElem (by have := HBl.out;omega)⟩
            obtain ⟨x3,hx3⟩ : ∃ x,B[4 * t + 3]? = some x := ⟨_,List.getElem?_eq_getElem (by have := HBl.out;omega)⟩
            obtain ⟨b0,b0'⟩ := HBB.out x0 (List.mem_of_getElem? hx0)
            obtain ⟨b1,b1'⟩ := HBB.out x1 (List.mem_of_getElem? hx1)
            obtain ⟨b2,b2'⟩ := HBB.out x2 (List.mem_of_getElem? hx2)
            obtain ⟨b3,b3'⟩ := HBB.out x3 (List.mem_of_getElem? hx3)
            have H0 : Bx (P[64 * j + 4 * t]? = some x0) := ⟨by rw [HBP.out _ (by omega)];exact hx0⟩
            have H1 : Bx (P[64 * j + 4 * t + 1]? = some x1) := ⟨by rw [Nat.add_assoc,HBP.out _ (by omega)];exact hx1⟩
            have H2 : Bx (P[64 * j + 4 * t + 2]? = some x2) := ⟨by rw [Nat.add_assoc,HBP.out _ (by omega)];exact hx2⟩
            have H3 : Bx (P[64 * j + 4 * t + 3]? = some x3) := ⟨by rw [Nat.add_assoc,HBP.out _ (by omega)];exact hx3⟩
            have HN : Bx (x0 * 16777216 + x1 * 65536 + x2 * 256 + x3 = nxt B (grow B t)) := ⟨by
              unfold nxt
              rw [if_pos (by rw [grow_len];omega),grow_len]
              unfold wd
              simp only [List.getD,hx0,hx1,hx2,hx3,Option.getD_some]⟩
            clear hx0 hx1 hx2 hx3
            obtain ⟨L0,hL0⟩ : ∃ L,wArr B t = L := ⟨_,rfl⟩
            obtain ⟨L1,hL1⟩ : ∃ L,wArr B (t + 1) = L := ⟨_,rfl⟩
            obtain ⟨y,hy⟩ : ∃ y,nxt B (grow B t) = y := ⟨_,rfl⟩
            have hset : L0.set t (nxt B (grow B t)) = L1 := by rw [← hL0,← hL1];exact wArr_set B hlt2
            have hlen : t < L0.length := by rw [← hL0,wArr_len B (by omega)];omega
            rw [hy] at HN hset
            rw [hL0] at hS
            have hset2 : Bx _ := ⟨hset⟩
            have hL12 : Bx _ := ⟨hL1⟩
            have hlen2 : Bx _ := ⟨hlen⟩
            clear hL0 hL1 hset hlen hy
            go_wp2_with (refine load1 hS rfl rfl rfl rfl ?_;simp only [putW])
            (refine region_upd mw (cells (L1.map u32v).toArray 153) 31 hS (by kernel_rfl) (by kernel_rfl) (by kernel_rfl) (by kernel_rfl) ?_;clear hS;(repeat (first | (apply one_dep rfl;(focus (intro w hS;go_wp2_with (first | (refine loadS (f := by8) hS rfl rfl rfl (64 * j + 4 * t) 0 ?_ H0.out rfl ?_ ?_;omega;omega;simp only [putW]) | (refine loadS (f := by8) hS rfl rfl rfl (64 * j + 4 * t + 1) 0 ?_ H1.out rfl ?_ ?_;omega;omega;simp only [putW]) | (refine loadS (f := by8) hS rfl rfl rfl (64 * j + 4 * t + 2) 0 ?_ H2.out rfl ?_ ?_;omega;omega;simp only [putW]) | (refine loadS (f := by8) hS rfl rfl rfl (64 * j + 4 * t + 3) 0 ?_ H3.out rfl ?_ ?_;omega;omega;simp only [putW]));exact ⟨rfl,rfl,hS⟩));simp only [putW]) | (refine one_here rfl (v := undef) ?_ ?_;(focus (intro w hS;go_wp2_with (refine storeAi (vv := u32v) hS rfl rfl rfl (t) (y) ?_ rfl ?_ ?_ ?_;(focus (exact congrArg u32v HN.out));(focus (omega));(focus (exact hlen2.out));clear hS;intro w hS;rw [hset2.out] at hS;try simp only [putW]);(exact ⟨rfl,rfl,hS⟩)));simp only [putW])));refine one_nil ?_;intro w hS)
            go_wp2_with (refine load1 hS rfl rfl rfl rfl ?_;simp only [putW])
            go_roundw
            case rel => exact ⟨t + 1,by omega,by go_num,by rw [hL12.out];exact hS⟩
            case measure => simp [intOf];omega
          · as_aux_lemma =>
            have hbb := HBB.out
            have hin : ∀ i,In32 ((grow B t).getD i 0) := fun i => by
              rcases Nat.lt_or_ge i (grow B t).length with hi | hi
              · have e : (grow B t).getD i 0 = (grow B t)[i] := by simp [hi]
                rw [e];exact grow_in hbb t _ (List.getElem_mem hi)
              · have e : (grow B t).getD i 0 = 0 := by simp [hi]
                rw [e];unfold In32;omega
            clear hbb
            have h16' := wArr_get B (show t - 16 < t by omega)
            have h15 := wArr_get B (show t - 15 < t by omega)
            have h7 := wArr_get B (show t - 7 < t by omega)
            have h2' := wArr_get B (show t - 2 < t by omega)
            have i15 := hin (t - 15)
            have i2 := hin (t - 2)
            have HN := nxt_late B (show 16 ≤ t by omega)
            generalize (grow B t).getD (t - 16) 0 = x16 at h16' HN
            generalize (grow B t).getD (t - 15) 0 = x15 at h15 HN i15
            generalize (grow B t).getD (t - 7) 0 = x7 at h7 HN
            generalize (grow B t).getD (t - 2) 0 = x2 at h2' HN i2
            obtain ⟨L0,hL0⟩ : ∃ L,wArr B t = L := ⟨_,rfl⟩
            obtain ⟨L1,hL1⟩ : ∃ L,wArr B (t + 1) = L := ⟨_,rfl⟩
            have hset : L0.set t (nxt B (grow B t)) = L1 := by rw [← hL0,← hL1];exact wArr_set B hlt2
            have hlen : t < L0.length := by rw [← hL0,wArr_len B (by omega)];omega
            obtain ⟨y,hy⟩ : ∃ y,nxt B (grow B t) = y := ⟨_,rfl⟩
            rw [hy] at HN hset
            rw [hL0] at h16' h15 h7 h2' hS
            have hset2 : Bx _ := ⟨hset⟩
            have hL12 : Bx _ := ⟨hL1⟩
            have hlen2 : Bx _ := ⟨hlen⟩
            have H16 : Bx _ := ⟨h16'⟩
            have H15 : Bx _ := ⟨h15⟩
            have H7 : Bx _ := ⟨h7⟩
            have H2 : Bx _ := ⟨h2'⟩
            have N : Bx _ := ⟨HN⟩
            clear hL0 hL1 hset hlen hy h16' h15 h7 h2' HN hin
            go_wp2_with (refine load1 hS rfl rfl rfl rfl ?_;simp only [putW])
            (refine region_quiet hS (by kernel_rfl) (by kernel_rfl) (by kernel_rfl) ?_;clear hS;(repeat (apply quiet_step;(focus (intro w hS;go_wp2_with (first | (refine loadAi (vv := u32v) (l := L0) hS rfl rfl rfl (t - 15) (H15.out) ?_ ?_;(focus (omega));simp only [putW]) | (go_at_call 83;refine Calls.mono (rotr_z _ _ (by decide) (by assumption)) ?_;rintro _ w2 ⟨rfl,h2⟩;replace hS := hS.frame h2;clear h2;(try simp only [List.cons_append,List.nil_append] at hS);simp only [putW]));exact ⟨rfl,rfl,hS⟩));simp only [putW]));refine quiet_nil ?_;intro w hS)
            go_wp2_with (refine load1 hS rfl rfl rfl rfl ?_;simp only [putW])
            (refine region_quiet hS (by kernel_rfl) (by kernel_rfl) (by kernel_rfl) ?_;clear hS;(repeat (apply quiet_step;(focus (intro w hS;go_wp2_with (first | (refine loadAi (vv := u32v) (l := L0) hS rfl rfl rfl (t - 2) (H2.out) ?_ ?_;(focus (omega));simp only [putW]) | (go_at_call 83;refine Calls.mono (rotr_z _ _ (by decide) (by assumption)) ?_;rintro _ w2 ⟨rfl,h2⟩;replace hS := hS.frame h2;clear h2;(try simp only [List.cons_append,List.nil_append] at hS);simp only [putW]));exact ⟨rfl,rfl,hS⟩));simp only [putW]));refine quiet_nil ?_;intro w hS)
            go_wp2_with (refine load1 hS rfl rfl rfl rfl ?_;simp only [putW])
            (refine region_upd mw (cells (L1.map u32v).toArray 153) 15 hS (by kernel_rfl) (by kernel_rfl) (by kernel_rfl) (by kernel_rfl) ?_;clear hS;(repeat (first | (apply one_dep rfl;(focus (intro w hS;go_wp2_with (first | (refine loadAi (vv := u32v) (l := L0) hS rfl rfl rfl (t - 16) (H16.out) ?_ ?_;(focus (omega));simp only [putW]) | (refine loadAi (vv := u32v) (l := L0) hS rfl rfl rfl (t - 7) (H7.out) ?_ ?_;(focus (omega));simp only [putW]));exact ⟨rfl,rfl,hS⟩));simp only [putW]) | (refine one_here rfl (v := undef) ?_ ?_;(focus (intro w hS;go_wp2_with (refine storeAi (vv := u32v) hS rfl rfl rfl (t) (y) ?_ rfl ?_ ?_ ?_;(focus (exact congrArg u32v N.out.symm));(focus (omega));(focus (exact hlen2.out));clear hS;intro w hS;rw [hset2.out] at hS;try simp only [putW]);(exact ⟨rfl,rfl,hS⟩)));simp only [putW])));refine one_nil ?_;intro w hS)
            go_wp2_with (refine load1 hS rfl rfl rfl rfl ?_;simp only [putW])
            go_roundw
            case rel => exact ⟨t + 1,by omega,by go_num,by rw [hL12.out];exact hS⟩
            case measure => simp [intOf];omega
        · have ht64 : t = 64 := by omega
          subst ht64
          clear hlt2 ht
          obtain ⟨L,hL⟩ : ∃ L,wArr B 64 = L := ⟨_,rfl⟩
          rw [hL] at hS
          have HL : Bx (∀ t,t < 64 → L[t]? = some ((grow B 64).getD t 0)) := ⟨fun t h => by rw [← hL];exact wArr_get B h⟩
          clear hL
          obtain ⟨s0,hs0⟩ : ∃ s0,toSt hs = s0 := ⟨_,rfl⟩
          have hs0k : Bx s0.ok := ⟨by rw [← hs0];exact Hh.out.st⟩
          have HS0 : Bx _ := ⟨hs0⟩
          have HL8 : Bx (hs.length = 8) := ⟨Hh.out.1⟩
          clear hs0
          go_wp2_with (first | (refine allocA (t := 155) (vv := u32v) hS rfl rfl (List.replicate 8 0) zeros8 ?_;clear hS;intro mv w hS;simp only [putW]) | (refine loadAllA (l := hs) (vv := u32v) hS rfl rfl rfl HL8.out ?_;simp only [putW]) | (refine storeAllA (vv := u32v) hS rfl rfl rfl hs rfl HL8.out (fun _ _ => rfl) (by simp) ?_;clear hS;intro w hS;try simp only [putW]))
          go_loopw [13] (fun i wr => ∃ t : Nat,t ≤ 64 ∧ i = .int .i64 (t : Int) ∧ Sat w0 [(mv,cells ((rnds B s0 t).l.map u32v).toArray 155),(mw,cells (L.map u32v).toArray 153),(mh,cells (hs.map u32v).toArray 155),(gp,slc 1 by8 P cp 5),(mk,cells (kTab.map u32v).toArray 153),(mo,cells ((List.replicate 32 (0 : Int)).map u8v).toArray 26)] wr) (fun i _ => 64 - (intOf i).toNat)
          case atStart => exact ⟨0,by omega,rfl,by rw [show (rnds B s0 0).l = hs by rw [← HS0.out];exact toSt_l HL8.out];exact hS⟩
          case round =>
            clear hS
            obtain ⟨t,ht,rfl,hS⟩ := hrel
            by_cases hlt2 : t < 64
            · as_aux_lemma =>
              obtain ⟨s,hs1⟩ : ∃ s,rnds B s0 t = s := ⟨_,rfl⟩
              have hsk : s.ok := by rw [← hs1];exact rnds_ok hs0k.out t
              rw [hs1] at hS
              have HS1 : Bx _ := ⟨hs1⟩
              clear hs1
              obtain ⟨ra,rb,rc,rd,re,rf,rg,rh⟩ := s
              have hra : In32 ra := hsk.1
              have hre : In32 re := hsk.2.2.2.2.1
              clear hsk
              simp only [St.l,List.map_cons,List.map_nil] at hS
              obtain ⟨kt,hk⟩ : ∃ x,kTab[t]? = some x := ⟨_,List.getElem?_eq_getElem hlt2⟩
              have hw := HL.out t hlt2
              obtain ⟨wt,hwt⟩ : ∃ x,(grow B 64).getD t 0 = x := ⟨_,rfl⟩
              rw [hwt] at hw
              have HK : Bx _ := ⟨hk⟩
              have HW : Bx _ := ⟨hw⟩
              have HKt : Bx (kTab.getD t 0 = kt) := ⟨by simp [List.getD,hk]⟩
              have HWt : Bx _ := ⟨hwt⟩
              clear hk hw hwt
              go_wp2_with (refine load1 hS rfl rfl rfl rfl ?_;simp only [putW])
              (refine region_quiet hS (by kernel_rfl) (by kernel_rfl) (by kernel_rfl) ?_;clear hS;(repeat (apply quiet_step;(focus (intro w hS;go_wp2_with (first | (refine loadAi (vv := u32v) (l := kTab) hS rfl rfl rfl (t) (HK.out) ?_ ?_;(focus (omega));simp only [putW]) | (refine loadAi (vv := u32v) (l := L) hS rfl rfl rfl (t) (HW.out) ?_ ?_;(focus (omega));simp only [putW]) | (go_at_call 83;refine Calls.mono (rotr_z _ _ (by decide) (by assumption)) ?_;rintro _ w2 ⟨rfl,h2⟩;replace hS := hS.frame h2;clear h2;(try simp only [List.cons_append,List.nil_append] at hS);simp only [putW]) | (refine load1 hS rfl rfl rfl rfl ?_;simp only [putW]));exact ⟨rfl,rfl,hS⟩));simp only [putW]));refine quiet_nil ?_;intro w hS)
              go_wp2_with (refine load1 hS rfl rfl rfl rfl ?_;simp only [putW])
              (refine region_quiet hS (by kernel_rfl) (by kernel_rfl) (by kernel_rfl) ?_;clear hS;(repeat (apply quiet_step;(focus (intro w hS;go_wp2_with (first | (go_at_call 83;refine Calls.mono (rotr_z _ _ (by decide) (by assumption)) ?_;rintro _ w2 ⟨rfl,h2⟩;replace hS := hS.frame h2;clear h2;(try simp only [List.cons_append,List.nil_append] at hS);simp only [putW]) | (refine load1 hS rfl rfl rfl rfl ?_;simp only [putW]));exact ⟨rfl,rfl,hS⟩));simp only [putW]));refine quiet_nil ?_;intro w hS)
              go_wp2_with (first | (refine load1 hS rfl rfl rfl rfl ?_;simp only [putW]) | (refine store1 hS rfl rfl rfl rfl rfl ?_ ?_;(focus (simp;done));clear hS;intro w hS;simp only [evW,putW] at hS;try simp only [putW]))
              go_roundw
              case rel =>
                refine ⟨t + 1,by omega,by go_num,?_⟩
                rw [rnds_succ HS1.out HKt.out HWt.out]
                exact hS
              case measure => simp [intOf];omega
            · as_aux_lemma =>
              have ht64 : t = 64 := by omega
              subst ht64
              clear hlt2 ht
              obtain ⟨v,hv⟩ : ∃ v,(rnds B s0 64).l = v := ⟨_,rfl⟩
              have hvl : v.length = 8 := by rw [← hv];rfl
              have hF : Bx (blkF B hs = List.zipWith addw hs v) := ⟨by unfold blkF;rw [HS0.out,hv]⟩
              rw [hv] at hS
              clear hv
              have HV : Bx _ := ⟨hvl⟩
              clear hvl
              go_wp2_with (refine load1 hS rfl rfl rfl rfl ?_;simp only [putW])
              go_loopw [16] (fun i wr => ∃ t : Nat,t ≤ 8 ∧ i = .int .i64 (t : Int) ∧ Sat w0 [(mh,cells ((mix hs v t).map u32v).toArray 155),(mv,cells (v.map u32v).toArray 155),(gp,slc 1 by8 P cp 5),(mk,cells (kTab.map u32v).toArray 153),(mo,cells ((List.replicate 32 (0 : Int)).map u8v).toArray 26)] wr) (fun i _ => 8 - (intOf i).toNat)
              case atStart => exact ⟨0,by omega,rfl,by rw [mix_zero];exact hS.conv⟩
              case round =>
                clear hS
                obtain ⟨t,ht,rfl,hS⟩ := hrel
                by_cases hlt2 : t < 8
                · obtain ⟨x,hx⟩ : ∃ x,hs.getD t 0 = x := ⟨_,rfl⟩
                  obtain ⟨y,hy⟩ : ∃ y,v[t]? = some y := ⟨_,List.getElem?_eq_getElem (by have := HV.out;omega)⟩
                  have hm := mix_get HL8.out HV.out hlt2
                  have hset := mix_set HL8.out HV.out hlt2
                  rw [hx] at hm hset
                  rw [show v.getD t 0 = y by simp [List.getD,hy]] at hset
                  have hlen := mix_len HL8.out HV.out ht
                  obtain ⟨L0,hL0⟩ : ∃ L,mix hs v t = L := ⟨_,rfl⟩
                  obtain ⟨L1,hL1⟩ : ∃ L,mix hs v (t + 1) = L := ⟨_,rfl⟩
                  rw [hL0] at hm hset hlen hS
                  rw [hL1] at hset
                  have HY : Bx _ := ⟨hy⟩
                  have HMx : Bx _ := ⟨hm⟩
                  have HSet : Bx _ := ⟨hset⟩
                  have HLen : Bx _ := ⟨hlen⟩
                  have HL1 : Bx _ := ⟨hL1⟩
                  clear hx hy hm hset hlen hL0 hL1
                  go_wp2_with (refine load1 hS rfl rfl rfl rfl ?_;simp only [putW])
                  (refine region_upd mh (cells (L1.map u32v).toArray 155) 9 hS (by kernel_rfl) (by kernel_rfl) (by kernel_rfl) (by kernel_rfl) ?_;clear hS;(repeat (first | (apply one_dep rfl;(focus (intro w hS;go_wp2_with (first | (refine loadAi (vv := u32v) (l := L0) hS rfl rfl rfl (t) (HMx.out) ?_ ?_;(focus (omega));simp only [putW]) | (refine loadAi (vv := u32v) (l := v) hS rfl rfl rfl (t) (HY.out) ?_ ?_;(focus (omega));simp only [putW]));exact ⟨rfl,rfl,hS⟩));simp only [putW]) | (refine one_here rfl (v := undef) ?_ ?_;(focus (intro w hS;go_wp2_with (refine storeAi (vv := u32v) hS rfl rfl rfl (t) (addw x y) ?_ rfl ?_ ?_ ?_;(focus (rfl));(focus (omega));(focus (have := HLen.out;omega));clear hS;intro w hS;rw [HSet.out] at hS;try simp only [putW]);(exact ⟨rfl,rfl,hS⟩)));simp only [putW])));refine one_nil ?_;intro w hS)
                  go_wp2_with (refine load1 hS rfl rfl rfl rfl ?_;simp only [putW])
                  go_roundw
                  case rel => exact ⟨t + 1,by omega,by go_num,by rw [HL1.out];exact hS⟩
                  case measure => simp [intOf];omega
                · have ht8 : t = 8 := by omega
                  subst ht8
                  rw [mix_all HL8.out,← hF.out] at hS
                  go_wp2_with (refine load1 hS rfl rfl rfl rfl ?_;simp only [putW])
                  go_roundw
                  case rel => exact ⟨j + 1,by omega,by go_num,by rw [hnext.out];exact hS.conv⟩
                  case measure => simp [intOf];omega
    · as_aux_lemma =>
      have hjn : j = nb := by omega
      subst hjn
      clear hlt hj
      have hfin : Bx (stOf P = blks P j) := ⟨by unfold stOf;rw [HPl.out,Nat.mul_div_cancel_left _ (by omega)]⟩
      rw [← hfin.out] at hS
      obtain ⟨s,hs⟩ : ∃ s,stOf P = s := ⟨_,rfl⟩
      have hs8 : Bx (s.length = 8) := ⟨by rw [← hs];exact (blks_ok P _).1⟩
      have hres : Bx (shaF A = dig s) := ⟨by unfold shaF;rw [HP.out,hs]⟩
      rw [hs] at hS
      clear hs
      go_wp2_with (refine allocA (t := 26) (vv := u8v) hS rfl rfl (List.replicate 32 0) zeros32 ?_;clear hS;intro mu w hS;simp only [putW])
      go_loopw [18] (fun i wr => ∃ t : Nat,t ≤ 32 ∧ i = .int .i64 (t : Int) ∧ Sat w0 [(mu,cells ((oArr s t).map u8v).toArray 26),(mh,cells (s.map u32v).toArray 155),(mo,cells ((List.replicate 32 (0 : Int)).map u8v).toArray 26)] wr) (fun i _ => 32 - (intOf i).toNat)
      case atStart => exact ⟨0,by omega,rfl,by rw [oArr_zero];exact hS.conv⟩
      case round =>
        clear hS
        obtain ⟨t,ht,rfl,hS⟩ := hrel
        by_cases hlt2 : t < 32
        · obtain ⟨x,hx⟩ : ∃ x,s[t / 4]? = some x := ⟨_,List.getElem?_eq_getElem (by have := hs8.out;omega)⟩
          have hset := oArr_set s hlt2
          have hlen := oArr_len s ht
          obtain ⟨L0,hL0⟩ : ∃ L,oArr s t = L := ⟨_,rfl⟩
          obtain ⟨L1,hL1⟩ : ∃ L,oArr s (t + 1) = L := ⟨_,rfl⟩
          rw [hL0] at hset hlen hS
          rw [hL1] at hset
          have hby : byt s t = x / 2 ^ (24 - 8 * (t % 4)) % 256 := by unfold byt;simp [List.getD,hx]
          rw [hby] at hset
          have HX : Bx _ := ⟨hx⟩
          have HSet : Bx _ := ⟨hset⟩
          have HLen : Bx _ := ⟨hlen⟩
          have HL1 : Bx _ := ⟨hL1⟩
          clear hx hset hlen hL0 hL1 hby
          go_wp2_with (first | (refine loadAi (vv := u32v) (l := s) hS rfl rfl rfl (t / 4) (HX.out) ?_ ?_;(focus (omega));simp only [putW]) | (refine storeAi (vv := u8v) hS rfl rfl rfl (t) (x / 2 ^ (24 - 8 * (t % 4)) % 256) ?_ rfl ?_ ?_ ?_;(focus (rfl));(focus (omega));(focus (have := HLen.out;omega));clear hS;intro w hS;rw [HSet.out] at hS;try simp only [putW]))
          go_roundw
          case rel => exact ⟨t + 1,by omega,by go_num,by rw [HL1.out];exact hS⟩
          case measure => simp [intOf];omega
        · have ht32 : t = 32 := by omega
          subst ht32
          clear hlt2 ht
          rw [oArr_all] at hS
          have hdl : Bx ((dig s).length = 32) := ⟨dig_len s⟩
          go_wp2_with (first | (refine loadAllA (l := dig s) (vv := u8v) hS rfl rfl rfl hdl.out ?_;simp only [putW]) | (refine storeAllA (vv := u8v) hS rfl rfl rfl (dig s) rfl hdl.out (fun _ _ => rfl) (by simp) ?_;clear hS;intro w hS;try simp only [putW]))
          have hr := run_loadAll (P := Tryd.prog) hS mo 26 (by simpa using hdl.out)
          refine bodyPost_ret (v := .agg ((dig s).map u8v).toArray) (by simp only [results,Tryd.results69,asAddr];simp [hr]) rfl ⟨by rw [hres.out],hS.nothing⟩
end
end Go.Proofs.YtdkimdobcacpfaaDoor
