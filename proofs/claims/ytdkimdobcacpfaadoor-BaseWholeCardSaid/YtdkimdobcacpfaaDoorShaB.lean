/-
  A block of sha.Sum.
-/
import Derived.Test.YtdkimdobcacpfaaDoorShA
import Derived.BigFrame
set_option linter.unusedSimpArgs false
set_option linter.unusedVariables false
namespace Go.Proofs.YtdkimdobcacpfaaDoor
open Go.RowKit Go.Proofs.YtdkimdobcacpfaaDoor.Sl Go.Proofs.YtdkimdobcacpfaaDoor.Sha


section
variable {w0 w : World} {S F : List Chunk} {b : Nat} {hs B : List Int} {r n : Value}
set_option maxRecDepth 100000 in
set_option maxHeartbeats 10000000 in
theorem block_any (hS : Sat w0 S w) [p : Pull S b (cells (hs.map u32v ++ [r,n]).toArray 175) F] (hh : Ok8 hs) (hB : B.length = 64) (hb : ∀ x ∈ B,okByte x) (hK : BAt w0 1 (one u32v) (fun _ => True) kTab 1 0) :
    Calls Tryd.prog 93 #[.pointer (some ⟨b,0,none⟩),.agg (B.map u8v).toArray] w fun e w' => e = .returned (.tuple #[]) ∧ Sat w0 ((b,cells ((blkF B hs).map u32v ++ [r,n]).toArray 175)::F) w' := by
  replace hS := hS.perm p.perm
  have HB : Hid _ := hB
  clear hB
  go_enter Tryd.func93,Tryd.ntmps93
  go_wp2_with (first | (refine allocA (vv := u32v) hS rfl rfl (List.replicate 64 0) zeros64 ?_;clear hS;intro mw w hS;simp only [putW]) | (refine boxN hS rfl rfl rfl ?_;clear hS;intro mb w hS;simp only [putW]))
  go_loopw [16] (fun i wr => ∃ t : Nat,t ≤ 16 ∧ i = .int .i64 (t : Int) ∧ Sat w0 ((mw,cells ((wArr B t).map u32v).toArray 153)::(mb,cells (B.map u8v).toArray 177)::(b,cells (hs.map u32v ++ [r,n]).toArray 175)::F) wr) (fun i _ => 16 - (intOf i).toNat)
  case atStart => exact ⟨0,by omega,rfl,hS⟩
  case round =>
    clear hS
    obtain ⟨t,ht,rfl,hS⟩ := hrel
    by_cases hlt : t < 16
    · obtain ⟨x0,hx0⟩ : ∃ x,B[4 * t]? = some x := ⟨_,List.getElem?_eq_getElem (by have := HB.out;omega)⟩
      obtain ⟨x1,hx1⟩ : ∃ x,B[4 * t + 1]? = some x := ⟨_,List.getElem?_eq_getElem (by have := HB.out;omega)⟩
      obtain ⟨x2,hx2⟩ : ∃ x,B[4 * t + 2]? = some x := ⟨_,List.getElem?_eq_getElem (by have := HB.out;omega)⟩
      obtain ⟨x3,hx3⟩ : ∃ x,B[4 * t + 3]? = some x := ⟨_,List.getElem?_eq_getElem (by have := HB.out;omega)⟩
      obtain ⟨b0,b0'⟩ := hb x0 (List.mem_of_getElem? hx0)
      obtain ⟨b1,b1'⟩ := hb x1 (List.mem_of_getElem? hx1)
      obtain ⟨b2,b2'⟩ := hb x2 (List.mem_of_getElem? hx2)
      obtain ⟨b3,b3'⟩ := hb x3 (List.mem_of_getElem? hx3)
      have H0 : Hid _ := hx0
      have H1 : Hid _ := hx1
      have H2 : Hid _ := hx2
      have H3 : Hid _ := hx3
      have HN : Hid (bits .or .u32 (bits .or .u32 (bits .or .u32 (x0 * 16777216) (x1 * 65536)) (x2 * 256)) x3 = nxt B (grow B t)) := by
        show _ = _
        rw [word_or ⟨b0,b0'⟩ ⟨b1,b1'⟩ ⟨b2,b2'⟩ ⟨b3,b3'⟩]
        unfold nxt
        rw [if_pos (by rw [grow_len];omega),grow_len]
        unfold wd
        simp only [List.getD,hx0,hx1,hx2,hx3,Option.getD_some]
      clear hx0 hx1 hx2 hx3
      go_wp2_with (refine load1 hS rfl rfl rfl rfl ?_;simp only [putW])
      (refine region_upd mw (cells ((wArr B (t + 1)).map u32v).toArray 153) 31 hS (by kernel_rfl) (by kernel_rfl) (by kernel_rfl) (by kernel_rfl) ?_;clear hS;(repeat (first | (apply one_dep rfl;(focus (intro w hS;go_wp2_with (first | (refine loadAi (vv := u8v) (l := B) hS rfl rfl rfl (4 * t) (H0.out) ?_ ?_;(focus (omega));simp only [putW]) | (refine loadAi (vv := u8v) (l := B) hS rfl rfl rfl (4 * t + 1) (H1.out) ?_ ?_;(focus (omega));simp only [putW]) | (refine loadAi (vv := u8v) (l := B) hS rfl rfl rfl (4 * t + 2) (H2.out) ?_ ?_;(focus (omega));simp only [putW]) | (refine loadAi (vv := u8v) (l := B) hS rfl rfl rfl (4 * t + 3) (H3.out) ?_ ?_;(focus (omega));simp only [putW]));exact ⟨rfl,rfl,hS⟩));simp only [putW]) | (refine one_here rfl (v := undef) ?_ ?_;(focus (intro w hS;go_wp2_with (refine storeAi (vv := u32v) hS rfl rfl rfl (t) (nxt B (grow B t)) ?_ rfl ?_ ?_ ?_;(focus (exact congrArg u32v HN.out));(focus (omega));(focus (rw [wArr_len B (by omega)];omega));clear hS;intro w hS;rw [wArr_set B (by omega)] at hS;try simp only [putW]);(exact ⟨rfl,rfl,hS⟩)));simp only [putW])));refine one_nil ?_;intro w hS)
      go_wp2_with (refine load1 hS rfl rfl rfl rfl ?_;simp only [putW])
      go_roundw
      case rel => exact ⟨t + 1,by omega,by go_num,hS⟩
      case measure => simp [intOf];omega
    · have ht16 : t = 16 := by omega
      subst ht16
      clear hlt ht
      go_wp2_with (refine load1 hS rfl rfl rfl rfl ?_;simp only [putW])
      go_loopw [6] (fun i wr => ∃ t : Nat,16 ≤ t ∧ t ≤ 64 ∧ i = .int .i64 (t : Int) ∧ Sat w0 ((mw,cells ((wArr B t).map u32v).toArray 153)::(mb,cells (B.map u8v).toArray 177)::(b,cells (hs.map u32v ++ [r,n]).toArray 175)::F) wr) (fun i _ => 64 - (intOf i).toNat)
      case atStart => exact ⟨16,by omega,by omega,rfl,hS⟩
      case round =>
        clear hS
        obtain ⟨t,ht1,ht2,rfl,hS⟩ := hrel
        by_cases hlt : t < 64
        · have hin : ∀ i,In32 ((grow B t).getD i 0) := fun i => by
            rcases Nat.lt_or_ge i (grow B t).length with hi | hi
            · have e : (grow B t).getD i 0 = (grow B t)[i] := by simp [hi]
              rw [e];exact grow_in hb t _ (List.getElem_mem hi)
            · have e : (grow B t).getD i 0 = 0 := by simp [hi]
              rw [e];unfold In32;omega
          have h16 := wArr_get B (show t - 16 < t by omega)
          have h15 := wArr_get B (show t - 15 < t by omega)
          have h7 := wArr_get B (show t - 7 < t by omega)
          have h2' := wArr_get B (show t - 2 < t by omega)
          have k16 := wArr_set_get B (show t - 16 < t by omega) hlt
          have k7 := wArr_set_get B (show t - 7 < t by omega) hlt
          have i15 := hin (t - 15)
          have i2 := hin (t - 2)
          have HN := nxt_late B ht1
          generalize (grow B t).getD (t - 16) 0 = x16 at h16 k16 HN
          generalize (grow B t).getD (t - 15) 0 = x15 at h15 HN i15
          generalize (grow B t).getD (t - 7) 0 = x7 at h7 k7 HN
          generalize (grow B t).getD (t - 2) 0 = x2 at h2' HN i2
          obtain ⟨L0,hL0⟩ : ∃ L,wArr B t = L := ⟨_,rfl⟩
          obtain ⟨L1,hL1⟩ : ∃ L,wArr B (t + 1) = L := ⟨_,rfl⟩
          have hset : L0.set t (nxt B (grow B t)) = L1 := by rw [← hL0,← hL1];exact wArr_set B hlt
          have hlen : t < L0.length := by rw [← hL0,wArr_len B (by omega)];omega
          obtain ⟨y,hy⟩ : ∃ y,nxt B (grow B t) = y := ⟨_,rfl⟩
          rw [hy] at HN hset
          rw [hL0] at h16 h15 h7 h2' hS
          rw [hL1] at k16 k7
          have hset2 : Hid _ := hset
          have hL12 : Hid _ := hL1
          have hlen2 : Hid _ := hlen
          clear hL0 hL1 hset hlen hy
          have H16 : Hid _ := h16
          have H15 : Hid _ := h15
          have H7 : Hid _ := h7
          have H2 : Hid _ := h2'
          have K16 : Hid _ := k16
          have K7 : Hid _ := k7
          have N : Hid _ := HN
          clear h16 h15 h7 h2' k16 k7 HN hin
          go_wp2_with (refine load1 hS rfl rfl rfl rfl ?_;simp only [putW])
          (refine region_quiet hS (by kernel_rfl) (by kernel_rfl) (by kernel_rfl) ?_;clear hS;(repeat (apply quiet_step;(focus (intro w hS;go_wp2_with (first | (refine loadAi (vv := u32v) (l := L0) hS rfl rfl rfl (t - 15) (H15.out) ?_ ?_;(focus (omega));simp only [putW]) | (refine loadAi (vv := u32v) (l := L0) hS rfl rfl rfl (t - 2) (H2.out) ?_ ?_;(focus (omega));simp only [putW]));exact ⟨rfl,rfl,hS⟩));simp only [putW]));refine quiet_nil ?_;intro w hS)
          go_wp2_with (refine load1 hS rfl rfl rfl rfl ?_;simp only [putW])
          (refine region_upd mw (cells (L1.map u32v).toArray 153) 29 hS (by kernel_rfl) (by kernel_rfl) (by kernel_rfl) (by kernel_rfl) ?_;clear hS;(repeat (first | (apply one_dep rfl;(focus (intro w hS;go_wp2_with (first | (refine loadAi (vv := u32v) (l := L0) hS rfl rfl rfl (t - 16) (H16.out) ?_ ?_;(focus (omega));simp only [putW]) | (refine loadAi (vv := u32v) (l := L0) hS rfl rfl rfl (t - 7) (H7.out) ?_ ?_;(focus (omega));simp only [putW]) | (go_at_call 94;refine Calls.mono (turn_z _ _ (by decide) (by assumption)) ?_;rintro _ w2 ⟨rfl,h2⟩;replace hS := hS.frame h2;clear h2;(try simp only [List.cons_append,List.nil_append] at hS);simp only [putW]));exact ⟨rfl,rfl,hS⟩));simp only [putW]) | (refine one_here rfl (v := undef) ?_ ?_;(focus (intro w hS;go_wp2_with (refine storeAi (vv := u32v) hS rfl rfl rfl (t) (y) ?_ rfl ?_ ?_ ?_;(focus (exact congrArg u32v N.out.symm));(focus (omega));(focus (exact hlen2.out));clear hS;intro w hS;rw [hset2.out] at hS;try simp only [putW]);(exact ⟨rfl,rfl,hS⟩)));simp only [putW])));refine one_nil ?_;intro w hS)
          go_wp2_with (refine load1 hS rfl rfl rfl rfl ?_;simp only [putW])
          go_roundw
          case rel => exact ⟨t + 1,by omega,by omega,by go_num,by rw [hL12.out];exact hS⟩
          case measure => simp [intOf];omega
        · have ht64 : t = 64 := by omega
          subst ht64
          clear hlt ht1 ht2
          have HL := hh.1
          have HT : Hid _ := u32v_take hh.1 r n
          have HM : Hid ((hs.map u32v).length = 8) := by show _ = _;rw [List.length_map];exact hh.1
          have HL8 : Hid _ := HL
          clear HL
          go_wp2_with (first | (refine loadPart (l := hs.map u32v) hS rfl rfl rfl HM.out HT.out ?_;simp only [putW]) | (refine storeAllA (vv := u32v) hS rfl rfl rfl hs rfl HL8.out (fun _ _ => rfl) rfl ?_;clear hS;intro w hS;try simp only [putW]) | (refine alloc hS rfl rfl ?_;clear hS;intro mb w hS;simp only [putW]))
          obtain ⟨L,hL⟩ : ∃ L,wArr B 64 = L := ⟨_,rfl⟩
          rw [hL] at hS
          have HL : Bx (∀ t,t < 64 → L[t]? = some ((grow B 64).getD t 0)) := ⟨fun t h => by rw [← hL];exact wArr_get B h⟩
          clear hL
          obtain ⟨s0,hs0⟩ : ∃ s0,toSt hs = s0 := ⟨_,rfl⟩
          have hs0k : Hid s0.ok := by show s0.ok;rw [← hs0];exact hh.st
          have HS0 : Bx _ := ⟨hs0⟩
          clear hs0
          rename_i m9 _ _ _ _ _ _
          go_loopw [96] (fun i wr => ∃ t : Nat,t ≤ 64 ∧ i = .int .i64 (t : Int) ∧ Sat w0 ((mb,cells ((rnds B s0 t).l.map u32v).toArray 155)::(mw,cells (L.map u32v).toArray 153)::(b,cells (hs.map u32v ++ [r,n]).toArray 175)::F) wr) (fun i _ => 64 - (intOf i).toNat)
          case atStart => exact ⟨0,by omega,rfl,by rw [show (rnds B s0 0).l = hs by rw [← HS0.out];exact toSt_l hh.1];exact hS.conv⟩
          case round =>
            clear hS
            obtain ⟨t,ht,rfl,hS⟩ := hrel
            by_cases hlt : t < 64
            · obtain ⟨s,hs1⟩ : ∃ s,rnds B s0 t = s := ⟨_,rfl⟩
              have hsk : s.ok := by rw [← hs1];exact rnds_ok hs0k.out t
              rw [hs1] at hS
              have HS1 : Bx _ := ⟨hs1⟩
              clear hs1
              obtain ⟨ra,rb,rc,rd,re,rf,rg,rh⟩ := s
              have hra : In32 ra := hsk.1
              have hre : In32 re := hsk.2.2.2.2.1
              clear hsk
              simp only [St.l,List.map_cons,List.map_nil] at hS
              obtain ⟨kt,hk⟩ : ∃ x,kTab[t]? = some x := ⟨_,List.getElem?_eq_getElem hlt⟩
              have hw := HL.out t hlt
              obtain ⟨wt,hwt⟩ : ∃ x,(grow B 64).getD t 0 = x := ⟨_,rfl⟩
              rw [hwt] at hw
              have HK : Bx _ := ⟨hk⟩
              have HW : Bx _ := ⟨hw⟩
              have HKt : Bx (kTab.getD t 0 = kt) := ⟨by simp [List.getD,hk]⟩
              have HWt : Bx _ := ⟨hwt⟩
              clear hk hw hwt
              go_wp2_with (refine load1 hS rfl rfl rfl rfl ?_;simp only [putW])
              (refine region_quiet hS (by kernel_rfl) (by kernel_rfl) (by kernel_rfl) ?_;clear hS;(repeat (apply quiet_step;(focus (intro w hS;go_wp2_with (refine load1 hS rfl rfl rfl rfl ?_;simp only [putW]);exact ⟨rfl,rfl,hS⟩));simp only [putW]));refine quiet_nil ?_;intro w hS)
              go_wp2_with (refine load1 hS rfl rfl rfl rfl ?_;simp only [putW])
              (refine region_quiet hS (by kernel_rfl) (by kernel_rfl) (by kernel_rfl) ?_;clear hS;(repeat (apply quiet_step;(focus (intro w hS;go_wp2_with (first | (refine loadB (f := one u32v) hS rfl rfl rfl hK t 0 ?_ HK.out rfl ?_;omega;simp only [putW]) | (refine loadAi (vv := u32v) (l := L) hS rfl rfl rfl (t) (HW.out) ?_ ?_;(focus (omega));simp only [putW]) | (go_at_call 94;refine Calls.mono (turn_z _ _ (by decide) (by assumption)) ?_;rintro _ w2 ⟨rfl,h2⟩;replace hS := hS.frame h2;clear h2;(try simp only [List.cons_append,List.nil_append] at hS);simp only [putW]) | (refine load1 hS rfl rfl rfl rfl ?_;simp only [putW]));exact ⟨rfl,rfl,hS⟩));simp only [putW]));refine quiet_nil ?_;intro w hS)
              go_wp2_with (refine load1 hS rfl rfl rfl rfl ?_;simp only [putW])
              (refine region_quiet hS (by kernel_rfl) (by kernel_rfl) (by kernel_rfl) ?_;clear hS;(repeat (apply quiet_step;(focus (intro w hS;go_wp2_with (first | (go_at_call 94;refine Calls.mono (turn_z _ _ (by decide) (by assumption)) ?_;rintro _ w2 ⟨rfl,h2⟩;replace hS := hS.frame h2;clear h2;(try simp only [List.cons_append,List.nil_append] at hS);simp only [putW]) | (refine load1 hS rfl rfl rfl rfl ?_;simp only [putW]));exact ⟨rfl,rfl,hS⟩));simp only [putW]));refine quiet_nil ?_;intro w hS)
              go_wp2_with (first | (refine load1 hS rfl rfl rfl rfl ?_;simp only [putW]) | (refine storeAll hS rfl rfl rfl rfl ?_ ?_ ?_ ?_;rfl;(focus (simp [Value.oneCell'];done));rfl;clear hS;intro w hS;try simp only [putW]))
              go_roundw
              case rel =>
                refine ⟨t + 1,by omega,by go_num,?_⟩
                rw [rnds_succ HS1.out HKt.out HWt.out,rnd_l]
                exact hS
              case measure => simp [intOf];omega
            · have ht64 : t = 64 := by omega
              subst ht64
              clear hlt ht
              obtain ⟨v,hv⟩ : ∃ v,(rnds B s0 64).l = v := ⟨_,rfl⟩
              have hvl : v.length = 8 := by rw [← hv];rfl
              have hF : Bx (blkF B hs = List.zipWith addw hs v) := ⟨by unfold blkF;rw [HS0.out,hv]⟩
              rw [hv] at hS
              clear hv
              have HV : Bx _ := ⟨hvl⟩
              clear hvl
              go_wp2_with (refine load1 hS rfl rfl rfl rfl ?_;simp only [putW])
              go_loopw [176] (fun i wr => ∃ t : Nat,t ≤ 8 ∧ i = .int .i64 (t : Int) ∧ Sat w0 ((b,cells ((mix hs v t).map u32v ++ [r,n]).toArray 175)::(mb,cells (v.map u32v).toArray 155)::F) wr) (fun i _ => 8 - (intOf i).toNat)
              case atStart => exact ⟨0,by omega,rfl,by rw [mix_zero];exact hS.conv⟩
              case round =>
                clear hS
                obtain ⟨t,ht,rfl,hS⟩ := hrel
                by_cases hlt : t < 8
                · obtain ⟨x,hx⟩ : ∃ x,hs.getD t 0 = x := ⟨_,rfl⟩
                  obtain ⟨y,hy⟩ : ∃ y,v[t]? = some y := ⟨_,List.getElem?_eq_getElem (by have := HV.out;omega)⟩
                  have hm := mix_get HL8.out HV.out hlt
                  have hset := mix_set HL8.out HV.out hlt
                  rw [hx] at hm hset
                  rw [show v.getD t 0 = y by simp [List.getD,hy]] at hset
                  have hlen := mix_len HL8.out HV.out ht
                  obtain ⟨L0,hL0⟩ : ∃ L,mix hs v t = L := ⟨_,rfl⟩
                  obtain ⟨L1,hL1⟩ : ∃ L,mix hs v (t + 1) = L := ⟨_,rfl⟩
                  rw [hL0] at hm hset hlen hS
                  rw [hL1] at hset
                  have HY : Bx _ := ⟨hy⟩
                  have HMx : Bx _ := ⟨hm⟩
                  have HSet : Bx _ := ⟨hset⟩
                  have HLen : Bx _ := ⟨hlen⟩
                  have HL1 : Bx _ := ⟨hL1⟩
                  clear hx hy hm hset hlen hL0 hL1
                  go_wp2_with (refine load1 hS rfl rfl rfl rfl ?_;simp only [putW])
                  (refine region_upd b (cells (L1.map u32v ++ [r,n]).toArray 175) 13 hS (by kernel_rfl) (by kernel_rfl) (by kernel_rfl) (by kernel_rfl) ?_;clear hS;(repeat (first | (apply one_dep rfl;(focus (intro w hS;go_wp2_with (first | (refine loadAp (vv := u32v) (l := L0) hS rfl rfl rfl (t) (HMx.out) ?_ ?_;(focus (omega));simp only [putW]) | (refine loadAi (vv := u32v) (l := v) hS rfl rfl rfl (t) (HY.out) ?_ ?_;(focus (omega));simp only [putW]));exact ⟨rfl,rfl,hS⟩));simp only [putW]) | (apply one_step rfl;(focus (intro w hS;go_wp2_with (refine loadAp (vv := u32v) (l := L0) hS rfl rfl rfl (t) (HMx.out) ?_ ?_;(focus (omega));simp only [putW]);exact ⟨rfl,rfl,hS⟩));(focus (intro w hS;go_wp2_with (refine loadAp (vv := u32v) (l := L0) hS rfl rfl rfl (t) (HMx.out) ?_ ?_;(focus (omega));simp only [putW]);exact ⟨rfl,rfl,hS⟩));simp only [putW]) | (refine one_here rfl (v := undef) ?_ ?_;(focus (intro w hS;go_wp2_with (refine storeAp (vv := u32v) hS rfl rfl rfl (t) (addw x y) ?_ rfl ?_ ?_ ?_;(focus (rfl));(focus (omega));(focus (have := HLen.out;omega));clear hS;intro w hS;rw [HSet.out] at hS;try simp only [putW]);(exact ⟨rfl,rfl,hS⟩)));simp only [putW])));refine one_nil ?_;intro w hS)
                  go_wp2_with (refine load1 hS rfl rfl rfl rfl ?_;simp only [putW])
                  go_roundw
                  case rel => exact ⟨t + 1,by omega,by go_num,by rw [HL1.out];exact hS⟩
                  case measure => simp [intOf];omega
                · have ht8 : t = 8 := by omega
                  subst ht8
                  rw [mix_all HL8.out,← hF.out] at hS
                  go_wp2_with (refine load1 hS rfl rfl rfl rfl ?_;simp only [putW])
                  go_end0
                  exact ⟨rfl,hS.conv⟩
end
end Go.Proofs.YtdkimdobcacpfaaDoor
