/-
  FramesHave: the walk, no more than 60 acts. (Printed by mkhave.py.)
-/
import Derived.Test.YtlkoclalcfeniaaFrHaveP
import Derived.Test.YtlkoclalcfeniaaFrAwake
set_option linter.unusedSimpArgs false
set_option linter.unusedVariables false
namespace Go.Proofs.Ytlkoclalcfeniaa.FramesHaveDone
open Go.RowKit Go.Proofs.Ytlkoclalcfeniaa Go.Proofs.Ytlkoclalcfeniaa.Sl Go.Proofs.Ytlkoclalcfeniaa.Jp

section
variable {w0 : World}
set_option maxRecDepth 100000 in
set_option maxHeartbeats 8000000 in
theorem coreA (x : Int) {L : List Ac13} {N la : Nat} {pa : Option Addr} {ca : Nat} (hL : L.length = la) (hla : la ≤ 9223372036854775807) (hat : L ≠ [] → ∃ b off, pa = some ⟨b, off, none⟩ ∧ BAt w0 6 acF (AcInK w0) L b off) (hN : N ≤ la) (hN2 : N ≤ 60) (d1 : la ≤ N) :
    Calls Try.prog 5 #[.int .i64 x, .slice pa la ca] w0 fun e w' => e = .returned (.bool true) ∧ Sat w0 [] w' := by
  have hS := Sat.refl w0
  have HL : Bx _ := ⟨hL⟩
  have HAT : Bx _ := ⟨hat⟩
  have HATL : Bx (L ≠ [] → ∃ b off, pa = some ⟨b, off, none⟩ ∧ BAt w0 6 acF (AcIn w0) L b off) := ⟨fun h => by obtain ⟨b, off, h1, h2⟩ := hat h; exact ⟨b, off, h1, atLow h2⟩⟩
  clear hL hat
  go_enter Try.func5, Try.ntmps5
  go_wp2_with (first | (guard_target =~ Calls _ 18 _ _ _; refine Stopped.out ?_) | (refine load1 hS rfl rfl rfl rfl ?_; simp only [putW]) | (refine loadAll hS rfl rfl rfl ?_ ?_; rfl; simp only [putW]) | (refine loadPart hS rfl rfl rfl ?_ rfl ?_; rfl; simp only [putW]) | (refine store1 hS rfl rfl rfl rfl rfl ?_ ?_; (focus (simp; done)); clear hS; intro w hS; simp only [evW, putW] at hS; try simp only [putW]) | (refine storeAll hS rfl rfl rfl rfl ?_ ?_ ?_ ?_; rfl; (focus (simp [Value.oneCell']; done)); rfl; clear hS; intro w hS; try simp only [putW]) | (refine storeN hS rfl rfl rfl rfl ?_ ?_ ?_ ?_; rfl; (focus (simp [Value.oneCell']; done)); (focus (simp; done)); clear hS; intro w hS; simp at hS; try simp only [putW]) | (refine alloc hS rfl rfl ?_; clear hS; intro mb w hS; simp only [putW]) | (refine box1 hS rfl rfl rfl rfl ?_; clear hS; intro mb w hS; try simp only [evW, putW] at hS; simp only [putW]) | (refine boxN hS rfl rfl rfl ?_; clear hS; intro mb w hS; simp only [putW]))
  refine ⟨?_⟩
  (refine Calls.mono (great13_any HL.out hla HATL.out) ?_; rintro _ w2 ⟨r, rfl, hr, h2⟩; replace hS := hS.frame h2; clear h2; (try simp only [List.cons_append, List.nil_append] at hS); simp only [putW])
  cases r with
  | true =>
    go_wp2_with (first | (go_at_call 17; refine Calls.mono (awakeF_any) ?_; rintro _ w2 ⟨rfl, h2⟩; replace hS := hS.frame h2; clear h2; (try simp only [List.cons_append, List.nil_append] at hS); simp only [putW]) | (refine load1 hS rfl rfl rfl rfl ?_; simp only [putW]) | (refine loadAll hS rfl rfl rfl ?_ ?_; rfl; simp only [putW]) | (refine loadPart hS rfl rfl rfl ?_ rfl ?_; rfl; simp only [putW]) | (refine store1 hS rfl rfl rfl rfl rfl ?_ ?_; (focus (simp; done)); clear hS; intro w hS; simp only [evW, putW] at hS; try simp only [putW]) | (refine storeAll hS rfl rfl rfl rfl ?_ ?_ ?_ ?_; rfl; (focus (simp [Value.oneCell']; done)); rfl; clear hS; intro w hS; try simp only [putW]) | (refine storeN hS rfl rfl rfl rfl ?_ ?_ ?_ ?_; rfl; (focus (simp [Value.oneCell']; done)); (focus (simp; done)); clear hS; intro w hS; simp at hS; try simp only [putW]) | (refine alloc hS rfl rfl ?_; clear hS; intro mb w hS; simp only [putW]) | (refine box1 hS rfl rfl rfl rfl ?_; clear hS; intro mb w hS; try simp only [evW, putW] at hS; simp only [putW]) | (refine boxN hS rfl rfl rfl ?_; clear hS; intro mb w hS; simp only [putW]))
    go_ret
    exact ⟨rfl, hS.nothing⟩
  | false =>
    have HB : Bx _ := ⟨hr rfl⟩
    clear hr HATL
    go_wp2_with (first | (guard_target =~ Calls _ 8 _ _ _; refine Stopped.out ?_) | (refine load1 hS rfl rfl rfl rfl ?_; simp only [putW]) | (refine loadAll hS rfl rfl rfl ?_ ?_; rfl; simp only [putW]) | (refine loadPart hS rfl rfl rfl ?_ rfl ?_; rfl; simp only [putW]) | (refine store1 hS rfl rfl rfl rfl rfl ?_ ?_; (focus (simp; done)); clear hS; intro w hS; simp only [evW, putW] at hS; try simp only [putW]) | (refine storeAll hS rfl rfl rfl rfl ?_ ?_ ?_ ?_; rfl; (focus (simp [Value.oneCell']; done)); rfl; clear hS; intro w hS; try simp only [putW]) | (refine storeN hS rfl rfl rfl rfl ?_ ?_ ?_ ?_; rfl; (focus (simp [Value.oneCell']; done)); (focus (simp; done)); clear hS; intro w hS; simp at hS; try simp only [putW]) | (refine alloc hS rfl rfl ?_; clear hS; intro mb w hS; simp only [putW]) | (refine box1 hS rfl rfl rfl rfl ?_; clear hS; intro mb w hS; try simp only [evW, putW] at hS; simp only [putW]) | (refine boxN hS rfl rfl rfl ?_; clear hS; intro mb w hS; simp only [putW]))
    refine ⟨?_⟩
    refine Calls.mono (pick_any x 20 (by omega) (by omega)) ?_
    rintro _ _ ⟨rfl, rfl⟩
    obtain ⟨m, hm, hm8⟩ : ∃ m : Nat, x % 20 = m ∧ m ≤ 19 := ⟨(x % 20).toNat, by omega, by omega⟩
    rw [hm]
    clear hm
    simp only [putW]
    go_wp2_with (first | (guard_target =~ Calls _ 9 _ _ _; refine Stopped.out ?_) | (refine load1 hS rfl rfl rfl rfl ?_; simp only [putW]) | (refine loadAll hS rfl rfl rfl ?_ ?_; rfl; simp only [putW]) | (refine loadPart hS rfl rfl rfl ?_ rfl ?_; rfl; simp only [putW]) | (refine store1 hS rfl rfl rfl rfl rfl ?_ ?_; (focus (simp; done)); clear hS; intro w hS; simp only [evW, putW] at hS; try simp only [putW]) | (refine storeAll hS rfl rfl rfl rfl ?_ ?_ ?_ ?_; rfl; (focus (simp [Value.oneCell']; done)); rfl; clear hS; intro w hS; try simp only [putW]) | (refine storeN hS rfl rfl rfl rfl ?_ ?_ ?_ ?_; rfl; (focus (simp [Value.oneCell']; done)); (focus (simp; done)); clear hS; intro w hS; simp at hS; try simp only [putW]) | (refine alloc hS rfl rfl ?_; clear hS; intro mb w hS; simp only [putW]) | (refine box1 hS rfl rfl rfl rfl ?_; clear hS; intro mb w hS; try simp only [evW, putW] at hS; simp only [putW]) | (refine boxN hS rfl rfl rfl ?_; clear hS; intro mb w hS; simp only [putW]))
    refine ⟨?_⟩
    obtain ⟨nn, hnn⟩ : ∃ nn : Nat, 1 + (m : Int) = nn := ⟨1 + m, by omega⟩
    rw [hnn]
    have h1 : 1 ≤ nn := by omega
    have h9 : nn ≤ 20 := by omega
    clear hnn hm8
    (refine Calls.mono (tabNew_any (by omega) (by omega)) ?_; rintro _ w2 ⟨t, T, rfl, hT, h2⟩; replace hS := hS.frame h2; clear h2; (try simp only [List.cons_append, List.nil_append] at hS); simp only [putW])
    have HT : Bx _ := ⟨hT⟩
    clear hT
    go_wp2_with (first | (refine load1 hS rfl rfl rfl rfl ?_; simp only [putW]) | (refine loadAll hS rfl rfl rfl ?_ ?_; rfl; simp only [putW]) | (refine loadPart hS rfl rfl rfl ?_ rfl ?_; rfl; simp only [putW]) | (refine store1 hS rfl rfl rfl rfl rfl ?_ ?_; (focus (simp; done)); clear hS; intro w hS; simp only [evW, putW] at hS; try simp only [putW]) | (refine storeAll hS rfl rfl rfl rfl ?_ ?_ ?_ ?_; rfl; (focus (simp [Value.oneCell']; done)); rfl; clear hS; intro w hS; try simp only [putW]) | (refine storeN hS rfl rfl rfl rfl ?_ ?_ ?_ ?_; rfl; (focus (simp [Value.oneCell']; done)); (focus (simp; done)); clear hS; intro w hS; simp at hS; try simp only [putW]) | (refine alloc hS rfl rfl ?_; clear hS; intro mb w hS; simp only [putW]) | (refine box1 hS rfl rfl rfl rfl ?_; clear hS; intro mb w hS; try simp only [evW, putW] at hS; simp only [putW]) | (refine boxN hS rfl rfl rfl ?_; clear hS; intro mb w hS; simp only [putW]))
    go_loopg [7, 8, 9] N (fun g v7 v8 i wr => ∃ (k : Nat) (FL : Frs) (ks : List Int) (hd : HadL) (now : Nat) (sp : Spots), k + g = N ∧ i = .int .i64 k ∧ now ≤ 20 * k ∧ Bx (Have w0 FL ks hd nn) ∧ Bx (SpOk now sp) ∧ Sat w0 ((blk (v7), sl 1 i64 ks 3 (v7)) :: (blk (v8), sl 1 rowF hd 42 (v8)) :: (t, cells (tbC T) 65) :: (T.fm, mapC encInt frV FL) :: (7, frC FL) :: (T.pm, mapC encP uV []) :: (T.sm, mapC encInt (Value.int .i64) []) :: (T.hp, HeatC now sp) :: []) wr)
    case atStart => exact ⟨0, [], [], [], 0, [], by omega, rfl, Nat.le_refl _, ⟨Have.start nn⟩, ⟨sp00⟩, (show Sat w0 ((0, sl 1 i64 [] 3 (.slice none 0 0)) :: (0, sl 1 rowF [] 42 (.slice none 0 0)) :: (t, cells (tbC T) 65) :: (T.fm, mapC encInt frV []) :: (7, frC []) :: (T.pm, mapC encP uV []) :: (T.sm, mapC encInt (Value.int .i64) []) :: (T.hp, HeatC 0 []) :: []) _ from ((hS.slNil 1 rowF 42).slNil 1 i64 3).conv)⟩
    case round =>
      clear hS
      obtain ⟨k, FL, ks, hd, now, sp, hkg, rfl, hnow, HH, HSP, hS⟩ := hrel
      cases gk with
      | zero =>
        have hkN : k = N := by omega
        subst hkN
        clear hkg
        have e1 : decide ((k : Int) < (la : Int)) = false := decide_eq_false (by omega)
        go_wp2_with (first | (go_at_call 17; refine Calls.mono (awakeF_any) ?_; rintro _ w2 ⟨rfl, h2⟩; replace hS := hS.frame h2; clear h2; (try simp only [List.cons_append, List.nil_append] at hS); simp only [putW]) | (refine load1 hS rfl rfl rfl rfl ?_; simp only [putW]) | (refine loadAll hS rfl rfl rfl ?_ ?_; rfl; simp only [putW]) | (refine loadPart hS rfl rfl rfl ?_ rfl ?_; rfl; simp only [putW]) | (refine store1 hS rfl rfl rfl rfl rfl ?_ ?_; (focus (simp; done)); clear hS; intro w hS; simp only [evW, putW] at hS; try simp only [putW]) | (refine storeAll hS rfl rfl rfl rfl ?_ ?_ ?_ ?_; rfl; (focus (simp [Value.oneCell']; done)); rfl; clear hS; intro w hS; try simp only [putW]) | (refine storeN hS rfl rfl rfl rfl ?_ ?_ ?_ ?_; rfl; (focus (simp [Value.oneCell']; done)); (focus (simp; done)); clear hS; intro w hS; simp at hS; try simp only [putW]) | (refine alloc hS rfl rfl ?_; clear hS; intro mb w hS; simp only [putW]) | (refine box1 hS rfl rfl rfl rfl ?_; clear hS; intro mb w hS; try simp only [evW, putW] at hS; simp only [putW]) | (refine boxN hS rfl rfl rfl ?_; clear hS; intro mb w hS; simp only [putW]))
        go_ret
        exact ⟨rfl, hS.nothing⟩
      | succ g =>
        have hkN : k < N := by omega
        have hkla : k < la := by omega
        have hk60 : k < 60 := by omega
        have e1 : decide ((k : Int) < (la : Int)) = true := decide_eq_true (by omega)
        have e2 : decide ((k : Int) < 60) = true := decide_eq_true (by omega)
        obtain ⟨xa, hx⟩ : ∃ y, L[k]? = some y := ⟨_, List.getElem?_eq_getElem (by rw [HL.out]; exact hkla)⟩
        obtain ⟨b, off, hpa, hBA⟩ := HAT.out (fun h => by rw [h] at hx; cases hx)
        subst hpa
        have hin : AcInK w0 xa := (hBA.2 k xa hx).1
        have hbl : xa.2.1.2.length ≤ 1000 := HB.out k xa (by omega) hx
        obtain ⟨⟨kd, tk, ky⟩, ⟨bv, B⟩, wr1, by1⟩ := xa
        obtain ⟨bq, bc, hbv, -, -⟩ := BSl.at (n := 1) hin.1
        obtain ⟨bn, hbn⟩ : ∃ n, B.length = n := ⟨_, rfl⟩
        have hbv' : bv = .slice bq bn bc := by rw [← hbn]; exact hbv
        subst hbv'
        clear hbv
        have HIN : Bx (RB w0 B (.slice bq bn bc)) := ⟨hin.1⟩
        have HKY : Bx (okI ky) := ⟨hin.2.2.2⟩
        have Hbl : Bx (B.length ≤ 1000000) := ⟨Nat.le_trans hbl (by omega)⟩
        have Hx : Bx _ := ⟨hx⟩
        clear hin hx HAT hbl hbn
        obtain ⟨nK, hnK⟩ : ∃ n, ks.length = n := ⟨_, rfl⟩
        have HnK : Bx _ := ⟨hnK⟩
        have HnH : Bx (hd.length = nK) := ⟨HH.out.len.trans hnK⟩
        have hnK20 : nK ≤ nn := by rw [← hnK]; exact HH.out.le
        clear hnK
        obtain ⟨q7, c7, hv7⟩ := shapeOf hS HnK.out
        subst hv7
        obtain ⟨q8, c8, hv8⟩ := shapeOf hS.tail HnH.out
        subst hv8
        go_upto_region 13 with (first | (refine loadBN (f := acF) (vs := [.int .i64 kd, .int .i64 tk, .int .i64 ky, .slice bq bn bc, .bool wr1, .float .f64 by1]) hS rfl rfl rfl hBA k 0 ?_ Hx.out rfl rfl ?_; (focus omega); simp only [putW]) | (refine alloc (t := 44) hS rfl rfl ?_; clear hS; intro ma w hS; simp only [putW]) | (refine storeAll (cs := #[.int .i64 kd, .int .i64 tk, .int .i64 ky, .slice bq bn bc, .bool wr1, .float .f64 by1]) hS rfl rfl rfl rfl ?_ ?_ ?_ ?_; (focus rfl); (focus (simp [Value.oneCell']; done)); (focus rfl); clear hS; intro w hS; try simp only [putW]) | (refine load1 hS rfl rfl rfl rfl ?_; simp only [putW]) | (refine loadAll hS rfl rfl rfl ?_ ?_; rfl; simp only [putW]) | (refine loadPart hS rfl rfl rfl ?_ rfl ?_; rfl; simp only [putW]) | (refine store1 hS rfl rfl rfl rfl rfl ?_ ?_; (focus (simp; done)); clear hS; intro w hS; simp only [evW, putW] at hS; try simp only [putW]) | (refine storeAll hS rfl rfl rfl rfl ?_ ?_ ?_ ?_; rfl; (focus (simp [Value.oneCell']; done)); rfl; clear hS; intro w hS; try simp only [putW]) | (refine storeN hS rfl rfl rfl rfl ?_ ?_ ?_ ?_; rfl; (focus (simp [Value.oneCell']; done)); (focus (simp; done)); clear hS; intro w hS; simp at hS; try simp only [putW]) | (refine alloc hS rfl rfl ?_; clear hS; intro mb w hS; simp only [putW]) | (refine box1 hS rfl rfl rfl rfl ?_; clear hS; intro mb w hS; try simp only [evW, putW] at hS; simp only [putW]) | (refine boxN hS rfl rfl rfl ?_; clear hS; intro mb w hS; simp only [putW]))
        go_wp2_with (first | (refine load1 hS rfl rfl rfl rfl ?_; simp only [putW]) | (refine loadAll hS rfl rfl rfl ?_ ?_; rfl; simp only [putW]) | (refine loadPart hS rfl rfl rfl ?_ rfl ?_; rfl; simp only [putW]) | (refine store1 hS rfl rfl rfl rfl rfl ?_ ?_; (focus (simp; done)); clear hS; intro w hS; simp only [evW, putW] at hS; try simp only [putW]) | (refine storeAll hS rfl rfl rfl rfl ?_ ?_ ?_ ?_; rfl; (focus (simp [Value.oneCell']; done)); rfl; clear hS; intro w hS; try simp only [putW]) | (refine storeN hS rfl rfl rfl rfl ?_ ?_ ?_ ?_; rfl; (focus (simp [Value.oneCell']; done)); (focus (simp; done)); clear hS; intro w hS; simp at hS; try simp only [putW]) | (refine alloc hS rfl rfl ?_; clear hS; intro mb w hS; simp only [putW]) | (refine box1 hS rfl rfl rfl rfl ?_; clear hS; intro mb w hS; try simp only [evW, putW] at hS; simp only [putW]) | (refine boxN hS rfl rfl rfl ?_; clear hS; intro mb w hS; simp only [putW]))
        go_loopg [11, 12] nK (fun g at0 kk wr => ∃ (j : Nat) (A : Int), j + g = nK ∧ kk = .int .i64 j ∧ at0 = .int .i64 A ∧ Bx (AtIs ks ky j A) ∧ Sat w0 ((blk ((.slice q7 nK c7)), sl 1 i64 ks 3 ((.slice q7 nK c7))) :: (blk ((.slice q8 nK c8)), sl 1 rowF hd 42 ((.slice q8 nK c8))) :: (t, cells (tbC T) 65) :: (T.fm, mapC encInt frV FL) :: (7, frC FL) :: (T.pm, mapC encP uV []) :: (T.sm, mapC encInt (Value.int .i64) []) :: (T.hp, HeatC now sp) :: (ma, cells #[.int .i64 kd, .int .i64 tk, .int .i64 ky, .slice bq bn bc, .bool wr1, .float .f64 by1] 44) :: []) wr)
        case atStart => exact ⟨0, -1, by omega, rfl, rfl, ⟨AtIs.start ks ky⟩, hS.conv⟩
        case round =>
          clear hS
          obtain ⟨j, A, hjg, rfl, rfl, HAt, hS⟩ := hrel
          cases gk with
          | succ g2 =>
            have hjK : j < nK := by omega
            have hj1 : j ≤ 20 := by omega
            have e3 : decide ((j : Int) < (nK : Int)) = true := decide_eq_true (by omega)
            obtain ⟨y, hy⟩ : ∃ y, ks[j]? = some y := ⟨_, List.getElem?_eq_getElem (by rw [HnK.out]; exact hjK)⟩
            have HY : Bx _ := ⟨hy⟩
            clear hy
            obtain ⟨g7, hq7, hcap7, hS2⟩ := openSl hS HnK.out (by omega)
            subst hq7
            clear hS
            have hS := hS2
            clear hS2
            by_cases hyk : y = ky
            · subst hyk
              have HA2 : Bx (AtIs ks y (j + 1) j) := ⟨AtIs.hit HY.out⟩
              go_upto_region 17 with (first | (refine load1 hS rfl rfl rfl rfl ?_; simp only [putW]) | (refine loadAll hS rfl rfl rfl ?_ ?_; rfl; simp only [putW]) | (refine loadPart hS rfl rfl rfl ?_ rfl ?_; rfl; simp only [putW]) | (refine store1 hS rfl rfl rfl rfl rfl ?_ ?_; (focus (simp; done)); clear hS; intro w hS; simp only [evW, putW] at hS; try simp only [putW]) | (refine storeAll hS rfl rfl rfl rfl ?_ ?_ ?_ ?_; rfl; (focus (simp [Value.oneCell']; done)); rfl; clear hS; intro w hS; try simp only [putW]) | (refine storeN hS rfl rfl rfl rfl ?_ ?_ ?_ ?_; rfl; (focus (simp [Value.oneCell']; done)); (focus (simp; done)); clear hS; intro w hS; simp at hS; try simp only [putW]) | (refine alloc hS rfl rfl ?_; clear hS; intro mb w hS; simp only [putW]) | (refine box1 hS rfl rfl rfl rfl ?_; clear hS; intro mb w hS; try simp only [evW, putW] at hS; simp only [putW]) | (refine boxN hS rfl rfl rfl ?_; clear hS; intro mb w hS; simp only [putW]))
              (refine region_quiet hS (by kernel_rfl) (by kernel_rfl) (by kernel_rfl) ?_; clear hS; (repeat (apply quiet_step; (focus (intro w hS; go_wp2_with (first | (refine loadS1 (v1 := Value.int .i64) hS rfl rfl rfl HY.out ?_; simp only [putW]) | (refine load1 hS rfl rfl rfl rfl ?_; simp only [putW]) | (refine loadAll hS rfl rfl rfl ?_ ?_; rfl; simp only [putW]) | (refine loadPart hS rfl rfl rfl ?_ rfl ?_; rfl; simp only [putW])); exact ⟨rfl, rfl, hS⟩)); simp only [putW])); refine quiet_nil ?_; intro w hS)
              go_wp2_with (first | (refine load1 hS rfl rfl rfl rfl ?_; simp only [putW]) | (refine loadAll hS rfl rfl rfl ?_ ?_; rfl; simp only [putW]) | (refine loadPart hS rfl rfl rfl ?_ rfl ?_; rfl; simp only [putW]) | (refine store1 hS rfl rfl rfl rfl rfl ?_ ?_; (focus (simp; done)); clear hS; intro w hS; simp only [evW, putW] at hS; try simp only [putW]) | (refine storeAll hS rfl rfl rfl rfl ?_ ?_ ?_ ?_; rfl; (focus (simp [Value.oneCell']; done)); rfl; clear hS; intro w hS; try simp only [putW]) | (refine storeN hS rfl rfl rfl rfl ?_ ?_ ?_ ?_; rfl; (focus (simp [Value.oneCell']; done)); (focus (simp; done)); clear hS; intro w hS; simp at hS; try simp only [putW]) | (refine alloc hS rfl rfl ?_; clear hS; intro mb w hS; simp only [putW]) | (refine box1 hS rfl rfl rfl rfl ?_; clear hS; intro mb w hS; try simp only [evW, putW] at hS; simp only [putW]) | (refine boxN hS rfl rfl rfl ?_; clear hS; intro mb w hS; simp only [putW]))
              go_roundg g2
              case measure => omega
              case rel => exact ⟨j + 1, j, by omega, by go_num, rfl, HA2, (closeSl hS HnK.out).conv⟩
            · have HA2 : Bx (AtIs ks ky (j + 1) A) := ⟨HAt.out.miss HY.out hyk⟩
              have e4 : decide (y = ky) = false := decide_eq_false hyk
              go_upto_region 17 with (first | (refine load1 hS rfl rfl rfl rfl ?_; simp only [putW]) | (refine loadAll hS rfl rfl rfl ?_ ?_; rfl; simp only [putW]) | (refine loadPart hS rfl rfl rfl ?_ rfl ?_; rfl; simp only [putW]) | (refine store1 hS rfl rfl rfl rfl rfl ?_ ?_; (focus (simp; done)); clear hS; intro w hS; simp only [evW, putW] at hS; try simp only [putW]) | (refine storeAll hS rfl rfl rfl rfl ?_ ?_ ?_ ?_; rfl; (focus (simp [Value.oneCell']; done)); rfl; clear hS; intro w hS; try simp only [putW]) | (refine storeN hS rfl rfl rfl rfl ?_ ?_ ?_ ?_; rfl; (focus (simp [Value.oneCell']; done)); (focus (simp; done)); clear hS; intro w hS; simp at hS; try simp only [putW]) | (refine alloc hS rfl rfl ?_; clear hS; intro mb w hS; simp only [putW]) | (refine box1 hS rfl rfl rfl rfl ?_; clear hS; intro mb w hS; try simp only [evW, putW] at hS; simp only [putW]) | (refine boxN hS rfl rfl rfl ?_; clear hS; intro mb w hS; simp only [putW]))
              (refine region_quiet hS (by kernel_rfl) (by kernel_rfl) (by kernel_rfl) ?_; clear hS; (repeat (apply quiet_step; (focus (intro w hS; go_wp2_with (first | (refine loadS1 (v1 := Value.int .i64) hS rfl rfl rfl HY.out ?_; simp only [putW]) | (refine load1 hS rfl rfl rfl rfl ?_; simp only [putW]) | (refine loadAll hS rfl rfl rfl ?_ ?_; rfl; simp only [putW]) | (refine loadPart hS rfl rfl rfl ?_ rfl ?_; rfl; simp only [putW])); exact ⟨rfl, rfl, hS⟩)); simp only [putW])); refine quiet_nil ?_; intro w hS)
              go_wp2_with (first | (refine load1 hS rfl rfl rfl rfl ?_; simp only [putW]) | (refine loadAll hS rfl rfl rfl ?_ ?_; rfl; simp only [putW]) | (refine loadPart hS rfl rfl rfl ?_ rfl ?_; rfl; simp only [putW]) | (refine store1 hS rfl rfl rfl rfl rfl ?_ ?_; (focus (simp; done)); clear hS; intro w hS; simp only [evW, putW] at hS; try simp only [putW]) | (refine storeAll hS rfl rfl rfl rfl ?_ ?_ ?_ ?_; rfl; (focus (simp [Value.oneCell']; done)); rfl; clear hS; intro w hS; try simp only [putW]) | (refine storeN hS rfl rfl rfl rfl ?_ ?_ ?_ ?_; rfl; (focus (simp [Value.oneCell']; done)); (focus (simp; done)); clear hS; intro w hS; simp at hS; try simp only [putW]) | (refine alloc hS rfl rfl ?_; clear hS; intro mb w hS; simp only [putW]) | (refine box1 hS rfl rfl rfl rfl ?_; clear hS; intro mb w hS; try simp only [evW, putW] at hS; simp only [putW]) | (refine boxN hS rfl rfl rfl ?_; clear hS; intro mb w hS; simp only [putW]))
              go_roundg g2
              case measure => omega
              case rel => exact ⟨j + 1, A, by omega, by go_num, rfl, HA2, (closeSl hS HnK.out).conv⟩
          | zero =>
            have hj : j = nK := by omega
            subst hj
            clear hjg
            go_wp2_with (first | (guard_target =~ Calls _ 8 _ _ _; refine Stopped.out ?_) | (refine load1 hS rfl rfl rfl rfl ?_; simp only [putW]) | (refine loadAll hS rfl rfl rfl ?_ ?_; rfl; simp only [putW]) | (refine loadPart hS rfl rfl rfl ?_ rfl ?_; rfl; simp only [putW]) | (refine store1 hS rfl rfl rfl rfl rfl ?_ ?_; (focus (simp; done)); clear hS; intro w hS; simp only [evW, putW] at hS; try simp only [putW]) | (refine storeAll hS rfl rfl rfl rfl ?_ ?_ ?_ ?_; rfl; (focus (simp [Value.oneCell']; done)); rfl; clear hS; intro w hS; try simp only [putW]) | (refine storeN hS rfl rfl rfl rfl ?_ ?_ ?_ ?_; rfl; (focus (simp [Value.oneCell']; done)); (focus (simp; done)); clear hS; intro w hS; simp at hS; try simp only [putW]) | (refine alloc hS rfl rfl ?_; clear hS; intro mb w hS; simp only [putW]) | (refine box1 hS rfl rfl rfl rfl ?_; clear hS; intro mb w hS; try simp only [evW, putW] at hS; simp only [putW]) | (refine boxN hS rfl rfl rfl ?_; clear hS; intro mb w hS; simp only [putW]))
            refine ⟨?_⟩
            refine Calls.mono (pick_any kd 3 (by omega) (by omega)) ?_
            rintro _ _ ⟨rfl, rfl⟩
            obtain ⟨q3, hq3⟩ : ∃ q3 : Int, kd % 3 = q3 := ⟨_, rfl⟩
            rw [hq3]
            clear hq3
            simp only [putW]

            go_upto_if 60 with (first | (refine load1 hS rfl rfl rfl rfl ?_; simp only [putW]) | (refine loadAll hS rfl rfl rfl ?_ ?_; rfl; simp only [putW]) | (refine loadPart hS rfl rfl rfl ?_ rfl ?_; rfl; simp only [putW]) | (refine store1 hS rfl rfl rfl rfl rfl ?_ ?_; (focus (simp; done)); clear hS; intro w hS; simp only [evW, putW] at hS; try simp only [putW]) | (refine storeAll hS rfl rfl rfl rfl ?_ ?_ ?_ ?_; rfl; (focus (simp [Value.oneCell']; done)); rfl; clear hS; intro w hS; try simp only [putW]) | (refine storeN hS rfl rfl rfl rfl ?_ ?_ ?_ ?_; rfl; (focus (simp [Value.oneCell']; done)); (focus (simp; done)); clear hS; intro w hS; simp at hS; try simp only [putW]) | (refine alloc hS rfl rfl ?_; clear hS; intro mb w hS; simp only [putW]) | (refine box1 hS rfl rfl rfl rfl ?_; clear hS; intro mb w hS; try simp only [evW, putW] at hS; simp only [putW]) | (refine boxN hS rfl rfl rfl ?_; clear hS; intro mb w hS; simp only [putW]))
            go_cut [7, 8] from 60 to 131 (fun v7 v8 wc => ∃ (FL : Frs) (ks : List Int) (hd : HadL) (sp : Spots), Bx (Have w0 FL ks hd nn) ∧ Bx (SpOk now sp) ∧ Sat w0 ((blk (v7), sl 1 i64 ks 3 (v7)) :: (blk (v8), sl 1 rowF hd 42 (v8)) :: (t, cells (tbC T) 65) :: (T.fm, mapC encInt frV FL) :: (7, frC FL) :: (T.pm, mapC encP uV []) :: (T.sm, mapC encInt (Value.int .i64) []) :: (T.hp, HeatC now sp) :: []) wc)
            case first =>
              have hlenK : ks.length = j := HnK.out
              have HNF := (⟨keysOf (b := T.fm) (l := FL) hS⟩ : Bx _)
              have HFl : Bx (FL.length = j) := ⟨(HH.out.flen HNF.out).trans HnK.out⟩
              clear hlenK
              rcases HAt.out with ⟨rfl, hno⟩ | ⟨i, rfl, hij, hi⟩
              · have HNo : Bx (ky ∉ ks) := ⟨by rw [List.take_of_length_le (by rw [HnK.out]; exact Nat.le_refl _)] at hno; exact hno⟩
                have HNone : Bx (mget FL ky = none) := ⟨HH.out.gone HNo.out⟩
                clear hno HAt
                by_cases hq0 : q3 = 0
                · subst hq0
                  go_wp2_with (first | (guard_target =~ Calls _ 14 _ _ _; refine Stopped.out ?_) | (refine load1 hS rfl rfl rfl rfl ?_; simp only [putW]) | (refine loadAll hS rfl rfl rfl ?_ ?_; rfl; simp only [putW]) | (refine loadPart hS rfl rfl rfl ?_ rfl ?_; rfl; simp only [putW]) | (refine store1 hS rfl rfl rfl rfl rfl ?_ ?_; (focus (simp; done)); clear hS; intro w hS; simp only [evW, putW] at hS; try simp only [putW]) | (refine storeAll hS rfl rfl rfl rfl ?_ ?_ ?_ ?_; rfl; (focus (simp [Value.oneCell']; done)); rfl; clear hS; intro w hS; try simp only [putW]) | (refine storeN hS rfl rfl rfl rfl ?_ ?_ ?_ ?_; rfl; (focus (simp [Value.oneCell']; done)); (focus (simp; done)); clear hS; intro w hS; simp at hS; try simp only [putW]) | (refine alloc hS rfl rfl ?_; clear hS; intro mb w hS; simp only [putW]) | (refine box1 hS rfl rfl rfl rfl ?_; clear hS; intro mb w hS; try simp only [evW, putW] at hS; simp only [putW]) | (refine boxN hS rfl rfl rfl ?_; clear hS; intro mb w hS; simp only [putW]))
                  refine ⟨?_⟩
                  refine Calls.mono (drop_none (key := ky) (FL := FL) HNone.out (hS.conv (S' := (t, cells (tbC T) 65) :: (T.fm, mapC encInt frV FL) :: (7, frC FL) :: (blk ((.slice q7 j c7)), sl 1 i64 ks 3 ((.slice q7 j c7))) :: (blk ((.slice q8 j c8)), sl 1 rowF hd 42 ((.slice q8 j c8))) :: (T.pm, mapC encP uV []) :: (T.sm, mapC encInt (Value.int .i64) []) :: (T.hp, HeatC now sp) :: (ma, cells #[.int .i64 kd, .int .i64 tk, .int .i64 ky, .slice bq bn bc, .bool wr1, .float .f64 by1] 44) :: []))) ?_
                  clear hS
                  rintro _ w ⟨rfl, hS⟩
                  simp only [putW]
                  go_wp2_with (first | (refine load1 hS rfl rfl rfl rfl ?_; simp only [putW]) | (refine loadAll hS rfl rfl rfl ?_ ?_; rfl; simp only [putW]) | (refine loadPart hS rfl rfl rfl ?_ rfl ?_; rfl; simp only [putW]) | (refine store1 hS rfl rfl rfl rfl rfl ?_ ?_; (focus (simp; done)); clear hS; intro w hS; simp only [evW, putW] at hS; try simp only [putW]) | (refine storeAll hS rfl rfl rfl rfl ?_ ?_ ?_ ?_; rfl; (focus (simp [Value.oneCell']; done)); rfl; clear hS; intro w hS; try simp only [putW]) | (refine storeN hS rfl rfl rfl rfl ?_ ?_ ?_ ?_; rfl; (focus (simp [Value.oneCell']; done)); (focus (simp; done)); clear hS; intro w hS; simp at hS; try simp only [putW]) | (refine alloc hS rfl rfl ?_; clear hS; intro mb w hS; simp only [putW]) | (refine box1 hS rfl rfl rfl rfl ?_; clear hS; intro mb w hS; try simp only [evW, putW] at hS; simp only [putW]) | (refine boxN hS rfl rfl rfl ?_; clear hS; intro mb w hS; simp only [putW]))
                  go_meet
                  case rel => exact ⟨_, _, _, _, HH, HSP, hS.conv⟩
                · by_cases hfull : j < nn
                  · have HF : Bx ((FL.length : Int) < T.most) := ⟨by rw [HT.out, HFl.out]; omega⟩
                    go_wp2_with (first | (guard_target =~ Calls _ 10 _ _ _; refine Stopped.out ?_) | (refine load1 hS rfl rfl rfl rfl ?_; simp only [putW]) | (refine loadAll hS rfl rfl rfl ?_ ?_; rfl; simp only [putW]) | (refine loadPart hS rfl rfl rfl ?_ rfl ?_; rfl; simp only [putW]) | (refine store1 hS rfl rfl rfl rfl rfl ?_ ?_; (focus (simp; done)); clear hS; intro w hS; simp only [evW, putW] at hS; try simp only [putW]) | (refine storeAll hS rfl rfl rfl rfl ?_ ?_ ?_ ?_; rfl; (focus (simp [Value.oneCell']; done)); rfl; clear hS; intro w hS; try simp only [putW]) | (refine storeN hS rfl rfl rfl rfl ?_ ?_ ?_ ?_; rfl; (focus (simp [Value.oneCell']; done)); (focus (simp; done)); clear hS; intro w hS; simp at hS; try simp only [putW]) | (refine alloc hS rfl rfl ?_; clear hS; intro mb w hS; simp only [putW]) | (refine box1 hS rfl rfl rfl rfl ?_; clear hS; intro mb w hS; try simp only [evW, putW] at hS; simp only [putW]) | (refine boxN hS rfl rfl rfl ?_; clear hS; intro mb w hS; simp only [putW]))
                    refine ⟨?_⟩
                    refine Calls.mono (putNew_any (T := T) (K := (blk ((.slice q7 j c7)), sl 1 i64 ks 3 ((.slice q7 j c7))) :: (blk ((.slice q8 j c8)), sl 1 rowF hd 42 ((.slice q8 j c8))) :: (T.pm, mapC encP uV []) :: (T.sm, mapC encInt (Value.int .i64) []) :: (T.hp, HeatC now sp) :: (ma, cells #[.int .i64 kd, .int .i64 tk, .int .i64 ky, .slice bq bn bc, .bool wr1, .float .f64 by1] 44) :: []) (FL := FL) (A := B) (fun w' hw => HIN.out.mono hw.base) Hbl.out HNone.out HF.out (by rw [HT.out]; omega) hS.conv) ?_
                    clear hS
                    rintro _ w ⟨f9, v9, rfl, hS⟩
                    have HH2 : Bx _ := ⟨HH.out.add (f := f9) (v := v9) (b := wr1) HNo.out (by rw [HnK.out]; exact hfull) HKY.out Hbl.out HIN.out⟩
                    obtain ⟨FL2, hFL2⟩ : ∃ FL2 : Frs, FL ++ [(ky, ((some ⟨f9, 0, none⟩, v9, B, wr1) : FrV))] = FL2 := ⟨_, rfl⟩
                    rw [hFL2] at hS HH2
                    clear hFL2
                    have hlm1 : ks.length + 1 ≤ maxLen := by rw [HnK.out]; simp [maxLen]; omega
                    have hlm2 : (ks.length + 1) * 8 ≤ 140737488355328 := by rw [HnK.out]; omega
                    have hlm3 : hd.length + 1 ≤ maxLen := by rw [HnH.out]; simp [maxLen]; omega
                    have hlm4 : (hd.length + 1) * 24 ≤ 140737488355328 := by rw [HnH.out]; omega
                    simp only [putW]
                    go_wp2_with (first | (refine buildSlice1 (c := #[.int .i64 ky]) hS rfl rfl rfl ?_ ?_ ?_ ?_; rfl; rfl; rfl; clear hS; intro mb w hS; simp only [putW]) | (refine buildSlice1 (c := #[.slice bq bn bc]) hS rfl rfl rfl ?_ ?_ ?_ ?_; rfl; rfl; rfl; clear hS; intro mb w hS; simp only [putW]) | (refine append1 (f := i64) (n := 1) hS rfl rfl (.slice q7 j c7) rfl rfl ky rfl (by intro u hu; rw [List.mem_singleton.1 hu]; rfl) rfl hlm1 hlm2 ?_; clear hS; intro v7 w hS; simp only [putW]) | (refine append1 (f := rowF) (n := 1) hS rfl rfl (.slice q8 j c8) rfl rfl ((.slice bq bn bc, B) : Value × List Int) rfl (by intro u hu; rw [List.mem_singleton.1 hu]; rfl) rfl hlm3 hlm4 ?_; clear hS; intro v8 w hS; simp only [putW]) | (refine load1 hS rfl rfl rfl rfl ?_; simp only [putW]) | (refine loadAll hS rfl rfl rfl ?_ ?_; rfl; simp only [putW]) | (refine loadPart hS rfl rfl rfl ?_ rfl ?_; rfl; simp only [putW]) | (refine store1 hS rfl rfl rfl rfl rfl ?_ ?_; (focus (simp; done)); clear hS; intro w hS; simp only [evW, putW] at hS; try simp only [putW]) | (refine storeAll hS rfl rfl rfl rfl ?_ ?_ ?_ ?_; rfl; (focus (simp [Value.oneCell']; done)); rfl; clear hS; intro w hS; try simp only [putW]) | (refine storeN hS rfl rfl rfl rfl ?_ ?_ ?_ ?_; rfl; (focus (simp [Value.oneCell']; done)); (focus (simp; done)); clear hS; intro w hS; simp at hS; try simp only [putW]) | (refine alloc hS rfl rfl ?_; clear hS; intro mb w hS; simp only [putW]) | (refine box1 hS rfl rfl rfl rfl ?_; clear hS; intro mb w hS; try simp only [evW, putW] at hS; simp only [putW]) | (refine boxN hS rfl rfl rfl ?_; clear hS; intro mb w hS; simp only [putW]))
                    go_meet
                    case rel => exact ⟨_, _, _, _, HH2, HSP, hS.conv⟩
                  · have hjn : j = nn := by omega
                    subst hjn
                    have HF : Bx ((FL.length : Int) = T.most) := ⟨by rw [HT.out, HFl.out]⟩
                    go_wp2_with (first | (guard_target =~ Calls _ 10 _ _ _; refine Stopped.out ?_) | (refine load1 hS rfl rfl rfl rfl ?_; simp only [putW]) | (refine loadAll hS rfl rfl rfl ?_ ?_; rfl; simp only [putW]) | (refine loadPart hS rfl rfl rfl ?_ rfl ?_; rfl; simp only [putW]) | (refine store1 hS rfl rfl rfl rfl rfl ?_ ?_; (focus (simp; done)); clear hS; intro w hS; simp only [evW, putW] at hS; try simp only [putW]) | (refine storeAll hS rfl rfl rfl rfl ?_ ?_ ?_ ?_; rfl; (focus (simp [Value.oneCell']; done)); rfl; clear hS; intro w hS; try simp only [putW]) | (refine storeN hS rfl rfl rfl rfl ?_ ?_ ?_ ?_; rfl; (focus (simp [Value.oneCell']; done)); (focus (simp; done)); clear hS; intro w hS; simp at hS; try simp only [putW]) | (refine alloc hS rfl rfl ?_; clear hS; intro mb w hS; simp only [putW]) | (refine box1 hS rfl rfl rfl rfl ?_; clear hS; intro mb w hS; try simp only [evW, putW] at hS; simp only [putW]) | (refine boxN hS rfl rfl rfl ?_; clear hS; intro mb w hS; simp only [putW]))
                    refine ⟨?_⟩
                    refine Calls.mono (putFull_any (key := ky) (FL := FL) HNone.out HF.out (hS.conv (S' := (t, cells (tbC T) 65) :: (T.fm, mapC encInt frV FL) :: (7, frC FL) :: (blk ((.slice q7 j c7)), sl 1 i64 ks 3 ((.slice q7 j c7))) :: (blk ((.slice q8 j c8)), sl 1 rowF hd 42 ((.slice q8 j c8))) :: (T.pm, mapC encP uV []) :: (T.sm, mapC encInt (Value.int .i64) []) :: (T.hp, HeatC now sp) :: (ma, cells #[.int .i64 kd, .int .i64 tk, .int .i64 ky, .slice bq bn bc, .bool wr1, .float .f64 by1] 44) :: []))) ?_
                    clear hS
                    rintro _ w ⟨rfl, hS⟩
                    simp only [putW]
                    go_wp2_with (first | (refine load1 hS rfl rfl rfl rfl ?_; simp only [putW]) | (refine loadAll hS rfl rfl rfl ?_ ?_; rfl; simp only [putW]) | (refine loadPart hS rfl rfl rfl ?_ rfl ?_; rfl; simp only [putW]) | (refine store1 hS rfl rfl rfl rfl rfl ?_ ?_; (focus (simp; done)); clear hS; intro w hS; simp only [evW, putW] at hS; try simp only [putW]) | (refine storeAll hS rfl rfl rfl rfl ?_ ?_ ?_ ?_; rfl; (focus (simp [Value.oneCell']; done)); rfl; clear hS; intro w hS; try simp only [putW]) | (refine storeN hS rfl rfl rfl rfl ?_ ?_ ?_ ?_; rfl; (focus (simp [Value.oneCell']; done)); (focus (simp; done)); clear hS; intro w hS; simp at hS; try simp only [putW]) | (refine alloc hS rfl rfl ?_; clear hS; intro mb w hS; simp only [putW]) | (refine box1 hS rfl rfl rfl rfl ?_; clear hS; intro mb w hS; try simp only [evW, putW] at hS; simp only [putW]) | (refine boxN hS rfl rfl rfl ?_; clear hS; intro mb w hS; simp only [putW]))
                    go_meet
                    case rel => exact ⟨_, _, _, _, HH, HSP, hS.conv⟩
              · obtain ⟨xf, hxf⟩ := HH.out.there hi
                have HXf : Bx _ := ⟨hxf⟩
                have HI : Bx _ := ⟨hi⟩
                have hi0 : ¬ (i : Int) < 0 := by omega
                have hik : i < ks.length := by rw [HnK.out]; exact hij
                have hih : i < hd.length := by rw [HnH.out]; exact hij
                have HSome : Bx ((mget FL ky).isSome = true) := ⟨by rw [hxf]; rfl⟩
                clear hi hxf HAt
                by_cases hq0 : q3 = 0
                · subst hq0
                  obtain ⟨z, hz⟩ : ∃ z, ks[j - 1]? = some z := ⟨_, List.getElem?_eq_getElem (by rw [HnK.out]; omega)⟩
                  obtain ⟨rz, hrz⟩ : ∃ r, hd[j - 1]? = some r := ⟨_, List.getElem?_eq_getElem (by rw [HnH.out]; omega)⟩
                  have HZ : Bx _ := ⟨hz⟩
                  have HRZ : Bx _ := ⟨hrz⟩
                  have hrb := HH.out.rb rz (List.mem_of_getElem? hrz)
                  have HH2 : Bx _ := ⟨HH.out.drop HI.out (by rw [HnK.out]; exact hz) (by rw [HnK.out]; exact hrz)⟩
                  obtain ⟨rv, RZ⟩ := rz
                  obtain ⟨qr, cr, hrv, -, -⟩ := BSl.at (n := 1) hrb
                  obtain ⟨nr, hnr⟩ : ∃ n, RZ.length = n := ⟨_, rfl⟩
                  have hrv' : rv = .slice qr nr cr := by rw [← hnr]; exact hrv
                  subst hrv'
                  clear hrv hnr hrb hz hrz
                  have HSP2 : Bx _ := ⟨HSP.out.del ky⟩
                  go_wp2_with (first | (guard_target =~ Calls _ 14 _ _ _; refine Stopped.out ?_) | (refine load1 hS rfl rfl rfl rfl ?_; simp only [putW]) | (refine loadAll hS rfl rfl rfl ?_ ?_; rfl; simp only [putW]) | (refine loadPart hS rfl rfl rfl ?_ rfl ?_; rfl; simp only [putW]) | (refine store1 hS rfl rfl rfl rfl rfl ?_ ?_; (focus (simp; done)); clear hS; intro w hS; simp only [evW, putW] at hS; try simp only [putW]) | (refine storeAll hS rfl rfl rfl rfl ?_ ?_ ?_ ?_; rfl; (focus (simp [Value.oneCell']; done)); rfl; clear hS; intro w hS; try simp only [putW]) | (refine storeN hS rfl rfl rfl rfl ?_ ?_ ?_ ?_; rfl; (focus (simp [Value.oneCell']; done)); (focus (simp; done)); clear hS; intro w hS; simp at hS; try simp only [putW]) | (refine alloc hS rfl rfl ?_; clear hS; intro mb w hS; simp only [putW]) | (refine box1 hS rfl rfl rfl rfl ?_; clear hS; intro mb w hS; try simp only [evW, putW] at hS; simp only [putW]) | (refine boxN hS rfl rfl rfl ?_; clear hS; intro mb w hS; simp only [putW]))
                  refine ⟨?_⟩
                  refine Calls.mono (drop_any (key := ky) (PL := []) (FL := FL) (now := now) (sp := sp) HSome.out rfl (hS.conv (S' := (t, cells (tbC T) 65) :: (T.fm, mapC encInt frV FL) :: (T.pm, mapC encP uV []) :: (T.hp, HeatC now sp) :: (7, frC FL) :: (blk ((.slice q7 j c7)), sl 1 i64 ks 3 ((.slice q7 j c7))) :: (blk ((.slice q8 j c8)), sl 1 rowF hd 42 ((.slice q8 j c8))) :: (T.sm, mapC encInt (Value.int .i64) []) :: (ma, cells #[.int .i64 kd, .int .i64 tk, .int .i64 ky, .slice bq bn bc, .bool wr1, .float .f64 by1] 44) :: []))) ?_
                  clear hS
                  rintro _ w ⟨rfl, hS⟩
                  have hS1 := frCut HSome.out HNF.out (hS.pull 7 (X := frC FL))
                  clear hS
                  obtain ⟨g7, hq7, hcap7, hS2⟩ := openSl (hS1.conv (S' := (blk ((.slice q7 j c7)), sl 1 i64 ks 3 ((.slice q7 j c7))) :: (blk ((.slice q8 j c8)), sl 1 rowF hd 42 ((.slice q8 j c8))) :: (t, cells (tbC T) 65) :: (T.fm, mapC encInt frV (mdel FL ky)) :: (7, frC (mdel FL ky)) :: (T.pm, mapC encP uV []) :: (T.sm, mapC encInt (Value.int .i64) []) :: (T.hp, HeatC now (mdel sp ky)) :: (ma, cells #[.int .i64 kd, .int .i64 tk, .int .i64 ky, .slice bq bn bc, .bool wr1, .float .f64 by1] 44) :: [])) HnK.out (by omega)
                  subst hq7
                  clear hS1
                  obtain ⟨g8, hq8, hcap8, hS1⟩ := openSl (hS2.conv (S' := (blk ((.slice q8 j c8)), sl 1 rowF hd 42 ((.slice q8 j c8))) :: (g7, slc 1 i64 ks c7 3) :: (t, cells (tbC T) 65) :: (T.fm, mapC encInt frV (mdel FL ky)) :: (7, frC (mdel FL ky)) :: (T.pm, mapC encP uV []) :: (T.sm, mapC encInt (Value.int .i64) []) :: (T.hp, HeatC now (mdel sp ky)) :: (ma, cells #[.int .i64 kd, .int .i64 tk, .int .i64 ky, .slice bq bn bc, .bool wr1, .float .f64 by1] 44) :: [])) HnH.out (by omega)
                  subst hq8
                  clear hS2
                  have hS := hS1
                  clear hS1
                  have hj0 : (0 : Int) ≤ (j : Int) - 1 := by omega
                  have hj9 : j ≤ 20 := by omega
                  obtain ⟨j1, hj1⟩ : ∃ j1 : Nat, (j : Int) - 1 = j1 := ⟨j - 1, by omega⟩
                  have HJ1 : Bx (j1 = j - 1) := ⟨by omega⟩
                  have HZ1 : Bx (ks[j1]? = some z) := ⟨by rw [HJ1.out]; exact HZ.out⟩
                  have HRZ1 : Bx (hd[j1]? = some ((.slice qr nr cr, RZ) : Value × List Int)) := ⟨by rw [HJ1.out]; exact HRZ.out⟩
                  have hj1j : j1 < j := by omega
                  have hj1c7 : j1 ≤ c7 := by omega
                  have hj1c8 : j1 ≤ c8 := by omega
                  clear hj0
                  simp only [putW]
                  go_wp2_with (first | (refine loadS (f := i64) hS rfl rfl rfl j1 0 ?_ HZ1.out rfl ?_ ?_; omega; omega; simp only [putW]) | (refine loadS (f := rowF) hS rfl rfl rfl j1 0 ?_ HRZ1.out rfl ?_ ?_; omega; omega; simp only [putW]) | (refine storeS1 (v1 := Value.int .i64) hS rfl rfl rfl z rfl rfl hik ?_; clear hS; intro w hS; try simp only [putW]) | (refine storeS (f := rowF) (n := 1) hS rfl rfl rfl i ?_ ((.slice qr nr cr, RZ) : Value × List Int) rfl rfl (by intro u hu; rw [List.mem_singleton.1 hu]; rfl) rfl hih ?_; (focus omega); clear hS; intro w hS; try simp only [putW]) | (refine sliceHi (i := j1) rfl rfl rfl rfl (by first | rfl | omega) ?_ ?_; (focus omega); simp only [putW]) | (refine load1 hS rfl rfl rfl rfl ?_; simp only [putW]) | (refine loadAll hS rfl rfl rfl ?_ ?_; rfl; simp only [putW]) | (refine loadPart hS rfl rfl rfl ?_ rfl ?_; rfl; simp only [putW]) | (refine store1 hS rfl rfl rfl rfl rfl ?_ ?_; (focus (simp; done)); clear hS; intro w hS; simp only [evW, putW] at hS; try simp only [putW]) | (refine storeAll hS rfl rfl rfl rfl ?_ ?_ ?_ ?_; rfl; (focus (simp [Value.oneCell']; done)); rfl; clear hS; intro w hS; try simp only [putW]) | (refine storeN hS rfl rfl rfl rfl ?_ ?_ ?_ ?_; rfl; (focus (simp [Value.oneCell']; done)); (focus (simp; done)); clear hS; intro w hS; simp at hS; try simp only [putW]) | (refine alloc hS rfl rfl ?_; clear hS; intro mb w hS; simp only [putW]) | (refine box1 hS rfl rfl rfl rfl ?_; clear hS; intro mb w hS; try simp only [evW, putW] at hS; simp only [putW]) | (refine boxN hS rfl rfl rfl ?_; clear hS; intro mb w hS; simp only [putW]))
                  go_meet
                  case rel =>
                    have hS1 := takeSlc (v1 := Value.int .i64) (l := ks.set i z) (hS.pull g7 (X := slc 1 i64 (ks.set i z) c7 3)) j1 (by rw [List.length_set, HnK.out]; omega)
                    have hS2 := takeSlc (v1 := Prod.fst) (l := hd.set i ((.slice qr nr cr, RZ) : Value × List Int)) (hS1.pull g8 (X := slc 1 rowF (hd.set i ((.slice qr nr cr, RZ) : Value × List Int)) c8 42)) j1 (by rw [List.length_set, HnH.out]; omega)
                    have E1 : (ks.set i z).take j1 = swapOff ks i z := by unfold swapOff; rw [HnK.out, HJ1.out]
                    have E2 : (hd.set i ((.slice qr nr cr, RZ) : Value × List Int)).take j1 = swapOff hd i ((.slice qr nr cr, RZ) : Value × List Int) := by unfold swapOff; rw [HnH.out, HJ1.out]
                    have L1 : (swapOff ks i z).length = j1 := by rw [swapOff_len, HnK.out, HJ1.out]
                    have L2 : (swapOff hd i ((.slice qr nr cr, RZ) : Value × List Int)).length = j1 := by rw [swapOff_len, HnH.out, HJ1.out]
                    rw [E1, E2] at hS2
                    have hS3 : Sat w0 ((g8, slc 1 rowF (swapOff hd i ((.slice qr nr cr, RZ) : Value × List Int)) c8 42) :: (g7, slc 1 i64 (swapOff ks i z) c7 3) :: (t, cells (tbC T) 65) :: (T.fm, mapC encInt frV (mdel FL ky)) :: (7, frC (mdel FL ky)) :: (T.pm, mapC encP uV []) :: (T.sm, mapC encInt (Value.int .i64) []) :: (T.hp, HeatC now (mdel sp ky)) :: (ma, cells #[.int .i64 kd, .int .i64 tk, .int .i64 ky, .slice bq bn bc, .bool wr1, .float .f64 by1] 44) :: []) _ := hS2
                    have hS4 := closeSl hS3 L2
                    have hS5 := closeSl (hS4.pull g7 (X := slc 1 i64 (swapOff ks i z) c7 3)) L1
                    exact ⟨_, _, _, _, HH2, HSP2, hS5.conv⟩
                · go_wp2_with (first | (guard_target =~ Calls _ 10 _ _ _; refine Stopped.out ?_) | (refine load1 hS rfl rfl rfl rfl ?_; simp only [putW]) | (refine loadAll hS rfl rfl rfl ?_ ?_; rfl; simp only [putW]) | (refine loadPart hS rfl rfl rfl ?_ rfl ?_; rfl; simp only [putW]) | (refine store1 hS rfl rfl rfl rfl rfl ?_ ?_; (focus (simp; done)); clear hS; intro w hS; simp only [evW, putW] at hS; try simp only [putW]) | (refine storeAll hS rfl rfl rfl rfl ?_ ?_ ?_ ?_; rfl; (focus (simp [Value.oneCell']; done)); rfl; clear hS; intro w hS; try simp only [putW]) | (refine storeN hS rfl rfl rfl rfl ?_ ?_ ?_ ?_; rfl; (focus (simp [Value.oneCell']; done)); (focus (simp; done)); clear hS; intro w hS; simp at hS; try simp only [putW]) | (refine alloc hS rfl rfl ?_; clear hS; intro mb w hS; simp only [putW]) | (refine box1 hS rfl rfl rfl rfl ?_; clear hS; intro mb w hS; try simp only [evW, putW] at hS; simp only [putW]) | (refine boxN hS rfl rfl rfl ?_; clear hS; intro mb w hS; simp only [putW]))
                  refine ⟨?_⟩
                  refine Calls.mono (putOld_any (T := T) (K := (blk ((.slice q7 j c7)), sl 1 i64 ks 3 ((.slice q7 j c7))) :: (blk ((.slice q8 j c8)), sl 1 rowF hd 42 ((.slice q8 j c8))) :: (T.pm, mapC encP uV []) :: (T.sm, mapC encInt (Value.int .i64) []) :: (T.hp, HeatC now sp) :: (ma, cells #[.int .i64 kd, .int .i64 tk, .int .i64 ky, .slice bq bn bc, .bool wr1, .float .f64 by1] 44) :: []) (FL := FL) (A := B) (fun w' hw => HIN.out.mono hw.base) Hbl.out HXf.out HH.out.ok hS.conv) ?_
                  clear hS
                  rintro _ w ⟨v9, rfl, hS⟩
                  have HH2 : Bx _ := ⟨HH.out.over (v := v9) (b := xf.2.2.2 || wr1) HI.out HXf.out Hbl.out HIN.out⟩
                  obtain ⟨FL2, hFL2⟩ : ∃ FL2 : Frs, mput FL ky (xf.1, v9, B, xf.2.2.2 || wr1) = FL2 := ⟨_, rfl⟩
                  rw [hFL2] at hS HH2
                  clear hFL2
                  obtain ⟨g8, hq8, hcap8, hS1⟩ := openSl (hS.conv (S' := (blk ((.slice q8 j c8)), sl 1 rowF hd 42 ((.slice q8 j c8))) :: (blk ((.slice q7 j c7)), sl 1 i64 ks 3 ((.slice q7 j c7))) :: (t, cells (tbC T) 65) :: (T.fm, mapC encInt frV FL2) :: (7, frC FL2) :: (T.pm, mapC encP uV []) :: (T.sm, mapC encInt (Value.int .i64) []) :: (T.hp, HeatC now sp) :: (ma, cells #[.int .i64 kd, .int .i64 tk, .int .i64 ky, .slice bq bn bc, .bool wr1, .float .f64 by1] 44) :: [])) HnH.out (by omega)
                  subst hq8
                  clear hS
                  have hS := hS1
                  clear hS1
                  simp only [putW]
                  go_wp2_with (first | (refine storeS (f := rowF) (n := 1) hS rfl rfl rfl i ?_ ((.slice bq bn bc, B) : Value × List Int) rfl rfl (by intro u hu; rw [List.mem_singleton.1 hu]; rfl) rfl hih ?_; (focus omega); clear hS; intro w hS; try simp only [putW]) | (refine load1 hS rfl rfl rfl rfl ?_; simp only [putW]) | (refine loadAll hS rfl rfl rfl ?_ ?_; rfl; simp only [putW]) | (refine loadPart hS rfl rfl rfl ?_ rfl ?_; rfl; simp only [putW]) | (refine store1 hS rfl rfl rfl rfl rfl ?_ ?_; (focus (simp; done)); clear hS; intro w hS; simp only [evW, putW] at hS; try simp only [putW]) | (refine storeAll hS rfl rfl rfl rfl ?_ ?_ ?_ ?_; rfl; (focus (simp [Value.oneCell']; done)); rfl; clear hS; intro w hS; try simp only [putW]) | (refine storeN hS rfl rfl rfl rfl ?_ ?_ ?_ ?_; rfl; (focus (simp [Value.oneCell']; done)); (focus (simp; done)); clear hS; intro w hS; simp at hS; try simp only [putW]) | (refine alloc hS rfl rfl ?_; clear hS; intro mb w hS; simp only [putW]) | (refine box1 hS rfl rfl rfl rfl ?_; clear hS; intro mb w hS; try simp only [evW, putW] at hS; simp only [putW]) | (refine boxN hS rfl rfl rfl ?_; clear hS; intro mb w hS; simp only [putW]))
                  go_meet
                  case rel =>
                    have hS4 := closeSl (m := j) (hS.pull g8 (X := slc 1 rowF (hd.set i ((.slice bq bn bc, B) : Value × List Int)) c8 42)) (by rw [List.length_set]; exact HnH.out)
                    exact ⟨_, _, _, _, HH2, HSP, hS4.conv⟩
            case rest =>
              clear hS HH HSP HnK HnH HAt hnK20
              obtain ⟨FL, ks, hd, sp, HH, HSP, hS⟩ := hcut

              obtain ⟨nK, hnK⟩ : ∃ n, ks.length = n := ⟨_, rfl⟩
              have HnK : Bx _ := ⟨hnK⟩
              have HnH : Bx (hd.length = nK) := ⟨HH.out.len.trans hnK⟩
              have hnK20 : nK ≤ nn := by rw [← hnK]; exact HH.out.le
              clear hnK
              obtain ⟨q7, c7, hv7⟩ := shapeOf hS HnK.out
              subst hv7
              obtain ⟨q8, c8, hv8⟩ := shapeOf hS.tail HnH.out
              subst hv8
              have HFl : Bx (FL.length = nK) := ⟨(HH.out.flen (keysOf (b := T.fm) (l := FL) hS)).trans HnK.out⟩
              have dgt : decide ((nn : Int) < (nK : Int)) = false := decide_eq_false (by omega)
              go_wp2_with (first | (guard_target =~ Calls _ 21 _ _ _; refine Stopped.out ?_) | (refine load1 hS rfl rfl rfl rfl ?_; simp only [putW]) | (refine loadAll hS rfl rfl rfl ?_ ?_; rfl; simp only [putW]) | (refine loadPart hS rfl rfl rfl ?_ rfl ?_; rfl; simp only [putW]) | (refine store1 hS rfl rfl rfl rfl rfl ?_ ?_; (focus (simp; done)); clear hS; intro w hS; simp only [evW, putW] at hS; try simp only [putW]) | (refine storeAll hS rfl rfl rfl rfl ?_ ?_ ?_ ?_; rfl; (focus (simp [Value.oneCell']; done)); rfl; clear hS; intro w hS; try simp only [putW]) | (refine storeN hS rfl rfl rfl rfl ?_ ?_ ?_ ?_; rfl; (focus (simp [Value.oneCell']; done)); (focus (simp; done)); clear hS; intro w hS; simp at hS; try simp only [putW]) | (refine alloc hS rfl rfl ?_; clear hS; intro mb w hS; simp only [putW]) | (refine box1 hS rfl rfl rfl rfl ?_; clear hS; intro mb w hS; try simp only [evW, putW] at hS; simp only [putW]) | (refine boxN hS rfl rfl rfl ?_; clear hS; intro mb w hS; simp only [putW]))
              refine ⟨?_⟩
              refine Calls.mono (keys_any (FL := FL) (fun x hx => wfI (HH.out.wf x ((HH.out.mem x).1 hx))) (by rw [HFl.out]; omega) (hS.conv (S' := (t, cells (tbC T) 65) :: (T.fm, mapC encInt frV FL) :: (7, frC FL) :: (blk ((.slice q7 nK c7)), sl 1 i64 ks 3 ((.slice q7 nK c7))) :: (blk ((.slice q8 nK c8)), sl 1 rowF hd 42 ((.slice q8 nK c8))) :: (T.pm, mapC encP uV []) :: (T.sm, mapC encInt (Value.int .i64) []) :: (T.hp, HeatC now sp) :: []))) ?_
              clear hS
              rintro _ w ⟨vk, rfl, hS⟩
              obtain ⟨qk, ck, hvk⟩ := shapeOf hS (show (sortI (mkeys FL)).length = nK by rw [sortI_len, length_mkeys]; exact HFl.out)
              subst hvk
              simp only [putW]
              go_wp2_with (first | (refine load1 hS rfl rfl rfl rfl ?_; simp only [putW]) | (refine loadAll hS rfl rfl rfl ?_ ?_; rfl; simp only [putW]) | (refine loadPart hS rfl rfl rfl ?_ rfl ?_; rfl; simp only [putW]) | (refine store1 hS rfl rfl rfl rfl rfl ?_ ?_; (focus (simp; done)); clear hS; intro w hS; simp only [evW, putW] at hS; try simp only [putW]) | (refine storeAll hS rfl rfl rfl rfl ?_ ?_ ?_ ?_; rfl; (focus (simp [Value.oneCell']; done)); rfl; clear hS; intro w hS; try simp only [putW]) | (refine storeN hS rfl rfl rfl rfl ?_ ?_ ?_ ?_; rfl; (focus (simp [Value.oneCell']; done)); (focus (simp; done)); clear hS; intro w hS; simp at hS; try simp only [putW]) | (refine alloc hS rfl rfl ?_; clear hS; intro mb w hS; simp only [putW]) | (refine box1 hS rfl rfl rfl rfl ?_; clear hS; intro mb w hS; try simp only [evW, putW] at hS; simp only [putW]) | (refine boxN hS rfl rfl rfl ?_; clear hS; intro mb w hS; simp only [putW]))
              go_loopg [13] nK (fun g kk wr => ∃ (j : Nat) (now2 : Nat) (sp : Spots), j + g = nK ∧ kk = .int .i64 j ∧ now2 = now + j ∧ Bx (SpOk now2 sp) ∧ Sat w0 ((blk ((.slice q7 nK c7)), sl 1 i64 ks 3 ((.slice q7 nK c7))) :: (blk ((.slice q8 nK c8)), sl 1 rowF hd 42 ((.slice q8 nK c8))) :: (t, cells (tbC T) 65) :: (T.fm, mapC encInt frV FL) :: (7, frC FL) :: (T.pm, mapC encP uV []) :: (T.sm, mapC encInt (Value.int .i64) []) :: (T.hp, HeatC now2 sp) :: []) wr)
              case atStart => exact ⟨0, now, sp, by omega, rfl, rfl, HSP, hS.conv⟩
              case round =>
                clear hS HSP
                obtain ⟨j, now2, sp, hjg, rfl, hnow2, HSP, hS⟩ := hrel
                cases gk with
                | succ g3 =>
                  have hjK : j < nK := by omega
                  have hj1 : j ≤ 20 := by omega
                  have hn2 : now2 ≤ 10000 := by omega
                  have e3 : decide ((j : Int) < (nK : Int)) = true := decide_eq_true (by omega)
                  obtain ⟨y, hy⟩ : ∃ y, ks[j]? = some y := ⟨_, List.getElem?_eq_getElem (by rw [HnK.out]; exact hjK)⟩
                  obtain ⟨rz, hrz⟩ : ∃ r, hd[j]? = some r := ⟨_, List.getElem?_eq_getElem (by rw [HnH.out]; exact hjK)⟩
                  obtain ⟨xf, hxf, hxr⟩ := HH.out.val j y rz hy hrz
                  have hrb := HH.out.rb rz (List.mem_of_getElem? hrz)
                  obtain ⟨rv, RZ⟩ := rz
                  have HY : Bx _ := ⟨hy⟩
                  have HRZ : Bx _ := ⟨hrz⟩
                  have HXf : Bx _ := ⟨hxf⟩
                  have HXr : Bx (xf.2.2.1 = RZ) := ⟨hxr⟩
                  have HRB : Bx (RB w0 RZ rv) := ⟨hrb⟩
                  clear hy hrz hxf hxr hrb
                  obtain ⟨g7, hq7, hcap7, hS2⟩ := openSl (hS.conv (S' := (blk ((.slice q7 nK c7)), sl 1 i64 ks 3 ((.slice q7 nK c7))) :: (blk ((.slice q8 nK c8)), sl 1 rowF hd 42 ((.slice q8 nK c8))) :: (t, cells (tbC T) 65) :: (T.fm, mapC encInt frV FL) :: (7, frC FL) :: (T.pm, mapC encP uV []) :: (T.sm, mapC encInt (Value.int .i64) []) :: (T.hp, HeatC now2 sp) :: [])) HnK.out (by omega)
                  subst hq7
                  clear hS
                  obtain ⟨g8, hq8, hcap8, hS1⟩ := openSl (hS2.conv (S' := (blk ((.slice q8 nK c8)), sl 1 rowF hd 42 ((.slice q8 nK c8))) :: (g7, slc 1 i64 ks c7 3) :: (t, cells (tbC T) 65) :: (T.fm, mapC encInt frV FL) :: (7, frC FL) :: (T.pm, mapC encP uV []) :: (T.sm, mapC encInt (Value.int .i64) []) :: (T.hp, HeatC now2 sp) :: [])) HnH.out (by omega)
                  subst hq8
                  clear hS2
                  have hS := hS1
                  clear hS1
                  go_wp2_with (first | (refine loadS1 (v1 := Value.int .i64) hS rfl rfl rfl HY.out ?_; simp only [putW]) | (guard_target =~ Calls _ 22 _ _ _; refine Stopped.out ?_) | (refine load1 hS rfl rfl rfl rfl ?_; simp only [putW]) | (refine loadAll hS rfl rfl rfl ?_ ?_; rfl; simp only [putW]) | (refine loadPart hS rfl rfl rfl ?_ rfl ?_; rfl; simp only [putW]) | (refine store1 hS rfl rfl rfl rfl rfl ?_ ?_; (focus (simp; done)); clear hS; intro w hS; simp only [evW, putW] at hS; try simp only [putW]) | (refine storeAll hS rfl rfl rfl rfl ?_ ?_ ?_ ?_; rfl; (focus (simp [Value.oneCell']; done)); rfl; clear hS; intro w hS; try simp only [putW]) | (refine storeN hS rfl rfl rfl rfl ?_ ?_ ?_ ?_; rfl; (focus (simp [Value.oneCell']; done)); (focus (simp; done)); clear hS; intro w hS; simp at hS; try simp only [putW]) | (refine alloc hS rfl rfl ?_; clear hS; intro mb w hS; simp only [putW]) | (refine box1 hS rfl rfl rfl rfl ?_; clear hS; intro mb w hS; try simp only [evW, putW] at hS; simp only [putW]) | (refine boxN hS rfl rfl rfl ?_; clear hS; intro mb w hS; simp only [putW]))
                  refine ⟨?_⟩
                  refine Calls.mono (get_any (key := y) (x := xf) (FL := FL) (sp := sp) (now := now2) HXf.out HH.out.ok (by omega) HSP.out (hS.conv (S' := (t, cells (tbC T) 65) :: (T.fm, mapC encInt frV FL) :: (7, frC FL) :: (T.hp, HeatC now2 sp) :: (g8, slc 1 rowF hd c8 42) :: (g7, slc 1 i64 ks c7 3) :: (T.pm, mapC encP uV []) :: (T.sm, mapC encInt (Value.int .i64) []) :: []))) ?_
                  clear hS
                  rintro _ w ⟨rr, vg, rfl, -, hS⟩
                  rw [HXr.out] at hS
                  have HSP2 : Bx _ := ⟨HSP.out.next (r := rr) y⟩
                  clear HSP
                  simp only [putW]
                  go_wp2_with (first | (refine loadS (f := rowF) hS rfl rfl rfl j 0 ?_ HRZ.out rfl ?_ ?_; omega; omega; simp only [putW]) | (guard_target =~ Calls _ 23 _ _ _; refine Stopped.out ?_) | (refine load1 hS rfl rfl rfl rfl ?_; simp only [putW]) | (refine loadAll hS rfl rfl rfl ?_ ?_; rfl; simp only [putW]) | (refine loadPart hS rfl rfl rfl ?_ rfl ?_; rfl; simp only [putW]) | (refine store1 hS rfl rfl rfl rfl rfl ?_ ?_; (focus (simp; done)); clear hS; intro w hS; simp only [evW, putW] at hS; try simp only [putW]) | (refine storeAll hS rfl rfl rfl rfl ?_ ?_ ?_ ?_; rfl; (focus (simp [Value.oneCell']; done)); rfl; clear hS; intro w hS; try simp only [putW]) | (refine storeN hS rfl rfl rfl rfl ?_ ?_ ?_ ?_; rfl; (focus (simp [Value.oneCell']; done)); (focus (simp; done)); clear hS; intro w hS; simp at hS; try simp only [putW]) | (refine alloc hS rfl rfl ?_; clear hS; intro mb w hS; simp only [putW]) | (refine box1 hS rfl rfl rfl rfl ?_; clear hS; intro mb w hS; try simp only [evW, putW] at hS; simp only [putW]) | (refine boxN hS rfl rfl rfl ?_; clear hS; intro mb w hS; simp only [putW]))
                  refine ⟨?_⟩
                  (refine Calls.mono (same_any (hS.readsSl (v := vg) (L := RZ) HRB.out.all) (HRB.out.mono hS.base)) ?_; rintro _ w2 ⟨rfl, h2⟩; replace hS := hS.frame h2; clear h2; (try simp only [List.cons_append, List.nil_append] at hS); simp only [putW])
                  try simp only [decide_true, decide_eq_true_eq]
                  go_wp2_with (first | (refine load1 hS rfl rfl rfl rfl ?_; simp only [putW]) | (refine loadAll hS rfl rfl rfl ?_ ?_; rfl; simp only [putW]) | (refine loadPart hS rfl rfl rfl ?_ rfl ?_; rfl; simp only [putW]) | (refine store1 hS rfl rfl rfl rfl rfl ?_ ?_; (focus (simp; done)); clear hS; intro w hS; simp only [evW, putW] at hS; try simp only [putW]) | (refine storeAll hS rfl rfl rfl rfl ?_ ?_ ?_ ?_; rfl; (focus (simp [Value.oneCell']; done)); rfl; clear hS; intro w hS; try simp only [putW]) | (refine storeN hS rfl rfl rfl rfl ?_ ?_ ?_ ?_; rfl; (focus (simp [Value.oneCell']; done)); (focus (simp; done)); clear hS; intro w hS; simp at hS; try simp only [putW]) | (refine alloc hS rfl rfl ?_; clear hS; intro mb w hS; simp only [putW]) | (refine box1 hS rfl rfl rfl rfl ?_; clear hS; intro mb w hS; try simp only [evW, putW] at hS; simp only [putW]) | (refine boxN hS rfl rfl rfl ?_; clear hS; intro mb w hS; simp only [putW]))
                  go_roundg g3
                  case measure => omega
                  case rel =>
                    have hS4 := closeSl (hS.pull g8 (X := slc 1 rowF hd c8 42)) HnH.out
                    have hS5 := closeSl (hS4.pull g7 (X := slc 1 i64 ks c7 3)) HnK.out
                    exact ⟨j + 1, now2 + 1, _, by omega, by go_num, by omega, HSP2, hS5.conv⟩
                | zero =>
                  have hj : j = nK := by omega
                  subst hj
                  clear hjg
                  go_wp2_with (first | (refine load1 hS rfl rfl rfl rfl ?_; simp only [putW]) | (refine loadAll hS rfl rfl rfl ?_ ?_; rfl; simp only [putW]) | (refine loadPart hS rfl rfl rfl ?_ rfl ?_; rfl; simp only [putW]) | (refine store1 hS rfl rfl rfl rfl rfl ?_ ?_; (focus (simp; done)); clear hS; intro w hS; simp only [evW, putW] at hS; try simp only [putW]) | (refine storeAll hS rfl rfl rfl rfl ?_ ?_ ?_ ?_; rfl; (focus (simp [Value.oneCell']; done)); rfl; clear hS; intro w hS; try simp only [putW]) | (refine storeN hS rfl rfl rfl rfl ?_ ?_ ?_ ?_; rfl; (focus (simp [Value.oneCell']; done)); (focus (simp; done)); clear hS; intro w hS; simp at hS; try simp only [putW]) | (refine alloc hS rfl rfl ?_; clear hS; intro mb w hS; simp only [putW]) | (refine box1 hS rfl rfl rfl rfl ?_; clear hS; intro mb w hS; try simp only [evW, putW] at hS; simp only [putW]) | (refine boxN hS rfl rfl rfl ?_; clear hS; intro mb w hS; simp only [putW]))
                  go_roundg g
                  case measure => omega
                  case rel => exact ⟨k + 1, FL, ks, hd, now2, sp, by omega, by go_num, by omega, HH, HSP, hS.conv⟩

end
end Go.Proofs.Ytlkoclalcfeniaa.FramesHaveDone
