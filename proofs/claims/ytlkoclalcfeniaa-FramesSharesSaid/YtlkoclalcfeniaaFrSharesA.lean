/-
  FramesShares: the walk, no more than 100 acts. (Printed by mkshares.py.)
-/
import Derived.Test.YtlkoclalcfeniaaFrShareV
import Derived.Test.YtlkoclalcfeniaaFrAwake
set_option linter.unusedSimpArgs false
set_option linter.unusedVariables false
namespace Go.Proofs.Ytlkoclalcfeniaa.FramesSharesDone
open Go.RowKit Go.Proofs.Ytlkoclalcfeniaa Go.Proofs.Ytlkoclalcfeniaa.Sl Go.Proofs.Ytlkoclalcfeniaa.Jp

section
variable {w0 : World}
set_option maxRecDepth 100000 in
set_option maxHeartbeats 8000000 in
theorem coreA (x : Int) {L : List Ac13} {N la : Nat} {pa : Option Addr} {ca : Nat} (hL : L.length = la) (hla : la ≤ 9223372036854775807) (hat : L ≠ [] → ∃ b off, pa = some ⟨b, off, none⟩ ∧ BAt w0 6 acF (AcIn w0) L b off) (hN : N ≤ la) (hN2 : N ≤ 100) (d1 : la ≤ N) :
    Calls Try.prog 4 #[.int .i64 x, .slice pa la ca] w0 fun e w' => e = .returned (.bool true) ∧ Sat w0 [] w' := by
  have hS := Sat.refl w0
  have HL : Bx _ := ⟨hL⟩
  have HAT : Bx _ := ⟨hat⟩
  clear hL hat
  go_enter Try.func4, Try.ntmps4
  go_wp2_with (first | (guard_target =~ Calls _ 18 _ _ _; refine Stopped.out ?_) | (refine load1 hS rfl rfl rfl rfl ?_; simp only [putW]) | (refine loadAll hS rfl rfl rfl ?_ ?_; rfl; simp only [putW]) | (refine loadPart hS rfl rfl rfl ?_ rfl ?_; rfl; simp only [putW]) | (refine store1 hS rfl rfl rfl rfl rfl ?_ ?_; (focus (simp; done)); clear hS; intro w hS; simp only [evW, putW] at hS; try simp only [putW]) | (refine storeAll hS rfl rfl rfl rfl ?_ ?_ ?_ ?_; rfl; (focus (simp [Value.oneCell']; done)); rfl; clear hS; intro w hS; try simp only [putW]) | (refine storeN hS rfl rfl rfl rfl ?_ ?_ ?_ ?_; rfl; (focus (simp [Value.oneCell']; done)); (focus (simp; done)); clear hS; intro w hS; simp at hS; try simp only [putW]) | (refine alloc hS rfl rfl ?_; clear hS; intro mb w hS; simp only [putW]) | (refine box1 hS rfl rfl rfl rfl ?_; clear hS; intro mb w hS; try simp only [evW, putW] at hS; simp only [putW]) | (refine boxN hS rfl rfl rfl ?_; clear hS; intro mb w hS; simp only [putW]))
  refine ⟨?_⟩
  (refine Calls.mono (great13_any HL.out hla HAT.out) ?_; rintro _ w2 ⟨r, rfl, hr, h2⟩; replace hS := hS.frame h2; clear h2; (try simp only [List.cons_append, List.nil_append] at hS); simp only [putW])
  cases r with
  | true =>
    go_wp2_with (first | (go_at_call 17; refine Calls.mono (awakeF_any) ?_; rintro _ w2 ⟨rfl, h2⟩; replace hS := hS.frame h2; clear h2; (try simp only [List.cons_append, List.nil_append] at hS); simp only [putW]) | (refine load1 hS rfl rfl rfl rfl ?_; simp only [putW]) | (refine loadAll hS rfl rfl rfl ?_ ?_; rfl; simp only [putW]) | (refine loadPart hS rfl rfl rfl ?_ rfl ?_; rfl; simp only [putW]) | (refine store1 hS rfl rfl rfl rfl rfl ?_ ?_; (focus (simp; done)); clear hS; intro w hS; simp only [evW, putW] at hS; try simp only [putW]) | (refine storeAll hS rfl rfl rfl rfl ?_ ?_ ?_ ?_; rfl; (focus (simp [Value.oneCell']; done)); rfl; clear hS; intro w hS; try simp only [putW]) | (refine storeN hS rfl rfl rfl rfl ?_ ?_ ?_ ?_; rfl; (focus (simp [Value.oneCell']; done)); (focus (simp; done)); clear hS; intro w hS; simp at hS; try simp only [putW]) | (refine alloc hS rfl rfl ?_; clear hS; intro mb w hS; simp only [putW]) | (refine box1 hS rfl rfl rfl rfl ?_; clear hS; intro mb w hS; try simp only [evW, putW] at hS; simp only [putW]) | (refine boxN hS rfl rfl rfl ?_; clear hS; intro mb w hS; simp only [putW]))
    go_ret
    exact ⟨rfl, hS.nothing⟩
  | false =>
    have HB : Bx _ := ⟨hr rfl⟩
    clear hr
    go_wp2_with (first | (guard_target =~ Calls _ 8 _ _ _; refine Stopped.out ?_) | (refine load1 hS rfl rfl rfl rfl ?_; simp only [putW]) | (refine loadAll hS rfl rfl rfl ?_ ?_; rfl; simp only [putW]) | (refine loadPart hS rfl rfl rfl ?_ rfl ?_; rfl; simp only [putW]) | (refine store1 hS rfl rfl rfl rfl rfl ?_ ?_; (focus (simp; done)); clear hS; intro w hS; simp only [evW, putW] at hS; try simp only [putW]) | (refine storeAll hS rfl rfl rfl rfl ?_ ?_ ?_ ?_; rfl; (focus (simp [Value.oneCell']; done)); rfl; clear hS; intro w hS; try simp only [putW]) | (refine storeN hS rfl rfl rfl rfl ?_ ?_ ?_ ?_; rfl; (focus (simp [Value.oneCell']; done)); (focus (simp; done)); clear hS; intro w hS; simp at hS; try simp only [putW]) | (refine alloc hS rfl rfl ?_; clear hS; intro mb w hS; simp only [putW]) | (refine box1 hS rfl rfl rfl rfl ?_; clear hS; intro mb w hS; try simp only [evW, putW] at hS; simp only [putW]) | (refine boxN hS rfl rfl rfl ?_; clear hS; intro mb w hS; simp only [putW]))
    refine ⟨?_⟩
    refine Calls.mono (pick_any x 20 (by omega) (by omega)) ?_
    rintro _ _ ⟨rfl, rfl⟩
    obtain ⟨m, hm, hm8⟩ : ∃ m : Nat, x % 20 = m ∧ m ≤ 19 := ⟨(x % 20).toNat, by omega, by omega⟩
    rw [hm]
    clear hm
    simp only [putW]
    go_wp2_with (first | (guard_target =~ Calls _ 9 _ _ _; refine Stopped.out ?_) | (refine load1 hS rfl rfl rfl rfl ?_; simp only [putW]) | (refine loadAll hS rfl rfl rfl ?_ ?_; rfl; simp only [putW]) | (refine loadPart hS rfl rfl rfl ?_ rfl ?_; rfl; simp only [putW]) | (refine store1 hS rfl rfl rfl rfl rfl ?_ ?_; (focus (simp; done)); clear hS; intro w hS; simp only [evW, putW] at hS; try simp only [putW]) | (refine storeAll hS rfl rfl rfl rfl ?_ ?_ ?_ ?_; rfl; (focus (simp [Value.oneCell']; done)); rfl; clear hS; intro w hS; try simp only [putW]) | (refine storeN hS rfl rfl rfl rfl ?_ ?_ ?_ ?_; rfl; (focus (simp [Value.oneCell']; done)); (focus (simp; done)); clear hS; intro w hS; simp at hS; try simp only [putW]) | (refine alloc hS rfl rfl ?_; clear hS; intro mb w hS; simp only [putW]) | (refine box1 hS rfl rfl rfl rfl ?_; clear hS; intro mb w hS; try simp only [evW, putW] at hS; simp only [putW]) | (refine boxN hS rfl rfl rfl ?_; clear hS; intro mb w hS; simp only [putW]))
    refine ⟨?_⟩
    obtain ⟨nn, hnn⟩ : ∃ nn : Nat, 1 + (m : Int) = nn := ⟨1 + m, by omega⟩
    rw [hnn]
    have h1 : 1 ≤ nn := by omega
    have h9 : nn ≤ 20 := by omega
    clear hnn hm8
    (refine Calls.mono (tabNew_any (by omega) (by omega)) ?_; rintro _ w2 ⟨t, T, rfl, hT, h2⟩; replace hS := hS.frame h2; clear h2; (try simp only [List.cons_append, List.nil_append] at hS); simp only [putW])
    have HT : Bx _ := ⟨hT⟩
    clear hT
    have hS1 := ofLow (PL := []) (b := T.pm) hS
    clear hS
    have hS := hS1
    clear hS1
    go_wp2_with (first | (guard_target =~ wpList _ _ _ (Oper.mk (some 7) _ _ _ _ _ :: _) _ _; refine Stopped.out ?_) | (refine load1 hS rfl rfl rfl rfl ?_; simp only [putW]) | (refine loadAll hS rfl rfl rfl ?_ ?_; rfl; simp only [putW]) | (refine loadPart hS rfl rfl rfl ?_ rfl ?_; rfl; simp only [putW]) | (refine store1 hS rfl rfl rfl rfl rfl ?_ ?_; (focus (simp; done)); clear hS; intro w hS; simp only [evW, putW] at hS; try simp only [putW]) | (refine storeAll hS rfl rfl rfl rfl ?_ ?_ ?_ ?_; rfl; (focus (simp [Value.oneCell']; done)); rfl; clear hS; intro w hS; try simp only [putW]) | (refine storeN hS rfl rfl rfl rfl ?_ ?_ ?_ ?_; rfl; (focus (simp [Value.oneCell']; done)); (focus (simp; done)); clear hS; intro w hS; simp at hS; try simp only [putW]) | (refine alloc hS rfl rfl ?_; clear hS; intro mb w hS; simp only [putW]) | (refine box1 hS rfl rfl rfl rfl ?_; clear hS; intro mb w hS; try simp only [evW, putW] at hS; simp only [putW]) | (refine boxN hS rfl rfl rfl ?_; clear hS; intro mb w hS; simp only [putW]))
    refine ⟨?_⟩
    refine allocA (vv := Value.int .i64) hS rfl rfl [0, 0, 0, 0, 0] rfl ?_
    clear hS
    intro mh w hS
    simp only [putW]
    go_wp2_with (first | (guard_target =~ wpList _ _ _ (Oper.mk (some 8) _ _ _ _ _ :: _) _ _; refine Stopped.out ?_) | (refine load1 hS rfl rfl rfl rfl ?_; simp only [putW]) | (refine loadAll hS rfl rfl rfl ?_ ?_; rfl; simp only [putW]) | (refine loadPart hS rfl rfl rfl ?_ rfl ?_; rfl; simp only [putW]) | (refine store1 hS rfl rfl rfl rfl rfl ?_ ?_; (focus (simp; done)); clear hS; intro w hS; simp only [evW, putW] at hS; try simp only [putW]) | (refine storeAll hS rfl rfl rfl rfl ?_ ?_ ?_ ?_; rfl; (focus (simp [Value.oneCell']; done)); rfl; clear hS; intro w hS; try simp only [putW]) | (refine storeN hS rfl rfl rfl rfl ?_ ?_ ?_ ?_; rfl; (focus (simp [Value.oneCell']; done)); (focus (simp; done)); clear hS; intro w hS; simp at hS; try simp only [putW]) | (refine alloc hS rfl rfl ?_; clear hS; intro mb w hS; simp only [putW]) | (refine box1 hS rfl rfl rfl rfl ?_; clear hS; intro mb w hS; try simp only [evW, putW] at hS; simp only [putW]) | (refine boxN hS rfl rfl rfl ?_; clear hS; intro mb w hS; simp only [putW]))
    refine ⟨?_⟩
    refine allocA (vv := Value.int .i64) hS rfl rfl [0, 0, 0, 0, 0] rfl ?_
    clear hS
    intro mp w hS
    simp only [putW]
    go_wp2_with (first | (refine load1 hS rfl rfl rfl rfl ?_; simp only [putW]) | (refine loadAll hS rfl rfl rfl ?_ ?_; rfl; simp only [putW]) | (refine loadPart hS rfl rfl rfl ?_ rfl ?_; rfl; simp only [putW]) | (refine store1 hS rfl rfl rfl rfl rfl ?_ ?_; (focus (simp; done)); clear hS; intro w hS; simp only [evW, putW] at hS; try simp only [putW]) | (refine storeAll hS rfl rfl rfl rfl ?_ ?_ ?_ ?_; rfl; (focus (simp [Value.oneCell']; done)); rfl; clear hS; intro w hS; try simp only [putW]) | (refine storeN hS rfl rfl rfl rfl ?_ ?_ ?_ ?_; rfl; (focus (simp [Value.oneCell']; done)); (focus (simp; done)); clear hS; intro w hS; simp at hS; try simp only [putW]) | (refine alloc hS rfl rfl ?_; clear hS; intro mb w hS; simp only [putW]) | (refine box1 hS rfl rfl rfl rfl ?_; clear hS; intro mb w hS; try simp only [evW, putW] at hS; simp only [putW]) | (refine boxN hS rfl rfl rfl ?_; clear hS; intro mb w hS; simp only [putW]))
    go_loopg [9] N (fun g i wr => ∃ (k : Nat) (SL : Shs) (PL : PinsW) (FL : Frs) (H P : List Int), k + g = N ∧ i = .int .i64 k ∧ Bx (Hold SL PL FL H P nn k) ∧ Sat w0 ((t, cells (tbC T) 65) :: (T.fm, mapC encInt frV FL) :: (7, frC FL) :: (T.pm, mapC encW uV PL) :: (T.sm, mapC encInt (Value.int .i64) SL) :: (T.hp, HeatC 0 []) :: (mh, cells (H.map (Value.int .i64)).toArray 41) :: (mp, cells (P.map (Value.int .i64)).toArray 41) :: []) wr)
    case atStart => exact ⟨0, [], [], [], _, _, by omega, rfl, ⟨Hold.start (by omega)⟩, hS.conv⟩
    case round =>
      clear hS
      obtain ⟨k, SL, PL, FL, H, P, hkg, rfl, HH, hS⟩ := hrel
      cases gk with
      | zero =>
        have hkN : k = N := by omega
        subst hkN
        clear hkg
        have e1 : decide ((k : Int) < (la : Int)) = false := decide_eq_false (by omega)
        go_wp2_with (first | (go_at_call 17; refine Calls.mono (awakeF_any) ?_; rintro _ w2 ⟨rfl, h2⟩; replace hS := hS.frame h2; clear h2; (try simp only [List.cons_append, List.nil_append] at hS); simp only [putW]) | (refine load1 hS rfl rfl rfl rfl ?_; simp only [putW]) | (refine loadAll hS rfl rfl rfl ?_ ?_; rfl; simp only [putW]) | (refine loadPart hS rfl rfl rfl ?_ rfl ?_; rfl; simp only [putW]) | (refine store1 hS rfl rfl rfl rfl rfl ?_ ?_; (focus (simp; done)); clear hS; intro w hS; simp only [evW, putW] at hS; try simp only [putW]) | (refine storeAll hS rfl rfl rfl rfl ?_ ?_ ?_ ?_; rfl; (focus (simp [Value.oneCell']; done)); rfl; clear hS; intro w hS; try simp only [putW]) | (refine storeN hS rfl rfl rfl rfl ?_ ?_ ?_ ?_; rfl; (focus (simp [Value.oneCell']; done)); (focus (simp; done)); clear hS; intro w hS; simp at hS; try simp only [putW]) | (refine alloc hS rfl rfl ?_; clear hS; intro mb w hS; simp only [putW]) | (refine box1 hS rfl rfl rfl rfl ?_; clear hS; intro mb w hS; try simp only [evW, putW] at hS; simp only [putW]) | (refine boxN hS rfl rfl rfl ?_; clear hS; intro mb w hS; simp only [putW]))
        go_ret
        exact ⟨rfl, hS.nothing⟩
      | succ g =>
        have hkN : k < N := by omega
        have hkla : k < la := by omega
        have hk100 : k < 100 := by omega
        have e1 : decide ((k : Int) < (la : Int)) = true := decide_eq_true (by omega)
        have e2 : decide ((k : Int) < 100) = true := decide_eq_true (by omega)
        obtain ⟨xa, hx⟩ : ∃ y, L[k]? = some y := ⟨_, List.getElem?_eq_getElem (by rw [HL.out]; exact hkla)⟩
        obtain ⟨b, off, hpa, hBA⟩ := HAT.out (fun h => by rw [h] at hx; cases hx)
        subst hpa
        have hin : AcIn w0 xa := (hBA.2 k xa hx).1
        have hbl : xa.2.1.2.length ≤ 1000 := HB.out k xa (by omega) hx
        obtain ⟨⟨kd, tk, ky⟩, ⟨bv, B⟩, wr1, by1⟩ := xa
        have HIN : Bx (RB w0 B bv) := ⟨hin⟩
        have hcell : bv.oneCell' = true := by
          obtain ⟨q, cb, hbv, -, -⟩ := BSl.at (n := 1) HIN.out
          rw [hbv]; rfl
        have Hcell : Bx _ := ⟨hcell⟩
        have Hbl : Bx (B.length ≤ 1000) := ⟨hbl⟩
        have Hx : Bx _ := ⟨hx⟩
        clear hin hx HAT hbl hcell
        go_wp2_with (first | (refine loadBN (f := acF) (vs := [.int .i64 kd, .int .i64 tk, .int .i64 ky, bv, .bool wr1, .float .f64 by1]) hS rfl rfl rfl hBA k 0 ?_ Hx.out rfl rfl ?_; (focus omega); simp only [putW]) | (refine alloc (t := 44) hS rfl rfl ?_; clear hS; intro ma w hS; simp only [putW]) | (refine storeAll (cs := #[.int .i64 kd, .int .i64 tk, .int .i64 ky, bv, .bool wr1, .float .f64 by1]) hS rfl rfl rfl rfl ?_ ?_ ?_ ?_; (focus rfl); (focus (simp [Value.oneCell']; exact Hcell.out)); (focus rfl); clear hS; intro w hS; try simp only [putW]) | (guard_target =~ Calls _ 8 _ _ _; refine Stopped.out ?_) | (refine load1 hS rfl rfl rfl rfl ?_; simp only [putW]) | (refine loadAll hS rfl rfl rfl ?_ ?_; rfl; simp only [putW]) | (refine loadPart hS rfl rfl rfl ?_ rfl ?_; rfl; simp only [putW]) | (refine store1 hS rfl rfl rfl rfl rfl ?_ ?_; (focus (simp; done)); clear hS; intro w hS; simp only [evW, putW] at hS; try simp only [putW]) | (refine storeAll hS rfl rfl rfl rfl ?_ ?_ ?_ ?_; rfl; (focus (simp [Value.oneCell']; done)); rfl; clear hS; intro w hS; try simp only [putW]) | (refine storeN hS rfl rfl rfl rfl ?_ ?_ ?_ ?_; rfl; (focus (simp [Value.oneCell']; done)); (focus (simp; done)); clear hS; intro w hS; simp at hS; try simp only [putW]) | (refine alloc hS rfl rfl ?_; clear hS; intro mb w hS; simp only [putW]) | (refine box1 hS rfl rfl rfl rfl ?_; clear hS; intro mb w hS; try simp only [evW, putW] at hS; simp only [putW]) | (refine boxN hS rfl rfl rfl ?_; clear hS; intro mb w hS; simp only [putW]))
        refine ⟨?_⟩
        refine Calls.mono (pick_any tk 5 (by omega) (by omega)) ?_
        rintro _ _ ⟨rfl, rfl⟩
        obtain ⟨tt, htt, htt5⟩ : ∃ tt : Nat, tk % 5 = tt ∧ tt < 5 := ⟨(tk % 5).toNat, by omega, by omega⟩
        rw [htt]
        clear htt
        simp only [putW]
        go_wp2_with (first | (guard_target =~ Calls _ 8 _ _ _; refine Stopped.out ?_) | (refine load1 hS rfl rfl rfl rfl ?_; simp only [putW]) | (refine loadAll hS rfl rfl rfl ?_ ?_; rfl; simp only [putW]) | (refine loadPart hS rfl rfl rfl ?_ rfl ?_; rfl; simp only [putW]) | (refine store1 hS rfl rfl rfl rfl rfl ?_ ?_; (focus (simp; done)); clear hS; intro w hS; simp only [evW, putW] at hS; try simp only [putW]) | (refine storeAll hS rfl rfl rfl rfl ?_ ?_ ?_ ?_; rfl; (focus (simp [Value.oneCell']; done)); rfl; clear hS; intro w hS; try simp only [putW]) | (refine storeN hS rfl rfl rfl rfl ?_ ?_ ?_ ?_; rfl; (focus (simp [Value.oneCell']; done)); (focus (simp; done)); clear hS; intro w hS; simp at hS; try simp only [putW]) | (refine alloc hS rfl rfl ?_; clear hS; intro mb w hS; simp only [putW]) | (refine box1 hS rfl rfl rfl rfl ?_; clear hS; intro mb w hS; try simp only [evW, putW] at hS; simp only [putW]) | (refine boxN hS rfl rfl rfl ?_; clear hS; intro mb w hS; simp only [putW]))
        refine ⟨?_⟩
        refine Calls.mono (pick_any kd 4 (by omega) (by omega)) ?_
        rintro _ _ ⟨rfl, rfl⟩
        obtain ⟨q4, hq4⟩ : ∃ q4 : Int, kd % 4 = q4 := ⟨_, rfl⟩
        rw [hq4]
        clear hq4
        simp only [putW]

        go_upto_block 2 with (first | (refine load1 hS rfl rfl rfl rfl ?_; simp only [putW]) | (refine loadAll hS rfl rfl rfl ?_ ?_; rfl; simp only [putW]) | (refine loadPart hS rfl rfl rfl ?_ rfl ?_; rfl; simp only [putW]) | (refine store1 hS rfl rfl rfl rfl rfl ?_ ?_; (focus (simp; done)); clear hS; intro w hS; simp only [evW, putW] at hS; try simp only [putW]) | (refine storeAll hS rfl rfl rfl rfl ?_ ?_ ?_ ?_; rfl; (focus (simp [Value.oneCell']; done)); rfl; clear hS; intro w hS; try simp only [putW]) | (refine storeN hS rfl rfl rfl rfl ?_ ?_ ?_ ?_; rfl; (focus (simp [Value.oneCell']; done)); (focus (simp; done)); clear hS; intro w hS; simp at hS; try simp only [putW]) | (refine alloc hS rfl rfl ?_; clear hS; intro mb w hS; simp only [putW]) | (refine box1 hS rfl rfl rfl rfl ?_; clear hS; intro mb w hS; try simp only [evW, putW] at hS; simp only [putW]) | (refine boxN hS rfl rfl rfl ?_; clear hS; intro mb w hS; simp only [putW]))
        go_cut [12, 13] from 51 to 117 (fun _k _f wc => ∃ (SL : Shs) (PL : PinsW) (FL : Frs) (H P : List Int), Bx (Hold SL PL FL H P nn (k + 1)) ∧ Sat w0 ((t, cells (tbC T) 65) :: (T.fm, mapC encInt frV FL) :: (7, frC FL) :: (T.pm, mapC encW uV PL) :: (T.sm, mapC encInt (Value.int .i64) SL) :: (T.hp, HeatC 0 []) :: (mh, cells (H.map (Value.int .i64)).toArray 41) :: (mp, cells (P.map (Value.int .i64)).toArray 41) :: []) wc)
        case first =>
          obtain ⟨p0, hp0⟩ : ∃ p, P[tt]? = some p := ⟨_, List.getElem?_eq_getElem (by rw [HH.out.pl]; exact htt5)⟩
          obtain ⟨hh, hhh⟩ : ∃ h, H[tt]? = some h := ⟨_, List.getElem?_eq_getElem (by rw [HH.out.hl]; exact htt5)⟩
          have HP0 : Bx _ := ⟨hp0⟩
          have HH0 : Bx _ := ⟨hhh⟩
          have HLH : Bx (tt < H.length) := ⟨by rw [HH.out.hl]; exact htt5⟩
          have HLP : Bx (tt < P.length) := ⟨by rw [HH.out.pl]; exact htt5⟩
          have HB0 : Bx (0 ≤ p0 ∧ p0 ≤ 1024 ∧ 0 ≤ hh ∧ hh ≤ 1024) := ⟨by
            have h1 := HH.out.lt tt p0 hh hp0 hhh
            have h2 := HH.out.each hhh
            omega⟩
          have hp00 : 0 ≤ p0 := HB0.out.1
          have hp01 : p0 ≤ 1024 := HB0.out.2.1
          have hh00 : 0 ≤ hh := HB0.out.2.2.1
          have hh01 : hh ≤ 1024 := HB0.out.2.2.2
          clear hp0 hhh HB0
          by_cases hq0 : q4 = 0
          · subst hq0
            go_wp2_with (first | (guard_target =~ Calls _ 19 _ _ _; refine Stopped.out ?_) | (refine load1 hS rfl rfl rfl rfl ?_; simp only [putW]) | (refine loadAll hS rfl rfl rfl ?_ ?_; rfl; simp only [putW]) | (refine loadPart hS rfl rfl rfl ?_ rfl ?_; rfl; simp only [putW]) | (refine store1 hS rfl rfl rfl rfl rfl ?_ ?_; (focus (simp; done)); clear hS; intro w hS; simp only [evW, putW] at hS; try simp only [putW]) | (refine storeAll hS rfl rfl rfl rfl ?_ ?_ ?_ ?_; rfl; (focus (simp [Value.oneCell']; done)); rfl; clear hS; intro w hS; try simp only [putW]) | (refine storeN hS rfl rfl rfl rfl ?_ ?_ ?_ ?_; rfl; (focus (simp [Value.oneCell']; done)); (focus (simp; done)); clear hS; intro w hS; simp at hS; try simp only [putW]) | (refine alloc hS rfl rfl ?_; clear hS; intro mb w hS; simp only [putW]) | (refine box1 hS rfl rfl rfl rfl ?_; clear hS; intro mb w hS; try simp only [evW, putW] at hS; simp only [putW]) | (refine boxN hS rfl rfl rfl ?_; clear hS; intro mb w hS; simp only [putW]))
            refine ⟨?_⟩
            refine Calls.mono (reserve_any (task := (tt : Int)) (n := ky) (SL := SL) HH.out.sv (by rw [HT.out]; exact HH.out.sn) (by rw [HT.out]; omega) (hS.conv (S' := (t, cells (tbC T) 65) :: (T.sm, mapC encInt (Value.int .i64) SL) :: (T.fm, mapC encInt frV FL) :: (7, frC FL) :: (T.pm, mapC encW uV PL) :: (T.hp, HeatC 0 []) :: (mh, cells (H.map (Value.int .i64)).toArray 41) :: (mp, cells (P.map (Value.int .i64)).toArray 41) :: (ma, cells #[.int .i64 kd, .int .i64 tk, .int .i64 ky, bv, .bool wr1, .float .f64 by1] 44) :: []))) ?_
            clear hS
            rintro _ w ⟨r, rfl, SL2, hres, hS⟩
            simp only [putW]
            rcases hres with ⟨rfl, hSL, hn1, hn2, hn3⟩ | ⟨hr0, hSL⟩
            · rw [HT.out] at hn2
              have HH2 : Bx _ := ⟨(HH.out.reserve htt5 hn1 hn2 hn3).up⟩
              subst hSL
              clear hn1 hn2 hn3
              go_wp2_with (first | (refine storeAi (vv := Value.int .i64) hS rfl rfl rfl (tt) (ky) ?_ rfl ?_ ?_ ?_; (focus (rfl)); (focus (first | omega | rfl)); (focus (exact HLH.out)); clear hS; intro w hS; try simp only [putW]) | (refine load1 hS rfl rfl rfl rfl ?_; simp only [putW]) | (refine loadAll hS rfl rfl rfl ?_ ?_; rfl; simp only [putW]) | (refine loadPart hS rfl rfl rfl ?_ rfl ?_; rfl; simp only [putW]) | (refine store1 hS rfl rfl rfl rfl rfl ?_ ?_; (focus (simp; done)); clear hS; intro w hS; simp only [evW, putW] at hS; try simp only [putW]) | (refine storeAll hS rfl rfl rfl rfl ?_ ?_ ?_ ?_; rfl; (focus (simp [Value.oneCell']; done)); rfl; clear hS; intro w hS; try simp only [putW]) | (refine storeN hS rfl rfl rfl rfl ?_ ?_ ?_ ?_; rfl; (focus (simp [Value.oneCell']; done)); (focus (simp; done)); clear hS; intro w hS; simp at hS; try simp only [putW]) | (refine alloc hS rfl rfl ?_; clear hS; intro mb w hS; simp only [putW]) | (refine box1 hS rfl rfl rfl rfl ?_; clear hS; intro mb w hS; try simp only [evW, putW] at hS; simp only [putW]) | (refine boxN hS rfl rfl rfl ?_; clear hS; intro mb w hS; simp only [putW]))
              go_meet
              case rel => exact ⟨_, _, _, _, _, HH2, hS.conv⟩
            · have HH2 : Bx _ := ⟨HH.out.up⟩
              subst hSL
              go_wp2_with (first | (refine load1 hS rfl rfl rfl rfl ?_; simp only [putW]) | (refine loadAll hS rfl rfl rfl ?_ ?_; rfl; simp only [putW]) | (refine loadPart hS rfl rfl rfl ?_ rfl ?_; rfl; simp only [putW]) | (refine store1 hS rfl rfl rfl rfl rfl ?_ ?_; (focus (simp; done)); clear hS; intro w hS; simp only [evW, putW] at hS; try simp only [putW]) | (refine storeAll hS rfl rfl rfl rfl ?_ ?_ ?_ ?_; rfl; (focus (simp [Value.oneCell']; done)); rfl; clear hS; intro w hS; try simp only [putW]) | (refine storeN hS rfl rfl rfl rfl ?_ ?_ ?_ ?_; rfl; (focus (simp [Value.oneCell']; done)); (focus (simp; done)); clear hS; intro w hS; simp at hS; try simp only [putW]) | (refine alloc hS rfl rfl ?_; clear hS; intro mb w hS; simp only [putW]) | (refine box1 hS rfl rfl rfl rfl ?_; clear hS; intro mb w hS; try simp only [evW, putW] at hS; simp only [putW]) | (refine boxN hS rfl rfl rfl ?_; clear hS; intro mb w hS; simp only [putW]))
              go_meet
              case rel => exact ⟨_, _, _, _, _, HH2, hS.conv⟩
          · by_cases hq1 : q4 = 1
            · subst hq1
              have NS := keysOf (b := T.sm) (l := SL) hS
              have NP := keysOf (b := T.pm) (l := PL) hS
              have HNS : Bx _ := ⟨NS⟩
              have HNP : Bx _ := ⟨NP⟩
              clear NS NP
              go_wp2_with (first | (guard_target =~ Calls _ 15 _ _ _; refine Stopped.out ?_) | (refine load1 hS rfl rfl rfl rfl ?_; simp only [putW]) | (refine loadAll hS rfl rfl rfl ?_ ?_; rfl; simp only [putW]) | (refine loadPart hS rfl rfl rfl ?_ rfl ?_; rfl; simp only [putW]) | (refine store1 hS rfl rfl rfl rfl rfl ?_ ?_; (focus (simp; done)); clear hS; intro w hS; simp only [evW, putW] at hS; try simp only [putW]) | (refine storeAll hS rfl rfl rfl rfl ?_ ?_ ?_ ?_; rfl; (focus (simp [Value.oneCell']; done)); rfl; clear hS; intro w hS; try simp only [putW]) | (refine storeN hS rfl rfl rfl rfl ?_ ?_ ?_ ?_; rfl; (focus (simp [Value.oneCell']; done)); (focus (simp; done)); clear hS; intro w hS; simp at hS; try simp only [putW]) | (refine alloc hS rfl rfl ?_; clear hS; intro mb w hS; simp only [putW]) | (refine box1 hS rfl rfl rfl rfl ?_; clear hS; intro mb w hS; try simp only [evW, putW] at hS; simp only [putW]) | (refine boxN hS rfl rfl rfl ?_; clear hS; intro mb w hS; simp only [putW]))
              refine ⟨?_⟩
              refine Calls.mono (free_any (task := (tt : Int)) (PL := PL) (SL := SL) (hS.conv (S' := (t, cells (tbC T) 65) :: (T.pm, mapC encW uV PL) :: (T.sm, mapC encInt (Value.int .i64) SL) :: (T.fm, mapC encInt frV FL) :: (7, frC FL) :: (T.hp, HeatC 0 []) :: (mh, cells (H.map (Value.int .i64)).toArray 41) :: (mp, cells (P.map (Value.int .i64)).toArray 41) :: []))) ?_
              clear hS
              rintro _ w ⟨PL2, rfl, hg, hS⟩
              have NP2 := keysOf (b := T.pm) (l := PL2) hS
              have HH2 : Bx _ := ⟨(HH.out.free htt5 HNS.out HNP.out NP2 hg).up⟩
              clear NP2 hg
              simp only [putW]
              go_wp2_with (first | (refine storeAi (vv := Value.int .i64) hS rfl rfl rfl (tt) (0) ?_ rfl ?_ ?_ ?_; (focus (rfl)); (focus (first | omega | rfl)); (focus (first | exact HLH.out | exact HLP.out)); clear hS; intro w hS; try simp only [putW]) | (refine load1 hS rfl rfl rfl rfl ?_; simp only [putW]) | (refine loadAll hS rfl rfl rfl ?_ ?_; rfl; simp only [putW]) | (refine loadPart hS rfl rfl rfl ?_ rfl ?_; rfl; simp only [putW]) | (refine store1 hS rfl rfl rfl rfl rfl ?_ ?_; (focus (simp; done)); clear hS; intro w hS; simp only [evW, putW] at hS; try simp only [putW]) | (refine storeAll hS rfl rfl rfl rfl ?_ ?_ ?_ ?_; rfl; (focus (simp [Value.oneCell']; done)); rfl; clear hS; intro w hS; try simp only [putW]) | (refine storeN hS rfl rfl rfl rfl ?_ ?_ ?_ ?_; rfl; (focus (simp [Value.oneCell']; done)); (focus (simp; done)); clear hS; intro w hS; simp at hS; try simp only [putW]) | (refine alloc hS rfl rfl ?_; clear hS; intro mb w hS; simp only [putW]) | (refine box1 hS rfl rfl rfl rfl ?_; clear hS; intro mb w hS; try simp only [evW, putW] at hS; simp only [putW]) | (refine boxN hS rfl rfl rfl ?_; clear hS; intro mb w hS; simp only [putW]))
              go_meet
              case rel => exact ⟨_, _, _, _, _, HH2, hS.conv⟩
            · by_cases hlt : hh ≤ p0 + 1
              · have HH2 : Bx _ := ⟨HH.out.up⟩
                have d3 : decide (hh ≤ p0 + 1) = true := decide_eq_true hlt
                go_upto_region 14 with (first | (refine load1 hS rfl rfl rfl rfl ?_; simp only [putW]) | (refine loadAll hS rfl rfl rfl ?_ ?_; rfl; simp only [putW]) | (refine loadPart hS rfl rfl rfl ?_ rfl ?_; rfl; simp only [putW]) | (refine store1 hS rfl rfl rfl rfl rfl ?_ ?_; (focus (simp; done)); clear hS; intro w hS; simp only [evW, putW] at hS; try simp only [putW]) | (refine storeAll hS rfl rfl rfl rfl ?_ ?_ ?_ ?_; rfl; (focus (simp [Value.oneCell']; done)); rfl; clear hS; intro w hS; try simp only [putW]) | (refine storeN hS rfl rfl rfl rfl ?_ ?_ ?_ ?_; rfl; (focus (simp [Value.oneCell']; done)); (focus (simp; done)); clear hS; intro w hS; simp at hS; try simp only [putW]) | (refine alloc hS rfl rfl ?_; clear hS; intro mb w hS; simp only [putW]) | (refine box1 hS rfl rfl rfl rfl ?_; clear hS; intro mb w hS; try simp only [evW, putW] at hS; simp only [putW]) | (refine boxN hS rfl rfl rfl ?_; clear hS; intro mb w hS; simp only [putW]))
                (refine region_quiet hS (by kernel_rfl) (by kernel_rfl) (by kernel_rfl) ?_; clear hS; (repeat (apply quiet_step; (focus (intro w hS; go_wp2_with (first | (refine loadAi (vv := Value.int .i64) (l := P) hS rfl rfl rfl (tt) (HP0.out) ?_ ?_; (focus (first | omega | rfl)); simp only [putW]) | (refine loadAi (vv := Value.int .i64) (l := H) hS rfl rfl rfl (tt) (HH0.out) ?_ ?_; (focus (first | omega | rfl)); simp only [putW]) | (refine load1 hS rfl rfl rfl rfl ?_; simp only [putW]) | (refine loadAll hS rfl rfl rfl ?_ ?_; rfl; simp only [putW]) | (refine loadPart hS rfl rfl rfl ?_ rfl ?_; rfl; simp only [putW])); exact ⟨rfl, rfl, hS⟩)); simp only [putW])); refine quiet_nil ?_; intro w hS)
                go_wp2_with (first | (refine load1 hS rfl rfl rfl rfl ?_; simp only [putW]) | (refine loadAll hS rfl rfl rfl ?_ ?_; rfl; simp only [putW]) | (refine loadPart hS rfl rfl rfl ?_ rfl ?_; rfl; simp only [putW]) | (refine store1 hS rfl rfl rfl rfl rfl ?_ ?_; (focus (simp; done)); clear hS; intro w hS; simp only [evW, putW] at hS; try simp only [putW]) | (refine storeAll hS rfl rfl rfl rfl ?_ ?_ ?_ ?_; rfl; (focus (simp [Value.oneCell']; done)); rfl; clear hS; intro w hS; try simp only [putW]) | (refine storeN hS rfl rfl rfl rfl ?_ ?_ ?_ ?_; rfl; (focus (simp [Value.oneCell']; done)); (focus (simp; done)); clear hS; intro w hS; simp at hS; try simp only [putW]) | (refine alloc hS rfl rfl ?_; clear hS; intro mb w hS; simp only [putW]) | (refine box1 hS rfl rfl rfl rfl ?_; clear hS; intro mb w hS; try simp only [evW, putW] at hS; simp only [putW]) | (refine boxN hS rfl rfl rfl ?_; clear hS; intro mb w hS; simp only [putW]))
                go_roundg g
                case measure => omega
                case rel => exact ⟨k + 1, _, _, _, _, _, by omega, by go_num, HH2, hS.conv⟩
              · have d3 : decide (hh ≤ p0 + 1) = false := decide_eq_false hlt
                have hlt2 : Bx (p0 + 1 < hh) := ⟨by omega⟩
                clear hlt
                go_upto_region 14 with (first | (refine load1 hS rfl rfl rfl rfl ?_; simp only [putW]) | (refine loadAll hS rfl rfl rfl ?_ ?_; rfl; simp only [putW]) | (refine loadPart hS rfl rfl rfl ?_ rfl ?_; rfl; simp only [putW]) | (refine store1 hS rfl rfl rfl rfl rfl ?_ ?_; (focus (simp; done)); clear hS; intro w hS; simp only [evW, putW] at hS; try simp only [putW]) | (refine storeAll hS rfl rfl rfl rfl ?_ ?_ ?_ ?_; rfl; (focus (simp [Value.oneCell']; done)); rfl; clear hS; intro w hS; try simp only [putW]) | (refine storeN hS rfl rfl rfl rfl ?_ ?_ ?_ ?_; rfl; (focus (simp [Value.oneCell']; done)); (focus (simp; done)); clear hS; intro w hS; simp at hS; try simp only [putW]) | (refine alloc hS rfl rfl ?_; clear hS; intro mb w hS; simp only [putW]) | (refine box1 hS rfl rfl rfl rfl ?_; clear hS; intro mb w hS; try simp only [evW, putW] at hS; simp only [putW]) | (refine boxN hS rfl rfl rfl ?_; clear hS; intro mb w hS; simp only [putW]))
                (refine region_quiet hS (by kernel_rfl) (by kernel_rfl) (by kernel_rfl) ?_; clear hS; (repeat (apply quiet_step; (focus (intro w hS; go_wp2_with (first | (refine loadAi (vv := Value.int .i64) (l := P) hS rfl rfl rfl (tt) (HP0.out) ?_ ?_; (focus (first | omega | rfl)); simp only [putW]) | (refine loadAi (vv := Value.int .i64) (l := H) hS rfl rfl rfl (tt) (HH0.out) ?_ ?_; (focus (first | omega | rfl)); simp only [putW]) | (refine load1 hS rfl rfl rfl rfl ?_; simp only [putW]) | (refine loadAll hS rfl rfl rfl ?_ ?_; rfl; simp only [putW]) | (refine loadPart hS rfl rfl rfl ?_ rfl ?_; rfl; simp only [putW])); exact ⟨rfl, rfl, hS⟩)); simp only [putW])); refine quiet_nil ?_; intro w hS)
                go_wp2_with (first | (guard_target =~ Calls _ 13 _ _ _; refine Stopped.out ?_) | (refine load1 hS rfl rfl rfl rfl ?_; simp only [putW]) | (refine loadAll hS rfl rfl rfl ?_ ?_; rfl; simp only [putW]) | (refine loadPart hS rfl rfl rfl ?_ rfl ?_; rfl; simp only [putW]) | (refine store1 hS rfl rfl rfl rfl rfl ?_ ?_; (focus (simp; done)); clear hS; intro w hS; simp only [evW, putW] at hS; try simp only [putW]) | (refine storeAll hS rfl rfl rfl rfl ?_ ?_ ?_ ?_; rfl; (focus (simp [Value.oneCell']; done)); rfl; clear hS; intro w hS; try simp only [putW]) | (refine storeN hS rfl rfl rfl rfl ?_ ?_ ?_ ?_; rfl; (focus (simp [Value.oneCell']; done)); (focus (simp; done)); clear hS; intro w hS; simp at hS; try simp only [putW]) | (refine alloc hS rfl rfl ?_; clear hS; intro mb w hS; simp only [putW]) | (refine box1 hS rfl rfl rfl rfl ?_; clear hS; intro mb w hS; try simp only [evW, putW] at hS; simp only [putW]) | (refine boxN hS rfl rfl rfl ?_; clear hS; intro mb w hS; simp only [putW]))
                refine ⟨?_⟩
                refine Calls.mono (victimH HH.out HT.out (by omega) (hS.conv (S' := (t, cells (tbC T) 65) :: (T.fm, mapC encInt frV FL) :: (T.pm, mapC encW uV PL) :: (T.hp, HeatC 0 []) :: (7, frC FL) :: (T.sm, mapC encInt (Value.int .i64) SL) :: (mh, cells (H.map (Value.int .i64)).toArray 41) :: (mp, cells (P.map (Value.int .i64)).toArray 41) :: (ma, cells #[.int .i64 kd, .int .i64 tk, .int .i64 ky, bv, .bool wr1, .float .f64 by1] 44) :: []))) ?_
                clear hS
                rintro _ w ⟨kk, ff, rfl, hres, hS⟩
                simp only [putW]
                go_upto_region 16 with (first | (refine load1 hS rfl rfl rfl rfl ?_; simp only [putW]) | (refine loadAll hS rfl rfl rfl ?_ ?_; rfl; simp only [putW]) | (refine loadPart hS rfl rfl rfl ?_ rfl ?_; rfl; simp only [putW]) | (refine store1 hS rfl rfl rfl rfl rfl ?_ ?_; (focus (simp; done)); clear hS; intro w hS; simp only [evW, putW] at hS; try simp only [putW]) | (refine storeAll hS rfl rfl rfl rfl ?_ ?_ ?_ ?_; rfl; (focus (simp [Value.oneCell']; done)); rfl; clear hS; intro w hS; try simp only [putW]) | (refine storeN hS rfl rfl rfl rfl ?_ ?_ ?_ ?_; rfl; (focus (simp [Value.oneCell']; done)); (focus (simp; done)); clear hS; intro w hS; simp at hS; try simp only [putW]) | (refine alloc hS rfl rfl ?_; clear hS; intro mb w hS; simp only [putW]) | (refine box1 hS rfl rfl rfl rfl ?_; clear hS; intro mb w hS; try simp only [evW, putW] at hS; simp only [putW]) | (refine boxN hS rfl rfl rfl ?_; clear hS; intro mb w hS; simp only [putW]))
                go_cut [75] from 64 to 74 (fun v wc => v = .bool false ∧ ∃ FL2 : Frs, Bx ((∀ k ∈ mkeys FL2, k ∈ mkeys FL) ∧ (FL2.length : Int) < nn) ∧ Sat w0 ((t, cells (tbC T) 65) :: (T.fm, mapC encInt frV FL2) :: (7, frC FL2) :: (T.pm, mapC encW uV PL) :: (T.sm, mapC encInt (Value.int .i64) SL) :: (T.hp, HeatC 0 []) :: (mh, cells (H.map (Value.int .i64)).toArray 41) :: (mp, cells (P.map (Value.int .i64)).toArray 41) :: (ma, cells #[.int .i64 kd, .int .i64 tk, .int .i64 ky, bv, .bool wr1, .float .f64 by1] 44) :: []) wc)
                case first =>
                  have NF := keysOf (b := T.fm) (l := FL) hS
                  have HNF : Bx _ := ⟨NF⟩
                  clear NF
                  rcases hres with ⟨rfl, hfl⟩ | ⟨rfl, h0⟩ | ⟨rfl, hfl, hsome, hpin⟩
                  · have HF : Bx _ := ⟨hfl⟩
                    clear hfl
                    go_wp2_with (first | (refine load1 hS rfl rfl rfl rfl ?_; simp only [putW]) | (refine loadAll hS rfl rfl rfl ?_ ?_; rfl; simp only [putW]) | (refine loadPart hS rfl rfl rfl ?_ rfl ?_; rfl; simp only [putW]) | (refine store1 hS rfl rfl rfl rfl rfl ?_ ?_; (focus (simp; done)); clear hS; intro w hS; simp only [evW, putW] at hS; try simp only [putW]) | (refine storeAll hS rfl rfl rfl rfl ?_ ?_ ?_ ?_; rfl; (focus (simp [Value.oneCell']; done)); rfl; clear hS; intro w hS; try simp only [putW]) | (refine storeN hS rfl rfl rfl rfl ?_ ?_ ?_ ?_; rfl; (focus (simp [Value.oneCell']; done)); (focus (simp; done)); clear hS; intro w hS; simp at hS; try simp only [putW]) | (refine alloc hS rfl rfl ?_; clear hS; intro mb w hS; simp only [putW]) | (refine box1 hS rfl rfl rfl rfl ?_; clear hS; intro mb w hS; try simp only [evW, putW] at hS; simp only [putW]) | (refine boxN hS rfl rfl rfl ?_; clear hS; intro mb w hS; simp only [putW]))
                    go_meet
                    case rel => exact ⟨rfl, FL, ⟨fun _ h => h, HF.out⟩, hS.conv⟩
                  · exfalso
                    have h1 := HH.out.each HH0.out
                    have h2 := sum_lt (P := P) (H := H) (by rw [HH.out.pl, HH.out.hl]) HH.out.lt
                    have h3 := HH.out.lt tt p0 hh HP0.out HH0.out
                    have h5 : hh ≤ H.sum := HH.out.le_sum HH0.out
                    have h6 := hlt2.out
                    omega
                  · have HF : Bx _ := ⟨hfl⟩
                    have HSome : Bx _ := ⟨hsome⟩
                    have HPin : Bx _ := ⟨hpin⟩
                    clear hfl hsome hpin
                    have hS1 := toLow (PL := PL) (b := T.pm) hS
                    clear hS
                    have hS := hS1
                    clear hS1
                    go_wp2_with (first | (guard_target =~ Calls _ 14 _ _ _; refine Stopped.out ?_) | (refine load1 hS rfl rfl rfl rfl ?_; simp only [putW]) | (refine loadAll hS rfl rfl rfl ?_ ?_; rfl; simp only [putW]) | (refine loadPart hS rfl rfl rfl ?_ rfl ?_; rfl; simp only [putW]) | (refine store1 hS rfl rfl rfl rfl rfl ?_ ?_; (focus (simp; done)); clear hS; intro w hS; simp only [evW, putW] at hS; try simp only [putW]) | (refine storeAll hS rfl rfl rfl rfl ?_ ?_ ?_ ?_; rfl; (focus (simp [Value.oneCell']; done)); rfl; clear hS; intro w hS; try simp only [putW]) | (refine storeN hS rfl rfl rfl rfl ?_ ?_ ?_ ?_; rfl; (focus (simp [Value.oneCell']; done)); (focus (simp; done)); clear hS; intro w hS; simp at hS; try simp only [putW]) | (refine alloc hS rfl rfl ?_; clear hS; intro mb w hS; simp only [putW]) | (refine box1 hS rfl rfl rfl rfl ?_; clear hS; intro mb w hS; try simp only [evW, putW] at hS; simp only [putW]) | (refine boxN hS rfl rfl rfl ?_; clear hS; intro mb w hS; simp only [putW]))
                    refine ⟨?_⟩
                    refine Calls.mono (drop_any (key := kk) (PL := low PL) (FL := FL) (now := 0) (sp := []) HSome.out HPin.out (hS.conv (S' := (t, cells (tbC T) 65) :: (T.fm, mapC encInt frV FL) :: (T.pm, mapC encP uV (low PL)) :: (T.hp, HeatC 0 []) :: (7, frC FL) :: (T.sm, mapC encInt (Value.int .i64) SL) :: (mh, cells (H.map (Value.int .i64)).toArray 41) :: (mp, cells (P.map (Value.int .i64)).toArray 41) :: (ma, cells #[.int .i64 kd, .int .i64 tk, .int .i64 ky, bv, .bool wr1, .float .f64 by1] 44) :: []))) ?_
                    clear hS
                    rintro _ w ⟨rfl, hS⟩
                    rw [show mdel ([] : Spots) kk = [] from rfl] at hS
                    have hS1 := ofLow (PL := PL) (b := T.pm) hS
                    clear hS
                    have hS := (frCut HSome.out HNF.out (hS1.pull 7 (X := frC FL)))
                    clear hS1
                    simp only [putW]
                    go_wp2_with (first | (refine load1 hS rfl rfl rfl rfl ?_; simp only [putW]) | (refine loadAll hS rfl rfl rfl ?_ ?_; rfl; simp only [putW]) | (refine loadPart hS rfl rfl rfl ?_ rfl ?_; rfl; simp only [putW]) | (refine store1 hS rfl rfl rfl rfl rfl ?_ ?_; (focus (simp; done)); clear hS; intro w hS; simp only [evW, putW] at hS; try simp only [putW]) | (refine storeAll hS rfl rfl rfl rfl ?_ ?_ ?_ ?_; rfl; (focus (simp [Value.oneCell']; done)); rfl; clear hS; intro w hS; try simp only [putW]) | (refine storeN hS rfl rfl rfl rfl ?_ ?_ ?_ ?_; rfl; (focus (simp [Value.oneCell']; done)); (focus (simp; done)); clear hS; intro w hS; simp at hS; try simp only [putW]) | (refine alloc hS rfl rfl ?_; clear hS; intro mb w hS; simp only [putW]) | (refine box1 hS rfl rfl rfl rfl ?_; clear hS; intro mb w hS; try simp only [evW, putW] at hS; simp only [putW]) | (refine boxN hS rfl rfl rfl ?_; clear hS; intro mb w hS; simp only [putW]))
                    go_meet
                    case rel => exact ⟨rfl, mdel FL kk, ⟨fun k hk => by rw [mkeys_mdel] at hk; exact (List.mem_filter.1 hk).1, by have := mdel_len HSome.out HNF.out; have := HF.out; omega⟩, hS.conv⟩
                case rest =>
                  clear hS hres
                  obtain ⟨rfl, FL2, HF2, hS⟩ := hcut
                  have hkey : mget FL2 (1000 + (k : Int)) = none := mget_none.2 fun hm => by
                    have := HH.out.fk _ (HF2.out.1 _ hm)
                    omega
                  have HKey : Bx _ := ⟨hkey⟩
                  have hok : okI (tt : Int) ∧ okI (1000 + (k : Int)) := ⟨⟨by omega, by omega⟩, ⟨by omega, by omega⟩⟩
                  clear hkey
                  go_wp2_with (first | (guard_target =~ Calls _ 10 _ _ _; refine Stopped.out ?_) | (refine load1 hS rfl rfl rfl rfl ?_; simp only [putW]) | (refine loadAll hS rfl rfl rfl ?_ ?_; rfl; simp only [putW]) | (refine loadPart hS rfl rfl rfl ?_ rfl ?_; rfl; simp only [putW]) | (refine store1 hS rfl rfl rfl rfl rfl ?_ ?_; (focus (simp; done)); clear hS; intro w hS; simp only [evW, putW] at hS; try simp only [putW]) | (refine storeAll hS rfl rfl rfl rfl ?_ ?_ ?_ ?_; rfl; (focus (simp [Value.oneCell']; done)); rfl; clear hS; intro w hS; try simp only [putW]) | (refine storeN hS rfl rfl rfl rfl ?_ ?_ ?_ ?_; rfl; (focus (simp [Value.oneCell']; done)); (focus (simp; done)); clear hS; intro w hS; simp at hS; try simp only [putW]) | (refine alloc hS rfl rfl ?_; clear hS; intro mb w hS; simp only [putW]) | (refine box1 hS rfl rfl rfl rfl ?_; clear hS; intro mb w hS; try simp only [evW, putW] at hS; simp only [putW]) | (refine boxN hS rfl rfl rfl ?_; clear hS; intro mb w hS; simp only [putW]))
                  refine ⟨?_⟩
                  refine Calls.mono (putNew_any (T := T) (K := (T.pm, mapC encW uV PL) :: (T.sm, mapC encInt (Value.int .i64) SL) :: (T.hp, HeatC 0 []) :: (mh, cells (H.map (Value.int .i64)).toArray 41) :: (mp, cells (P.map (Value.int .i64)).toArray 41) :: (ma, cells #[.int .i64 kd, .int .i64 tk, .int .i64 ky, bv, .bool wr1, .float .f64 by1] 44) :: []) (FL := FL2) (A := B) (fun w' hw => HIN.out.mono hw.base) (by have := Hbl.out; omega) HKey.out (by rw [HT.out]; exact HF2.out.2) (by rw [HT.out]; omega) hS.conv) ?_
                  clear hS
                  rintro _ w ⟨f9, v9, rfl, hS⟩
                  have HH3 : Bx _ := ⟨HH.out.pin (x := (some ⟨f9, 0, none⟩, v9, B, false)) (ok := hok) (FL2 := FL2) htt5 HP0.out HH0.out hlt2.out HF2.out.1 HF2.out.2⟩
                  obtain ⟨FL3, hFL3⟩ : ∃ FL3 : Frs, FL2 ++ [(1000 + (k : Int), ((some ⟨f9, 0, none⟩, v9, B, false) : FrV))] = FL3 := ⟨_, rfl⟩
                  have HSome3 : Bx ((mget FL3 (1000 + (k : Int))).isSome = true) := ⟨by rw [← hFL3, mget_append, HKey.out]; simp [mget_cons]⟩
                  rw [hFL3] at hS HH3
                  clear hFL3
                  simp only [putW]
                  go_wp2_with (first | (guard_target =~ Calls _ 12 _ _ _; refine Stopped.out ?_) | (refine load1 hS rfl rfl rfl rfl ?_; simp only [putW]) | (refine loadAll hS rfl rfl rfl ?_ ?_; rfl; simp only [putW]) | (refine loadPart hS rfl rfl rfl ?_ rfl ?_; rfl; simp only [putW]) | (refine store1 hS rfl rfl rfl rfl rfl ?_ ?_; (focus (simp; done)); clear hS; intro w hS; simp only [evW, putW] at hS; try simp only [putW]) | (refine storeAll hS rfl rfl rfl rfl ?_ ?_ ?_ ?_; rfl; (focus (simp [Value.oneCell']; done)); rfl; clear hS; intro w hS; try simp only [putW]) | (refine storeN hS rfl rfl rfl rfl ?_ ?_ ?_ ?_; rfl; (focus (simp [Value.oneCell']; done)); (focus (simp; done)); clear hS; intro w hS; simp at hS; try simp only [putW]) | (refine alloc hS rfl rfl ?_; clear hS; intro mb w hS; simp only [putW]) | (refine box1 hS rfl rfl rfl rfl ?_; clear hS; intro mb w hS; try simp only [evW, putW] at hS; simp only [putW]) | (refine boxN hS rfl rfl rfl ?_; clear hS; intro mb w hS; simp only [putW]))
                  refine ⟨?_⟩
                  refine Calls.mono (pin_any (pk := ⟨((tt : Int), 1000 + (k : Int)), hok⟩) (FL := FL3) (PL := PL) HSome3.out (hS.conv (S' := (t, cells (tbC T) 65) :: (T.fm, mapC encInt frV FL3) :: (T.pm, mapC encW uV PL) :: (7, frC FL3) :: (T.sm, mapC encInt (Value.int .i64) SL) :: (T.hp, HeatC 0 []) :: (mh, cells (H.map (Value.int .i64)).toArray 41) :: (mp, cells (P.map (Value.int .i64)).toArray 41) :: (ma, cells #[.int .i64 kd, .int .i64 tk, .int .i64 ky, bv, .bool wr1, .float .f64 by1] 44) :: []))) ?_
                  clear hS
                  rintro _ w ⟨rfl, hS⟩
                  simp only [putW]
                  go_wp2_with (first | (refine loadAi (vv := Value.int .i64) (l := P) hS rfl rfl rfl (tt) (HP0.out) ?_ ?_; (focus (first | omega | rfl)); simp only [putW]) | (refine storeAi (vv := Value.int .i64) hS rfl rfl rfl (tt) (p0 + 1) ?_ rfl ?_ ?_ ?_; (focus (rfl)); (focus (first | omega | rfl)); (focus (exact HLP.out)); clear hS; intro w hS; try simp only [putW]) | (refine load1 hS rfl rfl rfl rfl ?_; simp only [putW]) | (refine loadAll hS rfl rfl rfl ?_ ?_; rfl; simp only [putW]) | (refine loadPart hS rfl rfl rfl ?_ rfl ?_; rfl; simp only [putW]) | (refine store1 hS rfl rfl rfl rfl rfl ?_ ?_; (focus (simp; done)); clear hS; intro w hS; simp only [evW, putW] at hS; try simp only [putW]) | (refine storeAll hS rfl rfl rfl rfl ?_ ?_ ?_ ?_; rfl; (focus (simp [Value.oneCell']; done)); rfl; clear hS; intro w hS; try simp only [putW]) | (refine storeN hS rfl rfl rfl rfl ?_ ?_ ?_ ?_; rfl; (focus (simp [Value.oneCell']; done)); (focus (simp; done)); clear hS; intro w hS; simp at hS; try simp only [putW]) | (refine alloc hS rfl rfl ?_; clear hS; intro mb w hS; simp only [putW]) | (refine box1 hS rfl rfl rfl rfl ?_; clear hS; intro mb w hS; try simp only [evW, putW] at hS; simp only [putW]) | (refine boxN hS rfl rfl rfl ?_; clear hS; intro mb w hS; simp only [putW]))
                  go_meet
                  case rel => exact ⟨_, _, _, _, _, HH3, hS.conv⟩
        case rest =>
          clear hS HH SL PL FL H P
          obtain ⟨SL, PL, FL, H, P, HH, hS⟩ := hcut

          go_wp2_with (first | (refine load1 hS rfl rfl rfl rfl ?_; simp only [putW]) | (refine loadAll hS rfl rfl rfl ?_ ?_; rfl; simp only [putW]) | (refine loadPart hS rfl rfl rfl ?_ rfl ?_; rfl; simp only [putW]) | (refine store1 hS rfl rfl rfl rfl rfl ?_ ?_; (focus (simp; done)); clear hS; intro w hS; simp only [evW, putW] at hS; try simp only [putW]) | (refine storeAll hS rfl rfl rfl rfl ?_ ?_ ?_ ?_; rfl; (focus (simp [Value.oneCell']; done)); rfl; clear hS; intro w hS; try simp only [putW]) | (refine storeN hS rfl rfl rfl rfl ?_ ?_ ?_ ?_; rfl; (focus (simp [Value.oneCell']; done)); (focus (simp; done)); clear hS; intro w hS; simp at hS; try simp only [putW]) | (refine alloc hS rfl rfl ?_; clear hS; intro mb w hS; simp only [putW]) | (refine box1 hS rfl rfl rfl rfl ?_; clear hS; intro mb w hS; try simp only [evW, putW] at hS; simp only [putW]) | (refine boxN hS rfl rfl rfl ?_; clear hS; intro mb w hS; simp only [putW]))
          go_loopg [14, 15] 5 (fun g s kk wr => ∃ q : Nat, q + g = 5 ∧ kk = .int .i64 q ∧ s = .int .i64 (H.take q).sum ∧ Sat w0 ((t, cells (tbC T) 65) :: (T.fm, mapC encInt frV FL) :: (7, frC FL) :: (T.pm, mapC encW uV PL) :: (T.sm, mapC encInt (Value.int .i64) SL) :: (T.hp, HeatC 0 []) :: (mh, cells (H.map (Value.int .i64)).toArray 41) :: (mp, cells (P.map (Value.int .i64)).toArray 41) :: []) wr)
          case atStart => exact ⟨0, by omega, rfl, rfl, hS.conv⟩
          case round =>
            clear hS
            obtain ⟨q, hqg, rfl, rfl, hS⟩ := hrel
            cases gk with
            | succ g5 =>
              have hq5 : q < 5 := by omega
              obtain ⟨hv, hhv⟩ : ∃ h, H[q]? = some h := ⟨_, List.getElem?_eq_getElem (by rw [HH.out.hl]; exact hq5)⟩
              have HV : Bx _ := ⟨hhv⟩
              have HE := HH.out.each hhv
              have HS1 : Bx ((H.take (q + 1)).sum = (H.take q).sum + hv) := ⟨sum_take hhv⟩
              have hpt := HH.out.part q
              have hpb : (H.take q).sum ≤ 1000000 := by
                have h1 : (nn : Int) * (q : Int) ≤ 20 * 5 := Int.mul_le_mul (by omega) (by omega) (by omega) (by omega)
                omega
              have hp0 := hpt.1
              have hv0 := HE.1
              have hv1 := HE.2
              clear HE hpt hhv
              obtain ⟨s, hs⟩ : ∃ s, (H.take q).sum = s := ⟨_, rfl⟩
              rw [hs] at hpb hp0 HS1
              rw [hs]
              clear hs
              have dA : decide (hv < 0) = false := decide_eq_false (by omega)
              have dB : decide ((nn : Int) < hv) = false := decide_eq_false (by omega)
              go_wp2_with (first | (refine loadAi (vv := Value.int .i64) (l := H) hS rfl rfl rfl (q) (HV.out) ?_ ?_; (focus (first | omega | rfl)); simp only [putW]) | (refine load1 hS rfl rfl rfl rfl ?_; simp only [putW]) | (refine loadAll hS rfl rfl rfl ?_ ?_; rfl; simp only [putW]) | (refine loadPart hS rfl rfl rfl ?_ rfl ?_; rfl; simp only [putW]) | (refine store1 hS rfl rfl rfl rfl rfl ?_ ?_; (focus (simp; done)); clear hS; intro w hS; simp only [evW, putW] at hS; try simp only [putW]) | (refine storeAll hS rfl rfl rfl rfl ?_ ?_ ?_ ?_; rfl; (focus (simp [Value.oneCell']; done)); rfl; clear hS; intro w hS; try simp only [putW]) | (refine storeN hS rfl rfl rfl rfl ?_ ?_ ?_ ?_; rfl; (focus (simp [Value.oneCell']; done)); (focus (simp; done)); clear hS; intro w hS; simp at hS; try simp only [putW]) | (refine alloc hS rfl rfl ?_; clear hS; intro mb w hS; simp only [putW]) | (refine box1 hS rfl rfl rfl rfl ?_; clear hS; intro mb w hS; try simp only [evW, putW] at hS; simp only [putW]) | (refine boxN hS rfl rfl rfl ?_; clear hS; intro mb w hS; simp only [putW]))
              go_roundg g5
              case measure => omega
              case rel => exact ⟨q + 1, by omega, by go_num, by rw [HS1.out], hS.conv⟩
            | zero =>
              have hq5 : q = 5 := by omega
              subst hq5
              obtain ⟨s, hs⟩ : ∃ s, H.sum = s := ⟨_, rfl⟩
              rw [HH.out.whole, hs]
              have h1 := HH.out.ss
              have h2 := HH.out.sn
              have h3 := sumS_pos HH.out.sv
              have HS : Bx (H.sum = s ∧ sumS SL = s) := ⟨hs, by rw [h1, hs]⟩
              have hs0 : 0 ≤ s := by omega
              have hsn : s ≤ nn := by omega
              clear hs h1 h2 h3 hqg
              have dB : decide ((nn : Int) < s) = false := decide_eq_false (by omega)
              go_wp2_with (first | (guard_target =~ Calls _ 20 _ _ _; refine Stopped.out ?_) | (refine load1 hS rfl rfl rfl rfl ?_; simp only [putW]) | (refine loadAll hS rfl rfl rfl ?_ ?_; rfl; simp only [putW]) | (refine loadPart hS rfl rfl rfl ?_ rfl ?_; rfl; simp only [putW]) | (refine store1 hS rfl rfl rfl rfl rfl ?_ ?_; (focus (simp; done)); clear hS; intro w hS; simp only [evW, putW] at hS; try simp only [putW]) | (refine storeAll hS rfl rfl rfl rfl ?_ ?_ ?_ ?_; rfl; (focus (simp [Value.oneCell']; done)); rfl; clear hS; intro w hS; try simp only [putW]) | (refine storeN hS rfl rfl rfl rfl ?_ ?_ ?_ ?_; rfl; (focus (simp [Value.oneCell']; done)); (focus (simp; done)); clear hS; intro w hS; simp at hS; try simp only [putW]) | (refine alloc hS rfl rfl ?_; clear hS; intro mb w hS; simp only [putW]) | (refine box1 hS rfl rfl rfl rfl ?_; clear hS; intro mb w hS; try simp only [evW, putW] at hS; simp only [putW]) | (refine boxN hS rfl rfl rfl ?_; clear hS; intro mb w hS; simp only [putW]))
              refine ⟨?_⟩
              refine Calls.mono (left_any (SL := SL) HH.out.sv (by rw [HT.out]; exact HH.out.sn) (by rw [HT.out]; omega) (hS.conv (S' := (t, cells (tbC T) 65) :: (T.sm, mapC encInt (Value.int .i64) SL) :: (T.fm, mapC encInt frV FL) :: (7, frC FL) :: (T.pm, mapC encW uV PL) :: (T.hp, HeatC 0 []) :: (mh, cells (H.map (Value.int .i64)).toArray 41) :: (mp, cells (P.map (Value.int .i64)).toArray 41) :: []))) ?_
              clear hS
              rintro _ w ⟨rfl, hS⟩
              rw [HT.out, HS.out.2]
              simp only [putW]
              go_wp2_with (first | (guard_target =~ Calls _ 13 _ _ _; refine Stopped.out ?_) | (refine load1 hS rfl rfl rfl rfl ?_; simp only [putW]) | (refine loadAll hS rfl rfl rfl ?_ ?_; rfl; simp only [putW]) | (refine loadPart hS rfl rfl rfl ?_ rfl ?_; rfl; simp only [putW]) | (refine store1 hS rfl rfl rfl rfl rfl ?_ ?_; (focus (simp; done)); clear hS; intro w hS; simp only [evW, putW] at hS; try simp only [putW]) | (refine storeAll hS rfl rfl rfl rfl ?_ ?_ ?_ ?_; rfl; (focus (simp [Value.oneCell']; done)); rfl; clear hS; intro w hS; try simp only [putW]) | (refine storeN hS rfl rfl rfl rfl ?_ ?_ ?_ ?_; rfl; (focus (simp [Value.oneCell']; done)); (focus (simp; done)); clear hS; intro w hS; simp at hS; try simp only [putW]) | (refine alloc hS rfl rfl ?_; clear hS; intro mb w hS; simp only [putW]) | (refine box1 hS rfl rfl rfl rfl ?_; clear hS; intro mb w hS; try simp only [evW, putW] at hS; simp only [putW]) | (refine boxN hS rfl rfl rfl ?_; clear hS; intro mb w hS; simp only [putW]))
              refine ⟨?_⟩
              refine Calls.mono (victimH HH.out HT.out (by omega) (hS.conv (S' := (t, cells (tbC T) 65) :: (T.fm, mapC encInt frV FL) :: (T.pm, mapC encW uV PL) :: (T.hp, HeatC 0 []) :: (7, frC FL) :: (T.sm, mapC encInt (Value.int .i64) SL) :: (mh, cells (H.map (Value.int .i64)).toArray 41) :: (mp, cells (P.map (Value.int .i64)).toArray 41) :: []))) ?_
              clear hS
              rintro _ w ⟨kk, ff, rfl, hres, hS⟩
              have hres2 : (ff = 12 ∧ s ≤ 0) ∨ ff = 5 ∨ ff = 0 := by
                rcases hres with ⟨h, -⟩ | ⟨h, h0⟩ | ⟨h, -⟩
                · exact .inr (.inl h)
                · exact .inl ⟨h, by rw [← HS.out.1]; exact h0⟩
                · exact .inr (.inr h)
              clear hres
              simp only [putW]
              rcases hres2 with ⟨rfl, h0⟩ | rfl | rfl
              · have d5 : decide (0 < s) = false := decide_eq_false (by omega)
                go_wp2_with (first | (refine load1 hS rfl rfl rfl rfl ?_; simp only [putW]) | (refine loadAll hS rfl rfl rfl ?_ ?_; rfl; simp only [putW]) | (refine loadPart hS rfl rfl rfl ?_ rfl ?_; rfl; simp only [putW]) | (refine store1 hS rfl rfl rfl rfl rfl ?_ ?_; (focus (simp; done)); clear hS; intro w hS; simp only [evW, putW] at hS; try simp only [putW]) | (refine storeAll hS rfl rfl rfl rfl ?_ ?_ ?_ ?_; rfl; (focus (simp [Value.oneCell']; done)); rfl; clear hS; intro w hS; try simp only [putW]) | (refine storeN hS rfl rfl rfl rfl ?_ ?_ ?_ ?_; rfl; (focus (simp [Value.oneCell']; done)); (focus (simp; done)); clear hS; intro w hS; simp at hS; try simp only [putW]) | (refine alloc hS rfl rfl ?_; clear hS; intro mb w hS; simp only [putW]) | (refine box1 hS rfl rfl rfl rfl ?_; clear hS; intro mb w hS; try simp only [evW, putW] at hS; simp only [putW]) | (refine boxN hS rfl rfl rfl ?_; clear hS; intro mb w hS; simp only [putW]))
                go_roundg g
                case measure => omega
                case rel => exact ⟨k + 1, _, _, _, _, _, by omega, by go_num, HH, hS.conv⟩
              · go_wp2_with (first | (refine load1 hS rfl rfl rfl rfl ?_; simp only [putW]) | (refine loadAll hS rfl rfl rfl ?_ ?_; rfl; simp only [putW]) | (refine loadPart hS rfl rfl rfl ?_ rfl ?_; rfl; simp only [putW]) | (refine store1 hS rfl rfl rfl rfl rfl ?_ ?_; (focus (simp; done)); clear hS; intro w hS; simp only [evW, putW] at hS; try simp only [putW]) | (refine storeAll hS rfl rfl rfl rfl ?_ ?_ ?_ ?_; rfl; (focus (simp [Value.oneCell']; done)); rfl; clear hS; intro w hS; try simp only [putW]) | (refine storeN hS rfl rfl rfl rfl ?_ ?_ ?_ ?_; rfl; (focus (simp [Value.oneCell']; done)); (focus (simp; done)); clear hS; intro w hS; simp at hS; try simp only [putW]) | (refine alloc hS rfl rfl ?_; clear hS; intro mb w hS; simp only [putW]) | (refine box1 hS rfl rfl rfl rfl ?_; clear hS; intro mb w hS; try simp only [evW, putW] at hS; simp only [putW]) | (refine boxN hS rfl rfl rfl ?_; clear hS; intro mb w hS; simp only [putW]))
                go_roundg g
                case measure => omega
                case rel => exact ⟨k + 1, _, _, _, _, _, by omega, by go_num, HH, hS.conv⟩
              · go_wp2_with (first | (refine load1 hS rfl rfl rfl rfl ?_; simp only [putW]) | (refine loadAll hS rfl rfl rfl ?_ ?_; rfl; simp only [putW]) | (refine loadPart hS rfl rfl rfl ?_ rfl ?_; rfl; simp only [putW]) | (refine store1 hS rfl rfl rfl rfl rfl ?_ ?_; (focus (simp; done)); clear hS; intro w hS; simp only [evW, putW] at hS; try simp only [putW]) | (refine storeAll hS rfl rfl rfl rfl ?_ ?_ ?_ ?_; rfl; (focus (simp [Value.oneCell']; done)); rfl; clear hS; intro w hS; try simp only [putW]) | (refine storeN hS rfl rfl rfl rfl ?_ ?_ ?_ ?_; rfl; (focus (simp [Value.oneCell']; done)); (focus (simp; done)); clear hS; intro w hS; simp at hS; try simp only [putW]) | (refine alloc hS rfl rfl ?_; clear hS; intro mb w hS; simp only [putW]) | (refine box1 hS rfl rfl rfl rfl ?_; clear hS; intro mb w hS; try simp only [evW, putW] at hS; simp only [putW]) | (refine boxN hS rfl rfl rfl ?_; clear hS; intro mb w hS; simp only [putW]))
                go_roundg g
                case measure => omega
                case rel => exact ⟨k + 1, _, _, _, _, _, by omega, by go_num, HH, hS.conv⟩

end
end Go.Proofs.Ytlkoclalcfeniaa.FramesSharesDone
