/-
  FramesPins: the walk, more than 20 tasks. (Printed by mkpins.py.)
-/
import Derived.Test.YtlkoclalcfeniaaFrPinP
import Derived.Test.YtlkoclalcfeniaaFrAwake
set_option linter.unusedSimpArgs false
set_option linter.unusedVariables false
namespace Go.Proofs.Ytlkoclalcfeniaa.FramesPinsDone
open Go.RowKit Go.Proofs.Ytlkoclalcfeniaa Go.Proofs.Ytlkoclalcfeniaa.Sl Go.Proofs.Ytlkoclalcfeniaa.Jp

section
variable {w0 : World}
set_option maxRecDepth 100000 in
set_option maxHeartbeats 8000000 in
theorem coreB (x : Int) {A : List Int} {N la : Nat} {pa : Option Addr} {ca : Nat} (bts : Nat) (hA : A.length = la) (hat : A ≠ [] → ∃ b off, pa = some ⟨b, off, none⟩ ∧ BAt w0 1 i64 okI A b off) (hok : ∀ x ∈ A, okI x) (hla : la ≤ 9223372036854775807) (hN : N ≤ la) (hN2 : N ≤ 20) (d1 : N < la) (d2 : 20 ≤ N) :
    Calls Try.prog 3 #[.int .i64 x, .slice pa la ca, .float .f64 bts] w0 fun e w' => e = .returned (.bool true) ∧ Sat w0 [] w' := by
  have hS := Sat.refl w0
  have HA : Bx _ := ⟨hA⟩
  have HAT : Bx _ := ⟨hat⟩
  have HOK : Bx (∀ x ∈ A, okI x) := ⟨hok⟩
  clear hA hat hok
  go_enter Try.func3, Try.ntmps3
  go_wp2_with (first | (guard_target =~ Calls _ 8 _ _ _; refine Stopped.out ?_) | (refine load1 hS rfl rfl rfl rfl ?_; simp only [putW]) | (refine loadAll hS rfl rfl rfl ?_ ?_; rfl; simp only [putW]) | (refine loadPart hS rfl rfl rfl ?_ rfl ?_; rfl; simp only [putW]) | (refine store1 hS rfl rfl rfl rfl rfl ?_ ?_; (focus (simp; done)); clear hS; intro w hS; simp only [evW, putW] at hS; try simp only [putW]) | (refine storeAll hS rfl rfl rfl rfl ?_ ?_ ?_ ?_; rfl; (focus (simp [Value.oneCell']; done)); rfl; clear hS; intro w hS; try simp only [putW]) | (refine storeN hS rfl rfl rfl rfl ?_ ?_ ?_ ?_; rfl; (focus (simp [Value.oneCell']; done)); (focus (simp; done)); clear hS; intro w hS; simp at hS; try simp only [putW]) | (refine alloc hS rfl rfl ?_; clear hS; intro mb w hS; simp only [putW]) | (refine box1 hS rfl rfl rfl rfl ?_; clear hS; intro mb w hS; try simp only [evW, putW] at hS; simp only [putW]) | (refine boxN hS rfl rfl rfl ?_; clear hS; intro mb w hS; simp only [putW]))
  refine ⟨?_⟩
  refine Calls.mono (pick_any x 9 (by omega) (by omega)) ?_
  rintro _ _ ⟨rfl, rfl⟩
  obtain ⟨m, hm, hm8⟩ : ∃ m : Nat, x % 9 = m ∧ m ≤ 8 := ⟨(x % 9).toNat, by omega, by omega⟩
  rw [hm]
  clear hm
  simp only [putW]
  go_wp2_with (first | (guard_target =~ Calls _ 9 _ _ _; refine Stopped.out ?_) | (refine load1 hS rfl rfl rfl rfl ?_; simp only [putW]) | (refine loadAll hS rfl rfl rfl ?_ ?_; rfl; simp only [putW]) | (refine loadPart hS rfl rfl rfl ?_ rfl ?_; rfl; simp only [putW]) | (refine store1 hS rfl rfl rfl rfl rfl ?_ ?_; (focus (simp; done)); clear hS; intro w hS; simp only [evW, putW] at hS; try simp only [putW]) | (refine storeAll hS rfl rfl rfl rfl ?_ ?_ ?_ ?_; rfl; (focus (simp [Value.oneCell']; done)); rfl; clear hS; intro w hS; try simp only [putW]) | (refine storeN hS rfl rfl rfl rfl ?_ ?_ ?_ ?_; rfl; (focus (simp [Value.oneCell']; done)); (focus (simp; done)); clear hS; intro w hS; simp at hS; try simp only [putW]) | (refine alloc hS rfl rfl ?_; clear hS; intro mb w hS; simp only [putW]) | (refine box1 hS rfl rfl rfl rfl ?_; clear hS; intro mb w hS; try simp only [evW, putW] at hS; simp only [putW]) | (refine boxN hS rfl rfl rfl ?_; clear hS; intro mb w hS; simp only [putW]))
  refine ⟨?_⟩
  obtain ⟨nn, hnn⟩ : ∃ nn : Nat, 1 + (m : Int) = nn := ⟨1 + m, by omega⟩
  rw [hnn]
  have h1 : 1 ≤ nn := by omega
  have h9 : nn ≤ 9 := by omega
  clear hnn hm8
  (refine Calls.mono (tabNew_any (by omega) (by omega)) ?_; rintro _ w2 ⟨t, T, rfl, hT, h2⟩; replace hS := hS.frame h2; clear h2; (try simp only [List.cons_append, List.nil_append] at hS); simp only [putW])
  have HT : Bx _ := ⟨hT⟩
  clear hT
  have hS := ofLow (PL := []) (b := T.pm) hS
  go_wp2_with (first | (refine load1 hS rfl rfl rfl rfl ?_; simp only [putW]) | (refine loadAll hS rfl rfl rfl ?_ ?_; rfl; simp only [putW]) | (refine loadPart hS rfl rfl rfl ?_ rfl ?_; rfl; simp only [putW]) | (refine store1 hS rfl rfl rfl rfl rfl ?_ ?_; (focus (simp; done)); clear hS; intro w hS; simp only [evW, putW] at hS; try simp only [putW]) | (refine storeAll hS rfl rfl rfl rfl ?_ ?_ ?_ ?_; rfl; (focus (simp [Value.oneCell']; done)); rfl; clear hS; intro w hS; try simp only [putW]) | (refine storeN hS rfl rfl rfl rfl ?_ ?_ ?_ ?_; rfl; (focus (simp [Value.oneCell']; done)); (focus (simp; done)); clear hS; intro w hS; simp at hS; try simp only [putW]) | (refine alloc hS rfl rfl ?_; clear hS; intro mb w hS; simp only [putW]) | (refine box1 hS rfl rfl rfl rfl ?_; clear hS; intro mb w hS; try simp only [evW, putW] at hS; simp only [putW]) | (refine boxN hS rfl rfl rfl ?_; clear hS; intro mb w hS; simp only [putW]))
  go_loopg [9] nn (fun g i wr => ∃ (j : Nat) (FL : Frs) (sp : Spots), j + g = nn ∧ i = .int .i64 j ∧ Bx (mkeys FL = keysN j) ∧ Bx (SpOk j sp) ∧ Sat w0 ((t, cells (tbC T) 65) :: (T.fm, mapC encInt frV FL) :: (7, frC FL) :: (T.pm, mapC encW uV []) :: (T.sm, mapC encInt (Value.int .i64) []) :: (T.hp, HeatC (j) sp) :: []) wr)
  case atStart => exact ⟨0, [], [], by omega, rfl, ⟨rfl⟩, ⟨sp0⟩, hS.conv⟩
  case round =>
    clear hS
    obtain ⟨j, FL, sp, hjg, rfl, HK, HSP, hS⟩ := hrel
    cases gk with
    | succ g =>
      have hlt : j < nn := by omega
      have hlti : (j : Int) < (nn : Int) := by omega
      go_wp2_with (first | (guard_target =~ Calls _ 10 _ _ _; refine Stopped.out ?_) | (refine load1 hS rfl rfl rfl rfl ?_; simp only [putW]) | (refine loadAll hS rfl rfl rfl ?_ ?_; rfl; simp only [putW]) | (refine loadPart hS rfl rfl rfl ?_ rfl ?_; rfl; simp only [putW]) | (refine store1 hS rfl rfl rfl rfl rfl ?_ ?_; (focus (simp; done)); clear hS; intro w hS; simp only [evW, putW] at hS; try simp only [putW]) | (refine storeAll hS rfl rfl rfl rfl ?_ ?_ ?_ ?_; rfl; (focus (simp [Value.oneCell']; done)); rfl; clear hS; intro w hS; try simp only [putW]) | (refine storeN hS rfl rfl rfl rfl ?_ ?_ ?_ ?_; rfl; (focus (simp [Value.oneCell']; done)); (focus (simp; done)); clear hS; intro w hS; simp at hS; try simp only [putW]) | (refine alloc hS rfl rfl ?_; clear hS; intro mb w hS; simp only [putW]) | (refine box1 hS rfl rfl rfl rfl ?_; clear hS; intro mb w hS; try simp only [evW, putW] at hS; simp only [putW]) | (refine boxN hS rfl rfl rfl ?_; clear hS; intro mb w hS; simp only [putW]))
      refine ⟨?_⟩
      refine Calls.mono (putNew_any (T := T) (K := (T.pm, mapC encW uV []) :: (T.sm, mapC encInt (Value.int .i64) []) :: (T.hp, HeatC j sp) :: []) (FL := FL) (A := []) (fun _ _ => .inl ⟨rfl, .inl rfl⟩) (by decide) (keysN_none HK.out) (by rw [HT.out, keysN_len HK.out]; exact hlti) (by rw [HT.out]; omega) hS.conv) ?_
      clear hS
      rintro _ w ⟨f, v, rfl, hS⟩
      obtain ⟨FL2, hFL⟩ : ∃ FL2 : Frs, FL ++ [((j : Int), ((some ⟨f, 0, none⟩, v, [], false) : FrV))] = FL2 := ⟨_, rfl⟩
      rw [hFL] at hS
      have HK2 : Bx (mkeys FL2 = keysN (j + 1)) := ⟨by rw [← hFL, keysN_next, ← HK.out]; simp [mkeys]⟩
      clear hFL HK
      simp only [putW]
      go_wp2_with (first | (refine opIntFloat rfl rfl rfl Try.underlying3 Try.underlying23 ?_; intro r; simp only [putW]) | (guard_target =~ Calls _ 11 _ _ _; refine Stopped.out ?_) | (refine load1 hS rfl rfl rfl rfl ?_; simp only [putW]) | (refine loadAll hS rfl rfl rfl ?_ ?_; rfl; simp only [putW]) | (refine loadPart hS rfl rfl rfl ?_ rfl ?_; rfl; simp only [putW]) | (refine store1 hS rfl rfl rfl rfl rfl ?_ ?_; (focus (simp; done)); clear hS; intro w hS; simp only [evW, putW] at hS; try simp only [putW]) | (refine storeAll hS rfl rfl rfl rfl ?_ ?_ ?_ ?_; rfl; (focus (simp [Value.oneCell']; done)); rfl; clear hS; intro w hS; try simp only [putW]) | (refine storeN hS rfl rfl rfl rfl ?_ ?_ ?_ ?_; rfl; (focus (simp [Value.oneCell']; done)); (focus (simp; done)); clear hS; intro w hS; simp at hS; try simp only [putW]) | (refine alloc hS rfl rfl ?_; clear hS; intro mb w hS; simp only [putW]) | (refine box1 hS rfl rfl rfl rfl ?_; clear hS; intro mb w hS; try simp only [evW, putW] at hS; simp only [putW]) | (refine boxN hS rfl rfl rfl ?_; clear hS; intro mb w hS; simp only [putW]))
      refine ⟨?_⟩
      refine Calls.mono (warm_any (key := (j : Int)) (now := j) (sp := sp) (FL := FL2) (keysN_some HK2.out (by omega)) (by omega) HSP.out (hS.conv (S' := (t, cells (tbC T) 65) :: (T.fm, mapC encInt frV FL2) :: (T.hp, HeatC j sp) :: (7, frC FL2) :: (T.pm, mapC encW uV []) :: (T.sm, mapC encInt (Value.int .i64) []) :: []))) ?_
      clear hS
      rintro _ w ⟨r2, rfl, hS⟩
      have HSP2 : Bx _ := ⟨HSP.out.next (r := r2) (j : Int)⟩
      clear HSP
      simp only [putW]
      go_wp2_with (first | (refine load1 hS rfl rfl rfl rfl ?_; simp only [putW]) | (refine loadAll hS rfl rfl rfl ?_ ?_; rfl; simp only [putW]) | (refine loadPart hS rfl rfl rfl ?_ rfl ?_; rfl; simp only [putW]) | (refine store1 hS rfl rfl rfl rfl rfl ?_ ?_; (focus (simp; done)); clear hS; intro w hS; simp only [evW, putW] at hS; try simp only [putW]) | (refine storeAll hS rfl rfl rfl rfl ?_ ?_ ?_ ?_; rfl; (focus (simp [Value.oneCell']; done)); rfl; clear hS; intro w hS; try simp only [putW]) | (refine storeN hS rfl rfl rfl rfl ?_ ?_ ?_ ?_; rfl; (focus (simp [Value.oneCell']; done)); (focus (simp; done)); clear hS; intro w hS; simp at hS; try simp only [putW]) | (refine alloc hS rfl rfl ?_; clear hS; intro mb w hS; simp only [putW]) | (refine box1 hS rfl rfl rfl rfl ?_; clear hS; intro mb w hS; try simp only [evW, putW] at hS; simp only [putW]) | (refine boxN hS rfl rfl rfl ?_; clear hS; intro mb w hS; simp only [putW]))
      go_roundg g
      case measure => omega
      case rel => exact ⟨j + 1, FL2, _, by omega, by go_num, HK2, HSP2, hS.conv⟩
    | zero =>
      have hj : j = nn := by omega
      subst hj
      clear hjg
      have hnj : decide ((j : Int) < (j : Int)) = false := by simp
      go_wp2_with (first | (guard_target =~ Calls _ 11 _ _ _; refine Stopped.out ?_) | (refine load1 hS rfl rfl rfl rfl ?_; simp only [putW]) | (refine loadAll hS rfl rfl rfl ?_ ?_; rfl; simp only [putW]) | (refine loadPart hS rfl rfl rfl ?_ rfl ?_; rfl; simp only [putW]) | (refine store1 hS rfl rfl rfl rfl rfl ?_ ?_; (focus (simp; done)); clear hS; intro w hS; simp only [evW, putW] at hS; try simp only [putW]) | (refine storeAll hS rfl rfl rfl rfl ?_ ?_ ?_ ?_; rfl; (focus (simp [Value.oneCell']; done)); rfl; clear hS; intro w hS; try simp only [putW]) | (refine storeN hS rfl rfl rfl rfl ?_ ?_ ?_ ?_; rfl; (focus (simp [Value.oneCell']; done)); (focus (simp; done)); clear hS; intro w hS; simp at hS; try simp only [putW]) | (refine alloc hS rfl rfl ?_; clear hS; intro mb w hS; simp only [putW]) | (refine box1 hS rfl rfl rfl rfl ?_; clear hS; intro mb w hS; try simp only [evW, putW] at hS; simp only [putW]) | (refine boxN hS rfl rfl rfl ?_; clear hS; intro mb w hS; simp only [putW]))
      refine ⟨?_⟩
      refine Calls.mono (warm_any (key := 0) (now := j) (sp := sp) (FL := FL) (keysN_some HK.out (i := 0) (by omega)) (by omega) HSP.out (hS.conv (S' := (t, cells (tbC T) 65) :: (T.fm, mapC encInt frV FL) :: (T.hp, HeatC j sp) :: (7, frC FL) :: (T.pm, mapC encW uV []) :: (T.sm, mapC encInt (Value.int .i64) []) :: []))) ?_
      clear hS
      rintro _ w ⟨r2, rfl, hS⟩
      have HSP2 : Bx _ := ⟨HSP.out.next (r := r2) 0⟩
      clear HSP
      obtain ⟨sp2, hsp2⟩ : ∃ sp2 : Spots, mput sp 0 (r2, ((j + 1 : Nat) : Int)) = sp2 := ⟨_, rfl⟩
      rw [hsp2] at hS HSP2
      clear hsp2
      obtain ⟨n1, hn1⟩ : ∃ n1, j + 1 = n1 := ⟨_, rfl⟩
      have hn1l : n1 ≤ 10 := by omega
      rw [hn1] at hS HSP2
      clear hn1 hnj
      have HK0 : Bx ((mget FL 0).isSome = true) := ⟨keysN_some HK.out (i := 0) (by omega)⟩
      simp only [putW]
      go_wp2_with (first | (refine load1 hS rfl rfl rfl rfl ?_; simp only [putW]) | (refine loadAll hS rfl rfl rfl ?_ ?_; rfl; simp only [putW]) | (refine loadPart hS rfl rfl rfl ?_ rfl ?_; rfl; simp only [putW]) | (refine store1 hS rfl rfl rfl rfl rfl ?_ ?_; (focus (simp; done)); clear hS; intro w hS; simp only [evW, putW] at hS; try simp only [putW]) | (refine storeAll hS rfl rfl rfl rfl ?_ ?_ ?_ ?_; rfl; (focus (simp [Value.oneCell']; done)); rfl; clear hS; intro w hS; try simp only [putW]) | (refine storeN hS rfl rfl rfl rfl ?_ ?_ ?_ ?_; rfl; (focus (simp [Value.oneCell']; done)); (focus (simp; done)); clear hS; intro w hS; simp at hS; try simp only [putW]) | (refine alloc hS rfl rfl ?_; clear hS; intro mb w hS; simp only [putW]) | (refine box1 hS rfl rfl rfl rfl ?_; clear hS; intro mb w hS; try simp only [evW, putW] at hS; simp only [putW]) | (refine boxN hS rfl rfl rfl ?_; clear hS; intro mb w hS; simp only [putW]))

      go_loopg [10] N (fun g i wr => ∃ (k : Nat) (PL : PinsW), k + g = N ∧ i = .int .i64 k ∧ Bx (PinsAt PL A k 0) ∧ Sat w0 ((t, cells (tbC T) 65) :: (T.fm, mapC encInt frV FL) :: (7, frC FL) :: (T.pm, mapC encW uV PL) :: (T.sm, mapC encInt (Value.int .i64) []) :: (T.hp, HeatC (n1) sp2) :: []) wr)
      case atStart => exact ⟨0, [], by omega, rfl, ⟨PinsAt.nil A⟩, hS.conv⟩
      case round =>
        clear hS
        obtain ⟨k, PL, hkg, rfl, HP, hS⟩ := hrel
        cases gk with
        | succ g =>
          have hklt : k < N := by omega
          have e1 : decide ((k : Int) < (la : Int)) = true := decide_eq_true (by omega)
          have e2 : decide ((k : Int) < 20) = true := decide_eq_true (by omega)
          have hkla : k < la := by omega
          obtain ⟨y, hy⟩ : ∃ y, A[k]? = some y := ⟨_, List.getElem?_eq_getElem (by rw [HA.out]; exact hkla)⟩
          obtain ⟨b, off, hpa, hBA⟩ := HAT.out (fun h => by rw [h] at hy; cases hy)
          subst hpa
          have hyo := HOK.out y (List.mem_of_getElem? hy)
          have HY : Bx _ := ⟨hy⟩
          clear HAT
          go_wp2_with (first | (refine loadB (f := i64) hS rfl rfl rfl hBA k 0 ?_ HY.out rfl ?_; omega; simp only [putW]) | (guard_target =~ Calls _ 12 _ _ _; refine Stopped.out ?_) | (refine load1 hS rfl rfl rfl rfl ?_; simp only [putW]) | (refine loadAll hS rfl rfl rfl ?_ ?_; rfl; simp only [putW]) | (refine loadPart hS rfl rfl rfl ?_ rfl ?_; rfl; simp only [putW]) | (refine store1 hS rfl rfl rfl rfl rfl ?_ ?_; (focus (simp; done)); clear hS; intro w hS; simp only [evW, putW] at hS; try simp only [putW]) | (refine storeAll hS rfl rfl rfl rfl ?_ ?_ ?_ ?_; rfl; (focus (simp [Value.oneCell']; done)); rfl; clear hS; intro w hS; try simp only [putW]) | (refine storeN hS rfl rfl rfl rfl ?_ ?_ ?_ ?_; rfl; (focus (simp [Value.oneCell']; done)); (focus (simp; done)); clear hS; intro w hS; simp at hS; try simp only [putW]) | (refine alloc hS rfl rfl ?_; clear hS; intro mb w hS; simp only [putW]) | (refine box1 hS rfl rfl rfl rfl ?_; clear hS; intro mb w hS; try simp only [evW, putW] at hS; simp only [putW]) | (refine boxN hS rfl rfl rfl ?_; clear hS; intro mb w hS; simp only [putW]))
          refine ⟨?_⟩
          refine Calls.mono (pin_any (pk := ⟨(y, 0), hyo, okI0⟩) (FL := FL) (PL := PL) HK0.out (hS.conv (S' := (t, cells (tbC T) 65) :: (T.fm, mapC encInt frV FL) :: (T.pm, mapC encW uV PL) :: (7, frC FL) :: (T.sm, mapC encInt (Value.int .i64) []) :: (T.hp, HeatC n1 sp2) :: []))) ?_
          clear hS
          rintro _ w ⟨rfl, hS⟩
          have HP2 : Bx _ := ⟨HP.out.pin HY.out hyo⟩
          clear HP hy
          simp only [putW]
          go_wp2_with (first | (refine load1 hS rfl rfl rfl rfl ?_; simp only [putW]) | (refine loadAll hS rfl rfl rfl ?_ ?_; rfl; simp only [putW]) | (refine loadPart hS rfl rfl rfl ?_ rfl ?_; rfl; simp only [putW]) | (refine store1 hS rfl rfl rfl rfl rfl ?_ ?_; (focus (simp; done)); clear hS; intro w hS; simp only [evW, putW] at hS; try simp only [putW]) | (refine storeAll hS rfl rfl rfl rfl ?_ ?_ ?_ ?_; rfl; (focus (simp [Value.oneCell']; done)); rfl; clear hS; intro w hS; try simp only [putW]) | (refine storeN hS rfl rfl rfl rfl ?_ ?_ ?_ ?_; rfl; (focus (simp [Value.oneCell']; done)); (focus (simp; done)); clear hS; intro w hS; simp at hS; try simp only [putW]) | (refine alloc hS rfl rfl ?_; clear hS; intro mb w hS; simp only [putW]) | (refine box1 hS rfl rfl rfl rfl ?_; clear hS; intro mb w hS; try simp only [evW, putW] at hS; simp only [putW]) | (refine boxN hS rfl rfl rfl ?_; clear hS; intro mb w hS; simp only [putW]))
          go_roundg g
          case measure => omega
          case rel => exact ⟨k + 1, _, by omega, by go_num, HP2, hS.conv⟩
        | zero =>
          have hkN : k = N := by omega
          subst hkN
          clear hkg
          have e1 : decide ((k : Int) < (la : Int)) = true := decide_eq_true (by omega); have e2 : decide ((k : Int) < 20) = false := decide_eq_false (by omega)
          go_wp2_with (first | (refine load1 hS rfl rfl rfl rfl ?_; simp only [putW]) | (refine loadAll hS rfl rfl rfl ?_ ?_; rfl; simp only [putW]) | (refine loadPart hS rfl rfl rfl ?_ rfl ?_; rfl; simp only [putW]) | (refine store1 hS rfl rfl rfl rfl rfl ?_ ?_; (focus (simp; done)); clear hS; intro w hS; simp only [evW, putW] at hS; try simp only [putW]) | (refine storeAll hS rfl rfl rfl rfl ?_ ?_ ?_ ?_; rfl; (focus (simp [Value.oneCell']; done)); rfl; clear hS; intro w hS; try simp only [putW]) | (refine storeN hS rfl rfl rfl rfl ?_ ?_ ?_ ?_; rfl; (focus (simp [Value.oneCell']; done)); (focus (simp; done)); clear hS; intro w hS; simp at hS; try simp only [putW]) | (refine alloc hS rfl rfl ?_; clear hS; intro mb w hS; simp only [putW]) | (refine box1 hS rfl rfl rfl rfl ?_; clear hS; intro mb w hS; try simp only [evW, putW] at hS; simp only [putW]) | (refine boxN hS rfl rfl rfl ?_; clear hS; intro mb w hS; simp only [putW]))

          have Hfirst : Bx (0 < k → pinnedB (low PL) 0 = true) := ⟨fun h => HP.out.first HOK.out h (by rw [HA.out]; exact hN)⟩
          go_loopg [11] k (fun g i wr => ∃ (i0 : Nat) (PL : PinsW), i0 + g = k ∧ i = .int .i64 i0 ∧ Bx (PinsAt PL A k i0) ∧ Bx (i0 < k → pinnedB (low PL) 0 = true) ∧ Sat w0 ((t, cells (tbC T) 65) :: (T.fm, mapC encInt frV FL) :: (7, frC FL) :: (T.pm, mapC encW uV PL) :: (T.sm, mapC encInt (Value.int .i64) []) :: (T.hp, HeatC (n1) sp2) :: []) wr)
          case atStart => exact ⟨0, PL, by omega, rfl, HP, Hfirst, hS.conv⟩
          case round =>
            clear hS HP Hfirst PL
            obtain ⟨i, PL, hig, rfl, HP, Hpin, hS⟩ := hrel
            cases gk with
            | zero =>
              have hiN : i = k := by omega
              subst hiN
              clear hig Hpin
              have e1 : decide ((i : Int) < (la : Int)) = true := decide_eq_true (by omega); have e2 : decide ((i : Int) < 20) = false := decide_eq_false (by omega)
              have Hno : Bx (pinnedB (low PL) 0 = false) := ⟨HP.out.over⟩
              have hS := toLow (PL := PL) (b := T.pm) hS
              go_wp2_with (first | (guard_target =~ Calls _ 14 _ _ _; refine Stopped.out ?_) | (refine load1 hS rfl rfl rfl rfl ?_; simp only [putW]) | (refine loadAll hS rfl rfl rfl ?_ ?_; rfl; simp only [putW]) | (refine loadPart hS rfl rfl rfl ?_ rfl ?_; rfl; simp only [putW]) | (refine store1 hS rfl rfl rfl rfl rfl ?_ ?_; (focus (simp; done)); clear hS; intro w hS; simp only [evW, putW] at hS; try simp only [putW]) | (refine storeAll hS rfl rfl rfl rfl ?_ ?_ ?_ ?_; rfl; (focus (simp [Value.oneCell']; done)); rfl; clear hS; intro w hS; try simp only [putW]) | (refine storeN hS rfl rfl rfl rfl ?_ ?_ ?_ ?_; rfl; (focus (simp [Value.oneCell']; done)); (focus (simp; done)); clear hS; intro w hS; simp at hS; try simp only [putW]) | (refine alloc hS rfl rfl ?_; clear hS; intro mb w hS; simp only [putW]) | (refine box1 hS rfl rfl rfl rfl ?_; clear hS; intro mb w hS; try simp only [evW, putW] at hS; simp only [putW]) | (refine boxN hS rfl rfl rfl ?_; clear hS; intro mb w hS; simp only [putW]))
              refine ⟨?_⟩
              refine Calls.mono (drop_any (key := 0) (PL := low PL) HK0.out Hno.out (hS.conv (S' := (t, cells (tbC T) 65) :: (T.fm, mapC encInt frV FL) :: (T.pm, mapC encP uV (low PL)) :: (T.hp, HeatC (n1) sp2) :: (7, frC FL) :: (T.sm, mapC encInt (Value.int .i64) []) :: []))) ?_
              clear hS
              rintro _ w ⟨rfl, hS⟩
              simp only [putW]
              go_wp2_with (first | (guard_target =~ Calls _ 14 _ _ _; refine Stopped.out ?_) | (refine load1 hS rfl rfl rfl rfl ?_; simp only [putW]) | (refine loadAll hS rfl rfl rfl ?_ ?_; rfl; simp only [putW]) | (refine loadPart hS rfl rfl rfl ?_ rfl ?_; rfl; simp only [putW]) | (refine store1 hS rfl rfl rfl rfl rfl ?_ ?_; (focus (simp; done)); clear hS; intro w hS; simp only [evW, putW] at hS; try simp only [putW]) | (refine storeAll hS rfl rfl rfl rfl ?_ ?_ ?_ ?_; rfl; (focus (simp [Value.oneCell']; done)); rfl; clear hS; intro w hS; try simp only [putW]) | (refine storeN hS rfl rfl rfl rfl ?_ ?_ ?_ ?_; rfl; (focus (simp [Value.oneCell']; done)); (focus (simp; done)); clear hS; intro w hS; simp at hS; try simp only [putW]) | (refine alloc hS rfl rfl ?_; clear hS; intro mb w hS; simp only [putW]) | (refine box1 hS rfl rfl rfl rfl ?_; clear hS; intro mb w hS; try simp only [evW, putW] at hS; simp only [putW]) | (refine boxN hS rfl rfl rfl ?_; clear hS; intro mb w hS; simp only [putW]))
              refine ⟨?_⟩
              refine Calls.mono (drop_none (key := 0) (FL := mdel FL 0) (T := T) (by rw [mget_mdel, if_pos rfl]) (hS.conv (S' := (t, cells (tbC T) 65) :: (T.fm, mapC encInt frV (mdel FL 0)) :: (T.pm, mapC encP uV (low PL)) :: (T.hp, HeatC n1 (mdel sp2 0)) :: (7, frC FL) :: (T.sm, mapC encInt (Value.int .i64) []) :: []))) ?_
              clear hS
              rintro _ w ⟨rfl, hS⟩
              simp only [putW]
              go_wp2_with (first | (go_at_call 17; refine Calls.mono (awakeF_any) ?_; rintro _ w2 ⟨rfl, h2⟩; replace hS := hS.frame h2; clear h2; (try simp only [List.cons_append, List.nil_append] at hS); simp only [putW]) | (refine load1 hS rfl rfl rfl rfl ?_; simp only [putW]) | (refine loadAll hS rfl rfl rfl ?_ ?_; rfl; simp only [putW]) | (refine loadPart hS rfl rfl rfl ?_ rfl ?_; rfl; simp only [putW]) | (refine store1 hS rfl rfl rfl rfl rfl ?_ ?_; (focus (simp; done)); clear hS; intro w hS; simp only [evW, putW] at hS; try simp only [putW]) | (refine storeAll hS rfl rfl rfl rfl ?_ ?_ ?_ ?_; rfl; (focus (simp [Value.oneCell']; done)); rfl; clear hS; intro w hS; try simp only [putW]) | (refine storeN hS rfl rfl rfl rfl ?_ ?_ ?_ ?_; rfl; (focus (simp [Value.oneCell']; done)); (focus (simp; done)); clear hS; intro w hS; simp at hS; try simp only [putW]) | (refine alloc hS rfl rfl ?_; clear hS; intro mb w hS; simp only [putW]) | (refine box1 hS rfl rfl rfl rfl ?_; clear hS; intro mb w hS; try simp only [evW, putW] at hS; simp only [putW]) | (refine boxN hS rfl rfl rfl ?_; clear hS; intro mb w hS; simp only [putW]))
              go_ret
              exact ⟨rfl, hS.nothing⟩
            | succ g =>
              have hik : i < k := by omega
              have e1 : decide ((i : Int) < (la : Int)) = true := decide_eq_true (by omega)
              have e2 : decide ((i : Int) < 20) = true := decide_eq_true (by omega)
              have Hyes : Bx (pinnedB (low PL) 0 = true) := ⟨Hpin.out hik⟩
              clear Hpin
              have hS := toLow (PL := PL) (b := T.pm) hS
              have hila : i < la := by omega
              obtain ⟨yi, hyi⟩ : ∃ y, A[i]? = some y := ⟨_, List.getElem?_eq_getElem (by rw [HA.out]; exact hila)⟩
              obtain ⟨b, off, hpa, hBA⟩ := HAT.out (fun h => by rw [h] at hyi; cases hyi)
              subst hpa
              have HYI : Bx _ := ⟨hyi⟩
              clear HAT hyi
              go_wp2_with (first | (guard_target =~ Calls _ 13 _ _ _; refine Stopped.out ?_) | (refine load1 hS rfl rfl rfl rfl ?_; simp only [putW]) | (refine loadAll hS rfl rfl rfl ?_ ?_; rfl; simp only [putW]) | (refine loadPart hS rfl rfl rfl ?_ rfl ?_; rfl; simp only [putW]) | (refine store1 hS rfl rfl rfl rfl rfl ?_ ?_; (focus (simp; done)); clear hS; intro w hS; simp only [evW, putW] at hS; try simp only [putW]) | (refine storeAll hS rfl rfl rfl rfl ?_ ?_ ?_ ?_; rfl; (focus (simp [Value.oneCell']; done)); rfl; clear hS; intro w hS; try simp only [putW]) | (refine storeN hS rfl rfl rfl rfl ?_ ?_ ?_ ?_; rfl; (focus (simp [Value.oneCell']; done)); (focus (simp; done)); clear hS; intro w hS; simp at hS; try simp only [putW]) | (refine alloc hS rfl rfl ?_; clear hS; intro mb w hS; simp only [putW]) | (refine box1 hS rfl rfl rfl rfl ?_; clear hS; intro mb w hS; try simp only [evW, putW] at hS; simp only [putW]) | (refine boxN hS rfl rfl rfl ?_; clear hS; intro mb w hS; simp only [putW]))
              refine ⟨?_⟩
              refine Calls.mono (victim_any (PL := low PL) (FL := FL) (T := T) (now := n1) (sp := sp2) (by rw [keysN_len2 HK.out]; omega) (by rw [keysN_len2 HK.out, HT.out]; omega) (by omega) HSP2.out (hS.conv (S' := (t, cells (tbC T) 65) :: (T.fm, mapC encInt frV FL) :: (T.pm, mapC encP uV (low PL)) :: (T.hp, HeatC (n1) sp2) :: (7, frC FL) :: (T.sm, mapC encInt (Value.int .i64) []) :: []))) ?_
              clear hS
              rintro e w ⟨⟨L, hL, hres⟩, hS⟩
              obtain ⟨kk, ff, rfl, hff0, hff1⟩ : ∃ (kk ff : Int), e = .returned (.tuple #[.int .i64 kk, .int .i64 ff]) ∧ (ff = 0 → decide (kk = 0) = false) ∧ (j = 1 → decide (ff = 12) = true) := vicRes HK.out Hyes.out hL hres
              clear hres hL
              simp only [putW]
              go_upto_region 21 with (first | (refine load1 hS rfl rfl rfl rfl ?_; simp only [putW]) | (refine loadAll hS rfl rfl rfl ?_ ?_; rfl; simp only [putW]) | (refine loadPart hS rfl rfl rfl ?_ rfl ?_; rfl; simp only [putW]) | (refine store1 hS rfl rfl rfl rfl rfl ?_ ?_; (focus (simp; done)); clear hS; intro w hS; simp only [evW, putW] at hS; try simp only [putW]) | (refine storeAll hS rfl rfl rfl rfl ?_ ?_ ?_ ?_; rfl; (focus (simp [Value.oneCell']; done)); rfl; clear hS; intro w hS; try simp only [putW]) | (refine storeN hS rfl rfl rfl rfl ?_ ?_ ?_ ?_; rfl; (focus (simp [Value.oneCell']; done)); (focus (simp; done)); clear hS; intro w hS; simp at hS; try simp only [putW]) | (refine alloc hS rfl rfl ?_; clear hS; intro mb w hS; simp only [putW]) | (refine box1 hS rfl rfl rfl rfl ?_; clear hS; intro mb w hS; try simp only [evW, putW] at hS; simp only [putW]) | (refine boxN hS rfl rfl rfl ?_; clear hS; intro mb w hS; simp only [putW]))
              go_cut [95] from 77 to 94 (fun v wc => v = .bool false ∧ Sat w0 ((t, cells (tbC T) 65) :: (T.fm, mapC encInt frV FL) :: (T.pm, mapC encP uV (low PL)) :: (T.hp, HeatC (n1) sp2) :: (7, frC FL) :: (T.sm, mapC encInt (Value.int .i64) []) :: []) wc)
              case first =>
                go_wp2_with (first | (guard_target =~ Calls _ 14 _ _ _; refine Stopped.out ?_) | (refine load1 hS rfl rfl rfl rfl ?_; simp only [putW]) | (refine loadAll hS rfl rfl rfl ?_ ?_; rfl; simp only [putW]) | (refine loadPart hS rfl rfl rfl ?_ rfl ?_; rfl; simp only [putW]) | (refine store1 hS rfl rfl rfl rfl rfl ?_ ?_; (focus (simp; done)); clear hS; intro w hS; simp only [evW, putW] at hS; try simp only [putW]) | (refine storeAll hS rfl rfl rfl rfl ?_ ?_ ?_ ?_; rfl; (focus (simp [Value.oneCell']; done)); rfl; clear hS; intro w hS; try simp only [putW]) | (refine storeN hS rfl rfl rfl rfl ?_ ?_ ?_ ?_; rfl; (focus (simp [Value.oneCell']; done)); (focus (simp; done)); clear hS; intro w hS; simp at hS; try simp only [putW]) | (refine alloc hS rfl rfl ?_; clear hS; intro mb w hS; simp only [putW]) | (refine box1 hS rfl rfl rfl rfl ?_; clear hS; intro mb w hS; try simp only [evW, putW] at hS; simp only [putW]) | (refine boxN hS rfl rfl rfl ?_; clear hS; intro mb w hS; simp only [putW]))
                refine ⟨?_⟩
                refine Calls.mono (drop_busy (key := 0) (PL := low PL) HK0.out Hyes.out (hS.conv (S' := (t, cells (tbC T) 65) :: (T.fm, mapC encInt frV FL) :: (T.pm, mapC encP uV (low PL)) :: (7, frC FL) :: (T.sm, mapC encInt (Value.int .i64) []) :: (T.hp, HeatC n1 sp2) :: []))) ?_
                clear hS
                rintro _ w ⟨rfl, hS⟩
                simp only [putW]
                by_cases hf : ff = 0
                · have f1 : decide (ff = 0) = true := decide_eq_true hf
                  have f2 : decide (kk = 0) = false := hff0 hf
                  have hkk : ¬ kk = 0 := of_decide_eq_false f2
                  have hj1 : ¬ j = 1 := fun h => by
                    have h2 := of_decide_eq_true (hff1 h)
                    omega
                  have hj2 : ¬ (j : Int) = 1 := by omega
                  have f3 : decide ((j : Int) = 1) = false := decide_eq_false hj2
                  clear hff0 hff1
                  subst hf
                  go_wp2_with (first | (refine load1 hS rfl rfl rfl rfl ?_; simp only [putW]) | (refine loadAll hS rfl rfl rfl ?_ ?_; rfl; simp only [putW]) | (refine loadPart hS rfl rfl rfl ?_ rfl ?_; rfl; simp only [putW]) | (refine store1 hS rfl rfl rfl rfl rfl ?_ ?_; (focus (simp; done)); clear hS; intro w hS; simp only [evW, putW] at hS; try simp only [putW]) | (refine storeAll hS rfl rfl rfl rfl ?_ ?_ ?_ ?_; rfl; (focus (simp [Value.oneCell']; done)); rfl; clear hS; intro w hS; try simp only [putW]) | (refine storeN hS rfl rfl rfl rfl ?_ ?_ ?_ ?_; rfl; (focus (simp [Value.oneCell']; done)); (focus (simp; done)); clear hS; intro w hS; simp at hS; try simp only [putW]) | (refine alloc hS rfl rfl ?_; clear hS; intro mb w hS; simp only [putW]) | (refine box1 hS rfl rfl rfl rfl ?_; clear hS; intro mb w hS; try simp only [evW, putW] at hS; simp only [putW]) | (refine boxN hS rfl rfl rfl ?_; clear hS; intro mb w hS; simp only [putW]))
                  go_meet
                  case rel => exact ⟨by simp [hkk], hS.conv⟩
                · have f1 : decide (ff = 0) = false := decide_eq_false hf
                  by_cases hj1 : j = 1
                  · have hj2 : (j : Int) = 1 := by omega
                    have f3 : decide ((j : Int) = 1) = true := decide_eq_true hj2
                    have hff : ff = 12 := of_decide_eq_true (hff1 hj1)
                    clear hff0 hff1
                    subst hff
                    go_wp2_with (first | (refine load1 hS rfl rfl rfl rfl ?_; simp only [putW]) | (refine loadAll hS rfl rfl rfl ?_ ?_; rfl; simp only [putW]) | (refine loadPart hS rfl rfl rfl ?_ rfl ?_; rfl; simp only [putW]) | (refine store1 hS rfl rfl rfl rfl rfl ?_ ?_; (focus (simp; done)); clear hS; intro w hS; simp only [evW, putW] at hS; try simp only [putW]) | (refine storeAll hS rfl rfl rfl rfl ?_ ?_ ?_ ?_; rfl; (focus (simp [Value.oneCell']; done)); rfl; clear hS; intro w hS; try simp only [putW]) | (refine storeN hS rfl rfl rfl rfl ?_ ?_ ?_ ?_; rfl; (focus (simp [Value.oneCell']; done)); (focus (simp; done)); clear hS; intro w hS; simp at hS; try simp only [putW]) | (refine alloc hS rfl rfl ?_; clear hS; intro mb w hS; simp only [putW]) | (refine box1 hS rfl rfl rfl rfl ?_; clear hS; intro mb w hS; try simp only [evW, putW] at hS; simp only [putW]) | (refine boxN hS rfl rfl rfl ?_; clear hS; intro mb w hS; simp only [putW]))
                    go_meet
                    case rel => exact ⟨rfl, hS.conv⟩
                  · have hj2 : ¬ (j : Int) = 1 := by omega
                    have f3 : decide ((j : Int) = 1) = false := decide_eq_false hj2
                    clear hff0 hff1
                    go_wp2_with (first | (refine load1 hS rfl rfl rfl rfl ?_; simp only [putW]) | (refine loadAll hS rfl rfl rfl ?_ ?_; rfl; simp only [putW]) | (refine loadPart hS rfl rfl rfl ?_ rfl ?_; rfl; simp only [putW]) | (refine store1 hS rfl rfl rfl rfl rfl ?_ ?_; (focus (simp; done)); clear hS; intro w hS; simp only [evW, putW] at hS; try simp only [putW]) | (refine storeAll hS rfl rfl rfl rfl ?_ ?_ ?_ ?_; rfl; (focus (simp [Value.oneCell']; done)); rfl; clear hS; intro w hS; try simp only [putW]) | (refine storeN hS rfl rfl rfl rfl ?_ ?_ ?_ ?_; rfl; (focus (simp [Value.oneCell']; done)); (focus (simp; done)); clear hS; intro w hS; simp at hS; try simp only [putW]) | (refine alloc hS rfl rfl ?_; clear hS; intro mb w hS; simp only [putW]) | (refine box1 hS rfl rfl rfl rfl ?_; clear hS; intro mb w hS; try simp only [evW, putW] at hS; simp only [putW]) | (refine boxN hS rfl rfl rfl ?_; clear hS; intro mb w hS; simp only [putW]))
                    go_meet
                    case rel => exact ⟨rfl, hS.conv⟩
              case rest =>
                clear hS
                obtain ⟨rfl, hS⟩ := hcut
                go_wp2_with (first | (refine load1 hS rfl rfl rfl rfl ?_; simp only [putW]) | (refine loadAll hS rfl rfl rfl ?_ ?_; rfl; simp only [putW]) | (refine loadPart hS rfl rfl rfl ?_ rfl ?_; rfl; simp only [putW]) | (refine store1 hS rfl rfl rfl rfl rfl ?_ ?_; (focus (simp; done)); clear hS; intro w hS; simp only [evW, putW] at hS; try simp only [putW]) | (refine storeAll hS rfl rfl rfl rfl ?_ ?_ ?_ ?_; rfl; (focus (simp [Value.oneCell']; done)); rfl; clear hS; intro w hS; try simp only [putW]) | (refine storeN hS rfl rfl rfl rfl ?_ ?_ ?_ ?_; rfl; (focus (simp [Value.oneCell']; done)); (focus (simp; done)); clear hS; intro w hS; simp at hS; try simp only [putW]) | (refine alloc hS rfl rfl ?_; clear hS; intro mb w hS; simp only [putW]) | (refine box1 hS rfl rfl rfl rfl ?_; clear hS; intro mb w hS; try simp only [evW, putW] at hS; simp only [putW]) | (refine boxN hS rfl rfl rfl ?_; clear hS; intro mb w hS; simp only [putW]))

                obtain ⟨g0, hg0⟩ : ∃ g0, i + 1 + g0 = k := ⟨k - (i + 1), by omega⟩
                have Hg0 : Bx _ := ⟨hg0⟩
                clear hg0
                go_loopg [14, 15] g0 (fun g lb mm wr => ∃ (m1 : Nat) (bl : Bool), m1 + g = k ∧ i + 1 ≤ m1 ∧ mm = .int .i64 m1 ∧ lb = .bool bl ∧ Bx (bl = lastB A i m1) ∧ Sat w0 ((t, cells (tbC T) 65) :: (T.fm, mapC encInt frV FL) :: (T.pm, mapC encP uV (low PL)) :: (T.hp, HeatC (n1) sp2) :: (7, frC FL) :: (T.sm, mapC encInt (Value.int .i64) []) :: []) wr)
                case atStart => exact ⟨i + 1, true, Hg0.out, Nat.le_refl _, by go_num, rfl, ⟨(lastB_start A i).symm⟩, hS.conv⟩
                case round =>
                  clear hS
                  obtain ⟨m1, bl, hmg, him, rfl, rfl, HB, hS⟩ := hrel
                  cases gk with
                  | succ g2 =>
                    have hmk : m1 < k := by omega
                    have hmla : m1 < la := by omega
                    have e3 : decide ((m1 : Int) < (la : Int)) = true := decide_eq_true (by omega)
                    have e4 : decide ((m1 : Int) < 20) = true := decide_eq_true (by omega)
                    obtain ⟨y, hy⟩ : ∃ y, A[m1]? = some y := ⟨_, List.getElem?_eq_getElem (by rw [HA.out]; exact hmla)⟩
                    have HY : Bx _ := ⟨hy⟩
                    clear hy
                    go_wp2_with (first | (refine load1 hS rfl rfl rfl rfl ?_; simp only [putW]) | (refine loadAll hS rfl rfl rfl ?_ ?_; rfl; simp only [putW]) | (refine loadPart hS rfl rfl rfl ?_ rfl ?_; rfl; simp only [putW]) | (refine store1 hS rfl rfl rfl rfl rfl ?_ ?_; (focus (simp; done)); clear hS; intro w hS; simp only [evW, putW] at hS; try simp only [putW]) | (refine storeAll hS rfl rfl rfl rfl ?_ ?_ ?_ ?_; rfl; (focus (simp [Value.oneCell']; done)); rfl; clear hS; intro w hS; try simp only [putW]) | (refine storeN hS rfl rfl rfl rfl ?_ ?_ ?_ ?_; rfl; (focus (simp [Value.oneCell']; done)); (focus (simp; done)); clear hS; intro w hS; simp at hS; try simp only [putW]) | (refine alloc hS rfl rfl ?_; clear hS; intro mb w hS; simp only [putW]) | (refine box1 hS rfl rfl rfl rfl ?_; clear hS; intro mb w hS; try simp only [evW, putW] at hS; simp only [putW]) | (refine boxN hS rfl rfl rfl ?_; clear hS; intro mb w hS; simp only [putW]))
                    go_loopg [16, 17] (i + 1) (fun g gb kq wr => ∃ (q : Nat) (bg : Bool), q + g = i + 1 ∧ kq = .int .i64 q ∧ gb = .bool bg ∧ Bx (bg = (A.take q).contains y) ∧ Sat w0 ((t, cells (tbC T) 65) :: (T.fm, mapC encInt frV FL) :: (T.pm, mapC encP uV (low PL)) :: (T.hp, HeatC (n1) sp2) :: (7, frC FL) :: (T.sm, mapC encInt (Value.int .i64) []) :: []) wr)
                    case atStart => exact ⟨0, false, by omega, rfl, rfl, ⟨by simp⟩, hS.conv⟩
                    case round =>
                      clear hS
                      obtain ⟨q, bg, hqg, rfl, rfl, HG, hS⟩ := hrel
                      cases gk with
                      | succ g3 =>
                        have hqi : q ≤ i := by omega
                        have hqla : q < la := by omega
                        have e5 : decide ((q : Int) ≤ (i : Int)) = true := decide_eq_true (by omega)
                        obtain ⟨z, hz⟩ : ∃ z, A[q]? = some z := ⟨_, List.getElem?_eq_getElem (by rw [HA.out]; exact hqla)⟩
                        have HG2 : Bx ((A.take (q + 1)).contains y = (bg || decide (z = y))) := ⟨by rw [goneB_next hz, ← HG.out]⟩
                        have HZ : Bx _ := ⟨hz⟩
                        clear hz HG
                        cases bg with
                        | true =>
                          go_upto_region 31 with (first | (refine load1 hS rfl rfl rfl rfl ?_; simp only [putW]) | (refine loadAll hS rfl rfl rfl ?_ ?_; rfl; simp only [putW]) | (refine loadPart hS rfl rfl rfl ?_ rfl ?_; rfl; simp only [putW]) | (refine store1 hS rfl rfl rfl rfl rfl ?_ ?_; (focus (simp; done)); clear hS; intro w hS; simp only [evW, putW] at hS; try simp only [putW]) | (refine storeAll hS rfl rfl rfl rfl ?_ ?_ ?_ ?_; rfl; (focus (simp [Value.oneCell']; done)); rfl; clear hS; intro w hS; try simp only [putW]) | (refine storeN hS rfl rfl rfl rfl ?_ ?_ ?_ ?_; rfl; (focus (simp [Value.oneCell']; done)); (focus (simp; done)); clear hS; intro w hS; simp at hS; try simp only [putW]) | (refine alloc hS rfl rfl ?_; clear hS; intro mb w hS; simp only [putW]) | (refine box1 hS rfl rfl rfl rfl ?_; clear hS; intro mb w hS; try simp only [evW, putW] at hS; simp only [putW]) | (refine boxN hS rfl rfl rfl ?_; clear hS; intro mb w hS; simp only [putW]))
                          (refine region_quiet hS (by kernel_rfl) (by kernel_rfl) (by kernel_rfl) ?_; clear hS; (repeat (apply quiet_step; (focus (intro w hS; go_wp2_with (first | (refine load1 hS rfl rfl rfl rfl ?_; simp only [putW]) | (refine loadAll hS rfl rfl rfl ?_ ?_; rfl; simp only [putW]) | (refine loadPart hS rfl rfl rfl ?_ rfl ?_; rfl; simp only [putW])); exact ⟨rfl, rfl, hS⟩)); simp only [putW])); refine quiet_nil ?_; intro w hS)
                          go_wp2_with (first | (refine load1 hS rfl rfl rfl rfl ?_; simp only [putW]) | (refine loadAll hS rfl rfl rfl ?_ ?_; rfl; simp only [putW]) | (refine loadPart hS rfl rfl rfl ?_ rfl ?_; rfl; simp only [putW]) | (refine store1 hS rfl rfl rfl rfl rfl ?_ ?_; (focus (simp; done)); clear hS; intro w hS; simp only [evW, putW] at hS; try simp only [putW]) | (refine storeAll hS rfl rfl rfl rfl ?_ ?_ ?_ ?_; rfl; (focus (simp [Value.oneCell']; done)); rfl; clear hS; intro w hS; try simp only [putW]) | (refine storeN hS rfl rfl rfl rfl ?_ ?_ ?_ ?_; rfl; (focus (simp [Value.oneCell']; done)); (focus (simp; done)); clear hS; intro w hS; simp at hS; try simp only [putW]) | (refine alloc hS rfl rfl ?_; clear hS; intro mb w hS; simp only [putW]) | (refine box1 hS rfl rfl rfl rfl ?_; clear hS; intro mb w hS; try simp only [evW, putW] at hS; simp only [putW]) | (refine boxN hS rfl rfl rfl ?_; clear hS; intro mb w hS; simp only [putW]))
                          go_roundg g3
                          case measure => omega
                          case rel => exact ⟨q + 1, true, by omega, by go_num, rfl, ⟨by rw [HG2.out]; rfl⟩, hS.conv⟩
                        | false =>
                          by_cases hzy : z = y
                          · have HGt : Bx ((A.take (q + 1)).contains y = true) := ⟨by rw [HG2.out, decide_eq_true hzy]; rfl⟩
                            have e6 : decide (z = y) = true := decide_eq_true hzy
                            have hb6 : (z == y) = true := by simp [hzy]
                            go_upto_region 31 with (first | (refine load1 hS rfl rfl rfl rfl ?_; simp only [putW]) | (refine loadAll hS rfl rfl rfl ?_ ?_; rfl; simp only [putW]) | (refine loadPart hS rfl rfl rfl ?_ rfl ?_; rfl; simp only [putW]) | (refine store1 hS rfl rfl rfl rfl rfl ?_ ?_; (focus (simp; done)); clear hS; intro w hS; simp only [evW, putW] at hS; try simp only [putW]) | (refine storeAll hS rfl rfl rfl rfl ?_ ?_ ?_ ?_; rfl; (focus (simp [Value.oneCell']; done)); rfl; clear hS; intro w hS; try simp only [putW]) | (refine storeN hS rfl rfl rfl rfl ?_ ?_ ?_ ?_; rfl; (focus (simp [Value.oneCell']; done)); (focus (simp; done)); clear hS; intro w hS; simp at hS; try simp only [putW]) | (refine alloc hS rfl rfl ?_; clear hS; intro mb w hS; simp only [putW]) | (refine box1 hS rfl rfl rfl rfl ?_; clear hS; intro mb w hS; try simp only [evW, putW] at hS; simp only [putW]) | (refine boxN hS rfl rfl rfl ?_; clear hS; intro mb w hS; simp only [putW]))
                            (refine region_quiet hS (by kernel_rfl) (by kernel_rfl) (by kernel_rfl) ?_; clear hS; (repeat (apply quiet_step; (focus (intro w hS; go_wp2_with (first | (refine loadB (f := i64) hS rfl rfl rfl hBA q 0 ?_ HZ.out rfl ?_; omega; simp only [putW]) | (refine loadB (f := i64) hS rfl rfl rfl hBA m1 0 ?_ HY.out rfl ?_; omega; simp only [putW]) | (refine load1 hS rfl rfl rfl rfl ?_; simp only [putW]) | (refine loadAll hS rfl rfl rfl ?_ ?_; rfl; simp only [putW]) | (refine loadPart hS rfl rfl rfl ?_ rfl ?_; rfl; simp only [putW])); exact ⟨rfl, rfl, hS⟩)); simp only [putW])); refine quiet_nil ?_; intro w hS)
                            go_wp2_with (first | (refine load1 hS rfl rfl rfl rfl ?_; simp only [putW]) | (refine loadAll hS rfl rfl rfl ?_ ?_; rfl; simp only [putW]) | (refine loadPart hS rfl rfl rfl ?_ rfl ?_; rfl; simp only [putW]) | (refine store1 hS rfl rfl rfl rfl rfl ?_ ?_; (focus (simp; done)); clear hS; intro w hS; simp only [evW, putW] at hS; try simp only [putW]) | (refine storeAll hS rfl rfl rfl rfl ?_ ?_ ?_ ?_; rfl; (focus (simp [Value.oneCell']; done)); rfl; clear hS; intro w hS; try simp only [putW]) | (refine storeN hS rfl rfl rfl rfl ?_ ?_ ?_ ?_; rfl; (focus (simp [Value.oneCell']; done)); (focus (simp; done)); clear hS; intro w hS; simp at hS; try simp only [putW]) | (refine alloc hS rfl rfl ?_; clear hS; intro mb w hS; simp only [putW]) | (refine box1 hS rfl rfl rfl rfl ?_; clear hS; intro mb w hS; try simp only [evW, putW] at hS; simp only [putW]) | (refine boxN hS rfl rfl rfl ?_; clear hS; intro mb w hS; simp only [putW]))
                            go_roundg g3
                            case measure => omega
                            case rel => exact ⟨q + 1, true, by omega, by go_num, by simp [hzy], ⟨HGt.out.symm⟩, hS.conv⟩
                          · have HGf : Bx ((A.take (q + 1)).contains y = false) := ⟨by rw [HG2.out, decide_eq_false hzy]; rfl⟩
                            have e6 : decide (z = y) = false := decide_eq_false hzy
                            go_upto_region 31 with (first | (refine load1 hS rfl rfl rfl rfl ?_; simp only [putW]) | (refine loadAll hS rfl rfl rfl ?_ ?_; rfl; simp only [putW]) | (refine loadPart hS rfl rfl rfl ?_ rfl ?_; rfl; simp only [putW]) | (refine store1 hS rfl rfl rfl rfl rfl ?_ ?_; (focus (simp; done)); clear hS; intro w hS; simp only [evW, putW] at hS; try simp only [putW]) | (refine storeAll hS rfl rfl rfl rfl ?_ ?_ ?_ ?_; rfl; (focus (simp [Value.oneCell']; done)); rfl; clear hS; intro w hS; try simp only [putW]) | (refine storeN hS rfl rfl rfl rfl ?_ ?_ ?_ ?_; rfl; (focus (simp [Value.oneCell']; done)); (focus (simp; done)); clear hS; intro w hS; simp at hS; try simp only [putW]) | (refine alloc hS rfl rfl ?_; clear hS; intro mb w hS; simp only [putW]) | (refine box1 hS rfl rfl rfl rfl ?_; clear hS; intro mb w hS; try simp only [evW, putW] at hS; simp only [putW]) | (refine boxN hS rfl rfl rfl ?_; clear hS; intro mb w hS; simp only [putW]))
                            (refine region_quiet hS (by kernel_rfl) (by kernel_rfl) (by kernel_rfl) ?_; clear hS; (repeat (apply quiet_step; (focus (intro w hS; go_wp2_with (first | (refine loadB (f := i64) hS rfl rfl rfl hBA q 0 ?_ HZ.out rfl ?_; omega; simp only [putW]) | (refine loadB (f := i64) hS rfl rfl rfl hBA m1 0 ?_ HY.out rfl ?_; omega; simp only [putW]) | (refine load1 hS rfl rfl rfl rfl ?_; simp only [putW]) | (refine loadAll hS rfl rfl rfl ?_ ?_; rfl; simp only [putW]) | (refine loadPart hS rfl rfl rfl ?_ rfl ?_; rfl; simp only [putW])); exact ⟨rfl, rfl, hS⟩)); simp only [putW])); refine quiet_nil ?_; intro w hS)
                            go_wp2_with (first | (refine load1 hS rfl rfl rfl rfl ?_; simp only [putW]) | (refine loadAll hS rfl rfl rfl ?_ ?_; rfl; simp only [putW]) | (refine loadPart hS rfl rfl rfl ?_ rfl ?_; rfl; simp only [putW]) | (refine store1 hS rfl rfl rfl rfl rfl ?_ ?_; (focus (simp; done)); clear hS; intro w hS; simp only [evW, putW] at hS; try simp only [putW]) | (refine storeAll hS rfl rfl rfl rfl ?_ ?_ ?_ ?_; rfl; (focus (simp [Value.oneCell']; done)); rfl; clear hS; intro w hS; try simp only [putW]) | (refine storeN hS rfl rfl rfl rfl ?_ ?_ ?_ ?_; rfl; (focus (simp [Value.oneCell']; done)); (focus (simp; done)); clear hS; intro w hS; simp at hS; try simp only [putW]) | (refine alloc hS rfl rfl ?_; clear hS; intro mb w hS; simp only [putW]) | (refine box1 hS rfl rfl rfl rfl ?_; clear hS; intro mb w hS; try simp only [evW, putW] at hS; simp only [putW]) | (refine boxN hS rfl rfl rfl ?_; clear hS; intro mb w hS; simp only [putW]))
                            go_roundg g3
                            case measure => omega
                            case rel => exact ⟨q + 1, false, by omega, by go_num, by simp [hzy], ⟨HGf.out.symm⟩, hS.conv⟩
                      | zero =>
                        have hq1 : q = i + 1 := by omega
                        have HG1 : Bx (bg = (A.take (i + 1)).contains y) := ⟨by rw [← hq1]; exact HG.out⟩
                        have hqi : ¬ q ≤ i := by omega
                        have e5 : decide ((q : Int) ≤ (i : Int)) = false := decide_eq_false (by omega)
                        have HB2 : Bx (lastB A i (m1 + 1) = (bl && bg)) := ⟨by rw [lastB_next HY.out him, ← HB.out, ← HG1.out]⟩
                        clear hqg hq1 HG HG1 HB
                        cases bl with
                        | true =>
                          go_wp2_with (first | (refine load1 hS rfl rfl rfl rfl ?_; simp only [putW]) | (refine loadAll hS rfl rfl rfl ?_ ?_; rfl; simp only [putW]) | (refine loadPart hS rfl rfl rfl ?_ rfl ?_; rfl; simp only [putW]) | (refine store1 hS rfl rfl rfl rfl rfl ?_ ?_; (focus (simp; done)); clear hS; intro w hS; simp only [evW, putW] at hS; try simp only [putW]) | (refine storeAll hS rfl rfl rfl rfl ?_ ?_ ?_ ?_; rfl; (focus (simp [Value.oneCell']; done)); rfl; clear hS; intro w hS; try simp only [putW]) | (refine storeN hS rfl rfl rfl rfl ?_ ?_ ?_ ?_; rfl; (focus (simp [Value.oneCell']; done)); (focus (simp; done)); clear hS; intro w hS; simp at hS; try simp only [putW]) | (refine alloc hS rfl rfl ?_; clear hS; intro mb w hS; simp only [putW]) | (refine box1 hS rfl rfl rfl rfl ?_; clear hS; intro mb w hS; try simp only [evW, putW] at hS; simp only [putW]) | (refine boxN hS rfl rfl rfl ?_; clear hS; intro mb w hS; simp only [putW]))
                          go_roundg g2
                          case measure => omega
                          case rel => exact ⟨m1 + 1, bg, by omega, by omega, by go_num, rfl, ⟨by rw [HB2.out]; rfl⟩, hS.conv⟩
                        | false =>
                          go_wp2_with (first | (refine load1 hS rfl rfl rfl rfl ?_; simp only [putW]) | (refine loadAll hS rfl rfl rfl ?_ ?_; rfl; simp only [putW]) | (refine loadPart hS rfl rfl rfl ?_ rfl ?_; rfl; simp only [putW]) | (refine store1 hS rfl rfl rfl rfl rfl ?_ ?_; (focus (simp; done)); clear hS; intro w hS; simp only [evW, putW] at hS; try simp only [putW]) | (refine storeAll hS rfl rfl rfl rfl ?_ ?_ ?_ ?_; rfl; (focus (simp [Value.oneCell']; done)); rfl; clear hS; intro w hS; try simp only [putW]) | (refine storeN hS rfl rfl rfl rfl ?_ ?_ ?_ ?_; rfl; (focus (simp [Value.oneCell']; done)); (focus (simp; done)); clear hS; intro w hS; simp at hS; try simp only [putW]) | (refine alloc hS rfl rfl ?_; clear hS; intro mb w hS; simp only [putW]) | (refine box1 hS rfl rfl rfl rfl ?_; clear hS; intro mb w hS; try simp only [evW, putW] at hS; simp only [putW]) | (refine boxN hS rfl rfl rfl ?_; clear hS; intro mb w hS; simp only [putW]))
                          go_roundg g2
                          case measure => omega
                          case rel => exact ⟨m1 + 1, false, by omega, by omega, by go_num, rfl, ⟨by rw [HB2.out]; rfl⟩, hS.conv⟩
                  | zero =>
                    have hmk : k = m1 := by omega
                    subst hmk
                    have e1 : decide ((k : Int) < (la : Int)) = true := decide_eq_true (by omega); have e2 : decide ((k : Int) < 20) = false := decide_eq_false (by omega)
                    have HBk : Bx (bl = lastB A i k) := HB
                    clear hmg him HB
                    have hS := ofLow (PL := PL) (b := T.pm) hS
                    go_wp2_with (first | (refine loadB (f := i64) hS rfl rfl rfl hBA i 0 ?_ HYI.out rfl ?_; omega; simp only [putW]) | (guard_target =~ Calls _ 15 _ _ _; refine Stopped.out ?_) | (refine load1 hS rfl rfl rfl rfl ?_; simp only [putW]) | (refine loadAll hS rfl rfl rfl ?_ ?_; rfl; simp only [putW]) | (refine loadPart hS rfl rfl rfl ?_ rfl ?_; rfl; simp only [putW]) | (refine store1 hS rfl rfl rfl rfl rfl ?_ ?_; (focus (simp; done)); clear hS; intro w hS; simp only [evW, putW] at hS; try simp only [putW]) | (refine storeAll hS rfl rfl rfl rfl ?_ ?_ ?_ ?_; rfl; (focus (simp [Value.oneCell']; done)); rfl; clear hS; intro w hS; try simp only [putW]) | (refine storeN hS rfl rfl rfl rfl ?_ ?_ ?_ ?_; rfl; (focus (simp [Value.oneCell']; done)); (focus (simp; done)); clear hS; intro w hS; simp at hS; try simp only [putW]) | (refine alloc hS rfl rfl ?_; clear hS; intro mb w hS; simp only [putW]) | (refine box1 hS rfl rfl rfl rfl ?_; clear hS; intro mb w hS; try simp only [evW, putW] at hS; simp only [putW]) | (refine boxN hS rfl rfl rfl ?_; clear hS; intro mb w hS; simp only [putW]))
                    refine ⟨?_⟩
                    refine Calls.mono (free_any (task := yi) (PL := PL) (SL := []) (hS.conv (S' := (t, cells (tbC T) 65) :: (T.pm, mapC encW uV PL) :: (T.sm, mapC encInt (Value.int .i64) []) :: (T.fm, mapC encInt frV FL) :: (7, frC FL) :: (T.hp, HeatC n1 sp2) :: []))) ?_
                    clear hS
                    rintro _ w ⟨PL2, rfl, hg, hS⟩
                    have HP2 : Bx (PinsAt PL2 A k (i + 1)) := ⟨HP.out.free HYI.out hg⟩
                    have Hpn : Bx (pinnedB (low PL2) 0 = !bl) := ⟨by rw [HP2.out.pinned HOK.out, HBk.out]⟩
                    clear HP hg
                    have hS1 : Sat w0 ((t, cells (tbC T) 65) :: (T.pm, mapC encW uV PL2) :: (T.sm, mapC encInt (Value.int .i64) []) :: (T.fm, mapC encInt frV FL) :: (7, frC FL) :: (T.hp, HeatC n1 sp2) :: []) w := hS
                    clear hS
                    have hS := toLow (PL := PL2) (b := T.pm) hS1
                    clear hS1
                    simp only [putW]
                    go_wp2_with (first | (guard_target =~ Calls _ 16 _ _ _; refine Stopped.out ?_) | (refine load1 hS rfl rfl rfl rfl ?_; simp only [putW]) | (refine loadAll hS rfl rfl rfl ?_ ?_; rfl; simp only [putW]) | (refine loadPart hS rfl rfl rfl ?_ rfl ?_; rfl; simp only [putW]) | (refine store1 hS rfl rfl rfl rfl rfl ?_ ?_; (focus (simp; done)); clear hS; intro w hS; simp only [evW, putW] at hS; try simp only [putW]) | (refine storeAll hS rfl rfl rfl rfl ?_ ?_ ?_ ?_; rfl; (focus (simp [Value.oneCell']; done)); rfl; clear hS; intro w hS; try simp only [putW]) | (refine storeN hS rfl rfl rfl rfl ?_ ?_ ?_ ?_; rfl; (focus (simp [Value.oneCell']; done)); (focus (simp; done)); clear hS; intro w hS; simp at hS; try simp only [putW]) | (refine alloc hS rfl rfl ?_; clear hS; intro mb w hS; simp only [putW]) | (refine box1 hS rfl rfl rfl rfl ?_; clear hS; intro mb w hS; try simp only [evW, putW] at hS; simp only [putW]) | (refine boxN hS rfl rfl rfl ?_; clear hS; intro mb w hS; simp only [putW]))
                    refine ⟨?_⟩
                    refine Calls.mono (pinned_any (key := 0) (PL := low PL2) (hS.conv (S' := (t, cells (tbC T) 65) :: (T.pm, mapC encP uV (low PL2)) :: (T.sm, mapC encInt (Value.int .i64) []) :: (T.fm, mapC encInt frV FL) :: (7, frC FL) :: (T.hp, HeatC n1 sp2) :: []))) ?_
                    clear hS
                    rintro _ w ⟨rfl, hS⟩
                    rw [Hpn.out]
                    cases bl with
                    | true =>
                      have Hno : Bx (pinnedB (low PL2) 0 = false) := ⟨by rw [Hpn.out]; rfl⟩
                      simp only [Bool.not_true, putW]
                      go_wp2_with (first | (guard_target =~ Calls _ 14 _ _ _; refine Stopped.out ?_) | (refine load1 hS rfl rfl rfl rfl ?_; simp only [putW]) | (refine loadAll hS rfl rfl rfl ?_ ?_; rfl; simp only [putW]) | (refine loadPart hS rfl rfl rfl ?_ rfl ?_; rfl; simp only [putW]) | (refine store1 hS rfl rfl rfl rfl rfl ?_ ?_; (focus (simp; done)); clear hS; intro w hS; simp only [evW, putW] at hS; try simp only [putW]) | (refine storeAll hS rfl rfl rfl rfl ?_ ?_ ?_ ?_; rfl; (focus (simp [Value.oneCell']; done)); rfl; clear hS; intro w hS; try simp only [putW]) | (refine storeN hS rfl rfl rfl rfl ?_ ?_ ?_ ?_; rfl; (focus (simp [Value.oneCell']; done)); (focus (simp; done)); clear hS; intro w hS; simp at hS; try simp only [putW]) | (refine alloc hS rfl rfl ?_; clear hS; intro mb w hS; simp only [putW]) | (refine box1 hS rfl rfl rfl rfl ?_; clear hS; intro mb w hS; try simp only [evW, putW] at hS; simp only [putW]) | (refine boxN hS rfl rfl rfl ?_; clear hS; intro mb w hS; simp only [putW]))
                      refine ⟨?_⟩
                      refine Calls.mono (drop_any (key := 0) (PL := low PL2) HK0.out Hno.out (hS.conv (S' := (t, cells (tbC T) 65) :: (T.fm, mapC encInt frV FL) :: (T.pm, mapC encP uV (low PL2)) :: (T.hp, HeatC (n1) sp2) :: (7, frC FL) :: (T.sm, mapC encInt (Value.int .i64) []) :: []))) ?_
                      clear hS
                      rintro _ w ⟨rfl, hS⟩
                      simp only [putW]
                      go_wp2_with (first | (guard_target =~ Calls _ 14 _ _ _; refine Stopped.out ?_) | (refine load1 hS rfl rfl rfl rfl ?_; simp only [putW]) | (refine loadAll hS rfl rfl rfl ?_ ?_; rfl; simp only [putW]) | (refine loadPart hS rfl rfl rfl ?_ rfl ?_; rfl; simp only [putW]) | (refine store1 hS rfl rfl rfl rfl rfl ?_ ?_; (focus (simp; done)); clear hS; intro w hS; simp only [evW, putW] at hS; try simp only [putW]) | (refine storeAll hS rfl rfl rfl rfl ?_ ?_ ?_ ?_; rfl; (focus (simp [Value.oneCell']; done)); rfl; clear hS; intro w hS; try simp only [putW]) | (refine storeN hS rfl rfl rfl rfl ?_ ?_ ?_ ?_; rfl; (focus (simp [Value.oneCell']; done)); (focus (simp; done)); clear hS; intro w hS; simp at hS; try simp only [putW]) | (refine alloc hS rfl rfl ?_; clear hS; intro mb w hS; simp only [putW]) | (refine box1 hS rfl rfl rfl rfl ?_; clear hS; intro mb w hS; try simp only [evW, putW] at hS; simp only [putW]) | (refine boxN hS rfl rfl rfl ?_; clear hS; intro mb w hS; simp only [putW]))
                      refine ⟨?_⟩
                      refine Calls.mono (drop_none (key := 0) (FL := mdel FL 0) (T := T) (by rw [mget_mdel, if_pos rfl]) (hS.conv (S' := (t, cells (tbC T) 65) :: (T.fm, mapC encInt frV (mdel FL 0)) :: (T.pm, mapC encP uV (low PL2)) :: (T.hp, HeatC n1 (mdel sp2 0)) :: (7, frC FL) :: (T.sm, mapC encInt (Value.int .i64) []) :: []))) ?_
                      clear hS
                      rintro _ w ⟨rfl, hS⟩
                      simp only [putW]
                      go_wp2_with (first | (go_at_call 17; refine Calls.mono (awakeF_any) ?_; rintro _ w2 ⟨rfl, h2⟩; replace hS := hS.frame h2; clear h2; (try simp only [List.cons_append, List.nil_append] at hS); simp only [putW]) | (refine load1 hS rfl rfl rfl rfl ?_; simp only [putW]) | (refine loadAll hS rfl rfl rfl ?_ ?_; rfl; simp only [putW]) | (refine loadPart hS rfl rfl rfl ?_ rfl ?_; rfl; simp only [putW]) | (refine store1 hS rfl rfl rfl rfl rfl ?_ ?_; (focus (simp; done)); clear hS; intro w hS; simp only [evW, putW] at hS; try simp only [putW]) | (refine storeAll hS rfl rfl rfl rfl ?_ ?_ ?_ ?_; rfl; (focus (simp [Value.oneCell']; done)); rfl; clear hS; intro w hS; try simp only [putW]) | (refine storeN hS rfl rfl rfl rfl ?_ ?_ ?_ ?_; rfl; (focus (simp [Value.oneCell']; done)); (focus (simp; done)); clear hS; intro w hS; simp at hS; try simp only [putW]) | (refine alloc hS rfl rfl ?_; clear hS; intro mb w hS; simp only [putW]) | (refine box1 hS rfl rfl rfl rfl ?_; clear hS; intro mb w hS; try simp only [evW, putW] at hS; simp only [putW]) | (refine boxN hS rfl rfl rfl ?_; clear hS; intro mb w hS; simp only [putW]))
                      go_ret
                      exact ⟨rfl, hS.nothing⟩
                    | false =>
                      simp only [Bool.not_false, putW]
                      go_wp2_with (first | (refine load1 hS rfl rfl rfl rfl ?_; simp only [putW]) | (refine loadAll hS rfl rfl rfl ?_ ?_; rfl; simp only [putW]) | (refine loadPart hS rfl rfl rfl ?_ rfl ?_; rfl; simp only [putW]) | (refine store1 hS rfl rfl rfl rfl rfl ?_ ?_; (focus (simp; done)); clear hS; intro w hS; simp only [evW, putW] at hS; try simp only [putW]) | (refine storeAll hS rfl rfl rfl rfl ?_ ?_ ?_ ?_; rfl; (focus (simp [Value.oneCell']; done)); rfl; clear hS; intro w hS; try simp only [putW]) | (refine storeN hS rfl rfl rfl rfl ?_ ?_ ?_ ?_; rfl; (focus (simp [Value.oneCell']; done)); (focus (simp; done)); clear hS; intro w hS; simp at hS; try simp only [putW]) | (refine alloc hS rfl rfl ?_; clear hS; intro mb w hS; simp only [putW]) | (refine box1 hS rfl rfl rfl rfl ?_; clear hS; intro mb w hS; try simp only [evW, putW] at hS; simp only [putW]) | (refine boxN hS rfl rfl rfl ?_; clear hS; intro mb w hS; simp only [putW]))
                      go_roundg g
                      case measure => omega
                      case rel => exact ⟨i + 1, PL2, by omega, by go_num, HP2, ⟨fun _ => by rw [Hpn.out]; rfl⟩, (ofLow (PL := PL2) (b := T.pm) hS).conv⟩
end
end Go.Proofs.Ytlkoclalcfeniaa.FramesPinsDone
