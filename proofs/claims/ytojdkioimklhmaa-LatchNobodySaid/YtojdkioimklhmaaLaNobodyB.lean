/-
  LatchNobody: the walk, more than 80 acts. (Printed by mknobody.py.)
-/
import Derived.Test.YtojdkioimklhmaaLaObs2
set_option linter.unusedSimpArgs false
set_option linter.unusedVariables false
namespace Go.Proofs.Ytojdkioimklhmaa.LatchNobodyDone
open Go.RowKit Go.Proofs.Ytojdkioimklhmaa Go.Proofs.Ytojdkioimklhmaa.Sl

section
variable {w0 : World}
set_option maxRecDepth 100000 in
set_option maxHeartbeats 8000000 in
theorem coreB {L : List La} {N la : Nat} {pa : Option Addr} {ca : Nat} (hL : L.length = la) (hla : la ≤ 9223372036854775807) (hat : L ≠ [] → ∃ b off, pa = some ⟨b, off, none⟩ ∧ BAt w0 4 laF (fun _ => True) L b off) (hN : N ≤ la) (hN2 : N ≤ 80) (d1 : N < la) (d2 : 80 ≤ N) :
    Calls Try.prog 7 #[.slice pa la ca] w0 fun e w' => e = .returned (.bool true) ∧ Sat w0 [] w' := by
  have hS := Sat.refl w0
  have HL : Bx _ := ⟨hL⟩
  have HAT : Bx _ := ⟨hat⟩
  clear hL hat
  go_enter Try.func7, Try.ntmps7
  go_wp2_with (first | (guard_target =~ Calls _ 9 _ _ _; refine Stopped.out ?_) | (refine load1 hS rfl rfl rfl rfl ?_; simp only [putW]) | (refine loadAll hS rfl rfl rfl ?_ ?_; rfl; simp only [putW]) | (refine loadPart hS rfl rfl rfl ?_ rfl ?_; rfl; simp only [putW]) | (refine store1 hS rfl rfl rfl rfl rfl ?_ ?_; (focus (simp; done)); clear hS; intro w hS; simp only [evW, putW] at hS; try simp only [putW]) | (refine storeAll hS rfl rfl rfl rfl ?_ ?_ ?_ ?_; rfl; (focus (simp [Value.oneCell']; done)); rfl; clear hS; intro w hS; try simp only [putW]) | (refine storeN hS rfl rfl rfl rfl ?_ ?_ ?_ ?_; rfl; (focus (simp [Value.oneCell']; done)); (focus (simp; done)); clear hS; intro w hS; simp at hS; try simp only [putW]) | (refine alloc hS rfl rfl ?_; clear hS; intro mb w hS; simp only [putW]) | (refine box1 hS rfl rfl rfl rfl ?_; clear hS; intro mb w hS; try simp only [evW, putW] at hS; simp only [putW]) | (refine boxN hS rfl rfl rfl ?_; clear hS; intro mb w hS; simp only [putW]))
  refine ⟨?_⟩
  refine Calls.mono tabNew_any ?_
  clear hS
  rintro _ w ⟨t, rfl, hS⟩
  simp only [putW]
  go_wp2_with (first | (refine load1 hS rfl rfl rfl rfl ?_; simp only [putW]) | (refine loadAll hS rfl rfl rfl ?_ ?_; rfl; simp only [putW]) | (refine loadPart hS rfl rfl rfl ?_ rfl ?_; rfl; simp only [putW]) | (refine store1 hS rfl rfl rfl rfl rfl ?_ ?_; (focus (simp; done)); clear hS; intro w hS; simp only [evW, putW] at hS; try simp only [putW]) | (refine storeAll hS rfl rfl rfl rfl ?_ ?_ ?_ ?_; rfl; (focus (simp [Value.oneCell']; done)); rfl; clear hS; intro w hS; try simp only [putW]) | (refine storeN hS rfl rfl rfl rfl ?_ ?_ ?_ ?_; rfl; (focus (simp [Value.oneCell']; done)); (focus (simp; done)); clear hS; intro w hS; simp at hS; try simp only [putW]) | (refine alloc hS rfl rfl ?_; clear hS; intro mb w hS; simp only [putW]) | (refine box1 hS rfl rfl rfl rfl ?_; clear hS; intro mb w hS; try simp only [evW, putW] at hS; simp only [putW]) | (refine boxN hS rfl rfl rfl ?_; clear hS; intro mb w hS; simp only [putW]))
  go_loopg [4, 5] N (fun g nv i wr => ∃ (k : Nat) (PL : PLts) (W : Wts), k + g = N ∧ nv = .int .i64 k ∧ i = .int .i64 k ∧ Bx (Whole PL W L k) ∧ Sat w0 ((t, TabC PL W) :: []) wr)
  case atStart => exact ⟨0, [], [], by omega, rfl, rfl, ⟨Whole.start L⟩, hS⟩
  case round =>
    clear hS
    obtain ⟨k, PL, W, hkg, rfl, rfl, HP, hS⟩ := hrel
    cases gk with
    | zero =>
      have hkN : k = N := by omega
      subst hkN
      clear hkg
      have e1 : decide ((k : Int) < (la : Int)) = true := decide_eq_true (by omega); have e2 : decide ((k : Int) < 80) = false := decide_eq_false (by omega)
      have hLF : Left PL W L k 0 := HP.out.left
      have HLF : Bx _ := ⟨hLF⟩
      clear hLF
      go_wp2_with (first | (refine load1 hS rfl rfl rfl rfl ?_; simp only [putW]) | (refine loadAll hS rfl rfl rfl ?_ ?_; rfl; simp only [putW]) | (refine loadPart hS rfl rfl rfl ?_ rfl ?_; rfl; simp only [putW]) | (refine store1 hS rfl rfl rfl rfl rfl ?_ ?_; (focus (simp; done)); clear hS; intro w hS; simp only [evW, putW] at hS; try simp only [putW]) | (refine storeAll hS rfl rfl rfl rfl ?_ ?_ ?_ ?_; rfl; (focus (simp [Value.oneCell']; done)); rfl; clear hS; intro w hS; try simp only [putW]) | (refine storeN hS rfl rfl rfl rfl ?_ ?_ ?_ ?_; rfl; (focus (simp [Value.oneCell']; done)); (focus (simp; done)); clear hS; intro w hS; simp at hS; try simp only [putW]) | (refine alloc hS rfl rfl ?_; clear hS; intro mb w hS; simp only [putW]) | (refine box1 hS rfl rfl rfl rfl ?_; clear hS; intro mb w hS; try simp only [evW, putW] at hS; simp only [putW]) | (refine boxN hS rfl rfl rfl ?_; clear hS; intro mb w hS; simp only [putW]))
      go_loopg [12] k (fun g i wr => ∃ (a : Nat) (PL : PLts) (W : Wts), a + g = k ∧ i = .int .i64 a ∧ Bx (Left PL W L k a) ∧ Sat w0 ((t, TabC PL W) :: []) wr)
      case atStart => exact ⟨0, PL, W, by omega, rfl, HLF, hS⟩
      case round =>
        clear hS HLF HP PL W
        obtain ⟨a, PL, W, hag, rfl, HLF, hS⟩ := hrel
        cases gk with
        | succ g =>
          have hak : a < k := by omega
          have hala : a < la := by omega
          have d1 : decide ((a : Int) < (k : Int)) = true := decide_eq_true (by omega)
          have h9 : k + a ≤ 900 := by omega
          obtain ⟨xa, hx⟩ : ∃ y, L[a]? = some y := ⟨_, List.getElem?_eq_getElem (by rw [HL.out]; exact hala)⟩
          obtain ⟨b, off, hpa, hBA⟩ := HAT.out (fun h => by rw [h] at hx; cases hx)
          subst hpa
          obtain ⟨kd, tk, ky, am⟩ := xa
          have Hx : Bx _ := ⟨hx⟩
          clear hx HAT
          go_wp2_with (first | (refine loadB (f := laF) hS rfl rfl rfl hBA a 1 ?_ Hx.out rfl ?_; omega; simp only [putW]) | (guard_target =~ Calls _ 11 _ _ _; refine Stopped.out ?_) | (refine load1 hS rfl rfl rfl rfl ?_; simp only [putW]) | (refine loadAll hS rfl rfl rfl ?_ ?_; rfl; simp only [putW]) | (refine loadPart hS rfl rfl rfl ?_ rfl ?_; rfl; simp only [putW]) | (refine store1 hS rfl rfl rfl rfl rfl ?_ ?_; (focus (simp; done)); clear hS; intro w hS; simp only [evW, putW] at hS; try simp only [putW]) | (refine storeAll hS rfl rfl rfl rfl ?_ ?_ ?_ ?_; rfl; (focus (simp [Value.oneCell']; done)); rfl; clear hS; intro w hS; try simp only [putW]) | (refine storeN hS rfl rfl rfl rfl ?_ ?_ ?_ ?_; rfl; (focus (simp [Value.oneCell']; done)); (focus (simp; done)); clear hS; intro w hS; simp at hS; try simp only [putW]) | (refine alloc hS rfl rfl ?_; clear hS; intro mb w hS; simp only [putW]) | (refine box1 hS rfl rfl rfl rfl ?_; clear hS; intro mb w hS; try simp only [evW, putW] at hS; simp only [putW]) | (refine boxN hS rfl rfl rfl ?_; clear hS; intro mb w hS; simp only [putW]))
          refine ⟨?_⟩
          refine Calls.mono (freeL_any (x := (kd, tk, ky, am)) HLF.out h9 Hx.out hS) ?_
          clear hS
          rintro _ w ⟨v, PL2, W2, rfl, hs, hS⟩
          have HL2 : Bx (Left PL2 W2 L k (a + 1)) := ⟨hs⟩
          clear hs
          simp only [putW]
          go_wp2_with (first | (refine load1 hS rfl rfl rfl rfl ?_; simp only [putW]) | (refine loadAll hS rfl rfl rfl ?_ ?_; rfl; simp only [putW]) | (refine loadPart hS rfl rfl rfl ?_ rfl ?_; rfl; simp only [putW]) | (refine store1 hS rfl rfl rfl rfl rfl ?_ ?_; (focus (simp; done)); clear hS; intro w hS; simp only [evW, putW] at hS; try simp only [putW]) | (refine storeAll hS rfl rfl rfl rfl ?_ ?_ ?_ ?_; rfl; (focus (simp [Value.oneCell']; done)); rfl; clear hS; intro w hS; try simp only [putW]) | (refine storeN hS rfl rfl rfl rfl ?_ ?_ ?_ ?_; rfl; (focus (simp [Value.oneCell']; done)); (focus (simp; done)); clear hS; intro w hS; simp at hS; try simp only [putW]) | (refine alloc hS rfl rfl ?_; clear hS; intro mb w hS; simp only [putW]) | (refine box1 hS rfl rfl rfl rfl ?_; clear hS; intro mb w hS; try simp only [evW, putW] at hS; simp only [putW]) | (refine boxN hS rfl rfl rfl ?_; clear hS; intro mb w hS; simp only [putW]))
          go_roundg g
          case measure => omega
          case rel => exact ⟨a + 1, PL2, W2, by omega, by go_num, HL2, hS⟩
        | zero =>
          have hak : a = k := by omega
          subst hak
          clear hag
          go_wp2_with (first | (refine load1 hS rfl rfl rfl rfl ?_; simp only [putW]) | (refine loadAll hS rfl rfl rfl ?_ ?_; rfl; simp only [putW]) | (refine loadPart hS rfl rfl rfl ?_ rfl ?_; rfl; simp only [putW]) | (refine store1 hS rfl rfl rfl rfl rfl ?_ ?_; (focus (simp; done)); clear hS; intro w hS; simp only [evW, putW] at hS; try simp only [putW]) | (refine storeAll hS rfl rfl rfl rfl ?_ ?_ ?_ ?_; rfl; (focus (simp [Value.oneCell']; done)); rfl; clear hS; intro w hS; try simp only [putW]) | (refine storeN hS rfl rfl rfl rfl ?_ ?_ ?_ ?_; rfl; (focus (simp [Value.oneCell']; done)); (focus (simp; done)); clear hS; intro w hS; simp at hS; try simp only [putW]) | (refine alloc hS rfl rfl ?_; clear hS; intro mb w hS; simp only [putW]) | (refine box1 hS rfl rfl rfl rfl ?_; clear hS; intro mb w hS; try simp only [evW, putW] at hS; simp only [putW]) | (refine boxN hS rfl rfl rfl ?_; clear hS; intro mb w hS; simp only [putW]))
          go_loopg [13] a (fun g i wr => ∃ c : Nat, c + g = a ∧ i = .int .i64 c ∧ Sat w0 ((t, TabC PL W) :: []) wr)
          case atStart => exact ⟨0, by omega, rfl, hS⟩
          case round =>
            clear hS
            obtain ⟨c, hcg, rfl, hS⟩ := hrel
            cases gk with
            | zero =>
              have hca : c = a := by omega
              subst hca
              clear hcg
              go_wp2_with (first | (go_at_call 14; refine Calls.mono (awakeL_any) ?_; rintro _ w2 ⟨rfl, h2⟩; replace hS := hS.frame h2; clear h2; (try simp only [List.cons_append, List.nil_append] at hS); simp only [putW]) | (refine load1 hS rfl rfl rfl rfl ?_; simp only [putW]) | (refine loadAll hS rfl rfl rfl ?_ ?_; rfl; simp only [putW]) | (refine loadPart hS rfl rfl rfl ?_ rfl ?_; rfl; simp only [putW]) | (refine store1 hS rfl rfl rfl rfl rfl ?_ ?_; (focus (simp; done)); clear hS; intro w hS; simp only [evW, putW] at hS; try simp only [putW]) | (refine storeAll hS rfl rfl rfl rfl ?_ ?_ ?_ ?_; rfl; (focus (simp [Value.oneCell']; done)); rfl; clear hS; intro w hS; try simp only [putW]) | (refine storeN hS rfl rfl rfl rfl ?_ ?_ ?_ ?_; rfl; (focus (simp [Value.oneCell']; done)); (focus (simp; done)); clear hS; intro w hS; simp at hS; try simp only [putW]) | (refine alloc hS rfl rfl ?_; clear hS; intro mb w hS; simp only [putW]) | (refine box1 hS rfl rfl rfl rfl ?_; clear hS; intro mb w hS; try simp only [evW, putW] at hS; simp only [putW]) | (refine boxN hS rfl rfl rfl ?_; clear hS; intro mb w hS; simp only [putW]))
              go_ret
              exact ⟨rfl, hS.nothing⟩
            | succ g =>
              have hca : c < a := by omega
              have hcla : c < la := by omega
              have d1 : decide ((c : Int) < (a : Int)) = true := decide_eq_true (by omega)
              obtain ⟨xa, hx⟩ : ∃ y, L[c]? = some y := ⟨_, List.getElem?_eq_getElem (by rw [HL.out]; exact hcla)⟩
              obtain ⟨b, off, hpa, hBA⟩ := HAT.out (fun h => by rw [h] at hx; cases hx)
              subst hpa
              obtain ⟨kd, tk, ky, am⟩ := xa
              have Hx : Bx _ := ⟨hx⟩
              have HW : Bx (mget W tk = none) := ⟨HLF.out.wt c _ hca hx⟩
              have HH : Bx (holdsP PL tk ky = 0) := ⟨HLF.out.holds hca hx ky⟩
              clear hx HAT
              go_wp2_with (first | (refine loadB (f := laF) hS rfl rfl rfl hBA c 1 ?_ Hx.out rfl ?_; omega; simp only [putW]) | (guard_target =~ Calls _ 18 _ _ _; refine Stopped.out ?_) | (refine load1 hS rfl rfl rfl rfl ?_; simp only [putW]) | (refine loadAll hS rfl rfl rfl ?_ ?_; rfl; simp only [putW]) | (refine loadPart hS rfl rfl rfl ?_ rfl ?_; rfl; simp only [putW]) | (refine store1 hS rfl rfl rfl rfl rfl ?_ ?_; (focus (simp; done)); clear hS; intro w hS; simp only [evW, putW] at hS; try simp only [putW]) | (refine storeAll hS rfl rfl rfl rfl ?_ ?_ ?_ ?_; rfl; (focus (simp [Value.oneCell']; done)); rfl; clear hS; intro w hS; try simp only [putW]) | (refine storeN hS rfl rfl rfl rfl ?_ ?_ ?_ ?_; rfl; (focus (simp [Value.oneCell']; done)); (focus (simp; done)); clear hS; intro w hS; simp at hS; try simp only [putW]) | (refine alloc hS rfl rfl ?_; clear hS; intro mb w hS; simp only [putW]) | (refine box1 hS rfl rfl rfl rfl ?_; clear hS; intro mb w hS; try simp only [evW, putW] at hS; simp only [putW]) | (refine boxN hS rfl rfl rfl ?_; clear hS; intro mb w hS; simp only [putW]))
              refine ⟨?_⟩
              refine Calls.mono (waits_any (task := tk) hS) ?_
              clear hS
              rintro _ w ⟨rfl, hS⟩
              rw [HW.out]
              simp only [putW, Option.isSome_none, Option.getD_none]
              go_upto_region 30 with (first | (refine load1 hS rfl rfl rfl rfl ?_; simp only [putW]) | (refine loadAll hS rfl rfl rfl ?_ ?_; rfl; simp only [putW]) | (refine loadPart hS rfl rfl rfl ?_ rfl ?_; rfl; simp only [putW]) | (refine store1 hS rfl rfl rfl rfl rfl ?_ ?_; (focus (simp; done)); clear hS; intro w hS; simp only [evW, putW] at hS; try simp only [putW]) | (refine storeAll hS rfl rfl rfl rfl ?_ ?_ ?_ ?_; rfl; (focus (simp [Value.oneCell']; done)); rfl; clear hS; intro w hS; try simp only [putW]) | (refine storeN hS rfl rfl rfl rfl ?_ ?_ ?_ ?_; rfl; (focus (simp [Value.oneCell']; done)); (focus (simp; done)); clear hS; intro w hS; simp at hS; try simp only [putW]) | (refine alloc hS rfl rfl ?_; clear hS; intro mb w hS; simp only [putW]) | (refine box1 hS rfl rfl rfl rfl ?_; clear hS; intro mb w hS; try simp only [evW, putW] at hS; simp only [putW]) | (refine boxN hS rfl rfl rfl ?_; clear hS; intro mb w hS; simp only [putW]))
              (refine region_quiet hS (by kernel_rfl) (by kernel_rfl) (by kernel_rfl) ?_; clear hS; (repeat (apply quiet_step; (focus (intro w hS; go_wp2_with (first | (refine loadB (f := laF) hS rfl rfl rfl hBA c 1 ?_ Hx.out rfl ?_; omega; simp only [putW]) | (refine loadB (f := laF) hS rfl rfl rfl hBA c 2 ?_ Hx.out rfl ?_; omega; simp only [putW]) | (go_at_call 13; refine Calls.mono (holds_any (K := []) hS) ?_; rw [HH.out]; clear hS; rintro _ w ⟨rfl, hS⟩; simp only [putW]) | (refine load1 hS rfl rfl rfl rfl ?_; simp only [putW]) | (refine loadAll hS rfl rfl rfl ?_ ?_; rfl; simp only [putW]) | (refine loadPart hS rfl rfl rfl ?_ rfl ?_; rfl; simp only [putW])); exact ⟨rfl, rfl, hS⟩)); simp only [putW])); refine quiet_nil ?_; intro w hS)
              go_wp2_with (first | (refine load1 hS rfl rfl rfl rfl ?_; simp only [putW]) | (refine loadAll hS rfl rfl rfl ?_ ?_; rfl; simp only [putW]) | (refine loadPart hS rfl rfl rfl ?_ rfl ?_; rfl; simp only [putW]) | (refine store1 hS rfl rfl rfl rfl rfl ?_ ?_; (focus (simp; done)); clear hS; intro w hS; simp only [evW, putW] at hS; try simp only [putW]) | (refine storeAll hS rfl rfl rfl rfl ?_ ?_ ?_ ?_; rfl; (focus (simp [Value.oneCell']; done)); rfl; clear hS; intro w hS; try simp only [putW]) | (refine storeN hS rfl rfl rfl rfl ?_ ?_ ?_ ?_; rfl; (focus (simp [Value.oneCell']; done)); (focus (simp; done)); clear hS; intro w hS; simp at hS; try simp only [putW]) | (refine alloc hS rfl rfl ?_; clear hS; intro mb w hS; simp only [putW]) | (refine box1 hS rfl rfl rfl rfl ?_; clear hS; intro mb w hS; try simp only [evW, putW] at hS; simp only [putW]) | (refine boxN hS rfl rfl rfl ?_; clear hS; intro mb w hS; simp only [putW]))
              go_roundg g
              case measure => omega
              case rel => exact ⟨c + 1, by omega, by go_num, hS⟩
    | succ g =>
      have hkN : k < N := by omega
      have hkla : k < la := by omega
      have hk80 : k < 80 := by omega
      have e1 : decide ((k : Int) < (la : Int)) = true := decide_eq_true (by omega)
      have e2 : decide ((k : Int) < 80) = true := decide_eq_true (by omega)
      obtain ⟨xa, hx⟩ : ∃ y, L[k]? = some y := ⟨_, List.getElem?_eq_getElem (by rw [HL.out]; exact hkla)⟩
      obtain ⟨b, off, hpa, hBA⟩ := HAT.out (fun h => by rw [h] at hx; cases hx)
      subst hpa
      obtain ⟨kd, tk, ky, am⟩ := xa
      have Hx : Bx _ := ⟨hx⟩
      clear hx HAT
      go_wp2_with (first | (refine loadBN (f := laF) (vs := [.int .i64 kd, .int .i64 tk, .int .i64 ky, .bool am]) hS rfl rfl rfl hBA k 0 ?_ Hx.out rfl rfl ?_; (focus omega); simp only [putW]) | (refine alloc (t := 26) hS rfl rfl ?_; clear hS; intro ma w hS; simp only [putW]) | (refine storeAll (cs := #[.int .i64 kd, .int .i64 tk, .int .i64 ky, .bool am]) hS rfl rfl rfl rfl ?_ ?_ ?_ ?_; (focus rfl); (focus (simp [Value.oneCell']; done)); (focus rfl); clear hS; intro w hS; try simp only [putW]) | (guard_target =~ Calls _ 10 _ _ _; refine Stopped.out ?_) | (refine load1 hS rfl rfl rfl rfl ?_; simp only [putW]) | (refine loadAll hS rfl rfl rfl ?_ ?_; rfl; simp only [putW]) | (refine loadPart hS rfl rfl rfl ?_ rfl ?_; rfl; simp only [putW]) | (refine store1 hS rfl rfl rfl rfl rfl ?_ ?_; (focus (simp; done)); clear hS; intro w hS; simp only [evW, putW] at hS; try simp only [putW]) | (refine storeAll hS rfl rfl rfl rfl ?_ ?_ ?_ ?_; rfl; (focus (simp [Value.oneCell']; done)); rfl; clear hS; intro w hS; try simp only [putW]) | (refine storeN hS rfl rfl rfl rfl ?_ ?_ ?_ ?_; rfl; (focus (simp [Value.oneCell']; done)); (focus (simp; done)); clear hS; intro w hS; simp at hS; try simp only [putW]) | (refine alloc hS rfl rfl ?_; clear hS; intro mb w hS; simp only [putW]) | (refine box1 hS rfl rfl rfl rfl ?_; clear hS; intro mb w hS; try simp only [evW, putW] at hS; simp only [putW]) | (refine boxN hS rfl rfl rfl ?_; clear hS; intro mb w hS; simp only [putW]))
      refine ⟨?_⟩
      refine Calls.mono (pick_sat kd 6 (by omega) (by omega) hS) ?_
      clear hS
      rintro _ w ⟨rfl, hS⟩
      obtain ⟨q6, hq6⟩ : ∃ q6 : Int, kd % 6 = q6 := ⟨_, rfl⟩
      rw [hq6]
      clear hq6
      simp only [putW]
      go_upto_if 34 with (first | (refine load1 hS rfl rfl rfl rfl ?_; simp only [putW]) | (refine loadAll hS rfl rfl rfl ?_ ?_; rfl; simp only [putW]) | (refine loadPart hS rfl rfl rfl ?_ rfl ?_; rfl; simp only [putW]) | (refine store1 hS rfl rfl rfl rfl rfl ?_ ?_; (focus (simp; done)); clear hS; intro w hS; simp only [evW, putW] at hS; try simp only [putW]) | (refine storeAll hS rfl rfl rfl rfl ?_ ?_ ?_ ?_; rfl; (focus (simp [Value.oneCell']; done)); rfl; clear hS; intro w hS; try simp only [putW]) | (refine storeN hS rfl rfl rfl rfl ?_ ?_ ?_ ?_; rfl; (focus (simp [Value.oneCell']; done)); (focus (simp; done)); clear hS; intro w hS; simp at hS; try simp only [putW]) | (refine alloc hS rfl rfl ?_; clear hS; intro mb w hS; simp only [putW]) | (refine box1 hS rfl rfl rfl rfl ?_; clear hS; intro mb w hS; try simp only [evW, putW] at hS; simp only [putW]) | (refine boxN hS rfl rfl rfl ?_; clear hS; intro mb w hS; simp only [putW]))
      go_cut [] from 34 to 46 (fun wc => ∃ (PL : PLts) (W : Wts), Bx (Whole PL W L (k + 1)) ∧ Sat w0 ((t, TabC PL W) :: []) wc)
      case first =>
        have hk9 : k ≤ 900 := by omega
        by_cases hq : q6 < 2
        · have dq : decide (q6 < 2) = true := decide_eq_true hq
          go_wp2_with (first | (guard_target =~ Calls _ 11 _ _ _; refine Stopped.out ?_) | (refine load1 hS rfl rfl rfl rfl ?_; simp only [putW]) | (refine loadAll hS rfl rfl rfl ?_ ?_; rfl; simp only [putW]) | (refine loadPart hS rfl rfl rfl ?_ rfl ?_; rfl; simp only [putW]) | (refine store1 hS rfl rfl rfl rfl rfl ?_ ?_; (focus (simp; done)); clear hS; intro w hS; simp only [evW, putW] at hS; try simp only [putW]) | (refine storeAll hS rfl rfl rfl rfl ?_ ?_ ?_ ?_; rfl; (focus (simp [Value.oneCell']; done)); rfl; clear hS; intro w hS; try simp only [putW]) | (refine storeN hS rfl rfl rfl rfl ?_ ?_ ?_ ?_; rfl; (focus (simp [Value.oneCell']; done)); (focus (simp; done)); clear hS; intro w hS; simp at hS; try simp only [putW]) | (refine alloc hS rfl rfl ?_; clear hS; intro mb w hS; simp only [putW]) | (refine box1 hS rfl rfl rfl rfl ?_; clear hS; intro mb w hS; try simp only [evW, putW] at hS; simp only [putW]) | (refine boxN hS rfl rfl rfl ?_; clear hS; intro mb w hS; simp only [putW]))
          refine ⟨?_⟩
          refine Calls.mono (freeW_any (K := (ma, cells #[.int .i64 kd, .int .i64 tk, .int .i64 ky, .bool am] 26) :: []) HP.out hk9 hS.conv) ?_
          clear hS
          rintro _ w ⟨v, PL2, W2, rfl, hs, hS⟩
          have HP2 : Bx (Whole PL2 W2 L (k + 1)) := ⟨hs⟩
          clear hs
          simp only [putW]
          go_wp2_with (first | (refine load1 hS rfl rfl rfl rfl ?_; simp only [putW]) | (refine loadAll hS rfl rfl rfl ?_ ?_; rfl; simp only [putW]) | (refine loadPart hS rfl rfl rfl ?_ rfl ?_; rfl; simp only [putW]) | (refine store1 hS rfl rfl rfl rfl rfl ?_ ?_; (focus (simp; done)); clear hS; intro w hS; simp only [evW, putW] at hS; try simp only [putW]) | (refine storeAll hS rfl rfl rfl rfl ?_ ?_ ?_ ?_; rfl; (focus (simp [Value.oneCell']; done)); rfl; clear hS; intro w hS; try simp only [putW]) | (refine storeN hS rfl rfl rfl rfl ?_ ?_ ?_ ?_; rfl; (focus (simp [Value.oneCell']; done)); (focus (simp; done)); clear hS; intro w hS; simp at hS; try simp only [putW]) | (refine alloc hS rfl rfl ?_; clear hS; intro mb w hS; simp only [putW]) | (refine box1 hS rfl rfl rfl rfl ?_; clear hS; intro mb w hS; try simp only [evW, putW] at hS; simp only [putW]) | (refine boxN hS rfl rfl rfl ?_; clear hS; intro mb w hS; simp only [putW]))
          go_meet
          case rel => exact ⟨PL2, W2, HP2, hS.conv⟩
        · have dq : decide (q6 < 2) = false := decide_eq_false hq
          go_wp2_with (first | (guard_target =~ Calls _ 12 _ _ _; refine Stopped.out ?_) | (refine load1 hS rfl rfl rfl rfl ?_; simp only [putW]) | (refine loadAll hS rfl rfl rfl ?_ ?_; rfl; simp only [putW]) | (refine loadPart hS rfl rfl rfl ?_ rfl ?_; rfl; simp only [putW]) | (refine store1 hS rfl rfl rfl rfl rfl ?_ ?_; (focus (simp; done)); clear hS; intro w hS; simp only [evW, putW] at hS; try simp only [putW]) | (refine storeAll hS rfl rfl rfl rfl ?_ ?_ ?_ ?_; rfl; (focus (simp [Value.oneCell']; done)); rfl; clear hS; intro w hS; try simp only [putW]) | (refine storeN hS rfl rfl rfl rfl ?_ ?_ ?_ ?_; rfl; (focus (simp [Value.oneCell']; done)); (focus (simp; done)); clear hS; intro w hS; simp at hS; try simp only [putW]) | (refine alloc hS rfl rfl ?_; clear hS; intro mb w hS; simp only [putW]) | (refine box1 hS rfl rfl rfl rfl ?_; clear hS; intro mb w hS; try simp only [evW, putW] at hS; simp only [putW]) | (refine boxN hS rfl rfl rfl ?_; clear hS; intro mb w hS; simp only [putW]))
          refine ⟨?_⟩
          refine Calls.mono (askW_any (kd := kd) (K := (ma, cells #[.int .i64 kd, .int .i64 tk, .int .i64 ky, .bool am] 26) :: []) HP.out hk9 Hx.out hS.conv) ?_
          clear hS
          rintro _ w ⟨r, n, PL2, W2, rfl, hs, hS⟩
          have HP2 : Bx (Whole PL2 W2 L (k + 1)) := ⟨hs⟩
          clear hs
          simp only [putW]
          go_wp2_with (first | (refine load1 hS rfl rfl rfl rfl ?_; simp only [putW]) | (refine loadAll hS rfl rfl rfl ?_ ?_; rfl; simp only [putW]) | (refine loadPart hS rfl rfl rfl ?_ rfl ?_; rfl; simp only [putW]) | (refine store1 hS rfl rfl rfl rfl rfl ?_ ?_; (focus (simp; done)); clear hS; intro w hS; simp only [evW, putW] at hS; try simp only [putW]) | (refine storeAll hS rfl rfl rfl rfl ?_ ?_ ?_ ?_; rfl; (focus (simp [Value.oneCell']; done)); rfl; clear hS; intro w hS; try simp only [putW]) | (refine storeN hS rfl rfl rfl rfl ?_ ?_ ?_ ?_; rfl; (focus (simp [Value.oneCell']; done)); (focus (simp; done)); clear hS; intro w hS; simp at hS; try simp only [putW]) | (refine alloc hS rfl rfl ?_; clear hS; intro mb w hS; simp only [putW]) | (refine box1 hS rfl rfl rfl rfl ?_; clear hS; intro mb w hS; try simp only [evW, putW] at hS; simp only [putW]) | (refine boxN hS rfl rfl rfl ?_; clear hS; intro mb w hS; simp only [putW]))
          go_meet
          case rel => exact ⟨PL2, W2, HP2, hS.conv⟩
      case rest =>
        clear hS HP
        obtain ⟨PL, W, HP, hS⟩ := hcut
        go_wp2_with (first | (refine load1 hS rfl rfl rfl rfl ?_; simp only [putW]) | (refine loadAll hS rfl rfl rfl ?_ ?_; rfl; simp only [putW]) | (refine loadPart hS rfl rfl rfl ?_ rfl ?_; rfl; simp only [putW]) | (refine store1 hS rfl rfl rfl rfl rfl ?_ ?_; (focus (simp; done)); clear hS; intro w hS; simp only [evW, putW] at hS; try simp only [putW]) | (refine storeAll hS rfl rfl rfl rfl ?_ ?_ ?_ ?_; rfl; (focus (simp [Value.oneCell']; done)); rfl; clear hS; intro w hS; try simp only [putW]) | (refine storeN hS rfl rfl rfl rfl ?_ ?_ ?_ ?_; rfl; (focus (simp [Value.oneCell']; done)); (focus (simp; done)); clear hS; intro w hS; simp at hS; try simp only [putW]) | (refine alloc hS rfl rfl ?_; clear hS; intro mb w hS; simp only [putW]) | (refine box1 hS rfl rfl rfl rfl ?_; clear hS; intro mb w hS; try simp only [evW, putW] at hS; simp only [putW]) | (refine boxN hS rfl rfl rfl ?_; clear hS; intro mb w hS; simp only [putW]))
        go_loopg [7] (k + 1) (fun g i wr => ∃ a : Nat, a + g = k + 1 ∧ i = .int .i64 a ∧ Sat w0 ((t, TabC PL W) :: []) wr)
        case atStart => exact ⟨0, by omega, rfl, hS⟩
        case round =>
          clear hS
          obtain ⟨a, hag, rfl, hS⟩ := hrel
          cases gk with
          | zero =>
            have hak : a = k + 1 := by omega
            have d1 : decide ((a : Int) ≤ (k : Int)) = false := decide_eq_false (by omega)
            have d2 : decide (a ≤ k) = false := decide_eq_false (by omega)
            go_wp2_with (first | (refine load1 hS rfl rfl rfl rfl ?_; simp only [putW]) | (refine loadAll hS rfl rfl rfl ?_ ?_; rfl; simp only [putW]) | (refine loadPart hS rfl rfl rfl ?_ rfl ?_; rfl; simp only [putW]) | (refine store1 hS rfl rfl rfl rfl rfl ?_ ?_; (focus (simp; done)); clear hS; intro w hS; simp only [evW, putW] at hS; try simp only [putW]) | (refine storeAll hS rfl rfl rfl rfl ?_ ?_ ?_ ?_; rfl; (focus (simp [Value.oneCell']; done)); rfl; clear hS; intro w hS; try simp only [putW]) | (refine storeN hS rfl rfl rfl rfl ?_ ?_ ?_ ?_; rfl; (focus (simp [Value.oneCell']; done)); (focus (simp; done)); clear hS; intro w hS; simp at hS; try simp only [putW]) | (refine alloc hS rfl rfl ?_; clear hS; intro mb w hS; simp only [putW]) | (refine box1 hS rfl rfl rfl rfl ?_; clear hS; intro mb w hS; try simp only [evW, putW] at hS; simp only [putW]) | (refine boxN hS rfl rfl rfl ?_; clear hS; intro mb w hS; simp only [putW]))
            go_roundg g
            case measure => omega
            case rel => exact ⟨k + 1, PL, W, by omega, by go_num, by go_num, HP, hS⟩
          | succ g2 =>
            have hak : a ≤ k := by omega
            have hala : a < la := by omega
            have d1 : decide ((a : Int) ≤ (k : Int)) = true := decide_eq_true (by omega)
            have d1n : decide (a ≤ k) = true := decide_eq_true hak
            obtain ⟨xk, hxk⟩ : ∃ y, L[a]? = some y := ⟨_, List.getElem?_eq_getElem (by rw [HL.out]; omega)⟩
            obtain ⟨kd1, tk1, ky1, am1⟩ := xk
            have HK : Bx _ := ⟨hxk⟩
            obtain ⟨ov, hov⟩ : ∃ o, mget W tk1 = o := ⟨_, rfl⟩
            have HO : Bx _ := ⟨hov⟩
            clear hxk hov
            go_wp2_with (first | (refine loadB (f := laF) hS rfl rfl rfl hBA a 1 ?_ HK.out rfl ?_; omega; simp only [putW]) | (guard_target =~ Calls _ 18 _ _ _; refine Stopped.out ?_) | (refine load1 hS rfl rfl rfl rfl ?_; simp only [putW]) | (refine loadAll hS rfl rfl rfl ?_ ?_; rfl; simp only [putW]) | (refine loadPart hS rfl rfl rfl ?_ rfl ?_; rfl; simp only [putW]) | (refine store1 hS rfl rfl rfl rfl rfl ?_ ?_; (focus (simp; done)); clear hS; intro w hS; simp only [evW, putW] at hS; try simp only [putW]) | (refine storeAll hS rfl rfl rfl rfl ?_ ?_ ?_ ?_; rfl; (focus (simp [Value.oneCell']; done)); rfl; clear hS; intro w hS; try simp only [putW]) | (refine storeN hS rfl rfl rfl rfl ?_ ?_ ?_ ?_; rfl; (focus (simp [Value.oneCell']; done)); (focus (simp; done)); clear hS; intro w hS; simp at hS; try simp only [putW]) | (refine alloc hS rfl rfl ?_; clear hS; intro mb w hS; simp only [putW]) | (refine box1 hS rfl rfl rfl rfl ?_; clear hS; intro mb w hS; try simp only [evW, putW] at hS; simp only [putW]) | (refine boxN hS rfl rfl rfl ?_; clear hS; intro mb w hS; simp only [putW]))
            refine ⟨?_⟩
            refine Calls.mono (waits_any (task := tk1) hS) ?_
            clear hS
            rintro _ w ⟨rfl, hS⟩
            rw [HO.out]
            cases ov with
            | none =>
              simp only [putW, Option.isSome_none, Option.getD_none]
              go_wp2_with (first | (refine load1 hS rfl rfl rfl rfl ?_; simp only [putW]) | (refine loadAll hS rfl rfl rfl ?_ ?_; rfl; simp only [putW]) | (refine loadPart hS rfl rfl rfl ?_ rfl ?_; rfl; simp only [putW]) | (refine store1 hS rfl rfl rfl rfl rfl ?_ ?_; (focus (simp; done)); clear hS; intro w hS; simp only [evW, putW] at hS; try simp only [putW]) | (refine storeAll hS rfl rfl rfl rfl ?_ ?_ ?_ ?_; rfl; (focus (simp [Value.oneCell']; done)); rfl; clear hS; intro w hS; try simp only [putW]) | (refine storeN hS rfl rfl rfl rfl ?_ ?_ ?_ ?_; rfl; (focus (simp [Value.oneCell']; done)); (focus (simp; done)); clear hS; intro w hS; simp at hS; try simp only [putW]) | (refine alloc hS rfl rfl ?_; clear hS; intro mb w hS; simp only [putW]) | (refine box1 hS rfl rfl rfl rfl ?_; clear hS; intro mb w hS; try simp only [evW, putW] at hS; simp only [putW]) | (refine boxN hS rfl rfl rfl ?_; clear hS; intro mb w hS; simp only [putW]))
              go_loopg [10, 11] 0 (fun g hv i wr => hv = .bool false ∧ i = .int .i64 0 ∧ Sat w0 ((t, TabC PL W) :: []) wr)
              case atStart => exact ⟨rfl, rfl, hS⟩
              case round =>
                clear hS
                obtain ⟨rfl, rfl, hS⟩ := hrel
                go_wp2_with (first | (refine load1 hS rfl rfl rfl rfl ?_; simp only [putW]) | (refine loadAll hS rfl rfl rfl ?_ ?_; rfl; simp only [putW]) | (refine loadPart hS rfl rfl rfl ?_ rfl ?_; rfl; simp only [putW]) | (refine store1 hS rfl rfl rfl rfl rfl ?_ ?_; (focus (simp; done)); clear hS; intro w hS; simp only [evW, putW] at hS; try simp only [putW]) | (refine storeAll hS rfl rfl rfl rfl ?_ ?_ ?_ ?_; rfl; (focus (simp [Value.oneCell']; done)); rfl; clear hS; intro w hS; try simp only [putW]) | (refine storeN hS rfl rfl rfl rfl ?_ ?_ ?_ ?_; rfl; (focus (simp [Value.oneCell']; done)); (focus (simp; done)); clear hS; intro w hS; simp at hS; try simp only [putW]) | (refine alloc hS rfl rfl ?_; clear hS; intro mb w hS; simp only [putW]) | (refine box1 hS rfl rfl rfl rfl ?_; clear hS; intro mb w hS; try simp only [evW, putW] at hS; simp only [putW]) | (refine boxN hS rfl rfl rfl ?_; clear hS; intro mb w hS; simp only [putW]))
                go_roundg g2
                case measure => omega
                case rel => exact ⟨a + 1, by omega, by go_num, hS⟩
            | some kw =>
              obtain ⟨jh, xh, hjh, hxh, hhold⟩ := HP.out.held HO.out
              have HXh : Bx _ := ⟨hxh⟩
              have HHold : Bx (0 < holdsP PL xh.2.1 kw) := ⟨hhold⟩
              clear hxh hhold
              simp only [putW, Option.isSome_some, Option.getD_some]
              go_wp2_with (first | (refine load1 hS rfl rfl rfl rfl ?_; simp only [putW]) | (refine loadAll hS rfl rfl rfl ?_ ?_; rfl; simp only [putW]) | (refine loadPart hS rfl rfl rfl ?_ rfl ?_; rfl; simp only [putW]) | (refine store1 hS rfl rfl rfl rfl rfl ?_ ?_; (focus (simp; done)); clear hS; intro w hS; simp only [evW, putW] at hS; try simp only [putW]) | (refine storeAll hS rfl rfl rfl rfl ?_ ?_ ?_ ?_; rfl; (focus (simp [Value.oneCell']; done)); rfl; clear hS; intro w hS; try simp only [putW]) | (refine storeN hS rfl rfl rfl rfl ?_ ?_ ?_ ?_; rfl; (focus (simp [Value.oneCell']; done)); (focus (simp; done)); clear hS; intro w hS; simp at hS; try simp only [putW]) | (refine alloc hS rfl rfl ?_; clear hS; intro mb w hS; simp only [putW]) | (refine box1 hS rfl rfl rfl rfl ?_; clear hS; intro mb w hS; try simp only [evW, putW] at hS; simp only [putW]) | (refine boxN hS rfl rfl rfl ?_; clear hS; intro mb w hS; simp only [putW]))
              go_loopg [10, 11] (k + 1) (fun g hv i wr => ∃ (c : Nat) (bb : Bool), c + g = k + 1 ∧ i = .int .i64 c ∧ hv = .bool bb ∧ Bx (jh < c → bb = true) ∧ Sat w0 ((t, TabC PL W) :: []) wr)
              case atStart => exact ⟨0, false, by omega, rfl, rfl, ⟨fun h => absurd h (Nat.not_lt_zero _)⟩, hS⟩
              case round =>
                clear hS
                obtain ⟨c, bb, hcg, rfl, rfl, HBb, hS⟩ := hrel
                cases gk with
                | zero =>
                  have hck : c = k + 1 := by omega
                  have d2 : decide ((c : Int) ≤ (k : Int)) = false := decide_eq_false (by omega)
                  have d2n : decide (c ≤ k) = false := decide_eq_false (by omega)
                  have hbt : bb = true := HBb.out (by omega)
                  subst hbt
                  go_wp2_with (first | (refine load1 hS rfl rfl rfl rfl ?_; simp only [putW]) | (refine loadAll hS rfl rfl rfl ?_ ?_; rfl; simp only [putW]) | (refine loadPart hS rfl rfl rfl ?_ rfl ?_; rfl; simp only [putW]) | (refine store1 hS rfl rfl rfl rfl rfl ?_ ?_; (focus (simp; done)); clear hS; intro w hS; simp only [evW, putW] at hS; try simp only [putW]) | (refine storeAll hS rfl rfl rfl rfl ?_ ?_ ?_ ?_; rfl; (focus (simp [Value.oneCell']; done)); rfl; clear hS; intro w hS; try simp only [putW]) | (refine storeN hS rfl rfl rfl rfl ?_ ?_ ?_ ?_; rfl; (focus (simp [Value.oneCell']; done)); (focus (simp; done)); clear hS; intro w hS; simp at hS; try simp only [putW]) | (refine alloc hS rfl rfl ?_; clear hS; intro mb w hS; simp only [putW]) | (refine box1 hS rfl rfl rfl rfl ?_; clear hS; intro mb w hS; try simp only [evW, putW] at hS; simp only [putW]) | (refine boxN hS rfl rfl rfl ?_; clear hS; intro mb w hS; simp only [putW]))
                  go_roundg g2
                  case measure => omega
                  case rel => exact ⟨a + 1, by omega, by go_num, hS⟩
                | succ g3 =>
                  have hck : c ≤ k := by omega
                  have hcla : c < la := by omega
                  have d2 : decide ((c : Int) ≤ (k : Int)) = true := decide_eq_true (by omega)
                  have d2n : decide (c ≤ k) = true := decide_eq_true hck
                  obtain ⟨xj, hxj⟩ : ∃ y, L[c]? = some y := ⟨_, List.getElem?_eq_getElem (by rw [HL.out]; omega)⟩
                  obtain ⟨kd2, tk2, ky2, am2⟩ := xj
                  have HJ : Bx _ := ⟨hxj⟩
                  clear hxj
                  cases bb with
                  | true =>
                    go_wp2_with (first | (refine load1 hS rfl rfl rfl rfl ?_; simp only [putW]) | (refine loadAll hS rfl rfl rfl ?_ ?_; rfl; simp only [putW]) | (refine loadPart hS rfl rfl rfl ?_ rfl ?_; rfl; simp only [putW]) | (refine store1 hS rfl rfl rfl rfl rfl ?_ ?_; (focus (simp; done)); clear hS; intro w hS; simp only [evW, putW] at hS; try simp only [putW]) | (refine storeAll hS rfl rfl rfl rfl ?_ ?_ ?_ ?_; rfl; (focus (simp [Value.oneCell']; done)); rfl; clear hS; intro w hS; try simp only [putW]) | (refine storeN hS rfl rfl rfl rfl ?_ ?_ ?_ ?_; rfl; (focus (simp [Value.oneCell']; done)); (focus (simp; done)); clear hS; intro w hS; simp at hS; try simp only [putW]) | (refine alloc hS rfl rfl ?_; clear hS; intro mb w hS; simp only [putW]) | (refine box1 hS rfl rfl rfl rfl ?_; clear hS; intro mb w hS; try simp only [evW, putW] at hS; simp only [putW]) | (refine boxN hS rfl rfl rfl ?_; clear hS; intro mb w hS; simp only [putW]))
                    go_roundg g3
                    case measure => omega
                    case rel => exact ⟨c + 1, true, by omega, by go_num, rfl, ⟨fun _ => rfl⟩, hS⟩
                  | false =>
                    obtain ⟨hv, hhv⟩ : ∃ h, holdsP PL tk2 kw = h := ⟨_, rfl⟩
                    have HHv : Bx _ := ⟨hhv⟩
                    have HNext : Bx (jh < c + 1 → decide (0 < hv) = true) := ⟨fun hj => by
                      by_cases e : jh = c
                      · subst e
                        have h1 := HXh.out.symm.trans HJ.out
                        cases h1
                        rw [← hhv]
                        exact decide_eq_true HHold.out
                      · have := HBb.out (by omega)
                        cases this⟩
                    obtain ⟨bv, hbv⟩ : ∃ b, decide (0 < hv) = b := ⟨_, rfl⟩
                    rw [hbv] at HNext
                    clear hhv
                    go_wp2_with (first | (refine loadB (f := laF) hS rfl rfl rfl hBA c 1 ?_ HJ.out rfl ?_; omega; simp only [putW]) | (guard_target =~ Calls _ 13 _ _ _; refine Stopped.out ?_) | (refine load1 hS rfl rfl rfl rfl ?_; simp only [putW]) | (refine loadAll hS rfl rfl rfl ?_ ?_; rfl; simp only [putW]) | (refine loadPart hS rfl rfl rfl ?_ rfl ?_; rfl; simp only [putW]) | (refine store1 hS rfl rfl rfl rfl rfl ?_ ?_; (focus (simp; done)); clear hS; intro w hS; simp only [evW, putW] at hS; try simp only [putW]) | (refine storeAll hS rfl rfl rfl rfl ?_ ?_ ?_ ?_; rfl; (focus (simp [Value.oneCell']; done)); rfl; clear hS; intro w hS; try simp only [putW]) | (refine storeN hS rfl rfl rfl rfl ?_ ?_ ?_ ?_; rfl; (focus (simp [Value.oneCell']; done)); (focus (simp; done)); clear hS; intro w hS; simp at hS; try simp only [putW]) | (refine alloc hS rfl rfl ?_; clear hS; intro mb w hS; simp only [putW]) | (refine box1 hS rfl rfl rfl rfl ?_; clear hS; intro mb w hS; try simp only [evW, putW] at hS; simp only [putW]) | (refine boxN hS rfl rfl rfl ?_; clear hS; intro mb w hS; simp only [putW]))
                    refine ⟨?_⟩
                    refine Calls.mono (holds_any (task := tk2) (key := kw) hS) ?_
                    clear hS
                    rintro _ w ⟨rfl, hS⟩
                    rw [HHv.out]
                    simp only [putW]
                    cases bv with
                    | true =>
                      go_wp2_with (first | (refine load1 hS rfl rfl rfl rfl ?_; simp only [putW]) | (refine loadAll hS rfl rfl rfl ?_ ?_; rfl; simp only [putW]) | (refine loadPart hS rfl rfl rfl ?_ rfl ?_; rfl; simp only [putW]) | (refine store1 hS rfl rfl rfl rfl rfl ?_ ?_; (focus (simp; done)); clear hS; intro w hS; simp only [evW, putW] at hS; try simp only [putW]) | (refine storeAll hS rfl rfl rfl rfl ?_ ?_ ?_ ?_; rfl; (focus (simp [Value.oneCell']; done)); rfl; clear hS; intro w hS; try simp only [putW]) | (refine storeN hS rfl rfl rfl rfl ?_ ?_ ?_ ?_; rfl; (focus (simp [Value.oneCell']; done)); (focus (simp; done)); clear hS; intro w hS; simp at hS; try simp only [putW]) | (refine alloc hS rfl rfl ?_; clear hS; intro mb w hS; simp only [putW]) | (refine box1 hS rfl rfl rfl rfl ?_; clear hS; intro mb w hS; try simp only [evW, putW] at hS; simp only [putW]) | (refine boxN hS rfl rfl rfl ?_; clear hS; intro mb w hS; simp only [putW]))
                      go_roundg g3
                      case measure => omega
                      case rel => exact ⟨c + 1, true, by omega, by go_num, rfl, ⟨fun _ => rfl⟩, hS⟩
                    | false =>
                      go_wp2_with (first | (refine load1 hS rfl rfl rfl rfl ?_; simp only [putW]) | (refine loadAll hS rfl rfl rfl ?_ ?_; rfl; simp only [putW]) | (refine loadPart hS rfl rfl rfl ?_ rfl ?_; rfl; simp only [putW]) | (refine store1 hS rfl rfl rfl rfl rfl ?_ ?_; (focus (simp; done)); clear hS; intro w hS; simp only [evW, putW] at hS; try simp only [putW]) | (refine storeAll hS rfl rfl rfl rfl ?_ ?_ ?_ ?_; rfl; (focus (simp [Value.oneCell']; done)); rfl; clear hS; intro w hS; try simp only [putW]) | (refine storeN hS rfl rfl rfl rfl ?_ ?_ ?_ ?_; rfl; (focus (simp [Value.oneCell']; done)); (focus (simp; done)); clear hS; intro w hS; simp at hS; try simp only [putW]) | (refine alloc hS rfl rfl ?_; clear hS; intro mb w hS; simp only [putW]) | (refine box1 hS rfl rfl rfl rfl ?_; clear hS; intro mb w hS; try simp only [evW, putW] at hS; simp only [putW]) | (refine boxN hS rfl rfl rfl ?_; clear hS; intro mb w hS; simp only [putW]))
                      go_roundg g3
                      case measure => omega
                      case rel => exact ⟨c + 1, false, by omega, by go_num, rfl, HNext, hS⟩
end
end Go.Proofs.Ytojdkioimklhmaa.LatchNobodyDone
