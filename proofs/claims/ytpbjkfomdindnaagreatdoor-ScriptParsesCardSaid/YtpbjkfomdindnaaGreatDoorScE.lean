/-
  thimbleref25: SameOp, Same (and thimbleref01.Rank, Same; math.Signbit).
-/
import Derived.Test.YtpbjkfomdindnaaGreatDoorScS
set_option linter.unusedSimpArgs false
set_option linter.unusedVariables false
namespace Go.Proofs.YtpbjkfomdindnaaGreatDoor
open Go.RowKit Go.Shelf Go.Proofs.YtpbjkfomdindnaaGreatDoor.Sl Go.Proofs.YtpbjkfomdindnaaGreatDoor.Jp Go.Proofs.YtpbjkfomdindnaaGreatDoor.Sc

/-- A number's rank; no number: the greatest. -/
def rk (n : Nat) : Int := if nanB n then 9223372036854775807 else if 9223372036854775808 ≤ n then -((n : Int) - 9223372036854775808) - 1 else n
theorem rk_inj {n m : Nat} (hn : nanB n = false) (hm : nanB m = false) (hn2 : n < 18446744073709551616) (hm2 : m < 18446744073709551616) : rk n = rk m ↔ n = m := by
  unfold rk
  rw [hn, hm]
  simp only [Bool.false_eq_true, if_false]
  split <;> split <;> omega
theorem rk_nan {n m : Nat} (hn : nanB n = true) (hm : nanB m = false) (hm2 : m < 18446744073709551616) : rk n ≠ rk m := by
  unfold nanB at hm
  have h := of_decide_eq_false hm
  unfold rk
  rw [hn]
  have hm3 : nanB m = false := hm
  rw [hm3]
  simp only [if_true, Bool.false_eq_true, if_false]
  split <;> omega
theorem canB_no {n : Nat} (h : nanB n = false) : canB n = n := by unfold canB; rw [h]; rfl
theorem canB_yes {n : Nat} (h : nanB n = true) : canB n = theNan := by unfold canB; rw [h]; rfl
theorem canB_diff {n m : Nat} (h : nanB n = true) (k : nanB m = false) : canB n ≠ canB m := by
  rw [canB_yes h, canB_no k]
  intro e
  rw [← e] at k
  exact absurd k (by decide)
theorem andlow (n : Nat) (h : n < 18446744073709551616) : bits .and .u64 (n : Int) 9223372036854775807 = ((n % 9223372036854775808 : Nat) : Int) := by
  have h1 := u64_and_nat n 9223372036854775807 h (by decide)
  have e : n &&& 9223372036854775807 = n % 9223372036854775808 := Nat.and_two_pow_sub_one_eq_mod n 63
  rw [e] at h1
  exact h1
section
variable {w0 : World} {n m : Nat}
theorem self_ne {n : Nat} (h : n < 18446744073709551616) : (FloatKind.f64.format.order n n != some Ordering.eq) = nanB n := by
  have := self_eq h
  cases hb : nanB n <;> rw [hb] at this <;> simp at this <;> simp [this]
set_option maxRecDepth 100000 in
theorem rank25_any (hn : n < 18446744073709551616) : Calls Tryz.prog 82 #[.float .f64 n] w0 fun e w' => e = .returned (.int .i64 (rk n)) ∧ Sat w0 [] w' := by
  have hS := Sat.refl w0
  have hne := self_ne hn
  cases hb : nanB n with
  | true =>
    rw [hb] at hne
    have HR : Bx (rk n = 9223372036854775807) := ⟨by unfold rk; rw [hb]; rfl⟩
    clear hb
    go_enter Tryz.func82, Tryz.ntmps82
    go_wp2_with (refine load1 hS rfl rfl rfl rfl ?_; simp only [putW])
    go_ret
    exact ⟨by rw [HR.out]; rfl, hS⟩
  | false =>
    rw [hb] at hne
    have hbr : ∀ w : World, (callFunc 67 #[.float .f64 n]).run Tryz.prog w = .ok (.value (.int .u64 n)) w := fun w => fbits_run n w
    have ha := andlow n hn
    by_cases h63 : 9223372036854775808 ≤ n
    · have hq : ((n : Int) / 9223372036854775808 == 1) = true := by
        have : (n : Int) / 9223372036854775808 = 1 := by omega
        simp [this]
      have HR : Bx (rk n = -((n : Int) - 9223372036854775808) - 1) := ⟨by unfold rk; rw [hb, if_pos h63]; rfl⟩
      obtain ⟨r, hr⟩ : ∃ r, n % 9223372036854775808 = r := ⟨_, rfl⟩
      have hr2 : r < 9223372036854775808 := by omega
      have hr3 : (r : Int) = n - 9223372036854775808 := by omega
      rw [hr] at ha
      have HB : Bx ((r : Int) = n - 9223372036854775808) := ⟨hr3⟩
      clear hb hr hr3
      go_enter Tryz.func82, Tryz.ntmps82
      go_wp2_with (refine load1 hS rfl rfl rfl rfl ?_; simp only [putW])
      go_ret
      exact ⟨by rw [HR.out, ← HB.out]; rfl, hS⟩
    · have hq : ((n : Int) / 9223372036854775808 == 1) = false := by
        have : (n : Int) / 9223372036854775808 = 0 := by omega
        simp [this]
      have HR : Bx (rk n = n) := ⟨by unfold rk; rw [hb, if_neg h63]; rfl⟩
      have hr : n % 9223372036854775808 = n := Nat.mod_eq_of_lt (by omega)
      rw [hr] at ha
      clear hb hr
      go_enter Tryz.func82, Tryz.ntmps82
      go_wp2_with (refine load1 hS rfl rfl rfl rfl ?_; simp only [putW])
      go_ret
      exact ⟨by rw [HR.out]; rfl, hS⟩
theorem same25_any {b : Bool} (hn : n < 18446744073709551616) (hm : m < 18446744073709551616) (hb : decide (rk n = rk m) = b) : Calls Tryz.prog 55 #[.float .f64 n, .float .f64 m] w0 fun e w' => e = .returned (.bool b) ∧ Sat w0 [] w' := by
  have hS := Sat.refl w0
  have hq : (rk n == rk m) = b := by rw [← hb]; by_cases h : rk n = rk m <;> simp [h]
  clear hb
  go_enter Tryz.func55, Tryz.ntmps55
  go_wp2_with (guard_target =~ Calls _ 82 _ _ _; refine Stopped.out ?_)
  refine ⟨?_⟩
  (refine Calls.mono (rank25_any hn) ?_; rintro _ w2 ⟨rfl, h2⟩; replace hS := hS.frame h2; clear h2; (try simp only [List.cons_append, List.nil_append] at hS); simp only [putW])
  go_wp2_with (guard_target =~ Calls _ 82 _ _ _; refine Stopped.out ?_)
  refine ⟨?_⟩
  (refine Calls.mono (rank25_any hm) ?_; rintro _ w2 ⟨rfl, h2⟩; replace hS := hS.frame h2; clear h2; (try simp only [List.cons_append, List.nil_append] at hS); simp only [putW])
  go_wp2_with (refine load1 hS rfl rfl rfl rfl ?_; simp only [putW])
  go_ret
  exact ⟨rfl, hS⟩
theorem sign_any {b : Bool} (hn : n < 18446744073709551616) (hb : decide (9223372036854775808 ≤ n) = b) : Calls Tryz.prog 56 #[.float .f64 n] w0 fun e w' => e = .returned (.bool b) ∧ Sat w0 [] w' := by
  have hS := Sat.refl w0
  have hbr : ∀ w : World, (callFunc 67 #[.float .f64 n]).run Tryz.prog w = .ok (.value (.int .u64 n)) w := fun w => fbits_run n w
  have hq : decide (wrap64 (n : Int) < 0) = b := by
    rw [← hb]
    have : wrap64 (n : Int) < 0 ↔ 9223372036854775808 ≤ n := by unfold wrap64; omega
    by_cases h : 9223372036854775808 ≤ n
    · rw [decide_eq_true h, decide_eq_true (this.2 h)]
    · rw [decide_eq_false h, decide_eq_false (fun h2 => h (this.1 h2))]
  clear hb
  go_enter Tryz.func56, Tryz.ntmps56
  go_wp2_with (refine load1 hS rfl rfl rfl rfl ?_; simp only [putW])
  go_ret
  exact ⟨rfl, hS⟩
set_option maxRecDepth 100000 in
set_option maxHeartbeats 4000000 in
theorem sameOp_any {k k' p p' : Int} {A A' : List Int} {va va' : Value} {r : Bool} (ha : RB w0 A va) (hb : RB w0 A' va') (hn : n < 18446744073709551616) (hm : m < 18446744073709551616)
    (hr : decide (k = k' ∧ p = p' ∧ A = A' ∧ canB n = canB m) = r) :
    Calls Tryz.prog 32 #[.agg #[.int .i64 k, .int .i64 p, va, .float .f64 n], .agg #[.int .i64 k', .int .i64 p', va', .float .f64 m]] w0 fun e w' => e = .returned (.bool r) ∧ Sat w0 [] w' := by
  have hS := Sat.refl w0
  have HA : Bx (RB w0 A va) := ⟨ha⟩
  have HB : Bx (RB w0 A' va') := ⟨hb⟩
  obtain ⟨pa, ca, rfl, -⟩ := ha.at
  obtain ⟨pb, cb, rfl, -⟩ := hb.at
  clear ha hb
  have HR : Bx (decide (k = k' ∧ p = p' ∧ A = A' ∧ canB n = canB m) = r) := ⟨hr⟩
  clear hr
  by_cases h1 : k = k'
  · have q1 : (k == k') = true := beq_iff_eq.2 h1
    by_cases h2 : p = p'
    · have q2 : (p == p') = true := beq_iff_eq.2 h2
      have hsm : ∀ w, Sat w0 [] w → Calls Tryz.prog 33 #[.slice pa A.length ca, .slice pb A'.length cb] w fun e w' => e = .returned (.bool (decide (A = A'))) ∧ Sat w [] w' := fun w h => same_any (HA.out.mono h.base) (HB.out.mono h.base)
      by_cases h3 : A = A'
      · rw [decide_eq_true h3] at hsm
        have ena := self_ne hn
        have enb := self_ne hm
        cases na : nanB n with
        | true =>
          cases nb : nanB m with
          | true =>
            have hc : canB n = canB m := by rw [canB_yes na, canB_yes nb]
            have HR2 : Bx (r = true) := ⟨by rw [← HR.out]; exact decide_eq_true ⟨h1, h2, h3, hc⟩⟩
            have hk : decide (rk n = rk m) = true := decide_eq_true (by unfold rk; rw [na, nb]; rfl)
            rw [na] at ena
            rw [nb] at enb
            clear na nb hc HR h1 h2 h3
            cases hab : (decide (9223372036854775808 ≤ n) == decide (9223372036854775808 ≤ m))
            all_goals
              go_enter Tryz.func32, Tryz.ntmps32
              go_upto_region 1 with (refine boxN hS rfl rfl rfl ?_; clear hS; intro mb w hS; simp only [putW])
              (refine region_quiet hS (by kernel_rfl) (by kernel_rfl) (by kernel_rfl) ?_; clear hS; (repeat (first | (refine quiet_skip rfl ?_; simp only [putW]) | (apply quiet_go rfl Tryz.call33 rfl; (focus (intro w hS; refine Calls.mono (hsm _ hS.nothing) ?_; rintro _ w2 ⟨rfl, h2⟩; exact ⟨rfl, hS.frame h2⟩)); simp only [putW]) | (apply quiet_go rfl Tryz.call55 rfl; (focus (intro w hS; refine Calls.mono (same25_any hn hm hk) ?_; rintro _ w2 ⟨rfl, h2⟩; exact ⟨rfl, hS.frame h2⟩)); simp only [putW]) | (apply quiet_go rfl Tryz.call56 rfl; (focus (intro w hS; refine Calls.mono (sign_any (by assumption) rfl) ?_; rintro _ w2 ⟨rfl, h2⟩; exact ⟨rfl, hS.frame h2⟩)); simp only [putW]) | (refine quiet_y (yMove rfl rfl rfl) ?_; simp only [evW, putW]) | (refine quiet_y (yLoad1 (fun _ h => h) rfl rfl rfl rfl) ?_; simp only [putW]) | (apply quiet_y; (focus (apply yRun rfl; intro w; first | (go_simp; done) | (go_simp; rfl))); simp only [putW]))); refine quiet_nil ?_; intro w hS)
              go_wp2_with (refine load1 hS rfl rfl rfl rfl ?_; simp only [putW])
              go_ret
              exact ⟨by rw [HR2.out]; rfl, hS.nothing⟩
          | false =>
            have HR2 : Bx (r = false) := ⟨by rw [← HR.out]; exact decide_eq_false fun h => canB_diff na nb h.2.2.2⟩
            have hk : decide (rk n = rk m) = false := decide_eq_false (rk_nan na nb hm)
            rw [na] at ena
            rw [nb] at enb
            clear na nb HR h1 h2 h3
            go_enter Tryz.func32, Tryz.ntmps32
            go_upto_region 1 with (refine boxN hS rfl rfl rfl ?_; clear hS; intro mb w hS; simp only [putW])
            (refine region_quiet hS (by kernel_rfl) (by kernel_rfl) (by kernel_rfl) ?_; clear hS; (repeat (first | (refine quiet_skip rfl ?_; simp only [putW]) | (apply quiet_go rfl Tryz.call33 rfl; (focus (intro w hS; refine Calls.mono (hsm _ hS.nothing) ?_; rintro _ w2 ⟨rfl, h2⟩; exact ⟨rfl, hS.frame h2⟩)); simp only [putW]) | (apply quiet_go rfl Tryz.call55 rfl; (focus (intro w hS; refine Calls.mono (same25_any hn hm hk) ?_; rintro _ w2 ⟨rfl, h2⟩; exact ⟨rfl, hS.frame h2⟩)); simp only [putW]) | (refine quiet_y (yMove rfl rfl rfl) ?_; simp only [evW, putW]) | (refine quiet_y (yLoad1 (fun _ h => h) rfl rfl rfl rfl) ?_; simp only [putW]) | (apply quiet_y; (focus (apply yRun rfl; intro w; first | (go_simp; done) | (go_simp; rfl))); simp only [putW]))); refine quiet_nil ?_; intro w hS)
            go_wp2_with (refine load1 hS rfl rfl rfl rfl ?_; simp only [putW])
            go_ret
            exact ⟨by rw [HR2.out]; rfl, hS.nothing⟩
        | false =>
          cases nb : nanB m with
          | true =>
            have HR2 : Bx (r = false) := ⟨by rw [← HR.out]; exact decide_eq_false fun h => canB_diff nb na h.2.2.2.symm⟩
            have hk : decide (rk n = rk m) = false := decide_eq_false fun h => rk_nan nb na hn h.symm
            rw [na] at ena
            rw [nb] at enb
            clear na nb HR h1 h2 h3
            go_enter Tryz.func32, Tryz.ntmps32
            go_upto_region 1 with (refine boxN hS rfl rfl rfl ?_; clear hS; intro mb w hS; simp only [putW])
            (refine region_quiet hS (by kernel_rfl) (by kernel_rfl) (by kernel_rfl) ?_; clear hS; (repeat (first | (refine quiet_skip rfl ?_; simp only [putW]) | (apply quiet_go rfl Tryz.call33 rfl; (focus (intro w hS; refine Calls.mono (hsm _ hS.nothing) ?_; rintro _ w2 ⟨rfl, h2⟩; exact ⟨rfl, hS.frame h2⟩)); simp only [putW]) | (apply quiet_go rfl Tryz.call55 rfl; (focus (intro w hS; refine Calls.mono (same25_any hn hm hk) ?_; rintro _ w2 ⟨rfl, h2⟩; exact ⟨rfl, hS.frame h2⟩)); simp only [putW]) | (refine quiet_y (yMove rfl rfl rfl) ?_; simp only [evW, putW]) | (refine quiet_y (yLoad1 (fun _ h => h) rfl rfl rfl rfl) ?_; simp only [putW]) | (apply quiet_y; (focus (apply yRun rfl; intro w; first | (go_simp; done) | (go_simp; rfl))); simp only [putW]))); refine quiet_nil ?_; intro w hS)
            go_wp2_with (refine load1 hS rfl rfl rfl rfl ?_; simp only [putW])
            go_ret
            exact ⟨by rw [HR2.out]; rfl, hS.nothing⟩
          | false =>
            have hcc : canB n = canB m ↔ n = m := by rw [canB_no na, canB_no nb]
            have hrk := rk_inj na nb hn hm
            by_cases h4 : n = m
            · have HR2 : Bx (r = true) := ⟨by rw [← HR.out]; exact decide_eq_true ⟨h1, h2, h3, hcc.2 h4⟩⟩
              have hk : decide (rk n = rk m) = true := decide_eq_true (hrk.2 h4)
              have hab : (decide (9223372036854775808 ≤ n) == decide (9223372036854775808 ≤ m)) = true := by rw [h4]; simp
              rw [na] at ena
              rw [nb] at enb
              clear na nb HR h1 h2 h3 hcc hrk h4
              go_enter Tryz.func32, Tryz.ntmps32
              go_upto_region 1 with (refine boxN hS rfl rfl rfl ?_; clear hS; intro mb w hS; simp only [putW])
              (refine region_quiet hS (by kernel_rfl) (by kernel_rfl) (by kernel_rfl) ?_; clear hS; (repeat (first | (refine quiet_skip rfl ?_; simp only [putW]) | (apply quiet_go rfl Tryz.call33 rfl; (focus (intro w hS; refine Calls.mono (hsm _ hS.nothing) ?_; rintro _ w2 ⟨rfl, h2⟩; exact ⟨rfl, hS.frame h2⟩)); simp only [putW]) | (apply quiet_go rfl Tryz.call55 rfl; (focus (intro w hS; refine Calls.mono (same25_any hn hm hk) ?_; rintro _ w2 ⟨rfl, h2⟩; exact ⟨rfl, hS.frame h2⟩)); simp only [putW]) | (apply quiet_go rfl Tryz.call56 rfl; (focus (intro w hS; refine Calls.mono (sign_any (by assumption) rfl) ?_; rintro _ w2 ⟨rfl, h2⟩; exact ⟨rfl, hS.frame h2⟩)); simp only [putW]) | (refine quiet_y (yMove rfl rfl rfl) ?_; simp only [evW, putW]) | (refine quiet_y (yLoad1 (fun _ h => h) rfl rfl rfl rfl) ?_; simp only [putW]) | (apply quiet_y; (focus (apply yRun rfl; intro w; first | (go_simp; done) | (go_simp; rfl))); simp only [putW]))); refine quiet_nil ?_; intro w hS)
              go_wp2_with (refine load1 hS rfl rfl rfl rfl ?_; simp only [putW])
              go_ret
              exact ⟨by rw [HR2.out]; rfl, hS.nothing⟩
            · have HR2 : Bx (r = false) := ⟨by rw [← HR.out]; exact decide_eq_false fun h => h4 (hcc.1 h.2.2.2)⟩
              have hk : decide (rk n = rk m) = false := decide_eq_false fun h => h4 (hrk.1 h)
              rw [na] at ena
              rw [nb] at enb
              clear na nb HR h1 h2 h3 hcc hrk h4
              go_enter Tryz.func32, Tryz.ntmps32
              go_upto_region 1 with (refine boxN hS rfl rfl rfl ?_; clear hS; intro mb w hS; simp only [putW])
              (refine region_quiet hS (by kernel_rfl) (by kernel_rfl) (by kernel_rfl) ?_; clear hS; (repeat (first | (refine quiet_skip rfl ?_; simp only [putW]) | (apply quiet_go rfl Tryz.call33 rfl; (focus (intro w hS; refine Calls.mono (hsm _ hS.nothing) ?_; rintro _ w2 ⟨rfl, h2⟩; exact ⟨rfl, hS.frame h2⟩)); simp only [putW]) | (apply quiet_go rfl Tryz.call55 rfl; (focus (intro w hS; refine Calls.mono (same25_any hn hm hk) ?_; rintro _ w2 ⟨rfl, h2⟩; exact ⟨rfl, hS.frame h2⟩)); simp only [putW]) | (refine quiet_y (yMove rfl rfl rfl) ?_; simp only [evW, putW]) | (refine quiet_y (yLoad1 (fun _ h => h) rfl rfl rfl rfl) ?_; simp only [putW]) | (apply quiet_y; (focus (apply yRun rfl; intro w; first | (go_simp; done) | (go_simp; rfl))); simp only [putW]))); refine quiet_nil ?_; intro w hS)
              go_wp2_with (refine load1 hS rfl rfl rfl rfl ?_; simp only [putW])
              go_ret
              exact ⟨by rw [HR2.out]; rfl, hS.nothing⟩
      · rw [decide_eq_false h3] at hsm
        have HR2 : Bx (r = false) := ⟨by rw [← HR.out]; exact decide_eq_false fun h => h3 h.2.2.1⟩
        clear HR h1 h2 h3
        go_enter Tryz.func32, Tryz.ntmps32
        go_upto_region 1 with (refine boxN hS rfl rfl rfl ?_; clear hS; intro mb w hS; simp only [putW])
        (refine region_quiet hS (by kernel_rfl) (by kernel_rfl) (by kernel_rfl) ?_; clear hS; (repeat (first | (refine quiet_skip rfl ?_; simp only [putW]) | (apply quiet_go rfl Tryz.call33 rfl; (focus (intro w hS; refine Calls.mono (hsm _ hS.nothing) ?_; rintro _ w2 ⟨rfl, h2⟩; exact ⟨rfl, hS.frame h2⟩)); simp only [putW]) | (refine quiet_y (yMove rfl rfl rfl) ?_; simp only [evW, putW]) | (refine quiet_y (yLoad1 (fun _ h => h) rfl rfl rfl rfl) ?_; simp only [putW]) | (apply quiet_y; (focus (apply yRun rfl; intro w; first | (go_simp; done) | (go_simp; rfl))); simp only [putW]))); refine quiet_nil ?_; intro w hS)
        go_wp2_with (refine load1 hS rfl rfl rfl rfl ?_; simp only [putW])
        go_ret
        exact ⟨by rw [HR2.out]; rfl, hS.nothing⟩
    · have q2 : (p == p') = false := by simpa using h2
      have HR2 : Bx (r = false) := ⟨by rw [← HR.out]; exact decide_eq_false fun h => h2 h.2.1⟩
      clear HR h1 h2
      go_enter Tryz.func32, Tryz.ntmps32
      go_upto_region 1 with (refine boxN hS rfl rfl rfl ?_; clear hS; intro mb w hS; simp only [putW])
      (refine region_quiet hS (by kernel_rfl) (by kernel_rfl) (by kernel_rfl) ?_; clear hS; (repeat (first | (refine quiet_skip rfl ?_; simp only [putW]) | (refine quiet_y (yMove rfl rfl rfl) ?_; simp only [evW, putW]) | (refine quiet_y (yLoad1 (fun _ h => h) rfl rfl rfl rfl) ?_; simp only [putW]) | (apply quiet_y; (focus (apply yRun rfl; intro w; first | (go_simp; done) | (go_simp; rfl))); simp only [putW]))); refine quiet_nil ?_; intro w hS)
      go_wp2_with (refine load1 hS rfl rfl rfl rfl ?_; simp only [putW])
      go_ret
      exact ⟨by rw [HR2.out]; rfl, hS.nothing⟩
  · have q1 : (k == k') = false := by simpa using h1
    have HR2 : Bx (r = false) := ⟨by rw [← HR.out]; exact decide_eq_false fun h => h1 h.1⟩
    clear HR h1
    go_enter Tryz.func32, Tryz.ntmps32
    go_upto_region 1 with (refine boxN hS rfl rfl rfl ?_; clear hS; intro mb w hS; simp only [putW])
    (refine region_quiet hS (by kernel_rfl) (by kernel_rfl) (by kernel_rfl) ?_; clear hS; (repeat (first | (refine quiet_skip rfl ?_; simp only [putW]) | (refine quiet_y (yMove rfl rfl rfl) ?_; simp only [evW, putW]) | (refine quiet_y (yLoad1 (fun _ h => h) rfl rfl rfl rfl) ?_; simp only [putW]) | (apply quiet_y; (focus (apply yRun rfl; intro w; first | (go_simp; done) | (go_simp; rfl))); simp only [putW]))); refine quiet_nil ?_; intro w hS)
    go_wp2_with (refine load1 hS rfl rfl rfl rfl ?_; simp only [putW])
    go_ret
    exact ⟨by rw [HR2.out]; rfl, hS.nothing⟩
end
end Go.Proofs.YtpbjkfomdindnaaGreatDoor
