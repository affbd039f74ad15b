/-
  thimbleref01: Half, Fade, Rank, Same, Less of numbers.
  thimbleref01: Rank, Same, Less of numbers that are brought right; thimbleref12.Right.
-/
import Derived.Test.YtlkoclalcfeniaaFrHeat
import Derived.Laws.BitsAllLaws
set_option linter.unusedSimpArgs false
set_option linter.unusedVariables false
namespace Go.Proofs.Ytlkoclalcfeniaa
open Go.RowKit Go.Proofs.Ytlkoclalcfeniaa.Sl Go.Proofs.Ytlkoclalcfeniaa.Jp

theorem and_low {x r : Nat} (hx : x < 18446744073709551616) (hr : x % 9223372036854775808 = r) : bits .and .u64 (x : Int) 9223372036854775807 = (r : Int) := by
  have h := u64_and_nat x 9223372036854775807 hx (by decide)
  have e : x &&& 9223372036854775807 = x % 9223372036854775808 := Nat.and_two_pow_sub_one_eq_mod x 63
  rw [e, hr] at h
  exact h
theorem andNot_low {x r : Nat} (hx : x < 18446744073709551616) (hr : x % 9223372036854775808 = r) : bits .andNot .u64 (x : Int) 9223372036854775808 = (r : Int) := by
  have h := u64_andNot_nat x 9223372036854775808 hx (by decide)
  have e : x &&& 9223372036854775807 = x % 9223372036854775808 := Nat.and_two_pow_sub_one_eq_mod x 63
  rw [show 18446744073709551615 - 9223372036854775808 = 9223372036854775807 by decide, e, hr] at h
  exact h
theorem or_sign {s m : Nat} (hs : s ≤ 1) (hm : m < 9223372036854775808) : bits .or .u64 ((s * 9223372036854775808 : Nat) : Int) (m : Int) = ((s * 9223372036854775808 + m : Nat) : Int) := by
  have h := u64_or_nat (s * 9223372036854775808) m (by omega) (by omega)
  have e : s * 9223372036854775808 ||| m = s * 9223372036854775808 + m := by
    have h2 := Nat.two_pow_add_eq_or_of_lt (i := 63) (b := m) (by simpa using hm) s
    rw [show (2 : Nat) ^ 63 = 9223372036854775808 by decide, Nat.mul_comm] at h2
    exact h2.symm
  rw [e] at h
  exact h
theorem wrap_u64 {n : Int} (h0 : 0 ≤ n) (h1 : n < 18446744073709551616) : IntKind.u64.wrap n = n := by
  simp [IntKind.wrap, IntKind.bits, IntKind.signed]
  omega
section
variable {w0 : World} {x y : Nat}
theorem frombits_run (y : Nat) (w : World) : (callFunc 94 #[.int .u64 y]).run Try.prog w = .ok (.value (.float .f64 y)) w := by
  rw [run_callFunc_extern (e := Extern.MathFloatBits.float64frombits) Try.func94 (by kernel_rfl) (by kernel_rfl) (by kernel_rfl) (by kernel_rfl)]
  rfl
theorem abs_any {r : Nat} (hx : x < 18446744073709551616) (hr : x % 9223372036854775808 = r) : Calls Try.prog 97 #[.float .f64 x] w0 fun e w' => e = .returned (.float .f64 r) ∧ Sat w0 [] w' := by
  have hS := Sat.refl w0
  have hb : ∀ w : World, (callFunc 72 #[.float .f64 x]).run Try.prog w = .ok (.value (.int .u64 x)) w := fun w => bits_run w
  have ha := andNot_low hx hr
  have hf : ∀ w : World, (callFunc 94 #[.int .u64 r]).run Try.prog w = .ok (.value (.float .f64 r)) w := fun w => frombits_run r w
  clear hr
  go_enter Try.func97, Try.ntmps97
  go_wp2_with (first | (refine load1 hS rfl rfl rfl rfl ?_; simp only [putW]) | (refine loadAll hS rfl rfl rfl ?_ ?_; rfl; simp only [putW]) | (refine loadPart hS rfl rfl rfl ?_ rfl ?_; rfl; simp only [putW]) | (refine store1 hS rfl rfl rfl rfl rfl ?_ ?_; (focus (simp; done)); clear hS; intro w hS; simp only [evW, putW] at hS; try simp only [putW]) | (refine storeAll hS rfl rfl rfl rfl ?_ ?_ ?_ ?_; rfl; (focus (simp [Value.oneCell']; done)); rfl; clear hS; intro w hS; try simp only [putW]) | (refine storeN hS rfl rfl rfl rfl ?_ ?_ ?_ ?_; rfl; (focus (simp [Value.oneCell']; done)); (focus (simp; done)); clear hS; intro w hS; simp at hS; try simp only [putW]) | (refine alloc hS rfl rfl ?_; clear hS; intro mb w hS; simp only [putW]) | (refine box1 hS rfl rfl rfl rfl ?_; clear hS; intro mb w hS; try simp only [evW, putW] at hS; simp only [putW]) | (refine boxN hS rfl rfl rfl ?_; clear hS; intro mb w hS; simp only [putW]))
  go_ret
  exact ⟨rfl, hS⟩
theorem isinf_any {r : Nat} {b : Bool} (hx : NumF x) (hr : x % 9223372036854775808 = r) (hb : decide (r = 9218868437227405312) = b) : Calls Try.prog 93 #[.float .f64 x, .int .i64 0] w0 fun e w' => e = .returned (.bool b) ∧ Sat w0 [] w' := by
  have hS := Sat.refl w0
  have hx1 := hx.1
  have hrl : r ≤ 9218868437227405312 := by rw [← hr]; exact hx.2
  have hr1 : NumF r := by unfold NumF; omega
  have hm : NumF 9218868437227405311 := by unfold NumF; omega
  have Ho : Bx ((FloatKind.f64.format.order r 9218868437227405311 == some Ordering.gt) = b) := ⟨by
    rw [order_key hr1 hm, ← hb]
    have e1 : keyF r = (r : Int) := by unfold keyF; rw [if_pos (by omega)]
    have e2 : keyF 9218868437227405311 = 9218868437227405311 := by decide
    rw [e1, e2]
    by_cases h : r = 9218868437227405312
    · rw [cmp_gt (by omega), decide_eq_true h]
      rfl
    · rw [decide_eq_false h]
      by_cases h2 : r = 9218868437227405311
      · rw [cmp_eq (by omega)]
        rfl
      · rw [cmp_lt (by omega)]
        rfl⟩
  have HR : Bx _ := ⟨hr⟩
  clear hr hb hrl hr1 hm hx
  have h9 := Ho.out
  go_enter Try.func93, Try.ntmps93
  go_wp2_with (first | (go_at_call 97; refine Calls.mono (abs_any hx1 HR.out) ?_; rintro _ w2 ⟨rfl, h2⟩; replace hS := hS.frame h2; clear h2; (try simp only [List.cons_append, List.nil_append] at hS); simp only [putW]) | (refine load1 hS rfl rfl rfl rfl ?_; simp only [putW]) | (refine loadAll hS rfl rfl rfl ?_ ?_; rfl; simp only [putW]) | (refine loadPart hS rfl rfl rfl ?_ rfl ?_; rfl; simp only [putW]) | (refine store1 hS rfl rfl rfl rfl rfl ?_ ?_; (focus (simp; done)); clear hS; intro w hS; simp only [evW, putW] at hS; try simp only [putW]) | (refine storeAll hS rfl rfl rfl rfl ?_ ?_ ?_ ?_; rfl; (focus (simp [Value.oneCell']; done)); rfl; clear hS; intro w hS; try simp only [putW]) | (refine storeN hS rfl rfl rfl rfl ?_ ?_ ?_ ?_; rfl; (focus (simp [Value.oneCell']; done)); (focus (simp; done)); clear hS; intro w hS; simp at hS; try simp only [putW]) | (refine alloc hS rfl rfl ?_; clear hS; intro mb w hS; simp only [putW]) | (refine box1 hS rfl rfl rfl rfl ?_; clear hS; intro mb w hS; try simp only [evW, putW] at hS; simp only [putW]) | (refine boxN hS rfl rfl rfl ?_; clear hS; intro mb w hS; simp only [putW]))
  go_ret
  exact ⟨rfl, hS⟩
theorem refhalf_any {m : Nat} (hm : m < 9223372036854775808) : Calls Try.prog 95 #[.int .u64 (m : Int)] w0 fun e w' => e = .returned (.int .u64 (halfN m : Nat)) ∧ Sat w0 [] w' := by
  have hS := Sat.refl w0
  obtain ⟨H, hH⟩ : ∃ H, halfN m = H := ⟨_, rfl⟩
  rw [hH]
  have HH : Bx _ := ⟨hH⟩
  clear hH
  by_cases h1 : m % 2 = 1 ∧ m / 2 % 2 = 1
  · have d1 : ((m : Int) % 2 == 1) = true := by simp; omega
    have d2 : ((m : Int) / 2 % 2 == 1) = true := by simp; omega
    have e : H = m / 2 + 1 := by rw [← HH.out]; unfold halfN; rw [if_pos h1]
    clear h1
    go_enter Try.func95, Try.ntmps95
    go_wp2_with (first | (refine load1 hS rfl rfl rfl rfl ?_; simp only [putW]) | (refine loadAll hS rfl rfl rfl ?_ ?_; rfl; simp only [putW]) | (refine loadPart hS rfl rfl rfl ?_ rfl ?_; rfl; simp only [putW]) | (refine store1 hS rfl rfl rfl rfl rfl ?_ ?_; (focus (simp; done)); clear hS; intro w hS; simp only [evW, putW] at hS; try simp only [putW]) | (refine storeAll hS rfl rfl rfl rfl ?_ ?_ ?_ ?_; rfl; (focus (simp [Value.oneCell']; done)); rfl; clear hS; intro w hS; try simp only [putW]) | (refine storeN hS rfl rfl rfl rfl ?_ ?_ ?_ ?_; rfl; (focus (simp [Value.oneCell']; done)); (focus (simp; done)); clear hS; intro w hS; simp at hS; try simp only [putW]) | (refine alloc hS rfl rfl ?_; clear hS; intro mb w hS; simp only [putW]) | (refine box1 hS rfl rfl rfl rfl ?_; clear hS; intro mb w hS; try simp only [evW, putW] at hS; simp only [putW]) | (refine boxN hS rfl rfl rfl ?_; clear hS; intro mb w hS; simp only [putW]))
    go_ret
    exact ⟨by rw [e]; simp, hS⟩
  · have e : H = m / 2 := by rw [← HH.out]; unfold halfN; rw [if_neg h1]; omega
    by_cases h2 : m % 2 = 1
    · have d1 : ((m : Int) % 2 == 1) = true := by simp; omega
      have d2 : ((m : Int) / 2 % 2 == 1) = false := by simp; omega
      clear h1 h2
      go_enter Try.func95, Try.ntmps95
      go_wp2_with (first | (refine load1 hS rfl rfl rfl rfl ?_; simp only [putW]) | (refine loadAll hS rfl rfl rfl ?_ ?_; rfl; simp only [putW]) | (refine loadPart hS rfl rfl rfl ?_ rfl ?_; rfl; simp only [putW]) | (refine store1 hS rfl rfl rfl rfl rfl ?_ ?_; (focus (simp; done)); clear hS; intro w hS; simp only [evW, putW] at hS; try simp only [putW]) | (refine storeAll hS rfl rfl rfl rfl ?_ ?_ ?_ ?_; rfl; (focus (simp [Value.oneCell']; done)); rfl; clear hS; intro w hS; try simp only [putW]) | (refine storeN hS rfl rfl rfl rfl ?_ ?_ ?_ ?_; rfl; (focus (simp [Value.oneCell']; done)); (focus (simp; done)); clear hS; intro w hS; simp at hS; try simp only [putW]) | (refine alloc hS rfl rfl ?_; clear hS; intro mb w hS; simp only [putW]) | (refine box1 hS rfl rfl rfl rfl ?_; clear hS; intro mb w hS; try simp only [evW, putW] at hS; simp only [putW]) | (refine boxN hS rfl rfl rfl ?_; clear hS; intro mb w hS; simp only [putW]))
      go_ret
      exact ⟨by rw [e]; simp, hS⟩
    · have d1 : ((m : Int) % 2 == 1) = false := by simp; omega
      clear h1 h2
      go_enter Try.func95, Try.ntmps95
      go_wp2_with (first | (refine load1 hS rfl rfl rfl rfl ?_; simp only [putW]) | (refine loadAll hS rfl rfl rfl ?_ ?_; rfl; simp only [putW]) | (refine loadPart hS rfl rfl rfl ?_ rfl ?_; rfl; simp only [putW]) | (refine store1 hS rfl rfl rfl rfl rfl ?_ ?_; (focus (simp; done)); clear hS; intro w hS; simp only [evW, putW] at hS; try simp only [putW]) | (refine storeAll hS rfl rfl rfl rfl ?_ ?_ ?_ ?_; rfl; (focus (simp [Value.oneCell']; done)); rfl; clear hS; intro w hS; try simp only [putW]) | (refine storeN hS rfl rfl rfl rfl ?_ ?_ ?_ ?_; rfl; (focus (simp [Value.oneCell']; done)); (focus (simp; done)); clear hS; intro w hS; simp at hS; try simp only [putW]) | (refine alloc hS rfl rfl ?_; clear hS; intro mb w hS; simp only [putW]) | (refine box1 hS rfl rfl rfl rfl ?_; clear hS; intro mb w hS; try simp only [evW, putW] at hS; simp only [putW]) | (refine boxN hS rfl rfl rfl ?_; clear hS; intro mb w hS; simp only [putW]))
      go_ret
      exact ⟨by rw [e]; simp, hS⟩
set_option maxRecDepth 100000 in
set_option maxHeartbeats 1000000 in
theorem refHalf_any (hx : NumF x) : Calls Try.prog 84 #[.float .f64 x] w0 fun e w' => e = .returned (.float .f64 (halfF x)) ∧ Sat w0 [] w' := by
  have hS := Sat.refl w0
  have h1 : (FloatKind.f64.format.order x x != some Ordering.eq) = false := by rw [order_self hx]; rfl
  have hb : ∀ w : World, (callFunc 72 #[.float .f64 x]).run Try.prog w = .ok (.value (.int .u64 x)) w := fun w => bits_run w
  obtain ⟨r, hr⟩ : ∃ r, x % 9223372036854775808 = r := ⟨_, rfl⟩
  have ha := andNot_low hx.1 hr
  have hx1 := hx.1
  have hrl : r < 9223372036854775808 := by omega
  obtain ⟨S, hSS⟩ : ∃ S, x / 9223372036854775808 * 9223372036854775808 = S := ⟨_, rfl⟩
  have hw1 : IntKind.u64.wrap ((x : Int) / 9223372036854775808 * 9223372036854775808) = (S : Int) := by
    rw [wrap_u64 (by omega) (by omega)]
    omega
  have HX : Bx _ := ⟨hx⟩
  have HR : Bx _ := ⟨hr⟩
  have hor : ∀ m : Nat, m < 9223372036854775808 → bits .or .u64 (S : Int) (m : Int) = ((S + m : Nat) : Int) := fun m hm => by
    have h := or_sign (s := x / 9223372036854775808) (m := m) (by omega) hm
    rw [hSS] at h
    exact h
  have HOr : Bx _ := ⟨hor⟩
  obtain ⟨T, hT⟩ : ∃ T, halfF x = T := ⟨_, rfl⟩
  rw [hT]
  have HT : Bx (halfF x = T) := ⟨hT⟩
  have HSS : Bx _ := ⟨hSS⟩
  have HXS : Bx (S + r = x) := ⟨by omega⟩
  have hf : ∀ w : World, (callFunc 94 #[.int .u64 (T : Int)]).run Try.prog w = .ok (.value (.float .f64 T)) w := fun w => frombits_run T w
  by_cases hi : r = 9218868437227405312
  · have di : decide (r = 9218868437227405312) = true := decide_eq_true hi
    have HTx : Bx (T = x) := ⟨by rw [← hT]; unfold halfF; rw [hr, hi, if_pos (Nat.le_refl _)]⟩
    clear hr hSS hor hT hi ha hw1 hx
    go_enter Try.func84, Try.ntmps84
    go_wp2_with (first | (go_at_call 93; refine Calls.mono (isinf_any HX.out HR.out di) ?_; rintro _ w2 ⟨rfl, h2⟩; replace hS := hS.frame h2; clear h2; (try simp only [List.cons_append, List.nil_append] at hS); simp only [putW]) | (refine load1 hS rfl rfl rfl rfl ?_; simp only [putW]) | (refine loadAll hS rfl rfl rfl ?_ ?_; rfl; simp only [putW]) | (refine loadPart hS rfl rfl rfl ?_ rfl ?_; rfl; simp only [putW]) | (refine store1 hS rfl rfl rfl rfl rfl ?_ ?_; (focus (simp; done)); clear hS; intro w hS; simp only [evW, putW] at hS; try simp only [putW]) | (refine storeAll hS rfl rfl rfl rfl ?_ ?_ ?_ ?_; rfl; (focus (simp [Value.oneCell']; done)); rfl; clear hS; intro w hS; try simp only [putW]) | (refine storeN hS rfl rfl rfl rfl ?_ ?_ ?_ ?_; rfl; (focus (simp [Value.oneCell']; done)); (focus (simp; done)); clear hS; intro w hS; simp at hS; try simp only [putW]) | (refine alloc hS rfl rfl ?_; clear hS; intro mb w hS; simp only [putW]) | (refine box1 hS rfl rfl rfl rfl ?_; clear hS; intro mb w hS; try simp only [evW, putW] at hS; simp only [putW]) | (refine boxN hS rfl rfl rfl ?_; clear hS; intro mb w hS; simp only [putW]))
    go_ret
    exact ⟨by rw [HTx.out]; rfl, hS⟩
  · have di : decide (r = 9218868437227405312) = false := decide_eq_false hi
    have hri : ¬ 9218868437227405312 ≤ r := by have := hx.2; omega
    by_cases he : 2 ≤ r / 4503599627370496
    · have d2 : decide (2 ≤ (r : Int) / 4503599627370496) = true := decide_eq_true (by omega)
      obtain ⟨D, hD⟩ : ∃ D, r - 4503599627370496 = D := ⟨_, rfl⟩
      have hw2 : IntKind.u64.wrap ((r : Int) - 4503599627370496) = (D : Int) := by
        rw [wrap_u64 (by omega) (by omega)]
        omega
      have hTD : S + D = T := by
        rw [← hT]
        unfold halfF
        rw [hr, if_neg hri, if_pos he]
        have := HXS.out
        omega
      have ho : bits .or .u64 (S : Int) (D : Int) = (T : Int) := by rw [hor D (by omega), hTD]
      clear hr hSS hor hT hi hx hD hTD hri
      go_enter Try.func84, Try.ntmps84
      go_wp2_with (first | (go_at_call 93; refine Calls.mono (isinf_any HX.out HR.out di) ?_; rintro _ w2 ⟨rfl, h2⟩; replace hS := hS.frame h2; clear h2; (try simp only [List.cons_append, List.nil_append] at hS); simp only [putW]) | (refine load1 hS rfl rfl rfl rfl ?_; simp only [putW]) | (refine loadAll hS rfl rfl rfl ?_ ?_; rfl; simp only [putW]) | (refine loadPart hS rfl rfl rfl ?_ rfl ?_; rfl; simp only [putW]) | (refine store1 hS rfl rfl rfl rfl rfl ?_ ?_; (focus (simp; done)); clear hS; intro w hS; simp only [evW, putW] at hS; try simp only [putW]) | (refine storeAll hS rfl rfl rfl rfl ?_ ?_ ?_ ?_; rfl; (focus (simp [Value.oneCell']; done)); rfl; clear hS; intro w hS; try simp only [putW]) | (refine storeN hS rfl rfl rfl rfl ?_ ?_ ?_ ?_; rfl; (focus (simp [Value.oneCell']; done)); (focus (simp; done)); clear hS; intro w hS; simp at hS; try simp only [putW]) | (refine alloc hS rfl rfl ?_; clear hS; intro mb w hS; simp only [putW]) | (refine box1 hS rfl rfl rfl rfl ?_; clear hS; intro mb w hS; try simp only [evW, putW] at hS; simp only [putW]) | (refine boxN hS rfl rfl rfl ?_; clear hS; intro mb w hS; simp only [putW]))
      go_ret
      exact ⟨rfl, hS⟩
    · have d2 : decide (2 ≤ (r : Int) / 4503599627370496) = false := decide_eq_false (by omega)
      obtain ⟨D, hD⟩ : ∃ D, halfN r = D := ⟨_, rfl⟩
      have HD : Bx _ := ⟨hD⟩
      have hDl : D ≤ r := by rw [← hD]; exact halfN_le r
      have hTD : S + D = T := by
        rw [← hT]
        unfold halfF
        rw [hr, if_neg hri, if_neg he, hSS, hD]
      have ho : bits .or .u64 (S : Int) (D : Int) = (T : Int) := by rw [hor D (by omega), hTD]
      clear hr hSS hor hT hi hx hD hTD hri
      go_enter Try.func84, Try.ntmps84
      go_wp2_with (first | (go_at_call 93; refine Calls.mono (isinf_any HX.out HR.out di) ?_; rintro _ w2 ⟨rfl, h2⟩; replace hS := hS.frame h2; clear h2; (try simp only [List.cons_append, List.nil_append] at hS); simp only [putW]) | (go_at_call 95; refine Calls.mono (refhalf_any hrl) ?_; rw [HD.out]; rintro _ w2 ⟨rfl, h2⟩; replace hS := hS.frame h2; clear h2; (try simp only [List.cons_append, List.nil_append] at hS); simp only [putW]) | (refine load1 hS rfl rfl rfl rfl ?_; simp only [putW]) | (refine loadAll hS rfl rfl rfl ?_ ?_; rfl; simp only [putW]) | (refine loadPart hS rfl rfl rfl ?_ rfl ?_; rfl; simp only [putW]) | (refine store1 hS rfl rfl rfl rfl rfl ?_ ?_; (focus (simp; done)); clear hS; intro w hS; simp only [evW, putW] at hS; try simp only [putW]) | (refine storeAll hS rfl rfl rfl rfl ?_ ?_ ?_ ?_; rfl; (focus (simp [Value.oneCell']; done)); rfl; clear hS; intro w hS; try simp only [putW]) | (refine storeN hS rfl rfl rfl rfl ?_ ?_ ?_ ?_; rfl; (focus (simp [Value.oneCell']; done)); (focus (simp; done)); clear hS; intro w hS; simp at hS; try simp only [putW]) | (refine alloc hS rfl rfl ?_; clear hS; intro mb w hS; simp only [putW]) | (refine box1 hS rfl rfl rfl rfl ?_; clear hS; intro mb w hS; try simp only [evW, putW] at hS; simp only [putW]) | (refine boxN hS rfl rfl rfl ?_; clear hS; intro mb w hS; simp only [putW]))
      go_ret
      exact ⟨rfl, hS⟩
set_option maxRecDepth 100000 in
set_option maxHeartbeats 1000000 in
theorem refFade_any {n : Nat} (hx : NumF x) (hn : n < 2200) : Calls Try.prog 69 #[.float .f64 x, .int .i64 n] w0 fun e w' => e = .returned (.float .f64 (fadeF n x)) ∧ Sat w0 [] w' := by
  have hS := Sat.refl w0
  obtain ⟨T, hT⟩ : ∃ T, fadeF n x = T := ⟨_, rfl⟩
  rw [hT]
  have HX : Bx (NumF x ∧ fadeF n x = T) := ⟨hx, hT⟩
  clear hx hT
  go_enter Try.func69, Try.ntmps69
  go_wp2_with (first | (refine load1 hS rfl rfl rfl rfl ?_; simp only [putW]) | (refine loadAll hS rfl rfl rfl ?_ ?_; rfl; simp only [putW]) | (refine loadPart hS rfl rfl rfl ?_ rfl ?_; rfl; simp only [putW]) | (refine store1 hS rfl rfl rfl rfl rfl ?_ ?_; (focus (simp; done)); clear hS; intro w hS; simp only [evW, putW] at hS; try simp only [putW]) | (refine storeAll hS rfl rfl rfl rfl ?_ ?_ ?_ ?_; rfl; (focus (simp [Value.oneCell']; done)); rfl; clear hS; intro w hS; try simp only [putW]) | (refine storeN hS rfl rfl rfl rfl ?_ ?_ ?_ ?_; rfl; (focus (simp [Value.oneCell']; done)); (focus (simp; done)); clear hS; intro w hS; simp at hS; try simp only [putW]) | (refine alloc hS rfl rfl ?_; clear hS; intro mb w hS; simp only [putW]) | (refine box1 hS rfl rfl rfl rfl ?_; clear hS; intro mb w hS; try simp only [evW, putW] at hS; simp only [putW]) | (refine boxN hS rfl rfl rfl ?_; clear hS; intro mb w hS; simp only [putW]))
  go_loopg [0, 5] n (fun g a i wr => ∃ (y k : Nat), k + g = n ∧ Bx (NumF y ∧ fadeF g y = T) ∧ a = .float .f64 y ∧ i = .int .i64 k ∧ Sat w0 [] wr)
  case atStart => exact ⟨x, 0, by omega, HX, rfl, rfl, hS⟩
  case round =>
    clear hS HX
    obtain ⟨y, k, hk, HY, rfl, rfl, hS⟩ := hrel
    cases gk with
    | succ g =>
      have h0 : decide ((k : Int) < (n : Int)) = true := decide_eq_true (by omega)
      have h0n : decide (k < n) = true := decide_eq_true (by omega)
      have h3 : decide ((k : Int) < 2200) = true := decide_eq_true (by omega)
      go_wp2_with (first | (go_at_call 84; refine Calls.mono (refHalf_any HY.out.1) ?_; rintro _ w2 ⟨rfl, h2⟩; replace hS := hS.frame h2; clear h2; (try simp only [List.cons_append, List.nil_append] at hS); simp only [putW]) | (refine load1 hS rfl rfl rfl rfl ?_; simp only [putW]) | (refine loadAll hS rfl rfl rfl ?_ ?_; rfl; simp only [putW]) | (refine loadPart hS rfl rfl rfl ?_ rfl ?_; rfl; simp only [putW]) | (refine store1 hS rfl rfl rfl rfl rfl ?_ ?_; (focus (simp; done)); clear hS; intro w hS; simp only [evW, putW] at hS; try simp only [putW]) | (refine storeAll hS rfl rfl rfl rfl ?_ ?_ ?_ ?_; rfl; (focus (simp [Value.oneCell']; done)); rfl; clear hS; intro w hS; try simp only [putW]) | (refine storeN hS rfl rfl rfl rfl ?_ ?_ ?_ ?_; rfl; (focus (simp [Value.oneCell']; done)); (focus (simp; done)); clear hS; intro w hS; simp at hS; try simp only [putW]) | (refine alloc hS rfl rfl ?_; clear hS; intro mb w hS; simp only [putW]) | (refine box1 hS rfl rfl rfl rfl ?_; clear hS; intro mb w hS; try simp only [evW, putW] at hS; simp only [putW]) | (refine boxN hS rfl rfl rfl ?_; clear hS; intro mb w hS; simp only [putW]))
      go_roundg g
      case measure => omega
      case rel => exact ⟨halfF y, k + 1, by omega, ⟨numF_half HY.out.1, HY.out.2⟩, rfl, by go_num, hS⟩
    | zero =>
      have h0 : decide ((k : Int) < (n : Int)) = false := decide_eq_false (by omega)
      have h0n : decide (k < n) = false := decide_eq_false (by omega)
      have HT : Bx (y = T) := ⟨HY.out.2⟩
      go_wp2_with (first | (refine load1 hS rfl rfl rfl rfl ?_; simp only [putW]) | (refine loadAll hS rfl rfl rfl ?_ ?_; rfl; simp only [putW]) | (refine loadPart hS rfl rfl rfl ?_ rfl ?_; rfl; simp only [putW]) | (refine store1 hS rfl rfl rfl rfl rfl ?_ ?_; (focus (simp; done)); clear hS; intro w hS; simp only [evW, putW] at hS; try simp only [putW]) | (refine storeAll hS rfl rfl rfl rfl ?_ ?_ ?_ ?_; rfl; (focus (simp [Value.oneCell']; done)); rfl; clear hS; intro w hS; try simp only [putW]) | (refine storeN hS rfl rfl rfl rfl ?_ ?_ ?_ ?_; rfl; (focus (simp [Value.oneCell']; done)); (focus (simp; done)); clear hS; intro w hS; simp at hS; try simp only [putW]) | (refine alloc hS rfl rfl ?_; clear hS; intro mb w hS; simp only [putW]) | (refine box1 hS rfl rfl rfl rfl ?_; clear hS; intro mb w hS; try simp only [evW, putW] at hS; simp only [putW]) | (refine boxN hS rfl rfl rfl ?_; clear hS; intro mb w hS; simp only [putW]))
      go_ret
      exact ⟨by rw [HT.out]; rfl, hS⟩
end
end Go.Proofs.Ytlkoclalcfeniaa
namespace Go.Proofs.Ytlkoclalcfeniaa
open Go.RowKit Go.Proofs.Ytlkoclalcfeniaa.Sl Go.Proofs.Ytlkoclalcfeniaa.Jp

/-- A number that is brought right. -/
def PlusF (x : Nat) : Prop := NumF x ∧ (x % 9223372036854775808 = 0 → x = 0)
theorem plus_right {x : Nat} (h : x < 18446744073709551616) : PlusF (rightF x) := by
  refine ⟨numF_right h, ?_⟩
  rcases numF_or h with h1 | h1
  · rw [rightF_num h1]
    split
    · intro _; rfl
    · intro h2; contradiction
  · rw [rightF_nan h1]
    intro _; rfl
theorem rank_num {x : Nat} (h : NumF x) : rankF x = if 9223372036854775808 ≤ x then -((x : Int) - 9223372036854775808) - 1 else (x : Int) := by
  unfold rankF
  rw [if_pos (order_self h)]
  by_cases h2 : 9223372036854775808 ≤ x
  · rw [if_pos (by omega), if_pos h2]
  · rw [if_neg (by omega), if_neg h2]
theorem rank_key {x y : Nat} (hx : PlusF x) (hy : PlusF y) : rankF x < rankF y ↔ keyF x < keyF y := by
  rw [rank_num hx.1, rank_num hy.1]
  unfold keyF
  have h1 := hx.2
  have h2 := hy.2
  have h3 := hx.1.1
  have h4 := hy.1.1
  split <;> split <;> split <;> split <;> omega
section
variable {w0 : World} {x y : Nat}
set_option maxRecDepth 100000 in
set_option maxHeartbeats 1000000 in
theorem refRank_any (hx : NumF x) : Calls Try.prog 86 #[.float .f64 x] w0 fun e w' => e = .returned (.int .i64 (rankF x)) ∧ Sat w0 [] w' := by
  have hS := Sat.refl w0
  have h1 : (FloatKind.f64.format.order x x != some Ordering.eq) = false := by rw [order_self hx]; rfl
  have hb : ∀ w : World, (callFunc 72 #[.float .f64 x]).run Try.prog w = .ok (.value (.int .u64 x)) w := fun w => bits_run w
  obtain ⟨r, hr⟩ : ∃ r, x % 9223372036854775808 = r := ⟨_, rfl⟩
  have ha := and_low hx.1 hr
  have hx1 := hx.1
  have hrl : r < 9223372036854775808 := by omega
  have hw : wrap64 (r : Int) = (r : Int) := by unfold wrap64; omega
  obtain ⟨H, hH⟩ : ∃ H, rankF x = H := ⟨_, rfl⟩
  rw [hH]
  rw [rank_num hx] at hH
  by_cases hs : 9223372036854775808 ≤ x
  · have d1 : ((x : Int) / 9223372036854775808 == 1) = true := by simp; omega
    rw [if_pos hs] at hH
    have HH : Bx (H = -(r : Int) - 1) := ⟨by omega⟩
    have hw2 : wrap64 (-(r : Int)) = -(r : Int) := by unfold wrap64; omega
    have hw3 : wrap64 (-(r : Int) - 1) = -(r : Int) - 1 := by unfold wrap64; omega
    clear hH hs hx hr hrl hx1
    go_enter Try.func86, Try.ntmps86
    go_wp2_with (first | (refine load1 hS rfl rfl rfl rfl ?_; simp only [putW]) | (refine loadAll hS rfl rfl rfl ?_ ?_; rfl; simp only [putW]) | (refine loadPart hS rfl rfl rfl ?_ rfl ?_; rfl; simp only [putW]) | (refine store1 hS rfl rfl rfl rfl rfl ?_ ?_; (focus (simp; done)); clear hS; intro w hS; simp only [evW, putW] at hS; try simp only [putW]) | (refine storeAll hS rfl rfl rfl rfl ?_ ?_ ?_ ?_; rfl; (focus (simp [Value.oneCell']; done)); rfl; clear hS; intro w hS; try simp only [putW]) | (refine storeN hS rfl rfl rfl rfl ?_ ?_ ?_ ?_; rfl; (focus (simp [Value.oneCell']; done)); (focus (simp; done)); clear hS; intro w hS; simp at hS; try simp only [putW]) | (refine alloc hS rfl rfl ?_; clear hS; intro mb w hS; simp only [putW]) | (refine box1 hS rfl rfl rfl rfl ?_; clear hS; intro mb w hS; try simp only [evW, putW] at hS; simp only [putW]) | (refine boxN hS rfl rfl rfl ?_; clear hS; intro mb w hS; simp only [putW]))
    go_ret
    exact ⟨by rw [HH.out]; show Ending.returned (Value.int .i64 (wrap64 (-(r : Int) - 1))) = _; rw [hw3], hS⟩
  · have d1 : ((x : Int) / 9223372036854775808 == 1) = false := by simp; omega
    rw [if_neg hs] at hH
    have HH : Bx (H = (r : Int)) := ⟨by omega⟩
    clear hH hs hx hr hrl hx1
    go_enter Try.func86, Try.ntmps86
    go_wp2_with (first | (refine load1 hS rfl rfl rfl rfl ?_; simp only [putW]) | (refine loadAll hS rfl rfl rfl ?_ ?_; rfl; simp only [putW]) | (refine loadPart hS rfl rfl rfl ?_ rfl ?_; rfl; simp only [putW]) | (refine store1 hS rfl rfl rfl rfl rfl ?_ ?_; (focus (simp; done)); clear hS; intro w hS; simp only [evW, putW] at hS; try simp only [putW]) | (refine storeAll hS rfl rfl rfl rfl ?_ ?_ ?_ ?_; rfl; (focus (simp [Value.oneCell']; done)); rfl; clear hS; intro w hS; try simp only [putW]) | (refine storeN hS rfl rfl rfl rfl ?_ ?_ ?_ ?_; rfl; (focus (simp [Value.oneCell']; done)); (focus (simp; done)); clear hS; intro w hS; simp at hS; try simp only [putW]) | (refine alloc hS rfl rfl ?_; clear hS; intro mb w hS; simp only [putW]) | (refine box1 hS rfl rfl rfl rfl ?_; clear hS; intro mb w hS; try simp only [evW, putW] at hS; simp only [putW]) | (refine boxN hS rfl rfl rfl ?_; clear hS; intro mb w hS; simp only [putW]))
    go_ret
    exact ⟨by rw [HH.out]; show Ending.returned (Value.int .i64 (wrap64 (r : Int))) = _; rw [hw], hS⟩
set_option maxRecDepth 100000 in
theorem refSameF_any {b : Bool} (hx : NumF x) (hy : NumF y) (hb : decide (rankF x = rankF y) = b) : Calls Try.prog 71 #[.float .f64 x, .float .f64 y] w0 fun e w' => e = .returned (.bool b) ∧ Sat w0 [] w' := by
  have hS := Sat.refl w0
  obtain ⟨A, hA⟩ : ∃ A, rankF x = A := ⟨_, rfl⟩
  obtain ⟨B, hB⟩ : ∃ B, rankF y = B := ⟨_, rfl⟩
  rw [hA, hB] at hb
  have hbe : (A == B) = b := by rw [← hb]; rfl
  have HA : Bx (NumF x ∧ rankF x = A) := ⟨hx, hA⟩
  have HB : Bx (NumF y ∧ rankF y = B) := ⟨hy, hB⟩
  clear hA hB hx hy hb
  go_enter Try.func71, Try.ntmps71
  go_wp2_with (first | (guard_target =~ Calls _ 86 _ _ _; refine Stopped.out ?_) | (refine load1 hS rfl rfl rfl rfl ?_; simp only [putW]) | (refine loadAll hS rfl rfl rfl ?_ ?_; rfl; simp only [putW]) | (refine loadPart hS rfl rfl rfl ?_ rfl ?_; rfl; simp only [putW]) | (refine store1 hS rfl rfl rfl rfl rfl ?_ ?_; (focus (simp; done)); clear hS; intro w hS; simp only [evW, putW] at hS; try simp only [putW]) | (refine storeAll hS rfl rfl rfl rfl ?_ ?_ ?_ ?_; rfl; (focus (simp [Value.oneCell']; done)); rfl; clear hS; intro w hS; try simp only [putW]) | (refine storeN hS rfl rfl rfl rfl ?_ ?_ ?_ ?_; rfl; (focus (simp [Value.oneCell']; done)); (focus (simp; done)); clear hS; intro w hS; simp at hS; try simp only [putW]) | (refine alloc hS rfl rfl ?_; clear hS; intro mb w hS; simp only [putW]) | (refine box1 hS rfl rfl rfl rfl ?_; clear hS; intro mb w hS; try simp only [evW, putW] at hS; simp only [putW]) | (refine boxN hS rfl rfl rfl ?_; clear hS; intro mb w hS; simp only [putW]))
  refine ⟨?_⟩
  (refine Calls.mono (refRank_any HA.out.1) ?_; rw [HA.out.2]; rintro _ w2 ⟨rfl, h2⟩; replace hS := hS.frame h2; clear h2; (try simp only [List.cons_append, List.nil_append] at hS); simp only [putW])
  go_wp2_with (first | (guard_target =~ Calls _ 86 _ _ _; refine Stopped.out ?_) | (refine load1 hS rfl rfl rfl rfl ?_; simp only [putW]) | (refine loadAll hS rfl rfl rfl ?_ ?_; rfl; simp only [putW]) | (refine loadPart hS rfl rfl rfl ?_ rfl ?_; rfl; simp only [putW]) | (refine store1 hS rfl rfl rfl rfl rfl ?_ ?_; (focus (simp; done)); clear hS; intro w hS; simp only [evW, putW] at hS; try simp only [putW]) | (refine storeAll hS rfl rfl rfl rfl ?_ ?_ ?_ ?_; rfl; (focus (simp [Value.oneCell']; done)); rfl; clear hS; intro w hS; try simp only [putW]) | (refine storeN hS rfl rfl rfl rfl ?_ ?_ ?_ ?_; rfl; (focus (simp [Value.oneCell']; done)); (focus (simp; done)); clear hS; intro w hS; simp at hS; try simp only [putW]) | (refine alloc hS rfl rfl ?_; clear hS; intro mb w hS; simp only [putW]) | (refine box1 hS rfl rfl rfl rfl ?_; clear hS; intro mb w hS; try simp only [evW, putW] at hS; simp only [putW]) | (refine boxN hS rfl rfl rfl ?_; clear hS; intro mb w hS; simp only [putW]))
  refine ⟨?_⟩
  (refine Calls.mono (refRank_any HB.out.1) ?_; rw [HB.out.2]; rintro _ w2 ⟨rfl, h2⟩; replace hS := hS.frame h2; clear h2; (try simp only [List.cons_append, List.nil_append] at hS); simp only [putW])
  go_wp2_with (first | (refine load1 hS rfl rfl rfl rfl ?_; simp only [putW]) | (refine loadAll hS rfl rfl rfl ?_ ?_; rfl; simp only [putW]) | (refine loadPart hS rfl rfl rfl ?_ rfl ?_; rfl; simp only [putW]) | (refine store1 hS rfl rfl rfl rfl rfl ?_ ?_; (focus (simp; done)); clear hS; intro w hS; simp only [evW, putW] at hS; try simp only [putW]) | (refine storeAll hS rfl rfl rfl rfl ?_ ?_ ?_ ?_; rfl; (focus (simp [Value.oneCell']; done)); rfl; clear hS; intro w hS; try simp only [putW]) | (refine storeN hS rfl rfl rfl rfl ?_ ?_ ?_ ?_; rfl; (focus (simp [Value.oneCell']; done)); (focus (simp; done)); clear hS; intro w hS; simp at hS; try simp only [putW]) | (refine alloc hS rfl rfl ?_; clear hS; intro mb w hS; simp only [putW]) | (refine box1 hS rfl rfl rfl rfl ?_; clear hS; intro mb w hS; try simp only [evW, putW] at hS; simp only [putW]) | (refine boxN hS rfl rfl rfl ?_; clear hS; intro mb w hS; simp only [putW]))
  go_ret
  exact ⟨rfl, hS⟩
set_option maxRecDepth 100000 in
theorem signbit_zero : Calls Try.prog 85 #[.float .f64 0] w0 fun e w' => e = .returned (.bool false) ∧ Sat w0 [] w' := by
  have hS := Sat.refl w0
  have hb : ∀ w : World, (callFunc 72 #[.float .f64 0]).run Try.prog w = .ok (.value (.int .u64 0)) w := fun w => bits_run (x := 0) w
  go_enter Try.func85, Try.ntmps85
  go_wp2_with (first | (refine load1 hS rfl rfl rfl rfl ?_; simp only [putW]) | (refine loadAll hS rfl rfl rfl ?_ ?_; rfl; simp only [putW]) | (refine loadPart hS rfl rfl rfl ?_ rfl ?_; rfl; simp only [putW]) | (refine store1 hS rfl rfl rfl rfl rfl ?_ ?_; (focus (simp; done)); clear hS; intro w hS; simp only [evW, putW] at hS; try simp only [putW]) | (refine storeAll hS rfl rfl rfl rfl ?_ ?_ ?_ ?_; rfl; (focus (simp [Value.oneCell']; done)); rfl; clear hS; intro w hS; try simp only [putW]) | (refine storeN hS rfl rfl rfl rfl ?_ ?_ ?_ ?_; rfl; (focus (simp [Value.oneCell']; done)); (focus (simp; done)); clear hS; intro w hS; simp at hS; try simp only [putW]) | (refine alloc hS rfl rfl ?_; clear hS; intro mb w hS; simp only [putW]) | (refine box1 hS rfl rfl rfl rfl ?_; clear hS; intro mb w hS; try simp only [evW, putW] at hS; simp only [putW]) | (refine boxN hS rfl rfl rfl ?_; clear hS; intro mb w hS; simp only [putW]))
  go_ret
  exact ⟨rfl, hS⟩
set_option maxRecDepth 100000 in
set_option maxHeartbeats 1000000 in
theorem refLess_any {b : Bool} (hx : PlusF x) (hy : PlusF y) (hb : decide (rankF x < rankF y) = b) : Calls Try.prog 70 #[.float .f64 x, .float .f64 y] w0 fun e w' => e = .returned (.bool b) ∧ Sat w0 [] w' := by
  have hS := Sat.refl w0
  have h1 : (FloatKind.f64.format.order x x != some Ordering.eq) = false := by rw [order_self hx.1]; rfl
  have h2 : (FloatKind.f64.format.order y y != some Ordering.eq) = false := by rw [order_self hy.1]; rfl
  have hkz : ∀ {z : Nat}, PlusF z → (keyF z = keyF 0 ↔ z = 0) := fun {z} hz => by
    have e0 : keyF 0 = 0 := by decide
    rw [e0]
    have h3 := hz.2
    have h4 := hz.1.1
    unfold keyF
    split <;> omega
  have hz1 : (FloatKind.f64.format.order x 0 == some Ordering.eq) = decide (x = 0) := by
    have h3 := order_eq hx.1 numF_zero
    by_cases h : x = 0
    · rw [h3.2 ((hkz hx).2 h), decide_eq_true h]
      rfl
    · rw [decide_eq_false h]
      have : ¬ FloatKind.f64.format.order x 0 = some Ordering.eq := fun h' => h ((hkz hx).1 (h3.1 h'))
      simpa using this
  have hz2 : (FloatKind.f64.format.order y 0 == some Ordering.eq) = decide (y = 0) := by
    have h3 := order_eq hy.1 numF_zero
    by_cases h : y = 0
    · rw [h3.2 ((hkz hy).2 h), decide_eq_true h]
      rfl
    · rw [decide_eq_false h]
      have : ¬ FloatKind.f64.format.order y 0 = some Ordering.eq := fun h' => h ((hkz hy).1 (h3.1 h'))
      simpa using this
  have ho : (FloatKind.f64.format.order x y == some Ordering.lt) = b := by
    have h3 := order_lt hx.1 hy.1
    rw [← hb]
    by_cases h : keyF x < keyF y
    · rw [h3.2 h, decide_eq_true ((rank_key hx hy).2 h)]
      rfl
    · rw [decide_eq_false fun h' => h ((rank_key hx hy).1 h')]
      have : ¬ FloatKind.f64.format.order x y = some Ordering.lt := fun h' => h (h3.1 h')
      simpa using this
  by_cases h0 : x = 0 ∧ y = 0
  · obtain ⟨rfl, rfl⟩ := h0
    have hbf : b = false := by rw [← hb]; exact decide_eq_false (Int.lt_irrefl _)
    subst hbf
    clear hb hkz ho hz1 hz2 hx hy
    have hz : (FloatKind.f64.format.order 0 0 == some Ordering.eq) = true := by decide +kernel
    go_enter Try.func70, Try.ntmps70
    go_wp2_with (first | (go_at_call 85; refine Calls.mono (signbit_zero) ?_; rintro _ w2 ⟨rfl, h2⟩; replace hS := hS.frame h2; clear h2; (try simp only [List.cons_append, List.nil_append] at hS); simp only [putW]) | (refine load1 hS rfl rfl rfl rfl ?_; simp only [putW]) | (refine loadAll hS rfl rfl rfl ?_ ?_; rfl; simp only [putW]) | (refine loadPart hS rfl rfl rfl ?_ rfl ?_; rfl; simp only [putW]) | (refine store1 hS rfl rfl rfl rfl rfl ?_ ?_; (focus (simp; done)); clear hS; intro w hS; simp only [evW, putW] at hS; try simp only [putW]) | (refine storeAll hS rfl rfl rfl rfl ?_ ?_ ?_ ?_; rfl; (focus (simp [Value.oneCell']; done)); rfl; clear hS; intro w hS; try simp only [putW]) | (refine storeN hS rfl rfl rfl rfl ?_ ?_ ?_ ?_; rfl; (focus (simp [Value.oneCell']; done)); (focus (simp; done)); clear hS; intro w hS; simp at hS; try simp only [putW]) | (refine alloc hS rfl rfl ?_; clear hS; intro mb w hS; simp only [putW]) | (refine box1 hS rfl rfl rfl rfl ?_; clear hS; intro mb w hS; try simp only [evW, putW] at hS; simp only [putW]) | (refine boxN hS rfl rfl rfl ?_; clear hS; intro mb w hS; simp only [putW]))
    go_ret
    exact ⟨rfl, hS⟩
  · by_cases hx0 : x = 0
    · have hy0 : decide (y = 0) = false := decide_eq_false fun h => h0 ⟨hx0, h⟩
      rw [hy0] at hz2
      rw [decide_eq_true hx0] at hz1
      clear hb hkz hx hy hy0 h0 hx0
      go_enter Try.func70, Try.ntmps70
      go_wp2_with (first | (refine load1 hS rfl rfl rfl rfl ?_; simp only [putW]) | (refine loadAll hS rfl rfl rfl ?_ ?_; rfl; simp only [putW]) | (refine loadPart hS rfl rfl rfl ?_ rfl ?_; rfl; simp only [putW]) | (refine store1 hS rfl rfl rfl rfl rfl ?_ ?_; (focus (simp; done)); clear hS; intro w hS; simp only [evW, putW] at hS; try simp only [putW]) | (refine storeAll hS rfl rfl rfl rfl ?_ ?_ ?_ ?_; rfl; (focus (simp [Value.oneCell']; done)); rfl; clear hS; intro w hS; try simp only [putW]) | (refine storeN hS rfl rfl rfl rfl ?_ ?_ ?_ ?_; rfl; (focus (simp [Value.oneCell']; done)); (focus (simp; done)); clear hS; intro w hS; simp at hS; try simp only [putW]) | (refine alloc hS rfl rfl ?_; clear hS; intro mb w hS; simp only [putW]) | (refine box1 hS rfl rfl rfl rfl ?_; clear hS; intro mb w hS; try simp only [evW, putW] at hS; simp only [putW]) | (refine boxN hS rfl rfl rfl ?_; clear hS; intro mb w hS; simp only [putW]))
      go_ret
      exact ⟨rfl, hS⟩
    · rw [decide_eq_false hx0] at hz1
      clear hb hkz hx hy h0 hx0 hz2
      go_enter Try.func70, Try.ntmps70
      go_wp2_with (first | (refine load1 hS rfl rfl rfl rfl ?_; simp only [putW]) | (refine loadAll hS rfl rfl rfl ?_ ?_; rfl; simp only [putW]) | (refine loadPart hS rfl rfl rfl ?_ rfl ?_; rfl; simp only [putW]) | (refine store1 hS rfl rfl rfl rfl rfl ?_ ?_; (focus (simp; done)); clear hS; intro w hS; simp only [evW, putW] at hS; try simp only [putW]) | (refine storeAll hS rfl rfl rfl rfl ?_ ?_ ?_ ?_; rfl; (focus (simp [Value.oneCell']; done)); rfl; clear hS; intro w hS; try simp only [putW]) | (refine storeN hS rfl rfl rfl rfl ?_ ?_ ?_ ?_; rfl; (focus (simp [Value.oneCell']; done)); (focus (simp; done)); clear hS; intro w hS; simp at hS; try simp only [putW]) | (refine alloc hS rfl rfl ?_; clear hS; intro mb w hS; simp only [putW]) | (refine box1 hS rfl rfl rfl rfl ?_; clear hS; intro mb w hS; try simp only [evW, putW] at hS; simp only [putW]) | (refine boxN hS rfl rfl rfl ?_; clear hS; intro mb w hS; simp only [putW]))
      go_ret
      exact ⟨rfl, hS⟩
theorem refRight_any : Calls Try.prog 61 #[.float .f64 x] w0 fun e w' => e = .returned (.float .f64 (rightF x)) ∧ Sat w0 [] w' := by
  have hS := Sat.refl w0
  by_cases h1 : FloatKind.f64.format.order x x = some Ordering.eq
  · by_cases h2 : FloatKind.f64.format.order x 0 = some Ordering.eq
    · have hr : Bx (rightF x = 0) := ⟨by rw [rightF, if_pos h1, if_pos h2]⟩
      go_enter Try.func61, Try.ntmps61
      go_wp2_with (first | (refine load1 hS rfl rfl rfl rfl ?_; simp only [putW]) | (refine loadAll hS rfl rfl rfl ?_ ?_; rfl; simp only [putW]) | (refine loadPart hS rfl rfl rfl ?_ rfl ?_; rfl; simp only [putW]) | (refine store1 hS rfl rfl rfl rfl rfl ?_ ?_; (focus (simp; done)); clear hS; intro w hS; simp only [evW, putW] at hS; try simp only [putW]) | (refine storeAll hS rfl rfl rfl rfl ?_ ?_ ?_ ?_; rfl; (focus (simp [Value.oneCell']; done)); rfl; clear hS; intro w hS; try simp only [putW]) | (refine storeN hS rfl rfl rfl rfl ?_ ?_ ?_ ?_; rfl; (focus (simp [Value.oneCell']; done)); (focus (simp; done)); clear hS; intro w hS; simp at hS; try simp only [putW]) | (refine alloc hS rfl rfl ?_; clear hS; intro mb w hS; simp only [putW]) | (refine box1 hS rfl rfl rfl rfl ?_; clear hS; intro mb w hS; try simp only [evW, putW] at hS; simp only [putW]) | (refine boxN hS rfl rfl rfl ?_; clear hS; intro mb w hS; simp only [putW]))
      go_ret
      exact ⟨by rw [hr.out]; rfl, hS⟩
    · have hr : Bx (rightF x = x) := ⟨by rw [rightF, if_pos h1, if_neg h2]⟩
      have h3 : (FloatKind.f64.format.order x 0 == some Ordering.eq) = false := by simpa using h2
      go_enter Try.func61, Try.ntmps61
      go_wp2_with (first | (refine load1 hS rfl rfl rfl rfl ?_; simp only [putW]) | (refine loadAll hS rfl rfl rfl ?_ ?_; rfl; simp only [putW]) | (refine loadPart hS rfl rfl rfl ?_ rfl ?_; rfl; simp only [putW]) | (refine store1 hS rfl rfl rfl rfl rfl ?_ ?_; (focus (simp; done)); clear hS; intro w hS; simp only [evW, putW] at hS; try simp only [putW]) | (refine storeAll hS rfl rfl rfl rfl ?_ ?_ ?_ ?_; rfl; (focus (simp [Value.oneCell']; done)); rfl; clear hS; intro w hS; try simp only [putW]) | (refine storeN hS rfl rfl rfl rfl ?_ ?_ ?_ ?_; rfl; (focus (simp [Value.oneCell']; done)); (focus (simp; done)); clear hS; intro w hS; simp at hS; try simp only [putW]) | (refine alloc hS rfl rfl ?_; clear hS; intro mb w hS; simp only [putW]) | (refine box1 hS rfl rfl rfl rfl ?_; clear hS; intro mb w hS; try simp only [evW, putW] at hS; simp only [putW]) | (refine boxN hS rfl rfl rfl ?_; clear hS; intro mb w hS; simp only [putW]))
      go_ret
      exact ⟨by rw [hr.out]; rfl, hS⟩
  · have hr : Bx (rightF x = 0) := ⟨by rw [rightF, if_neg h1]⟩
    have h3 : (FloatKind.f64.format.order x x == some Ordering.eq) = false := by simpa using h1
    go_enter Try.func61, Try.ntmps61
    go_wp2_with (first | (refine load1 hS rfl rfl rfl rfl ?_; simp only [putW]) | (refine loadAll hS rfl rfl rfl ?_ ?_; rfl; simp only [putW]) | (refine loadPart hS rfl rfl rfl ?_ rfl ?_; rfl; simp only [putW]) | (refine store1 hS rfl rfl rfl rfl rfl ?_ ?_; (focus (simp; done)); clear hS; intro w hS; simp only [evW, putW] at hS; try simp only [putW]) | (refine storeAll hS rfl rfl rfl rfl ?_ ?_ ?_ ?_; rfl; (focus (simp [Value.oneCell']; done)); rfl; clear hS; intro w hS; try simp only [putW]) | (refine storeN hS rfl rfl rfl rfl ?_ ?_ ?_ ?_; rfl; (focus (simp [Value.oneCell']; done)); (focus (simp; done)); clear hS; intro w hS; simp at hS; try simp only [putW]) | (refine alloc hS rfl rfl ?_; clear hS; intro mb w hS; simp only [putW]) | (refine box1 hS rfl rfl rfl rfl ?_; clear hS; intro mb w hS; try simp only [evW, putW] at hS; simp only [putW]) | (refine boxN hS rfl rfl rfl ?_; clear hS; intro mb w hS; simp only [putW]))
    go_ret
    exact ⟨by rw [hr.out]; rfl, hS⟩
end
end Go.Proofs.Ytlkoclalcfeniaa
