/-
  Numbers of 64 bits: half of one; their order by their bits. It names no program.
  Numbers of 64 bits: their order by their bits. It names no program.
  Numbers of 64 bits: halved again and again. It names no program.
-/
import Derived.Laws.FloatArith
set_option linter.unusedSimpArgs false
set_option linter.unusedVariables false
namespace Go.Proofs.YtpbjkfomdindnaaGreatDoor.Sl
open Go

/-- Half of a whole number, by ties to the even one. -/
def halfN (m : Nat) : Nat := m / 2 + if m % 2 = 1 ∧ m / 2 % 2 = 1 then 1 else 0
/-- Half of a number, by its bits. -/
def halfF (x : Nat) : Nat := if 9218868437227405312 ≤ x % 9223372036854775808 then x else if 2 ≤ x % 9223372036854775808 / 4503599627370496 then x - 4503599627370496 else x / 9223372036854775808 * 9223372036854775808 + halfN (x % 9223372036854775808)
theorem d_bin : Ieee.double.binade = 4503599627370496 := by decide
theorem d_sig : Ieee.double.signWeight = 9223372036854775808 := by decide
theorem d_inf : Ieee.double.infRung = 9218868437227405312 := by decide
theorem d_least : Ieee.double.leastPlace = -1074 := by decide
theorem d_frac : Ieee.double.fractionBits = 52 := rfl
theorem read_eq (x : Nat) : Ieee.double.read x = if x % 9223372036854775808 < 4503599627370496 then .number (x / 9223372036854775808 % 2 == 1) (x % 9223372036854775808) (-1074)
    else if x % 9223372036854775808 < 9218868437227405312 then .number (x / 9223372036854775808 % 2 == 1) (4503599627370496 + x % 9223372036854775808 % 4503599627370496) (-1074 + (x % 9223372036854775808 / 4503599627370496 - 1 : Nat))
    else if x % 9223372036854775808 = 9218868437227405312 then .infinity (x / 9223372036854775808 % 2 == 1) else .nan (x / 9223372036854775808 % 2 == 1) (x % 9223372036854775808 - 9218868437227405312) := by
  unfold Ieee.Format.read
  rw [d_bin, d_sig, d_inf, d_least]
theorem read_two : Ieee.double.read 4611686018427387904 = .number false 4503599627370496 (-51) := by
  rw [read_eq]
  decide
theorem log_52 : Nat.log2 4503599627370496 = 52 := (Nat.log2_eq_iff (by decide)).2 (by decide)
/-- The word of a sign and a rung. -/
theorem word_eq (b : Bool) (r : Nat) : Ieee.double.word b r = (if b then 9223372036854775808 else 0) + r := by
  unfold Ieee.Format.word
  rw [d_sig]
  cases b <;> simp
/-- A quotient by two, ahead of its rounding. -/
theorem quot_two (s : Bool) (m : Nat) (i : Int) (L : Nat) (hL : m.log2 = L) (h52 : L ≤ 52) : (Ieee.Datum.number s m i).quotient 54 (.number false 4503599627370496 (-51)) = some (.number s (m * 2 ^ (55 - L)) (i - 56 + L)) := by
  unfold Ieee.Datum.quotient
  simp only [log_52, hL]
  rw [if_neg (by decide)]
  have e1 : m <<< (54 + 52 - L) = m * 2 ^ (54 - L) * 4503599627370496 := by
    rw [Nat.shiftLeft_eq, show 54 + 52 - L = (54 - L) + 52 by omega, Nat.pow_add, Nat.mul_assoc]
  rw [e1, Nat.mul_div_cancel _ (by decide), Nat.mul_mod_left]
  have e2 : 2 * (m * 2 ^ (54 - L)) + ((0 : Nat) != 0).toNat = m * 2 ^ (55 - L) := by
    rw [show 55 - L = (54 - L) + 1 by omega, Nat.pow_succ]
    have : ((0 : Nat) != 0).toNat = 0 := rfl
    rw [this, Nat.add_zero, Nat.mul_left_comm, Nat.mul_comm 2]
  rw [e2]
  have e3 : (i - -51 - ((54 + 52 - L : Nat) : Int) - 1) = i - 56 + L := by omega
  rw [e3]
  simp
theorem log_up {m L : Nat} (hm : m ≠ 0) (hL : m.log2 = L) (h52 : L ≤ 52) : (m * 2 ^ (55 - L)).log2 = 55 := by
  obtain ⟨h1, h2⟩ := (Nat.log2_eq_iff hm).1 hL
  have hp : 0 < 2 ^ (55 - L) := Nat.two_pow_pos _
  refine (Nat.log2_eq_iff (Nat.mul_ne_zero hm (by omega))).2 ⟨?_, ?_⟩
  · have : 2 ^ 55 = 2 ^ L * 2 ^ (55 - L) := by rw [← Nat.pow_add]; congr 1; omega
    rw [this]
    exact Nat.mul_le_mul_right _ h1
  · have : 2 ^ (55 + 1) = 2 ^ (L + 1) * 2 ^ (55 - L) := by rw [← Nat.pow_add]; congr 1; omega
    rw [this]
    exact (Nat.mul_lt_mul_right hp).2 h2
/-- The rounding: a normal number. -/
theorem near_normal (s : Bool) (m : Nat) (i : Int) (hL : m.log2 = 52) (hm : m ≠ 0) (hi : -1074 ≤ i - 1) (hb : (i - 1 + 1074).toNat * 4503599627370496 + m ≤ 9218868437227405312) : Ieee.double.nearest s (m * 2 ^ (55 - 52)) (i - 56 + (52 : Nat)) = Ieee.double.word s ((i - 1 + 1074).toNat * 4503599627370496 + m) := by
  unfold Ieee.Format.nearest
  rw [if_neg (Nat.mul_ne_zero hm (by decide))]
  simp only [log_up hm hL (Nat.le_refl _), d_frac, d_least, d_bin, d_inf]
  have e1 : max (i - 56 + ((52 : Nat) : Int) + ((55 : Nat) : Int) - ((52 : Nat) : Int)) (-1074) = i - 1 := by omega
  rw [e1]
  have e2 : (i - 56 + ((52 : Nat) : Int) - (i - 1)).toNat = 0 := by omega
  have e3 : (i - 1 - (i - 56 + ((52 : Nat) : Int))).toNat = 3 := by omega
  rw [e2, e3, Nat.shiftLeft_zero]
  have e4 : Ieee.Toward.even.cut s (m * 2 ^ (55 - 52)) 3 = m := by
    unfold Ieee.Toward.cut
    rw [log_up hm hL (Nat.le_refl _)]
    simp only
    have g : 1 <<< min 3 (55 + 2) = 8 := by decide
    rw [g, show (2 : Nat) ^ (55 - 52) = 8 by decide, Nat.mul_div_cancel _ (by decide), Nat.mul_mod_left]
    simp
  rw [e4, show (i - 1 - -1074).toNat = (i - 1 + 1074).toNat by omega, Nat.min_eq_left hb]
/-- .. a small one. -/
theorem near_small (s : Bool) (m L : Nat) (hL : m.log2 = L) (hm : m ≠ 0) (h52 : L ≤ 52) (hb : halfN m ≤ 9218868437227405312) : Ieee.double.nearest s (m * 2 ^ (55 - L)) (-1074 - 56 + L) = Ieee.double.word s (halfN m) := by
  unfold Ieee.Format.nearest
  rw [if_neg (Nat.mul_ne_zero hm (by have := Nat.two_pow_pos (55 - L); omega))]
  simp only [log_up hm hL h52, d_frac, d_least, d_bin, d_inf]
  have e1 : max (-1074 - 56 + (L : Int) + ((55 : Nat) : Int) - ((52 : Nat) : Int)) (-1074) = -1074 := by omega
  rw [e1]
  have e2 : (-1074 - 56 + (L : Int) - (-1074)).toNat = 0 := by omega
  have e3 : (-1074 - (-1074 - 56 + (L : Int))).toNat = 56 - L := by omega
  have e5 : (-1074 - (-1074) : Int).toNat = 0 := by decide
  rw [e2, e3, e5, Nat.shiftLeft_zero, Nat.zero_mul, Nat.zero_add]
  have e4 : Ieee.Toward.even.cut s (m * 2 ^ (55 - L)) (56 - L) = halfN m := by
    unfold Ieee.Toward.cut
    rw [log_up hm hL h52]
    simp only
    have g : 1 <<< min (56 - L) (55 + 2) = 2 * 2 ^ (55 - L) := by
      rw [Nat.min_eq_left (by omega), Nat.one_shiftLeft, show 56 - L = (55 - L) + 1 by omega, Nat.pow_succ, Nat.mul_comm]
    have hp : 0 < 2 ^ (55 - L) := Nat.two_pow_pos _
    rw [g, Nat.mul_div_mul_right _ _ hp, Nat.mul_mod_mul_right]
    obtain ⟨p, hpp⟩ : ∃ p, 2 ^ (55 - L) = p := ⟨_, rfl⟩
    rw [hpp] at hp ⊢
    unfold halfN
    rcases Nat.mod_two_eq_zero_or_one m with h | h
    · rw [h]
      simp
      omega
    · rw [h]
      have h3 : ¬ 2 * p < 2 * (1 * p) := by omega
      have h4 : 2 * p = 2 * (1 * p) := by omega
      by_cases h5 : m / 2 % 2 = 1
      · simp [h5]
      · simp [h5]
  rw [e4, Nat.min_eq_left hb]
theorem halfN_le (m : Nat) : halfN m ≤ m := by
  unfold halfN
  split
  · omega
  · omega
theorem sign_eq {x : Nat} (hx : x < 18446744073709551616) : (if (x / 9223372036854775808 % 2 == 1) = true then 9223372036854775808 else 0) = x / 9223372036854775808 * 9223372036854775808 := by
  have h : x / 9223372036854775808 = 0 ∨ x / 9223372036854775808 = 1 := by omega
  rcases h with h | h <;> rw [h] <;> rfl
/-- Half of a number is its quotient by two. -/
theorem div_two {x : Nat} (hx : x < 18446744073709551616) (hn : x % 9223372036854775808 ≤ 9218868437227405312) : floatBits .quo .f64 x 4611686018427387904 = some (halfF x) := by
  show Ieee.double.div x 4611686018427387904 = _
  unfold Ieee.Format.div
  rw [read_two, d_frac]
  rw [read_eq]
  have hs := sign_eq hx
  have hxs : x / 9223372036854775808 * 9223372036854775808 + x % 9223372036854775808 = x := Nat.div_add_mod' _ _
  obtain ⟨s, hse⟩ : ∃ s, (x / 9223372036854775808 % 2 == 1) = s := ⟨_, rfl⟩
  rw [hse] at hs ⊢
  unfold halfF
  obtain ⟨r, hr⟩ : ∃ r, x % 9223372036854775808 = r := ⟨_, rfl⟩
  rw [hr] at hn hxs ⊢
  by_cases h1 : r < 4503599627370496
  · rw [if_pos h1, if_neg (by omega), if_neg (by omega)]
    by_cases h0 : r = 0
    · subst h0
      rw [show 52 + 2 = 54 from rfl, quot_two s 0 (-1074) 0 (by decide) (by decide)]
      show some (Ieee.double.nearest s (0 * 2 ^ (55 - 0)) _) = _
      rw [Nat.zero_mul]
      unfold Ieee.Format.nearest
      rw [if_pos rfl, word_eq, hs]
      rfl
    · have hl : r.log2 ≤ 52 := by
        have := (Nat.log2_lt h0 (k := 52)).2 (by omega)
        omega
      rw [show 52 + 2 = 54 from rfl, quot_two s r (-1074) r.log2 rfl hl]
      show some (Ieee.double.nearest s _ _) = _
      rw [near_small s r r.log2 rfl h0 hl (by have := halfN_le r; omega), word_eq, hs]
  · rw [if_neg h1]
    by_cases h2 : r < 9218868437227405312
    · rw [if_pos h2, if_neg (by omega)]
      obtain ⟨e, he⟩ : ∃ e, r / 4503599627370496 = e := ⟨_, rfl⟩
      obtain ⟨f, hf⟩ : ∃ f, r % 4503599627370496 = f := ⟨_, rfl⟩
      have hr2 : e * 4503599627370496 + f = r := by rw [← he, ← hf]; exact Nat.div_add_mod' _ _
      have hf2 : f < 4503599627370496 := by rw [← hf]; exact Nat.mod_lt _ (by decide)
      rw [he, hf]
      have hm : 4503599627370496 + f ≠ 0 := by omega
      have p52 : (2 : Nat) ^ 52 = 4503599627370496 := by decide
      have p53 : (2 : Nat) ^ (52 + 1) = 9007199254740992 := by decide
      have hL : (4503599627370496 + f).log2 = 52 := (Nat.log2_eq_iff hm).2 (by rw [p52, p53]; omega)
      clear p52 p53
      rw [show 52 + 2 = 54 from rfl, quot_two s (4503599627370496 + f) _ 52 hL (Nat.le_refl _)]
      show some (Ieee.double.nearest s _ _) = _
      by_cases h3 : 2 ≤ e
      · rw [if_pos h3, near_normal s (4503599627370496 + f) _ hL hm (by omega) (by omega), word_eq, hs]
        refine congrArg some ?_
        have h7 : (-1074 + ((e - 1 : Nat) : Int) - 1 + 1074).toNat = e - 2 := by omega
        obtain ⟨S, hS⟩ : ∃ S, x / 9223372036854775808 * 9223372036854775808 = S := ⟨_, rfl⟩
        rw [h7, hS]
        rw [hS] at hxs
        clear h7 hS hs hr he hf hse hL hm hx hn h1 h2
        omega
      · have he1 : e = 1 := by omega
        subst he1
        rw [if_neg h3]
        have e9 : 4503599627370496 + f = r := by omega
        rw [e9] at hL hm ⊢
        have e8 : (-1074 + ((1 - 1 : Nat) : Int)) = -1074 := by decide
        rw [e8, near_small s r 52 hL hm (Nat.le_refl _) (by have := halfN_le r; omega), word_eq, hs]
    · have h3 : r = 9218868437227405312 := by omega
      rw [if_neg h2, if_pos h3, if_pos (by omega)]
      show some (Ieee.double.word (s ^^ false) Ieee.double.infRung) = _
      rw [d_inf, Bool.xor_false, word_eq, hs]
      refine congrArg some ?_
      omega
end Go.Proofs.YtpbjkfomdindnaaGreatDoor.Sl
namespace Go.Proofs.YtpbjkfomdindnaaGreatDoor.Sl
open Go

/-- A number's place among all (the zeros are one). -/
def keyF (x : Nat) : Int := if x < 9223372036854775808 then (x : Int) else -((x : Int) - 9223372036854775808)
/-- It is a number. -/
def NumF (x : Nat) : Prop := x < 18446744073709551616 ∧ x % 9223372036854775808 ≤ 9218868437227405312
/-- How great a rung is. -/
def rungU (r : Nat) : Nat := if r < 4503599627370496 then r else (4503599627370496 + r % 4503599627370496) * 2 ^ (r / 4503599627370496 - 1)
theorem rungU_eq {r e f : Nat} (h : r = e * 4503599627370496 + f) (hf : f < 4503599627370496) (he : e ≠ 0) : rungU r = (4503599627370496 + f) * 2 ^ (e - 1) := by
  unfold rungU
  rw [if_neg (by omega), show r % 4503599627370496 = f by omega, show r / 4503599627370496 = e by omega]
theorem rungU_mono {r q : Nat} (h : r < q) : rungU r < rungU q := by
  by_cases h1 : q < 4503599627370496
  · unfold rungU
    rw [if_pos (by omega), if_pos h1]
    exact h
  · obtain ⟨e2, he2⟩ : ∃ e, q / 4503599627370496 = e := ⟨_, rfl⟩
    obtain ⟨f2, hf2⟩ : ∃ f, q % 4503599627370496 = f := ⟨_, rfl⟩
    have hq : q = e2 * 4503599627370496 + f2 := by omega
    have hf2l : f2 < 4503599627370496 := by omega
    rw [rungU_eq hq hf2l (by omega)]
    have hp2 : 0 < 2 ^ (e2 - 1) := Nat.two_pow_pos _
    by_cases h2 : r < 4503599627370496
    · unfold rungU
      rw [if_pos h2]
      have : (4503599627370496 + f2) * 1 ≤ (4503599627370496 + f2) * 2 ^ (e2 - 1) := Nat.mul_le_mul_left _ hp2
      omega
    · obtain ⟨e1, he1⟩ : ∃ e, r / 4503599627370496 = e := ⟨_, rfl⟩
      obtain ⟨f1, hf1⟩ : ∃ f, r % 4503599627370496 = f := ⟨_, rfl⟩
      have hr : r = e1 * 4503599627370496 + f1 := by omega
      have hf1l : f1 < 4503599627370496 := by omega
      rw [rungU_eq hr hf1l (by omega)]
      have hp1 : 0 < 2 ^ (e1 - 1) := Nat.two_pow_pos _
      by_cases h3 : e1 = e2
      · subst h3
        exact (Nat.mul_lt_mul_right hp1).2 (by omega)
      · have h4 : e1 < e2 := by omega
        have h5 : 2 ^ (e2 - 1) = 2 ^ (e2 - e1 - 1) * (2 * 2 ^ (e1 - 1)) := by
          rw [← Nat.pow_succ', ← Nat.pow_add]
          congr 1
          omega
        have h6 : 0 < 2 ^ (e2 - e1 - 1) := Nat.two_pow_pos _
        rw [h5]
        have h7 : (4503599627370496 + f1) * 2 ^ (e1 - 1) < (4503599627370496 + f2) * (2 * 2 ^ (e1 - 1)) := by
          rw [← Nat.mul_assoc]
          exact (Nat.mul_lt_mul_right hp1).2 (by omega)
        refine Nat.lt_of_lt_of_le h7 ?_
        exact Nat.mul_le_mul_left _ (Nat.le_mul_of_pos_left _ h6)
theorem rungU_le {r q : Nat} : rungU r < rungU q ↔ r < q := by
  constructor
  · intro h
    rcases Nat.lt_trichotomy r q with h1 | h1 | h1
    · exact h1
    · rw [h1] at h; omega
    · have := rungU_mono h1; omega
  · exact rungU_mono
theorem rungU_inj {r q : Nat} : rungU r = rungU q ↔ r = q := by
  constructor
  · intro h
    rcases Nat.lt_trichotomy r q with h1 | h1 | h1
    · have := rungU_mono h1; omega
    · exact h1
    · have := rungU_mono h1; omega
  · intro h; rw [h]
/-- A finite number. -/
theorem read_fin {x : Nat} (hr : x % 9223372036854775808 < 9218868437227405312) : ∃ (m a : Nat), Ieee.double.read x = .number (x / 9223372036854775808 % 2 == 1) m (-1074 + (a : Int)) ∧ m * 2 ^ a = rungU (x % 9223372036854775808) := by
  rw [read_eq]
  by_cases h1 : x % 9223372036854775808 < 4503599627370496
  · rw [if_pos h1]
    exact ⟨_, 0, rfl, by unfold rungU; rw [if_pos h1, Nat.pow_zero, Nat.mul_one]⟩
  · rw [if_neg h1, if_pos hr]
    exact ⟨_, _, rfl, by unfold rungU; rw [if_neg h1]⟩
theorem compare_mul (A B : Int) {P : Int} (hP : 0 < P) : compare (A * P) (B * P) = compare A B := by
  show compareOfLessAndEq _ _ = compareOfLessAndEq _ _
  unfold compareOfLessAndEq
  have h1 : A * P < B * P ↔ A < B := Int.mul_lt_mul_right hP
  have h2 : A * P = B * P ↔ A = B := ⟨fun h => Int.eq_of_mul_eq_mul_right (by omega) h, fun h => by rw [h]⟩
  simp only [h1, h2]
theorem signed_mul (s : Bool) (m k c : Nat) : Ieee.signed s m k * ((2 ^ c : Nat) : Int) = if s then -((m * 2 ^ (k + c) : Nat) : Int) else ((m * 2 ^ (k + c) : Nat) : Int) := by
  unfold Ieee.signed
  rw [Nat.shiftLeft_eq, Nat.pow_add, ← Nat.mul_assoc]
  cases s
  · simp
  · simp [Int.neg_mul]
/-- The value of a finite number, in least parts. -/
def valU (x : Nat) : Int := if x / 9223372036854775808 % 2 == 1 then -(rungU (x % 9223372036854775808) : Int) else (rungU (x % 9223372036854775808) : Int)
theorem order_fin {x y : Nat} (hx : x % 9223372036854775808 < 9218868437227405312) (hy : y % 9223372036854775808 < 9218868437227405312) : FloatKind.f64.format.order x y = some (compare (valU x) (valU y)) := by
  show Ieee.double.order x y = _
  unfold Ieee.Format.order
  obtain ⟨m, a, h1, h2⟩ := read_fin hx
  obtain ⟨n, b, h3, h4⟩ := read_fin hy
  rw [h1, h3]
  show some (compare _ _) = _
  refine congrArg some ?_
  have hP : (0 : Int) < ((2 ^ (min a b) : Nat) : Int) := by
    have := Nat.two_pow_pos (min a b)
    omega
  rw [← compare_mul _ _ hP, signed_mul, signed_mul]
  have ha : (-1074 + (a : Int) - min (-1074 + (a : Int)) (-1074 + (b : Int))).toNat + min a b = a := by omega
  have hb : (-1074 + (b : Int) - min (-1074 + (a : Int)) (-1074 + (b : Int))).toNat + min a b = b := by omega
  rw [ha, hb, h2, h4]
  rfl
theorem sign_lt {x : Nat} (hx : x < 18446744073709551616) : (x / 9223372036854775808 % 2 == 1) = decide (9223372036854775808 ≤ x) := by
  by_cases h : 9223372036854775808 ≤ x
  · have : x / 9223372036854775808 = 1 := by omega
    rw [this, decide_eq_true h]
    rfl
  · have : x / 9223372036854775808 = 0 := by omega
    rw [this, decide_eq_false h]
    rfl
theorem read_inf {x : Nat} (h : x % 9223372036854775808 = 9218868437227405312) : Ieee.double.read x = .infinity (x / 9223372036854775808 % 2 == 1) := by
  rw [read_eq, h, if_neg (by decide), if_neg (by decide), if_pos rfl]
theorem read_nan {x : Nat} (h : 9218868437227405312 < x % 9223372036854775808) : ∃ b n, Ieee.double.read x = .nan b n := by
  rw [read_eq, if_neg (by omega), if_neg (by omega), if_neg (by omega)]
  exact ⟨_, _, rfl⟩
theorem order_nan {x y : Nat} (h : 9218868437227405312 < x % 9223372036854775808) : FloatKind.f64.format.order x y = none := by
  show Ieee.double.order x y = _
  unfold Ieee.Format.order
  obtain ⟨b, n, hr⟩ := read_nan h
  rw [hr]
  cases Ieee.double.read y <;> rfl
theorem cmp_lt {A B : Int} (h : A < B) : compare A B = Ordering.lt := by
  show compareOfLessAndEq _ _ = _
  unfold compareOfLessAndEq
  rw [if_pos h]
theorem cmp_eq {A B : Int} (h : A = B) : compare A B = Ordering.eq := by
  show compareOfLessAndEq _ _ = _
  unfold compareOfLessAndEq
  rw [if_neg (by omega), if_pos h]
theorem cmp_gt {A B : Int} (h : B < A) : compare A B = Ordering.gt := by
  show compareOfLessAndEq _ _ = _
  unfold compareOfLessAndEq
  rw [if_neg (by omega), if_neg (by omega)]
theorem keyF_eq {x : Nat} (hx : x < 18446744073709551616) : keyF x = if 9223372036854775808 ≤ x then -((x % 9223372036854775808 : Nat) : Int) else ((x % 9223372036854775808 : Nat) : Int) := by
  unfold keyF
  by_cases h : 9223372036854775808 ≤ x
  · rw [if_neg (by omega), if_pos h]
    have : x % 9223372036854775808 = x - 9223372036854775808 := by omega
    rw [this]
    omega
  · rw [if_pos (by omega), if_neg h]
    have : x % 9223372036854775808 = x := by omega
    rw [this]
/-- Numbers stand to each other as their places. -/
theorem order_key {x y : Nat} (hx : NumF x) (hy : NumF y) : FloatKind.f64.format.order x y = some (compare (keyF x) (keyF y)) := by
  obtain ⟨hx1, hx2⟩ := hx
  obtain ⟨hy1, hy2⟩ := hy
  rw [keyF_eq hx1, keyF_eq hy1]
  have sx := sign_lt hx1
  have sy := sign_lt hy1
  obtain ⟨r, hr⟩ : ∃ r, x % 9223372036854775808 = r := ⟨_, rfl⟩
  obtain ⟨q, hq⟩ : ∃ q, y % 9223372036854775808 = q := ⟨_, rfl⟩
  by_cases h1 : x % 9223372036854775808 = 9218868437227405312
  · show Ieee.double.order x y = _
    unfold Ieee.Format.order
    rw [read_inf h1, sx]
    by_cases h2 : y % 9223372036854775808 = 9218868437227405312
    · rw [read_inf h2, sy, h1, h2]
      show some (compare (decide (9223372036854775808 ≤ y)).toNat (decide (9223372036854775808 ≤ x)).toNat) = _
      by_cases b1 : 9223372036854775808 ≤ x <;> by_cases b2 : 9223372036854775808 ≤ y <;> simp only [b1, b2, decide_true, decide_false, if_true, if_false] <;> decide
    · obtain ⟨n, b, h3, h4⟩ := read_fin (x := y) (by omega)
      rw [h3, h1, hq]
      show some (if decide (9223372036854775808 ≤ x) = true then Ordering.lt else Ordering.gt) = _
      refine congrArg some ?_
      have hq2 : q < 9218868437227405312 := by omega
      by_cases b1 : 9223372036854775808 ≤ x
      · rw [if_pos (by simpa using b1), if_pos b1, cmp_lt]
        split <;> omega
      · rw [if_neg (by simpa using b1), if_neg b1, cmp_gt]
        split <;> omega
  · by_cases h2 : y % 9223372036854775808 = 9218868437227405312
    · show Ieee.double.order x y = _
      unfold Ieee.Format.order
      obtain ⟨n, b, h3, h4⟩ := read_fin (x := x) (by omega)
      rw [h3, read_inf h2, sy, h2, hr]
      show some (if decide (9223372036854775808 ≤ y) = true then Ordering.gt else Ordering.lt) = _
      refine congrArg some ?_
      have hr2 : r < 9218868437227405312 := by omega
      by_cases b1 : 9223372036854775808 ≤ y
      · rw [if_pos (by simpa using b1), if_pos b1, cmp_gt]
        split <;> omega
      · rw [if_neg (by simpa using b1), if_neg b1, cmp_lt]
        split <;> omega
    · rw [order_fin (by omega) (by omega)]
      unfold valU
      rw [sx, sy, hr, hq]
      refine congrArg some ?_
      have z0 : rungU 0 = 0 := rfl
      have zr : r ≠ 0 → 0 < rungU r := fun h => by have := rungU_mono (r := 0) (q := r) (by omega); omega
      have zq : q ≠ 0 → 0 < rungU q := fun h => by have := rungU_mono (r := 0) (q := q) (by omega); omega
      have zr0 : r = 0 → rungU r = 0 := fun h => by rw [h]; rfl
      have zq0 : q = 0 → rungU q = 0 := fun h => by rw [h]; rfl
      have l1 := rungU_le (r := r) (q := q)
      have l2 := rungU_le (r := q) (q := r)
      obtain ⟨R, hR⟩ : ∃ R, rungU r = R := ⟨_, rfl⟩
      obtain ⟨Q, hQ⟩ : ∃ Q, rungU q = Q := ⟨_, rfl⟩
      rw [hR] at zr zr0 l1 l2 ⊢
      rw [hQ] at zq zq0 l1 l2 ⊢
      by_cases b1 : 9223372036854775808 ≤ x <;> by_cases b2 : 9223372036854775808 ≤ y <;> simp only [b1, b2, decide_true, decide_false, if_true, if_false, Bool.false_eq_true]
      all_goals
        rcases Nat.lt_trichotomy r q with t | t | t
        all_goals
          first
            | (rw [cmp_eq (by omega), cmp_eq (by omega)])
            | (rw [cmp_lt (by omega), cmp_lt (by omega)])
            | (rw [cmp_gt (by omega), cmp_gt (by omega)])
            | (by_cases hr0 : r = 0 <;> by_cases hq0 : q = 0 <;> first | (rw [cmp_eq (by omega), cmp_eq (by omega)]) | (rw [cmp_lt (by omega), cmp_lt (by omega)]) | (rw [cmp_gt (by omega), cmp_gt (by omega)]))
end Go.Proofs.YtpbjkfomdindnaaGreatDoor.Sl
namespace Go.Proofs.YtpbjkfomdindnaaGreatDoor.Sl
open Go

theorem half_split {x : Nat} (hx : NumF x) : ∃ q, halfF x = x / 9223372036854775808 * 9223372036854775808 + q ∧ q ≤ x % 9223372036854775808 := by
  obtain ⟨h1, h2⟩ := hx
  unfold halfF
  have hxs : x / 9223372036854775808 * 9223372036854775808 + x % 9223372036854775808 = x := Nat.div_add_mod' _ _
  obtain ⟨S, hS⟩ : ∃ S, x / 9223372036854775808 * 9223372036854775808 = S := ⟨_, rfl⟩
  obtain ⟨r, hr⟩ : ∃ r, x % 9223372036854775808 = r := ⟨_, rfl⟩
  rw [hS, hr] at hxs ⊢
  by_cases a : 9218868437227405312 ≤ r
  · rw [if_pos a]
    exact ⟨r, by omega, Nat.le_refl _⟩
  · rw [if_neg a]
    by_cases b : 2 ≤ r / 4503599627370496
    · rw [if_pos b]
      exact ⟨r - 4503599627370496, by omega, by omega⟩
    · rw [if_neg b]
      exact ⟨halfN r, rfl, halfN_le r⟩
theorem numF_half {x : Nat} (hx : NumF x) : NumF (halfF x) := by
  obtain ⟨q, h1, h2⟩ := half_split hx
  obtain ⟨h3, h4⟩ := hx
  rw [h1]
  unfold NumF
  omega
theorem keyF_half {x : Nat} (hx : NumF x) : keyF (halfF x) = keyF x ↔ halfF x = x := by
  obtain ⟨q, h1, h2⟩ := half_split hx
  obtain ⟨h3, h4⟩ := hx
  constructor
  · intro h
    unfold keyF at h
    by_cases a : x < 9223372036854775808
    · rw [if_pos a, if_pos (by omega)] at h
      omega
    · rw [if_neg a, if_neg (by omega)] at h
      omega
  · intro h
    rw [h]
theorem order_self {x : Nat} (hx : NumF x) : FloatKind.f64.format.order x x = some Ordering.eq := by rw [order_key hx hx, cmp_eq rfl]
theorem order_eq {x y : Nat} (hx : NumF x) (hy : NumF y) : FloatKind.f64.format.order x y = some Ordering.eq ↔ keyF x = keyF y := by
  rw [order_key hx hy]
  rcases Int.lt_trichotomy (keyF x) (keyF y) with h | h | h
  · rw [cmp_lt h]
    constructor
    · intro h'; cases h'
    · intro h'; omega
  · rw [cmp_eq h]
    exact ⟨fun _ => h, fun _ => rfl⟩
  · rw [cmp_gt h]
    constructor
    · intro h'; cases h'
    · intro h'; omega
theorem order_lt {x y : Nat} (hx : NumF x) (hy : NumF y) : FloatKind.f64.format.order x y = some Ordering.lt ↔ keyF x < keyF y := by
  rw [order_key hx hy]
  rcases Int.lt_trichotomy (keyF x) (keyF y) with h | h | h
  · rw [cmp_lt h]
    exact ⟨fun _ => h, fun _ => rfl⟩
  · rw [cmp_eq h]
    constructor
    · intro h'; cases h'
    · intro h'; omega
  · rw [cmp_gt h]
    constructor
    · intro h'; cases h'
    · intro h'; omega
theorem order_half {x : Nat} (hx : NumF x) : FloatKind.f64.format.order (halfF x) x = some Ordering.eq ↔ halfF x = x := by rw [order_eq (numF_half hx) hx, keyF_half hx]
def fadeF : Nat → Nat → Nat
  | 0, x => x
  | n + 1, x => fadeF n (halfF x)
theorem fadeF_fix {x : Nat} (h : halfF x = x) : ∀ n, fadeF n x = x
  | 0 => rfl
  | n + 1 => by rw [fadeF, h, fadeF_fix h n]
theorem numF_fade : ∀ (n : Nat) {x : Nat}, NumF x → NumF (fadeF n x)
  | 0, _, h => h
  | n + 1, _, h => numF_fade n (numF_half h)
theorem numF_zero : NumF 0 := by unfold NumF; omega
theorem numF_or {x : Nat} (hx : x < 18446744073709551616) : NumF x ∨ 9218868437227405312 < x % 9223372036854775808 := by
  unfold NumF
  omega
end Go.Proofs.YtpbjkfomdindnaaGreatDoor.Sl
