/-
  strconv.FormatUint at base 16: as many digits as it takes.
-/
import Derived.Test.YtpbjkfomdindnaaGreatDoorScK
import Derived.Laws.BitsAllLaws
set_option linter.unusedSimpArgs false
set_option linter.unusedVariables false
namespace Go.Proofs.YtpbjkfomdindnaaGreatDoor
open Go.RowKit Go.Shelf Go.Proofs.YtpbjkfomdindnaaGreatDoor.Sl Go.Proofs.YtpbjkfomdindnaaGreatDoor.Jp Go.Proofs.YtpbjkfomdindnaaGreatDoor.Sc

/-- The last k digits of base 16. -/
def lowD : Nat → Nat → Bs
  | 0, _ => []
  | k + 1, n => lowD k (n / 16) ++ [hexd (n % 16)]
theorem lowD_len : ∀ k n, (lowD k n).length = k
  | 0, _ => rfl
  | k + 1, n => by rw [lowD, List.length_append, lowD_len k]; rfl
theorem lowD_cons : ∀ k n, lowD (k + 1) n = hexd (n / 16 ^ k % 16) :: lowD k n
  | 0, n => by simp [lowD]
  | k + 1, n => by
    rw [lowD, lowD_cons k (n / 16), List.cons_append, Nat.div_div_eq_div_mul, Nat.pow_succ, Nat.mul_comm (16 ^ k)]
    rfl
theorem lowD_add : ∀ j k n, n < 16 ^ k → lowD (j + k) n = List.replicate j 48 ++ lowD k n
  | 0, k, n, _ => by simp
  | j + 1, k, n, h => by
    have h1 : n / 16 ^ (j + k) = 0 := Nat.div_eq_of_lt (Nat.lt_of_lt_of_le h (Nat.pow_le_pow_right (by decide) (by omega)))
    rw [show j + 1 + k = j + k + 1 by omega, lowD_cons, h1, lowD_add j k n h]
    rfl
theorem lowD_be : ∀ k n, lowD (2 * k) n = hexL (beL k n)
  | 0, n => rfl
  | k + 1, n => by
    rw [show 2 * (k + 1) = 2 * k + 1 + 1 by omega, lowD, lowD, beL, hexL_append, ← lowD_be k, Nat.div_div_eq_div_mul]
    simp only [hexL, Int.toNat_natCast, List.append_assoc, List.cons_append, List.nil_append]
    have e1 : n / 16 % 16 = n % 256 / 16 := by omega
    have e2 : n % 256 % 16 = n % 16 := by omega
    rw [e1, e2]
def digs36 : Bs := [48, 49, 50, 51, 52, 53, 54, 55, 56, 57, 97, 98, 99, 100, 101, 102, 103, 104, 105, 106, 107, 108, 109, 110, 111, 112, 113, 114, 115, 116, 117, 118, 119, 120, 121, 122]
theorem digs36_fin : ∀ r : Fin 16, digs36[r.val]? = some (hexd r.val) := by decide +kernel
theorem digs36_get {r : Nat} (h : r < 16) : digs36[r]? = some (hexd r) := digs36_fin ⟨r, h⟩
theorem and15_u64 {m : Nat} (h : m < 18446744073709551616) : bits .and .u64 (m : Int) 15 = ((m % 16 : Nat) : Int) := by
  have h1 := u64_and_nat m 15 h (by decide)
  have e : m &&& 15 = m % 16 := Nat.and_two_pow_sub_one_eq_mod m 4
  rw [e] at h1
  exact h1
abbrev c8 : UInt8 → Value := fun b => .int .u8 (b.toNat : Int)
section
variable {w0 w : World} {S F : List Chunk}
set_option maxRecDepth 100000 in
theorem trailing_any (hK : KV w0) : Calls Tryz.prog 118 #[.int .u64 16] w0 fun e w' => e = .returned (.int .i64 4) ∧ Sat w0 [] w' := by
  have hS := Sat.refl w0
  have hc := hK.tz
  clear hK
  have h1 : bits .and .u64 16 (IntKind.u64.wrap (-16)) = 16 := by decide +kernel
  have h2 : IntKind.u64.wrap (16 * 285870213051353865) / 288230376151711744 = 15 := by decide +kernel
  have h3 : IntKind.u64.wrap 4573923408821661840 / 288230376151711744 = 15 := by decide +kernel
  go_enter Tryz.func118, Tryz.ntmps118
  go_wp2_with (guard_target =~ Calls _ 127 _ _ _; refine Stopped.out ?_)
  refine ⟨?_⟩
  go_enter Tryz.func127, Tryz.ntmps127
  go_wp2_with (refine load1 hS rfl rfl rfl rfl ?_; simp only [putW])
  go_ret
  exact ⟨rfl, hS⟩
set_option maxRecDepth 100000 in
set_option maxHeartbeats 1000000 in
/-- internal/strconv.formatBits at base 16. -/
theorem formatBits_any (hK : KV w0) {n : Nat} (hn : n < 18446744073709551616) :
    Calls Tryz.prog 103 #[.slice none 0 0, .int .u64 (n : Int), .int .i64 16, .bool false, .bool false] w0 fun e w' => ∃ k, k ≤ 15 ∧ n < 16 ^ (k + 1) ∧ e = .returned (.tuple #[.slice none 0 0, str (lowD (k + 1) n)]) ∧ Sat w0 [] w' := by
  have hS := Sat.refl w0
  have HK : Bx _ := ⟨hK⟩
  clear hK
  go_enter Tryz.func103, Tryz.ntmps103
  go_wp2_with (first | (guard_target =~ Calls _ 118 _ _ _; refine Stopped.out ?_) | go_in | (refine alloc hS rfl rfl ?_; clear hS; intro mb w hS; simp only [putW]))
  refine ⟨?_⟩
  (refine Calls.mono (trailing_any (HK.out.mono hS.base)) ?_; rintro _ w2 ⟨rfl, h2⟩; replace hS := hS.frame h2; clear h2; (try simp only [List.cons_append, List.nil_append] at hS); simp only [putW])
  have e65 : List.replicate 65 (Value.int .u8 0) = (List.replicate 65 (0 : Int)).map (Value.int .u8) := by rw [List.map_replicate]
  rw [e65] at hS
  clear e65 HK
  go_wp2_with (refine load1 hS rfl rfl rfl rfl ?_; simp only [putW])
  have hp0 : n / 16 ^ 0 = n := by simp
  go_loopw [1, 13] (fun u i wr => ∃ (k j m : Nat) (L : List Int), 50 ≤ j ∧ j ≤ 65 ∧ m < 18446744073709551616 ∧ u = .int .u64 (m : Int) ∧ i = .int .i64 (j : Int) ∧ Bx (j + k = 65 ∧ m = n / 16 ^ k ∧ L = List.replicate j 0 ++ (lowD k n).map fun b => (b.toNat : Int)) ∧ Sat w0 [(mb, cells (L.map (Value.int .u8)).toArray 150)] wr) (fun u _ _ => (intOf u).toNat)
  case atStart => exact ⟨0, 65, n, _, by omega, by omega, hn, rfl, rfl, ⟨⟨rfl, hp0.symm, by simp [lowD]⟩⟩, hS⟩
  case round =>
    clear hS hp0
    obtain ⟨k, j, m, L, hj1, hj2, hm, rfl, rfl, hB, hS⟩ := hrel
    have ha := and15_u64 hm
    have hlen : L.length = 65 := by
      obtain ⟨h1, h2, h3⟩ := hB.out
      rw [h3, List.length_append, List.length_replicate, List.length_map, lowD_len, h1]
    obtain ⟨r, hr⟩ : ∃ r, m % 16 = r := ⟨_, rfl⟩
    have hr16 : r < 16 := by omega
    rw [hr] at ha
    have HR : Bx (m % 16 = r) := ⟨hr⟩
    have HL : Bx (L.length = 65) := ⟨hlen⟩
    clear hr hlen
    by_cases h16 : 16 ≤ m
    · go_wp2_with (first | (refine indexL (l := digs36) (n := r) (b := hexd r) rfl rfl rfl rfl Tryz.underlying9 ?_ ?_ ?_; (focus (omega)); (focus (exact digs36_get hr16)); simp only [putW]) | (refine storeAi (vv := Value.int .u8) hS rfl rfl rfl (j - 1) (((hexd r).toNat : Int)) ?_ rfl ?_ ?_ ?_; (focus (rfl)); (focus (omega)); (focus ((rw [HL.out]; omega))); clear hS; intro w hS; try simp only [putW]))
      go_roundw
      case rel =>
        obtain ⟨b1, b2, b3⟩ := hB.out
        have hk : k ≤ 14 := by
          rcases Nat.lt_or_ge k 15 with h | h
          · omega
          · have h1 : n / 16 ^ k ≤ n / 16 ^ 15 := Nat.div_le_div_left (Nat.pow_le_pow_right (by decide) h) (by decide)
            have h2 : n / 16 ^ 15 < 16 := by
              rw [Nat.div_lt_iff_lt_mul (by decide)]
              exact hn
            omega
        refine ⟨k + 1, j - 1, m / 16, _, by omega, by omega, by omega, by rw [Int.natCast_ediv]; rfl, by congr 1; omega, ⟨⟨by omega, ?_, ?_⟩⟩, hS⟩
        · rw [b2, Nat.div_div_eq_div_mul, Nat.pow_succ]
        · rw [lowD_cons, ← b2, HR.out, b3]
          obtain ⟨q, rfl⟩ : ∃ q, j = q + 1 := ⟨j - 1, by omega⟩
          rw [Nat.add_sub_cancel, List.set_append_left _ _ (by simp), List.replicate_succ', List.set_append_right _ _ (by simp)]
          simp
      case measure => simp only [intOf]; omega
    · go_wp2_with (first | (refine indexL (l := digs36) (n := m) (b := hexd m) rfl rfl rfl rfl Tryz.underlying9 ?_ ?_ ?_; (focus (rfl)); (focus (exact digs36_get (by omega))); simp only [putW]) | (refine storeAi (vv := Value.int .u8) hS rfl rfl rfl (j - 1) (((hexd m).toNat : Int)) ?_ rfl ?_ ?_ ?_; (focus (rfl)); (focus (omega)); (focus ((rw [HL.out]; omega))); clear hS; intro w hS; try simp only [putW]) | (guard_target =~ wpList _ _ _ (Oper.mk (some 100) _ _ _ _ _ :: _) _ _; refine Stopped.out ?_))
      refine ⟨?_⟩
      have hfin : ∃ L2 : List Int, Sat w0 [(mb, cells (L2.map (Value.int .u8)).toArray 150)] w ∧ Bx (L2.length = 65 ∧ L2.drop (j - 1) = numsOf (lowD (k + 1) n) ∧ ∀ x ∈ L2, okByte x) := by
        refine ⟨_, hS, ⟨?_, ?_, ?_⟩⟩
        · rw [List.length_set]; exact HL.out
        · obtain ⟨b1, b2, b3⟩ := hB.out
          have e : m % 16 = m := Nat.mod_eq_of_lt (by omega)
          rw [lowD_cons, ← b2, e, b3]
          obtain ⟨q, rfl⟩ : ∃ q, j = q + 1 := ⟨j - 1, by omega⟩
          rw [Nat.add_sub_cancel, List.set_append_left _ _ (by simp), List.replicate_succ', List.set_append_right _ _ (by simp)]
          simp [numsOf]
        · intro x hx
          rcases List.mem_or_eq_of_mem_set hx with h | h
          · rw [hB.out.2.2] at h
            rcases List.mem_append.1 h with h | h
            · rw [(List.mem_replicate.1 h).2]; exact ⟨by decide, by decide⟩
            · exact numsOf_ok _ x h
          · rw [h]
            have := (hexd m).toNat_lt
            exact ⟨by omega, by omega⟩
      clear hS
      obtain ⟨L2, hS, HF⟩ := hfin
      have hrb : RB w (numsOf (lowD (k + 1) n)) (.slice (some ⟨mb, j - 1, none⟩) (65 - (j - 1)) (65 - (j - 1))) := hS.readsArrTail (b := mb) (l := L2) HF.out.2.1 HF.out.1 (by omega) HF.out.2.2
      have HRb : Bx _ := ⟨hrb⟩
      clear hrb
      have hkn : Bx (k ≤ 15 ∧ n < 16 ^ (k + 1)) := ⟨by
        obtain ⟨b1, b2, b3⟩ := hB.out
        have hlt : n < 16 ^ (k + 1) := by
          have h1 : n / 16 ^ k < 16 := by omega
          have h2 := (Nat.div_lt_iff_lt_mul (Nat.pow_pos (by decide) : 0 < 16 ^ k)).1 h1
          rw [Nat.pow_succ, Nat.mul_comm]
          exact h2
        exact ⟨by omega, hlt⟩⟩
      clear hB HF
      go_wp2_with (first | (refine sliceArr (b := mb) (i := j - 1) (n := 65) rfl rfl rfl rfl Tryz.underlying150 ?_ ?_ ?_; (focus omega); (focus omega); simp only [putW]) | (refine convB rfl rfl rfl Tryz.underlying5 Tryz.underlying9 _ HRb.out ?_; simp only [putW]))
      exact bodyPost_ret (v := .tuple #[.slice none 0 0, str (lowD (k + 1) n)]) (by simp [results, Tryz.results103]) rfl ⟨k, hkn.out.1, hkn.out.2, rfl, hS.nothing⟩
/-- strconv.FormatUint at base 16. -/
theorem formatUint_any (hK : KV w0) {n : Nat} (hn : n < 18446744073709551616) :
    Calls Tryz.prog 79 #[.int .u64 (n : Int), .int .i64 16] w0 fun e w' => ∃ k, k ≤ 15 ∧ n < 16 ^ (k + 1) ∧ e = .returned (str (lowD (k + 1) n)) ∧ Sat w0 [] w' := by
  have hS := Sat.refl w0
  have HK : Bx _ := ⟨hK⟩
  clear hK
  go_enter Tryz.func79, Tryz.ntmps79
  go_wp2_with (guard_target =~ Calls _ 94 _ _ _; refine Stopped.out ?_)
  refine ⟨?_⟩
  go_enter Tryz.func94, Tryz.ntmps94
  go_wp2_with (guard_target =~ Calls _ 103 _ _ _; refine Stopped.out ?_)
  refine ⟨?_⟩
  (refine Calls.mono (formatBits_any (HK.out.mono hS.base) hn) ?_; rintro _ w2 ⟨k, hk1, hk2, rfl, h2⟩; replace hS := hS.frame h2; clear h2; (try simp only [List.cons_append, List.nil_append] at hS); simp only [putW])
  have Hk : Bx (k ≤ 15 ∧ n < 16 ^ (k + 1)) := ⟨hk1, hk2⟩
  clear hk1 hk2
  go_wp2_with (refine load1 hS rfl rfl rfl rfl ?_; simp only [putW])
  go_ret
  exact ⟨k, Hk.out.1, Hk.out.2, rfl, hS.nothing⟩
end
end Go.Proofs.YtpbjkfomdindnaaGreatDoor
