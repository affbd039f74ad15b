/-
  thimbleref02: Copy, Num, Put; thimbleref03.Join.
-/
import Derived.Test.YtpbjkfomdindnaaGreatDoorTab
import Derived.Test.YtpbjkfomdindnaaGreatDoorSlB
import Derived.Test.YtpbjkfomdindnaaGreatDoorJPlain
set_option linter.unusedSimpArgs false
set_option linter.unusedVariables false
namespace Go.Proofs.YtpbjkfomdindnaaGreatDoor
open Go.RowKit Go.Proofs.YtpbjkfomdindnaaGreatDoor.Sl Go.Proofs.YtpbjkfomdindnaaGreatDoor.Jp

section
variable {w0 : World} {A : List Int} {va : Value}
set_option maxHeartbeats 400000 in
theorem copy_any (ha : RB w0 A va) (hb : A.length ≤ 100000000000000) : Calls Tryz.prog 86 #[va] w0 fun e w' => ∃ v, e = .returned v ∧ Sat w0 [(blk v, sl 1 by8 A 5 v)] w' := by
  have hS := Sat.refl w0
  obtain ⟨pa, ca, rfl, hla, hata⟩ := ha.at
  clear ha
  go_enter Tryz.func86, Tryz.ntmps86
  go_wp2_with (guard_target =~ wpList _ _ _ (Oper.mk (some 7) _ _ _ _ _ :: _) _ _; refine Stopped.out ?_)
  refine ⟨?_⟩
  refine makeLC hS rfl rfl 0 A.length rfl rfl 0 ?_ ?_ ?_ ?_
  · omega
  · omega
  · simp [maxLen]; omega
  clear hS
  intro mb w hS
  simp only [putW]
  rw [List.replicate_zero] at hS
  replace hS := hS.slOfSlc
  go_wp2_with (refine load1 hS rfl rfl rfl rfl ?_; simp only [putW])
  go_loopw [3, 4] (fun v i wr => ∃ k : Nat, k ≤ A.length ∧ i = .int .i64 k ∧ Sat w0 [(blk v, sl 1 by8 (A.take k) 5 v)] wr) (fun _ i _ => A.length - (intOf i).toNat)
  case atStart => exact ⟨0, Nat.zero_le _, rfl, hS⟩
  case round =>
    clear hS
    obtain ⟨k, hk, rfl, hS⟩ := hrel
    by_cases hlt : k < A.length
    · obtain ⟨x, hx⟩ : ∃ x, A[k]? = some x := ⟨_, List.getElem?_eq_getElem hlt⟩
      obtain ⟨ba, oa, rfl, hBa⟩ := hata (by intro e; subst e; simp at hlt)
      go_wp2_with (first | (refine loadB (f := by8) hS rfl rfl rfl hBa k 0 ?_ hx rfl ?_; omega; simp only [putW]) | (refine buildSlice1 (c := #[.int .u8 x]) hS rfl rfl rfl ?_ ?_ ?_ ?_; rfl; rfl; rfl; clear hS; intro mb w hS; simp only [putW]) | (refine append1 (f := by8) hS rfl rfl u3 rfl rfl x ?_ ?_ ?_ ?_ ?_ ?_; rfl; (focus (simp [by8, one, Value.oneCell']; done)); rfl; (focus (simp [maxLen]; omega)); (focus (simp [maxLen]; omega)); clear hS; intro v' w hS; simp only [putW]))
      rw [← take_get hx] at hS
      go_roundw
      case rel => exact ⟨k + 1, by omega, by go_num, hS⟩
      case measure => simp [intOf]; omega
    · go_wp2_with (refine load1 hS rfl rfl rfl rfl ?_; simp only [putW])
      go_ret
      rw [List.take_of_length_le (by omega)] at hS
      exact ⟨_, rfl, hS⟩

set_option maxHeartbeats 400000 in
theorem num_any (ha : RB w0 A va) (hb : A.length ≤ 8) : Calls Tryz.prog 31 #[va] w0 fun e w' => e = .returned (.int .u64 (num A)) ∧ Sat w0 [] w' := by
  have hS := Sat.refl w0
  have hall := ha.all
  obtain ⟨pa, ca, rfl, hla, hata⟩ := ha.at
  clear ha
  have hbd : ∀ k, 0 ≤ num (A.take k) ∧ num (A.take k) < 18446744073709551616 := fun k => by
    have h1 := num_lt (l := A.take k) fun b hb => hall b (List.mem_of_mem_take hb)
    refine ⟨h1.1, Int.lt_of_lt_of_le h1.2 ?_⟩
    have h2 : (A.take k).length ≤ 8 := by rw [List.length_take]; omega
    have h3 : (256 : Nat) ^ (A.take k).length ≤ 256 ^ 8 := Nat.pow_le_pow_right (by omega) h2
    have h4 := Int.ofNat_le.2 h3
    rw [Int.natCast_pow, Int.natCast_pow] at h4
    exact h4
  have Hbd : Hid _ := hbd
  clear hbd
  go_enter Tryz.func31, Tryz.ntmps31
  go_wp2
  go_loopw [3, 4] (fun n i wr => ∃ (k : Nat) (m : Int), k ≤ A.length ∧ i = .int .i64 k ∧ n = .int .u64 m ∧ Hid (m = num (A.take k)) ∧ Sat w0 [] wr) (fun _ i _ => A.length - (intOf i).toNat)
  case atStart => exact ⟨0, 0, Nat.zero_le _, rfl, rfl, rfl, hS⟩
  case round =>
    clear hS
    obtain ⟨k, m, hk, rfl, rfl, hm, hS⟩ := hrel
    by_cases hlt : k < A.length
    · obtain ⟨x, hx⟩ : ∃ x, A[k]? = some x := ⟨_, List.getElem?_eq_getElem hlt⟩
      obtain ⟨ba, oa, rfl, hBa⟩ := hata (by intro e; subst e; simp at hlt)
      have h1 := Hbd.out k
      have h2 := Hbd.out (k + 1)
      rw [← hm.out] at h1
      rw [num_take_succ hx, ← hm.out] at h2
      have h3 := hall x (List.mem_of_getElem? hx)
      unfold okByte at h3
      go_wp2_with (refine loadB (f := by8) hS rfl rfl rfl hBa k 0 ?_ hx rfl ?_; omega; simp only [putW])
      go_roundw
      case rel => exact ⟨k + 1, _, by omega, by go_num, rfl, by show _ = _; rw [num_take_succ hx, ← hm.out], hS⟩
      case measure => simp [intOf]; omega
    · go_wp2_with (refine load1 hS rfl rfl rfl rfl ?_; simp only [putW])
      go_ret
      have := hm.out
      rw [List.take_of_length_le (by omega)] at this
      exact ⟨by rw [← this]; rfl, hS⟩

/-- The bytes of a number, the least first. -/
def le (N k : Nat) : List Int := (List.range k).map fun j => ((N / 256 ^ j % 256 : Nat) : Int)
theorem le_succ (N k : Nat) : le N (k + 1) = le N k ++ [((N / 256 ^ k % 256 : Nat) : Int)] := by unfold le; rw [List.range_succ, List.map_append]; rfl
theorem le_get {N k j : Nat} (h : j < k) : (le N k)[j]? = some ((N / 256 ^ j % 256 : Nat) : Int) := by unfold le; simp [h]
theorem le_length (N k : Nat) : (le N k).length = k := by simp [le]
set_option maxHeartbeats 800000 in
theorem refPut_any (s N : Nat) (h1s : 1 ≤ s) (hs8 : s ≤ 8) (hN : N < 256 ^ s) (ha : RB w0 A va) (hb : A.length ≤ 100000000000) :
    Calls Tryz.prog 71 #[va, .int .u64 (N : Int), .int .i64 (s : Int)] w0 fun e w' => ∃ v, e = .returned (.tuple #[v, .int .i64 0]) ∧ Sat w0 [(blk v, sl 1 by8 (A ++ be s N) 5 v)] w' := by
  have hS := Sat.refl w0
  have hS1 := hS.slNil 1 by8 5
  have hax := ha
  have hN64 : N < 18446744073709551616 := Nat.lt_of_lt_of_le hN (Nat.le_trans (Nat.pow_le_pow_right (by omega) hs8) (by decide))
  have hN0 : Hid (N / 256 ^ s = 0) := Nat.div_eq_of_lt hN
  clear hN
  go_enter Tryz.func71, Tryz.ntmps71
  go_wp2
  go_loopw [8, 9, 1] (fun v i n wr => ∃ k M g : Nat, k ≤ s ∧ i = .int .i64 k ∧ n = .int .u64 (M : Int) ∧ Hid (M = N / 256 ^ k) ∧ Hid (M ≤ N) ∧ Sat w0 [(g, sl 1 by8 (le N k) 5 v)] wr) (fun _ i _ _ => s - (intOf i).toNat)
  case atStart => exact ⟨0, N, 0, Nat.zero_le _, rfl, rfl, by simp [Hid], Nat.le_refl _, hS1⟩
  case round =>
    clear hS hS1
    obtain ⟨k, M, g, hk, rfl, rfl, hM, hMN, hS⟩ := hrel
    have hM64 : M < 18446744073709551616 := Nat.lt_of_le_of_lt hMN.out hN64
    by_cases hlt : k < s
    · have hlen := le_length N k
      have Hlen : Hid _ := hlen
      have hle8 : (le N k).length ≤ 8 := by omega
      clear hlen
      go_wp2_with (first | (refine buildSlice1 (c := #[.int .u8 ((M : Int) % 256)]) hS rfl rfl rfl ?_ ?_ ?_ ?_; rfl; rfl; rfl; clear hS; intro mb w hS; simp only [putW]) | (refine append1 (f := by8) hS rfl rfl u8 rfl rfl ((M : Int) % 256) ?_ ?_ ?_ ?_ ?_ ?_; rfl; (focus (simp [by8, one, Value.oneCell']; done)); rfl; (focus (simp [maxLen]; omega)); (focus (omega)); clear hS; intro v' w hS; simp only [putW]))
      rw [show ((M : Int) % 256) = ((N / 256 ^ k % 256 : Nat) : Int) by rw [hM.out]; rfl, ← le_succ] at hS
      go_roundw
      case rel => exact ⟨k + 1, M / 256, _, by omega, by go_num, by simp, by show _ = _; rw [hM.out, Nat.div_div_eq_div_mul, ← Nat.pow_succ], Nat.le_trans (Nat.div_le_self _ _) hMN.out, hS⟩
      case measure => simp [intOf]; omega
    · have hks : k = s := by omega
      subst hks
      have hM0 : M = 0 := by rw [hM.out, hN0.out]
      subst hM0
      rcases hS.slCases with ⟨rfl, h, _⟩ | ⟨cap, rfl, hS2⟩
      · have := congrArg List.length h
        rw [le_length] at this
        simp at this; omega
      clear hS
      have hS := hS2
      clear hS2
      have hL := le_length N k
      have HL : Hid _ := hL
      rw [hL]
      clear hL
      go_wp2_with (go_at_call 86; refine Calls.mono (copy_any (hax.mono hS.base) (by omega)) ?_; rintro _ w2 ⟨vc, rfl, h2⟩; replace hS := hS.frame h2; clear h2; (try simp only [List.cons_append, List.nil_append] at hS); simp only [putW])
      go_loopw [10, 11] (fun v i wr => ∃ j : Nat, j ≤ k ∧ i = .int .i64 ((j : Int) - 1) ∧ ∃ L, Hid (L ++ be j N = A ++ be k N) ∧ Hid (L.length ≤ A.length + 8) ∧ Sat w0 [(blk v, sl 1 by8 L 5 v), (g, slc 1 by8 (le N k) cap 5)] wr) (fun _ i _ => ((intOf i) + 1).toNat)
      case atStart => exact ⟨k, Nat.le_refl _, rfl, A, rfl, by show A.length ≤ A.length + 8; omega, hS⟩
      case round =>
        clear hS
        obtain ⟨j, hj, rfl, L, hL, hLl, hS⟩ := hrel
        by_cases hlt2 : j = 0
        · subst hlt2
          go_wp2_with (refine load1 hS rfl rfl rfl rfl ?_; simp only [putW])
          go_ret2
          have e : L = A ++ be k N := by have := hL.out; simpa [be] using this
          exact ⟨u10, rfl, by rw [← e]; exact hS.conv⟩
        · obtain ⟨j, rfl⟩ : ∃ i, j = i + 1 := ⟨j - 1, by omega⟩
          have hL2 : L.length ≤ A.length + 8 := hLl.out
          have hx := le_get (N := N) (k := k) (j := j) (by omega)
          generalize hy : ((N / 256 ^ j % 256 : Nat) : Int) = y at hx
          have Hy : Hid _ := hy
          clear hy
          go_wp2_with (first | (refine loadS1 (v1 := Value.int .u8) hS rfl rfl rfl hx ?_; simp only [putW]) | (refine buildSlice1 (c := #[.int .u8 y]) hS rfl rfl rfl ?_ ?_ ?_ ?_; rfl; rfl; rfl; clear hS; intro mb w hS; simp only [putW]) | (refine append1 (f := by8) hS rfl rfl u10 rfl rfl y ?_ ?_ ?_ ?_ ?_ ?_; rfl; (focus (simp [by8, one, Value.oneCell']; done)); rfl; (focus (simp [maxLen]; omega)); (focus (omega)); clear hS; intro v' w hS; simp only [putW]))
          go_roundw
          case rel =>
            refine ⟨j, by omega, by go_num, _, ?_, ?_, hS⟩
            · show _ = _
              rw [← Hy.out, List.append_assoc]; exact hL.out
            · have := congrArg List.length hL.out
              show List.length _ ≤ _
              simp at this ⊢
              omega
          case measure => simp [intOf]

end
end Go.Proofs.YtpbjkfomdindnaaGreatDoor
