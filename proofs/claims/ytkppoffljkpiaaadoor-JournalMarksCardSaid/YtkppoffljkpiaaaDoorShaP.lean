/-
  thimbleref03.Padded.
-/
import Derived.Test.YtkppoffljkpiaaaDoorTab
import Derived.Test.YtkppoffljkpiaaaDoorSlRd
import Derived.Test.YtkppoffljkpiaaaDoorJPlain
namespace Go.Proofs.YtkppoffljkpiaaaDoor
open Go.RowKit Go.Proofs.YtkppoffljkpiaaaDoor.Sl Go.Proofs.YtkppoffljkpiaaaDoor.Jp

/-- How many zeros fill up. -/
def zc (n : Nat) : Nat := (119 - n % 64) % 64
def pad (A : List Int) : List Int := A ++ [128] ++ List.replicate (zc A.length) 0 ++ be 8 (8 * A.length)
theorem zc_lt {n j : Nat} (h : j ≤ zc n) : (n + 1 + j) % 64 ≠ 56 ↔ j < zc n := by unfold zc at *; omega
theorem zc_le (n : Nat) : zc n ≤ 63 := by unfold zc; omega

theorem byte_down {n k : Nat} (h : k < 8) : 8 * (n : Int) / 2 ^ (56 - 8 * k) % 256 = ((8 * n / 256 ^ (8 - (k + 1)) % 256 : Nat) : Int) := by
  rw [show 56 - 8 * k = 8 * (8 - (k + 1)) by omega, Int.pow_mul, show ((2 : Int) ^ 8) = ((256 : Nat) : Int) from rfl, ← Int.natCast_pow]
  rfl

section
variable {w0 : World} {A : List Int} {va : Value}
set_option maxHeartbeats 1000000 in
theorem padded_any (ha : RB w0 A va) (hb : A.length ≤ 100000000) : Calls Tryd.prog 26 #[va] w0 fun e w' => ∃ v, e = .returned v ∧ Sat w0 [(blk v, sl 1 by8 (pad A) 5 v)] w' := by
  have hS := Sat.refl w0
  have hax := ha
  obtain ⟨pa, ca, rfl, hla, hata⟩ := ha.at
  clear ha hata
  have hz := zc_le A.length
  go_enter Tryd.func26, Tryd.ntmps26
  go_wp2_with (first | (guard_target =~ wpList _ _ _ (Oper.mk (some 9) _ _ _ _ _ :: _) _ _; refine Stopped.out ?_) | (first | (refine load1 hS rfl rfl rfl rfl ?_; simp only [putW]) | (refine loadAll hS rfl rfl rfl ?_ ?_; rfl; simp only [putW]) | (refine loadPart hS rfl rfl rfl ?_ rfl ?_; rfl; simp only [putW]) | (refine store1 hS rfl rfl rfl rfl rfl ?_ ?_; (focus (simp; done)); clear hS; intro w hS; simp only [evW, putW] at hS; try simp only [putW]) | (refine storeAll hS rfl rfl rfl rfl ?_ ?_ ?_ ?_; rfl; (focus (simp [Value.oneCell']; done)); rfl; clear hS; intro w hS; try simp only [putW]) | (refine storeN hS rfl rfl rfl rfl ?_ ?_ ?_ ?_; rfl; (focus (simp [Value.oneCell']; done)); (focus (simp; done)); clear hS; intro w hS; simp at hS; try simp only [putW]) | (refine alloc hS rfl rfl ?_; clear hS; intro mb w hS; simp only [putW]) | (refine box1 hS rfl rfl rfl rfl ?_; clear hS; intro mb w hS; try simp only [evW, putW] at hS; simp only [putW]) | (refine boxN hS rfl rfl rfl ?_; clear hS; intro mb w hS; simp only [putW])))
  refine ⟨?_⟩
  refine makeLC hS rfl rfl 0 (A.length + 72) rfl rfl 0 ?_ ?_ ?_ ?_
  · omega
  · omega
  · simp [maxLen]; omega
  clear hS
  intro mb w hS
  simp only [putW]
  rw [List.replicate_zero] at hS
  replace hS := hS.slOfSlc
  go_wp2_with (first | (refine appendB (f := by8) hS rfl rfl (.slice (some ⟨mb, 0, none⟩) 0 (A.length + 72)) rfl rfl A (hax.mono hS.base) ?_ ?_ ?_ ?_; (focus (simp [one, Value.oneCell']; done)); (focus (first | omega | (simp [maxLen]; done) | (simp [maxLen]; omega))); (focus (first | omega | (simp [maxLen]; done) | (simp [maxLen]; omega))); clear hS; intro v' w hS; simp only [putW]) | (guard_target =~ wpList _ _ _ (Oper.mk (some 14) _ _ _ _ _ :: _) _ _; refine Stopped.out ?_) | (refine load1 hS rfl rfl rfl rfl ?_; simp only [putW]) | (refine loadAll hS rfl rfl rfl ?_ ?_; rfl; simp only [putW]) | (refine loadPart hS rfl rfl rfl ?_ rfl ?_; rfl; simp only [putW]) | (refine store1 hS rfl rfl rfl rfl rfl ?_ ?_; (focus (simp; done)); clear hS; intro w hS; simp only [evW, putW] at hS; try simp only [putW]) | (refine storeAll hS rfl rfl rfl rfl ?_ ?_ ?_ ?_; rfl; (focus (simp [Value.oneCell']; done)); rfl; clear hS; intro w hS; try simp only [putW]) | (refine storeN hS rfl rfl rfl rfl ?_ ?_ ?_ ?_; rfl; (focus (simp [Value.oneCell']; done)); (focus (simp; done)); clear hS; intro w hS; simp at hS; try simp only [putW]) | (refine alloc hS rfl rfl ?_; clear hS; intro mb w hS; simp only [putW]) | (refine box1 hS rfl rfl rfl rfl ?_; clear hS; intro mb w hS; try simp only [evW, putW] at hS; simp only [putW]) | (refine boxN hS rfl rfl rfl ?_; clear hS; intro mb w hS; simp only [putW]))
  refine ⟨?_⟩
  rw [List.nil_append] at hS
  go_wp2_with (first | (refine buildSlice1 (c := #[.int .u8 128]) hS rfl rfl rfl ?_ ?_ ?_ ?_; rfl; rfl; rfl; clear hS; intro mb w hS; simp only [putW]) | (refine append1 (f := by8) hS rfl rfl v' rfl rfl 128 ?_ ?_ ?_ ?_ ?_ ?_; rfl; (focus (simp [by8, one, Value.oneCell']; done)); rfl; (focus (first | omega | (simp [maxLen]; done) | (simp [maxLen]; omega))); (focus (first | omega | (simp [maxLen]; done) | (simp [maxLen]; omega))); clear hS; intro v' w hS; simp only [putW]) | (refine load1 hS rfl rfl rfl rfl ?_; simp only [putW]) | (refine loadAll hS rfl rfl rfl ?_ ?_; rfl; simp only [putW]) | (refine loadPart hS rfl rfl rfl ?_ rfl ?_; rfl; simp only [putW]) | (refine store1 hS rfl rfl rfl rfl rfl ?_ ?_; (focus (simp; done)); clear hS; intro w hS; simp only [evW, putW] at hS; try simp only [putW]) | (refine storeAll hS rfl rfl rfl rfl ?_ ?_ ?_ ?_; rfl; (focus (simp [Value.oneCell']; done)); rfl; clear hS; intro w hS; try simp only [putW]) | (refine storeN hS rfl rfl rfl rfl ?_ ?_ ?_ ?_; rfl; (focus (simp [Value.oneCell']; done)); (focus (simp; done)); clear hS; intro w hS; simp at hS; try simp only [putW]) | (refine alloc hS rfl rfl ?_; clear hS; intro mb w hS; simp only [putW]) | (refine box1 hS rfl rfl rfl rfl ?_; clear hS; intro mb w hS; try simp only [evW, putW] at hS; simp only [putW]) | (refine boxN hS rfl rfl rfl ?_; clear hS; intro mb w hS; simp only [putW]))
  go_loopw [3] (fun v wr => ∃ j : Nat, Hid (j ≤ zc A.length) ∧ Sat w0 [(blk v, sl 1 by8 (A ++ [128] ++ List.replicate j 0) 5 v)] wr) (fun v _ => A.length + 1 + zc A.length - sLen v)
  case atStart => exact ⟨0, Nat.zero_le _, by rw [List.replicate_zero, List.append_nil]; exact hS⟩
  case round =>
    clear hS
    obtain ⟨j, hj, hS⟩ := hrel
    have hj2 := hj.out
    have hjl : (A ++ [128] ++ List.replicate j 0).length = A.length + 1 + j := by simp; omega
    have HJL : Hid _ := hjl
    obtain ⟨ga, ca2, rfl, hS2⟩ := hS.slForm (A.length + 1 + j) hjl (by omega)
    clear hS hjl
    have hS := hS2
    clear hS2
    have hiff := zc_lt hj2
    by_cases hlt : j < zc A.length
    · have hmod := hiff.2 hlt
      have hmI : ¬ (((A.length : Int) + 1 + j) % 64 = 56) := by omega
      clear hiff hmod
      go_wp2_with (first | (refine buildSlice1 (c := #[.int .u8 0]) hS rfl rfl rfl ?_ ?_ ?_ ?_; rfl; rfl; rfl; clear hS; intro mb w hS; simp only [putW]) | (refine append1 (f := by8) hS rfl rfl (.slice (some ⟨ga, 0, none⟩) (A.length + 1 + j) ca2) rfl rfl 0 ?_ ?_ ?_ ?_ ?_ ?_; rfl; (focus (simp [by8, one, Value.oneCell']; done)); rfl; (focus (first | omega | (simp [maxLen]; done) | (simp [maxLen]; omega))); (focus (first | omega | (simp [maxLen]; done) | (simp [maxLen]; omega))); clear hS; intro v' w hS; simp only [putW]) | (refine load1 hS rfl rfl rfl rfl ?_; simp only [putW]) | (refine loadAll hS rfl rfl rfl ?_ ?_; rfl; simp only [putW]) | (refine loadPart hS rfl rfl rfl ?_ rfl ?_; rfl; simp only [putW]) | (refine store1 hS rfl rfl rfl rfl rfl ?_ ?_; (focus (simp; done)); clear hS; intro w hS; simp only [evW, putW] at hS; try simp only [putW]) | (refine storeAll hS rfl rfl rfl rfl ?_ ?_ ?_ ?_; rfl; (focus (simp [Value.oneCell']; done)); rfl; clear hS; intro w hS; try simp only [putW]) | (refine storeN hS rfl rfl rfl rfl ?_ ?_ ?_ ?_; rfl; (focus (simp [Value.oneCell']; done)); (focus (simp; done)); clear hS; intro w hS; simp at hS; try simp only [putW]) | (refine alloc hS rfl rfl ?_; clear hS; intro mb w hS; simp only [putW]) | (refine box1 hS rfl rfl rfl rfl ?_; clear hS; intro mb w hS; try simp only [evW, putW] at hS; simp only [putW]) | (refine boxN hS rfl rfl rfl ?_; clear hS; intro mb w hS; simp only [putW]))
      have hll := hS.slLen (α := Int) (v := v')
      have Hll : Hid _ := hll
      clear hll
      rw [show A ++ [128] ++ List.replicate j 0 ++ [0] = A ++ [128] ++ List.replicate (j + 1) 0 by rw [List.append_assoc _ (List.replicate j 0), ← List.replicate_succ']] at hS
      go_roundw
      case rel => exact ⟨j + 1, by show _ ≤ _; omega, hS⟩
      case measure =>
        have h7 := Hll.out
        simp at h7
        show A.length + 1 + zc A.length - sLen v' < A.length + 1 + zc A.length - (A.length + 1 + j)
        rw [h7]; omega
    · have hmod : ¬ ((A.length + 1 + j) % 64 ≠ 56) := mt hiff.1 hlt
      have hmI : ((A.length : Int) + 1 + j) % 64 = 56 := by omega
      have hjz : j = zc A.length := by omega
      clear hiff hmod
      subst hjz
      go_wp2_with (first | (refine load1 hS rfl rfl rfl rfl ?_; simp only [putW]) | (refine loadAll hS rfl rfl rfl ?_ ?_; rfl; simp only [putW]) | (refine loadPart hS rfl rfl rfl ?_ rfl ?_; rfl; simp only [putW]) | (refine store1 hS rfl rfl rfl rfl rfl ?_ ?_; (focus (simp; done)); clear hS; intro w hS; simp only [evW, putW] at hS; try simp only [putW]) | (refine storeAll hS rfl rfl rfl rfl ?_ ?_ ?_ ?_; rfl; (focus (simp [Value.oneCell']; done)); rfl; clear hS; intro w hS; try simp only [putW]) | (refine storeN hS rfl rfl rfl rfl ?_ ?_ ?_ ?_; rfl; (focus (simp [Value.oneCell']; done)); (focus (simp; done)); clear hS; intro w hS; simp at hS; try simp only [putW]) | (refine alloc hS rfl rfl ?_; clear hS; intro mb w hS; simp only [putW]) | (refine box1 hS rfl rfl rfl rfl ?_; clear hS; intro mb w hS; try simp only [evW, putW] at hS; simp only [putW]) | (refine boxN hS rfl rfl rfl ?_; clear hS; intro mb w hS; simp only [putW]))
      go_loopw [3, 5] (fun v i wr => ∃ k : Nat, k ≤ 8 ∧ i = .int .i64 (k : Int) ∧ ∃ L, Hid (L ++ be (8 - k) (8 * A.length) = pad A) ∧ Hid (L.length ≤ A.length + 80) ∧ Sat w0 [(blk v, sl 1 by8 L 5 v)] wr) (fun _ i _ => 8 - (intOf i).toNat)
      case atStart => exact ⟨0, Nat.zero_le _, rfl, _, rfl, by show List.length _ ≤ _; rw [HJL.out]; omega, hS⟩
      case round =>
        clear hS
        obtain ⟨k, hk, rfl, L, hL, hLl, hS⟩ := hrel
        have hL2 := hLl.out
        by_cases hlt2 : k < 8
        · go_wp2_with (first | (refine buildSlice1 (c := #[.int .u8 (8 * (A.length : Int) / 2 ^ (56 - 8 * k) % 256)]) hS rfl rfl rfl ?_ ?_ ?_ ?_; rfl; rfl; rfl; clear hS; intro mb w hS; simp only [putW]) | (refine append1 (f := by8) hS rfl rfl u3 rfl rfl (8 * (A.length : Int) / 2 ^ (56 - 8 * k) % 256) ?_ ?_ ?_ ?_ ?_ ?_; rfl; (focus (simp [by8, one, Value.oneCell']; done)); rfl; (focus (first | omega | (simp [maxLen]; done) | (simp [maxLen]; omega))); (focus (first | omega | (simp [maxLen]; done) | (simp [maxLen]; omega))); clear hS; intro v' w hS; simp only [putW]) | (refine load1 hS rfl rfl rfl rfl ?_; simp only [putW]) | (refine loadAll hS rfl rfl rfl ?_ ?_; rfl; simp only [putW]) | (refine loadPart hS rfl rfl rfl ?_ rfl ?_; rfl; simp only [putW]) | (refine store1 hS rfl rfl rfl rfl rfl ?_ ?_; (focus (simp; done)); clear hS; intro w hS; simp only [evW, putW] at hS; try simp only [putW]) | (refine storeAll hS rfl rfl rfl rfl ?_ ?_ ?_ ?_; rfl; (focus (simp [Value.oneCell']; done)); rfl; clear hS; intro w hS; try simp only [putW]) | (refine storeN hS rfl rfl rfl rfl ?_ ?_ ?_ ?_; rfl; (focus (simp [Value.oneCell']; done)); (focus (simp; done)); clear hS; intro w hS; simp at hS; try simp only [putW]) | (refine alloc hS rfl rfl ?_; clear hS; intro mb w hS; simp only [putW]) | (refine box1 hS rfl rfl rfl rfl ?_; clear hS; intro mb w hS; try simp only [evW, putW] at hS; simp only [putW]) | (refine boxN hS rfl rfl rfl ?_; clear hS; intro mb w hS; simp only [putW]))
          go_roundw
          case rel =>
            refine ⟨k + 1, by omega, by go_num, _, ?_, ?_, hS⟩
            · show _ = _
              rw [byte_down (by omega), List.append_assoc]
              have h8 := hL.out
              rw [show 8 - k = (8 - (k + 1)) + 1 by omega] at h8
              exact h8
            · have h9 := congrArg List.length hL.out
              show List.length _ ≤ _
              simp [pad] at h9 ⊢
              omega
          case measure => first | (simp [intOf]; done) | (simp [intOf]; omega)
        · have hk8 : k = 8 := by omega
          subst hk8
          go_wp2_with (first | (refine load1 hS rfl rfl rfl rfl ?_; simp only [putW]) | (refine loadAll hS rfl rfl rfl ?_ ?_; rfl; simp only [putW]) | (refine loadPart hS rfl rfl rfl ?_ rfl ?_; rfl; simp only [putW]) | (refine store1 hS rfl rfl rfl rfl rfl ?_ ?_; (focus (simp; done)); clear hS; intro w hS; simp only [evW, putW] at hS; try simp only [putW]) | (refine storeAll hS rfl rfl rfl rfl ?_ ?_ ?_ ?_; rfl; (focus (simp [Value.oneCell']; done)); rfl; clear hS; intro w hS; try simp only [putW]) | (refine storeN hS rfl rfl rfl rfl ?_ ?_ ?_ ?_; rfl; (focus (simp [Value.oneCell']; done)); (focus (simp; done)); clear hS; intro w hS; simp at hS; try simp only [putW]) | (refine alloc hS rfl rfl ?_; clear hS; intro mb w hS; simp only [putW]) | (refine box1 hS rfl rfl rfl rfl ?_; clear hS; intro mb w hS; try simp only [evW, putW] at hS; simp only [putW]) | (refine boxN hS rfl rfl rfl ?_; clear hS; intro mb w hS; simp only [putW]))
          go_ret
          have e : L = pad A := by have := hL.out; simpa [be] using this
          exact ⟨_, rfl, by rw [← e]; exact hS⟩
end
end Go.Proofs.YtkppoffljkpiaaaDoor
