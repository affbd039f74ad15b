/-
  thimbleref02: Copy, Num, Put; thimbleref03.Join.
-/
import Derived.Test.YtlkoclalcfeniaaTab
import Derived.Test.YtlkoclalcfeniaaSlB
import Derived.Test.YtlkoclalcfeniaaJPlain
set_option linter.unusedSimpArgs false
set_option linter.unusedVariables false
namespace Go.Proofs.Ytlkoclalcfeniaa
open Go.RowKit Go.Proofs.Ytlkoclalcfeniaa.Sl Go.Proofs.Ytlkoclalcfeniaa.Jp

section
variable {w0 : World} {A : List Int} {va : Value}
set_option maxHeartbeats 400000 in
theorem copy_any (ha : RB w0 A va) (hb : A.length ≤ 100000000000000) : Calls Try.prog 43 #[va] w0 fun e w' => ∃ v, e = .returned v ∧ Sat w0 [(blk v, sl 1 by8 A 5 v)] w' := by
  have hS := Sat.refl w0
  obtain ⟨pa, ca, rfl, hla, hata⟩ := ha.at
  clear ha
  go_enter Try.func43, Try.ntmps43
  go_wp2_with (first | (guard_target =~ wpList _ _ _ (Oper.mk (some 7) _ _ _ _ _ :: _) _ _; refine Stopped.out ?_) | (first | (refine load1 hS rfl rfl rfl rfl ?_; simp only [putW]) | (refine loadAll hS rfl rfl rfl ?_ ?_; rfl; simp only [putW]) | (refine loadPart hS rfl rfl rfl ?_ rfl ?_; rfl; simp only [putW]) | (refine store1 hS rfl rfl rfl rfl rfl ?_ ?_; (focus (simp; done)); clear hS; intro w hS; simp only [evW, putW] at hS; try simp only [putW]) | (refine storeAll hS rfl rfl rfl rfl ?_ ?_ ?_ ?_; rfl; (focus (simp [Value.oneCell']; done)); rfl; clear hS; intro w hS; try simp only [putW]) | (refine storeN hS rfl rfl rfl rfl ?_ ?_ ?_ ?_; rfl; (focus (simp [Value.oneCell']; done)); (focus (simp; done)); clear hS; intro w hS; simp at hS; try simp only [putW]) | (refine alloc hS rfl rfl ?_; clear hS; intro mb w hS; simp only [putW]) | (refine box1 hS rfl rfl rfl rfl ?_; clear hS; intro mb w hS; try simp only [evW, putW] at hS; simp only [putW]) | (refine boxN hS rfl rfl rfl ?_; clear hS; intro mb w hS; simp only [putW])))
  refine ⟨?_⟩
  refine makeLC hS rfl rfl 0 A.length rfl rfl 0 ?_ ?_ ?_ ?_
  · omega
  · omega
  · simp [maxLen]; omega
  clear hS
  intro mb w hS
  simp only [putW]
  rw [List.replicate_zero] at hS
  replace hS := hS.slOfSlc
  go_wp2_with (first | (refine load1 hS rfl rfl rfl rfl ?_; simp only [putW]) | (refine loadAll hS rfl rfl rfl ?_ ?_; rfl; simp only [putW]) | (refine loadPart hS rfl rfl rfl ?_ rfl ?_; rfl; simp only [putW]) | (refine store1 hS rfl rfl rfl rfl rfl ?_ ?_; (focus (simp; done)); clear hS; intro w hS; simp only [evW, putW] at hS; try simp only [putW]) | (refine storeAll hS rfl rfl rfl rfl ?_ ?_ ?_ ?_; rfl; (focus (simp [Value.oneCell']; done)); rfl; clear hS; intro w hS; try simp only [putW]) | (refine storeN hS rfl rfl rfl rfl ?_ ?_ ?_ ?_; rfl; (focus (simp [Value.oneCell']; done)); (focus (simp; done)); clear hS; intro w hS; simp at hS; try simp only [putW]) | (refine alloc hS rfl rfl ?_; clear hS; intro mb w hS; simp only [putW]) | (refine box1 hS rfl rfl rfl rfl ?_; clear hS; intro mb w hS; try simp only [evW, putW] at hS; simp only [putW]) | (refine boxN hS rfl rfl rfl ?_; clear hS; intro mb w hS; simp only [putW]))
  go_loopw [3, 4] (fun v i wr => ∃ k : Nat, k ≤ A.length ∧ i = .int .i64 k ∧ Sat w0 [(blk v, sl 1 by8 (A.take k) 5 v)] wr) (fun _ i _ => A.length - (intOf i).toNat)
  case atStart => exact ⟨0, Nat.zero_le _, rfl, hS⟩
  case round =>
    clear hS
    obtain ⟨k, hk, rfl, hS⟩ := hrel
    by_cases hlt : k < A.length
    · obtain ⟨x, hx⟩ : ∃ x, A[k]? = some x := ⟨_, List.getElem?_eq_getElem hlt⟩
      obtain ⟨ba, oa, rfl, hBa⟩ := hata (by intro e; subst e; simp at hlt)
      go_wp2_with (first | (refine loadB (f := by8) hS rfl rfl rfl hBa k 0 ?_ hx rfl ?_; omega; simp only [putW]) | (refine buildSlice1 (c := #[.int .u8 x]) hS rfl rfl rfl ?_ ?_ ?_ ?_; rfl; rfl; rfl; clear hS; intro mb w hS; simp only [putW]) | (refine append1 (f := by8) hS rfl rfl u3 rfl rfl x ?_ ?_ ?_ ?_ ?_ ?_; rfl; (focus (simp [by8, one, Value.oneCell']; done)); rfl; (focus (first | omega | (simp [maxLen]; done) | (simp [maxLen]; omega))); (focus (first | omega | (simp [maxLen]; done) | (simp [maxLen]; omega))); clear hS; intro v' w hS; simp only [putW]) | (refine load1 hS rfl rfl rfl rfl ?_; simp only [putW]) | (refine loadAll hS rfl rfl rfl ?_ ?_; rfl; simp only [putW]) | (refine loadPart hS rfl rfl rfl ?_ rfl ?_; rfl; simp only [putW]) | (refine store1 hS rfl rfl rfl rfl rfl ?_ ?_; (focus (simp; done)); clear hS; intro w hS; simp only [evW, putW] at hS; try simp only [putW]) | (refine storeAll hS rfl rfl rfl rfl ?_ ?_ ?_ ?_; rfl; (focus (simp [Value.oneCell']; done)); rfl; clear hS; intro w hS; try simp only [putW]) | (refine storeN hS rfl rfl rfl rfl ?_ ?_ ?_ ?_; rfl; (focus (simp [Value.oneCell']; done)); (focus (simp; done)); clear hS; intro w hS; simp at hS; try simp only [putW]) | (refine alloc hS rfl rfl ?_; clear hS; intro mb w hS; simp only [putW]) | (refine box1 hS rfl rfl rfl rfl ?_; clear hS; intro mb w hS; try simp only [evW, putW] at hS; simp only [putW]) | (refine boxN hS rfl rfl rfl ?_; clear hS; intro mb w hS; simp only [putW]))
      rw [← take_get hx] at hS
      go_roundw
      case rel => exact ⟨k + 1, by omega, by go_num, hS⟩
      case measure => simp [intOf]; omega
    · go_wp2_with (first | (refine load1 hS rfl rfl rfl rfl ?_; simp only [putW]) | (refine loadAll hS rfl rfl rfl ?_ ?_; rfl; simp only [putW]) | (refine loadPart hS rfl rfl rfl ?_ rfl ?_; rfl; simp only [putW]) | (refine store1 hS rfl rfl rfl rfl rfl ?_ ?_; (focus (simp; done)); clear hS; intro w hS; simp only [evW, putW] at hS; try simp only [putW]) | (refine storeAll hS rfl rfl rfl rfl ?_ ?_ ?_ ?_; rfl; (focus (simp [Value.oneCell']; done)); rfl; clear hS; intro w hS; try simp only [putW]) | (refine storeN hS rfl rfl rfl rfl ?_ ?_ ?_ ?_; rfl; (focus (simp [Value.oneCell']; done)); (focus (simp; done)); clear hS; intro w hS; simp at hS; try simp only [putW]) | (refine alloc hS rfl rfl ?_; clear hS; intro mb w hS; simp only [putW]) | (refine box1 hS rfl rfl rfl rfl ?_; clear hS; intro mb w hS; try simp only [evW, putW] at hS; simp only [putW]) | (refine boxN hS rfl rfl rfl ?_; clear hS; intro mb w hS; simp only [putW]))
      go_ret
      rw [List.take_of_length_le (by omega)] at hS
      exact ⟨_, rfl, hS⟩

/-- The bytes of a number, the least first. -/
def le (N k : Nat) : List Int := (List.range k).map fun j => ((N / 256 ^ j % 256 : Nat) : Int)
theorem le_succ (N k : Nat) : le N (k + 1) = le N k ++ [((N / 256 ^ k % 256 : Nat) : Int)] := by unfold le; rw [List.range_succ, List.map_append]; rfl
theorem le_get {N k j : Nat} (h : j < k) : (le N k)[j]? = some ((N / 256 ^ j % 256 : Nat) : Int) := by unfold le; simp [h]
theorem le_length (N k : Nat) : (le N k).length = k := by simp [le]
end
end Go.Proofs.Ytlkoclalcfeniaa
