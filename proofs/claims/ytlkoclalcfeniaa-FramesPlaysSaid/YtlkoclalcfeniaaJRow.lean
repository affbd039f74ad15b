/-
  bytes.Clone, bytes.Equal; row.Put.
-/
import Derived.Test.YtlkoclalcfeniaaTab
import Derived.Test.YtlkoclalcfeniaaSlB
import Derived.Test.YtlkoclalcfeniaaJPlain
import Derived.Lib.Bytes
set_option linter.unusedSimpArgs false
set_option linter.unusedVariables false
namespace Go.Proofs.Ytlkoclalcfeniaa
open Go.RowKit Go.Proofs.Ytlkoclalcfeniaa.Sl Go.Proofs.Ytlkoclalcfeniaa.Jp

section
variable {w0 : World} {A B : List Int} {va vb : Value}
theorem byte_at (N k : Nat) : (N : Int) / 2 ^ (8 * k) % 256 = ((N / 256 ^ k % 256 : Nat) : Int) := by
  rw [Int.pow_mul, show ((2 : Int) ^ 8) = ((256 : Nat) : Int) from rfl, ← Int.natCast_pow]
  rfl
theorem bytes_back {A : List Int} (ha : ∀ b ∈ A, okByte b) : (Lib.bytesOf A).map (fun b => (b.toNat : Int)) = A := by
  unfold Lib.bytesOf
  rw [List.map_map]
  conv => rhs; rw [← List.map_id A]
  refine List.map_congr_left fun b hb => ?_
  obtain ⟨h1, h2⟩ := ha b hb
  show (((UInt8.ofNat b.toNat).toNat : Nat) : Int) = b
  rw [UInt8.toNat_ofNat']
  omega
theorem strOfNums_inj {A B : List Int} (ha : ∀ b ∈ A, okByte b) (hb : ∀ b ∈ B, okByte b) : ((strOfNums A).toList == (strOfNums B).toList) = decide (A = B) := by
  rw [Lib.strOfNums_toList, Lib.strOfNums_toList]
  by_cases h : A = B
  · subst h; simp
  · have : ¬ Lib.bytesOf A = Lib.bytesOf B := fun e => h (by rw [← bytes_back ha, ← bytes_back hb, e])
    simp [h, this]
set_option maxHeartbeats 400000 in
theorem clone_any (ha : RB w0 A va) (hb : A.length ≤ 140737488355328) : Calls Try.prog 30 #[va] w0 fun e w' => ∃ v, e = .returned v ∧ Sat w0 [(blk v, sl 1 by8 A 5 v)] w' := by
  have hS := Sat.refl w0
  have hax := ha
  have hnil : ∀ w : World, (binOp BinOp.eql 42 (.slice none 0 0) (.slice none 0 0)).run Try.prog w = .ok (.bool true) w := fun _ => by kernel_rfl
  have hsome : ∀ (a : Addr) (n c : Nat) (w : World), (binOp BinOp.eql 42 (.slice (some a) n c) (.slice none 0 0)).run Try.prog w = .ok (.bool false) w := fun _ _ _ _ => by kernel_rfl
  rcases ha with ⟨rfl, rfl | ⟨ad, cap, hc, rfl⟩⟩ | ⟨b, off, cap, rfl, h1, h2, hB⟩
  · go_enter Try.func30, Try.ntmps30
    go_wp2
    go_ret
    exact ⟨_, rfl, hS.slNil 1 by8 5⟩
  · go_enter Try.func30, Try.ntmps30
    go_wp2_with (first | (refine buildSlice0 hS rfl rfl by8 ?_; clear hS; intro mb w hS; simp only [putW]) | (refine appendB (f := by8) hS rfl rfl (.slice (some ⟨mb, 0, none⟩) 0 0) rfl rfl ([] : List Int) (hax.mono hS.base) ?_ ?_ ?_ ?_; (focus (simp [one, Value.oneCell']; done)); (focus (first | omega | (simp [maxLen]; done) | (simp [maxLen]; omega))); (focus (first | omega | (simp [maxLen]; done) | (simp [maxLen]; omega))); clear hS; intro v' w hS; simp only [putW]) | (refine load1 hS rfl rfl rfl rfl ?_; simp only [putW]) | (refine loadAll hS rfl rfl rfl ?_ ?_; rfl; simp only [putW]) | (refine loadPart hS rfl rfl rfl ?_ rfl ?_; rfl; simp only [putW]) | (refine store1 hS rfl rfl rfl rfl rfl ?_ ?_; (focus (simp; done)); clear hS; intro w hS; simp only [evW, putW] at hS; try simp only [putW]) | (refine storeAll hS rfl rfl rfl rfl ?_ ?_ ?_ ?_; rfl; (focus (simp [Value.oneCell']; done)); rfl; clear hS; intro w hS; try simp only [putW]) | (refine storeN hS rfl rfl rfl rfl ?_ ?_ ?_ ?_; rfl; (focus (simp [Value.oneCell']; done)); (focus (simp; done)); clear hS; intro w hS; simp at hS; try simp only [putW]) | (refine alloc hS rfl rfl ?_; clear hS; intro mb w hS; simp only [putW]) | (refine box1 hS rfl rfl rfl rfl ?_; clear hS; intro mb w hS; try simp only [evW, putW] at hS; simp only [putW]) | (refine boxN hS rfl rfl rfl ?_; clear hS; intro mb w hS; simp only [putW]))
    go_ret
    exact ⟨_, rfl, hS⟩
  · go_enter Try.func30, Try.ntmps30
    go_wp2_with (first | (refine buildSlice0 hS rfl rfl by8 ?_; clear hS; intro mb w hS; simp only [putW]) | (refine appendB (f := by8) hS rfl rfl (.slice (some ⟨mb, 0, none⟩) 0 0) rfl rfl A (hax.mono hS.base) ?_ ?_ ?_ ?_; (focus (simp [one, Value.oneCell']; done)); (focus (first | omega | (simp [maxLen]; done) | (simp [maxLen]; omega))); (focus (first | omega | (simp [maxLen]; done) | (simp [maxLen]; omega))); clear hS; intro v' w hS; simp only [putW]) | (refine load1 hS rfl rfl rfl rfl ?_; simp only [putW]) | (refine loadAll hS rfl rfl rfl ?_ ?_; rfl; simp only [putW]) | (refine loadPart hS rfl rfl rfl ?_ rfl ?_; rfl; simp only [putW]) | (refine store1 hS rfl rfl rfl rfl rfl ?_ ?_; (focus (simp; done)); clear hS; intro w hS; simp only [evW, putW] at hS; try simp only [putW]) | (refine storeAll hS rfl rfl rfl rfl ?_ ?_ ?_ ?_; rfl; (focus (simp [Value.oneCell']; done)); rfl; clear hS; intro w hS; try simp only [putW]) | (refine storeN hS rfl rfl rfl rfl ?_ ?_ ?_ ?_; rfl; (focus (simp [Value.oneCell']; done)); (focus (simp; done)); clear hS; intro w hS; simp at hS; try simp only [putW]) | (refine alloc hS rfl rfl ?_; clear hS; intro mb w hS; simp only [putW]) | (refine box1 hS rfl rfl rfl rfl ?_; clear hS; intro mb w hS; try simp only [evW, putW] at hS; simp only [putW]) | (refine boxN hS rfl rfl rfl ?_; clear hS; intro mb w hS; simp only [putW]))
    go_ret
    exact ⟨_, rfl, hS⟩
end
end Go.Proofs.Ytlkoclalcfeniaa
