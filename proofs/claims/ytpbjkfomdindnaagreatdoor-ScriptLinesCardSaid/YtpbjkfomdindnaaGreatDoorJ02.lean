/-
  thimbleref02: Same, SameAll, Copy, Num, Put; thimbleref14.SameInts; thimbleref03.Join.
-/
import Derived.Test.YtpbjkfomdindnaaGreatDoorTab
import Derived.Test.YtpbjkfomdindnaaGreatDoorSlB
import Derived.Test.YtpbjkfomdindnaaGreatDoorJPlain
set_option linter.unusedSimpArgs false
set_option linter.unusedVariables false
namespace Go.Proofs.YtpbjkfomdindnaaGreatDoor
open Go.RowKit Go.Proofs.YtpbjkfomdindnaaGreatDoor.Sl Go.Proofs.YtpbjkfomdindnaaGreatDoor.Jp

theorem take_succ_eq {A B : List Int} {k : Nat} {x y : Int} (hx : A[k]? = some x) (hy : B[k]? = some y) (h : A.take k = B.take k) : (A.take (k + 1) = B.take (k + 1)) ↔ x = y := by
  rw [List.take_add_one, List.take_add_one, hx, hy, h]; simp

section
variable {w : World} {A B : List Int} {va vb : Value}
set_option maxHeartbeats 400000 in
theorem same_any (ha : RB w A va) (hb : RB w B vb) : Calls Tryz.prog 33 #[va, vb] w fun e w' => e = .returned (.bool (decide (A = B))) ∧ Sat w [] w' := by
  have hS := Sat.refl w
  obtain ⟨pa, ca, rfl, hla, hata⟩ := ha.at
  obtain ⟨pb, cb, rfl, hlb, hatb⟩ := hb.at
  by_cases hl : A.length = B.length
  · have HL : Hid (A.length = B.length) := hl
    rw [← hl]
    clear hl ha hb
    go_enter Tryz.func33, Tryz.ntmps33
    go_wp2
    go_loopw [5] (fun i wr => ∃ k : Nat, k ≤ A.length ∧ i = .int .i64 k ∧ Sat w [] wr ∧ Hid (A.take k = B.take k)) (fun i _ => A.length - (intOf i).toNat)
    case atStart => exact ⟨0, Nat.zero_le _, rfl, hS, rfl⟩
    case round =>
      clear hS
      obtain ⟨k, hk, rfl, hS, hinv⟩ := hrel
      by_cases hlt : k < A.length
      · have hlb' : k < B.length := by have := HL.out; omega
        obtain ⟨x, hx⟩ : ∃ x, A[k]? = some x := ⟨_, List.getElem?_eq_getElem hlt⟩
        obtain ⟨y, hy⟩ : ∃ y, B[k]? = some y := ⟨_, List.getElem?_eq_getElem hlb'⟩
        obtain ⟨ba, oa, rfl, hBa⟩ := hata (by intro e; subst e; simp at hlt)
        obtain ⟨bb, ob, rfl, hBb⟩ := hatb (by intro e; subst e; simp at hlb')
        have hiff := take_succ_eq hx hy hinv.out
        have Hiff : Hid ((A.take (k + 1) = B.take (k + 1)) ↔ x = y) := hiff
        clear hiff
        by_cases hxy : x = y
        · subst hxy
          go_wp2
          (refine region_quiet hS (by kernel_rfl) (by kernel_rfl) (by kernel_rfl) ?_; clear hS; (repeat (apply quiet_step; (focus (intro w hS; go_wp2_with (first | (refine loadB (f := by8) hS rfl rfl rfl hBa k 0 ?_ hx rfl ?_; omega; simp only [putW]) | (refine loadB (f := by8) hS rfl rfl rfl hBb k 0 ?_ hy rfl ?_; omega; simp only [putW])); exact ⟨rfl, rfl, hS⟩)); simp only [putW])); refine quiet_nil ?_; intro w hS)
          go_wp2
          go_roundw
          case rel => exact ⟨k + 1, by omega, by go_num, hS, Hiff.out.2 (by trivial)⟩
          case measure => simp [intOf]; omega
        · go_wp2
          (refine region_quiet hS (by kernel_rfl) (by kernel_rfl) (by kernel_rfl) ?_; clear hS; (repeat (apply quiet_step; (focus (intro w hS; go_wp2_with (first | (refine loadB (f := by8) hS rfl rfl rfl hBa k 0 ?_ hx rfl ?_; omega; simp only [putW]) | (refine loadB (f := by8) hS rfl rfl rfl hBb k 0 ?_ hy rfl ?_; omega; simp only [putW])); exact ⟨rfl, rfl, hS⟩)); simp only [putW])); refine quiet_nil ?_; intro w hS)
          go_wp2
          go_ret
          refine ⟨?_, hS⟩
          have : ¬ A = B := fun e => hxy (Hiff.out.1 (by rw [e]))
          simp [this]
      · go_wp2
        go_ret
        refine ⟨?_, hS⟩
        have h1 := hinv.out
        rw [List.take_of_length_le (by omega), List.take_of_length_le (by have := HL.out; omega)] at h1
        simp [h1]
  · have hne : ¬ A = B := fun e => hl (by rw [e])
    go_enter Tryz.func33, Tryz.ntmps33
    go_wp2
    go_ret
    exact ⟨by simp [hne], hS⟩
end

set_option maxHeartbeats 400000 in
theorem sameInts_any {w : World} {A B : List Int} {va vb : Value} (ha : RI w A va) (hb : RI w B vb) : Calls Tryz.prog 34 #[va, vb] w fun e w' => e = .returned (.bool (decide (A = B))) ∧ Sat w [] w' := by
  have hS := Sat.refl w
  obtain ⟨pa, ca, rfl, hla, hata⟩ := ha.at
  obtain ⟨pb, cb, rfl, hlb, hatb⟩ := hb.at
  by_cases hl : A.length = B.length
  · have HL : Hid (A.length = B.length) := hl
    rw [← hl]
    clear hl ha hb
    go_enter Tryz.func34, Tryz.ntmps34
    go_wp2
    go_loopw [5] (fun i wr => ∃ k : Nat, k ≤ A.length ∧ i = .int .i64 k ∧ Sat w [] wr ∧ Hid (A.take k = B.take k)) (fun i _ => A.length - (intOf i).toNat)
    case atStart => exact ⟨0, Nat.zero_le _, rfl, hS, rfl⟩
    case round =>
      clear hS
      obtain ⟨k, hk, rfl, hS, hinv⟩ := hrel
      by_cases hlt : k < A.length
      · have hlb' : k < B.length := by have := HL.out; omega
        obtain ⟨x, hx⟩ : ∃ x, A[k]? = some x := ⟨_, List.getElem?_eq_getElem hlt⟩
        obtain ⟨y, hy⟩ : ∃ y, B[k]? = some y := ⟨_, List.getElem?_eq_getElem hlb'⟩
        obtain ⟨ba, oa, rfl, hBa⟩ := hata (by intro e; subst e; simp at hlt)
        obtain ⟨bb, ob, rfl, hBb⟩ := hatb (by intro e; subst e; simp at hlb')
        have hiff := take_succ_eq hx hy hinv.out
        have Hiff : Hid ((A.take (k + 1) = B.take (k + 1)) ↔ x = y) := hiff
        clear hiff
        by_cases hxy : x = y
        · subst hxy
          go_wp2
          (refine region_quiet hS (by kernel_rfl) (by kernel_rfl) (by kernel_rfl) ?_; clear hS; (repeat (apply quiet_step; (focus (intro w hS; go_wp2_with (first | (refine loadB (f := i64) hS rfl rfl rfl hBa k 0 ?_ hx rfl ?_; omega; simp only [putW]) | (refine loadB (f := i64) hS rfl rfl rfl hBb k 0 ?_ hy rfl ?_; omega; simp only [putW])); exact ⟨rfl, rfl, hS⟩)); simp only [putW])); refine quiet_nil ?_; intro w hS)
          go_wp2
          go_roundw
          case rel => exact ⟨k + 1, by omega, by go_num, hS, Hiff.out.2 (by trivial)⟩
          case measure => simp [intOf]; omega
        · go_wp2
          (refine region_quiet hS (by kernel_rfl) (by kernel_rfl) (by kernel_rfl) ?_; clear hS; (repeat (apply quiet_step; (focus (intro w hS; go_wp2_with (first | (refine loadB (f := i64) hS rfl rfl rfl hBa k 0 ?_ hx rfl ?_; omega; simp only [putW]) | (refine loadB (f := i64) hS rfl rfl rfl hBb k 0 ?_ hy rfl ?_; omega; simp only [putW])); exact ⟨rfl, rfl, hS⟩)); simp only [putW])); refine quiet_nil ?_; intro w hS)
          go_wp2
          go_ret
          refine ⟨?_, hS⟩
          have : ¬ A = B := fun e => hxy (Hiff.out.1 (by rw [e]))
          simp [this]
      · go_wp2
        go_ret
        refine ⟨?_, hS⟩
        have h1 := hinv.out
        rw [List.take_of_length_le (by omega), List.take_of_length_le (by have := HL.out; omega)] at h1
        simp [h1]
  · have hne : ¬ A = B := fun e => hl (by rw [e])
    go_enter Tryz.func34, Tryz.ntmps34
    go_wp2
    go_ret
    exact ⟨by simp [hne], hS⟩

theorem map_take_succ {X Y : List (Value × List Int)} {k : Nat} {x y : Value × List Int} (hx : X[k]? = some x) (hy : Y[k]? = some y) (h : (X.take k).map (·.2) = (Y.take k).map (·.2)) :
    ((X.take (k + 1)).map (·.2) = (Y.take (k + 1)).map (·.2)) ↔ x.2 = y.2 := by
  rw [List.take_add_one, List.take_add_one, hx, hy, List.map_append, List.map_append, h]; simp
end Go.Proofs.YtpbjkfomdindnaaGreatDoor
