/-
  row.Reader.Num.
-/
import Derived.Test.YtkppoffljkpiaaaJCatch
namespace Go.Proofs.Ytkppoffljkpiaaa
open Go.RowKit Go.Proofs.Ytkppoffljkpiaaa.Sl Go.Proofs.Ytkppoffljkpiaaa.Jp

section
variable {w0 w : World} {S F F' F1 F2 F3 F4 : List Chunk} {A : List Int} {va : Value} {rb : Nat}
set_option maxHeartbeats 1000000 in
theorem num_ok {B : List Int} {k s : Nat} (h1s : 1 ≤ s) (hs8 : s ≤ 8) (hks : k + s ≤ B.length) (hB : ∀ b ∈ B, okByte b) (hS : Sat w0 S w) [p : Pull S rb (rdr B k) F] :
    Calls Try.prog 15 #[.pointer (some ⟨rb, 0, none⟩), .int .i64 (s : Int)] w fun e w' => e = .returned (.int .u64 (num ((B.drop k).take s))) ∧ Sat w0 ((rb, rdr B (k + s)) :: F) w' := by
  obtain ⟨v0, v, hR, hS1⟩ := rdr_open hS (B := B) (k := k) (rb := rb)
  obtain ⟨g, cap, rfl, hS2⟩ := hS1.perm (List.Perm.swap _ _ _) |>.slSome (by intro e; subst e; simp at hks; omega)
  clear hS hS1
  have hS := hS2
  clear hS2
  have hR2 : Rest g B k v := hR
  clear hR
  have hmf : ∀ (fn : Fn) (first cap : Array Value) (w : World), (Instr.makeFunc fn first cap).run Try.prog w = .ok (.func fn first cap) w := fun _ _ _ _ => rfl
  go_enter Try.func15, Try.ntmps15
  go_wp2_with (first | (guard_target =~ Calls _ 27 _ _ _; refine Stopped.out ?_) | (refine load1 hS rfl rfl rfl rfl ?_; simp only [putW]) | (refine loadAll hS rfl rfl rfl ?_ ?_; rfl; simp only [putW]) | (refine loadPart hS rfl rfl rfl ?_ rfl ?_; rfl; simp only [putW]) | (refine store1 hS rfl rfl rfl rfl rfl ?_ ?_; (focus (simp; done)); clear hS; intro w hS; simp only [evW, putW] at hS; try simp only [putW]) | (refine storeAll hS rfl rfl rfl rfl ?_ ?_ ?_ ?_; rfl; (focus (simp [Value.oneCell']; done)); rfl; clear hS; intro w hS; try simp only [putW]) | (refine storeN hS rfl rfl rfl rfl ?_ ?_ ?_ ?_; rfl; (focus (simp [Value.oneCell']; done)); (focus (simp; done)); clear hS; intro w hS; simp at hS; try simp only [putW]) | (refine alloc hS rfl rfl ?_; clear hS; intro mb w hS; simp only [putW]) | (refine box1 hS rfl rfl rfl rfl ?_; clear hS; intro mb w hS; try simp only [evW] at hS; simp only [putW]) | (refine boxN hS rfl rfl rfl ?_; clear hS; intro mb w hS; simp only [putW]))
  refine ⟨?_⟩
  (refine Calls.mono (safely_ok (rb := rb) h1s hs8 hks hB hR2 hS) ?_; clear hS; rintro _ w ⟨rfl, v', hR', hS⟩; simp only [])
  go_wp2_with (first | (refine load1 hS rfl rfl rfl rfl ?_; simp only [putW]) | (refine loadAll hS rfl rfl rfl ?_ ?_; rfl; simp only [putW]) | (refine loadPart hS rfl rfl rfl ?_ rfl ?_; rfl; simp only [putW]) | (refine store1 hS rfl rfl rfl rfl rfl ?_ ?_; (focus (simp; done)); clear hS; intro w hS; simp only [evW, putW] at hS; try simp only [putW]) | (refine storeAll hS rfl rfl rfl rfl ?_ ?_ ?_ ?_; rfl; (focus (simp [Value.oneCell']; done)); rfl; clear hS; intro w hS; try simp only [putW]) | (refine storeN hS rfl rfl rfl rfl ?_ ?_ ?_ ?_; rfl; (focus (simp [Value.oneCell']; done)); (focus (simp; done)); clear hS; intro w hS; simp at hS; try simp only [putW]) | (refine alloc hS rfl rfl ?_; clear hS; intro mb w hS; simp only [putW]) | (refine box1 hS rfl rfl rfl rfl ?_; clear hS; intro mb w hS; try simp only [evW, putW] at hS; simp only [putW]) | (refine boxN hS rfl rfl rfl ?_; clear hS; intro mb w hS; simp only [putW]))
  go_ret
  have hS3 := (hS.conv (S' := (g, slc 1 by8 B cap 5) :: (rb, cells #[v', .int .i64 0] 60) :: F)).slOfSlc
  exact ⟨rfl, rdr_close (v0 := .slice (some ⟨g, 0, none⟩) B.length cap) (v := v') rb hR' (hS3.perm (List.Perm.swap _ _ _))⟩
set_option maxHeartbeats 1000000 in
theorem num_short {B : List Int} {k s : Nat} (h1s : 1 ≤ s) (hs8 : s ≤ 8) (hks : B.length < k + s) (hS : Sat w0 S w) [p : Pull S rb (rdr B k) F] :
    Calls Try.prog 15 #[.pointer (some ⟨rb, 0, none⟩), .int .i64 (s : Int)] w fun e w' => e = .returned (.int .u64 0) ∧ Sat w0 ((rb, rdrF 2) :: F) w' := by
  obtain ⟨v0, v, ⟨pp, c, rfl, hk1, hk2, hk3, hk4⟩, hS1⟩ := rdr_open hS (B := B) (k := k) (rb := rb)
  clear hS
  have hS := hS1
  clear hS1 hk4
  have hmf : ∀ (fn : Fn) (first cap : Array Value) (w : World), (Instr.makeFunc fn first cap).run Try.prog w = .ok (.func fn first cap) w := fun _ _ _ _ => rfl
  go_enter Try.func15, Try.ntmps15
  go_wp2_with (first | (guard_target =~ Calls _ 27 _ _ _; refine Stopped.out ?_) | (refine load1 hS rfl rfl rfl rfl ?_; simp only [putW]) | (refine loadAll hS rfl rfl rfl ?_ ?_; rfl; simp only [putW]) | (refine loadPart hS rfl rfl rfl ?_ rfl ?_; rfl; simp only [putW]) | (refine store1 hS rfl rfl rfl rfl rfl ?_ ?_; (focus (simp; done)); clear hS; intro w hS; simp only [evW, putW] at hS; try simp only [putW]) | (refine storeAll hS rfl rfl rfl rfl ?_ ?_ ?_ ?_; rfl; (focus (simp [Value.oneCell']; done)); rfl; clear hS; intro w hS; try simp only [putW]) | (refine storeN hS rfl rfl rfl rfl ?_ ?_ ?_ ?_; rfl; (focus (simp [Value.oneCell']; done)); (focus (simp; done)); clear hS; intro w hS; simp at hS; try simp only [putW]) | (refine alloc hS rfl rfl ?_; clear hS; intro mb w hS; simp only [putW]) | (refine box1 hS rfl rfl rfl rfl ?_; clear hS; intro mb w hS; try simp only [evW] at hS; simp only [putW]) | (refine boxN hS rfl rfl rfl ?_; clear hS; intro mb w hS; simp only [putW]))
  refine ⟨?_⟩
  (refine Calls.mono (safely_short (rb := rb) (len := B.length - k) (cap := c) (pp := pp) h1s hs8 (by omega) hS) ?_; clear hS; rintro _ w ⟨rfl, hS⟩; simp only [])
  go_wp2_with (first | (refine load1 hS rfl rfl rfl rfl ?_; simp only [putW]) | (refine loadAll hS rfl rfl rfl ?_ ?_; rfl; simp only [putW]) | (refine loadPart hS rfl rfl rfl ?_ rfl ?_; rfl; simp only [putW]) | (refine store1 hS rfl rfl rfl rfl rfl ?_ ?_; (focus (simp; done)); clear hS; intro w hS; simp only [evW, putW] at hS; try simp only [putW]) | (refine storeAll hS rfl rfl rfl rfl ?_ ?_ ?_ ?_; rfl; (focus (simp [Value.oneCell']; done)); rfl; clear hS; intro w hS; try simp only [putW]) | (refine storeN hS rfl rfl rfl rfl ?_ ?_ ?_ ?_; rfl; (focus (simp [Value.oneCell']; done)); (focus (simp; done)); clear hS; intro w hS; simp at hS; try simp only [putW]) | (refine alloc hS rfl rfl ?_; clear hS; intro mb w hS; simp only [putW]) | (refine box1 hS rfl rfl rfl rfl ?_; clear hS; intro mb w hS; try simp only [evW, putW] at hS; simp only [putW]) | (refine boxN hS rfl rfl rfl ?_; clear hS; intro mb w hS; simp only [putW]))
  go_ret
  exact ⟨rfl, hS.conv (S' := (rb, cells #[.slice none 0 0, .int .i64 2] 60) :: F)⟩
set_option maxHeartbeats 1000000 in
theorem num_fault {s : Nat} {f : Int} (h1s : 1 ≤ s) (hs8 : s ≤ 8) (hf : f ≠ 0) (hS : Sat w0 S w) [p : Pull S rb (rdrF f) F] :
    Calls Try.prog 15 #[.pointer (some ⟨rb, 0, none⟩), .int .i64 (s : Int)] w fun e w' => e = .returned (.int .u64 0) ∧ Sat w0 ((rb, rdrF f) :: F) w' := by
  have hS1 : Sat w0 ((rb, cells #[.slice none 0 0, .int .i64 f] 60) :: F) w := hS.perm p.perm
  clear hS
  have hS := hS1
  clear hS1
  have hmf : ∀ (fn : Fn) (first cap : Array Value) (w : World), (Instr.makeFunc fn first cap).run Try.prog w = .ok (.func fn first cap) w := fun _ _ _ _ => rfl
  go_enter Try.func15, Try.ntmps15
  go_wp2_with (first | (guard_target =~ Calls _ 27 _ _ _; refine Stopped.out ?_) | (refine load1 hS rfl rfl rfl rfl ?_; simp only [putW]) | (refine loadAll hS rfl rfl rfl ?_ ?_; rfl; simp only [putW]) | (refine loadPart hS rfl rfl rfl ?_ rfl ?_; rfl; simp only [putW]) | (refine store1 hS rfl rfl rfl rfl rfl ?_ ?_; (focus (simp; done)); clear hS; intro w hS; simp only [evW, putW] at hS; try simp only [putW]) | (refine storeAll hS rfl rfl rfl rfl ?_ ?_ ?_ ?_; rfl; (focus (simp [Value.oneCell']; done)); rfl; clear hS; intro w hS; try simp only [putW]) | (refine storeN hS rfl rfl rfl rfl ?_ ?_ ?_ ?_; rfl; (focus (simp [Value.oneCell']; done)); (focus (simp; done)); clear hS; intro w hS; simp at hS; try simp only [putW]) | (refine alloc hS rfl rfl ?_; clear hS; intro mb w hS; simp only [putW]) | (refine box1 hS rfl rfl rfl rfl ?_; clear hS; intro mb w hS; try simp only [evW] at hS; simp only [putW]) | (refine boxN hS rfl rfl rfl ?_; clear hS; intro mb w hS; simp only [putW]))
  refine ⟨?_⟩
  (refine Calls.mono (safely_fault (rb := rb) (f := f) h1s hs8 hf hS) ?_; clear hS; rintro _ w ⟨rfl, hS⟩; simp only [])
  go_wp2_with (first | (refine load1 hS rfl rfl rfl rfl ?_; simp only [putW]) | (refine loadAll hS rfl rfl rfl ?_ ?_; rfl; simp only [putW]) | (refine loadPart hS rfl rfl rfl ?_ rfl ?_; rfl; simp only [putW]) | (refine store1 hS rfl rfl rfl rfl rfl ?_ ?_; (focus (simp; done)); clear hS; intro w hS; simp only [evW, putW] at hS; try simp only [putW]) | (refine storeAll hS rfl rfl rfl rfl ?_ ?_ ?_ ?_; rfl; (focus (simp [Value.oneCell']; done)); rfl; clear hS; intro w hS; try simp only [putW]) | (refine storeN hS rfl rfl rfl rfl ?_ ?_ ?_ ?_; rfl; (focus (simp [Value.oneCell']; done)); (focus (simp; done)); clear hS; intro w hS; simp at hS; try simp only [putW]) | (refine alloc hS rfl rfl ?_; clear hS; intro mb w hS; simp only [putW]) | (refine box1 hS rfl rfl rfl rfl ?_; clear hS; intro mb w hS; try simp only [evW, putW] at hS; simp only [putW]) | (refine boxN hS rfl rfl rfl ?_; clear hS; intro mb w hS; simp only [putW]))
  go_ret
  exact ⟨rfl, hS.conv (S' := (rb, cells #[.slice none 0 0, .int .i64 f] 60) :: F)⟩
theorem fault_rdr {B : List Int} {k : Nat} (hS : Sat w0 S w) [p : Pull S rb (rdr B k) F] :
    Calls Try.prog 16 #[.pointer (some ⟨rb, 0, none⟩)] w fun e w' => e = .returned (.int .i64 0) ∧ Sat w0 ((rb, rdr B k) :: F) w' := by
  obtain ⟨v0, v, hR, hS1⟩ := rdr_open hS (B := B) (k := k) (rb := rb)
  exact (fault_any v 0 hS1).mono fun e w' ⟨he, h⟩ => ⟨he, rdr_close rb hR h⟩
theorem fault_rdrF {f : Int} (hS : Sat w0 S w) [p : Pull S rb (rdrF f) F] :
    Calls Try.prog 16 #[.pointer (some ⟨rb, 0, none⟩)] w fun e w' => e = .returned (.int .i64 f) ∧ Sat w0 ((rb, rdrF f) :: F) w' := by
  have hS1 : Sat w0 ((rb, cells #[.slice none 0 0, .int .i64 f] 60) :: F) w := hS.perm p.perm
  exact (fault_any (.slice none 0 0) f hS1).mono fun e w' ⟨he, h⟩ => ⟨he, h⟩

/-- What a reader says next, and where it stands then; none: it gave up. -/
def nextS (B : List Int) (s : Nat) : Option Nat → Int × Option Nat
  | some k => if k + s ≤ B.length then (num ((B.drop k).take s), some (k + s)) else (0, none)
  | none => (0, none)
def rdS (B : List Int) : Option Nat → K
  | some k => rdr B k
  | none => rdrF 2
def okS : Option Nat → Int
  | some _ => 0
  | none => 2
theorem num_st {B : List Int} {s : Nat} {st : Option Nat} (h1s : 1 ≤ s) (hs8 : s ≤ 8) (hB : ∀ b ∈ B, okByte b) (hS : Sat w0 S w) [p : Pull S rb (rdS B st) F] :
    Calls Try.prog 15 #[.pointer (some ⟨rb, 0, none⟩), .int .i64 (s : Int)] w fun e w' => e = .returned (.int .u64 (nextS B s st).1) ∧ Sat w0 ((rb, rdS B (nextS B s st).2) :: F) w' := by
  have hS1 := hS.perm p.perm
  cases st with
  | none => exact num_fault (f := 2) h1s hs8 (by decide) (hS1 : Sat w0 ((rb, rdrF 2) :: F) w)
  | some k =>
    unfold nextS
    by_cases h : k + s ≤ B.length
    · simp only [if_pos h]; exact num_ok h1s hs8 h hB (hS1 : Sat w0 ((rb, rdr B k) :: F) w)
    · simp only [if_neg h]; exact num_short h1s hs8 (by omega) (hS1 : Sat w0 ((rb, rdr B k) :: F) w)
theorem fault_st {B : List Int} {st : Option Nat} (hS : Sat w0 S w) [p : Pull S rb (rdS B st) F] :
    Calls Try.prog 16 #[.pointer (some ⟨rb, 0, none⟩)] w fun e w' => e = .returned (.int .i64 (okS st)) ∧ Sat w0 ((rb, rdS B st) :: F) w' := by
  have hS1 := hS.perm p.perm
  cases st with
  | none => exact fault_rdrF (hS1 : Sat w0 ((rb, rdrF 2) :: F) w)
  | some k => exact fault_rdr (hS1 : Sat w0 ((rb, rdr B k) :: F) w)
theorem rdr_new {B : List Int} {v : Value} (hS : Sat w0 ((rb, cells #[v, .int .i64 0] 60) :: (blk v, sl 1 by8 B 5 v) :: F) w) : Sat w0 ((rb, rdS B (some 0)) :: F) w := by
  refine rdr_close (v0 := v) (v := v) rb ?_ hS
  rcases (hS.perm (List.Perm.swap _ _ _)).slCases with ⟨rfl, rfl, _⟩ | ⟨cap, hv, hC⟩
  · exact ⟨none, 0, rfl, by simp, by simp, by simp, fun h => by simp at h⟩
  · have hf := hC.slcFacts (g := blk v) (n := 1) (f := by8) (l := B) (cap := cap) (t := 5)
    exact ⟨some ⟨blk v, 0, none⟩, cap, by rw [Nat.sub_zero]; exact hv, by simp, by simpa using hf.1, hf.2.1, fun _ => rfl⟩
theorem nextS_bound {B : List Int} {s : Nat} {st : Option Nat} (hB : ∀ b ∈ B, okByte b) : 0 ≤ (nextS B s st).1 ∧ (nextS B s st).1 < 256 ^ s := by
  have h0 : (0 : Int) < 256 ^ s := Int.pow_pos (by decide)
  unfold nextS
  split
  · split
    · rename_i k h
      have h1 := num_lt (l := (B.drop k).take s) fun b hb => hB b (List.mem_of_mem_drop (List.mem_of_mem_take hb))
      have h2 : ((B.drop k).take s).length = s := by rw [List.length_take, List.length_drop]; omega
      rw [h2] at h1
      exact h1
    · exact ⟨Int.le_refl _, h0⟩
  · exact ⟨Int.le_refl _, h0⟩
end
end Go.Proofs.Ytkppoffljkpiaaa
