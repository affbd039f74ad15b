/-
  row.Reader.safely and its deferred closure; Num.
-/
import Derived.Test.YtkppoffljkpiaaaJReader
namespace Go.Proofs.Ytkppoffljkpiaaa
open Go.RowKit Go.Proofs.Ytkppoffljkpiaaa.Sl Go.Proofs.Ytkppoffljkpiaaa.Jp

section
variable {w0 w : World} {S F F' F1 F2 F3 F4 : List Chunk} {A : List Int} {va : Value} {rb : Nat}
set_option maxHeartbeats 1000000 in
/-- The deferred closure: nothing was given up. -/
theorem catch_idle (p : Addr) (w : World) : CallsD Try.prog 34 #[.pointer (some p)] .returning w fun e u' w' => e = .returned (.tuple #[]) ∧ u' = .returning ∧ w' = w := by
  refine callsD_of_wpS Try.func34 rfl fun c₀ cs hu => ?_
  apply wpS_seq
  apply wpS_region
  simp [wpOpsS, go_sem, recoverD, hu, Try.ntmps34, Exit.thenS]
  apply wpS_seq
  apply wpS_region
  simp [wpOpsS, go_sem, Exit.thenS]
  refine wpS_cond (t := false) (by simp [Act.eval, Array.replicate]) ?_
  simp only [Bool.false_eq_true, if_false]
  refine wpS_of_wp (wp_skip ?_)
  cases c₀
  simp_all [bodyPostS, results, Try.results34]
set_option maxHeartbeats 400000 in
/-- .. what was given up is kept. -/
theorem catch_stop {q : Nat} {v : Value} {f0 : Int} (f : Int) (w : World) (hS : Sat w0 S w) [p1 : Pull S q (cells #[.pointer (some ⟨rb, 0, none⟩)] 43) F] [p2 : Pull F rb (cells #[v, .int .i64 f0] 60) F1] :
    CallsD Try.prog 34 #[.pointer (some ⟨q, 0, none⟩)] (.panicking ({ v := .iface 68 (.agg #[.int .i64 f]), recovered := false } :: [])) w fun e u' w' => e = .returned (.tuple #[]) ∧ u' = .panicking ({ v := .iface 68 (.agg #[.int .i64 f]), recovered := true } :: []) ∧
      Sat w0 ((q, cells #[.pointer (some ⟨rb, 0, none⟩)] 43) :: (rb, cells #[.slice none 0 0, .int .i64 f] 60) :: F1) w' := by
  replace hS := hS.perm (p1.perm.trans (p2.perm.cons _))
  refine callsD_of_wpS Try.func34 rfl fun c₀ cs hu => ?_
  apply wpS_seq
  apply wpS_region
  simp [wpOpsS, go_sem, recoverD, hu, Try.ntmps34, Exit.thenS]
  apply wpS_seq
  apply wpS_region
  simp [wpOpsS, go_sem, Exit.thenS]
  refine wpS_cond (t := true) (by simp [Act.eval, Array.replicate]) ?_
  simp only [if_true]
  refine wpS_of_wp (wp_mono (Q := fun e a' w' => e = .normal ∧ a'.defers = [] ∧ Sat w0 ((q, cells #[.pointer (some ⟨rb, 0, none⟩)] 43) :: (rb, cells #[.slice none 0 0, .int .i64 f] 60) :: F1) w') ?_ ?_)
  rotate_left
  · rintro e a' w' ⟨rfl, ha, hS⟩
    cases c₀
    simp_all [bodyPostS, results, Try.results34]
  simp only [Array.replicate_succ, Array.replicate_zero, List.push_toArray, List.append_toArray, List.nil_append, List.cons_append, putW]
  have hta : ∀ w : World, (Instr.typeAssert (.iface 68 (.agg #[.int .i64 f])) 20 68 true).run Try.prog w = .ok (.tuple #[.agg #[.int .i64 f], .bool true]) w := fun _ => by kernel_rfl
  go_wp2_with (first | (refine load1 hS rfl rfl rfl rfl ?_; simp only [putW]) | (refine loadAll hS rfl rfl rfl ?_ ?_; rfl; simp only [putW]) | (refine loadPart hS rfl rfl rfl ?_ rfl ?_; rfl; simp only [putW]) | (refine store1 hS rfl rfl rfl rfl rfl ?_ ?_; (focus (simp; done)); clear hS; intro w hS; simp only [evW, putW] at hS; try simp only [putW]) | (refine storeAll hS rfl rfl rfl rfl ?_ ?_ ?_ ?_; rfl; (focus (simp [Value.oneCell']; done)); rfl; clear hS; intro w hS; try simp only [putW]) | (refine storeN hS rfl rfl rfl rfl ?_ ?_ ?_ ?_; rfl; (focus (simp [Value.oneCell']; done)); (focus (simp; done)); clear hS; intro w hS; simp at hS; try simp only [putW]) | (refine alloc hS rfl rfl ?_; clear hS; intro mb w hS; simp only [putW]) | (refine box1 hS rfl rfl rfl rfl ?_; clear hS; intro mb w hS; try simp only [evW, putW] at hS; simp only [putW]) | (refine boxN hS rfl rfl rfl ?_; clear hS; intro mb w hS; simp only [putW]))
  have c0 : w.cell? ⟨q, 0, none⟩ = some (.pointer (some ⟨rb, 0, none⟩)) := hS.cell (b := q) 0
  have c2 : w.cell? ⟨mb, 0, none⟩ = some (.int .i64 f) := hS.cell (b := mb) 0
  have f2 : w.frozen? ⟨rb, 0, none⟩ = false := hS.free (b := rb) 0
  have f3 : w.frozen? ⟨rb, 1, none⟩ = false := hS.free (b := rb) 1
  have c3 : w.cell? ⟨rb, 0, none⟩ = some v := hS.cell (b := rb) 0
  have c4 : w.cell? ⟨rb, 1, none⟩ = some (.int .i64 f0) := hS.cell (b := rb) 1
  have hA := hS.setCell (b := rb) 0 (.slice none 0 0)
  have hB := hS.setCell (b := rb) 1 (.int .i64 f)
  have a0 : (w.setCell ⟨rb, 0, none⟩ (.slice none 0 0)).cell? ⟨q, 0, none⟩ = some (.pointer (some ⟨rb, 0, none⟩)) := hA.cell (b := q) 0
  have a2 : (w.setCell ⟨rb, 0, none⟩ (.slice none 0 0)).cell? ⟨mb, 0, none⟩ = some (.int .i64 f) := hA.cell (b := mb) 0
  have a4 : (w.setCell ⟨rb, 0, none⟩ (.slice none 0 0)).cell? ⟨rb, 1, none⟩ = some (.int .i64 f0) := hA.cell (b := rb) 1
  have a5 : (w.setCell ⟨rb, 0, none⟩ (.slice none 0 0)).frozen? ⟨rb, 1, none⟩ = false := hA.free (b := rb) 1
  have b0 : (w.setCell ⟨rb, 1, none⟩ (.int .i64 f)).cell? ⟨q, 0, none⟩ = some (.pointer (some ⟨rb, 0, none⟩)) := hB.cell (b := q) 0
  have b2 : (w.setCell ⟨rb, 1, none⟩ (.int .i64 f)).cell? ⟨mb, 0, none⟩ = some (.int .i64 f) := hB.cell (b := mb) 0
  have b4 : (w.setCell ⟨rb, 1, none⟩ (.int .i64 f)).cell? ⟨rb, 0, none⟩ = some v := hB.cell (b := rb) 0
  have b5 : (w.setCell ⟨rb, 1, none⟩ (.int .i64 f)).frozen? ⟨rb, 0, none⟩ = false := hB.free (b := rb) 0
  go_region
  replace hS := (hA.setCell (b := rb) 1 (.int .i64 f)).drew
  have e2 : ((#[v, .int .i64 f0] : Array Value).setIfInBounds 0 (.slice none 0 0)).setIfInBounds 1 (.int .i64 f) = #[.slice none 0 0, .int .i64 f] := rfl
  rw [e2] at hS
  exact ⟨rfl, rfl, hS.conv⟩

set_option maxHeartbeats 1000000 in
theorem safely_ok {B : List Int} {k s : Nat} {p0 p1 p2 g cap : Nat} {v : Value} (h1s : 1 ≤ s) (hs8 : s ≤ 8) (hks : k + s ≤ B.length) (hB : ∀ b ∈ B, okByte b) (hR : Rest g B k v)
    (hS : Sat w0 S w) [q0 : Pull S p0 (cells #[.pointer (some ⟨rb, 0, none⟩)] 43) F] [q1 : Pull F p1 (cells #[.int .i64 (s : Int)] 3) F1] [q2 : Pull F1 p2 (cells #[.int .u64 0] 25) F2]
    [q3 : Pull F2 rb (cells #[v, .int .i64 0] 60) F3] [q4 : Pull F3 g (slc 1 by8 B cap 5) F4] :
    Calls Try.prog 27 #[.pointer (some ⟨rb, 0, none⟩), .func (.func 28) #[] #[.pointer (some ⟨p0, 0, none⟩), .pointer (some ⟨p1, 0, none⟩), .pointer (some ⟨p2, 0, none⟩)]] w fun e w' => e = .returned (.tuple #[]) ∧
      ∃ v', Rest g B (k + s) v' ∧ Sat w0 ((p2, cells #[.int .u64 (num ((B.drop k).take s))] 25) :: (rb, cells #[v', .int .i64 0] 60) :: (g, slc 1 by8 B cap 5) :: F4) w' := by
  replace hS := hS.perm (q0.perm.trans ((q1.perm.trans ((q2.perm.trans ((q3.perm.trans (q4.perm.cons _)).cons _)).cons _)).cons _))
  have hmf : ∀ (fn : Fn) (first cap : Array Value) (w : World), (Instr.makeFunc fn first cap).run Try.prog w = .ok (.func fn first cap) w := fun _ _ _ _ => rfl
  go_enter_defers Try.func27, Try.ntmps27
  go_wp2_with (first | (guard_target =~ Calls _ 28 _ _ _; refine Stopped.out ?_) | (refine load1 hS rfl rfl rfl rfl ?_; simp only [putW]) | (refine loadAll hS rfl rfl rfl ?_ ?_; rfl; simp only [putW]) | (refine loadPart hS rfl rfl rfl ?_ rfl ?_; rfl; simp only [putW]) | (refine store1 hS rfl rfl rfl rfl rfl ?_ ?_; (focus (simp; done)); clear hS; intro w hS; simp only [evW, putW] at hS; try simp only [putW]) | (refine storeAll hS rfl rfl rfl rfl ?_ ?_ ?_ ?_; rfl; (focus (simp [Value.oneCell']; done)); rfl; clear hS; intro w hS; try simp only [putW]) | (refine storeN hS rfl rfl rfl rfl ?_ ?_ ?_ ?_; rfl; (focus (simp [Value.oneCell']; done)); (focus (simp; done)); clear hS; intro w hS; simp at hS; try simp only [putW]) | (refine alloc hS rfl rfl ?_; clear hS; intro mb w hS; simp only [putW]) | (refine box1 hS rfl rfl rfl rfl ?_; clear hS; intro mb w hS; try simp only [evW] at hS; simp only [putW]) | (refine boxN hS rfl rfl rfl ?_; clear hS; intro mb w hS; simp only [putW]))
  refine ⟨?_⟩
  (refine Calls.mono (num1_ok (rb := rb) h1s hs8 hks hB hR hS) ?_; clear hS; rintro _ w ⟨rfl, v', hR', hS⟩; simp only [])
  go_wp2_with (first | (refine load1 hS rfl rfl rfl rfl ?_; simp only [putW]) | (refine loadAll hS rfl rfl rfl ?_ ?_; rfl; simp only [putW]) | (refine loadPart hS rfl rfl rfl ?_ rfl ?_; rfl; simp only [putW]) | (refine store1 hS rfl rfl rfl rfl rfl ?_ ?_; (focus (simp; done)); clear hS; intro w hS; simp only [evW, putW] at hS; try simp only [putW]) | (refine storeAll hS rfl rfl rfl rfl ?_ ?_ ?_ ?_; rfl; (focus (simp [Value.oneCell']; done)); rfl; clear hS; intro w hS; try simp only [putW]) | (refine storeN hS rfl rfl rfl rfl ?_ ?_ ?_ ?_; rfl; (focus (simp [Value.oneCell']; done)); (focus (simp; done)); clear hS; intro w hS; simp at hS; try simp only [putW]) | (refine alloc hS rfl rfl ?_; clear hS; intro mb w hS; simp only [putW]) | (refine box1 hS rfl rfl rfl rfl ?_; clear hS; intro mb w hS; try simp only [evW, putW] at hS; simp only [putW]) | (refine boxN hS rfl rfl rfl ?_; clear hS; intro mb w hS; simp only [putW]))
  refine leaves_cons (f := 34) (args := #[.pointer (some ⟨mb, 0, none⟩)]) (by simp) (by simp [go_sem]) ?_
  refine (catch_idle ⟨mb, 0, none⟩ _).mono ?_
  rintro e u' w'' ⟨rfl, rfl, rfl⟩
  simp [Leaves, settle, results, Try.results27, go_sem]
  exact ⟨v', hR', hS.conv⟩
set_option maxHeartbeats 1000000 in
theorem safely_short {s p0 p1 p2 len cap : Nat} {pp : Option Addr} (h1s : 1 ≤ s) (hs8 : s ≤ 8) (hl : len < s)
    (hS : Sat w0 S w) [q0 : Pull S p0 (cells #[.pointer (some ⟨rb, 0, none⟩)] 43) F] [q1 : Pull F p1 (cells #[.int .i64 (s : Int)] 3) F1] [q3 : Pull F1 rb (cells #[.slice pp len cap, .int .i64 0] 60) F3] :
    Calls Try.prog 27 #[.pointer (some ⟨rb, 0, none⟩), .func (.func 28) #[] #[.pointer (some ⟨p0, 0, none⟩), .pointer (some ⟨p1, 0, none⟩), .pointer (some ⟨p2, 0, none⟩)]] w fun e w' => e = .returned (.tuple #[]) ∧
      Sat w0 ((rb, cells #[.slice none 0 0, .int .i64 2] 60) :: F3) w' := by
  replace hS := hS.perm (q0.perm.trans ((q1.perm.trans (q3.perm.cons _)).cons _))
  have hmf : ∀ (fn : Fn) (first cap : Array Value) (w : World), (Instr.makeFunc fn first cap).run Try.prog w = .ok (.func fn first cap) w := fun _ _ _ _ => rfl
  go_enter_defers Try.func27, Try.ntmps27
  go_wp2_with (first | (guard_target =~ Calls _ 28 _ _ _; refine Stopped.out ?_) | (refine load1 hS rfl rfl rfl rfl ?_; simp only [putW]) | (refine loadAll hS rfl rfl rfl ?_ ?_; rfl; simp only [putW]) | (refine loadPart hS rfl rfl rfl ?_ rfl ?_; rfl; simp only [putW]) | (refine store1 hS rfl rfl rfl rfl rfl ?_ ?_; (focus (simp; done)); clear hS; intro w hS; simp only [evW, putW] at hS; try simp only [putW]) | (refine storeAll hS rfl rfl rfl rfl ?_ ?_ ?_ ?_; rfl; (focus (simp [Value.oneCell']; done)); rfl; clear hS; intro w hS; try simp only [putW]) | (refine storeN hS rfl rfl rfl rfl ?_ ?_ ?_ ?_; rfl; (focus (simp [Value.oneCell']; done)); (focus (simp; done)); clear hS; intro w hS; simp at hS; try simp only [putW]) | (refine alloc hS rfl rfl ?_; clear hS; intro mb w hS; simp only [putW]) | (refine box1 hS rfl rfl rfl rfl ?_; clear hS; intro mb w hS; try simp only [evW] at hS; simp only [putW]) | (refine boxN hS rfl rfl rfl ?_; clear hS; intro mb w hS; simp only [putW]))
  refine ⟨?_⟩
  (refine Calls.mono (num1_short (rb := rb) h1s hs8 hl hS) ?_; clear hS; rintro _ w ⟨rfl, hS⟩; simp only [])
  go_wp2_with (first | (refine load1 hS rfl rfl rfl rfl ?_; simp only [putW]) | (refine loadAll hS rfl rfl rfl ?_ ?_; rfl; simp only [putW]) | (refine loadPart hS rfl rfl rfl ?_ rfl ?_; rfl; simp only [putW]) | (refine store1 hS rfl rfl rfl rfl rfl ?_ ?_; (focus (simp; done)); clear hS; intro w hS; simp only [evW, putW] at hS; try simp only [putW]) | (refine storeAll hS rfl rfl rfl rfl ?_ ?_ ?_ ?_; rfl; (focus (simp [Value.oneCell']; done)); rfl; clear hS; intro w hS; try simp only [putW]) | (refine storeN hS rfl rfl rfl rfl ?_ ?_ ?_ ?_; rfl; (focus (simp [Value.oneCell']; done)); (focus (simp; done)); clear hS; intro w hS; simp at hS; try simp only [putW]) | (refine alloc hS rfl rfl ?_; clear hS; intro mb w hS; simp only [putW]) | (refine box1 hS rfl rfl rfl rfl ?_; clear hS; intro mb w hS; try simp only [evW, putW] at hS; simp only [putW]) | (refine boxN hS rfl rfl rfl ?_; clear hS; intro mb w hS; simp only [putW]))
  refine leaves_cons (f := 34) (args := #[.pointer (some ⟨mb, 0, none⟩)]) (by simp) (by simp [go_sem]) ?_
  refine (catch_stop (rb := rb) (q := mb) 2 _ hS).mono ?_
  rintro e u' w'' ⟨rfl, rfl, hS⟩
  simp [Leaves, settle, results, Try.results27, go_sem]
  exact hS.conv
set_option maxHeartbeats 1000000 in
theorem safely_fault {s p0 p1 p2 : Nat} {v : Value} {f : Int} (h1s : 1 ≤ s) (hs8 : s ≤ 8) (hf : f ≠ 0)
    (hS : Sat w0 S w) [q0 : Pull S p0 (cells #[.pointer (some ⟨rb, 0, none⟩)] 43) F] [q1 : Pull F p1 (cells #[.int .i64 (s : Int)] 3) F1] [q3 : Pull F1 rb (cells #[v, .int .i64 f] 60) F3] :
    Calls Try.prog 27 #[.pointer (some ⟨rb, 0, none⟩), .func (.func 28) #[] #[.pointer (some ⟨p0, 0, none⟩), .pointer (some ⟨p1, 0, none⟩), .pointer (some ⟨p2, 0, none⟩)]] w fun e w' => e = .returned (.tuple #[]) ∧
      Sat w0 ((rb, cells #[.slice none 0 0, .int .i64 f] 60) :: F3) w' := by
  replace hS := hS.perm (q0.perm.trans ((q1.perm.trans (q3.perm.cons _)).cons _))
  have hmf : ∀ (fn : Fn) (first cap : Array Value) (w : World), (Instr.makeFunc fn first cap).run Try.prog w = .ok (.func fn first cap) w := fun _ _ _ _ => rfl
  go_enter_defers Try.func27, Try.ntmps27
  go_wp2_with (first | (guard_target =~ Calls _ 28 _ _ _; refine Stopped.out ?_) | (refine load1 hS rfl rfl rfl rfl ?_; simp only [putW]) | (refine loadAll hS rfl rfl rfl ?_ ?_; rfl; simp only [putW]) | (refine loadPart hS rfl rfl rfl ?_ rfl ?_; rfl; simp only [putW]) | (refine store1 hS rfl rfl rfl rfl rfl ?_ ?_; (focus (simp; done)); clear hS; intro w hS; simp only [evW, putW] at hS; try simp only [putW]) | (refine storeAll hS rfl rfl rfl rfl ?_ ?_ ?_ ?_; rfl; (focus (simp [Value.oneCell']; done)); rfl; clear hS; intro w hS; try simp only [putW]) | (refine storeN hS rfl rfl rfl rfl ?_ ?_ ?_ ?_; rfl; (focus (simp [Value.oneCell']; done)); (focus (simp; done)); clear hS; intro w hS; simp at hS; try simp only [putW]) | (refine alloc hS rfl rfl ?_; clear hS; intro mb w hS; simp only [putW]) | (refine box1 hS rfl rfl rfl rfl ?_; clear hS; intro mb w hS; try simp only [evW] at hS; simp only [putW]) | (refine boxN hS rfl rfl rfl ?_; clear hS; intro mb w hS; simp only [putW]))
  refine ⟨?_⟩
  (refine Calls.mono (num1_fault (rb := rb) h1s hs8 hf hS) ?_; clear hS; rintro _ w ⟨rfl, hS⟩; simp only [])
  go_wp2_with (first | (refine load1 hS rfl rfl rfl rfl ?_; simp only [putW]) | (refine loadAll hS rfl rfl rfl ?_ ?_; rfl; simp only [putW]) | (refine loadPart hS rfl rfl rfl ?_ rfl ?_; rfl; simp only [putW]) | (refine store1 hS rfl rfl rfl rfl rfl ?_ ?_; (focus (simp; done)); clear hS; intro w hS; simp only [evW, putW] at hS; try simp only [putW]) | (refine storeAll hS rfl rfl rfl rfl ?_ ?_ ?_ ?_; rfl; (focus (simp [Value.oneCell']; done)); rfl; clear hS; intro w hS; try simp only [putW]) | (refine storeN hS rfl rfl rfl rfl ?_ ?_ ?_ ?_; rfl; (focus (simp [Value.oneCell']; done)); (focus (simp; done)); clear hS; intro w hS; simp at hS; try simp only [putW]) | (refine alloc hS rfl rfl ?_; clear hS; intro mb w hS; simp only [putW]) | (refine box1 hS rfl rfl rfl rfl ?_; clear hS; intro mb w hS; try simp only [evW, putW] at hS; simp only [putW]) | (refine boxN hS rfl rfl rfl ?_; clear hS; intro mb w hS; simp only [putW]))
  refine leaves_cons (f := 34) (args := #[.pointer (some ⟨mb, 0, none⟩)]) (by simp) (by simp [go_sem]) ?_
  refine (catch_stop (rb := rb) (q := mb) f _ hS).mono ?_
  rintro e u' w'' ⟨rfl, rfl, hS⟩
  simp [Leaves, settle, results, Try.results27, go_sem]
  exact hS.conv
end
end Go.Proofs.Ytkppoffljkpiaaa
