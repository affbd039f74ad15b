/-
  latch: slices.IndexFunc, slices.DeleteFunc on a queue, with Free's closure.
-/
import Derived.Test.YtojdkioimklhmaaLaQ
set_option linter.unusedSimpArgs false
set_option linter.unusedVariables false
namespace Go.Proofs.Ytojdkioimklhmaa
open Go.RowKit Go.Proofs.Ytojdkioimklhmaa.Sl

section
variable {w0 w : World} {K F S : List Chunk} {tb : Nat} {task : Int} {L : List Rq} {v : Value}
set_option maxHeartbeats 1000000 in
theorem free1_any {x : Int} {y : Bool} (hS : Sat w0 ((tb, cells #[.int .i64 task] 3) :: K) w) : Calls Try.prog 22 #[.agg #[.int .i64 x, .bool y], .pointer (some ⟨tb, 0, none⟩)] w fun e w' => e = .returned (.bool (decide (x = task))) ∧ Sat w0 ((tb, cells #[.int .i64 task] 3) :: K) w' := by
  go_enter Try.func22, Try.ntmps22
  go_wp2_with (first | (refine load1 hS rfl rfl rfl rfl ?_; simp only [putW]) | (refine loadAll hS rfl rfl rfl ?_ ?_; rfl; simp only [putW]) | (refine loadPart hS rfl rfl rfl ?_ rfl ?_; rfl; simp only [putW]) | (refine store1 hS rfl rfl rfl rfl rfl ?_ ?_; (focus (simp; done)); clear hS; intro w hS; simp only [evW, putW] at hS; try simp only [putW]) | (refine storeAll hS rfl rfl rfl rfl ?_ ?_ ?_ ?_; rfl; (focus (simp [Value.oneCell']; done)); rfl; clear hS; intro w hS; try simp only [putW]) | (refine storeN hS rfl rfl rfl rfl ?_ ?_ ?_ ?_; rfl; (focus (simp [Value.oneCell']; done)); (focus (simp; done)); clear hS; intro w hS; simp at hS; try simp only [putW]) | (refine alloc hS rfl rfl ?_; clear hS; intro mb w hS; simp only [putW]) | (refine box1 hS rfl rfl rfl rfl ?_; clear hS; intro mb w hS; try simp only [evW, putW] at hS; simp only [putW]) | (refine boxN hS rfl rfl rfl ?_; clear hS; intro mb w hS; simp only [putW]))
  go_ret
  exact ⟨rfl, hS.conv⟩
/-- A request is read whole. -/
theorem loadRq {ops : Array Oper} {rest : List Oper} {o : Oper} {a : Act} {Q : Exit → Act → World → Prop} {b p off k : Nat} {q : Rq} {cur : Array Value} {x : Operand} (hS : Sat w0 S w) (hw : Region.wanted o (yielded ops a.tmps) = true) (ho : o.op = .load 61 x) (hx : a.eval x = .pointer (some ⟨b, p, none⟩))
    [Pull S b (cells cur 61) F] (hp : p = off + 2 * k) (h1 : cur[off + 2 * k]? = some (.int .i64 q.1)) (h2 : cur[off + 2 * k + 1]? = some (.bool q.2))
    (kk : wpList Try.prog ops Q rest (a.put o.dst (.agg #[.int .i64 q.1, .bool q.2])) w) : wpList Try.prog ops Q (o :: rest) a w := by
  subst hp
  have ty : Ty Try.prog 61 true 2 (.agg #[.int .i64 0, .bool false]) #[.int .i64 0, .bool false] := inferInstance
  refine wp_value hw ?_ kk
  have h3 : (loadVar 61 ⟨b, off + 2 * k, none⟩).run Try.prog w = .ok (.agg (rqL q).toArray) w := run_loadN rfl (fun d u hu => by
    rw [hS.cell (b := b) (c := cur) (t := 61)]
    match d, hu with
    | 0, hu => rw [← hu]; exact h1
    | 1, hu => rw [← hu]; exact h2)
  simp [execOp, ho, hx, Instr.loadAt, Instr.sureAddr, h3, rqL]
/-- The first request of a task. -/
def FirstAt (L : List Rq) (task r : Int) : Prop := (r = -1 ∧ ∀ x ∈ L, x.1 ≠ task) ∨ ∃ (i : Nat) (x : Rq), r = i ∧ L[i]? = some x ∧ x.1 = task ∧ ∀ (j : Nat) (y : Rq), j < i → L[j]? = some y → y.1 ≠ task
theorem rqVals (x : Rq) : (Value.agg (rqL x).toArray) = .agg #[.int .i64 x.1, .bool x.2] := rfl
set_option maxRecDepth 100000 in
set_option maxHeartbeats 2000000 in
theorem indexFunc_any (hl : L.length ≤ 1000000) (hS : Sat w0 ((blk v, qC L v) :: (tb, cells #[.int .i64 task] 3) :: K) w) :
    Calls Try.prog 27 #[v, .func (.func 22) #[] #[.pointer (some ⟨tb, 0, none⟩)]] w fun e w' => ∃ r, e = .returned (.int .i64 r) ∧ FirstAt L task r ∧ Sat w0 ((blk v, qC L v) :: (tb, cells #[.int .i64 task] 3) :: K) w' := by
  obtain ⟨n, hn⟩ : ∃ n, L.length = n := ⟨_, rfl⟩
  have Hn : Bx _ := ⟨hn⟩
  have hn1 : n ≤ 1000000 := by rw [← hn]; exact hl
  clear hn hl
  obtain ⟨b0, hb0⟩ : ∃ b0, blk v = b0 := ⟨_, rfl⟩
  rw [hb0] at hS
  rcases qOpen hS with ⟨rfl, rfl, -⟩ | ⟨off, cap, cur, hv, hq, hS2⟩
  · have hb1 : b0 = blk (.slice none 0 0) := hb0.symm
    subst hb1
    clear hb0
    have hn0 : n = 0 := Hn.out.symm
    subst hn0
    go_enter Try.func27, Try.ntmps27
    go_wp2_with (first | (refine load1 hS rfl rfl rfl rfl ?_; simp only [putW]) | (refine loadAll hS rfl rfl rfl ?_ ?_; rfl; simp only [putW]) | (refine loadPart hS rfl rfl rfl ?_ rfl ?_; rfl; simp only [putW]) | (refine store1 hS rfl rfl rfl rfl rfl ?_ ?_; (focus (simp; done)); clear hS; intro w hS; simp only [evW, putW] at hS; try simp only [putW]) | (refine storeAll hS rfl rfl rfl rfl ?_ ?_ ?_ ?_; rfl; (focus (simp [Value.oneCell']; done)); rfl; clear hS; intro w hS; try simp only [putW]) | (refine storeN hS rfl rfl rfl rfl ?_ ?_ ?_ ?_; rfl; (focus (simp [Value.oneCell']; done)); (focus (simp; done)); clear hS; intro w hS; simp at hS; try simp only [putW]) | (refine alloc hS rfl rfl ?_; clear hS; intro mb w hS; simp only [putW]) | (refine box1 hS rfl rfl rfl rfl ?_; clear hS; intro mb w hS; try simp only [evW, putW] at hS; simp only [putW]) | (refine boxN hS rfl rfl rfl ?_; clear hS; intro mb w hS; simp only [putW]))
    go_loopg [8] 0 (fun g i wr => g = 0 ∧ i = .int .i64 0 ∧ Sat w0 ((blk (.slice none 0 0), qC [] (.slice none 0 0)) :: (tb, cells #[.int .i64 task] 3) :: K) wr)
    case atStart => exact ⟨rfl, rfl, hS⟩
    case round =>
      clear hS
      obtain ⟨-, rfl, hS⟩ := hrel
      go_wp2_with (first | (refine load1 hS rfl rfl rfl rfl ?_; simp only [putW]) | (refine loadAll hS rfl rfl rfl ?_ ?_; rfl; simp only [putW]) | (refine loadPart hS rfl rfl rfl ?_ rfl ?_; rfl; simp only [putW]) | (refine store1 hS rfl rfl rfl rfl rfl ?_ ?_; (focus (simp; done)); clear hS; intro w hS; simp only [evW, putW] at hS; try simp only [putW]) | (refine storeAll hS rfl rfl rfl rfl ?_ ?_ ?_ ?_; rfl; (focus (simp [Value.oneCell']; done)); rfl; clear hS; intro w hS; try simp only [putW]) | (refine storeN hS rfl rfl rfl rfl ?_ ?_ ?_ ?_; rfl; (focus (simp [Value.oneCell']; done)); (focus (simp; done)); clear hS; intro w hS; simp at hS; try simp only [putW]) | (refine alloc hS rfl rfl ?_; clear hS; intro mb w hS; simp only [putW]) | (refine box1 hS rfl rfl rfl rfl ?_; clear hS; intro mb w hS; try simp only [evW, putW] at hS; simp only [putW]) | (refine boxN hS rfl rfl rfl ?_; clear hS; intro mb w hS; simp only [putW]))
      go_ret
      exact ⟨-1, rfl, .inl ⟨rfl, fun x hx => by cases hx⟩, hS⟩
  · rw [Hn.out] at hv
    subst hv
    have HQ : Bx _ := ⟨hq⟩
    clear hS hq
    have hS := hS2
    clear hS2
    go_enter Try.func27, Try.ntmps27
    go_wp2_with (first | (refine load1 hS rfl rfl rfl rfl ?_; simp only [putW]) | (refine loadAll hS rfl rfl rfl ?_ ?_; rfl; simp only [putW]) | (refine loadPart hS rfl rfl rfl ?_ rfl ?_; rfl; simp only [putW]) | (refine store1 hS rfl rfl rfl rfl rfl ?_ ?_; (focus (simp; done)); clear hS; intro w hS; simp only [evW, putW] at hS; try simp only [putW]) | (refine storeAll hS rfl rfl rfl rfl ?_ ?_ ?_ ?_; rfl; (focus (simp [Value.oneCell']; done)); rfl; clear hS; intro w hS; try simp only [putW]) | (refine storeN hS rfl rfl rfl rfl ?_ ?_ ?_ ?_; rfl; (focus (simp [Value.oneCell']; done)); (focus (simp; done)); clear hS; intro w hS; simp at hS; try simp only [putW]) | (refine alloc hS rfl rfl ?_; clear hS; intro mb w hS; simp only [putW]) | (refine box1 hS rfl rfl rfl rfl ?_; clear hS; intro mb w hS; try simp only [evW, putW] at hS; simp only [putW]) | (refine boxN hS rfl rfl rfl ?_; clear hS; intro mb w hS; simp only [putW]))
    go_loopg [8] n (fun g i wr => ∃ k : Nat, k + g = n ∧ i = .int .i64 k ∧ Bx (∀ (j : Nat) (y : Rq), j < k → L[j]? = some y → y.1 ≠ task) ∧ Sat w0 ((b0, cells cur 61) :: (tb, cells #[.int .i64 task] 3) :: K) wr)
    case atStart => exact ⟨0, by omega, rfl, ⟨fun j y h => absurd h (Nat.not_lt_zero _)⟩, hS⟩
    case round =>
      clear hS
      obtain ⟨k, hkg, rfl, HF, hS⟩ := hrel
      cases gk with
      | zero =>
        have hkn : k = n := by omega
        subst hkn
        have hres : Bx (∀ x ∈ L, x.1 ≠ task) := ⟨fun x hx => by
          obtain ⟨j, hj⟩ := List.getElem?_of_mem hx
          exact HF.out j x (by rw [← Hn.out]; exact (List.getElem?_eq_some_iff.1 hj).1) hj⟩
        clear hkg
        go_wp2_with (first | (refine load1 hS rfl rfl rfl rfl ?_; simp only [putW]) | (refine loadAll hS rfl rfl rfl ?_ ?_; rfl; simp only [putW]) | (refine loadPart hS rfl rfl rfl ?_ rfl ?_; rfl; simp only [putW]) | (refine store1 hS rfl rfl rfl rfl rfl ?_ ?_; (focus (simp; done)); clear hS; intro w hS; simp only [evW, putW] at hS; try simp only [putW]) | (refine storeAll hS rfl rfl rfl rfl ?_ ?_ ?_ ?_; rfl; (focus (simp [Value.oneCell']; done)); rfl; clear hS; intro w hS; try simp only [putW]) | (refine storeN hS rfl rfl rfl rfl ?_ ?_ ?_ ?_; rfl; (focus (simp [Value.oneCell']; done)); (focus (simp; done)); clear hS; intro w hS; simp at hS; try simp only [putW]) | (refine alloc hS rfl rfl ?_; clear hS; intro mb w hS; simp only [putW]) | (refine box1 hS rfl rfl rfl rfl ?_; clear hS; intro mb w hS; try simp only [evW, putW] at hS; simp only [putW]) | (refine boxN hS rfl rfl rfl ?_; clear hS; intro mb w hS; simp only [putW]))
        go_ret
        exact ⟨-1, rfl, .inl ⟨rfl, hres.out⟩, qShut hS HQ.out Hn.out⟩
      | succ g =>
        have hkn : k < n := by omega
        have e1 : decide ((k : Int) < (n : Int)) = true := decide_eq_true (by omega)
        obtain ⟨x, hx⟩ : ∃ x, L[k]? = some x := ⟨_, List.getElem?_eq_getElem (by rw [Hn.out]; exact hkn)⟩
        obtain ⟨x1, x2⟩ := x
        have HX : Bx _ := ⟨hx⟩
        have HR := Lib.hid (HQ.out.has k _ hx)
        clear hx
        go_wp2_with (first | (refine loadRq (k := k) (q := (x1, x2)) hS rfl rfl rfl ?_ HR.out.1 HR.out.2 ?_; (focus omega); simp only [putW]) | (guard_target =~ Calls _ 22 _ _ _; refine Stopped.out ?_) | (refine load1 hS rfl rfl rfl rfl ?_; simp only [putW]) | (refine loadAll hS rfl rfl rfl ?_ ?_; rfl; simp only [putW]) | (refine loadPart hS rfl rfl rfl ?_ rfl ?_; rfl; simp only [putW]) | (refine store1 hS rfl rfl rfl rfl rfl ?_ ?_; (focus (simp; done)); clear hS; intro w hS; simp only [evW, putW] at hS; try simp only [putW]) | (refine storeAll hS rfl rfl rfl rfl ?_ ?_ ?_ ?_; rfl; (focus (simp [Value.oneCell']; done)); rfl; clear hS; intro w hS; try simp only [putW]) | (refine storeN hS rfl rfl rfl rfl ?_ ?_ ?_ ?_; rfl; (focus (simp [Value.oneCell']; done)); (focus (simp; done)); clear hS; intro w hS; simp at hS; try simp only [putW]) | (refine alloc hS rfl rfl ?_; clear hS; intro mb w hS; simp only [putW]) | (refine box1 hS rfl rfl rfl rfl ?_; clear hS; intro mb w hS; try simp only [evW, putW] at hS; simp only [putW]) | (refine boxN hS rfl rfl rfl ?_; clear hS; intro mb w hS; simp only [putW]))
        refine ⟨?_⟩
        refine Calls.mono (free1_any (task := task) (hS.conv (S' := (tb, cells #[.int .i64 task] 3) :: (b0, cells cur 61) :: K))) ?_
        clear hS
        rintro _ w ⟨rfl, hS⟩
        simp only [putW]
        by_cases hxt : x1 = task
        · have d1 : decide (x1 = task) = true := decide_eq_true hxt
          have HXT : Bx _ := ⟨hxt⟩
          rw [d1]
          clear d1 hxt
          go_wp2_with (first | (refine load1 hS rfl rfl rfl rfl ?_; simp only [putW]) | (refine loadAll hS rfl rfl rfl ?_ ?_; rfl; simp only [putW]) | (refine loadPart hS rfl rfl rfl ?_ rfl ?_; rfl; simp only [putW]) | (refine store1 hS rfl rfl rfl rfl rfl ?_ ?_; (focus (simp; done)); clear hS; intro w hS; simp only [evW, putW] at hS; try simp only [putW]) | (refine storeAll hS rfl rfl rfl rfl ?_ ?_ ?_ ?_; rfl; (focus (simp [Value.oneCell']; done)); rfl; clear hS; intro w hS; try simp only [putW]) | (refine storeN hS rfl rfl rfl rfl ?_ ?_ ?_ ?_; rfl; (focus (simp [Value.oneCell']; done)); (focus (simp; done)); clear hS; intro w hS; simp at hS; try simp only [putW]) | (refine alloc hS rfl rfl ?_; clear hS; intro mb w hS; simp only [putW]) | (refine box1 hS rfl rfl rfl rfl ?_; clear hS; intro mb w hS; try simp only [evW, putW] at hS; simp only [putW]) | (refine boxN hS rfl rfl rfl ?_; clear hS; intro mb w hS; simp only [putW]))
          go_ret
          exact ⟨k, rfl, .inr ⟨k, (x1, x2), rfl, HX.out, HXT.out, HF.out⟩, (qShut (hS.pull b0 (X := cells cur 61)) HQ.out Hn.out).conv⟩
        · have d1 : decide (x1 = task) = false := decide_eq_false hxt
          rw [d1]
          have HF2 : Bx (∀ (j : Nat) (y : Rq), j < k + 1 → L[j]? = some y → y.1 ≠ task) := ⟨fun j y hj hy => by
            by_cases e : j = k
            · subst e
              have := HX.out.symm.trans hy
              cases this
              exact hxt
            · exact HF.out j y (by omega) hy⟩
          clear d1 hxt
          go_wp2_with (first | (refine load1 hS rfl rfl rfl rfl ?_; simp only [putW]) | (refine loadAll hS rfl rfl rfl ?_ ?_; rfl; simp only [putW]) | (refine loadPart hS rfl rfl rfl ?_ rfl ?_; rfl; simp only [putW]) | (refine store1 hS rfl rfl rfl rfl rfl ?_ ?_; (focus (simp; done)); clear hS; intro w hS; simp only [evW, putW] at hS; try simp only [putW]) | (refine storeAll hS rfl rfl rfl rfl ?_ ?_ ?_ ?_; rfl; (focus (simp [Value.oneCell']; done)); rfl; clear hS; intro w hS; try simp only [putW]) | (refine storeN hS rfl rfl rfl rfl ?_ ?_ ?_ ?_; rfl; (focus (simp [Value.oneCell']; done)); (focus (simp; done)); clear hS; intro w hS; simp at hS; try simp only [putW]) | (refine alloc hS rfl rfl ?_; clear hS; intro mb w hS; simp only [putW]) | (refine box1 hS rfl rfl rfl rfl ?_; clear hS; intro mb w hS; try simp only [evW, putW] at hS; simp only [putW]) | (refine boxN hS rfl rfl rfl ?_; clear hS; intro mb w hS; simp only [putW]))
          go_roundg g
          case measure => omega
          case rel => exact ⟨k + 1, by omega, by go_num, HF2, hS.conv⟩
end
end Go.Proofs.Ytojdkioimklhmaa
