/-
  latch: slices.DeleteFunc on a queue.
-/
import Derived.Test.YtojdkioimklhmaaLaDel
set_option linter.unusedSimpArgs false
set_option linter.unusedVariables false
namespace Go.Proofs.Ytojdkioimklhmaa
open Go.RowKit Go.Proofs.Ytojdkioimklhmaa.Sl

/-- What stays in a queue without a task's requests. -/
def others (L : List Rq) (task : Int) : List Rq := L.filter fun x => decide (x.1 ≠ task)
theorem others_none {L : List Rq} {task : Int} (h : ∀ x ∈ L, x.1 ≠ task) : others L task = L := by
  unfold others
  rw [List.filter_eq_self]
  intro x hx
  simpa using h x hx
theorem others_next {L : List Rq} {task : Int} {j : Nat} {x : Rq} (hx : L[j]? = some x) : others (L.take (j + 1)) task = if x.1 = task then others (L.take j) task else others (L.take j) task ++ [x] := by
  unfold others
  rw [List.take_add_one, hx, Option.toList_some, List.filter_append]
  by_cases e : x.1 = task
  · rw [if_pos e, List.filter_cons, if_neg (by simpa using e)]
    simp
  · rw [if_neg e, List.filter_cons, if_pos (by simpa using e)]
    rfl
/-- The block in the midst of the loop: of the first j requests the first i places hold what stays. -/
structure Kept (L : List Rq) (task : Int) (off cap j i : Nat) (cur : Array Value) : Prop where
  fit : off + 2 * cap ≤ cur.size
  num : (others (L.take j) task).length = i
  low : ∀ (k : Nat) (x : Rq), (others (L.take j) task)[k]? = some x → RqAt cur off k x
  high : ∀ (k : Nat) (x : Rq), j ≤ k → L[k]? = some x → RqAt cur off k x
theorem Kept.start {L : List Rq} {task : Int} {off cap i : Nat} {cur : Array Value} {x : Rq} (hq : QIs L off cap cur) (hx : L[i]? = some x) (hxt : x.1 = task) (hb : ∀ (j : Nat) (y : Rq), j < i → L[j]? = some y → y.1 ≠ task) : Kept L task off cap (i + 1) i cur := by
  have hi := (List.getElem?_eq_some_iff.1 hx).1
  have e : others (L.take (i + 1)) task = L.take i := by
    rw [others_next hx, if_pos hxt]
    refine others_none fun y hy => ?_
    obtain ⟨j, hj⟩ := List.getElem?_of_mem hy
    have hji : j < i := by
      have := (List.getElem?_eq_some_iff.1 hj).1
      rw [List.length_take] at this
      omega
    rw [List.getElem?_take, if_pos hji] at hj
    exact hb j y hji hj
  refine ⟨hq.fit, by rw [e, List.length_take]; omega, fun k y hk => ?_, fun k y _ hk => hq.has k y hk⟩
  rw [e, List.getElem?_take] at hk
  split at hk
  · exact hq.has k y hk
  · cases hk
theorem Kept.le {L : List Rq} {task : Int} {off cap j i : Nat} {cur : Array Value} (h : Kept L task off cap j i cur) : i ≤ j := by
  have h1 := h.num
  have h2 : (others (L.take j) task).length ≤ (L.take j).length := List.length_filter_le _ _
  rw [List.length_take] at h2
  omega
theorem Kept.skip {L : List Rq} {task : Int} {off cap j i : Nat} {cur : Array Value} {x : Rq} (h : Kept L task off cap j i cur) (hx : L[j]? = some x) (hxt : x.1 = task) : Kept L task off cap (j + 1) i cur := by
  have e : others (L.take (j + 1)) task = others (L.take j) task := by rw [others_next hx, if_pos hxt]
  exact ⟨h.fit, by rw [e]; exact h.num, fun k y hk => h.low k y (by rw [← e]; exact hk), fun k y hk hy => h.high k y (by omega) hy⟩
theorem Kept.keep {L : List Rq} {task : Int} {off cap j i : Nat} {cur : Array Value} {x : Rq} (h : Kept L task off cap j i cur) (hx : L[j]? = some x) (hxt : ¬ x.1 = task) (hc : L.length ≤ cap) : Kept L task off cap (j + 1) (i + 1) (putRq cur (off + 2 * i) x) := by
  have e : others (L.take (j + 1)) task = others (L.take j) task ++ [x] := by rw [others_next hx, if_neg hxt]
  have hj := (List.getElem?_eq_some_iff.1 hx).1
  have hij := h.le
  have hf : off + 2 * i + 2 ≤ cur.size := by have := h.fit; omega
  refine ⟨by rw [putRq_size hf]; exact h.fit, by rw [e, List.length_append, h.num]; rfl, fun k y hk => ?_, fun k y hk hy => (h.high k y (by omega) hy).put hf (by omega)⟩
  rw [e] at hk
  by_cases hki : k < i
  · rw [List.getElem?_append_left (by rw [h.num]; exact hki)] at hk
    exact (h.low k y hk).put hf (by omega)
  · have hk2 : k = i := by
      have := (List.getElem?_eq_some_iff.1 hk).1
      rw [List.length_append, h.num] at this
      simp at this
      omega
    subst hk2
    rw [List.getElem?_append_right (by rw [h.num]; exact Nat.le_refl _), h.num, Nat.sub_self] at hk
    simp at hk
    subst hk
    exact RqAt.here hf
section
variable {ops : Array Oper} {rest : List Oper} {o : Oper} {a : Act} {Q : Exit → Act → World → Prop} {w0 w : World} {S F : List Chunk} {b : Nat} {x y : Operand} {cur : Array Value}
/-- A request is written whole. -/
theorem storeRq {p off i : Nat} {q : Rq} (hS : Sat w0 S w) (hw : Region.wanted o (yielded ops a.tmps) = true) (ho : o.op = .store 61 x y) (hx : a.eval x = .pointer (some ⟨b, p, none⟩)) (hy : a.eval y = .agg #[.int .i64 q.1, .bool q.2]) (hp : p = off + 2 * i) (hf : off + 2 * i + 2 ≤ cur.size)
    [pp : Pull S b (cells cur 61) F]
    (k : ∀ w', Sat w0 ((b, cells (putRq cur (off + 2 * i) q) 61) :: F) w' → wpList Try.prog ops Q rest (a.put o.dst undef) w') : wpList Try.prog ops Q (o :: rest) a w := by
  subst hp
  have ty : Ty Try.prog 61 true 2 (.agg #[.int .i64 0, .bool false]) #[.int .i64 0, .bool false] := inferInstance
  refine storeN (cs := rqC q) (n := 2) (agg := true) hS hw ho hx hy rfl (fun u hu => ?_) (b := b) (c := cur) (tb := 61) hf fun w' h => k w' h
  have hu2 : u ∈ rqL q := hu
  unfold rqL at hu2
  rcases List.mem_cons.1 hu2 with rfl | hu2
  · rfl
  · rw [List.mem_singleton.1 hu2]; rfl
/-- 's[i:]' of a queue. -/
theorem restQ {off n cap i : Nat} {lo : Operand} {ik : IntKind} (hw : Region.wanted o (yielded ops a.tmps) = true) (ho : o.op = .slice 56 x (some lo) none none) (hx : a.eval x = .slice (some ⟨b, off, none⟩) n cap) (hlo : a.eval lo = .int ik (i : Int)) (hi : i ≤ n) (hc : n ≤ cap)
    (k : ∀ ad, (i < n → ad = ⟨b, off + 2 * i, none⟩) → wpList Try.prog ops Q rest (a.put o.dst (.slice (some ad) (n - i) (cap - i))) w) : wpList Try.prog ops Q (o :: rest) a w := by
  have st : SliceTy Try.prog 56 61 := inferInstance
  have ty : Ty Try.prog 61 true 2 (.agg #[.int .i64 0, .bool false]) #[.int .i64 0, .bool false] := inferInstance
  refine wp_value hw (w' := w) (v := .slice (some (if cap = i then ⟨b, off, none⟩ else (⟨b, off, none⟩ : Addr).add (i * 2))) (n - i) (cap - i)) ?_ (k _ ?_)
  · have h1 : ¬ ((i : Int) < 0) := by omega
    have h2 : (i : Int) ≤ n := by omega
    simp [execOp, ho, hx, hlo, Instr.sliceAt, run_underlying st.is, Instr.slice, Instr.sliceBounds, Instr.sliceBound, asIntOf, ty.size, hi]
    by_cases h : cap = i <;> simp [h]
  · intro hlt
    rw [if_neg (by omega)]
    unfold Addr.add
    split <;> simp_all
    omega
theorem clearQ {m c p : Nat} {ad : Addr} (hS : Sat w0 S w) (hw : Region.wanted o (yielded ops a.tmps) = true) (ho : o.op = .call { callee := .builtin .clear, args := #[x], argTypes := #[56] }) (hx : a.eval x = .slice (some ad) m c) (had : 0 < m → ad = ⟨b, p, none⟩) (hfit : p + 2 * m ≤ cur.size)
    [pp : Pull S b (cells cur 61) F]
    (k : ∀ cur' w', cur'.size = cur.size → (∀ q, q < p → cur'[q]? = cur[q]?) → Sat w0 ((b, cells cur' 61) :: F) w' → wpList Try.prog ops Q rest (a.put o.dst (.tuple #[])) w') : wpList Try.prog ops Q (o :: rest) a w := by
  have st : SliceTy Try.prog 56 61 := inferInstance
  have ty : Ty Try.prog 61 true 2 (.agg #[.int .i64 0, .bool false]) #[.int .i64 0, .bool false] := inferInstance
  cases m with
  | zero =>
    refine wp_value hw (w' := w) ?_ (k cur w rfl (fun _ _ => rfl) (hS.perm pp.perm))
    simp [execOp, ho, resolve, invoke, builtin, hx, Builtin.clear_, run_underlying st.is]
  | succ m =>
    have e := had (by omega)
    subst e
    have hg := hS.cellsAt (b := b) (c := cur) (t := 61)
    obtain ⟨zs, hzs⟩ : ∃ zs, (Builtin.zeroCells (Value.agg #[.int .i64 0, .bool false]).cells (m + 1)).toList = zs := ⟨_, rfl⟩
    have hzl : zs.length = 2 * (m + 1) := by
      rw [← hzs, Array.length_toList, size_zeroCells]
      simp [Value.cells]
      omega
    have hz1 : ∀ u ∈ zs, u.oneCell' = true := fun u hu => by
      rw [← hzs] at hu
      unfold Builtin.zeroCells at hu
      rw [Array.toList_map] at hu
      obtain ⟨i, -, rfl⟩ := List.mem_map.1 hu
      have hsz : (Value.agg #[.int .i64 0, .bool false]).cells.size = 2 := rfl
      rw [hsz]
      have h2 : i % 2 = 0 ∨ i % 2 = 1 := by omega
      rcases h2 with h2 | h2
      · rw [h2]; rfl
      · rw [h2]; rfl
    have hst := run_storeCells_at Try.prog b p 61 zs 0 cur w hg.2 (by omega) hz1
    simp only [Nat.add_zero] at hst
    have hsz : (cur.toList.take p).length = p := by rw [List.length_take, Array.length_toList]; omega
    refine wp_value hw (w' := w.setRow b (cur.toList.take p ++ zs ++ cur.toList.drop (p + zs.length)).toArray) ?_ (k _ _ ?_ ?_ (hS.setRow (b := b) (c := cur) (t := 61) _))
    · simp [execOp, ho, resolve, invoke, builtin, hx, Builtin.clear_, run_underlying st.is, ty.zero, hzs, hst]
    · simp only [List.size_toArray, List.length_append, List.length_take, List.length_drop, Array.length_toList]
      omega
    · intro q hq
      rw [List.getElem?_toArray, List.append_assoc, List.getElem?_append_left (by omega), List.getElem?_take, if_pos hq]
      simp
end
section
variable {w0 w : World} {K F S : List Chunk} {tb : Nat} {task : Int} {L : List Rq} {v : Value}
set_option maxRecDepth 100000 in
set_option maxHeartbeats 4000000 in
theorem deleteFunc_any (hl : L.length ≤ 1000000) (hS : Sat w0 ((blk v, qC L v) :: (tb, cells #[.int .i64 task] 3) :: K) w) :
    Calls Try.prog 21 #[v, .func (.func 22) #[] #[.pointer (some ⟨tb, 0, none⟩)]] w fun e w' => ∃ v', e = .returned v' ∧ Sat w0 ((blk v', qC (others L task) v') :: (tb, cells #[.int .i64 task] 3) :: K) w' := by
  obtain ⟨n, hn⟩ : ∃ n, L.length = n := ⟨_, rfl⟩
  have Hn : Bx _ := ⟨hn⟩
  have HL : Bx (L.length ≤ 1000000) := ⟨hl⟩
  have hn1 : n ≤ 1000000 := by rw [← hn]; exact hl
  clear hn hl
  go_enter Try.func21, Try.ntmps21
  go_wp2_with (first | (guard_target =~ Calls _ 27 _ _ _; refine Stopped.out ?_) | (refine load1 hS rfl rfl rfl rfl ?_; simp only [putW]) | (refine loadAll hS rfl rfl rfl ?_ ?_; rfl; simp only [putW]) | (refine loadPart hS rfl rfl rfl ?_ rfl ?_; rfl; simp only [putW]) | (refine store1 hS rfl rfl rfl rfl rfl ?_ ?_; (focus (simp; done)); clear hS; intro w hS; simp only [evW, putW] at hS; try simp only [putW]) | (refine storeAll hS rfl rfl rfl rfl ?_ ?_ ?_ ?_; rfl; (focus (simp [Value.oneCell']; done)); rfl; clear hS; intro w hS; try simp only [putW]) | (refine storeN hS rfl rfl rfl rfl ?_ ?_ ?_ ?_; rfl; (focus (simp [Value.oneCell']; done)); (focus (simp; done)); clear hS; intro w hS; simp at hS; try simp only [putW]) | (refine alloc hS rfl rfl ?_; clear hS; intro mb w hS; simp only [putW]) | (refine box1 hS rfl rfl rfl rfl ?_; clear hS; intro mb w hS; try simp only [evW, putW] at hS; simp only [putW]) | (refine boxN hS rfl rfl rfl ?_; clear hS; intro mb w hS; simp only [putW]))
  refine ⟨?_⟩
  refine Calls.mono (indexFunc_any HL.out hS) ?_
  clear hS
  rintro _ w ⟨r, rfl, hfirst, hS⟩
  simp only [putW]
  rcases hfirst with ⟨rfl, hnone⟩ | ⟨i0, x0, rfl, hx0, hxt0, hbefore⟩
  · have HN : Bx (others L task = L) := ⟨others_none hnone⟩
    clear hnone
    go_wp2_with (first | (refine load1 hS rfl rfl rfl rfl ?_; simp only [putW]) | (refine loadAll hS rfl rfl rfl ?_ ?_; rfl; simp only [putW]) | (refine loadPart hS rfl rfl rfl ?_ rfl ?_; rfl; simp only [putW]) | (refine store1 hS rfl rfl rfl rfl rfl ?_ ?_; (focus (simp; done)); clear hS; intro w hS; simp only [evW, putW] at hS; try simp only [putW]) | (refine storeAll hS rfl rfl rfl rfl ?_ ?_ ?_ ?_; rfl; (focus (simp [Value.oneCell']; done)); rfl; clear hS; intro w hS; try simp only [putW]) | (refine storeN hS rfl rfl rfl rfl ?_ ?_ ?_ ?_; rfl; (focus (simp [Value.oneCell']; done)); (focus (simp; done)); clear hS; intro w hS; simp at hS; try simp only [putW]) | (refine alloc hS rfl rfl ?_; clear hS; intro mb w hS; simp only [putW]) | (refine box1 hS rfl rfl rfl rfl ?_; clear hS; intro mb w hS; try simp only [evW, putW] at hS; simp only [putW]) | (refine boxN hS rfl rfl rfl ?_; clear hS; intro mb w hS; simp only [putW]))
    go_ret
    exact ⟨v, rfl, by rw [HN.out]; exact hS⟩
  · obtain ⟨b0, hb0⟩ : ∃ b0, blk v = b0 := ⟨_, rfl⟩
    rw [hb0] at hS
    rcases qOpen hS with ⟨-, rfl, -⟩ | ⟨off, cap, cur0, hv, hq, hS2⟩
    · simp at hx0
    · rw [Hn.out] at hv
      subst hv
      clear hb0 hS
      have hS := hS2
      clear hS2
      have hi0 : i0 < n := by rw [← Hn.out]; exact (List.getElem?_eq_some_iff.1 hx0).1
      have hnc : n ≤ cap := by rw [← Hn.out]; exact hq.len
      have HC : Bx (cap ≤ maxLen) := ⟨hq.cap⟩
      have HK0 : Bx _ := ⟨Kept.start hq hx0 hxt0 hbefore⟩
      have hne : ¬ (i0 : Int) = -1 := by omega
      have dne : decide ((i0 : Int) = -1) = false := decide_eq_false hne
      clear hx0 hxt0 hbefore hq
      go_wp2_with (first | (refine load1 hS rfl rfl rfl rfl ?_; simp only [putW]) | (refine loadAll hS rfl rfl rfl ?_ ?_; rfl; simp only [putW]) | (refine loadPart hS rfl rfl rfl ?_ rfl ?_; rfl; simp only [putW]) | (refine store1 hS rfl rfl rfl rfl rfl ?_ ?_; (focus (simp; done)); clear hS; intro w hS; simp only [evW, putW] at hS; try simp only [putW]) | (refine storeAll hS rfl rfl rfl rfl ?_ ?_ ?_ ?_; rfl; (focus (simp [Value.oneCell']; done)); rfl; clear hS; intro w hS; try simp only [putW]) | (refine storeN hS rfl rfl rfl rfl ?_ ?_ ?_ ?_; rfl; (focus (simp [Value.oneCell']; done)); (focus (simp; done)); clear hS; intro w hS; simp at hS; try simp only [putW]) | (refine alloc hS rfl rfl ?_; clear hS; intro mb w hS; simp only [putW]) | (refine box1 hS rfl rfl rfl rfl ?_; clear hS; intro mb w hS; try simp only [evW, putW] at hS; simp only [putW]) | (refine boxN hS rfl rfl rfl ?_; clear hS; intro mb w hS; simp only [putW]))
      obtain ⟨g0, hg0⟩ : ∃ g0, i0 + 1 + g0 = n := ⟨n - (i0 + 1), by omega⟩
      have Hg0 : Bx _ := ⟨hg0⟩
      clear hg0
      go_loopg [5, 6] g0 (fun g iv jv wr => ∃ (i j : Nat) (cur : Array Value), j + g = n ∧ iv = .int .i64 i ∧ jv = .int .i64 j ∧ Bx (Kept L task off cap j i cur) ∧ Sat w0 ((b0, cells cur 61) :: (tb, cells #[.int .i64 task] 3) :: K) wr)
      case atStart => exact ⟨i0, i0 + 1, cur0, Hg0.out, rfl, by go_num, HK0, hS⟩
      case round =>
        clear hS HK0
        obtain ⟨i, j, cur, hjg, rfl, rfl, HK, hS⟩ := hrel
        have hij : i ≤ j := HK.out.le
        cases gk with
        | zero =>
          have hjn : j = n := by omega
          subst hjn
          have hfit : off + 2 * cap ≤ cur.size := HK.out.fit
          have hf2 : off + 2 * i + 2 * (j - i) ≤ cur.size := by omega
          clear hjg
          go_wp2_with (first | (guard_target =~ wpList _ _ _ (Oper.mk (some 38) _ _ _ _ _ :: _) _ _; refine Stopped.out ?_) | (refine load1 hS rfl rfl rfl rfl ?_; simp only [putW]) | (refine loadAll hS rfl rfl rfl ?_ ?_; rfl; simp only [putW]) | (refine loadPart hS rfl rfl rfl ?_ rfl ?_; rfl; simp only [putW]) | (refine store1 hS rfl rfl rfl rfl rfl ?_ ?_; (focus (simp; done)); clear hS; intro w hS; simp only [evW, putW] at hS; try simp only [putW]) | (refine storeAll hS rfl rfl rfl rfl ?_ ?_ ?_ ?_; rfl; (focus (simp [Value.oneCell']; done)); rfl; clear hS; intro w hS; try simp only [putW]) | (refine storeN hS rfl rfl rfl rfl ?_ ?_ ?_ ?_; rfl; (focus (simp [Value.oneCell']; done)); (focus (simp; done)); clear hS; intro w hS; simp at hS; try simp only [putW]) | (refine alloc hS rfl rfl ?_; clear hS; intro mb w hS; simp only [putW]) | (refine box1 hS rfl rfl rfl rfl ?_; clear hS; intro mb w hS; try simp only [evW, putW] at hS; simp only [putW]) | (refine boxN hS rfl rfl rfl ?_; clear hS; intro mb w hS; simp only [putW]))
          refine ⟨?_⟩
          refine restQ (b := b0) (i := i) rfl rfl rfl rfl hij hnc ?_
          intro ad had
          simp only [putW]
          go_wp2_with (first | (refine clearQ (b := b0) (p := off + 2 * i) (cur := cur) hS rfl rfl rfl (fun h => had (by omega)) hf2 ?_; clear hS; intro cur2 w hsz hlow hS; have HSz : Bx (cur2.size = cur.size) := ⟨hsz⟩; have HLow : Bx (∀ q, q < off + 2 * i → cur2[q]? = cur[q]?) := ⟨hlow⟩; clear hsz hlow; simp only [putW]) | (refine sliceHi (i := i) rfl rfl rfl rfl rfl ?_ ?_; (focus omega); simp only [putW]) | (refine load1 hS rfl rfl rfl rfl ?_; simp only [putW]) | (refine loadAll hS rfl rfl rfl ?_ ?_; rfl; simp only [putW]) | (refine loadPart hS rfl rfl rfl ?_ rfl ?_; rfl; simp only [putW]) | (refine store1 hS rfl rfl rfl rfl rfl ?_ ?_; (focus (simp; done)); clear hS; intro w hS; simp only [evW, putW] at hS; try simp only [putW]) | (refine storeAll hS rfl rfl rfl rfl ?_ ?_ ?_ ?_; rfl; (focus (simp [Value.oneCell']; done)); rfl; clear hS; intro w hS; try simp only [putW]) | (refine storeN hS rfl rfl rfl rfl ?_ ?_ ?_ ?_; rfl; (focus (simp [Value.oneCell']; done)); (focus (simp; done)); clear hS; intro w hS; simp at hS; try simp only [putW]) | (refine alloc hS rfl rfl ?_; clear hS; intro mb w hS; simp only [putW]) | (refine box1 hS rfl rfl rfl rfl ?_; clear hS; intro mb w hS; try simp only [evW, putW] at hS; simp only [putW]) | (refine boxN hS rfl rfl rfl ?_; clear hS; intro mb w hS; simp only [putW]))
          go_ret
          refine ⟨.slice (some ⟨b0, off, none⟩) i cap, rfl, ?_⟩
          have e : L.take j = L := List.take_of_length_le (by rw [Hn.out]; exact Nat.le_refl _)
          have hnum := HK.out.num
          rw [e] at hnum
          refine qShut hS ⟨by rw [HSz.out]; exact hfit, by rw [hnum]; omega, HC.out, fun k x hk => ?_⟩ hnum
          have hr := HK.out.low k x (by rw [e]; exact hk)
          have hki : k < i := by rw [← hnum]; exact (List.getElem?_eq_some_iff.1 hk).1
          exact ⟨by rw [HLow.out _ (by omega)]; exact hr.1, by rw [HLow.out _ (by omega)]; exact hr.2⟩
        | succ g =>
          have hjn : j < n := by omega
          have e1 : decide ((j : Int) < (n : Int)) = true := decide_eq_true (by omega)
          obtain ⟨x, hx⟩ : ∃ x, L[j]? = some x := ⟨_, List.getElem?_eq_getElem (by rw [Hn.out]; exact hjn)⟩
          obtain ⟨x1, x2⟩ := x
          have HX : Bx _ := ⟨hx⟩
          have HR := Lib.hid (HK.out.high j _ (Nat.le_refl _) hx)
          clear hx
          go_wp2_with (first | (refine loadRq (b := b0) (k := j) (q := (x1, x2)) hS rfl rfl rfl ?_ HR.out.1 HR.out.2 ?_; (focus omega); simp only [putW]) | (refine alloc (t := 61) hS rfl rfl ?_; clear hS; intro m7 w hS; simp only [putW]) | (refine storeAll (t := 61) (cs := #[.int .i64 x1, .bool x2]) hS rfl rfl rfl rfl ?_ ?_ ?_ ?_; (focus rfl); (focus (simp [Value.oneCell']; done)); (focus rfl); clear hS; intro w hS; try simp only [putW]) | (guard_target =~ Calls _ 22 _ _ _; refine Stopped.out ?_) | (refine load1 hS rfl rfl rfl rfl ?_; simp only [putW]) | (refine loadAll hS rfl rfl rfl ?_ ?_; rfl; simp only [putW]) | (refine loadPart hS rfl rfl rfl ?_ rfl ?_; rfl; simp only [putW]) | (refine store1 hS rfl rfl rfl rfl rfl ?_ ?_; (focus (simp; done)); clear hS; intro w hS; simp only [evW, putW] at hS; try simp only [putW]) | (refine storeAll hS rfl rfl rfl rfl ?_ ?_ ?_ ?_; rfl; (focus (simp [Value.oneCell']; done)); rfl; clear hS; intro w hS; try simp only [putW]) | (refine storeN hS rfl rfl rfl rfl ?_ ?_ ?_ ?_; rfl; (focus (simp [Value.oneCell']; done)); (focus (simp; done)); clear hS; intro w hS; simp at hS; try simp only [putW]) | (refine alloc hS rfl rfl ?_; clear hS; intro mb w hS; simp only [putW]) | (refine box1 hS rfl rfl rfl rfl ?_; clear hS; intro mb w hS; try simp only [evW, putW] at hS; simp only [putW]) | (refine boxN hS rfl rfl rfl ?_; clear hS; intro mb w hS; simp only [putW]))
          refine ⟨?_⟩
          refine Calls.mono (free1_any (task := task) (hS.conv (S' := (tb, cells #[.int .i64 task] 3) :: (m7, cells #[.int .i64 x1, .bool x2] 61) :: (b0, cells cur 61) :: K))) ?_
          clear hS
          rintro _ w ⟨rfl, hS⟩
          simp only [putW]
          by_cases hxt : x1 = task
          · have d1 : decide (x1 = task) = true := decide_eq_true hxt
            have HK2 : Bx _ := ⟨HK.out.skip HX.out hxt⟩
            rw [d1]
            clear d1 hxt
            go_wp2_with (first | (refine load1 hS rfl rfl rfl rfl ?_; simp only [putW]) | (refine loadAll hS rfl rfl rfl ?_ ?_; rfl; simp only [putW]) | (refine loadPart hS rfl rfl rfl ?_ rfl ?_; rfl; simp only [putW]) | (refine store1 hS rfl rfl rfl rfl rfl ?_ ?_; (focus (simp; done)); clear hS; intro w hS; simp only [evW, putW] at hS; try simp only [putW]) | (refine storeAll hS rfl rfl rfl rfl ?_ ?_ ?_ ?_; rfl; (focus (simp [Value.oneCell']; done)); rfl; clear hS; intro w hS; try simp only [putW]) | (refine storeN hS rfl rfl rfl rfl ?_ ?_ ?_ ?_; rfl; (focus (simp [Value.oneCell']; done)); (focus (simp; done)); clear hS; intro w hS; simp at hS; try simp only [putW]) | (refine alloc hS rfl rfl ?_; clear hS; intro mb w hS; simp only [putW]) | (refine box1 hS rfl rfl rfl rfl ?_; clear hS; intro mb w hS; try simp only [evW, putW] at hS; simp only [putW]) | (refine boxN hS rfl rfl rfl ?_; clear hS; intro mb w hS; simp only [putW]))
            go_roundg g
            case measure => omega
            case rel => exact ⟨i, j + 1, cur, by omega, rfl, by go_num, HK2, hS.conv⟩
          · have d1 : decide (x1 = task) = false := decide_eq_false hxt
            have HK2 : Bx _ := ⟨HK.out.keep HX.out hxt (by rw [Hn.out]; exact hnc)⟩
            have hfit : off + 2 * i + 2 ≤ cur.size := by have := HK.out.fit; omega
            rw [d1]
            clear d1 hxt
            have hin : i < n := by omega
            go_wp2_with (first | (refine storeRq (b := b0) (i := i) (off := off) (q := (x1, x2)) (cur := cur) hS rfl rfl rfl rfl ?_ hfit ?_; (focus omega); clear hS; intro w hS; try simp only [putW]) | (refine load1 hS rfl rfl rfl rfl ?_; simp only [putW]) | (refine loadAll hS rfl rfl rfl ?_ ?_; rfl; simp only [putW]) | (refine loadPart hS rfl rfl rfl ?_ rfl ?_; rfl; simp only [putW]) | (refine store1 hS rfl rfl rfl rfl rfl ?_ ?_; (focus (simp; done)); clear hS; intro w hS; simp only [evW, putW] at hS; try simp only [putW]) | (refine storeAll hS rfl rfl rfl rfl ?_ ?_ ?_ ?_; rfl; (focus (simp [Value.oneCell']; done)); rfl; clear hS; intro w hS; try simp only [putW]) | (refine storeN hS rfl rfl rfl rfl ?_ ?_ ?_ ?_; rfl; (focus (simp [Value.oneCell']; done)); (focus (simp; done)); clear hS; intro w hS; simp at hS; try simp only [putW]) | (refine alloc hS rfl rfl ?_; clear hS; intro mb w hS; simp only [putW]) | (refine box1 hS rfl rfl rfl rfl ?_; clear hS; intro mb w hS; try simp only [evW, putW] at hS; simp only [putW]) | (refine boxN hS rfl rfl rfl ?_; clear hS; intro mb w hS; simp only [putW]))
            go_roundg g
            case measure => omega
            case rel => exact ⟨i + 1, j + 1, _, by omega, by go_num, by go_num, HK2, hS.conv⟩
end
end Go.Proofs.Ytojdkioimklhmaa
