/-
  latch: a queue of requests: a slice of the call's own that may begin anywhere in its block.
-/
import Derived.Test.YtojdkioimklhmaaTab
import Derived.Test.YtojdkioimklhmaaSlB
import Derived.Test.YtojdkioimklhmaaSlRange
set_option linter.unusedSimpArgs false
set_option linter.unusedVariables false
namespace Go.Proofs.Ytojdkioimklhmaa
open Go.RowKit Go.Proofs.Ytojdkioimklhmaa.Sl

/-- A request: whose, and whether alone. -/
abbrev Rq := Int × Bool
def rqL (x : Rq) : List Value := [.int .i64 x.1, .bool x.2]
def rqC (x : Rq) : Array Value := #[.int .i64 x.1, .bool x.2]
/-- Element k of what begins at off. -/
def RqAt (cur : Array Value) (off k : Nat) (x : Rq) : Prop := cur[off + 2 * k]? = some (.int .i64 x.1) ∧ cur[off + 2 * k + 1]? = some (.bool x.2)
structure QIs (L : List Rq) (off cap : Nat) (cur : Array Value) : Prop where
  fit : off + 2 * cap ≤ cur.size
  len : L.length ≤ cap
  cap : cap ≤ maxLen
  has : ∀ k x, L[k]? = some x → RqAt cur off k x
/-- A queue. -/
def qC (L : List Rq) (v : Value) : K := fun b h => (v = .slice none 0 0 ∧ L = []) ∨ ∃ off cap cur, v = .slice (some ⟨b, off, none⟩) L.length cap ∧ h b = some (.cells cur 61 (0, 0)) ∧ QIs L off cap cur
/-- An element laid over place p. -/
def putRq (cur : Array Value) (p : Nat) (x : Rq) : Array Value := (cur.toList.take p ++ rqL x ++ cur.toList.drop (p + 2)).toArray
theorem putRq_size {cur : Array Value} {p : Nat} {x : Rq} (h : p + 2 ≤ cur.size) : (putRq cur p x).size = cur.size := by
  unfold putRq
  simp only [rqL, List.size_toArray, List.length_append, List.length_take, List.length_drop, Array.length_toList, List.length_cons, List.length_nil]
  omega
theorem putRq_get {cur : Array Value} {p q : Nat} {x : Rq} (h : p + 2 ≤ cur.size) : (putRq cur p x)[q]? = if q = p then some (.int .i64 x.1) else if q = p + 1 then some (.bool x.2) else cur[q]? := by
  have hl : (cur.toList.take p).length = p := by rw [List.length_take, Array.length_toList]; omega
  unfold putRq
  rw [List.getElem?_toArray, List.append_assoc]
  by_cases h1 : q < p
  · rw [List.getElem?_append_left (by omega), List.getElem?_take, if_pos h1, if_neg (by omega), if_neg (by omega)]
    simp
  · rw [List.getElem?_append_right (by omega), hl]
    by_cases h2 : q = p
    · subst h2
      rw [if_pos rfl, Nat.sub_self]
      rfl
    · rw [if_neg h2]
      by_cases h3 : q = p + 1
      · subst h3
        rw [if_pos rfl, show p + 1 - p = 1 by omega]
        rfl
      · rw [if_neg h3, List.getElem?_append_right (by simp [rqL]; omega), List.getElem?_drop]
        simp only [rqL, List.length_cons, List.length_nil, Array.getElem?_toList]
        rw [show p + 2 + (q - p - (0 + 1 + 1)) = q by omega]
theorem RqAt.put {cur : Array Value} {off i k : Nat} {x y : Rq} (h : RqAt cur off k y) (hf : off + 2 * i + 2 ≤ cur.size) (hne : k ≠ i) : RqAt (putRq cur (off + 2 * i) x) off k y := by
  refine ⟨?_, ?_⟩
  · rw [putRq_get hf, if_neg (by omega), if_neg (by omega)]
    exact h.1
  · rw [putRq_get hf, if_neg (by omega), if_neg (by omega)]
    exact h.2
theorem RqAt.here {cur : Array Value} {off i : Nat} {x : Rq} (hf : off + 2 * i + 2 ≤ cur.size) : RqAt (putRq cur (off + 2 * i) x) off i x := by
  refine ⟨?_, ?_⟩
  · rw [putRq_get hf, if_pos rfl]
  · rw [putRq_get hf, if_neg (by omega), if_pos rfl]
theorem QIs.app {L : List Rq} {off cap : Nat} {cur : Array Value} (h : QIs L off cap cur) (hl : L.length + 1 ≤ cap) (x : Rq) : QIs (L ++ [x]) off cap (putRq cur (off + 2 * L.length) x) := by
  have hf : off + 2 * L.length + 2 ≤ cur.size := by have := h.fit; omega
  refine ⟨by rw [putRq_size hf]; exact h.fit, by simpa using hl, h.cap, fun k y hk => ?_⟩
  by_cases e : k < L.length
  · rw [List.getElem?_append_left e] at hk
    exact (h.has k y hk).put hf (by omega)
  · have hk2 : k = L.length := by
      have := (List.getElem?_eq_some_iff.1 hk).1
      simp at this
      omega
    subst hk2
    rw [List.getElem?_append_right (Nat.le_refl _), Nat.sub_self] at hk
    simp at hk
    subst hk
    exact RqAt.here hf
/-- The cells of a queue's elements. -/
theorem QIs.flat {L : List Rq} {off cap : Nat} {cur : Array Value} (h : QIs L off cap cur) : ∀ (d : Nat) (u : Value), (L.flatMap rqL)[d]? = some u → cur[off + d]? = some u := fun d u hd => by
  have hlen : (L.flatMap rqL).length = L.length * 2 := flatMap_length (n := 2) fun x _ => rfl
  have hlt := (List.getElem?_eq_some_iff.1 hd).1
  rw [hlen] at hlt
  obtain ⟨x, hx⟩ : ∃ x, L[d / 2]? = some x := ⟨_, List.getElem?_eq_getElem (by omega)⟩
  have hj : d % 2 < 2 := Nat.mod_lt _ (by omega)
  have hg := flatMap_get (n := 2) (f := rqL) (l := L) (i := d / 2) (j := d % 2) (x := x) (fun x _ => rfl) hx hj
  have e : d / 2 * 2 + d % 2 = d := by omega
  rw [e, hd] at hg
  have hr := h.has _ _ hx
  rcases Nat.lt_or_ge (d % 2) 1 with h0 | h0
  · have h1 : d % 2 = 0 := by omega
    rw [h1] at hg
    have h2 : u = .int .i64 x.1 := Option.some.inj hg
    rw [h2, show off + d = off + 2 * (d / 2) by omega]
    exact hr.1
  · have h1 : d % 2 = 1 := by omega
    rw [h1] at hg
    have h2 : u = .bool x.2 := Option.some.inj hg
    rw [h2, show off + d = off + 2 * (d / 2) + 1 by omega]
    exact hr.2
theorem QIs.ofFlat {L : List Rq} {cap : Nat} {cur : Array Value} (hs : cur.size = 2 * cap) (hl : L.length ≤ cap) (hc : cap ≤ maxLen) (h : ∀ (d : Nat) (u : Value), (L.flatMap rqL)[d]? = some u → cur[d]? = some u) : QIs L 0 cap cur := by
  refine ⟨by omega, hl, hc, fun k x hk => ?_⟩
  have h0 := flatMap_get (n := 2) (f := rqL) (l := L) (i := k) (j := 0) (x := x) (fun x _ => rfl) hk (by omega)
  have h1 := flatMap_get (n := 2) (f := rqL) (l := L) (i := k) (j := 1) (x := x) (fun x _ => rfl) hk (by omega)
  exact ⟨by rw [show 0 + 2 * k = k * 2 + 0 by omega]; exact h _ _ h0, by rw [show 0 + 2 * k + 1 = k * 2 + 1 by omega]; exact h _ _ h1⟩
section
variable {w0 w : World} {S F F' : List Chunk} {b m : Nat} {L : List Rq} {v : Value} {tb : TypeId}
theorem qNil (h : Sat w0 F w) : Sat w0 ((blk (.slice none 0 0), qC [] (.slice none 0 0)) :: F) w := h.nilChunk _ (.inl ⟨rfl, rfl⟩)
theorem qOpen (h : Sat w0 ((b, qC L v) :: F) w) : (v = .slice none 0 0 ∧ L = [] ∧ Sat w0 F w) ∨ ∃ off cap cur, v = .slice (some ⟨b, off, none⟩) L.length cap ∧ QIs L off cap cur ∧ Sat w0 ((b, cells cur 61) :: F) w := by
  obtain ⟨h1, h2, d, l1, l2, hx, rest⟩ := h.has
  rcases hx with ⟨hv, hl⟩ | ⟨off, cap, cur, hv, hx, hq⟩
  · exact .inl ⟨hv, hl, h.tail⟩
  · exact .inr ⟨off, cap, cur, hv, hq, h.base, h1, h2, d, l1, l2, hx, rest⟩
theorem qShut {off cap : Nat} {cur : Array Value} {n : Nat} (h : Sat w0 ((b, cells cur 61) :: F) w) (hq : QIs L off cap cur) (hn : L.length = n) : Sat w0 ((blk (.slice (some ⟨b, off, none⟩) n cap), qC L (.slice (some ⟨b, off, none⟩) n cap)) :: F) w := by
  subst hn
  exact h.turn fun _ hx => .inr ⟨off, cap, cur, rfl, hx, hq⟩
theorem qShape (h : Sat w0 ((b, qC L v) :: F) w) {n : Nat} (hn : L.length = n) : ∃ q c, v = .slice q n c := by
  subst hn
  rcases qOpen h with ⟨h1, h2, _⟩ | ⟨off, cap, cur, h1, _⟩
  · exact ⟨_, _, by rw [h1, h2]; rfl⟩
  · exact ⟨_, _, h1⟩
/-- 'append' of one request: there is room, or a new block is made. -/
theorem run_appendQ (h : Sat w0 ((b, qC L v) :: F) w) (x : Rq) (ad : Addr) (cs : Nat) (tr : TypeId) (hsrc : ∀ d u, (rqL x)[d]? = some u → w.cell? (ad.add d) = some u) (hlen : L.length + 1 ≤ 1000000) :
    ∃ v' w', (Builtin.append_ #[56, 56] tr #[v, .slice (some ad) 1 cs]).run Try.prog w = .ok v' w' ∧ Sat w0 ((blk v', qC (L ++ [x]) v') :: F) w' := by
  have ty : Ty Try.prog 61 true 2 (.agg #[.int .i64 0, .bool false]) #[.int .i64 0, .bool false] := inferInstance
  have by' : Bytes Try.prog 61 16 := inferInstance
  obtain ⟨i0, hi, hz, hsz, hby⟩ := ty.info by'
  have st : SliceTy Try.prog 56 61 := inferInstance
  have hnews : (rqL x).length = 1 * i0.size := by rw [hsz]; rfl
  have h1 : ∀ u ∈ rqL x, u.oneCell' = true := fun u hu => by
    unfold rqL at hu
    rcases List.mem_cons.1 hu with rfl | hu
    · rfl
    · rw [List.mem_singleton.1 hu]; rfl
  rcases qOpen h with ⟨rfl, rfl, hF⟩ | ⟨off, cap, cur, rfl, hq, hC⟩
  · have hr := run_append_nil (P := Try.prog) w 56 tr 61 i0 _ st.is hi hz ad 1 cs (rqL x) hnews hsrc (by omega) (by omega) (by rw [hby]; omega)
    refine ⟨_, _, hr, ?_⟩
    have hge := grownCap_ge w 1 0 61
    have hcm := grownCap_le_maxLen w 1 0 61 (by simp [maxLen])
    have h3 := hF.drew.freshCells ((rqL x).toArray ++ Builtin.zeroCells (Value.agg #[.int .i64 0, .bool false]).cells (grownCap w 1 0 61 - 1)) 61
    refine qShut (L := [x]) h3 (QIs.ofFlat ?_ hge hcm fun d u hd => ?_) rfl
    · rw [Array.size_append, size_zeroCells]
      simp [rqL, Value.cells]
      omega
    · have hd2 : (rqL x)[d]? = some u := by simpa using hd
      have hlt := (List.getElem?_eq_some_iff.1 hd2).1
      rw [Array.getElem?_append_left (by simpa using hlt), List.getElem?_toArray]
      exact hd2
  · by_cases hroom : L.length + 1 ≤ cap
    · have hg := hC.cellsAt (b := b) (c := cur) (t := 61)
      have hfit : off + 2 * L.length + 2 ≤ cur.size := by have := hq.fit; omega
      have hf := run_firstCells_some (P := Try.prog) w i0.size 1 ad 1 cs (rqL x) hnews hsrc
      have hst := run_storeCells_at Try.prog b (off + L.length * i0.size) 61 (rqL x) 0 cur w hg.2 (by rw [hsz]; show off + L.length * 2 + 0 + 2 ≤ _; omega) h1
      have hadd : (⟨b, off, none⟩ : Addr).add (L.length * i0.size) = ⟨b, off + L.length * i0.size, none⟩ := by unfold Addr.add; split <;> simp_all
      have hr : (Builtin.append_ #[56, 56] tr #[.slice (some ⟨b, off, none⟩) L.length cap, .slice (some ad) 1 cs]).run Try.prog w = .ok (.slice (some ⟨b, off, none⟩) (L.length + 1) cap) (w.setRow b (putRq cur (off + 2 * L.length) x)) := by
        have e : w.setRow b (putRq cur (off + 2 * L.length) x) = w.setRow b (cur.toList.take (off + L.length * i0.size + 0) ++ rqL x ++ cur.toList.drop (off + L.length * i0.size + 0 + (rqL x).length)).toArray := by
          unfold putRq
          rw [hsz, show off + L.length * 2 + 0 = off + 2 * L.length by omega]
          rfl
        rw [e]
        simp [Builtin.append_, run_underlying st.is, sizeOf, typeInfo, hi, Builtin.lenOf, hroom, hf, hadd, hst]
      refine ⟨_, _, hr, ?_⟩
      exact qShut (L := L ++ [x]) (hC.setRow (b := b) (c := cur) (t := 61) _) (hq.app hroom x) (by simp)
    · have holds : ∀ d u, (L.flatMap rqL)[d]? = some u → w.cell? ((⟨b, off, none⟩ : Addr).add d) = some u := fun d u hu => by
        have hadd : (⟨b, off, none⟩ : Addr).add d = ⟨b, off + d, none⟩ := by unfold Addr.add; split <;> simp_all
        rw [hadd, hC.cell (b := b) (c := cur) (t := 61)]
        exact hq.flat d u hu
      have hl2 : (L.flatMap rqL).length = L.length * i0.size := by rw [hsz]; exact flatMap_length (n := 2) fun x _ => rfl
      have hr := run_append_grow (P := Try.prog) w 56 tr 61 i0 _ st.is hi hz ⟨b, off, none⟩ L.length cap (L.flatMap rqL) hl2 holds ad 1 cs (rqL x) hnews hsrc (by omega) (by omega) (growslice_fits (by omega) (by rw [hby]; omega))
      refine ⟨_, _, hr, ?_⟩
      have hge := grownCap_ge w (L.length + 1) cap 61
      have hcm := grownCap_le_maxLen w (L.length + 1) cap 61 (by simp [maxLen]; omega)
      have h3 := hC.tail.drew.freshCells ((L.flatMap rqL).toArray ++ (rqL x).toArray ++ Builtin.zeroCells (Value.agg #[.int .i64 0, .bool false]).cells (grownCap w (L.length + 1) cap 61 - (L.length + 1))) 61
      refine qShut (L := L ++ [x]) h3 (QIs.ofFlat ?_ (by simpa using hge) hcm fun d u hd => ?_) (by simp)
      · rw [Array.size_append, Array.size_append, size_zeroCells, List.size_toArray, hl2, hsz]
        simp [rqL, Value.cells]
        omega
      · rw [List.flatMap_append] at hd
        have hd2 : (L.flatMap rqL ++ rqL x)[d]? = some u := by simpa using hd
        have hlt := (List.getElem?_eq_some_iff.1 hd2).1
        rw [Array.getElem?_append_left (by simpa using hlt), ← Array.getElem?_toList]
        simpa using hd2
end
section
variable {ops : Array Oper} {rest : List Oper} {o : Oper} {a : Act} {Q : Exit → Act → World → Prop} {w0 w : World} {S F F' : List Chunk} {b m : Nat} {L : List Rq} {tb : TypeId} {x y : Operand}
theorem appendQ (hS : Sat w0 S w) (hw : Region.wanted o (yielded ops a.tmps) = true) (ho : o.op = .call { callee := .builtin .append, args := #[x, y], argTypes := #[56, 56] }) (v : Value) (hx : a.eval x = v) (hy : a.eval y = .slice (some ⟨m, 0, none⟩) 1 1)
    (q : Rq) [Pull S m (cells (rqC q) tb) F'] [p : Pull F' (blk v) (qC L v) F] (hlen : L.length + 1 ≤ 1000000)
    (k : ∀ v' w', Sat w0 ((blk v', qC (L ++ [q]) v') :: F) w' → wpList Try.prog ops Q rest (a.put o.dst v') w') : wpList Try.prog ops Q (o :: rest) a w := by
  have hS0 := hS.pull m (X := cells (rqC q) tb) (F := F')
  obtain ⟨v', w', hr, h'⟩ := run_appendQ (hS0.tail.perm p.perm) q ⟨m, 0, none⟩ 1 o.type (fun d u hu => by
    have hadd : (⟨m, 0, none⟩ : Addr).add d = ⟨m, d, none⟩ := by unfold Addr.add; split <;> simp_all
    rw [hadd, hS.cell (b := m) (c := rqC q) (t := tb), ← Array.getElem?_toList]
    exact hu) hlen
  refine wp_value hw (w' := w') ?_ (k v' w' h')
  simp [execOp, ho, resolve, invoke, builtin, hx, hy, hr]
/-- 's[1:]' of a queue that has one. -/
theorem popQ {off cap n : Nat} {q : Rq} {cur : Array Value} {lo : Operand} {ik : IntKind} (hS : Sat w0 S w) (hw : Region.wanted o (yielded ops a.tmps) = true) (ho : o.op = .slice 56 x (some lo) none none) (hx : a.eval x = .slice (some ⟨b, off, none⟩) n cap) (hlo : a.eval lo = .int ik 1)
    (hn : L.length + 1 = n) (hq : QIs (q :: L) off cap cur) [p : Pull S b (cells cur 61) F]
    (k : ∀ v', Sat w0 ((blk v', qC L v') :: F) w → wpList Try.prog ops Q rest (a.put o.dst v') w) : wpList Try.prog ops Q (o :: rest) a w := by
  have st : SliceTy Try.prog 56 61 := inferInstance
  have ty : Ty Try.prog 61 true 2 (.agg #[.int .i64 0, .bool false]) #[.int .i64 0, .bool false] := inferInstance
  have hS0 := hS.perm p.perm
  have hlen := hq.len
  simp only [List.length_cons] at hlen
  refine wp_value hw (w' := w) (v := .slice (some (if cap = 1 then ⟨b, off, none⟩ else ⟨b, off + 2, none⟩)) (n - 1) (cap - 1)) ?_ (k _ ?_)
  · have h2 : (1 : Int) ≤ n := by omega
    have h3 : 1 ≤ n := by omega
    have hadd : (⟨b, off, none⟩ : Addr).add 2 = ⟨b, off + 2, none⟩ := by unfold Addr.add; split <;> simp_all
    simp [execOp, ho, hx, hlo, Instr.sliceAt, run_underlying st.is, Instr.slice, Instr.sliceBounds, Instr.sliceBound, asIntOf, ty.size, h3]
    by_cases h : cap = 1 <;> simp [h, hadd] <;> (intro h9; exact absurd h9 (by omega))
  · by_cases h : cap = 1
    · have hL : L = [] := List.eq_nil_of_length_eq_zero (by omega)
      subst hL
      rw [if_pos h]
      exact qShut hS0 ⟨by have := hq.fit; omega, by simp, by have := hq.cap; omega, fun k x hk => by simp at hk⟩ (by simp at hn; simp; omega)
    · rw [if_neg h]
      refine qShut hS0 ⟨by have := hq.fit; omega, by omega, by have := hq.cap; omega, fun k x hk => ?_⟩ (by omega)
      have hr := hq.has (k + 1) x (by simpa using hk)
      exact ⟨by rw [show off + 2 + 2 * k = off + 2 * (k + 1) by omega]; exact hr.1, by rw [show off + 2 + 2 * k + 1 = off + 2 * (k + 1) + 1 by omega]; exact hr.2⟩
end
end Go.Proofs.Ytojdkioimklhmaa
