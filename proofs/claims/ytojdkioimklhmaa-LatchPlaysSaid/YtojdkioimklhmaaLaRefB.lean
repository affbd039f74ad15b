/-
  thimbleref14: may, Rising.
-/
import Derived.Test.YtojdkioimklhmaaLaRefA
import Derived.Test.YtojdkioimklhmaaSlQuick
set_option linter.unusedSimpArgs false
set_option linter.unusedVariables false
namespace Go.Proofs.Ytojdkioimklhmaa
open Go.RowKit Go.Proofs.Ytojdkioimklhmaa.Sl

/-- 's[k:]' of elements of several cells. -/
def loVn (m : Nat) (q : Option Addr) (n c k : Nat) : Value := .slice (if c = k then q else q.map (·.add (k * m))) (n - k) (c - k)
section
variable {α : Type} {w : World} {m : Nat} {f : α → List Value} {gd : α → Prop} {L : List α} {q : Option Addr} {n c k : Nat}
theorem bslCapN (h : BSl w m f gd L (.slice q n c)) : L.length = n ∧ n ≤ c ∧ c ≤ maxLen := by
  rcases h with ⟨rfl, h | ⟨ad, cap, h1, h2⟩⟩ | ⟨b, off, cap, h0, h1, h2, h⟩
  · cases h; exact ⟨rfl, Nat.le_refl _, by unfold maxLen; omega⟩
  · cases h2; exact ⟨rfl, Nat.zero_le _, h1⟩
  · cases h0; exact ⟨rfl, h1, h2⟩
theorem bslHiN (h : BSl w m f gd L (.slice q n c)) (hk : k ≤ n) : BSl w m f gd (L.take k) (.slice q k c) := by
  rcases h with ⟨rfl, h | ⟨ad, cap, h1, h2⟩⟩ | ⟨b, off, cap, h0, h1, h2, h⟩
  · cases h
    obtain rfl : k = 0 := by omega
    exact .inl ⟨rfl, .inl rfl⟩
  · cases h2
    obtain rfl : k = 0 := by omega
    exact .inl ⟨rfl, .inr ⟨_, _, h1, rfl⟩⟩
  · cases h0
    have e : (L.take k).length = k := by simp; omega
    refine .inr ⟨b, off, c, by rw [e], by rw [e]; omega, h2, ?_⟩
    have := h.part 0 k
    simpa using this
theorem bslLoN (h : BSl w m f gd L (.slice q n c)) (hk : k ≤ n) : BSl w m f gd (L.drop k) (loVn m q n c k) := by
  unfold loVn
  rcases h with ⟨rfl, h | ⟨ad, cap, h1, h2⟩⟩ | ⟨b, off, cap, h0, h1, h2, h⟩
  · cases h
    obtain rfl : k = 0 := by omega
    exact .inl ⟨rfl, .inl rfl⟩
  · cases h2
    obtain rfl : k = 0 := by omega
    refine .inl ⟨rfl, .inr ⟨if c = 0 then ad else ad.add (0 * m), c, h1, ?_⟩⟩
    by_cases e : c = 0
    · simp [e]
    · simp [e]
  · cases h0
    by_cases e : c = k
    · have e2 : L.drop k = [] := List.drop_eq_nil_of_le (by omega)
      rw [e2, if_pos e]
      exact .inl ⟨rfl, .inr ⟨⟨b, off, none⟩, c - k, by omega, by rw [show L.length - k = 0 by omega]⟩⟩
    · rw [if_neg e]
      have e3 : (L.drop k).length = L.length - k := by simp
      have ea : (⟨b, off, none⟩ : Addr).add (k * m) = ⟨b, off + k * m, none⟩ := by unfold Addr.add; split <;> simp_all
      refine .inr ⟨b, off + k * m, c - k, by rw [e3]; show Value.slice (some ((⟨b, off, none⟩ : Addr).add (k * m))) _ _ = _; rw [ea], by rw [e3]; omega, by omega, ?_⟩
      have := h.part k (L.length - k)
      rw [← e3, List.take_length] at this
      simpa using this
end
section
variable {P : Program} {ops : Array Oper} {rest : List Oper} {o : Oper} {a : Act} {Q : Exit → Act → World → Prop} {w : World}
variable {n len cap k : Nat} {z : Array Value} {zv : Value} {t e : TypeId} {x lo : Operand} {q : Option Addr} {qk : IntKind} {li : Int} {agg : Bool}
theorem sliceHiV (hw : Region.wanted o (yielded ops a.tmps) = true) (ho : o.op = .slice t x none (some lo) none) (hx : a.eval x = .slice q len cap) (hlo : a.eval lo = .int qk li) [st : SliceTy P t e] [ty : Ty P e agg n zv z] (hli : li = (k : Int)) (hk : k ≤ cap)
    (kk : wpList P ops Q rest (a.put o.dst (.slice q k cap)) w) : wpList P ops Q (o :: rest) a w := by
  subst hli
  refine wp_value hw (w' := w) (v := .slice q k cap) ?_ kk
  have h2 : (k : Int) ≤ cap := by omega
  simp [execOp, ho, hx, hlo, Instr.sliceAt, run_underlying st.is, Instr.slice, Instr.sliceBounds, Instr.sliceBound, asIntOf, ty.size, hk]
  intro _
  cases q with
  | none => rfl
  | some ad => simp [add_zero]
theorem sliceLoV (hw : Region.wanted o (yielded ops a.tmps) = true) (ho : o.op = .slice t x (some lo) none none) (hx : a.eval x = .slice q len cap) (hlo : a.eval lo = .int qk li) [st : SliceTy P t e] [ty : Ty P e agg n zv z] (hli : li = (k : Int)) (hk : k ≤ len)
    (kk : wpList P ops Q rest (a.put o.dst (loVn n q len cap k)) w) : wpList P ops Q (o :: rest) a w := by
  subst hli
  refine wp_value hw (w' := w) (v := loVn n q len cap k) ?_ kk
  have h2 : (k : Int) ≤ len := by omega
  simp [execOp, ho, hx, hlo, Instr.sliceAt, run_underlying st.is, Instr.slice, Instr.sliceBounds, Instr.sliceBound, asIntOf, ty.size, hk, loVn]
end
/-- An element put where it belongs. -/
theorem rise_next {A O : List Int} {k a : Nat} {x : Int} (hO : O = sortI (A.take k)) (hx : A[k]? = some x) (ha : a ≤ O.length) (h1 : ∀ j y, j < a → O[j]? = some y → y ≤ x) (h2 : ∀ y, O[a]? = some y → ¬ y ≤ x) : O.take a ++ [x] ++ O.drop a = sortI (A.take (k + 1)) := by
  refine sortI_unique ?_ ?_
  · rw [List.take_add_one, hx]
    have h3 : (O.take a ++ [x] ++ O.drop a).Perm (O ++ [x]) := by
      rw [List.append_assoc]
      refine ((List.perm_append_comm (l₁ := [x]) (l₂ := O.drop a)).append_left _).trans ?_
      rw [← List.append_assoc, List.take_append_drop]
    refine h3.trans ?_
    rw [hO]
    exact (sortI_perm _).append_right _
  · have hs : O.Pairwise fun a b => a ≤ b := by rw [hO]; exact sortI_le _
    rw [← List.take_append_drop a O] at hs
    obtain ⟨s1, s2, s3⟩ := List.pairwise_append.1 hs
    have hlo : ∀ y ∈ O.take a, y ≤ x := fun y hy => by
      obtain ⟨j, hj, e⟩ := List.mem_iff_getElem.1 hy
      have hj2 : j < a := by rw [List.length_take] at hj; omega
      refine h1 j y hj2 ?_
      rw [← e, List.getElem_take]
      exact List.getElem?_eq_getElem _
    have hhi : ∀ y ∈ O.drop a, x ≤ y := fun y hy => by
      cases hd : O.drop a with
      | nil => rw [hd] at hy; cases hy
      | cons z zs =>
        have hz : O[a]? = some z := by
          have : (O.drop a)[0]? = some z := by rw [hd]; rfl
          rwa [List.getElem?_drop, Nat.add_zero] at this
        have hz2 := h2 z hz
        rw [hd] at hy s2
        rcases List.mem_cons.1 hy with rfl | hy
        · omega
        · have := (List.pairwise_cons.1 s2).1 y hy
          omega
    rw [List.append_assoc]
    refine List.pairwise_append.2 ⟨s1, List.pairwise_append.2 ⟨List.pairwise_singleton _ _, s2, fun y hy z hz => ?_⟩, fun y hy z hz => ?_⟩
    · rw [List.mem_singleton.1 hy]; exact hhi z hz
    · rcases List.mem_append.1 hz with hz | hz
      · rw [List.mem_singleton.1 hz]; exact hlo y hy
      · exact s3 y hy z hz
theorem openS {α : Type} {w0 w : World} {F : List Chunk} {b m n cap : Nat} {f : α → List Value} {l : List α} {t : TypeId} {q : Option Addr} (h : Sat w0 ((b, sl n f l t (.slice q m cap)) :: F) w) (hl : l.length = m) (h0 : 0 < m) : ∃ g, q = some ⟨g, 0, none⟩ ∧ m ≤ cap ∧ Sat w0 ((g, slc n f l cap t) :: F) w := by
  subst hl
  rcases h.slCases with ⟨_, h2, _⟩ | ⟨c, h1, h2⟩
  · rw [h2] at h0
    cases h0
  · have h3 := (h2.slcFacts (g := b) (n := n) (f := f) (l := l) (cap := c) (t := t)).1
    cases h1
    exact ⟨b, rfl, h3, h2⟩
section
variable {w0 : World} {X : XR} {x : Nat} {vh vq : Value} {task key : Int}
set_option maxRecDepth 100000 in
set_option maxHeartbeats 4000000 in
theorem refMay0 {i : Nat} {w : Wa} (hX : XAt w0 X x vh vq) (hw : X.queue[i]? = some w) : Calls Try.prog 30 #[.pointer (some ⟨x, 0, none⟩), .int .i64 i] w0 fun e w' => ∃ b : Bool, e = .returned (.bool b) ∧ Bx (b = true ↔ MayX X i w) ∧ Sat w0 [] w' := by
  obtain ⟨hT, hH, hQ⟩ := hX
  obtain ⟨ph, ch, rfl, hl, hat⟩ := hH.at
  obtain ⟨pq, cq, rfl, hlq, hatq⟩ := hQ.at
  obtain ⟨n, hn⟩ : ∃ n, X.has.length = n := ⟨_, rfl⟩
  obtain ⟨m, hm⟩ : ∃ m, X.queue.length = m := ⟨_, rfl⟩
  rw [hn, hm] at hT
  rw [hn] at hl
  rw [hm] at hlq
  have him : i < m := by rw [← hm]; exact (List.getElem?_eq_some_iff.1 hw).1
  obtain ⟨qb, qo, hpa, hBQ⟩ := hatq (fun h => by rw [h] at hw; cases hw)
  subst hpa
  obtain ⟨wt, wk, wa⟩ := w
  have HN : Bx _ := ⟨hn⟩
  have HM : Bx _ := ⟨hm⟩
  have HAT : Bx _ := ⟨hat⟩
  have HW : Bx _ := ⟨hw⟩
  clear hn hm hat hatq hH hQ hw
  have hS := Sat.refl w0
  go_enter Try.func30, Try.ntmps30
  go_wp2_with (first | (refine loadB (f := xwF) hS rfl rfl rfl hT 0 1 ?_ rfl rfl ?_; omega; simp only [putW]) | (refine loadBN (f := waF) (vs := [.int .i64 wt, .int .i64 wk, .bool wa]) hS rfl rfl rfl hBQ i 0 ?_ HW.out rfl rfl ?_; (focus omega); simp only [putW]) | (refine alloc (t := 69) hS rfl rfl ?_; clear hS; intro mw w hS; simp only [putW]) | (refine storeAll (cs := #[.int .i64 wt, .int .i64 wk, .bool wa]) hS rfl rfl rfl rfl ?_ ?_ ?_ ?_; (focus rfl); (focus (simp [Value.oneCell']; done)); (focus rfl); clear hS; intro w hS; try simp only [putW]) | (refine load1 hS rfl rfl rfl rfl ?_; simp only [putW]) | (refine loadAll hS rfl rfl rfl ?_ ?_; rfl; simp only [putW]) | (refine loadPart hS rfl rfl rfl ?_ rfl ?_; rfl; simp only [putW]) | (refine store1 hS rfl rfl rfl rfl rfl ?_ ?_; (focus (simp; done)); clear hS; intro w hS; simp only [evW, putW] at hS; try simp only [putW]) | (refine storeAll hS rfl rfl rfl rfl ?_ ?_ ?_ ?_; rfl; (focus (simp [Value.oneCell']; done)); rfl; clear hS; intro w hS; try simp only [putW]) | (refine storeN hS rfl rfl rfl rfl ?_ ?_ ?_ ?_; rfl; (focus (simp [Value.oneCell']; done)); (focus (simp; done)); clear hS; intro w hS; simp at hS; try simp only [putW]) | (refine alloc hS rfl rfl ?_; clear hS; intro mb w hS; simp only [putW]) | (refine box1 hS rfl rfl rfl rfl ?_; clear hS; intro mb w hS; try simp only [evW, putW] at hS; simp only [putW]) | (refine boxN hS rfl rfl rfl ?_; clear hS; intro mb w hS; simp only [putW]))
  go_loopg [6] i (fun g iv wr => ∃ k : Nat, k + g = i ∧ iv = .int .i64 k ∧ Bx (∀ j u, j < k → X.queue[j]? = some u → u.2.1 ≠ wk) ∧ Sat w0 [(mw, cells #[.int .i64 wt, .int .i64 wk, .bool wa] 69)] wr)
  case atStart => exact ⟨0, by omega, rfl, ⟨fun j u hj => absurd hj (Nat.not_lt_zero _)⟩, hS⟩
  case round =>
    clear hS
    obtain ⟨k, hki, rfl, HK, hS⟩ := hrel
    cases gk with
    | succ g =>
      have hlt : k < i := by omega
      have hltm : k < m := by omega
      have d1 : decide ((k : Int) < (i : Int)) = true := decide_eq_true (by omega)
      have d1n : decide (k < i) = true := decide_eq_true hlt
      obtain ⟨u, hu⟩ : ∃ y, X.queue[k]? = some y := ⟨_, List.getElem?_eq_getElem (by rw [HM.out]; exact hltm)⟩
      obtain ⟨tk, ky, al⟩ := u
      have HU : Bx _ := ⟨hu⟩
      clear hu
      by_cases e1 : ky = wk
      · have HF : Bx (¬ MayX X i (wt, wk, wa)) := ⟨fun h => h.1 (tk, ky, al) (by rw [List.mem_take_iff_getElem]; exact ⟨k, by have := HM.out; omega, (List.getElem?_eq_some_iff.1 HU.out).2⟩) e1⟩
        subst e1
        go_upto_region 5 with (first | (refine load1 hS rfl rfl rfl rfl ?_; simp only [putW]) | (refine loadAll hS rfl rfl rfl ?_ ?_; rfl; simp only [putW]) | (refine loadPart hS rfl rfl rfl ?_ rfl ?_; rfl; simp only [putW]) | (refine store1 hS rfl rfl rfl rfl rfl ?_ ?_; (focus (simp; done)); clear hS; intro w hS; simp only [evW, putW] at hS; try simp only [putW]) | (refine storeAll hS rfl rfl rfl rfl ?_ ?_ ?_ ?_; rfl; (focus (simp [Value.oneCell']; done)); rfl; clear hS; intro w hS; try simp only [putW]) | (refine storeN hS rfl rfl rfl rfl ?_ ?_ ?_ ?_; rfl; (focus (simp [Value.oneCell']; done)); (focus (simp; done)); clear hS; intro w hS; simp at hS; try simp only [putW]) | (refine alloc hS rfl rfl ?_; clear hS; intro mb w hS; simp only [putW]) | (refine box1 hS rfl rfl rfl rfl ?_; clear hS; intro mb w hS; try simp only [evW, putW] at hS; simp only [putW]) | (refine boxN hS rfl rfl rfl ?_; clear hS; intro mb w hS; simp only [putW]))
        (refine region_quiet hS (by kernel_rfl) (by kernel_rfl) (by kernel_rfl) ?_; clear hS; (repeat (first | (refine quiet_skip rfl ?_; simp only [putW]) | (apply quiet_run rfl; (focus (intro w hS; go_wp2_with (first | (refine loadB (f := xwF) hS rfl rfl rfl hT 0 1 ?_ rfl rfl ?_; omega; simp only [putW]) | (refine loadB (f := waF) hS rfl rfl rfl hBQ k 1 ?_ HU.out rfl ?_; omega; simp only [putW]) | (refine load1 hS rfl rfl rfl rfl ?_; simp only [putW]) | (refine loadAll hS rfl rfl rfl ?_ ?_; rfl; simp only [putW]) | (refine loadPart hS rfl rfl rfl ?_ rfl ?_; rfl; simp only [putW])); exact ⟨rfl, rfl, hS⟩)); simp only [putW]))); refine quiet_nil ?_; intro w hS)
        go_wp2_with (first | (refine load1 hS rfl rfl rfl rfl ?_; simp only [putW]) | (refine loadAll hS rfl rfl rfl ?_ ?_; rfl; simp only [putW]) | (refine loadPart hS rfl rfl rfl ?_ rfl ?_; rfl; simp only [putW]) | (refine store1 hS rfl rfl rfl rfl rfl ?_ ?_; (focus (simp; done)); clear hS; intro w hS; simp only [evW, putW] at hS; try simp only [putW]) | (refine storeAll hS rfl rfl rfl rfl ?_ ?_ ?_ ?_; rfl; (focus (simp [Value.oneCell']; done)); rfl; clear hS; intro w hS; try simp only [putW]) | (refine storeN hS rfl rfl rfl rfl ?_ ?_ ?_ ?_; rfl; (focus (simp [Value.oneCell']; done)); (focus (simp; done)); clear hS; intro w hS; simp at hS; try simp only [putW]) | (refine alloc hS rfl rfl ?_; clear hS; intro mb w hS; simp only [putW]) | (refine box1 hS rfl rfl rfl rfl ?_; clear hS; intro mb w hS; try simp only [evW, putW] at hS; simp only [putW]) | (refine boxN hS rfl rfl rfl ?_; clear hS; intro mb w hS; simp only [putW]))
        go_ret
        exact ⟨false, rfl, ⟨⟨fun h => absurd h (by decide), fun h => absurd h HF.out⟩⟩, hS.nothing⟩
      · have b1 : (ky == wk) = false := by simpa using e1
        have HK2 : Bx (∀ j u, j < k + 1 → X.queue[j]? = some u → u.2.1 ≠ wk) := ⟨fun j u hj hu => by
          by_cases e : j = k
          · subst e
            rw [HU.out] at hu
            cases hu
            exact e1
          · exact HK.out j u (by omega) hu⟩
        clear e1 HK
        go_upto_region 5 with (first | (refine load1 hS rfl rfl rfl rfl ?_; simp only [putW]) | (refine loadAll hS rfl rfl rfl ?_ ?_; rfl; simp only [putW]) | (refine loadPart hS rfl rfl rfl ?_ rfl ?_; rfl; simp only [putW]) | (refine store1 hS rfl rfl rfl rfl rfl ?_ ?_; (focus (simp; done)); clear hS; intro w hS; simp only [evW, putW] at hS; try simp only [putW]) | (refine storeAll hS rfl rfl rfl rfl ?_ ?_ ?_ ?_; rfl; (focus (simp [Value.oneCell']; done)); rfl; clear hS; intro w hS; try simp only [putW]) | (refine storeN hS rfl rfl rfl rfl ?_ ?_ ?_ ?_; rfl; (focus (simp [Value.oneCell']; done)); (focus (simp; done)); clear hS; intro w hS; simp at hS; try simp only [putW]) | (refine alloc hS rfl rfl ?_; clear hS; intro mb w hS; simp only [putW]) | (refine box1 hS rfl rfl rfl rfl ?_; clear hS; intro mb w hS; try simp only [evW, putW] at hS; simp only [putW]) | (refine boxN hS rfl rfl rfl ?_; clear hS; intro mb w hS; simp only [putW]))
        (refine region_quiet hS (by kernel_rfl) (by kernel_rfl) (by kernel_rfl) ?_; clear hS; (repeat (first | (refine quiet_skip rfl ?_; simp only [putW]) | (apply quiet_run rfl; (focus (intro w hS; go_wp2_with (first | (refine loadB (f := xwF) hS rfl rfl rfl hT 0 1 ?_ rfl rfl ?_; omega; simp only [putW]) | (refine loadB (f := waF) hS rfl rfl rfl hBQ k 1 ?_ HU.out rfl ?_; omega; simp only [putW]) | (refine load1 hS rfl rfl rfl rfl ?_; simp only [putW]) | (refine loadAll hS rfl rfl rfl ?_ ?_; rfl; simp only [putW]) | (refine loadPart hS rfl rfl rfl ?_ rfl ?_; rfl; simp only [putW])); exact ⟨rfl, rfl, hS⟩)); simp only [putW]))); refine quiet_nil ?_; intro w hS)
        go_wp2_with (first | (refine load1 hS rfl rfl rfl rfl ?_; simp only [putW]) | (refine loadAll hS rfl rfl rfl ?_ ?_; rfl; simp only [putW]) | (refine loadPart hS rfl rfl rfl ?_ rfl ?_; rfl; simp only [putW]) | (refine store1 hS rfl rfl rfl rfl rfl ?_ ?_; (focus (simp; done)); clear hS; intro w hS; simp only [evW, putW] at hS; try simp only [putW]) | (refine storeAll hS rfl rfl rfl rfl ?_ ?_ ?_ ?_; rfl; (focus (simp [Value.oneCell']; done)); rfl; clear hS; intro w hS; try simp only [putW]) | (refine storeN hS rfl rfl rfl rfl ?_ ?_ ?_ ?_; rfl; (focus (simp [Value.oneCell']; done)); (focus (simp; done)); clear hS; intro w hS; simp at hS; try simp only [putW]) | (refine alloc hS rfl rfl ?_; clear hS; intro mb w hS; simp only [putW]) | (refine box1 hS rfl rfl rfl rfl ?_; clear hS; intro mb w hS; try simp only [evW, putW] at hS; simp only [putW]) | (refine boxN hS rfl rfl rfl ?_; clear hS; intro mb w hS; simp only [putW]))
        go_roundg g
        case measure => omega
        case rel => exact ⟨k + 1, by omega, by go_num, HK2, hS⟩
    | zero =>
      have e : k = i := by omega
      subst e
      clear hki
      have HQ0 : Bx (∀ u ∈ X.queue.take k, u.2.1 ≠ wk) := ⟨fun u hu => by
        obtain ⟨j, hj, e⟩ := List.mem_iff_getElem.1 hu
        rw [List.getElem_take] at e
        rw [List.length_take] at hj
        exact HK.out j u (by omega) (by rw [← e]; exact List.getElem?_eq_getElem _)⟩
      clear HK
      go_wp2_with (first | (refine load1 hS rfl rfl rfl rfl ?_; simp only [putW]) | (refine loadAll hS rfl rfl rfl ?_ ?_; rfl; simp only [putW]) | (refine loadPart hS rfl rfl rfl ?_ rfl ?_; rfl; simp only [putW]) | (refine store1 hS rfl rfl rfl rfl rfl ?_ ?_; (focus (simp; done)); clear hS; intro w hS; simp only [evW, putW] at hS; try simp only [putW]) | (refine storeAll hS rfl rfl rfl rfl ?_ ?_ ?_ ?_; rfl; (focus (simp [Value.oneCell']; done)); rfl; clear hS; intro w hS; try simp only [putW]) | (refine storeN hS rfl rfl rfl rfl ?_ ?_ ?_ ?_; rfl; (focus (simp [Value.oneCell']; done)); (focus (simp; done)); clear hS; intro w hS; simp at hS; try simp only [putW]) | (refine alloc hS rfl rfl ?_; clear hS; intro mb w hS; simp only [putW]) | (refine box1 hS rfl rfl rfl rfl ?_; clear hS; intro mb w hS; try simp only [evW, putW] at hS; simp only [putW]) | (refine boxN hS rfl rfl rfl ?_; clear hS; intro mb w hS; simp only [putW]))
      go_loopg [7] n (fun g iv wr => ∃ c : Nat, c + g = n ∧ iv = .int .i64 c ∧ Bx (∀ j u, j < c → X.has[j]? = some u → u.2.1 = wk → u.2.2 = false ∧ wa = false) ∧ Sat w0 [(mw, cells #[.int .i64 wt, .int .i64 wk, .bool wa] 69)] wr)
      case atStart => exact ⟨0, by omega, rfl, ⟨fun j u hj => absurd hj (Nat.not_lt_zero _)⟩, hS⟩
      case round =>
        clear hS
        obtain ⟨c, hcn, rfl, HK, hS⟩ := hrel
        cases gk with
        | zero =>
          have e : c = n := by omega
          subst e
          have HYes : Bx (MayX X k (wt, wk, wa)) := ⟨HQ0.out, fun u hu h => by
            obtain ⟨j, hj, e⟩ := List.mem_iff_getElem.1 hu
            exact HK.out j u (by rw [← HN.out]; exact hj) (by rw [← e]; exact List.getElem?_eq_getElem _) h⟩
          clear hcn HK
          go_wp2_with (first | (refine loadB (f := xwF) hS rfl rfl rfl hT 0 0 ?_ rfl rfl ?_; omega; simp only [putW]) | (refine load1 hS rfl rfl rfl rfl ?_; simp only [putW]) | (refine loadAll hS rfl rfl rfl ?_ ?_; rfl; simp only [putW]) | (refine loadPart hS rfl rfl rfl ?_ rfl ?_; rfl; simp only [putW]) | (refine store1 hS rfl rfl rfl rfl rfl ?_ ?_; (focus (simp; done)); clear hS; intro w hS; simp only [evW, putW] at hS; try simp only [putW]) | (refine storeAll hS rfl rfl rfl rfl ?_ ?_ ?_ ?_; rfl; (focus (simp [Value.oneCell']; done)); rfl; clear hS; intro w hS; try simp only [putW]) | (refine storeN hS rfl rfl rfl rfl ?_ ?_ ?_ ?_; rfl; (focus (simp [Value.oneCell']; done)); (focus (simp; done)); clear hS; intro w hS; simp at hS; try simp only [putW]) | (refine alloc hS rfl rfl ?_; clear hS; intro mb w hS; simp only [putW]) | (refine box1 hS rfl rfl rfl rfl ?_; clear hS; intro mb w hS; try simp only [evW, putW] at hS; simp only [putW]) | (refine boxN hS rfl rfl rfl ?_; clear hS; intro mb w hS; simp only [putW]))
          go_ret
          exact ⟨true, rfl, ⟨⟨fun _ => HYes.out, fun _ => rfl⟩⟩, hS.nothing⟩
        | succ g =>
          have hlt : c < n := by omega
          have d1 : decide ((c : Int) < (n : Int)) = true := decide_eq_true (by omega)
          have d1n : decide (c < n) = true := decide_eq_true hlt
          obtain ⟨u, hu⟩ : ∃ y, X.has[c]? = some y := ⟨_, List.getElem?_eq_getElem (by rw [HN.out]; exact hlt)⟩
          obtain ⟨hb, ho, hpb, hBH⟩ := HAT.out (fun h => by rw [h] at hu; cases hu)
          subst hpb
          obtain ⟨tk, ky, al⟩ := u
          have HU : Bx _ := ⟨hu⟩
          clear hu
          by_cases e1 : ky = wk
          · by_cases e2 : al = false ∧ wa = false
            · have HK2 : Bx (∀ j u, j < c + 1 → X.has[j]? = some u → u.2.1 = wk → u.2.2 = false ∧ wa = false) := ⟨fun j u hj hu he => by
                by_cases e : j = c
                · subst e
                  rw [HU.out] at hu
                  cases hu
                  exact e2
                · exact HK.out j u (by omega) hu he⟩
              obtain ⟨rfl, rfl⟩ := e2
              subst e1
              clear HK
              go_upto_region 10 with (first | (refine loadB (f := xwF) hS rfl rfl rfl hT 0 0 ?_ rfl rfl ?_; omega; simp only [putW]) | (refine load1 hS rfl rfl rfl rfl ?_; simp only [putW]) | (refine loadAll hS rfl rfl rfl ?_ ?_; rfl; simp only [putW]) | (refine loadPart hS rfl rfl rfl ?_ rfl ?_; rfl; simp only [putW]) | (refine store1 hS rfl rfl rfl rfl rfl ?_ ?_; (focus (simp; done)); clear hS; intro w hS; simp only [evW, putW] at hS; try simp only [putW]) | (refine storeAll hS rfl rfl rfl rfl ?_ ?_ ?_ ?_; rfl; (focus (simp [Value.oneCell']; done)); rfl; clear hS; intro w hS; try simp only [putW]) | (refine storeN hS rfl rfl rfl rfl ?_ ?_ ?_ ?_; rfl; (focus (simp [Value.oneCell']; done)); (focus (simp; done)); clear hS; intro w hS; simp at hS; try simp only [putW]) | (refine alloc hS rfl rfl ?_; clear hS; intro mb w hS; simp only [putW]) | (refine box1 hS rfl rfl rfl rfl ?_; clear hS; intro mb w hS; try simp only [evW, putW] at hS; simp only [putW]) | (refine boxN hS rfl rfl rfl ?_; clear hS; intro mb w hS; simp only [putW]))
              (refine region_quiet hS (by kernel_rfl) (by kernel_rfl) (by kernel_rfl) ?_; clear hS; (repeat (first | (refine quiet_skip rfl ?_; simp only [putW]) | (refine quiet_y (yLoadB (fun w h => hT.mono h.base fun _ _ h => h) rfl rfl rfl 0 0 (by omega) rfl rfl) ?_; simp only [putW]) | (refine quiet_y (yLoadB (fun w h => hBH.mono h.base fun _ _ h => h) rfl rfl rfl c 1 (by omega) HU.out rfl) ?_; simp only [putW]) | (refine quiet_y (yLoadB (fun w h => hBH.mono h.base fun _ _ h => h) rfl rfl rfl c 2 (by omega) HU.out rfl) ?_; simp only [putW]) | (refine quiet_y (yMove rfl rfl rfl) ?_; simp only [evW, putW]) | (refine quiet_y (yNil rfl rfl rfl) ?_; simp only [putW]) | (refine quiet_y (yLoad1 (fun _ h => h) rfl rfl rfl rfl) ?_; simp only [putW]) | (apply quiet_y; (focus (apply yRun rfl; intro w; first | (go_simp; done) | (go_simp; rfl))); simp only [putW]))); refine quiet_nil ?_; intro w hS)
              go_wp2_with (first | (refine load1 hS rfl rfl rfl rfl ?_; simp only [putW]) | (refine loadAll hS rfl rfl rfl ?_ ?_; rfl; simp only [putW]) | (refine loadPart hS rfl rfl rfl ?_ rfl ?_; rfl; simp only [putW]) | (refine store1 hS rfl rfl rfl rfl rfl ?_ ?_; (focus (simp; done)); clear hS; intro w hS; simp only [evW, putW] at hS; try simp only [putW]) | (refine storeAll hS rfl rfl rfl rfl ?_ ?_ ?_ ?_; rfl; (focus (simp [Value.oneCell']; done)); rfl; clear hS; intro w hS; try simp only [putW]) | (refine storeN hS rfl rfl rfl rfl ?_ ?_ ?_ ?_; rfl; (focus (simp [Value.oneCell']; done)); (focus (simp; done)); clear hS; intro w hS; simp at hS; try simp only [putW]) | (refine alloc hS rfl rfl ?_; clear hS; intro mb w hS; simp only [putW]) | (refine box1 hS rfl rfl rfl rfl ?_; clear hS; intro mb w hS; try simp only [evW, putW] at hS; simp only [putW]) | (refine boxN hS rfl rfl rfl ?_; clear hS; intro mb w hS; simp only [putW]))
              go_roundg g
              case measure => omega
              case rel => exact ⟨c + 1, by omega, by go_num, HK2, hS⟩
            · have HNo : Bx (¬ MayX X k (wt, wk, wa)) := ⟨fun h => e2 (h.2 (tk, ky, al) (List.mem_of_getElem? HU.out) e1)⟩
              have ha : (al || wa) = true := by
                cases al
                · cases wa
                  · exact absurd ⟨rfl, rfl⟩ e2
                  · rfl
                · rfl
              subst e1
              clear e2 HK
              cases al with
              | true =>
                go_upto_region 10 with (first | (refine loadB (f := xwF) hS rfl rfl rfl hT 0 0 ?_ rfl rfl ?_; omega; simp only [putW]) | (refine load1 hS rfl rfl rfl rfl ?_; simp only [putW]) | (refine loadAll hS rfl rfl rfl ?_ ?_; rfl; simp only [putW]) | (refine loadPart hS rfl rfl rfl ?_ rfl ?_; rfl; simp only [putW]) | (refine store1 hS rfl rfl rfl rfl rfl ?_ ?_; (focus (simp; done)); clear hS; intro w hS; simp only [evW, putW] at hS; try simp only [putW]) | (refine storeAll hS rfl rfl rfl rfl ?_ ?_ ?_ ?_; rfl; (focus (simp [Value.oneCell']; done)); rfl; clear hS; intro w hS; try simp only [putW]) | (refine storeN hS rfl rfl rfl rfl ?_ ?_ ?_ ?_; rfl; (focus (simp [Value.oneCell']; done)); (focus (simp; done)); clear hS; intro w hS; simp at hS; try simp only [putW]) | (refine alloc hS rfl rfl ?_; clear hS; intro mb w hS; simp only [putW]) | (refine box1 hS rfl rfl rfl rfl ?_; clear hS; intro mb w hS; try simp only [evW, putW] at hS; simp only [putW]) | (refine boxN hS rfl rfl rfl ?_; clear hS; intro mb w hS; simp only [putW]))
                (refine region_quiet hS (by kernel_rfl) (by kernel_rfl) (by kernel_rfl) ?_; clear hS; (repeat (first | (refine quiet_skip rfl ?_; simp only [putW]) | (refine quiet_y (yLoadB (fun w h => hT.mono h.base fun _ _ h => h) rfl rfl rfl 0 0 (by omega) rfl rfl) ?_; simp only [putW]) | (refine quiet_y (yLoadB (fun w h => hBH.mono h.base fun _ _ h => h) rfl rfl rfl c 1 (by omega) HU.out rfl) ?_; simp only [putW]) | (refine quiet_y (yLoadB (fun w h => hBH.mono h.base fun _ _ h => h) rfl rfl rfl c 2 (by omega) HU.out rfl) ?_; simp only [putW]) | (refine quiet_y (yMove rfl rfl rfl) ?_; simp only [evW, putW]) | (refine quiet_y (yNil rfl rfl rfl) ?_; simp only [putW]) | (refine quiet_y (yLoad1 (fun _ h => h) rfl rfl rfl rfl) ?_; simp only [putW]) | (apply quiet_y; (focus (apply yRun rfl; intro w; first | (go_simp; done) | (go_simp; rfl))); simp only [putW]))); refine quiet_nil ?_; intro w hS)
                go_wp2_with (first | (refine load1 hS rfl rfl rfl rfl ?_; simp only [putW]) | (refine loadAll hS rfl rfl rfl ?_ ?_; rfl; simp only [putW]) | (refine loadPart hS rfl rfl rfl ?_ rfl ?_; rfl; simp only [putW]) | (refine store1 hS rfl rfl rfl rfl rfl ?_ ?_; (focus (simp; done)); clear hS; intro w hS; simp only [evW, putW] at hS; try simp only [putW]) | (refine storeAll hS rfl rfl rfl rfl ?_ ?_ ?_ ?_; rfl; (focus (simp [Value.oneCell']; done)); rfl; clear hS; intro w hS; try simp only [putW]) | (refine storeN hS rfl rfl rfl rfl ?_ ?_ ?_ ?_; rfl; (focus (simp [Value.oneCell']; done)); (focus (simp; done)); clear hS; intro w hS; simp at hS; try simp only [putW]) | (refine alloc hS rfl rfl ?_; clear hS; intro mb w hS; simp only [putW]) | (refine box1 hS rfl rfl rfl rfl ?_; clear hS; intro mb w hS; try simp only [evW, putW] at hS; simp only [putW]) | (refine boxN hS rfl rfl rfl ?_; clear hS; intro mb w hS; simp only [putW]))
                go_ret
                exact ⟨false, rfl, ⟨⟨fun h => absurd h (by decide), fun h => absurd h HNo.out⟩⟩, hS.nothing⟩
              | false =>
                have hwa : wa = true := by simpa using ha
                subst hwa
                go_upto_region 10 with (first | (refine loadB (f := xwF) hS rfl rfl rfl hT 0 0 ?_ rfl rfl ?_; omega; simp only [putW]) | (refine load1 hS rfl rfl rfl rfl ?_; simp only [putW]) | (refine loadAll hS rfl rfl rfl ?_ ?_; rfl; simp only [putW]) | (refine loadPart hS rfl rfl rfl ?_ rfl ?_; rfl; simp only [putW]) | (refine store1 hS rfl rfl rfl rfl rfl ?_ ?_; (focus (simp; done)); clear hS; intro w hS; simp only [evW, putW] at hS; try simp only [putW]) | (refine storeAll hS rfl rfl rfl rfl ?_ ?_ ?_ ?_; rfl; (focus (simp [Value.oneCell']; done)); rfl; clear hS; intro w hS; try simp only [putW]) | (refine storeN hS rfl rfl rfl rfl ?_ ?_ ?_ ?_; rfl; (focus (simp [Value.oneCell']; done)); (focus (simp; done)); clear hS; intro w hS; simp at hS; try simp only [putW]) | (refine alloc hS rfl rfl ?_; clear hS; intro mb w hS; simp only [putW]) | (refine box1 hS rfl rfl rfl rfl ?_; clear hS; intro mb w hS; try simp only [evW, putW] at hS; simp only [putW]) | (refine boxN hS rfl rfl rfl ?_; clear hS; intro mb w hS; simp only [putW]))
                (refine region_quiet hS (by kernel_rfl) (by kernel_rfl) (by kernel_rfl) ?_; clear hS; (repeat (first | (refine quiet_skip rfl ?_; simp only [putW]) | (refine quiet_y (yLoadB (fun w h => hT.mono h.base fun _ _ h => h) rfl rfl rfl 0 0 (by omega) rfl rfl) ?_; simp only [putW]) | (refine quiet_y (yLoadB (fun w h => hBH.mono h.base fun _ _ h => h) rfl rfl rfl c 1 (by omega) HU.out rfl) ?_; simp only [putW]) | (refine quiet_y (yLoadB (fun w h => hBH.mono h.base fun _ _ h => h) rfl rfl rfl c 2 (by omega) HU.out rfl) ?_; simp only [putW]) | (refine quiet_y (yMove rfl rfl rfl) ?_; simp only [evW, putW]) | (refine quiet_y (yNil rfl rfl rfl) ?_; simp only [putW]) | (refine quiet_y (yLoad1 (fun _ h => h) rfl rfl rfl rfl) ?_; simp only [putW]) | (apply quiet_y; (focus (apply yRun rfl; intro w; first | (go_simp; done) | (go_simp; rfl))); simp only [putW]))); refine quiet_nil ?_; intro w hS)
                go_wp2_with (first | (refine load1 hS rfl rfl rfl rfl ?_; simp only [putW]) | (refine loadAll hS rfl rfl rfl ?_ ?_; rfl; simp only [putW]) | (refine loadPart hS rfl rfl rfl ?_ rfl ?_; rfl; simp only [putW]) | (refine store1 hS rfl rfl rfl rfl rfl ?_ ?_; (focus (simp; done)); clear hS; intro w hS; simp only [evW, putW] at hS; try simp only [putW]) | (refine storeAll hS rfl rfl rfl rfl ?_ ?_ ?_ ?_; rfl; (focus (simp [Value.oneCell']; done)); rfl; clear hS; intro w hS; try simp only [putW]) | (refine storeN hS rfl rfl rfl rfl ?_ ?_ ?_ ?_; rfl; (focus (simp [Value.oneCell']; done)); (focus (simp; done)); clear hS; intro w hS; simp at hS; try simp only [putW]) | (refine alloc hS rfl rfl ?_; clear hS; intro mb w hS; simp only [putW]) | (refine box1 hS rfl rfl rfl rfl ?_; clear hS; intro mb w hS; try simp only [evW, putW] at hS; simp only [putW]) | (refine boxN hS rfl rfl rfl ?_; clear hS; intro mb w hS; simp only [putW]))
                go_ret
                exact ⟨false, rfl, ⟨⟨fun h => absurd h (by decide), fun h => absurd h HNo.out⟩⟩, hS.nothing⟩
          · have b1 : (ky == wk) = false := by simpa using e1
            have HK2 : Bx (∀ j u, j < c + 1 → X.has[j]? = some u → u.2.1 = wk → u.2.2 = false ∧ wa = false) := ⟨fun j u hj hu he => by
              by_cases e : j = c
              · subst e
                rw [HU.out] at hu
                cases hu
                exact absurd he e1
              · exact HK.out j u (by omega) hu he⟩
            clear e1 HK
            go_upto_region 10 with (first | (refine loadB (f := xwF) hS rfl rfl rfl hT 0 0 ?_ rfl rfl ?_; omega; simp only [putW]) | (refine load1 hS rfl rfl rfl rfl ?_; simp only [putW]) | (refine loadAll hS rfl rfl rfl ?_ ?_; rfl; simp only [putW]) | (refine loadPart hS rfl rfl rfl ?_ rfl ?_; rfl; simp only [putW]) | (refine store1 hS rfl rfl rfl rfl rfl ?_ ?_; (focus (simp; done)); clear hS; intro w hS; simp only [evW, putW] at hS; try simp only [putW]) | (refine storeAll hS rfl rfl rfl rfl ?_ ?_ ?_ ?_; rfl; (focus (simp [Value.oneCell']; done)); rfl; clear hS; intro w hS; try simp only [putW]) | (refine storeN hS rfl rfl rfl rfl ?_ ?_ ?_ ?_; rfl; (focus (simp [Value.oneCell']; done)); (focus (simp; done)); clear hS; intro w hS; simp at hS; try simp only [putW]) | (refine alloc hS rfl rfl ?_; clear hS; intro mb w hS; simp only [putW]) | (refine box1 hS rfl rfl rfl rfl ?_; clear hS; intro mb w hS; try simp only [evW, putW] at hS; simp only [putW]) | (refine boxN hS rfl rfl rfl ?_; clear hS; intro mb w hS; simp only [putW]))
            (refine region_quiet hS (by kernel_rfl) (by kernel_rfl) (by kernel_rfl) ?_; clear hS; (repeat (first | (refine quiet_skip rfl ?_; simp only [putW]) | (refine quiet_y (yLoadB (fun w h => hT.mono h.base fun _ _ h => h) rfl rfl rfl 0 0 (by omega) rfl rfl) ?_; simp only [putW]) | (refine quiet_y (yLoadB (fun w h => hBH.mono h.base fun _ _ h => h) rfl rfl rfl c 1 (by omega) HU.out rfl) ?_; simp only [putW]) | (refine quiet_y (yLoadB (fun w h => hBH.mono h.base fun _ _ h => h) rfl rfl rfl c 2 (by omega) HU.out rfl) ?_; simp only [putW]) | (refine quiet_y (yMove rfl rfl rfl) ?_; simp only [evW, putW]) | (refine quiet_y (yNil rfl rfl rfl) ?_; simp only [putW]) | (refine quiet_y (yLoad1 (fun _ h => h) rfl rfl rfl rfl) ?_; simp only [putW]) | (apply quiet_y; (focus (apply yRun rfl; intro w; first | (go_simp; done) | (go_simp; rfl))); simp only [putW]))); refine quiet_nil ?_; intro w hS)
            go_wp2_with (first | (refine load1 hS rfl rfl rfl rfl ?_; simp only [putW]) | (refine loadAll hS rfl rfl rfl ?_ ?_; rfl; simp only [putW]) | (refine loadPart hS rfl rfl rfl ?_ rfl ?_; rfl; simp only [putW]) | (refine store1 hS rfl rfl rfl rfl rfl ?_ ?_; (focus (simp; done)); clear hS; intro w hS; simp only [evW, putW] at hS; try simp only [putW]) | (refine storeAll hS rfl rfl rfl rfl ?_ ?_ ?_ ?_; rfl; (focus (simp [Value.oneCell']; done)); rfl; clear hS; intro w hS; try simp only [putW]) | (refine storeN hS rfl rfl rfl rfl ?_ ?_ ?_ ?_; rfl; (focus (simp [Value.oneCell']; done)); (focus (simp; done)); clear hS; intro w hS; simp at hS; try simp only [putW]) | (refine alloc hS rfl rfl ?_; clear hS; intro mb w hS; simp only [putW]) | (refine box1 hS rfl rfl rfl rfl ?_; clear hS; intro mb w hS; try simp only [evW, putW] at hS; simp only [putW]) | (refine boxN hS rfl rfl rfl ?_; clear hS; intro mb w hS; simp only [putW]))
            go_roundg g
            case measure => omega
            case rel => exact ⟨c + 1, by omega, by go_num, HK2, hS⟩
set_option maxRecDepth 100000 in
set_option maxHeartbeats 4000000 in
theorem rising0 {A : List Int} {v : Value} (hlen : A.length ≤ 1000) (hA : RI w0 A v) : Calls Try.prog 31 #[v] w0 fun e w' => ∃ v', e = .returned v' ∧ Sat w0 [(blk v', sl 1 i64 (sortI A) 3 v')] w' := by
  obtain ⟨ph, ch, rfl, hl, hat⟩ := hA.at
  obtain ⟨n, hn⟩ : ∃ n, A.length = n := ⟨_, rfl⟩
  rw [hn] at hl hlen
  have HN : Bx _ := ⟨hn⟩
  have HAT : Bx _ := ⟨hat⟩
  clear hat hA
  rw [hn]
  clear hn
  have hS := Sat.refl w0
  go_enter Try.func31, Try.ntmps31
  go_wp2_with (first | (refine load1 hS rfl rfl rfl rfl ?_; simp only [putW]) | (refine loadAll hS rfl rfl rfl ?_ ?_; rfl; simp only [putW]) | (refine loadPart hS rfl rfl rfl ?_ rfl ?_; rfl; simp only [putW]) | (refine store1 hS rfl rfl rfl rfl rfl ?_ ?_; (focus (simp; done)); clear hS; intro w hS; simp only [evW, putW] at hS; try simp only [putW]) | (refine storeAll hS rfl rfl rfl rfl ?_ ?_ ?_ ?_; rfl; (focus (simp [Value.oneCell']; done)); rfl; clear hS; intro w hS; try simp only [putW]) | (refine storeN hS rfl rfl rfl rfl ?_ ?_ ?_ ?_; rfl; (focus (simp [Value.oneCell']; done)); (focus (simp; done)); clear hS; intro w hS; simp at hS; try simp only [putW]) | (refine alloc hS rfl rfl ?_; clear hS; intro mb w hS; simp only [putW]) | (refine box1 hS rfl rfl rfl rfl ?_; clear hS; intro mb w hS; try simp only [evW, putW] at hS; simp only [putW]) | (refine boxN hS rfl rfl rfl ?_; clear hS; intro mb w hS; simp only [putW]))
  replace hS := hS.slNil 1 i64 3
  go_loopg [3, 4] n (fun g ov i wr => ∃ (k : Nat) (O : List Int), k + g = n ∧ i = .int .i64 k ∧ Bx (O = sortI (A.take k)) ∧ Sat w0 [(blk ov, sl 1 i64 O 3 ov)] wr)
  case atStart => exact ⟨0, [], by omega, rfl, ⟨by simp [sortI]⟩, hS⟩
  case round =>
    clear hS
    obtain ⟨k, O, hkn, rfl, HO, hS⟩ := hrel
    cases gk with
    | zero =>
      have e : k = n := by omega
      subst e
      have hLk : O = sortI A := by rw [HO.out, ← HN.out, List.take_length]
      subst hLk
      clear hkn
      go_wp2_with (first | (refine load1 hS rfl rfl rfl rfl ?_; simp only [putW]) | (refine loadAll hS rfl rfl rfl ?_ ?_; rfl; simp only [putW]) | (refine loadPart hS rfl rfl rfl ?_ rfl ?_; rfl; simp only [putW]) | (refine store1 hS rfl rfl rfl rfl rfl ?_ ?_; (focus (simp; done)); clear hS; intro w hS; simp only [evW, putW] at hS; try simp only [putW]) | (refine storeAll hS rfl rfl rfl rfl ?_ ?_ ?_ ?_; rfl; (focus (simp [Value.oneCell']; done)); rfl; clear hS; intro w hS; try simp only [putW]) | (refine storeN hS rfl rfl rfl rfl ?_ ?_ ?_ ?_; rfl; (focus (simp [Value.oneCell']; done)); (focus (simp; done)); clear hS; intro w hS; simp at hS; try simp only [putW]) | (refine alloc hS rfl rfl ?_; clear hS; intro mb w hS; simp only [putW]) | (refine box1 hS rfl rfl rfl rfl ?_; clear hS; intro mb w hS; try simp only [evW, putW] at hS; simp only [putW]) | (refine boxN hS rfl rfl rfl ?_; clear hS; intro mb w hS; simp only [putW]))
      go_ret
      exact ⟨_, rfl, hS⟩
    | succ g =>
      have hlt : k < n := by omega
      have d1 : decide ((k : Int) < (n : Int)) = true := decide_eq_true (by omega)
      have d1n : decide (k < n) = true := decide_eq_true hlt
      obtain ⟨y, hy⟩ : ∃ y, A[k]? = some y := ⟨_, List.getElem?_eq_getElem (by rw [HN.out]; exact hlt)⟩
      obtain ⟨b, off, hpa, hBA⟩ := HAT.out (fun h => by rw [h] at hy; cases hy)
      subst hpa
      have HY : Bx _ := ⟨hy⟩
      clear hy
      obtain ⟨oL, hoL⟩ : ∃ m, O.length = m := ⟨_, rfl⟩
      have hok : oL = k := by
        rw [← hoL, HO.out, sortI_len, List.length_take]
        have := HN.out
        omega
      subst hok
      have HOL : Bx _ := ⟨hoL⟩
      obtain ⟨q3, c3, hv3⟩ := shapeN hS hoL
      subst hv3
      clear hoL
      go_wp2_with (first | (refine load1 hS rfl rfl rfl rfl ?_; simp only [putW]) | (refine loadAll hS rfl rfl rfl ?_ ?_; rfl; simp only [putW]) | (refine loadPart hS rfl rfl rfl ?_ rfl ?_; rfl; simp only [putW]) | (refine store1 hS rfl rfl rfl rfl rfl ?_ ?_; (focus (simp; done)); clear hS; intro w hS; simp only [evW, putW] at hS; try simp only [putW]) | (refine storeAll hS rfl rfl rfl rfl ?_ ?_ ?_ ?_; rfl; (focus (simp [Value.oneCell']; done)); rfl; clear hS; intro w hS; try simp only [putW]) | (refine storeN hS rfl rfl rfl rfl ?_ ?_ ?_ ?_; rfl; (focus (simp [Value.oneCell']; done)); (focus (simp; done)); clear hS; intro w hS; simp at hS; try simp only [putW]) | (refine alloc hS rfl rfl ?_; clear hS; intro mb w hS; simp only [putW]) | (refine box1 hS rfl rfl rfl rfl ?_; clear hS; intro mb w hS; try simp only [evW, putW] at hS; simp only [putW]) | (refine boxN hS rfl rfl rfl ?_; clear hS; intro mb w hS; simp only [putW]))
      go_loopg [5] oL (fun g2 av wr => ∃ a : Nat, a + g2 = oL ∧ av = .int .i64 a ∧ Bx (∀ j z, j < a → O[j]? = some z → z ≤ y) ∧ Sat w0 [(blk (.slice q3 oL c3), sl 1 i64 O 3 (.slice q3 oL c3))] wr)
      case atStart => exact ⟨0, by omega, rfl, ⟨fun j z hj => absurd hj (Nat.not_lt_zero _)⟩, hS⟩
      case round =>
        clear hS
        obtain ⟨a, hao, rfl, HP, hS⟩ := hrel
        cases gk with
        | zero =>
          have hae : a = oL := by omega
          have hale : a ≤ oL := by omega
          have dlt : decide ((a : Int) < (oL : Int)) = false := decide_eq_false (by omega)
          have dltn : decide (a < oL) = false := decide_eq_false (by omega)
          have HP2 : Bx (∀ z, O[a]? = some z → ¬ z ≤ y) := ⟨fun z hz => by
            have := (List.getElem?_eq_some_iff.1 hz).1
            have := HOL.out
            omega⟩
          have HAE : Bx _ := ⟨hae⟩
          clear hao hae
          go_upto_region 6 with (first | (refine load1 hS rfl rfl rfl rfl ?_; simp only [putW]) | (refine loadAll hS rfl rfl rfl ?_ ?_; rfl; simp only [putW]) | (refine loadPart hS rfl rfl rfl ?_ rfl ?_; rfl; simp only [putW]) | (refine store1 hS rfl rfl rfl rfl rfl ?_ ?_; (focus (simp; done)); clear hS; intro w hS; simp only [evW, putW] at hS; try simp only [putW]) | (refine storeAll hS rfl rfl rfl rfl ?_ ?_ ?_ ?_; rfl; (focus (simp [Value.oneCell']; done)); rfl; clear hS; intro w hS; try simp only [putW]) | (refine storeN hS rfl rfl rfl rfl ?_ ?_ ?_ ?_; rfl; (focus (simp [Value.oneCell']; done)); (focus (simp; done)); clear hS; intro w hS; simp at hS; try simp only [putW]) | (refine alloc hS rfl rfl ?_; clear hS; intro mb w hS; simp only [putW]) | (refine box1 hS rfl rfl rfl rfl ?_; clear hS; intro mb w hS; try simp only [evW, putW] at hS; simp only [putW]) | (refine boxN hS rfl rfl rfl ?_; clear hS; intro mb w hS; simp only [putW]))
          (refine region_quiet hS (by kernel_rfl) (by kernel_rfl) (by kernel_rfl) ?_; clear hS; (repeat (first | (refine quiet_skip rfl ?_; simp only [putW]) | (refine quiet_y (yMove rfl rfl rfl) ?_; simp only [evW, putW]) | (refine quiet_y (yNil rfl rfl rfl) ?_; simp only [putW]) | (refine quiet_y (yLoad1 (fun _ h => h) rfl rfl rfl rfl) ?_; simp only [putW]) | (apply quiet_y; (focus (apply yRun rfl; intro w; first | (go_simp; done) | (go_simp; rfl))); simp only [putW]))); refine quiet_nil ?_; intro w hS)
          replace hS := hS.slNil 1 i64 3
          have hcap : oL ≤ c3 := (bslCapN (hS.readsSl (v := .slice q3 oL c3) (L := O) (n := 1) (f := i64) (t := 3) (gd := fun _ => True) fun _ _ => trivial)).2.1
          have HNX : Bx ([] ++ O.take a ++ [y] ++ O.drop a = sortI (A.take (oL + 1))) := ⟨by rw [List.nil_append]; exact rise_next HO.out HY.out (by rw [HOL.out]; exact hale) HP.out HP2.out⟩
          go_wp2_with (first | (refine sliceHiV (k := a) rfl rfl rfl rfl rfl (Nat.le_trans hale hcap) ?_; simp only [putW]) | (refine sliceLoV (k := a) rfl rfl rfl rfl rfl hale ?_; simp only [putW]) | (refine appendB (f := i64) hS rfl rfl (.slice none 0 0) rfl rfl (O.take a) (bslHiN (hS.readsSl (v := .slice q3 oL c3) (L := O) (n := 1) (f := i64) (t := 3) (gd := fun _ => True) fun _ _ => trivial) hale) ?_ ?_ ?_ ?_; (focus (simp [Sl.one, Value.oneCell']; done)); (focus (have := HOL.out; simp [maxLen]; omega)); (focus (have := HOL.out; simp; omega)); clear hS; intro v1 w hS; obtain ⟨q5, c5, hv5⟩ := shapeN (m := a) hS (by have := HOL.out; simp; omega); subst hv5; simp only [putW]) | (refine loadB (f := i64) hS rfl rfl rfl hBA oL 0 ?_ HY.out rfl ?_; omega; simp only [putW]) | (refine buildSlice1 (c := #[.int .i64 y]) hS rfl rfl rfl ?_ ?_ ?_ ?_; rfl; rfl; rfl; clear hS; intro mb w hS; simp only [putW]) | (refine append1 (f := i64) hS rfl rfl (.slice q5 a c5) rfl rfl y ?_ ?_ ?_ ?_ ?_ ?_; rfl; (focus (simp [Sl.one, Value.oneCell']; done)); rfl; (focus (have := HOL.out; simp [maxLen]; omega)); (focus (have := HOL.out; simp; omega)); clear hS; intro v2 w hS; obtain ⟨q6, c6, hv6⟩ := shapeN (m := a + 1) hS (by have := HOL.out; simp; omega); subst hv6; simp only [putW]) | (refine appendB (f := i64) hS rfl rfl (.slice q6 (a + 1) c6) rfl rfl (O.drop a) (bslLoN (hS.readsSl (v := .slice q3 oL c3) (L := O) (n := 1) (f := i64) (t := 3) (gd := fun _ => True) fun _ _ => trivial) hale) ?_ ?_ ?_ ?_; (focus (simp [Sl.one, Value.oneCell']; done)); (focus (have := HOL.out; simp [maxLen]; omega)); (focus (have := HOL.out; simp; omega)); clear hS; intro v3 w hS; simp only [putW]) | (refine load1 hS rfl rfl rfl rfl ?_; simp only [putW]) | (refine loadAll hS rfl rfl rfl ?_ ?_; rfl; simp only [putW]) | (refine loadPart hS rfl rfl rfl ?_ rfl ?_; rfl; simp only [putW]) | (refine store1 hS rfl rfl rfl rfl rfl ?_ ?_; (focus (simp; done)); clear hS; intro w hS; simp only [evW, putW] at hS; try simp only [putW]) | (refine storeAll hS rfl rfl rfl rfl ?_ ?_ ?_ ?_; rfl; (focus (simp [Value.oneCell']; done)); rfl; clear hS; intro w hS; try simp only [putW]) | (refine storeN hS rfl rfl rfl rfl ?_ ?_ ?_ ?_; rfl; (focus (simp [Value.oneCell']; done)); (focus (simp; done)); clear hS; intro w hS; simp at hS; try simp only [putW]) | (refine alloc hS rfl rfl ?_; clear hS; intro mb w hS; simp only [putW]) | (refine box1 hS rfl rfl rfl rfl ?_; clear hS; intro mb w hS; try simp only [evW, putW] at hS; simp only [putW]) | (refine boxN hS rfl rfl rfl ?_; clear hS; intro mb w hS; simp only [putW]))
          go_roundg g
          case measure => omega
          case rel => exact ⟨oL + 1, _, by omega, by go_num, HNX, hS.conv⟩
        | succ g2 =>
          have halt : a < oL := by omega
          have hale : a ≤ oL := by omega
          have dlt : decide ((a : Int) < (oL : Int)) = true := decide_eq_true (by omega)
          have dltn : decide (a < oL) = true := decide_eq_true (by omega)
          obtain ⟨z, hz⟩ : ∃ z, O[a]? = some z := ⟨_, List.getElem?_eq_getElem (by rw [HOL.out]; exact halt)⟩
          have HZ : Bx _ := ⟨hz⟩
          clear hz
          obtain ⟨gb, hq3, hc3, hS2⟩ := openS hS HOL.out (by omega)
          subst hq3
          clear hS
          have hS := hS2
          clear hS2
          by_cases hzy : z ≤ y
          · have dzy : decide (z ≤ y) = true := decide_eq_true hzy
            have HPn : Bx (∀ j z, j < a + 1 → O[j]? = some z → z ≤ y) := ⟨fun j z' hj hz' => by
              by_cases e : j = a
              · subst e
                rw [HZ.out] at hz'
                cases hz'
                exact hzy
              · exact HP.out j z' (by omega) hz'⟩
            clear hzy HP
            go_upto_region 6 with (first | (refine load1 hS rfl rfl rfl rfl ?_; simp only [putW]) | (refine loadAll hS rfl rfl rfl ?_ ?_; rfl; simp only [putW]) | (refine loadPart hS rfl rfl rfl ?_ rfl ?_; rfl; simp only [putW]) | (refine store1 hS rfl rfl rfl rfl rfl ?_ ?_; (focus (simp; done)); clear hS; intro w hS; simp only [evW, putW] at hS; try simp only [putW]) | (refine storeAll hS rfl rfl rfl rfl ?_ ?_ ?_ ?_; rfl; (focus (simp [Value.oneCell']; done)); rfl; clear hS; intro w hS; try simp only [putW]) | (refine storeN hS rfl rfl rfl rfl ?_ ?_ ?_ ?_; rfl; (focus (simp [Value.oneCell']; done)); (focus (simp; done)); clear hS; intro w hS; simp at hS; try simp only [putW]) | (refine alloc hS rfl rfl ?_; clear hS; intro mb w hS; simp only [putW]) | (refine box1 hS rfl rfl rfl rfl ?_; clear hS; intro mb w hS; try simp only [evW, putW] at hS; simp only [putW]) | (refine boxN hS rfl rfl rfl ?_; clear hS; intro mb w hS; simp only [putW]))
            (refine region_quiet hS (by kernel_rfl) (by kernel_rfl) (by kernel_rfl) ?_; clear hS; (repeat (first | (refine quiet_skip rfl ?_; simp only [putW]) | (refine quiet_y (yLoadS (f := i64) (fun _ h => h) rfl rfl rfl a 0 (by omega) HZ.out rfl (by decide)) ?_; simp only [putW]) | (refine quiet_y (yLoadB (f := i64) (fun w h => hBA.mono h.base fun _ _ h => h) rfl rfl rfl oL 0 (by omega) HY.out rfl) ?_; simp only [putW]) | (refine quiet_y (yMove rfl rfl rfl) ?_; simp only [evW, putW]) | (refine quiet_y (yNil rfl rfl rfl) ?_; simp only [putW]) | (refine quiet_y (yLoad1 (fun _ h => h) rfl rfl rfl rfl) ?_; simp only [putW]) | (apply quiet_y; (focus (apply yRun rfl; intro w; first | (go_simp; done) | (go_simp; rfl))); simp only [putW]))); refine quiet_nil ?_; intro w hS)
            go_wp2_with (first | (refine load1 hS rfl rfl rfl rfl ?_; simp only [putW]) | (refine loadAll hS rfl rfl rfl ?_ ?_; rfl; simp only [putW]) | (refine loadPart hS rfl rfl rfl ?_ rfl ?_; rfl; simp only [putW]) | (refine store1 hS rfl rfl rfl rfl rfl ?_ ?_; (focus (simp; done)); clear hS; intro w hS; simp only [evW, putW] at hS; try simp only [putW]) | (refine storeAll hS rfl rfl rfl rfl ?_ ?_ ?_ ?_; rfl; (focus (simp [Value.oneCell']; done)); rfl; clear hS; intro w hS; try simp only [putW]) | (refine storeN hS rfl rfl rfl rfl ?_ ?_ ?_ ?_; rfl; (focus (simp [Value.oneCell']; done)); (focus (simp; done)); clear hS; intro w hS; simp at hS; try simp only [putW]) | (refine alloc hS rfl rfl ?_; clear hS; intro mb w hS; simp only [putW]) | (refine box1 hS rfl rfl rfl rfl ?_; clear hS; intro mb w hS; try simp only [evW, putW] at hS; simp only [putW]) | (refine boxN hS rfl rfl rfl ?_; clear hS; intro mb w hS; simp only [putW]))
            go_roundg g2
            case measure => omega
            case rel => exact ⟨a + 1, by omega, by go_num, HPn, by have h := hS.slOfSlc; rw [HOL.out] at h; exact h⟩
          · have dzy : decide (z ≤ y) = false := decide_eq_false hzy
            have HP2 : Bx (∀ z, O[a]? = some z → ¬ z ≤ y) := ⟨fun z' hz' => by
              rw [HZ.out] at hz'
              cases hz'
              exact hzy⟩
            clear hzy hao
            go_upto_region 6 with (first | (refine load1 hS rfl rfl rfl rfl ?_; simp only [putW]) | (refine loadAll hS rfl rfl rfl ?_ ?_; rfl; simp only [putW]) | (refine loadPart hS rfl rfl rfl ?_ rfl ?_; rfl; simp only [putW]) | (refine store1 hS rfl rfl rfl rfl rfl ?_ ?_; (focus (simp; done)); clear hS; intro w hS; simp only [evW, putW] at hS; try simp only [putW]) | (refine storeAll hS rfl rfl rfl rfl ?_ ?_ ?_ ?_; rfl; (focus (simp [Value.oneCell']; done)); rfl; clear hS; intro w hS; try simp only [putW]) | (refine storeN hS rfl rfl rfl rfl ?_ ?_ ?_ ?_; rfl; (focus (simp [Value.oneCell']; done)); (focus (simp; done)); clear hS; intro w hS; simp at hS; try simp only [putW]) | (refine alloc hS rfl rfl ?_; clear hS; intro mb w hS; simp only [putW]) | (refine box1 hS rfl rfl rfl rfl ?_; clear hS; intro mb w hS; try simp only [evW, putW] at hS; simp only [putW]) | (refine boxN hS rfl rfl rfl ?_; clear hS; intro mb w hS; simp only [putW]))
            (refine region_quiet hS (by kernel_rfl) (by kernel_rfl) (by kernel_rfl) ?_; clear hS; (repeat (first | (refine quiet_skip rfl ?_; simp only [putW]) | (refine quiet_y (yLoadS (f := i64) (fun _ h => h) rfl rfl rfl a 0 (by omega) HZ.out rfl (by decide)) ?_; simp only [putW]) | (refine quiet_y (yLoadB (f := i64) (fun w h => hBA.mono h.base fun _ _ h => h) rfl rfl rfl oL 0 (by omega) HY.out rfl) ?_; simp only [putW]) | (refine quiet_y (yMove rfl rfl rfl) ?_; simp only [evW, putW]) | (refine quiet_y (yNil rfl rfl rfl) ?_; simp only [putW]) | (refine quiet_y (yLoad1 (fun _ h => h) rfl rfl rfl rfl) ?_; simp only [putW]) | (apply quiet_y; (focus (apply yRun rfl; intro w; first | (go_simp; done) | (go_simp; rfl))); simp only [putW]))); refine quiet_nil ?_; intro w hS)
            have hS3 := hS.slOfSlc
            rw [HOL.out] at hS3
            clear hS
            have hS := hS3
            clear hS3
            replace hS := hS.slNil 1 i64 3
            have hcap : oL ≤ c3 := (bslCapN (hS.readsSl (v := .slice (some ⟨gb, 0, none⟩) oL c3) (L := O) (n := 1) (f := i64) (t := 3) (gd := fun _ => True) fun _ _ => trivial)).2.1
            have HNX : Bx ([] ++ O.take a ++ [y] ++ O.drop a = sortI (A.take (oL + 1))) := ⟨by rw [List.nil_append]; exact rise_next HO.out HY.out (by rw [HOL.out]; exact hale) HP.out HP2.out⟩
            go_wp2_with (first | (refine sliceHiV (k := a) rfl rfl rfl rfl rfl (Nat.le_trans hale hcap) ?_; simp only [putW]) | (refine sliceLoV (k := a) rfl rfl rfl rfl rfl hale ?_; simp only [putW]) | (refine appendB (f := i64) hS rfl rfl (.slice none 0 0) rfl rfl (O.take a) (bslHiN (hS.readsSl (v := .slice (some ⟨gb, 0, none⟩) oL c3) (L := O) (n := 1) (f := i64) (t := 3) (gd := fun _ => True) fun _ _ => trivial) hale) ?_ ?_ ?_ ?_; (focus (simp [Sl.one, Value.oneCell']; done)); (focus (have := HOL.out; simp [maxLen]; omega)); (focus (have := HOL.out; simp; omega)); clear hS; intro v1 w hS; obtain ⟨q5, c5, hv5⟩ := shapeN (m := a) hS (by have := HOL.out; simp; omega); subst hv5; simp only [putW]) | (refine loadB (f := i64) hS rfl rfl rfl hBA oL 0 ?_ HY.out rfl ?_; omega; simp only [putW]) | (refine buildSlice1 (c := #[.int .i64 y]) hS rfl rfl rfl ?_ ?_ ?_ ?_; rfl; rfl; rfl; clear hS; intro mb w hS; simp only [putW]) | (refine append1 (f := i64) hS rfl rfl (.slice q5 a c5) rfl rfl y ?_ ?_ ?_ ?_ ?_ ?_; rfl; (focus (simp [Sl.one, Value.oneCell']; done)); rfl; (focus (have := HOL.out; simp [maxLen]; omega)); (focus (have := HOL.out; simp; omega)); clear hS; intro v2 w hS; obtain ⟨q6, c6, hv6⟩ := shapeN (m := a + 1) hS (by have := HOL.out; simp; omega); subst hv6; simp only [putW]) | (refine appendB (f := i64) hS rfl rfl (.slice q6 (a + 1) c6) rfl rfl (O.drop a) (bslLoN (hS.readsSl (v := .slice (some ⟨gb, 0, none⟩) oL c3) (L := O) (n := 1) (f := i64) (t := 3) (gd := fun _ => True) fun _ _ => trivial) hale) ?_ ?_ ?_ ?_; (focus (simp [Sl.one, Value.oneCell']; done)); (focus (have := HOL.out; simp [maxLen]; omega)); (focus (have := HOL.out; simp; omega)); clear hS; intro v3 w hS; simp only [putW]) | (refine load1 hS rfl rfl rfl rfl ?_; simp only [putW]) | (refine loadAll hS rfl rfl rfl ?_ ?_; rfl; simp only [putW]) | (refine loadPart hS rfl rfl rfl ?_ rfl ?_; rfl; simp only [putW]) | (refine store1 hS rfl rfl rfl rfl rfl ?_ ?_; (focus (simp; done)); clear hS; intro w hS; simp only [evW, putW] at hS; try simp only [putW]) | (refine storeAll hS rfl rfl rfl rfl ?_ ?_ ?_ ?_; rfl; (focus (simp [Value.oneCell']; done)); rfl; clear hS; intro w hS; try simp only [putW]) | (refine storeN hS rfl rfl rfl rfl ?_ ?_ ?_ ?_; rfl; (focus (simp [Value.oneCell']; done)); (focus (simp; done)); clear hS; intro w hS; simp at hS; try simp only [putW]) | (refine alloc hS rfl rfl ?_; clear hS; intro mb w hS; simp only [putW]) | (refine box1 hS rfl rfl rfl rfl ?_; clear hS; intro mb w hS; try simp only [evW, putW] at hS; simp only [putW]) | (refine boxN hS rfl rfl rfl ?_; clear hS; intro mb w hS; simp only [putW]))
            go_roundg g
            case measure => omega
            case rel => exact ⟨oL + 1, _, by omega, by go_num, HNX, hS.conv⟩
end
end Go.Proofs.Ytojdkioimklhmaa
