/-
  tree.SetKid, tree.Kid where it is refused; thimbleref18.Fault; thimbleref02.Lent, Kept.
-/
import Derived.Test.YtmhnnppcihoofaaDoorTrKid
import Derived.Test.YtmhnnppcihoofaaDoorSlPart
import Derived.Test.YtmhnnppcihoofaaDoorJ02
import Derived.Test.YtmhnnppcihoofaaDoorJRow
set_option linter.unusedSimpArgs false
set_option linter.unusedVariables false
namespace Go.Proofs.YtmhnnppcihoofaaDoor
open Go.RowKit Go.Proofs.YtmhnnppcihoofaaDoor.Sl Go.Proofs.YtmhnnppcihoofaaDoor.Sha Go.Proofs.YtmhnnppcihoofaaDoor.Jp Go.Proofs.YtmhnnppcihoofaaDoor.Tr

section
variable {P : Program} {ops : Array Oper} {rest : List Oper} {o : Oper} {a : Act} {Q : Exit → Act → World → Prop} {w0 w : World} {S : List Chunk}
variable {z : Array Value} {zv u0 u1 u2 : Value} {t e : TypeId} {agg : Bool} {x0 x1 x2 : Operand}
/-- '[]T{a, b, c}'. -/
theorem buildSlice3 (hS : Sat w0 S w) (hw : Region.wanted o (yielded ops a.tmps) = true) (ho : o.op = .buildSlice t 3 #[(0, x0), (1, x1), (2, x2)]) (h0 : (a.eval x0).cells = #[u0]) (h1 : (a.eval x1).cells = #[u1]) (h2 : (a.eval x2).cells = #[u2])
    [st : SliceTy P t e] [ty : Ty P e agg 1 zv z]
    (k : ∀ m w', Sat w0 ((m, cells #[u0, u1, u2] e) :: S) w' → wpList P ops Q rest (a.put o.dst (.slice (some ⟨m, 0, none⟩) 3 3)) w') : wpList P ops Q (o :: rest) a w := by
  refine wp_value hw (w' := w.alloc (.cells #[u0, u1, u2] e)) ?_ (k w.heap.size _ (hS.freshCells _ e))
  have hz : zv.cells = z := ty.cells
  obtain ⟨c0, hc0⟩ : ∃ c0, z = #[c0] := by
    have hzl := ty.len
    obtain ⟨l⟩ := z
    match l, hzl with
    | [c], _ => exact ⟨c, rfl⟩
  have hr : (Array.range 3).map (fun i => z[i % z.size]!) = #[c0, c0, c0] := by
    subst hc0
    apply Array.ext'
    simp [List.range, List.range.loop]
  have hfill : Instr.fill (fun i => some (i * 1, 1)) #[c0, c0, c0] [(0, a.eval x0), (1, a.eval x1), (2, a.eval x2)] = some #[u0, u1, u2] := by
    simp [Instr.fill, h0, h1, h2]
  simp only [execOp, ho, Instr.buildSlice, Sem.run_bind, run_underlying st.is w, Result.andThen_ok, ty.size, Sem.run_ite]
  rw [if_neg (by omega)]
  simp only [Sem.run_pure, Result.andThen_ok, Sem.run_ite]
  rw [if_neg (by omega)]
  simp only [Sem.run_bind, ty.zero, Result.andThen_ok, Sem.run_pure, hz]
  have hfill' : Instr.fill (fun i => some (i * 1, 1)) ((Array.range (3 * 1)).map (fun i => z[i % z.size]!)) (#[(0, x0), (1, x1), (2, x2)].map fun (i, x) => (i, a.eval x)).toList = some #[u0, u1, u2] := by
    rw [show 3 * 1 = 3 from rfl, hr]
    simpa using hfill
  rw [hfill']
  simp [newRow]
end
abbrev lent3 : List Int := [201, 202, 203]
theorem lent3_ok : ∀ b ∈ lent3, okByte b := fun b hb => by
  have : b = 201 ∨ b = 202 ∨ b = 203 := by simpa [lent3] using hb
  unfold okByte; omega
section
variable {w0 w : World} {A D : List Int} {va : Value} {K : List Chunk}
theorem lit3 {m : Nat} {t : TypeId} {F : List Chunk} (h : Sat w0 ((m, cells #[.int .u8 201, .int .u8 202, .int .u8 203] t) :: F) w) : RB w lent3 (.slice (some ⟨m, 0, none⟩) 3 3) :=
  (h.toSlc (l := lent3) (cap := 3) (n := 1) (f := by8) (by simp) (by simp) (by simp [maxLen]) (by simp [one]) (fun _ _ => rfl)).readsSlc (g := m) (n := 1) (f := by8) (L := lent3) (cap := 3) (t := t) lent3_ok
set_option maxHeartbeats 1000000 in
theorem lent_any (hA : RB w0 A va) (hl : A.length ≤ 140737488351232) : Calls Tryd.prog 4 #[va] w0 fun e w' => ∃ g cap, e = .returned (.slice (some ⟨g, 0, none⟩) A.length cap) ∧ Sat w0 [(g, slc 1 by8 (A ++ lent3) cap 5)] w' := by
  have hS := Sat.refl w0
  have HA : Bx _ := ⟨hA⟩
  obtain ⟨pa, ca, rfl, hla, -⟩ := hA.at
  clear hA
  go_enter Tryd.func4, Tryd.ntmps4
  go_wp2_with (first | (guard_target =~ wpList _ _ _ (Oper.mk (some 8) _ _ _ _ _ :: _) _ _; refine Stopped.out ?_) | (first | (refine load1 hS rfl rfl rfl rfl ?_; simp only [putW]) | (refine loadAll hS rfl rfl rfl ?_ ?_; rfl; simp only [putW]) | (refine loadPart hS rfl rfl rfl ?_ rfl ?_; rfl; simp only [putW]) | (refine store1 hS rfl rfl rfl rfl rfl ?_ ?_; (focus (simp; done)); clear hS; intro w hS; simp only [evW, putW] at hS; try simp only [putW]) | (refine storeAll hS rfl rfl rfl rfl ?_ ?_ ?_ ?_; rfl; (focus (simp [Value.oneCell']; done)); rfl; clear hS; intro w hS; try simp only [putW]) | (refine storeN hS rfl rfl rfl rfl ?_ ?_ ?_ ?_; rfl; (focus (simp [Value.oneCell']; done)); (focus (simp; done)); clear hS; intro w hS; simp at hS; try simp only [putW]) | (refine alloc hS rfl rfl ?_; clear hS; intro mb w hS; simp only [putW]) | (refine box1 hS rfl rfl rfl rfl ?_; clear hS; intro mb w hS; try simp only [evW, putW] at hS; simp only [putW]) | (refine boxN hS rfl rfl rfl ?_; clear hS; intro mb w hS; simp only [putW])))
  refine ⟨?_⟩
  refine makeLC hS rfl rfl 0 (A.length + 3) rfl rfl 0 ?_ ?_ ?_ ?_
  · omega
  · omega
  · simp [maxLen]; omega
  clear hS
  intro mb w hS
  simp only [putW]
  rw [List.replicate_zero] at hS
  replace hS := hS.slOfSlc
  go_wp2_with (first | (guard_target =~ wpList _ _ _ (Oper.mk (some 11) _ _ _ _ _ :: _) _ _; refine Stopped.out ?_) | (refine load1 hS rfl rfl rfl rfl ?_; simp only [putW]) | (refine loadAll hS rfl rfl rfl ?_ ?_; rfl; simp only [putW]) | (refine loadPart hS rfl rfl rfl ?_ rfl ?_; rfl; simp only [putW]) | (refine store1 hS rfl rfl rfl rfl rfl ?_ ?_; (focus (simp; done)); clear hS; intro w hS; simp only [evW, putW] at hS; try simp only [putW]) | (refine storeAll hS rfl rfl rfl rfl ?_ ?_ ?_ ?_; rfl; (focus (simp [Value.oneCell']; done)); rfl; clear hS; intro w hS; try simp only [putW]) | (refine storeN hS rfl rfl rfl rfl ?_ ?_ ?_ ?_; rfl; (focus (simp [Value.oneCell']; done)); (focus (simp; done)); clear hS; intro w hS; simp at hS; try simp only [putW]) | (refine alloc hS rfl rfl ?_; clear hS; intro mb w hS; simp only [putW]) | (refine box1 hS rfl rfl rfl rfl ?_; clear hS; intro mb w hS; try simp only [evW, putW] at hS; simp only [putW]) | (refine boxN hS rfl rfl rfl ?_; clear hS; intro mb w hS; simp only [putW]))
  refine ⟨?_⟩
  refine appendB (f := by8) hS rfl rfl (.slice (some ⟨mb, 0, none⟩) 0 (A.length + 3)) rfl rfl A (HA.out.mono hS.base) ?_ ?_ ?_ ?_
  · simp [one, Value.oneCell']
  · simp [maxLen]; omega
  · simp; omega
  clear hS
  intro v1 w hS
  rw [List.nil_append] at hS
  simp only [putW]
  go_wp2_with (first | (refine buildSlice3 (u0 := .int .u8 201) (u1 := .int .u8 202) (u2 := .int .u8 203) hS rfl rfl rfl rfl rfl ?_; clear hS; intro m3 w hS; simp only [putW]) | (guard_target =~ wpList _ _ _ (Oper.mk (some 14) _ _ _ _ _ :: _) _ _; refine Stopped.out ?_) | (refine load1 hS rfl rfl rfl rfl ?_; simp only [putW]) | (refine loadAll hS rfl rfl rfl ?_ ?_; rfl; simp only [putW]) | (refine loadPart hS rfl rfl rfl ?_ rfl ?_; rfl; simp only [putW]) | (refine store1 hS rfl rfl rfl rfl rfl ?_ ?_; (focus (simp; done)); clear hS; intro w hS; simp only [evW, putW] at hS; try simp only [putW]) | (refine storeAll hS rfl rfl rfl rfl ?_ ?_ ?_ ?_; rfl; (focus (simp [Value.oneCell']; done)); rfl; clear hS; intro w hS; try simp only [putW]) | (refine storeN hS rfl rfl rfl rfl ?_ ?_ ?_ ?_; rfl; (focus (simp [Value.oneCell']; done)); (focus (simp; done)); clear hS; intro w hS; simp at hS; try simp only [putW]) | (refine alloc hS rfl rfl ?_; clear hS; intro mb w hS; simp only [putW]) | (refine box1 hS rfl rfl rfl rfl ?_; clear hS; intro mb w hS; try simp only [evW, putW] at hS; simp only [putW]) | (refine boxN hS rfl rfl rfl ?_; clear hS; intro mb w hS; simp only [putW]))
  refine ⟨?_⟩
  refine appendB (f := by8) hS rfl rfl v1 rfl rfl lent3 (lit3 hS) ?_ ?_ ?_ ?_
  · simp [one, Value.oneCell']
  · simp [maxLen]; omega
  · simp; omega
  clear hS
  intro v2 w hS
  simp only [putW]
  have hn3 : (A ++ lent3).length = A.length + 3 := by simp
  obtain ⟨g, cap, rfl, hS2⟩ := hS.slFormC (A.length + 3) hn3 (by omega)
  have hcap := (hS2.slcFacts (g := g) (n := 1) (f := by8) (l := A ++ lent3) (cap := cap) (t := 5)).1
  rw [hn3] at hcap
  clear hS hn3
  have hS := hS2
  clear hS2
  have hcl : A.length ≤ cap := by omega
  go_wp2_with (first | (refine sliceHi (i := A.length) rfl rfl rfl rfl rfl ?_ ?_; (focus omega); simp only [putW]) | (refine load1 hS rfl rfl rfl rfl ?_; simp only [putW]) | (refine loadAll hS rfl rfl rfl ?_ ?_; rfl; simp only [putW]) | (refine loadPart hS rfl rfl rfl ?_ rfl ?_; rfl; simp only [putW]) | (refine store1 hS rfl rfl rfl rfl rfl ?_ ?_; (focus (simp; done)); clear hS; intro w hS; simp only [evW, putW] at hS; try simp only [putW]) | (refine storeAll hS rfl rfl rfl rfl ?_ ?_ ?_ ?_; rfl; (focus (simp [Value.oneCell']; done)); rfl; clear hS; intro w hS; try simp only [putW]) | (refine storeN hS rfl rfl rfl rfl ?_ ?_ ?_ ?_; rfl; (focus (simp [Value.oneCell']; done)); (focus (simp; done)); clear hS; intro w hS; simp at hS; try simp only [putW]) | (refine alloc hS rfl rfl ?_; clear hS; intro mb w hS; simp only [putW]) | (refine box1 hS rfl rfl rfl rfl ?_; clear hS; intro mb w hS; try simp only [evW, putW] at hS; simp only [putW]) | (refine boxN hS rfl rfl rfl ?_; clear hS; intro mb w hS; simp only [putW]))
  go_ret
  exact ⟨g, cap, rfl, hS.conv⟩
theorem lent_at (A : List Int) : (A ++ lent3)[A.length]? = some 201 ∧ (A ++ lent3)[A.length + 1]? = some 202 ∧ (A ++ lent3)[A.length + 2]? = some 203 := by
  refine ⟨?_, ?_, ?_⟩ <;> rw [List.getElem?_append_right (by omega)] <;> simp
set_option maxHeartbeats 1000000 in
theorem kept_any {g cap n : Nat} (hn0 : A.length = n) (hF : RB w0 (A ++ lent3) (.slice (some ⟨g, 0, none⟩) (n + 3) cap)) (hA : RB w0 A va) (hl : A.length ≤ 140737488351232) : Calls Tryd.prog 8 #[.slice (some ⟨g, 0, none⟩) n cap, va] w0 fun e w' => e = .returned (.bool true) ∧ Sat w0 [] w' := by
  subst hn0
  have hS := Sat.refl w0
  obtain ⟨pa, ca, rfl, hla, -⟩ := hA.at
  have hlow : RB w0 A (.slice (some ⟨g, 0, none⟩) A.length cap) := by
    have h := bslHi (k := A.length) hF (by omega)
    rw [List.take_left' rfl] at h
    exact h
  obtain ⟨hcl, hcap, hcm⟩ := bslCap hF
  obtain ⟨a1, a2, e1, -, hat⟩ := hF.at
  obtain ⟨bb, ob, e2, hB⟩ := hat (by intro e; have := congrArg List.length e; simp at this)
  have e3 : g = bb ∧ ob = 0 := by
    rw [e2] at e1
    have h := Option.some.inj (Value.slice.inj e1).1
    exact ⟨congrArg Addr.block h, (congrArg Addr.off h).symm⟩
  obtain ⟨rfl, rfl⟩ := e3
  obtain ⟨x1, x2, x3⟩ := lent_at A
  obtain ⟨n, hn⟩ : ∃ n, A.length = n := ⟨_, rfl⟩
  have HL : Bx _ := ⟨hlow⟩
  have HA : Bx _ := ⟨hA⟩
  rw [hn] at hl hla hcap x1 x2 x3 HL HA ⊢
  have X1 : Bx _ := ⟨x1⟩
  have X2 : Bx _ := ⟨x2⟩
  have X3 : Bx _ := ⟨x3⟩
  have hcap2 : (cap : Int) ≤ 9223372036854775807 := by simp [maxLen] at hcm; omega
  have hge : decide ((n : Int) + 3 ≤ (cap : Int)) = true := decide_eq_true (by omega)
  clear hF hA hlow hcl e1 e2 hat hn x1 x2 x3 hcm
  go_enter Tryd.func8, Tryd.ntmps8
  go_wp2_with (first | (refine sliceHi (i := cap) rfl rfl rfl rfl rfl ?_ ?_; (focus omega); simp only [putW]) | ((go_at_call 13; refine Calls.mono (same_any (HL.out.mono hS.base) (HA.out.mono hS.base)) ?_; rintro _ w2 ⟨rfl, h2⟩; replace hS := hS.frame h2; clear h2; (try simp only [List.cons_append, List.nil_append] at hS); simp only [putW]); simp only [decide_true]) | (refine loadB (f := by8) hS rfl rfl rfl hB n 0 ?_ X1.out rfl ?_; (focus omega); simp only [putW]) | (refine loadB (f := by8) hS rfl rfl rfl hB (n + 1) 0 ?_ X2.out rfl ?_; (focus omega); simp only [putW]) | (refine loadB (f := by8) hS rfl rfl rfl hB (n + 2) 0 ?_ X3.out rfl ?_; (focus omega); simp only [putW]) | (refine load1 hS rfl rfl rfl rfl ?_; simp only [putW]) | (refine loadAll hS rfl rfl rfl ?_ ?_; rfl; simp only [putW]) | (refine loadPart hS rfl rfl rfl ?_ rfl ?_; rfl; simp only [putW]) | (refine store1 hS rfl rfl rfl rfl rfl ?_ ?_; (focus (simp; done)); clear hS; intro w hS; simp only [evW, putW] at hS; try simp only [putW]) | (refine storeAll hS rfl rfl rfl rfl ?_ ?_ ?_ ?_; rfl; (focus (simp [Value.oneCell']; done)); rfl; clear hS; intro w hS; try simp only [putW]) | (refine storeN hS rfl rfl rfl rfl ?_ ?_ ?_ ?_; rfl; (focus (simp [Value.oneCell']; done)); (focus (simp; done)); clear hS; intro w hS; simp at hS; try simp only [putW]) | (refine alloc hS rfl rfl ?_; clear hS; intro mb w hS; simp only [putW]) | (refine box1 hS rfl rfl rfl rfl ?_; clear hS; intro mb w hS; try simp only [evW, putW] at hS; simp only [putW]) | (refine boxN hS rfl rfl rfl ?_; clear hS; intro mb w hS; simp only [putW]))
  go_ret
  exact ⟨rfl, hS.nothing⟩
set_option maxHeartbeats 1000000 in
theorem fault_any (hA : RB w0 A va) (hl : A.length ≤ 140737488351232) (i : Int) : Calls Tryd.prog 5 #[va, .int .i64 i] w0 fun e w' => e = .returned (.int .i64 (fitsE A.length i)) ∧ Sat w0 [] w' := by
  have hS := Sat.refl w0
  obtain ⟨a, c, rfl, -, -⟩ := hA.at
  obtain ⟨n, hn⟩ : ∃ n, A.length = n := ⟨_, rfl⟩
  rw [hn] at hl ⊢
  clear hA hn
  by_cases h1 : n = 256
  · subst h1
    by_cases h2 : i < 0
    · have E : Bx (fitsE 256 i = 1) := ⟨by rw [fitsE, if_neg (by omega), if_pos (.inl h2)]⟩
      have d2 : decide (i < 0) = true := decide_eq_true h2
      go_enter Tryd.func5, Tryd.ntmps5
      go_wp2_with (first | (refine load1 hS rfl rfl rfl rfl ?_; simp only [putW]) | (refine loadAll hS rfl rfl rfl ?_ ?_; rfl; simp only [putW]) | (refine loadPart hS rfl rfl rfl ?_ rfl ?_; rfl; simp only [putW]) | (refine store1 hS rfl rfl rfl rfl rfl ?_ ?_; (focus (simp; done)); clear hS; intro w hS; simp only [evW, putW] at hS; try simp only [putW]) | (refine storeAll hS rfl rfl rfl rfl ?_ ?_ ?_ ?_; rfl; (focus (simp [Value.oneCell']; done)); rfl; clear hS; intro w hS; try simp only [putW]) | (refine storeN hS rfl rfl rfl rfl ?_ ?_ ?_ ?_; rfl; (focus (simp [Value.oneCell']; done)); (focus (simp; done)); clear hS; intro w hS; simp at hS; try simp only [putW]) | (refine alloc hS rfl rfl ?_; clear hS; intro mb w hS; simp only [putW]) | (refine box1 hS rfl rfl rfl rfl ?_; clear hS; intro mb w hS; try simp only [evW, putW] at hS; simp only [putW]) | (refine boxN hS rfl rfl rfl ?_; clear hS; intro mb w hS; simp only [putW]))
      go_ret
      exact ⟨by rw [E.out]; rfl, hS⟩
    · have d2 : decide (i < 0) = false := decide_eq_false h2
      by_cases h3 : 7 < i
      · have E : Bx (fitsE 256 i = 1) := ⟨by rw [fitsE, if_neg (by omega), if_pos (.inr (by omega))]⟩
        have d3 : decide (7 < i) = true := decide_eq_true h3
        go_enter Tryd.func5, Tryd.ntmps5
        go_wp2_with (first | (refine load1 hS rfl rfl rfl rfl ?_; simp only [putW]) | (refine loadAll hS rfl rfl rfl ?_ ?_; rfl; simp only [putW]) | (refine loadPart hS rfl rfl rfl ?_ rfl ?_; rfl; simp only [putW]) | (refine store1 hS rfl rfl rfl rfl rfl ?_ ?_; (focus (simp; done)); clear hS; intro w hS; simp only [evW, putW] at hS; try simp only [putW]) | (refine storeAll hS rfl rfl rfl rfl ?_ ?_ ?_ ?_; rfl; (focus (simp [Value.oneCell']; done)); rfl; clear hS; intro w hS; try simp only [putW]) | (refine storeN hS rfl rfl rfl rfl ?_ ?_ ?_ ?_; rfl; (focus (simp [Value.oneCell']; done)); (focus (simp; done)); clear hS; intro w hS; simp at hS; try simp only [putW]) | (refine alloc hS rfl rfl ?_; clear hS; intro mb w hS; simp only [putW]) | (refine box1 hS rfl rfl rfl rfl ?_; clear hS; intro mb w hS; try simp only [evW, putW] at hS; simp only [putW]) | (refine boxN hS rfl rfl rfl ?_; clear hS; intro mb w hS; simp only [putW]))
        go_ret
        exact ⟨by rw [E.out]; rfl, hS⟩
      · have E : Bx (fitsE 256 i = 0) := ⟨by rw [fitsE, if_neg (by omega), if_neg (by omega)]⟩
        have d3 : decide (7 < i) = false := decide_eq_false h3
        go_enter Tryd.func5, Tryd.ntmps5
        go_wp2_with (first | (refine load1 hS rfl rfl rfl rfl ?_; simp only [putW]) | (refine loadAll hS rfl rfl rfl ?_ ?_; rfl; simp only [putW]) | (refine loadPart hS rfl rfl rfl ?_ rfl ?_; rfl; simp only [putW]) | (refine store1 hS rfl rfl rfl rfl rfl ?_ ?_; (focus (simp; done)); clear hS; intro w hS; simp only [evW, putW] at hS; try simp only [putW]) | (refine storeAll hS rfl rfl rfl rfl ?_ ?_ ?_ ?_; rfl; (focus (simp [Value.oneCell']; done)); rfl; clear hS; intro w hS; try simp only [putW]) | (refine storeN hS rfl rfl rfl rfl ?_ ?_ ?_ ?_; rfl; (focus (simp [Value.oneCell']; done)); (focus (simp; done)); clear hS; intro w hS; simp at hS; try simp only [putW]) | (refine alloc hS rfl rfl ?_; clear hS; intro mb w hS; simp only [putW]) | (refine box1 hS rfl rfl rfl rfl ?_; clear hS; intro mb w hS; try simp only [evW, putW] at hS; simp only [putW]) | (refine boxN hS rfl rfl rfl ?_; clear hS; intro mb w hS; simp only [putW]))
        go_ret
        exact ⟨by rw [E.out]; rfl, hS⟩
  · have E : Bx (fitsE n i = 3) := ⟨by rw [fitsE, if_pos h1]⟩
    have h1' : (n : Int) ≠ 256 := by omega
    go_enter Tryd.func5, Tryd.ntmps5
    go_wp2_with (first | (refine load1 hS rfl rfl rfl rfl ?_; simp only [putW]) | (refine loadAll hS rfl rfl rfl ?_ ?_; rfl; simp only [putW]) | (refine loadPart hS rfl rfl rfl ?_ rfl ?_; rfl; simp only [putW]) | (refine store1 hS rfl rfl rfl rfl rfl ?_ ?_; (focus (simp; done)); clear hS; intro w hS; simp only [evW, putW] at hS; try simp only [putW]) | (refine storeAll hS rfl rfl rfl rfl ?_ ?_ ?_ ?_; rfl; (focus (simp [Value.oneCell']; done)); rfl; clear hS; intro w hS; try simp only [putW]) | (refine storeN hS rfl rfl rfl rfl ?_ ?_ ?_ ?_; rfl; (focus (simp [Value.oneCell']; done)); (focus (simp; done)); clear hS; intro w hS; simp at hS; try simp only [putW]) | (refine alloc hS rfl rfl ?_; clear hS; intro mb w hS; simp only [putW]) | (refine box1 hS rfl rfl rfl rfl ?_; clear hS; intro mb w hS; try simp only [evW, putW] at hS; simp only [putW]) | (refine boxN hS rfl rfl rfl ?_; clear hS; intro mb w hS; simp only [putW]))
    go_ret
    exact ⟨by rw [E.out]; rfl, hS⟩
set_option maxRecDepth 100000 in
set_option maxHeartbeats 1000000 in
theorem kid_bad {f i : Int} (hA : RB w0 A va) (hl : A.length ≤ 140737488351232) (hf : fitsE A.length i = f) (h0 : f ≠ 0) :
    Calls Tryd.prog 6 #[va, .int .i64 i] w0 fun e w' => e = .returned (.tuple #[.agg ((List.replicate 32 (0 : Int)).map u8v).toArray, .int .i64 f]) ∧ Sat w0 [] w' := by
  have hS := Sat.refl w0
  have HA : Bx _ := ⟨hA⟩
  obtain ⟨a, c, rfl, -, -⟩ := hA.at
  have hal : A.length ≤ 9223372036854775807 := by omega
  have hfc : ∀ w, Sat w0 [] w → Calls Tryd.prog 11 #[.slice a A.length c, .int .i64 i] w fun e w' => e = .returned (.int .i64 f) ∧ Sat w [] w' := fun w h => (fits_any (HA.out.mono h.base) hal i).mono fun e w' h2 => ⟨by rw [h2.1, hf], h2.2⟩
  have hz : Bx ((List.replicate 32 (0 : Int)).length = 32) := ⟨rfl⟩
  clear hf hA
  go_enter Tryd.func6, Tryd.ntmps6
  go_wp2_with (first | (refine allocA (t := 23) (vv := u8v) hS rfl rfl (List.replicate 32 0) zeros32 ?_; clear hS; intro mo w hS; simp only [putW]) | (go_at_call 11; refine Calls.mono (hfc _ hS.nothing) ?_; rintro _ w2 ⟨rfl, h2⟩; replace hS := hS.frame h2; clear h2; (try simp only [List.cons_append, List.nil_append] at hS); simp only [putW]) | (refine storeAllA (vv := u8v) hS rfl rfl rfl (List.replicate 32 (0 : Int)) rfl hz.out (fun _ _ => rfl) (by simp) ?_; clear hS; intro w hS; try simp only [putW]) | (refine load1 hS rfl rfl rfl rfl ?_; simp only [putW]) | (refine loadAll hS rfl rfl rfl ?_ ?_; rfl; simp only [putW]) | (refine loadPart hS rfl rfl rfl ?_ rfl ?_; rfl; simp only [putW]) | (refine store1 hS rfl rfl rfl rfl rfl ?_ ?_; (focus (simp; done)); clear hS; intro w hS; simp only [evW, putW] at hS; try simp only [putW]) | (refine storeAll hS rfl rfl rfl rfl ?_ ?_ ?_ ?_; rfl; (focus (simp [Value.oneCell']; done)); rfl; clear hS; intro w hS; try simp only [putW]) | (refine storeN hS rfl rfl rfl rfl ?_ ?_ ?_ ?_; rfl; (focus (simp [Value.oneCell']; done)); (focus (simp; done)); clear hS; intro w hS; simp at hS; try simp only [putW]) | (refine alloc hS rfl rfl ?_; clear hS; intro mb w hS; simp only [putW]) | (refine box1 hS rfl rfl rfl rfl ?_; clear hS; intro mb w hS; try simp only [evW, putW] at hS; simp only [putW]) | (refine boxN hS rfl rfl rfl ?_; clear hS; intro mb w hS; simp only [putW]))
  have hr := run_loadAll (P := Tryd.prog) hS mo 23 (by simp)
  refine bodyPost_ret (v := .tuple #[.agg ((List.replicate 32 (0 : Int)).map u8v).toArray, .int .i64 f]) (by simp only [results, Tryd.results6, asAddr]; simp [hr]) rfl ⟨rfl, hS.nothing⟩
set_option maxHeartbeats 1000000 in
theorem setKid_bad {f i : Int} (hA : RB w0 A va) (hl : A.length ≤ 140737488351232) (hf : fitsE A.length i = f) (h0 : f ≠ 0) :
    Calls Tryd.prog 7 #[va, .int .i64 i, .agg (D.map u8v).toArray] w0 fun e w' => e = .returned (.tuple #[.slice none 0 0, .int .i64 f]) ∧ Sat w0 [] w' := by
  have hS := Sat.refl w0
  have HA : Bx _ := ⟨hA⟩
  obtain ⟨a, c, rfl, -, -⟩ := hA.at
  have hal : A.length ≤ 9223372036854775807 := by omega
  have hfc : ∀ w, Sat w0 [] w → Calls Tryd.prog 11 #[.slice a A.length c, .int .i64 i] w fun e w' => e = .returned (.int .i64 f) ∧ Sat w [] w' := fun w h => (fits_any (HA.out.mono h.base) hal i).mono fun e w' h2 => ⟨by rw [h2.1, hf], h2.2⟩
  clear hf hA
  go_enter Tryd.func7, Tryd.ntmps7
  go_wp2_with (first | (refine boxA (vv := u8v) hS rfl rfl D rfl ?_; clear hS; intro md w hS; simp only [putW]) | (go_at_call 11; refine Calls.mono (hfc _ hS.nothing) ?_; rintro _ w2 ⟨rfl, h2⟩; replace hS := hS.frame h2; clear h2; (try simp only [List.cons_append, List.nil_append] at hS); simp only [putW]) | (refine load1 hS rfl rfl rfl rfl ?_; simp only [putW]) | (refine loadAll hS rfl rfl rfl ?_ ?_; rfl; simp only [putW]) | (refine loadPart hS rfl rfl rfl ?_ rfl ?_; rfl; simp only [putW]) | (refine store1 hS rfl rfl rfl rfl rfl ?_ ?_; (focus (simp; done)); clear hS; intro w hS; simp only [evW, putW] at hS; try simp only [putW]) | (refine storeAll hS rfl rfl rfl rfl ?_ ?_ ?_ ?_; rfl; (focus (simp [Value.oneCell']; done)); rfl; clear hS; intro w hS; try simp only [putW]) | (refine storeN hS rfl rfl rfl rfl ?_ ?_ ?_ ?_; rfl; (focus (simp [Value.oneCell']; done)); (focus (simp; done)); clear hS; intro w hS; simp at hS; try simp only [putW]) | (refine alloc hS rfl rfl ?_; clear hS; intro mb w hS; simp only [putW]) | (refine box1 hS rfl rfl rfl rfl ?_; clear hS; intro mb w hS; try simp only [evW, putW] at hS; simp only [putW]) | (refine boxN hS rfl rfl rfl ?_; clear hS; intro mb w hS; simp only [putW]))
  refine bodyPost_ret (v := .tuple #[.slice none 0 0, .int .i64 f]) (by simp [results, Tryd.results7]) rfl ⟨rfl, hS.nothing⟩
set_option maxRecDepth 100000 in
set_option maxHeartbeats 1000000 in
theorem setKid_any {i : Nat} {ii : Int} (hii : ii = (i : Int)) (hA : RB w0 A va) (hl : A.length = 256) (hi : i < 8) (hD : D.length = 32) (hDb : ∀ b ∈ D, okByte b) :
    Calls Tryd.prog 7 #[va, .int .i64 ii, .agg (D.map u8v).toArray] w0 fun e w' => ∃ g c, e = .returned (.tuple #[.slice (some ⟨g, 0, none⟩) 256 c, .int .i64 0]) ∧ Sat w0 [(g, slc 1 by8 (putAt A (32 * i) D) c 5)] w' := by
  have hS := Sat.refl w0
  subst hii
  have HA : Bx _ := ⟨hA⟩
  have hdl : Bx (D.length = 32) := ⟨hD⟩
  have hdb' : Bx (∀ b ∈ D, okByte b) := ⟨hDb⟩
  have hf : Bx (fitsE A.length (i : Int) = 0) := ⟨by rw [hl, fitsE, if_neg (by omega), if_neg (by omega)]⟩
  have hal : A.length ≤ 9223372036854775807 := by omega
  have hcl : A.length ≤ 140737488355328 := by omega
  obtain ⟨a, c, rfl, -, -⟩ := hA.at
  have hfc : ∀ w, Sat w0 [] w → Calls Tryd.prog 11 #[.slice a A.length c, .int .i64 (i : Int)] w fun e w' => e = .returned (.int .i64 0) ∧ Sat w [] w' := fun w h => (fits_any (HA.out.mono h.base) hal (i : Int)).mono fun e w' h2 => ⟨by rw [h2.1, hf.out], h2.2⟩
  have HL : Bx _ := ⟨hl⟩
  have Hput : Bx (A.take (32 * i) ++ D.take 32 ++ A.drop (32 * i + 32) = putAt A (32 * i) D) := ⟨by unfold putAt; rw [hD, List.take_of_length_le (l := D) (by omega)]⟩
  rw [hl] at hfc HA ⊢
  clear hA hl hD hDb
  go_enter Tryd.func7, Tryd.ntmps7
  go_wp2_with (first | (refine boxA (vv := u8v) hS rfl rfl D rfl ?_; clear hS; intro md w hS; simp only [putW]) | (go_at_call 11; refine Calls.mono (hfc _ hS.nothing) ?_; rintro _ w2 ⟨rfl, h2⟩; replace hS := hS.frame h2; clear h2; (try simp only [List.cons_append, List.nil_append] at hS); simp only [putW]) | (guard_target =~ Calls _ 12 _ _ _; refine Stopped.out ?_) | (refine load1 hS rfl rfl rfl rfl ?_; simp only [putW]) | (refine loadAll hS rfl rfl rfl ?_ ?_; rfl; simp only [putW]) | (refine loadPart hS rfl rfl rfl ?_ rfl ?_; rfl; simp only [putW]) | (refine store1 hS rfl rfl rfl rfl rfl ?_ ?_; (focus (simp; done)); clear hS; intro w hS; simp only [evW, putW] at hS; try simp only [putW]) | (refine storeAll hS rfl rfl rfl rfl ?_ ?_ ?_ ?_; rfl; (focus (simp [Value.oneCell']; done)); rfl; clear hS; intro w hS; try simp only [putW]) | (refine storeN hS rfl rfl rfl rfl ?_ ?_ ?_ ?_; rfl; (focus (simp [Value.oneCell']; done)); (focus (simp; done)); clear hS; intro w hS; simp at hS; try simp only [putW]) | (refine alloc hS rfl rfl ?_; clear hS; intro mb w hS; simp only [putW]) | (refine box1 hS rfl rfl rfl rfl ?_; clear hS; intro mb w hS; try simp only [evW, putW] at hS; simp only [putW]) | (refine boxN hS rfl rfl rfl ?_; clear hS; intro mb w hS; simp only [putW]))
  refine ⟨?_⟩
  (refine Calls.mono (clone_any (HA.out.mono hS.base) hcl) ?_; rintro _ w2 ⟨vc, rfl, h2⟩; replace hS := hS.frame h2; clear h2; (try simp only [List.cons_append, List.nil_append] at hS); simp only [putW])
  obtain ⟨ga, ca, rfl, hS2⟩ := hS.slFormC 256 HL.out (by omega)
  have hcap := (hS2.slcFacts (g := ga) (n := 1) (f := by8) (l := A) (cap := ca) (t := 5)).1
  rw [HL.out] at hcap
  clear hS
  have hS := hS2
  clear hS2
  go_upto_region 5 with (first | (refine load1 hS rfl rfl rfl rfl ?_; simp only [putW]) | (refine loadAll hS rfl rfl rfl ?_ ?_; rfl; simp only [putW]) | (refine loadPart hS rfl rfl rfl ?_ rfl ?_; rfl; simp only [putW]) | (refine store1 hS rfl rfl rfl rfl rfl ?_ ?_; (focus (simp; done)); clear hS; intro w hS; simp only [evW, putW] at hS; try simp only [putW]) | (refine storeAll hS rfl rfl rfl rfl ?_ ?_ ?_ ?_; rfl; (focus (simp [Value.oneCell']; done)); rfl; clear hS; intro w hS; try simp only [putW]) | (refine storeN hS rfl rfl rfl rfl ?_ ?_ ?_ ?_; rfl; (focus (simp [Value.oneCell']; done)); (focus (simp; done)); clear hS; intro w hS; simp at hS; try simp only [putW]) | (refine alloc hS rfl rfl ?_; clear hS; intro mb w hS; simp only [putW]) | (refine box1 hS rfl rfl rfl rfl ?_; clear hS; intro mb w hS; try simp only [evW, putW] at hS; simp only [putW]) | (refine boxN hS rfl rfl rfl ?_; clear hS; intro mb w hS; simp only [putW]))
  (refine region_upd ga (slc 1 by8 (putAt A (32 * i) D) ca 5) 5 hS (by kernel_rfl) (by kernel_rfl) (by kernel_rfl) (by kernel_rfl) ?_; clear hS; (repeat (first | (apply one_dep rfl; (focus (intro w hS; go_wp2_with (first | (refine sliceLo (b := ga) (off := 0) (i := 32 * i) rfl rfl rfl rfl ?_ ?_ ?_ ?_; (focus omega); (focus omega); (focus omega); simp only [putW]) | (refine sliceArr rfl rfl Tryd.underlying23 rfl ?_; simp only [putW]) | (refine copyB (g := ga) hS rfl rfl rfl rfl D (hS.readsArrN 32 hdl.out hdb'.out (by simp [maxLen])) ?_ 32 ?_ ?_ ?_; (focus (simp [Value.oneCell']; done)); (focus (rw [hdl.out]; omega)); (focus (rw [HL.out]; omega)); clear hS; intro w hS; rw [Nat.zero_add, Hput.out] at hS; try simp only [putW]) | (refine load1 hS rfl rfl rfl rfl ?_; simp only [putW]) | (refine loadAll hS rfl rfl rfl ?_ ?_; rfl; simp only [putW]) | (refine loadPart hS rfl rfl rfl ?_ rfl ?_; rfl; simp only [putW])); exact ⟨rfl, rfl, hS⟩)); simp only [putW]) | (apply one_step rfl; (focus (intro w hS; go_wp2_with (first | (refine sliceLo (b := ga) (off := 0) (i := 32 * i) rfl rfl rfl rfl ?_ ?_ ?_ ?_; (focus omega); (focus omega); (focus omega); simp only [putW]) | (refine sliceArr rfl rfl Tryd.underlying23 rfl ?_; simp only [putW]) | (refine copyB (g := ga) hS rfl rfl rfl rfl D (hS.readsArrN 32 hdl.out hdb'.out (by simp [maxLen])) ?_ 32 ?_ ?_ ?_; (focus (simp [Value.oneCell']; done)); (focus (rw [hdl.out]; omega)); (focus (rw [HL.out]; omega)); clear hS; intro w hS; rw [Nat.zero_add, Hput.out] at hS; try simp only [putW]) | (refine load1 hS rfl rfl rfl rfl ?_; simp only [putW]) | (refine loadAll hS rfl rfl rfl ?_ ?_; rfl; simp only [putW]) | (refine loadPart hS rfl rfl rfl ?_ rfl ?_; rfl; simp only [putW])); exact ⟨rfl, rfl, hS⟩)); (focus (intro w hS; go_wp2_with (first | (refine sliceLo (b := ga) (off := 0) (i := 32 * i) rfl rfl rfl rfl ?_ ?_ ?_ ?_; (focus omega); (focus omega); (focus omega); simp only [putW]) | (refine sliceArr rfl rfl Tryd.underlying23 rfl ?_; simp only [putW]) | (refine copyB (g := ga) hS rfl rfl rfl rfl D (hS.readsArrN 32 hdl.out hdb'.out (by simp [maxLen])) ?_ 32 ?_ ?_ ?_; (focus (simp [Value.oneCell']; done)); (focus (rw [hdl.out]; omega)); (focus (rw [HL.out]; omega)); clear hS; intro w hS; rw [Nat.zero_add, Hput.out] at hS; try simp only [putW]) | (refine load1 hS rfl rfl rfl rfl ?_; simp only [putW]) | (refine loadAll hS rfl rfl rfl ?_ ?_; rfl; simp only [putW]) | (refine loadPart hS rfl rfl rfl ?_ rfl ?_; rfl; simp only [putW])); exact ⟨rfl, rfl, hS⟩)); simp only [putW]) | (refine one_here rfl (v := goInt (32 : Nat)) ?_ ?_; (focus (intro w hS; go_wp2_with (first | (refine sliceLo (b := ga) (off := 0) (i := 32 * i) rfl rfl rfl rfl ?_ ?_ ?_ ?_; (focus omega); (focus omega); (focus omega); simp only [putW]) | (refine sliceArr rfl rfl Tryd.underlying23 rfl ?_; simp only [putW]) | (refine copyB (g := ga) hS rfl rfl rfl rfl D (hS.readsArrN 32 hdl.out hdb'.out (by simp [maxLen])) ?_ 32 ?_ ?_ ?_; (focus (simp [Value.oneCell']; done)); (focus (rw [hdl.out]; omega)); (focus (rw [HL.out]; omega)); clear hS; intro w hS; rw [Nat.zero_add, Hput.out] at hS; try simp only [putW]) | (refine load1 hS rfl rfl rfl rfl ?_; simp only [putW]) | (refine loadAll hS rfl rfl rfl ?_ ?_; rfl; simp only [putW]) | (refine loadPart hS rfl rfl rfl ?_ rfl ?_; rfl; simp only [putW]) | (refine store1 hS rfl rfl rfl rfl rfl ?_ ?_; (focus (simp; done)); clear hS; intro w hS; simp only [evW, putW] at hS; try simp only [putW]) | (refine storeAll hS rfl rfl rfl rfl ?_ ?_ ?_ ?_; rfl; (focus (simp [Value.oneCell']; done)); rfl; clear hS; intro w hS; try simp only [putW]) | (refine storeN hS rfl rfl rfl rfl ?_ ?_ ?_ ?_; rfl; (focus (simp [Value.oneCell']; done)); (focus (simp; done)); clear hS; intro w hS; simp at hS; try simp only [putW]) | (refine alloc hS rfl rfl ?_; clear hS; intro mb w hS; simp only [putW]) | (refine box1 hS rfl rfl rfl rfl ?_; clear hS; intro mb w hS; try simp only [evW, putW] at hS; simp only [putW]) | (refine boxN hS rfl rfl rfl ?_; clear hS; intro mb w hS; simp only [putW])); (first | exact ⟨rfl, rfl, hS⟩ | exact ⟨rfl, rfl, hS.conv⟩))); simp only [putW]))); refine one_nil ?_; intro w hS)
  go_wp2_with (first | (refine load1 hS rfl rfl rfl rfl ?_; simp only [putW]) | (refine loadAll hS rfl rfl rfl ?_ ?_; rfl; simp only [putW]) | (refine loadPart hS rfl rfl rfl ?_ rfl ?_; rfl; simp only [putW]) | (refine store1 hS rfl rfl rfl rfl rfl ?_ ?_; (focus (simp; done)); clear hS; intro w hS; simp only [evW, putW] at hS; try simp only [putW]) | (refine storeAll hS rfl rfl rfl rfl ?_ ?_ ?_ ?_; rfl; (focus (simp [Value.oneCell']; done)); rfl; clear hS; intro w hS; try simp only [putW]) | (refine storeN hS rfl rfl rfl rfl ?_ ?_ ?_ ?_; rfl; (focus (simp [Value.oneCell']; done)); (focus (simp; done)); clear hS; intro w hS; simp at hS; try simp only [putW]) | (refine alloc hS rfl rfl ?_; clear hS; intro mb w hS; simp only [putW]) | (refine box1 hS rfl rfl rfl rfl ?_; clear hS; intro mb w hS; try simp only [evW, putW] at hS; simp only [putW]) | (refine boxN hS rfl rfl rfl ?_; clear hS; intro mb w hS; simp only [putW]))
  refine bodyPost_ret (v := .tuple #[.slice (some ⟨ga, 0, none⟩) 256 ca, .int .i64 0]) (by simp [results, Tryd.results7]) rfl ⟨ga, ca, rfl, hS.conv⟩
end
end Go.Proofs.YtmhnnppcihoofaaDoor
