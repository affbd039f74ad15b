/-
  thimbleref09.Same, Own.
-/
import Derived.Test.YteoidocicjlglaaDoorGhF
import Derived.Test.YteoidocicjlglaaDoorJ02
import Derived.Test.YteoidocicjlglaaDoorJ03
import Derived.Test.YteoidocicjlglaaDoorSlCell
set_option linter.unusedSimpArgs false
set_option linter.unusedVariables false
namespace Go.Proofs.YteoidocicjlglaaDoor
open Go.RowKit Go.Proofs.YteoidocicjlglaaDoor.Sl Go.Proofs.YteoidocicjlglaaDoor.Sha Go.Proofs.YteoidocicjlglaaDoor.Jp

def eqT (s t : Tup) : Bool := decide (s = t)
/-- A tuple that can be read. -/
structure TupRd (w : World) (x : TupV) : Prop where
  ok : TupOk x.2.2
  ra : RB w x.2.2.2.2.1 x.1
  rs : RB w x.2.2.2.2.2 x.2.1
theorem TupRd.mono {w w' : World} {x : TupV} (h : TupRd w x) (hb : Below w.heap.size w w') : TupRd w' x := ⟨h.ok, h.ra.mono hb, h.rs.mono hb⟩
theorem TupRd.cell {w : World} {x : TupV} (h : TupRd w x) : ∀ u ∈ tupF x, u.oneCell' = true := by
  obtain ⟨p1, d1, e1, -, -⟩ := h.ra.at
  obtain ⟨p2, d2, e2, -, -⟩ := h.rs.at
  exact tupF_cell (by rw [e1]; rfl) (by rw [e2]; rfl)
section
variable {w0 w : World} {K F S : List Chunk} {x y : TupV} {px py : List Value}
set_option maxRecDepth 100000 in
set_option maxHeartbeats 4000000 in
theorem sameT_any (hx : tupF x = px) (hy : tupF y = py) (hX : TupRd w0 x) (hY : TupRd w0 y) :
    Calls Tryd.prog 17 #[.agg px.toArray, .agg py.toArray] w0 fun e w' => e = .returned (.bool (eqT x.2.2 y.2.2)) ∧ Sat w0 [] w' := by
  have hS := Sat.refl w0
  have Hx : Bx (TupIn x px) := ⟨by rw [← hx]; exact tupIn hX.ok.2.1.1⟩
  have Hy : Bx (TupIn y py) := ⟨by rw [← hy]; exact tupIn hY.ok.2.1.1⟩
  obtain ⟨va, vs, e, n, A, B⟩ := x
  obtain ⟨ua, us, e', n', A', B'⟩ := y
  obtain ⟨hxo, hxa, hxs⟩ := hX
  obtain ⟨hyo, hya, hys⟩ := hY
  have hnn : ∀ w, (Op.equalIn 10000 44 (.agg (n.map u8v).toArray) (.agg (n'.map u8v).toArray)).run Tryd.prog w = .ok (decide (n = n')) w := fun w => eq12 hxo.2.1.1 hyo.2.1.1 hxo.2.1.2 hyo.2.1.2 w
  have x0 : Bx (CellIs px.toArray 0 (.int .u32 e)) := ⟨⟨by simpa using Hx.out.ep⟩⟩
  have y0 : Bx (CellIs py.toArray 0 (.int .u32 e')) := ⟨⟨by simpa using Hy.out.ep⟩⟩
  have x1 : Bx (PartIs px.toArray 1 12 (n.map u8v)) := ⟨⟨by rw [List.length_map]; exact hxo.2.1.1, by rw [List.toList_toArray]; exact Hx.out.non⟩⟩
  have y1 : Bx (PartIs py.toArray 1 12 (n'.map u8v)) := ⟨⟨by rw [List.length_map]; exact hyo.2.1.1, by rw [List.toList_toArray]; exact Hy.out.non⟩⟩
  have x13 : Bx (CellIs px.toArray 13 va) := ⟨⟨by simpa using Hx.out.aad⟩⟩
  have y13 : Bx (CellIs py.toArray 13 ua) := ⟨⟨by simpa using Hy.out.aad⟩⟩
  have x14 : Bx (CellIs px.toArray 14 vs) := ⟨⟨by simpa using Hx.out.sea⟩⟩
  have y14 : Bx (CellIs py.toArray 14 us) := ⟨⟨by simpa using Hy.out.sea⟩⟩
  have HA : Bx _ := ⟨hxa⟩
  have HB : Bx _ := ⟨hxs⟩
  have HA' : Bx _ := ⟨hya⟩
  have HB' : Bx _ := ⟨hys⟩
  clear hx hy Hx Hy hxo hyo hxa hxs hya hys
  go_enter Tryd.func17, Tryd.ntmps17
  go_upto_region 1 with (first | (refine boxN (cs := px.toArray) hS rfl rfl rfl ?_; clear hS; intro mx w hS; simp only [putW]) | (refine boxN (cs := py.toArray) hS rfl rfl rfl ?_; clear hS; intro my w hS; simp only [putW]) | (refine load1 hS rfl rfl rfl rfl ?_; simp only [putW]) | (refine loadAll hS rfl rfl rfl ?_ ?_; rfl; simp only [putW]) | (refine loadPart hS rfl rfl rfl ?_ rfl ?_; rfl; simp only [putW]) | (refine store1 hS rfl rfl rfl rfl rfl ?_ ?_; (focus (simp; done)); clear hS; intro w hS; simp only [evW, putW] at hS; try simp only [putW]) | (refine storeAll hS rfl rfl rfl rfl ?_ ?_ ?_ ?_; rfl; (focus (simp [Value.oneCell']; done)); rfl; clear hS; intro w hS; try simp only [putW]) | (refine storeN hS rfl rfl rfl rfl ?_ ?_ ?_ ?_; rfl; (focus (simp [Value.oneCell']; done)); (focus (simp; done)); clear hS; intro w hS; simp at hS; try simp only [putW]) | (refine alloc hS rfl rfl ?_; clear hS; intro mb w hS; simp only [putW]) | (refine box1 hS rfl rfl rfl rfl ?_; clear hS; intro mb w hS; try simp only [evW, putW] at hS; simp only [putW]) | (refine boxN hS rfl rfl rfl ?_; clear hS; intro mb w hS; simp only [putW]))
  by_cases h1 : e = e'
  · subst h1
    by_cases h2 : n = n'
    · have h2d : decide (n = n') = true := decide_eq_true h2
      rw [h2d] at hnn
      by_cases h3 : A = A'
      · have h3d : decide (A = A') = true := decide_eq_true h3
        obtain ⟨b4, hb4⟩ : ∃ b4, decide (B = B') = b4 := ⟨_, rfl⟩
        have E4 : Bx _ := ⟨hb4⟩
        have hfin : Bx (eqT (e, n, A, B) (e, n', A', B') = b4) := ⟨by rw [← hb4]; simp [eqT, h2, h3]⟩
        have h3B : Bx _ := ⟨h3d⟩
        clear h2 h3 h2d h3d hb4
        go_wp2_with (first | (refine loadC hS rfl rfl rfl x0.out ?_; simp only [putW]) | (refine loadC hS rfl rfl rfl y0.out ?_; simp only [putW]) | (refine loadP hS rfl rfl rfl x1.out ?_; simp only [putW]) | (refine loadP hS rfl rfl rfl y1.out ?_; simp only [putW]) | (refine loadC hS rfl rfl rfl x13.out ?_; simp only [putW]) | (refine loadC hS rfl rfl rfl y13.out ?_; simp only [putW]) | (guard_target =~ Calls _ 14 _ _ _; refine Stopped.out ?_) | (refine load1 hS rfl rfl rfl rfl ?_; simp only [putW]) | (refine loadAll hS rfl rfl rfl ?_ ?_; rfl; simp only [putW]) | (refine loadPart hS rfl rfl rfl ?_ rfl ?_; rfl; simp only [putW]) | (refine store1 hS rfl rfl rfl rfl rfl ?_ ?_; (focus (simp; done)); clear hS; intro w hS; simp only [evW, putW] at hS; try simp only [putW]) | (refine storeAll hS rfl rfl rfl rfl ?_ ?_ ?_ ?_; rfl; (focus (simp [Value.oneCell']; done)); rfl; clear hS; intro w hS; try simp only [putW]) | (refine storeN hS rfl rfl rfl rfl ?_ ?_ ?_ ?_; rfl; (focus (simp [Value.oneCell']; done)); (focus (simp; done)); clear hS; intro w hS; simp at hS; try simp only [putW]) | (refine alloc hS rfl rfl ?_; clear hS; intro mb w hS; simp only [putW]) | (refine box1 hS rfl rfl rfl rfl ?_; clear hS; intro mb w hS; try simp only [evW, putW] at hS; simp only [putW]) | (refine boxN hS rfl rfl rfl ?_; clear hS; intro mb w hS; simp only [putW]))
        refine ⟨?_⟩
        (refine Calls.mono (same_any (HA.out.mono hS.base) (HA'.out.mono hS.base)) ?_; rintro _ w2 ⟨rfl, h2⟩; replace hS := hS.frame h2; clear h2; (try simp only [List.cons_append, List.nil_append] at hS); simp only [putW])
        rw [h3B.out]
        go_wp2_with (first | (refine loadC hS rfl rfl rfl x14.out ?_; simp only [putW]) | (refine loadC hS rfl rfl rfl y14.out ?_; simp only [putW]) | (guard_target =~ Calls _ 14 _ _ _; refine Stopped.out ?_) | (refine load1 hS rfl rfl rfl rfl ?_; simp only [putW]) | (refine loadAll hS rfl rfl rfl ?_ ?_; rfl; simp only [putW]) | (refine loadPart hS rfl rfl rfl ?_ rfl ?_; rfl; simp only [putW]) | (refine store1 hS rfl rfl rfl rfl rfl ?_ ?_; (focus (simp; done)); clear hS; intro w hS; simp only [evW, putW] at hS; try simp only [putW]) | (refine storeAll hS rfl rfl rfl rfl ?_ ?_ ?_ ?_; rfl; (focus (simp [Value.oneCell']; done)); rfl; clear hS; intro w hS; try simp only [putW]) | (refine storeN hS rfl rfl rfl rfl ?_ ?_ ?_ ?_; rfl; (focus (simp [Value.oneCell']; done)); (focus (simp; done)); clear hS; intro w hS; simp at hS; try simp only [putW]) | (refine alloc hS rfl rfl ?_; clear hS; intro mb w hS; simp only [putW]) | (refine box1 hS rfl rfl rfl rfl ?_; clear hS; intro mb w hS; try simp only [evW, putW] at hS; simp only [putW]) | (refine boxN hS rfl rfl rfl ?_; clear hS; intro mb w hS; simp only [putW]))
        refine ⟨?_⟩
        (refine Calls.mono (same_any (HB.out.mono hS.base) (HB'.out.mono hS.base)) ?_; rintro _ w2 ⟨rfl, h2⟩; replace hS := hS.frame h2; clear h2; (try simp only [List.cons_append, List.nil_append] at hS); simp only [putW])
        rw [E4.out]
        go_wp2_with (first | (refine load1 hS rfl rfl rfl rfl ?_; simp only [putW]) | (refine loadAll hS rfl rfl rfl ?_ ?_; rfl; simp only [putW]) | (refine loadPart hS rfl rfl rfl ?_ rfl ?_; rfl; simp only [putW]) | (refine store1 hS rfl rfl rfl rfl rfl ?_ ?_; (focus (simp; done)); clear hS; intro w hS; simp only [evW, putW] at hS; try simp only [putW]) | (refine storeAll hS rfl rfl rfl rfl ?_ ?_ ?_ ?_; rfl; (focus (simp [Value.oneCell']; done)); rfl; clear hS; intro w hS; try simp only [putW]) | (refine storeN hS rfl rfl rfl rfl ?_ ?_ ?_ ?_; rfl; (focus (simp [Value.oneCell']; done)); (focus (simp; done)); clear hS; intro w hS; simp at hS; try simp only [putW]) | (refine alloc hS rfl rfl ?_; clear hS; intro mb w hS; simp only [putW]) | (refine box1 hS rfl rfl rfl rfl ?_; clear hS; intro mb w hS; try simp only [evW, putW] at hS; simp only [putW]) | (refine boxN hS rfl rfl rfl ?_; clear hS; intro mb w hS; simp only [putW]))
        go_ret
        exact ⟨by rw [hfin.out]; rfl, hS.nothing⟩
      · have h3d : decide (A = A') = false := decide_eq_false h3
        have hfin : Bx (eqT (e, n, A, B) (e, n', A', B') = false) := ⟨by simp [eqT, h3]⟩
        have h3B : Bx _ := ⟨h3d⟩
        clear h2 h3 h2d h3d
        go_wp2_with (first | (refine loadC hS rfl rfl rfl x0.out ?_; simp only [putW]) | (refine loadC hS rfl rfl rfl y0.out ?_; simp only [putW]) | (refine loadP hS rfl rfl rfl x1.out ?_; simp only [putW]) | (refine loadP hS rfl rfl rfl y1.out ?_; simp only [putW]) | (refine loadC hS rfl rfl rfl x13.out ?_; simp only [putW]) | (refine loadC hS rfl rfl rfl y13.out ?_; simp only [putW]) | ((go_at_call 14; refine Calls.mono (same_any (HA.out.mono hS.base) (HA'.out.mono hS.base)) ?_; rintro _ w2 ⟨rfl, h2⟩; replace hS := hS.frame h2; clear h2; (try simp only [List.cons_append, List.nil_append] at hS); simp only [putW]); rw [h3B.out]) | (refine load1 hS rfl rfl rfl rfl ?_; simp only [putW]) | (refine loadAll hS rfl rfl rfl ?_ ?_; rfl; simp only [putW]) | (refine loadPart hS rfl rfl rfl ?_ rfl ?_; rfl; simp only [putW]) | (refine store1 hS rfl rfl rfl rfl rfl ?_ ?_; (focus (simp; done)); clear hS; intro w hS; simp only [evW, putW] at hS; try simp only [putW]) | (refine storeAll hS rfl rfl rfl rfl ?_ ?_ ?_ ?_; rfl; (focus (simp [Value.oneCell']; done)); rfl; clear hS; intro w hS; try simp only [putW]) | (refine storeN hS rfl rfl rfl rfl ?_ ?_ ?_ ?_; rfl; (focus (simp [Value.oneCell']; done)); (focus (simp; done)); clear hS; intro w hS; simp at hS; try simp only [putW]) | (refine alloc hS rfl rfl ?_; clear hS; intro mb w hS; simp only [putW]) | (refine box1 hS rfl rfl rfl rfl ?_; clear hS; intro mb w hS; try simp only [evW, putW] at hS; simp only [putW]) | (refine boxN hS rfl rfl rfl ?_; clear hS; intro mb w hS; simp only [putW]))
        go_ret
        exact ⟨by rw [hfin.out]; rfl, hS.nothing⟩
    · have h2d : decide (n = n') = false := decide_eq_false h2
      rw [h2d] at hnn
      have hfin : Bx (eqT (e, n, A, B) (e, n', A', B') = false) := ⟨by simp [eqT, h2]⟩
      clear h2 h2d
      go_wp2_with (first | (refine loadC hS rfl rfl rfl x0.out ?_; simp only [putW]) | (refine loadC hS rfl rfl rfl y0.out ?_; simp only [putW]) | (refine loadP hS rfl rfl rfl x1.out ?_; simp only [putW]) | (refine loadP hS rfl rfl rfl y1.out ?_; simp only [putW]) | (refine load1 hS rfl rfl rfl rfl ?_; simp only [putW]) | (refine loadAll hS rfl rfl rfl ?_ ?_; rfl; simp only [putW]) | (refine loadPart hS rfl rfl rfl ?_ rfl ?_; rfl; simp only [putW]) | (refine store1 hS rfl rfl rfl rfl rfl ?_ ?_; (focus (simp; done)); clear hS; intro w hS; simp only [evW, putW] at hS; try simp only [putW]) | (refine storeAll hS rfl rfl rfl rfl ?_ ?_ ?_ ?_; rfl; (focus (simp [Value.oneCell']; done)); rfl; clear hS; intro w hS; try simp only [putW]) | (refine storeN hS rfl rfl rfl rfl ?_ ?_ ?_ ?_; rfl; (focus (simp [Value.oneCell']; done)); (focus (simp; done)); clear hS; intro w hS; simp at hS; try simp only [putW]) | (refine alloc hS rfl rfl ?_; clear hS; intro mb w hS; simp only [putW]) | (refine box1 hS rfl rfl rfl rfl ?_; clear hS; intro mb w hS; try simp only [evW, putW] at hS; simp only [putW]) | (refine boxN hS rfl rfl rfl ?_; clear hS; intro mb w hS; simp only [putW]))
      go_ret
      exact ⟨by rw [hfin.out]; rfl, hS.nothing⟩
  · have h1d : decide (e = e') = false := decide_eq_false h1
    have hfin : Bx (eqT (e, n, A, B) (e', n', A', B') = false) := ⟨by simp [eqT, h1]⟩
    go_wp2_with (first | (refine loadC hS rfl rfl rfl x0.out ?_; simp only [putW]) | (refine loadC hS rfl rfl rfl y0.out ?_; simp only [putW]) | (refine load1 hS rfl rfl rfl rfl ?_; simp only [putW]) | (refine loadAll hS rfl rfl rfl ?_ ?_; rfl; simp only [putW]) | (refine loadPart hS rfl rfl rfl ?_ rfl ?_; rfl; simp only [putW]) | (refine store1 hS rfl rfl rfl rfl rfl ?_ ?_; (focus (simp; done)); clear hS; intro w hS; simp only [evW, putW] at hS; try simp only [putW]) | (refine storeAll hS rfl rfl rfl rfl ?_ ?_ ?_ ?_; rfl; (focus (simp [Value.oneCell']; done)); rfl; clear hS; intro w hS; try simp only [putW]) | (refine storeN hS rfl rfl rfl rfl ?_ ?_ ?_ ?_; rfl; (focus (simp [Value.oneCell']; done)); (focus (simp; done)); clear hS; intro w hS; simp at hS; try simp only [putW]) | (refine alloc hS rfl rfl ?_; clear hS; intro mb w hS; simp only [putW]) | (refine box1 hS rfl rfl rfl rfl ?_; clear hS; intro mb w hS; try simp only [evW, putW] at hS; simp only [putW]) | (refine boxN hS rfl rfl rfl ?_; clear hS; intro mb w hS; simp only [putW]))
    go_ret
    exact ⟨by rw [hfin.out]; rfl, hS.nothing⟩
end
end Go.Proofs.YteoidocicjlglaaDoor
