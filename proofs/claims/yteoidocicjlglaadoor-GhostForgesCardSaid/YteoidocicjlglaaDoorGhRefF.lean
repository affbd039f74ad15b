/-
  thimbleref09: Forged.
-/
import Derived.Test.YteoidocicjlglaaDoorGhRefT
set_option linter.unusedSimpArgs false
set_option linter.unusedVariables false
namespace Go.Proofs.YteoidocicjlglaaDoor
open Go.RowKit Go.Proofs.YteoidocicjlglaaDoor.Sl Go.Proofs.YteoidocicjlglaaDoor.Sha Go.Proofs.YteoidocicjlglaaDoor.Jp

/-- Found, or not. -/
def FoundIs (b : Bool) (t : Tup) (L : List Tup) : Prop := b = true ↔ t ∈ L
theorem FoundIs.yes {t : Tup} {L : List Tup} (h : FoundIs true t L) : t ∈ L := h.1 rfl
theorem FoundIs.no {t : Tup} {L : List Tup} (h : FoundIs false t L) : t ∉ L := fun h2 => by have := h.2 h2; cases this
section
variable {w0 w : World} {K F S : List Chunk} {l : Nat} {vp vs vo v : Value} {X : List PairV} {Y Z : List TupV}
set_option maxRecDepth 100000 in
set_option maxHeartbeats 4000000 in
theorem refForged_any (hY : ∀ x ∈ Y, TupRd w0 x) (hZ : ∀ x ∈ Z, TupRd w0 x) (hYl : Y.length ≤ 1000000) (hZl : Z.length ≤ 1000000) (hS : Sat w0 ((l, cells #[vp, vs, vo] 41) :: (blk vs, sl 15 tupF Y 46 vs) :: (blk vo, sl 15 tupF Z 46 vo) :: K) w) :
    Calls Tryd.prog 15 #[.pointer (some ⟨l, 0, none⟩)] w fun e w' => ((e = .returned (.int .i64 (-1)) ∧ NoForged (tsOf Y) (tsOf Z) Z.length) ∨ ∃ (j : Nat) (t : Tup), e = .returned (.int .i64 j) ∧ ForgedAt (tsOf Y) (tsOf Z) j t) ∧
      Sat w0 ((l, cells #[vp, vs, vo] 41) :: (blk vs, sl 15 tupF Y 46 vs) :: (blk vo, sl 15 tupF Z 46 vo) :: K) w' := by
  have HYk : Bx _ := ⟨hY⟩
  have HZk : Bx _ := ⟨hZ⟩
  clear hY hZ
  obtain ⟨nY, hnY⟩ : ∃ n, Y.length = n := ⟨_, rfl⟩
  obtain ⟨nZ, hnZ⟩ : ∃ n, Z.length = n := ⟨_, rfl⟩
  obtain ⟨qs, cs, e1⟩ := slShape (hS.pull (blk vs) (X := sl 15 tupF Y 46 vs))
  obtain ⟨qo, co, e2⟩ := slShape (hS.pull (blk vo) (X := sl 15 tupF Z 46 vo))
  rw [hnY] at e1 hYl
  rw [hnZ] at e2 hZl
  subst e1 e2
  have HnY : Bx _ := ⟨hnY⟩
  have HnZ : Bx _ := ⟨hnZ⟩
  rw [hnZ]
  clear hnY hnZ
  go_enter Tryd.func15, Tryd.ntmps15
  go_wp2_with (first | (refine load1 hS rfl rfl rfl rfl ?_; simp only [putW]) | (refine loadAll hS rfl rfl rfl ?_ ?_; rfl; simp only [putW]) | (refine loadPart hS rfl rfl rfl ?_ rfl ?_; rfl; simp only [putW]) | (refine store1 hS rfl rfl rfl rfl rfl ?_ ?_; (focus (simp; done)); clear hS; intro w hS; simp only [evW, putW] at hS; try simp only [putW]) | (refine storeAll hS rfl rfl rfl rfl ?_ ?_ ?_ ?_; rfl; (focus (simp [Value.oneCell']; done)); rfl; clear hS; intro w hS; try simp only [putW]) | (refine storeN hS rfl rfl rfl rfl ?_ ?_ ?_ ?_; rfl; (focus (simp [Value.oneCell']; done)); (focus (simp; done)); clear hS; intro w hS; simp at hS; try simp only [putW]) | (refine alloc hS rfl rfl ?_; clear hS; intro mb w hS; simp only [putW]) | (refine box1 hS rfl rfl rfl rfl ?_; clear hS; intro mb w hS; try simp only [evW, putW] at hS; simp only [putW]) | (refine boxN hS rfl rfl rfl ?_; clear hS; intro mb w hS; simp only [putW]))
  go_loopg [3] nZ (fun g j' wr => ∃ j : Nat, j + g = nZ ∧ j' = .int .i64 j ∧ Bx (NoForged (tsOf Y) (tsOf Z) j) ∧ Sat w0 ((l, cells #[vp, .slice qs nY cs, .slice qo nZ co] 41) :: (blk (.slice qs nY cs), sl 15 tupF Y 46 (.slice qs nY cs)) :: (blk (.slice qo nZ co), sl 15 tupF Z 46 (.slice qo nZ co)) :: K) wr)
  case atStart => exact ⟨0, by omega, rfl, ⟨fun n hn => by omega⟩, hS.conv⟩
  case round =>
    clear hS
    obtain ⟨j, hjg, rfl, hno, hS⟩ := hrel
    cases gk with
    | succ g =>
      have hlt : j < nZ := by omega
      have hlti : (j : Int) < (nZ : Int) := by omega
      obtain ⟨z, hz⟩ : ∃ y, Z[j]? = some y := ⟨_, List.getElem?_eq_getElem (by rw [HnZ.out]; exact hlt)⟩
      have hzr := HZk.out z (List.mem_of_getElem? hz)
      obtain ⟨pz, hpz⟩ : ∃ pz, tupF z = pz := ⟨_, rfl⟩
      have Hpz : Bx _ := ⟨hpz⟩
      have Hzl : Bx (pz.length = 15) := ⟨by rw [← hpz]; exact tupF_len hzr.ok.2.1.1⟩
      have Hzr : Bx _ := ⟨hzr⟩
      have Hz : Bx _ := ⟨hz⟩
      have Hzp : Bx ((tsOf Z)[j]? = some z.2.2) := ⟨tsOf_get hz⟩
      clear hpz hzr hlt
      obtain ⟨gz, cap, e1, hS2⟩ := (hS.pull (blk (.slice qo nZ co)) (X := sl 15 tupF Z 46 (.slice qo nZ co))).slFormC nZ HnZ.out (by omega)
      cases e1
      clear hS
      have hS := hS2
      clear hS2
      go_wp2_with (first | (refine load1 hS rfl rfl rfl rfl ?_; simp only [putW]) | (refine loadAll hS rfl rfl rfl ?_ ?_; rfl; simp only [putW]) | (refine loadPart hS rfl rfl rfl ?_ rfl ?_; rfl; simp only [putW]) | (refine store1 hS rfl rfl rfl rfl rfl ?_ ?_; (focus (simp; done)); clear hS; intro w hS; simp only [evW, putW] at hS; try simp only [putW]) | (refine storeAll hS rfl rfl rfl rfl ?_ ?_ ?_ ?_; rfl; (focus (simp [Value.oneCell']; done)); rfl; clear hS; intro w hS; try simp only [putW]) | (refine storeN hS rfl rfl rfl rfl ?_ ?_ ?_ ?_; rfl; (focus (simp [Value.oneCell']; done)); (focus (simp; done)); clear hS; intro w hS; simp at hS; try simp only [putW]) | (refine alloc hS rfl rfl ?_; clear hS; intro mb w hS; simp only [putW]) | (refine box1 hS rfl rfl rfl rfl ?_; clear hS; intro mb w hS; try simp only [evW, putW] at hS; simp only [putW]) | (refine boxN hS rfl rfl rfl ?_; clear hS; intro mb w hS; simp only [putW]))
      go_loopg [4, 5] nY (fun g2 f i' wr => ∃ (i : Nat) (b : Bool), i + g2 = nY ∧ f = .bool b ∧ i' = .int .i64 i ∧ Bx (FoundIs b z.2.2 ((tsOf Y).take i)) ∧ Sat w0 ((gz, slc 15 tupF Z co 46) :: (l, cells #[vp, .slice qs nY cs, .slice (some ⟨gz, 0, none⟩) nZ co] 41) :: (blk (.slice qs nY cs), sl 15 tupF Y 46 (.slice qs nY cs)) :: K) wr)
      case atStart => exact ⟨0, false, by omega, rfl, rfl, ⟨by simp [FoundIs]⟩, hS.conv⟩
      case round =>
        clear hS
        obtain ⟨i, b, hig, rfl, rfl, hfi, hS⟩ := hrel
        cases gk with
        | succ g2 =>
          have hlt2 : i < nY := by omega
          have hlti2 : (i : Int) < (nY : Int) := by omega
          obtain ⟨y, hy⟩ : ∃ y, Y[i]? = some y := ⟨_, List.getElem?_eq_getElem (by rw [HnY.out]; exact hlt2)⟩
          have hyr := HYk.out y (List.mem_of_getElem? hy)
          obtain ⟨py, hpy⟩ : ∃ py, tupF y = py := ⟨_, rfl⟩
          have Hpy : Bx _ := ⟨hpy⟩
          have Hyl : Bx (py.length = 15) := ⟨by rw [← hpy]; exact tupF_len hyr.ok.2.1.1⟩
          have Hyr : Bx _ := ⟨hyr⟩
          have Hnx : Bx ((tsOf Y).take (i + 1) = (tsOf Y).take i ++ [y.2.2]) := ⟨by rw [List.take_add_one, tsOf_get hy]; rfl⟩
          clear hpy hyr hlt2
          obtain ⟨gy, cap, e1, hS2⟩ := (hS.pull (blk (.slice qs nY cs)) (X := sl 15 tupF Y 46 (.slice qs nY cs))).slFormC nY HnY.out (by omega)
          cases e1
          clear hS
          have hS := hS2
          clear hS2
          cases b with
          | true =>
            have hst : Bx (FoundIs true z.2.2 ((tsOf Y).take (i + 1))) := ⟨by unfold FoundIs; rw [Hnx.out]; simp [hfi.out.yes]⟩
            go_wp2_with (first | (refine load1 hS rfl rfl rfl rfl ?_; simp only [putW]) | (refine loadAll hS rfl rfl rfl ?_ ?_; rfl; simp only [putW]) | (refine loadPart hS rfl rfl rfl ?_ rfl ?_; rfl; simp only [putW]) | (refine store1 hS rfl rfl rfl rfl rfl ?_ ?_; (focus (simp; done)); clear hS; intro w hS; simp only [evW, putW] at hS; try simp only [putW]) | (refine storeAll hS rfl rfl rfl rfl ?_ ?_ ?_ ?_; rfl; (focus (simp [Value.oneCell']; done)); rfl; clear hS; intro w hS; try simp only [putW]) | (refine storeN hS rfl rfl rfl rfl ?_ ?_ ?_ ?_; rfl; (focus (simp [Value.oneCell']; done)); (focus (simp; done)); clear hS; intro w hS; simp at hS; try simp only [putW]) | (refine alloc hS rfl rfl ?_; clear hS; intro mb w hS; simp only [putW]) | (refine box1 hS rfl rfl rfl rfl ?_; clear hS; intro mb w hS; try simp only [evW, putW] at hS; simp only [putW]) | (refine boxN hS rfl rfl rfl ?_; clear hS; intro mb w hS; simp only [putW]))
            (refine region_quiet hS (by kernel_rfl) (by kernel_rfl) (by kernel_rfl) ?_; clear hS; (repeat (apply quiet_step; (focus (intro w hS; go_wp2_with (first | (refine load1 hS rfl rfl rfl rfl ?_; simp only [putW]) | (refine loadAll hS rfl rfl rfl ?_ ?_; rfl; simp only [putW]) | (refine loadPart hS rfl rfl rfl ?_ rfl ?_; rfl; simp only [putW])); exact ⟨rfl, rfl, hS⟩)); simp only [putW])); refine quiet_nil ?_; intro w hS)
            go_wp2_with (first | (refine load1 hS rfl rfl rfl rfl ?_; simp only [putW]) | (refine loadAll hS rfl rfl rfl ?_ ?_; rfl; simp only [putW]) | (refine loadPart hS rfl rfl rfl ?_ rfl ?_; rfl; simp only [putW]) | (refine store1 hS rfl rfl rfl rfl rfl ?_ ?_; (focus (simp; done)); clear hS; intro w hS; simp only [evW, putW] at hS; try simp only [putW]) | (refine storeAll hS rfl rfl rfl rfl ?_ ?_ ?_ ?_; rfl; (focus (simp [Value.oneCell']; done)); rfl; clear hS; intro w hS; try simp only [putW]) | (refine storeN hS rfl rfl rfl rfl ?_ ?_ ?_ ?_; rfl; (focus (simp [Value.oneCell']; done)); (focus (simp; done)); clear hS; intro w hS; simp at hS; try simp only [putW]) | (refine alloc hS rfl rfl ?_; clear hS; intro mb w hS; simp only [putW]) | (refine box1 hS rfl rfl rfl rfl ?_; clear hS; intro mb w hS; try simp only [evW, putW] at hS; simp only [putW]) | (refine boxN hS rfl rfl rfl ?_; clear hS; intro mb w hS; simp only [putW]))
            have h1 := (hS.pull gy (X := slc 15 tupF Y cs 46)).slOfSlc
            rw [HnY.out] at h1
            go_roundg g2
            case measure => omega
            case rel => exact ⟨i + 1, true, by omega, rfl, by go_num, hst, h1.conv⟩
          | false =>
            have hst : Bx (FoundIs (eqT y.2.2 z.2.2) z.2.2 ((tsOf Y).take (i + 1))) := ⟨by
              have h1 : z.2.2 ∉ (tsOf Y).take i := hfi.out.no
              unfold FoundIs
              rw [Hnx.out, List.mem_append, List.mem_singleton]
              unfold eqT
              rw [decide_eq_true_iff]
              exact ⟨fun h => .inr h.symm, fun h => (h.resolve_left h1).symm⟩⟩
            obtain ⟨b2, hb2⟩ : ∃ b2, eqT y.2.2 z.2.2 = b2 := ⟨_, rfl⟩
            have Hb2 : Bx _ := ⟨hb2⟩
            rw [hb2] at hst
            clear hb2
            go_wp2_with (first | (refine load1 hS rfl rfl rfl rfl ?_; simp only [putW]) | (refine loadAll hS rfl rfl rfl ?_ ?_; rfl; simp only [putW]) | (refine loadPart hS rfl rfl rfl ?_ rfl ?_; rfl; simp only [putW]) | (refine store1 hS rfl rfl rfl rfl rfl ?_ ?_; (focus (simp; done)); clear hS; intro w hS; simp only [evW, putW] at hS; try simp only [putW]) | (refine storeAll hS rfl rfl rfl rfl ?_ ?_ ?_ ?_; rfl; (focus (simp [Value.oneCell']; done)); rfl; clear hS; intro w hS; try simp only [putW]) | (refine storeN hS rfl rfl rfl rfl ?_ ?_ ?_ ?_; rfl; (focus (simp [Value.oneCell']; done)); (focus (simp; done)); clear hS; intro w hS; simp at hS; try simp only [putW]) | (refine alloc hS rfl rfl ?_; clear hS; intro mb w hS; simp only [putW]) | (refine box1 hS rfl rfl rfl rfl ?_; clear hS; intro mb w hS; try simp only [evW, putW] at hS; simp only [putW]) | (refine boxN hS rfl rfl rfl ?_; clear hS; intro mb w hS; simp only [putW]))
            (refine region_quiet hS (by kernel_rfl) (by kernel_rfl) (by kernel_rfl) ?_; clear hS; (repeat (apply quiet_step; (focus (intro w hS; go_wp2_with (first | (refine loadSN (f := tupF) (vs := py) hS rfl rfl rfl i 0 ?_ hy ?_ ?_ ?_; (focus omega); (focus omega); (focus (rw [List.drop_zero, Hpy.out, List.take_of_length_le (by rw [Hyl.out]; omega)])); simp only [putW]) | (refine loadSN (f := tupF) (vs := pz) hS rfl rfl rfl j 0 ?_ hz ?_ ?_ ?_; (focus omega); (focus omega); (focus (rw [List.drop_zero, Hpz.out, List.take_of_length_le (by rw [Hzl.out]; omega)])); simp only [putW]) | ((go_at_call 17; refine Calls.mono (sameT_any Hpy.out Hpz.out (Hyr.out.mono hS.base) (Hzr.out.mono hS.base)) ?_; rintro _ w2 ⟨rfl, h2⟩; replace hS := hS.frame h2; clear h2; (try simp only [List.cons_append, List.nil_append] at hS); simp only [putW]); rw [Hb2.out]) | (refine load1 hS rfl rfl rfl rfl ?_; simp only [putW]) | (refine loadAll hS rfl rfl rfl ?_ ?_; rfl; simp only [putW]) | (refine loadPart hS rfl rfl rfl ?_ rfl ?_; rfl; simp only [putW])); exact ⟨rfl, rfl, hS⟩)); simp only [putW])); refine quiet_nil ?_; intro w hS)
            go_wp2_with (first | (refine load1 hS rfl rfl rfl rfl ?_; simp only [putW]) | (refine loadAll hS rfl rfl rfl ?_ ?_; rfl; simp only [putW]) | (refine loadPart hS rfl rfl rfl ?_ rfl ?_; rfl; simp only [putW]) | (refine store1 hS rfl rfl rfl rfl rfl ?_ ?_; (focus (simp; done)); clear hS; intro w hS; simp only [evW, putW] at hS; try simp only [putW]) | (refine storeAll hS rfl rfl rfl rfl ?_ ?_ ?_ ?_; rfl; (focus (simp [Value.oneCell']; done)); rfl; clear hS; intro w hS; try simp only [putW]) | (refine storeN hS rfl rfl rfl rfl ?_ ?_ ?_ ?_; rfl; (focus (simp [Value.oneCell']; done)); (focus (simp; done)); clear hS; intro w hS; simp at hS; try simp only [putW]) | (refine alloc hS rfl rfl ?_; clear hS; intro mb w hS; simp only [putW]) | (refine box1 hS rfl rfl rfl rfl ?_; clear hS; intro mb w hS; try simp only [evW, putW] at hS; simp only [putW]) | (refine boxN hS rfl rfl rfl ?_; clear hS; intro mb w hS; simp only [putW]))
            have h1 := (hS.pull gy (X := slc 15 tupF Y cs 46)).slOfSlc
            rw [HnY.out] at h1
            go_roundg g2
            case measure => omega
            case rel => exact ⟨i + 1, b2, by omega, by first | rfl | (cases b2 <;> rfl), by go_num, hst, h1.conv⟩
        | zero =>
          have hii : i = nY := by omega
          subst hii
          have hfull : Bx (FoundIs b z.2.2 (tsOf Y)) := ⟨by have h := hfi.out; rw [List.take_of_length_le (by rw [List.length_map, HnY.out]; exact Nat.le_refl _)] at h; exact h⟩
          have h1 := (hS.pull gz (X := slc 15 tupF Z co 46)).slOfSlc
          rw [HnZ.out] at h1
          clear hS
          have hS := h1
          clear h1
          cases b with
          | true =>
            go_wp2_with (first | (refine load1 hS rfl rfl rfl rfl ?_; simp only [putW]) | (refine loadAll hS rfl rfl rfl ?_ ?_; rfl; simp only [putW]) | (refine loadPart hS rfl rfl rfl ?_ rfl ?_; rfl; simp only [putW]) | (refine store1 hS rfl rfl rfl rfl rfl ?_ ?_; (focus (simp; done)); clear hS; intro w hS; simp only [evW, putW] at hS; try simp only [putW]) | (refine storeAll hS rfl rfl rfl rfl ?_ ?_ ?_ ?_; rfl; (focus (simp [Value.oneCell']; done)); rfl; clear hS; intro w hS; try simp only [putW]) | (refine storeN hS rfl rfl rfl rfl ?_ ?_ ?_ ?_; rfl; (focus (simp [Value.oneCell']; done)); (focus (simp; done)); clear hS; intro w hS; simp at hS; try simp only [putW]) | (refine alloc hS rfl rfl ?_; clear hS; intro mb w hS; simp only [putW]) | (refine box1 hS rfl rfl rfl rfl ?_; clear hS; intro mb w hS; try simp only [evW, putW] at hS; simp only [putW]) | (refine boxN hS rfl rfl rfl ?_; clear hS; intro mb w hS; simp only [putW]))
            go_roundg g
            case measure => omega
            case rel =>
              refine ⟨j + 1, by omega, by go_num, ⟨fun n hn u hu => ?_⟩, hS.conv⟩
              by_cases e : n < j
              · exact hno.out n e u hu
              · have e2 : n = j := by omega
                subst e2
                rw [Hzp.out] at hu
                cases hu
                exact hfull.out.yes
          | false =>
            go_wp2_with (first | (refine load1 hS rfl rfl rfl rfl ?_; simp only [putW]) | (refine loadAll hS rfl rfl rfl ?_ ?_; rfl; simp only [putW]) | (refine loadPart hS rfl rfl rfl ?_ rfl ?_; rfl; simp only [putW]) | (refine store1 hS rfl rfl rfl rfl rfl ?_ ?_; (focus (simp; done)); clear hS; intro w hS; simp only [evW, putW] at hS; try simp only [putW]) | (refine storeAll hS rfl rfl rfl rfl ?_ ?_ ?_ ?_; rfl; (focus (simp [Value.oneCell']; done)); rfl; clear hS; intro w hS; try simp only [putW]) | (refine storeN hS rfl rfl rfl rfl ?_ ?_ ?_ ?_; rfl; (focus (simp [Value.oneCell']; done)); (focus (simp; done)); clear hS; intro w hS; simp at hS; try simp only [putW]) | (refine alloc hS rfl rfl ?_; clear hS; intro mb w hS; simp only [putW]) | (refine box1 hS rfl rfl rfl rfl ?_; clear hS; intro mb w hS; try simp only [evW, putW] at hS; simp only [putW]) | (refine boxN hS rfl rfl rfl ?_; clear hS; intro mb w hS; simp only [putW]))
            refine bodyPost_ret (v := .int .i64 j) (by simp [results, Tryd.results15]) rfl ⟨.inr ⟨j, z.2.2, rfl, Hzp.out, hfull.out.no, hno.out⟩, ?_⟩
            exact hS.conv
    | zero =>
      have hjn : j = nZ := by omega
      subst hjn
      go_wp2_with (first | (refine load1 hS rfl rfl rfl rfl ?_; simp only [putW]) | (refine loadAll hS rfl rfl rfl ?_ ?_; rfl; simp only [putW]) | (refine loadPart hS rfl rfl rfl ?_ rfl ?_; rfl; simp only [putW]) | (refine store1 hS rfl rfl rfl rfl rfl ?_ ?_; (focus (simp; done)); clear hS; intro w hS; simp only [evW, putW] at hS; try simp only [putW]) | (refine storeAll hS rfl rfl rfl rfl ?_ ?_ ?_ ?_; rfl; (focus (simp [Value.oneCell']; done)); rfl; clear hS; intro w hS; try simp only [putW]) | (refine storeN hS rfl rfl rfl rfl ?_ ?_ ?_ ?_; rfl; (focus (simp [Value.oneCell']; done)); (focus (simp; done)); clear hS; intro w hS; simp at hS; try simp only [putW]) | (refine alloc hS rfl rfl ?_; clear hS; intro mb w hS; simp only [putW]) | (refine box1 hS rfl rfl rfl rfl ?_; clear hS; intro mb w hS; try simp only [evW, putW] at hS; simp only [putW]) | (refine boxN hS rfl rfl rfl ?_; clear hS; intro mb w hS; simp only [putW]))
      refine bodyPost_ret (v := .int .i64 (-1)) (by simp [results, Tryd.results15]) rfl ⟨.inl ⟨rfl, hno.out⟩, hS.conv⟩
end
end Go.Proofs.YteoidocicjlglaaDoor
