/-
  thimbleref09: Clash, Forged, Twice.
-/
import Derived.Test.YteoidocicjlglaaDoorGhSame
import Derived.Test.YteoidocicjlglaaDoorGhForge
set_option linter.unusedSimpArgs false
set_option linter.unusedVariables false
namespace Go.Proofs.YteoidocicjlglaaDoor
open Go.RowKit Go.Proofs.YteoidocicjlglaaDoor.Sl Go.Proofs.YteoidocicjlglaaDoor.Sha Go.Proofs.YteoidocicjlglaaDoor.Jp

/-- What is right with the document's pairs. -/
def PairRd (w : World) (x : PairV) : Prop := RB w x.2.1 x.1 ∧ x.2.2.length = 32 ∧ ∀ b ∈ x.2.2, okByte b
theorem noClash_all {L : List (List Int × List Int)} {j : Nat} {B E : List Int} (h : NoClash L j) (hj : L[j]? = some (B, E)) (hi : ∀ n, n < j → ∀ z, L[n]? = some z → z.2 = E → z.1 = B) : NoClash L (j + 1) := fun a b x y hab hb hx hy e => by
  by_cases e1 : b < j
  · exact h a b x y hab e1 hx hy e
  · obtain rfl : b = j := by omega
    rw [hj] at hy
    cases hy
    exact hi a hab x hx e
section
variable {w0 w : World} {K F S : List Chunk} {l : Nat} {vp vs vo v : Value} {X : List PairV} {Y Z : List TupV}
set_option maxRecDepth 100000 in
set_option maxHeartbeats 4000000 in
theorem refClash_any (hX : ∀ x ∈ X, PairRd w0 x) (hXl : X.length ≤ 1000000) (hS : Sat w0 ((l, cells #[vp, vs, vo] 41) :: (blk vp, sl 33 pairF X 37 vp) :: K) w) :
    Calls Tryd.prog 12 #[.pointer (some ⟨l, 0, none⟩)] w fun e w' => ((e = .returned (.tuple #[.int .i64 (-1), .int .i64 (-1)]) ∧ NoClash (psOf X) X.length) ∨ ∃ (i j : Nat) (A B D : List Int), e = .returned (.tuple #[.int .i64 i, .int .i64 j]) ∧ i < j ∧ NoClash (psOf X) j ∧ (psOf X)[i]? = some (A, D) ∧ (psOf X)[j]? = some (B, D) ∧ A ≠ B ∧ ∀ n, n < i → ∀ z, (psOf X)[n]? = some z → z.2 = D → z.1 = B) ∧
      Sat w0 ((l, cells #[vp, vs, vo] 41) :: (blk vp, sl 33 pairF X 37 vp) :: K) w' := by
  have HXk : Bx _ := ⟨hX⟩
  clear hX
  obtain ⟨nP, hnP⟩ : ∃ n, X.length = n := ⟨_, rfl⟩
  obtain ⟨qp, cp, e1⟩ := slShape (hS.pull (blk vp) (X := sl 33 pairF X 37 vp))
  rw [hnP] at e1 hXl
  subst e1
  have HnP : Bx _ := ⟨hnP⟩
  rw [hnP]
  clear hnP
  go_enter Tryd.func12, Tryd.ntmps12
  go_wp2_with (first | (refine load1 hS rfl rfl rfl rfl ?_; simp only [putW]) | (refine loadAll hS rfl rfl rfl ?_ ?_; rfl; simp only [putW]) | (refine loadPart hS rfl rfl rfl ?_ rfl ?_; rfl; simp only [putW]) | (refine store1 hS rfl rfl rfl rfl rfl ?_ ?_; (focus (simp; done)); clear hS; intro w hS; simp only [evW, putW] at hS; try simp only [putW]) | (refine storeAll hS rfl rfl rfl rfl ?_ ?_ ?_ ?_; rfl; (focus (simp [Value.oneCell']; done)); rfl; clear hS; intro w hS; try simp only [putW]) | (refine storeN hS rfl rfl rfl rfl ?_ ?_ ?_ ?_; rfl; (focus (simp [Value.oneCell']; done)); (focus (simp; done)); clear hS; intro w hS; simp at hS; try simp only [putW]) | (refine alloc hS rfl rfl ?_; clear hS; intro mb w hS; simp only [putW]) | (refine box1 hS rfl rfl rfl rfl ?_; clear hS; intro mb w hS; try simp only [evW, putW] at hS; simp only [putW]) | (refine boxN hS rfl rfl rfl ?_; clear hS; intro mb w hS; simp only [putW]))
  go_loopg [4] nP (fun g j' wr => ∃ j : Nat, j + g = nP ∧ j' = .int .i64 j ∧ Bx (NoClash (psOf X) j) ∧ Sat w0 ((l, cells #[.slice qp nP cp, vs, vo] 41) :: (blk (.slice qp nP cp), sl 33 pairF X 37 (.slice qp nP cp)) :: K) wr)
  case atStart => exact ⟨0, by omega, rfl, ⟨noClash_zero⟩, hS.conv⟩
  case round =>
    clear hS
    obtain ⟨j, hjg, rfl, hno, hS⟩ := hrel
    cases gk with
    | succ g =>
      have hlt : j < nP := by omega
      have hlti : (j : Int) < (nP : Int) := by omega
      obtain ⟨⟨yv, B, E⟩, hy⟩ : ∃ y, X[j]? = some y := ⟨_, List.getElem?_eq_getElem (by rw [HnP.out]; exact hlt)⟩
      obtain ⟨hyB, hyl, hyb⟩ : RB w0 B yv ∧ E.length = 32 ∧ ∀ b ∈ E, okByte b := HXk.out _ (List.mem_of_getElem? hy)
      have HyB : Bx _ := ⟨hyB⟩
      have Hyl : Bx _ := ⟨hyl⟩
      have Hyb : Bx _ := ⟨hyb⟩
      have Hyp : Bx ((psOf X)[j]? = some (B, E)) := ⟨psOf_get hy⟩
      have HyD : Bx (((pairF (yv, B, E)).drop 1).take 32 = E.map u8v) := ⟨by show (E.map u8v).take 32 = _; rw [List.take_of_length_le (by rw [List.length_map, hyl]; exact Nat.le_refl _)]⟩
      have Hy : Bx _ := ⟨hy⟩
      clear hyB hyl hyb hlt
      obtain ⟨gp, cap, e1, hS2⟩ := (hS.pull (blk (.slice qp nP cp)) (X := sl 33 pairF X 37 (.slice qp nP cp))).slFormC nP HnP.out (by omega)
      cases e1
      clear hS
      have hS := hS2
      clear hS2
      go_wp2_with (first | (refine load1 hS rfl rfl rfl rfl ?_; simp only [putW]) | (refine loadAll hS rfl rfl rfl ?_ ?_; rfl; simp only [putW]) | (refine loadPart hS rfl rfl rfl ?_ rfl ?_; rfl; simp only [putW]) | (refine store1 hS rfl rfl rfl rfl rfl ?_ ?_; (focus (simp; done)); clear hS; intro w hS; simp only [evW, putW] at hS; try simp only [putW]) | (refine storeAll hS rfl rfl rfl rfl ?_ ?_ ?_ ?_; rfl; (focus (simp [Value.oneCell']; done)); rfl; clear hS; intro w hS; try simp only [putW]) | (refine storeN hS rfl rfl rfl rfl ?_ ?_ ?_ ?_; rfl; (focus (simp [Value.oneCell']; done)); (focus (simp; done)); clear hS; intro w hS; simp at hS; try simp only [putW]) | (refine alloc hS rfl rfl ?_; clear hS; intro mb w hS; simp only [putW]) | (refine box1 hS rfl rfl rfl rfl ?_; clear hS; intro mb w hS; try simp only [evW, putW] at hS; simp only [putW]) | (refine boxN hS rfl rfl rfl ?_; clear hS; intro mb w hS; simp only [putW]))
      go_loopg [5] j (fun g2 i' wr => ∃ i : Nat, i + g2 = j ∧ i' = .int .i64 i ∧ Bx (∀ n, n < i → ∀ z, (psOf X)[n]? = some z → z.2 = E → z.1 = B) ∧ Sat w0 ((gp, slc 33 pairF X cp 37) :: (l, cells #[.slice (some ⟨gp, 0, none⟩) nP cp, vs, vo] 41) :: K) wr)
      case atStart => exact ⟨0, by omega, rfl, ⟨fun n hn => by omega⟩, hS.conv⟩
      case round =>
        clear hS
        obtain ⟨i, hig, rfl, hfi, hS⟩ := hrel
        cases gk with
        | succ g2 =>
          have hlt2 : i < nP := by omega
          have hij : i < j := by omega
          have hlti2 : (i : Int) < (j : Int) := by omega
          have hlti3 : (i : Int) < (nP : Int) := by omega
          obtain ⟨⟨xv, A, D⟩, hx⟩ : ∃ y, X[i]? = some y := ⟨_, List.getElem?_eq_getElem (by rw [HnP.out]; exact hlt2)⟩
          obtain ⟨hxB, hxl, hxb⟩ : RB w0 A xv ∧ D.length = 32 ∧ ∀ b ∈ D, okByte b := HXk.out _ (List.mem_of_getElem? hx)
          have HxB : Bx _ := ⟨hxB⟩
          have Hxl : Bx _ := ⟨hxl⟩
          have Hxp : Bx ((psOf X)[i]? = some (A, D)) := ⟨psOf_get hx⟩
          have HxD : Bx (((pairF (xv, A, D)).drop 1).take 32 = D.map u8v) := ⟨by show (D.map u8v).take 32 = _; rw [List.take_of_length_le (by rw [List.length_map, hxl]; exact Nat.le_refl _)]⟩
          have hEq : ∀ w : World, (Op.equalIn 10000 35 (.agg (D.map u8v).toArray) (.agg (E.map u8v).toArray)).run Tryd.prog w = .ok (decide (D = E)) w := fun w => eq32 hxl Hyl.out hxb Hyb.out w
          have stay : ∀ {D' A' : List Int}, (psOf X)[i]? = some (A', D') → (D' = E → A' = B) → ∀ n, n < i + 1 → ∀ z, (psOf X)[n]? = some z → z.2 = E → z.1 = B := fun h1 h2 n hn z hz he => by
            by_cases e : n < i
            · exact hfi.out n e z hz he
            · obtain rfl : n = i := by omega
              rw [h1] at hz
              cases hz
              exact h2 he
          clear hxB hxl hxb hlt2
          by_cases hD : D = E
          · have hdd : decide (D = E) = true := decide_eq_true hD
            rw [hdd] at hEq
            have HDD : Bx _ := ⟨hD⟩
            clear hD hdd
            by_cases hA : A = B
            · have hda : decide (A = B) = true := decide_eq_true hA
              have HDA : Bx _ := ⟨hA⟩
              clear hA
              have hst := stay Hxp.out (fun _ => HDA.out)
              clear stay
              go_wp2_with (first | (refine load1 hS rfl rfl rfl rfl ?_; simp only [putW]) | (refine loadAll hS rfl rfl rfl ?_ ?_; rfl; simp only [putW]) | (refine loadPart hS rfl rfl rfl ?_ rfl ?_; rfl; simp only [putW]) | (refine store1 hS rfl rfl rfl rfl rfl ?_ ?_; (focus (simp; done)); clear hS; intro w hS; simp only [evW, putW] at hS; try simp only [putW]) | (refine storeAll hS rfl rfl rfl rfl ?_ ?_ ?_ ?_; rfl; (focus (simp [Value.oneCell']; done)); rfl; clear hS; intro w hS; try simp only [putW]) | (refine storeN hS rfl rfl rfl rfl ?_ ?_ ?_ ?_; rfl; (focus (simp [Value.oneCell']; done)); (focus (simp; done)); clear hS; intro w hS; simp at hS; try simp only [putW]) | (refine alloc hS rfl rfl ?_; clear hS; intro mb w hS; simp only [putW]) | (refine box1 hS rfl rfl rfl rfl ?_; clear hS; intro mb w hS; try simp only [evW, putW] at hS; simp only [putW]) | (refine boxN hS rfl rfl rfl ?_; clear hS; intro mb w hS; simp only [putW]))
              (refine region_quiet hS (by kernel_rfl) (by kernel_rfl) (by kernel_rfl) ?_; clear hS; (repeat (apply quiet_step; (focus (intro w hS; go_wp2_with (first | (refine loadSN (f := pairF) (vs := D.map u8v) hS rfl rfl rfl i 1 ?_ hx ?_ HxD.out ?_; (focus omega); (focus omega); simp only [putW]) | (refine loadSN (f := pairF) (vs := E.map u8v) hS rfl rfl rfl j 1 ?_ hy ?_ HyD.out ?_; (focus omega); (focus omega); simp only [putW]) | (refine loadS (f := pairF) hS rfl rfl rfl i 0 ?_ hx rfl ?_ ?_; omega; omega; simp only [putW]) | (refine loadS (f := pairF) hS rfl rfl rfl j 0 ?_ hy rfl ?_ ?_; omega; omega; simp only [putW]) | (go_at_call 14; refine Calls.mono (same_any (HxB.out.mono hS.base) (HyB.out.mono hS.base)) ?_; rintro _ w2 ⟨rfl, h2⟩; replace hS := hS.frame h2; clear h2; (try simp only [List.cons_append, List.nil_append] at hS); simp only [putW]) | (refine load1 hS rfl rfl rfl rfl ?_; simp only [putW]) | (refine loadAll hS rfl rfl rfl ?_ ?_; rfl; simp only [putW]) | (refine loadPart hS rfl rfl rfl ?_ rfl ?_; rfl; simp only [putW])); exact ⟨rfl, rfl, hS⟩)); simp only [putW])); refine quiet_nil ?_; intro w hS)
              go_wp2_with (first | (refine load1 hS rfl rfl rfl rfl ?_; simp only [putW]) | (refine loadAll hS rfl rfl rfl ?_ ?_; rfl; simp only [putW]) | (refine loadPart hS rfl rfl rfl ?_ rfl ?_; rfl; simp only [putW]) | (refine store1 hS rfl rfl rfl rfl rfl ?_ ?_; (focus (simp; done)); clear hS; intro w hS; simp only [evW, putW] at hS; try simp only [putW]) | (refine storeAll hS rfl rfl rfl rfl ?_ ?_ ?_ ?_; rfl; (focus (simp [Value.oneCell']; done)); rfl; clear hS; intro w hS; try simp only [putW]) | (refine storeN hS rfl rfl rfl rfl ?_ ?_ ?_ ?_; rfl; (focus (simp [Value.oneCell']; done)); (focus (simp; done)); clear hS; intro w hS; simp at hS; try simp only [putW]) | (refine alloc hS rfl rfl ?_; clear hS; intro mb w hS; simp only [putW]) | (refine box1 hS rfl rfl rfl rfl ?_; clear hS; intro mb w hS; try simp only [evW, putW] at hS; simp only [putW]) | (refine boxN hS rfl rfl rfl ?_; clear hS; intro mb w hS; simp only [putW]))
              go_roundg g2
              case measure => omega
              case rel => exact ⟨i + 1, by omega, by go_num, ⟨hst⟩, hS.conv⟩
            · have hda : decide (A = B) = false := decide_eq_false hA
              have HDA : Bx _ := ⟨hA⟩
              clear hA stay
              go_wp2_with (first | (refine load1 hS rfl rfl rfl rfl ?_; simp only [putW]) | (refine loadAll hS rfl rfl rfl ?_ ?_; rfl; simp only [putW]) | (refine loadPart hS rfl rfl rfl ?_ rfl ?_; rfl; simp only [putW]) | (refine store1 hS rfl rfl rfl rfl rfl ?_ ?_; (focus (simp; done)); clear hS; intro w hS; simp only [evW, putW] at hS; try simp only [putW]) | (refine storeAll hS rfl rfl rfl rfl ?_ ?_ ?_ ?_; rfl; (focus (simp [Value.oneCell']; done)); rfl; clear hS; intro w hS; try simp only [putW]) | (refine storeN hS rfl rfl rfl rfl ?_ ?_ ?_ ?_; rfl; (focus (simp [Value.oneCell']; done)); (focus (simp; done)); clear hS; intro w hS; simp at hS; try simp only [putW]) | (refine alloc hS rfl rfl ?_; clear hS; intro mb w hS; simp only [putW]) | (refine box1 hS rfl rfl rfl rfl ?_; clear hS; intro mb w hS; try simp only [evW, putW] at hS; simp only [putW]) | (refine boxN hS rfl rfl rfl ?_; clear hS; intro mb w hS; simp only [putW]))
              (refine region_quiet hS (by kernel_rfl) (by kernel_rfl) (by kernel_rfl) ?_; clear hS; (repeat (apply quiet_step; (focus (intro w hS; go_wp2_with (first | (refine loadSN (f := pairF) (vs := D.map u8v) hS rfl rfl rfl i 1 ?_ hx ?_ HxD.out ?_; (focus omega); (focus omega); simp only [putW]) | (refine loadSN (f := pairF) (vs := E.map u8v) hS rfl rfl rfl j 1 ?_ hy ?_ HyD.out ?_; (focus omega); (focus omega); simp only [putW]) | (refine loadS (f := pairF) hS rfl rfl rfl i 0 ?_ hx rfl ?_ ?_; omega; omega; simp only [putW]) | (refine loadS (f := pairF) hS rfl rfl rfl j 0 ?_ hy rfl ?_ ?_; omega; omega; simp only [putW]) | (go_at_call 14; refine Calls.mono (same_any (HxB.out.mono hS.base) (HyB.out.mono hS.base)) ?_; rintro _ w2 ⟨rfl, h2⟩; replace hS := hS.frame h2; clear h2; (try simp only [List.cons_append, List.nil_append] at hS); simp only [putW]) | (refine load1 hS rfl rfl rfl rfl ?_; simp only [putW]) | (refine loadAll hS rfl rfl rfl ?_ ?_; rfl; simp only [putW]) | (refine loadPart hS rfl rfl rfl ?_ rfl ?_; rfl; simp only [putW])); exact ⟨rfl, rfl, hS⟩)); simp only [putW])); refine quiet_nil ?_; intro w hS)
              go_wp2_with (first | (refine load1 hS rfl rfl rfl rfl ?_; simp only [putW]) | (refine loadAll hS rfl rfl rfl ?_ ?_; rfl; simp only [putW]) | (refine loadPart hS rfl rfl rfl ?_ rfl ?_; rfl; simp only [putW]) | (refine store1 hS rfl rfl rfl rfl rfl ?_ ?_; (focus (simp; done)); clear hS; intro w hS; simp only [evW, putW] at hS; try simp only [putW]) | (refine storeAll hS rfl rfl rfl rfl ?_ ?_ ?_ ?_; rfl; (focus (simp [Value.oneCell']; done)); rfl; clear hS; intro w hS; try simp only [putW]) | (refine storeN hS rfl rfl rfl rfl ?_ ?_ ?_ ?_; rfl; (focus (simp [Value.oneCell']; done)); (focus (simp; done)); clear hS; intro w hS; simp at hS; try simp only [putW]) | (refine alloc hS rfl rfl ?_; clear hS; intro mb w hS; simp only [putW]) | (refine box1 hS rfl rfl rfl rfl ?_; clear hS; intro mb w hS; try simp only [evW, putW] at hS; simp only [putW]) | (refine boxN hS rfl rfl rfl ?_; clear hS; intro mb w hS; simp only [putW]))
              refine bodyPost_ret (v := .tuple #[.int .i64 i, .int .i64 j]) (by simp [results, Tryd.results12]) rfl ⟨.inr ⟨i, j, A, B, E, rfl, hij, hno.out, by rw [Hxp.out, HDD.out], Hyp.out, HDA.out, hfi.out⟩, ?_⟩
              have h1 := (hS.pull gp (X := slc 33 pairF X cp 37)).slOfSlc
              rw [HnP.out] at h1
              exact h1.conv
          · have hdd : decide (D = E) = false := decide_eq_false hD
            rw [hdd] at hEq
            have HDD : Bx _ := ⟨hD⟩
            clear hD hdd
            have hst := stay Hxp.out (fun e => absurd e HDD.out)
            clear stay
            go_wp2_with (first | (refine load1 hS rfl rfl rfl rfl ?_; simp only [putW]) | (refine loadAll hS rfl rfl rfl ?_ ?_; rfl; simp only [putW]) | (refine loadPart hS rfl rfl rfl ?_ rfl ?_; rfl; simp only [putW]) | (refine store1 hS rfl rfl rfl rfl rfl ?_ ?_; (focus (simp; done)); clear hS; intro w hS; simp only [evW, putW] at hS; try simp only [putW]) | (refine storeAll hS rfl rfl rfl rfl ?_ ?_ ?_ ?_; rfl; (focus (simp [Value.oneCell']; done)); rfl; clear hS; intro w hS; try simp only [putW]) | (refine storeN hS rfl rfl rfl rfl ?_ ?_ ?_ ?_; rfl; (focus (simp [Value.oneCell']; done)); (focus (simp; done)); clear hS; intro w hS; simp at hS; try simp only [putW]) | (refine alloc hS rfl rfl ?_; clear hS; intro mb w hS; simp only [putW]) | (refine box1 hS rfl rfl rfl rfl ?_; clear hS; intro mb w hS; try simp only [evW, putW] at hS; simp only [putW]) | (refine boxN hS rfl rfl rfl ?_; clear hS; intro mb w hS; simp only [putW]))
            (refine region_quiet hS (by kernel_rfl) (by kernel_rfl) (by kernel_rfl) ?_; clear hS; (repeat (apply quiet_step; (focus (intro w hS; go_wp2_with (first | (refine loadSN (f := pairF) (vs := D.map u8v) hS rfl rfl rfl i 1 ?_ hx ?_ HxD.out ?_; (focus omega); (focus omega); simp only [putW]) | (refine loadSN (f := pairF) (vs := E.map u8v) hS rfl rfl rfl j 1 ?_ hy ?_ HyD.out ?_; (focus omega); (focus omega); simp only [putW]) | (refine load1 hS rfl rfl rfl rfl ?_; simp only [putW]) | (refine loadAll hS rfl rfl rfl ?_ ?_; rfl; simp only [putW]) | (refine loadPart hS rfl rfl rfl ?_ rfl ?_; rfl; simp only [putW])); exact ⟨rfl, rfl, hS⟩)); simp only [putW])); refine quiet_nil ?_; intro w hS)
            go_wp2_with (first | (refine load1 hS rfl rfl rfl rfl ?_; simp only [putW]) | (refine loadAll hS rfl rfl rfl ?_ ?_; rfl; simp only [putW]) | (refine loadPart hS rfl rfl rfl ?_ rfl ?_; rfl; simp only [putW]) | (refine store1 hS rfl rfl rfl rfl rfl ?_ ?_; (focus (simp; done)); clear hS; intro w hS; simp only [evW, putW] at hS; try simp only [putW]) | (refine storeAll hS rfl rfl rfl rfl ?_ ?_ ?_ ?_; rfl; (focus (simp [Value.oneCell']; done)); rfl; clear hS; intro w hS; try simp only [putW]) | (refine storeN hS rfl rfl rfl rfl ?_ ?_ ?_ ?_; rfl; (focus (simp [Value.oneCell']; done)); (focus (simp; done)); clear hS; intro w hS; simp at hS; try simp only [putW]) | (refine alloc hS rfl rfl ?_; clear hS; intro mb w hS; simp only [putW]) | (refine box1 hS rfl rfl rfl rfl ?_; clear hS; intro mb w hS; try simp only [evW, putW] at hS; simp only [putW]) | (refine boxN hS rfl rfl rfl ?_; clear hS; intro mb w hS; simp only [putW]))
            go_roundg g2
            case measure => omega
            case rel => exact ⟨i + 1, by omega, by go_num, ⟨hst⟩, hS.conv⟩
        | zero =>
          have hii : i = j := by omega
          subst hii
          have hnx : Bx (NoClash (psOf X) (i + 1)) := ⟨noClash_all hno.out Hyp.out hfi.out⟩
          have h1 := (hS.pull gp (X := slc 33 pairF X cp 37)).slOfSlc
          rw [HnP.out] at h1
          clear hS
          have hS := h1
          clear h1
          go_wp2_with (first | (refine load1 hS rfl rfl rfl rfl ?_; simp only [putW]) | (refine loadAll hS rfl rfl rfl ?_ ?_; rfl; simp only [putW]) | (refine loadPart hS rfl rfl rfl ?_ rfl ?_; rfl; simp only [putW]) | (refine store1 hS rfl rfl rfl rfl rfl ?_ ?_; (focus (simp; done)); clear hS; intro w hS; simp only [evW, putW] at hS; try simp only [putW]) | (refine storeAll hS rfl rfl rfl rfl ?_ ?_ ?_ ?_; rfl; (focus (simp [Value.oneCell']; done)); rfl; clear hS; intro w hS; try simp only [putW]) | (refine storeN hS rfl rfl rfl rfl ?_ ?_ ?_ ?_; rfl; (focus (simp [Value.oneCell']; done)); (focus (simp; done)); clear hS; intro w hS; simp at hS; try simp only [putW]) | (refine alloc hS rfl rfl ?_; clear hS; intro mb w hS; simp only [putW]) | (refine box1 hS rfl rfl rfl rfl ?_; clear hS; intro mb w hS; try simp only [evW, putW] at hS; simp only [putW]) | (refine boxN hS rfl rfl rfl ?_; clear hS; intro mb w hS; simp only [putW]))
          go_roundg g
          case measure => omega
          case rel => exact ⟨i + 1, by omega, by go_num, hnx, hS.conv⟩
    | zero =>
      have hjn : j = nP := by omega
      subst hjn
      go_wp2_with (first | (refine load1 hS rfl rfl rfl rfl ?_; simp only [putW]) | (refine loadAll hS rfl rfl rfl ?_ ?_; rfl; simp only [putW]) | (refine loadPart hS rfl rfl rfl ?_ rfl ?_; rfl; simp only [putW]) | (refine store1 hS rfl rfl rfl rfl rfl ?_ ?_; (focus (simp; done)); clear hS; intro w hS; simp only [evW, putW] at hS; try simp only [putW]) | (refine storeAll hS rfl rfl rfl rfl ?_ ?_ ?_ ?_; rfl; (focus (simp [Value.oneCell']; done)); rfl; clear hS; intro w hS; try simp only [putW]) | (refine storeN hS rfl rfl rfl rfl ?_ ?_ ?_ ?_; rfl; (focus (simp [Value.oneCell']; done)); (focus (simp; done)); clear hS; intro w hS; simp at hS; try simp only [putW]) | (refine alloc hS rfl rfl ?_; clear hS; intro mb w hS; simp only [putW]) | (refine box1 hS rfl rfl rfl rfl ?_; clear hS; intro mb w hS; try simp only [evW, putW] at hS; simp only [putW]) | (refine boxN hS rfl rfl rfl ?_; clear hS; intro mb w hS; simp only [putW]))
      refine bodyPost_ret (v := .tuple #[.int .i64 (-1), .int .i64 (-1)]) (by simp [results, Tryd.results12]) rfl ⟨.inl ⟨rfl, hno.out⟩, hS.conv⟩
end
end Go.Proofs.YteoidocicjlglaaDoor
