/-
  thimbleref09: Twice.
-/
import Derived.Test.YteoidocicjlglaaDoorGhSame
import Derived.Test.YteoidocicjlglaaDoorGhForge
set_option linter.unusedSimpArgs false
set_option linter.unusedVariables false
namespace Go.Proofs.YteoidocicjlglaaDoor
open Go.RowKit Go.Proofs.YteoidocicjlglaaDoor.Sl Go.Proofs.YteoidocicjlglaaDoor.Sha Go.Proofs.YteoidocicjlglaaDoor.Jp

theorem noTwice_all {L : List Tup} {j : Nat} {t : Tup} (h : NoTwice L j) (hj : L[j]? = some t) (hi : ∀ n, n < j → ∀ z, L[n]? = some z → nameOf z ≠ nameOf t) : NoTwice L (j + 1) := fun a b x y hab hb hx hy => by
  by_cases e1 : b < j
  · exact h a b x y hab e1 hx hy
  · obtain rfl : b = j := by omega
    rw [hj] at hy
    cases hy
    exact hi a hab x hx
abbrev tsOf (Y : List TupV) : List Tup := Y.map (·.2.2)
theorem tsOf_get {Y : List TupV} {k : Nat} {y : TupV} (h : Y[k]? = some y) : (tsOf Y)[k]? = some y.2.2 := by simp [tsOf, h]
theorem tupNon {x : TupV} (h : x.2.2.2.1.length = 12) : ((tupF x).drop 1).take 12 = x.2.2.2.1.map u8v := (tupIn h).non
section
variable {w0 w : World} {K F S : List Chunk} {l : Nat} {vp vs vo v : Value} {X : List PairV} {Y Z : List TupV}
set_option maxRecDepth 100000 in
set_option maxHeartbeats 4000000 in
theorem refTwice_any (hX : ∀ x ∈ Y, TupOk x.2.2) (hXl : Y.length ≤ 1000000) (hS : Sat w0 ((l, cells #[vp, vs, vo] 41) :: (blk vs, sl 15 tupF Y 46 vs) :: K) w) :
    Calls Tryd.prog 21 #[.pointer (some ⟨l, 0, none⟩)] w fun e w' => ((e = .returned (.tuple #[.int .i64 (-1), .int .i64 (-1)]) ∧ NoTwice (tsOf Y) Y.length) ∨ ∃ (i j : Nat) (s t : Tup), e = .returned (.tuple #[.int .i64 i, .int .i64 j]) ∧ TwiceAt (tsOf Y) i j s t) ∧
      Sat w0 ((l, cells #[vp, vs, vo] 41) :: (blk vs, sl 15 tupF Y 46 vs) :: K) w' := by
  have HXk : Bx _ := ⟨hX⟩
  clear hX
  obtain ⟨nP, hnP⟩ : ∃ n, Y.length = n := ⟨_, rfl⟩
  obtain ⟨qp, cp, e1⟩ := slShape (hS.pull (blk vs) (X := sl 15 tupF Y 46 vs))
  rw [hnP] at e1 hXl
  subst e1
  have HnP : Bx _ := ⟨hnP⟩
  rw [hnP]
  clear hnP
  go_enter Tryd.func21, Tryd.ntmps21
  go_wp2_with (first | (refine load1 hS rfl rfl rfl rfl ?_; simp only [putW]) | (refine loadAll hS rfl rfl rfl ?_ ?_; rfl; simp only [putW]) | (refine loadPart hS rfl rfl rfl ?_ rfl ?_; rfl; simp only [putW]) | (refine store1 hS rfl rfl rfl rfl rfl ?_ ?_; (focus (simp; done)); clear hS; intro w hS; simp only [evW, putW] at hS; try simp only [putW]) | (refine storeAll hS rfl rfl rfl rfl ?_ ?_ ?_ ?_; rfl; (focus (simp [Value.oneCell']; done)); rfl; clear hS; intro w hS; try simp only [putW]) | (refine storeN hS rfl rfl rfl rfl ?_ ?_ ?_ ?_; rfl; (focus (simp [Value.oneCell']; done)); (focus (simp; done)); clear hS; intro w hS; simp at hS; try simp only [putW]) | (refine alloc hS rfl rfl ?_; clear hS; intro mb w hS; simp only [putW]) | (refine box1 hS rfl rfl rfl rfl ?_; clear hS; intro mb w hS; try simp only [evW, putW] at hS; simp only [putW]) | (refine boxN hS rfl rfl rfl ?_; clear hS; intro mb w hS; simp only [putW]))
  go_loopg [4] nP (fun g j' wr => ∃ j : Nat, j + g = nP ∧ j' = .int .i64 j ∧ Bx (NoTwice (tsOf Y) j) ∧ Sat w0 ((l, cells #[vp, .slice qp nP cp, vo] 41) :: (blk (.slice qp nP cp), sl 15 tupF Y 46 (.slice qp nP cp)) :: K) wr)
  case atStart => exact ⟨0, by omega, rfl, ⟨fun a b x y _ h => by omega⟩, hS.conv⟩
  case round =>
    clear hS
    obtain ⟨j, hjg, rfl, hno, hS⟩ := hrel
    cases gk with
    | succ g =>
      have hlt : j < nP := by omega
      have hlti : (j : Int) < (nP : Int) := by omega
      obtain ⟨⟨ya, ys, e', n', B, E⟩, hy⟩ : ∃ y, Y[j]? = some y := ⟨_, List.getElem?_eq_getElem (by rw [HnP.out]; exact hlt)⟩
      obtain ⟨hye, ⟨hyl, hyb⟩, -⟩ : TupOk (e', n', B, E) := HXk.out _ (List.mem_of_getElem? hy)
      have Hyl : Bx (n'.length = 12) := ⟨hyl⟩
      have HyL : Bx ((n'.map u8v).length = 12) := ⟨by rw [List.length_map]; exact hyl⟩
      have Hyb : Bx _ := ⟨hyb⟩
      have Hyp : Bx ((tsOf Y)[j]? = some (e', n', B, E)) := ⟨tsOf_get hy⟩
      have HyD : Bx (((tupF (ya, ys, e', n', B, E)).drop 1).take 12 = n'.map u8v) := ⟨tupNon hyl⟩
      clear hyl hyb hye hlt
      obtain ⟨gp, cap, e1, hS2⟩ := (hS.pull (blk (.slice qp nP cp)) (X := sl 15 tupF Y 46 (.slice qp nP cp))).slFormC nP HnP.out (by omega)
      cases e1
      clear hS
      have hS := hS2
      clear hS2
      go_wp2_with (first | (refine load1 hS rfl rfl rfl rfl ?_; simp only [putW]) | (refine loadAll hS rfl rfl rfl ?_ ?_; rfl; simp only [putW]) | (refine loadPart hS rfl rfl rfl ?_ rfl ?_; rfl; simp only [putW]) | (refine store1 hS rfl rfl rfl rfl rfl ?_ ?_; (focus (simp; done)); clear hS; intro w hS; simp only [evW, putW] at hS; try simp only [putW]) | (refine storeAll hS rfl rfl rfl rfl ?_ ?_ ?_ ?_; rfl; (focus (simp [Value.oneCell']; done)); rfl; clear hS; intro w hS; try simp only [putW]) | (refine storeN hS rfl rfl rfl rfl ?_ ?_ ?_ ?_; rfl; (focus (simp [Value.oneCell']; done)); (focus (simp; done)); clear hS; intro w hS; simp at hS; try simp only [putW]) | (refine alloc hS rfl rfl ?_; clear hS; intro mb w hS; simp only [putW]) | (refine box1 hS rfl rfl rfl rfl ?_; clear hS; intro mb w hS; try simp only [evW, putW] at hS; simp only [putW]) | (refine boxN hS rfl rfl rfl ?_; clear hS; intro mb w hS; simp only [putW]))
      go_loopg [5] j (fun g2 i' wr => ∃ i : Nat, i + g2 = j ∧ i' = .int .i64 i ∧ Bx (∀ n, n < i → ∀ z, (tsOf Y)[n]? = some z → nameOf z ≠ (e', n')) ∧ Sat w0 ((gp, slc 15 tupF Y cp 46) :: (l, cells #[vp, .slice (some ⟨gp, 0, none⟩) nP cp, vo] 41) :: K) wr)
      case atStart => exact ⟨0, by omega, rfl, ⟨fun n hn => by omega⟩, hS.conv⟩
      case round =>
        clear hS
        obtain ⟨i, hig, rfl, hfi, hS⟩ := hrel
        cases gk with
        | succ g2 =>
          have hlt2 : i < nP := by omega
          have hij : i < j := by omega
          have hlti2 : (i : Int) < (j : Int) := by omega
          have hlti3 : (i : Int) < (nP : Int) := by omega
          obtain ⟨⟨xa, xs, e, n, A, D⟩, hx⟩ : ∃ y, Y[i]? = some y := ⟨_, List.getElem?_eq_getElem (by rw [HnP.out]; exact hlt2)⟩
          obtain ⟨hxe, ⟨hxl, hxb⟩, -⟩ : TupOk (e, n, A, D) := HXk.out _ (List.mem_of_getElem? hx)
          have Hxl : Bx (n.length = 12) := ⟨hxl⟩
          have HxL : Bx ((n.map u8v).length = 12) := ⟨by rw [List.length_map]; exact hxl⟩
          have Hxp : Bx ((tsOf Y)[i]? = some (e, n, A, D)) := ⟨tsOf_get hx⟩
          have HxD : Bx (((tupF (xa, xs, e, n, A, D)).drop 1).take 12 = n.map u8v) := ⟨tupNon hxl⟩
          have hEq : ∀ w : World, (Op.equalIn 10000 44 (.agg (n.map u8v).toArray) (.agg (n'.map u8v).toArray)).run Tryd.prog w = .ok (decide (n = n')) w := fun w => eq12 hxl Hyl.out hxb Hyb.out w
          have stay : (e, n) ≠ (e', n') → ∀ k, k < i + 1 → ∀ z, (tsOf Y)[k]? = some z → nameOf z ≠ (e', n') := fun h2 k hk z hz => by
            by_cases e9 : k < i
            · exact hfi.out k e9 z hz
            · obtain rfl : k = i := by omega
              rw [Hxp.out] at hz
              cases hz
              exact h2
          clear hxe hxl hxb hlt2
          by_cases hD : e = e'
          · have HDD : Bx _ := ⟨hD⟩
            subst hD
            by_cases hA : n = n'
            · have hda : decide (n = n') = true := decide_eq_true hA
              rw [hda] at hEq
              have HDA : Bx _ := ⟨hA⟩
              clear hA stay hda
              go_wp2_with (first | (refine load1 hS rfl rfl rfl rfl ?_; simp only [putW]) | (refine loadAll hS rfl rfl rfl ?_ ?_; rfl; simp only [putW]) | (refine loadPart hS rfl rfl rfl ?_ rfl ?_; rfl; simp only [putW]) | (refine store1 hS rfl rfl rfl rfl rfl ?_ ?_; (focus (simp; done)); clear hS; intro w hS; simp only [evW, putW] at hS; try simp only [putW]) | (refine storeAll hS rfl rfl rfl rfl ?_ ?_ ?_ ?_; rfl; (focus (simp [Value.oneCell']; done)); rfl; clear hS; intro w hS; try simp only [putW]) | (refine storeN hS rfl rfl rfl rfl ?_ ?_ ?_ ?_; rfl; (focus (simp [Value.oneCell']; done)); (focus (simp; done)); clear hS; intro w hS; simp at hS; try simp only [putW]) | (refine alloc hS rfl rfl ?_; clear hS; intro mb w hS; simp only [putW]) | (refine box1 hS rfl rfl rfl rfl ?_; clear hS; intro mb w hS; try simp only [evW, putW] at hS; simp only [putW]) | (refine boxN hS rfl rfl rfl ?_; clear hS; intro mb w hS; simp only [putW]))
              (refine region_quiet hS (by kernel_rfl) (by kernel_rfl) (by kernel_rfl) ?_; clear hS; (repeat (apply quiet_step; (focus (intro w hS; go_wp2_with (first | (refine loadS (f := tupF) hS rfl rfl rfl i 0 ?_ hx rfl ?_ ?_; omega; omega; simp only [putW]) | (refine loadS (f := tupF) hS rfl rfl rfl j 0 ?_ hy rfl ?_ ?_; omega; omega; simp only [putW]) | (refine loadSN (f := tupF) (vs := n.map u8v) hS rfl rfl rfl i 1 ?_ hx ?_ HxD.out ?_; (focus omega); (focus omega); simp only [putW]) | (refine loadSN (f := tupF) (vs := n'.map u8v) hS rfl rfl rfl j 1 ?_ hy ?_ HyD.out ?_; (focus omega); (focus omega); simp only [putW]) | (refine load1 hS rfl rfl rfl rfl ?_; simp only [putW]) | (refine loadAll hS rfl rfl rfl ?_ ?_; rfl; simp only [putW]) | (refine loadPart hS rfl rfl rfl ?_ rfl ?_; rfl; simp only [putW])); exact ⟨rfl, rfl, hS⟩)); simp only [putW])); refine quiet_nil ?_; intro w hS)
              go_wp2_with (first | (refine load1 hS rfl rfl rfl rfl ?_; simp only [putW]) | (refine loadAll hS rfl rfl rfl ?_ ?_; rfl; simp only [putW]) | (refine loadPart hS rfl rfl rfl ?_ rfl ?_; rfl; simp only [putW]) | (refine store1 hS rfl rfl rfl rfl rfl ?_ ?_; (focus (simp; done)); clear hS; intro w hS; simp only [evW, putW] at hS; try simp only [putW]) | (refine storeAll hS rfl rfl rfl rfl ?_ ?_ ?_ ?_; rfl; (focus (simp [Value.oneCell']; done)); rfl; clear hS; intro w hS; try simp only [putW]) | (refine storeN hS rfl rfl rfl rfl ?_ ?_ ?_ ?_; rfl; (focus (simp [Value.oneCell']; done)); (focus (simp; done)); clear hS; intro w hS; simp at hS; try simp only [putW]) | (refine alloc hS rfl rfl ?_; clear hS; intro mb w hS; simp only [putW]) | (refine box1 hS rfl rfl rfl rfl ?_; clear hS; intro mb w hS; try simp only [evW, putW] at hS; simp only [putW]) | (refine boxN hS rfl rfl rfl ?_; clear hS; intro mb w hS; simp only [putW]))
              refine bodyPost_ret (v := .tuple #[.int .i64 i, .int .i64 j]) (by simp [results, Tryd.results21]) rfl ⟨.inr ⟨i, j, (e, n, A, D), (e, n', B, E), rfl, hij, Hxp.out, Hyp.out, by rw [HDA.out], hno.out⟩, ?_⟩
              have h1 := (hS.pull gp (X := slc 15 tupF Y cp 46)).slOfSlc
              rw [HnP.out] at h1
              exact h1.conv
            · have hda : decide (n = n') = false := decide_eq_false hA
              rw [hda] at hEq
              have hst := stay (fun h => hA (Prod.mk.inj h).2)
              clear hA stay hda
              go_wp2_with (first | (refine load1 hS rfl rfl rfl rfl ?_; simp only [putW]) | (refine loadAll hS rfl rfl rfl ?_ ?_; rfl; simp only [putW]) | (refine loadPart hS rfl rfl rfl ?_ rfl ?_; rfl; simp only [putW]) | (refine store1 hS rfl rfl rfl rfl rfl ?_ ?_; (focus (simp; done)); clear hS; intro w hS; simp only [evW, putW] at hS; try simp only [putW]) | (refine storeAll hS rfl rfl rfl rfl ?_ ?_ ?_ ?_; rfl; (focus (simp [Value.oneCell']; done)); rfl; clear hS; intro w hS; try simp only [putW]) | (refine storeN hS rfl rfl rfl rfl ?_ ?_ ?_ ?_; rfl; (focus (simp [Value.oneCell']; done)); (focus (simp; done)); clear hS; intro w hS; simp at hS; try simp only [putW]) | (refine alloc hS rfl rfl ?_; clear hS; intro mb w hS; simp only [putW]) | (refine box1 hS rfl rfl rfl rfl ?_; clear hS; intro mb w hS; try simp only [evW, putW] at hS; simp only [putW]) | (refine boxN hS rfl rfl rfl ?_; clear hS; intro mb w hS; simp only [putW]))
              (refine region_quiet hS (by kernel_rfl) (by kernel_rfl) (by kernel_rfl) ?_; clear hS; (repeat (apply quiet_step; (focus (intro w hS; go_wp2_with (first | (refine loadS (f := tupF) hS rfl rfl rfl i 0 ?_ hx rfl ?_ ?_; omega; omega; simp only [putW]) | (refine loadS (f := tupF) hS rfl rfl rfl j 0 ?_ hy rfl ?_ ?_; omega; omega; simp only [putW]) | (refine loadSN (f := tupF) (vs := n.map u8v) hS rfl rfl rfl i 1 ?_ hx ?_ HxD.out ?_; (focus omega); (focus omega); simp only [putW]) | (refine loadSN (f := tupF) (vs := n'.map u8v) hS rfl rfl rfl j 1 ?_ hy ?_ HyD.out ?_; (focus omega); (focus omega); simp only [putW]) | (refine load1 hS rfl rfl rfl rfl ?_; simp only [putW]) | (refine loadAll hS rfl rfl rfl ?_ ?_; rfl; simp only [putW]) | (refine loadPart hS rfl rfl rfl ?_ rfl ?_; rfl; simp only [putW])); exact ⟨rfl, rfl, hS⟩)); simp only [putW])); refine quiet_nil ?_; intro w hS)
              go_wp2_with (first | (refine load1 hS rfl rfl rfl rfl ?_; simp only [putW]) | (refine loadAll hS rfl rfl rfl ?_ ?_; rfl; simp only [putW]) | (refine loadPart hS rfl rfl rfl ?_ rfl ?_; rfl; simp only [putW]) | (refine store1 hS rfl rfl rfl rfl rfl ?_ ?_; (focus (simp; done)); clear hS; intro w hS; simp only [evW, putW] at hS; try simp only [putW]) | (refine storeAll hS rfl rfl rfl rfl ?_ ?_ ?_ ?_; rfl; (focus (simp [Value.oneCell']; done)); rfl; clear hS; intro w hS; try simp only [putW]) | (refine storeN hS rfl rfl rfl rfl ?_ ?_ ?_ ?_; rfl; (focus (simp [Value.oneCell']; done)); (focus (simp; done)); clear hS; intro w hS; simp at hS; try simp only [putW]) | (refine alloc hS rfl rfl ?_; clear hS; intro mb w hS; simp only [putW]) | (refine box1 hS rfl rfl rfl rfl ?_; clear hS; intro mb w hS; try simp only [evW, putW] at hS; simp only [putW]) | (refine boxN hS rfl rfl rfl ?_; clear hS; intro mb w hS; simp only [putW]))
              go_roundg g2
              case measure => omega
              case rel => exact ⟨i + 1, by omega, by go_num, ⟨hst⟩, hS.conv⟩
          · have hdd : decide (e = e') = false := decide_eq_false hD
            have hst := stay (fun h => hD (Prod.mk.inj h).1)
            clear stay
            go_wp2_with (first | (refine load1 hS rfl rfl rfl rfl ?_; simp only [putW]) | (refine loadAll hS rfl rfl rfl ?_ ?_; rfl; simp only [putW]) | (refine loadPart hS rfl rfl rfl ?_ rfl ?_; rfl; simp only [putW]) | (refine store1 hS rfl rfl rfl rfl rfl ?_ ?_; (focus (simp; done)); clear hS; intro w hS; simp only [evW, putW] at hS; try simp only [putW]) | (refine storeAll hS rfl rfl rfl rfl ?_ ?_ ?_ ?_; rfl; (focus (simp [Value.oneCell']; done)); rfl; clear hS; intro w hS; try simp only [putW]) | (refine storeN hS rfl rfl rfl rfl ?_ ?_ ?_ ?_; rfl; (focus (simp [Value.oneCell']; done)); (focus (simp; done)); clear hS; intro w hS; simp at hS; try simp only [putW]) | (refine alloc hS rfl rfl ?_; clear hS; intro mb w hS; simp only [putW]) | (refine box1 hS rfl rfl rfl rfl ?_; clear hS; intro mb w hS; try simp only [evW, putW] at hS; simp only [putW]) | (refine boxN hS rfl rfl rfl ?_; clear hS; intro mb w hS; simp only [putW]))
            (refine region_quiet hS (by kernel_rfl) (by kernel_rfl) (by kernel_rfl) ?_; clear hS; (repeat (apply quiet_step; (focus (intro w hS; go_wp2_with (first | (refine loadS (f := tupF) hS rfl rfl rfl i 0 ?_ hx rfl ?_ ?_; omega; omega; simp only [putW]) | (refine loadS (f := tupF) hS rfl rfl rfl j 0 ?_ hy rfl ?_ ?_; omega; omega; simp only [putW]) | (refine load1 hS rfl rfl rfl rfl ?_; simp only [putW]) | (refine loadAll hS rfl rfl rfl ?_ ?_; rfl; simp only [putW]) | (refine loadPart hS rfl rfl rfl ?_ rfl ?_; rfl; simp only [putW])); exact ⟨rfl, rfl, hS⟩)); simp only [putW])); refine quiet_nil ?_; intro w hS)
            go_wp2_with (first | (refine load1 hS rfl rfl rfl rfl ?_; simp only [putW]) | (refine loadAll hS rfl rfl rfl ?_ ?_; rfl; simp only [putW]) | (refine loadPart hS rfl rfl rfl ?_ rfl ?_; rfl; simp only [putW]) | (refine store1 hS rfl rfl rfl rfl rfl ?_ ?_; (focus (simp; done)); clear hS; intro w hS; simp only [evW, putW] at hS; try simp only [putW]) | (refine storeAll hS rfl rfl rfl rfl ?_ ?_ ?_ ?_; rfl; (focus (simp [Value.oneCell']; done)); rfl; clear hS; intro w hS; try simp only [putW]) | (refine storeN hS rfl rfl rfl rfl ?_ ?_ ?_ ?_; rfl; (focus (simp [Value.oneCell']; done)); (focus (simp; done)); clear hS; intro w hS; simp at hS; try simp only [putW]) | (refine alloc hS rfl rfl ?_; clear hS; intro mb w hS; simp only [putW]) | (refine box1 hS rfl rfl rfl rfl ?_; clear hS; intro mb w hS; try simp only [evW, putW] at hS; simp only [putW]) | (refine boxN hS rfl rfl rfl ?_; clear hS; intro mb w hS; simp only [putW]))
            go_roundg g2
            case measure => omega
            case rel => exact ⟨i + 1, by omega, by go_num, ⟨hst⟩, hS.conv⟩
        | zero =>
          have hii : i = j := by omega
          subst hii
          have hnx : Bx (NoTwice (tsOf Y) (i + 1)) := ⟨noTwice_all hno.out Hyp.out hfi.out⟩
          have h1 := (hS.pull gp (X := slc 15 tupF Y cp 46)).slOfSlc
          rw [HnP.out] at h1
          clear hS
          have hS := h1
          clear h1
          go_wp2_with (first | (refine load1 hS rfl rfl rfl rfl ?_; simp only [putW]) | (refine loadAll hS rfl rfl rfl ?_ ?_; rfl; simp only [putW]) | (refine loadPart hS rfl rfl rfl ?_ rfl ?_; rfl; simp only [putW]) | (refine store1 hS rfl rfl rfl rfl rfl ?_ ?_; (focus (simp; done)); clear hS; intro w hS; simp only [evW, putW] at hS; try simp only [putW]) | (refine storeAll hS rfl rfl rfl rfl ?_ ?_ ?_ ?_; rfl; (focus (simp [Value.oneCell']; done)); rfl; clear hS; intro w hS; try simp only [putW]) | (refine storeN hS rfl rfl rfl rfl ?_ ?_ ?_ ?_; rfl; (focus (simp [Value.oneCell']; done)); (focus (simp; done)); clear hS; intro w hS; simp at hS; try simp only [putW]) | (refine alloc hS rfl rfl ?_; clear hS; intro mb w hS; simp only [putW]) | (refine box1 hS rfl rfl rfl rfl ?_; clear hS; intro mb w hS; try simp only [evW, putW] at hS; simp only [putW]) | (refine boxN hS rfl rfl rfl ?_; clear hS; intro mb w hS; simp only [putW]))
          go_roundg g
          case measure => omega
          case rel => exact ⟨i + 1, by omega, by go_num, hnx, hS.conv⟩
    | zero =>
      have hjn : j = nP := by omega
      subst hjn
      go_wp2_with (first | (refine load1 hS rfl rfl rfl rfl ?_; simp only [putW]) | (refine loadAll hS rfl rfl rfl ?_ ?_; rfl; simp only [putW]) | (refine loadPart hS rfl rfl rfl ?_ rfl ?_; rfl; simp only [putW]) | (refine store1 hS rfl rfl rfl rfl rfl ?_ ?_; (focus (simp; done)); clear hS; intro w hS; simp only [evW, putW] at hS; try simp only [putW]) | (refine storeAll hS rfl rfl rfl rfl ?_ ?_ ?_ ?_; rfl; (focus (simp [Value.oneCell']; done)); rfl; clear hS; intro w hS; try simp only [putW]) | (refine storeN hS rfl rfl rfl rfl ?_ ?_ ?_ ?_; rfl; (focus (simp [Value.oneCell']; done)); (focus (simp; done)); clear hS; intro w hS; simp at hS; try simp only [putW]) | (refine alloc hS rfl rfl ?_; clear hS; intro mb w hS; simp only [putW]) | (refine box1 hS rfl rfl rfl rfl ?_; clear hS; intro mb w hS; try simp only [evW, putW] at hS; simp only [putW]) | (refine boxN hS rfl rfl rfl ?_; clear hS; intro mb w hS; simp only [putW]))
      refine bodyPost_ret (v := .tuple #[.int .i64 (-1), .int .i64 (-1)]) (by simp [results, Tryd.results21]) rfl ⟨.inl ⟨rfl, hno.out⟩, hS.conv⟩
end
end Go.Proofs.YteoidocicjlglaaDoor
