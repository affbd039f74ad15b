/-
  thimbleref13: Victim, Keys.
  thimbleref13: Keys.
  thimbleref13: the table in memory; New, Free, Reserve.
  thimbleref13: New, Reserve.
-/
import Derived.Test.YtlkoclalcfeniaaFrR13a
import Derived.Test.YtlkoclalcfeniaaSlSort
set_option linter.unusedSimpArgs false
set_option linter.unusedVariables false
namespace Go.Proofs.Ytlkoclalcfeniaa
open Go.RowKit Go.Shelf Go.Proofs.Ytlkoclalcfeniaa.Sl Go.Proofs.Ytlkoclalcfeniaa.Jp

/-- An element put where it belongs. -/
theorem rise2 {A O : List Int} {k a : Nat} {x : Int} (hO : O = sortI (A.take k)) (hx : A[k]? = some x) (h1 : ∀ j y, j < a → O[j]? = some y → y ≤ x) (h2 : ∀ y, O[a]? = some y → x ≤ y) : O.take a ++ [x] ++ O.drop a = sortI (A.take (k + 1)) := by
  refine sortI_unique ?_ ?_
  · rw [List.take_add_one, hx]
    have h3 : (O.take a ++ [x] ++ O.drop a).Perm (O ++ [x]) := by
      rw [List.append_assoc]
      refine ((List.perm_append_comm (l₁ := [x]) (l₂ := O.drop a)).append_left _).trans ?_
      rw [← List.append_assoc, List.take_append_drop]
    refine h3.trans ?_
    rw [hO]
    exact (sortI_perm _).append_right _
  · have hs : O.Pairwise fun a b => a ≤ b := by rw [hO]; exact sortI_le _
    rw [← List.take_append_drop a O] at hs
    obtain ⟨s1, s2, s3⟩ := List.pairwise_append.1 hs
    have hlo : ∀ y ∈ O.take a, y ≤ x := fun y hy => by
      obtain ⟨j, hj, e⟩ := List.mem_iff_getElem.1 hy
      have hj2 : j < a := by rw [List.length_take] at hj; omega
      refine h1 j y hj2 ?_
      rw [← e, List.getElem_take]
      exact List.getElem?_eq_getElem _
    have hhi : ∀ y ∈ O.drop a, x ≤ y := fun y hy => by
      cases hd : O.drop a with
      | nil => rw [hd] at hy; cases hy
      | cons z zs =>
        have hz : O[a]? = some z := by
          have : (O.drop a)[0]? = some z := by rw [hd]; rfl
          rwa [List.getElem?_drop, Nat.add_zero] at this
        have hz2 := h2 z hz
        rw [hd] at hy s2
        rcases List.mem_cons.1 hy with rfl | hy
        · omega
        · have := (List.pairwise_cons.1 s2).1 y hy
          omega
    rw [List.append_assoc]
    refine List.pairwise_append.2 ⟨s1, List.pairwise_append.2 ⟨List.pairwise_singleton _ _, s2, fun y hy z hz => ?_⟩, fun y hy z hz => ?_⟩
    · rw [List.mem_singleton.1 hy]; exact hhi z hz
    · rcases List.mem_append.1 hz with hz | hz
      · rw [List.mem_singleton.1 hz]; exact hlo y hy
      · exact s3 y hy z hz
def keysX (L : List Fx) : List Int := L.map (·.1)
/-- The victim by the document. -/
def vicX (X : X13) : Int × Int := if (X.l.length : Int) < X.most then (0, 5) else match looseX X.l X.pins with
  | [] => (0, 12)
  | a :: L => (L.foldl (coldStep2 (ofX X.now X.heat)) a, 0)
theorem XAt3.heatAt {w : World} {X : X13} {x : Nat} {vL vP vS vH : Value} (h : XAt3 w X x vL vP vS vH) : HAt w X.now X.heat x vH := by
  refine ⟨⟨h.t.1, fun i y hy => ?_⟩, h.h⟩
  have hi : i = 0 := by
    have := (List.getElem?_eq_some_iff.1 hy).1
    simp at this
    exact this
  subst hi
  have hy2 : ((16, (X.now : Int), vH) : Int × Int × Value) = y := by simpa using hy
  subst hy2
  refine ⟨trivial, rfl, fun j u hu => ?_⟩
  have h2 := (h.t.2 0 (t7 X.most vL vP vS X.now vH) rfl).2.2 (4 + j) u
  have hj : j < 3 := by
    have := (List.getElem?_eq_some_iff.1 hu).1
    simpa [htF] using this
  have h3 : (t7F (t7 X.most vL vP vS X.now vH))[4 + j]? = some u := by
    match j, hj, hu with
    | 0, _, hu => simpa [htF, t7F] using hu
    | 1, _, hu => simpa [htF, t7F] using hu
    | 2, _, hu => simpa [htF, t7F] using hu
  have h4 := h2 h3
  rw [show 0 + 0 * 7 + (4 + j) = 4 + 0 * 3 + j by omega] at h4
  exact h4
section
variable {w0 : World} {X : X13} {x : Nat} {vL vP vS vH : Value} {task key : Int}
set_option maxRecDepth 100000 in
set_option maxHeartbeats 4000000 in
theorem refVictim0 (hX : XAt3 w0 X x vL vP vS vH) (hsp : SpN X.now X.heat) (hn : X.now ≤ 30000) (hlen : X.l.length ≤ 1000) : Calls Try.prog 48 #[.pointer (some ⟨x, 0, none⟩)] w0 fun e w' => e = .returned (.tuple #[.int .i64 (vicX X).1, .int .i64 (vicX X).2]) ∧ Below w0.heap.size w0 w' := by
  have hX0 := hX
  obtain ⟨hT, hL, -, -, -⟩ := hX
  obtain ⟨ph, ch, hvL, hl, hat⟩ := hL.at
  obtain ⟨n, hnn⟩ : ∃ n, X.l.length = n := ⟨_, rfl⟩
  obtain ⟨M, hM⟩ : ∃ M, X.most = M := ⟨_, rfl⟩
  rw [hnn] at hl hvL hlen
  subst hvL
  have HX0 : Bx _ := ⟨hX0⟩
  rw [hM] at hT
  have HN : Bx _ := ⟨hnn⟩
  have HM : Bx _ := ⟨hM⟩
  have HAT : Bx _ := ⟨hat⟩
  have HSP : Bx _ := ⟨hsp⟩
  clear hat hL hX0 hsp
  have hS := Sat.refl w0
  by_cases hfull : (n : Int) < M
  · have HV : Bx (vicX X = (0, 5)) := ⟨by unfold vicX; rw [hnn, hM, if_pos hfull]⟩
    have d0 : decide ((n : Int) < M) = true := decide_eq_true hfull
    clear hnn hM hfull
    go_enter Try.func48, Try.ntmps48
    go_upto_region 1 with (first | (refine load1 hS rfl rfl rfl rfl ?_; simp only [putW]) | (refine loadAll hS rfl rfl rfl ?_ ?_; rfl; simp only [putW]) | (refine loadPart hS rfl rfl rfl ?_ rfl ?_; rfl; simp only [putW]) | (refine store1 hS rfl rfl rfl rfl rfl ?_ ?_; (focus (simp; done)); clear hS; intro w hS; simp only [evW, putW] at hS; try simp only [putW]) | (refine storeAll hS rfl rfl rfl rfl ?_ ?_ ?_ ?_; rfl; (focus (simp [Value.oneCell']; done)); rfl; clear hS; intro w hS; try simp only [putW]) | (refine storeN hS rfl rfl rfl rfl ?_ ?_ ?_ ?_; rfl; (focus (simp [Value.oneCell']; done)); (focus (simp; done)); clear hS; intro w hS; simp at hS; try simp only [putW]) | (refine alloc hS rfl rfl ?_; clear hS; intro mb w hS; simp only [putW]) | (refine box1 hS rfl rfl rfl rfl ?_; clear hS; intro mb w hS; try simp only [evW, putW] at hS; simp only [putW]) | (refine boxN hS rfl rfl rfl ?_; clear hS; intro mb w hS; simp only [putW]))
    (refine region_quiet hS (by kernel_rfl) (by kernel_rfl) (by kernel_rfl) ?_; clear hS; (repeat (first | (refine quiet_skip rfl ?_; simp only [putW]) | (refine quiet_y (yLoadB (fun w h => hT.mono h.base fun _ _ h => h) rfl rfl rfl 0 1 (by omega) rfl rfl) ?_; simp only [putW]) | (refine quiet_y (yLoadB (fun w h => hT.mono h.base fun _ _ h => h) rfl rfl rfl 0 0 (by omega) rfl rfl) ?_; simp only [putW]) | (refine quiet_y (yMove rfl rfl rfl) ?_; simp only [evW, putW]) | (refine quiet_y (yNil rfl rfl rfl) ?_; simp only [putW]) | (refine quiet_y (yLoad1 (fun _ h => h) rfl rfl rfl rfl) ?_; simp only [putW]) | (apply quiet_y; (focus (apply yRun rfl; intro w; first | (go_simp; done) | (go_simp; rfl))); simp only [putW]))); refine quiet_nil ?_; intro w hS)
    go_wp2_with (first | (refine load1 hS rfl rfl rfl rfl ?_; simp only [putW]) | (refine loadAll hS rfl rfl rfl ?_ ?_; rfl; simp only [putW]) | (refine loadPart hS rfl rfl rfl ?_ rfl ?_; rfl; simp only [putW]) | (refine store1 hS rfl rfl rfl rfl rfl ?_ ?_; (focus (simp; done)); clear hS; intro w hS; simp only [evW, putW] at hS; try simp only [putW]) | (refine storeAll hS rfl rfl rfl rfl ?_ ?_ ?_ ?_; rfl; (focus (simp [Value.oneCell']; done)); rfl; clear hS; intro w hS; try simp only [putW]) | (refine storeN hS rfl rfl rfl rfl ?_ ?_ ?_ ?_; rfl; (focus (simp [Value.oneCell']; done)); (focus (simp; done)); clear hS; intro w hS; simp at hS; try simp only [putW]) | (refine alloc hS rfl rfl ?_; clear hS; intro mb w hS; simp only [putW]) | (refine box1 hS rfl rfl rfl rfl ?_; clear hS; intro mb w hS; try simp only [evW, putW] at hS; simp only [putW]) | (refine boxN hS rfl rfl rfl ?_; clear hS; intro mb w hS; simp only [putW]))
    refine bodyPost_ret (v := .tuple #[.int .i64 0, .int .i64 5]) (by simp [results, Try.results48]) rfl ⟨by rw [HV.out], hS.base⟩
  · have d0 : decide ((n : Int) < M) = false := decide_eq_false hfull
    have HV : Bx (vicX X = match looseX X.l X.pins with
      | [] => (0, 12)
      | a :: L => (L.foldl (coldStep2 (ofX X.now X.heat)) a, 0)) := ⟨by unfold vicX; rw [hnn, hM, if_neg hfull]⟩
    clear hnn hM hfull
    go_enter Try.func48, Try.ntmps48
    go_upto_region 1 with (first | (refine load1 hS rfl rfl rfl rfl ?_; simp only [putW]) | (refine loadAll hS rfl rfl rfl ?_ ?_; rfl; simp only [putW]) | (refine loadPart hS rfl rfl rfl ?_ rfl ?_; rfl; simp only [putW]) | (refine store1 hS rfl rfl rfl rfl rfl ?_ ?_; (focus (simp; done)); clear hS; intro w hS; simp only [evW, putW] at hS; try simp only [putW]) | (refine storeAll hS rfl rfl rfl rfl ?_ ?_ ?_ ?_; rfl; (focus (simp [Value.oneCell']; done)); rfl; clear hS; intro w hS; try simp only [putW]) | (refine storeN hS rfl rfl rfl rfl ?_ ?_ ?_ ?_; rfl; (focus (simp [Value.oneCell']; done)); (focus (simp; done)); clear hS; intro w hS; simp at hS; try simp only [putW]) | (refine alloc hS rfl rfl ?_; clear hS; intro mb w hS; simp only [putW]) | (refine box1 hS rfl rfl rfl rfl ?_; clear hS; intro mb w hS; try simp only [evW, putW] at hS; simp only [putW]) | (refine boxN hS rfl rfl rfl ?_; clear hS; intro mb w hS; simp only [putW]))
    (refine region_quiet hS (by kernel_rfl) (by kernel_rfl) (by kernel_rfl) ?_; clear hS; (repeat (first | (refine quiet_skip rfl ?_; simp only [putW]) | (refine quiet_y (yLoadB (fun w h => hT.mono h.base fun _ _ h => h) rfl rfl rfl 0 1 (by omega) rfl rfl) ?_; simp only [putW]) | (refine quiet_y (yLoadB (fun w h => hT.mono h.base fun _ _ h => h) rfl rfl rfl 0 0 (by omega) rfl rfl) ?_; simp only [putW]) | (refine quiet_y (yMove rfl rfl rfl) ?_; simp only [evW, putW]) | (refine quiet_y (yNil rfl rfl rfl) ?_; simp only [putW]) | (refine quiet_y (yLoad1 (fun _ h => h) rfl rfl rfl rfl) ?_; simp only [putW]) | (apply quiet_y; (focus (apply yRun rfl; intro w; first | (go_simp; done) | (go_simp; rfl))); simp only [putW]))); refine quiet_nil ?_; intro w hS)
    go_wp2_with (first | (refine load1 hS rfl rfl rfl rfl ?_; simp only [putW]) | (refine loadAll hS rfl rfl rfl ?_ ?_; rfl; simp only [putW]) | (refine loadPart hS rfl rfl rfl ?_ rfl ?_; rfl; simp only [putW]) | (refine store1 hS rfl rfl rfl rfl rfl ?_ ?_; (focus (simp; done)); clear hS; intro w hS; simp only [evW, putW] at hS; try simp only [putW]) | (refine storeAll hS rfl rfl rfl rfl ?_ ?_ ?_ ?_; rfl; (focus (simp [Value.oneCell']; done)); rfl; clear hS; intro w hS; try simp only [putW]) | (refine storeN hS rfl rfl rfl rfl ?_ ?_ ?_ ?_; rfl; (focus (simp [Value.oneCell']; done)); (focus (simp; done)); clear hS; intro w hS; simp at hS; try simp only [putW]) | (refine alloc hS rfl rfl ?_; clear hS; intro mb w hS; simp only [putW]) | (refine box1 hS rfl rfl rfl rfl ?_; clear hS; intro mb w hS; try simp only [evW, putW] at hS; simp only [putW]) | (refine boxN hS rfl rfl rfl ?_; clear hS; intro mb w hS; simp only [putW]))
    replace hS := hS.slNil 1 i64 3
    go_loopg [4, 5] n (fun g ov i wr => ∃ k : Nat, k + g = n ∧ i = .int .i64 k ∧ Sat w0 [(blk ov, sl 1 i64 (looseX (X.l.take k) X.pins) 3 ov)] wr)
    case atStart => exact ⟨0, by omega, rfl, hS⟩
    case round =>
      clear hS
      obtain ⟨k, hkn, rfl, hS⟩ := hrel
      have hwl := looseX_le X.l X.pins k
      rw [HN.out] at hwl
      obtain ⟨m4, hm4⟩ : ∃ m, (looseX (X.l.take k) X.pins).length = m := ⟨_, rfl⟩
      rw [hm4] at hwl
      obtain ⟨q4, c4, hv4⟩ := shapeN hS hm4
      subst hv4
      have HM4 : Bx _ := ⟨hm4⟩
      clear hm4
      cases gk with
      | zero =>
        have e : k = n := by omega
        subst e
        have hLk : X.l.take k = X.l := by rw [← HN.out, List.take_length]
        rw [hLk] at hS
        rw [hLk] at HM4
        clear hkn hLk
        obtain ⟨LL, hLL⟩ : ∃ LL, looseX X.l X.pins = LL := ⟨_, rfl⟩
        rw [hLL] at hS HM4 HV
        clear hLL
        cases LL with
        | nil =>
          have HV2 : Bx (vicX X = (0, 12)) := ⟨HV.out⟩
          go_wp2_with (first | (refine loadB (f := t7F) hS rfl rfl rfl hT 0 1 ?_ rfl rfl ?_; omega; simp only [putW]) | (guard_target =~ Calls _ 63 _ _ _; refine Stopped.out ?_) | (refine load1 hS rfl rfl rfl rfl ?_; simp only [putW]) | (refine loadAll hS rfl rfl rfl ?_ ?_; rfl; simp only [putW]) | (refine loadPart hS rfl rfl rfl ?_ rfl ?_; rfl; simp only [putW]) | (refine store1 hS rfl rfl rfl rfl rfl ?_ ?_; (focus (simp; done)); clear hS; intro w hS; simp only [evW, putW] at hS; try simp only [putW]) | (refine storeAll hS rfl rfl rfl rfl ?_ ?_ ?_ ?_; rfl; (focus (simp [Value.oneCell']; done)); rfl; clear hS; intro w hS; try simp only [putW]) | (refine storeN hS rfl rfl rfl rfl ?_ ?_ ?_ ?_; rfl; (focus (simp [Value.oneCell']; done)); (focus (simp; done)); clear hS; intro w hS; simp at hS; try simp only [putW]) | (refine alloc hS rfl rfl ?_; clear hS; intro mb w hS; simp only [putW]) | (refine box1 hS rfl rfl rfl rfl ?_; clear hS; intro mb w hS; try simp only [evW, putW] at hS; simp only [putW]) | (refine boxN hS rfl rfl rfl ?_; clear hS; intro mb w hS; simp only [putW]))
          refine ⟨?_⟩
          have hrd : RI _ [] (.slice q4 m4 c4) := hS.readsSl (v := .slice q4 m4 c4) (L := []) (n := 1) (f := i64) (t := 3) fun _ _ => trivial
          (refine Calls.mono (refColdestNil (x := x) hrd) ?_; rintro _ w2 ⟨rfl, h2⟩; replace hS := hS.frame h2; clear h2; (try simp only [List.cons_append, List.nil_append] at hS); simp only [putW])
          clear hrd
          go_wp2_with (first | (refine load1 hS rfl rfl rfl rfl ?_; simp only [putW]) | (refine loadAll hS rfl rfl rfl ?_ ?_; rfl; simp only [putW]) | (refine loadPart hS rfl rfl rfl ?_ rfl ?_; rfl; simp only [putW]) | (refine store1 hS rfl rfl rfl rfl rfl ?_ ?_; (focus (simp; done)); clear hS; intro w hS; simp only [evW, putW] at hS; try simp only [putW]) | (refine storeAll hS rfl rfl rfl rfl ?_ ?_ ?_ ?_; rfl; (focus (simp [Value.oneCell']; done)); rfl; clear hS; intro w hS; try simp only [putW]) | (refine storeN hS rfl rfl rfl rfl ?_ ?_ ?_ ?_; rfl; (focus (simp [Value.oneCell']; done)); (focus (simp; done)); clear hS; intro w hS; simp at hS; try simp only [putW]) | (refine alloc hS rfl rfl ?_; clear hS; intro mb w hS; simp only [putW]) | (refine box1 hS rfl rfl rfl rfl ?_; clear hS; intro mb w hS; try simp only [evW, putW] at hS; simp only [putW]) | (refine boxN hS rfl rfl rfl ?_; clear hS; intro mb w hS; simp only [putW]))
          refine bodyPost_ret (v := .tuple #[.int .i64 0, .int .i64 12]) (by simp [results, Try.results48]) rfl ⟨by rw [HV2.out], hS.base⟩
        | cons a LL =>
          obtain ⟨R, hR⟩ : ∃ R, LL.foldl (coldStep2 (ofX X.now X.heat)) a = R := ⟨_, rfl⟩
          have HR : Bx _ := ⟨hR⟩
          have HV2 : Bx (vicX X = (R, 0)) := ⟨by rw [← hR]; exact HV.out⟩
          clear hR
          go_wp2_with (first | (refine loadB (f := t7F) hS rfl rfl rfl hT 0 1 ?_ rfl rfl ?_; omega; simp only [putW]) | (guard_target =~ Calls _ 63 _ _ _; refine Stopped.out ?_) | (refine load1 hS rfl rfl rfl rfl ?_; simp only [putW]) | (refine loadAll hS rfl rfl rfl ?_ ?_; rfl; simp only [putW]) | (refine loadPart hS rfl rfl rfl ?_ rfl ?_; rfl; simp only [putW]) | (refine store1 hS rfl rfl rfl rfl rfl ?_ ?_; (focus (simp; done)); clear hS; intro w hS; simp only [evW, putW] at hS; try simp only [putW]) | (refine storeAll hS rfl rfl rfl rfl ?_ ?_ ?_ ?_; rfl; (focus (simp [Value.oneCell']; done)); rfl; clear hS; intro w hS; try simp only [putW]) | (refine storeN hS rfl rfl rfl rfl ?_ ?_ ?_ ?_; rfl; (focus (simp [Value.oneCell']; done)); (focus (simp; done)); clear hS; intro w hS; simp at hS; try simp only [putW]) | (refine alloc hS rfl rfl ?_; clear hS; intro mb w hS; simp only [putW]) | (refine box1 hS rfl rfl rfl rfl ?_; clear hS; intro mb w hS; try simp only [evW, putW] at hS; simp only [putW]) | (refine boxN hS rfl rfl rfl ?_; clear hS; intro mb w hS; simp only [putW]))
          refine ⟨?_⟩
          have hrd : RI _ (a :: LL) (.slice q4 m4 c4) := hS.readsSl (v := .slice q4 m4 c4) (L := a :: LL) (n := 1) (f := i64) (t := 3) fun _ _ => trivial
          have hHA : HAt _ X.now X.heat x vH := ⟨HX0.out.heatAt.t.mono hS.base fun _ _ h => h, HX0.out.heatAt.l.mono hS.base fun _ _ h => h⟩
          (refine Calls.mono (refColdest0 hHA HSP.out hn hrd) ?_; rw [HR.out]; rintro _ w2 ⟨rfl, h2⟩; replace hS := hS.frame h2; clear h2; (try simp only [List.cons_append, List.nil_append] at hS); simp only [putW])
          clear hrd hHA
          go_wp2_with (first | (refine load1 hS rfl rfl rfl rfl ?_; simp only [putW]) | (refine loadAll hS rfl rfl rfl ?_ ?_; rfl; simp only [putW]) | (refine loadPart hS rfl rfl rfl ?_ rfl ?_; rfl; simp only [putW]) | (refine store1 hS rfl rfl rfl rfl rfl ?_ ?_; (focus (simp; done)); clear hS; intro w hS; simp only [evW, putW] at hS; try simp only [putW]) | (refine storeAll hS rfl rfl rfl rfl ?_ ?_ ?_ ?_; rfl; (focus (simp [Value.oneCell']; done)); rfl; clear hS; intro w hS; try simp only [putW]) | (refine storeN hS rfl rfl rfl rfl ?_ ?_ ?_ ?_; rfl; (focus (simp [Value.oneCell']; done)); (focus (simp; done)); clear hS; intro w hS; simp at hS; try simp only [putW]) | (refine alloc hS rfl rfl ?_; clear hS; intro mb w hS; simp only [putW]) | (refine box1 hS rfl rfl rfl rfl ?_; clear hS; intro mb w hS; try simp only [evW, putW] at hS; simp only [putW]) | (refine boxN hS rfl rfl rfl ?_; clear hS; intro mb w hS; simp only [putW]))
          refine bodyPost_ret (v := .tuple #[.int .i64 R, .int .i64 0]) (by simp [results, Try.results48]) rfl ⟨by rw [HV2.out], hS.base⟩
      | succ g =>
        have hlt : k < n := by omega
        have d1 : decide ((k : Int) < (n : Int)) = true := decide_eq_true (by omega)
        have d1n : decide (k < n) = true := decide_eq_true hlt
        obtain ⟨u, hu⟩ : ∃ y, X.l[k]? = some y := ⟨_, List.getElem?_eq_getElem (by rw [HN.out]; exact hlt)⟩
        obtain ⟨b, off, hpa, hBA⟩ := HAT.out (fun h => by rw [h] at hu; cases hu)
        subst hpa
        have hnx := looseX_next (P := X.pins) hu
        obtain ⟨tk, va, A, bb⟩ := u
        have HU : Bx _ := ⟨hu⟩
        have HX : Bx _ := ⟨hnx⟩
        obtain ⟨pb, hpb⟩ : ∃ pb, pinX X.pins tk = pb := ⟨_, rfl⟩
        have HP : Bx _ := ⟨hpb⟩
        clear hu hnx hpb
        go_wp2_with (first | (refine loadB (f := t7F) hS rfl rfl rfl hT 0 1 ?_ rfl rfl ?_; omega; simp only [putW]) | (refine loadB (f := fxF) hS rfl rfl rfl hBA k 0 ?_ HU.out rfl ?_; omega; simp only [putW]) | (guard_target =~ Calls _ 52 _ _ _; refine Stopped.out ?_) | (refine load1 hS rfl rfl rfl rfl ?_; simp only [putW]) | (refine loadAll hS rfl rfl rfl ?_ ?_; rfl; simp only [putW]) | (refine loadPart hS rfl rfl rfl ?_ rfl ?_; rfl; simp only [putW]) | (refine store1 hS rfl rfl rfl rfl rfl ?_ ?_; (focus (simp; done)); clear hS; intro w hS; simp only [evW, putW] at hS; try simp only [putW]) | (refine storeAll hS rfl rfl rfl rfl ?_ ?_ ?_ ?_; rfl; (focus (simp [Value.oneCell']; done)); rfl; clear hS; intro w hS; try simp only [putW]) | (refine storeN hS rfl rfl rfl rfl ?_ ?_ ?_ ?_; rfl; (focus (simp [Value.oneCell']; done)); (focus (simp; done)); clear hS; intro w hS; simp at hS; try simp only [putW]) | (refine alloc hS rfl rfl ?_; clear hS; intro mb w hS; simp only [putW]) | (refine box1 hS rfl rfl rfl rfl ?_; clear hS; intro mb w hS; try simp only [evW, putW] at hS; simp only [putW]) | (refine boxN hS rfl rfl rfl ?_; clear hS; intro mb w hS; simp only [putW]))
        refine ⟨?_⟩
        have hX2 : XAt3 _ X x (.slice (some ⟨b, off, none⟩) n ch) vP vS vH := ⟨HX0.out.t.mono hS.base fun _ _ h => h, HX0.out.l.mono hS.base fun _ _ h => h, HX0.out.p.mono hS.base fun _ _ h => h, HX0.out.s.mono hS.base fun _ _ h => h, HX0.out.h.mono hS.base fun _ _ h => h⟩
        (refine Calls.mono (refPinned0 (key := tk) hX2) ?_; rw [HP.out]; rintro _ w2 ⟨rfl, h2⟩; replace hS := hS.frame h2; clear h2; (try simp only [List.cons_append, List.nil_append] at hS); simp only [putW])
        clear hX2
        cases pb with
        | true =>
          have HX2 : Bx (looseX (X.l.take (k + 1)) X.pins = looseX (X.l.take k) X.pins) := ⟨by rw [HX.out, if_pos HP.out]⟩
          go_wp2_with (first | (refine load1 hS rfl rfl rfl rfl ?_; simp only [putW]) | (refine loadAll hS rfl rfl rfl ?_ ?_; rfl; simp only [putW]) | (refine loadPart hS rfl rfl rfl ?_ rfl ?_; rfl; simp only [putW]) | (refine store1 hS rfl rfl rfl rfl rfl ?_ ?_; (focus (simp; done)); clear hS; intro w hS; simp only [evW, putW] at hS; try simp only [putW]) | (refine storeAll hS rfl rfl rfl rfl ?_ ?_ ?_ ?_; rfl; (focus (simp [Value.oneCell']; done)); rfl; clear hS; intro w hS; try simp only [putW]) | (refine storeN hS rfl rfl rfl rfl ?_ ?_ ?_ ?_; rfl; (focus (simp [Value.oneCell']; done)); (focus (simp; done)); clear hS; intro w hS; simp at hS; try simp only [putW]) | (refine alloc hS rfl rfl ?_; clear hS; intro mb w hS; simp only [putW]) | (refine box1 hS rfl rfl rfl rfl ?_; clear hS; intro mb w hS; try simp only [evW, putW] at hS; simp only [putW]) | (refine boxN hS rfl rfl rfl ?_; clear hS; intro mb w hS; simp only [putW]))
          go_roundg g
          case measure => omega
          case rel => exact ⟨k + 1, by omega, by go_num, by rw [HX2.out]; exact hS⟩
        | false =>
          have HX2 : Bx (looseX (X.l.take (k + 1)) X.pins = looseX (X.l.take k) X.pins ++ [tk]) := ⟨by rw [HX.out, if_neg (by show ¬ pinX X.pins tk = true; rw [HP.out]; simp)]⟩
          go_wp2_with (first | (refine loadB (f := t7F) hS rfl rfl rfl hT 0 1 ?_ rfl rfl ?_; omega; simp only [putW]) | (refine loadB (f := fxF) hS rfl rfl rfl hBA k 0 ?_ HU.out rfl ?_; omega; simp only [putW]) | (refine buildSlice1 (c := #[.int .i64 tk]) hS rfl rfl rfl ?_ ?_ ?_ ?_; rfl; rfl; rfl; clear hS; intro mb w hS; simp only [putW]) | (refine append1 (f := i64) hS rfl rfl (.slice q4 m4 c4) rfl rfl tk ?_ ?_ ?_ ?_ ?_ ?_; rfl; (focus (simp [Sl.one, Value.oneCell']; done)); rfl; (focus (rw [HM4.out]; simp [maxLen]; omega)); (focus (rw [HM4.out]; omega)); clear hS; intro v' w hS; simp only [putW]) | (refine load1 hS rfl rfl rfl rfl ?_; simp only [putW]) | (refine loadAll hS rfl rfl rfl ?_ ?_; rfl; simp only [putW]) | (refine loadPart hS rfl rfl rfl ?_ rfl ?_; rfl; simp only [putW]) | (refine store1 hS rfl rfl rfl rfl rfl ?_ ?_; (focus (simp; done)); clear hS; intro w hS; simp only [evW, putW] at hS; try simp only [putW]) | (refine storeAll hS rfl rfl rfl rfl ?_ ?_ ?_ ?_; rfl; (focus (simp [Value.oneCell']; done)); rfl; clear hS; intro w hS; try simp only [putW]) | (refine storeN hS rfl rfl rfl rfl ?_ ?_ ?_ ?_; rfl; (focus (simp [Value.oneCell']; done)); (focus (simp; done)); clear hS; intro w hS; simp at hS; try simp only [putW]) | (refine alloc hS rfl rfl ?_; clear hS; intro mb w hS; simp only [putW]) | (refine box1 hS rfl rfl rfl rfl ?_; clear hS; intro mb w hS; try simp only [evW, putW] at hS; simp only [putW]) | (refine boxN hS rfl rfl rfl ?_; clear hS; intro mb w hS; simp only [putW]))
          go_roundg g
          case measure => omega
          case rel => exact ⟨k + 1, by omega, by go_num, by rw [HX2.out]; exact hS.conv⟩
end
end Go.Proofs.Ytlkoclalcfeniaa
namespace Go.Proofs.Ytlkoclalcfeniaa
open Go.RowKit Go.Shelf Go.Proofs.Ytlkoclalcfeniaa.Sl Go.Proofs.Ytlkoclalcfeniaa.Jp

section
variable {w0 : World} {X : X13} {x : Nat} {vL vP vS vH : Value} {task key : Int}
set_option maxRecDepth 100000 in
set_option maxHeartbeats 4000000 in
theorem refKeys0 (hX : XAt3 w0 X x vL vP vS vH) (hlen : X.l.length ≤ 1000) : Calls Try.prog 51 #[.pointer (some ⟨x, 0, none⟩)] w0 fun e w' => ∃ v', e = .returned v' ∧ Sat w0 [(blk v', sl 1 i64 (sortI (keysX X.l)) 3 v')] w' := by
  obtain ⟨hT, hA, -, -, -⟩ := hX
  obtain ⟨ph, ch, rfl, hl, hat⟩ := hA.at
  obtain ⟨n, hn⟩ : ∃ n, X.l.length = n := ⟨_, rfl⟩
  rw [hn] at hl hlen hT
  obtain ⟨A, hAA⟩ : ∃ A, keysX X.l = A := ⟨_, rfl⟩
  have HAA : Bx _ := ⟨hAA⟩
  rw [hAA]
  have HN : Bx _ := ⟨hn⟩
  have HAT : Bx _ := ⟨hat⟩
  have HNA : Bx (A.length = n) := ⟨by rw [← hAA]; unfold keysX; rw [List.length_map]; exact hn⟩
  clear hat hA hn hAA
  have hS := Sat.refl w0
  go_enter Try.func51, Try.ntmps51
  go_wp2_with (first | (refine load1 hS rfl rfl rfl rfl ?_; simp only [putW]) | (refine loadAll hS rfl rfl rfl ?_ ?_; rfl; simp only [putW]) | (refine loadPart hS rfl rfl rfl ?_ rfl ?_; rfl; simp only [putW]) | (refine store1 hS rfl rfl rfl rfl rfl ?_ ?_; (focus (simp; done)); clear hS; intro w hS; simp only [evW, putW] at hS; try simp only [putW]) | (refine storeAll hS rfl rfl rfl rfl ?_ ?_ ?_ ?_; rfl; (focus (simp [Value.oneCell']; done)); rfl; clear hS; intro w hS; try simp only [putW]) | (refine storeN hS rfl rfl rfl rfl ?_ ?_ ?_ ?_; rfl; (focus (simp [Value.oneCell']; done)); (focus (simp; done)); clear hS; intro w hS; simp at hS; try simp only [putW]) | (refine alloc hS rfl rfl ?_; clear hS; intro mb w hS; simp only [putW]) | (refine box1 hS rfl rfl rfl rfl ?_; clear hS; intro mb w hS; try simp only [evW, putW] at hS; simp only [putW]) | (refine boxN hS rfl rfl rfl ?_; clear hS; intro mb w hS; simp only [putW]))
  replace hS := hS.slNil 1 i64 3
  go_loopg [3, 4] n (fun g ov i wr => ∃ (k : Nat) (O : List Int), k + g = n ∧ i = .int .i64 k ∧ Bx (O = sortI (A.take k)) ∧ Sat w0 [(blk ov, sl 1 i64 O 3 ov)] wr)
  case atStart => exact ⟨0, [], by omega, rfl, ⟨by simp [sortI]⟩, hS⟩
  case round =>
    clear hS
    obtain ⟨k, O, hkn, rfl, HO, hS⟩ := hrel
    cases gk with
    | zero =>
      have e : k = n := by omega
      subst e
      have hLk : O = sortI A := by rw [HO.out, ← HNA.out, List.take_length]
      subst hLk
      clear hkn
      go_wp2_with (first | (refine loadB (f := t7F) hS rfl rfl rfl hT 0 1 ?_ rfl rfl ?_; omega; simp only [putW]) | (refine load1 hS rfl rfl rfl rfl ?_; simp only [putW]) | (refine loadAll hS rfl rfl rfl ?_ ?_; rfl; simp only [putW]) | (refine loadPart hS rfl rfl rfl ?_ rfl ?_; rfl; simp only [putW]) | (refine store1 hS rfl rfl rfl rfl rfl ?_ ?_; (focus (simp; done)); clear hS; intro w hS; simp only [evW, putW] at hS; try simp only [putW]) | (refine storeAll hS rfl rfl rfl rfl ?_ ?_ ?_ ?_; rfl; (focus (simp [Value.oneCell']; done)); rfl; clear hS; intro w hS; try simp only [putW]) | (refine storeN hS rfl rfl rfl rfl ?_ ?_ ?_ ?_; rfl; (focus (simp [Value.oneCell']; done)); (focus (simp; done)); clear hS; intro w hS; simp at hS; try simp only [putW]) | (refine alloc hS rfl rfl ?_; clear hS; intro mb w hS; simp only [putW]) | (refine box1 hS rfl rfl rfl rfl ?_; clear hS; intro mb w hS; try simp only [evW, putW] at hS; simp only [putW]) | (refine boxN hS rfl rfl rfl ?_; clear hS; intro mb w hS; simp only [putW]))
      go_ret
      exact ⟨_, rfl, hS⟩
    | succ g =>
      have hlt : k < n := by omega
      have d1 : decide ((k : Int) < (n : Int)) = true := decide_eq_true (by omega)
      have d1n : decide (k < n) = true := decide_eq_true hlt
      obtain ⟨u, hu⟩ : ∃ y, X.l[k]? = some y := ⟨_, List.getElem?_eq_getElem (by rw [HN.out]; exact hlt)⟩
      obtain ⟨b, off, hpa, hBA⟩ := HAT.out (fun h => by rw [h] at hu; cases hu)
      subst hpa
      obtain ⟨y, va, FA, bb⟩ := u
      have HU : Bx _ := ⟨hu⟩
      have HY : Bx (A[k]? = some y) := ⟨by rw [← HAA.out]; unfold keysX; rw [List.getElem?_map, hu]; rfl⟩
      clear hu
      obtain ⟨oL, hoL⟩ : ∃ m, O.length = m := ⟨_, rfl⟩
      have hok : oL = k := by
        rw [← hoL, HO.out, sortI_len, List.length_take]
        have := HNA.out
        omega
      subst hok
      have HOL : Bx _ := ⟨hoL⟩
      obtain ⟨q3, c3, hv3⟩ := shapeN hS hoL
      subst hv3
      clear hoL
      go_wp2_with (first | (refine loadB (f := t7F) hS rfl rfl rfl hT 0 1 ?_ rfl rfl ?_; omega; simp only [putW]) | (refine load1 hS rfl rfl rfl rfl ?_; simp only [putW]) | (refine loadAll hS rfl rfl rfl ?_ ?_; rfl; simp only [putW]) | (refine loadPart hS rfl rfl rfl ?_ rfl ?_; rfl; simp only [putW]) | (refine store1 hS rfl rfl rfl rfl rfl ?_ ?_; (focus (simp; done)); clear hS; intro w hS; simp only [evW, putW] at hS; try simp only [putW]) | (refine storeAll hS rfl rfl rfl rfl ?_ ?_ ?_ ?_; rfl; (focus (simp [Value.oneCell']; done)); rfl; clear hS; intro w hS; try simp only [putW]) | (refine storeN hS rfl rfl rfl rfl ?_ ?_ ?_ ?_; rfl; (focus (simp [Value.oneCell']; done)); (focus (simp; done)); clear hS; intro w hS; simp at hS; try simp only [putW]) | (refine alloc hS rfl rfl ?_; clear hS; intro mb w hS; simp only [putW]) | (refine box1 hS rfl rfl rfl rfl ?_; clear hS; intro mb w hS; try simp only [evW, putW] at hS; simp only [putW]) | (refine boxN hS rfl rfl rfl ?_; clear hS; intro mb w hS; simp only [putW]))
      go_loopg [5] oL (fun g2 av wr => ∃ a : Nat, a + g2 = oL ∧ av = .int .i64 a ∧ Bx (∀ j z, j < a → O[j]? = some z → z ≤ y) ∧ Sat w0 [(blk (.slice q3 oL c3), sl 1 i64 O 3 (.slice q3 oL c3))] wr)
      case atStart => exact ⟨0, by omega, rfl, ⟨fun j z hj => absurd hj (Nat.not_lt_zero _)⟩, hS⟩
      case round =>
        clear hS
        obtain ⟨a, hao, rfl, HP, hS⟩ := hrel
        cases gk with
        | zero =>
          have hae : a = oL := by omega
          have hale : a ≤ oL := by omega
          have dlt : decide ((a : Int) < (oL : Int)) = false := decide_eq_false (by omega)
          have dltn : decide (a < oL) = false := decide_eq_false (by omega)
          have HP2 : Bx (∀ z, O[a]? = some z → ¬ z < y) := ⟨fun z hz => by
            have := (List.getElem?_eq_some_iff.1 hz).1
            have := HOL.out
            omega⟩
          have HAE : Bx _ := ⟨hae⟩
          clear hao hae
          go_upto_region 6 with (first | (refine load1 hS rfl rfl rfl rfl ?_; simp only [putW]) | (refine loadAll hS rfl rfl rfl ?_ ?_; rfl; simp only [putW]) | (refine loadPart hS rfl rfl rfl ?_ rfl ?_; rfl; simp only [putW]) | (refine store1 hS rfl rfl rfl rfl rfl ?_ ?_; (focus (simp; done)); clear hS; intro w hS; simp only [evW, putW] at hS; try simp only [putW]) | (refine storeAll hS rfl rfl rfl rfl ?_ ?_ ?_ ?_; rfl; (focus (simp [Value.oneCell']; done)); rfl; clear hS; intro w hS; try simp only [putW]) | (refine storeN hS rfl rfl rfl rfl ?_ ?_ ?_ ?_; rfl; (focus (simp [Value.oneCell']; done)); (focus (simp; done)); clear hS; intro w hS; simp at hS; try simp only [putW]) | (refine alloc hS rfl rfl ?_; clear hS; intro mb w hS; simp only [putW]) | (refine box1 hS rfl rfl rfl rfl ?_; clear hS; intro mb w hS; try simp only [evW, putW] at hS; simp only [putW]) | (refine boxN hS rfl rfl rfl ?_; clear hS; intro mb w hS; simp only [putW]))
          (refine region_quiet hS (by kernel_rfl) (by kernel_rfl) (by kernel_rfl) ?_; clear hS; (repeat (first | (refine quiet_skip rfl ?_; simp only [putW]) | (refine quiet_y (yMove rfl rfl rfl) ?_; simp only [evW, putW]) | (refine quiet_y (yNil rfl rfl rfl) ?_; simp only [putW]) | (refine quiet_y (yLoad1 (fun _ h => h) rfl rfl rfl rfl) ?_; simp only [putW]) | (apply quiet_y; (focus (apply yRun rfl; intro w; first | (go_simp; done) | (go_simp; rfl))); simp only [putW]))); refine quiet_nil ?_; intro w hS)
          replace hS := hS.slNil 1 i64 3
          have hcap : oL ≤ c3 := (bslCapN (hS.readsSl (v := .slice q3 oL c3) (L := O) (n := 1) (f := i64) (t := 3) (gd := fun _ => True) fun _ _ => trivial)).2.1
          have HNX : Bx ([] ++ O.take a ++ [y] ++ O.drop a = sortI (A.take (oL + 1))) := ⟨by rw [List.nil_append]; exact rise2 HO.out HY.out HP.out fun z hz => by have := HP2.out z hz; omega⟩
          go_wp2_with (first | (refine sliceHiV (k := a) rfl rfl rfl rfl rfl (Nat.le_trans hale hcap) ?_; simp only [putW]) | (refine sliceLoV (k := a) rfl rfl rfl rfl rfl hale ?_; simp only [putW]) | (refine appendB (f := i64) hS rfl rfl (.slice none 0 0) rfl rfl (O.take a) (bslHiN (hS.readsSl (v := .slice q3 oL c3) (L := O) (n := 1) (f := i64) (t := 3) (gd := fun _ => True) fun _ _ => trivial) hale) ?_ ?_ ?_ ?_; (focus (simp [Sl.one, Value.oneCell']; done)); (focus (have := HOL.out; simp [maxLen]; omega)); (focus (have := HOL.out; simp; omega)); clear hS; intro v1 w hS; obtain ⟨q5, c5, hv5⟩ := shapeN (m := a) hS (by have := HOL.out; simp; omega); subst hv5; simp only [putW]) | (refine loadB (f := t7F) hS rfl rfl rfl hT 0 1 ?_ rfl rfl ?_; omega; simp only [putW]) | (refine loadB (f := fxF) hS rfl rfl rfl hBA oL 0 ?_ HU.out rfl ?_; omega; simp only [putW]) | (refine buildSlice1 (c := #[.int .i64 y]) hS rfl rfl rfl ?_ ?_ ?_ ?_; rfl; rfl; rfl; clear hS; intro mb w hS; simp only [putW]) | (refine append1 (f := i64) hS rfl rfl (.slice q5 a c5) rfl rfl y ?_ ?_ ?_ ?_ ?_ ?_; rfl; (focus (simp [Sl.one, Value.oneCell']; done)); rfl; (focus (have := HOL.out; simp [maxLen]; omega)); (focus (have := HOL.out; simp; omega)); clear hS; intro v2 w hS; obtain ⟨q6, c6, hv6⟩ := shapeN (m := a + 1) hS (by have := HOL.out; simp; omega); subst hv6; simp only [putW]) | (refine appendB (f := i64) hS rfl rfl (.slice q6 (a + 1) c6) rfl rfl (O.drop a) (bslLoN (hS.readsSl (v := .slice q3 oL c3) (L := O) (n := 1) (f := i64) (t := 3) (gd := fun _ => True) fun _ _ => trivial) hale) ?_ ?_ ?_ ?_; (focus (simp [Sl.one, Value.oneCell']; done)); (focus (have := HOL.out; simp [maxLen]; omega)); (focus (have := HOL.out; simp; omega)); clear hS; intro v3 w hS; simp only [putW]) | (refine load1 hS rfl rfl rfl rfl ?_; simp only [putW]) | (refine loadAll hS rfl rfl rfl ?_ ?_; rfl; simp only [putW]) | (refine loadPart hS rfl rfl rfl ?_ rfl ?_; rfl; simp only [putW]) | (refine store1 hS rfl rfl rfl rfl rfl ?_ ?_; (focus (simp; done)); clear hS; intro w hS; simp only [evW, putW] at hS; try simp only [putW]) | (refine storeAll hS rfl rfl rfl rfl ?_ ?_ ?_ ?_; rfl; (focus (simp [Value.oneCell']; done)); rfl; clear hS; intro w hS; try simp only [putW]) | (refine storeN hS rfl rfl rfl rfl ?_ ?_ ?_ ?_; rfl; (focus (simp [Value.oneCell']; done)); (focus (simp; done)); clear hS; intro w hS; simp at hS; try simp only [putW]) | (refine alloc hS rfl rfl ?_; clear hS; intro mb w hS; simp only [putW]) | (refine box1 hS rfl rfl rfl rfl ?_; clear hS; intro mb w hS; try simp only [evW, putW] at hS; simp only [putW]) | (refine boxN hS rfl rfl rfl ?_; clear hS; intro mb w hS; simp only [putW]))
          go_roundg g
          case measure => omega
          case rel => exact ⟨oL + 1, _, by omega, by go_num, HNX, hS.conv⟩
        | succ g2 =>
          have halt : a < oL := by omega
          have hale : a ≤ oL := by omega
          have dlt : decide ((a : Int) < (oL : Int)) = true := decide_eq_true (by omega)
          have dltn : decide (a < oL) = true := decide_eq_true (by omega)
          obtain ⟨z, hz⟩ : ∃ z, O[a]? = some z := ⟨_, List.getElem?_eq_getElem (by rw [HOL.out]; exact halt)⟩
          have HZ : Bx _ := ⟨hz⟩
          clear hz
          obtain ⟨gb, hq3, hc3, hS2⟩ := openS hS HOL.out (by omega)
          subst hq3
          clear hS
          have hS := hS2
          clear hS2
          by_cases hzy : z < y
          · have dzy : decide (z < y) = true := decide_eq_true hzy
            have HPn : Bx (∀ j z, j < a + 1 → O[j]? = some z → z ≤ y) := ⟨fun j z' hj hz' => by
              by_cases e : j = a
              · subst e
                rw [HZ.out] at hz'
                cases hz'
                exact Int.le_of_lt hzy
              · exact HP.out j z' (by omega) hz'⟩
            clear hzy HP
            go_upto_region 6 with (first | (refine load1 hS rfl rfl rfl rfl ?_; simp only [putW]) | (refine loadAll hS rfl rfl rfl ?_ ?_; rfl; simp only [putW]) | (refine loadPart hS rfl rfl rfl ?_ rfl ?_; rfl; simp only [putW]) | (refine store1 hS rfl rfl rfl rfl rfl ?_ ?_; (focus (simp; done)); clear hS; intro w hS; simp only [evW, putW] at hS; try simp only [putW]) | (refine storeAll hS rfl rfl rfl rfl ?_ ?_ ?_ ?_; rfl; (focus (simp [Value.oneCell']; done)); rfl; clear hS; intro w hS; try simp only [putW]) | (refine storeN hS rfl rfl rfl rfl ?_ ?_ ?_ ?_; rfl; (focus (simp [Value.oneCell']; done)); (focus (simp; done)); clear hS; intro w hS; simp at hS; try simp only [putW]) | (refine alloc hS rfl rfl ?_; clear hS; intro mb w hS; simp only [putW]) | (refine box1 hS rfl rfl rfl rfl ?_; clear hS; intro mb w hS; try simp only [evW, putW] at hS; simp only [putW]) | (refine boxN hS rfl rfl rfl ?_; clear hS; intro mb w hS; simp only [putW]))
            (refine region_quiet hS (by kernel_rfl) (by kernel_rfl) (by kernel_rfl) ?_; clear hS; (repeat (first | (refine quiet_skip rfl ?_; simp only [putW]) | (refine quiet_y (yLoadS (f := i64) (fun _ h => h) rfl rfl rfl a 0 (by omega) HZ.out rfl (by decide)) ?_; simp only [putW]) | (refine quiet_y (yLoadB (fun w h => hT.mono h.base fun _ _ h => h) rfl rfl rfl 0 1 (by omega) rfl rfl) ?_; simp only [putW]) | (refine quiet_y (yLoadB (f := fxF) (fun w h => hBA.mono h.base fun _ _ h => h) rfl rfl rfl oL 0 (by omega) HU.out rfl) ?_; simp only [putW]) | (refine quiet_y (yMove rfl rfl rfl) ?_; simp only [evW, putW]) | (refine quiet_y (yNil rfl rfl rfl) ?_; simp only [putW]) | (refine quiet_y (yLoad1 (fun _ h => h) rfl rfl rfl rfl) ?_; simp only [putW]) | (apply quiet_y; (focus (apply yRun rfl; intro w; first | (go_simp; done) | (go_simp; rfl))); simp only [putW]))); refine quiet_nil ?_; intro w hS)
            go_wp2_with (first | (refine load1 hS rfl rfl rfl rfl ?_; simp only [putW]) | (refine loadAll hS rfl rfl rfl ?_ ?_; rfl; simp only [putW]) | (refine loadPart hS rfl rfl rfl ?_ rfl ?_; rfl; simp only [putW]) | (refine store1 hS rfl rfl rfl rfl rfl ?_ ?_; (focus (simp; done)); clear hS; intro w hS; simp only [evW, putW] at hS; try simp only [putW]) | (refine storeAll hS rfl rfl rfl rfl ?_ ?_ ?_ ?_; rfl; (focus (simp [Value.oneCell']; done)); rfl; clear hS; intro w hS; try simp only [putW]) | (refine storeN hS rfl rfl rfl rfl ?_ ?_ ?_ ?_; rfl; (focus (simp [Value.oneCell']; done)); (focus (simp; done)); clear hS; intro w hS; simp at hS; try simp only [putW]) | (refine alloc hS rfl rfl ?_; clear hS; intro mb w hS; simp only [putW]) | (refine box1 hS rfl rfl rfl rfl ?_; clear hS; intro mb w hS; try simp only [evW, putW] at hS; simp only [putW]) | (refine boxN hS rfl rfl rfl ?_; clear hS; intro mb w hS; simp only [putW]))
            go_roundg g2
            case measure => omega
            case rel => exact ⟨a + 1, by omega, by go_num, HPn, by have h := hS.slOfSlc; rw [HOL.out] at h; exact h⟩
          · have dzy : decide (z < y) = false := decide_eq_false hzy
            have HP2 : Bx (∀ z, O[a]? = some z → ¬ z < y) := ⟨fun z' hz' => by
              rw [HZ.out] at hz'
              cases hz'
              exact hzy⟩
            clear hzy hao
            go_upto_region 6 with (first | (refine load1 hS rfl rfl rfl rfl ?_; simp only [putW]) | (refine loadAll hS rfl rfl rfl ?_ ?_; rfl; simp only [putW]) | (refine loadPart hS rfl rfl rfl ?_ rfl ?_; rfl; simp only [putW]) | (refine store1 hS rfl rfl rfl rfl rfl ?_ ?_; (focus (simp; done)); clear hS; intro w hS; simp only [evW, putW] at hS; try simp only [putW]) | (refine storeAll hS rfl rfl rfl rfl ?_ ?_ ?_ ?_; rfl; (focus (simp [Value.oneCell']; done)); rfl; clear hS; intro w hS; try simp only [putW]) | (refine storeN hS rfl rfl rfl rfl ?_ ?_ ?_ ?_; rfl; (focus (simp [Value.oneCell']; done)); (focus (simp; done)); clear hS; intro w hS; simp at hS; try simp only [putW]) | (refine alloc hS rfl rfl ?_; clear hS; intro mb w hS; simp only [putW]) | (refine box1 hS rfl rfl rfl rfl ?_; clear hS; intro mb w hS; try simp only [evW, putW] at hS; simp only [putW]) | (refine boxN hS rfl rfl rfl ?_; clear hS; intro mb w hS; simp only [putW]))
            (refine region_quiet hS (by kernel_rfl) (by kernel_rfl) (by kernel_rfl) ?_; clear hS; (repeat (first | (refine quiet_skip rfl ?_; simp only [putW]) | (refine quiet_y (yLoadS (f := i64) (fun _ h => h) rfl rfl rfl a 0 (by omega) HZ.out rfl (by decide)) ?_; simp only [putW]) | (refine quiet_y (yLoadB (fun w h => hT.mono h.base fun _ _ h => h) rfl rfl rfl 0 1 (by omega) rfl rfl) ?_; simp only [putW]) | (refine quiet_y (yLoadB (f := fxF) (fun w h => hBA.mono h.base fun _ _ h => h) rfl rfl rfl oL 0 (by omega) HU.out rfl) ?_; simp only [putW]) | (refine quiet_y (yMove rfl rfl rfl) ?_; simp only [evW, putW]) | (refine quiet_y (yNil rfl rfl rfl) ?_; simp only [putW]) | (refine quiet_y (yLoad1 (fun _ h => h) rfl rfl rfl rfl) ?_; simp only [putW]) | (apply quiet_y; (focus (apply yRun rfl; intro w; first | (go_simp; done) | (go_simp; rfl))); simp only [putW]))); refine quiet_nil ?_; intro w hS)
            have hS3 := hS.slOfSlc
            rw [HOL.out] at hS3
            clear hS
            have hS := hS3
            clear hS3
            replace hS := hS.slNil 1 i64 3
            have hcap : oL ≤ c3 := (bslCapN (hS.readsSl (v := .slice (some ⟨gb, 0, none⟩) oL c3) (L := O) (n := 1) (f := i64) (t := 3) (gd := fun _ => True) fun _ _ => trivial)).2.1
            have HNX : Bx ([] ++ O.take a ++ [y] ++ O.drop a = sortI (A.take (oL + 1))) := ⟨by rw [List.nil_append]; exact rise2 HO.out HY.out HP.out fun z hz => by have := HP2.out z hz; omega⟩
            go_wp2_with (first | (refine sliceHiV (k := a) rfl rfl rfl rfl rfl (Nat.le_trans hale hcap) ?_; simp only [putW]) | (refine sliceLoV (k := a) rfl rfl rfl rfl rfl hale ?_; simp only [putW]) | (refine appendB (f := i64) hS rfl rfl (.slice none 0 0) rfl rfl (O.take a) (bslHiN (hS.readsSl (v := .slice (some ⟨gb, 0, none⟩) oL c3) (L := O) (n := 1) (f := i64) (t := 3) (gd := fun _ => True) fun _ _ => trivial) hale) ?_ ?_ ?_ ?_; (focus (simp [Sl.one, Value.oneCell']; done)); (focus (have := HOL.out; simp [maxLen]; omega)); (focus (have := HOL.out; simp; omega)); clear hS; intro v1 w hS; obtain ⟨q5, c5, hv5⟩ := shapeN (m := a) hS (by have := HOL.out; simp; omega); subst hv5; simp only [putW]) | (refine loadB (f := t7F) hS rfl rfl rfl hT 0 1 ?_ rfl rfl ?_; omega; simp only [putW]) | (refine loadB (f := fxF) hS rfl rfl rfl hBA oL 0 ?_ HU.out rfl ?_; omega; simp only [putW]) | (refine buildSlice1 (c := #[.int .i64 y]) hS rfl rfl rfl ?_ ?_ ?_ ?_; rfl; rfl; rfl; clear hS; intro mb w hS; simp only [putW]) | (refine append1 (f := i64) hS rfl rfl (.slice q5 a c5) rfl rfl y ?_ ?_ ?_ ?_ ?_ ?_; rfl; (focus (simp [Sl.one, Value.oneCell']; done)); rfl; (focus (have := HOL.out; simp [maxLen]; omega)); (focus (have := HOL.out; simp; omega)); clear hS; intro v2 w hS; obtain ⟨q6, c6, hv6⟩ := shapeN (m := a + 1) hS (by have := HOL.out; simp; omega); subst hv6; simp only [putW]) | (refine appendB (f := i64) hS rfl rfl (.slice q6 (a + 1) c6) rfl rfl (O.drop a) (bslLoN (hS.readsSl (v := .slice (some ⟨gb, 0, none⟩) oL c3) (L := O) (n := 1) (f := i64) (t := 3) (gd := fun _ => True) fun _ _ => trivial) hale) ?_ ?_ ?_ ?_; (focus (simp [Sl.one, Value.oneCell']; done)); (focus (have := HOL.out; simp [maxLen]; omega)); (focus (have := HOL.out; simp; omega)); clear hS; intro v3 w hS; simp only [putW]) | (refine load1 hS rfl rfl rfl rfl ?_; simp only [putW]) | (refine loadAll hS rfl rfl rfl ?_ ?_; rfl; simp only [putW]) | (refine loadPart hS rfl rfl rfl ?_ rfl ?_; rfl; simp only [putW]) | (refine store1 hS rfl rfl rfl rfl rfl ?_ ?_; (focus (simp; done)); clear hS; intro w hS; simp only [evW, putW] at hS; try simp only [putW]) | (refine storeAll hS rfl rfl rfl rfl ?_ ?_ ?_ ?_; rfl; (focus (simp [Value.oneCell']; done)); rfl; clear hS; intro w hS; try simp only [putW]) | (refine storeN hS rfl rfl rfl rfl ?_ ?_ ?_ ?_; rfl; (focus (simp [Value.oneCell']; done)); (focus (simp; done)); clear hS; intro w hS; simp at hS; try simp only [putW]) | (refine alloc hS rfl rfl ?_; clear hS; intro mb w hS; simp only [putW]) | (refine box1 hS rfl rfl rfl rfl ?_; clear hS; intro mb w hS; try simp only [evW, putW] at hS; simp only [putW]) | (refine boxN hS rfl rfl rfl ?_; clear hS; intro mb w hS; simp only [putW]))
            go_roundg g
            case measure => omega
            case rel => exact ⟨oL + 1, _, by omega, by go_num, HNX, hS.conv⟩
end
end Go.Proofs.Ytlkoclalcfeniaa
namespace Go.Proofs.Ytlkoclalcfeniaa
open Go.RowKit Go.Shelf Go.Proofs.Ytlkoclalcfeniaa.Sl Go.Proofs.Ytlkoclalcfeniaa.Jp

abbrev rowsOf (L : List Fx) : List (Value × List Int) := L.map fun e => (e.2.1, e.2.2.1)
def x13L (X : X13) (vL vP vS vH : Value) (x : Nat) : List Chunk := [(x, cells (xC (.int .i64 X.most) vL vP vS X.now vH) 97), (blk vL, sl 3 fxF X.l 90 vL), (9, inn (rowsOf X.l) 5), (blk vP, sl 2 tw2F X.pins 99 vP), (blk vS, sl 2 tw2F X.shares 99 vS), (blk vH, sl 3 sp3F X.heat 115 vH)]
/-- The document's table. -/
def X13C (X : X13) : K := fun x h => ∃ vL vP vS vH, holds (x13L X vL vP vS vH x) h
section
variable {w0 w : World} {K F S : List Chunk} {x : Nat} {X : X13} {vL vP vS vH v : Value} {task key n : Int}
theorem x13Open (h : Sat w0 ((x, X13C X) :: F) w) : ∃ vL vP vS vH, Sat w0 ((x, cells (xC (.int .i64 X.most) vL vP vS X.now vH) 97) :: (blk vL, sl 3 fxF X.l 90 vL) :: (9, inn (rowsOf X.l) 5) :: (blk vP, sl 2 tw2F X.pins 99 vP) :: (blk vS, sl 2 tw2F X.shares 99 vS) :: (blk vH, sl 3 sp3F X.heat 115 vH) :: F) w := by
  obtain ⟨vL, h⟩ := h.ex (Z := fun vL x h => ∃ vP vS vH, holds (x13L X vL vP vS vH x) h) fun _ h => h
  obtain ⟨vP, h⟩ := h.ex (Z := fun vP x h => ∃ vS vH, holds (x13L X vL vP vS vH x) h) fun _ h => h
  obtain ⟨vS, h⟩ := h.ex (Z := fun vS x h => ∃ vH, holds (x13L X vL vP vS vH x) h) fun _ h => h
  obtain ⟨vH, h⟩ := h.ex (Z := fun vH x h => holds (x13L X vL vP vS vH x) h) fun _ h => h
  exact ⟨vL, vP, vS, vH, h.open (T := x13L X vL vP vS vH x) fun _ h => h⟩
theorem x13Shut (h : Sat w0 ((x, cells (xC (.int .i64 X.most) vL vP vS X.now vH) 97) :: (blk vL, sl 3 fxF X.l 90 vL) :: (9, inn (rowsOf X.l) 5) :: (blk vP, sl 2 tw2F X.pins 99 vP) :: (blk vS, sl 2 tw2F X.shares 99 vS) :: (blk vH, sl 3 sp3F X.heat 115 vH) :: F) w) : Sat w0 ((x, X13C X) :: F) w :=
  Sat.close (T := x13L X vL vP vS vH x) (F := F) h fun _ h => ⟨vL, vP, vS, vH, h⟩
theorem readsT7 {most : Int} {now : Nat} (h : Sat w0 S w) [p : Pull S x (cells (xC (.int .i64 most) vL vP vS now vH) 97) F] : BAt w 7 t7F (fun _ => True) [t7 most vL vP vS now vH] x 0 := by
  have hg := h.cellsAt (b := x) (c := xC (.int .i64 most) vL vP vS now vH) (t := 97)
  refine ⟨(Array.getElem?_eq_some_iff.1 hg.2).1, fun i y hy => ?_⟩
  have hi : i = 0 := by
    have := (List.getElem?_eq_some_iff.1 hy).1
    simp at this
    exact this
  subst hi
  have hy2 : t7 most vL vP vS now vH = y := by simpa using hy
  subst hy2
  refine ⟨trivial, rfl, fun j u hu => ?_⟩
  rw [h.cell (b := x) (c := xC (.int .i64 most) vL vP vS now vH) (t := 97), ← Array.getElem?_toList]
  simpa [t7F] using hu
theorem readsX3 (h : Sat w0 ((x, cells (xC (.int .i64 X.most) vL vP vS X.now vH) 97) :: (blk vL, sl 3 fxF X.l 90 vL) :: (9, inn (rowsOf X.l) 5) :: (blk vP, sl 2 tw2F X.pins 99 vP) :: (blk vS, sl 2 tw2F X.shares 99 vS) :: (blk vH, sl 3 sp3F X.heat 115 vH) :: F) w) : XAt3 w X x vL vP vS vH :=
  ⟨readsT7 h, (h.conv (S' := (blk vL, sl 3 fxF X.l 90 vL) :: [])).readsSl fun _ _ => trivial, (h.tail.tail.tail.conv (S' := (blk vP, sl 2 tw2F X.pins 99 vP) :: [])).readsSl fun _ _ => trivial, (h.tail.tail.tail.tail.conv (S' := (blk vS, sl 2 tw2F X.shares 99 vS) :: [])).readsSl fun _ _ => trivial, (h.tail.tail.tail.tail.tail.conv (S' := (blk vH, sl 3 sp3F X.heat 115 vH) :: [])).readsSl fun _ _ => trivial⟩
theorem below_frame {S : List Chunk} {w w2 : World} (h : Sat w0 S w) (hb : Below w.heap.size w w2) : Sat w0 S w2 := by
  have h2 : Sat w [] w2 := ⟨hb, trivial⟩
  exact h.frame h2
theorem refAt_any (hS : Sat w0 ((x, X13C X) :: K) w) : Calls Try.prog 40 #[.pointer (some ⟨x, 0, none⟩), .int .i64 key] w fun e w' => e = .returned (.int .i64 (atX X.l key 0)) ∧ Sat w0 ((x, X13C X) :: K) w' := by
  obtain ⟨vL, vP, vS, vH, h⟩ := x13Open hS
  refine (refAt0 (readsX3 h)).mono ?_
  rintro e w' ⟨rfl, h2⟩
  exact ⟨rfl, hS.frame h2⟩
theorem refPinned_any (hS : Sat w0 ((x, X13C X) :: K) w) : Calls Try.prog 52 #[.pointer (some ⟨x, 0, none⟩), .int .i64 key] w fun e w' => e = .returned (.bool (pinX X.pins key)) ∧ Sat w0 ((x, X13C X) :: K) w' := by
  obtain ⟨vL, vP, vS, vH, h⟩ := x13Open hS
  refine (refPinned0 (readsX3 h)).mono ?_
  rintro e w' ⟨rfl, h2⟩
  exact ⟨rfl, hS.frame h2⟩
theorem refLeft_any (hp : ∀ p ∈ X.shares, 0 ≤ p.2) (hs : sumS X.shares ≤ X.most) (hm : X.most ≤ 1024) (hS : Sat w0 ((x, X13C X) :: K) w) : Calls Try.prog 49 #[.pointer (some ⟨x, 0, none⟩)] w fun e w' => e = .returned (.int .i64 (X.most - sumS X.shares)) ∧ Sat w0 ((x, X13C X) :: K) w' := by
  obtain ⟨vL, vP, vS, vH, h⟩ := x13Open hS
  refine (refLeft0 (readsX3 h) hp hs hm).mono ?_
  rintro e w' ⟨rfl, h2⟩
  exact ⟨rfl, hS.frame h2⟩
theorem refVictim_any (hsp : SpN X.now X.heat) (hn : X.now ≤ 30000) (hlen : X.l.length ≤ 1000) (hS : Sat w0 ((x, X13C X) :: K) w) : Calls Try.prog 48 #[.pointer (some ⟨x, 0, none⟩)] w fun e w' => e = .returned (.tuple #[.int .i64 (vicX X).1, .int .i64 (vicX X).2]) ∧ Sat w0 ((x, X13C X) :: K) w' := by
  obtain ⟨vL, vP, vS, vH, h⟩ := x13Open hS
  refine (refVictim0 (readsX3 h) hsp hn hlen).mono ?_
  rintro e w' ⟨rfl, h2⟩
  exact ⟨rfl, below_frame hS h2⟩
theorem refKeys_any (hlen : X.l.length ≤ 1000) (hS : Sat w0 ((x, X13C X) :: K) w) : Calls Try.prog 51 #[.pointer (some ⟨x, 0, none⟩)] w fun e w' => ∃ v', e = .returned v' ∧ Sat w0 ((blk v', sl 1 i64 (sortI (keysX X.l)) 3 v') :: (x, X13C X) :: K) w' := by
  obtain ⟨vL, vP, vS, vH, h⟩ := x13Open hS
  refine (refKeys0 (readsX3 h) hlen).mono ?_
  rintro e w' ⟨v', rfl, h2⟩
  exact ⟨v', rfl, hS.frame h2⟩
theorem cellP (most : Value) (vL vP vS : Value) (now : Nat) (vH v : Value) : (xC most vL vP vS now vH).setIfInBounds 2 v = xC most vL v vS now vH := rfl
theorem cellS (most : Value) (vL vP vS : Value) (now : Nat) (vH v : Value) : (xC most vL vP vS now vH).setIfInBounds 3 v = xC most vL vP v now vH := rfl
theorem cellL (most : Value) (vL vP vS : Value) (now : Nat) (vH v : Value) : (xC most vL vP vS now vH).setIfInBounds 1 v = xC most v vP vS now vH := rfl
set_option maxRecDepth 100000 in
set_option maxHeartbeats 4000000 in
theorem refFree13 (h1 : X.shares.length ≤ 1000) (h2 : X.pins.length ≤ 1000) (hS : Sat w0 ((x, X13C X) :: K) w) : Calls Try.prog 42 #[.pointer (some ⟨x, 0, none⟩), .int .i64 task] w fun e w' => e = .returned (.tuple #[]) ∧ Sat w0 ((x, X13C ⟨X.most, X.l, woT X.pins task, woT X.shares task, X.now, X.heat⟩) :: K) w' := by
  obtain ⟨vL, vP, vS, vH, h⟩ := x13Open hS
  clear hS
  have hS := h
  clear h
  have H1 : Bx (X.shares.length ≤ 1000 ∧ X.pins.length ≤ 1000) := ⟨h1, h2⟩
  clear h1 h2
  go_enter Try.func42, Try.ntmps42
  go_wp2_with (first | (guard_target =~ Calls _ 59 _ _ _; refine Stopped.out ?_) | (refine load1 hS rfl rfl rfl rfl ?_; simp only [putW]) | (refine loadAll hS rfl rfl rfl ?_ ?_; rfl; simp only [putW]) | (refine loadPart hS rfl rfl rfl ?_ rfl ?_; rfl; simp only [putW]) | (refine store1 hS rfl rfl rfl rfl rfl ?_ ?_; (focus (simp; done)); clear hS; intro w hS; simp only [evW, putW] at hS; try simp only [putW]) | (refine storeAll hS rfl rfl rfl rfl ?_ ?_ ?_ ?_; rfl; (focus (simp [Value.oneCell']; done)); rfl; clear hS; intro w hS; try simp only [putW]) | (refine storeN hS rfl rfl rfl rfl ?_ ?_ ?_ ?_; rfl; (focus (simp [Value.oneCell']; done)); (focus (simp; done)); clear hS; intro w hS; simp at hS; try simp only [putW]) | (refine alloc hS rfl rfl ?_; clear hS; intro mb w hS; simp only [putW]) | (refine box1 hS rfl rfl rfl rfl ?_; clear hS; intro mb w hS; try simp only [evW, putW] at hS; simp only [putW]) | (refine boxN hS rfl rfl rfl ?_; clear hS; intro mb w hS; simp only [putW]))
  refine ⟨?_⟩
  refine Calls.mono (refWithoutT (task := task) H1.out.1 (readsX3 hS).s) ?_
  rintro _ w2 ⟨v1, rfl, h2⟩
  replace hS := hS.frame h2
  clear h2
  simp only [List.cons_append, List.nil_append] at hS
  obtain ⟨n1, hn1⟩ : ∃ n, (woT X.shares task).length = n := ⟨_, rfl⟩
  obtain ⟨q1, c1, hs1⟩ := shapeN hS hn1
  subst hs1
  clear hn1
  simp only [putW]
  go_wp2_with (first | (refine store1 (v := .slice q1 n1 c1) (b := x) (c := xC (.int .i64 X.most) vL vP vS X.now vH) hS rfl rfl rfl rfl rfl (by simp) ?_; clear hS; intro w hS; rw [cellS] at hS; simp only [putW]) | (guard_target =~ Calls _ 59 _ _ _; refine Stopped.out ?_) | (refine load1 hS rfl rfl rfl rfl ?_; simp only [putW]) | (refine loadAll hS rfl rfl rfl ?_ ?_; rfl; simp only [putW]) | (refine loadPart hS rfl rfl rfl ?_ rfl ?_; rfl; simp only [putW]) | (refine store1 hS rfl rfl rfl rfl rfl ?_ ?_; (focus (simp; done)); clear hS; intro w hS; simp only [evW, putW] at hS; try simp only [putW]) | (refine storeAll hS rfl rfl rfl rfl ?_ ?_ ?_ ?_; rfl; (focus (simp [Value.oneCell']; done)); rfl; clear hS; intro w hS; try simp only [putW]) | (refine storeN hS rfl rfl rfl rfl ?_ ?_ ?_ ?_; rfl; (focus (simp [Value.oneCell']; done)); (focus (simp; done)); clear hS; intro w hS; simp at hS; try simp only [putW]) | (refine alloc hS rfl rfl ?_; clear hS; intro mb w hS; simp only [putW]) | (refine box1 hS rfl rfl rfl rfl ?_; clear hS; intro mb w hS; try simp only [evW, putW] at hS; simp only [putW]) | (refine boxN hS rfl rfl rfl ?_; clear hS; intro mb w hS; simp only [putW]))
  refine ⟨?_⟩
  have hrq : BSl _ 2 tw2F (fun _ => True) X.pins vP := (hS.conv (S' := (blk vP, sl 2 tw2F X.pins 99 vP) :: [])).readsSl fun _ _ => trivial
  refine Calls.mono (refWithoutT (task := task) H1.out.2 hrq) ?_
  clear hrq
  rintro _ w2 ⟨v2, rfl, h2⟩
  replace hS := hS.frame h2
  clear h2
  simp only [List.cons_append, List.nil_append] at hS
  obtain ⟨n2, hn2⟩ : ∃ n, (woT X.pins task).length = n := ⟨_, rfl⟩
  obtain ⟨q2, c2, hs2⟩ := shapeN hS hn2
  subst hs2
  clear hn2
  simp only [putW]
  go_wp2_with (first | (refine store1 (v := .slice q2 n2 c2) (b := x) (c := xC (.int .i64 X.most) vL vP (.slice q1 n1 c1) X.now vH) hS rfl rfl rfl rfl rfl (by simp) ?_; clear hS; intro w hS; rw [cellP] at hS; simp only [putW]) | (refine load1 hS rfl rfl rfl rfl ?_; simp only [putW]) | (refine loadAll hS rfl rfl rfl ?_ ?_; rfl; simp only [putW]) | (refine loadPart hS rfl rfl rfl ?_ rfl ?_; rfl; simp only [putW]) | (refine store1 hS rfl rfl rfl rfl rfl ?_ ?_; (focus (simp; done)); clear hS; intro w hS; simp only [evW, putW] at hS; try simp only [putW]) | (refine storeAll hS rfl rfl rfl rfl ?_ ?_ ?_ ?_; rfl; (focus (simp [Value.oneCell']; done)); rfl; clear hS; intro w hS; try simp only [putW]) | (refine storeN hS rfl rfl rfl rfl ?_ ?_ ?_ ?_; rfl; (focus (simp [Value.oneCell']; done)); (focus (simp; done)); clear hS; intro w hS; simp at hS; try simp only [putW]) | (refine alloc hS rfl rfl ?_; clear hS; intro mb w hS; simp only [putW]) | (refine box1 hS rfl rfl rfl rfl ?_; clear hS; intro mb w hS; try simp only [evW, putW] at hS; simp only [putW]) | (refine boxN hS rfl rfl rfl ?_; clear hS; intro mb w hS; simp only [putW]))
  go_end0
  refine ⟨rfl, x13Shut (X := ⟨X.most, X.l, woT X.pins task, woT X.shares task, X.now, X.heat⟩) (vL := vL) (vP := .slice q2 n2 c2) (vS := .slice q1 n1 c1) (vH := vH) ?_⟩
  exact hS.conv (S' := (x, cells (xC (.int .i64 X.most) vL (.slice q2 n2 c2) (.slice q1 n1 c1) X.now vH) 97) :: (blk vL, sl 3 fxF X.l 90 vL) :: (9, inn (rowsOf X.l) 5) :: (blk (.slice q2 n2 c2), sl 2 tw2F (woT X.pins task) 99 (.slice q2 n2 c2)) :: (blk (.slice q1 n1 c1), sl 2 tw2F (woT X.shares task) 99 (.slice q1 n1 c1)) :: (blk vH, sl 3 sp3F X.heat 115 vH) :: K)
end
end Go.Proofs.Ytlkoclalcfeniaa
namespace Go.Proofs.Ytlkoclalcfeniaa
open Go.RowKit Go.Shelf Go.Proofs.Ytlkoclalcfeniaa.Sl Go.Proofs.Ytlkoclalcfeniaa.Jp

/-- What Reserve answers. -/
def resX (X : X13) (task n : Int) : Int := if n < 1 then 1 else if (X.shares.any fun p => p.1 == task) = true then 6 else if X.most - sumS X.shares < n then 12 else 0
def resT (X : X13) (task n : Int) : X13 := if resX X task n = 0 then ⟨X.most, X.l, X.pins, X.shares ++ [(task, n)], X.now, X.heat⟩ else X
section
variable {w0 w : World} {K F S : List Chunk} {x : Nat} {X : X13} {vL vP vS vH v : Value} {task key n : Int}
set_option maxRecDepth 100000 in
set_option maxHeartbeats 1000000 in
theorem refNew13 (h1 : 1 ≤ n) (h2 : n ≤ 1024) : Calls Try.prog 39 #[.int .i64 n] w0 fun e w' => ∃ x, e = .returned (.pointer (some ⟨x, 0, none⟩)) ∧ Sat w0 [(x, X13C ⟨n, [], [], [], 0, []⟩)] w' := by
  have hS := Sat.refl w0
  have d1 : decide (n < 1) = false := decide_eq_false (by omega)
  have d2 : decide (1024 < n) = false := decide_eq_false (by omega)
  go_enter Try.func39, Try.ntmps39
  go_wp2_with (first | (refine boxN (cs := #[.int .i64 n, .slice none 0 0, .slice none 0 0, .slice none 0 0, .int .i64 16, .int .i64 0, .slice none 0 0]) hS rfl rfl rfl ?_; clear hS; intro x w hS; simp only [putW]) | (refine load1 hS rfl rfl rfl rfl ?_; simp only [putW]) | (refine loadAll hS rfl rfl rfl ?_ ?_; rfl; simp only [putW]) | (refine loadPart hS rfl rfl rfl ?_ rfl ?_; rfl; simp only [putW]) | (refine store1 hS rfl rfl rfl rfl rfl ?_ ?_; (focus (simp; done)); clear hS; intro w hS; simp only [evW, putW] at hS; try simp only [putW]) | (refine storeAll hS rfl rfl rfl rfl ?_ ?_ ?_ ?_; rfl; (focus (simp [Value.oneCell']; done)); rfl; clear hS; intro w hS; try simp only [putW]) | (refine storeN hS rfl rfl rfl rfl ?_ ?_ ?_ ?_; rfl; (focus (simp [Value.oneCell']; done)); (focus (simp; done)); clear hS; intro w hS; simp at hS; try simp only [putW]) | (refine alloc hS rfl rfl ?_; clear hS; intro mb w hS; simp only [putW]) | (refine box1 hS rfl rfl rfl rfl ?_; clear hS; intro mb w hS; try simp only [evW, putW] at hS; simp only [putW]) | (refine boxN hS rfl rfl rfl ?_; clear hS; intro mb w hS; simp only [putW]))
  go_ret
  refine ⟨x, rfl, x13Shut (X := ⟨n, [], [], [], 0, []⟩) (vL := .slice none 0 0) (vP := .slice none 0 0) (vS := .slice none 0 0) (vH := .slice none 0 0) ?_⟩
  have a1 := hS.slNil 3 sp3F 115
  have a2 := a1.slNil 2 tw2F 99
  have a3 := a2.slNil 2 tw2F 99
  have a4 := a3.innNil 9 5
  have a5 := a4.slNil 3 fxF 90
  exact a5.perm (by
    refine List.Perm.trans ?_ (List.perm_middle (l₁ := [(0, sl 3 fxF [] 90 (.slice none 0 0)), (9, inn [] 5), (0, sl 2 tw2F [] 99 (.slice none 0 0)), (0, sl 2 tw2F [] 99 (.slice none 0 0)), (0, sl 3 sp3F [] 115 (.slice none 0 0))]) (l₂ := []))
    exact List.Perm.refl _)
set_option maxRecDepth 100000 in
set_option maxHeartbeats 4000000 in
theorem refReserve13 (hp : ∀ p ∈ X.shares, 0 ≤ p.2) (hs : sumS X.shares ≤ X.most) (hm : X.most ≤ 1024) (hlen : X.shares.length ≤ 900) (hS : Sat w0 ((x, X13C X) :: K) w) : Calls Try.prog 41 #[.pointer (some ⟨x, 0, none⟩), .int .i64 task, .int .i64 n] w fun e w' => e = .returned (.int .i64 (resX X task n)) ∧ Sat w0 ((x, X13C (resT X task n)) :: K) w' := by
  by_cases hn1 : n < 1
  · have HR : Bx (resX X task n = 1 ∧ resT X task n = X) := ⟨by unfold resT resX; rw [if_pos hn1]; exact ⟨rfl, if_neg (by omega)⟩⟩
    have d1 : decide (n < 1) = true := decide_eq_true hn1
    rw [HR.out.1, HR.out.2]
    clear hn1 hp hs hm hlen
    go_enter Try.func41, Try.ntmps41
    go_wp2_with (first | (refine load1 hS rfl rfl rfl rfl ?_; simp only [putW]) | (refine loadAll hS rfl rfl rfl ?_ ?_; rfl; simp only [putW]) | (refine loadPart hS rfl rfl rfl ?_ rfl ?_; rfl; simp only [putW]) | (refine store1 hS rfl rfl rfl rfl rfl ?_ ?_; (focus (simp; done)); clear hS; intro w hS; simp only [evW, putW] at hS; try simp only [putW]) | (refine storeAll hS rfl rfl rfl rfl ?_ ?_ ?_ ?_; rfl; (focus (simp [Value.oneCell']; done)); rfl; clear hS; intro w hS; try simp only [putW]) | (refine storeN hS rfl rfl rfl rfl ?_ ?_ ?_ ?_; rfl; (focus (simp [Value.oneCell']; done)); (focus (simp; done)); clear hS; intro w hS; simp at hS; try simp only [putW]) | (refine alloc hS rfl rfl ?_; clear hS; intro mb w hS; simp only [putW]) | (refine box1 hS rfl rfl rfl rfl ?_; clear hS; intro mb w hS; try simp only [evW, putW] at hS; simp only [putW]) | (refine boxN hS rfl rfl rfl ?_; clear hS; intro mb w hS; simp only [putW]))
    go_ret
    exact ⟨rfl, hS⟩
  · have d1 : decide (n < 1) = false := decide_eq_false hn1
    obtain ⟨R, hR⟩ : ∃ R, resX X task n = R := ⟨_, rfl⟩
    have HR : Bx (R = if (X.shares.any fun p => p.1 == task) = true then 6 else if X.most - sumS X.shares < n then 12 else 0) := ⟨by rw [← hR]; unfold resX; rw [if_neg hn1]⟩
    have HRT : Bx (resT X task n = if R = 0 then ⟨X.most, X.l, X.pins, X.shares ++ [(task, n)], X.now, X.heat⟩ else X) := ⟨by unfold resT; rw [hR]⟩
    rw [hR]
    have HP : Bx ((∀ p ∈ X.shares, 0 ≤ p.2) ∧ sumS X.shares ≤ X.most ∧ X.most ≤ 1024) := ⟨hp, hs, hm⟩
    obtain ⟨vL, vP, vS, vH, h⟩ := x13Open hS
    clear hS
    have hS := h
    clear h
    have h4 := hS.conv (S' := (blk vS, sl 2 tw2F X.shares 99 vS) :: [])
    obtain ⟨m, hmm⟩ : ∃ m, X.shares.length = m := ⟨_, rfl⟩
    obtain ⟨qS, cS, hvS⟩ := shapeN h4 hmm
    subst hvS
    rw [hmm] at hlen
    have HM : Bx _ := ⟨hmm⟩
    obtain ⟨lf, hlf⟩ : ∃ lf, X.most - sumS X.shares = lf := ⟨_, rfl⟩
    have HLf : Bx _ := ⟨hlf⟩
    clear h4 hmm hR hp hs hm hlf hn1
    go_enter Try.func41, Try.ntmps41
    go_wp2_with (first | (refine load1 hS rfl rfl rfl rfl ?_; simp only [putW]) | (refine loadAll hS rfl rfl rfl ?_ ?_; rfl; simp only [putW]) | (refine loadPart hS rfl rfl rfl ?_ rfl ?_; rfl; simp only [putW]) | (refine store1 hS rfl rfl rfl rfl rfl ?_ ?_; (focus (simp; done)); clear hS; intro w hS; simp only [evW, putW] at hS; try simp only [putW]) | (refine storeAll hS rfl rfl rfl rfl ?_ ?_ ?_ ?_; rfl; (focus (simp [Value.oneCell']; done)); rfl; clear hS; intro w hS; try simp only [putW]) | (refine storeN hS rfl rfl rfl rfl ?_ ?_ ?_ ?_; rfl; (focus (simp [Value.oneCell']; done)); (focus (simp; done)); clear hS; intro w hS; simp at hS; try simp only [putW]) | (refine alloc hS rfl rfl ?_; clear hS; intro mb w hS; simp only [putW]) | (refine box1 hS rfl rfl rfl rfl ?_; clear hS; intro mb w hS; try simp only [evW, putW] at hS; simp only [putW]) | (refine boxN hS rfl rfl rfl ?_; clear hS; intro mb w hS; simp only [putW]))
    go_loopg [7] m (fun g i wr => ∃ k : Nat, k + g = m ∧ i = .int .i64 k ∧ Bx (∀ j p, j < k → X.shares[j]? = some p → p.1 ≠ task) ∧ Sat w0 ((x, cells (xC (.int .i64 X.most) vL vP (.slice qS m cS) X.now vH) 97) :: (blk vL, sl 3 fxF X.l 90 vL) :: (9, inn (rowsOf X.l) 5) :: (blk vP, sl 2 tw2F X.pins 99 vP) :: (blk (.slice qS m cS), sl 2 tw2F X.shares 99 (.slice qS m cS)) :: (blk vH, sl 3 sp3F X.heat 115 vH) :: K) wr)
    case atStart => exact ⟨0, by omega, rfl, ⟨fun j p hj => absurd hj (Nat.not_lt_zero _)⟩, hS⟩
    case round =>
      clear hS
      obtain ⟨k, hkm, rfl, HK, hS⟩ := hrel
      cases gk with
      | succ g =>
        have hlt : k < m := by omega
        have d2 : decide ((k : Int) < (m : Int)) = true := decide_eq_true (by omega)
        have d2n : decide (k < m) = true := decide_eq_true hlt
        obtain ⟨u, hu⟩ : ∃ y, X.shares[k]? = some y := ⟨_, List.getElem?_eq_getElem (by rw [HM.out]; exact hlt)⟩
        obtain ⟨tk, nn⟩ := u
        have HU : Bx _ := ⟨hu⟩
        clear hu
        have h4 := hS.conv (S' := (blk (.slice qS m cS), sl 2 tw2F X.shares 99 (.slice qS m cS)) :: (x, cells (xC (.int .i64 X.most) vL vP (.slice qS m cS) X.now vH) 97) :: (blk vL, sl 3 fxF X.l 90 vL) :: (9, inn (rowsOf X.l) 5) :: (blk vP, sl 2 tw2F X.pins 99 vP) :: (blk vH, sl 3 sp3F X.heat 115 vH) :: K)
        clear hS
        obtain ⟨gq, hqq, hcq, hS⟩ := openS h4 HM.out (by omega)
        subst hqq
        clear h4
        have HBack : ∀ {w' : World}, Sat w0 ((gq, slc 2 tw2F X.shares cS 99) :: (x, cells (xC (.int .i64 X.most) vL vP (.slice (some ⟨gq, 0, none⟩) m cS) X.now vH) 97) :: (blk vL, sl 3 fxF X.l 90 vL) :: (9, inn (rowsOf X.l) 5) :: (blk vP, sl 2 tw2F X.pins 99 vP) :: (blk vH, sl 3 sp3F X.heat 115 vH) :: K) w' → Sat w0 ((x, cells (xC (.int .i64 X.most) vL vP (.slice (some ⟨gq, 0, none⟩) m cS) X.now vH) 97) :: (blk vL, sl 3 fxF X.l 90 vL) :: (9, inn (rowsOf X.l) 5) :: (blk vP, sl 2 tw2F X.pins 99 vP) :: (blk (.slice (some ⟨gq, 0, none⟩) m cS), sl 2 tw2F X.shares 99 (.slice (some ⟨gq, 0, none⟩) m cS)) :: (blk vH, sl 3 sp3F X.heat 115 vH) :: K) w' := fun h => by
          have h1 := h.slOfSlc
          rw [HM.out] at h1
          exact h1.conv
        by_cases e1 : tk = task
        · have HAny : Bx ((X.shares.any fun p => p.1 == task) = true) := ⟨List.any_eq_true.2 ⟨(tk, nn), List.mem_of_getElem? HU.out, by simpa using e1⟩⟩
          have e0 : R = 6 := by rw [HR.out, if_pos HAny.out]
          subst e1
          subst e0
          clear HK
          go_wp2_with (first | (refine loadS (f := tw2F) hS rfl rfl rfl k 0 ?_ HU.out rfl ?_ ?_; omega; omega; simp only [putW]) | (refine load1 hS rfl rfl rfl rfl ?_; simp only [putW]) | (refine loadAll hS rfl rfl rfl ?_ ?_; rfl; simp only [putW]) | (refine loadPart hS rfl rfl rfl ?_ rfl ?_; rfl; simp only [putW]) | (refine store1 hS rfl rfl rfl rfl rfl ?_ ?_; (focus (simp; done)); clear hS; intro w hS; simp only [evW, putW] at hS; try simp only [putW]) | (refine storeAll hS rfl rfl rfl rfl ?_ ?_ ?_ ?_; rfl; (focus (simp [Value.oneCell']; done)); rfl; clear hS; intro w hS; try simp only [putW]) | (refine storeN hS rfl rfl rfl rfl ?_ ?_ ?_ ?_; rfl; (focus (simp [Value.oneCell']; done)); (focus (simp; done)); clear hS; intro w hS; simp at hS; try simp only [putW]) | (refine alloc hS rfl rfl ?_; clear hS; intro mb w hS; simp only [putW]) | (refine box1 hS rfl rfl rfl rfl ?_; clear hS; intro mb w hS; try simp only [evW, putW] at hS; simp only [putW]) | (refine boxN hS rfl rfl rfl ?_; clear hS; intro mb w hS; simp only [putW]))
          go_ret
          exact ⟨rfl, by rw [HRT.out, if_neg (by decide)]; exact x13Shut (HBack hS)⟩
        · have b1 : (tk == task) = false := by simpa using e1
          have HK2 : Bx (∀ j p, j < k + 1 → X.shares[j]? = some p → p.1 ≠ task) := ⟨fun j p hj hp => by
            by_cases e : j = k
            · subst e
              rw [HU.out] at hp
              cases hp
              exact e1
            · exact HK.out j p (by omega) hp⟩
          clear e1 HK
          go_wp2_with (first | (refine loadS (f := tw2F) hS rfl rfl rfl k 0 ?_ HU.out rfl ?_ ?_; omega; omega; simp only [putW]) | (refine load1 hS rfl rfl rfl rfl ?_; simp only [putW]) | (refine loadAll hS rfl rfl rfl ?_ ?_; rfl; simp only [putW]) | (refine loadPart hS rfl rfl rfl ?_ rfl ?_; rfl; simp only [putW]) | (refine store1 hS rfl rfl rfl rfl rfl ?_ ?_; (focus (simp; done)); clear hS; intro w hS; simp only [evW, putW] at hS; try simp only [putW]) | (refine storeAll hS rfl rfl rfl rfl ?_ ?_ ?_ ?_; rfl; (focus (simp [Value.oneCell']; done)); rfl; clear hS; intro w hS; try simp only [putW]) | (refine storeN hS rfl rfl rfl rfl ?_ ?_ ?_ ?_; rfl; (focus (simp [Value.oneCell']; done)); (focus (simp; done)); clear hS; intro w hS; simp at hS; try simp only [putW]) | (refine alloc hS rfl rfl ?_; clear hS; intro mb w hS; simp only [putW]) | (refine box1 hS rfl rfl rfl rfl ?_; clear hS; intro mb w hS; try simp only [evW, putW] at hS; simp only [putW]) | (refine boxN hS rfl rfl rfl ?_; clear hS; intro mb w hS; simp only [putW]))
          go_roundg g
          case measure => omega
          case rel => exact ⟨k + 1, by omega, by go_num, HK2, HBack hS⟩
      | zero =>
        have e : k = m := by omega
        subst e
        have HNo : Bx (¬ (X.shares.any fun p => p.1 == task) = true) := ⟨fun h => by
          obtain ⟨p, hp, h2⟩ := List.any_eq_true.1 h
          obtain ⟨j, hj, e⟩ := List.mem_iff_getElem.1 hp
          exact HK.out j p (by rw [← HM.out]; exact hj) (by rw [← e]; exact List.getElem?_eq_getElem _) (by simpa using h2)⟩
        have HR2 : Bx (R = if lf < n then 12 else 0) := ⟨by rw [HR.out, if_neg HNo.out, HLf.out]⟩
        clear hkm HK HR
        go_wp2_with (first | (guard_target =~ Calls _ 49 _ _ _; refine Stopped.out ?_) | (refine load1 hS rfl rfl rfl rfl ?_; simp only [putW]) | (refine loadAll hS rfl rfl rfl ?_ ?_; rfl; simp only [putW]) | (refine loadPart hS rfl rfl rfl ?_ rfl ?_; rfl; simp only [putW]) | (refine store1 hS rfl rfl rfl rfl rfl ?_ ?_; (focus (simp; done)); clear hS; intro w hS; simp only [evW, putW] at hS; try simp only [putW]) | (refine storeAll hS rfl rfl rfl rfl ?_ ?_ ?_ ?_; rfl; (focus (simp [Value.oneCell']; done)); rfl; clear hS; intro w hS; try simp only [putW]) | (refine storeN hS rfl rfl rfl rfl ?_ ?_ ?_ ?_; rfl; (focus (simp [Value.oneCell']; done)); (focus (simp; done)); clear hS; intro w hS; simp at hS; try simp only [putW]) | (refine alloc hS rfl rfl ?_; clear hS; intro mb w hS; simp only [putW]) | (refine box1 hS rfl rfl rfl rfl ?_; clear hS; intro mb w hS; try simp only [evW, putW] at hS; simp only [putW]) | (refine boxN hS rfl rfl rfl ?_; clear hS; intro mb w hS; simp only [putW]))
        refine ⟨?_⟩
        refine Calls.mono (refLeft0 (readsX3 hS) HP.out.1 HP.out.2.1 HP.out.2.2) ?_
        rw [HLf.out]
        rintro _ w2 ⟨rfl, h2⟩
        replace hS := hS.frame h2
        clear h2
        simp only [List.nil_append] at hS
        simp only [putW]
        by_cases hl : lf < n
        · have d3 : decide (lf < n) = true := decide_eq_true hl
          have e0 : R = 12 := by rw [HR2.out, if_pos hl]
          subst e0
          clear hl
          go_wp2_with (first | (refine load1 hS rfl rfl rfl rfl ?_; simp only [putW]) | (refine loadAll hS rfl rfl rfl ?_ ?_; rfl; simp only [putW]) | (refine loadPart hS rfl rfl rfl ?_ rfl ?_; rfl; simp only [putW]) | (refine store1 hS rfl rfl rfl rfl rfl ?_ ?_; (focus (simp; done)); clear hS; intro w hS; simp only [evW, putW] at hS; try simp only [putW]) | (refine storeAll hS rfl rfl rfl rfl ?_ ?_ ?_ ?_; rfl; (focus (simp [Value.oneCell']; done)); rfl; clear hS; intro w hS; try simp only [putW]) | (refine storeN hS rfl rfl rfl rfl ?_ ?_ ?_ ?_; rfl; (focus (simp [Value.oneCell']; done)); (focus (simp; done)); clear hS; intro w hS; simp at hS; try simp only [putW]) | (refine alloc hS rfl rfl ?_; clear hS; intro mb w hS; simp only [putW]) | (refine box1 hS rfl rfl rfl rfl ?_; clear hS; intro mb w hS; try simp only [evW, putW] at hS; simp only [putW]) | (refine boxN hS rfl rfl rfl ?_; clear hS; intro mb w hS; simp only [putW]))
          go_ret
          exact ⟨rfl, by rw [HRT.out, if_neg (by decide)]; exact x13Shut hS⟩
        · have d3 : decide (lf < n) = false := decide_eq_false hl
          have e0 : R = 0 := by rw [HR2.out, if_neg hl]
          subst e0
          clear hl
          go_wp2_with (first | (refine buildSlice1 (c := #[.int .i64 task, .int .i64 n]) hS rfl rfl rfl ?_ ?_ ?_ ?_; rfl; rfl; rfl; clear hS; intro mb w hS; simp only [putW]) | (refine append1 (f := tw2F) hS rfl rfl (.slice qS k cS) rfl rfl (task, n) ?_ ?_ ?_ ?_ ?_ ?_; rfl; (focus (simp [tw2F, Value.oneCell']; done)); rfl; (focus (rw [HM.out]; simp [maxLen]; omega)); (focus (rw [HM.out]; omega)); clear hS; intro v' w hS; obtain ⟨q6, c6, hv6⟩ := shapeN (m := k + 1) hS (by have := HM.out; simp; omega); subst hv6; simp only [putW]) | (refine store1 (v := .slice q6 (k + 1) c6) (b := x) (c := xC (.int .i64 X.most) vL vP (.slice qS k cS) X.now vH) hS rfl rfl rfl rfl rfl (by simp) ?_; clear hS; intro w hS; rw [cellS] at hS; simp only [putW]) | (refine load1 hS rfl rfl rfl rfl ?_; simp only [putW]) | (refine loadAll hS rfl rfl rfl ?_ ?_; rfl; simp only [putW]) | (refine loadPart hS rfl rfl rfl ?_ rfl ?_; rfl; simp only [putW]) | (refine store1 hS rfl rfl rfl rfl rfl ?_ ?_; (focus (simp; done)); clear hS; intro w hS; simp only [evW, putW] at hS; try simp only [putW]) | (refine storeAll hS rfl rfl rfl rfl ?_ ?_ ?_ ?_; rfl; (focus (simp [Value.oneCell']; done)); rfl; clear hS; intro w hS; try simp only [putW]) | (refine storeN hS rfl rfl rfl rfl ?_ ?_ ?_ ?_; rfl; (focus (simp [Value.oneCell']; done)); (focus (simp; done)); clear hS; intro w hS; simp at hS; try simp only [putW]) | (refine alloc hS rfl rfl ?_; clear hS; intro mb w hS; simp only [putW]) | (refine box1 hS rfl rfl rfl rfl ?_; clear hS; intro mb w hS; try simp only [evW, putW] at hS; simp only [putW]) | (refine boxN hS rfl rfl rfl ?_; clear hS; intro mb w hS; simp only [putW]))
          go_ret
          refine ⟨rfl, ?_⟩
          have hT2 : resT X task n = ⟨X.most, X.l, X.pins, X.shares ++ [(task, n)], X.now, X.heat⟩ := by rw [HRT.out]; simp
          rw [hT2]
          exact x13Shut (X := ⟨X.most, X.l, X.pins, X.shares ++ [(task, n)], X.now, X.heat⟩) (vL := vL) (vP := vP) (vS := .slice q6 (k + 1) c6) (vH := vH) (hS.conv (S' := (x, cells (xC (.int .i64 X.most) vL vP (.slice q6 (k + 1) c6) X.now vH) 97) :: (blk vL, sl 3 fxF X.l 90 vL) :: (9, inn (rowsOf X.l) 5) :: (blk vP, sl 2 tw2F X.pins 99 vP) :: (blk (.slice q6 (k + 1) c6), sl 2 tw2F (X.shares ++ [(task, n)]) 99 (.slice q6 (k + 1) c6)) :: (blk vH, sl 3 sp3F X.heat 115 vH) :: K))
end
end Go.Proofs.Ytlkoclalcfeniaa
