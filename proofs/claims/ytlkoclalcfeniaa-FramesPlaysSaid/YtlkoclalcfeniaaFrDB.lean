/-
  FramesPlays: an act done to both: Put of a new key. (Printed by mkdo.py.)
  FramesPlays: an act done to both: Put where no frame is empty. (Printed by mkdo.py.)
  FramesPlays: an act done to both: Put of a key that is there. (Printed by mkdo.py.)
  FramesPlays: an act done to both: Get. (Printed by mkdo.py.)
  FramesPlays: an act done to both: Clean. (Printed by mkdo.py.)
  FramesPlays: an act done to both: Warm. (Printed by mkdo.py.)
-/
import Derived.Test.YtlkoclalcfeniaaFrDA
set_option linter.unusedSimpArgs false
set_option linter.unusedVariables false
namespace Go.Proofs.Ytlkoclalcfeniaa
open Go.RowKit Go.Shelf Go.Proofs.Ytlkoclalcfeniaa.Sl Go.Proofs.Ytlkoclalcfeniaa.Jp

section
variable {w0 w : World} {K : List Chunk} {t x i : Nat} {T : Tb} {FL : Frs} {PW : PinsW} {SL : Shs} {now : Nat} {sp : Spots} {X : X13} {kd tk ky : Int} {vB : Value} {wm : Bool} {bts : Nat}
set_option maxRecDepth 100000 in
set_option maxHeartbeats 8000000 in
theorem do_3n {B : List Int} (hRB : RB w0 B vB) (hBl : B.length ≤ 1000) (ho : okI ky) (hn : mget FL ky = none) (hm : (FL.length : Int) < T.most) (ha : atX X.l ky 0 = -1) (hq : kd % 9 = 3) (h : Tie13 FL PW SL now sp T.most X i ∧ ∀ k ∈ mkeys FL, okI k) (hi : i ≤ 200) (hB : vB.oneCell' = true) (hS : Sat w0 ((x, X13C X) :: codeL T t FL PW SL now sp K) w) : Calls Try.prog 27 #[.agg (pairC t x), .agg (actC kd tk ky vB wm bts)] w fun e w' => e = .returned (.bool true) ∧ Bth w0 T t x (i + 1) K w' := by
  have HT : Bx _ := ⟨h⟩
  obtain ⟨qB, cB, hvB⟩ : ∃ q c, vB = .slice q B.length c := by
    obtain ⟨a, c, h6, -⟩ := hRB.at
    exact ⟨a, c, h6⟩
  obtain ⟨nB, hnB⟩ : ∃ n, B.length = n := ⟨_, rfl⟩
  rw [hnB] at hvB
  subst hvB
  have HRB : Bx _ := ⟨hRB⟩
  have HnB : Bx _ := ⟨hnB⟩
  have hBl2 : B.length ≤ 100000000000000 := by omega
  have hBl3 : B.length ≤ 1000000 := by omega
  have hBl4 : nB ≤ 1000 := by omega
  have HOB : Bx (B.length ≤ 1000000 ∧ ∀ b ∈ B, okByte b) := ⟨hBl3, hRB.all⟩
  have HN : Bx _ := ⟨hn⟩
  have HO : Bx _ := ⟨ho⟩
  have HM : Bx ((FL.length : Int) < T.most ∧ T.most ≤ 1024) := ⟨hm, by have := h.1.m1.2; omega⟩
  have HX : Bx ((X.l.length : Int) < X.most ∧ X.most ≤ 1024) := ⟨by rw [h.1.len, h.1.most]; exact hm, by rw [h.1.most]; have := h.1.m1.2; omega⟩
  have HA : Bx (atX X.l ky 0 = -1) := ⟨ha⟩
  clear h hRB hnB
  go_enter Try.func27, Try.ntmps27
  go_wp2_with (first | (refine boxN (cs := pairC t x) hS rfl rfl rfl ?_; clear hS; intro bp w hS; simp only [putW]) | (refine boxN (cs := actC kd tk ky (.slice qB nB cB) wm bts) hS rfl rfl rfl ?_; clear hS; intro ba w hS; simp only [putW]) | (guard_target =~ Calls _ 40 _ _ _; refine Stopped.out ?_) | (refine load1 hS rfl rfl rfl rfl ?_; simp only [putW]) | (refine loadAll hS rfl rfl rfl ?_ ?_; rfl; simp only [putW]) | (refine loadPart hS rfl rfl rfl ?_ rfl ?_; rfl; simp only [putW]) | (refine store1 hS rfl rfl rfl rfl rfl ?_ ?_; (focus (simp; done)); clear hS; intro w hS; simp only [evW, putW] at hS; try simp only [putW]) | (refine storeAll hS rfl rfl rfl rfl ?_ ?_ ?_ ?_; rfl; (focus (simp [Value.oneCell']; done)); rfl; clear hS; intro w hS; try simp only [putW]) | (refine storeN hS rfl rfl rfl rfl ?_ ?_ ?_ ?_; rfl; (focus (simp [Value.oneCell']; done)); (focus (simp; done)); clear hS; intro w hS; simp at hS; try simp only [putW]) | (refine alloc hS rfl rfl ?_; clear hS; intro mb w hS; simp only [putW]) | (refine box1 hS rfl rfl rfl rfl ?_; clear hS; intro mb w hS; try simp only [evW, putW] at hS; simp only [putW]) | (refine boxN hS rfl rfl rfl ?_; clear hS; intro mb w hS; simp only [putW]))
  refine ⟨?_⟩
  refine Calls.mono (refAt_any (X := X) (key := ky) (K := (bp, cells (pairC t x) 55) :: (ba, cells (actC kd tk ky (.slice qB nB cB) wm bts) 44) :: codeL T t FL PW SL now sp K) hS.conv) ?_
  clear hS
  rw [HA.out]
  rintro _ w ⟨rfl, hS⟩
  simp only [putW]
  go_wp2_with (first | (guard_target =~ Calls _ 8 _ _ _; refine Stopped.out ?_) | (refine load1 hS rfl rfl rfl rfl ?_; simp only [putW]) | (refine loadAll hS rfl rfl rfl ?_ ?_; rfl; simp only [putW]) | (refine loadPart hS rfl rfl rfl ?_ rfl ?_; rfl; simp only [putW]) | (refine store1 hS rfl rfl rfl rfl rfl ?_ ?_; (focus (simp; done)); clear hS; intro w hS; simp only [evW, putW] at hS; try simp only [putW]) | (refine storeAll hS rfl rfl rfl rfl ?_ ?_ ?_ ?_; rfl; (focus (simp [Value.oneCell']; done)); rfl; clear hS; intro w hS; try simp only [putW]) | (refine storeN hS rfl rfl rfl rfl ?_ ?_ ?_ ?_; rfl; (focus (simp [Value.oneCell']; done)); (focus (simp; done)); clear hS; intro w hS; simp at hS; try simp only [putW]) | (refine alloc hS rfl rfl ?_; clear hS; intro mb w hS; simp only [putW]) | (refine box1 hS rfl rfl rfl rfl ?_; clear hS; intro mb w hS; try simp only [evW, putW] at hS; simp only [putW]) | (refine boxN hS rfl rfl rfl ?_; clear hS; intro mb w hS; simp only [putW]))
  refine ⟨?_⟩
  refine Calls.mono (pick_sat kd 9 (by omega) (by omega) hS) ?_
  clear hS
  rintro _ w ⟨rfl, hS⟩
  rw [hq]
  simp only [putW]
  go_wp2_with (first | (guard_target =~ Calls _ 43 _ _ _; refine Stopped.out ?_) | (refine load1 hS rfl rfl rfl rfl ?_; simp only [putW]) | (refine loadAll hS rfl rfl rfl ?_ ?_; rfl; simp only [putW]) | (refine loadPart hS rfl rfl rfl ?_ rfl ?_; rfl; simp only [putW]) | (refine store1 hS rfl rfl rfl rfl rfl ?_ ?_; (focus (simp; done)); clear hS; intro w hS; simp only [evW, putW] at hS; try simp only [putW]) | (refine storeAll hS rfl rfl rfl rfl ?_ ?_ ?_ ?_; rfl; (focus (simp [Value.oneCell']; done)); rfl; clear hS; intro w hS; try simp only [putW]) | (refine storeN hS rfl rfl rfl rfl ?_ ?_ ?_ ?_; rfl; (focus (simp [Value.oneCell']; done)); (focus (simp; done)); clear hS; intro w hS; simp at hS; try simp only [putW]) | (refine alloc hS rfl rfl ?_; clear hS; intro mb w hS; simp only [putW]) | (refine box1 hS rfl rfl rfl rfl ?_; clear hS; intro mb w hS; try simp only [evW, putW] at hS; simp only [putW]) | (refine boxN hS rfl rfl rfl ?_; clear hS; intro mb w hS; simp only [putW]))
  refine ⟨?_⟩
  refine Calls.mono (copy_any (HRB.out.mono hS.base) hBl2) ?_
  rintro _ w2 ⟨v1, rfl, h2⟩
  replace hS := hS.frame h2
  clear h2
  simp only [List.cons_append, List.nil_append] at hS
  obtain ⟨q1, c1, hs1⟩ := shapeN hS HnB.out
  subst hs1
  simp only [putW]
  go_wp2_with (first | (guard_target =~ Calls _ 10 _ _ _; refine Stopped.out ?_) | (refine load1 hS rfl rfl rfl rfl ?_; simp only [putW]) | (refine loadAll hS rfl rfl rfl ?_ ?_; rfl; simp only [putW]) | (refine loadPart hS rfl rfl rfl ?_ rfl ?_; rfl; simp only [putW]) | (refine store1 hS rfl rfl rfl rfl rfl ?_ ?_; (focus (simp; done)); clear hS; intro w hS; simp only [evW, putW] at hS; try simp only [putW]) | (refine storeAll hS rfl rfl rfl rfl ?_ ?_ ?_ ?_; rfl; (focus (simp [Value.oneCell']; done)); rfl; clear hS; intro w hS; try simp only [putW]) | (refine storeN hS rfl rfl rfl rfl ?_ ?_ ?_ ?_; rfl; (focus (simp [Value.oneCell']; done)); (focus (simp; done)); clear hS; intro w hS; simp at hS; try simp only [putW]) | (refine alloc hS rfl rfl ?_; clear hS; intro mb w hS; simp only [putW]) | (refine box1 hS rfl rfl rfl rfl ?_; clear hS; intro mb w hS; try simp only [evW, putW] at hS; simp only [putW]) | (refine boxN hS rfl rfl rfl ?_; clear hS; intro mb w hS; simp only [putW]))
  refine ⟨?_⟩
  refine Calls.mono (putNew_any (key := ky) (va := .slice q1 nB c1) (A := B) (b := wm) (K := (blk (.slice q1 nB c1), sl 1 by8 B 5 (.slice q1 nB c1)) :: (x, X13C X) :: (bp, cells (pairC t x) 55) :: (ba, cells (actC kd tk ky (.slice qB nB cB) wm bts) 44) :: (T.pm, mapC encW uV PW) :: (T.sm, mapC encInt (Value.int .i64) SL) :: (T.hp, HeatC now sp) :: K) (fun w' h => (h.conv (S' := (blk (.slice q1 nB c1), sl 1 by8 B 5 (.slice q1 nB c1)) :: [])).readsSl HOB.out.2) hBl3 HN.out HM.out.1 HM.out.2 (hS.conv (S' := (t, cells (tbC T) 65) :: (T.fm, mapC encInt frV FL) :: (7, frC FL) :: (blk (.slice q1 nB c1), sl 1 by8 B 5 (.slice q1 nB c1)) :: (x, X13C X) :: (bp, cells (pairC t x) 55) :: (ba, cells (actC kd tk ky (.slice qB nB cB) wm bts) 44) :: (T.pm, mapC encW uV PW) :: (T.sm, mapC encInt (Value.int .i64) SL) :: (T.hp, HeatC now sp) :: K))) ?_
  clear hS
  rintro _ w ⟨f, v2, rfl, hS⟩
  obtain ⟨FL2, hF2⟩ : ∃ F2, FL ++ [(ky, ((some ⟨f, 0, none⟩, v2, B, wm) : FrV))] = F2 := ⟨_, rfl⟩
  rw [hF2] at hS
  have HF2 : Bx _ := ⟨hF2⟩
  clear hF2
  simp only [putW]
  go_wp2_with (first | (refine load1 hS rfl rfl rfl rfl ?_; simp only [putW]) | (refine loadAll hS rfl rfl rfl ?_ ?_; rfl; simp only [putW]) | (refine loadPart hS rfl rfl rfl ?_ rfl ?_; rfl; simp only [putW]) | (refine store1 hS rfl rfl rfl rfl rfl ?_ ?_; (focus (simp; done)); clear hS; intro w hS; simp only [evW, putW] at hS; try simp only [putW]) | (refine storeAll hS rfl rfl rfl rfl ?_ ?_ ?_ ?_; rfl; (focus (simp [Value.oneCell']; done)); rfl; clear hS; intro w hS; try simp only [putW]) | (refine storeN hS rfl rfl rfl rfl ?_ ?_ ?_ ?_; rfl; (focus (simp [Value.oneCell']; done)); (focus (simp; done)); clear hS; intro w hS; simp at hS; try simp only [putW]) | (refine alloc hS rfl rfl ?_; clear hS; intro mb w hS; simp only [putW]) | (refine box1 hS rfl rfl rfl rfl ?_; clear hS; intro mb w hS; try simp only [evW, putW] at hS; simp only [putW]) | (refine boxN hS rfl rfl rfl ?_; clear hS; intro mb w hS; simp only [putW]))
  go_loopg [8] nB (fun g iv wq => ∃ (k : Nat) (B2 : List Int), k + g = nB ∧ iv = .int .i64 k ∧ Bx (B2.length = nB) ∧ Sat w0 ((blk (.slice q1 nB c1), sl 1 by8 B2 5 (.slice q1 nB c1)) :: (t, cells (tbC T) 65) :: (T.fm, mapC encInt frV FL2) :: (7, frC FL2) :: (x, X13C X) :: (bp, cells (pairC t x) 55) :: (ba, cells (actC kd tk ky (.slice qB nB cB) wm bts) 44) :: (T.pm, mapC encW uV PW) :: (T.sm, mapC encInt (Value.int .i64) SL) :: (T.hp, HeatC now sp) :: K) wq)
  case atStart => exact ⟨0, B, by omega, rfl, HnB, hS.conv⟩
  case round =>
    clear hS
    obtain ⟨k, B2, hkn, rfl, HB2, hS⟩ := hrel
    cases gk with
    | succ g =>
      have hlt : k < nB := by omega
      have d1 : decide ((k : Int) < (nB : Int)) = true := decide_eq_true (by omega)
      have d1n : decide (k < nB) = true := decide_eq_true hlt
      obtain ⟨bv, hbv⟩ : ∃ y, B2[k]? = some y := ⟨_, List.getElem?_eq_getElem (by rw [HB2.out]; exact hlt)⟩
      obtain ⟨gq, hqq, hcq, hS2⟩ := openS hS HB2.out (by omega)
      subst hqq
      clear hS
      have hS := hS2
      clear hS2
      have HBv : Bx _ := ⟨hbv⟩
      have hkl : k < B2.length := by rw [HB2.out]; exact hlt
      clear hbv
      go_wp2_with (first | (refine loadS1 (v1 := Value.int .u8) hS rfl rfl rfl HBv.out ?_; simp only [putW]) | (refine storeS1 (v1 := Value.int .u8) hS rfl rfl rfl _ rfl rfl ?_ ?_; (focus (first | omega | (simp [maxLen]; done) | (simp [maxLen]; omega))); clear hS; intro w hS; try simp only [putW]) | (refine load1 hS rfl rfl rfl rfl ?_; simp only [putW]) | (refine loadAll hS rfl rfl rfl ?_ ?_; rfl; simp only [putW]) | (refine loadPart hS rfl rfl rfl ?_ rfl ?_; rfl; simp only [putW]) | (refine store1 hS rfl rfl rfl rfl rfl ?_ ?_; (focus (simp; done)); clear hS; intro w hS; simp only [evW, putW] at hS; try simp only [putW]) | (refine storeAll hS rfl rfl rfl rfl ?_ ?_ ?_ ?_; rfl; (focus (simp [Value.oneCell']; done)); rfl; clear hS; intro w hS; try simp only [putW]) | (refine storeN hS rfl rfl rfl rfl ?_ ?_ ?_ ?_; rfl; (focus (simp [Value.oneCell']; done)); (focus (simp; done)); clear hS; intro w hS; simp at hS; try simp only [putW]) | (refine alloc hS rfl rfl ?_; clear hS; intro mb w hS; simp only [putW]) | (refine box1 hS rfl rfl rfl rfl ?_; clear hS; intro mb w hS; try simp only [evW, putW] at hS; simp only [putW]) | (refine boxN hS rfl rfl rfl ?_; clear hS; intro mb w hS; simp only [putW]))
      go_roundg g
      case measure => omega
      case rel =>
        have h9 := hS.slOfSlc
        rw [List.length_set, HB2.out] at h9
        exact ⟨k + 1, _, by omega, by go_num, ⟨by rw [List.length_set]; exact HB2.out⟩, h9⟩
    | zero =>
      have d1 : decide ((k : Int) < (nB : Int)) = false := decide_eq_false (by omega)
      have d1n : decide (k < nB) = false := decide_eq_false (by omega)
      go_wp2_with (first | (guard_target =~ Calls _ 44 _ _ _; refine Stopped.out ?_) | (refine load1 hS rfl rfl rfl rfl ?_; simp only [putW]) | (refine loadAll hS rfl rfl rfl ?_ ?_; rfl; simp only [putW]) | (refine loadPart hS rfl rfl rfl ?_ rfl ?_; rfl; simp only [putW]) | (refine store1 hS rfl rfl rfl rfl rfl ?_ ?_; (focus (simp; done)); clear hS; intro w hS; simp only [evW, putW] at hS; try simp only [putW]) | (refine storeAll hS rfl rfl rfl rfl ?_ ?_ ?_ ?_; rfl; (focus (simp [Value.oneCell']; done)); rfl; clear hS; intro w hS; try simp only [putW]) | (refine storeN hS rfl rfl rfl rfl ?_ ?_ ?_ ?_; rfl; (focus (simp [Value.oneCell']; done)); (focus (simp; done)); clear hS; intro w hS; simp at hS; try simp only [putW]) | (refine alloc hS rfl rfl ?_; clear hS; intro mb w hS; simp only [putW]) | (refine box1 hS rfl rfl rfl rfl ?_; clear hS; intro mb w hS; try simp only [evW, putW] at hS; simp only [putW]) | (refine boxN hS rfl rfl rfl ?_; clear hS; intro mb w hS; simp only [putW]))
      refine ⟨?_⟩
      refine Calls.mono (refPut_new (X := X) (key := ky) (A := B) (wr := wm) (K := (blk (.slice q1 nB c1), sl 1 by8 B2 5 (.slice q1 nB c1)) :: (t, cells (tbC T) 65) :: (T.fm, mapC encInt frV FL2) :: (7, frC FL2) :: (bp, cells (pairC t x) 55) :: (ba, cells (actC kd tk ky (.slice qB nB cB) wm bts) 44) :: (T.pm, mapC encW uV PW) :: (T.sm, mapC encInt (Value.int .i64) SL) :: (T.hp, HeatC now sp) :: K) HRB.out HOB.out.1 HA.out HX.out.1 HX.out.2 hS.conv) ?_
      clear hS
      rintro _ w ⟨v3, rfl, hS⟩
      simp only [putW]
      go_wp2_with (first | (refine load1 hS rfl rfl rfl rfl ?_; simp only [putW]) | (refine loadAll hS rfl rfl rfl ?_ ?_; rfl; simp only [putW]) | (refine loadPart hS rfl rfl rfl ?_ rfl ?_; rfl; simp only [putW]) | (refine store1 hS rfl rfl rfl rfl rfl ?_ ?_; (focus (simp; done)); clear hS; intro w hS; simp only [evW, putW] at hS; try simp only [putW]) | (refine storeAll hS rfl rfl rfl rfl ?_ ?_ ?_ ?_; rfl; (focus (simp [Value.oneCell']; done)); rfl; clear hS; intro w hS; try simp only [putW]) | (refine storeN hS rfl rfl rfl rfl ?_ ?_ ?_ ?_; rfl; (focus (simp [Value.oneCell']; done)); (focus (simp; done)); clear hS; intro w hS; simp at hS; try simp only [putW]) | (refine alloc hS rfl rfl ?_; clear hS; intro mb w hS; simp only [putW]) | (refine box1 hS rfl rfl rfl rfl ?_; clear hS; intro mb w hS; try simp only [evW, putW] at hS; simp only [putW]) | (refine boxN hS rfl rfl rfl ?_; clear hS; intro mb w hS; simp only [putW]))
      go_ret
      refine ⟨rfl, FL2, PW, SL, now, sp, ⟨X.most, X.l ++ [(ky, v3, B, wm)], X.pins, X.shares, X.now, X.heat⟩, ⟨?_, ?_⟩, hS.conv⟩
      · rw [← HF2.out]
        exact HT.out.1.putNew HN.out HM.out.1 HOB.out
      · intro k hk
        rw [← HF2.out] at hk
        have h9 : k ∈ mkeys FL ++ [ky] := by
          have e9 : mkeys (FL ++ [(ky, ((some ⟨f, 0, none⟩, v2, B, wm) : FrV))]) = mkeys FL ++ [ky] := by simp [mkeys]
          rw [← e9]
          exact hk
        rcases List.mem_append.1 h9 with h9 | h9
        · exact HT.out.2 k h9
        · rw [List.mem_singleton.1 h9]
          exact HO.out
end
end Go.Proofs.Ytlkoclalcfeniaa
namespace Go.Proofs.Ytlkoclalcfeniaa
open Go.RowKit Go.Shelf Go.Proofs.Ytlkoclalcfeniaa.Sl Go.Proofs.Ytlkoclalcfeniaa.Jp

section
variable {w0 w : World} {K : List Chunk} {t x i : Nat} {T : Tb} {FL : Frs} {PW : PinsW} {SL : Shs} {now : Nat} {sp : Spots} {X : X13} {kd tk ky : Int} {vB : Value} {wm : Bool} {bts : Nat}
set_option maxRecDepth 100000 in
set_option maxHeartbeats 8000000 in
theorem do_3f {B : List Int} (hRB : RB w0 B vB) (hBl : B.length ≤ 1000) (hn : mget FL ky = none) (hm : ¬ (FL.length : Int) < T.most) (ha : atX X.l ky 0 = -1) (hq : kd % 9 = 3) (h : Tie13 FL PW SL now sp T.most X i ∧ ∀ k ∈ mkeys FL, okI k) (hi : i ≤ 200) (hB : vB.oneCell' = true) (hS : Sat w0 ((x, X13C X) :: codeL T t FL PW SL now sp K) w) : Calls Try.prog 27 #[.agg (pairC t x), .agg (actC kd tk ky vB wm bts)] w fun e w' => e = .returned (.bool true) ∧ Bth w0 T t x (i + 1) K w' := by
  have HT : Bx _ := ⟨h⟩
  obtain ⟨qB, cB, hvB⟩ : ∃ q c, vB = .slice q B.length c := by
    obtain ⟨a, c, h6, -⟩ := hRB.at
    exact ⟨a, c, h6⟩
  obtain ⟨nB, hnB⟩ : ∃ n, B.length = n := ⟨_, rfl⟩
  rw [hnB] at hvB
  subst hvB
  have HRB : Bx _ := ⟨hRB⟩
  have HnB : Bx _ := ⟨hnB⟩
  have hBl2 : B.length ≤ 100000000000000 := by omega
  have hBl3 : B.length ≤ 1000000 := by omega
  have hBl4 : nB ≤ 1000 := by omega
  have HOB : Bx (B.length ≤ 1000000 ∧ ∀ b ∈ B, okByte b) := ⟨hBl3, hRB.all⟩
  have HN : Bx _ := ⟨hn⟩
  have HM : Bx ((FL.length : Int) = T.most) := ⟨by have := h.1.fl; omega⟩
  have HX : Bx (¬ (X.l.length : Int) < X.most) := ⟨by rw [h.1.len, h.1.most]; exact hm⟩
  have HA : Bx (atX X.l ky 0 = -1) := ⟨ha⟩
  clear h hRB hnB
  go_enter Try.func27, Try.ntmps27
  go_wp2_with (first | (refine boxN (cs := pairC t x) hS rfl rfl rfl ?_; clear hS; intro bp w hS; simp only [putW]) | (refine boxN (cs := actC kd tk ky (.slice qB nB cB) wm bts) hS rfl rfl rfl ?_; clear hS; intro ba w hS; simp only [putW]) | (guard_target =~ Calls _ 40 _ _ _; refine Stopped.out ?_) | (refine load1 hS rfl rfl rfl rfl ?_; simp only [putW]) | (refine loadAll hS rfl rfl rfl ?_ ?_; rfl; simp only [putW]) | (refine loadPart hS rfl rfl rfl ?_ rfl ?_; rfl; simp only [putW]) | (refine store1 hS rfl rfl rfl rfl rfl ?_ ?_; (focus (simp; done)); clear hS; intro w hS; simp only [evW, putW] at hS; try simp only [putW]) | (refine storeAll hS rfl rfl rfl rfl ?_ ?_ ?_ ?_; rfl; (focus (simp [Value.oneCell']; done)); rfl; clear hS; intro w hS; try simp only [putW]) | (refine storeN hS rfl rfl rfl rfl ?_ ?_ ?_ ?_; rfl; (focus (simp [Value.oneCell']; done)); (focus (simp; done)); clear hS; intro w hS; simp at hS; try simp only [putW]) | (refine alloc hS rfl rfl ?_; clear hS; intro mb w hS; simp only [putW]) | (refine box1 hS rfl rfl rfl rfl ?_; clear hS; intro mb w hS; try simp only [evW, putW] at hS; simp only [putW]) | (refine boxN hS rfl rfl rfl ?_; clear hS; intro mb w hS; simp only [putW]))
  refine ⟨?_⟩
  refine Calls.mono (refAt_any (X := X) (key := ky) (K := (bp, cells (pairC t x) 55) :: (ba, cells (actC kd tk ky (.slice qB nB cB) wm bts) 44) :: codeL T t FL PW SL now sp K) hS.conv) ?_
  clear hS
  rw [HA.out]
  rintro _ w ⟨rfl, hS⟩
  simp only [putW]
  go_wp2_with (first | (guard_target =~ Calls _ 8 _ _ _; refine Stopped.out ?_) | (refine load1 hS rfl rfl rfl rfl ?_; simp only [putW]) | (refine loadAll hS rfl rfl rfl ?_ ?_; rfl; simp only [putW]) | (refine loadPart hS rfl rfl rfl ?_ rfl ?_; rfl; simp only [putW]) | (refine store1 hS rfl rfl rfl rfl rfl ?_ ?_; (focus (simp; done)); clear hS; intro w hS; simp only [evW, putW] at hS; try simp only [putW]) | (refine storeAll hS rfl rfl rfl rfl ?_ ?_ ?_ ?_; rfl; (focus (simp [Value.oneCell']; done)); rfl; clear hS; intro w hS; try simp only [putW]) | (refine storeN hS rfl rfl rfl rfl ?_ ?_ ?_ ?_; rfl; (focus (simp [Value.oneCell']; done)); (focus (simp; done)); clear hS; intro w hS; simp at hS; try simp only [putW]) | (refine alloc hS rfl rfl ?_; clear hS; intro mb w hS; simp only [putW]) | (refine box1 hS rfl rfl rfl rfl ?_; clear hS; intro mb w hS; try simp only [evW, putW] at hS; simp only [putW]) | (refine boxN hS rfl rfl rfl ?_; clear hS; intro mb w hS; simp only [putW]))
  refine ⟨?_⟩
  refine Calls.mono (pick_sat kd 9 (by omega) (by omega) hS) ?_
  clear hS
  rintro _ w ⟨rfl, hS⟩
  rw [hq]
  simp only [putW]
  go_wp2_with (first | (guard_target =~ Calls _ 43 _ _ _; refine Stopped.out ?_) | (refine load1 hS rfl rfl rfl rfl ?_; simp only [putW]) | (refine loadAll hS rfl rfl rfl ?_ ?_; rfl; simp only [putW]) | (refine loadPart hS rfl rfl rfl ?_ rfl ?_; rfl; simp only [putW]) | (refine store1 hS rfl rfl rfl rfl rfl ?_ ?_; (focus (simp; done)); clear hS; intro w hS; simp only [evW, putW] at hS; try simp only [putW]) | (refine storeAll hS rfl rfl rfl rfl ?_ ?_ ?_ ?_; rfl; (focus (simp [Value.oneCell']; done)); rfl; clear hS; intro w hS; try simp only [putW]) | (refine storeN hS rfl rfl rfl rfl ?_ ?_ ?_ ?_; rfl; (focus (simp [Value.oneCell']; done)); (focus (simp; done)); clear hS; intro w hS; simp at hS; try simp only [putW]) | (refine alloc hS rfl rfl ?_; clear hS; intro mb w hS; simp only [putW]) | (refine box1 hS rfl rfl rfl rfl ?_; clear hS; intro mb w hS; try simp only [evW, putW] at hS; simp only [putW]) | (refine boxN hS rfl rfl rfl ?_; clear hS; intro mb w hS; simp only [putW]))
  refine ⟨?_⟩
  refine Calls.mono (copy_any (HRB.out.mono hS.base) hBl2) ?_
  rintro _ w2 ⟨v1, rfl, h2⟩
  replace hS := hS.frame h2
  clear h2
  simp only [List.cons_append, List.nil_append] at hS
  obtain ⟨q1, c1, hs1⟩ := shapeN hS HnB.out
  subst hs1
  simp only [putW]
  go_wp2_with (first | (guard_target =~ Calls _ 10 _ _ _; refine Stopped.out ?_) | (refine load1 hS rfl rfl rfl rfl ?_; simp only [putW]) | (refine loadAll hS rfl rfl rfl ?_ ?_; rfl; simp only [putW]) | (refine loadPart hS rfl rfl rfl ?_ rfl ?_; rfl; simp only [putW]) | (refine store1 hS rfl rfl rfl rfl rfl ?_ ?_; (focus (simp; done)); clear hS; intro w hS; simp only [evW, putW] at hS; try simp only [putW]) | (refine storeAll hS rfl rfl rfl rfl ?_ ?_ ?_ ?_; rfl; (focus (simp [Value.oneCell']; done)); rfl; clear hS; intro w hS; try simp only [putW]) | (refine storeN hS rfl rfl rfl rfl ?_ ?_ ?_ ?_; rfl; (focus (simp [Value.oneCell']; done)); (focus (simp; done)); clear hS; intro w hS; simp at hS; try simp only [putW]) | (refine alloc hS rfl rfl ?_; clear hS; intro mb w hS; simp only [putW]) | (refine box1 hS rfl rfl rfl rfl ?_; clear hS; intro mb w hS; try simp only [evW, putW] at hS; simp only [putW]) | (refine boxN hS rfl rfl rfl ?_; clear hS; intro mb w hS; simp only [putW]))
  refine ⟨?_⟩
  refine Calls.mono (putFull_any (key := ky) (va := .slice q1 nB c1) (b := wm) HN.out HM.out (hS.conv (S' := (t, cells (tbC T) 65) :: (T.fm, mapC encInt frV FL) :: (7, frC FL) :: (blk (.slice q1 nB c1), sl 1 by8 B 5 (.slice q1 nB c1)) :: (x, X13C X) :: (bp, cells (pairC t x) 55) :: (ba, cells (actC kd tk ky (.slice qB nB cB) wm bts) 44) :: (T.pm, mapC encW uV PW) :: (T.sm, mapC encInt (Value.int .i64) SL) :: (T.hp, HeatC now sp) :: K))) ?_
  clear hS
  rintro _ w ⟨rfl, hS⟩
  simp only [putW]
  go_wp2_with (first | (refine load1 hS rfl rfl rfl rfl ?_; simp only [putW]) | (refine loadAll hS rfl rfl rfl ?_ ?_; rfl; simp only [putW]) | (refine loadPart hS rfl rfl rfl ?_ rfl ?_; rfl; simp only [putW]) | (refine store1 hS rfl rfl rfl rfl rfl ?_ ?_; (focus (simp; done)); clear hS; intro w hS; simp only [evW, putW] at hS; try simp only [putW]) | (refine storeAll hS rfl rfl rfl rfl ?_ ?_ ?_ ?_; rfl; (focus (simp [Value.oneCell']; done)); rfl; clear hS; intro w hS; try simp only [putW]) | (refine storeN hS rfl rfl rfl rfl ?_ ?_ ?_ ?_; rfl; (focus (simp [Value.oneCell']; done)); (focus (simp; done)); clear hS; intro w hS; simp at hS; try simp only [putW]) | (refine alloc hS rfl rfl ?_; clear hS; intro mb w hS; simp only [putW]) | (refine box1 hS rfl rfl rfl rfl ?_; clear hS; intro mb w hS; try simp only [evW, putW] at hS; simp only [putW]) | (refine boxN hS rfl rfl rfl ?_; clear hS; intro mb w hS; simp only [putW]))
  go_loopg [8] nB (fun g iv wq => ∃ (k : Nat) (B2 : List Int), k + g = nB ∧ iv = .int .i64 k ∧ Bx (B2.length = nB) ∧ Sat w0 ((blk (.slice q1 nB c1), sl 1 by8 B2 5 (.slice q1 nB c1)) :: (t, cells (tbC T) 65) :: (T.fm, mapC encInt frV FL) :: (7, frC FL) :: (x, X13C X) :: (bp, cells (pairC t x) 55) :: (ba, cells (actC kd tk ky (.slice qB nB cB) wm bts) 44) :: (T.pm, mapC encW uV PW) :: (T.sm, mapC encInt (Value.int .i64) SL) :: (T.hp, HeatC now sp) :: K) wq)
  case atStart => exact ⟨0, B, by omega, rfl, HnB, hS.conv⟩
  case round =>
    clear hS
    obtain ⟨k, B2, hkn, rfl, HB2, hS⟩ := hrel
    cases gk with
    | succ g =>
      have hlt : k < nB := by omega
      have d1 : decide ((k : Int) < (nB : Int)) = true := decide_eq_true (by omega)
      have d1n : decide (k < nB) = true := decide_eq_true hlt
      obtain ⟨bv, hbv⟩ : ∃ y, B2[k]? = some y := ⟨_, List.getElem?_eq_getElem (by rw [HB2.out]; exact hlt)⟩
      obtain ⟨gq, hqq, hcq, hS2⟩ := openS hS HB2.out (by omega)
      subst hqq
      clear hS
      have hS := hS2
      clear hS2
      have HBv : Bx _ := ⟨hbv⟩
      have hkl : k < B2.length := by rw [HB2.out]; exact hlt
      clear hbv
      go_wp2_with (first | (refine loadS1 (v1 := Value.int .u8) hS rfl rfl rfl HBv.out ?_; simp only [putW]) | (refine storeS1 (v1 := Value.int .u8) hS rfl rfl rfl _ rfl rfl ?_ ?_; (focus (first | omega | (simp [maxLen]; done) | (simp [maxLen]; omega))); clear hS; intro w hS; try simp only [putW]) | (refine load1 hS rfl rfl rfl rfl ?_; simp only [putW]) | (refine loadAll hS rfl rfl rfl ?_ ?_; rfl; simp only [putW]) | (refine loadPart hS rfl rfl rfl ?_ rfl ?_; rfl; simp only [putW]) | (refine store1 hS rfl rfl rfl rfl rfl ?_ ?_; (focus (simp; done)); clear hS; intro w hS; simp only [evW, putW] at hS; try simp only [putW]) | (refine storeAll hS rfl rfl rfl rfl ?_ ?_ ?_ ?_; rfl; (focus (simp [Value.oneCell']; done)); rfl; clear hS; intro w hS; try simp only [putW]) | (refine storeN hS rfl rfl rfl rfl ?_ ?_ ?_ ?_; rfl; (focus (simp [Value.oneCell']; done)); (focus (simp; done)); clear hS; intro w hS; simp at hS; try simp only [putW]) | (refine alloc hS rfl rfl ?_; clear hS; intro mb w hS; simp only [putW]) | (refine box1 hS rfl rfl rfl rfl ?_; clear hS; intro mb w hS; try simp only [evW, putW] at hS; simp only [putW]) | (refine boxN hS rfl rfl rfl ?_; clear hS; intro mb w hS; simp only [putW]))
      go_roundg g
      case measure => omega
      case rel =>
        have h9 := hS.slOfSlc
        rw [List.length_set, HB2.out] at h9
        exact ⟨k + 1, _, by omega, by go_num, ⟨by rw [List.length_set]; exact HB2.out⟩, h9⟩
    | zero =>
      have d1 : decide ((k : Int) < (nB : Int)) = false := decide_eq_false (by omega)
      have d1n : decide (k < nB) = false := decide_eq_false (by omega)
      go_wp2_with (first | (guard_target =~ Calls _ 44 _ _ _; refine Stopped.out ?_) | (refine load1 hS rfl rfl rfl rfl ?_; simp only [putW]) | (refine loadAll hS rfl rfl rfl ?_ ?_; rfl; simp only [putW]) | (refine loadPart hS rfl rfl rfl ?_ rfl ?_; rfl; simp only [putW]) | (refine store1 hS rfl rfl rfl rfl rfl ?_ ?_; (focus (simp; done)); clear hS; intro w hS; simp only [evW, putW] at hS; try simp only [putW]) | (refine storeAll hS rfl rfl rfl rfl ?_ ?_ ?_ ?_; rfl; (focus (simp [Value.oneCell']; done)); rfl; clear hS; intro w hS; try simp only [putW]) | (refine storeN hS rfl rfl rfl rfl ?_ ?_ ?_ ?_; rfl; (focus (simp [Value.oneCell']; done)); (focus (simp; done)); clear hS; intro w hS; simp at hS; try simp only [putW]) | (refine alloc hS rfl rfl ?_; clear hS; intro mb w hS; simp only [putW]) | (refine box1 hS rfl rfl rfl rfl ?_; clear hS; intro mb w hS; try simp only [evW, putW] at hS; simp only [putW]) | (refine boxN hS rfl rfl rfl ?_; clear hS; intro mb w hS; simp only [putW]))
      refine ⟨?_⟩
      refine Calls.mono (refPut_full (X := X) (key := ky) (wr := wm) (K := (blk (.slice q1 nB c1), sl 1 by8 B2 5 (.slice q1 nB c1)) :: (t, cells (tbC T) 65) :: (T.fm, mapC encInt frV FL) :: (7, frC FL) :: (bp, cells (pairC t x) 55) :: (ba, cells (actC kd tk ky (.slice qB nB cB) wm bts) 44) :: (T.pm, mapC encW uV PW) :: (T.sm, mapC encInt (Value.int .i64) SL) :: (T.hp, HeatC now sp) :: K) HA.out (by have := HX.out; omega) hS.conv) ?_
      clear hS
      rintro _ w ⟨rfl, hS⟩
      simp only [putW]
      go_wp2_with (first | (refine load1 hS rfl rfl rfl rfl ?_; simp only [putW]) | (refine loadAll hS rfl rfl rfl ?_ ?_; rfl; simp only [putW]) | (refine loadPart hS rfl rfl rfl ?_ rfl ?_; rfl; simp only [putW]) | (refine store1 hS rfl rfl rfl rfl rfl ?_ ?_; (focus (simp; done)); clear hS; intro w hS; simp only [evW, putW] at hS; try simp only [putW]) | (refine storeAll hS rfl rfl rfl rfl ?_ ?_ ?_ ?_; rfl; (focus (simp [Value.oneCell']; done)); rfl; clear hS; intro w hS; try simp only [putW]) | (refine storeN hS rfl rfl rfl rfl ?_ ?_ ?_ ?_; rfl; (focus (simp [Value.oneCell']; done)); (focus (simp; done)); clear hS; intro w hS; simp at hS; try simp only [putW]) | (refine alloc hS rfl rfl ?_; clear hS; intro mb w hS; simp only [putW]) | (refine box1 hS rfl rfl rfl rfl ?_; clear hS; intro mb w hS; try simp only [evW, putW] at hS; simp only [putW]) | (refine boxN hS rfl rfl rfl ?_; clear hS; intro mb w hS; simp only [putW]))
      go_ret
      exact ⟨rfl, FL, PW, SL, now, sp, X, ⟨HT.out.1.up, HT.out.2⟩, hS.conv⟩
end
end Go.Proofs.Ytlkoclalcfeniaa
namespace Go.Proofs.Ytlkoclalcfeniaa
open Go.RowKit Go.Shelf Go.Proofs.Ytlkoclalcfeniaa.Sl Go.Proofs.Ytlkoclalcfeniaa.Jp

section
variable {w0 w : World} {K : List Chunk} {t x i : Nat} {T : Tb} {FL : Frs} {PW : PinsW} {SL : Shs} {now : Nat} {sp : Spots} {X : X13} {kd tk ky : Int} {vB : Value} {wm : Bool} {bts : Nat}
set_option maxRecDepth 100000 in
set_option maxHeartbeats 8000000 in
theorem do_3o {B : List Int} (hRB : RB w0 B vB) (hBl : B.length ≤ 1000) {j : Nat} {xa : Option Addr} {xv va : Value} {A : List Int} {bb : Bool} (hx : mget FL ky = some (xa, xv, A, bb)) (hj : X.l[j]? = some (ky, va, A, bb)) (ha : atX X.l ky 0 = j) (hq : kd % 9 = 3) (h : Tie13 FL PW SL now sp T.most X i ∧ ∀ k ∈ mkeys FL, okI k) (hi : i ≤ 200) (hB : vB.oneCell' = true) (hS : Sat w0 ((x, X13C X) :: codeL T t FL PW SL now sp K) w) : Calls Try.prog 27 #[.agg (pairC t x), .agg (actC kd tk ky vB wm bts)] w fun e w' => e = .returned (.bool true) ∧ Bth w0 T t x (i + 1) K w' := by
  have HT : Bx _ := ⟨h⟩
  obtain ⟨qB, cB, hvB⟩ : ∃ q c, vB = .slice q B.length c := by
    obtain ⟨a, c, h6, -⟩ := hRB.at
    exact ⟨a, c, h6⟩
  obtain ⟨nB, hnB⟩ : ∃ n, B.length = n := ⟨_, rfl⟩
  rw [hnB] at hvB
  subst hvB
  have HRB : Bx _ := ⟨hRB⟩
  have HnB : Bx _ := ⟨hnB⟩
  have hBl2 : B.length ≤ 100000000000000 := by omega
  have hBl3 : B.length ≤ 1000000 := by omega
  have hBl4 : nB ≤ 1000 := by omega
  have HOB : Bx (B.length ≤ 1000000 ∧ ∀ b ∈ B, okByte b) := ⟨hBl3, hRB.all⟩
  have HX : Bx _ := ⟨hx⟩
  have HJ : Bx _ := ⟨hj⟩
  have hj0 : (0 : Int) ≤ (j : Int) := by omega
  have HL : Bx (X.l.length ≤ 1024) := ⟨by have := h.1.len; have := h.1.fl; have := h.1.m1.2; omega⟩
  have HA : Bx (atX X.l ky 0 = (j : Int)) := ⟨ha⟩
  clear h hRB hnB
  go_enter Try.func27, Try.ntmps27
  go_wp2_with (first | (refine boxN (cs := pairC t x) hS rfl rfl rfl ?_; clear hS; intro bp w hS; simp only [putW]) | (refine boxN (cs := actC kd tk ky (.slice qB nB cB) wm bts) hS rfl rfl rfl ?_; clear hS; intro ba w hS; simp only [putW]) | (guard_target =~ Calls _ 40 _ _ _; refine Stopped.out ?_) | (refine load1 hS rfl rfl rfl rfl ?_; simp only [putW]) | (refine loadAll hS rfl rfl rfl ?_ ?_; rfl; simp only [putW]) | (refine loadPart hS rfl rfl rfl ?_ rfl ?_; rfl; simp only [putW]) | (refine store1 hS rfl rfl rfl rfl rfl ?_ ?_; (focus (simp; done)); clear hS; intro w hS; simp only [evW, putW] at hS; try simp only [putW]) | (refine storeAll hS rfl rfl rfl rfl ?_ ?_ ?_ ?_; rfl; (focus (simp [Value.oneCell']; done)); rfl; clear hS; intro w hS; try simp only [putW]) | (refine storeN hS rfl rfl rfl rfl ?_ ?_ ?_ ?_; rfl; (focus (simp [Value.oneCell']; done)); (focus (simp; done)); clear hS; intro w hS; simp at hS; try simp only [putW]) | (refine alloc hS rfl rfl ?_; clear hS; intro mb w hS; simp only [putW]) | (refine box1 hS rfl rfl rfl rfl ?_; clear hS; intro mb w hS; try simp only [evW, putW] at hS; simp only [putW]) | (refine boxN hS rfl rfl rfl ?_; clear hS; intro mb w hS; simp only [putW]))
  refine ⟨?_⟩
  refine Calls.mono (refAt_any (X := X) (key := ky) (K := (bp, cells (pairC t x) 55) :: (ba, cells (actC kd tk ky (.slice qB nB cB) wm bts) 44) :: codeL T t FL PW SL now sp K) hS.conv) ?_
  clear hS
  rw [HA.out]
  rintro _ w ⟨rfl, hS⟩
  simp only [putW]
  go_wp2_with (first | (guard_target =~ Calls _ 8 _ _ _; refine Stopped.out ?_) | (refine load1 hS rfl rfl rfl rfl ?_; simp only [putW]) | (refine loadAll hS rfl rfl rfl ?_ ?_; rfl; simp only [putW]) | (refine loadPart hS rfl rfl rfl ?_ rfl ?_; rfl; simp only [putW]) | (refine store1 hS rfl rfl rfl rfl rfl ?_ ?_; (focus (simp; done)); clear hS; intro w hS; simp only [evW, putW] at hS; try simp only [putW]) | (refine storeAll hS rfl rfl rfl rfl ?_ ?_ ?_ ?_; rfl; (focus (simp [Value.oneCell']; done)); rfl; clear hS; intro w hS; try simp only [putW]) | (refine storeN hS rfl rfl rfl rfl ?_ ?_ ?_ ?_; rfl; (focus (simp [Value.oneCell']; done)); (focus (simp; done)); clear hS; intro w hS; simp at hS; try simp only [putW]) | (refine alloc hS rfl rfl ?_; clear hS; intro mb w hS; simp only [putW]) | (refine box1 hS rfl rfl rfl rfl ?_; clear hS; intro mb w hS; try simp only [evW, putW] at hS; simp only [putW]) | (refine boxN hS rfl rfl rfl ?_; clear hS; intro mb w hS; simp only [putW]))
  refine ⟨?_⟩
  refine Calls.mono (pick_sat kd 9 (by omega) (by omega) hS) ?_
  clear hS
  rintro _ w ⟨rfl, hS⟩
  rw [hq]
  simp only [putW]
  go_wp2_with (first | (guard_target =~ Calls _ 43 _ _ _; refine Stopped.out ?_) | (refine load1 hS rfl rfl rfl rfl ?_; simp only [putW]) | (refine loadAll hS rfl rfl rfl ?_ ?_; rfl; simp only [putW]) | (refine loadPart hS rfl rfl rfl ?_ rfl ?_; rfl; simp only [putW]) | (refine store1 hS rfl rfl rfl rfl rfl ?_ ?_; (focus (simp; done)); clear hS; intro w hS; simp only [evW, putW] at hS; try simp only [putW]) | (refine storeAll hS rfl rfl rfl rfl ?_ ?_ ?_ ?_; rfl; (focus (simp [Value.oneCell']; done)); rfl; clear hS; intro w hS; try simp only [putW]) | (refine storeN hS rfl rfl rfl rfl ?_ ?_ ?_ ?_; rfl; (focus (simp [Value.oneCell']; done)); (focus (simp; done)); clear hS; intro w hS; simp at hS; try simp only [putW]) | (refine alloc hS rfl rfl ?_; clear hS; intro mb w hS; simp only [putW]) | (refine box1 hS rfl rfl rfl rfl ?_; clear hS; intro mb w hS; try simp only [evW, putW] at hS; simp only [putW]) | (refine boxN hS rfl rfl rfl ?_; clear hS; intro mb w hS; simp only [putW]))
  refine ⟨?_⟩
  refine Calls.mono (copy_any (HRB.out.mono hS.base) hBl2) ?_
  rintro _ w2 ⟨v1, rfl, h2⟩
  replace hS := hS.frame h2
  clear h2
  simp only [List.cons_append, List.nil_append] at hS
  obtain ⟨q1, c1, hs1⟩ := shapeN hS HnB.out
  subst hs1
  simp only [putW]
  go_wp2_with (first | (guard_target =~ Calls _ 10 _ _ _; refine Stopped.out ?_) | (refine load1 hS rfl rfl rfl rfl ?_; simp only [putW]) | (refine loadAll hS rfl rfl rfl ?_ ?_; rfl; simp only [putW]) | (refine loadPart hS rfl rfl rfl ?_ rfl ?_; rfl; simp only [putW]) | (refine store1 hS rfl rfl rfl rfl rfl ?_ ?_; (focus (simp; done)); clear hS; intro w hS; simp only [evW, putW] at hS; try simp only [putW]) | (refine storeAll hS rfl rfl rfl rfl ?_ ?_ ?_ ?_; rfl; (focus (simp [Value.oneCell']; done)); rfl; clear hS; intro w hS; try simp only [putW]) | (refine storeN hS rfl rfl rfl rfl ?_ ?_ ?_ ?_; rfl; (focus (simp [Value.oneCell']; done)); (focus (simp; done)); clear hS; intro w hS; simp at hS; try simp only [putW]) | (refine alloc hS rfl rfl ?_; clear hS; intro mb w hS; simp only [putW]) | (refine box1 hS rfl rfl rfl rfl ?_; clear hS; intro mb w hS; try simp only [evW, putW] at hS; simp only [putW]) | (refine boxN hS rfl rfl rfl ?_; clear hS; intro mb w hS; simp only [putW]))
  refine ⟨?_⟩
  refine Calls.mono (putOld_any (key := ky) (x := (xa, xv, A, bb)) (va := .slice q1 nB c1) (A := B) (b := wm) (K := (blk (.slice q1 nB c1), sl 1 by8 B 5 (.slice q1 nB c1)) :: (x, X13C X) :: (bp, cells (pairC t x) 55) :: (ba, cells (actC kd tk ky (.slice qB nB cB) wm bts) 44) :: (T.pm, mapC encW uV PW) :: (T.sm, mapC encInt (Value.int .i64) SL) :: (T.hp, HeatC now sp) :: K) (fun w' h => (h.conv (S' := (blk (.slice q1 nB c1), sl 1 by8 B 5 (.slice q1 nB c1)) :: [])).readsSl HOB.out.2) hBl3 HX.out HT.out.1.fo (hS.conv (S' := (t, cells (tbC T) 65) :: (T.fm, mapC encInt frV FL) :: (7, frC FL) :: (blk (.slice q1 nB c1), sl 1 by8 B 5 (.slice q1 nB c1)) :: (x, X13C X) :: (bp, cells (pairC t x) 55) :: (ba, cells (actC kd tk ky (.slice qB nB cB) wm bts) 44) :: (T.pm, mapC encW uV PW) :: (T.sm, mapC encInt (Value.int .i64) SL) :: (T.hp, HeatC now sp) :: K))) ?_
  clear hS
  rintro _ w ⟨v2, rfl, hS0⟩
  obtain ⟨FL2, hF2⟩ : ∃ F2, mput FL ky ((xa, v2, B, bb || wm) : FrV) = F2 := ⟨_, rfl⟩
  have hS : Sat w0 ((t, cells (tbC T) 65) :: (T.fm, mapC encInt frV (mput FL ky ((xa, v2, B, bb || wm) : FrV))) :: (7, frC (mput FL ky ((xa, v2, B, bb || wm) : FrV))) :: (blk (.slice q1 nB c1), sl 1 by8 B 5 (.slice q1 nB c1)) :: (x, X13C X) :: (bp, cells (pairC t x) 55) :: (ba, cells (actC kd tk ky (.slice qB nB cB) wm bts) 44) :: (T.pm, mapC encW uV PW) :: (T.sm, mapC encInt (Value.int .i64) SL) :: (T.hp, HeatC now sp) :: K) _ := hS0
  clear hS0
  rw [hF2] at hS
  have HF2 : Bx _ := ⟨hF2⟩
  clear hF2
  simp only [putW]
  go_wp2_with (first | (refine load1 hS rfl rfl rfl rfl ?_; simp only [putW]) | (refine loadAll hS rfl rfl rfl ?_ ?_; rfl; simp only [putW]) | (refine loadPart hS rfl rfl rfl ?_ rfl ?_; rfl; simp only [putW]) | (refine store1 hS rfl rfl rfl rfl rfl ?_ ?_; (focus (simp; done)); clear hS; intro w hS; simp only [evW, putW] at hS; try simp only [putW]) | (refine storeAll hS rfl rfl rfl rfl ?_ ?_ ?_ ?_; rfl; (focus (simp [Value.oneCell']; done)); rfl; clear hS; intro w hS; try simp only [putW]) | (refine storeN hS rfl rfl rfl rfl ?_ ?_ ?_ ?_; rfl; (focus (simp [Value.oneCell']; done)); (focus (simp; done)); clear hS; intro w hS; simp at hS; try simp only [putW]) | (refine alloc hS rfl rfl ?_; clear hS; intro mb w hS; simp only [putW]) | (refine box1 hS rfl rfl rfl rfl ?_; clear hS; intro mb w hS; try simp only [evW, putW] at hS; simp only [putW]) | (refine boxN hS rfl rfl rfl ?_; clear hS; intro mb w hS; simp only [putW]))
  go_loopg [8] nB (fun g iv wq => ∃ (k : Nat) (B2 : List Int), k + g = nB ∧ iv = .int .i64 k ∧ Bx (B2.length = nB) ∧ Sat w0 ((blk (.slice q1 nB c1), sl 1 by8 B2 5 (.slice q1 nB c1)) :: (t, cells (tbC T) 65) :: (T.fm, mapC encInt frV FL2) :: (7, frC FL2) :: (x, X13C X) :: (bp, cells (pairC t x) 55) :: (ba, cells (actC kd tk ky (.slice qB nB cB) wm bts) 44) :: (T.pm, mapC encW uV PW) :: (T.sm, mapC encInt (Value.int .i64) SL) :: (T.hp, HeatC now sp) :: K) wq)
  case atStart => exact ⟨0, B, by omega, rfl, HnB, hS.conv⟩
  case round =>
    clear hS
    obtain ⟨k, B2, hkn, rfl, HB2, hS⟩ := hrel
    cases gk with
    | succ g =>
      have hlt : k < nB := by omega
      have d1 : decide ((k : Int) < (nB : Int)) = true := decide_eq_true (by omega)
      have d1n : decide (k < nB) = true := decide_eq_true hlt
      obtain ⟨bv, hbv⟩ : ∃ y, B2[k]? = some y := ⟨_, List.getElem?_eq_getElem (by rw [HB2.out]; exact hlt)⟩
      obtain ⟨gq, hqq, hcq, hS2⟩ := openS hS HB2.out (by omega)
      subst hqq
      clear hS
      have hS := hS2
      clear hS2
      have HBv : Bx _ := ⟨hbv⟩
      have hkl : k < B2.length := by rw [HB2.out]; exact hlt
      clear hbv
      go_wp2_with (first | (refine loadS1 (v1 := Value.int .u8) hS rfl rfl rfl HBv.out ?_; simp only [putW]) | (refine storeS1 (v1 := Value.int .u8) hS rfl rfl rfl _ rfl rfl ?_ ?_; (focus (first | omega | (simp [maxLen]; done) | (simp [maxLen]; omega))); clear hS; intro w hS; try simp only [putW]) | (refine load1 hS rfl rfl rfl rfl ?_; simp only [putW]) | (refine loadAll hS rfl rfl rfl ?_ ?_; rfl; simp only [putW]) | (refine loadPart hS rfl rfl rfl ?_ rfl ?_; rfl; simp only [putW]) | (refine store1 hS rfl rfl rfl rfl rfl ?_ ?_; (focus (simp; done)); clear hS; intro w hS; simp only [evW, putW] at hS; try simp only [putW]) | (refine storeAll hS rfl rfl rfl rfl ?_ ?_ ?_ ?_; rfl; (focus (simp [Value.oneCell']; done)); rfl; clear hS; intro w hS; try simp only [putW]) | (refine storeN hS rfl rfl rfl rfl ?_ ?_ ?_ ?_; rfl; (focus (simp [Value.oneCell']; done)); (focus (simp; done)); clear hS; intro w hS; simp at hS; try simp only [putW]) | (refine alloc hS rfl rfl ?_; clear hS; intro mb w hS; simp only [putW]) | (refine box1 hS rfl rfl rfl rfl ?_; clear hS; intro mb w hS; try simp only [evW, putW] at hS; simp only [putW]) | (refine boxN hS rfl rfl rfl ?_; clear hS; intro mb w hS; simp only [putW]))
      go_roundg g
      case measure => omega
      case rel =>
        have h9 := hS.slOfSlc
        rw [List.length_set, HB2.out] at h9
        exact ⟨k + 1, _, by omega, by go_num, ⟨by rw [List.length_set]; exact HB2.out⟩, h9⟩
    | zero =>
      have d1 : decide ((k : Int) < (nB : Int)) = false := decide_eq_false (by omega)
      have d1n : decide (k < nB) = false := decide_eq_false (by omega)
      go_wp2_with (first | (guard_target =~ Calls _ 44 _ _ _; refine Stopped.out ?_) | (refine load1 hS rfl rfl rfl rfl ?_; simp only [putW]) | (refine loadAll hS rfl rfl rfl ?_ ?_; rfl; simp only [putW]) | (refine loadPart hS rfl rfl rfl ?_ rfl ?_; rfl; simp only [putW]) | (refine store1 hS rfl rfl rfl rfl rfl ?_ ?_; (focus (simp; done)); clear hS; intro w hS; simp only [evW, putW] at hS; try simp only [putW]) | (refine storeAll hS rfl rfl rfl rfl ?_ ?_ ?_ ?_; rfl; (focus (simp [Value.oneCell']; done)); rfl; clear hS; intro w hS; try simp only [putW]) | (refine storeN hS rfl rfl rfl rfl ?_ ?_ ?_ ?_; rfl; (focus (simp [Value.oneCell']; done)); (focus (simp; done)); clear hS; intro w hS; simp at hS; try simp only [putW]) | (refine alloc hS rfl rfl ?_; clear hS; intro mb w hS; simp only [putW]) | (refine box1 hS rfl rfl rfl rfl ?_; clear hS; intro mb w hS; try simp only [evW, putW] at hS; simp only [putW]) | (refine boxN hS rfl rfl rfl ?_; clear hS; intro mb w hS; simp only [putW]))
      refine ⟨?_⟩
      refine Calls.mono (refPut_old (X := X) (key := ky) (i := j) (A := B) (wr := wm) (vo := va) (B := A) (bb := bb) (K := (blk (.slice q1 nB c1), sl 1 by8 B2 5 (.slice q1 nB c1)) :: (t, cells (tbC T) 65) :: (T.fm, mapC encInt frV FL2) :: (7, frC FL2) :: (bp, cells (pairC t x) 55) :: (ba, cells (actC kd tk ky (.slice qB nB cB) wm bts) 44) :: (T.pm, mapC encW uV PW) :: (T.sm, mapC encInt (Value.int .i64) SL) :: (T.hp, HeatC now sp) :: K) HRB.out HOB.out.1 HJ.out HA.out HL.out hS.conv) ?_
      clear hS
      rintro _ w ⟨v3, rfl, hS⟩
      simp only [putW]
      go_wp2_with (first | (refine load1 hS rfl rfl rfl rfl ?_; simp only [putW]) | (refine loadAll hS rfl rfl rfl ?_ ?_; rfl; simp only [putW]) | (refine loadPart hS rfl rfl rfl ?_ rfl ?_; rfl; simp only [putW]) | (refine store1 hS rfl rfl rfl rfl rfl ?_ ?_; (focus (simp; done)); clear hS; intro w hS; simp only [evW, putW] at hS; try simp only [putW]) | (refine storeAll hS rfl rfl rfl rfl ?_ ?_ ?_ ?_; rfl; (focus (simp [Value.oneCell']; done)); rfl; clear hS; intro w hS; try simp only [putW]) | (refine storeN hS rfl rfl rfl rfl ?_ ?_ ?_ ?_; rfl; (focus (simp [Value.oneCell']; done)); (focus (simp; done)); clear hS; intro w hS; simp at hS; try simp only [putW]) | (refine alloc hS rfl rfl ?_; clear hS; intro mb w hS; simp only [putW]) | (refine box1 hS rfl rfl rfl rfl ?_; clear hS; intro mb w hS; try simp only [evW, putW] at hS; simp only [putW]) | (refine boxN hS rfl rfl rfl ?_; clear hS; intro mb w hS; simp only [putW]))
      go_ret
      refine ⟨rfl, FL2, PW, SL, now, sp, ⟨X.most, X.l.set j (ky, v3, B, bb || wm), X.pins, X.shares, X.now, X.heat⟩, ⟨?_, ?_⟩, hS.conv⟩
      · rw [← HF2.out]
        exact HT.out.1.over (x := (xa, xv, A, bb)) (v := v2) (v' := v3) (b := bb || wm) HX.out HJ.out rfl HOB.out
      · intro k hk
        rw [← HF2.out, mkeys_mput] at hk
        split at hk
        · exact HT.out.2 k hk
        · rename_i hni
          have h9 := HX.out
          rw [mget_none.2 hni] at h9
          cases h9
end
end Go.Proofs.Ytlkoclalcfeniaa
namespace Go.Proofs.Ytlkoclalcfeniaa
open Go.RowKit Go.Shelf Go.Proofs.Ytlkoclalcfeniaa.Sl Go.Proofs.Ytlkoclalcfeniaa.Jp

section
variable {w0 w : World} {K : List Chunk} {t x i : Nat} {T : Tb} {FL : Frs} {PW : PinsW} {SL : Shs} {now : Nat} {sp : Spots} {X : X13} {kd tk ky : Int} {vB : Value} {wm : Bool} {bts : Nat}
set_option maxRecDepth 100000 in
set_option maxHeartbeats 8000000 in
theorem do_4n (hn : mget FL ky = none) (ha : atX X.l ky 0 = -1) (hq : kd % 9 = 4) (h : Tie13 FL PW SL now sp T.most X i ∧ ∀ k ∈ mkeys FL, okI k) (hi : i ≤ 200) (hB : vB.oneCell' = true) (hS : Sat w0 ((x, X13C X) :: codeL T t FL PW SL now sp K) w) : Calls Try.prog 27 #[.agg (pairC t x), .agg (actC kd tk ky vB wm bts)] w fun e w' => e = .returned (.bool true) ∧ Bth w0 T t x (i + 1) K w' := by
  have HT : Bx _ := ⟨h⟩
  have HN : Bx _ := ⟨hn⟩
  have HA : Bx (atX X.l ky 0 = -1) := ⟨ha⟩
  clear h
  go_enter Try.func27, Try.ntmps27
  go_wp2_with (first | (refine boxN (cs := pairC t x) hS rfl rfl rfl ?_; clear hS; intro bp w hS; simp only [putW]) | (refine boxN (cs := actC kd tk ky vB wm bts) hS rfl rfl rfl ?_; clear hS; intro ba w hS; simp only [putW]) | (guard_target =~ Calls _ 40 _ _ _; refine Stopped.out ?_) | (refine load1 hS rfl rfl rfl rfl ?_; simp only [putW]) | (refine loadAll hS rfl rfl rfl ?_ ?_; rfl; simp only [putW]) | (refine loadPart hS rfl rfl rfl ?_ rfl ?_; rfl; simp only [putW]) | (refine store1 hS rfl rfl rfl rfl rfl ?_ ?_; (focus (simp; done)); clear hS; intro w hS; simp only [evW, putW] at hS; try simp only [putW]) | (refine storeAll hS rfl rfl rfl rfl ?_ ?_ ?_ ?_; rfl; (focus (simp [Value.oneCell']; done)); rfl; clear hS; intro w hS; try simp only [putW]) | (refine storeN hS rfl rfl rfl rfl ?_ ?_ ?_ ?_; rfl; (focus (simp [Value.oneCell']; done)); (focus (simp; done)); clear hS; intro w hS; simp at hS; try simp only [putW]) | (refine alloc hS rfl rfl ?_; clear hS; intro mb w hS; simp only [putW]) | (refine box1 hS rfl rfl rfl rfl ?_; clear hS; intro mb w hS; try simp only [evW, putW] at hS; simp only [putW]) | (refine boxN hS rfl rfl rfl ?_; clear hS; intro mb w hS; simp only [putW]))
  refine ⟨?_⟩
  refine Calls.mono (refAt_any (X := X) (key := ky) (K := (bp, cells (pairC t x) 55) :: (ba, cells (actC kd tk ky vB wm bts) 44) :: codeL T t FL PW SL now sp K) hS.conv) ?_
  clear hS
  rw [HA.out]
  rintro _ w ⟨rfl, hS⟩
  simp only [putW]
  go_wp2_with (first | (guard_target =~ Calls _ 8 _ _ _; refine Stopped.out ?_) | (refine load1 hS rfl rfl rfl rfl ?_; simp only [putW]) | (refine loadAll hS rfl rfl rfl ?_ ?_; rfl; simp only [putW]) | (refine loadPart hS rfl rfl rfl ?_ rfl ?_; rfl; simp only [putW]) | (refine store1 hS rfl rfl rfl rfl rfl ?_ ?_; (focus (simp; done)); clear hS; intro w hS; simp only [evW, putW] at hS; try simp only [putW]) | (refine storeAll hS rfl rfl rfl rfl ?_ ?_ ?_ ?_; rfl; (focus (simp [Value.oneCell']; done)); rfl; clear hS; intro w hS; try simp only [putW]) | (refine storeN hS rfl rfl rfl rfl ?_ ?_ ?_ ?_; rfl; (focus (simp [Value.oneCell']; done)); (focus (simp; done)); clear hS; intro w hS; simp at hS; try simp only [putW]) | (refine alloc hS rfl rfl ?_; clear hS; intro mb w hS; simp only [putW]) | (refine box1 hS rfl rfl rfl rfl ?_; clear hS; intro mb w hS; try simp only [evW, putW] at hS; simp only [putW]) | (refine boxN hS rfl rfl rfl ?_; clear hS; intro mb w hS; simp only [putW]))
  refine ⟨?_⟩
  refine Calls.mono (pick_sat kd 9 (by omega) (by omega) hS) ?_
  clear hS
  rintro _ w ⟨rfl, hS⟩
  rw [hq]
  simp only [putW]
  go_wp2_with (first | (guard_target =~ Calls _ 22 _ _ _; refine Stopped.out ?_) | (refine load1 hS rfl rfl rfl rfl ?_; simp only [putW]) | (refine loadAll hS rfl rfl rfl ?_ ?_; rfl; simp only [putW]) | (refine loadPart hS rfl rfl rfl ?_ rfl ?_; rfl; simp only [putW]) | (refine store1 hS rfl rfl rfl rfl rfl ?_ ?_; (focus (simp; done)); clear hS; intro w hS; simp only [evW, putW] at hS; try simp only [putW]) | (refine storeAll hS rfl rfl rfl rfl ?_ ?_ ?_ ?_; rfl; (focus (simp [Value.oneCell']; done)); rfl; clear hS; intro w hS; try simp only [putW]) | (refine storeN hS rfl rfl rfl rfl ?_ ?_ ?_ ?_; rfl; (focus (simp [Value.oneCell']; done)); (focus (simp; done)); clear hS; intro w hS; simp at hS; try simp only [putW]) | (refine alloc hS rfl rfl ?_; clear hS; intro mb w hS; simp only [putW]) | (refine box1 hS rfl rfl rfl rfl ?_; clear hS; intro mb w hS; try simp only [evW, putW] at hS; simp only [putW]) | (refine boxN hS rfl rfl rfl ?_; clear hS; intro mb w hS; simp only [putW]))
  refine ⟨?_⟩
  refine Calls.mono (get_absent (key := ky) HN.out (hS.conv (S' := (t, cells (tbC T) 65) :: (T.fm, mapC encInt frV FL) :: (x, X13C X) :: (bp, cells (pairC t x) 55) :: (ba, cells (actC kd tk ky vB wm bts) 44) :: (7, frC FL) :: (T.pm, mapC encW uV PW) :: (T.sm, mapC encInt (Value.int .i64) SL) :: (T.hp, HeatC now sp) :: K))) ?_
  clear hS
  rintro _ w ⟨rfl, hS⟩
  simp only [putW]
  go_wp2_with (first | (guard_target =~ Calls _ 45 _ _ _; refine Stopped.out ?_) | (refine load1 hS rfl rfl rfl rfl ?_; simp only [putW]) | (refine loadAll hS rfl rfl rfl ?_ ?_; rfl; simp only [putW]) | (refine loadPart hS rfl rfl rfl ?_ rfl ?_; rfl; simp only [putW]) | (refine store1 hS rfl rfl rfl rfl rfl ?_ ?_; (focus (simp; done)); clear hS; intro w hS; simp only [evW, putW] at hS; try simp only [putW]) | (refine storeAll hS rfl rfl rfl rfl ?_ ?_ ?_ ?_; rfl; (focus (simp [Value.oneCell']; done)); rfl; clear hS; intro w hS; try simp only [putW]) | (refine storeN hS rfl rfl rfl rfl ?_ ?_ ?_ ?_; rfl; (focus (simp [Value.oneCell']; done)); (focus (simp; done)); clear hS; intro w hS; simp at hS; try simp only [putW]) | (refine alloc hS rfl rfl ?_; clear hS; intro mb w hS; simp only [putW]) | (refine box1 hS rfl rfl rfl rfl ?_; clear hS; intro mb w hS; try simp only [evW, putW] at hS; simp only [putW]) | (refine boxN hS rfl rfl rfl ?_; clear hS; intro mb w hS; simp only [putW]))
  refine ⟨?_⟩
  refine Calls.mono (refGet_none (X := X) (key := ky) (K := (t, cells (tbC T) 65) :: (T.fm, mapC encInt frV FL) :: (bp, cells (pairC t x) 55) :: (ba, cells (actC kd tk ky vB wm bts) 44) :: (7, frC FL) :: (T.pm, mapC encW uV PW) :: (T.sm, mapC encInt (Value.int .i64) SL) :: (T.hp, HeatC now sp) :: K) HA.out hS.conv) ?_
  clear hS
  rintro _ w ⟨rfl, hS⟩
  simp only [putW]
  go_wp2_with (first | (guard_target =~ Calls _ 23 _ _ _; refine Stopped.out ?_) | (refine load1 hS rfl rfl rfl rfl ?_; simp only [putW]) | (refine loadAll hS rfl rfl rfl ?_ ?_; rfl; simp only [putW]) | (refine loadPart hS rfl rfl rfl ?_ rfl ?_; rfl; simp only [putW]) | (refine store1 hS rfl rfl rfl rfl rfl ?_ ?_; (focus (simp; done)); clear hS; intro w hS; simp only [evW, putW] at hS; try simp only [putW]) | (refine storeAll hS rfl rfl rfl rfl ?_ ?_ ?_ ?_; rfl; (focus (simp [Value.oneCell']; done)); rfl; clear hS; intro w hS; try simp only [putW]) | (refine storeN hS rfl rfl rfl rfl ?_ ?_ ?_ ?_; rfl; (focus (simp [Value.oneCell']; done)); (focus (simp; done)); clear hS; intro w hS; simp at hS; try simp only [putW]) | (refine alloc hS rfl rfl ?_; clear hS; intro mb w hS; simp only [putW]) | (refine box1 hS rfl rfl rfl rfl ?_; clear hS; intro mb w hS; try simp only [evW, putW] at hS; simp only [putW]) | (refine boxN hS rfl rfl rfl ?_; clear hS; intro mb w hS; simp only [putW]))
  refine ⟨?_⟩
  have hnil : ∀ w : World, RB w [] (.slice none 0 0) := fun w => .inl ⟨rfl, .inl rfl⟩
  (refine Calls.mono (same_any (hnil _) (hnil _)) ?_; rintro _ w2 ⟨rfl, h2⟩; replace hS := hS.frame h2; clear h2; (try simp only [List.cons_append, List.nil_append] at hS); simp only [putW])
  try simp only [decide_true]
  go_wp2_with (first | (refine load1 hS rfl rfl rfl rfl ?_; simp only [putW]) | (refine loadAll hS rfl rfl rfl ?_ ?_; rfl; simp only [putW]) | (refine loadPart hS rfl rfl rfl ?_ rfl ?_; rfl; simp only [putW]) | (refine store1 hS rfl rfl rfl rfl rfl ?_ ?_; (focus (simp; done)); clear hS; intro w hS; simp only [evW, putW] at hS; try simp only [putW]) | (refine storeAll hS rfl rfl rfl rfl ?_ ?_ ?_ ?_; rfl; (focus (simp [Value.oneCell']; done)); rfl; clear hS; intro w hS; try simp only [putW]) | (refine storeN hS rfl rfl rfl rfl ?_ ?_ ?_ ?_; rfl; (focus (simp [Value.oneCell']; done)); (focus (simp; done)); clear hS; intro w hS; simp at hS; try simp only [putW]) | (refine alloc hS rfl rfl ?_; clear hS; intro mb w hS; simp only [putW]) | (refine box1 hS rfl rfl rfl rfl ?_; clear hS; intro mb w hS; try simp only [evW, putW] at hS; simp only [putW]) | (refine boxN hS rfl rfl rfl ?_; clear hS; intro mb w hS; simp only [putW]))
  go_loopg [14] 0 (fun g iv wq => iv = .int .i64 0 ∧ Sat w0 ((x, X13C X) :: (t, cells (tbC T) 65) :: (T.fm, mapC encInt frV FL) :: (bp, cells (pairC t x) 55) :: (ba, cells (actC kd tk ky vB wm bts) 44) :: (7, frC FL) :: (T.pm, mapC encW uV PW) :: (T.sm, mapC encInt (Value.int .i64) SL) :: (T.hp, HeatC now sp) :: K) wq)
  case atStart => exact ⟨rfl, hS⟩
  case round =>
    clear hS
    obtain ⟨rfl, hS⟩ := hrel
    go_wp2_with (first | (refine load1 hS rfl rfl rfl rfl ?_; simp only [putW]) | (refine loadAll hS rfl rfl rfl ?_ ?_; rfl; simp only [putW]) | (refine loadPart hS rfl rfl rfl ?_ rfl ?_; rfl; simp only [putW]) | (refine store1 hS rfl rfl rfl rfl rfl ?_ ?_; (focus (simp; done)); clear hS; intro w hS; simp only [evW, putW] at hS; try simp only [putW]) | (refine storeAll hS rfl rfl rfl rfl ?_ ?_ ?_ ?_; rfl; (focus (simp [Value.oneCell']; done)); rfl; clear hS; intro w hS; try simp only [putW]) | (refine storeN hS rfl rfl rfl rfl ?_ ?_ ?_ ?_; rfl; (focus (simp [Value.oneCell']; done)); (focus (simp; done)); clear hS; intro w hS; simp at hS; try simp only [putW]) | (refine alloc hS rfl rfl ?_; clear hS; intro mb w hS; simp only [putW]) | (refine box1 hS rfl rfl rfl rfl ?_; clear hS; intro mb w hS; try simp only [evW, putW] at hS; simp only [putW]) | (refine boxN hS rfl rfl rfl ?_; clear hS; intro mb w hS; simp only [putW]))
    go_ret
    exact ⟨rfl, FL, PW, SL, now, sp, X, ⟨HT.out.1.up, HT.out.2⟩, hS.conv⟩
set_option maxRecDepth 100000 in
set_option maxHeartbeats 8000000 in
theorem do_4 {j : Nat} {xa : Option Addr} {xv va : Value} {A : List Int} {bb : Bool} (hx : mget FL ky = some (xa, xv, A, bb)) (hj : X.l[j]? = some (ky, va, A, bb)) (ha : atX X.l ky 0 = j) (hq : kd % 9 = 4) (h : Tie13 FL PW SL now sp T.most X i ∧ ∀ k ∈ mkeys FL, okI k) (hi : i ≤ 200) (hB : vB.oneCell' = true) (hS : Sat w0 ((x, X13C X) :: codeL T t FL PW SL now sp K) w) : Calls Try.prog 27 #[.agg (pairC t x), .agg (actC kd tk ky vB wm bts)] w fun e w' => e = .returned (.bool true) ∧ Bth w0 T t x (i + 1) K w' := by
  have HT : Bx _ := ⟨h⟩
  have HX : Bx _ := ⟨hx⟩
  have HJ : Bx _ := ⟨hj⟩
  have hj0 : (0 : Int) ≤ (j : Int) := by omega
  have HOA : Bx (A.length ≤ 1000000 ∧ ∀ b ∈ A, okByte b) := ⟨h.1.xo _ (List.mem_of_getElem? hj)⟩
  have HNow : Bx (now ≤ 900000 ∧ X.heat.length ≤ 900 ∧ X.now ≤ 20000 ∧ SpN X.now X.heat) := ⟨by have := h.1.nb; omega, by have := h.1.hl; omega, by rw [h.1.nw]; have := h.1.nb; omega, by rw [h.1.nw]; exact h.1.sn⟩
  have HA : Bx (atX X.l ky 0 = (j : Int)) := ⟨ha⟩
  clear h
  go_enter Try.func27, Try.ntmps27
  go_wp2_with (first | (refine boxN (cs := pairC t x) hS rfl rfl rfl ?_; clear hS; intro bp w hS; simp only [putW]) | (refine boxN (cs := actC kd tk ky vB wm bts) hS rfl rfl rfl ?_; clear hS; intro ba w hS; simp only [putW]) | (guard_target =~ Calls _ 40 _ _ _; refine Stopped.out ?_) | (refine load1 hS rfl rfl rfl rfl ?_; simp only [putW]) | (refine loadAll hS rfl rfl rfl ?_ ?_; rfl; simp only [putW]) | (refine loadPart hS rfl rfl rfl ?_ rfl ?_; rfl; simp only [putW]) | (refine store1 hS rfl rfl rfl rfl rfl ?_ ?_; (focus (simp; done)); clear hS; intro w hS; simp only [evW, putW] at hS; try simp only [putW]) | (refine storeAll hS rfl rfl rfl rfl ?_ ?_ ?_ ?_; rfl; (focus (simp [Value.oneCell']; done)); rfl; clear hS; intro w hS; try simp only [putW]) | (refine storeN hS rfl rfl rfl rfl ?_ ?_ ?_ ?_; rfl; (focus (simp [Value.oneCell']; done)); (focus (simp; done)); clear hS; intro w hS; simp at hS; try simp only [putW]) | (refine alloc hS rfl rfl ?_; clear hS; intro mb w hS; simp only [putW]) | (refine box1 hS rfl rfl rfl rfl ?_; clear hS; intro mb w hS; try simp only [evW, putW] at hS; simp only [putW]) | (refine boxN hS rfl rfl rfl ?_; clear hS; intro mb w hS; simp only [putW]))
  refine ⟨?_⟩
  refine Calls.mono (refAt_any (X := X) (key := ky) (K := (bp, cells (pairC t x) 55) :: (ba, cells (actC kd tk ky vB wm bts) 44) :: codeL T t FL PW SL now sp K) hS.conv) ?_
  clear hS
  rw [HA.out]
  rintro _ w ⟨rfl, hS⟩
  simp only [putW]
  go_wp2_with (first | (guard_target =~ Calls _ 8 _ _ _; refine Stopped.out ?_) | (refine load1 hS rfl rfl rfl rfl ?_; simp only [putW]) | (refine loadAll hS rfl rfl rfl ?_ ?_; rfl; simp only [putW]) | (refine loadPart hS rfl rfl rfl ?_ rfl ?_; rfl; simp only [putW]) | (refine store1 hS rfl rfl rfl rfl rfl ?_ ?_; (focus (simp; done)); clear hS; intro w hS; simp only [evW, putW] at hS; try simp only [putW]) | (refine storeAll hS rfl rfl rfl rfl ?_ ?_ ?_ ?_; rfl; (focus (simp [Value.oneCell']; done)); rfl; clear hS; intro w hS; try simp only [putW]) | (refine storeN hS rfl rfl rfl rfl ?_ ?_ ?_ ?_; rfl; (focus (simp [Value.oneCell']; done)); (focus (simp; done)); clear hS; intro w hS; simp at hS; try simp only [putW]) | (refine alloc hS rfl rfl ?_; clear hS; intro mb w hS; simp only [putW]) | (refine box1 hS rfl rfl rfl rfl ?_; clear hS; intro mb w hS; try simp only [evW, putW] at hS; simp only [putW]) | (refine boxN hS rfl rfl rfl ?_; clear hS; intro mb w hS; simp only [putW]))
  refine ⟨?_⟩
  refine Calls.mono (pick_sat kd 9 (by omega) (by omega) hS) ?_
  clear hS
  rintro _ w ⟨rfl, hS⟩
  rw [hq]
  simp only [putW]
  go_wp2_with (first | (guard_target =~ Calls _ 22 _ _ _; refine Stopped.out ?_) | (refine load1 hS rfl rfl rfl rfl ?_; simp only [putW]) | (refine loadAll hS rfl rfl rfl ?_ ?_; rfl; simp only [putW]) | (refine loadPart hS rfl rfl rfl ?_ rfl ?_; rfl; simp only [putW]) | (refine store1 hS rfl rfl rfl rfl rfl ?_ ?_; (focus (simp; done)); clear hS; intro w hS; simp only [evW, putW] at hS; try simp only [putW]) | (refine storeAll hS rfl rfl rfl rfl ?_ ?_ ?_ ?_; rfl; (focus (simp [Value.oneCell']; done)); rfl; clear hS; intro w hS; try simp only [putW]) | (refine storeN hS rfl rfl rfl rfl ?_ ?_ ?_ ?_; rfl; (focus (simp [Value.oneCell']; done)); (focus (simp; done)); clear hS; intro w hS; simp at hS; try simp only [putW]) | (refine alloc hS rfl rfl ?_; clear hS; intro mb w hS; simp only [putW]) | (refine box1 hS rfl rfl rfl rfl ?_; clear hS; intro mb w hS; try simp only [evW, putW] at hS; simp only [putW]) | (refine boxN hS rfl rfl rfl ?_; clear hS; intro mb w hS; simp only [putW]))
  refine ⟨?_⟩
  refine Calls.mono (get_any (T := T) (key := ky) (x := (xa, xv, A, bb)) (now := now) (sp := sp) (FL := FL) (K := (x, X13C X) :: (bp, cells (pairC t x) 55) :: (ba, cells (actC kd tk ky vB wm bts) 44) :: (T.pm, mapC encW uV PW) :: (T.sm, mapC encInt (Value.int .i64) SL) :: K) HX.out HT.out.1.fo HNow.out.1 HT.out.1.so hS.conv) ?_
  clear hS
  rintro _ w ⟨r, v1, rfl, hr, hS⟩
  have HRr : Bx _ := ⟨hr⟩
  clear hr
  obtain ⟨nA, hnA⟩ : ∃ n, A.length = n := ⟨_, rfl⟩
  have HnA : Bx _ := ⟨hnA⟩
  have hA4 : nA ≤ 1000000 := by rw [← hnA]; exact HOA.out.1
  clear hnA
  obtain ⟨q1, c1, hs1⟩ := shapeN hS HnA.out
  subst hs1
  simp only [putW]
  go_wp2_with (first | (guard_target =~ Calls _ 45 _ _ _; refine Stopped.out ?_) | (refine load1 hS rfl rfl rfl rfl ?_; simp only [putW]) | (refine loadAll hS rfl rfl rfl ?_ ?_; rfl; simp only [putW]) | (refine loadPart hS rfl rfl rfl ?_ rfl ?_; rfl; simp only [putW]) | (refine store1 hS rfl rfl rfl rfl rfl ?_ ?_; (focus (simp; done)); clear hS; intro w hS; simp only [evW, putW] at hS; try simp only [putW]) | (refine storeAll hS rfl rfl rfl rfl ?_ ?_ ?_ ?_; rfl; (focus (simp [Value.oneCell']; done)); rfl; clear hS; intro w hS; try simp only [putW]) | (refine storeN hS rfl rfl rfl rfl ?_ ?_ ?_ ?_; rfl; (focus (simp [Value.oneCell']; done)); (focus (simp; done)); clear hS; intro w hS; simp at hS; try simp only [putW]) | (refine alloc hS rfl rfl ?_; clear hS; intro mb w hS; simp only [putW]) | (refine box1 hS rfl rfl rfl rfl ?_; clear hS; intro mb w hS; try simp only [evW, putW] at hS; simp only [putW]) | (refine boxN hS rfl rfl rfl ?_; clear hS; intro mb w hS; simp only [putW]))
  refine ⟨?_⟩
  refine Calls.mono (refGet_some (X := X) (key := ky) (i := j) (va := va) (A := A) (bb := bb) (K := (blk (.slice q1 nA c1), sl 1 by8 A 5 (.slice q1 nA c1)) :: (t, cells (tbC T) 65) :: (T.fm, mapC encInt frV FL) :: (7, frC FL) :: (T.hp, HeatC (now + 1) (mput sp ky (r, ((now + 1 : Nat) : Int)))) :: (bp, cells (pairC t x) 55) :: (ba, cells (actC kd tk ky vB wm bts) 44) :: (T.pm, mapC encW uV PW) :: (T.sm, mapC encInt (Value.int .i64) SL) :: K) HJ.out HA.out HT.out.1.xo HNow.out.2.1 HNow.out.2.2.1 HNow.out.2.2.2 hS.conv) ?_
  clear hS
  rintro _ w ⟨v2, rfl, hS⟩
  obtain ⟨q2, c2, hs2⟩ := shapeN hS HnA.out
  subst hs2
  simp only [putW]
  go_wp2_with (first | (guard_target =~ Calls _ 23 _ _ _; refine Stopped.out ?_) | (refine load1 hS rfl rfl rfl rfl ?_; simp only [putW]) | (refine loadAll hS rfl rfl rfl ?_ ?_; rfl; simp only [putW]) | (refine loadPart hS rfl rfl rfl ?_ rfl ?_; rfl; simp only [putW]) | (refine store1 hS rfl rfl rfl rfl rfl ?_ ?_; (focus (simp; done)); clear hS; intro w hS; simp only [evW, putW] at hS; try simp only [putW]) | (refine storeAll hS rfl rfl rfl rfl ?_ ?_ ?_ ?_; rfl; (focus (simp [Value.oneCell']; done)); rfl; clear hS; intro w hS; try simp only [putW]) | (refine storeN hS rfl rfl rfl rfl ?_ ?_ ?_ ?_; rfl; (focus (simp [Value.oneCell']; done)); (focus (simp; done)); clear hS; intro w hS; simp at hS; try simp only [putW]) | (refine alloc hS rfl rfl ?_; clear hS; intro mb w hS; simp only [putW]) | (refine box1 hS rfl rfl rfl rfl ?_; clear hS; intro mb w hS; try simp only [evW, putW] at hS; simp only [putW]) | (refine boxN hS rfl rfl rfl ?_; clear hS; intro mb w hS; simp only [putW]))
  refine ⟨?_⟩
  have hr1 : RB _ A (.slice q1 nA c1) := (hS.conv (S' := (blk (.slice q1 nA c1), sl 1 by8 A 5 (.slice q1 nA c1)) :: [])).readsSl HOA.out.2
  have hr2 : RB _ A (.slice q2 nA c2) := (hS.conv (S' := (blk (.slice q2 nA c2), sl 1 by8 A 5 (.slice q2 nA c2)) :: [])).readsSl HOA.out.2
  (refine Calls.mono (same_any hr1 hr2) ?_; rintro _ w2 ⟨rfl, h2⟩; replace hS := hS.frame h2; clear h2; (try simp only [List.cons_append, List.nil_append] at hS); simp only [putW])
  clear hr1 hr2
  try simp only [decide_true]
  go_wp2_with (first | (refine load1 hS rfl rfl rfl rfl ?_; simp only [putW]) | (refine loadAll hS rfl rfl rfl ?_ ?_; rfl; simp only [putW]) | (refine loadPart hS rfl rfl rfl ?_ rfl ?_; rfl; simp only [putW]) | (refine store1 hS rfl rfl rfl rfl rfl ?_ ?_; (focus (simp; done)); clear hS; intro w hS; simp only [evW, putW] at hS; try simp only [putW]) | (refine storeAll hS rfl rfl rfl rfl ?_ ?_ ?_ ?_; rfl; (focus (simp [Value.oneCell']; done)); rfl; clear hS; intro w hS; try simp only [putW]) | (refine storeN hS rfl rfl rfl rfl ?_ ?_ ?_ ?_; rfl; (focus (simp [Value.oneCell']; done)); (focus (simp; done)); clear hS; intro w hS; simp at hS; try simp only [putW]) | (refine alloc hS rfl rfl ?_; clear hS; intro mb w hS; simp only [putW]) | (refine box1 hS rfl rfl rfl rfl ?_; clear hS; intro mb w hS; try simp only [evW, putW] at hS; simp only [putW]) | (refine boxN hS rfl rfl rfl ?_; clear hS; intro mb w hS; simp only [putW]))
  go_loopg [14] nA (fun g iv wq => ∃ (k : Nat) (B2 : List Int), k + g = nA ∧ iv = .int .i64 k ∧ Bx (B2.length = nA) ∧ Sat w0 ((blk (.slice q1 nA c1), sl 1 by8 B2 5 (.slice q1 nA c1)) :: (x, X13C (touT X ky 4607182418800017408)) :: (t, cells (tbC T) 65) :: (T.fm, mapC encInt frV FL) :: (7, frC FL) :: (T.hp, HeatC (now + 1) (mput sp ky (r, ((now + 1 : Nat) : Int)))) :: (bp, cells (pairC t x) 55) :: (ba, cells (actC kd tk ky vB wm bts) 44) :: (T.pm, mapC encW uV PW) :: (T.sm, mapC encInt (Value.int .i64) SL) :: K) wq)
  case atStart => exact ⟨0, A, by omega, rfl, HnA, hS.conv⟩
  case round =>
    clear hS
    obtain ⟨k, B2, hkn, rfl, HB2, hS⟩ := hrel
    cases gk with
    | succ g =>
      have hlt : k < nA := by omega
      have d1 : decide ((k : Int) < (nA : Int)) = true := decide_eq_true (by omega)
      have d1n : decide (k < nA) = true := decide_eq_true hlt
      obtain ⟨bv, hbv⟩ : ∃ y, B2[k]? = some y := ⟨_, List.getElem?_eq_getElem (by rw [HB2.out]; exact hlt)⟩
      obtain ⟨gq, hqq, hcq, hS2⟩ := openS hS HB2.out (by omega)
      subst hqq
      clear hS
      have hS := hS2
      clear hS2
      have HBv : Bx _ := ⟨hbv⟩
      have hkl : k < B2.length := by rw [HB2.out]; exact hlt
      clear hbv
      go_wp2_with (first | (refine loadS1 (v1 := Value.int .u8) hS rfl rfl rfl HBv.out ?_; simp only [putW]) | (refine storeS1 (v1 := Value.int .u8) hS rfl rfl rfl _ rfl rfl ?_ ?_; (focus (first | omega | (simp [maxLen]; done) | (simp [maxLen]; omega))); clear hS; intro w hS; try simp only [putW]) | (refine load1 hS rfl rfl rfl rfl ?_; simp only [putW]) | (refine loadAll hS rfl rfl rfl ?_ ?_; rfl; simp only [putW]) | (refine loadPart hS rfl rfl rfl ?_ rfl ?_; rfl; simp only [putW]) | (refine store1 hS rfl rfl rfl rfl rfl ?_ ?_; (focus (simp; done)); clear hS; intro w hS; simp only [evW, putW] at hS; try simp only [putW]) | (refine storeAll hS rfl rfl rfl rfl ?_ ?_ ?_ ?_; rfl; (focus (simp [Value.oneCell']; done)); rfl; clear hS; intro w hS; try simp only [putW]) | (refine storeN hS rfl rfl rfl rfl ?_ ?_ ?_ ?_; rfl; (focus (simp [Value.oneCell']; done)); (focus (simp; done)); clear hS; intro w hS; simp at hS; try simp only [putW]) | (refine alloc hS rfl rfl ?_; clear hS; intro mb w hS; simp only [putW]) | (refine box1 hS rfl rfl rfl rfl ?_; clear hS; intro mb w hS; try simp only [evW, putW] at hS; simp only [putW]) | (refine boxN hS rfl rfl rfl ?_; clear hS; intro mb w hS; simp only [putW]))
      go_roundg g
      case measure => omega
      case rel =>
        have h9 := hS.slOfSlc
        rw [List.length_set, HB2.out] at h9
        exact ⟨k + 1, _, by omega, by go_num, ⟨by rw [List.length_set]; exact HB2.out⟩, h9⟩
    | zero =>
      have d1 : decide ((k : Int) < (nA : Int)) = false := decide_eq_false (by omega)
      have d1n : decide (k < nA) = false := decide_eq_false (by omega)
      go_wp2_with (first | (refine load1 hS rfl rfl rfl rfl ?_; simp only [putW]) | (refine loadAll hS rfl rfl rfl ?_ ?_; rfl; simp only [putW]) | (refine loadPart hS rfl rfl rfl ?_ rfl ?_; rfl; simp only [putW]) | (refine store1 hS rfl rfl rfl rfl rfl ?_ ?_; (focus (simp; done)); clear hS; intro w hS; simp only [evW, putW] at hS; try simp only [putW]) | (refine storeAll hS rfl rfl rfl rfl ?_ ?_ ?_ ?_; rfl; (focus (simp [Value.oneCell']; done)); rfl; clear hS; intro w hS; try simp only [putW]) | (refine storeN hS rfl rfl rfl rfl ?_ ?_ ?_ ?_; rfl; (focus (simp [Value.oneCell']; done)); (focus (simp; done)); clear hS; intro w hS; simp at hS; try simp only [putW]) | (refine alloc hS rfl rfl ?_; clear hS; intro mb w hS; simp only [putW]) | (refine box1 hS rfl rfl rfl rfl ?_; clear hS; intro mb w hS; try simp only [evW, putW] at hS; simp only [putW]) | (refine boxN hS rfl rfl rfl ?_; clear hS; intro mb w hS; simp only [putW]))
      go_ret
      exact ⟨rfl, FL, PW, SL, now + 1, mput sp ky (r, ((now + 1 : Nat) : Int)), touT X ky 4607182418800017408, ⟨HT.out.1.touch HRr.out, HT.out.2⟩, hS.conv⟩
end
end Go.Proofs.Ytlkoclalcfeniaa
namespace Go.Proofs.Ytlkoclalcfeniaa
open Go.RowKit Go.Shelf Go.Proofs.Ytlkoclalcfeniaa.Sl Go.Proofs.Ytlkoclalcfeniaa.Jp

section
variable {w0 w : World} {K : List Chunk} {t x i : Nat} {T : Tb} {FL : Frs} {PW : PinsW} {SL : Shs} {now : Nat} {sp : Spots} {X : X13} {kd tk ky : Int} {vB : Value} {wr : Bool} {bts : Nat}
set_option maxRecDepth 100000 in
set_option maxHeartbeats 8000000 in
theorem do_5n (hn : mget FL ky = none) (ha : atX X.l ky 0 = -1) (hq : kd % 9 = 5) (h : Tie13 FL PW SL now sp T.most X i ∧ ∀ k ∈ mkeys FL, okI k) (hi : i ≤ 200) (hB : vB.oneCell' = true) (hS : Sat w0 ((x, X13C X) :: codeL T t FL PW SL now sp K) w) : Calls Try.prog 27 #[.agg (pairC t x), .agg (actC kd tk ky vB wr bts)] w fun e w' => e = .returned (.bool true) ∧ Bth w0 T t x (i + 1) K w' := by
  have HT : Bx _ := ⟨h⟩
  have HN : Bx _ := ⟨hn⟩
  have HA : Bx (atX X.l ky 0 = -1) := ⟨ha⟩
  clear h
  go_enter Try.func27, Try.ntmps27
  go_wp2_with (first | (refine boxN (cs := pairC t x) hS rfl rfl rfl ?_; clear hS; intro bp w hS; simp only [putW]) | (refine boxN (cs := actC kd tk ky vB wr bts) hS rfl rfl rfl ?_; clear hS; intro ba w hS; simp only [putW]) | (guard_target =~ Calls _ 40 _ _ _; refine Stopped.out ?_) | (refine load1 hS rfl rfl rfl rfl ?_; simp only [putW]) | (refine loadAll hS rfl rfl rfl ?_ ?_; rfl; simp only [putW]) | (refine loadPart hS rfl rfl rfl ?_ rfl ?_; rfl; simp only [putW]) | (refine store1 hS rfl rfl rfl rfl rfl ?_ ?_; (focus (simp; done)); clear hS; intro w hS; simp only [evW, putW] at hS; try simp only [putW]) | (refine storeAll hS rfl rfl rfl rfl ?_ ?_ ?_ ?_; rfl; (focus (simp [Value.oneCell']; done)); rfl; clear hS; intro w hS; try simp only [putW]) | (refine storeN hS rfl rfl rfl rfl ?_ ?_ ?_ ?_; rfl; (focus (simp [Value.oneCell']; done)); (focus (simp; done)); clear hS; intro w hS; simp at hS; try simp only [putW]) | (refine alloc hS rfl rfl ?_; clear hS; intro mb w hS; simp only [putW]) | (refine box1 hS rfl rfl rfl rfl ?_; clear hS; intro mb w hS; try simp only [evW, putW] at hS; simp only [putW]) | (refine boxN hS rfl rfl rfl ?_; clear hS; intro mb w hS; simp only [putW]))
  refine ⟨?_⟩
  refine Calls.mono (refAt_any (X := X) (key := ky) (K := (bp, cells (pairC t x) 55) :: (ba, cells (actC kd tk ky vB wr bts) 44) :: codeL T t FL PW SL now sp K) hS.conv) ?_
  clear hS
  rw [HA.out]
  rintro _ w ⟨rfl, hS⟩
  simp only [putW]
  go_wp2_with (first | (guard_target =~ Calls _ 8 _ _ _; refine Stopped.out ?_) | (refine load1 hS rfl rfl rfl rfl ?_; simp only [putW]) | (refine loadAll hS rfl rfl rfl ?_ ?_; rfl; simp only [putW]) | (refine loadPart hS rfl rfl rfl ?_ rfl ?_; rfl; simp only [putW]) | (refine store1 hS rfl rfl rfl rfl rfl ?_ ?_; (focus (simp; done)); clear hS; intro w hS; simp only [evW, putW] at hS; try simp only [putW]) | (refine storeAll hS rfl rfl rfl rfl ?_ ?_ ?_ ?_; rfl; (focus (simp [Value.oneCell']; done)); rfl; clear hS; intro w hS; try simp only [putW]) | (refine storeN hS rfl rfl rfl rfl ?_ ?_ ?_ ?_; rfl; (focus (simp [Value.oneCell']; done)); (focus (simp; done)); clear hS; intro w hS; simp at hS; try simp only [putW]) | (refine alloc hS rfl rfl ?_; clear hS; intro mb w hS; simp only [putW]) | (refine box1 hS rfl rfl rfl rfl ?_; clear hS; intro mb w hS; try simp only [evW, putW] at hS; simp only [putW]) | (refine boxN hS rfl rfl rfl ?_; clear hS; intro mb w hS; simp only [putW]))
  refine ⟨?_⟩
  refine Calls.mono (pick_sat kd 9 (by omega) (by omega) hS) ?_
  clear hS
  rintro _ w ⟨rfl, hS⟩
  rw [hq]
  simp only [putW]
  go_wp2_with (first | (guard_target =~ Calls _ 24 _ _ _; refine Stopped.out ?_) | (refine load1 hS rfl rfl rfl rfl ?_; simp only [putW]) | (refine loadAll hS rfl rfl rfl ?_ ?_; rfl; simp only [putW]) | (refine loadPart hS rfl rfl rfl ?_ rfl ?_; rfl; simp only [putW]) | (refine store1 hS rfl rfl rfl rfl rfl ?_ ?_; (focus (simp; done)); clear hS; intro w hS; simp only [evW, putW] at hS; try simp only [putW]) | (refine storeAll hS rfl rfl rfl rfl ?_ ?_ ?_ ?_; rfl; (focus (simp [Value.oneCell']; done)); rfl; clear hS; intro w hS; try simp only [putW]) | (refine storeN hS rfl rfl rfl rfl ?_ ?_ ?_ ?_; rfl; (focus (simp [Value.oneCell']; done)); (focus (simp; done)); clear hS; intro w hS; simp at hS; try simp only [putW]) | (refine alloc hS rfl rfl ?_; clear hS; intro mb w hS; simp only [putW]) | (refine box1 hS rfl rfl rfl rfl ?_; clear hS; intro mb w hS; try simp only [evW, putW] at hS; simp only [putW]) | (refine boxN hS rfl rfl rfl ?_; clear hS; intro mb w hS; simp only [putW]))
  refine ⟨?_⟩
  refine Calls.mono (clean_absent (key := ky) HN.out (hS.conv (S' := (t, cells (tbC T) 65) :: (T.fm, mapC encInt frV FL) :: (x, X13C X) :: (bp, cells (pairC t x) 55) :: (ba, cells (actC kd tk ky vB wr bts) 44) :: (7, frC FL) :: (T.pm, mapC encW uV PW) :: (T.sm, mapC encInt (Value.int .i64) SL) :: (T.hp, HeatC now sp) :: K))) ?_
  clear hS
  rintro _ w ⟨rfl, hS⟩
  simp only [putW]
  go_wp2_with (first | (refine load1 hS rfl rfl rfl rfl ?_; simp only [putW]) | (refine loadAll hS rfl rfl rfl ?_ ?_; rfl; simp only [putW]) | (refine loadPart hS rfl rfl rfl ?_ rfl ?_; rfl; simp only [putW]) | (refine store1 hS rfl rfl rfl rfl rfl ?_ ?_; (focus (simp; done)); clear hS; intro w hS; simp only [evW, putW] at hS; try simp only [putW]) | (refine storeAll hS rfl rfl rfl rfl ?_ ?_ ?_ ?_; rfl; (focus (simp [Value.oneCell']; done)); rfl; clear hS; intro w hS; try simp only [putW]) | (refine storeN hS rfl rfl rfl rfl ?_ ?_ ?_ ?_; rfl; (focus (simp [Value.oneCell']; done)); (focus (simp; done)); clear hS; intro w hS; simp at hS; try simp only [putW]) | (refine alloc hS rfl rfl ?_; clear hS; intro mb w hS; simp only [putW]) | (refine box1 hS rfl rfl rfl rfl ?_; clear hS; intro mb w hS; try simp only [evW, putW] at hS; simp only [putW]) | (refine boxN hS rfl rfl rfl ?_; clear hS; intro mb w hS; simp only [putW]))
  go_ret
  exact ⟨rfl, FL, PW, SL, now, sp, X, ⟨HT.out.1.up, HT.out.2⟩, hS.conv⟩
set_option maxRecDepth 100000 in
set_option maxHeartbeats 8000000 in
theorem do_5 {j : Nat} {xa : Option Addr} {xv va : Value} {A : List Int} {bb : Bool} (hx : mget FL ky = some (xa, xv, A, bb)) (hj : X.l[j]? = some (ky, va, A, bb)) (ha : atX X.l ky 0 = j) (hq : kd % 9 = 5) (h : Tie13 FL PW SL now sp T.most X i ∧ ∀ k ∈ mkeys FL, okI k) (hi : i ≤ 200) (hB : vB.oneCell' = true) (hS : Sat w0 ((x, X13C X) :: codeL T t FL PW SL now sp K) w) : Calls Try.prog 27 #[.agg (pairC t x), .agg (actC kd tk ky vB wr bts)] w fun e w' => e = .returned (.bool true) ∧ Bth w0 T t x (i + 1) K w' := by
  have HT : Bx _ := ⟨h⟩
  have HX : Bx _ := ⟨hx⟩
  have HJ : Bx _ := ⟨hj⟩
  have hj0 : (0 : Int) ≤ (j : Int) := by omega
  have HA : Bx (atX X.l ky 0 = (j : Int)) := ⟨ha⟩
  clear h
  go_enter Try.func27, Try.ntmps27
  go_wp2_with (first | (refine boxN (cs := pairC t x) hS rfl rfl rfl ?_; clear hS; intro bp w hS; simp only [putW]) | (refine boxN (cs := actC kd tk ky vB wr bts) hS rfl rfl rfl ?_; clear hS; intro ba w hS; simp only [putW]) | (guard_target =~ Calls _ 40 _ _ _; refine Stopped.out ?_) | (refine load1 hS rfl rfl rfl rfl ?_; simp only [putW]) | (refine loadAll hS rfl rfl rfl ?_ ?_; rfl; simp only [putW]) | (refine loadPart hS rfl rfl rfl ?_ rfl ?_; rfl; simp only [putW]) | (refine store1 hS rfl rfl rfl rfl rfl ?_ ?_; (focus (simp; done)); clear hS; intro w hS; simp only [evW, putW] at hS; try simp only [putW]) | (refine storeAll hS rfl rfl rfl rfl ?_ ?_ ?_ ?_; rfl; (focus (simp [Value.oneCell']; done)); rfl; clear hS; intro w hS; try simp only [putW]) | (refine storeN hS rfl rfl rfl rfl ?_ ?_ ?_ ?_; rfl; (focus (simp [Value.oneCell']; done)); (focus (simp; done)); clear hS; intro w hS; simp at hS; try simp only [putW]) | (refine alloc hS rfl rfl ?_; clear hS; intro mb w hS; simp only [putW]) | (refine box1 hS rfl rfl rfl rfl ?_; clear hS; intro mb w hS; try simp only [evW, putW] at hS; simp only [putW]) | (refine boxN hS rfl rfl rfl ?_; clear hS; intro mb w hS; simp only [putW]))
  refine ⟨?_⟩
  refine Calls.mono (refAt_any (X := X) (key := ky) (K := (bp, cells (pairC t x) 55) :: (ba, cells (actC kd tk ky vB wr bts) 44) :: codeL T t FL PW SL now sp K) hS.conv) ?_
  clear hS
  rw [HA.out]
  rintro _ w ⟨rfl, hS⟩
  simp only [putW]
  go_wp2_with (first | (guard_target =~ Calls _ 8 _ _ _; refine Stopped.out ?_) | (refine load1 hS rfl rfl rfl rfl ?_; simp only [putW]) | (refine loadAll hS rfl rfl rfl ?_ ?_; rfl; simp only [putW]) | (refine loadPart hS rfl rfl rfl ?_ rfl ?_; rfl; simp only [putW]) | (refine store1 hS rfl rfl rfl rfl rfl ?_ ?_; (focus (simp; done)); clear hS; intro w hS; simp only [evW, putW] at hS; try simp only [putW]) | (refine storeAll hS rfl rfl rfl rfl ?_ ?_ ?_ ?_; rfl; (focus (simp [Value.oneCell']; done)); rfl; clear hS; intro w hS; try simp only [putW]) | (refine storeN hS rfl rfl rfl rfl ?_ ?_ ?_ ?_; rfl; (focus (simp [Value.oneCell']; done)); (focus (simp; done)); clear hS; intro w hS; simp at hS; try simp only [putW]) | (refine alloc hS rfl rfl ?_; clear hS; intro mb w hS; simp only [putW]) | (refine box1 hS rfl rfl rfl rfl ?_; clear hS; intro mb w hS; try simp only [evW, putW] at hS; simp only [putW]) | (refine boxN hS rfl rfl rfl ?_; clear hS; intro mb w hS; simp only [putW]))
  refine ⟨?_⟩
  refine Calls.mono (pick_sat kd 9 (by omega) (by omega) hS) ?_
  clear hS
  rintro _ w ⟨rfl, hS⟩
  rw [hq]
  simp only [putW]
  go_wp2_with (first | (guard_target =~ Calls _ 24 _ _ _; refine Stopped.out ?_) | (refine load1 hS rfl rfl rfl rfl ?_; simp only [putW]) | (refine loadAll hS rfl rfl rfl ?_ ?_; rfl; simp only [putW]) | (refine loadPart hS rfl rfl rfl ?_ rfl ?_; rfl; simp only [putW]) | (refine store1 hS rfl rfl rfl rfl rfl ?_ ?_; (focus (simp; done)); clear hS; intro w hS; simp only [evW, putW] at hS; try simp only [putW]) | (refine storeAll hS rfl rfl rfl rfl ?_ ?_ ?_ ?_; rfl; (focus (simp [Value.oneCell']; done)); rfl; clear hS; intro w hS; try simp only [putW]) | (refine storeN hS rfl rfl rfl rfl ?_ ?_ ?_ ?_; rfl; (focus (simp [Value.oneCell']; done)); (focus (simp; done)); clear hS; intro w hS; simp at hS; try simp only [putW]) | (refine alloc hS rfl rfl ?_; clear hS; intro mb w hS; simp only [putW]) | (refine box1 hS rfl rfl rfl rfl ?_; clear hS; intro mb w hS; try simp only [evW, putW] at hS; simp only [putW]) | (refine boxN hS rfl rfl rfl ?_; clear hS; intro mb w hS; simp only [putW]))
  refine ⟨?_⟩
  refine Calls.mono (clean_some (key := ky) (x := (xa, xv, A, bb)) HX.out HT.out.1.fo (hS.conv (S' := (t, cells (tbC T) 65) :: (T.fm, mapC encInt frV FL) :: (7, frC FL) :: (x, X13C X) :: (bp, cells (pairC t x) 55) :: (ba, cells (actC kd tk ky vB wr bts) 44) :: (T.pm, mapC encW uV PW) :: (T.sm, mapC encInt (Value.int .i64) SL) :: (T.hp, HeatC now sp) :: K))) ?_
  clear hS
  rintro _ w ⟨rfl, hS⟩
  obtain ⟨FL2, hF2⟩ : ∃ F2, mput FL ky ((xa, xv, A, false) : FrV) = F2 := ⟨_, rfl⟩
  have hS9 : Sat w0 ((t, cells (tbC T) 65) :: (T.fm, mapC encInt frV (mput FL ky ((xa, xv, A, false) : FrV))) :: (7, frC (mput FL ky ((xa, xv, A, false) : FrV))) :: (x, X13C X) :: (bp, cells (pairC t x) 55) :: (ba, cells (actC kd tk ky vB wr bts) 44) :: (T.pm, mapC encW uV PW) :: (T.sm, mapC encInt (Value.int .i64) SL) :: (T.hp, HeatC now sp) :: K) _ := hS
  rw [hF2] at hS9
  clear hS
  have HF2 : Bx _ := ⟨hF2⟩
  clear hF2
  obtain ⟨vL, vP, vS, vH, h1⟩ := x13Open (hS9.conv (S' := (x, X13C X) :: (bp, cells (pairC t x) 55) :: (ba, cells (actC kd tk ky vB wr bts) 44) :: (t, cells (tbC T) 65) :: (T.fm, mapC encInt frV FL2) :: (T.pm, mapC encW uV PW) :: (7, frC FL2) :: (T.sm, mapC encInt (Value.int .i64) SL) :: (T.hp, HeatC now sp) :: K))
  clear hS9
  have h4 := h1.conv (S' := (blk vL, sl 3 fxF X.l 90 vL) :: (x, cells (xC (.int .i64 X.most) vL vP vS X.now vH) 97) :: (9, inn (rowsOf X.l) 5) :: (blk vP, sl 2 tw2F X.pins 99 vP) :: (blk vS, sl 2 tw2F X.shares 99 vS) :: (blk vH, sl 3 sp3F X.heat 115 vH) :: (bp, cells (pairC t x) 55) :: (ba, cells (actC kd tk ky vB wr bts) 44) :: (t, cells (tbC T) 65) :: (T.fm, mapC encInt frV FL2) :: (T.pm, mapC encW uV PW) :: (7, frC FL2) :: (T.sm, mapC encInt (Value.int .i64) SL) :: (T.hp, HeatC now sp) :: K)
  clear h1
  obtain ⟨n, hnn⟩ : ∃ n, X.l.length = n := ⟨_, rfl⟩
  have hjn : j < n := by rw [← hnn]; exact (List.getElem?_eq_some_iff.1 HJ.out).1
  obtain ⟨qL, cL, hvL⟩ := shapeN h4 hnn
  subst hvL
  obtain ⟨gq, hqq, hcq, hS⟩ := openS h4 hnn (by omega)
  subst hqq
  have HNn : Bx _ := ⟨hnn⟩
  clear h4 hnn
  simp only [putW]
  go_wp2_with (first | (refine storeSP (f := fxF) hS rfl rfl rfl j 2 ?_ HJ.out (ky, va, A, false) rfl rfl rfl (by decide) rfl ?_; (focus omega); clear hS; intro w hS; simp only [putW]) | (refine load1 hS rfl rfl rfl rfl ?_; simp only [putW]) | (refine loadAll hS rfl rfl rfl ?_ ?_; rfl; simp only [putW]) | (refine loadPart hS rfl rfl rfl ?_ rfl ?_; rfl; simp only [putW]) | (refine store1 hS rfl rfl rfl rfl rfl ?_ ?_; (focus (simp; done)); clear hS; intro w hS; simp only [evW, putW] at hS; try simp only [putW]) | (refine storeAll hS rfl rfl rfl rfl ?_ ?_ ?_ ?_; rfl; (focus (simp [Value.oneCell']; done)); rfl; clear hS; intro w hS; try simp only [putW]) | (refine storeN hS rfl rfl rfl rfl ?_ ?_ ?_ ?_; rfl; (focus (simp [Value.oneCell']; done)); (focus (simp; done)); clear hS; intro w hS; simp at hS; try simp only [putW]) | (refine alloc hS rfl rfl ?_; clear hS; intro mb w hS; simp only [putW]) | (refine box1 hS rfl rfl rfl rfl ?_; clear hS; intro mb w hS; try simp only [evW, putW] at hS; simp only [putW]) | (refine boxN hS rfl rfl rfl ?_; clear hS; intro mb w hS; simp only [putW]))
  go_ret
  have h5 := hS.slOfSlc
  rw [List.length_set, HNn.out] at h5
  have hrow : rowsOf X.l = rowsOf (X.l.set j (ky, va, A, false)) := by
    rw [rowsOf_set]
    have h6 : (rowsOf X.l)[j]? = some (va, A) := by
      unfold rowsOf
      rw [List.getElem?_map, HJ.out]
      rfl
    obtain ⟨h7, h8⟩ := List.getElem?_eq_some_iff.1 h6
    show _ = (rowsOf X.l).set j (va, A)
    rw [← h8]
    exact (List.set_getElem_self h7).symm
  rw [hrow] at h5
  refine ⟨rfl, FL2, PW, SL, now, sp, ⟨X.most, X.l.set j (ky, va, A, false), X.pins, X.shares, X.now, X.heat⟩, ⟨?_, ?_⟩, x13Shut (X := ⟨X.most, X.l.set j (ky, va, A, false), X.pins, X.shares, X.now, X.heat⟩) (vL := .slice (some ⟨gq, 0, none⟩) n cL) (vP := vP) (vS := vS) (vH := vH) h5.conv⟩
  · rw [← HF2.out]
    exact HT.out.1.over (x := (xa, xv, A, bb)) (v := xv) (v' := va) (b := false) HX.out HJ.out rfl (HT.out.1.xo _ (List.mem_of_getElem? HJ.out))
  · intro k hk
    rw [← HF2.out, mkeys_mput] at hk
    split at hk
    · exact HT.out.2 k hk
    · rename_i hni
      have h9 := HX.out
      rw [mget_none.2 hni] at h9
      cases h9
end
end Go.Proofs.Ytlkoclalcfeniaa
namespace Go.Proofs.Ytlkoclalcfeniaa
open Go.RowKit Go.Shelf Go.Proofs.Ytlkoclalcfeniaa.Sl Go.Proofs.Ytlkoclalcfeniaa.Jp

section
variable {w0 w : World} {K : List Chunk} {t x i : Nat} {T : Tb} {FL : Frs} {PW : PinsW} {SL : Shs} {now : Nat} {sp : Spots} {X : X13} {kd tk ky : Int} {vB : Value} {wr : Bool} {bts : Nat}
set_option maxRecDepth 100000 in
set_option maxHeartbeats 8000000 in
theorem do_8n (hn : mget FL ky = none) (ha : atX X.l ky 0 = -1) (hq : kd % 9 = 8) (h : Tie13 FL PW SL now sp T.most X i ∧ ∀ k ∈ mkeys FL, okI k) (hi : i ≤ 200) (hB : vB.oneCell' = true) (hS : Sat w0 ((x, X13C X) :: codeL T t FL PW SL now sp K) w) : Calls Try.prog 27 #[.agg (pairC t x), .agg (actC kd tk ky vB wr bts)] w fun e w' => e = .returned (.bool true) ∧ Bth w0 T t x (i + 1) K w' := by
  have HT : Bx _ := ⟨h⟩
  have HN : Bx _ := ⟨hn⟩
  have HA : Bx (atX X.l ky 0 = -1) := ⟨ha⟩
  clear h
  go_enter Try.func27, Try.ntmps27
  go_wp2_with (first | (refine boxN (cs := pairC t x) hS rfl rfl rfl ?_; clear hS; intro bp w hS; simp only [putW]) | (refine boxN (cs := actC kd tk ky vB wr bts) hS rfl rfl rfl ?_; clear hS; intro ba w hS; simp only [putW]) | (guard_target =~ Calls _ 40 _ _ _; refine Stopped.out ?_) | (refine load1 hS rfl rfl rfl rfl ?_; simp only [putW]) | (refine loadAll hS rfl rfl rfl ?_ ?_; rfl; simp only [putW]) | (refine loadPart hS rfl rfl rfl ?_ rfl ?_; rfl; simp only [putW]) | (refine store1 hS rfl rfl rfl rfl rfl ?_ ?_; (focus (simp; done)); clear hS; intro w hS; simp only [evW, putW] at hS; try simp only [putW]) | (refine storeAll hS rfl rfl rfl rfl ?_ ?_ ?_ ?_; rfl; (focus (simp [Value.oneCell']; done)); rfl; clear hS; intro w hS; try simp only [putW]) | (refine storeN hS rfl rfl rfl rfl ?_ ?_ ?_ ?_; rfl; (focus (simp [Value.oneCell']; done)); (focus (simp; done)); clear hS; intro w hS; simp at hS; try simp only [putW]) | (refine alloc hS rfl rfl ?_; clear hS; intro mb w hS; simp only [putW]) | (refine box1 hS rfl rfl rfl rfl ?_; clear hS; intro mb w hS; try simp only [evW, putW] at hS; simp only [putW]) | (refine boxN hS rfl rfl rfl ?_; clear hS; intro mb w hS; simp only [putW]))
  refine ⟨?_⟩
  refine Calls.mono (refAt_any (X := X) (key := ky) (K := (bp, cells (pairC t x) 55) :: (ba, cells (actC kd tk ky vB wr bts) 44) :: codeL T t FL PW SL now sp K) hS.conv) ?_
  clear hS
  rw [HA.out]
  rintro _ w ⟨rfl, hS⟩
  simp only [putW]
  go_wp2_with (first | (guard_target =~ Calls _ 8 _ _ _; refine Stopped.out ?_) | (refine load1 hS rfl rfl rfl rfl ?_; simp only [putW]) | (refine loadAll hS rfl rfl rfl ?_ ?_; rfl; simp only [putW]) | (refine loadPart hS rfl rfl rfl ?_ rfl ?_; rfl; simp only [putW]) | (refine store1 hS rfl rfl rfl rfl rfl ?_ ?_; (focus (simp; done)); clear hS; intro w hS; simp only [evW, putW] at hS; try simp only [putW]) | (refine storeAll hS rfl rfl rfl rfl ?_ ?_ ?_ ?_; rfl; (focus (simp [Value.oneCell']; done)); rfl; clear hS; intro w hS; try simp only [putW]) | (refine storeN hS rfl rfl rfl rfl ?_ ?_ ?_ ?_; rfl; (focus (simp [Value.oneCell']; done)); (focus (simp; done)); clear hS; intro w hS; simp at hS; try simp only [putW]) | (refine alloc hS rfl rfl ?_; clear hS; intro mb w hS; simp only [putW]) | (refine box1 hS rfl rfl rfl rfl ?_; clear hS; intro mb w hS; try simp only [evW, putW] at hS; simp only [putW]) | (refine boxN hS rfl rfl rfl ?_; clear hS; intro mb w hS; simp only [putW]))
  refine ⟨?_⟩
  refine Calls.mono (pick_sat kd 9 (by omega) (by omega) hS) ?_
  clear hS
  rintro _ w ⟨rfl, hS⟩
  rw [hq]
  simp only [putW]
  go_wp2_with (first | (guard_target =~ Calls _ 11 _ _ _; refine Stopped.out ?_) | (refine load1 hS rfl rfl rfl rfl ?_; simp only [putW]) | (refine loadAll hS rfl rfl rfl ?_ ?_; rfl; simp only [putW]) | (refine loadPart hS rfl rfl rfl ?_ rfl ?_; rfl; simp only [putW]) | (refine store1 hS rfl rfl rfl rfl rfl ?_ ?_; (focus (simp; done)); clear hS; intro w hS; simp only [evW, putW] at hS; try simp only [putW]) | (refine storeAll hS rfl rfl rfl rfl ?_ ?_ ?_ ?_; rfl; (focus (simp [Value.oneCell']; done)); rfl; clear hS; intro w hS; try simp only [putW]) | (refine storeN hS rfl rfl rfl rfl ?_ ?_ ?_ ?_; rfl; (focus (simp [Value.oneCell']; done)); (focus (simp; done)); clear hS; intro w hS; simp at hS; try simp only [putW]) | (refine alloc hS rfl rfl ?_; clear hS; intro mb w hS; simp only [putW]) | (refine box1 hS rfl rfl rfl rfl ?_; clear hS; intro mb w hS; try simp only [evW, putW] at hS; simp only [putW]) | (refine boxN hS rfl rfl rfl ?_; clear hS; intro mb w hS; simp only [putW]))
  refine ⟨?_⟩
  refine Calls.mono (warm_absent (key := ky) (bts := bts) HN.out (hS.conv (S' := (t, cells (tbC T) 65) :: (T.fm, mapC encInt frV FL) :: (x, X13C X) :: (bp, cells (pairC t x) 55) :: (ba, cells (actC kd tk ky vB wr bts) 44) :: (7, frC FL) :: (T.pm, mapC encW uV PW) :: (T.sm, mapC encInt (Value.int .i64) SL) :: (T.hp, HeatC now sp) :: K))) ?_
  clear hS
  rintro _ w ⟨rfl, hS⟩
  simp only [putW]
  go_wp2_with (first | (refine load1 hS rfl rfl rfl rfl ?_; simp only [putW]) | (refine loadAll hS rfl rfl rfl ?_ ?_; rfl; simp only [putW]) | (refine loadPart hS rfl rfl rfl ?_ rfl ?_; rfl; simp only [putW]) | (refine store1 hS rfl rfl rfl rfl rfl ?_ ?_; (focus (simp; done)); clear hS; intro w hS; simp only [evW, putW] at hS; try simp only [putW]) | (refine storeAll hS rfl rfl rfl rfl ?_ ?_ ?_ ?_; rfl; (focus (simp [Value.oneCell']; done)); rfl; clear hS; intro w hS; try simp only [putW]) | (refine storeN hS rfl rfl rfl rfl ?_ ?_ ?_ ?_; rfl; (focus (simp [Value.oneCell']; done)); (focus (simp; done)); clear hS; intro w hS; simp at hS; try simp only [putW]) | (refine alloc hS rfl rfl ?_; clear hS; intro mb w hS; simp only [putW]) | (refine box1 hS rfl rfl rfl rfl ?_; clear hS; intro mb w hS; try simp only [evW, putW] at hS; simp only [putW]) | (refine boxN hS rfl rfl rfl ?_; clear hS; intro mb w hS; simp only [putW]))
  go_ret
  exact ⟨rfl, FL, PW, SL, now, sp, X, ⟨HT.out.1.up, HT.out.2⟩, hS.conv⟩
set_option maxRecDepth 100000 in
set_option maxHeartbeats 8000000 in
theorem do_8 {j : Nat} (hx : (mget FL ky).isSome = true) (ha : atX X.l ky 0 = j) (hq : kd % 9 = 8) (h : Tie13 FL PW SL now sp T.most X i ∧ ∀ k ∈ mkeys FL, okI k) (hi : i ≤ 200) (hB : vB.oneCell' = true) (hS : Sat w0 ((x, X13C X) :: codeL T t FL PW SL now sp K) w) : Calls Try.prog 27 #[.agg (pairC t x), .agg (actC kd tk ky vB wr bts)] w fun e w' => e = .returned (.bool true) ∧ Bth w0 T t x (i + 1) K w' := by
  have HT : Bx _ := ⟨h⟩
  have HX : Bx _ := ⟨hx⟩
  have hj0 : (0 : Int) ≤ (j : Int) := by omega
  have HNow : Bx (now ≤ 900000 ∧ X.heat.length ≤ 900 ∧ X.now ≤ 20000 ∧ SpN X.now X.heat) := ⟨by have := h.1.nb; omega, by have := h.1.hl; omega, by rw [h.1.nw]; have := h.1.nb; omega, by rw [h.1.nw]; exact h.1.sn⟩
  have HA : Bx (atX X.l ky 0 = (j : Int)) := ⟨ha⟩
  clear h
  go_enter Try.func27, Try.ntmps27
  go_wp2_with (first | (refine boxN (cs := pairC t x) hS rfl rfl rfl ?_; clear hS; intro bp w hS; simp only [putW]) | (refine boxN (cs := actC kd tk ky vB wr bts) hS rfl rfl rfl ?_; clear hS; intro ba w hS; simp only [putW]) | (guard_target =~ Calls _ 40 _ _ _; refine Stopped.out ?_) | (refine load1 hS rfl rfl rfl rfl ?_; simp only [putW]) | (refine loadAll hS rfl rfl rfl ?_ ?_; rfl; simp only [putW]) | (refine loadPart hS rfl rfl rfl ?_ rfl ?_; rfl; simp only [putW]) | (refine store1 hS rfl rfl rfl rfl rfl ?_ ?_; (focus (simp; done)); clear hS; intro w hS; simp only [evW, putW] at hS; try simp only [putW]) | (refine storeAll hS rfl rfl rfl rfl ?_ ?_ ?_ ?_; rfl; (focus (simp [Value.oneCell']; done)); rfl; clear hS; intro w hS; try simp only [putW]) | (refine storeN hS rfl rfl rfl rfl ?_ ?_ ?_ ?_; rfl; (focus (simp [Value.oneCell']; done)); (focus (simp; done)); clear hS; intro w hS; simp at hS; try simp only [putW]) | (refine alloc hS rfl rfl ?_; clear hS; intro mb w hS; simp only [putW]) | (refine box1 hS rfl rfl rfl rfl ?_; clear hS; intro mb w hS; try simp only [evW, putW] at hS; simp only [putW]) | (refine boxN hS rfl rfl rfl ?_; clear hS; intro mb w hS; simp only [putW]))
  refine ⟨?_⟩
  refine Calls.mono (refAt_any (X := X) (key := ky) (K := (bp, cells (pairC t x) 55) :: (ba, cells (actC kd tk ky vB wr bts) 44) :: codeL T t FL PW SL now sp K) hS.conv) ?_
  clear hS
  rw [HA.out]
  rintro _ w ⟨rfl, hS⟩
  simp only [putW]
  go_wp2_with (first | (guard_target =~ Calls _ 8 _ _ _; refine Stopped.out ?_) | (refine load1 hS rfl rfl rfl rfl ?_; simp only [putW]) | (refine loadAll hS rfl rfl rfl ?_ ?_; rfl; simp only [putW]) | (refine loadPart hS rfl rfl rfl ?_ rfl ?_; rfl; simp only [putW]) | (refine store1 hS rfl rfl rfl rfl rfl ?_ ?_; (focus (simp; done)); clear hS; intro w hS; simp only [evW, putW] at hS; try simp only [putW]) | (refine storeAll hS rfl rfl rfl rfl ?_ ?_ ?_ ?_; rfl; (focus (simp [Value.oneCell']; done)); rfl; clear hS; intro w hS; try simp only [putW]) | (refine storeN hS rfl rfl rfl rfl ?_ ?_ ?_ ?_; rfl; (focus (simp [Value.oneCell']; done)); (focus (simp; done)); clear hS; intro w hS; simp at hS; try simp only [putW]) | (refine alloc hS rfl rfl ?_; clear hS; intro mb w hS; simp only [putW]) | (refine box1 hS rfl rfl rfl rfl ?_; clear hS; intro mb w hS; try simp only [evW, putW] at hS; simp only [putW]) | (refine boxN hS rfl rfl rfl ?_; clear hS; intro mb w hS; simp only [putW]))
  refine ⟨?_⟩
  refine Calls.mono (pick_sat kd 9 (by omega) (by omega) hS) ?_
  clear hS
  rintro _ w ⟨rfl, hS⟩
  rw [hq]
  simp only [putW]
  go_wp2_with (first | (guard_target =~ Calls _ 11 _ _ _; refine Stopped.out ?_) | (refine load1 hS rfl rfl rfl rfl ?_; simp only [putW]) | (refine loadAll hS rfl rfl rfl ?_ ?_; rfl; simp only [putW]) | (refine loadPart hS rfl rfl rfl ?_ rfl ?_; rfl; simp only [putW]) | (refine store1 hS rfl rfl rfl rfl rfl ?_ ?_; (focus (simp; done)); clear hS; intro w hS; simp only [evW, putW] at hS; try simp only [putW]) | (refine storeAll hS rfl rfl rfl rfl ?_ ?_ ?_ ?_; rfl; (focus (simp [Value.oneCell']; done)); rfl; clear hS; intro w hS; try simp only [putW]) | (refine storeN hS rfl rfl rfl rfl ?_ ?_ ?_ ?_; rfl; (focus (simp [Value.oneCell']; done)); (focus (simp; done)); clear hS; intro w hS; simp at hS; try simp only [putW]) | (refine alloc hS rfl rfl ?_; clear hS; intro mb w hS; simp only [putW]) | (refine box1 hS rfl rfl rfl rfl ?_; clear hS; intro mb w hS; try simp only [evW, putW] at hS; simp only [putW]) | (refine boxN hS rfl rfl rfl ?_; clear hS; intro mb w hS; simp only [putW]))
  refine ⟨?_⟩
  refine Calls.mono (warm_any (key := ky) (bts := bts) (now := now) (sp := sp) (FL := FL) HX.out HNow.out.1 HT.out.1.so (hS.conv (S' := (t, cells (tbC T) 65) :: (T.fm, mapC encInt frV FL) :: (T.hp, HeatC now sp) :: (x, X13C X) :: (bp, cells (pairC t x) 55) :: (ba, cells (actC kd tk ky vB wr bts) 44) :: (7, frC FL) :: (T.pm, mapC encW uV PW) :: (T.sm, mapC encInt (Value.int .i64) SL) :: K))) ?_
  clear hS
  rintro _ w ⟨r, rfl, hr, hS⟩
  have HRr : Bx _ := ⟨hr⟩
  clear hr
  simp only [putW]
  go_upto_region 5 with (first | (refine load1 hS rfl rfl rfl rfl ?_; simp only [putW]) | (refine loadAll hS rfl rfl rfl ?_ ?_; rfl; simp only [putW]) | (refine loadPart hS rfl rfl rfl ?_ rfl ?_; rfl; simp only [putW]) | (refine store1 hS rfl rfl rfl rfl rfl ?_ ?_; (focus (simp; done)); clear hS; intro w hS; simp only [evW, putW] at hS; try simp only [putW]) | (refine storeAll hS rfl rfl rfl rfl ?_ ?_ ?_ ?_; rfl; (focus (simp [Value.oneCell']; done)); rfl; clear hS; intro w hS; try simp only [putW]) | (refine storeN hS rfl rfl rfl rfl ?_ ?_ ?_ ?_; rfl; (focus (simp [Value.oneCell']; done)); (focus (simp; done)); clear hS; intro w hS; simp at hS; try simp only [putW]) | (refine alloc hS rfl rfl ?_; clear hS; intro mb w hS; simp only [putW]) | (refine box1 hS rfl rfl rfl rfl ?_; clear hS; intro mb w hS; try simp only [evW, putW] at hS; simp only [putW]) | (refine boxN hS rfl rfl rfl ?_; clear hS; intro mb w hS; simp only [putW]))
  (refine wp_region_held (S := fun w' => Sat w0 ((bp, cells (pairC t x) 55) :: (ba, cells (actC kd tk ky vB wr bts) 44) :: K) w') (by kernel_rfl) ?_; replace hS := hS.drew; (first | (refine takeIf (i := 0) rfl (by kernel_rfl) (fun _ _ _ h => h) (yMove rfl rfl rfl) hS.conv ?_; simp only [evW, putW]) | (refine takeIf (i := 0) rfl (by kernel_rfl) (fun _ _ _ h => h) (yLoad1 (fun _ h => h) rfl rfl rfl rfl) hS.conv ?_; simp only [putW]) | (refine takeIf (i := 0) rfl (by kernel_rfl) (fun _ _ _ h => h) (yLoadAll (fun _ h => h) rfl rfl rfl rfl) hS.conv ?_; simp only [putW]) | (apply takeIf (i := 0) rfl (by kernel_rfl) (fun _ _ _ h => h); (focus (apply yRun rfl; intro w; first | (go_simp; done) | (go_simp; rfl))); (focus (exact hS.conv)); simp only [putW])); (first | (refine takeIf (i := 1) rfl (by kernel_rfl) (fun _ _ _ h => h) (yMove rfl rfl rfl) hS.conv ?_; simp only [evW, putW]) | (refine takeIf (i := 1) rfl (by kernel_rfl) (fun _ _ _ h => h) (yLoad1 (fun _ h => h) rfl rfl rfl rfl) hS.conv ?_; simp only [putW]) | (refine takeIf (i := 1) rfl (by kernel_rfl) (fun _ _ _ h => h) (yLoadAll (fun _ h => h) rfl rfl rfl rfl) hS.conv ?_; simp only [putW]) | (apply takeIf (i := 1) rfl (by kernel_rfl) (fun _ _ _ h => h); (focus (apply yRun rfl; intro w; first | (go_simp; done) | (go_simp; rfl))); (focus (exact hS.conv)); simp only [putW])); (first | (refine takeIf (i := 2) rfl (by kernel_rfl) (fun _ _ _ h => h) (yMove rfl rfl rfl) hS.conv ?_; simp only [evW, putW]) | (refine takeIf (i := 2) rfl (by kernel_rfl) (fun _ _ _ h => h) (yLoad1 (fun _ h => h) rfl rfl rfl rfl) hS.conv ?_; simp only [putW]) | (refine takeIf (i := 2) rfl (by kernel_rfl) (fun _ _ _ h => h) (yLoadAll (fun _ h => h) rfl rfl rfl rfl) hS.conv ?_; simp only [putW]) | (apply takeIf (i := 2) rfl (by kernel_rfl) (fun _ _ _ h => h); (focus (apply yRun rfl; intro w; first | (go_simp; done) | (go_simp; rfl))); (focus (exact hS.conv)); simp only [putW])); (first | (refine takeIf (i := 3) rfl (by kernel_rfl) (fun _ _ _ h => h) (yMove rfl rfl rfl) hS.conv ?_; simp only [evW, putW]) | (refine takeIf (i := 3) rfl (by kernel_rfl) (fun _ _ _ h => h) (yLoad1 (fun _ h => h) rfl rfl rfl rfl) hS.conv ?_; simp only [putW]) | (refine takeIf (i := 3) rfl (by kernel_rfl) (fun _ _ _ h => h) (yLoadAll (fun _ h => h) rfl rfl rfl rfl) hS.conv ?_; simp only [putW]) | (apply takeIf (i := 3) rfl (by kernel_rfl) (fun _ _ _ h => h); (focus (apply yRun rfl; intro w; first | (go_simp; done) | (go_simp; rfl))); (focus (exact hS.conv)); simp only [putW])); (first | (refine takeIf (i := 4) rfl (by kernel_rfl) (fun _ _ _ h => h) (yMove rfl rfl rfl) hS.conv ?_; simp only [evW, putW]) | (refine takeIf (i := 4) rfl (by kernel_rfl) (fun _ _ _ h => h) (yLoad1 (fun _ h => h) rfl rfl rfl rfl) hS.conv ?_; simp only [putW]) | (refine takeIf (i := 4) rfl (by kernel_rfl) (fun _ _ _ h => h) (yLoadAll (fun _ h => h) rfl rfl rfl rfl) hS.conv ?_; simp only [putW]) | (apply takeIf (i := 4) rfl (by kernel_rfl) (fun _ _ _ h => h); (focus (apply yRun rfl; intro w; first | (go_simp; done) | (go_simp; rfl))); (focus (exact hS.conv)); simp only [putW])); (first | (refine takeIf (i := 5) rfl (by kernel_rfl) (fun _ _ _ h => h) (yMove rfl rfl rfl) hS.conv ?_; simp only [evW, putW]) | (refine takeIf (i := 5) rfl (by kernel_rfl) (fun _ _ _ h => h) (yLoad1 (fun _ h => h) rfl rfl rfl rfl) hS.conv ?_; simp only [putW]) | (refine takeIf (i := 5) rfl (by kernel_rfl) (fun _ _ _ h => h) (yLoadAll (fun _ h => h) rfl rfl rfl rfl) hS.conv ?_; simp only [putW]) | (apply takeIf (i := 5) rfl (by kernel_rfl) (fun _ _ _ h => h); (focus (apply yRun rfl; intro w; first | (go_simp; done) | (go_simp; rfl))); (focus (exact hS.conv)); simp only [putW])); (first | (refine takeIf (i := 6) rfl (by kernel_rfl) (fun _ _ _ h => h) (yMove rfl rfl rfl) hS.conv ?_; simp only [evW, putW]) | (refine takeIf (i := 6) rfl (by kernel_rfl) (fun _ _ _ h => h) (yLoad1 (fun _ h => h) rfl rfl rfl rfl) hS.conv ?_; simp only [putW]) | (refine takeIf (i := 6) rfl (by kernel_rfl) (fun _ _ _ h => h) (yLoadAll (fun _ h => h) rfl rfl rfl rfl) hS.conv ?_; simp only [putW]) | (apply takeIf (i := 6) rfl (by kernel_rfl) (fun _ _ _ h => h); (focus (apply yRun rfl; intro w; first | (go_simp; done) | (go_simp; rfl))); (focus (exact hS.conv)); simp only [putW])); (first | (refine takeIf (i := 7) rfl (by kernel_rfl) (fun _ _ _ h => h) (yMove rfl rfl rfl) hS.conv ?_; simp only [evW, putW]) | (refine takeIf (i := 7) rfl (by kernel_rfl) (fun _ _ _ h => h) (yLoad1 (fun _ h => h) rfl rfl rfl rfl) hS.conv ?_; simp only [putW]) | (refine takeIf (i := 7) rfl (by kernel_rfl) (fun _ _ _ h => h) (yLoadAll (fun _ h => h) rfl rfl rfl rfl) hS.conv ?_; simp only [putW]) | (apply takeIf (i := 7) rfl (by kernel_rfl) (fun _ _ _ h => h); (focus (apply yRun rfl; intro w; first | (go_simp; done) | (go_simp; rfl))); (focus (exact hS.conv)); simp only [putW])); refine wpAnyH_all (rs := [8]) (by kernel_rfl) (by simp) ?_; intro i hi; simp only [List.mem_cons, List.not_mem_nil, or_false] at hi; subst hi; refine wpOp_of_list rfl ?_; go_wp2_with (first | (go_at_call 47; refine Calls.mono (refTouch13 (X := X) (key := ky) (b := bts) (K := (t, cells (tbC T) 65) :: (T.fm, mapC encInt frV FL) :: (T.hp, HeatC (now + 1) (mput sp ky (r, ((now + 1 : Nat) : Int)))) :: (bp, cells (pairC t x) 55) :: (ba, cells (actC kd tk ky vB wr bts) 44) :: (7, frC FL) :: (T.pm, mapC encW uV PW) :: (T.sm, mapC encInt (Value.int .i64) SL) :: K) HNow.out.2.1 HNow.out.2.2.1 HNow.out.2.2.2 hS.conv) ?_; clear hS; rintro _ w ⟨rfl, hS⟩; simp only [putW]) | (refine load1 hS rfl rfl rfl rfl ?_; simp only [putW]) | (refine loadAll hS rfl rfl rfl ?_ ?_; rfl; simp only [putW]) | (refine loadPart hS rfl rfl rfl ?_ rfl ?_; rfl; simp only [putW]) | (refine store1 hS rfl rfl rfl rfl rfl ?_ ?_; (focus (simp; done)); clear hS; intro w hS; simp only [evW, putW] at hS; try simp only [putW]) | (refine storeAll hS rfl rfl rfl rfl ?_ ?_ ?_ ?_; rfl; (focus (simp [Value.oneCell']; done)); rfl; clear hS; intro w hS; try simp only [putW]) | (refine storeN hS rfl rfl rfl rfl ?_ ?_ ?_ ?_; rfl; (focus (simp [Value.oneCell']; done)); (focus (simp; done)); clear hS; intro w hS; simp at hS; try simp only [putW]) | (refine alloc hS rfl rfl ?_; clear hS; intro mb w hS; simp only [putW]) | (refine box1 hS rfl rfl rfl rfl ?_; clear hS; intro mb w hS; try simp only [evW, putW] at hS; simp only [putW]) | (refine boxN hS rfl rfl rfl ?_; clear hS; intro mb w hS; simp only [putW])); refine ⟨rfl, hS.conv, ?_⟩; refine wpAnyH_done (by kernel_rfl) ?_ _; go_wp2_with (first | (refine load1 hS rfl rfl rfl rfl ?_; simp only [putW]) | (refine loadAll hS rfl rfl rfl ?_ ?_; rfl; simp only [putW]) | (refine loadPart hS rfl rfl rfl ?_ rfl ?_; rfl; simp only [putW]) | (refine store1 hS rfl rfl rfl rfl rfl ?_ ?_; (focus (simp; done)); clear hS; intro w hS; simp only [evW, putW] at hS; try simp only [putW]) | (refine storeAll hS rfl rfl rfl rfl ?_ ?_ ?_ ?_; rfl; (focus (simp [Value.oneCell']; done)); rfl; clear hS; intro w hS; try simp only [putW]) | (refine storeN hS rfl rfl rfl rfl ?_ ?_ ?_ ?_; rfl; (focus (simp [Value.oneCell']; done)); (focus (simp; done)); clear hS; intro w hS; simp at hS; try simp only [putW]) | (refine alloc hS rfl rfl ?_; clear hS; intro mb w hS; simp only [putW]) | (refine box1 hS rfl rfl rfl rfl ?_; clear hS; intro mb w hS; try simp only [evW, putW] at hS; simp only [putW]) | (refine boxN hS rfl rfl rfl ?_; clear hS; intro mb w hS; simp only [putW])); go_ret; exact ⟨rfl, FL, PW, SL, now + 1, mput sp ky (r, ((now + 1 : Nat) : Int)), touT X ky bts, ⟨HT.out.1.touch HRr.out, HT.out.2⟩, hS.conv⟩)
end
end Go.Proofs.Ytlkoclalcfeniaa
