/-
  frames: Left, Reserve.
-/
import Derived.Test.YtlkoclalcfeniaaFrDrop
set_option linter.unusedSimpArgs false
set_option linter.unusedVariables false
namespace Go.Proofs.Ytlkoclalcfeniaa
open Go.RowKit Go.Proofs.Ytlkoclalcfeniaa.Sl Go.Proofs.Ytlkoclalcfeniaa.Jp

def sumS : Shs → Int
  | [] => 0
  | p :: l => p.2 + sumS l
theorem sumS_app : ∀ (L1 L2 : Shs), sumS (L1 ++ L2) = sumS L1 + sumS L2
  | [], L2 => by simp [sumS]
  | p :: l, L2 => by simp [sumS, sumS_app l L2, Int.add_assoc]
theorem sumS_mid (L1 L2 : Shs) (p : Int × Int) : sumS (L1 ++ p :: L2) = p.2 + sumS (L1 ++ L2) := by
  rw [sumS_app, sumS_app]
  simp only [sumS]
  omega
theorem sumS_pos : ∀ {L : Shs}, (∀ p ∈ L, 0 ≤ p.2) → 0 ≤ sumS L
  | [], _ => Int.le_refl _
  | p :: l, h => by
    have h1 := h p (by simp)
    have h2 := sumS_pos (L := l) fun q hq => h q (by simp [hq])
    simp only [sumS]
    omega
section
variable {w0 w : World} {K F S : List Chunk} {t j b tb pm : Nat} {T : Tb} {SL : Shs} {n task : Int}
set_option maxRecDepth 100000 in
set_option maxHeartbeats 2000000 in
theorem left_any (hp : ∀ p ∈ SL, 0 ≤ p.2) (hs : sumS SL ≤ T.most) (hm : T.most ≤ 1024) (hS : Sat w0 ((t, cells (tbC T) 65) :: (T.sm, mapC encInt (Value.int .i64) SL) :: K) w) : Calls Try.prog 20 #[.pointer (some ⟨t, 0, none⟩)] w fun e w' => e = .returned (.int .i64 (T.most - sumS SL)) ∧ Sat w0 ((t, cells (tbC T) 65) :: (T.sm, mapC encInt (Value.int .i64) SL) :: K) w' := by
  obtain ⟨k, hk⟩ : ∃ n, SL.length = n := ⟨_, rfl⟩
  have Hk : Bx _ := ⟨hk⟩
  have HP : Bx (∀ p ∈ SL, 0 ≤ p.2) := ⟨hp⟩
  obtain ⟨R, hR⟩ : ∃ R, T.most - sumS SL = R := ⟨_, rfl⟩
  have HR : Bx _ := ⟨hR⟩
  have hR0 : 0 ≤ R := by omega
  rw [hR]
  clear hk hp hs hR
  go_enter Try.func20, Try.ntmps20
  go_wp2_with (first | (guard_target =~ wpList _ _ _ (Oper.mk (some 16) _ _ _ _ _ :: _) _ _; refine Stopped.out ?_) | (refine load1 hS rfl rfl rfl rfl ?_; simp only [putW]) | (refine loadAll hS rfl rfl rfl ?_ ?_; rfl; simp only [putW]) | (refine loadPart hS rfl rfl rfl ?_ rfl ?_; rfl; simp only [putW]) | (refine store1 hS rfl rfl rfl rfl rfl ?_ ?_; (focus (simp; done)); clear hS; intro w hS; simp only [evW, putW] at hS; try simp only [putW]) | (refine storeAll hS rfl rfl rfl rfl ?_ ?_ ?_ ?_; rfl; (focus (simp [Value.oneCell']; done)); rfl; clear hS; intro w hS; try simp only [putW]) | (refine storeN hS rfl rfl rfl rfl ?_ ?_ ?_ ?_; rfl; (focus (simp [Value.oneCell']; done)); (focus (simp; done)); clear hS; intro w hS; simp at hS; try simp only [putW]) | (refine alloc hS rfl rfl ?_; clear hS; intro mb w hS; simp only [putW]) | (refine box1 hS rfl rfl rfl rfl ?_; clear hS; intro mb w hS; try simp only [evW, putW] at hS; simp only [putW]) | (refine boxN hS rfl rfl rfl ?_; clear hS; intro mb w hS; simp only [putW]))
  refine ⟨?_⟩
  refine rangeMap (b := T.sm) (enc := encInt) (ve := Value.int .i64) (l := SL) hS rfl rfl rfl ?_
  clear hS
  intro r w hS
  simp only [putW]
  go_wp2_with (first | (refine load1 hS rfl rfl rfl rfl ?_; simp only [putW]) | (refine loadAll hS rfl rfl rfl ?_ ?_; rfl; simp only [putW]) | (refine loadPart hS rfl rfl rfl ?_ rfl ?_; rfl; simp only [putW]) | (refine store1 hS rfl rfl rfl rfl rfl ?_ ?_; (focus (simp; done)); clear hS; intro w hS; simp only [evW, putW] at hS; try simp only [putW]) | (refine storeAll hS rfl rfl rfl rfl ?_ ?_ ?_ ?_; rfl; (focus (simp [Value.oneCell']; done)); rfl; clear hS; intro w hS; try simp only [putW]) | (refine storeN hS rfl rfl rfl rfl ?_ ?_ ?_ ?_; rfl; (focus (simp [Value.oneCell']; done)); (focus (simp; done)); clear hS; intro w hS; simp at hS; try simp only [putW]) | (refine alloc hS rfl rfl ?_; clear hS; intro mb w hS; simp only [putW]) | (refine box1 hS rfl rfl rfl rfl ?_; clear hS; intro mb w hS; try simp only [evW, putW] at hS; simp only [putW]) | (refine boxN hS rfl rfl rfl ?_; clear hS; intro mb w hS; simp only [putW]))
  go_loopg [3] k (fun g v wr => ∃ left cur x, left.length = g ∧ v = .int .i64 x ∧ 0 ≤ x ∧ x ≤ 1024 ∧ Bx (x - sumS left = R ∧ ∀ p ∈ left, 0 ≤ p.2) ∧ Sat w0 ((r, itC encInt (Value.int .i64) T.sm SL left cur) :: (t, cells (tbC T) 65) :: K) wr)
  case atStart => exact ⟨SL, none, T.most, Hk.out, rfl, by have := sumS_pos HP.out; have := HR.out; omega, hm, ⟨HR.out, HP.out⟩, hS.conv⟩
  case round =>
    clear hS
    obtain ⟨left, cur, x, hlen, rfl, hx0, hx1, HX, hS⟩ := hrel
    go_wp2_with (first | (guard_target =~ wpList _ _ _ (Oper.mk (some 17) _ _ _ _ _ :: _) _ _; refine Stopped.out ?_) | (refine load1 hS rfl rfl rfl rfl ?_; simp only [putW]) | (refine loadAll hS rfl rfl rfl ?_ ?_; rfl; simp only [putW]) | (refine loadPart hS rfl rfl rfl ?_ rfl ?_; rfl; simp only [putW]) | (refine store1 hS rfl rfl rfl rfl rfl ?_ ?_; (focus (simp; done)); clear hS; intro w hS; simp only [evW, putW] at hS; try simp only [putW]) | (refine storeAll hS rfl rfl rfl rfl ?_ ?_ ?_ ?_; rfl; (focus (simp [Value.oneCell']; done)); rfl; clear hS; intro w hS; try simp only [putW]) | (refine storeN hS rfl rfl rfl rfl ?_ ?_ ?_ ?_; rfl; (focus (simp [Value.oneCell']; done)); (focus (simp; done)); clear hS; intro w hS; simp at hS; try simp only [putW]) | (refine alloc hS rfl rfl ?_; clear hS; intro mb w hS; simp only [putW]) | (refine box1 hS rfl rfl rfl rfl ?_; clear hS; intro mb w hS; try simp only [evW, putW] at hS; simp only [putW]) | (refine boxN hS rfl rfl rfl ?_; clear hS; intro mb w hS; simp only [putW]))
    refine ⟨?_⟩
    refine nextMap (r := r) (b := T.sm) (enc := encInt) (ve := Value.int .i64) (l := SL) (left := left) (cur := cur) hS rfl rfl rfl ?_ ?_
    · intro hnil
      have hres : x = R := by have := HX.out.1; rw [hnil] at this; simpa [sumS] using this
      clear hnil HX
      subst hres
      simp only [putW]
      go_wp2_with (first | (refine load1 hS rfl rfl rfl rfl ?_; simp only [putW]) | (refine loadAll hS rfl rfl rfl ?_ ?_; rfl; simp only [putW]) | (refine loadPart hS rfl rfl rfl ?_ rfl ?_; rfl; simp only [putW]) | (refine store1 hS rfl rfl rfl rfl rfl ?_ ?_; (focus (simp; done)); clear hS; intro w hS; simp only [evW, putW] at hS; try simp only [putW]) | (refine storeAll hS rfl rfl rfl rfl ?_ ?_ ?_ ?_; rfl; (focus (simp [Value.oneCell']; done)); rfl; clear hS; intro w hS; try simp only [putW]) | (refine storeN hS rfl rfl rfl rfl ?_ ?_ ?_ ?_; rfl; (focus (simp [Value.oneCell']; done)); (focus (simp; done)); clear hS; intro w hS; simp at hS; try simp only [putW]) | (refine alloc hS rfl rfl ?_; clear hS; intro mb w hS; simp only [putW]) | (refine box1 hS rfl rfl rfl rfl ?_; clear hS; intro mb w hS; try simp only [evW, putW] at hS; simp only [putW]) | (refine boxN hS rfl rfl rfl ?_; clear hS; intro mb w hS; simp only [putW]))
      go_ret
      exact ⟨rfl, (hS.itDone (r := r) (b := T.sm)).conv⟩
    · intro L1 kk y L2 w' hsp hmem hnk hS'
      clear hS
      have hS := hS'
      clear hS' hmem hnk
      have hlen2 : (L1 ++ L2).length + 1 = gk := by rw [← hlen, hsp]; simp; omega
      obtain ⟨h1, h2⟩ := HX.out
      rw [hsp] at h1 h2
      rw [sumS_mid] at h1
      have hy0 : 0 ≤ y := h2 (kk, y) (by simp)
      have h3 : ∀ p ∈ L1 ++ L2, 0 ≤ p.2 := fun p hp => h2 p (by
        rcases List.mem_append.1 hp with h | h
        · simp [h]
        · simp [h])
      have h4 := sumS_pos h3
      have hxy : y ≤ x := by have : x - (y + sumS (L1 ++ L2)) = R := h1; omega
      have HX2 : Bx (x - y - sumS (L1 ++ L2) = R ∧ ∀ p ∈ L1 ++ L2, 0 ≤ p.2) := ⟨by have : x - (y + sumS (L1 ++ L2)) = R := h1; omega, h3⟩
      clear h1 h2 h3 h4 HX hsp hlen
      simp only [putW]
      go_wp2_with (first | (refine entryMap (r := r) (b := T.sm) (enc := encInt) (ve := Value.int .i64) (l := SL) hS rfl rfl rfl ?_; simp only [putW, encInt]) | (refine load1 hS rfl rfl rfl rfl ?_; simp only [putW]) | (refine loadAll hS rfl rfl rfl ?_ ?_; rfl; simp only [putW]) | (refine loadPart hS rfl rfl rfl ?_ rfl ?_; rfl; simp only [putW]) | (refine store1 hS rfl rfl rfl rfl rfl ?_ ?_; (focus (simp; done)); clear hS; intro w hS; simp only [evW, putW] at hS; try simp only [putW]) | (refine storeAll hS rfl rfl rfl rfl ?_ ?_ ?_ ?_; rfl; (focus (simp [Value.oneCell']; done)); rfl; clear hS; intro w hS; try simp only [putW]) | (refine storeN hS rfl rfl rfl rfl ?_ ?_ ?_ ?_; rfl; (focus (simp [Value.oneCell']; done)); (focus (simp; done)); clear hS; intro w hS; simp at hS; try simp only [putW]) | (refine alloc hS rfl rfl ?_; clear hS; intro mb w hS; simp only [putW]) | (refine box1 hS rfl rfl rfl rfl ?_; clear hS; intro mb w hS; try simp only [evW, putW] at hS; simp only [putW]) | (refine boxN hS rfl rfl rfl ?_; clear hS; intro mb w hS; simp only [putW]))
      go_roundg ((L1 ++ L2).length)
      case measure => omega
      case rel => exact ⟨L1 ++ L2, some (kk, y), x - y, rfl, by go_num, by omega, by omega, HX2, hS.conv⟩
set_option maxRecDepth 100000 in
set_option maxHeartbeats 2000000 in
theorem reserve_any (hp : ∀ p ∈ SL, 0 ≤ p.2) (hs : sumS SL ≤ T.most) (hm : T.most ≤ 1024) (hS : Sat w0 ((t, cells (tbC T) 65) :: (T.sm, mapC encInt (Value.int .i64) SL) :: K) w) : Calls Try.prog 19 #[.pointer (some ⟨t, 0, none⟩), .int .i64 task, .int .i64 n] w fun e w' => ∃ r, e = .returned (.int .i64 r) ∧ ∃ SL2, ((r = 0 ∧ SL2 = mput SL task n ∧ 1 ≤ n ∧ n ≤ T.most - sumS SL ∧ (mget SL task).getD 0 ≤ 0) ∨ (r ≠ 0 ∧ SL2 = SL)) ∧ Sat w0 ((t, cells (tbC T) 65) :: (T.sm, mapC encInt (Value.int .i64) SL2) :: K) w' := by
  obtain ⟨q, hq⟩ : ∃ q, (mget SL task).getD 0 = q := ⟨_, rfl⟩
  have Hq : Bx _ := ⟨hq⟩
  obtain ⟨R, hR⟩ : ∃ R, T.most - sumS SL = R := ⟨_, rfl⟩
  have HR : Bx _ := ⟨hR⟩
  have HP : Bx (∀ p ∈ SL, 0 ≤ p.2) := ⟨hp⟩
  have HS : Bx (sumS SL ≤ T.most) := ⟨hs⟩
  rw [hq, hR]
  clear hq hp hs hR
  by_cases h1 : n < 1
  · have d1 : decide (n < 1) = true := decide_eq_true h1
    go_enter Try.func19, Try.ntmps19
    go_wp2_with (first | (refine load1 hS rfl rfl rfl rfl ?_; simp only [putW]) | (refine loadAll hS rfl rfl rfl ?_ ?_; rfl; simp only [putW]) | (refine loadPart hS rfl rfl rfl ?_ rfl ?_; rfl; simp only [putW]) | (refine store1 hS rfl rfl rfl rfl rfl ?_ ?_; (focus (simp; done)); clear hS; intro w hS; simp only [evW, putW] at hS; try simp only [putW]) | (refine storeAll hS rfl rfl rfl rfl ?_ ?_ ?_ ?_; rfl; (focus (simp [Value.oneCell']; done)); rfl; clear hS; intro w hS; try simp only [putW]) | (refine storeN hS rfl rfl rfl rfl ?_ ?_ ?_ ?_; rfl; (focus (simp [Value.oneCell']; done)); (focus (simp; done)); clear hS; intro w hS; simp at hS; try simp only [putW]) | (refine alloc hS rfl rfl ?_; clear hS; intro mb w hS; simp only [putW]) | (refine box1 hS rfl rfl rfl rfl ?_; clear hS; intro mb w hS; try simp only [evW, putW] at hS; simp only [putW]) | (refine boxN hS rfl rfl rfl ?_; clear hS; intro mb w hS; simp only [putW]))
    refine bodyPost_ret (v := .int .i64 1) (by simp [results, Try.results19]) rfl ⟨1, rfl, SL, .inr ⟨by omega, rfl⟩, hS.conv⟩
  · have d1 : decide (n < 1) = false := decide_eq_false h1
    by_cases h2 : 0 < q
    · have d2 : decide (0 < q) = true := decide_eq_true h2
      go_enter Try.func19, Try.ntmps19
      go_wp2_with (first | (refine lookup1 (enc := encInt) (ve := Value.int .i64) hS rfl rfl task rfl rfl 0 rfl ?_; rw [Hq.out]; simp only [putW]) | (refine load1 hS rfl rfl rfl rfl ?_; simp only [putW]) | (refine loadAll hS rfl rfl rfl ?_ ?_; rfl; simp only [putW]) | (refine loadPart hS rfl rfl rfl ?_ rfl ?_; rfl; simp only [putW]) | (refine store1 hS rfl rfl rfl rfl rfl ?_ ?_; (focus (simp; done)); clear hS; intro w hS; simp only [evW, putW] at hS; try simp only [putW]) | (refine storeAll hS rfl rfl rfl rfl ?_ ?_ ?_ ?_; rfl; (focus (simp [Value.oneCell']; done)); rfl; clear hS; intro w hS; try simp only [putW]) | (refine storeN hS rfl rfl rfl rfl ?_ ?_ ?_ ?_; rfl; (focus (simp [Value.oneCell']; done)); (focus (simp; done)); clear hS; intro w hS; simp at hS; try simp only [putW]) | (refine alloc hS rfl rfl ?_; clear hS; intro mb w hS; simp only [putW]) | (refine box1 hS rfl rfl rfl rfl ?_; clear hS; intro mb w hS; try simp only [evW, putW] at hS; simp only [putW]) | (refine boxN hS rfl rfl rfl ?_; clear hS; intro mb w hS; simp only [putW]))
      refine bodyPost_ret (v := .int .i64 6) (by simp [results, Try.results19]) rfl ⟨6, rfl, SL, .inr ⟨by omega, rfl⟩, hS.conv⟩
    · have d2 : decide (0 < q) = false := decide_eq_false h2
      by_cases h3 : R < n
      · have d3 : decide (R < n) = true := decide_eq_true h3
        go_enter Try.func19, Try.ntmps19
        go_wp2_with (first | (refine lookup1 (enc := encInt) (ve := Value.int .i64) hS rfl rfl task rfl rfl 0 rfl ?_; rw [Hq.out]; simp only [putW]) | (go_at_call 20; refine Calls.mono (left_any HP.out HS.out hm hS) ?_; rw [HR.out]; clear hS; rintro _ w ⟨rfl, hS⟩; simp only [putW]) | (refine load1 hS rfl rfl rfl rfl ?_; simp only [putW]) | (refine loadAll hS rfl rfl rfl ?_ ?_; rfl; simp only [putW]) | (refine loadPart hS rfl rfl rfl ?_ rfl ?_; rfl; simp only [putW]) | (refine store1 hS rfl rfl rfl rfl rfl ?_ ?_; (focus (simp; done)); clear hS; intro w hS; simp only [evW, putW] at hS; try simp only [putW]) | (refine storeAll hS rfl rfl rfl rfl ?_ ?_ ?_ ?_; rfl; (focus (simp [Value.oneCell']; done)); rfl; clear hS; intro w hS; try simp only [putW]) | (refine storeN hS rfl rfl rfl rfl ?_ ?_ ?_ ?_; rfl; (focus (simp [Value.oneCell']; done)); (focus (simp; done)); clear hS; intro w hS; simp at hS; try simp only [putW]) | (refine alloc hS rfl rfl ?_; clear hS; intro mb w hS; simp only [putW]) | (refine box1 hS rfl rfl rfl rfl ?_; clear hS; intro mb w hS; try simp only [evW, putW] at hS; simp only [putW]) | (refine boxN hS rfl rfl rfl ?_; clear hS; intro mb w hS; simp only [putW]))
        refine bodyPost_ret (v := .int .i64 12) (by simp [results, Try.results19]) rfl ⟨12, rfl, SL, .inr ⟨by omega, rfl⟩, hS.conv⟩
      · have d3 : decide (R < n) = false := decide_eq_false h3
        go_enter Try.func19, Try.ntmps19
        go_wp2_with (first | (refine lookup1 (enc := encInt) (ve := Value.int .i64) hS rfl rfl task rfl rfl 0 rfl ?_; rw [Hq.out]; simp only [putW]) | (go_at_call 20; refine Calls.mono (left_any HP.out HS.out hm hS) ?_; rw [HR.out]; clear hS; rintro _ w ⟨rfl, hS⟩; simp only [putW]) | (refine mapUpdate (enc := encInt) (ve := Value.int .i64) hS rfl rfl task n rfl rfl rfl ?_; clear hS; intro w hS; try simp only [putW]) | (refine load1 hS rfl rfl rfl rfl ?_; simp only [putW]) | (refine loadAll hS rfl rfl rfl ?_ ?_; rfl; simp only [putW]) | (refine loadPart hS rfl rfl rfl ?_ rfl ?_; rfl; simp only [putW]) | (refine store1 hS rfl rfl rfl rfl rfl ?_ ?_; (focus (simp; done)); clear hS; intro w hS; simp only [evW, putW] at hS; try simp only [putW]) | (refine storeAll hS rfl rfl rfl rfl ?_ ?_ ?_ ?_; rfl; (focus (simp [Value.oneCell']; done)); rfl; clear hS; intro w hS; try simp only [putW]) | (refine storeN hS rfl rfl rfl rfl ?_ ?_ ?_ ?_; rfl; (focus (simp [Value.oneCell']; done)); (focus (simp; done)); clear hS; intro w hS; simp at hS; try simp only [putW]) | (refine alloc hS rfl rfl ?_; clear hS; intro mb w hS; simp only [putW]) | (refine box1 hS rfl rfl rfl rfl ?_; clear hS; intro mb w hS; try simp only [evW, putW] at hS; simp only [putW]) | (refine boxN hS rfl rfl rfl ?_; clear hS; intro mb w hS; simp only [putW]))
        refine bodyPost_ret (v := .int .i64 0) (by simp [results, Try.results19]) rfl ⟨0, rfl, mput SL task n, .inl ⟨rfl, rfl⟩, hS.conv⟩
end
end Go.Proofs.Ytlkoclalcfeniaa
