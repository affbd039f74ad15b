/-
  frames: Reserve, exactly; Get, Clean, Pin, Warm, Written of a key that is in no frame; Clean, Written of one that is; Victim where a frame is empty.
  frames: Clean, Written of a key that is in a frame.
-/
import Derived.Test.YtlkoclalcfeniaaFrShare
import Derived.Test.YtlkoclalcfeniaaFrPut
import Derived.Test.YtlkoclalcfeniaaFrPin
set_option linter.unusedSimpArgs false
set_option linter.unusedVariables false
namespace Go.Proofs.Ytlkoclalcfeniaa
open Go.RowKit Go.Proofs.Ytlkoclalcfeniaa.Sl Go.Proofs.Ytlkoclalcfeniaa.Jp

def resC (SL : Shs) (most task n : Int) : Int := if n < 1 then 1 else if 0 < (mget SL task).getD 0 then 6 else if most - sumS SL < n then 12 else 0
section
variable {w0 w : World} {K F S : List Chunk} {t j b tb pm : Nat} {T : Tb} {FL : Frs} {PL : PinsW} {SL : Shs} {n task key : Int} {x : FrV} {now : Nat} {sp : Spots}
set_option maxRecDepth 100000 in
set_option maxHeartbeats 2000000 in
theorem reserve_x (hp : ∀ p ∈ SL, 0 ≤ p.2) (hs : sumS SL ≤ T.most) (hm : T.most ≤ 1024) (hS : Sat w0 ((t, cells (tbC T) 65) :: (T.sm, mapC encInt (Value.int .i64) SL) :: K) w) : Calls Try.prog 19 #[.pointer (some ⟨t, 0, none⟩), .int .i64 task, .int .i64 n] w fun e w' => e = .returned (.int .i64 (resC SL T.most task n)) ∧ Sat w0 ((t, cells (tbC T) 65) :: (T.sm, mapC encInt (Value.int .i64) (if resC SL T.most task n = 0 then mput SL task n else SL)) :: K) w' := by
  obtain ⟨q, hq⟩ : ∃ q, (mget SL task).getD 0 = q := ⟨_, rfl⟩
  have Hq : Bx _ := ⟨hq⟩
  obtain ⟨R, hR⟩ : ∃ R, T.most - sumS SL = R := ⟨_, rfl⟩
  have HR : Bx _ := ⟨hR⟩
  have HP : Bx (∀ p ∈ SL, 0 ≤ p.2) := ⟨hp⟩
  have HS : Bx (sumS SL ≤ T.most) := ⟨hs⟩
  have HC : Bx (resC SL T.most task n = if n < 1 then 1 else if 0 < q then 6 else if R < n then 12 else 0) := ⟨by unfold resC; rw [hq, hR]⟩
  obtain ⟨c, hc⟩ : ∃ c, resC SL T.most task n = c := ⟨_, rfl⟩
  rw [hc] at HC ⊢
  clear hq hp hs hR hc
  by_cases h1 : n < 1
  · have d1 : decide (n < 1) = true := decide_eq_true h1
    have e0 : c = 1 := by rw [HC.out, if_pos h1]
    subst e0
    go_enter Try.func19, Try.ntmps19
    go_wp2_with (first | (refine load1 hS rfl rfl rfl rfl ?_; simp only [putW]) | (refine loadAll hS rfl rfl rfl ?_ ?_; rfl; simp only [putW]) | (refine loadPart hS rfl rfl rfl ?_ rfl ?_; rfl; simp only [putW]) | (refine store1 hS rfl rfl rfl rfl rfl ?_ ?_; (focus (simp; done)); clear hS; intro w hS; simp only [evW, putW] at hS; try simp only [putW]) | (refine storeAll hS rfl rfl rfl rfl ?_ ?_ ?_ ?_; rfl; (focus (simp [Value.oneCell']; done)); rfl; clear hS; intro w hS; try simp only [putW]) | (refine storeN hS rfl rfl rfl rfl ?_ ?_ ?_ ?_; rfl; (focus (simp [Value.oneCell']; done)); (focus (simp; done)); clear hS; intro w hS; simp at hS; try simp only [putW]) | (refine alloc hS rfl rfl ?_; clear hS; intro mb w hS; simp only [putW]) | (refine box1 hS rfl rfl rfl rfl ?_; clear hS; intro mb w hS; try simp only [evW, putW] at hS; simp only [putW]) | (refine boxN hS rfl rfl rfl ?_; clear hS; intro mb w hS; simp only [putW]))
    refine bodyPost_ret (v := .int .i64 1) (by simp [results, Try.results19]) rfl ⟨rfl, hS.conv⟩
  · have d1 : decide (n < 1) = false := decide_eq_false h1
    by_cases h2 : 0 < q
    · have d2 : decide (0 < q) = true := decide_eq_true h2
      have e0 : c = 6 := by rw [HC.out, if_neg h1, if_pos h2]
      subst e0
      go_enter Try.func19, Try.ntmps19
      go_wp2_with (first | (refine lookup1 (enc := encInt) (ve := Value.int .i64) hS rfl rfl task rfl rfl 0 rfl ?_; rw [Hq.out]; simp only [putW]) | (refine load1 hS rfl rfl rfl rfl ?_; simp only [putW]) | (refine loadAll hS rfl rfl rfl ?_ ?_; rfl; simp only [putW]) | (refine loadPart hS rfl rfl rfl ?_ rfl ?_; rfl; simp only [putW]) | (refine store1 hS rfl rfl rfl rfl rfl ?_ ?_; (focus (simp; done)); clear hS; intro w hS; simp only [evW, putW] at hS; try simp only [putW]) | (refine storeAll hS rfl rfl rfl rfl ?_ ?_ ?_ ?_; rfl; (focus (simp [Value.oneCell']; done)); rfl; clear hS; intro w hS; try simp only [putW]) | (refine storeN hS rfl rfl rfl rfl ?_ ?_ ?_ ?_; rfl; (focus (simp [Value.oneCell']; done)); (focus (simp; done)); clear hS; intro w hS; simp at hS; try simp only [putW]) | (refine alloc hS rfl rfl ?_; clear hS; intro mb w hS; simp only [putW]) | (refine box1 hS rfl rfl rfl rfl ?_; clear hS; intro mb w hS; try simp only [evW, putW] at hS; simp only [putW]) | (refine boxN hS rfl rfl rfl ?_; clear hS; intro mb w hS; simp only [putW]))
      refine bodyPost_ret (v := .int .i64 6) (by simp [results, Try.results19]) rfl ⟨rfl, hS.conv⟩
    · have d2 : decide (0 < q) = false := decide_eq_false h2
      by_cases h3 : R < n
      · have d3 : decide (R < n) = true := decide_eq_true h3
        have e0 : c = 12 := by rw [HC.out, if_neg h1, if_neg h2, if_pos h3]
        subst e0
        go_enter Try.func19, Try.ntmps19
        go_wp2_with (first | (refine lookup1 (enc := encInt) (ve := Value.int .i64) hS rfl rfl task rfl rfl 0 rfl ?_; rw [Hq.out]; simp only [putW]) | (go_at_call 20; refine Calls.mono (left_any HP.out HS.out hm hS) ?_; rw [HR.out]; clear hS; rintro _ w ⟨rfl, hS⟩; simp only [putW]) | (refine load1 hS rfl rfl rfl rfl ?_; simp only [putW]) | (refine loadAll hS rfl rfl rfl ?_ ?_; rfl; simp only [putW]) | (refine loadPart hS rfl rfl rfl ?_ rfl ?_; rfl; simp only [putW]) | (refine store1 hS rfl rfl rfl rfl rfl ?_ ?_; (focus (simp; done)); clear hS; intro w hS; simp only [evW, putW] at hS; try simp only [putW]) | (refine storeAll hS rfl rfl rfl rfl ?_ ?_ ?_ ?_; rfl; (focus (simp [Value.oneCell']; done)); rfl; clear hS; intro w hS; try simp only [putW]) | (refine storeN hS rfl rfl rfl rfl ?_ ?_ ?_ ?_; rfl; (focus (simp [Value.oneCell']; done)); (focus (simp; done)); clear hS; intro w hS; simp at hS; try simp only [putW]) | (refine alloc hS rfl rfl ?_; clear hS; intro mb w hS; simp only [putW]) | (refine box1 hS rfl rfl rfl rfl ?_; clear hS; intro mb w hS; try simp only [evW, putW] at hS; simp only [putW]) | (refine boxN hS rfl rfl rfl ?_; clear hS; intro mb w hS; simp only [putW]))
        refine bodyPost_ret (v := .int .i64 12) (by simp [results, Try.results19]) rfl ⟨rfl, hS.conv⟩
      · have d3 : decide (R < n) = false := decide_eq_false h3
        have e0 : c = 0 := by rw [HC.out, if_neg h1, if_neg h2, if_neg h3]
        subst e0
        go_enter Try.func19, Try.ntmps19
        go_wp2_with (first | (refine lookup1 (enc := encInt) (ve := Value.int .i64) hS rfl rfl task rfl rfl 0 rfl ?_; rw [Hq.out]; simp only [putW]) | (go_at_call 20; refine Calls.mono (left_any HP.out HS.out hm hS) ?_; rw [HR.out]; clear hS; rintro _ w ⟨rfl, hS⟩; simp only [putW]) | (refine mapUpdate (enc := encInt) (ve := Value.int .i64) hS rfl rfl task n rfl rfl rfl ?_; clear hS; intro w hS; try simp only [putW]) | (refine load1 hS rfl rfl rfl rfl ?_; simp only [putW]) | (refine loadAll hS rfl rfl rfl ?_ ?_; rfl; simp only [putW]) | (refine loadPart hS rfl rfl rfl ?_ rfl ?_; rfl; simp only [putW]) | (refine store1 hS rfl rfl rfl rfl rfl ?_ ?_; (focus (simp; done)); clear hS; intro w hS; simp only [evW, putW] at hS; try simp only [putW]) | (refine storeAll hS rfl rfl rfl rfl ?_ ?_ ?_ ?_; rfl; (focus (simp [Value.oneCell']; done)); rfl; clear hS; intro w hS; try simp only [putW]) | (refine storeN hS rfl rfl rfl rfl ?_ ?_ ?_ ?_; rfl; (focus (simp [Value.oneCell']; done)); (focus (simp; done)); clear hS; intro w hS; simp at hS; try simp only [putW]) | (refine alloc hS rfl rfl ?_; clear hS; intro mb w hS; simp only [putW]) | (refine box1 hS rfl rfl rfl rfl ?_; clear hS; intro mb w hS; try simp only [evW, putW] at hS; simp only [putW]) | (refine boxN hS rfl rfl rfl ?_; clear hS; intro mb w hS; simp only [putW]))
        refine bodyPost_ret (v := .int .i64 0) (by simp [results, Try.results19]) rfl ⟨rfl, hS.conv⟩
set_option maxRecDepth 100000 in
theorem get_absent (hx : mget FL key = none) (hS : Sat w0 ((t, cells (tbC T) 65) :: (T.fm, mapC encInt frV FL) :: K) w) : Calls Try.prog 22 #[.pointer (some ⟨t, 0, none⟩), .int .i64 key] w fun e w' => e = .returned (.tuple #[.slice none 0 0, .int .i64 5]) ∧ Sat w0 ((t, cells (tbC T) 65) :: (T.fm, mapC encInt frV FL) :: K) w' := by
  have Hx : Bx ((mget FL key).getD fr0 = fr0 ∧ (mget FL key).isSome = false) := ⟨by simp [hx]⟩
  clear hx
  go_enter Try.func22, Try.ntmps22
  go_wp2_with (first | (guard_target =~ Calls _ 31 _ _ _; refine Stopped.out ?_) | (refine load1 hS rfl rfl rfl rfl ?_; simp only [putW]) | (refine loadAll hS rfl rfl rfl ?_ ?_; rfl; simp only [putW]) | (refine loadPart hS rfl rfl rfl ?_ rfl ?_; rfl; simp only [putW]) | (refine store1 hS rfl rfl rfl rfl rfl ?_ ?_; (focus (simp; done)); clear hS; intro w hS; simp only [evW, putW] at hS; try simp only [putW]) | (refine storeAll hS rfl rfl rfl rfl ?_ ?_ ?_ ?_; rfl; (focus (simp [Value.oneCell']; done)); rfl; clear hS; intro w hS; try simp only [putW]) | (refine storeN hS rfl rfl rfl rfl ?_ ?_ ?_ ?_; rfl; (focus (simp [Value.oneCell']; done)); (focus (simp; done)); clear hS; intro w hS; simp at hS; try simp only [putW]) | (refine alloc hS rfl rfl ?_; clear hS; intro mb w hS; simp only [putW]) | (refine box1 hS rfl rfl rfl rfl ?_; clear hS; intro mb w hS; try simp only [evW, putW] at hS; simp only [putW]) | (refine boxN hS rfl rfl rfl ?_; clear hS; intro mb w hS; simp only [putW]))
  refine ⟨?_⟩
  refine Calls.mono (find_any (key := key) hS) ?_
  clear hS
  rintro _ w ⟨rfl, hS⟩
  rw [Hx.out.1, Hx.out.2]
  simp only [putW, Bool.false_eq_true, if_false]
  go_wp2_with (first | (refine load1 hS rfl rfl rfl rfl ?_; simp only [putW]) | (refine loadAll hS rfl rfl rfl ?_ ?_; rfl; simp only [putW]) | (refine loadPart hS rfl rfl rfl ?_ rfl ?_; rfl; simp only [putW]) | (refine store1 hS rfl rfl rfl rfl rfl ?_ ?_; (focus (simp; done)); clear hS; intro w hS; simp only [evW, putW] at hS; try simp only [putW]) | (refine storeAll hS rfl rfl rfl rfl ?_ ?_ ?_ ?_; rfl; (focus (simp [Value.oneCell']; done)); rfl; clear hS; intro w hS; try simp only [putW]) | (refine storeN hS rfl rfl rfl rfl ?_ ?_ ?_ ?_; rfl; (focus (simp [Value.oneCell']; done)); (focus (simp; done)); clear hS; intro w hS; simp at hS; try simp only [putW]) | (refine alloc hS rfl rfl ?_; clear hS; intro mb w hS; simp only [putW]) | (refine box1 hS rfl rfl rfl rfl ?_; clear hS; intro mb w hS; try simp only [evW, putW] at hS; simp only [putW]) | (refine boxN hS rfl rfl rfl ?_; clear hS; intro mb w hS; simp only [putW]))
  refine bodyPost_ret (v := .tuple #[.slice none 0 0, .int .i64 5]) (by simp [results, Try.results22]) rfl ⟨rfl, hS⟩
set_option maxRecDepth 100000 in
theorem clean_absent (hx : mget FL key = none) (hS : Sat w0 ((t, cells (tbC T) 65) :: (T.fm, mapC encInt frV FL) :: K) w) : Calls Try.prog 24 #[.pointer (some ⟨t, 0, none⟩), .int .i64 key] w fun e w' => e = .returned (.int .i64 5) ∧ Sat w0 ((t, cells (tbC T) 65) :: (T.fm, mapC encInt frV FL) :: K) w' := by
  have Hx : Bx ((mget FL key).getD fr0 = fr0 ∧ (mget FL key).isSome = false) := ⟨by simp [hx]⟩
  clear hx
  go_enter Try.func24, Try.ntmps24
  go_wp2_with (first | (guard_target =~ Calls _ 31 _ _ _; refine Stopped.out ?_) | (refine load1 hS rfl rfl rfl rfl ?_; simp only [putW]) | (refine loadAll hS rfl rfl rfl ?_ ?_; rfl; simp only [putW]) | (refine loadPart hS rfl rfl rfl ?_ rfl ?_; rfl; simp only [putW]) | (refine store1 hS rfl rfl rfl rfl rfl ?_ ?_; (focus (simp; done)); clear hS; intro w hS; simp only [evW, putW] at hS; try simp only [putW]) | (refine storeAll hS rfl rfl rfl rfl ?_ ?_ ?_ ?_; rfl; (focus (simp [Value.oneCell']; done)); rfl; clear hS; intro w hS; try simp only [putW]) | (refine storeN hS rfl rfl rfl rfl ?_ ?_ ?_ ?_; rfl; (focus (simp [Value.oneCell']; done)); (focus (simp; done)); clear hS; intro w hS; simp at hS; try simp only [putW]) | (refine alloc hS rfl rfl ?_; clear hS; intro mb w hS; simp only [putW]) | (refine box1 hS rfl rfl rfl rfl ?_; clear hS; intro mb w hS; try simp only [evW, putW] at hS; simp only [putW]) | (refine boxN hS rfl rfl rfl ?_; clear hS; intro mb w hS; simp only [putW]))
  refine ⟨?_⟩
  refine Calls.mono (find_any (key := key) hS) ?_
  clear hS
  rintro _ w ⟨rfl, hS⟩
  rw [Hx.out.1, Hx.out.2]
  simp only [putW, Bool.false_eq_true, if_false]
  go_wp2_with (first | (refine load1 hS rfl rfl rfl rfl ?_; simp only [putW]) | (refine loadAll hS rfl rfl rfl ?_ ?_; rfl; simp only [putW]) | (refine loadPart hS rfl rfl rfl ?_ rfl ?_; rfl; simp only [putW]) | (refine store1 hS rfl rfl rfl rfl rfl ?_ ?_; (focus (simp; done)); clear hS; intro w hS; simp only [evW, putW] at hS; try simp only [putW]) | (refine storeAll hS rfl rfl rfl rfl ?_ ?_ ?_ ?_; rfl; (focus (simp [Value.oneCell']; done)); rfl; clear hS; intro w hS; try simp only [putW]) | (refine storeN hS rfl rfl rfl rfl ?_ ?_ ?_ ?_; rfl; (focus (simp [Value.oneCell']; done)); (focus (simp; done)); clear hS; intro w hS; simp at hS; try simp only [putW]) | (refine alloc hS rfl rfl ?_; clear hS; intro mb w hS; simp only [putW]) | (refine box1 hS rfl rfl rfl rfl ?_; clear hS; intro mb w hS; try simp only [evW, putW] at hS; simp only [putW]) | (refine boxN hS rfl rfl rfl ?_; clear hS; intro mb w hS; simp only [putW]))
  go_ret
  exact ⟨rfl, hS⟩
set_option maxRecDepth 100000 in
theorem pin_absent (hx : mget FL key = none) (hS : Sat w0 ((t, cells (tbC T) 65) :: (T.fm, mapC encInt frV FL) :: K) w) : Calls Try.prog 12 #[.pointer (some ⟨t, 0, none⟩), .int .i64 task, .int .i64 key] w fun e w' => e = .returned (.int .i64 5) ∧ Sat w0 ((t, cells (tbC T) 65) :: (T.fm, mapC encInt frV FL) :: K) w' := by
  have Hx : Bx ((mget FL key).getD fr0 = fr0 ∧ (mget FL key).isSome = false) := ⟨by simp [hx]⟩
  clear hx
  go_enter Try.func12, Try.ntmps12
  go_wp2_with (first | (guard_target =~ Calls _ 31 _ _ _; refine Stopped.out ?_) | (refine load1 hS rfl rfl rfl rfl ?_; simp only [putW]) | (refine loadAll hS rfl rfl rfl ?_ ?_; rfl; simp only [putW]) | (refine loadPart hS rfl rfl rfl ?_ rfl ?_; rfl; simp only [putW]) | (refine store1 hS rfl rfl rfl rfl rfl ?_ ?_; (focus (simp; done)); clear hS; intro w hS; simp only [evW, putW] at hS; try simp only [putW]) | (refine storeAll hS rfl rfl rfl rfl ?_ ?_ ?_ ?_; rfl; (focus (simp [Value.oneCell']; done)); rfl; clear hS; intro w hS; try simp only [putW]) | (refine storeN hS rfl rfl rfl rfl ?_ ?_ ?_ ?_; rfl; (focus (simp [Value.oneCell']; done)); (focus (simp; done)); clear hS; intro w hS; simp at hS; try simp only [putW]) | (refine alloc hS rfl rfl ?_; clear hS; intro mb w hS; simp only [putW]) | (refine box1 hS rfl rfl rfl rfl ?_; clear hS; intro mb w hS; try simp only [evW, putW] at hS; simp only [putW]) | (refine boxN hS rfl rfl rfl ?_; clear hS; intro mb w hS; simp only [putW]))
  refine ⟨?_⟩
  refine Calls.mono (find_any (key := key) hS) ?_
  clear hS
  rintro _ w ⟨rfl, hS⟩
  rw [Hx.out.1, Hx.out.2]
  simp only [putW, Bool.false_eq_true, if_false]
  go_wp2_with (first | (refine load1 hS rfl rfl rfl rfl ?_; simp only [putW]) | (refine loadAll hS rfl rfl rfl ?_ ?_; rfl; simp only [putW]) | (refine loadPart hS rfl rfl rfl ?_ rfl ?_; rfl; simp only [putW]) | (refine store1 hS rfl rfl rfl rfl rfl ?_ ?_; (focus (simp; done)); clear hS; intro w hS; simp only [evW, putW] at hS; try simp only [putW]) | (refine storeAll hS rfl rfl rfl rfl ?_ ?_ ?_ ?_; rfl; (focus (simp [Value.oneCell']; done)); rfl; clear hS; intro w hS; try simp only [putW]) | (refine storeN hS rfl rfl rfl rfl ?_ ?_ ?_ ?_; rfl; (focus (simp [Value.oneCell']; done)); (focus (simp; done)); clear hS; intro w hS; simp at hS; try simp only [putW]) | (refine alloc hS rfl rfl ?_; clear hS; intro mb w hS; simp only [putW]) | (refine box1 hS rfl rfl rfl rfl ?_; clear hS; intro mb w hS; try simp only [evW, putW] at hS; simp only [putW]) | (refine boxN hS rfl rfl rfl ?_; clear hS; intro mb w hS; simp only [putW]))
  go_ret
  exact ⟨rfl, hS⟩
set_option maxRecDepth 100000 in
theorem warm_absent {bts : Nat} (hx : mget FL key = none) (hS : Sat w0 ((t, cells (tbC T) 65) :: (T.fm, mapC encInt frV FL) :: K) w) : Calls Try.prog 11 #[.pointer (some ⟨t, 0, none⟩), .int .i64 key, .float .f64 bts] w fun e w' => e = .returned (.tuple #[]) ∧ Sat w0 ((t, cells (tbC T) 65) :: (T.fm, mapC encInt frV FL) :: K) w' := by
  have Hx : Bx ((mget FL key).getD fr0 = fr0 ∧ (mget FL key).isSome = false) := ⟨by simp [hx]⟩
  clear hx
  go_enter Try.func11, Try.ntmps11
  go_wp2_with (first | (guard_target =~ Calls _ 31 _ _ _; refine Stopped.out ?_) | (refine load1 hS rfl rfl rfl rfl ?_; simp only [putW]) | (refine loadAll hS rfl rfl rfl ?_ ?_; rfl; simp only [putW]) | (refine loadPart hS rfl rfl rfl ?_ rfl ?_; rfl; simp only [putW]) | (refine store1 hS rfl rfl rfl rfl rfl ?_ ?_; (focus (simp; done)); clear hS; intro w hS; simp only [evW, putW] at hS; try simp only [putW]) | (refine storeAll hS rfl rfl rfl rfl ?_ ?_ ?_ ?_; rfl; (focus (simp [Value.oneCell']; done)); rfl; clear hS; intro w hS; try simp only [putW]) | (refine storeN hS rfl rfl rfl rfl ?_ ?_ ?_ ?_; rfl; (focus (simp [Value.oneCell']; done)); (focus (simp; done)); clear hS; intro w hS; simp at hS; try simp only [putW]) | (refine alloc hS rfl rfl ?_; clear hS; intro mb w hS; simp only [putW]) | (refine box1 hS rfl rfl rfl rfl ?_; clear hS; intro mb w hS; try simp only [evW, putW] at hS; simp only [putW]) | (refine boxN hS rfl rfl rfl ?_; clear hS; intro mb w hS; simp only [putW]))
  refine ⟨?_⟩
  refine Calls.mono (find_any (key := key) hS) ?_
  clear hS
  rintro _ w ⟨rfl, hS⟩
  rw [Hx.out.1, Hx.out.2]
  simp only [putW, Bool.false_eq_true, if_false]
  go_wp2_with (first | (refine load1 hS rfl rfl rfl rfl ?_; simp only [putW]) | (refine loadAll hS rfl rfl rfl ?_ ?_; rfl; simp only [putW]) | (refine loadPart hS rfl rfl rfl ?_ rfl ?_; rfl; simp only [putW]) | (refine store1 hS rfl rfl rfl rfl rfl ?_ ?_; (focus (simp; done)); clear hS; intro w hS; simp only [evW, putW] at hS; try simp only [putW]) | (refine storeAll hS rfl rfl rfl rfl ?_ ?_ ?_ ?_; rfl; (focus (simp [Value.oneCell']; done)); rfl; clear hS; intro w hS; try simp only [putW]) | (refine storeN hS rfl rfl rfl rfl ?_ ?_ ?_ ?_; rfl; (focus (simp [Value.oneCell']; done)); (focus (simp; done)); clear hS; intro w hS; simp at hS; try simp only [putW]) | (refine alloc hS rfl rfl ?_; clear hS; intro mb w hS; simp only [putW]) | (refine box1 hS rfl rfl rfl rfl ?_; clear hS; intro mb w hS; try simp only [evW, putW] at hS; simp only [putW]) | (refine boxN hS rfl rfl rfl ?_; clear hS; intro mb w hS; simp only [putW]))
  go_end0
  exact ⟨rfl, hS⟩
set_option maxRecDepth 100000 in
theorem victim_room (hm : (FL.length : Int) < T.most) (hS : Sat w0 ((t, cells (tbC T) 65) :: (T.fm, mapC encInt frV FL) :: K) w) : Calls Try.prog 13 #[.pointer (some ⟨t, 0, none⟩)] w fun e w' => e = .returned (.tuple #[.int .i64 0, .int .i64 5]) ∧ Sat w0 ((t, cells (tbC T) 65) :: (T.fm, mapC encInt frV FL) :: K) w' := by
  obtain ⟨nF, hnF⟩ : ∃ n, FL.length = n := ⟨_, rfl⟩
  have HnF : Bx _ := ⟨hnF⟩
  rw [hnF] at hm
  have hlt : decide ((nF : Int) < T.most) = true := decide_eq_true hm
  clear hnF hm
  go_enter Try.func13, Try.ntmps13
  go_upto_region 1 with (first | (refine load1 hS rfl rfl rfl rfl ?_; simp only [putW]) | (refine loadAll hS rfl rfl rfl ?_ ?_; rfl; simp only [putW]) | (refine loadPart hS rfl rfl rfl ?_ rfl ?_; rfl; simp only [putW]) | (refine store1 hS rfl rfl rfl rfl rfl ?_ ?_; (focus (simp; done)); clear hS; intro w hS; simp only [evW, putW] at hS; try simp only [putW]) | (refine storeAll hS rfl rfl rfl rfl ?_ ?_ ?_ ?_; rfl; (focus (simp [Value.oneCell']; done)); rfl; clear hS; intro w hS; try simp only [putW]) | (refine storeN hS rfl rfl rfl rfl ?_ ?_ ?_ ?_; rfl; (focus (simp [Value.oneCell']; done)); (focus (simp; done)); clear hS; intro w hS; simp at hS; try simp only [putW]) | (refine alloc hS rfl rfl ?_; clear hS; intro mb w hS; simp only [putW]) | (refine box1 hS rfl rfl rfl rfl ?_; clear hS; intro mb w hS; try simp only [evW, putW] at hS; simp only [putW]) | (refine boxN hS rfl rfl rfl ?_; clear hS; intro mb w hS; simp only [putW]))
  (refine region_quiet hS (by kernel_rfl) (by kernel_rfl) (by kernel_rfl) ?_; clear hS; (repeat (apply quiet_step; (focus (intro w hS; go_wp2_with (first | (refine lenMap (enc := encInt) (ve := frV) (l := FL) hS rfl rfl rfl ?_; rw [HnF.out]; simp only [putW]) | (refine load1 hS rfl rfl rfl rfl ?_; simp only [putW]) | (refine loadAll hS rfl rfl rfl ?_ ?_; rfl; simp only [putW]) | (refine loadPart hS rfl rfl rfl ?_ rfl ?_; rfl; simp only [putW])); exact ⟨rfl, rfl, hS⟩)); simp only [putW])); refine quiet_nil ?_; intro w hS)
  go_wp2_with (first | (refine load1 hS rfl rfl rfl rfl ?_; simp only [putW]) | (refine loadAll hS rfl rfl rfl ?_ ?_; rfl; simp only [putW]) | (refine loadPart hS rfl rfl rfl ?_ rfl ?_; rfl; simp only [putW]) | (refine store1 hS rfl rfl rfl rfl rfl ?_ ?_; (focus (simp; done)); clear hS; intro w hS; simp only [evW, putW] at hS; try simp only [putW]) | (refine storeAll hS rfl rfl rfl rfl ?_ ?_ ?_ ?_; rfl; (focus (simp [Value.oneCell']; done)); rfl; clear hS; intro w hS; try simp only [putW]) | (refine storeN hS rfl rfl rfl rfl ?_ ?_ ?_ ?_; rfl; (focus (simp [Value.oneCell']; done)); (focus (simp; done)); clear hS; intro w hS; simp at hS; try simp only [putW]) | (refine alloc hS rfl rfl ?_; clear hS; intro mb w hS; simp only [putW]) | (refine box1 hS rfl rfl rfl rfl ?_; clear hS; intro mb w hS; try simp only [evW, putW] at hS; simp only [putW]) | (refine boxN hS rfl rfl rfl ?_; clear hS; intro mb w hS; simp only [putW]))
  refine bodyPost_ret (v := .tuple #[.int .i64 0, .int .i64 5]) (by simp [results, Try.results13]) rfl ⟨rfl, hS⟩
end
end Go.Proofs.Ytlkoclalcfeniaa
namespace Go.Proofs.Ytlkoclalcfeniaa
open Go.RowKit Go.Proofs.Ytlkoclalcfeniaa.Sl Go.Proofs.Ytlkoclalcfeniaa.Jp

section
variable {w0 w : World} {K F S : List Chunk} {t j b tb pm : Nat} {T : Tb} {FL : Frs} {n task key : Int} {x : FrV}
set_option maxRecDepth 100000 in
set_option maxHeartbeats 1000000 in
theorem written_some (hx : mget FL key = some x) (hok : FrOk FL) (hS : Sat w0 ((t, cells (tbC T) 65) :: (T.fm, mapC encInt frV FL) :: (7, frC FL) :: K) w) : Calls Try.prog 25 #[.pointer (some ⟨t, 0, none⟩), .int .i64 key] w fun e w' => e = .returned (.bool x.2.2.2) ∧ Sat w0 ((t, cells (tbC T) 65) :: (T.fm, mapC encInt frV FL) :: (7, frC FL) :: K) w' := by
  obtain ⟨FL1, FL2, hsplit⟩ := mget_split hx
  obtain ⟨f, hf, hxl, hxb⟩ := hok (key, x) (by rw [hsplit]; simp)
  obtain ⟨xa, xv, xA, xb⟩ := x
  have hf' : xa = some ⟨f, 0, none⟩ := hf
  subst hf'
  have Hspl : Bx _ := ⟨hsplit⟩
  have Hg : Bx ((mget FL key).getD fr0 = (some ⟨f, 0, none⟩, xv, xA, xb) ∧ (mget FL key).isSome = true) := ⟨by simp [hx]⟩
  clear hx hok hsplit hf hxl hxb
  go_enter Try.func25, Try.ntmps25
  go_wp2_with (first | (guard_target =~ Calls _ 31 _ _ _; refine Stopped.out ?_) | (refine load1 hS rfl rfl rfl rfl ?_; simp only [putW]) | (refine loadAll hS rfl rfl rfl ?_ ?_; rfl; simp only [putW]) | (refine loadPart hS rfl rfl rfl ?_ rfl ?_; rfl; simp only [putW]) | (refine store1 hS rfl rfl rfl rfl rfl ?_ ?_; (focus (simp; done)); clear hS; intro w hS; simp only [evW, putW] at hS; try simp only [putW]) | (refine storeAll hS rfl rfl rfl rfl ?_ ?_ ?_ ?_; rfl; (focus (simp [Value.oneCell']; done)); rfl; clear hS; intro w hS; try simp only [putW]) | (refine storeN hS rfl rfl rfl rfl ?_ ?_ ?_ ?_; rfl; (focus (simp [Value.oneCell']; done)); (focus (simp; done)); clear hS; intro w hS; simp at hS; try simp only [putW]) | (refine alloc hS rfl rfl ?_; clear hS; intro mb w hS; simp only [putW]) | (refine box1 hS rfl rfl rfl rfl ?_; clear hS; intro mb w hS; try simp only [evW, putW] at hS; simp only [putW]) | (refine boxN hS rfl rfl rfl ?_; clear hS; intro mb w hS; simp only [putW]))
  refine ⟨?_⟩
  refine Calls.mono (find_any (key := key) hS) ?_
  clear hS
  rintro _ w ⟨rfl, hS⟩
  rw [Hg.out.1, Hg.out.2]
  simp only [putW, if_true]
  have hS1 := hS.pull 7 (X := frC FL)
  rw [Hspl.out] at hS1
  have hS2 := frPull hS1
  rw [← Hspl.out] at hS2
  clear hS hS1
  have hS : Sat w0 ((f, cells #[xv, .bool xb] 69) :: (blk xv, sl 1 by8 xA 5 xv) :: (7, frC (FL1 ++ FL2)) :: (t, cells (tbC T) 65) :: (T.fm, mapC encInt frV FL) :: K) w := hS2
  clear hS2
  go_wp2_with (first | (refine load1 hS rfl rfl rfl rfl ?_; simp only [putW]) | (refine loadAll hS rfl rfl rfl ?_ ?_; rfl; simp only [putW]) | (refine loadPart hS rfl rfl rfl ?_ rfl ?_; rfl; simp only [putW]) | (refine store1 hS rfl rfl rfl rfl rfl ?_ ?_; (focus (simp; done)); clear hS; intro w hS; simp only [evW, putW] at hS; try simp only [putW]) | (refine storeAll hS rfl rfl rfl rfl ?_ ?_ ?_ ?_; rfl; (focus (simp [Value.oneCell']; done)); rfl; clear hS; intro w hS; try simp only [putW]) | (refine storeN hS rfl rfl rfl rfl ?_ ?_ ?_ ?_; rfl; (focus (simp [Value.oneCell']; done)); (focus (simp; done)); clear hS; intro w hS; simp at hS; try simp only [putW]) | (refine alloc hS rfl rfl ?_; clear hS; intro mb w hS; simp only [putW]) | (refine box1 hS rfl rfl rfl rfl ?_; clear hS; intro mb w hS; try simp only [evW, putW] at hS; simp only [putW]) | (refine boxN hS rfl rfl rfl ?_; clear hS; intro mb w hS; simp only [putW]))
  go_ret
  refine ⟨rfl, ?_⟩
  have h1 := frBack (x := (some ⟨f, 0, none⟩, xv, xA, xb)) key hS
  rw [← Hspl.out] at h1
  exact h1.conv
set_option maxRecDepth 100000 in
set_option maxHeartbeats 1000000 in
theorem clean_some (hx : mget FL key = some x) (hok : FrOk FL) (hS : Sat w0 ((t, cells (tbC T) 65) :: (T.fm, mapC encInt frV FL) :: (7, frC FL) :: K) w) : Calls Try.prog 24 #[.pointer (some ⟨t, 0, none⟩), .int .i64 key] w fun e w' => e = .returned (.int .i64 0) ∧ Sat w0 ((t, cells (tbC T) 65) :: (T.fm, mapC encInt frV (mput FL key (x.1, x.2.1, x.2.2.1, false))) :: (7, frC (mput FL key (x.1, x.2.1, x.2.2.1, false))) :: K) w' := by
  obtain ⟨FL1, FL2, hsplit, hput⟩ := mput_split hx
  obtain ⟨f, hf, hxl, hxb⟩ := hok (key, x) (by rw [hsplit]; simp)
  obtain ⟨xa, xv, xA, xb⟩ := x
  have hf' : xa = some ⟨f, 0, none⟩ := hf
  subst hf'
  have Hspl : Bx _ := ⟨hsplit⟩
  have Hput : Bx _ := ⟨hput⟩
  have Hg : Bx ((mget FL key).getD fr0 = (some ⟨f, 0, none⟩, xv, xA, xb) ∧ (mget FL key).isSome = true) := ⟨by simp [hx]⟩
  have hcell : xv.oneCell' = true := by
    have hS1 := hS.pull 7 (X := frC FL)
    rw [hsplit] at hS1
    exact ((frPull hS1).tail).slCell (v := xv) (n := 1) (f := by8) (L := xA) (t := 5)
  clear hx hok hsplit hf hxl hxb hput
  go_enter Try.func24, Try.ntmps24
  go_wp2_with (first | (guard_target =~ Calls _ 31 _ _ _; refine Stopped.out ?_) | (refine load1 hS rfl rfl rfl rfl ?_; simp only [putW]) | (refine loadAll hS rfl rfl rfl ?_ ?_; rfl; simp only [putW]) | (refine loadPart hS rfl rfl rfl ?_ rfl ?_; rfl; simp only [putW]) | (refine store1 hS rfl rfl rfl rfl rfl ?_ ?_; (focus (simp; done)); clear hS; intro w hS; simp only [evW, putW] at hS; try simp only [putW]) | (refine storeAll hS rfl rfl rfl rfl ?_ ?_ ?_ ?_; rfl; (focus (simp [Value.oneCell']; done)); rfl; clear hS; intro w hS; try simp only [putW]) | (refine storeN hS rfl rfl rfl rfl ?_ ?_ ?_ ?_; rfl; (focus (simp [Value.oneCell']; done)); (focus (simp; done)); clear hS; intro w hS; simp at hS; try simp only [putW]) | (refine alloc hS rfl rfl ?_; clear hS; intro mb w hS; simp only [putW]) | (refine box1 hS rfl rfl rfl rfl ?_; clear hS; intro mb w hS; try simp only [evW, putW] at hS; simp only [putW]) | (refine boxN hS rfl rfl rfl ?_; clear hS; intro mb w hS; simp only [putW]))
  refine ⟨?_⟩
  refine Calls.mono (find_any (key := key) hS) ?_
  clear hS
  rintro _ w ⟨rfl, hS⟩
  rw [Hg.out.1, Hg.out.2]
  simp only [putW, if_true]
  have hS1 := hS.pull 7 (X := frC FL)
  rw [Hspl.out] at hS1
  have hS2 := frPull hS1
  rw [← Hspl.out] at hS2
  clear hS hS1
  have hS : Sat w0 ((f, cells #[xv, .bool xb] 69) :: (blk xv, sl 1 by8 xA 5 xv) :: (7, frC (FL1 ++ FL2)) :: (t, cells (tbC T) 65) :: (T.fm, mapC encInt frV FL) :: K) w := hS2
  clear hS2
  go_wp2_with (first | (refine load1 hS rfl rfl rfl rfl ?_; simp only [putW]) | (refine loadAll hS rfl rfl rfl ?_ ?_; rfl; simp only [putW]) | (refine loadPart hS rfl rfl rfl ?_ rfl ?_; rfl; simp only [putW]) | (refine store1 hS rfl rfl rfl rfl rfl ?_ ?_; (focus (simp; done)); clear hS; intro w hS; simp only [evW, putW] at hS; try simp only [putW]) | (refine storeAll hS rfl rfl rfl rfl ?_ ?_ ?_ ?_; rfl; (focus (simp [Value.oneCell']; done)); rfl; clear hS; intro w hS; try simp only [putW]) | (refine storeN hS rfl rfl rfl rfl ?_ ?_ ?_ ?_; rfl; (focus (simp [Value.oneCell']; done)); (focus (simp; done)); clear hS; intro w hS; simp at hS; try simp only [putW]) | (refine alloc hS rfl rfl ?_; clear hS; intro mb w hS; simp only [putW]) | (refine box1 hS rfl rfl rfl rfl ?_; clear hS; intro mb w hS; try simp only [evW, putW] at hS; simp only [putW]) | (refine boxN hS rfl rfl rfl ?_; clear hS; intro mb w hS; simp only [putW]))
  go_ret
  refine ⟨rfl, ?_⟩
  have hS3 : Sat w0 ((f, cells #[xv, .bool false] 69) :: (blk xv, sl 1 by8 xA 5 xv) :: (7, frC (FL1 ++ FL2)) :: (t, cells (tbC T) 65) :: (T.fm, mapC encInt frV FL) :: K) _ := hS
  have h1 := frBack (x := (some ⟨f, 0, none⟩, xv, xA, false)) key hS3
  rw [← Hput.out (some ⟨f, 0, none⟩, xv, xA, false)] at h1
  have h2 := mapSame (l' := mput FL key (some ⟨f, 0, none⟩, xv, xA, false)) (by rw [Hput.out, Hspl.out]; simp [frV]) (by rw [Hput.out, Hspl.out]; simp [mkeys]) (h1.conv (S' := (T.fm, mapC encInt frV FL) :: (t, cells (tbC T) 65) :: (7, frC (mput FL key (some ⟨f, 0, none⟩, xv, xA, false))) :: K))
  exact h2.conv
end
end Go.Proofs.Ytlkoclalcfeniaa
