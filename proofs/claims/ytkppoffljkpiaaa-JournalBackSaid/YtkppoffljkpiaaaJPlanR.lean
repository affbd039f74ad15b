/-
  thimbleref16.Of at one page.
-/
import Derived.Test.YtkppoffljkpiaaaJPlan
namespace Go.Proofs.Ytkppoffljkpiaaa
open Go.RowKit Go.Proofs.Ytkppoffljkpiaaa.Sl Go.Proofs.Ytkppoffljkpiaaa.Jp

section
variable {w0 w : World} {S : List Chunk}
/-! ### The document's -/
theorem begun_16 : Calls Try.prog 30 #[.int .i64 1, .int .i64 16] w fun e w' => e = .returned (.int .i64 1) ∧ Sat w [] w' := begun_any 1 16 (by omega) (by omega) (by omega)
theorem begun_8 : Calls Try.prog 30 #[.int .i64 1, .int .i64 8] w fun e w' => e = .returned (.int .i64 1) ∧ Sat w [] w' := begun_any 1 8 (by omega) (by omega) (by omega)
theorem begun_h (n : Nat) (h : n ≤ 256) : Calls Try.prog 30 #[.int .i64 (12 + 4 * n), .int .i64 256] w fun e w' => e = .returned (.int .i64 (heads n)) ∧ Sat w [] w' := by
  have := begun_any (w := w) (12 + 4 * n) 256 (by omega) (by omega) (by omega)
  rw [heads_ceil]; exact this
set_option maxHeartbeats 400000 in
theorem refOf_bad (b : Int) (h : ¬ okB b) : Calls Try.prog 18 #[.int .i64 1, .int .i64 b] w0 fun e w' => e = .returned (.tuple #[.agg noPlan.toArray, .int .i64 1]) ∧ Sat w0 [] w' := by
  have hS := Sat.refl w0
  by_cases hb : b < 1
  · go_enter Try.func18, Try.ntmps18
    go_wp2_with (first | (refine load1 hS rfl rfl rfl rfl ?_; simp only [putW]) | (refine loadAll hS rfl rfl rfl ?_ ?_; rfl; simp only [putW]) | (refine loadPart hS rfl rfl rfl ?_ rfl ?_; rfl; simp only [putW]) | (refine store1 hS rfl rfl rfl rfl rfl ?_ ?_; (focus (simp; done)); clear hS; intro w hS; simp only [evW, putW] at hS; try simp only [putW]) | (refine storeAll hS rfl rfl rfl rfl ?_ ?_ ?_ ?_; rfl; (focus (simp [Value.oneCell']; done)); rfl; clear hS; intro w hS; try simp only [putW]) | (refine storeN hS rfl rfl rfl rfl ?_ ?_ ?_ ?_; rfl; (focus (simp [Value.oneCell']; done)); (focus (simp; done)); clear hS; intro w hS; simp at hS; try simp only [putW]) | (refine alloc hS rfl rfl ?_; clear hS; intro mb w hS; simp only [putW]) | (refine box1 hS rfl rfl rfl rfl ?_; clear hS; intro mb w hS; try simp only [evW, putW] at hS; simp only [putW]) | (refine boxN hS rfl rfl rfl ?_; clear hS; intro mb w hS; simp only [putW]))
    have hr := run_loadAll (P := Try.prog) hS mb 40 rfl
    exact bodyPost_ret (v := .tuple #[.agg noPlan.toArray, .int .i64 1]) (by simp [results, Try.results18, asAddr, hr, noPlan]) rfl ⟨rfl, hS.conv⟩
  · have hb2 : 256 < b := by unfold okB at h; omega
    clear h
    go_enter Try.func18, Try.ntmps18
    go_wp2_with (first | (refine load1 hS rfl rfl rfl rfl ?_; simp only [putW]) | (refine loadAll hS rfl rfl rfl ?_ ?_; rfl; simp only [putW]) | (refine loadPart hS rfl rfl rfl ?_ rfl ?_; rfl; simp only [putW]) | (refine store1 hS rfl rfl rfl rfl rfl ?_ ?_; (focus (simp; done)); clear hS; intro w hS; simp only [evW, putW] at hS; try simp only [putW]) | (refine storeAll hS rfl rfl rfl rfl ?_ ?_ ?_ ?_; rfl; (focus (simp [Value.oneCell']; done)); rfl; clear hS; intro w hS; try simp only [putW]) | (refine storeN hS rfl rfl rfl rfl ?_ ?_ ?_ ?_; rfl; (focus (simp [Value.oneCell']; done)); (focus (simp; done)); clear hS; intro w hS; simp at hS; try simp only [putW]) | (refine alloc hS rfl rfl ?_; clear hS; intro mb w hS; simp only [putW]) | (refine box1 hS rfl rfl rfl rfl ?_; clear hS; intro mb w hS; try simp only [evW, putW] at hS; simp only [putW]) | (refine boxN hS rfl rfl rfl ?_; clear hS; intro mb w hS; simp only [putW]))
    have hr := run_loadAll (P := Try.prog) hS mb 40 rfl
    exact bodyPost_ret (v := .tuple #[.agg noPlan.toArray, .int .i64 1]) (by simp [results, Try.results18, asAddr, hr, noPlan]) rfl ⟨rfl, hS.conv⟩
set_option maxHeartbeats 1000000 in
theorem refOf_good (n : Nat) (h1 : 1 ≤ n) (hn2 : n ≤ 256) : Calls Try.prog 18 #[.int .i64 1, .int .i64 n] w0 fun e w' => ∃ g cap, e = .returned (.tuple #[.agg #[.int .i64 1, .int .i64 n, .int .i64 1, .slice (some ⟨g, 0, none⟩) 1 cap, .int .i64 1, .int .i64 3, .int .i64 (heads n), .int .i64 (3 + heads n), .int .i64 (3 + heads n + n), .int .i64 (3 + heads n + n + n)], .int .i64 0]) ∧ Sat w0 [] w' := by
  have hS := Sat.refl w0
  have hh := heads_le n hn2
  go_enter Try.func18, Try.ntmps18
  have tok : True := trivial
  go_wp2_with (first | (guard_target =~ Calls _ 30 _ _ _; refine Stopped.out ?_) | (have _t := tok; refine alloc hS rfl rfl ?_; clear hS tok; intro m4 w hS; simp only [putW]) | (refine alloc hS rfl rfl ?_; clear hS; intro m6 w hS; simp only [putW]) | (refine load1 hS rfl rfl rfl rfl ?_; simp only [putW]) | (refine loadAll hS rfl rfl rfl ?_ ?_; rfl; simp only [putW]) | (refine loadPart hS rfl rfl rfl ?_ rfl ?_; rfl; simp only [putW]) | (refine store1 hS rfl rfl rfl rfl rfl ?_ ?_; (focus (simp; done)); clear hS; intro w hS; simp only [evW, putW] at hS; try simp only [putW]) | (refine storeAll hS rfl rfl rfl rfl ?_ ?_ ?_ ?_; rfl; (focus (simp [Value.oneCell']; done)); rfl; clear hS; intro w hS; try simp only [putW]) | (refine storeN hS rfl rfl rfl rfl ?_ ?_ ?_ ?_; rfl; (focus (simp [Value.oneCell']; done)); (focus (simp; done)); clear hS; intro w hS; simp at hS; try simp only [putW]) | (refine alloc hS rfl rfl ?_; clear hS; intro mb w hS; simp only [putW]) | (refine box1 hS rfl rfl rfl rfl ?_; clear hS; intro mb w hS; try simp only [evW, putW] at hS; simp only [putW]) | (refine boxN hS rfl rfl rfl ?_; clear hS; intro mb w hS; simp only [putW]))
  refine ⟨?_⟩
  (refine Calls.mono (begun_16) ?_; rintro _ w2 ⟨rfl, h2⟩; replace hS := hS.frame h2; clear h2; (try simp only [List.nil_append] at hS); simp only [])
  go_wp2_with (first | (guard_target =~ Calls _ 30 _ _ _; refine Stopped.out ?_) | (refine load1 hS rfl rfl rfl rfl ?_; simp only [putW]) | (refine loadAll hS rfl rfl rfl ?_ ?_; rfl; simp only [putW]) | (refine loadPart hS rfl rfl rfl ?_ rfl ?_; rfl; simp only [putW]) | (refine store1 hS rfl rfl rfl rfl rfl ?_ ?_; (focus (simp; done)); clear hS; intro w hS; simp only [evW, putW] at hS; try simp only [putW]) | (refine storeAll hS rfl rfl rfl rfl ?_ ?_ ?_ ?_; rfl; (focus (simp [Value.oneCell']; done)); rfl; clear hS; intro w hS; try simp only [putW]) | (refine storeN hS rfl rfl rfl rfl ?_ ?_ ?_ ?_; rfl; (focus (simp [Value.oneCell']; done)); (focus (simp; done)); clear hS; intro w hS; simp at hS; try simp only [putW]) | (refine alloc hS rfl rfl ?_; clear hS; intro mb w hS; simp only [putW]) | (refine box1 hS rfl rfl rfl rfl ?_; clear hS; intro mb w hS; try simp only [evW, putW] at hS; simp only [putW]) | (refine boxN hS rfl rfl rfl ?_; clear hS; intro mb w hS; simp only [putW]))
  refine ⟨?_⟩
  (refine Calls.mono (begun_8) ?_; rintro _ w2 ⟨rfl, h2⟩; replace hS := hS.frame h2; clear h2; (try simp only [List.nil_append] at hS); simp only [])
  go_wp2_with (first | (refine buildSlice1 (c := #[.int .i64 1]) hS rfl rfl rfl ?_ ?_ ?_ ?_; rfl; rfl; rfl; clear hS; intro mb w hS; simp only [putW]) | (refine load1 hS rfl rfl rfl rfl ?_; simp only [putW]) | (refine loadAll hS rfl rfl rfl ?_ ?_; rfl; simp only [putW]) | (refine loadPart hS rfl rfl rfl ?_ rfl ?_; rfl; simp only [putW]) | (refine store1 hS rfl rfl rfl rfl rfl ?_ ?_; (focus (simp; done)); clear hS; intro w hS; simp only [evW, putW] at hS; try simp only [putW]) | (refine storeAll hS rfl rfl rfl rfl ?_ ?_ ?_ ?_; rfl; (focus (simp [Value.oneCell']; done)); rfl; clear hS; intro w hS; try simp only [putW]) | (refine storeN hS rfl rfl rfl rfl ?_ ?_ ?_ ?_; rfl; (focus (simp [Value.oneCell']; done)); (focus (simp; done)); clear hS; intro w hS; simp at hS; try simp only [putW]) | (refine alloc hS rfl rfl ?_; clear hS; intro mb w hS; simp only [putW]) | (refine box1 hS rfl rfl rfl rfl ?_; clear hS; intro mb w hS; try simp only [evW, putW] at hS; simp only [putW]) | (refine boxN hS rfl rfl rfl ?_; clear hS; intro mb w hS; simp only [putW]))
  go_loopw [7] (fun c wr => c = .int .i64 1 ∧ Sat w0 _ wr) (fun _ _ => 0)
  case atStart => exact ⟨rfl, hS⟩
  case round =>
    clear hS
    obtain ⟨rfl, hS⟩ := hrel
    go_wp2_with (first | (go_at_call 30; refine Calls.mono (begun_h n hn2) ?_; rintro _ w2 ⟨rfl, h2⟩; replace hS := hS.frame h2; clear h2; (try simp only [List.nil_append] at hS); simp only []) | (refine load1 hS rfl rfl rfl rfl ?_; simp only [putW]) | (refine loadAll hS rfl rfl rfl ?_ ?_; rfl; simp only [putW]) | (refine loadPart hS rfl rfl rfl ?_ rfl ?_; rfl; simp only [putW]) | (refine store1 hS rfl rfl rfl rfl rfl ?_ ?_; (focus (simp; done)); clear hS; intro w hS; simp only [evW, putW] at hS; try simp only [putW]) | (refine storeAll hS rfl rfl rfl rfl ?_ ?_ ?_ ?_; rfl; (focus (simp [Value.oneCell']; done)); rfl; clear hS; intro w hS; try simp only [putW]) | (refine storeN hS rfl rfl rfl rfl ?_ ?_ ?_ ?_; rfl; (focus (simp [Value.oneCell']; done)); (focus (simp; done)); clear hS; intro w hS; simp at hS; try simp only [putW]) | (refine alloc hS rfl rfl ?_; clear hS; intro mb w hS; simp only [putW]) | (refine box1 hS rfl rfl rfl rfl ?_; clear hS; intro mb w hS; try simp only [evW, putW] at hS; simp only [putW]) | (refine boxN hS rfl rfl rfl ?_; clear hS; intro mb w hS; simp only [putW]))
    have hr := run_loadAll (P := Try.prog) hS m4 40 rfl
    exact bodyPost_ret (v := .tuple #[.agg #[.int .i64 1, .int .i64 n, .int .i64 1, .slice (some ⟨mb, 0, none⟩) 1 1, .int .i64 1, .int .i64 3, .int .i64 (heads n), .int .i64 (3 + heads n), .int .i64 (3 + heads n + n), .int .i64 (3 + heads n + n + n)], .int .i64 0]) (by simp [results, Try.results18, asAddr, hr]) rfl ⟨_, _, rfl, hS.conv⟩
end
end Go.Proofs.Ytkppoffljkpiaaa
