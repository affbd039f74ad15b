/-
  thimblelaw20.awake: the document's example.
-/
import Derived.Test.YthlcjefkhlfkpaaSpFn
set_option linter.unusedSimpArgs false
set_option linter.unusedVariables false
namespace Go.Proofs.Ythlcjefkhlfkpaa
open Go.RowKit Go.Proofs.Ythlcjefkhlfkpaa.Sl

section
variable {w0 w : World} {S F : List Chunk}
set_option maxHeartbeats 800000 in
theorem awake_any (hS : Sat w0 S w) :
    Calls Try.prog 9 #[] w fun e w' => e = .returned (.bool true) ∧ Sat w0 S w' := by
  go_enter Try.func9, Try.ntmps9
  go_wp2_with fail
  (refine Calls.mono (new_any 2 hS (by omega) (by omega)) ?_; clear hS; rintro _ w ⟨bs, rfl, hS⟩; simp only [putW])
  go_wp2_with fail
  (refine Calls.mono (give_any (bs := bs) 7 ⟨1, 0, 0⟩ 0 (by omega) rfl hS) ?_; clear hS; rintro _ w ⟨rfl, hS⟩; simp only [putW])
  go_wp2_with fail
  (refine Calls.mono (give_any (bs := bs) 3 ⟨2, 0, 0⟩ 1 (by omega) (by decide +kernel) hS) ?_; clear hS; rintro _ w ⟨rfl, hS⟩; simp only [putW])
  go_wp2_with fail
  (refine Calls.mono (give_any (bs := bs) 7 ⟨3, 0, 0⟩ 0 (by omega) (by decide +kernel) hS) ?_; clear hS; rintro _ w ⟨rfl, hS⟩; simp only [putW])
  go_wp2_with fail
  (refine Calls.mono (give_full (bs := bs) 1 ⟨0, 0, 0⟩ (by decide +kernel) hS) ?_; clear hS; rintro _ w ⟨rfl, hS⟩; simp only [putW])
  go_wp2_with fail
  (refine Calls.mono (of_any (bs := bs) 7 (0, ⟨3, 0, 0⟩) true hS (by decide +kernel) (by decide +kernel)) ?_; clear hS; rintro _ w ⟨rfl, hS⟩; simp only [putW])
  go_wp2_with (first | (refine load1 hS rfl rfl rfl rfl ?_; simp only [putW]) | (refine loadAll hS rfl rfl rfl ?_ ?_; rfl; simp only [putW]) | (refine loadPart hS rfl rfl rfl ?_ rfl ?_; rfl; simp only [putW]) | (refine store1 hS rfl rfl rfl rfl rfl ?_ ?_; (focus (simp; done)); clear hS; intro w hS; simp only [evW, putW] at hS; try simp only [putW]) | (refine storeAll hS rfl rfl rfl rfl ?_ ?_ ?_ ?_; rfl; (focus (simp [Value.oneCell']; done)); rfl; clear hS; intro w hS; try simp only [putW]) | (refine storeN hS rfl rfl rfl rfl ?_ ?_ ?_ ?_; rfl; (focus (simp [Value.oneCell']; done)); (focus (simp; done)); clear hS; intro w hS; simp at hS; try simp only [putW]) | (refine alloc hS rfl rfl ?_; clear hS; intro mb w hS; simp only [putW]) | (refine box1 hS rfl rfl rfl rfl ?_; clear hS; intro mb w hS; try simp only [evW, putW] at hS; simp only [putW]) | (refine boxN hS rfl rfl rfl ?_; clear hS; intro mb w hS; simp only [putW]))
  go_ret
  exact ⟨rfl, hS.conv⟩
end
end Go.Proofs.Ythlcjefkhlfkpaa
