/-
  A log that is none.
-/
import Derived.Test.YteoidocicjlglaaDoorGhFull
import Derived.Test.YteoidocicjlglaaDoorGhSame
set_option linter.unusedSimpArgs false
set_option linter.unusedVariables false
namespace Go.Proofs.YteoidocicjlglaaDoor
open Go.RowKit Go.Proofs.YteoidocicjlglaaDoor.Sl Go.Proofs.YteoidocicjlglaaDoor.Sha Go.Proofs.YteoidocicjlglaaDoor.Jp

section
variable {w0 : World} {pv : List Value}
theorem sealed_nil (hp : pv.length = 15) : Calls Tryd.prog 26 #[.pointer none, .agg pv.toArray] w0 fun e w' => e = .returned (.tuple #[]) ∧ Sat w0 [] w' := by
  have hS := Sat.refl w0
  go_enter Tryd.func26, Tryd.ntmps26
  go_wp2_with (first | (refine boxN (cs := pv.toArray) hS rfl rfl rfl ?_; clear hS; intro m w hS; simp only [putW]) | (refine load1 hS rfl rfl rfl rfl ?_; simp only [putW]) | (refine loadAll hS rfl rfl rfl ?_ ?_; rfl; simp only [putW]) | (refine loadPart hS rfl rfl rfl ?_ rfl ?_; rfl; simp only [putW]) | (refine store1 hS rfl rfl rfl rfl rfl ?_ ?_; (focus (simp; done)); clear hS; intro w hS; simp only [evW, putW] at hS; try simp only [putW]) | (refine storeAll hS rfl rfl rfl rfl ?_ ?_ ?_ ?_; rfl; (focus (simp [Value.oneCell']; done)); rfl; clear hS; intro w hS; try simp only [putW]) | (refine storeN hS rfl rfl rfl rfl ?_ ?_ ?_ ?_; rfl; (focus (simp [Value.oneCell']; done)); (focus (simp; done)); clear hS; intro w hS; simp at hS; try simp only [putW]) | (refine alloc hS rfl rfl ?_; clear hS; intro mb w hS; simp only [putW]) | (refine box1 hS rfl rfl rfl rfl ?_; clear hS; intro mb w hS; try simp only [evW, putW] at hS; simp only [putW]) | (refine boxN hS rfl rfl rfl ?_; clear hS; intro mb w hS; simp only [putW]))
  go_end0
  exact ⟨rfl, hS.nothing⟩
theorem opened_nil (hp : pv.length = 15) : Calls Tryd.prog 27 #[.pointer none, .agg pv.toArray] w0 fun e w' => e = .returned (.tuple #[]) ∧ Sat w0 [] w' := by
  have hS := Sat.refl w0
  go_enter Tryd.func27, Tryd.ntmps27
  go_wp2_with (first | (refine boxN (cs := pv.toArray) hS rfl rfl rfl ?_; clear hS; intro m w hS; simp only [putW]) | (refine load1 hS rfl rfl rfl rfl ?_; simp only [putW]) | (refine loadAll hS rfl rfl rfl ?_ ?_; rfl; simp only [putW]) | (refine loadPart hS rfl rfl rfl ?_ rfl ?_; rfl; simp only [putW]) | (refine store1 hS rfl rfl rfl rfl rfl ?_ ?_; (focus (simp; done)); clear hS; intro w hS; simp only [evW, putW] at hS; try simp only [putW]) | (refine storeAll hS rfl rfl rfl rfl ?_ ?_ ?_ ?_; rfl; (focus (simp [Value.oneCell']; done)); rfl; clear hS; intro w hS; try simp only [putW]) | (refine storeN hS rfl rfl rfl rfl ?_ ?_ ?_ ?_; rfl; (focus (simp [Value.oneCell']; done)); (focus (simp; done)); clear hS; intro w hS; simp at hS; try simp only [putW]) | (refine alloc hS rfl rfl ?_; clear hS; intro mb w hS; simp only [putW]) | (refine box1 hS rfl rfl rfl rfl ?_; clear hS; intro mb w hS; try simp only [evW, putW] at hS; simp only [putW]) | (refine boxN hS rfl rfl rfl ?_; clear hS; intro mb w hS; simp only [putW]))
  go_end0
  exact ⟨rfl, hS.nothing⟩
theorem count_nil : Calls Tryd.prog 23 #[.pointer none] w0 fun e w' => e = .returned (.tuple #[.int .i64 0, .int .i64 0, .int .i64 0]) ∧ Sat w0 [] w' := by
  have hS := Sat.refl w0
  go_enter Tryd.func23, Tryd.ntmps23
  go_wp2_with (first | (refine load1 hS rfl rfl rfl rfl ?_; simp only [putW]) | (refine loadAll hS rfl rfl rfl ?_ ?_; rfl; simp only [putW]) | (refine loadPart hS rfl rfl rfl ?_ rfl ?_; rfl; simp only [putW]) | (refine store1 hS rfl rfl rfl rfl rfl ?_ ?_; (focus (simp; done)); clear hS; intro w hS; simp only [evW, putW] at hS; try simp only [putW]) | (refine storeAll hS rfl rfl rfl rfl ?_ ?_ ?_ ?_; rfl; (focus (simp [Value.oneCell']; done)); rfl; clear hS; intro w hS; try simp only [putW]) | (refine storeN hS rfl rfl rfl rfl ?_ ?_ ?_ ?_; rfl; (focus (simp [Value.oneCell']; done)); (focus (simp; done)); clear hS; intro w hS; simp at hS; try simp only [putW]) | (refine alloc hS rfl rfl ?_; clear hS; intro mb w hS; simp only [putW]) | (refine box1 hS rfl rfl rfl rfl ?_; clear hS; intro mb w hS; try simp only [evW, putW] at hS; simp only [putW]) | (refine boxN hS rfl rfl rfl ?_; clear hS; intro mb w hS; simp only [putW]))
  refine bodyPost_ret (v := .tuple #[.int .i64 0, .int .i64 0, .int .i64 0]) (by simp [results, Tryd.results23]) rfl ⟨rfl, hS⟩
theorem clash_nil : Calls Tryd.prog 13 #[.pointer none] w0 fun e w' => e = .returned (.tuple #[.slice none 0 0, .slice none 0 0, .bool false]) ∧ Sat w0 [] w' := by
  have hS := Sat.refl w0
  go_enter Tryd.func13, Tryd.ntmps13
  go_wp2_with (first | (refine load1 hS rfl rfl rfl rfl ?_; simp only [putW]) | (refine loadAll hS rfl rfl rfl ?_ ?_; rfl; simp only [putW]) | (refine loadPart hS rfl rfl rfl ?_ rfl ?_; rfl; simp only [putW]) | (refine store1 hS rfl rfl rfl rfl rfl ?_ ?_; (focus (simp; done)); clear hS; intro w hS; simp only [evW, putW] at hS; try simp only [putW]) | (refine storeAll hS rfl rfl rfl rfl ?_ ?_ ?_ ?_; rfl; (focus (simp [Value.oneCell']; done)); rfl; clear hS; intro w hS; try simp only [putW]) | (refine storeN hS rfl rfl rfl rfl ?_ ?_ ?_ ?_; rfl; (focus (simp [Value.oneCell']; done)); (focus (simp; done)); clear hS; intro w hS; simp at hS; try simp only [putW]) | (refine alloc hS rfl rfl ?_; clear hS; intro mb w hS; simp only [putW]) | (refine box1 hS rfl rfl rfl rfl ?_; clear hS; intro mb w hS; try simp only [evW, putW] at hS; simp only [putW]) | (refine boxN hS rfl rfl rfl ?_; clear hS; intro mb w hS; simp only [putW]))
  refine bodyPost_ret (v := .tuple #[.slice none 0 0, .slice none 0 0, .bool false]) (by simp [results, Tryd.results13]) rfl ⟨rfl, hS⟩
theorem blocks_nil : Calls Tryd.prog 24 #[.pointer none] w0 fun e w' => e = .returned (.slice none 0 0) ∧ Sat w0 [] w' := by
  have hS := Sat.refl w0
  go_enter Tryd.func24, Tryd.ntmps24
  go_wp2_with (first | (refine load1 hS rfl rfl rfl rfl ?_; simp only [putW]) | (refine loadAll hS rfl rfl rfl ?_ ?_; rfl; simp only [putW]) | (refine loadPart hS rfl rfl rfl ?_ rfl ?_; rfl; simp only [putW]) | (refine store1 hS rfl rfl rfl rfl rfl ?_ ?_; (focus (simp; done)); clear hS; intro w hS; simp only [evW, putW] at hS; try simp only [putW]) | (refine storeAll hS rfl rfl rfl rfl ?_ ?_ ?_ ?_; rfl; (focus (simp [Value.oneCell']; done)); rfl; clear hS; intro w hS; try simp only [putW]) | (refine storeN hS rfl rfl rfl rfl ?_ ?_ ?_ ?_; rfl; (focus (simp [Value.oneCell']; done)); (focus (simp; done)); clear hS; intro w hS; simp at hS; try simp only [putW]) | (refine alloc hS rfl rfl ?_; clear hS; intro mb w hS; simp only [putW]) | (refine box1 hS rfl rfl rfl rfl ?_; clear hS; intro mb w hS; try simp only [evW, putW] at hS; simp only [putW]) | (refine boxN hS rfl rfl rfl ?_; clear hS; intro mb w hS; simp only [putW]))
  refine bodyPost_ret (v := .slice none 0 0) (by simp [results, Tryd.results24]) rfl ⟨rfl, hS⟩
set_option maxHeartbeats 1000000 in
theorem forged_nil : Calls Tryd.prog 16 #[.pointer none] w0 fun e w' => e = .returned (.tuple #[.agg (tupF (.slice none 0 0, .slice none 0 0, zT)).toArray, .bool false]) ∧ Sat w0 [] w' := by
  have hS := Sat.refl w0
  have hz15 : (tupF (.slice none 0 0, .slice none 0 0, zT)).toArray.size = 15 := rfl
  go_enter Tryd.func16, Tryd.ntmps16
  go_wp2_with (first | (refine alloc (t := 46) hS rfl rfl ?_; clear hS; intro m2 w hS; simp only [putW]) | (refine load1 hS rfl rfl rfl rfl ?_; simp only [putW]) | (refine loadAll hS rfl rfl rfl ?_ ?_; rfl; simp only [putW]) | (refine loadPart hS rfl rfl rfl ?_ rfl ?_; rfl; simp only [putW]) | (refine store1 hS rfl rfl rfl rfl rfl ?_ ?_; (focus (simp; done)); clear hS; intro w hS; simp only [evW, putW] at hS; try simp only [putW]) | (refine storeAll hS rfl rfl rfl rfl ?_ ?_ ?_ ?_; rfl; (focus (simp [Value.oneCell']; done)); rfl; clear hS; intro w hS; try simp only [putW]) | (refine storeN hS rfl rfl rfl rfl ?_ ?_ ?_ ?_; rfl; (focus (simp [Value.oneCell']; done)); (focus (simp; done)); clear hS; intro w hS; simp at hS; try simp only [putW]) | (refine alloc hS rfl rfl ?_; clear hS; intro mb w hS; simp only [putW]) | (refine box1 hS rfl rfl rfl rfl ?_; clear hS; intro mb w hS; try simp only [evW, putW] at hS; simp only [putW]) | (refine boxN hS rfl rfl rfl ?_; clear hS; intro mb w hS; simp only [putW]))
  go_step3
  go_wp2_with (first | (refine storeAll (cs := (tupF (.slice none 0 0, .slice none 0 0, zT)).toArray) hS rfl rfl rfl rfl ?_ ?_ ?_ ?_; (focus rfl); (focus (rw [List.toList_toArray]; exact tupF_cell rfl rfl)); (focus rfl); clear hS; intro w hS; try simp only [putW]) | (refine load1 hS rfl rfl rfl rfl ?_; simp only [putW]) | (refine loadAll hS rfl rfl rfl ?_ ?_; rfl; simp only [putW]) | (refine loadPart hS rfl rfl rfl ?_ rfl ?_; rfl; simp only [putW]) | (refine store1 hS rfl rfl rfl rfl rfl ?_ ?_; (focus (simp; done)); clear hS; intro w hS; simp only [evW, putW] at hS; try simp only [putW]) | (refine storeAll hS rfl rfl rfl rfl ?_ ?_ ?_ ?_; rfl; (focus (simp [Value.oneCell']; done)); rfl; clear hS; intro w hS; try simp only [putW]) | (refine storeN hS rfl rfl rfl rfl ?_ ?_ ?_ ?_; rfl; (focus (simp [Value.oneCell']; done)); (focus (simp; done)); clear hS; intro w hS; simp at hS; try simp only [putW]) | (refine alloc hS rfl rfl ?_; clear hS; intro mb w hS; simp only [putW]) | (refine box1 hS rfl rfl rfl rfl ?_; clear hS; intro mb w hS; try simp only [evW, putW] at hS; simp only [putW]) | (refine boxN hS rfl rfl rfl ?_; clear hS; intro mb w hS; simp only [putW]))
  have hr := run_loadAll (P := Tryd.prog) hS m2 46 hz15
  try rw [Exit.noGoto_ret]
  refine bodyPost_ret (v := .tuple #[.agg (tupF (.slice none 0 0, .slice none 0 0, zT)).toArray, .bool false]) (by simp [results, Tryd.results16, asAddr, hr]) rfl ⟨rfl, hS.nothing⟩
set_option maxHeartbeats 1000000 in
theorem twice_nil : Calls Tryd.prog 22 #[.pointer none] w0 fun e w' => e = .returned (.tuple #[.agg (tupF (.slice none 0 0, .slice none 0 0, zT)).toArray, .agg (tupF (.slice none 0 0, .slice none 0 0, zT)).toArray, .bool false]) ∧ Sat w0 [] w' := by
  have hS := Sat.refl w0
  have hz15 : (tupF (.slice none 0 0, .slice none 0 0, zT)).toArray.size = 15 := rfl
  have tok : True := trivial
  have tok2 : True ∧ True := ⟨trivial, trivial⟩
  go_enter Tryd.func22, Tryd.ntmps22
  go_wp2_with (first | (have _t := tok; refine alloc (t := 46) hS rfl rfl ?_; clear hS tok; intro m2 w hS; simp only [putW]) | (refine alloc (t := 46) hS rfl rfl ?_; clear hS; intro m3 w hS; simp only [putW]) | (have _t := tok2; refine storeAll (b := m2) (cs := (tupF (.slice none 0 0, .slice none 0 0, zT)).toArray) hS rfl rfl rfl rfl ?_ ?_ ?_ ?_; (focus rfl); (focus (rw [List.toList_toArray]; exact tupF_cell rfl rfl)); (focus rfl); clear hS tok2; intro w hS; try simp only [putW]) | (refine storeAll (b := m3) (cs := (tupF (.slice none 0 0, .slice none 0 0, zT)).toArray) hS rfl rfl rfl rfl ?_ ?_ ?_ ?_; (focus rfl); (focus (rw [List.toList_toArray]; exact tupF_cell rfl rfl)); (focus rfl); clear hS; intro w hS; try simp only [putW]) | (refine load1 hS rfl rfl rfl rfl ?_; simp only [putW]) | (refine loadAll hS rfl rfl rfl ?_ ?_; rfl; simp only [putW]) | (refine loadPart hS rfl rfl rfl ?_ rfl ?_; rfl; simp only [putW]) | (refine store1 hS rfl rfl rfl rfl rfl ?_ ?_; (focus (simp; done)); clear hS; intro w hS; simp only [evW, putW] at hS; try simp only [putW]) | (refine storeAll hS rfl rfl rfl rfl ?_ ?_ ?_ ?_; rfl; (focus (simp [Value.oneCell']; done)); rfl; clear hS; intro w hS; try simp only [putW]) | (refine storeN hS rfl rfl rfl rfl ?_ ?_ ?_ ?_; rfl; (focus (simp [Value.oneCell']; done)); (focus (simp; done)); clear hS; intro w hS; simp at hS; try simp only [putW]) | (refine alloc hS rfl rfl ?_; clear hS; intro mb w hS; simp only [putW]) | (refine box1 hS rfl rfl rfl rfl ?_; clear hS; intro mb w hS; try simp only [evW, putW] at hS; simp only [putW]) | (refine boxN hS rfl rfl rfl ?_; clear hS; intro mb w hS; simp only [putW]))
  have hr := run_loadAll (P := Tryd.prog) hS m2 46 hz15
  have hr2 := run_loadAll (P := Tryd.prog) hS m3 46 hz15
  refine bodyPost_ret (v := .tuple #[.agg (tupF (.slice none 0 0, .slice none 0 0, zT)).toArray, .agg (tupF (.slice none 0 0, .slice none 0 0, zT)).toArray, .bool false]) (by simp [results, Tryd.results22, asAddr, hr, hr2]) rfl ⟨rfl, hS.nothing⟩
end
end Go.Proofs.YteoidocicjlglaaDoor
