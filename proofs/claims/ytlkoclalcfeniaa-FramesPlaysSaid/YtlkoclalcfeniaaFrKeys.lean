/-
  frames: Keys.
-/
import Derived.Test.YtlkoclalcfeniaaShelf
import Derived.Test.YtlkoclalcfeniaaFrTab
set_option linter.unusedSimpArgs false
set_option linter.unusedVariables false
namespace Go.Proofs.Ytlkoclalcfeniaa
open Go.RowKit Go.Maps Go.Sort Go.Shelf Go.Proofs.Ytlkoclalcfeniaa.Sl Go.Proofs.Ytlkoclalcfeniaa.Jp

/-- slices.Sort's two contracts at this seat, at the fence that asks nothing. -/
theorem sortsA (m : Nat) : AnyZI.SortsIn Try.prog sortedA_ren Fence.wide m :=
  ⟨fun blk off cap ss W hH hblk hsz => callsIn_wide.2 (AnyM.slices_Sort_int sortA blk off cap ss W hH hblk hsz),
   fun p cap W => callsIn_wide.2 (AnyM.slices_Sort_int_none sortA p cap W)⟩
section
variable {w0 w : World} {K F S : List Chunk} {t j b m : Nat} {T : Tb} {FL : Frs} {β : Type} {ve : β → Value} {l : List (Int × β)}
theorem mapsKeys_any (mb : Option Nat) (hS : Sat w0 S w) : Calls Try.prog 38 #[.map mb] w fun e w' => ∃ m, e = .returned (.func (.func 58) #[] #[.pointer (some ⟨m, 0, none⟩)]) ∧ Sat w0 ((m, cells #[.map mb] 61) :: S) w' := by
  have h := callsIn_wide.1 (AnyZI.keys_in keysA Fence.wide 5 trivial rfl mb w)
  refine Calls.mono h ?_
  rintro e w' ⟨rfl, rfl⟩
  exact ⟨w.heap.size, rfl, hS.freshCells _ _⟩
theorem sortedKeys_any (hok : ∀ x ∈ mkeys l, wI x) (hl : l.length ≤ 1000000) (hS : Sat w0 ((m, cells #[.map (some b)] 61) :: (b, mapC encInt ve l) :: S) w) :
    Calls Try.prog 37 #[.func (.func 58) #[] #[.pointer (some ⟨m, 0, none⟩)]] w fun e w' => ∃ v, e = .returned v ∧ Sat w0 ((blk v, sl 1 i64 (sortI (mkeys l)) 3 v) :: (m, cells #[.map (some b)] 61) :: (b, mapC encInt ve l) :: S) w' := by
  obtain ⟨D0, hown, hperm, hsize⟩ := ownsOf (b := b) (l := l) (ve := ve) (P := Try.prog) (k := 3) hS Try.underlying3 hok (by simp [maxLen]; omega)
  have hm := hS.cellsAt (b := m) (c := #[.map (some b)]) (t := 61)
  have hlt : m < w.heap.size := (Array.getElem?_eq_some_iff.1 hm.2).1
  have hcell : w.cell? ⟨m, 0, none⟩ = some (.map (some b)) := hS.cell (b := m) (c := #[.map (some b)]) (t := 61) 0
  have hseq : SeqGives Fence.wide 2 Try.prog 58 #[.pointer (some ⟨m, 0, none⟩)] encZ (fun ss => ss.Perm (intKeys D0)) (Maps.size D0) w :=
    AnyZI.keys_gives (ρ := keysA_ren) { keysA with } Fence.wide _ trivial rfl (by omega) m b l.length D0 w hlt hcell hown
  have cS := AnyZI.sorted_in sortedA Fence.wide 5 trivial trivial trivial trivial rfl (by omega) (sortsA _) (enters_of Try.func57 (by kernel_rfl) rfl) 58 #[.pointer (some ⟨m, 0, none⟩)] trivial (enters_of Try.func58 (by kernel_rfl) rfl) _ _ (by rw [hsize]; simp [maxLen]; omega) (by rw [hsize]; omega) w hseq
  change CallsIn _ _ Try.prog 37 _ _ _ at cS
  refine Calls.mono (callsIn_wide.1 cS) ?_
  rintro e w' ⟨v, ss, rfl, hss, hrow, -, hb⟩
  have e1 : ss.mergeSort (fun x y => decide (x ≤ y)) = sortI (mkeys l) := mergeSort_of_perm_i (hss.trans hperm)
  rw [e1] at hrow
  have e2 : ss.length = (sortI (mkeys l)).length := by rw [sortI_len]; exact (hss.trans hperm).length_eq
  rw [e2] at hrow
  exact ⟨v, rfl, hS.ofRow hb hrow⟩
set_option maxRecDepth 100000 in
set_option maxHeartbeats 1000000 in
theorem keys_any (hok : ∀ x ∈ mkeys FL, wI x) (hl : FL.length ≤ 1000000) (hS : Sat w0 ((t, cells (tbC T) 65) :: (T.fm, mapC encInt frV FL) :: K) w) : Calls Try.prog 21 #[.pointer (some ⟨t, 0, none⟩)] w fun e w' => ∃ v, e = .returned v ∧ Sat w0 ((blk v, sl 1 i64 (sortI (mkeys FL)) 3 v) :: (t, cells (tbC T) 65) :: (T.fm, mapC encInt frV FL) :: K) w' := by
  have HOK : Bx (∀ x ∈ mkeys FL, wI x) := ⟨hok⟩
  clear hok
  go_enter Try.func21, Try.ntmps21
  go_wp2_with (first | (guard_target =~ Calls _ 38 _ _ _; refine Stopped.out ?_) | (refine load1 hS rfl rfl rfl rfl ?_; simp only [putW]) | (refine loadAll hS rfl rfl rfl ?_ ?_; rfl; simp only [putW]) | (refine loadPart hS rfl rfl rfl ?_ rfl ?_; rfl; simp only [putW]) | (refine store1 hS rfl rfl rfl rfl rfl ?_ ?_; (focus (simp; done)); clear hS; intro w hS; simp only [evW, putW] at hS; try simp only [putW]) | (refine storeAll hS rfl rfl rfl rfl ?_ ?_ ?_ ?_; rfl; (focus (simp [Value.oneCell']; done)); rfl; clear hS; intro w hS; try simp only [putW]) | (refine storeN hS rfl rfl rfl rfl ?_ ?_ ?_ ?_; rfl; (focus (simp [Value.oneCell']; done)); (focus (simp; done)); clear hS; intro w hS; simp at hS; try simp only [putW]) | (refine alloc hS rfl rfl ?_; clear hS; intro mb w hS; simp only [putW]) | (refine box1 hS rfl rfl rfl rfl ?_; clear hS; intro mb w hS; try simp only [evW, putW] at hS; simp only [putW]) | (refine boxN hS rfl rfl rfl ?_; clear hS; intro mb w hS; simp only [putW]))
  refine ⟨?_⟩
  refine Calls.mono (mapsKeys_any (some T.fm) hS) ?_
  clear hS
  rintro _ w ⟨m, rfl, hS⟩
  simp only [putW]
  go_wp2_with (first | (guard_target =~ Calls _ 37 _ _ _; refine Stopped.out ?_) | (refine load1 hS rfl rfl rfl rfl ?_; simp only [putW]) | (refine loadAll hS rfl rfl rfl ?_ ?_; rfl; simp only [putW]) | (refine loadPart hS rfl rfl rfl ?_ rfl ?_; rfl; simp only [putW]) | (refine store1 hS rfl rfl rfl rfl rfl ?_ ?_; (focus (simp; done)); clear hS; intro w hS; simp only [evW, putW] at hS; try simp only [putW]) | (refine storeAll hS rfl rfl rfl rfl ?_ ?_ ?_ ?_; rfl; (focus (simp [Value.oneCell']; done)); rfl; clear hS; intro w hS; try simp only [putW]) | (refine storeN hS rfl rfl rfl rfl ?_ ?_ ?_ ?_; rfl; (focus (simp [Value.oneCell']; done)); (focus (simp; done)); clear hS; intro w hS; simp at hS; try simp only [putW]) | (refine alloc hS rfl rfl ?_; clear hS; intro mb w hS; simp only [putW]) | (refine box1 hS rfl rfl rfl rfl ?_; clear hS; intro mb w hS; try simp only [evW, putW] at hS; simp only [putW]) | (refine boxN hS rfl rfl rfl ?_; clear hS; intro mb w hS; simp only [putW]))
  refine ⟨?_⟩
  refine Calls.mono (sortedKeys_any (l := FL) (ve := frV) (b := T.fm) HOK.out hl (hS.conv (S' := (m, cells #[.map (some T.fm)] 61) :: (T.fm, mapC encInt frV FL) :: (t, cells (tbC T) 65) :: K))) ?_
  clear hS
  rintro _ w ⟨v, rfl, hS⟩
  simp only [putW]
  go_wp2_with (first | (refine load1 hS rfl rfl rfl rfl ?_; simp only [putW]) | (refine loadAll hS rfl rfl rfl ?_ ?_; rfl; simp only [putW]) | (refine loadPart hS rfl rfl rfl ?_ rfl ?_; rfl; simp only [putW]) | (refine store1 hS rfl rfl rfl rfl rfl ?_ ?_; (focus (simp; done)); clear hS; intro w hS; simp only [evW, putW] at hS; try simp only [putW]) | (refine storeAll hS rfl rfl rfl rfl ?_ ?_ ?_ ?_; rfl; (focus (simp [Value.oneCell']; done)); rfl; clear hS; intro w hS; try simp only [putW]) | (refine storeN hS rfl rfl rfl rfl ?_ ?_ ?_ ?_; rfl; (focus (simp [Value.oneCell']; done)); (focus (simp; done)); clear hS; intro w hS; simp at hS; try simp only [putW]) | (refine alloc hS rfl rfl ?_; clear hS; intro mb w hS; simp only [putW]) | (refine box1 hS rfl rfl rfl rfl ?_; clear hS; intro mb w hS; try simp only [evW, putW] at hS; simp only [putW]) | (refine boxN hS rfl rfl rfl ?_; clear hS; intro mb w hS; simp only [putW]))
  go_ret
  exact ⟨v, rfl, hS.conv⟩
end
end Go.Proofs.Ytlkoclalcfeniaa
