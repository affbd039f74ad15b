/-
  spill: Pages.
-/
import Derived.Test.YthlcjefkhlfkpaaShelf
import Derived.Test.YthlcjefkhlfkpaaSpFn
set_option linter.unusedSimpArgs false
set_option linter.unusedVariables false
namespace Go.Proofs.Ythlcjefkhlfkpaa
open Go.RowKit Go.Maps Go.Sort Go.Shelf Go.Proofs.Ythlcjefkhlfkpaa.Sl

/-- slices.Sort's two contracts at this seat, at the fence that asks nothing. -/
theorem sortsA (m : Nat) : AnyZI.SortsIn Try.prog sortedA_ren Fence.wide m :=
  ⟨fun blk off cap ss W hH hblk hsz => callsIn_wide.2 (AnyM.slices_Sort_int sortA blk off cap ss W hH hblk hsz),
   fun p cap W => callsIn_wide.2 (AnyM.slices_Sort_int_none sortA p cap W)⟩
section
variable {w0 w : World} {K F S : List Chunk} {t j b m : Nat} {β : Type} {ve : β → Value} {l : List (Int × β)}
theorem mapsKeys_any (mb : Option Nat) (hS : Sat w0 S w) : Calls Try.prog 21 #[.map mb] w fun e w' => ∃ m, e = .returned (.func (.func 24) #[] #[.pointer (some ⟨m, 0, none⟩)]) ∧ Sat w0 ((m, cells #[.map mb] 53) :: S) w' := by
  have h := callsIn_wide.1 (AnyZI.keys_in keysA Fence.wide 5 trivial rfl mb w)
  refine Calls.mono h ?_
  rintro e w' ⟨rfl, rfl⟩
  exact ⟨w.heap.size, rfl, hS.freshCells _ _⟩
theorem sortedKeys_any (hok : ∀ x ∈ mkeys l, wI x) (hl : l.length ≤ 1000000) (hS : Sat w0 ((m, cells #[.map (some b)] 53) :: (b, mapC encInt ve l) :: S) w) :
    Calls Try.prog 20 #[.func (.func 24) #[] #[.pointer (some ⟨m, 0, none⟩)]] w fun e w' => ∃ v, e = .returned v ∧ Sat w0 ((blk v, sl 1 i64 (sortI (mkeys l)) 3 v) :: (m, cells #[.map (some b)] 53) :: (b, mapC encInt ve l) :: S) w' := by
  obtain ⟨D0, hown, hperm, hsize⟩ := ownsOf (b := b) (l := l) (ve := ve) (P := Try.prog) (k := 3) hS Try.underlying3 hok (by simp [maxLen]; omega)
  have hm := hS.cellsAt (b := m) (c := #[.map (some b)]) (t := 53)
  have hlt : m < w.heap.size := (Array.getElem?_eq_some_iff.1 hm.2).1
  have hcell : w.cell? ⟨m, 0, none⟩ = some (.map (some b)) := hS.cell (b := m) (c := #[.map (some b)]) (t := 53) 0
  have hseq : SeqGives Fence.wide 2 Try.prog 24 #[.pointer (some ⟨m, 0, none⟩)] encZ (fun ss => ss.Perm (intKeys D0)) (Maps.size D0) w :=
    AnyZI.keys_gives (ρ := keysA_ren) { keysA with } Fence.wide _ trivial rfl (by omega) m b l.length D0 w hlt hcell hown
  have cS := AnyZI.sorted_in sortedA Fence.wide 5 trivial trivial trivial trivial rfl (by omega) (sortsA _) (enters_of Try.func23 (by kernel_rfl) rfl) 24 #[.pointer (some ⟨m, 0, none⟩)] trivial (enters_of Try.func24 (by kernel_rfl) rfl) _ _ (by rw [hsize]; simp [maxLen]; omega) (by rw [hsize]; omega) w hseq
  change CallsIn _ _ Try.prog 20 _ _ _ at cS
  refine Calls.mono (callsIn_wide.1 cS) ?_
  rintro e w' ⟨v, ss, rfl, hss, hrow, -, hb⟩
  have e1 : ss.mergeSort (fun x y => decide (x ≤ y)) = sortI (mkeys l) := mergeSort_of_perm_i (hss.trans hperm)
  rw [e1] at hrow
  have e2 : ss.length = (sortI (mkeys l)).length := by rw [sortI_len]; exact (hss.trans hperm).length_eq
  rw [e2] at hrow
  exact ⟨v, rfl, hS.ofRow hb hrow⟩
set_option maxRecDepth 100000 in
set_option maxHeartbeats 1000000 in
theorem pages_any {bs n : Nat} {fl : List Bool} {m : List (Int × (Nat × En))} (hok : ∀ x ∈ mkeys m, wI x) (hl : m.length ≤ 1000000) (hS : Sat w0 ((bs, SlotsC n fl m) :: K) w) : Calls Try.prog 18 #[.pointer (some ⟨bs, 0, none⟩)] w fun e w' => ∃ v, e = .returned v ∧ Sat w0 ((blk v, sl 1 i64 (sortI (mkeys m)) 3 v) :: (bs, SlotsC n fl m) :: K) w' := by
  obtain ⟨hlen, bf, bm, hS⟩ := openSlots (bs := bs) hS
  have HL := Lib.hid hlen
  have HOK : Hid (∀ x ∈ mkeys m, wI x) := hok
  clear hlen hok
  go_enter Try.func18, Try.ntmps18
  go_wp2_with (first | (guard_target =~ Calls _ 21 _ _ _; refine Stopped.out ?_) | (refine load1 hS rfl rfl rfl rfl ?_; simp only [putW]) | (refine loadAll hS rfl rfl rfl ?_ ?_; rfl; simp only [putW]) | (refine loadPart hS rfl rfl rfl ?_ rfl ?_; rfl; simp only [putW]) | (refine store1 hS rfl rfl rfl rfl rfl ?_ ?_; (focus (simp; done)); clear hS; intro w hS; simp only [evW, putW] at hS; try simp only [putW]) | (refine storeAll hS rfl rfl rfl rfl ?_ ?_ ?_ ?_; rfl; (focus (simp [Value.oneCell']; done)); rfl; clear hS; intro w hS; try simp only [putW]) | (refine storeN hS rfl rfl rfl rfl ?_ ?_ ?_ ?_; rfl; (focus (simp [Value.oneCell']; done)); (focus (simp; done)); clear hS; intro w hS; simp at hS; try simp only [putW]) | (refine alloc hS rfl rfl ?_; clear hS; intro mb w hS; simp only [putW]) | (refine box1 hS rfl rfl rfl rfl ?_; clear hS; intro mb w hS; try simp only [evW, putW] at hS; simp only [putW]) | (refine boxN hS rfl rfl rfl ?_; clear hS; intro mb w hS; simp only [putW]))
  refine ⟨?_⟩
  refine Calls.mono (mapsKeys_any (some bm) hS) ?_
  clear hS
  rintro _ w ⟨mk, rfl, hS⟩
  simp only [putW]
  go_wp2_with (first | (guard_target =~ Calls _ 20 _ _ _; refine Stopped.out ?_) | (refine load1 hS rfl rfl rfl rfl ?_; simp only [putW]) | (refine loadAll hS rfl rfl rfl ?_ ?_; rfl; simp only [putW]) | (refine loadPart hS rfl rfl rfl ?_ rfl ?_; rfl; simp only [putW]) | (refine store1 hS rfl rfl rfl rfl rfl ?_ ?_; (focus (simp; done)); clear hS; intro w hS; simp only [evW, putW] at hS; try simp only [putW]) | (refine storeAll hS rfl rfl rfl rfl ?_ ?_ ?_ ?_; rfl; (focus (simp [Value.oneCell']; done)); rfl; clear hS; intro w hS; try simp only [putW]) | (refine storeN hS rfl rfl rfl rfl ?_ ?_ ?_ ?_; rfl; (focus (simp [Value.oneCell']; done)); (focus (simp; done)); clear hS; intro w hS; simp at hS; try simp only [putW]) | (refine alloc hS rfl rfl ?_; clear hS; intro mb w hS; simp only [putW]) | (refine box1 hS rfl rfl rfl rfl ?_; clear hS; intro mb w hS; try simp only [evW, putW] at hS; simp only [putW]) | (refine boxN hS rfl rfl rfl ?_; clear hS; intro mb w hS; simp only [putW]))
  refine ⟨?_⟩
  refine Calls.mono (sortedKeys_any (l := m) (ve := slotV) (b := bm) HOK.out hl (hS.conv (S' := (mk, cells #[.map (some bm)] 53) :: (bm, mapC encInt slotV m) :: (bs, cells #[.slice (some ⟨bf, 0, none⟩) n n, .map (some bm)] 55) :: (bf, slc 1 (Sl.one Value.bool) fl n 4) :: K))) ?_
  clear hS
  rintro _ w ⟨v, rfl, hS⟩
  simp only [putW]
  go_wp2_with (first | (refine load1 hS rfl rfl rfl rfl ?_; simp only [putW]) | (refine loadAll hS rfl rfl rfl ?_ ?_; rfl; simp only [putW]) | (refine loadPart hS rfl rfl rfl ?_ rfl ?_; rfl; simp only [putW]) | (refine store1 hS rfl rfl rfl rfl rfl ?_ ?_; (focus (simp; done)); clear hS; intro w hS; simp only [evW, putW] at hS; try simp only [putW]) | (refine storeAll hS rfl rfl rfl rfl ?_ ?_ ?_ ?_; rfl; (focus (simp [Value.oneCell']; done)); rfl; clear hS; intro w hS; try simp only [putW]) | (refine storeN hS rfl rfl rfl rfl ?_ ?_ ?_ ?_; rfl; (focus (simp [Value.oneCell']; done)); (focus (simp; done)); clear hS; intro w hS; simp at hS; try simp only [putW]) | (refine alloc hS rfl rfl ?_; clear hS; intro mb w hS; simp only [putW]) | (refine box1 hS rfl rfl rfl rfl ?_; clear hS; intro mb w hS; try simp only [evW, putW] at hS; simp only [putW]) | (refine boxN hS rfl rfl rfl ?_; clear hS; intro mb w hS; simp only [putW]))
  go_ret
  exact ⟨v, rfl, (closeSlots bs (bf := bf) (bm := bm) hS HL.out).conv⟩
end
end Go.Proofs.Ythlcjefkhlfkpaa
