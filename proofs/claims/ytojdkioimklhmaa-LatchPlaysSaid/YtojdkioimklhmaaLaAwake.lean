/-
  latch: Ask and Free in plain words; the document's example.
-/
import Derived.Test.YtojdkioimklhmaaLaFree2
import Derived.Test.YtojdkioimklhmaaJ02
set_option linter.unusedSimpArgs false
set_option linter.unusedVariables false
namespace Go.Proofs.Ytojdkioimklhmaa
open Go.RowKit Go.Proofs.Ytojdkioimklhmaa.Sl

def wokenP (task : Int) (PL : PLts) : List Int := PL.flatMap fun e => (freeP e.2 task).1
def freeAll (task : Int) (PL : PLts) : PLts := PL.map fun e => (e.1, (freeP e.2 task).2)
theorem wokenP_strip (task : Int) (LL : Lts) : wokenOf task LL = wokenP task (strip LL) := by
  unfold wokenOf wokenP strip
  rw [List.flatMap_map]
theorem freeAll_strip (task : Int) (LL : Lts) : strip (LL.map (freeE task)) = freeAll task (strip LL) := by
  unfold freeAll strip
  rw [List.map_map, List.map_map]
  rfl
section
variable {w0 w : World} {K F S : List Chunk} {t : Nat} {PL : PLts} {W : Wts} {key task : Int} {al r : Bool} {l : LtP}
theorem ask_pl (hm : mayAsk PL W task key = true) (hq : (atKey PL key).queue.length + 1 ≤ 1000000) (hr : askL (atKey PL key) task al = (r, l)) (hS : Sat w0 ((t, TabC PL W) :: K) w) : Calls Try.prog 12 #[.pointer (some ⟨t, 0, none⟩), .int .i64 task, .int .i64 key, .bool al] w fun e w' => e = .returned (.tuple #[.bool r, .int .i64 0]) ∧ Sat w0 ((t, TabC (mput PL key l) (if r then W else mput W task key)) :: K) w' := by
  refine (ask_any hm hq hS).mono ?_
  rintro e w' ⟨r', l', h, rfl, hS⟩
  rw [hr] at h
  cases h
  exact ⟨rfl, hS⟩
theorem free_pl (hq : ∀ e ∈ PL, e.2.queue.length ≤ 1000) (hn : PL.length ≤ 900) (hS : Sat w0 ((t, TabC PL W) :: K) w) : Calls Try.prog 11 #[.pointer (some ⟨t, 0, none⟩), .int .i64 task] w fun e w' => ∃ v wk, wk.Perm (wokenP task PL) ∧ e = .returned v ∧
    Sat w0 ((blk v, sl 1 i64 (sortI (wokenP task PL)) 3 v) :: (t, TabC (freeAll task PL) (unwait (mdel W task) wk)) :: K) w' := by
  refine (free_any (task := task) hq hn hS).mono ?_
  rintro e w' ⟨v, LL, wk, rfl, hwk, rfl, hS⟩
  rw [wokenP_strip] at hwk
  rw [freeAll_strip, sortI_of_perm hwk] at hS
  exact ⟨v, wk, hwk, rfl, hS⟩
theorem tab_nodup (hS : Sat w0 ((t, TabC PL W) :: K) w) : (mkeys PL).Nodup ∧ (mkeys W).Nodup := by
  obtain ⟨LL, lm, wm, ⟨hs, -⟩, h⟩ := tabOpen hS
  obtain ⟨_, _, _, _, _, h1, _⟩ := Sat.map (enc := encInt) (ve := ltV) (l := LL) (b := lm) h
  obtain ⟨_, _, _, _, _, h2, _⟩ := Sat.map (enc := encInt) (ve := Value.int .i64) (l := W) (b := wm) h
  rw [← hs, mkeys_strip]
  exact ⟨h1, h2⟩
def P1 : LtP := ⟨[(1, ())], false, []⟩
def P2 : LtP := ⟨[(1, ())], false, [(2, true)]⟩
def P3 : LtP := ⟨[(1, ())], false, [(2, true), (3, false)]⟩
def P4 : LtP := ⟨[(2, ())], true, [(3, false)]⟩
set_option maxRecDepth 100000 in
set_option maxHeartbeats 4000000 in
theorem awakeL_any : Calls Try.prog 14 #[] w0 fun e w' => e = .returned (.bool true) ∧ Sat w0 [] w' := by
  have hS := Sat.refl w0
  go_enter Try.func14, Try.ntmps14
  go_wp2_with (first | (guard_target =~ Calls _ 9 _ _ _; refine Stopped.out ?_) | (refine load1 hS rfl rfl rfl rfl ?_; simp only [putW]) | (refine loadAll hS rfl rfl rfl ?_ ?_; rfl; simp only [putW]) | (refine loadPart hS rfl rfl rfl ?_ rfl ?_; rfl; simp only [putW]) | (refine store1 hS rfl rfl rfl rfl rfl ?_ ?_; (focus (simp; done)); clear hS; intro w hS; simp only [evW, putW] at hS; try simp only [putW]) | (refine storeAll hS rfl rfl rfl rfl ?_ ?_ ?_ ?_; rfl; (focus (simp [Value.oneCell']; done)); rfl; clear hS; intro w hS; try simp only [putW]) | (refine storeN hS rfl rfl rfl rfl ?_ ?_ ?_ ?_; rfl; (focus (simp [Value.oneCell']; done)); (focus (simp; done)); clear hS; intro w hS; simp at hS; try simp only [putW]) | (refine alloc hS rfl rfl ?_; clear hS; intro mb w hS; simp only [putW]) | (refine box1 hS rfl rfl rfl rfl ?_; clear hS; intro mb w hS; try simp only [evW, putW] at hS; simp only [putW]) | (refine boxN hS rfl rfl rfl ?_; clear hS; intro mb w hS; simp only [putW]))
  refine ⟨?_⟩
  refine Calls.mono tabNew_any ?_
  clear hS
  rintro _ w ⟨t, rfl, hS⟩
  simp only [putW]
  go_wp2_with (first | (guard_target =~ Calls _ 12 _ _ _; refine Stopped.out ?_) | (refine load1 hS rfl rfl rfl rfl ?_; simp only [putW]) | (refine loadAll hS rfl rfl rfl ?_ ?_; rfl; simp only [putW]) | (refine loadPart hS rfl rfl rfl ?_ rfl ?_; rfl; simp only [putW]) | (refine store1 hS rfl rfl rfl rfl rfl ?_ ?_; (focus (simp; done)); clear hS; intro w hS; simp only [evW, putW] at hS; try simp only [putW]) | (refine storeAll hS rfl rfl rfl rfl ?_ ?_ ?_ ?_; rfl; (focus (simp [Value.oneCell']; done)); rfl; clear hS; intro w hS; try simp only [putW]) | (refine storeN hS rfl rfl rfl rfl ?_ ?_ ?_ ?_; rfl; (focus (simp [Value.oneCell']; done)); (focus (simp; done)); clear hS; intro w hS; simp at hS; try simp only [putW]) | (refine alloc hS rfl rfl ?_; clear hS; intro mb w hS; simp only [putW]) | (refine box1 hS rfl rfl rfl rfl ?_; clear hS; intro mb w hS; try simp only [evW, putW] at hS; simp only [putW]) | (refine boxN hS rfl rfl rfl ?_; clear hS; intro mb w hS; simp only [putW]))
  refine ⟨?_⟩
  refine Calls.mono (ask_pl (r := true) (l := P1) (by rfl) (by decide) (by rfl) hS) ?_
  clear hS
  rintro _ w ⟨rfl, hS⟩
  have hS1 : Sat w0 ((t, TabC [(7, P1)] []) :: []) w := hS
  clear hS
  have hS := hS1
  clear hS1
  simp only [putW]
  go_wp2_with (first | (guard_target =~ Calls _ 12 _ _ _; refine Stopped.out ?_) | (refine load1 hS rfl rfl rfl rfl ?_; simp only [putW]) | (refine loadAll hS rfl rfl rfl ?_ ?_; rfl; simp only [putW]) | (refine loadPart hS rfl rfl rfl ?_ rfl ?_; rfl; simp only [putW]) | (refine store1 hS rfl rfl rfl rfl rfl ?_ ?_; (focus (simp; done)); clear hS; intro w hS; simp only [evW, putW] at hS; try simp only [putW]) | (refine storeAll hS rfl rfl rfl rfl ?_ ?_ ?_ ?_; rfl; (focus (simp [Value.oneCell']; done)); rfl; clear hS; intro w hS; try simp only [putW]) | (refine storeN hS rfl rfl rfl rfl ?_ ?_ ?_ ?_; rfl; (focus (simp [Value.oneCell']; done)); (focus (simp; done)); clear hS; intro w hS; simp at hS; try simp only [putW]) | (refine alloc hS rfl rfl ?_; clear hS; intro mb w hS; simp only [putW]) | (refine box1 hS rfl rfl rfl rfl ?_; clear hS; intro mb w hS; try simp only [evW, putW] at hS; simp only [putW]) | (refine boxN hS rfl rfl rfl ?_; clear hS; intro mb w hS; simp only [putW]))
  refine ⟨?_⟩
  refine Calls.mono (ask_pl (r := false) (l := P2) (by rfl) (by decide) (by rfl) hS) ?_
  clear hS
  rintro _ w ⟨rfl, hS⟩
  have hS1 : Sat w0 ((t, TabC [(7, P2)] [(2, 7)]) :: []) w := hS
  clear hS
  have hS := hS1
  clear hS1
  simp only [putW]
  go_wp2_with (first | (guard_target =~ Calls _ 12 _ _ _; refine Stopped.out ?_) | (refine load1 hS rfl rfl rfl rfl ?_; simp only [putW]) | (refine loadAll hS rfl rfl rfl ?_ ?_; rfl; simp only [putW]) | (refine loadPart hS rfl rfl rfl ?_ rfl ?_; rfl; simp only [putW]) | (refine store1 hS rfl rfl rfl rfl rfl ?_ ?_; (focus (simp; done)); clear hS; intro w hS; simp only [evW, putW] at hS; try simp only [putW]) | (refine storeAll hS rfl rfl rfl rfl ?_ ?_ ?_ ?_; rfl; (focus (simp [Value.oneCell']; done)); rfl; clear hS; intro w hS; try simp only [putW]) | (refine storeN hS rfl rfl rfl rfl ?_ ?_ ?_ ?_; rfl; (focus (simp [Value.oneCell']; done)); (focus (simp; done)); clear hS; intro w hS; simp at hS; try simp only [putW]) | (refine alloc hS rfl rfl ?_; clear hS; intro mb w hS; simp only [putW]) | (refine box1 hS rfl rfl rfl rfl ?_; clear hS; intro mb w hS; try simp only [evW, putW] at hS; simp only [putW]) | (refine boxN hS rfl rfl rfl ?_; clear hS; intro mb w hS; simp only [putW]))
  refine ⟨?_⟩
  refine Calls.mono (ask_pl (r := false) (l := P3) (by rfl) (by decide) (by rfl) hS) ?_
  clear hS
  rintro _ w ⟨rfl, hS⟩
  have hS1 : Sat w0 ((t, TabC [(7, P3)] [(2, 7), (3, 7)]) :: []) w := hS
  clear hS
  have hS := hS1
  clear hS1
  simp only [putW]
  go_wp2_with (first | (guard_target =~ Calls _ 11 _ _ _; refine Stopped.out ?_) | (refine load1 hS rfl rfl rfl rfl ?_; simp only [putW]) | (refine loadAll hS rfl rfl rfl ?_ ?_; rfl; simp only [putW]) | (refine loadPart hS rfl rfl rfl ?_ rfl ?_; rfl; simp only [putW]) | (refine store1 hS rfl rfl rfl rfl rfl ?_ ?_; (focus (simp; done)); clear hS; intro w hS; simp only [evW, putW] at hS; try simp only [putW]) | (refine storeAll hS rfl rfl rfl rfl ?_ ?_ ?_ ?_; rfl; (focus (simp [Value.oneCell']; done)); rfl; clear hS; intro w hS; try simp only [putW]) | (refine storeN hS rfl rfl rfl rfl ?_ ?_ ?_ ?_; rfl; (focus (simp [Value.oneCell']; done)); (focus (simp; done)); clear hS; intro w hS; simp at hS; try simp only [putW]) | (refine alloc hS rfl rfl ?_; clear hS; intro mb w hS; simp only [putW]) | (refine box1 hS rfl rfl rfl rfl ?_; clear hS; intro mb w hS; try simp only [evW, putW] at hS; simp only [putW]) | (refine boxN hS rfl rfl rfl ?_; clear hS; intro mb w hS; simp only [putW]))
  refine ⟨?_⟩
  refine Calls.mono (free_pl (task := 1) (by decide) (by decide) hS) ?_
  clear hS
  rintro _ w ⟨v, wk, -, rfl, hS⟩
  have HW : wokenP 1 [(7, P3)] = [2] := by rfl
  have HA : freeAll 1 [(7, P3)] = [(7, P4)] := by rfl
  rw [HW, HA, show sortI [2] = [2] by simp [sortI]] at hS
  clear HW HA
  simp only [putW]
  go_wp2_with (first | (refine buildSlice1 (c := #[.int .i64 2]) hS rfl rfl rfl ?_ ?_ ?_ ?_; rfl; rfl; rfl; clear hS; intro mb w hS; simp only [putW]) | (guard_target =~ Calls _ 15 _ _ _; refine Stopped.out ?_) | (refine load1 hS rfl rfl rfl rfl ?_; simp only [putW]) | (refine loadAll hS rfl rfl rfl ?_ ?_; rfl; simp only [putW]) | (refine loadPart hS rfl rfl rfl ?_ rfl ?_; rfl; simp only [putW]) | (refine store1 hS rfl rfl rfl rfl rfl ?_ ?_; (focus (simp; done)); clear hS; intro w hS; simp only [evW, putW] at hS; try simp only [putW]) | (refine storeAll hS rfl rfl rfl rfl ?_ ?_ ?_ ?_; rfl; (focus (simp [Value.oneCell']; done)); rfl; clear hS; intro w hS; try simp only [putW]) | (refine storeN hS rfl rfl rfl rfl ?_ ?_ ?_ ?_; rfl; (focus (simp [Value.oneCell']; done)); (focus (simp; done)); clear hS; intro w hS; simp at hS; try simp only [putW]) | (refine alloc hS rfl rfl ?_; clear hS; intro mb w hS; simp only [putW]) | (refine box1 hS rfl rfl rfl rfl ?_; clear hS; intro mb w hS; try simp only [evW, putW] at hS; simp only [putW]) | (refine boxN hS rfl rfl rfl ?_; clear hS; intro mb w hS; simp only [putW]))
  refine ⟨?_⟩
  have hra : RI w [2] v := (hS.conv (S' := (blk v, sl 1 i64 [2] 3 v) :: [])).readsSl fun _ _ => trivial
  have hrb : RI w [2] (.slice (some ⟨mb, 0, none⟩) 1 1) := ((hS.conv (S' := (mb, cells #[.int .i64 2] 3) :: [])).toSlc (l := [2]) (cap := 1) (n := 1) (f := i64) (by simp) (by simp) (by simp [maxLen]) (by simp [Sl.one]) (fun _ _ => rfl)).readsSlc (g := mb) (n := 1) (f := i64) (L := [2]) (cap := 1) (t := 3) fun _ _ => trivial
  refine Calls.mono (sameInts_any hra hrb) ?_
  rintro _ w2 ⟨rfl, h2⟩
  replace hS := hS.frame h2
  clear h2 hra hrb
  simp only [List.nil_append] at hS
  simp only [decide_true, putW]
  go_wp2_with (first | (guard_target =~ Calls _ 13 _ _ _; refine Stopped.out ?_) | (refine load1 hS rfl rfl rfl rfl ?_; simp only [putW]) | (refine loadAll hS rfl rfl rfl ?_ ?_; rfl; simp only [putW]) | (refine loadPart hS rfl rfl rfl ?_ rfl ?_; rfl; simp only [putW]) | (refine store1 hS rfl rfl rfl rfl rfl ?_ ?_; (focus (simp; done)); clear hS; intro w hS; simp only [evW, putW] at hS; try simp only [putW]) | (refine storeAll hS rfl rfl rfl rfl ?_ ?_ ?_ ?_; rfl; (focus (simp [Value.oneCell']; done)); rfl; clear hS; intro w hS; try simp only [putW]) | (refine storeN hS rfl rfl rfl rfl ?_ ?_ ?_ ?_; rfl; (focus (simp [Value.oneCell']; done)); (focus (simp; done)); clear hS; intro w hS; simp at hS; try simp only [putW]) | (refine alloc hS rfl rfl ?_; clear hS; intro mb w hS; simp only [putW]) | (refine box1 hS rfl rfl rfl rfl ?_; clear hS; intro mb w hS; try simp only [evW, putW] at hS; simp only [putW]) | (refine boxN hS rfl rfl rfl ?_; clear hS; intro mb w hS; simp only [putW]))
  refine ⟨?_⟩
  refine Calls.mono (holds_any (K := []) (PL := [(7, P4)]) (W := unwait (mdel [(2, 7), (3, 7)] 1) wk) (task := 2) (key := 7) hS.conv) ?_
  clear hS
  rintro _ w ⟨rfl, hS⟩
  rw [show holdsP [(7, P4)] 2 7 = 2 by rfl]
  simp only [putW]
  go_wp2_with (first | (refine load1 hS rfl rfl rfl rfl ?_; simp only [putW]) | (refine loadAll hS rfl rfl rfl ?_ ?_; rfl; simp only [putW]) | (refine loadPart hS rfl rfl rfl ?_ rfl ?_; rfl; simp only [putW]) | (refine store1 hS rfl rfl rfl rfl rfl ?_ ?_; (focus (simp; done)); clear hS; intro w hS; simp only [evW, putW] at hS; try simp only [putW]) | (refine storeAll hS rfl rfl rfl rfl ?_ ?_ ?_ ?_; rfl; (focus (simp [Value.oneCell']; done)); rfl; clear hS; intro w hS; try simp only [putW]) | (refine storeN hS rfl rfl rfl rfl ?_ ?_ ?_ ?_; rfl; (focus (simp [Value.oneCell']; done)); (focus (simp; done)); clear hS; intro w hS; simp at hS; try simp only [putW]) | (refine alloc hS rfl rfl ?_; clear hS; intro mb w hS; simp only [putW]) | (refine box1 hS rfl rfl rfl rfl ?_; clear hS; intro mb w hS; try simp only [evW, putW] at hS; simp only [putW]) | (refine boxN hS rfl rfl rfl ?_; clear hS; intro mb w hS; simp only [putW]))
  go_ret
  exact ⟨rfl, hS.nothing⟩
end
end Go.Proofs.Ytojdkioimklhmaa
