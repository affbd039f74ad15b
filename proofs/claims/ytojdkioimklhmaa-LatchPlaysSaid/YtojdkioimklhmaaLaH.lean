/-
  latch: New, Holds, Waits.
-/
import Derived.Test.YtojdkioimklhmaaLaT
set_option linter.unusedSimpArgs false
set_option linter.unusedVariables false
namespace Go.Proofs.Ytojdkioimklhmaa
open Go.RowKit Go.Proofs.Ytojdkioimklhmaa.Sl

/-- How a task has a latch. -/
def holdsP (PL : PLts) (task key : Int) : Int := match mget PL key with
  | none => 0
  | some P => if (mget P.has task).isSome then (if P.alone then 2 else 1) else 0
section
variable {w0 w : World} {K F S : List Chunk} {a t : Nat} {P : LtP} {PL : PLts} {LL L1 L2 : Lts} {W : Wts} {key task : Int}
set_option maxRecDepth 100000 in
theorem tabNew_any : Calls Try.prog 9 #[] w0 fun e w' => ∃ t, e = .returned (.pointer (some ⟨t, 0, none⟩)) ∧ Sat w0 [(t, TabC [] [])] w' := by
  have hS := Sat.refl w0
  go_enter Try.func9, Try.ntmps9
  go_wp2_with (first | (guard_target =~ wpList _ _ _ (Oper.mk (some 1) _ _ _ _ _ :: _) _ _; refine Stopped.out ?_) | (refine load1 hS rfl rfl rfl rfl ?_; simp only [putW]) | (refine loadAll hS rfl rfl rfl ?_ ?_; rfl; simp only [putW]) | (refine loadPart hS rfl rfl rfl ?_ rfl ?_; rfl; simp only [putW]) | (refine store1 hS rfl rfl rfl rfl rfl ?_ ?_; (focus (simp; done)); clear hS; intro w hS; simp only [evW, putW] at hS; try simp only [putW]) | (refine storeAll hS rfl rfl rfl rfl ?_ ?_ ?_ ?_; rfl; (focus (simp [Value.oneCell']; done)); rfl; clear hS; intro w hS; try simp only [putW]) | (refine storeN hS rfl rfl rfl rfl ?_ ?_ ?_ ?_; rfl; (focus (simp [Value.oneCell']; done)); (focus (simp; done)); clear hS; intro w hS; simp at hS; try simp only [putW]) | (refine alloc hS rfl rfl ?_; clear hS; intro mb w hS; simp only [putW]) | (refine box1 hS rfl rfl rfl rfl ?_; clear hS; intro mb w hS; try simp only [evW, putW] at hS; simp only [putW]) | (refine boxN hS rfl rfl rfl ?_; clear hS; intro mb w hS; simp only [putW]))
  refine ⟨?_⟩
  refine makeMap hS rfl rfl encInt ltV ?_
  clear hS
  intro lm w hS
  simp only [putW]
  go_wp2_with (first | (guard_target =~ wpList _ _ _ (Oper.mk (some 2) _ _ _ _ _ :: _) _ _; refine Stopped.out ?_) | (refine load1 hS rfl rfl rfl rfl ?_; simp only [putW]) | (refine loadAll hS rfl rfl rfl ?_ ?_; rfl; simp only [putW]) | (refine loadPart hS rfl rfl rfl ?_ rfl ?_; rfl; simp only [putW]) | (refine store1 hS rfl rfl rfl rfl rfl ?_ ?_; (focus (simp; done)); clear hS; intro w hS; simp only [evW, putW] at hS; try simp only [putW]) | (refine storeAll hS rfl rfl rfl rfl ?_ ?_ ?_ ?_; rfl; (focus (simp [Value.oneCell']; done)); rfl; clear hS; intro w hS; try simp only [putW]) | (refine storeN hS rfl rfl rfl rfl ?_ ?_ ?_ ?_; rfl; (focus (simp [Value.oneCell']; done)); (focus (simp; done)); clear hS; intro w hS; simp at hS; try simp only [putW]) | (refine alloc hS rfl rfl ?_; clear hS; intro mb w hS; simp only [putW]) | (refine box1 hS rfl rfl rfl rfl ?_; clear hS; intro mb w hS; try simp only [evW, putW] at hS; simp only [putW]) | (refine boxN hS rfl rfl rfl ?_; clear hS; intro mb w hS; simp only [putW]))
  refine ⟨?_⟩
  refine makeMap hS rfl rfl encInt (Value.int .i64) ?_
  clear hS
  intro wm w hS
  simp only [putW]
  go_wp2_with (first | (refine boxN (cs := #[.map (some lm), .map (some wm)]) hS rfl rfl rfl ?_; clear hS; intro t w hS; simp only [putW]) | (refine load1 hS rfl rfl rfl rfl ?_; simp only [putW]) | (refine loadAll hS rfl rfl rfl ?_ ?_; rfl; simp only [putW]) | (refine loadPart hS rfl rfl rfl ?_ rfl ?_; rfl; simp only [putW]) | (refine store1 hS rfl rfl rfl rfl rfl ?_ ?_; (focus (simp; done)); clear hS; intro w hS; simp only [evW, putW] at hS; try simp only [putW]) | (refine storeAll hS rfl rfl rfl rfl ?_ ?_ ?_ ?_; rfl; (focus (simp [Value.oneCell']; done)); rfl; clear hS; intro w hS; try simp only [putW]) | (refine storeN hS rfl rfl rfl rfl ?_ ?_ ?_ ?_; rfl; (focus (simp [Value.oneCell']; done)); (focus (simp; done)); clear hS; intro w hS; simp at hS; try simp only [putW]) | (refine alloc hS rfl rfl ?_; clear hS; intro mb w hS; simp only [putW]) | (refine box1 hS rfl rfl rfl rfl ?_; clear hS; intro mb w hS; try simp only [evW, putW] at hS; simp only [putW]) | (refine boxN hS rfl rfl rfl ?_; clear hS; intro mb w hS; simp only [putW]))
  go_ret
  have h1 : Sat w0 ((8, ltsC []) :: (t, cells #[.map (some lm), .map (some wm)] 51) :: (wm, mapC encInt (Value.int .i64) []) :: (lm, mapC encInt ltV []) :: []) _ := hS.nilChunk 8 trivial
  exact ⟨t, rfl, tabShut (LL := []) (lm := lm) (wm := wm) rfl (fun e he => by cases he) h1.conv⟩
set_option maxRecDepth 100000 in
set_option maxHeartbeats 1000000 in
theorem waits_any (hS : Sat w0 ((t, TabC PL W) :: K) w) : Calls Try.prog 18 #[.pointer (some ⟨t, 0, none⟩), .int .i64 task] w fun e w' => e = .returned (.tuple #[.int .i64 ((mget W task).getD 0), .bool (mget W task).isSome]) ∧ Sat w0 ((t, TabC PL W) :: K) w' := by
  obtain ⟨LL, lm, wm, ⟨hs, ho⟩, hS1⟩ := tabOpen hS
  clear hS
  have HS : Bx (strip LL = PL ∧ LtOk LL) := ⟨hs, ho⟩
  clear hs ho
  have hS := hS1
  clear hS1
  go_enter Try.func18, Try.ntmps18
  go_wp2_with (first | (refine lookup2 (enc := encInt) (ve := Value.int .i64) (b := wm) hS rfl rfl task rfl rfl 0 rfl ?_; simp only [putW]) | (refine load1 hS rfl rfl rfl rfl ?_; simp only [putW]) | (refine loadAll hS rfl rfl rfl ?_ ?_; rfl; simp only [putW]) | (refine loadPart hS rfl rfl rfl ?_ rfl ?_; rfl; simp only [putW]) | (refine store1 hS rfl rfl rfl rfl rfl ?_ ?_; (focus (simp; done)); clear hS; intro w hS; simp only [evW, putW] at hS; try simp only [putW]) | (refine storeAll hS rfl rfl rfl rfl ?_ ?_ ?_ ?_; rfl; (focus (simp [Value.oneCell']; done)); rfl; clear hS; intro w hS; try simp only [putW]) | (refine storeN hS rfl rfl rfl rfl ?_ ?_ ?_ ?_; rfl; (focus (simp [Value.oneCell']; done)); (focus (simp; done)); clear hS; intro w hS; simp at hS; try simp only [putW]) | (refine alloc hS rfl rfl ?_; clear hS; intro mb w hS; simp only [putW]) | (refine box1 hS rfl rfl rfl rfl ?_; clear hS; intro mb w hS; try simp only [evW, putW] at hS; simp only [putW]) | (refine boxN hS rfl rfl rfl ?_; clear hS; intro mb w hS; simp only [putW]))
  refine bodyPost_ret (v := .tuple #[.int .i64 ((mget W task).getD 0), .bool (mget W task).isSome]) (by simp [results, Try.results18]) rfl ⟨rfl, tabShut (lm := lm) (wm := wm) HS.out.1 HS.out.2 hS.conv⟩
theorem holdsP_none {LL : Lts} (h : mget LL key = none) : holdsP (strip LL) task key = 0 := by
  unfold holdsP
  rw [mget_strip, h]
  rfl
theorem holdsP_some {LL : Lts} {x : LtV} (h : mget LL key = some x) : holdsP (strip LL) task key = if (mget x.2.has task).isSome then (if x.2.alone then 2 else 1) else 0 := by
  unfold holdsP
  rw [mget_strip, h]
  rfl
set_option maxRecDepth 100000 in
set_option maxHeartbeats 2000000 in
theorem holds_any (hS : Sat w0 ((t, TabC PL W) :: K) w) : Calls Try.prog 13 #[.pointer (some ⟨t, 0, none⟩), .int .i64 task, .int .i64 key] w fun e w' => e = .returned (.int .i64 (holdsP PL task key)) ∧ Sat w0 ((t, TabC PL W) :: K) w' := by
  obtain ⟨LL, lm, wm, ⟨hs, ho⟩, hS1⟩ := tabOpen hS
  clear hS
  subst hs
  have HO : Bx (LtOk LL) := ⟨ho⟩
  have hS := hS1
  clear hS1
  cases hg : mget LL key with
  | none =>
    have Hg : Bx ((mget LL key).getD lt0 = lt0 ∧ (mget LL key).isSome = false) := ⟨by rw [hg]; exact ⟨rfl, rfl⟩⟩
    have HR : Bx (holdsP (strip LL) task key = 0) := ⟨holdsP_none hg⟩
    clear hg ho
    go_enter Try.func13, Try.ntmps13
    go_wp2_with (first | (refine lookup2 (enc := encInt) (ve := ltV) (b := lm) hS rfl rfl key rfl rfl lt0 rfl ?_; rw [Hg.out.1, Hg.out.2]; simp only [putW, ltV, Option.map_none]) | (refine load1 hS rfl rfl rfl rfl ?_; simp only [putW]) | (refine loadAll hS rfl rfl rfl ?_ ?_; rfl; simp only [putW]) | (refine loadPart hS rfl rfl rfl ?_ rfl ?_; rfl; simp only [putW]) | (refine store1 hS rfl rfl rfl rfl rfl ?_ ?_; (focus (simp; done)); clear hS; intro w hS; simp only [evW, putW] at hS; try simp only [putW]) | (refine storeAll hS rfl rfl rfl rfl ?_ ?_ ?_ ?_; rfl; (focus (simp [Value.oneCell']; done)); rfl; clear hS; intro w hS; try simp only [putW]) | (refine storeN hS rfl rfl rfl rfl ?_ ?_ ?_ ?_; rfl; (focus (simp [Value.oneCell']; done)); (focus (simp; done)); clear hS; intro w hS; simp at hS; try simp only [putW]) | (refine alloc hS rfl rfl ?_; clear hS; intro mb w hS; simp only [putW]) | (refine box1 hS rfl rfl rfl rfl ?_; clear hS; intro mb w hS; try simp only [evW, putW] at hS; simp only [putW]) | (refine boxN hS rfl rfl rfl ?_; clear hS; intro mb w hS; simp only [putW]))
    go_ret
    exact ⟨by rw [HR.out]; rfl, tabShut (lm := lm) (wm := wm) rfl HO.out hS.conv⟩
  | some x =>
    obtain ⟨L1, L2, hsp, -⟩ := lt_split hg
    obtain ⟨a, ha⟩ := ho (key, x) (by rw [hsp]; simp)
    obtain ⟨xa, P⟩ := x
    have ha' : xa = some a := ha
    subst ha'
    have Hg : Bx ((mget LL key).getD lt0 = (some a, P) ∧ (mget LL key).isSome = true) := ⟨by rw [hg]; exact ⟨rfl, rfl⟩⟩
    have HR : Bx (holdsP (strip LL) task key = if (mget P.has task).isSome then (if P.alone then 2 else 1) else 0) := ⟨holdsP_some hg⟩
    have HSp : Bx (LL = L1 ++ (key, (some a, P)) :: L2) := ⟨hsp⟩
    clear hg ho hsp ha
    have hS1 := hS.pull 8 (X := ltsC LL)
    rw [HSp.out] at hS1
    have hS2 := ltsPull hS1
    rw [← HSp.out] at hS2
    clear hS hS1
    obtain ⟨hb, vq, hS1⟩ := ltOpen (a := a) hS2
    clear hS2
    have hS : Sat w0 ((a, cells #[.map (some hb), .bool P.alone, vq] 58) :: (hb, mapC encInt uV P.has) :: (blk vq, qC P.queue vq) :: (8, ltsC (L1 ++ L2)) :: (t, cells #[.map (some lm), .map (some wm)] 51) :: (lm, mapC encInt ltV LL) :: (wm, mapC encInt (Value.int .i64) W) :: K) w := hS1.conv
    clear hS1
    have HEnd : ∀ {w' : World}, Sat w0 ((a, cells #[.map (some hb), .bool P.alone, vq] 58) :: (hb, mapC encInt uV P.has) :: (blk vq, qC P.queue vq) :: (8, ltsC (L1 ++ L2)) :: (t, cells #[.map (some lm), .map (some wm)] 51) :: (lm, mapC encInt ltV LL) :: (wm, mapC encInt (Value.int .i64) W) :: K) w' → Sat w0 ((t, TabC (strip LL) W) :: K) w' := fun h => by
      have h1 := ltsPush key (some a, P) (ltShut (a := a) (P := P) h)
      rw [← HSp.out] at h1
      exact tabShut (lm := lm) (wm := wm) rfl HO.out h1.conv
    obtain ⟨ib, hib⟩ : ∃ b, (mget P.has task).isSome = b := ⟨_, rfl⟩
    have HI : Bx _ := ⟨hib⟩
    rw [hib] at HR
    clear hib
    obtain ⟨has, al, queue⟩ := P
    cases ib with
    | false =>
      have HR2 : Bx (holdsP (strip LL) task key = 0) := ⟨HR.out⟩
      clear HR
      go_enter Try.func13, Try.ntmps13
      go_wp2_with (first | (refine lookup2 (enc := encInt) (ve := ltV) (b := lm) hS rfl rfl key rfl rfl lt0 rfl ?_; rw [Hg.out.1, Hg.out.2]; simp only [putW, ltV, Option.map_some]) | (refine lookup2 (enc := encInt) (ve := uV) (b := hb) hS rfl rfl task rfl rfl () rfl ?_; rw [HI.out]; simp only [putW, uV]) | (refine alloc (t := 53) hS rfl rfl ?_; clear hS; intro m9 w hS; simp only [putW]) | (refine load1 hS rfl rfl rfl rfl ?_; simp only [putW]) | (refine loadAll hS rfl rfl rfl ?_ ?_; rfl; simp only [putW]) | (refine loadPart hS rfl rfl rfl ?_ rfl ?_; rfl; simp only [putW]) | (refine store1 hS rfl rfl rfl rfl rfl ?_ ?_; (focus (simp; done)); clear hS; intro w hS; simp only [evW, putW] at hS; try simp only [putW]) | (refine storeAll hS rfl rfl rfl rfl ?_ ?_ ?_ ?_; rfl; (focus (simp [Value.oneCell']; done)); rfl; clear hS; intro w hS; try simp only [putW]) | (refine storeN hS rfl rfl rfl rfl ?_ ?_ ?_ ?_; rfl; (focus (simp [Value.oneCell']; done)); (focus (simp; done)); clear hS; intro w hS; simp at hS; try simp only [putW]) | (refine alloc hS rfl rfl ?_; clear hS; intro mb w hS; simp only [putW]) | (refine box1 hS rfl rfl rfl rfl ?_; clear hS; intro mb w hS; try simp only [evW, putW] at hS; simp only [putW]) | (refine boxN hS rfl rfl rfl ?_; clear hS; intro mb w hS; simp only [putW]))
      go_ret
      exact ⟨by rw [HR2.out]; rfl, HEnd hS.conv⟩
    | true =>
      cases al with
      | true =>
        have HR2 : Bx (holdsP (strip LL) task key = 2) := ⟨HR.out⟩
        clear HR
        go_enter Try.func13, Try.ntmps13
        go_wp2_with (first | (refine lookup2 (enc := encInt) (ve := ltV) (b := lm) hS rfl rfl key rfl rfl lt0 rfl ?_; rw [Hg.out.1, Hg.out.2]; simp only [putW, ltV, Option.map_some]) | (refine lookup2 (enc := encInt) (ve := uV) (b := hb) hS rfl rfl task rfl rfl () rfl ?_; rw [HI.out]; simp only [putW, uV]) | (refine alloc (t := 53) hS rfl rfl ?_; clear hS; intro m9 w hS; simp only [putW]) | (refine load1 hS rfl rfl rfl rfl ?_; simp only [putW]) | (refine loadAll hS rfl rfl rfl ?_ ?_; rfl; simp only [putW]) | (refine loadPart hS rfl rfl rfl ?_ rfl ?_; rfl; simp only [putW]) | (refine store1 hS rfl rfl rfl rfl rfl ?_ ?_; (focus (simp; done)); clear hS; intro w hS; simp only [evW, putW] at hS; try simp only [putW]) | (refine storeAll hS rfl rfl rfl rfl ?_ ?_ ?_ ?_; rfl; (focus (simp [Value.oneCell']; done)); rfl; clear hS; intro w hS; try simp only [putW]) | (refine storeN hS rfl rfl rfl rfl ?_ ?_ ?_ ?_; rfl; (focus (simp [Value.oneCell']; done)); (focus (simp; done)); clear hS; intro w hS; simp at hS; try simp only [putW]) | (refine alloc hS rfl rfl ?_; clear hS; intro mb w hS; simp only [putW]) | (refine box1 hS rfl rfl rfl rfl ?_; clear hS; intro mb w hS; try simp only [evW, putW] at hS; simp only [putW]) | (refine boxN hS rfl rfl rfl ?_; clear hS; intro mb w hS; simp only [putW]))
        go_ret
        exact ⟨by rw [HR2.out]; rfl, HEnd hS.conv⟩
      | false =>
        have HR2 : Bx (holdsP (strip LL) task key = 1) := ⟨HR.out⟩
        clear HR
        go_enter Try.func13, Try.ntmps13
        go_wp2_with (first | (refine lookup2 (enc := encInt) (ve := ltV) (b := lm) hS rfl rfl key rfl rfl lt0 rfl ?_; rw [Hg.out.1, Hg.out.2]; simp only [putW, ltV, Option.map_some]) | (refine lookup2 (enc := encInt) (ve := uV) (b := hb) hS rfl rfl task rfl rfl () rfl ?_; rw [HI.out]; simp only [putW, uV]) | (refine alloc (t := 53) hS rfl rfl ?_; clear hS; intro m9 w hS; simp only [putW]) | (refine load1 hS rfl rfl rfl rfl ?_; simp only [putW]) | (refine loadAll hS rfl rfl rfl ?_ ?_; rfl; simp only [putW]) | (refine loadPart hS rfl rfl rfl ?_ rfl ?_; rfl; simp only [putW]) | (refine store1 hS rfl rfl rfl rfl rfl ?_ ?_; (focus (simp; done)); clear hS; intro w hS; simp only [evW, putW] at hS; try simp only [putW]) | (refine storeAll hS rfl rfl rfl rfl ?_ ?_ ?_ ?_; rfl; (focus (simp [Value.oneCell']; done)); rfl; clear hS; intro w hS; try simp only [putW]) | (refine storeN hS rfl rfl rfl rfl ?_ ?_ ?_ ?_; rfl; (focus (simp [Value.oneCell']; done)); (focus (simp; done)); clear hS; intro w hS; simp at hS; try simp only [putW]) | (refine alloc hS rfl rfl ?_; clear hS; intro mb w hS; simp only [putW]) | (refine box1 hS rfl rfl rfl rfl ?_; clear hS; intro mb w hS; try simp only [evW, putW] at hS; simp only [putW]) | (refine boxN hS rfl rfl rfl ?_; clear hS; intro mb w hS; simp only [putW]))
        go_ret
        exact ⟨by rw [HR2.out]; rfl, HEnd hS.conv⟩
end
end Go.Proofs.Ytojdkioimklhmaa
