/-
  thimbleref14: Ask, Free.
-/
import Derived.Test.YtojdkioimklhmaaLaRefC
set_option linter.unusedSimpArgs false
set_option linter.unusedVariables false
namespace Go.Proofs.Ytojdkioimklhmaa
open Go.RowKit Go.Proofs.Ytojdkioimklhmaa.Sl

section
variable {w0 w : World} {K F S : List Chunk} {x : Nat} {X Y : XR} {vh vq v : Value} {task key : Int} {al : Bool}
theorem cellSl {α : Type} {w0 w : World} {S : List Chunk} {v : Value} {b n : Nat} {f : α → List Value} {l : List α} {t : TypeId} (h : Sat w0 ((b, sl n f l t v) :: S) w) : v.oneCell' = true := by
  rcases h.slCases with ⟨rfl, _, _⟩ | ⟨cap, rfl, _⟩ <;> rfl
set_option maxRecDepth 100000 in
set_option maxHeartbeats 4000000 in
theorem refFree_any (hz : X.has.length + X.queue.length ≤ 900) (hS : Sat w0 ((x, XtC X) :: K) w) : Calls Try.prog 16 #[.pointer (some ⟨x, 0, none⟩), .int .i64 task] w fun e w' => ∃ v out X', e = .returned v ∧ Bx (Steps ⟨woW X.has task, woW X.queue task⟩ out X' ∧ FinX X') ∧ Sat w0 ((blk v, sl 1 i64 (sortI out) 3 v) :: (x, XtC X') :: K) w' := by
  have hz1 : X.has.length ≤ 1000 := by omega
  have hz2 : X.queue.length ≤ 1000 := by omega
  have hz3 : (woW X.has task).length + (woW X.queue task).length ≤ 900 := by
    have h1 : (woW X.has task).length ≤ X.has.length := List.length_filter_le _ _
    have h2 : (woW X.queue task).length ≤ X.queue.length := List.length_filter_le _ _
    omega
  have HZ : Bx (X.has.length ≤ 1000 ∧ X.queue.length ≤ 1000 ∧ (woW X.has task).length + (woW X.queue task).length ≤ 900) := ⟨hz1, hz2, hz3⟩
  clear hz hz1 hz2 hz3
  obtain ⟨vh, vq, h⟩ := xtOpen hS
  clear hS
  have hS := h
  clear h
  have h3 := hS.conv (S' := (blk vh, sl 3 waF X.has 69 vh) :: [])
  obtain ⟨hn, hhn⟩ : ∃ n, X.has.length = n := ⟨_, rfl⟩
  obtain ⟨qh, ch, hvh⟩ := shapeN h3 hhn
  have h2 := hS.conv (S' := (blk vq, sl 3 waF X.queue 69 vq) :: [])
  obtain ⟨qn, hqn⟩ : ∃ n, X.queue.length = n := ⟨_, rfl⟩
  obtain ⟨qq, cq, hvq⟩ := shapeN h2 hqn
  subst hvh
  subst hvq
  clear h2 h3 hhn hqn
  go_enter Try.func16, Try.ntmps16
  go_wp2_with (first | (guard_target =~ Calls _ 25 _ _ _; refine Stopped.out ?_) | (refine load1 hS rfl rfl rfl rfl ?_; simp only [putW]) | (refine loadAll hS rfl rfl rfl ?_ ?_; rfl; simp only [putW]) | (refine loadPart hS rfl rfl rfl ?_ rfl ?_; rfl; simp only [putW]) | (refine store1 hS rfl rfl rfl rfl rfl ?_ ?_; (focus (simp; done)); clear hS; intro w hS; simp only [evW, putW] at hS; try simp only [putW]) | (refine storeAll hS rfl rfl rfl rfl ?_ ?_ ?_ ?_; rfl; (focus (simp [Value.oneCell']; done)); rfl; clear hS; intro w hS; try simp only [putW]) | (refine storeN hS rfl rfl rfl rfl ?_ ?_ ?_ ?_; rfl; (focus (simp [Value.oneCell']; done)); (focus (simp; done)); clear hS; intro w hS; simp at hS; try simp only [putW]) | (refine alloc hS rfl rfl ?_; clear hS; intro mb w hS; simp only [putW]) | (refine box1 hS rfl rfl rfl rfl ?_; clear hS; intro mb w hS; try simp only [evW, putW] at hS; simp only [putW]) | (refine boxN hS rfl rfl rfl ?_; clear hS; intro mb w hS; simp only [putW]))
  refine ⟨?_⟩
  refine Calls.mono (refWithout0 (task := task) HZ.out.1 (readsX hS).h) ?_
  rintro _ w2 ⟨v1, rfl, h2⟩
  replace hS := hS.frame h2
  clear h2
  simp only [List.cons_append, List.nil_append] at hS
  have hv1 := cellSl hS
  obtain ⟨n1, hn1⟩ : ∃ n, (woW X.has task).length = n := ⟨_, rfl⟩
  obtain ⟨q1, c1, hs1⟩ := shapeN hS hn1
  subst hs1
  clear hn1 hv1
  simp only [putW]
  go_wp2_with (first | (refine store1 (v := .slice q1 n1 c1) (b := x) (c := #[.slice qh hn ch, .slice qq qn cq]) hS rfl rfl rfl rfl rfl (by simp) ?_; clear hS; intro w hS; rw [show (#[.slice qh hn ch, .slice qq qn cq] : Array Value).setIfInBounds 0 (.slice q1 n1 c1) = #[.slice q1 n1 c1, .slice qq qn cq] from rfl] at hS; simp only [putW]) | (guard_target =~ Calls _ 25 _ _ _; refine Stopped.out ?_) | (refine load1 hS rfl rfl rfl rfl ?_; simp only [putW]) | (refine loadAll hS rfl rfl rfl ?_ ?_; rfl; simp only [putW]) | (refine loadPart hS rfl rfl rfl ?_ rfl ?_; rfl; simp only [putW]) | (refine store1 hS rfl rfl rfl rfl rfl ?_ ?_; (focus (simp; done)); clear hS; intro w hS; simp only [evW, putW] at hS; try simp only [putW]) | (refine storeAll hS rfl rfl rfl rfl ?_ ?_ ?_ ?_; rfl; (focus (simp [Value.oneCell']; done)); rfl; clear hS; intro w hS; try simp only [putW]) | (refine storeN hS rfl rfl rfl rfl ?_ ?_ ?_ ?_; rfl; (focus (simp [Value.oneCell']; done)); (focus (simp; done)); clear hS; intro w hS; simp at hS; try simp only [putW]) | (refine alloc hS rfl rfl ?_; clear hS; intro mb w hS; simp only [putW]) | (refine box1 hS rfl rfl rfl rfl ?_; clear hS; intro mb w hS; try simp only [evW, putW] at hS; simp only [putW]) | (refine boxN hS rfl rfl rfl ?_; clear hS; intro mb w hS; simp only [putW]))
  refine ⟨?_⟩
  have hrq : BSl _ 3 waF (fun _ => True) X.queue (.slice qq qn cq) := hS.readsSl (v := .slice qq qn cq) (L := X.queue) (n := 3) (f := waF) (t := 69) fun _ _ => trivial
  refine Calls.mono (refWithout0 (task := task) HZ.out.2.1 hrq) ?_
  clear hrq
  rintro _ w2 ⟨v2, rfl, h2⟩
  replace hS := hS.frame h2
  clear h2
  simp only [List.cons_append, List.nil_append] at hS
  obtain ⟨n2, hn2⟩ : ∃ n, (woW X.queue task).length = n := ⟨_, rfl⟩
  obtain ⟨q2, c2, hs2⟩ := shapeN hS hn2
  subst hs2
  clear hn2
  simp only [putW]
  go_wp2_with (first | (refine store1 (v := .slice q2 n2 c2) (b := x) (c := #[.slice q1 n1 c1, .slice qq qn cq]) hS rfl rfl rfl rfl rfl (by simp) ?_; clear hS; intro w hS; rw [show (#[.slice q1 n1 c1, .slice qq qn cq] : Array Value).setIfInBounds 1 (.slice q2 n2 c2) = #[.slice q1 n1 c1, .slice q2 n2 c2] from rfl] at hS; simp only [putW]) | (guard_target =~ Calls _ 26 _ _ _; refine Stopped.out ?_) | (refine load1 hS rfl rfl rfl rfl ?_; simp only [putW]) | (refine loadAll hS rfl rfl rfl ?_ ?_; rfl; simp only [putW]) | (refine loadPart hS rfl rfl rfl ?_ rfl ?_; rfl; simp only [putW]) | (refine store1 hS rfl rfl rfl rfl rfl ?_ ?_; (focus (simp; done)); clear hS; intro w hS; simp only [evW, putW] at hS; try simp only [putW]) | (refine storeAll hS rfl rfl rfl rfl ?_ ?_ ?_ ?_; rfl; (focus (simp [Value.oneCell']; done)); rfl; clear hS; intro w hS; try simp only [putW]) | (refine storeN hS rfl rfl rfl rfl ?_ ?_ ?_ ?_; rfl; (focus (simp [Value.oneCell']; done)); (focus (simp; done)); clear hS; intro w hS; simp at hS; try simp only [putW]) | (refine alloc hS rfl rfl ?_; clear hS; intro mb w hS; simp only [putW]) | (refine box1 hS rfl rfl rfl rfl ?_; clear hS; intro mb w hS; try simp only [evW, putW] at hS; simp only [putW]) | (refine boxN hS rfl rfl rfl ?_; clear hS; intro mb w hS; simp only [putW]))
  refine ⟨?_⟩
  have h6 : Sat w0 ((x, cells #[.slice q1 n1 c1, .slice q2 n2 c2] 42) :: (blk (.slice q1 n1 c1), sl 3 waF (woW X.has task) 69 (.slice q1 n1 c1)) :: (blk (.slice q2 n2 c2), sl 3 waF (woW X.queue task) 69 (.slice q2 n2 c2)) :: K) _ := hS.conv
  refine Calls.mono (refSettle_any HZ.out.2.2 (xtShut (X := ⟨woW X.has task, woW X.queue task⟩) h6)) ?_
  clear hS h6
  rintro _ w ⟨v, out, X', rfl, HT, hS⟩
  simp only [putW]
  go_wp2_with (first | (refine load1 hS rfl rfl rfl rfl ?_; simp only [putW]) | (refine loadAll hS rfl rfl rfl ?_ ?_; rfl; simp only [putW]) | (refine loadPart hS rfl rfl rfl ?_ rfl ?_; rfl; simp only [putW]) | (refine store1 hS rfl rfl rfl rfl rfl ?_ ?_; (focus (simp; done)); clear hS; intro w hS; simp only [evW, putW] at hS; try simp only [putW]) | (refine storeAll hS rfl rfl rfl rfl ?_ ?_ ?_ ?_; rfl; (focus (simp [Value.oneCell']; done)); rfl; clear hS; intro w hS; try simp only [putW]) | (refine storeN hS rfl rfl rfl rfl ?_ ?_ ?_ ?_; rfl; (focus (simp [Value.oneCell']; done)); (focus (simp; done)); clear hS; intro w hS; simp at hS; try simp only [putW]) | (refine alloc hS rfl rfl ?_; clear hS; intro mb w hS; simp only [putW]) | (refine box1 hS rfl rfl rfl rfl ?_; clear hS; intro mb w hS; try simp only [evW, putW] at hS; simp only [putW]) | (refine boxN hS rfl rfl rfl ?_; clear hS; intro mb w hS; simp only [putW]))
  go_ret
  exact ⟨v, out, X', rfl, HT, hS⟩
set_option maxRecDepth 100000 in
set_option maxHeartbeats 4000000 in
theorem refAsk_busy (hb : (waitsX X.queue task).isSome = true ∨ 0 < holdsX X.has task key) (hS : Sat w0 ((x, XtC X) :: K) w) : Calls Try.prog 17 #[.pointer (some ⟨x, 0, none⟩), .int .i64 task, .int .i64 key, .bool al] w fun e w' => e = .returned (.tuple #[.bool false, .int .i64 6]) ∧ Sat w0 ((x, XtC X) :: K) w' := by
  obtain ⟨d, hd⟩ : ∃ d, (waitsX X.queue task).getD 0 = d := ⟨_, rfl⟩
  obtain ⟨b, hbs⟩ : ∃ b, (waitsX X.queue task).isSome = b := ⟨_, rfl⟩
  obtain ⟨h, hh⟩ : ∃ h, holdsX X.has task key = h := ⟨_, rfl⟩
  have HD : Bx _ := ⟨hd⟩
  have HB : Bx _ := ⟨hbs⟩
  have HH : Bx _ := ⟨hh⟩
  rw [hbs, hh] at hb
  clear hd hbs hh
  cases b with
  | true =>
    clear hb
    go_enter Try.func17, Try.ntmps17
    go_wp2_with (first | (go_at_call 19; refine Calls.mono (refWaits_any (K := K) hS) ?_; rw [HD.out, HB.out]; clear hS; rintro _ w ⟨rfl, hS⟩; simp only [putW]) | (refine load1 hS rfl rfl rfl rfl ?_; simp only [putW]) | (refine loadAll hS rfl rfl rfl ?_ ?_; rfl; simp only [putW]) | (refine loadPart hS rfl rfl rfl ?_ rfl ?_; rfl; simp only [putW]) | (refine store1 hS rfl rfl rfl rfl rfl ?_ ?_; (focus (simp; done)); clear hS; intro w hS; simp only [evW, putW] at hS; try simp only [putW]) | (refine storeAll hS rfl rfl rfl rfl ?_ ?_ ?_ ?_; rfl; (focus (simp [Value.oneCell']; done)); rfl; clear hS; intro w hS; try simp only [putW]) | (refine storeN hS rfl rfl rfl rfl ?_ ?_ ?_ ?_; rfl; (focus (simp [Value.oneCell']; done)); (focus (simp; done)); clear hS; intro w hS; simp at hS; try simp only [putW]) | (refine alloc hS rfl rfl ?_; clear hS; intro mb w hS; simp only [putW]) | (refine box1 hS rfl rfl rfl rfl ?_; clear hS; intro mb w hS; try simp only [evW, putW] at hS; simp only [putW]) | (refine boxN hS rfl rfl rfl ?_; clear hS; intro mb w hS; simp only [putW]))
    refine bodyPost_ret (v := .tuple #[.bool false, .int .i64 6]) (by simp [results, Try.results17]) rfl ⟨rfl, hS⟩
  | false =>
    have dh : decide (0 < h) = true := decide_eq_true (by simpa using hb)
    clear hb
    go_enter Try.func17, Try.ntmps17
    go_wp2_with (first | (go_at_call 19; refine Calls.mono (refWaits_any (K := K) hS) ?_; rw [HD.out, HB.out]; clear hS; rintro _ w ⟨rfl, hS⟩; simp only [putW]) | (go_at_call 20; refine Calls.mono (refHolds_any (K := K) hS) ?_; rw [HH.out]; clear hS; rintro _ w ⟨rfl, hS⟩; simp only [putW]) | (refine load1 hS rfl rfl rfl rfl ?_; simp only [putW]) | (refine loadAll hS rfl rfl rfl ?_ ?_; rfl; simp only [putW]) | (refine loadPart hS rfl rfl rfl ?_ rfl ?_; rfl; simp only [putW]) | (refine store1 hS rfl rfl rfl rfl rfl ?_ ?_; (focus (simp; done)); clear hS; intro w hS; simp only [evW, putW] at hS; try simp only [putW]) | (refine storeAll hS rfl rfl rfl rfl ?_ ?_ ?_ ?_; rfl; (focus (simp [Value.oneCell']; done)); rfl; clear hS; intro w hS; try simp only [putW]) | (refine storeN hS rfl rfl rfl rfl ?_ ?_ ?_ ?_; rfl; (focus (simp [Value.oneCell']; done)); (focus (simp; done)); clear hS; intro w hS; simp at hS; try simp only [putW]) | (refine alloc hS rfl rfl ?_; clear hS; intro mb w hS; simp only [putW]) | (refine box1 hS rfl rfl rfl rfl ?_; clear hS; intro mb w hS; try simp only [evW, putW] at hS; simp only [putW]) | (refine boxN hS rfl rfl rfl ?_; clear hS; intro mb w hS; simp only [putW]))
    refine bodyPost_ret (v := .tuple #[.bool false, .int .i64 6]) (by simp [results, Try.results17]) rfl ⟨rfl, hS⟩
set_option maxRecDepth 100000 in
set_option maxHeartbeats 4000000 in
theorem refAsk_any (hw : (waitsX X.queue task).isSome = false) (hho : ¬ 0 < holdsX X.has task key) (hz : X.has.length + X.queue.length + 1 ≤ 900) (hS : Sat w0 ((x, XtC X) :: K) w) : Calls Try.prog 17 #[.pointer (some ⟨x, 0, none⟩), .int .i64 task, .int .i64 key, .bool al] w fun e w' => ∃ out X', e = .returned (.tuple #[.bool (decide (0 < holdsX X'.has task key)), .int .i64 0]) ∧ Bx (Steps ⟨X.has, X.queue ++ [(task, key, al)]⟩ out X' ∧ FinX X') ∧ Sat w0 ((x, XtC X') :: K) w' := by
  obtain ⟨d, hd⟩ : ∃ d, (waitsX X.queue task).getD 0 = d := ⟨_, rfl⟩
  obtain ⟨h, hh⟩ : ∃ h, holdsX X.has task key = h := ⟨_, rfl⟩
  have HD : Bx _ := ⟨hd⟩
  have HB : Bx _ := ⟨hw⟩
  have HH : Bx _ := ⟨hh⟩
  have dh : decide (0 < h) = false := decide_eq_false (by rw [← hh]; exact hho)
  have HZ : Bx _ := ⟨hz⟩
  clear hd hw hh hho hz
  go_enter Try.func17, Try.ntmps17
  go_upto_region 4 with (first | (go_at_call 19; refine Calls.mono (refWaits_any (K := K) hS) ?_; rw [HD.out, HB.out]; clear hS; rintro _ w ⟨rfl, hS⟩; simp only [putW]) | (go_at_call 20; refine Calls.mono (refHolds_any (K := K) hS) ?_; rw [HH.out]; clear hS; rintro _ w ⟨rfl, hS⟩; simp only [putW]) | (refine load1 hS rfl rfl rfl rfl ?_; simp only [putW]) | (refine loadAll hS rfl rfl rfl ?_ ?_; rfl; simp only [putW]) | (refine loadPart hS rfl rfl rfl ?_ rfl ?_; rfl; simp only [putW]) | (refine store1 hS rfl rfl rfl rfl rfl ?_ ?_; (focus (simp; done)); clear hS; intro w hS; simp only [evW, putW] at hS; try simp only [putW]) | (refine storeAll hS rfl rfl rfl rfl ?_ ?_ ?_ ?_; rfl; (focus (simp [Value.oneCell']; done)); rfl; clear hS; intro w hS; try simp only [putW]) | (refine storeN hS rfl rfl rfl rfl ?_ ?_ ?_ ?_; rfl; (focus (simp [Value.oneCell']; done)); (focus (simp; done)); clear hS; intro w hS; simp at hS; try simp only [putW]) | (refine alloc hS rfl rfl ?_; clear hS; intro mb w hS; simp only [putW]) | (refine box1 hS rfl rfl rfl rfl ?_; clear hS; intro mb w hS; try simp only [evW, putW] at hS; simp only [putW]) | (refine boxN hS rfl rfl rfl ?_; clear hS; intro mb w hS; simp only [putW]))
  obtain ⟨vh, vq, h1⟩ := xtOpen hS
  clear hS
  have hS := h1
  clear h1
  have h3 := hS.conv (S' := (blk vh, sl 3 waF X.has 69 vh) :: [])
  obtain ⟨hn, hhn⟩ : ∃ n, X.has.length = n := ⟨_, rfl⟩
  obtain ⟨qh, ch, hvh⟩ := shapeN h3 hhn
  have h2 := hS.conv (S' := (blk vq, sl 3 waF X.queue 69 vq) :: [])
  obtain ⟨qn, hqn⟩ : ∃ n, X.queue.length = n := ⟨_, rfl⟩
  obtain ⟨qq, cq, hvq⟩ := shapeN h2 hqn
  subst hvh
  subst hvq
  have HQN : Bx _ := ⟨hqn⟩
  have hq9 : qn ≤ 900 := by have := HZ.out; omega
  clear h2 h3 hhn hqn
  go_wp2_with (first | (refine buildSlice1 (c := #[.int .i64 task, .int .i64 key, .bool al]) hS rfl rfl rfl ?_ ?_ ?_ ?_; rfl; rfl; rfl; clear hS; intro mb w hS; simp only [putW]) | (refine append1 (f := waF) hS rfl rfl (.slice qq qn cq) rfl rfl (task, key, al) ?_ ?_ ?_ ?_ ?_ ?_; rfl; (focus (simp [waF, Value.oneCell']; done)); rfl; (focus (have := HQN.out; simp [maxLen]; omega)); (focus (have := HQN.out; omega)); clear hS; intro v' w hS; obtain ⟨q6, c6, hv6⟩ := shapeN (m := qn + 1) hS (by have := HQN.out; simp; omega); subst hv6; simp only [putW]) | (refine store1 (v := .slice q6 (qn + 1) c6) (b := x) (c := #[.slice qh hn ch, .slice qq qn cq]) hS rfl rfl rfl rfl rfl (by simp) ?_; clear hS; intro w hS; rw [show (#[.slice qh hn ch, .slice qq qn cq] : Array Value).setIfInBounds 1 (.slice q6 (qn + 1) c6) = #[.slice qh hn ch, .slice q6 (qn + 1) c6] from rfl] at hS; simp only [putW]) | (guard_target =~ Calls _ 26 _ _ _; refine Stopped.out ?_) | (refine load1 hS rfl rfl rfl rfl ?_; simp only [putW]) | (refine loadAll hS rfl rfl rfl ?_ ?_; rfl; simp only [putW]) | (refine loadPart hS rfl rfl rfl ?_ rfl ?_; rfl; simp only [putW]) | (refine store1 hS rfl rfl rfl rfl rfl ?_ ?_; (focus (simp; done)); clear hS; intro w hS; simp only [evW, putW] at hS; try simp only [putW]) | (refine storeAll hS rfl rfl rfl rfl ?_ ?_ ?_ ?_; rfl; (focus (simp [Value.oneCell']; done)); rfl; clear hS; intro w hS; try simp only [putW]) | (refine storeN hS rfl rfl rfl rfl ?_ ?_ ?_ ?_; rfl; (focus (simp [Value.oneCell']; done)); (focus (simp; done)); clear hS; intro w hS; simp at hS; try simp only [putW]) | (refine alloc hS rfl rfl ?_; clear hS; intro mb w hS; simp only [putW]) | (refine box1 hS rfl rfl rfl rfl ?_; clear hS; intro mb w hS; try simp only [evW, putW] at hS; simp only [putW]) | (refine boxN hS rfl rfl rfl ?_; clear hS; intro mb w hS; simp only [putW]))
  refine ⟨?_⟩
  have h6 : Sat w0 ((x, cells #[.slice qh hn ch, .slice q6 (qn + 1) c6] 42) :: (blk (.slice qh hn ch), sl 3 waF X.has 69 (.slice qh hn ch)) :: (blk (.slice q6 (qn + 1) c6), sl 3 waF (X.queue ++ [(task, key, al)]) 69 (.slice q6 (qn + 1) c6)) :: K) _ := hS.conv
  refine Calls.mono (refSettle_any (X := ⟨X.has, X.queue ++ [(task, key, al)]⟩) (by have := HZ.out; simp; omega) (xtShut h6)) ?_
  clear hS h6
  rintro _ w ⟨v, out, X', rfl, HT, hS0⟩
  have hS := hS0.tail
  clear hS0
  simp only [putW]
  obtain ⟨h', hh'⟩ : ∃ h, holdsX X'.has task key = h := ⟨_, rfl⟩
  have HH' : Bx _ := ⟨hh'⟩
  clear hh'
  go_wp2_with (first | (go_at_call 20; refine Calls.mono (refHolds_any (K := K) hS) ?_; rw [HH'.out]; clear hS; rintro _ w ⟨rfl, hS⟩; simp only [putW]) | (refine load1 hS rfl rfl rfl rfl ?_; simp only [putW]) | (refine loadAll hS rfl rfl rfl ?_ ?_; rfl; simp only [putW]) | (refine loadPart hS rfl rfl rfl ?_ rfl ?_; rfl; simp only [putW]) | (refine store1 hS rfl rfl rfl rfl rfl ?_ ?_; (focus (simp; done)); clear hS; intro w hS; simp only [evW, putW] at hS; try simp only [putW]) | (refine storeAll hS rfl rfl rfl rfl ?_ ?_ ?_ ?_; rfl; (focus (simp [Value.oneCell']; done)); rfl; clear hS; intro w hS; try simp only [putW]) | (refine storeN hS rfl rfl rfl rfl ?_ ?_ ?_ ?_; rfl; (focus (simp [Value.oneCell']; done)); (focus (simp; done)); clear hS; intro w hS; simp at hS; try simp only [putW]) | (refine alloc hS rfl rfl ?_; clear hS; intro mb w hS; simp only [putW]) | (refine box1 hS rfl rfl rfl rfl ?_; clear hS; intro mb w hS; try simp only [evW, putW] at hS; simp only [putW]) | (refine boxN hS rfl rfl rfl ?_; clear hS; intro mb w hS; simp only [putW]))
  refine bodyPost_ret (v := .tuple #[.bool (decide (0 < h')), .int .i64 0]) (by simp [results, Try.results17]) rfl ⟨out, X', by rw [HH'.out], HT, hS⟩
end
end Go.Proofs.Ytojdkioimklhmaa
