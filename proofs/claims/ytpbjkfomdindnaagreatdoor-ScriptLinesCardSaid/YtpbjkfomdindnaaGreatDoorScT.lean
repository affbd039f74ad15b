/-
  script.safely and its deferred closure; Parse.
-/
import Derived.Test.YtpbjkfomdindnaaGreatDoorScS
import Derived.Defers
import Derived.Recover
set_option linter.unusedSimpArgs false
set_option linter.unusedVariables false
namespace Go.Proofs.YtpbjkfomdindnaaGreatDoor
open Go.RowKit Go.Shelf Go.Proofs.YtpbjkfomdindnaaGreatDoor.Sl Go.Proofs.YtpbjkfomdindnaaGreatDoor.Jp Go.Proofs.YtpbjkfomdindnaaGreatDoor.Sc

theorem plus1 (n : Nat) : ((n : Int) + 1 == 0) = false := by
  have : (n : Int) + 1 ≠ 0 := by omega
  simp [this]
section
variable {w0 w : World} {S F K : List Chunk} {W : List Bs} {fb sb : Nat}
set_option maxHeartbeats 1000000 in
/-- The deferred closure: nothing was given up. -/
theorem catch_idle (p : Addr) (w : World) : CallsD Tryz.prog 47 #[.pointer (some p)] .returning w fun e u' w' => e = .returned (.tuple #[]) ∧ u' = .returning ∧ w' = w := by
  refine callsD_of_wpS Tryz.func47 rfl fun c₀ cs hu => ?_
  apply wpS_seq
  apply wpS_region
  simp [wpOpsS, go_sem, recoverD, hu, Tryz.ntmps47, Exit.thenS]
  refine wpS_of_wp (wp_mono (Q := fun e a' w' => e = .normal ∧ a'.defers = [] ∧ w' = w) ?_ ?_)
  rotate_left
  · rintro e a' w' ⟨rfl, ha, rfl⟩
    cases c₀
    simp_all [bodyPostS, results, Tryz.results47]
  simp only [Array.replicate_succ, Array.replicate_zero, List.push_toArray, List.append_toArray, List.nil_append, List.cons_append, putW]
  go_wp2_with (refine load1 hS rfl rfl rfl rfl ?_; simp only [putW])
set_option maxHeartbeats 1000000 in
/-- .. what was given up is kept. -/
theorem catch_stop {q : Nat} {v : Value} (w : World) (hS : Sat w0 ((q, cells #[v] 30) :: K) w) :
    CallsD Tryz.prog 47 #[.pointer (some ⟨q, 0, none⟩)] (.panicking ({ v := .iface 85 (.agg #[]), recovered := false } :: [])) w fun e u' w' => e = .returned (.tuple #[]) ∧ u' = .panicking ({ v := .iface 85 (.agg #[]), recovered := true } :: []) ∧
      Sat w0 ((q, cells #[.int .i64 3] 30) :: K) w' := by
  refine callsD_of_wpS Tryz.func47 rfl fun c₀ cs hu => ?_
  apply wpS_seq
  apply wpS_region
  simp [wpOpsS, go_sem, recoverD, hu, Tryz.ntmps47, Exit.thenS]
  refine wpS_of_wp (wp_mono (Q := fun e a' w' => e = .normal ∧ a'.defers = [] ∧ Sat w0 ((q, cells #[.int .i64 3] 30) :: K) w') ?_ ?_)
  rotate_left
  · rintro e a' w' ⟨rfl, ha, hS⟩
    cases c₀
    simp_all [bodyPostS, results, Tryz.results47]
  simp only [Array.replicate_succ, Array.replicate_zero, List.push_toArray, List.append_toArray, List.nil_append, List.cons_append, putW]
  have hta : ∀ w : World, (Instr.typeAssert (.iface 85 (.agg #[])) 20 85 true).run Tryz.prog w = .ok (.tuple #[.agg #[], .bool true]) w := fun _ => by kernel_rfl
  go_wp2_with (first | (refine store1 (b := q) (v := .int .i64 3) hS rfl rfl rfl rfl rfl ?_ ?_; (focus (simp)); clear hS; intro w hS; try simp only [putW]) | (refine storeAll hS rfl rfl rfl rfl ?_ ?_ ?_ ?_; rfl; (focus (simp [Value.oneCell']; done)); rfl; clear hS; intro w hS; try simp only [putW]) | (refine alloc hS rfl rfl ?_; clear hS; intro mb w hS; simp only [putW]))
  replace hS : Sat w0 ((q, cells #[.int .i64 3] 30) :: (mb, cells #[] 85) :: K) w := hS
  exact hS.conv
set_option maxRecDepth 100000 in
set_option maxHeartbeats 1000000 in
theorem parse1_any {pf : Nat} (hK : KV w0) (hS : Sat w0 ((pf, cells #[.pointer (some ⟨fb, 0, none⟩)] 51) :: (fb, frm W) :: (sb, cells (stC st0 nilV nilV nilV) 29) :: K) w) :
    Calls Tryz.prog 23 #[.pointer (some ⟨pf, 0, none⟩), .pointer (some ⟨sb, 0, none⟩)] w fun e w' =>
      (∃ s vo vd vf, stepP W = some (s, []) ∧ e = .returned (.tuple #[]) ∧ Sat w0 ((sb, cells (stC s vo vd vf) 29) :: stL s vo vd vf ++ K) w') ∨ ((∀ s, stepP W ≠ some (s, [])) ∧ e = .panicked badP ∧ Sat w0 K w') := by
  have HK : Bx _ := ⟨hK⟩
  clear hK
  go_enter Tryz.func23, Tryz.ntmps23
  go_wp2_with (first | (guard_target =~ Calls _ 24 _ _ _; refine Stopped.out ?_) | (refine load1 hS rfl rfl rfl rfl ?_; simp only [putW]))
  refine ⟨?_⟩
  refine Calls.mono (step_parse (fb := fb) (W := W) (sb := sb) (K := (pf, cells #[.pointer (some ⟨fb, 0, none⟩)] 51) :: K) HK.out hS.conv) ?_
  clear hS
  rintro _ w (⟨s, W', vo, vd, vf, hs, rfl, hS⟩ | ⟨hs, rfl, hS⟩)
  · simp only [putW]
    simp only [stL, List.cons_append, List.nil_append] at hS
    cases W' with
    | nil =>
      have HN : Bx (stepP W = some (s, [])) := ⟨hs⟩
      clear hs
      go_wp2_with (first | (refine loadWords [] hS rfl rfl rfl ?_; intro q0 c0; simp only [putW]) | (go_at_call 25; refine Calls.mono (want_ok rfl) ?_; rintro _ w2 ⟨rfl, h2⟩; replace hS := hS.frame h2; clear h2; (try simp only [List.cons_append, List.nil_append] at hS); simp only [putW]) | (refine load1 hS rfl rfl rfl rfl ?_; simp only [putW]))
      go_end0
      exact .inl ⟨s, vo, vd, vf, HN.out, rfl, hS.conv⟩
    | cons x W' =>
      have HN : Bx (∀ s, stepP W ≠ some (s, [])) := ⟨fun s h => by rw [hs] at h; cases h⟩
      clear hs
      go_wp2_with (first | (refine loadWords (x :: W') hS rfl rfl rfl ?_; intro q0 c0; simp only [putW]) | (go_at_call 25; refine Calls.mono (want_no (plus1 _)) ?_; rintro _ w2 ⟨rfl, h2⟩; replace hS := hS.frame h2; clear h2; (try simp only [List.cons_append, List.nil_append] at hS); simp only [putW]) | (refine load1 hS rfl rfl rfl rfl ?_; simp only [putW]))
      exact ⟨rfl, .inr ⟨HN.out, rfl, hS.conv⟩⟩
  · exact ⟨rfl, .inr ⟨fun s h => (by rw [hs] at h; cases h), rfl, hS.tail⟩⟩
set_option maxRecDepth 100000 in
set_option maxHeartbeats 1000000 in
theorem safelyP_any {pf : Nat} (hK : KV w0) (hS : Sat w0 ((pf, cells #[.pointer (some ⟨fb, 0, none⟩)] 51) :: (fb, frm W) :: (sb, cells (stC st0 nilV nilV nilV) 29) :: K) w) :
    Calls Tryz.prog 22 #[.func (.func 23) #[] #[.pointer (some ⟨pf, 0, none⟩), .pointer (some ⟨sb, 0, none⟩)]] w fun e w' =>
      (∃ s vo vd vf, stepP W = some (s, []) ∧ e = .returned (.int .i64 0) ∧ Sat w0 ((sb, cells (stC s vo vd vf) 29) :: stL s vo vd vf ++ K) w') ∨ ((∀ s, stepP W ≠ some (s, [])) ∧ e = .returned (.int .i64 3) ∧ Sat w0 K w') := by
  have hmf : ∀ (fn : Fn) (first cap : Array Value) (w : World), (Instr.makeFunc fn first cap).run Tryz.prog w = .ok (.func fn first cap) w := fun _ _ _ _ => rfl
  have HK : Bx _ := ⟨hK⟩
  clear hK
  go_enter_defers Tryz.func22, Tryz.ntmps22
  go_wp2_with (first | (guard_target =~ Calls _ 23 _ _ _; refine Stopped.out ?_) | (refine alloc hS rfl rfl ?_; clear hS; intro mb w hS; simp only [putW]))
  refine ⟨?_⟩
  refine Calls.mono (parse1_any (fb := fb) (W := W) (K := (mb, cells #[.int .i64 0] 30) :: K) HK.out hS.conv) ?_
  clear hS
  rintro _ w (⟨s, vo, vd, vf, hs, rfl, hS⟩ | ⟨hs, rfl, hS⟩)
  · simp only [putW]
    simp only [stL, List.cons_append, List.nil_append] at hS
    have HN : Bx (stepP W = some (s, [])) := ⟨hs⟩
    clear hs
    go_wp2_with (refine store1 hS rfl rfl rfl rfl rfl ?_ ?_; (focus (simp; done)); clear hS; intro w hS; simp only [evW, putW] at hS; try simp only [putW])
    have hc : w.cell? ⟨mb, 0, none⟩ = some (.int .i64 0) := hS.cell (b := mb) 0
    refine leaves_cons (f := 47) (args := #[.pointer (some ⟨mb, 0, none⟩)]) (by simp) (by simp [go_sem]) ?_
    refine (catch_idle ⟨mb, 0, none⟩ _).mono ?_
    rintro e u' w'' ⟨rfl, rfl, rfl⟩
    simp [Leaves, settle, results, Tryz.results22, go_sem, hc]
    exact ⟨s, HN.out, vo, vd, vf, hS.conv⟩
  · have HN : Bx (∀ s, stepP W ≠ some (s, [])) := ⟨hs⟩
    clear hs
    go_wp2_with (refine load1 hS rfl rfl rfl rfl ?_; simp only [putW])
    refine leaves_cons (f := 47) (args := #[.pointer (some ⟨mb, 0, none⟩)]) (by simp) (by simp [go_sem]) ?_
    refine (catch_stop (q := mb) _ hS).mono ?_
    rintro e u' w'' ⟨rfl, rfl, hS⟩
    have hc : w''.cell? ⟨mb, 0, none⟩ = some (.int .i64 3) := hS.cell (b := mb) 0
    simp [Leaves, settle, results, Tryz.results22, go_sem, hc]
    exact ⟨HN.out, hS.tail⟩
theorem stC_one {s : St} {vo vd vf : Value} (h1 : vo.oneCell' = true) (h2 : vd.oneCell' = true) (h3 : vf.oneCell' = true) : ∀ v ∈ (stC s vo vd vf).toList, v.oneCell' = true := by
  intro v hv
  simp at hv
  rcases hv with rfl | rfl | rfl | rfl | rfl | rfl | rfl | rfl | rfl <;> first | rfl | assumption
theorem parseS_some {l : Bs} {s : St} (h : stepP (splitC 32 l) = some (s, [])) : parseS l = some s := by unfold parseS; rw [h]; rfl
theorem parseS_none {l : Bs} (h : ∀ s, stepP (splitC 32 l) ≠ some (s, [])) : parseS l = none := by
  unfold parseS
  cases hp : stepP (splitC 32 l) with
  | none => rfl
  | some x =>
    obtain ⟨s, W⟩ := x
    have : W ≠ [] := fun e => h s (by rw [hp, e])
    simp [this]
set_option maxRecDepth 100000 in
set_option maxHeartbeats 2000000 in
/-- Parse. -/
theorem parse_any (l : Bs) (hK : KV w0) (hl : l.length ≤ 900000) :
    Calls Tryz.prog 10 #[str l] w0 fun e w' => (∃ s vo vd vf, parseS l = some s ∧ e = .returned (.tuple #[.agg (stC s vo vd vf), .int .i64 0]) ∧ Sat w0 (stL s vo vd vf) w') ∨
      (parseS l = none ∧ e = .returned (.tuple #[.agg (stC st0 nilV nilV nilV), .int .i64 3]) ∧ Sat w0 [] w') := by
  have hS := Sat.refl w0
  have HK : Bx _ := ⟨hK⟩
  clear hK
  have hmf : ∀ (fn : Fn) (first cap : Array Value) (w : World), (Instr.makeFunc fn first cap).run Tryz.prog w = .ok (.func fn first cap) w := fun _ _ _ _ => rfl
  have hokW : Bx (okW (splitC 32 l)) := ⟨by
    refine ⟨?_, fun w hw => by have := splitC_len hw; omega⟩
    rw [splitC_count]; have := List.count_le_length (a := (32 : UInt8)) (l := l); omega⟩
  go_enter Tryz.func10, Tryz.ntmps10
  go_wp2_with (first | (go_at_call 21; refine Calls.mono (split_any 32 l (HK.out.mono hS.base) (by omega)) ?_; rintro _ w2 ⟨g, rfl, h2⟩; replace hS := hS.frame h2; clear h2; (try simp only [List.cons_append, List.nil_append] at hS); simp only [putW]) | (guard_target =~ wpList _ _ _ (Oper.mk (some 2) _ _ _ _ _ :: _) _ _; refine alloc hS rfl rfl ?_; clear hS; intro rb w hS; simp only [putW]) | (guard_target =~ wpList _ _ _ (Oper.mk (some 4) _ _ _ _ _ :: _) _ _; refine alloc hS rfl rfl ?_; clear hS; intro sb w hS; simp only [putW]) | (guard_target =~ wpList _ _ _ (Oper.mk (some 5) _ _ _ _ _ :: _) _ _; refine alloc hS rfl rfl ?_; clear hS; intro pf w hS; simp only [putW]) | (guard_target =~ wpList _ _ _ (Oper.mk (some 10) _ _ _ _ _ :: _) _ _; refine boxN hS rfl rfl rfl ?_; clear hS; intro fb w hS; simp only [putW]) | (guard_target =~ Calls _ 22 _ _ _; refine Stopped.out ?_) | (refine store1 hS rfl rfl rfl rfl rfl ?_ ?_; (focus (simp; done)); clear hS; intro w hS; simp only [evW, putW] at hS; try simp only [putW]))
  refine ⟨?_⟩
  have hS2 : Sat w0 ((pf, cells #[.pointer (some ⟨fb, 0, none⟩)] 51) :: (fb, cells #[.bool false, .slice (some ⟨g, 0, none⟩) (splitC 32 l).length (splitC 32 l).length] 55) :: (g, slc 1 strF (splitC 32 l) (splitC 32 l).length 9) :: (sb, cells (stC st0 nilV nilV nilV) 29) :: (rb, cells (stC st0 nilV nilV nilV) 29) :: []) w := hS
  clear hS
  have hS3 := frm_new (fb := fb) (g := g) (F := (pf, cells #[.pointer (some ⟨fb, 0, none⟩)] 51) :: (sb, cells (stC st0 nilV nilV nilV) 29) :: (rb, cells (stC st0 nilV nilV nilV) 29) :: []) hokW.out (splitC_ne _ _) hS2.conv
  clear hS2
  refine Calls.mono (safelyP_any (pf := pf) (fb := fb) (sb := sb) (W := splitC 32 l) (K := (rb, cells (stC st0 nilV nilV nilV) 29) :: []) HK.out hS3.conv) ?_
  clear hS3
  rintro _ w (⟨s, vo, vd, vf, hs, rfl, hS⟩ | ⟨hs, rfl, hS⟩)
  · simp only [putW]
    simp only [stL, List.cons_append, List.nil_append] at hS
    have HN : Bx (parseS l = some s) := ⟨parseS_some hs⟩
    clear hs hokW
    have HC : Bx (∀ v ∈ (stC s vo vd vf).toList, v.oneCell' = true) := ⟨stC_one (Sat.slCell (α := Int) (v := vo) hS) (Sat.slCell (α := Int) (v := vd) hS) (Sat.slCell (α := Int) (v := vf) hS)⟩
    go_wp2_with (first | (refine storeAll hS rfl rfl rfl rfl ?_ ?_ ?_ ?_; rfl; (focus (exact HC.out)); rfl; clear hS; intro w hS; try simp only [putW]) | (refine loadAll hS rfl rfl rfl ?_ ?_; rfl; simp only [putW]))
    have hload : (loadVar 29 ⟨rb, 0, none⟩).run Tryz.prog w = .ok (.agg (stC s vo vd vf)) w := run_loadAll hS rb 29 rfl
    refine bodyPost_ret (v := .tuple #[.agg (stC s vo vd vf), .int .i64 0]) (by simp [results, Tryz.results10, asAddr, hload]) rfl ?_
    first | exact .inl ⟨s, vo, vd, vf, HN.out, rfl, hS.conv⟩ | exact .inl ⟨s, HN.out, vo, vd, vf, rfl, hS.conv⟩ | trace_state
  · simp only [putW]
    have HN : Bx (parseS l = none) := ⟨parseS_none hs⟩
    clear hs hokW
    go_wp2_with (refine storeAll hS rfl rfl rfl rfl ?_ ?_ ?_ ?_; rfl; (focus (simp [Value.oneCell']; done)); rfl; clear hS; intro w hS; try simp only [putW])
    have hload : (loadVar 29 ⟨rb, 0, none⟩).run Tryz.prog w = .ok (.agg (stC st0 nilV nilV nilV)) w := run_loadAll hS rb 29 rfl
    exact bodyPost_ret (v := .tuple #[.agg (stC st0 nilV nilV nilV), .int .i64 3]) (by simp [results, Tryz.results10, asAddr, hload]) rfl (.inr ⟨HN.out, rfl, hS.nothing⟩)
end
end Go.Proofs.YtpbjkfomdindnaaGreatDoor
