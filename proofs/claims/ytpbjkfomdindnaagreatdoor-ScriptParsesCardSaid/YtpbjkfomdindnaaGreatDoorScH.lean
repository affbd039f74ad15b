/-
  script.source: ask, step: printed by program (mksrc.py).
-/
import Derived.Test.YtpbjkfomdindnaaGreatDoorScG
import Derived.Test.YtpbjkfomdindnaaGreatDoorScT
set_option linter.unusedSimpArgs false
set_option linter.unusedVariables false
namespace Go.Proofs.YtpbjkfomdindnaaGreatDoor
open Go.RowKit Go.Shelf Go.Proofs.YtpbjkfomdindnaaGreatDoor.Sl Go.Proofs.YtpbjkfomdindnaaGreatDoor.Jp Go.Proofs.YtpbjkfomdindnaaGreatDoor.Sc

section
variable {w0 w : World} {S F K : List Chunk} {A : List Int} {p b o i : Nat}
theorem snext_p (hA : SrcB w0 A b o) (hS : Sat w0 S w) [q : Pull S p (srcC A b o i) F] :
    Calls Tryz.prog 57 #[.pointer (some ⟨p, 0, none⟩)] w fun e w' => e = .returned (.int .i64 (gB A i)) ∧ Sat w0 ((p, srcC A b o (i + 1)) :: F) w' := snext_any hA (hS.perm q.perm)
theorem ssome_p {m : Nat} (hA : SrcB w0 A b o) (hm : (gB A i % 9).toNat = m) (hS : Sat w0 S w) [q : Pull S p (srcC A b o i) F] :
    Calls Tryz.prog 59 #[.pointer (some ⟨p, 0, none⟩), .int .i64 9] w fun e w' => ∃ v, e = .returned v ∧ Sat w0 ((p, srcC A b o (i + 1 + m)) :: (blk v, sl 1 by8 (bytesAt A (i + 1) m) 5 v) :: F) w' := ssome_any hA hm (hS.perm q.perm)
theorem snumber_p (hA : SrcB w0 A b o) (hS : Sat w0 S w) [q : Pull S p (srcC A b o i) F] :
    Calls Tryz.prog 60 #[.pointer (some ⟨p, 0, none⟩)] w fun e w' => e = .returned (.float .f64 (beV 0 (bytesAt A i 8))) ∧ Sat w0 ((p, srcC A b o (i + 8)) :: F) w' := snumber_any hA (hS.perm q.perm)
theorem opC_one {x y : Int} {v : Value} {n : Nat} (h : v.oneCell' = true) : ∀ u ∈ (#[.int .i64 x, .int .i64 y, v, .float .f64 n] : Array Value).toList, u.oneCell' = true := by
  intro u hu
  simp at hu
  rcases hu with rfl | rfl | rfl | rfl <;> first | rfl | assumption
abbrev AskPost (w0 : World) (K : List Chunk) (A : List Int) (p b o : Nat) (D : St × Nat) (e : Ending) (w' : World) : Prop :=
  ∃ vo, e = .returned (.agg #[.int .i64 D.1.okd, .int .i64 D.1.pg, vo, .float .f64 D.1.bt]) ∧ Sat w0 ((p, srcC A b o D.2) :: (blk vo, sl 1 by8 D.1.od 5 vo) :: K) w'
set_option maxRecDepth 100000 in
set_option maxHeartbeats 8000000 in
theorem sask_any {s : St} (hs1 : s.pg = 0) (hs2 : s.od = []) (hs3 : s.bt = 0) (hA : SrcB w0 A b o) (hS : Sat w0 ((p, srcC A b o i) :: K) w) :
    Calls Tryz.prog 58 #[.pointer (some ⟨p, 0, none⟩)] w (AskPost w0 K A p b o (askD s A i)) := by
  have HA : Bx _ := ⟨hA⟩
  obtain ⟨kind, a, b', okd, pg, od, bt, da, fa⟩ := s
  simp only at hs1 hs2 hs3
  subst hs1 hs2 hs3
  obtain ⟨n, hn, hn2⟩ := gB_nat hA i
  obtain ⟨x, hx, hx2⟩ := gB_nat hA (i + 1)
  obtain ⟨y, hy, hy2⟩ := gB_nat hA (i + 2)
  obtain ⟨D, hD⟩ : ∃ D, askD ⟨kind, a, b', okd, 0, [], 0, da, fa⟩ A i = D := ⟨_, rfl⟩
  rw [hD]
  unfold askD at hD
  rw [hn, hx, hy] at hD
  clear hA
  have hr : (n : Int) % 6 = 0 ∨ (n : Int) % 6 = 1 ∨ (n : Int) % 6 = 2 ∨ (n : Int) % 6 = 3 ∨ (n : Int) % 6 = 4 ∨ (n : Int) % 6 = 5 := by omega
  rcases hr with hr | hr | hr | hr | hr | hr <;> rw [hr] at hD <;> simp only [Int.reduceAdd, reduceIte, Int.reduceEq] at hD
  · subst hD
    go_enter Tryz.func58, Tryz.ntmps58
    go_wp2_with (first | (guard_target =~ wpList _ _ _ (Oper.mk (some 2) _ _ _ _ _ :: _) _ _; refine alloc hS rfl rfl ?_; clear hS; intro rb w hS; simp only [putW]) | (guard_target =~ Calls _ 57 _ _ _; refine Stopped.out ?_))
    refine ⟨?_⟩
    refine Calls.mono (snext_p (p := p) (i := i) HA.out hS) ?_
    clear hS
    rintro _ w ⟨rfl, hS⟩
    rw [hn]
    simp only [putW]
    go_wp2_with (first | (guard_target =~ wpList _ _ _ (Oper.mk (some 3) _ _ _ _ _ :: _) _ _; refine alloc hS rfl rfl ?_; clear hS; intro ob w hS; simp only [putW]) | (guard_target =~ Calls _ 57 _ _ _; refine Stopped.out ?_) | (refine load1 hS rfl rfl rfl rfl ?_; simp only [putW]) | (refine storeAll hS rfl rfl rfl rfl ?_ ?_ ?_ ?_; rfl; (focus (simp [Value.oneCell']; done)); rfl; clear hS; intro w hS; try simp only [putW]))
    refine ⟨?_⟩
    refine Calls.mono (snext_p (p := p) (i := (i + 1)) HA.out hS) ?_
    clear hS
    rintro _ w ⟨rfl, hS⟩
    rw [hx]
    simp only [putW]
    go_wp2_with (first | (refine loadAll hS rfl rfl rfl ?_ ?_; rfl; simp only [putW]) | (refine store1 hS rfl rfl rfl rfl rfl ?_ ?_; (focus (simp; done)); clear hS; intro w hS; simp only [evW, putW] at hS; try simp only [putW]) | (refine storeAll hS rfl rfl rfl rfl ?_ ?_ ?_ ?_; rfl; (focus (simp [Value.oneCell']; done)); rfl; clear hS; intro w hS; try simp only [putW]))
    have hload : (loadVar 26 ⟨rb, 0, none⟩).run Tryz.prog w = .ok (.agg #[.int .i64 1, .int .i64 (x : Int), nilV, .float .f64 0]) w := run_loadAll hS rb 26 rfl
    exact bodyPost_ret (v := .agg #[.int .i64 1, .int .i64 (x : Int), nilV, .float .f64 0]) (by simp [results, Tryz.results58, asAddr, hload]) rfl ⟨nilV, rfl, Sat.conv (S' := (p, srcC A b o (i + 2)) :: (0, sl 1 by8 [] 5 nilV) :: K) (hS.slNil 1 by8 5)⟩
  · subst hD
    go_enter Tryz.func58, Tryz.ntmps58
    go_wp2_with (first | (guard_target =~ wpList _ _ _ (Oper.mk (some 2) _ _ _ _ _ :: _) _ _; refine alloc hS rfl rfl ?_; clear hS; intro rb w hS; simp only [putW]) | (guard_target =~ Calls _ 57 _ _ _; refine Stopped.out ?_))
    refine ⟨?_⟩
    refine Calls.mono (snext_p (p := p) (i := i) HA.out hS) ?_
    clear hS
    rintro _ w ⟨rfl, hS⟩
    rw [hn]
    simp only [putW]
    go_wp2_with (first | (guard_target =~ wpList _ _ _ (Oper.mk (some 3) _ _ _ _ _ :: _) _ _; refine alloc hS rfl rfl ?_; clear hS; intro ob w hS; simp only [putW]) | (guard_target =~ Calls _ 57 _ _ _; refine Stopped.out ?_) | (refine load1 hS rfl rfl rfl rfl ?_; simp only [putW]) | (refine storeAll hS rfl rfl rfl rfl ?_ ?_ ?_ ?_; rfl; (focus (simp [Value.oneCell']; done)); rfl; clear hS; intro w hS; try simp only [putW]))
    refine ⟨?_⟩
    refine Calls.mono (snext_p (p := p) (i := (i + 1)) HA.out hS) ?_
    clear hS
    rintro _ w ⟨rfl, hS⟩
    rw [hx]
    simp only [putW]
    go_wp2_with (first | (guard_target =~ Calls _ 59 _ _ _; refine Stopped.out ?_) | (refine store1 hS rfl rfl rfl rfl rfl ?_ ?_; (focus (simp; done)); clear hS; intro w hS; simp only [evW, putW] at hS; try simp only [putW]))
    refine ⟨?_⟩
    refine Calls.mono (ssome_p (p := p) (i := i + 2) (m := ((y : Int) % 9).toNat) HA.out (by rw [hy]) hS) ?_
    clear hS
    rintro _ w ⟨v, rfl, hS⟩
    simp only [putW]
    have hv := Sat.slCell (α := Int) (v := v) hS
    have HC : Bx (∀ u ∈ (#[.int .i64 2, .int .i64 (x : Int), v, .float .f64 0] : Array Value).toList, u.oneCell' = true) := ⟨opC_one hv⟩
    go_wp2_with (first | (refine store1 hS rfl rfl rfl rfl hv ?_ ?_; (focus (simp; done)); clear hS; intro w hS; simp only [evW, putW] at hS; try simp only [putW]) | (refine storeAll hS rfl rfl rfl rfl ?_ ?_ ?_ ?_; rfl; (focus (exact HC.out)); rfl; clear hS; intro w hS; try simp only [putW]) | (refine loadAll hS rfl rfl rfl ?_ ?_; rfl; simp only [putW]))
    have hload : (loadVar 26 ⟨rb, 0, none⟩).run Tryz.prog w = .ok (.agg #[.int .i64 2, .int .i64 (x : Int), v, .float .f64 0]) w := run_loadAll hS rb 26 rfl
    exact bodyPost_ret (v := .agg #[.int .i64 2, .int .i64 (x : Int), v, .float .f64 0]) (by simp [results, Tryz.results58, asAddr, hload]) rfl ⟨v, rfl, hS.conv⟩
  · subst hD
    go_enter Tryz.func58, Tryz.ntmps58
    go_wp2_with (first | (guard_target =~ wpList _ _ _ (Oper.mk (some 2) _ _ _ _ _ :: _) _ _; refine alloc hS rfl rfl ?_; clear hS; intro rb w hS; simp only [putW]) | (guard_target =~ Calls _ 57 _ _ _; refine Stopped.out ?_))
    refine ⟨?_⟩
    refine Calls.mono (snext_p (p := p) (i := i) HA.out hS) ?_
    clear hS
    rintro _ w ⟨rfl, hS⟩
    rw [hn]
    simp only [putW]
    go_wp2_with (first | (guard_target =~ wpList _ _ _ (Oper.mk (some 3) _ _ _ _ _ :: _) _ _; refine alloc hS rfl rfl ?_; clear hS; intro ob w hS; simp only [putW]) | (refine load1 hS rfl rfl rfl rfl ?_; simp only [putW]) | (refine loadAll hS rfl rfl rfl ?_ ?_; rfl; simp only [putW]) | (refine storeAll hS rfl rfl rfl rfl ?_ ?_ ?_ ?_; rfl; (focus (simp [Value.oneCell']; done)); rfl; clear hS; intro w hS; try simp only [putW]))
    have hload : (loadVar 26 ⟨rb, 0, none⟩).run Tryz.prog w = .ok (.agg #[.int .i64 3, .int .i64 0, nilV, .float .f64 0]) w := run_loadAll hS rb 26 rfl
    exact bodyPost_ret (v := .agg #[.int .i64 3, .int .i64 0, nilV, .float .f64 0]) (by simp [results, Tryz.results58, asAddr, hload]) rfl ⟨nilV, rfl, Sat.conv (S' := (p, srcC A b o (i + 1)) :: (0, sl 1 by8 [] 5 nilV) :: K) (hS.slNil 1 by8 5)⟩
  · subst hD
    go_enter Tryz.func58, Tryz.ntmps58
    go_wp2_with (first | (guard_target =~ wpList _ _ _ (Oper.mk (some 2) _ _ _ _ _ :: _) _ _; refine alloc hS rfl rfl ?_; clear hS; intro rb w hS; simp only [putW]) | (guard_target =~ Calls _ 57 _ _ _; refine Stopped.out ?_))
    refine ⟨?_⟩
    refine Calls.mono (snext_p (p := p) (i := i) HA.out hS) ?_
    clear hS
    rintro _ w ⟨rfl, hS⟩
    rw [hn]
    simp only [putW]
    go_wp2_with (first | (guard_target =~ wpList _ _ _ (Oper.mk (some 3) _ _ _ _ _ :: _) _ _; refine alloc hS rfl rfl ?_; clear hS; intro ob w hS; simp only [putW]) | (refine load1 hS rfl rfl rfl rfl ?_; simp only [putW]) | (refine loadAll hS rfl rfl rfl ?_ ?_; rfl; simp only [putW]) | (refine storeAll hS rfl rfl rfl rfl ?_ ?_ ?_ ?_; rfl; (focus (simp [Value.oneCell']; done)); rfl; clear hS; intro w hS; try simp only [putW]))
    have hload : (loadVar 26 ⟨rb, 0, none⟩).run Tryz.prog w = .ok (.agg #[.int .i64 4, .int .i64 0, nilV, .float .f64 0]) w := run_loadAll hS rb 26 rfl
    exact bodyPost_ret (v := .agg #[.int .i64 4, .int .i64 0, nilV, .float .f64 0]) (by simp [results, Tryz.results58, asAddr, hload]) rfl ⟨nilV, rfl, Sat.conv (S' := (p, srcC A b o (i + 1)) :: (0, sl 1 by8 [] 5 nilV) :: K) (hS.slNil 1 by8 5)⟩
  · subst hD
    go_enter Tryz.func58, Tryz.ntmps58
    go_wp2_with (first | (guard_target =~ wpList _ _ _ (Oper.mk (some 2) _ _ _ _ _ :: _) _ _; refine alloc hS rfl rfl ?_; clear hS; intro rb w hS; simp only [putW]) | (guard_target =~ Calls _ 57 _ _ _; refine Stopped.out ?_))
    refine ⟨?_⟩
    refine Calls.mono (snext_p (p := p) (i := i) HA.out hS) ?_
    clear hS
    rintro _ w ⟨rfl, hS⟩
    rw [hn]
    simp only [putW]
    go_wp2_with (first | (guard_target =~ wpList _ _ _ (Oper.mk (some 3) _ _ _ _ _ :: _) _ _; refine alloc hS rfl rfl ?_; clear hS; intro ob w hS; simp only [putW]) | (guard_target =~ Calls _ 57 _ _ _; refine Stopped.out ?_) | (refine load1 hS rfl rfl rfl rfl ?_; simp only [putW]) | (refine storeAll hS rfl rfl rfl rfl ?_ ?_ ?_ ?_; rfl; (focus (simp [Value.oneCell']; done)); rfl; clear hS; intro w hS; try simp only [putW]))
    refine ⟨?_⟩
    refine Calls.mono (snext_p (p := p) (i := (i + 1)) HA.out hS) ?_
    clear hS
    rintro _ w ⟨rfl, hS⟩
    rw [hx]
    simp only [putW]
    go_wp2_with (first | (guard_target =~ Calls _ 60 _ _ _; refine Stopped.out ?_) | (refine store1 hS rfl rfl rfl rfl rfl ?_ ?_; (focus (simp; done)); clear hS; intro w hS; simp only [evW, putW] at hS; try simp only [putW]))
    refine ⟨?_⟩
    refine Calls.mono (snumber_p (p := p) (i := i + 2) HA.out hS) ?_
    clear hS
    rintro _ w ⟨rfl, hS⟩
    simp only [putW]
    obtain ⟨z, hz⟩ : ∃ z, beV 0 (bytesAt A (i + 2) 8) = z := ⟨_, rfl⟩
    rw [hz]
    have HZ : Bx _ := ⟨hz⟩
    clear hz
    go_wp2_with (first | (refine loadAll hS rfl rfl rfl ?_ ?_; rfl; simp only [putW]) | (refine store1 hS rfl rfl rfl rfl rfl ?_ ?_; (focus (simp; done)); clear hS; intro w hS; simp only [evW, putW] at hS; try simp only [putW]) | (refine storeAll hS rfl rfl rfl rfl ?_ ?_ ?_ ?_; rfl; (focus (simp [Value.oneCell']; done)); rfl; clear hS; intro w hS; try simp only [putW]))
    have hload : (loadVar 26 ⟨rb, 0, none⟩).run Tryz.prog w = .ok (.agg #[.int .i64 5, .int .i64 (x : Int), nilV, .float .f64 z]) w := run_loadAll hS rb 26 rfl
    exact bodyPost_ret (v := .agg #[.int .i64 5, .int .i64 (x : Int), nilV, .float .f64 z]) (by simp [results, Tryz.results58, asAddr, hload]) rfl ⟨nilV, by rw [← HZ.out], Sat.conv (S' := (p, srcC A b o (i + 10)) :: (0, sl 1 by8 [] 5 nilV) :: K) (hS.slNil 1 by8 5)⟩
  · subst hD
    go_enter Tryz.func58, Tryz.ntmps58
    go_wp2_with (first | (guard_target =~ wpList _ _ _ (Oper.mk (some 2) _ _ _ _ _ :: _) _ _; refine alloc hS rfl rfl ?_; clear hS; intro rb w hS; simp only [putW]) | (guard_target =~ Calls _ 57 _ _ _; refine Stopped.out ?_))
    refine ⟨?_⟩
    refine Calls.mono (snext_p (p := p) (i := i) HA.out hS) ?_
    clear hS
    rintro _ w ⟨rfl, hS⟩
    rw [hn]
    simp only [putW]
    go_wp2_with (first | (guard_target =~ wpList _ _ _ (Oper.mk (some 3) _ _ _ _ _ :: _) _ _; refine alloc hS rfl rfl ?_; clear hS; intro ob w hS; simp only [putW]) | (refine load1 hS rfl rfl rfl rfl ?_; simp only [putW]) | (refine loadAll hS rfl rfl rfl ?_ ?_; rfl; simp only [putW]) | (refine storeAll hS rfl rfl rfl rfl ?_ ?_ ?_ ?_; rfl; (focus (simp [Value.oneCell']; done)); rfl; clear hS; intro w hS; try simp only [putW]))
    have hload : (loadVar 26 ⟨rb, 0, none⟩).run Tryz.prog w = .ok (.agg #[.int .i64 6, .int .i64 0, nilV, .float .f64 0]) w := run_loadAll hS rb 26 rfl
    exact bodyPost_ret (v := .agg #[.int .i64 6, .int .i64 0, nilV, .float .f64 0]) (by simp [results, Tryz.results58, asAddr, hload]) rfl ⟨nilV, rfl, Sat.conv (S' := (p, srcC A b o (i + 1)) :: (0, sl 1 by8 [] 5 nilV) :: K) (hS.slNil 1 by8 5)⟩
theorem or_hl {h l : Nat} (hh : h < 256) (hl : l < 256) : bits .or .i64 ((h : Int) * 256) (l : Int) = 256 * h + l := by
  have h1 := bits_join .i64 63 (by decide) (fun n h0 h1 => by simp [IntKind.wrap, IntKind.bits, IntKind.signed]; omega) 8 ((h : Int) * 256) (l : Int) (by omega) (by omega) (by omega) (by omega) (by omega) (by omega)
  rw [h1]; omega
theorem askD_keeps (s : St) (B : List Int) (j : Nat) : (askD s B j).1.kind = s.kind ∧ (askD s B j).1.a = s.a ∧ (askD s B j).1.b = s.b ∧ (askD s B j).1.da = s.da ∧ (askD s B j).1.fa = s.fa := by
  unfold askD
  split
  · exact ⟨rfl, rfl, rfl, rfl, rfl⟩
  · split
    · exact ⟨rfl, rfl, rfl, rfl, rfl⟩
    · split <;> exact ⟨rfl, rfl, rfl, rfl, rfl⟩
theorem sask_p {s : St} (hs1 : s.pg = 0) (hs2 : s.od = []) (hs3 : s.bt = 0) (hA : SrcB w0 A b o) (hS : Sat w0 S w) [q : Pull S p (srcC A b o i) F] :
    Calls Tryz.prog 58 #[.pointer (some ⟨p, 0, none⟩)] w (AskPost w0 F A p b o (askD s A i)) := sask_any hs1 hs2 hs3 hA (hS.perm q.perm)
abbrev StepPost2 (w0 : World) (K : List Chunk) (A : List Int) (p b o : Nat) (D : St × Nat) (e : Ending) (w' : World) : Prop :=
  ∃ vo vd vf, e = .returned (.agg (stC D.1 vo vd vf)) ∧ Sat w0 ((p, srcC A b o D.2) :: stL D.1 vo vd vf ++ K) w'
end
end Go.Proofs.YtpbjkfomdindnaaGreatDoor
