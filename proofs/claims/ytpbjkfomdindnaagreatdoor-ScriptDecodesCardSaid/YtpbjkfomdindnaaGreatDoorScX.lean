/-
  thimbleref25.Source.Step, of all kinds; Decode: printed by program (mkref.py).
-/
import Derived.Test.YtpbjkfomdindnaaGreatDoorScWa
import Derived.Test.YtpbjkfomdindnaaGreatDoorScWb
import Derived.Test.YtpbjkfomdindnaaGreatDoorScWc
import Derived.Test.YtpbjkfomdindnaaGreatDoorScWd
import Derived.Test.YtpbjkfomdindnaaGreatDoorScWe
import Derived.Test.YtpbjkfomdindnaaGreatDoorScWf
set_option linter.unusedSimpArgs false
set_option linter.unusedVariables false
namespace Go.Proofs.YtpbjkfomdindnaaGreatDoor
open Go.RowKit Go.Shelf Go.Proofs.YtpbjkfomdindnaaGreatDoor.Sl Go.Proofs.YtpbjkfomdindnaaGreatDoor.Jp Go.Proofs.YtpbjkfomdindnaaGreatDoor.Sc

section
variable {w0 w : World} {S F K : List Chunk} {A : List Int} {p i : Nat} {v : Value}
theorem rstep_any (hv : RB w0 A v) (hi : i ≤ 100000) (hS : Sat w0 S w) [q : Pull S p (rsrc v i) K] :
    Calls Tryz.prog 36 #[.pointer (some ⟨p, 0, none⟩)] w (StepPost3 w0 K v p (stepD A i)) := by
  replace hS := hS.perm q.perm
  obtain ⟨n, hn, hn2⟩ := gB_natOk hv.all i
  have hr : (n : Int) % 12 = 0 ∨ (n : Int) % 12 = 1 ∨ (n : Int) % 12 = 2 ∨ (n : Int) % 12 = 3 ∨ (n : Int) % 12 = 4 ∨ (n : Int) % 12 = 5 ∨ (n : Int) % 12 = 6 ∨ (n : Int) % 12 = 7 ∨ (n : Int) % 12 = 8 ∨ (n : Int) % 12 = 9 ∨ (n : Int) % 12 = 10 ∨ (n : Int) % 12 = 11 := by omega
  rcases hr with hr | hr | hr | hr | hr | hr | hr | hr | hr | hr | hr | hr
  · obtain ⟨y, hy, hy2⟩ := gB_natOk hv.all (i + 2)
    have hq : (y : Int) % 6 = 0 ∨ (y : Int) % 6 = 1 ∨ (y : Int) % 6 = 2 ∨ (y : Int) % 6 = 3 ∨ (y : Int) % 6 = 4 ∨ (y : Int) % 6 = 5 := by omega
    rcases hq with hq | hq | hq | hq | hq | hq
    · exact rstep_1_1 hv hi hn hn2 hr hy hy2 hq hS
    · exact rstep_1_2 hv hi hn hn2 hr hy hy2 hq hS
    · exact rstep_1_3 hv hi hn hn2 hr hy hy2 hq hS
    · exact rstep_1_4 hv hi hn hn2 hr hy hy2 hq hS
    · exact rstep_1_5 hv hi hn hn2 hr hy hy2 hq hS
    · exact rstep_1_6 hv hi hn hn2 hr hy hy2 hq hS
  · exact rstep_2 hv hi hn hn2 hr hS
  · exact rstep_3 hv hi hn hn2 hr hS
  · exact rstep_4 hv hi hn hn2 hr hS
  · exact rstep_5 hv hi hn hn2 hr hS
  · exact rstep_6 hv hi hn hn2 hr hS
  · exact rstep_7 hv hi hn hn2 hr hS
  · exact rstep_8 hv hi hn hn2 hr hS
  · exact rstep_9 hv hi hn hn2 hr hS
  · exact rstep_10 hv hi hn hn2 hr hS
  · exact rstep_11 hv hi hn hn2 hr hS
  · exact rstep_12 hv hi hn hn2 hr hS
set_option maxRecDepth 100000 in
set_option maxHeartbeats 2000000 in
/-- Decode. -/
theorem rdecode_any (hv : RB w0 A v) (hA : A.length ≤ 90000) : Calls Tryz.prog 15 #[v] w0 fun e w' => ∃ X vo, e = .returned vo ∧ X.map (·.s) = decodeS A ∧ (∀ x ∈ X, SOk x.s) ∧ Sat w0 ((blk vo, sl 9 svF X 29 vo) :: (77, stepsC X) :: []) w' := by
  have hS := Sat.refl w0
  have HV : Bx (RB w0 A v) := ⟨hv⟩
  obtain ⟨q, c, rfl, h1, -⟩ := BSl.at hv
  clear hv
  go_enter Tryz.func15, Tryz.ntmps15
  go_wp2_with (first | (guard_target =~ wpList _ _ _ (Oper.mk (some 7) _ _ _ _ _ :: _) _ _; refine boxN hS rfl rfl rfl ?_; clear hS; intro p w hS; simp only [putW]) | (refine load1 hS rfl rfl rfl rfl ?_; simp only [putW]) | (refine loadAll hS rfl rfl rfl ?_ ?_; rfl; simp only [putW]) | (refine loadPart hS rfl rfl rfl ?_ rfl ?_; rfl; simp only [putW]) | (refine store1 hS rfl rfl rfl rfl rfl ?_ ?_; (focus (simp; done)); clear hS; intro w hS; simp only [evW, putW] at hS; try simp only [putW]) | (refine storeAll hS rfl rfl rfl rfl ?_ ?_ ?_ ?_; rfl; (focus (simp [Value.oneCell']; done)); rfl; clear hS; intro w hS; try simp only [putW]) | (refine storeN hS rfl rfl rfl rfl ?_ ?_ ?_ ?_; rfl; (focus (simp [Value.oneCell']; done)); (focus (simp; done)); clear hS; intro w hS; simp at hS; try simp only [putW]) | (refine alloc hS rfl rfl ?_; clear hS; intro mb w hS; simp only [putW]) | (refine box1 hS rfl rfl rfl rfl ?_; clear hS; intro mb w hS; try simp only [evW, putW] at hS; simp only [putW]) | (refine boxN hS rfl rfl rfl ?_; clear hS; intro mb w hS; simp only [putW]))
  have hS1 : Sat w0 ((blk nilV, sl 9 svF [] 29 nilV) :: (77, stepsC []) :: (p, rsrc (.slice q A.length c) 0) :: []) w := (steps_nil (F := (p, rsrc (.slice q A.length c) 0) :: []) hS).slNil 9 svF 29
  clear hS
  have hS := hS1
  clear hS1
  go_loopw [3] (fun vv wr => ∃ (X : List SV) (i : Nat), Bx (Half A X i) ∧ Sat w0 ((blk vv, sl 9 svF X 29 vv) :: (77, stepsC X) :: (p, rsrc (.slice q A.length c) i) :: []) wr) (fun vv _ => 1024 - sLen vv)
  case atStart => exact ⟨[], 0, ⟨Half.start A⟩, hS⟩
  case round =>
    clear hS
    obtain ⟨X, i, hH, hS⟩ := hrel
    have hX : X.length ≤ 1024 := hH.out.len
    obtain ⟨ua, uc, rfl⟩ := slFormS (v := u3) hS
    replace hS : Sat w0 ((blk (.slice ua X.length uc), sl 9 svF X 29 (.slice ua X.length uc)) :: (77, stepsC X) :: (p, cells #[.slice q A.length c, .int .i64 (i : Int)] 76) :: []) wr := hS
    by_cases hi : i < A.length
    · by_cases hX2 : X.length < 1024
      · go_wp2_with (first | (guard_target =~ Calls _ 36 _ _ _; refine Stopped.out ?_) | (refine load1 hS rfl rfl rfl rfl ?_; simp only [putW]) | (refine loadAll hS rfl rfl rfl ?_ ?_; rfl; simp only [putW]) | (refine loadPart hS rfl rfl rfl ?_ rfl ?_; rfl; simp only [putW]) | (refine store1 hS rfl rfl rfl rfl rfl ?_ ?_; (focus (simp; done)); clear hS; intro w hS; simp only [evW, putW] at hS; try simp only [putW]) | (refine storeAll hS rfl rfl rfl rfl ?_ ?_ ?_ ?_; rfl; (focus (simp [Value.oneCell']; done)); rfl; clear hS; intro w hS; try simp only [putW]) | (refine storeN hS rfl rfl rfl rfl ?_ ?_ ?_ ?_; rfl; (focus (simp [Value.oneCell']; done)); (focus (simp; done)); clear hS; intro w hS; simp at hS; try simp only [putW]) | (refine alloc hS rfl rfl ?_; clear hS; intro mb w hS; simp only [putW]) | (refine box1 hS rfl rfl rfl rfl ?_; clear hS; intro mb w hS; try simp only [evW, putW] at hS; simp only [putW]) | (refine boxN hS rfl rfl rfl ?_; clear hS; intro mb w hS; simp only [putW]))
        refine ⟨?_⟩
        replace hS : Sat w0 ((blk (.slice ua X.length uc), sl 9 svF X 29 (.slice ua X.length uc)) :: (77, stepsC X) :: (p, rsrc (.slice q A.length c) i) :: []) wr := hS
        refine Calls.mono (rstep_any (p := p) (i := i) HV.out (by omega) hS) ?_
        clear hS
        rintro _ w ⟨vo, vd, vf, rfl, hS⟩
        simp only [putW]
        have HN : Bx (Half A (X ++ [⟨(stepD A i).1, vo, vd, vf⟩]) (stepD A i).2) := ⟨hH.out.next HV.out.all hX2 hi vo vd vf⟩
        obtain ⟨s, hs⟩ : ∃ s, (stepD A i).1 = s := ⟨_, rfl⟩
        obtain ⟨j, hj⟩ : ∃ j, (stepD A i).2 = j := ⟨_, rfl⟩
        rw [hs, hj] at HN
        rw [hj] at hS
        rw [hs] at hS ⊢
        clear hs hj
        simp only [stL, List.cons_append, List.nil_append] at hS
        have HC : Bx (∀ u ∈ svF ⟨s, vo, vd, vf⟩, u.oneCell' = true) := ⟨svF_one (Sat.slCell (α := Int) (v := vo) hS) (Sat.slCell (α := Int) (v := vd) hS) (Sat.slCell (α := Int) (v := vf) hS)⟩
        go_wp2_with (first | (refine buildSlice1 (c := (stC s vo vd vf)) hS rfl rfl rfl ?_ ?_ ?_ ?_; rfl; rfl; rfl; clear hS; intro mb w hS; simp only [putW]) | (refine append1 (f := svF) hS rfl rfl (.slice ua X.length uc) rfl rfl (⟨s, vo, vd, vf⟩ : SV) ?_ ?_ ?_ ?_ ?_ ?_; rfl; (focus (exact HC.out)); rfl; (focus (unfold maxLen; omega)); (focus (omega)); clear hS; intro v' w hS; simp only [putW]) | (refine load1 hS rfl rfl rfl rfl ?_; simp only [putW]) | (refine loadAll hS rfl rfl rfl ?_ ?_; rfl; simp only [putW]) | (refine loadPart hS rfl rfl rfl ?_ rfl ?_; rfl; simp only [putW]) | (refine store1 hS rfl rfl rfl rfl rfl ?_ ?_; (focus (simp; done)); clear hS; intro w hS; simp only [evW, putW] at hS; try simp only [putW]) | (refine storeAll hS rfl rfl rfl rfl ?_ ?_ ?_ ?_; rfl; (focus (simp [Value.oneCell']; done)); rfl; clear hS; intro w hS; try simp only [putW]) | (refine storeN hS rfl rfl rfl rfl ?_ ?_ ?_ ?_; rfl; (focus (simp [Value.oneCell']; done)); (focus (simp; done)); clear hS; intro w hS; simp at hS; try simp only [putW]) | (refine alloc hS rfl rfl ?_; clear hS; intro mb w hS; simp only [putW]) | (refine box1 hS rfl rfl rfl rfl ?_; clear hS; intro mb w hS; try simp only [evW, putW] at hS; simp only [putW]) | (refine boxN hS rfl rfl rfl ?_; clear hS; intro mb w hS; simp only [putW]))
        have hS2 : Sat w0 ((⟨s, vo, vd, vf⟩ : SV).l ++ (77, stepsC X) :: (blk v', sl 9 svF (X ++ [⟨s, vo, vd, vf⟩]) 29 v') :: (p, rsrc (.slice q A.length c) j) :: []) w := Sat.conv (S' := (blk vo, sl 1 by8 s.od 5 vo) :: (blk vd, sl 1 by8 s.da 5 vd) :: (blk vf, sl 1 i64 s.fa 3 vf) :: (77, stepsC X) :: (blk v', sl 9 svF (X ++ [(⟨s, vo, vd, vf⟩ : SV)]) 29 v') :: (p, rsrc (.slice q A.length c) j) :: []) hS
        clear hS
        have hS := steps_push hS2
        clear hS2
        have hl2 : sLen v' = X.length + 1 := by rw [Sat.slLen (α := SV) (v := v') hS]; simp
        go_roundw
        case rel => exact ⟨_, j, HN, hS.conv⟩
        case measure =>
          show 1024 - sLen v' < 1024 - X.length
          omega
      · have HE : Bx (X.map (·.s) = decodeS A) := ⟨hH.out.stop (.inr (by omega))⟩
        have HO : Bx (∀ x ∈ X, SOk x.s) := ⟨hH.out.ok⟩
        go_wp2_with (first | (refine load1 hS rfl rfl rfl rfl ?_; simp only [putW]) | (refine loadAll hS rfl rfl rfl ?_ ?_; rfl; simp only [putW]) | (refine loadPart hS rfl rfl rfl ?_ rfl ?_; rfl; simp only [putW]) | (refine store1 hS rfl rfl rfl rfl rfl ?_ ?_; (focus (simp; done)); clear hS; intro w hS; simp only [evW, putW] at hS; try simp only [putW]) | (refine storeAll hS rfl rfl rfl rfl ?_ ?_ ?_ ?_; rfl; (focus (simp [Value.oneCell']; done)); rfl; clear hS; intro w hS; try simp only [putW]) | (refine storeN hS rfl rfl rfl rfl ?_ ?_ ?_ ?_; rfl; (focus (simp [Value.oneCell']; done)); (focus (simp; done)); clear hS; intro w hS; simp at hS; try simp only [putW]) | (refine alloc hS rfl rfl ?_; clear hS; intro mb w hS; simp only [putW]) | (refine box1 hS rfl rfl rfl rfl ?_; clear hS; intro mb w hS; try simp only [evW, putW] at hS; simp only [putW]) | (refine boxN hS rfl rfl rfl ?_; clear hS; intro mb w hS; simp only [putW]))
        go_ret
        exact ⟨X, .slice ua X.length uc, rfl, HE.out, HO.out, hS.conv⟩
    · have HE : Bx (X.map (·.s) = decodeS A) := ⟨hH.out.stop (.inl (by omega))⟩
      have HO : Bx (∀ x ∈ X, SOk x.s) := ⟨hH.out.ok⟩
      go_wp2_with (first | (refine load1 hS rfl rfl rfl rfl ?_; simp only [putW]) | (refine loadAll hS rfl rfl rfl ?_ ?_; rfl; simp only [putW]) | (refine loadPart hS rfl rfl rfl ?_ rfl ?_; rfl; simp only [putW]) | (refine store1 hS rfl rfl rfl rfl rfl ?_ ?_; (focus (simp; done)); clear hS; intro w hS; simp only [evW, putW] at hS; try simp only [putW]) | (refine storeAll hS rfl rfl rfl rfl ?_ ?_ ?_ ?_; rfl; (focus (simp [Value.oneCell']; done)); rfl; clear hS; intro w hS; try simp only [putW]) | (refine storeN hS rfl rfl rfl rfl ?_ ?_ ?_ ?_; rfl; (focus (simp [Value.oneCell']; done)); (focus (simp; done)); clear hS; intro w hS; simp at hS; try simp only [putW]) | (refine alloc hS rfl rfl ?_; clear hS; intro mb w hS; simp only [putW]) | (refine box1 hS rfl rfl rfl rfl ?_; clear hS; intro mb w hS; try simp only [evW, putW] at hS; simp only [putW]) | (refine boxN hS rfl rfl rfl ?_; clear hS; intro mb w hS; simp only [putW]))
      go_ret
      exact ⟨X, .slice ua X.length uc, rfl, HE.out, HO.out, hS.conv⟩
end
end Go.Proofs.YtpbjkfomdindnaaGreatDoor
