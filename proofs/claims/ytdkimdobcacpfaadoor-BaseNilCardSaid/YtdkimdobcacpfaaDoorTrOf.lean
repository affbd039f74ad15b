/-
  thimbleref16.Of at 300 pages at most.
-/
import Derived.Test.YtdkimdobcacpfaaDoorTrR16b
set_option linter.unusedSimpArgs false
set_option linter.unusedVariables false
namespace Go.Proofs.YtdkimdobcacpfaaDoor
open Go.RowKit Go.Proofs.YtdkimdobcacpfaaDoor.Sl Go.Proofs.YtdkimdobcacpfaaDoor.Jp Go.Proofs.YtdkimdobcacpfaaDoor.Tr

def cC (P : Nat) : Nat := (P + 15) / 16
def cL (P : Nat) : Nat := (cC P + 7) / 8
def cN (P : Nat) : Nat := if cL P = 1 then 1 else cL P + 1
theorem cN_or {P : Nat} (h : 1 ≤ P) : (cN P = cL P ∧ cL P = 1) ∨ (cN P = cL P + 1 ∧ 2 ≤ cL P) := by
  have h1 : 1 ≤ cL P := by unfold cL cC; omega
  unfold cN
  split
  · left; omega
  · right; omega
theorem c_le {P : Nat} (h : P ≤ 300) : cC P ≤ 19 ∧ cL P ≤ 3 := by unfold cL cC; omega
/-- The plan of so many pages and a budget of four. -/
abbrev planC (P : Nat) (lv : Value) : List Value := plL P 4 (cC P : Nat) lv (cN P : Nat) ((P : Int) + (cC P : Nat) + (cN P : Nat)) 1 ((P : Int) + (cC P : Nat) + (cN P : Nat) + 1) ((P : Int) + (cC P : Nat) + (cN P : Nat) + 1 + 4) ((P : Int) + (cC P : Nat) + (cN P : Nat) + 1 + 4 + 4)
section
variable {w0 w : World} {S : List Chunk}
theorem begun_lit {w : World} (n s : Nat) (c : Int) (h : ((ceil n s : Nat) : Int) = c) (hn : n ≤ 1000000) (hs : 0 < s) (hs2 : s ≤ 1000) : Calls Tryd.prog 66 #[.int .i64 n, .int .i64 s] w fun e w' => e = .returned (.int .i64 c) ∧ Sat w [] w' := by
  subst h
  exact begun_any n s hn hs hs2
set_option maxHeartbeats 2000000 in
theorem refOf_made (P : Nat) (h1 : 1 ≤ P) (h3 : P ≤ 300) : Calls Tryd.prog 40 #[.int .i64 P, .int .i64 4] w0 fun e w' => ∃ lv, e = .returned (.tuple #[.agg (planC P lv).toArray, .int .i64 0]) ∧ Sat w0 [(blk lv, sl 1 i64 (lvs (cL P) (cN P)) 3 lv)] w' := by
  have hS := Sat.refl w0
  have hC := (c_le h3).1
  have hL := (c_le h3).2
  have hN := cN_or h1
  have e1 : ((ceil P 16 : Nat) : Int) = (cC P : Nat) := rfl
  have e2 : ((ceil (cC P) 8 : Nat) : Int) = (cL P : Nat) := rfl
  have hq1 : 1 ≤ cL P := by unfold cL cC; omega
  have e3 : ((ceil (cL P) 8 : Nat) : Int) = 1 := by unfold ceil; omega
  have e4 : ((ceil 28 256 : Nat) : Int) = 1 := rfl
  unfold planC
  generalize cN P = n at *
  generalize cL P = q at *
  generalize cC P = c at *
  have E1 : Bx _ := ⟨e1⟩
  have E2 : Bx _ := ⟨e2⟩
  have E3 : Bx _ := ⟨e3⟩
  have E4 : Bx _ := ⟨e4⟩
  clear e1 e2 e3 e4
  go_enter Tryd.func40, Tryd.ntmps40
  have tok : True := trivial
  go_wp2_with (first | (guard_target =~ Calls _ 66 _ _ _; refine Stopped.out ?_) | (have _t := tok; refine alloc hS rfl rfl ?_; clear hS tok; intro m4 w hS; simp only [putW]) | (refine alloc hS rfl rfl ?_; clear hS; intro m6 w hS; simp only [putW]) | (refine load1 hS rfl rfl rfl rfl ?_; simp only [putW]) | (refine loadAll hS rfl rfl rfl ?_ ?_; rfl; simp only [putW]) | (refine loadPart hS rfl rfl rfl ?_ rfl ?_; rfl; simp only [putW]) | (refine store1 hS rfl rfl rfl rfl rfl ?_ ?_; (focus (simp; done)); clear hS; intro w hS; simp only [evW, putW] at hS; try simp only [putW]) | (refine storeAll hS rfl rfl rfl rfl ?_ ?_ ?_ ?_; rfl; (focus (simp [Value.oneCell']; done)); rfl; clear hS; intro w hS; try simp only [putW]) | (refine storeN hS rfl rfl rfl rfl ?_ ?_ ?_ ?_; rfl; (focus (simp [Value.oneCell']; done)); (focus (simp; done)); clear hS; intro w hS; simp at hS; try simp only [putW]) | (refine alloc hS rfl rfl ?_; clear hS; intro mb w hS; simp only [putW]) | (refine box1 hS rfl rfl rfl rfl ?_; clear hS; intro mb w hS; try simp only [evW, putW] at hS; simp only [putW]) | (refine boxN hS rfl rfl rfl ?_; clear hS; intro mb w hS; simp only [putW]))
  refine ⟨?_⟩
  (refine Calls.mono (begun_lit P 16 c E1.out (by omega) (by omega) (by omega)) ?_; rintro _ w2 ⟨rfl, h2⟩; replace hS := hS.frame h2; clear h2; (try simp only [List.cons_append, List.nil_append] at hS); simp only [putW])
  go_wp2_with (first | (guard_target =~ Calls _ 66 _ _ _; refine Stopped.out ?_) | (refine load1 hS rfl rfl rfl rfl ?_; simp only [putW]) | (refine loadAll hS rfl rfl rfl ?_ ?_; rfl; simp only [putW]) | (refine loadPart hS rfl rfl rfl ?_ rfl ?_; rfl; simp only [putW]) | (refine store1 hS rfl rfl rfl rfl rfl ?_ ?_; (focus (simp; done)); clear hS; intro w hS; simp only [evW, putW] at hS; try simp only [putW]) | (refine storeAll hS rfl rfl rfl rfl ?_ ?_ ?_ ?_; rfl; (focus (simp [Value.oneCell']; done)); rfl; clear hS; intro w hS; try simp only [putW]) | (refine storeN hS rfl rfl rfl rfl ?_ ?_ ?_ ?_; rfl; (focus (simp [Value.oneCell']; done)); (focus (simp; done)); clear hS; intro w hS; simp at hS; try simp only [putW]) | (refine alloc hS rfl rfl ?_; clear hS; intro mb w hS; simp only [putW]) | (refine box1 hS rfl rfl rfl rfl ?_; clear hS; intro mb w hS; try simp only [evW, putW] at hS; simp only [putW]) | (refine boxN hS rfl rfl rfl ?_; clear hS; intro mb w hS; simp only [putW]))
  refine ⟨?_⟩
  (refine Calls.mono (begun_lit c 8 q E2.out (by omega) (by omega) (by omega)) ?_; rintro _ w2 ⟨rfl, h2⟩; replace hS := hS.frame h2; clear h2; (try simp only [List.cons_append, List.nil_append] at hS); simp only [putW])
  go_wp2_with (first | (refine buildSlice1 (c := #[.int .i64 q]) hS rfl rfl rfl ?_ ?_ ?_ ?_; rfl; rfl; rfl; clear hS; intro mb w hS; simp only [putW]) | (refine load1 hS rfl rfl rfl rfl ?_; simp only [putW]) | (refine loadAll hS rfl rfl rfl ?_ ?_; rfl; simp only [putW]) | (refine loadPart hS rfl rfl rfl ?_ rfl ?_; rfl; simp only [putW]) | (refine store1 hS rfl rfl rfl rfl rfl ?_ ?_; (focus (simp; done)); clear hS; intro w hS; simp only [evW, putW] at hS; try simp only [putW]) | (refine storeAll hS rfl rfl rfl rfl ?_ ?_ ?_ ?_; rfl; (focus (simp [Value.oneCell']; done)); rfl; clear hS; intro w hS; try simp only [putW]) | (refine storeN hS rfl rfl rfl rfl ?_ ?_ ?_ ?_; rfl; (focus (simp [Value.oneCell']; done)); (focus (simp; done)); clear hS; intro w hS; simp at hS; try simp only [putW]) | (refine alloc hS rfl rfl ?_; clear hS; intro mb w hS; simp only [putW]) | (refine box1 hS rfl rfl rfl rfl ?_; clear hS; intro mb w hS; try simp only [evW, putW] at hS; simp only [putW]) | (refine boxN hS rfl rfl rfl ?_; clear hS; intro mb w hS; simp only [putW]))
  have hS1 := (hS.pull mb).toSlc (l := [(q : Int)]) (cap := 1) (n := 1) (f := i64) (by simp) (by simp) (by simp [maxLen]) (by simp [one]) (fun _ _ => rfl)
  replace hS1 := hS1.slOfSlc
  clear hS
  have hS := hS1
  clear hS1
  simp only [List.length_cons, List.length_nil, Nat.zero_add] at hS
  obtain ⟨g0, rfl⟩ : ∃ g0, g0 = mb := ⟨_, rfl⟩
  rcases hN with ⟨rfl, rfl⟩ | ⟨rfl, hq⟩
  · go_loopw [7] (fun c' wr => c' = .int .i64 ((1 : Nat) : Int) ∧ Sat w0 _ wr) (fun _ _ => 0)
    case atStart => exact ⟨rfl, hS⟩
    case round =>
      clear hS
      obtain ⟨rfl, hS⟩ := hrel
      go_wp2_with (first | (go_at_call 66; refine Calls.mono (begun_lit 28 256 1 E4.out (by omega) (by omega) (by omega)) ?_; rintro _ w2 ⟨rfl, h2⟩; replace hS := hS.frame h2; clear h2; (try simp only [List.cons_append, List.nil_append] at hS); simp only [putW]) | (refine load1 hS rfl rfl rfl rfl ?_; simp only [putW]) | (refine loadAll hS rfl rfl rfl ?_ ?_; rfl; simp only [putW]) | (refine loadPart hS rfl rfl rfl ?_ rfl ?_; rfl; simp only [putW]) | (refine store1 hS rfl rfl rfl rfl rfl ?_ ?_; (focus (simp; done)); clear hS; intro w hS; simp only [evW, putW] at hS; try simp only [putW]) | (refine storeAll hS rfl rfl rfl rfl ?_ ?_ ?_ ?_; rfl; (focus (simp [Value.oneCell']; done)); rfl; clear hS; intro w hS; try simp only [putW]) | (refine storeN hS rfl rfl rfl rfl ?_ ?_ ?_ ?_; rfl; (focus (simp [Value.oneCell']; done)); (focus (simp; done)); clear hS; intro w hS; simp at hS; try simp only [putW]) | (refine alloc hS rfl rfl ?_; clear hS; intro mb w hS; simp only [putW]) | (refine box1 hS rfl rfl rfl rfl ?_; clear hS; intro mb w hS; try simp only [evW, putW] at hS; simp only [putW]) | (refine boxN hS rfl rfl rfl ?_; clear hS; intro mb w hS; simp only [putW]))
      have hr := run_loadAll (P := Tryd.prog) hS m4 60 rfl
      refine bodyPost_ret (v := .tuple #[.agg (plL P 4 c (.slice (some ⟨g0, 0, none⟩) 1 1) 1 ((P : Int) + c + 1) 1 ((P : Int) + c + 1 + 1) ((P : Int) + c + 1 + 1 + 4) ((P : Int) + c + 1 + 1 + 4 + 4)).toArray, .int .i64 0]) (by simp [results, Tryd.results40, asAddr, hr]) rfl ⟨.slice (some ⟨g0, 0, none⟩) 1 1, rfl, ?_⟩
      rw [lvs, if_pos rfl]
      exact (hS.conv : Sat w0 [(g0, sl 1 i64 [((1 : Nat) : Int)] 3 (.slice (some ⟨g0, 0, none⟩) 1 1))] w)
  · go_loopw [7] (fun c' wr => (c' = .int .i64 (q : Int) ∧ Sat w0 _ wr) ∨ (c' = .int .i64 1 ∧ ∃ g cap, Sat w0 [(m6, cells #[.int .i64 P, .int .i64 4, .int .i64 c, .slice (some ⟨g, 0, none⟩) 2 cap, .int .i64 ((q : Int) + 1), .int .i64 0, .int .i64 0, .int .i64 0, .int .i64 0, .int .i64 0] 60), (g, sl 1 i64 [(q : Int), 1] 3 (.slice (some ⟨g, 0, none⟩) 2 cap)), (m4, cells noPlan.toArray 60)] wr)) (fun c' _ => (intOf c').toNat)
    case atStart => exact .inl ⟨rfl, hS⟩
    case round =>
      clear hS
      rcases hrel with ⟨rfl, hS⟩ | ⟨rfl, g, cap, hS⟩
      · go_wp2_with (first | (guard_target =~ Calls _ 66 _ _ _; refine Stopped.out ?_) | (refine load1 hS rfl rfl rfl rfl ?_; simp only [putW]) | (refine loadAll hS rfl rfl rfl ?_ ?_; rfl; simp only [putW]) | (refine loadPart hS rfl rfl rfl ?_ rfl ?_; rfl; simp only [putW]) | (refine store1 hS rfl rfl rfl rfl rfl ?_ ?_; (focus (simp; done)); clear hS; intro w hS; simp only [evW, putW] at hS; try simp only [putW]) | (refine storeAll hS rfl rfl rfl rfl ?_ ?_ ?_ ?_; rfl; (focus (simp [Value.oneCell']; done)); rfl; clear hS; intro w hS; try simp only [putW]) | (refine storeN hS rfl rfl rfl rfl ?_ ?_ ?_ ?_; rfl; (focus (simp [Value.oneCell']; done)); (focus (simp; done)); clear hS; intro w hS; simp at hS; try simp only [putW]) | (refine alloc hS rfl rfl ?_; clear hS; intro mb w hS; simp only [putW]) | (refine box1 hS rfl rfl rfl rfl ?_; clear hS; intro mb w hS; try simp only [evW, putW] at hS; simp only [putW]) | (refine boxN hS rfl rfl rfl ?_; clear hS; intro mb w hS; simp only [putW]))
        refine ⟨?_⟩
        (refine Calls.mono (begun_lit q 8 1 E3.out (by omega) (by omega) (by omega)) ?_; rintro _ w2 ⟨rfl, h2⟩; replace hS := hS.frame h2; clear h2; (try simp only [List.cons_append, List.nil_append] at hS); simp only [putW])
        go_wp2_with (first | (refine buildSlice1 (c := #[.int .i64 1]) hS rfl rfl rfl ?_ ?_ ?_ ?_; rfl; rfl; rfl; clear hS; intro mb w hS; simp only [putW]) | (refine append1 (f := i64) hS rfl rfl (.slice (some ⟨g0, 0, none⟩) 1 1) rfl rfl 1 ?_ ?_ ?_ ?_ ?_ ?_; rfl; (focus (simp [i64, one, Value.oneCell']; done)); rfl; (focus (first | omega | (simp [maxLen]; done) | (simp [maxLen]; omega))); (focus (first | omega | (simp [maxLen]; done) | (simp [maxLen]; omega))); clear hS; intro v' w hS; obtain ⟨g, cap, hv', hS3⟩ := hS.slSome (by simp); clear hS; subst hv'; have hS := hS3; clear hS3; simp only [putW]) | (refine load1 hS rfl rfl rfl rfl ?_; simp only [putW]) | (refine loadAll hS rfl rfl rfl ?_ ?_; rfl; simp only [putW]) | (refine loadPart hS rfl rfl rfl ?_ rfl ?_; rfl; simp only [putW]) | (refine store1 hS rfl rfl rfl rfl rfl ?_ ?_; (focus (simp; done)); clear hS; intro w hS; simp only [evW, putW] at hS; try simp only [putW]) | (refine storeAll hS rfl rfl rfl rfl ?_ ?_ ?_ ?_; rfl; (focus (simp [Value.oneCell']; done)); rfl; clear hS; intro w hS; try simp only [putW]) | (refine storeN hS rfl rfl rfl rfl ?_ ?_ ?_ ?_; rfl; (focus (simp [Value.oneCell']; done)); (focus (simp; done)); clear hS; intro w hS; simp at hS; try simp only [putW]) | (refine alloc hS rfl rfl ?_; clear hS; intro mb w hS; simp only [putW]) | (refine box1 hS rfl rfl rfl rfl ?_; clear hS; intro mb w hS; try simp only [evW, putW] at hS; simp only [putW]) | (refine boxN hS rfl rfl rfl ?_; clear hS; intro mb w hS; simp only [putW]))
        go_roundw
        case rel =>
          have h1 := ((hS.pull g).slOfSlc)
          simp only [List.cons_append, List.nil_append, List.length_cons, List.length_nil, Nat.zero_add, Nat.reduceAdd] at h1
          exact .inr ⟨rfl, g, cap, (h1.conv : Sat w0 [(m6, cells _ 60), (g, sl 1 i64 [(q : Int), 1] 3 (.slice (some ⟨g, 0, none⟩) 2 cap)), (m4, cells noPlan.toArray 60)] w)⟩
        case measure => simp [intOf]; omega
      · go_wp2_with (first | (go_at_call 66; refine Calls.mono (begun_lit 28 256 1 E4.out (by omega) (by omega) (by omega)) ?_; rintro _ w2 ⟨rfl, h2⟩; replace hS := hS.frame h2; clear h2; (try simp only [List.cons_append, List.nil_append] at hS); simp only [putW]) | (refine load1 hS rfl rfl rfl rfl ?_; simp only [putW]) | (refine loadAll hS rfl rfl rfl ?_ ?_; rfl; simp only [putW]) | (refine loadPart hS rfl rfl rfl ?_ rfl ?_; rfl; simp only [putW]) | (refine store1 hS rfl rfl rfl rfl rfl ?_ ?_; (focus (simp; done)); clear hS; intro w hS; simp only [evW, putW] at hS; try simp only [putW]) | (refine storeAll hS rfl rfl rfl rfl ?_ ?_ ?_ ?_; rfl; (focus (simp [Value.oneCell']; done)); rfl; clear hS; intro w hS; try simp only [putW]) | (refine storeN hS rfl rfl rfl rfl ?_ ?_ ?_ ?_; rfl; (focus (simp [Value.oneCell']; done)); (focus (simp; done)); clear hS; intro w hS; simp at hS; try simp only [putW]) | (refine alloc hS rfl rfl ?_; clear hS; intro mb w hS; simp only [putW]) | (refine box1 hS rfl rfl rfl rfl ?_; clear hS; intro mb w hS; try simp only [evW, putW] at hS; simp only [putW]) | (refine boxN hS rfl rfl rfl ?_; clear hS; intro mb w hS; simp only [putW]))
        have hr := run_loadAll (P := Tryd.prog) hS m4 60 rfl
        refine bodyPost_ret (v := .tuple #[.agg (plL P 4 c (.slice (some ⟨g, 0, none⟩) 2 cap) ((q + 1 : Nat) : Int) ((P : Int) + c + ((q + 1 : Nat) : Int)) 1 ((P : Int) + c + ((q + 1 : Nat) : Int) + 1) ((P : Int) + c + ((q + 1 : Nat) : Int) + 1 + 4) ((P : Int) + c + ((q + 1 : Nat) : Int) + 1 + 4 + 4)).toArray, .int .i64 0]) (by simp [results, Tryd.results40, asAddr, hr]) rfl ⟨.slice (some ⟨g, 0, none⟩) 2 cap, rfl, ?_⟩
        rw [lvs, if_neg (by omega)]
        exact (hS.conv : Sat w0 [(g, sl 1 i64 [(q : Int), 1] 3 (.slice (some ⟨g, 0, none⟩) 2 cap))] w)
end
end Go.Proofs.YtdkimdobcacpfaaDoor
