/-
  thimbleref16: First, Parent at a tree's plan.
-/
import Derived.Test.YtdkimdobcacpfaaDoorTrR16
set_option linter.unusedSimpArgs false
set_option linter.unusedVariables false
namespace Go.Proofs.YtdkimdobcacpfaaDoor
open Go.RowKit Go.Proofs.YtdkimdobcacpfaaDoor.Sl Go.Proofs.YtdkimdobcacpfaaDoor.Jp Go.Proofs.YtdkimdobcacpfaaDoor.Tr

/-- The levels of nodes. -/
def lvs (n1 N : Nat) : List Int := if N = n1 then [(n1 : Int)] else [(n1 : Int), 1]
/-- Where what stands in a block is told. -/
def parP (P C n1 N k : Nat) : Option (Nat × Nat) := if k < P then some (P + k / 16, k % 16) else (par C n1 N (k - P)).map fun x => (P + x.1, x.2)
section
variable {w0 w : World} {S : List Chunk} {A : List Int} {lv : Value} {b N H hd J s t : Int} {P C : Nat}
set_option maxHeartbeats 1000000 in
theorem first1 (hP : P ≤ 1000000) (hC : C ≤ 1000000) : Calls Tryd.prog 68 #[.agg (plL P b C lv N H hd J s t).toArray, .int .i64 1] w0 fun e w' => e = .returned (.int .i64 P) ∧ Sat w0 [] w' := by
  have hS := Sat.refl w0
  go_enter Tryd.func68, Tryd.ntmps68
  go_wp2_with (first | (refine load1 hS rfl rfl rfl rfl ?_; simp only [putW]) | (refine loadAll hS rfl rfl rfl ?_ ?_; rfl; simp only [putW]) | (refine loadPart hS rfl rfl rfl ?_ rfl ?_; rfl; simp only [putW]) | (refine store1 hS rfl rfl rfl rfl rfl ?_ ?_; (focus (simp; done)); clear hS; intro w hS; simp only [evW, putW] at hS; try simp only [putW]) | (refine storeAll hS rfl rfl rfl rfl ?_ ?_ ?_ ?_; rfl; (focus (simp [Value.oneCell']; done)); rfl; clear hS; intro w hS; try simp only [putW]) | (refine storeN hS rfl rfl rfl rfl ?_ ?_ ?_ ?_; rfl; (focus (simp [Value.oneCell']; done)); (focus (simp; done)); clear hS; intro w hS; simp at hS; try simp only [putW]) | (refine alloc hS rfl rfl ?_; clear hS; intro mb w hS; simp only [putW]) | (refine box1 hS rfl rfl rfl rfl ?_; clear hS; intro mb w hS; try simp only [evW, putW] at hS; simp only [putW]) | (refine boxN hS rfl rfl rfl ?_; clear hS; intro mb w hS; simp only [putW]))
  go_loopw [5, 6] (fun at' i' wr => at' = .int .i64 P ∧ i' = .int .i64 2 ∧ Sat w0 _ wr) (fun _ _ _ => 0)
  case atStart => exact ⟨rfl, rfl, hS⟩
  case round =>
    clear hS
    obtain ⟨rfl, rfl, hS⟩ := hrel
    go_wp2_with (first | (refine load1 hS rfl rfl rfl rfl ?_; simp only [putW]) | (refine loadAll hS rfl rfl rfl ?_ ?_; rfl; simp only [putW]) | (refine loadPart hS rfl rfl rfl ?_ rfl ?_; rfl; simp only [putW]) | (refine store1 hS rfl rfl rfl rfl rfl ?_ ?_; (focus (simp; done)); clear hS; intro w hS; simp only [evW, putW] at hS; try simp only [putW]) | (refine storeAll hS rfl rfl rfl rfl ?_ ?_ ?_ ?_; rfl; (focus (simp [Value.oneCell']; done)); rfl; clear hS; intro w hS; try simp only [putW]) | (refine storeN hS rfl rfl rfl rfl ?_ ?_ ?_ ?_; rfl; (focus (simp [Value.oneCell']; done)); (focus (simp; done)); clear hS; intro w hS; simp at hS; try simp only [putW]) | (refine alloc hS rfl rfl ?_; clear hS; intro mb w hS; simp only [putW]) | (refine box1 hS rfl rfl rfl rfl ?_; clear hS; intro mb w hS; try simp only [evW, putW] at hS; simp only [putW]) | (refine boxN hS rfl rfl rfl ?_; clear hS; intro mb w hS; simp only [putW]))
    go_ret
    exact ⟨rfl, hS.nothing⟩
set_option maxHeartbeats 1000000 in
theorem first2 (hP : P ≤ 1000000) (hC : C ≤ 1000000) : Calls Tryd.prog 68 #[.agg (plL P b C lv N H hd J s t).toArray, .int .i64 2] w0 fun e w' => e = .returned (.int .i64 ((P : Int) + C)) ∧ Sat w0 [] w' := by
  have hS := Sat.refl w0
  go_enter Tryd.func68, Tryd.ntmps68
  go_wp2_with (first | (refine load1 hS rfl rfl rfl rfl ?_; simp only [putW]) | (refine loadAll hS rfl rfl rfl ?_ ?_; rfl; simp only [putW]) | (refine loadPart hS rfl rfl rfl ?_ rfl ?_; rfl; simp only [putW]) | (refine store1 hS rfl rfl rfl rfl rfl ?_ ?_; (focus (simp; done)); clear hS; intro w hS; simp only [evW, putW] at hS; try simp only [putW]) | (refine storeAll hS rfl rfl rfl rfl ?_ ?_ ?_ ?_; rfl; (focus (simp [Value.oneCell']; done)); rfl; clear hS; intro w hS; try simp only [putW]) | (refine storeN hS rfl rfl rfl rfl ?_ ?_ ?_ ?_; rfl; (focus (simp [Value.oneCell']; done)); (focus (simp; done)); clear hS; intro w hS; simp at hS; try simp only [putW]) | (refine alloc hS rfl rfl ?_; clear hS; intro mb w hS; simp only [putW]) | (refine box1 hS rfl rfl rfl rfl ?_; clear hS; intro mb w hS; try simp only [evW, putW] at hS; simp only [putW]) | (refine boxN hS rfl rfl rfl ?_; clear hS; intro mb w hS; simp only [putW]))
  go_loopw [5, 6] (fun at' i' wr => at' = .int .i64 ((P : Int) + C) ∧ i' = .int .i64 2 ∧ Sat w0 _ wr) (fun _ _ _ => 0)
  case atStart => exact ⟨rfl, rfl, hS⟩
  case round =>
    clear hS
    obtain ⟨rfl, rfl, hS⟩ := hrel
    go_wp2_with (first | (refine load1 hS rfl rfl rfl rfl ?_; simp only [putW]) | (refine loadAll hS rfl rfl rfl ?_ ?_; rfl; simp only [putW]) | (refine loadPart hS rfl rfl rfl ?_ rfl ?_; rfl; simp only [putW]) | (refine store1 hS rfl rfl rfl rfl rfl ?_ ?_; (focus (simp; done)); clear hS; intro w hS; simp only [evW, putW] at hS; try simp only [putW]) | (refine storeAll hS rfl rfl rfl rfl ?_ ?_ ?_ ?_; rfl; (focus (simp [Value.oneCell']; done)); rfl; clear hS; intro w hS; try simp only [putW]) | (refine storeN hS rfl rfl rfl rfl ?_ ?_ ?_ ?_; rfl; (focus (simp [Value.oneCell']; done)); (focus (simp; done)); clear hS; intro w hS; simp at hS; try simp only [putW]) | (refine alloc hS rfl rfl ?_; clear hS; intro mb w hS; simp only [putW]) | (refine box1 hS rfl rfl rfl rfl ?_; clear hS; intro mb w hS; try simp only [evW, putW] at hS; simp only [putW]) | (refine boxN hS rfl rfl rfl ?_; clear hS; intro mb w hS; simp only [putW]))
    go_ret
    exact ⟨rfl, hS.nothing⟩
set_option maxHeartbeats 1000000 in
theorem first3 {n1 : Nat} (hL : RI w0 [(n1 : Int), 1] lv) (hP : P ≤ 1000000) (hC : C ≤ 1000000) (hn : n1 ≤ 1000000) : Calls Tryd.prog 68 #[.agg (plL P b C lv N H hd J s t).toArray, .int .i64 3] w0 fun e w' => e = .returned (.int .i64 ((P : Int) + C + n1)) ∧ Sat w0 [] w' := by
  have hS := Sat.refl w0
  obtain ⟨a, c, rfl, _, hat⟩ := hL.at
  obtain ⟨bl, ol, rfl, hB⟩ := hat (by simp)
  have h0 : [(n1 : Int), 1][0]? = some (n1 : Int) := rfl
  clear hat hL
  simp only [List.length_cons, List.length_nil]
  go_enter Tryd.func68, Tryd.ntmps68
  go_wp2_with (first | (refine load1 hS rfl rfl rfl rfl ?_; simp only [putW]) | (refine loadAll hS rfl rfl rfl ?_ ?_; rfl; simp only [putW]) | (refine loadPart hS rfl rfl rfl ?_ rfl ?_; rfl; simp only [putW]) | (refine store1 hS rfl rfl rfl rfl rfl ?_ ?_; (focus (simp; done)); clear hS; intro w hS; simp only [evW, putW] at hS; try simp only [putW]) | (refine storeAll hS rfl rfl rfl rfl ?_ ?_ ?_ ?_; rfl; (focus (simp [Value.oneCell']; done)); rfl; clear hS; intro w hS; try simp only [putW]) | (refine storeN hS rfl rfl rfl rfl ?_ ?_ ?_ ?_; rfl; (focus (simp [Value.oneCell']; done)); (focus (simp; done)); clear hS; intro w hS; simp at hS; try simp only [putW]) | (refine alloc hS rfl rfl ?_; clear hS; intro mb w hS; simp only [putW]) | (refine box1 hS rfl rfl rfl rfl ?_; clear hS; intro mb w hS; try simp only [evW, putW] at hS; simp only [putW]) | (refine boxN hS rfl rfl rfl ?_; clear hS; intro mb w hS; simp only [putW]))
  go_loopw [5, 6] (fun at' i' wr => ((at' = .int .i64 ((P : Int) + C) ∧ i' = .int .i64 2) ∨ (at' = .int .i64 ((P : Int) + C + n1) ∧ i' = .int .i64 3)) ∧ Sat w0 _ wr) (fun _ i' _ => 3 - (intOf i').toNat)
  case atStart => exact ⟨.inl ⟨rfl, rfl⟩, hS⟩
  case round =>
    clear hS
    obtain ⟨⟨rfl, rfl⟩ | ⟨rfl, rfl⟩, hS⟩ := hrel
    · go_wp2_with (first | (refine loadB (f := i64) hS rfl rfl rfl hB 0 0 ?_ h0 rfl ?_; omega; simp only [putW]) | (refine load1 hS rfl rfl rfl rfl ?_; simp only [putW]) | (refine loadAll hS rfl rfl rfl ?_ ?_; rfl; simp only [putW]) | (refine loadPart hS rfl rfl rfl ?_ rfl ?_; rfl; simp only [putW]) | (refine store1 hS rfl rfl rfl rfl rfl ?_ ?_; (focus (simp; done)); clear hS; intro w hS; simp only [evW, putW] at hS; try simp only [putW]) | (refine storeAll hS rfl rfl rfl rfl ?_ ?_ ?_ ?_; rfl; (focus (simp [Value.oneCell']; done)); rfl; clear hS; intro w hS; try simp only [putW]) | (refine storeN hS rfl rfl rfl rfl ?_ ?_ ?_ ?_; rfl; (focus (simp [Value.oneCell']; done)); (focus (simp; done)); clear hS; intro w hS; simp at hS; try simp only [putW]) | (refine alloc hS rfl rfl ?_; clear hS; intro mb w hS; simp only [putW]) | (refine box1 hS rfl rfl rfl rfl ?_; clear hS; intro mb w hS; try simp only [evW, putW] at hS; simp only [putW]) | (refine boxN hS rfl rfl rfl ?_; clear hS; intro mb w hS; simp only [putW]))
      go_roundw
      case rel => exact ⟨.inr ⟨rfl, rfl⟩, hS⟩
      case measure => simp [intOf]
    · go_wp2_with (first | (refine load1 hS rfl rfl rfl rfl ?_; simp only [putW]) | (refine loadAll hS rfl rfl rfl ?_ ?_; rfl; simp only [putW]) | (refine loadPart hS rfl rfl rfl ?_ rfl ?_; rfl; simp only [putW]) | (refine store1 hS rfl rfl rfl rfl rfl ?_ ?_; (focus (simp; done)); clear hS; intro w hS; simp only [evW, putW] at hS; try simp only [putW]) | (refine storeAll hS rfl rfl rfl rfl ?_ ?_ ?_ ?_; rfl; (focus (simp [Value.oneCell']; done)); rfl; clear hS; intro w hS; try simp only [putW]) | (refine storeN hS rfl rfl rfl rfl ?_ ?_ ?_ ?_; rfl; (focus (simp [Value.oneCell']; done)); (focus (simp; done)); clear hS; intro w hS; simp at hS; try simp only [putW]) | (refine alloc hS rfl rfl ?_; clear hS; intro mb w hS; simp only [putW]) | (refine box1 hS rfl rfl rfl rfl ?_; clear hS; intro mb w hS; try simp only [evW, putW] at hS; simp only [putW]) | (refine boxN hS rfl rfl rfl ?_; clear hS; intro mb w hS; simp only [putW]))
      go_ret
      exact ⟨rfl, hS.nothing⟩
set_option maxHeartbeats 1000000 in
theorem parent_top {A : List Int} (hL : RI w0 A lv) (hlA : A.length ≤ 1000) {k : Nat} {r i : Int}
    (hlev2 : ∀ w, Sat w0 [] w → Calls Tryd.prog 67 #[.agg (plL P b C lv N H hd J s t).toArray, .int .i64 k] w fun e w' => e = .returned (.tuple #[.int .i64 r, .int .i64 i]) ∧ Sat w [] w') (hr : r = A.length + 1) :
    Calls Tryd.prog 42 #[.agg (plL P b C lv N H hd J s t).toArray, .int .i64 k] w0 fun e w' => e = .returned (.tuple #[.agg #[.int .i64 0, .int .i64 0], .int .i64 5]) ∧ Sat w0 [] w' := by
  have hS := Sat.refl w0
  obtain ⟨a, c, rfl, _, hat⟩ := hL.at
  clear hat hL
  subst hr
  go_enter Tryd.func42, Tryd.ntmps42
  have tok : True := trivial
  go_wp2_with (first | (have _t := tok; refine alloc hS rfl rfl ?_; clear hS tok; intro m4 w hS; simp only [putW]) | (go_at_call 67; refine Calls.mono (hlev2 _ hS.nothing) ?_; rintro _ w2 ⟨rfl, h2⟩; replace hS := hS.frame h2; clear h2; (try simp only [List.cons_append, List.nil_append] at hS); simp only [putW]) | (refine load1 hS rfl rfl rfl rfl ?_; simp only [putW]) | (refine loadAll hS rfl rfl rfl ?_ ?_; rfl; simp only [putW]) | (refine loadPart hS rfl rfl rfl ?_ rfl ?_; rfl; simp only [putW]) | (refine store1 hS rfl rfl rfl rfl rfl ?_ ?_; (focus (simp; done)); clear hS; intro w hS; simp only [evW, putW] at hS; try simp only [putW]) | (refine storeAll hS rfl rfl rfl rfl ?_ ?_ ?_ ?_; rfl; (focus (simp [Value.oneCell']; done)); rfl; clear hS; intro w hS; try simp only [putW]) | (refine storeN hS rfl rfl rfl rfl ?_ ?_ ?_ ?_; rfl; (focus (simp [Value.oneCell']; done)); (focus (simp; done)); clear hS; intro w hS; simp at hS; try simp only [putW]) | (refine alloc hS rfl rfl ?_; clear hS; intro mb w hS; simp only [putW]) | (refine box1 hS rfl rfl rfl rfl ?_; clear hS; intro mb w hS; try simp only [evW, putW] at hS; simp only [putW]) | (refine boxN hS rfl rfl rfl ?_; clear hS; intro mb w hS; simp only [putW]))
  have hr := run_loadAll (P := Tryd.prog) hS m4 105 rfl
  exact bodyPost_ret (v := .tuple #[.agg #[.int .i64 0, .int .i64 0], .int .i64 5]) (by simp [results, Tryd.results42, asAddr, hr]) rfl ⟨rfl, hS.nothing⟩
set_option maxHeartbeats 1000000 in
theorem parent_page {A : List Int} (hL : RI w0 A lv) (hlA : A.length ≤ 1000) (hP : P ≤ 1000000) (hC : C ≤ 1000000) {k : Nat} {i : Nat} (hi : i ≤ 1000000)
    (hlev2 : ∀ w, Sat w0 [] w → Calls Tryd.prog 67 #[.agg (plL P b C lv N H hd J s t).toArray, .int .i64 k] w fun e w' => e = .returned (.tuple #[.int .i64 0, .int .i64 i]) ∧ Sat w [] w') :
    Calls Tryd.prog 42 #[.agg (plL P b C lv N H hd J s t).toArray, .int .i64 k] w0 fun e w' => e = .returned (.tuple #[.agg #[.int .i64 ((P + i / 16 : Nat) : Int), .int .i64 ((i % 16 : Nat) : Int)], .int .i64 0]) ∧ Sat w0 [] w' := by
  have hS := Sat.refl w0
  obtain ⟨a, c, rfl, _, hat⟩ := hL.at
  clear hat hL
  go_enter Tryd.func42, Tryd.ntmps42
  have tok : True := trivial
  go_wp2_with (first | (have _t := tok; refine alloc hS rfl rfl ?_; clear hS tok; intro m4 w hS; simp only [putW]) | (go_at_call 67; refine Calls.mono (hlev2 _ hS.nothing) ?_; rintro _ w2 ⟨rfl, h2⟩; replace hS := hS.frame h2; clear h2; (try simp only [List.cons_append, List.nil_append] at hS); simp only [putW]) | (go_at_call 68; refine Calls.mono (first1 hP hC) ?_; rintro _ w2 ⟨rfl, h2⟩; replace hS := hS.frame h2; clear h2; (try simp only [List.cons_append, List.nil_append] at hS); simp only [putW]) | (refine load1 hS rfl rfl rfl rfl ?_; simp only [putW]) | (refine loadAll hS rfl rfl rfl ?_ ?_; rfl; simp only [putW]) | (refine loadPart hS rfl rfl rfl ?_ rfl ?_; rfl; simp only [putW]) | (refine store1 hS rfl rfl rfl rfl rfl ?_ ?_; (focus (simp; done)); clear hS; intro w hS; simp only [evW, putW] at hS; try simp only [putW]) | (refine storeAll hS rfl rfl rfl rfl ?_ ?_ ?_ ?_; rfl; (focus (simp [Value.oneCell']; done)); rfl; clear hS; intro w hS; try simp only [putW]) | (refine storeN hS rfl rfl rfl rfl ?_ ?_ ?_ ?_; rfl; (focus (simp [Value.oneCell']; done)); (focus (simp; done)); clear hS; intro w hS; simp at hS; try simp only [putW]) | (refine alloc hS rfl rfl ?_; clear hS; intro mb w hS; simp only [putW]) | (refine box1 hS rfl rfl rfl rfl ?_; clear hS; intro mb w hS; try simp only [evW, putW] at hS; simp only [putW]) | (refine boxN hS rfl rfl rfl ?_; clear hS; intro mb w hS; simp only [putW]))
  have hr := run_loadAll (P := Tryd.prog) hS m4 105 rfl
  exact bodyPost_ret (v := .tuple #[.agg #[.int .i64 ((P + i / 16 : Nat) : Int), .int .i64 ((i % 16 : Nat) : Int)], .int .i64 0]) (by simp [results, Tryd.results42, asAddr, hr]) rfl ⟨rfl, hS.nothing⟩
set_option maxHeartbeats 1000000 in
theorem parent_mid {A : List Int} (hL : RI w0 A lv) (hlA : A.length ≤ 1000) {f q : Nat} (hf : f ≤ 1000000) {k : Nat} {i : Nat} (hi : i ≤ 1000000) (hq : 0 < q) (hq2 : q < A.length + 1)
    (hlev2 : ∀ w, Sat w0 [] w → Calls Tryd.prog 67 #[.agg (plL P b C lv N H hd J s t).toArray, .int .i64 k] w fun e w' => e = .returned (.tuple #[.int .i64 q, .int .i64 i]) ∧ Sat w [] w')
    (hfst : ∀ w, Sat w0 [] w → Calls Tryd.prog 68 #[.agg (plL P b C lv N H hd J s t).toArray, .int .i64 ((q : Int) + 1)] w fun e w' => e = .returned (.int .i64 f) ∧ Sat w [] w') :
    Calls Tryd.prog 42 #[.agg (plL P b C lv N H hd J s t).toArray, .int .i64 k] w0 fun e w' => e = .returned (.tuple #[.agg #[.int .i64 ((f + i / 8 : Nat) : Int), .int .i64 ((i % 8 : Nat) : Int)], .int .i64 0]) ∧ Sat w0 [] w' := by
  have hS := Sat.refl w0
  obtain ⟨a, c, rfl, _, hat⟩ := hL.at
  clear hat hL
  go_enter Tryd.func42, Tryd.ntmps42
  have tok : True := trivial
  go_wp2_with (first | (have _t := tok; refine alloc hS rfl rfl ?_; clear hS tok; intro m4 w hS; simp only [putW]) | (go_at_call 67; refine Calls.mono (hlev2 _ hS.nothing) ?_; rintro _ w2 ⟨rfl, h2⟩; replace hS := hS.frame h2; clear h2; (try simp only [List.cons_append, List.nil_append] at hS); simp only [putW]) | (go_at_call 68; refine Calls.mono (hfst _ hS.nothing) ?_; rintro _ w2 ⟨rfl, h2⟩; replace hS := hS.frame h2; clear h2; (try simp only [List.cons_append, List.nil_append] at hS); simp only [putW]) | (refine load1 hS rfl rfl rfl rfl ?_; simp only [putW]) | (refine loadAll hS rfl rfl rfl ?_ ?_; rfl; simp only [putW]) | (refine loadPart hS rfl rfl rfl ?_ rfl ?_; rfl; simp only [putW]) | (refine store1 hS rfl rfl rfl rfl rfl ?_ ?_; (focus (simp; done)); clear hS; intro w hS; simp only [evW, putW] at hS; try simp only [putW]) | (refine storeAll hS rfl rfl rfl rfl ?_ ?_ ?_ ?_; rfl; (focus (simp [Value.oneCell']; done)); rfl; clear hS; intro w hS; try simp only [putW]) | (refine storeN hS rfl rfl rfl rfl ?_ ?_ ?_ ?_; rfl; (focus (simp [Value.oneCell']; done)); (focus (simp; done)); clear hS; intro w hS; simp at hS; try simp only [putW]) | (refine alloc hS rfl rfl ?_; clear hS; intro mb w hS; simp only [putW]) | (refine box1 hS rfl rfl rfl rfl ?_; clear hS; intro mb w hS; try simp only [evW, putW] at hS; simp only [putW]) | (refine boxN hS rfl rfl rfl ?_; clear hS; intro mb w hS; simp only [putW]))
  have hr := run_loadAll (P := Tryd.prog) hS m4 105 rfl
  exact bodyPost_ret (v := .tuple #[.agg #[.int .i64 ((f + i / 8 : Nat) : Int), .int .i64 ((i % 8 : Nat) : Int)], .int .i64 0]) (by simp [results, Tryd.results42, asAddr, hr]) rfl ⟨rfl, hS.nothing⟩
/-- A place, or that there is none. -/
def parV : Option (Nat × Nat) → Value
  | some x => .tuple #[.agg #[.int .i64 (x.1 : Int), .int .i64 (x.2 : Int)], .int .i64 0]
  | none => .tuple #[.agg #[.int .i64 0, .int .i64 0], .int .i64 5]
theorem refParent_any {n1 N' k : Nat} (hL : RI w0 (lvs n1 N') lv) (hP : P ≤ 100000) (hC : C ≤ 100000) (hn : n1 ≤ 100000) (hN : (N' = n1 ∧ n1 = 1) ∨ (N' = n1 + 1 ∧ 2 ≤ n1)) (hk : k < P + C + N') :
    Calls Tryd.prog 42 #[.agg (plL P b C lv N H hd J s t).toArray, .int .i64 k] w0 fun e w' => e = .returned (parV (parP P C n1 N' k)) ∧ Sat w0 [] w' := by
  have hA : ∀ x ∈ lvs n1 N', 0 ≤ x ∧ x ≤ 1000000 := by
    unfold lvs
    intro x hx
    split at hx
    · rw [List.mem_singleton.1 hx]; omega
    · simp only [List.mem_cons, List.not_mem_nil, or_false] at hx
      rcases hx with rfl | rfl <;> omega
  have hll : (lvs n1 N').length ≤ 2 := by unfold lvs; split <;> simp
  have lev : ∀ {r i : Int}, lvlF ([(P : Int), (C : Int)] ++ lvs n1 N') 0 k = (r, i) → ∀ w, Sat w0 [] w → Calls Tryd.prog 67 #[.agg (plL P b C lv N H hd J s t).toArray, .int .i64 k] w fun e w' => e = .returned (.tuple #[.int .i64 r, .int .i64 i]) ∧ Sat w [] w' :=
    fun hr w h => level_any (hL.mono h.base) hA (by omega) (by omega) (by omega) k (by omega) hr
  by_cases h1 : k < P
  · have e : lvlF ([(P : Int), (C : Int)] ++ lvs n1 N') 0 k = (0, (k : Int)) := by
      rw [List.cons_append, lvlF, if_pos (by omega)]
    rw [parP, if_pos h1]
    exact parent_page hL (by omega) (by omega) (by omega) (by omega) (lev e)
  · by_cases h2 : k < P + C
    · have e : lvlF ([(P : Int), (C : Int)] ++ lvs n1 N') 0 k = (((1 : Nat) : Int), ((k - P : Nat) : Int)) := by
        rw [List.cons_append, List.cons_append, lvlF, if_neg (by omega), lvlF, if_pos (by omega)]
        simp; omega
      rw [parP, if_neg h1, par, if_pos (by omega)]
      refine (parent_mid (q := 1) (f := P + C) hL (by omega) (by omega) (i := k - P) (by omega) (by omega) (by unfold lvs; split <;> simp) (lev e) (fun w h => first2 (by omega) (by omega))).mono fun e w' h => ⟨h.1.trans ?_, h.2⟩
      simp only [Option.map_some, parV]
      rw [Nat.add_assoc]
    · rcases hN with ⟨rfl, hN⟩ | ⟨rfl, hN⟩
      · have hl : lvs N' N' = [(N' : Int)] := by rw [lvs, if_pos rfl]
        have e : lvlF ([(P : Int), (C : Int)] ++ lvs N' N') 0 k = (2, 0) := by
          rw [hl, List.cons_append, List.cons_append, lvlF, if_neg (by omega), lvlF, if_neg (by omega), List.nil_append, lvlF, if_pos (by omega)]
          simp; omega
        rw [parP, if_neg h1, par, if_neg (by omega), if_neg (by omega)]
        exact parent_top hL (by omega) (lev e) (by rw [hl]; rfl)
      · have hl : lvs n1 (n1 + 1) = [(n1 : Int), 1] := by rw [lvs, if_neg (by omega)]
        by_cases h3 : k < P + C + n1
        · have e : lvlF ([(P : Int), (C : Int)] ++ lvs n1 (n1 + 1)) 0 k = (((2 : Nat) : Int), ((k - P - C : Nat) : Int)) := by
            rw [hl, List.cons_append, List.cons_append, lvlF, if_neg (by omega), lvlF, if_neg (by omega), List.nil_append, lvlF, if_pos (by omega)]
            simp; omega
          rw [parP, if_neg h1, par, if_neg (by omega), if_pos (by omega)]
          refine (parent_mid (q := 2) (f := P + C + n1) hL (by omega) (by omega) (i := k - P - C) (by omega) (by omega) (by rw [hl]; simp) (lev e) (fun w h => first3 (by rw [← hl]; exact hL.mono h.base) (by omega) (by omega) (by omega))).mono fun e w' h => ⟨h.1.trans ?_, h.2⟩
          simp only [Option.map_some, parV]
          rw [show P + (C + n1 + (k - P - C) / 8) = P + C + n1 + (k - P - C) / 8 by omega]
        · have e : lvlF ([(P : Int), (C : Int)] ++ lvs n1 (n1 + 1)) 0 k = (3, 0) := by
            rw [hl, List.cons_append, List.cons_append, lvlF, if_neg (by omega), lvlF, if_neg (by omega), List.nil_append, lvlF, if_neg (by omega), lvlF, if_pos (by omega)]
            simp; omega
          rw [parP, if_neg h1, par, if_neg (by omega), if_neg (by omega)]
          exact parent_top hL (by omega) (lev e) (by rw [hl]; rfl)
end
end Go.Proofs.YtdkimdobcacpfaaDoor
