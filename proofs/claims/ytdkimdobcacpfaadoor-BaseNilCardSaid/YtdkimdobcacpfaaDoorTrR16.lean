/-
  thimbleref16: Level, First, Parent, Of at a tree's plan.
-/
import Derived.Test.YtdkimdobcacpfaaDoorJPlan
import Derived.Test.YtdkimdobcacpfaaDoorTrPlain
import Derived.Test.YtdkimdobcacpfaaDoorSlB
set_option linter.unusedSimpArgs false
set_option linter.unusedVariables false
namespace Go.Proofs.YtdkimdobcacpfaaDoor
open Go.RowKit Go.Proofs.YtdkimdobcacpfaaDoor.Sl Go.Proofs.YtdkimdobcacpfaaDoor.Jp Go.Proofs.YtdkimdobcacpfaaDoor.Tr

/-- A plan's cells. -/
abbrev plL (P b C : Int) (lv : Value) (N H hd J s t : Int) : List Value := [.int .i64 P, .int .i64 b, .int .i64 C, lv, .int .i64 N, .int .i64 H, .int .i64 hd, .int .i64 J, .int .i64 s, .int .i64 t]
/-- In which level a block stands, and where in it. -/
def lvlF : List Int → Int → Int → Int × Int
  | [], _, _ => (-1, 0)
  | a :: l, i, t => if t < a then (i, t) else lvlF l (i + 1) (t - a)
theorem lvlF_drop {A : List Int} {k : Nat} {x : Int} (h : A[k]? = some x) (t : Int) : lvlF (A.drop k) k t = if t < x then ((k : Int), t) else lvlF (A.drop (k + 1)) ((k + 1 : Nat) : Int) (t - x) := by
  obtain ⟨hk, he⟩ := List.getElem?_eq_some_iff.1 h
  rw [List.drop_eq_getElem_cons hk, he, lvlF]
  push_cast
  rfl
section
variable {w0 w : World} {S : List Chunk} {A : List Int} {lv : Value} {P b C N H hd J s t : Int}
set_option maxHeartbeats 1000000 in
theorem level_any (hL : RI w0 A lv) (hA : ∀ x ∈ A, 0 ≤ x ∧ x ≤ 1000000) (hP : 0 ≤ P ∧ P ≤ 1000000) (hC : 0 ≤ C ∧ C ≤ 1000000) (hl : A.length ≤ 1000) (k : Nat) (hk : k ≤ 1000000) {r i : Int} (hr : lvlF ([P, C] ++ A) 0 k = (r, i)) :
    Calls Tryd.prog 67 #[.agg (plL P b C lv N H hd J s t).toArray, .int .i64 k] w0 fun e w' => e = .returned (.tuple #[.int .i64 r, .int .i64 i]) ∧ Sat w0 [] w' := by
  have hS := Sat.refl w0
  have HR : Bx _ := ⟨hr⟩
  have HA : Bx _ := ⟨hA⟩
  clear hr hA
  go_enter Tryd.func67, Tryd.ntmps67
  go_wp2_with (first | (guard_target =~ wpList _ _ _ (Oper.mk (some 15) _ _ _ _ _ :: _) _ _; refine Stopped.out ?_) | (refine load1 hS rfl rfl rfl rfl ?_; simp only [putW]) | (refine loadAll hS rfl rfl rfl ?_ ?_; rfl; simp only [putW]) | (refine loadPart hS rfl rfl rfl ?_ rfl ?_; rfl; simp only [putW]) | (refine store1 hS rfl rfl rfl rfl rfl ?_ ?_; (focus (simp; done)); clear hS; intro w hS; simp only [evW, putW] at hS; try simp only [putW]) | (refine storeAll hS rfl rfl rfl rfl ?_ ?_ ?_ ?_; rfl; (focus (simp [Value.oneCell']; done)); rfl; clear hS; intro w hS; try simp only [putW]) | (refine storeN hS rfl rfl rfl rfl ?_ ?_ ?_ ?_; rfl; (focus (simp [Value.oneCell']; done)); (focus (simp; done)); clear hS; intro w hS; simp at hS; try simp only [putW]) | (refine alloc hS rfl rfl ?_; clear hS; intro mb w hS; simp only [putW]) | (refine box1 hS rfl rfl rfl rfl ?_; clear hS; intro mb w hS; try simp only [evW, putW] at hS; simp only [putW]) | (refine boxN hS rfl rfl rfl ?_; clear hS; intro mb w hS; simp only [putW]))
  refine ⟨?_⟩
  refine buildSlice2 (u0 := .int .i64 P) (u1 := .int .i64 C) hS rfl rfl rfl rfl ?_
  clear hS
  intro m1 w hS
  simp only [putW]
  have h1 := hS.toSlc (l := [P, C]) (cap := 2) (n := 1) (f := i64) (by simp) (by simp) (by simp [maxLen]) (by rfl) (fun _ _ => rfl)
  replace hS := h1.slNil 1 i64 3
  have h2 : RI w [P, C] (.slice (some ⟨m1, 0, none⟩) 2 2) := h1.readsSlc (g := m1) (n := 1) (f := i64) (L := [P, C]) (cap := 2) (t := 3) fun _ _ => trivial
  go_wp2_with (first | (guard_target =~ wpList _ _ _ (Oper.mk (some 16) _ _ _ _ _ :: _) _ _; refine Stopped.out ?_) | (refine load1 hS rfl rfl rfl rfl ?_; simp only [putW]) | (refine loadAll hS rfl rfl rfl ?_ ?_; rfl; simp only [putW]) | (refine loadPart hS rfl rfl rfl ?_ rfl ?_; rfl; simp only [putW]) | (refine store1 hS rfl rfl rfl rfl rfl ?_ ?_; (focus (simp; done)); clear hS; intro w hS; simp only [evW, putW] at hS; try simp only [putW]) | (refine storeAll hS rfl rfl rfl rfl ?_ ?_ ?_ ?_; rfl; (focus (simp [Value.oneCell']; done)); rfl; clear hS; intro w hS; try simp only [putW]) | (refine storeN hS rfl rfl rfl rfl ?_ ?_ ?_ ?_; rfl; (focus (simp [Value.oneCell']; done)); (focus (simp; done)); clear hS; intro w hS; simp at hS; try simp only [putW]) | (refine alloc hS rfl rfl ?_; clear hS; intro mb w hS; simp only [putW]) | (refine box1 hS rfl rfl rfl rfl ?_; clear hS; intro mb w hS; try simp only [evW, putW] at hS; simp only [putW]) | (refine boxN hS rfl rfl rfl ?_; clear hS; intro mb w hS; simp only [putW]))
  refine ⟨?_⟩
  refine appendB (f := i64) hS rfl rfl (.slice none 0 0) rfl rfl [P, C] h2 ?_ ?_ ?_ ?_
  · intro x _ u hu; rw [List.mem_singleton.1 hu]; rfl
  · simp [maxLen]
  · simp
  clear hS h1 h2
  intro v1 w hS
  simp only [putW, List.nil_append] at hS ⊢
  go_wp2_with (first | (guard_target =~ wpList _ _ _ (Oper.mk (some 20) _ _ _ _ _ :: _) _ _; refine Stopped.out ?_) | (refine load1 hS rfl rfl rfl rfl ?_; simp only [putW]) | (refine loadAll hS rfl rfl rfl ?_ ?_; rfl; simp only [putW]) | (refine loadPart hS rfl rfl rfl ?_ rfl ?_; rfl; simp only [putW]) | (refine store1 hS rfl rfl rfl rfl rfl ?_ ?_; (focus (simp; done)); clear hS; intro w hS; simp only [evW, putW] at hS; try simp only [putW]) | (refine storeAll hS rfl rfl rfl rfl ?_ ?_ ?_ ?_; rfl; (focus (simp [Value.oneCell']; done)); rfl; clear hS; intro w hS; try simp only [putW]) | (refine storeN hS rfl rfl rfl rfl ?_ ?_ ?_ ?_; rfl; (focus (simp [Value.oneCell']; done)); (focus (simp; done)); clear hS; intro w hS; simp at hS; try simp only [putW]) | (refine alloc hS rfl rfl ?_; clear hS; intro mb w hS; simp only [putW]) | (refine box1 hS rfl rfl rfl rfl ?_; clear hS; intro mb w hS; try simp only [evW, putW] at hS; simp only [putW]) | (refine boxN hS rfl rfl rfl ?_; clear hS; intro mb w hS; simp only [putW]))
  refine ⟨?_⟩
  refine appendB (f := i64) hS rfl rfl v1 rfl rfl A (hL.mono hS.base) ?_ ?_ ?_ ?_
  · intro x _ u hu; rw [List.mem_singleton.1 hu]; rfl
  · simp [maxLen]; omega
  · simp; omega
  clear hS
  intro v2 w hS
  simp only [putW]
  obtain ⟨B, hB⟩ : ∃ B, [P, C] ++ A = B := ⟨_, rfl⟩
  have hBl : B.length = A.length + 2 := by rw [← hB]; simp
  have hBx : Bx (∀ x ∈ B, 0 ≤ x ∧ x ≤ 1000000) := ⟨fun x hx => by
    rw [← hB] at hx
    rcases List.mem_append.1 hx with hx | hx
    · simp only [List.mem_cons, List.not_mem_nil, or_false] at hx
      rcases hx with rfl | rfl
      · exact hP
      · exact hC
    · exact HA.out x hx⟩
  rw [hB] at hS
  rw [hB] at HR
  clear hB
  obtain ⟨g2, c2, hv2, hS2⟩ := hS.slFormC (A.length + 2) hBl (by omega)
  subst hv2
  clear hS
  have hS := hS2
  clear hS2
  go_wp2_with (first | (refine load1 hS rfl rfl rfl rfl ?_; simp only [putW]) | (refine loadAll hS rfl rfl rfl ?_ ?_; rfl; simp only [putW]) | (refine loadPart hS rfl rfl rfl ?_ rfl ?_; rfl; simp only [putW]) | (refine store1 hS rfl rfl rfl rfl rfl ?_ ?_; (focus (simp; done)); clear hS; intro w hS; simp only [evW, putW] at hS; try simp only [putW]) | (refine storeAll hS rfl rfl rfl rfl ?_ ?_ ?_ ?_; rfl; (focus (simp [Value.oneCell']; done)); rfl; clear hS; intro w hS; try simp only [putW]) | (refine storeN hS rfl rfl rfl rfl ?_ ?_ ?_ ?_; rfl; (focus (simp [Value.oneCell']; done)); (focus (simp; done)); clear hS; intro w hS; simp at hS; try simp only [putW]) | (refine alloc hS rfl rfl ?_; clear hS; intro mb w hS; simp only [putW]) | (refine box1 hS rfl rfl rfl rfl ?_; clear hS; intro mb w hS; try simp only [evW, putW] at hS; simp only [putW]) | (refine boxN hS rfl rfl rfl ?_; clear hS; intro mb w hS; simp only [putW]))
  go_loopw [6, 8] (fun at' i' wr => ∃ (q : Nat) (x : Int), q ≤ A.length + 2 ∧ i' = .int .i64 q ∧ at' = .int .i64 x ∧ (0 ≤ x ∧ x ≤ 1000000) ∧ Bx (lvlF (B.drop q) q x = (r, i)) ∧ Sat w0 _ wr) (fun _ i' _ => A.length + 2 - (intOf i').toNat)
  case atStart => exact ⟨0, k, by omega, rfl, rfl, by omega, HR, hS⟩
  case round =>
    clear hS
    obtain ⟨q, x, hq, rfl, rfl, hx, hinv, hS⟩ := hrel
    by_cases hlt : q < A.length + 2
    · obtain ⟨y, hy⟩ : ∃ y, B[q]? = some y := ⟨_, List.getElem?_eq_getElem (by omega)⟩
      have hyb := hBx.out y (List.mem_of_getElem? hy)
      have hst := lvlF_drop hy x
      by_cases hxy : x < y
      · rw [if_pos hxy] at hst
        have e := hinv.out.symm.trans hst
        injection e with e1 e2
        subst e1; subst e2
        clear hst
        go_wp2_with (first | (refine loadS1 (v1 := Value.int .i64) hS rfl rfl rfl hy ?_; simp only [putW]) | (refine load1 hS rfl rfl rfl rfl ?_; simp only [putW]) | (refine loadAll hS rfl rfl rfl ?_ ?_; rfl; simp only [putW]) | (refine loadPart hS rfl rfl rfl ?_ rfl ?_; rfl; simp only [putW]) | (refine store1 hS rfl rfl rfl rfl rfl ?_ ?_; (focus (simp; done)); clear hS; intro w hS; simp only [evW, putW] at hS; try simp only [putW]) | (refine storeAll hS rfl rfl rfl rfl ?_ ?_ ?_ ?_; rfl; (focus (simp [Value.oneCell']; done)); rfl; clear hS; intro w hS; try simp only [putW]) | (refine storeN hS rfl rfl rfl rfl ?_ ?_ ?_ ?_; rfl; (focus (simp [Value.oneCell']; done)); (focus (simp; done)); clear hS; intro w hS; simp at hS; try simp only [putW]) | (refine alloc hS rfl rfl ?_; clear hS; intro mb w hS; simp only [putW]) | (refine box1 hS rfl rfl rfl rfl ?_; clear hS; intro mb w hS; try simp only [evW, putW] at hS; simp only [putW]) | (refine boxN hS rfl rfl rfl ?_; clear hS; intro mb w hS; simp only [putW]))
        go_ret2
        exact ⟨rfl, hS.nothing⟩
      · rw [if_neg hxy] at hst
        have hinv2 : Bx _ := ⟨hst.symm.trans hinv.out⟩
        clear hst
        go_wp2_with (first | (refine loadS1 (v1 := Value.int .i64) hS rfl rfl rfl hy ?_; simp only [putW]) | (refine load1 hS rfl rfl rfl rfl ?_; simp only [putW]) | (refine loadAll hS rfl rfl rfl ?_ ?_; rfl; simp only [putW]) | (refine loadPart hS rfl rfl rfl ?_ rfl ?_; rfl; simp only [putW]) | (refine store1 hS rfl rfl rfl rfl rfl ?_ ?_; (focus (simp; done)); clear hS; intro w hS; simp only [evW, putW] at hS; try simp only [putW]) | (refine storeAll hS rfl rfl rfl rfl ?_ ?_ ?_ ?_; rfl; (focus (simp [Value.oneCell']; done)); rfl; clear hS; intro w hS; try simp only [putW]) | (refine storeN hS rfl rfl rfl rfl ?_ ?_ ?_ ?_; rfl; (focus (simp [Value.oneCell']; done)); (focus (simp; done)); clear hS; intro w hS; simp at hS; try simp only [putW]) | (refine alloc hS rfl rfl ?_; clear hS; intro mb w hS; simp only [putW]) | (refine box1 hS rfl rfl rfl rfl ?_; clear hS; intro mb w hS; try simp only [evW, putW] at hS; simp only [putW]) | (refine boxN hS rfl rfl rfl ?_; clear hS; intro mb w hS; simp only [putW]))
        go_roundw
        case rel => exact ⟨q + 1, x - y, by omega, by go_num, by go_num, by omega, hinv2, hS⟩
        case measure => simp [intOf]; omega
    · have e := hinv.out
      rw [List.drop_eq_nil_of_le (by omega)] at e
      injection e with e1 e2
      subst e1; subst e2
      go_wp2_with (first | (refine load1 hS rfl rfl rfl rfl ?_; simp only [putW]) | (refine loadAll hS rfl rfl rfl ?_ ?_; rfl; simp only [putW]) | (refine loadPart hS rfl rfl rfl ?_ rfl ?_; rfl; simp only [putW]) | (refine store1 hS rfl rfl rfl rfl rfl ?_ ?_; (focus (simp; done)); clear hS; intro w hS; simp only [evW, putW] at hS; try simp only [putW]) | (refine storeAll hS rfl rfl rfl rfl ?_ ?_ ?_ ?_; rfl; (focus (simp [Value.oneCell']; done)); rfl; clear hS; intro w hS; try simp only [putW]) | (refine storeN hS rfl rfl rfl rfl ?_ ?_ ?_ ?_; rfl; (focus (simp [Value.oneCell']; done)); (focus (simp; done)); clear hS; intro w hS; simp at hS; try simp only [putW]) | (refine alloc hS rfl rfl ?_; clear hS; intro mb w hS; simp only [putW]) | (refine box1 hS rfl rfl rfl rfl ?_; clear hS; intro mb w hS; try simp only [evW, putW] at hS; simp only [putW]) | (refine boxN hS rfl rfl rfl ?_; clear hS; intro mb w hS; simp only [putW]))
      go_ret2
      exact ⟨rfl, hS.nothing⟩
end
end Go.Proofs.YtdkimdobcacpfaaDoor
