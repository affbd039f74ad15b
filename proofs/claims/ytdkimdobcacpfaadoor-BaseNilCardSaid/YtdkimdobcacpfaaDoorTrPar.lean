/-
  plan.Parent at a tree's plan.
-/
import Derived.Test.YtdkimdobcacpfaaDoorTrOf
import Derived.Test.YtdkimdobcacpfaaDoorSlB
set_option linter.unusedSimpArgs false
set_option linter.unusedVariables false
namespace Go.Proofs.YtdkimdobcacpfaaDoor
open Go.RowKit Go.Proofs.YtdkimdobcacpfaaDoor.Sl Go.Proofs.YtdkimdobcacpfaaDoor.Jp Go.Proofs.YtdkimdobcacpfaaDoor.Tr

/-- Where a level begins. -/
def frm (P C n1 : Nat) : Nat → Nat
  | 0 => 0
  | 1 => P
  | 2 => P + C
  | 3 => P + C + n1
  | _ => P + C + n1 + 1
def fan : Nat → Nat
  | 0 => 16
  | _ => 8
def lvAll (P C n1 N : Nat) : List Nat := [P, C] ++ (if N = n1 then [n1] else [n1, 1])
theorem lvAll_is (P C n1 N : Nat) : (lvAll P C n1 N).map (fun n : Nat => (n : Int)) = [(P : Int), (C : Int)] ++ lvs n1 N := by
  unfold lvAll lvs
  split <;> rfl
theorem par_step {P C n1 N k j n : Nat} (hN : (N = n1 ∧ n1 = 1) ∨ (N = n1 + 1 ∧ 2 ≤ n1)) (hk : k < P + C + N) (hj : (lvAll P C n1 N)[j]? = some n) (hf : frm P C n1 j ≤ k) :
    (k - frm P C n1 j < n → (k + 1 = P + C + N ∧ parP P C n1 N k = none) ∨ (k + 1 ≠ P + C + N ∧ parP P C n1 N k = some (frm P C n1 j + n + (k - frm P C n1 j) / fan j, (k - frm P C n1 j) % fan j))) ∧
    (¬ k - frm P C n1 j < n → frm P C n1 (j + 1) = frm P C n1 j + n) := by
  unfold lvAll at hj
  match j, hj with
  | 0, hj =>
    have e : P = n := by simpa using hj
    subst e
    refine ⟨fun h => .inr ⟨?_, ?_⟩, fun _ => (Nat.zero_add _).symm⟩
    · have h : k - 0 < P := h
      omega
    · have h : k - 0 < P := h
      show parP P C n1 N k = some (0 + P + (k - 0) / 16, (k - 0) % 16)
      rw [parP, if_pos (by omega), Nat.zero_add, Nat.sub_zero]
  | 1, hj =>
    have e : C = n := by simpa using hj
    subst e
    have hf : P ≤ k := hf
    refine ⟨fun h => .inr ⟨?_, ?_⟩, fun _ => rfl⟩
    · have h : k - P < C := h
      omega
    · have h : k - P < C := h
      show parP P C n1 N k = some (P + C + (k - P) / 8, (k - P) % 8)
      rw [parP, if_neg (by omega), par, if_pos h]
      simp only [Option.map_some]
      rw [← Nat.add_assoc]
  | 2, hj =>
    have e : n1 = n := by split at hj <;> simpa using hj
    subst e
    have hf : P + C ≤ k := hf
    refine ⟨fun h => ?_, fun _ => rfl⟩
    have h : k - (P + C) < n1 := h
    show (k + 1 = P + C + N ∧ parP P C n1 N k = none) ∨ (k + 1 ≠ P + C + N ∧ parP P C n1 N k = some (P + C + n1 + (k - (P + C)) / 8, (k - (P + C)) % 8))
    rcases hN with ⟨h1, h2⟩ | ⟨h1, h2⟩
    · left
      refine ⟨by omega, ?_⟩
      rw [parP, if_neg (by omega), par, if_neg (by omega), if_neg (by omega)]
      rfl
    · right
      refine ⟨by omega, ?_⟩
      rw [parP, if_neg (by omega), par, if_neg (by omega), if_pos (by omega)]
      simp only [Option.map_some]
      rw [show k - P - C = k - (P + C) by omega, show P + (C + n1 + (k - (P + C)) / 8) = P + C + n1 + (k - (P + C)) / 8 by omega]
  | 3, hj =>
    rcases hN with ⟨h1, h2⟩ | ⟨h1, h2⟩
    · rw [if_pos h1] at hj; simp at hj
    · rw [if_neg (by omega)] at hj
      have e : 1 = n := by simpa using hj
      subst e
      have hf : P + C + n1 ≤ k := hf
      refine ⟨fun h => .inl ⟨by omega, ?_⟩, fun _ => rfl⟩
      · rw [parP, if_neg (by omega), par, if_neg (by omega), if_neg (by omega)]
        rfl
  | j + 4, hj => split at hj <;> simp at hj
theorem par_end {P C n1 N k : Nat} (hN : (N = n1 ∧ n1 = 1) ∨ (N = n1 + 1 ∧ 2 ≤ n1)) (hk : k < P + C + N) : ¬ frm P C n1 (lvAll P C n1 N).length ≤ k := by
  unfold lvAll
  rcases hN with ⟨h1, h2⟩ | ⟨h1, h2⟩
  · rw [if_pos h1]; show ¬ P + C + n1 ≤ k; omega
  · rw [if_neg (by omega)]; show ¬ P + C + n1 + 1 ≤ k; omega
theorem num_par (fr y i q : Nat) (hq : 0 < q) (h1 : fr ≤ 1000000) (h2 : y ≤ 1000000) (h3 : i ≤ 1000000) : IntKind.i64.wrap (IntKind.i64.wrap ((fr : Int) + y) + IntKind.i64.wrap ((IntKind.i64.wrap ((fr : Int) + i - fr)).tdiv q)) = ((fr + y + i / q : Nat) : Int) ∧ (IntKind.i64.wrap ((fr : Int) + i - fr)).tmod q = ((i % q : Nat) : Int) := by
  have e1 : IntKind.i64.wrap ((fr : Int) + i - fr) = i := by rw [IntKind.wrap_i64]; omega
  have e2 : IntKind.i64.wrap ((fr : Int) + y) = (fr : Int) + y := by rw [IntKind.wrap_i64]; omega
  have e3 : ((i : Int)).tdiv q = ((i / q : Nat) : Int) := by rw [Int.tdiv_eq_ediv_of_nonneg (by omega)]; rfl
  have e4 : i / q ≤ i := Nat.div_le_self _ _
  have e5 : IntKind.i64.wrap ((i / q : Nat) : Int) = ((i / q : Nat) : Int) := by rw [IntKind.wrap_i64]; generalize i / q = z at *; omega
  refine ⟨?_, ?_⟩
  · rw [e1, e2, e3, e5, IntKind.wrap_i64]
    generalize i / q = z at *
    omega
  · rw [e1, Int.tmod_eq_emod_of_nonneg (by omega)]; rfl
section
variable {w0 w : World} {lv : Value} {b hd J s t : Int} {P C n1 N : Nat}
set_option maxHeartbeats 1000000 in
theorem top_any {P b C N H hd J s t : Int} (h : 0 ≤ H ∧ H ≤ 1000000) : Calls Tryd.prog 32 #[.agg (plL P b C lv N H hd J s t).toArray] w0 fun e w' => e = .returned (.int .i64 (H - 1)) ∧ Sat w0 [] w' := by
  have hS := Sat.refl w0
  go_enter Tryd.func32, Tryd.ntmps32
  go_wp2_with (first | (refine load1 hS rfl rfl rfl rfl ?_; simp only [putW]) | (refine loadAll hS rfl rfl rfl ?_ ?_; rfl; simp only [putW]) | (refine loadPart hS rfl rfl rfl ?_ rfl ?_; rfl; simp only [putW]) | (refine store1 hS rfl rfl rfl rfl rfl ?_ ?_; (focus (simp; done)); clear hS; intro w hS; simp only [evW, putW] at hS; try simp only [putW]) | (refine storeAll hS rfl rfl rfl rfl ?_ ?_ ?_ ?_; rfl; (focus (simp [Value.oneCell']; done)); rfl; clear hS; intro w hS; try simp only [putW]) | (refine storeN hS rfl rfl rfl rfl ?_ ?_ ?_ ?_; rfl; (focus (simp [Value.oneCell']; done)); (focus (simp; done)); clear hS; intro w hS; simp at hS; try simp only [putW]) | (refine alloc hS rfl rfl ?_; clear hS; intro mb w hS; simp only [putW]) | (refine box1 hS rfl rfl rfl rfl ?_; clear hS; intro mb w hS; try simp only [evW, putW] at hS; simp only [putW]) | (refine boxN hS rfl rfl rfl ?_; clear hS; intro mb w hS; simp only [putW]))
  go_ret
  exact ⟨rfl, hS.nothing⟩
set_option maxRecDepth 100000 in
set_option maxHeartbeats 2000000 in
theorem planParent_any {k : Nat} {H : Int} (hL : RI w0 (lvs n1 N) lv) (hP : P ≤ 100000) (hC : C ≤ 100000) (hn : n1 ≤ 100000) (hN : (N = n1 ∧ n1 = 1) ∨ (N = n1 + 1 ∧ 2 ≤ n1)) (hk : k < P + C + N) (hH : H = (P : Int) + C + N) :
    Calls Tryd.prog 91 #[.agg (plL P b C lv N H hd J s t).toArray, .int .i64 k] w0 fun e w' => e = .returned (parV (parP P C n1 N k)) ∧ Sat w0 [] w' := by
  have hS := Sat.refl w0
  obtain ⟨a, c, rfl, hll, hat⟩ := hL.at
  subst hH
  have hst := fun j n => par_step (j := j) (n := n) hN hk
  have hen := par_end hN hk
  obtain ⟨B, hB⟩ : ∃ B, lvAll P C n1 N = B := ⟨_, rfl⟩
  rw [hB] at hst hen
  have hBi := lvAll_is P C n1 N
  rw [hB] at hBi
  have hBl : B.length ≤ 4 := by rw [← hB]; unfold lvAll; split <;> simp
  obtain ⟨L, hLe⟩ : ∃ L, lvs n1 N = L := ⟨_, rfl⟩
  have hlb : ∀ x ∈ lvs n1 N, x ≤ 100000 := by
    unfold lvs
    intro x hx
    split at hx
    · rw [List.mem_singleton.1 hx]; omega
    · simp only [List.mem_cons, List.not_mem_nil, or_false] at hx
      rcases hx with rfl | rfl <;> omega
  rw [hLe] at hL hBi hll hlb
  have Hlb : Bx _ := ⟨hlb⟩
  clear hlb
  have hLl : L.length + 2 = B.length := by have := congrArg List.length hBi; simp at this; omega
  have Hst : Bx _ := ⟨hst⟩
  have Hen : Bx _ := ⟨hen⟩
  have HBi : Bx _ := ⟨hBi⟩
  clear hst hen hBi hB hat
  obtain ⟨V, hV⟩ : ∃ V, parP P C n1 N k = V := ⟨_, rfl⟩
  rw [hV] at Hst ⊢
  clear hV
  rw [hLe]
  clear hLe
  go_enter Tryd.func91, Tryd.ntmps91
  have tok : True := trivial
  go_wp2_with (first | (have _t := tok; refine alloc hS rfl rfl ?_; clear hS tok; intro m4 w hS; simp only [putW]) | (guard_target =~ wpList _ _ _ (Oper.mk (some 18) _ _ _ _ _ :: _) _ _; refine Stopped.out ?_) | (refine load1 hS rfl rfl rfl rfl ?_; simp only [putW]) | (refine loadAll hS rfl rfl rfl ?_ ?_; rfl; simp only [putW]) | (refine loadPart hS rfl rfl rfl ?_ rfl ?_; rfl; simp only [putW]) | (refine store1 hS rfl rfl rfl rfl rfl ?_ ?_; (focus (simp; done)); clear hS; intro w hS; simp only [evW, putW] at hS; try simp only [putW]) | (refine storeAll hS rfl rfl rfl rfl ?_ ?_ ?_ ?_; rfl; (focus (simp [Value.oneCell']; done)); rfl; clear hS; intro w hS; try simp only [putW]) | (refine storeN hS rfl rfl rfl rfl ?_ ?_ ?_ ?_; rfl; (focus (simp [Value.oneCell']; done)); (focus (simp; done)); clear hS; intro w hS; simp at hS; try simp only [putW]) | (refine alloc hS rfl rfl ?_; clear hS; intro mb w hS; simp only [putW]) | (refine box1 hS rfl rfl rfl rfl ?_; clear hS; intro mb w hS; try simp only [evW, putW] at hS; simp only [putW]) | (refine boxN hS rfl rfl rfl ?_; clear hS; intro mb w hS; simp only [putW]))
  refine ⟨?_⟩
  refine buildSlice2 (u0 := .int .i64 P) (u1 := .int .i64 C) hS rfl rfl rfl rfl ?_
  clear hS
  intro m1 w hS
  simp only [putW]
  have h1 := hS.toSlc (l := [(P : Int), (C : Int)]) (cap := 2) (n := 1) (f := i64) (by simp) (by simp) (by simp [maxLen]) (by rfl) (fun _ _ => rfl)
  replace hS := h1.slOfSlc
  simp only [List.length_cons, List.length_nil, Nat.zero_add] at hS
  clear h1
  go_wp2_with (first | (guard_target =~ wpList _ _ _ (Oper.mk (some 21) _ _ _ _ _ :: _) _ _; refine Stopped.out ?_) | (refine load1 hS rfl rfl rfl rfl ?_; simp only [putW]) | (refine loadAll hS rfl rfl rfl ?_ ?_; rfl; simp only [putW]) | (refine loadPart hS rfl rfl rfl ?_ rfl ?_; rfl; simp only [putW]) | (refine store1 hS rfl rfl rfl rfl rfl ?_ ?_; (focus (simp; done)); clear hS; intro w hS; simp only [evW, putW] at hS; try simp only [putW]) | (refine storeAll hS rfl rfl rfl rfl ?_ ?_ ?_ ?_; rfl; (focus (simp [Value.oneCell']; done)); rfl; clear hS; intro w hS; try simp only [putW]) | (refine storeN hS rfl rfl rfl rfl ?_ ?_ ?_ ?_; rfl; (focus (simp [Value.oneCell']; done)); (focus (simp; done)); clear hS; intro w hS; simp at hS; try simp only [putW]) | (refine alloc hS rfl rfl ?_; clear hS; intro mb w hS; simp only [putW]) | (refine box1 hS rfl rfl rfl rfl ?_; clear hS; intro mb w hS; try simp only [evW, putW] at hS; simp only [putW]) | (refine boxN hS rfl rfl rfl ?_; clear hS; intro mb w hS; simp only [putW]))
  refine ⟨?_⟩
  refine appendB (f := i64) hS rfl rfl (.slice (some ⟨m1, 0, none⟩) 2 2) rfl rfl L (hL.mono hS.base) ?_ ?_ ?_ ?_
  · intro x _ u hu; rw [List.mem_singleton.1 hu]; rfl
  · simp [maxLen]; omega
  · simp; omega
  clear hS
  intro v2 w hS
  simp only [putW]
  rw [← HBi.out] at hS
  obtain ⟨g2, c2, hv2, hS2⟩ := hS.slFormC B.length (by simp) (by omega)
  subst hv2
  clear hS
  have hS := hS2
  clear hS2
  go_wp2_with (first | (refine load1 hS rfl rfl rfl rfl ?_; simp only [putW]) | (refine loadAll hS rfl rfl rfl ?_ ?_; rfl; simp only [putW]) | (refine loadPart hS rfl rfl rfl ?_ rfl ?_; rfl; simp only [putW]) | (refine store1 hS rfl rfl rfl rfl rfl ?_ ?_; (focus (simp; done)); clear hS; intro w hS; simp only [evW, putW] at hS; try simp only [putW]) | (refine storeAll hS rfl rfl rfl rfl ?_ ?_ ?_ ?_; rfl; (focus (simp [Value.oneCell']; done)); rfl; clear hS; intro w hS; try simp only [putW]) | (refine storeN hS rfl rfl rfl rfl ?_ ?_ ?_ ?_; rfl; (focus (simp [Value.oneCell']; done)); (focus (simp; done)); clear hS; intro w hS; simp at hS; try simp only [putW]) | (refine alloc hS rfl rfl ?_; clear hS; intro mb w hS; simp only [putW]) | (refine box1 hS rfl rfl rfl rfl ?_; clear hS; intro mb w hS; try simp only [evW, putW] at hS; simp only [putW]) | (refine boxN hS rfl rfl rfl ?_; clear hS; intro mb w hS; simp only [putW]))
  go_loopw [6, 7, 23] (fun f' n' i' wr => ∃ j : Nat, j ≤ B.length ∧ i' = .int .i64 j ∧ f' = .int .i64 (frm P C n1 j : Nat) ∧ n' = .int .i64 (fan j : Nat) ∧ Bx (frm P C n1 j ≤ k) ∧ Sat w0 _ wr) (fun _ _ i' _ => B.length - (intOf i').toNat)
  case atStart => exact ⟨0, Nat.zero_le _, rfl, rfl, rfl, ⟨Nat.zero_le _⟩, hS⟩
  case round =>
    clear hS
    obtain ⟨j, hj, rfl, rfl, rfl, hf, hS⟩ := hrel
    by_cases hlt : j < B.length
    · obtain ⟨y, hy⟩ : ∃ y, B[j]? = some y := ⟨_, List.getElem?_eq_getElem hlt⟩
      have hyi : (B.map (fun n : Nat => (n : Int)))[j]? = some (y : Int) := by simp [hy]
      have Hs : Bx _ := ⟨Hst.out j y hy hf.out⟩
      obtain ⟨fr, hfr⟩ : ∃ fr, frm P C n1 j = fr := ⟨_, rfl⟩
      rw [hfr] at hf Hs ⊢
      have Hfr : Bx _ := ⟨hfr⟩
      have hfk := hf.out
      clear hfr
      by_cases hky : k - fr < y
      · have hr := Hs.out.1 hky
        obtain ⟨i, rfl⟩ : ∃ i, k = fr + i := ⟨k - fr, by omega⟩
        have hyb : y ≤ 100000 := by
          have h1 := HBi.out
          have h2 := List.mem_of_getElem? hyi
          rw [h1] at h2
          rcases List.mem_append.1 h2 with h3 | h3
          · simp only [List.mem_cons, List.not_mem_nil, or_false] at h3
            rcases h3 with h4 | h4 <;> omega
          · have h4 := Hlb.out _ h3
            omega
        obtain ⟨q, hq⟩ : ∃ q, fan j = q := ⟨_, rfl⟩
        have hq2 : q = 16 ∨ q = 8 := by rw [← hq]; cases j <;> simp [fan]
        rw [hq] at hr ⊢
        clear hq
        go_upto_region 8 with (first | (refine loadS1 (v1 := Value.int .i64) hS rfl rfl rfl hyi ?_; simp only [putW]) | (refine load1 hS rfl rfl rfl rfl ?_; simp only [putW]) | (refine loadAll hS rfl rfl rfl ?_ ?_; rfl; simp only [putW]) | (refine loadPart hS rfl rfl rfl ?_ rfl ?_; rfl; simp only [putW]) | (refine store1 hS rfl rfl rfl rfl rfl ?_ ?_; (focus (simp; done)); clear hS; intro w hS; simp only [evW, putW] at hS; try simp only [putW]) | (refine storeAll hS rfl rfl rfl rfl ?_ ?_ ?_ ?_; rfl; (focus (simp [Value.oneCell']; done)); rfl; clear hS; intro w hS; try simp only [putW]) | (refine storeN hS rfl rfl rfl rfl ?_ ?_ ?_ ?_; rfl; (focus (simp [Value.oneCell']; done)); (focus (simp; done)); clear hS; intro w hS; simp at hS; try simp only [putW]) | (refine alloc hS rfl rfl ?_; clear hS; intro mb w hS; simp only [putW]) | (refine box1 hS rfl rfl rfl rfl ?_; clear hS; intro mb w hS; try simp only [evW, putW] at hS; simp only [putW]) | (refine boxN hS rfl rfl rfl ?_; clear hS; intro mb w hS; simp only [putW]))
        go_cut [10] from 32 to 46 (fun p wc => ∃ m10, p = .pointer (some ⟨m10, 0, none⟩) ∧ Sat w0 ((m10, cells #[.int .i64 ((fr + y + i / q : Nat) : Int), .int .i64 ((i % q : Nat) : Int)] 105) :: (m4, cells #[.int .i64 0, .int .i64 0] 105) :: (mb, cells (plL P b C (.slice a L.length c) N ((P : Int) + C + N) hd J s t).toArray 60) :: []) wc)
        case first =>
          rcases hq2 with rfl | rfl
          · have hnp := num_par fr y i 16 (by omega) (by omega) (by omega) (by omega)
            (refine wp_region_held (S := fun w' => Sat w0 ((g2, slc 1 i64 (B.map fun n : Nat => (n : Int)) c2 3) :: (m4, cells #[.int .i64 0, .int .i64 0] 105) :: (mb, cells (plL P b C (.slice a L.length c) N ((P : Int) + C + N) hd J s t).toArray 60) :: []) w') (by kernel_rfl) ?_; replace hS := hS.drew; (first | (refine takeIf (i := 0) rfl (by kernel_rfl) (fun _ _ _ h => h) (yMove rfl rfl rfl) hS.conv ?_; simp only [evW, putW]) | (refine takeIf (i := 0) rfl (by kernel_rfl) (fun _ _ _ h => h) (yLoad1 (fun _ h => h) rfl rfl rfl rfl) hS.conv ?_; simp only [putW]) | (refine takeIf (i := 0) rfl (by kernel_rfl) (fun _ _ _ h => h) (yLoadAll (fun _ h => h) rfl rfl rfl rfl) hS.conv ?_; simp only [putW]) | (apply takeIf (i := 0) rfl (by kernel_rfl) (fun _ _ _ h => h); (focus (apply yRun rfl; intro w; first | (go_simp; done) | (go_simp; rfl))); (focus (exact hS.conv)); simp only [putW])); (first | (refine takeIf (i := 1) rfl (by kernel_rfl) (fun _ _ _ h => h) (yMove rfl rfl rfl) hS.conv ?_; simp only [evW, putW]) | (refine takeIf (i := 1) rfl (by kernel_rfl) (fun _ _ _ h => h) (yLoad1 (fun _ h => h) rfl rfl rfl rfl) hS.conv ?_; simp only [putW]) | (refine takeIf (i := 1) rfl (by kernel_rfl) (fun _ _ _ h => h) (yLoadAll (fun _ h => h) rfl rfl rfl rfl) hS.conv ?_; simp only [putW]) | (apply takeIf (i := 1) rfl (by kernel_rfl) (fun _ _ _ h => h); (focus (apply yRun rfl; intro w; first | (go_simp; done) | (go_simp; rfl))); (focus (exact hS.conv)); simp only [putW])); (first | (refine takeIf (i := 2) rfl (by kernel_rfl) (fun _ _ _ h => h) (yMove rfl rfl rfl) hS.conv ?_; simp only [evW, putW]) | (refine takeIf (i := 2) rfl (by kernel_rfl) (fun _ _ _ h => h) (yLoad1 (fun _ h => h) rfl rfl rfl rfl) hS.conv ?_; simp only [putW]) | (refine takeIf (i := 2) rfl (by kernel_rfl) (fun _ _ _ h => h) (yLoadAll (fun _ h => h) rfl rfl rfl rfl) hS.conv ?_; simp only [putW]) | (apply takeIf (i := 2) rfl (by kernel_rfl) (fun _ _ _ h => h); (focus (apply yRun rfl; intro w; first | (go_simp; done) | (go_simp; rfl))); (focus (exact hS.conv)); simp only [putW])); (first | (refine takeIf (i := 3) rfl (by kernel_rfl) (fun _ _ _ h => h) (yMove rfl rfl rfl) hS.conv ?_; simp only [evW, putW]) | (refine takeIf (i := 3) rfl (by kernel_rfl) (fun _ _ _ h => h) (yLoad1 (fun _ h => h) rfl rfl rfl rfl) hS.conv ?_; simp only [putW]) | (refine takeIf (i := 3) rfl (by kernel_rfl) (fun _ _ _ h => h) (yLoadAll (fun _ h => h) rfl rfl rfl rfl) hS.conv ?_; simp only [putW]) | (apply takeIf (i := 3) rfl (by kernel_rfl) (fun _ _ _ h => h); (focus (apply yRun rfl; intro w; first | (go_simp; done) | (go_simp; rfl))); (focus (exact hS.conv)); simp only [putW])); (first | (refine takeIf (i := 4) rfl (by kernel_rfl) (fun _ _ _ h => h) (yMove rfl rfl rfl) hS.conv ?_; simp only [evW, putW]) | (refine takeIf (i := 4) rfl (by kernel_rfl) (fun _ _ _ h => h) (yLoad1 (fun _ h => h) rfl rfl rfl rfl) hS.conv ?_; simp only [putW]) | (refine takeIf (i := 4) rfl (by kernel_rfl) (fun _ _ _ h => h) (yLoadAll (fun _ h => h) rfl rfl rfl rfl) hS.conv ?_; simp only [putW]) | (apply takeIf (i := 4) rfl (by kernel_rfl) (fun _ _ _ h => h); (focus (apply yRun rfl; intro w; first | (go_simp; done) | (go_simp; rfl))); (focus (exact hS.conv)); simp only [putW])); (first | (refine takeIf (i := 5) rfl (by kernel_rfl) (fun _ _ _ h => h) (yMove rfl rfl rfl) hS.conv ?_; simp only [evW, putW]) | (refine takeIf (i := 5) rfl (by kernel_rfl) (fun _ _ _ h => h) (yLoad1 (fun _ h => h) rfl rfl rfl rfl) hS.conv ?_; simp only [putW]) | (refine takeIf (i := 5) rfl (by kernel_rfl) (fun _ _ _ h => h) (yLoadAll (fun _ h => h) rfl rfl rfl rfl) hS.conv ?_; simp only [putW]) | (apply takeIf (i := 5) rfl (by kernel_rfl) (fun _ _ _ h => h); (focus (apply yRun rfl; intro w; first | (go_simp; done) | (go_simp; rfl))); (focus (exact hS.conv)); simp only [putW])); (first | (refine takeIf (i := 6) rfl (by kernel_rfl) (fun _ _ _ h => h) (yMove rfl rfl rfl) hS.conv ?_; simp only [evW, putW]) | (refine takeIf (i := 6) rfl (by kernel_rfl) (fun _ _ _ h => h) (yLoad1 (fun _ h => h) rfl rfl rfl rfl) hS.conv ?_; simp only [putW]) | (refine takeIf (i := 6) rfl (by kernel_rfl) (fun _ _ _ h => h) (yLoadAll (fun _ h => h) rfl rfl rfl rfl) hS.conv ?_; simp only [putW]) | (apply takeIf (i := 6) rfl (by kernel_rfl) (fun _ _ _ h => h); (focus (apply yRun rfl; intro w; first | (go_simp; done) | (go_simp; rfl))); (focus (exact hS.conv)); simp only [putW])); (first | (refine takeIf (i := 7) rfl (by kernel_rfl) (fun _ _ _ h => h) (yMove rfl rfl rfl) hS.conv ?_; simp only [evW, putW]) | (refine takeIf (i := 7) rfl (by kernel_rfl) (fun _ _ _ h => h) (yLoad1 (fun _ h => h) rfl rfl rfl rfl) hS.conv ?_; simp only [putW]) | (refine takeIf (i := 7) rfl (by kernel_rfl) (fun _ _ _ h => h) (yLoadAll (fun _ h => h) rfl rfl rfl rfl) hS.conv ?_; simp only [putW]) | (apply takeIf (i := 7) rfl (by kernel_rfl) (fun _ _ _ h => h); (focus (apply yRun rfl; intro w; first | (go_simp; done) | (go_simp; rfl))); (focus (exact hS.conv)); simp only [putW])); (first | (refine takeIf (i := 8) rfl (by kernel_rfl) (fun _ _ _ h => h) (yMove rfl rfl rfl) hS.conv ?_; simp only [evW, putW]) | (refine takeIf (i := 8) rfl (by kernel_rfl) (fun _ _ _ h => h) (yLoad1 (fun _ h => h) rfl rfl rfl rfl) hS.conv ?_; simp only [putW]) | (refine takeIf (i := 8) rfl (by kernel_rfl) (fun _ _ _ h => h) (yLoadAll (fun _ h => h) rfl rfl rfl rfl) hS.conv ?_; simp only [putW]) | (apply takeIf (i := 8) rfl (by kernel_rfl) (fun _ _ _ h => h); (focus (apply yRun rfl; intro w; first | (go_simp; done) | (go_simp; rfl))); (focus (exact hS.conv)); simp only [putW])); (first | (refine takeIf (i := 9) rfl (by kernel_rfl) (fun _ _ _ h => h) (yMove rfl rfl rfl) hS.conv ?_; simp only [evW, putW]) | (refine takeIf (i := 9) rfl (by kernel_rfl) (fun _ _ _ h => h) (yLoad1 (fun _ h => h) rfl rfl rfl rfl) hS.conv ?_; simp only [putW]) | (refine takeIf (i := 9) rfl (by kernel_rfl) (fun _ _ _ h => h) (yLoadAll (fun _ h => h) rfl rfl rfl rfl) hS.conv ?_; simp only [putW]) | (apply takeIf (i := 9) rfl (by kernel_rfl) (fun _ _ _ h => h); (focus (apply yRun rfl; intro w; first | (go_simp; done) | (go_simp; rfl))); (focus (exact hS.conv)); simp only [putW])); (first | (refine takeIf (i := 10) rfl (by kernel_rfl) (fun _ _ _ h => h) (yMove rfl rfl rfl) hS.conv ?_; simp only [evW, putW]) | (refine takeIf (i := 10) rfl (by kernel_rfl) (fun _ _ _ h => h) (yLoad1 (fun _ h => h) rfl rfl rfl rfl) hS.conv ?_; simp only [putW]) | (refine takeIf (i := 10) rfl (by kernel_rfl) (fun _ _ _ h => h) (yLoadAll (fun _ h => h) rfl rfl rfl rfl) hS.conv ?_; simp only [putW]) | (apply takeIf (i := 10) rfl (by kernel_rfl) (fun _ _ _ h => h); (focus (apply yRun rfl; intro w; first | (go_simp; done) | (go_simp; rfl))); (focus (exact hS.conv)); simp only [putW])); (first | (refine takeIf (i := 11) rfl (by kernel_rfl) (fun _ _ _ h => h) (yMove rfl rfl rfl) hS.conv ?_; simp only [evW, putW]) | (refine takeIf (i := 11) rfl (by kernel_rfl) (fun _ _ _ h => h) (yLoad1 (fun _ h => h) rfl rfl rfl rfl) hS.conv ?_; simp only [putW]) | (refine takeIf (i := 11) rfl (by kernel_rfl) (fun _ _ _ h => h) (yLoadAll (fun _ h => h) rfl rfl rfl rfl) hS.conv ?_; simp only [putW]) | (apply takeIf (i := 11) rfl (by kernel_rfl) (fun _ _ _ h => h); (focus (apply yRun rfl; intro w; first | (go_simp; done) | (go_simp; rfl))); (focus (exact hS.conv)); simp only [putW])); (first | (refine takeIf (i := 12) rfl (by kernel_rfl) (fun _ _ _ h => h) (yMove rfl rfl rfl) hS.conv ?_; simp only [evW, putW]) | (refine takeIf (i := 12) rfl (by kernel_rfl) (fun _ _ _ h => h) (yLoad1 (fun _ h => h) rfl rfl rfl rfl) hS.conv ?_; simp only [putW]) | (refine takeIf (i := 12) rfl (by kernel_rfl) (fun _ _ _ h => h) (yLoadAll (fun _ h => h) rfl rfl rfl rfl) hS.conv ?_; simp only [putW]) | (apply takeIf (i := 12) rfl (by kernel_rfl) (fun _ _ _ h => h); (focus (apply yRun rfl; intro w; first | (go_simp; done) | (go_simp; rfl))); (focus (exact hS.conv)); simp only [putW])); (first | (refine takeIf (i := 13) rfl (by kernel_rfl) (fun _ _ _ h => h) (yMove rfl rfl rfl) hS.conv ?_; simp only [evW, putW]) | (refine takeIf (i := 13) rfl (by kernel_rfl) (fun _ _ _ h => h) (yLoad1 (fun _ h => h) rfl rfl rfl rfl) hS.conv ?_; simp only [putW]) | (refine takeIf (i := 13) rfl (by kernel_rfl) (fun _ _ _ h => h) (yLoadAll (fun _ h => h) rfl rfl rfl rfl) hS.conv ?_; simp only [putW]) | (apply takeIf (i := 13) rfl (by kernel_rfl) (fun _ _ _ h => h); (focus (apply yRun rfl; intro w; first | (go_simp; done) | (go_simp; rfl))); (focus (exact hS.conv)); simp only [putW])); (first | (refine takeIf (i := 14) rfl (by kernel_rfl) (fun _ _ _ h => h) (yMove rfl rfl rfl) hS.conv ?_; simp only [evW, putW]) | (refine takeIf (i := 14) rfl (by kernel_rfl) (fun _ _ _ h => h) (yLoad1 (fun _ h => h) rfl rfl rfl rfl) hS.conv ?_; simp only [putW]) | (refine takeIf (i := 14) rfl (by kernel_rfl) (fun _ _ _ h => h) (yLoadAll (fun _ h => h) rfl rfl rfl rfl) hS.conv ?_; simp only [putW]) | (apply takeIf (i := 14) rfl (by kernel_rfl) (fun _ _ _ h => h); (focus (apply yRun rfl; intro w; first | (go_simp; done) | (go_simp; rfl))); (focus (exact hS.conv)); simp only [putW])); refine wpAnyH_all (rs := [15]) (by kernel_rfl) (by simp) ?_; intro i hi; simp only [List.mem_cons, List.not_mem_nil, or_false] at hi; subst hi; refine wpOp_of_list rfl ?_; go_wp2_with (first | (refine alloc hS rfl rfl ?_; clear hS; intro m10 w hS; simp only [putW]) | (refine load1 hS rfl rfl rfl rfl ?_; simp only [putW]) | (refine loadAll hS rfl rfl rfl ?_ ?_; rfl; simp only [putW]) | (refine loadPart hS rfl rfl rfl ?_ rfl ?_; rfl; simp only [putW]) | (refine store1 hS rfl rfl rfl rfl rfl ?_ ?_; (focus (simp; done)); clear hS; intro w hS; simp only [evW, putW] at hS; try simp only [putW]) | (refine storeAll hS rfl rfl rfl rfl ?_ ?_ ?_ ?_; rfl; (focus (simp [Value.oneCell']; done)); rfl; clear hS; intro w hS; try simp only [putW]) | (refine storeN hS rfl rfl rfl rfl ?_ ?_ ?_ ?_; rfl; (focus (simp [Value.oneCell']; done)); (focus (simp; done)); clear hS; intro w hS; simp at hS; try simp only [putW]) | (refine alloc hS rfl rfl ?_; clear hS; intro mb w hS; simp only [putW]) | (refine box1 hS rfl rfl rfl rfl ?_; clear hS; intro mb w hS; try simp only [evW, putW] at hS; simp only [putW]) | (refine boxN hS rfl rfl rfl ?_; clear hS; intro mb w hS; simp only [putW])); refine ⟨rfl, hS.conv, ?_⟩; refine wpAnyH_all (rs := [16]) (by kernel_rfl) (by simp) ?_; intro i hi; simp only [List.mem_cons, List.not_mem_nil, or_false] at hi; subst hi; refine wpOp_of_list rfl ?_; go_wp2_with (first | (refine load1 hS rfl rfl rfl rfl ?_; simp only [putW]) | (refine loadAll hS rfl rfl rfl ?_ ?_; rfl; simp only [putW]) | (refine loadPart hS rfl rfl rfl ?_ rfl ?_; rfl; simp only [putW]) | (refine store1 hS rfl rfl rfl rfl rfl ?_ ?_; (focus (simp; done)); clear hS; intro w hS; simp only [evW, putW] at hS; try simp only [putW]) | (refine storeAll hS rfl rfl rfl rfl ?_ ?_ ?_ ?_; rfl; (focus (simp [Value.oneCell']; done)); rfl; clear hS; intro w hS; try simp only [putW]) | (refine storeN hS rfl rfl rfl rfl ?_ ?_ ?_ ?_; rfl; (focus (simp [Value.oneCell']; done)); (focus (simp; done)); clear hS; intro w hS; simp at hS; try simp only [putW]) | (refine alloc hS rfl rfl ?_; clear hS; intro mb w hS; simp only [putW]) | (refine box1 hS rfl rfl rfl rfl ?_; clear hS; intro mb w hS; try simp only [evW, putW] at hS; simp only [putW]) | (refine boxN hS rfl rfl rfl ?_; clear hS; intro mb w hS; simp only [putW])); refine ⟨rfl, hS.conv, ?_⟩; refine wpAnyH_done (by kernel_rfl) ?_ _; skip)
            replace hS := hS.conv (S' := (m10, cells #[.int .i64 (IntKind.i64.wrap (IntKind.i64.wrap ((fr : Int) + y) + IntKind.i64.wrap ((IntKind.i64.wrap ((fr : Int) + i - fr)).tdiv (16 : Nat)))), .int .i64 ((IntKind.i64.wrap ((fr : Int) + i - fr)).tmod (16 : Nat))] 105) :: (m4, cells #[.int .i64 0, .int .i64 0] 105) :: (mb, cells (plL P b C (.slice a L.length c) N ((P : Int) + C + N) hd J s t).toArray 60) :: [])
            rw [hnp.1, hnp.2] at hS
            go_wp2_with (first | (refine load1 hS rfl rfl rfl rfl ?_; simp only [putW]) | (refine loadAll hS rfl rfl rfl ?_ ?_; rfl; simp only [putW]) | (refine loadPart hS rfl rfl rfl ?_ rfl ?_; rfl; simp only [putW]) | (refine store1 hS rfl rfl rfl rfl rfl ?_ ?_; (focus (simp; done)); clear hS; intro w hS; simp only [evW, putW] at hS; try simp only [putW]) | (refine storeAll hS rfl rfl rfl rfl ?_ ?_ ?_ ?_; rfl; (focus (simp [Value.oneCell']; done)); rfl; clear hS; intro w hS; try simp only [putW]) | (refine storeN hS rfl rfl rfl rfl ?_ ?_ ?_ ?_; rfl; (focus (simp [Value.oneCell']; done)); (focus (simp; done)); clear hS; intro w hS; simp at hS; try simp only [putW]) | (refine alloc hS rfl rfl ?_; clear hS; intro mb w hS; simp only [putW]) | (refine box1 hS rfl rfl rfl rfl ?_; clear hS; intro mb w hS; try simp only [evW, putW] at hS; simp only [putW]) | (refine boxN hS rfl rfl rfl ?_; clear hS; intro mb w hS; simp only [putW]))
            go_meet
            case rel => exact ⟨m10, rfl, hS⟩
          · have hnp := num_par fr y i 8 (by omega) (by omega) (by omega) (by omega)
            (refine wp_region_held (S := fun w' => Sat w0 ((g2, slc 1 i64 (B.map fun n : Nat => (n : Int)) c2 3) :: (m4, cells #[.int .i64 0, .int .i64 0] 105) :: (mb, cells (plL P b C (.slice a L.length c) N ((P : Int) + C + N) hd J s t).toArray 60) :: []) w') (by kernel_rfl) ?_; replace hS := hS.drew; (first | (refine takeIf (i := 0) rfl (by kernel_rfl) (fun _ _ _ h => h) (yMove rfl rfl rfl) hS.conv ?_; simp only [evW, putW]) | (refine takeIf (i := 0) rfl (by kernel_rfl) (fun _ _ _ h => h) (yLoad1 (fun _ h => h) rfl rfl rfl rfl) hS.conv ?_; simp only [putW]) | (refine takeIf (i := 0) rfl (by kernel_rfl) (fun _ _ _ h => h) (yLoadAll (fun _ h => h) rfl rfl rfl rfl) hS.conv ?_; simp only [putW]) | (apply takeIf (i := 0) rfl (by kernel_rfl) (fun _ _ _ h => h); (focus (apply yRun rfl; intro w; first | (go_simp; done) | (go_simp; rfl))); (focus (exact hS.conv)); simp only [putW])); (first | (refine takeIf (i := 1) rfl (by kernel_rfl) (fun _ _ _ h => h) (yMove rfl rfl rfl) hS.conv ?_; simp only [evW, putW]) | (refine takeIf (i := 1) rfl (by kernel_rfl) (fun _ _ _ h => h) (yLoad1 (fun _ h => h) rfl rfl rfl rfl) hS.conv ?_; simp only [putW]) | (refine takeIf (i := 1) rfl (by kernel_rfl) (fun _ _ _ h => h) (yLoadAll (fun _ h => h) rfl rfl rfl rfl) hS.conv ?_; simp only [putW]) | (apply takeIf (i := 1) rfl (by kernel_rfl) (fun _ _ _ h => h); (focus (apply yRun rfl; intro w; first | (go_simp; done) | (go_simp; rfl))); (focus (exact hS.conv)); simp only [putW])); (first | (refine takeIf (i := 2) rfl (by kernel_rfl) (fun _ _ _ h => h) (yMove rfl rfl rfl) hS.conv ?_; simp only [evW, putW]) | (refine takeIf (i := 2) rfl (by kernel_rfl) (fun _ _ _ h => h) (yLoad1 (fun _ h => h) rfl rfl rfl rfl) hS.conv ?_; simp only [putW]) | (refine takeIf (i := 2) rfl (by kernel_rfl) (fun _ _ _ h => h) (yLoadAll (fun _ h => h) rfl rfl rfl rfl) hS.conv ?_; simp only [putW]) | (apply takeIf (i := 2) rfl (by kernel_rfl) (fun _ _ _ h => h); (focus (apply yRun rfl; intro w; first | (go_simp; done) | (go_simp; rfl))); (focus (exact hS.conv)); simp only [putW])); (first | (refine takeIf (i := 3) rfl (by kernel_rfl) (fun _ _ _ h => h) (yMove rfl rfl rfl) hS.conv ?_; simp only [evW, putW]) | (refine takeIf (i := 3) rfl (by kernel_rfl) (fun _ _ _ h => h) (yLoad1 (fun _ h => h) rfl rfl rfl rfl) hS.conv ?_; simp only [putW]) | (refine takeIf (i := 3) rfl (by kernel_rfl) (fun _ _ _ h => h) (yLoadAll (fun _ h => h) rfl rfl rfl rfl) hS.conv ?_; simp only [putW]) | (apply takeIf (i := 3) rfl (by kernel_rfl) (fun _ _ _ h => h); (focus (apply yRun rfl; intro w; first | (go_simp; done) | (go_simp; rfl))); (focus (exact hS.conv)); simp only [putW])); (first | (refine takeIf (i := 4) rfl (by kernel_rfl) (fun _ _ _ h => h) (yMove rfl rfl rfl) hS.conv ?_; simp only [evW, putW]) | (refine takeIf (i := 4) rfl (by kernel_rfl) (fun _ _ _ h => h) (yLoad1 (fun _ h => h) rfl rfl rfl rfl) hS.conv ?_; simp only [putW]) | (refine takeIf (i := 4) rfl (by kernel_rfl) (fun _ _ _ h => h) (yLoadAll (fun _ h => h) rfl rfl rfl rfl) hS.conv ?_; simp only [putW]) | (apply takeIf (i := 4) rfl (by kernel_rfl) (fun _ _ _ h => h); (focus (apply yRun rfl; intro w; first | (go_simp; done) | (go_simp; rfl))); (focus (exact hS.conv)); simp only [putW])); (first | (refine takeIf (i := 5) rfl (by kernel_rfl) (fun _ _ _ h => h) (yMove rfl rfl rfl) hS.conv ?_; simp only [evW, putW]) | (refine takeIf (i := 5) rfl (by kernel_rfl) (fun _ _ _ h => h) (yLoad1 (fun _ h => h) rfl rfl rfl rfl) hS.conv ?_; simp only [putW]) | (refine takeIf (i := 5) rfl (by kernel_rfl) (fun _ _ _ h => h) (yLoadAll (fun _ h => h) rfl rfl rfl rfl) hS.conv ?_; simp only [putW]) | (apply takeIf (i := 5) rfl (by kernel_rfl) (fun _ _ _ h => h); (focus (apply yRun rfl; intro w; first | (go_simp; done) | (go_simp; rfl))); (focus (exact hS.conv)); simp only [putW])); (first | (refine takeIf (i := 6) rfl (by kernel_rfl) (fun _ _ _ h => h) (yMove rfl rfl rfl) hS.conv ?_; simp only [evW, putW]) | (refine takeIf (i := 6) rfl (by kernel_rfl) (fun _ _ _ h => h) (yLoad1 (fun _ h => h) rfl rfl rfl rfl) hS.conv ?_; simp only [putW]) | (refine takeIf (i := 6) rfl (by kernel_rfl) (fun _ _ _ h => h) (yLoadAll (fun _ h => h) rfl rfl rfl rfl) hS.conv ?_; simp only [putW]) | (apply takeIf (i := 6) rfl (by kernel_rfl) (fun _ _ _ h => h); (focus (apply yRun rfl; intro w; first | (go_simp; done) | (go_simp; rfl))); (focus (exact hS.conv)); simp only [putW])); (first | (refine takeIf (i := 7) rfl (by kernel_rfl) (fun _ _ _ h => h) (yMove rfl rfl rfl) hS.conv ?_; simp only [evW, putW]) | (refine takeIf (i := 7) rfl (by kernel_rfl) (fun _ _ _ h => h) (yLoad1 (fun _ h => h) rfl rfl rfl rfl) hS.conv ?_; simp only [putW]) | (refine takeIf (i := 7) rfl (by kernel_rfl) (fun _ _ _ h => h) (yLoadAll (fun _ h => h) rfl rfl rfl rfl) hS.conv ?_; simp only [putW]) | (apply takeIf (i := 7) rfl (by kernel_rfl) (fun _ _ _ h => h); (focus (apply yRun rfl; intro w; first | (go_simp; done) | (go_simp; rfl))); (focus (exact hS.conv)); simp only [putW])); (first | (refine takeIf (i := 8) rfl (by kernel_rfl) (fun _ _ _ h => h) (yMove rfl rfl rfl) hS.conv ?_; simp only [evW, putW]) | (refine takeIf (i := 8) rfl (by kernel_rfl) (fun _ _ _ h => h) (yLoad1 (fun _ h => h) rfl rfl rfl rfl) hS.conv ?_; simp only [putW]) | (refine takeIf (i := 8) rfl (by kernel_rfl) (fun _ _ _ h => h) (yLoadAll (fun _ h => h) rfl rfl rfl rfl) hS.conv ?_; simp only [putW]) | (apply takeIf (i := 8) rfl (by kernel_rfl) (fun _ _ _ h => h); (focus (apply yRun rfl; intro w; first | (go_simp; done) | (go_simp; rfl))); (focus (exact hS.conv)); simp only [putW])); (first | (refine takeIf (i := 9) rfl (by kernel_rfl) (fun _ _ _ h => h) (yMove rfl rfl rfl) hS.conv ?_; simp only [evW, putW]) | (refine takeIf (i := 9) rfl (by kernel_rfl) (fun _ _ _ h => h) (yLoad1 (fun _ h => h) rfl rfl rfl rfl) hS.conv ?_; simp only [putW]) | (refine takeIf (i := 9) rfl (by kernel_rfl) (fun _ _ _ h => h) (yLoadAll (fun _ h => h) rfl rfl rfl rfl) hS.conv ?_; simp only [putW]) | (apply takeIf (i := 9) rfl (by kernel_rfl) (fun _ _ _ h => h); (focus (apply yRun rfl; intro w; first | (go_simp; done) | (go_simp; rfl))); (focus (exact hS.conv)); simp only [putW])); (first | (refine takeIf (i := 10) rfl (by kernel_rfl) (fun _ _ _ h => h) (yMove rfl rfl rfl) hS.conv ?_; simp only [evW, putW]) | (refine takeIf (i := 10) rfl (by kernel_rfl) (fun _ _ _ h => h) (yLoad1 (fun _ h => h) rfl rfl rfl rfl) hS.conv ?_; simp only [putW]) | (refine takeIf (i := 10) rfl (by kernel_rfl) (fun _ _ _ h => h) (yLoadAll (fun _ h => h) rfl rfl rfl rfl) hS.conv ?_; simp only [putW]) | (apply takeIf (i := 10) rfl (by kernel_rfl) (fun _ _ _ h => h); (focus (apply yRun rfl; intro w; first | (go_simp; done) | (go_simp; rfl))); (focus (exact hS.conv)); simp only [putW])); (first | (refine takeIf (i := 11) rfl (by kernel_rfl) (fun _ _ _ h => h) (yMove rfl rfl rfl) hS.conv ?_; simp only [evW, putW]) | (refine takeIf (i := 11) rfl (by kernel_rfl) (fun _ _ _ h => h) (yLoad1 (fun _ h => h) rfl rfl rfl rfl) hS.conv ?_; simp only [putW]) | (refine takeIf (i := 11) rfl (by kernel_rfl) (fun _ _ _ h => h) (yLoadAll (fun _ h => h) rfl rfl rfl rfl) hS.conv ?_; simp only [putW]) | (apply takeIf (i := 11) rfl (by kernel_rfl) (fun _ _ _ h => h); (focus (apply yRun rfl; intro w; first | (go_simp; done) | (go_simp; rfl))); (focus (exact hS.conv)); simp only [putW])); (first | (refine takeIf (i := 12) rfl (by kernel_rfl) (fun _ _ _ h => h) (yMove rfl rfl rfl) hS.conv ?_; simp only [evW, putW]) | (refine takeIf (i := 12) rfl (by kernel_rfl) (fun _ _ _ h => h) (yLoad1 (fun _ h => h) rfl rfl rfl rfl) hS.conv ?_; simp only [putW]) | (refine takeIf (i := 12) rfl (by kernel_rfl) (fun _ _ _ h => h) (yLoadAll (fun _ h => h) rfl rfl rfl rfl) hS.conv ?_; simp only [putW]) | (apply takeIf (i := 12) rfl (by kernel_rfl) (fun _ _ _ h => h); (focus (apply yRun rfl; intro w; first | (go_simp; done) | (go_simp; rfl))); (focus (exact hS.conv)); simp only [putW])); (first | (refine takeIf (i := 13) rfl (by kernel_rfl) (fun _ _ _ h => h) (yMove rfl rfl rfl) hS.conv ?_; simp only [evW, putW]) | (refine takeIf (i := 13) rfl (by kernel_rfl) (fun _ _ _ h => h) (yLoad1 (fun _ h => h) rfl rfl rfl rfl) hS.conv ?_; simp only [putW]) | (refine takeIf (i := 13) rfl (by kernel_rfl) (fun _ _ _ h => h) (yLoadAll (fun _ h => h) rfl rfl rfl rfl) hS.conv ?_; simp only [putW]) | (apply takeIf (i := 13) rfl (by kernel_rfl) (fun _ _ _ h => h); (focus (apply yRun rfl; intro w; first | (go_simp; done) | (go_simp; rfl))); (focus (exact hS.conv)); simp only [putW])); (first | (refine takeIf (i := 14) rfl (by kernel_rfl) (fun _ _ _ h => h) (yMove rfl rfl rfl) hS.conv ?_; simp only [evW, putW]) | (refine takeIf (i := 14) rfl (by kernel_rfl) (fun _ _ _ h => h) (yLoad1 (fun _ h => h) rfl rfl rfl rfl) hS.conv ?_; simp only [putW]) | (refine takeIf (i := 14) rfl (by kernel_rfl) (fun _ _ _ h => h) (yLoadAll (fun _ h => h) rfl rfl rfl rfl) hS.conv ?_; simp only [putW]) | (apply takeIf (i := 14) rfl (by kernel_rfl) (fun _ _ _ h => h); (focus (apply yRun rfl; intro w; first | (go_simp; done) | (go_simp; rfl))); (focus (exact hS.conv)); simp only [putW])); refine wpAnyH_all (rs := [15]) (by kernel_rfl) (by simp) ?_; intro i hi; simp only [List.mem_cons, List.not_mem_nil, or_false] at hi; subst hi; refine wpOp_of_list rfl ?_; go_wp2_with (first | (refine alloc hS rfl rfl ?_; clear hS; intro m10 w hS; simp only [putW]) | (refine load1 hS rfl rfl rfl rfl ?_; simp only [putW]) | (refine loadAll hS rfl rfl rfl ?_ ?_; rfl; simp only [putW]) | (refine loadPart hS rfl rfl rfl ?_ rfl ?_; rfl; simp only [putW]) | (refine store1 hS rfl rfl rfl rfl rfl ?_ ?_; (focus (simp; done)); clear hS; intro w hS; simp only [evW, putW] at hS; try simp only [putW]) | (refine storeAll hS rfl rfl rfl rfl ?_ ?_ ?_ ?_; rfl; (focus (simp [Value.oneCell']; done)); rfl; clear hS; intro w hS; try simp only [putW]) | (refine storeN hS rfl rfl rfl rfl ?_ ?_ ?_ ?_; rfl; (focus (simp [Value.oneCell']; done)); (focus (simp; done)); clear hS; intro w hS; simp at hS; try simp only [putW]) | (refine alloc hS rfl rfl ?_; clear hS; intro mb w hS; simp only [putW]) | (refine box1 hS rfl rfl rfl rfl ?_; clear hS; intro mb w hS; try simp only [evW, putW] at hS; simp only [putW]) | (refine boxN hS rfl rfl rfl ?_; clear hS; intro mb w hS; simp only [putW])); refine ⟨rfl, hS.conv, ?_⟩; refine wpAnyH_all (rs := [16]) (by kernel_rfl) (by simp) ?_; intro i hi; simp only [List.mem_cons, List.not_mem_nil, or_false] at hi; subst hi; refine wpOp_of_list rfl ?_; go_wp2_with (first | (refine load1 hS rfl rfl rfl rfl ?_; simp only [putW]) | (refine loadAll hS rfl rfl rfl ?_ ?_; rfl; simp only [putW]) | (refine loadPart hS rfl rfl rfl ?_ rfl ?_; rfl; simp only [putW]) | (refine store1 hS rfl rfl rfl rfl rfl ?_ ?_; (focus (simp; done)); clear hS; intro w hS; simp only [evW, putW] at hS; try simp only [putW]) | (refine storeAll hS rfl rfl rfl rfl ?_ ?_ ?_ ?_; rfl; (focus (simp [Value.oneCell']; done)); rfl; clear hS; intro w hS; try simp only [putW]) | (refine storeN hS rfl rfl rfl rfl ?_ ?_ ?_ ?_; rfl; (focus (simp [Value.oneCell']; done)); (focus (simp; done)); clear hS; intro w hS; simp at hS; try simp only [putW]) | (refine alloc hS rfl rfl ?_; clear hS; intro mb w hS; simp only [putW]) | (refine box1 hS rfl rfl rfl rfl ?_; clear hS; intro mb w hS; try simp only [evW, putW] at hS; simp only [putW]) | (refine boxN hS rfl rfl rfl ?_; clear hS; intro mb w hS; simp only [putW])); refine ⟨rfl, hS.conv, ?_⟩; refine wpAnyH_done (by kernel_rfl) ?_ _; skip)
            replace hS := hS.conv (S' := (m10, cells #[.int .i64 (IntKind.i64.wrap (IntKind.i64.wrap ((fr : Int) + y) + IntKind.i64.wrap ((IntKind.i64.wrap ((fr : Int) + i - fr)).tdiv (8 : Nat)))), .int .i64 ((IntKind.i64.wrap ((fr : Int) + i - fr)).tmod (8 : Nat))] 105) :: (m4, cells #[.int .i64 0, .int .i64 0] 105) :: (mb, cells (plL P b C (.slice a L.length c) N ((P : Int) + C + N) hd J s t).toArray 60) :: [])
            rw [hnp.1, hnp.2] at hS
            go_wp2_with (first | (refine load1 hS rfl rfl rfl rfl ?_; simp only [putW]) | (refine loadAll hS rfl rfl rfl ?_ ?_; rfl; simp only [putW]) | (refine loadPart hS rfl rfl rfl ?_ rfl ?_; rfl; simp only [putW]) | (refine store1 hS rfl rfl rfl rfl rfl ?_ ?_; (focus (simp; done)); clear hS; intro w hS; simp only [evW, putW] at hS; try simp only [putW]) | (refine storeAll hS rfl rfl rfl rfl ?_ ?_ ?_ ?_; rfl; (focus (simp [Value.oneCell']; done)); rfl; clear hS; intro w hS; try simp only [putW]) | (refine storeN hS rfl rfl rfl rfl ?_ ?_ ?_ ?_; rfl; (focus (simp [Value.oneCell']; done)); (focus (simp; done)); clear hS; intro w hS; simp at hS; try simp only [putW]) | (refine alloc hS rfl rfl ?_; clear hS; intro mb w hS; simp only [putW]) | (refine box1 hS rfl rfl rfl rfl ?_; clear hS; intro mb w hS; try simp only [evW, putW] at hS; simp only [putW]) | (refine boxN hS rfl rfl rfl ?_; clear hS; intro mb w hS; simp only [putW]))
            go_meet
            case rel => exact ⟨m10, rfl, hS⟩
        case rest =>
          clear hS
          obtain ⟨m10, rfl, hS⟩ := hcut
          have hq3 : fr + i - fr = i := by omega
          rw [hq3] at hr
          obtain ⟨A1, hA1⟩ : ∃ A1, fr + y + i / q = A1 := ⟨_, rfl⟩
          obtain ⟨A2, hA2⟩ : ∃ A2, i % q = A2 := ⟨_, rfl⟩
          rw [hA1, hA2] at hS hr
          clear hA1 hA2
          rcases hr with ⟨ht, hr⟩ | ⟨ht, hr⟩
          · have ht2 : ((fr + i : Nat) : Int) = (P : Int) + C + N - 1 := by omega
            go_wp2_with (first | (go_at_call 32; refine Calls.mono (top_any (by omega)) ?_; rintro _ w2 ⟨rfl, h2⟩; replace hS := hS.frame h2; clear h2; (try simp only [List.cons_append, List.nil_append] at hS); simp only [putW]) | (refine load1 hS rfl rfl rfl rfl ?_; simp only [putW]) | (refine loadAll hS rfl rfl rfl ?_ ?_; rfl; simp only [putW]) | (refine loadPart hS rfl rfl rfl ?_ rfl ?_; rfl; simp only [putW]) | (refine store1 hS rfl rfl rfl rfl rfl ?_ ?_; (focus (simp; done)); clear hS; intro w hS; simp only [evW, putW] at hS; try simp only [putW]) | (refine storeAll hS rfl rfl rfl rfl ?_ ?_ ?_ ?_; rfl; (focus (simp [Value.oneCell']; done)); rfl; clear hS; intro w hS; try simp only [putW]) | (refine storeN hS rfl rfl rfl rfl ?_ ?_ ?_ ?_; rfl; (focus (simp [Value.oneCell']; done)); (focus (simp; done)); clear hS; intro w hS; simp at hS; try simp only [putW]) | (refine alloc hS rfl rfl ?_; clear hS; intro mb w hS; simp only [putW]) | (refine box1 hS rfl rfl rfl rfl ?_; clear hS; intro mb w hS; try simp only [evW, putW] at hS; simp only [putW]) | (refine boxN hS rfl rfl rfl ?_; clear hS; intro mb w hS; simp only [putW]))
            subst hr
            have hr := run_loadAll (P := Tryd.prog) hS m4 105 rfl
            exact bodyPost_ret (v := .tuple #[.agg #[.int .i64 0, .int .i64 0], .int .i64 5]) (by simp [results, Tryd.results91, asAddr, hr]) rfl ⟨rfl, hS.nothing⟩
          · have ht2 : ((fr + i : Nat) : Int) ≠ (P : Int) + C + N - 1 := by omega
            go_wp2_with (first | (go_at_call 32; refine Calls.mono (top_any (by omega)) ?_; rintro _ w2 ⟨rfl, h2⟩; replace hS := hS.frame h2; clear h2; (try simp only [List.cons_append, List.nil_append] at hS); simp only [putW]) | (refine load1 hS rfl rfl rfl rfl ?_; simp only [putW]) | (refine loadAll hS rfl rfl rfl ?_ ?_; rfl; simp only [putW]) | (refine loadPart hS rfl rfl rfl ?_ rfl ?_; rfl; simp only [putW]) | (refine store1 hS rfl rfl rfl rfl rfl ?_ ?_; (focus (simp; done)); clear hS; intro w hS; simp only [evW, putW] at hS; try simp only [putW]) | (refine storeAll hS rfl rfl rfl rfl ?_ ?_ ?_ ?_; rfl; (focus (simp [Value.oneCell']; done)); rfl; clear hS; intro w hS; try simp only [putW]) | (refine storeN hS rfl rfl rfl rfl ?_ ?_ ?_ ?_; rfl; (focus (simp [Value.oneCell']; done)); (focus (simp; done)); clear hS; intro w hS; simp at hS; try simp only [putW]) | (refine alloc hS rfl rfl ?_; clear hS; intro mb w hS; simp only [putW]) | (refine box1 hS rfl rfl rfl rfl ?_; clear hS; intro mb w hS; try simp only [evW, putW] at hS; simp only [putW]) | (refine boxN hS rfl rfl rfl ?_; clear hS; intro mb w hS; simp only [putW]))
            subst hr
            have hr := run_loadAll (P := Tryd.prog) hS m4 105 rfl
            exact bodyPost_ret (v := .tuple #[.agg #[.int .i64 (A1 : Int), .int .i64 (A2 : Int)], .int .i64 0]) (by simp [results, Tryd.results91, asAddr, hr]) rfl ⟨rfl, hS.nothing⟩
      · have hnx : Bx (frm P C n1 (j + 1) = fr + y) := ⟨Hs.out.2 hky⟩
        obtain ⟨i, rfl⟩ : ∃ i, k = fr + i := ⟨k - fr, by omega⟩
        go_wp2_with (first | (refine loadS1 (v1 := Value.int .i64) hS rfl rfl rfl hyi ?_; simp only [putW]) | (refine load1 hS rfl rfl rfl rfl ?_; simp only [putW]) | (refine loadAll hS rfl rfl rfl ?_ ?_; rfl; simp only [putW]) | (refine loadPart hS rfl rfl rfl ?_ rfl ?_; rfl; simp only [putW]) | (refine store1 hS rfl rfl rfl rfl rfl ?_ ?_; (focus (simp; done)); clear hS; intro w hS; simp only [evW, putW] at hS; try simp only [putW]) | (refine storeAll hS rfl rfl rfl rfl ?_ ?_ ?_ ?_; rfl; (focus (simp [Value.oneCell']; done)); rfl; clear hS; intro w hS; try simp only [putW]) | (refine storeN hS rfl rfl rfl rfl ?_ ?_ ?_ ?_; rfl; (focus (simp [Value.oneCell']; done)); (focus (simp; done)); clear hS; intro w hS; simp at hS; try simp only [putW]) | (refine alloc hS rfl rfl ?_; clear hS; intro mb w hS; simp only [putW]) | (refine box1 hS rfl rfl rfl rfl ?_; clear hS; intro mb w hS; try simp only [evW, putW] at hS; simp only [putW]) | (refine boxN hS rfl rfl rfl ?_; clear hS; intro mb w hS; simp only [putW]))
        go_roundw
        case rel => exact ⟨j + 1, by omega, by go_num, by rw [hnx.out]; go_num, rfl, ⟨by rw [hnx.out]; omega⟩, hS⟩
        case measure => simp [intOf]; omega
    · have hje : j = B.length := by omega
      subst hje
      exact absurd hf.out Hen.out
end
end Go.Proofs.YtdkimdobcacpfaaDoor
