/-
  plan.Path from page 0, plan.Need of page 0.
-/
import Derived.Test.YtdkimdobcacpfaaDoorPlPar
import Derived.Test.YtdkimdobcacpfaaDoorDvA
set_option linter.unusedSimpArgs false
set_option linter.unusedVariables false
namespace Go.Proofs.YtdkimdobcacpfaaDoor
open Go.RowKit Go.Proofs.YtdkimdobcacpfaaDoor.Sl Go.Proofs.YtdkimdobcacpfaaDoor.Jp Go.Proofs.YtdkimdobcacpfaaDoor.Tr Go.Proofs.YtdkimdobcacpfaaDoor.Dv

/-- The rows of a plan: pages, counters, levels. -/
def plB (P : Nat) : List Nat := [P, plC P] ++ plLv P
/-- Where row j begins. -/
def plK (P j : Nat) : Nat := ((plB P).take j).sum
def plM (P : Nat) : Nat := (plLv P).length
theorem lvGo_pos : ∀ (f n : Nat), 0 < n → ∀ y ∈ lvGo f n, 1 ≤ y
  | 0, _, _, _, h => by cases h
  | f + 1, n, hn, y, h => by
    simp only [lvGo, List.mem_cons] at h
    rcases h with rfl | h
    · exact ceil_pos hn (by omega)
    · split at h
      · exact lvGo_pos f _ (by omega) y h
      · cases h
theorem plB_pos {P : Nat} (h : 1 ≤ P) : ∀ y ∈ plB P, 1 ≤ y := by
  intro y hy
  rcases List.mem_append.1 hy with h1 | h1
  · simp only [List.mem_cons, List.not_mem_nil, or_false] at h1
    rcases h1 with rfl | rfl
    · exact h
    · exact plC_pos h
  · exact lvGo_pos _ _ (plC_pos h) y h1
theorem plB_sum (P : Nat) : (plB P).sum = plH P := by simp [plB, plH, plN]; omega
theorem plB_len (P : Nat) : (plB P).length = plM P + 2 := by simp [plB, plM]
theorem plM_le (P : Nat) : plM P ≤ 4 := lvGo_len 4 _
theorem plM_pos (P : Nat) : 1 ≤ plM P := by unfold plM plLv; simp [lvGo]
theorem mem_le_sum : ∀ {l : List Nat} {y : Nat}, y ∈ l → y ≤ l.sum
  | a :: l, y, h => by
    simp only [List.sum_cons]
    rcases List.mem_cons.1 h with rfl | h
    · omega
    · have := mem_le_sum h; omega
theorem plH_le {P : Nat} (h : P ≤ 4096) : plH P ≤ 10000 := by
  have := plN_le h
  have := plC_le h
  unfold plH
  omega
theorem plB_le {P : Nat} (h : P ≤ 4096) : ∀ y ∈ plB P, y ≤ 100000 := fun y hy => by
  have h1 := mem_le_sum hy
  rw [plB_sum] at h1
  have := plH_le h
  omega
theorem plK_step {P j y : Nat} (h : (plB P)[j]? = some y) : plK P (j + 1) = plK P j + y := sum_take_step h
theorem plK_le (P j : Nat) : plK P j ≤ plH P := by
  have := sum_take_mono (plB P) (i := j) (j := max j (plB P).length) (by omega)
  rw [List.take_of_length_le (by omega : (plB P).length ≤ max j (plB P).length), plB_sum] at this
  exact this
/-- The blocks from page 0 to the top, the first j of them. -/
def plPt (P j : Nat) : List Int := (List.range j).map fun i => ((plK P (i + 1) : Nat) : Int)
theorem plPt_succ (P j : Nat) : plPt P (j + 1) = plPt P j ++ [((plK P (j + 1) : Nat) : Int)] := by
  simp [plPt, List.range_succ]
section
variable {w0 w : World} {lv : Value} {P b : Nat}
set_option maxRecDepth 100000 in
set_option maxHeartbeats 4000000 in
theorem planPath0 {H : Int} {bI Nn hd J s t : Int} (h1 : 1 ≤ P) (h2 : P ≤ 4096) (hH : H = (plH P : Nat)) (hL : RI w0 (nI (plLv P)) lv) :
    Calls Tryd.prog 80 #[.agg (plL P bI (plC P : Nat) lv Nn H hd J s t).toArray, .int .i64 0] w0 fun e w' => ∃ v, e = .returned (.tuple #[v, .int .i64 0]) ∧ Sat w0 [(blk v, sl 1 i64 (plPt P (plM P + 1)) 3 v)] w' := by
  have hS := Sat.refl w0
  subst hH
  obtain ⟨m, hm⟩ : ∃ m, plM P = m := ⟨_, rfl⟩
  have hm4 : m ≤ 4 := by rw [← hm]; exact plM_le P
  obtain ⟨a, c, rfl, hll, -⟩ := hL.at
  have hnl : (nI (plLv P)).length = m := by rw [nI, List.length_map]; exact hm
  rw [hnl] at hL hll ⊢
  rw [hm]
  have HM : Bx _ := ⟨hm⟩
  have HL : Bx _ := ⟨hL⟩
  have hbl : (plB P).length = m + 2 := by rw [plB_len, hm]
  have HBl : Bx _ := ⟨hbl⟩
  have hHl := plH_le h2
  clear hm hL hnl hbl
  obtain ⟨Hn, hHn⟩ : ∃ Hn, plH P = Hn := ⟨_, rfl⟩
  obtain ⟨Cn, hCn⟩ : ∃ Cn, plC P = Cn := ⟨_, rfl⟩
  have HHn : Bx _ := ⟨hHn⟩
  have HCn : Bx _ := ⟨hCn⟩
  rw [hHn, hCn]
  rw [hHn] at hHl
  clear hHn hCn
  have d1 : decide ((P : Int) ≤ 0) = false := decide_eq_false (by omega)
  have d1n : decide (P ≤ 0) = false := decide_eq_false (by omega)
  have d1e : decide (P = 0) = false := decide_eq_false (by omega)
  go_enter Tryd.func80, Tryd.ntmps80
  go_wp2_with (first | (refine load1 hS rfl rfl rfl rfl ?_; simp only [putW]) | (refine loadAll hS rfl rfl rfl ?_ ?_; rfl; simp only [putW]) | (refine loadPart hS rfl rfl rfl ?_ rfl ?_; rfl; simp only [putW]) | (refine store1 hS rfl rfl rfl rfl rfl ?_ ?_; (focus (simp; done)); clear hS; intro w hS; simp only [evW, putW] at hS; try simp only [putW]) | (refine storeAll hS rfl rfl rfl rfl ?_ ?_ ?_ ?_; rfl; (focus (simp [Value.oneCell']; done)); rfl; clear hS; intro w hS; try simp only [putW]) | (refine storeN hS rfl rfl rfl rfl ?_ ?_ ?_ ?_; rfl; (focus (simp [Value.oneCell']; done)); (focus (simp; done)); clear hS; intro w hS; simp at hS; try simp only [putW]) | (refine alloc hS rfl rfl ?_; clear hS; intro mb w hS; simp only [putW]) | (refine box1 hS rfl rfl rfl rfl ?_; clear hS; intro mb w hS; try simp only [evW, putW] at hS; simp only [putW]) | (refine boxN hS rfl rfl rfl ?_; clear hS; intro mb w hS; simp only [putW]))
  obtain ⟨mp, rfl⟩ : ∃ mp, mp = mb := ⟨_, rfl⟩
  go_loopg [6, 7, 23] (m + 1) (fun g v at' i wr => ∃ j : Nat, j + g = m + 1 ∧ i = .int .i64 j ∧ at' = .int .i64 ((plK P j : Nat) : Int) ∧ Sat w0 ((blk v, sl 1 i64 (plPt P j) 3 v) :: (mp, cells (plL P bI Cn (.slice a m c) Nn Hn hd J s t).toArray 60) :: []) wr)
  case atStart => exact ⟨0, by omega, rfl, rfl, hS.slNil 1 i64 3⟩
  case round =>
    clear hS
    obtain ⟨j, hjg, rfl, rfl, hS⟩ := hrel
    cases gk with
    | zero =>
      have hj : j = m + 1 := by omega
      subst hj
      go_wp2_with (first | (refine load1 hS rfl rfl rfl rfl ?_; simp only [putW]) | (refine loadAll hS rfl rfl rfl ?_ ?_; rfl; simp only [putW]) | (refine loadPart hS rfl rfl rfl ?_ rfl ?_; rfl; simp only [putW]) | (refine store1 hS rfl rfl rfl rfl rfl ?_ ?_; (focus (simp; done)); clear hS; intro w hS; simp only [evW, putW] at hS; try simp only [putW]) | (refine storeAll hS rfl rfl rfl rfl ?_ ?_ ?_ ?_; rfl; (focus (simp [Value.oneCell']; done)); rfl; clear hS; intro w hS; try simp only [putW]) | (refine storeN hS rfl rfl rfl rfl ?_ ?_ ?_ ?_; rfl; (focus (simp [Value.oneCell']; done)); (focus (simp; done)); clear hS; intro w hS; simp at hS; try simp only [putW]) | (refine alloc hS rfl rfl ?_; clear hS; intro mb w hS; simp only [putW]) | (refine box1 hS rfl rfl rfl rfl ?_; clear hS; intro mb w hS; try simp only [evW, putW] at hS; simp only [putW]) | (refine boxN hS rfl rfl rfl ?_; clear hS; intro mb w hS; simp only [putW]))
      go_ret2
      exact ⟨u6, rfl, hS.conv⟩
    | succ g =>
      have hjm : j ≤ m := by omega
      obtain ⟨y, hy⟩ : ∃ y, (plB P)[j]? = some y := ⟨_, List.getElem?_eq_getElem (by rw [HBl.out]; omega)⟩
      obtain ⟨z, hz⟩ : ∃ z, (plB P)[j + 1]? = some z := ⟨_, List.getElem?_eq_getElem (by rw [HBl.out]; omega)⟩
      have hy1 := plB_pos h1 y (List.mem_of_getElem? hy)
      have hz1 := plB_pos h1 z (List.mem_of_getElem? hz)
      obtain ⟨x, hx⟩ : ∃ x, plK P j = x := ⟨_, rfl⟩
      have hx1 : plK P (j + 1) = x + y := by rw [plK_step hy, hx]
      have hx2 : plK P (j + 2) = x + y + z := by rw [plK_step hz, hx1]
      have hle := plK_le P (j + 2)
      rw [hx2, HHn.out] at hle
      have hpt : Bx (plPt P (j + 1) = plPt P j ++ [((x + y : Nat) : Int)]) := ⟨by rw [plPt_succ, hx1]⟩
      have HX1 : Bx _ := ⟨hx1⟩
      have HY : Bx _ := ⟨hy⟩
      have HX : Bx (((plB P).take j).sum = x) := ⟨hx⟩
      have hne : ¬ ((x : Int) + 1 = (Hn : Int)) := by omega
      have hpl : (plPt P j).length ≤ 10 := by rw [plPt, List.length_map, List.length_range]; omega
      have hr : Bx ((if ((x : Nat) : Int) + 1 = (Hn : Int) then Value.tuple #[.agg #[.int .i64 0, .int .i64 0], .int .i64 5] else .tuple #[.agg #[.int .i64 ((((((plB P).take j).sum) + y + (x - ((plB P).take j).sum) / fan j : Nat)) : Int), .int .i64 (((x - ((plB P).take j).sum) % fan j : Nat) : Int)], .int .i64 0]) = .tuple #[.agg #[.int .i64 ((x + y : Nat) : Int), .int .i64 0], .int .i64 0]) := ⟨by
        rw [if_neg hne, HX.out, Nat.sub_self, Nat.zero_div, Nat.zero_mod]
        rfl⟩
      rw [hx]
      clear hy hz hx hx1 hx2 hne
      go_wp2_with (first | (guard_target =~ Calls _ 91 _ _ _; refine Stopped.out ?_) | (refine load1 hS rfl rfl rfl rfl ?_; simp only [putW]) | (refine loadAll hS rfl rfl rfl ?_ ?_; rfl; simp only [putW]) | (refine loadPart hS rfl rfl rfl ?_ rfl ?_; rfl; simp only [putW]) | (refine store1 hS rfl rfl rfl rfl rfl ?_ ?_; (focus (simp; done)); clear hS; intro w hS; simp only [evW, putW] at hS; try simp only [putW]) | (refine storeAll hS rfl rfl rfl rfl ?_ ?_ ?_ ?_; rfl; (focus (simp [Value.oneCell']; done)); rfl; clear hS; intro w hS; try simp only [putW]) | (refine storeN hS rfl rfl rfl rfl ?_ ?_ ?_ ?_; rfl; (focus (simp [Value.oneCell']; done)); (focus (simp; done)); clear hS; intro w hS; simp at hS; try simp only [putW]) | (refine alloc hS rfl rfl ?_; clear hS; intro mb w hS; simp only [putW]) | (refine box1 hS rfl rfl rfl rfl ?_; clear hS; intro mb w hS; try simp only [evW, putW] at hS; simp only [putW]) | (refine boxN hS rfl rfl rfl ?_; clear hS; intro mb w hS; simp only [putW]))
      refine ⟨?_⟩
      refine Calls.mono (planParent_at (B := plB P) (L := nI (plLv P)) (j0 := j) (y0 := y) (k := x) rfl (HL.out.mono hS.base) (by rw [← HCn.out]; rfl) (by rw [HBl.out]; omega) (plB_le h2) HY.out (by rw [HX.out]; exact Nat.le_refl _) (by rw [HX.out]; omega) (by omega) (by omega)) ?_
      rw [hr.out]
      rintro _ w2 ⟨rfl, h3⟩
      replace hS := hS.frame h3
      clear h3
      simp only [List.nil_append] at hS
      simp only [putW]
      go_wp2_with (first | (refine buildSlice1 (c := #[.int .i64 ((x + y : Nat) : Int)]) hS rfl rfl rfl ?_ ?_ ?_ ?_; rfl; rfl; rfl; clear hS; intro mb w hS; simp only [putW]) | (guard_target =~ wpList _ _ _ (Oper.mk (some 38) _ _ _ _ _ :: _) _ _; refine Stopped.out ?_) | (refine load1 hS rfl rfl rfl rfl ?_; simp only [putW]) | (refine loadAll hS rfl rfl rfl ?_ ?_; rfl; simp only [putW]) | (refine loadPart hS rfl rfl rfl ?_ rfl ?_; rfl; simp only [putW]) | (refine store1 hS rfl rfl rfl rfl rfl ?_ ?_; (focus (simp; done)); clear hS; intro w hS; simp only [evW, putW] at hS; try simp only [putW]) | (refine storeAll hS rfl rfl rfl rfl ?_ ?_ ?_ ?_; rfl; (focus (simp [Value.oneCell']; done)); rfl; clear hS; intro w hS; try simp only [putW]) | (refine storeN hS rfl rfl rfl rfl ?_ ?_ ?_ ?_; rfl; (focus (simp [Value.oneCell']; done)); (focus (simp; done)); clear hS; intro w hS; simp at hS; try simp only [putW]) | (refine alloc hS rfl rfl ?_; clear hS; intro mb w hS; simp only [putW]) | (refine box1 hS rfl rfl rfl rfl ?_; clear hS; intro mb w hS; try simp only [evW, putW] at hS; simp only [putW]) | (refine boxN hS rfl rfl rfl ?_; clear hS; intro mb w hS; simp only [putW]))
      refine ⟨?_⟩
      refine append1 (f := i64) (n := 1) hS rfl rfl u6 rfl rfl ((x + y : Nat) : Int) rfl ?_ rfl ?_ ?_ ?_
      · intro u hu; rw [List.mem_singleton.1 hu]; rfl
      · simp [maxLen]; omega
      · omega
      clear hS
      intro v' w hS
      simp only [putW]
      rw [← hpt.out] at hS
      go_wp2_with (first | (refine load1 hS rfl rfl rfl rfl ?_; simp only [putW]) | (refine loadAll hS rfl rfl rfl ?_ ?_; rfl; simp only [putW]) | (refine loadPart hS rfl rfl rfl ?_ rfl ?_; rfl; simp only [putW]) | (refine store1 hS rfl rfl rfl rfl rfl ?_ ?_; (focus (simp; done)); clear hS; intro w hS; simp only [evW, putW] at hS; try simp only [putW]) | (refine storeAll hS rfl rfl rfl rfl ?_ ?_ ?_ ?_; rfl; (focus (simp [Value.oneCell']; done)); rfl; clear hS; intro w hS; try simp only [putW]) | (refine storeN hS rfl rfl rfl rfl ?_ ?_ ?_ ?_; rfl; (focus (simp [Value.oneCell']; done)); (focus (simp; done)); clear hS; intro w hS; simp at hS; try simp only [putW]) | (refine alloc hS rfl rfl ?_; clear hS; intro mb w hS; simp only [putW]) | (refine box1 hS rfl rfl rfl rfl ?_; clear hS; intro mb w hS; try simp only [evW, putW] at hS; simp only [putW]) | (refine boxN hS rfl rfl rfl ?_; clear hS; intro mb w hS; simp only [putW]))
      go_roundg g
      case measure => omega
      case rel => exact ⟨j + 1, by omega, by go_num, by rw [HX1.out]; simp, hS.conv⟩
instance keyPl : KeyEnc Tryd.prog 3 encInt := encInt_ok Tryd.underlying3
def unV (_ : Unit) : Value := .agg #[]
/-- What is in the way of a page and its path, as a map's keys. -/
def plPs (P j : Nat) : List (Int × Unit) := ((0 : Int) :: plPt P j).map fun k => (k, ())
theorem plK_pos {P : Nat} (h : 1 ≤ P) (i : Nat) : 1 ≤ plK P (i + 1) := by
  have := sum_take_mono (plB P) (i := 1) (j := i + 1) (by omega)
  have e : ((plB P).take 1).sum = P := by simp [plB]
  unfold plK
  omega
theorem plK_lt {P i j : Nat} (h : 1 ≤ P) (hij : i < j) (hj : j ≤ plM P + 2) : plK P i < plK P j := by
  obtain ⟨y, hy⟩ : ∃ y, (plB P)[i]? = some y := ⟨_, List.getElem?_eq_getElem (by rw [plB_len]; omega)⟩
  have h1 := plK_step hy
  have h2 := plB_pos h y (List.mem_of_getElem? hy)
  have h3 := sum_take_mono (plB P) (i := i + 1) (j := j) (by omega)
  unfold plK at *
  omega
theorem plPs_succ {P j : Nat} (h : 1 ≤ P) (hj : j + 1 ≤ plM P + 2) : mput (plPs P j) ((plK P (j + 1) : Nat) : Int) () = plPs P (j + 1) := by
  have hn : findL (plPs P j) ((plK P (j + 1) : Nat) : Int) 0 = none := by
    rw [findL_none]
    intro hm
    simp only [mkeys, plPs, List.map_map, List.mem_map] at hm
    obtain ⟨x, hx, he⟩ := hm
    have he : x = ((plK P (j + 1) : Nat) : Int) := he
    rcases List.mem_cons.1 hx with h0 | h0
    · have := plK_pos h j; omega
    · simp only [plPt, List.mem_map, List.mem_range] at h0
      obtain ⟨i, hi, rfl⟩ := h0
      have := plK_lt (i := i + 1) (j := j + 1) h (by omega) hj
      omega
  unfold mput
  rw [hn]
  simp [plPs, plPt_succ]
set_option maxRecDepth 100000 in
set_option maxHeartbeats 4000000 in
theorem planNeed0 {H : Int} {bI Nn hd J s t : Int} {va : Value} (h1 : 1 ≤ P) (h2 : P ≤ 4096) (hH : H = (plH P : Nat)) (hL : RI w0 (nI (plLv P)) lv) (hA : RI w0 [0] va) :
    Calls Tryd.prog 61 #[.agg (plL P bI (plC P : Nat) lv Nn H hd J s t).toArray, va] w0 fun e w' => e = .returned (.int .i64 ((plM P + 2 : Nat) : Int)) ∧ Sat w0 [] w' := by
  have hS := Sat.refl w0
  subst hH
  obtain ⟨m, hm⟩ : ∃ m, plM P = m := ⟨_, rfl⟩
  have hm4 : m ≤ 4 := by rw [← hm]; exact plM_le P
  obtain ⟨a, c, rfl, -, -⟩ := hL.at
  obtain ⟨a2, c2, rfl, hal, hat⟩ := hA.at
  obtain ⟨ab, ao, rfl, hB⟩ := hat (by simp)
  have HL : Bx _ := ⟨hL⟩
  have HM : Bx _ := ⟨hm⟩
  rw [hm]
  clear hm hL hat hA
  go_enter Tryd.func61, Tryd.ntmps61
  go_wp2_with (first | (refine boxN (cs := (plL P bI (plC P : Nat) (.slice a (nI (plLv P)).length c) Nn (plH P : Nat) hd J s t).toArray) hS rfl rfl rfl ?_; clear hS; intro mp w hS; simp only [putW]) | (refine makeMap hS rfl rfl encInt  unV ?_; clear hS; intro mb w hS; simp only [putW]) | (refine load1 hS rfl rfl rfl rfl ?_; simp only [putW]) | (refine loadAll hS rfl rfl rfl ?_ ?_; rfl; simp only [putW]) | (refine loadPart hS rfl rfl rfl ?_ rfl ?_; rfl; simp only [putW]) | (refine store1 hS rfl rfl rfl rfl rfl ?_ ?_; (focus (simp; done)); clear hS; intro w hS; simp only [evW, putW] at hS; try simp only [putW]) | (refine storeAll hS rfl rfl rfl rfl ?_ ?_ ?_ ?_; rfl; (focus (simp [Value.oneCell']; done)); rfl; clear hS; intro w hS; try simp only [putW]) | (refine storeN hS rfl rfl rfl rfl ?_ ?_ ?_ ?_; rfl; (focus (simp [Value.oneCell']; done)); (focus (simp; done)); clear hS; intro w hS; simp at hS; try simp only [putW]) | (refine alloc hS rfl rfl ?_; clear hS; intro mb w hS; simp only [putW]) | (refine box1 hS rfl rfl rfl rfl ?_; clear hS; intro mb w hS; try simp only [evW, putW] at hS; simp only [putW]) | (refine boxN hS rfl rfl rfl ?_; clear hS; intro mb w hS; simp only [putW]))
  obtain ⟨mm, rfl⟩ : ∃ mm, mm = mb := ⟨_, rfl⟩
  have hx0 : [(0 : Int)][0]? = some 0 := rfl
  have HPs : Bx (mput [] (0 : Int) () = plPs P 0) := ⟨rfl⟩
  have hpl : (plPt P (m + 1)).length = m + 1 := by rw [plPt, List.length_map, List.length_range]
  have HPl : Bx _ := ⟨hpl⟩
  have HPn : Bx ((plPs P (m + 1)).length = m + 2) := ⟨by simp [plPs, plPt]⟩
  clear hpl
  go_loopg [15] 1 (fun g i wr => (g = 1 ∧ i = .int .i64 0 ∧ Sat w0 ((mm, mapC encInt unV []) :: (mp, cells (plL P bI (plC P : Nat) (.slice a (nI (plLv P)).length c) Nn (plH P : Nat) hd J s t).toArray 60) :: []) wr) ∨ (g = 0 ∧ i = .int .i64 1 ∧ Sat w0 ((mm, mapC encInt unV (plPs P (m + 1))) :: []) wr))
  case atStart => exact .inl ⟨rfl, rfl, hS⟩
  case round =>
    clear hS
    rcases hrel with ⟨hg, rfl, hS⟩ | ⟨hg, rfl, hS⟩
    · subst hg
      go_wp2_with (first | (refine loadB (f := i64) hS rfl rfl rfl hB 0 0 ?_ hx0 rfl ?_; omega; simp only [putW]) | (guard_target =~ Calls _ 80 _ _ _; refine Stopped.out ?_) | (refine load1 hS rfl rfl rfl rfl ?_; simp only [putW]) | (refine loadAll hS rfl rfl rfl ?_ ?_; rfl; simp only [putW]) | (refine loadPart hS rfl rfl rfl ?_ rfl ?_; rfl; simp only [putW]) | (refine store1 hS rfl rfl rfl rfl rfl ?_ ?_; (focus (simp; done)); clear hS; intro w hS; simp only [evW, putW] at hS; try simp only [putW]) | (refine storeAll hS rfl rfl rfl rfl ?_ ?_ ?_ ?_; rfl; (focus (simp [Value.oneCell']; done)); rfl; clear hS; intro w hS; try simp only [putW]) | (refine storeN hS rfl rfl rfl rfl ?_ ?_ ?_ ?_; rfl; (focus (simp [Value.oneCell']; done)); (focus (simp; done)); clear hS; intro w hS; simp at hS; try simp only [putW]) | (refine alloc hS rfl rfl ?_; clear hS; intro mb w hS; simp only [putW]) | (refine box1 hS rfl rfl rfl rfl ?_; clear hS; intro mb w hS; try simp only [evW, putW] at hS; simp only [putW]) | (refine boxN hS rfl rfl rfl ?_; clear hS; intro mb w hS; simp only [putW]))
      refine ⟨?_⟩
      refine Calls.mono (planPath0 h1 h2 rfl (HL.out.mono hS.base)) ?_
      rw [HM.out]
      rintro _ w2 ⟨v, rfl, h3⟩
      replace hS := hS.frame h3
      clear h3
      simp only [List.cons_append, List.nil_append] at hS
      simp only [putW]
      obtain ⟨q1, c1, hv1⟩ := shapeN hS HPl.out
      subst hv1
      go_wp2_with (first | (refine mapUpdate (enc := encInt) (ve := unV) hS rfl rfl (0 : Int) () rfl rfl rfl ?_; clear hS; intro w hS; rw [HPs.out] at hS; try simp only [putW]) | (refine load1 hS rfl rfl rfl rfl ?_; simp only [putW]) | (refine loadAll hS rfl rfl rfl ?_ ?_; rfl; simp only [putW]) | (refine loadPart hS rfl rfl rfl ?_ rfl ?_; rfl; simp only [putW]) | (refine store1 hS rfl rfl rfl rfl rfl ?_ ?_; (focus (simp; done)); clear hS; intro w hS; simp only [evW, putW] at hS; try simp only [putW]) | (refine storeAll hS rfl rfl rfl rfl ?_ ?_ ?_ ?_; rfl; (focus (simp [Value.oneCell']; done)); rfl; clear hS; intro w hS; try simp only [putW]) | (refine storeN hS rfl rfl rfl rfl ?_ ?_ ?_ ?_; rfl; (focus (simp [Value.oneCell']; done)); (focus (simp; done)); clear hS; intro w hS; simp at hS; try simp only [putW]) | (refine alloc hS rfl rfl ?_; clear hS; intro mb w hS; simp only [putW]) | (refine box1 hS rfl rfl rfl rfl ?_; clear hS; intro mb w hS; try simp only [evW, putW] at hS; simp only [putW]) | (refine boxN hS rfl rfl rfl ?_; clear hS; intro mb w hS; simp only [putW]))

      go_loopg [32] (m + 1) (fun g i wr => ∃ j : Nat, j + g = m + 1 ∧ i = .int .i64 j ∧ Sat w0 ((mm, mapC encInt unV (plPs P j)) :: (blk (Value.slice q1 (m + 1) c1), sl 1 i64 (plPt P (m + 1)) 3 (Value.slice q1 (m + 1) c1)) :: []) wr)
      case atStart => exact ⟨0, by omega, rfl, hS.conv⟩
      case round =>
        clear hS
        obtain ⟨j, hjg, rfl, hS⟩ := hrel
        cases gk with
        | zero =>
          have hj : j = m + 1 := by omega
          subst hj
          have d1 : decide (((m + 1 : Nat) : Int) < ((m + 1 : Nat) : Int)) = false := decide_eq_false (by omega)
          go_wp2_with (first | (refine load1 hS rfl rfl rfl rfl ?_; simp only [putW]) | (refine loadAll hS rfl rfl rfl ?_ ?_; rfl; simp only [putW]) | (refine loadPart hS rfl rfl rfl ?_ rfl ?_; rfl; simp only [putW]) | (refine store1 hS rfl rfl rfl rfl rfl ?_ ?_; (focus (simp; done)); clear hS; intro w hS; simp only [evW, putW] at hS; try simp only [putW]) | (refine storeAll hS rfl rfl rfl rfl ?_ ?_ ?_ ?_; rfl; (focus (simp [Value.oneCell']; done)); rfl; clear hS; intro w hS; try simp only [putW]) | (refine storeN hS rfl rfl rfl rfl ?_ ?_ ?_ ?_; rfl; (focus (simp [Value.oneCell']; done)); (focus (simp; done)); clear hS; intro w hS; simp at hS; try simp only [putW]) | (refine alloc hS rfl rfl ?_; clear hS; intro mb w hS; simp only [putW]) | (refine box1 hS rfl rfl rfl rfl ?_; clear hS; intro mb w hS; try simp only [evW, putW] at hS; simp only [putW]) | (refine boxN hS rfl rfl rfl ?_; clear hS; intro mb w hS; simp only [putW]))
          go_roundg 0
          case measure => omega
          case rel => exact .inr ⟨rfl, rfl, hS.conv⟩
        | succ g =>
          have hjm : j < m + 1 := by omega
          have d1 : decide ((j : Int) < ((m + 1 : Nat) : Int)) = true := decide_eq_true (by omega)
          obtain ⟨y, hy⟩ : ∃ y, (plPt P (m + 1))[j]? = some y := ⟨_, List.getElem?_eq_getElem (by rw [HPl.out]; exact hjm)⟩
          have hy2 : y = ((plK P (j + 1) : Nat) : Int) := by
            simp only [plPt, List.getElem?_map, List.getElem?_range hjm, Option.map_some, Option.some.injEq] at hy
            exact hy.symm
          subst hy2
          have HY : Bx _ := ⟨hy⟩
          have HS : Bx (mput (plPs P j) ((plK P (j + 1) : Nat) : Int) () = plPs P (j + 1)) := ⟨plPs_succ h1 (by rw [HM.out]; omega)⟩
          obtain ⟨gq, hqq, hcq, hS2⟩ := openS (hS.pull (blk (Value.slice q1 (m + 1) c1)) (X := sl 1 i64 (plPt P (m + 1)) 3 (Value.slice q1 (m + 1) c1))) HPl.out (by omega)
          subst hqq
          clear hS hy
          have hS := hS2
          clear hS2
          go_wp2_with (first | (refine loadS1 (v1 := Value.int .i64) hS rfl rfl rfl HY.out ?_; simp only [putW]) | (refine mapUpdate (enc := encInt) (ve := unV) hS rfl rfl ((plK P (j + 1) : Nat) : Int) () rfl rfl rfl ?_; clear hS; intro w hS; rw [HS.out] at hS; try simp only [putW]) | (refine load1 hS rfl rfl rfl rfl ?_; simp only [putW]) | (refine loadAll hS rfl rfl rfl ?_ ?_; rfl; simp only [putW]) | (refine loadPart hS rfl rfl rfl ?_ rfl ?_; rfl; simp only [putW]) | (refine store1 hS rfl rfl rfl rfl rfl ?_ ?_; (focus (simp; done)); clear hS; intro w hS; simp only [evW, putW] at hS; try simp only [putW]) | (refine storeAll hS rfl rfl rfl rfl ?_ ?_ ?_ ?_; rfl; (focus (simp [Value.oneCell']; done)); rfl; clear hS; intro w hS; try simp only [putW]) | (refine storeN hS rfl rfl rfl rfl ?_ ?_ ?_ ?_; rfl; (focus (simp [Value.oneCell']; done)); (focus (simp; done)); clear hS; intro w hS; simp at hS; try simp only [putW]) | (refine alloc hS rfl rfl ?_; clear hS; intro mb w hS; simp only [putW]) | (refine box1 hS rfl rfl rfl rfl ?_; clear hS; intro mb w hS; try simp only [evW, putW] at hS; simp only [putW]) | (refine boxN hS rfl rfl rfl ?_; clear hS; intro mb w hS; simp only [putW]))
          go_roundg g
          case measure => omega
          case rel => exact ⟨j + 1, by omega, by go_num, (closeSlN (hS.pull gq (X := slc 1 i64 (plPt P (m + 1)) c1 3)) HPl.out).conv⟩
    · subst hg
      go_wp2_with (first | (refine lenMap (enc := encInt) (ve := unV) (l := plPs P (m + 1)) hS rfl rfl rfl ?_; rw [HPn.out]; simp only [putW]) | (refine load1 hS rfl rfl rfl rfl ?_; simp only [putW]) | (refine loadAll hS rfl rfl rfl ?_ ?_; rfl; simp only [putW]) | (refine loadPart hS rfl rfl rfl ?_ rfl ?_; rfl; simp only [putW]) | (refine store1 hS rfl rfl rfl rfl rfl ?_ ?_; (focus (simp; done)); clear hS; intro w hS; simp only [evW, putW] at hS; try simp only [putW]) | (refine storeAll hS rfl rfl rfl rfl ?_ ?_ ?_ ?_; rfl; (focus (simp [Value.oneCell']; done)); rfl; clear hS; intro w hS; try simp only [putW]) | (refine storeN hS rfl rfl rfl rfl ?_ ?_ ?_ ?_; rfl; (focus (simp [Value.oneCell']; done)); (focus (simp; done)); clear hS; intro w hS; simp at hS; try simp only [putW]) | (refine alloc hS rfl rfl ?_; clear hS; intro mb w hS; simp only [putW]) | (refine box1 hS rfl rfl rfl rfl ?_; clear hS; intro mb w hS; try simp only [evW, putW] at hS; simp only [putW]) | (refine boxN hS rfl rfl rfl ?_; clear hS; intro mb w hS; simp only [putW]))
      go_ret
      exact ⟨rfl, hS.nothing⟩
end
end Go.Proofs.YtdkimdobcacpfaaDoor
