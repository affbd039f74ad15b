/-
  plan.Path, thimbleref16.Path at a tree's plan.
-/
import Derived.Test.YteiglillnogoaaaDoorTrPar
import Derived.Test.YteiglillnogoaaaDoorTrAll
set_option linter.unusedSimpArgs false
set_option linter.unusedVariables false
namespace Go.Proofs.YteiglillnogoaaaDoor
open Go.RowKit Go.Proofs.YteiglillnogoaaaDoor.Sl Go.Proofs.YteiglillnogoaaaDoor.Jp Go.Proofs.YteiglillnogoaaaDoor.Tr

/-- The blocks from a page to the top, and where each is told in the next one. -/
structure Chain (P C n1 N page : Nat) (L T : List Nat) : Prop where
  len : L.length = (lvs n1 N).length + 1
  lenT : T.length = L.length
  step : ∀ (j a b t : Nat), (page :: L)[j]? = some a → L[j]? = some b → T[j]? = some t → parP P C n1 N a = some (b, t)
  last : ∀ (a : Nat), (page :: L)[L.length]? = some a → parP P C n1 N a = none
  room : ∀ (j a : Nat), (page :: L)[j]? = some a → a < P + C + N
  low : ∀ (j b : Nat), L[j]? = some b → P ≤ b
  at8 : ∀ (j t : Nat), T[j + 1]? = some t → t < 8
theorem chain_made {P C n1 N page : Nat} (hp : page < P) (h1 : P ≤ 16 * C) (h2 : C ≤ 8 * n1) (h3 : n1 ≤ 8) (hN : (N = n1 ∧ n1 = 1) ∨ (N = n1 + 1 ∧ 2 ≤ n1)) : ∃ L T, Chain P C n1 N page L T := by
  rcases hN with ⟨rfl, hn⟩ | ⟨rfl, hn⟩
  · refine ⟨[P + page / 16, P + (C + page / 16 / 8)], [page % 16, page / 16 % 8], ?_⟩
    have e1 : parP P C N N page = some (P + page / 16, page % 16) := by rw [parP, if_pos hp]
    have e2 : parP P C N N (P + page / 16) = some (P + (C + page / 16 / 8), page / 16 % 8) := by
      rw [parP, if_neg (by omega), par, if_pos (by omega), Nat.add_sub_cancel_left]
      rfl
    have e3 : parP P C N N (P + (C + page / 16 / 8)) = none := by
      rw [parP, if_neg (by omega), par, if_neg (by omega), if_neg (by omega)]
      rfl
    refine ⟨by simp [lvs], rfl, ?_, ?_, ?_, ?_, ?_⟩
    · intro j a b t ha hb ht
      match j, ha, hb, ht with
      | 0, ha, hb, ht => simp at ha hb ht; subst ha; subst hb; subst ht; exact e1
      | 1, ha, hb, ht => simp at ha hb ht; subst ha; subst hb; subst ht; exact e2
      | j + 2, ha, hb, ht => simp at hb
    · intro a ha
      simp at ha
      subst ha
      exact e3
    · intro j a ha
      match j, ha with
      | 0, ha => simp at ha; omega
      | 1, ha => simp at ha; omega
      | 2, ha => simp at ha; omega
      | j + 3, ha => simp at ha
    · intro j b hb
      match j, hb with
      | 0, hb => simp at hb; omega
      | 1, hb => simp at hb; omega
      | j + 2, hb => simp at hb
    · intro j t ht
      match j, ht with
      | 0, ht => simp at ht; omega
      | j + 1, ht => simp at ht
  · refine ⟨[P + page / 16, P + (C + page / 16 / 8), P + (C + n1 + page / 16 / 8 / 8)], [page % 16, page / 16 % 8, page / 16 / 8 % 8], ?_⟩
    have e1 : parP P C n1 (n1 + 1) page = some (P + page / 16, page % 16) := by rw [parP, if_pos hp]
    have e2 : parP P C n1 (n1 + 1) (P + page / 16) = some (P + (C + page / 16 / 8), page / 16 % 8) := by
      rw [parP, if_neg (by omega), par, if_pos (by omega), Nat.add_sub_cancel_left]
      rfl
    have e3 : parP P C n1 (n1 + 1) (P + (C + page / 16 / 8)) = some (P + (C + n1 + page / 16 / 8 / 8), page / 16 / 8 % 8) := by
      rw [parP, if_neg (by omega), par, if_neg (by omega), if_pos (by omega), Nat.add_sub_cancel_left]
      simp only [Option.map_some]
      rw [Nat.add_sub_cancel_left]
    have e4 : parP P C n1 (n1 + 1) (P + (C + n1 + page / 16 / 8 / 8)) = none := by
      rw [parP, if_neg (by omega), par, if_neg (by omega), if_neg (by omega)]
      rfl
    refine ⟨by simp [lvs], rfl, ?_, ?_, ?_, ?_, ?_⟩
    · intro j a b t ha hb ht
      match j, ha, hb, ht with
      | 0, ha, hb, ht => simp at ha hb ht; subst ha; subst hb; subst ht; exact e1
      | 1, ha, hb, ht => simp at ha hb ht; subst ha; subst hb; subst ht; exact e2
      | 2, ha, hb, ht => simp at ha hb ht; subst ha; subst hb; subst ht; exact e3
      | j + 3, ha, hb, ht => simp at hb
    · intro a ha
      simp at ha
      subst ha
      exact e4
    · intro j a ha
      match j, ha with
      | 0, ha => simp at ha; omega
      | 1, ha => simp at ha; omega
      | 2, ha => simp at ha; omega
      | 3, ha => simp at ha; omega
      | j + 4, ha => simp at ha
    · intro j b hb
      match j, hb with
      | 0, hb => simp at hb; omega
      | 1, hb => simp at hb; omega
      | 2, hb => simp at hb; omega
      | j + 3, hb => simp at hb
    · intro j t ht
      match j, ht with
      | 0, ht => simp at ht; omega
      | 1, ht => simp at ht; omega
      | j + 2, ht => simp at ht
theorem planParent_i {w0 : World} {lv : Value} {b hd J s t : Int} {P C n1 N k : Nat} {H ki : Int} {v : Value} (hki : ki = (k : Int)) (hL : RI w0 (lvs n1 N) lv) (hP : P ≤ 100000) (hC : C ≤ 100000) (hn : n1 ≤ 100000) (hN : (N = n1 ∧ n1 = 1) ∨ (N = n1 + 1 ∧ 2 ≤ n1)) (hk : k < P + C + N) (hH : H = (P : Int) + C + N) (hv : parV (parP P C n1 N k) = v) :
    Calls Tryd.prog 41 #[.agg (plL P b C lv N H hd J s t).toArray, .int .i64 ki] w0 fun e w' => e = .returned v ∧ Sat w0 [] w' := by
  subst hki; subst hv
  exact planParent_any hL hP hC hn hN hk hH
def nInts (L : List Nat) : List Int := L.map fun n : Nat => (n : Int)
section
variable {w0 w : World} {lv : Value} {b hd J s t : Int} {P C n1 N : Nat} {L T : List Nat}
set_option maxRecDepth 100000 in
set_option maxHeartbeats 2000000 in
theorem planPath_good {page : Nat} {pi H : Int} (hpi : pi = (page : Int)) (hL : RI w0 (lvs n1 N) lv) (hP : P ≤ 100000) (hC : C ≤ 100000) (hn : n1 ≤ 100000) (hN : (N = n1 ∧ n1 = 1) ∨ (N = n1 + 1 ∧ 2 ≤ n1)) (hp : page < P) (hH : H = (P : Int) + C + N) (hc : Chain P C n1 N page L T) :
    Calls Tryd.prog 40 #[.agg (plL P b C lv N H hd J s t).toArray, .int .i64 pi] w0 fun e w' => ∃ v, e = .returned (.tuple #[v, .int .i64 0]) ∧ Sat w0 [(blk v, sl 1 i64 (nInts L) 3 v)] w' := by
  have hS := Sat.refl w0
  subst hpi; subst hH
  obtain ⟨a, c, rfl, hll, -⟩ := hL.at
  obtain ⟨m, hm⟩ : ∃ m, (lvs n1 N).length = m := ⟨_, rfl⟩
  have hm2 : m ≤ 2 := by rw [← hm]; unfold lvs; split <;> simp
  have hLm : L.length = m + 1 := by rw [hc.len, hm]
  rw [hm] at hL hll ⊢
  have HL : Bx (RI w0 (lvs n1 N) (.slice a m c)) := ⟨hL⟩
  have HC : Bx _ := ⟨hc⟩
  have HN : Bx _ := ⟨hN⟩
  clear hc hm hL
  go_enter Tryd.func40, Tryd.ntmps40
  go_wp2_with (first | (refine load1 hS rfl rfl rfl rfl ?_; simp only [putW]) | (refine loadAll hS rfl rfl rfl ?_ ?_; rfl; simp only [putW]) | (refine loadPart hS rfl rfl rfl ?_ rfl ?_; rfl; simp only [putW]) | (refine store1 hS rfl rfl rfl rfl rfl ?_ ?_; (focus (simp; done)); clear hS; intro w hS; simp only [evW, putW] at hS; try simp only [putW]) | (refine storeAll hS rfl rfl rfl rfl ?_ ?_ ?_ ?_; rfl; (focus (simp [Value.oneCell']; done)); rfl; clear hS; intro w hS; try simp only [putW]) | (refine storeN hS rfl rfl rfl rfl ?_ ?_ ?_ ?_; rfl; (focus (simp [Value.oneCell']; done)); (focus (simp; done)); clear hS; intro w hS; simp at hS; try simp only [putW]) | (refine alloc hS rfl rfl ?_; clear hS; intro mb w hS; simp only [putW]) | (refine box1 hS rfl rfl rfl rfl ?_; clear hS; intro mb w hS; try simp only [evW, putW] at hS; simp only [putW]) | (refine boxN hS rfl rfl rfl ?_; clear hS; intro mb w hS; simp only [putW]))
  obtain ⟨mp, rfl⟩ : ∃ mp, mp = mb := ⟨_, rfl⟩
  go_loopw [6, 7, 23] (fun v at' i wr => ∃ (j x : Nat), j ≤ L.length ∧ i = .int .i64 j ∧ at' = .int .i64 x ∧ Bx ((page :: L)[j]? = some x) ∧ Sat w0 ((blk v, sl 1 i64 (nInts (L.take j)) 3 v) :: (mp, cells (plL P b C (.slice a m c) N ((P : Int) + C + N) hd J s t).toArray 25) :: []) wr) (fun _ _ i _ => L.length - (intOf i).toNat)
  case atStart => exact ⟨0, page, Nat.zero_le _, rfl, rfl, ⟨rfl⟩, hS.slNil 1 i64 3⟩
  case round =>
    clear hS
    obtain ⟨j, x, hj, rfl, rfl, hx, hS⟩ := hrel
    by_cases hlt : j < L.length
    · obtain ⟨y, hy⟩ : ∃ y, L[j]? = some y := ⟨_, List.getElem?_eq_getElem hlt⟩
      obtain ⟨z, hz⟩ : ∃ z, T[j]? = some z := ⟨_, List.getElem?_eq_getElem (by rw [HC.out.lenT]; exact hlt)⟩
      have hst : Bx (parV (parP P C n1 N x) = .tuple #[.agg #[.int .i64 (y : Int), .int .i64 (z : Int)], .int .i64 0]) := ⟨by rw [HC.out.step j x y z hx.out hy hz]; rfl⟩
      have hxr := HC.out.room j x hx.out
      have hnx : Bx ((page :: L)[j + 1]? = some y) := ⟨by simpa using hy⟩
      have htk : Bx (nInts (L.take (j + 1)) = nInts (L.take j) ++ [(y : Int)]) := ⟨by unfold nInts; rw [List.take_add_one, hy, List.map_append]; rfl⟩
      clear hy hz
      go_wp2_with (first | (guard_target =~ Calls _ 41 _ _ _; refine Stopped.out ?_) | (refine load1 hS rfl rfl rfl rfl ?_; simp only [putW]) | (refine loadAll hS rfl rfl rfl ?_ ?_; rfl; simp only [putW]) | (refine loadPart hS rfl rfl rfl ?_ rfl ?_; rfl; simp only [putW]) | (refine store1 hS rfl rfl rfl rfl rfl ?_ ?_; (focus (simp; done)); clear hS; intro w hS; simp only [evW, putW] at hS; try simp only [putW]) | (refine storeAll hS rfl rfl rfl rfl ?_ ?_ ?_ ?_; rfl; (focus (simp [Value.oneCell']; done)); rfl; clear hS; intro w hS; try simp only [putW]) | (refine storeN hS rfl rfl rfl rfl ?_ ?_ ?_ ?_; rfl; (focus (simp [Value.oneCell']; done)); (focus (simp; done)); clear hS; intro w hS; simp at hS; try simp only [putW]) | (refine alloc hS rfl rfl ?_; clear hS; intro mb w hS; simp only [putW]) | (refine box1 hS rfl rfl rfl rfl ?_; clear hS; intro mb w hS; try simp only [evW, putW] at hS; simp only [putW]) | (refine boxN hS rfl rfl rfl ?_; clear hS; intro mb w hS; simp only [putW]))
      refine ⟨?_⟩
      (refine Calls.mono (planParent_i (k := x) rfl (HL.out.mono hS.base) hP hC hn HN.out hxr rfl hst.out) ?_; rintro _ w2 ⟨rfl, h2⟩; replace hS := hS.frame h2; clear h2; (try simp only [List.cons_append, List.nil_append] at hS); simp only [putW])
      go_wp2_with (first | (refine buildSlice1 (c := #[.int .i64 (y : Int)]) hS rfl rfl rfl ?_ ?_ ?_ ?_; rfl; rfl; rfl; clear hS; intro mb w hS; simp only [putW]) | (guard_target =~ wpList _ _ _ (Oper.mk (some 38) _ _ _ _ _ :: _) _ _; refine Stopped.out ?_) | (refine load1 hS rfl rfl rfl rfl ?_; simp only [putW]) | (refine loadAll hS rfl rfl rfl ?_ ?_; rfl; simp only [putW]) | (refine loadPart hS rfl rfl rfl ?_ rfl ?_; rfl; simp only [putW]) | (refine store1 hS rfl rfl rfl rfl rfl ?_ ?_; (focus (simp; done)); clear hS; intro w hS; simp only [evW, putW] at hS; try simp only [putW]) | (refine storeAll hS rfl rfl rfl rfl ?_ ?_ ?_ ?_; rfl; (focus (simp [Value.oneCell']; done)); rfl; clear hS; intro w hS; try simp only [putW]) | (refine storeN hS rfl rfl rfl rfl ?_ ?_ ?_ ?_; rfl; (focus (simp [Value.oneCell']; done)); (focus (simp; done)); clear hS; intro w hS; simp at hS; try simp only [putW]) | (refine alloc hS rfl rfl ?_; clear hS; intro mb w hS; simp only [putW]) | (refine box1 hS rfl rfl rfl rfl ?_; clear hS; intro mb w hS; try simp only [evW, putW] at hS; simp only [putW]) | (refine boxN hS rfl rfl rfl ?_; clear hS; intro mb w hS; simp only [putW]))
      refine ⟨?_⟩
      refine append1 (f := i64) (n := 1) hS rfl rfl u6 rfl rfl (y : Int) rfl ?_ rfl ?_ ?_ ?_
      · intro u hu; rw [List.mem_singleton.1 hu]; rfl
      · unfold nInts; simp [maxLen]; omega
      · unfold nInts; simp; omega
      clear hS
      intro v' w hS
      simp only [putW]
      rw [← htk.out] at hS
      go_wp2_with (first | (refine load1 hS rfl rfl rfl rfl ?_; simp only [putW]) | (refine loadAll hS rfl rfl rfl ?_ ?_; rfl; simp only [putW]) | (refine loadPart hS rfl rfl rfl ?_ rfl ?_; rfl; simp only [putW]) | (refine store1 hS rfl rfl rfl rfl rfl ?_ ?_; (focus (simp; done)); clear hS; intro w hS; simp only [evW, putW] at hS; try simp only [putW]) | (refine storeAll hS rfl rfl rfl rfl ?_ ?_ ?_ ?_; rfl; (focus (simp [Value.oneCell']; done)); rfl; clear hS; intro w hS; try simp only [putW]) | (refine storeN hS rfl rfl rfl rfl ?_ ?_ ?_ ?_; rfl; (focus (simp [Value.oneCell']; done)); (focus (simp; done)); clear hS; intro w hS; simp at hS; try simp only [putW]) | (refine alloc hS rfl rfl ?_; clear hS; intro mb w hS; simp only [putW]) | (refine box1 hS rfl rfl rfl rfl ?_; clear hS; intro mb w hS; try simp only [evW, putW] at hS; simp only [putW]) | (refine boxN hS rfl rfl rfl ?_; clear hS; intro mb w hS; simp only [putW]))
      go_roundw
      case rel => exact ⟨j + 1, y, by omega, by go_num, rfl, hnx, hS.conv⟩
      case measure => simp [intOf]; omega
    · have hje : j = L.length := by omega
      subst hje
      go_wp2_with (first | (refine load1 hS rfl rfl rfl rfl ?_; simp only [putW]) | (refine loadAll hS rfl rfl rfl ?_ ?_; rfl; simp only [putW]) | (refine loadPart hS rfl rfl rfl ?_ rfl ?_; rfl; simp only [putW]) | (refine store1 hS rfl rfl rfl rfl rfl ?_ ?_; (focus (simp; done)); clear hS; intro w hS; simp only [evW, putW] at hS; try simp only [putW]) | (refine storeAll hS rfl rfl rfl rfl ?_ ?_ ?_ ?_; rfl; (focus (simp [Value.oneCell']; done)); rfl; clear hS; intro w hS; try simp only [putW]) | (refine storeN hS rfl rfl rfl rfl ?_ ?_ ?_ ?_; rfl; (focus (simp [Value.oneCell']; done)); (focus (simp; done)); clear hS; intro w hS; simp at hS; try simp only [putW]) | (refine alloc hS rfl rfl ?_; clear hS; intro mb w hS; simp only [putW]) | (refine box1 hS rfl rfl rfl rfl ?_; clear hS; intro mb w hS; try simp only [evW, putW] at hS; simp only [putW]) | (refine boxN hS rfl rfl rfl ?_; clear hS; intro mb w hS; simp only [putW]))
      go_ret2
      exact ⟨u6, rfl, by rw [List.take_length] at hS; exact hS.conv⟩
set_option maxRecDepth 100000 in
set_option maxHeartbeats 2000000 in
theorem planPath_bad {pi : Int} {H C N : Int} (hp : pi < 0 ∨ (P : Int) ≤ pi) (hv : lv.oneCell' = true) :
    Calls Tryd.prog 40 #[.agg (plL P b C lv N H hd J s t).toArray, .int .i64 pi] w0 fun e w' => e = .returned (.tuple #[.slice none 0 0, .int .i64 1]) ∧ Sat w0 [] w' := by
  have hS := Sat.refl w0
  by_cases h0 : pi < 0
  · go_enter Tryd.func40, Tryd.ntmps40
    go_wp2_with (first | (refine load1 hS rfl rfl rfl rfl ?_; simp only [putW]) | (refine loadAll hS rfl rfl rfl ?_ ?_; rfl; simp only [putW]) | (refine loadPart hS rfl rfl rfl ?_ rfl ?_; rfl; simp only [putW]) | (refine store1 hS rfl rfl rfl rfl rfl ?_ ?_; (focus (simp; done)); clear hS; intro w hS; simp only [evW, putW] at hS; try simp only [putW]) | (refine storeAll hS rfl rfl rfl rfl ?_ ?_ ?_ ?_; rfl; (focus (simp [Value.oneCell']; done)); rfl; clear hS; intro w hS; try simp only [putW]) | (refine storeN hS rfl rfl rfl rfl ?_ ?_ ?_ ?_; rfl; (focus (simp [Value.oneCell']; done)); (focus (simp; done)); clear hS; intro w hS; simp at hS; try simp only [putW]) | (refine alloc hS rfl rfl ?_; clear hS; intro mb w hS; simp only [putW]) | (refine box1 hS rfl rfl rfl rfl ?_; clear hS; intro mb w hS; try simp only [evW, putW] at hS; simp only [putW]) | (refine boxN hS rfl rfl rfl ?_; clear hS; intro mb w hS; simp only [putW]))
    go_ret2
    exact ⟨rfl, hS.nothing⟩
  · have h1 : (P : Int) ≤ pi := by omega
    go_enter Tryd.func40, Tryd.ntmps40
    go_wp2_with (first | (refine load1 hS rfl rfl rfl rfl ?_; simp only [putW]) | (refine loadAll hS rfl rfl rfl ?_ ?_; rfl; simp only [putW]) | (refine loadPart hS rfl rfl rfl ?_ rfl ?_; rfl; simp only [putW]) | (refine store1 hS rfl rfl rfl rfl rfl ?_ ?_; (focus (simp; done)); clear hS; intro w hS; simp only [evW, putW] at hS; try simp only [putW]) | (refine storeAll hS rfl rfl rfl rfl ?_ ?_ ?_ ?_; rfl; (focus (simp [Value.oneCell']; done)); rfl; clear hS; intro w hS; try simp only [putW]) | (refine storeN hS rfl rfl rfl rfl ?_ ?_ ?_ ?_; rfl; (focus (simp [Value.oneCell']; done)); (focus (simp; done)); clear hS; intro w hS; simp at hS; try simp only [putW]) | (refine alloc hS rfl rfl ?_; clear hS; intro mb w hS; simp only [putW]) | (refine box1 hS rfl rfl rfl rfl ?_; clear hS; intro mb w hS; try simp only [evW, putW] at hS; simp only [putW]) | (refine boxN hS rfl rfl rfl ?_; clear hS; intro mb w hS; simp only [putW]))
    go_ret2
    exact ⟨rfl, hS.nothing⟩
set_option maxRecDepth 100000 in
set_option maxHeartbeats 2000000 in
theorem refPath_bad {pi : Int} {H C N : Int} (hp : pi < 0 ∨ (P : Int) ≤ pi) (hv : lv.oneCell' = true) :
    Calls Tryd.prog 42 #[.agg (plL P b C lv N H hd J s t).toArray, .int .i64 pi] w0 fun e w' => e = .returned (.tuple #[.slice none 0 0, .int .i64 1]) ∧ Sat w0 [] w' := by
  have hS := Sat.refl w0
  by_cases h0 : pi < 0
  · go_enter Tryd.func42, Tryd.ntmps42
    go_wp2_with (first | (refine load1 hS rfl rfl rfl rfl ?_; simp only [putW]) | (refine loadAll hS rfl rfl rfl ?_ ?_; rfl; simp only [putW]) | (refine loadPart hS rfl rfl rfl ?_ rfl ?_; rfl; simp only [putW]) | (refine store1 hS rfl rfl rfl rfl rfl ?_ ?_; (focus (simp; done)); clear hS; intro w hS; simp only [evW, putW] at hS; try simp only [putW]) | (refine storeAll hS rfl rfl rfl rfl ?_ ?_ ?_ ?_; rfl; (focus (simp [Value.oneCell']; done)); rfl; clear hS; intro w hS; try simp only [putW]) | (refine storeN hS rfl rfl rfl rfl ?_ ?_ ?_ ?_; rfl; (focus (simp [Value.oneCell']; done)); (focus (simp; done)); clear hS; intro w hS; simp at hS; try simp only [putW]) | (refine alloc hS rfl rfl ?_; clear hS; intro mb w hS; simp only [putW]) | (refine box1 hS rfl rfl rfl rfl ?_; clear hS; intro mb w hS; try simp only [evW, putW] at hS; simp only [putW]) | (refine boxN hS rfl rfl rfl ?_; clear hS; intro mb w hS; simp only [putW]))
    go_ret2
    exact ⟨rfl, hS.nothing⟩
  · have h1 : (P : Int) ≤ pi := by omega
    go_enter Tryd.func42, Tryd.ntmps42
    go_wp2_with (first | (refine load1 hS rfl rfl rfl rfl ?_; simp only [putW]) | (refine loadAll hS rfl rfl rfl ?_ ?_; rfl; simp only [putW]) | (refine loadPart hS rfl rfl rfl ?_ rfl ?_; rfl; simp only [putW]) | (refine store1 hS rfl rfl rfl rfl rfl ?_ ?_; (focus (simp; done)); clear hS; intro w hS; simp only [evW, putW] at hS; try simp only [putW]) | (refine storeAll hS rfl rfl rfl rfl ?_ ?_ ?_ ?_; rfl; (focus (simp [Value.oneCell']; done)); rfl; clear hS; intro w hS; try simp only [putW]) | (refine storeN hS rfl rfl rfl rfl ?_ ?_ ?_ ?_; rfl; (focus (simp [Value.oneCell']; done)); (focus (simp; done)); clear hS; intro w hS; simp at hS; try simp only [putW]) | (refine alloc hS rfl rfl ?_; clear hS; intro mb w hS; simp only [putW]) | (refine box1 hS rfl rfl rfl rfl ?_; clear hS; intro mb w hS; try simp only [evW, putW] at hS; simp only [putW]) | (refine boxN hS rfl rfl rfl ?_; clear hS; intro mb w hS; simp only [putW]))
    go_ret2
    exact ⟨rfl, hS.nothing⟩
set_option maxRecDepth 100000 in
set_option maxHeartbeats 2000000 in
theorem refPath_good {page : Nat} {pi H : Int} (hpi : pi = (page : Int)) (hL : RI w0 (lvs n1 N) lv) (hP : P ≤ 100000) (hC : C ≤ 100000) (hn : n1 ≤ 100000) (hN : (N = n1 ∧ n1 = 1) ∨ (N = n1 + 1 ∧ 2 ≤ n1)) (hp : page < P) (hc : Chain P C n1 N page L T) :
    Calls Tryd.prog 42 #[.agg (plL P b C lv N H hd J s t).toArray, .int .i64 pi] w0 fun e w' => ∃ v, e = .returned (.tuple #[v, .int .i64 0]) ∧ Sat w0 [(blk v, sl 1 i64 (nInts L) 3 v)] w' := by
  have hS := Sat.refl w0
  subst hpi
  obtain ⟨a, c, rfl, hll, -⟩ := hL.at
  obtain ⟨m, hm⟩ : ∃ m, (lvs n1 N).length = m := ⟨_, rfl⟩
  have hm2 : m ≤ 2 := by rw [← hm]; unfold lvs; split <;> simp
  have hLm : L.length = m + 1 := by rw [hc.len, hm]
  rw [hm] at hL hll ⊢
  have HL : Bx (RI w0 (lvs n1 N) (.slice a m c)) := ⟨hL⟩
  have HC : Bx _ := ⟨hc⟩
  have HN : Bx _ := ⟨hN⟩
  clear hm hL
  obtain ⟨y0, hy0⟩ : ∃ y, L[0]? = some y := ⟨_, List.getElem?_eq_getElem (by omega)⟩
  obtain ⟨z0, hz0⟩ : ∃ z, T[0]? = some z := ⟨_, List.getElem?_eq_getElem (by rw [hc.lenT]; omega)⟩
  have hst0 : Bx (parV (parP P C n1 N page) = .tuple #[.agg #[.int .i64 (y0 : Int), .int .i64 (z0 : Int)], .int .i64 0]) := ⟨by rw [hc.step 0 page y0 z0 rfl hy0 hz0]; rfl⟩
  have Hy0 : Bx _ := ⟨hy0⟩
  clear hc hy0 hz0
  go_enter Tryd.func42, Tryd.ntmps42
  go_wp2_with (first | (guard_target =~ Calls _ 32 _ _ _; refine Stopped.out ?_) | (refine load1 hS rfl rfl rfl rfl ?_; simp only [putW]) | (refine loadAll hS rfl rfl rfl ?_ ?_; rfl; simp only [putW]) | (refine loadPart hS rfl rfl rfl ?_ rfl ?_; rfl; simp only [putW]) | (refine store1 hS rfl rfl rfl rfl rfl ?_ ?_; (focus (simp; done)); clear hS; intro w hS; simp only [evW, putW] at hS; try simp only [putW]) | (refine storeAll hS rfl rfl rfl rfl ?_ ?_ ?_ ?_; rfl; (focus (simp [Value.oneCell']; done)); rfl; clear hS; intro w hS; try simp only [putW]) | (refine storeN hS rfl rfl rfl rfl ?_ ?_ ?_ ?_; rfl; (focus (simp [Value.oneCell']; done)); (focus (simp; done)); clear hS; intro w hS; simp at hS; try simp only [putW]) | (refine alloc hS rfl rfl ?_; clear hS; intro mb w hS; simp only [putW]) | (refine box1 hS rfl rfl rfl rfl ?_; clear hS; intro mb w hS; try simp only [evW, putW] at hS; simp only [putW]) | (refine boxN hS rfl rfl rfl ?_; clear hS; intro mb w hS; simp only [putW]))
  refine ⟨?_⟩
  obtain ⟨mp, rfl⟩ : ∃ mp, mp = mb := ⟨_, rfl⟩
  have hpk : page < P + C + N := by omega
  (refine Calls.mono (refParent_i (k := page) rfl (HL.out.mono hS.base) hP hC hn HN.out hpk hst0.out) ?_; rintro _ w2 ⟨rfl, h2⟩; replace hS := hS.frame h2; clear h2; (try simp only [List.cons_append, List.nil_append] at hS); simp only [putW])
  go_wp2_with (first | (refine alloc hS rfl rfl ?_; clear hS; intro m7 w hS; simp only [putW]) | (refine load1 hS rfl rfl rfl rfl ?_; simp only [putW]) | (refine loadAll hS rfl rfl rfl ?_ ?_; rfl; simp only [putW]) | (refine loadPart hS rfl rfl rfl ?_ rfl ?_; rfl; simp only [putW]) | (refine store1 hS rfl rfl rfl rfl rfl ?_ ?_; (focus (simp; done)); clear hS; intro w hS; simp only [evW, putW] at hS; try simp only [putW]) | (refine storeAll hS rfl rfl rfl rfl ?_ ?_ ?_ ?_; rfl; (focus (simp [Value.oneCell']; done)); rfl; clear hS; intro w hS; try simp only [putW]) | (refine storeN hS rfl rfl rfl rfl ?_ ?_ ?_ ?_; rfl; (focus (simp [Value.oneCell']; done)); (focus (simp; done)); clear hS; intro w hS; simp at hS; try simp only [putW]) | (refine alloc hS rfl rfl ?_; clear hS; intro mb w hS; simp only [putW]) | (refine box1 hS rfl rfl rfl rfl ?_; clear hS; intro mb w hS; try simp only [evW, putW] at hS; simp only [putW]) | (refine boxN hS rfl rfl rfl ?_; clear hS; intro mb w hS; simp only [putW]))
  go_loopw [6, 8] (fun v e wr => ∃ (j : Nat) (p : List Value), j ≤ L.length ∧ ((j < L.length ∧ e = .int .i64 0 ∧ ∃ y z : Nat, L[j]? = some y ∧ p = [.int .i64 (y : Int), .int .i64 (z : Int)]) ∨ (j = L.length ∧ e = .int .i64 5 ∧ p = [.int .i64 0, .int .i64 0])) ∧ v = v ∧ Sat w0 ((blk v, sl 1 i64 (nInts (L.take j)) 3 v) :: (m7, cells p.toArray 70) :: (mp, cells (plL P b C (.slice a m c) N H hd J s t).toArray 25) :: []) wr) (fun v e _ => L.length + 1 - sLen v)
  case atStart => exact ⟨0, [.int .i64 (y0 : Int), .int .i64 (z0 : Int)], Nat.zero_le _, .inl ⟨by omega, rfl, y0, z0, Hy0.out, rfl⟩, rfl, hS.slNil 1 i64 3⟩
  case round =>
    clear hS
    obtain ⟨j, p, hj, hcs, -, hS⟩ := hrel
    rcases hcs with ⟨hlt, rfl, y, z, hy, rfl⟩ | ⟨rfl, rfl, rfl⟩
    · have hnx : Bx ((page :: L)[j + 1]? = some y) := ⟨by simpa using hy⟩
      have htk : Bx (nInts (L.take (j + 1)) = nInts (L.take j) ++ [(y : Int)]) := ⟨by unfold nInts; rw [List.take_add_one, hy, List.map_append]; rfl⟩
      have hyr := HC.out.room (j + 1) y hnx.out
      have hln : Bx (sLen u6 = j) := ⟨by have h := hS.slLen (v := u6) (L := nInts (L.take j)); unfold nInts at h; simp at h; rw [h]; omega⟩
      obtain ⟨V, hV⟩ : ∃ V, parV (parP P C n1 N y) = V := ⟨_, rfl⟩
      have hVc : Bx (∃ (e : Int) (p : List Value), V = .tuple #[.agg p.toArray, .int .i64 e] ∧ p.length = 2 ∧ (∀ u ∈ p, u.oneCell' = true) ∧ ((j + 1 < L.length ∧ e = 0 ∧ ∃ y z : Nat, L[j + 1]? = some y ∧ p = [.int .i64 (y : Int), .int .i64 (z : Int)]) ∨ (j + 1 = L.length ∧ e = 5 ∧ p = [.int .i64 0, .int .i64 0]))) := ⟨by
        rw [← hV]
        by_cases h2 : j + 1 < L.length
        · obtain ⟨y2, hy2⟩ : ∃ y, L[j + 1]? = some y := ⟨_, List.getElem?_eq_getElem h2⟩
          obtain ⟨z2, hz2⟩ : ∃ z, T[j + 1]? = some z := ⟨_, List.getElem?_eq_getElem (by rw [HC.out.lenT]; exact h2)⟩
          rw [HC.out.step (j + 1) y y2 z2 hnx.out hy2 hz2]
          exact ⟨0, [.int .i64 (y2 : Int), .int .i64 (z2 : Int)], rfl, rfl, by simp [Value.oneCell'], .inl ⟨h2, rfl, y2, z2, hy2, rfl⟩⟩
        · have h3 : j + 1 = L.length := by omega
          rw [HC.out.last y (by rw [← h3]; exact hnx.out)]
          exact ⟨5, [.int .i64 0, .int .i64 0], rfl, rfl, by simp [Value.oneCell'], .inr ⟨h3, rfl, rfl⟩⟩⟩
      have HV : Bx _ := ⟨hV⟩
      clear hV hy
      go_wp2_with (first | (refine buildSlice1 (c := #[.int .i64 (y : Int)]) hS rfl rfl rfl ?_ ?_ ?_ ?_; rfl; rfl; rfl; clear hS; intro mb w hS; simp only [putW]) | (guard_target =~ wpList _ _ _ (Oper.mk (some 29) _ _ _ _ _ :: _) _ _; refine Stopped.out ?_) | (refine load1 hS rfl rfl rfl rfl ?_; simp only [putW]) | (refine loadAll hS rfl rfl rfl ?_ ?_; rfl; simp only [putW]) | (refine loadPart hS rfl rfl rfl ?_ rfl ?_; rfl; simp only [putW]) | (refine store1 hS rfl rfl rfl rfl rfl ?_ ?_; (focus (simp; done)); clear hS; intro w hS; simp only [evW, putW] at hS; try simp only [putW]) | (refine storeAll hS rfl rfl rfl rfl ?_ ?_ ?_ ?_; rfl; (focus (simp [Value.oneCell']; done)); rfl; clear hS; intro w hS; try simp only [putW]) | (refine storeN hS rfl rfl rfl rfl ?_ ?_ ?_ ?_; rfl; (focus (simp [Value.oneCell']; done)); (focus (simp; done)); clear hS; intro w hS; simp at hS; try simp only [putW]) | (refine alloc hS rfl rfl ?_; clear hS; intro mb w hS; simp only [putW]) | (refine box1 hS rfl rfl rfl rfl ?_; clear hS; intro mb w hS; try simp only [evW, putW] at hS; simp only [putW]) | (refine boxN hS rfl rfl rfl ?_; clear hS; intro mb w hS; simp only [putW]))
      refine ⟨?_⟩
      refine append1 (f := i64) (n := 1) hS rfl rfl u6 rfl rfl (y : Int) rfl ?_ rfl ?_ ?_ ?_
      · intro u hu; rw [List.mem_singleton.1 hu]; rfl
      · unfold nInts; simp [maxLen]; omega
      · unfold nInts; simp; omega
      clear hS
      intro v' w hS
      simp only [putW]
      rw [← htk.out] at hS
      go_wp2_with (first | (guard_target =~ Calls _ 32 _ _ _; refine Stopped.out ?_) | (refine load1 hS rfl rfl rfl rfl ?_; simp only [putW]) | (refine loadAll hS rfl rfl rfl ?_ ?_; rfl; simp only [putW]) | (refine loadPart hS rfl rfl rfl ?_ rfl ?_; rfl; simp only [putW]) | (refine store1 hS rfl rfl rfl rfl rfl ?_ ?_; (focus (simp; done)); clear hS; intro w hS; simp only [evW, putW] at hS; try simp only [putW]) | (refine storeAll hS rfl rfl rfl rfl ?_ ?_ ?_ ?_; rfl; (focus (simp [Value.oneCell']; done)); rfl; clear hS; intro w hS; try simp only [putW]) | (refine storeN hS rfl rfl rfl rfl ?_ ?_ ?_ ?_; rfl; (focus (simp [Value.oneCell']; done)); (focus (simp; done)); clear hS; intro w hS; simp at hS; try simp only [putW]) | (refine alloc hS rfl rfl ?_; clear hS; intro mb w hS; simp only [putW]) | (refine box1 hS rfl rfl rfl rfl ?_; clear hS; intro mb w hS; try simp only [evW, putW] at hS; simp only [putW]) | (refine boxN hS rfl rfl rfl ?_; clear hS; intro mb w hS; simp only [putW]))
      refine ⟨?_⟩
      (refine Calls.mono (refParent_i (k := y) rfl (HL.out.mono hS.base) hP hC hn HN.out hyr HV.out) ?_; rintro _ w2 ⟨rfl, h2⟩; replace hS := hS.frame h2; clear h2; (try simp only [List.cons_append, List.nil_append] at hS); simp only [putW])
      obtain ⟨e, p, rfl, hpl, hpc, hcs⟩ := hVc.out
      have Hcs : Bx _ := ⟨hcs⟩
      clear hcs
      go_wp2_with (first | (refine storeAll (cs := p.toArray) hS rfl rfl rfl rfl ?_ ?_ ?_ ?_; (focus exact hpl); (focus exact hpc); (focus rfl); clear hS; intro w hS; try simp only [putW]) | (refine load1 hS rfl rfl rfl rfl ?_; simp only [putW]) | (refine loadAll hS rfl rfl rfl ?_ ?_; rfl; simp only [putW]) | (refine loadPart hS rfl rfl rfl ?_ rfl ?_; rfl; simp only [putW]) | (refine store1 hS rfl rfl rfl rfl rfl ?_ ?_; (focus (simp; done)); clear hS; intro w hS; simp only [evW, putW] at hS; try simp only [putW]) | (refine storeAll hS rfl rfl rfl rfl ?_ ?_ ?_ ?_; rfl; (focus (simp [Value.oneCell']; done)); rfl; clear hS; intro w hS; try simp only [putW]) | (refine storeN hS rfl rfl rfl rfl ?_ ?_ ?_ ?_; rfl; (focus (simp [Value.oneCell']; done)); (focus (simp; done)); clear hS; intro w hS; simp at hS; try simp only [putW]) | (refine alloc hS rfl rfl ?_; clear hS; intro mb w hS; simp only [putW]) | (refine box1 hS rfl rfl rfl rfl ?_; clear hS; intro mb w hS; try simp only [evW, putW] at hS; simp only [putW]) | (refine boxN hS rfl rfl rfl ?_; clear hS; intro mb w hS; simp only [putW]))
      have hln2 : Bx (sLen v' = j + 1) := ⟨by have h := hS.slLen (v := v') (L := nInts (L.take (j + 1))); unfold nInts at h; simp at h; rw [h]; omega⟩
      go_roundw
      case rel =>
        refine ⟨j + 1, p, by omega, ?_, trivial, hS.conv⟩
        rcases Hcs.out with ⟨h2, rfl, y2, z2, hy2, hp⟩ | ⟨h2, rfl, hp⟩
        · exact .inl ⟨h2, rfl, y2, z2, hy2, hp⟩
        · exact .inr ⟨h2, rfl, hp⟩
      case measure => rw [hln.out, hln2.out]; omega
    · go_wp2_with (first | (refine load1 hS rfl rfl rfl rfl ?_; simp only [putW]) | (refine loadAll hS rfl rfl rfl ?_ ?_; rfl; simp only [putW]) | (refine loadPart hS rfl rfl rfl ?_ rfl ?_; rfl; simp only [putW]) | (refine store1 hS rfl rfl rfl rfl rfl ?_ ?_; (focus (simp; done)); clear hS; intro w hS; simp only [evW, putW] at hS; try simp only [putW]) | (refine storeAll hS rfl rfl rfl rfl ?_ ?_ ?_ ?_; rfl; (focus (simp [Value.oneCell']; done)); rfl; clear hS; intro w hS; try simp only [putW]) | (refine storeN hS rfl rfl rfl rfl ?_ ?_ ?_ ?_; rfl; (focus (simp [Value.oneCell']; done)); (focus (simp; done)); clear hS; intro w hS; simp at hS; try simp only [putW]) | (refine alloc hS rfl rfl ?_; clear hS; intro mb w hS; simp only [putW]) | (refine box1 hS rfl rfl rfl rfl ?_; clear hS; intro mb w hS; try simp only [evW, putW] at hS; simp only [putW]) | (refine boxN hS rfl rfl rfl ?_; clear hS; intro mb w hS; simp only [putW]))
      go_ret2
      exact ⟨u6, rfl, by rw [List.take_length] at hS; exact hS.conv⟩
end
end Go.Proofs.YteiglillnogoaaaDoor
