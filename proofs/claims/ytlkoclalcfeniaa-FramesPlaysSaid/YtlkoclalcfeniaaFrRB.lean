/-
  thimbleref12: Of, Coldest.
  thimbleref12: Coldest, Drop, Touch.
  thimbleref12: Drop, Touch.
-/
import Derived.Test.YtlkoclalcfeniaaFrRA
import Derived.Test.YtlkoclalcfeniaaFrCold
import Derived.Test.YtlkoclalcfeniaaSlGen
set_option linter.unusedSimpArgs false
set_option linter.unusedVariables false
namespace Go.Proofs.Ytlkoclalcfeniaa
open Go.RowKit Go.Proofs.Ytlkoclalcfeniaa.Sl Go.Proofs.Ytlkoclalcfeniaa.Jp

/-- A spot of the document's: a key, its heat, when. -/
abbrev Sp3 := Int × Nat × Int
def sp3F (s : Sp3) : List Value := [.int .i64 s.1, .float .f64 s.2.1, .int .i64 s.2.2]
def htF (a : Int × Int × Value) : List Value := [.int .i64 a.1, .int .i64 a.2.1, a.2.2]
/-- The document's heats, where they can be read. -/
structure HAt (w : World) (now : Nat) (SL : List Sp3) (x : Nat) (vq : Value) : Prop where
  t : BAt w 3 htF (fun _ => True) [(16, (now : Int), vq)] x 4
  l : BSl w 3 sp3F (fun _ => True) SL vq
def SpN (now : Nat) (SL : List Sp3) : Prop := ∀ s ∈ SL, PlusF s.2.1 ∧ 0 ≤ s.2.2 ∧ s.2.2 ≤ (now : Int)
/-- A key's heat by the document. -/
def ofX (now : Nat) (SL : List Sp3) (key : Int) : Nat := match SL.find? (fun s => s.1 == key) with
  | none => 0
  | some s => rightF (coolF now (s.2.1, s.2.2))
theorem ofX_cons (now : Nat) (s : Sp3) (SL : List Sp3) (key : Int) : ofX now (s :: SL) key = if s.1 = key then rightF (coolF now (s.2.1, s.2.2)) else ofX now SL key := by
  unfold ofX
  by_cases h : s.1 = key
  · rw [List.find?_cons_of_pos (by simp [h]), if_pos h]
  · rw [List.find?_cons_of_neg (by simpa using h), if_neg h]
theorem ofX_plus {now : Nat} {SL : List Sp3} (h : SpN now SL) (key : Int) : PlusF (ofX now SL key) := by
  unfold ofX
  split
  · exact ⟨numF_zero, fun _ => rfl⟩
  · rename_i s hf
    exact plus_right (numF_fade _ (h s (List.mem_of_find?_eq_some hf)).1.1).1
section
variable {w0 : World} {now : Nat} {SL : List Sp3} {x : Nat} {vq : Value} {key : Int}
set_option maxRecDepth 100000 in
set_option maxHeartbeats 4000000 in
theorem refOf0 (hH : HAt w0 now SL x vq) (hsp : SpN now SL) (hn : now ≤ 30000) : Calls Try.prog 62 #[.pointer (some ⟨x, 4, none⟩), .int .i64 key] w0 fun e w' => e = .returned (.float .f64 (ofX now SL key)) ∧ Sat w0 [] w' := by
  obtain ⟨hT, hL⟩ := hH
  obtain ⟨ph, ch, rfl, hl, hat⟩ := hL.at
  obtain ⟨n, hnn⟩ : ∃ n, SL.length = n := ⟨_, rfl⟩
  obtain ⟨H, hHh⟩ : ∃ H, ofX now SL key = H := ⟨_, rfl⟩
  rw [hnn] at hl hT
  rw [hHh]
  have HN : Bx _ := ⟨hnn⟩
  have HH : Bx _ := ⟨hHh⟩
  have HAT : Bx _ := ⟨hat⟩
  have HSP : Bx _ := ⟨hsp⟩
  clear hnn hHh hat hL hsp
  have hS := Sat.refl w0
  go_enter Try.func62, Try.ntmps62
  go_wp2_with (first | (refine load1 hS rfl rfl rfl rfl ?_; simp only [putW]) | (refine loadAll hS rfl rfl rfl ?_ ?_; rfl; simp only [putW]) | (refine loadPart hS rfl rfl rfl ?_ rfl ?_; rfl; simp only [putW]) | (refine store1 hS rfl rfl rfl rfl rfl ?_ ?_; (focus (simp; done)); clear hS; intro w hS; simp only [evW, putW] at hS; try simp only [putW]) | (refine storeAll hS rfl rfl rfl rfl ?_ ?_ ?_ ?_; rfl; (focus (simp [Value.oneCell']; done)); rfl; clear hS; intro w hS; try simp only [putW]) | (refine storeN hS rfl rfl rfl rfl ?_ ?_ ?_ ?_; rfl; (focus (simp [Value.oneCell']; done)); (focus (simp; done)); clear hS; intro w hS; simp at hS; try simp only [putW]) | (refine alloc hS rfl rfl ?_; clear hS; intro mb w hS; simp only [putW]) | (refine box1 hS rfl rfl rfl rfl ?_; clear hS; intro mb w hS; try simp only [evW, putW] at hS; simp only [putW]) | (refine boxN hS rfl rfl rfl ?_; clear hS; intro mb w hS; simp only [putW]))
  go_loopg [5] n (fun g i wr => ∃ k : Nat, k + g = n ∧ i = .int .i64 k ∧ Bx (ofX now (SL.drop k) key = H) ∧ Sat w0 [] wr)
  case atStart => exact ⟨0, by omega, rfl, HH, hS⟩
  case round =>
    clear hS HH
    obtain ⟨k, hkn, rfl, HK, hS⟩ := hrel
    cases gk with
    | zero =>
      have e : k = n := by omega
      subst e
      have e0 : H = 0 := by
        rw [← HK.out, ← HN.out, List.drop_length]
        rfl
      subst e0
      clear hkn
      go_wp2_with (first | (refine loadB (f := htF) hS rfl rfl rfl hT 0 2 ?_ rfl rfl ?_; omega; simp only [putW]) | (refine load1 hS rfl rfl rfl rfl ?_; simp only [putW]) | (refine loadAll hS rfl rfl rfl ?_ ?_; rfl; simp only [putW]) | (refine loadPart hS rfl rfl rfl ?_ rfl ?_; rfl; simp only [putW]) | (refine store1 hS rfl rfl rfl rfl rfl ?_ ?_; (focus (simp; done)); clear hS; intro w hS; simp only [evW, putW] at hS; try simp only [putW]) | (refine storeAll hS rfl rfl rfl rfl ?_ ?_ ?_ ?_; rfl; (focus (simp [Value.oneCell']; done)); rfl; clear hS; intro w hS; try simp only [putW]) | (refine storeN hS rfl rfl rfl rfl ?_ ?_ ?_ ?_; rfl; (focus (simp [Value.oneCell']; done)); (focus (simp; done)); clear hS; intro w hS; simp at hS; try simp only [putW]) | (refine alloc hS rfl rfl ?_; clear hS; intro mb w hS; simp only [putW]) | (refine box1 hS rfl rfl rfl rfl ?_; clear hS; intro mb w hS; try simp only [evW, putW] at hS; simp only [putW]) | (refine boxN hS rfl rfl rfl ?_; clear hS; intro mb w hS; simp only [putW]))
      go_ret
      exact ⟨rfl, hS⟩
    | succ g =>
      have hlt : k < n := by omega
      have d1 : decide ((k : Int) < (n : Int)) = true := decide_eq_true (by omega)
      have d1n : decide (k < n) = true := decide_eq_true hlt
      obtain ⟨u, hu⟩ : ∃ y, SL[k]? = some y := ⟨_, List.getElem?_eq_getElem (by rw [HN.out]; exact hlt)⟩
      obtain ⟨b, off, hpa, hBA⟩ := HAT.out (fun h => by rw [h] at hu; cases hu)
      subst hpa
      have hspu := HSP.out u (List.mem_of_getElem? hu)
      obtain ⟨tk, hh, tt⟩ := u
      have HU : Bx _ := ⟨hu⟩
      have hK2 := HK.out
      rw [drop_at hu, ofX_cons] at hK2
      have HK2 : Bx _ := ⟨hK2⟩
      clear hu hK2 HK
      by_cases e1 : tk = key
      · subst e1
        obtain ⟨hp1, ht0, ht1⟩ := hspu
        have ht0' : (0 : Int) ≤ tt := ht0
        have ht1' : tt ≤ (now : Int) := ht1
        have hNh : NumF hh := hp1.1
        obtain ⟨d, hd⟩ : ∃ d : Nat, (now : Int) - tt = d := ⟨((now : Int) - tt).toNat, by omega⟩
        have hsub : IntKind.i64.wrap ((now : Int) - tt) = (d : Int) := by rw [IntKind.wrap_i64]; omega
        have hquo : (d : Int).tdiv 16 = ((d / 16 : Nat) : Int) := rfl
        obtain ⟨q, hq⟩ : ∃ q : Nat, d / 16 = q := ⟨_, rfl⟩
        rw [hq] at hquo
        have hq9 : q < 2200 := by omega
        have HE : Bx (H = rightF (fadeF q hh)) := ⟨by
          rw [← HK2.out, if_pos rfl]
          unfold coolF
          rw [show ((now : Int) - ((hh, tt) : Spot).2).toNat = d by show ((now : Int) - tt).toNat = d; omega, hq]⟩
        have HNh : Bx _ := ⟨hNh⟩
        have Hsub : Bx _ := ⟨hsub⟩
        have Hquo : Bx _ := ⟨hquo⟩
        have hqw : IntKind.i64.wrap (q : Int) = (q : Int) := by rw [IntKind.wrap_i64]; omega
        have Hqw : Bx _ := ⟨hqw⟩
        have hrs : ∀ w, (binOp .sub 3 (.int .i64 (now : Int)) (.int .i64 tt)).run Try.prog w = .ok (.int .i64 (d : Int)) w := fun w => by simp [binOp, Op.intArith, Hsub.out]
        have hrq : ∀ w, (binOp .quo 3 (.int .i64 (d : Int)) (.int .i64 16)).run Try.prog w = .ok (.int .i64 (q : Int)) w := fun w => by
          simp [binOp, Op.intDiv, Hquo.out, Hqw.out]
        clear hsub hquo hqw hd hq hp1 ht0 ht1 ht0' ht1' hNh
        go_upto_region 5 with (first | (refine loadB (f := htF) hS rfl rfl rfl hT 0 2 ?_ rfl rfl ?_; omega; simp only [putW]) | (refine loadB (f := sp3F) hS rfl rfl rfl hBA k 0 ?_ HU.out rfl ?_; omega; simp only [putW]) | (refine load1 hS rfl rfl rfl rfl ?_; simp only [putW]) | (refine loadAll hS rfl rfl rfl ?_ ?_; rfl; simp only [putW]) | (refine loadPart hS rfl rfl rfl ?_ rfl ?_; rfl; simp only [putW]) | (refine store1 hS rfl rfl rfl rfl rfl ?_ ?_; (focus (simp; done)); clear hS; intro w hS; simp only [evW, putW] at hS; try simp only [putW]) | (refine storeAll hS rfl rfl rfl rfl ?_ ?_ ?_ ?_; rfl; (focus (simp [Value.oneCell']; done)); rfl; clear hS; intro w hS; try simp only [putW]) | (refine storeN hS rfl rfl rfl rfl ?_ ?_ ?_ ?_; rfl; (focus (simp [Value.oneCell']; done)); (focus (simp; done)); clear hS; intro w hS; simp at hS; try simp only [putW]) | (refine alloc hS rfl rfl ?_; clear hS; intro mb w hS; simp only [putW]) | (refine box1 hS rfl rfl rfl rfl ?_; clear hS; intro mb w hS; try simp only [evW, putW] at hS; simp only [putW]) | (refine boxN hS rfl rfl rfl ?_; clear hS; intro mb w hS; simp only [putW]))
        (refine region_quiet hS (by kernel_rfl) (by kernel_rfl) (by kernel_rfl) ?_; clear hS; (repeat (first | (refine quiet_skip rfl ?_; simp only [putW]) | (apply quiet_go rfl Try.call69 rfl; (focus (intro w hS; refine Calls.mono (refFade_any HNh.out hq9) ?_; rintro _ w2 ⟨rfl, h2⟩; exact ⟨rfl, hS.frame h2⟩)); simp only [putW]) | (apply quiet_go rfl Try.call61 rfl; (focus (intro w hS; refine Calls.mono (refRight_any) ?_; rintro _ w2 ⟨rfl, h2⟩; exact ⟨rfl, hS.frame h2⟩)); simp only [putW]) | (refine quiet_y (yLoadB (fun w h => hT.mono h.base fun _ _ h => h) rfl rfl rfl 0 2 (by omega) rfl rfl) ?_; simp only [putW]) | (refine quiet_y (yLoadB (fun w h => hT.mono h.base fun _ _ h => h) rfl rfl rfl 0 1 (by omega) rfl rfl) ?_; simp only [putW]) | (refine quiet_y (yLoadB (fun w h => hT.mono h.base fun _ _ h => h) rfl rfl rfl 0 0 (by omega) rfl rfl) ?_; simp only [putW]) | (refine quiet_y (yLoadB (fun w h => hBA.mono h.base fun _ _ h => h) rfl rfl rfl k 1 (by omega) HU.out rfl) ?_; simp only [putW]) | (refine quiet_y (yLoadB (fun w h => hBA.mono h.base fun _ _ h => h) rfl rfl rfl k 2 (by omega) HU.out rfl) ?_; simp only [putW]) | (refine quiet_y (yBin rfl rfl rfl rfl hrs) ?_; simp only [putW]) | (refine quiet_y (yBin rfl rfl rfl rfl hrq) ?_; simp only [putW]) | (refine quiet_y (yMove rfl rfl rfl) ?_; simp only [evW, putW]) | (refine quiet_y (yNil rfl rfl rfl) ?_; simp only [putW]) | (refine quiet_y (yLoad1 (fun _ h => h) rfl rfl rfl rfl) ?_; simp only [putW]) | (apply quiet_y; (focus (apply yRun rfl; intro w; first | (go_simp; done) | (go_simp; rfl))); simp only [putW]))); refine quiet_nil ?_; intro w hS)
        go_wp2_with (first | (refine load1 hS rfl rfl rfl rfl ?_; simp only [putW]) | (refine loadAll hS rfl rfl rfl ?_ ?_; rfl; simp only [putW]) | (refine loadPart hS rfl rfl rfl ?_ rfl ?_; rfl; simp only [putW]) | (refine store1 hS rfl rfl rfl rfl rfl ?_ ?_; (focus (simp; done)); clear hS; intro w hS; simp only [evW, putW] at hS; try simp only [putW]) | (refine storeAll hS rfl rfl rfl rfl ?_ ?_ ?_ ?_; rfl; (focus (simp [Value.oneCell']; done)); rfl; clear hS; intro w hS; try simp only [putW]) | (refine storeN hS rfl rfl rfl rfl ?_ ?_ ?_ ?_; rfl; (focus (simp [Value.oneCell']; done)); (focus (simp; done)); clear hS; intro w hS; simp at hS; try simp only [putW]) | (refine alloc hS rfl rfl ?_; clear hS; intro mb w hS; simp only [putW]) | (refine box1 hS rfl rfl rfl rfl ?_; clear hS; intro mb w hS; try simp only [evW, putW] at hS; simp only [putW]) | (refine boxN hS rfl rfl rfl ?_; clear hS; intro mb w hS; simp only [putW]))
        go_ret
        exact ⟨by rw [HE.out]; rfl, hS⟩
      · have b1 : (tk == key) = false := by simpa using e1
        have HK3 : Bx (ofX now (SL.drop (k + 1)) key = H) := ⟨by rw [← HK2.out, if_neg e1]⟩
        clear e1
        go_wp2_with (first | (refine loadB (f := htF) hS rfl rfl rfl hT 0 2 ?_ rfl rfl ?_; omega; simp only [putW]) | (refine loadB (f := sp3F) hS rfl rfl rfl hBA k 0 ?_ HU.out rfl ?_; omega; simp only [putW]) | (refine load1 hS rfl rfl rfl rfl ?_; simp only [putW]) | (refine loadAll hS rfl rfl rfl ?_ ?_; rfl; simp only [putW]) | (refine loadPart hS rfl rfl rfl ?_ rfl ?_; rfl; simp only [putW]) | (refine store1 hS rfl rfl rfl rfl rfl ?_ ?_; (focus (simp; done)); clear hS; intro w hS; simp only [evW, putW] at hS; try simp only [putW]) | (refine storeAll hS rfl rfl rfl rfl ?_ ?_ ?_ ?_; rfl; (focus (simp [Value.oneCell']; done)); rfl; clear hS; intro w hS; try simp only [putW]) | (refine storeN hS rfl rfl rfl rfl ?_ ?_ ?_ ?_; rfl; (focus (simp [Value.oneCell']; done)); (focus (simp; done)); clear hS; intro w hS; simp at hS; try simp only [putW]) | (refine alloc hS rfl rfl ?_; clear hS; intro mb w hS; simp only [putW]) | (refine box1 hS rfl rfl rfl rfl ?_; clear hS; intro mb w hS; try simp only [evW, putW] at hS; simp only [putW]) | (refine boxN hS rfl rfl rfl ?_; clear hS; intro mb w hS; simp only [putW]))
        go_roundg g
        case measure => omega
        case rel => exact ⟨k + 1, by omega, by go_num, HK3, hS⟩
end
/-- The coldest, without its heat. -/
def coldStep2 (f : Int → Nat) (b k : Int) : Int := if rankF (f k) < rankF (f b) ∨ (rankF (f k) = rankF (f b) ∧ k < b) then k else b
theorem cold_two (f : Int → Nat) (a : Int) : ∀ L : List Int, coldF f (a :: L) = some (L.foldl (coldStep2 f) a, f (L.foldl (coldStep2 f) a)) := by
  have h : ∀ (L : List Int) (a : Int), L.foldl (coldStep f) (some (a, f a)) = some (L.foldl (coldStep2 f) a, f (L.foldl (coldStep2 f) a)) := by
    intro L
    induction L with
    | nil => intro a; rfl
    | cons k L ih =>
      intro a
      rw [List.foldl_cons, List.foldl_cons]
      have e : coldStep f (some (a, f a)) k = some (coldStep2 f a k, f (coldStep2 f a k)) := by
        unfold coldStep coldStep2
        simp only
        by_cases c : rankF (f k) < rankF (f a) ∨ (¬ rankF (f a) < rankF (f k) ∧ k < a)
        · rw [if_pos c, if_pos (by rcases c with c | ⟨c1, c2⟩ <;> omega)]
        · rw [if_neg c, if_neg (by intro c'; apply c; rcases c' with c' | ⟨c1, c2⟩ <;> omega)]
      rw [e]
      exact ih _
  intro L
  exact h L a
end Go.Proofs.Ytlkoclalcfeniaa
namespace Go.Proofs.Ytlkoclalcfeniaa
open Go.RowKit Go.Proofs.Ytlkoclalcfeniaa.Sl Go.Proofs.Ytlkoclalcfeniaa.Jp

/-- The document's table, its cells. -/
abbrev xC (a0 a1 a2 a3 : Value) (now : Nat) (vH : Value) : Array Value := #[a0, a1, a2, a3, .int .i64 16, .int .i64 (now : Int), vH]
def noKey (SL : List Sp3) (key : Int) : List Sp3 := SL.filter fun s => decide (s.1 ≠ key)
def touchX (now : Nat) (SL : List Sp3) (key : Int) (b : Nat) : List Sp3 := noKey SL key ++ [(key, sumR (ofX (now + 1) SL key) b, ((now + 1 : Nat) : Int))]
theorem noKey_next {L : List Sp3} {key : Int} {j : Nat} {x : Sp3} (hx : L[j]? = some x) : noKey (L.take (j + 1)) key = if x.1 = key then noKey (L.take j) key else noKey (L.take j) key ++ [x] := by
  rw [List.take_add_one, hx]
  unfold noKey
  rw [List.filter_append]
  by_cases h : x.1 = key <;> simp [h]
theorem noKey_le (L : List Sp3) (key : Int) (k : Nat) : (noKey (L.take k) key).length ≤ L.length := by
  refine Nat.le_trans (List.length_filter_le _ _) ?_
  rw [List.length_take]
  omega
section
variable {w0 w : World} {K F S : List Chunk} {now nL : Nat} {SL : List Sp3} {x : Nat} {vH a0 a1 a2 a3 : Value} {key : Int} {L : List Int} {v : Value}
theorem readsHt (h : Sat w0 S w) [p : Pull S x (cells (xC a0 a1 a2 a3 now vH) 97) F] : BAt w 3 htF (fun _ => True) [(16, (now : Int), vH)] x 4 := by
  have hg := h.cellsAt (b := x) (c := xC a0 a1 a2 a3 now vH) (t := 97)
  refine ⟨(Array.getElem?_eq_some_iff.1 hg.2).1, fun i y hy => ?_⟩
  have hi : i = 0 := by
    have := (List.getElem?_eq_some_iff.1 hy).1
    simp at this
    exact this
  subst hi
  have hy2 : ((16, (now : Int), vH) : Int × Int × Value) = y := by simpa using hy
  subst hy2
  refine ⟨trivial, rfl, fun j u hu => ?_⟩
  rw [h.cell (b := x) (c := xC a0 a1 a2 a3 now vH) (t := 97), ← Array.getElem?_toList]
  have hj : j < 3 := by
    have := (List.getElem?_eq_some_iff.1 hu).1
    simpa [htF] using this
  match j, hj, hu with
  | 0, _, hu => simpa [htF] using hu
  | 1, _, hu => simpa [htF] using hu
  | 2, _, hu => simpa [htF] using hu
theorem readsH (h : Sat w0 ((x, cells (xC a0 a1 a2 a3 now vH) 97) :: (blk vH, sl 3 sp3F SL 115 vH) :: F) w) : HAt w now SL x vH :=
  ⟨readsHt h, (h.tail.conv (S' := (blk vH, sl 3 sp3F SL 115 vH) :: [])).readsSl fun _ _ => trivial⟩
set_option maxRecDepth 100000 in
set_option maxHeartbeats 4000000 in
theorem refColdest0 (hH : HAt w0 now SL x vH) (hsp : SpN now SL) (hn : now ≤ 30000) {a : Int} (hL : RI w0 (a :: L) v) : Calls Try.prog 63 #[.pointer (some ⟨x, 4, none⟩), v] w0 fun e w' => e = .returned (.tuple #[.int .i64 (L.foldl (coldStep2 (ofX now SL)) a), .bool true]) ∧ Sat w0 [] w' := by
  obtain ⟨ph, ch, rfl, hl, hat⟩ := hL.at
  obtain ⟨b, off, rfl, hBA⟩ := hat (by simp)
  obtain ⟨n, hnn⟩ : ∃ n, L.length = n := ⟨_, rfl⟩
  obtain ⟨R, hR⟩ : ∃ R, L.foldl (coldStep2 (ofX now SL)) a = R := ⟨_, rfl⟩
  have hlen : (a :: L).length = n + 1 := by simp [hnn]
  rw [hlen] at hl ⊢
  rw [hR]
  have HN : Bx _ := ⟨hlen⟩
  have HR : Bx _ := ⟨hR⟩
  have HSP : Bx _ := ⟨hsp⟩
  have h0 : (a :: L)[0]? = some a := rfl
  have H0 : Bx _ := ⟨h0⟩
  have hn1 : (((n + 1 : Nat) : Int) == 0) = false := by simp; omega
  have hn2 : ((n : Int) + 1 == 0) = false := by simp; omega
  clear hnn hR hlen hat hL hsp h0
  have hS := Sat.refl w0
  go_enter Try.func63, Try.ntmps63
  go_wp2_with (first | (refine loadB (f := i64) hS rfl rfl rfl hBA 0 0 ?_ H0.out rfl ?_; omega; simp only [putW]) | (refine load1 hS rfl rfl rfl rfl ?_; simp only [putW]) | (refine loadAll hS rfl rfl rfl ?_ ?_; rfl; simp only [putW]) | (refine loadPart hS rfl rfl rfl ?_ rfl ?_; rfl; simp only [putW]) | (refine store1 hS rfl rfl rfl rfl rfl ?_ ?_; (focus (simp; done)); clear hS; intro w hS; simp only [evW, putW] at hS; try simp only [putW]) | (refine storeAll hS rfl rfl rfl rfl ?_ ?_ ?_ ?_; rfl; (focus (simp [Value.oneCell']; done)); rfl; clear hS; intro w hS; try simp only [putW]) | (refine storeN hS rfl rfl rfl rfl ?_ ?_ ?_ ?_; rfl; (focus (simp [Value.oneCell']; done)); (focus (simp; done)); clear hS; intro w hS; simp at hS; try simp only [putW]) | (refine alloc hS rfl rfl ?_; clear hS; intro mb w hS; simp only [putW]) | (refine box1 hS rfl rfl rfl rfl ?_; clear hS; intro mb w hS; try simp only [evW, putW] at hS; simp only [putW]) | (refine boxN hS rfl rfl rfl ?_; clear hS; intro mb w hS; simp only [putW]))
  go_loopg [6, 7] n (fun g bv iv wr => ∃ (k : Nat) (best : Int), k + g = n ∧ bv = .int .i64 best ∧ iv = .int .i64 (k + 1 : Nat) ∧ Bx ((L.drop k).foldl (coldStep2 (ofX now SL)) best = R) ∧ Sat w0 [] wr)
  case atStart => exact ⟨0, a, by omega, rfl, rfl, HR, hS⟩
  case round =>
    clear hS HR
    obtain ⟨k, best, hkn, rfl, rfl, HK, hS⟩ := hrel
    cases gk with
    | zero =>
      have e : k = n := by omega
      subst e
      have e0 : best = R := by
        rw [← HK.out]
        have : L.drop k = [] := List.drop_eq_nil_of_le (by have := HN.out; simp at this; omega)
        rw [this]
        rfl
      subst e0
      clear hkn
      go_wp2_with (first | (refine load1 hS rfl rfl rfl rfl ?_; simp only [putW]) | (refine loadAll hS rfl rfl rfl ?_ ?_; rfl; simp only [putW]) | (refine loadPart hS rfl rfl rfl ?_ rfl ?_; rfl; simp only [putW]) | (refine store1 hS rfl rfl rfl rfl rfl ?_ ?_; (focus (simp; done)); clear hS; intro w hS; simp only [evW, putW] at hS; try simp only [putW]) | (refine storeAll hS rfl rfl rfl rfl ?_ ?_ ?_ ?_; rfl; (focus (simp [Value.oneCell']; done)); rfl; clear hS; intro w hS; try simp only [putW]) | (refine storeN hS rfl rfl rfl rfl ?_ ?_ ?_ ?_; rfl; (focus (simp [Value.oneCell']; done)); (focus (simp; done)); clear hS; intro w hS; simp at hS; try simp only [putW]) | (refine alloc hS rfl rfl ?_; clear hS; intro mb w hS; simp only [putW]) | (refine box1 hS rfl rfl rfl rfl ?_; clear hS; intro mb w hS; try simp only [evW, putW] at hS; simp only [putW]) | (refine boxN hS rfl rfl rfl ?_; clear hS; intro mb w hS; simp only [putW]))
      refine bodyPost_ret (v := .tuple #[.int .i64 best, .bool true]) (by simp [results, Try.results63]) rfl ⟨rfl, hS⟩
    | succ g =>
      have hlt : k < n := by omega
      have d1 : decide (((k + 1 : Nat) : Int) < ((n + 1 : Nat) : Int)) = true := decide_eq_true (by omega)
      have d1b : decide ((k : Int) + 1 < (n : Int) + 1) = true := decide_eq_true (by omega)
      have d1n : decide (k < n) = true := decide_eq_true hlt
      have d1m : decide (k + 1 < n + 1) = true := decide_eq_true (by omega)
      obtain ⟨u, hu⟩ : ∃ y, L[k]? = some y := ⟨_, List.getElem?_eq_getElem (by have := HN.out; simp at this; omega)⟩
      have hu1 : (a :: L)[k + 1]? = some u := hu
      have HU : Bx _ := ⟨hu1⟩
      have hK2 := HK.out
      rw [drop_at hu, List.foldl_cons] at hK2
      have HK2 : Bx _ := ⟨hK2⟩
      obtain ⟨x1, hx1⟩ : ∃ f, ofX now SL u = f := ⟨_, rfl⟩
      obtain ⟨y1, hy1⟩ : ∃ f, ofX now SL best = f := ⟨_, rfl⟩
      have HX1 : Bx (ofX now SL u = x1 ∧ PlusF x1) := ⟨hx1, by rw [← hx1]; exact ofX_plus HSP.out u⟩
      have HY1 : Bx (ofX now SL best = y1 ∧ PlusF y1) := ⟨hy1, by rw [← hy1]; exact ofX_plus HSP.out best⟩
      clear hu hu1 hK2 HK hx1 hy1
      go_wp2_with (first | (refine loadB (f := i64) hS rfl rfl rfl hBA (k + 1) 0 ?_ HU.out rfl ?_; omega; simp only [putW]) | (guard_target =~ Calls _ 62 _ _ _; refine Stopped.out ?_) | (refine load1 hS rfl rfl rfl rfl ?_; simp only [putW]) | (refine loadAll hS rfl rfl rfl ?_ ?_; rfl; simp only [putW]) | (refine loadPart hS rfl rfl rfl ?_ rfl ?_; rfl; simp only [putW]) | (refine store1 hS rfl rfl rfl rfl rfl ?_ ?_; (focus (simp; done)); clear hS; intro w hS; simp only [evW, putW] at hS; try simp only [putW]) | (refine storeAll hS rfl rfl rfl rfl ?_ ?_ ?_ ?_; rfl; (focus (simp [Value.oneCell']; done)); rfl; clear hS; intro w hS; try simp only [putW]) | (refine storeN hS rfl rfl rfl rfl ?_ ?_ ?_ ?_; rfl; (focus (simp [Value.oneCell']; done)); (focus (simp; done)); clear hS; intro w hS; simp at hS; try simp only [putW]) | (refine alloc hS rfl rfl ?_; clear hS; intro mb w hS; simp only [putW]) | (refine box1 hS rfl rfl rfl rfl ?_; clear hS; intro mb w hS; try simp only [evW, putW] at hS; simp only [putW]) | (refine boxN hS rfl rfl rfl ?_; clear hS; intro mb w hS; simp only [putW]))
      refine ⟨?_⟩
      (refine Calls.mono (refOf0 (key := u) ⟨hH.t.mono hS.base fun _ _ h => h, hH.l.mono hS.base fun _ _ h => h⟩ HSP.out hn) ?_; rw [HX1.out.1]; rintro _ w2 ⟨rfl, h2⟩; replace hS := hS.frame h2; clear h2; (try simp only [List.cons_append, List.nil_append] at hS); simp only [putW])
      go_wp2_with (first | (guard_target =~ Calls _ 62 _ _ _; refine Stopped.out ?_) | (refine load1 hS rfl rfl rfl rfl ?_; simp only [putW]) | (refine loadAll hS rfl rfl rfl ?_ ?_; rfl; simp only [putW]) | (refine loadPart hS rfl rfl rfl ?_ rfl ?_; rfl; simp only [putW]) | (refine store1 hS rfl rfl rfl rfl rfl ?_ ?_; (focus (simp; done)); clear hS; intro w hS; simp only [evW, putW] at hS; try simp only [putW]) | (refine storeAll hS rfl rfl rfl rfl ?_ ?_ ?_ ?_; rfl; (focus (simp [Value.oneCell']; done)); rfl; clear hS; intro w hS; try simp only [putW]) | (refine storeN hS rfl rfl rfl rfl ?_ ?_ ?_ ?_; rfl; (focus (simp [Value.oneCell']; done)); (focus (simp; done)); clear hS; intro w hS; simp at hS; try simp only [putW]) | (refine alloc hS rfl rfl ?_; clear hS; intro mb w hS; simp only [putW]) | (refine box1 hS rfl rfl rfl rfl ?_; clear hS; intro mb w hS; try simp only [evW, putW] at hS; simp only [putW]) | (refine boxN hS rfl rfl rfl ?_; clear hS; intro mb w hS; simp only [putW]))
      refine ⟨?_⟩
      (refine Calls.mono (refOf0 (key := best) ⟨hH.t.mono hS.base fun _ _ h => h, hH.l.mono hS.base fun _ _ h => h⟩ HSP.out hn) ?_; rw [HY1.out.1]; rintro _ w2 ⟨rfl, h2⟩; replace hS := hS.frame h2; clear h2; (try simp only [List.cons_append, List.nil_append] at hS); simp only [putW])
      go_wp2_with (first | (guard_target =~ Calls _ 70 _ _ _; refine Stopped.out ?_) | (refine load1 hS rfl rfl rfl rfl ?_; simp only [putW]) | (refine loadAll hS rfl rfl rfl ?_ ?_; rfl; simp only [putW]) | (refine loadPart hS rfl rfl rfl ?_ rfl ?_; rfl; simp only [putW]) | (refine store1 hS rfl rfl rfl rfl rfl ?_ ?_; (focus (simp; done)); clear hS; intro w hS; simp only [evW, putW] at hS; try simp only [putW]) | (refine storeAll hS rfl rfl rfl rfl ?_ ?_ ?_ ?_; rfl; (focus (simp [Value.oneCell']; done)); rfl; clear hS; intro w hS; try simp only [putW]) | (refine storeN hS rfl rfl rfl rfl ?_ ?_ ?_ ?_; rfl; (focus (simp [Value.oneCell']; done)); (focus (simp; done)); clear hS; intro w hS; simp at hS; try simp only [putW]) | (refine alloc hS rfl rfl ?_; clear hS; intro mb w hS; simp only [putW]) | (refine box1 hS rfl rfl rfl rfl ?_; clear hS; intro mb w hS; try simp only [evW, putW] at hS; simp only [putW]) | (refine boxN hS rfl rfl rfl ?_; clear hS; intro mb w hS; simp only [putW]))
      refine ⟨?_⟩
      obtain ⟨b1, hb1⟩ : ∃ b1, decide (rankF x1 < rankF y1) = b1 := ⟨_, rfl⟩
      (refine Calls.mono (refLess_any HX1.out.2 HY1.out.2 hb1) ?_; rintro _ w2 ⟨rfl, h2⟩; replace hS := hS.frame h2; clear h2; (try simp only [List.cons_append, List.nil_append] at hS); simp only [putW])
      cases b1 with
      | true =>
        have HS : Bx (coldStep2 (ofX now SL) best u = u) := ⟨by
          unfold coldStep2
          rw [HX1.out.1, HY1.out.1, if_pos (.inl (of_decide_eq_true hb1))]⟩
        clear hb1
        go_wp2_with (first | (refine loadB (f := i64) hS rfl rfl rfl hBA (k + 1) 0 ?_ HU.out rfl ?_; omega; simp only [putW]) | (refine load1 hS rfl rfl rfl rfl ?_; simp only [putW]) | (refine loadAll hS rfl rfl rfl ?_ ?_; rfl; simp only [putW]) | (refine loadPart hS rfl rfl rfl ?_ rfl ?_; rfl; simp only [putW]) | (refine store1 hS rfl rfl rfl rfl rfl ?_ ?_; (focus (simp; done)); clear hS; intro w hS; simp only [evW, putW] at hS; try simp only [putW]) | (refine storeAll hS rfl rfl rfl rfl ?_ ?_ ?_ ?_; rfl; (focus (simp [Value.oneCell']; done)); rfl; clear hS; intro w hS; try simp only [putW]) | (refine storeN hS rfl rfl rfl rfl ?_ ?_ ?_ ?_; rfl; (focus (simp [Value.oneCell']; done)); (focus (simp; done)); clear hS; intro w hS; simp at hS; try simp only [putW]) | (refine alloc hS rfl rfl ?_; clear hS; intro mb w hS; simp only [putW]) | (refine box1 hS rfl rfl rfl rfl ?_; clear hS; intro mb w hS; try simp only [evW, putW] at hS; simp only [putW]) | (refine boxN hS rfl rfl rfl ?_; clear hS; intro mb w hS; simp only [putW]))
        go_roundg g
        case measure => omega
        case rel => exact ⟨k + 1, u, by omega, rfl, by go_num, ⟨by rw [← HS.out]; exact HK2.out⟩, hS⟩
      | false =>
        have hnl := of_decide_eq_false hb1
        go_wp2_with (first | (guard_target =~ Calls _ 71 _ _ _; refine Stopped.out ?_) | (refine load1 hS rfl rfl rfl rfl ?_; simp only [putW]) | (refine loadAll hS rfl rfl rfl ?_ ?_; rfl; simp only [putW]) | (refine loadPart hS rfl rfl rfl ?_ rfl ?_; rfl; simp only [putW]) | (refine store1 hS rfl rfl rfl rfl rfl ?_ ?_; (focus (simp; done)); clear hS; intro w hS; simp only [evW, putW] at hS; try simp only [putW]) | (refine storeAll hS rfl rfl rfl rfl ?_ ?_ ?_ ?_; rfl; (focus (simp [Value.oneCell']; done)); rfl; clear hS; intro w hS; try simp only [putW]) | (refine storeN hS rfl rfl rfl rfl ?_ ?_ ?_ ?_; rfl; (focus (simp [Value.oneCell']; done)); (focus (simp; done)); clear hS; intro w hS; simp at hS; try simp only [putW]) | (refine alloc hS rfl rfl ?_; clear hS; intro mb w hS; simp only [putW]) | (refine box1 hS rfl rfl rfl rfl ?_; clear hS; intro mb w hS; try simp only [evW, putW] at hS; simp only [putW]) | (refine boxN hS rfl rfl rfl ?_; clear hS; intro mb w hS; simp only [putW]))
        refine ⟨?_⟩
        obtain ⟨b2, hb2⟩ : ∃ b2, decide (rankF x1 = rankF y1) = b2 := ⟨_, rfl⟩
        (refine Calls.mono (refSameF_any HX1.out.2.1 HY1.out.2.1 hb2) ?_; rintro _ w2 ⟨rfl, h2⟩; replace hS := hS.frame h2; clear h2; (try simp only [List.cons_append, List.nil_append] at hS); simp only [putW])
        cases b2 with
        | false =>
          have HS : Bx (coldStep2 (ofX now SL) best u = best) := ⟨by
            unfold coldStep2
            rw [HX1.out.1, HY1.out.1, if_neg]
            rintro (h | ⟨h, -⟩)
            · omega
            · exact of_decide_eq_false hb2 h⟩
          clear hb1 hb2 hnl
          go_wp2_with (first | (refine loadB (f := i64) hS rfl rfl rfl hBA (k + 1) 0 ?_ HU.out rfl ?_; omega; simp only [putW]) | (refine load1 hS rfl rfl rfl rfl ?_; simp only [putW]) | (refine loadAll hS rfl rfl rfl ?_ ?_; rfl; simp only [putW]) | (refine loadPart hS rfl rfl rfl ?_ rfl ?_; rfl; simp only [putW]) | (refine store1 hS rfl rfl rfl rfl rfl ?_ ?_; (focus (simp; done)); clear hS; intro w hS; simp only [evW, putW] at hS; try simp only [putW]) | (refine storeAll hS rfl rfl rfl rfl ?_ ?_ ?_ ?_; rfl; (focus (simp [Value.oneCell']; done)); rfl; clear hS; intro w hS; try simp only [putW]) | (refine storeN hS rfl rfl rfl rfl ?_ ?_ ?_ ?_; rfl; (focus (simp [Value.oneCell']; done)); (focus (simp; done)); clear hS; intro w hS; simp at hS; try simp only [putW]) | (refine alloc hS rfl rfl ?_; clear hS; intro mb w hS; simp only [putW]) | (refine box1 hS rfl rfl rfl rfl ?_; clear hS; intro mb w hS; try simp only [evW, putW] at hS; simp only [putW]) | (refine boxN hS rfl rfl rfl ?_; clear hS; intro mb w hS; simp only [putW]))
          go_roundg g
          case measure => omega
          case rel => exact ⟨k + 1, best, by omega, rfl, by go_num, ⟨by rw [← HS.out]; exact HK2.out⟩, hS⟩
        | true =>
          by_cases hub : u < best
          · have dub : decide (u < best) = true := decide_eq_true hub
            have HS : Bx (coldStep2 (ofX now SL) best u = u) := ⟨by
              unfold coldStep2
              rw [HX1.out.1, HY1.out.1, if_pos (.inr ⟨of_decide_eq_true hb2, hub⟩)]⟩
            clear hb1 hb2 hnl hub
            go_wp2_with (first | (refine loadB (f := i64) hS rfl rfl rfl hBA (k + 1) 0 ?_ HU.out rfl ?_; omega; simp only [putW]) | (refine load1 hS rfl rfl rfl rfl ?_; simp only [putW]) | (refine loadAll hS rfl rfl rfl ?_ ?_; rfl; simp only [putW]) | (refine loadPart hS rfl rfl rfl ?_ rfl ?_; rfl; simp only [putW]) | (refine store1 hS rfl rfl rfl rfl rfl ?_ ?_; (focus (simp; done)); clear hS; intro w hS; simp only [evW, putW] at hS; try simp only [putW]) | (refine storeAll hS rfl rfl rfl rfl ?_ ?_ ?_ ?_; rfl; (focus (simp [Value.oneCell']; done)); rfl; clear hS; intro w hS; try simp only [putW]) | (refine storeN hS rfl rfl rfl rfl ?_ ?_ ?_ ?_; rfl; (focus (simp [Value.oneCell']; done)); (focus (simp; done)); clear hS; intro w hS; simp at hS; try simp only [putW]) | (refine alloc hS rfl rfl ?_; clear hS; intro mb w hS; simp only [putW]) | (refine box1 hS rfl rfl rfl rfl ?_; clear hS; intro mb w hS; try simp only [evW, putW] at hS; simp only [putW]) | (refine boxN hS rfl rfl rfl ?_; clear hS; intro mb w hS; simp only [putW]))
            go_roundg g
            case measure => omega
            case rel => exact ⟨k + 1, u, by omega, rfl, by go_num, ⟨by rw [← HS.out]; exact HK2.out⟩, hS⟩
          · have dub : decide (u < best) = false := decide_eq_false hub
            have HS : Bx (coldStep2 (ofX now SL) best u = best) := ⟨by
              unfold coldStep2
              rw [HX1.out.1, HY1.out.1, if_neg]
              rintro (h | ⟨-, h⟩)
              · omega
              · exact hub h⟩
            clear hb1 hb2 hnl hub
            go_wp2_with (first | (refine loadB (f := i64) hS rfl rfl rfl hBA (k + 1) 0 ?_ HU.out rfl ?_; omega; simp only [putW]) | (refine load1 hS rfl rfl rfl rfl ?_; simp only [putW]) | (refine loadAll hS rfl rfl rfl ?_ ?_; rfl; simp only [putW]) | (refine loadPart hS rfl rfl rfl ?_ rfl ?_; rfl; simp only [putW]) | (refine store1 hS rfl rfl rfl rfl rfl ?_ ?_; (focus (simp; done)); clear hS; intro w hS; simp only [evW, putW] at hS; try simp only [putW]) | (refine storeAll hS rfl rfl rfl rfl ?_ ?_ ?_ ?_; rfl; (focus (simp [Value.oneCell']; done)); rfl; clear hS; intro w hS; try simp only [putW]) | (refine storeN hS rfl rfl rfl rfl ?_ ?_ ?_ ?_; rfl; (focus (simp [Value.oneCell']; done)); (focus (simp; done)); clear hS; intro w hS; simp at hS; try simp only [putW]) | (refine alloc hS rfl rfl ?_; clear hS; intro mb w hS; simp only [putW]) | (refine box1 hS rfl rfl rfl rfl ?_; clear hS; intro mb w hS; try simp only [evW, putW] at hS; simp only [putW]) | (refine boxN hS rfl rfl rfl ?_; clear hS; intro mb w hS; simp only [putW]))
            go_roundg g
            case measure => omega
            case rel => exact ⟨k + 1, best, by omega, rfl, by go_num, ⟨by rw [← HS.out]; exact HK2.out⟩, hS⟩
theorem refColdestNil (hL : RI w0 [] v) : Calls Try.prog 63 #[.pointer (some ⟨x, 4, none⟩), v] w0 fun e w' => e = .returned (.tuple #[.int .i64 0, .bool false]) ∧ Sat w0 [] w' := by
  obtain ⟨ph, ch, rfl, hl, hat⟩ := hL.at
  have hS := Sat.refl w0
  clear hat hl hL
  go_enter Try.func63, Try.ntmps63
  go_wp2_with (first | (refine load1 hS rfl rfl rfl rfl ?_; simp only [putW]) | (refine loadAll hS rfl rfl rfl ?_ ?_; rfl; simp only [putW]) | (refine loadPart hS rfl rfl rfl ?_ rfl ?_; rfl; simp only [putW]) | (refine store1 hS rfl rfl rfl rfl rfl ?_ ?_; (focus (simp; done)); clear hS; intro w hS; simp only [evW, putW] at hS; try simp only [putW]) | (refine storeAll hS rfl rfl rfl rfl ?_ ?_ ?_ ?_; rfl; (focus (simp [Value.oneCell']; done)); rfl; clear hS; intro w hS; try simp only [putW]) | (refine storeN hS rfl rfl rfl rfl ?_ ?_ ?_ ?_; rfl; (focus (simp [Value.oneCell']; done)); (focus (simp; done)); clear hS; intro w hS; simp at hS; try simp only [putW]) | (refine alloc hS rfl rfl ?_; clear hS; intro mb w hS; simp only [putW]) | (refine box1 hS rfl rfl rfl rfl ?_; clear hS; intro mb w hS; try simp only [evW, putW] at hS; simp only [putW]) | (refine boxN hS rfl rfl rfl ?_; clear hS; intro mb w hS; simp only [putW]))
  refine bodyPost_ret (v := .tuple #[.int .i64 0, .bool false]) (by simp [results, Try.results63]) rfl ⟨rfl, hS⟩
end
end Go.Proofs.Ytlkoclalcfeniaa
namespace Go.Proofs.Ytlkoclalcfeniaa
open Go.RowKit Go.Proofs.Ytlkoclalcfeniaa.Sl Go.Proofs.Ytlkoclalcfeniaa.Jp

section
variable {w0 w : World} {K F S : List Chunk} {now nL : Nat} {SL : List Sp3} {x : Nat} {vH a0 a1 a2 a3 : Value} {key : Int} {L : List Int} {v : Value}
theorem cell6 (a0 a1 a2 a3 : Value) (now : Nat) (vH v : Value) : (xC a0 a1 a2 a3 now vH).setIfInBounds 6 v = xC a0 a1 a2 a3 now v := rfl
set_option maxRecDepth 100000 in
set_option maxHeartbeats 4000000 in
theorem refDropH (hlen : SL.length ≤ 1000) (hS : Sat w0 ((x, cells (xC a0 a1 a2 a3 now vH) 97) :: (blk vH, sl 3 sp3F SL 115 vH) :: K) w) : Calls Try.prog 60 #[.pointer (some ⟨x, 4, none⟩), .int .i64 key] w fun e w' => ∃ v', e = .returned (.tuple #[]) ∧ Sat w0 ((x, cells (xC a0 a1 a2 a3 now v') 97) :: (blk v', sl 3 sp3F (noKey SL key) 115 v') :: K) w' := by
  obtain ⟨n, hn⟩ : ∃ n, SL.length = n := ⟨_, rfl⟩
  have HN : Bx _ := ⟨hn⟩
  have hw0 : ∀ k, (noKey (SL.take k) key).length ≤ 1000 := fun k => Nat.le_trans (noKey_le SL key k) hlen
  have HW : Bx _ := ⟨hw0⟩
  obtain ⟨qH, cH, hv⟩ := shapeN (hS.tail) hn
  subst hv
  have hn9 : n ≤ 1000 := by rw [← hn]; exact hlen
  clear hn hlen hw0
  go_enter Try.func60, Try.ntmps60
  go_wp2_with (first | (refine load1 hS rfl rfl rfl rfl ?_; simp only [putW]) | (refine loadAll hS rfl rfl rfl ?_ ?_; rfl; simp only [putW]) | (refine loadPart hS rfl rfl rfl ?_ rfl ?_; rfl; simp only [putW]) | (refine store1 hS rfl rfl rfl rfl rfl ?_ ?_; (focus (simp; done)); clear hS; intro w hS; simp only [evW, putW] at hS; try simp only [putW]) | (refine storeAll hS rfl rfl rfl rfl ?_ ?_ ?_ ?_; rfl; (focus (simp [Value.oneCell']; done)); rfl; clear hS; intro w hS; try simp only [putW]) | (refine storeN hS rfl rfl rfl rfl ?_ ?_ ?_ ?_; rfl; (focus (simp [Value.oneCell']; done)); (focus (simp; done)); clear hS; intro w hS; simp at hS; try simp only [putW]) | (refine alloc hS rfl rfl ?_; clear hS; intro mb w hS; simp only [putW]) | (refine box1 hS rfl rfl rfl rfl ?_; clear hS; intro mb w hS; try simp only [evW, putW] at hS; simp only [putW]) | (refine boxN hS rfl rfl rfl ?_; clear hS; intro mb w hS; simp only [putW]))
  replace hS := hS.slNil 3 sp3F 115
  go_loopg [4, 5] n (fun g ov i wr => ∃ k : Nat, k + g = n ∧ i = .int .i64 k ∧ Sat w0 ((blk ov, sl 3 sp3F (noKey (SL.take k) key) 115 ov) :: (x, cells (xC a0 a1 a2 a3 now (.slice qH n cH)) 97) :: (blk (.slice qH n cH), sl 3 sp3F SL 115 (.slice qH n cH)) :: K) wr)
  case atStart => exact ⟨0, by omega, rfl, hS⟩
  case round =>
    clear hS
    obtain ⟨k, hkn, rfl, hS⟩ := hrel
    have hwl := HW.out k
    obtain ⟨m4, hm4⟩ : ∃ m, (noKey (SL.take k) key).length = m := ⟨_, rfl⟩
    rw [hm4] at hwl
    obtain ⟨q4, c4, hv4⟩ := shapeN hS hm4
    subst hv4
    have HM : Bx _ := ⟨hm4⟩
    clear hm4
    cases gk with
    | zero =>
      have e : k = n := by omega
      subst e
      have hLk : SL.take k = SL := by rw [← HN.out, List.take_length]
      rw [hLk] at hS
      clear hkn hLk
      go_wp2_with (first | (refine store1 (v := .slice q4 m4 c4) (b := x) (c := xC a0 a1 a2 a3 now (.slice qH k cH)) hS rfl rfl rfl rfl rfl (by simp) ?_; clear hS; intro w hS; rw [cell6] at hS; simp only [putW]) | (refine load1 hS rfl rfl rfl rfl ?_; simp only [putW]) | (refine loadAll hS rfl rfl rfl ?_ ?_; rfl; simp only [putW]) | (refine loadPart hS rfl rfl rfl ?_ rfl ?_; rfl; simp only [putW]) | (refine store1 hS rfl rfl rfl rfl rfl ?_ ?_; (focus (simp; done)); clear hS; intro w hS; simp only [evW, putW] at hS; try simp only [putW]) | (refine storeAll hS rfl rfl rfl rfl ?_ ?_ ?_ ?_; rfl; (focus (simp [Value.oneCell']; done)); rfl; clear hS; intro w hS; try simp only [putW]) | (refine storeN hS rfl rfl rfl rfl ?_ ?_ ?_ ?_; rfl; (focus (simp [Value.oneCell']; done)); (focus (simp; done)); clear hS; intro w hS; simp at hS; try simp only [putW]) | (refine alloc hS rfl rfl ?_; clear hS; intro mb w hS; simp only [putW]) | (refine box1 hS rfl rfl rfl rfl ?_; clear hS; intro mb w hS; try simp only [evW, putW] at hS; simp only [putW]) | (refine boxN hS rfl rfl rfl ?_; clear hS; intro mb w hS; simp only [putW]))
      go_end0
      exact ⟨.slice q4 m4 c4, rfl, hS.conv⟩
    | succ g =>
      have hlt : k < n := by omega
      have d1 : decide ((k : Int) < (n : Int)) = true := decide_eq_true (by omega)
      have d1n : decide (k < n) = true := decide_eq_true hlt
      obtain ⟨u, hu⟩ : ∃ y, SL[k]? = some y := ⟨_, List.getElem?_eq_getElem (by rw [HN.out]; exact hlt)⟩
      have hnx := noKey_next (key := key) hu
      obtain ⟨tk, hh, tt⟩ := u
      have HU : Bx _ := ⟨hu⟩
      have HX : Bx _ := ⟨hnx⟩
      clear hu hnx
      have h4 := hS.conv (S' := (blk (.slice qH n cH), sl 3 sp3F SL 115 (.slice qH n cH)) :: (blk (.slice q4 m4 c4), sl 3 sp3F (noKey (SL.take k) key) 115 (.slice q4 m4 c4)) :: (x, cells (xC a0 a1 a2 a3 now (.slice qH n cH)) 97) :: K)
      clear hS
      obtain ⟨gq, hqq, hcq, hS⟩ := openS h4 HN.out (by omega)
      subst hqq
      clear h4
      have HBack : ∀ {ov : Value} {M : List Sp3} {w' : World}, Sat w0 ((gq, slc 3 sp3F SL cH 115) :: (blk ov, sl 3 sp3F M 115 ov) :: (x, cells (xC a0 a1 a2 a3 now (.slice (some ⟨gq, 0, none⟩) n cH)) 97) :: K) w' → Sat w0 ((blk ov, sl 3 sp3F M 115 ov) :: (x, cells (xC a0 a1 a2 a3 now (.slice (some ⟨gq, 0, none⟩) n cH)) 97) :: (blk (.slice (some ⟨gq, 0, none⟩) n cH), sl 3 sp3F SL 115 (.slice (some ⟨gq, 0, none⟩) n cH)) :: K) w' := fun h => by
        have h1 := h.slOfSlc
        rw [HN.out] at h1
        exact h1.perm (List.Perm.trans (List.Perm.swap _ _ _) (List.Perm.cons _ (List.Perm.swap _ _ _)))
      by_cases e1 : tk = key
      · have HX2 : Bx (noKey (SL.take (k + 1)) key = noKey (SL.take k) key) := ⟨by rw [HX.out, if_pos e1]⟩
        subst e1
        go_wp2_with (first | (refine loadS (f := sp3F) hS rfl rfl rfl k 0 ?_ HU.out rfl ?_ ?_; omega; omega; simp only [putW]) | (refine load1 hS rfl rfl rfl rfl ?_; simp only [putW]) | (refine loadAll hS rfl rfl rfl ?_ ?_; rfl; simp only [putW]) | (refine loadPart hS rfl rfl rfl ?_ rfl ?_; rfl; simp only [putW]) | (refine store1 hS rfl rfl rfl rfl rfl ?_ ?_; (focus (simp; done)); clear hS; intro w hS; simp only [evW, putW] at hS; try simp only [putW]) | (refine storeAll hS rfl rfl rfl rfl ?_ ?_ ?_ ?_; rfl; (focus (simp [Value.oneCell']; done)); rfl; clear hS; intro w hS; try simp only [putW]) | (refine storeN hS rfl rfl rfl rfl ?_ ?_ ?_ ?_; rfl; (focus (simp [Value.oneCell']; done)); (focus (simp; done)); clear hS; intro w hS; simp at hS; try simp only [putW]) | (refine alloc hS rfl rfl ?_; clear hS; intro mb w hS; simp only [putW]) | (refine box1 hS rfl rfl rfl rfl ?_; clear hS; intro mb w hS; try simp only [evW, putW] at hS; simp only [putW]) | (refine boxN hS rfl rfl rfl ?_; clear hS; intro mb w hS; simp only [putW]))
        go_roundg g
        case measure => omega
        case rel => exact ⟨k + 1, by omega, by go_num, by rw [HX2.out]; exact HBack hS⟩
      · have HX2 : Bx (noKey (SL.take (k + 1)) key = noKey (SL.take k) key ++ [(tk, hh, tt)]) := ⟨by rw [HX.out, if_neg e1]⟩
        have b1 : (tk == key) = false := by simpa using e1
        have b2 : (tk != key) = true := by simpa using e1
        clear e1
        go_wp2_with (first | (refine loadS (f := sp3F) hS rfl rfl rfl k 0 ?_ HU.out rfl ?_ ?_; omega; omega; simp only [putW]) | (refine loadSN (f := sp3F) (vs := [.int .i64 tk, .float .f64 hh, .int .i64 tt]) hS rfl rfl rfl k 0 ?_ HU.out ?_ ?_ ?_; omega; (focus (first | omega | decide)); rfl; simp only [putW]) | (refine buildSlice1 (c := #[.int .i64 tk, .float .f64 hh, .int .i64 tt]) hS rfl rfl rfl ?_ ?_ ?_ ?_; rfl; rfl; rfl; clear hS; intro mb w hS; simp only [putW]) | (refine append1 (f := sp3F) hS rfl rfl (.slice q4 m4 c4) rfl rfl (tk, hh, tt) ?_ ?_ ?_ ?_ ?_ ?_; rfl; (focus (simp [sp3F, Value.oneCell']; done)); rfl; (focus (rw [HM.out]; simp [maxLen]; omega)); (focus (rw [HM.out]; omega)); clear hS; intro v' w hS; simp only [putW]) | (refine load1 hS rfl rfl rfl rfl ?_; simp only [putW]) | (refine loadAll hS rfl rfl rfl ?_ ?_; rfl; simp only [putW]) | (refine loadPart hS rfl rfl rfl ?_ rfl ?_; rfl; simp only [putW]) | (refine store1 hS rfl rfl rfl rfl rfl ?_ ?_; (focus (simp; done)); clear hS; intro w hS; simp only [evW, putW] at hS; try simp only [putW]) | (refine storeAll hS rfl rfl rfl rfl ?_ ?_ ?_ ?_; rfl; (focus (simp [Value.oneCell']; done)); rfl; clear hS; intro w hS; try simp only [putW]) | (refine storeN hS rfl rfl rfl rfl ?_ ?_ ?_ ?_; rfl; (focus (simp [Value.oneCell']; done)); (focus (simp; done)); clear hS; intro w hS; simp at hS; try simp only [putW]) | (refine alloc hS rfl rfl ?_; clear hS; intro mb w hS; simp only [putW]) | (refine box1 hS rfl rfl rfl rfl ?_; clear hS; intro mb w hS; try simp only [evW, putW] at hS; simp only [putW]) | (refine boxN hS rfl rfl rfl ?_; clear hS; intro mb w hS; simp only [putW]))
        go_roundg g
        case measure => omega
        case rel => exact ⟨k + 1, by omega, by go_num, by rw [HX2.out]; exact HBack hS.conv⟩
theorem noKey_len (SL : List Sp3) (key : Int) : (noKey SL key).length ≤ SL.length := List.length_filter_le _ _
set_option maxRecDepth 100000 in
set_option maxHeartbeats 4000000 in
theorem refTouch {b : Nat} (hlen : SL.length ≤ 900) (hn : now ≤ 20000) (hsp : SpN now SL) (hS : Sat w0 ((x, cells (xC a0 a1 a2 a3 now vH) 97) :: (blk vH, sl 3 sp3F SL 115 vH) :: K) w) : Calls Try.prog 47 #[.pointer (some ⟨x, 4, none⟩), .int .i64 key, .float .f64 b] w fun e w' => ∃ v', e = .returned (.tuple #[]) ∧ Sat w0 ((x, cells (xC a0 a1 a2 a3 (now + 1) v') 97) :: (blk v', sl 3 sp3F (touchX now SL key b) 115 v') :: K) w' := by
  have hsp1 : SpN (now + 1) SL := fun s hs => ⟨(hsp s hs).1, (hsp s hs).2.1, by have := (hsp s hs).2.2; omega⟩
  have HSP : Bx _ := ⟨hsp1⟩
  have HL : Bx _ := ⟨hlen⟩
  obtain ⟨n, hnn⟩ : ∃ n, SL.length = n := ⟨_, rfl⟩
  obtain ⟨qH, cH, hv⟩ := shapeN (hS.tail) hnn
  subst hv
  obtain ⟨n1, hn1⟩ : ∃ n1, now + 1 = n1 := ⟨_, rfl⟩
  have hn2 : n1 ≤ 30000 := by omega
  have HN1 : Bx _ := ⟨hn1⟩
  obtain ⟨r0, hr0⟩ : ∃ r, ofX n1 SL key = r := ⟨_, rfl⟩
  have HR0 : Bx _ := ⟨hr0⟩
  have HT : Bx (touchX now SL key b = noKey SL key ++ [(key, sumR r0 b, (n1 : Int))]) := ⟨by
    unfold touchX
    rw [hn1, hr0]⟩
  rw [hn1] at HSP ⊢
  have e1 : ((now : Int) + 1) = (n1 : Int) := by omega
  have hw1 : wrap64 ((now : Int) + 1) = (n1 : Int) := by unfold wrap64; omega
  have HW1 : Bx _ := ⟨hw1⟩
  clear hsp hsp1 hlen hnn hr0
  go_enter Try.func47, Try.ntmps47
  go_wp2_with (first | (guard_target =~ Calls _ 62 _ _ _; refine Stopped.out ?_) | (refine load1 hS rfl rfl rfl rfl ?_; simp only [putW]) | (refine loadAll hS rfl rfl rfl ?_ ?_; rfl; simp only [putW]) | (refine loadPart hS rfl rfl rfl ?_ rfl ?_; rfl; simp only [putW]) | (refine store1 hS rfl rfl rfl rfl rfl ?_ ?_; (focus (simp; done)); clear hS; intro w hS; simp only [evW, putW] at hS; try simp only [putW]) | (refine storeAll hS rfl rfl rfl rfl ?_ ?_ ?_ ?_; rfl; (focus (simp [Value.oneCell']; done)); rfl; clear hS; intro w hS; try simp only [putW]) | (refine storeN hS rfl rfl rfl rfl ?_ ?_ ?_ ?_; rfl; (focus (simp [Value.oneCell']; done)); (focus (simp; done)); clear hS; intro w hS; simp at hS; try simp only [putW]) | (refine alloc hS rfl rfl ?_; clear hS; intro mb w hS; simp only [putW]) | (refine box1 hS rfl rfl rfl rfl ?_; clear hS; intro mb w hS; try simp only [evW, putW] at hS; simp only [putW]) | (refine boxN hS rfl rfl rfl ?_; clear hS; intro mb w hS; simp only [putW]))
  refine ⟨?_⟩
  (refine Calls.mono (refOf0 (key := key) (readsH hS) HSP.out hn2) ?_; rw [HR0.out]; rintro _ w2 ⟨rfl, h2⟩; replace hS := hS.frame h2; clear h2; (try simp only [List.cons_append, List.nil_append] at hS); simp only [putW])
  go_wp2_with (first | (guard_target =~ wpList _ _ _ (Oper.mk (some 19) _ _ _ _ _ :: _) _ _; refine Stopped.out ?_) | (refine load1 hS rfl rfl rfl rfl ?_; simp only [putW]) | (refine loadAll hS rfl rfl rfl ?_ ?_; rfl; simp only [putW]) | (refine loadPart hS rfl rfl rfl ?_ rfl ?_; rfl; simp only [putW]) | (refine store1 hS rfl rfl rfl rfl rfl ?_ ?_; (focus (simp; done)); clear hS; intro w hS; simp only [evW, putW] at hS; try simp only [putW]) | (refine storeAll hS rfl rfl rfl rfl ?_ ?_ ?_ ?_; rfl; (focus (simp [Value.oneCell']; done)); rfl; clear hS; intro w hS; try simp only [putW]) | (refine storeN hS rfl rfl rfl rfl ?_ ?_ ?_ ?_; rfl; (focus (simp [Value.oneCell']; done)); (focus (simp; done)); clear hS; intro w hS; simp at hS; try simp only [putW]) | (refine alloc hS rfl rfl ?_; clear hS; intro mb w hS; simp only [putW]) | (refine box1 hS rfl rfl rfl rfl ?_; clear hS; intro mb w hS; try simp only [evW, putW] at hS; simp only [putW]) | (refine boxN hS rfl rfl rfl ?_; clear hS; intro mb w hS; simp only [putW]))
  refine ⟨?_⟩
  refine opFloat (.inl rfl) hS rfl rfl rfl rfl ?_
  clear hS
  intro r2 w hr2 hS
  have HS2 : Bx (rightF r2 = sumR r0 b) := ⟨sumR_is hr2⟩
  clear hr2
  simp only [putW]
  go_wp2_with (first | (go_at_call 61; refine Calls.mono (refRight_any) ?_; rw [HS2.out]; rintro _ w2 ⟨rfl, h2⟩; replace hS := hS.frame h2; clear h2; (try simp only [List.cons_append, List.nil_append] at hS); simp only [putW]) | (guard_target =~ Calls _ 60 _ _ _; refine Stopped.out ?_) | (refine load1 hS rfl rfl rfl rfl ?_; simp only [putW]) | (refine loadAll hS rfl rfl rfl ?_ ?_; rfl; simp only [putW]) | (refine loadPart hS rfl rfl rfl ?_ rfl ?_; rfl; simp only [putW]) | (refine store1 hS rfl rfl rfl rfl rfl ?_ ?_; (focus (simp; done)); clear hS; intro w hS; simp only [evW, putW] at hS; try simp only [putW]) | (refine storeAll hS rfl rfl rfl rfl ?_ ?_ ?_ ?_; rfl; (focus (simp [Value.oneCell']; done)); rfl; clear hS; intro w hS; try simp only [putW]) | (refine storeN hS rfl rfl rfl rfl ?_ ?_ ?_ ?_; rfl; (focus (simp [Value.oneCell']; done)); (focus (simp; done)); clear hS; intro w hS; simp at hS; try simp only [putW]) | (refine alloc hS rfl rfl ?_; clear hS; intro mb w hS; simp only [putW]) | (refine box1 hS rfl rfl rfl rfl ?_; clear hS; intro mb w hS; try simp only [evW, putW] at hS; simp only [putW]) | (refine boxN hS rfl rfl rfl ?_; clear hS; intro mb w hS; simp only [putW]))
  refine ⟨?_⟩
  refine Calls.mono (refDropH (key := key) (Nat.le_trans HL.out (by omega)) hS) ?_
  clear hS
  rintro _ w ⟨v1, rfl, hS⟩
  obtain ⟨m1, hm1⟩ : ∃ m, (noKey SL key).length = m := ⟨_, rfl⟩
  have hm9 : m1 ≤ 900 := by rw [← hm1]; exact Nat.le_trans (noKey_len SL key) HL.out
  obtain ⟨q1, c1, hs1⟩ := shapeN (hS.tail) hm1
  subst hs1
  have HM : Bx _ := ⟨hm1⟩
  clear hm1
  simp only [putW]
  go_upto_region 3 with (first | (refine load1 hS rfl rfl rfl rfl ?_; simp only [putW]) | (refine loadAll hS rfl rfl rfl ?_ ?_; rfl; simp only [putW]) | (refine loadPart hS rfl rfl rfl ?_ rfl ?_; rfl; simp only [putW]) | (refine store1 hS rfl rfl rfl rfl rfl ?_ ?_; (focus (simp; done)); clear hS; intro w hS; simp only [evW, putW] at hS; try simp only [putW]) | (refine storeAll hS rfl rfl rfl rfl ?_ ?_ ?_ ?_; rfl; (focus (simp [Value.oneCell']; done)); rfl; clear hS; intro w hS; try simp only [putW]) | (refine storeN hS rfl rfl rfl rfl ?_ ?_ ?_ ?_; rfl; (focus (simp [Value.oneCell']; done)); (focus (simp; done)); clear hS; intro w hS; simp at hS; try simp only [putW]) | (refine alloc hS rfl rfl ?_; clear hS; intro mb w hS; simp only [putW]) | (refine box1 hS rfl rfl rfl rfl ?_; clear hS; intro mb w hS; try simp only [evW, putW] at hS; simp only [putW]) | (refine boxN hS rfl rfl rfl ?_; clear hS; intro mb w hS; simp only [putW]))
  (refine wp_region_held (S := fun w' => Sat w0 (K) w') (by kernel_rfl) ?_; replace hS := hS.drew; (first | (refine takeIf (i := 0) rfl (by kernel_rfl) (fun _ _ _ h => h) (yMove rfl rfl rfl) hS.conv ?_; simp only [evW, putW]) | (refine takeIf (i := 0) rfl (by kernel_rfl) (fun _ _ _ h => h) (yLoad1 (fun _ h => h) rfl rfl rfl rfl) hS.conv ?_; simp only [putW]) | (refine takeIf (i := 0) rfl (by kernel_rfl) (fun _ _ _ h => h) (yLoadAll (fun _ h => h) rfl rfl rfl rfl) hS.conv ?_; simp only [putW]) | (apply takeIf (i := 0) rfl (by kernel_rfl) (fun _ _ _ h => h); (focus (apply yRun rfl; intro w; first | (go_simp; done) | (go_simp; rfl))); (focus (exact hS.conv)); simp only [putW])); (first | (refine takeIf (i := 1) rfl (by kernel_rfl) (fun _ _ _ h => h) (yMove rfl rfl rfl) hS.conv ?_; simp only [evW, putW]) | (refine takeIf (i := 1) rfl (by kernel_rfl) (fun _ _ _ h => h) (yLoad1 (fun _ h => h) rfl rfl rfl rfl) hS.conv ?_; simp only [putW]) | (refine takeIf (i := 1) rfl (by kernel_rfl) (fun _ _ _ h => h) (yLoadAll (fun _ h => h) rfl rfl rfl rfl) hS.conv ?_; simp only [putW]) | (apply takeIf (i := 1) rfl (by kernel_rfl) (fun _ _ _ h => h); (focus (apply yRun rfl; intro w; first | (go_simp; done) | (go_simp; rfl))); (focus (exact hS.conv)); simp only [putW])); (first | (refine takeIf (i := 2) rfl (by kernel_rfl) (fun _ _ _ h => h) (yMove rfl rfl rfl) hS.conv ?_; simp only [evW, putW]) | (refine takeIf (i := 2) rfl (by kernel_rfl) (fun _ _ _ h => h) (yLoad1 (fun _ h => h) rfl rfl rfl rfl) hS.conv ?_; simp only [putW]) | (refine takeIf (i := 2) rfl (by kernel_rfl) (fun _ _ _ h => h) (yLoadAll (fun _ h => h) rfl rfl rfl rfl) hS.conv ?_; simp only [putW]) | (apply takeIf (i := 2) rfl (by kernel_rfl) (fun _ _ _ h => h); (focus (apply yRun rfl; intro w; first | (go_simp; done) | (go_simp; rfl))); (focus (exact hS.conv)); simp only [putW])); (first | (refine takeIf (i := 3) rfl (by kernel_rfl) (fun _ _ _ h => h) (yMove rfl rfl rfl) hS.conv ?_; simp only [evW, putW]) | (refine takeIf (i := 3) rfl (by kernel_rfl) (fun _ _ _ h => h) (yLoad1 (fun _ h => h) rfl rfl rfl rfl) hS.conv ?_; simp only [putW]) | (refine takeIf (i := 3) rfl (by kernel_rfl) (fun _ _ _ h => h) (yLoadAll (fun _ h => h) rfl rfl rfl rfl) hS.conv ?_; simp only [putW]) | (apply takeIf (i := 3) rfl (by kernel_rfl) (fun _ _ _ h => h); (focus (apply yRun rfl; intro w; first | (go_simp; done) | (go_simp; rfl))); (focus (exact hS.conv)); simp only [putW])); (first | (refine takeIf (i := 5) rfl (by kernel_rfl) (fun _ _ _ h => h) (yMove rfl rfl rfl) hS.conv ?_; simp only [evW, putW]) | (refine takeIf (i := 5) rfl (by kernel_rfl) (fun _ _ _ h => h) (yLoad1 (fun _ h => h) rfl rfl rfl rfl) hS.conv ?_; simp only [putW]) | (refine takeIf (i := 5) rfl (by kernel_rfl) (fun _ _ _ h => h) (yLoadAll (fun _ h => h) rfl rfl rfl rfl) hS.conv ?_; simp only [putW]) | (apply takeIf (i := 5) rfl (by kernel_rfl) (fun _ _ _ h => h); (focus (apply yRun rfl; intro w; first | (go_simp; done) | (go_simp; rfl))); (focus (exact hS.conv)); simp only [putW])); (first | (refine takeIf (i := 6) rfl (by kernel_rfl) (fun _ _ _ h => h) (yMove rfl rfl rfl) hS.conv ?_; simp only [evW, putW]) | (refine takeIf (i := 6) rfl (by kernel_rfl) (fun _ _ _ h => h) (yLoad1 (fun _ h => h) rfl rfl rfl rfl) hS.conv ?_; simp only [putW]) | (refine takeIf (i := 6) rfl (by kernel_rfl) (fun _ _ _ h => h) (yLoadAll (fun _ h => h) rfl rfl rfl rfl) hS.conv ?_; simp only [putW]) | (apply takeIf (i := 6) rfl (by kernel_rfl) (fun _ _ _ h => h); (focus (apply yRun rfl; intro w; first | (go_simp; done) | (go_simp; rfl))); (focus (exact hS.conv)); simp only [putW])); (first | (refine takeIf (i := 7) rfl (by kernel_rfl) (fun _ _ _ h => h) (yMove rfl rfl rfl) hS.conv ?_; simp only [evW, putW]) | (refine takeIf (i := 7) rfl (by kernel_rfl) (fun _ _ _ h => h) (yLoad1 (fun _ h => h) rfl rfl rfl rfl) hS.conv ?_; simp only [putW]) | (refine takeIf (i := 7) rfl (by kernel_rfl) (fun _ _ _ h => h) (yLoadAll (fun _ h => h) rfl rfl rfl rfl) hS.conv ?_; simp only [putW]) | (apply takeIf (i := 7) rfl (by kernel_rfl) (fun _ _ _ h => h); (focus (apply yRun rfl; intro w; first | (go_simp; done) | (go_simp; rfl))); (focus (exact hS.conv)); simp only [putW])); (first | (refine takeIf (i := 8) rfl (by kernel_rfl) (fun _ _ _ h => h) (yMove rfl rfl rfl) hS.conv ?_; simp only [evW, putW]) | (refine takeIf (i := 8) rfl (by kernel_rfl) (fun _ _ _ h => h) (yLoad1 (fun _ h => h) rfl rfl rfl rfl) hS.conv ?_; simp only [putW]) | (refine takeIf (i := 8) rfl (by kernel_rfl) (fun _ _ _ h => h) (yLoadAll (fun _ h => h) rfl rfl rfl rfl) hS.conv ?_; simp only [putW]) | (apply takeIf (i := 8) rfl (by kernel_rfl) (fun _ _ _ h => h); (focus (apply yRun rfl; intro w; first | (go_simp; done) | (go_simp; rfl))); (focus (exact hS.conv)); simp only [putW])); (first | (refine takeIf (i := 9) rfl (by kernel_rfl) (fun _ _ _ h => h) (yMove rfl rfl rfl) hS.conv ?_; simp only [evW, putW]) | (refine takeIf (i := 9) rfl (by kernel_rfl) (fun _ _ _ h => h) (yLoad1 (fun _ h => h) rfl rfl rfl rfl) hS.conv ?_; simp only [putW]) | (refine takeIf (i := 9) rfl (by kernel_rfl) (fun _ _ _ h => h) (yLoadAll (fun _ h => h) rfl rfl rfl rfl) hS.conv ?_; simp only [putW]) | (apply takeIf (i := 9) rfl (by kernel_rfl) (fun _ _ _ h => h); (focus (apply yRun rfl; intro w; first | (go_simp; done) | (go_simp; rfl))); (focus (exact hS.conv)); simp only [putW])); refine wpAnyH_all (rs := [4, 10]) (by kernel_rfl) (by simp) ?_; intro i hi; simp only [List.mem_cons, List.not_mem_nil, or_false] at hi; rcases hi with rfl | rfl; (focus (refine wpOp_of_list rfl ?_; go_wp2_with (first | (refine load1 hS rfl rfl rfl rfl ?_; simp only [putW]) | (refine loadAll hS rfl rfl rfl ?_ ?_; rfl; simp only [putW]) | (refine loadPart hS rfl rfl rfl ?_ rfl ?_; rfl; simp only [putW]) | (refine store1 hS rfl rfl rfl rfl rfl ?_ ?_; (focus (simp; done)); clear hS; intro w hS; simp only [evW, putW] at hS; try simp only [putW]) | (refine storeAll hS rfl rfl rfl rfl ?_ ?_ ?_ ?_; rfl; (focus (simp [Value.oneCell']; done)); rfl; clear hS; intro w hS; try simp only [putW]) | (refine storeN hS rfl rfl rfl rfl ?_ ?_ ?_ ?_; rfl; (focus (simp [Value.oneCell']; done)); (focus (simp; done)); clear hS; intro w hS; simp at hS; try simp only [putW]) | (refine alloc hS rfl rfl ?_; clear hS; intro mb w hS; simp only [putW]) | (refine box1 hS rfl rfl rfl rfl ?_; clear hS; intro mb w hS; try simp only [evW, putW] at hS; simp only [putW]) | (refine boxN hS rfl rfl rfl ?_; clear hS; intro mb w hS; simp only [putW])); refine ⟨rfl, hS.conv, ?_⟩; refine wpAnyH_all (rs := [10]) (by kernel_rfl) (by simp) ?_; intro i hi; simp only [List.mem_cons, List.not_mem_nil, or_false] at hi; subst hi; refine wpOp_of_list rfl ?_; go_wp2_with (first | (refine load1 hS rfl rfl rfl rfl ?_; simp only [putW]) | (refine loadAll hS rfl rfl rfl ?_ ?_; rfl; simp only [putW]) | (refine loadPart hS rfl rfl rfl ?_ rfl ?_; rfl; simp only [putW]) | (refine store1 hS rfl rfl rfl rfl rfl ?_ ?_; (focus (simp; done)); clear hS; intro w hS; simp only [evW, putW] at hS; try simp only [putW]) | (refine storeAll hS rfl rfl rfl rfl ?_ ?_ ?_ ?_; rfl; (focus (simp [Value.oneCell']; done)); rfl; clear hS; intro w hS; try simp only [putW]) | (refine storeN hS rfl rfl rfl rfl ?_ ?_ ?_ ?_; rfl; (focus (simp [Value.oneCell']; done)); (focus (simp; done)); clear hS; intro w hS; simp at hS; try simp only [putW]) | (refine alloc hS rfl rfl ?_; clear hS; intro mb w hS; simp only [putW]) | (refine box1 hS rfl rfl rfl rfl ?_; clear hS; intro mb w hS; try simp only [evW, putW] at hS; simp only [putW]) | (refine boxN hS rfl rfl rfl ?_; clear hS; intro mb w hS; simp only [putW])); refine ⟨rfl, hS.conv, ?_⟩; (first | (refine takeIf (i := 11) rfl (by kernel_rfl) (fun _ _ _ h => h) (yMove rfl rfl rfl) hS.conv ?_; simp only [evW, putW]) | (refine takeIf (i := 11) rfl (by kernel_rfl) (fun _ _ _ h => h) (yLoad1 (fun _ h => h) rfl rfl rfl rfl) hS.conv ?_; simp only [putW]) | (refine takeIf (i := 11) rfl (by kernel_rfl) (fun _ _ _ h => h) (yLoadAll (fun _ h => h) rfl rfl rfl rfl) hS.conv ?_; simp only [putW]) | (apply takeIf (i := 11) rfl (by kernel_rfl) (fun _ _ _ h => h); (focus (apply yRun rfl; intro w; first | (go_simp; done) | (go_simp; rfl))); (focus (exact hS.conv)); simp only [putW])); refine wpAnyH_all (rs := [12]) (by kernel_rfl) (by simp) ?_; intro i hi; simp only [List.mem_cons, List.not_mem_nil, or_false] at hi; subst hi; refine wpOp_of_list rfl ?_; go_wp2_with (first | (refine buildSlice1 (c := #[.int .i64 key, .float .f64 (sumR r0 b), .int .i64 (n1 : Int)]) hS rfl rfl rfl ?_ ?_ ?_ ?_; rfl; rfl; rfl; clear hS; intro mb w hS; simp only [putW]) | (refine load1 hS rfl rfl rfl rfl ?_; simp only [putW]) | (refine loadAll hS rfl rfl rfl ?_ ?_; rfl; simp only [putW]) | (refine loadPart hS rfl rfl rfl ?_ rfl ?_; rfl; simp only [putW]) | (refine store1 hS rfl rfl rfl rfl rfl ?_ ?_; (focus (simp; done)); clear hS; intro w hS; simp only [evW, putW] at hS; try simp only [putW]) | (refine storeAll hS rfl rfl rfl rfl ?_ ?_ ?_ ?_; rfl; (focus (simp [Value.oneCell']; done)); rfl; clear hS; intro w hS; try simp only [putW]) | (refine storeN hS rfl rfl rfl rfl ?_ ?_ ?_ ?_; rfl; (focus (simp [Value.oneCell']; done)); (focus (simp; done)); clear hS; intro w hS; simp at hS; try simp only [putW]) | (refine alloc hS rfl rfl ?_; clear hS; intro mb w hS; simp only [putW]) | (refine box1 hS rfl rfl rfl rfl ?_; clear hS; intro mb w hS; try simp only [evW, putW] at hS; simp only [putW]) | (refine boxN hS rfl rfl rfl ?_; clear hS; intro mb w hS; simp only [putW])); refine ⟨rfl, hS.conv, ?_⟩; refine wpAnyH_all (rs := [13]) (by kernel_rfl) (by simp) ?_; intro i hi; simp only [List.mem_cons, List.not_mem_nil, or_false] at hi; subst hi; refine wpOp_of_list rfl ?_; go_wp2_with (first | (refine append1 (f := sp3F) hS rfl rfl (.slice q1 m1 c1) rfl rfl (key, sumR r0 b, (n1 : Int)) ?_ ?_ ?_ ?_ ?_ ?_; rfl; (focus (simp [sp3F, Value.oneCell']; done)); rfl; (focus (rw [HM.out]; simp [maxLen]; omega)); (focus (rw [HM.out]; omega)); clear hS; intro v' w hS; simp only [putW]) | (refine load1 hS rfl rfl rfl rfl ?_; simp only [putW]) | (refine loadAll hS rfl rfl rfl ?_ ?_; rfl; simp only [putW]) | (refine loadPart hS rfl rfl rfl ?_ rfl ?_; rfl; simp only [putW]) | (refine store1 hS rfl rfl rfl rfl rfl ?_ ?_; (focus (simp; done)); clear hS; intro w hS; simp only [evW, putW] at hS; try simp only [putW]) | (refine storeAll hS rfl rfl rfl rfl ?_ ?_ ?_ ?_; rfl; (focus (simp [Value.oneCell']; done)); rfl; clear hS; intro w hS; try simp only [putW]) | (refine storeN hS rfl rfl rfl rfl ?_ ?_ ?_ ?_; rfl; (focus (simp [Value.oneCell']; done)); (focus (simp; done)); clear hS; intro w hS; simp at hS; try simp only [putW]) | (refine alloc hS rfl rfl ?_; clear hS; intro mb w hS; simp only [putW]) | (refine box1 hS rfl rfl rfl rfl ?_; clear hS; intro mb w hS; try simp only [evW, putW] at hS; simp only [putW]) | (refine boxN hS rfl rfl rfl ?_; clear hS; intro mb w hS; simp only [putW])); refine ⟨rfl, hS.conv, ?_⟩; (first | (refine takeIf (i := 14) rfl (by kernel_rfl) (fun _ _ _ h => h) (yMove rfl rfl rfl) hS.conv ?_; simp only [evW, putW]) | (refine takeIf (i := 14) rfl (by kernel_rfl) (fun _ _ _ h => h) (yLoad1 (fun _ h => h) rfl rfl rfl rfl) hS.conv ?_; simp only [putW]) | (refine takeIf (i := 14) rfl (by kernel_rfl) (fun _ _ _ h => h) (yLoadAll (fun _ h => h) rfl rfl rfl rfl) hS.conv ?_; simp only [putW]) | (apply takeIf (i := 14) rfl (by kernel_rfl) (fun _ _ _ h => h); (focus (apply yRun rfl; intro w; first | (go_simp; done) | (go_simp; rfl))); (focus (exact hS.conv)); simp only [putW])); (first | (refine takeIf (i := 15) rfl (by kernel_rfl) (fun _ _ _ h => h) (yMove rfl rfl rfl) hS.conv ?_; simp only [evW, putW]) | (refine takeIf (i := 15) rfl (by kernel_rfl) (fun _ _ _ h => h) (yLoad1 (fun _ h => h) rfl rfl rfl rfl) hS.conv ?_; simp only [putW]) | (refine takeIf (i := 15) rfl (by kernel_rfl) (fun _ _ _ h => h) (yLoadAll (fun _ h => h) rfl rfl rfl rfl) hS.conv ?_; simp only [putW]) | (apply takeIf (i := 15) rfl (by kernel_rfl) (fun _ _ _ h => h); (focus (apply yRun rfl; intro w; first | (go_simp; done) | (go_simp; rfl))); (focus (exact hS.conv)); simp only [putW])); refine wpAnyH_all (rs := [16]) (by kernel_rfl) (by simp) ?_; intro i hi; simp only [List.mem_cons, List.not_mem_nil, or_false] at hi; subst hi; refine wpOp_of_list rfl ?_; go_wp2_with (first | (have hv1 : v'.oneCell' = true := Sat.slCell (α := Sp3) hS; refine store1 (v := v') (b := x) (c := xC a0 a1 a2 a3 n1 (.slice q1 m1 c1)) hS rfl rfl rfl rfl hv1 (by simp) ?_; clear hS; intro w hS; rw [cell6] at hS; simp only [putW]) | (refine load1 hS rfl rfl rfl rfl ?_; simp only [putW]) | (refine loadAll hS rfl rfl rfl ?_ ?_; rfl; simp only [putW]) | (refine loadPart hS rfl rfl rfl ?_ rfl ?_; rfl; simp only [putW]) | (refine store1 hS rfl rfl rfl rfl rfl ?_ ?_; (focus (simp; done)); clear hS; intro w hS; simp only [evW, putW] at hS; try simp only [putW]) | (refine storeAll hS rfl rfl rfl rfl ?_ ?_ ?_ ?_; rfl; (focus (simp [Value.oneCell']; done)); rfl; clear hS; intro w hS; try simp only [putW]) | (refine storeN hS rfl rfl rfl rfl ?_ ?_ ?_ ?_; rfl; (focus (simp [Value.oneCell']; done)); (focus (simp; done)); clear hS; intro w hS; simp at hS; try simp only [putW]) | (refine alloc hS rfl rfl ?_; clear hS; intro mb w hS; simp only [putW]) | (refine box1 hS rfl rfl rfl rfl ?_; clear hS; intro mb w hS; try simp only [evW, putW] at hS; simp only [putW]) | (refine boxN hS rfl rfl rfl ?_; clear hS; intro mb w hS; simp only [putW])); refine ⟨rfl, hS.conv, ?_⟩; refine wpAnyH_done (by kernel_rfl) ?_ _; go_wp2_with (first | (refine load1 hS rfl rfl rfl rfl ?_; simp only [putW]) | (refine loadAll hS rfl rfl rfl ?_ ?_; rfl; simp only [putW]) | (refine loadPart hS rfl rfl rfl ?_ rfl ?_; rfl; simp only [putW]) | (refine store1 hS rfl rfl rfl rfl rfl ?_ ?_; (focus (simp; done)); clear hS; intro w hS; simp only [evW, putW] at hS; try simp only [putW]) | (refine storeAll hS rfl rfl rfl rfl ?_ ?_ ?_ ?_; rfl; (focus (simp [Value.oneCell']; done)); rfl; clear hS; intro w hS; try simp only [putW]) | (refine storeN hS rfl rfl rfl rfl ?_ ?_ ?_ ?_; rfl; (focus (simp [Value.oneCell']; done)); (focus (simp; done)); clear hS; intro w hS; simp at hS; try simp only [putW]) | (refine alloc hS rfl rfl ?_; clear hS; intro mb w hS; simp only [putW]) | (refine box1 hS rfl rfl rfl rfl ?_; clear hS; intro mb w hS; try simp only [evW, putW] at hS; simp only [putW]) | (refine boxN hS rfl rfl rfl ?_; clear hS; intro mb w hS; simp only [putW])); go_end0; exact ⟨v', rfl, by rw [HT.out]; exact hS.conv⟩)); (focus (refine wpOp_of_list rfl ?_; go_wp2_with (first | (refine load1 hS rfl rfl rfl rfl ?_; simp only [putW]) | (refine loadAll hS rfl rfl rfl ?_ ?_; rfl; simp only [putW]) | (refine loadPart hS rfl rfl rfl ?_ rfl ?_; rfl; simp only [putW]) | (refine store1 hS rfl rfl rfl rfl rfl ?_ ?_; (focus (simp; done)); clear hS; intro w hS; simp only [evW, putW] at hS; try simp only [putW]) | (refine storeAll hS rfl rfl rfl rfl ?_ ?_ ?_ ?_; rfl; (focus (simp [Value.oneCell']; done)); rfl; clear hS; intro w hS; try simp only [putW]) | (refine storeN hS rfl rfl rfl rfl ?_ ?_ ?_ ?_; rfl; (focus (simp [Value.oneCell']; done)); (focus (simp; done)); clear hS; intro w hS; simp at hS; try simp only [putW]) | (refine alloc hS rfl rfl ?_; clear hS; intro mb w hS; simp only [putW]) | (refine box1 hS rfl rfl rfl rfl ?_; clear hS; intro mb w hS; try simp only [evW, putW] at hS; simp only [putW]) | (refine boxN hS rfl rfl rfl ?_; clear hS; intro mb w hS; simp only [putW])); refine ⟨rfl, hS.conv, ?_⟩; (first | (refine takeIf (i := 11) rfl (by kernel_rfl) (fun _ _ _ h => h) (yMove rfl rfl rfl) hS.conv ?_; simp only [evW, putW]) | (refine takeIf (i := 11) rfl (by kernel_rfl) (fun _ _ _ h => h) (yLoad1 (fun _ h => h) rfl rfl rfl rfl) hS.conv ?_; simp only [putW]) | (refine takeIf (i := 11) rfl (by kernel_rfl) (fun _ _ _ h => h) (yLoadAll (fun _ h => h) rfl rfl rfl rfl) hS.conv ?_; simp only [putW]) | (apply takeIf (i := 11) rfl (by kernel_rfl) (fun _ _ _ h => h); (focus (apply yRun rfl; intro w; first | (go_simp; done) | (go_simp; rfl))); (focus (exact hS.conv)); simp only [putW])); refine wpAnyH_all (rs := [4, 12]) (by kernel_rfl) (by simp) ?_; intro i hi; simp only [List.mem_cons, List.not_mem_nil, or_false] at hi; rcases hi with rfl | rfl; (focus (refine wpOp_of_list rfl ?_; go_wp2_with (first | (refine load1 hS rfl rfl rfl rfl ?_; simp only [putW]) | (refine loadAll hS rfl rfl rfl ?_ ?_; rfl; simp only [putW]) | (refine loadPart hS rfl rfl rfl ?_ rfl ?_; rfl; simp only [putW]) | (refine store1 hS rfl rfl rfl rfl rfl ?_ ?_; (focus (simp; done)); clear hS; intro w hS; simp only [evW, putW] at hS; try simp only [putW]) | (refine storeAll hS rfl rfl rfl rfl ?_ ?_ ?_ ?_; rfl; (focus (simp [Value.oneCell']; done)); rfl; clear hS; intro w hS; try simp only [putW]) | (refine storeN hS rfl rfl rfl rfl ?_ ?_ ?_ ?_; rfl; (focus (simp [Value.oneCell']; done)); (focus (simp; done)); clear hS; intro w hS; simp at hS; try simp only [putW]) | (refine alloc hS rfl rfl ?_; clear hS; intro mb w hS; simp only [putW]) | (refine box1 hS rfl rfl rfl rfl ?_; clear hS; intro mb w hS; try simp only [evW, putW] at hS; simp only [putW]) | (refine boxN hS rfl rfl rfl ?_; clear hS; intro mb w hS; simp only [putW])); refine ⟨rfl, hS.conv, ?_⟩; refine wpAnyH_all (rs := [12]) (by kernel_rfl) (by simp) ?_; intro i hi; simp only [List.mem_cons, List.not_mem_nil, or_false] at hi; subst hi; refine wpOp_of_list rfl ?_; go_wp2_with (first | (refine buildSlice1 (c := #[.int .i64 key, .float .f64 (sumR r0 b), .int .i64 (n1 : Int)]) hS rfl rfl rfl ?_ ?_ ?_ ?_; rfl; rfl; rfl; clear hS; intro mb w hS; simp only [putW]) | (refine load1 hS rfl rfl rfl rfl ?_; simp only [putW]) | (refine loadAll hS rfl rfl rfl ?_ ?_; rfl; simp only [putW]) | (refine loadPart hS rfl rfl rfl ?_ rfl ?_; rfl; simp only [putW]) | (refine store1 hS rfl rfl rfl rfl rfl ?_ ?_; (focus (simp; done)); clear hS; intro w hS; simp only [evW, putW] at hS; try simp only [putW]) | (refine storeAll hS rfl rfl rfl rfl ?_ ?_ ?_ ?_; rfl; (focus (simp [Value.oneCell']; done)); rfl; clear hS; intro w hS; try simp only [putW]) | (refine storeN hS rfl rfl rfl rfl ?_ ?_ ?_ ?_; rfl; (focus (simp [Value.oneCell']; done)); (focus (simp; done)); clear hS; intro w hS; simp at hS; try simp only [putW]) | (refine alloc hS rfl rfl ?_; clear hS; intro mb w hS; simp only [putW]) | (refine box1 hS rfl rfl rfl rfl ?_; clear hS; intro mb w hS; try simp only [evW, putW] at hS; simp only [putW]) | (refine boxN hS rfl rfl rfl ?_; clear hS; intro mb w hS; simp only [putW])); refine ⟨rfl, hS.conv, ?_⟩; refine wpAnyH_all (rs := [13]) (by kernel_rfl) (by simp) ?_; intro i hi; simp only [List.mem_cons, List.not_mem_nil, or_false] at hi; subst hi; refine wpOp_of_list rfl ?_; go_wp2_with (first | (refine append1 (f := sp3F) hS rfl rfl (.slice q1 m1 c1) rfl rfl (key, sumR r0 b, (n1 : Int)) ?_ ?_ ?_ ?_ ?_ ?_; rfl; (focus (simp [sp3F, Value.oneCell']; done)); rfl; (focus (rw [HM.out]; simp [maxLen]; omega)); (focus (rw [HM.out]; omega)); clear hS; intro v' w hS; simp only [putW]) | (refine load1 hS rfl rfl rfl rfl ?_; simp only [putW]) | (refine loadAll hS rfl rfl rfl ?_ ?_; rfl; simp only [putW]) | (refine loadPart hS rfl rfl rfl ?_ rfl ?_; rfl; simp only [putW]) | (refine store1 hS rfl rfl rfl rfl rfl ?_ ?_; (focus (simp; done)); clear hS; intro w hS; simp only [evW, putW] at hS; try simp only [putW]) | (refine storeAll hS rfl rfl rfl rfl ?_ ?_ ?_ ?_; rfl; (focus (simp [Value.oneCell']; done)); rfl; clear hS; intro w hS; try simp only [putW]) | (refine storeN hS rfl rfl rfl rfl ?_ ?_ ?_ ?_; rfl; (focus (simp [Value.oneCell']; done)); (focus (simp; done)); clear hS; intro w hS; simp at hS; try simp only [putW]) | (refine alloc hS rfl rfl ?_; clear hS; intro mb w hS; simp only [putW]) | (refine box1 hS rfl rfl rfl rfl ?_; clear hS; intro mb w hS; try simp only [evW, putW] at hS; simp only [putW]) | (refine boxN hS rfl rfl rfl ?_; clear hS; intro mb w hS; simp only [putW])); refine ⟨rfl, hS.conv, ?_⟩; (first | (refine takeIf (i := 14) rfl (by kernel_rfl) (fun _ _ _ h => h) (yMove rfl rfl rfl) hS.conv ?_; simp only [evW, putW]) | (refine takeIf (i := 14) rfl (by kernel_rfl) (fun _ _ _ h => h) (yLoad1 (fun _ h => h) rfl rfl rfl rfl) hS.conv ?_; simp only [putW]) | (refine takeIf (i := 14) rfl (by kernel_rfl) (fun _ _ _ h => h) (yLoadAll (fun _ h => h) rfl rfl rfl rfl) hS.conv ?_; simp only [putW]) | (apply takeIf (i := 14) rfl (by kernel_rfl) (fun _ _ _ h => h); (focus (apply yRun rfl; intro w; first | (go_simp; done) | (go_simp; rfl))); (focus (exact hS.conv)); simp only [putW])); (first | (refine takeIf (i := 15) rfl (by kernel_rfl) (fun _ _ _ h => h) (yMove rfl rfl rfl) hS.conv ?_; simp only [evW, putW]) | (refine takeIf (i := 15) rfl (by kernel_rfl) (fun _ _ _ h => h) (yLoad1 (fun _ h => h) rfl rfl rfl rfl) hS.conv ?_; simp only [putW]) | (refine takeIf (i := 15) rfl (by kernel_rfl) (fun _ _ _ h => h) (yLoadAll (fun _ h => h) rfl rfl rfl rfl) hS.conv ?_; simp only [putW]) | (apply takeIf (i := 15) rfl (by kernel_rfl) (fun _ _ _ h => h); (focus (apply yRun rfl; intro w; first | (go_simp; done) | (go_simp; rfl))); (focus (exact hS.conv)); simp only [putW])); refine wpAnyH_all (rs := [16]) (by kernel_rfl) (by simp) ?_; intro i hi; simp only [List.mem_cons, List.not_mem_nil, or_false] at hi; subst hi; refine wpOp_of_list rfl ?_; go_wp2_with (first | (have hv1 : v'.oneCell' = true := Sat.slCell (α := Sp3) hS; refine store1 (v := v') (b := x) (c := xC a0 a1 a2 a3 n1 (.slice q1 m1 c1)) hS rfl rfl rfl rfl hv1 (by simp) ?_; clear hS; intro w hS; rw [cell6] at hS; simp only [putW]) | (refine load1 hS rfl rfl rfl rfl ?_; simp only [putW]) | (refine loadAll hS rfl rfl rfl ?_ ?_; rfl; simp only [putW]) | (refine loadPart hS rfl rfl rfl ?_ rfl ?_; rfl; simp only [putW]) | (refine store1 hS rfl rfl rfl rfl rfl ?_ ?_; (focus (simp; done)); clear hS; intro w hS; simp only [evW, putW] at hS; try simp only [putW]) | (refine storeAll hS rfl rfl rfl rfl ?_ ?_ ?_ ?_; rfl; (focus (simp [Value.oneCell']; done)); rfl; clear hS; intro w hS; try simp only [putW]) | (refine storeN hS rfl rfl rfl rfl ?_ ?_ ?_ ?_; rfl; (focus (simp [Value.oneCell']; done)); (focus (simp; done)); clear hS; intro w hS; simp at hS; try simp only [putW]) | (refine alloc hS rfl rfl ?_; clear hS; intro mb w hS; simp only [putW]) | (refine box1 hS rfl rfl rfl rfl ?_; clear hS; intro mb w hS; try simp only [evW, putW] at hS; simp only [putW]) | (refine boxN hS rfl rfl rfl ?_; clear hS; intro mb w hS; simp only [putW])); refine ⟨rfl, hS.conv, ?_⟩; refine wpAnyH_done (by kernel_rfl) ?_ _; go_wp2_with (first | (refine load1 hS rfl rfl rfl rfl ?_; simp only [putW]) | (refine loadAll hS rfl rfl rfl ?_ ?_; rfl; simp only [putW]) | (refine loadPart hS rfl rfl rfl ?_ rfl ?_; rfl; simp only [putW]) | (refine store1 hS rfl rfl rfl rfl rfl ?_ ?_; (focus (simp; done)); clear hS; intro w hS; simp only [evW, putW] at hS; try simp only [putW]) | (refine storeAll hS rfl rfl rfl rfl ?_ ?_ ?_ ?_; rfl; (focus (simp [Value.oneCell']; done)); rfl; clear hS; intro w hS; try simp only [putW]) | (refine storeN hS rfl rfl rfl rfl ?_ ?_ ?_ ?_; rfl; (focus (simp [Value.oneCell']; done)); (focus (simp; done)); clear hS; intro w hS; simp at hS; try simp only [putW]) | (refine alloc hS rfl rfl ?_; clear hS; intro mb w hS; simp only [putW]) | (refine box1 hS rfl rfl rfl rfl ?_; clear hS; intro mb w hS; try simp only [evW, putW] at hS; simp only [putW]) | (refine boxN hS rfl rfl rfl ?_; clear hS; intro mb w hS; simp only [putW])); go_end0; exact ⟨v', rfl, by rw [HT.out]; exact hS.conv⟩)); (focus (refine wpOp_of_list rfl ?_; go_wp2_with (first | (refine buildSlice1 (c := #[.int .i64 key, .float .f64 (sumR r0 b), .int .i64 (n1 : Int)]) hS rfl rfl rfl ?_ ?_ ?_ ?_; rfl; rfl; rfl; clear hS; intro mb w hS; simp only [putW]) | (refine load1 hS rfl rfl rfl rfl ?_; simp only [putW]) | (refine loadAll hS rfl rfl rfl ?_ ?_; rfl; simp only [putW]) | (refine loadPart hS rfl rfl rfl ?_ rfl ?_; rfl; simp only [putW]) | (refine store1 hS rfl rfl rfl rfl rfl ?_ ?_; (focus (simp; done)); clear hS; intro w hS; simp only [evW, putW] at hS; try simp only [putW]) | (refine storeAll hS rfl rfl rfl rfl ?_ ?_ ?_ ?_; rfl; (focus (simp [Value.oneCell']; done)); rfl; clear hS; intro w hS; try simp only [putW]) | (refine storeN hS rfl rfl rfl rfl ?_ ?_ ?_ ?_; rfl; (focus (simp [Value.oneCell']; done)); (focus (simp; done)); clear hS; intro w hS; simp at hS; try simp only [putW]) | (refine alloc hS rfl rfl ?_; clear hS; intro mb w hS; simp only [putW]) | (refine box1 hS rfl rfl rfl rfl ?_; clear hS; intro mb w hS; try simp only [evW, putW] at hS; simp only [putW]) | (refine boxN hS rfl rfl rfl ?_; clear hS; intro mb w hS; simp only [putW])); refine ⟨rfl, hS.conv, ?_⟩; refine wpAnyH_all (rs := [4]) (by kernel_rfl) (by simp) ?_; intro i hi; simp only [List.mem_cons, List.not_mem_nil, or_false] at hi; subst hi; refine wpOp_of_list rfl ?_; go_wp2_with (first | (refine load1 hS rfl rfl rfl rfl ?_; simp only [putW]) | (refine loadAll hS rfl rfl rfl ?_ ?_; rfl; simp only [putW]) | (refine loadPart hS rfl rfl rfl ?_ rfl ?_; rfl; simp only [putW]) | (refine store1 hS rfl rfl rfl rfl rfl ?_ ?_; (focus (simp; done)); clear hS; intro w hS; simp only [evW, putW] at hS; try simp only [putW]) | (refine storeAll hS rfl rfl rfl rfl ?_ ?_ ?_ ?_; rfl; (focus (simp [Value.oneCell']; done)); rfl; clear hS; intro w hS; try simp only [putW]) | (refine storeN hS rfl rfl rfl rfl ?_ ?_ ?_ ?_; rfl; (focus (simp [Value.oneCell']; done)); (focus (simp; done)); clear hS; intro w hS; simp at hS; try simp only [putW]) | (refine alloc hS rfl rfl ?_; clear hS; intro mb w hS; simp only [putW]) | (refine box1 hS rfl rfl rfl rfl ?_; clear hS; intro mb w hS; try simp only [evW, putW] at hS; simp only [putW]) | (refine boxN hS rfl rfl rfl ?_; clear hS; intro mb w hS; simp only [putW])); refine ⟨rfl, hS.conv, ?_⟩; refine wpAnyH_all (rs := [13]) (by kernel_rfl) (by simp) ?_; intro i hi; simp only [List.mem_cons, List.not_mem_nil, or_false] at hi; subst hi; refine wpOp_of_list rfl ?_; go_wp2_with (first | (refine append1 (f := sp3F) hS rfl rfl (.slice q1 m1 c1) rfl rfl (key, sumR r0 b, (n1 : Int)) ?_ ?_ ?_ ?_ ?_ ?_; rfl; (focus (simp [sp3F, Value.oneCell']; done)); rfl; (focus (rw [HM.out]; simp [maxLen]; omega)); (focus (rw [HM.out]; omega)); clear hS; intro v' w hS; simp only [putW]) | (refine load1 hS rfl rfl rfl rfl ?_; simp only [putW]) | (refine loadAll hS rfl rfl rfl ?_ ?_; rfl; simp only [putW]) | (refine loadPart hS rfl rfl rfl ?_ rfl ?_; rfl; simp only [putW]) | (refine store1 hS rfl rfl rfl rfl rfl ?_ ?_; (focus (simp; done)); clear hS; intro w hS; simp only [evW, putW] at hS; try simp only [putW]) | (refine storeAll hS rfl rfl rfl rfl ?_ ?_ ?_ ?_; rfl; (focus (simp [Value.oneCell']; done)); rfl; clear hS; intro w hS; try simp only [putW]) | (refine storeN hS rfl rfl rfl rfl ?_ ?_ ?_ ?_; rfl; (focus (simp [Value.oneCell']; done)); (focus (simp; done)); clear hS; intro w hS; simp at hS; try simp only [putW]) | (refine alloc hS rfl rfl ?_; clear hS; intro mb w hS; simp only [putW]) | (refine box1 hS rfl rfl rfl rfl ?_; clear hS; intro mb w hS; try simp only [evW, putW] at hS; simp only [putW]) | (refine boxN hS rfl rfl rfl ?_; clear hS; intro mb w hS; simp only [putW])); refine ⟨rfl, hS.conv, ?_⟩; (first | (refine takeIf (i := 14) rfl (by kernel_rfl) (fun _ _ _ h => h) (yMove rfl rfl rfl) hS.conv ?_; simp only [evW, putW]) | (refine takeIf (i := 14) rfl (by kernel_rfl) (fun _ _ _ h => h) (yLoad1 (fun _ h => h) rfl rfl rfl rfl) hS.conv ?_; simp only [putW]) | (refine takeIf (i := 14) rfl (by kernel_rfl) (fun _ _ _ h => h) (yLoadAll (fun _ h => h) rfl rfl rfl rfl) hS.conv ?_; simp only [putW]) | (apply takeIf (i := 14) rfl (by kernel_rfl) (fun _ _ _ h => h); (focus (apply yRun rfl; intro w; first | (go_simp; done) | (go_simp; rfl))); (focus (exact hS.conv)); simp only [putW])); (first | (refine takeIf (i := 15) rfl (by kernel_rfl) (fun _ _ _ h => h) (yMove rfl rfl rfl) hS.conv ?_; simp only [evW, putW]) | (refine takeIf (i := 15) rfl (by kernel_rfl) (fun _ _ _ h => h) (yLoad1 (fun _ h => h) rfl rfl rfl rfl) hS.conv ?_; simp only [putW]) | (refine takeIf (i := 15) rfl (by kernel_rfl) (fun _ _ _ h => h) (yLoadAll (fun _ h => h) rfl rfl rfl rfl) hS.conv ?_; simp only [putW]) | (apply takeIf (i := 15) rfl (by kernel_rfl) (fun _ _ _ h => h); (focus (apply yRun rfl; intro w; first | (go_simp; done) | (go_simp; rfl))); (focus (exact hS.conv)); simp only [putW])); refine wpAnyH_all (rs := [16]) (by kernel_rfl) (by simp) ?_; intro i hi; simp only [List.mem_cons, List.not_mem_nil, or_false] at hi; subst hi; refine wpOp_of_list rfl ?_; go_wp2_with (first | (have hv1 : v'.oneCell' = true := Sat.slCell (α := Sp3) hS; refine store1 (v := v') (b := x) (c := xC a0 a1 a2 a3 n1 (.slice q1 m1 c1)) hS rfl rfl rfl rfl hv1 (by simp) ?_; clear hS; intro w hS; rw [cell6] at hS; simp only [putW]) | (refine load1 hS rfl rfl rfl rfl ?_; simp only [putW]) | (refine loadAll hS rfl rfl rfl ?_ ?_; rfl; simp only [putW]) | (refine loadPart hS rfl rfl rfl ?_ rfl ?_; rfl; simp only [putW]) | (refine store1 hS rfl rfl rfl rfl rfl ?_ ?_; (focus (simp; done)); clear hS; intro w hS; simp only [evW, putW] at hS; try simp only [putW]) | (refine storeAll hS rfl rfl rfl rfl ?_ ?_ ?_ ?_; rfl; (focus (simp [Value.oneCell']; done)); rfl; clear hS; intro w hS; try simp only [putW]) | (refine storeN hS rfl rfl rfl rfl ?_ ?_ ?_ ?_; rfl; (focus (simp [Value.oneCell']; done)); (focus (simp; done)); clear hS; intro w hS; simp at hS; try simp only [putW]) | (refine alloc hS rfl rfl ?_; clear hS; intro mb w hS; simp only [putW]) | (refine box1 hS rfl rfl rfl rfl ?_; clear hS; intro mb w hS; try simp only [evW, putW] at hS; simp only [putW]) | (refine boxN hS rfl rfl rfl ?_; clear hS; intro mb w hS; simp only [putW])); refine ⟨rfl, hS.conv, ?_⟩; refine wpAnyH_done (by kernel_rfl) ?_ _; go_wp2_with (first | (refine load1 hS rfl rfl rfl rfl ?_; simp only [putW]) | (refine loadAll hS rfl rfl rfl ?_ ?_; rfl; simp only [putW]) | (refine loadPart hS rfl rfl rfl ?_ rfl ?_; rfl; simp only [putW]) | (refine store1 hS rfl rfl rfl rfl rfl ?_ ?_; (focus (simp; done)); clear hS; intro w hS; simp only [evW, putW] at hS; try simp only [putW]) | (refine storeAll hS rfl rfl rfl rfl ?_ ?_ ?_ ?_; rfl; (focus (simp [Value.oneCell']; done)); rfl; clear hS; intro w hS; try simp only [putW]) | (refine storeN hS rfl rfl rfl rfl ?_ ?_ ?_ ?_; rfl; (focus (simp [Value.oneCell']; done)); (focus (simp; done)); clear hS; intro w hS; simp at hS; try simp only [putW]) | (refine alloc hS rfl rfl ?_; clear hS; intro mb w hS; simp only [putW]) | (refine box1 hS rfl rfl rfl rfl ?_; clear hS; intro mb w hS; try simp only [evW, putW] at hS; simp only [putW]) | (refine boxN hS rfl rfl rfl ?_; clear hS; intro mb w hS; simp only [putW])); go_end0; exact ⟨v', rfl, by rw [HT.out]; exact hS.conv⟩)))))
end
end Go.Proofs.Ytlkoclalcfeniaa
