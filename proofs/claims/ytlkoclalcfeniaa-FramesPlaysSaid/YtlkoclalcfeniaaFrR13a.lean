/-
  thimbleref13: Left, At, Pinned, Victim, without.
-/
import Derived.Test.YtlkoclalcfeniaaFrRB
import Derived.Test.YtlkoclalcfeniaaFrShare
set_option linter.unusedSimpArgs false
set_option linter.unusedVariables false
namespace Go.Proofs.Ytlkoclalcfeniaa
open Go.RowKit Go.Proofs.Ytlkoclalcfeniaa.Sl Go.Proofs.Ytlkoclalcfeniaa.Jp

/-- A frame of the document's: its key, its slice, its bytes, its mark. -/
abbrev Fx := Int × Value × List Int × Bool
def fxF (x : Fx) : List Value := [.int .i64 x.1, x.2.1, .bool x.2.2.2]
def tw2F (p : Int × Int) : List Value := [.int .i64 p.1, .int .i64 p.2]
abbrev T7 := Value × Value × Value × Value × Value × Value × Value
def t7F (a : T7) : List Value := [a.1, a.2.1, a.2.2.1, a.2.2.2.1, a.2.2.2.2.1, a.2.2.2.2.2.1, a.2.2.2.2.2.2]
abbrev t7 (most : Int) (vL vP vS : Value) (now : Nat) (vH : Value) : T7 := (.int .i64 most, vL, vP, vS, .int .i64 16, .int .i64 (now : Int), vH)
/-- The document's table. -/
structure X13 where
  most : Int
  l : List Fx
  pins : List (Int × Int)
  shares : List (Int × Int)
  now : Nat
  heat : List Sp3
structure XAt3 (w : World) (X : X13) (x : Nat) (vL vP vS vH : Value) : Prop where
  t : BAt w 7 t7F (fun _ => True) [t7 X.most vL vP vS X.now vH] x 0
  l : BSl w 3 fxF (fun _ => True) X.l vL
  p : BSl w 2 tw2F (fun _ => True) X.pins vP
  s : BSl w 2 tw2F (fun _ => True) X.shares vS
  h : BSl w 3 sp3F (fun _ => True) X.heat vH
def atX (L : List Fx) (key : Int) (k : Nat) : Int := match (L.drop k).findIdx? (fun x => x.1 == key) with
  | some i => k + i
  | none => -1
theorem atX_end {L : List Fx} {key : Int} {k : Nat} (h : L.length ≤ k) : atX L key k = -1 := by
  unfold atX; rw [List.drop_eq_nil_of_le h]; rfl
theorem atX_hit {L : List Fx} {key : Int} {k : Nat} {s : Fx} (hs : L[k]? = some s) (h : s.1 = key) : atX L key k = k := by
  unfold atX; rw [drop_at hs, List.findIdx?_cons, show (s.1 == key) = true by simpa using h]; simp
theorem atX_miss {L : List Fx} {key : Int} {k : Nat} {s : Fx} (hs : L[k]? = some s) (h : ¬ s.1 = key) : atX L key k = atX L key (k + 1) := by
  unfold atX; rw [drop_at hs, List.findIdx?_cons, show (s.1 == key) = false by simpa using h]
  cases (L.drop (k + 1)).findIdx? (fun x => x.1 == key) with
  | none => simp
  | some i => simp; omega
def pinX (P : List (Int × Int)) (key : Int) : Bool := P.any fun p => p.2 == key
theorem pinX_cons (p : Int × Int) (P : List (Int × Int)) (key : Int) : pinX (p :: P) key = if p.2 = key then true else pinX P key := by
  unfold pinX
  by_cases h : p.2 = key <;> simp [h]
def looseX (L : List Fx) (P : List (Int × Int)) : List Int := (L.filter fun x => !pinX P x.1).map (·.1)
theorem looseX_next {L : List Fx} {P : List (Int × Int)} {j : Nat} {x : Fx} (hx : L[j]? = some x) : looseX (L.take (j + 1)) P = if pinX P x.1 = true then looseX (L.take j) P else looseX (L.take j) P ++ [x.1] := by
  rw [List.take_add_one, hx]
  unfold looseX
  rw [List.filter_append, List.map_append]
  by_cases h : pinX P x.1 = true
  · simp [h]
  · simp [h]
theorem looseX_le (L : List Fx) (P : List (Int × Int)) (k : Nat) : (looseX (L.take k) P).length ≤ L.length := by
  unfold looseX
  rw [List.length_map]
  refine Nat.le_trans (List.length_filter_le _ _) ?_
  rw [List.length_take]
  omega
def woT (L : List (Int × Int)) (task : Int) : List (Int × Int) := L.filter fun p => decide (p.1 ≠ task)
theorem woT_next {L : List (Int × Int)} {task : Int} {j : Nat} {x : Int × Int} (hx : L[j]? = some x) : woT (L.take (j + 1)) task = if x.1 = task then woT (L.take j) task else woT (L.take j) task ++ [x] := by
  rw [List.take_add_one, hx]
  unfold woT
  rw [List.filter_append]
  by_cases h : x.1 = task <;> simp [h]
theorem woT_le (L : List (Int × Int)) (task : Int) (k : Nat) : (woT (L.take k) task).length ≤ L.length := by
  refine Nat.le_trans (List.length_filter_le _ _) ?_
  rw [List.length_take]
  omega
section
variable {w0 : World} {X : X13} {x : Nat} {vL vP vS vH : Value} {task key : Int}
set_option maxRecDepth 100000 in
set_option maxHeartbeats 4000000 in
theorem refAt0 (hX : XAt3 w0 X x vL vP vS vH) : Calls Try.prog 40 #[.pointer (some ⟨x, 0, none⟩), .int .i64 key] w0 fun e w' => e = .returned (.int .i64 (atX X.l key 0)) ∧ Sat w0 [] w' := by
  obtain ⟨hT, hL, -, -, -⟩ := hX
  obtain ⟨ph, ch, rfl, hl, hat⟩ := hL.at
  obtain ⟨n, hn⟩ : ∃ n, X.l.length = n := ⟨_, rfl⟩
  obtain ⟨H, hHh⟩ : ∃ H, atX X.l key 0 = H := ⟨_, rfl⟩
  rw [hn] at hl hT
  rw [hHh]
  have HN : Bx _ := ⟨hn⟩
  have HH : Bx _ := ⟨hHh⟩
  have HAT : Bx _ := ⟨hat⟩
  clear hn hHh hat hL
  have hS := Sat.refl w0
  go_enter Try.func40, Try.ntmps40
  go_wp2_with (first | (refine load1 hS rfl rfl rfl rfl ?_; simp only [putW]) | (refine loadAll hS rfl rfl rfl ?_ ?_; rfl; simp only [putW]) | (refine loadPart hS rfl rfl rfl ?_ rfl ?_; rfl; simp only [putW]) | (refine store1 hS rfl rfl rfl rfl rfl ?_ ?_; (focus (simp; done)); clear hS; intro w hS; simp only [evW, putW] at hS; try simp only [putW]) | (refine storeAll hS rfl rfl rfl rfl ?_ ?_ ?_ ?_; rfl; (focus (simp [Value.oneCell']; done)); rfl; clear hS; intro w hS; try simp only [putW]) | (refine storeN hS rfl rfl rfl rfl ?_ ?_ ?_ ?_; rfl; (focus (simp [Value.oneCell']; done)); (focus (simp; done)); clear hS; intro w hS; simp at hS; try simp only [putW]) | (refine alloc hS rfl rfl ?_; clear hS; intro mb w hS; simp only [putW]) | (refine box1 hS rfl rfl rfl rfl ?_; clear hS; intro mb w hS; try simp only [evW, putW] at hS; simp only [putW]) | (refine boxN hS rfl rfl rfl ?_; clear hS; intro mb w hS; simp only [putW]))
  go_loopg [5] n (fun g i wr => ∃ k : Nat, k + g = n ∧ i = .int .i64 k ∧ Bx (atX X.l key k = H) ∧ Sat w0 [] wr)
  case atStart => exact ⟨0, by omega, rfl, HH, hS⟩
  case round =>
    clear hS HH
    obtain ⟨k, hkn, rfl, HK, hS⟩ := hrel
    cases gk with
    | zero =>
      have e : k = n := by omega
      subst e
      have e0 : H = -1 := by rw [← HK.out]; exact atX_end (by rw [HN.out]; exact Nat.le_refl _)
      subst e0
      clear hkn
      go_wp2_with (first | (refine loadB (f := t7F) hS rfl rfl rfl hT 0 1 ?_ rfl rfl ?_; omega; simp only [putW]) | (refine load1 hS rfl rfl rfl rfl ?_; simp only [putW]) | (refine loadAll hS rfl rfl rfl ?_ ?_; rfl; simp only [putW]) | (refine loadPart hS rfl rfl rfl ?_ rfl ?_; rfl; simp only [putW]) | (refine store1 hS rfl rfl rfl rfl rfl ?_ ?_; (focus (simp; done)); clear hS; intro w hS; simp only [evW, putW] at hS; try simp only [putW]) | (refine storeAll hS rfl rfl rfl rfl ?_ ?_ ?_ ?_; rfl; (focus (simp [Value.oneCell']; done)); rfl; clear hS; intro w hS; try simp only [putW]) | (refine storeN hS rfl rfl rfl rfl ?_ ?_ ?_ ?_; rfl; (focus (simp [Value.oneCell']; done)); (focus (simp; done)); clear hS; intro w hS; simp at hS; try simp only [putW]) | (refine alloc hS rfl rfl ?_; clear hS; intro mb w hS; simp only [putW]) | (refine box1 hS rfl rfl rfl rfl ?_; clear hS; intro mb w hS; try simp only [evW, putW] at hS; simp only [putW]) | (refine boxN hS rfl rfl rfl ?_; clear hS; intro mb w hS; simp only [putW]))
      go_ret
      exact ⟨rfl, hS⟩
    | succ g =>
      have hlt : k < n := by omega
      have d1 : decide ((k : Int) < (n : Int)) = true := decide_eq_true (by omega)
      have d1n : decide (k < n) = true := decide_eq_true hlt
      obtain ⟨u, hu⟩ : ∃ y, X.l[k]? = some y := ⟨_, List.getElem?_eq_getElem (by rw [HN.out]; exact hlt)⟩
      obtain ⟨b, off, hpa, hBA⟩ := HAT.out (fun h => by rw [h] at hu; cases hu)
      subst hpa
      have hm : ¬ u.1 = key → atX X.l key (k + 1) = H := fun h => by rw [← HK.out, atX_miss hu h]
      have hh : u.1 = key → H = (k : Int) := fun h => by rw [← HK.out, atX_hit hu h]
      obtain ⟨tk, va, A, bb⟩ := u
      have HU : Bx _ := ⟨hu⟩
      by_cases e1 : tk = key
      · have e0 : H = (k : Int) := hh e1
        subst e1
        subst e0
        clear hu hm hh HK
        go_wp2_with (first | (refine loadB (f := t7F) hS rfl rfl rfl hT 0 1 ?_ rfl rfl ?_; omega; simp only [putW]) | (refine loadB (f := fxF) hS rfl rfl rfl hBA k 0 ?_ HU.out rfl ?_; omega; simp only [putW]) | (refine load1 hS rfl rfl rfl rfl ?_; simp only [putW]) | (refine loadAll hS rfl rfl rfl ?_ ?_; rfl; simp only [putW]) | (refine loadPart hS rfl rfl rfl ?_ rfl ?_; rfl; simp only [putW]) | (refine store1 hS rfl rfl rfl rfl rfl ?_ ?_; (focus (simp; done)); clear hS; intro w hS; simp only [evW, putW] at hS; try simp only [putW]) | (refine storeAll hS rfl rfl rfl rfl ?_ ?_ ?_ ?_; rfl; (focus (simp [Value.oneCell']; done)); rfl; clear hS; intro w hS; try simp only [putW]) | (refine storeN hS rfl rfl rfl rfl ?_ ?_ ?_ ?_; rfl; (focus (simp [Value.oneCell']; done)); (focus (simp; done)); clear hS; intro w hS; simp at hS; try simp only [putW]) | (refine alloc hS rfl rfl ?_; clear hS; intro mb w hS; simp only [putW]) | (refine box1 hS rfl rfl rfl rfl ?_; clear hS; intro mb w hS; try simp only [evW, putW] at hS; simp only [putW]) | (refine boxN hS rfl rfl rfl ?_; clear hS; intro mb w hS; simp only [putW]))
        go_ret
        exact ⟨rfl, hS⟩
      · have b1 : (tk == key) = false := by simpa using e1
        have HK3 : Bx (atX X.l key (k + 1) = H) := ⟨hm e1⟩
        clear hu hm hh e1 HK
        go_wp2_with (first | (refine loadB (f := t7F) hS rfl rfl rfl hT 0 1 ?_ rfl rfl ?_; omega; simp only [putW]) | (refine loadB (f := fxF) hS rfl rfl rfl hBA k 0 ?_ HU.out rfl ?_; omega; simp only [putW]) | (refine load1 hS rfl rfl rfl rfl ?_; simp only [putW]) | (refine loadAll hS rfl rfl rfl ?_ ?_; rfl; simp only [putW]) | (refine loadPart hS rfl rfl rfl ?_ rfl ?_; rfl; simp only [putW]) | (refine store1 hS rfl rfl rfl rfl rfl ?_ ?_; (focus (simp; done)); clear hS; intro w hS; simp only [evW, putW] at hS; try simp only [putW]) | (refine storeAll hS rfl rfl rfl rfl ?_ ?_ ?_ ?_; rfl; (focus (simp [Value.oneCell']; done)); rfl; clear hS; intro w hS; try simp only [putW]) | (refine storeN hS rfl rfl rfl rfl ?_ ?_ ?_ ?_; rfl; (focus (simp [Value.oneCell']; done)); (focus (simp; done)); clear hS; intro w hS; simp at hS; try simp only [putW]) | (refine alloc hS rfl rfl ?_; clear hS; intro mb w hS; simp only [putW]) | (refine box1 hS rfl rfl rfl rfl ?_; clear hS; intro mb w hS; try simp only [evW, putW] at hS; simp only [putW]) | (refine boxN hS rfl rfl rfl ?_; clear hS; intro mb w hS; simp only [putW]))
        go_roundg g
        case measure => omega
        case rel => exact ⟨k + 1, by omega, by go_num, HK3, hS⟩
set_option maxRecDepth 100000 in
set_option maxHeartbeats 4000000 in
theorem refPinned0 (hX : XAt3 w0 X x vL vP vS vH) : Calls Try.prog 52 #[.pointer (some ⟨x, 0, none⟩), .int .i64 key] w0 fun e w' => e = .returned (.bool (pinX X.pins key)) ∧ Sat w0 [] w' := by
  obtain ⟨hT, -, hL, -, -⟩ := hX
  obtain ⟨ph, ch, rfl, hl, hat⟩ := hL.at
  obtain ⟨n, hn⟩ : ∃ n, X.pins.length = n := ⟨_, rfl⟩
  obtain ⟨H, hHh⟩ : ∃ H, pinX X.pins key = H := ⟨_, rfl⟩
  rw [hn] at hl hT
  rw [hHh]
  have HN : Bx _ := ⟨hn⟩
  have HH : Bx _ := ⟨hHh⟩
  have HAT : Bx _ := ⟨hat⟩
  clear hn hHh hat hL
  have hS := Sat.refl w0
  go_enter Try.func52, Try.ntmps52
  go_wp2_with (first | (refine load1 hS rfl rfl rfl rfl ?_; simp only [putW]) | (refine loadAll hS rfl rfl rfl ?_ ?_; rfl; simp only [putW]) | (refine loadPart hS rfl rfl rfl ?_ rfl ?_; rfl; simp only [putW]) | (refine store1 hS rfl rfl rfl rfl rfl ?_ ?_; (focus (simp; done)); clear hS; intro w hS; simp only [evW, putW] at hS; try simp only [putW]) | (refine storeAll hS rfl rfl rfl rfl ?_ ?_ ?_ ?_; rfl; (focus (simp [Value.oneCell']; done)); rfl; clear hS; intro w hS; try simp only [putW]) | (refine storeN hS rfl rfl rfl rfl ?_ ?_ ?_ ?_; rfl; (focus (simp [Value.oneCell']; done)); (focus (simp; done)); clear hS; intro w hS; simp at hS; try simp only [putW]) | (refine alloc hS rfl rfl ?_; clear hS; intro mb w hS; simp only [putW]) | (refine box1 hS rfl rfl rfl rfl ?_; clear hS; intro mb w hS; try simp only [evW, putW] at hS; simp only [putW]) | (refine boxN hS rfl rfl rfl ?_; clear hS; intro mb w hS; simp only [putW]))
  go_loopg [5] n (fun g i wr => ∃ k : Nat, k + g = n ∧ i = .int .i64 k ∧ Bx (pinX (X.pins.drop k) key = H) ∧ Sat w0 [] wr)
  case atStart => exact ⟨0, by omega, rfl, HH, hS⟩
  case round =>
    clear hS HH
    obtain ⟨k, hkn, rfl, HK, hS⟩ := hrel
    cases gk with
    | zero =>
      have e : k = n := by omega
      subst e
      have e0 : H = false := by
        rw [← HK.out, ← HN.out, List.drop_length]
        rfl
      subst e0
      clear hkn
      go_wp2_with (first | (refine loadB (f := t7F) hS rfl rfl rfl hT 0 2 ?_ rfl rfl ?_; omega; simp only [putW]) | (refine load1 hS rfl rfl rfl rfl ?_; simp only [putW]) | (refine loadAll hS rfl rfl rfl ?_ ?_; rfl; simp only [putW]) | (refine loadPart hS rfl rfl rfl ?_ rfl ?_; rfl; simp only [putW]) | (refine store1 hS rfl rfl rfl rfl rfl ?_ ?_; (focus (simp; done)); clear hS; intro w hS; simp only [evW, putW] at hS; try simp only [putW]) | (refine storeAll hS rfl rfl rfl rfl ?_ ?_ ?_ ?_; rfl; (focus (simp [Value.oneCell']; done)); rfl; clear hS; intro w hS; try simp only [putW]) | (refine storeN hS rfl rfl rfl rfl ?_ ?_ ?_ ?_; rfl; (focus (simp [Value.oneCell']; done)); (focus (simp; done)); clear hS; intro w hS; simp at hS; try simp only [putW]) | (refine alloc hS rfl rfl ?_; clear hS; intro mb w hS; simp only [putW]) | (refine box1 hS rfl rfl rfl rfl ?_; clear hS; intro mb w hS; try simp only [evW, putW] at hS; simp only [putW]) | (refine boxN hS rfl rfl rfl ?_; clear hS; intro mb w hS; simp only [putW]))
      go_ret
      exact ⟨rfl, hS⟩
    | succ g =>
      have hlt : k < n := by omega
      have d1 : decide ((k : Int) < (n : Int)) = true := decide_eq_true (by omega)
      have d1n : decide (k < n) = true := decide_eq_true hlt
      obtain ⟨u, hu⟩ : ∃ y, X.pins[k]? = some y := ⟨_, List.getElem?_eq_getElem (by rw [HN.out]; exact hlt)⟩
      obtain ⟨b, off, hpa, hBA⟩ := HAT.out (fun h => by rw [h] at hu; cases hu)
      subst hpa
      obtain ⟨tk, ky⟩ := u
      have HU : Bx _ := ⟨hu⟩
      have hK2 := HK.out
      rw [drop_at hu, pinX_cons] at hK2
      have HK2 : Bx _ := ⟨hK2⟩
      clear hu hK2 HK
      by_cases e1 : ky = key
      · subst e1
        have e0 : H = true := by rw [← HK2.out, if_pos rfl]
        subst e0
        go_wp2_with (first | (refine loadB (f := t7F) hS rfl rfl rfl hT 0 2 ?_ rfl rfl ?_; omega; simp only [putW]) | (refine loadB (f := tw2F) hS rfl rfl rfl hBA k 1 ?_ HU.out rfl ?_; omega; simp only [putW]) | (refine load1 hS rfl rfl rfl rfl ?_; simp only [putW]) | (refine loadAll hS rfl rfl rfl ?_ ?_; rfl; simp only [putW]) | (refine loadPart hS rfl rfl rfl ?_ rfl ?_; rfl; simp only [putW]) | (refine store1 hS rfl rfl rfl rfl rfl ?_ ?_; (focus (simp; done)); clear hS; intro w hS; simp only [evW, putW] at hS; try simp only [putW]) | (refine storeAll hS rfl rfl rfl rfl ?_ ?_ ?_ ?_; rfl; (focus (simp [Value.oneCell']; done)); rfl; clear hS; intro w hS; try simp only [putW]) | (refine storeN hS rfl rfl rfl rfl ?_ ?_ ?_ ?_; rfl; (focus (simp [Value.oneCell']; done)); (focus (simp; done)); clear hS; intro w hS; simp at hS; try simp only [putW]) | (refine alloc hS rfl rfl ?_; clear hS; intro mb w hS; simp only [putW]) | (refine box1 hS rfl rfl rfl rfl ?_; clear hS; intro mb w hS; try simp only [evW, putW] at hS; simp only [putW]) | (refine boxN hS rfl rfl rfl ?_; clear hS; intro mb w hS; simp only [putW]))
        go_ret
        exact ⟨rfl, hS⟩
      · have b1 : (ky == key) = false := by simpa using e1
        have HK3 : Bx (pinX (X.pins.drop (k + 1)) key = H) := ⟨by rw [← HK2.out, if_neg e1]⟩
        clear e1
        go_wp2_with (first | (refine loadB (f := t7F) hS rfl rfl rfl hT 0 2 ?_ rfl rfl ?_; omega; simp only [putW]) | (refine loadB (f := tw2F) hS rfl rfl rfl hBA k 1 ?_ HU.out rfl ?_; omega; simp only [putW]) | (refine load1 hS rfl rfl rfl rfl ?_; simp only [putW]) | (refine loadAll hS rfl rfl rfl ?_ ?_; rfl; simp only [putW]) | (refine loadPart hS rfl rfl rfl ?_ rfl ?_; rfl; simp only [putW]) | (refine store1 hS rfl rfl rfl rfl rfl ?_ ?_; (focus (simp; done)); clear hS; intro w hS; simp only [evW, putW] at hS; try simp only [putW]) | (refine storeAll hS rfl rfl rfl rfl ?_ ?_ ?_ ?_; rfl; (focus (simp [Value.oneCell']; done)); rfl; clear hS; intro w hS; try simp only [putW]) | (refine storeN hS rfl rfl rfl rfl ?_ ?_ ?_ ?_; rfl; (focus (simp [Value.oneCell']; done)); (focus (simp; done)); clear hS; intro w hS; simp at hS; try simp only [putW]) | (refine alloc hS rfl rfl ?_; clear hS; intro mb w hS; simp only [putW]) | (refine box1 hS rfl rfl rfl rfl ?_; clear hS; intro mb w hS; try simp only [evW, putW] at hS; simp only [putW]) | (refine boxN hS rfl rfl rfl ?_; clear hS; intro mb w hS; simp only [putW]))
        go_roundg g
        case measure => omega
        case rel => exact ⟨k + 1, by omega, by go_num, HK3, hS⟩
set_option maxRecDepth 100000 in
set_option maxHeartbeats 4000000 in
theorem refLeft0 (hX : XAt3 w0 X x vL vP vS vH) (hp : ∀ p ∈ X.shares, 0 ≤ p.2) (hs : sumS X.shares ≤ X.most) (hm : X.most ≤ 1024) : Calls Try.prog 49 #[.pointer (some ⟨x, 0, none⟩)] w0 fun e w' => e = .returned (.int .i64 (X.most - sumS X.shares)) ∧ Sat w0 [] w' := by
  obtain ⟨hT, -, -, hL, -⟩ := hX
  obtain ⟨ph, ch, rfl, hl, hat⟩ := hL.at
  obtain ⟨n, hn⟩ : ∃ n, X.shares.length = n := ⟨_, rfl⟩
  obtain ⟨M, hM⟩ : ∃ M, X.most = M := ⟨_, rfl⟩
  obtain ⟨H, hHh⟩ : ∃ H, M - sumS X.shares = H := ⟨_, rfl⟩
  rw [hn] at hl hT
  rw [hM] at hT hs hm ⊢
  rw [hHh]
  have hsum : ∀ k, 0 ≤ sumS (X.shares.drop k) ∧ sumS (X.shares.drop k) ≤ sumS X.shares := fun k => by
    have h1 : 0 ≤ sumS (X.shares.drop k) := sumS_pos fun p hp' => hp p (List.mem_of_mem_drop hp')
    have h2 : 0 ≤ sumS (X.shares.take k) := sumS_pos fun p hp' => hp p (List.mem_of_mem_take hp')
    have h3 := sumS_app (X.shares.take k) (X.shares.drop k)
    rw [List.take_append_drop] at h3
    exact ⟨h1, by omega⟩
  have hH0 : 0 ≤ H := by omega
  have HSum : Bx (∀ k, 0 ≤ sumS (X.shares.drop k) ∧ sumS (X.shares.drop k) + H ≤ 1024) := ⟨fun k => ⟨(hsum k).1, by have := (hsum k).2; omega⟩⟩
  have HN : Bx _ := ⟨hn⟩
  have H0 : Bx (H + sumS (X.shares.drop 0) = M) := ⟨by rw [List.drop_zero]; omega⟩
  have HAT : Bx _ := ⟨hat⟩
  clear hn hHh hat hL hsum hs hp hM
  have hS := Sat.refl w0
  go_enter Try.func49, Try.ntmps49
  go_wp2_with (first | (refine loadB (f := t7F) hS rfl rfl rfl hT 0 0 ?_ rfl rfl ?_; omega; simp only [putW]) | (refine load1 hS rfl rfl rfl rfl ?_; simp only [putW]) | (refine loadAll hS rfl rfl rfl ?_ ?_; rfl; simp only [putW]) | (refine loadPart hS rfl rfl rfl ?_ rfl ?_; rfl; simp only [putW]) | (refine store1 hS rfl rfl rfl rfl rfl ?_ ?_; (focus (simp; done)); clear hS; intro w hS; simp only [evW, putW] at hS; try simp only [putW]) | (refine storeAll hS rfl rfl rfl rfl ?_ ?_ ?_ ?_; rfl; (focus (simp [Value.oneCell']; done)); rfl; clear hS; intro w hS; try simp only [putW]) | (refine storeN hS rfl rfl rfl rfl ?_ ?_ ?_ ?_; rfl; (focus (simp [Value.oneCell']; done)); (focus (simp; done)); clear hS; intro w hS; simp at hS; try simp only [putW]) | (refine alloc hS rfl rfl ?_; clear hS; intro mb w hS; simp only [putW]) | (refine box1 hS rfl rfl rfl rfl ?_; clear hS; intro mb w hS; try simp only [evW, putW] at hS; simp only [putW]) | (refine boxN hS rfl rfl rfl ?_; clear hS; intro mb w hS; simp only [putW]))
  go_loopg [3, 4] n (fun g nv i wr => ∃ (k : Nat) (c : Int), k + g = n ∧ nv = .int .i64 c ∧ i = .int .i64 k ∧ Bx (H + sumS (X.shares.drop k) = c) ∧ Sat w0 [] wr)
  case atStart => exact ⟨0, M, by omega, rfl, rfl, H0, hS⟩
  case round =>
    clear hS H0
    obtain ⟨k, c, hkn, rfl, rfl, HK, hS⟩ := hrel
    cases gk with
    | zero =>
      have e : k = n := by omega
      subst e
      have e0 : c = H := by
        rw [← HK.out, ← HN.out, List.drop_length]
        show H + 0 = H
        omega
      subst e0
      clear hkn
      go_wp2_with (first | (refine loadB (f := t7F) hS rfl rfl rfl hT 0 3 ?_ rfl rfl ?_; omega; simp only [putW]) | (refine load1 hS rfl rfl rfl rfl ?_; simp only [putW]) | (refine loadAll hS rfl rfl rfl ?_ ?_; rfl; simp only [putW]) | (refine loadPart hS rfl rfl rfl ?_ rfl ?_; rfl; simp only [putW]) | (refine store1 hS rfl rfl rfl rfl rfl ?_ ?_; (focus (simp; done)); clear hS; intro w hS; simp only [evW, putW] at hS; try simp only [putW]) | (refine storeAll hS rfl rfl rfl rfl ?_ ?_ ?_ ?_; rfl; (focus (simp [Value.oneCell']; done)); rfl; clear hS; intro w hS; try simp only [putW]) | (refine storeN hS rfl rfl rfl rfl ?_ ?_ ?_ ?_; rfl; (focus (simp [Value.oneCell']; done)); (focus (simp; done)); clear hS; intro w hS; simp at hS; try simp only [putW]) | (refine alloc hS rfl rfl ?_; clear hS; intro mb w hS; simp only [putW]) | (refine box1 hS rfl rfl rfl rfl ?_; clear hS; intro mb w hS; try simp only [evW, putW] at hS; simp only [putW]) | (refine boxN hS rfl rfl rfl ?_; clear hS; intro mb w hS; simp only [putW]))
      go_ret
      exact ⟨rfl, hS⟩
    | succ g =>
      have hlt : k < n := by omega
      have d1 : decide ((k : Int) < (n : Int)) = true := decide_eq_true (by omega)
      have d1n : decide (k < n) = true := decide_eq_true hlt
      obtain ⟨u, hu⟩ : ∃ y, X.shares[k]? = some y := ⟨_, List.getElem?_eq_getElem (by rw [HN.out]; exact hlt)⟩
      obtain ⟨b, off, hpa, hBA⟩ := HAT.out (fun h => by rw [h] at hu; cases hu)
      subst hpa
      obtain ⟨tk, ky⟩ := u
      have HU : Bx _ := ⟨hu⟩
      have h1 := HK.out
      have h2 := HSum.out (k + 1)
      have h3 : sumS (X.shares.drop k) = ky + sumS (X.shares.drop (k + 1)) := by rw [drop_at hu]; rfl
      have h4 := HSum.out k
      have HK3 : Bx (H + sumS (X.shares.drop (k + 1)) = c - ky) := ⟨by omega⟩
      have hcb : -100000 ≤ c - ky ∧ c - ky ≤ 100000 := by omega
      have hcb1 : -100000 ≤ c - ky := hcb.1
      have hcb2 : c - ky ≤ 100000 := hcb.2
      clear hu h1 h2 h3 h4 HK hcb
      go_wp2_with (first | (refine loadB (f := t7F) hS rfl rfl rfl hT 0 3 ?_ rfl rfl ?_; omega; simp only [putW]) | (refine loadB (f := tw2F) hS rfl rfl rfl hBA k 1 ?_ HU.out rfl ?_; omega; simp only [putW]) | (refine load1 hS rfl rfl rfl rfl ?_; simp only [putW]) | (refine loadAll hS rfl rfl rfl ?_ ?_; rfl; simp only [putW]) | (refine loadPart hS rfl rfl rfl ?_ rfl ?_; rfl; simp only [putW]) | (refine store1 hS rfl rfl rfl rfl rfl ?_ ?_; (focus (simp; done)); clear hS; intro w hS; simp only [evW, putW] at hS; try simp only [putW]) | (refine storeAll hS rfl rfl rfl rfl ?_ ?_ ?_ ?_; rfl; (focus (simp [Value.oneCell']; done)); rfl; clear hS; intro w hS; try simp only [putW]) | (refine storeN hS rfl rfl rfl rfl ?_ ?_ ?_ ?_; rfl; (focus (simp [Value.oneCell']; done)); (focus (simp; done)); clear hS; intro w hS; simp at hS; try simp only [putW]) | (refine alloc hS rfl rfl ?_; clear hS; intro mb w hS; simp only [putW]) | (refine box1 hS rfl rfl rfl rfl ?_; clear hS; intro mb w hS; try simp only [evW, putW] at hS; simp only [putW]) | (refine boxN hS rfl rfl rfl ?_; clear hS; intro mb w hS; simp only [putW]))
      go_roundg g
      case measure => omega
      case rel => exact ⟨k + 1, c - ky, by omega, by go_num, by go_num, HK3, hS⟩
set_option maxRecDepth 100000 in
set_option maxHeartbeats 4000000 in
theorem refWithoutT {L : List (Int × Int)} {v : Value} (hlen : L.length ≤ 1000) (hL : BSl w0 2 tw2F (fun _ => True) L v) : Calls Try.prog 59 #[v, .int .i64 task] w0 fun e w' => ∃ v', e = .returned v' ∧ Sat w0 [(blk v', sl 2 tw2F (woT L task) 99 v')] w' := by
  obtain ⟨ph, ch, rfl, hl, hat⟩ := hL.at
  have hw0 : ∀ k, (woT (L.take k) task).length ≤ 1000 := fun k => Nat.le_trans (woT_le L task k) hlen
  obtain ⟨n, hn⟩ : ∃ n, L.length = n := ⟨_, rfl⟩
  have HN : Bx _ := ⟨hn⟩
  have HAT : Bx _ := ⟨hat⟩
  have HW : Bx _ := ⟨hw0⟩
  clear hn hat hL hlen hw0
  rw [HN.out]
  rw [HN.out] at hl
  have hS := Sat.refl w0
  go_enter Try.func59, Try.ntmps59
  go_wp2_with (first | (refine load1 hS rfl rfl rfl rfl ?_; simp only [putW]) | (refine loadAll hS rfl rfl rfl ?_ ?_; rfl; simp only [putW]) | (refine loadPart hS rfl rfl rfl ?_ rfl ?_; rfl; simp only [putW]) | (refine store1 hS rfl rfl rfl rfl rfl ?_ ?_; (focus (simp; done)); clear hS; intro w hS; simp only [evW, putW] at hS; try simp only [putW]) | (refine storeAll hS rfl rfl rfl rfl ?_ ?_ ?_ ?_; rfl; (focus (simp [Value.oneCell']; done)); rfl; clear hS; intro w hS; try simp only [putW]) | (refine storeN hS rfl rfl rfl rfl ?_ ?_ ?_ ?_; rfl; (focus (simp [Value.oneCell']; done)); (focus (simp; done)); clear hS; intro w hS; simp at hS; try simp only [putW]) | (refine alloc hS rfl rfl ?_; clear hS; intro mb w hS; simp only [putW]) | (refine box1 hS rfl rfl rfl rfl ?_; clear hS; intro mb w hS; try simp only [evW, putW] at hS; simp only [putW]) | (refine boxN hS rfl rfl rfl ?_; clear hS; intro mb w hS; simp only [putW]))
  replace hS := hS.slNil 2 tw2F 99
  go_loopg [5, 6] n (fun g ov i wr => ∃ k : Nat, k + g = n ∧ i = .int .i64 k ∧ Sat w0 [(blk ov, sl 2 tw2F (woT (L.take k) task) 99 ov)] wr)
  case atStart => exact ⟨0, by omega, rfl, hS⟩
  case round =>
    clear hS
    obtain ⟨k, hkn, rfl, hS⟩ := hrel
    cases gk with
    | zero =>
      have e : k = n := by omega
      subst e
      have hLk : L.take k = L := by rw [← HN.out, List.take_length]
      rw [hLk] at hS
      clear hkn hLk
      go_wp2_with (first | (refine load1 hS rfl rfl rfl rfl ?_; simp only [putW]) | (refine loadAll hS rfl rfl rfl ?_ ?_; rfl; simp only [putW]) | (refine loadPart hS rfl rfl rfl ?_ rfl ?_; rfl; simp only [putW]) | (refine store1 hS rfl rfl rfl rfl rfl ?_ ?_; (focus (simp; done)); clear hS; intro w hS; simp only [evW, putW] at hS; try simp only [putW]) | (refine storeAll hS rfl rfl rfl rfl ?_ ?_ ?_ ?_; rfl; (focus (simp [Value.oneCell']; done)); rfl; clear hS; intro w hS; try simp only [putW]) | (refine storeN hS rfl rfl rfl rfl ?_ ?_ ?_ ?_; rfl; (focus (simp [Value.oneCell']; done)); (focus (simp; done)); clear hS; intro w hS; simp at hS; try simp only [putW]) | (refine alloc hS rfl rfl ?_; clear hS; intro mb w hS; simp only [putW]) | (refine box1 hS rfl rfl rfl rfl ?_; clear hS; intro mb w hS; try simp only [evW, putW] at hS; simp only [putW]) | (refine boxN hS rfl rfl rfl ?_; clear hS; intro mb w hS; simp only [putW]))
      go_ret
      exact ⟨_, rfl, hS⟩
    | succ g =>
      have hlt : k < n := by omega
      have d1 : decide ((k : Int) < (n : Int)) = true := decide_eq_true (by omega)
      have d1n : decide (k < n) = true := decide_eq_true hlt
      obtain ⟨u, hu⟩ : ∃ y, L[k]? = some y := ⟨_, List.getElem?_eq_getElem (by rw [HN.out]; exact hlt)⟩
      obtain ⟨b, off, hpa, hBA⟩ := HAT.out (fun h => by rw [h] at hu; cases hu)
      subst hpa
      have hnx := woT_next (task := task) hu
      obtain ⟨tk, ky⟩ := u
      have HU : Bx _ := ⟨hu⟩
      have HX : Bx _ := ⟨hnx⟩
      have hwl := HW.out k
      clear hu hnx
      obtain ⟨m4, hm4⟩ : ∃ m, (woT (L.take k) task).length = m := ⟨_, rfl⟩
      rw [hm4] at hwl
      obtain ⟨q4, c4, hv4⟩ := shapeN hS hm4
      subst hv4
      have HM : Bx _ := ⟨hm4⟩
      clear hm4
      by_cases e1 : tk = task
      · have HX2 : Bx (woT (L.take (k + 1)) task = woT (L.take k) task) := ⟨by rw [HX.out, if_pos e1]⟩
        subst e1
        go_wp2_with (first | (refine loadB (f := tw2F) hS rfl rfl rfl hBA k 0 ?_ HU.out rfl ?_; omega; simp only [putW]) | (refine load1 hS rfl rfl rfl rfl ?_; simp only [putW]) | (refine loadAll hS rfl rfl rfl ?_ ?_; rfl; simp only [putW]) | (refine loadPart hS rfl rfl rfl ?_ rfl ?_; rfl; simp only [putW]) | (refine store1 hS rfl rfl rfl rfl rfl ?_ ?_; (focus (simp; done)); clear hS; intro w hS; simp only [evW, putW] at hS; try simp only [putW]) | (refine storeAll hS rfl rfl rfl rfl ?_ ?_ ?_ ?_; rfl; (focus (simp [Value.oneCell']; done)); rfl; clear hS; intro w hS; try simp only [putW]) | (refine storeN hS rfl rfl rfl rfl ?_ ?_ ?_ ?_; rfl; (focus (simp [Value.oneCell']; done)); (focus (simp; done)); clear hS; intro w hS; simp at hS; try simp only [putW]) | (refine alloc hS rfl rfl ?_; clear hS; intro mb w hS; simp only [putW]) | (refine box1 hS rfl rfl rfl rfl ?_; clear hS; intro mb w hS; try simp only [evW, putW] at hS; simp only [putW]) | (refine boxN hS rfl rfl rfl ?_; clear hS; intro mb w hS; simp only [putW]))
        go_roundg g
        case measure => omega
        case rel => exact ⟨k + 1, by omega, by go_num, by rw [HX2.out]; exact hS⟩
      · have HX2 : Bx (woT (L.take (k + 1)) task = woT (L.take k) task ++ [(tk, ky)]) := ⟨by rw [HX.out, if_neg e1]⟩
        have b1 : (tk == task) = false := by simpa using e1
        have b2 : (tk != task) = true := by simpa using e1
        clear e1
        go_wp2_with (first | (refine loadB (f := tw2F) hS rfl rfl rfl hBA k 0 ?_ HU.out rfl ?_; omega; simp only [putW]) | (refine loadBN (f := tw2F) (vs := [.int .i64 tk, .int .i64 ky]) hS rfl rfl rfl hBA k 0 ?_ HU.out rfl rfl ?_; (focus omega); simp only [putW]) | (refine buildSlice1 (c := #[.int .i64 tk, .int .i64 ky]) hS rfl rfl rfl ?_ ?_ ?_ ?_; rfl; rfl; rfl; clear hS; intro mb w hS; simp only [putW]) | (refine append1 (f := tw2F) hS rfl rfl (.slice q4 m4 c4) rfl rfl (tk, ky) ?_ ?_ ?_ ?_ ?_ ?_; rfl; (focus (simp [tw2F, Value.oneCell']; done)); rfl; (focus (rw [HM.out]; simp [maxLen]; omega)); (focus (rw [HM.out]; omega)); clear hS; intro v' w hS; simp only [putW]) | (refine load1 hS rfl rfl rfl rfl ?_; simp only [putW]) | (refine loadAll hS rfl rfl rfl ?_ ?_; rfl; simp only [putW]) | (refine loadPart hS rfl rfl rfl ?_ rfl ?_; rfl; simp only [putW]) | (refine store1 hS rfl rfl rfl rfl rfl ?_ ?_; (focus (simp; done)); clear hS; intro w hS; simp only [evW, putW] at hS; try simp only [putW]) | (refine storeAll hS rfl rfl rfl rfl ?_ ?_ ?_ ?_; rfl; (focus (simp [Value.oneCell']; done)); rfl; clear hS; intro w hS; try simp only [putW]) | (refine storeN hS rfl rfl rfl rfl ?_ ?_ ?_ ?_; rfl; (focus (simp [Value.oneCell']; done)); (focus (simp; done)); clear hS; intro w hS; simp at hS; try simp only [putW]) | (refine alloc hS rfl rfl ?_; clear hS; intro mb w hS; simp only [putW]) | (refine box1 hS rfl rfl rfl rfl ?_; clear hS; intro mb w hS; try simp only [evW, putW] at hS; simp only [putW]) | (refine boxN hS rfl rfl rfl ?_; clear hS; intro mb w hS; simp only [putW]))
        go_roundg g
        case measure => omega
        case rel => exact ⟨k + 1, by omega, by go_num, by rw [HX2.out]; exact hS.conv⟩
end
end Go.Proofs.Ytlkoclalcfeniaa
