/-
  thimbleref14: Holds, Waits, may, without.
-/
import Derived.Test.YtojdkioimklhmaaLaPlayP
import Derived.Test.YtojdkioimklhmaaSlA
set_option linter.unusedSimpArgs false
set_option linter.unusedVariables false
namespace Go.Proofs.Ytojdkioimklhmaa
open Go.RowKit Go.Proofs.Ytojdkioimklhmaa.Sl

def xwF (x : Value × Value) : List Value := [x.1, x.2]
/-- What can be read of the document's table. -/
structure XAt (w : World) (X : XR) (x : Nat) (vh vq : Value) : Prop where
  t : BAt w 2 xwF (fun _ => True) [(vh, vq)] x 0
  h : BSl w 3 waF (fun _ => True) X.has vh
  q : BSl w 3 waF (fun _ => True) X.queue vq
theorem holdsX_cons (w : Wa) (L : List Wa) (task key : Int) : holdsX (w :: L) task key = if w.1 = task ∧ w.2.1 = key then (if w.2.2 then 2 else 1) else holdsX L task key := by
  unfold holdsX
  by_cases h : w.1 = task ∧ w.2.1 = key
  · rw [List.find?_cons_of_pos (by simp [hit, h.1, h.2]), if_pos h]
  · rw [List.find?_cons_of_neg (by simpa [hit] using h), if_neg h]
theorem waitsX_cons (w : Wa) (L : List Wa) (task : Int) : waitsX (w :: L) task = if w.1 = task then some w.2.1 else waitsX L task := by
  unfold waitsX
  by_cases h : w.1 = task
  · rw [List.find?_cons_of_pos (by simp [h]), if_pos h]
    rfl
  · rw [List.find?_cons_of_neg (by simpa using h), if_neg h]
theorem drop_get {α : Type} {L : List α} {k : Nat} {x : α} (h : L[k]? = some x) : L.drop k = x :: L.drop (k + 1) := by
  obtain ⟨hk, rfl⟩ := List.getElem?_eq_some_iff.1 h
  exact List.drop_eq_getElem_cons hk
theorem woW_next {L : List Wa} {task : Int} {j : Nat} {x : Wa} (hx : L[j]? = some x) : woW (L.take (j + 1)) task = if x.1 = task then woW (L.take j) task else woW (L.take j) task ++ [x] := by
  rw [List.take_add_one, hx]
  unfold woW
  rw [List.filter_append]
  by_cases h : x.1 = task <;> simp [h]
theorem shapeN {α : Type} {w0 w : World} {S : List Chunk} {v : Value} {b m n : Nat} {f : α → List Value} {l : List α} {t : TypeId} (h : Sat w0 ((b, sl n f l t v) :: S) w) (hl : l.length = m) : ∃ q c, v = .slice q m c := by
  subst hl
  rcases h.slCases with ⟨h1, h2, _⟩ | ⟨c, h1, _⟩
  · exact ⟨_, _, by rw [h1, h2]; rfl⟩
  · exact ⟨_, _, h1⟩
theorem woW_le (L : List Wa) (task : Int) (k : Nat) : (woW (L.take k) task).length ≤ L.length := by
  refine Nat.le_trans (List.length_filter_le _ _) ?_
  rw [List.length_take]
  omega
section
variable {w0 : World} {X : XR} {x : Nat} {vh vq : Value} {task key : Int}
set_option maxRecDepth 100000 in
set_option maxHeartbeats 4000000 in
theorem refHolds0 (hX : XAt w0 X x vh vq) : Calls Try.prog 20 #[.pointer (some ⟨x, 0, none⟩), .int .i64 task, .int .i64 key] w0 fun e w' => e = .returned (.int .i64 (holdsX X.has task key)) ∧ Sat w0 [] w' := by
  obtain ⟨hT, hH, -⟩ := hX
  obtain ⟨ph, ch, rfl, hl, hat⟩ := hH.at
  obtain ⟨n, hn⟩ : ∃ n, X.has.length = n := ⟨_, rfl⟩
  obtain ⟨H, hHh⟩ : ∃ H, holdsX X.has task key = H := ⟨_, rfl⟩
  rw [hn] at hl hT
  rw [hHh]
  have HN : Bx _ := ⟨hn⟩
  have HH : Bx _ := ⟨hHh⟩
  have HAT : Bx _ := ⟨hat⟩
  clear hn hHh hat hH
  have hS := Sat.refl w0
  go_enter Try.func20, Try.ntmps20
  go_wp2_with (first | (refine load1 hS rfl rfl rfl rfl ?_; simp only [putW]) | (refine loadAll hS rfl rfl rfl ?_ ?_; rfl; simp only [putW]) | (refine loadPart hS rfl rfl rfl ?_ rfl ?_; rfl; simp only [putW]) | (refine store1 hS rfl rfl rfl rfl rfl ?_ ?_; (focus (simp; done)); clear hS; intro w hS; simp only [evW, putW] at hS; try simp only [putW]) | (refine storeAll hS rfl rfl rfl rfl ?_ ?_ ?_ ?_; rfl; (focus (simp [Value.oneCell']; done)); rfl; clear hS; intro w hS; try simp only [putW]) | (refine storeN hS rfl rfl rfl rfl ?_ ?_ ?_ ?_; rfl; (focus (simp [Value.oneCell']; done)); (focus (simp; done)); clear hS; intro w hS; simp at hS; try simp only [putW]) | (refine alloc hS rfl rfl ?_; clear hS; intro mb w hS; simp only [putW]) | (refine box1 hS rfl rfl rfl rfl ?_; clear hS; intro mb w hS; try simp only [evW, putW] at hS; simp only [putW]) | (refine boxN hS rfl rfl rfl ?_; clear hS; intro mb w hS; simp only [putW]))
  go_loopg [7] n (fun g i wr => ∃ k : Nat, k + g = n ∧ i = .int .i64 k ∧ Bx (holdsX (X.has.drop k) task key = H) ∧ Sat w0 [] wr)
  case atStart => exact ⟨0, by omega, rfl, HH, hS⟩
  case round =>
    clear hS HH
    obtain ⟨k, hkn, rfl, HK, hS⟩ := hrel
    cases gk with
    | zero =>
      have e : k = n := by omega
      subst e
      have e0 : H = 0 := by
        rw [← HK.out, ← HN.out, List.drop_length]
        rfl
      subst e0
      clear hkn
      go_wp2_with (first | (refine loadB (f := xwF) hS rfl rfl rfl hT 0 0 ?_ rfl rfl ?_; omega; simp only [putW]) | (refine load1 hS rfl rfl rfl rfl ?_; simp only [putW]) | (refine loadAll hS rfl rfl rfl ?_ ?_; rfl; simp only [putW]) | (refine loadPart hS rfl rfl rfl ?_ rfl ?_; rfl; simp only [putW]) | (refine store1 hS rfl rfl rfl rfl rfl ?_ ?_; (focus (simp; done)); clear hS; intro w hS; simp only [evW, putW] at hS; try simp only [putW]) | (refine storeAll hS rfl rfl rfl rfl ?_ ?_ ?_ ?_; rfl; (focus (simp [Value.oneCell']; done)); rfl; clear hS; intro w hS; try simp only [putW]) | (refine storeN hS rfl rfl rfl rfl ?_ ?_ ?_ ?_; rfl; (focus (simp [Value.oneCell']; done)); (focus (simp; done)); clear hS; intro w hS; simp at hS; try simp only [putW]) | (refine alloc hS rfl rfl ?_; clear hS; intro mb w hS; simp only [putW]) | (refine box1 hS rfl rfl rfl rfl ?_; clear hS; intro mb w hS; try simp only [evW, putW] at hS; simp only [putW]) | (refine boxN hS rfl rfl rfl ?_; clear hS; intro mb w hS; simp only [putW]))
      go_ret
      exact ⟨rfl, hS⟩
    | succ g =>
      have hlt : k < n := by omega
      have d1 : decide ((k : Int) < (n : Int)) = true := decide_eq_true (by omega)
      have d1n : decide (k < n) = true := decide_eq_true hlt
      obtain ⟨u, hu⟩ : ∃ y, X.has[k]? = some y := ⟨_, List.getElem?_eq_getElem (by rw [HN.out]; exact hlt)⟩
      obtain ⟨b, off, hpa, hBA⟩ := HAT.out (fun h => by rw [h] at hu; cases hu)
      subst hpa
      obtain ⟨tk, ky, al⟩ := u
      have HU : Bx _ := ⟨hu⟩
      have hK2 := HK.out
      rw [drop_get hu, holdsX_cons] at hK2
      have HK2 : Bx _ := ⟨hK2⟩
      clear hu hK2 HK
      by_cases e1 : tk = task
      · subst e1
        by_cases e2 : ky = key
        · subst e2
          cases al with
          | true =>
            have e0 : H = 2 := by rw [← HK2.out]; simp
            subst e0
            go_wp2_with (first | (refine loadB (f := xwF) hS rfl rfl rfl hT 0 0 ?_ rfl rfl ?_; omega; simp only [putW]) | (refine loadB (f := waF) hS rfl rfl rfl hBA k 0 ?_ HU.out rfl ?_; omega; simp only [putW]) | (refine loadB (f := waF) hS rfl rfl rfl hBA k 1 ?_ HU.out rfl ?_; omega; simp only [putW]) | (refine loadB (f := waF) hS rfl rfl rfl hBA k 2 ?_ HU.out rfl ?_; omega; simp only [putW]) | (refine load1 hS rfl rfl rfl rfl ?_; simp only [putW]) | (refine loadAll hS rfl rfl rfl ?_ ?_; rfl; simp only [putW]) | (refine loadPart hS rfl rfl rfl ?_ rfl ?_; rfl; simp only [putW]) | (refine store1 hS rfl rfl rfl rfl rfl ?_ ?_; (focus (simp; done)); clear hS; intro w hS; simp only [evW, putW] at hS; try simp only [putW]) | (refine storeAll hS rfl rfl rfl rfl ?_ ?_ ?_ ?_; rfl; (focus (simp [Value.oneCell']; done)); rfl; clear hS; intro w hS; try simp only [putW]) | (refine storeN hS rfl rfl rfl rfl ?_ ?_ ?_ ?_; rfl; (focus (simp [Value.oneCell']; done)); (focus (simp; done)); clear hS; intro w hS; simp at hS; try simp only [putW]) | (refine alloc hS rfl rfl ?_; clear hS; intro mb w hS; simp only [putW]) | (refine box1 hS rfl rfl rfl rfl ?_; clear hS; intro mb w hS; try simp only [evW, putW] at hS; simp only [putW]) | (refine boxN hS rfl rfl rfl ?_; clear hS; intro mb w hS; simp only [putW]))
            go_ret
            exact ⟨rfl, hS⟩
          | false =>
            have e0 : H = 1 := by rw [← HK2.out]; simp
            subst e0
            go_wp2_with (first | (refine loadB (f := xwF) hS rfl rfl rfl hT 0 0 ?_ rfl rfl ?_; omega; simp only [putW]) | (refine loadB (f := waF) hS rfl rfl rfl hBA k 0 ?_ HU.out rfl ?_; omega; simp only [putW]) | (refine loadB (f := waF) hS rfl rfl rfl hBA k 1 ?_ HU.out rfl ?_; omega; simp only [putW]) | (refine loadB (f := waF) hS rfl rfl rfl hBA k 2 ?_ HU.out rfl ?_; omega; simp only [putW]) | (refine load1 hS rfl rfl rfl rfl ?_; simp only [putW]) | (refine loadAll hS rfl rfl rfl ?_ ?_; rfl; simp only [putW]) | (refine loadPart hS rfl rfl rfl ?_ rfl ?_; rfl; simp only [putW]) | (refine store1 hS rfl rfl rfl rfl rfl ?_ ?_; (focus (simp; done)); clear hS; intro w hS; simp only [evW, putW] at hS; try simp only [putW]) | (refine storeAll hS rfl rfl rfl rfl ?_ ?_ ?_ ?_; rfl; (focus (simp [Value.oneCell']; done)); rfl; clear hS; intro w hS; try simp only [putW]) | (refine storeN hS rfl rfl rfl rfl ?_ ?_ ?_ ?_; rfl; (focus (simp [Value.oneCell']; done)); (focus (simp; done)); clear hS; intro w hS; simp at hS; try simp only [putW]) | (refine alloc hS rfl rfl ?_; clear hS; intro mb w hS; simp only [putW]) | (refine box1 hS rfl rfl rfl rfl ?_; clear hS; intro mb w hS; try simp only [evW, putW] at hS; simp only [putW]) | (refine boxN hS rfl rfl rfl ?_; clear hS; intro mb w hS; simp only [putW]))
            go_ret
            exact ⟨rfl, hS⟩
        · have b1 : (ky == key) = false := by simpa using e2
          have HK3 : Bx (holdsX (X.has.drop (k + 1)) tk key = H) := ⟨by rw [← HK2.out, if_neg fun h => e2 h.2]⟩
          clear e2
          go_wp2_with (first | (refine loadB (f := xwF) hS rfl rfl rfl hT 0 0 ?_ rfl rfl ?_; omega; simp only [putW]) | (refine loadB (f := waF) hS rfl rfl rfl hBA k 0 ?_ HU.out rfl ?_; omega; simp only [putW]) | (refine loadB (f := waF) hS rfl rfl rfl hBA k 1 ?_ HU.out rfl ?_; omega; simp only [putW]) | (refine load1 hS rfl rfl rfl rfl ?_; simp only [putW]) | (refine loadAll hS rfl rfl rfl ?_ ?_; rfl; simp only [putW]) | (refine loadPart hS rfl rfl rfl ?_ rfl ?_; rfl; simp only [putW]) | (refine store1 hS rfl rfl rfl rfl rfl ?_ ?_; (focus (simp; done)); clear hS; intro w hS; simp only [evW, putW] at hS; try simp only [putW]) | (refine storeAll hS rfl rfl rfl rfl ?_ ?_ ?_ ?_; rfl; (focus (simp [Value.oneCell']; done)); rfl; clear hS; intro w hS; try simp only [putW]) | (refine storeN hS rfl rfl rfl rfl ?_ ?_ ?_ ?_; rfl; (focus (simp [Value.oneCell']; done)); (focus (simp; done)); clear hS; intro w hS; simp at hS; try simp only [putW]) | (refine alloc hS rfl rfl ?_; clear hS; intro mb w hS; simp only [putW]) | (refine box1 hS rfl rfl rfl rfl ?_; clear hS; intro mb w hS; try simp only [evW, putW] at hS; simp only [putW]) | (refine boxN hS rfl rfl rfl ?_; clear hS; intro mb w hS; simp only [putW]))
          go_roundg g
          case measure => omega
          case rel => exact ⟨k + 1, by omega, by go_num, HK3, hS⟩
      · have b1 : (tk == task) = false := by simpa using e1
        have HK3 : Bx (holdsX (X.has.drop (k + 1)) task key = H) := ⟨by rw [← HK2.out, if_neg fun h => e1 h.1]⟩
        clear e1
        go_wp2_with (first | (refine loadB (f := xwF) hS rfl rfl rfl hT 0 0 ?_ rfl rfl ?_; omega; simp only [putW]) | (refine loadB (f := waF) hS rfl rfl rfl hBA k 0 ?_ HU.out rfl ?_; omega; simp only [putW]) | (refine loadB (f := waF) hS rfl rfl rfl hBA k 1 ?_ HU.out rfl ?_; omega; simp only [putW]) | (refine load1 hS rfl rfl rfl rfl ?_; simp only [putW]) | (refine loadAll hS rfl rfl rfl ?_ ?_; rfl; simp only [putW]) | (refine loadPart hS rfl rfl rfl ?_ rfl ?_; rfl; simp only [putW]) | (refine store1 hS rfl rfl rfl rfl rfl ?_ ?_; (focus (simp; done)); clear hS; intro w hS; simp only [evW, putW] at hS; try simp only [putW]) | (refine storeAll hS rfl rfl rfl rfl ?_ ?_ ?_ ?_; rfl; (focus (simp [Value.oneCell']; done)); rfl; clear hS; intro w hS; try simp only [putW]) | (refine storeN hS rfl rfl rfl rfl ?_ ?_ ?_ ?_; rfl; (focus (simp [Value.oneCell']; done)); (focus (simp; done)); clear hS; intro w hS; simp at hS; try simp only [putW]) | (refine alloc hS rfl rfl ?_; clear hS; intro mb w hS; simp only [putW]) | (refine box1 hS rfl rfl rfl rfl ?_; clear hS; intro mb w hS; try simp only [evW, putW] at hS; simp only [putW]) | (refine boxN hS rfl rfl rfl ?_; clear hS; intro mb w hS; simp only [putW]))
        go_roundg g
        case measure => omega
        case rel => exact ⟨k + 1, by omega, by go_num, HK3, hS⟩
set_option maxRecDepth 100000 in
set_option maxHeartbeats 4000000 in
theorem refWaits0 (hX : XAt w0 X x vh vq) : Calls Try.prog 19 #[.pointer (some ⟨x, 0, none⟩), .int .i64 task] w0 fun e w' => e = .returned (.tuple #[.int .i64 ((waitsX X.queue task).getD 0), .bool (waitsX X.queue task).isSome]) ∧ Sat w0 [] w' := by
  obtain ⟨hT, -, hH⟩ := hX
  obtain ⟨ph, ch, rfl, hl, hat⟩ := hH.at
  obtain ⟨n, hn⟩ : ∃ n, X.queue.length = n := ⟨_, rfl⟩
  obtain ⟨H, hHh⟩ : ∃ H, waitsX X.queue task = H := ⟨_, rfl⟩
  rw [hn] at hl hT
  rw [hHh]
  have HN : Bx _ := ⟨hn⟩
  have HH : Bx _ := ⟨hHh⟩
  have HAT : Bx _ := ⟨hat⟩
  clear hn hHh hat hH
  have hS := Sat.refl w0
  go_enter Try.func19, Try.ntmps19
  go_wp2_with (first | (refine load1 hS rfl rfl rfl rfl ?_; simp only [putW]) | (refine loadAll hS rfl rfl rfl ?_ ?_; rfl; simp only [putW]) | (refine loadPart hS rfl rfl rfl ?_ rfl ?_; rfl; simp only [putW]) | (refine store1 hS rfl rfl rfl rfl rfl ?_ ?_; (focus (simp; done)); clear hS; intro w hS; simp only [evW, putW] at hS; try simp only [putW]) | (refine storeAll hS rfl rfl rfl rfl ?_ ?_ ?_ ?_; rfl; (focus (simp [Value.oneCell']; done)); rfl; clear hS; intro w hS; try simp only [putW]) | (refine storeN hS rfl rfl rfl rfl ?_ ?_ ?_ ?_; rfl; (focus (simp [Value.oneCell']; done)); (focus (simp; done)); clear hS; intro w hS; simp at hS; try simp only [putW]) | (refine alloc hS rfl rfl ?_; clear hS; intro mb w hS; simp only [putW]) | (refine box1 hS rfl rfl rfl rfl ?_; clear hS; intro mb w hS; try simp only [evW, putW] at hS; simp only [putW]) | (refine boxN hS rfl rfl rfl ?_; clear hS; intro mb w hS; simp only [putW]))
  go_loopg [6] n (fun g i wr => ∃ k : Nat, k + g = n ∧ i = .int .i64 k ∧ Bx (waitsX (X.queue.drop k) task = H) ∧ Sat w0 [] wr)
  case atStart => exact ⟨0, by omega, rfl, HH, hS⟩
  case round =>
    clear hS HH
    obtain ⟨k, hkn, rfl, HK, hS⟩ := hrel
    cases gk with
    | zero =>
      have e : k = n := by omega
      subst e
      have e0 : H = none := by
        rw [← HK.out, ← HN.out, List.drop_length]
        rfl
      subst e0
      clear hkn
      go_wp2_with (first | (refine loadB (f := xwF) hS rfl rfl rfl hT 0 1 ?_ rfl rfl ?_; omega; simp only [putW]) | (refine load1 hS rfl rfl rfl rfl ?_; simp only [putW]) | (refine loadAll hS rfl rfl rfl ?_ ?_; rfl; simp only [putW]) | (refine loadPart hS rfl rfl rfl ?_ rfl ?_; rfl; simp only [putW]) | (refine store1 hS rfl rfl rfl rfl rfl ?_ ?_; (focus (simp; done)); clear hS; intro w hS; simp only [evW, putW] at hS; try simp only [putW]) | (refine storeAll hS rfl rfl rfl rfl ?_ ?_ ?_ ?_; rfl; (focus (simp [Value.oneCell']; done)); rfl; clear hS; intro w hS; try simp only [putW]) | (refine storeN hS rfl rfl rfl rfl ?_ ?_ ?_ ?_; rfl; (focus (simp [Value.oneCell']; done)); (focus (simp; done)); clear hS; intro w hS; simp at hS; try simp only [putW]) | (refine alloc hS rfl rfl ?_; clear hS; intro mb w hS; simp only [putW]) | (refine box1 hS rfl rfl rfl rfl ?_; clear hS; intro mb w hS; try simp only [evW, putW] at hS; simp only [putW]) | (refine boxN hS rfl rfl rfl ?_; clear hS; intro mb w hS; simp only [putW]))
      refine bodyPost_ret (v := .tuple #[.int .i64 0, .bool false]) (by simp [results, Try.results19]) rfl ⟨rfl, hS⟩
    | succ g =>
      have hlt : k < n := by omega
      have d1 : decide ((k : Int) < (n : Int)) = true := decide_eq_true (by omega)
      have d1n : decide (k < n) = true := decide_eq_true hlt
      obtain ⟨u, hu⟩ : ∃ y, X.queue[k]? = some y := ⟨_, List.getElem?_eq_getElem (by rw [HN.out]; exact hlt)⟩
      obtain ⟨b, off, hpa, hBA⟩ := HAT.out (fun h => by rw [h] at hu; cases hu)
      subst hpa
      obtain ⟨tk, ky, al⟩ := u
      have HU : Bx _ := ⟨hu⟩
      have hK2 := HK.out
      rw [drop_get hu, waitsX_cons] at hK2
      have HK2 : Bx _ := ⟨hK2⟩
      clear hu hK2 HK
      by_cases e1 : tk = task
      · subst e1
        have e0 : H = some ky := by rw [← HK2.out, if_pos rfl]
        subst e0
        go_wp2_with (first | (refine loadB (f := xwF) hS rfl rfl rfl hT 0 1 ?_ rfl rfl ?_; omega; simp only [putW]) | (refine loadB (f := waF) hS rfl rfl rfl hBA k 0 ?_ HU.out rfl ?_; omega; simp only [putW]) | (refine loadB (f := waF) hS rfl rfl rfl hBA k 1 ?_ HU.out rfl ?_; omega; simp only [putW]) | (refine load1 hS rfl rfl rfl rfl ?_; simp only [putW]) | (refine loadAll hS rfl rfl rfl ?_ ?_; rfl; simp only [putW]) | (refine loadPart hS rfl rfl rfl ?_ rfl ?_; rfl; simp only [putW]) | (refine store1 hS rfl rfl rfl rfl rfl ?_ ?_; (focus (simp; done)); clear hS; intro w hS; simp only [evW, putW] at hS; try simp only [putW]) | (refine storeAll hS rfl rfl rfl rfl ?_ ?_ ?_ ?_; rfl; (focus (simp [Value.oneCell']; done)); rfl; clear hS; intro w hS; try simp only [putW]) | (refine storeN hS rfl rfl rfl rfl ?_ ?_ ?_ ?_; rfl; (focus (simp [Value.oneCell']; done)); (focus (simp; done)); clear hS; intro w hS; simp at hS; try simp only [putW]) | (refine alloc hS rfl rfl ?_; clear hS; intro mb w hS; simp only [putW]) | (refine box1 hS rfl rfl rfl rfl ?_; clear hS; intro mb w hS; try simp only [evW, putW] at hS; simp only [putW]) | (refine boxN hS rfl rfl rfl ?_; clear hS; intro mb w hS; simp only [putW]))
        refine bodyPost_ret (v := .tuple #[.int .i64 ky, .bool true]) (by simp [results, Try.results19]) rfl ⟨rfl, hS⟩
      · have b1 : (tk == task) = false := by simpa using e1
        have HK3 : Bx (waitsX (X.queue.drop (k + 1)) task = H) := ⟨by rw [← HK2.out, if_neg e1]⟩
        clear e1
        go_wp2_with (first | (refine loadB (f := xwF) hS rfl rfl rfl hT 0 1 ?_ rfl rfl ?_; omega; simp only [putW]) | (refine loadB (f := waF) hS rfl rfl rfl hBA k 0 ?_ HU.out rfl ?_; omega; simp only [putW]) | (refine loadB (f := waF) hS rfl rfl rfl hBA k 1 ?_ HU.out rfl ?_; omega; simp only [putW]) | (refine load1 hS rfl rfl rfl rfl ?_; simp only [putW]) | (refine loadAll hS rfl rfl rfl ?_ ?_; rfl; simp only [putW]) | (refine loadPart hS rfl rfl rfl ?_ rfl ?_; rfl; simp only [putW]) | (refine store1 hS rfl rfl rfl rfl rfl ?_ ?_; (focus (simp; done)); clear hS; intro w hS; simp only [evW, putW] at hS; try simp only [putW]) | (refine storeAll hS rfl rfl rfl rfl ?_ ?_ ?_ ?_; rfl; (focus (simp [Value.oneCell']; done)); rfl; clear hS; intro w hS; try simp only [putW]) | (refine storeN hS rfl rfl rfl rfl ?_ ?_ ?_ ?_; rfl; (focus (simp [Value.oneCell']; done)); (focus (simp; done)); clear hS; intro w hS; simp at hS; try simp only [putW]) | (refine alloc hS rfl rfl ?_; clear hS; intro mb w hS; simp only [putW]) | (refine box1 hS rfl rfl rfl rfl ?_; clear hS; intro mb w hS; try simp only [evW, putW] at hS; simp only [putW]) | (refine boxN hS rfl rfl rfl ?_; clear hS; intro mb w hS; simp only [putW]))
        go_roundg g
        case measure => omega
        case rel => exact ⟨k + 1, by omega, by go_num, HK3, hS⟩
set_option maxRecDepth 100000 in
set_option maxHeartbeats 4000000 in
theorem refWithout0 {L : List Wa} {v : Value} (hlen : L.length ≤ 1000) (hL : BSl w0 3 waF (fun _ => True) L v) : Calls Try.prog 25 #[v, .int .i64 task] w0 fun e w' => ∃ v', e = .returned v' ∧ Sat w0 [(blk v', sl 3 waF (woW L task) 69 v')] w' := by
  obtain ⟨ph, ch, rfl, hl, hat⟩ := hL.at
  have hw0 : ∀ k, (woW (L.take k) task).length ≤ 1000 := fun k => Nat.le_trans (woW_le L task k) hlen
  obtain ⟨n, hn⟩ : ∃ n, L.length = n := ⟨_, rfl⟩
  have HN : Bx _ := ⟨hn⟩
  have HAT : Bx _ := ⟨hat⟩
  have HW : Bx _ := ⟨hw0⟩
  clear hn hat hL hlen hw0
  rw [HN.out]
  rw [HN.out] at hl
  have hS := Sat.refl w0
  go_enter Try.func25, Try.ntmps25
  go_wp2_with (first | (refine load1 hS rfl rfl rfl rfl ?_; simp only [putW]) | (refine loadAll hS rfl rfl rfl ?_ ?_; rfl; simp only [putW]) | (refine loadPart hS rfl rfl rfl ?_ rfl ?_; rfl; simp only [putW]) | (refine store1 hS rfl rfl rfl rfl rfl ?_ ?_; (focus (simp; done)); clear hS; intro w hS; simp only [evW, putW] at hS; try simp only [putW]) | (refine storeAll hS rfl rfl rfl rfl ?_ ?_ ?_ ?_; rfl; (focus (simp [Value.oneCell']; done)); rfl; clear hS; intro w hS; try simp only [putW]) | (refine storeN hS rfl rfl rfl rfl ?_ ?_ ?_ ?_; rfl; (focus (simp [Value.oneCell']; done)); (focus (simp; done)); clear hS; intro w hS; simp at hS; try simp only [putW]) | (refine alloc hS rfl rfl ?_; clear hS; intro mb w hS; simp only [putW]) | (refine box1 hS rfl rfl rfl rfl ?_; clear hS; intro mb w hS; try simp only [evW, putW] at hS; simp only [putW]) | (refine boxN hS rfl rfl rfl ?_; clear hS; intro mb w hS; simp only [putW]))
  replace hS := hS.slNil 3 waF 69
  go_loopg [5, 6] n (fun g ov i wr => ∃ k : Nat, k + g = n ∧ i = .int .i64 k ∧ Sat w0 [(blk ov, sl 3 waF (woW (L.take k) task) 69 ov)] wr)
  case atStart => exact ⟨0, by omega, rfl, hS⟩
  case round =>
    clear hS
    obtain ⟨k, hkn, rfl, hS⟩ := hrel
    cases gk with
    | zero =>
      have e : k = n := by omega
      subst e
      have hLk : L.take k = L := by rw [← HN.out, List.take_length]
      rw [hLk] at hS
      clear hkn hLk
      go_wp2_with (first | (refine load1 hS rfl rfl rfl rfl ?_; simp only [putW]) | (refine loadAll hS rfl rfl rfl ?_ ?_; rfl; simp only [putW]) | (refine loadPart hS rfl rfl rfl ?_ rfl ?_; rfl; simp only [putW]) | (refine store1 hS rfl rfl rfl rfl rfl ?_ ?_; (focus (simp; done)); clear hS; intro w hS; simp only [evW, putW] at hS; try simp only [putW]) | (refine storeAll hS rfl rfl rfl rfl ?_ ?_ ?_ ?_; rfl; (focus (simp [Value.oneCell']; done)); rfl; clear hS; intro w hS; try simp only [putW]) | (refine storeN hS rfl rfl rfl rfl ?_ ?_ ?_ ?_; rfl; (focus (simp [Value.oneCell']; done)); (focus (simp; done)); clear hS; intro w hS; simp at hS; try simp only [putW]) | (refine alloc hS rfl rfl ?_; clear hS; intro mb w hS; simp only [putW]) | (refine box1 hS rfl rfl rfl rfl ?_; clear hS; intro mb w hS; try simp only [evW, putW] at hS; simp only [putW]) | (refine boxN hS rfl rfl rfl ?_; clear hS; intro mb w hS; simp only [putW]))
      go_ret
      exact ⟨_, rfl, hS⟩
    | succ g =>
      have hlt : k < n := by omega
      have d1 : decide ((k : Int) < (n : Int)) = true := decide_eq_true (by omega)
      have d1n : decide (k < n) = true := decide_eq_true hlt
      obtain ⟨u, hu⟩ : ∃ y, L[k]? = some y := ⟨_, List.getElem?_eq_getElem (by rw [HN.out]; exact hlt)⟩
      obtain ⟨b, off, hpa, hBA⟩ := HAT.out (fun h => by rw [h] at hu; cases hu)
      subst hpa
      have hnx := woW_next (task := task) hu
      obtain ⟨tk, ky, al⟩ := u
      have HU : Bx _ := ⟨hu⟩
      have HX : Bx _ := ⟨hnx⟩
      have hwl := HW.out k
      clear hu hnx
      by_cases e1 : tk = task
      · have HX2 : Bx (woW (L.take (k + 1)) task = woW (L.take k) task) := ⟨by rw [HX.out, if_pos e1]⟩
        subst e1
        go_wp2_with (first | (refine loadB (f := waF) hS rfl rfl rfl hBA k 0 ?_ HU.out rfl ?_; omega; simp only [putW]) | (refine load1 hS rfl rfl rfl rfl ?_; simp only [putW]) | (refine loadAll hS rfl rfl rfl ?_ ?_; rfl; simp only [putW]) | (refine loadPart hS rfl rfl rfl ?_ rfl ?_; rfl; simp only [putW]) | (refine store1 hS rfl rfl rfl rfl rfl ?_ ?_; (focus (simp; done)); clear hS; intro w hS; simp only [evW, putW] at hS; try simp only [putW]) | (refine storeAll hS rfl rfl rfl rfl ?_ ?_ ?_ ?_; rfl; (focus (simp [Value.oneCell']; done)); rfl; clear hS; intro w hS; try simp only [putW]) | (refine storeN hS rfl rfl rfl rfl ?_ ?_ ?_ ?_; rfl; (focus (simp [Value.oneCell']; done)); (focus (simp; done)); clear hS; intro w hS; simp at hS; try simp only [putW]) | (refine alloc hS rfl rfl ?_; clear hS; intro mb w hS; simp only [putW]) | (refine box1 hS rfl rfl rfl rfl ?_; clear hS; intro mb w hS; try simp only [evW, putW] at hS; simp only [putW]) | (refine boxN hS rfl rfl rfl ?_; clear hS; intro mb w hS; simp only [putW]))
        go_roundg g
        case measure => omega
        case rel => exact ⟨k + 1, by omega, by go_num, by rw [HX2.out]; exact hS⟩
      · have HX2 : Bx (woW (L.take (k + 1)) task = woW (L.take k) task ++ [(tk, ky, al)]) := ⟨by rw [HX.out, if_neg e1]⟩
        have b1 : (tk == task) = false := by simpa using e1
        have b2 : (tk != task) = true := by simpa using e1
        clear e1
        obtain ⟨m4, hm4⟩ : ∃ m, (woW (L.take k) task).length = m := ⟨_, rfl⟩
        rw [hm4] at hwl
        obtain ⟨q4, c4, hv4⟩ := shapeN hS hm4
        subst hv4
        have HM : Bx _ := ⟨hm4⟩
        clear hm4
        go_wp2_with (first | (refine loadB (f := waF) hS rfl rfl rfl hBA k 0 ?_ HU.out rfl ?_; omega; simp only [putW]) | (refine loadBN (f := waF) (vs := [.int .i64 tk, .int .i64 ky, .bool al]) hS rfl rfl rfl hBA k 0 ?_ HU.out rfl rfl ?_; (focus omega); simp only [putW]) | (refine buildSlice1 (c := #[.int .i64 tk, .int .i64 ky, .bool al]) hS rfl rfl rfl ?_ ?_ ?_ ?_; rfl; rfl; rfl; clear hS; intro mb w hS; simp only [putW]) | (refine append1 (f := waF) hS rfl rfl (.slice q4 m4 c4) rfl rfl (tk, ky, al) ?_ ?_ ?_ ?_ ?_ ?_; rfl; (focus (simp [waF, Value.oneCell']; done)); rfl; (focus (rw [HM.out]; simp [maxLen]; omega)); (focus (rw [HM.out]; omega)); clear hS; intro v' w hS; simp only [putW]) | (refine load1 hS rfl rfl rfl rfl ?_; simp only [putW]) | (refine loadAll hS rfl rfl rfl ?_ ?_; rfl; simp only [putW]) | (refine loadPart hS rfl rfl rfl ?_ rfl ?_; rfl; simp only [putW]) | (refine store1 hS rfl rfl rfl rfl rfl ?_ ?_; (focus (simp; done)); clear hS; intro w hS; simp only [evW, putW] at hS; try simp only [putW]) | (refine storeAll hS rfl rfl rfl rfl ?_ ?_ ?_ ?_; rfl; (focus (simp [Value.oneCell']; done)); rfl; clear hS; intro w hS; try simp only [putW]) | (refine storeN hS rfl rfl rfl rfl ?_ ?_ ?_ ?_; rfl; (focus (simp [Value.oneCell']; done)); (focus (simp; done)); clear hS; intro w hS; simp at hS; try simp only [putW]) | (refine alloc hS rfl rfl ?_; clear hS; intro mb w hS; simp only [putW]) | (refine box1 hS rfl rfl rfl rfl ?_; clear hS; intro mb w hS; try simp only [evW, putW] at hS; simp only [putW]) | (refine boxN hS rfl rfl rfl ?_; clear hS; intro mb w hS; simp only [putW]))
        go_roundg g
        case measure => omega
        case rel => exact ⟨k + 1, by omega, by go_num, by rw [HX2.out]; exact hS.conv⟩
end
end Go.Proofs.Ytojdkioimklhmaa
