/-
  LatchShared: the plain law, the walk and the given row.
-/
import Derived.Test.YtojdkioimklhmaaLaAwake
import Derived.Test.YtojdkioimklhmaaSlA
import Derived.Test.YtojdkioimklhmaaRows
import Derived.Deep.CutRange
import Derived.WalkKit
import Derived.ProofKit
import Derived.OpenShut
import Derived.ShutString
import Derived.ChangeOld
import Derived.Below
set_option linter.unusedSimpArgs false
set_option linter.unusedVariables false
namespace Go.Proofs.Ytojdkioimklhmaa.LatchSharedDone
open Go.ChangeShapes Go.WideShapes Go.ChangeAt Go.RowKit Go.Proofs.Ytojdkioimklhmaa Go.Proofs.Ytojdkioimklhmaa.Sl

/-- The tasks a, a + 1, .. (d of them). -/
def hasN : Nat → Nat → List (Int × Unit)
  | 0, _ => []
  | d + 1, a => ((a : Int), ()) :: hasN d (a + 1)
theorem hasN_len : ∀ d a : Nat, (hasN d a).length = d
  | 0, _ => rfl
  | d + 1, a => by rw [hasN, List.length_cons, hasN_len d (a + 1)]
theorem hasN_end : ∀ d a : Nat, hasN (d + 1) a = hasN d a ++ [(((a + d : Nat) : Int), ())]
  | 0, a => rfl
  | d + 1, a => by
    rw [hasN, hasN_end d (a + 1), hasN, List.cons_append, show a + 1 + d = a + (d + 1) by omega]
theorem hasN_keys : ∀ (d a : Nat) (x : Int), x ∈ mkeys (hasN d a) → (a : Int) ≤ x ∧ x < (a : Int) + d
  | 0, _, _, h => by cases h
  | d + 1, a, x, h => by
    rcases List.mem_cons.1 (show x ∈ ((a : Int) :: mkeys (hasN d (a + 1))) from h) with rfl | h
    · omega
    · have := hasN_keys d (a + 1) x h
      omega
theorem hasN_none {d a : Nat} {x : Int} (h : ¬ ((a : Int) ≤ x ∧ x < (a : Int) + d)) : mget (hasN d a) x = none := mget_none.2 fun hm => h (hasN_keys d a x hm)
theorem hasN_put (d a : Nat) : mput (hasN d a) ((a + d : Nat) : Int) () = hasN (d + 1) a := by
  have h : findL (hasN d a) ((a + d : Nat) : Int) 0 = none := by
    have h2 := hasN_none (d := d) (a := a) (x := ((a + d : Nat) : Int)) (by omega)
    unfold mget at h2
    simpa using h2
  unfold mput
  rw [h, hasN_end]
theorem hasN_del (d a : Nat) : mdel (hasN (d + 1) a) (a : Int) = hasN d (a + 1) := by
  have h2 : mdel (hasN d (a + 1)) (a : Int) = hasN d (a + 1) := mdel_absent (by rw [hasN_none (by omega)]; rfl)
  unfold mdel at h2 ⊢
  rw [hasN, List.filter_cons, if_neg (by simp), h2]
/-- The table: i tasks share the latch. -/
def sharedP (key : Int) (i : Nat) : PLts := if i = 0 then [] else [(key, ⟨hasN i 0, false, []⟩)]
theorem at_shared (key : Int) (i : Nat) : atKey (sharedP key i) key = ⟨hasN i 0, false, []⟩ := by
  unfold sharedP atKey
  by_cases h : i = 0
  · rw [if_pos h]
    subst h
    rfl
  · rw [if_neg h, mget_cons, if_pos rfl]
    rfl
theorem put_shared (key : Int) (i : Nat) (l : LtP) : mput (sharedP key i) key l = [(key, l)] := by
  unfold sharedP
  by_cases h : i = 0
  · rw [if_pos h]
    rfl
  · rw [if_neg h]
    unfold mput
    simp [findL]
theorem holds_shared {key x : Int} {i : Nat} (h : (i : Int) ≤ x) : holdsP (sharedP key i) x key = 0 := by
  unfold holdsP sharedP
  by_cases h0 : i = 0
  · rw [if_pos h0]
    rfl
  · rw [if_neg h0, mget_cons, if_pos rfl]
    show (if (mget (hasN i 0) x).isSome = true then _ else _) = _
    rw [hasN_none (by omega)]
    rfl
theorem may_shared {key x : Int} {i : Nat} (h : (i : Int) ≤ x) : mayAsk (sharedP key i) [] x key = true := by
  unfold mayAsk
  rw [holds_shared h]
  rfl
theorem ask_shared (key : Int) (i : Nat) : askL (atKey (sharedP key i) key) (i : Int) false = (true, ⟨hasN (i + 1) 0, false, []⟩) := by
  rw [at_shared]
  have h := hasN_put i 0
  rw [Nat.zero_add] at h
  unfold askL
  rw [if_pos rfl]
  unfold grantP queued
  simp [h]
theorem next_shared (key : Int) (i : Nat) : mput (sharedP key i) key ⟨hasN (i + 1) 0, false, []⟩ = sharedP key (i + 1) := by
  rw [put_shared]
  unfold sharedP
  rw [if_neg (by omega)]
/-- What the table is behind k of them. -/
def endP (key : Int) (c i : Nat) : PLts := if i < c then [(key, ⟨hasN (c - i) i, false, [((c : Int), true)]⟩)] else [(key, ⟨[((c : Int), ())], true, []⟩)]
/-- .. with one that wants it alone behind them: from task i on. -/
def leftP (key : Int) (c i : Nat) : PLts := [(key, ⟨hasN (c - i) i, false, [((c : Int), true)]⟩)]
theorem ask_alone (key : Int) {c : Nat} (hc : 0 < c) : askL (atKey (sharedP key c) key) (c : Int) true = (false, ⟨hasN c 0, false, [((c : Int), true)]⟩) := by
  rw [at_shared]
  unfold askL
  rw [if_pos rfl]
  unfold grantP queued
  simp [hasN_len, hc]
theorem busy_left (key : Int) (c i : Nat) (PL : PLts) : mayAsk PL [((c : Int), key)] (c : Int) key = false := by
  unfold mayAsk
  rw [mget_cons, if_pos rfl]
  rfl
theorem free_left {c i : Nat} (hi : i + 1 < c) : freeP ⟨hasN (c - i) i, false, [((c : Int), true)]⟩ (i : Int) = ([], ⟨hasN (c - (i + 1)) (i + 1), false, [((c : Int), true)]⟩) := by
  obtain ⟨d, hd⟩ : ∃ d, c - i = d + 1 := ⟨c - i - 1, by omega⟩
  have hd2 : c - (i + 1) = d := by omega
  have hne : ¬ (c : Int) = (i : Int) := by omega
  have ho : others [((c : Int), true)] (i : Int) = [((c : Int), true)] := others_none fun x hx => by rw [List.mem_singleton.1 hx]; exact hne
  unfold freeP
  rw [ho]
  have hw : without ⟨hasN (c - i) i, false, [((c : Int), true)]⟩ (i : Int) = ⟨hasN (c - (i + 1)) (i + 1), false, [((c : Int), true)]⟩ := by
    unfold without
    simp only [ho]
    rw [hd, hd2, hasN_del]
    simp
  rw [hw]
  exact settle_none (by
    unfold grantP
    simp only
    rw [if_pos (.inr ⟨trivial, by rw [hasN_len]; omega⟩)]) _
theorem free_last {c i : Nat} (hi : i + 1 = c) : freeP ⟨hasN (c - i) i, false, [((c : Int), true)]⟩ (i : Int) = ([(c : Int)], ⟨[((c : Int), ())], true, []⟩) := by
  subst hi
  have hne : ¬ ((i + 1 : Nat) : Int) = (i : Int) := by omega
  have ho : others [(((i + 1 : Nat) : Int), true)] (i : Int) = [(((i + 1 : Nat) : Int), true)] := others_none fun x hx => by rw [List.mem_singleton.1 hx]; exact hne
  have hw : without ⟨hasN (i + 1 - i) i, false, [(((i + 1 : Nat) : Int), true)]⟩ (i : Int) = ⟨[], false, [(((i + 1 : Nat) : Int), true)]⟩ := by
    unfold without
    simp only [ho]
    rw [show i + 1 - i = 0 + 1 by omega, hasN_del]
    simp [hasN, mget_cons]
  unfold freeP
  rw [ho, hw]
  rfl
theorem shapeL {w0 w : World} {S : List Chunk} {v : Value} {b m : Nat} {l : List Int} {t : TypeId} (h : Sat w0 ((b, sl 1 i64 l t v) :: S) w) (hl : l.length = m) : ∃ q c, v = .slice q m c := by
  subst hl
  rcases h.slCases with ⟨h1, h2, _⟩ | ⟨c, h1, _⟩
  · exact ⟨_, _, by rw [h1, h2]; rfl⟩
  · exact ⟨_, _, h1⟩
section
variable {w0 : World}
set_option maxRecDepth 100000 in
set_option maxHeartbeats 4000000 in
theorem core (key n : Int) (hn0 : 0 ≤ n) (hn1 : n < 256) : Calls Try.prog 5 #[.int .i64 key, .int .u8 n] w0 fun e w' => e = .returned (.bool true) ∧ Sat w0 [] w' := by
  have hS := Sat.refl w0
  obtain ⟨m, rfl⟩ : ∃ m : Nat, n = m := ⟨n.toNat, by omega⟩
  go_enter Try.func5, Try.ntmps5
  go_wp2_with (first | (guard_target =~ Calls _ 9 _ _ _; refine Stopped.out ?_) | (refine load1 hS rfl rfl rfl rfl ?_; simp only [putW]) | (refine loadAll hS rfl rfl rfl ?_ ?_; rfl; simp only [putW]) | (refine loadPart hS rfl rfl rfl ?_ rfl ?_; rfl; simp only [putW]) | (refine store1 hS rfl rfl rfl rfl rfl ?_ ?_; (focus (simp; done)); clear hS; intro w hS; simp only [evW, putW] at hS; try simp only [putW]) | (refine storeAll hS rfl rfl rfl rfl ?_ ?_ ?_ ?_; rfl; (focus (simp [Value.oneCell']; done)); rfl; clear hS; intro w hS; try simp only [putW]) | (refine storeN hS rfl rfl rfl rfl ?_ ?_ ?_ ?_; rfl; (focus (simp [Value.oneCell']; done)); (focus (simp; done)); clear hS; intro w hS; simp at hS; try simp only [putW]) | (refine alloc hS rfl rfl ?_; clear hS; intro mb w hS; simp only [putW]) | (refine box1 hS rfl rfl rfl rfl ?_; clear hS; intro mb w hS; try simp only [evW, putW] at hS; simp only [putW]) | (refine boxN hS rfl rfl rfl ?_; clear hS; intro mb w hS; simp only [putW]))
  refine ⟨?_⟩
  refine Calls.mono tabNew_any ?_
  clear hS
  rintro _ w ⟨t, rfl, hS⟩
  simp only [putW]
  go_upto_region 3 with (first | (refine load1 hS rfl rfl rfl rfl ?_; simp only [putW]) | (refine loadAll hS rfl rfl rfl ?_ ?_; rfl; simp only [putW]) | (refine loadPart hS rfl rfl rfl ?_ rfl ?_; rfl; simp only [putW]) | (refine store1 hS rfl rfl rfl rfl rfl ?_ ?_; (focus (simp; done)); clear hS; intro w hS; simp only [evW, putW] at hS; try simp only [putW]) | (refine storeAll hS rfl rfl rfl rfl ?_ ?_ ?_ ?_; rfl; (focus (simp [Value.oneCell']; done)); rfl; clear hS; intro w hS; try simp only [putW]) | (refine storeN hS rfl rfl rfl rfl ?_ ?_ ?_ ?_; rfl; (focus (simp [Value.oneCell']; done)); (focus (simp; done)); clear hS; intro w hS; simp at hS; try simp only [putW]) | (refine alloc hS rfl rfl ?_; clear hS; intro mb w hS; simp only [putW]) | (refine box1 hS rfl rfl rfl rfl ?_; clear hS; intro mb w hS; try simp only [evW, putW] at hS; simp only [putW]) | (refine boxN hS rfl rfl rfl ?_; clear hS; intro mb w hS; simp only [putW]))
  obtain ⟨c, hc, hc1, hc30⟩ : ∃ c : Nat, 1 + (m : Int) % 30 = c ∧ 1 ≤ c ∧ c ≤ 30 := ⟨1 + m % 30, by omega, by omega, by omega⟩
  rw [hc]
  clear hc
  go_wp2_with (first | (refine load1 hS rfl rfl rfl rfl ?_; simp only [putW]) | (refine loadAll hS rfl rfl rfl ?_ ?_; rfl; simp only [putW]) | (refine loadPart hS rfl rfl rfl ?_ rfl ?_; rfl; simp only [putW]) | (refine store1 hS rfl rfl rfl rfl rfl ?_ ?_; (focus (simp; done)); clear hS; intro w hS; simp only [evW, putW] at hS; try simp only [putW]) | (refine storeAll hS rfl rfl rfl rfl ?_ ?_ ?_ ?_; rfl; (focus (simp [Value.oneCell']; done)); rfl; clear hS; intro w hS; try simp only [putW]) | (refine storeN hS rfl rfl rfl rfl ?_ ?_ ?_ ?_; rfl; (focus (simp [Value.oneCell']; done)); (focus (simp; done)); clear hS; intro w hS; simp at hS; try simp only [putW]) | (refine alloc hS rfl rfl ?_; clear hS; intro mb w hS; simp only [putW]) | (refine box1 hS rfl rfl rfl rfl ?_; clear hS; intro mb w hS; try simp only [evW, putW] at hS; simp only [putW]) | (refine boxN hS rfl rfl rfl ?_; clear hS; intro mb w hS; simp only [putW]))
  go_loopg [7] c (fun g i wr => ∃ k : Nat, k + g = c ∧ i = .int .i64 k ∧ Sat w0 ((t, TabC (sharedP key k) []) :: []) wr)
  case atStart => exact ⟨0, by omega, rfl, hS⟩
  case round =>
    clear hS
    obtain ⟨k, hkg, rfl, hS⟩ := hrel
    cases gk with
    | succ g =>
      have hkc : k < c := by omega
      have e1 : decide ((k : Int) < (c : Int)) = true := decide_eq_true (by omega)
      go_wp2_with (first | (guard_target =~ Calls _ 12 _ _ _; refine Stopped.out ?_) | (refine load1 hS rfl rfl rfl rfl ?_; simp only [putW]) | (refine loadAll hS rfl rfl rfl ?_ ?_; rfl; simp only [putW]) | (refine loadPart hS rfl rfl rfl ?_ rfl ?_; rfl; simp only [putW]) | (refine store1 hS rfl rfl rfl rfl rfl ?_ ?_; (focus (simp; done)); clear hS; intro w hS; simp only [evW, putW] at hS; try simp only [putW]) | (refine storeAll hS rfl rfl rfl rfl ?_ ?_ ?_ ?_; rfl; (focus (simp [Value.oneCell']; done)); rfl; clear hS; intro w hS; try simp only [putW]) | (refine storeN hS rfl rfl rfl rfl ?_ ?_ ?_ ?_; rfl; (focus (simp [Value.oneCell']; done)); (focus (simp; done)); clear hS; intro w hS; simp at hS; try simp only [putW]) | (refine alloc hS rfl rfl ?_; clear hS; intro mb w hS; simp only [putW]) | (refine box1 hS rfl rfl rfl rfl ?_; clear hS; intro mb w hS; try simp only [evW, putW] at hS; simp only [putW]) | (refine boxN hS rfl rfl rfl ?_; clear hS; intro mb w hS; simp only [putW]))
      refine ⟨?_⟩
      refine Calls.mono (ask_pl (may_shared (Int.le_refl _)) (by rw [at_shared]; exact (show (0 : Nat) + 1 ≤ 1000000 by decide)) (ask_shared key k) hS) ?_
      clear hS
      rintro _ w ⟨rfl, hS⟩
      rw [next_shared] at hS
      simp only [putW]
      go_wp2_with (first | (refine load1 hS rfl rfl rfl rfl ?_; simp only [putW]) | (refine loadAll hS rfl rfl rfl ?_ ?_; rfl; simp only [putW]) | (refine loadPart hS rfl rfl rfl ?_ rfl ?_; rfl; simp only [putW]) | (refine store1 hS rfl rfl rfl rfl rfl ?_ ?_; (focus (simp; done)); clear hS; intro w hS; simp only [evW, putW] at hS; try simp only [putW]) | (refine storeAll hS rfl rfl rfl rfl ?_ ?_ ?_ ?_; rfl; (focus (simp [Value.oneCell']; done)); rfl; clear hS; intro w hS; try simp only [putW]) | (refine storeN hS rfl rfl rfl rfl ?_ ?_ ?_ ?_; rfl; (focus (simp [Value.oneCell']; done)); (focus (simp; done)); clear hS; intro w hS; simp at hS; try simp only [putW]) | (refine alloc hS rfl rfl ?_; clear hS; intro mb w hS; simp only [putW]) | (refine box1 hS rfl rfl rfl rfl ?_; clear hS; intro mb w hS; try simp only [evW, putW] at hS; simp only [putW]) | (refine boxN hS rfl rfl rfl ?_; clear hS; intro mb w hS; simp only [putW]))
      go_roundg g
      case measure => omega
      case rel => exact ⟨k + 1, by omega, by go_num, hS⟩
    | zero =>
      have hkc : k = c := by omega
      subst hkc
      clear hkg
      go_wp2_with (first | (guard_target =~ Calls _ 12 _ _ _; refine Stopped.out ?_) | (refine load1 hS rfl rfl rfl rfl ?_; simp only [putW]) | (refine loadAll hS rfl rfl rfl ?_ ?_; rfl; simp only [putW]) | (refine loadPart hS rfl rfl rfl ?_ rfl ?_; rfl; simp only [putW]) | (refine store1 hS rfl rfl rfl rfl rfl ?_ ?_; (focus (simp; done)); clear hS; intro w hS; simp only [evW, putW] at hS; try simp only [putW]) | (refine storeAll hS rfl rfl rfl rfl ?_ ?_ ?_ ?_; rfl; (focus (simp [Value.oneCell']; done)); rfl; clear hS; intro w hS; try simp only [putW]) | (refine storeN hS rfl rfl rfl rfl ?_ ?_ ?_ ?_; rfl; (focus (simp [Value.oneCell']; done)); (focus (simp; done)); clear hS; intro w hS; simp at hS; try simp only [putW]) | (refine alloc hS rfl rfl ?_; clear hS; intro mb w hS; simp only [putW]) | (refine box1 hS rfl rfl rfl rfl ?_; clear hS; intro mb w hS; try simp only [evW, putW] at hS; simp only [putW]) | (refine boxN hS rfl rfl rfl ?_; clear hS; intro mb w hS; simp only [putW]))
      refine ⟨?_⟩
      refine Calls.mono (ask_pl (may_shared (Int.le_refl _)) (by rw [at_shared]; exact (show (0 : Nat) + 1 ≤ 1000000 by decide)) (ask_alone key (by omega)) hS) ?_
      clear hS
      rintro _ w ⟨rfl, hS⟩
      rw [put_shared] at hS
      have hS1 : Sat w0 ((t, TabC [(key, ⟨hasN k 0, false, [((k : Int), true)]⟩)] [((k : Int), key)]) :: []) w := hS
      clear hS
      have hS := hS1
      clear hS1
      simp only [putW]
      go_wp2_with (first | (guard_target =~ Calls _ 12 _ _ _; refine Stopped.out ?_) | (refine load1 hS rfl rfl rfl rfl ?_; simp only [putW]) | (refine loadAll hS rfl rfl rfl ?_ ?_; rfl; simp only [putW]) | (refine loadPart hS rfl rfl rfl ?_ rfl ?_; rfl; simp only [putW]) | (refine store1 hS rfl rfl rfl rfl rfl ?_ ?_; (focus (simp; done)); clear hS; intro w hS; simp only [evW, putW] at hS; try simp only [putW]) | (refine storeAll hS rfl rfl rfl rfl ?_ ?_ ?_ ?_; rfl; (focus (simp [Value.oneCell']; done)); rfl; clear hS; intro w hS; try simp only [putW]) | (refine storeN hS rfl rfl rfl rfl ?_ ?_ ?_ ?_; rfl; (focus (simp [Value.oneCell']; done)); (focus (simp; done)); clear hS; intro w hS; simp at hS; try simp only [putW]) | (refine alloc hS rfl rfl ?_; clear hS; intro mb w hS; simp only [putW]) | (refine box1 hS rfl rfl rfl rfl ?_; clear hS; intro mb w hS; try simp only [evW, putW] at hS; simp only [putW]) | (refine boxN hS rfl rfl rfl ?_; clear hS; intro mb w hS; simp only [putW]))
      refine ⟨?_⟩
      refine Calls.mono (ask_busy (busy_left key k 0 _) hS) ?_
      clear hS
      rintro _ w ⟨rfl, hS⟩
      simp only [putW]
      go_wp2_with (first | (refine load1 hS rfl rfl rfl rfl ?_; simp only [putW]) | (refine loadAll hS rfl rfl rfl ?_ ?_; rfl; simp only [putW]) | (refine loadPart hS rfl rfl rfl ?_ rfl ?_; rfl; simp only [putW]) | (refine store1 hS rfl rfl rfl rfl rfl ?_ ?_; (focus (simp; done)); clear hS; intro w hS; simp only [evW, putW] at hS; try simp only [putW]) | (refine storeAll hS rfl rfl rfl rfl ?_ ?_ ?_ ?_; rfl; (focus (simp [Value.oneCell']; done)); rfl; clear hS; intro w hS; try simp only [putW]) | (refine storeN hS rfl rfl rfl rfl ?_ ?_ ?_ ?_; rfl; (focus (simp [Value.oneCell']; done)); (focus (simp; done)); clear hS; intro w hS; simp at hS; try simp only [putW]) | (refine alloc hS rfl rfl ?_; clear hS; intro mb w hS; simp only [putW]) | (refine box1 hS rfl rfl rfl rfl ?_; clear hS; intro mb w hS; try simp only [evW, putW] at hS; simp only [putW]) | (refine boxN hS rfl rfl rfl ?_; clear hS; intro mb w hS; simp only [putW]))
      go_loopg [14] k (fun g i wr => ∃ (a : Nat) (W : Wts), a + g = k ∧ i = .int .i64 a ∧ Sat w0 ((t, TabC (endP key k a) W) :: []) wr)
      case atStart => exact ⟨0, _, by omega, rfl, by unfold endP; rw [if_pos (by omega)]; exact hS⟩
      case round =>
        clear hS
        obtain ⟨a, W, hag, rfl, hS⟩ := hrel
        cases gk with
        | zero =>
          have hak : a = k := by omega
          subst hak
          clear hag
          have HH : Bx (holdsP (endP key a a) (a : Int) key = 2) := ⟨by
            unfold holdsP endP
            rw [if_neg (Nat.lt_irrefl _), mget_cons, if_pos rfl]
            show (if (mget [((a : Int), ())] (a : Int)).isSome = true then _ else _) = _
            rw [mget_cons, if_pos rfl]
            rfl⟩
          go_wp2_with (first | (guard_target =~ Calls _ 13 _ _ _; refine Stopped.out ?_) | (refine load1 hS rfl rfl rfl rfl ?_; simp only [putW]) | (refine loadAll hS rfl rfl rfl ?_ ?_; rfl; simp only [putW]) | (refine loadPart hS rfl rfl rfl ?_ rfl ?_; rfl; simp only [putW]) | (refine store1 hS rfl rfl rfl rfl rfl ?_ ?_; (focus (simp; done)); clear hS; intro w hS; simp only [evW, putW] at hS; try simp only [putW]) | (refine storeAll hS rfl rfl rfl rfl ?_ ?_ ?_ ?_; rfl; (focus (simp [Value.oneCell']; done)); rfl; clear hS; intro w hS; try simp only [putW]) | (refine storeN hS rfl rfl rfl rfl ?_ ?_ ?_ ?_; rfl; (focus (simp [Value.oneCell']; done)); (focus (simp; done)); clear hS; intro w hS; simp at hS; try simp only [putW]) | (refine alloc hS rfl rfl ?_; clear hS; intro mb w hS; simp only [putW]) | (refine box1 hS rfl rfl rfl rfl ?_; clear hS; intro mb w hS; try simp only [evW, putW] at hS; simp only [putW]) | (refine boxN hS rfl rfl rfl ?_; clear hS; intro mb w hS; simp only [putW]))
          refine ⟨?_⟩
          refine Calls.mono (holds_any hS) ?_
          clear hS
          rintro _ w ⟨rfl, hS⟩
          rw [HH.out]
          simp only [putW]
          go_wp2_with (first | (go_at_call 14; refine Calls.mono (awakeL_any) ?_; rintro _ w2 ⟨rfl, h2⟩; replace hS := hS.frame h2; clear h2; (try simp only [List.cons_append, List.nil_append] at hS); simp only [putW]) | (refine load1 hS rfl rfl rfl rfl ?_; simp only [putW]) | (refine loadAll hS rfl rfl rfl ?_ ?_; rfl; simp only [putW]) | (refine loadPart hS rfl rfl rfl ?_ rfl ?_; rfl; simp only [putW]) | (refine store1 hS rfl rfl rfl rfl rfl ?_ ?_; (focus (simp; done)); clear hS; intro w hS; simp only [evW, putW] at hS; try simp only [putW]) | (refine storeAll hS rfl rfl rfl rfl ?_ ?_ ?_ ?_; rfl; (focus (simp [Value.oneCell']; done)); rfl; clear hS; intro w hS; try simp only [putW]) | (refine storeN hS rfl rfl rfl rfl ?_ ?_ ?_ ?_; rfl; (focus (simp [Value.oneCell']; done)); (focus (simp; done)); clear hS; intro w hS; simp at hS; try simp only [putW]) | (refine alloc hS rfl rfl ?_; clear hS; intro mb w hS; simp only [putW]) | (refine box1 hS rfl rfl rfl rfl ?_; clear hS; intro mb w hS; try simp only [evW, putW] at hS; simp only [putW]) | (refine boxN hS rfl rfl rfl ?_; clear hS; intro mb w hS; simp only [putW]))
          go_ret
          exact ⟨rfl, hS.nothing⟩
        | succ g =>
          have hak : a < k := by omega
          have hk30 : k ≤ 30 := hc30
          have e1 : decide ((a : Int) < (k : Int)) = true := decide_eq_true (by omega)
          have HE : Bx (endP key k a = [(key, ⟨hasN (k - a) a, false, [((k : Int), true)]⟩)]) := ⟨by unfold endP; rw [if_pos hak]⟩
          rw [HE.out] at hS
          go_wp2_with (first | (guard_target =~ Calls _ 11 _ _ _; refine Stopped.out ?_) | (refine load1 hS rfl rfl rfl rfl ?_; simp only [putW]) | (refine loadAll hS rfl rfl rfl ?_ ?_; rfl; simp only [putW]) | (refine loadPart hS rfl rfl rfl ?_ rfl ?_; rfl; simp only [putW]) | (refine store1 hS rfl rfl rfl rfl rfl ?_ ?_; (focus (simp; done)); clear hS; intro w hS; simp only [evW, putW] at hS; try simp only [putW]) | (refine storeAll hS rfl rfl rfl rfl ?_ ?_ ?_ ?_; rfl; (focus (simp [Value.oneCell']; done)); rfl; clear hS; intro w hS; try simp only [putW]) | (refine storeN hS rfl rfl rfl rfl ?_ ?_ ?_ ?_; rfl; (focus (simp [Value.oneCell']; done)); (focus (simp; done)); clear hS; intro w hS; simp at hS; try simp only [putW]) | (refine alloc hS rfl rfl ?_; clear hS; intro mb w hS; simp only [putW]) | (refine box1 hS rfl rfl rfl rfl ?_; clear hS; intro mb w hS; try simp only [evW, putW] at hS; simp only [putW]) | (refine boxN hS rfl rfl rfl ?_; clear hS; intro mb w hS; simp only [putW]))
          refine ⟨?_⟩
          refine Calls.mono (free_pl (task := (a : Int)) (fun e he => by rw [List.mem_singleton.1 he]; exact (show (1 : Nat) ≤ 1000 by decide)) (by simp) hS) ?_
          clear hS
          rintro _ w ⟨v, wk, -, rfl, hS⟩
          by_cases hlast : a + 1 < k
          · have HW : Bx (wokenP (a : Int) [(key, ⟨hasN (k - a) a, false, [((k : Int), true)]⟩)] = [] ∧ freeAll (a : Int) [(key, ⟨hasN (k - a) a, false, [((k : Int), true)]⟩)] = endP key k (a + 1)) := ⟨by
              unfold wokenP freeAll endP
              rw [if_pos hlast]
              simp only [List.flatMap_cons, List.flatMap_nil, List.map_cons, List.map_nil, free_left hlast, List.append_nil, and_self]⟩
            rw [HW.out.1, HW.out.2, show sortI [] = [] by simp [sortI]] at hS
            obtain ⟨q5, c5, hv5⟩ := shapeL (m := 0) hS rfl
            subst hv5
            have d1 : decide ((a : Int) < (k : Int) - 1) = true := decide_eq_true (by omega)
            have d2 : ((a : Int) == (k : Int) - 1) = false := by simp; omega
            simp only [putW]
            go_wp2_with (first | (refine load1 hS rfl rfl rfl rfl ?_; simp only [putW]) | (refine loadAll hS rfl rfl rfl ?_ ?_; rfl; simp only [putW]) | (refine loadPart hS rfl rfl rfl ?_ rfl ?_; rfl; simp only [putW]) | (refine store1 hS rfl rfl rfl rfl rfl ?_ ?_; (focus (simp; done)); clear hS; intro w hS; simp only [evW, putW] at hS; try simp only [putW]) | (refine storeAll hS rfl rfl rfl rfl ?_ ?_ ?_ ?_; rfl; (focus (simp [Value.oneCell']; done)); rfl; clear hS; intro w hS; try simp only [putW]) | (refine storeN hS rfl rfl rfl rfl ?_ ?_ ?_ ?_; rfl; (focus (simp [Value.oneCell']; done)); (focus (simp; done)); clear hS; intro w hS; simp at hS; try simp only [putW]) | (refine alloc hS rfl rfl ?_; clear hS; intro mb w hS; simp only [putW]) | (refine box1 hS rfl rfl rfl rfl ?_; clear hS; intro mb w hS; try simp only [evW, putW] at hS; simp only [putW]) | (refine boxN hS rfl rfl rfl ?_; clear hS; intro mb w hS; simp only [putW]))
            go_roundg g
            case measure => omega
            case rel => exact ⟨a + 1, _, by omega, by go_num, hS.tail⟩
          · have hlk : a + 1 = k := by omega
            have HW : Bx (wokenP (a : Int) [(key, ⟨hasN (k - a) a, false, [((k : Int), true)]⟩)] = [(k : Int)] ∧ freeAll (a : Int) [(key, ⟨hasN (k - a) a, false, [((k : Int), true)]⟩)] = endP key k (a + 1)) := ⟨by
              unfold wokenP freeAll endP
              rw [if_neg hlast]
              simp only [List.flatMap_cons, List.flatMap_nil, List.map_cons, List.map_nil, free_last hlk, List.append_nil, and_self]⟩
            rw [HW.out.1, HW.out.2, show sortI [(k : Int)] = [(k : Int)] by simp [sortI]] at hS
            have d1 : decide ((a : Int) < (k : Int) - 1) = false := decide_eq_false (by omega)
            have d2 : ((a : Int) == (k : Int) - 1) = true := by simp; omega
            simp only [putW]
            go_wp2_with (first | (refine buildSlice1 (c := #[.int .i64 (k : Int)]) hS rfl rfl rfl ?_ ?_ ?_ ?_; rfl; rfl; rfl; clear hS; intro mb w hS; simp only [putW]) | (guard_target =~ Calls _ 15 _ _ _; refine Stopped.out ?_) | (refine load1 hS rfl rfl rfl rfl ?_; simp only [putW]) | (refine loadAll hS rfl rfl rfl ?_ ?_; rfl; simp only [putW]) | (refine loadPart hS rfl rfl rfl ?_ rfl ?_; rfl; simp only [putW]) | (refine store1 hS rfl rfl rfl rfl rfl ?_ ?_; (focus (simp; done)); clear hS; intro w hS; simp only [evW, putW] at hS; try simp only [putW]) | (refine storeAll hS rfl rfl rfl rfl ?_ ?_ ?_ ?_; rfl; (focus (simp [Value.oneCell']; done)); rfl; clear hS; intro w hS; try simp only [putW]) | (refine storeN hS rfl rfl rfl rfl ?_ ?_ ?_ ?_; rfl; (focus (simp [Value.oneCell']; done)); (focus (simp; done)); clear hS; intro w hS; simp at hS; try simp only [putW]) | (refine alloc hS rfl rfl ?_; clear hS; intro mb w hS; simp only [putW]) | (refine box1 hS rfl rfl rfl rfl ?_; clear hS; intro mb w hS; try simp only [evW, putW] at hS; simp only [putW]) | (refine boxN hS rfl rfl rfl ?_; clear hS; intro mb w hS; simp only [putW]))
            refine ⟨?_⟩
            have hra : RI w [(k : Int)] v := (hS.conv (S' := (blk v, sl 1 i64 [(k : Int)] 3 v) :: [])).readsSl fun _ _ => trivial
            have hrb : RI w [(k : Int)] (.slice (some ⟨mb, 0, none⟩) 1 1) := ((hS.conv (S' := (mb, cells #[.int .i64 (k : Int)] 3) :: [])).toSlc (l := [(k : Int)]) (cap := 1) (n := 1) (f := i64) (by simp) (by simp) (by simp [maxLen]) (by simp [Sl.one]) (fun _ _ => rfl)).readsSlc (g := mb) (n := 1) (f := i64) (L := [(k : Int)]) (cap := 1) (t := 3) fun _ _ => trivial
            refine Calls.mono (sameInts_any hra hrb) ?_
            rintro _ w2 ⟨rfl, h2⟩
            replace hS := hS.frame h2
            clear h2 hra hrb
            simp only [List.nil_append] at hS
            simp only [decide_true, putW]
            go_wp2_with (first | (refine load1 hS rfl rfl rfl rfl ?_; simp only [putW]) | (refine loadAll hS rfl rfl rfl ?_ ?_; rfl; simp only [putW]) | (refine loadPart hS rfl rfl rfl ?_ rfl ?_; rfl; simp only [putW]) | (refine store1 hS rfl rfl rfl rfl rfl ?_ ?_; (focus (simp; done)); clear hS; intro w hS; simp only [evW, putW] at hS; try simp only [putW]) | (refine storeAll hS rfl rfl rfl rfl ?_ ?_ ?_ ?_; rfl; (focus (simp [Value.oneCell']; done)); rfl; clear hS; intro w hS; try simp only [putW]) | (refine storeN hS rfl rfl rfl rfl ?_ ?_ ?_ ?_; rfl; (focus (simp [Value.oneCell']; done)); (focus (simp; done)); clear hS; intro w hS; simp at hS; try simp only [putW]) | (refine alloc hS rfl rfl ?_; clear hS; intro mb w hS; simp only [putW]) | (refine box1 hS rfl rfl rfl rfl ?_; clear hS; intro mb w hS; try simp only [evW, putW] at hS; simp only [putW]) | (refine boxN hS rfl rfl rfl ?_; clear hS; intro mb w hS; simp only [putW]))
            go_roundg g
            case measure => omega
            case rel => exact ⟨a + 1, _, by omega, by go_num, hS.tail.tail⟩
end
theorem walk (W : World) {v0 v1 : Value} (h0 : OkL W [.int .i64] [v0]) (h1 : OkL W [.int .u8] [v1]) :
    Calls Try.prog 5 #[v0, v1] W fun e w' => e = .returned (.bool true) ∧ Below W.heap.size W w' := by
  obtain ⟨h0, _⟩ := h0
  obtain ⟨h1, _⟩ := h1
  cases h0 with
  | int _ key _ =>
    cases h1 with
    | int _ n hn =>
      simp [Lit.wf, IntKind.min, IntKind.max, IntKind.bits, IntKind.signed] at hn
      exact (core key n (by omega) (by omega)).mono fun e w' h => ⟨h.1, h.2.base⟩
theorem own : ownKnob Try.prog.godebug = none := by kernel_rfl
theorem laidOut : laidOutB Try.prog = true := by kernel_rfl

set_option maxRecDepth 100000 in
theorem lifted (os : Os) (started : os.Started) (H : Type) (enc : TypeId × Value → H) :
    ReturnsInHanded {} Try.checked os 5 .any (Rows.latchSharedSpec.pre6 enc Try.prog Try.f5 Rows.latchSharedRow.domain false) (Rows.latchSharedSpec.post enc Try.prog Try.f5 false true false false) := by
  refine returnsInHanded_of_change (C := Try.checked) own started (by kernel_rfl) Try.func5
    (ChangeSpec.witness6 (enc := enc) (C := Try.checked) false ⟨#[], #[.int .i64 0, .int .u8 0], []⟩ 8 (by kernel_rfl) (by kernel_rfl) (by kernel_rfl) (by kernel_rfl)) ?_
  intro W base args ds gs before hval0 hW hcnd _
  have hval : ∀ (j : Nat) t v, Try.f5.params[j]? = some t → args[j]? = some v → Value.okWide Try.prog W .any base t v := hval0
  have hW' := hW
  obtain ⟨p, q, hA0, hV, rfl, hfz, hnd⟩ := hW
  have hA : DataW.TrodAll enc Try.prog W 0 (fun _ => true) true Try.f5.params.toList args.toList ds p := hA0
  rw [Try.params5] at hA hval
  obtain ⟨v0, vs0, d0, ds0, p0, q0, hargs, rfl, rfl, h0, r0⟩ := trodAll_cons hA
  obtain ⟨v1, vs1, d1, ds1, p1, q1, rfl, rfl, rfl, h1, r1⟩ := trodAll_cons r0
  obtain ⟨rfl, rfl, rfl⟩ := trodAll_nil r1
  obtain rfl : args = #[v0, v1] := by cases args; simp_all
  obtain ⟨rfl, rfl⟩ := trodVars_none hV
  have k0 := h0
  have lt0 : ∀ x ∈ p0, x.block < W.heap.size := by obtain ⟨m, hm⟩ := k0; exact DataW.trod_lt m _ _ _ hm
  have k1 := h1
  have lt1 : ∀ x ∈ p1, x.block < W.heap.size := by obtain ⟨m, hm⟩ := k1; exact DataW.trod_lt m _ _ _ hm
  have Wk := walk W (argOne (n := 8) (by kernel_rfl) (by kernel_rfl) (hval 0 3 v0 rfl rfl) h0) (argOne (n := 8) (by kernel_rfl) (by kernel_rfl) (hval 1 5 v1 rfl rfl) h1)
  clear hA0 hval0
  refine Wk.mono fun e W' ⟨he, bel⟩ => ?_
  subst he
  exact ⟨_, rfl, _, _, _, [], _, [], hW', trodAll_mk1 (shut_bool Try.underlying4 _), (trodAll_cons_mk (Below.trod laidOut (by kernel_rfl) (of_decide_eq_true (by kernel_rfl)) k0 bel lt0) (trodAll_cons_mk (Below.trod laidOut (by kernel_rfl) (of_decide_eq_true (by kernel_rfl)) k1 bel lt1) trodAll_mk0)), rfl, bel.frame _, fun h => by cases h⟩

theorem over : Rows.latchSharedRow.holds Try.pinned (OpenSpec.ofChange Rows.latchSharedSpec) :=
  OpenClaim.holds_of_wide 5 Try.f5 rfl rfl rfl rfl rfl rfl rfl ⟨rfl, rfl, rfl, rfl, rfl⟩ rfl rfl rfl rfl rfl (by kernel_rfl) Try.func5 (by kernel_rfl)
    (of_decide_eq_true (by kernel_rfl)) (by unfold Func.isWrapper; first | (rw [if_pos (by decide +kernel)]; kernel_rfl) | (rw [if_neg (by decide +kernel)]; exact ⟨rfl, rfl⟩))
    (fun os started H enc _ => lifted os started H enc)

/-- The statement. -/
theorem proved : Rows.LatchSharedSaid := over

end Go.Proofs.Ytojdkioimklhmaa.LatchSharedDone
