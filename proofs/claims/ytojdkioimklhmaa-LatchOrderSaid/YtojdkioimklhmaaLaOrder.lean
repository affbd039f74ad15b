/-
  LatchOrder: the walk and the given row.
-/
import Derived.Test.YtojdkioimklhmaaLaOrderP
import Derived.Test.YtojdkioimklhmaaRows
import Derived.Deep.CutRange
import Derived.WalkKit
import Derived.ProofKit
import Derived.OpenShut
import Derived.ShutString
import Derived.ChangeOld
import Derived.Below
set_option linter.unusedSimpArgs false
set_option linter.unusedVariables false
namespace Go.Proofs.Ytojdkioimklhmaa.LaOrder
open Go.ChangeShapes Go.WideShapes Go.ChangeAt Go.RowKit Go.Proofs.Ytojdkioimklhmaa Go.Proofs.Ytojdkioimklhmaa.Sl Go.Proofs.Ytojdkioimklhmaa.LatchSharedDone

/-- Who has it: k, .., n - 1; who waits: n, .., c - 1. -/
structure StI (f : Nat → Bool) (c k n : Nat) (A : Bool) : Prop where
  lt : k < n
  le : n ≤ c
  al : A = true → n = k + 1
  sh : A = false → n < c → f n = true
def stL (f : Nat → Bool) (c k n : Nat) (A : Bool) : LtP := ⟨hasN (n - k) k, A, qN f (c - n) n⟩
theorem step {f : Nat → Bool} {c k n : Nat} {A : Bool} (h : StI f c k n A) (hn : n < c) : ∃ n2 A2, StI f c (k + 1) n2 A2 ∧ (k + 1 < n → n2 = n) ∧ (k + 1 = n → n < n2) ∧ freeP (stL f c k n A) (k : Int) = (tk (n2 - n) n, stL f c (k + 1) n2 A2) := by
  by_cases h1 : k + 1 < n
  · have hA : A = false := by
      cases A with
      | false => rfl
      | true => have := h.al rfl; omega
    subst hA
    refine ⟨n, false, ⟨h1, h.le, fun e => (by cases e), h.sh⟩, fun _ => rfl, fun e => (by omega), ?_⟩
    unfold stL
    rw [free_mid f h1 (by omega) (h.sh rfl hn), Nat.sub_self]
    rfl
  · have h2 : n = k + 1 := by have := h.lt; omega
    subst h2
    obtain ⟨n2, A2, a1, a2, a3, a4, a5⟩ := free_end f (k := k) (c := c) A hn
    refine ⟨n2, A2, ⟨a1, a2, a3, a4⟩, fun e => (by omega), fun _ => a1, ?_⟩
    unfold stL
    rw [show k + 1 - k = 1 by omega]
    exact a5
/-- The table: i tasks have asked. -/
def askedP (f : Nat → Bool) (key : Int) (i : Nat) : PLts := [(key, ⟨hasN 1 0, true, qN f (i - 1) 1⟩)]
def flg (L : List Bool) (i : Nat) : Bool := (L[i]?).getD true
theorem at_one (key : Int) (l : LtP) : atKey [(key, l)] key = l := by
  unfold atKey
  rw [mget_cons, if_pos rfl]
  rfl
theorem put_one (key : Int) (l l2 : LtP) : mput [(key, l)] key l2 = [(key, l2)] := by
  unfold mput
  simp [findL]
theorem may_asked {f : Nat → Bool} {key : Int} {i : Nat} {W : Wts} (hi : 1 ≤ i) (hW : ∀ x : Int, (i : Int) ≤ x → mget W x = none) : mayAsk (askedP f key i) W (i : Int) key = true := by
  unfold mayAsk
  rw [hW _ (Int.le_refl _)]
  have h : holdsP (askedP f key i) (i : Int) key = 0 := by
    unfold holdsP askedP
    rw [mget_cons, if_pos rfl]
    show (if (mget (hasN 1 0) (i : Int)).isSome = true then _ else _) = _
    rw [hasN_none (by omega)]
    rfl
  rw [h]
  rfl
theorem ask_asked (f : Nat → Bool) (key : Int) {i : Nat} (hi : 1 ≤ i) : askL (atKey (askedP f key i) key) (i : Int) (f i) = (false, ⟨hasN 1 0, true, qN f (i + 1 - 1) 1⟩) := by
  obtain ⟨d, rfl⟩ : ∃ d, i = d + 1 := ⟨i - 1, by omega⟩
  unfold askedP
  rw [at_one, show d + 1 + 1 - 1 = d + 1 by omega, show d + 1 - 1 = d by omega, qN_end, show 1 + d = d + 1 by omega]
  unfold askL
  by_cases h : qN f d 1 = []
  · rw [if_pos h]
    have hn : grantP (queued ⟨hasN 1 0, true, qN f d 1⟩ ((d + 1 : Nat) : Int) (f (d + 1))) = none := by
      unfold grantP queued
      simp only [h, List.nil_append]
      rw [if_pos (.inl trivial)]
    rw [hn]
    rfl
  · rw [if_neg h]
    rfl
theorem openI {w0 w : World} {F : List Chunk} {b m cap : Nat} {l : List Int} {t : TypeId} {q : Option Addr} (h : Sat w0 ((b, sl 1 i64 l t (.slice q m cap)) :: F) w) (hl : l.length = m) (h0 : 0 < m) : ∃ g, q = some ⟨g, 0, none⟩ ∧ m ≤ cap ∧ Sat w0 ((g, slc 1 i64 l cap t) :: F) w := by
  subst hl
  rcases h.slCases with ⟨_, h2, _⟩ | ⟨c, h1, h2⟩
  · rw [h2] at h0
    cases h0
  · have h3 := (h2.slcFacts (g := b) (n := 1) (f := i64) (l := l) (cap := c) (t := t)).1
    cases h1
    exact ⟨b, rfl, h3, h2⟩
def blF (b : Bool) : List Value := [.bool b]
theorem decBl {w : World} {us : List Value} (h : OkL w [.bool] us) : ∃ x : Bool, blF x = us ∧ True := by
  match us, h with
  | [a], ⟨ha, _⟩ =>
    cases ha
    exact ⟨_, rfl, trivial⟩
theorem decBls {w : World} {v : Value} (h : OkL w [.sl [.bool]] [v]) : ∃ L : List Bool, BSl w 1 blF (fun _ => True) L v :=
  toBSl (f := blF) (g := fun _ => True) h.1 (by decide) fun _ hu => decBl hu
section
variable {w0 : World}
set_option maxRecDepth 100000 in
set_option maxHeartbeats 8000000 in
theorem core (key n : Int) (hn0 : 0 ≤ n) (hn1 : n < 256) {L : List Bool} {la : Nat} {pa : Option Addr} {ca : Nat} (hL : L.length = la) (hla : la ≤ 9223372036854775807) (hat : L ≠ [] → ∃ b off, pa = some ⟨b, off, none⟩ ∧ BAt w0 1 blF (fun _ => True) L b off) : Calls Try.prog 4 #[.int .i64 key, .int .u8 n, .slice pa la ca] w0 fun e w' => e = .returned (.bool true) ∧ Sat w0 [] w' := by
  have hS := Sat.refl w0
  have HL : Bx _ := ⟨hL⟩
  have HAT : Bx _ := ⟨hat⟩
  clear hL hat
  obtain ⟨m, rfl⟩ : ∃ m : Nat, n = m := ⟨n.toNat, by omega⟩
  go_enter Try.func4, Try.ntmps4
  go_wp2_with (first | (guard_target =~ Calls _ 9 _ _ _; refine Stopped.out ?_) | (refine load1 hS rfl rfl rfl rfl ?_; simp only [putW]) | (refine loadAll hS rfl rfl rfl ?_ ?_; rfl; simp only [putW]) | (refine loadPart hS rfl rfl rfl ?_ rfl ?_; rfl; simp only [putW]) | (refine store1 hS rfl rfl rfl rfl rfl ?_ ?_; (focus (simp; done)); clear hS; intro w hS; simp only [evW, putW] at hS; try simp only [putW]) | (refine storeAll hS rfl rfl rfl rfl ?_ ?_ ?_ ?_; rfl; (focus (simp [Value.oneCell']; done)); rfl; clear hS; intro w hS; try simp only [putW]) | (refine storeN hS rfl rfl rfl rfl ?_ ?_ ?_ ?_; rfl; (focus (simp [Value.oneCell']; done)); (focus (simp; done)); clear hS; intro w hS; simp at hS; try simp only [putW]) | (refine alloc hS rfl rfl ?_; clear hS; intro mb w hS; simp only [putW]) | (refine box1 hS rfl rfl rfl rfl ?_; clear hS; intro mb w hS; try simp only [evW, putW] at hS; simp only [putW]) | (refine boxN hS rfl rfl rfl ?_; clear hS; intro mb w hS; simp only [putW]))
  refine ⟨?_⟩
  refine Calls.mono tabNew_any ?_
  clear hS
  rintro _ w ⟨t, rfl, hS⟩
  simp only [putW]
  go_upto_region 3 with (first | (refine load1 hS rfl rfl rfl rfl ?_; simp only [putW]) | (refine loadAll hS rfl rfl rfl ?_ ?_; rfl; simp only [putW]) | (refine loadPart hS rfl rfl rfl ?_ rfl ?_; rfl; simp only [putW]) | (refine store1 hS rfl rfl rfl rfl rfl ?_ ?_; (focus (simp; done)); clear hS; intro w hS; simp only [evW, putW] at hS; try simp only [putW]) | (refine storeAll hS rfl rfl rfl rfl ?_ ?_ ?_ ?_; rfl; (focus (simp [Value.oneCell']; done)); rfl; clear hS; intro w hS; try simp only [putW]) | (refine storeN hS rfl rfl rfl rfl ?_ ?_ ?_ ?_; rfl; (focus (simp [Value.oneCell']; done)); (focus (simp; done)); clear hS; intro w hS; simp at hS; try simp only [putW]) | (refine alloc hS rfl rfl ?_; clear hS; intro mb w hS; simp only [putW]) | (refine box1 hS rfl rfl rfl rfl ?_; clear hS; intro mb w hS; try simp only [evW, putW] at hS; simp only [putW]) | (refine boxN hS rfl rfl rfl ?_; clear hS; intro mb w hS; simp only [putW]))
  obtain ⟨c, hc, hc1, hc30⟩ : ∃ c : Nat, 2 + (m : Int) % 20 = c ∧ 2 ≤ c ∧ c ≤ 21 := ⟨2 + m % 20, by omega, by omega, by omega⟩
  rw [hc]
  clear hc
  go_wp2_with (first | (guard_target =~ Calls _ 12 _ _ _; refine Stopped.out ?_) | (refine load1 hS rfl rfl rfl rfl ?_; simp only [putW]) | (refine loadAll hS rfl rfl rfl ?_ ?_; rfl; simp only [putW]) | (refine loadPart hS rfl rfl rfl ?_ rfl ?_; rfl; simp only [putW]) | (refine store1 hS rfl rfl rfl rfl rfl ?_ ?_; (focus (simp; done)); clear hS; intro w hS; simp only [evW, putW] at hS; try simp only [putW]) | (refine storeAll hS rfl rfl rfl rfl ?_ ?_ ?_ ?_; rfl; (focus (simp [Value.oneCell']; done)); rfl; clear hS; intro w hS; try simp only [putW]) | (refine storeN hS rfl rfl rfl rfl ?_ ?_ ?_ ?_; rfl; (focus (simp [Value.oneCell']; done)); (focus (simp; done)); clear hS; intro w hS; simp at hS; try simp only [putW]) | (refine alloc hS rfl rfl ?_; clear hS; intro mb w hS; simp only [putW]) | (refine box1 hS rfl rfl rfl rfl ?_; clear hS; intro mb w hS; try simp only [evW, putW] at hS; simp only [putW]) | (refine boxN hS rfl rfl rfl ?_; clear hS; intro mb w hS; simp only [putW]))
  refine ⟨?_⟩
  refine Calls.mono (ask_pl (PL := []) (W := []) (key := key) (task := 0) (al := true) (r := true) (l := ⟨hasN 1 0, true, []⟩) rfl (show (0 : Nat) + 1 ≤ 1000000 by decide) rfl hS) ?_
  clear hS
  rintro _ w ⟨rfl, hS⟩
  have hS1 : Sat w0 ((t, TabC (askedP (flg L) key 1) []) :: []) w := hS
  clear hS
  have hS := hS1
  clear hS1
  simp only [putW]
  go_wp2_with (first | (refine load1 hS rfl rfl rfl rfl ?_; simp only [putW]) | (refine loadAll hS rfl rfl rfl ?_ ?_; rfl; simp only [putW]) | (refine loadPart hS rfl rfl rfl ?_ rfl ?_; rfl; simp only [putW]) | (refine store1 hS rfl rfl rfl rfl rfl ?_ ?_; (focus (simp; done)); clear hS; intro w hS; simp only [evW, putW] at hS; try simp only [putW]) | (refine storeAll hS rfl rfl rfl rfl ?_ ?_ ?_ ?_; rfl; (focus (simp [Value.oneCell']; done)); rfl; clear hS; intro w hS; try simp only [putW]) | (refine storeN hS rfl rfl rfl rfl ?_ ?_ ?_ ?_; rfl; (focus (simp [Value.oneCell']; done)); (focus (simp; done)); clear hS; intro w hS; simp at hS; try simp only [putW]) | (refine alloc hS rfl rfl ?_; clear hS; intro mb w hS; simp only [putW]) | (refine box1 hS rfl rfl rfl rfl ?_; clear hS; intro mb w hS; try simp only [evW, putW] at hS; simp only [putW]) | (refine boxN hS rfl rfl rfl ?_; clear hS; intro mb w hS; simp only [putW]))
  go_loopg [11] (c - 1) (fun g i wr => ∃ (k : Nat) (W : Wts), k + g = c ∧ 1 ≤ k ∧ i = .int .i64 k ∧ Bx (∀ x : Int, (k : Int) ≤ x → mget W x = none) ∧ Sat w0 ((t, TabC (askedP (flg L) key k) W) :: []) wr)
  case atStart => exact ⟨1, [], by omega, by omega, rfl, ⟨fun _ _ => rfl⟩, hS⟩
  case round =>
    clear hS
    obtain ⟨k, W, hkg, hk1, rfl, HW, hS⟩ := hrel
    cases gk with
    | succ g =>
      have hkc : k < c := by omega
      have e1 : decide ((k : Int) < (c : Int)) = true := decide_eq_true (by omega)
      have HQ : Bx ((atKey (askedP (flg L) key k) key).queue.length + 1 ≤ 1000000) := ⟨by unfold askedP; rw [at_one, qN_len]; omega⟩
      have HM : Bx (mayAsk (askedP (flg L) key k) W (k : Int) key = true) := ⟨may_asked hk1 HW.out⟩
      have HA : Bx (askL (atKey (askedP (flg L) key k) key) (k : Int) (flg L k) = (false, ⟨hasN 1 0, true, qN (flg L) (k + 1 - 1) 1⟩)) := ⟨ask_asked (flg L) key hk1⟩
      have HW2 : Bx (∀ x : Int, ((k + 1 : Nat) : Int) ≤ x → mget (mput W (k : Int) key) x = none) := ⟨fun x hx => by rw [mget_mput, if_neg (by omega)]; exact HW.out x (by omega)⟩
      by_cases hkl : k < la
      · have e2 : decide ((k : Int) < (la : Int)) = true := decide_eq_true (by omega)
        have e3 : decide ((la : Int) ≤ (k : Int)) = false := decide_eq_false (by omega)
        have e2n : decide (k < la) = true := decide_eq_true (by omega)
        have e3n : decide (la ≤ k) = false := decide_eq_false (by omega)
        obtain ⟨fb, hx⟩ : ∃ y, L[k]? = some y := ⟨_, List.getElem?_eq_getElem (by rw [HL.out]; exact hkl)⟩
        obtain ⟨b, off, hpa, hBA⟩ := HAT.out (fun h => by rw [h] at hx; cases hx)
        subst hpa
        have Hx : Bx _ := ⟨hx⟩
        have HF : Bx (flg L k = fb) := ⟨by unfold flg; rw [hx]; rfl⟩
        clear hx HAT
        cases fb with
        | true =>
          go_wp2_with (first | (refine loadB (f := blF) hS rfl rfl rfl hBA k 0 ?_ Hx.out rfl ?_; omega; simp only [putW]) | (guard_target =~ Calls _ 12 _ _ _; refine Stopped.out ?_) | (refine load1 hS rfl rfl rfl rfl ?_; simp only [putW]) | (refine loadAll hS rfl rfl rfl ?_ ?_; rfl; simp only [putW]) | (refine loadPart hS rfl rfl rfl ?_ rfl ?_; rfl; simp only [putW]) | (refine store1 hS rfl rfl rfl rfl rfl ?_ ?_; (focus (simp; done)); clear hS; intro w hS; simp only [evW, putW] at hS; try simp only [putW]) | (refine storeAll hS rfl rfl rfl rfl ?_ ?_ ?_ ?_; rfl; (focus (simp [Value.oneCell']; done)); rfl; clear hS; intro w hS; try simp only [putW]) | (refine storeN hS rfl rfl rfl rfl ?_ ?_ ?_ ?_; rfl; (focus (simp [Value.oneCell']; done)); (focus (simp; done)); clear hS; intro w hS; simp at hS; try simp only [putW]) | (refine alloc hS rfl rfl ?_; clear hS; intro mb w hS; simp only [putW]) | (refine box1 hS rfl rfl rfl rfl ?_; clear hS; intro mb w hS; try simp only [evW, putW] at hS; simp only [putW]) | (refine boxN hS rfl rfl rfl ?_; clear hS; intro mb w hS; simp only [putW]))
          refine ⟨?_⟩
          refine Calls.mono (ask_pl (al := true) (r := false) (l := ⟨hasN 1 0, true, qN (flg L) (k + 1 - 1) 1⟩) HM.out HQ.out (by have := HA.out; rwa [HF.out] at this) hS) ?_
          clear hS
          rintro _ w ⟨rfl, hS⟩
          have hS1 : Sat w0 ((t, TabC (askedP (flg L) key (k + 1)) (mput W (k : Int) key)) :: []) w := by
            unfold askedP at hS ⊢
            rw [put_one] at hS
            exact hS
          clear hS
          have hS := hS1
          clear hS1
          simp only [putW]
          go_wp2_with (first | (refine load1 hS rfl rfl rfl rfl ?_; simp only [putW]) | (refine loadAll hS rfl rfl rfl ?_ ?_; rfl; simp only [putW]) | (refine loadPart hS rfl rfl rfl ?_ rfl ?_; rfl; simp only [putW]) | (refine store1 hS rfl rfl rfl rfl rfl ?_ ?_; (focus (simp; done)); clear hS; intro w hS; simp only [evW, putW] at hS; try simp only [putW]) | (refine storeAll hS rfl rfl rfl rfl ?_ ?_ ?_ ?_; rfl; (focus (simp [Value.oneCell']; done)); rfl; clear hS; intro w hS; try simp only [putW]) | (refine storeN hS rfl rfl rfl rfl ?_ ?_ ?_ ?_; rfl; (focus (simp [Value.oneCell']; done)); (focus (simp; done)); clear hS; intro w hS; simp at hS; try simp only [putW]) | (refine alloc hS rfl rfl ?_; clear hS; intro mb w hS; simp only [putW]) | (refine box1 hS rfl rfl rfl rfl ?_; clear hS; intro mb w hS; try simp only [evW, putW] at hS; simp only [putW]) | (refine boxN hS rfl rfl rfl ?_; clear hS; intro mb w hS; simp only [putW]))
          go_roundg g
          case measure => omega
          case rel => exact ⟨k + 1, _, by omega, by omega, by go_num, HW2, hS⟩
        | false =>
          go_wp2_with (first | (refine loadB (f := blF) hS rfl rfl rfl hBA k 0 ?_ Hx.out rfl ?_; omega; simp only [putW]) | (guard_target =~ Calls _ 12 _ _ _; refine Stopped.out ?_) | (refine load1 hS rfl rfl rfl rfl ?_; simp only [putW]) | (refine loadAll hS rfl rfl rfl ?_ ?_; rfl; simp only [putW]) | (refine loadPart hS rfl rfl rfl ?_ rfl ?_; rfl; simp only [putW]) | (refine store1 hS rfl rfl rfl rfl rfl ?_ ?_; (focus (simp; done)); clear hS; intro w hS; simp only [evW, putW] at hS; try simp only [putW]) | (refine storeAll hS rfl rfl rfl rfl ?_ ?_ ?_ ?_; rfl; (focus (simp [Value.oneCell']; done)); rfl; clear hS; intro w hS; try simp only [putW]) | (refine storeN hS rfl rfl rfl rfl ?_ ?_ ?_ ?_; rfl; (focus (simp [Value.oneCell']; done)); (focus (simp; done)); clear hS; intro w hS; simp at hS; try simp only [putW]) | (refine alloc hS rfl rfl ?_; clear hS; intro mb w hS; simp only [putW]) | (refine box1 hS rfl rfl rfl rfl ?_; clear hS; intro mb w hS; try simp only [evW, putW] at hS; simp only [putW]) | (refine boxN hS rfl rfl rfl ?_; clear hS; intro mb w hS; simp only [putW]))
          refine ⟨?_⟩
          refine Calls.mono (ask_pl (al := false) (r := false) (l := ⟨hasN 1 0, true, qN (flg L) (k + 1 - 1) 1⟩) HM.out HQ.out (by have := HA.out; rwa [HF.out] at this) hS) ?_
          clear hS
          rintro _ w ⟨rfl, hS⟩
          have hS1 : Sat w0 ((t, TabC (askedP (flg L) key (k + 1)) (mput W (k : Int) key)) :: []) w := by
            unfold askedP at hS ⊢
            rw [put_one] at hS
            exact hS
          clear hS
          have hS := hS1
          clear hS1
          simp only [putW]
          go_wp2_with (first | (refine load1 hS rfl rfl rfl rfl ?_; simp only [putW]) | (refine loadAll hS rfl rfl rfl ?_ ?_; rfl; simp only [putW]) | (refine loadPart hS rfl rfl rfl ?_ rfl ?_; rfl; simp only [putW]) | (refine store1 hS rfl rfl rfl rfl rfl ?_ ?_; (focus (simp; done)); clear hS; intro w hS; simp only [evW, putW] at hS; try simp only [putW]) | (refine storeAll hS rfl rfl rfl rfl ?_ ?_ ?_ ?_; rfl; (focus (simp [Value.oneCell']; done)); rfl; clear hS; intro w hS; try simp only [putW]) | (refine storeN hS rfl rfl rfl rfl ?_ ?_ ?_ ?_; rfl; (focus (simp [Value.oneCell']; done)); (focus (simp; done)); clear hS; intro w hS; simp at hS; try simp only [putW]) | (refine alloc hS rfl rfl ?_; clear hS; intro mb w hS; simp only [putW]) | (refine box1 hS rfl rfl rfl rfl ?_; clear hS; intro mb w hS; try simp only [evW, putW] at hS; simp only [putW]) | (refine boxN hS rfl rfl rfl ?_; clear hS; intro mb w hS; simp only [putW]))
          go_roundg g
          case measure => omega
          case rel => exact ⟨k + 1, _, by omega, by omega, by go_num, HW2, hS⟩
      · have e2 : decide ((k : Int) < (la : Int)) = false := decide_eq_false (by omega)
        have e3 : decide ((la : Int) ≤ (k : Int)) = true := decide_eq_true (by omega)
        have e2n : decide (k < la) = false := decide_eq_false (by omega)
        have e3n : decide (la ≤ k) = true := decide_eq_true (by omega)
        have HF : Bx (flg L k = true) := ⟨by unfold flg; rw [List.getElem?_eq_none (by rw [HL.out]; omega)]; rfl⟩
        go_wp2_with (first | (guard_target =~ Calls _ 12 _ _ _; refine Stopped.out ?_) | (refine load1 hS rfl rfl rfl rfl ?_; simp only [putW]) | (refine loadAll hS rfl rfl rfl ?_ ?_; rfl; simp only [putW]) | (refine loadPart hS rfl rfl rfl ?_ rfl ?_; rfl; simp only [putW]) | (refine store1 hS rfl rfl rfl rfl rfl ?_ ?_; (focus (simp; done)); clear hS; intro w hS; simp only [evW, putW] at hS; try simp only [putW]) | (refine storeAll hS rfl rfl rfl rfl ?_ ?_ ?_ ?_; rfl; (focus (simp [Value.oneCell']; done)); rfl; clear hS; intro w hS; try simp only [putW]) | (refine storeN hS rfl rfl rfl rfl ?_ ?_ ?_ ?_; rfl; (focus (simp [Value.oneCell']; done)); (focus (simp; done)); clear hS; intro w hS; simp at hS; try simp only [putW]) | (refine alloc hS rfl rfl ?_; clear hS; intro mb w hS; simp only [putW]) | (refine box1 hS rfl rfl rfl rfl ?_; clear hS; intro mb w hS; try simp only [evW, putW] at hS; simp only [putW]) | (refine boxN hS rfl rfl rfl ?_; clear hS; intro mb w hS; simp only [putW]))
        refine ⟨?_⟩
        refine Calls.mono (ask_pl (al := true) (r := false) (l := ⟨hasN 1 0, true, qN (flg L) (k + 1 - 1) 1⟩) HM.out HQ.out (by have := HA.out; rwa [HF.out] at this) hS) ?_
        clear hS
        rintro _ w ⟨rfl, hS⟩
        have hS1 : Sat w0 ((t, TabC (askedP (flg L) key (k + 1)) (mput W (k : Int) key)) :: []) w := by
          unfold askedP at hS ⊢
          rw [put_one] at hS
          exact hS
        clear hS
        have hS := hS1
        clear hS1
        simp only [putW]
        go_wp2_with (first | (refine load1 hS rfl rfl rfl rfl ?_; simp only [putW]) | (refine loadAll hS rfl rfl rfl ?_ ?_; rfl; simp only [putW]) | (refine loadPart hS rfl rfl rfl ?_ rfl ?_; rfl; simp only [putW]) | (refine store1 hS rfl rfl rfl rfl rfl ?_ ?_; (focus (simp; done)); clear hS; intro w hS; simp only [evW, putW] at hS; try simp only [putW]) | (refine storeAll hS rfl rfl rfl rfl ?_ ?_ ?_ ?_; rfl; (focus (simp [Value.oneCell']; done)); rfl; clear hS; intro w hS; try simp only [putW]) | (refine storeN hS rfl rfl rfl rfl ?_ ?_ ?_ ?_; rfl; (focus (simp [Value.oneCell']; done)); (focus (simp; done)); clear hS; intro w hS; simp at hS; try simp only [putW]) | (refine alloc hS rfl rfl ?_; clear hS; intro mb w hS; simp only [putW]) | (refine box1 hS rfl rfl rfl rfl ?_; clear hS; intro mb w hS; try simp only [evW, putW] at hS; simp only [putW]) | (refine boxN hS rfl rfl rfl ?_; clear hS; intro mb w hS; simp only [putW]))
        go_roundg g
        case measure => omega
        case rel => exact ⟨k + 1, _, by omega, by omega, by go_num, HW2, hS⟩
    | zero =>
      have hkc : k = c := by omega
      subst hkc
      clear hkg HAT HW
      go_wp2_with (first | (refine load1 hS rfl rfl rfl rfl ?_; simp only [putW]) | (refine loadAll hS rfl rfl rfl ?_ ?_; rfl; simp only [putW]) | (refine loadPart hS rfl rfl rfl ?_ rfl ?_; rfl; simp only [putW]) | (refine store1 hS rfl rfl rfl rfl rfl ?_ ?_; (focus (simp; done)); clear hS; intro w hS; simp only [evW, putW] at hS; try simp only [putW]) | (refine storeAll hS rfl rfl rfl rfl ?_ ?_ ?_ ?_; rfl; (focus (simp [Value.oneCell']; done)); rfl; clear hS; intro w hS; try simp only [putW]) | (refine storeN hS rfl rfl rfl rfl ?_ ?_ ?_ ?_; rfl; (focus (simp [Value.oneCell']; done)); (focus (simp; done)); clear hS; intro w hS; simp at hS; try simp only [putW]) | (refine alloc hS rfl rfl ?_; clear hS; intro mb w hS; simp only [putW]) | (refine box1 hS rfl rfl rfl rfl ?_; clear hS; intro mb w hS; try simp only [evW, putW] at hS; simp only [putW]) | (refine boxN hS rfl rfl rfl ?_; clear hS; intro mb w hS; simp only [putW]))
      go_loopw [14, 15] (fun a b wr => ∃ (nx ls : Nat) (A : Bool) (W : Wts), a = .int .i64 nx ∧ b = .int .i64 ls ∧ nx ≤ k ∧ Bx (StI (flg L) k ls nx A) ∧ Sat w0 ((t, TabC [(key, stL (flg L) k ls nx A)] W) :: []) wr) (fun a _ _ => k - (intOf a).toNat)
      case atStart => exact ⟨1, 0, true, W, rfl, rfl, by omega, ⟨⟨by omega, by omega, fun _ => rfl, fun e => by cases e⟩⟩, hS⟩
      case round =>
        clear hS
        obtain ⟨nx, ls, A, W, rfl, rfl, hnk, HI, hS⟩ := hrel
        by_cases hnx : nx < k
        · have e1 : decide ((nx : Int) < (k : Int)) = true := decide_eq_true (by omega)
          have hlt : ls < nx := HI.out.lt
          go_wp2_with (first | (refine load1 hS rfl rfl rfl rfl ?_; simp only [putW]) | (refine loadAll hS rfl rfl rfl ?_ ?_; rfl; simp only [putW]) | (refine loadPart hS rfl rfl rfl ?_ rfl ?_; rfl; simp only [putW]) | (refine store1 hS rfl rfl rfl rfl rfl ?_ ?_; (focus (simp; done)); clear hS; intro w hS; simp only [evW, putW] at hS; try simp only [putW]) | (refine storeAll hS rfl rfl rfl rfl ?_ ?_ ?_ ?_; rfl; (focus (simp [Value.oneCell']; done)); rfl; clear hS; intro w hS; try simp only [putW]) | (refine storeN hS rfl rfl rfl rfl ?_ ?_ ?_ ?_; rfl; (focus (simp [Value.oneCell']; done)); (focus (simp; done)); clear hS; intro w hS; simp at hS; try simp only [putW]) | (refine alloc hS rfl rfl ?_; clear hS; intro mb w hS; simp only [putW]) | (refine box1 hS rfl rfl rfl rfl ?_; clear hS; intro mb w hS; try simp only [evW, putW] at hS; simp only [putW]) | (refine boxN hS rfl rfl rfl ?_; clear hS; intro mb w hS; simp only [putW]))
          go_loopg [16, 17] (nx - ls) (fun g a b wr => ∃ (j n2 : Nat) (A2 : Bool) (v : Value) (W : Wts), j + g = nx ∧ a = v ∧ b = .int .i64 j ∧ Bx (StI (flg L) k j n2 A2) ∧ Bx (j < nx → n2 = nx) ∧ Bx (j = nx → nx < n2) ∧ Sat w0 ((blk v, sl 1 i64 (tk (n2 - nx) nx) 3 v) :: (t, TabC [(key, stL (flg L) k j n2 A2)] W) :: []) wr)
          case atStart => exact ⟨ls, nx, A, _, W, by omega, rfl, rfl, HI, ⟨fun _ => rfl⟩, ⟨fun e => by omega⟩, by rw [Nat.sub_self]; exact hS.slNil 1 i64 3⟩
          case round =>
            clear hS
            obtain ⟨j, n2, A2, v, W, hjg, hav, rfl, HI2, HN1, HN2, hS⟩ := hrel
            cases gk with
            | succ g =>
              have hjn : j < nx := by omega
              have hn2 : n2 = nx := HN1.out hjn
              subst hn2
              have e2 : decide ((j : Int) < (n2 : Int)) = true := decide_eq_true (by omega)
              obtain ⟨n3, A3, b1, b2, b3, b4⟩ := step HI2.out hnx
              have HI3 : Bx _ := ⟨b1⟩
              have HB2 : Bx _ := ⟨b2⟩
              have HB3 : Bx _ := ⟨b3⟩
              have HB4 : Bx _ := ⟨b4⟩
              clear b1 b2 b3 b4
              rw [Nat.sub_self] at hS
              obtain ⟨q6, c6, hv6⟩ := shapeL (m := 0) hS rfl
              subst hv6
              subst hav
              go_wp2_with (first | (guard_target =~ Calls _ 11 _ _ _; refine Stopped.out ?_) | (refine load1 hS rfl rfl rfl rfl ?_; simp only [putW]) | (refine loadAll hS rfl rfl rfl ?_ ?_; rfl; simp only [putW]) | (refine loadPart hS rfl rfl rfl ?_ rfl ?_; rfl; simp only [putW]) | (refine store1 hS rfl rfl rfl rfl rfl ?_ ?_; (focus (simp; done)); clear hS; intro w hS; simp only [evW, putW] at hS; try simp only [putW]) | (refine storeAll hS rfl rfl rfl rfl ?_ ?_ ?_ ?_; rfl; (focus (simp [Value.oneCell']; done)); rfl; clear hS; intro w hS; try simp only [putW]) | (refine storeN hS rfl rfl rfl rfl ?_ ?_ ?_ ?_; rfl; (focus (simp [Value.oneCell']; done)); (focus (simp; done)); clear hS; intro w hS; simp at hS; try simp only [putW]) | (refine alloc hS rfl rfl ?_; clear hS; intro mb w hS; simp only [putW]) | (refine box1 hS rfl rfl rfl rfl ?_; clear hS; intro mb w hS; try simp only [evW, putW] at hS; simp only [putW]) | (refine boxN hS rfl rfl rfl ?_; clear hS; intro mb w hS; simp only [putW]))
              refine ⟨?_⟩
              refine Calls.mono (free_pl (task := (j : Int)) (PL := [(key, stL (flg L) k j n2 A2)]) (W := W) (K := (blk (.slice q6 0 c6), sl 1 i64 (tk 0 n2) 3 (.slice q6 0 c6)) :: []) (fun e he => by rw [List.mem_singleton.1 he]; unfold stL; simp only [qN_len]; omega) (by simp) hS.conv) ?_
              clear hS
              rintro _ w ⟨vf, wk, -, rfl, hS⟩
              have HWK : Bx (wokenP (j : Int) [(key, stL (flg L) k j n2 A2)] = tk (n3 - n2) n2 ∧ freeAll (j : Int) [(key, stL (flg L) k j n2 A2)] = [(key, stL (flg L) k (j + 1) n3 A3)]) := ⟨by
                unfold wokenP freeAll
                simp only [List.flatMap_cons, List.flatMap_nil, List.map_cons, List.map_nil, HB4.out, List.append_nil, and_self]⟩
              rw [HWK.out.1, HWK.out.2, tk_sort] at hS
              have hra : RI w (tk (n3 - n2) n2) vf := (hS.conv (S' := (blk vf, sl 1 i64 (tk (n3 - n2) n2) 3 vf) :: [])).readsSl fun _ _ => trivial
              have hn3 : n3 ≤ k := HI3.out.le
              go_wp2_with (first | (refine appendB (f := i64) hS rfl rfl (.slice q6 0 c6) rfl rfl (tk (n3 - n2) n2) hra ?_ ?_ ?_ ?_; (focus (intro x _ u hu; rw [List.mem_singleton.1 hu]; rfl)); (focus (simp [tk_len, maxLen, tk]; omega)); (focus (simp [tk_len, tk]; omega)); clear hS hra; intro v2 w hS; simp only [putW]) | (refine load1 hS rfl rfl rfl rfl ?_; simp only [putW]) | (refine loadAll hS rfl rfl rfl ?_ ?_; rfl; simp only [putW]) | (refine loadPart hS rfl rfl rfl ?_ rfl ?_; rfl; simp only [putW]) | (refine store1 hS rfl rfl rfl rfl rfl ?_ ?_; (focus (simp; done)); clear hS; intro w hS; simp only [evW, putW] at hS; try simp only [putW]) | (refine storeAll hS rfl rfl rfl rfl ?_ ?_ ?_ ?_; rfl; (focus (simp [Value.oneCell']; done)); rfl; clear hS; intro w hS; try simp only [putW]) | (refine storeN hS rfl rfl rfl rfl ?_ ?_ ?_ ?_; rfl; (focus (simp [Value.oneCell']; done)); (focus (simp; done)); clear hS; intro w hS; simp at hS; try simp only [putW]) | (refine alloc hS rfl rfl ?_; clear hS; intro mb w hS; simp only [putW]) | (refine box1 hS rfl rfl rfl rfl ?_; clear hS; intro mb w hS; try simp only [evW, putW] at hS; simp only [putW]) | (refine boxN hS rfl rfl rfl ?_; clear hS; intro mb w hS; simp only [putW]))
              rw [show tk 0 n2 = [] from rfl, List.nil_append] at hS
              go_roundg g
              case measure => omega
              case rel => exact ⟨j + 1, n3, A3, v2, unwait (mdel W (j : Int)) wk, by omega, rfl, by go_num, HI3, ⟨HB2.out⟩, ⟨HB3.out⟩, hS.conv⟩
            | zero =>
              have hjn : j = nx := by omega
              subst hjn
              clear hjg
              have hn2 : j < n2 := HN2.out rfl
              have hn2k : n2 ≤ k := HI2.out.le
              obtain ⟨q5, c5, hv5⟩ := shapeL (m := n2 - j) hS (tk_len _ _)
              subst hv5
              subst hav
              obtain ⟨gb, hq5, hc5, hS2⟩ := openI hS (tk_len _ _) (by omega)
              subst hq5
              clear hS
              have hS := hS2
              clear hS2
              obtain ⟨d, hd⟩ : ∃ d, n2 - j = d := ⟨_, rfl⟩
              rw [hd]
              rw [hd] at hS hc5
              have hd2 : Bx (n2 = j + d) := ⟨by omega⟩
              have hd30 : d ≤ 30 := by omega
              have hj30 : j ≤ 30 := by omega
              have hd0 : 0 < d := by omega
              clear hd
              go_wp2_with (first | (refine load1 hS rfl rfl rfl rfl ?_; simp only [putW]) | (refine loadAll hS rfl rfl rfl ?_ ?_; rfl; simp only [putW]) | (refine loadPart hS rfl rfl rfl ?_ rfl ?_; rfl; simp only [putW]) | (refine store1 hS rfl rfl rfl rfl rfl ?_ ?_; (focus (simp; done)); clear hS; intro w hS; simp only [evW, putW] at hS; try simp only [putW]) | (refine storeAll hS rfl rfl rfl rfl ?_ ?_ ?_ ?_; rfl; (focus (simp [Value.oneCell']; done)); rfl; clear hS; intro w hS; try simp only [putW]) | (refine storeN hS rfl rfl rfl rfl ?_ ?_ ?_ ?_; rfl; (focus (simp [Value.oneCell']; done)); (focus (simp; done)); clear hS; intro w hS; simp at hS; try simp only [putW]) | (refine alloc hS rfl rfl ?_; clear hS; intro mb w hS; simp only [putW]) | (refine box1 hS rfl rfl rfl rfl ?_; clear hS; intro mb w hS; try simp only [evW, putW] at hS; simp only [putW]) | (refine boxN hS rfl rfl rfl ?_; clear hS; intro mb w hS; simp only [putW]))
              go_loopg [14, 18] d (fun g a b wr => ∃ i : Nat, i + g = d ∧ a = .int .i64 ((j + i : Nat) : Int) ∧ b = .int .i64 i ∧ Sat w0 ((gb, slc 1 i64 (tk d j) c5 3) :: (t, TabC [(key, stL (flg L) k j n2 A2)] W) :: []) wr)
              case atStart => exact ⟨0, by omega, by simp, rfl, hS⟩
              case round =>
                clear hS
                obtain ⟨i, hig, rfl, rfl, hS⟩ := hrel
                cases gk with
                | succ g =>
                  have hid : i < d := by omega
                  have e2 : decide ((i : Int) < (d : Int)) = true := decide_eq_true (by omega)
                  have HX : Bx ((tk d j)[i]? = some ((j + i : Nat) : Int)) := ⟨tk_get d j i hid⟩
                  go_wp2_with (first | (refine loadS1 (v1 := Value.int .i64) hS rfl rfl rfl HX.out ?_; simp only [putW]) | (refine load1 hS rfl rfl rfl rfl ?_; simp only [putW]) | (refine loadAll hS rfl rfl rfl ?_ ?_; rfl; simp only [putW]) | (refine loadPart hS rfl rfl rfl ?_ rfl ?_; rfl; simp only [putW]) | (refine store1 hS rfl rfl rfl rfl rfl ?_ ?_; (focus (simp; done)); clear hS; intro w hS; simp only [evW, putW] at hS; try simp only [putW]) | (refine storeAll hS rfl rfl rfl rfl ?_ ?_ ?_ ?_; rfl; (focus (simp [Value.oneCell']; done)); rfl; clear hS; intro w hS; try simp only [putW]) | (refine storeN hS rfl rfl rfl rfl ?_ ?_ ?_ ?_; rfl; (focus (simp [Value.oneCell']; done)); (focus (simp; done)); clear hS; intro w hS; simp at hS; try simp only [putW]) | (refine alloc hS rfl rfl ?_; clear hS; intro mb w hS; simp only [putW]) | (refine box1 hS rfl rfl rfl rfl ?_; clear hS; intro mb w hS; try simp only [evW, putW] at hS; simp only [putW]) | (refine boxN hS rfl rfl rfl ?_; clear hS; intro mb w hS; simp only [putW]))
                  go_roundg g
                  case measure => omega
                  case rel => exact ⟨i + 1, by omega, by go_num, by go_num, hS⟩
                | zero =>
                  have hid : i = d := by omega
                  subst hid
                  clear hig
                  have d2 : ((j : Int) == ((j + i : Nat) : Int)) = false := by simp; omega
                  go_wp2_with (first | (refine load1 hS rfl rfl rfl rfl ?_; simp only [putW]) | (refine loadAll hS rfl rfl rfl ?_ ?_; rfl; simp only [putW]) | (refine loadPart hS rfl rfl rfl ?_ rfl ?_; rfl; simp only [putW]) | (refine store1 hS rfl rfl rfl rfl rfl ?_ ?_; (focus (simp; done)); clear hS; intro w hS; simp only [evW, putW] at hS; try simp only [putW]) | (refine storeAll hS rfl rfl rfl rfl ?_ ?_ ?_ ?_; rfl; (focus (simp [Value.oneCell']; done)); rfl; clear hS; intro w hS; try simp only [putW]) | (refine storeN hS rfl rfl rfl rfl ?_ ?_ ?_ ?_; rfl; (focus (simp [Value.oneCell']; done)); (focus (simp; done)); clear hS; intro w hS; simp at hS; try simp only [putW]) | (refine alloc hS rfl rfl ?_; clear hS; intro mb w hS; simp only [putW]) | (refine box1 hS rfl rfl rfl rfl ?_; clear hS; intro mb w hS; try simp only [evW, putW] at hS; simp only [putW]) | (refine boxN hS rfl rfl rfl ?_; clear hS; intro mb w hS; simp only [putW]))
                  go_roundw
                  case measure => simp [intOf]; omega
                  case rel => exact ⟨j + i, j, A2, W, rfl, rfl, by have := hd2.out; omega, by rw [← hd2.out]; exact HI2, by rw [← hd2.out]; exact hS.tail⟩
        · have hnk2 : nx = k := by omega
          subst hnk2
          go_wp2_with (first | (go_at_call 14; refine Calls.mono (awakeL_any) ?_; rintro _ w2 ⟨rfl, h2⟩; replace hS := hS.frame h2; clear h2; (try simp only [List.cons_append, List.nil_append] at hS); simp only [putW]) | (refine load1 hS rfl rfl rfl rfl ?_; simp only [putW]) | (refine loadAll hS rfl rfl rfl ?_ ?_; rfl; simp only [putW]) | (refine loadPart hS rfl rfl rfl ?_ rfl ?_; rfl; simp only [putW]) | (refine store1 hS rfl rfl rfl rfl rfl ?_ ?_; (focus (simp; done)); clear hS; intro w hS; simp only [evW, putW] at hS; try simp only [putW]) | (refine storeAll hS rfl rfl rfl rfl ?_ ?_ ?_ ?_; rfl; (focus (simp [Value.oneCell']; done)); rfl; clear hS; intro w hS; try simp only [putW]) | (refine storeN hS rfl rfl rfl rfl ?_ ?_ ?_ ?_; rfl; (focus (simp [Value.oneCell']; done)); (focus (simp; done)); clear hS; intro w hS; simp at hS; try simp only [putW]) | (refine alloc hS rfl rfl ?_; clear hS; intro mb w hS; simp only [putW]) | (refine box1 hS rfl rfl rfl rfl ?_; clear hS; intro mb w hS; try simp only [evW, putW] at hS; simp only [putW]) | (refine boxN hS rfl rfl rfl ?_; clear hS; intro mb w hS; simp only [putW]))
          go_ret
          exact ⟨rfl, hS.nothing⟩
end
theorem walk (W : World) {v0 v1 v2 : Value} (h0 : OkL W [.int .i64] [v0]) (h1 : OkL W [.int .u8] [v1]) (h2 : OkL W [.sl [.bool]] [v2]) :
    Calls Try.prog 4 #[v0, v1, v2] W fun e w' => e = .returned (.bool true) ∧ Below W.heap.size W w' := by
  obtain ⟨h0, _⟩ := h0
  obtain ⟨h1, _⟩ := h1
  obtain ⟨L, hL⟩ := decBls h2
  obtain ⟨pa, ca, rfl, hla, hat⟩ := BSl.at (n := 1) hL
  cases h0 with
  | int _ key _ =>
    cases h1 with
    | int _ n hn =>
      simp [Lit.wf, IntKind.min, IntKind.max, IntKind.bits, IntKind.signed] at hn
      exact (core key n (by omega) (by omega) rfl hla hat).mono fun e w' h => ⟨h.1, h.2.base⟩
theorem own : ownKnob Try.prog.godebug = none := by kernel_rfl
theorem laidOut : laidOutB Try.prog = true := by kernel_rfl

set_option maxRecDepth 100000 in
theorem lifted (os : Os) (started : os.Started) (H : Type) (enc : TypeId × Value → H) :
    ReturnsInHanded {} Try.checked os 4 .any (Rows.latchOrderSpec.pre6 enc Try.prog Try.f4 Rows.latchOrderRow.domain false) (Rows.latchOrderSpec.post enc Try.prog Try.f4 false true false false) := by
  refine returnsInHanded_of_change (C := Try.checked) own started (by kernel_rfl) Try.func4
    (ChangeSpec.witness6 (enc := enc) (C := Try.checked) false ⟨#[], #[.int .i64 0, .int .u8 0, .slice none 0 0], []⟩ 8 (by kernel_rfl) (by kernel_rfl) (by kernel_rfl) (by kernel_rfl)) ?_
  intro W base args ds gs before hval0 hW hcnd _
  have hval : ∀ (j : Nat) t v, Try.f4.params[j]? = some t → args[j]? = some v → Value.okWide Try.prog W .any base t v := hval0
  have hW' := hW
  obtain ⟨p, q, hA0, hV, rfl, hfz, hnd⟩ := hW
  have hA : DataW.TrodAll enc Try.prog W 0 (fun _ => true) true Try.f4.params.toList args.toList ds p := hA0
  rw [Try.params4] at hA hval
  obtain ⟨v0, vs0, d0, ds0, p0, q0, hargs, rfl, rfl, h0, r0⟩ := trodAll_cons hA
  obtain ⟨v1, vs1, d1, ds1, p1, q1, rfl, rfl, rfl, h1, r1⟩ := trodAll_cons r0
  obtain ⟨v2, vs2, d2, ds2, p2, q2, rfl, rfl, rfl, h2, r2⟩ := trodAll_cons r1
  obtain ⟨rfl, rfl, rfl⟩ := trodAll_nil r2
  obtain rfl : args = #[v0, v1, v2] := by cases args; simp_all
  obtain ⟨rfl, rfl⟩ := trodVars_none hV
  have k0 := h0
  have lt0 : ∀ x ∈ p0, x.block < W.heap.size := by obtain ⟨m, hm⟩ := k0; exact DataW.trod_lt m _ _ _ hm
  have k1 := h1
  have lt1 : ∀ x ∈ p1, x.block < W.heap.size := by obtain ⟨m, hm⟩ := k1; exact DataW.trod_lt m _ _ _ hm
  have k2 := h2
  have lt2 : ∀ x ∈ p2, x.block < W.heap.size := by obtain ⟨m, hm⟩ := k2; exact DataW.trod_lt m _ _ _ hm
  have Wk := walk W (argOne (n := 8) (by kernel_rfl) (by kernel_rfl) (hval 0 3 v0 rfl rfl) h0) (argOne (n := 8) (by kernel_rfl) (by kernel_rfl) (hval 1 5 v1 rfl rfl) h1) (argOne (n := 8) (by kernel_rfl) (by kernel_rfl) (hval 2 35 v2 rfl rfl) h2)
  clear hA0 hval0
  refine Wk.mono fun e W' ⟨he, bel⟩ => ?_
  subst he
  exact ⟨_, rfl, _, _, _, [], _, [], hW', trodAll_mk1 (shut_bool Try.underlying4 _), (trodAll_cons_mk (Below.trod laidOut (by kernel_rfl) (of_decide_eq_true (by kernel_rfl)) k0 bel lt0) (trodAll_cons_mk (Below.trod laidOut (by kernel_rfl) (of_decide_eq_true (by kernel_rfl)) k1 bel lt1) (trodAll_cons_mk (Below.trod laidOut (by kernel_rfl) (of_decide_eq_true (by kernel_rfl)) k2 bel lt2) trodAll_mk0))), rfl, bel.frame _, fun h => by cases h⟩

theorem over : Rows.latchOrderRow.holds Try.pinned (OpenSpec.ofChange Rows.latchOrderSpec) :=
  OpenClaim.holds_of_wide 4 Try.f4 rfl rfl rfl rfl rfl rfl rfl ⟨rfl, rfl, rfl, rfl, rfl⟩ rfl rfl rfl rfl rfl (by kernel_rfl) Try.func4 (by kernel_rfl)
    (of_decide_eq_true (by kernel_rfl)) (by unfold Func.isWrapper; first | (rw [if_pos (by decide +kernel)]; kernel_rfl) | (rw [if_neg (by decide +kernel)]; exact ⟨rfl, rfl⟩))
    (fun os started H enc _ => lifted os started H enc)

/-- The statement. -/
theorem proved : Rows.LatchOrderSaid := over

end Go.Proofs.Ytojdkioimklhmaa.LaOrder
