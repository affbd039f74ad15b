/-
  SpillAll: the plain law, the walk, and the given row.
-/
import Derived.Test.YthlcjefkhlfkpaaSpKeys
import Derived.Test.YthlcjefkhlfkpaaSpAwake
import Derived.Test.YthlcjefkhlfkpaaJ02
import Derived.Test.YthlcjefkhlfkpaaSlA
import Derived.Deep.CutRange
import Derived.WalkKit
import Derived.ProofKit
import Derived.OpenShut
import Derived.ShutString
import Derived.ChangeOld
import Derived.Below
set_option linter.unusedSimpArgs false
set_option linter.unusedVariables false
namespace Go.Proofs.Ythlcjefkhlfkpaa.SpillAllDone
open Go.ChangeShapes Go.WideShapes Go.ChangeAt Go.RowKit Go.Proofs.Ythlcjefkhlfkpaa Go.Proofs.Ythlcjefkhlfkpaa.Sl

/-- With i pages given. -/
def flN (n i : Nat) : List Bool := List.replicate i false ++ List.replicate (n - i) true
def runM (p : Int) (x : En) (i : Nat) : List (Int × (Nat × En)) := (List.range i).map fun (j : Nat) => (p + (j : Int), (j, x))
def wantN (p : Int) (i : Nat) : List Int := (List.range i).map fun (j : Nat) => p + (j : Int)
theorem wantN_len (p : Int) (i : Nat) : (wantN p i).length = i := by simp [wantN]
theorem wantN_next (p : Int) (i : Nat) : wantN p i ++ [p + (i : Int)] = wantN p (i + 1) := by simp [wantN, List.range_succ]
theorem mkeys_run (p : Int) (x : En) (i : Nat) : mkeys (runM p x i) = wantN p i := by
  unfold mkeys runM wantN
  rw [List.map_map]
  rfl
theorem run_len (p : Int) (x : En) (i : Nat) : (runM p x i).length = i := by simp [runM]
theorem run_none (p : Int) (x : En) (i : Nat) : mget (runM p x i) (p + (i : Int)) = none := by
  rw [mget_none, mkeys_run]
  intro hm
  obtain ⟨j, hj, e⟩ := List.mem_map.1 hm
  have := List.mem_range.1 hj
  omega
theorem run_next (p : Int) (x : En) (i : Nat) : mput (runM p x i) (p + (i : Int)) (i, x) = runM p x (i + 1) := by
  have h : findL (runM p x i) (p + (i : Int)) 0 = none := by
    have h2 := run_none p x i
    unfold mget at h2
    simpa using h2
  unfold mput
  rw [h]
  simp [runM, List.range_succ]
theorem flN_at {n i : Nat} (hi : i ≤ n) : ∀ d k : Nat, k + d = i → idxFrom (flN n i) true k = if i < n then (i : Int) else -1
  | 0, k, hk => by
    have e : k = i := by omega
    subst e
    by_cases h : k < n
    · rw [if_pos h]
      refine idxFrom_hit (s := true) ?_ rfl
      unfold flN
      rw [List.getElem?_append_right (by simp), List.length_replicate, Nat.sub_self, List.getElem?_replicate, if_pos (by omega)]
    · rw [if_neg h]
      refine idxFrom_end ?_
      simp [flN]
      omega
  | d + 1, k, hk => by
    rw [idxFrom_miss (s := false) (by unfold flN; rw [List.getElem?_append_left (by simp; omega), List.getElem?_replicate, if_pos (by omega)]) rfl]
    exact flN_at hi d (k + 1) (by omega)
theorem flN_set {n i : Nat} (hi : i < n) : (flN n i).set i false = flN n (i + 1) := by
  unfold flN
  rw [List.set_append_right _ _ (by simp), List.length_replicate, Nat.sub_self]
  obtain ⟨d, hd⟩ : ∃ d, n - i = d + 1 := ⟨n - i - 1, by omega⟩
  rw [hd, List.replicate_succ, List.set_cons_zero, show n - (i + 1) = d by omega, List.replicate_succ', List.append_assoc]
  rfl
theorem give_run {n i : Nat} (p : Int) (x : En) (hi : i < n) : giveAt (flN n i) (runM p x i) (p + (i : Int)) = i := by
  unfold giveAt
  rw [run_none]
  show idxFrom (flN n i) true 0 = i
  rw [flN_at (Nat.le_of_lt hi) i 0 (by omega), if_pos hi]
theorem give_end (p : Int) (x : En) (n : Nat) : giveAt (flN n n) (runM p x n) (p + (n : Int)) = -1 := by
  unfold giveAt
  rw [run_none]
  show idxFrom (flN n n) true 0 = -1
  rw [flN_at (Nat.le_refl _) n 0 (by omega), if_neg (Nat.lt_irrefl _)]
theorem want_sorted (p : Int) (n : Nat) : sortI (wantN p n) = wantN p n := by
  refine (sortI_unique (List.Perm.refl _) ?_).symm
  unfold wantN
  refine List.pairwise_map.2 (List.pairwise_lt_range.imp ?_)
  intro a b h
  omega
theorem flN_zero (n : Nat) : flN n 0 = List.replicate n true := by simp [flN]
section
variable {w0 : World}
theorem shape0 {w : World} {S : List Chunk} {v : Value} {b m : Nat} {l : List Int} {t : TypeId} (h : Sat w0 ((b, sl 1 i64 l t v) :: S) w) (hl : l.length = m) : ∃ q c, v = .slice q m c := by
  subst hl
  rcases h.slCases with ⟨h1, h2, _⟩ | ⟨c, h1, _⟩
  · exact ⟨_, _, by rw [h1, h2]; rfl⟩
  · exact ⟨_, _, h1⟩
set_option maxRecDepth 100000 in
set_option maxHeartbeats 4000000 in
theorem core (n0 p0 : Int) (x : En) : Calls Try.prog 4 #[.int .i64 n0, .int .i64 p0, .agg x.l.toArray] w0 fun e w' => e = .returned (.bool true) ∧ Sat w0 [] w' := by
  have hS := Sat.refl w0
  go_enter Try.func4, Try.ntmps4
  go_wp2_with (first | (guard_target =~ Calls _ 10 _ _ _; refine Stopped.out ?_) | (refine load1 hS rfl rfl rfl rfl ?_; simp only [putW]) | (refine loadAll hS rfl rfl rfl ?_ ?_; rfl; simp only [putW]) | (refine loadPart hS rfl rfl rfl ?_ rfl ?_; rfl; simp only [putW]) | (refine store1 hS rfl rfl rfl rfl rfl ?_ ?_; (focus (simp; done)); clear hS; intro w hS; simp only [evW, putW] at hS; try simp only [putW]) | (refine storeAll hS rfl rfl rfl rfl ?_ ?_ ?_ ?_; rfl; (focus (simp [Value.oneCell']; done)); rfl; clear hS; intro w hS; try simp only [putW]) | (refine storeN hS rfl rfl rfl rfl ?_ ?_ ?_ ?_; rfl; (focus (simp [Value.oneCell']; done)); (focus (simp; done)); clear hS; intro w hS; simp at hS; try simp only [putW]) | (refine alloc hS rfl rfl ?_; clear hS; intro mb w hS; simp only [putW]) | (refine box1 hS rfl rfl rfl rfl ?_; clear hS; intro mb w hS; try simp only [evW, putW] at hS; simp only [putW]) | (refine boxN hS rfl rfl rfl ?_; clear hS; intro mb w hS; simp only [putW]))
  refine ⟨?_⟩
  refine Calls.mono (pick_sat n0 256 (by omega) (by omega) hS) ?_
  clear hS
  rintro _ w ⟨rfl, hS⟩
  obtain ⟨m, hm, hm8⟩ : ∃ m : Nat, n0 % 256 = m ∧ m ≤ 255 := ⟨(n0 % 256).toNat, by omega, by omega⟩
  rw [hm]
  clear hm
  simp only [putW]
  go_wp2_with (first | (guard_target =~ Calls _ 10 _ _ _; refine Stopped.out ?_) | (refine load1 hS rfl rfl rfl rfl ?_; simp only [putW]) | (refine loadAll hS rfl rfl rfl ?_ ?_; rfl; simp only [putW]) | (refine loadPart hS rfl rfl rfl ?_ rfl ?_; rfl; simp only [putW]) | (refine store1 hS rfl rfl rfl rfl rfl ?_ ?_; (focus (simp; done)); clear hS; intro w hS; simp only [evW, putW] at hS; try simp only [putW]) | (refine storeAll hS rfl rfl rfl rfl ?_ ?_ ?_ ?_; rfl; (focus (simp [Value.oneCell']; done)); rfl; clear hS; intro w hS; try simp only [putW]) | (refine storeN hS rfl rfl rfl rfl ?_ ?_ ?_ ?_; rfl; (focus (simp [Value.oneCell']; done)); (focus (simp; done)); clear hS; intro w hS; simp at hS; try simp only [putW]) | (refine alloc hS rfl rfl ?_; clear hS; intro mb w hS; simp only [putW]) | (refine box1 hS rfl rfl rfl rfl ?_; clear hS; intro mb w hS; try simp only [evW, putW] at hS; simp only [putW]) | (refine boxN hS rfl rfl rfl ?_; clear hS; intro mb w hS; simp only [putW]))
  refine ⟨?_⟩
  refine Calls.mono (pick_sat p0 1073741824 (by omega) (by omega) hS) ?_
  clear hS
  rintro _ w ⟨rfl, hS⟩
  obtain ⟨p, hp, hp0, hp1⟩ : ∃ p : Int, p0 % 1073741824 = p ∧ 0 ≤ p ∧ p < 1073741824 := ⟨_, rfl, by omega, by omega⟩
  rw [hp]
  clear hp
  obtain ⟨nn, hnn⟩ : ∃ nn : Nat, 1 + (m : Int) = nn := ⟨1 + m, by omega⟩
  rw [hnn]
  have h1 : 1 ≤ nn := by omega
  have h9 : nn ≤ 256 := by omega
  clear hnn hm8
  simp only [putW]
  go_wp2_with (first | (guard_target =~ Calls _ 7 _ _ _; refine Stopped.out ?_) | (refine load1 hS rfl rfl rfl rfl ?_; simp only [putW]) | (refine loadAll hS rfl rfl rfl ?_ ?_; rfl; simp only [putW]) | (refine loadPart hS rfl rfl rfl ?_ rfl ?_; rfl; simp only [putW]) | (refine store1 hS rfl rfl rfl rfl rfl ?_ ?_; (focus (simp; done)); clear hS; intro w hS; simp only [evW, putW] at hS; try simp only [putW]) | (refine storeAll hS rfl rfl rfl rfl ?_ ?_ ?_ ?_; rfl; (focus (simp [Value.oneCell']; done)); rfl; clear hS; intro w hS; try simp only [putW]) | (refine storeN hS rfl rfl rfl rfl ?_ ?_ ?_ ?_; rfl; (focus (simp [Value.oneCell']; done)); (focus (simp; done)); clear hS; intro w hS; simp at hS; try simp only [putW]) | (refine alloc hS rfl rfl ?_; clear hS; intro mb w hS; simp only [putW]) | (refine box1 hS rfl rfl rfl rfl ?_; clear hS; intro mb w hS; try simp only [evW, putW] at hS; simp only [putW]) | (refine boxN hS rfl rfl rfl ?_; clear hS; intro mb w hS; simp only [putW]))
  refine ⟨?_⟩
  refine Calls.mono (new_any nn hS h1 h9) ?_
  clear hS
  rintro _ w ⟨bs, rfl, hS⟩
  simp only [putW]
  go_wp2_with (first | (refine load1 hS rfl rfl rfl rfl ?_; simp only [putW]) | (refine loadAll hS rfl rfl rfl ?_ ?_; rfl; simp only [putW]) | (refine loadPart hS rfl rfl rfl ?_ rfl ?_; rfl; simp only [putW]) | (refine store1 hS rfl rfl rfl rfl rfl ?_ ?_; (focus (simp; done)); clear hS; intro w hS; simp only [evW, putW] at hS; try simp only [putW]) | (refine storeAll hS rfl rfl rfl rfl ?_ ?_ ?_ ?_; rfl; (focus (simp [Value.oneCell']; done)); rfl; clear hS; intro w hS; try simp only [putW]) | (refine storeN hS rfl rfl rfl rfl ?_ ?_ ?_ ?_; rfl; (focus (simp [Value.oneCell']; done)); (focus (simp; done)); clear hS; intro w hS; simp at hS; try simp only [putW]) | (refine alloc hS rfl rfl ?_; clear hS; intro mb w hS; simp only [putW]) | (refine box1 hS rfl rfl rfl rfl ?_; clear hS; intro mb w hS; try simp only [evW, putW] at hS; simp only [putW]) | (refine boxN hS rfl rfl rfl ?_; clear hS; intro mb w hS; simp only [putW]))
  go_loopg [9] 2 (fun g i wr => ∃ k : Nat, k + g = 2 ∧ i = .int .i64 k ∧ Sat w0 ((bs, SlotsC nn (List.replicate nn true) []) :: (mb, cells x.l.toArray 33) :: []) wr)
  case atStart => exact ⟨0, rfl, rfl, hS.conv⟩
  case round =>
    clear hS
    obtain ⟨k, hkg, rfl, hS⟩ := hrel
    cases gk with
    | zero =>
      have hk : k = 2 := by omega
      subst hk
      clear hkg
      go_wp2_with (first | (go_at_call 9; refine Calls.mono (awake_any hS) ?_; clear hS; rintro _ w ⟨rfl, hS⟩; simp only [putW]) | (refine load1 hS rfl rfl rfl rfl ?_; simp only [putW]) | (refine loadAll hS rfl rfl rfl ?_ ?_; rfl; simp only [putW]) | (refine loadPart hS rfl rfl rfl ?_ rfl ?_; rfl; simp only [putW]) | (refine store1 hS rfl rfl rfl rfl rfl ?_ ?_; (focus (simp; done)); clear hS; intro w hS; simp only [evW, putW] at hS; try simp only [putW]) | (refine storeAll hS rfl rfl rfl rfl ?_ ?_ ?_ ?_; rfl; (focus (simp [Value.oneCell']; done)); rfl; clear hS; intro w hS; try simp only [putW]) | (refine storeN hS rfl rfl rfl rfl ?_ ?_ ?_ ?_; rfl; (focus (simp [Value.oneCell']; done)); (focus (simp; done)); clear hS; intro w hS; simp at hS; try simp only [putW]) | (refine alloc hS rfl rfl ?_; clear hS; intro mb w hS; simp only [putW]) | (refine box1 hS rfl rfl rfl rfl ?_; clear hS; intro mb w hS; try simp only [evW, putW] at hS; simp only [putW]) | (refine boxN hS rfl rfl rfl ?_; clear hS; intro mb w hS; simp only [putW]))
      go_ret
      exact ⟨rfl, hS.nothing⟩
    | succ g =>
      have hk2 : k < 2 := by omega
      have e1 : decide ((k : Int) < 2) = true := decide_eq_true (by omega)
      rw [← flN_zero] at hS
      go_wp2_with (first | (refine load1 hS rfl rfl rfl rfl ?_; simp only [putW]) | (refine loadAll hS rfl rfl rfl ?_ ?_; rfl; simp only [putW]) | (refine loadPart hS rfl rfl rfl ?_ rfl ?_; rfl; simp only [putW]) | (refine store1 hS rfl rfl rfl rfl rfl ?_ ?_; (focus (simp; done)); clear hS; intro w hS; simp only [evW, putW] at hS; try simp only [putW]) | (refine storeAll hS rfl rfl rfl rfl ?_ ?_ ?_ ?_; rfl; (focus (simp [Value.oneCell']; done)); rfl; clear hS; intro w hS; try simp only [putW]) | (refine storeN hS rfl rfl rfl rfl ?_ ?_ ?_ ?_; rfl; (focus (simp [Value.oneCell']; done)); (focus (simp; done)); clear hS; intro w hS; simp at hS; try simp only [putW]) | (refine alloc hS rfl rfl ?_; clear hS; intro mb w hS; simp only [putW]) | (refine box1 hS rfl rfl rfl rfl ?_; clear hS; intro mb w hS; try simp only [evW, putW] at hS; simp only [putW]) | (refine boxN hS rfl rfl rfl ?_; clear hS; intro mb w hS; simp only [putW]))
      go_loopg [10, 11] nn (fun g v i wr => ∃ j : Nat, j + g = nn ∧ i = .int .i64 j ∧ Sat w0 ((blk v, sl 1 i64 (wantN p j) 3 v) :: (bs, SlotsC nn (flN nn j) (runM p x j)) :: (mb, cells x.l.toArray 33) :: []) wr)
      case atStart => exact ⟨0, by omega, rfl, hS.slNil 1 i64 3⟩
      case round =>
        clear hS
        obtain ⟨j, hjg, rfl, hS⟩ := hrel
        cases gk with
        | succ g2 =>
          have hjn : j < nn := by omega
          have hj256 : j < 256 := by omega
          have e2 : decide ((j : Int) < (nn : Int)) = true := decide_eq_true (by omega)
          have Hg := Lib.hid (give_run (n := nn) p x hjn)
          have hlm1 : (wantN p j).length + 1 ≤ maxLen := by rw [wantN_len]; simp [maxLen]; omega
          have hlm2 : ((wantN p j).length + 1) * 8 ≤ 140737488355328 := by rw [wantN_len]; omega
          go_wp2_with (first | (guard_target =~ Calls _ 14 _ _ _; refine Stopped.out ?_) | (refine load1 hS rfl rfl rfl rfl ?_; simp only [putW]) | (refine loadAll hS rfl rfl rfl ?_ ?_; rfl; simp only [putW]) | (refine loadPart hS rfl rfl rfl ?_ rfl ?_; rfl; simp only [putW]) | (refine store1 hS rfl rfl rfl rfl rfl ?_ ?_; (focus (simp; done)); clear hS; intro w hS; simp only [evW, putW] at hS; try simp only [putW]) | (refine storeAll hS rfl rfl rfl rfl ?_ ?_ ?_ ?_; rfl; (focus (simp [Value.oneCell']; done)); rfl; clear hS; intro w hS; try simp only [putW]) | (refine storeN hS rfl rfl rfl rfl ?_ ?_ ?_ ?_; rfl; (focus (simp [Value.oneCell']; done)); (focus (simp; done)); clear hS; intro w hS; simp at hS; try simp only [putW]) | (refine alloc hS rfl rfl ?_; clear hS; intro mb w hS; simp only [putW]) | (refine box1 hS rfl rfl rfl rfl ?_; clear hS; intro mb w hS; try simp only [evW, putW] at hS; simp only [putW]) | (refine boxN hS rfl rfl rfl ?_; clear hS; intro mb w hS; simp only [putW]))
          refine ⟨?_⟩
          refine Calls.mono (give_any (bs := bs) (p + (j : Int)) x j hjn Hg.out hS) ?_
          clear hS
          rintro _ w ⟨rfl, hS⟩
          rw [run_next, flN_set hjn] at hS
          simp only [putW]
          go_wp2_with (first | (refine buildSlice1 (c := #[.int .i64 (p + (j : Int))]) hS rfl rfl rfl ?_ ?_ ?_ ?_; rfl; rfl; rfl; clear hS; intro mv w hS; simp only [putW]) | (refine append1 (f := i64) (n := 1) hS rfl rfl u10 rfl rfl (p + (j : Int)) rfl (by intro u hu; rw [List.mem_singleton.1 hu]; rfl) rfl hlm1 hlm2 ?_; clear hS; intro v10 w hS; simp only [putW]) | (refine load1 hS rfl rfl rfl rfl ?_; simp only [putW]) | (refine loadAll hS rfl rfl rfl ?_ ?_; rfl; simp only [putW]) | (refine loadPart hS rfl rfl rfl ?_ rfl ?_; rfl; simp only [putW]) | (refine store1 hS rfl rfl rfl rfl rfl ?_ ?_; (focus (simp; done)); clear hS; intro w hS; simp only [evW, putW] at hS; try simp only [putW]) | (refine storeAll hS rfl rfl rfl rfl ?_ ?_ ?_ ?_; rfl; (focus (simp [Value.oneCell']; done)); rfl; clear hS; intro w hS; try simp only [putW]) | (refine storeN hS rfl rfl rfl rfl ?_ ?_ ?_ ?_; rfl; (focus (simp [Value.oneCell']; done)); (focus (simp; done)); clear hS; intro w hS; simp at hS; try simp only [putW]) | (refine alloc hS rfl rfl ?_; clear hS; intro mb w hS; simp only [putW]) | (refine box1 hS rfl rfl rfl rfl ?_; clear hS; intro mb w hS; try simp only [evW, putW] at hS; simp only [putW]) | (refine boxN hS rfl rfl rfl ?_; clear hS; intro mb w hS; simp only [putW]))
          go_roundg g2
          case measure => omega
          case rel => exact ⟨j + 1, by omega, by go_num, by rw [← wantN_next]; exact hS.conv⟩
        | zero =>
          have hj : j = nn := by omega
          subst hj
          clear hjg
          have Hg := Lib.hid (give_end p x j)
          go_wp2_with (first | (guard_target =~ Calls _ 14 _ _ _; refine Stopped.out ?_) | (refine load1 hS rfl rfl rfl rfl ?_; simp only [putW]) | (refine loadAll hS rfl rfl rfl ?_ ?_; rfl; simp only [putW]) | (refine loadPart hS rfl rfl rfl ?_ rfl ?_; rfl; simp only [putW]) | (refine store1 hS rfl rfl rfl rfl rfl ?_ ?_; (focus (simp; done)); clear hS; intro w hS; simp only [evW, putW] at hS; try simp only [putW]) | (refine storeAll hS rfl rfl rfl rfl ?_ ?_ ?_ ?_; rfl; (focus (simp [Value.oneCell']; done)); rfl; clear hS; intro w hS; try simp only [putW]) | (refine storeN hS rfl rfl rfl rfl ?_ ?_ ?_ ?_; rfl; (focus (simp [Value.oneCell']; done)); (focus (simp; done)); clear hS; intro w hS; simp at hS; try simp only [putW]) | (refine alloc hS rfl rfl ?_; clear hS; intro mb w hS; simp only [putW]) | (refine box1 hS rfl rfl rfl rfl ?_; clear hS; intro mb w hS; try simp only [evW, putW] at hS; simp only [putW]) | (refine boxN hS rfl rfl rfl ?_; clear hS; intro mb w hS; simp only [putW]))
          refine ⟨?_⟩
          refine Calls.mono (give_full (bs := bs) (p + (j : Int)) x Hg.out hS) ?_
          clear hS
          rintro _ w ⟨rfl, hS⟩
          simp only [putW]
          go_wp2_with (first | (guard_target =~ Calls _ 18 _ _ _; refine Stopped.out ?_) | (refine load1 hS rfl rfl rfl rfl ?_; simp only [putW]) | (refine loadAll hS rfl rfl rfl ?_ ?_; rfl; simp only [putW]) | (refine loadPart hS rfl rfl rfl ?_ rfl ?_; rfl; simp only [putW]) | (refine store1 hS rfl rfl rfl rfl rfl ?_ ?_; (focus (simp; done)); clear hS; intro w hS; simp only [evW, putW] at hS; try simp only [putW]) | (refine storeAll hS rfl rfl rfl rfl ?_ ?_ ?_ ?_; rfl; (focus (simp [Value.oneCell']; done)); rfl; clear hS; intro w hS; try simp only [putW]) | (refine storeN hS rfl rfl rfl rfl ?_ ?_ ?_ ?_; rfl; (focus (simp [Value.oneCell']; done)); (focus (simp; done)); clear hS; intro w hS; simp at hS; try simp only [putW]) | (refine alloc hS rfl rfl ?_; clear hS; intro mb w hS; simp only [putW]) | (refine box1 hS rfl rfl rfl rfl ?_; clear hS; intro mb w hS; try simp only [evW, putW] at hS; simp only [putW]) | (refine boxN hS rfl rfl rfl ?_; clear hS; intro mb w hS; simp only [putW]))
          refine ⟨?_⟩
          refine Calls.mono (pages_any (bs := bs) (n := j) (fl := flN j j) (m := runM p x j) (fun y hy => by
            rw [mkeys_run] at hy
            obtain ⟨i, hi, rfl⟩ := List.mem_map.1 hy
            have := List.mem_range.1 hi
            show (Lit.int .i64 _).wf = true
            simp [Lit.wf, IntKind.min, IntKind.max, IntKind.bits, IntKind.signed]
            omega) (by rw [run_len]; omega) (hS.conv (S' := (bs, SlotsC j (flN j j) (runM p x j)) :: (blk u10, sl 1 i64 (wantN p j) 3 u10) :: (mb, cells x.l.toArray 33) :: []))) ?_
          clear hS
          rintro _ w ⟨vp, rfl, hS⟩
          rw [mkeys_run, want_sorted] at hS
          simp only [putW]
          go_wp2_with (first | (guard_target =~ Calls _ 17 _ _ _; refine Stopped.out ?_) | (refine load1 hS rfl rfl rfl rfl ?_; simp only [putW]) | (refine loadAll hS rfl rfl rfl ?_ ?_; rfl; simp only [putW]) | (refine loadPart hS rfl rfl rfl ?_ rfl ?_; rfl; simp only [putW]) | (refine store1 hS rfl rfl rfl rfl rfl ?_ ?_; (focus (simp; done)); clear hS; intro w hS; simp only [evW, putW] at hS; try simp only [putW]) | (refine storeAll hS rfl rfl rfl rfl ?_ ?_ ?_ ?_; rfl; (focus (simp [Value.oneCell']; done)); rfl; clear hS; intro w hS; try simp only [putW]) | (refine storeN hS rfl rfl rfl rfl ?_ ?_ ?_ ?_; rfl; (focus (simp [Value.oneCell']; done)); (focus (simp; done)); clear hS; intro w hS; simp at hS; try simp only [putW]) | (refine alloc hS rfl rfl ?_; clear hS; intro mb w hS; simp only [putW]) | (refine box1 hS rfl rfl rfl rfl ?_; clear hS; intro mb w hS; try simp only [evW, putW] at hS; simp only [putW]) | (refine boxN hS rfl rfl rfl ?_; clear hS; intro mb w hS; simp only [putW]))
          refine ⟨?_⟩
          have hra : RI w (wantN p j) vp := hS.readsSl fun _ _ => trivial
          have hrb : RI w (wantN p j) u10 := hS.readsSl fun _ _ => trivial
          refine Calls.mono (sameInts_any hra hrb) ?_
          rintro _ w2 ⟨rfl, h2⟩
          replace hS := hS.frame h2
          clear h2 hra hrb
          simp only [List.nil_append] at hS
          simp only [decide_true, putW]
          go_wp2_with (first | (guard_target =~ Calls _ 13 _ _ _; refine Stopped.out ?_) | (refine load1 hS rfl rfl rfl rfl ?_; simp only [putW]) | (refine loadAll hS rfl rfl rfl ?_ ?_; rfl; simp only [putW]) | (refine loadPart hS rfl rfl rfl ?_ rfl ?_; rfl; simp only [putW]) | (refine store1 hS rfl rfl rfl rfl rfl ?_ ?_; (focus (simp; done)); clear hS; intro w hS; simp only [evW, putW] at hS; try simp only [putW]) | (refine storeAll hS rfl rfl rfl rfl ?_ ?_ ?_ ?_; rfl; (focus (simp [Value.oneCell']; done)); rfl; clear hS; intro w hS; try simp only [putW]) | (refine storeN hS rfl rfl rfl rfl ?_ ?_ ?_ ?_; rfl; (focus (simp [Value.oneCell']; done)); (focus (simp; done)); clear hS; intro w hS; simp at hS; try simp only [putW]) | (refine alloc hS rfl rfl ?_; clear hS; intro mb w hS; simp only [putW]) | (refine box1 hS rfl rfl rfl rfl ?_; clear hS; intro mb w hS; try simp only [evW, putW] at hS; simp only [putW]) | (refine boxN hS rfl rfl rfl ?_; clear hS; intro mb w hS; simp only [putW]))
          refine ⟨?_⟩
          refine Calls.mono (clear_any (bs := bs) hS) ?_
          clear hS
          rintro _ w ⟨rfl, hS⟩
          simp only [putW]
          go_wp2_with (first | (guard_target =~ Calls _ 18 _ _ _; refine Stopped.out ?_) | (refine load1 hS rfl rfl rfl rfl ?_; simp only [putW]) | (refine loadAll hS rfl rfl rfl ?_ ?_; rfl; simp only [putW]) | (refine loadPart hS rfl rfl rfl ?_ rfl ?_; rfl; simp only [putW]) | (refine store1 hS rfl rfl rfl rfl rfl ?_ ?_; (focus (simp; done)); clear hS; intro w hS; simp only [evW, putW] at hS; try simp only [putW]) | (refine storeAll hS rfl rfl rfl rfl ?_ ?_ ?_ ?_; rfl; (focus (simp [Value.oneCell']; done)); rfl; clear hS; intro w hS; try simp only [putW]) | (refine storeN hS rfl rfl rfl rfl ?_ ?_ ?_ ?_; rfl; (focus (simp [Value.oneCell']; done)); (focus (simp; done)); clear hS; intro w hS; simp at hS; try simp only [putW]) | (refine alloc hS rfl rfl ?_; clear hS; intro mb w hS; simp only [putW]) | (refine box1 hS rfl rfl rfl rfl ?_; clear hS; intro mb w hS; try simp only [evW, putW] at hS; simp only [putW]) | (refine boxN hS rfl rfl rfl ?_; clear hS; intro mb w hS; simp only [putW]))
          refine ⟨?_⟩
          refine Calls.mono (pages_any (bs := bs) (n := j) (fl := List.replicate j true) (m := []) (fun y hy => by cases hy) (by simp) (hS.conv (S' := (bs, SlotsC j (List.replicate j true) []) :: (mb, cells x.l.toArray 33) :: []))) ?_
          clear hS
          rintro _ w ⟨vq, rfl, hS⟩
          obtain ⟨qq, cq, hvq⟩ := shape0 (m := 0) hS (by simp [mkeys, sortI])
          subst hvq
          simp only [putW]
          go_wp2_with (first | (refine load1 hS rfl rfl rfl rfl ?_; simp only [putW]) | (refine loadAll hS rfl rfl rfl ?_ ?_; rfl; simp only [putW]) | (refine loadPart hS rfl rfl rfl ?_ rfl ?_; rfl; simp only [putW]) | (refine store1 hS rfl rfl rfl rfl rfl ?_ ?_; (focus (simp; done)); clear hS; intro w hS; simp only [evW, putW] at hS; try simp only [putW]) | (refine storeAll hS rfl rfl rfl rfl ?_ ?_ ?_ ?_; rfl; (focus (simp [Value.oneCell']; done)); rfl; clear hS; intro w hS; try simp only [putW]) | (refine storeN hS rfl rfl rfl rfl ?_ ?_ ?_ ?_; rfl; (focus (simp [Value.oneCell']; done)); (focus (simp; done)); clear hS; intro w hS; simp at hS; try simp only [putW]) | (refine alloc hS rfl rfl ?_; clear hS; intro mb w hS; simp only [putW]) | (refine box1 hS rfl rfl rfl rfl ?_; clear hS; intro mb w hS; try simp only [evW, putW] at hS; simp only [putW]) | (refine boxN hS rfl rfl rfl ?_; clear hS; intro mb w hS; simp only [putW]))
          go_roundg g
          case measure => omega
          case rel => exact ⟨k + 1, by omega, by go_num, hS.conv⟩
end
theorem walk (W : World) {v0 v1 v2 : Value} (h0 : OkL W [.int .i64] [v0]) (h1 : OkL W [.int .i64] [v1]) (h2 : ∃ us, v2 = .agg us.toArray ∧ OkL W [.int .u32, .int .u32, .int .u64] us) :
    Calls Try.prog 4 #[v0, v1, v2] W fun e w' => e = .returned (.bool true) ∧ Below W.heap.size W w' := by
  obtain ⟨h0, _⟩ := h0
  obtain ⟨h1, _⟩ := h1
  obtain ⟨us, rfl, hu⟩ := h2
  match us, hu with
  | [a, b, c], ⟨ha, hb, hc, _⟩ =>
    cases h0; cases h1; cases ha; cases hb; cases hc
    rename_i n0 _ p0 _ x1 _ x2 _ x3 _
    exact (core n0 p0 ⟨x1, x2, x3⟩).mono fun e w' h => ⟨h.1, h.2.base⟩
theorem own : ownKnob Try.prog.godebug = none := by kernel_rfl
theorem laidOut : laidOutB Try.prog = true := by kernel_rfl

set_option maxRecDepth 100000 in
theorem lifted (os : Os) (started : os.Started) (H : Type) (enc : TypeId × Value → H) :
    ReturnsInHanded {} Try.checked os 4 .any (Rows.spillAllSpec.pre6 enc Try.prog Try.f4 Rows.spillAllRow.domain false) (Rows.spillAllSpec.post enc Try.prog Try.f4 false true false false) := by
  refine returnsInHanded_of_change (C := Try.checked) own started (by kernel_rfl) Try.func4
    (ChangeSpec.witness6 (enc := enc) (C := Try.checked) false ⟨#[], #[.int .i64 0, .int .i64 0, .agg #[.int .u32 0, .int .u32 0, .int .u64 0]], []⟩ 8 (by kernel_rfl) (by kernel_rfl) (by kernel_rfl) (by kernel_rfl)) ?_
  intro W base args ds gs before hval0 hW hcnd _
  have hval : ∀ (j : Nat) t v, Try.f4.params[j]? = some t → args[j]? = some v → Value.okWide Try.prog W .any base t v := hval0
  have hW' := hW
  obtain ⟨p, q, hA0, hV, rfl, hfz, hnd⟩ := hW
  have hA : DataW.TrodAll enc Try.prog W 0 (fun _ => true) true Try.f4.params.toList args.toList ds p := hA0
  rw [Try.params4] at hA hval
  obtain ⟨v0, vs0, d0, ds0, p0, q0, hargs, rfl, rfl, h0, r0⟩ := trodAll_cons hA
  obtain ⟨v1, vs1, d1, ds1, p1, q1, rfl, rfl, rfl, h1, r1⟩ := trodAll_cons r0
  obtain ⟨v2, vs2, d2, ds2, p2, q2, rfl, rfl, rfl, h2, r2⟩ := trodAll_cons r1
  obtain ⟨rfl, rfl, rfl⟩ := trodAll_nil r2
  obtain rfl : args = #[v0, v1, v2] := by cases args; simp_all
  obtain ⟨rfl, rfl⟩ := trodVars_none hV
  have k0 := h0
  have lt0 : ∀ x ∈ p0, x.block < W.heap.size := by obtain ⟨m, hm⟩ := k0; exact DataW.trod_lt m _ _ _ hm
  have k1 := h1
  have lt1 : ∀ x ∈ p1, x.block < W.heap.size := by obtain ⟨m, hm⟩ := k1; exact DataW.trod_lt m _ _ _ hm
  have k2 := h2
  have lt2 : ∀ x ∈ p2, x.block < W.heap.size := by obtain ⟨m, hm⟩ := k2; exact DataW.trod_lt m _ _ _ hm
  have Wk := walk W (argOne (n := 8) (by kernel_rfl) (by kernel_rfl) (hval 0 3 v0 rfl rfl) h0) (argOne (n := 8) (by kernel_rfl) (by kernel_rfl) (hval 1 3 v1 rfl rfl) h1) (argAgg (n := 8) (by kernel_rfl) (by kernel_rfl) (hval 2 33 v2 rfl rfl) h2)
  clear hA0 hval0
  refine Wk.mono fun e W' ⟨he, bel⟩ => ?_
  subst he
  exact ⟨_, rfl, _, _, _, [], _, [], hW', trodAll_mk1 (shut_bool Try.underlying4 _), (trodAll_cons_mk (Below.trod laidOut (by kernel_rfl) (of_decide_eq_true (by kernel_rfl)) k0 bel lt0) (trodAll_cons_mk (Below.trod laidOut (by kernel_rfl) (of_decide_eq_true (by kernel_rfl)) k1 bel lt1) (trodAll_cons_mk (Below.trod laidOut (by kernel_rfl) (of_decide_eq_true (by kernel_rfl)) k2 bel lt2) trodAll_mk0))), rfl, bel.frame _, fun h => by cases h⟩

theorem over : Rows.spillAllRow.holds Try.pinned (OpenSpec.ofChange Rows.spillAllSpec) :=
  OpenClaim.holds_of_wide 4 Try.f4 rfl rfl rfl rfl rfl rfl rfl ⟨rfl, rfl, rfl, rfl, rfl⟩ rfl rfl rfl rfl rfl (by kernel_rfl) Try.func4 (by kernel_rfl)
    (of_decide_eq_true (by kernel_rfl)) (by unfold Func.isWrapper; first | (rw [if_pos (by decide +kernel)]; kernel_rfl) | (rw [if_neg (by decide +kernel)]; exact ⟨rfl, rfl⟩))
    (fun os started H enc _ => lifted os started H enc)

/-- The statement. -/
theorem proved : Rows.SpillAllSaid := over

end Go.Proofs.Ythlcjefkhlfkpaa.SpillAllDone
