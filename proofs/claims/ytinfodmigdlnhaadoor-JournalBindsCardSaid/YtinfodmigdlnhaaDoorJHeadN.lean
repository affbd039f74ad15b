/-
  journal.Head: what it refuses.
-/
import Derived.Test.YtinfodmigdlnhaaDoorJHead
set_option linter.unusedSimpArgs false
set_option linter.unusedVariables false
namespace Go.Proofs.YtinfodmigdlnhaaDoor
open Go.RowKit Go.Proofs.YtinfodmigdlnhaaDoor.Sl Go.Proofs.YtinfodmigdlnhaaDoor.Jp

section
variable {w0 : World} {B : List Int} {vb : Value}
set_option maxHeartbeats 1000000 in
theorem head_bad (v : Nat) (b : Int) (hB : RI w0 B vb) (hk : ¬ okB b) :
    Calls Tryd.prog 44 #[.int .u64 (v : Int), vb, .int .i64 b] w0 fun e w' => e = .returned (.tuple #[.slice none 0 0, .int .i64 1]) ∧ Sat w0 [] w' := by
  have hS := Sat.refl w0
  obtain ⟨pb, cb, rfl, hlb, hatb⟩ := hB.at
  go_enter Tryd.func44, Tryd.ntmps44
  go_wp2_with (first | (go_at_call 49; refine Calls.mono (planOf_bad b hk) ?_; rintro _ w2 ⟨rfl, h2⟩; replace hS := hS.frame h2; clear h2; (try simp only [List.cons_append, List.nil_append] at hS); simp only [putW]) | (refine load1 hS rfl rfl rfl rfl ?_; simp only [putW]) | (refine loadAll hS rfl rfl rfl ?_ ?_; rfl; simp only [putW]) | (refine loadPart hS rfl rfl rfl ?_ rfl ?_; rfl; simp only [putW]) | (refine store1 hS rfl rfl rfl rfl rfl ?_ ?_; (focus (simp; done)); clear hS; intro w hS; simp only [evW, putW] at hS; try simp only [putW]) | (refine storeAll hS rfl rfl rfl rfl ?_ ?_ ?_ ?_; rfl; (focus (simp [Value.oneCell']; done)); rfl; clear hS; intro w hS; try simp only [putW]) | (refine storeN hS rfl rfl rfl rfl ?_ ?_ ?_ ?_; rfl; (focus (simp [Value.oneCell']; done)); (focus (simp; done)); clear hS; intro w hS; simp at hS; try simp only [putW]) | (refine alloc hS rfl rfl ?_; clear hS; intro mb w hS; simp only [putW]) | (refine box1 hS rfl rfl rfl rfl ?_; clear hS; intro mb w hS; try simp only [evW, putW] at hS; simp only [putW]) | (refine boxN hS rfl rfl rfl ?_; clear hS; intro mb w hS; simp only [putW]))
  go_ret2
  exact ⟨rfl, hS.conv⟩
set_option maxRecDepth 100000 in
set_option maxHeartbeats 4000000 in
theorem head_off (v : Nat) (b : Int) (hv : v < 18446744073709551616) (hB : RI w0 B vb) (hk : okB b) (hn : ¬ okL B b) :
    Calls Tryd.prog 44 #[.int .u64 (v : Int), vb, .int .i64 b] w0 fun e w' => e = .returned (.tuple #[.slice none 0 0, .int .i64 1]) ∧ Sat w0 [] w' := by
  have hS := Sat.refl w0
  obtain ⟨n, rfl⟩ : ∃ n : Nat, b = n := ⟨b.toNat, by have := hk.1; omega⟩
  have h1 : 1 ≤ n := by have := hk.1; omega
  have hn2 : n ≤ 256 := by have := hk.2; omega
  have Hn : Hid (¬ okL B n) := hn
  have Hk : Hid (okB n) := hk
  have hh1 := heads_le n hn2
  clear hk hn
  obtain ⟨pb, cb, rfl, hlb, hatb⟩ := hB.at
  clear hB
  by_cases h3 : n < B.length
  · go_enter Tryd.func44, Tryd.ntmps44
    go_wp2_with (first | (go_at_call 49; refine Calls.mono (planOf_good n h1 hn2) ?_; rintro _ w2 ⟨g, cap, rfl, h2⟩; replace hS := hS.frame h2; clear h2; (try simp only [List.cons_append, List.nil_append] at hS); simp only [putW]) | (refine load1 hS rfl rfl rfl rfl ?_; simp only [putW]) | (refine loadAll hS rfl rfl rfl ?_ ?_; rfl; simp only [putW]) | (refine loadPart hS rfl rfl rfl ?_ rfl ?_; rfl; simp only [putW]) | (refine store1 hS rfl rfl rfl rfl rfl ?_ ?_; (focus (simp; done)); clear hS; intro w hS; simp only [evW, putW] at hS; try simp only [putW]) | (refine storeAll hS rfl rfl rfl rfl ?_ ?_ ?_ ?_; rfl; (focus (simp [Value.oneCell']; done)); rfl; clear hS; intro w hS; try simp only [putW]) | (refine storeN hS rfl rfl rfl rfl ?_ ?_ ?_ ?_; rfl; (focus (simp [Value.oneCell']; done)); (focus (simp; done)); clear hS; intro w hS; simp at hS; try simp only [putW]) | (refine alloc hS rfl rfl ?_; clear hS; intro mb w hS; simp only [putW]) | (refine box1 hS rfl rfl rfl rfl ?_; clear hS; intro mb w hS; try simp only [evW, putW] at hS; simp only [putW]) | (refine boxN hS rfl rfl rfl ?_; clear hS; intro mb w hS; simp only [putW]))
    go_ret2
    exact ⟨rfl, hS.conv⟩
  go_enter Tryd.func44, Tryd.ntmps44
  go_wp2_with (first | (go_at_call 49; refine Calls.mono (planOf_good n h1 hn2) ?_; rintro _ w2 ⟨g, cap, rfl, h2⟩; replace hS := hS.frame h2; clear h2; (try simp only [List.cons_append, List.nil_append] at hS); simp only [putW]) | (guard_target =~ Calls _ 50 _ _ _; refine Stopped.out ?_) | (refine load1 hS rfl rfl rfl rfl ?_; simp only [putW]) | (refine loadAll hS rfl rfl rfl ?_ ?_; rfl; simp only [putW]) | (refine loadPart hS rfl rfl rfl ?_ rfl ?_; rfl; simp only [putW]) | (refine store1 hS rfl rfl rfl rfl rfl ?_ ?_; (focus (simp; done)); clear hS; intro w hS; simp only [evW, putW] at hS; try simp only [putW]) | (refine storeAll hS rfl rfl rfl rfl ?_ ?_ ?_ ?_; rfl; (focus (simp [Value.oneCell']; done)); rfl; clear hS; intro w hS; try simp only [putW]) | (refine storeN hS rfl rfl rfl rfl ?_ ?_ ?_ ?_; rfl; (focus (simp [Value.oneCell']; done)); (focus (simp; done)); clear hS; intro w hS; simp at hS; try simp only [putW]) | (refine alloc hS rfl rfl ?_; clear hS; intro mb w hS; simp only [putW]) | (refine box1 hS rfl rfl rfl rfl ?_; clear hS; intro mb w hS; try simp only [evW, putW] at hS; simp only [putW]) | (refine boxN hS rfl rfl rfl ?_; clear hS; intro mb w hS; simp only [putW]))
  refine ⟨?_⟩
  have hnil : RB w0 [] (.slice none 0 0) := .inl ⟨rfl, .inl rfl⟩
  (refine Calls.mono (put8 v hv (hnil.mono hS.base) (by simp)) ?_; rintro _ w2 ⟨v1, rfl, h2⟩; replace hS := hS.frame h2; clear h2; (try simp only [List.cons_append, List.nil_append] at hS); simp only [putW])
  go_wp2_with (first | (guard_target =~ Calls _ 50 _ _ _; refine Stopped.out ?_) | (refine load1 hS rfl rfl rfl rfl ?_; simp only [putW]) | (refine loadAll hS rfl rfl rfl ?_ ?_; rfl; simp only [putW]) | (refine loadPart hS rfl rfl rfl ?_ rfl ?_; rfl; simp only [putW]) | (refine store1 hS rfl rfl rfl rfl rfl ?_ ?_; (focus (simp; done)); clear hS; intro w hS; simp only [evW, putW] at hS; try simp only [putW]) | (refine storeAll hS rfl rfl rfl rfl ?_ ?_ ?_ ?_; rfl; (focus (simp [Value.oneCell']; done)); rfl; clear hS; intro w hS; try simp only [putW]) | (refine storeN hS rfl rfl rfl rfl ?_ ?_ ?_ ?_; rfl; (focus (simp [Value.oneCell']; done)); (focus (simp; done)); clear hS; intro w hS; simp at hS; try simp only [putW]) | (refine alloc hS rfl rfl ?_; clear hS; intro mb w hS; simp only [putW]) | (refine box1 hS rfl rfl rfl rfl ?_; clear hS; intro mb w hS; try simp only [evW, putW] at hS; simp only [putW]) | (refine boxN hS rfl rfl rfl ?_; clear hS; intro mb w hS; simp only [putW]))
  refine ⟨?_⟩
  (refine Calls.mono (put4 B.length (by omega) (hS.readsSl (v := v1) (be_byt _ _)) (by simp)) ?_; rintro _ w2 ⟨v2, rfl, h2⟩; replace hS := hS.frame h2; clear h2; (try simp only [List.cons_append, List.nil_append] at hS); simp only [putW])
  go_wp2_with (first | (refine load1 hS rfl rfl rfl rfl ?_; simp only [putW]) | (refine loadAll hS rfl rfl rfl ?_ ?_; rfl; simp only [putW]) | (refine loadPart hS rfl rfl rfl ?_ rfl ?_; rfl; simp only [putW]) | (refine store1 hS rfl rfl rfl rfl rfl ?_ ?_; (focus (simp; done)); clear hS; intro w hS; simp only [evW, putW] at hS; try simp only [putW]) | (refine storeAll hS rfl rfl rfl rfl ?_ ?_ ?_ ?_; rfl; (focus (simp [Value.oneCell']; done)); rfl; clear hS; intro w hS; try simp only [putW]) | (refine storeN hS rfl rfl rfl rfl ?_ ?_ ?_ ?_; rfl; (focus (simp [Value.oneCell']; done)); (focus (simp; done)); clear hS; intro w hS; simp at hS; try simp only [putW]) | (refine alloc hS rfl rfl ?_; clear hS; intro mb w hS; simp only [putW]) | (refine box1 hS rfl rfl rfl rfl ?_; clear hS; intro mb w hS; try simp only [evW, putW] at hS; simp only [putW]) | (refine boxN hS rfl rfl rfl ?_; clear hS; intro mb w hS; simp only [putW]))
  go_loopw [10, 44] (fun vv i wr => ∃ k : Nat, k ≤ B.length ∧ i = .int .i64 k ∧ Hid (∀ x ∈ B.take k, 0 ≤ x ∧ x < 65536) ∧ Sat w0 [(blk vv, sl 1 by8 (part v B k) 5 vv), (mb, cells #[.int .i64 1, .int .i64 n, .int .i64 1, .slice (some ⟨g, 0, none⟩) 1 cap, .int .i64 1, .int .i64 3, .int .i64 (heads n), .int .i64 (3 + heads n), .int .i64 (3 + heads n + n), .int .i64 (3 + heads n + n + n)] 99)] wr) (fun _ i _ => B.length - (intOf i).toNat)
  case atStart =>
    refine ⟨0, Nat.zero_le _, rfl, (by intro x hx; simp at hx), ?_⟩
    have e : part v B 0 = be 8 v ++ be 4 B.length := by simp [part]
    rw [e]; exact hS.conv
  case round =>
    clear hS
    obtain ⟨k, hk, rfl, hall, hS⟩ := hrel
    by_cases hlt : k < B.length
    · obtain ⟨x, hx⟩ : ∃ x, B[k]? = some x := ⟨_, List.getElem?_eq_getElem hlt⟩
      obtain ⟨bb, ob, rfl, hBb⟩ := hatb (by intro e; subst e; simp at hlt)
      by_cases hx2 : 0 ≤ x ∧ x < 65536
      rotate_left
      · by_cases hx0 : x < 0
        · go_wp2_with (first | (refine loadB (f := i64) hS rfl rfl rfl hBb k 0 ?_ hx rfl ?_; omega; simp only [putW]) | (refine load1 hS rfl rfl rfl rfl ?_; simp only [putW]) | (refine loadAll hS rfl rfl rfl ?_ ?_; rfl; simp only [putW]) | (refine loadPart hS rfl rfl rfl ?_ rfl ?_; rfl; simp only [putW]) | (refine store1 hS rfl rfl rfl rfl rfl ?_ ?_; (focus (simp; done)); clear hS; intro w hS; simp only [evW, putW] at hS; try simp only [putW]) | (refine storeAll hS rfl rfl rfl rfl ?_ ?_ ?_ ?_; rfl; (focus (simp [Value.oneCell']; done)); rfl; clear hS; intro w hS; try simp only [putW]) | (refine storeN hS rfl rfl rfl rfl ?_ ?_ ?_ ?_; rfl; (focus (simp [Value.oneCell']; done)); (focus (simp; done)); clear hS; intro w hS; simp at hS; try simp only [putW]) | (refine alloc hS rfl rfl ?_; clear hS; intro mb w hS; simp only [putW]) | (refine box1 hS rfl rfl rfl rfl ?_; clear hS; intro mb w hS; try simp only [evW, putW] at hS; simp only [putW]) | (refine boxN hS rfl rfl rfl ?_; clear hS; intro mb w hS; simp only [putW]))
          go_ret2
          exact ⟨rfl, hS.conv⟩
        · have hx6 : 65536 ≤ x := by omega
          go_wp2_with (first | (refine loadB (f := i64) hS rfl rfl rfl hBb k 0 ?_ hx rfl ?_; omega; simp only [putW]) | (refine load1 hS rfl rfl rfl rfl ?_; simp only [putW]) | (refine loadAll hS rfl rfl rfl ?_ ?_; rfl; simp only [putW]) | (refine loadPart hS rfl rfl rfl ?_ rfl ?_; rfl; simp only [putW]) | (refine store1 hS rfl rfl rfl rfl rfl ?_ ?_; (focus (simp; done)); clear hS; intro w hS; simp only [evW, putW] at hS; try simp only [putW]) | (refine storeAll hS rfl rfl rfl rfl ?_ ?_ ?_ ?_; rfl; (focus (simp [Value.oneCell']; done)); rfl; clear hS; intro w hS; try simp only [putW]) | (refine storeN hS rfl rfl rfl rfl ?_ ?_ ?_ ?_; rfl; (focus (simp [Value.oneCell']; done)); (focus (simp; done)); clear hS; intro w hS; simp at hS; try simp only [putW]) | (refine alloc hS rfl rfl ?_; clear hS; intro mb w hS; simp only [putW]) | (refine box1 hS rfl rfl rfl rfl ?_; clear hS; intro mb w hS; try simp only [evW, putW] at hS; simp only [putW]) | (refine boxN hS rfl rfl rfl ?_; clear hS; intro mb w hS; simp only [putW]))
          go_ret2
          exact ⟨rfl, hS.conv⟩
      have Hx2 : Hid (0 ≤ x ∧ x < 65536) := hx2
      have hsucc := part_succ (v := v) hx
      have Hsucc : Hid _ := hsucc
      clear hsucc
      obtain ⟨N, rfl⟩ : ∃ N : Nat, x = N := ⟨x.toNat, by omega⟩
      have hl4 : Hid ((part v B k).length ≤ 100000000000000) := by show _ ≤ _; rw [part_length v B hk]; omega
      go_wp2_with (first | (refine loadB (f := i64) hS rfl rfl rfl hBb k 0 ?_ hx rfl ?_; omega; simp only [putW]) | (guard_target =~ Calls _ 50 _ _ _; refine Stopped.out ?_) | (refine load1 hS rfl rfl rfl rfl ?_; simp only [putW]) | (refine loadAll hS rfl rfl rfl ?_ ?_; rfl; simp only [putW]) | (refine loadPart hS rfl rfl rfl ?_ rfl ?_; rfl; simp only [putW]) | (refine store1 hS rfl rfl rfl rfl rfl ?_ ?_; (focus (simp; done)); clear hS; intro w hS; simp only [evW, putW] at hS; try simp only [putW]) | (refine storeAll hS rfl rfl rfl rfl ?_ ?_ ?_ ?_; rfl; (focus (simp [Value.oneCell']; done)); rfl; clear hS; intro w hS; try simp only [putW]) | (refine storeN hS rfl rfl rfl rfl ?_ ?_ ?_ ?_; rfl; (focus (simp [Value.oneCell']; done)); (focus (simp; done)); clear hS; intro w hS; simp at hS; try simp only [putW]) | (refine alloc hS rfl rfl ?_; clear hS; intro mb w hS; simp only [putW]) | (refine box1 hS rfl rfl rfl rfl ?_; clear hS; intro mb w hS; try simp only [evW, putW] at hS; simp only [putW]) | (refine boxN hS rfl rfl rfl ?_; clear hS; intro mb w hS; simp only [putW]))
      refine ⟨?_⟩
      (refine Calls.mono (put4 N (by omega) (hS.readsSl (v := u10) (part_byt v B k)) hl4.out) ?_; rintro _ w2 ⟨v3, rfl, h2⟩; replace hS := hS.frame h2; clear h2; (try simp only [List.cons_append, List.nil_append] at hS); simp only [putW])
      rw [show part v B k ++ be 4 N = part v B (k + 1) by rw [Hsucc.out, Int.toNat_natCast]] at hS
      go_wp2_with (first | (refine load1 hS rfl rfl rfl rfl ?_; simp only [putW]) | (refine loadAll hS rfl rfl rfl ?_ ?_; rfl; simp only [putW]) | (refine loadPart hS rfl rfl rfl ?_ rfl ?_; rfl; simp only [putW]) | (refine store1 hS rfl rfl rfl rfl rfl ?_ ?_; (focus (simp; done)); clear hS; intro w hS; simp only [evW, putW] at hS; try simp only [putW]) | (refine storeAll hS rfl rfl rfl rfl ?_ ?_ ?_ ?_; rfl; (focus (simp [Value.oneCell']; done)); rfl; clear hS; intro w hS; try simp only [putW]) | (refine storeN hS rfl rfl rfl rfl ?_ ?_ ?_ ?_; rfl; (focus (simp [Value.oneCell']; done)); (focus (simp; done)); clear hS; intro w hS; simp at hS; try simp only [putW]) | (refine alloc hS rfl rfl ?_; clear hS; intro mb w hS; simp only [putW]) | (refine box1 hS rfl rfl rfl rfl ?_; clear hS; intro mb w hS; try simp only [evW, putW] at hS; simp only [putW]) | (refine boxN hS rfl rfl rfl ?_; clear hS; intro mb w hS; simp only [putW]))
      go_roundw
      case rel => exact ⟨k + 1, by omega, by go_num, (by rw [take_get hx]; intro y hy; rcases List.mem_append.1 hy with h | h; exact hall.out y h; rw [List.mem_singleton.1 h]; exact Hx2.out), hS.conv⟩
      case measure => simp [intOf]; omega
    · exfalso
      have hks : k = B.length := Nat.le_antisymm hk (Nat.le_of_not_lt hlt)
      have h4 : (B.length : Int) ≤ n := by omega
      have h5 : ∀ x ∈ B, 0 ≤ x ∧ x < 65536 := fun x hx => hall.out x (by rw [hks, List.take_length]; exact hx)
      exact Hn.out ⟨Hk.out, h4, h5⟩
end
end Go.Proofs.YtinfodmigdlnhaaDoor
