/-
  row.New, row.Reader: Num, Fault.
-/
import Derived.Test.YtkppoffljkpiaaaJRow
import Derived.Test.YtkppoffljkpiaaaJ03
import Derived.Defers
import Derived.Recover
import Derived.Lib.EndianBits
namespace Go.Proofs.Ytkppoffljkpiaaa
open Go.RowKit Go.Proofs.Ytkppoffljkpiaaa.Sl Go.Proofs.Ytkppoffljkpiaaa.Jp

section
variable {w0 w : World} {S F F' F1 F2 F3 F4 : List Chunk} {A : List Int} {va : Value} {rb : Nat}
theorem slIs {α : Type} {n g : Nat} {f : α → List Value} {L : List α} {t : TypeId} {v : Value} (h : Sat w0 S w) [p : PullSl S v g n f L t F] : ∃ q m c, v = .slice q m c := by
  rcases (h.perm p.perm).slCases with ⟨rfl, _, _⟩ | ⟨cap, rfl, _⟩
  · exact ⟨_, _, _, rfl⟩
  · exact ⟨_, _, _, rfl⟩
theorem cells_one2 {v : Value} (h : v.oneCell' = true) : v.cells = #[v] := by cases v <;> simp_all [Value.cells, Value.oneCell']
set_option maxHeartbeats 400000 in
theorem rowNew_any (ha : RB w0 A va) (hb : A.length ≤ 140737488355328) : Calls Try.prog 13 #[va] w0 fun e w' => ∃ rb v, e = .returned (.pointer (some ⟨rb, 0, none⟩)) ∧
    Sat w0 [(rb, cells #[v, .int .i64 0] 60), (blk v, sl 1 by8 A 5 v)] w' := by
  have hS := Sat.refl w0
  go_enter Try.func13, Try.ntmps13
  go_wp2_with (first | (guard_target =~ Calls _ 24 _ _ _; refine Stopped.out ?_) | (refine load1 hS rfl rfl rfl rfl ?_; simp only [putW]) | (refine loadAll hS rfl rfl rfl ?_ ?_; rfl; simp only [putW]) | (refine loadPart hS rfl rfl rfl ?_ rfl ?_; rfl; simp only [putW]) | (refine store1 hS rfl rfl rfl rfl rfl ?_ ?_; (focus (simp; done)); clear hS; intro w hS; simp only [evW, putW] at hS; try simp only [putW]) | (refine storeAll hS rfl rfl rfl rfl ?_ ?_ ?_ ?_; rfl; (focus (simp [Value.oneCell']; done)); rfl; clear hS; intro w hS; try simp only [putW]) | (refine storeN hS rfl rfl rfl rfl ?_ ?_ ?_ ?_; rfl; (focus (simp [Value.oneCell']; done)); (focus (simp; done)); clear hS; intro w hS; simp at hS; try simp only [putW]) | (refine alloc hS rfl rfl ?_; clear hS; intro mb w hS; simp only [putW]) | (refine box1 hS rfl rfl rfl rfl ?_; clear hS; intro mb w hS; try simp only [evW, putW] at hS; simp only [putW]) | (refine boxN hS rfl rfl rfl ?_; clear hS; intro mb w hS; simp only [putW]))
  refine ⟨?_⟩
  (refine Calls.mono (clone_any ha hb) ?_; rintro _ w2 ⟨v, rfl, h2⟩; replace hS := hS.frame h2; clear h2; (try simp only [List.cons_append, List.nil_append] at hS); simp only [])
  obtain ⟨p, n, c, rfl⟩ := slIs (α := Int) (v := v) hS
  go_wp2_with (first | (refine load1 hS rfl rfl rfl rfl ?_; simp only [putW]) | (refine loadAll hS rfl rfl rfl ?_ ?_; rfl; simp only [putW]) | (refine loadPart hS rfl rfl rfl ?_ rfl ?_; rfl; simp only [putW]) | (refine store1 hS rfl rfl rfl rfl rfl ?_ ?_; (focus (simp; done)); clear hS; intro w hS; simp only [evW, putW] at hS; try simp only [putW]) | (refine storeAll hS rfl rfl rfl rfl ?_ ?_ ?_ ?_; rfl; (focus (simp [Value.oneCell']; done)); rfl; clear hS; intro w hS; try simp only [putW]) | (refine storeN hS rfl rfl rfl rfl ?_ ?_ ?_ ?_; rfl; (focus (simp [Value.oneCell']; done)); (focus (simp; done)); clear hS; intro w hS; simp at hS; try simp only [putW]) | (refine alloc hS rfl rfl ?_; clear hS; intro mb w hS; simp only [putW]) | (refine box1 hS rfl rfl rfl rfl ?_; clear hS; intro mb w hS; try simp only [evW, putW] at hS; simp only [putW]) | (refine boxN hS rfl rfl rfl ?_; clear hS; intro mb w hS; simp only [putW]))
  go_ret
  exact ⟨_, _, rfl, hS⟩

/-- What giving up leaves. -/
def gaveUp (f : Int) : List PanicEntry := [{ v := .iface 68 (.agg #[.int .i64 f]), recovered := false }]
set_option maxHeartbeats 400000 in
theorem need_fault (size : Int) (right : Bool) (v : Value) (f : Int) (hf : f ≠ 0) (hS : Sat w0 S w) [p : Pull S rb (cells #[v, .int .i64 f] 60) F] :
    Calls Try.prog 29 #[.pointer (some ⟨rb, 0, none⟩), .int .i64 size, .bool right] w fun e w' => e = .panicked (gaveUp f) ∧ Sat w0 S w' := by
  have hf2 : (f == 0) = false := by simpa using hf
  go_enter Try.func29, Try.ntmps29
  go_wp2_with (first | (refine load1 hS rfl rfl rfl rfl ?_; simp only [putW]) | (refine loadAll hS rfl rfl rfl ?_ ?_; rfl; simp only [putW]) | (refine loadPart hS rfl rfl rfl ?_ rfl ?_; rfl; simp only [putW]) | (refine store1 hS rfl rfl rfl rfl rfl ?_ ?_; (focus (simp; done)); clear hS; intro w hS; simp only [evW, putW] at hS; try simp only [putW]) | (refine storeAll hS rfl rfl rfl rfl ?_ ?_ ?_ ?_; rfl; (focus (simp [Value.oneCell']; done)); rfl; clear hS; intro w hS; try simp only [putW]) | (refine storeN hS rfl rfl rfl rfl ?_ ?_ ?_ ?_; rfl; (focus (simp [Value.oneCell']; done)); (focus (simp; done)); clear hS; intro w hS; simp at hS; try simp only [putW]) | (refine alloc hS rfl rfl ?_; clear hS; intro mb w hS; simp only [putW]) | (refine box1 hS rfl rfl rfl rfl ?_; clear hS; intro mb w hS; try simp only [evW, putW] at hS; simp only [putW]) | (refine boxN hS rfl rfl rfl ?_; clear hS; intro mb w hS; simp only [putW]))
  exact ⟨rfl, rfl, hS⟩
set_option maxHeartbeats 400000 in
theorem need_short (size : Int) (p0 : Option Addr) (len cap : Nat) (hl : (len : Int) < size) (hS : Sat w0 S w) [p : Pull S rb (cells #[.slice p0 len cap, .int .i64 0] 60) F] :
    Calls Try.prog 29 #[.pointer (some ⟨rb, 0, none⟩), .int .i64 size, .bool true] w fun e w' => e = .panicked (gaveUp 2) ∧ Sat w0 S w' := by
  go_enter Try.func29, Try.ntmps29
  go_wp2_with (first | (refine load1 hS rfl rfl rfl rfl ?_; simp only [putW]) | (refine loadAll hS rfl rfl rfl ?_ ?_; rfl; simp only [putW]) | (refine loadPart hS rfl rfl rfl ?_ rfl ?_; rfl; simp only [putW]) | (refine store1 hS rfl rfl rfl rfl rfl ?_ ?_; (focus (simp; done)); clear hS; intro w hS; simp only [evW, putW] at hS; try simp only [putW]) | (refine storeAll hS rfl rfl rfl rfl ?_ ?_ ?_ ?_; rfl; (focus (simp [Value.oneCell']; done)); rfl; clear hS; intro w hS; try simp only [putW]) | (refine storeN hS rfl rfl rfl rfl ?_ ?_ ?_ ?_; rfl; (focus (simp [Value.oneCell']; done)); (focus (simp; done)); clear hS; intro w hS; simp at hS; try simp only [putW]) | (refine alloc hS rfl rfl ?_; clear hS; intro mb w hS; simp only [putW]) | (refine box1 hS rfl rfl rfl rfl ?_; clear hS; intro mb w hS; try simp only [evW, putW] at hS; simp only [putW]) | (refine boxN hS rfl rfl rfl ?_; clear hS; intro mb w hS; simp only [putW]))
  exact ⟨rfl, rfl, hS⟩
set_option maxHeartbeats 400000 in
theorem need_ok (size : Int) (p0 : Option Addr) (len cap : Nat) (hl : size ≤ (len : Int)) (hS : Sat w0 S w) [p : Pull S rb (cells #[.slice p0 len cap, .int .i64 0] 60) F] :
    Calls Try.prog 29 #[.pointer (some ⟨rb, 0, none⟩), .int .i64 size, .bool true] w fun e w' => e = .returned (.tuple #[]) ∧ Sat w0 S w' := by
  have hl2 : ¬ ((len : Int) < size) := by omega
  go_enter Try.func29, Try.ntmps29
  go_wp2_with (first | (refine load1 hS rfl rfl rfl rfl ?_; simp only [putW]) | (refine loadAll hS rfl rfl rfl ?_ ?_; rfl; simp only [putW]) | (refine loadPart hS rfl rfl rfl ?_ rfl ?_; rfl; simp only [putW]) | (refine store1 hS rfl rfl rfl rfl rfl ?_ ?_; (focus (simp; done)); clear hS; intro w hS; simp only [evW, putW] at hS; try simp only [putW]) | (refine storeAll hS rfl rfl rfl rfl ?_ ?_ ?_ ?_; rfl; (focus (simp [Value.oneCell']; done)); rfl; clear hS; intro w hS; try simp only [putW]) | (refine storeN hS rfl rfl rfl rfl ?_ ?_ ?_ ?_; rfl; (focus (simp [Value.oneCell']; done)); (focus (simp; done)); clear hS; intro w hS; simp at hS; try simp only [putW]) | (refine alloc hS rfl rfl ?_; clear hS; intro mb w hS; simp only [putW]) | (refine box1 hS rfl rfl rfl rfl ?_; clear hS; intro mb w hS; try simp only [evW, putW] at hS; simp only [putW]) | (refine boxN hS rfl rfl rfl ?_; clear hS; intro mb w hS; simp only [putW]))
  go_end0
  exact ⟨rfl, hS⟩
set_option maxHeartbeats 400000 in
theorem fault_any (v : Value) (f : Int) (hS : Sat w0 S w) [p : Pull S rb (cells #[v, .int .i64 f] 60) F] :
    Calls Try.prog 16 #[.pointer (some ⟨rb, 0, none⟩)] w fun e w' => e = .returned (.int .i64 f) ∧ Sat w0 S w' := by
  go_enter Try.func16, Try.ntmps16
  go_wp2_with (first | (refine load1 hS rfl rfl rfl rfl ?_; simp only [putW]) | (refine loadAll hS rfl rfl rfl ?_ ?_; rfl; simp only [putW]) | (refine loadPart hS rfl rfl rfl ?_ rfl ?_; rfl; simp only [putW]) | (refine store1 hS rfl rfl rfl rfl rfl ?_ ?_; (focus (simp; done)); clear hS; intro w hS; simp only [evW, putW] at hS; try simp only [putW]) | (refine storeAll hS rfl rfl rfl rfl ?_ ?_ ?_ ?_; rfl; (focus (simp [Value.oneCell']; done)); rfl; clear hS; intro w hS; try simp only [putW]) | (refine storeN hS rfl rfl rfl rfl ?_ ?_ ?_ ?_; rfl; (focus (simp [Value.oneCell']; done)); (focus (simp; done)); clear hS; intro w hS; simp at hS; try simp only [putW]) | (refine alloc hS rfl rfl ?_; clear hS; intro mb w hS; simp only [putW]) | (refine box1 hS rfl rfl rfl rfl ?_; clear hS; intro mb w hS; try simp only [evW, putW] at hS; simp only [putW]) | (refine boxN hS rfl rfl rfl ?_; clear hS; intro mb w hS; simp only [putW]))
  go_ret
  exact ⟨rfl, hS⟩

/-- What is left of bytes, k in. -/
def Rest (g : Nat) (B : List Int) (k : Nat) (v : Value) : Prop := ∃ p c, v = .slice p (B.length - k) c ∧ k ≤ B.length ∧ B.length - k ≤ c ∧ c ≤ maxLen ∧ (k < B.length → p = some ⟨g, k, none⟩)
/-- A reader, k bytes in, over bytes of its own. -/
def rdrL (B : List Int) (v0 v : Value) (rb : Nat) : List Chunk := [(rb, cells #[v, .int .i64 0] 60), (blk v0, sl 1 by8 B 5 v0)]
def rdr (B : List Int) (k : Nat) : K := fun rb h => ∃ v0 v, Rest (blk v0) B k v ∧ holds (rdrL B v0 v rb) h
/-- .. that gave up. -/
def rdrF (f : Int) : K := cells #[.slice none 0 0, .int .i64 f] 60
theorem rdr_open (hS : Sat w0 S w) {B : List Int} {k : Nat} [p : Pull S rb (rdr B k) F] : ∃ v0 v, Rest (blk v0) B k v ∧ Sat w0 ((rb, cells #[v, .int .i64 0] 60) :: (blk v0, sl 1 by8 B 5 v0) :: F) w := by
  obtain ⟨v0, hS⟩ := (hS.perm p.perm).ex (Z := fun v0 rb h => ∃ v, Rest (blk v0) B k v ∧ holds (rdrL B v0 v rb) h) fun _ h => h
  obtain ⟨v, hS⟩ := hS.ex (Z := fun v rb h => Rest (blk v0) B k v ∧ holds (rdrL B v0 v rb) h) fun _ h => h
  obtain ⟨hR, hS⟩ := hS.and (Y := fun rb h => holds (rdrL B v0 v rb) h) fun _ h => h
  exact ⟨v0, v, hR, hS.open (T := rdrL B v0 v rb) fun _ h => h⟩
theorem rdr_close (rb : Nat) {B : List Int} {k : Nat} {v0 v : Value} (hR : Rest (blk v0) B k v) (hS : Sat w0 ((rb, cells #[v, .int .i64 0] 60) :: (blk v0, sl 1 by8 B 5 v0) :: F) w) : Sat w0 ((rb, rdr B k) :: F) w :=
  Sat.close (T := rdrL B v0 v rb) hS fun _ h => ⟨v0, v, hR, h⟩

set_option maxHeartbeats 1000000 in
theorem num1_ok {B : List Int} {k s : Nat} {p0 p1 p2 g cap : Nat} {v : Value} (h1s : 1 ≤ s) (hs8 : s ≤ 8) (hks : k + s ≤ B.length) (hB : ∀ b ∈ B, okByte b) (hR : Rest g B k v)
    (hS : Sat w0 S w) [q0 : Pull S p0 (cells #[.pointer (some ⟨rb, 0, none⟩)] 43) F] [q1 : Pull F p1 (cells #[.int .i64 (s : Int)] 3) F1] [q2 : Pull F1 p2 (cells #[.int .u64 0] 25) F2]
    [q3 : Pull F2 rb (cells #[v, .int .i64 0] 60) F3] [q4 : Pull F3 g (slc 1 by8 B cap 5) F4] :
    Calls Try.prog 28 #[.pointer (some ⟨p0, 0, none⟩), .pointer (some ⟨p1, 0, none⟩), .pointer (some ⟨p2, 0, none⟩)] w fun e w' => e = .returned (.tuple #[]) ∧
      ∃ v', Rest g B (k + s) v' ∧ Sat w0 ((p2, cells #[.int .u64 (num ((B.drop k).take s))] 25) :: (rb, cells #[v', .int .i64 0] 60) :: (g, slc 1 by8 B cap 5) :: F4) w' := by
  obtain ⟨pp, c, rfl, hk1, hk2, hk3, hk4⟩ := hR
  obtain rfl := hk4 (by omega)
  replace hS := hS.perm (q0.perm.trans ((q1.perm.trans ((q2.perm.trans ((q3.perm.trans (q4.perm.cons _)).cons _)).cons _)).cons _))
  have hb1 : (1 : Int) ≤ s := by omega
  have hb8 : (s : Int) ≤ 8 := by omega
  go_enter Try.func28, Try.ntmps28
  go_wp2_with (first | (guard_target =~ Calls _ 29 _ _ _; refine Stopped.out ?_) | (refine load1 hS rfl rfl rfl rfl ?_; simp only [putW]) | (refine loadAll hS rfl rfl rfl ?_ ?_; rfl; simp only [putW]) | (refine loadPart hS rfl rfl rfl ?_ rfl ?_; rfl; simp only [putW]) | (refine store1 hS rfl rfl rfl rfl rfl ?_ ?_; (focus (simp; done)); clear hS; intro w hS; simp only [evW, putW] at hS; try simp only [putW]) | (refine storeAll hS rfl rfl rfl rfl ?_ ?_ ?_ ?_; rfl; (focus (simp [Value.oneCell']; done)); rfl; clear hS; intro w hS; try simp only [putW]) | (refine storeN hS rfl rfl rfl rfl ?_ ?_ ?_ ?_; rfl; (focus (simp [Value.oneCell']; done)); (focus (simp; done)); clear hS; intro w hS; simp at hS; try simp only [putW]) | (refine alloc hS rfl rfl ?_; clear hS; intro mb w hS; simp only [putW]) | (refine box1 hS rfl rfl rfl rfl ?_; clear hS; intro mb w hS; try simp only [evW, putW] at hS; simp only [putW]) | (refine boxN hS rfl rfl rfl ?_; clear hS; intro mb w hS; simp only [putW]))
  refine ⟨?_⟩
  (refine Calls.mono (need_ok (rb := rb) s (some ⟨g, k, none⟩) (B.length - k) c (by omega) hS) ?_; clear hS; rintro _ w ⟨rfl, hS⟩; simp only [])
  go_wp2_with (first | (refine load1 hS rfl rfl rfl rfl ?_; simp only [putW]) | (refine loadAll hS rfl rfl rfl ?_ ?_; rfl; simp only [putW]) | (refine loadPart hS rfl rfl rfl ?_ rfl ?_; rfl; simp only [putW]) | (refine store1 hS rfl rfl rfl rfl rfl ?_ ?_; (focus (simp; done)); clear hS; intro w hS; simp only [evW, putW] at hS; try simp only [putW]) | (refine storeAll hS rfl rfl rfl rfl ?_ ?_ ?_ ?_; rfl; (focus (simp [Value.oneCell']; done)); rfl; clear hS; intro w hS; try simp only [putW]) | (refine storeN hS rfl rfl rfl rfl ?_ ?_ ?_ ?_; rfl; (focus (simp [Value.oneCell']; done)); (focus (simp; done)); clear hS; intro w hS; simp at hS; try simp only [putW]) | (refine alloc hS rfl rfl ?_; clear hS; intro mb w hS; simp only [putW]) | (refine box1 hS rfl rfl rfl rfl ?_; clear hS; intro mb w hS; try simp only [evW, putW] at hS; simp only [putW]) | (refine boxN hS rfl rfl rfl ?_; clear hS; intro mb w hS; simp only [putW]))
  (refine region_quiet hS (by kernel_rfl) (by kernel_rfl) (by kernel_rfl) ?_; clear hS; (repeat (apply quiet_step; (focus (intro w hS; go_wp2_with (first | (refine load1 hS rfl rfl rfl rfl ?_; simp only [putW]) | (refine loadAll hS rfl rfl rfl ?_ ?_; rfl; simp only [putW]) | (refine loadPart hS rfl rfl rfl ?_ rfl ?_; rfl; simp only [putW])); exact ⟨rfl, rfl, hS⟩)); simp only [putW])); refine quiet_nil ?_; intro w hS)
  have hdl : (B.drop k).length = B.length - k := by rw [List.length_drop]
  have hbd : ∀ j, j ≤ s → 0 ≤ num ((B.drop k).take j) ∧ num ((B.drop k).take j) < 18446744073709551616 := fun j hj => by
    have h1 := num_lt (l := (B.drop k).take j) fun b hb => hB b (List.mem_of_mem_drop (List.mem_of_mem_take hb))
    refine ⟨h1.1, Int.lt_of_lt_of_le h1.2 ?_⟩
    have h2 : ((B.drop k).take j).length ≤ 8 := by rw [List.length_take]; omega
    have h3 : (256 : Nat) ^ ((B.drop k).take j).length ≤ 256 ^ 8 := Nat.pow_le_pow_right (by omega) h2
    have h4 := Int.ofNat_le.2 h3
    rw [Int.natCast_pow, Int.natCast_pow] at h4
    exact h4
  have Hbd : Hid _ := hbd
  clear hbd
  go_wp2_with (first | (refine load1 hS rfl rfl rfl rfl ?_; simp only [putW]) | (refine loadAll hS rfl rfl rfl ?_ ?_; rfl; simp only [putW]) | (refine loadPart hS rfl rfl rfl ?_ rfl ?_; rfl; simp only [putW]) | (refine store1 hS rfl rfl rfl rfl rfl ?_ ?_; (focus (simp; done)); clear hS; intro w hS; simp only [evW, putW] at hS; try simp only [putW]) | (refine storeAll hS rfl rfl rfl rfl ?_ ?_ ?_ ?_; rfl; (focus (simp [Value.oneCell']; done)); rfl; clear hS; intro w hS; try simp only [putW]) | (refine storeN hS rfl rfl rfl rfl ?_ ?_ ?_ ?_; rfl; (focus (simp [Value.oneCell']; done)); (focus (simp; done)); clear hS; intro w hS; simp at hS; try simp only [putW]) | (refine alloc hS rfl rfl ?_; clear hS; intro mb w hS; simp only [putW]) | (refine box1 hS rfl rfl rfl rfl ?_; clear hS; intro mb w hS; try simp only [evW, putW] at hS; simp only [putW]) | (refine boxN hS rfl rfl rfl ?_; clear hS; intro mb w hS; simp only [putW]))
  go_loopw [21] (fun i wr => ∃ (j : Nat) (m : Int), j ≤ s ∧ i = .int .i64 (j : Int) ∧ Hid (m = num ((B.drop k).take j)) ∧ Sat w0 ((p2, cells #[.int .u64 m] 25) :: (p0, cells #[.pointer (some ⟨rb, 0, none⟩)] 43) :: (p1, cells #[.int .i64 (s : Int)] 3) :: (rb, cells #[.slice (some ⟨g, k, none⟩) (B.length - k) c, .int .i64 0] 60) :: (g, slc 1 by8 B cap 5) :: F4) wr) (fun i _ => s - (intOf i).toNat)
  case atStart => exact ⟨0, 0, Nat.zero_le _, rfl, rfl, hS.conv⟩
  case round =>
    clear hS
    obtain ⟨j, m, hj, rfl, hm, hS⟩ := hrel
    by_cases hlt : j < s
    · obtain ⟨x, hx⟩ : ∃ x, B[k + j]? = some x := ⟨_, List.getElem?_eq_getElem (by omega)⟩
      have hx2 := hB x (List.mem_of_getElem? hx)
      unfold okByte at hx2
      have h1 := Hbd.out j (by omega)
      have h2 := Hbd.out (j + 1) (by omega)
      have hxd : (B.drop k)[j]? = some x := by rw [List.getElem?_drop]; exact hx
      rw [← hm.out] at h1
      rw [num_take_succ hxd, ← hm.out] at h2
      clear hxd
      go_wp2_with (first | (refine loadS1 (v1 := Value.int .u8) hS rfl rfl rfl hx ?_; simp only [putW]) | (first | (refine load1 hS rfl rfl rfl rfl ?_; simp only [putW]) | (refine loadAll hS rfl rfl rfl ?_ ?_; rfl; simp only [putW]) | (refine loadPart hS rfl rfl rfl ?_ rfl ?_; rfl; simp only [putW]) | (refine store1 hS rfl rfl rfl rfl rfl ?_ ?_; (focus (simp; done)); clear hS; intro w hS; simp only [evW, putW] at hS; try simp only [putW]) | (refine storeAll hS rfl rfl rfl rfl ?_ ?_ ?_ ?_; rfl; (focus (simp [Value.oneCell']; done)); rfl; clear hS; intro w hS; try simp only [putW]) | (refine storeN hS rfl rfl rfl rfl ?_ ?_ ?_ ?_; rfl; (focus (simp [Value.oneCell']; done)); (focus (simp; done)); clear hS; intro w hS; simp at hS; try simp only [putW]) | (refine alloc hS rfl rfl ?_; clear hS; intro mb w hS; simp only [putW]) | (refine box1 hS rfl rfl rfl rfl ?_; clear hS; intro mb w hS; try simp only [evW, putW] at hS; simp only [putW]) | (refine boxN hS rfl rfl rfl ?_; clear hS; intro mb w hS; simp only [putW])))
      have hor : bits .or .u64 (m * 256) x = 256 * m + x := by rw [bits_join .u64 64 (by decide) wraps_u64 8 (m * 256) x (by omega) (by omega) (by omega) (by omega) (by omega) (by omega)]; omega
      rw [hor] at hS
      go_roundw
      case rel => exact ⟨j + 1, 256 * m + x, by omega, by go_num, by show _ = _; rw [num_take_succ (by rw [List.getElem?_drop]; exact hx), ← hm.out], hS⟩
      case measure => simp [intOf]; omega
    · have hsc : s ≤ c := by omega
      have c0 : wr.cell? ⟨p0, 0, none⟩ = some (.pointer (some ⟨rb, 0, none⟩)) := hS.cell (b := p0) 0
      have c1 : wr.cell? ⟨p1, 0, none⟩ = some (.int .i64 s) := hS.cell (b := p1) 0
      have c2 : wr.cell? ⟨rb, 0, none⟩ = some (.slice (some ⟨g, k, none⟩) (B.length - k) c) := hS.cell (b := rb) 0
      have f2 : wr.frozen? ⟨rb, 0, none⟩ = false := hS.free (b := rb) 0
      go_wp2_with (first | (refine load1 hS rfl rfl rfl rfl ?_; simp only [putW]) | (refine loadAll hS rfl rfl rfl ?_ ?_; rfl; simp only [putW]) | (refine loadPart hS rfl rfl rfl ?_ rfl ?_; rfl; simp only [putW]) | (refine store1 hS rfl rfl rfl rfl rfl ?_ ?_; (focus (simp; done)); clear hS; intro w hS; simp only [evW, putW] at hS; try simp only [putW]) | (refine storeAll hS rfl rfl rfl rfl ?_ ?_ ?_ ?_; rfl; (focus (simp [Value.oneCell']; done)); rfl; clear hS; intro w hS; try simp only [putW]) | (refine storeN hS rfl rfl rfl rfl ?_ ?_ ?_ ?_; rfl; (focus (simp [Value.oneCell']; done)); (focus (simp; done)); clear hS; intro w hS; simp at hS; try simp only [putW]) | (refine alloc hS rfl rfl ?_; clear hS; intro mb w hS; simp only [putW]) | (refine box1 hS rfl rfl rfl rfl ?_; clear hS; intro mb w hS; try simp only [evW, putW] at hS; simp only [putW]) | (refine boxN hS rfl rfl rfl ?_; clear hS; intro mb w hS; simp only [putW]))
      go_region
      generalize hpv : (if c = s then some ({ block := g, off := k } : Addr) else some { block := g, off := k + s }) = pv
      have hpk : k + s < B.length → pv = some ⟨g, k + s, none⟩ := fun h => by rw [← hpv, if_neg (by omega)]
      clear hpv
      replace hS := (hS.setCell (b := rb) 0 (.slice pv (B.length - k - s) (c - s))).drew
      go_wp2
      go_end0
      refine ⟨rfl, .slice pv (B.length - k - s) (c - s), ⟨_, c - s, by rw [Nat.sub_sub], by omega, by omega, Nat.le_trans (Nat.sub_le _ _) hk3, hpk⟩, ?_⟩
      have e := hm.out
      have hjs : j = s := by omega
      rw [hjs] at e
      rw [e] at hS
      have e2 : (#[.slice (some ⟨g, k, none⟩) (B.length - k) c, .int .i64 0] : Array Value).setIfInBounds 0 (.slice pv (B.length - k - s) (c - s)) = #[.slice pv (B.length - k - s) (c - s), .int .i64 0] := rfl
      rw [e2] at hS
      exact Sat.conv (S' := (p2, cells #[.int .u64 (num ((B.drop k).take s))] 25) :: (rb, cells #[.slice pv (B.length - k - s) (c - s), .int .i64 0] 60) :: (g, slc 1 by8 B cap 5) :: F4) hS

set_option maxHeartbeats 1000000 in
theorem num1_fault {s p0 p1 p2 : Nat} {v : Value} {f : Int} (h1s : 1 ≤ s) (hs8 : s ≤ 8) (hf : f ≠ 0)
    (hS : Sat w0 S w) [q0 : Pull S p0 (cells #[.pointer (some ⟨rb, 0, none⟩)] 43) F] [q1 : Pull F p1 (cells #[.int .i64 (s : Int)] 3) F1] [q3 : Pull F1 rb (cells #[v, .int .i64 f] 60) F3] :
    Calls Try.prog 28 #[.pointer (some ⟨p0, 0, none⟩), .pointer (some ⟨p1, 0, none⟩), .pointer (some ⟨p2, 0, none⟩)] w fun e w' => e = .panicked (gaveUp f) ∧ Sat w0 ((p0, cells #[.pointer (some ⟨rb, 0, none⟩)] 43) :: (p1, cells #[.int .i64 (s : Int)] 3) :: (rb, cells #[v, .int .i64 f] 60) :: F3) w' := by
  replace hS := hS.perm (q0.perm.trans ((q1.perm.trans (q3.perm.cons _)).cons _))
  have hb1 : (1 : Int) ≤ s := by omega
  have hb8 : (s : Int) ≤ 8 := by omega
  go_enter Try.func28, Try.ntmps28
  go_wp2_with (first | (guard_target =~ Calls _ 29 _ _ _; refine Stopped.out ?_) | (refine load1 hS rfl rfl rfl rfl ?_; simp only [putW]) | (refine loadAll hS rfl rfl rfl ?_ ?_; rfl; simp only [putW]) | (refine loadPart hS rfl rfl rfl ?_ rfl ?_; rfl; simp only [putW]) | (refine store1 hS rfl rfl rfl rfl rfl ?_ ?_; (focus (simp; done)); clear hS; intro w hS; simp only [evW, putW] at hS; try simp only [putW]) | (refine storeAll hS rfl rfl rfl rfl ?_ ?_ ?_ ?_; rfl; (focus (simp [Value.oneCell']; done)); rfl; clear hS; intro w hS; try simp only [putW]) | (refine storeN hS rfl rfl rfl rfl ?_ ?_ ?_ ?_; rfl; (focus (simp [Value.oneCell']; done)); (focus (simp; done)); clear hS; intro w hS; simp at hS; try simp only [putW]) | (refine alloc hS rfl rfl ?_; clear hS; intro mb w hS; simp only [putW]) | (refine box1 hS rfl rfl rfl rfl ?_; clear hS; intro mb w hS; try simp only [evW, putW] at hS; simp only [putW]) | (refine boxN hS rfl rfl rfl ?_; clear hS; intro mb w hS; simp only [putW]))
  refine ⟨?_⟩
  (refine Calls.mono (need_fault (rb := rb) s _ v f hf hS) ?_; clear hS; rintro _ w ⟨rfl, hS⟩; simp only [])
  exact ⟨rfl, rfl, hS⟩
set_option maxHeartbeats 1000000 in
theorem num1_short {s p0 p1 p2 len cap : Nat} {pp : Option Addr} (h1s : 1 ≤ s) (hs8 : s ≤ 8) (hl : len < s)
    (hS : Sat w0 S w) [q0 : Pull S p0 (cells #[.pointer (some ⟨rb, 0, none⟩)] 43) F] [q1 : Pull F p1 (cells #[.int .i64 (s : Int)] 3) F1] [q3 : Pull F1 rb (cells #[.slice pp len cap, .int .i64 0] 60) F3] :
    Calls Try.prog 28 #[.pointer (some ⟨p0, 0, none⟩), .pointer (some ⟨p1, 0, none⟩), .pointer (some ⟨p2, 0, none⟩)] w fun e w' => e = .panicked (gaveUp 2) ∧ Sat w0 ((p0, cells #[.pointer (some ⟨rb, 0, none⟩)] 43) :: (p1, cells #[.int .i64 (s : Int)] 3) :: (rb, cells #[.slice pp len cap, .int .i64 0] 60) :: F3) w' := by
  replace hS := hS.perm (q0.perm.trans ((q1.perm.trans (q3.perm.cons _)).cons _))
  have hb1 : (1 : Int) ≤ s := by omega
  have hb8 : (s : Int) ≤ 8 := by omega
  go_enter Try.func28, Try.ntmps28
  go_wp2_with (first | (guard_target =~ Calls _ 29 _ _ _; refine Stopped.out ?_) | (refine load1 hS rfl rfl rfl rfl ?_; simp only [putW]) | (refine loadAll hS rfl rfl rfl ?_ ?_; rfl; simp only [putW]) | (refine loadPart hS rfl rfl rfl ?_ rfl ?_; rfl; simp only [putW]) | (refine store1 hS rfl rfl rfl rfl rfl ?_ ?_; (focus (simp; done)); clear hS; intro w hS; simp only [evW, putW] at hS; try simp only [putW]) | (refine storeAll hS rfl rfl rfl rfl ?_ ?_ ?_ ?_; rfl; (focus (simp [Value.oneCell']; done)); rfl; clear hS; intro w hS; try simp only [putW]) | (refine storeN hS rfl rfl rfl rfl ?_ ?_ ?_ ?_; rfl; (focus (simp [Value.oneCell']; done)); (focus (simp; done)); clear hS; intro w hS; simp at hS; try simp only [putW]) | (refine alloc hS rfl rfl ?_; clear hS; intro mb w hS; simp only [putW]) | (refine box1 hS rfl rfl rfl rfl ?_; clear hS; intro mb w hS; try simp only [evW, putW] at hS; simp only [putW]) | (refine boxN hS rfl rfl rfl ?_; clear hS; intro mb w hS; simp only [putW]))
  refine ⟨?_⟩
  (refine Calls.mono (need_short (rb := rb) s pp len cap (by omega) hS) ?_; clear hS; rintro _ w ⟨rfl, hS⟩; simp only [])
  exact ⟨rfl, rfl, hS⟩

end
end Go.Proofs.Ytkppoffljkpiaaa
