/-
  script.source: next, some, number.
-/
import Derived.Test.YtpbjkfomdindnaaGreatDoorScS
import Derived.Test.YtpbjkfomdindnaaGreatDoorScD
set_option linter.unusedSimpArgs false
set_option linter.unusedVariables false
namespace Go.Proofs.YtpbjkfomdindnaaGreatDoor
open Go.RowKit Go.Shelf Go.Proofs.YtpbjkfomdindnaaGreatDoor.Sl Go.Proofs.YtpbjkfomdindnaaGreatDoor.Jp Go.Proofs.YtpbjkfomdindnaaGreatDoor.Sc

/-- What is left of bytes, i in. -/
def RestB (A : List Int) (b o : Nat) (i : Nat) (v : Value) : Prop := ∃ q c, v = .slice q (A.length - i) c ∧ A.length - i ≤ c ∧ c ≤ maxLen ∧ (i < A.length → q = some ⟨b, o + i, none⟩)
def srcC (A : List Int) (b o i : Nat) : K := fun p h => ∃ v, RestB A b o i v ∧ cells #[v] 72 p h
/-- The bytes that a source gives. -/
structure SrcB (w0 : World) (A : List Int) (b o : Nat) : Prop where
  at_ : A ≠ [] → BAt w0 1 by8 okByte A b o
  ok : ∀ x ∈ A, okByte x
section
variable {w0 w : World} {S F K : List Chunk} {A : List Int} {p b o i : Nat}
theorem src_open (hS : Sat w0 S w) [q : Pull S p (srcC A b o i) F] : ∃ v, RestB A b o i v ∧ Sat w0 ((p, cells #[v] 72) :: F) w := by
  obtain ⟨v, hS⟩ := (hS.perm q.perm).ex (Z := fun v p h => RestB A b o i v ∧ cells #[v] 72 p h) fun _ h => h
  obtain ⟨hR, hS⟩ := hS.and (Y := fun p h => cells #[v] 72 p h) fun _ h => h
  exact ⟨v, hR, hS⟩
theorem src_close (p : Nat) {v : Value} (hR : RestB A b o i v) (hS : Sat w0 ((p, cells #[v] 72) :: F) w) : Sat w0 ((p, srcC A b o i) :: F) w :=
  hS.turn fun _ h => ⟨v, hR, h⟩
set_option maxRecDepth 100000 in
set_option maxHeartbeats 1000000 in
theorem snext_any (hA : SrcB w0 A b o) (hS : Sat w0 ((p, srcC A b o i) :: K) w) :
    Calls Tryz.prog 57 #[.pointer (some ⟨p, 0, none⟩)] w fun e w' => e = .returned (.int .i64 (gB A i)) ∧ Sat w0 ((p, srcC A b o (i + 1)) :: K) w' := by
  obtain ⟨v, hR, hS1⟩ := src_open hS (p := p) (A := A) (b := b) (o := o) (i := i)
  clear hS
  have hS := hS1
  clear hS1
  obtain ⟨q, c, rfl, h1, h2, h3⟩ := hR
  by_cases hlt : i < A.length
  · obtain rfl := h3 hlt
    obtain ⟨x, hx⟩ : ∃ x, A[i]? = some x := ⟨_, List.getElem?_eq_getElem hlt⟩
    have hx2 := hA.ok x (List.mem_of_getElem? hx)
    unfold okByte at hx2
    have HB : Bx (BAt w0 1 by8 okByte A b o) := ⟨hA.at_ (by intro e; rw [e] at hlt; simp at hlt)⟩
    have HX : Bx (gB A i = x) := ⟨gB_get hx⟩
    have hwx : IntKind.i64.wrap x = x := by simp [IntKind.wrap, IntKind.bits, IntKind.signed]; omega
    clear hA h3
    go_enter Tryz.func57, Tryz.ntmps57
    go_wp2_with (first | (refine loadB (f := by8) hS rfl rfl rfl HB.out i 0 ?_ hx rfl ?_; omega; simp only [putW]) | (refine load1 hS rfl rfl rfl rfl ?_; simp only [putW]) | (refine store1 hS rfl rfl rfl rfl rfl ?_ ?_; (focus (simp; done)); clear hS; intro w hS; simp only [evW, putW] at hS; try simp only [putW]))
    all_goals
      go_ret
      exact ⟨by rw [HX.out]; rfl, src_close p ⟨if c = 1 then some ⟨b, o + i, none⟩ else some ⟨b, o + i + 1, none⟩, c - 1, by rw [Nat.sub_sub], by omega, by omega, fun h => if_neg (by omega)⟩ hS⟩
  · have h0 : A.length - i = 0 := by omega
    rw [h0] at hS
    have HX : Bx (gB A i = 0) := ⟨gB_out (by omega)⟩
    go_enter Tryz.func57, Tryz.ntmps57
    go_wp2_with (refine load1 hS rfl rfl rfl rfl ?_; simp only [putW])
    go_ret
    refine ⟨by rw [HX.out]; rfl, src_close p ⟨q, c, ?_, by omega, by omega, fun h => by omega⟩ hS⟩
    rw [show A.length - (i + 1) = 0 by omega]
theorem gB_nat (hA : SrcB w0 A b o) (i : Nat) : ∃ n : Nat, gB A i = n ∧ n < 256 := by
  have h := gB_ok (B := A) hA.ok i
  unfold okB8 at h
  exact ⟨(gB A i).toNat, by omega, by omega⟩
set_option maxRecDepth 100000 in
set_option maxHeartbeats 1000000 in
theorem ssome_any {m : Nat} (hA : SrcB w0 A b o) (hm : (gB A i % 9).toNat = m) (hS : Sat w0 ((p, srcC A b o i) :: K) w) :
    Calls Tryz.prog 59 #[.pointer (some ⟨p, 0, none⟩), .int .i64 9] w fun e w' => ∃ v, e = .returned v ∧ Sat w0 ((p, srcC A b o (i + 1 + m)) :: (blk v, sl 1 by8 (bytesAt A (i + 1) m) 5 v) :: K) w' := by
  have HA : Bx _ := ⟨hA⟩
  obtain ⟨n, hn, hn2⟩ := gB_nat hA i
  rw [hn] at hm
  have hm9 : m < 9 := by omega
  have hmi : ((n : Int) % 9) = m := by omega
  clear hA hm
  go_enter Tryz.func59, Tryz.ntmps59
  go_wp2_with (guard_target =~ Calls _ 57 _ _ _; refine Stopped.out ?_)
  refine ⟨?_⟩
  refine Calls.mono (snext_any HA.out hS) ?_
  clear hS
  rintro _ w ⟨rfl, hS⟩
  rw [hn]
  simp only [putW]
  clear hn
  go_wp2_with (refine load1 hS rfl rfl rfl rfl ?_; simp only [putW])
  simp only [hmi]
  clear hmi
  have hS1 : Sat w0 ((0, sl 1 by8 (bytesAt A (i + 1) 0) 5 (.slice none 0 0)) :: (p, srcC A b o (i + 1)) :: K) w := hS.slNil 1 by8 5
  clear hS
  have hS := hS1
  clear hS1
  go_loopw [5, 10] (fun vv j wr => ∃ (k : Nat), k ≤ m ∧ j = .int .i64 (k : Int) ∧ Sat w0 ((blk vv, sl 1 by8 (bytesAt A (i + 1) k) 5 vv) :: (p, srcC A b o (i + 1 + k)) :: K) wr) (fun _ j _ => m - (intOf j).toNat)
  case atStart => exact ⟨0, Nat.zero_le _, rfl, hS⟩
  case round =>
    clear hS
    obtain ⟨k, hk, rfl, hS⟩ := hrel
    by_cases hlt : k < m
    · obtain ⟨y, hy, hy2⟩ := gB_nat HA.out (i + 1 + k)
      have HY : Bx (bytesAt A (i + 1) (k + 1) = bytesAt A (i + 1) k ++ [(y : Int)]) := ⟨by rw [bytesAt_succ, hy]⟩
      have hlen : (bytesAt A (i + 1) k).length ≤ 9 := by rw [bytesAt_len]; omega
      go_wp2_with (guard_target =~ Calls _ 57 _ _ _; refine Stopped.out ?_)
      refine ⟨?_⟩
      refine Calls.mono (snext_any (p := p) (b := b) (o := o) (A := A) (i := i + 1 + k) (K := (blk u5, sl 1 by8 (bytesAt A (i + 1) k) 5 u5) :: K) HA.out hS.conv) ?_
      clear hS
      rintro _ w ⟨rfl, hS⟩
      rw [hy]
      simp only [putW]
      clear hy
      go_wp2_with (first | (refine buildSlice1 (c := #[.int .u8 (y : Int)]) hS rfl rfl rfl ?_ ?_ ?_ ?_; rfl; rfl; rfl; clear hS; intro mb w hS; simp only [putW]) | (refine append1 (f := by8) hS rfl rfl u5 rfl rfl (y : Int) ?_ ?_ ?_ ?_ ?_ ?_; rfl; (focus (simp [by8, one, Value.oneCell']; done)); rfl; (focus (simp [maxLen]; omega)); (focus (omega)); clear hS; intro v' w hS; simp only [putW]))
      go_roundw
      case rel => exact ⟨k + 1, by omega, by go_num, by rw [HY.out]; exact hS.conv⟩
      case measure => simp only [intOf]; omega
    · obtain rfl : k = m := by omega
      go_wp2_with (refine load1 hS rfl rfl rfl rfl ?_; simp only [putW])
      go_ret
      exact ⟨u5, rfl, hS.conv⟩
set_option maxRecDepth 100000 in
set_option maxHeartbeats 1000000 in
theorem snumber_any (hA : SrcB w0 A b o) (hS : Sat w0 ((p, srcC A b o i) :: K) w) :
    Calls Tryz.prog 60 #[.pointer (some ⟨p, 0, none⟩)] w fun e w' => e = .returned (.float .f64 (beV 0 (bytesAt A i 8))) ∧ Sat w0 ((p, srcC A b o (i + 8)) :: K) w' := by
  have HA : Bx _ := ⟨hA⟩
  clear hA
  go_enter Tryz.func60, Tryz.ntmps60
  go_wp2_with (refine load1 hS rfl rfl rfl rfl ?_; simp only [putW])
  go_loopw [3, 4] (fun nv j wr => ∃ (k n : Nat), k ≤ 8 ∧ n < 18446744073709551616 ∧ nv = .int .u64 (n : Int) ∧ j = .int .i64 (k : Int) ∧ Bx (n = beV 0 (bytesAt A i k)) ∧ Sat w0 ((p, srcC A b o (i + k)) :: K) wr) (fun _ j _ => 8 - (intOf j).toNat)
  case atStart => exact ⟨0, 0, by omega, by omega, rfl, rfl, ⟨rfl⟩, hS⟩
  case round =>
    clear hS
    obtain ⟨k, n, hk, hn, rfl, rfl, hB, hS⟩ := hrel
    by_cases hlt : k < 8
    · obtain ⟨y, hy, hy2⟩ := gB_nat HA.out (i + k)
      have hn7 : n < 72057594037927936 := by
        rw [hB.out]
        have h := beV_lt (bytesAt A i k) 0 (bytesAt_ok HA.out.ok i k)
        have h2 : (256 : Nat) ^ (bytesAt A i k).length ≤ 256 ^ 7 := Nat.pow_le_pow_right (by decide) (by rw [bytesAt_len]; omega)
        have h3 : (256 : Nat) ^ 7 = 72057594037927936 := by decide
        omega
      have HB2 : Bx (n * 256 + y = beV 0 (bytesAt A i (k + 1))) := ⟨by rw [bytesAt_succ, beV_append, ← hB.out, hy]; simp [beV]⟩
      have hor : bits .or .u64 ((n : Int) * 256) (y : Int) = 256 * n + y := by rw [bits_join .u64 64 (by decide) wraps_u64 8 ((n : Int) * 256) (y : Int) (by omega) (by omega) (by omega) (by omega) (by omega) (by omega)]; omega
      clear hB
      go_wp2_with (guard_target =~ Calls _ 57 _ _ _; refine Stopped.out ?_)
      refine ⟨?_⟩
      refine Calls.mono (snext_any HA.out hS) ?_
      clear hS
      rintro _ w ⟨rfl, hS⟩
      rw [hy]
      simp only [putW]
      clear hy
      go_wp2_with (refine load1 hS rfl rfl rfl rfl ?_; simp only [putW])
      go_roundw
      case rel =>
        refine ⟨k + 1, n * 256 + y, by omega, by omega, ?_, by go_num, HB2, hS⟩
        first | (congr 1; omega) | (rw [hor]; congr 1; omega)
      case measure => simp only [intOf]; omega
    · obtain rfl : k = 8 := by omega
      have hfr : ∀ w : World, (callFunc 30 #[.int .u64 (n : Int)]).run Tryz.prog w = .ok (.value (.float .f64 n)) w := fun w => ffrombits_run n w
      go_wp2_with (refine load1 hS rfl rfl rfl rfl ?_; simp only [putW])
      go_ret
      exact ⟨by rw [← hB.out]; rfl, hS⟩
end
end Go.Proofs.YtpbjkfomdindnaaGreatDoor
