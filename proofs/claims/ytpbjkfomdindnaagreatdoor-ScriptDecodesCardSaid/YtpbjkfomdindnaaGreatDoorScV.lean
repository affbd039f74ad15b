/-
  thimbleref25.Source: Next, Some, Real.
-/
import Derived.Test.YtpbjkfomdindnaaGreatDoorScU
import Derived.Test.YtpbjkfomdindnaaGreatDoorJ03
set_option linter.unusedSimpArgs false
set_option linter.unusedVariables false
namespace Go.Proofs.YtpbjkfomdindnaaGreatDoor
open Go.RowKit Go.Shelf Go.Proofs.YtpbjkfomdindnaaGreatDoor.Sl Go.Proofs.YtpbjkfomdindnaaGreatDoor.Jp Go.Proofs.YtpbjkfomdindnaaGreatDoor.Sc

/-- A source of the document's. -/
def rsrc (v : Value) (i : Nat) : Nat → Hp → Prop := cells #[v, .int .i64 (i : Int)] 76
section
variable {w0 w : World} {S F K : List Chunk} {A : List Int} {p i : Nat} {v : Value}
theorem gB_natOk (hA : ∀ x ∈ A, okByte x) (i : Nat) : ∃ n : Nat, gB A i = n ∧ n < 256 := by
  have h := gB_ok (B := A) hA i
  unfold okB8 at h
  exact ⟨(gB A i).toNat, by omega, by omega⟩
set_option maxRecDepth 100000 in
set_option maxHeartbeats 1000000 in
theorem rnext_any (hv : RB w0 A v) (hi : i ≤ 1000000) (hS : Sat w0 ((p, rsrc v i) :: K) w) :
    Calls Tryz.prog 61 #[.pointer (some ⟨p, 0, none⟩)] w fun e w' => e = .returned (.int .i64 (gB A i)) ∧ Sat w0 ((p, rsrc v (i + 1)) :: K) w' := by
  have hall := hv.all
  obtain ⟨q, c, rfl, h1, h2⟩ := BSl.at hv
  clear hv
  have hS1 : Sat w0 ((p, cells #[.slice q A.length c, .int .i64 (i : Int)] 76) :: K) w := hS
  clear hS
  have hS := hS1
  clear hS1
  by_cases hlt : i < A.length
  · obtain ⟨x, hx⟩ : ∃ x, A[i]? = some x := ⟨_, List.getElem?_eq_getElem hlt⟩
    have hx2 := hall x (List.mem_of_getElem? hx)
    unfold okByte at hx2
    obtain ⟨b, o, rfl, hB⟩ := h2 (by intro e; subst e; simp at hlt)
    have HB : Bx (BAt w0 1 by8 okByte A b o) := ⟨hB⟩
    have Hx : Bx (A[i]? = some x) := ⟨hx⟩
    have HX : Bx (gB A i = x) := ⟨gB_get hx⟩
    have hwx : IntKind.i64.wrap x = x := by simp [IntKind.wrap, IntKind.bits, IntKind.signed]; omega
    clear hB h2 hall hx
    go_enter Tryz.func61, Tryz.ntmps61
    go_wp2_with (first | (refine store1 (b := p) (v := .int .i64 ((i + 1 : Nat) : Int)) hS rfl rfl rfl rfl rfl ?_ ?_; (focus (simp)); clear hS; intro w hS; try simp only [putW]) | (refine load1 hS rfl rfl rfl rfl ?_; simp only [putW]) | (refine loadAll hS rfl rfl rfl ?_ ?_; rfl; simp only [putW]) | (refine loadPart hS rfl rfl rfl ?_ rfl ?_; rfl; simp only [putW]) | (refine store1 hS rfl rfl rfl rfl rfl ?_ ?_; (focus (simp; done)); clear hS; intro w hS; simp only [evW, putW] at hS; try simp only [putW]) | (refine storeAll hS rfl rfl rfl rfl ?_ ?_ ?_ ?_; rfl; (focus (simp [Value.oneCell']; done)); rfl; clear hS; intro w hS; try simp only [putW]) | (refine storeN hS rfl rfl rfl rfl ?_ ?_ ?_ ?_; rfl; (focus (simp [Value.oneCell']; done)); (focus (simp; done)); clear hS; intro w hS; simp at hS; try simp only [putW]) | (refine alloc hS rfl rfl ?_; clear hS; intro mb w hS; simp only [putW]) | (refine box1 hS rfl rfl rfl rfl ?_; clear hS; intro mb w hS; try simp only [evW, putW] at hS; simp only [putW]) | (refine boxN hS rfl rfl rfl ?_; clear hS; intro mb w hS; simp only [putW]))
    replace hS : Sat w0 ((p, cells #[.slice (some ⟨b, o, none⟩) A.length c, .int .i64 ((i + 1 : Nat) : Int)] 76) :: K) w := hS
    (refine region_quiet hS (by kernel_rfl) (by kernel_rfl) (by kernel_rfl) ?_; clear hS; (repeat (first | (refine quiet_skip rfl ?_; simp only [putW]) | (apply quiet_run rfl; (focus (intro w hS; go_wp2_with (first | (refine load1 hS rfl rfl rfl rfl ?_; simp only [putW]) | (refine loadAll hS rfl rfl rfl ?_ ?_; rfl; simp only [putW]) | (refine loadPart hS rfl rfl rfl ?_ rfl ?_; rfl; simp only [putW])); exact ⟨rfl, rfl, hS⟩)); simp only [putW]))); refine quiet_nil ?_; intro w hS)
    go_wp2_with (first | (refine load1 hS rfl rfl rfl rfl ?_; simp only [putW]) | (refine loadAll hS rfl rfl rfl ?_ ?_; rfl; simp only [putW]) | (refine loadPart hS rfl rfl rfl ?_ rfl ?_; rfl; simp only [putW]) | (refine store1 hS rfl rfl rfl rfl rfl ?_ ?_; (focus (simp; done)); clear hS; intro w hS; simp only [evW, putW] at hS; try simp only [putW]) | (refine storeAll hS rfl rfl rfl rfl ?_ ?_ ?_ ?_; rfl; (focus (simp [Value.oneCell']; done)); rfl; clear hS; intro w hS; try simp only [putW]) | (refine storeN hS rfl rfl rfl rfl ?_ ?_ ?_ ?_; rfl; (focus (simp [Value.oneCell']; done)); (focus (simp; done)); clear hS; intro w hS; simp at hS; try simp only [putW]) | (refine alloc hS rfl rfl ?_; clear hS; intro mb w hS; simp only [putW]) | (refine box1 hS rfl rfl rfl rfl ?_; clear hS; intro mb w hS; try simp only [evW, putW] at hS; simp only [putW]) | (refine boxN hS rfl rfl rfl ?_; clear hS; intro mb w hS; simp only [putW]))
    (refine region_quiet hS (by kernel_rfl) (by kernel_rfl) (by kernel_rfl) ?_; clear hS; (repeat (first | (refine quiet_skip rfl ?_; simp only [putW]) | (apply quiet_run rfl; (focus (intro w hS; go_wp2_with (first | (refine loadB (f := by8) hS rfl rfl rfl HB.out i 0 ?_ Hx.out rfl ?_; omega; simp only [putW]) | (refine load1 hS rfl rfl rfl rfl ?_; simp only [putW]) | (refine loadAll hS rfl rfl rfl ?_ ?_; rfl; simp only [putW]) | (refine loadPart hS rfl rfl rfl ?_ rfl ?_; rfl; simp only [putW])); exact ⟨rfl, rfl, hS⟩)); simp only [putW]))); refine quiet_nil ?_; intro w hS)
    go_wp2_with (first | (refine load1 hS rfl rfl rfl rfl ?_; simp only [putW]) | (refine loadAll hS rfl rfl rfl ?_ ?_; rfl; simp only [putW]) | (refine loadPart hS rfl rfl rfl ?_ rfl ?_; rfl; simp only [putW]) | (refine store1 hS rfl rfl rfl rfl rfl ?_ ?_; (focus (simp; done)); clear hS; intro w hS; simp only [evW, putW] at hS; try simp only [putW]) | (refine storeAll hS rfl rfl rfl rfl ?_ ?_ ?_ ?_; rfl; (focus (simp [Value.oneCell']; done)); rfl; clear hS; intro w hS; try simp only [putW]) | (refine storeN hS rfl rfl rfl rfl ?_ ?_ ?_ ?_; rfl; (focus (simp [Value.oneCell']; done)); (focus (simp; done)); clear hS; intro w hS; simp at hS; try simp only [putW]) | (refine alloc hS rfl rfl ?_; clear hS; intro mb w hS; simp only [putW]) | (refine box1 hS rfl rfl rfl rfl ?_; clear hS; intro mb w hS; try simp only [evW, putW] at hS; simp only [putW]) | (refine boxN hS rfl rfl rfl ?_; clear hS; intro mb w hS; simp only [putW]))
    go_ret
    exact ⟨by rw [HX.out]; rfl, hS⟩
  · have HX : Bx (gB A i = 0) := ⟨gB_out (by omega)⟩
    go_enter Tryz.func61, Tryz.ntmps61
    go_wp2_with (first | (refine store1 (b := p) (v := .int .i64 ((i + 1 : Nat) : Int)) hS rfl rfl rfl rfl rfl ?_ ?_; (focus (simp)); clear hS; intro w hS; try simp only [putW]) | (refine load1 hS rfl rfl rfl rfl ?_; simp only [putW]) | (refine loadAll hS rfl rfl rfl ?_ ?_; rfl; simp only [putW]) | (refine loadPart hS rfl rfl rfl ?_ rfl ?_; rfl; simp only [putW]) | (refine store1 hS rfl rfl rfl rfl rfl ?_ ?_; (focus (simp; done)); clear hS; intro w hS; simp only [evW, putW] at hS; try simp only [putW]) | (refine storeAll hS rfl rfl rfl rfl ?_ ?_ ?_ ?_; rfl; (focus (simp [Value.oneCell']; done)); rfl; clear hS; intro w hS; try simp only [putW]) | (refine storeN hS rfl rfl rfl rfl ?_ ?_ ?_ ?_; rfl; (focus (simp [Value.oneCell']; done)); (focus (simp; done)); clear hS; intro w hS; simp at hS; try simp only [putW]) | (refine alloc hS rfl rfl ?_; clear hS; intro mb w hS; simp only [putW]) | (refine box1 hS rfl rfl rfl rfl ?_; clear hS; intro mb w hS; try simp only [evW, putW] at hS; simp only [putW]) | (refine boxN hS rfl rfl rfl ?_; clear hS; intro mb w hS; simp only [putW]))
    replace hS : Sat w0 ((p, cells #[.slice q A.length c, .int .i64 ((i + 1 : Nat) : Int)] 76) :: K) w := hS
    (refine region_quiet hS (by kernel_rfl) (by kernel_rfl) (by kernel_rfl) ?_; clear hS; (repeat (first | (refine quiet_skip rfl ?_; simp only [putW]) | (apply quiet_run rfl; (focus (intro w hS; go_wp2_with (first | (refine load1 hS rfl rfl rfl rfl ?_; simp only [putW]) | (refine loadAll hS rfl rfl rfl ?_ ?_; rfl; simp only [putW]) | (refine loadPart hS rfl rfl rfl ?_ rfl ?_; rfl; simp only [putW])); exact ⟨rfl, rfl, hS⟩)); simp only [putW]))); refine quiet_nil ?_; intro w hS)
    go_wp2_with (first | (refine load1 hS rfl rfl rfl rfl ?_; simp only [putW]) | (refine loadAll hS rfl rfl rfl ?_ ?_; rfl; simp only [putW]) | (refine loadPart hS rfl rfl rfl ?_ rfl ?_; rfl; simp only [putW]) | (refine store1 hS rfl rfl rfl rfl rfl ?_ ?_; (focus (simp; done)); clear hS; intro w hS; simp only [evW, putW] at hS; try simp only [putW]) | (refine storeAll hS rfl rfl rfl rfl ?_ ?_ ?_ ?_; rfl; (focus (simp [Value.oneCell']; done)); rfl; clear hS; intro w hS; try simp only [putW]) | (refine storeN hS rfl rfl rfl rfl ?_ ?_ ?_ ?_; rfl; (focus (simp [Value.oneCell']; done)); (focus (simp; done)); clear hS; intro w hS; simp at hS; try simp only [putW]) | (refine alloc hS rfl rfl ?_; clear hS; intro mb w hS; simp only [putW]) | (refine box1 hS rfl rfl rfl rfl ?_; clear hS; intro mb w hS; try simp only [evW, putW] at hS; simp only [putW]) | (refine boxN hS rfl rfl rfl ?_; clear hS; intro mb w hS; simp only [putW]))
    go_ret
    exact ⟨by rw [HX.out]; rfl, hS⟩
set_option maxRecDepth 100000 in
set_option maxHeartbeats 1000000 in
theorem rsome_any {m : Nat} (hv : RB w0 A v) (hi : i ≤ 900000) (hm : (gB A i % 9).toNat = m) (hS : Sat w0 ((p, rsrc v i) :: K) w) :
    Calls Tryz.prog 62 #[.pointer (some ⟨p, 0, none⟩)] w fun e w' => ∃ vo, e = .returned vo ∧ Sat w0 ((p, rsrc v (i + 1 + m)) :: (blk vo, sl 1 by8 (bytesAt A (i + 1) m) 5 vo) :: K) w' := by
  have HV : Bx (RB w0 A v) := ⟨hv⟩
  obtain ⟨n, hn, hn2⟩ := gB_natOk hv.all i
  rw [hn] at hm
  have hm9 : m < 9 := by omega
  have hmi : ((n : Int) % 9) = m := by omega
  clear hv hm
  go_enter Tryz.func62, Tryz.ntmps62
  go_wp2_with (first | (guard_target =~ Calls _ 61 _ _ _; refine Stopped.out ?_) | (refine load1 hS rfl rfl rfl rfl ?_; simp only [putW]) | (refine loadAll hS rfl rfl rfl ?_ ?_; rfl; simp only [putW]) | (refine loadPart hS rfl rfl rfl ?_ rfl ?_; rfl; simp only [putW]) | (refine store1 hS rfl rfl rfl rfl rfl ?_ ?_; (focus (simp; done)); clear hS; intro w hS; simp only [evW, putW] at hS; try simp only [putW]) | (refine storeAll hS rfl rfl rfl rfl ?_ ?_ ?_ ?_; rfl; (focus (simp [Value.oneCell']; done)); rfl; clear hS; intro w hS; try simp only [putW]) | (refine storeN hS rfl rfl rfl rfl ?_ ?_ ?_ ?_; rfl; (focus (simp [Value.oneCell']; done)); (focus (simp; done)); clear hS; intro w hS; simp at hS; try simp only [putW]) | (refine alloc hS rfl rfl ?_; clear hS; intro mb w hS; simp only [putW]) | (refine box1 hS rfl rfl rfl rfl ?_; clear hS; intro mb w hS; try simp only [evW, putW] at hS; simp only [putW]) | (refine boxN hS rfl rfl rfl ?_; clear hS; intro mb w hS; simp only [putW]))
  refine ⟨?_⟩
  refine Calls.mono (rnext_any HV.out (by omega) hS) ?_
  clear hS
  rintro _ w ⟨rfl, hS⟩
  rw [hn]
  simp only [putW]
  clear hn
  go_wp2_with (first | (refine load1 hS rfl rfl rfl rfl ?_; simp only [putW]) | (refine loadAll hS rfl rfl rfl ?_ ?_; rfl; simp only [putW]) | (refine loadPart hS rfl rfl rfl ?_ rfl ?_; rfl; simp only [putW]) | (refine store1 hS rfl rfl rfl rfl rfl ?_ ?_; (focus (simp; done)); clear hS; intro w hS; simp only [evW, putW] at hS; try simp only [putW]) | (refine storeAll hS rfl rfl rfl rfl ?_ ?_ ?_ ?_; rfl; (focus (simp [Value.oneCell']; done)); rfl; clear hS; intro w hS; try simp only [putW]) | (refine storeN hS rfl rfl rfl rfl ?_ ?_ ?_ ?_; rfl; (focus (simp [Value.oneCell']; done)); (focus (simp; done)); clear hS; intro w hS; simp at hS; try simp only [putW]) | (refine alloc hS rfl rfl ?_; clear hS; intro mb w hS; simp only [putW]) | (refine box1 hS rfl rfl rfl rfl ?_; clear hS; intro mb w hS; try simp only [evW, putW] at hS; simp only [putW]) | (refine boxN hS rfl rfl rfl ?_; clear hS; intro mb w hS; simp only [putW]))
  simp only [hmi]
  clear hmi
  have hS1 : Sat w0 ((0, sl 1 by8 (bytesAt A (i + 1) 0) 5 (.slice none 0 0)) :: (p, rsrc v (i + 1)) :: K) w := hS.slNil 1 by8 5
  clear hS
  have hS := hS1
  clear hS1
  go_loopw [4, 5] (fun vv j wr => ∃ (k : Nat), k ≤ m ∧ j = .int .i64 (k : Int) ∧ Sat w0 ((blk vv, sl 1 by8 (bytesAt A (i + 1) k) 5 vv) :: (p, rsrc v (i + 1 + k)) :: K) wr) (fun _ j _ => m - (intOf j).toNat)
  case atStart => exact ⟨0, Nat.zero_le _, rfl, hS⟩
  case round =>
    clear hS
    obtain ⟨k, hk, rfl, hS⟩ := hrel
    by_cases hlt : k < m
    · obtain ⟨y, hy, hy2⟩ := gB_natOk HV.out.all (i + 1 + k)
      have HY : Bx (bytesAt A (i + 1) (k + 1) = bytesAt A (i + 1) k ++ [(y : Int)]) := ⟨by rw [bytesAt_succ, hy]⟩
      have hlen : (bytesAt A (i + 1) k).length ≤ 9 := by rw [bytesAt_len]; omega
      go_wp2_with (first | (guard_target =~ Calls _ 61 _ _ _; refine Stopped.out ?_) | (refine load1 hS rfl rfl rfl rfl ?_; simp only [putW]) | (refine loadAll hS rfl rfl rfl ?_ ?_; rfl; simp only [putW]) | (refine loadPart hS rfl rfl rfl ?_ rfl ?_; rfl; simp only [putW]) | (refine store1 hS rfl rfl rfl rfl rfl ?_ ?_; (focus (simp; done)); clear hS; intro w hS; simp only [evW, putW] at hS; try simp only [putW]) | (refine storeAll hS rfl rfl rfl rfl ?_ ?_ ?_ ?_; rfl; (focus (simp [Value.oneCell']; done)); rfl; clear hS; intro w hS; try simp only [putW]) | (refine storeN hS rfl rfl rfl rfl ?_ ?_ ?_ ?_; rfl; (focus (simp [Value.oneCell']; done)); (focus (simp; done)); clear hS; intro w hS; simp at hS; try simp only [putW]) | (refine alloc hS rfl rfl ?_; clear hS; intro mb w hS; simp only [putW]) | (refine box1 hS rfl rfl rfl rfl ?_; clear hS; intro mb w hS; try simp only [evW, putW] at hS; simp only [putW]) | (refine boxN hS rfl rfl rfl ?_; clear hS; intro mb w hS; simp only [putW]))
      refine ⟨?_⟩
      refine Calls.mono (rnext_any (p := p) (A := A) (i := i + 1 + k) (K := (blk u4, sl 1 by8 (bytesAt A (i + 1) k) 5 u4) :: K) HV.out (by omega) hS.conv) ?_
      clear hS
      rintro _ w ⟨rfl, hS⟩
      rw [hy]
      simp only [putW]
      clear hy
      go_wp2_with (first | (refine buildSlice1 (c := #[.int .u8 (y : Int)]) hS rfl rfl rfl ?_ ?_ ?_ ?_; rfl; rfl; rfl; clear hS; intro mb w hS; simp only [putW]) | (refine append1 (f := by8) hS rfl rfl u4 rfl rfl (y : Int) ?_ ?_ ?_ ?_ ?_ ?_; rfl; (focus (simp [by8, one, Value.oneCell']; done)); rfl; (focus (first | omega | (simp [maxLen]; done) | (simp [maxLen]; omega))); (focus (first | omega | (simp [maxLen]; done) | (simp [maxLen]; omega))); clear hS; intro v' w hS; simp only [putW]) | (refine load1 hS rfl rfl rfl rfl ?_; simp only [putW]) | (refine loadAll hS rfl rfl rfl ?_ ?_; rfl; simp only [putW]) | (refine loadPart hS rfl rfl rfl ?_ rfl ?_; rfl; simp only [putW]) | (refine store1 hS rfl rfl rfl rfl rfl ?_ ?_; (focus (simp; done)); clear hS; intro w hS; simp only [evW, putW] at hS; try simp only [putW]) | (refine storeAll hS rfl rfl rfl rfl ?_ ?_ ?_ ?_; rfl; (focus (simp [Value.oneCell']; done)); rfl; clear hS; intro w hS; try simp only [putW]) | (refine storeN hS rfl rfl rfl rfl ?_ ?_ ?_ ?_; rfl; (focus (simp [Value.oneCell']; done)); (focus (simp; done)); clear hS; intro w hS; simp at hS; try simp only [putW]) | (refine alloc hS rfl rfl ?_; clear hS; intro mb w hS; simp only [putW]) | (refine box1 hS rfl rfl rfl rfl ?_; clear hS; intro mb w hS; try simp only [evW, putW] at hS; simp only [putW]) | (refine boxN hS rfl rfl rfl ?_; clear hS; intro mb w hS; simp only [putW]))
      go_roundw
      case rel => exact ⟨k + 1, by omega, by go_num, by rw [HY.out]; exact hS.conv⟩
      case measure => simp only [intOf]; omega
    · obtain rfl : k = m := by omega
      go_wp2_with (first | (refine load1 hS rfl rfl rfl rfl ?_; simp only [putW]) | (refine loadAll hS rfl rfl rfl ?_ ?_; rfl; simp only [putW]) | (refine loadPart hS rfl rfl rfl ?_ rfl ?_; rfl; simp only [putW]) | (refine store1 hS rfl rfl rfl rfl rfl ?_ ?_; (focus (simp; done)); clear hS; intro w hS; simp only [evW, putW] at hS; try simp only [putW]) | (refine storeAll hS rfl rfl rfl rfl ?_ ?_ ?_ ?_; rfl; (focus (simp [Value.oneCell']; done)); rfl; clear hS; intro w hS; try simp only [putW]) | (refine storeN hS rfl rfl rfl rfl ?_ ?_ ?_ ?_; rfl; (focus (simp [Value.oneCell']; done)); (focus (simp; done)); clear hS; intro w hS; simp at hS; try simp only [putW]) | (refine alloc hS rfl rfl ?_; clear hS; intro mb w hS; simp only [putW]) | (refine box1 hS rfl rfl rfl rfl ?_; clear hS; intro mb w hS; try simp only [evW, putW] at hS; simp only [putW]) | (refine boxN hS rfl rfl rfl ?_; clear hS; intro mb w hS; simp only [putW]))
      go_ret
      exact ⟨u4, rfl, hS.conv⟩
theorem num_beV : ∀ {l : List Int} {n : Nat}, (∀ x ∈ l, okByte x) → Go.Proofs.YtpbjkfomdindnaaGreatDoor.Jp.numF (n : Int) l = ((beV n l : Nat) : Int)
  | [], _, _ => rfl
  | x :: l, n, h => by
    have hx := h x (by simp)
    unfold okByte at hx
    have e : (256 * (n : Int) + x) = ((n * 256 + x.toNat : Nat) : Int) := by omega
    show Go.Proofs.YtpbjkfomdindnaaGreatDoor.Jp.numF (256 * (n : Int) + x) l = ((beV (n * 256 + x.toNat) l : Nat) : Int)
    rw [e]
    exact num_beV fun y hy => h y (by simp [hy])
set_option maxRecDepth 100000 in
set_option maxHeartbeats 1000000 in
theorem rreal_any (hv : RB w0 A v) (hi : i ≤ 900000) (hS : Sat w0 ((p, rsrc v i) :: K) w) :
    Calls Tryz.prog 63 #[.pointer (some ⟨p, 0, none⟩)] w fun e w' => e = .returned (.float .f64 (beV 0 (bytesAt A i 8))) ∧ Sat w0 ((p, rsrc v (i + 8)) :: K) w' := by
  have HV : Bx (RB w0 A v) := ⟨hv⟩
  clear hv
  go_enter Tryz.func63, Tryz.ntmps63
  go_wp2_with (first | (refine load1 hS rfl rfl rfl rfl ?_; simp only [putW]) | (refine loadAll hS rfl rfl rfl ?_ ?_; rfl; simp only [putW]) | (refine loadPart hS rfl rfl rfl ?_ rfl ?_; rfl; simp only [putW]) | (refine store1 hS rfl rfl rfl rfl rfl ?_ ?_; (focus (simp; done)); clear hS; intro w hS; simp only [evW, putW] at hS; try simp only [putW]) | (refine storeAll hS rfl rfl rfl rfl ?_ ?_ ?_ ?_; rfl; (focus (simp [Value.oneCell']; done)); rfl; clear hS; intro w hS; try simp only [putW]) | (refine storeN hS rfl rfl rfl rfl ?_ ?_ ?_ ?_; rfl; (focus (simp [Value.oneCell']; done)); (focus (simp; done)); clear hS; intro w hS; simp at hS; try simp only [putW]) | (refine alloc hS rfl rfl ?_; clear hS; intro mb w hS; simp only [putW]) | (refine box1 hS rfl rfl rfl rfl ?_; clear hS; intro mb w hS; try simp only [evW, putW] at hS; simp only [putW]) | (refine boxN hS rfl rfl rfl ?_; clear hS; intro mb w hS; simp only [putW]))
  have hS1 : Sat w0 ((0, sl 1 by8 (bytesAt A i 0) 5 (.slice none 0 0)) :: (p, rsrc v i) :: K) w := hS.slNil 1 by8 5
  clear hS
  have hS := hS1
  clear hS1
  go_loopw [3, 4] (fun vv j wr => ∃ (k : Nat), k ≤ 8 ∧ j = .int .i64 (k : Int) ∧ Sat w0 ((blk vv, sl 1 by8 (bytesAt A i k) 5 vv) :: (p, rsrc v (i + k)) :: K) wr) (fun _ j _ => 8 - (intOf j).toNat)
  case atStart => exact ⟨0, Nat.zero_le _, rfl, hS⟩
  case round =>
    clear hS
    obtain ⟨k, hk, rfl, hS⟩ := hrel
    by_cases hlt : k < 8
    · obtain ⟨y, hy, hy2⟩ := gB_natOk HV.out.all (i + k)
      have HY : Bx (bytesAt A i (k + 1) = bytesAt A i k ++ [(y : Int)]) := ⟨by rw [bytesAt_succ, hy]⟩
      have hlen : (bytesAt A i k).length ≤ 9 := by rw [bytesAt_len]; omega
      go_wp2_with (first | (guard_target =~ Calls _ 61 _ _ _; refine Stopped.out ?_) | (refine load1 hS rfl rfl rfl rfl ?_; simp only [putW]) | (refine loadAll hS rfl rfl rfl ?_ ?_; rfl; simp only [putW]) | (refine loadPart hS rfl rfl rfl ?_ rfl ?_; rfl; simp only [putW]) | (refine store1 hS rfl rfl rfl rfl rfl ?_ ?_; (focus (simp; done)); clear hS; intro w hS; simp only [evW, putW] at hS; try simp only [putW]) | (refine storeAll hS rfl rfl rfl rfl ?_ ?_ ?_ ?_; rfl; (focus (simp [Value.oneCell']; done)); rfl; clear hS; intro w hS; try simp only [putW]) | (refine storeN hS rfl rfl rfl rfl ?_ ?_ ?_ ?_; rfl; (focus (simp [Value.oneCell']; done)); (focus (simp; done)); clear hS; intro w hS; simp at hS; try simp only [putW]) | (refine alloc hS rfl rfl ?_; clear hS; intro mb w hS; simp only [putW]) | (refine box1 hS rfl rfl rfl rfl ?_; clear hS; intro mb w hS; try simp only [evW, putW] at hS; simp only [putW]) | (refine boxN hS rfl rfl rfl ?_; clear hS; intro mb w hS; simp only [putW]))
      refine ⟨?_⟩
      refine Calls.mono (rnext_any (p := p) (A := A) (i := i + k) (K := (blk u3, sl 1 by8 (bytesAt A i k) 5 u3) :: K) HV.out (by omega) hS.conv) ?_
      clear hS
      rintro _ w ⟨rfl, hS⟩
      rw [hy]
      simp only [putW]
      clear hy
      go_wp2_with (first | (refine buildSlice1 (c := #[.int .u8 (y : Int)]) hS rfl rfl rfl ?_ ?_ ?_ ?_; rfl; rfl; rfl; clear hS; intro mb w hS; simp only [putW]) | (refine append1 (f := by8) hS rfl rfl u3 rfl rfl (y : Int) ?_ ?_ ?_ ?_ ?_ ?_; rfl; (focus (simp [by8, one, Value.oneCell']; done)); rfl; (focus (first | omega | (simp [maxLen]; done) | (simp [maxLen]; omega))); (focus (first | omega | (simp [maxLen]; done) | (simp [maxLen]; omega))); clear hS; intro v' w hS; simp only [putW]) | (refine load1 hS rfl rfl rfl rfl ?_; simp only [putW]) | (refine loadAll hS rfl rfl rfl ?_ ?_; rfl; simp only [putW]) | (refine loadPart hS rfl rfl rfl ?_ rfl ?_; rfl; simp only [putW]) | (refine store1 hS rfl rfl rfl rfl rfl ?_ ?_; (focus (simp; done)); clear hS; intro w hS; simp only [evW, putW] at hS; try simp only [putW]) | (refine storeAll hS rfl rfl rfl rfl ?_ ?_ ?_ ?_; rfl; (focus (simp [Value.oneCell']; done)); rfl; clear hS; intro w hS; try simp only [putW]) | (refine storeN hS rfl rfl rfl rfl ?_ ?_ ?_ ?_; rfl; (focus (simp [Value.oneCell']; done)); (focus (simp; done)); clear hS; intro w hS; simp at hS; try simp only [putW]) | (refine alloc hS rfl rfl ?_; clear hS; intro mb w hS; simp only [putW]) | (refine box1 hS rfl rfl rfl rfl ?_; clear hS; intro mb w hS; try simp only [evW, putW] at hS; simp only [putW]) | (refine boxN hS rfl rfl rfl ?_; clear hS; intro mb w hS; simp only [putW]))
      go_roundw
      case rel => exact ⟨k + 1, by omega, by go_num, by rw [HY.out]; exact hS.conv⟩
      case measure => simp only [intOf]; omega
    · obtain rfl : k = 8 := by omega
      have HR : Bx (RB wr (bytesAt A i 8) u3) := ⟨hS.readsSl (bytesAt_ok (B := A) HV.out.all i 8)⟩
      have hl8 : (bytesAt A i 8).length ≤ 8 := by rw [bytesAt_len]; omega
      obtain ⟨n, hn⟩ : ∃ n, beV 0 (bytesAt A i 8) = n := ⟨_, rfl⟩
      have HN2 : Bx (beV 0 (bytesAt A i 8) = n) := ⟨hn⟩
      have HN : Bx (Go.Proofs.YtpbjkfomdindnaaGreatDoor.Jp.num (bytesAt A i 8) = (n : Int)) := ⟨by rw [← hn]; exact num_beV (n := 0) (bytesAt_ok (B := A) HV.out.all i 8)⟩
      clear hn
      have hfr : ∀ w : World, (callFunc 30 #[.int .u64 (n : Int)]).run Tryz.prog w = .ok (.value (.float .f64 n)) w := fun w => ffrombits_run n w
      go_wp2_with (first | (go_at_call 31; refine Calls.mono (num_any HR.out hl8) ?_; rw [HN.out]; rintro _ w2 ⟨rfl, h2⟩; replace hS := hS.frame h2; clear h2; (try simp only [List.cons_append, List.nil_append] at hS); simp only [putW]) | (refine load1 hS rfl rfl rfl rfl ?_; simp only [putW]) | (refine loadAll hS rfl rfl rfl ?_ ?_; rfl; simp only [putW]) | (refine loadPart hS rfl rfl rfl ?_ rfl ?_; rfl; simp only [putW]) | (refine store1 hS rfl rfl rfl rfl rfl ?_ ?_; (focus (simp; done)); clear hS; intro w hS; simp only [evW, putW] at hS; try simp only [putW]) | (refine storeAll hS rfl rfl rfl rfl ?_ ?_ ?_ ?_; rfl; (focus (simp [Value.oneCell']; done)); rfl; clear hS; intro w hS; try simp only [putW]) | (refine storeN hS rfl rfl rfl rfl ?_ ?_ ?_ ?_; rfl; (focus (simp [Value.oneCell']; done)); (focus (simp; done)); clear hS; intro w hS; simp at hS; try simp only [putW]) | (refine alloc hS rfl rfl ?_; clear hS; intro mb w hS; simp only [putW]) | (refine box1 hS rfl rfl rfl rfl ?_; clear hS; intro mb w hS; try simp only [evW, putW] at hS; simp only [putW]) | (refine boxN hS rfl rfl rfl ?_; clear hS; intro mb w hS; simp only [putW]))
      go_ret
      exact ⟨by rw [HN2.out]; rfl, hS.conv⟩
end
end Go.Proofs.YtpbjkfomdindnaaGreatDoor
