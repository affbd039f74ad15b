/-
  thimbleref02.Num at any length; thimbleref25: num, split, unhex, kinds.
-/
import Derived.Test.YtpbjkfomdindnaaGreatDoorScRX
import Derived.Test.YtpbjkfomdindnaaGreatDoorScCp
import Derived.Test.YtpbjkfomdindnaaGreatDoorScRY
set_option linter.unusedSimpArgs false
set_option linter.unusedVariables false
namespace Go.Proofs.YtpbjkfomdindnaaGreatDoor
open Go.RowKit Go.Shelf Go.Proofs.YtpbjkfomdindnaaGreatDoor.Sl Go.Proofs.YtpbjkfomdindnaaGreatDoor.Jp Go.Proofs.YtpbjkfomdindnaaGreatDoor.Sc

section
variable {w0 w : World} {S F K : List Chunk}
theorem beV_snoc {A : List Int} {k n : Nat} (h : A[k]? = some (n : Int)) : beV 0 (A.take (k + 1)) = beV 0 (A.take k) * 256 + n := by
  rw [List.take_add_one, h, Option.toList_some, beV_append]
  simp [beV]
set_option maxRecDepth 100000 in
set_option maxHeartbeats 1000000 in
theorem rnum8_any {A : List Int} {va : Value} (ha : RB w0 A va) (hb : A.length ≤ 1000000) : Calls Tryz.prog 31 #[va] w0 fun e w' => e = .returned (.int .u64 ((beV 0 A % 18446744073709551616 : Nat) : Int)) ∧ Sat w0 [] w' := by
  have hS := Sat.refl w0
  have HA : Bx (∀ x ∈ A, okByte x) := ⟨ha.all⟩
  obtain ⟨pa, ca, rfl, -, hat⟩ := ha.at
  clear ha
  go_enter Tryz.func31, Tryz.ntmps31
  go_wp2_with (first | (refine load1 hS rfl rfl rfl rfl ?_; simp only [putW]) | (refine loadAll hS rfl rfl rfl ?_ ?_; rfl; simp only [putW]) | (refine loadPart hS rfl rfl rfl ?_ rfl ?_; rfl; simp only [putW]) | (refine store1 hS rfl rfl rfl rfl rfl ?_ ?_; (focus (simp; done)); clear hS; intro w hS; simp only [evW, putW] at hS; try simp only [putW]) | (refine storeAll hS rfl rfl rfl rfl ?_ ?_ ?_ ?_; rfl; (focus (simp [Value.oneCell']; done)); rfl; clear hS; intro w hS; try simp only [putW]) | (refine storeN hS rfl rfl rfl rfl ?_ ?_ ?_ ?_; rfl; (focus (simp [Value.oneCell']; done)); (focus (simp; done)); clear hS; intro w hS; simp at hS; try simp only [putW]) | (refine alloc hS rfl rfl ?_; clear hS; intro mb w hS; simp only [putW]) | (refine box1 hS rfl rfl rfl rfl ?_; clear hS; intro mb w hS; try simp only [evW, putW] at hS; simp only [putW]) | (refine boxN hS rfl rfl rfl ?_; clear hS; intro mb w hS; simp only [putW]))
  have hT0 : Bx ((0 : Nat) = beV 0 (A.take 0) % 18446744073709551616) := ⟨rfl⟩
  go_loopw [3, 4] (fun n i wr => ∃ (k m : Nat), k ≤ A.length ∧ i = .int .i64 (k : Int) ∧ n = .int .u64 (m : Int) ∧ Bx (m = beV 0 (A.take k) % 18446744073709551616) ∧ Sat w0 [] wr) (fun _ i _ => A.length - (intOf i).toNat)
  case atStart => exact ⟨0, 0, Nat.zero_le _, rfl, rfl, hT0, hS⟩
  case round =>
    clear hS hT0
    obtain ⟨k, m, hk, rfl, rfl, hm, hS⟩ := hrel
    by_cases hlt : k < A.length
    · obtain ⟨x, hx⟩ : ∃ x, A[k]? = some x := ⟨_, List.getElem?_eq_getElem hlt⟩
      obtain ⟨n, hn, hn2⟩ : ∃ n : Nat, x = n ∧ n < 256 := by
        have := HA.out x (List.mem_of_getElem? hx)
        unfold okByte at this
        exact ⟨x.toNat, by omega, by omega⟩
      subst hn
      obtain ⟨b, off, rfl, hBA⟩ := hat (by intro e; subst e; simp at hlt)
      have HB : Bx (BAt w0 1 by8 okByte A b off) := ⟨hBA⟩
      have Hx : Bx (A[k]? = some (n : Int)) := ⟨hx⟩
      have HN : Bx ((256 * m + n) % 18446744073709551616 = beV 0 (A.take (k + 1)) % 18446744073709551616) := ⟨by rw [beV_snoc hx, hm.out]; omega⟩
      have hml : m < 18446744073709551616 := by rw [hm.out]; exact Nat.mod_lt _ (by decide)
      have HML : Bx (m < 18446744073709551616) := ⟨hml⟩
      clear hBA hat hx hm hml
      go_wp2_with (first | (refine loadB (f := by8) hS rfl rfl rfl HB.out k 0 ?_ Hx.out rfl ?_; omega; simp only [putW]) | (refine load1 hS rfl rfl rfl rfl ?_; simp only [putW]) | (refine loadAll hS rfl rfl rfl ?_ ?_; rfl; simp only [putW]) | (refine loadPart hS rfl rfl rfl ?_ rfl ?_; rfl; simp only [putW]) | (refine store1 hS rfl rfl rfl rfl rfl ?_ ?_; (focus (simp; done)); clear hS; intro w hS; simp only [evW, putW] at hS; try simp only [putW]) | (refine storeAll hS rfl rfl rfl rfl ?_ ?_ ?_ ?_; rfl; (focus (simp [Value.oneCell']; done)); rfl; clear hS; intro w hS; try simp only [putW]) | (refine storeN hS rfl rfl rfl rfl ?_ ?_ ?_ ?_; rfl; (focus (simp [Value.oneCell']; done)); (focus (simp; done)); clear hS; intro w hS; simp at hS; try simp only [putW]) | (refine alloc hS rfl rfl ?_; clear hS; intro mb w hS; simp only [putW]) | (refine box1 hS rfl rfl rfl rfl ?_; clear hS; intro mb w hS; try simp only [evW, putW] at hS; simp only [putW]) | (refine boxN hS rfl rfl rfl ?_; clear hS; intro mb w hS; simp only [putW]))
      go_roundw
      case rel =>
        refine ⟨k + 1, (256 * m + n) % 18446744073709551616, by omega, by go_num, ?_, ⟨HN.out⟩, hS⟩
        have := HML.out
        congr 1
        simp [IntKind.wrap, IntKind.bits, IntKind.signed]
      case measure => simp only [intOf]; omega
    · have HD : Bx (m = beV 0 A % 18446744073709551616) := ⟨by rw [hm.out, List.take_of_length_le (by omega)]⟩
      clear hm
      go_wp2_with (first | (refine load1 hS rfl rfl rfl rfl ?_; simp only [putW]) | (refine loadAll hS rfl rfl rfl ?_ ?_; rfl; simp only [putW]) | (refine loadPart hS rfl rfl rfl ?_ rfl ?_; rfl; simp only [putW]) | (refine store1 hS rfl rfl rfl rfl rfl ?_ ?_; (focus (simp; done)); clear hS; intro w hS; simp only [evW, putW] at hS; try simp only [putW]) | (refine storeAll hS rfl rfl rfl rfl ?_ ?_ ?_ ?_; rfl; (focus (simp [Value.oneCell']; done)); rfl; clear hS; intro w hS; try simp only [putW]) | (refine storeN hS rfl rfl rfl rfl ?_ ?_ ?_ ?_; rfl; (focus (simp [Value.oneCell']; done)); (focus (simp; done)); clear hS; intro w hS; simp at hS; try simp only [putW]) | (refine alloc hS rfl rfl ?_; clear hS; intro mb w hS; simp only [putW]) | (refine box1 hS rfl rfl rfl rfl ?_; clear hS; intro mb w hS; try simp only [evW, putW] at hS; simp only [putW]) | (refine boxN hS rfl rfl rfl ?_; clear hS; intro mb w hS; simp only [putW]))
      exact bodyPost_ret (v := .int .u64 (m : Int)) (by simp [results, Tryz.results31]) rfl ⟨by rw [HD.out], hS⟩
theorem rkinds_any : Calls Tryz.prog 27 #[] w0 fun e w' => ∃ g, e = .returned (.slice (some ⟨g, 0, none⟩) 13 13) ∧ Sat w0 [(g, slc 1 strF stepsL 13 9)] w' := by
  go_enter Tryz.func27, Tryz.ntmps27
  go_wp2
  go_ret
  refine ⟨w0.heap.size, rfl, ?_⟩
  exact ((Sat.refl w0).freshCells (stepsL.map str).toArray 9).toSlc (by simp [stepsL]) (by simp [stepsL]) (by simp [maxLen]) (by rw [flatMap_one, Nat.mul_one, List.take_of_length_le (by simp)]) (fun _ _ => rfl)
theorem numV_step {w : Bs} {k : Nat} {b : UInt8} {n : Int} (h : w[k]? = some b) (hk : k < 10) : numV.go k n (w.drop k) = if b.toNat < 48 ∨ 57 < b.toNat then 0 else numV.go (k + 1) (10 * n + ((b.toNat : Int) - 48)) (w.drop (k + 1)) := by
  obtain ⟨h1, h2⟩ := List.getElem?_eq_some_iff.1 h
  rw [List.drop_eq_getElem_cons h1, h2, numV.go, if_pos hk]
set_option maxRecDepth 100000 in
set_option maxHeartbeats 2000000 in
theorem rnum_any (l : Bs) (hl : l.length ≤ 1000000) : Calls Tryz.prog 28 #[str l] w0 fun e w' => e = .returned (.int .i64 (numV l)) ∧ Sat w0 [] w' := by
  have hS := Sat.refl w0
  go_enter Tryz.func28, Tryz.ntmps28
  go_wp2_with (first | (refine load1 hS rfl rfl rfl rfl ?_; simp only [putW]) | (refine loadAll hS rfl rfl rfl ?_ ?_; rfl; simp only [putW]) | (refine loadPart hS rfl rfl rfl ?_ rfl ?_; rfl; simp only [putW]) | (refine store1 hS rfl rfl rfl rfl rfl ?_ ?_; (focus (simp; done)); clear hS; intro w hS; simp only [evW, putW] at hS; try simp only [putW]) | (refine storeAll hS rfl rfl rfl rfl ?_ ?_ ?_ ?_; rfl; (focus (simp [Value.oneCell']; done)); rfl; clear hS; intro w hS; try simp only [putW]) | (refine storeN hS rfl rfl rfl rfl ?_ ?_ ?_ ?_; rfl; (focus (simp [Value.oneCell']; done)); (focus (simp; done)); clear hS; intro w hS; simp at hS; try simp only [putW]) | (refine alloc hS rfl rfl ?_; clear hS; intro mb w hS; simp only [putW]) | (refine box1 hS rfl rfl rfl rfl ?_; clear hS; intro mb w hS; try simp only [evW, putW] at hS; simp only [putW]) | (refine boxN hS rfl rfl rfl ?_; clear hS; intro mb w hS; simp only [putW]))
  have hT0 : Bx (numV.go 0 0 (l.drop 0) = numV l) := ⟨rfl⟩
  go_loopw [3, 4] (fun n i wr => ∃ (k m : Nat), k ≤ l.length ∧ k ≤ 10 ∧ i = .int .i64 (k : Int) ∧ n = .int .i64 (m : Int) ∧ Bx (numV.go k m (l.drop k) = numV l ∧ m + 1 ≤ 10 ^ k) ∧ Sat w0 [] wr) (fun _ i _ => l.length - (intOf i).toNat)
  case atStart => exact ⟨0, 0, Nat.zero_le _, by omega, rfl, rfl, ⟨hT0.out, by decide⟩, hS⟩
  case round =>
    clear hS hT0
    obtain ⟨k, m, hk, hk10, rfl, rfl, hm, hS⟩ := hrel
    by_cases hlt : k < l.length
    · have d1 : decide ((k : Int) < (l.length : Int)) = true := decide_eq_true (by omega)
      by_cases h10 : k < 10
      · have d2 : decide ((k : Int) < 10) = true := decide_eq_true (by omega)
        obtain ⟨b, hb⟩ : ∃ b, l[k]? = some b := ⟨_, List.getElem?_eq_getElem hlt⟩
        have Hb : Bx (l[k]? = some b) := ⟨hb⟩
        have hst := numV_step (n := m) hb h10
        rw [hm.out.1] at hst
        by_cases c1 : b.toNat < 48
        · have e1 : decide ((b.toNat : Int) < 48) = true := decide_eq_true (by omega)
          have HD : Bx (numV l = 0) := ⟨by rw [hst, if_pos (.inl c1)]⟩
          clear hst hm hb c1
          go_wp2_with (first | (refine indexL (l := l) (n := k) (b := b) rfl rfl rfl rfl Tryz.underlying9 ?_ ?_ ?_; (focus (rfl)); (focus (exact Hb.out)); simp only [putW]) | (refine load1 hS rfl rfl rfl rfl ?_; simp only [putW]) | (refine loadAll hS rfl rfl rfl ?_ ?_; rfl; simp only [putW]) | (refine loadPart hS rfl rfl rfl ?_ rfl ?_; rfl; simp only [putW]) | (refine store1 hS rfl rfl rfl rfl rfl ?_ ?_; (focus (simp; done)); clear hS; intro w hS; simp only [evW, putW] at hS; try simp only [putW]) | (refine storeAll hS rfl rfl rfl rfl ?_ ?_ ?_ ?_; rfl; (focus (simp [Value.oneCell']; done)); rfl; clear hS; intro w hS; try simp only [putW]) | (refine storeN hS rfl rfl rfl rfl ?_ ?_ ?_ ?_; rfl; (focus (simp [Value.oneCell']; done)); (focus (simp; done)); clear hS; intro w hS; simp at hS; try simp only [putW]) | (refine alloc hS rfl rfl ?_; clear hS; intro mb w hS; simp only [putW]) | (refine box1 hS rfl rfl rfl rfl ?_; clear hS; intro mb w hS; try simp only [evW, putW] at hS; simp only [putW]) | (refine boxN hS rfl rfl rfl ?_; clear hS; intro mb w hS; simp only [putW]))
          exact bodyPost_ret (v := .int .i64 0) (by simp [results, Tryz.results28]) rfl ⟨by rw [HD.out], hS⟩
        · have e1 : decide ((b.toNat : Int) < 48) = false := decide_eq_false (by omega)
          by_cases c2 : 57 < b.toNat
          · have e2 : decide ((57 : Int) < (b.toNat : Int)) = true := decide_eq_true (by omega)
            have HD : Bx (numV l = 0) := ⟨by rw [hst, if_pos (.inr c2)]⟩
            clear hst hm hb c1 c2
            go_wp2_with (first | (refine indexL (l := l) (n := k) (b := b) rfl rfl rfl rfl Tryz.underlying9 ?_ ?_ ?_; (focus (rfl)); (focus (exact Hb.out)); simp only [putW]) | (refine load1 hS rfl rfl rfl rfl ?_; simp only [putW]) | (refine loadAll hS rfl rfl rfl ?_ ?_; rfl; simp only [putW]) | (refine loadPart hS rfl rfl rfl ?_ rfl ?_; rfl; simp only [putW]) | (refine store1 hS rfl rfl rfl rfl rfl ?_ ?_; (focus (simp; done)); clear hS; intro w hS; simp only [evW, putW] at hS; try simp only [putW]) | (refine storeAll hS rfl rfl rfl rfl ?_ ?_ ?_ ?_; rfl; (focus (simp [Value.oneCell']; done)); rfl; clear hS; intro w hS; try simp only [putW]) | (refine storeN hS rfl rfl rfl rfl ?_ ?_ ?_ ?_; rfl; (focus (simp [Value.oneCell']; done)); (focus (simp; done)); clear hS; intro w hS; simp at hS; try simp only [putW]) | (refine alloc hS rfl rfl ?_; clear hS; intro mb w hS; simp only [putW]) | (refine box1 hS rfl rfl rfl rfl ?_; clear hS; intro mb w hS; try simp only [evW, putW] at hS; simp only [putW]) | (refine boxN hS rfl rfl rfl ?_; clear hS; intro mb w hS; simp only [putW]))
            exact bodyPost_ret (v := .int .i64 0) (by simp [results, Tryz.results28]) rfl ⟨by rw [HD.out], hS⟩
          · have e2 : decide ((57 : Int) < (b.toNat : Int)) = false := decide_eq_false (by omega)
            obtain ⟨d, hd⟩ : ∃ d : Nat, b.toNat = 48 + d := ⟨b.toNat - 48, by omega⟩
            have hd9 : d ≤ 9 := by omega
            have hp : (10 : Nat) ^ (k + 1) = 10 ^ k * 10 := Nat.pow_succ ..
            have hp9 : (10 : Nat) ^ k ≤ 10 ^ 9 := Nat.pow_le_pow_right (by decide) (by omega)
            have hm2 := hm.out.2
            have HN : Bx (numV.go (k + 1) ((10 * m + d : Nat) : Int) (l.drop (k + 1)) = numV l ∧ 10 * m + d + 1 ≤ 10 ^ (k + 1)) := ⟨by
              rw [hst, if_neg (by omega)]
              congr 1
              omega, by omega⟩
            have hm10 : m ≤ 1000000000 := by
              have : (10 : Nat) ^ 9 = 1000000000 := by decide
              omega
            have HM10 : Bx (m ≤ 1000000000 ∧ d ≤ 9 ∧ b.toNat = 48 + d) := ⟨hm10, hd9, hd⟩
            clear hst hm hb c1 c2 hp hp9 hm2 hm10 hd hd9
            go_upto_region 7 with (first | (refine indexL (l := l) (n := k) (b := b) rfl rfl rfl rfl Tryz.underlying9 ?_ ?_ ?_; (focus (rfl)); (focus (exact Hb.out)); simp only [putW]) | (refine load1 hS rfl rfl rfl rfl ?_; simp only [putW]) | (refine loadAll hS rfl rfl rfl ?_ ?_; rfl; simp only [putW]) | (refine loadPart hS rfl rfl rfl ?_ rfl ?_; rfl; simp only [putW]) | (refine store1 hS rfl rfl rfl rfl rfl ?_ ?_; (focus (simp; done)); clear hS; intro w hS; simp only [evW, putW] at hS; try simp only [putW]) | (refine storeAll hS rfl rfl rfl rfl ?_ ?_ ?_ ?_; rfl; (focus (simp [Value.oneCell']; done)); rfl; clear hS; intro w hS; try simp only [putW]) | (refine storeN hS rfl rfl rfl rfl ?_ ?_ ?_ ?_; rfl; (focus (simp [Value.oneCell']; done)); (focus (simp; done)); clear hS; intro w hS; simp at hS; try simp only [putW]) | (refine alloc hS rfl rfl ?_; clear hS; intro mb w hS; simp only [putW]) | (refine box1 hS rfl rfl rfl rfl ?_; clear hS; intro mb w hS; try simp only [evW, putW] at hS; simp only [putW]) | (refine boxN hS rfl rfl rfl ?_; clear hS; intro mb w hS; simp only [putW]))
            (refine region_flat hS ?_; clear hS; (repeat (first | (refine quiet_skip rfl ?_; simp only [putW]) | (refine quiet_y (yIndex (l := l) (n := k) (b := b) rfl rfl rfl rfl Tryz.underlying9 rfl Hb.out) ?_; simp only [putW]) | (refine quiet_y (yMove rfl rfl rfl) ?_; simp only [evW, putW]) | (refine quiet_y (yNil rfl rfl rfl) ?_; simp only [putW]) | (refine quiet_y (yLoad1 (fun _ h => h) rfl rfl rfl rfl) ?_; simp only [putW]) | (apply quiet_y; (focus (apply yRun rfl; intro w; first | (go_simp; done) | (go_simp; rfl))); simp only [putW]))); refine quiet_nil ?_; intro w hS)
            go_wp2_with (first | (refine load1 hS rfl rfl rfl rfl ?_; simp only [putW]) | (refine loadAll hS rfl rfl rfl ?_ ?_; rfl; simp only [putW]) | (refine loadPart hS rfl rfl rfl ?_ rfl ?_; rfl; simp only [putW]) | (refine store1 hS rfl rfl rfl rfl rfl ?_ ?_; (focus (simp; done)); clear hS; intro w hS; simp only [evW, putW] at hS; try simp only [putW]) | (refine storeAll hS rfl rfl rfl rfl ?_ ?_ ?_ ?_; rfl; (focus (simp [Value.oneCell']; done)); rfl; clear hS; intro w hS; try simp only [putW]) | (refine storeN hS rfl rfl rfl rfl ?_ ?_ ?_ ?_; rfl; (focus (simp [Value.oneCell']; done)); (focus (simp; done)); clear hS; intro w hS; simp at hS; try simp only [putW]) | (refine alloc hS rfl rfl ?_; clear hS; intro mb w hS; simp only [putW]) | (refine box1 hS rfl rfl rfl rfl ?_; clear hS; intro mb w hS; try simp only [evW, putW] at hS; simp only [putW]) | (refine boxN hS rfl rfl rfl ?_; clear hS; intro mb w hS; simp only [putW]))
            go_roundw
            case rel =>
              refine ⟨k + 1, 10 * m + d, by omega, by omega, by go_num, ?_, HN, hS⟩
              obtain ⟨q1, q2, q3⟩ := HM10.out
              congr 1
              simp [IntKind.wrap, IntKind.bits, IntKind.signed]
              omega
            case measure => simp only [intOf]; omega
      · have d2 : decide ((k : Int) < 10) = false := decide_eq_false (by omega)
        have HD : Bx (numV l = (m : Int)) := ⟨by
          rw [← hm.out.1]
          cases hq : l.drop k with
          | nil => rfl
          | cons x r => rw [numV.go, if_neg h10]⟩
        clear hm h10
        go_wp2_with (first | (refine load1 hS rfl rfl rfl rfl ?_; simp only [putW]) | (refine loadAll hS rfl rfl rfl ?_ ?_; rfl; simp only [putW]) | (refine loadPart hS rfl rfl rfl ?_ rfl ?_; rfl; simp only [putW]) | (refine store1 hS rfl rfl rfl rfl rfl ?_ ?_; (focus (simp; done)); clear hS; intro w hS; simp only [evW, putW] at hS; try simp only [putW]) | (refine storeAll hS rfl rfl rfl rfl ?_ ?_ ?_ ?_; rfl; (focus (simp [Value.oneCell']; done)); rfl; clear hS; intro w hS; try simp only [putW]) | (refine storeN hS rfl rfl rfl rfl ?_ ?_ ?_ ?_; rfl; (focus (simp [Value.oneCell']; done)); (focus (simp; done)); clear hS; intro w hS; simp at hS; try simp only [putW]) | (refine alloc hS rfl rfl ?_; clear hS; intro mb w hS; simp only [putW]) | (refine box1 hS rfl rfl rfl rfl ?_; clear hS; intro mb w hS; try simp only [evW, putW] at hS; simp only [putW]) | (refine boxN hS rfl rfl rfl ?_; clear hS; intro mb w hS; simp only [putW]))
        exact bodyPost_ret (v := .int .i64 (m : Int)) (by simp [results, Tryz.results28]) rfl ⟨by rw [HD.out], hS⟩
    · have d1 : decide ((k : Int) < (l.length : Int)) = false := decide_eq_false (by omega)
      have HD : Bx (numV l = (m : Int)) := ⟨by rw [← hm.out.1, List.drop_eq_nil_of_le (by omega)]; rfl⟩
      clear hm
      go_wp2_with (first | (refine load1 hS rfl rfl rfl rfl ?_; simp only [putW]) | (refine loadAll hS rfl rfl rfl ?_ ?_; rfl; simp only [putW]) | (refine loadPart hS rfl rfl rfl ?_ rfl ?_; rfl; simp only [putW]) | (refine store1 hS rfl rfl rfl rfl rfl ?_ ?_; (focus (simp; done)); clear hS; intro w hS; simp only [evW, putW] at hS; try simp only [putW]) | (refine storeAll hS rfl rfl rfl rfl ?_ ?_ ?_ ?_; rfl; (focus (simp [Value.oneCell']; done)); rfl; clear hS; intro w hS; try simp only [putW]) | (refine storeN hS rfl rfl rfl rfl ?_ ?_ ?_ ?_; rfl; (focus (simp [Value.oneCell']; done)); (focus (simp; done)); clear hS; intro w hS; simp at hS; try simp only [putW]) | (refine alloc hS rfl rfl ?_; clear hS; intro mb w hS; simp only [putW]) | (refine box1 hS rfl rfl rfl rfl ?_; clear hS; intro mb w hS; try simp only [evW, putW] at hS; simp only [putW]) | (refine boxN hS rfl rfl rfl ?_; clear hS; intro mb w hS; simp only [putW]))
      exact bodyPost_ret (v := .int .i64 (m : Int)) (by simp [results, Tryz.results28]) rfl ⟨by rw [HD.out], hS⟩
end
end Go.Proofs.YtpbjkfomdindnaaGreatDoor
