/-
  thimbleref20.Give where the page has no slot.
-/
import Derived.Test.YthlcjefkhlfkpaaSpRef
set_option linter.unusedSimpArgs false
set_option linter.unusedVariables false
namespace Go.Proofs.Ythlcjefkhlfkpaa
open Go.RowKit Go.Proofs.Ythlcjefkhlfkpaa.Sl

section
variable {w0 w : World} {S F : List Chunk} {g cap n : Nat} {L : List Rs}
set_option maxHeartbeats 400000 in
theorem refGive_free (page : Int) (x : En) (j : Nat) (ho : ofFrom L page 0 = -1) (hj : freeFrom L 0 = j) (hlt : j < L.length) (hn : L.length = n)
    (hS : Sat w0 S w) [p : Pull S g (slc 5 Rs.l L cap 40) F] :
    Calls Try.prog 15 #[.slice (some ⟨g, 0, none⟩) n cap, .int .i64 page, .agg x.l.toArray] w fun e w' => e = .returned (.int .i64 j) ∧ Sat w0 ((g, slc 5 Rs.l (L.set j ⟨false, page, x⟩) cap 40) :: F) w' := by
  subst hn
  have hmax : L.length ≤ 9223372036854775807 := by
    have := hS.slcFacts (g := g) (n := 5) (f := Rs.l) (l := L) (cap := cap) (t := 40)
    simp only [maxLen] at this; omega
  have HO := Lib.hid ho
  have HJ := Lib.hid hj
  clear ho hj
  replace hS := hS.perm p.perm
  go_enter Try.func15, Try.ntmps15
  go_wp2_with (first | (go_at_call 12; refine (refOf_any (L := L) page rfl hS).mono ?_; rw [HO.out]; clear hS; rintro _ w ⟨rfl, hS⟩) | (refine load1 hS rfl rfl rfl rfl ?_; simp only [putW]) | (refine loadAll hS rfl rfl rfl ?_ ?_; rfl; simp only [putW]) | (refine loadPart hS rfl rfl rfl ?_ rfl ?_; rfl; simp only [putW]) | (refine store1 hS rfl rfl rfl rfl rfl ?_ ?_; (focus (simp; done)); clear hS; intro w hS; simp only [evW, putW] at hS; try simp only [putW]) | (refine storeAll hS rfl rfl rfl rfl ?_ ?_ ?_ ?_; rfl; (focus (simp [Value.oneCell']; done)); rfl; clear hS; intro w hS; try simp only [putW]) | (refine storeN hS rfl rfl rfl rfl ?_ ?_ ?_ ?_; rfl; (focus (simp [Value.oneCell']; done)); (focus (simp; done)); clear hS; intro w hS; simp at hS; try simp only [putW]) | (refine alloc hS rfl rfl ?_; clear hS; intro mb w hS; simp only [putW]) | (refine box1 hS rfl rfl rfl rfl ?_; clear hS; intro mb w hS; try simp only [evW, putW] at hS; simp only [putW]) | (refine boxN hS rfl rfl rfl ?_; clear hS; intro mb w hS; simp only [putW]))
  go_loopw [7, 8] (fun at' i wr => ∃ k : Nat, k ≤ j + 1 ∧ i = .int .i64 k ∧ (k ≤ j → at' = .int .i64 (-1) ∧ freeFrom L k = j) ∧ (j < k → at' = .int .i64 j) ∧ Sat w0 _ wr) (fun _ i _ => L.length - (intOf i).toNat)
  case atStart => exact ⟨0, by omega, rfl, fun _ => ⟨rfl, HJ.out⟩, by omega, hS⟩
  case round =>
    clear hS
    obtain ⟨k, hk, rfl, h1, h2, hS⟩ := hrel
    by_cases hkj : k ≤ j
    · obtain ⟨rfl, hf⟩ := h1 hkj
      clear h1 h2
      obtain ⟨s, hs⟩ : ∃ s, L[k]? = some s := ⟨_, List.getElem?_eq_getElem (by omega)⟩
      have Hf := Lib.hid hf
      clear hf
      have hlk : k < L.length := by omega
      obtain ⟨fr, pg, y⟩ := s
      cases fr
      · go_wp2_with (first | (refine loadS (f := Rs.l) hS rfl rfl rfl k 0 ?_ hs rfl ?_ ?_; omega; omega; simp only [putW]) | (refine load1 hS rfl rfl rfl rfl ?_; simp only [putW]) | (refine loadAll hS rfl rfl rfl ?_ ?_; rfl; simp only [putW]) | (refine loadPart hS rfl rfl rfl ?_ rfl ?_; rfl; simp only [putW]) | (refine store1 hS rfl rfl rfl rfl rfl ?_ ?_; (focus (simp; done)); clear hS; intro w hS; simp only [evW, putW] at hS; try simp only [putW]) | (refine storeAll hS rfl rfl rfl rfl ?_ ?_ ?_ ?_; rfl; (focus (simp [Value.oneCell']; done)); rfl; clear hS; intro w hS; try simp only [putW]) | (refine storeN hS rfl rfl rfl rfl ?_ ?_ ?_ ?_; rfl; (focus (simp [Value.oneCell']; done)); (focus (simp; done)); clear hS; intro w hS; simp at hS; try simp only [putW]) | (refine alloc hS rfl rfl ?_; clear hS; intro mb w hS; simp only [putW]) | (refine box1 hS rfl rfl rfl rfl ?_; clear hS; intro mb w hS; try simp only [evW, putW] at hS; simp only [putW]) | (refine boxN hS rfl rfl rfl ?_; clear hS; intro mb w hS; simp only [putW]))
        have hf2 := freeFrom_miss hs rfl
        have hne : k ≠ j := fun e => by
          have h5 := Hf.out
          rw [hf2] at h5
          unfold freeFrom at h5
          revert h5
          cases (L.drop (k + 1)).findIdx? (fun s => s.free) with
          | none => intro h; simp at h; try omega
          | some i => intro h; simp at h; try omega
        go_roundw
        case rel => exact ⟨k + 1, by omega, by go_num, fun h => ⟨rfl, by rw [← hf2]; exact Hf.out⟩, fun h => by omega, hS⟩
        case measure => simp [intOf]; omega
      · go_wp2_with (first | (refine loadS (f := Rs.l) hS rfl rfl rfl k 0 ?_ hs rfl ?_ ?_; omega; omega; simp only [putW]) | (refine load1 hS rfl rfl rfl rfl ?_; simp only [putW]) | (refine loadAll hS rfl rfl rfl ?_ ?_; rfl; simp only [putW]) | (refine loadPart hS rfl rfl rfl ?_ rfl ?_; rfl; simp only [putW]) | (refine store1 hS rfl rfl rfl rfl rfl ?_ ?_; (focus (simp; done)); clear hS; intro w hS; simp only [evW, putW] at hS; try simp only [putW]) | (refine storeAll hS rfl rfl rfl rfl ?_ ?_ ?_ ?_; rfl; (focus (simp [Value.oneCell']; done)); rfl; clear hS; intro w hS; try simp only [putW]) | (refine storeN hS rfl rfl rfl rfl ?_ ?_ ?_ ?_; rfl; (focus (simp [Value.oneCell']; done)); (focus (simp; done)); clear hS; intro w hS; simp at hS; try simp only [putW]) | (refine alloc hS rfl rfl ?_; clear hS; intro mb w hS; simp only [putW]) | (refine box1 hS rfl rfl rfl rfl ?_; clear hS; intro mb w hS; try simp only [evW, putW] at hS; simp only [putW]) | (refine boxN hS rfl rfl rfl ?_; clear hS; intro mb w hS; simp only [putW]))
        have hkk : (k : Int) = j := by rw [← freeFrom_hit hs rfl]; exact Hf.out
        go_roundw
        case rel => exact ⟨k + 1, by omega, by go_num, fun h => by omega, fun h => by rw [hkk], hS⟩
        case measure => simp [intOf]; omega
    · obtain rfl := h2 (by omega)
      clear h1 h2
      have hkk : k = j + 1 := by omega
      subst hkk
      have h0 : ¬ ((j : Int) < 0) := by omega
      by_cases hl : j + 1 < L.length
      all_goals
        go_wp2_with (first | (refine storeS (f := Rs.l) hS rfl rfl rfl j ?_ ⟨false, page, x⟩ rfl ?_ ?_ ?_ ?_ ?_; omega; rfl; (focus (simp [Rs.l, Value.oneCell']; done)); rfl; (focus (first | omega | (simp [maxLen]; done) | (simp [maxLen]; omega))); clear hS; intro w hS; try simp only [putW]) | (refine load1 hS rfl rfl rfl rfl ?_; simp only [putW]) | (refine loadAll hS rfl rfl rfl ?_ ?_; rfl; simp only [putW]) | (refine loadPart hS rfl rfl rfl ?_ rfl ?_; rfl; simp only [putW]) | (refine store1 hS rfl rfl rfl rfl rfl ?_ ?_; (focus (simp; done)); clear hS; intro w hS; simp only [evW, putW] at hS; try simp only [putW]) | (refine storeAll hS rfl rfl rfl rfl ?_ ?_ ?_ ?_; rfl; (focus (simp [Value.oneCell']; done)); rfl; clear hS; intro w hS; try simp only [putW]) | (refine storeN hS rfl rfl rfl rfl ?_ ?_ ?_ ?_; rfl; (focus (simp [Value.oneCell']; done)); (focus (simp; done)); clear hS; intro w hS; simp at hS; try simp only [putW]) | (refine alloc hS rfl rfl ?_; clear hS; intro mb w hS; simp only [putW]) | (refine box1 hS rfl rfl rfl rfl ?_; clear hS; intro mb w hS; try simp only [evW, putW] at hS; simp only [putW]) | (refine boxN hS rfl rfl rfl ?_; clear hS; intro mb w hS; simp only [putW]))
        go_ret
        exact ⟨rfl, hS.conv⟩
set_option maxHeartbeats 400000 in
theorem refGive_none (page : Int) (x : En) (ho : ofFrom L page 0 = -1) (hj : freeFrom L 0 = -1) (hn : L.length = n)
    (hS : Sat w0 S w) [p : Pull S g (slc 5 Rs.l L cap 40) F] :
    Calls Try.prog 15 #[.slice (some ⟨g, 0, none⟩) n cap, .int .i64 page, .agg x.l.toArray] w fun e w' => e = .returned (.int .i64 (-1)) ∧ Sat w0 S w' := by
  subst hn
  have hmax : L.length ≤ 9223372036854775807 := by
    have := hS.slcFacts (g := g) (n := 5) (f := Rs.l) (l := L) (cap := cap) (t := 40)
    simp only [maxLen] at this; omega
  have HO := Lib.hid ho
  have HJ := Lib.hid hj
  clear ho hj
  replace hS := hS.perm p.perm
  go_enter Try.func15, Try.ntmps15
  go_wp2_with (first | (go_at_call 12; refine (refOf_any (L := L) page rfl hS).mono ?_; rw [HO.out]; clear hS; rintro _ w ⟨rfl, hS⟩) | (refine load1 hS rfl rfl rfl rfl ?_; simp only [putW]) | (refine loadAll hS rfl rfl rfl ?_ ?_; rfl; simp only [putW]) | (refine loadPart hS rfl rfl rfl ?_ rfl ?_; rfl; simp only [putW]) | (refine store1 hS rfl rfl rfl rfl rfl ?_ ?_; (focus (simp; done)); clear hS; intro w hS; simp only [evW, putW] at hS; try simp only [putW]) | (refine storeAll hS rfl rfl rfl rfl ?_ ?_ ?_ ?_; rfl; (focus (simp [Value.oneCell']; done)); rfl; clear hS; intro w hS; try simp only [putW]) | (refine storeN hS rfl rfl rfl rfl ?_ ?_ ?_ ?_; rfl; (focus (simp [Value.oneCell']; done)); (focus (simp; done)); clear hS; intro w hS; simp at hS; try simp only [putW]) | (refine alloc hS rfl rfl ?_; clear hS; intro mb w hS; simp only [putW]) | (refine box1 hS rfl rfl rfl rfl ?_; clear hS; intro mb w hS; try simp only [evW, putW] at hS; simp only [putW]) | (refine boxN hS rfl rfl rfl ?_; clear hS; intro mb w hS; simp only [putW]))
  go_loopw [7, 8] (fun at' i wr => ∃ k : Nat, k ≤ L.length ∧ at' = .int .i64 (-1) ∧ i = .int .i64 k ∧ freeFrom L k = -1 ∧ Sat w0 _ wr) (fun _ i _ => L.length - (intOf i).toNat)
  case atStart => exact ⟨0, by omega, rfl, rfl, HJ.out, hS⟩
  case round =>
    clear hS
    obtain ⟨k, hk, rfl, rfl, hf, hS⟩ := hrel
    have Hf := Lib.hid hf
    clear hf
    by_cases hlk : k < L.length
    · obtain ⟨s, hs⟩ : ∃ s, L[k]? = some s := ⟨_, List.getElem?_eq_getElem hlk⟩
      obtain ⟨fr, pg, y⟩ := s
      cases fr
      · go_wp2_with (first | (refine loadS (f := Rs.l) hS rfl rfl rfl k 0 ?_ hs rfl ?_ ?_; omega; omega; simp only [putW]) | (refine load1 hS rfl rfl rfl rfl ?_; simp only [putW]) | (refine loadAll hS rfl rfl rfl ?_ ?_; rfl; simp only [putW]) | (refine loadPart hS rfl rfl rfl ?_ rfl ?_; rfl; simp only [putW]) | (refine store1 hS rfl rfl rfl rfl rfl ?_ ?_; (focus (simp; done)); clear hS; intro w hS; simp only [evW, putW] at hS; try simp only [putW]) | (refine storeAll hS rfl rfl rfl rfl ?_ ?_ ?_ ?_; rfl; (focus (simp [Value.oneCell']; done)); rfl; clear hS; intro w hS; try simp only [putW]) | (refine storeN hS rfl rfl rfl rfl ?_ ?_ ?_ ?_; rfl; (focus (simp [Value.oneCell']; done)); (focus (simp; done)); clear hS; intro w hS; simp at hS; try simp only [putW]) | (refine alloc hS rfl rfl ?_; clear hS; intro mb w hS; simp only [putW]) | (refine box1 hS rfl rfl rfl rfl ?_; clear hS; intro mb w hS; try simp only [evW, putW] at hS; simp only [putW]) | (refine boxN hS rfl rfl rfl ?_; clear hS; intro mb w hS; simp only [putW]))
        go_roundw
        case rel => exact ⟨k + 1, by omega, rfl, by go_num, by rw [← freeFrom_miss hs rfl]; exact Hf.out, hS⟩
        case measure => simp [intOf]; omega
      · have := freeFrom_hit hs rfl
        rw [Hf.out] at this
        omega
    · go_wp2
      go_ret
      exact ⟨rfl, (hS.tail).perm p.perm.symm⟩
end
end Go.Proofs.Ythlcjefkhlfkpaa
