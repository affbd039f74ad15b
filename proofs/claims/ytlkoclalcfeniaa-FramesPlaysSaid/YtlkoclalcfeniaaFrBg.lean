/-
  thimblelaw13.begun.
  thimbleref13.SameInts.
  FramesPlays: what alike asks of both tables, in one wording.
  FramesPlays: alike.
-/
import Derived.Test.YtlkoclalcfeniaaFrDoAll
set_option linter.unusedSimpArgs false
set_option linter.unusedVariables false
namespace Go.Proofs.Ytlkoclalcfeniaa
open Go.RowKit Go.Shelf Go.Proofs.Ytlkoclalcfeniaa.Sl Go.Proofs.Ytlkoclalcfeniaa.Jp

set_option maxRecDepth 100000 in
set_option maxHeartbeats 4000000 in
theorem begun_any {w0 : World} (n : Int) : Calls Try.prog 26 #[.int .i64 n] w0 fun e w' => ∃ t x T, e = .returned (.agg (pairC t x)) ∧ (1 ≤ T.most ∧ T.most ≤ 40) ∧ Bth w0 T t x 0 [] w' := by
  have hS := Sat.refl w0
  obtain ⟨q, hq⟩ : ∃ q, n % 40 = q := ⟨_, rfl⟩
  have HQ : Bx (n % 40 = q) := ⟨hq⟩
  have hq1 : 0 ≤ q := by omega
  have hq2 : q < 40 := by omega
  clear hq
  go_enter Try.func26, Try.ntmps26
  go_wp2_with (first | (guard_target =~ Calls _ 8 _ _ _; refine Stopped.out ?_) | (refine load1 hS rfl rfl rfl rfl ?_; simp only [putW]) | (refine loadAll hS rfl rfl rfl ?_ ?_; rfl; simp only [putW]) | (refine loadPart hS rfl rfl rfl ?_ rfl ?_; rfl; simp only [putW]) | (refine store1 hS rfl rfl rfl rfl rfl ?_ ?_; (focus (simp; done)); clear hS; intro w hS; simp only [evW, putW] at hS; try simp only [putW]) | (refine storeAll hS rfl rfl rfl rfl ?_ ?_ ?_ ?_; rfl; (focus (simp [Value.oneCell']; done)); rfl; clear hS; intro w hS; try simp only [putW]) | (refine storeN hS rfl rfl rfl rfl ?_ ?_ ?_ ?_; rfl; (focus (simp [Value.oneCell']; done)); (focus (simp; done)); clear hS; intro w hS; simp at hS; try simp only [putW]) | (refine alloc hS rfl rfl ?_; clear hS; intro mb w hS; simp only [putW]) | (refine box1 hS rfl rfl rfl rfl ?_; clear hS; intro mb w hS; try simp only [evW, putW] at hS; simp only [putW]) | (refine boxN hS rfl rfl rfl ?_; clear hS; intro mb w hS; simp only [putW]))
  refine ⟨?_⟩
  refine Calls.mono (pick_sat n 40 (by omega) (by omega) hS) ?_
  clear hS
  rw [HQ.out]
  rintro _ w ⟨rfl, hS⟩
  simp only [putW]
  go_wp2_with (first | (guard_target =~ Calls _ 9 _ _ _; refine Stopped.out ?_) | (refine load1 hS rfl rfl rfl rfl ?_; simp only [putW]) | (refine loadAll hS rfl rfl rfl ?_ ?_; rfl; simp only [putW]) | (refine loadPart hS rfl rfl rfl ?_ rfl ?_; rfl; simp only [putW]) | (refine store1 hS rfl rfl rfl rfl rfl ?_ ?_; (focus (simp; done)); clear hS; intro w hS; simp only [evW, putW] at hS; try simp only [putW]) | (refine storeAll hS rfl rfl rfl rfl ?_ ?_ ?_ ?_; rfl; (focus (simp [Value.oneCell']; done)); rfl; clear hS; intro w hS; try simp only [putW]) | (refine storeN hS rfl rfl rfl rfl ?_ ?_ ?_ ?_; rfl; (focus (simp [Value.oneCell']; done)); (focus (simp; done)); clear hS; intro w hS; simp at hS; try simp only [putW]) | (refine alloc hS rfl rfl ?_; clear hS; intro mb w hS; simp only [putW]) | (refine box1 hS rfl rfl rfl rfl ?_; clear hS; intro mb w hS; try simp only [evW, putW] at hS; simp only [putW]) | (refine boxN hS rfl rfl rfl ?_; clear hS; intro mb w hS; simp only [putW]))
  refine ⟨?_⟩
  (refine Calls.mono (tabNew_any (n := 1 + q) (by omega) (by omega)) ?_; rintro _ w2 ⟨t, T, rfl, hT, h2⟩; replace hS := hS.frame h2; clear h2; (try simp only [List.cons_append, List.nil_append] at hS); simp only [putW])
  have HTm : Bx _ := ⟨hT⟩
  clear hT
  go_wp2_with (first | (guard_target =~ Calls _ 39 _ _ _; refine Stopped.out ?_) | (refine load1 hS rfl rfl rfl rfl ?_; simp only [putW]) | (refine loadAll hS rfl rfl rfl ?_ ?_; rfl; simp only [putW]) | (refine loadPart hS rfl rfl rfl ?_ rfl ?_; rfl; simp only [putW]) | (refine store1 hS rfl rfl rfl rfl rfl ?_ ?_; (focus (simp; done)); clear hS; intro w hS; simp only [evW, putW] at hS; try simp only [putW]) | (refine storeAll hS rfl rfl rfl rfl ?_ ?_ ?_ ?_; rfl; (focus (simp [Value.oneCell']; done)); rfl; clear hS; intro w hS; try simp only [putW]) | (refine storeN hS rfl rfl rfl rfl ?_ ?_ ?_ ?_; rfl; (focus (simp [Value.oneCell']; done)); (focus (simp; done)); clear hS; intro w hS; simp at hS; try simp only [putW]) | (refine alloc hS rfl rfl ?_; clear hS; intro mb w hS; simp only [putW]) | (refine box1 hS rfl rfl rfl rfl ?_; clear hS; intro mb w hS; try simp only [evW, putW] at hS; simp only [putW]) | (refine boxN hS rfl rfl rfl ?_; clear hS; intro mb w hS; simp only [putW]))
  refine ⟨?_⟩
  (refine Calls.mono (refNew13 (n := 1 + q) (by omega) (by omega)) ?_; rintro _ w2 ⟨x, rfl, h2⟩; replace hS := hS.frame h2; clear h2; (try simp only [List.cons_append, List.nil_append] at hS); simp only [putW])
  go_wp2_with (first | (refine load1 hS rfl rfl rfl rfl ?_; simp only [putW]) | (refine loadAll hS rfl rfl rfl ?_ ?_; rfl; simp only [putW]) | (refine loadPart hS rfl rfl rfl ?_ rfl ?_; rfl; simp only [putW]) | (refine store1 hS rfl rfl rfl rfl rfl ?_ ?_; (focus (simp; done)); clear hS; intro w hS; simp only [evW, putW] at hS; try simp only [putW]) | (refine storeAll hS rfl rfl rfl rfl ?_ ?_ ?_ ?_; rfl; (focus (simp [Value.oneCell']; done)); rfl; clear hS; intro w hS; try simp only [putW]) | (refine storeN hS rfl rfl rfl rfl ?_ ?_ ?_ ?_; rfl; (focus (simp [Value.oneCell']; done)); (focus (simp; done)); clear hS; intro w hS; simp at hS; try simp only [putW]) | (refine alloc hS rfl rfl ?_; clear hS; intro mb w hS; simp only [putW]) | (refine box1 hS rfl rfl rfl rfl ?_; clear hS; intro mb w hS; try simp only [evW, putW] at hS; simp only [putW]) | (refine boxN hS rfl rfl rfl ?_; clear hS; intro mb w hS; simp only [putW]))
  have h7 := hS
  have hl := run_loadAll (P := Try.prog) (w := w) (c := pairC t x) (tb := 55) hS mb 55 rfl
  refine bodyPost_ret (v := .agg (pairC t x)) (by simp [results, Try.results26, asAddr, hl]) rfl ⟨t, x, T, rfl, by rw [HTm.out]; omega, ?_⟩
  have hT := HTm.out
  have h9 := ofLow (PL := []) (b := T.pm) h7
  refine ⟨[], [], [], 0, [], ⟨1 + q, [], [], [], 0, []⟩, ⟨?_, by intro k hk; simp [mkeys] at hk⟩, h9.conv⟩
  rw [hT]
  exact Tie13.start (by omega) (by omega)
end Go.Proofs.Ytlkoclalcfeniaa
namespace Go.Proofs.Ytlkoclalcfeniaa
open Go.RowKit Go.Proofs.Ytlkoclalcfeniaa.Sl Go.Proofs.Ytlkoclalcfeniaa.Jp

set_option maxHeartbeats 400000 in
theorem sameInts13 {w : World} {A B : List Int} {va vb : Value} (ha : RI w A va) (hb : RI w B vb) : Calls Try.prog 50 #[va, vb] w fun e w' => e = .returned (.bool (decide (A = B))) ∧ Sat w [] w' := by
  have hS := Sat.refl w
  obtain ⟨pa, ca, rfl, hla, hata⟩ := ha.at
  obtain ⟨pb, cb, rfl, hlb, hatb⟩ := hb.at
  by_cases hl : A.length = B.length
  · have HL : Hid (A.length = B.length) := hl
    rw [← hl]
    clear hl ha hb
    go_enter Try.func50, Try.ntmps50
    go_wp2
    go_loopw [5] (fun i wr => ∃ k : Nat, k ≤ A.length ∧ i = .int .i64 k ∧ Sat w [] wr ∧ Hid (A.take k = B.take k)) (fun i _ => A.length - (intOf i).toNat)
    case atStart => exact ⟨0, Nat.zero_le _, rfl, hS, rfl⟩
    case round =>
      clear hS
      obtain ⟨k, hk, rfl, hS, hinv⟩ := hrel
      by_cases hlt : k < A.length
      · have hlb' : k < B.length := by have := HL.out; omega
        obtain ⟨x, hx⟩ : ∃ x, A[k]? = some x := ⟨_, List.getElem?_eq_getElem hlt⟩
        obtain ⟨y, hy⟩ : ∃ y, B[k]? = some y := ⟨_, List.getElem?_eq_getElem hlb'⟩
        obtain ⟨ba, oa, rfl, hBa⟩ := hata (by intro e; subst e; simp at hlt)
        obtain ⟨bb, ob, rfl, hBb⟩ := hatb (by intro e; subst e; simp at hlb')
        have hiff := take_succ_eq hx hy hinv.out
        have Hiff : Hid ((A.take (k + 1) = B.take (k + 1)) ↔ x = y) := hiff
        clear hiff
        by_cases hxy : x = y
        · subst hxy
          go_wp2
          (refine region_quiet hS (by kernel_rfl) (by kernel_rfl) (by kernel_rfl) ?_; clear hS; (repeat (apply quiet_step; (focus (intro w hS; go_wp2_with (first | (refine loadB (f := i64) hS rfl rfl rfl hBa k 0 ?_ hx rfl ?_; omega; simp only [putW]) | (refine loadB (f := i64) hS rfl rfl rfl hBb k 0 ?_ hy rfl ?_; omega; simp only [putW]) | (refine load1 hS rfl rfl rfl rfl ?_; simp only [putW]) | (refine loadAll hS rfl rfl rfl ?_ ?_; rfl; simp only [putW]) | (refine loadPart hS rfl rfl rfl ?_ rfl ?_; rfl; simp only [putW])); exact ⟨rfl, rfl, hS⟩)); simp only [putW])); refine quiet_nil ?_; intro w hS)
          go_wp2
          go_roundw
          case rel => exact ⟨k + 1, by omega, by go_num, hS, Hiff.out.2 (by trivial)⟩
          case measure => simp [intOf]; omega
        · go_wp2
          (refine region_quiet hS (by kernel_rfl) (by kernel_rfl) (by kernel_rfl) ?_; clear hS; (repeat (apply quiet_step; (focus (intro w hS; go_wp2_with (first | (refine loadB (f := i64) hS rfl rfl rfl hBa k 0 ?_ hx rfl ?_; omega; simp only [putW]) | (refine loadB (f := i64) hS rfl rfl rfl hBb k 0 ?_ hy rfl ?_; omega; simp only [putW]) | (refine load1 hS rfl rfl rfl rfl ?_; simp only [putW]) | (refine loadAll hS rfl rfl rfl ?_ ?_; rfl; simp only [putW]) | (refine loadPart hS rfl rfl rfl ?_ rfl ?_; rfl; simp only [putW])); exact ⟨rfl, rfl, hS⟩)); simp only [putW])); refine quiet_nil ?_; intro w hS)
          go_wp2
          go_ret
          refine ⟨?_, hS⟩
          have : ¬ A = B := fun e => hxy (Hiff.out.1 (by rw [e]))
          simp [this]
      · go_wp2
        go_ret
        refine ⟨?_, hS⟩
        have h1 := hinv.out
        rw [List.take_of_length_le (by omega), List.take_of_length_le (by have := HL.out; omega)] at h1
        simp [h1]
  · have hne : ¬ A = B := fun e => hl (by rw [e])
    go_enter Try.func50, Try.ntmps50
    go_wp2
    go_ret
    exact ⟨by simp [hne], hS⟩

end Go.Proofs.Ytlkoclalcfeniaa
namespace Go.Proofs.Ytlkoclalcfeniaa
open Go.RowKit Go.Shelf Go.Proofs.Ytlkoclalcfeniaa.Sl Go.Proofs.Ytlkoclalcfeniaa.Jp

section
variable {w0 w : World} {K : List Chunk} {t x i : Nat} {T : Tb} {FL : Frs} {PW : PinsW} {SL : Shs} {now : Nat} {sp : Spots} {X : X13} {key : Int}
theorem vic_tie (h : Tie13 FL PW SL now sp T.most X i) (hi : i ≤ 200) (hS : Sat w0 (codeL T t FL PW SL now sp K) w) : Calls Try.prog 13 #[.pointer (some ⟨t, 0, none⟩)] w fun e w' => e = .returned (.tuple #[.int .i64 (vicX X).1, .int .i64 (vicX X).2]) ∧ Sat w0 (codeL T t FL PW SL now sp K) w' := by
  by_cases hm : (FL.length : Int) < T.most
  · refine Calls.mono (victim_room (T := T) (FL := FL) (K := (7, frC FL) :: (T.pm, mapC encW uV PW) :: (T.sm, mapC encInt (Value.int .i64) SL) :: (T.hp, HeatC now sp) :: K) hm hS.conv) ?_
    rintro _ w' ⟨rfl, h2⟩
    have hv : vicX X = (0, 5) := by
      unfold vicX
      rw [h.len, h.most, if_pos hm]
    rw [hv]
    exact ⟨rfl, h2.conv⟩
  · have h9 := toLow (b := T.pm) (PL := PW) hS
    refine Calls.mono (victim_any (T := T) (FL := FL) (PL := low PW) (now := now) (sp := sp) (K := (7, frC FL) :: (T.sm, mapC encInt (Value.int .i64) SL) :: K) (by have := h.fl; have := h.m1.2; omega) hm (by have := h.nb; omega) h.so h9.conv) ?_
    rintro _ w' ⟨⟨L, hL, h3⟩, h4⟩
    have h5 := (ofLow (b := T.pm) (PL := PW) h4).conv (S' := codeL T t FL PW SL now sp K)
    rcases h3 with ⟨hn, rfl⟩ | ⟨k, bh, hne, hc, rfl⟩
    · rw [h.victim_none hm hL hn]
      exact ⟨rfl, h5⟩
    · rw [h.victim hm hL hne hc]
      exact ⟨rfl, h5⟩
theorem rvic_tie (h : Tie13 FL PW SL now sp T.most X i) (hi : i ≤ 200) (hS : Sat w0 ((x, X13C X) :: K) w) : Calls Try.prog 48 #[.pointer (some ⟨x, 0, none⟩)] w fun e w' => e = .returned (.tuple #[.int .i64 (vicX X).1, .int .i64 (vicX X).2]) ∧ Sat w0 ((x, X13C X) :: K) w' :=
  refVictim_any (by rw [h.nw]; exact h.sn) (by rw [h.nw]; have := h.nb; omega) (by rw [h.len]; have := h.fl; have := h.m1.2; omega) hS
theorem keys_tie (h : Tie13 FL PW SL now sp T.most X i ∧ ∀ k ∈ mkeys FL, okI k) (hS : Sat w0 (codeL T t FL PW SL now sp K) w) : Calls Try.prog 21 #[.pointer (some ⟨t, 0, none⟩)] w fun e w' => ∃ v, e = .returned v ∧ Sat w0 ((blk v, sl 1 i64 (sortI (mkeys FL)) 3 v) :: codeL T t FL PW SL now sp K) w' := by
  refine Calls.mono (keys_any (T := T) (FL := FL) (K := (7, frC FL) :: (T.pm, mapC encW uV PW) :: (T.sm, mapC encInt (Value.int .i64) SL) :: (T.hp, HeatC now sp) :: K) (fun k hk => wfI (h.2 k hk)) (by have := h.1.fl; have := h.1.m1.2; omega) hS.conv) ?_
  rintro _ w' ⟨v, rfl, h2⟩
  exact ⟨v, rfl, h2.conv⟩
theorem rkeys_tie (h : Tie13 FL PW SL now sp T.most X i) (hS : Sat w0 ((x, X13C X) :: K) w) : Calls Try.prog 51 #[.pointer (some ⟨x, 0, none⟩)] w fun e w' => ∃ v, e = .returned v ∧ Sat w0 ((blk v, sl 1 i64 (sortI (mkeys FL)) 3 v) :: (x, X13C X) :: K) w' := by
  rw [sortI_of_perm h.keys]
  exact refKeys_any (by rw [h.len]; have := h.fl; have := h.m1.2; omega) hS
theorem left_tie (h : Tie13 FL PW SL now sp T.most X i) (hS : Sat w0 (codeL T t FL PW SL now sp K) w) : Calls Try.prog 20 #[.pointer (some ⟨t, 0, none⟩)] w fun e w' => e = .returned (.int .i64 (T.most - sumS SL)) ∧ Sat w0 (codeL T t FL PW SL now sp K) w' := by
  refine Calls.mono (left_any (T := T) (SL := SL) (K := (T.fm, mapC encInt frV FL) :: (7, frC FL) :: (T.pm, mapC encW uV PW) :: (T.hp, HeatC now sp) :: K) (fun p hp => by have := h.s1 p hp; omega) h.ss (by have := h.m1.2; omega) hS.conv) ?_
  rintro _ w' ⟨rfl, h2⟩
  exact ⟨rfl, h2.conv⟩
theorem rleft_tie (h : Tie13 FL PW SL now sp T.most X i) (hS : Sat w0 ((x, X13C X) :: K) w) : Calls Try.prog 49 #[.pointer (some ⟨x, 0, none⟩)] w fun e w' => e = .returned (.int .i64 (T.most - sumS SL)) ∧ Sat w0 ((x, X13C X) :: K) w' := by
  rw [sum_perm h.sh, ← h.most]
  exact refLeft_any (fun p hp => by have := h.s1 p (h.sh.symm.subset hp); omega) (by rw [← sum_perm h.sh, h.most]; exact h.ss) (by rw [h.most]; have := h.m1.2; omega) hS
theorem written_tie {e : Fx} (h : Tie13 FL PW SL now sp T.most X i) (he : e ∈ X.l) (hS : Sat w0 (codeL T t FL PW SL now sp K) w) : Calls Try.prog 25 #[.pointer (some ⟨t, 0, none⟩), .int .i64 e.1] w fun r w' => r = .returned (.bool e.2.2.2) ∧ Sat w0 (codeL T t FL PW SL now sp K) w' := by
  have hf := h.fr e.1
  rw [fxAt_mem h.nx he] at hf
  cases hg : mget FL e.1 with
  | none =>
    rw [hg] at hf
    cases hf
  | some f =>
    rw [hg] at hf
    have hf2 : (f.2.2.1, f.2.2.2) = (e.2.2.1, e.2.2.2) := Option.some.inj hf
    have hw : f.2.2.2 = e.2.2.2 := congrArg Prod.snd hf2
    refine Calls.mono (written_some (T := T) (FL := FL) (K := (T.pm, mapC encW uV PW) :: (T.sm, mapC encInt (Value.int .i64) SL) :: (T.hp, HeatC now sp) :: K) hg h.fo hS.conv) ?_
    rintro _ w' ⟨rfl, h2⟩
    rw [hw]
    exact ⟨rfl, h2.conv⟩
theorem pinned_tie (h : Tie13 FL PW SL now sp T.most X i) (hS : Sat w0 (codeL T t FL PW SL now sp K) w) : Calls Try.prog 16 #[.pointer (some ⟨t, 0, none⟩), .int .i64 key] w fun r w' => r = .returned (.bool (pinX X.pins key)) ∧ Sat w0 (codeL T t FL PW SL now sp K) w' := by
  have h9 := toLow (b := T.pm) (PL := PW) hS
  refine Calls.mono (pinned_any (T := T) (PL := low PW) (key := key) (K := (T.fm, mapC encInt frV FL) :: (7, frC FL) :: (T.sm, mapC encInt (Value.int .i64) SL) :: (T.hp, HeatC now sp) :: K) h9.conv) ?_
  rintro _ w' ⟨rfl, h4⟩
  rw [h.pinned]
  exact ⟨rfl, (ofLow (b := T.pm) (PL := PW) h4).conv⟩
end
end Go.Proofs.Ytlkoclalcfeniaa
namespace Go.Proofs.Ytlkoclalcfeniaa
open Go.RowKit Go.Shelf Go.Proofs.Ytlkoclalcfeniaa.Sl Go.Proofs.Ytlkoclalcfeniaa.Jp

set_option maxRecDepth 100000 in
set_option maxHeartbeats 8000000 in
theorem alike_any {w0 w : World} {K : List Chunk} {t x i : Nat} {T : Tb} (hi : i ≤ 200) (hb : Bth w0 T t x i K w) : Calls Try.prog 28 #[.agg (pairC t x)] w fun e w' => e = .returned (.bool true) ∧ Bth w0 T t x i K w' := by
  obtain ⟨FL, PW, SL, now, sp, X, h, hS⟩ := hb
  have HT : Bx _ := ⟨h⟩
  obtain ⟨KL, hKL⟩ : ∃ L, sortI (mkeys FL) = L := ⟨_, rfl⟩
  have HK : Bx (sortI (mkeys FL) = KL) := ⟨hKL⟩
  obtain ⟨lf, hlf⟩ : ∃ L, T.most - sumS SL = L := ⟨_, rfl⟩
  have HL : Bx (T.most - sumS SL = lf) := ⟨hlf⟩
  obtain ⟨vk, ve, hv⟩ : ∃ a b, vicX X = (a, b) := ⟨_, _, rfl⟩
  have HV : Bx ((vicX X).1 = vk ∧ (vicX X).2 = ve) := ⟨by rw [hv], by rw [hv]⟩
  obtain ⟨nX, hnX⟩ : ∃ n, X.l.length = n := ⟨_, rfl⟩
  have HX : Bx (X.l.length = nX) := ⟨hnX⟩
  obtain ⟨nK, hnK⟩ : ∃ n, KL.length = n := ⟨_, rfl⟩
  have HnK : Bx (KL.length = nK) := ⟨hnK⟩
  have hbX : nX ≤ 1000 := by rw [← hnX, h.1.len]; have := h.1.fl; have := h.1.m1.2; omega
  have hbK : nK ≤ 1000 := by
    rw [← hnK, ← hKL]
    unfold sortI
    rw [List.length_mergeSort, length_mkeys]
    have := h.1.fl; have := h.1.m1.2; omega
  clear h hKL hlf hv hnX hnK
  go_enter Try.func28, Try.ntmps28
  go_wp2_with (first | (refine boxN (cs := pairC t x) hS rfl rfl rfl ?_; clear hS; intro bp w hS; simp only [putW]) | (guard_target =~ Calls _ 13 _ _ _; refine Stopped.out ?_) | (refine load1 hS rfl rfl rfl rfl ?_; simp only [putW]) | (refine loadAll hS rfl rfl rfl ?_ ?_; rfl; simp only [putW]) | (refine loadPart hS rfl rfl rfl ?_ rfl ?_; rfl; simp only [putW]) | (refine store1 hS rfl rfl rfl rfl rfl ?_ ?_; (focus (simp; done)); clear hS; intro w hS; simp only [evW, putW] at hS; try simp only [putW]) | (refine storeAll hS rfl rfl rfl rfl ?_ ?_ ?_ ?_; rfl; (focus (simp [Value.oneCell']; done)); rfl; clear hS; intro w hS; try simp only [putW]) | (refine storeN hS rfl rfl rfl rfl ?_ ?_ ?_ ?_; rfl; (focus (simp [Value.oneCell']; done)); (focus (simp; done)); clear hS; intro w hS; simp at hS; try simp only [putW]) | (refine alloc hS rfl rfl ?_; clear hS; intro mb w hS; simp only [putW]) | (refine box1 hS rfl rfl rfl rfl ?_; clear hS; intro mb w hS; try simp only [evW, putW] at hS; simp only [putW]) | (refine boxN hS rfl rfl rfl ?_; clear hS; intro mb w hS; simp only [putW]))
  refine ⟨?_⟩
  refine Calls.mono (vic_tie (K := (x, X13C X) :: (bp, cells (pairC t x) 55) :: K) HT.out.1 hi hS.conv) ?_
  rw [HV.out.1, HV.out.2]
  clear hS
  rintro _ w ⟨rfl, hS⟩
  simp only [putW]
  go_wp2_with (first | (guard_target =~ Calls _ 48 _ _ _; refine Stopped.out ?_) | (refine load1 hS rfl rfl rfl rfl ?_; simp only [putW]) | (refine loadAll hS rfl rfl rfl ?_ ?_; rfl; simp only [putW]) | (refine loadPart hS rfl rfl rfl ?_ rfl ?_; rfl; simp only [putW]) | (refine store1 hS rfl rfl rfl rfl rfl ?_ ?_; (focus (simp; done)); clear hS; intro w hS; simp only [evW, putW] at hS; try simp only [putW]) | (refine storeAll hS rfl rfl rfl rfl ?_ ?_ ?_ ?_; rfl; (focus (simp [Value.oneCell']; done)); rfl; clear hS; intro w hS; try simp only [putW]) | (refine storeN hS rfl rfl rfl rfl ?_ ?_ ?_ ?_; rfl; (focus (simp [Value.oneCell']; done)); (focus (simp; done)); clear hS; intro w hS; simp at hS; try simp only [putW]) | (refine alloc hS rfl rfl ?_; clear hS; intro mb w hS; simp only [putW]) | (refine box1 hS rfl rfl rfl rfl ?_; clear hS; intro mb w hS; try simp only [evW, putW] at hS; simp only [putW]) | (refine boxN hS rfl rfl rfl ?_; clear hS; intro mb w hS; simp only [putW]))
  refine ⟨?_⟩
  refine Calls.mono (rvic_tie (X := X) (K := codeL T t FL PW SL now sp ((bp, cells (pairC t x) 55) :: K)) HT.out.1 hi hS.conv) ?_
  rw [HV.out.1, HV.out.2]
  clear hS
  rintro _ w ⟨rfl, hS⟩
  simp only [putW]
  go_wp2_with (first | (guard_target =~ Calls _ 21 _ _ _; refine Stopped.out ?_) | (refine load1 hS rfl rfl rfl rfl ?_; simp only [putW]) | (refine loadAll hS rfl rfl rfl ?_ ?_; rfl; simp only [putW]) | (refine loadPart hS rfl rfl rfl ?_ rfl ?_; rfl; simp only [putW]) | (refine store1 hS rfl rfl rfl rfl rfl ?_ ?_; (focus (simp; done)); clear hS; intro w hS; simp only [evW, putW] at hS; try simp only [putW]) | (refine storeAll hS rfl rfl rfl rfl ?_ ?_ ?_ ?_; rfl; (focus (simp [Value.oneCell']; done)); rfl; clear hS; intro w hS; try simp only [putW]) | (refine storeN hS rfl rfl rfl rfl ?_ ?_ ?_ ?_; rfl; (focus (simp [Value.oneCell']; done)); (focus (simp; done)); clear hS; intro w hS; simp at hS; try simp only [putW]) | (refine alloc hS rfl rfl ?_; clear hS; intro mb w hS; simp only [putW]) | (refine box1 hS rfl rfl rfl rfl ?_; clear hS; intro mb w hS; try simp only [evW, putW] at hS; simp only [putW]) | (refine boxN hS rfl rfl rfl ?_; clear hS; intro mb w hS; simp only [putW]))
  refine ⟨?_⟩
  refine Calls.mono (keys_tie (K := (x, X13C X) :: (bp, cells (pairC t x) 55) :: K) HT.out hS.conv) ?_
  rw [HK.out]
  clear hS
  rintro _ w ⟨v1, rfl, hS⟩
  obtain ⟨q1, c1, hs1⟩ := shapeN hS HnK.out
  subst hs1
  simp only [putW]
  go_upto_region 4 with (first | (refine load1 hS rfl rfl rfl rfl ?_; simp only [putW]) | (refine loadAll hS rfl rfl rfl ?_ ?_; rfl; simp only [putW]) | (refine loadPart hS rfl rfl rfl ?_ rfl ?_; rfl; simp only [putW]) | (refine store1 hS rfl rfl rfl rfl rfl ?_ ?_; (focus (simp; done)); clear hS; intro w hS; simp only [evW, putW] at hS; try simp only [putW]) | (refine storeAll hS rfl rfl rfl rfl ?_ ?_ ?_ ?_; rfl; (focus (simp [Value.oneCell']; done)); rfl; clear hS; intro w hS; try simp only [putW]) | (refine storeN hS rfl rfl rfl rfl ?_ ?_ ?_ ?_; rfl; (focus (simp [Value.oneCell']; done)); (focus (simp; done)); clear hS; intro w hS; simp at hS; try simp only [putW]) | (refine alloc hS rfl rfl ?_; clear hS; intro mb w hS; simp only [putW]) | (refine box1 hS rfl rfl rfl rfl ?_; clear hS; intro mb w hS; try simp only [evW, putW] at hS; simp only [putW]) | (refine boxN hS rfl rfl rfl ?_; clear hS; intro mb w hS; simp only [putW]))
  (refine wp_region_held (S := fun w' => Sat w0 ((bp, cells (pairC t x) 55) :: K) w') (by kernel_rfl) ?_; replace hS := hS.drew; (first | (refine takeIf (i := 0) rfl (by kernel_rfl) (fun _ _ _ h => h) (yMove rfl rfl rfl) hS.conv ?_; simp only [evW, putW]) | (refine takeIf (i := 0) rfl (by kernel_rfl) (fun _ _ _ h => h) (yLoad1 (fun _ h => h) rfl rfl rfl rfl) hS.conv ?_; simp only [putW]) | (refine takeIf (i := 0) rfl (by kernel_rfl) (fun _ _ _ h => h) (yLoadAll (fun _ h => h) rfl rfl rfl rfl) hS.conv ?_; simp only [putW]) | (apply takeIf (i := 0) rfl (by kernel_rfl) (fun _ _ _ h => h); (focus (apply yRun rfl; intro w; first | (go_simp; done) | (go_simp; rfl))); (focus (exact hS.conv)); simp only [putW])); (first | (refine takeIf (i := 1) rfl (by kernel_rfl) (fun _ _ _ h => h) (yMove rfl rfl rfl) hS.conv ?_; simp only [evW, putW]) | (refine takeIf (i := 1) rfl (by kernel_rfl) (fun _ _ _ h => h) (yLoad1 (fun _ h => h) rfl rfl rfl rfl) hS.conv ?_; simp only [putW]) | (refine takeIf (i := 1) rfl (by kernel_rfl) (fun _ _ _ h => h) (yLoadAll (fun _ h => h) rfl rfl rfl rfl) hS.conv ?_; simp only [putW]) | (apply takeIf (i := 1) rfl (by kernel_rfl) (fun _ _ _ h => h); (focus (apply yRun rfl; intro w; first | (go_simp; done) | (go_simp; rfl))); (focus (exact hS.conv)); simp only [putW])); (first | (refine takeIf (i := 2) rfl (by kernel_rfl) (fun _ _ _ h => h) (yMove rfl rfl rfl) hS.conv ?_; simp only [evW, putW]) | (refine takeIf (i := 2) rfl (by kernel_rfl) (fun _ _ _ h => h) (yLoad1 (fun _ h => h) rfl rfl rfl rfl) hS.conv ?_; simp only [putW]) | (refine takeIf (i := 2) rfl (by kernel_rfl) (fun _ _ _ h => h) (yLoadAll (fun _ h => h) rfl rfl rfl rfl) hS.conv ?_; simp only [putW]) | (apply takeIf (i := 2) rfl (by kernel_rfl) (fun _ _ _ h => h); (focus (apply yRun rfl; intro w; first | (go_simp; done) | (go_simp; rfl))); (focus (exact hS.conv)); simp only [putW])); (first | (refine takeIf (i := 3) rfl (by kernel_rfl) (fun _ _ _ h => h) (yMove rfl rfl rfl) hS.conv ?_; simp only [evW, putW]) | (refine takeIf (i := 3) rfl (by kernel_rfl) (fun _ _ _ h => h) (yLoad1 (fun _ h => h) rfl rfl rfl rfl) hS.conv ?_; simp only [putW]) | (refine takeIf (i := 3) rfl (by kernel_rfl) (fun _ _ _ h => h) (yLoadAll (fun _ h => h) rfl rfl rfl rfl) hS.conv ?_; simp only [putW]) | (apply takeIf (i := 3) rfl (by kernel_rfl) (fun _ _ _ h => h); (focus (apply yRun rfl; intro w; first | (go_simp; done) | (go_simp; rfl))); (focus (exact hS.conv)); simp only [putW])); (first | (refine takeIf (i := 4) rfl (by kernel_rfl) (fun _ _ _ h => h) (yMove rfl rfl rfl) hS.conv ?_; simp only [evW, putW]) | (refine takeIf (i := 4) rfl (by kernel_rfl) (fun _ _ _ h => h) (yLoad1 (fun _ h => h) rfl rfl rfl rfl) hS.conv ?_; simp only [putW]) | (refine takeIf (i := 4) rfl (by kernel_rfl) (fun _ _ _ h => h) (yLoadAll (fun _ h => h) rfl rfl rfl rfl) hS.conv ?_; simp only [putW]) | (apply takeIf (i := 4) rfl (by kernel_rfl) (fun _ _ _ h => h); (focus (apply yRun rfl; intro w; first | (go_simp; done) | (go_simp; rfl))); (focus (exact hS.conv)); simp only [putW])); (first | (refine takeIf (i := 5) rfl (by kernel_rfl) (fun _ _ _ h => h) (yMove rfl rfl rfl) hS.conv ?_; simp only [evW, putW]) | (refine takeIf (i := 5) rfl (by kernel_rfl) (fun _ _ _ h => h) (yLoad1 (fun _ h => h) rfl rfl rfl rfl) hS.conv ?_; simp only [putW]) | (refine takeIf (i := 5) rfl (by kernel_rfl) (fun _ _ _ h => h) (yLoadAll (fun _ h => h) rfl rfl rfl rfl) hS.conv ?_; simp only [putW]) | (apply takeIf (i := 5) rfl (by kernel_rfl) (fun _ _ _ h => h); (focus (apply yRun rfl; intro w; first | (go_simp; done) | (go_simp; rfl))); (focus (exact hS.conv)); simp only [putW])); (first | (refine takeIf (i := 6) rfl (by kernel_rfl) (fun _ _ _ h => h) (yMove rfl rfl rfl) hS.conv ?_; simp only [evW, putW]) | (refine takeIf (i := 6) rfl (by kernel_rfl) (fun _ _ _ h => h) (yLoad1 (fun _ h => h) rfl rfl rfl rfl) hS.conv ?_; simp only [putW]) | (refine takeIf (i := 6) rfl (by kernel_rfl) (fun _ _ _ h => h) (yLoadAll (fun _ h => h) rfl rfl rfl rfl) hS.conv ?_; simp only [putW]) | (apply takeIf (i := 6) rfl (by kernel_rfl) (fun _ _ _ h => h); (focus (apply yRun rfl; intro w; first | (go_simp; done) | (go_simp; rfl))); (focus (exact hS.conv)); simp only [putW])); (first | (refine takeIf (i := 7) rfl (by kernel_rfl) (fun _ _ _ h => h) (yMove rfl rfl rfl) hS.conv ?_; simp only [evW, putW]) | (refine takeIf (i := 7) rfl (by kernel_rfl) (fun _ _ _ h => h) (yLoad1 (fun _ h => h) rfl rfl rfl rfl) hS.conv ?_; simp only [putW]) | (refine takeIf (i := 7) rfl (by kernel_rfl) (fun _ _ _ h => h) (yLoadAll (fun _ h => h) rfl rfl rfl rfl) hS.conv ?_; simp only [putW]) | (apply takeIf (i := 7) rfl (by kernel_rfl) (fun _ _ _ h => h); (focus (apply yRun rfl; intro w; first | (go_simp; done) | (go_simp; rfl))); (focus (exact hS.conv)); simp only [putW])); (first | (refine takeIf (i := 8) rfl (by kernel_rfl) (fun _ _ _ h => h) (yMove rfl rfl rfl) hS.conv ?_; simp only [evW, putW]) | (refine takeIf (i := 8) rfl (by kernel_rfl) (fun _ _ _ h => h) (yLoad1 (fun _ h => h) rfl rfl rfl rfl) hS.conv ?_; simp only [putW]) | (refine takeIf (i := 8) rfl (by kernel_rfl) (fun _ _ _ h => h) (yLoadAll (fun _ h => h) rfl rfl rfl rfl) hS.conv ?_; simp only [putW]) | (apply takeIf (i := 8) rfl (by kernel_rfl) (fun _ _ _ h => h); (focus (apply yRun rfl; intro w; first | (go_simp; done) | (go_simp; rfl))); (focus (exact hS.conv)); simp only [putW])); (first | (refine takeIf (i := 9) rfl (by kernel_rfl) (fun _ _ _ h => h) (yMove rfl rfl rfl) hS.conv ?_; simp only [evW, putW]) | (refine takeIf (i := 9) rfl (by kernel_rfl) (fun _ _ _ h => h) (yLoad1 (fun _ h => h) rfl rfl rfl rfl) hS.conv ?_; simp only [putW]) | (refine takeIf (i := 9) rfl (by kernel_rfl) (fun _ _ _ h => h) (yLoadAll (fun _ h => h) rfl rfl rfl rfl) hS.conv ?_; simp only [putW]) | (apply takeIf (i := 9) rfl (by kernel_rfl) (fun _ _ _ h => h); (focus (apply yRun rfl; intro w; first | (go_simp; done) | (go_simp; rfl))); (focus (exact hS.conv)); simp only [putW])); (first | (refine takeIf (i := 10) rfl (by kernel_rfl) (fun _ _ _ h => h) (yMove rfl rfl rfl) hS.conv ?_; simp only [evW, putW]) | (refine takeIf (i := 10) rfl (by kernel_rfl) (fun _ _ _ h => h) (yLoad1 (fun _ h => h) rfl rfl rfl rfl) hS.conv ?_; simp only [putW]) | (refine takeIf (i := 10) rfl (by kernel_rfl) (fun _ _ _ h => h) (yLoadAll (fun _ h => h) rfl rfl rfl rfl) hS.conv ?_; simp only [putW]) | (apply takeIf (i := 10) rfl (by kernel_rfl) (fun _ _ _ h => h); (focus (apply yRun rfl; intro w; first | (go_simp; done) | (go_simp; rfl))); (focus (exact hS.conv)); simp only [putW])); (first | (refine takeIf (i := 12) rfl (by kernel_rfl) (fun _ _ _ h => h) (yMove rfl rfl rfl) hS.conv ?_; simp only [evW, putW]) | (refine takeIf (i := 12) rfl (by kernel_rfl) (fun _ _ _ h => h) (yLoad1 (fun _ h => h) rfl rfl rfl rfl) hS.conv ?_; simp only [putW]) | (refine takeIf (i := 12) rfl (by kernel_rfl) (fun _ _ _ h => h) (yLoadAll (fun _ h => h) rfl rfl rfl rfl) hS.conv ?_; simp only [putW]) | (apply takeIf (i := 12) rfl (by kernel_rfl) (fun _ _ _ h => h); (focus (apply yRun rfl; intro w; first | (go_simp; done) | (go_simp; rfl))); (focus (exact hS.conv)); simp only [putW])); (first | (refine takeIf (i := 13) rfl (by kernel_rfl) (fun _ _ _ h => h) (yMove rfl rfl rfl) hS.conv ?_; simp only [evW, putW]) | (refine takeIf (i := 13) rfl (by kernel_rfl) (fun _ _ _ h => h) (yLoad1 (fun _ h => h) rfl rfl rfl rfl) hS.conv ?_; simp only [putW]) | (refine takeIf (i := 13) rfl (by kernel_rfl) (fun _ _ _ h => h) (yLoadAll (fun _ h => h) rfl rfl rfl rfl) hS.conv ?_; simp only [putW]) | (apply takeIf (i := 13) rfl (by kernel_rfl) (fun _ _ _ h => h); (focus (apply yRun rfl; intro w; first | (go_simp; done) | (go_simp; rfl))); (focus (exact hS.conv)); simp only [putW])); refine wpAnyH_all (rs := [11]) (by kernel_rfl) (by simp) ?_; intro i hi; simp only [List.mem_cons, List.not_mem_nil, or_false] at hi; subst hi; refine wpOp_of_list rfl ?_; go_wp2_with (first | (go_at_call 20; refine Calls.mono (left_tie (K := (x, X13C X) :: (bp, cells (pairC t x) 55) :: (blk (.slice q1 nK c1), sl 1 i64 KL 3 (.slice q1 nK c1)) :: K) HT.out.1 hS.conv) ?_; rw [HL.out]; clear hS; rintro _ w ⟨rfl, hS⟩; simp only [putW]) | (refine load1 hS rfl rfl rfl rfl ?_; simp only [putW]) | (refine loadAll hS rfl rfl rfl ?_ ?_; rfl; simp only [putW]) | (refine loadPart hS rfl rfl rfl ?_ rfl ?_; rfl; simp only [putW]) | (refine store1 hS rfl rfl rfl rfl rfl ?_ ?_; (focus (simp; done)); clear hS; intro w hS; simp only [evW, putW] at hS; try simp only [putW]) | (refine storeAll hS rfl rfl rfl rfl ?_ ?_ ?_ ?_; rfl; (focus (simp [Value.oneCell']; done)); rfl; clear hS; intro w hS; try simp only [putW]) | (refine storeN hS rfl rfl rfl rfl ?_ ?_ ?_ ?_; rfl; (focus (simp [Value.oneCell']; done)); (focus (simp; done)); clear hS; intro w hS; simp at hS; try simp only [putW]) | (refine alloc hS rfl rfl ?_; clear hS; intro mb w hS; simp only [putW]) | (refine box1 hS rfl rfl rfl rfl ?_; clear hS; intro mb w hS; try simp only [evW, putW] at hS; simp only [putW]) | (refine boxN hS rfl rfl rfl ?_; clear hS; intro mb w hS; simp only [putW])); refine ⟨rfl, hS.conv, ?_⟩; refine wpAnyH_all (rs := [14]) (by kernel_rfl) (by simp) ?_; intro i hi; simp only [List.mem_cons, List.not_mem_nil, or_false] at hi; subst hi; refine wpOp_of_list rfl ?_; go_wp2_with (first | (go_at_call 49; refine Calls.mono (rleft_tie (X := X) (K := codeL T t FL PW SL now sp ((bp, cells (pairC t x) 55) :: (blk (.slice q1 nK c1), sl 1 i64 KL 3 (.slice q1 nK c1)) :: K)) HT.out.1 hS.conv) ?_; rw [HL.out]; clear hS; rintro _ w ⟨rfl, hS⟩; simp only [putW]) | (refine load1 hS rfl rfl rfl rfl ?_; simp only [putW]) | (refine loadAll hS rfl rfl rfl ?_ ?_; rfl; simp only [putW]) | (refine loadPart hS rfl rfl rfl ?_ rfl ?_; rfl; simp only [putW]) | (refine store1 hS rfl rfl rfl rfl rfl ?_ ?_; (focus (simp; done)); clear hS; intro w hS; simp only [evW, putW] at hS; try simp only [putW]) | (refine storeAll hS rfl rfl rfl rfl ?_ ?_ ?_ ?_; rfl; (focus (simp [Value.oneCell']; done)); rfl; clear hS; intro w hS; try simp only [putW]) | (refine storeN hS rfl rfl rfl rfl ?_ ?_ ?_ ?_; rfl; (focus (simp [Value.oneCell']; done)); (focus (simp; done)); clear hS; intro w hS; simp at hS; try simp only [putW]) | (refine alloc hS rfl rfl ?_; clear hS; intro mb w hS; simp only [putW]) | (refine box1 hS rfl rfl rfl rfl ?_; clear hS; intro mb w hS; try simp only [evW, putW] at hS; simp only [putW]) | (refine boxN hS rfl rfl rfl ?_; clear hS; intro mb w hS; simp only [putW])); refine ⟨rfl, hS.conv, ?_⟩; (first | (refine takeIf (i := 15) rfl (by kernel_rfl) (fun _ _ _ h => h) (yMove rfl rfl rfl) hS.conv ?_; simp only [evW, putW]) | (refine takeIf (i := 15) rfl (by kernel_rfl) (fun _ _ _ h => h) (yLoad1 (fun _ h => h) rfl rfl rfl rfl) hS.conv ?_; simp only [putW]) | (refine takeIf (i := 15) rfl (by kernel_rfl) (fun _ _ _ h => h) (yLoadAll (fun _ h => h) rfl rfl rfl rfl) hS.conv ?_; simp only [putW]) | (apply takeIf (i := 15) rfl (by kernel_rfl) (fun _ _ _ h => h); (focus (apply yRun rfl; intro w; first | (go_simp; done) | (go_simp; rfl))); (focus (exact hS.conv)); simp only [putW])); (first | (refine takeIf (i := 16) rfl (by kernel_rfl) (fun _ _ _ h => h) (yMove rfl rfl rfl) hS.conv ?_; simp only [evW, putW]) | (refine takeIf (i := 16) rfl (by kernel_rfl) (fun _ _ _ h => h) (yLoad1 (fun _ h => h) rfl rfl rfl rfl) hS.conv ?_; simp only [putW]) | (refine takeIf (i := 16) rfl (by kernel_rfl) (fun _ _ _ h => h) (yLoadAll (fun _ h => h) rfl rfl rfl rfl) hS.conv ?_; simp only [putW]) | (apply takeIf (i := 16) rfl (by kernel_rfl) (fun _ _ _ h => h); (focus (apply yRun rfl; intro w; first | (go_simp; done) | (go_simp; rfl))); (focus (exact hS.conv)); simp only [putW])); (first | (refine takeIf (i := 17) rfl (by kernel_rfl) (fun _ _ _ h => h) (yMove rfl rfl rfl) hS.conv ?_; simp only [evW, putW]) | (refine takeIf (i := 17) rfl (by kernel_rfl) (fun _ _ _ h => h) (yLoad1 (fun _ h => h) rfl rfl rfl rfl) hS.conv ?_; simp only [putW]) | (refine takeIf (i := 17) rfl (by kernel_rfl) (fun _ _ _ h => h) (yLoadAll (fun _ h => h) rfl rfl rfl rfl) hS.conv ?_; simp only [putW]) | (apply takeIf (i := 17) rfl (by kernel_rfl) (fun _ _ _ h => h); (focus (apply yRun rfl; intro w; first | (go_simp; done) | (go_simp; rfl))); (focus (exact hS.conv)); simp only [putW])); (first | (refine takeIf (i := 18) rfl (by kernel_rfl) (fun _ _ _ h => h) (yMove rfl rfl rfl) hS.conv ?_; simp only [evW, putW]) | (refine takeIf (i := 18) rfl (by kernel_rfl) (fun _ _ _ h => h) (yLoad1 (fun _ h => h) rfl rfl rfl rfl) hS.conv ?_; simp only [putW]) | (refine takeIf (i := 18) rfl (by kernel_rfl) (fun _ _ _ h => h) (yLoadAll (fun _ h => h) rfl rfl rfl rfl) hS.conv ?_; simp only [putW]) | (apply takeIf (i := 18) rfl (by kernel_rfl) (fun _ _ _ h => h); (focus (apply yRun rfl; intro w; first | (go_simp; done) | (go_simp; rfl))); (focus (exact hS.conv)); simp only [putW])); (first | (refine takeIf (i := 19) rfl (by kernel_rfl) (fun _ _ _ h => h) (yMove rfl rfl rfl) hS.conv ?_; simp only [evW, putW]) | (refine takeIf (i := 19) rfl (by kernel_rfl) (fun _ _ _ h => h) (yLoad1 (fun _ h => h) rfl rfl rfl rfl) hS.conv ?_; simp only [putW]) | (refine takeIf (i := 19) rfl (by kernel_rfl) (fun _ _ _ h => h) (yLoadAll (fun _ h => h) rfl rfl rfl rfl) hS.conv ?_; simp only [putW]) | (apply takeIf (i := 19) rfl (by kernel_rfl) (fun _ _ _ h => h); (focus (apply yRun rfl; intro w; first | (go_simp; done) | (go_simp; rfl))); (focus (exact hS.conv)); simp only [putW])); (first | (refine takeIf (i := 20) rfl (by kernel_rfl) (fun _ _ _ h => h) (yMove rfl rfl rfl) hS.conv ?_; simp only [evW, putW]) | (refine takeIf (i := 20) rfl (by kernel_rfl) (fun _ _ _ h => h) (yLoad1 (fun _ h => h) rfl rfl rfl rfl) hS.conv ?_; simp only [putW]) | (refine takeIf (i := 20) rfl (by kernel_rfl) (fun _ _ _ h => h) (yLoadAll (fun _ h => h) rfl rfl rfl rfl) hS.conv ?_; simp only [putW]) | (apply takeIf (i := 20) rfl (by kernel_rfl) (fun _ _ _ h => h); (focus (apply yRun rfl; intro w; first | (go_simp; done) | (go_simp; rfl))); (focus (exact hS.conv)); simp only [putW])); refine wpAnyH_all (rs := [21]) (by kernel_rfl) (by simp) ?_; intro i hi; simp only [List.mem_cons, List.not_mem_nil, or_false] at hi; subst hi; refine wpOp_of_list rfl ?_; go_wp2_with (first | (go_at_call 51; refine Calls.mono (rkeys_tie (X := X) (K := codeL T t FL PW SL now sp ((bp, cells (pairC t x) 55) :: (blk (.slice q1 nK c1), sl 1 i64 KL 3 (.slice q1 nK c1)) :: K)) HT.out.1 hS.conv) ?_; rw [HK.out]; clear hS; rintro _ w ⟨v2, rfl, hS⟩; obtain ⟨q2, c2, hs2⟩ := shapeN hS HnK.out; subst hs2; simp only [putW]) | (refine load1 hS rfl rfl rfl rfl ?_; simp only [putW]) | (refine loadAll hS rfl rfl rfl ?_ ?_; rfl; simp only [putW]) | (refine loadPart hS rfl rfl rfl ?_ rfl ?_; rfl; simp only [putW]) | (refine store1 hS rfl rfl rfl rfl rfl ?_ ?_; (focus (simp; done)); clear hS; intro w hS; simp only [evW, putW] at hS; try simp only [putW]) | (refine storeAll hS rfl rfl rfl rfl ?_ ?_ ?_ ?_; rfl; (focus (simp [Value.oneCell']; done)); rfl; clear hS; intro w hS; try simp only [putW]) | (refine storeN hS rfl rfl rfl rfl ?_ ?_ ?_ ?_; rfl; (focus (simp [Value.oneCell']; done)); (focus (simp; done)); clear hS; intro w hS; simp at hS; try simp only [putW]) | (refine alloc hS rfl rfl ?_; clear hS; intro mb w hS; simp only [putW]) | (refine box1 hS rfl rfl rfl rfl ?_; clear hS; intro mb w hS; try simp only [evW, putW] at hS; simp only [putW]) | (refine boxN hS rfl rfl rfl ?_; clear hS; intro mb w hS; simp only [putW])); refine ⟨rfl, hS.conv, ?_⟩; refine wpAnyH_all (rs := [22]) (by kernel_rfl) (by simp) ?_; intro i hi; simp only [List.mem_cons, List.not_mem_nil, or_false] at hi; subst hi; refine wpOp_of_list rfl ?_; go_wp2_with (first | (go_at_call 50; refine Calls.mono (sameInts13 (A := KL) (B := KL) ((hS.conv (S' := (blk (.slice q1 nK c1), sl 1 i64 KL 3 (.slice q1 nK c1)) :: [])).readsSl fun _ _ => trivial) ((hS.conv (S' := (blk (.slice q2 nK c2), sl 1 i64 KL 3 (.slice q2 nK c2)) :: [])).readsSl fun _ _ => trivial)) ?_; rintro _ w2 ⟨rfl, h2⟩; replace hS := hS.frame h2; clear h2; simp only [List.nil_append] at hS; rw [show decide (KL = KL) = true from decide_eq_true rfl]; simp only [putW]) | (refine load1 hS rfl rfl rfl rfl ?_; simp only [putW]) | (refine loadAll hS rfl rfl rfl ?_ ?_; rfl; simp only [putW]) | (refine loadPart hS rfl rfl rfl ?_ rfl ?_; rfl; simp only [putW]) | (refine store1 hS rfl rfl rfl rfl rfl ?_ ?_; (focus (simp; done)); clear hS; intro w hS; simp only [evW, putW] at hS; try simp only [putW]) | (refine storeAll hS rfl rfl rfl rfl ?_ ?_ ?_ ?_; rfl; (focus (simp [Value.oneCell']; done)); rfl; clear hS; intro w hS; try simp only [putW]) | (refine storeN hS rfl rfl rfl rfl ?_ ?_ ?_ ?_; rfl; (focus (simp [Value.oneCell']; done)); (focus (simp; done)); clear hS; intro w hS; simp at hS; try simp only [putW]) | (refine alloc hS rfl rfl ?_; clear hS; intro mb w hS; simp only [putW]) | (refine box1 hS rfl rfl rfl rfl ?_; clear hS; intro mb w hS; try simp only [evW, putW] at hS; simp only [putW]) | (refine boxN hS rfl rfl rfl ?_; clear hS; intro mb w hS; simp only [putW])); refine ⟨rfl, hS.conv, ?_⟩; (first | (refine takeIf (i := 23) rfl (by kernel_rfl) (fun _ _ _ h => h) (yMove rfl rfl rfl) hS.conv ?_; simp only [evW, putW]) | (refine takeIf (i := 23) rfl (by kernel_rfl) (fun _ _ _ h => h) (yLoad1 (fun _ h => h) rfl rfl rfl rfl) hS.conv ?_; simp only [putW]) | (refine takeIf (i := 23) rfl (by kernel_rfl) (fun _ _ _ h => h) (yLoadAll (fun _ h => h) rfl rfl rfl rfl) hS.conv ?_; simp only [putW]) | (apply takeIf (i := 23) rfl (by kernel_rfl) (fun _ _ _ h => h); (focus (apply yRun rfl; intro w; first | (go_simp; done) | (go_simp; rfl))); (focus (exact hS.conv)); simp only [putW])); (first | (refine takeIf (i := 24) rfl (by kernel_rfl) (fun _ _ _ h => h) (yMove rfl rfl rfl) hS.conv ?_; simp only [evW, putW]) | (refine takeIf (i := 24) rfl (by kernel_rfl) (fun _ _ _ h => h) (yLoad1 (fun _ h => h) rfl rfl rfl rfl) hS.conv ?_; simp only [putW]) | (refine takeIf (i := 24) rfl (by kernel_rfl) (fun _ _ _ h => h) (yLoadAll (fun _ h => h) rfl rfl rfl rfl) hS.conv ?_; simp only [putW]) | (apply takeIf (i := 24) rfl (by kernel_rfl) (fun _ _ _ h => h); (focus (apply yRun rfl; intro w; first | (go_simp; done) | (go_simp; rfl))); (focus (exact hS.conv)); simp only [putW])); refine wpAnyH_done (by kernel_rfl) ?_ _; skip)
  go_wp2_with (first | (refine load1 hS rfl rfl rfl rfl ?_; simp only [putW]) | (refine loadAll hS rfl rfl rfl ?_ ?_; rfl; simp only [putW]) | (refine loadPart hS rfl rfl rfl ?_ rfl ?_; rfl; simp only [putW]) | (refine store1 hS rfl rfl rfl rfl rfl ?_ ?_; (focus (simp; done)); clear hS; intro w hS; simp only [evW, putW] at hS; try simp only [putW]) | (refine storeAll hS rfl rfl rfl rfl ?_ ?_ ?_ ?_; rfl; (focus (simp [Value.oneCell']; done)); rfl; clear hS; intro w hS; try simp only [putW]) | (refine storeN hS rfl rfl rfl rfl ?_ ?_ ?_ ?_; rfl; (focus (simp [Value.oneCell']; done)); (focus (simp; done)); clear hS; intro w hS; simp at hS; try simp only [putW]) | (refine alloc hS rfl rfl ?_; clear hS; intro mb w hS; simp only [putW]) | (refine box1 hS rfl rfl rfl rfl ?_; clear hS; intro mb w hS; try simp only [evW, putW] at hS; simp only [putW]) | (refine boxN hS rfl rfl rfl ?_; clear hS; intro mb w hS; simp only [putW]))
  go_loopg [8] nX (fun g iv wq => ∃ k : Nat, k + g = nX ∧ iv = .int .i64 k ∧ Sat w0 ((x, X13C X) :: codeL T t FL PW SL now sp ((bp, cells (pairC t x) 55) :: (blk (.slice q1 nK c1), sl 1 i64 KL 3 (.slice q1 nK c1)) :: K)) wq)
  case atStart => exact ⟨0, by omega, rfl, hS.conv⟩
  case round =>
    clear hS
    obtain ⟨k, hkn, rfl, hS0⟩ := hrel
    obtain ⟨vL, vP, vS, vH, hS1⟩ := x13Open hS0
    clear hS0
    have h4 := hS1.conv (S' := (blk vL, sl 3 fxF X.l 90 vL) :: (x, cells (xC (.int .i64 X.most) vL vP vS X.now vH) 97) :: (9, inn (rowsOf X.l) 5) :: (blk vP, sl 2 tw2F X.pins 99 vP) :: (blk vS, sl 2 tw2F X.shares 99 vS) :: (blk vH, sl 3 sp3F X.heat 115 vH) :: codeL T t FL PW SL now sp ((bp, cells (pairC t x) 55) :: (blk (.slice q1 nK c1), sl 1 i64 KL 3 (.slice q1 nK c1)) :: K))
    clear hS1
    obtain ⟨qL, cL, hvL⟩ := shapeN h4 HX.out
    subst hvL
    cases gk with
    | zero =>
      have d1 : decide ((k : Int) < (nX : Int)) = false := decide_eq_false (by omega)
      have d1n : decide (k < nX) = false := decide_eq_false (by omega)
      have hS := h4
      clear h4
      go_wp2_with (first | (refine load1 hS rfl rfl rfl rfl ?_; simp only [putW]) | (refine loadAll hS rfl rfl rfl ?_ ?_; rfl; simp only [putW]) | (refine loadPart hS rfl rfl rfl ?_ rfl ?_; rfl; simp only [putW]) | (refine store1 hS rfl rfl rfl rfl rfl ?_ ?_; (focus (simp; done)); clear hS; intro w hS; simp only [evW, putW] at hS; try simp only [putW]) | (refine storeAll hS rfl rfl rfl rfl ?_ ?_ ?_ ?_; rfl; (focus (simp [Value.oneCell']; done)); rfl; clear hS; intro w hS; try simp only [putW]) | (refine storeN hS rfl rfl rfl rfl ?_ ?_ ?_ ?_; rfl; (focus (simp [Value.oneCell']; done)); (focus (simp; done)); clear hS; intro w hS; simp at hS; try simp only [putW]) | (refine alloc hS rfl rfl ?_; clear hS; intro mb w hS; simp only [putW]) | (refine box1 hS rfl rfl rfl rfl ?_; clear hS; intro mb w hS; try simp only [evW, putW] at hS; simp only [putW]) | (refine boxN hS rfl rfl rfl ?_; clear hS; intro mb w hS; simp only [putW]))
      have h8 := x13Shut (X := X) (hS.conv (S' := (x, cells (xC (.int .i64 X.most) (.slice qL nX cL) vP vS X.now vH) 97) :: (blk (.slice qL nX cL), sl 3 fxF X.l 90 (.slice qL nX cL)) :: (9, inn (rowsOf X.l) 5) :: (blk vP, sl 2 tw2F X.pins 99 vP) :: (blk vS, sl 2 tw2F X.shares 99 vS) :: (blk vH, sl 3 sp3F X.heat 115 vH) :: codeL T t FL PW SL now sp ((bp, cells (pairC t x) 55) :: (blk (.slice q1 nK c1), sl 1 i64 KL 3 (.slice q1 nK c1)) :: K)))
      clear hS
      have hS := h8.conv (S' := (blk (.slice q1 nK c1), sl 1 i64 KL 3 (.slice q1 nK c1)) :: (x, X13C X) :: codeL T t FL PW SL now sp K)
      clear h8
      go_loopg [10] nK (fun g iv wq => ∃ (k : Nat) (B2 : List Int), k + g = nK ∧ iv = .int .i64 k ∧ Bx (B2.length = nK) ∧ Sat w0 ((blk (.slice q1 nK c1), sl 1 i64 B2 3 (.slice q1 nK c1)) :: (x, X13C X) :: codeL T t FL PW SL now sp K) wq)
      case atStart => exact ⟨0, KL, by omega, rfl, HnK, hS⟩
      case round =>
        clear hS d1 d1n hkn
        obtain ⟨k, B2, hkn, rfl, HB2, hS⟩ := hrel
        cases gk with
        | succ g =>
          have hlt : k < nK := by omega
          have d1 : decide ((k : Int) < (nK : Int)) = true := decide_eq_true (by omega)
          have d1n : decide (k < nK) = true := decide_eq_true hlt
          obtain ⟨bv, hbv⟩ : ∃ y, B2[k]? = some y := ⟨_, List.getElem?_eq_getElem (by rw [HB2.out]; exact hlt)⟩
          obtain ⟨gq, hqq, hcq, hS2⟩ := openS hS HB2.out (by omega)
          subst hqq
          clear hS
          have hS := hS2
          clear hS2
          have HBv : Bx _ := ⟨hbv⟩
          have hkl : k < B2.length := by rw [HB2.out]; exact hlt
          clear hbv
          go_wp2_with (first | (refine loadS1 (v1 := Value.int .i64) hS rfl rfl rfl HBv.out ?_; simp only [putW]) | (refine storeS1 (v1 := Value.int .i64) hS rfl rfl rfl _ rfl rfl ?_ ?_; (focus (first | omega | (simp [maxLen]; done) | (simp [maxLen]; omega))); clear hS; intro w hS; try simp only [putW]) | (refine load1 hS rfl rfl rfl rfl ?_; simp only [putW]) | (refine loadAll hS rfl rfl rfl ?_ ?_; rfl; simp only [putW]) | (refine loadPart hS rfl rfl rfl ?_ rfl ?_; rfl; simp only [putW]) | (refine store1 hS rfl rfl rfl rfl rfl ?_ ?_; (focus (simp; done)); clear hS; intro w hS; simp only [evW, putW] at hS; try simp only [putW]) | (refine storeAll hS rfl rfl rfl rfl ?_ ?_ ?_ ?_; rfl; (focus (simp [Value.oneCell']; done)); rfl; clear hS; intro w hS; try simp only [putW]) | (refine storeN hS rfl rfl rfl rfl ?_ ?_ ?_ ?_; rfl; (focus (simp [Value.oneCell']; done)); (focus (simp; done)); clear hS; intro w hS; simp at hS; try simp only [putW]) | (refine alloc hS rfl rfl ?_; clear hS; intro mb w hS; simp only [putW]) | (refine box1 hS rfl rfl rfl rfl ?_; clear hS; intro mb w hS; try simp only [evW, putW] at hS; simp only [putW]) | (refine boxN hS rfl rfl rfl ?_; clear hS; intro mb w hS; simp only [putW]))
          go_roundg g
          case measure => omega
          case rel =>
            have h9 := hS.slOfSlc
            rw [List.length_set, HB2.out] at h9
            exact ⟨k + 1, _, by omega, by go_num, ⟨by rw [List.length_set]; exact HB2.out⟩, h9⟩
        | zero =>
          have d1 : decide ((k : Int) < (nK : Int)) = false := decide_eq_false (by omega)
          have d1n : decide (k < nK) = false := decide_eq_false (by omega)
          go_wp2_with (first | (refine load1 hS rfl rfl rfl rfl ?_; simp only [putW]) | (refine loadAll hS rfl rfl rfl ?_ ?_; rfl; simp only [putW]) | (refine loadPart hS rfl rfl rfl ?_ rfl ?_; rfl; simp only [putW]) | (refine store1 hS rfl rfl rfl rfl rfl ?_ ?_; (focus (simp; done)); clear hS; intro w hS; simp only [evW, putW] at hS; try simp only [putW]) | (refine storeAll hS rfl rfl rfl rfl ?_ ?_ ?_ ?_; rfl; (focus (simp [Value.oneCell']; done)); rfl; clear hS; intro w hS; try simp only [putW]) | (refine storeN hS rfl rfl rfl rfl ?_ ?_ ?_ ?_; rfl; (focus (simp [Value.oneCell']; done)); (focus (simp; done)); clear hS; intro w hS; simp at hS; try simp only [putW]) | (refine alloc hS rfl rfl ?_; clear hS; intro mb w hS; simp only [putW]) | (refine box1 hS rfl rfl rfl rfl ?_; clear hS; intro mb w hS; try simp only [evW, putW] at hS; simp only [putW]) | (refine boxN hS rfl rfl rfl ?_; clear hS; intro mb w hS; simp only [putW]))
          go_ret
          exact ⟨rfl, FL, PW, SL, now, sp, X, HT.out, hS.conv⟩
    | succ g =>
      have hlt : k < nX := by omega
      have d1 : decide ((k : Int) < (nX : Int)) = true := decide_eq_true (by omega)
      have d1n : decide (k < nX) = true := decide_eq_true hlt
      obtain ⟨e, he⟩ : ∃ y, X.l[k]? = some y := ⟨_, List.getElem?_eq_getElem (by rw [HX.out]; exact hlt)⟩
      have hmem := List.mem_of_getElem? he
      obtain ⟨ek, va, A, bb⟩ := e
      have HE : Bx _ := ⟨he⟩
      have HM : Bx _ := ⟨hmem⟩
      clear he hmem
      obtain ⟨qa, nA, ca, hva⟩ : ∃ q n c, va = .slice q n c := by
        have h5 := (h4.conv (S' := (9, inn (rowsOf X.l) 5) :: [])).innReads (v := va) (A := A) (List.mem_map.2 ⟨_, HM.out, rfl⟩) (HT.out.1.xo _ HM.out).2
        obtain ⟨a, c, h6, -⟩ := h5.at
        exact ⟨a, _, c, h6⟩
      subst hva
      obtain ⟨gq, hqq, hcq, hS⟩ := openS h4 HX.out (by omega)
      subst hqq
      clear h4
      obtain ⟨pn, hpn⟩ : ∃ b, pinX X.pins ek = b := ⟨_, rfl⟩
      have HPn : Bx (pinX X.pins ek = pn) := ⟨hpn⟩
      clear hpn
      go_upto_region 10 with (first | (refine loadSN (f := fxF) (vs := [.int .i64 ek, .slice qa nA ca, .bool bb]) hS rfl rfl rfl k 0 ?_ HE.out ?_ ?_ ?_; omega; (focus (first | omega | decide)); rfl; simp only [putW]) | (refine alloc (t := 90) hS rfl rfl ?_; clear hS; intro mx w hS; simp only [putW]) | (refine storeAll (t := 90) (cs := #[.int .i64 ek, .slice qa nA ca, .bool bb]) hS rfl rfl rfl rfl ?_ ?_ ?_ ?_; (focus rfl); (focus (simp [Value.oneCell']; done)); (focus rfl); clear hS; intro w hS; try simp only [putW]) | (refine load1 hS rfl rfl rfl rfl ?_; simp only [putW]) | (refine loadAll hS rfl rfl rfl ?_ ?_; rfl; simp only [putW]) | (refine loadPart hS rfl rfl rfl ?_ rfl ?_; rfl; simp only [putW]) | (refine store1 hS rfl rfl rfl rfl rfl ?_ ?_; (focus (simp; done)); clear hS; intro w hS; simp only [evW, putW] at hS; try simp only [putW]) | (refine storeAll hS rfl rfl rfl rfl ?_ ?_ ?_ ?_; rfl; (focus (simp [Value.oneCell']; done)); rfl; clear hS; intro w hS; try simp only [putW]) | (refine storeN hS rfl rfl rfl rfl ?_ ?_ ?_ ?_; rfl; (focus (simp [Value.oneCell']; done)); (focus (simp; done)); clear hS; intro w hS; simp at hS; try simp only [putW]) | (refine alloc hS rfl rfl ?_; clear hS; intro mb w hS; simp only [putW]) | (refine box1 hS rfl rfl rfl rfl ?_; clear hS; intro mb w hS; try simp only [evW, putW] at hS; simp only [putW]) | (refine boxN hS rfl rfl rfl ?_; clear hS; intro mb w hS; simp only [putW]))
      have h7 := (hS.conv (S' := (gq, slc 3 fxF X.l cL 90) :: (mx, cells #[.int .i64 ek, .slice qa nA ca, .bool bb] 90) :: (x, cells (xC (.int .i64 X.most) (.slice (some ⟨gq, 0, none⟩) nX cL) vP vS X.now vH) 97) :: (9, inn (rowsOf X.l) 5) :: (blk vP, sl 2 tw2F X.pins 99 vP) :: (blk vS, sl 2 tw2F X.shares 99 vS) :: (blk vH, sl 3 sp3F X.heat 115 vH) :: codeL T t FL PW SL now sp ((bp, cells (pairC t x) 55) :: (blk (.slice q1 nK c1), sl 1 i64 KL 3 (.slice q1 nK c1)) :: K))).slOfSlc
      rw [HX.out] at h7
      clear hS
      have h8 := x13Shut (X := X) (h7.conv (S' := (x, cells (xC (.int .i64 X.most) (.slice (some ⟨gq, 0, none⟩) nX cL) vP vS X.now vH) 97) :: (blk (.slice (some ⟨gq, 0, none⟩) nX cL), sl 3 fxF X.l 90 (.slice (some ⟨gq, 0, none⟩) nX cL)) :: (9, inn (rowsOf X.l) 5) :: (blk vP, sl 2 tw2F X.pins 99 vP) :: (blk vS, sl 2 tw2F X.shares 99 vS) :: (blk vH, sl 3 sp3F X.heat 115 vH) :: codeL T t FL PW SL now sp ((mx, cells #[.int .i64 ek, .slice qa nA ca, .bool bb] 90) :: (bp, cells (pairC t x) 55) :: (blk (.slice q1 nK c1), sl 1 i64 KL 3 (.slice q1 nK c1)) :: K)))
      clear h7
      have hS := h8
      clear h8
      (refine region_quiet hS (by kernel_rfl) (by kernel_rfl) (by kernel_rfl) ?_; clear hS; (repeat (first | (refine quiet_skip rfl ?_; simp only [putW]) | (apply quiet_go rfl Try.call25 rfl; (focus (intro w hS; refine Calls.mono (written_tie (e := (ek, .slice qa nA ca, A, bb)) (K := (x, X13C X) :: (mx, cells #[.int .i64 ek, .slice qa nA ca, .bool bb] 90) :: (bp, cells (pairC t x) 55) :: (blk (.slice q1 nK c1), sl 1 i64 KL 3 (.slice q1 nK c1)) :: K) HT.out.1 HM.out hS.conv) ?_; rintro _ w2 ⟨rfl, h2⟩; exact ⟨rfl, h2.conv⟩)); simp only [putW]) | (apply quiet_go rfl Try.call16 rfl; (focus (intro w hS; refine Calls.mono (pinned_tie (key := ek) (X := X) (K := (x, X13C X) :: (mx, cells #[.int .i64 ek, .slice qa nA ca, .bool bb] 90) :: (bp, cells (pairC t x) 55) :: (blk (.slice q1 nK c1), sl 1 i64 KL 3 (.slice q1 nK c1)) :: K) HT.out.1 hS.conv) ?_; rw [HPn.out]; rintro _ w2 ⟨rfl, h2⟩; exact ⟨rfl, h2.conv⟩)); simp only [putW]) | (apply quiet_go rfl Try.call52 rfl; (focus (intro w hS; refine Calls.mono (refPinned_any (key := ek) (X := X) (K := codeL T t FL PW SL now sp ((mx, cells #[.int .i64 ek, .slice qa nA ca, .bool bb] 90) :: (bp, cells (pairC t x) 55) :: (blk (.slice q1 nK c1), sl 1 i64 KL 3 (.slice q1 nK c1)) :: K)) hS) ?_; rw [HPn.out]; rintro _ w2 ⟨rfl, h2⟩; exact ⟨rfl, h2⟩)); simp only [putW]) | (refine quiet_y (yMove rfl rfl rfl) ?_; simp only [evW, putW]) | (refine quiet_y (yNil rfl rfl rfl) ?_; simp only [putW]) | (refine quiet_y (yLoad1 (fun _ h => h) rfl rfl rfl rfl) ?_; simp only [putW]) | (apply quiet_y; (focus (apply yRun rfl; intro w; first | (go_simp; done) | (go_simp; rfl))); simp only [putW]))); refine quiet_nil ?_; intro w hS)
      go_wp2_with (first | (refine load1 hS rfl rfl rfl rfl ?_; simp only [putW]) | (refine loadAll hS rfl rfl rfl ?_ ?_; rfl; simp only [putW]) | (refine loadPart hS rfl rfl rfl ?_ rfl ?_; rfl; simp only [putW]) | (refine store1 hS rfl rfl rfl rfl rfl ?_ ?_; (focus (simp; done)); clear hS; intro w hS; simp only [evW, putW] at hS; try simp only [putW]) | (refine storeAll hS rfl rfl rfl rfl ?_ ?_ ?_ ?_; rfl; (focus (simp [Value.oneCell']; done)); rfl; clear hS; intro w hS; try simp only [putW]) | (refine storeN hS rfl rfl rfl rfl ?_ ?_ ?_ ?_; rfl; (focus (simp [Value.oneCell']; done)); (focus (simp; done)); clear hS; intro w hS; simp at hS; try simp only [putW]) | (refine alloc hS rfl rfl ?_; clear hS; intro mb w hS; simp only [putW]) | (refine box1 hS rfl rfl rfl rfl ?_; clear hS; intro mb w hS; try simp only [evW, putW] at hS; simp only [putW]) | (refine boxN hS rfl rfl rfl ?_; clear hS; intro mb w hS; simp only [putW]))
      go_roundg g
      case measure => omega
      case rel => exact ⟨k + 1, by omega, by go_num, hS.conv⟩
end Go.Proofs.Ytlkoclalcfeniaa
