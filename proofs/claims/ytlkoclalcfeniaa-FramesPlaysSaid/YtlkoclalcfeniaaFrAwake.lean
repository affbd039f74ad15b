/-
  frames: the laws' example.
-/
import Derived.Test.YtlkoclalcfeniaaFrGet
set_option linter.unusedSimpArgs false
set_option linter.unusedVariables false
namespace Go.Proofs.Ytlkoclalcfeniaa
open Go.RowKit Go.Proofs.Ytlkoclalcfeniaa.Sl Go.Proofs.Ytlkoclalcfeniaa.Jp

section
variable {w0 : World}
theorem sp0 : SpOk 0 [] := fun p hp => by cases hp
set_option maxRecDepth 100000 in
set_option maxHeartbeats 4000000 in
theorem awakeF_any : Calls Try.prog 17 #[] w0 fun e w' => e = .returned (.bool true) ∧ Sat w0 [] w' := by
  have hS := Sat.refl w0
  have o1 : okByte 1 := by unfold okByte; omega
  have o2 : okByte 2 := by unfold okByte; omega
  have hb1 : ∀ b ∈ ([1] : List Int), okByte b := fun b hb => by rw [List.mem_singleton.1 hb]; exact o1
  have hb2 : ∀ b ∈ ([2] : List Int), okByte b := fun b hb => by rw [List.mem_singleton.1 hb]; exact o2
  go_enter Try.func17, Try.ntmps17
  go_wp2_with (first | (guard_target =~ Calls _ 9 _ _ _; refine Stopped.out ?_) | (refine load1 hS rfl rfl rfl rfl ?_; simp only [putW]) | (refine loadAll hS rfl rfl rfl ?_ ?_; rfl; simp only [putW]) | (refine loadPart hS rfl rfl rfl ?_ rfl ?_; rfl; simp only [putW]) | (refine store1 hS rfl rfl rfl rfl rfl ?_ ?_; (focus (simp; done)); clear hS; intro w hS; simp only [evW, putW] at hS; try simp only [putW]) | (refine storeAll hS rfl rfl rfl rfl ?_ ?_ ?_ ?_; rfl; (focus (simp [Value.oneCell']; done)); rfl; clear hS; intro w hS; try simp only [putW]) | (refine storeN hS rfl rfl rfl rfl ?_ ?_ ?_ ?_; rfl; (focus (simp [Value.oneCell']; done)); (focus (simp; done)); clear hS; intro w hS; simp at hS; try simp only [putW]) | (refine alloc hS rfl rfl ?_; clear hS; intro mb w hS; simp only [putW]) | (refine box1 hS rfl rfl rfl rfl ?_; clear hS; intro mb w hS; try simp only [evW, putW] at hS; simp only [putW]) | (refine boxN hS rfl rfl rfl ?_; clear hS; intro mb w hS; simp only [putW]))
  refine ⟨?_⟩
  (refine Calls.mono (tabNew_any (by omega) (by omega)) ?_; rintro _ w2 ⟨t, T, rfl, hT, h2⟩; replace hS := hS.frame h2; clear h2; (try simp only [List.cons_append, List.nil_append] at hS); simp only [putW])
  have HT : Bx _ := ⟨hT⟩
  clear hT
  go_wp2_with (first | (refine buildSlice1 (c := #[.int .u8 1]) hS rfl rfl rfl ?_ ?_ ?_ ?_; rfl; rfl; rfl; clear hS; intro mb w hS; simp only [putW]) | (guard_target =~ Calls _ 10 _ _ _; refine Stopped.out ?_) | (refine load1 hS rfl rfl rfl rfl ?_; simp only [putW]) | (refine loadAll hS rfl rfl rfl ?_ ?_; rfl; simp only [putW]) | (refine loadPart hS rfl rfl rfl ?_ rfl ?_; rfl; simp only [putW]) | (refine store1 hS rfl rfl rfl rfl rfl ?_ ?_; (focus (simp; done)); clear hS; intro w hS; simp only [evW, putW] at hS; try simp only [putW]) | (refine storeAll hS rfl rfl rfl rfl ?_ ?_ ?_ ?_; rfl; (focus (simp [Value.oneCell']; done)); rfl; clear hS; intro w hS; try simp only [putW]) | (refine storeN hS rfl rfl rfl rfl ?_ ?_ ?_ ?_; rfl; (focus (simp [Value.oneCell']; done)); (focus (simp; done)); clear hS; intro w hS; simp at hS; try simp only [putW]) | (refine alloc hS rfl rfl ?_; clear hS; intro mb w hS; simp only [putW]) | (refine box1 hS rfl rfl rfl rfl ?_; clear hS; intro mb w hS; try simp only [evW, putW] at hS; simp only [putW]) | (refine boxN hS rfl rfl rfl ?_; clear hS; intro mb w hS; simp only [putW]))
  refine ⟨?_⟩
  refine Calls.mono (putNew_any (T := T) (K := (mb, cells #[.int .u8 1] 5) :: (T.pm, mapC encP uV []) :: (T.sm, mapC encInt (Value.int .i64) []) :: (T.hp, HeatC 0 []) :: []) (FL := []) (A := [1]) (fun w' h => litBs (m := mb) h o1) (by decide) rfl (by rw [HT.out]; decide) (by rw [HT.out]; omega) hS.conv) ?_
  clear hS
  rintro _ w ⟨f5, v5, rfl, hS⟩
  simp only [putW]
  go_wp2_with (first | (refine buildSlice1 (c := #[.int .u8 2]) hS rfl rfl rfl ?_ ?_ ?_ ?_; rfl; rfl; rfl; clear hS; intro mc w hS; simp only [putW]) | (guard_target =~ Calls _ 10 _ _ _; refine Stopped.out ?_) | (refine load1 hS rfl rfl rfl rfl ?_; simp only [putW]) | (refine loadAll hS rfl rfl rfl ?_ ?_; rfl; simp only [putW]) | (refine loadPart hS rfl rfl rfl ?_ rfl ?_; rfl; simp only [putW]) | (refine store1 hS rfl rfl rfl rfl rfl ?_ ?_; (focus (simp; done)); clear hS; intro w hS; simp only [evW, putW] at hS; try simp only [putW]) | (refine storeAll hS rfl rfl rfl rfl ?_ ?_ ?_ ?_; rfl; (focus (simp [Value.oneCell']; done)); rfl; clear hS; intro w hS; try simp only [putW]) | (refine storeN hS rfl rfl rfl rfl ?_ ?_ ?_ ?_; rfl; (focus (simp [Value.oneCell']; done)); (focus (simp; done)); clear hS; intro w hS; simp at hS; try simp only [putW]) | (refine alloc hS rfl rfl ?_; clear hS; intro mb w hS; simp only [putW]) | (refine box1 hS rfl rfl rfl rfl ?_; clear hS; intro mb w hS; try simp only [evW, putW] at hS; simp only [putW]) | (refine boxN hS rfl rfl rfl ?_; clear hS; intro mb w hS; simp only [putW]))
  refine ⟨?_⟩
  refine Calls.mono (putNew_any (T := T) (K := (mc, cells #[.int .u8 2] 5) :: (T.pm, mapC encP uV []) :: (T.sm, mapC encInt (Value.int .i64) []) :: (T.hp, HeatC 0 []) :: []) (FL := [] ++ [((5 : Int), ((some ⟨f5, 0, none⟩, v5, [1], false) : FrV))]) (A := [2]) (fun w' h => litBs (m := mc) h o2) (by decide) rfl (by rw [HT.out]; show ((1 : Nat) : Int) < 2; decide) (by rw [HT.out]; omega) hS.conv) ?_
  clear hS
  rintro _ w ⟨f6, v6, rfl, hS⟩
  obtain ⟨FL, hFL⟩ : ∃ FL : Frs, [] ++ [((5 : Int), ((some ⟨f5, 0, none⟩, v5, [1], false) : FrV))] ++ [((6 : Int), ((some ⟨f6, 0, none⟩, v6, [2], true) : FrV))] = FL := ⟨_, rfl⟩
  rw [hFL] at hS
  have HG5 : Bx (mget FL 5 = some (some ⟨f5, 0, none⟩, v5, [1], false)) := ⟨by rw [← hFL]; rfl⟩
  have HOK : Bx (FrOk FL) := ⟨fun p hp => by
    rw [← hFL] at hp
    rcases List.mem_cons.1 hp with rfl | hp
    · exact ⟨f5, rfl, by simp, hb1⟩
    · rw [List.mem_singleton.1 hp]
      exact ⟨f6, rfl, by simp, hb2⟩⟩
  have HFl : Bx (FL.length = 2) := ⟨by rw [← hFL]; rfl⟩
  have HFk : Bx (loose [] (mkeys FL) = [5, 6]) := ⟨by rw [← hFL]; rfl⟩
  clear hFL
  simp only [putW]
  go_wp2_with (first | (guard_target =~ Calls _ 22 _ _ _; refine Stopped.out ?_) | (refine load1 hS rfl rfl rfl rfl ?_; simp only [putW]) | (refine loadAll hS rfl rfl rfl ?_ ?_; rfl; simp only [putW]) | (refine loadPart hS rfl rfl rfl ?_ rfl ?_; rfl; simp only [putW]) | (refine store1 hS rfl rfl rfl rfl rfl ?_ ?_; (focus (simp; done)); clear hS; intro w hS; simp only [evW, putW] at hS; try simp only [putW]) | (refine storeAll hS rfl rfl rfl rfl ?_ ?_ ?_ ?_; rfl; (focus (simp [Value.oneCell']; done)); rfl; clear hS; intro w hS; try simp only [putW]) | (refine storeN hS rfl rfl rfl rfl ?_ ?_ ?_ ?_; rfl; (focus (simp [Value.oneCell']; done)); (focus (simp; done)); clear hS; intro w hS; simp at hS; try simp only [putW]) | (refine alloc hS rfl rfl ?_; clear hS; intro mb w hS; simp only [putW]) | (refine box1 hS rfl rfl rfl rfl ?_; clear hS; intro mb w hS; try simp only [evW, putW] at hS; simp only [putW]) | (refine boxN hS rfl rfl rfl ?_; clear hS; intro mb w hS; simp only [putW]))
  refine ⟨?_⟩
  refine Calls.mono (get_any (T := T) (K := (T.pm, mapC encP uV []) :: []) (now := 0) (sp := []) HG5.out HOK.out (by omega) sp0 hS.conv) ?_
  clear hS
  rintro _ w ⟨r, vg, rfl, hr, hS⟩
  have hr1 : r = 4607182418800017408 := by
    have h := hr (.inl (by simp [spotOf, mget, findL]))
    have e : coolF (0 + 1) (spotOf [] 5) = 0 := by decide +kernel
    rw [e, right0] at h
    rw [h]
    unfold sumR
    rw [add01]
    exact right1
  subst hr1
  clear hr
  obtain ⟨sp, hsp⟩ : ∃ sp : Spots, mput [] 5 (4607182418800017408, ((0 + 1 : Nat) : Int)) = sp := ⟨_, rfl⟩
  rw [hsp] at hS
  have HSP : Bx (SpOk 1 sp) := ⟨by rw [← hsp]; exact sp0.next 5⟩
  have HKn : Bx (∀ L : List Int, (L = [5, 6] ∨ L = [6, 5]) → Known 1 sp f56 L) := ⟨fun L hL k hk => by
    have hk2 : k = 5 ∨ k = 6 := by
      rcases hL with rfl | rfl
      · simpa using hk
      · have := (by simpa using hk : k = 6 ∨ k = 5); omega
    rw [← hsp]
    rcases hk2 with rfl | rfl
    · refine ⟨.inl ?_, ?_, ?_⟩
      · decide +kernel
      · decide +kernel
      · decide +kernel
    · refine ⟨.inl ?_, ?_, ?_⟩
      · decide +kernel
      · decide +kernel
      · decide +kernel⟩
  clear hsp
  simp only [putW]
  go_wp2_with (first | (guard_target =~ Calls _ 13 _ _ _; refine Stopped.out ?_) | (refine load1 hS rfl rfl rfl rfl ?_; simp only [putW]) | (refine loadAll hS rfl rfl rfl ?_ ?_; rfl; simp only [putW]) | (refine loadPart hS rfl rfl rfl ?_ rfl ?_; rfl; simp only [putW]) | (refine store1 hS rfl rfl rfl rfl rfl ?_ ?_; (focus (simp; done)); clear hS; intro w hS; simp only [evW, putW] at hS; try simp only [putW]) | (refine storeAll hS rfl rfl rfl rfl ?_ ?_ ?_ ?_; rfl; (focus (simp [Value.oneCell']; done)); rfl; clear hS; intro w hS; try simp only [putW]) | (refine storeN hS rfl rfl rfl rfl ?_ ?_ ?_ ?_; rfl; (focus (simp [Value.oneCell']; done)); (focus (simp; done)); clear hS; intro w hS; simp at hS; try simp only [putW]) | (refine alloc hS rfl rfl ?_; clear hS; intro mb w hS; simp only [putW]) | (refine box1 hS rfl rfl rfl rfl ?_; clear hS; intro mb w hS; try simp only [evW, putW] at hS; simp only [putW]) | (refine boxN hS rfl rfl rfl ?_; clear hS; intro mb w hS; simp only [putW]))
  refine ⟨?_⟩
  refine Calls.mono (victim_any (PL := []) (now := 1) (sp := sp) (by rw [HFl.out]; omega) (by rw [HFl.out, HT.out]; omega) (by omega) HSP.out (hS.conv (S' := (t, cells (tbC T) 65) :: (T.fm, mapC encInt frV FL) :: (T.pm, mapC encP uV []) :: (T.hp, HeatC 1 sp) :: (blk vg, sl 1 by8 [1] 5 vg) :: []))) ?_
  clear hS
  rintro e w ⟨⟨L, hL, hres⟩, hS⟩
  rw [HFk.out] at hL
  have hL2 := perm56 hL
  obtain ⟨k, bh, hne, hcold, rfl⟩ : ∃ k bh, L ≠ [] ∧ ColdIs 1 sp L L.length k bh ∧ e = .returned (.tuple #[.int .i64 k, .int .i64 0]) := by
    rcases hres with ⟨h1, -⟩ | h
    · rw [h1] at hL2
      rcases hL2 with h | h <;> cases h
    · exact h
  have hk6 : k = 6 := by
    have h1 := (hcold.ex (by intro h; exact hne (List.eq_nil_of_length_eq_zero h)) f56 (HKn.out L hL2)).1
    rw [List.take_of_length_le (Nat.le_refl _)] at h1
    rcases hL2 with h | h
    · rw [h, cold56.1] at h1
      have := Option.some.inj h1
      exact (congrArg Prod.fst this).symm
    · rw [h, cold56.2] at h1
      have := Option.some.inj h1
      exact (congrArg Prod.fst this).symm
  subst hk6
  clear hcold hres hL hL2
  simp only [putW]
  go_wp2_with (first | (refine buildSlice1 (c := #[.int .u8 1]) hS rfl rfl rfl ?_ ?_ ?_ ?_; rfl; rfl; rfl; clear hS; intro md w hS; simp only [putW]) | (guard_target =~ Calls _ 23 _ _ _; refine Stopped.out ?_) | (refine load1 hS rfl rfl rfl rfl ?_; simp only [putW]) | (refine loadAll hS rfl rfl rfl ?_ ?_; rfl; simp only [putW]) | (refine loadPart hS rfl rfl rfl ?_ rfl ?_; rfl; simp only [putW]) | (refine store1 hS rfl rfl rfl rfl rfl ?_ ?_; (focus (simp; done)); clear hS; intro w hS; simp only [evW, putW] at hS; try simp only [putW]) | (refine storeAll hS rfl rfl rfl rfl ?_ ?_ ?_ ?_; rfl; (focus (simp [Value.oneCell']; done)); rfl; clear hS; intro w hS; try simp only [putW]) | (refine storeN hS rfl rfl rfl rfl ?_ ?_ ?_ ?_; rfl; (focus (simp [Value.oneCell']; done)); (focus (simp; done)); clear hS; intro w hS; simp at hS; try simp only [putW]) | (refine alloc hS rfl rfl ?_; clear hS; intro mb w hS; simp only [putW]) | (refine box1 hS rfl rfl rfl rfl ?_; clear hS; intro mb w hS; try simp only [evW, putW] at hS; simp only [putW]) | (refine boxN hS rfl rfl rfl ?_; clear hS; intro mb w hS; simp only [putW]))
  refine ⟨?_⟩
  (refine Calls.mono (same_any (hS.readsSl (v := vg) (L := [1]) hb1) (litBs (m := md) hS o1)) ?_; rintro _ w2 ⟨rfl, h2⟩; replace hS := hS.frame h2; clear h2; (try simp only [List.cons_append, List.nil_append] at hS); simp only [putW])
  simp only [decide_true]
  go_wp2_with (first | (refine load1 hS rfl rfl rfl rfl ?_; simp only [putW]) | (refine loadAll hS rfl rfl rfl ?_ ?_; rfl; simp only [putW]) | (refine loadPart hS rfl rfl rfl ?_ rfl ?_; rfl; simp only [putW]) | (refine store1 hS rfl rfl rfl rfl rfl ?_ ?_; (focus (simp; done)); clear hS; intro w hS; simp only [evW, putW] at hS; try simp only [putW]) | (refine storeAll hS rfl rfl rfl rfl ?_ ?_ ?_ ?_; rfl; (focus (simp [Value.oneCell']; done)); rfl; clear hS; intro w hS; try simp only [putW]) | (refine storeN hS rfl rfl rfl rfl ?_ ?_ ?_ ?_; rfl; (focus (simp [Value.oneCell']; done)); (focus (simp; done)); clear hS; intro w hS; simp at hS; try simp only [putW]) | (refine alloc hS rfl rfl ?_; clear hS; intro mb w hS; simp only [putW]) | (refine box1 hS rfl rfl rfl rfl ?_; clear hS; intro mb w hS; try simp only [evW, putW] at hS; simp only [putW]) | (refine boxN hS rfl rfl rfl ?_; clear hS; intro mb w hS; simp only [putW]))
  go_ret
  exact ⟨rfl, hS.nothing⟩
end
end Go.Proofs.Ytlkoclalcfeniaa
