/-
  FramesShares: the victim under the law's own account; a frame taken out.
-/
import Derived.Test.YtlkoclalcfeniaaFrGreat
import Derived.Deep.CutRange
import Derived.Deep.CutBlock
set_option linter.unusedSimpArgs false
set_option linter.unusedVariables false
namespace Go.Proofs.Ytlkoclalcfeniaa
open Go.RowKit Go.Proofs.Ytlkoclalcfeniaa.Sl Go.Proofs.Ytlkoclalcfeniaa.Jp

theorem keysOf {κ β : Type} {enc : κ → Value} {ve : β → Value} {l : List (κ × β)} {w0 w : World} {b : Nat} {S F : List Chunk} (h : Sat w0 S w) [Pull S b (mapC enc ve l) F] : (mkeys l).Nodup := by
  obtain ⟨_, _, _, _, _, h, _⟩ := Sat.map (enc := enc) (ve := ve) (l := l) (b := b) h
  exact h
theorem filter_ne_self {FL : Frs} {key : Int} (h : key ∉ mkeys FL) : FL.filter (fun p => decide (p.1 ≠ key)) = FL := by
  rw [List.filter_eq_self]
  intro p hp
  have : p.1 ≠ key := fun e => h (e ▸ List.mem_map.2 ⟨p, hp, rfl⟩)
  simpa using this
theorem mdel_mid {FL1 FL2 : Frs} {key : Int} {x : FrV} (hn : (mkeys (FL1 ++ (key, x) :: FL2)).Nodup) : mdel (FL1 ++ (key, x) :: FL2) key = FL1 ++ FL2 := by
  unfold mkeys at hn
  rw [List.map_append, List.map_cons, List.nodup_append] at hn
  obtain ⟨-, h2, h3⟩ := hn
  have h1 : key ∉ mkeys FL1 := fun hm => h3 key hm key (by simp) rfl
  have h4 : key ∉ mkeys FL2 := (List.nodup_cons.1 h2).1
  unfold mdel
  rw [List.filter_append, List.filter_cons, filter_ne_self h1, filter_ne_self h4]
  simp
section
variable {w0 w : World} {K F S : List Chunk} {t j : Nat} {T : Tb} {FL : Frs} {PL : PinsW} {SL : Shs} {H P : List Int} {now : Nat} {sp : Spots} {key n : Int} {i : Nat}
theorem frCut (hx : (mget FL key).isSome = true) (hn : (mkeys FL).Nodup) (h : Sat w0 ((j, frC FL) :: F) w) : Sat w0 ((j, frC (mdel FL key)) :: F) w := by
  obtain ⟨x, hx2⟩ := Option.isSome_iff_exists.1 hx
  obtain ⟨FL1, FL2, rfl⟩ := mget_split hx2
  rw [mdel_mid hn]
  exact (frPull h).tail.tail
theorem mdel_len (hx : (mget FL key).isSome = true) (hn : (mkeys FL).Nodup) : (mdel FL key).length + 1 = FL.length := by
  obtain ⟨x, hx2⟩ := Option.isSome_iff_exists.1 hx
  obtain ⟨FL1, FL2, rfl⟩ := mget_split hx2
  rw [mdel_mid hn]
  simp only [List.length_append, List.length_cons]
  omega
set_option maxRecDepth 100000 in
set_option maxHeartbeats 2000000 in
theorem victim_lt (hm : (FL.length : Int) < T.most) (hS : Sat w0 ((t, cells (tbC T) 65) :: (T.fm, mapC encInt frV FL) :: K) w) :
    Calls Try.prog 13 #[.pointer (some ⟨t, 0, none⟩)] w fun e w' => e = .returned (.tuple #[.int .i64 0, .int .i64 5]) ∧ Sat w0 ((t, cells (tbC T) 65) :: (T.fm, mapC encInt frV FL) :: K) w' := by
  obtain ⟨nF, hnF⟩ : ∃ n, FL.length = n := ⟨_, rfl⟩
  have HnF : Bx _ := ⟨hnF⟩
  rw [hnF] at hm
  have hlt : decide ((nF : Int) < T.most) = true := decide_eq_true hm
  clear hnF
  go_enter Try.func13, Try.ntmps13
  go_upto_region 1 with (first | (refine load1 hS rfl rfl rfl rfl ?_; simp only [putW]) | (refine loadAll hS rfl rfl rfl ?_ ?_; rfl; simp only [putW]) | (refine loadPart hS rfl rfl rfl ?_ rfl ?_; rfl; simp only [putW]) | (refine store1 hS rfl rfl rfl rfl rfl ?_ ?_; (focus (simp; done)); clear hS; intro w hS; simp only [evW, putW] at hS; try simp only [putW]) | (refine storeAll hS rfl rfl rfl rfl ?_ ?_ ?_ ?_; rfl; (focus (simp [Value.oneCell']; done)); rfl; clear hS; intro w hS; try simp only [putW]) | (refine storeN hS rfl rfl rfl rfl ?_ ?_ ?_ ?_; rfl; (focus (simp [Value.oneCell']; done)); (focus (simp; done)); clear hS; intro w hS; simp at hS; try simp only [putW]) | (refine alloc hS rfl rfl ?_; clear hS; intro mb w hS; simp only [putW]) | (refine box1 hS rfl rfl rfl rfl ?_; clear hS; intro mb w hS; try simp only [evW, putW] at hS; simp only [putW]) | (refine boxN hS rfl rfl rfl ?_; clear hS; intro mb w hS; simp only [putW]))
  (refine region_quiet hS (by kernel_rfl) (by kernel_rfl) (by kernel_rfl) ?_; clear hS; (repeat (apply quiet_step; (focus (intro w hS; go_wp2_with (first | (refine lenMap (enc := encInt) (ve := frV) (l := FL) hS rfl rfl rfl ?_; rw [HnF.out]; simp only [putW]) | (refine load1 hS rfl rfl rfl rfl ?_; simp only [putW]) | (refine loadAll hS rfl rfl rfl ?_ ?_; rfl; simp only [putW]) | (refine loadPart hS rfl rfl rfl ?_ rfl ?_; rfl; simp only [putW])); exact ⟨rfl, rfl, hS⟩)); simp only [putW])); refine quiet_nil ?_; intro w hS)
  go_wp2_with (first | (refine load1 hS rfl rfl rfl rfl ?_; simp only [putW]) | (refine loadAll hS rfl rfl rfl ?_ ?_; rfl; simp only [putW]) | (refine loadPart hS rfl rfl rfl ?_ rfl ?_; rfl; simp only [putW]) | (refine store1 hS rfl rfl rfl rfl rfl ?_ ?_; (focus (simp; done)); clear hS; intro w hS; simp only [evW, putW] at hS; try simp only [putW]) | (refine storeAll hS rfl rfl rfl rfl ?_ ?_ ?_ ?_; rfl; (focus (simp [Value.oneCell']; done)); rfl; clear hS; intro w hS; try simp only [putW]) | (refine storeN hS rfl rfl rfl rfl ?_ ?_ ?_ ?_; rfl; (focus (simp [Value.oneCell']; done)); (focus (simp; done)); clear hS; intro w hS; simp at hS; try simp only [putW]) | (refine alloc hS rfl rfl ?_; clear hS; intro mb w hS; simp only [putW]) | (refine box1 hS rfl rfl rfl rfl ?_; clear hS; intro mb w hS; try simp only [evW, putW] at hS; simp only [putW]) | (refine boxN hS rfl rfl rfl ?_; clear hS; intro mb w hS; simp only [putW]))
  refine bodyPost_ret (v := .tuple #[.int .i64 0, .int .i64 5]) (by simp [results, Try.results13]) rfl ⟨rfl, hS.conv⟩
theorem sp00 : SpOk 0 [] := fun p hp => by cases hp
set_option maxRecDepth 100000 in
/-- The victim, as the law's own account has it. -/
theorem victimH (h : Hold SL PL FL H P n i) (hT : T.most = n) (hn : n ≤ 1024) (hS : Sat w0 ((t, cells (tbC T) 65) :: (T.fm, mapC encInt frV FL) :: (T.pm, mapC encW uV PL) :: (T.hp, HeatC 0 []) :: K) w) :
    Calls Try.prog 13 #[.pointer (some ⟨t, 0, none⟩)] w fun e w' => ∃ kk ff : Int, e = .returned (.tuple #[.int .i64 kk, .int .i64 ff]) ∧
      ((ff = 5 ∧ (FL.length : Int) < n) ∨ (ff = 12 ∧ H.sum ≤ 0) ∨ (ff = 0 ∧ (FL.length : Int) = n ∧ (mget FL kk).isSome = true ∧ pinnedB (low PL) kk = false)) ∧
      Sat w0 ((t, cells (tbC T) 65) :: (T.fm, mapC encInt frV FL) :: (T.pm, mapC encW uV PL) :: (T.hp, HeatC 0 []) :: K) w' := by
  by_cases hl : (FL.length : Int) < n
  · refine Calls.mono (victim_lt (by rw [hT]; exact hl) hS) ?_
    rintro e w ⟨rfl, hS⟩
    exact ⟨0, 5, rfl, .inl ⟨rfl, hl⟩, hS⟩
  · have hnd := keysOf (b := T.fm) (l := FL) hS
    have hfl := h.fl
    have hS1 := toLow (PL := PL) (b := T.pm) hS
    refine Calls.mono (victim_any (K := K) (PL := low PL) (FL := FL) (T := T) (now := 0) (sp := []) (by omega) (by rw [hT]; exact hl) (by omega) sp00 hS1.conv) ?_
    rintro e w ⟨⟨L, hL, hres⟩, hS2⟩
    have hS3 := (ofLow (PL := PL) (b := T.pm) hS2).conv (S' := (t, cells (tbC T) 65) :: (T.fm, mapC encInt frV FL) :: (T.pm, mapC encW uV PL) :: (T.hp, HeatC 0 []) :: K)
    rcases hres with ⟨rfl, rfl⟩ | ⟨k, bh, hne, hc, rfl⟩
    · refine ⟨0, 12, rfl, .inr (.inl ⟨rfl, ?_⟩), hS3⟩
      by_cases h0 : 0 < H.sum
      · exact absurd hL.symm.eq_nil (h.victim hnd (by omega) h0)
      · omega
    · have h1 := hc.mem (fun h => hne (List.eq_nil_of_length_eq_zero h))
      have h2 := hL.subset (List.mem_of_mem_take h1)
      have h3 := List.mem_filter.1 h2
      refine ⟨k, 0, rfl, .inr (.inr ⟨rfl, by omega, ?_, by simpa using h3.2⟩), hS3⟩
      cases hg : mget FL k with
      | some x => rfl
      | none => exact absurd h3.1 (mget_none.1 hg)
theorem Hold.pos (h : Hold SL PL FL H P n i) {j : Nat} {y : Int} (hy : H[j]? = some y) : 0 ≤ y := by
  have hj : j < 5 := by rw [← h.hl]; exact (List.getElem?_eq_some_iff.1 hy).1
  obtain ⟨p, hp⟩ : ∃ p, P[j]? = some p := ⟨_, List.getElem?_eq_getElem (by rw [h.pl]; exact hj)⟩
  exact (h.lt j p y hp hy).2.1
theorem sum_pos : ∀ {l : List Int}, (∀ y ∈ l, 0 ≤ y) → 0 ≤ l.sum
  | [], _ => by simp
  | a :: l, h => by
    have h1 := h a (by simp)
    have h2 := sum_pos (l := l) fun y hy => h y (by simp [hy])
    simp only [List.sum_cons]
    omega
theorem le_sum : ∀ {l : List Int} {j : Nat} {x : Int}, (∀ y ∈ l, 0 ≤ y) → l[j]? = some x → x ≤ l.sum
  | [], _, _, _, hj => by simp at hj
  | a :: l, 0, x, h, hj => by
    simp at hj
    subst hj
    have h2 := sum_pos (l := l) fun y hy => h y (by simp [hy])
    simp only [List.sum_cons]
    omega
  | a :: l, j + 1, x, h, hj => by
    have h1 := h a (by simp)
    have h2 := le_sum (l := l) (j := j) (x := x) (fun y hy => h y (by simp [hy])) (by simpa using hj)
    simp only [List.sum_cons]
    omega
theorem Hold.le_sum (h : Hold SL PL FL H P n i) {k : Nat} {x : Int} (hx : H[k]? = some x) : x ≤ H.sum :=
  Ytlkoclalcfeniaa.le_sum (fun y hy => by obtain ⟨j, hj⟩ := List.getElem?_of_mem hy; exact h.pos hj) hx
theorem Hold.each (h : Hold SL PL FL H P n i) {k : Nat} {x : Int} (hx : H[k]? = some x) : 0 ≤ x ∧ x ≤ n := by
  have h1 := h.pos hx
  have h2 := h.le_sum hx
  have := h.ss
  have := h.sn
  exact ⟨h1, by omega⟩
theorem sum_take {L : List Int} {k : Nat} {x : Int} (hx : L[k]? = some x) : (L.take (k + 1)).sum = (L.take k).sum + x := by
  rw [List.take_add_one, hx]
  simp
theorem Hold.part (h : Hold SL PL FL H P n i) : ∀ k : Nat, 0 ≤ (H.take k).sum ∧ (H.take k).sum ≤ n * k
  | 0 => by simp
  | k + 1 => by
    have ih := h.part k
    cases hx : H[k]? with
    | none =>
      rw [List.take_add_one, hx]
      have h0 := h.each (k := 0) (x := (H[0]?).getD 0) (by rw [List.getElem?_eq_getElem (by rw [h.hl]; decide)]; rfl)
      simp only [Option.toList_none, List.append_nil]
      refine ⟨ih.1, ?_⟩
      have : n * ((k + 1 : Nat) : Int) = n * (k : Int) + n := by rw [Int.natCast_add, Int.mul_add]; simp
      omega
    | some x =>
      rw [sum_take hx]
      have h0 := h.each hx
      have : n * ((k + 1 : Nat) : Int) = n * (k : Int) + n := by rw [Int.natCast_add, Int.mul_add]; simp
      omega
theorem Hold.whole (h : Hold SL PL FL H P n i) : (H.take 5).sum = H.sum := by
  rw [List.take_of_length_le (by rw [h.hl]; exact Nat.le_refl _)]
end
end Go.Proofs.Ytlkoclalcfeniaa
