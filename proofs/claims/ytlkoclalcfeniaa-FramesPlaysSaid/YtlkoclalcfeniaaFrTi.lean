/-
  FramesPlays: the document's table against the code's: the plain law.
  FramesPlays: what each act does to the tie.
  FramesPlays: the tie behind a touch and behind a drop.
-/
import Derived.Test.YtlkoclalcfeniaaFrRD
import Derived.Test.YtlkoclalcfeniaaFrXx
set_option linter.unusedSimpArgs false
set_option linter.unusedVariables false
namespace Go.Proofs.Ytlkoclalcfeniaa
open Go.RowKit Go.Shelf Go.Proofs.Ytlkoclalcfeniaa.Sl Go.Proofs.Ytlkoclalcfeniaa.Jp

theorem idx_find {α : Type} (p : α → Bool) : ∀ L : List α, match L.findIdx? p with
    | none => L.find? p = none
    | some i => ∃ e, L[i]? = some e ∧ p e = true ∧ L.find? p = some e
  | [] => rfl
  | x :: L => by
    have ih := idx_find p L
    rw [List.findIdx?_cons]
    by_cases h : p x = true
    · rw [if_pos h]
      exact ⟨x, rfl, h, List.find?_cons_of_pos h⟩
    · rw [if_neg h]
      cases hi : L.findIdx? p with
      | none =>
        rw [hi] at ih
        show (x :: L).find? p = none
        rw [List.find?_cons_of_neg (by simpa using h)]
        exact ih
      | some i =>
        rw [hi] at ih
        obtain ⟨e, h1, h2, h3⟩ := ih
        exact ⟨e, h1, h2, by rw [List.find?_cons_of_neg (by simpa using h)]; exact h3⟩
def fxAt (L : List Fx) (key : Int) : Option Fx := L.find? fun x => x.1 == key
theorem at_cases (L : List Fx) (key : Int) : (atX L key 0 = -1 ∧ fxAt L key = none) ∨ ∃ (i : Nat) (e : Fx), atX L key 0 = i ∧ L[i]? = some e ∧ e.1 = key ∧ fxAt L key = some e := by
  have h := idx_find (fun x : Fx => x.1 == key) L
  unfold atX fxAt
  rw [List.drop_zero]
  cases hi : L.findIdx? (fun x => x.1 == key) with
  | none =>
    rw [hi] at h
    exact .inl ⟨rfl, h⟩
  | some i =>
    rw [hi] at h
    obtain ⟨e, h1, h2, h3⟩ := h
    exact .inr ⟨i, e, by simp, h1, by simpa using h2, h3⟩
/-- The coldest of a list. -/
def IsMin (f : Int → Nat) (L : List Int) (b : Int) : Prop := b ∈ L ∧ ∀ k ∈ L, rankF (f b) < rankF (f k) ∨ (rankF (f b) = rankF (f k) ∧ b ≤ k)
theorem IsMin.unique {f : Int → Nat} {L M : List Int} {a b : Int} (ha : IsMin f L a) (hb : IsMin f M b) (h : L.Perm M) : a = b := by
  have h1 := ha.2 b (h.symm.subset hb.1)
  have h2 := hb.2 a (h.subset ha.1)
  omega
theorem isMin_fold (f : Int → Nat) : ∀ (L : List Int) (a : Int), IsMin f (a :: L) (L.foldl (coldStep2 f) a)
  | [], a => ⟨List.mem_cons_self .., fun k hk => by
    rw [List.mem_singleton.1 hk]
    exact .inr ⟨rfl, Int.le_refl _⟩⟩
  | k :: L, a => by
    obtain ⟨h1, h2⟩ := isMin_fold f L (coldStep2 f a k)
    have hs : coldStep2 f a k = a ∨ coldStep2 f a k = k := by
      unfold coldStep2
      split
      · exact .inr rfl
      · exact .inl rfl
    have hle : ∀ z, z = a ∨ z = k → rankF (f (coldStep2 f a k)) < rankF (f z) ∨ (rankF (f (coldStep2 f a k)) = rankF (f z) ∧ coldStep2 f a k ≤ z) := by
      intro z hz
      unfold coldStep2
      by_cases c : rankF (f k) < rankF (f a) ∨ (rankF (f k) = rankF (f a) ∧ k < a)
      · rw [if_pos c]
        rcases hz with rfl | rfl <;> omega
      · rw [if_neg c]
        rcases hz with rfl | rfl <;> omega
    rw [List.foldl_cons]
    refine ⟨?_, fun z hz => ?_⟩
    · rcases List.mem_cons.1 h1 with h | h
      · rw [h]
        rcases hs with h' | h' <;> rw [h'] <;> simp
      · exact List.mem_cons_of_mem _ (List.mem_cons_of_mem _ h)
    · rcases List.mem_cons.1 hz with rfl | hz
      · have h3 := h2 _ (List.mem_cons_self ..)
        have h4 := hle z (.inl rfl)
        omega
      · rcases List.mem_cons.1 hz with rfl | hz
        · have h3 := h2 _ (List.mem_cons_self ..)
          have h4 := hle z (.inr rfl)
          omega
        · exact h2 z (List.mem_cons_of_mem _ hz)
theorem half_zero : halfF 0 = 0 := by decide
theorem fade_zero' (n : Nat) : fadeF n 0 = 0 := fadeF_fix half_zero n
/-- Both tables, behind i acts. -/
structure Tie13 (FL : Frs) (PW : PinsW) (SL : Shs) (now : Nat) (sp : Spots) (M : Int) (X : X13) (i : Nat) : Prop where
  most : X.most = M
  m1 : 1 ≤ M ∧ M ≤ 40
  nw : X.now = now
  nb : now ≤ i
  nf : (mkeys FL).Nodup
  nx : (keysX X.l).Nodup
  fr : ∀ key, (mget FL key).map (fun f => (f.2.2.1, f.2.2.2)) = (fxAt X.l key).map fun e => (e.2.2.1, e.2.2.2)
  fo : FrOk FL
  xo : FxOk X.l
  fl : (FL.length : Int) ≤ M
  pn : ∀ p : Int × Int, (∃ q ∈ mkeys PW, q.1 = p) ↔ p ∈ X.pins
  pl : X.pins.length ≤ i
  sh : SL.Perm X.shares
  ns : (mkeys SL).Nodup
  s1 : ∀ p ∈ SL, 1 ≤ p.2
  ss : sumS SL ≤ M
  sl : X.shares.length ≤ i
  ht : ∀ key, mget sp key = (X.heat.find? fun s => s.1 == key).map (·.2)
  sn : SpN now X.heat
  so : SpOk now sp
  hl : X.heat.length ≤ i
section
variable {FL : Frs} {PW : PinsW} {SL : Shs} {now : Nat} {sp : Spots} {M : Int} {X : X13} {i : Nat} {key task n : Int}
theorem sum_perm {A B : Shs} (h : A.Perm B) : sumS A = sumS B := by
  induction h with
  | nil => rfl
  | cons x _ ih => simp only [sumS]; omega
  | swap x y l => simp only [sumS]; omega
  | trans _ _ h1 h2 => omega
theorem fxAt_mem {L : List Fx} {e : Fx} (hn : (keysX L).Nodup) (he : e ∈ L) : fxAt L e.1 = some e := by
  induction L with
  | nil => cases he
  | cons x L ih =>
    have hn2 := List.nodup_cons.1 (show (x.1 :: keysX L).Nodup from hn)
    unfold fxAt
    rcases List.mem_cons.1 he with rfl | h
    · rw [List.find?_cons_of_pos (by simp)]
    · have : x.1 ≠ e.1 := fun h' => hn2.1 (by rw [h']; exact List.mem_map.2 ⟨e, h, rfl⟩)
      rw [List.find?_cons_of_neg (by simpa using this)]
      exact ih hn2.2 h
theorem fxAt_some {L : List Fx} {e : Fx} (h : fxAt L key = some e) : e ∈ L ∧ e.1 = key := ⟨List.mem_of_find?_eq_some h, by have := List.find?_some h; simpa using this⟩
theorem Tie13.keys (h : Tie13 FL PW SL now sp M X i) : (mkeys FL).Perm (keysX X.l) := by
  refine (List.perm_ext_iff_of_nodup h.nf h.nx).2 fun k => ?_
  have hk := h.fr k
  constructor
  · intro hm
    cases hg : mget FL k with
    | none => exact absurd hm (mget_none.1 hg)
    | some f =>
      rw [hg] at hk
      cases hx : fxAt X.l k with
      | none => rw [hx] at hk; cases hk
      | some e => exact List.mem_map.2 ⟨e, (fxAt_some hx).1, (fxAt_some hx).2⟩
  · intro hm
    obtain ⟨e, he, rfl⟩ := List.mem_map.1 hm
    rw [fxAt_mem h.nx he] at hk
    cases hg : mget FL e.1 with
    | none => rw [hg] at hk; cases hk
    | some f =>
      by_cases hin : e.1 ∈ mkeys FL
      · exact hin
      · rw [mget_none.2 hin] at hg
        cases hg
theorem Tie13.len (h : Tie13 FL PW SL now sp M X i) : X.l.length = FL.length := by
  have := h.keys.length_eq
  unfold keysX at this
  rw [List.length_map, length_mkeys] at this
  exact this.symm
theorem Tie13.pinned (h : Tie13 FL PW SL now sp M X i) (key : Int) : pinnedB (low PW) key = pinX X.pins key := by
  rw [Bool.eq_iff_iff, pinned_low]
  unfold pinX
  rw [List.any_eq_true]
  constructor
  · rintro ⟨q, hq, h2⟩
    exact ⟨q.1, (h.pn q.1).1 ⟨q, hq, rfl⟩, by simpa using h2⟩
  · rintro ⟨p, hp, h2⟩
    obtain ⟨q, hq, rfl⟩ := (h.pn p).2 hp
    exact ⟨q, hq, by simpa using h2⟩
theorem Tie13.loosep (h : Tie13 FL PW SL now sp M X i) : (loose (low PW) (mkeys FL)).Perm (looseX X.l X.pins) := by
  have e : looseX X.l X.pins = (keysX X.l).filter fun k => !pinX X.pins k := by
    unfold looseX keysX
    rw [List.filter_map]
    rfl
  have e2 : loose (low PW) (mkeys FL) = (mkeys FL).filter fun k => !pinX X.pins k := by
    unfold loose
    refine List.filter_congr fun k _ => ?_
    rw [h.pinned]
  rw [e, e2]
  exact h.keys.filter _
theorem Tie13.known (h : Tie13 FL PW SL now sp M X i) (L : List Int) : Known now sp (ofX X.now X.heat) L := fun k _ => by
  have hk := h.ht k
  unfold spotOf ofX
  rw [hk, h.nw]
  cases hf : X.heat.find? (fun s => s.1 == k) with
  | none =>
    refine ⟨.inr numF_zero, ?_, ?_⟩
    · show rightF (coolF now ((0, 0) : Spot)) = 0
      unfold coolF
      rw [fade_zero']
      decide +kernel
    · show ((0 : Nat) : Int) < _
      decide
  | some s =>
    have hs := h.sn s (List.mem_of_find?_eq_some hf)
    refine ⟨.inr hs.1.1, rfl, ?_⟩
    have h2 := (plus_right (numF_fade (((now : Int) - s.2.2).toNat / 16) hs.1.1).1).1.1
    show ((rightF (coolF now s.2) : Nat) : Int) < _
    unfold coolF
    omega
/-- The victim is the document's. -/
theorem Tie13.victim {L : List Int} {k : Int} {bh : Nat} (h : Tie13 FL PW SL now sp M X i) (hf : ¬ (FL.length : Int) < M) (hL : L.Perm (loose (low PW) (mkeys FL))) (hne : L ≠ []) (hc : ColdIs now sp L L.length k bh) : vicX X = (k, 0) := by
  have hp : L.Perm (looseX X.l X.pins) := hL.trans h.loosep
  unfold vicX
  rw [h.len, h.most, if_neg hf]
  have h1 := (hc.ex (by intro h'; exact hne (List.eq_nil_of_length_eq_zero h')) _ (h.known L)).1
  rw [List.take_of_length_le (Nat.le_refl _)] at h1
  cases hX : looseX X.l X.pins with
  | nil =>
    rw [hX] at hp
    exact absurd (List.Perm.eq_nil hp) hne
  | cons a LL =>
    obtain ⟨b, L2, rfl⟩ := List.exists_cons_of_ne_nil hne
    rw [cold_two] at h1
    have hk : L2.foldl (coldStep2 (ofX X.now X.heat)) b = k := (congrArg Prod.fst (Option.some.inj h1))
    rw [hX] at hp
    have := (isMin_fold (ofX X.now X.heat) L2 b).unique (isMin_fold (ofX X.now X.heat) LL a) hp
    show (LL.foldl (coldStep2 (ofX X.now X.heat)) a, (0 : Int)) = (k, 0)
    rw [← this, hk]
theorem Tie13.victim_none {L : List Int} (h : Tie13 FL PW SL now sp M X i) (hf : ¬ (FL.length : Int) < M) (hL : L.Perm (loose (low PW) (mkeys FL))) (hne : L = []) : vicX X = (0, 12) := by
  have hp : L.Perm (looseX X.l X.pins) := hL.trans h.loosep
  unfold vicX
  rw [h.len, h.most, if_neg hf]
  subst hne
  have he : looseX X.l X.pins = [] := (List.Perm.nil_eq hp).symm
  rw [he]
theorem Tie13.res (h : Tie13 FL PW SL now sp M X i) : resC SL M task n = resX X task n := by
  unfold resC resX
  have hb : 0 < (mget SL task).getD 0 ↔ (X.shares.any fun p => p.1 == task) = true := by
    rw [List.any_eq_true]
    constructor
    · intro hp
      cases hg : mget SL task with
      | none => rw [hg] at hp; exact absurd hp (by decide)
      | some v => exact ⟨(task, v), h.sh.subset (mget_mem hg), by simp⟩
    · rintro ⟨p, hp, h2⟩
      have h3 : p.1 = task := by simpa using h2
      have h4 := h.sh.symm.subset hp
      have h5 := mget_of_mem h.ns (x := p.1) (v := p.2) h4
      rw [← h3, h5]
      have := h.s1 p h4
      show 0 < p.2
      omega
  rw [sum_perm h.sh, h.most]
  by_cases c1 : n < 1
  · rw [if_pos c1, if_pos c1]
  · rw [if_neg c1, if_neg c1]
    by_cases c2 : (X.shares.any fun p => p.1 == task) = true
    · rw [if_pos c2, if_pos (hb.2 c2)]
    · rw [if_neg c2, if_neg fun h' => c2 (hb.1 h')]
end
end Go.Proofs.Ytlkoclalcfeniaa
namespace Go.Proofs.Ytlkoclalcfeniaa
open Go.RowKit Go.Shelf Go.Proofs.Ytlkoclalcfeniaa.Sl Go.Proofs.Ytlkoclalcfeniaa.Jp

theorem memPut {FL : Frs} {key : Int} {y : FrV} {e : Int × FrV} (he : e ∈ mput FL key y) : e ∈ FL ∨ e = (key, y) := by
  unfold mput at he
  split at he
  · rcases List.mem_or_eq_of_mem_set he with h | h
    · exact .inl h
    · exact .inr h
  · rcases List.mem_append.1 he with h | h
    · exact .inl h
    · exact .inr (List.mem_singleton.1 h)
theorem memPutS {SL : Shs} {key y : Int} {e : Int × Int} (he : e ∈ mput SL key y) : e ∈ SL ∨ e = (key, y) := by
  unfold mput at he
  split at he
  · rcases List.mem_or_eq_of_mem_set he with h | h
    · exact .inl h
    · exact .inr h
  · rcases List.mem_append.1 he with h | h
    · exact .inl h
    · exact .inr (List.mem_singleton.1 h)
theorem fxAt_app (L : List Fx) (e : Fx) (k : Int) (h : fxAt L e.1 = none) : fxAt (L ++ [e]) k = if k = e.1 then some e else fxAt L k := by
  unfold fxAt at *
  rw [List.find?_append]
  by_cases hk : k = e.1
  · subst hk
    rw [h, if_pos rfl]
    simp
  · rw [if_neg hk]
    have : ¬ e.1 = k := fun h' => hk h'.symm
    simp [this]
theorem fxAt_set {L : List Fx} {i : Nat} {e e' : Fx} (hn : (keysX L).Nodup) (hi : L[i]? = some e) (he : e'.1 = e.1) (k : Int) : fxAt (L.set i e') k = if k = e.1 then some e' else fxAt L k := by
  induction L generalizing i with
  | nil => simp at hi
  | cons x L ih =>
    have hn2 := List.nodup_cons.1 (show (x.1 :: keysX L).Nodup from hn)
    cases i with
    | zero =>
      have hx : x = e := by simpa using hi
      subst hx
      unfold fxAt
      rw [List.set_cons_zero]
      by_cases hk : k = x.1
      · rw [if_pos hk, List.find?_cons_of_pos (by simp [he, hk])]
      · have : ¬ x.1 = k := fun h' => hk h'.symm
        rw [if_neg hk, List.find?_cons_of_neg (by simp [he, this]), List.find?_cons_of_neg (by simp [this])]
    | succ i =>
      have hi2 : L[i]? = some e := by simpa using hi
      have hne : x.1 ≠ e.1 := fun h' => hn2.1 (by rw [h']; exact List.mem_map.2 ⟨e, List.mem_of_getElem? hi2, rfl⟩)
      have := ih hn2.2 hi2
      unfold fxAt at *
      rw [List.set_cons_succ]
      by_cases hx : x.1 = k
      · rw [List.find?_cons_of_pos (by simp [hx]), List.find?_cons_of_pos (by simp [hx]), if_neg (by rw [← hx]; exact hne)]
      · rw [List.find?_cons_of_neg (by simp [hx]), List.find?_cons_of_neg (by simp [hx])]
        exact this
theorem fxAt_del {L : List Fx} {i : Nat} {e : Fx} (hn : (keysX L).Nodup) (hi : L[i]? = some e) (k : Int) : fxAt (L.take i ++ L.drop (i + 1)) k = if k = e.1 then none else fxAt L k := by
  induction L generalizing i with
  | nil => simp at hi
  | cons x L ih =>
    have hn2 := List.nodup_cons.1 (show (x.1 :: keysX L).Nodup from hn)
    cases i with
    | zero =>
      have hx : x = e := by simpa using hi
      subst hx
      unfold fxAt
      simp only [List.take_zero, List.nil_append, List.drop_succ_cons, List.drop_zero]
      by_cases hk : k = x.1
      · rw [if_pos hk]
        refine List.find?_eq_none.2 fun y hy hyk => hn2.1 ?_
        have : y.1 = x.1 := by rw [← hk]; simpa using hyk
        rw [← this]
        exact List.mem_map.2 ⟨y, hy, rfl⟩
      · have : ¬ x.1 = k := fun h' => hk h'.symm
        rw [if_neg hk, List.find?_cons_of_neg (by simp [this])]
    | succ i =>
      have hi2 : L[i]? = some e := by simpa using hi
      have hne : x.1 ≠ e.1 := fun h' => hn2.1 (by rw [h']; exact List.mem_map.2 ⟨e, List.mem_of_getElem? hi2, rfl⟩)
      have := ih hn2.2 hi2
      unfold fxAt at *
      rw [List.take_succ_cons, List.drop_succ_cons, List.cons_append]
      by_cases hx : x.1 = k
      · rw [List.find?_cons_of_pos (by simp [hx]), List.find?_cons_of_pos (by simp [hx]), if_neg (by rw [← hx]; exact hne)]
      · rw [List.find?_cons_of_neg (by simp [hx]), List.find?_cons_of_neg (by simp [hx])]
        exact this
theorem keysX_set {L : List Fx} {i : Nat} {e e' : Fx} (hi : L[i]? = some e) (he : e'.1 = e.1) : keysX (L.set i e') = keysX L := by
  unfold keysX
  rw [List.map_set, he]
  obtain ⟨h, rfl⟩ := List.getElem?_eq_some_iff.1 hi
  have : (L.map (·.1))[i]'(by simpa using h) = L[i].1 := by simp
  rw [← this]
  exact List.set_getElem_self _
section
variable {FL : Frs} {PW PL2 : PinsW} {SL : Shs} {now : Nat} {sp : Spots} {M : Int} {X : X13} {i : Nat} {key task n : Int}
theorem Tie13.up (h : Tie13 FL PW SL now sp M X i) : Tie13 FL PW SL now sp M X (i + 1) :=
  { h with nb := Nat.le_succ_of_le h.nb, pl := Nat.le_succ_of_le h.pl, sl := Nat.le_succ_of_le h.sl, hl := Nat.le_succ_of_le h.hl }
theorem Tie13.start {M : Int} (h1 : 1 ≤ M) (h2 : M ≤ 40) : Tie13 [] [] [] 0 [] M ⟨M, [], [], [], 0, []⟩ 0 :=
  { most := rfl, m1 := ⟨h1, h2⟩, nw := rfl, nb := Nat.le_refl _, nf := List.nodup_nil, nx := List.nodup_nil, fr := fun _ => rfl, fo := fun p hp => (by cases hp), xo := fun p hp => (by cases hp), fl := (by show (0 : Int) ≤ M; omega), pn := fun p => ⟨fun ⟨q, hq, _⟩ => (by cases hq), fun hp => (by cases hp)⟩, pl := Nat.le_refl _, sh := List.Perm.refl _, ns := List.nodup_nil, s1 := fun p hp => (by cases hp), ss := (by show (0 : Int) ≤ M; omega), sl := Nat.le_refl _, ht := fun _ => rfl, sn := fun p hp => (by cases hp), so := fun p hp => (by cases hp), hl := Nat.le_refl _ }
theorem Tie13.reserve (h : Tie13 FL PW SL now sp M X i) : Tie13 FL PW (if resC SL M task n = 0 then mput SL task n else SL) now sp M (resT X task n) (i + 1) := by
  have hr := h.res (task := task) (n := n)
  unfold resT
  rw [← hr]
  by_cases c : resC SL M task n = 0
  · rw [if_pos c, if_pos c]
    have hc := c
    unfold resC at hc
    have hn1 : ¬ n < 1 := fun h' => by rw [if_pos h'] at hc; cases hc
    rw [if_neg hn1] at hc
    have hg : ¬ 0 < (mget SL task).getD 0 := fun h' => by rw [if_pos h'] at hc; cases hc
    rw [if_neg hg] at hc
    have hl : ¬ M - sumS SL < n := fun h' => by rw [if_pos h'] at hc; cases hc
    have hnone : mget SL task = none := by
      cases hgm : mget SL task with
      | none => rfl
      | some v =>
        exfalso
        apply hg
        rw [hgm]
        have := h.s1 (task, v) (mget_mem hgm)
        show 0 < v
        have h3 : (1 : Int) ≤ v := this
        omega
    have hput : mput SL task n = SL ++ [(task, n)] := by
      have h1 : findL SL task 0 = none := by
        unfold mget at hnone
        simpa using hnone
      unfold mput
      rw [h1]
    rw [hput]
    refine { h.up with sh := h.sh.append_right _, ns := ?_, s1 := ?_, ss := ?_, sl := ?_ }
    · rw [show mkeys (SL ++ [(task, n)]) = mkeys SL ++ [task] by simp [mkeys]]
      exact List.perm_append_comm.nodup_iff.1 (List.nodup_cons.2 ⟨mget_none.1 hnone, h.ns⟩)
    · intro p hp
      rcases List.mem_append.1 hp with h1 | h1
      · exact h.s1 p h1
      · rw [List.mem_singleton.1 h1]
        show 1 ≤ n
        omega
    · rw [sumS_app]
      show sumS SL + (n + 0) ≤ M
      omega
    · have := h.sl
      show (X.shares ++ [(task, n)]).length ≤ i + 1
      simp
      omega
  · rw [if_neg c, if_neg c]
    exact h.up
theorem Tie13.free (h : Tie13 FL PW SL now sp M X i) (hg : Gone PW PL2 [] task) : Tie13 FL PL2 (mdel SL task) now sp M ⟨X.most, X.l, woT X.pins task, woT X.shares task, X.now, X.heat⟩ (i + 1) := by
  refine { h.up with pn := ?_, pl := ?_, sh := ?_, ns := ?_, s1 := ?_, ss := ?_, sl := ?_ }
  · intro p
    constructor
    · rintro ⟨q, hq, rfl⟩
      obtain ⟨h1, h2⟩ := (hg.2 q).1 hq
      have h3 : q.1.1 ≠ task := by
        rcases h2 with h2 | h2
        · cases h2
        · exact h2
      exact List.mem_filter.2 ⟨(h.pn q.1).1 ⟨q, h1, rfl⟩, by simpa using h3⟩
    · intro hp
      obtain ⟨h1, h2⟩ := List.mem_filter.1 (show p ∈ X.pins.filter _ from hp)
      obtain ⟨q, hq, rfl⟩ := (h.pn p).2 h1
      exact ⟨q, (hg.2 q).2 ⟨hq, .inr (by simpa using h2)⟩, rfl⟩
  · exact Nat.le_trans (List.length_filter_le _ _) (Nat.le_succ_of_le h.pl)
  · exact h.sh.filter _
  · rw [mkeys_mdel]
    exact h.ns.filter _
  · intro p hp
    exact h.s1 p (List.mem_filter.1 hp).1
  · have h1 : ∀ L : Shs, (∀ p ∈ L, 1 ≤ p.2) → sumS (mdel L task) ≤ sumS L := by
      intro L
      induction L with
      | nil => intro _; exact Int.le_refl _
      | cons p L ih =>
        intro hp
        have h2 := ih fun q hq => hp q (List.mem_cons_of_mem _ hq)
        have h3 := hp p (List.mem_cons_self ..)
        unfold mdel at h2 ⊢
        rw [List.filter_cons]
        split
        · simp only [sumS]; omega
        · simp only [sumS]; omega
    have := h1 SL h.s1
    have h2 := h.ss
    omega
  · exact Nat.le_trans (List.length_filter_le _ _) (Nat.le_succ_of_le h.sl)
theorem Tie13.pin (h : Tie13 FL PW SL now sp M X i) (pk : PinW) : Tie13 FL (mput PW pk ()) SL now sp M ⟨X.most, X.l, X.pins ++ [pk.1], X.shares, X.now, X.heat⟩ (i + 1) := by
  refine { h.up with pn := ?_, pl := ?_ }
  · intro p
    rw [mkeys_mput, List.mem_append, List.mem_singleton]
    by_cases hin : pk ∈ mkeys PW
    · rw [if_pos hin, h.pn]
      constructor
      · exact .inl
      · rintro (h1 | rfl)
        · exact h1
        · exact (h.pn _).1 ⟨pk, hin, rfl⟩
    · rw [if_neg hin]
      constructor
      · rintro ⟨q, hq, rfl⟩
        rcases List.mem_append.1 hq with h1 | h1
        · exact .inl ((h.pn _).1 ⟨q, h1, rfl⟩)
        · rw [List.mem_singleton.1 h1]
          exact .inr rfl
      · rintro (h1 | rfl)
        · obtain ⟨q, hq, rfl⟩ := (h.pn p).2 h1
          exact ⟨q, List.mem_append_left _ hq, rfl⟩
        · exact ⟨pk, List.mem_append_right _ (List.mem_cons_self ..), rfl⟩
  · have := h.pl
    show (X.pins ++ [pk.1]).length ≤ i + 1
    simp
    omega
theorem Tie13.putNew {f : Nat} {v v' : Value} {A : List Int} {b : Bool} (h : Tie13 FL PW SL now sp M X i) (hg : mget FL key = none) (hlt : (FL.length : Int) < M) (hA : A.length ≤ 1000000 ∧ ∀ b ∈ A, okByte b) : Tie13 (FL ++ [(key, (some ⟨f, 0, none⟩, v, A, b))]) PW SL now sp M ⟨X.most, X.l ++ [(key, v', A, b)], X.pins, X.shares, X.now, X.heat⟩ (i + 1) := by
  have hx : fxAt X.l key = none := by
    have := h.fr key
    rw [hg] at this
    cases hx : fxAt X.l key with
    | none => rfl
    | some e => rw [hx] at this; cases this
  have hnk : key ∉ keysX X.l := fun hm => by
    obtain ⟨e, he, rfl⟩ := List.mem_map.1 hm
    rw [fxAt_mem h.nx he] at hx
    cases hx
  refine { h.up with nf := ?_, nx := ?_, fr := ?_, fo := ?_, xo := ?_, fl := ?_ }
  · rw [show mkeys (FL ++ [(key, ((some ⟨f, 0, none⟩, v, A, b) : FrV))]) = mkeys FL ++ [key] by simp [mkeys]]
    exact List.perm_append_comm.nodup_iff.1 (List.nodup_cons.2 ⟨mget_none.1 hg, h.nf⟩)
  · show (keysX (X.l ++ [(key, v', A, b)])).Nodup
    rw [show keysX (X.l ++ [(key, v', A, b)]) = keysX X.l ++ [key] by simp [keysX]]
    exact List.perm_append_comm.nodup_iff.1 (List.nodup_cons.2 ⟨hnk, h.nx⟩)
  · intro k
    show _ = (fxAt (X.l ++ [(key, v', A, b)]) k).map _
    rw [fxAt_app X.l (key, v', A, b) k hx, mget_append]
    by_cases hk : k = key
    · subst hk
      rw [hg, if_pos rfl, mget_cons, if_pos rfl]
      rfl
    · rw [if_neg hk, mget_cons, if_neg hk, mget_nil, Option.or_none]
      exact h.fr k
  · intro p hp
    rcases List.mem_append.1 hp with h1 | h1
    · exact h.fo p h1
    · rw [List.mem_singleton.1 h1]
      exact ⟨f, rfl, hA⟩
  · intro p hp
    rcases List.mem_append.1 (show p ∈ X.l ++ [(key, v', A, b)] from hp) with h1 | h1
    · exact h.xo p h1
    · rw [List.mem_singleton.1 h1]
      exact hA
  · rw [List.length_append]
    show (((FL.length + 1 : Nat)) : Int) ≤ M
    omega
/-- A frame is written over. -/
theorem Tie13.over {j : Nat} {x : FrV} {e : Fx} {v v' : Value} {A : List Int} {b : Bool} (h : Tie13 FL PW SL now sp M X i) (hg : mget FL key = some x) (hj : X.l[j]? = some e) (he : e.1 = key) (hA : A.length ≤ 1000000 ∧ ∀ b ∈ A, okByte b) : Tie13 (mput FL key (x.1, v, A, b)) PW SL now sp M ⟨X.most, X.l.set j (key, v', A, b), X.pins, X.shares, X.now, X.heat⟩ (i + 1) := by
  have hin : key ∈ mkeys FL := by
    by_cases hm : key ∈ mkeys FL
    · exact hm
    · rw [mget_none.2 hm] at hg; cases hg
  refine { h.up with nf := ?_, nx := ?_, fr := ?_, fo := ?_, xo := ?_, fl := ?_ }
  · rw [mkeys_mput, if_pos hin]
    exact h.nf
  · show (keysX (X.l.set j (key, v', A, b))).Nodup
    rw [keysX_set hj he.symm]
    exact h.nx
  · intro k
    show _ = (fxAt (X.l.set j (key, v', A, b)) k).map _
    rw [fxAt_set (e' := (key, v', A, b)) h.nx hj he.symm k, mget_mput, he]
    by_cases hk : k = key
    · rw [if_pos hk, if_pos hk]
      rfl
    · rw [if_neg hk, if_neg hk]
      exact h.fr k
  · intro p hp
    rcases memPut hp with h1 | rfl
    · exact h.fo p h1
    · obtain ⟨f, hf, -⟩ := h.fo _ (mget_mem hg)
      exact ⟨f, hf, hA⟩
  · intro p hp
    rcases List.mem_or_eq_of_mem_set (show p ∈ X.l.set j (key, v', A, b) from hp) with h1 | rfl
    · exact h.xo p h1
    · exact hA
  · rw [length_mput, if_pos hin]
    exact h.fl
end
end Go.Proofs.Ytlkoclalcfeniaa
namespace Go.Proofs.Ytlkoclalcfeniaa
open Go.RowKit Go.Shelf Go.Proofs.Ytlkoclalcfeniaa.Sl Go.Proofs.Ytlkoclalcfeniaa.Jp

theorem sumR_plus (a b : Nat) : PlusF (sumR a b) := by
  unfold sumR
  split
  · rename_i s h
    have hw := floatBits_wf h
    have h2 : s < 18446744073709551616 := by simpa [Lit.wf] using hw
    exact plus_right h2
  · exact ⟨numF_zero, fun _ => rfl⟩
def hAt (SL : List Sp3) (k : Int) : Option Sp3 := SL.find? fun s => s.1 == k
theorem hAt_no (SL : List Sp3) (key k : Int) : hAt (noKey SL key) k = if k = key then none else hAt SL k := by
  unfold hAt noKey
  by_cases hk : k = key
  · rw [if_pos hk]
    refine List.find?_eq_none.2 fun s hs h2 => ?_
    have h3 := (List.mem_filter.1 hs).2
    have h4 : s.1 = k := by simpa using h2
    rw [h4, hk] at h3
    simp at h3
  · rw [if_neg hk]
    induction SL with
    | nil => rfl
    | cons s SL ih =>
      rw [List.filter_cons]
      by_cases h1 : s.1 = key
      · rw [if_neg (by simp [h1]), ih, List.find?_cons_of_neg (by rw [h1]; simpa using fun h => hk h.symm)]
      · rw [if_pos (by simp [h1])]
        by_cases h2 : s.1 = k
        · rw [List.find?_cons_of_pos (by simp [h2]), List.find?_cons_of_pos (by simp [h2])]
        · rw [List.find?_cons_of_neg (by simp [h2]), List.find?_cons_of_neg (by simp [h2]), ih]
section
variable {FL : Frs} {PW PL2 : PinsW} {SL : Shs} {now : Nat} {sp : Spots} {M : Int} {X : X13} {i : Nat} {key task n : Int}
theorem Tie13.num (h : Tie13 FL PW SL now sp M X i) (key : Int) : NumF (spotOf sp key).1 := by
  unfold spotOf
  rw [h.ht key]
  cases hf : X.heat.find? (fun s => s.1 == key) with
  | none => exact numF_zero
  | some s => exact (h.sn s (List.mem_of_find?_eq_some hf)).1.1
theorem Tie13.heat (h : Tie13 FL PW SL now sp M X i) (m : Nat) (key : Int) : rightF (coolF m (spotOf sp key)) = ofX m X.heat key := by
  unfold spotOf ofX
  rw [h.ht key]
  cases hf : X.heat.find? (fun s => s.1 == key) with
  | none =>
    show rightF (coolF m ((0, 0) : Spot)) = 0
    unfold coolF
    rw [fade_zero']
    decide +kernel
  | some s => rfl
theorem Tie13.touch {r b : Nat} (h : Tie13 FL PW SL now sp M X i) (hr : (((now : Int) + 1 - (spotOf sp key).2 < 16 ∨ NumF (spotOf sp key).1) → r = sumR (rightF (coolF (now + 1) (spotOf sp key))) b)) : Tie13 FL PW SL (now + 1) (mput sp key (r, ((now + 1 : Nat) : Int))) M (touT X key b) (i + 1) := by
  have hr2 := hr (.inr (h.num key))
  rw [h.heat] at hr2
  have hX : (touT X key b).heat = noKey X.heat key ++ [(key, r, ((now + 1 : Nat) : Int))] := by
    show touchX X.now X.heat key b = _
    unfold touchX
    rw [h.nw, hr2]
  refine { most := h.most, m1 := h.m1, nw := ?_, nb := ?_, nf := h.nf, nx := h.nx, fr := h.fr, fo := h.fo, xo := h.xo, fl := h.fl, pn := h.pn, pl := Nat.le_succ_of_le h.pl, sh := h.sh, ns := h.ns, s1 := h.s1, ss := h.ss, sl := Nat.le_succ_of_le h.sl, ht := ?_, sn := ?_, so := h.so.next key, hl := ?_ }
  · show X.now + 1 = now + 1
    rw [h.nw]
  · have := h.nb; omega
  · intro k
    rw [hX, mget_mput]
    show _ = (hAt _ k).map _
    have e : hAt (noKey X.heat key ++ [(key, r, ((now + 1 : Nat) : Int))]) k = if k = key then some (key, r, ((now + 1 : Nat) : Int)) else hAt X.heat k := by
      have e1 : hAt (noKey X.heat key ++ [(key, r, ((now + 1 : Nat) : Int))]) k = (hAt (noKey X.heat key) k).or (hAt [(key, r, ((now + 1 : Nat) : Int))] k) := by
        unfold hAt
        rw [List.find?_append]
      rw [e1, hAt_no]
      by_cases hk : k = key
      · rw [if_pos hk, if_pos hk]
        unfold hAt
        simp [hk]
      · rw [if_neg hk, if_neg hk]
        have : ¬ key = k := fun h' => hk h'.symm
        unfold hAt
        simp [this]
    rw [e]
    by_cases hk : k = key
    · rw [if_pos hk, if_pos hk]
      rfl
    · rw [if_neg hk, if_neg hk]
      exact h.ht k
  · rw [hX]
    intro s hs
    rcases List.mem_append.1 hs with h1 | h1
    · have := h.sn s (List.mem_filter.1 h1).1
      exact ⟨this.1, this.2.1, by have := this.2.2; omega⟩
    · rw [List.mem_singleton.1 h1]
      refine ⟨?_, ?_, Int.le_refl _⟩
      · show PlusF r
        rw [hr2]
        exact sumR_plus _ _
      · show (0 : Int) ≤ ((now + 1 : Nat) : Int)
        omega
  · rw [hX, List.length_append]
    have h1 := noKey_len X.heat key
    have h2 := h.hl
    show (noKey X.heat key).length + 1 ≤ i + 1
    omega
theorem Tie13.drop {j : Nat} {e : Fx} (h : Tie13 FL PW SL now sp M X i) (hj : X.l[j]? = some e) (he : e.1 = key) : Tie13 (mdel FL key) PW SL now (mdel sp key) M (dropT X j key) (i + 1) := by
  have hsub : (X.l.take j ++ X.l.drop (j + 1)).Sublist X.l := by
    have h1 : X.l = X.l.take j ++ X.l.drop j := (List.take_append_drop j X.l).symm
    conv => rhs; rw [h1]
    refine List.Sublist.append (List.Sublist.refl _) ?_
    rw [show X.l.drop (j + 1) = (X.l.drop j).drop 1 by rw [List.drop_drop]]
    exact List.drop_sublist 1 _
  refine { most := h.most, m1 := h.m1, nw := h.nw, nb := Nat.le_succ_of_le h.nb, nf := ?_, nx := ?_, fr := ?_, fo := ?_, xo := ?_, fl := ?_, pn := h.pn, pl := Nat.le_succ_of_le h.pl, sh := h.sh, ns := h.ns, s1 := h.s1, ss := h.ss, sl := Nat.le_succ_of_le h.sl, ht := ?_, sn := ?_, so := h.so.del key, hl := ?_ }
  · rw [mkeys_mdel]
    exact h.nf.filter _
  · show (keysX (X.l.take j ++ X.l.drop (j + 1))).Nodup
    exact h.nx.sublist (hsub.map _)
  · intro k
    show _ = (fxAt (X.l.take j ++ X.l.drop (j + 1)) k).map _
    rw [fxAt_del h.nx hj k, mget_mdel, he]
    by_cases hk : k = key
    · rw [if_pos hk, if_pos hk]
      rfl
    · rw [if_neg hk, if_neg hk]
      exact h.fr k
  · intro p hp
    exact h.fo p (List.mem_filter.1 hp).1
  · intro p hp
    exact h.xo p (hsub.subset hp)
  · have h1 : (mdel FL key).length ≤ FL.length := List.length_filter_le _ _
    have := h.fl
    omega
  · intro k
    show _ = (hAt (noKey X.heat key) k).map _
    rw [hAt_no, mget_mdel]
    by_cases hk : k = key
    · rw [if_pos hk, if_pos hk]
      rfl
    · rw [if_neg hk, if_neg hk]
      exact h.ht k
  · intro s hs
    exact h.sn s (List.mem_filter.1 (show s ∈ X.heat.filter _ from hs)).1
  · exact Nat.le_trans (noKey_len X.heat key) (Nat.le_succ_of_le h.hl)
end
end Go.Proofs.Ytlkoclalcfeniaa
