/-
  FramesHave: the plain law: the table against the law's own account of keys and bytes.
-/
import Derived.Test.YtlkoclalcfeniaaFrPut
import Derived.Test.YtlkoclalcfeniaaFrKeys
import Derived.Test.YtlkoclalcfeniaaFrActs
set_option linter.unusedSimpArgs false
set_option linter.unusedVariables false
namespace Go.Proofs.Ytlkoclalcfeniaa
open Go.RowKit Go.Proofs.Ytlkoclalcfeniaa.Sl Go.Proofs.Ytlkoclalcfeniaa.Jp

theorem len_le_of_sub' {α : Type} [DecidableEq α] : ∀ {l m : List α}, l.Nodup → (∀ x ∈ l, x ∈ m) → l.length ≤ m.length
  | [], _, _, _ => Nat.zero_le _
  | x :: l, m, hn, hs => by
    obtain ⟨a, b, rfl⟩ := List.append_of_mem (hs x (by simp))
    have hn2 := List.nodup_cons.1 hn
    have h1 : ∀ y ∈ l, y ∈ a ++ b := fun y hy => by
      have h2 := hs y (by simp [hy])
      have h3 : y ≠ x := fun e => hn2.1 (e ▸ hy)
      rcases List.mem_append.1 h2 with h | h
      · exact List.mem_append_left _ h
      · rcases List.mem_cons.1 h with h | h
        · exact absurd h h3
        · exact List.mem_append_right _ h
    have h4 := len_le_of_sub' hn2.2 h1
    simp only [List.length_append, List.length_cons] at h4 ⊢
    omega
/-- An act that came in, its numbers known to be ints. -/
def AcInK (w : World) (x : Ac13) : Prop := AcIn w x ∧ okI x.1.1 ∧ okI x.1.2.1 ∧ okI x.1.2.2
theorem okOf {n : Int} (hn : (Lit.int .i64 n).wf = true) : okI n := by
  simp [Lit.wf, IntKind.min, IntKind.max, IntKind.bits, IntKind.signed] at hn
  exact ⟨by omega, by omega⟩
theorem decAct13K {w : World} {us : List Value} (h : OkL w [.int .i64, .int .i64, .int .i64, .sl [.int .u8], .bool, .float .f64] us) : ∃ x : Ac13, acF x = us ∧ AcInK w x := by
  match us, h with
  | [a, b, c, d, e, f], ⟨ha, hb, hc, hd, he, hf, _⟩ =>
    obtain ⟨B, hB⟩ := decBytes (w := w) (v := d) ⟨hd, trivial⟩
    cases ha with
    | int _ n1 h1 =>
    cases hb with
    | int _ n2 h2 =>
    cases hc with
    | int _ n3 h3 =>
    cases he with
    | bool b1 =>
    cases hf with
    | float _ f1 _ => exact ⟨((n1, n2, n3), (d, B), b1, f1), rfl, hB, okOf h1, okOf h2, okOf h3⟩
theorem decActs13K {w : World} {v : Value} (h : OkL w [.sl [.int .i64, .int .i64, .int .i64, .sl [.int .u8], .bool, .float .f64]] [v]) : ∃ L : List Ac13, BSl w 6 acF (AcInK w) L v :=
  toBSl (f := acF) (g := AcInK w) h.1 (by decide) fun _ hu => decAct13K hu
theorem atLow {w : World} {L : List Ac13} {b off : Nat} (h : BAt w 6 acF (AcInK w) L b off) : BAt w 6 acF (AcIn w) L b off := ⟨h.1, fun i x hx => ⟨(h.2 i x hx).1.1, (h.2 i x hx).2⟩⟩

/-- A list with its last element laid over place i, and the last taken off. -/
def swapOff {α : Type} (L : List α) (i : Nat) (z : α) : List α := (L.set i z).take (L.length - 1)
section
variable {α : Type} {L : List α} {i : Nat} {x z : α}
theorem swapOff_len (L : List α) (i : Nat) (z : α) : (swapOff L i z).length = L.length - 1 := by
  unfold swapOff
  rw [List.length_take, List.length_set]
  omega
theorem swapOff_get {j : Nat} (hj : j < L.length - 1) : (swapOff L i z)[j]? = if j = i then some z else L[j]? := by
  unfold swapOff
  rw [List.getElem?_take, if_pos hj, List.getElem?_set]
  by_cases e : i = j
  · subst e
    rw [if_pos rfl, if_pos (by omega), if_pos rfl]
  · rw [if_neg e, if_neg (fun h => e h.symm)]
theorem swapOff_perm (hx : L[i]? = some x) (hz : L[L.length - 1]? = some z) : L.Perm (x :: swapOff L i z) := by
  have hi := (List.getElem?_eq_some_iff.1 hx).1
  obtain ⟨m, hm⟩ : ∃ m, L.length = m + 1 := ⟨L.length - 1, by omega⟩
  have hs := split_get hz
  rw [hm, Nat.add_sub_cancel] at hs hz
  rw [List.drop_eq_nil_of_le (by omega)] at hs
  unfold swapOff
  rw [hm, Nat.add_sub_cancel]
  have h1 : L.Perm (z :: L.take m) := by
    have h2 : (L.take m ++ [z]).Perm (z :: (L.take m ++ [])) := List.perm_middle
    rw [List.append_nil] at h2
    rw [← hs] at h2
    exact h2
  by_cases e : i = m
  · subst e
    rw [hz] at hx
    cases hx
    rw [List.take_set_of_le (Nat.le_refl _)]
    exact h1
  · have hxm : (L.take m)[i]? = some x := by rw [List.getElem?_take, if_pos (by omega)]; exact hx
    rw [List.take_set]
    have h3 := split_get hxm
    have hlm : i < (L.take m).length := (List.getElem?_eq_some_iff.1 hxm).1
    rw [List.set_eq_take_append_cons_drop, if_pos hlm]
    have h4 : (z :: L.take m).Perm (z :: x :: ((L.take m).take i ++ (L.take m).drop (i + 1))) := by
      refine List.Perm.cons z ?_
      have h5 : ((L.take m).take i ++ x :: (L.take m).drop (i + 1)).Perm (x :: ((L.take m).take i ++ (L.take m).drop (i + 1))) := List.perm_middle
      rw [← h3] at h5
      exact h5
    refine (h1.trans h4).trans ((List.Perm.swap x z _).trans (List.Perm.cons x ?_))
    exact List.perm_middle.symm
end
/-- Where a key is among the first j. -/
def AtIs (ks : List Int) (key : Int) (j : Nat) (A : Int) : Prop := (A = -1 ∧ key ∉ ks.take j) ∨ ∃ i : Nat, A = i ∧ i < j ∧ ks[i]? = some key
theorem AtIs.start (ks : List Int) (key : Int) : AtIs ks key 0 (-1) := .inl ⟨rfl, by simp⟩
theorem AtIs.hit {ks : List Int} {key : Int} {j : Nat} (hy : ks[j]? = some key) : AtIs ks key (j + 1) j := .inr ⟨j, rfl, by omega, hy⟩
theorem AtIs.miss {ks : List Int} {key y A : Int} {j : Nat} (h : AtIs ks key j A) (hy : ks[j]? = some y) (hne : y ≠ key) : AtIs ks key (j + 1) A := by
  rcases h with ⟨h1, h2⟩ | ⟨i, h1, h2, h3⟩
  · refine .inl ⟨h1, fun hm => ?_⟩
    rw [List.take_add_one, hy] at hm
    rcases List.mem_append.1 hm with hm | hm
    · exact h2 hm
    · exact hne (List.mem_singleton.1 hm).symm
  · exact .inr ⟨i, h1, by omega, h3⟩
abbrev HadL := List (Value × List Int)
/-- The table against the law's own account. -/
structure Have (w0 : World) (FL : Frs) (ks : List Int) (hd : HadL) (n : Nat) : Prop where
  nd : ks.Nodup
  len : hd.length = ks.length
  mem : ∀ k, k ∈ mkeys FL ↔ k ∈ ks
  val : ∀ (i : Nat) (k : Int) (r : Value × List Int), ks[i]? = some k → hd[i]? = some r → ∃ x, mget FL k = some x ∧ x.2.2.1 = r.2
  ok : FrOk FL
  wf : ∀ k ∈ ks, okI k
  le : ks.length ≤ n
  rb : ∀ r ∈ hd, RB w0 r.2 r.1
section
variable {w0 : World} {FL : Frs} {ks : List Int} {hd : HadL} {n i : Nat} {key z : Int} {r : Value × List Int}
theorem Have.start (n : Nat) : Have w0 [] [] [] n := ⟨List.nodup_nil, rfl, fun _ => Iff.rfl, fun i k r h => by simp at h, (fun p hp => by cases hp), (fun k hk => by cases hk), Nat.zero_le _, (fun r hr => by cases hr)⟩
theorem Have.flen (h : Have w0 FL ks hd n) (hn : (mkeys FL).Nodup) : FL.length = ks.length := by
  rw [← length_mkeys]
  exact Nat.le_antisymm (len_le_of_sub' hn fun x hx => (h.mem x).1 hx) (len_le_of_sub' h.nd fun x hx => (h.mem x).2 hx)
theorem Have.gone (h : Have w0 FL ks hd n) (hk : key ∉ ks) : mget FL key = none := mget_none.2 fun hm => hk ((h.mem key).1 hm)
theorem Have.there (h : Have w0 FL ks hd n) (hk : ks[i]? = some key) : ∃ x, mget FL key = some x := by
  cases hg : mget FL key with
  | some x => exact ⟨x, rfl⟩
  | none => exact absurd ((h.mem key).2 (List.mem_of_getElem? hk)) (mget_none.1 hg)
theorem Have.drop (h : Have w0 FL ks hd n) (hi : ks[i]? = some key) (hz : ks[ks.length - 1]? = some z) (hr : hd[ks.length - 1]? = some r) : Have w0 (mdel FL key) (swapOff ks i z) (swapOff hd i r) n := by
  have hp := swapOff_perm hi hz
  have hnd := (hp.nodup_iff.1 h.nd)
  have hnd2 := List.nodup_cons.1 hnd
  have hm : ∀ k, k ∈ swapOff ks i z ↔ k ∈ ks ∧ k ≠ key := fun k => by
    rw [hp.mem_iff, List.mem_cons]
    constructor
    · intro hk
      exact ⟨.inr hk, fun e => hnd2.1 (e ▸ hk)⟩
    · rintro ⟨h1 | h1, h2⟩
      · exact absurd h1 h2
      · exact h1
  have hlt := (List.getElem?_eq_some_iff.1 hi).1
  obtain ⟨r0, hr0⟩ : ∃ r0, hd[i]? = some r0 := ⟨_, List.getElem?_eq_getElem (by rw [h.len]; exact hlt)⟩
  have hp2 := swapOff_perm hr0 (show hd[hd.length - 1]? = some r by rw [h.len]; exact hr)
  refine ⟨hnd2.2, by rw [swapOff_len, swapOff_len, h.len], fun k => ?_, fun j k r' hj hj' => ?_, fun p hp' => h.ok p (List.mem_filter.1 hp').1, fun k hk => h.wf k ((hm k).1 hk).1, ?_, fun r' hr' => h.rb r' (hp2.symm.subset (List.mem_cons_of_mem _ hr'))⟩
  · rw [mkeys_mdel, List.mem_filter, h.mem k, hm k]
    simp
  · have hjm : j < ks.length - 1 := by rw [← swapOff_len ks i z]; exact (List.getElem?_eq_some_iff.1 hj).1
    have hk := (hm k).1 (List.mem_of_getElem? hj)
    rw [swapOff_get hjm] at hj
    rw [swapOff_get (by rw [h.len]; exact hjm)] at hj'
    rw [mget_mdel, if_neg hk.2]
    by_cases e : j = i
    · rw [if_pos e] at hj hj'
      cases hj
      cases hj'
      exact h.val _ _ _ hz hr
    · rw [if_neg e] at hj hj'
      exact h.val _ _ _ hj hj'
  · rw [swapOff_len]
    have := h.le
    omega
theorem Have.add {f : Nat} {v bv : Value} {B : List Int} {b : Bool} (h : Have w0 FL ks hd n) (hk : key ∉ ks) (hl : ks.length < n) (hok : okI key) (hB : B.length ≤ 1000000) (hrb : RB w0 B bv) : Have w0 (FL ++ [(key, (some ⟨f, 0, none⟩, v, B, b))]) (ks ++ [key]) (hd ++ [(bv, B)]) n := by
  refine ⟨List.nodup_append.2 ⟨h.nd, by simp, fun a ha c hc => by rw [List.mem_singleton.1 hc]; exact fun e => hk (e ▸ ha)⟩, by simp [h.len], fun k => ?_, fun j k r hj hj' => ?_, fun p hp => ?_, fun k hk' => ?_, by rw [List.length_append]; exact hl, fun r hr => ?_⟩
  · unfold mkeys
    rw [List.map_append, List.mem_append, List.mem_append]
    exact or_congr (h.mem k) (by simp)
  · by_cases hjl : j < ks.length
    · rw [List.getElem?_append_left hjl] at hj
      rw [List.getElem?_append_left (by rw [h.len]; exact hjl)] at hj'
      obtain ⟨x, hx, hx2⟩ := h.val j k r hj hj'
      refine ⟨x, ?_, hx2⟩
      rw [mget_append, hx]
      rfl
    · have hj0 : j = ks.length := by
        have := (List.getElem?_eq_some_iff.1 hj).1
        rw [List.length_append] at this
        simp at this
        omega
      subst hj0
      rw [List.getElem?_append_right (Nat.le_refl _), Nat.sub_self] at hj
      rw [List.getElem?_append_right (by rw [h.len]; exact Nat.le_refl _), h.len, Nat.sub_self] at hj'
      simp at hj hj'
      subst hj
      subst hj'
      refine ⟨(some ⟨f, 0, none⟩, v, B, b), ?_, rfl⟩
      rw [mget_append, h.gone hk, mget_cons, if_pos rfl]
      rfl
  · rcases List.mem_append.1 hp with hp | hp
    · exact h.ok p hp
    · rw [List.mem_singleton.1 hp]
      exact ⟨f, rfl, hB, hrb.all⟩
  · rcases List.mem_append.1 hk' with hk' | hk'
    · exact h.wf k hk'
    · rw [List.mem_singleton.1 hk']
      exact hok
  · rcases List.mem_append.1 hr with hr | hr
    · exact h.rb r hr
    · rw [List.mem_singleton.1 hr]
      exact hrb
theorem nodup_inj {ks : List Int} (hn : ks.Nodup) {i j : Nat} {k : Int} (hi : ks[i]? = some k) (hj : ks[j]? = some k) : i = j := by
  obtain ⟨h1, e1⟩ := List.getElem?_eq_some_iff.1 hi
  obtain ⟨h2, e2⟩ := List.getElem?_eq_some_iff.1 hj
  have hp := List.pairwise_iff_getElem.1 hn
  rcases Nat.lt_trichotomy i j with h | h | h
  · exact absurd (e1.trans e2.symm) (hp i j h1 h2 h)
  · exact h
  · exact absurd (e2.trans e1.symm) (hp j i h2 h1 h)
theorem Have.over {x : FrV} {v bv : Value} {B : List Int} {b : Bool} (h : Have w0 FL ks hd n) (hi : ks[i]? = some key) (hx : mget FL key = some x) (hB : B.length ≤ 1000000) (hrb : RB w0 B bv) : Have w0 (mput FL key (x.1, v, B, b)) ks (hd.set i (bv, B)) n := by
  have hlt := (List.getElem?_eq_some_iff.1 hi).1
  have hin : key ∈ mkeys FL := (h.mem key).2 (List.mem_of_getElem? hi)
  refine ⟨h.nd, by rw [List.length_set]; exact h.len, fun k => ?_, fun j k r hj hj' => ?_, fun p hp => ?_, h.wf, h.le, fun r hr => ?_⟩
  · rw [mkeys_mput, if_pos hin]
    exact h.mem k
  · rw [List.getElem?_set] at hj'
    rw [mget_mput]
    by_cases e : i = j
    · subst e
      rw [if_pos rfl, if_pos (by rw [h.len]; exact hlt)] at hj'
      cases hj'
      rw [hi] at hj
      cases hj
      exact ⟨_, if_pos rfl, rfl⟩
    · rw [if_neg e] at hj'
      have hne : k ≠ key := fun ek => e (nodup_inj h.nd hi (ek ▸ hj))
      rw [if_neg hne]
      exact h.val j k r hj hj'
  · obtain ⟨FL1, FL2, hs, hput⟩ := mput_split hx
    rw [hput] at hp
    have ho := h.ok
    rw [hs] at ho
    rcases List.mem_append.1 hp with hp | hp
    · exact ho p (List.mem_append_left _ hp)
    · rcases List.mem_cons.1 hp with hp | hp
      · obtain ⟨f, hf, -, -⟩ := ho (key, x) (by simp)
        rw [hp]
        exact ⟨f, hf, hB, hrb.all⟩
      · exact ho p (List.mem_append_right _ (List.mem_cons_of_mem _ hp))
  · rcases List.mem_or_eq_of_mem_set hr with hr | hr
    · exact h.rb r hr
    · rw [hr]
      exact hrb
end
section
variable {w0 w : World} {S F : List Chunk} {α : Type} {f : α → List Value} {l : List α} {n m b g cap : Nat} {t : TypeId} {v : Value} {q : Option Addr}
/-- A slice's shape. -/
theorem shapeOf (h : Sat w0 ((b, sl n f l t v) :: F) w) (hl : l.length = m) : ∃ q c, v = .slice q m c := by
  subst hl
  rcases h.slCases with ⟨h1, h2, _⟩ | ⟨c, h1, _⟩
  · exact ⟨_, _, by rw [h1, h2]; rfl⟩
  · exact ⟨_, _, h1⟩
/-- .. opened, where it has elements. -/
theorem openSl (h : Sat w0 ((b, sl n f l t (.slice q m cap)) :: F) w) (hl : l.length = m) (h0 : 0 < m) : ∃ g, q = some ⟨g, 0, none⟩ ∧ m ≤ cap ∧ Sat w0 ((g, slc n f l cap t) :: F) w := by
  subst hl
  rcases h.slCases with ⟨_, h2, _⟩ | ⟨c, h1, h2⟩
  · rw [h2] at h0
    cases h0
  · have h3 := (h2.slcFacts (g := b) (n := n) (f := f) (l := l) (cap := c) (t := t)).1
    cases h1
    exact ⟨b, rfl, h3, h2⟩
theorem closeSl (h : Sat w0 ((g, slc n f l cap t) :: F) w) (hl : l.length = m) : Sat w0 ((blk (.slice (some ⟨g, 0, none⟩) m cap), sl n f l t (.slice (some ⟨g, 0, none⟩) m cap)) :: F) w := by
  subst hl
  exact h.slOfSlc
/-- A slice cut off. -/
theorem takeSlc {v1 : α → Value} (h : Sat w0 ((g, slc 1 (Sl.one v1) l cap t) :: F) w) (k : Nat) (hk : k ≤ l.length) : Sat w0 ((g, slc 1 (Sl.one v1) (l.take k) cap t) :: F) w := by
  obtain ⟨cur, hc, k1, k2, k3, k4, k5⟩ := h.slcOf (g := g) (n := 1) (f := Sl.one v1) (l := l) (cap := cap) (t := t)
  refine hc.toSlc k1 (by rw [List.length_take]; omega) k3 ?_ fun x hx => rfl
  have e : ∀ L : List α, L.flatMap (Sl.one v1) = L.map v1 := fun L => by
    induction L with
    | nil => rfl
    | cons x L ih => simp [Sl.one, List.flatMap_cons, ih]
  rw [e, Nat.mul_one] at k4
  rw [e, Nat.mul_one, List.length_take, Nat.min_eq_left hk, List.map_take, ← k4, List.take_take, Nat.min_eq_left hk]
end
end Go.Proofs.Ytlkoclalcfeniaa
