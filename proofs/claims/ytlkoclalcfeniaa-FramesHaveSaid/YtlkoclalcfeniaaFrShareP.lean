/-
  FramesShares: the plain law.
-/
import Derived.Test.YtlkoclalcfeniaaFrShare
import Derived.Test.YtlkoclalcfeniaaFrPinP
set_option linter.unusedSimpArgs false
set_option linter.unusedVariables false
namespace Go.Proofs.Ytlkoclalcfeniaa
open Go.RowKit Go.Proofs.Ytlkoclalcfeniaa.Sl Go.Proofs.Ytlkoclalcfeniaa.Jp

theorem len_le_of_sub {α : Type} [DecidableEq α] : ∀ {l m : List α}, l.Nodup → (∀ x ∈ l, x ∈ m) → l.length ≤ m.length
  | [], _, _, _ => Nat.zero_le _
  | x :: l, m, hn, hs => by
    obtain ⟨a, b, rfl⟩ := List.append_of_mem (hs x (by simp))
    have hn2 := List.nodup_cons.1 hn
    have h1 : ∀ y ∈ l, y ∈ a ++ b := fun y hy => by
      have h2 := hs y (by simp [hy])
      have h3 : y ≠ x := fun e => hn2.1 (e ▸ hy)
      rcases List.mem_append.1 h2 with h | h
      · exact List.mem_append_left _ h
      · rcases List.mem_cons.1 h with h | h
        · exact absurd h h3
        · exact List.mem_append_right _ h
    have h4 := len_le_of_sub hn2.2 h1
    simp only [List.length_append, List.length_cons] at h4 ⊢
    omega
theorem sum_set : ∀ {L : List Int} {k : Nat} {u : Int}, L[k]? = some u → ∀ v, (L.set k v).sum = L.sum - u + v
  | [], _, _, h, _ => by simp at h
  | x :: L, 0, u, h, v => by
    simp at h
    subst h
    simp
    omega
  | x :: L, k + 1, u, h, v => by
    have := sum_set (L := L) (k := k) (u := u) (by simpa using h) v
    simp [this]
    omega
theorem sumS_set : ∀ {L : Shs} {i : Nat} {key u : Int}, L[i]? = some (key, u) → ∀ v, sumS (L.set i (key, v)) = sumS L - u + v
  | [], _, _, _, h, _ => by simp at h
  | p :: L, 0, key, u, h, v => by
    simp at h
    subst h
    simp only [List.set_cons_zero, sumS]
    omega
  | p :: L, i + 1, key, u, h, v => by
    have := sumS_set (L := L) (i := i) (key := key) (u := u) (by simpa using h) v
    simp only [List.set_cons_succ, sumS, this]
    omega
theorem sumS_mput (L : Shs) (key v : Int) : sumS (mput L key v) = sumS L - (mget L key).getD 0 + v := by
  unfold mput mget
  cases h : findL L key 0 with
  | none =>
    simp only [Option.map_none, Option.getD_none]
    rw [sumS_app]
    simp only [sumS]
    omega
  | some p =>
    obtain ⟨i, u⟩ := p
    simp only [Option.map_some, Option.getD_some]
    exact sumS_set (findL_some h) v
theorem sumS_mdel : ∀ {L : Shs}, (mkeys L).Nodup → ∀ key : Int, sumS (mdel L key) = sumS L - (mget L key).getD 0
  | [], _, key => by simp [mdel, sumS]
  | (y, v) :: L, hn, key => by
    have hn2 := List.nodup_cons.1 (show ((y :: mkeys L).Nodup) from hn)
    have ih := sumS_mdel hn2.2 key
    rw [mget_cons]
    by_cases e : key = y
    · subst e
      have h1 : mget L key = none := mget_none.2 hn2.1
      rw [h1] at ih
      have h2 : mdel ((key, v) :: L) key = mdel L key := by simp [mdel]
      rw [h2, ih, if_pos rfl]
      simp only [sumS, Option.getD_some, Option.getD_none]
      omega
    · have h2 : mdel ((y, v) :: L) key = (y, v) :: mdel L key := by
        unfold mdel
        rw [List.filter_cons, if_pos (by simpa using fun h => e h.symm)]
      rw [h2, if_neg e]
      simp only [sumS, ih]
      omega
theorem sum_lt : ∀ {P H : List Int}, P.length = H.length → (∀ (k : Nat) (p h : Int), P[k]? = some p → H[k]? = some h → 0 ≤ p ∧ 0 ≤ h ∧ (p = 0 ∨ p < h)) → 0 ≤ P.sum ∧ P.sum ≤ H.sum ∧ (0 < H.sum → P.sum < H.sum)
  | [], [], _, _ => by simp
  | [], _ :: _, h, _ => by simp at h
  | _ :: _, [], h, _ => by simp at h
  | p :: P, h :: H, hl, hk => by
    have h1 := hk 0 p h rfl rfl
    have h2 := sum_lt (P := P) (H := H) (by simpa using hl) fun k p h hp hh => hk (k + 1) p h (by simpa using hp) (by simpa using hh)
    simp only [List.sum_cons]
    omega
/-- How many pins a task has. -/
def cntP (PL : PinsW) (task : Int) : Nat := ((mkeys PL).filter fun q => q.1.1 = task).length
/-- The table against the law's own account. -/
structure Hold (SL : Shs) (PL : PinsW) (FL : Frs) (H P : List Int) (n : Int) (i : Nat) : Prop where
  hl : H.length = 5
  pl : P.length = 5
  sv : ∀ p ∈ SL, 0 ≤ p.2
  sk : ∀ k : Nat, k < 5 → H[k]? = some ((mget SL (k : Int)).getD 0)
  ss : sumS SL = H.sum
  sn : sumS SL ≤ n
  pc : ∀ k : Nat, k < 5 → P[k]? = some (cntP PL (k : Int) : Int)
  ps : ((mkeys PL).length : Int) = P.sum
  lt : ∀ (k : Nat) (p h : Int), P[k]? = some p → H[k]? = some h → 0 ≤ p ∧ 0 ≤ h ∧ (p = 0 ∨ p < h)
  pk : ∀ q ∈ mkeys PL, 1000 ≤ q.1.2 ∧ q.1.2 < 1000 + i
  fk : ∀ k ∈ mkeys FL, 1000 ≤ k ∧ k < 1000 + i
  fl : (FL.length : Int) ≤ n
section
variable {SL : Shs} {PL PL2 : PinsW} {FL FL2 : Frs} {H P : List Int} {n a : Int} {i task : Nat}
theorem Hold.start (h0 : 0 ≤ n) : Hold [] [] [] [0, 0, 0, 0, 0] [0, 0, 0, 0, 0] n 0 where
  hl := rfl
  pl := rfl
  sv p hp := by cases hp
  sk k hk := by
    have : k = 0 ∨ k = 1 ∨ k = 2 ∨ k = 3 ∨ k = 4 := by omega
    rcases this with rfl | rfl | rfl | rfl | rfl <;> rfl
  ss := rfl
  sn := h0
  pc k hk := by
    have : k = 0 ∨ k = 1 ∨ k = 2 ∨ k = 3 ∨ k = 4 := by omega
    rcases this with rfl | rfl | rfl | rfl | rfl <;> rfl
  ps := rfl
  lt k p h hp hh := by
    have h1 : p = 0 := by
      have := List.mem_of_getElem? hp
      simpa using this
    have h2 : h = 0 := by
      have := List.mem_of_getElem? hh
      simpa using this
    omega
  pk q hq := by cases hq
  fk k hk := by cases hk
  fl := by simpa using h0
theorem Hold.up (h : Hold SL PL FL H P n i) : Hold SL PL FL H P n (i + 1) :=
  { h with
    pk := fun q hq => by have := h.pk q hq; omega
    fk := fun k hk => by have := h.fk k hk; omega }
theorem get_set {L : List Int} {k j : Nat} {v : Int} (hk : k < L.length) : (L.set k v)[j]? = if j = k then some v else L[j]? := by
  rw [List.getElem?_set]
  by_cases e : k = j
  · subst e
    simp [hk]
  · rw [if_neg e, if_neg (fun h => e h.symm)]
theorem Hold.reserve (h : Hold SL PL FL H P n i) (ht : task < 5) (h1 : 1 ≤ a) (h2 : a ≤ n - sumS SL) (h3 : (mget SL (task : Int)).getD 0 ≤ 0) : Hold (mput SL (task : Int) a) PL FL (H.set task a) P n i := by
  have hk := h.sk task ht
  have h0 : (mget SL (task : Int)).getD 0 = 0 := by
    obtain ⟨p, hp⟩ : ∃ p, P[task]? = some p := ⟨_, List.getElem?_eq_getElem (by rw [h.pl]; exact ht)⟩
    have := h.lt task p _ hp hk
    omega
  have hs : sumS (mput SL (task : Int) a) = sumS SL + a := by rw [sumS_mput, h0]; omega
  have hlt : task < H.length := by rw [h.hl]; exact ht
  refine { h with hl := ?_, sv := ?_, sk := ?_, ss := ?_, sn := ?_, lt := ?_ }
  · rw [List.length_set]; exact h.hl
  · intro p hp
    have hm : p ∈ SL ∨ p = ((task : Int), a) := by
      unfold mput at hp
      split at hp
      · rcases List.mem_or_eq_of_mem_set hp with h | h
        · exact .inl h
        · exact .inr h
      · rcases List.mem_append.1 hp with h | h
        · exact .inl h
        · exact .inr (List.mem_singleton.1 h)
    rcases hm with hm | rfl
    · exact h.sv p hm
    · show 0 ≤ a; omega
  · intro k hk5
    rw [get_set hlt, mget_mput]
    by_cases e : k = task
    · subst e
      simp
    · rw [if_neg e, if_neg (by omega)]
      exact h.sk k hk5
  · rw [hs, sum_set hk, h.ss, h0]
    omega
  · rw [hs]; omega
  · intro k p hh hp hq
    rw [get_set hlt] at hq
    by_cases e : k = task
    · subst e
      rw [if_pos rfl] at hq
      cases hq
      have := h.lt k p _ hp hk
      omega
    · rw [if_neg e] at hq
      exact h.lt k p hh hp hq
theorem nodup_same_len {α : Type} [DecidableEq α] {l m : List α} (h1 : l.Nodup) (h2 : m.Nodup) (h : ∀ x, x ∈ l ↔ x ∈ m) : l.length = m.length :=
  Nat.le_antisymm (len_le_of_sub h1 fun x hx => (h x).1 hx) (len_le_of_sub h2 fun x hx => (h x).2 hx)
theorem len_split {α : Type} (p : α → Bool) : ∀ l : List α, (l.filter p).length + (l.filter fun x => !p x).length = l.length
  | [] => rfl
  | x :: l => by
    have ih := len_split p l
    rw [List.filter_cons, List.filter_cons]
    cases p x <;> simp <;> omega
theorem Hold.free (h : Hold SL PL FL H P n i) (ht : task < 5) (hn : (mkeys SL).Nodup) (hp : (mkeys PL).Nodup) (hp2 : (mkeys PL2).Nodup) (hg : Gone PL PL2 [] (task : Int)) : Hold (mdel SL (task : Int)) PL2 FL (H.set task 0) (P.set task 0) n i := by
  have hk := h.sk task ht
  have hc := h.pc task ht
  have hlt : task < H.length := by rw [h.hl]; exact ht
  have hlp : task < P.length := by rw [h.pl]; exact ht
  have hs : sumS (mdel SL (task : Int)) = sumS SL - (mget SL (task : Int)).getD 0 := sumS_mdel hn _
  have hmem : ∀ q, q ∈ mkeys PL2 ↔ q ∈ mkeys PL ∧ q.1.1 ≠ (task : Int) := fun q => by
    have h1 := hg.2 q
    simpa [mkeys] using h1
  have hh0 := (h.lt task _ _ hc hk).2.1
  have hcnt : ∀ k : Nat, cntP PL2 (k : Int) = if k = task then 0 else cntP PL (k : Int) := fun k => by
    by_cases e : k = task
    · rw [if_pos e]
      unfold cntP
      rw [List.length_eq_zero_iff, List.filter_eq_nil_iff]
      intro q hq
      have := ((hmem q).1 hq).2
      rw [e]
      simpa using this
    · rw [if_neg e]
      unfold cntP
      refine nodup_same_len (hp2.filter _) (hp.filter _) fun q => ?_
      rw [List.mem_filter, List.mem_filter, hmem]
      constructor
      · rintro ⟨⟨a1, _⟩, a3⟩
        exact ⟨a1, a3⟩
      · rintro ⟨a1, a3⟩
        refine ⟨⟨a1, fun e2 => e ?_⟩, a3⟩
        have : q.1.1 = (k : Int) := by simpa using a3
        omega
  have hlen : (mkeys PL2).length + cntP PL (task : Int) = (mkeys PL).length := by
    have h1 := len_split (fun q : PinW => decide (q.1.1 = (task : Int))) (mkeys PL)
    have h2 : (mkeys PL2).length = ((mkeys PL).filter fun q => !decide (q.1.1 = (task : Int))).length :=
      nodup_same_len hp2 (hp.filter _) fun q => by rw [hmem, List.mem_filter]; simp
    unfold cntP
    omega
  refine ⟨?_, ?_, ?_, ?_, ?_, ?_, ?_, ?_, ?_, ?_, h.fk, h.fl⟩
  · rw [List.length_set]; exact h.hl
  · rw [List.length_set]; exact h.pl
  · intro p hp
    exact h.sv p (List.mem_filter.1 hp).1
  · intro k hk5
    rw [get_set hlt, mget_mdel]
    by_cases e : k = task
    · subst e
      simp
    · rw [if_neg e, if_neg (by omega)]
      exact h.sk k hk5
  · rw [hs, sum_set hk, h.ss]
    omega
  · rw [hs]
    have := h.sn
    omega
  · intro k hk5
    rw [get_set hlp, hcnt]
    by_cases e : k = task
    · rw [if_pos e, if_pos e]
      rfl
    · rw [if_neg e, if_neg e]
      exact h.pc k hk5
  · rw [sum_set hc, ← h.ps]
    omega
  · intro k p hh h1 h2
    rw [get_set hlp] at h1
    rw [get_set hlt] at h2
    by_cases e : k = task
    · rw [if_pos e] at h1 h2
      cases h1
      cases h2
      omega
    · rw [if_neg e] at h1 h2
      exact h.lt k p hh h1 h2
  · intro q hq
    exact h.pk q ((hmem q).1 hq).1
/-- A key that has not been pinned yet is pinned. -/
theorem Hold.pin {p hh : Int} {x : FrV} {ok : okI (task : Int) ∧ okI (1000 + (i : Int))} (h : Hold SL PL FL H P n i) (ht : task < 5) (hp : P[task]? = some p) (hhh : H[task]? = some hh) (hlt : p + 1 < hh) (hsub : ∀ k ∈ mkeys FL2, k ∈ mkeys FL) (hl : (FL2.length : Int) < n) :
    Hold SL (mput PL ⟨((task : Int), 1000 + (i : Int)), ok⟩ ()) (FL2 ++ [(1000 + (i : Int), x)]) H (P.set task (p + 1)) n (i + 1) := by
  have hlp : task < P.length := by rw [h.pl]; exact ht
  have hnew : (⟨((task : Int), 1000 + (i : Int)), ok⟩ : PinW) ∉ mkeys PL := fun hm => by
    have := h.pk _ hm
    have h2 : (1000 + (i : Int)) < 1000 + i := this.2
    omega
  have hk : mkeys (mput PL ⟨((task : Int), 1000 + (i : Int)), ok⟩ ()) = mkeys PL ++ [⟨((task : Int), 1000 + (i : Int)), ok⟩] := by rw [mkeys_mput, if_neg hnew]
  have hc := h.pc task ht
  have hcp : p = (cntP PL (task : Int) : Int) := Option.some.inj (hp.symm.trans hc)
  have hcnt : ∀ k : Nat, cntP (mput PL ⟨((task : Int), 1000 + (i : Int)), ok⟩ ()) (k : Int) = if k = task then cntP PL (k : Int) + 1 else cntP PL (k : Int) := fun k => by
    unfold cntP
    rw [hk, List.filter_append, List.length_append, List.filter_cons]
    by_cases e : k = task
    · rw [if_pos e, if_pos (by rw [e]; simp)]
      rfl
    · rw [if_neg e, if_neg (by simp; omega)]
      rfl
  refine ⟨h.hl, ?_, h.sv, h.sk, h.ss, h.sn, ?_, ?_, ?_, ?_, ?_, ?_⟩
  · rw [List.length_set]; exact h.pl
  · intro k hk5
    rw [get_set hlp, hcnt]
    by_cases e : k = task
    · rw [if_pos e, if_pos e, hcp, e]
      rfl
    · rw [if_neg e, if_neg e]
      exact h.pc k hk5
  · rw [hk, sum_set hp, ← h.ps]
    simp
    omega
  · intro k p' h' h1 h2
    rw [get_set hlp] at h1
    by_cases e : k = task
    · rw [if_pos e] at h1
      cases h1
      have h3 := h.lt task p hh hp hhh
      rw [e, hhh] at h2
      cases h2
      omega
    · rw [if_neg e] at h1
      exact h.lt k p' h' h1 h2
  · intro q hq
    rw [hk] at hq
    rcases List.mem_append.1 hq with hq | hq
    · have := h.pk q hq
      omega
    · rw [List.mem_singleton.1 hq]
      exact ⟨by show (1000 : Int) ≤ 1000 + (i : Int); omega, by show (1000 : Int) + (i : Int) < 1000 + ((i + 1 : Nat) : Int); omega⟩
  · intro k hk'
    unfold mkeys at hk'
    rw [List.map_append] at hk'
    rcases List.mem_append.1 hk' with h1 | h1
    · have := h.fk k (hsub k h1)
      omega
    · rw [List.mem_singleton.1 h1]
      exact ⟨by show (1000 : Int) ≤ 1000 + (i : Int); omega, by show (1000 : Int) + (i : Int) < 1000 + ((i + 1 : Nat) : Int); omega⟩
  · rw [List.length_append]
    simp
    omega
/-- As long as fewer keys are pinned than there are frames, a full table has a victim. -/
theorem Hold.victim (h : Hold SL PL FL H P n i) (hf : (mkeys FL).Nodup) (hfull : (FL.length : Int) = n) (hpos : 0 < H.sum) : loose (low PL) (mkeys FL) ≠ [] := fun he => by
  have h1 := sum_lt (P := P) (H := H) (by rw [h.pl, h.hl]) h.lt
  have h2 : ((mkeys PL).length : Int) < n := by
    have := h.ps
    have := h.ss
    have := h.sn
    omega
  have hall : ∀ k ∈ mkeys FL, k ∈ (mkeys PL).map fun q => q.1.2 := fun k hk => by
    have h3 := (List.filter_eq_nil_iff.1 he) k hk
    have h4 : pinnedB (low PL) k = true := by simpa using h3
    obtain ⟨q, hq, e⟩ := pinned_low.1 h4
    exact List.mem_map.2 ⟨q, hq, e⟩
  have h5 := len_le_of_sub hf hall
  rw [List.length_map, length_mkeys] at h5
  omega
end
end Go.Proofs.Ytlkoclalcfeniaa
