/-
  latch: nobody waits for a latch that nobody has: the table's law, and Ask and Free under it.
-/
import Derived.Test.YtojdkioimklhmaaLaObs
import Derived.Test.YtojdkioimklhmaaLaAct
set_option linter.unusedSimpArgs false
set_option linter.unusedVariables false
namespace Go.Proofs.Ytojdkioimklhmaa
open Go.RowKit Go.Proofs.Ytojdkioimklhmaa.Sl

theorem mget_unwait : ∀ (l : List Int) (W : Wts) (k : Int), mget (unwait W l) k = if k ∈ l then none else mget W k
  | [], _, _ => by simp [unwait]
  | x :: l, W, k => by
    have ih := mget_unwait l (mdel W x) k
    rw [show unwait W (x :: l) = unwait (mdel W x) l from rfl, ih, mget_mdel]
    by_cases h1 : k ∈ l
    · rw [if_pos h1, if_pos (List.mem_cons_of_mem _ h1)]
    · rw [if_neg h1]
      by_cases h2 : k = x
      · rw [if_pos h2, if_pos (by rw [h2]; exact List.mem_cons_self ..)]
      · rw [if_neg h2, if_neg (by simp [h1, h2])]
theorem settle_keep : ∀ (n : Nat) {P : LtP} {task : Int} {b : Bool}, (task, b) ∈ P.queue → task ∈ (settle n P).1 ∨ (task, b) ∈ (settle n P).2.queue
  | 0, _, _, _, h => .inr h
  | n + 1, P, task, b, h => by
    cases hg : grantP P with
    | none => rw [settle_none hg]; exact .inr h
    | some x =>
      obtain ⟨k, P'⟩ := x
      rw [settle_some hg]
      have hq : ∃ r q, P.queue = r :: q ∧ k = r.1 ∧ P'.queue = q := by
        unfold grantP at hg
        split at hg
        · cases hg
        · rename_i r q hq
          split at hg
          · cases hg
          · cases hg
            exact ⟨r, q, hq, rfl, rfl⟩
      obtain ⟨r, q, h1, h2, h3⟩ := hq
      rw [h1] at h
      rcases List.mem_cons.1 h with h | h
      · left
        rw [h2, ← h]
        exact List.mem_cons_self ..
      · rw [← h3] at h
        rcases settle_keep n h with h | h
        · exact .inl (List.mem_cons_of_mem _ h)
        · exact .inr h
theorem free_keep {P : LtP} {t task : Int} {b : Bool} (h : (task, b) ∈ P.queue) (hne : task ≠ t) : task ∈ (freeP P t).1 ∨ (task, b) ∈ (freeP P t).2.queue := by
  have h2 : (task, b) ∈ (without P t).queue := List.mem_filter.2 ⟨h, by simpa using hne⟩
  exact settle_keep _ h2
theorem mget_freeAll (t : Int) (PL : PLts) (key : Int) : mget (freeAll t PL) key = (mget PL key).map fun P => (freeP P t).2 := by
  unfold mget freeAll
  rw [findL_map (fun P : LtP => (freeP P t).2) PL key 0, Option.map_map, Option.map_map]
  rfl
/-- The table behind i acts. -/
structure Whole (PL : PLts) (W : Wts) (L : List La) (i : Nat) : Prop where
  sz : Sized PL i
  st : ∀ e ∈ PL, Settled e.2
  wt : ∀ task key, mget W task = some key → ∃ P, mget PL key = some P ∧ ∃ b, (task, b) ∈ P.queue
  tk : ∀ e ∈ PL, ∀ task, inLt e.2 task → ∃ (j : Nat) (x : La), j < i ∧ L[j]? = some x ∧ x.2.1 = task
section
variable {PL : PLts} {W : Wts} {L : List La} {i : Nat} {t key task : Int} {al : Bool}
theorem Whole.start (L : List La) : Whole [] [] L 0 := ⟨Sized.start, (fun e he => by cases he), (fun t k h => by cases h), (fun e he => by cases he)⟩
theorem Whole.free {wk : List Int} (h : Whole PL W L i) (hw : wk.Perm (wokenP t PL)) : Whole (freeAll t PL) (unwait (mdel W t) wk) L (i + 1) := by
  refine ⟨h.sz.free, fun e he => ?_, fun x k hx => ?_, fun e he x hx => ?_⟩
  · obtain ⟨y, hy, rfl⟩ := List.mem_map.1 he
    exact free_settled (h.st y hy)
  · rw [mget_unwait] at hx
    split at hx
    · cases hx
    · rename_i hnw
      rw [mget_mdel] at hx
      split at hx
      · cases hx
      · rename_i hne
        obtain ⟨P, hP, b, hb⟩ := h.wt x k hx
        refine ⟨(freeP P t).2, by rw [mget_freeAll, hP]; rfl, b, ?_⟩
        rcases free_keep hb hne with h1 | h1
        · exact absurd (hw.symm.subset (List.mem_flatMap.2 ⟨(k, P), mget_mem hP, h1⟩)) hnw
        · exact h1
  · obtain ⟨y, hy, rfl⟩ := List.mem_map.1 he
    obtain ⟨j, z, h1, h2, h3⟩ := h.tk y hy x (free_in hx).1
    exact ⟨j, z, by omega, h2, h3⟩
theorem Whole.up (h : Whole PL W L i) : Whole PL W L (i + 1) := ⟨h.sz.up, h.st, h.wt, fun e he x hx => by
  obtain ⟨j, z, h1, h2, h3⟩ := h.tk e he x hx
  exact ⟨j, z, by omega, h2, h3⟩⟩
theorem ask_false {P l : LtP} (h : askL P task al = (false, l)) : l = queued P task al := by
  unfold askL at h
  split at h
  · cases hg : grantP (queued P task al) with
    | none => rw [hg] at h; cases h; rfl
    | some x => rw [hg] at h; cases h
  · cases h; rfl
theorem ask_true {P l : LtP} (h : askL P task al = (true, l)) : P.queue = [] := by
  unfold askL at h
  split at h
  · assumption
  · cases h
theorem Whole.ask {r : Bool} {l : LtP} {kd : Int} (h : Whole PL W L i) (hx : L[i]? = some (kd, task, key, al)) (hr : askL (atKey PL key) task al = (r, l)) : Whole (mput PL key l) (if r then W else mput W task key) L (i + 1) := by
  have e2 : l = (askL (atKey PL key) task al).2 := by rw [hr]
  have hat : Settled (atKey PL key) ∧ ∀ x, inLt (atKey PL key) x → ∃ (j : Nat) (z : La), j < i ∧ L[j]? = some z ∧ z.2.1 = x := by
    rcases at_mem (PL := PL) (key := key) with h1 | h1
    · exact ⟨h.st _ h1, h.tk _ h1⟩
    · rw [h1]
      exact ⟨lt0_settled, fun x hx => by rcases hx with h | ⟨b, h⟩ <;> cases h⟩
  refine ⟨by rw [e2]; exact h.sz.ask, fun e he => ?_, fun x k hk => ?_, fun e he x hx2 => ?_⟩
  · rcases mem_put he with h1 | rfl
    · exact h.st e h1
    · rw [e2]; exact ask_settled hat.1
  · rw [mget_mput]
    have hold : mget W x = some k → ∃ P, (if k = key then some l else mget PL k) = some P ∧ ∃ b, (x, b) ∈ P.queue := fun hk2 => by
      obtain ⟨P, hP, b, hb⟩ := h.wt x k hk2
      by_cases e : k = key
      · subst e
        rw [if_pos rfl]
        have hPa : atKey PL k = P := by unfold atKey; rw [hP]; rfl
        rw [hPa] at hr
        cases r with
        | true =>
          have := ask_true hr
          rw [this] at hb
          cases hb
        | false =>
          rw [ask_false hr]
          exact ⟨_, rfl, b, List.mem_append_left _ hb⟩
      · rw [if_neg e]
        exact ⟨P, hP, b, hb⟩
    cases r with
    | true => exact hold hk
    | false =>
      have hk2 : mget (mput W task key) x = some k := hk
      rw [mget_mput] at hk2
      by_cases e : x = task
      · rw [if_pos e] at hk2
        cases hk2
        rw [if_pos rfl, ask_false hr]
        exact ⟨_, rfl, al, List.mem_append_right _ (by rw [e]; exact List.mem_cons_self ..)⟩
      · rw [if_neg e] at hk2
        exact hold hk2
  · rcases mem_put he with h1 | rfl
    · obtain ⟨j, z, a1, a2, a3⟩ := h.tk e h1 x hx2
      exact ⟨j, z, by omega, a2, a3⟩
    · have hx3 : inLt (askL (atKey PL key) task al).2 x := by rw [← e2]; exact hx2
      rcases ask_in hx3 with h1 | h1
      · obtain ⟨j, z, a1, a2, a3⟩ := hat.2 x h1
        exact ⟨j, z, by omega, a2, a3⟩
      · exact ⟨i, _, by omega, hx, h1.symm⟩
/-- Whoever waits: some task of the script has what it waits for. -/
theorem Whole.held (h : Whole PL W L i) (hw : mget W task = some key) : ∃ (j : Nat) (x : La), j < i ∧ L[j]? = some x ∧ 0 < holdsP PL x.2.1 key := by
  obtain ⟨P, hP, b, hb⟩ := h.wt task key hw
  have hne := (h.st _ (mget_mem hP)).holder (fun e => by rw [e] at hb; cases hb)
  obtain ⟨u, us, hu⟩ := List.exists_cons_of_ne_nil hne
  have hin : (mget P.has u.1).isSome = true := by
    cases hg : mget P.has u.1 with
    | some _ => rfl
    | none => exact absurd (show u.1 ∈ mkeys P.has by rw [hu]; exact List.mem_cons_self ..) (mget_none.1 hg)
  obtain ⟨j, x, h1, h2, h3⟩ := h.tk _ (mget_mem hP) u.1 (.inl hin)
  refine ⟨j, x, h1, h2, ?_⟩
  unfold holdsP
  rw [hP, h3]
  show 0 < if (mget P.has u.1).isSome = true then (if P.alone = true then (2 : Int) else 1) else 0
  rw [if_pos hin]
  split <;> decide
/-- In the end: the first k tasks are in no latch any more. -/
structure Left (PL : PLts) (W : Wts) (L : List La) (i k : Nat) : Prop where
  sz : Sized PL (i + k)
  wt : ∀ (j : Nat) (x : La), j < k → L[j]? = some x → mget W x.2.1 = none
  tk : ∀ (j : Nat) (x : La), j < k → L[j]? = some x → ∀ e ∈ PL, ¬ inLt e.2 x.2.1
theorem Whole.left (h : Whole PL W L i) : Left PL W L i 0 := ⟨h.sz, fun j x hj => absurd hj (Nat.not_lt_zero _), fun j x hj => absurd hj (Nat.not_lt_zero _)⟩
theorem Left.free {k : Nat} {wk : List Int} {y : La} (h : Left PL W L i k) (hy : L[k]? = some y) : Left (freeAll y.2.1 PL) (unwait (mdel W y.2.1) wk) L i (k + 1) := by
  refine ⟨h.sz.free, fun j x hj hx => ?_, fun j x hj hx e he hin => ?_⟩
  · rw [mget_unwait]
    split
    · rfl
    · rw [mget_mdel]
      split
      · rfl
      · rename_i hne
        by_cases e : j = k
        · subst e
          rw [hy] at hx
          cases hx
          exact absurd rfl hne
        · exact h.wt j x (by omega) hx
  · obtain ⟨z, hz, rfl⟩ := List.mem_map.1 he
    obtain ⟨h1, h2⟩ := free_in hin
    by_cases e : j = k
    · subst e
      rw [hy] at hx
      cases hx
      exact h2 rfl
    · exact h.tk j x (by omega) hx z hz h1
theorem Left.holds {k j : Nat} {x : La} (h : Left PL W L i k) (hj : j < k) (hx : L[j]? = some x) (key : Int) : holdsP PL x.2.1 key = 0 := by
  unfold holdsP
  cases hg : mget PL key with
  | none => rfl
  | some P =>
    show (if (mget P.has x.2.1).isSome = true then (if P.alone = true then (2 : Int) else 1) else 0) = 0
    rw [if_neg fun hs => h.tk j x hj hx _ (mget_mem hg) (.inl hs)]
end
section
variable {w0 w : World} {K : List Chunk} {t i k : Nat} {PL : PLts} {W : Wts} {L : List La} {key task kd : Int} {al : Bool}
theorem freeW_any (h : Whole PL W L i) (hi : i ≤ 900) (hS : Sat w0 ((t, TabC PL W) :: K) w) : Calls Try.prog 11 #[.pointer (some ⟨t, 0, none⟩), .int .i64 task] w fun e w' => ∃ v PL' W', e = .returned v ∧ Whole PL' W' L (i + 1) ∧ Sat w0 ((t, TabC PL' W') :: K) w' := by
  refine (free_pl (fun e he => Nat.le_trans (h.sz.que e he) (by omega)) (Nat.le_trans h.sz.num hi) hS).mono ?_
  rintro e w' ⟨v, wk, hwk, rfl, hS⟩
  exact ⟨v, _, _, rfl, h.free hwk, hS.tail⟩
theorem askW_any (h : Whole PL W L i) (hi : i ≤ 900) (hx : L[i]? = some (kd, task, key, al)) (hS : Sat w0 ((t, TabC PL W) :: K) w) : Calls Try.prog 12 #[.pointer (some ⟨t, 0, none⟩), .int .i64 task, .int .i64 key, .bool al] w fun e w' => ∃ (r : Bool) (n : Int) (PL' : PLts) (W' : Wts), e = .returned (.tuple #[.bool r, .int .i64 n]) ∧ Whole PL' W' L (i + 1) ∧ Sat w0 ((t, TabC PL' W') :: K) w' := by
  cases hm : mayAsk PL W task key with
  | false =>
    refine (ask_busy hm hS).mono ?_
    rintro e w' ⟨rfl, hS⟩
    exact ⟨false, 6, PL, W, rfl, h.up, hS⟩
  | true =>
    have hq := at_que (key := key) h.sz
    refine (ask_any (al := al) hm (by omega) hS).mono ?_
    rintro e w' ⟨r, l, hr, rfl, hS⟩
    exact ⟨r, 0, _, _, rfl, h.ask hx hr, hS⟩
theorem freeL_any {x : La} (h : Left PL W L i k) (hi : i + k ≤ 900) (hx : L[k]? = some x) (hS : Sat w0 ((t, TabC PL W) :: K) w) : Calls Try.prog 11 #[.pointer (some ⟨t, 0, none⟩), .int .i64 x.2.1] w fun e w' => ∃ v PL' W', e = .returned v ∧ Left PL' W' L i (k + 1) ∧ Sat w0 ((t, TabC PL' W') :: K) w' := by
  refine (free_pl (fun e he => Nat.le_trans (h.sz.que e he) (by omega)) (Nat.le_trans h.sz.num hi) hS).mono ?_
  rintro e w' ⟨v, wk, hwk, rfl, hS⟩
  exact ⟨v, _, _, rfl, h.free hx, hS.tail⟩
end
end Go.Proofs.Ytojdkioimklhmaa
