/-
  latch: LatchPlays: the document's table against the latches: the plain law.
-/
import Derived.Test.YtojdkioimklhmaaLaObs2
set_option linter.unusedSimpArgs false
set_option linter.unusedVariables false
namespace Go.Proofs.Ytojdkioimklhmaa
open Go.RowKit Go.Proofs.Ytojdkioimklhmaa.Sl

/-- What is had or wanted: whose, which, whether alone. -/
abbrev Wa := Int × Int × Bool
def waF (x : Wa) : List Value := [.int .i64 x.1, .int .i64 x.2.1, .bool x.2.2]
/-- The document's table. -/
structure XR where
  has : List Wa
  queue : List Wa
def hit (task key : Int) (w : Wa) : Bool := w.1 == task && w.2.1 == key
def holdsX (L : List Wa) (task key : Int) : Int := match L.find? (hit task key) with
  | none => 0
  | some w => if w.2.2 then 2 else 1
def waitsX (L : List Wa) (task : Int) : Option Int := (L.find? fun w => w.1 == task).map (·.2.1)
def MayX (X : XR) (i : Nat) (w : Wa) : Prop := (∀ u ∈ X.queue.take i, u.2.1 ≠ w.2.1) ∧ ∀ u ∈ X.has, u.2.1 = w.2.1 → u.2.2 = false ∧ w.2.2 = false
def grantX (X : XR) (i : Nat) (w : Wa) : XR := ⟨X.has ++ [w], X.queue.take i ++ X.queue.drop (i + 1)⟩
def woW (L : List Wa) (task : Int) : List Wa := L.filter fun w => decide (w.1 ≠ task)
/-- What may be granted is granted, one behind the other. -/
def Steps (X : XR) (out : List Int) (X' : XR) : Prop := ∀ R : List Int → XR → Prop, R [] X → (∀ o Y i w, R o Y → Y.queue[i]? = some w → MayX Y i w → R (o ++ [w.1]) (grantX Y i w)) → R out X'
theorem Steps.refl (X : XR) : Steps X [] X := fun _ h _ => h
theorem Steps.step {X Y : XR} {o : List Int} {i : Nat} {w : Wa} (h : Steps X o Y) (hw : Y.queue[i]? = some w) (hm : MayX Y i w) : Steps X (o ++ [w.1]) (grantX Y i w) := fun R h0 h1 => h1 _ _ _ _ (h R h0 h1) hw hm
def FinX (X : XR) : Prop := ∀ i w, X.queue[i]? = some w → ¬ MayX X i w
/-- One latch's requests. -/
def reqOf (L : List Wa) (key : Int) : List Rq := (L.filter fun w => w.2.1 == key).map fun w => (w.1, w.2.2)
theorem reqOf_app (L M : List Wa) (key : Int) : reqOf (L ++ M) key = reqOf L key ++ reqOf M key := by simp [reqOf]
theorem reqOf_one (w : Wa) (key : Int) : reqOf [w] key = if w.2.1 = key then [(w.1, w.2.2)] else [] := by
  unfold reqOf
  by_cases h : w.2.1 = key <;> simp [h]
theorem reqOf_none {L : List Wa} {key : Int} (h : ∀ u ∈ L, u.2.1 ≠ key) : reqOf L key = [] := by
  unfold reqOf
  rw [List.filter_eq_nil_iff.2 fun u hu => by simpa using h u hu]
  rfl
/-- The document's table is these latches. -/
structure Coup (X : XR) (p : Int → LtP) : Prop where
  q : ∀ key, reqOf X.queue key = (p key).queue
  h1 : ∀ w ∈ X.has, (mget (p w.2.1).has w.1).isSome = true ∧ w.2.2 = (p w.2.1).alone
  h2 : ∀ key t, (mget (p key).has t).isSome = true → ∃ w ∈ X.has, w.1 = t ∧ w.2.1 = key
  had : ∀ key, (p key).alone = true → (p key).has ≠ []
  inv : ∀ key, LtInv (p key)
theorem mget_head {l : List (Int × Unit)} (h : 0 < l.length) : ∃ t, (mget l t).isSome = true := by
  obtain ⟨⟨t, u⟩, us, rfl⟩ := List.exists_cons_of_ne_nil (List.length_pos_iff.1 h)
  exact ⟨t, by rw [mget_cons, if_pos rfl]; rfl⟩
theorem mget_pos {l : List (Int × Unit)} {t : Int} (h : (mget l t).isSome = true) : 0 < l.length := by
  obtain ⟨u, hu⟩ := Option.isSome_iff_exists.1 h
  exact List.length_pos_of_mem (mget_mem hu)
section
variable {X X' : XR} {p : Int → LtP} {i : Nat} {w : Wa} {out : List Int}
theorem get_split (h : X.queue[i]? = some w) : X.queue = X.queue.take i ++ w :: X.queue.drop (i + 1) := by
  obtain ⟨hi, rfl⟩ := List.getElem?_eq_some_iff.1 h
  simp
theorem tie_grant (c : Coup X p) (hw : X.queue[i]? = some w) (hm : MayX X i w) : (p w.2.1).queue = (w.1, w.2.2) :: reqOf (X.queue.drop (i + 1)) w.2.1 ∧ grantP (p w.2.1) = some (w.1, ⟨mput (p w.2.1).has w.1 (), w.2.2, reqOf (X.queue.drop (i + 1)) w.2.1⟩) := by
  have hq : (p w.2.1).queue = (w.1, w.2.2) :: reqOf (X.queue.drop (i + 1)) w.2.1 := by
    rw [← c.q]
    conv => lhs; rw [get_split hw]
    rw [reqOf_app, reqOf_none hm.1, show w :: X.queue.drop (i + 1) = [w] ++ X.queue.drop (i + 1) from rfl, reqOf_app, reqOf_one, if_pos rfl]
    rfl
  refine ⟨hq, ?_⟩
  have hn : ¬ ((p w.2.1).alone = true ∨ ((w.1, w.2.2) : Rq).2 = true ∧ 0 < (p w.2.1).has.length) := by
    rintro (h | ⟨h1, h2⟩)
    · obtain ⟨t, ht⟩ := mget_head (List.length_pos_iff.2 (c.had _ h))
      obtain ⟨u, hu, -, h4⟩ := c.h2 _ _ ht
      have := (hm.2 u hu h4).1
      rw [(c.h1 u hu).2, h4, h] at this
      cases this
    · obtain ⟨t, ht⟩ := mget_head h2
      obtain ⟨u, hu, -, h4⟩ := c.h2 _ _ ht
      have h5 := (hm.2 u hu h4).2
      have h6 : w.2.2 = true := h1
      rw [h6] at h5
      cases h5
  unfold grantP
  rw [hq]
  exact if_neg hn
theorem tie_step (c : Coup X p) (hw : X.queue[i]? = some w) (hm : MayX X i w) : ∃ P', grantP (p w.2.1) = some (w.1, P') ∧ Coup (grantX X i w) (fun k => if k = w.2.1 then P' else p k) := by
  obtain ⟨hq, hg⟩ := tie_grant c hw hm
  refine ⟨_, hg, fun key => ?_, fun u hu => ?_, fun key t ht => ?_, fun key hk => ?_, fun key => ?_⟩
  · show reqOf (X.queue.take i ++ X.queue.drop (i + 1)) key = _
    by_cases e : key = w.2.1
    · subst e
      rw [if_pos rfl, reqOf_app, reqOf_none hm.1]
      rfl
    · rw [if_neg e, ← c.q]
      conv => rhs; rw [get_split hw]
      rw [reqOf_app, reqOf_app, show w :: X.queue.drop (i + 1) = [w] ++ X.queue.drop (i + 1) from rfl, reqOf_app, reqOf_one, if_neg (Ne.symm e)]
      rfl
  · rcases List.mem_append.1 (show u ∈ X.has ++ [w] from hu) with h | h
    · by_cases e : u.2.1 = w.2.1
      · rw [if_pos e]
        refine ⟨?_, ?_⟩
        · show (mget (mput (p w.2.1).has w.1 ()) u.1).isSome = true
          rw [mget_mput]
          split
          · rfl
          · rw [← e]; exact (c.h1 u h).1
        · have := hm.2 u h e
          show u.2.2 = w.2.2
          rw [this.1, this.2]
      · rw [if_neg e]
        exact c.h1 u h
    · rw [List.mem_singleton.1 h, if_pos rfl]
      refine ⟨?_, rfl⟩
      show (mget (mput (p w.2.1).has w.1 ()) w.1).isSome = true
      rw [mget_mput, if_pos rfl]
      rfl
  · by_cases e : key = w.2.1
    · rw [if_pos e] at ht
      have ht2 : (mget (mput (p w.2.1).has w.1 ()) t).isSome = true := ht
      rw [mget_mput] at ht2
      by_cases e2 : t = w.1
      · exact ⟨w, List.mem_append_right _ (List.mem_cons_self ..), e2.symm, e.symm⟩
      · rw [if_neg e2] at ht2
        obtain ⟨u, hu, h3, h4⟩ := c.h2 _ _ ht2
        exact ⟨u, List.mem_append_left _ hu, h3, by rw [h4, e]⟩
    · rw [if_neg e] at ht
      obtain ⟨u, hu, h3, h4⟩ := c.h2 _ _ ht
      exact ⟨u, List.mem_append_left _ hu, h3, h4⟩
  · by_cases e : key = w.2.1
    · show (if key = w.2.1 then _ else p key : LtP).has ≠ []
      rw [if_pos e]
      exact mput_ne
    · have hk2 : (p key).alone = true := by
        have := hk
        rw [if_neg e] at this
        exact this
      show (if key = w.2.1 then _ else p key : LtP).has ≠ []
      rw [if_neg e]
      exact c.had key hk2
  · show LtInv (if key = w.2.1 then _ else p key)
    split
    · exact grant_inv hg
    · exact c.inv key
theorem tie_fin (c : Coup X p) (hf : FinX X) (key : Int) : grantP (p key) = none := by
  cases hg : grantP (p key) with
  | none => rfl
  | some x =>
    exfalso
    unfold grantP at hg
    split at hg
    · cases hg
    · rename_i r q hq
      split at hg
      · cases hg
      · rename_i hn
        rw [← c.q] at hq
        unfold reqOf at hq
        cases hfl : X.queue.filter (fun w => w.2.1 == key) with
        | nil => rw [hfl] at hq; cases hq
        | cons w L =>
          rw [hfl] at hq
          have hr : r = (w.1, w.2.2) := by
            have := List.cons.inj hq
            exact this.1.symm
          obtain ⟨l1, l2, e1, e2, e3, -⟩ := List.filter_eq_cons_iff.1 hfl
          have hk : w.2.1 = key := by simpa using e3
          refine hf l1.length w (by rw [e1]; simp) ⟨fun u hu => ?_, fun u hu h3 => ?_⟩
          · rw [e1, List.take_left] at hu
            have := e2 u hu
            rw [hk]
            simpa using this
          · have h4 := c.h1 u hu
            rw [h3, hk] at h4
            refine ⟨?_, ?_⟩
            · cases hb : u.2.2 with
              | false => rfl
              | true => exact absurd (.inl (by rw [← h4.2, hb])) hn
            · cases hb : w.2.2 with
              | false => rfl
              | true => exact absurd (.inr ⟨by rw [hr]; exact hb, mget_pos h4.1⟩) hn
/-- From one latch to another by grants. -/
def Gr (P : LtP) (l : List Int) (P' : LtP) : Prop := ∀ n, settle (n + l.length) P = (l ++ (settle n P').1, (settle n P').2)
theorem Gr.refl (P : LtP) : Gr P [] P := fun n => rfl
theorem Gr.step {P P' P'' : LtP} {l : List Int} {k : Int} (h : Gr P l P') (hg : grantP P' = some (k, P'')) : Gr P (l ++ [k]) P'' := fun n => by
  have h1 := h (n + 1)
  rw [settle_some hg] at h1
  have e : n + (l ++ [k]).length = n + 1 + l.length := by simp; omega
  rw [e, h1]
  simp
theorem Gr.fin {P P' : LtP} {l : List Int} (h : Gr P l P') (hg : grantP P' = none) (n : Nat) (hn : l.length ≤ n) : settle n P = (l, P') := by
  have h1 := h (n - l.length)
  rw [settle_none hg, Nat.sub_add_cancel hn] at h1
  simpa using h1
theorem flat_upd (o : Int → List Int) (key t : Int) : ∀ ks : List Int, ks.Nodup → key ∈ ks → (ks.flatMap fun k => if k = key then o k ++ [t] else o k).Perm (ks.flatMap o ++ [t])
  | [], _, h => by cases h
  | a :: ks, hn, h => by
    have hn2 := List.nodup_cons.1 hn
    rw [List.flatMap_cons, List.flatMap_cons]
    by_cases e : a = key
    · subst e
      rw [if_pos rfl]
      have e2 : (ks.flatMap fun k => if k = a then o k ++ [t] else o k) = ks.flatMap o := by
        rw [List.flatMap_def, List.flatMap_def]
        congr 1
        refine List.map_congr_left fun k hk => if_neg fun e3 => hn2.1 (by rw [← e3]; exact hk)
      rw [e2, List.append_assoc, List.append_assoc]
      exact List.Perm.append_left _ List.perm_append_comm
    · rw [if_neg e, List.append_assoc]
      exact List.Perm.append_left _ (flat_upd o key t ks hn2.2 ((List.mem_cons.1 h).resolve_left fun e2 => e e2.symm))
theorem steps_tie (h : Steps X out X') (c : Coup X p) : ∃ (p' : Int → LtP) (o : Int → List Int), Coup X' p' ∧ (∀ k, Gr (p k) (o k) (p' k) ∧ (o k).length + (p' k).queue.length = (p k).queue.length) ∧ (∀ t, t ∈ out ↔ ∃ k, t ∈ o k) ∧ ∀ ks : List Int, ks.Nodup → (∀ k, k ∉ ks → (p k).queue = []) → out.Perm (ks.flatMap o) := by
  refine h (fun out X' => ∃ (p' : Int → LtP) (o : Int → List Int), Coup X' p' ∧ (∀ k, Gr (p k) (o k) (p' k) ∧ (o k).length + (p' k).queue.length = (p k).queue.length) ∧ (∀ t, t ∈ out ↔ ∃ k, t ∈ o k) ∧ ∀ ks : List Int, ks.Nodup → (∀ k, k ∉ ks → (p k).queue = []) → out.Perm (ks.flatMap o)) ⟨p, fun _ => [], c, fun k => ⟨Gr.refl _, Nat.zero_add _⟩, fun t => by simp, fun ks _ _ => by simp⟩ ?_
  rintro o' Y i w ⟨p', o, c', hg, ht, hp⟩ hw hm
  obtain ⟨P', h1, h2⟩ := tie_step c' hw hm
  refine ⟨_, fun k => if k = w.2.1 then o k ++ [w.1] else o k, h2, fun k => ?_, fun t => ?_, fun ks hn hk => ?_⟩
  · by_cases e : k = w.2.1
    · subst e
      rw [if_pos rfl]
      have h3 := grant_len h1
      refine ⟨by simp only [if_pos]; exact (hg _).1.step h1, ?_⟩
      have h4 := (hg w.2.1).2
      simp only [if_pos, List.length_append, List.length_cons, List.length_nil]
      omega
    · simp only [if_neg e]
      exact hg k
  · rw [List.mem_append, List.mem_singleton, ht]
    constructor
    · rintro (⟨k, hk⟩ | rfl)
      · refine ⟨k, ?_⟩
        by_cases e : k = w.2.1
        · simp only [if_pos e]
          exact List.mem_append_left _ hk
        · simp only [if_neg e]
          exact hk
      · exact ⟨w.2.1, by simp⟩
    · rintro ⟨k, hk⟩
      by_cases e : k = w.2.1
      · simp only [if_pos e] at hk
        rcases List.mem_append.1 hk with h | h
        · exact .inl ⟨k, h⟩
        · exact .inr (List.mem_singleton.1 h)
      · simp only [if_neg e] at hk
        exact .inl ⟨k, hk⟩
  · have hin : w.2.1 ∈ ks := by
      by_cases hin : w.2.1 ∈ ks
      · exact hin
      · exfalso
        have h3 := hk _ hin
        have h4 := (hg w.2.1).2
        rw [(tie_grant c' hw hm).1, h3] at h4
        simp at h4
    exact ((hp ks hn hk).append_right _).trans (flat_upd o _ _ ks hn hin).symm
theorem steps_q (h : Steps X out X') (nd : (X.queue.map (·.1)).Nodup) : (X'.queue.map (·.1)).Nodup ∧ ∀ w, w ∈ X'.queue ↔ w ∈ X.queue ∧ w.1 ∉ out := by
  refine h (fun out X' => (X'.queue.map (·.1)).Nodup ∧ ∀ w, w ∈ X'.queue ↔ w ∈ X.queue ∧ w.1 ∉ out) ⟨nd, fun w => by simp⟩ ?_
  rintro o Y i w ⟨h1, h2⟩ hw hm
  have hs := get_split hw
  have h3 : ((Y.queue.take i ++ w :: Y.queue.drop (i + 1)).map (·.1)).Nodup := by rw [← hs]; exact h1
  rw [List.map_append, List.map_cons] at h3
  have h5 : w.1 ∉ (Y.queue.take i ++ Y.queue.drop (i + 1)).map (·.1) := by
    rw [List.map_append]
    exact (List.nodup_cons.1 (List.perm_middle.nodup_iff.1 h3)).1
  have h6 : ((Y.queue.take i ++ Y.queue.drop (i + 1)).map (·.1)).Nodup := by
    rw [List.map_append]
    exact (List.nodup_cons.1 (List.perm_middle.nodup_iff.1 h3)).2
  refine ⟨h6, fun u => ?_⟩
  have h7 : u ∈ Y.queue ↔ u = w ∨ u ∈ Y.queue.take i ++ Y.queue.drop (i + 1) := by
    conv => lhs; rw [hs]
    rw [List.perm_middle.mem_iff, List.mem_cons]
  show u ∈ Y.queue.take i ++ Y.queue.drop (i + 1) ↔ _
  rw [List.mem_append (s := o), List.mem_singleton, not_or, ← and_assoc, ← h2 u, h7]
  constructor
  · intro hu
    exact ⟨.inr hu, fun e => h5 (e ▸ List.mem_map.2 ⟨u, hu, rfl⟩)⟩
  · rintro ⟨rfl | hu, hne⟩
    · exact absurd rfl hne
    · exact hu
theorem steps_sz (h : Steps X out X') : X'.has.length + X'.queue.length = X.has.length + X.queue.length := by
  refine h (fun _ X' => X'.has.length + X'.queue.length = X.has.length + X.queue.length) rfl ?_
  intro o Y i w h1 hw _
  have hi := (List.getElem?_eq_some_iff.1 hw).1
  rw [← h1]
  simp only [grantX, List.length_append, List.length_cons, List.length_nil, List.length_take, List.length_drop]
  omega
theorem holds_coup (c : Coup X p) (t key : Int) : holdsX X.has t key = if (mget (p key).has t).isSome = true then (if (p key).alone = true then 2 else 1) else 0 := by
  unfold holdsX
  cases hf : X.has.find? (hit t key) with
  | none =>
    have h1 := List.find?_eq_none.1 hf
    rw [if_neg]
    intro hs
    obtain ⟨u, hu, e1, e2⟩ := c.h2 _ _ hs
    exact h1 u hu (by simp [hit, e1, e2])
  | some u =>
    have h1 := List.find?_some hf
    have h2 := List.mem_of_find?_eq_some hf
    simp [hit] at h1
    obtain ⟨rfl, rfl⟩ := h1
    have h3 := c.h1 u h2
    rw [if_pos h3.1, ← h3.2]
end
/-- All that holds behind i acts. -/
structure TieX (X : XR) (PL : PLts) (W : Wts) (i : Nat) : Prop where
  c : Coup X (atKey PL)
  fin : ∀ key, grantP (atKey PL key) = none
  nd : (X.queue.map (·.1)).Nodup
  wt : ∀ t k, mget W t = some k ↔ ∃ b, (t, k, b) ∈ X.queue
  sz : Sized PL i
  sx : X.has.length + X.queue.length ≤ i
theorem TieX.start : TieX ⟨[], []⟩ [] [] 0 := ⟨⟨fun _ => rfl, (fun w hw => by cases hw), (fun k t h => by cases h), (fun k h => by cases h), fun k => lt0_inv⟩, fun k => rfl, List.nodup_nil, (fun t k => by simp), Sized.start, Nat.le_refl _⟩
section
variable {X X' : XR} {PL : PLts} {W : Wts} {i : Nat} {t key task : Int} {al r : Bool} {l : LtP} {out wk : List Int}
theorem TieX.up (h : TieX X PL W i) : TieX X PL W (i + 1) := ⟨h.c, h.fin, h.nd, h.wt, h.sz.up, Nat.le_succ_of_le h.sx⟩
theorem holdsP_at (PL : PLts) (t key : Int) : holdsP PL t key = if (mget (atKey PL key).has t).isSome = true then (if (atKey PL key).alone = true then 2 else 1) else 0 := by
  unfold holdsP atKey
  cases mget PL key with
  | none => rfl
  | some P => rfl
theorem TieX.holds (h : TieX X PL W i) (t key : Int) : holdsX X.has t key = holdsP PL t key := by rw [holds_coup h.c, holdsP_at]
theorem TieX.waits (h : TieX X PL W i) (t : Int) : waitsX X.queue t = mget W t := by
  unfold waitsX
  cases hf : X.queue.find? (fun w => w.1 == t) with
  | none =>
    have h1 := List.find?_eq_none.1 hf
    cases hw : mget W t with
    | none => rfl
    | some k =>
      obtain ⟨b, hb⟩ := (h.wt t k).1 hw
      exact absurd (by simp) (h1 _ hb)
  | some u =>
    have h1 := List.find?_some hf
    have h2 := List.mem_of_find?_eq_some hf
    simp at h1
    subst h1
    exact ((h.wt u.1 u.2.1).2 ⟨u.2.2, h2⟩).symm
theorem TieX.idle (h : TieX X PL W i) (hw : mget W t = none) : t ∉ X.queue.map (·.1) := by
  intro hm
  obtain ⟨u, hu, rfl⟩ := List.mem_map.1 hm
  have := (h.wt u.1 u.2.1).2 ⟨u.2.2, hu⟩
  rw [hw] at this
  cases this
/-- Free. -/
theorem TieX.free (h : TieX X PL W i) (hst : Steps ⟨woW X.has task, woW X.queue task⟩ out X') (hf : FinX X') (hn : (mkeys PL).Nodup) (hw : wk.Perm (wokenP task PL)) : out.Perm (wokenP task PL) ∧ TieX X' (freeAll task PL) (unwait (mdel W task) wk) (i + 1) := by
  have c0 : Coup ⟨woW X.has task, woW X.queue task⟩ (fun k => without (atKey PL k) task) := by
    refine ⟨fun k => ?_, fun u hu => ?_, fun k t ht => ?_, fun k hal => ?_, fun k => without_inv (h.c.inv k)⟩
    · show reqOf (woW X.queue task) k = others (atKey PL k).queue task
      rw [← h.c.q]
      unfold reqOf woW others
      rw [List.filter_map, List.filter_filter, List.filter_filter]
      congr 1
      refine List.filter_congr fun w _ => ?_
      simp [Bool.and_comm]
    · obtain ⟨h1, h2⟩ := List.mem_filter.1 (show u ∈ X.has.filter _ from hu)
      have h2' : u.1 ≠ task := by simpa using h2
      obtain ⟨h3, h4⟩ := h.c.h1 u h1
      refine ⟨?_, ?_⟩
      · show (mget (mdel (atKey PL u.2.1).has task) u.1).isSome = true
        rw [mget_mdel, if_neg h2']
        exact h3
      · show u.2.2 = if (mget (atKey PL u.2.1).has task).isSome = true then false else (atKey PL u.2.1).alone
        by_cases hb : (mget (atKey PL u.2.1).has task).isSome = true
        · rw [if_pos hb, h4]
          cases hal : (atKey PL u.2.1).alone with
          | false => rfl
          | true =>
            exfalso
            have hl := h.c.inv _ hal
            obtain ⟨u1, e1⟩ := Option.isSome_iff_exists.1 h3
            obtain ⟨u2, e2⟩ := Option.isSome_iff_exists.1 hb
            have m1 := mget_mem e1
            have m2 := mget_mem e2
            match hh : (atKey PL u.2.1).has, hl with
            | [], _ => rw [hh] at m1; cases m1
            | [q], _ =>
              rw [hh] at m1 m2
              have a1 := List.mem_singleton.1 m1
              have a2 := List.mem_singleton.1 m2
              exact h2' (congrArg Prod.fst (a1.trans a2.symm))
        · rw [if_neg hb]
          exact h4
    · have ht2 : (mget (mdel (atKey PL k).has task) t).isSome = true := ht
      rw [mget_mdel] at ht2
      by_cases e : t = task
      · rw [if_pos e] at ht2; cases ht2
      · rw [if_neg e] at ht2
        obtain ⟨u, hu, e1, e2⟩ := h.c.h2 _ _ ht2
        exact ⟨u, List.mem_filter.2 ⟨hu, by simpa [e1] using e⟩, e1, e2⟩
    · unfold without at hal ⊢
      simp only at hal ⊢
      by_cases hb : (mget (atKey PL k).has task).isSome = true
      · rw [if_pos hb] at hal
        cases hal
      · rw [if_neg hb] at hal
        rw [mdel_absent (by simpa using hb)]
        exact h.c.had k hal
  obtain ⟨p', o, c', hg, ht, hp⟩ := steps_tie hst c0
  have hfin := tie_fin c' hf
  have hk : ∀ k, freeP (atKey PL k) task = (o k, p' k) := fun k => (hg k).1.fin (hfin k) _ (by have := (hg k).2; show (o k).length ≤ (without (atKey PL k) task).queue.length; omega)
  have hat : ∀ k, atKey (freeAll task PL) k = p' k := fun k => by
    have h1 := hk k
    unfold atKey at h1 ⊢
    rw [mget_freeAll]
    cases hm : mget PL k with
    | none =>
      rw [hm] at h1
      have h2 : (freeP lt0P task).2 = p' k := by
        have : freeP lt0P task = (o k, p' k) := h1
        rw [this]
      rw [← h2]
      rfl
    | some P =>
      rw [hm] at h1
      show (freeP P task).2 = p' k
      have : freeP P task = (o k, p' k) := h1
      rw [this]
  have hout : out.Perm (wokenP task PL) := by
    refine (hp (mkeys PL) hn fun k hk2 => ?_).trans (List.Perm.of_eq ?_)
    · show others (atKey PL k).queue task = []
      unfold atKey
      rw [mget_none.2 hk2]
      rfl
    · unfold wokenP mkeys
      rw [List.flatMap_map, List.flatMap_def, List.flatMap_def]
      congr 1
      refine List.map_congr_left fun e he => ?_
      have h1 := hk e.1
      have h2 : atKey PL e.1 = e.2 := by
        unfold atKey
        rw [mget_of_mem hn (x := e.1) (v := e.2) he]
        rfl
      rw [h2] at h1
      rw [h1]
  have e0 : atKey (freeAll task PL) = p' := funext hat
  have hq := steps_q hst (show ((woW X.queue task).map (·.1)).Nodup from h.nd.sublist (List.filter_sublist.map _))
  refine ⟨hout, e0 ▸ c', fun k => by rw [hat]; exact hfin k, hq.1, fun t k => ?_, h.sz.free, ?_⟩
  · have hwo : t ∈ wk ↔ t ∈ out := hw.mem_iff.trans hout.mem_iff.symm
    have hmem : (∃ b, (t, k, b) ∈ X'.queue) ↔ (∃ b, (t, k, b) ∈ X.queue) ∧ t ≠ task ∧ t ∉ out := by
      constructor
      · rintro ⟨b, hb⟩
        obtain ⟨h1, h2⟩ := (hq.2 _).1 hb
        obtain ⟨h3, h4⟩ := List.mem_filter.1 (show (t, k, b) ∈ X.queue.filter _ from h1)
        exact ⟨⟨b, h3⟩, by simpa using h4, h2⟩
      · rintro ⟨⟨b, h1⟩, h2, h3⟩
        exact ⟨b, (hq.2 _).2 ⟨List.mem_filter.2 ⟨h1, by simpa using h2⟩, h3⟩⟩
    rw [hmem, mget_unwait, mget_mdel, ← h.wt t k, ← hwo]
    by_cases h1 : t ∈ wk
    · simp [h1]
    · by_cases h2 : t = task
      · simp [h2]
      · simp [h1, h2]
  · rw [steps_sz hst]
    have h1 : (woW X.has task).length ≤ X.has.length := List.length_filter_le _ _
    have h2 : (woW X.queue task).length ≤ X.queue.length := List.length_filter_le _ _
    have := h.sx
    show (woW X.has task).length + (woW X.queue task).length ≤ i + 1
    omega
/-- Ask. -/
theorem TieX.ask (h : TieX X PL W i) (hm : mayAsk PL W task key = true) (hr : askL (atKey PL key) task al = (r, l)) (hst : Steps ⟨X.has, X.queue ++ [(task, key, al)]⟩ out X') (hf : FinX X') : decide (0 < holdsX X'.has task key) = r ∧ TieX X' (mput PL key l) (if r then W else mput W task key) (i + 1) := by
  have hm2 : mget W task = none ∧ (mget (atKey PL key).has task).isSome = false := by
    unfold mayAsk at hm
    rw [holdsP_at] at hm
    simp only [Bool.and_eq_true, Bool.not_eq_true', decide_eq_false_iff_not] at hm
    refine ⟨by simpa using hm.1, ?_⟩
    cases hb : (mget (atKey PL key).has task).isSome with
    | false => rfl
    | true =>
      exfalso
      have := hm.2
      rw [if_pos hb] at this
      split at this <;> omega
  obtain ⟨hmw, hmh⟩ := hm2
  have c0 : Coup ⟨X.has, X.queue ++ [(task, key, al)]⟩ (fun k => if k = key then queued (atKey PL key) task al else atKey PL k) := by
    refine ⟨fun k => ?_, fun u hu => ?_, fun k t ht => ?_, fun k hal => ?_, fun k => ?_⟩
    · show reqOf (X.queue ++ [(task, key, al)]) k = _
      rw [reqOf_app, reqOf_one, h.c.q]
      by_cases e : k = key
      · subst e
        rw [if_pos rfl, if_pos rfl]
        rfl
      · rw [if_neg e, if_neg (Ne.symm e), List.append_nil]
    · by_cases e : u.2.1 = key
      · have := h.c.h1 u hu
        rw [if_pos e]
        rw [e] at this
        exact this
      · rw [if_neg e]
        exact h.c.h1 u hu
    · by_cases e : k = key
      · rw [if_pos e] at ht
        rw [e]
        exact h.c.h2 key t ht
      · rw [if_neg e] at ht
        exact h.c.h2 k t ht
    · by_cases e : k = key
      · rw [if_pos e] at hal
        show (if k = key then queued (atKey PL key) task al else atKey PL k).has ≠ []
        rw [if_pos e]
        exact h.c.had key hal
      · rw [if_neg e] at hal
        show (if k = key then queued (atKey PL key) task al else atKey PL k).has ≠ []
        rw [if_neg e]
        exact h.c.had k hal
    · show LtInv (if k = key then queued (atKey PL key) task al else atKey PL k)
      split
      · exact queued_inv (h.c.inv key)
      · exact h.c.inv k
  obtain ⟨p', o, c', hg, ht, -⟩ := steps_tie hst c0
  have hfin := tie_fin c' hf
  have hother : ∀ k, k ≠ key → o k = [] ∧ p' k = atKey PL k := fun k hk => by
    have h1 := (hg k).1.fin (hfin k) _ (Nat.le_refl _)
    rw [if_neg hk, settle_none (h.fin k)] at h1
    exact ⟨(congrArg Prod.fst h1).symm, (congrArg Prod.snd h1).symm⟩
  have hkey : o key = (if r then [task] else []) ∧ p' key = l := by
    have h1 := (hg key).1
    rw [if_pos rfl] at h1
    have h2 := h1.fin (hfin key) _ (Nat.le_refl _)
    unfold askL at hr
    split at hr
    · rename_i hq
      cases hgr : grantP (queued (atKey PL key) task al) with
      | none =>
        rw [hgr] at hr
        cases hr
        rw [settle_none hgr] at h2
        exact ⟨(congrArg Prod.fst h2).symm, (congrArg Prod.snd h2).symm⟩
      | some x =>
        rw [hgr] at hr
        cases hr
        obtain ⟨k, P'⟩ := x
        have hk : k = task := by
          unfold grantP queued at hgr
          rw [hq] at hgr
          simp only [List.nil_append] at hgr
          split at hgr
          · cases hgr
          · cases hgr
            rfl
        have hl := grant_len hgr
        have h0 : P'.queue.length = 0 := by
          have : (queued (atKey PL key) task al).queue.length = 1 := by simp [queued, hq]
          omega
        have hst2 : settle 1 (queued (atKey PL key) task al) = ([k], P') := by
          rw [settle_some hgr]
          rfl
        have hlen : (o key).length ≤ 1 := by
          have h5 := (hg key).2
          rw [if_pos rfl] at h5
          have : (queued (atKey PL key) task al).queue.length = 1 := by simp [queued, hq]
          omega
        have h6 := h1.fin (hfin key) 1 hlen
        rw [hst2, hk] at h6
        exact ⟨(congrArg Prod.fst h6).symm, (congrArg Prod.snd h6).symm⟩
    · rename_i hq
      cases hr
      have hgn : grantP (queued (atKey PL key) task al) = none := by
        have h3 := h.fin key
        unfold grantP at h3 ⊢
        unfold queued
        simp only
        cases hP : (atKey PL key).queue with
        | nil => exact absurd hP hq
        | cons a q =>
          rw [hP] at h3
          simp only [List.cons_append] at h3 ⊢
          split at h3
          · rename_i hc
            rw [if_pos hc]
          · cases h3
      rw [settle_none hgn] at h2
      exact ⟨(congrArg Prod.fst h2).symm, (congrArg Prod.snd h2).symm⟩
  have hat : ∀ k, atKey (mput PL key l) k = p' k := fun k => by
    have e : atKey (mput PL key l) k = if k = key then l else atKey PL k := by
      unfold atKey
      rw [mget_mput]
      split <;> rfl
    rw [e]
    by_cases ek : k = key
    · rw [if_pos ek, ek, hkey.2]
    · rw [if_neg ek, (hother k ek).2]
  have e0 : atKey (mput PL key l) = p' := funext hat
  have hidle := h.idle hmw
  have hq := steps_q hst (show ((X.queue ++ [(task, key, al)]).map (·.1)).Nodup from by
    rw [List.map_append]
    exact (List.perm_append_comm.nodup_iff).1 (List.nodup_cons.2 ⟨hidle, h.nd⟩))
  have hin : ∀ t, t ∈ out ↔ r = true ∧ t = task := fun t => by
    rw [ht]
    constructor
    · rintro ⟨k, hk⟩
      by_cases e : k = key
      · rw [e, hkey.1] at hk
        cases r with
        | true => exact ⟨rfl, by simpa using hk⟩
        | false => simp at hk
      · rw [(hother k e).1] at hk
        cases hk
    · rintro ⟨h1, h2⟩
      exact ⟨key, by rw [hkey.1, h1, h2]; simp⟩
  have hl2 : l = (askL (atKey PL key) task al).2 := by rw [hr]
  have hres : decide (0 < holdsX X'.has task key) = r := by
    rw [holds_coup c', hkey.2]
    cases r with
    | true =>
      have : (mget l.has task).isSome = true := by
        unfold askL at hr
        split at hr
        · rename_i hq2
          cases hgr : grantP (queued (atKey PL key) task al) with
          | none => rw [hgr] at hr; cases hr
          | some x =>
            rw [hgr] at hr
            cases hr
            unfold grantP queued at hgr
            rw [hq2] at hgr
            simp only [List.nil_append] at hgr
            split at hgr
            · cases hgr
            · cases hgr
              show (mget (mput (atKey PL key).has task ()) task).isSome = true
              rw [mget_mput, if_pos rfl]
              rfl
        · cases hr
      rw [if_pos this]
      split <;> simp
    | false =>
      rw [ask_false hr, if_neg]
      · simp
      · show ¬ (mget (atKey PL key).has task).isSome = true
        rw [hmh]
        simp
  refine ⟨hres, e0 ▸ c', fun k => by rw [hat]; exact hfin k, hq.1, fun t k => ?_, by rw [hl2]; exact h.sz.ask, ?_⟩
  · have hmem : (∃ b, (t, k, b) ∈ X'.queue) ↔ (∃ b, (t, k, b) ∈ X.queue ++ [(task, key, al)]) ∧ ¬ (r = true ∧ t = task) := by
      constructor
      · rintro ⟨b, hb⟩
        obtain ⟨h1, h2⟩ := (hq.2 _).1 hb
        exact ⟨⟨b, h1⟩, fun h3 => h2 ((hin t).2 h3)⟩
      · rintro ⟨⟨b, h1⟩, h2⟩
        exact ⟨b, (hq.2 _).2 ⟨h1, fun h3 => h2 ((hin t).1 h3)⟩⟩
    have hmem2 : (∃ b, (t, k, b) ∈ X.queue ++ [(task, key, al)]) ↔ mget W t = some k ∨ (t = task ∧ k = key) := by
      rw [h.wt]
      constructor
      · rintro ⟨b, hb⟩
        rcases List.mem_append.1 hb with h1 | h1
        · exact .inl ⟨b, h1⟩
        · have := List.mem_singleton.1 h1
          cases this
          exact .inr ⟨rfl, rfl⟩
      · rintro (⟨b, hb⟩ | ⟨rfl, rfl⟩)
        · exact ⟨b, List.mem_append_left _ hb⟩
        · exact ⟨al, List.mem_append_right _ (List.mem_cons_self ..)⟩
    rw [hmem, hmem2]
    cases r with
    | true =>
      show mget W t = some k ↔ _
      by_cases e : t = task
      · subst e
        rw [hmw]
        simp
      · simp [e]
    | false =>
      show mget (mput W task key) t = some k ↔ _
      rw [mget_mput]
      by_cases e : t = task
      · subst e
        rw [hmw]
        simp [eq_comm]
      · simp [e]
  · rw [steps_sz hst]
    have := h.sx
    simp only [List.length_append, List.length_cons, List.length_nil]
    omega
end
end Go.Proofs.Ytojdkioimklhmaa
