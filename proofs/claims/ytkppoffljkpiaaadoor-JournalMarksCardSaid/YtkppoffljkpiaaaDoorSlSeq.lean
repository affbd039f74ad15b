/-
  A region that draws its order and writes several times, each writing operation waiting for the one ahead: one walk in the order of the text serves every order. It names no program.
-/
import Derived.Test.YtkppoffljkpiaaaDoorSlDraw
namespace Go.Proofs.YtkppoffljkpiaaaDoor.Sl
open Go Go.RowKit

/-- No fact about a world (it holds of each; not a rewrite rule). -/
structure AnyW (w : World) : Prop where
  out : True

section
variable {P : Program} {ops : Array Oper}
/-- With s of the writing operations done, may operation k be next? -/
def poss (ops : Array Oper) (ns : List Nat) (k s : Nat) : Bool :=
  (ns.take s).all (fun n => !dep ops n k) && (ns.drop s).all (fun n => !dep ops k n)
def stages (ops : Array Oper) (ns : List Nat) (k : Nat) : List Nat := (List.range (ns.length + 1)).filter (poss ops ns k)
/-- Each writing operation waits for the one ahead of it. -/
def chain (ops : Array Oper) : List Nat → Bool
  | a :: b :: r => dep ops b a && chain ops (b :: r)
  | _ => true
def inAll (l : List Nat) (f : Nat → Prop) : Prop := match l with
  | [] => True
  | [s] => f s
  | s :: r => f s ∧ inAll r f
theorem inAll_mem : ∀ {l : List Nat} {f : Nat → Prop}, inAll l f → ∀ s ∈ l, f s
  | [], _, _, s, h => by cases h
  | [a], f, h, s, hs => by
    have : s = a := by simpa using hs
    subst this; exact h
  | a :: b :: r, f, h, s, hs => by
    rcases List.mem_cons.1 hs with e | e
    · subst e; exact h.1
    · exact inAll_mem (l := b :: r) h.2 s e

def seqW (P : Program) (ops : Array Oper) (Cs : Nat → World → Prop) (ns : List Nat) (G : Act → Prop) : List Oper → Nat → Nat → Act → Prop
  | [], _, _, a => G a
  | o :: rest, k, j, a => ∃ v, if ns[j]? = some k then (∀ w, Cs j w → wpList P ops (Qd a o.dst v (Cs (j + 1))) [o] a w) ∧ seqW P ops Cs ns G rest (k + 1) (j + 1) (a.put o.dst v)
      else inAll (stages ops ns k) (fun s => ∀ w, Cs s w → wpList P ops (Qd a o.dst v (Cs s)) [o] a w) ∧ seqW P ops Cs ns G rest (k + 1) j (a.put o.dst v)
variable {Cs : Nat → World → Prop} {ns : List Nat} {G : Act → Prop} {o : Oper} {rest : List Oper} {k j : Nat} {a : Act} {v : Value}
theorem seq_write (hk : (ns[j]? == some k) = true) (h0 : ∀ w, Cs j w → wpList P ops (Qd a o.dst v (Cs (j + 1))) [o] a w) (h2 : seqW P ops Cs ns G rest (k + 1) (j + 1) (a.put o.dst v)) : seqW P ops Cs ns G (o :: rest) k j a :=
  ⟨v, by rw [if_pos (by simpa using hk)]; exact ⟨h0, h2⟩⟩
theorem seq_writeN (hn : o.dst.isNone = true) (hk : (ns[j]? == some k) = true) (h0 : ∀ w, Cs j w → wpList P ops (Qd a o.dst undef (Cs (j + 1))) [o] a w) (h2 : seqW P ops Cs ns G rest (k + 1) (j + 1) (a.put o.dst undef)) : seqW P ops Cs ns G (o :: rest) k j a :=
  seq_write hk h0 h2
theorem seq_read1 {s : Nat} (hn : (ns[j]? == some k) = false) (hk : stages ops ns k = [s]) (h0 : ∀ w, Cs s w → wpList P ops (Qd a o.dst v (Cs s)) [o] a w) (h2 : seqW P ops Cs ns G rest (k + 1) j (a.put o.dst v)) : seqW P ops Cs ns G (o :: rest) k j a := by
  simp only [beq_eq_false_iff_ne, ne_eq] at hn
  exact ⟨v, by rw [if_neg hn, hk]; exact ⟨h0, h2⟩⟩
theorem seq_read2 {s s' : Nat} (hn : (ns[j]? == some k) = false) (hk : stages ops ns k = [s, s']) (h0 : ∀ w, Cs s w → wpList P ops (Qd a o.dst v (Cs s)) [o] a w) (h1 : ∀ w, Cs s' w → wpList P ops (Qd a o.dst v (Cs s')) [o] a w) (h2 : seqW P ops Cs ns G rest (k + 1) j (a.put o.dst v)) : seqW P ops Cs ns G (o :: rest) k j a := by
  simp only [beq_eq_false_iff_ne, ne_eq] at hn
  exact ⟨v, by rw [if_neg hn, hk]; exact ⟨⟨h0, h1⟩, h2⟩⟩
theorem seq_read3 {s s' s'' : Nat} (hn : (ns[j]? == some k) = false) (hk : stages ops ns k = [s, s', s'']) (h0 : ∀ w, Cs s w → wpList P ops (Qd a o.dst v (Cs s)) [o] a w) (h1 : ∀ w, Cs s' w → wpList P ops (Qd a o.dst v (Cs s')) [o] a w) (h3 : ∀ w, Cs s'' w → wpList P ops (Qd a o.dst v (Cs s'')) [o] a w) (h2 : seqW P ops Cs ns G rest (k + 1) j (a.put o.dst v)) : seqW P ops Cs ns G (o :: rest) k j a := by
  simp only [beq_eq_false_iff_ne, ne_eq] at hn
  exact ⟨v, by rw [if_neg hn, hk]; exact ⟨⟨h0, h1, h3⟩, h2⟩⟩
theorem seq_read4 {s s' s'' s3 : Nat} (hn : (ns[j]? == some k) = false) (hk : stages ops ns k = [s, s', s'', s3]) (h0 : ∀ w, Cs s w → wpList P ops (Qd a o.dst v (Cs s)) [o] a w) (h1 : ∀ w, Cs s' w → wpList P ops (Qd a o.dst v (Cs s')) [o] a w) (h3 : ∀ w, Cs s'' w → wpList P ops (Qd a o.dst v (Cs s'')) [o] a w) (h4 : ∀ w, Cs s3 w → wpList P ops (Qd a o.dst v (Cs s3)) [o] a w) (h2 : seqW P ops Cs ns G rest (k + 1) j (a.put o.dst v)) : seqW P ops Cs ns G (o :: rest) k j a := by
  simp only [beq_eq_false_iff_ne, ne_eq] at hn
  exact ⟨v, by rw [if_neg hn, hk]; exact ⟨⟨h0, h1, h3, h4⟩, h2⟩⟩
theorem seq_nil (h : G a) : seqW P ops Cs ns G [] k j a := h

/-- s writing operations are done, and what each waited for. -/
def CC (ops : Array Oper) (ns : List Nat) (Cs : Nat → World → Prop) (D : Array Bool) (w : World) : Prop :=
  ∃ s, s ≤ ns.length ∧ (∀ i n, i < s → ns[i]? = some n → D.getD n false = true ∧ ∀ k, dep ops n k = true → D.getD k false = true) ∧ (∀ i n, s ≤ i → ns[i]? = some n → D.getD n false = false) ∧ Cs s w
theorem CC_eq {D : Array Bool} {s : Nat} (h1 : s ≤ ns.length) (h2 : ∀ i n, i < s → ns[i]? = some n → D.getD n false = true ∧ ∀ k, dep ops n k = true → D.getD k false = true) (h3 : ∀ i n, s ≤ i → ns[i]? = some n → D.getD n false = false) : CC ops ns Cs D = Cs s := by
  funext w
  refine propext ⟨fun ⟨s', k1, k2, k3, hC⟩ => ?_, fun h => ⟨s, h1, h2, h3, h⟩⟩
  have : s' = s := by
    rcases Nat.lt_trichotomy s' s with h | h | h
    · obtain ⟨n, hn⟩ : ∃ n, ns[s']? = some n := ⟨_, List.getElem?_eq_getElem (by omega)⟩
      have := (h2 s' n h hn).1
      rw [k3 s' n (Nat.le_refl _) hn] at this; cases this
    · exact h
    · obtain ⟨n, hn⟩ : ∃ n, ns[s]? = some n := ⟨_, List.getElem?_eq_getElem (by omega)⟩
      have := (k2 s n h hn).1
      rw [h3 s n (Nat.le_refl _) hn] at this; cases this
  rw [← this]; exact hC
theorem rdy_dep {o : Oper} {D : Array Bool} {k m : Nat} (ho : ops[k]? = some o) (hr : rdy o D) (hm : dep ops k m = true) : D.getD m false = true := by
  unfold dep at hm
  rw [ho] at hm
  simp only [List.any_eq_true, Bool.and_eq_true, beq_iff_eq] at hm
  obtain ⟨e, he, h6, h7⟩ := hm
  subst h6
  exact hr e (by simpa using he) h7
theorem chain_get : ∀ {ns : List Nat} {i a b : Nat}, chain ops ns = true → ns[i]? = some a → ns[i + 1]? = some b → dep ops b a = true
  | a :: b :: r, 0, _, _, h, h1, h2 => by
    simp only [chain, Bool.and_eq_true] at h
    simp at h1 h2; subst h1; subst h2; exact h.1
  | a :: b :: r, i + 1, _, _, h, h1, h2 => by
    simp only [chain, Bool.and_eq_true] at h
    exact chain_get (ns := b :: r) (i := i) h.2 (by simpa using h1) (by simpa using h2)
  | [a], i, _, _, _, _, h2 => by simp at h2
  | [], i, _, _, _, h1, _ => by simp at h1
theorem walkQ_of_seq (hch : chain ops ns = true) (hnd : ns.Pairwise (· < ·)) (hsz : ∀ n ∈ ns, n < ops.size) : ∀ (l : List Oper) (k j : Nat) (D : Array Bool) (a : Act), (∀ i, l[i]? = ops[k + i]?) → (∀ o ∈ l, ∀ d, o.dst = some d → d < a.tmps.size) →
    k + l.length = ops.size → D.size = ops.size → (∀ i n, i < j → ns[i]? = some n → D.getD n false = true ∧ n < k) → (∀ i n, j ≤ i → ns[i]? = some n → k ≤ n) →
    seqW P ops Cs ns G l k j a → walkQ P ops (CC ops ns Cs) (fun D a => (∀ n ∈ ns, D.getD n false = true) ∧ G a) l k D a
  | [], k, j, D, _, _, _, hk, _, hD, hlt, h => by
    refine ⟨fun n hn => ?_, h⟩
    obtain ⟨i, hi⟩ := List.mem_iff_getElem?.1 hn
    by_cases hij : i < j
    · exact (hD i n hij hi).1
    · have h1 := hlt i n (by omega) hi
      have h2 := hsz n hn
      simp at hk; omega
  | o :: l, k, j, D, a, hl, hd, hk, hs, hD, hlt, ⟨v, h1⟩ => by
    have ho : ops[k]? = some o := by simpa using (hl 0).symm
    have hkl : k < D.size := by rw [hs, ← hk]; simp
    have inj : ∀ {i i' n : Nat}, ns[i]? = some n → ns[i']? = some n → i = i' := fun {i i' n} e e' => by
      obtain ⟨h4, h5⟩ := List.getElem?_eq_some_iff.1 e
      obtain ⟨h6, h7⟩ := List.getElem?_eq_some_iff.1 e'
      rcases Nat.lt_trichotomy i i' with h | h | h
      · have := List.pairwise_iff_getElem.1 hnd i i' h4 h6 h; omega
      · exact h
      · have := List.pairwise_iff_getElem.1 hnd i' i h6 h4 h; omega
    by_cases hj : ns[j]? = some k
    · rw [if_pos hj] at h1
      have hjl : j < ns.length := (List.getElem?_eq_some_iff.1 hj).1
      refine ⟨v, qAt_of_wp (hd o (by simp)) (fun D' w hun hr hc => ?_), walkQ_of_seq hch hnd hsz l (k + 1) (j + 1) _ _ (fun i => by have := hl (i + 1); simpa [Nat.add_assoc, Nat.add_comm 1 i] using this) (fun o' ho d hd' => by rw [size_put]; exact hd o' (by simp [ho]) d hd') (by simp at hk ⊢; omega) (by simpa using hs) (fun i n hi hn => ?_) (fun i n hi hn => ?_) h1.2⟩
      · obtain ⟨hltD, hf⟩ := getD_tf hun
        obtain ⟨s, hs1, hs2, hs3, hC⟩ := hc
        have hsj : s = j := by
          have hle : s ≤ j := by
            rcases Nat.lt_or_ge j s with h | h
            · have := (hs2 j k h hj).1
              rw [hf] at this; cases this
            · exact h
          rcases Nat.lt_or_ge s j with h | h
          · exfalso
            obtain ⟨j', rfl⟩ : ∃ j', j = j' + 1 := ⟨j - 1, by omega⟩
            obtain ⟨m, hm⟩ : ∃ m, ns[j']? = some m := ⟨_, List.getElem?_eq_getElem (by omega)⟩
            have := rdy_dep ho hr (chain_get hch hm hj)
            rw [hs3 j' m (by omega) hm] at this; cases this
          · omega
        subst hsj
        have h3 := h1.1 w hC
        have e2 : CC ops ns Cs (D'.setIfInBounds k true) = Cs (s + 1) := by
          refine CC_eq (by omega) (fun i n hi hn => ?_) (fun i n hi hn => ?_)
          · by_cases his : i = s
            · subst his
              rw [hj] at hn
              obtain rfl := Option.some.inj hn
              exact ⟨by simp [hltD], fun m hm => getD_set_true (rdy_dep ho hr hm)⟩
            · have := hs2 i n (by omega) hn
              exact ⟨getD_set_true this.1, fun m hm => getD_set_true (this.2 m hm)⟩
          · have hne : k ≠ n := fun e => by
              subst e
              have := inj hj hn; omega
            rw [getD_set_ne false hne]
            exact hs3 i n (by omega) hn
        rw [e2]; exact h3
      · by_cases hij : i = j
        · subst hij
          rw [hj] at hn
          obtain rfl := Option.some.inj hn
          exact ⟨by simp [hkl], by omega⟩
        · exact ⟨getD_set_true (hD i n (by omega) hn).1, by have := (hD i n (by omega) hn).2; omega⟩
      · have h4 := (List.getElem?_eq_some_iff.1 hj)
        have h5 := (List.getElem?_eq_some_iff.1 hn)
        have := List.pairwise_iff_getElem.1 hnd j i h4.1 h5.1 (by omega)
        omega
    · rw [if_neg hj] at h1
      refine ⟨v, qAt_of_wp (hd o (by simp)) (fun D' w hun hr hc => ?_), walkQ_of_seq hch hnd hsz l (k + 1) j _ _ (fun i => by have := hl (i + 1); simpa [Nat.add_assoc, Nat.add_comm 1 i] using this) (fun o' ho d hd' => by rw [size_put]; exact hd o' (by simp [ho]) d hd') (by simp at hk ⊢; omega) (by simpa using hs) (fun i n hi hn => ⟨getD_set_true (hD i n hi hn).1, by have := (hD i n hi hn).2; omega⟩) (fun i n hi hn => ?_) h1.2⟩
      · obtain ⟨hltD, hf⟩ := getD_tf hun
        obtain ⟨s, hs1, hs2, hs3, hC⟩ := hc
        have hst : s ∈ stages ops ns k := by
          unfold stages
          rw [List.mem_filter, List.mem_range]
          refine ⟨by omega, ?_⟩
          unfold poss
          rw [Bool.and_eq_true, List.all_eq_true, List.all_eq_true]
          refine ⟨fun n hn => ?_, fun n hn => ?_⟩
          · obtain ⟨i, hi⟩ := List.mem_iff_getElem?.1 hn
            rw [List.getElem?_take] at hi
            split at hi
            · rename_i hlt'
              have h4 := (hs2 i n hlt' hi).2 k
              cases hdp : dep ops n k with
              | false => rfl
              | true => have := h4 hdp; rw [hf] at this; cases this
            · cases hi
          · obtain ⟨i, hi⟩ := List.mem_iff_getElem?.1 hn
            rw [List.getElem?_drop] at hi
            cases hdp : dep ops k n with
            | false => rfl
            | true =>
              have := rdy_dep ho hr hdp
              rw [hs3 (s + i) n (by omega) hi] at this; cases this
        have h3 := inAll_mem h1.1 s hst w hC
        have hkn : ∀ i n, ns[i]? = some n → s ≤ i → k ≠ n := fun i n hn hi e => by
          subst e
          rcases Nat.lt_trichotomy i j with h | h | h
          · have := (hD i k h hn).2; omega
          · subst h; exact hj hn
          · have h4 := hlt i k (by omega) hn
            rcases Nat.lt_or_ge j ns.length with h' | h'
            · have h5 := hlt j ns[j] (Nat.le_refl _) (List.getElem?_eq_getElem h')
              have h6 := (List.getElem?_eq_some_iff.1 hn)
              have := List.pairwise_iff_getElem.1 hnd j i h' h6.1 h
              omega
            · have h6 := (List.getElem?_eq_some_iff.1 hn).1; omega
        have e2 : CC ops ns Cs (D'.setIfInBounds k true) = Cs s := by
          refine CC_eq hs1 (fun i n hi hn => ?_) (fun i n hi hn => ?_)
          · have := hs2 i n hi hn
            exact ⟨getD_set_true this.1, fun m hm => getD_set_true (this.2 m hm)⟩
          · rw [getD_set_ne false (hkn i n hn hi)]
            exact hs3 i n hi hn
        rw [e2]; exact h3
      · have h5 := hlt i n hi hn
        have : n ≠ k := fun e => by
          subst e
          by_cases hij : i = j
          · subst hij; exact hj hn
          · have h6 := (List.getElem?_eq_some_iff.1 hn)
            have h8 := h6.1
            have h7 := hlt j (ns[j]'(by omega)) (Nat.le_refl _) (List.getElem?_eq_getElem (by omega))
            have := List.pairwise_iff_getElem.1 hnd j i (by omega) h6.1 (by omega)
            omega
        omega
theorem region_seq {w : World} (ns : List Nat) (Cs : Nat → World → Prop) {id : Nat} {Q : Exit → Act → World → Prop} {a : Act} {l : List Oper} (hC : Cs 0 w.drew) (hm : P.follows .mixedOrders = true) (hB : Region.lexB .any l.toArray = true) (hd : dstsIn l a.tmps.size = true)
    (hn : (chain l.toArray ns && decide (ns.Pairwise (· < ·)) && ns.all (· < l.length)) = true)
    (h : seqW P l.toArray Cs ns (fun a' => ∀ w', Cs ns.length w' → Q .normal a' w') l 0 0 a) : (Code.region id l.toArray true).wp P Q a w := by
  simp only [Region.lexB, Bool.and_eq_true] at hB
  simp only [Bool.and_eq_true, decide_eq_true_eq, List.all_eq_true] at hn
  obtain ⟨⟨hch, hnd⟩, hsz⟩ := hn
  have hf : ∀ n, (Array.replicate l.toArray.size false).getD n false = false := fun n => getD_replicate_f _ _
  have hall : ∀ {D : Array Bool} {w' : World}, (∀ n ∈ ns, D.getD n false = true) → CC l.toArray ns Cs D w' → Cs ns.length w' := fun {D w'} h1 ⟨s, k1, k2, k3, hC⟩ => by
    have : s = ns.length := by
      rcases Nat.lt_or_ge s ns.length with h | h
      · have h2 := k3 s ns[s] (Nat.le_refl _) (List.getElem?_eq_getElem h)
        rw [h1 _ (List.getElem_mem h)] at h2; cases h2
      · omega
    rw [← this]; exact hC
  refine wp_region_any hm (wpAny_of_anyQ (C := CC l.toArray ns Cs) (G := fun D a' => (∀ n ∈ ns, D.getD n false = true) ∧ ∀ w', Cs ns.length w' → Q .normal a' w') (fun D _ w' h hw => h.2 w' (hall h.1 hw)) _ _ _ _ ?_ ?_)
  · exact ⟨0, Nat.zero_le _, fun i n hi => by omega, fun i n _ _ => hf n, hC⟩
  · have := anyQ_lex (C := CC l.toArray ns Cs) (md := .any) hB.1 l 0 (Array.replicate l.toArray.size false) a (by simp) (by simpa using hB.2) (walkQ_of_seq hch hnd (by simpa using hsz) l 0 0 _ a (by simp) (dstsIn_spec hd) (by simp) (by simp) (fun i n hi => by omega) (fun i n _ _ => Nat.zero_le _) h)
    simpa using this
end
end Go.Proofs.YtkppoffljkpiaaaDoor.Sl
