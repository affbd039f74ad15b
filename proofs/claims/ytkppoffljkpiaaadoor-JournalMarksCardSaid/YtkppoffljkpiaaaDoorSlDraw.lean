/-
  A region that draws its order, for the small separation logic: if each operation yields one value, whichever of the others have come up, one walk in the order of the text serves every order.
  What holds of the world may turn with the operations that write: the class of worlds is indexed by what has come up.
-/
import Derived.Test.YtkppoffljkpiaaaDoorSl
import Derived.Still
namespace Go.Proofs.YtkppoffljkpiaaaDoor.Sl
open Go Go.RowKit

section
variable {P : Program} {ops : Array Oper} {md : Region.Mode} {C : Array Bool → World → Prop}

def qUpon (P : Program) (dst : Option Tmp) (C' : World → Prop) (v : Value) : Result Next → Prop
  | .ok (.value u) w' => (dst = none ∨ u = v) ∧ C' w'
  | .ok .skip w' => (dst = none ∨ undef = v) ∧ C' w'
  | .ok (.enter f args) w' => Calls P f args w' fun e w'' => ∃ u, e = .returned u ∧ (dst = none ∨ u = v) ∧ C' w''
  | .ok (.row r args) w' => Rows P r args w' fun u w'' => (dst = none ∨ u = v) ∧ C' w''
  | _ => False

/-- What an operation waits for has come up. -/
def rdy (o : Oper) (D : Array Bool) : Prop := ∀ e ∈ o.after, Region.binds .any e = true → D.getD e.on false = true
/-- Operation i, in state a, yields v, whatever has come up. -/
def qAt (P : Program) (ops : Array Oper) (C : Array Bool → World → Prop) (i : Nat) (o : Oper) (a : Act) (v : Value) : Prop :=
  (Region.wanted o (yielded ops a.tmps) = true ∧ ∀ (D : Array Bool) (w : World), D.getD i true = false → rdy o D → C D w → qUpon P o.dst (C (D.setIfInBounds i true)) v ((execOp a.eval o).run P w)) ∨
  (Region.wanted o (yielded ops a.tmps) = false ∧ ∀ (D : Array Bool) (w : World), D.getD i true = false → rdy o D → C D w → (o.dst = none ∨ undef = v) ∧ C (D.setIfInBounds i true) w)

theorem put_of_dst {a : Act} {dst : Option Tmp} {u v : Value} (h : dst = none ∨ u = v) : a.put dst u = a.put dst v := by
  rcases h with rfl | rfl <;> rfl

def qOp (P : Program) (ops : Array Oper) (C : Array Bool → World → Prop) (i : Nat) (L : Act → Prop) (a : Act) : Prop :=
  match ops[i]? with
  | none => False
  | some o => ∃ v, qAt P ops C i o a v ∧ L (a.put o.dst v)

theorem qOp_mono {i : Nat} {a : Act} {L L' : Act → Prop} (h : ∀ a, L a → L' a) (hh : qOp P ops C i L a) : qOp P ops C i L' a := by
  unfold qOp at *
  split
  · rename_i ho; simp [ho] at hh
  · rename_i o ho
    simp only [ho] at hh
    obtain ⟨v, h1, h2⟩ := hh
    exact ⟨v, h1, h _ h2⟩

def anyQ (P : Program) (md : Region.Mode) (ops : Array Oper) (C : Array Bool → World → Prop) (G : Array Bool → Act → Prop) : Nat → Array Bool → Act → Prop
  | 0, D, a => Region.ready md ops D = [] ∧ G D a
  | fuel + 1, D, a => (Region.ready md ops D = [] → G D a) ∧ ∀ i ∈ Region.ready md ops D, qOp P ops C i (anyQ P md ops C G fuel (D.setIfInBounds i true)) a

theorem wpAny_of_anyQ {Q : Exit → Act → World → Prop} {G : Array Bool → Act → Prop} (hG : ∀ D a w, G D a → C D w → Q .normal a w) : ∀ (fuel : Nat) (D : Array Bool) (a : Act) (w : World), C D w →
    anyQ P .any ops C G fuel D a → wpAny P .any ops Q fuel D a w
  | 0, _, _, _, hw, h => ⟨h.1, hG _ _ _ h.2 hw⟩
  | fuel + 1, D, a, w, hw, h => by
    refine ⟨fun h0 => hG _ _ _ (h.1 h0) hw, fun i hi => ?_⟩
    have h1 := h.2 i hi
    obtain ⟨hun, o, ho, hrdy⟩ := mem_ready.1 hi
    unfold qOp at h1
    simp only [ho] at h1
    obtain ⟨v, hv, hK⟩ := h1
    unfold wpOp
    simp only [ho]
    have go : ∀ w', C (D.setIfInBounds i true) w' → ∀ u, (o.dst = none ∨ u = v) → wpAny P .any ops Q fuel (D.setIfInBounds i true) (a.put o.dst u) w' := fun w' hw' u hu => by
      rw [put_of_dst hu]; exact wpAny_of_anyQ hG fuel _ _ w' hw' hK
    rcases hv with ⟨hwant, hq⟩ | ⟨hwant, hq⟩
    · simp only [hwant, if_true]
      left
      have h2 := hq D w hun hrdy hw
      unfold Oper.wp
      generalize (execOp a.eval o).run P w = r at h2
      cases r with
      | halt x w' => exact h2.elim
      | ok n w' =>
        cases n <;> simp only [qUpon] at h2 <;> simp only [Oper.upon]
        case value u => exact go _ h2.2 _ h2.1
        case skip => exact go _ h2.2 _ h2.1
        case enter f args => exact h2.mono fun e w'' ⟨u, he, hu, hc⟩ => by subst he; exact go _ hc _ hu
        case row r args => exact h2.mono fun u w'' ⟨hu, hc⟩ => go _ hc _ hu
    · simp only [hwant, Bool.false_eq_true, if_false]
      exact go _ (hq D w hun hrdy hw).2 _ (hq D w hun hrdy hw).1

theorem qAt.of_same {i : Nat} {o : Oper} {v : Value} {a a' : Act} (hy : qAt P ops C i o a v) (he : execOp a'.eval o = execOp a.eval o)
    (hw : Region.wanted o (yielded ops a'.tmps) = Region.wanted o (yielded ops a.tmps)) : qAt P ops C i o a' v := by
  unfold qAt at *
  rw [he, hw]
  exact hy

theorem qOp_put {i j : Nat} {oi oj : Oper} {v : Value} (hj : ops[j]? = some oj) (hap : oi.apart ops oj = true)
    (hsi : ∀ cs b, oi.op ≠ .select cs b) (hsj : ∀ cs b, oj.op ≠ .select cs b) {L : Act → Prop} {a : Act}
    (hy : qAt P ops C i oi a v) (h : qOp P ops C j L (a.put oi.dst v)) :
    qOp P ops C j (fun a' => qAt P ops C i oi a' v ∧ L (a'.put oi.dst v)) a := by
  obtain ⟨h1, h2, h3⟩ := Oper.apart_spec hap
  unfold qOp at *
  simp only [hj] at *
  obtain ⟨u, hu, hL⟩ := h
  refine ⟨u, hu.of_same (execOp_put oj hsj a oi.dst v h1).symm (wanted_put oj a oi.dst v h1).symm, hy.of_same (execOp_put oi hsi a oj.dst u h3) (wanted_put oi a oj.dst u h3), ?_⟩
  rw [← Act.put_comm a v u h2]
  exact hL

theorem anyQ_first {G : Array Bool → Act → Prop} {i : Nat} {oi : Oper} {v : Value} (hi : ops[i]? = some oi) (hsel : ∀ (j : Nat) (o : Oper) cs b, ops[j]? = some o → o.op ≠ .select cs b) :
    ∀ (fuel : Nat) (D : Array Bool) (a : Act),
      (∀ j oj, ops[j]? = some oj → j ≠ i → D.getD j true = false → (∀ e ∈ oj.after, Region.binds md e = true → e.on ≠ i) → oi.apart ops oj = true) →
      i ∈ Region.ready md ops D → qAt P ops C i oi a v →
      anyQ P md ops C G fuel (D.setIfInBounds i true) (a.put oi.dst v) → anyQ P md ops C G (fuel + 1) D a := by
  intro fuel
  induction fuel with
  | zero =>
    intro D a _ hr hy H
    refine ⟨fun h => (by rw [h] at hr; cases hr), fun j hj => ?_⟩
    by_cases hji : j = i
    · subst hji; unfold qOp; simp only [hi]; exact ⟨v, hy, H⟩
    · have := ready_mono hj hji
      rw [H.1] at this
      cases this
  | succ fuel ih =>
    intro D a hfree hr hy H
    refine ⟨fun h => (by rw [h] at hr; cases hr), fun j hj => ?_⟩
    by_cases hji : j = i
    · subst hji; unfold qOp; simp only [hi]; exact ⟨v, hy, H⟩
    · have h1 := H.2 j (ready_mono hj hji)
      obtain ⟨hjun, oj, hoj, hall⟩ := mem_ready.1 hj
      have hnot : ∀ e ∈ oj.after, Region.binds md e = true → e.on ≠ i := fun e he hb heq => by
        have h1 := hall e he hb
        have h0 := (mem_ready.1 hr).1
        rw [heq] at h1
        rcases Nat.lt_or_ge i D.size with h' | h'
        · simp [h'] at h0 h1; rw [h0] at h1; cases h1
        · simp [Array.getElem?_eq_none h'] at h1
      have h2 := qOp_put hoj (hfree j oj hoj hji hjun hnot) (fun cs b => hsel i oi cs b hi) (fun cs b => hsel j oj cs b hoj) hy h1
      have hfree' : ∀ k ok, ops[k]? = some ok → k ≠ i → (D.setIfInBounds j true).getD k true = false →
          (∀ e ∈ ok.after, Region.binds md e = true → e.on ≠ i) → oi.apart ops ok = true := fun k ok hk hki hun hno => by
        refine hfree k ok hk hki ?_ hno
        by_cases hjk : j = k
        · subst hjk; exact hjun
        · rw [getD_set_ne true hjk] at hun; exact hun
      refine qOp_mono (fun a' h3 => ih (D.setIfInBounds j true) a' hfree' (ready_mono hr (Ne.symm hji)) h3.1 ?_) h2
      rw [Array.setIfInBounds_comm _ _ hji]
      exact h3.2

/-- The walk in the order of the text: operation k next. -/
def walkQ (P : Program) (ops : Array Oper) (C : Array Bool → World → Prop) (G : Array Bool → Act → Prop) : List Oper → Nat → Array Bool → Act → Prop
  | [], _, D, a => G D a
  | o :: rest, k, D, a => ∃ v, qAt P ops C k o a v ∧ walkQ P ops C G rest (k + 1) (D.setIfInBounds k true) (a.put o.dst v)

theorem anyQ_lex {G : Array Bool → Act → Prop} (hs : Region.noSelect ops = true) : ∀ (l : List Oper) (k : Nat) (D : Array Bool) (a : Act), (∀ j, l[j]? = ops[k + j]?) →
    Region.lexFrom md ops l.length k D = true → walkQ P ops C G l k D a → anyQ P md ops C G l.length D a
  | [], _, _, _, _, hB, h => ⟨by simpa [Region.lexFrom] using hB, h⟩
  | o :: l, k, D, a, hl, hB, h => by
    have h0 : ops[k]? = some o := by simpa using (hl 0).symm
    simp only [List.length_cons, Region.lexFrom, Bool.and_eq_true] at hB
    obtain ⟨⟨hr, hf⟩, hB'⟩ := hB
    obtain ⟨v, hy, hK⟩ := h
    exact anyQ_first h0 (Region.noSelect_spec hs) l.length D a (Region.free_spec h0 hf) (by simpa using hr) hy
      (anyQ_lex hs l (k + 1) _ _ (fun j => by have := hl (j + 1); simpa [Nat.add_assoc, Nat.add_comm 1 j] using this) hB' hK)

/-- An operation's own walk, at a list of that operation alone. -/
theorem qAt_of_wp {i : Nat} {o : Oper} {a : Act} {v : Value} (hd : ∀ d, o.dst = some d → d < a.tmps.size)
    (h : ∀ (D : Array Bool) (w : World), D.getD i true = false → rdy o D → C D w → wpList P ops (fun e a2 w2 => e = .normal ∧ a2 = a.put o.dst v ∧ C (D.setIfInBounds i true) w2) [o] a w) : qAt P ops C i o a v := by
  have hput : ∀ u, a.put o.dst u = a.put o.dst v → (o.dst = none ∨ u = v) := fun u hu => by
    cases hdst : o.dst with
    | none => exact .inl rfl
    | some d =>
      right
      have hlt := hd d hdst
      rw [hdst] at hu
      simp only [Act.put, Act.mk.injEq] at hu
      have := congrArg (fun t => t[d]?) hu.1
      simpa [hlt] using this
  by_cases hw : Region.wanted o (yielded ops a.tmps) = true
  · refine .inl ⟨hw, fun D w hun hr hc => ?_⟩
    have h1 := h D w hun hr hc
    unfold wpList at h1
    rw [if_pos hw] at h1
    rcases h1 with h1 | ⟨_, a', w', h1, _⟩
    · unfold Oper.wp at h1
      generalize (execOp a.eval o).run P w = r at h1
      cases r with
      | halt x w' => cases x <;> simp only [Oper.upon] at h1 <;> first | exact h1.elim | (obtain ⟨h2, _⟩ := h1; cases h2)
      | ok n w' =>
        cases n <;> simp only [Oper.upon] at h1 <;> simp only [qUpon]
        case value u => obtain ⟨_, h2, h3⟩ := h1; exact ⟨hput u h2, h3⟩
        case skip => obtain ⟨_, h2, h3⟩ := h1; exact ⟨hput undef h2, h3⟩
        case enter f args =>
          refine h1.mono fun e w'' h2 => ?_
          cases e with
          | returned u => obtain ⟨_, h3, h4⟩ := h2; exact ⟨u, rfl, hput u h3, h4⟩
          | panicked ch => obtain ⟨h3, _⟩ := h2; cases h3
          | outgrown => obtain ⟨_, _, h3, _⟩ := h2; cases h3
        case row r args => exact h1.mono fun u w'' ⟨_, h3, h4⟩ => ⟨hput u h3, h4⟩
        case defer d =>
          obtain ⟨_, h2, _⟩ := h1
          cases hdst : o.dst with
          | none =>
            rw [hdst] at h2
            have := congrArg (fun x => x.defers.length) h2
            simp [Act.put] at this
          | some dd =>
            rw [hdst] at h2
            have := congrArg (fun x => x.defers.length) h2
            simp [Act.put] at this
        all_goals exact h1.elim
    · cases h1
  · have hw' : Region.wanted o (yielded ops a.tmps) = false := by simpa using hw
    have hdef : ∀ (D : Array Bool) (w : World), D.getD i true = false → rdy o D → C D w → a.put o.dst undef = a.put o.dst v ∧ C (D.setIfInBounds i true) w := fun D w hun hr hc => by
      have h1 := h D w hun hr hc
      unfold wpList at h1
      rw [if_neg hw] at h1
      exact ⟨h1.2.1, h1.2.2⟩
    exact .inr ⟨hw', fun D w h1 hr h2 => ⟨hput undef (hdef D w h1 hr h2).1, (hdef D w h1 hr h2).2⟩⟩

theorem size_put (a : Act) (dst : Option Tmp) (v : Value) : (a.put dst v).tmps.size = a.tmps.size := by cases dst <;> simp [Act.put]

/-- What is asked at the end of one operation's own walk. (A plain definition: the walk's simp does not open it.) -/
def Qd (a : Act) (dst : Option Tmp) (v : Value) (C : World → Prop) : Exit → Act → World → Prop := fun e a2 w2 => e = .normal ∧ a2 = a.put dst v ∧ C w2

/-- No operation writes. -/
def quietW (P : Program) (ops : Array Oper) (C : World → Prop) (G : Act → Prop) : List Oper → Act → Prop
  | [], a => G a
  | o :: rest, a => ∃ v, (∀ w, C w → wpList P ops (Qd a o.dst v C) [o] a w) ∧ quietW P ops C G rest (a.put o.dst v)
theorem quiet_step {C : World → Prop} {G : Act → Prop} {o : Oper} {rest : List Oper} {a : Act} {v : Value}
    (h1 : ∀ w, C w → wpList P ops (Qd a o.dst v C) [o] a w) (h2 : quietW P ops C G rest (a.put o.dst v)) : quietW P ops C G (o :: rest) a := ⟨v, h1, h2⟩
theorem quiet_nil {C : World → Prop} {G : Act → Prop} {a : Act} (h : G a) : quietW P ops C G [] a := h

theorem walkQ_of_quiet {C : World → Prop} {G : Act → Prop} : ∀ (l : List Oper) (k : Nat) (D : Array Bool) (a : Act), (∀ o ∈ l, ∀ d, o.dst = some d → d < a.tmps.size) →
    quietW P ops C G l a → walkQ P ops (fun _ w => C w) (fun _ a => G a) l k D a
  | [], _, _, _, _, h => h
  | o :: l, k, D, a, hd, ⟨v, h1, h2⟩ =>
    ⟨v, qAt_of_wp (hd o (by simp)) (fun _ w _ _ hc => h1 w hc), walkQ_of_quiet l (k + 1) _ _ (fun o' ho d hd' => by rw [size_put]; exact hd o' (by simp [ho]) d hd') h2⟩
def dstsIn (l : List Oper) (n : Nat) : Bool := l.all fun o => match o.dst with | some d => decide (d < n) | none => true
theorem dstsIn_spec {l : List Oper} {n : Nat} (h : dstsIn l n = true) : ∀ o ∈ l, ∀ d, o.dst = some d → d < n := by
  intro o ho d hd
  have := List.all_eq_true.1 h o ho
  simpa [hd] using this
theorem region_quiet {w0 w : World} {S : List Chunk} {id : Nat} {Q : Exit → Act → World → Prop} {a : Act} {l : List Oper} (hS : Sat w0 S w) (hm : P.follows .mixedOrders = true) (hB : Region.lexB .any l.toArray = true) (hd : dstsIn l a.tmps.size = true)
    (h : quietW P l.toArray (Sat w0 S) (fun a' => ∀ w', Sat w0 S w' → Q .normal a' w') l a) : (Code.region id l.toArray true).wp P Q a w := by
  simp only [Region.lexB, Bool.and_eq_true] at hB
  refine wp_region_any hm (wpAny_of_anyQ (C := fun _ w => Sat w0 S w) (G := fun _ a' => ∀ w', Sat w0 S w' → Q .normal a' w') (fun _ _ w' h hw => h w' hw) _ _ _ _ hS.drew ?_)
  have := anyQ_lex (C := fun _ w => Sat w0 S w) (md := .any) hB.1 l 0 (Array.replicate l.toArray.size false) a (by simp) (by simpa using hB.2) (walkQ_of_quiet l 0 _ a (dstsIn_spec hd) h)
  simpa using this

/-- Operation n waits for operation k. -/
def dep (ops : Array Oper) (n k : Nat) : Bool := match ops[n]? with
  | some o => o.after.toList.any fun e => e.on == k && Region.binds .any e
  | none => false
/-- One operation, number n, writes. What it waits for runs ahead of it. -/
def oneW (P : Program) (ops : Array Oper) (C0 C1 : World → Prop) (n : Nat) (G : Act → Prop) : List Oper → Nat → Act → Prop
  | [], _, a => G a
  | o :: rest, k, a => ∃ v, (if k = n then ∀ w, C0 w → wpList P ops (Qd a o.dst v C1) [o] a w else
      (∀ w, C0 w → wpList P ops (Qd a o.dst v C0) [o] a w) ∧ (dep ops n k = true ∨ ∀ w, C1 w → wpList P ops (Qd a o.dst v C1) [o] a w)) ∧ oneW P ops C0 C1 n G rest (k + 1) (a.put o.dst v)
theorem one_step {C0 C1 : World → Prop} {n k : Nat} {G : Act → Prop} {o : Oper} {rest : List Oper} {a : Act} {v : Value} (hk : (k == n) = false)
    (h0 : ∀ w, C0 w → wpList P ops (Qd a o.dst v C0) [o] a w) (h1 : ∀ w, C1 w → wpList P ops (Qd a o.dst v C1) [o] a w) (h2 : oneW P ops C0 C1 n G rest (k + 1) (a.put o.dst v)) : oneW P ops C0 C1 n G (o :: rest) k a :=
  ⟨v, by rw [if_neg (by simpa using hk)]; exact ⟨h0, .inr h1⟩, h2⟩
theorem one_dep {C0 C1 : World → Prop} {n k : Nat} {G : Act → Prop} {o : Oper} {rest : List Oper} {a : Act} {v : Value} (hk : (dep ops n k && !(k == n)) = true)
    (h0 : ∀ w, C0 w → wpList P ops (Qd a o.dst v C0) [o] a w) (h2 : oneW P ops C0 C1 n G rest (k + 1) (a.put o.dst v)) : oneW P ops C0 C1 n G (o :: rest) k a := by
  simp only [Bool.and_eq_true, Bool.not_eq_true', beq_eq_false_iff_ne, ne_eq] at hk
  exact ⟨v, by rw [if_neg hk.2]; exact ⟨h0, .inl hk.1⟩, h2⟩
theorem one_here {C0 C1 : World → Prop} {n k : Nat} {G : Act → Prop} {o : Oper} {rest : List Oper} {a : Act} {v : Value} (hk : (k == n) = true)
    (h0 : ∀ w, C0 w → wpList P ops (Qd a o.dst v C1) [o] a w) (h2 : oneW P ops C0 C1 n G rest (k + 1) (a.put o.dst v)) : oneW P ops C0 C1 n G (o :: rest) k a :=
  ⟨v, by rw [if_pos (by simpa using hk)]; exact h0, h2⟩
theorem one_nil {C0 C1 : World → Prop} {n k : Nat} {G : Act → Prop} {a : Act} (h : G a) : oneW P ops C0 C1 n G [] k a := h
def cls (ops : Array Oper) (C0 C1 : World → Prop) (n : Nat) (D : Array Bool) (w : World) : Prop :=
  if D.getD n false = true then C1 w ∧ ∀ k, dep ops n k = true → D.getD k false = true else C0 w
theorem getD_tf {D : Array Bool} {k : Nat} (h : D.getD k true = false) : k < D.size ∧ D.getD k false = false := by
  rcases Nat.lt_or_ge k D.size with h' | h'
  · simp [h'] at h ⊢; exact h
  · simp [Array.getElem?_eq_none h'] at h
theorem getD_set_true {D : Array Bool} {k j : Nat} (h : D.getD j false = true) : (D.setIfInBounds k true).getD j false = true := by
  by_cases e : k = j
  · subst e
    rcases Nat.lt_or_ge k D.size with h' | h'
    · simp [h']
    · simp [Array.getElem?_eq_none h'] at h
  · rw [getD_set_ne false e]; exact h
theorem walkQ_of_one {C0 C1 : World → Prop} {n : Nat} {G : Act → Prop} : ∀ (l : List Oper) (k : Nat) (D : Array Bool) (a : Act), (∀ j, l[j]? = ops[k + j]?) → (∀ o ∈ l, ∀ d, o.dst = some d → d < a.tmps.size) → k + l.length = D.size → (n < k → D.getD n false = true) → n < D.size →
    oneW P ops C0 C1 n G l k a → walkQ P ops (cls ops C0 C1 n) (fun D a => D.getD n false = true ∧ G a) l k D a
  | [], k, D, _, _, _, hk, hD, hn, h => ⟨hD (by simp at hk; omega), h⟩
  | o :: l, k, D, a, hl, hd, hk, hD, hn, ⟨v, h1, h2⟩ => by
    refine ⟨v, qAt_of_wp (hd o (by simp)) (fun D' w hun hr hc => ?_), walkQ_of_one l (k + 1) _ _ (fun j => by have := hl (j + 1); simpa [Nat.add_assoc, Nat.add_comm 1 j] using this) (fun o' ho d hd' => by rw [size_put]; exact hd o' (by simp [ho]) d hd') (by simp at hk ⊢; omega) (fun hlt => ?_) (by simpa using hn) h2⟩
    · obtain ⟨hlt, hf⟩ := getD_tf hun
      have ho : ops[k]? = some o := by simpa using (hl 0).symm
      by_cases hkn : k = n
      · subst hkn
        rw [if_pos rfl] at h1
        unfold cls at hc
        rw [hf] at hc
        have h3 := h1 w (by simpa using hc)
        have e1 : (D'.setIfInBounds k true).getD k false = true := by simp [hlt]
        have hdeps : ∀ j, dep ops k j = true → (D'.setIfInBounds k true).getD j false = true := fun j hj => by
          unfold dep at hj
          rw [ho] at hj
          simp only [List.any_eq_true, Bool.and_eq_true, beq_iff_eq] at hj
          obtain ⟨e, he, h4, h5⟩ := hj
          subst h4
          exact getD_set_true (hr e (by simpa using he) h5)
        have e2 : cls ops C0 C1 k (D'.setIfInBounds k true) = C1 := by
          funext w
          unfold cls
          rw [if_pos e1]
          exact propext ⟨fun h => h.1, fun h => ⟨h, hdeps⟩⟩
        rw [e2]; exact h3
      · rw [if_neg hkn] at h1
        have e1 : (D'.setIfInBounds k true).getD n false = D'.getD n false := getD_set_ne false hkn
        unfold cls at hc
        by_cases hb : D'.getD n false = true
        · rw [if_pos hb] at hc
          have h3 : ∀ w, C1 w → wpList P ops (Qd a o.dst v C1) [o] a w := by
            rcases h1.2 with h4 | h4
            · have := hc.2 k h4
              rw [hf] at this; cases this
            · exact h4
          have e2 : cls ops C0 C1 n (D'.setIfInBounds k true) = C1 := by
            funext w
            unfold cls
            rw [if_pos (e1.trans hb)]
            exact propext ⟨fun h => h.1, fun h => ⟨h, fun j hj => getD_set_true (hc.2 j hj)⟩⟩
          rw [e2]; exact h3 w hc.1
        · rw [if_neg hb] at hc
          have := h1.1 w hc
          have e2 : cls ops C0 C1 n (D'.setIfInBounds k true) = C0 := by funext w; unfold cls; rw [if_neg (by rw [e1]; exact hb)]
          rw [e2]; exact this
    · by_cases hkn : k = n
      · subst hkn; simp [hn]
      · rw [getD_set_ne false hkn]; exact hD (by omega)
theorem getD_replicate_f (m j : Nat) : (Array.replicate m false).getD j false = false := by
  rcases Nat.lt_or_ge j m with h | h
  · simp [h]
  · simp [h]
theorem region_one {w : World} {C0 C1 : World → Prop} (n : Nat) {id : Nat} {Q : Exit → Act → World → Prop} {a : Act} {l : List Oper} (hC : C0 w.drew) (hm : P.follows .mixedOrders = true) (hB : Region.lexB .any l.toArray = true) (hd : dstsIn l a.tmps.size = true) (hn : decide (n < l.length) = true)
    (h : oneW P l.toArray C0 C1 n (fun a' => ∀ w', C1 w' → Q .normal a' w') l 0 a) : (Code.region id l.toArray true).wp P Q a w := by
  simp only [Region.lexB, Bool.and_eq_true] at hB
  have hn' : n < l.length := of_decide_eq_true hn
  refine wp_region_any hm (wpAny_of_anyQ (C := cls l.toArray C0 C1 n) (G := fun D a' => D.getD n false = true ∧ ∀ w', C1 w' → Q .normal a' w') (fun D _ w' h hw => h.2 w' (by unfold cls at hw; rw [if_pos h.1] at hw; exact hw.1)) _ _ _ _ ?_ ?_)
  · unfold cls
    rw [if_neg (by rw [getD_replicate_f]; simp)]
    exact hC
  · have := anyQ_lex (C := cls l.toArray C0 C1 n) (md := .any) hB.1 l 0 (Array.replicate l.toArray.size false) a (by simp) (by simpa using hB.2) (walkQ_of_one l 0 _ a (by simp) (dstsIn_spec hd) (by simp) (by simp) (by simpa using hn') h)
    simpa using this
theorem region_upd {w0 w : World} {S F : List Chunk} (b : Nat) {X : K} [Pull S b X F] (Y : K) (n : Nat) {id : Nat} {Q : Exit → Act → World → Prop} {a : Act} {l : List Oper} (hS : Sat w0 S w) (hm : P.follows .mixedOrders = true) (hB : Region.lexB .any l.toArray = true) (hd : dstsIn l a.tmps.size = true) (hn : decide (n < l.length) = true)
    (h : oneW P l.toArray (Sat w0 S) (Sat w0 ((b, Y) :: F)) n (fun a' => ∀ w', Sat w0 ((b, Y) :: F) w' → Q .normal a' w') l 0 a) : (Code.region id l.toArray true).wp P Q a w :=
  region_one n hS.drew hm hB hd hn h
end
end Go.Proofs.YtkppoffljkpiaaaDoor.Sl
