/-
  A map from names to rows of tuples: where the rows lie.
-/
import Derived.Test.YteoidocicjlglaaDoorGhSame
import Derived.Test.YteoidocicjlglaaDoorSlEnt
set_option linter.unusedSimpArgs false
set_option linter.unusedVariables false
namespace Go.Proofs.YteoidocicjlglaaDoor
open Go.RowKit Go.Proofs.YteoidocicjlglaaDoor.Sl Go.Proofs.YteoidocicjlglaaDoor.Sha Go.Proofs.YteoidocicjlglaaDoor.Jp

/-- A row of tuples: its slice, and what is in it. -/
abbrev BagV := Value × List TupV
abbrev bagE (x : BagV) : Value := x.1
abbrev bag0 : BagV := (.slice none 0 0, [])
def bagL (m : List (Nm × BagV)) : List Chunk := m.map fun p => (blk p.2.1, sl 15 tupF p.2.2 46 p.2.1)
def bagC (m : List (Nm × BagV)) : K := fun _ h => holds (bagL m) h
section
variable {w0 w : World} {K F S : List Chunk} {j : Nat} {m m1 m2 : List (Nm × BagV)} {v : Value} {L : List TupV} {key : Nm}
theorem bagNil (j : Nat) (h : Sat w0 F w) : Sat w0 ((j, bagC []) :: F) w := h.nilChunk j trivial
theorem bagOpen (h : Sat w0 ((j, bagC m) :: F) w) : Sat w0 (bagL m ++ F) w := h.open fun _ h => h
theorem bagShut (j : Nat) (h : Sat w0 (bagL m ++ F) w) : Sat w0 ((j, bagC m) :: F) w := h.close fun _ h => h
theorem bagPull (h : Sat w0 ((j, bagC (m1 ++ (key, v, L) :: m2)) :: F) w) : Sat w0 ((blk v, sl 15 tupF L 46 v) :: (j, bagC (m1 ++ m2)) :: F) w := by
  have h1 := bagOpen h
  have h2 : Sat w0 ((blk v, sl 15 tupF L 46 v) :: (bagL (m1 ++ m2) ++ F)) w := h1.perm (by
    unfold bagL
    simp only [List.map_append, List.map_cons, List.append_assoc, List.cons_append]
    exact List.perm_middle)
  have h3 : Sat w0 (bagL (m1 ++ m2) ++ ((blk v, sl 15 tupF L 46 v) :: F)) w := h2.perm List.perm_middle.symm
  exact (bagShut j h3).perm (List.Perm.swap _ _ _)
theorem bagBack (key : Nm) (h : Sat w0 ((blk v, sl 15 tupF L 46 v) :: (j, bagC (m1 ++ m2)) :: F) w) : Sat w0 ((j, bagC (m1 ++ (key, v, L) :: m2)) :: F) w := by
  have h1 : Sat w0 ((j, bagC (m1 ++ m2)) :: (blk v, sl 15 tupF L 46 v) :: F) w := h.perm (List.Perm.swap _ _ _)
  refine bagShut j ((bagOpen h1).perm ?_)
  unfold bagL
  simp only [List.map_append, List.map_cons, List.append_assoc, List.cons_append]
  exact List.Perm.append_left _ List.perm_middle
/-- A key's row is taken out of the map; it can be put back, or put anew. -/
theorem bagGet (h : Sat w0 ((j, bagC m) :: F) w) (key : Nm) : ∃ v0 L0 rest, (mget m key).getD bag0 = (v0, L0) ∧ (∀ {F' : List Chunk} {w' : World} (v' : Value) (L' : List TupV), Sat w0 ((blk v', sl 15 tupF L' 46 v') :: (j, bagC rest) :: F') w' → Sat w0 ((j, bagC (mput m key (v', L'))) :: F') w') ∧
    (∀ {F' : List Chunk} {w' : World}, Sat w0 ((blk v0, sl 15 tupF L0 46 v0) :: (j, bagC rest) :: F') w' → Sat w0 ((j, bagC m) :: F') w') ∧ Sat w0 ((blk v0, sl 15 tupF L0 46 v0) :: (j, bagC rest) :: F) w := by
  cases hf : findL m key 0 with
  | none =>
    refine ⟨.slice none 0 0, [], m, by simp [mget, hf], fun v' L' h' => ?_, fun h' => h'.tail, h.slNil 15 tupF 46⟩
    have e : mput m key (v', L') = m ++ (key, v', L') :: [] := by simp [mput, hf]
    rw [e]
    refine bagBack key ?_
    rw [List.append_nil]
    exact h'
  | some p =>
    obtain ⟨i, v0, L0⟩ := p
    have hi := findL_some hf
    have hlt := (List.getElem?_eq_some_iff.1 hi).1
    have hsp : m = m.take i ++ (key, v0, L0) :: m.drop (i + 1) := by
      have h5 : m.drop i = (key, v0, L0) :: m.drop (i + 1) := by rw [List.drop_eq_getElem_cons hlt]; congr 1; exact (List.getElem?_eq_some_iff.1 hi).2
      rw [← h5, List.take_append_drop]
    refine ⟨v0, L0, m.take i ++ m.drop (i + 1), by simp [mget, hf], fun v' L' h' => ?_, fun h' => ?_, ?_⟩
    · have e : mput m key (v', L') = m.take i ++ (key, v', L') :: m.drop (i + 1) := by
        simp only [mput, hf]
        rw [List.set_eq_take_append_cons_drop, if_pos hlt]
      rw [e]
      exact bagBack key h'
    · rw [hsp]
      have e1 : (m.take i ++ (key, v0, L0) :: m.drop (i + 1)).take i = m.take i := by rw [← hsp]
      have e2 : (m.take i ++ (key, v0, L0) :: m.drop (i + 1)).drop (i + 1) = m.drop (i + 1) := by rw [← hsp]
      exact bagBack key h'
    · refine bagPull (key := key) ?_
      rw [← hsp]
      exact h
end
/-- Each name has the tuples that bear it, of the first k. -/
def BagIs (Y : List TupV) (k : Nat) (m : List (Nm × BagV)) : Prop := ∀ n : Nm, ((mget m n).getD bag0).2 = (Y.take k).filter fun x => decide (nameOf x.2.2 = n.1)
theorem bagIs_zero (Y : List TupV) : BagIs Y 0 [] := fun n => by simp [mget, findL]
theorem bagIs_next {Y : List TupV} {k : Nat} {m : List (Nm × BagV)} {y : TupV} {key : Nm} {v0 v' : Value} {L0 : List TupV} (h : BagIs Y k m) (hy : Y[k]? = some y) (hn : nameOf y.2.2 = key.1) (hg : (mget m key).getD bag0 = (v0, L0)) : BagIs Y (k + 1) (mput m key (v', L0 ++ [y])) := fun n => by
  have h1 := h n
  rw [mget_mput, List.take_add_one, hy, List.filter_append, ← h1]
  by_cases e : n = key
  · subst e
    rw [if_pos rfl, hg]
    simp [hn]
  · rw [if_neg e]
    have e2 : ¬ nameOf y.2.2 = n.1 := fun e2 => e (Subtype.ext (e2.symm.trans hn))
    simp [e2]
theorem bagIs_mem {Y : List TupV} {m : List (Nm × BagV)} {key : Nm} {v0 : Value} {L0 : List TupV} (h : BagIs Y Y.length m) (hg : (mget m key).getD bag0 = (v0, L0)) (x : TupV) : x ∈ L0 ↔ x ∈ Y ∧ nameOf x.2.2 = key.1 := by
  have h1 := h key
  rw [hg, List.take_length] at h1
  have h2 : L0 = _ := h1
  rw [h2, List.mem_filter]
  simp
/-- The name of a tuple. -/
def nmOf (t : Tup) (h : TupOk t) : Nm := ⟨nameOf t, h.1, h.2.1⟩
section
variable {P : Program} {ops : Array Oper} {rest : List Oper} {o : Oper} {a : Act} {Q : Exit → Act → World → Prop} {w : World} {x y : Operand}
theorem runBuildNm (e : Int) (n : List Int) (hn : n.length = 12) (w : World) : (Instr.build 76 #[(0, .int .u32 e), (1, .agg (n.map u8v).toArray)]).run Tryd.prog w = .ok (.agg (Value.int .u32 e :: n.map u8v).toArray) w := by
  match n, hn with
  | [n0, n1, n2, n3, n4, n5, n6, n7, n8, n9, n10, n11], _ =>
    go_simp
theorem buildNm {e : Int} {n : List Int} (hn : n.length = 12) (hw : Region.wanted o (yielded ops a.tmps) = true) (ho : o.op = .build 76 #[(0, x), (1, y)]) (hx : a.eval x = .int .u32 e) (hy : a.eval y = .agg (n.map u8v).toArray)
    (k : wpList Tryd.prog ops Q rest (a.put o.dst (.agg (Value.int .u32 e :: n.map u8v).toArray)) w) : wpList Tryd.prog ops Q (o :: rest) a w := by
  refine wp_value hw ?_ k
  simp [execOp, ho, hx, hy, runBuildNm e n hn]
end
end Go.Proofs.YteoidocicjlglaaDoor
