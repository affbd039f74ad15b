/-
  'delete(m, k)' of the entry that has just come out of 'for k := range m'. It names no program.
-/
import Derived.Test.YtlkoclalcfeniaaSlRange
set_option linter.unusedSimpArgs false
set_option linter.unusedVariables false
namespace Go.Proofs.Ytlkoclalcfeniaa.Sl
open Go Go.RowKit

theorem filter_erase {α : Type} {p : α → Bool} : ∀ {L : List α} {i : Nat} {x : α}, L[i]? = some x → p x = false → (L.eraseIdx i).filter p = L.filter p
  | [], _, _, h, _ => by simp at h
  | y :: L, 0, x, h, hp => by
    simp at h
    subst h
    rw [List.eraseIdx_cons_zero, List.filter_cons, if_neg (by simp [hp])]
  | y :: L, i + 1, x, h, hp => by
    rw [List.eraseIdx_cons_succ, List.filter_cons, List.filter_cons, filter_erase (by simpa using h) hp]
section
variable {κ β : Type} [DecidableEq κ]
theorem mdel_erase : ∀ {l : List (κ × β)} {i : Nat} {key : κ} {u : β}, (mkeys l).Nodup → l[i]? = some (key, u) → mdel l key = l.eraseIdx i
  | [], _, _, _, _, h => by simp at h
  | p :: r, 0, key, u, hn, hi => by
    simp only [mkeys, List.map_cons, List.nodup_cons] at hn
    simp at hi
    subst hi
    unfold mdel
    rw [List.eraseIdx_cons_zero, List.filter_cons, if_neg (by simp), List.filter_eq_self]
    intro q hq
    have : q.1 ≠ key := fun e => hn.1 (List.mem_map.2 ⟨q, hq, e⟩)
    simpa using this
  | p :: r, j + 1, key, u, hn, hi => by
    simp only [mkeys, List.map_cons, List.nodup_cons] at hn
    simp at hi
    have hne : p.1 ≠ key := fun e => hn.1 (List.mem_map.2 ⟨(key, u), List.mem_of_getElem? hi, e.symm⟩)
    have ih := mdel_erase hn.2 hi
    unfold mdel at ih ⊢
    rw [List.eraseIdx_cons_succ, List.filter_cons, if_pos (by simpa using hne), ih]
end
section
variable {κ β : Type} [DecidableEq κ] {enc : κ → Value} {ve : β → Value}
variable {P : Program} {ops : Array Oper} {rest : List Oper} {o : Oper} {a : Act} {Q : Exit → Act → World → Prop} {w0 w : World} {S F : List Chunk}
variable {b r : Nat} {t k e : TypeId} {x m : Operand} {l left : List (κ × β)} {key : κ} {v : β}
theorem run_deleteIt (inj : ∀ x y, enc x = enc y → x = y) (hk : key ∉ mkeys left) (hS : Sat w0 S w) [mt : MapTy P t k e] [ke : KeyEncW P k enc] [p : Pull S r (itC enc ve b l left (some (key, v))) F] (t2 ty : TypeId) :
    ∃ w', (Builtin.delete_ #[t, t2] ty #[.map (some b), enc key]).run P w = .ok (.tuple #[]) w' ∧ Sat w0 ((r, itC enc ve b (mdel l key) left none) :: F) w' := by
  obtain ⟨es, clk, since, seen, c0, hI, hS2⟩ := itOpen (hS.perm p.perm)
  have hb := hS2.objAt (b := b) (o := .map es clk)
  have hget : (getObj b).run P w = .ok (.map es clk) w := by simp [getObj, Sem.run, hb.2]
  have hfind := ke.findT ve w key l es.toList hI.nd hI.eq
  have hset : ∀ o' : Obj, (setObj b o').run P w = .ok () (Go.ChangeMaps.setBlock w b o') := fun o' => by simp [setObj, Sem.run, hb.2, Go.ChangeMaps.setBlock]
  obtain ⟨-, s, en, hseen, hen, henk, -⟩ := hI.cu _ rfl
  obtain ⟨i, hi⟩ := List.mem_iff_getElem?.1 hen
  have h3 := congrArg (fun L => L[i]?) hI.eq
  simp only [List.getElem?_map, hi, Option.map_some] at h3
  obtain ⟨⟨key', u⟩, hli, h4⟩ : ∃ q, l[i]? = some q ∧ (en.key, en.val) = (enc q.1, ve q.2) := by
    cases h5 : l[i]? with
    | none => rw [h5] at h3; cases h3
    | some q => rw [h5] at h3; exact ⟨q, rfl, Option.some.inj h3⟩
  have hkk : key' = key := inj _ _ ((Prod.mk.inj h4).1.symm.trans henk)
  subst hkk
  have hf : findL l key' 0 = some (i, u) := findL_at hI.nd hli
  have hlt : i < es.size := by rw [← Array.length_toList]; exact (List.getElem?_eq_some_iff.1 hi).1
  have herase : (es.eraseIdxIfInBounds i).toList = es.toList.eraseIdx i := by simp [Array.eraseIdxIfInBounds, hlt]
  have hdel := mdel_erase hI.nd hli
  refine ⟨_, ?_, itClose (es := es.eraseIdxIfInBounds i) (clk := clk) (since := since) (seen := seen) (c0 := c0) ?_ (hS2.setIter (o' := .map (es.eraseIdxIfInBounds i) clk))⟩
  · unfold Builtin.delete_
    simp [run_underlying mt.is w, hget, ke.check, hfind, hf, hset]
  · refine ⟨?_, ?_, ?_, ?_, hI.sc, hI.sk, ?_, ?_, fun p hp => by cases hp⟩
    · rw [herase, hdel, map_eraseIdx', map_eraseIdx', hI.eq]
    · unfold stamped
      rw [herase]
      refine ⟨fun e' he' => hI.st.1 e' ((List.eraseIdx_sublist _ _).subset he'), ?_⟩
      exact ((List.eraseIdx_sublist es.toList i).map _).nodup hI.st.2
    · rw [hdel]
      exact ((List.eraseIdx_sublist l i).map _).nodup hI.nd
    · intro x hx
      rw [herase] at hx
      exact hI.old x ((List.eraseIdx_sublist _ _).subset hx)
    · rw [toList_left, herase, filter_erase hi (by rw [hseen, contains_push]; simp), ← toList_left]
      exact hI.lf
    · have h5 : left = left.filter fun p => p.1 ≠ key' := by
        symm
        rw [List.filter_eq_self]
        intro q hq
        have : q.1 ≠ key' := fun e => hk (by rw [← e]; exact List.mem_map_of_mem hq)
        simpa using this
      rw [h5]
      exact hI.sub.filter _
theorem deleteIt (inj : ∀ x y, enc x = enc y → x = y) (hk : key ∉ mkeys left) (hS : Sat w0 S w) (hw : Region.wanted o (yielded ops a.tmps) = true) {t2 : TypeId} (ho : o.op = .call { callee := .builtin .delete, args := #[m, x], argTypes := #[t, t2] }) (hm : a.eval m = .map (some b)) (hx : a.eval x = enc key)
    [MapTy P t k e] [KeyEncW P k enc] [p : Pull S r (itC enc ve b l left (some (key, v))) F]
    (kk : ∀ w', Sat w0 ((r, itC enc ve b (mdel l key) left none) :: F) w' → wpList P ops Q rest (a.put o.dst (.tuple #[])) w') : wpList P ops Q (o :: rest) a w := by
  obtain ⟨w', hr, h'⟩ := run_deleteIt (P := P) (t := t) (b := b) (r := r) (l := l) (left := left) (key := key) (v := v) (enc := enc) (ve := ve) inj hk hS t2 o.type
  refine wp_value hw ?_ (kk w' h')
  simp [execOp, ho, resolve, invoke, builtin, hm, hx, hr]
end
end Go.Proofs.Ytlkoclalcfeniaa.Sl
