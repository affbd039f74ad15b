/-
  Maps whose keys are arrays or structs, for the small separation logic. It names no program.
-/
import Derived.Test.YtlkoclalcfeniaaSlA
import Derived.DeepKeys5
set_option linter.unusedSimpArgs false
set_option linter.unusedVariables false
namespace Go.Proofs.Ytlkoclalcfeniaa.Sl
open Go Go.RowKit

/-- The key's type: how its values are read, and that the model finds them so. -/
class KeyEncW {κ : Type} [DecidableEq κ] (P : Program) (k : TypeId) (enc : κ → Value) : Prop where
  check : ∀ e w x, (Instr.checkKey e 10000 k (enc x)).run P w = .ok () w
  find : ∀ w x (l : List (κ × Value)) (es : List MapEntry), (mkeys l).Nodup → es.map (fun e => (e.key, e.val)) = l.map (fun p => (enc p.1, p.2)) → (Instr.findKey k (enc x) es).run P w = .ok (findL l x 0) w
  stays : ∀ w x, (Instr.keyThatStays (enc x) (enc x)).run P w = .ok (enc x) w
section
variable {κ β : Type} [DecidableEq κ] {enc : κ → Value} {ve : β → Value}
theorem KeyEncW.findT {P : Program} {k : TypeId} (ke : KeyEncW P k enc) (ve : β → Value) (w : World) (x : κ) (l : List (κ × β)) (es : List MapEntry) (hn : (mkeys l).Nodup)
    (he : es.map (fun e => (e.key, e.val)) = l.map (fun p => (enc p.1, ve p.2))) : (Instr.findKey k (enc x) es).run P w = .ok ((findL l x 0).map fun p => (p.1, ve p.2)) w := by
  rw [ke.find w x (l.map fun p => (p.1, ve p.2)) es (by unfold mkeys; rw [List.map_map]; exact hn) (by rw [he, List.map_map]; rfl), findL_map]
theorem findL_at {l : List (κ × β)} {x : κ} {v : β} {j : Nat} (hn : (mkeys l).Nodup) (h : l[j]? = some (x, v)) : findL l x 0 = some (j, v) := by
  cases hf : findL l x 0 with
  | none => exact absurd (List.mem_map.2 ⟨(x, v), List.mem_of_getElem? h, rfl⟩) (findL_none.1 hf)
  | some p =>
    obtain ⟨i, u⟩ := p
    have hi := findL_some hf
    have e1 : (mkeys l)[i]? = some x := by simp [mkeys, hi]
    have e2 : (mkeys l)[j]? = some x := by simp [mkeys, h]
    have hij : i = j := by
      obtain ⟨h1, h2⟩ := List.getElem?_eq_some_iff.1 e1
      obtain ⟨h3, h4⟩ := List.getElem?_eq_some_iff.1 e2
      have hp := List.pairwise_iff_getElem.1 hn
      rcases Nat.lt_trichotomy i j with h | h | h
      · exact absurd (h2.trans h4.symm) (hp i j h1 h3 h)
      · exact h
      · exact absurd (h4.trans h2.symm) (hp j i h3 h1 h)
    subst hij
    rw [hi] at h
    cases h
    rfl
theorem KeyEncW.of_law {P : Program} {k : TypeId} (law : WideMaps.KeyLaw P k) (hk : ∀ x, ∃ l, keyOf P k (enc x) = some l) (inj : ∀ x y, enc x = enc y → x = y) : KeyEncW P k enc where
  check e w x := by obtain ⟨l, hl⟩ := hk x; exact law.check w e hl
  stays w x := by obtain ⟨l, hl⟩ := hk x; exact law.stays w hl
  find w x l es hn he := by
    obtain ⟨lx, hlx⟩ := hk x
    have hes : ∀ e ∈ es, ∃ l, keyOf P k e.key = some l := fun e h => by
      have h2 : (e.key, e.val) ∈ l.map fun p => (enc p.1, p.2) := by rw [← he]; exact List.mem_map.2 ⟨e, h, rfl⟩
      obtain ⟨p, _, hp⟩ := List.mem_map.1 h2
      have h3 : enc p.1 = e.key := congrArg Prod.fst hp
      rw [← h3]
      exact hk p.1
    rcases law.find w hlx es hes with ⟨h1, h2⟩ | ⟨j, e, h1, h2, h3⟩
    · rw [h1]
      have h0 : findL l x 0 = none := findL_none.2 fun hm => by
        obtain ⟨p, hp, hpx⟩ := List.mem_map.1 hm
        have h4 : (enc p.1, p.2) ∈ es.map fun e => (e.key, e.val) := by rw [he]; exact List.mem_map.2 ⟨p, hp, rfl⟩
        obtain ⟨e, hme, hee⟩ := List.mem_map.1 h4
        have h5 : e.key = enc p.1 := congrArg Prod.fst hee
        exact h2 e hme (by rw [h5, hpx])
      rw [h0]
    · rw [h1]
      have h4 := congrArg (fun L => L[j]?) he
      simp only [List.getElem?_map, h2, Option.map_some] at h4
      cases hl : l[j]? with
      | none => rw [hl] at h4; cases h4
      | some p =>
        obtain ⟨y, v⟩ := p
        rw [hl] at h4
        simp only [Option.map_some, Option.some.injEq, Prod.mk.injEq] at h4
        have hxy : y = x := inj _ _ (h4.1.symm.trans h3)
        subst hxy
        rw [findL_at hn hl, h4.2]
end
section
variable {κ β : Type} [DecidableEq κ] {enc : κ → Value} {ve : β → Value}
variable {P : Program} {ops : Array Oper} {rest : List Oper} {o : Oper} {a : Act} {Q : Exit → Act → World → Prop} {w0 w : World} {S F : List Chunk} {I : World → Prop}
variable {b n : Nat} {z : Array Value} {zv : Value} {t k e : TypeId} {agg : Bool} {x y m : Operand} {l : List (κ × β)}
/-- 'v, ok := m[k]' and 'm[k]'. -/
theorem run_lookupW (h : Sat w0 S w) [mt : MapTy P t k e] [ke : KeyEncW P k enc] [ty : Ty P e agg n zv z] [Pull S b (mapC enc ve l) F] (key : κ) (ok : Bool) :
    (Instr.lookup t (.map (some b)) (enc key) ok).run P w = .ok (if ok then .tuple #[((mget l key).map ve).getD zv, .bool (mget l key).isSome] else ((mget l key).map ve).getD zv) w := by
  obtain ⟨es, clk, hb, he, _, hn, _⟩ := h.map (b := b) (enc := enc) (ve := ve) (l := l)
  have hget : (getObj b).run P w = .ok (.map es clk) w := by simp [getObj, Sem.run, hb]
  have hfind := ke.findT ve w key l es.toList hn he
  unfold Instr.lookup
  simp only [Sem.run_bind, run_underlying mt.is w, Result.andThen_ok, hget, Sem.run_pure, ke.check, hfind]
  unfold mget
  cases findL l key 0 with
  | none => simp [ty.zero]
  | some p => simp
theorem lookupW2 (hS : Sat w0 S w) (hw : Region.wanted o (yielded ops a.tmps) = true) (ho : o.op = .lookup t x y true) (key : κ) (hx : a.eval x = .map (some b)) (hy : a.eval y = enc key)
    [MapTy P t k e] [KeyEncW P k enc] [Ty P e agg n zv z] [Pull S b (mapC enc ve l) F] (d : β) (hd : zv = ve d)
    (kk : wpList P ops Q rest (a.put o.dst (.tuple #[ve ((mget l key).getD d), .bool (mget l key).isSome])) w) : wpList P ops Q (o :: rest) a w := by
  refine wp_value hw ?_ kk
  have e1 : ((mget l key).map ve).getD zv = ve ((mget l key).getD d) := by rw [hd]; cases mget l key <;> rfl
  simp [execOp, ho, hx, hy, run_lookupW hS (b := b) (l := l) (enc := enc) (ve := ve) key true, e1]
theorem lookupW1 (hS : Sat w0 S w) (hw : Region.wanted o (yielded ops a.tmps) = true) (ho : o.op = .lookup t x y false) (key : κ) (hx : a.eval x = .map (some b)) (hy : a.eval y = enc key)
    [MapTy P t k e] [KeyEncW P k enc] [Ty P e agg n zv z] [Pull S b (mapC enc ve l) F] (d : β) (hd : zv = ve d)
    (kk : wpList P ops Q rest (a.put o.dst (ve ((mget l key).getD d))) w) : wpList P ops Q (o :: rest) a w := by
  refine wp_value hw ?_ kk
  have e1 : ((mget l key).map ve).getD zv = ve ((mget l key).getD d) := by rw [hd]; cases mget l key <;> rfl
  simp [execOp, ho, hx, hy, run_lookupW hS (b := b) (l := l) (enc := enc) (ve := ve) key false, e1]
theorem run_mapUpdateW (h : Sat w0 S w) [mt : MapTy P t k e] [ke : KeyEncW P k enc] [Pull S b (mapC enc ve l) F] (key : κ) (v : β) :
    ∃ w', (Instr.mapUpdate t (.map (some b)) (enc key) (ve v)).run P w = .ok () w' ∧ Sat w0 ((b, mapC enc ve (mput l key v)) :: F) w' := by
  obtain ⟨es, clk, hb, he, hs, hn, _⟩ := h.map (b := b) (enc := enc) (ve := ve) (l := l)
  have hget : (getObj b).run P w = .ok (.map es clk) w := by simp [getObj, Sem.run, hb]
  have hfind := ke.findT ve w key l es.toList hn he
  have hset : ∀ o' : Obj, (setObj b o').run P w = .ok () { w with heap := w.heap.setIfInBounds b o' } := fun o' => by simp [setObj, Sem.run, hb]
  have hlen := length_of_map he
  cases hf : findL l key 0 with
  | none =>
    refine ⟨_, ?_, h.setMap (b := b) (enc := enc) (ve := ve) (l := l) (l' := mput l key v) (es := es.push { key := enc key, val := ve v, born := clk }) (clk := clk + 1) ?_ ?_ (nodup_mput hn key v)⟩
    · unfold Instr.mapUpdate
      simp [run_underlying mt.is w, hget, ke.check, hfind, hf, hset]
    · simp [mput, hf, he]
    · refine ⟨fun e he' => ?_, ?_⟩
      · simp at he'
        rcases he' with h1 | h1
        · have := hs.1 e (by simpa using h1); omega
        · subst h1; simp
      · simp only [Array.toList_push, List.map_append, List.map_cons, List.map_nil]
        rw [List.nodup_append]
        refine ⟨hs.2, by simp, ?_⟩
        intro x hx y hy
        simp at hy
        subst hy
        obtain ⟨e, hm, rfl⟩ := List.mem_map.1 hx
        have := hs.1 e hm; omega
  | some p =>
    obtain ⟨i, u⟩ := p
    have hi := findL_some hf
    have hkey : (es.toList[i]?).map (·.key) = some (enc key) := by
      have h2 := congrArg (fun L => L[i]?) he
      simp only [List.getElem?_map, hi, Option.map_some] at h2
      cases h3 : es.toList[i]? with
      | none => simp [h3] at h2
      | some e0 => simp [h3] at h2; simp [h2.1]
    have hkey' : ((es[i]?).map (·.key)).getD (enc key) = enc key := by
      rw [Array.getElem?_toList] at hkey; rw [hkey]; rfl
    refine ⟨_, ?_, h.setMap (b := b) (enc := enc) (ve := ve) (l := l) (l' := mput l key v) (es := es.modify i fun e => { e with key := enc key, val := ve v }) (clk := clk) ?_ ?_ (nodup_mput hn key v)⟩
    · unfold Instr.mapUpdate
      simp [run_underlying mt.is w, hget, ke.check, hfind, hf, hkey', ke.stays, hset]
    · simp only [mput, hf]
      apply List.ext_getElem?
      intro j
      have h2 := congrArg (fun L => L[j]?) he
      simp only [List.getElem?_map] at h2
      simp only [List.getElem?_map, Array.getElem?_toList, Array.getElem?_modify, List.getElem?_set]
      rw [Array.getElem?_toList] at h2
      by_cases e1 : i = j
      · subst e1
        have hlt : i < l.length := (List.getElem?_eq_some_iff.1 hi).1
        have hlt' : i < es.size := by rw [← Array.length_toList]; omega
        simp [hlt, hlt']
      · simp only [e1, if_false]
        exact h2
    · have hb' : (es.modify i fun e => { e with key := enc key, val := ve v }).toList.map (·.born) = es.toList.map (·.born) := by
        apply List.ext_getElem?
        intro j
        simp only [List.getElem?_map, Array.getElem?_toList, Array.getElem?_modify]
        by_cases e1 : i = j
        · subst e1; cases es[i]? <;> simp
        · simp [e1]
      refine ⟨fun e' he' => ?_, by rw [hb']; exact hs.2⟩
      have : e'.born ∈ es.toList.map (·.born) := by rw [← hb']; exact List.mem_map.2 ⟨e', he', rfl⟩
      obtain ⟨e0, h0, h1⟩ := List.mem_map.1 this
      rw [← h1]; exact hs.1 e0 h0
theorem mapUpdateW (hS : Sat w0 S w) (hw : Region.wanted o (yielded ops a.tmps) = true) (ho : o.op = .mapUpdate t m x y) (key : κ) (v : β) (hm : a.eval m = .map (some b)) (hx : a.eval x = enc key) (hy : a.eval y = ve v)
    [MapTy P t k e] [KeyEncW P k enc] [Pull S b (mapC enc ve l) F]
    (kk : ∀ w', Sat w0 ((b, mapC enc ve (mput l key v)) :: F) w' → wpList P ops Q rest (a.put o.dst undef) w') : wpList P ops Q (o :: rest) a w := by
  obtain ⟨w', hr, h'⟩ := run_mapUpdateW hS (t := t) (b := b) (enc := enc) (ve := ve) (l := l) (P := P) key v
  refine wp_skip' hw ?_ (kk w' h')
  simp [execOp, ho, hm, hx, hy, hr]
end
end Go.Proofs.Ytlkoclalcfeniaa.Sl
