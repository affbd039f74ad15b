/-
  'm[k] = append(m[k], ..)' for the small separation logic: an entry of a map is made, or found, and written later. It names no program.
-/
import Derived.Test.YteoidocicjlglaaDoorSlKey
set_option linter.unusedSimpArgs false
set_option linter.unusedVariables false
namespace Go.Proofs.YteoidocicjlglaaDoor.Sl
open Go Go.RowKit

section
variable {κ β : Type} [DecidableEq κ] {enc : κ → Value} {ve : β → Value}
variable {P : Program} {ops : Array Oper} {rest : List Oper} {o : Oper} {a : Act} {Q : Exit → Act → World → Prop} {w0 w : World} {S F : List Chunk} {I : World → Prop} {X Y : K}
variable {b n st : Nat} {z : Array Value} {zv : Value} {t k e : TypeId} {agg : Bool} {x y m : Operand} {l : List (κ × β)}
/-- A block that is a map, of one of whose entries the stamp is known. -/
def mapS (enc : κ → Value) (ve : β → Value) (l : List (κ × β)) (key : κ) (st : Nat) : K := fun b h =>
  ∃ es clk, h b = some (.map es clk) ∧ es.toList.map (fun e => (e.key, e.val)) = l.map (fun p => (enc p.1, ve p.2)) ∧ stamped es clk ∧ (mkeys l).Nodup ∧ ∃ i u e, findL l key 0 = some (i, u) ∧ es[i]? = some e ∧ e.born = st
theorem Sat.setAny (h : Sat w0 ((b, X) :: F) w) (hX : ∀ h, X b h → ∃ es clk, h b = some (.map es clk)) {es : Array MapEntry} {clk : Nat} (hY : ∀ h, h b = some (.map es clk) → Y b h) : Sat w0 ((b, Y) :: F) { w with heap := w.heap.setIfInBounds b (.map es clk) } := by
  obtain ⟨h1, h2, d, l1, l2, hx, hr⟩ := h.has
  obtain ⟨es1, clk1, hb1⟩ := hX _ hx
  have hb := (own_some (l1 b _ hb1)).2
  have hlt := (Array.getElem?_eq_some_iff.1 hb).1
  have h'' : Sat w0 ((b, obj (.map es1 clk1)) :: F) w := ⟨h.base, h1, h2, d, l1, l2, hb1, hr⟩
  refine h''.update (o := .map es1 clk1) (o' := .map es clk) (fun _ hx => hx) (fun i hi => ?_) (heap_set w b _ hlt) (by simp) rfl rfl rfl (hY _ (by simp))
  simp only [Array.getElem?_setIfInBounds]
  rw [if_neg (fun e => hi e.symm)]
theorem Sat.mapS {key : κ} (h : Sat w0 S w) [Pull S b (mapS enc ve l key st) F] : ∃ es clk, w.heap[b]? = some (.map es clk) ∧ es.toList.map (fun e => (e.key, e.val)) = l.map (fun p => (enc p.1, ve p.2)) ∧ stamped es clk ∧ (mkeys l).Nodup ∧ ∃ i u e, findL l key 0 = some (i, u) ∧ es[i]? = some e ∧ e.born = st := by
  obtain ⟨h1, h2, d, l1, l2, ⟨es, clk, hb, r⟩, _⟩ := (h.pull b).has
  have := own_some (l1 b _ hb)
  exact ⟨es, clk, this.2, r⟩
theorem findL_append_none : ∀ (l : List (κ × β)) (x : κ) (v : β) (i : Nat), findL l x i = none → findL (l ++ [(x, v)]) x i = some (i + l.length, v)
  | [], x, v, i, _ => by simp [findL]
  | (y, u) :: l, x, v, i, h => by
    unfold findL at h
    split at h
    · cases h
    · rename_i hxy
      rw [List.cons_append, findL, if_neg hxy, findL_append_none l x v (i + 1) h, List.length_cons]
      congr 2; omega
theorem findL_set_same : ∀ (l : List (κ × β)) (x : κ) (u v : β) (i j : Nat), findL l x j = some (j + i, u) → findL (l.set i (x, v)) x j = some (j + i, v)
  | [], x, u, v, i, j, h => by simp [findL] at h
  | (y, q) :: l, x, u, v, i, j, h => by
    unfold findL at h
    split at h
    · have h2 := (Option.some.inj h)
      have h3 := congrArg Prod.fst h2
      have hi : i = 0 := by simp at h3; omega
      subst hi
      simp [findL]
    · rename_i hxy
      have hle := h
      rw [show j + 1 = 0 + (j + 1) by omega, findL_add] at hle
      obtain ⟨⟨r, s⟩, hr, hr2⟩ := Option.map_eq_some_iff.1 hle
      have h3 := congrArg Prod.fst hr2
      simp at h3
      obtain ⟨i', rfl⟩ : ∃ i', i = i' + 1 := ⟨i - 1, by omega⟩
      rw [List.set_cons_succ, findL, if_neg hxy, findL_set_same l x u v i' (j + 1) (by rw [h]; congr 2; omega)]
      congr 2; omega
theorem findL_mput (l : List (κ × β)) (x : κ) (v : β) : ∃ i, findL (mput l x v) x 0 = some (i, v) := by
  unfold mput
  cases h : findL l x 0 with
  | none => exact ⟨_, findL_append_none l x v 0 h⟩
  | some p =>
    obtain ⟨i, u⟩ := p
    exact ⟨0 + i, findL_set_same l x u v i 0 (by rw [h, Nat.zero_add])⟩
theorem mput_mput (l : List (κ × β)) (x : κ) (u v : β) : mput (mput l x u) x v = mput l x v := by
  cases h : findL l x 0 with
  | none =>
    have h1 := findL_append_none l x u 0 h
    rw [Nat.zero_add] at h1
    simp only [mput, h, h1]
    rw [List.set_append_right _ _ (Nat.le_refl _), Nat.sub_self]
    rfl
  | some p =>
    obtain ⟨i, q⟩ := p
    have h1 := findL_set_same l x q u i 0 (by rw [h, Nat.zero_add])
    rw [Nat.zero_add] at h1
    simp only [mput, h, h1]
    rw [List.set_set]
theorem run_mapEntryW (h : Sat w0 S w) [mt : MapTy P t k e] [ke : KeyEncW P k enc] [ty : Ty P e agg n zv z] [Pull S b (mapC enc ve l) F] (key : κ) (d : β) (hd : zv = ve d) :
    ∃ (st : Nat) (w' : World), (Instr.mapEntry t (.map (some b)) (enc key)).run P w = .ok (.tuple #[ve ((mget l key).getD d), .int .i64 st]) w' ∧ Sat w0 ((b, mapS enc ve (mput l key ((mget l key).getD d)) key st) :: F) w' := by
  obtain ⟨es, clk, hb, he, hs, hn, _⟩ := h.map (b := b) (enc := enc) (ve := ve) (l := l)
  have hget : (getObj b).run P w = .ok (.map es clk) w := by simp [getObj, Sem.run, hb]
  have hfind := ke.findT ve w key l es.toList hn he
  have hset : ∀ o' : Obj, (setObj b o').run P w = .ok () { w with heap := w.heap.setIfInBounds b o' } := fun o' => by simp [setObj, Sem.run, hb]
  have hlen := length_of_map he
  have hX : ∀ h, mapC enc ve l b h → ∃ es clk, h b = some (.map es clk) := fun h ⟨es, clk, hb, _⟩ => ⟨es, clk, hb⟩
  cases hf : findL l key 0 with
  | none =>
    have hm : mget l key = none := by simp [mget, hf]
    refine ⟨clk, _, ?_, (h.pull b).setAny hX (es := es.push { key := enc key, val := zv, born := clk }) (clk := clk + 1) fun h hh => ⟨_, _, hh, ?_, ?_, nodup_mput hn key _, ?_⟩⟩
    · unfold Instr.mapEntry
      simp [run_underlying mt.is w, hget, ke.check, hfind, hf, hset, ty.zero, hm, hd, goInt]
    · simp [mput, hf, he, hm, hd]
    · refine ⟨fun e he' => ?_, ?_⟩
      · simp at he'
        rcases he' with h1 | h1
        · have := hs.1 e (by simpa using h1); omega
        · subst h1; simp
      · simp only [Array.toList_push, List.map_append, List.map_cons, List.map_nil]
        rw [List.nodup_append]
        refine ⟨hs.2, by simp, ?_⟩
        intro x hx y hy
        simp at hy
        subst hy
        obtain ⟨e, hm, rfl⟩ := List.mem_map.1 hx
        have := hs.1 e hm; omega
    · have h1 := findL_append_none l key ((mget l key).getD d) 0 hf
      rw [Nat.zero_add] at h1
      have hsz : l.length = es.size := by rw [← Array.length_toList]; omega
      refine ⟨l.length, _, ({ key := enc key, val := zv, born := clk } : MapEntry), by simp only [mput, hf]; exact h1, ?_, rfl⟩
      rw [hsz, Array.getElem?_push_size]
  | some p =>
    obtain ⟨i, u⟩ := p
    have hi := findL_some hf
    have hm : mget l key = some u := by simp [mget, hf]
    have hlt : i < l.length := (List.getElem?_eq_some_iff.1 hi).1
    have hlt' : i < es.size := by rw [← Array.length_toList]; omega
    have hkey : (es.toList[i]?).map (·.key) = some (enc key) := by
      have h2 := congrArg (fun L => L[i]?) he
      simp only [List.getElem?_map, hi, Option.map_some] at h2
      cases h3 : es.toList[i]? with
      | none => simp [h3] at h2
      | some e0 => simp [h3] at h2; simp [h2.1]
    have hkey' : ((es[i]?).map (·.key)).getD (enc key) = enc key := by
      rw [Array.getElem?_toList] at hkey; rw [hkey]; rfl
    have hei : es[i]? = some es[i] := Array.getElem?_eq_getElem hlt'
    have hsame : mput l key ((mget l key).getD d) = l := by
      rw [hm]
      simp only [mput, hf, Option.getD_some]
      apply List.ext_getElem?
      intro j
      rw [List.getElem?_set]
      split
      · rename_i e1
        subst e1
        exact hi.symm
      · rfl
    rw [hsame]
    refine ⟨es[i].born, _, ?_, (h.pull b).setAny hX (es := es.modify i fun e => { e with key := enc key }) (clk := clk) fun h hh => ⟨_, _, hh, ?_, ?_, hn, ?_⟩⟩
    · unfold Instr.mapEntry
      have hb9 : ((es[i]?).map (fun x => (x.born : Int))).getD 0 = (es[i].born : Int) := by rw [hei]; rfl
      simp only [Sem.run_bind, run_underlying mt.is w, Result.andThen_ok, hget, Sem.run_pure, ke.check, hfind, hf, Option.map_some, hkey', ke.stays, hset, hb9, hm, Option.getD_some, goInt]
    · rw [← he]
      apply List.ext_getElem?
      intro j
      simp only [List.getElem?_map, Array.getElem?_toList, Array.getElem?_modify]
      by_cases e1 : i = j
      · subst e1
        rw [Array.getElem?_toList] at hkey
        rw [hei] at hkey ⊢
        simp at hkey ⊢
        exact hkey.symm
      · simp [e1]
    · have hb' : (es.modify i fun e => { e with key := enc key }).toList.map (·.born) = es.toList.map (·.born) := by
        apply List.ext_getElem?
        intro j
        simp only [List.getElem?_map, Array.getElem?_toList, Array.getElem?_modify]
        by_cases e1 : i = j
        · subst e1; cases es[i]? <;> simp
        · simp [e1]
      refine ⟨fun e' he' => ?_, by rw [hb']; exact hs.2⟩
      have : e'.born ∈ es.toList.map (·.born) := by rw [← hb']; exact List.mem_map.2 ⟨e', he', rfl⟩
      obtain ⟨e0, h0, h1⟩ := List.mem_map.1 this
      rw [← h1]; exact hs.1 e0 h0
    · exact ⟨i, u, { es[i] with key := enc key }, hf, by simp [Array.getElem?_modify, hei], rfl⟩
theorem run_entryStoreW {key : κ} (h : Sat w0 S w) [Pull S b (mapS enc ve l key st) F] (v : β) :
    ∃ w' : World, (Instr.entryStore t (.map (some b)) (.int .i64 st) (ve v)).run P w = .ok () w' ∧ Sat w0 ((b, mapC enc ve (mput l key v)) :: F) w' := by
  obtain ⟨es, clk, hb, he, hs, hn, i, u, e, hf, hei, hbn⟩ := h.mapS (b := b) (enc := enc) (ve := ve) (l := l) (key := key) (st := st)
  have hget : (getObj b).run P w = .ok (.map es clk) w := by simp [getObj, Sem.run, hb]
  have hset : ∀ o' : Obj, (setObj b o').run P w = .ok () { w with heap := w.heap.setIfInBounds b o' } := fun o' => by simp [setObj, Sem.run, hb]
  have hX : ∀ h, Sl.mapS enc ve l key st b h → ∃ es clk, h b = some (.map es clk) := fun h ⟨es, clk, hb, _⟩ => ⟨es, clk, hb⟩
  have hi := findL_some hf
  have hlen := length_of_map he
  have hlt : i < l.length := (List.getElem?_eq_some_iff.1 hi).1
  have hlt' : i < es.size := by rw [← Array.length_toList]; omega
  have hfi : es.findIdx? (fun e => (e.born : Int) == (st : Int)) = some i := by
    rw [Array.findIdx?_eq_some_iff_getElem]
    have h1 : es[i] = e := by rw [Array.getElem?_eq_getElem hlt'] at hei; exact Option.some.inj hei
    refine ⟨hlt', by rw [h1, hbn]; simp, fun j hj hp => ?_⟩
    have h2 : es[j].born = st := by simp at hp; exact_mod_cast hp
    have hnd := List.pairwise_iff_getElem.1 hs.2
    have hj' : j < es.size := by omega
    exact hnd j i (by simpa using hj') (by simpa using hlt') hj (by simp only [List.getElem_map, Array.getElem_toList]; rw [h2, h1, hbn])
  have hkey : e.key = enc key := by
    have h2 := congrArg (fun L => L[i]?) he
    simp only [List.getElem?_map, Array.getElem?_toList, hei, hi, Option.map_some] at h2
    exact (Prod.mk.inj (Option.some.inj h2)).1
  refine ⟨_, ?_, (h.pull b).setAny hX (es := es.modify i fun e => { e with val := ve v }) (clk := clk) fun h hh => ⟨_, _, hh, ?_, ?_, nodup_mput hn key v⟩⟩
  · unfold Instr.entryStore
    simp [hget, asInt, asIntOf, hfi, hset]
  · simp only [mput, hf]
    apply List.ext_getElem?
    intro j
    have h2 := congrArg (fun L => L[j]?) he
    simp only [List.getElem?_map] at h2
    simp only [List.getElem?_map, Array.getElem?_toList, Array.getElem?_modify, List.getElem?_set]
    rw [Array.getElem?_toList] at h2
    by_cases e1 : i = j
    · subst e1
      simp [hlt, hei, hkey]
    · simp only [e1, if_false]
      exact h2
  · have hb' : (es.modify i fun e => { e with val := ve v }).toList.map (·.born) = es.toList.map (·.born) := by
      apply List.ext_getElem?
      intro j
      simp only [List.getElem?_map, Array.getElem?_toList, Array.getElem?_modify]
      by_cases e1 : i = j
      · subst e1; cases es[i]? <;> simp
      · simp [e1]
    refine ⟨fun e' he' => ?_, by rw [hb']; exact hs.2⟩
    have : e'.born ∈ es.toList.map (·.born) := by rw [← hb']; exact List.mem_map.2 ⟨e', he', rfl⟩
    obtain ⟨e0, h0, h1⟩ := List.mem_map.1 this
    rw [← h1]; exact hs.1 e0 h0
theorem mapEntryW (hS : Sat w0 S w) (hw : Region.wanted o (yielded ops a.tmps) = true) (ho : o.op = .mapEntry t x y) (key : κ) (hx : a.eval x = .map (some b)) (hy : a.eval y = enc key)
    [MapTy P t k e] [KeyEncW P k enc] [Ty P e agg n zv z] [Pull S b (mapC enc ve l) F] (d : β) (hd : zv = ve d)
    (kk : ∀ (st : Nat) (w' : World), Sat w0 ((b, mapS enc ve (mput l key ((mget l key).getD d)) key st) :: F) w' → wpList P ops Q rest (a.put o.dst (.tuple #[ve ((mget l key).getD d), .int .i64 st])) w') : wpList P ops Q (o :: rest) a w := by
  obtain ⟨st, w', hr, h'⟩ := run_mapEntryW hS (t := t) (b := b) (enc := enc) (ve := ve) (l := l) (P := P) key d hd
  refine wp_value hw ?_ (kk st w' h')
  simp [execOp, ho, hx, hy, hr]
theorem entryStoreW {key : κ} (hS : Sat w0 S w) (hw : Region.wanted o (yielded ops a.tmps) = true) (ho : o.op = .entryStore t m x y) (v : β) (hm : a.eval m = .map (some b)) (hx : a.eval x = .int .i64 st) (hy : a.eval y = ve v)
    [Pull S b (mapS enc ve l key st) F]
    (kk : ∀ w', Sat w0 ((b, mapC enc ve (mput l key v)) :: F) w' → wpList P ops Q rest (a.put o.dst undef) w') : wpList P ops Q (o :: rest) a w := by
  obtain ⟨w', hr, h'⟩ := run_entryStoreW hS (t := t) (b := b) (enc := enc) (ve := ve) (l := l) (P := P) (key := key) (st := st) v
  refine wp_skip' hw ?_ (kk w' h')
  simp [execOp, ho, hm, hx, hy, hr]
end
end Go.Proofs.YteoidocicjlglaaDoor.Sl
