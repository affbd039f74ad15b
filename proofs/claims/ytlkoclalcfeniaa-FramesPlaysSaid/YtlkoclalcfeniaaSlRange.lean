/-
  'for k, v := range m' for the small separation logic: in whatever order the entries come; the map may lose entries on the way. It names no program.
-/
import Derived.Test.YtlkoclalcfeniaaSlA
import Derived.Test.YtlkoclalcfeniaaSlKey
import Derived.Maps.RangeRun
import Derived.OrdersHeld
set_option linter.unusedSimpArgs false
set_option linter.unusedVariables false
namespace Go.Proofs.Ytlkoclalcfeniaa.Sl
open Go Go.RowKit

section
variable {κ β : Type} {enc : κ → Value} {ve : β → Value}
/-- An iterator over a map: what the map has, what is still to come. -/
structure It (enc : κ → Value) (ve : β → Value) (l left : List (κ × β)) (cur : Option (κ × β)) (es : Array MapEntry) (clk since : Nat) (seen : Array Nat) (c0 : Nat) : Prop where
  eq : es.toList.map (fun e => (e.key, e.val)) = l.map (fun p => (enc p.1, ve p.2))
  st : stamped es clk
  nd : (mkeys l).Nodup
  old : ∀ x ∈ es.toList, x.born < since
  sc : since ≤ c0
  sk : since ≤ clk
  lf : (leftOf es seen).toList.map (fun e => (e.key, e.val)) = left.map (fun p => (enc p.1, ve p.2))
  sub : left.Sublist l
  cu : ∀ p, cur = some p → c0 = clk ∧ ∃ (s : Array Nat) (e : MapEntry), seen = s.push e.born ∧ e ∈ es.toList ∧ e.key = enc p.1 ∧ e.val = ve p.2
def itL (b : Nat) (es : Array MapEntry) (clk since : Nat) (seen : Array Nat) (c0 r : Nat) : List Chunk := [(b, obj (.map es clk)), (r, obj (.mapIter (some b) since seen c0))]
def itC (enc : κ → Value) (ve : β → Value) (b : Nat) (l left : List (κ × β)) (cur : Option (κ × β)) : K := fun r h => ∃ es clk since seen c0, It enc ve l left cur es clk since seen c0 ∧ holds (itL b es clk since seen c0 r) h
variable {w0 w : World} {S F : List Chunk} {b r : Nat} {l left : List (κ × β)} {cur : Option (κ × β)}
theorem itOpen (hS : Sat w0 ((r, itC enc ve b l left cur) :: F) w) : ∃ es clk since seen c0, It enc ve l left cur es clk since seen c0 ∧ Sat w0 ((b, obj (.map es clk)) :: (r, obj (.mapIter (some b) since seen c0)) :: F) w := by
  obtain ⟨es, hS⟩ := hS.ex (Z := fun es r h => ∃ clk since seen c0, It enc ve l left cur es clk since seen c0 ∧ holds (itL b es clk since seen c0 r) h) fun _ h => h
  obtain ⟨clk, hS⟩ := hS.ex (Z := fun clk r h => ∃ since seen c0, It enc ve l left cur es clk since seen c0 ∧ holds (itL b es clk since seen c0 r) h) fun _ h => h
  obtain ⟨since, hS⟩ := hS.ex (Z := fun since r h => ∃ seen c0, It enc ve l left cur es clk since seen c0 ∧ holds (itL b es clk since seen c0 r) h) fun _ h => h
  obtain ⟨seen, hS⟩ := hS.ex (Z := fun seen r h => ∃ c0, It enc ve l left cur es clk since seen c0 ∧ holds (itL b es clk since seen c0 r) h) fun _ h => h
  obtain ⟨c0, hS⟩ := hS.ex (Z := fun c0 r h => It enc ve l left cur es clk since seen c0 ∧ holds (itL b es clk since seen c0 r) h) fun _ h => h
  obtain ⟨h1, hS⟩ := hS.and (Y := fun r h => holds (itL b es clk since seen c0 r) h) fun _ h => h
  exact ⟨es, clk, since, seen, c0, h1, hS.open (T := itL b es clk since seen c0 r) fun _ h => h⟩
theorem itClose {es : Array MapEntry} {clk since : Nat} {seen : Array Nat} {c0 : Nat} (hI : It enc ve l left cur es clk since seen c0) (hS : Sat w0 ((b, obj (.map es clk)) :: (r, obj (.mapIter (some b) since seen c0)) :: F) w) : Sat w0 ((r, itC enc ve b l left cur) :: F) w :=
  Sat.close (T := itL b es clk since seen c0 r) hS fun _ h => ⟨es, clk, since, seen, c0, hI, h⟩
theorem Sat.objAt {o : Obj} (h : Sat w0 S w) [p : Pull S b (obj o) F] : w0.heap.size ≤ b ∧ w.heap[b]? = some o := (h.pull b).heap fun _ h => h
theorem mapOpen (h : Sat w0 S w) [Pull S b (mapC enc ve l) F] : ∃ es clk, es.toList.map (fun e => (e.key, e.val)) = l.map (fun p => (enc p.1, ve p.2)) ∧ stamped es clk ∧ (mkeys l).Nodup ∧ Sat w0 ((b, obj (.map es clk)) :: F) w := by
  have h' := h.pull b
  obtain ⟨h1, h2, d, l1, l2, ⟨es, clk, hb, r⟩, hr⟩ := h'.has
  exact ⟨es, clk, r.1, r.2.1, r.2.2, h'.base, h1, h2, d, l1, l2, hb, hr⟩
theorem mapClose {es : Array MapEntry} {clk : Nat} (h1 : es.toList.map (fun e => (e.key, e.val)) = l.map (fun p => (enc p.1, ve p.2))) (h2 : stamped es clk) (h3 : (mkeys l).Nodup) (hS : Sat w0 ((b, obj (.map es clk)) :: F) w) : Sat w0 ((b, mapC enc ve l) :: F) w :=
  hS.turn fun _ h => ⟨es, clk, h, h1, h2, h3⟩
/-- The loop is over: the map is as it is. -/
theorem Sat.itDone (h : Sat w0 S w) [p : Pull S r (itC enc ve b l left cur) F] : Sat w0 ((b, mapC enc ve l) :: F) w := by
  obtain ⟨es, clk, since, seen, c0, hI, hS⟩ := itOpen (h.perm p.perm)
  exact mapClose hI.eq hI.st hI.nd ((hS.perm (List.Perm.swap _ _ _)).tail)
theorem Sat.itFacts (h : Sat w0 S w) [p : Pull S r (itC enc ve b l left cur) F] : (mkeys l).Nodup ∧ left.Sublist l := by
  obtain ⟨es, clk, since, seen, c0, hI, hS⟩ := itOpen (h.perm p.perm)
  exact ⟨hI.nd, hI.sub⟩
theorem leftOf_nil (es : Array MapEntry) : leftOf es #[] = es := by
  unfold leftOf
  rw [Array.filter_eq_self]
  intro a _
  simp
theorem filter_push {es : List MapEntry} {seen : Array Nat} {e : MapEntry} (hn : (es.map (·.born)).Nodup) {i : Nat} (hi : (es.filter fun x => !seen.contains x.born)[i]? = some e) :
    (es.filter fun x => !(seen.push e.born).contains x.born) = (es.filter fun x => !seen.contains x.born).eraseIdx i := by
  have h1 : (es.filter fun x => !(seen.push e.born).contains x.born) = (es.filter fun x => !seen.contains x.born).filter fun x => !(x.born == e.born) := by
    rw [List.filter_filter]
    congr 1
    funext x
    rw [contains_push]
    cases seen.contains x.born <;> simp
  rw [h1]
  have hn2 : ((es.filter fun x => !seen.contains x.born).map (·.born)).Nodup := (List.filter_sublist.map _).nodup hn
  generalize (es.filter fun x => !seen.contains x.born) = L at hi hn2
  clear h1 hn
  induction L generalizing i with
  | nil => simp at hi
  | cons x L ih =>
    rw [List.map_cons, List.nodup_cons] at hn2
    cases i with
    | zero =>
      simp at hi
      subst hi
      rw [List.eraseIdx_cons_zero, List.filter_cons, if_neg (by simp), List.filter_eq_self]
      intro y hy
      have : y.born ≠ x.born := fun e => hn2.1 (by rw [← e]; exact List.mem_map_of_mem hy)
      simpa using this
    | succ j =>
      simp at hi
      have hne : x.born ≠ e.born := fun e2 => hn2.1 (by rw [e2]; exact List.mem_map_of_mem (List.mem_of_getElem? hi))
      rw [List.eraseIdx_cons_succ, List.filter_cons, if_pos (by simpa using hne), ih hi hn2.2]
theorem toList_left (es : Array MapEntry) (seen : Array Nat) : (leftOf es seen).toList = es.toList.filter fun x => !seen.contains x.born := by
  unfold leftOf
  rw [Array.toList_filter]
theorem map_eraseIdx' {α γ : Type} (f : α → γ) : ∀ (L : List α) (j : Nat), (L.eraseIdx j).map f = (L.map f).eraseIdx j
  | [], _ => rfl
  | _ :: _, 0 => rfl
  | y :: L, j + 1 => by simp [map_eraseIdx' f L j]
theorem Sat.setIter {o o' : Obj} (h : Sat w0 ((b, obj o) :: F) w) : Sat w0 ((b, obj o') :: F) (Go.ChangeMaps.setBlock w b o') := by
  have hb := h.objAt (b := b) (o := o)
  have hlt := (Array.getElem?_eq_some_iff.1 hb.2).1
  unfold Go.ChangeMaps.setBlock
  refine h.update (o := o) (o' := o') (fun _ hx => hx) (fun i hi => ?_) (by simp [hlt]) (by simp) rfl rfl rfl (by simp [obj])
  simp only [Array.getElem?_setIfInBounds]
  rw [if_neg (fun e => hi e.symm)]
end
section
variable {κ β : Type} {enc : κ → Value} {ve : β → Value}
variable {P : Program} {ops : Array Oper} {rest : List Oper} {o : Oper} {a : Act} {Q : Exit → Act → World → Prop} {w0 w : World} {S F : List Chunk}
variable {b r : Nat} {t k e : TypeId} {x m : Operand} {l left : List (κ × β)} {cur : Option (κ × β)}
/-- The loop begins. -/
theorem rangeMap (hS : Sat w0 S w) (hw : Region.wanted o (yielded ops a.tmps) = true) (ho : o.op = .range t x) (hx : a.eval x = .map (some b)) [mt : MapTy P t k e] [Pull S b (mapC enc ve l) F]
    (kk : ∀ r w', Sat w0 ((r, itC enc ve b l l none) :: F) w' → wpList P ops Q rest (a.put o.dst (.pointer (some ⟨r, 0, none⟩))) w') : wpList P ops Q (o :: rest) a w := by
  obtain ⟨es, clk, h1, h2, h3, hS2⟩ := mapOpen hS (b := b) (enc := enc) (ve := ve) (l := l)
  have hb := hS2.objAt (b := b) (o := .map es clk)
  have hrun := run_range_map (P := P) w t k e b es clk mt.is hb.2
  refine wp_value hw (w' := w.alloc (.mapIter (some b) clk #[] clk)) ?_ (kk w.heap.size _ ?_)
  · simp [execOp, ho, hx, hrun]
  · have h4 := hS2.fresh (Y := obj (.mapIter (some b) clk #[] clk)) (.mapIter (some b) clk #[] clk) (by simp [obj])
    exact itClose ⟨h1, h2, h3, h2.1, Nat.le_refl _, Nat.le_refl _, by rw [leftOf_nil]; exact h1, List.Sublist.refl _, fun p hp => by cases hp⟩ (h4.perm (List.Perm.swap _ _ _))
/-- A step: nothing is left, or one of what is left comes out. -/
theorem nextMap (hS : Sat w0 S w) (hw : Region.wanted o (yielded ops a.tmps) = true) (ho : o.op = .next x false) (hx : a.eval x = .pointer (some ⟨r, 0, none⟩)) [p : Pull S r (itC enc ve b l left cur) F]
    (k0 : left = [] → wpList P ops Q rest (a.put o.dst (.tuple #[.bool false])) w)
    (k1 : ∀ L1 key v L2 w', left = L1 ++ (key, v) :: L2 → (key, v) ∈ l → key ∉ mkeys (L1 ++ L2) → Sat w0 ((r, itC enc ve b l (L1 ++ L2) (some (key, v))) :: F) w' → wpList P ops Q rest (a.put o.dst (.tuple #[.bool true, enc key, ve v])) w') : wpList P ops Q (o :: rest) a w := by
  obtain ⟨es, clk, since, seen, c0, hI, hS2⟩ := itOpen (hS.perm p.perm)
  have hb := hS2.objAt (b := b) (o := .map es clk)
  have hr := hS2.objAt (b := r) (o := .mapIter (some b) since seen c0)
  rcases run_next_at (P := P) w o.type r b since c0 seen es clk hr.2 hb.2 hI.old hI.sc with ⟨h1, h2⟩ | ⟨en, he, w1, hw1, h2⟩
  · refine wp_value hw (w' := w) (by simp [execOp, ho, hx, h2]) (k0 ?_)
    have h3 := congrArg List.length hI.lf
    simp only [List.length_map, Array.length_toList, h1] at h3
    exact List.eq_nil_of_length_eq_zero h3.symm
  · obtain ⟨i, hi⟩ := List.mem_iff_getElem?.1 he
    have h3 := congrArg (fun L => L[i]?) hI.lf
    simp only [List.getElem?_map, hi, Option.map_some] at h3
    obtain ⟨⟨key, v⟩, hkv, h4⟩ : ∃ q, left[i]? = some q ∧ (en.key, en.val) = (enc q.1, ve q.2) := by
      cases h5 : left[i]? with
      | none => rw [h5] at h3; cases h3
      | some q => rw [h5] at h3; exact ⟨q, rfl, Option.some.inj h3⟩
    obtain ⟨hk, hv⟩ := Prod.mk.inj h4
    have hlt : i < left.length := (List.getElem?_eq_some_iff.1 hkv).1
    have hsp : left = left.take i ++ (key, v) :: left.drop (i + 1) := by
      have h5 : left.drop i = (key, v) :: left.drop (i + 1) := by rw [List.drop_eq_getElem_cons hlt]; congr 1; exact (List.getElem?_eq_some_iff.1 hkv).2
      rw [← h5, List.take_append_drop]
    have her : left.eraseIdx i = left.take i ++ left.drop (i + 1) := List.eraseIdx_eq_take_drop_succ left i
    have hns : ((mkeys (left.take i)) ++ key :: mkeys (left.drop (i + 1))).Nodup := by
      have h5 : (mkeys left).Nodup := (hI.sub.map Prod.fst).nodup hI.nd
      rw [hsp] at h5
      simpa [mkeys] using h5
    have hS3 : Sat w0 ((b, obj (.map es clk)) :: (r, obj (.mapIter (some b) since seen c0)) :: F) w1 := by
      rcases hw1 with rfl | rfl
      · exact hS2
      · exact hS2.drew
    have hS4 := (hS3.perm (List.Perm.swap _ _ _)).setIter (o' := .mapIter (some b) since (seen.push en.born) clk)
    refine wp_value hw (w' := _) (by rw [hk, hv] at h2; simp [execOp, ho, hx, h2]) (k1 (left.take i) key v (left.drop (i + 1)) _ hsp (hI.sub.subset (List.mem_of_getElem? hkv)) ?_ (itClose ?_ (hS4.perm (List.Perm.swap _ _ _))))
    · intro hm
      simp only [mkeys, List.map_append, List.mem_append] at hm
      rw [List.nodup_append] at hns
      rcases hm with hm | hm
      · exact hns.2.2 key hm key (by simp) rfl
      · exact (List.nodup_cons.1 hns.2.1).1 hm
    · rw [← her]
      refine ⟨hI.eq, hI.st, hI.nd, hI.old, hI.sk, hI.sk, ?_, (List.eraseIdx_sublist left i).trans hI.sub, fun q hq => ?_⟩
      · rw [toList_left, filter_push hI.st.2 (by rw [← toList_left]; exact hi), map_eraseIdx', map_eraseIdx', ← toList_left, hI.lf]
      · cases hq
        exact ⟨rfl, seen, en, rfl, (mem_left he).1, hk, hv⟩
/-- The entry that has just come out. -/
theorem run_entryMap {key : κ} {v : β} (hS : Sat w0 S w) [p : Pull S r (itC enc ve b l left (some (key, v))) F] : (Instr.entry (.pointer (some ⟨r, 0, none⟩))).run P w = .ok (.tuple #[enc key, ve v]) w := by
  obtain ⟨es, clk, since, seen, c0, hI, hS2⟩ := itOpen (hS.perm p.perm)
  have hb := hS2.objAt (b := b) (o := .map es clk)
  have hr := hS2.objAt (b := r) (o := .mapIter (some b) since seen c0)
  obtain ⟨h1, s, e, h2, h3, h4, h5⟩ := hI.cu _ rfl
  subst h1 h2
  have h6 := run_entry_at (P := P) w r b since s es c0 e hr.2 hb.2 h3 hI.st.2
  rw [h4, h5] at h6
  exact h6
theorem entryMap {key : κ} {v : β} (hS : Sat w0 S w) (hw : Region.wanted o (yielded ops a.tmps) = true) (ho : o.op = .entry x) (hx : a.eval x = .pointer (some ⟨r, 0, none⟩)) [p : Pull S r (itC enc ve b l left (some (key, v))) F]
    (kk : wpList P ops Q rest (a.put o.dst (.tuple #[enc key, ve v])) w) : wpList P ops Q (o :: rest) a w := by
  refine wp_value hw ?_ kk
  simp [execOp, ho, hx, run_entryMap hS (P := P) (r := r) (b := b) (l := l) (left := left) (key := key) (v := v) (enc := enc) (ve := ve)]
theorem yEntryMap {I : World → Prop} {key : κ} {v : β} (hI : ∀ w, I w → Sat w0 S w) (hw : Region.wanted o (yielded ops a.tmps) = true) (ho : o.op = .entry x) (hx : a.eval x = .pointer (some ⟨r, 0, none⟩)) [p : Pull S r (itC enc ve b l left (some (key, v))) F] : YieldsIf P ops I o (.tuple #[enc key, ve v]) a :=
  .inl ⟨hw, fun w h => by simp [execOp, ho, hx, run_entryMap (hI w h) (P := P) (r := r) (b := b) (l := l) (left := left) (key := key) (v := v) (enc := enc) (ve := ve)]⟩
end
end Go.Proofs.Ytlkoclalcfeniaa.Sl
