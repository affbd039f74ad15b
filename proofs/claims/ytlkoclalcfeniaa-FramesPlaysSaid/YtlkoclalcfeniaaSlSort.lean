/-
  The keys of a map, sorted (maps.Keys, slices.Sorted), for the small separation logic. It names no program.
-/
import Derived.Test.YtlkoclalcfeniaaSlRange
import Derived.Test.YtlkoclalcfeniaaSlB
import Derived.Shelf.SlIterI.Nil
import Derived.Shelf.SortM.Plain
import Derived.Shelf.SortM.SortNone
set_option linter.unusedSimpArgs false
set_option linter.unusedVariables false
namespace Go.Proofs.Ytlkoclalcfeniaa.Sl
open Go Go.RowKit Go.Maps Go.Sort Go.Shelf

/-- A list of numbers, sorted. -/
def sortI (L : List Int) : List Int := L.mergeSort leI
theorem sortI_perm (L : List Int) : (sortI L).Perm L := List.mergeSort_perm L leI
theorem sortI_of_perm {L M : List Int} (h : L.Perm M) : sortI L = sortI M := mergeSort_of_perm_i h
theorem sortI_len (L : List Int) : (sortI L).length = L.length := (sortI_perm L).length_eq
theorem sortI_le (L : List Int) : (sortI L).Pairwise fun a b => a ≤ b := by
  have tr : ∀ a b c : Int, leI a b = true → leI b c = true → leI a c = true := fun a b c h1 h2 => by simp only [leI, decide_eq_true_eq] at *; exact Int.le_trans h1 h2
  have tot : ∀ a b : Int, (leI a b || leI b a) = true := fun a b => by simp only [leI, Bool.or_eq_true, decide_eq_true_eq]; exact Int.le_total a b
  refine (List.pairwise_mergeSort tr tot L).imp fun {a b} h => ?_
  simpa [leI] using h
theorem sortI_unique {L M : List Int} (h : L.Perm M) (hs : L.Pairwise fun a b => a ≤ b) : L = sortI M :=
  List.Perm.eq_of_pairwise (le := fun a b : Int => a ≤ b) (fun _ _ _ _ h1 h2 => Int.le_antisymm h1 h2) hs (sortI_le M) (h.trans (sortI_perm M).symm)
/-- A number that is an int (64 bits). -/
def wI (n : Int) : Prop := (Lit.int .i64 n).wf = true
theorem insert_perm {H : Type} (x : Lit × DataW H) : ∀ l : List (Lit × DataW H), (DataW.insert x l).Perm (x :: l)
  | [] => List.Perm.refl _
  | y :: r => by
    unfold DataW.insert
    split
    · exact List.Perm.refl _
    · exact ((insert_perm x r).cons y).trans (List.Perm.swap _ _ _)
theorem foldr_perm {H : Type} : ∀ l : List (Lit × DataW H), (l.foldr DataW.insert []).Perm l
  | [] => List.Perm.refl _
  | x :: l => (insert_perm x _).trans ((foldr_perm l).cons x)
abbrev anyR : Value → Option (DataW Unit × List MemPlace) := fun _ => some (.nil, [])
section
variable {P : Program} {k : TypeId} {β : Type} {ve : β → Value} {l : List (Int × β)} {w0 w : World} {b : Nat} {S F : List Chunk}
theorem key_i64 (hk : P.underlying k = some (.int .i64)) {x : Int} (hx : wI x) : keyOf P k (encInt x) = some (.int .i64 x) := by
  have h : (Lit.int .i64 x).wf = true := hx
  simp [keyOf, hk, mapKey, encInt, h]
theorem zip_get {α γ δ : Type} {f : α → δ} {g : γ → δ} {L : List α} {M : List γ} (h : L.map f = M.map g) {x : α} (hx : x ∈ L) : ∃ y ∈ M, f x = g y := by
  have h1 : f x ∈ L.map f := List.mem_map.2 ⟨x, hx, rfl⟩
  rw [h] at h1
  obtain ⟨y, hy, e⟩ := List.mem_map.1 h1
  exact ⟨y, hy, e.symm⟩
/-- A map of the small logic as the kit's. -/
theorem ownsOf (hS : Sat w0 S w) [Pull S b (mapC encInt ve l) F] (hk : P.underlying k = some (.int .i64)) (hok : ∀ x ∈ mkeys l, wI x) (hl : l.length ≤ maxLen) :
    ∃ D0 : DataW Unit, w.ownsMap P k anyR b l.length D0 ∧ (intKeys D0).Perm (mkeys l) ∧ Maps.size D0 = l.length := by
  obtain ⟨es, clk, hb, hes, hst, hnd, -⟩ := Sat.map (enc := encInt) (ve := ve) (l := l) (b := b) hS
  have hlen : es.toList.length = l.length := length_of_map hes
  have hkey : es.toList.map (fun e => e.key) = (mkeys l).map encInt := by
    have h := congrArg (List.map Prod.fst) hes
    rw [List.map_map, List.map_map] at h
    unfold mkeys
    rw [List.map_map]
    exact h
  have hrd : ∀ x ∈ es.toList, ∃ n : Int, x.key = encInt n ∧ WideElems.rd P k anyR x = some (.int .i64 n, .nil) := fun x hx => by
    obtain ⟨n, hn, e⟩ := zip_get hkey hx
    refine ⟨n, e, ?_⟩
    unfold WideElems.rd
    rw [e, key_i64 hk (hok n hn)]
    rfl
  refine ⟨.map ((es.toList.map (WideElems.rg P k anyR)).foldr DataW.insert []), ⟨es, clk, hb, ⟨by rw [← Array.length_toList, hlen]; exact hl, ⟨hst.1, hst.2, ?_⟩, fun x hx => ?_⟩, by rw [← Array.length_toList, hlen]; exact Nat.le_refl _, rfl⟩, ?_, ?_⟩
  · rw [hkey]
    exact List.pairwise_map.2 (hnd.imp fun {a b} h e => h (by unfold encInt at e; cases e; rfl))
  · obtain ⟨n, -, h⟩ := hrd x hx
    exact ⟨_, h⟩
  · show (((es.toList.map (WideElems.rg P k anyR)).foldr DataW.insert []).map fun p => Go.intOf p.1).Perm (mkeys l)
    refine ((foldr_perm _).map _).trans ?_
    rw [List.map_map]
    have e : es.toList.map ((fun p : Lit × DataW Unit => Go.intOf p.1) ∘ WideElems.rg P k anyR) = mkeys l := by
      have h1 : es.toList.map ((fun p : Lit × DataW Unit => Go.intOf p.1) ∘ WideElems.rg P k anyR) = (es.toList.map fun e => e.key).map fun v => match v with
        | .int _ n => n
        | _ => 0 := by
        rw [List.map_map]
        refine List.map_congr_left fun x hx => ?_
        obtain ⟨n, e1, e2⟩ := hrd x hx
        simp only [Function.comp, WideElems.rg_of e2, e1, Go.intOf, encInt]
      rw [h1, hkey, List.map_map]
      refine (List.map_congr_left (g := id) fun x _ => rfl).trans (List.map_id _)
    rw [e]
  · show ((es.toList.map (WideElems.rg P k anyR)).foldr DataW.insert []).length = l.length
    rw [(foldr_perm _).length_eq, List.length_map, hlen]
/-- What a callee of the kit's leaves: a row of numbers of its own. -/
theorem Sat.ofRow {w' : World} {t : TypeId} {v : Value} {L : List Int} (hS : Sat w0 S w) (hb : Below w.heap.size w w') (hr : w'.ownsRow w.heap.size t 1 v L.length (L.map encZ)) : Sat w0 ((blk v, sl 1 i64 L t v) :: S) w' := by
  refine hS.frame (T := [(blk v, sl 1 i64 L t v)]) ⟨hb, ?_⟩
  rcases hr.2 with ⟨rfl, hn⟩ | ⟨g, cap, cur, rfl, hg, hcur, h1, h2, h3, h4⟩
  · refine ⟨fun _ => none, own w.heap.size w', fun _ => .inl rfl, (fun k o e => by simp at e), le_refl _, .inl ⟨rfl, List.eq_nil_of_length_eq_zero hn⟩, trivial⟩
  · refine ⟨own w.heap.size w', fun _ => none, fun _ => .inr rfl, le_refl _, (fun k o e => by simp at e), .inr ⟨cap, rfl, cur, ?_, h3, h1, h2, ?_, fun _ _ => rfl⟩, trivial⟩
    · show own w.heap.size w' g = _
      unfold own
      rw [if_neg (by omega)]
      exact hcur
    · rw [h4]
      clear h4 hr hcur h1
      induction L with
      | nil => rfl
      | cons x L ih => simp [List.flatMap_cons, one] at ih ⊢; exact ih
end
end Go.Proofs.Ytlkoclalcfeniaa.Sl
