/-
  Tuples in memory; nonces held against each other; names (an epoch, a nonce) as keys of a map.
-/
import Derived.Test.YteoidocicjlglaaDoorGhL
import Derived.Test.YteoidocicjlglaaDoorGhC
set_option linter.unusedSimpArgs false
set_option linter.unusedVariables false
namespace Go.Proofs.YteoidocicjlglaaDoor
open Go.RowKit Go.Proofs.YteoidocicjlglaaDoor.Sl Go.Proofs.YteoidocicjlglaaDoor.Sha Go.Proofs.YteoidocicjlglaaDoor.Jp

theorem cells12 : Tryd.prog.cellsOf 44 = 12 := by kernel_rfl
theorem cellsU32 : Tryd.prog.cellsOf 43 = 1 := by kernel_rfl
theorem cellsNm : Tryd.prog.cellsOf 76 = 13 := by kernel_rfl
theorem lits12 (d : Nat) {A : List Int} (hA : A.length = 12) (hb : ∀ x ∈ A, okByte x) : Tryd.prog.keyLits (d + 2) 44 (A.map u8v) = some ((List.range 12).map fun i => Lit.int .u8 (A.getD i 0)) := by
  have hin : ∀ i ∈ List.range 12, Tryd.prog.keyLits (d + 1) 5 (((A.map u8v).drop (i * Tryd.prog.cellsOf 5)).take (Tryd.prog.cellsOf 5)) = some [Lit.int .u8 (A.getD i 0)] := fun i hi => by
    have hi' : i < A.length := by rw [hA]; exact List.mem_range.1 hi
    rw [cells1, Nat.mul_one, ← List.map_drop, List.drop_eq_getElem_cons hi', List.map_cons, List.take_succ_cons, List.take_zero]
    have e : A.getD i 0 = A[i] := by simp [hi']
    rw [e]
    unfold Program.keyLits
    rw [Tryd.underlying5]
    simp only [wf8 (hb _ (List.getElem_mem hi')), and_self, if_true]
  unfold Program.keyLits
  rw [Tryd.underlying44]
  simp only [List.length_map, hA, cells12, if_true]
  rw [mapM_some hin]
  exact congrArg some (flat1 _ _)
theorem formed12 {L : List Int} (h : L.length = 12) : (Value.agg (L.map u8v).toArray).formed Tryd.prog 44 = true := by
  unfold Value.formed
  rw [Tryd.underlying44]
  simp [h, cells12]
set_option maxRecDepth 100000 in
theorem eq12 {A B : List Int} (hA : A.length = 12) (hB : B.length = 12) (ha : ∀ x ∈ A, okByte x) (hb : ∀ x ∈ B, okByte x) (w : World) :
    (Op.equalIn 10000 44 (.agg (A.map u8v).toArray) (.agg (B.map u8v).toArray)).run Tryd.prog w = .ok (decide (A = B)) w := by
  obtain ⟨r, hr, hiff⟩ := run_equalIn_deep (P := Tryd.prog) 9997 3 44 (by kernel_rfl) w 3 3 (.agg (A.map u8v).toArray) (.agg (B.map u8v).toArray) _ _ (formed12 hA) (formed12 hB) (lits12 1 hA ha) (lits12 1 hB hb)
  rw [hr]
  congr 1
  rw [Bool.eq_iff_iff, hiff, decide_eq_true_eq]
  refine ⟨fun h => ?_, fun h => by rw [h]⟩
  apply List.ext_getElem (by rw [hA, hB])
  intro i h1 h2
  have h3 := congrArg (fun l => l[i]?) h
  simp [hA ▸ h1] at h3
  simpa [h1, h2] using h3

/-- A name. -/
abbrev Nm := {x : Int × List Int // (0 ≤ x.1 ∧ x.1 < 4294967296) ∧ x.2.length = 12 ∧ ∀ b ∈ x.2, okByte b}
def encN (d : Nm) : Value := .agg (.int .u32 d.1.1 :: d.1.2.map u8v).toArray
theorem encN_inj (x y : Nm) (h : encN x = encN y) : x = y := by
  have h1 : (.int .u32 x.1.1 :: x.1.2.map u8v : List Value).toArray = (.int .u32 y.1.1 :: y.1.2.map u8v).toArray := by injection h
  have h2 : (.int .u32 x.1.1 :: x.1.2.map u8v : List Value) = .int .u32 y.1.1 :: y.1.2.map u8v := by simpa using congrArg Array.toList h1
  obtain ⟨h3, h4⟩ := List.cons.inj h2
  refine Subtype.ext (Prod.ext ?_ ?_)
  · injection h3
  · apply List.ext_getElem (by rw [x.2.2.1, y.2.2.1])
    intro i h5 h6
    have h7 := congrArg (fun l => l[i]?) h4
    simpa [h5, h6, u8v] using h7
theorem wf32 {n : Int} (h : 0 ≤ n ∧ n < 4294967296) : (Lit.int .u32 n).wf = true := by
  obtain ⟨h1, h2⟩ := h
  have h3 : IntKind.u32.min ≤ n := h1
  have h4 : n ≤ IntKind.u32.max := by show n ≤ 4294967295; omega
  show (decide (IntKind.u32.min ≤ n) && decide (n ≤ IntKind.u32.max)) = true
  simp [h3, h4]
theorem litsN (d : Nat) (x : Nm) : ∃ L, Tryd.prog.keyLits (d + 3) 76 (.int .u32 x.1.1 :: x.1.2.map u8v) = some L := by
  have h1 : Tryd.prog.keyLits (d + 2) 43 [.int .u32 x.1.1] = some [.int .u32 x.1.1] := by
    unfold Program.keyLits
    rw [Tryd.underlying43]
    simp only [wf32 x.2.1, and_self, if_true]
  have h2 := lits12 d x.2.2.1 x.2.2.2
  have h3 : ((x.1.2.map u8v).take 12) = x.1.2.map u8v := List.take_of_length_le (by rw [List.length_map, x.2.2.1]; exact Nat.le_refl _)
  unfold Program.keyLits
  rw [Tryd.underlying76]
  simp [x.2.2.1, cellsNm, cellsU32, cells12, h1, h2, h3]
theorem keyN (x : Nm) : ∃ l, keyOf Tryd.prog 76 (encN x) = some l := by
  unfold keyOf
  rw [Tryd.underlying76]
  have h1 : Tryd.prog.keyType 76 = true := by kernel_rfl
  have h2 : (encN x).formed Tryd.prog 76 = true := by
    unfold Value.formed encN
    rw [Tryd.underlying76]
    simp [x.2.2.1, cellsNm]
  obtain ⟨d, hd⟩ : ∃ d, Tryd.prog.types.size + 1 = d + 3 := ⟨Tryd.prog.types.size - 2, by have : 2 ≤ Tryd.prog.types.size := of_decide_eq_true (by kernel_rfl); omega⟩
  obtain ⟨L, hL⟩ := litsN d x
  have h3 : (encN x).cells.toList = .int .u32 x.1.1 :: x.1.2.map u8v := by simp [encN, Value.cells]
  rw [h1, h2, hd, h3, hL]
  exact ⟨_, rfl⟩
instance keyEncN : KeyEncW Tryd.prog 76 encN :=
  KeyEncW.of_law (deep_law_gate (by kernel_rfl) (of_decide_eq_true (by kernel_rfl)) (of_decide_eq_true (by kernel_rfl)) (by kernel_rfl) (by kernel_rfl)) keyN encN_inj

/-- A tuple in memory: its two slices, and what it is. -/
abbrev TupV := Value × Value × Tup
def tupF (x : TupV) : List Value := .int .u32 x.2.2.1 :: (x.2.2.2.1.map u8v ++ [x.1, x.2.1])
theorem tupF_len {x : TupV} (h : x.2.2.2.1.length = 12) : (tupF x).length = 15 := by simp [tupF, h]
/-- What can be read of it. -/
structure TupIn (x : TupV) (c : List Value) : Prop where
  len : c.length = 15
  ep : c[0]? = some (.int .u32 x.2.2.1)
  non : (c.drop 1).take 12 = x.2.2.2.1.map u8v
  aad : c[13]? = some x.1
  sea : c[14]? = some x.2.1
theorem tupIn {x : TupV} (h : x.2.2.2.1.length = 12) : TupIn x (tupF x) where
  len := tupF_len h
  ep := rfl
  non := by simp [tupF, h]
  aad := by
    show (_ :: (x.2.2.2.1.map u8v ++ [x.1, x.2.1]))[13]? = _
    rw [List.getElem?_cons_succ, List.getElem?_append_right (by rw [List.length_map]; omega), List.length_map, h]
    rfl
  sea := by
    show (_ :: (x.2.2.2.1.map u8v ++ [x.1, x.2.1]))[14]? = _
    rw [List.getElem?_cons_succ, List.getElem?_append_right (by rw [List.length_map]; omega), List.length_map, h]
    rfl
theorem tupF_cell {x : TupV} (h1 : x.1.oneCell' = true) (h2 : x.2.1.oneCell' = true) : ∀ u ∈ tupF x, u.oneCell' = true := fun u hu => by
  unfold tupF at hu
  rcases List.mem_cons.1 hu with rfl | hu
  · rfl
  rcases List.mem_append.1 hu with hu | hu
  · obtain ⟨y, _, rfl⟩ := List.mem_map.1 hu
    rfl
  · rcases List.mem_cons.1 hu with rfl | hu
    · exact h1
    · rw [List.mem_singleton.1 hu]; exact h2
/-- Its two slices are put anew. -/
theorem tupF_set {x : TupV} {a s : Value} (h : x.2.2.2.1.length = 12) : ((tupF x).toArray.setIfInBounds 13 a).setIfInBounds 14 s = (tupF (a, s, x.2.2)).toArray := by
  obtain ⟨v, u, e, n, r⟩ := x
  match n, h with
  | [n0, n1, n2, n3, n4, n5, n6, n7, n8, n9, n10, n11], _ => rfl
abbrev rowsT (Y : List TupV) : List (Value × List Int) := Y.flatMap fun x => [(x.1, x.2.2.2.2.1), (x.2.1, x.2.2.2.2.2)]
end Go.Proofs.YteoidocicjlglaaDoor
