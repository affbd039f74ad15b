/-
  Digests as keys of a map; what a log's clash is, in plain words.
-/
import Derived.Test.YteoidocicjlglaaDoorGhA
import Derived.Test.YteoidocicjlglaaDoorSlKey
import Derived.Test.YteoidocicjlglaaDoorShEq
set_option linter.unusedSimpArgs false
set_option linter.unusedVariables false
namespace Go.Proofs.YteoidocicjlglaaDoor
open Go.RowKit Go.Proofs.YteoidocicjlglaaDoor.Sl Go.Proofs.YteoidocicjlglaaDoor.Sha Go.Proofs.YteoidocicjlglaaDoor.Jp

/-- A digest. -/
abbrev Dig := {A : List Int // A.length = 32 ∧ ∀ x ∈ A, okByte x}
def encD (d : Dig) : Value := .agg (d.1.map u8v).toArray
theorem encD_inj (x y : Dig) (h : encD x = encD y) : x = y := by
  have h1 : (x.1.map u8v).toArray = (y.1.map u8v).toArray := by injection h
  have h2 : x.1.map u8v = y.1.map u8v := by simpa using congrArg Array.toList h1
  refine Subtype.ext ?_
  apply List.ext_getElem (by rw [x.2.1, y.2.1])
  intro i h3 h4
  have h5 := congrArg (fun l => l[i]?) h2
  simpa [h3, h4, u8v] using h5
theorem lits32d (d : Nat) {A : List Int} (hA : A.length = 32) (hb : ∀ x ∈ A, okByte x) : ∃ L, Tryd.prog.keyLits (d + 2) 35 (A.map u8v) = some L := by
  have hin : ∀ i ∈ List.range 32, Tryd.prog.keyLits (d + 1) 5 (((A.map u8v).drop (i * Tryd.prog.cellsOf 5)).take (Tryd.prog.cellsOf 5)) = some [Lit.int .u8 (A.getD i 0)] := fun i hi => by
    have hi' : i < A.length := by rw [hA]; exact List.mem_range.1 hi
    rw [cells1, Nat.mul_one, ← List.map_drop, List.drop_eq_getElem_cons hi', List.map_cons, List.take_succ_cons, List.take_zero]
    have e : A.getD i 0 = A[i] := by simp [hi']
    rw [e]
    unfold Program.keyLits
    rw [Tryd.underlying5]
    simp only [wf8 (hb _ (List.getElem_mem hi')), and_self, if_true]
  unfold Program.keyLits
  rw [Tryd.underlying35]
  simp only [List.length_map, hA, cells32, if_true]
  rw [mapM_some hin]
  exact ⟨_, rfl⟩
theorem keyD (x : Dig) : ∃ l, keyOf Tryd.prog 35 (encD x) = some l := by
  unfold keyOf
  rw [Tryd.underlying35]
  have h1 : Tryd.prog.keyType 35 = true := by kernel_rfl
  have h2 : (encD x).formed Tryd.prog 35 = true := by
    unfold Value.formed encD
    rw [Tryd.underlying35]
    simp [x.2.1, cells32]
  obtain ⟨d, hd⟩ : ∃ d, Tryd.prog.types.size + 1 = d + 2 := ⟨Tryd.prog.types.size - 1, by have : 1 ≤ Tryd.prog.types.size := of_decide_eq_true (by kernel_rfl); omega⟩
  obtain ⟨L, hL⟩ := lits32d d x.2.1 x.2.2
  have h3 : (encD x).cells.toList = x.1.map u8v := by simp [encD, Value.cells]
  rw [h1, h2, hd, h3, hL]
  exact ⟨_, rfl⟩
instance keyEncD : KeyEncW Tryd.prog 35 encD :=
  KeyEncW.of_law (deep_law_gate (by kernel_rfl) (of_decide_eq_true (by kernel_rfl)) (of_decide_eq_true (by kernel_rfl)) (by kernel_rfl) (by kernel_rfl)) keyD encD_inj

section
variable {L : List (List Int × List Int)} {m : List (Dig × Int)} {k : Nat}
/-- Of the first k pairs no two have one digest and two inputs. -/
def NoClash (L : List (List Int × List Int)) (k : Nat) : Prop := ∀ i j x y, i < j → j < k → L[i]? = some x → L[j]? = some y → x.2 = y.2 → x.1 = y.1
/-- The first that has a digest. -/
def FirstOf (L : List (List Int × List Int)) (D : List Int) (i : Nat) : Prop := (∃ x, L[i]? = some x ∧ x.2 = D) ∧ ∀ j, j < i → ∀ z, L[j]? = some z → z.2 ≠ D
/-- The first clash. -/
def ClashAt (L : List (List Int × List Int)) (i j : Nat) (A B : List Int) : Prop := i < j ∧ A ≠ B ∧ NoClash L j ∧ ∃ D, L[i]? = some (A, D) ∧ L[j]? = some (B, D) ∧ ∀ n, n < i → ∀ z, L[n]? = some z → z.2 ≠ D
/-- The map has the first of each digest among the first k. -/
def FirstMap (L : List (List Int × List Int)) (k : Nat) (m : List (Dig × Int)) : Prop :=
  (∀ (d : Dig) v, mget m d = some v → ∃ n : Nat, v = n ∧ n < k ∧ FirstOf L d.1 n) ∧ ∀ d : Dig, mget m d = none → ∀ n, n < k → ∀ z, L[n]? = some z → z.2 ≠ d.1
theorem firstMap_zero : FirstMap L 0 [] := ⟨fun d v h => by simp at h, fun d _ n hn => by omega⟩
theorem noClash_zero : NoClash L 0 := fun i j _ _ _ h => by omega
theorem firstMap_new {x : List Int × List Int} {d : Dig} (h : FirstMap L k m) (hx : L[k]? = some x) (hd : x.2 = d.1) (hn : mget m d = none) : FirstMap L (k + 1) (mput m d k) := by
  refine ⟨fun e v he => ?_, fun e he n hn' z hz => ?_⟩
  · rw [mget_mput] at he
    split at he
    · rename_i e1
      subst e1
      refine ⟨k, (Option.some.inj he).symm, by omega, ⟨x, hx, hd⟩, h.2 e hn⟩
    · obtain ⟨n, h1, h2, h3⟩ := h.1 e v he
      exact ⟨n, h1, by omega, h3⟩
  · rw [mget_mput] at he
    split at he
    · cases he
    · rename_i e1
      by_cases e2 : n < k
      · exact h.2 e he n e2 z hz
      · have e3 : n = k := by omega
        subst e3
        rw [hx] at hz
        cases hz
        intro e4
        exact e1 (Subtype.ext (e4.symm.trans hd))
theorem firstMap_old {x : List Int × List Int} {d : Dig} {v : Int} (h : FirstMap L k m) (hx : L[k]? = some x) (hd : x.2 = d.1) (hn : mget m d = some v) : FirstMap L (k + 1) m := by
  refine ⟨fun e v he => ?_, fun e he n hn' z hz => ?_⟩
  · obtain ⟨n, h1, h2, h3⟩ := h.1 e v he
    exact ⟨n, h1, by omega, h3⟩
  · by_cases e2 : n < k
    · exact h.2 e he n e2 z hz
    · have e3 : n = k := by omega
      subst e3
      rw [hx] at hz
      cases hz
      intro e4
      have e5 : e = d := Subtype.ext (e4.symm.trans hd)
      subst e5
      rw [hn] at he
      cases he
theorem noClash_new {x : List Int × List Int} (h : NoClash L k) (hx : L[k]? = some x) (hn : ∀ n, n < k → ∀ z, L[n]? = some z → z.2 ≠ x.2) : NoClash L (k + 1) := fun i j y z hij hj hy hz e => by
  by_cases e2 : j < k
  · exact h i j y z hij e2 hy hz e
  · have e3 : j = k := by omega
    subst e3
    rw [hx] at hz
    cases hz
    exact absurd e (hn i hij y hy)
theorem noClash_old {x y : List Int × List Int} {i : Nat} (h : NoClash L k) (hx : L[k]? = some x) (hi : i < k) (hy : L[i]? = some y) (hd : y.2 = x.2) (he : y.1 = x.1) : NoClash L (k + 1) := fun i' j z u hij hj hz hu e => by
  by_cases e2 : j < k
  · exact h i' j z u hij e2 hz hu e
  · have e3 : j = k := by omega
    subst e3
    rw [hx] at hu
    cases hu
    rw [← he]
    rcases Nat.lt_trichotomy i' i with h1 | h1 | h1
    · exact h i' i z y h1 hi hz hy (e.trans hd.symm)
    · subst h1; rw [hy] at hz; cases hz; rfl
    · exact (h i i' y z h1 hij hy hz (hd.trans e.symm)).symm
end
end Go.Proofs.YteoidocicjlglaaDoor
