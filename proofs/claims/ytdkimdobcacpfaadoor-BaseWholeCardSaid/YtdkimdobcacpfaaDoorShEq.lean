/-
  Digests held against each other: '==' of two arrays of 32 bytes.
-/
import Derived.Test.YtdkimdobcacpfaaDoorShA
import Derived.DeepKeys
set_option linter.unusedSimpArgs false
set_option linter.unusedVariables false
namespace Go.Proofs.YtdkimdobcacpfaaDoor
open Go.RowKit Go.Proofs.YtdkimdobcacpfaaDoor.Sl Go.Proofs.YtdkimdobcacpfaaDoor.Sha Go.Proofs.YtdkimdobcacpfaaDoor.Jp

theorem mapM_some {α β : Type} {f : α → Option β} {g : α → β} : ∀ {l : List α},(∀ x ∈ l,f x = some (g x)) → l.mapM f = some (l.map g)
  | [],_ => by simp
  | a::l,h => by
    rw [List.mapM_cons,h a (by simp),mapM_some fun x hx => h x (by simp [hx])]
    rfl
theorem flat1 {α β : Type} (f : α → β) : ∀ l : List α,(l.map fun x => [f x]).flatten = l.map f
  | [] => rfl
  | a::l => by rw [List.map_cons,List.flatten_cons,flat1 f l];rfl
theorem cells32 : Tryd.prog.cellsOf 26 = 32 := by kernel_rfl
theorem cells1 : Tryd.prog.cellsOf 5 = 1 := by kernel_rfl
theorem wf8 {n : Int} (h : okByte n) : (Lit.int .u8 n).wf = true := by
  obtain ⟨h1,h2⟩ := h
  have h3 : IntKind.u8.min ≤ n := h1
  have h4 : n ≤ IntKind.u8.max := by show n ≤ 255;omega
  show (decide (IntKind.u8.min ≤ n) && decide (n ≤ IntKind.u8.max)) = true
  simp [h3,h4]
theorem lits32 {A : List Int} (hA : A.length = 32) (hb : ∀ x ∈ A,okByte x) : Tryd.prog.keyLits 3 26 (A.map u8v) = some ((List.range 32).map fun i => Lit.int .u8 (A.getD i 0)) := by
  have hin : ∀ i ∈ List.range 32,Tryd.prog.keyLits 2 5 (((A.map u8v).drop (i * Tryd.prog.cellsOf 5)).take (Tryd.prog.cellsOf 5)) = some [Lit.int .u8 (A.getD i 0)] := fun i hi => by
    have hi' : i < A.length := by rw [hA];exact List.mem_range.1 hi
    rw [cells1,Nat.mul_one,← List.map_drop,List.drop_eq_getElem_cons hi',List.map_cons,List.take_succ_cons,List.take_zero]
    have e : A.getD i 0 = A[i] := by simp [hi']
    rw [e]
    unfold Program.keyLits
    rw [Tryd.underlying5]
    simp only [wf8 (hb _ (List.getElem_mem hi')),and_self,if_true]
  unfold Program.keyLits
  rw [Tryd.underlying26]
  simp only [List.length_map,hA,cells32,if_true]
  rw [mapM_some hin]
  exact congrArg some (flat1 _ _)
set_option maxRecDepth 100000 in
theorem eq32 {A B : List Int} (hA : A.length = 32) (hB : B.length = 32) (ha : ∀ x ∈ A,okByte x) (hb : ∀ x ∈ B,okByte x) (w : World) :
    (Op.equalIn 10000 26 (.agg (A.map u8v).toArray) (.agg (B.map u8v).toArray)).run Tryd.prog w = .ok (decide (A = B)) w := by
  have hf : ∀ {L : List Int},L.length = 32 → (Value.agg (L.map u8v).toArray).formed Tryd.prog 26 = true := fun {L} h => by
    unfold Value.formed
    rw [Tryd.underlying26]
    simp [h,cells32]
  obtain ⟨r,hr,hiff⟩ := run_equalIn_deep (P := Tryd.prog) 9997 3 26 (by kernel_rfl) w 3 3 (.agg (A.map u8v).toArray) (.agg (B.map u8v).toArray) _ _ (hf hA) (hf hB) (lits32 hA ha) (lits32 hB hb)
  rw [hr]
  congr 1
  rw [Bool.eq_iff_iff,hiff,decide_eq_true_eq]
  refine ⟨fun h => ?_,fun h => by rw [h]⟩
  apply List.ext_getElem (by rw [hA,hB])
  intro i h1 h2
  have h3 := congrArg (fun l => l[i]?) h
  simp [hA ▸ h1] at h3
  simpa [h1,h2] using h3
end Go.Proofs.YtdkimdobcacpfaaDoor
