/-
  The table of sha: what a row that lists it says of the world.
-/
import Derived.Test.YtdkimdobcacpfaaDoorShaO
import Derived.Test.YtdkimdobcacpfaaDoorRows
import Derived.ChangeVars
import Derived.OpenShut
import Derived.ChangeArms
import Derived.LaidLaws
import Derived.RowKit
set_option linter.unusedSimpArgs false
set_option linter.unusedVariables false
namespace Go.Proofs.YtdkimdobcacpfaaDoor
open Go.RowKit Go.Proofs.YtdkimdobcacpfaaDoor.Sl Go.Proofs.YtdkimdobcacpfaaDoor.Sha

theorem gl : Tryd.prog.globalNamed "thimble/sha.rounds" = some 1 := by kernel_rfl
theorem glT : (Tryd.prog.globals[1]?).map (·.type) = some 153 := by kernel_rfl
theorem gl1 : Tryd.prog.cellsOf 22 = 1 := by kernel_rfl
theorem laid_is : (Rows.laid_thimble_sha_rounds : DataW Unit) = .agg (kTab.map fun k => .lit (.int .u32 k)) := rfl
theorem ktab_of_laid {W : World} (h : laidMetH Tryd.prog [("thimble/sha.rounds",Rows.laid_thimble_sha_rounds)] W) : KTab W := by
  have h' : laidMet Tryd.prog [("thimble/sha.rounds",Rows.laid_thimble_sha_rounds)] W := h
  obtain ⟨ps,⟨g,t,cs,fuel,p,q,hg,ht,hvar,hd,_,_⟩,_⟩ := h'
  obtain rfl := Option.some.inj (gl.symm.trans hg)
  obtain rfl := Option.some.inj (glT.symm.trans ht)
  obtain ⟨xs,m,_,hx,hl,hxl,hi⟩ := DataW.trod_array Tryd.underlying153 hd
  rw [laid_is] at hx
  have hmap : (kTab.map fun k => (DataW.lit (.int .u32 k) : DataW Unit)) = xs.map (·.1) := by
    have h1 := congrArg Prod.fst hx
    simpa using h1
  have hcell : ∀ i x,kTab[i]? = some x → cs[i]? = some (u32v x) := fun i x hk => by
    have hi64 : i < 64 := (List.getElem?_eq_some_iff.1 hk).1
    have h1 := hi i hi64
    obtain ⟨y,hy⟩ : ∃ y,xs[i]? = some y := ⟨_,List.getElem?_eq_getElem (by omega)⟩
    rw [hy,gl1,Nat.mul_one] at h1
    obtain ⟨n,h2,h3,_⟩ := DataW.trod_int Tryd.underlying22 h1
    have h4 := congrArg (fun l => l[i]?) hmap
    simp only [List.getElem?_map,hk,hy,Option.map_some,h3] at h4
    have h5 : x = n := by simpa using h4
    have h6 := congrArg (fun l => l[0]?) h2
    simp only [List.getElem?_take,List.getElem?_drop] at h6
    rw [h5,← Array.getElem?_toList]
    simpa using h6
  have hc : ∀ i x,kTab[i]? = some x → W.cell? ⟨1,i,none⟩ = some (u32v x) := fun i x hk => (World.var?_cell gl hvar i).trans (hcell i x hk)
  refine ⟨?_,fun i x hk => ⟨trivial,rfl,fun j u hu => ?_⟩⟩
  · have h0 := hc 0 0x428a2f98 rfl
    rcases Nat.lt_or_ge 1 W.heap.size with h | h
    · exact h
    · have hb : W.heap[1]? = none := Array.getElem?_eq_none h
      simp [World.cell?,hb] at h0
  · cases j with
    | zero =>
      have : u = u32v x := by simpa [one] using hu.symm
      rw [this,Nat.zero_add,Nat.mul_one,Nat.add_zero]
      exact hc i x hk
    | succ j => simp [one] at hu
/-- A world in which the table stands. -/
noncomputable def laidWorld (os : Os) : World :=
  { World.holding Tryd.prog os ⟨#[],#[],[]⟩ with heap := (World.holding Tryd.prog os ⟨#[],#[],[]⟩).heap.modify 1 fun
      | .cells _ t frozen => .cells kArr t frozen
      | o => o }
end Go.Proofs.YtdkimdobcacpfaaDoor
