/-
  BaseNil: the given row, the card: for every input the law answers true, and the arguments read as before. Conditions: none but the row's own: sha.rounds starts as the program's text lays it (the card ties it).
-/
import Derived.Test.YtdkimdobcacpfaaDoorBsD
import Derived.Test.YtdkimdobcacpfaaDoorSlDec
import Derived.Test.YtdkimdobcacpfaaDoorShLaid
import Derived.Test.YtdkimdobcacpfaaDoorTie
import Derived.Test.YtdkimdobcacpfaaDoorCards
import Derived.WalkKit
import Derived.ProofKit
import Derived.OpenShut
import Derived.ShutString
import Derived.ChangeOld
import Derived.ChangeSame
import Derived.ChangeVars
import Derived.JoinedOf
import Derived.LaidLaws
import Derived.LaidHandle
import Derived.SevenTiedAt
import Derived.Below
set_option linter.unusedSimpArgs false
set_option linter.unusedVariables false
namespace Go.Proofs.YtdkimdobcacpfaaDoor.BaseNilDone
open Go.ChangeShapes Go.WideShapes Go.ChangeAt Go.RowKit Go.Proofs.YtdkimdobcacpfaaDoor Go.Proofs.YtdkimdobcacpfaaDoor.Sl Go.Proofs.YtdkimdobcacpfaaDoor.Sha Go.Proofs.YtdkimdobcacpfaaDoor.Jp

theorem walk (W : World) (hK : KTab W) {v0 v1 : Value} (h0 : ∃ us, v0 = .agg us.toArray ∧ OkL W [.int .i64, .int .i64, .int .i64, .int .i64, .bool, .int .u32, .int .u64] us) (h1 : ∃ us, v1 = .agg us.toArray ∧ OkL W ([.int .i64, .int .i64, .bool, .int .u32, .int .u64, .int .u32, .int .i64, .bool] ++ List.replicate 32 (.int .u8) ++ List.replicate 32 (.int .u8)) us) :
    Calls Tryd.prog 3 #[v0, v1] W fun e w' => e = .returned (.bool true) ∧ Below W.heap.size W w' := by
  obtain ⟨us, rfl, hu⟩ := h0
  obtain ⟨vs, rfl, hv⟩ := h1
  have h1 : us.toArray.size = 7 := by rw [List.size_toArray]; exact hu.len
  have h2 : vs.toArray.size = 72 := by rw [List.size_toArray, hv.len]; simp
  exact (core hK h1 h2).mono fun e w' h => ⟨h.1, h.2.base⟩
abbrev laidL : List (String × DataW Unit) := [("thimble/sha.rounds", Rows.laid_thimble_sha_rounds)]
theorem own : ownKnob Tryd.prog.godebug = none := by kernel_rfl
theorem laidOut : laidOutB Tryd.prog = true := by kernel_rfl
set_option maxRecDepth 100000 in
theorem laidWorld_met (os : Os) (args : Array Value) : laidMetH Tryd.prog laidL ((laidWorld os).forCall (fun _ _ => 0) ⟨#[], args, []⟩).memory := by
  have hrow : ((laidWorld os).forCall (fun _ _ => 0) ⟨#[], args, []⟩).memory.heap[1]? = some (.cells kArr 153 (0, 0)) := by kernel_rfl
  refine ⟨_, ⟨1, 153, kArr, 8, [], [], gl, glT, by kernel_rfl, by kernel_rfl, rfl, rfl⟩, of_decide_eq_true (by kernel_rfl), fun b off h => ?_⟩
  have hb : b = 1 := by
    rcases List.mem_append.1 h with h | h
    · rcases List.mem_append.1 h with h | h
      · obtain ⟨i, _, hi⟩ := List.mem_map.1 h
        cases hi; rfl
      · cases h
    · cases h
  subst hb
  refine ⟨⟨_, _, hrow⟩, fun u v hc => ?_⟩
  simp only [World.cell?, hrow] at hc
  have hk : ∀ i : Nat, kArr[i]? = (kTab[i]?).map u32v := fun i => by simp [kArr]
  have hc2 : kArr[off]? = some (.iface u v) := by simpa using hc
  rw [hk] at hc2
  obtain ⟨x, _, hx⟩ := Option.map_eq_some_iff.1 hc2
  cases hx
set_option maxRecDepth 100000 in
theorem lifted (os : Os) (started : os.Started) (H : Type) (enc : TypeId × Value → H) :
    ReturnsInHanded {} Tryd.checked os 3 .any (fun w args => (Rows.baseNilSpec.pre enc Tryd.prog Tryd.f3 [] false w args ∧ laidMetH Tryd.prog laidL w) ∧ sizedMet enc Tryd.prog Tryd.f3 (OpenSpec.ofChange Rows.baseNilSpec) false w args)
      (Rows.baseNilSpec.post enc Tryd.prog Tryd.f3 false true false false) := by
  refine returnsInHanded_of_change_and (C := Tryd.checked) (X := fun w _ => laidMetH Tryd.prog laidL w) (fun _ _ _ hh h => h.of_heap hh) own started (by kernel_rfl) Tryd.func3
    (ChangeSpec.witness_at (enc := enc) (C := Tryd.checked) (os := os) (X := fun w _ => laidMetH Tryd.prog laidL w) false (laidWorld os) #[.agg #[.int .i64 0, .int .i64 0, .int .i64 0, .int .i64 0, .bool false, .int .u32 0, .int .u64 0], .agg (#[.int .i64 0, .int .i64 0, .bool false, .int .u32 0, .int .u64 0, .int .u32 0, .int .i64 0, .bool false] ++ Array.replicate 64 (.int .u8 0))] 8 rfl (by kernel_rfl) (by kernel_rfl) (by kernel_rfl) (by kernel_rfl) (by kernel_rfl) (laidWorld_met os _)) ?_
  intro W base args ds gs before hval0 hW _ hwt hL _
  have hval : ∀ (j : Nat) t v, Tryd.f3.params[j]? = some t → args[j]? = some v → Value.okWide Tryd.prog W .any base t v := hval0
  have hW' := hW
  obtain ⟨p, q, hA0, hV, rfl, hfz, hnd⟩ := hW
  have hA : DataW.TrodAll enc Tryd.prog W 0 (fun _ => true) true Tryd.f3.params.toList args.toList ds p := hA0
  rw [Tryd.params3] at hA hval
  obtain ⟨v0, vs0, d0, ds0, p0, q0, hargs, rfl, rfl, h0, r0⟩ := trodAll_cons hA
  obtain ⟨v1, vs1, d1, ds1, p1, q1, rfl, rfl, rfl, h1, r1⟩ := trodAll_cons r0
  obtain ⟨rfl, rfl, rfl⟩ := trodAll_nil r1
  obtain rfl : args = #[v0, v1] := by cases args; simp_all
  obtain ⟨rfl, rfl⟩ := trodVars_none hV
  have k0 := h0
  have lt0 : ∀ x ∈ p0, x.block < W.heap.size := by obtain ⟨m, hm⟩ := k0; exact DataW.trod_lt m _ _ _ hm
  have k1 := h1
  have lt1 : ∀ x ∈ p1, x.block < W.heap.size := by obtain ⟨m, hm⟩ := k1; exact DataW.trod_lt m _ _ _ hm
  have Wk := walk W (ktab_of_laid hL) (argAgg (n := 8) (by kernel_rfl) (by kernel_rfl) (hval 0 25 v0 rfl rfl) h0) (argAgg (n := 8) (by kernel_rfl) (by kernel_rfl) (hval 1 28 v1 rfl rfl) h1)
  clear hA0 hval0
  refine Wk.mono fun e W' ⟨he, bel⟩ => ?_
  subst he
  exact ⟨_, rfl, _, _, _, [], _, [], hW', trodAll_mk1 (shut_bool Tryd.underlying4 _), (trodAll_cons_mk (Below.trod laidOut (by kernel_rfl) (of_decide_eq_true (by kernel_rfl)) k0 bel lt0) (trodAll_cons_mk (Below.trod laidOut (by kernel_rfl) (of_decide_eq_true (by kernel_rfl)) k1 bel lt1) trodAll_mk0)), rfl, bel.frame _, fun h => by cases h⟩

theorem over : Rows.BaseNilSaid :=
  OpenClaim.holds_of_wide 3 Tryd.f3 rfl rfl rfl rfl rfl rfl rfl ⟨rfl, rfl, rfl, rfl, rfl⟩ rfl rfl rfl rfl rfl (by kernel_rfl) Tryd.func3 (by kernel_rfl)
    (of_decide_eq_true (by kernel_rfl)) (by unfold Func.isWrapper; first | (rw [if_pos (by decide +kernel)]; kernel_rfl) | (rw [if_neg (by decide +kernel)]; exact ⟨rfl, rfl⟩))
    (fun os started H enc _ => lifted os started H enc)

/-- The statement: the card. -/
theorem proved : Rows.BaseNilCardSaid :=
  Claim7.holds_tied_plain_at .later [] [.data] true (true, "bd29a54d970b80430fe1aa8952bd209bccfd7de9b3f93e9731a196a338ac3778") true
    over (fun _ h => by cases h) (by kernel_rfl) (fun _ h => by cases h) baseNil_row_tie rfl ⟨rfl, rfl⟩ (by kernel_rfl) rfl
    (fun f fn hf hfn => by
      obtain rfl : f = 3 := Option.some.inj ((show Tryd.prog.funcNamed "thimble/thimblelaw22.BaseNil" = some 3 by kernel_rfl).symm.trans hf) |>.symm
      obtain rfl : fn = Tryd.f3 := (Option.some.inj (Tryd.func3.symm.trans hfn)).symm
      exact ⟨by kernel_rfl, fun j t ht => by
        rw [Tryd.params3] at ht
        rcases j with _ | _ | j
        · have h4 : t = 25 := by simpa using ht.symm
          subst h4
          exact (show Tryd.prog.wantsStandIn 25 = false by kernel_rfl)
        · have h4 : t = 28 := by simpa using ht.symm
          subst h4
          exact (show Tryd.prog.wantsStandIn 28 = false by kernel_rfl)
        · simp at ht⟩)
    (by kernel_rfl)

end Go.Proofs.YtdkimdobcacpfaaDoor.BaseNilDone
