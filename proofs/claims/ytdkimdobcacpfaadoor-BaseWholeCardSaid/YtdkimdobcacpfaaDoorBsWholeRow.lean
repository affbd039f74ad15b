/-
  BaseWhole: the given row, the card: for every input the law answers true, and the arguments read as before. Conditions: none but the row's own: sha.rounds starts as the program's text lays it (the card ties it).
-/
import Derived.Test.YtdkimdobcacpfaaDoorBsWh
import Derived.Test.YtdkimdobcacpfaaDoorSlDec
import Derived.Test.YtdkimdobcacpfaaDoorShLaid
import Derived.Test.YtdkimdobcacpfaaDoorTie
import Derived.Test.YtdkimdobcacpfaaDoorCards
import Derived.WalkKit
import Derived.ProofKit
import Derived.OpenShut
import Derived.ShutString
import Derived.ChangeOld
import Derived.ChangeSame
import Derived.ChangeVars
import Derived.JoinedOf
import Derived.LaidLaws
import Derived.LaidHandle
import Derived.SevenTiedAt
import Derived.Below
set_option linter.unusedSimpArgs false
set_option linter.unusedVariables false
namespace Go.Proofs.YtdkimdobcacpfaaDoor.BaseWholeDone
open Go.ChangeShapes Go.WideShapes Go.ChangeAt Go.RowKit Go.Proofs.YtdkimdobcacpfaaDoor Go.Proofs.YtdkimdobcacpfaaDoor.Sl Go.Proofs.YtdkimdobcacpfaaDoor.Sha Go.Proofs.YtdkimdobcacpfaaDoor.Jp

theorem dec64 {w : World} {us : List Value} (h : OkL w [.int .i64] us) : ∃ x : Int,i64 x = us ∧ True := by
  match us,h with
  | [a],⟨ha,_⟩ =>
    cases ha with
    | int _ n hn => exact ⟨n,rfl,trivial⟩
theorem decInts {w : World} {v : Value} (h : OkL w [.sl [.int .i64]] [v]) : ∃ A,RI w A v := toBSl (f := i64) (g := fun _ => True) h.1 (by decide) fun _ hu => dec64 hu
theorem top64 {n : Int} (hn : (Lit.int .i64 n).wf = true) : n ≤ 9223372036854775807 := by
  simp [Lit.wf,IntKind.min,IntKind.max,IntKind.bits,IntKind.signed] at hn
  omega
theorem decCut {w : World} {us : List Value} (h : OkL w [.int .i64,.sl [.int .i64]] us) : ∃ x : CutV,cutF x = us ∧ (CutIn w x ∧ x.1 ≤ 9223372036854775807) := by
  match us,h with
  | [a,b],⟨ha,hb,_⟩ =>
    obtain ⟨F,hF⟩ := decInts (w := w) (v := b) ⟨hb,trivial⟩
    cases ha with
    | int _ n hn => exact ⟨(n,b,F),rfl,hF,top64 hn⟩
theorem walk (W : World) (hK : KTab W) {v0 v1 v2 v3 v4 : Value} (h0 : OkL W [.int .i64] [v0]) (h1 : OkL W [.sl [.int .u8]] [v1]) (h2 : OkL W [.sl [.sl [.int .u8]]] [v2]) (h3 : ∃ us,v3 = .agg us.toArray ∧ OkL W [.int .i64,.sl [.int .i64]] us) (h4 : OkL W [.sl [.int .i64,.sl [.int .i64]]] [v4]) :
    Calls Tryd.prog 4 #[v0,v1,v2,v3,v4] W fun e w' => e = .returned (.bool true) ∧ Below W.heap.size W w' := by
  obtain ⟨n,rfl,-⟩ := decInt h0
  obtain ⟨A,hA⟩ := decBytes h1
  obtain ⟨X,hX⟩ := decRows h2
  obtain ⟨us,rfl,hu⟩ := h3
  obtain ⟨⟨a,vf,F⟩,rfl,hF,ha⟩ := decCut hu
  obtain ⟨C,hC⟩ := toBSl (f := cutF) (g := fun x => CutIn W x ∧ x.1 ≤ 9223372036854775807) h4.1 (by decide) fun _ hu => decCut hu
  exact (core n a ha hA hX hF (hC.mono (Below.refl _ _) fun _ _ h => h.1) (fun x hx => (hC.all x hx).2) hK).mono fun e w' h => ⟨h.1,h.2.base⟩
abbrev laidL : List (String × DataW Unit) := [("thimble/sha.rounds",Rows.laid_thimble_sha_rounds)]
theorem own : ownKnob Tryd.prog.godebug = none := by kernel_rfl
theorem laidOut : laidOutB Tryd.prog = true := by kernel_rfl
set_option maxRecDepth 100000 in
theorem laidWorld_met (os : Os) (args : Array Value) : laidMetH Tryd.prog laidL ((laidWorld os).forCall (fun _ _ => 0) ⟨#[],args,[]⟩).memory := by
  have hrow : ((laidWorld os).forCall (fun _ _ => 0) ⟨#[],args,[]⟩).memory.heap[1]? = some (.cells kArr 153 (0,0)) := by kernel_rfl
  refine ⟨_,⟨1,153,kArr,8,[],[],gl,glT,by kernel_rfl,by kernel_rfl,rfl,rfl⟩,of_decide_eq_true (by kernel_rfl),fun b off h => ?_⟩
  have hb : b = 1 := by
    rcases List.mem_append.1 h with h | h
    · rcases List.mem_append.1 h with h | h
      · obtain ⟨i,_,hi⟩ := List.mem_map.1 h
        cases hi;rfl
      · cases h
    · cases h
  subst hb
  refine ⟨⟨_,_,hrow⟩,fun u v hc => ?_⟩
  simp only [World.cell?,hrow] at hc
  have hk : ∀ i : Nat,kArr[i]? = (kTab[i]?).map u32v := fun i => by simp [kArr]
  have hc2 : kArr[off]? = some (.iface u v) := by simpa using hc
  rw [hk] at hc2
  obtain ⟨x,_,hx⟩ := Option.map_eq_some_iff.1 hc2
  cases hx
set_option maxRecDepth 100000 in
theorem lifted (os : Os) (started : os.Started) (H : Type) (enc : TypeId × Value → H) :
    ReturnsInHanded {} Tryd.checked os 4 .any (fun w args => (Rows.baseWholeSpec.pre enc Tryd.prog Tryd.f4 [] false w args ∧ laidMetH Tryd.prog laidL w) ∧ sizedMet enc Tryd.prog Tryd.f4 (OpenSpec.ofChange Rows.baseWholeSpec) false w args)
      (Rows.baseWholeSpec.post enc Tryd.prog Tryd.f4 false true false false) := by
  refine returnsInHanded_of_change_and (C := Tryd.checked) (X := fun w _ => laidMetH Tryd.prog laidL w) (fun _ _ _ hh h => h.of_heap hh) own started (by kernel_rfl) Tryd.func4
    (ChangeSpec.witness_at (enc := enc) (C := Tryd.checked) (os := os) (X := fun w _ => laidMetH Tryd.prog laidL w) false (laidWorld os) #[.int .i64 0,.slice none 0 0,.slice none 0 0,.agg #[.int .i64 0,.slice none 0 0],.slice none 0 0] 8 rfl (by kernel_rfl) (by kernel_rfl) (by kernel_rfl) (by kernel_rfl) (by kernel_rfl) (laidWorld_met os _)) ?_
  intro W base args ds gs before hval0 hW _ hwt hL _
  have hval : ∀ (j : Nat) t v,Tryd.f4.params[j]? = some t → args[j]? = some v → Value.okWide Tryd.prog W .any base t v := hval0
  have hW' := hW
  obtain ⟨p,q,hA0,hV,rfl,hfz,hnd⟩ := hW
  have hA : DataW.TrodAll enc Tryd.prog W 0 (fun _ => true) true Tryd.f4.params.toList args.toList ds p := hA0
  rw [Tryd.params4] at hA hval
  obtain ⟨v0,vs0,d0,ds0,p0,q0,hargs,rfl,rfl,h0,r0⟩ := trodAll_cons hA
  obtain ⟨v1,vs1,d1,ds1,p1,q1,rfl,rfl,rfl,h1,r1⟩ := trodAll_cons r0
  obtain ⟨v2,vs2,d2,ds2,p2,q2,rfl,rfl,rfl,h2,r2⟩ := trodAll_cons r1
  obtain ⟨v3,vs3,d3,ds3,p3,q3,rfl,rfl,rfl,h3,r3⟩ := trodAll_cons r2
  obtain ⟨v4,vs4,d4,ds4,p4,q4,rfl,rfl,rfl,h4,r4⟩ := trodAll_cons r3
  obtain ⟨rfl,rfl,rfl⟩ := trodAll_nil r4
  obtain rfl : args = #[v0,v1,v2,v3,v4] := by cases args;simp_all
  obtain ⟨rfl,rfl⟩ := trodVars_none hV
  have k0 := h0
  have lt0 : ∀ x ∈ p0,x.block < W.heap.size := by obtain ⟨m,hm⟩ := k0;exact DataW.trod_lt m _ _ _ hm
  have k1 := h1
  have lt1 : ∀ x ∈ p1,x.block < W.heap.size := by obtain ⟨m,hm⟩ := k1;exact DataW.trod_lt m _ _ _ hm
  have k2 := h2
  have lt2 : ∀ x ∈ p2,x.block < W.heap.size := by obtain ⟨m,hm⟩ := k2;exact DataW.trod_lt m _ _ _ hm
  have k3 := h3
  have lt3 : ∀ x ∈ p3,x.block < W.heap.size := by obtain ⟨m,hm⟩ := k3;exact DataW.trod_lt m _ _ _ hm
  have k4 := h4
  have lt4 : ∀ x ∈ p4,x.block < W.heap.size := by obtain ⟨m,hm⟩ := k4;exact DataW.trod_lt m _ _ _ hm
  have Wk := walk W (ktab_of_laid hL) (argOne (n := 8) (by kernel_rfl) (by kernel_rfl) (hval 0 3 v0 rfl rfl) h0) (argOne (n := 8) (by kernel_rfl) (by kernel_rfl) (hval 1 48 v1 rfl rfl) h1) (argOne (n := 8) (by kernel_rfl) (by kernel_rfl) (hval 2 53 v2 rfl rfl) h2) (argAgg (n := 8) (by kernel_rfl) (by kernel_rfl) (hval 3 56 v3 rfl rfl) h3) (argOne (n := 8) (by kernel_rfl) (by kernel_rfl) (hval 4 57 v4 rfl rfl) h4)
  clear hA0 hval0
  refine Wk.mono fun e W' ⟨he,bel⟩ => ?_
  subst he
  exact ⟨_,rfl,_,_,_,[],_,[],hW',trodAll_mk1 (shut_bool Tryd.underlying4 _),(trodAll_cons_mk (Below.trod laidOut (by kernel_rfl) (of_decide_eq_true (by kernel_rfl)) k0 bel lt0) (trodAll_cons_mk (Below.trod laidOut (by kernel_rfl) (of_decide_eq_true (by kernel_rfl)) k1 bel lt1) (trodAll_cons_mk (Below.trod laidOut (by kernel_rfl) (of_decide_eq_true (by kernel_rfl)) k2 bel lt2) (trodAll_cons_mk (Below.trod laidOut (by kernel_rfl) (of_decide_eq_true (by kernel_rfl)) k3 bel lt3) (trodAll_cons_mk (Below.trod laidOut (by kernel_rfl) (of_decide_eq_true (by kernel_rfl)) k4 bel lt4) trodAll_mk0))))),rfl,bel.frame _,fun h => by cases h⟩

theorem over : Rows.BaseWholeSaid :=
  OpenClaim.holds_of_wide 4 Tryd.f4 rfl rfl rfl rfl rfl rfl rfl ⟨rfl,rfl,rfl,rfl,rfl⟩ rfl rfl rfl rfl rfl (by kernel_rfl) Tryd.func4 (by kernel_rfl)
    (of_decide_eq_true (by kernel_rfl)) (by unfold Func.isWrapper;first | (rw [if_pos (by decide +kernel)];kernel_rfl) | (rw [if_neg (by decide +kernel)];exact ⟨rfl,rfl⟩))
    (fun os started H enc _ => lifted os started H enc)

/-- The statement: the card. -/
theorem proved : Rows.BaseWholeCardSaid :=
  Claim7.holds_tied_plain_at .later [] [.data] true (true, "bd29a54d970b80430fe1aa8952bd209bccfd7de9b3f93e9731a196a338ac3778") true
    over (fun _ h => by cases h) (by kernel_rfl) (fun _ h => by cases h) baseWhole_row_tie rfl ⟨rfl,rfl⟩ (by kernel_rfl) rfl
    (fun f fn hf hfn => by
      obtain rfl : f = 4 := Option.some.inj ((show Tryd.prog.funcNamed "thimble/thimblelaw22.BaseWhole" = some 4 by kernel_rfl).symm.trans hf) |>.symm
      obtain rfl : fn = Tryd.f4 := (Option.some.inj (Tryd.func4.symm.trans hfn)).symm
      exact ⟨by kernel_rfl,fun j t ht => by
        rw [Tryd.params4] at ht
        rcases j with _ | _ | _ | _ | _ | j
        · have h4 : t = 3 := by simpa using ht.symm
          subst h4
          exact (show Tryd.prog.wantsStandIn 3 = false by kernel_rfl)
        · have h4 : t = 48 := by simpa using ht.symm
          subst h4
          exact (show Tryd.prog.wantsStandIn 48 = false by kernel_rfl)
        · have h4 : t = 53 := by simpa using ht.symm
          subst h4
          exact (show Tryd.prog.wantsStandIn 53 = false by kernel_rfl)
        · have h4 : t = 56 := by simpa using ht.symm
          subst h4
          exact (show Tryd.prog.wantsStandIn 56 = false by kernel_rfl)
        · have h4 : t = 57 := by simpa using ht.symm
          subst h4
          exact (show Tryd.prog.wantsStandIn 57 = false by kernel_rfl)
        · simp at ht⟩)
    (by kernel_rfl)

end Go.Proofs.YtdkimdobcacpfaaDoor.BaseWholeDone
