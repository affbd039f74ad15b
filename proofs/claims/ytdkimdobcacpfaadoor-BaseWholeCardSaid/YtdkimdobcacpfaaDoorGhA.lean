/-
  The judge's log: New, Note, Hash, Count.
  The judge's log: Hash, Count.
-/
import Derived.Test.YtdkimdobcacpfaaDoorShaT
import Derived.Test.YtdkimdobcacpfaaDoorJRow
import Derived.Test.YtdkimdobcacpfaaDoorJJoin
import Derived.Test.YtdkimdobcacpfaaDoorSlB
set_option linter.unusedSimpArgs false
set_option linter.unusedVariables false
namespace Go.Proofs.YtdkimdobcacpfaaDoor
open Go.RowKit Go.Proofs.YtdkimdobcacpfaaDoor.Sl Go.Proofs.YtdkimdobcacpfaaDoor.Sha Go.Proofs.YtdkimdobcacpfaaDoor.Jp

section
variable {P : Program} {ops : Array Oper} {o : Oper} {a : Act} {I : World → Prop}
theorem runBuildPair (q : Option Addr) (l c : Nat) (D : List Int) (hD : D.length = 32) (w : World) : (Instr.build 168 #[(0,.slice q l c),(1,.agg (D.map u8v).toArray)]).run Tryd.prog w = .ok (.agg (Value.slice q l c::D.map u8v).toArray) w := by
  match D,hD with
  | [d0,d1,d2,d3,d4,d5,d6,d7,d8,d9,d10,d11,d12,d13,d14,d15,d16,d17,d18,d19,d20,d21,d22,d23,d24,d25,d26,d27,d28,d29,d30,d31],_ =>
    go_simp
theorem yBuildPair {q : Option Addr} {l c : Nat} {D : List Int} (hD : D.length = 32) {x y : Operand} {a : Act} {ops : Array Oper} (hw : Region.wanted o (yielded ops a.tmps) = true) (ho : o.op = .build 168 #[(0,x),(1,y)]) (hx : a.eval x = .slice q l c) (hy : a.eval y = .agg (D.map u8v).toArray) : YieldsIf Tryd.prog ops I o (.agg (Value.slice q l c::D.map u8v).toArray) a :=
  .inl ⟨hw,fun w _ => by
    simp [execOp,ho,hx,hy,runBuildPair q l c D hD]⟩
end

/-- A pair in the log: the input's slice, the input, the digest. -/
abbrev PairV := Value × List Int × List Int
def pairF (x : PairV) : List Value := x.1::x.2.2.map u8v
def rowsOf (X : List PairV) : List (Value × List Int) := X.map fun x => (x.1,x.2.1)
def logL (vs vo : Value) (X : List PairV) (vp : Value) (l : Nat) : List Chunk := [(l,cells #[vp,vs,vo] 118),(blk vp,sl 33 pairF X 168 vp),(0,inn (rowsOf X) 5)]
/-- A log's hashes; what was sealed and opened stands elsewhere. -/
def LogG (vs vo : Value) (Ps : List (List Int × List Int)) : K := fun l h => ∃ X vp,X.map (·.2) = Ps ∧ holds (logL vs vo X vp l) h
/-- A log that has seen hashes alone. -/
abbrev LogC : List (List Int × List Int) → K := LogG (.slice none 0 0) (.slice none 0 0)

section
variable {w0 w : World} {K F S : List Chunk} {l : Nat} {Ps : List (List Int × List Int)} {A D : List Int} {va vs vo : Value}
theorem openLog (hS : Sat w0 ((l,LogG vs vo Ps)::F) w) : ∃ X vp,X.map (·.2) = Ps ∧ Sat w0 ((l,cells #[vp,vs,vo] 118)::(blk vp,sl 33 pairF X 168 vp)::(0,inn (rowsOf X) 5)::F) w := by
  obtain ⟨X,hS⟩ := hS.ex (Z := fun (X : List PairV) l h => ∃ vp,X.map (·.2) = Ps ∧ holds (logL vs vo X vp l) h) fun _ h => h
  obtain ⟨vp,hS⟩ := hS.ex (Z := fun vp l h => X.map (·.2) = Ps ∧ holds (logL vs vo X vp l) h) fun _ h => h
  obtain ⟨h1,hS⟩ := hS.and (Y := fun l h => holds (logL vs vo X vp l) h) fun _ h => h
  exact ⟨X,vp,h1,hS.open (T := logL vs vo X vp l) fun _ h => h⟩
theorem closeLog {X : List PairV} {vp : Value} (hX : X.map (·.2) = Ps) (hS : Sat w0 ((l,cells #[vp,vs,vo] 118)::(blk vp,sl 33 pairF X 168 vp)::(0,inn (rowsOf X) 5)::F) w) : Sat w0 ((l,LogG vs vo Ps)::F) w :=
  Sat.close (T := logL vs vo X vp l) hS fun _ h => ⟨X,vp,hX,h⟩
theorem pairCells (v : Value) (A D : List Int) (hv : v.oneCell' = true) : ∀ x ∈ [((v,A,D) : PairV)],∀ u ∈ pairF x,u.oneCell' = true := fun x hx u hu => by
  rw [List.mem_singleton.1 hx] at hu
  rcases List.mem_cons.1 hu with h | h
  · rw [h];exact hv
  · obtain ⟨y,_,rfl⟩ := List.mem_map.1 h
    rfl
theorem pairF_len {x : PairV} (h : x.2.2.length = 32) : (pairF x).length = 33 := by simp [pairF,h]

set_option maxHeartbeats 1000000 in
theorem ghostNew_any : Calls Tryd.prog 26 #[] w0 fun e w' => ∃ l,e = .returned (.pointer (some ⟨l,0,none⟩)) ∧ Sat w0 [(l,LogC [])] w' := by
  have hS := Sat.refl w0
  go_enter Tryd.func26,Tryd.ntmps26
  go_wp2_with (refine boxN hS rfl rfl rfl ?_;clear hS;intro mb w hS;simp only [putW])
  go_ret
  refine ⟨_,rfl,closeLog (X := []) (vp := .slice none 0 0) rfl ?_⟩
  exact ((((hS.innNil 0 5).slNil 33 pairF 168).perm (List.Perm.cons _ (List.Perm.swap _ _ _))).perm (List.Perm.swap _ _ _))

set_option maxRecDepth 100000 in
set_option maxHeartbeats 4000000 in
theorem note_any (hS : Sat w0 ((l,LogG vs vo Ps)::K) w) (ha : RB w A va) (hA : A.length ≤ 100000000000) (hP : Ps.length ≤ 1000000) (hD : D.length = 32) :
    Calls Tryd.prog 78 #[.pointer (some ⟨l,0,none⟩),va,.agg (D.map u8v).toArray] w fun e w' => e = .returned (.tuple #[]) ∧ Sat w0 ((l,LogG vs vo (Ps ++ [(A,D)]))::K) w' := by
  have hS0 := hS
  clear hS
  have hS := Sat.refl w
  have HA : Bx _ := ⟨ha⟩
  have HD : Bx _ := ⟨hD⟩
  have hDm : Bx ((D.map u8v).toArray.size = 32) := ⟨by simp [hD]⟩
  clear ha hD
  go_enter Tryd.func78,Tryd.ntmps78
  go_wp2_with (refine boxA (t := 26) (vv := u8v) hS rfl rfl D rfl ?_;clear hS;intro md w hS;simp only [putW])
  have ha1 := HA.out.mono hS.base
  replace hS := hS0.frame hS
  clear hS0
  obtain ⟨X,vp,hX,hS2⟩ := openLog (hS.perm (List.Perm.swap _ _ _))
  clear hS
  have hS := hS2
  clear hS2
  have HX : Bx _ := ⟨hX⟩
  have hXl : Bx (X.length ≤ 1000000) := ⟨by have := congrArg List.length hX;simp at this;omega⟩
  clear hX
  refine wp_region_held (S := fun w' => Sat w0 [(md,cells (D.map u8v).toArray 26)] w') (by kernel_rfl) ?_
  replace hS := hS.drew
  have ha2 : RB w.drew A va := ha1.mono ((Below.refl _ _).drew)
  have hI : Sat w0 [(md,cells (D.map u8v).toArray 26)] w.drew := hS.conv
  refine takeIf (i := 0) rfl (by kernel_rfl) (fun _ _ _ h => h) (yMove (v := .pointer (some ⟨l,0,none⟩)) rfl rfl rfl) hI ?_
  simp only [putW]
  refine takeIf (i := 1) rfl (by kernel_rfl) (fun _ _ _ h => h) (yMove (v := .pointer (some ⟨l,0,none⟩)) rfl rfl rfl) hI ?_
  simp only [putW]
  refine takeIf (i := 2) rfl (by kernel_rfl) (fun _ _ _ h => h) (yNil rfl rfl rfl) hI ?_
  simp only [putW]
  refine takeIf (i := 3) rfl (by kernel_rfl) (fun _ _ _ h => h) (yField 115 rfl rfl rfl Tryd.underlying118 rfl rfl rfl rfl) hI ?_
  simp only [putW]
  refine takeIf (i := 5) rfl (by kernel_rfl) (fun _ _ _ h => h) (yMove (v := va) rfl rfl rfl) hI ?_
  simp only [putW]
  refine takeIf (i := 7) rfl (by kernel_rfl) (fun _ _ _ h => h) (yLoadAll (fun _ h => h) rfl rfl rfl hDm.out) hI ?_
  simp only [putW]
  clear hI
  have hAl : A.length ≤ 140737488355328 := by omega
  have hfin : ∀ {v' : Value} {q : Option Addr} {c : Nat} {w4 : World},Sat w0 ((l,cells #[v',vs,vo] 118)::(blk v',sl 33 pairF (X ++ [((Value.slice q A.length c,A,D) : PairV)]) 168 v')::(blk (Value.slice q A.length c),sl 1 by8 A 5 (Value.slice q A.length c))::(0,inn (rowsOf X) 5)::(md,cells (D.map u8v).toArray 26)::K) w4 → Sat w0 ((l,LogG vs vo (Ps ++ [(A,D)]))::K) w4 := fun {v' q c w4} h => by
    have h3 := h.innAdd (Value.slice q A.length c) (j := 0) (X := rowsOf X) (t := 5) rfl
    rw [show rowsOf X ++ [(Value.slice q A.length c,A)] = rowsOf (X ++ [((Value.slice q A.length c,A,D) : PairV)]) by simp [rowsOf]] at h3
    exact closeLog (X := X ++ [((Value.slice q A.length c,A,D) : PairV)]) (vp := v') (by rw [List.map_append,HX.out];rfl) h3.conv
  refine wpAnyH_all (rs := [4,6]) (by kernel_rfl) (by simp) ?_
  intro i hi
  simp only [List.mem_cons,List.not_mem_nil,or_false] at hi
  rcases hi with rfl | rfl
  · refine wpOp_of_list rfl ?_
    go_wp2_with (refine load1 hS rfl rfl rfl rfl ?_;simp only [putW])
    refine ⟨rfl,hS.conv,?_⟩
    refine wpAnyH_all (rs := [6]) (by kernel_rfl) (by simp) ?_
    intro i hi
    simp only [List.mem_cons,List.not_mem_nil,or_false] at hi
    subst hi
    refine wpOp_of_list rfl ?_
    go_wp2_with (first | (go_at_call 64;refine Calls.mono (clone_any ha2 hAl) ?_;rintro _ w2 ⟨vc,rfl,h2⟩;replace hS := hS.frame h2;clear h2;(try simp only [List.cons_append,List.nil_append] at hS);simp only [putW]))
    obtain ⟨q,c,rfl⟩ := restShape hS
    refine ⟨rfl,hS.conv,?_⟩
    refine takeIf (i := 8) rfl (by kernel_rfl) (fun _ _ _ h => h) (yBuildPair HD.out rfl rfl rfl rfl) hS.conv ?_
    simp only [putW]
    refine wpAnyH_all (rs := [9]) (by kernel_rfl) (by simp) ?_
    intro i hi
    simp only [List.mem_cons,List.not_mem_nil,or_false] at hi
    subst hi
    refine wpOp_of_list rfl ?_
    have hcl : Bx ((Value.slice q A.length c::D.map u8v).toArray.size = 33) := ⟨by simp [HD.out]⟩
    go_wp2_with (first | (refine buildSlice1 (c := (Value.slice q A.length c::D.map u8v).toArray) hS rfl rfl rfl hcl.out rfl rfl ?_;clear hS;intro mb w hS;simp only [putW]))
    refine ⟨rfl,hS.conv,?_⟩
    refine wpAnyH_all (rs := [10]) (by kernel_rfl) (by simp) ?_
    intro i hi
    simp only [List.mem_cons,List.not_mem_nil,or_false] at hi
    subst hi
    have hS1 := hS.toSlc (l := [((Value.slice q A.length c,A,D) : PairV)]) (cap := 1) (n := 33) (f := pairF) (by simp [HD.out]) (by simp) (by simp [maxLen]) (by rw [List.take_of_length_le (by simp [HD.out])];simp [pairF]) (fun x hx => by rw [List.mem_singleton.1 hx];exact pairF_len HD.out)
    have hsrc := hS1.readsSlc (g := mb) (n := 33) (f := pairF) (L := [((Value.slice q A.length c,A,D) : PairV)]) (cap := 1) (t := 168) (gd := fun _ => True) (fun _ _ => trivial)
    obtain ⟨v',w3,hrun,hS2⟩ := run_appendB (P := Tryd.prog) (t := 115) hS1 (v := vp) 115 [((Value.slice q A.length c,A,D) : PairV)] hsrc (pairCells (Value.slice q A.length c) A D rfl) (by simp [maxLen];have := hXl.out;omega) (by simp;have := hXl.out;omega)
    clear hS hS1 hsrc
    have hS := hS2
    clear hS2
    refine opAppend rfl rfl rfl rfl rfl hrun ⟨hS.conv,?_⟩
    simp only [putW]
    refine takeIf (i := 11) rfl (by kernel_rfl) (fun _ _ _ h => h) (yNil rfl rfl rfl) hS.conv ?_
    simp only [putW]
    refine takeIf (i := 12) rfl (by kernel_rfl) (fun _ _ _ h => h) (yField 115 rfl rfl rfl Tryd.underlying118 rfl rfl rfl rfl) hS.conv ?_
    simp only [putW]
    refine wpAnyH_all (rs := [13]) (by kernel_rfl) (by simp) ?_
    intro i hi
    simp only [List.mem_cons,List.not_mem_nil,or_false] at hi
    subst hi
    refine wpOp_of_list rfl ?_
    have hv1 : v'.oneCell' = true := Sat.slCell (α := PairV) hS
    refine store1 (v := v') (b := l) (c := #[vp,vs,vo]) hS rfl rfl rfl rfl hv1 (by simp) ?_
    clear hS
    intro w hS
    simp only [putW]
    go_wp2_with (refine load1 hS rfl rfl rfl rfl ?_;simp only [putW])
    refine ⟨rfl,hS.conv,?_⟩
    refine wpAnyH_done (by kernel_rfl) ?_ _
    go_wp2_with (refine load1 hS rfl rfl rfl rfl ?_;simp only [putW])
    go_end0
    exact ⟨rfl,hfin (v' := v') (q := q) (c := c) (Sat.conv (S := (l,cells #[v',vs,vo] 118)::(blk v',sl 33 pairF (X ++ [((Value.slice q A.length c,A,D) : PairV)]) 168 v')::(mb,slc 33 pairF [((Value.slice q A.length c,A,D) : PairV)] 1 168)::(blk (Value.slice q A.length c),sl 1 by8 A 5 (Value.slice q A.length c))::(0,inn (rowsOf X) 5)::(md,cells (D.map u8v).toArray 26)::K) hS)⟩
  · refine wpOp_of_list rfl ?_
    go_wp2_with (first | (go_at_call 64;refine Calls.mono (clone_any ha2 hAl) ?_;rintro _ w2 ⟨vc,rfl,h2⟩;replace hS := hS.frame h2;clear h2;(try simp only [List.cons_append,List.nil_append] at hS);simp only [putW]))
    obtain ⟨q,c,rfl⟩ := restShape hS
    refine ⟨rfl,hS.conv,?_⟩
    refine takeIf (i := 8) rfl (by kernel_rfl) (fun _ _ _ h => h) (yBuildPair HD.out rfl rfl rfl rfl) hS.conv ?_
    simp only [putW]
    refine wpAnyH_all (rs := [4,9]) (by kernel_rfl) (by simp) ?_
    intro i hi
    simp only [List.mem_cons,List.not_mem_nil,or_false] at hi
    rcases hi with rfl | rfl
    · refine wpOp_of_list rfl ?_
      go_wp2_with (refine load1 hS rfl rfl rfl rfl ?_;simp only [putW])
      refine ⟨rfl,hS.conv,?_⟩
      refine wpAnyH_all (rs := [9]) (by kernel_rfl) (by simp) ?_
      intro i hi
      simp only [List.mem_cons,List.not_mem_nil,or_false] at hi
      subst hi
      refine wpOp_of_list rfl ?_
      have hcl : Bx ((Value.slice q A.length c::D.map u8v).toArray.size = 33) := ⟨by simp [HD.out]⟩
      go_wp2_with (first | (refine buildSlice1 (c := (Value.slice q A.length c::D.map u8v).toArray) hS rfl rfl rfl hcl.out rfl rfl ?_;clear hS;intro mb w hS;simp only [putW]))
      refine ⟨rfl,hS.conv,?_⟩
      refine wpAnyH_all (rs := [10]) (by kernel_rfl) (by simp) ?_
      intro i hi
      simp only [List.mem_cons,List.not_mem_nil,or_false] at hi
      subst hi
      have hS1 := hS.toSlc (l := [((Value.slice q A.length c,A,D) : PairV)]) (cap := 1) (n := 33) (f := pairF) (by simp [HD.out]) (by simp) (by simp [maxLen]) (by rw [List.take_of_length_le (by simp [HD.out])];simp [pairF]) (fun x hx => by rw [List.mem_singleton.1 hx];exact pairF_len HD.out)
      have hsrc := hS1.readsSlc (g := mb) (n := 33) (f := pairF) (L := [((Value.slice q A.length c,A,D) : PairV)]) (cap := 1) (t := 168) (gd := fun _ => True) (fun _ _ => trivial)
      obtain ⟨v',w3,hrun,hS2⟩ := run_appendB (P := Tryd.prog) (t := 115) hS1 (v := vp) 115 [((Value.slice q A.length c,A,D) : PairV)] hsrc (pairCells (Value.slice q A.length c) A D rfl) (by simp [maxLen];have := hXl.out;omega) (by simp;have := hXl.out;omega)
      clear hS hS1 hsrc
      have hS := hS2
      clear hS2
      refine opAppend rfl rfl rfl rfl rfl hrun ⟨hS.conv,?_⟩
      simp only [putW]
      refine takeIf (i := 11) rfl (by kernel_rfl) (fun _ _ _ h => h) (yNil rfl rfl rfl) hS.conv ?_
      simp only [putW]
      refine takeIf (i := 12) rfl (by kernel_rfl) (fun _ _ _ h => h) (yField 115 rfl rfl rfl Tryd.underlying118 rfl rfl rfl rfl) hS.conv ?_
      simp only [putW]
      refine wpAnyH_all (rs := [13]) (by kernel_rfl) (by simp) ?_
      intro i hi
      simp only [List.mem_cons,List.not_mem_nil,or_false] at hi
      subst hi
      refine wpOp_of_list rfl ?_
      have hv1 : v'.oneCell' = true := Sat.slCell (α := PairV) hS
      refine store1 (v := v') (b := l) (c := #[vp,vs,vo]) hS rfl rfl rfl rfl hv1 (by simp) ?_
      clear hS
      intro w hS
      simp only [putW]
      go_wp2_with (refine load1 hS rfl rfl rfl rfl ?_;simp only [putW])
      refine ⟨rfl,hS.conv,?_⟩
      refine wpAnyH_done (by kernel_rfl) ?_ _
      go_wp2_with (refine load1 hS rfl rfl rfl rfl ?_;simp only [putW])
      go_end0
      exact ⟨rfl,hfin (v' := v') (q := q) (c := c) (Sat.conv (S := (l,cells #[v',vs,vo] 118)::(blk v',sl 33 pairF (X ++ [((Value.slice q A.length c,A,D) : PairV)]) 168 v')::(mb,slc 33 pairF [((Value.slice q A.length c,A,D) : PairV)] 1 168)::(blk (Value.slice q A.length c),sl 1 by8 A 5 (Value.slice q A.length c))::(0,inn (rowsOf X) 5)::(md,cells (D.map u8v).toArray 26)::K) hS)⟩
    · refine wpOp_of_list rfl ?_
      have hcl : Bx ((Value.slice q A.length c::D.map u8v).toArray.size = 33) := ⟨by simp [HD.out]⟩
      go_wp2_with (first | (refine buildSlice1 (c := (Value.slice q A.length c::D.map u8v).toArray) hS rfl rfl rfl hcl.out rfl rfl ?_;clear hS;intro mb w hS;simp only [putW]))
      refine ⟨rfl,hS.conv,?_⟩
      refine wpAnyH_all (rs := [4]) (by kernel_rfl) (by simp) ?_
      intro i hi
      simp only [List.mem_cons,List.not_mem_nil,or_false] at hi
      subst hi
      refine wpOp_of_list rfl ?_
      go_wp2_with (refine load1 hS rfl rfl rfl rfl ?_;simp only [putW])
      refine ⟨rfl,hS.conv,?_⟩
      refine wpAnyH_all (rs := [10]) (by kernel_rfl) (by simp) ?_
      intro i hi
      simp only [List.mem_cons,List.not_mem_nil,or_false] at hi
      subst hi
      have hS1 := hS.toSlc (l := [((Value.slice q A.length c,A,D) : PairV)]) (cap := 1) (n := 33) (f := pairF) (by simp [HD.out]) (by simp) (by simp [maxLen]) (by rw [List.take_of_length_le (by simp [HD.out])];simp [pairF]) (fun x hx => by rw [List.mem_singleton.1 hx];exact pairF_len HD.out)
      have hsrc := hS1.readsSlc (g := mb) (n := 33) (f := pairF) (L := [((Value.slice q A.length c,A,D) : PairV)]) (cap := 1) (t := 168) (gd := fun _ => True) (fun _ _ => trivial)
      obtain ⟨v',w3,hrun,hS2⟩ := run_appendB (P := Tryd.prog) (t := 115) hS1 (v := vp) 115 [((Value.slice q A.length c,A,D) : PairV)] hsrc (pairCells (Value.slice q A.length c) A D rfl) (by simp [maxLen];have := hXl.out;omega) (by simp;have := hXl.out;omega)
      clear hS hS1 hsrc
      have hS := hS2
      clear hS2
      refine opAppend rfl rfl rfl rfl rfl hrun ⟨hS.conv,?_⟩
      simp only [putW]
      refine takeIf (i := 11) rfl (by kernel_rfl) (fun _ _ _ h => h) (yNil rfl rfl rfl) hS.conv ?_
      simp only [putW]
      refine takeIf (i := 12) rfl (by kernel_rfl) (fun _ _ _ h => h) (yField 115 rfl rfl rfl Tryd.underlying118 rfl rfl rfl rfl) hS.conv ?_
      simp only [putW]
      refine wpAnyH_all (rs := [13]) (by kernel_rfl) (by simp) ?_
      intro i hi
      simp only [List.mem_cons,List.not_mem_nil,or_false] at hi
      subst hi
      refine wpOp_of_list rfl ?_
      have hv1 : v'.oneCell' = true := Sat.slCell (α := PairV) hS
      refine store1 (v := v') (b := l) (c := #[vp,vs,vo]) hS rfl rfl rfl rfl hv1 (by simp) ?_
      clear hS
      intro w hS
      simp only [putW]
      go_wp2_with (refine load1 hS rfl rfl rfl rfl ?_;simp only [putW])
      refine ⟨rfl,hS.conv,?_⟩
      refine wpAnyH_done (by kernel_rfl) ?_ _
      go_wp2_with (refine load1 hS rfl rfl rfl rfl ?_;simp only [putW])
      go_end0
      exact ⟨rfl,hfin (v' := v') (q := q) (c := c) (Sat.conv (S := (l,cells #[v',vs,vo] 118)::(blk v',sl 33 pairF (X ++ [((Value.slice q A.length c,A,D) : PairV)]) 168 v')::(mb,slc 33 pairF [((Value.slice q A.length c,A,D) : PairV)] 1 168)::(blk (Value.slice q A.length c),sl 1 by8 A 5 (Value.slice q A.length c))::(0,inn (rowsOf X) 5)::(md,cells (D.map u8v).toArray 26)::K) hS)⟩
end
end Go.Proofs.YtdkimdobcacpfaaDoor
namespace Go.Proofs.YtdkimdobcacpfaaDoor
open Go.RowKit Go.Proofs.YtdkimdobcacpfaaDoor.Sl Go.Proofs.YtdkimdobcacpfaaDoor.Sha Go.Proofs.YtdkimdobcacpfaaDoor.Jp

section
variable {w0 w : World} {K F S : List Chunk} {l : Nat} {Ps : List (List Int × List Int)} {X : List (Value × List Int)} {A D : List Int} {va vp vs vo : Value}
theorem KTab.mono {w w' : World} (h : KTab w) (hb : Below w.heap.size w w') : KTab w' := BAt.mono h hb fun _ _ h => h
theorem cat_one (v : Value) (A : List Int) : cat [(v,A)] = A := by simp [cat]
theorem litRR {m : Nat} {v : Value} {A : List Int} {t : TypeId} (h : Sat w0 ((m,cells #[v] t)::F) w) (hv : RB w A v) : RR w [(v,A)] (.slice (some ⟨m,0,none⟩) 1 1) := by
  have h1 := (h.toSlc (l := [(v,A)]) (cap := 1) (n := 1) (f := rowF) (by simp) (by simp) (by simp [maxLen]) (by simp) (fun _ _ => rfl)).readsSlc (g := m) (n := 1) (f := rowF) (L := [(v,A)]) (cap := 1) (t := t) (gd := fun x => RB w x.2 x.1) (fun y hy => by rw [List.mem_singleton.1 hy];exact hv)
  exact h1
theorem note_nil (w0 : World) (va : Value) (D : List Int) : Calls Tryd.prog 78 #[.pointer none,va,.agg (D.map u8v).toArray] w0 fun e w' => e = .returned (.tuple #[]) ∧ Sat w0 [] w' := by
  have hS := Sat.refl w0
  go_enter Tryd.func78,Tryd.ntmps78
  go_wp2_with (refine boxA (t := 26) (vv := u8v) hS rfl rfl D rfl ?_;clear hS;intro md w hS;simp only [putW])
  go_end0
  exact ⟨rfl,hS.nothing⟩

set_option maxRecDepth 100000 in
set_option maxHeartbeats 4000000 in
theorem hash_nil (hX : RR w0 X vp) (hK : KTab w0) (hc : (cat X).length ≤ 100000000000) :
    Calls Tryd.prog 53 #[.pointer none,vp] w0 fun e w' => e = .returned (.agg ((shaF (cat X)).map u8v).toArray) ∧ Sat w0 [] w' := by
  have hS := Sat.refl w0
  obtain ⟨A,hA⟩ : ∃ A,cat X = A := ⟨_,rfl⟩
  have hc' : A.length ≤ 100000000000 := by rw [← hA];exact hc
  have HA : Bx _ := ⟨hA⟩
  clear hA
  have hdl : Bx ((shaF A).length = 32) := ⟨dig_len _⟩
  go_enter Tryd.func53,Tryd.ntmps53
  go_wp2_with (first | (refine allocA (t := 26) (vv := u8v) hS rfl rfl (List.replicate 32 0) zeros32 ?_;clear hS;intro mo w hS;simp only [putW]) | (guard_target =~ Calls _ 73 _ _ _;refine Stopped.out ?_))
  refine ⟨?_⟩
  (refine Calls.mono (join_any (hX.mono hS.base) hc) ?_;rintro _ w2 ⟨v,rfl,h2,hrb⟩;replace hS := hS.frame h2;clear h2;(try simp only [List.cons_append,List.nil_append] at hS);simp only [putW])
  rw [HA.out] at hrb
  obtain ⟨pv,cv,hv,_,_⟩ := hrb.at
  subst hv
  have hK2 := hK.mono hS.base
  have hSa := hS
  clear hS
  have hS := Sat.refl w2
  have HR : Bx _ := ⟨hrb⟩
  clear hrb
  go_wp2_with (first | (refine buildSlice1 (c := #[.slice pv A.length cv]) hS rfl rfl rfl ?_ ?_ ?_ ?_;rfl;rfl;rfl;clear hS;intro mb w hS;simp only [putW]) | (guard_target =~ Calls _ 77 _ _ _;refine Stopped.out ?_))
  refine ⟨?_⟩
  have hrr := litRR hS (HR.out.mono hS.base)
  have hc1 : (cat [((.slice pv A.length cv : Value),A)]).length ≤ 100000000000 := by rw [cat_one];exact hc'
  (refine Calls.mono (shaOf_any hrr (hK2.mono hS.base) hc1) ?_;rintro _ w2 ⟨rfl,h2⟩;replace hS := hS.frame h2;clear h2;(try simp only [List.cons_append,List.nil_append] at hS);simp only [putW])
  rw [cat_one]
  clear hrr hc1
  go_wp2_with (first | (refine allocA (t := 26) (vv := u8v) hS rfl rfl (List.replicate 32 0) zeros32 ?_;clear hS;intro md w hS;simp only [putW]) | (refine storeAllA (vv := u8v) hS rfl rfl rfl (shaF A) rfl hdl.out (fun _ _ => rfl) (by simp) ?_;clear hS;intro w hS;try simp only [putW]) | (refine loadAllA (l := shaF A) (vv := u8v) hS rfl rfl rfl hdl.out ?_;simp only [putW]) | (guard_target =~ Calls _ 78 _ _ _;refine Stopped.out ?_))
  refine ⟨?_⟩
  (refine Calls.mono (note_nil _ (.slice pv A.length cv) (shaF A)) ?_;rintro _ w2 ⟨rfl,h2⟩;replace hS := hS.frame h2;clear h2;(try simp only [List.cons_append,List.nil_append] at hS);simp only [putW])
  replace hS := hSa.frame hS
  simp only [List.cons_append,List.nil_append] at hS
  go_wp2_with (first | (refine loadAllA (l := shaF A) (vv := u8v) hS rfl rfl rfl hdl.out ?_;simp only [putW]) | (refine storeAllA (vv := u8v) hS rfl rfl rfl (shaF A) rfl hdl.out (fun _ _ => rfl) (by simp) ?_;clear hS;intro w hS;try simp only [putW]))
  have hr := run_loadAll (P := Tryd.prog) hS mo 26 (by simpa using hdl.out)
  refine bodyPost_ret (v := .agg ((shaF A).map u8v).toArray) (by simp only [results,Tryd.results53,asAddr];simp [hr]) rfl ⟨by rw [HA.out],hS.nothing⟩

set_option maxRecDepth 100000 in
set_option maxHeartbeats 4000000 in
theorem hash_any (hS : Sat w0 ((l,LogG vs vo Ps)::K) w) (hX : RR w X vp) (hK : KTab w) (hc : (cat X).length ≤ 100000000000) (hP : Ps.length ≤ 1000000) :
    Calls Tryd.prog 53 #[.pointer (some ⟨l,0,none⟩),vp] w fun e w' => e = .returned (.agg ((shaF (cat X)).map u8v).toArray) ∧ Sat w0 ((l,LogG vs vo (Ps ++ [(cat X,shaF (cat X))]))::K) w' := by
  have hS0 := hS
  clear hS
  have hS := Sat.refl w
  obtain ⟨A,hA⟩ : ∃ A,cat X = A := ⟨_,rfl⟩
  have hc' : A.length ≤ 100000000000 := by rw [← hA];exact hc
  have HA : Bx _ := ⟨hA⟩
  clear hA
  have hdl : Bx ((shaF A).length = 32) := ⟨dig_len _⟩
  go_enter Tryd.func53,Tryd.ntmps53
  go_wp2_with (first | (refine allocA (t := 26) (vv := u8v) hS rfl rfl (List.replicate 32 0) zeros32 ?_;clear hS;intro mo w hS;simp only [putW]) | (guard_target =~ Calls _ 73 _ _ _;refine Stopped.out ?_))
  refine ⟨?_⟩
  (refine Calls.mono (join_any (hX.mono hS.base) hc) ?_;rintro _ w2 ⟨v,rfl,h2,hrb⟩;replace hS := hS.frame h2;clear h2;(try simp only [List.cons_append,List.nil_append] at hS);simp only [putW])
  rw [HA.out] at hrb
  obtain ⟨pv,cv,hv,_,_⟩ := hrb.at
  subst hv
  have hK2 := hK.mono hS.base
  have hSa := hS0.frame hS
  simp only [List.cons_append,List.nil_append] at hSa
  clear hS hS0
  have hS := Sat.refl w2
  have HR : Bx _ := ⟨hrb⟩
  clear hrb
  go_wp2_with (first | (refine buildSlice1 (c := #[.slice pv A.length cv]) hS rfl rfl rfl ?_ ?_ ?_ ?_;rfl;rfl;rfl;clear hS;intro mb w hS;simp only [putW]) | (guard_target =~ Calls _ 77 _ _ _;refine Stopped.out ?_))
  refine ⟨?_⟩
  have hrr := litRR hS (HR.out.mono hS.base)
  have hc1 : (cat [((.slice pv A.length cv : Value),A)]).length ≤ 100000000000 := by rw [cat_one];exact hc'
  (refine Calls.mono (shaOf_any hrr (hK2.mono hS.base) hc1) ?_;rintro _ w2 ⟨rfl,h2⟩;replace hS := hS.frame h2;clear h2;(try simp only [List.cons_append,List.nil_append] at hS);simp only [putW])
  rw [cat_one]
  clear hrr hc1
  go_wp2_with (first | (refine allocA (t := 26) (vv := u8v) hS rfl rfl (List.replicate 32 0) zeros32 ?_;clear hS;intro md w hS;simp only [putW]) | (refine storeAllA (vv := u8v) hS rfl rfl rfl (shaF A) rfl hdl.out (fun _ _ => rfl) (by simp) ?_;clear hS;intro w hS;try simp only [putW]) | (refine loadAllA (l := shaF A) (vv := u8v) hS rfl rfl rfl hdl.out ?_;simp only [putW]) | (guard_target =~ Calls _ 78 _ _ _;refine Stopped.out ?_))
  refine ⟨?_⟩
  have hr4 := HR.out.mono hS.base
  replace hS := hSa.frame hS
  simp only [List.cons_append,List.nil_append] at hS
  replace hS := hS.conv (S' := (l,LogG vs vo Ps)::(md,cells ((shaF A).map u8v).toArray 26)::(mo,cells ((List.replicate 32 (0 : Int)).map u8v).toArray 26)::K)
  (refine Calls.mono (note_any hS hr4 hc' hP hdl.out) ?_;clear hS;rintro _ w ⟨rfl,hS⟩;simp only [putW])
  go_wp2_with (first | (refine loadAllA (l := shaF A) (vv := u8v) hS rfl rfl rfl hdl.out ?_;simp only [putW]) | (refine storeAllA (vv := u8v) hS rfl rfl rfl (shaF A) rfl hdl.out (fun _ _ => rfl) (by simp) ?_;clear hS;intro w hS;try simp only [putW]))
  have hr := run_loadAll (P := Tryd.prog) hS mo 26 (by simpa using hdl.out)
  refine bodyPost_ret (v := .agg ((shaF A).map u8v).toArray) (by simp only [results,Tryd.results53,asAddr];simp [hr]) rfl ⟨by rw [HA.out],?_⟩
  rw [HA.out]
  exact hS.conv

end
end Go.Proofs.YtdkimdobcacpfaaDoor
