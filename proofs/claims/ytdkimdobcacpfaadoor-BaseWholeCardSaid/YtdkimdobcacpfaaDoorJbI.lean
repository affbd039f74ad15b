/-
  base.Job: Go lays the row of what is to be done, and does the first step.
-/
import Derived.Test.YtdkimdobcacpfaaDoorJbV
import Derived.Test.YtdkimdobcacpfaaDoorJbH
set_option linter.unusedSimpArgs false
set_option linter.unusedVariables false
namespace Go.Proofs.YtdkimdobcacpfaaDoor
open Go.RowKit Go.Proofs.YtdkimdobcacpfaaDoor.Sl Go.Proofs.YtdkimdobcacpfaaDoor.Sha Go.Proofs.YtdkimdobcacpfaaDoor.Jp Go.Proofs.YtdkimdobcacpfaaDoor.Tr Go.Proofs.YtdkimdobcacpfaaDoor.Dv

def skK (pl : Pl) (Bs : List Int) (Ds : List (List Int)) (nx : Rg) : StK → SK
  | .wr i B => .wr (pl.hd + i) B
  | .fl => .fl
  | .rg1 => .rg nx
  | .hm i => .hm (Bs.getD i 0).toNat (pl.jn + i) (Ds.getD i [])
  | .rg2 => .rg (calm nx)
theorem skOf_k (pl : Pl) (Bs : List Int) (Ds : List (List Int)) (nx : Rg) (x : StM) : skOf pl Bs Ds nx x = skK pl Bs Ds nx x.k := by
  unfold skOf skK
  cases x.k <;> rfl
/-- The writes of a head. -/
def headWs (hd : Nat) (H : List Row) : List (Nat × Row) := (H.zipIdx 0).map fun x => (hd + x.2,x.1)
theorem skK_all (pl : Pl) (L : List (Nat × Row)) (H : List Row) (nx : Rg) : (wrK H H.length ++ [StK.fl,StK.rg1] ++ hmK L.length ++ [StK.fl,StK.rg2]).map (skK pl (jobBs L) (jobDs L) nx) = stepsJ dig pl.jn (headWs pl.hd H) L nx := by
  have e1 : (wrK H H.length).map (skK pl (jobBs L) (jobDs L) nx) = (headWs pl.hd H).map fun x => .wr x.1 x.2 := by
    unfold wrK headWs
    rw [List.take_of_length_le (by rw [List.length_zipIdx];exact Nat.le_refl _),List.map_map,List.map_map]
    rfl
  have e2 : (hmK L.length).map (skK pl (jobBs L) (jobDs L) nx) = homesJ dig pl.jn L := by
    unfold hmK homesJ
    rw [List.map_map]
    refine List.ext_getElem? fun i => ?_
    rw [List.getElem?_map,List.getElem?_map,List.getElem?_zipIdx]
    by_cases hi : i < L.length
    · rw [List.getElem?_range hi]
      have h1 : L[i]? = some (L[i]) := List.getElem?_eq_getElem hi
      rw [h1]
      show some (SK.hm ((jobBs L).getD i 0).toNat (pl.jn + i) ((jobDs L).getD i [])) = some _
      have h2 : (jobBs L).getD i 0 = ((L[i]).1 : Int) := by unfold jobBs;rw [List.getD_eq_getElem?_getD,List.getElem?_map,h1];rfl
      have h3 : (jobDs L).getD i [] = dig (L[i]).1 (L[i]).2 := by unfold jobDs;rw [List.getD_eq_getElem?_getD,List.getElem?_map,h1];rfl
      rw [h2,h3]
      simp
    · rw [List.getElem?_eq_none (by simpa using hi),List.getElem?_eq_none (by omega)]
      rfl
  rw [List.map_append,List.map_append,List.map_append,e1,e2]
  unfold stepsJ
  simp [skK]
/-- What is noted when a job begins. -/
def goPs (Ps : List (List Int × List Int)) (s : Rg) (L : List (Nat × Row)) (b : Nat) (nt : List (List Int × List Int)) : List (List Int × List Int) := Ps ++ [(mkM (headR s.version L b) (L.map (·.2)),mkF (headR s.version L b) (L.map (·.2)))] ++ nt
section
variable {w0 w : World} {K F S : List Chunk} {n d r j : Nat} {D : Dev} {cv lg : Value} {pl : Pl} {Ps : List (List Int × List Int)} {R s : Rg} {L : List (Nat × Row)}
/-- A slice of single cells, its block in sight. -/
theorem slOpen1 {α : Type} {f : α → Value} {X : List α} {t : TypeId} {b m : Nat} {v : Value} (h : Sat w0 ((b,sl 1 (fun x => [f x]) X t v)::F) w) (hm : X.length = m) (h0 : 0 < m) : ∃ g cap cur,v = .slice (some ⟨g,0,none⟩) m cap ∧ m ≤ cap ∧ (∀ (k : Nat) (x : α),X[k]? = some x → cur[0 + k]? = some (f x)) ∧ Sat w0 ((g,cells cur t)::F) w := by
  obtain ⟨q,c,hv⟩ := shapeN h hm
  subst hv
  obtain ⟨g,hq,hc,h1⟩ := openS h hm h0
  subst hq
  obtain ⟨cur,h2,k1,k2,k3,k4,k5⟩ := h1.slcOf (g := g) (n := 1) (f := fun x => [f x]) (l := X) (cap := c) (t := t)
  refine ⟨g,c,cur,rfl,hc,fun k x hx => ?_,h2⟩
  have hk := (List.getElem?_eq_some_iff.1 hx).1
  have h3 := flatMap_get (n := 1) (f := fun x => [f x]) (l := X) (i := k) (j := 0) (x := x) (fun x _ => rfl) hx (by omega)
  rw [← k4,List.getElem?_take,if_pos (by omega)] at h3
  rw [Nat.zero_add,← Array.getElem?_toList]
  simpa using h3
set_option maxRecDepth 100000 in
set_option maxHeartbeats 16000000 in
theorem go_first {sk : SK} {l : List SK} {n0 : Nat} (hn : D.st.length = n) (hs : s.Wf) (hb : 1 ≤ pl.b ∧ pl.b ≤ 256) (hhd : pl.hd + 5 ≤ 65536) (hjb : pl.jn + pl.b ≤ n) (hR : R.Wf) (hP : Ps.length ≤ 900000) (hsm : D.wt.length ≤ n0 ∧ D.wr.length ≤ n0 ∧ D.count ≤ n0 ∧ D.armed ≤ 9223372036854775807) (hn0 : n0 ≤ 900000) (hK : KTab w0)
    (hsk : stepsJ dig pl.jn (headWs pl.hd (headR s.version L pl.b)) L (busyR s (mkF (headR s.version L pl.b) (L.map (·.2)))) = sk::l)
    (hS : Sat w0 ((1,LogV lg Ps)::(j,JobN d r lg pl L)::(r,RegC d R)::(d,DevG cv D)::K) w) :
    Calls Tryd.prog 8 #[.pointer (some ⟨j,0,none⟩),.agg (stV s).toArray] w fun e w' => e = .returned (.tuple #[.bool (decide ((stepJ dig D R sk).2.2 = 0) && l.isEmpty),.int .i64 (stepJ dig D R sk).2.2]) ∧
      Sat w0 ((1,LogV lg (goPs Ps s L pl.b (noteJ D sk)))::(j,JobB n d r lg pl l (stepJ dig D R sk).2.2)::(r,RegC d (stepJ dig D R sk).2.1)::(d,DevG cv (stepJ dig D R sk).1)::K) w' := by
  obtain ⟨vB,vD,vI,XI,hf,hS1⟩ := openJobN (hS.pull j (X := JobN d r lg pl L))
  have hokD := devOk (hS.pull d (X := DevG cv D))
  have hS2 := hS1.conv (S' := (1,LogV lg Ps)::(j,cells (jobA d r lg pl vB vD vI (.slice none 0 0) false 0) 90)::(blk vB,sl 1 i64 (jobBs L) 3 vB)::(blk vD,sl 32 digF (jobDs L) 26 vD)::(blk vI,sl 1 rowF XI 48 vI)::(79,inn XI 5)::(r,RegC d R)::(d,DevG cv D)::K)
  clear hS hS1
  have hS := hS2
  clear hS2
  obtain ⟨W,hW⟩ : ∃ W,stepJ dig D R sk = W := ⟨_,rfl⟩
  have HW : Bx _ := ⟨hW⟩
  rw [hW]
  have HSs : Bx ((stV s).toArray.size = 72) := ⟨by rw [List.size_toArray];exact stV_len hs⟩
  have HF : Bx _ := ⟨hf⟩
  have HSk : Bx _ := ⟨hsk⟩
  have HN : Bx _ := ⟨hn⟩
  have HR : Bx _ := ⟨hR⟩
  have HSm : Bx _ := ⟨hsm⟩
  have HWs : Bx _ := ⟨hs⟩
  have HJb : Bx _ := ⟨hjb⟩
  clear hW hf hsk hn hR hsm hs hjb hokD
  go_enter Tryd.func8,Tryd.ntmps8
  go_wp2_with (first | (refine boxN (cs := (stV s).toArray) hS rfl rfl rfl ?_;clear hS;intro m3 w hS;simp only [putW]) | (refine loadAll (b := m3) (c := (stV s).toArray) hS rfl rfl rfl HSs.out ?_;simp only [putW]) | (guard_target =~ Calls _ 34 _ _ _;refine Stopped.out ?_) | (refine load1 hS rfl rfl rfl rfl ?_;simp only [putW]) | (refine store1 hS rfl rfl rfl rfl rfl ?_ ?_;(focus (simp;done));clear hS;intro w hS;simp only [evW,putW] at hS;try simp only [putW]))
  refine ⟨?_⟩
  refine Calls.mono (plan_any (vB := vB) (vD := vD) (vI := vI) (XI := XI) HF.out HWs.out hb (by omega) hP hK (hS.conv (S' := (1,LogV lg Ps)::(j,cells (jobA d r lg pl vB vD vI (.slice none 0 0) true 0) 90)::(blk vB,sl 1 i64 (jobBs L) 3 vB)::(blk vD,sl 32 digF (jobDs L) 26 vD)::(blk vI,sl 1 rowF XI 48 vI)::(79,inn XI 5)::(m3,cells (stV s).toArray 28)::(r,RegC d R)::(d,DevG cv D)::K))) ?_
  clear hS
  rintro _ w ⟨vS,bj,bn,X0,rfl,HX0,hS⟩
  simp only [putW]
  obtain ⟨H,hH⟩ : ∃ H,headR s.version L pl.b = H := ⟨_,rfl⟩
  obtain ⟨mk,hmk⟩ : ∃ mk,mkF H (L.map (·.2)) = mk := ⟨_,rfl⟩
  obtain ⟨PQ,hPQ⟩ : ∃ PQ,Ps ++ [(mkM H (L.map (·.2)),mk)] = PQ := ⟨_,rfl⟩
  obtain ⟨nx,hnx⟩ : ∃ nx,busyR s mk = nx := ⟨_,rfl⟩
  have hHl : H.length = heads pl.b := by rw [← hH];exact cut_length _ _
  have hHr : ∀ r ∈ H,isRow r := fun r hr => by
    rw [← hH] at hr
    have hokL : okL (jobBs L) pl.b := ⟨⟨by omega,by omega⟩,by unfold jobBs;rw [List.length_map];have := HF.out.2.2;omega,fun x hx => by
      obtain ⟨y,hy,rfl⟩ := List.mem_map.1 hx
      have := (HF.out.2.1 y hy).1
      omega⟩
    exact ⟨cut_mem (full_length hokL) hr,cut_byt (full_byt _ _ _) hr⟩
  have hh5 : 1 ≤ heads pl.b ∧ heads pl.b ≤ 5 := by unfold heads;omega
  have hmkd : isDig mk := by rw [← hmk];exact mkF_dig _ _
  rw [hH,hmk,hPQ,hnx] at hS
  have hsk := HSk.out
  rw [hH,hmk,hnx] at hsk
  rw [hH] at HX0
  have hnxw : nx.Wf := by rw [← hnx];exact busyR_wf HWs.out hmkd
  have hall : X0.map (skOf pl (jobBs L) (jobDs L) nx) = sk::l := by
    have e1 : X0.map (skOf pl (jobBs L) (jobDs L) nx) = (X0.map (·.k)).map (skK pl (jobBs L) (jobDs L) nx) := by
      rw [List.map_map]
      exact List.map_congr_left fun x _ => skOf_k _ _ _ _ x
    rw [e1,HX0.out,← hHl,skK_all,hsk]
  have hok : ∀ x ∈ X0,stOk n pl (jobBs L) (jobDs L) x := fun x hx => by
    have hk : x.k ∈ wrK H (heads pl.b) ++ [StK.fl,StK.rg1] ++ hmK L.length ++ [StK.fl,StK.rg2] := by rw [← HX0.out];exact List.mem_map_of_mem hx
    unfold stOk
    simp only [List.mem_append,List.mem_cons,List.not_mem_nil,or_false] at hk
    rcases hk with ((hk | hk) | hk) | hk
    · unfold wrK at hk
      obtain ⟨y,hy,he⟩ := List.mem_map.1 hk
      rw [← he]
      have hy2 := List.mem_of_mem_take hy
      have hyl := List.snd_lt_of_mem_zipIdx hy2
      have hym : y.1 ∈ H := List.fst_mem_of_mem_zipIdx hy2
      exact ⟨hHr y.1 hym,by omega⟩
    · rcases hk with hk | hk <;> rw [hk] <;> trivial
    · unfold hmK at hk
      obtain ⟨i,hi,he⟩ := List.mem_map.1 hk
      rw [← he]
      have hil : i < L.length := List.mem_range.1 hi
      refine ⟨⟨(L[i]).1,by unfold jobBs;rw [List.getElem?_map,List.getElem?_eq_getElem hil];rfl⟩,⟨_,by unfold jobDs;rw [List.getElem?_map,List.getElem?_eq_getElem hil];rfl,dig_len' _ _,dig_okB _ _⟩,?_⟩
      have := HF.out.2.2
      have := HJb.out
      omega
    · rcases hk with hk | hk <;> rw [hk] <;> trivial
  have hlast : stLast X0 := fun i x hx hk => by
    have h1 : (X0.map (·.k))[i]? = some .rg2 := by rw [List.getElem?_map,hx];exact congrArg some hk
    have hl : X0.length = (wrK H (heads pl.b) ++ [StK.fl,StK.rg1] ++ hmK L.length ++ [StK.fl,StK.rg2]).length := by rw [← HX0.out,List.length_map]
    rw [HX0.out] at h1
    have hil := (List.getElem?_eq_some_iff.1 h1).1
    by_cases e : i + 1 = X0.length
    · exact e.symm
    · exfalso
      have e2 : wrK H (heads pl.b) ++ [StK.fl,StK.rg1] ++ hmK L.length ++ [StK.fl,StK.rg2] = (wrK H (heads pl.b) ++ [StK.fl,StK.rg1] ++ hmK L.length ++ [StK.fl]) ++ [StK.rg2] := by simp
      rw [e2] at h1 hil hl
      rw [List.length_append] at hil hl
      simp only [List.length_cons,List.length_nil] at hil hl
      rw [List.getElem?_append_left (by omega)] at h1
      have hm := List.mem_of_getElem? h1
      simp only [List.mem_append,List.mem_cons,List.not_mem_nil,or_false] at hm
      rcases hm with ((hm | hm) | hm) | hm
      · unfold wrK at hm
        obtain ⟨y,_,he⟩ := List.mem_map.1 hm
        cases he
      · rcases hm with hm | hm <;> cases hm
      · unfold hmK at hm
        obtain ⟨y,_,he⟩ := List.mem_map.1 hm
        cases he
      · cases hm
  have hfirst : ∃ r0,(X0.map (·.k))[0]? = some (.wr 0 r0) := by
    rw [HX0.out]
    obtain ⟨r0,hr0⟩ : ∃ r0,H[0]? = some r0 := ⟨_,List.getElem?_eq_getElem (by omega)⟩
    refine ⟨r0,?_⟩
    have e1 : (wrK H (heads pl.b))[0]? = some (.wr 0 r0) := by
      unfold wrK
      rw [List.getElem?_map,List.getElem?_take,if_pos (by omega),List.getElem?_zipIdx,hr0]
      simp
    have e2 : 0 < (wrK H (heads pl.b)).length := (List.getElem?_eq_some_iff.1 e1).1
    rw [List.append_assoc,List.append_assoc,List.getElem?_append_left e2,e1]
  have HPQl : Bx (PQ.length ≤ 900001) := ⟨by rw [← hPQ,List.length_append];simp;omega⟩
  have HPQ : Bx (Ps ++ [(mkM (headR s.version L pl.b) (L.map (·.2)),mkF (headR s.version L pl.b) (L.map (·.2)))] = PQ) := ⟨by rw [hH,hmk,hPQ]⟩
  obtain ⟨Bs,hBs⟩ : ∃ Bs,jobBs L = Bs := ⟨_,rfl⟩
  obtain ⟨Ds,hDs⟩ : ∃ Ds,jobDs L = Ds := ⟨_,rfl⟩
  rw [hBs,hDs] at hS hall
  rw [hBs,hDs] at hok
  clear hH hmk hPQ hnx hHl hHr hh5 hmkd hsk HX0 hBs hDs
  cases X0 with
  | nil => cases hall
  | cons y X =>
    obtain ⟨r0,hr0⟩ := hfirst
    have hy0 : y.k = .wr 0 r0 := by simpa using hr0
    obtain ⟨hy,hl⟩ : skOf pl Bs Ds nx y = sk ∧ X.map (skOf pl Bs Ds nx) = l := by simpa using hall
    clear hall hr0
    obtain ⟨m,hm⟩ : ∃ m,X.length = m := ⟨_,rfl⟩
    have e1 : (y::X).length = m + 1 := by rw [List.length_cons,hm]
    obtain ⟨gq,cap,cur,hv,hcap,hcur,hS2⟩ := slOpen1 (f := stVal d bj bn) (hS.pull (blk vS) (X := sl 1 (stF d bj bn) (y::X) 91 vS)) e1 (by omega)
    subst hv
    have hq0 : cur[0]? = some (stVal d bj bn y) := hcur 0 y rfl
    have HM : Bx _ := ⟨hm⟩
    have HY : Bx _ := ⟨hy⟩
    have HL : Bx _ := ⟨hl⟩
    have HNx : Bx _ := ⟨hnxw⟩
    have HOk : Bx (∀ x ∈ X,stOk n pl Bs Ds x) := ⟨fun x hx => hok x (by simp [hx])⟩
    have HOy : Bx (stOk n pl Bs Ds y) := ⟨hok y (by simp)⟩
    have HLast : Bx _ := ⟨hlast⟩
    have HCap : Bx ((y::X).length ≤ cap) := ⟨by rw [e1];exact hcap⟩
    have HCur : Bx _ := ⟨hcur⟩
    have HQ0 : Bx _ := ⟨hq0⟩
    obtain ⟨D1,R1,c⟩ := W
    have hS3 := hS2.conv (S' := (1,LogV lg PQ)::(j,cells (jobA d r lg pl vB vD (.slice none 0 0) (.slice (some ⟨gq,0,none⟩) (m + 1) cap) true 0) 90)::(blk vB,sl 1 i64 Bs 3 vB)::(blk vD,sl 32 digF Ds 26 vD)::(bj,cells #[.pointer (some ⟨j,0,none⟩)] 38)::(bn,cells (stV nx).toArray 28)::(gq,cells cur 91)::(77,stEnv (y::X))::(r,RegC d R)::(d,DevG cv D)::K)
    have hS4 := packed 78 (stEnv_cons (hS3.pull 77 (X := stEnv (y::X))))
    clear hS hS2 hS3 hm hy hl hnxw hok hlast hcap hcur hq0 e1
    obtain ⟨nx1,hnx1⟩ : ∃ nx1,(match y.k with | .rg2 => calm nx | _ => nx) = nx1 := ⟨_,rfl⟩
    have HNx1 : Bx _ := ⟨hnx1⟩
    clear hnx1
    have hS := hS4
    clear hS4
    have dm : decide (((m + 1 : Nat) : Int) = 0) = false := decide_eq_false (by omega)
    have dm2 : ((((m + 1 : Nat) : Int)) == 0) = false := by simpa using (by omega : ((m + 1 : Nat) : Int) ≠ 0)
    have HGo : Bx (goPs Ps s L pl.b (noteJ D sk) = PQ ++ noteJ D sk) := ⟨by unfold goPs;rw [HPQ.out]⟩
    go_upto_region 8 with (first | (refine load1 hS rfl rfl rfl rfl ?_;simp only [putW]) | (refine store1 hS rfl rfl rfl rfl rfl ?_ ?_;(focus (simp;done));clear hS;intro w hS;simp only [evW,putW] at hS;try simp only [putW]))
    go_cut [] from 44 to 53 (fun wc => Sat w0 ((1,LogV lg (PQ ++ noteJ D sk))::(j,cells (jobA d r lg pl vB vD (.slice none 0 0) (.slice (some ⟨gq,0,none⟩) (m + 1) cap) true c) 90)::(blk vB,sl 1 i64 Bs 3 vB)::(blk vD,sl 32 digF Ds 26 vD)::(bj,cells #[.pointer (some ⟨j,0,none⟩)] 38)::(bn,cells (stV nx1).toArray 28)::(gq,cells cur 91)::(77,stEnv X)::(r,RegC d R1)::(d,DevG cv D1)::K) wc)
    case first =>
      obtain ⟨yk,y1,y2,yv⟩ := y
      have hyk : yk = .wr 0 r0 := hy0
      subst hyk
      have hny : nx = nx1 := HNx1.out
      subst hny
      have hsk := HY.out
      replace hsk : .wr (pl.hd + 0) r0 = sk := hsk
      subst hsk
      have hWe := HW.out
      have e1 : (D.write ((pl.hd + 0 : Nat) : Int) r0).1 = D1 := congrArg (·.1) hWe
      have e2 : R = R1 := congrArg (·.2.1) hWe
      have e3 : (D.write ((pl.hd + 0 : Nat) : Int) r0).2 = c := congrArg (·.2.2) hWe
      subst e2
      have E1 : Bx _ := ⟨e1⟩
      have E3 : Bx _ := ⟨e3⟩
      clear hWe e1 e3
      have hoy := HOy.out
      replace hoy : isRow r0 ∧ pl.hd + 0 ≤ 65536 := hoy
      have HOw : Bx _ := ⟨hoy⟩
      clear hoy
      replace hS := unpacked (hS.pull 78 (X := pkC (stChunks ⟨.wr 0 r0,y1,y2,yv⟩)))
      simp only [stChunks,List.cons_append,List.nil_append] at hS
      replace hS := hS.conv (S' := (bj,cells #[.pointer (some ⟨j,0,none⟩)] 38)::(j,cells (jobA d r lg pl vB vD (.slice none 0 0) (.slice (some ⟨gq,0,none⟩) (m + 1) cap) true 0) 90)::(y1,cells #[.int .i64 ((0 : Nat) : Int)] 3)::(y2,cells #[yv] 48)::(blk yv,sl 1 by8 r0 5 yv)::(d,DevG cv D)::(1,LogV lg PQ)::(blk vB,sl 1 i64 Bs 3 vB)::(blk vD,sl 32 digF Ds 26 vD)::(bn,cells (stV nx).toArray 28)::(gq,cells cur 91)::(77,stEnv X)::(r,RegC d R)::K)
      go_wp2_with (first | (refine load1 (b := gq) (v := .func (.func 55) #[] #[.pointer (some ⟨bj,0,none⟩),.pointer (some ⟨y1,0,none⟩),.pointer (some ⟨y2,0,none⟩)]) hS rfl rfl rfl HQ0.out ?_;simp only [putW]) | (guard_target =~ Calls _ 55 _ _ _;refine Stopped.out ?_) | (refine load1 hS rfl rfl rfl rfl ?_;simp only [putW]))
      refine ⟨?_⟩
      refine Calls.mono (step_wr (i := 0) (B := r0) HOw.out.1 HOw.out.2 HSm.out hn0 (hS.conv (S' := (bj,cells #[.pointer (some ⟨j,0,none⟩)] 38)::(j,cells (jobA d r lg pl vB vD (.slice none 0 0) (.slice (some ⟨gq,0,none⟩) (m + 1) cap) true 0) 90)::(y1,cells #[.int .i64 ((0 : Nat) : Int)] 3)::(y2,cells #[yv] 48)::(blk yv,sl 1 by8 r0 5 yv)::(d,DevG cv D)::(1,LogV lg PQ)::(blk vB,sl 1 i64 Bs 3 vB)::(blk vD,sl 32 digF Ds 26 vD)::(bn,cells (stV nx).toArray 28)::(gq,cells cur 91)::(77,stEnv X)::(r,RegC d R)::K))) ?_
      rw [E1.out,E3.out]
      clear hS
      rintro _ w ⟨rfl,hS⟩
      simp only [putW]
      go_wp2_with (refine store1 hS rfl rfl rfl rfl rfl ?_ ?_;(focus (simp;done));clear hS;intro w hS;simp only [evW,putW] at hS;try simp only [putW])
      go_meet
      case rel => exact (show Sat w0 ((1,LogV lg (PQ ++ []))::_) _ by rw [List.append_nil];exact hS.conv)
    case rest =>
      clear hS
      have hS := hcut
      clear hcut
      obtain ⟨q9,c9,h9⟩ : ∃ q9 c9,loVn 1 (some ⟨gq,0,none⟩) (m + 1) cap 1 = .slice q9 m c9 := ⟨_,_,by unfold loVn;rw [show m + 1 - 1 = m by omega]⟩
      have H9 : Bx _ := ⟨h9⟩
      have H1m : 1 ≤ m + 1 := by omega
      clear h9
      have HFin : Bx (X.map (skOf pl Bs Ds nx1) = l ∧ nx1.Wf ∧ (∀ x ∈ X,stOk n pl Bs Ds x) ∧ stLast X) := ⟨by
        have hl2 := stLast_tail HLast.out
        have hw1 : nx1.Wf := by
          rw [← HNx1.out]
          split
          · exact calm_wf HNx.out
          · exact HNx.out
        refine ⟨?_,hw1,HOk.out,hl2⟩
        rw [← HL.out]
        by_cases hk : y.k = .rg2
        · have hx0 := HLast.out 0 y rfl hk
          have hx1 : X = [] := List.eq_nil_of_length_eq_zero (by simpa using hx0)
          rw [hx1]
          rfl
        · have e : nx1 = nx := by
            rw [← HNx1.out]
            split
            · rename_i h;exact absurd h hk
            · rfl
          rw [e]⟩
      have hfin : ∀ {w4 : World},Sat w0 ((1,LogV lg (PQ ++ noteJ D sk))::(j,cells (jobA d r lg pl vB vD (.slice none 0 0) (.slice q9 m c9) true c) 90)::(blk vB,sl 1 i64 Bs 3 vB)::(blk vD,sl 32 digF Ds 26 vD)::(bj,cells #[.pointer (some ⟨j,0,none⟩)] 38)::(bn,cells (stV nx1).toArray 28)::(gq,cells cur 91)::(77,stEnv X)::(r,RegC d R1)::(d,DevG cv D1)::K) w4 → Sat w0 ((1,LogV lg (PQ ++ noteJ D sk))::(j,JobB n d r lg pl l c)::(r,RegC d R1)::(d,DevG cv D1)::K) w4 := fun {w4} h => by
        have h1 := q1Pop (f := stVal d bj bn) (x := y) (L := X) (h.pull gq (X := cells cur 91)) HCap.out HCur.out HM.out
        rw [H9.out] at h1
        have h2 : Sat w0 ((j,cells (jobA d r lg pl vB vD (.slice none 0 0) (.slice q9 m c9) true c) 90)::(blk vB,sl 1 i64 Bs 3 vB)::(blk vD,sl 32 digF Ds 26 vD)::(bj,cells #[.pointer (some ⟨j,0,none⟩)] 38)::(bn,cells (stV nx1).toArray 28)::(blk (.slice q9 m c9),q1C (stVal d bj bn) X 91 (.slice q9 m c9))::(77,stEnv X)::(1,LogV lg (PQ ++ noteJ D sk))::(r,RegC d R1)::(d,DevG cv D1)::K) w4 := h1.conv
        have h3 := closeJobB (n := n) (Y := l) HFin.out h2
        exact h3.conv
      have hres : l.isEmpty = decide (m = 0) := by
        rw [← HL.out]
        cases X with
        | nil => have := HM.out;simp at this;subst this;rfl
        | cons a b => have := HM.out;simp at this;subst this;simp
      have HRes : Bx _ := ⟨hres⟩
      clear hres
      go_upto_region 10 with (first | (refine sliceLoW (k := 1) rfl rfl rfl rfl rfl H1m H9.out ?_;simp only [putW]) | (refine load1 hS rfl rfl rfl rfl ?_;simp only [putW]) | (refine store1 hS rfl rfl rfl rfl rfl ?_ ?_;(focus (simp;done));clear hS;intro w hS;simp only [evW,putW] at hS;try simp only [putW]))
      by_cases hc : c = 0
      · subst hc
        cases m with
        | zero =>
          (refine region_quiet hS (by kernel_rfl) (by kernel_rfl) (by kernel_rfl) ?_;clear hS;(repeat (first | (refine quiet_y (yMove rfl rfl rfl) ?_;simp only [evW,putW]) | (refine quiet_y (yNil rfl rfl rfl) ?_;simp only [putW]) | (refine quiet_y (yLoad1 (fun _ h => h) rfl rfl rfl rfl) ?_;simp only [putW]) | (apply quiet_y;(focus (apply yRun rfl;intro w;first | (go_simp;done) | (go_simp;rfl)));simp only [putW])));refine quiet_nil ?_;intro w hS)
          go_wp2_with (refine load1 hS rfl rfl rfl rfl ?_;simp only [putW])
          refine bodyPost_ret (v := .tuple #[.bool true,.int .i64 0]) (by simp [results,Tryd.results8]) rfl ⟨by rw [HRes.out];rfl,by rw [HGo.out];exact hfin hS.conv⟩
        | succ m =>
          have d5 : decide ((m : Int) + 1 = 0) = false := decide_eq_false (by omega)
          have d6 : ((m : Int) + 1 == 0) = false := by simpa using (by omega : (m : Int) + 1 ≠ 0)
          (refine region_quiet hS (by kernel_rfl) (by kernel_rfl) (by kernel_rfl) ?_;clear hS;(repeat (first | (refine quiet_y (yMove rfl rfl rfl) ?_;simp only [evW,putW]) | (refine quiet_y (yNil rfl rfl rfl) ?_;simp only [putW]) | (refine quiet_y (yLoad1 (fun _ h => h) rfl rfl rfl rfl) ?_;simp only [putW]) | (apply quiet_y;(focus (apply yRun rfl;intro w;first | (go_simp;done) | (go_simp;rfl)));simp only [putW])));refine quiet_nil ?_;intro w hS)
          go_wp2_with (refine load1 hS rfl rfl rfl rfl ?_;simp only [putW])
          refine bodyPost_ret (v := .tuple #[.bool false,.int .i64 0]) (by simp [results,Tryd.results8]) rfl ⟨by rw [HRes.out];simp,by rw [HGo.out];exact hfin hS.conv⟩
      · have d5 : decide (c = 0) = false := decide_eq_false hc
        have d6 : (c == 0) = false := by simpa using hc
        have HC : Bx _ := ⟨d5⟩
        clear hc
        (refine region_quiet hS (by kernel_rfl) (by kernel_rfl) (by kernel_rfl) ?_;clear hS;(repeat (first | (refine quiet_skip rfl ?_;simp only [putW]) | (refine quiet_y (yMove rfl rfl rfl) ?_;simp only [evW,putW]) | (refine quiet_y (yNil rfl rfl rfl) ?_;simp only [putW]) | (refine quiet_y (yLoad1 (fun _ h => h) rfl rfl rfl rfl) ?_;simp only [putW]) | (apply quiet_y;(focus (apply yRun rfl;intro w;first | (go_simp;done) | (go_simp;rfl)));simp only [putW])));refine quiet_nil ?_;intro w hS)
        go_wp2_with (refine load1 hS rfl rfl rfl rfl ?_;simp only [putW])
        refine bodyPost_ret (v := .tuple #[.bool false,.int .i64 c]) (by simp [results,Tryd.results8]) rfl ⟨by first | rfl | (rw [HC.out];rfl),by rw [HGo.out];exact hfin hS.conv⟩

end
end Go.Proofs.YtdkimdobcacpfaaDoor
