/-
  base.Job: Go does one step of a job at work.
  base: NewJob where the plan fits; Job.Put.
-/
import Derived.Test.YtdkimdobcacpfaaDoorJbA
set_option linter.unusedSimpArgs false
set_option linter.unusedVariables false
namespace Go.Proofs.YtdkimdobcacpfaaDoor
open Go.RowKit Go.Proofs.YtdkimdobcacpfaaDoor.Sl Go.Proofs.YtdkimdobcacpfaaDoor.Sha Go.Proofs.YtdkimdobcacpfaaDoor.Jp Go.Proofs.YtdkimdobcacpfaaDoor.Tr Go.Proofs.YtdkimdobcacpfaaDoor.Dv

section
variable {P : Program} {ops : Array Oper} {rest : List Oper} {o : Oper} {a : Act} {Q : Exit → Act → World → Prop} {w : World} {x lo : Operand} {t e : TypeId} {z : Array Value} {zv v : Value} {agg : Bool} {n len cap k : Nat} {q : Option Addr} {qk : IntKind} {li : Int}
theorem sliceLoW (hw : Region.wanted o (yielded ops a.tmps) = true) (ho : o.op = .slice t x (some lo) none none) (hx : a.eval x = .slice q len cap) (hlo : a.eval lo = .int qk li) [st : SliceTy P t e] [ty : Ty P e agg n zv z] (hli : li = (k : Int)) (hk : k ≤ len) (hv : loVn n q len cap k = v)
    (kk : wpList P ops Q rest (a.put o.dst v) w) : wpList P ops Q (o::rest) a w := by
  subst hv
  exact sliceLoV hw ho hx hlo hli hk kk
end
section
variable {w0 w : World} {K F S : List Chunk} {n d r j : Nat} {D : Dev} {cv lg : Value} {pl : Pl} {Ps : List (List Int × List Int)} {R : Rg}
set_option maxRecDepth 100000 in
set_option maxHeartbeats 16000000 in
theorem go_step {sk : SK} {l : List SK} {n0 : Nat} {cs : Array Value} (hn : D.st.length = n) (hR : R.Wf) (hP : Ps.length ≤ 900000) (hsm : D.wt.length ≤ n0 ∧ D.wr.length ≤ n0 ∧ D.count ≤ n0 ∧ D.armed ≤ 9223372036854775807) (hn0 : n0 ≤ 900000) (hK : KTab w0) (hS : Sat w0 ((1,LogV lg Ps)::(j,JobB n d r lg pl (sk::l) 0)::(r,RegC d R)::(d,DevG cv D)::K) w) :
    Calls Tryd.prog 8 #[.pointer (some ⟨j,0,none⟩),.agg cs] w fun e w' => e = .returned (.tuple #[.bool (decide ((stepJ dig D R sk).2.2 = 0) && l.isEmpty),.int .i64 (stepJ dig D R sk).2.2]) ∧ Sat w0 ((1,LogV lg (Ps ++ noteJ D sk))::(j,JobB n d r lg pl l (stepJ dig D R sk).2.2)::(r,RegC d (stepJ dig D R sk).2.1)::(d,DevG cv (stepJ dig D R sk).1)::K) w' := by
  obtain ⟨vB,vD,vI,vS,Bs,Ds,bj,bn,nx,X0,⟨hX,hnx,hok,hlast⟩,hS1⟩ := openJobB (hS.pull j (X := JobB n d r lg pl (sk::l) 0))
  cases X0 with
  | nil => cases hX
  | cons y X =>
    obtain ⟨hy,hl⟩ : skOf pl Bs Ds nx y = sk ∧ X.map (skOf pl Bs Ds nx) = l := by simpa using hX
    clear hS hX
    simp only [jobL,List.cons_append,List.nil_append] at hS1
    obtain ⟨off,cap,cur,hv,hcap,hcur,hS2⟩ := q1Open (hS1.pull (blk vS) (X := q1C (stVal d bj bn) (y::X) 91 vS)) (by simp)
    obtain ⟨gq,hgq⟩ : ∃ gq,blk vS = gq := ⟨_,rfl⟩
    rw [hgq] at hv hS2
    subst hv
    clear hS1 hgq
    obtain ⟨m,hm⟩ : ∃ m,X.length = m := ⟨_,rfl⟩
    have e1 : (y::X).length = m + 1 := by rw [List.length_cons,hm]
    rw [e1] at hS2
    have hq0 : cur[off]? = some (stVal d bj bn y) := hcur 0 y rfl
    obtain ⟨W,hW⟩ : ∃ W,stepJ dig D R sk = W := ⟨_,rfl⟩
    have HW : Bx _ := ⟨hW⟩
    rw [hW]
    have HN : Bx _ := ⟨hn⟩
    have HR : Bx _ := ⟨hR⟩
    have HSm : Bx _ := ⟨hsm⟩
    have HM : Bx _ := ⟨hm⟩
    have HY : Bx _ := ⟨hy⟩
    have HL : Bx _ := ⟨hl⟩
    have HNx : Bx _ := ⟨hnx⟩
    have HOk : Bx (∀ x ∈ X,stOk n pl Bs Ds x) := ⟨fun x hx => hok x (by simp [hx])⟩
    have HOy : Bx (stOk n pl Bs Ds y) := ⟨hok y (by simp)⟩
    have HLast : Bx _ := ⟨hlast⟩
    have HCap : Bx _ := ⟨hcap⟩
    have HCur : Bx _ := ⟨hcur⟩
    have HQ0 : Bx _ := ⟨hq0⟩
    obtain ⟨D1,R1,c⟩ := W
    have hS3 : Sat w0 ((1,LogV lg Ps)::(j,cells (jobA d r lg pl vB vD vI (.slice (some ⟨gq,off,none⟩) (m + 1) cap) true 0) 90)::(blk vB,sl 1 i64 Bs 3 vB)::(blk vD,sl 32 digF Ds 26 vD)::(bj,cells #[.pointer (some ⟨j,0,none⟩)] 38)::(bn,cells (stV nx).toArray 28)::(gq,cells cur 91)::(77,stEnv (y::X))::(r,RegC d R)::(d,DevG cv D)::K) w := hS2.conv
    have hS4 := packed 78 (stEnv_cons (hS3.pull 77 (X := stEnv (y::X))))
    clear hS2 hS3 hn hR hsm hm hy hl hnx hok hlast hcap hcur hq0 hW e1
    obtain ⟨nx1,hnx1⟩ : ∃ nx1,(match y.k with | .rg2 => calm nx | _ => nx) = nx1 := ⟨_,rfl⟩
    have HNx1 : Bx _ := ⟨hnx1⟩
    clear hnx1
    have hS := hS4
    clear hS4
    have dm : decide (((m + 1 : Nat) : Int) = 0) = false := decide_eq_false (by omega)
    have dm2 : ((((m + 1 : Nat) : Int)) == 0) = false := by simpa using (by omega : ((m + 1 : Nat) : Int) ≠ 0)
    go_enter Tryd.func8,Tryd.ntmps8
    go_upto_region 8 with (first | (refine boxN (cs := cs) hS rfl rfl rfl ?_;clear hS;intro m3 w hS;simp only [putW]) | (refine load1 hS rfl rfl rfl rfl ?_;simp only [putW]))
    go_cut [] from 44 to 53 (fun wc => Sat w0 ((1,LogV lg (Ps ++ noteJ D sk))::(j,cells (jobA d r lg pl vB vD vI (.slice (some ⟨gq,off,none⟩) (m + 1) cap) true c) 90)::(blk vB,sl 1 i64 Bs 3 vB)::(blk vD,sl 32 digF Ds 26 vD)::(bj,cells #[.pointer (some ⟨j,0,none⟩)] 38)::(bn,cells (stV nx1).toArray 28)::(gq,cells cur 91)::(77,stEnv X)::(r,RegC d R1)::(d,DevG cv D1)::K) wc)
    case first =>
      obtain ⟨yk,y1,y2,yv⟩ := y
      cases yk with
      | wr i B =>
        have hny : nx = nx1 := HNx1.out
        subst hny
        have hsk := HY.out
        replace hsk : .wr (pl.hd + i) B = sk := hsk
        subst hsk
        have hWe := HW.out
        have e1 : (D.write ((pl.hd + i : Nat) : Int) B).1 = D1 := congrArg (·.1) hWe
        have e2 : R = R1 := congrArg (·.2.1) hWe
        have e3 : (D.write ((pl.hd + i : Nat) : Int) B).2 = c := congrArg (·.2.2) hWe
        subst e2
        have E1 : Bx _ := ⟨e1⟩
        have E3 : Bx _ := ⟨e3⟩
        clear hWe e1 e3
        have hoy := HOy.out
        replace hoy : isRow B ∧ pl.hd + i ≤ 65536 := hoy
        have HOw : Bx _ := ⟨hoy⟩
        clear hoy
        replace hS := unpacked (hS.pull 78 (X := pkC (stChunks ⟨.wr i B,y1,y2,yv⟩)))
        simp only [stChunks,List.cons_append,List.nil_append] at hS
        replace hS := hS.conv (S' := (bj,cells #[.pointer (some ⟨j,0,none⟩)] 38)::(j,cells (jobA d r lg pl vB vD vI (.slice (some ⟨gq,off,none⟩) (m + 1) cap) true 0) 90)::(y1,cells #[.int .i64 i] 3)::(y2,cells #[yv] 48)::(blk yv,sl 1 by8 B 5 yv)::(d,DevG cv D)::(m3,cells cs 28)::(1,LogV lg Ps)::(blk vB,sl 1 i64 Bs 3 vB)::(blk vD,sl 32 digF Ds 26 vD)::(bn,cells (stV nx).toArray 28)::(gq,cells cur 91)::(77,stEnv X)::(r,RegC d R)::K)
        go_wp2_with (first | (refine load1 (b := gq) (v := .func (.func 55) #[] #[.pointer (some ⟨bj,0,none⟩),.pointer (some ⟨y1,0,none⟩),.pointer (some ⟨y2,0,none⟩)]) hS rfl rfl rfl HQ0.out ?_;simp only [putW]) | (guard_target =~ Calls _ 55 _ _ _;refine Stopped.out ?_) | (refine load1 hS rfl rfl rfl rfl ?_;simp only [putW]))
        refine ⟨?_⟩
        refine Calls.mono (step_wr (i := i) (B := B) HOw.out.1 HOw.out.2 HSm.out hn0 (hS.conv (S' := (bj,cells #[.pointer (some ⟨j,0,none⟩)] 38)::(j,cells (jobA d r lg pl vB vD vI (.slice (some ⟨gq,off,none⟩) (m + 1) cap) true 0) 90)::(y1,cells #[.int .i64 i] 3)::(y2,cells #[yv] 48)::(blk yv,sl 1 by8 B 5 yv)::(d,DevG cv D)::(1,LogV lg Ps)::(blk vB,sl 1 i64 Bs 3 vB)::(blk vD,sl 32 digF Ds 26 vD)::(bn,cells (stV nx).toArray 28)::(gq,cells cur 91)::(77,stEnv X)::(r,RegC d R)::K))) ?_
        rw [E1.out,E3.out]
        clear hS
        rintro _ w ⟨rfl,hS⟩
        simp only [putW]
        go_wp2_with (refine store1 hS rfl rfl rfl rfl rfl ?_ ?_;(focus (simp;done));clear hS;intro w hS;simp only [evW,putW] at hS;try simp only [putW])
        go_meet
        case rel => exact (show Sat w0 ((1,LogV lg (Ps ++ []))::_) _ by rw [List.append_nil];exact hS.conv)
      | fl =>
        have hny : nx = nx1 := HNx1.out
        subst hny
        have hsk := HY.out
        replace hsk : .fl = sk := hsk
        subst hsk
        have hWe := HW.out
        have e1 : D.flush.1 = D1 := congrArg (·.1) hWe
        have e2 : R = R1 := congrArg (·.2.1) hWe
        have e3 : D.flush.2 = c := congrArg (·.2.2) hWe
        have E1 : Bx _ := ⟨e1⟩
        have E2 : Bx _ := ⟨e2⟩
        have E3 : Bx _ := ⟨e3⟩
        clear hWe e1 e2 e3
        replace hS := unpacked (hS.pull 78 (X := pkC (stChunks ⟨.fl,y1,y2,yv⟩)))
        simp only [stChunks,List.cons_append,List.nil_append] at hS
        go_wp2_with (first | (refine load1 (b := gq) (v := .func (.func 39) #[.pointer (some ⟨d,0,none⟩)] #[]) hS rfl rfl rfl HQ0.out ?_;simp only [putW]) | (guard_target =~ Calls _ 39 _ _ _;refine Stopped.out ?_) | (refine load1 hS rfl rfl rfl rfl ?_;simp only [putW]))
        refine ⟨?_⟩
        refine Calls.mono (devFlush_any ⟨by have := HSm.out.1;omega,by have := HSm.out.2.1;omega,by have := HSm.out.2.2.1;omega,HSm.out.2.2.2⟩ (hS.conv (S' := (d,DevG cv D)::(bj,cells #[.pointer (some ⟨j,0,none⟩)] 38)::(j,cells (jobA d r lg pl vB vD vI (.slice (some ⟨gq,off,none⟩) (m + 1) cap) true 0) 90)::(1,LogV lg Ps)::(blk vB,sl 1 i64 Bs 3 vB)::(blk vD,sl 32 digF Ds 26 vD)::(bn,cells (stV nx).toArray 28)::(gq,cells cur 91)::(77,stEnv X)::(r,RegC d R)::K))) ?_
        rw [E1.out,E3.out]
        rw [E2.out] at hS ⊢
        clear hS
        rintro _ w ⟨rfl,hS⟩
        simp only [putW]
        go_wp2_with (refine store1 hS rfl rfl rfl rfl rfl ?_ ?_;(focus (simp;done));clear hS;intro w hS;simp only [evW,putW] at hS;try simp only [putW])
        go_meet
        case rel => exact (show Sat w0 ((1,LogV lg (Ps ++ []))::_) _ by rw [List.append_nil];exact hS.conv)
      | rg1 =>
        have hny : nx = nx1 := HNx1.out
        subst hny
        have hsk := HY.out
        replace hsk : .rg nx = sk := hsk
        subst hsk
        have hWe := HW.out
        have e1 : (regWrite D R nx).1 = D1 := congrArg (·.1) hWe
        have e2 : (regWrite D R nx).2.1 = R1 := congrArg (·.2.1) hWe
        have e3 : (regWrite D R nx).2.2 = c := congrArg (·.2.2) hWe
        have E1 : Bx _ := ⟨e1⟩
        have E2 : Bx _ := ⟨e2⟩
        have E3 : Bx _ := ⟨e3⟩
        clear hWe e1 e2 e3
        replace hS := unpacked (hS.pull 78 (X := pkC (stChunks ⟨.rg1,y1,y2,yv⟩)))
        simp only [stChunks,List.cons_append,List.nil_append] at hS
        go_wp2_with (first | (refine load1 (b := gq) (v := .func (.func 56) #[] #[.pointer (some ⟨bj,0,none⟩),.pointer (some ⟨bn,0,none⟩)]) hS rfl rfl rfl HQ0.out ?_;simp only [putW]) | (guard_target =~ Calls _ 56 _ _ _;refine Stopped.out ?_) | (refine load1 hS rfl rfl rfl rfl ?_;simp only [putW]))
        refine ⟨?_⟩
        refine Calls.mono (step_rg1 (s := nx) HR.out HNx.out HSm.out hn0 (hS.conv (S' := (bj,cells #[.pointer (some ⟨j,0,none⟩)] 38)::(j,cells (jobA d r lg pl vB vD vI (.slice (some ⟨gq,off,none⟩) (m + 1) cap) true 0) 90)::(bn,cells (stV nx).toArray 28)::(r,RegC d R)::(d,DevG cv D)::(1,LogV lg Ps)::(blk vB,sl 1 i64 Bs 3 vB)::(blk vD,sl 32 digF Ds 26 vD)::(gq,cells cur 91)::(77,stEnv X)::K))) ?_
        rw [E1.out,E2.out,E3.out]
        clear hS
        rintro _ w ⟨rfl,hS⟩
        simp only [putW]
        go_wp2_with (refine store1 hS rfl rfl rfl rfl rfl ?_ ?_;(focus (simp;done));clear hS;intro w hS;simp only [evW,putW] at hS;try simp only [putW])
        go_meet
        case rel => exact (show Sat w0 ((1,LogV lg (Ps ++ []))::_) _ by rw [List.append_nil];exact hS.conv)
      | hm i =>
        have hny : nx = nx1 := HNx1.out
        subst hny
        have hsk := HY.out
        replace hsk : .hm (Bs.getD i 0).toNat (pl.jn + i) (Ds.getD i []) = sk := hsk
        subst hsk
        have hWe := HW.out
        have e1 : (stepJ dig D R (.hm (Bs.getD i 0).toNat (pl.jn + i) (Ds.getD i []))).1 = D1 := congrArg (·.1) hWe
        have e2 : (stepJ dig D R (.hm (Bs.getD i 0).toNat (pl.jn + i) (Ds.getD i []))).2.1 = R1 := congrArg (·.2.1) hWe
        have e3 : (stepJ dig D R (.hm (Bs.getD i 0).toNat (pl.jn + i) (Ds.getD i []))).2.2 = c := congrArg (·.2.2) hWe
        have hoy := HOy.out
        replace hoy : (∃ k : Nat,Bs[i]? = some (k : Int)) ∧ (∃ A,Ds[i]? = some A ∧ isDig A) ∧ pl.jn + i < n := hoy
        obtain ⟨⟨k,hk⟩,⟨A,hA,hAd⟩,hjn⟩ := hoy
        have ek : (Bs.getD i 0).toNat = k := by rw [List.getD_eq_getElem?_getD,hk];rfl
        have eA : Ds.getD i [] = A := by rw [List.getD_eq_getElem?_getD,hA];rfl
        rw [ek,eA,stepJ_hm] at e1 e2 e3
        have hR1 : R = R1 := e2
        subst hR1
        have HNo : Bx (noteJ D (.hm (Bs.getD i 0).toNat (pl.jn + i) (Ds.getD i [])) = homL D k (pl.jn + i)) := ⟨by rw [ek,eA];rfl⟩
        have HK1 : Bx _ := ⟨hk⟩
        have HA1 : Bx _ := ⟨hA⟩
        have HA2 : Bx _ := ⟨hAd⟩
        have HJn : Bx (pl.jn + i < D.st.length) := ⟨by rw [HN.out];exact hjn⟩
        clear hk hA hAd hjn ek eA
        have E1 : Bx _ := ⟨e1⟩
        have E2 : Bx _ := ⟨e2⟩
        have E3 : Bx _ := ⟨e3⟩
        clear hWe e1 e2 e3
        replace hS := unpacked (hS.pull 78 (X := pkC (stChunks ⟨.hm i,y1,y2,yv⟩)))
        simp only [stChunks,List.cons_append,List.nil_append] at hS
        go_wp2_with (first | (refine load1 (b := gq) (v := .func (.func 57) #[] #[.pointer (some ⟨bj,0,none⟩),.pointer (some ⟨y1,0,none⟩)]) hS rfl rfl rfl HQ0.out ?_;simp only [putW]) | (guard_target =~ Calls _ 57 _ _ _;refine Stopped.out ?_) | (refine load1 hS rfl rfl rfl rfl ?_;simp only [putW]))
        refine ⟨?_⟩
        refine Calls.mono (step_hm (i := i) (k := k) (A := A) HK1.out HA1.out HA2.out HJn.out hP HSm.out hn0 hK (hS.conv (S' := (1,LogV lg Ps)::(bj,cells #[.pointer (some ⟨j,0,none⟩)] 38)::(y1,cells #[.int .i64 i] 3)::(j,cells (jobA d r lg pl vB vD vI (.slice (some ⟨gq,off,none⟩) (m + 1) cap) true 0) 90)::(blk vB,sl 1 i64 Bs 3 vB)::(blk vD,sl 32 digF Ds 26 vD)::(d,DevG cv D)::(bn,cells (stV nx).toArray 28)::(gq,cells cur 91)::(77,stEnv X)::(r,RegC d R)::K))) ?_
        rw [E1.out,E3.out]
        clear hS
        rintro _ w ⟨rfl,hS⟩
        simp only [putW]
        go_wp2_with (refine store1 hS rfl rfl rfl rfl rfl ?_ ?_;(focus (simp;done));clear hS;intro w hS;simp only [evW,putW] at hS;try simp only [putW])
        go_meet
        case rel => exact (by rw [HNo.out];exact hS.conv)
      | rg2 =>
        have hny : calm nx = nx1 := HNx1.out
        subst hny
        have hsk := HY.out
        replace hsk : .rg (calm nx) = sk := hsk
        subst hsk
        have hWe := HW.out
        have e1 : (regWrite D R (calm nx)).1 = D1 := congrArg (·.1) hWe
        have e2 : (regWrite D R (calm nx)).2.1 = R1 := congrArg (·.2.1) hWe
        have e3 : (regWrite D R (calm nx)).2.2 = c := congrArg (·.2.2) hWe
        have E1 : Bx _ := ⟨e1⟩
        have E2 : Bx _ := ⟨e2⟩
        have E3 : Bx _ := ⟨e3⟩
        clear hWe e1 e2 e3
        replace hS := unpacked (hS.pull 78 (X := pkC (stChunks ⟨.rg2,y1,y2,yv⟩)))
        simp only [stChunks,List.cons_append,List.nil_append] at hS
        go_wp2_with (first | (refine load1 (b := gq) (v := .func (.func 59) #[] #[.pointer (some ⟨bn,0,none⟩),.pointer (some ⟨bj,0,none⟩)]) hS rfl rfl rfl HQ0.out ?_;simp only [putW]) | (guard_target =~ Calls _ 59 _ _ _;refine Stopped.out ?_) | (refine load1 hS rfl rfl rfl rfl ?_;simp only [putW]))
        refine ⟨?_⟩
        refine Calls.mono (step_rg2 (s := nx) HR.out HNx.out HSm.out hn0 (hS.conv (S' := (bj,cells #[.pointer (some ⟨j,0,none⟩)] 38)::(j,cells (jobA d r lg pl vB vD vI (.slice (some ⟨gq,off,none⟩) (m + 1) cap) true 0) 90)::(bn,cells (stV nx).toArray 28)::(r,RegC d R)::(d,DevG cv D)::(1,LogV lg Ps)::(blk vB,sl 1 i64 Bs 3 vB)::(blk vD,sl 32 digF Ds 26 vD)::(gq,cells cur 91)::(77,stEnv X)::K))) ?_
        rw [E1.out,E2.out,E3.out]
        clear hS
        rintro _ w ⟨rfl,hS⟩
        simp only [putW]
        go_wp2_with (refine store1 hS rfl rfl rfl rfl rfl ?_ ?_;(focus (simp;done));clear hS;intro w hS;simp only [evW,putW] at hS;try simp only [putW])
        go_meet
        case rel => exact (show Sat w0 ((1,LogV lg (Ps ++ []))::_) _ by rw [List.append_nil];exact hS.conv)

    case rest =>
      clear hS
      have hS := hcut
      clear hcut
      obtain ⟨q9,c9,h9⟩ : ∃ q9 c9,loVn 1 (some ⟨gq,off,none⟩) (m + 1) cap 1 = .slice q9 m c9 := ⟨_,_,by unfold loVn;rw [show m + 1 - 1 = m by omega]⟩
      have H9 : Bx _ := ⟨h9⟩
      have H1m : 1 ≤ m + 1 := by omega
      clear h9
      have HFin : Bx (X.map (skOf pl Bs Ds nx1) = l ∧ nx1.Wf ∧ (∀ x ∈ X,stOk n pl Bs Ds x) ∧ stLast X) := ⟨by
        have hl2 := stLast_tail HLast.out
        have hw1 : nx1.Wf := by
          rw [← HNx1.out]
          split
          · exact calm_wf HNx.out
          · exact HNx.out
        refine ⟨?_,hw1,HOk.out,hl2⟩
        rw [← HL.out]
        by_cases hk : y.k = .rg2
        · have hx0 := HLast.out 0 y rfl hk
          have hx1 : X = [] := List.eq_nil_of_length_eq_zero (by simpa using hx0)
          rw [hx1]
          rfl
        · have e : nx1 = nx := by
            rw [← HNx1.out]
            split
            · rename_i h;exact absurd h hk
            · rfl
          rw [e]⟩
      have hfin : ∀ {w4 : World},Sat w0 ((1,LogV lg (Ps ++ noteJ D sk))::(j,cells (jobA d r lg pl vB vD vI (.slice q9 m c9) true c) 90)::(blk vB,sl 1 i64 Bs 3 vB)::(blk vD,sl 32 digF Ds 26 vD)::(bj,cells #[.pointer (some ⟨j,0,none⟩)] 38)::(bn,cells (stV nx1).toArray 28)::(gq,cells cur 91)::(77,stEnv X)::(r,RegC d R1)::(d,DevG cv D1)::K) w4 → Sat w0 ((1,LogV lg (Ps ++ noteJ D sk))::(j,JobB n d r lg pl l c)::(r,RegC d R1)::(d,DevG cv D1)::K) w4 := fun {w4} h => by
        have h1 := q1Pop (f := stVal d bj bn) (x := y) (L := X) (h.pull gq (X := cells cur 91)) HCap.out HCur.out HM.out
        rw [H9.out] at h1
        have h2 : Sat w0 ((j,cells (jobA d r lg pl vB vD vI (.slice q9 m c9) true c) 90)::(blk vB,sl 1 i64 Bs 3 vB)::(blk vD,sl 32 digF Ds 26 vD)::(bj,cells #[.pointer (some ⟨j,0,none⟩)] 38)::(bn,cells (stV nx1).toArray 28)::(blk (.slice q9 m c9),q1C (stVal d bj bn) X 91 (.slice q9 m c9))::(77,stEnv X)::(1,LogV lg (Ps ++ noteJ D sk))::(r,RegC d R1)::(d,DevG cv D1)::K) w4 := h1.conv
        have h3 := closeJobB (n := n) (Y := l) HFin.out h2
        exact h3.conv
      have hres : l.isEmpty = decide (m = 0) := by
        rw [← HL.out]
        cases X with
        | nil => have := HM.out;simp at this;subst this;rfl
        | cons a b => have := HM.out;simp at this;subst this;simp
      have HRes : Bx _ := ⟨hres⟩
      clear hres
      go_upto_region 10 with (first | (refine sliceLoW (k := 1) rfl rfl rfl rfl rfl H1m H9.out ?_;simp only [putW]) | (refine load1 hS rfl rfl rfl rfl ?_;simp only [putW]) | (refine store1 hS rfl rfl rfl rfl rfl ?_ ?_;(focus (simp;done));clear hS;intro w hS;simp only [evW,putW] at hS;try simp only [putW]))
      by_cases hc : c = 0
      · subst hc
        cases m with
        | zero =>
          (refine region_quiet hS (by kernel_rfl) (by kernel_rfl) (by kernel_rfl) ?_;clear hS;(repeat (first | (refine quiet_y (yMove rfl rfl rfl) ?_;simp only [evW,putW]) | (refine quiet_y (yNil rfl rfl rfl) ?_;simp only [putW]) | (refine quiet_y (yLoad1 (fun _ h => h) rfl rfl rfl rfl) ?_;simp only [putW]) | (apply quiet_y;(focus (apply yRun rfl;intro w;first | (go_simp;done) | (go_simp;rfl)));simp only [putW])));refine quiet_nil ?_;intro w hS)
          go_wp2_with (refine load1 hS rfl rfl rfl rfl ?_;simp only [putW])
          refine bodyPost_ret (v := .tuple #[.bool true,.int .i64 0]) (by simp [results,Tryd.results8]) rfl ⟨by rw [HRes.out];rfl,hfin hS.conv⟩
        | succ m =>
          have d5 : decide ((m : Int) + 1 = 0) = false := decide_eq_false (by omega)
          have d6 : ((m : Int) + 1 == 0) = false := by simpa using (by omega : (m : Int) + 1 ≠ 0)
          (refine region_quiet hS (by kernel_rfl) (by kernel_rfl) (by kernel_rfl) ?_;clear hS;(repeat (first | (refine quiet_y (yMove rfl rfl rfl) ?_;simp only [evW,putW]) | (refine quiet_y (yNil rfl rfl rfl) ?_;simp only [putW]) | (refine quiet_y (yLoad1 (fun _ h => h) rfl rfl rfl rfl) ?_;simp only [putW]) | (apply quiet_y;(focus (apply yRun rfl;intro w;first | (go_simp;done) | (go_simp;rfl)));simp only [putW])));refine quiet_nil ?_;intro w hS)
          go_wp2_with (refine load1 hS rfl rfl rfl rfl ?_;simp only [putW])
          refine bodyPost_ret (v := .tuple #[.bool false,.int .i64 0]) (by simp [results,Tryd.results8]) rfl ⟨by rw [HRes.out];simp,hfin hS.conv⟩
      · have d5 : decide (c = 0) = false := decide_eq_false hc
        have d6 : (c == 0) = false := by simpa using hc
        have HC : Bx _ := ⟨d5⟩
        clear hc
        (refine region_quiet hS (by kernel_rfl) (by kernel_rfl) (by kernel_rfl) ?_;clear hS;(repeat (first | (refine quiet_skip rfl ?_;simp only [putW]) | (refine quiet_y (yMove rfl rfl rfl) ?_;simp only [evW,putW]) | (refine quiet_y (yNil rfl rfl rfl) ?_;simp only [putW]) | (refine quiet_y (yLoad1 (fun _ h => h) rfl rfl rfl rfl) ?_;simp only [putW]) | (apply quiet_y;(focus (apply yRun rfl;intro w;first | (go_simp;done) | (go_simp;rfl)));simp only [putW])));refine quiet_nil ?_;intro w hS)
        go_wp2_with (refine load1 hS rfl rfl rfl rfl ?_;simp only [putW])
        refine bodyPost_ret (v := .tuple #[.bool false,.int .i64 c]) (by simp [results,Tryd.results8]) rfl ⟨by rw [HC.out];rfl,hfin hS.conv⟩
end
end Go.Proofs.YtdkimdobcacpfaaDoor
namespace Go.Proofs.YtdkimdobcacpfaaDoor
open Go.RowKit Go.Proofs.YtdkimdobcacpfaaDoor.Sl Go.Proofs.YtdkimdobcacpfaaDoor.Sha Go.Proofs.YtdkimdobcacpfaaDoor.Jp Go.Proofs.YtdkimdobcacpfaaDoor.Tr Go.Proofs.YtdkimdobcacpfaaDoor.Dv

/-- The images' homes, their digests. -/
def jobBs (L : List (Nat × Row)) : List Int := L.map fun x => (x.1 : Int)
def jobDs (L : List (Nat × Row)) : List (List Int) := L.map fun x => dig x.1 x.2
abbrev jobNL (d r : Nat) (lg : Value) (pl : Pl) (vB vD vI : Value) (L : List (Nat × Row)) (X : List (Value × List Int)) (j : Nat) : List Chunk :=
  [(j,cells (jobA d r lg pl vB vD vI (.slice none 0 0) false 0) 90),(blk vB,sl 1 i64 (jobBs L) 3 vB),(blk vD,sl 32 digF (jobDs L) 26 vD),(blk vI,sl 1 rowF X 48 vI),(79,inn X 5)]
/-- A job that is not begun: its images. -/
def JobN (d r : Nat) (lg : Value) (pl : Pl) (L : List (Nat × Row)) : Sl.K := fun j h => ∃ vB vD vI X,((X : List (Value × List Int)).map (·.2) = L.map (·.2) ∧ (∀ x ∈ L,x.1 < pl.hd ∧ isRow x.2) ∧ L.length ≤ pl.b) ∧ holds (jobNL d r lg pl vB vD vI L X j) h
section
variable {w0 w : World} {K F S : List Chunk} {n d r j : Nat} {D : Dev} {cv lg vS : Value} {pl : Pl} {ft : Int} {Ps : List (List Int × List Int)} {R s : Rg} {L : List (Nat × Row)}
theorem openJobN (h : Sat w0 ((j,JobN d r lg pl L)::F) w) : ∃ vB vD vI X,((X : List (Value × List Int)).map (·.2) = L.map (·.2) ∧ (∀ x ∈ L,x.1 < pl.hd ∧ isRow x.2) ∧ L.length ≤ pl.b) ∧
    Sat w0 ((j,cells (jobA d r lg pl vB vD vI (.slice none 0 0) false 0) 90)::(blk vB,sl 1 i64 (jobBs L) 3 vB)::(blk vD,sl 32 digF (jobDs L) 26 vD)::(blk vI,sl 1 rowF X 48 vI)::(79,inn X 5)::F) w := by
  obtain ⟨h1,h2,dd,l1,l2,⟨vB,vD,vI,X,hf,hh⟩,rest⟩ := h.has
  exact ⟨vB,vD,vI,X,hf,h.base,holds_join (S := jobNL d r lg pl vB vD vI L X j) dd l1 l2 hh rest⟩
theorem closeJobN {vB vD vI : Value} {X : List (Value × List Int)} (hf : X.map (·.2) = L.map (·.2) ∧ (∀ x ∈ L,x.1 < pl.hd ∧ isRow x.2) ∧ L.length ≤ pl.b)
    (h : Sat w0 ((j,cells (jobA d r lg pl vB vD vI (.slice none 0 0) false 0) 90)::(blk vB,sl 1 i64 (jobBs L) 3 vB)::(blk vD,sl 32 digF (jobDs L) 26 vD)::(blk vI,sl 1 rowF X 48 vI)::(79,inn X 5)::F) w) : Sat w0 ((j,JobN d r lg pl L)::F) w :=
  Sat.close (T := jobNL d r lg pl vB vD vI L X j) h fun _ h => ⟨vB,vD,vI,X,hf,h⟩
/-- The plan of pages and a budget, as a job holds it. -/
def plOf (P b : Nat) (lv : Value) : Pl := ⟨.int .i64 P,b,.int .i64 (plC P : Nat),lv,.int .i64 (plN P : Nat),plH P,.int .i64 (plHd b : Nat),plJ P b,.int .i64 ((plJ P b + b : Nat)),.int .i64 (plT P b : Nat)⟩
def jbSeg : List (List Value) := [[.pointer none],[.pointer none],[.pointer none],noPlan,[.slice none 0 0],[.slice none 0 0],[.slice none 0 0],[.slice none 0 0],[.bool false],[.int .i64 0]]
instance : StrT Tryd.prog 90 jbSeg := StrT.mk' Tryd.underlying90 (by kernel_rfl) (pl := #[(0,1),(1,1),(2,1),(3,10),(13,1),(14,1),(15,1),(16,1),(17,1),(18,1)]) (fun w => by go_simp) (by kernel_rfl)
theorem jb_fit {q1 q2 q3 : Option Addr} {pv : List Value} (h : pv.length = 10) : ∀ p ∈ [(0,Value.pointer q1),(1,Value.pointer q2),(2,Value.pointer q3),(3,Value.agg pv.toArray)],(lens jbSeg)[p.1]? = some p.2.cells.size := by
  intro p hp
  simp only [List.mem_cons,List.not_mem_nil,or_false] at hp
  rcases hp with rfl | rfl | rfl | rfl
  any_goals rfl
  simp [lens,jbSeg,Value.cells,h,noPlan]
set_option maxRecDepth 100000 in
set_option maxHeartbeats 8000000 in
theorem newJob_any {lq : Option Addr} (hR : R.Wf) (h0 : R.pages ≠ 0) (hfit : fits D.st.length R.pages R.budget) (hS : Sat w0 ((r,RegC d R)::(d,DevG cv D)::K) w) : Calls Tryd.prog 7 #[.pointer (some ⟨d,0,none⟩),.pointer (some ⟨r,0,none⟩),.pointer lq] w fun e w' => ∃ j lv,e = .returned (.tuple #[.pointer (some ⟨j,0,none⟩),.int .i64 0]) ∧ Sat w0 ((j,JobN d r (.pointer lq) (plOf R.pages.toNat R.budget.toNat lv) [])::(r,RegC d R)::(d,DevG cv D)::K) w' := by
  have HL : Bx ((stV R).toArray.size = 72) := ⟨by rw [List.size_toArray];exact stV_len hR⟩
  have HFit : Bx _ := ⟨hfit⟩
  have HR : Bx _ := ⟨hR⟩
  clear hfit
  go_enter Tryd.func7,Tryd.ntmps7
  go_wp2_with (guard_target =~ Calls _ 28 _ _ _;refine Stopped.out ?_)
  refine ⟨?_⟩
  refine Calls.mono (known_any HR.out h0 hS) ?_
  clear hS h0 hR
  rintro _ w ⟨pl,e,T,hF,rfl,hS⟩
  rcases hF with ⟨rfl,rfl,hno,rfl⟩ | ⟨q,c,rfl,rfl,-,rfl⟩
  · exact absurd HFit.out hno
  have hS2 := unpacked hS
  clear hS
  have hS := hS2
  clear hS2
  simp only [List.cons_append,List.nil_append] at hS
  simp only [putW]
  obtain ⟨lv,hlv⟩ : ∃ lv,Value.slice q (nI (plLv R.pages.toNat)).length c = lv := ⟨_,rfl⟩
  rw [hlv] at hS
  rw [hlv]
  have HPl : Bx ((planV R.pages.toNat R.budget.toNat lv).toArray.size = 10) := ⟨rfl⟩
  have HP1 : Bx (∀ u ∈ (planV R.pages.toNat R.budget.toNat lv).toArray.toList,u.oneCell' = true) := ⟨by subst hlv;simp [planV,Value.oneCell']⟩
  clear hlv
  go_wp2_with (first | (refine allocS (t := 28) hS rfl rfl (stV st0).toArray st0_cells ?_;clear hS;intro m8 w hS;simp only [putW]) | (refine alloc (t := 60) hS rfl rfl ?_;clear hS;intro m9 w hS;simp only [putW]) | (refine storeAll (b := m8) (cs := (stV R).toArray) hS rfl rfl rfl rfl HL.out (stOne R) st0_len ?_;clear hS;intro w hS;try simp only [putW]) | (refine storeAll (b := m9) (cs := (planV R.pages.toNat R.budget.toNat lv).toArray) hS rfl rfl rfl rfl HPl.out HP1.out rfl ?_;clear hS;intro w hS;try simp only [putW]) | (refine loadAll (b := m9) (c := (planV R.pages.toNat R.budget.toNat lv).toArray) hS rfl rfl rfl rfl ?_;simp only [putW]) | (refine buildS (segs := jbSeg) (out := (jobA d r (.pointer lq) (plOf R.pages.toNat R.budget.toNat lv) (.slice none 0 0) (.slice none 0 0) (.slice none 0 0) (.slice none 0 0) false 0).toList) rfl rfl [(0,.pointer (some ⟨d,0,none⟩)),(1,.pointer (some ⟨r,0,none⟩)),(2,.pointer lq),(3,.agg (planV R.pages.toNat R.budget.toNat lv).toArray)] rfl (jb_fit rfl) rfl ?_;simp only [putW]) | (refine boxN (cs := jobA d r (.pointer lq) (plOf R.pages.toNat R.budget.toNat lv) (.slice none 0 0) (.slice none 0 0) (.slice none 0 0) (.slice none 0 0) false 0) hS rfl rfl rfl ?_;clear hS;intro j w hS;simp only [putW]))
  refine bodyPost_ret (v := .tuple #[.pointer (some ⟨j,0,none⟩),.int .i64 0]) (by simp [results,Tryd.results7]) rfl ⟨j,rfl,lv,?_⟩
  have h8 : Sat w0 ((j,cells (jobA d r (.pointer lq) (plOf R.pages.toNat R.budget.toNat lv) (.slice none 0 0) (.slice none 0 0) (.slice none 0 0) (.slice none 0 0) false 0) 90)::(0,sl 1 i64 ([] : List Int) 3 (.slice none 0 0))::(0,sl 32 digF ([] : List (List Int)) 26 (.slice none 0 0))::(0,sl 1 rowF ([] : List (Value × List Int)) 48 (.slice none 0 0))::(79,inn [] 5)::(r,RegC d R)::(d,DevG cv D)::K) w := ((((hS.slNil 1 i64 3).slNil 32 digF 26).slNil 1 rowF 48).innNil 79 5).conv
  exact closeJobN (L := []) ⟨rfl,(fun x hx => by cases hx),Nat.zero_le _⟩ h8
/-- What is noted, and what a job holds, behind a Put whose write told c. -/
def putPs (c : Int) (Ps : List (List Int × List Int)) (k : Nat) (B : Row) : List (List Int × List Int) := if c = 0 then Ps ++ [(pre k B,dig k B)] else Ps
def putL (c : Int) (L : List (Nat × Row)) (k : Nat) (B : Row) : List (Nat × Row) := if c = 0 then L ++ [(k,B)] else L
set_option maxRecDepth 100000 in
set_option maxHeartbeats 16000000 in
/-- An image is laid into the journal. -/
theorem put_ok {k n0 : Nat} {B : Row} {vb : Value} (hk : k < pl.hd) (hB : isRow B) (hl : L.length < pl.b) (hjn : pl.jn + pl.b ≤ 65536) (hhd : pl.hd ≤ 65536) (hP : Ps.length ≤ 900000) (hsm : D.wt.length ≤ n0 ∧ D.wr.length ≤ n0 ∧ D.count ≤ n0 ∧ D.armed ≤ 9223372036854775807) (hn0 : n0 ≤ 900000) (hK : KTab w0) (hR : ∀ w',Sat w0 K w' → RB w' B vb)
    (hS : Sat w0 ((1,LogV lg Ps)::(j,JobN d r lg pl L)::(d,DevG cv D)::K) w) :
    Calls Tryd.prog 10 #[.pointer (some ⟨j,0,none⟩),.int .i64 k,vb] w fun e w' => e = .returned (.int .i64 (D.write ((pl.jn + L.length : Nat) : Int) B).2) ∧
      Sat w0 ((1,LogV lg (putPs (D.write ((pl.jn + L.length : Nat) : Int) B).2 Ps k B))::(j,JobN d r lg pl (putL (D.write ((pl.jn + L.length : Nat) : Int) B).2 L k B))::(d,DevG cv (D.write ((pl.jn + L.length : Nat) : Int) B).1)::K) w' := by
  obtain ⟨vB,vD,vI,X,hf,hS1⟩ := openJobN (hS.pull j (X := JobN d r lg pl L))
  have hS9 := hS1.conv (S' := (d,DevG cv D)::(1,LogV lg Ps)::(j,cells (jobA d r lg pl vB vD vI (.slice none 0 0) false 0) 90)::(blk vB,sl 1 i64 (jobBs L) 3 vB)::(blk vD,sl 32 digF (jobDs L) 26 vD)::(blk vI,sl 1 rowF X 48 vI)::(79,inn X 5)::K)
  have hrb := hR w hS9.conv
  obtain ⟨qb,cb,hvb,-,-⟩ := BSl.at hrb
  clear hS hS1 hrb
  have hS := hS9
  clear hS9
  rw [hB.1] at hvb
  subst hvb
  obtain ⟨m,hm⟩ : ∃ m,L.length = m := ⟨_,rfl⟩
  have hmB : (jobBs L).length = m := by rw [← hm];exact List.length_map _
  have hmD : (jobDs L).length = m := by rw [← hm];exact List.length_map _
  have hmX : X.length = m := by have := congrArg List.length hf.1;rw [List.length_map,List.length_map,hm] at this;exact this
  obtain ⟨qB,cB,hv⟩ := shapeN (hS.pull (blk vB) (X := sl 1 i64 (jobBs L) 3 vB)) hmB
  subst hv
  obtain ⟨W,hW⟩ : ∃ W,D.write ((pl.jn + m : Nat) : Int) B = W := ⟨_,rfl⟩
  rw [hm,hW]
  rw [hm] at hl
  obtain ⟨Dg,hDg⟩ : ∃ Dg,dig k B = Dg := ⟨_,rfl⟩
  have hdl : Dg.length = 32 := by rw [← hDg];exact dig_len' _ _
  have d1 : decide ((k : Int) < 0) = false := decide_eq_false (by omega)
  have d2 : decide ((pl.hd : Int) ≤ (k : Int)) = false := decide_eq_false (by omega)
  have d2b : decide (pl.hd ≤ k) = false := decide_eq_false (by omega)
  have d3 : decide ((m : Int) = (pl.b : Int)) = false := decide_eq_false (by omega)
  have d4 : ((m : Int) == (pl.b : Int)) = false := by simpa using (by omega : (m : Int) ≠ (pl.b : Int))
  have d5 : decide (m = pl.b) = false := decide_eq_false (by omega)
  have hj6 : pl.jn ≤ 65536 := by omega
  have hm6 : m ≤ 65536 := by omega
  have HW : Bx _ := ⟨hW⟩
  have HF : Bx _ := ⟨hf⟩
  have HB : Bx _ := ⟨hB⟩
  have HR : Bx _ := ⟨hR⟩
  have HSm : Bx _ := ⟨hsm⟩
  have HM : Bx (L.length = m ∧ (jobBs L).length = m ∧ (jobDs L).length = m ∧ X.length = m) := ⟨hm,hmB,hmD,hmX⟩
  have HK : Bx (k < pl.hd ∧ m < pl.b) := ⟨hk,hl⟩
  have HDg : Bx _ := ⟨hDg⟩
  have HC : Bx ((digF Dg).toArray.size = 32) := ⟨by simp [digF,hdl]⟩
  have HC2 : Bx ((digF Dg).length = 32) := ⟨by simp [digF,hdl]⟩
  have HC1 : Bx (∀ u ∈ digF Dg,u.oneCell' = true) := ⟨fun u hu => by obtain ⟨y,_,rfl⟩ := List.mem_map.1 hu;rfl⟩
  have HMx : Bx ((jobDs L).length + 1 ≤ maxLen ∧ ((jobDs L).length + 1) * 32 ≤ 140737488355328) := ⟨by rw [hmD];simp [maxLen];omega,by rw [hmD];omega⟩
  have HMb : Bx ((jobBs L).length + 1 ≤ maxLen ∧ ((jobBs L).length + 1) * 8 ≤ 140737488355328) := ⟨by rw [hmB];simp [maxLen];omega,by rw [hmB];omega⟩
  have HMi : Bx (X.length + 1 ≤ maxLen ∧ (X.length + 1) * 24 ≤ 140737488355328) := ⟨by rw [hmX];simp [maxLen];omega,by rw [hmX];omega⟩
  clear hW hf hB hR hsm hm hmB hmD hmX hk hl hDg hdl hjn hhd
  go_enter Tryd.func10,Tryd.ntmps10
  go_upto_region 7 with (refine load1 hS rfl rfl rfl rfl ?_;simp only [putW])
  (refine region_quiet hS (by kernel_rfl) (by kernel_rfl) (by kernel_rfl) ?_;clear hS;(repeat (first | (refine quiet_y (yMove rfl rfl rfl) ?_;simp only [evW,putW]) | (refine quiet_y (yNil rfl rfl rfl) ?_;simp only [putW]) | (refine quiet_y (yLoad1 (fun _ h => h) rfl rfl rfl rfl) ?_;simp only [putW]) | (apply quiet_y;(focus (apply yRun rfl;intro w;first | (go_simp;done) | (go_simp;rfl)));simp only [putW])));refine quiet_nil ?_;intro w hS)
  go_upto_region 9 with (refine load1 hS rfl rfl rfl rfl ?_;simp only [putW])
  have HWr : ∀ {at' : Int} {w1 : World},at' = ((pl.jn + m : Nat) : Int) → Sat w0 ((d,DevG cv D)::(1,LogV lg Ps)::(j,cells (jobA d r lg pl (.slice qB m cB) vD vI (.slice none 0 0) false 0) 90)::(blk (.slice qB m cB),sl 1 i64 (jobBs L) 3 (.slice qB m cB))::(blk vD,sl 32 digF (jobDs L) 26 vD)::(blk vI,sl 1 rowF X 48 vI)::(79,inn X 5)::K) w1 → Calls Tryd.prog 38 #[.pointer (some ⟨d,0,none⟩),.int .i64 at',.slice qb 256 cb] w1 fun e w' => e = .returned (.int .i64 W.2) ∧ Sat w0 ((d,DevG cv W.1)::(1,LogV lg Ps)::(j,cells (jobA d r lg pl (.slice qB m cB) vD vI (.slice none 0 0) false 0) 90)::(blk (.slice qB m cB),sl 1 i64 (jobBs L) 3 (.slice qB m cB))::(blk vD,sl 32 digF (jobDs L) 26 vD)::(blk vI,sl 1 rowF X 48 vI)::(79,inn X 5)::K) w' := fun {at' w1} e h => by
    subst e
    rw [← HW.out]
    exact devWrite_any (B := B) HB.out.2 ⟨by have := HSm.out.1;omega,by have := HSm.out.2.1;omega,by have := HSm.out.2.2.1;omega,HSm.out.2.2.2⟩ ⟨by have := HSm.out.1;omega,by have := HSm.out.2.1;omega⟩ (fun w' h' => HR.out w' h'.conv) h
  (refine wp_region_held (S := fun w' => Sat w0 ((1,LogV lg Ps)::(j,cells (jobA d r lg pl (.slice qB m cB) vD vI (.slice none 0 0) false 0) 90)::(blk (.slice qB m cB),sl 1 i64 (jobBs L) 3 (.slice qB m cB))::(blk vD,sl 32 digF (jobDs L) 26 vD)::(blk vI,sl 1 rowF X 48 vI)::(79,inn X 5)::K) w') (by kernel_rfl) ?_;replace hS := hS.drew;(refine takeIf (i := 0) rfl (by kernel_rfl) (fun _ _ _ h => h) (yMove rfl rfl rfl) hS.conv ?_;simp only [evW,putW]);(apply takeIf (i := 1) rfl (by kernel_rfl) (fun _ _ _ h => h);(focus (apply yRun rfl;intro w;first | (go_simp;done) | (go_simp;rfl)));(focus (exact hS.conv));simp only [putW]);(apply takeIf (i := 2) rfl (by kernel_rfl) (fun _ _ _ h => h);(focus (apply yRun rfl;intro w;first | (go_simp;done) | (go_simp;rfl)));(focus (exact hS.conv));simp only [putW]);(refine takeIf (i := 3) rfl (by kernel_rfl) (fun _ _ _ h => h) (yLoad1 (fun _ h => h) rfl rfl rfl rfl) hS.conv ?_;simp only [putW]);(refine takeIf (i := 4) rfl (by kernel_rfl) (fun _ _ _ h => h) (yMove rfl rfl rfl) hS.conv ?_;simp only [evW,putW]);(apply takeIf (i := 5) rfl (by kernel_rfl) (fun _ _ _ h => h);(focus (apply yRun rfl;intro w;first | (go_simp;done) | (go_simp;rfl)));(focus (exact hS.conv));simp only [putW]);(apply takeIf (i := 6) rfl (by kernel_rfl) (fun _ _ _ h => h);(focus (apply yRun rfl;intro w;first | (go_simp;done) | (go_simp;rfl)));(focus (exact hS.conv));simp only [putW]);(apply takeIf (i := 7) rfl (by kernel_rfl) (fun _ _ _ h => h);(focus (apply yRun rfl;intro w;first | (go_simp;done) | (go_simp;rfl)));(focus (exact hS.conv));simp only [putW]);(refine takeIf (i := 8) rfl (by kernel_rfl) (fun _ _ _ h => h) (yLoad1 (fun _ h => h) rfl rfl rfl rfl) hS.conv ?_;simp only [putW]);(refine takeIf (i := 9) rfl (by kernel_rfl) (fun _ _ _ h => h) (yMove rfl rfl rfl) hS.conv ?_;simp only [evW,putW]);(apply takeIf (i := 10) rfl (by kernel_rfl) (fun _ _ _ h => h);(focus (apply yRun rfl;intro w;first | (go_simp;done) | (go_simp;rfl)));(focus (exact hS.conv));simp only [putW]);(apply takeIf (i := 11) rfl (by kernel_rfl) (fun _ _ _ h => h);(focus (apply yRun rfl;intro w;first | (go_simp;done) | (go_simp;rfl)));(focus (exact hS.conv));simp only [putW]);(refine takeIf (i := 12) rfl (by kernel_rfl) (fun _ _ _ h => h) (yLoad1 (fun _ h => h) rfl rfl rfl rfl) hS.conv ?_;simp only [putW]);(apply takeIf (i := 13) rfl (by kernel_rfl) (fun _ _ _ h => h);(focus (apply yRun rfl;intro w;first | (go_simp;done) | (go_simp;rfl)));(focus (exact hS.conv));simp only [putW]);(apply takeIf (i := 14) rfl (by kernel_rfl) (fun _ _ _ h => h);(focus (apply yRun rfl;intro w;first | (go_simp;done) | (go_simp;rfl)));(focus (exact hS.conv));simp only [putW]);(refine takeIf (i := 15) rfl (by kernel_rfl) (fun _ _ _ h => h) (yMove rfl rfl rfl) hS.conv ?_;simp only [evW,putW]);refine wpAnyH_all (rs := [16]) (by kernel_rfl) (by simp) ?_;intro i hi;simp only [List.mem_cons,List.not_mem_nil,or_false] at hi;subst hi;refine wpOp_of_list rfl ?_;go_wp2_with (go_at_call 38;refine Calls.mono (HWr (by omega) hS.conv) ?_;clear hS;rintro _ w ⟨rfl,hS⟩;simp only [putW]);refine ⟨rfl,hS.conv,?_⟩;(apply takeIf (i := 17) rfl (by kernel_rfl) (fun _ _ _ h => h);(focus (apply yRun rfl;intro w;first | (go_simp;done) | (go_simp;rfl)));(focus (exact hS.conv));simp only [putW]);refine wpAnyH_done (by kernel_rfl) ?_ _;skip)
  clear HWr
  obtain ⟨D1,c⟩ := W
  replace hS : Sat w0 ((d,DevG cv D1)::(1,LogV lg Ps)::(j,cells (jobA d r lg pl (.slice qB m cB) vD vI (.slice none 0 0) false 0) 90)::(blk (.slice qB m cB),sl 1 i64 (jobBs L) 3 (.slice qB m cB))::(blk vD,sl 32 digF (jobDs L) 26 vD)::(blk vI,sl 1 rowF X 48 vI)::(79,inn X 5)::K) w := hS.conv
  by_cases hc : c = 0
  rotate_left
  · have d6 : decide (c = 0) = false := decide_eq_false hc
    have d7 : (c == 0) = false := by simpa using hc
    have d8 : (c != 0) = true := by simpa using hc
    have HCn : Bx _ := ⟨hc⟩
    clear hc
    go_wp2_with (refine load1 hS rfl rfl rfl rfl ?_;simp only [putW])
    go_ret
    refine ⟨rfl,?_⟩
    have e1 : putPs c Ps k B = Ps := if_neg HCn.out
    have e2 : putL c L k B = L := if_neg HCn.out
    rw [e1,e2]
    have h8 : Sat w0 ((j,cells (jobA d r lg pl (.slice qB m cB) vD vI (.slice none 0 0) false 0) 90)::(blk (.slice qB m cB),sl 1 i64 (jobBs L) 3 (.slice qB m cB))::(blk vD,sl 32 digF (jobDs L) 26 vD)::(blk vI,sl 1 rowF X 48 vI)::(79,inn X 5)::(1,LogV lg Ps)::(d,DevG cv D1)::K) w := hS.conv
    exact (closeJobN HF.out h8).conv
  subst hc
  go_upto_region 13 with (first | (refine buildSlice1 (c := #[.int .i64 (k : Nat)]) hS rfl rfl rfl ?_ ?_ ?_ ?_;rfl;rfl;rfl;clear hS;intro mb w hS;simp only [putW]) | (refine append1 (n := 1) (f := i64) hS rfl rfl (.slice qB m cB) rfl rfl (k : Int) rfl (by simp [one,Value.oneCell']) rfl HMb.out.1 HMb.out.2 ?_;clear hS;intro vB2 w hS;have hvb := hS.slCell (α := Int) (v := vB2);simp only [putW]) | (refine store1 (b := j) hS rfl rfl rfl rfl hvb ?_ ?_;(focus (simp;done));clear hS;intro w hS;simp only [evW,putW] at hS;try simp only [putW]) | (refine load1 hS rfl rfl rfl rfl ?_;simp only [putW]))
  go_cut [] from 75 to 90 (fun wc => ∃ vD2,Sat w0 ((j,cells (jobA d r lg pl vB2 vD2 vI (.slice none 0 0) false 0) 90)::(blk vB2,sl 1 i64 (jobBs L ++ [(k : Int)]) 3 vB2)::(blk vD2,sl 32 digF (jobDs L ++ [Dg]) 26 vD2)::(blk vI,sl 1 rowF X 48 vI)::(79,inn X 5)::(1,LogV lg (Ps ++ [(pre k B,Dg)]))::(d,DevG cv D1)::K) wc)
  case first =>
    (refine wp_region_held (S := fun w' => Sat w0 ((blk vB2,sl 1 i64 (jobBs L ++ [(k : Int)]) 3 vB2)::(d,DevG cv D1)::(blk vI,sl 1 rowF X 48 vI)::(79,inn X 5)::K) w') (by kernel_rfl) ?_;replace hS := hS.drew;(refine takeIf (i := 0) rfl (by kernel_rfl) (fun _ _ _ h => h) (yMove rfl rfl rfl) hS.conv ?_;simp only [evW,putW]);(refine takeIf (i := 1) rfl (by kernel_rfl) (fun _ _ _ h => h) (yMove rfl rfl rfl) hS.conv ?_;simp only [evW,putW]);(apply takeIf (i := 2) rfl (by kernel_rfl) (fun _ _ _ h => h);(focus (apply yRun rfl;intro w;first | (go_simp;done) | (go_simp;rfl)));(focus (exact hS.conv));simp only [putW]);(apply takeIf (i := 3) rfl (by kernel_rfl) (fun _ _ _ h => h);(focus (apply yRun rfl;intro w;first | (go_simp;done) | (go_simp;rfl)));(focus (exact hS.conv));simp only [putW]);(refine takeIf (i := 5) rfl (by kernel_rfl) (fun _ _ _ h => h) (yMove rfl rfl rfl) hS.conv ?_;simp only [evW,putW]);(apply takeIf (i := 6) rfl (by kernel_rfl) (fun _ _ _ h => h);(focus (apply yRun rfl;intro w;first | (go_simp;done) | (go_simp;rfl)));(focus (exact hS.conv));simp only [putW]);(apply takeIf (i := 7) rfl (by kernel_rfl) (fun _ _ _ h => h);(focus (apply yRun rfl;intro w;first | (go_simp;done) | (go_simp;rfl)));(focus (exact hS.conv));simp only [putW]);(refine takeIf (i := 9) rfl (by kernel_rfl) (fun _ _ _ h => h) (yMove rfl rfl rfl) hS.conv ?_;simp only [evW,putW]);(refine takeIf (i := 10) rfl (by kernel_rfl) (fun _ _ _ h => h) (yMove rfl rfl rfl) hS.conv ?_;simp only [evW,putW]);refine wpAnyH_all (rs := [4,8]) (by kernel_rfl) (by simp) ?_;intro i hi;simp only [List.mem_cons,List.not_mem_nil,or_false] at hi;rcases hi with rfl | rfl;(focus (refine wpOp_of_list rfl ?_;go_wp2_with (refine load1 hS rfl rfl rfl rfl ?_;simp only [putW]);refine ⟨rfl,hS.conv,?_⟩;refine wpAnyH_all (rs := [8]) (by kernel_rfl) (by simp) ?_;intro i hi;simp only [List.mem_cons,List.not_mem_nil,or_false] at hi;subst hi;refine wpOp_of_list rfl ?_;go_wp2_with (refine load1 hS rfl rfl rfl rfl ?_;simp only [putW]);refine ⟨rfl,hS.conv,?_⟩;refine wpAnyH_all (rs := [11]) (by kernel_rfl) (by simp) ?_;intro i hi;simp only [List.mem_cons,List.not_mem_nil,or_false] at hi;subst hi;refine wpOp_of_list rfl ?_;go_wp2_with (go_at_call 33;refine Calls.mono (digest_vi (b := k) (D := Dg) rfl (hS.pull 1 (X := LogV lg Ps)) (by omega) (HR.out _ hS.conv) hK (by rw [HB.out.1];omega) HDg.out) ?_;clear hS;rintro _ w ⟨rfl,hS⟩;simp only [putW]);refine ⟨rfl,hS.conv,?_⟩;refine wpAnyH_all (rs := [12]) (by kernel_rfl) (by simp) ?_;intro i hi;simp only [List.mem_cons,List.not_mem_nil,or_false] at hi;subst hi;refine wpOp_of_list rfl ?_;go_wp2_with (refine buildSlice1 (c := (digF Dg).toArray) hS rfl rfl rfl HC.out rfl rfl ?_;clear hS;intro mb w hS;simp only [putW]);refine ⟨rfl,hS.conv,?_⟩;refine wpAnyH_all (rs := [13]) (by kernel_rfl) (by simp) ?_;intro i hi;simp only [List.mem_cons,List.not_mem_nil,or_false] at hi;subst hi;refine wpOp_of_list rfl ?_;go_wp2_with (refine append1 (n := 32) (f := digF) hS rfl rfl vD rfl rfl Dg rfl HC1.out HC2.out HMx.out.1 HMx.out.2 ?_;clear hS;intro v' w hS;have hvc := hS.slCell (α := List Int) (v := v');simp only [putW]);refine ⟨rfl,hS.conv,?_⟩;(apply takeIf (i := 14) rfl (by kernel_rfl) (fun _ _ _ h => h);(focus (apply yRun rfl;intro w;first | (go_simp;done) | (go_simp;rfl)));(focus (exact hS.conv));simp only [putW]);(apply takeIf (i := 15) rfl (by kernel_rfl) (fun _ _ _ h => h);(focus (apply yRun rfl;intro w;first | (go_simp;done) | (go_simp;rfl)));(focus (exact hS.conv));simp only [putW]);refine wpAnyH_all (rs := [16]) (by kernel_rfl) (by simp) ?_;intro i hi;simp only [List.mem_cons,List.not_mem_nil,or_false] at hi;subst hi;refine wpOp_of_list rfl ?_;go_wp2_with (refine store1 (b := j) (v := v') hS rfl rfl rfl rfl hvc ?_ ?_;(focus (simp;done));clear hS;intro w hS;simp only [evW,putW] at hS;try simp only [putW]);refine ⟨rfl,hS.conv,?_⟩;refine wpAnyH_done (by kernel_rfl) ?_ _;go_wp2_with (refine load1 hS rfl rfl rfl rfl ?_;simp only [putW]);go_meet;(case rel => exact ⟨v',hS.conv⟩)));(focus (refine wpOp_of_list rfl ?_;go_wp2_with (refine load1 hS rfl rfl rfl rfl ?_;simp only [putW]);refine ⟨rfl,hS.conv,?_⟩;refine wpAnyH_all (rs := [4,11]) (by kernel_rfl) (by simp) ?_;intro i hi;simp only [List.mem_cons,List.not_mem_nil,or_false] at hi;rcases hi with rfl | rfl;(focus (refine wpOp_of_list rfl ?_;go_wp2_with (refine load1 hS rfl rfl rfl rfl ?_;simp only [putW]);refine ⟨rfl,hS.conv,?_⟩;refine wpAnyH_all (rs := [11]) (by kernel_rfl) (by simp) ?_;intro i hi;simp only [List.mem_cons,List.not_mem_nil,or_false] at hi;subst hi;refine wpOp_of_list rfl ?_;go_wp2_with (go_at_call 33;refine Calls.mono (digest_vi (b := k) (D := Dg) rfl (hS.pull 1 (X := LogV lg Ps)) (by omega) (HR.out _ hS.conv) hK (by rw [HB.out.1];omega) HDg.out) ?_;clear hS;rintro _ w ⟨rfl,hS⟩;simp only [putW]);refine ⟨rfl,hS.conv,?_⟩;refine wpAnyH_all (rs := [12]) (by kernel_rfl) (by simp) ?_;intro i hi;simp only [List.mem_cons,List.not_mem_nil,or_false] at hi;subst hi;refine wpOp_of_list rfl ?_;go_wp2_with (refine buildSlice1 (c := (digF Dg).toArray) hS rfl rfl rfl HC.out rfl rfl ?_;clear hS;intro mb w hS;simp only [putW]);refine ⟨rfl,hS.conv,?_⟩;refine wpAnyH_all (rs := [13]) (by kernel_rfl) (by simp) ?_;intro i hi;simp only [List.mem_cons,List.not_mem_nil,or_false] at hi;subst hi;refine wpOp_of_list rfl ?_;go_wp2_with (refine append1 (n := 32) (f := digF) hS rfl rfl vD rfl rfl Dg rfl HC1.out HC2.out HMx.out.1 HMx.out.2 ?_;clear hS;intro v' w hS;have hvc := hS.slCell (α := List Int) (v := v');simp only [putW]);refine ⟨rfl,hS.conv,?_⟩;(apply takeIf (i := 14) rfl (by kernel_rfl) (fun _ _ _ h => h);(focus (apply yRun rfl;intro w;first | (go_simp;done) | (go_simp;rfl)));(focus (exact hS.conv));simp only [putW]);(apply takeIf (i := 15) rfl (by kernel_rfl) (fun _ _ _ h => h);(focus (apply yRun rfl;intro w;first | (go_simp;done) | (go_simp;rfl)));(focus (exact hS.conv));simp only [putW]);refine wpAnyH_all (rs := [16]) (by kernel_rfl) (by simp) ?_;intro i hi;simp only [List.mem_cons,List.not_mem_nil,or_false] at hi;subst hi;refine wpOp_of_list rfl ?_;go_wp2_with (refine store1 (b := j) (v := v') hS rfl rfl rfl rfl hvc ?_ ?_;(focus (simp;done));clear hS;intro w hS;simp only [evW,putW] at hS;try simp only [putW]);refine ⟨rfl,hS.conv,?_⟩;refine wpAnyH_done (by kernel_rfl) ?_ _;go_wp2_with (refine load1 hS rfl rfl rfl rfl ?_;simp only [putW]);go_meet;(case rel => exact ⟨v',hS.conv⟩)));(focus (refine wpOp_of_list rfl ?_;go_wp2_with (go_at_call 33;refine Calls.mono (digest_vi (b := k) (D := Dg) rfl (hS.pull 1 (X := LogV lg Ps)) (by omega) (HR.out _ hS.conv) hK (by rw [HB.out.1];omega) HDg.out) ?_;clear hS;rintro _ w ⟨rfl,hS⟩;simp only [putW]);refine ⟨rfl,hS.conv,?_⟩;refine wpAnyH_all (rs := [4,12]) (by kernel_rfl) (by simp) ?_;intro i hi;simp only [List.mem_cons,List.not_mem_nil,or_false] at hi;rcases hi with rfl | rfl;(focus (refine wpOp_of_list rfl ?_;go_wp2_with (refine load1 hS rfl rfl rfl rfl ?_;simp only [putW]);refine ⟨rfl,hS.conv,?_⟩;refine wpAnyH_all (rs := [12]) (by kernel_rfl) (by simp) ?_;intro i hi;simp only [List.mem_cons,List.not_mem_nil,or_false] at hi;subst hi;refine wpOp_of_list rfl ?_;go_wp2_with (refine buildSlice1 (c := (digF Dg).toArray) hS rfl rfl rfl HC.out rfl rfl ?_;clear hS;intro mb w hS;simp only [putW]);refine ⟨rfl,hS.conv,?_⟩;refine wpAnyH_all (rs := [13]) (by kernel_rfl) (by simp) ?_;intro i hi;simp only [List.mem_cons,List.not_mem_nil,or_false] at hi;subst hi;refine wpOp_of_list rfl ?_;go_wp2_with (refine append1 (n := 32) (f := digF) hS rfl rfl vD rfl rfl Dg rfl HC1.out HC2.out HMx.out.1 HMx.out.2 ?_;clear hS;intro v' w hS;have hvc := hS.slCell (α := List Int) (v := v');simp only [putW]);refine ⟨rfl,hS.conv,?_⟩;(apply takeIf (i := 14) rfl (by kernel_rfl) (fun _ _ _ h => h);(focus (apply yRun rfl;intro w;first | (go_simp;done) | (go_simp;rfl)));(focus (exact hS.conv));simp only [putW]);(apply takeIf (i := 15) rfl (by kernel_rfl) (fun _ _ _ h => h);(focus (apply yRun rfl;intro w;first | (go_simp;done) | (go_simp;rfl)));(focus (exact hS.conv));simp only [putW]);refine wpAnyH_all (rs := [16]) (by kernel_rfl) (by simp) ?_;intro i hi;simp only [List.mem_cons,List.not_mem_nil,or_false] at hi;subst hi;refine wpOp_of_list rfl ?_;go_wp2_with (refine store1 (b := j) (v := v') hS rfl rfl rfl rfl hvc ?_ ?_;(focus (simp;done));clear hS;intro w hS;simp only [evW,putW] at hS;try simp only [putW]);refine ⟨rfl,hS.conv,?_⟩;refine wpAnyH_done (by kernel_rfl) ?_ _;go_wp2_with (refine load1 hS rfl rfl rfl rfl ?_;simp only [putW]);go_meet;(case rel => exact ⟨v',hS.conv⟩)));(focus (refine wpOp_of_list rfl ?_;go_wp2_with (refine buildSlice1 (c := (digF Dg).toArray) hS rfl rfl rfl HC.out rfl rfl ?_;clear hS;intro mb w hS;simp only [putW]);refine ⟨rfl,hS.conv,?_⟩;refine wpAnyH_all (rs := [4]) (by kernel_rfl) (by simp) ?_;intro i hi;simp only [List.mem_cons,List.not_mem_nil,or_false] at hi;subst hi;refine wpOp_of_list rfl ?_;go_wp2_with (refine load1 hS rfl rfl rfl rfl ?_;simp only [putW]);refine ⟨rfl,hS.conv,?_⟩;refine wpAnyH_all (rs := [13]) (by kernel_rfl) (by simp) ?_;intro i hi;simp only [List.mem_cons,List.not_mem_nil,or_false] at hi;subst hi;refine wpOp_of_list rfl ?_;go_wp2_with (refine append1 (n := 32) (f := digF) hS rfl rfl vD rfl rfl Dg rfl HC1.out HC2.out HMx.out.1 HMx.out.2 ?_;clear hS;intro v' w hS;have hvc := hS.slCell (α := List Int) (v := v');simp only [putW]);refine ⟨rfl,hS.conv,?_⟩;(apply takeIf (i := 14) rfl (by kernel_rfl) (fun _ _ _ h => h);(focus (apply yRun rfl;intro w;first | (go_simp;done) | (go_simp;rfl)));(focus (exact hS.conv));simp only [putW]);(apply takeIf (i := 15) rfl (by kernel_rfl) (fun _ _ _ h => h);(focus (apply yRun rfl;intro w;first | (go_simp;done) | (go_simp;rfl)));(focus (exact hS.conv));simp only [putW]);refine wpAnyH_all (rs := [16]) (by kernel_rfl) (by simp) ?_;intro i hi;simp only [List.mem_cons,List.not_mem_nil,or_false] at hi;subst hi;refine wpOp_of_list rfl ?_;go_wp2_with (refine store1 (b := j) (v := v') hS rfl rfl rfl rfl hvc ?_ ?_;(focus (simp;done));clear hS;intro w hS;simp only [evW,putW] at hS;try simp only [putW]);refine ⟨rfl,hS.conv,?_⟩;refine wpAnyH_done (by kernel_rfl) ?_ _;go_wp2_with (refine load1 hS rfl rfl rfl rfl ?_;simp only [putW]);go_meet;(case rel => exact ⟨v',hS.conv⟩))))))))
  case rest =>
    clear hS
    obtain ⟨vD2,hS⟩ := hcut
    go_upto_region 14 with (refine load1 hS rfl rfl rfl rfl ?_;simp only [putW])
    have hBle : B.length ≤ 256 := by rw [HB.out.1];exact Nat.le_refl _
    go_cut [] from 91 to 102 (fun wc => ∃ vI2 q3 c3,Sat w0 ((j,cells (jobA d r lg pl vB2 vD2 vI2 (.slice none 0 0) false 0) 90)::(blk vB2,sl 1 i64 (jobBs L ++ [(k : Int)]) 3 vB2)::(blk vD2,sl 32 digF (jobDs L ++ [Dg]) 26 vD2)::(blk vI2,sl 1 rowF (X ++ [((.slice q3 256 c3,B) : Value × List Int)]) 48 vI2)::(blk (.slice q3 256 c3),sl 1 by8 B 5 (.slice q3 256 c3))::(79,inn X 5)::(1,LogV lg (Ps ++ [(pre k B,Dg)]))::(d,DevG cv D1)::K) wc)
    case first =>
      (refine wp_region_held (S := fun w' => Sat w0 ((blk vB2,sl 1 i64 (jobBs L ++ [(k : Int)]) 3 vB2)::(blk vD2,sl 32 digF (jobDs L ++ [Dg]) 26 vD2)::(1,LogV lg (Ps ++ [(pre k B,Dg)]))::(d,DevG cv D1)::(79,inn X 5)::K) w') (by kernel_rfl) ?_;replace hS := hS.drew;(refine takeIf (i := 0) rfl (by kernel_rfl) (fun _ _ _ h => h) (yMove rfl rfl rfl) hS.conv ?_;simp only [evW,putW]);(refine takeIf (i := 1) rfl (by kernel_rfl) (fun _ _ _ h => h) (yMove rfl rfl rfl) hS.conv ?_;simp only [evW,putW]);(apply takeIf (i := 2) rfl (by kernel_rfl) (fun _ _ _ h => h);(focus (apply yRun rfl;intro w;first | (go_simp;done) | (go_simp;rfl)));(focus (exact hS.conv));simp only [putW]);(apply takeIf (i := 3) rfl (by kernel_rfl) (fun _ _ _ h => h);(focus (apply yRun rfl;intro w;first | (go_simp;done) | (go_simp;rfl)));(focus (exact hS.conv));simp only [putW]);(refine takeIf (i := 6) rfl (by kernel_rfl) (fun _ _ _ h => h) (yMove rfl rfl rfl) hS.conv ?_;simp only [evW,putW]);refine wpAnyH_all (rs := [4,5]) (by kernel_rfl) (by simp) ?_;intro i hi;simp only [List.mem_cons,List.not_mem_nil,or_false] at hi;rcases hi with rfl | rfl;(focus (refine wpOp_of_list rfl ?_;go_wp2_with (refine load1 hS rfl rfl rfl rfl ?_;simp only [putW]);refine ⟨rfl,hS.conv,?_⟩;refine wpAnyH_all (rs := [5]) (by kernel_rfl) (by simp) ?_;intro i hi;simp only [List.mem_cons,List.not_mem_nil,or_false] at hi;subst hi;refine wpOp_of_list rfl ?_;go_wp2_with (refine buildSlice0 hS rfl rfl by8 ?_;clear hS;intro m0 w hS;simp only [putW]);refine ⟨rfl,hS.conv,?_⟩;refine wpAnyH_all (rs := [7]) (by kernel_rfl) (by simp) ?_;intro i hi;simp only [List.mem_cons,List.not_mem_nil,or_false] at hi;subst hi;refine wpOp_of_list rfl ?_;go_wp2_with (refine appendB (f := by8) hS rfl rfl (.slice (some ⟨m0,0,none⟩) 0 0) rfl rfl B (HR.out _ hS.conv) ?_ ?_ ?_ ?_;(focus (simp [one,Value.oneCell'];done));(focus (simp [maxLen];omega));(focus (simp [maxLen];omega));clear hS;intro v' w hS;simp only [putW]);refine ⟨rfl,hS.conv,?_⟩;refine wpAnyH_all (rs := [8]) (by kernel_rfl) (by simp) ?_;intro i hi;simp only [List.mem_cons,List.not_mem_nil,or_false] at hi;subst hi;refine wpOp_of_list rfl ?_;go_wp2_with (obtain ⟨q3,c3,hv3⟩ := shapeN (hS.pull (blk v') (X := sl 1 by8 ([] ++ B) 5 v')) (show (([] : List Int) ++ B).length = 256 from HB.out.1);subst hv3;(refine buildSlice1 (c := #[.slice q3 256 c3]) hS rfl rfl rfl ?_ ?_ ?_ ?_;rfl;rfl;rfl;clear hS;intro mb w hS;simp only [putW]));refine ⟨rfl,hS.conv,?_⟩;refine wpAnyH_all (rs := [9]) (by kernel_rfl) (by simp) ?_;intro i hi;simp only [List.mem_cons,List.not_mem_nil,or_false] at hi;subst hi;refine wpOp_of_list rfl ?_;go_wp2_with (refine append1 (n := 1) (f := rowF) hS rfl rfl vI rfl rfl ((.slice q3 256 c3,B) : Value × List Int) rfl (by simp [Value.oneCell']) rfl HMi.out.1 HMi.out.2 ?_;clear hS;intro v2 w hS;have hvc := hS.slCell (α := Value × List Int) (v := v2);simp only [putW]);refine ⟨rfl,hS.conv,?_⟩;(apply takeIf (i := 10) rfl (by kernel_rfl) (fun _ _ _ h => h);(focus (apply yRun rfl;intro w;first | (go_simp;done) | (go_simp;rfl)));(focus (exact hS.conv));simp only [putW]);(apply takeIf (i := 11) rfl (by kernel_rfl) (fun _ _ _ h => h);(focus (apply yRun rfl;intro w;first | (go_simp;done) | (go_simp;rfl)));(focus (exact hS.conv));simp only [putW]);refine wpAnyH_all (rs := [12]) (by kernel_rfl) (by simp) ?_;intro i hi;simp only [List.mem_cons,List.not_mem_nil,or_false] at hi;subst hi;refine wpOp_of_list rfl ?_;go_wp2_with (refine store1 (b := j) (v := v2) hS rfl rfl rfl rfl hvc ?_ ?_;(focus (simp;done));clear hS;intro w hS;simp only [evW,putW] at hS;try simp only [putW]);refine ⟨rfl,hS.conv,?_⟩;refine wpAnyH_done (by kernel_rfl) ?_ _;go_wp2_with (refine load1 hS rfl rfl rfl rfl ?_;simp only [putW]);go_meet;(case rel => exact ⟨v2,q3,c3,by simp only [List.nil_append] at hS;exact hS.conv⟩)));(focus (refine wpOp_of_list rfl ?_;go_wp2_with (refine buildSlice0 hS rfl rfl by8 ?_;clear hS;intro m0 w hS;simp only [putW]);refine ⟨rfl,hS.conv,?_⟩;refine wpAnyH_all (rs := [4,7]) (by kernel_rfl) (by simp) ?_;intro i hi;simp only [List.mem_cons,List.not_mem_nil,or_false] at hi;rcases hi with rfl | rfl;(focus (refine wpOp_of_list rfl ?_;go_wp2_with (refine load1 hS rfl rfl rfl rfl ?_;simp only [putW]);refine ⟨rfl,hS.conv,?_⟩;refine wpAnyH_all (rs := [7]) (by kernel_rfl) (by simp) ?_;intro i hi;simp only [List.mem_cons,List.not_mem_nil,or_false] at hi;subst hi;refine wpOp_of_list rfl ?_;go_wp2_with (refine appendB (f := by8) hS rfl rfl (.slice (some ⟨m0,0,none⟩) 0 0) rfl rfl B (HR.out _ hS.conv) ?_ ?_ ?_ ?_;(focus (simp [one,Value.oneCell'];done));(focus (simp [maxLen];omega));(focus (simp [maxLen];omega));clear hS;intro v' w hS;simp only [putW]);refine ⟨rfl,hS.conv,?_⟩;refine wpAnyH_all (rs := [8]) (by kernel_rfl) (by simp) ?_;intro i hi;simp only [List.mem_cons,List.not_mem_nil,or_false] at hi;subst hi;refine wpOp_of_list rfl ?_;go_wp2_with (obtain ⟨q3,c3,hv3⟩ := shapeN (hS.pull (blk v') (X := sl 1 by8 ([] ++ B) 5 v')) (show (([] : List Int) ++ B).length = 256 from HB.out.1);subst hv3;(refine buildSlice1 (c := #[.slice q3 256 c3]) hS rfl rfl rfl ?_ ?_ ?_ ?_;rfl;rfl;rfl;clear hS;intro mb w hS;simp only [putW]));refine ⟨rfl,hS.conv,?_⟩;refine wpAnyH_all (rs := [9]) (by kernel_rfl) (by simp) ?_;intro i hi;simp only [List.mem_cons,List.not_mem_nil,or_false] at hi;subst hi;refine wpOp_of_list rfl ?_;go_wp2_with (refine append1 (n := 1) (f := rowF) hS rfl rfl vI rfl rfl ((.slice q3 256 c3,B) : Value × List Int) rfl (by simp [Value.oneCell']) rfl HMi.out.1 HMi.out.2 ?_;clear hS;intro v2 w hS;have hvc := hS.slCell (α := Value × List Int) (v := v2);simp only [putW]);refine ⟨rfl,hS.conv,?_⟩;(apply takeIf (i := 10) rfl (by kernel_rfl) (fun _ _ _ h => h);(focus (apply yRun rfl;intro w;first | (go_simp;done) | (go_simp;rfl)));(focus (exact hS.conv));simp only [putW]);(apply takeIf (i := 11) rfl (by kernel_rfl) (fun _ _ _ h => h);(focus (apply yRun rfl;intro w;first | (go_simp;done) | (go_simp;rfl)));(focus (exact hS.conv));simp only [putW]);refine wpAnyH_all (rs := [12]) (by kernel_rfl) (by simp) ?_;intro i hi;simp only [List.mem_cons,List.not_mem_nil,or_false] at hi;subst hi;refine wpOp_of_list rfl ?_;go_wp2_with (refine store1 (b := j) (v := v2) hS rfl rfl rfl rfl hvc ?_ ?_;(focus (simp;done));clear hS;intro w hS;simp only [evW,putW] at hS;try simp only [putW]);refine ⟨rfl,hS.conv,?_⟩;refine wpAnyH_done (by kernel_rfl) ?_ _;go_wp2_with (refine load1 hS rfl rfl rfl rfl ?_;simp only [putW]);go_meet;(case rel => exact ⟨v2,q3,c3,by simp only [List.nil_append] at hS;exact hS.conv⟩)));(focus (refine wpOp_of_list rfl ?_;go_wp2_with (refine appendB (f := by8) hS rfl rfl (.slice (some ⟨m0,0,none⟩) 0 0) rfl rfl B (HR.out _ hS.conv) ?_ ?_ ?_ ?_;(focus (simp [one,Value.oneCell'];done));(focus (simp [maxLen];omega));(focus (simp [maxLen];omega));clear hS;intro v' w hS;simp only [putW]);refine ⟨rfl,hS.conv,?_⟩;refine wpAnyH_all (rs := [4,8]) (by kernel_rfl) (by simp) ?_;intro i hi;simp only [List.mem_cons,List.not_mem_nil,or_false] at hi;rcases hi with rfl | rfl;(focus (refine wpOp_of_list rfl ?_;go_wp2_with (refine load1 hS rfl rfl rfl rfl ?_;simp only [putW]);refine ⟨rfl,hS.conv,?_⟩;refine wpAnyH_all (rs := [8]) (by kernel_rfl) (by simp) ?_;intro i hi;simp only [List.mem_cons,List.not_mem_nil,or_false] at hi;subst hi;refine wpOp_of_list rfl ?_;go_wp2_with (obtain ⟨q3,c3,hv3⟩ := shapeN (hS.pull (blk v') (X := sl 1 by8 ([] ++ B) 5 v')) (show (([] : List Int) ++ B).length = 256 from HB.out.1);subst hv3;(refine buildSlice1 (c := #[.slice q3 256 c3]) hS rfl rfl rfl ?_ ?_ ?_ ?_;rfl;rfl;rfl;clear hS;intro mb w hS;simp only [putW]));refine ⟨rfl,hS.conv,?_⟩;refine wpAnyH_all (rs := [9]) (by kernel_rfl) (by simp) ?_;intro i hi;simp only [List.mem_cons,List.not_mem_nil,or_false] at hi;subst hi;refine wpOp_of_list rfl ?_;go_wp2_with (refine append1 (n := 1) (f := rowF) hS rfl rfl vI rfl rfl ((.slice q3 256 c3,B) : Value × List Int) rfl (by simp [Value.oneCell']) rfl HMi.out.1 HMi.out.2 ?_;clear hS;intro v2 w hS;have hvc := hS.slCell (α := Value × List Int) (v := v2);simp only [putW]);refine ⟨rfl,hS.conv,?_⟩;(apply takeIf (i := 10) rfl (by kernel_rfl) (fun _ _ _ h => h);(focus (apply yRun rfl;intro w;first | (go_simp;done) | (go_simp;rfl)));(focus (exact hS.conv));simp only [putW]);(apply takeIf (i := 11) rfl (by kernel_rfl) (fun _ _ _ h => h);(focus (apply yRun rfl;intro w;first | (go_simp;done) | (go_simp;rfl)));(focus (exact hS.conv));simp only [putW]);refine wpAnyH_all (rs := [12]) (by kernel_rfl) (by simp) ?_;intro i hi;simp only [List.mem_cons,List.not_mem_nil,or_false] at hi;subst hi;refine wpOp_of_list rfl ?_;go_wp2_with (refine store1 (b := j) (v := v2) hS rfl rfl rfl rfl hvc ?_ ?_;(focus (simp;done));clear hS;intro w hS;simp only [evW,putW] at hS;try simp only [putW]);refine ⟨rfl,hS.conv,?_⟩;refine wpAnyH_done (by kernel_rfl) ?_ _;go_wp2_with (refine load1 hS rfl rfl rfl rfl ?_;simp only [putW]);go_meet;(case rel => exact ⟨v2,q3,c3,by simp only [List.nil_append] at hS;exact hS.conv⟩)));(focus (refine wpOp_of_list rfl ?_;go_wp2_with (obtain ⟨q3,c3,hv3⟩ := shapeN (hS.pull (blk v') (X := sl 1 by8 ([] ++ B) 5 v')) (show (([] : List Int) ++ B).length = 256 from HB.out.1);subst hv3;(refine buildSlice1 (c := #[.slice q3 256 c3]) hS rfl rfl rfl ?_ ?_ ?_ ?_;rfl;rfl;rfl;clear hS;intro mb w hS;simp only [putW]));refine ⟨rfl,hS.conv,?_⟩;refine wpAnyH_all (rs := [4]) (by kernel_rfl) (by simp) ?_;intro i hi;simp only [List.mem_cons,List.not_mem_nil,or_false] at hi;subst hi;refine wpOp_of_list rfl ?_;go_wp2_with (refine load1 hS rfl rfl rfl rfl ?_;simp only [putW]);refine ⟨rfl,hS.conv,?_⟩;refine wpAnyH_all (rs := [9]) (by kernel_rfl) (by simp) ?_;intro i hi;simp only [List.mem_cons,List.not_mem_nil,or_false] at hi;subst hi;refine wpOp_of_list rfl ?_;go_wp2_with (refine append1 (n := 1) (f := rowF) hS rfl rfl vI rfl rfl ((.slice q3 256 c3,B) : Value × List Int) rfl (by simp [Value.oneCell']) rfl HMi.out.1 HMi.out.2 ?_;clear hS;intro v2 w hS;have hvc := hS.slCell (α := Value × List Int) (v := v2);simp only [putW]);refine ⟨rfl,hS.conv,?_⟩;(apply takeIf (i := 10) rfl (by kernel_rfl) (fun _ _ _ h => h);(focus (apply yRun rfl;intro w;first | (go_simp;done) | (go_simp;rfl)));(focus (exact hS.conv));simp only [putW]);(apply takeIf (i := 11) rfl (by kernel_rfl) (fun _ _ _ h => h);(focus (apply yRun rfl;intro w;first | (go_simp;done) | (go_simp;rfl)));(focus (exact hS.conv));simp only [putW]);refine wpAnyH_all (rs := [12]) (by kernel_rfl) (by simp) ?_;intro i hi;simp only [List.mem_cons,List.not_mem_nil,or_false] at hi;subst hi;refine wpOp_of_list rfl ?_;go_wp2_with (refine store1 (b := j) (v := v2) hS rfl rfl rfl rfl hvc ?_ ?_;(focus (simp;done));clear hS;intro w hS;simp only [evW,putW] at hS;try simp only [putW]);refine ⟨rfl,hS.conv,?_⟩;refine wpAnyH_done (by kernel_rfl) ?_ _;go_wp2_with (refine load1 hS rfl rfl rfl rfl ?_;simp only [putW]);go_meet;(case rel => exact ⟨v2,q3,c3,by simp only [List.nil_append] at hS;exact hS.conv⟩))))))))
    case rest =>
      clear hS
      obtain ⟨vI2,q3,c3,hS⟩ := hcut
      go_wp2_with (refine load1 hS rfl rfl rfl rfl ?_;simp only [putW])
      go_ret
      refine ⟨rfl,?_⟩
      have e1 : putPs 0 Ps k B = Ps ++ [(pre k B,dig k B)] := if_pos rfl
      have e2 : putL 0 L k B = L ++ [(k,B)] := if_pos rfl
      rw [e1,e2,HDg.out]
      have h7 := hS.innAdd (.slice q3 256 c3) (j := 79) (X := X) (t := 5) rfl
      have h8 : Sat w0 ((j,cells (jobA d r lg pl vB2 vD2 vI2 (.slice none 0 0) false 0) 90)::(blk vB2,sl 1 i64 (jobBs L ++ [(k : Int)]) 3 vB2)::(blk vD2,sl 32 digF (jobDs L ++ [Dg]) 26 vD2)::(blk vI2,sl 1 rowF (X ++ [((.slice q3 256 c3,B) : Value × List Int)]) 48 vI2)::(79,inn (X ++ [((.slice q3 256 c3,B) : Value × List Int)]) 5)::(1,LogV lg (Ps ++ [(pre k B,Dg)]))::(d,DevG cv D1)::K) wc := h7.conv
      have eB : jobBs (L ++ [(k,B)]) = jobBs L ++ [(k : Int)] := by unfold jobBs;rw [List.map_append];rfl
      have eD : jobDs (L ++ [(k,B)]) = jobDs L ++ [Dg] := by unfold jobDs;rw [List.map_append,← HDg.out];rfl
      rw [← eB,← eD] at h8
      refine (closeJobN (L := L ++ [(k,B)]) ⟨?_,fun x hx => ?_,?_⟩ h8).conv
      · rw [List.map_append,List.map_append,HF.out.1];rfl
      · rcases List.mem_append.1 hx with h | h
        · exact HF.out.2.1 x h
        · rw [List.mem_singleton.1 h];exact ⟨HK.out.1,HB.out⟩
      · rw [List.length_append,HM.out.1];exact HK.out.2
end
end Go.Proofs.YtdkimdobcacpfaaDoor
