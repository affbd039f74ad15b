/-
  base.read: blocks in a row.
  base.finish in plain words: what it notes; what it reads.
  base.finish: the images of a journal go home.
-/
import Derived.Test.YtdkimdobcacpfaaDoorBsWu
import Derived.Test.YtdkimdobcacpfaaDoorBsA
import Derived.Test.YtdkimdobcacpfaaDoorJMark
import Derived.Test.YtdkimdobcacpfaaDoorJOp
set_option linter.unusedSimpArgs false
set_option linter.unusedVariables false
namespace Go.Proofs.YtdkimdobcacpfaaDoor
open Go.RowKit Go.Proofs.YtdkimdobcacpfaaDoor.Sl Go.Proofs.YtdkimdobcacpfaaDoor.Sha Go.Proofs.YtdkimdobcacpfaaDoor.Jp Go.Proofs.YtdkimdobcacpfaaDoor.Tr Go.Proofs.YtdkimdobcacpfaaDoor.Dv

section
variable {w0 w : World} {K F S : List Chunk} {d : Nat} {D : Dev} {cv : Value}
theorem devRead_at {k : Nat} {ki : Int} (hki : ki = k) (hoff : D.off = false) (hk : k < D.st.length) (hz : D.wt.length ≤ 1000000) (hS : Sat w0 ((d,DevG cv D)::K) w) : Calls Tryd.prog 31 #[.pointer (some ⟨d,0,none⟩),.int .i64 ki] w fun e w' => ∃ v,e = .returned (.tuple #[v,.int .i64 0]) ∧ Sat w0 ((blk v,sl 1 by8 (D.now k) 109 v)::(d,DevG cv D)::K) w' := by
  subst hki
  exact devRead_ok hoff hk hz hS
theorem rowsAt_succ (D : Dev) (f k : Nat) : rowsAt D f (k + 1) = rowsAt D f k ++ [D.now (f + k)] := by
  unfold rowsAt
  rw [List.range_succ,List.map_append]
  rfl
theorem rowsAt_len (D : Dev) (f k : Nat) : (rowsAt D f k).length = k := by unfold rowsAt;simp
set_option maxRecDepth 100000 in
set_option maxHeartbeats 4000000 in
theorem read_ok {f n : Nat} (hoff : D.off = false) (hn : f + n ≤ D.st.length) (hz : D.wt.length ≤ 1000000) (hS : Sat w0 ((d,DevG cv D)::K) w) : Calls Tryd.prog 47 #[.pointer (some ⟨d,0,none⟩),.int .i64 f,.int .i64 n] w fun e w' => ∃ v X,e = .returned (.tuple #[v,.int .i64 0]) ∧ Bx ((X : List (Value × List Int)).map (·.2) = rowsAt D f n) ∧ Sat w0 ((blk v,sl 1 rowF X 48 v)::(71,inn X 109)::(d,DevG cv D)::K) w' := by
  have hO := devOk hS
  have hst : D.st.length ≤ 65536 := hO.n2
  have hn6 : f + n ≤ 65536 := by omega
  have HO : Bx _ := ⟨hO⟩
  have HOff : Bx _ := ⟨hoff⟩
  have HN : Bx _ := ⟨hn⟩
  have HZ : Bx _ := ⟨hz⟩
  clear hO hoff hst hn hz
  have hS1 := (hS.innNil 71 109).slNil 1 rowF 48
  clear hS
  have hS := hS1
  clear hS1
  go_enter Tryd.func47,Tryd.ntmps47
  go_wp2_with (refine load1 hS rfl rfl rfl rfl ?_;simp only [putW])
  go_loopg [8,13] n (fun g v i wr => ∃ (k : Nat) (X : List (Value × List Int)),k + g = n ∧ i = .int .i64 k ∧ Bx (X.map (·.2) = rowsAt D f k) ∧ Sat w0 ((blk v,sl 1 rowF X 48 v)::(71,inn X 109)::(d,DevG cv D)::K) wr)
  case atStart => exact ⟨0,[],by omega,rfl,⟨rfl⟩,hS⟩
  case round =>
    clear hS
    obtain ⟨k,X,hkg,rfl,HX,hS⟩ := hrel
    cases gk with
    | zero =>
      have hkn : k = n := by omega
      subst hkn
      go_wp2_with (refine load1 hS rfl rfl rfl rfl ?_;simp only [putW])
      exact bodyPost_ret (v := .tuple #[_,.int .i64 0]) (by simp [results,Tryd.results47]) rfl ⟨_,X,rfl,HX,hS⟩
    | succ g =>
      have hkn : k < n := by omega
      have hXl : X.length ≤ 65536 := by
        have h1 := congrArg List.length HX.out
        rw [List.length_map,rowsAt_len] at h1
        omega
      have hrow := HO.out.now (k := f + k) (by have := HN.out;omega)
      obtain ⟨r,hr⟩ : ∃ r,D.now (f + k) = r := ⟨_,rfl⟩
      rw [hr] at hrow
      have HR : Bx _ := ⟨hrow⟩
      have HRr : Bx _ := ⟨hr⟩
      clear hr hrow
      go_wp2_with (guard_target =~ Calls _ 31 _ _ _;refine Stopped.out ?_)
      refine ⟨?_⟩
      refine Calls.mono (devRead_at (k := f + k) (by omega) HOff.out (by have := HN.out;omega) HZ.out (hS.pull d (X := DevG cv D))) ?_
      rw [HRr.out]
      clear hS
      rintro _ w ⟨v1,rfl,hS⟩
      obtain ⟨q1,c1,hv1⟩ := shapeN hS HR.out.1
      subst hv1
      simp only [putW]
      go_wp2_with (first | (refine buildSlice1 (c := #[.slice q1 256 c1]) hS rfl rfl rfl ?_ ?_ ?_ ?_;rfl;rfl;rfl;clear hS;intro mb w hS;simp only [putW]) | (refine append1 (f := rowF) hS rfl rfl u8 rfl rfl ((.slice q1 256 c1,r) : Value × List Int) ?_ ?_ ?_ ?_ ?_ ?_;rfl;(focus (simp [rowF,one,Value.oneCell'];done));rfl;(focus (simp [maxLen];omega));(focus (omega));clear hS;intro v' w hS;simp only [putW]))
      go_roundg g
      case measure => omega
      case rel => exact ⟨k + 1,X ++ [(.slice q1 256 c1,r)],by omega,by go_num,⟨by rw [List.map_append,HX.out,rowsAt_succ,HRr.out];rfl⟩,(hS.innAdd (.slice q1 256 c1) (j := 71) (X := X) (t := 109) rfl).conv⟩
end
end Go.Proofs.YtdkimdobcacpfaaDoor
namespace Go.Proofs.YtdkimdobcacpfaaDoor
open Go.RowKit Go.Proofs.YtdkimdobcacpfaaDoor.Sl Go.Proofs.YtdkimdobcacpfaaDoor.Sha Go.Proofs.YtdkimdobcacpfaaDoor.Jp Go.Proofs.YtdkimdobcacpfaaDoor.Tr Go.Proofs.YtdkimdobcacpfaaDoor.Dv

/-- What a mark is made of; the mark. -/
def mkM (H I : List Row) : List Int := 2::H.flatten ++ I.flatten
def mkF (H I : List Row) : List Int := shaF (mkM H I)
theorem mkF_dig (H I : List Row) : isDig (mkF H I) := ⟨dig_len _,dig_byte _⟩
/-- What finish notes. -/
def finL (hd hs jn : Nat) (D : Dev) (R : Rg) : List (List Int × List Int) :=
  if (openR (rowsAt D hd hs) R.budget).2.2 = 0 ∧ (openR (rowsAt D hd hs) R.budget).1 = R.version ∧ ∀ x ∈ (openR (rowsAt D hd hs) R.budget).2.1,x < (hd : Int) then
    [(mkM (rowsAt D hd hs) (rowsAt D jn (openR (rowsAt D hd hs) R.budget).2.1.length),mkF (rowsAt D hd hs) (rowsAt D jn (openR (rowsAt D hd hs) R.budget).2.1.length))]
  else []
theorem openR_facts {H : List Row} {b : Int} (h : (openR H b).2.2 = 0) : (openR H b).2.1.length ≤ b.toNat ∧ ∀ x ∈ (openR H b).2.1,0 ≤ x ∧ x < 65536 := by
  by_cases hb : okB b
  · by_cases ho : openOk H b
    · rw [openR_ok hb ho]
      obtain ⟨_,h2⟩ := ho
      unfold headOf at h2
      split at h2
      · rename_i hk
        exact ⟨by have := hk.2.1;have := hb.1;show (nums4 H.flatten (Jp.cnt H.flatten).toNat).length ≤ _;omega,hk.2.2⟩
      · cases h2
    · rw [openR_form hb ho] at h;cases h
  · rw [openR_bad hb] at h;cases h
theorem rowsAt_row {D : Dev} (h : D.Ok) {f n : Nat} (hn : f + n ≤ D.st.length) : ∀ r ∈ rowsAt D f n,isRow r := fun r hr => by
  obtain ⟨i,hi,rfl⟩ := List.mem_map.1 hr
  exact h.now (by have := List.mem_range.1 hi;omega)
theorem flat_256 : ∀ {H : List Row},(∀ r ∈ H,isRow r) → H.flatten.length = 256 * H.length
  | [],_ => rfl
  | r::H,h => by
    rw [List.flatten_cons,List.length_append,flat_256 fun x hx => h x (by simp [hx]),(h r (by simp)).1,List.length_cons]
    omega
section
variable {hd hs jn : Nat} {D : Dev} {R : Rg}
theorem fin_code {c : Int} {L : List Int} {v : Int} (ho : openR (rowsAt D hd hs) R.budget = (v,L,c)) (h : ¬ (c = 0 ∧ v = R.version ∧ ∀ x ∈ L,x < (hd : Int))) : finishP openR mkF hd hs jn D R = (D,10) ∧ finL hd hs jn D R = [] := by
  constructor
  · unfold finishP headOk
    rw [ho,if_pos]
    simp only [Bool.and_eq_false_iff,decide_eq_false_iff_not,List.all_eq_false,decide_eq_true_eq]
    by_cases h1 : c = 0
    · by_cases h2 : v = R.version
      · refine .inl (.inr ?_)
        have h3 : ¬ ∀ x ∈ L,x < (hd : Int) := fun h4 => h ⟨h1,h2,h4⟩
        simpa using h3
      · exact .inl (.inl (.inr h2))
    · exact .inl (.inl (.inl h1))
  · unfold finL
    rw [ho,if_neg h]
theorem fin_mark {L : List Int} {v : Int} (ho : openR (rowsAt D hd hs) R.budget = (v,L,0)) (hv : v = R.version) (hl : ∀ x ∈ L,x < (hd : Int)) : finL hd hs jn D R = [(mkM (rowsAt D hd hs) (rowsAt D jn L.length),mkF (rowsAt D hd hs) (rowsAt D jn L.length))] ∧
    (mkF (rowsAt D hd hs) (rowsAt D jn L.length) ≠ R.mark → finishP openR mkF hd hs jn D R = (D,10)) ∧
    (mkF (rowsAt D hd hs) (rowsAt D jn L.length) = R.mark → finishP openR mkF hd hs jn D R = if (wrL D ((L.map Int.toNat).zip (rowsAt D jn L.length))).2 ≠ 0 then wrL D ((L.map Int.toNat).zip (rowsAt D jn L.length)) else (wrL D ((L.map Int.toNat).zip (rowsAt D jn L.length))).1.flush) := by
  refine ⟨?_,fun h => ?_,fun h => ?_⟩
  · unfold finL
    rw [ho,if_pos ⟨rfl,hv,hl⟩]
  · unfold finishP headOk
    rw [ho,if_pos]
    simp only [Bool.and_eq_false_iff,decide_eq_false_iff_not]
    exact .inr h
  · have hk : headOk openR mkF hd hs jn D R = true := by
      unfold headOk
      rw [ho]
      simp only [Bool.and_eq_true,decide_eq_true_eq,List.all_eq_true]
      exact ⟨⟨⟨trivial,hv⟩,hl⟩,h⟩
    unfold finishP
    rw [hk,if_neg (by simp)]
    unfold imgs
    rw [ho]
end
end Go.Proofs.YtdkimdobcacpfaaDoor
namespace Go.Proofs.YtdkimdobcacpfaaDoor
open Go.RowKit Go.Proofs.YtdkimdobcacpfaaDoor.Sl Go.Proofs.YtdkimdobcacpfaaDoor.Sha Go.Proofs.YtdkimdobcacpfaaDoor.Jp Go.Proofs.YtdkimdobcacpfaaDoor.Tr
section
variable {w0 w : World} {K F S : List Chunk} {l : Nat} {lg vh vi : Value} {Ps : List (List Int × List Int)} {H I : List (Value × List Int)}
theorem mark_v {M D : List Int} (hM : 2::cat H ++ cat I = M) (hD : shaF M = D) (hS : Sat w0 ((1,LogV lg Ps)::K) w) (hP : Ps.length ≤ 1000000) (hH : RR w H vh) (hI : RR w I vi) (hK : KTab w0) (hh : (cat H).length ≤ 1000000) (hi : (cat I).length ≤ 1000000) (hn : H.length ≤ 10000) (hm : I.length ≤ 10000) :
    Calls Tryd.prog 49 #[lg,vh,vi] w fun e w' => e = .returned (.agg (D.map u8v).toArray) ∧ Sat w0 ((1,LogV lg (Ps ++ [(M,D)]))::K) w' := by
  have hKw := hK.mono hS.base
  rcases logOpen hS with rfl | ⟨l,rfl,hS2⟩
  · refine (mark_nil hM hD hH hI hKw hh hi hn hm).mono fun e w' h => ⟨h.1,?_⟩
    exact logNil (hS.frame h.2).tail _
  · refine (mark_any hM hD hS2 hP hH hI hKw hh hi hn hm).mono fun e w' h => ⟨h.1,?_⟩
    exact logSome h.2
end
end Go.Proofs.YtdkimdobcacpfaaDoor
namespace Go.Proofs.YtdkimdobcacpfaaDoor
open Go.RowKit Go.Proofs.YtdkimdobcacpfaaDoor.Sl Go.Proofs.YtdkimdobcacpfaaDoor.Sha Go.Proofs.YtdkimdobcacpfaaDoor.Jp Go.Proofs.YtdkimdobcacpfaaDoor.Tr Go.Proofs.YtdkimdobcacpfaaDoor.Dv

section
variable {w0 w : World} {K F S : List Chunk} {d : Nat} {D : Dev} {cv lg lv : Value} {R : Rg} {Ps : List (List Int × List Int)}
theorem stPart40 {s : Rg} (h : s.Wf) : PartIs (stV s).toArray 40 32 (s.mark.map u8v) := ⟨by rw [List.length_map];exact h.mark.1,by
  have e : (stV s).toArray.toList.drop 40 = s.mark.map u8v := by
    show ((stV s).drop 8).drop 32 = _
    show (s.root.map u8v ++ s.mark.map u8v).drop 32 = _
    rw [List.drop_left' (by rw [List.length_map];exact h.root.1)]
  rw [e,List.take_of_length_le (by rw [List.length_map,h.mark.1];exact Nat.le_refl _)]⟩
/-- The rows of an 'inn', read. -/
theorem innRow {X : List (Value × List Int)} {k j : Nat} {v : Value} {r : Row} {t : TypeId} (hx : X[k]? = some (v,r)) (hr : ∀ b ∈ r,okByte b) {w' : World} (h : Sat w0 F w') [Pull F j (inn X t) S] : RB w' r v :=
  (h.pull j (X := inn X t)).innReads (List.mem_of_getElem? hx) hr
theorem wrL_step {D : Dev} {k : Nat} {b : Row} {l : List (Nat × Row)} (h : (D.write k b).2 = 0) : wrL D ((k,b)::l) = wrL (D.write k b).1 l := by rw [wrL,if_neg (not_not_intro h)]
theorem wrL_stop {D : Dev} {k : Nat} {b : Row} {l : List (Nat × Row)} (h : (D.write k b).2 ≠ 0) : wrL D ((k,b)::l) = D.write k b := by rw [wrL,if_pos h]
set_option maxRecDepth 100000 in
set_option maxHeartbeats 16000000 in
theorem finish_any {P b n0 : Nat} (hP : Ps.length ≤ 900000) (hR : R.Wf) (hb : R.budget = (b : Int)) (h1 : 1 ≤ b) (h2 : b ≤ 256) (hT : plT P b ≤ D.st.length) (hoff : D.off = false) (hsm : D.wt.length ≤ n0 ∧ D.wr.length ≤ n0 ∧ D.count ≤ n0 ∧ D.armed ≤ 9223372036854775807) (hn0 : n0 ≤ 900000) (hK : KTab w0) (hS : Sat w0 ((1,LogV lg Ps)::(d,DevG cv D)::K) w) :
    Calls Tryd.prog 30 #[.pointer (some ⟨d,0,none⟩),.agg (stV R).toArray,.agg (planV P b lv).toArray,lg] w fun e w' => e = .returned (.int .i64 (finishP openR mkF (plH P) (plHd b) (plJ P b) D R).2) ∧ Sat w0 ((1,LogV lg (Ps ++ finL (plH P) (plHd b) (plJ P b) D R))::(d,DevG cv (finishP openR mkF (plH P) (plHd b) (plJ P b) D R).1)::K) w' := by
  have hO := devOk (hS.pull d (X := DevG cv D))
  have hst : D.st.length ≤ 65536 := hO.n2
  obtain ⟨hd,hhd⟩ : ∃ hd,plH P = hd := ⟨_,rfl⟩
  obtain ⟨hs,hhs⟩ : ∃ hs,plHd b = hs := ⟨_,rfl⟩
  obtain ⟨jn,hjn⟩ : ∃ jn,plJ P b = jn := ⟨_,rfl⟩
  have hTe : plT P b = jn + b + b := by rw [← hjn];rfl
  have hJe : jn = hd + hs := by rw [← hjn,← hhd,← hhs];rfl
  have hs5 : hs ≤ 5 := by
    have e : plHd b = ceil (12 + 4 * b) 256 := rfl
    rw [← hhs,e];unfold ceil;omega
  obtain ⟨H,hH⟩ : ∃ H,rowsAt D hd hs = H := ⟨_,rfl⟩
  have hHr : ∀ r ∈ H,isRow r := by rw [← hH];exact rowsAt_row hO (by omega)
  have hHl : H.length = hs := by rw [← hH];exact rowsAt_len _ _ _
  obtain ⟨vo,L,co,ho⟩ : ∃ vo L co,openR H b = (vo,L,co) := ⟨_,_,_,rfl⟩
  have HPl : Bx ((planV P b lv).toArray = #[.int .i64 P,.int .i64 b,.int .i64 (plC P : Nat),lv,.int .i64 (plN P : Nat),.int .i64 (hd : Nat),.int .i64 (hs : Nat),.int .i64 (jn : Nat),.int .i64 ((jn + b : Nat)),.int .i64 (plT P b : Nat)]) := ⟨by rw [← hhd,← hhs,← hjn]⟩
  have HL : Bx ((stV R).toArray.size = 72) := ⟨by rw [List.size_toArray];exact stV_len hR⟩
  have HC1 : Bx (CellIs (stV R).toArray 1 (.int .i64 b)) := ⟨by rw [← hb];exact stCell1 R⟩
  have HC4 : Bx (CellIs (stV R).toArray 4 (.int .u64 R.version)) := ⟨stCell4 R⟩
  have HC9 : Bx _ := ⟨stPart40 hR⟩
  obtain ⟨FP,hFP⟩ : ∃ FP,finishP openR mkF hd hs jn D R = FP := ⟨_,rfl⟩
  obtain ⟨FL,hFL⟩ : ∃ FL,finL hd hs jn D R = FL := ⟨_,rfl⟩
  have HFP : Bx _ := ⟨hFP⟩
  have HFL : Bx _ := ⟨hFL⟩
  have HO : Bx _ := ⟨hO⟩
  have HH : Bx _ := ⟨hH⟩
  have HHr : Bx _ := ⟨hHr⟩
  have HHl : Bx _ := ⟨hHl⟩
  have HOp : Bx _ := ⟨ho⟩
  have HOff : Bx _ := ⟨hoff⟩
  have HB : Bx _ := ⟨hb⟩
  have HT : Bx (jn + b + b ≤ D.st.length) := ⟨by omega⟩
  have HJ : Bx _ := ⟨hJe⟩
  have HSm : Bx _ := ⟨hsm⟩
  have HRw : Bx _ := ⟨hR⟩
  have hopen : openR (rowsAt D hd hs) R.budget = (vo,L,co) := by rw [hH,hb];exact ho
  have HOp2 : Bx _ := ⟨hopen⟩
  rw [hhd,hhs,hjn,hFP,hFL,HPl.out]
  clear hO hhd hhs hjn hH hHr hHl ho hFP hFL hoff hb hTe hJe hT hsm hR hopen
  have hfin : ∀ {w4 : World},FP = (D,10) → FL = [] → Sat w0 ((1,LogV lg Ps)::(d,DevG cv D)::K) w4 → Ending.returned (.int .i64 10) = .returned (.int .i64 FP.2) ∧ Sat w0 ((1,LogV lg (Ps ++ FL))::(d,DevG cv FP.1)::K) w4 := fun e1 e2 h => by
    subst e1;subst e2
    rw [List.append_nil]
    exact ⟨rfl,h⟩
  go_enter Tryd.func30,Tryd.ntmps30
  go_wp2_with (first | (refine boxN (cs := (stV R).toArray) hS rfl rfl rfl ?_;clear hS;intro m5 w hS;simp only [putW]) | (refine boxN (cs := #[.int .i64 P,.int .i64 b,.int .i64 (plC P : Nat),lv,.int .i64 (plN P : Nat),.int .i64 (hd : Nat),.int .i64 (hs : Nat),.int .i64 (jn : Nat),.int .i64 ((jn + b : Nat)),.int .i64 (plT P b : Nat)]) hS rfl rfl rfl ?_;clear hS;intro m6 w hS;simp only [putW]) | (guard_target =~ Calls _ 47 _ _ _;refine Stopped.out ?_) | (refine load1 hS rfl rfl rfl rfl ?_;simp only [putW]))
  refine ⟨?_⟩
  refine Calls.mono (read_ok (f := hd) (n := hs) HOff.out (by have := HT.out;have := HJ.out;omega) (by have := HSm.out.1;omega) (hS.pull d (X := DevG cv D))) ?_
  rw [HH.out]
  clear hS
  rintro _ w ⟨v1,X1,rfl,HX1,hS⟩
  simp only [putW]
  replace hS := (hS.pull 71 (X := inn X1 109)).turn (b' := 73) (Y := inn X1 109) fun _ h => h
  have hX1b : Bx (∀ x ∈ X1,∀ b ∈ x.2,okByte b) := ⟨fun x hx => (HHr.out x.2 (by rw [← HX1.out];exact List.mem_map_of_mem hx)).2⟩
  have hX1l : X1.length = hs := by have h := congrArg List.length HX1.out;rw [List.length_map,HHl.out] at h;exact h
  have hc1 : Bx (cat X1 = H.flatten) := ⟨by unfold cat;rw [HX1.out]⟩
  have hc1l : (cat X1).length ≤ 1280 := by rw [hc1.out,flat_256 HHr.out,HHl.out];omega
  have HX1l : Bx _ := ⟨hX1l⟩
  have HC1l : Bx _ := ⟨hc1l⟩
  clear hX1l hc1l
  obtain ⟨q1,c1,hv1⟩ := shapeN (hS.pull (blk v1) (X := sl 1 rowF X1 48 v1)) HX1l.out
  subst hv1
  go_wp2_with (first | (refine loadC (b := m5) (c := (stV R).toArray) hS rfl rfl rfl HC1.out ?_;simp only [putW]) | (guard_target =~ Calls _ 48 _ _ _;refine Stopped.out ?_))
  refine ⟨?_⟩
  have hrr := hS.rowsRead (j := 73) (X := X1) (t := 109) (T := 48) (vo := .slice q1 hs c1) hX1b.out
  refine Calls.mono (open_good b ⟨by omega,by omega⟩ hrr (by have := HC1l.out;omega)) ?_
  rw [HX1.out,HOp.out]
  clear hrr
  rintro _ w2 ⟨vl,rfl,hs2⟩
  replace hS := hS.frame hs2
  clear hs2
  simp only [List.cons_append,List.nil_append] at hS
  simp only [putW]
  obtain ⟨m,hm⟩ : ∃ m,L.length = m := ⟨_,rfl⟩
  have HM : Bx _ := ⟨hm⟩
  obtain ⟨ql,cl,hvl⟩ := shapeN hS hm
  subst hvl
  clear hm
  by_cases hco : co = 0
  rotate_left
  · have d1 : decide (co = 0) = false := decide_eq_false hco
    have d2 : (co == 0) = false := by simpa using hco
    have d3 : (co != 0) = true := by simpa using hco
    have hb := fin_code (jn := jn) HOp2.out (fun h => hco h.1)
    rw [HFP.out,HFL.out] at hb
    have HBo : Bx _ := ⟨hb⟩
    clear hco hb
    go_wp2_with (refine load1 hS rfl rfl rfl rfl ?_;simp only [putW])
    go_ret
    exact hfin HBo.out.1 HBo.out.2 hS.conv
  subst hco
  by_cases hvo : vo = R.version
  rotate_left
  · have d1 : decide (vo = R.version) = false := decide_eq_false hvo
    have d2 : (vo == R.version) = false := by simpa using hvo
    have d3 : (vo != R.version) = true := by simpa using hvo
    have hb := fin_code (jn := jn) HOp2.out (fun h => hvo h.2.1)
    rw [HFP.out,HFL.out] at hb
    have HBo : Bx _ := ⟨hb⟩
    clear hvo hb
    go_wp2_with (refine loadC (b := m5) (c := (stV R).toArray) hS rfl rfl rfl HC4.out ?_;simp only [putW])
    go_ret
    exact hfin HBo.out.1 HBo.out.2 hS.conv
  have d1 : decide (vo = R.version) = true := decide_eq_true hvo
  have d2 : (vo == R.version) = true := by simpa using hvo
  have d3 : (vo != R.version) = false := by simpa using hvo
  have HVo : Bx _ := ⟨hvo⟩
  have hLf := openR_facts (H := H) (b := b) (by rw [HOp.out])
  rw [HOp.out] at hLf
  have HLf : Bx _ := ⟨hLf⟩
  have hmb : m ≤ b := by have h1 := hLf.1;have h2 := HM.out;rw [Int.toNat_natCast] at h1;show m ≤ b;rw [← h2];exact h1
  clear hvo hLf
  obtain ⟨I,hI⟩ : ∃ I,rowsAt D jn m = I := ⟨_,rfl⟩
  have hIr : ∀ r ∈ I,isRow r := by rw [← hI];exact rowsAt_row HO.out (by have := HT.out;omega)
  have hIl : I.length = m := by rw [← hI];exact rowsAt_len _ _ _
  have HI : Bx _ := ⟨hI⟩
  have HIr : Bx _ := ⟨hIr⟩
  have HIl : Bx _ := ⟨hIl⟩
  clear hI hIr hIl
  go_wp2_with (first | (refine loadC (b := m5) (c := (stV R).toArray) hS rfl rfl rfl HC4.out ?_;simp only [putW]) | (guard_target =~ Calls _ 47 _ _ _;refine Stopped.out ?_) | (refine load1 hS rfl rfl rfl rfl ?_;simp only [putW]))
  refine ⟨?_⟩
  refine Calls.mono (read_ok (f := jn) (n := m) HOff.out (by have := HT.out;omega) (by have := HSm.out.1;omega) (hS.pull d (X := DevG cv D))) ?_
  rw [HI.out]
  clear hS
  rintro _ w ⟨v2,X2,rfl,HX2,hS⟩
  simp only [putW]
  have hX2b : Bx (∀ x ∈ X2,∀ b ∈ x.2,okByte b) := ⟨fun x hx => (HIr.out x.2 (by rw [← HX2.out];exact List.mem_map_of_mem hx)).2⟩
  have HX2l : Bx (X2.length = m) := ⟨by have h := congrArg List.length HX2.out;rw [List.length_map,HIl.out] at h;exact h⟩
  have hc2 : Bx (cat X2 = I.flatten) := ⟨by unfold cat;rw [HX2.out]⟩
  have HC2l : Bx ((cat X2).length ≤ 65536) := ⟨by rw [hc2.out,flat_256 HIr.out,HIl.out];omega⟩
  obtain ⟨q2,c2,hv2⟩ := shapeN hS HX2l.out
  subst hv2
  replace hS := hS.conv (S' := (d,DevG cv D)::(1,LogV lg Ps)::(blk (.slice ql m cl),sl 1 i64 L 3 (.slice ql m cl))::(blk (.slice q1 hs c1),sl 1 rowF X1 48 (.slice q1 hs c1))::(73,inn X1 109)::(blk (.slice q2 m c2),sl 1 rowF X2 48 (.slice q2 m c2))::(71,inn X2 109)::(m5,cells (stV R).toArray 28)::(m6,cells #[.int .i64 P,.int .i64 b,.int .i64 (plC P : Nat),lv,.int .i64 (plN P : Nat),.int .i64 (hd : Nat),.int .i64 (hs : Nat),.int .i64 (jn : Nat),.int .i64 ((jn + b : Nat)),.int .i64 (plT P b : Nat)] 60)::K)
  go_wp2_with (refine load1 hS rfl rfl rfl rfl ?_;simp only [putW])
  go_loopg [62] m (fun g i wr => ∃ k : Nat,k + g = m ∧ i = .int .i64 k ∧ Bx (∀ (j : Nat) (x : Int),j < k → L[j]? = some x → x < (hd : Int)) ∧ Sat w0 ((d,DevG cv D)::(1,LogV lg Ps)::(blk (.slice ql m cl),sl 1 i64 L 3 (.slice ql m cl))::(blk (.slice q1 hs c1),sl 1 rowF X1 48 (.slice q1 hs c1))::(73,inn X1 109)::(blk (.slice q2 m c2),sl 1 rowF X2 48 (.slice q2 m c2))::(71,inn X2 109)::(m5,cells (stV R).toArray 28)::(m6,cells #[.int .i64 P,.int .i64 b,.int .i64 (plC P : Nat),lv,.int .i64 (plN P : Nat),.int .i64 (hd : Nat),.int .i64 (hs : Nat),.int .i64 (jn : Nat),.int .i64 ((jn + b : Nat)),.int .i64 (plT P b : Nat)] 60)::K) wr)
  case atStart => exact ⟨0,by omega,rfl,⟨fun j x h => absurd h (Nat.not_lt_zero _)⟩,hS⟩
  case round =>
    clear hS
    obtain ⟨k,hkg,rfl,HLow,hS⟩ := hrel
    cases gk with
    | succ g =>
      have hkm : k < m := by omega
      obtain ⟨x,hx⟩ : ∃ x,L[k]? = some x := ⟨_,List.getElem?_eq_getElem (by rw [HM.out];exact hkm)⟩
      have HX : Bx _ := ⟨hx⟩
      clear hx
      obtain ⟨gl,hqq,hcq,hS2⟩ := openS (hS.pull (blk (Value.slice ql m cl)) (X := sl 1 i64 L 3 (Value.slice ql m cl))) HM.out (by omega)
      subst hqq
      clear hS
      have hS := hS2
      clear hS2
      by_cases hlo : x < (hd : Int)
      · have d4 : decide ((hd : Int) ≤ x) = false := decide_eq_false (by omega)
        have HLo : Bx _ := ⟨hlo⟩
        clear hlo
        go_wp2_with (first | (refine loadS (f := i64) hS rfl rfl rfl k 0 ?_ HX.out rfl ?_ ?_;omega;omega;simp only [putW]) | (refine load1 (b := m6) hS rfl rfl rfl rfl ?_;simp only [putW]))
        go_roundg g
        case measure => omega
        case rel => exact ⟨k + 1,by omega,by go_num,⟨fun j y hj hy => by
          by_cases e : j < k
          · exact HLow.out j y e hy
          · have e2 : j = k := by omega
            subst e2
            rw [HX.out] at hy
            rw [← Option.some.inj hy]
            exact HLo.out⟩,(closeSlN (hS.pull gl (X := slc 1 i64 L cl 3)) HM.out).conv⟩
      · have d4 : decide ((hd : Int) ≤ x) = true := decide_eq_true (by omega)
        have hb := fin_code (jn := jn) HOp2.out (fun h => hlo (h.2.2 x (List.mem_of_getElem? HX.out)))
        rw [HFP.out,HFL.out] at hb
        have HBo : Bx _ := ⟨hb⟩
        clear hlo hb
        go_wp2_with (first | (refine loadS (f := i64) hS rfl rfl rfl k 0 ?_ HX.out rfl ?_ ?_;omega;omega;simp only [putW]) | (refine load1 (b := m6) hS rfl rfl rfl rfl ?_;simp only [putW]))
        go_ret
        exact hfin HBo.out.1 HBo.out.2 hS.conv
    | zero =>
      have hkm : k = m := by omega
      subst hkm
      have hlow : ∀ x ∈ L,x < (hd : Int) := fun x hx => by
        obtain ⟨j,hj⟩ := List.mem_iff_getElem?.1 hx
        exact HLow.out j x (by have := (List.getElem?_eq_some_iff.1 hj).1;rw [HM.out] at this;exact this) hj
      have hmk := fin_mark (jn := jn) HOp2.out HVo.out hlow
      rw [HH.out,HM.out,HI.out,HFP.out,HFL.out] at hmk
      have HMk : Bx _ := ⟨hmk⟩
      have hEq := eq32 (mkF_dig H I).1 HRw.out.mark.1 (mkF_dig H I).2 HRw.out.mark.2
      have HMM : Bx (2::cat X1 ++ cat X2 = mkM H I) := ⟨by rw [hc1.out,hc2.out];rfl⟩
      have HX1l2 : Bx (X1.length ≤ 10000 ∧ X2.length ≤ 10000) := ⟨by rw [HX1l.out];omega,by rw [HX2l.out];omega⟩
      clear hlow hmk HLow
      go_upto_region 16 with (refine load1 hS rfl rfl rfl rfl ?_;simp only [putW])
      by_cases hmr : mkF H I = R.mark
      rotate_left
      · have drt : decide (mkF H I = R.mark) = false := decide_eq_false hmr
        rw [drt] at hEq
        have hb1 : Bx (FP = (D,10)) := ⟨HMk.out.2.1 hmr⟩
        clear hmr drt
        (refine wp_region_held (S := fun w' => Sat w0 ((d,DevG cv D)::(blk (.slice ql k cl),sl 1 i64 L 3 (.slice ql k cl))::(blk (.slice q1 hs c1),sl 1 rowF X1 48 (.slice q1 hs c1))::(73,inn X1 109)::(blk (.slice q2 k c2),sl 1 rowF X2 48 (.slice q2 k c2))::(71,inn X2 109)::(m5,cells (stV R).toArray 28)::(m6,cells #[.int .i64 P,.int .i64 b,.int .i64 (plC P : Nat),lv,.int .i64 (plN P : Nat),.int .i64 (hd : Nat),.int .i64 (hs : Nat),.int .i64 (jn : Nat),.int .i64 ((jn + b : Nat)),.int .i64 (plT P b : Nat)] 60)::K) w') (by kernel_rfl) ?_;replace hS := hS.drew;(refine takeIf (i := 0) rfl (by kernel_rfl) (fun _ _ _ h => h) (yMove rfl rfl rfl) hS.conv ?_;simp only [evW,putW]);(refine takeIf (i := 1) rfl (by kernel_rfl) (fun _ _ _ h => h) (yMove rfl rfl rfl) hS.conv ?_;simp only [evW,putW]);(refine takeIf (i := 2) rfl (by kernel_rfl) (fun _ _ _ h => h) (yMove rfl rfl rfl) hS.conv ?_;simp only [evW,putW]);(apply takeIf (i := 4) rfl (by kernel_rfl) (fun _ _ _ h => h);(focus (apply yRun rfl;intro w;first | (go_simp;done) | (go_simp;rfl)));(focus (exact hS.conv));simp only [putW]);(refine takeIf (i := 5) rfl (by kernel_rfl) (fun _ _ _ h => h) (yLoadP (b := m5) (fun _ h => h) rfl rfl rfl HC9.out) hS.conv ?_;simp only [putW]);refine wpAnyH_all (rs := [3]) (by kernel_rfl) (by simp) ?_;intro i hi;simp only [List.mem_cons,List.not_mem_nil,or_false] at hi;subst hi;refine wpOp_of_list rfl ?_;go_wp2_with (go_at_call 49;refine Calls.mono (mark_v (H := X1) (I := X2) (M := mkM H I) (D := mkF H I) HMM.out rfl (hS.pull 1 (X := LogV lg Ps)) (by omega) (hS.rowsRead (j := 73) (X := X1) (t := 109) (T := 48) (vo := .slice q1 hs c1) hX1b.out) (hS.rowsRead (j := 71) (X := X2) (t := 109) (T := 48) (vo := .slice q2 k c2) hX2b.out) hK (by have := HC1l.out;omega) (by have := HC2l.out;omega) HX1l2.out.1 HX1l2.out.2) ?_;clear hS;rintro _ w ⟨rfl,hS⟩;simp only [putW]);refine ⟨rfl,hS.conv,?_⟩;refine wpAnyH_all (rs := [6]) (by kernel_rfl) (by simp) ?_;intro i hi;simp only [List.mem_cons,List.not_mem_nil,or_false] at hi;subst hi;refine wpOp_of_list rfl ?_;go_wp2_with (refine load1 hS rfl rfl rfl rfl ?_;simp only [putW]);refine ⟨rfl,hS.conv,?_⟩;refine wpAnyH_done (by kernel_rfl) ?_ _;skip)
        go_wp2_with (refine load1 hS rfl rfl rfl rfl ?_;simp only [putW])
        go_ret
        rw [hb1.out,HMk.out.1]
        exact ⟨rfl,hS.conv⟩
      · have drt : decide (mkF H I = R.mark) = true := decide_eq_true hmr
        rw [drt] at hEq
        have hb1 := HMk.out.2.2 hmr
        have HB1 : Bx _ := ⟨hb1⟩
        clear hmr drt hb1
        (refine wp_region_held (S := fun w' => Sat w0 ((d,DevG cv D)::(blk (.slice ql k cl),sl 1 i64 L 3 (.slice ql k cl))::(blk (.slice q1 hs c1),sl 1 rowF X1 48 (.slice q1 hs c1))::(73,inn X1 109)::(blk (.slice q2 k c2),sl 1 rowF X2 48 (.slice q2 k c2))::(71,inn X2 109)::(m5,cells (stV R).toArray 28)::(m6,cells #[.int .i64 P,.int .i64 b,.int .i64 (plC P : Nat),lv,.int .i64 (plN P : Nat),.int .i64 (hd : Nat),.int .i64 (hs : Nat),.int .i64 (jn : Nat),.int .i64 ((jn + b : Nat)),.int .i64 (plT P b : Nat)] 60)::K) w') (by kernel_rfl) ?_;replace hS := hS.drew;(refine takeIf (i := 0) rfl (by kernel_rfl) (fun _ _ _ h => h) (yMove rfl rfl rfl) hS.conv ?_;simp only [evW,putW]);(refine takeIf (i := 1) rfl (by kernel_rfl) (fun _ _ _ h => h) (yMove rfl rfl rfl) hS.conv ?_;simp only [evW,putW]);(refine takeIf (i := 2) rfl (by kernel_rfl) (fun _ _ _ h => h) (yMove rfl rfl rfl) hS.conv ?_;simp only [evW,putW]);(apply takeIf (i := 4) rfl (by kernel_rfl) (fun _ _ _ h => h);(focus (apply yRun rfl;intro w;first | (go_simp;done) | (go_simp;rfl)));(focus (exact hS.conv));simp only [putW]);(refine takeIf (i := 5) rfl (by kernel_rfl) (fun _ _ _ h => h) (yLoadP (b := m5) (fun _ h => h) rfl rfl rfl HC9.out) hS.conv ?_;simp only [putW]);refine wpAnyH_all (rs := [3]) (by kernel_rfl) (by simp) ?_;intro i hi;simp only [List.mem_cons,List.not_mem_nil,or_false] at hi;subst hi;refine wpOp_of_list rfl ?_;go_wp2_with (go_at_call 49;refine Calls.mono (mark_v (H := X1) (I := X2) (M := mkM H I) (D := mkF H I) HMM.out rfl (hS.pull 1 (X := LogV lg Ps)) (by omega) (hS.rowsRead (j := 73) (X := X1) (t := 109) (T := 48) (vo := .slice q1 hs c1) hX1b.out) (hS.rowsRead (j := 71) (X := X2) (t := 109) (T := 48) (vo := .slice q2 k c2) hX2b.out) hK (by have := HC1l.out;omega) (by have := HC2l.out;omega) HX1l2.out.1 HX1l2.out.2) ?_;clear hS;rintro _ w ⟨rfl,hS⟩;simp only [putW]);refine ⟨rfl,hS.conv,?_⟩;refine wpAnyH_all (rs := [6]) (by kernel_rfl) (by simp) ?_;intro i hi;simp only [List.mem_cons,List.not_mem_nil,or_false] at hi;subst hi;refine wpOp_of_list rfl ?_;go_wp2_with (refine load1 hS rfl rfl rfl rfl ?_;simp only [putW]);refine ⟨rfl,hS.conv,?_⟩;refine wpAnyH_done (by kernel_rfl) ?_ _;skip)
        obtain ⟨LL,hLL⟩ : ∃ LL,(L.map Int.toNat).zip I = LL := ⟨_,rfl⟩
        have HLL : Bx _ := ⟨hLL⟩
        rw [hLL] at HB1
        have hLLl : LL.length = k := by rw [← hLL,List.length_zip,List.length_map,HM.out,HIl.out,Nat.min_self]
        have HLLl : Bx _ := ⟨hLLl⟩
        clear hLL hLLl
        replace hS := hS.conv (S' := (d,DevG cv D)::(1,LogV lg (Ps ++ [(mkM H I,mkF H I)]))::(blk (.slice ql k cl),sl 1 i64 L 3 (.slice ql k cl))::(blk (.slice q1 hs c1),sl 1 rowF X1 48 (.slice q1 hs c1))::(73,inn X1 109)::(blk (.slice q2 k c2),sl 1 rowF X2 48 (.slice q2 k c2))::(71,inn X2 109)::(m5,cells (stV R).toArray 28)::(m6,cells #[.int .i64 P,.int .i64 b,.int .i64 (plC P : Nat),lv,.int .i64 (plN P : Nat),.int .i64 (hd : Nat),.int .i64 (hs : Nat),.int .i64 (jn : Nat),.int .i64 ((jn + b : Nat)),.int .i64 (plT P b : Nat)] 60)::K)
        go_wp2_with (refine load1 hS rfl rfl rfl rfl ?_;simp only [putW])
        go_loopg [80] k (fun g i wr => ∃ (n : Nat) (Dk : Dev),n + g = k ∧ i = .int .i64 n ∧ Bx (wrL D LL = wrL Dk (LL.drop n) ∧ Dk.wt.length ≤ n0 + n ∧ Dk.wr.length ≤ n0 + n ∧ Dk.count ≤ n0 + n ∧ Dk.armed ≤ 9223372036854775807) ∧ Sat w0 ((d,DevG cv Dk)::(1,LogV lg (Ps ++ [(mkM H I,mkF H I)]))::(blk (.slice ql k cl),sl 1 i64 L 3 (.slice ql k cl))::(blk (.slice q1 hs c1),sl 1 rowF X1 48 (.slice q1 hs c1))::(73,inn X1 109)::(blk (.slice q2 k c2),sl 1 rowF X2 48 (.slice q2 k c2))::(71,inn X2 109)::(m5,cells (stV R).toArray 28)::(m6,cells #[.int .i64 P,.int .i64 b,.int .i64 (plC P : Nat),lv,.int .i64 (plN P : Nat),.int .i64 (hd : Nat),.int .i64 (hs : Nat),.int .i64 (jn : Nat),.int .i64 ((jn + b : Nat)),.int .i64 (plT P b : Nat)] 60)::K) wr)
        case atStart => exact ⟨0,D,by omega,rfl,⟨rfl,HSm.out⟩,hS⟩
        case round =>
          clear hS
          obtain ⟨n,Dk,hng,rfl,HDk,hS⟩ := hrel
          cases gk with
          | zero =>
            have hnk : n = k := by omega
            subst hnk
            have hFP : Bx (FP = Dk.flush) := ⟨by
              have e1 := HDk.out.1
              rw [List.drop_of_length_le (by rw [HLLl.out];exact Nat.le_refl _)] at e1
              rw [HB1.out,e1]
              rfl⟩
            go_wp2_with (guard_target =~ Calls _ 39 _ _ _;refine Stopped.out ?_)
            refine ⟨?_⟩
            refine Calls.mono (devFlush_any ⟨by have := HDk.out.2.1;omega,by have := HDk.out.2.2.1;omega,by have := HDk.out.2.2.2.1;omega,HDk.out.2.2.2.2⟩ hS) ?_
            clear hS
            rintro _ w ⟨rfl,hS⟩
            simp only [putW]
            go_wp2_with (refine load1 hS rfl rfl rfl rfl ?_;simp only [putW])
            go_ret
            rw [hFP.out,HMk.out.1]
            exact ⟨rfl,hS.conv⟩
          | succ g =>
            have hnk : n < k := by omega
            obtain ⟨x,hx⟩ : ∃ x,L[n]? = some x := ⟨_,List.getElem?_eq_getElem (by rw [HM.out];exact hnk)⟩
            obtain ⟨⟨vk,rk⟩,hrk⟩ : ∃ y,X2[n]? = some y := ⟨_,List.getElem?_eq_getElem (by rw [HX2l.out];exact hnk)⟩
            have hIk : I[n]? = some rk := by rw [← HX2.out,List.getElem?_map,hrk];rfl
            have hx0 : 0 ≤ x ∧ x < 65536 := HLf.out.2 x (List.mem_of_getElem? hx)
            have hrr : isRow rk := HIr.out rk (List.mem_of_getElem? hIk)
            have hLLk : LL[n]? = some (x.toNat,rk) := by
              rw [← HLL.out,List.getElem?_zip_eq_some]
              exact ⟨by rw [List.getElem?_map,hx];rfl,hIk⟩
            have hdr : LL.drop n = (x.toNat,rk)::LL.drop (n + 1) := drop_at hLLk
            have hxn : ((x.toNat : Nat) : Int) = x := Int.toNat_of_nonneg hx0.1
            have HX : Bx _ := ⟨hx⟩
            have HXk : Bx _ := ⟨hrk⟩
            have HRr : Bx _ := ⟨hrr⟩
            obtain ⟨W,hW⟩ : ∃ W,Dk.write x rk = W := ⟨_,rfl⟩
            have HW : Bx _ := ⟨hW⟩
            have HSt : Bx ((W.2 ≠ 0 → wrL D LL = W) ∧ (W.2 = 0 → wrL D LL = wrL W.1 (LL.drop (n + 1)))) := ⟨by
              have e1 := HDk.out.1
              rw [hdr] at e1
              constructor
              · intro h
                rw [e1,wrL_stop (by rw [hxn,hW];exact h),hxn,hW]
              · intro h
                rw [e1,wrL_step (by rw [hxn,hW];exact h),hxn,hW]⟩
            have HWs : Bx _ := ⟨write_sz (k := x) (r := rk) HDk.out.2⟩
            rw [hW] at HWs
            clear hx hrk hIk hrr hLLk hdr hW hxn hx0
            obtain ⟨gl,hqq,hcq,hS2⟩ := openS (hS.pull (blk (Value.slice ql k cl)) (X := sl 1 i64 L 3 (Value.slice ql k cl))) HM.out (by omega)
            subst hqq
            clear hS
            obtain ⟨gx,hqq,hcx,hS⟩ := openS (hS2.pull (blk (Value.slice q2 k c2)) (X := sl 1 rowF X2 48 (Value.slice q2 k c2))) HX2l.out (by omega)
            subst hqq
            clear hS2
            go_wp2_with (first | (refine loadS (f := i64) hS rfl rfl rfl n 0 ?_ HX.out rfl ?_ ?_;omega;omega;simp only [putW]) | (refine loadS (f := rowF) hS rfl rfl rfl n 0 ?_ HXk.out rfl ?_ ?_;omega;omega;simp only [putW]) | (guard_target =~ Calls _ 38 _ _ _;refine Stopped.out ?_))
            refine ⟨?_⟩
            have h1 := closeSlN (hS.pull gl (X := slc 1 i64 L cl 3)) HM.out
            have h2 := closeSlN (h1.pull gx (X := slc 1 rowF X2 c2 48)) HX2l.out
            replace hS := h2.conv (S' := (d,DevG cv Dk)::(1,LogV lg (Ps ++ [(mkM H I,mkF H I)]))::(blk (.slice (some ⟨gl,0,none⟩) k cl),sl 1 i64 L 3 (.slice (some ⟨gl,0,none⟩) k cl))::(blk (.slice q1 hs c1),sl 1 rowF X1 48 (.slice q1 hs c1))::(73,inn X1 109)::(blk (.slice (some ⟨gx,0,none⟩) k c2),sl 1 rowF X2 48 (.slice (some ⟨gx,0,none⟩) k c2))::(71,inn X2 109)::(m5,cells (stV R).toArray 28)::(m6,cells #[.int .i64 P,.int .i64 b,.int .i64 (plC P : Nat),lv,.int .i64 (plN P : Nat),.int .i64 (hd : Nat),.int .i64 (hs : Nat),.int .i64 (jn : Nat),.int .i64 ((jn + b : Nat)),.int .i64 (plT P b : Nat)] 60)::K)
            clear h1 h2
            refine Calls.mono (devWrite_any (B := rk) HRr.out.2 ⟨by have := HDk.out.2.1;omega,by have := HDk.out.2.2.1;omega,by have := HDk.out.2.2.2.1;omega,HDk.out.2.2.2.2⟩ ⟨by have := HDk.out.2.1;omega,by have := HDk.out.2.2.1;omega⟩ (fun w' h => innRow (j := 71) (t := 109) HXk.out HRr.out.2 h) hS) ?_
            rw [HW.out]
            obtain ⟨Dn,cn⟩ := W
            clear hS
            rintro _ w ⟨rfl,hS⟩
            simp only [putW]
            replace hS : Sat w0 ((d,DevG cv Dn)::(1,LogV lg (Ps ++ [(mkM H I,mkF H I)]))::(blk (.slice (some ⟨gl,0,none⟩) k cl),sl 1 i64 L 3 (.slice (some ⟨gl,0,none⟩) k cl))::(blk (.slice q1 hs c1),sl 1 rowF X1 48 (.slice q1 hs c1))::(73,inn X1 109)::(blk (.slice (some ⟨gx,0,none⟩) k c2),sl 1 rowF X2 48 (.slice (some ⟨gx,0,none⟩) k c2))::(71,inn X2 109)::(m5,cells (stV R).toArray 28)::(m6,cells #[.int .i64 P,.int .i64 b,.int .i64 (plC P : Nat),lv,.int .i64 (plN P : Nat),.int .i64 (hd : Nat),.int .i64 (hs : Nat),.int .i64 (jn : Nat),.int .i64 ((jn + b : Nat)),.int .i64 (plT P b : Nat)] 60)::K) w := hS
            by_cases hcn : cn = 0
            · subst hcn
              have HSt2 : Bx _ := ⟨HSt.out.2 rfl⟩
              go_wp2_with (refine load1 hS rfl rfl rfl rfl ?_;simp only [putW])
              go_roundg g
              case measure => omega
              case rel => exact ⟨n + 1,Dn,by omega,by go_num,⟨HSt2.out,HWs.out⟩,hS⟩
            · have d5 : decide (cn = 0) = false := decide_eq_false hcn
              have d6 : (cn == 0) = false := by simpa using hcn
              have d7 : (cn != 0) = true := by simpa using hcn
              have hFP : Bx (FP = (Dn,cn)) := ⟨by
                have e1 := HSt.out.1 hcn
                rw [HB1.out,e1,if_pos hcn]⟩
              clear hcn
              go_wp2_with (refine load1 hS rfl rfl rfl rfl ?_;simp only [putW])
              go_ret
              rw [hFP.out,HMk.out.1]
              exact ⟨rfl,hS.conv⟩
end
end Go.Proofs.YtdkimdobcacpfaaDoor
