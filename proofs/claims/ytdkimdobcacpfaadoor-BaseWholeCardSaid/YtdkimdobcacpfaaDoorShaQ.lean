/-
  sha.Sum.Sum: padding, the digest.
-/
import Derived.Test.YtdkimdobcacpfaaDoorShaO
import Derived.Test.YtdkimdobcacpfaaDoorShA
import Derived.Test.YtdkimdobcacpfaaDoorSlB
set_option linter.unusedSimpArgs false
set_option linter.unusedVariables false
namespace Go.Proofs.YtdkimdobcacpfaaDoor
open Go.RowKit Go.Proofs.YtdkimdobcacpfaaDoor.Sl Go.Proofs.YtdkimdobcacpfaaDoor.Sha Go.Proofs.YtdkimdobcacpfaaDoor.Jp

section
variable {P : Program} {ops : Array Oper} {o : Oper} {a : Act} {I : World → Prop}
theorem runBuildSum (s0 s1 s2 s3 s4 s5 s6 s7 : Value) (q : Option Addr) (l c : Nat) (w : World) : (Instr.build 175 #[(0,.agg #[s0,s1,s2,s3,s4,s5,s6,s7]),(1,.slice q l c)]).run Tryd.prog w = .ok (.agg #[s0,s1,s2,s3,s4,s5,s6,s7,.slice q l c,.int .u64 0]) w := by
  go_simp
theorem yBuildSum {s0 s1 s2 s3 s4 s5 s6 s7 : Value} {q : Option Addr} {l c : Nat} {x y : Operand} {a : Act} {ops : Array Oper} (hw : Region.wanted o (yielded ops a.tmps) = true) (ho : o.op = .build 175 #[(0,x),(1,y)]) (hx : a.eval x = .agg #[s0,s1,s2,s3,s4,s5,s6,s7]) (hy : a.eval y = .slice q l c) : YieldsIf Tryd.prog ops I o (.agg #[s0,s1,s2,s3,s4,s5,s6,s7,.slice q l c,.int .u64 0]) a :=
  .inl ⟨hw,fun w _ => by
    simp [execOp,ho,hx,hy,runBuildSum]⟩
end

section
variable {w0 w : World} {F S : List Chunk} {b : Nat} {M : List Int}
theorem byteAt8 {n k : Nat} : (n : Int) * 8 / 2 ^ (8 * k) % 256 = ((8 * n / 256 ^ k % 256 : Nat) : Int) := by
  rw [Int.pow_mul,show ((2 : Int) ^ 8) = ((256 : Nat) : Int) from rfl,← Int.natCast_pow,Int.mul_comm]
  rfl
theorem litRB {m : Nat} {x : Int} {t : TypeId} (h : Sat w0 ((m,cells #[Value.int .u8 x] t)::F) w) (hx : okByte x) : RB w [x] (.slice (some ⟨m,0,none⟩) 1 1) :=
  (h.toSlc (l := [x]) (cap := 1) (n := 1) (f := by8) (by simp) (by simp) (by simp [maxLen]) (by simp [one]) (fun _ _ => rfl)).readsSlc (g := m) (n := 1) (f := by8) (L := [x]) (cap := 1) (t := t) (fun y hy => (List.mem_singleton.1 hy).symm ▸ hx)
theorem sumCnt {n : Nat} {b : Nat} {M : List Int} (h : Sat w0 ((b,SumC M n)::F) w) : w.cell? ⟨b,9,none⟩ = some (.int .u64 (n : Int)) := by
  obtain ⟨vr,h⟩ := openSum h
  rw [h.cell (b := b) (c := ((stOf M).map u32v ++ [vr,Value.int .u64 (n : Int)]).toArray) (t := 175)]
  exact (u32_cells (blks_ok M _).1 vr (.int .u64 (n : Int)) vr).2.2.2.1
/-- How many bytes a Sum has taken in. -/
def cnt (b : Nat) (w : World) : Nat := (intOf ((w.cell? ⟨b,9,none⟩).getD undef)).toNat
theorem sumCnt' {n : Nat} {b : Nat} {M : List Int} (h : Sat w0 ((b,SumC M n)::F) w) : cnt b w = n := by
  unfold cnt
  rw [sumCnt h]
  simp [intOf]
theorem restShape {v : Value} {L : List Int} {g : Nat} {t : TypeId} (h : Sat w0 ((g,sl 1 by8 L t v)::F) w) : ∃ q c,v = .slice q L.length c := by
  rcases h.slCases with ⟨h1,h2,_⟩ | ⟨c,h1,_⟩
  · exact ⟨_,_,by rw [h1,h2];rfl⟩
  · exact ⟨_,_,h1⟩
theorem sumFin {mo m3 : Nat} {s0 s1 s2 s3 s4 s5 s6 s7 : Int} {vr v' : Value} (hs : stOf M = [s0,s1,s2,s3,s4,s5,s6,s7]) (h : Sat w0 ((m3,cells #[u32v s0,u32v s1,u32v s2,u32v s3,u32v s4,u32v s5,u32v s6,u32v s7,v',.int .u64 0] 175)::(blk v',sl 1 by8 (lft M) 5 v')::(mo,cells ((List.replicate 32 (0 : Int)).map u8v).toArray 26)::(b,cells #[u32v s0,u32v s1,u32v s2,u32v s3,u32v s4,u32v s5,u32v s6,u32v s7,vr,.int .u64 (M.length : Int)] 175)::(blk vr,sl 1 by8 (lft M) 5 vr)::F) w) :
    Sat w0 ((m3,SumC M 0)::(b,SumC M M.length)::(mo,cells ((List.replicate 32 (0 : Int)).map u8v).toArray 26)::F) w := by
  have e : ∀ (r : Value) (n : Int),(cells #[u32v s0,u32v s1,u32v s2,u32v s3,u32v s4,u32v s5,u32v s6,u32v s7,r,.int .u64 n] 175) = cells ((stOf M).map u32v ++ [r,.int .u64 n]).toArray 175 := fun r n => by rw [hs];rfl
  rw [e,show ((.int .u64 0 : Value)) = .int .u64 ((0 : Nat) : Int) from rfl,e] at h
  have h1 := closeSum h
  have h2 : Sat w0 ((b,cells ((stOf M).map u32v ++ [vr,Value.int .u64 (M.length : Int)]).toArray 175)::(blk vr,sl 1 by8 (lft M) 5 vr)::((m3,SumC M 0)::(mo,cells ((List.replicate 32 (0 : Int)).map u8v).toArray 26)::F)) w := by
    refine h1.perm ?_
    refine (List.Perm.cons _ (List.Perm.swap _ _ _)).trans ((List.Perm.swap _ _ _).trans (List.Perm.cons _ ?_))
    refine (List.Perm.cons _ (List.Perm.swap _ _ _)).trans ((List.Perm.swap _ _ _).trans (List.Perm.cons _ ?_))
    exact List.Perm.refl _
  exact (closeSum h2).perm (List.Perm.swap _ _ _)

set_option maxRecDepth 100000 in
set_option maxHeartbeats 4000000 in
theorem sum_any (hS : Sat w0 ((b,SumC M M.length)::F) w) (hK : KTab w0) (hMB : ∀ x ∈ M,okByte x) (hM : M.length ≤ 100000000000) :
    Calls Tryd.prog 90 #[.pointer (some ⟨b,0,none⟩)] w fun e w' => e = .returned (.agg ((shaF M).map u8v).toArray) ∧ Sat w0 ((b,SumC M M.length)::F) w' := by
  have HB : Bx _ := ⟨hMB⟩
  obtain ⟨vr,hS⟩ := openSum hS
  have h8 := (blks_ok M (M.length / 64)).1
  obtain ⟨s,hs⟩ : ∃ s,stOf M = s := ⟨_,rfl⟩
  have hs8 : s.length = 8 := by rw [← hs];exact h8
  have HS : Bx _ := ⟨hs⟩
  rw [hs] at hS
  clear h8 hs hMB
  obtain ⟨s0,s1,s2,s3,s4,s5,s6,s7,rfl⟩ : ∃ a b c d e f g h,s = [a,b,c,d,e,f,g,h] := by
    match s,hs8 with
    | [a,b,c,d,e,f,g,h],_ => exact ⟨_,_,_,_,_,_,_,_,rfl⟩
  clear hs8
  go_enter Tryd.func90,Tryd.ntmps90
  go_wp2_with (refine allocA (vv := u8v) hS rfl rfl (List.replicate 32 0) zeros32 ?_;clear hS;intro mo w hS;simp only [putW])
  have hn8 : (lft M).length < 64 := by rw [lft_len];omega
  have HN8 : Bx _ := ⟨hn8⟩
  clear hn8
  have hlb : Bx (∀ x ∈ lft M,okByte x) := ⟨fun x hx => HB.out x (List.mem_of_mem_drop hx)⟩
  go_cut [3] from 11 to 21 (fun p wc => ∃ m3 : Nat,p = .pointer (some ⟨m3,0,none⟩) ∧ Sat w0 ((m3,SumC M 0)::(b,SumC M M.length)::(mo,cells ((List.replicate 32 (0 : Int)).map u8v).toArray 26)::F) wc)
  case first =>
    simp only [List.map_cons,List.map_nil,List.cons_append,List.nil_append] at hS
    have HBQ : Bx _ := ⟨hS⟩
    refine wp_region_held (S := fun w' => Sat w0 ((mo,cells ((List.replicate 32 (0 : Int)).map u8v).toArray 26)::(b,cells #[u32v s0,u32v s1,u32v s2,u32v s3,u32v s4,u32v s5,u32v s6,u32v s7,vr,.int .u64 (M.length : Int)] 175)::(blk vr,sl 1 by8 (lft M) 5 vr)::F) w') (by kernel_rfl) ?_
    replace hS := hS.drew
    refine takeIf (i := 0) rfl (by kernel_rfl) (fun _ _ _ h => h) (yMove (v := .pointer (some ⟨b,0,none⟩)) rfl rfl rfl) hS ?_
    simp only [putW]
    refine takeIf (i := 1) rfl (by kernel_rfl) (fun _ _ _ h => h) (yNil rfl rfl rfl) hS ?_
    simp only [putW]
    refine takeIf (i := 2) rfl (by kernel_rfl) (fun _ _ _ h => h) (yField 155 rfl rfl rfl Tryd.underlying175 rfl rfl rfl rfl) hS ?_
    simp only [putW]
    refine takeIf (i := 3) rfl (by kernel_rfl) (fun _ _ _ h => h) (yLoadPart (l := [u32v s0,u32v s1,u32v s2,u32v s3,u32v s4,u32v s5,u32v s6,u32v s7]) (fun _ h => h) rfl rfl rfl rfl rfl) hS ?_
    simp only [putW]
    refine takeIf (i := 5) rfl (by kernel_rfl) (fun _ _ _ h => h) (yMove (v := .pointer (some ⟨b,0,none⟩)) rfl rfl rfl) hS ?_
    simp only [putW]
    refine takeIf (i := 6) rfl (by kernel_rfl) (fun _ _ _ h => h) (yNil rfl rfl rfl) hS ?_
    simp only [putW]
    refine takeIf (i := 7) rfl (by kernel_rfl) (fun _ _ _ h => h) (yField 48 rfl rfl rfl Tryd.underlying175 rfl rfl rfl rfl) hS ?_
    simp only [putW]
    refine takeIf (i := 8) rfl (by kernel_rfl) (fun _ _ _ h => h) (yLoad1 (fun _ h => h) rfl rfl rfl rfl) hS ?_
    simp only [putW]
    refine wpAnyH_all (rs := [4,11]) (by kernel_rfl) (by simp) ?_
    intro i hi
    simp only [List.mem_cons,List.not_mem_nil,or_false] at hi
    rcases hi with rfl | rfl
    · refine opBuild0 rfl rfl rfl fun ms hms => ⟨((hS).freshM hms _ _).tail,?_⟩
      simp only [putW]
      have hS1 := (((hS).freshM hms #[] 5).toSlc (l := ([] : List Int)) (cap := 0) (n := 1) (f := by8) (by simp) (by simp) (by simp) (by simp) (by simp)).slOfSlc
      refine wpAnyH_all (rs := [9,11]) (by kernel_rfl) (by simp) ?_
      intro i hi
      simp only [List.mem_cons,List.not_mem_nil,or_false] at hi
      rcases hi with rfl | rfl
      · obtain ⟨v',w2,hrun,hS2⟩ := run_appendB (P := Tryd.prog) (t := 48) hS1 (v := .slice (some ⟨ms,0,none⟩) 0 0) 48 (lft M) (sv := vr) ((hS1).readsSl (v := vr) hlb.out) (cell8 _) (by simp [maxLen];have := HN8.out;omega) (by simp;have := HN8.out;omega)
        rw [List.nil_append] at hS2
        obtain ⟨q,c,hv⟩ : ∃ q c,v' = .slice q (lft M).length c := by
          rcases (hS2).slCases with ⟨h1,h,_⟩ | ⟨c,h1,_⟩
          · exact ⟨_,_,by rw [h1,h];rfl⟩
          · exact ⟨_,_,h1⟩
        subst hv
        refine opAppend rfl rfl rfl rfl rfl hrun ⟨(hS2).tail,?_⟩
        simp only [putW]
        refine takeIf (i := 10) rfl (by kernel_rfl) (fun _ _ _ h => h) (yBuildSum rfl rfl rfl rfl) ((hS2).tail) ?_
        simp only [putW]
        refine wpAnyH_all (rs := [11]) (by kernel_rfl) (by simp) ?_
        intro i hi
        simp only [List.mem_cons,List.not_mem_nil,or_false] at hi
        subst hi
        refine opAlloc rfl rfl rfl fun m3 hm3 => ⟨((hS2).freshM hm3 _ _).tail.tail,?_⟩
        simp only [putW]
        have hS3 := (hS2).freshM hm3 #[.int .u32 0,.int .u32 0,.int .u32 0,.int .u32 0,.int .u32 0,.int .u32 0,.int .u32 0,.int .u32 0,.slice none 0 0,.int .u64 0] 175
        refine wpAnyH_all (rs := [12]) (by kernel_rfl) (by simp) ?_
        intro i hi
        simp only [List.mem_cons,List.not_mem_nil,or_false] at hi
        subst hi
        refine opStoreAll (b := m3) (c := #[.int .u32 0,.int .u32 0,.int .u32 0,.int .u32 0,.int .u32 0,.int .u32 0,.int .u32 0,.int .u32 0,.slice none 0 0,.int .u64 0]) hS3 rfl rfl rfl rfl rfl rfl (by simp [Value.oneCell']) rfl ?_
        intro w4 hS4
        refine ⟨hS4.tail.tail,?_⟩
        refine wpAnyH_done (by kernel_rfl) ?_ _
        simp only [putW]
        clear hm3 hms
        go_wp2_with (refine load1 hS rfl rfl rfl rfl ?_;simp only [putW])
        go_meet
        case rel => exact ⟨m3,rfl,sumFin HS.out hS4⟩
      · refine opAlloc rfl rfl rfl fun m3 hm3 => ⟨((hS1).freshM hm3 _ _).tail.tail,?_⟩
        simp only [putW]
        have hS3 := (hS1).freshM hm3 #[.int .u32 0,.int .u32 0,.int .u32 0,.int .u32 0,.int .u32 0,.int .u32 0,.int .u32 0,.int .u32 0,.slice none 0 0,.int .u64 0] 175
        refine wpAnyH_all (rs := [9]) (by kernel_rfl) (by simp) ?_
        intro i hi
        simp only [List.mem_cons,List.not_mem_nil,or_false] at hi
        subst hi
        obtain ⟨v',w2,hrun,hS2⟩ := run_appendB (P := Tryd.prog) (t := 48) hS3 (v := .slice (some ⟨ms,0,none⟩) 0 0) 48 (lft M) (sv := vr) ((hS3).readsSl (v := vr) hlb.out) (cell8 _) (by simp [maxLen];have := HN8.out;omega) (by simp;have := HN8.out;omega)
        rw [List.nil_append] at hS2
        obtain ⟨q,c,hv⟩ : ∃ q c,v' = .slice q (lft M).length c := by
          rcases (hS2).slCases with ⟨h1,h,_⟩ | ⟨c,h1,_⟩
          · exact ⟨_,_,by rw [h1,h];rfl⟩
          · exact ⟨_,_,h1⟩
        subst hv
        refine opAppend rfl rfl rfl rfl rfl hrun ⟨(hS2).tail.tail,?_⟩
        simp only [putW]
        refine takeIf (i := 10) rfl (by kernel_rfl) (fun _ _ _ h => h) (yBuildSum rfl rfl rfl rfl) ((hS2).tail.tail) ?_
        simp only [putW]
        refine wpAnyH_all (rs := [12]) (by kernel_rfl) (by simp) ?_
        intro i hi
        simp only [List.mem_cons,List.not_mem_nil,or_false] at hi
        subst hi
        refine opStoreAll (b := m3) (c := #[.int .u32 0,.int .u32 0,.int .u32 0,.int .u32 0,.int .u32 0,.int .u32 0,.int .u32 0,.int .u32 0,.slice none 0 0,.int .u64 0]) hS2 rfl rfl rfl rfl rfl rfl (by simp [Value.oneCell']) rfl ?_
        intro w4 hS4
        refine ⟨hS4.tail.tail,?_⟩
        refine wpAnyH_done (by kernel_rfl) ?_ _
        simp only [putW]
        clear hm3 hms
        go_wp2_with (refine load1 hS rfl rfl rfl rfl ?_;simp only [putW])
        go_meet
        case rel => exact ⟨m3,rfl,sumFin HS.out hS4⟩
    · refine opAlloc rfl rfl rfl fun m3 hm3 => ⟨((hS).freshM hm3 _ _).tail,?_⟩
      simp only [putW]
      have hS3 := (hS).freshM hm3 #[.int .u32 0,.int .u32 0,.int .u32 0,.int .u32 0,.int .u32 0,.int .u32 0,.int .u32 0,.int .u32 0,.slice none 0 0,.int .u64 0] 175
      refine wpAnyH_all (rs := [4]) (by kernel_rfl) (by simp) ?_
      intro i hi
      simp only [List.mem_cons,List.not_mem_nil,or_false] at hi
      subst hi
      refine opBuild0 rfl rfl rfl fun ms hms => ⟨((hS3).freshM hms _ _).tail.tail,?_⟩
      simp only [putW]
      have hS1 := (((hS3).freshM hms #[] 5).toSlc (l := ([] : List Int)) (cap := 0) (n := 1) (f := by8) (by simp) (by simp) (by simp) (by simp) (by simp)).slOfSlc
      refine wpAnyH_all (rs := [9]) (by kernel_rfl) (by simp) ?_
      intro i hi
      simp only [List.mem_cons,List.not_mem_nil,or_false] at hi
      subst hi
      obtain ⟨v',w2,hrun,hS2⟩ := run_appendB (P := Tryd.prog) (t := 48) hS1 (v := .slice (some ⟨ms,0,none⟩) 0 0) 48 (lft M) (sv := vr) ((hS1).readsSl (v := vr) hlb.out) (cell8 _) (by simp [maxLen];have := HN8.out;omega) (by simp;have := HN8.out;omega)
      rw [List.nil_append] at hS2
      obtain ⟨q,c,hv⟩ : ∃ q c,v' = .slice q (lft M).length c := by
        rcases (hS2).slCases with ⟨h1,h,_⟩ | ⟨c,h1,_⟩
        · exact ⟨_,_,by rw [h1,h];rfl⟩
        · exact ⟨_,_,h1⟩
      subst hv
      refine opAppend rfl rfl rfl rfl rfl hrun ⟨(hS2).tail.tail,?_⟩
      simp only [putW]
      refine takeIf (i := 10) rfl (by kernel_rfl) (fun _ _ _ h => h) (yBuildSum rfl rfl rfl rfl) ((hS2).tail.tail) ?_
      simp only [putW]
      refine wpAnyH_all (rs := [12]) (by kernel_rfl) (by simp) ?_
      intro i hi
      simp only [List.mem_cons,List.not_mem_nil,or_false] at hi
      subst hi
      refine opStoreAll (b := m3) (c := #[.int .u32 0,.int .u32 0,.int .u32 0,.int .u32 0,.int .u32 0,.int .u32 0,.int .u32 0,.int .u32 0,.slice none 0 0,.int .u64 0]) hS2 rfl rfl rfl rfl rfl rfl (by simp [Value.oneCell']) rfl ?_
      intro w4 hS4
      refine ⟨hS4.tail.tail,?_⟩
      refine wpAnyH_done (by kernel_rfl) ?_ _
      simp only [putW]
      clear hm3 hms
      go_wp2_with (refine load1 hS rfl rfl rfl rfl ?_;simp only [putW])
      go_meet
      case rel => exact ⟨m3,rfl,sumFin HS.out hS4⟩
  case rest =>
    clear hS
    obtain ⟨m3,rfl,hS⟩ := hcut
    have hb128 : okByte 128 := by unfold okByte;omega
    have hb0 : okByte 0 := by unfold okByte;omega
    go_wp2_with (first | (refine buildSlice1 (c := #[.int .u8 128]) hS rfl rfl rfl ?_ ?_ ?_ ?_;rfl;rfl;rfl;clear hS;intro mb w hS;simp only [putW]) | (guard_target =~ Calls _ 89 _ _ _;refine Stopped.out ?_))
    refine ⟨?_⟩
    have hle : 0 + [128].length ≤ 1000000000000 := by simp
    (refine Calls.mono (write_any (A := [128]) (hS.perm (List.Perm.swap _ _ _)) (fun w' h => litRB h hb128) hK HB.out hle) ?_;clear hS;rintro _ w ⟨rfl,hS⟩;simp only [putW])
    clear hle
    go_wp2_with (refine load1 hS rfl rfl rfl rfl ?_;simp only [putW])
    have hz := zc_le M.length
    have hzs : Bx (∀ j,j ≤ zc M.length → ((M.length + 1 + j) % 64 ≠ 56 ↔ j < zc M.length)) := ⟨fun j h => zc_lt h⟩
    have hB2 : Bx (∀ j,∀ x ∈ M ++ [128] ++ List.replicate j 0,okByte x) := ⟨fun j x hx => by
      rcases List.mem_append.1 hx with hx | hx
      · rcases List.mem_append.1 hx with hx | hx
        · exact HB.out x hx
        · have : x = 128 := by simpa using hx
          subst this;exact hb128
      · have := (List.mem_replicate.1 hx).2
        subst this;exact hb0⟩
    go_loopw [27] (fun _ wr => ∃ j : Nat,j ≤ zc M.length ∧ Sat w0 ((m3,SumC (M ++ [128] ++ List.replicate j 0) (1 + j))::(b,SumC M M.length)::(mo,cells ((List.replicate 32 (0 : Int)).map u8v).toArray 26)::F) wr) (fun _ wr => 100 - cnt m3 wr)
    case atStart => exact ⟨0,Nat.zero_le _,by rw [List.replicate_zero,List.append_nil];exact hS.conv⟩
    case round =>
      clear hS
      obtain ⟨j,hj,hS⟩ := hrel
      have hcnt := sumCnt' hS
      have HC : Bx _ := ⟨hcnt⟩
      clear hcnt
      obtain ⟨N,hN⟩ : ∃ N,M ++ [128] ++ List.replicate j 0 = N := ⟨_,rfl⟩
      have hNl : N.length = M.length + 1 + j := by rw [← hN];simp;omega
      rw [hN] at hS
      obtain ⟨vq,hS⟩ := openSum hS
      obtain ⟨q,c,rfl⟩ := restShape (hS.perm (List.Perm.swap _ _ _))
      obtain ⟨r,hr⟩ : ∃ r,(lft N).length = r := ⟨_,rfl⟩
      have hr2 : r = (M.length + 1 + j) % 64 := by rw [← hr,lft_len,hNl]
      rw [hr] at hS
      have hiff := hzs.out j hj
      rw [← hr2] at hiff
      have hr64 : r < 64 := by omega
      have HN : Bx _ := ⟨hN⟩
      have HR : Bx _ := ⟨hr⟩
      have HNl : Bx _ := ⟨hNl⟩
      have H8 : Bx ((stOf N).length = 8) := ⟨(blks_ok N _).1⟩
      clear hN hr hNl hr2
      by_cases hlt : j < zc M.length
      · have hne : r ≠ 56 := hiff.2 hlt
        clear hiff
        go_wp2_with (first | (refine loadRest hS rfl rfl rfl H8.out ?_;simp only [putW]) | (refine buildSlice1 (c := #[.int .u8 0]) hS rfl rfl rfl ?_ ?_ ?_ ?_;rfl;rfl;rfl;clear hS;intro mb w hS;simp only [putW]) | (guard_target =~ Calls _ 89 _ _ _;refine Stopped.out ?_))
        refine ⟨?_⟩
        have hle : 1 + j + [(0 : Int)].length ≤ 1000000000000 := by simp;omega
        have hS2 := closeSum ((hS.perm (List.Perm.swap _ _ _)).perm (List.Perm.cons _ (List.Perm.swap _ _ _)))
        clear hS
        have hS := hS2
        clear hS2
        have hBN : ∀ x ∈ N,okByte x := by rw [← HN.out];exact hB2.out j
        (refine Calls.mono (write_any (A := [0]) hS (fun w' h => litRB h hb0) hK hBN hle) ?_;clear hS;rintro _ w ⟨rfl,hS⟩;simp only [putW])
        clear hle hBN
        have e1 : N ++ [0] = M ++ [128] ++ List.replicate (j + 1) 0 := by rw [← HN.out,List.append_assoc _ (List.replicate j 0),← List.replicate_succ']
        rw [e1,show 1 + j + [(0 : Int)].length = 1 + (j + 1) from rfl] at hS
        clear e1
        go_wp2_with (refine load1 hS rfl rfl rfl rfl ?_;simp only [putW])
        go_roundw
        case rel => exact ⟨j + 1,by omega,hS.conv⟩
        case measure =>
          rw [sumCnt' hS,HC.out]
          omega
      · have hjz : j = zc M.length := by omega
        subst hjz
        clear hiff hlt hj
        have hr56 : r = 56 := by
          have h1 := hzs.out (zc M.length) (Nat.le_refl _)
          have h2 := lft_len N
          rw [HR.out,HNl.out] at h2
          omega
        go_wp2_with (refine loadRest hS rfl rfl rfl H8.out ?_;simp only [putW])
        replace hS := closeSum hS
        go_loopw [4] (fun i wr => ∃ k : Nat,k ≤ 8 ∧ i = .int .i64 (7 - (k : Int)) ∧ ∃ L,Bx (L ++ be (8 - k) (8 * M.length) = pad M) ∧ Sat w0 ((m3,SumC L (1 + zc M.length + k))::(b,SumC M M.length)::(mo,cells ((List.replicate 32 (0 : Int)).map u8v).toArray 26)::F) wr) (fun i _ => (intOf i + 1).toNat)
        case atStart => exact ⟨0,by omega,rfl,N,⟨by rw [← HN.out];rfl⟩,hS⟩
        case round =>
          clear hS
          obtain ⟨k,hk,rfl,L,hL,hS⟩ := hrel
          by_cases hlt : k < 8
          · obtain ⟨vb,hS2⟩ := openSum (hS.perm (List.Perm.swap _ _ _))
            have H8 : Bx ((stOf M).length = 8) := ⟨(blks_ok M _).1⟩
            clear hS
            have hS := hS2
            clear hS2
            have hx : okByte ((M.length : Int) * 8 / 2 ^ (8 * (7 - k)) % 256) := by unfold okByte;omega
            have hbe : Bx (be (8 - k) (8 * M.length) = ((M.length : Int) * 8 / 2 ^ (8 * (7 - k)) % 256)::be (8 - (k + 1)) (8 * M.length)) := ⟨by
              rw [byteAt8,show 8 - k = (7 - k) + 1 by omega,show 8 - (k + 1) = 7 - k by omega];rfl⟩
            go_wp2_with (first | (refine loadCnt (b := b) hS rfl rfl rfl H8.out ?_;simp only [putW]) | (refine buildSlice1 (c := #[.int .u8 ((M.length : Int) * 8 / 2 ^ (8 * (7 - k)) % 256)]) hS rfl rfl rfl ?_ ?_ ?_ ?_;rfl;rfl;rfl;clear hS;intro mb w hS;simp only [putW]) | (guard_target =~ Calls _ 89 _ _ _;refine Stopped.out ?_))
            refine ⟨?_⟩
            generalize (M.length : Int) * 8 / 2 ^ (8 * (7 - k)) % 256 = x at hS hx hbe ⊢
            have hle : 1 + zc M.length + k + [x].length ≤ 1000000000000 := by simp;omega
            have hpb : ∀ y ∈ pad M,okByte y := pad_byte HB.out
            have hBN : ∀ y ∈ L,okByte y := fun y hy => hpb y (by rw [← hL.out];exact List.mem_append.2 (.inl hy))
            clear hpb
            have hS2 := (closeSum (b := b) (n := M.length) (M := M) ((hS.perm (List.Perm.swap _ _ _)).perm (List.Perm.cons _ (List.Perm.swap _ _ _)))).conv (S' := (m3,SumC L (1 + zc M.length + k))::(mb,cells #[.int .u8 x] 5)::(b,SumC M M.length)::(mo,cells ((List.replicate 32 (0 : Int)).map u8v).toArray 26)::F)
            clear hS
            have hS := hS2
            clear hS2
            (refine Calls.mono (write_any (A := [x]) hS (fun w' h => litRB h hx) hK hBN hle) ?_;clear hS;rintro _ w ⟨rfl,hS⟩;simp only [putW])
            clear hle hBN
            go_wp2_with (refine load1 hS rfl rfl rfl rfl ?_;simp only [putW])
            go_roundw
            case rel => exact ⟨k + 1,by omega,by go_num,L ++ [x],⟨by rw [← hL.out,hbe.out,List.append_assoc];rfl⟩,hS.conv⟩
            case measure => simp [intOf];omega
          · have hk8 : k = 8 := by omega
            subst hk8
            clear hlt hk
            have hLp : L = pad M := by have := hL.out;simpa [be] using this
            subst hLp
            clear hL
            obtain ⟨vb,hS2⟩ := openSum hS
            clear hS
            have hS := hS2
            clear hS2
            obtain ⟨s,hs⟩ : ∃ s,stOf (pad M) = s := ⟨_,rfl⟩
            have hs8' : s.length = 8 := by rw [← hs];exact (blks_ok _ _).1
            have hs8 : Bx (s.length = 8) := ⟨hs8'⟩
            have hres : Bx (shaF M = dig s) := ⟨by unfold shaF;rw [hs]⟩
            rw [hs] at hS
            clear hs
            have HM8 : Bx ((s.map u32v).length = 8) := ⟨by rw [List.length_map];exact hs8'⟩
            have HT : Bx _ := ⟨u32v_take hs8' vb (.int .u64 ((1 + zc M.length + 8 : Nat) : Int))⟩
            clear hs8'
            go_wp2_with (first | (refine allocA (t := 26) (vv := u8v) hS rfl rfl (List.replicate 32 0) zeros32 ?_;clear hS;intro mu w hS;simp only [putW]) | (refine loadPart (l := s.map u32v) hS rfl rfl rfl HM8.out HT.out ?_;simp only [putW]))
            replace hS := hS.conv (S' := (mu,cells ((List.replicate 32 (0 : Int)).map u8v).toArray 26)::(b,SumC M M.length)::(mo,cells ((List.replicate 32 (0 : Int)).map u8v).toArray 26)::F)
            go_loopw [47] (fun i wr => ∃ t : Nat,t ≤ 8 ∧ i = .int .i64 (t : Int) ∧ Sat w0 ((mu,cells ((oArr s (4 * t)).map u8v).toArray 26)::(b,SumC M M.length)::(mo,cells ((List.replicate 32 (0 : Int)).map u8v).toArray 26)::F) wr) (fun i _ => 8 - (intOf i).toNat)
            case atStart => exact ⟨0,by omega,rfl,by rw [Nat.mul_zero,oArr_zero];exact hS⟩
            case round =>
              clear hS
              obtain ⟨t,ht,rfl,hS⟩ := hrel
              by_cases hlt : t < 8
              · obtain ⟨x,hx⟩ : ∃ x,s[t]? = some x := ⟨_,List.getElem?_eq_getElem (by have := hs8.out;omega)⟩
                have hby : ∀ i,i < 4 → byt s (4 * t + i) = x / 2 ^ (24 - 8 * i) % 256 := fun i hi => by
                  unfold byt
                  rw [show (4 * t + i) / 4 = t by omega,show (4 * t + i) % 4 = i by omega]
                  simp [List.getD,hx]
                have g0 := hby 0 (by omega)
                have g1 := hby 1 (by omega)
                have g2 := hby 2 (by omega)
                have g3 : byt s (4 * t + 3) = x % 256 := by rw [hby 3 (by omega)];simp
                have e0 := oArr_set s (show 4 * t + 0 < 32 by omega)
                have e1 := oArr_set s (show 4 * t + 1 < 32 by omega)
                have e2 := oArr_set s (show 4 * t + 2 < 32 by omega)
                have e3 := oArr_set s (show 4 * t + 3 < 32 by omega)
                rw [g0] at e0
                rw [g1] at e1
                rw [g2] at e2
                rw [g3] at e3
                have l0 := oArr_len s (show 4 * t + 0 ≤ 32 by omega)
                have l1 := oArr_len s (show 4 * t + 1 ≤ 32 by omega)
                have l2 := oArr_len s (show 4 * t + 2 ≤ 32 by omega)
                have l3 := oArr_len s (show 4 * t + 3 ≤ 32 by omega)
                rw [Nat.add_zero] at e0 l0
                rw [show 4 * t + 0 + 1 = 4 * t + 1 from rfl] at e0
                obtain ⟨L0,h0⟩ : ∃ L,oArr s (4 * t) = L := ⟨_,rfl⟩
                obtain ⟨L1,h1⟩ : ∃ L,oArr s (4 * t + 1) = L := ⟨_,rfl⟩
                obtain ⟨L2,h2⟩ : ∃ L,oArr s (4 * t + 1 + 1) = L := ⟨_,rfl⟩
                obtain ⟨L3,h3⟩ : ∃ L,oArr s (4 * t + 2 + 1) = L := ⟨_,rfl⟩
                obtain ⟨L4,h4⟩ : ∃ L,oArr s (4 * t + 3 + 1) = L := ⟨_,rfl⟩
                rw [h0] at hS e0 l0
                rw [h1] at e0 e1 l1
                rw [h2] at e1
                rw [show oArr s (4 * t + 2) = L2 from h2] at e2 l2
                rw [h3] at e2
                rw [show oArr s (4 * t + 3) = L3 from h3] at e3 l3
                rw [h4] at e3
                have E0 : Bx _ := ⟨e0⟩
                have E1 : Bx _ := ⟨e1⟩
                have E2 : Bx _ := ⟨e2⟩
                have E3 : Bx _ := ⟨e3⟩
                have Q0 : Bx _ := ⟨l0⟩
                have Q1 : Bx _ := ⟨l1⟩
                have Q2 : Bx _ := ⟨l2⟩
                have Q3 : Bx _ := ⟨l3⟩
                have HX : Bx _ := ⟨hx⟩
                have H4 : Bx (oArr s (4 * (t + 1)) = L4) := ⟨by rw [← h4];congr 1⟩
                clear hx hby g0 g1 g2 g3 e0 e1 e2 e3 l0 l1 l2 l3 h0 h1 h2 h3 h4
                go_wp2_with (first | (refine indexA (vv := u32v) (l := s) rfl rfl rfl t rfl Tryd.underlying155 HX.out hlt ?_;simp only [putW]) | (refine storeAi (vv := u8v) hS rfl rfl rfl (4 * t) (x / 2 ^ (24 - 8 * 0) % 256) ?_ rfl ?_ ?_ ?_;(focus (rfl));(focus (omega));(focus (have := Q0.out;omega));clear hS;intro w hS;rw [E0.out] at hS;try simp only [putW]) | (refine storeAi (vv := u8v) hS rfl rfl rfl (4 * t + 1) (x / 2 ^ (24 - 8 * 1) % 256) ?_ rfl ?_ ?_ ?_;(focus (rfl));(focus (omega));(focus (have := Q1.out;omega));clear hS;intro w hS;rw [E1.out] at hS;try simp only [putW]) | (refine storeAi (vv := u8v) hS rfl rfl rfl (4 * t + 2) (x / 2 ^ (24 - 8 * 2) % 256) ?_ rfl ?_ ?_ ?_;(focus (rfl));(focus (omega));(focus (have := Q2.out;omega));clear hS;intro w hS;rw [E2.out] at hS;try simp only [putW]) | (refine storeAi (vv := u8v) hS rfl rfl rfl (4 * t + 3) (x % 256) ?_ rfl ?_ ?_ ?_;(focus (rfl));(focus (omega));(focus (have := Q3.out;omega));clear hS;intro w hS;rw [E3.out] at hS;try simp only [putW]))
                go_roundw
                case rel => exact ⟨t + 1,by omega,by go_num,by rw [H4.out];exact hS⟩
                case measure => simp [intOf];omega
              · have ht8 : t = 8 := by omega
                subst ht8
                clear hlt ht
                rw [show oArr s (4 * 8) = dig s from oArr_all s] at hS
                have hdl : Bx ((dig s).length = 32) := ⟨dig_len s⟩
                go_wp2_with (first | (refine loadAllA (l := dig s) (vv := u8v) hS rfl rfl rfl hdl.out ?_;simp only [putW]) | (refine storeAllA (vv := u8v) hS rfl rfl rfl (dig s) rfl hdl.out (fun _ _ => rfl) (by simp) ?_;clear hS;intro w hS;try simp only [putW]))
                have hr := run_loadAll (P := Tryd.prog) hS mo 26 (by simpa using hdl.out)
                refine bodyPost_ret (v := .agg ((dig s).map u8v).toArray) (by simp only [results,Tryd.results90,asAddr];simp [hr]) rfl ⟨by rw [hres.out],hS.conv⟩
end
end Go.Proofs.YtdkimdobcacpfaaDoor
