/-
  tree.Digest.
  thimbleref18: Input, Digest.
-/
import Derived.Test.YtdkimdobcacpfaaDoorGhA
import Derived.Test.YtdkimdobcacpfaaDoorSlB
import Derived.Test.YtdkimdobcacpfaaDoorShaR
set_option linter.unusedSimpArgs false
set_option linter.unusedVariables false
namespace Go.Proofs.YtdkimdobcacpfaaDoor
open Go.RowKit Go.Proofs.YtdkimdobcacpfaaDoor.Sl Go.Proofs.YtdkimdobcacpfaaDoor.Sha Go.Proofs.YtdkimdobcacpfaaDoor.Jp

/-- What is hashed of a block. -/
def inp (b : Int) (A : List Int) : List Int := 1::be 4 (b % 4294967296).toNat ++ A
section
variable {w0 w : World} {K F S : List Chunk} {l : Nat} {Ps : List (List Int × List Int)} {A : List Int} {b : Int} {va : Value}
theorem litRR2 {m : Nat} {u v : Value} {B C : List Int} {t : TypeId} (h : Sat w0 ((m,cells #[u,v] t)::F) w) (hu : RB w B u) (hv : RB w C v) : RR w [(u,B),(v,C)] (.slice (some ⟨m,0,none⟩) 2 2) :=
  (h.toSlc (l := [(u,B),(v,C)]) (cap := 2) (n := 1) (f := rowF) (by simp) (by simp) (by simp [maxLen]) (by simp) (fun _ _ => rfl)).readsSlc (g := m) (n := 1) (f := rowF) (L := [(u,B),(v,C)]) (cap := 2) (t := t) (gd := fun x => RB w x.2 x.1) (fun y hy => by
    rcases List.mem_cons.1 hy with hy | hy
    · rw [hy];exact hu
    · rw [List.mem_singleton.1 hy];exact hv)

set_option maxRecDepth 100000 in
set_option maxHeartbeats 1000000 in
theorem digest_nil {D : List Int} (hD : shaF (inp b A) = D) (hA : RB w A va) (hK : KTab w) (hl : A.length ≤ 10000) :
    Calls Tryd.prog 33 #[.pointer none,.int .i64 b,va] w fun e w' => e = .returned (.agg (D.map u8v).toArray) ∧ Sat w [] w' := by
  have hS := Sat.refl w
  have HD : Bx _ := ⟨hD⟩
  clear hD
  have hdl : Bx (D.length = 32) := ⟨by rw [← HD.out];exact dig_len _⟩
  have b1 : okByte 1 := by unfold okByte;omega
  obtain ⟨N,hN,hN2⟩ : ∃ N : Nat,b % 4294967296 = (N : Int) ∧ N < 4294967296 := ⟨(b % 4294967296).toNat,by omega,by omega⟩
  have hinp : Bx (inp b A = 1::be 4 N ++ A) := ⟨by unfold inp;rw [show (b % 4294967296).toNat = N by omega]⟩
  have HN : Bx _ := ⟨hN⟩
  clear hN
  obtain ⟨pa,ca,hva,_,_⟩ := hA.at
  subst hva
  go_enter Tryd.func33,Tryd.ntmps33
  go_wp2_with (first | (refine allocA (t := 26) (vv := u8v) hS rfl rfl (List.replicate 32 0) zeros32 ?_;clear hS;intro mo w hS;simp only [putW]) | (refine buildSlice1 (c := #[.int .u8 1]) hS rfl rfl rfl ?_ ?_ ?_ ?_;rfl;rfl;rfl;clear hS;intro mb w hS;simp only [putW]) | (guard_target =~ Calls _ 52 _ _ _;refine Stopped.out ?_))
  refine ⟨?_⟩
  rw [HN.out]
  have hl1 : ([1] : List Int).length ≤ 100000000000000 := by simp
  (refine Calls.mono (put4 N hN2 (litRB hS b1) hl1) ?_;rintro _ w2 ⟨vh,rfl,h2⟩;replace hS := hS.frame h2;clear h2;(try simp only [List.cons_append,List.nil_append] at hS);simp only [putW])
  obtain ⟨gh,ch,hvh,hS2⟩ := hS.slForm 5 (by simp) (by omega)
  subst hvh
  clear hS
  have hS := hS2
  clear hS2
  have hbe : ∀ x ∈ (1 : Int)::be 4 N,okByte x := fun x hx => by
    rcases List.mem_cons.1 hx with hx | hx
    · rw [hx];exact b1
    · exact be_byt _ _ x hx
  go_wp2_with (first | (refine buildSlice2 (u0 := .slice (some ⟨gh,0,none⟩) 5 ch) (u1 := .slice pa A.length ca) hS rfl rfl rfl rfl ?_;clear hS;intro mc w hS;simp only [putW]) | (guard_target =~ Calls _ 53 _ _ _;refine Stopped.out ?_))
  refine ⟨?_⟩
  have hr1 : RB w (1::be 4 N) (.slice (some ⟨gh,0,none⟩) 5 ch) := hS.readsSl (v := .slice (some ⟨gh,0,none⟩) 5 ch) (L := 1::be 4 N) hbe
  have hrr := litRR2 hS hr1 (hA.mono hS.base)
  have hcat : cat [((.slice (some ⟨gh,0,none⟩) 5 ch : Value),1::be 4 N),((.slice pa A.length ca : Value),A)] = inp b A := by rw [hinp.out];simp [cat]
  have hcc : (cat [((.slice (some ⟨gh,0,none⟩) 5 ch : Value),1::be 4 N),((.slice pa A.length ca : Value),A)]).length ≤ 100000000000 := by rw [hcat,hinp.out];simp;omega
  have hK4 := hK.mono hS.base
  (refine Calls.mono (hash_nil hrr hK4 hcc) ?_;rintro _ w2 ⟨rfl,h2⟩;replace hS := hS.frame h2;clear h2;(try simp only [List.cons_append,List.nil_append] at hS);simp only [putW])
  rw [hcat,HD.out]
  clear hr1 hrr hcat hcc hbe
  go_wp2_with (refine storeAllA (vv := u8v) hS rfl rfl rfl D rfl hdl.out (fun _ _ => rfl) (by simp) ?_;clear hS;intro w hS;try simp only [putW])
  have hr := run_loadAll (P := Tryd.prog) hS mo 26 (by simpa using hdl.out)
  refine bodyPost_ret (v := .agg (D.map u8v).toArray) (by simp only [results,Tryd.results33,asAddr];simp [hr]) rfl ⟨rfl,hS.nothing⟩

set_option maxRecDepth 100000 in
set_option maxHeartbeats 1000000 in
theorem digest_any {D : List Int} (hD : shaF (inp b A) = D) (hS : Sat w0 ((l,LogC Ps)::K) w) (hP : Ps.length ≤ 1000000) (hA : RB w A va) (hK : KTab w) (hl : A.length ≤ 10000) :
    Calls Tryd.prog 33 #[.pointer (some ⟨l,0,none⟩),.int .i64 b,va] w fun e w' => e = .returned (.agg (D.map u8v).toArray) ∧ Sat w0 ((l,LogC (Ps ++ [(inp b A,D)]))::K) w' := by
  have hS0 := hS
  clear hS
  have hS := Sat.refl w
  have HD : Bx _ := ⟨hD⟩
  clear hD
  have hdl : Bx (D.length = 32) := ⟨by rw [← HD.out];exact dig_len _⟩
  have b1 : okByte 1 := by unfold okByte;omega
  obtain ⟨N,hN,hN2⟩ : ∃ N : Nat,b % 4294967296 = (N : Int) ∧ N < 4294967296 := ⟨(b % 4294967296).toNat,by omega,by omega⟩
  have hinp : Bx (inp b A = 1::be 4 N ++ A) := ⟨by unfold inp;rw [show (b % 4294967296).toNat = N by omega]⟩
  have HN : Bx _ := ⟨hN⟩
  clear hN
  obtain ⟨pa,ca,hva,_,_⟩ := hA.at
  subst hva
  go_enter Tryd.func33,Tryd.ntmps33
  go_wp2_with (first | (refine allocA (t := 26) (vv := u8v) hS rfl rfl (List.replicate 32 0) zeros32 ?_;clear hS;intro mo w hS;simp only [putW]) | (refine buildSlice1 (c := #[.int .u8 1]) hS rfl rfl rfl ?_ ?_ ?_ ?_;rfl;rfl;rfl;clear hS;intro mb w hS;simp only [putW]) | (guard_target =~ Calls _ 52 _ _ _;refine Stopped.out ?_))
  refine ⟨?_⟩
  rw [HN.out]
  have hl1 : ([1] : List Int).length ≤ 100000000000000 := by simp
  (refine Calls.mono (put4 N hN2 (litRB hS b1) hl1) ?_;rintro _ w2 ⟨vh,rfl,h2⟩;replace hS := hS.frame h2;clear h2;(try simp only [List.cons_append,List.nil_append] at hS);simp only [putW])
  obtain ⟨gh,ch,hvh,hS2⟩ := hS.slForm 5 (by simp) (by omega)
  subst hvh
  clear hS
  have hS := hS2
  clear hS2
  have hbe : ∀ x ∈ (1 : Int)::be 4 N,okByte x := fun x hx => by
    rcases List.mem_cons.1 hx with hx | hx
    · rw [hx];exact b1
    · exact be_byt _ _ x hx
  go_wp2_with (first | (refine buildSlice2 (u0 := .slice (some ⟨gh,0,none⟩) 5 ch) (u1 := .slice pa A.length ca) hS rfl rfl rfl rfl ?_;clear hS;intro mc w hS;simp only [putW]) | (guard_target =~ Calls _ 53 _ _ _;refine Stopped.out ?_))
  refine ⟨?_⟩
  have hr1 : RB w (1::be 4 N) (.slice (some ⟨gh,0,none⟩) 5 ch) := hS.readsSl (v := .slice (some ⟨gh,0,none⟩) 5 ch) (L := 1::be 4 N) hbe
  have hrr := litRR2 hS hr1 (hA.mono hS.base)
  have hcat : cat [((.slice (some ⟨gh,0,none⟩) 5 ch : Value),1::be 4 N),((.slice pa A.length ca : Value),A)] = inp b A := by rw [hinp.out];simp [cat]
  have hcc : (cat [((.slice (some ⟨gh,0,none⟩) 5 ch : Value),1::be 4 N),((.slice pa A.length ca : Value),A)]).length ≤ 100000000000 := by rw [hcat,hinp.out];simp;omega
  have hK4 := hK.mono hS.base
  replace hS := hS0.frame hS
  simp only [List.cons_append,List.nil_append] at hS
  replace hS := hS.conv (S' := (l,LogC Ps)::(mo,cells ((List.replicate 32 (0 : Int)).map u8v).toArray 26)::K)
  (refine Calls.mono (hash_any hS hrr hK4 hcc hP) ?_;clear hS;rintro _ w ⟨rfl,hS⟩;simp only [putW])
  rw [hcat,HD.out] at hS
  rw [hcat,HD.out]
  clear hr1 hrr hcat hcc hbe
  go_wp2_with (refine storeAllA (vv := u8v) hS rfl rfl rfl D rfl hdl.out (fun _ _ => rfl) (by simp) ?_;clear hS;intro w hS;try simp only [putW])
  have hr := run_loadAll (P := Tryd.prog) hS mo 26 (by simpa using hdl.out)
  refine bodyPost_ret (v := .agg (D.map u8v).toArray) (by simp only [results,Tryd.results33,asAddr];simp [hr]) rfl ⟨rfl,hS.conv⟩
end
end Go.Proofs.YtdkimdobcacpfaaDoor
namespace Go.Proofs.YtdkimdobcacpfaaDoor
open Go.RowKit Go.Proofs.YtdkimdobcacpfaaDoor.Sl Go.Proofs.YtdkimdobcacpfaaDoor.Sha Go.Proofs.YtdkimdobcacpfaaDoor.Jp

section
variable {w0 : World} {A : List Int} {b : Int} {va : Value}
set_option maxHeartbeats 1000000 in
theorem refInput_any (hA : RB w0 A va) (hl : A.length ≤ 10000) :
    Calls Tryd.prog 70 #[.int .i64 b,va] w0 fun e w' => ∃ v,e = .returned v ∧ Sat w0 [(blk v,sl 1 by8 (inp b A) 5 v)] w' := by
  have hS := Sat.refl w0
  obtain ⟨N,hN,hN2⟩ : ∃ N : Nat,b % 4294967296 = (N : Int) ∧ N < 4294967296 := ⟨(b % 4294967296).toNat,by omega,by omega⟩
  have hinp : Bx (inp b A = 1::be 4 N ++ A) := ⟨by unfold inp;rw [show (b % 4294967296).toNat = N by omega]⟩
  have HN : Bx _ := ⟨hN⟩
  clear hN
  go_enter Tryd.func70,Tryd.ntmps70
  go_wp2_with (guard_target =~ wpList _ _ _ (Oper.mk (some 20) _ _ _ _ _::_) _ _;refine Stopped.out ?_)
  refine ⟨?_⟩
  rw [HN.out]
  refine buildSlice5 (u0 := .int .u8 1) (u1 := .int .u8 ((N : Int) / 16777216)) (u2 := .int .u8 ((N : Int) / 65536 % 256)) (u3 := .int .u8 ((N : Int) / 256 % 256)) (u4 := .int .u8 ((N : Int) % 256)) hS rfl rfl rfl rfl rfl rfl rfl ?_
  clear hS
  intro mb w hS
  simp only [putW]
  have hbe : be 4 N = [(N : Int) / 16777216,(N : Int) / 65536 % 256,(N : Int) / 256 % 256,(N : Int) % 256] := by
    show [((N / 256 ^ 3 % 256 : Nat) : Int),((N / 256 ^ 2 % 256 : Nat) : Int),((N / 256 ^ 1 % 256 : Nat) : Int),((N / 256 ^ 0 % 256 : Nat) : Int)] = _
    have e1 : ((N / 256 ^ 3 % 256 : Nat) : Int) = (N : Int) / 16777216 := by omega
    have e2 : ((N / 256 ^ 2 % 256 : Nat) : Int) = (N : Int) / 65536 % 256 := by omega
    have e3 : ((N / 256 ^ 1 % 256 : Nat) : Int) = (N : Int) / 256 % 256 := by omega
    have e4 : ((N / 256 ^ 0 % 256 : Nat) : Int) = (N : Int) % 256 := by omega
    rw [e1,e2,e3,e4]
  have hS2 : Sat w0 ((mb,sl 1 by8 (1::be 4 N) 5 (.slice (some ⟨mb,0,none⟩) 5 5))::[]) w :=
    (hS.toSlc (l := 1::be 4 N) (cap := 5) (n := 1) (f := by8) (by simp) (by simp) (by simp [maxLen]) (by rw [hbe];rfl) (fun _ _ => rfl)).slOfSlc
  clear hS hbe
  have hS := hS2
  clear hS2
  go_wp2_with (guard_target =~ wpList _ _ _ (Oper.mk (some 23) _ _ _ _ _::_) _ _;refine Stopped.out ?_)
  refine ⟨?_⟩
  refine appendB (f := by8) hS rfl rfl (.slice (some ⟨mb,0,none⟩) 5 5) rfl rfl A (hA.mono hS.base) (cell8 A) ?_ ?_ ?_
  · simp [maxLen];omega
  · simp;omega
  clear hS
  intro v1 w hS
  simp only [putW]
  go_wp2_with (refine load1 hS rfl rfl rfl rfl ?_;simp only [putW])
  go_ret
  exact ⟨_,rfl,by rw [hinp.out];exact hS⟩
set_option maxRecDepth 100000 in
set_option maxHeartbeats 1000000 in
theorem refDigest_any {D : List Int} (hD : shaF (inp b A) = D) (hA : RB w0 A va) (hl : A.length ≤ 10000) :
    Calls Tryd.prog 43 #[.int .i64 b,va] w0 fun e w' => e = .returned (.agg (D.map u8v).toArray) ∧ Sat w0 [] w' := by
  have hS := Sat.refl w0
  have HD : Bx _ := ⟨hD⟩
  clear hD
  have hdl : Bx (D.length = 32) := ⟨by rw [← HD.out];exact dig_len _⟩
  have hb : ∀ x ∈ inp b A,okByte x := fun x hx => by
    unfold inp at hx
    rcases List.mem_append.1 hx with hx | hx
    · rcases List.mem_cons.1 hx with hx | hx
      · rw [hx];unfold okByte;omega
      · exact be_byt _ _ x hx
    · exact hA.all x hx
  have hlen : (inp b A).length ≤ 100000000 := by unfold inp;simp;omega
  go_enter Tryd.func43,Tryd.ntmps43
  go_wp2_with (first | (refine allocA (t := 26) (vv := u8v) hS rfl rfl (List.replicate 32 0) zeros32 ?_;clear hS;intro mo w hS;simp only [putW]) | (guard_target =~ Calls _ 70 _ _ _;refine Stopped.out ?_))
  refine ⟨?_⟩
  (refine Calls.mono (refInput_any (hA.mono hS.base) hl) ?_;rintro _ w2 ⟨v,rfl,h2⟩;replace hS := hS.frame h2;clear h2;(try simp only [List.cons_append,List.nil_append] at hS);simp only [putW])
  have hrd := hS.readsSl (v := v) (L := inp b A) hb
  clear hb
  go_wp2_with (guard_target =~ Calls _ 69 _ _ _;refine Stopped.out ?_)
  refine ⟨?_⟩
  (refine Calls.mono (refOf_any hrd hlen) ?_;rintro _ w2 ⟨rfl,h2⟩;replace hS := hS.frame h2;clear h2;(try simp only [List.cons_append,List.nil_append] at hS);simp only [putW])
  rw [HD.out]
  clear hrd
  go_wp2_with (refine storeAllA (vv := u8v) hS rfl rfl rfl D rfl hdl.out (fun _ _ => rfl) (by simp) ?_;clear hS;intro w hS;try simp only [putW])
  have hr := run_loadAll (P := Tryd.prog) hS mo 26 (by simpa using hdl.out)
  refine bodyPost_ret (v := .agg (D.map u8v).toArray) (by simp only [results,Tryd.results43,asAddr];simp [hr]) rfl ⟨rfl,hS.nothing⟩
end
end Go.Proofs.YtdkimdobcacpfaaDoor
