/-
  journal.Mark, thimbleref19.Mark.
-/
import Derived.Test.YtdkimdobcacpfaaDoorGhA
import Derived.Test.YtdkimdobcacpfaaDoorShaR
import Derived.Test.YtdkimdobcacpfaaDoorJ23
set_option linter.unusedSimpArgs false
set_option linter.unusedVariables false
namespace Go.Proofs.YtdkimdobcacpfaaDoor
open Go.RowKit Go.Proofs.YtdkimdobcacpfaaDoor.Sl Go.Proofs.YtdkimdobcacpfaaDoor.Sha Go.Proofs.YtdkimdobcacpfaaDoor.Jp

section
variable {w0 w : World} {K F S : List Chunk} {l : Nat} {Ps : List (List Int × List Int)} {H I : List (Value × List Int)} {vh vi : Value}
theorem cat_app (X Y : List (Value × List Int)) : cat (X ++ Y) = cat X ++ cat Y := by simp [cat]
theorem row_cells (L : List (Value × List Int)) (h : ∀ x ∈ L,x.1.oneCell' = true) : ∀ x ∈ L,∀ u ∈ rowF x,u.oneCell' = true := fun x hx u hu => by
  rw [List.mem_singleton.1 hu];exact h x hx
theorem litSl {m : Nat} {x : Int} {t : TypeId} (h : Sat w0 ((m,cells #[Value.int .u8 x] t)::F) w) : Sat w0 ((m,sl 1 by8 [x] t (.slice (some ⟨m,0,none⟩) 1 1))::F) w :=
  (h.toSlc (l := [x]) (cap := 1) (n := 1) (f := by8) (by simp) (by simp) (by simp [maxLen]) (by simp [one]) (fun _ _ => rfl)).slOfSlc
theorem litRow {m : Nat} {v : Value} {A : List Int} {t : TypeId} (h : Sat w0 ((m,cells #[v] t)::F) w) : Sat w0 ((m,sl 1 rowF [(v,A)] t (.slice (some ⟨m,0,none⟩) 1 1))::F) w :=
  (h.toSlc (l := [(v,A)]) (cap := 1) (n := 1) (f := rowF) (by simp) (by simp) (by simp [maxLen]) (by simp) (fun _ _ => rfl)).slOfSlc
theorem rb_cell {A : List Int} {v : Value} (h : RB w A v) : v.oneCell' = true := by
  obtain ⟨a,c,rfl,_⟩ := h.at;rfl
set_option maxRecDepth 100000 in
set_option maxHeartbeats 1000000 in
theorem mark_nil {M D : List Int} (hM : 2::cat H ++ cat I = M) (hD : shaF M = D) (hH : RR w H vh) (hI : RR w I vi) (hK : KTab w) (hh : (cat H).length ≤ 1000000) (hi : (cat I).length ≤ 1000000) (hn : H.length ≤ 10000) (hm : I.length ≤ 10000) :
    Calls Tryd.prog 49 #[.pointer none,vh,vi] w fun e w' => e = .returned (.agg (D.map u8v).toArray) ∧ Sat w [] w' := by
  have hS := Sat.refl w
  have HM : Bx _ := ⟨hM⟩
  have HD : Bx _ := ⟨hD⟩
  clear hM hD
  have hdl : Bx (D.length = 32) := ⟨by rw [← HD.out];exact dig_len _⟩
  have b2 : okByte 2 := by unfold okByte;omega
  go_enter Tryd.func49,Tryd.ntmps49
  go_wp2_with (first | (refine allocA (t := 26) (vv := u8v) hS rfl rfl (List.replicate 32 0) zeros32 ?_;clear hS;intro mo w hS;simp only [putW]) | (guard_target =~ wpList _ _ _ (Oper.mk (some 9) _ _ _ _ _::_) _ _;refine Stopped.out ?_) | (refine buildSlice1 (c := #[.int .u8 2]) hS rfl rfl rfl ?_ ?_ ?_ ?_;rfl;rfl;rfl;clear hS;intro mb w hS;simp only [putW]))
  refine ⟨?_⟩
  replace hS := litSl hS
  refine buildSlice1 (c := #[.slice (some ⟨mb,0,none⟩) 1 1]) hS rfl rfl rfl rfl rfl rfl ?_
  clear hS
  intro mc w hS
  simp only [putW]
  replace hS := litRow (A := [2]) hS
  go_wp2_with (guard_target =~ wpList _ _ _ (Oper.mk (some 11) _ _ _ _ _::_) _ _;refine Stopped.out ?_)
  refine ⟨?_⟩
  refine appendB (f := rowF) hS rfl rfl (.slice (some ⟨mc,0,none⟩) 1 1) rfl rfl H (hH.mono hS.base) (row_cells H fun x hx => rb_cell (hH.all x hx)) ?_ ?_ ?_
  · simp [maxLen];omega
  · simp;omega
  clear hS
  intro v1 w hS
  simp only [putW]
  go_wp2_with (guard_target =~ wpList _ _ _ (Oper.mk (some 13) _ _ _ _ _::_) _ _;refine Stopped.out ?_)
  refine ⟨?_⟩
  refine appendB (f := rowF) hS rfl rfl v1 rfl rfl I (hI.mono hS.base) (row_cells I fun x hx => rb_cell (hI.all x hx)) ?_ ?_ ?_
  · simp [maxLen];omega
  · simp;omega
  clear hS
  intro v2 w hS
  simp only [putW]
  go_wp2_with (guard_target =~ Calls _ 53 _ _ _;refine Stopped.out ?_)
  refine ⟨?_⟩
  have hrow : RB w [2] (.slice (some ⟨mb,0,none⟩) 1 1) := hS.readsSl (v := .slice (some ⟨mb,0,none⟩) 1 1) (L := [2]) fun x hx => by rw [List.mem_singleton.1 hx];exact b2
  have hrr : RR w ((((.slice (some ⟨mb,0,none⟩) 1 1 : Value),[(2 : Int)])::H) ++ I) v2 := Sat.readsSl (gd := fun (x : Value × List Int) => RB w x.2 x.1) hS fun x hx => by
    rcases List.mem_append.1 hx with hx | hx
    · rcases List.mem_cons.1 hx with hx | hx
      · rw [hx];exact hrow
      · exact (hH.all x hx).mono hS.base
    · exact (hI.all x hx).mono hS.base
  have hcat : cat ((((.slice (some ⟨mb,0,none⟩) 1 1 : Value),[(2 : Int)])::H) ++ I) = M := by rw [cat_app,← HM.out];rfl
  have hcc : (cat ((((.slice (some ⟨mb,0,none⟩) 1 1 : Value),[(2 : Int)])::H) ++ I)).length ≤ 100000000000 := by rw [hcat,← HM.out];simp;omega
  have hK4 := hK.mono hS.base
  (refine Calls.mono (hash_nil hrr hK4 hcc) ?_;rintro _ w2 ⟨rfl,h2⟩;replace hS := hS.frame h2;clear h2;(try simp only [List.cons_append,List.nil_append] at hS);simp only [putW])
  rw [hcat,HD.out]
  clear hrow hrr hcat hcc
  go_wp2_with (refine storeAllA (vv := u8v) hS rfl rfl rfl D rfl hdl.out (fun _ _ => rfl) (by simp) ?_;clear hS;intro w hS;try simp only [putW])
  have hr := run_loadAll (P := Tryd.prog) hS mo 26 (by simpa using hdl.out)
  refine bodyPost_ret (v := .agg (D.map u8v).toArray) (by simp only [results,Tryd.results49,asAddr];simp [hr]) rfl ⟨rfl,hS.nothing⟩

set_option maxRecDepth 100000 in
set_option maxHeartbeats 1000000 in
theorem mark_any {M D : List Int} (hM : 2::cat H ++ cat I = M) (hD : shaF M = D) (hS : Sat w0 ((l,LogC Ps)::K) w) (hP : Ps.length ≤ 1000000) (hH : RR w H vh) (hI : RR w I vi) (hK : KTab w) (hh : (cat H).length ≤ 1000000) (hi : (cat I).length ≤ 1000000) (hn : H.length ≤ 10000) (hm : I.length ≤ 10000) :
    Calls Tryd.prog 49 #[.pointer (some ⟨l,0,none⟩),vh,vi] w fun e w' => e = .returned (.agg (D.map u8v).toArray) ∧ Sat w0 ((l,LogC (Ps ++ [(M,D)]))::K) w' := by
  have hS0 := hS
  clear hS
  have hS := Sat.refl w
  have HM : Bx _ := ⟨hM⟩
  have HD : Bx _ := ⟨hD⟩
  clear hM hD
  have hdl : Bx (D.length = 32) := ⟨by rw [← HD.out];exact dig_len _⟩
  have b2 : okByte 2 := by unfold okByte;omega
  go_enter Tryd.func49,Tryd.ntmps49
  go_wp2_with (first | (refine allocA (t := 26) (vv := u8v) hS rfl rfl (List.replicate 32 0) zeros32 ?_;clear hS;intro mo w hS;simp only [putW]) | (guard_target =~ wpList _ _ _ (Oper.mk (some 9) _ _ _ _ _::_) _ _;refine Stopped.out ?_) | (refine buildSlice1 (c := #[.int .u8 2]) hS rfl rfl rfl ?_ ?_ ?_ ?_;rfl;rfl;rfl;clear hS;intro mb w hS;simp only [putW]))
  refine ⟨?_⟩
  replace hS := litSl hS
  refine buildSlice1 (c := #[.slice (some ⟨mb,0,none⟩) 1 1]) hS rfl rfl rfl rfl rfl rfl ?_
  clear hS
  intro mc w hS
  simp only [putW]
  replace hS := litRow (A := [2]) hS
  go_wp2_with (guard_target =~ wpList _ _ _ (Oper.mk (some 11) _ _ _ _ _::_) _ _;refine Stopped.out ?_)
  refine ⟨?_⟩
  refine appendB (f := rowF) hS rfl rfl (.slice (some ⟨mc,0,none⟩) 1 1) rfl rfl H (hH.mono hS.base) (row_cells H fun x hx => rb_cell (hH.all x hx)) ?_ ?_ ?_
  · simp [maxLen];omega
  · simp;omega
  clear hS
  intro v1 w hS
  simp only [putW]
  go_wp2_with (guard_target =~ wpList _ _ _ (Oper.mk (some 13) _ _ _ _ _::_) _ _;refine Stopped.out ?_)
  refine ⟨?_⟩
  refine appendB (f := rowF) hS rfl rfl v1 rfl rfl I (hI.mono hS.base) (row_cells I fun x hx => rb_cell (hI.all x hx)) ?_ ?_ ?_
  · simp [maxLen];omega
  · simp;omega
  clear hS
  intro v2 w hS
  simp only [putW]
  go_wp2_with (guard_target =~ Calls _ 53 _ _ _;refine Stopped.out ?_)
  refine ⟨?_⟩
  have hrow : RB w [2] (.slice (some ⟨mb,0,none⟩) 1 1) := hS.readsSl (v := .slice (some ⟨mb,0,none⟩) 1 1) (L := [2]) fun x hx => by rw [List.mem_singleton.1 hx];exact b2
  have hrr : RR w ((((.slice (some ⟨mb,0,none⟩) 1 1 : Value),[(2 : Int)])::H) ++ I) v2 := Sat.readsSl (gd := fun (x : Value × List Int) => RB w x.2 x.1) hS fun x hx => by
    rcases List.mem_append.1 hx with hx | hx
    · rcases List.mem_cons.1 hx with hx | hx
      · rw [hx];exact hrow
      · exact (hH.all x hx).mono hS.base
    · exact (hI.all x hx).mono hS.base
  have hcat : cat ((((.slice (some ⟨mb,0,none⟩) 1 1 : Value),[(2 : Int)])::H) ++ I) = M := by rw [cat_app,← HM.out];rfl
  have hcc : (cat ((((.slice (some ⟨mb,0,none⟩) 1 1 : Value),[(2 : Int)])::H) ++ I)).length ≤ 100000000000 := by rw [hcat,← HM.out];simp;omega
  have hK4 := hK.mono hS.base
  replace hS := hS0.frame hS
  simp only [List.cons_append,List.nil_append] at hS
  replace hS := hS.conv (S' := (l,LogC Ps)::(mo,cells ((List.replicate 32 (0 : Int)).map u8v).toArray 26)::K)
  (refine Calls.mono (hash_any hS hrr hK4 hcc hP) ?_;clear hS;rintro _ w ⟨rfl,hS⟩;simp only [putW])
  rw [hcat,HD.out] at hS
  rw [hcat,HD.out]
  clear hrow hrr hcat hcc
  go_wp2_with (refine storeAllA (vv := u8v) hS rfl rfl rfl D rfl hdl.out (fun _ _ => rfl) (by simp) ?_;clear hS;intro w hS;try simp only [putW])
  have hr := run_loadAll (P := Tryd.prog) hS mo 26 (by simpa using hdl.out)
  refine bodyPost_ret (v := .agg (D.map u8v).toArray) (by simp only [results,Tryd.results49,asAddr];simp [hr]) rfl ⟨rfl,hS.conv⟩
end
end Go.Proofs.YtdkimdobcacpfaaDoor
