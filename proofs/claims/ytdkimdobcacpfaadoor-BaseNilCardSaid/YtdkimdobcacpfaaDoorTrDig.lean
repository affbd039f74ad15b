/-
  tree.Digest.
-/
import Derived.Test.YtdkimdobcacpfaaDoorGhA
import Derived.Test.YtdkimdobcacpfaaDoorSlB
set_option linter.unusedSimpArgs false
set_option linter.unusedVariables false
namespace Go.Proofs.YtdkimdobcacpfaaDoor
open Go.RowKit Go.Proofs.YtdkimdobcacpfaaDoor.Sl Go.Proofs.YtdkimdobcacpfaaDoor.Sha Go.Proofs.YtdkimdobcacpfaaDoor.Jp

/-- What is hashed of a block. -/
def inp (b : Int) (A : List Int) : List Int := 1 :: be 4 (b % 4294967296).toNat ++ A
section
variable {w0 w : World} {K F S : List Chunk} {l : Nat} {Ps : List (List Int × List Int)} {A : List Int} {b : Int} {va : Value}
theorem litRR2 {m : Nat} {u v : Value} {B C : List Int} {t : TypeId} (h : Sat w0 ((m, cells #[u, v] t) :: F) w) (hu : RB w B u) (hv : RB w C v) : RR w [(u, B), (v, C)] (.slice (some ⟨m, 0, none⟩) 2 2) :=
  (h.toSlc (l := [(u, B), (v, C)]) (cap := 2) (n := 1) (f := rowF) (by simp) (by simp) (by simp [maxLen]) (by simp) (fun _ _ => rfl)).readsSlc (g := m) (n := 1) (f := rowF) (L := [(u, B), (v, C)]) (cap := 2) (t := t) (gd := fun x => RB w x.2 x.1) (fun y hy => by
    rcases List.mem_cons.1 hy with hy | hy
    · rw [hy]; exact hu
    · rw [List.mem_singleton.1 hy]; exact hv)

set_option maxRecDepth 100000 in
set_option maxHeartbeats 1000000 in
theorem digest_nil {D : List Int} (hD : shaF (inp b A) = D) (hA : RB w A va) (hK : KTab w) (hl : A.length ≤ 10000) :
    Calls Tryd.prog 33 #[.pointer none, .int .i64 b, va] w fun e w' => e = .returned (.agg (D.map u8v).toArray) ∧ Sat w [] w' := by
  have hS := Sat.refl w
  have HD : Bx _ := ⟨hD⟩
  clear hD
  have hdl : Bx (D.length = 32) := ⟨by rw [← HD.out]; exact dig_len _⟩
  have b1 : okByte 1 := by unfold okByte; omega
  obtain ⟨N, hN, hN2⟩ : ∃ N : Nat, b % 4294967296 = (N : Int) ∧ N < 4294967296 := ⟨(b % 4294967296).toNat, by omega, by omega⟩
  have hinp : Bx (inp b A = 1 :: be 4 N ++ A) := ⟨by unfold inp; rw [show (b % 4294967296).toNat = N by omega]⟩
  have HN : Bx _ := ⟨hN⟩
  clear hN
  obtain ⟨pa, ca, hva, _, _⟩ := hA.at
  subst hva
  go_enter Tryd.func33, Tryd.ntmps33
  go_wp2_with (first | (refine allocA (t := 26) (vv := u8v) hS rfl rfl (List.replicate 32 0) zeros32 ?_; clear hS; intro mo w hS; simp only [putW]) | (refine buildSlice1 (c := #[.int .u8 1]) hS rfl rfl rfl ?_ ?_ ?_ ?_; rfl; rfl; rfl; clear hS; intro mb w hS; simp only [putW]) | (guard_target =~ Calls _ 52 _ _ _; refine Stopped.out ?_) | (refine load1 hS rfl rfl rfl rfl ?_; simp only [putW]) | (refine loadAll hS rfl rfl rfl ?_ ?_; rfl; simp only [putW]) | (refine loadPart hS rfl rfl rfl ?_ rfl ?_; rfl; simp only [putW]) | (refine store1 hS rfl rfl rfl rfl rfl ?_ ?_; (focus (simp; done)); clear hS; intro w hS; simp only [evW, putW] at hS; try simp only [putW]) | (refine storeAll hS rfl rfl rfl rfl ?_ ?_ ?_ ?_; rfl; (focus (simp [Value.oneCell']; done)); rfl; clear hS; intro w hS; try simp only [putW]) | (refine storeN hS rfl rfl rfl rfl ?_ ?_ ?_ ?_; rfl; (focus (simp [Value.oneCell']; done)); (focus (simp; done)); clear hS; intro w hS; simp at hS; try simp only [putW]) | (refine alloc hS rfl rfl ?_; clear hS; intro mb w hS; simp only [putW]) | (refine box1 hS rfl rfl rfl rfl ?_; clear hS; intro mb w hS; try simp only [evW, putW] at hS; simp only [putW]) | (refine boxN hS rfl rfl rfl ?_; clear hS; intro mb w hS; simp only [putW]))
  refine ⟨?_⟩
  rw [HN.out]
  have hl1 : ([1] : List Int).length ≤ 100000000000000 := by simp
  (refine Calls.mono (put4 N hN2 (litRB hS b1) hl1) ?_; rintro _ w2 ⟨vh, rfl, h2⟩; replace hS := hS.frame h2; clear h2; (try simp only [List.cons_append, List.nil_append] at hS); simp only [putW])
  obtain ⟨gh, ch, hvh, hS2⟩ := hS.slForm 5 (by simp) (by omega)
  subst hvh
  clear hS
  have hS := hS2
  clear hS2
  have hbe : ∀ x ∈ (1 : Int) :: be 4 N, okByte x := fun x hx => by
    rcases List.mem_cons.1 hx with hx | hx
    · rw [hx]; exact b1
    · exact be_byt _ _ x hx
  go_wp2_with (first | (refine buildSlice2 (u0 := .slice (some ⟨gh, 0, none⟩) 5 ch) (u1 := .slice pa A.length ca) hS rfl rfl rfl rfl ?_; clear hS; intro mc w hS; simp only [putW]) | (guard_target =~ Calls _ 53 _ _ _; refine Stopped.out ?_) | (refine load1 hS rfl rfl rfl rfl ?_; simp only [putW]) | (refine loadAll hS rfl rfl rfl ?_ ?_; rfl; simp only [putW]) | (refine loadPart hS rfl rfl rfl ?_ rfl ?_; rfl; simp only [putW]) | (refine store1 hS rfl rfl rfl rfl rfl ?_ ?_; (focus (simp; done)); clear hS; intro w hS; simp only [evW, putW] at hS; try simp only [putW]) | (refine storeAll hS rfl rfl rfl rfl ?_ ?_ ?_ ?_; rfl; (focus (simp [Value.oneCell']; done)); rfl; clear hS; intro w hS; try simp only [putW]) | (refine storeN hS rfl rfl rfl rfl ?_ ?_ ?_ ?_; rfl; (focus (simp [Value.oneCell']; done)); (focus (simp; done)); clear hS; intro w hS; simp at hS; try simp only [putW]) | (refine alloc hS rfl rfl ?_; clear hS; intro mb w hS; simp only [putW]) | (refine box1 hS rfl rfl rfl rfl ?_; clear hS; intro mb w hS; try simp only [evW, putW] at hS; simp only [putW]) | (refine boxN hS rfl rfl rfl ?_; clear hS; intro mb w hS; simp only [putW]))
  refine ⟨?_⟩
  have hr1 : RB w (1 :: be 4 N) (.slice (some ⟨gh, 0, none⟩) 5 ch) := hS.readsSl (v := .slice (some ⟨gh, 0, none⟩) 5 ch) (L := 1 :: be 4 N) hbe
  have hrr := litRR2 hS hr1 (hA.mono hS.base)
  have hcat : cat [((.slice (some ⟨gh, 0, none⟩) 5 ch : Value), 1 :: be 4 N), ((.slice pa A.length ca : Value), A)] = inp b A := by rw [hinp.out]; simp [cat]
  have hcc : (cat [((.slice (some ⟨gh, 0, none⟩) 5 ch : Value), 1 :: be 4 N), ((.slice pa A.length ca : Value), A)]).length ≤ 100000000000 := by rw [hcat, hinp.out]; simp; omega
  have hK4 := hK.mono hS.base
  (refine Calls.mono (hash_nil hrr hK4 hcc) ?_; rintro _ w2 ⟨rfl, h2⟩; replace hS := hS.frame h2; clear h2; (try simp only [List.cons_append, List.nil_append] at hS); simp only [putW])
  rw [hcat, HD.out]
  clear hr1 hrr hcat hcc hbe
  go_wp2_with (first | (refine storeAllA (vv := u8v) hS rfl rfl rfl D rfl hdl.out (fun _ _ => rfl) (by simp) ?_; clear hS; intro w hS; try simp only [putW]) | (refine load1 hS rfl rfl rfl rfl ?_; simp only [putW]) | (refine loadAll hS rfl rfl rfl ?_ ?_; rfl; simp only [putW]) | (refine loadPart hS rfl rfl rfl ?_ rfl ?_; rfl; simp only [putW]) | (refine store1 hS rfl rfl rfl rfl rfl ?_ ?_; (focus (simp; done)); clear hS; intro w hS; simp only [evW, putW] at hS; try simp only [putW]) | (refine storeAll hS rfl rfl rfl rfl ?_ ?_ ?_ ?_; rfl; (focus (simp [Value.oneCell']; done)); rfl; clear hS; intro w hS; try simp only [putW]) | (refine storeN hS rfl rfl rfl rfl ?_ ?_ ?_ ?_; rfl; (focus (simp [Value.oneCell']; done)); (focus (simp; done)); clear hS; intro w hS; simp at hS; try simp only [putW]) | (refine alloc hS rfl rfl ?_; clear hS; intro mb w hS; simp only [putW]) | (refine box1 hS rfl rfl rfl rfl ?_; clear hS; intro mb w hS; try simp only [evW, putW] at hS; simp only [putW]) | (refine boxN hS rfl rfl rfl ?_; clear hS; intro mb w hS; simp only [putW]))
  have hr := run_loadAll (P := Tryd.prog) hS mo 26 (by simpa using hdl.out)
  refine bodyPost_ret (v := .agg (D.map u8v).toArray) (by simp only [results, Tryd.results33, asAddr]; simp [hr]) rfl ⟨rfl, hS.nothing⟩

set_option maxRecDepth 100000 in
set_option maxHeartbeats 1000000 in
theorem digest_any {D : List Int} (hD : shaF (inp b A) = D) (hS : Sat w0 ((l, LogC Ps) :: K) w) (hP : Ps.length ≤ 1000000) (hA : RB w A va) (hK : KTab w) (hl : A.length ≤ 10000) :
    Calls Tryd.prog 33 #[.pointer (some ⟨l, 0, none⟩), .int .i64 b, va] w fun e w' => e = .returned (.agg (D.map u8v).toArray) ∧ Sat w0 ((l, LogC (Ps ++ [(inp b A, D)])) :: K) w' := by
  have hS0 := hS
  clear hS
  have hS := Sat.refl w
  have HD : Bx _ := ⟨hD⟩
  clear hD
  have hdl : Bx (D.length = 32) := ⟨by rw [← HD.out]; exact dig_len _⟩
  have b1 : okByte 1 := by unfold okByte; omega
  obtain ⟨N, hN, hN2⟩ : ∃ N : Nat, b % 4294967296 = (N : Int) ∧ N < 4294967296 := ⟨(b % 4294967296).toNat, by omega, by omega⟩
  have hinp : Bx (inp b A = 1 :: be 4 N ++ A) := ⟨by unfold inp; rw [show (b % 4294967296).toNat = N by omega]⟩
  have HN : Bx _ := ⟨hN⟩
  clear hN
  obtain ⟨pa, ca, hva, _, _⟩ := hA.at
  subst hva
  go_enter Tryd.func33, Tryd.ntmps33
  go_wp2_with (first | (refine allocA (t := 26) (vv := u8v) hS rfl rfl (List.replicate 32 0) zeros32 ?_; clear hS; intro mo w hS; simp only [putW]) | (refine buildSlice1 (c := #[.int .u8 1]) hS rfl rfl rfl ?_ ?_ ?_ ?_; rfl; rfl; rfl; clear hS; intro mb w hS; simp only [putW]) | (guard_target =~ Calls _ 52 _ _ _; refine Stopped.out ?_) | (refine load1 hS rfl rfl rfl rfl ?_; simp only [putW]) | (refine loadAll hS rfl rfl rfl ?_ ?_; rfl; simp only [putW]) | (refine loadPart hS rfl rfl rfl ?_ rfl ?_; rfl; simp only [putW]) | (refine store1 hS rfl rfl rfl rfl rfl ?_ ?_; (focus (simp; done)); clear hS; intro w hS; simp only [evW, putW] at hS; try simp only [putW]) | (refine storeAll hS rfl rfl rfl rfl ?_ ?_ ?_ ?_; rfl; (focus (simp [Value.oneCell']; done)); rfl; clear hS; intro w hS; try simp only [putW]) | (refine storeN hS rfl rfl rfl rfl ?_ ?_ ?_ ?_; rfl; (focus (simp [Value.oneCell']; done)); (focus (simp; done)); clear hS; intro w hS; simp at hS; try simp only [putW]) | (refine alloc hS rfl rfl ?_; clear hS; intro mb w hS; simp only [putW]) | (refine box1 hS rfl rfl rfl rfl ?_; clear hS; intro mb w hS; try simp only [evW, putW] at hS; simp only [putW]) | (refine boxN hS rfl rfl rfl ?_; clear hS; intro mb w hS; simp only [putW]))
  refine ⟨?_⟩
  rw [HN.out]
  have hl1 : ([1] : List Int).length ≤ 100000000000000 := by simp
  (refine Calls.mono (put4 N hN2 (litRB hS b1) hl1) ?_; rintro _ w2 ⟨vh, rfl, h2⟩; replace hS := hS.frame h2; clear h2; (try simp only [List.cons_append, List.nil_append] at hS); simp only [putW])
  obtain ⟨gh, ch, hvh, hS2⟩ := hS.slForm 5 (by simp) (by omega)
  subst hvh
  clear hS
  have hS := hS2
  clear hS2
  have hbe : ∀ x ∈ (1 : Int) :: be 4 N, okByte x := fun x hx => by
    rcases List.mem_cons.1 hx with hx | hx
    · rw [hx]; exact b1
    · exact be_byt _ _ x hx
  go_wp2_with (first | (refine buildSlice2 (u0 := .slice (some ⟨gh, 0, none⟩) 5 ch) (u1 := .slice pa A.length ca) hS rfl rfl rfl rfl ?_; clear hS; intro mc w hS; simp only [putW]) | (guard_target =~ Calls _ 53 _ _ _; refine Stopped.out ?_) | (refine load1 hS rfl rfl rfl rfl ?_; simp only [putW]) | (refine loadAll hS rfl rfl rfl ?_ ?_; rfl; simp only [putW]) | (refine loadPart hS rfl rfl rfl ?_ rfl ?_; rfl; simp only [putW]) | (refine store1 hS rfl rfl rfl rfl rfl ?_ ?_; (focus (simp; done)); clear hS; intro w hS; simp only [evW, putW] at hS; try simp only [putW]) | (refine storeAll hS rfl rfl rfl rfl ?_ ?_ ?_ ?_; rfl; (focus (simp [Value.oneCell']; done)); rfl; clear hS; intro w hS; try simp only [putW]) | (refine storeN hS rfl rfl rfl rfl ?_ ?_ ?_ ?_; rfl; (focus (simp [Value.oneCell']; done)); (focus (simp; done)); clear hS; intro w hS; simp at hS; try simp only [putW]) | (refine alloc hS rfl rfl ?_; clear hS; intro mb w hS; simp only [putW]) | (refine box1 hS rfl rfl rfl rfl ?_; clear hS; intro mb w hS; try simp only [evW, putW] at hS; simp only [putW]) | (refine boxN hS rfl rfl rfl ?_; clear hS; intro mb w hS; simp only [putW]))
  refine ⟨?_⟩
  have hr1 : RB w (1 :: be 4 N) (.slice (some ⟨gh, 0, none⟩) 5 ch) := hS.readsSl (v := .slice (some ⟨gh, 0, none⟩) 5 ch) (L := 1 :: be 4 N) hbe
  have hrr := litRR2 hS hr1 (hA.mono hS.base)
  have hcat : cat [((.slice (some ⟨gh, 0, none⟩) 5 ch : Value), 1 :: be 4 N), ((.slice pa A.length ca : Value), A)] = inp b A := by rw [hinp.out]; simp [cat]
  have hcc : (cat [((.slice (some ⟨gh, 0, none⟩) 5 ch : Value), 1 :: be 4 N), ((.slice pa A.length ca : Value), A)]).length ≤ 100000000000 := by rw [hcat, hinp.out]; simp; omega
  have hK4 := hK.mono hS.base
  replace hS := hS0.frame hS
  simp only [List.cons_append, List.nil_append] at hS
  replace hS := hS.conv (S' := (l, LogC Ps) :: (mo, cells ((List.replicate 32 (0 : Int)).map u8v).toArray 26) :: K)
  (refine Calls.mono (hash_any hS hrr hK4 hcc hP) ?_; clear hS; rintro _ w ⟨rfl, hS⟩; simp only [putW])
  rw [hcat, HD.out] at hS
  rw [hcat, HD.out]
  clear hr1 hrr hcat hcc hbe
  go_wp2_with (first | (refine storeAllA (vv := u8v) hS rfl rfl rfl D rfl hdl.out (fun _ _ => rfl) (by simp) ?_; clear hS; intro w hS; try simp only [putW]) | (refine load1 hS rfl rfl rfl rfl ?_; simp only [putW]) | (refine loadAll hS rfl rfl rfl ?_ ?_; rfl; simp only [putW]) | (refine loadPart hS rfl rfl rfl ?_ rfl ?_; rfl; simp only [putW]) | (refine store1 hS rfl rfl rfl rfl rfl ?_ ?_; (focus (simp; done)); clear hS; intro w hS; simp only [evW, putW] at hS; try simp only [putW]) | (refine storeAll hS rfl rfl rfl rfl ?_ ?_ ?_ ?_; rfl; (focus (simp [Value.oneCell']; done)); rfl; clear hS; intro w hS; try simp only [putW]) | (refine storeN hS rfl rfl rfl rfl ?_ ?_ ?_ ?_; rfl; (focus (simp [Value.oneCell']; done)); (focus (simp; done)); clear hS; intro w hS; simp at hS; try simp only [putW]) | (refine alloc hS rfl rfl ?_; clear hS; intro mb w hS; simp only [putW]) | (refine box1 hS rfl rfl rfl rfl ?_; clear hS; intro mb w hS; try simp only [evW, putW] at hS; simp only [putW]) | (refine boxN hS rfl rfl rfl ?_; clear hS; intro mb w hS; simp only [putW]))
  have hr := run_loadAll (P := Tryd.prog) hS mo 26 (by simpa using hdl.out)
  refine bodyPost_ret (v := .agg (D.map u8v).toArray) (by simp only [results, Tryd.results33, asAddr]; simp [hr]) rfl ⟨rfl, hS.conv⟩
end
end Go.Proofs.YtdkimdobcacpfaaDoor
