/-
  The judge's log: Hash, Count.
-/
import Derived.Test.YtkppoffljkpiaaaDoorGhN
namespace Go.Proofs.YtkppoffljkpiaaaDoor
open Go.RowKit Go.Proofs.YtkppoffljkpiaaaDoor.Sl Go.Proofs.YtkppoffljkpiaaaDoor.Sha Go.Proofs.YtkppoffljkpiaaaDoor.Jp

section
variable {w0 w : World} {K F S : List Chunk} {l : Nat} {Ps : List (List Int × List Int)} {X : List (Value × List Int)} {A D : List Int} {va vp : Value}
theorem KTab.mono {w w' : World} (h : KTab w) (hb : Below w.heap.size w w') : KTab w' := BAt.mono h hb fun _ _ h => h
theorem cat_one (v : Value) (A : List Int) : cat [(v, A)] = A := by simp [cat]
theorem litRR {m : Nat} {v : Value} {A : List Int} {t : TypeId} (h : Sat w0 ((m, cells #[v] t) :: F) w) (hv : RB w A v) : RR w [(v, A)] (.slice (some ⟨m, 0, none⟩) 1 1) := by
  have h1 := (h.toSlc (l := [(v, A)]) (cap := 1) (n := 1) (f := rowF) (by simp) (by simp) (by simp [maxLen]) (by simp) (fun _ _ => rfl)).readsSlc (g := m) (n := 1) (f := rowF) (L := [(v, A)]) (cap := 1) (t := t) (gd := fun x => RB w x.2 x.1) (fun y hy => by rw [List.mem_singleton.1 hy]; exact hv)
  exact h1
theorem note_nil (w0 : World) (va : Value) (D : List Int) : Calls Tryd.prog 24 #[.pointer none, va, .agg (D.map u8v).toArray] w0 fun e w' => e = .returned (.tuple #[]) ∧ Sat w0 [] w' := by
  have hS := Sat.refl w0
  go_enter Tryd.func24, Tryd.ntmps24
  go_wp2_with (first | (refine boxA (t := 27) (vv := u8v) hS rfl rfl D rfl ?_; clear hS; intro md w hS; simp only [putW]) | (refine load1 hS rfl rfl rfl rfl ?_; simp only [putW]) | (refine loadAll hS rfl rfl rfl ?_ ?_; rfl; simp only [putW]) | (refine loadPart hS rfl rfl rfl ?_ rfl ?_; rfl; simp only [putW]) | (refine store1 hS rfl rfl rfl rfl rfl ?_ ?_; (focus (simp; done)); clear hS; intro w hS; simp only [evW, putW] at hS; try simp only [putW]) | (refine storeAll hS rfl rfl rfl rfl ?_ ?_ ?_ ?_; rfl; (focus (simp [Value.oneCell']; done)); rfl; clear hS; intro w hS; try simp only [putW]) | (refine storeN hS rfl rfl rfl rfl ?_ ?_ ?_ ?_; rfl; (focus (simp [Value.oneCell']; done)); (focus (simp; done)); clear hS; intro w hS; simp at hS; try simp only [putW]) | (refine alloc hS rfl rfl ?_; clear hS; intro mb w hS; simp only [putW]) | (refine box1 hS rfl rfl rfl rfl ?_; clear hS; intro mb w hS; try simp only [evW, putW] at hS; simp only [putW]) | (refine boxN hS rfl rfl rfl ?_; clear hS; intro mb w hS; simp only [putW]))
  go_end0
  exact ⟨rfl, hS.nothing⟩

set_option maxRecDepth 100000 in
set_option maxHeartbeats 4000000 in
theorem hash_nil (hX : RR w0 X vp) (hK : KTab w0) (hc : (cat X).length ≤ 100000000000) :
    Calls Tryd.prog 16 #[.pointer none, vp] w0 fun e w' => e = .returned (.agg ((shaF (cat X)).map u8v).toArray) ∧ Sat w0 [] w' := by
  have hS := Sat.refl w0
  obtain ⟨A, hA⟩ : ∃ A, cat X = A := ⟨_, rfl⟩
  have hc' : A.length ≤ 100000000000 := by rw [← hA]; exact hc
  have HA : Bx _ := ⟨hA⟩
  clear hA
  have hdl : Bx ((shaF A).length = 32) := ⟨dig_len _⟩
  go_enter Tryd.func16, Tryd.ntmps16
  go_wp2_with (first | (refine allocA (t := 27) (vv := u8v) hS rfl rfl (List.replicate 32 0) zeros32 ?_; clear hS; intro mo w hS; simp only [putW]) | (guard_target =~ Calls _ 22 _ _ _; refine Stopped.out ?_) | (refine load1 hS rfl rfl rfl rfl ?_; simp only [putW]) | (refine loadAll hS rfl rfl rfl ?_ ?_; rfl; simp only [putW]) | (refine loadPart hS rfl rfl rfl ?_ rfl ?_; rfl; simp only [putW]) | (refine store1 hS rfl rfl rfl rfl rfl ?_ ?_; (focus (simp; done)); clear hS; intro w hS; simp only [evW, putW] at hS; try simp only [putW]) | (refine storeAll hS rfl rfl rfl rfl ?_ ?_ ?_ ?_; rfl; (focus (simp [Value.oneCell']; done)); rfl; clear hS; intro w hS; try simp only [putW]) | (refine storeN hS rfl rfl rfl rfl ?_ ?_ ?_ ?_; rfl; (focus (simp [Value.oneCell']; done)); (focus (simp; done)); clear hS; intro w hS; simp at hS; try simp only [putW]) | (refine alloc hS rfl rfl ?_; clear hS; intro mb w hS; simp only [putW]) | (refine box1 hS rfl rfl rfl rfl ?_; clear hS; intro mb w hS; try simp only [evW, putW] at hS; simp only [putW]) | (refine boxN hS rfl rfl rfl ?_; clear hS; intro mb w hS; simp only [putW]))
  refine ⟨?_⟩
  (refine Calls.mono (join_any (hX.mono hS.base) hc) ?_; rintro _ w2 ⟨v, rfl, h2, hrb⟩; replace hS := hS.frame h2; clear h2; (try simp only [List.cons_append, List.nil_append] at hS); simp only [putW])
  rw [HA.out] at hrb
  obtain ⟨pv, cv, hv, _, _⟩ := hrb.at
  subst hv
  have hK2 := hK.mono hS.base
  have hSa := hS
  clear hS
  have hS := Sat.refl w2
  have HR : Bx _ := ⟨hrb⟩
  clear hrb
  go_wp2_with (first | (refine buildSlice1 (c := #[.slice pv A.length cv]) hS rfl rfl rfl ?_ ?_ ?_ ?_; rfl; rfl; rfl; clear hS; intro mb w hS; simp only [putW]) | (guard_target =~ Calls _ 23 _ _ _; refine Stopped.out ?_) | (refine load1 hS rfl rfl rfl rfl ?_; simp only [putW]) | (refine loadAll hS rfl rfl rfl ?_ ?_; rfl; simp only [putW]) | (refine loadPart hS rfl rfl rfl ?_ rfl ?_; rfl; simp only [putW]) | (refine store1 hS rfl rfl rfl rfl rfl ?_ ?_; (focus (simp; done)); clear hS; intro w hS; simp only [evW, putW] at hS; try simp only [putW]) | (refine storeAll hS rfl rfl rfl rfl ?_ ?_ ?_ ?_; rfl; (focus (simp [Value.oneCell']; done)); rfl; clear hS; intro w hS; try simp only [putW]) | (refine storeN hS rfl rfl rfl rfl ?_ ?_ ?_ ?_; rfl; (focus (simp [Value.oneCell']; done)); (focus (simp; done)); clear hS; intro w hS; simp at hS; try simp only [putW]) | (refine alloc hS rfl rfl ?_; clear hS; intro mb w hS; simp only [putW]) | (refine box1 hS rfl rfl rfl rfl ?_; clear hS; intro mb w hS; try simp only [evW, putW] at hS; simp only [putW]) | (refine boxN hS rfl rfl rfl ?_; clear hS; intro mb w hS; simp only [putW]))
  refine ⟨?_⟩
  have hrr := litRR hS (HR.out.mono hS.base)
  have hc1 : (cat [((.slice pv A.length cv : Value), A)]).length ≤ 100000000000 := by rw [cat_one]; exact hc'
  (refine Calls.mono (shaOf_any hrr (hK2.mono hS.base) hc1) ?_; rintro _ w2 ⟨rfl, h2⟩; replace hS := hS.frame h2; clear h2; (try simp only [List.cons_append, List.nil_append] at hS); simp only [putW])
  rw [cat_one]
  clear hrr hc1
  go_wp2_with (first | (refine allocA (t := 27) (vv := u8v) hS rfl rfl (List.replicate 32 0) zeros32 ?_; clear hS; intro md w hS; simp only [putW]) | (refine storeAllA (vv := u8v) hS rfl rfl rfl (shaF A) rfl hdl.out (fun _ _ => rfl) (by simp) ?_; clear hS; intro w hS; try simp only [putW]) | (refine loadAllA (l := shaF A) (vv := u8v) hS rfl rfl rfl hdl.out ?_; simp only [putW]) | (guard_target =~ Calls _ 24 _ _ _; refine Stopped.out ?_) | (refine load1 hS rfl rfl rfl rfl ?_; simp only [putW]) | (refine loadAll hS rfl rfl rfl ?_ ?_; rfl; simp only [putW]) | (refine loadPart hS rfl rfl rfl ?_ rfl ?_; rfl; simp only [putW]) | (refine store1 hS rfl rfl rfl rfl rfl ?_ ?_; (focus (simp; done)); clear hS; intro w hS; simp only [evW, putW] at hS; try simp only [putW]) | (refine storeAll hS rfl rfl rfl rfl ?_ ?_ ?_ ?_; rfl; (focus (simp [Value.oneCell']; done)); rfl; clear hS; intro w hS; try simp only [putW]) | (refine storeN hS rfl rfl rfl rfl ?_ ?_ ?_ ?_; rfl; (focus (simp [Value.oneCell']; done)); (focus (simp; done)); clear hS; intro w hS; simp at hS; try simp only [putW]) | (refine alloc hS rfl rfl ?_; clear hS; intro mb w hS; simp only [putW]) | (refine box1 hS rfl rfl rfl rfl ?_; clear hS; intro mb w hS; try simp only [evW, putW] at hS; simp only [putW]) | (refine boxN hS rfl rfl rfl ?_; clear hS; intro mb w hS; simp only [putW]))
  refine ⟨?_⟩
  (refine Calls.mono (note_nil _ (.slice pv A.length cv) (shaF A)) ?_; rintro _ w2 ⟨rfl, h2⟩; replace hS := hS.frame h2; clear h2; (try simp only [List.cons_append, List.nil_append] at hS); simp only [putW])
  replace hS := hSa.frame hS
  simp only [List.cons_append, List.nil_append] at hS
  go_wp2_with (first | (refine loadAllA (l := shaF A) (vv := u8v) hS rfl rfl rfl hdl.out ?_; simp only [putW]) | (refine storeAllA (vv := u8v) hS rfl rfl rfl (shaF A) rfl hdl.out (fun _ _ => rfl) (by simp) ?_; clear hS; intro w hS; try simp only [putW]) | (refine load1 hS rfl rfl rfl rfl ?_; simp only [putW]) | (refine loadAll hS rfl rfl rfl ?_ ?_; rfl; simp only [putW]) | (refine loadPart hS rfl rfl rfl ?_ rfl ?_; rfl; simp only [putW]) | (refine store1 hS rfl rfl rfl rfl rfl ?_ ?_; (focus (simp; done)); clear hS; intro w hS; simp only [evW, putW] at hS; try simp only [putW]) | (refine storeAll hS rfl rfl rfl rfl ?_ ?_ ?_ ?_; rfl; (focus (simp [Value.oneCell']; done)); rfl; clear hS; intro w hS; try simp only [putW]) | (refine storeN hS rfl rfl rfl rfl ?_ ?_ ?_ ?_; rfl; (focus (simp [Value.oneCell']; done)); (focus (simp; done)); clear hS; intro w hS; simp at hS; try simp only [putW]) | (refine alloc hS rfl rfl ?_; clear hS; intro mb w hS; simp only [putW]) | (refine box1 hS rfl rfl rfl rfl ?_; clear hS; intro mb w hS; try simp only [evW, putW] at hS; simp only [putW]) | (refine boxN hS rfl rfl rfl ?_; clear hS; intro mb w hS; simp only [putW]))
  have hr := run_loadAll (P := Tryd.prog) hS mo 27 (by simpa using hdl.out)
  refine bodyPost_ret (v := .agg ((shaF A).map u8v).toArray) (by simp only [results, Tryd.results16, asAddr]; simp [hr]) rfl ⟨by rw [HA.out], hS.nothing⟩

set_option maxRecDepth 100000 in
set_option maxHeartbeats 4000000 in
theorem hash_any (hS : Sat w0 ((l, LogC Ps) :: K) w) (hX : RR w X vp) (hK : KTab w) (hc : (cat X).length ≤ 100000000000) (hP : Ps.length ≤ 1000000) :
    Calls Tryd.prog 16 #[.pointer (some ⟨l, 0, none⟩), vp] w fun e w' => e = .returned (.agg ((shaF (cat X)).map u8v).toArray) ∧ Sat w0 ((l, LogC (Ps ++ [(cat X, shaF (cat X))])) :: K) w' := by
  have hS0 := hS
  clear hS
  have hS := Sat.refl w
  obtain ⟨A, hA⟩ : ∃ A, cat X = A := ⟨_, rfl⟩
  have hc' : A.length ≤ 100000000000 := by rw [← hA]; exact hc
  have HA : Bx _ := ⟨hA⟩
  clear hA
  have hdl : Bx ((shaF A).length = 32) := ⟨dig_len _⟩
  go_enter Tryd.func16, Tryd.ntmps16
  go_wp2_with (first | (refine allocA (t := 27) (vv := u8v) hS rfl rfl (List.replicate 32 0) zeros32 ?_; clear hS; intro mo w hS; simp only [putW]) | (guard_target =~ Calls _ 22 _ _ _; refine Stopped.out ?_) | (refine load1 hS rfl rfl rfl rfl ?_; simp only [putW]) | (refine loadAll hS rfl rfl rfl ?_ ?_; rfl; simp only [putW]) | (refine loadPart hS rfl rfl rfl ?_ rfl ?_; rfl; simp only [putW]) | (refine store1 hS rfl rfl rfl rfl rfl ?_ ?_; (focus (simp; done)); clear hS; intro w hS; simp only [evW, putW] at hS; try simp only [putW]) | (refine storeAll hS rfl rfl rfl rfl ?_ ?_ ?_ ?_; rfl; (focus (simp [Value.oneCell']; done)); rfl; clear hS; intro w hS; try simp only [putW]) | (refine storeN hS rfl rfl rfl rfl ?_ ?_ ?_ ?_; rfl; (focus (simp [Value.oneCell']; done)); (focus (simp; done)); clear hS; intro w hS; simp at hS; try simp only [putW]) | (refine alloc hS rfl rfl ?_; clear hS; intro mb w hS; simp only [putW]) | (refine box1 hS rfl rfl rfl rfl ?_; clear hS; intro mb w hS; try simp only [evW, putW] at hS; simp only [putW]) | (refine boxN hS rfl rfl rfl ?_; clear hS; intro mb w hS; simp only [putW]))
  refine ⟨?_⟩
  (refine Calls.mono (join_any (hX.mono hS.base) hc) ?_; rintro _ w2 ⟨v, rfl, h2, hrb⟩; replace hS := hS.frame h2; clear h2; (try simp only [List.cons_append, List.nil_append] at hS); simp only [putW])
  rw [HA.out] at hrb
  obtain ⟨pv, cv, hv, _, _⟩ := hrb.at
  subst hv
  have hK2 := hK.mono hS.base
  have hSa := hS0.frame hS
  simp only [List.cons_append, List.nil_append] at hSa
  clear hS hS0
  have hS := Sat.refl w2
  have HR : Bx _ := ⟨hrb⟩
  clear hrb
  go_wp2_with (first | (refine buildSlice1 (c := #[.slice pv A.length cv]) hS rfl rfl rfl ?_ ?_ ?_ ?_; rfl; rfl; rfl; clear hS; intro mb w hS; simp only [putW]) | (guard_target =~ Calls _ 23 _ _ _; refine Stopped.out ?_) | (refine load1 hS rfl rfl rfl rfl ?_; simp only [putW]) | (refine loadAll hS rfl rfl rfl ?_ ?_; rfl; simp only [putW]) | (refine loadPart hS rfl rfl rfl ?_ rfl ?_; rfl; simp only [putW]) | (refine store1 hS rfl rfl rfl rfl rfl ?_ ?_; (focus (simp; done)); clear hS; intro w hS; simp only [evW, putW] at hS; try simp only [putW]) | (refine storeAll hS rfl rfl rfl rfl ?_ ?_ ?_ ?_; rfl; (focus (simp [Value.oneCell']; done)); rfl; clear hS; intro w hS; try simp only [putW]) | (refine storeN hS rfl rfl rfl rfl ?_ ?_ ?_ ?_; rfl; (focus (simp [Value.oneCell']; done)); (focus (simp; done)); clear hS; intro w hS; simp at hS; try simp only [putW]) | (refine alloc hS rfl rfl ?_; clear hS; intro mb w hS; simp only [putW]) | (refine box1 hS rfl rfl rfl rfl ?_; clear hS; intro mb w hS; try simp only [evW, putW] at hS; simp only [putW]) | (refine boxN hS rfl rfl rfl ?_; clear hS; intro mb w hS; simp only [putW]))
  refine ⟨?_⟩
  have hrr := litRR hS (HR.out.mono hS.base)
  have hc1 : (cat [((.slice pv A.length cv : Value), A)]).length ≤ 100000000000 := by rw [cat_one]; exact hc'
  (refine Calls.mono (shaOf_any hrr (hK2.mono hS.base) hc1) ?_; rintro _ w2 ⟨rfl, h2⟩; replace hS := hS.frame h2; clear h2; (try simp only [List.cons_append, List.nil_append] at hS); simp only [putW])
  rw [cat_one]
  clear hrr hc1
  go_wp2_with (first | (refine allocA (t := 27) (vv := u8v) hS rfl rfl (List.replicate 32 0) zeros32 ?_; clear hS; intro md w hS; simp only [putW]) | (refine storeAllA (vv := u8v) hS rfl rfl rfl (shaF A) rfl hdl.out (fun _ _ => rfl) (by simp) ?_; clear hS; intro w hS; try simp only [putW]) | (refine loadAllA (l := shaF A) (vv := u8v) hS rfl rfl rfl hdl.out ?_; simp only [putW]) | (guard_target =~ Calls _ 24 _ _ _; refine Stopped.out ?_) | (refine load1 hS rfl rfl rfl rfl ?_; simp only [putW]) | (refine loadAll hS rfl rfl rfl ?_ ?_; rfl; simp only [putW]) | (refine loadPart hS rfl rfl rfl ?_ rfl ?_; rfl; simp only [putW]) | (refine store1 hS rfl rfl rfl rfl rfl ?_ ?_; (focus (simp; done)); clear hS; intro w hS; simp only [evW, putW] at hS; try simp only [putW]) | (refine storeAll hS rfl rfl rfl rfl ?_ ?_ ?_ ?_; rfl; (focus (simp [Value.oneCell']; done)); rfl; clear hS; intro w hS; try simp only [putW]) | (refine storeN hS rfl rfl rfl rfl ?_ ?_ ?_ ?_; rfl; (focus (simp [Value.oneCell']; done)); (focus (simp; done)); clear hS; intro w hS; simp at hS; try simp only [putW]) | (refine alloc hS rfl rfl ?_; clear hS; intro mb w hS; simp only [putW]) | (refine box1 hS rfl rfl rfl rfl ?_; clear hS; intro mb w hS; try simp only [evW, putW] at hS; simp only [putW]) | (refine boxN hS rfl rfl rfl ?_; clear hS; intro mb w hS; simp only [putW]))
  refine ⟨?_⟩
  have hr4 := HR.out.mono hS.base
  replace hS := hSa.frame hS
  simp only [List.cons_append, List.nil_append] at hS
  replace hS := hS.conv (S' := (l, LogC Ps) :: (md, cells ((shaF A).map u8v).toArray 27) :: (mo, cells ((List.replicate 32 (0 : Int)).map u8v).toArray 27) :: K)
  (refine Calls.mono (note_any hS hr4 hc' hP hdl.out) ?_; clear hS; rintro _ w ⟨rfl, hS⟩; simp only [putW])
  go_wp2_with (first | (refine loadAllA (l := shaF A) (vv := u8v) hS rfl rfl rfl hdl.out ?_; simp only [putW]) | (refine storeAllA (vv := u8v) hS rfl rfl rfl (shaF A) rfl hdl.out (fun _ _ => rfl) (by simp) ?_; clear hS; intro w hS; try simp only [putW]) | (refine load1 hS rfl rfl rfl rfl ?_; simp only [putW]) | (refine loadAll hS rfl rfl rfl ?_ ?_; rfl; simp only [putW]) | (refine loadPart hS rfl rfl rfl ?_ rfl ?_; rfl; simp only [putW]) | (refine store1 hS rfl rfl rfl rfl rfl ?_ ?_; (focus (simp; done)); clear hS; intro w hS; simp only [evW, putW] at hS; try simp only [putW]) | (refine storeAll hS rfl rfl rfl rfl ?_ ?_ ?_ ?_; rfl; (focus (simp [Value.oneCell']; done)); rfl; clear hS; intro w hS; try simp only [putW]) | (refine storeN hS rfl rfl rfl rfl ?_ ?_ ?_ ?_; rfl; (focus (simp [Value.oneCell']; done)); (focus (simp; done)); clear hS; intro w hS; simp at hS; try simp only [putW]) | (refine alloc hS rfl rfl ?_; clear hS; intro mb w hS; simp only [putW]) | (refine box1 hS rfl rfl rfl rfl ?_; clear hS; intro mb w hS; try simp only [evW, putW] at hS; simp only [putW]) | (refine boxN hS rfl rfl rfl ?_; clear hS; intro mb w hS; simp only [putW]))
  have hr := run_loadAll (P := Tryd.prog) hS mo 27 (by simpa using hdl.out)
  refine bodyPost_ret (v := .agg ((shaF A).map u8v).toArray) (by simp only [results, Tryd.results16, asAddr]; simp [hr]) rfl ⟨by rw [HA.out], ?_⟩
  rw [HA.out]
  exact hS.conv

set_option maxHeartbeats 1000000 in
theorem count_any (hS : Sat w0 ((l, LogC Ps) :: K) w) : Calls Tryd.prog 9 #[.pointer (some ⟨l, 0, none⟩)] w fun e w' => e = .returned (.tuple #[.int .i64 (Ps.length : Int), .int .i64 0, .int .i64 0]) ∧ Sat w0 ((l, LogC Ps) :: K) w' := by
  obtain ⟨X, vp, hX, hS2⟩ := openLog hS
  clear hS
  have hS := hS2
  clear hS2
  obtain ⟨q, c, rfl⟩ : ∃ q c, vp = .slice q Ps.length c := by
    have hl : X.length = Ps.length := by rw [← hX]; simp
    rcases (hS.perm (List.Perm.swap _ _ _)).slCases with ⟨h1, h2, _⟩ | ⟨c, h1, _⟩
    · exact ⟨_, _, by rw [h1, ← hl, h2]; rfl⟩
    · exact ⟨_, _, by rw [h1, hl]⟩
  have HX : Bx _ := ⟨hX⟩
  clear hX
  go_enter Tryd.func9, Tryd.ntmps9
  go_wp2_with (first | (refine load1 hS rfl rfl rfl rfl ?_; simp only [putW]) | (refine loadAll hS rfl rfl rfl ?_ ?_; rfl; simp only [putW]) | (refine loadPart hS rfl rfl rfl ?_ rfl ?_; rfl; simp only [putW]) | (refine store1 hS rfl rfl rfl rfl rfl ?_ ?_; (focus (simp; done)); clear hS; intro w hS; simp only [evW, putW] at hS; try simp only [putW]) | (refine storeAll hS rfl rfl rfl rfl ?_ ?_ ?_ ?_; rfl; (focus (simp [Value.oneCell']; done)); rfl; clear hS; intro w hS; try simp only [putW]) | (refine storeN hS rfl rfl rfl rfl ?_ ?_ ?_ ?_; rfl; (focus (simp [Value.oneCell']; done)); (focus (simp; done)); clear hS; intro w hS; simp at hS; try simp only [putW]) | (refine alloc hS rfl rfl ?_; clear hS; intro mb w hS; simp only [putW]) | (refine box1 hS rfl rfl rfl rfl ?_; clear hS; intro mb w hS; try simp only [evW, putW] at hS; simp only [putW]) | (refine boxN hS rfl rfl rfl ?_; clear hS; intro mb w hS; simp only [putW]))
  (refine region_quiet hS (by kernel_rfl) (by kernel_rfl) (by kernel_rfl) ?_; clear hS; (repeat (apply quiet_step; (focus (intro w hS; go_wp2_with (first | (refine load1 hS rfl rfl rfl rfl ?_; simp only [putW]) | (refine loadAll hS rfl rfl rfl ?_ ?_; rfl; simp only [putW]) | (refine loadPart hS rfl rfl rfl ?_ rfl ?_; rfl; simp only [putW])); exact ⟨rfl, rfl, hS⟩)); simp only [putW])); refine quiet_nil ?_; intro w hS)
  go_wp2_with (first | (refine load1 hS rfl rfl rfl rfl ?_; simp only [putW]) | (refine loadAll hS rfl rfl rfl ?_ ?_; rfl; simp only [putW]) | (refine loadPart hS rfl rfl rfl ?_ rfl ?_; rfl; simp only [putW]) | (refine store1 hS rfl rfl rfl rfl rfl ?_ ?_; (focus (simp; done)); clear hS; intro w hS; simp only [evW, putW] at hS; try simp only [putW]) | (refine storeAll hS rfl rfl rfl rfl ?_ ?_ ?_ ?_; rfl; (focus (simp [Value.oneCell']; done)); rfl; clear hS; intro w hS; try simp only [putW]) | (refine storeN hS rfl rfl rfl rfl ?_ ?_ ?_ ?_; rfl; (focus (simp [Value.oneCell']; done)); (focus (simp; done)); clear hS; intro w hS; simp at hS; try simp only [putW]) | (refine alloc hS rfl rfl ?_; clear hS; intro mb w hS; simp only [putW]) | (refine box1 hS rfl rfl rfl rfl ?_; clear hS; intro mb w hS; try simp only [evW, putW] at hS; simp only [putW]) | (refine boxN hS rfl rfl rfl ?_; clear hS; intro mb w hS; simp only [putW]))
  refine bodyPost_ret (v := .tuple #[.int .i64 (Ps.length : Int), .int .i64 0, .int .i64 0]) (by simp [results, Tryd.results9]) rfl ⟨rfl, closeLog HX.out hS⟩
end
end Go.Proofs.YtkppoffljkpiaaaDoor
