/-
  base.fit.
  base.known.
-/
import Derived.Test.YtdkimdobcacpfaaDoorPlB
import Derived.Test.YtdkimdobcacpfaaDoorDvA
import Derived.Test.YtdkimdobcacpfaaDoorRgB
set_option linter.unusedSimpArgs false
set_option linter.unusedVariables false
namespace Go.Proofs.YtdkimdobcacpfaaDoor
open Go.RowKit Go.Proofs.YtdkimdobcacpfaaDoor.Sl Go.Proofs.YtdkimdobcacpfaaDoor.Sha Go.Proofs.YtdkimdobcacpfaaDoor.Jp Go.Proofs.YtdkimdobcacpfaaDoor.Tr Go.Proofs.YtdkimdobcacpfaaDoor.Dv

/-- Is there room? -/
def fits (n : Nat) (P b : Int) : Prop := okPB P b ∧ (plM P.toNat : Int) + 2 ≤ b ∧ plT P.toNat b.toNat ≤ n
instance (n : Nat) (P b : Int) : Decidable (fits n P b) := by unfold fits;infer_instance
section
variable {P : Program} {ops : Array Oper} {I : World → Prop} {o : Oper} {a : Act}
theorem yNot (hw : Region.wanted o (yielded ops a.tmps) = false) : YieldsIf P ops I o undef a := .inr ⟨hw,rfl⟩
end
theorem yBinI {P : Program} {ops : Array Oper} {I : World → Prop} {o : Oper} {a : Act} {op : BinOp} {t tr : TypeId} {x y : Operand} {k k' : IntKind} {A B : Int} {v : Value} (hw : Region.wanted o (yielded ops a.tmps) = true) (ho : o.op = .binOp op t x y tr) (hx : a.eval x = .int k A) (hy : a.eval y = .int k' B) (hr : ∀ w,(binOp op t (.int k A) (.int k' B)).run P w = .ok v w) : YieldsIf P ops I o v a :=
  .inl ⟨hw,fun w _ => by
    have hg : (eqGuard op t x y (.int k A) (.int k' B)).run P w = .ok () w := by cases op <;> rfl
    simp [execOp,ho,hx,hy,hg,hr]⟩
theorem gtrI {A B : Int} {b : Bool} (h : decide (B < A) = b) (w : World) : (binOp .gtr 3 (.int .i64 A) (.int .i64 B)).run Tryd.prog w = .ok (.bool b) w := by
  subst h
  go_simp
theorem lssI {A B : Int} {b : Bool} (h : decide (A < B) = b) (w : World) : (binOp .lss 3 (.int .i64 A) (.int .i64 B)).run Tryd.prog w = .ok (.bool b) w := by
  subst h
  go_simp
section
variable {w0 w : World} {K F S : List Chunk}
theorem restI {A : List Int} {b : Nat} {v : Value} {t : TypeId} (h : Sat w0 ((b,sl 1 i64 A t v)::F) w) : ∃ q c,v = .slice q A.length c := shapeN h rfl
theorem oneRead {g : Nat} {t : TypeId} (hS : Sat w0 S w) [Pull S g (cells #[.int .i64 0] t) F] : RI w [0] (.slice (some ⟨g,0,none⟩) 1 1) := by
  have h1 := (hS.pull g (X := cells #[.int .i64 0] t)).toSlc (l := [(0 : Int)]) (cap := 1) (n := 1) (f := i64) rfl (by simp) (by simp [maxLen]) rfl (fun _ _ => rfl)
  exact h1.readsSlc (g := g) (L := [(0 : Int)]) (cap := 1) (t := t) fun _ _ => trivial
end
section
variable {w0 w : World} {K F S : List Chunk} {d : Nat} {D : Dev} {cv : Value}
set_option maxRecDepth 100000 in
set_option maxHeartbeats 8000000 in
theorem fit_bad {P b : Int} (h : ¬ okPB P b) (hS : Sat w0 ((d,DevG cv D)::K) w) : Calls Tryd.prog 36 #[.pointer (some ⟨d,0,none⟩),.int .i64 P,.int .i64 b] w fun e w' => e = .returned (.tuple #[.agg noPlan.toArray,.int .i64 1]) ∧ Sat w0 ((d,DevG cv D)::K) w' := by
  go_enter Tryd.func36,Tryd.ntmps36
  go_wp2_with (first | (refine alloc hS rfl rfl ?_;clear hS;intro m6 w hS;simp only [putW]) | (guard_target =~ Calls _ 60 _ _ _;refine Stopped.out ?_))
  refine ⟨?_⟩
  (refine Calls.mono (planOf_no P b h) ?_;rintro _ w2 ⟨rfl,h2⟩;replace hS := hS.frame h2;clear h2;(try simp only [List.cons_append,List.nil_append] at hS);simp only [putW])
  go_upto_region 2 with (first | (refine storeAll hS rfl rfl rfl rfl ?_ ?_ ?_ ?_;rfl;(focus (simp [Value.oneCell'];done));rfl;clear hS;intro w hS;try simp only [putW]) | (refine alloc hS rfl rfl ?_;clear hS;intro mb w hS;simp only [putW]))
  (refine region_quiet hS (by kernel_rfl) (by kernel_rfl) (by kernel_rfl) ?_;clear hS;(repeat (first | (refine quiet_skip rfl ?_;simp only [putW]) | (refine quiet_y (yMove rfl rfl rfl) ?_;simp only [evW,putW]) | (apply quiet_y;(focus (apply yRun rfl;intro w;first | (go_simp;done) | (go_simp;rfl)));simp only [putW])));refine quiet_nil ?_;intro w hS)
  go_wp2_with (first | (refine loadAll hS rfl rfl rfl ?_ ?_;rfl;simp only [putW]) | (refine storeAll hS rfl rfl rfl rfl ?_ ?_ ?_ ?_;rfl;(focus (simp [Value.oneCell'];done));rfl;clear hS;intro w hS;try simp only [putW]))
  have hr := run_loadAll (P := Tryd.prog) hS m6 60 rfl
  exact bodyPost_ret (v := .tuple #[.agg noPlan.toArray,.int .i64 1]) (by simp [results,Tryd.results36,asAddr,hr]) rfl ⟨rfl,hS.conv⟩
set_option maxRecDepth 100000 in
set_option maxHeartbeats 8000000 in
theorem fit_any {P b : Nat} (h1 : 1 ≤ P) (h2 : P ≤ 4096) (h3 : 1 ≤ b) (h4 : b ≤ 256) (hS : Sat w0 ((d,DevG cv D)::K) w) : Calls Tryd.prog 36 #[.pointer (some ⟨d,0,none⟩),.int .i64 P,.int .i64 b] w fun e w' => (e = .returned (.tuple #[.agg noPlan.toArray,.int .i64 1]) ∧ ¬ (plM P + 2 ≤ b ∧ plT P b ≤ D.st.length) ∧ Sat w0 ((d,DevG cv D)::K) w') ∨
    ∃ lv,e = .returned (.tuple #[.agg (planV P b lv).toArray,.int .i64 0]) ∧ (plM P + 2 ≤ b ∧ plT P b ≤ D.st.length) ∧ Sat w0 ((blk lv,sl 1 i64 (nI (plLv P)) 3 lv)::(d,DevG cv D)::K) w' := by
  obtain ⟨n,hn⟩ : ∃ n,D.st.length = n := ⟨_,rfl⟩
  have hn2 : n ≤ 65536 := by rw [← hn];exact (devOk hS).n2
  have HN : Bx _ := ⟨hn⟩
  rw [hn]
  clear hn
  obtain ⟨T,hT⟩ : ∃ T,plT P b = T := ⟨_,rfl⟩
  have hT2 : T ≤ 20000 := by
    rw [← hT]
    have := plH_le h2
    have := plHd_le h4
    unfold plT plJ
    omega
  have HT : Bx _ := ⟨hT⟩
  rw [hT]
  obtain ⟨m,hm⟩ : ∃ m,plM P = m := ⟨_,rfl⟩
  have HM : Bx _ := ⟨hm⟩
  have hm4 : m ≤ 4 := by rw [← hm];exact plM_le P
  rw [hm]
  clear hT hm
  go_enter Tryd.func36,Tryd.ntmps36
  go_wp2_with (first | (refine alloc hS rfl rfl ?_;clear hS;intro m6 w hS;simp only [putW]) | (guard_target =~ Calls _ 60 _ _ _;refine Stopped.out ?_))
  refine ⟨?_⟩
  (refine Calls.mono (planOf_ok P b h1 h2 h3 h4) ?_;rintro _ w2 ⟨lv,rfl,h2⟩;replace hS := hS.frame h2;clear h2;(try simp only [List.cons_append,List.nil_append] at hS);simp only [putW])
  obtain ⟨q,c,hlv⟩ := restI hS
  subst hlv
  go_upto_region 2 with (first | (refine alloc hS rfl rfl ?_;clear hS;intro m8 w hS;simp only [putW]) | (refine storeAll hS rfl rfl rfl rfl ?_ ?_ ?_ ?_;rfl;(focus (simp [Value.oneCell'];done));rfl;clear hS;intro w hS;try simp only [putW]))
  by_cases c1 : m + 2 ≤ b
  · have e1 : decide ((b : Int) < ((m + 2 : Nat) : Int)) = false := decide_eq_false (by omega)
    have e1n : decide (b < m + 2) = false := decide_eq_false (by omega)
    by_cases c2 : T ≤ n
    · have e2 : decide ((n : Int) < ((plT P b : Nat) : Int)) = false := decide_eq_false (by rw [HT.out];omega)
      have e2n : decide (n < plT P b) = false := decide_eq_false (by rw [HT.out];omega)
      (refine wp_region_held (S := fun w' => Sat w0 ((m8,cells (planV P b (.slice q (nI (plLv P)).length c)).toArray 60)::(m6,cells noPlan.toArray 60)::(blk (.slice q (nI (plLv P)).length c),sl 1 i64 (nI (plLv P)) 3 (.slice q (nI (plLv P)).length c))::K) w') (by kernel_rfl) ?_;replace hS := hS.drew;(refine takeIf (i := 0) rfl (by kernel_rfl) (fun _ _ _ h => h) (yMove rfl rfl rfl) hS.conv ?_;simp only [evW,putW]);(apply takeIf (i := 1) rfl (by kernel_rfl) (fun _ _ _ h => h);(focus (apply yRun rfl;intro w;first | (go_simp;done) | (go_simp;rfl)));(focus (exact hS.conv));simp only [putW]);(refine takeIf (i := 2) rfl (by kernel_rfl) (fun _ _ _ h => h) (yMove rfl rfl rfl) hS.conv ?_;simp only [evW,putW]);(refine takeIf (i := 3) rfl (by kernel_rfl) (fun _ _ _ h => h) (yLoadAll (c := (planV P b (.slice q (nI (plLv P)).length c)).toArray) (fun _ h => h) rfl rfl rfl rfl) hS.conv ?_;simp only [putW]);(refine takeIf (i := 6) rfl (by kernel_rfl) (fun _ _ _ h => h) (yMove rfl rfl rfl) hS.conv ?_;simp only [evW,putW]);refine wpAnyH_all (rs := [4]) (by kernel_rfl) (by simp) ?_;intro i hi;simp only [List.mem_cons,List.not_mem_nil,or_false] at hi;subst hi;refine wpOp_of_list rfl ?_;go_wp2_with (refine buildSlice1 (c := #[.int .i64 0]) hS rfl rfl rfl ?_ ?_ ?_ ?_;rfl;rfl;rfl;clear hS;intro mb w hS;simp only [putW]);refine ⟨rfl,hS.conv,?_⟩;refine wpAnyH_all (rs := [5]) (by kernel_rfl) (by simp) ?_;intro i hi;simp only [List.mem_cons,List.not_mem_nil,or_false] at hi;subst hi;refine wpOp_of_list rfl ?_;go_wp2_with ((go_at_call 61;refine Calls.mono (planNeed0 (w0 := w) (P := P) (va := .slice (some ⟨mb,0,none⟩) 1 1) h1 h2 rfl (hS.readsSl (v := .slice q (nI (plLv P)).length c) (L := nI (plLv P)) fun _ _ => trivial) (oneRead (g := mb) (t := 3) hS)) ?_;rw [HM.out];rintro _ w2 ⟨rfl,h2⟩;replace hS := hS.frame h2;clear h2;(try simp only [List.cons_append,List.nil_append] at hS);simp only [putW]));refine ⟨rfl,hS.conv,?_⟩;(refine takeIf (i := 7) rfl (by kernel_rfl) (fun _ _ _ h => h) (yBinI rfl rfl rfl rfl (gtrI e1)) hS.conv ?_;simp only [putW]);(refine takeIf (i := 8) rfl (by kernel_rfl) (fun _ _ _ h => h) (yMove rfl rfl rfl) hS.conv ?_;simp only [evW,putW]);(refine takeIf (i := 9) rfl (by kernel_rfl) (fun _ _ _ h => h) (yMove rfl rfl rfl) hS.conv ?_;simp only [evW,putW]);(apply takeIf (i := 11) rfl (by kernel_rfl) (fun _ _ _ h => h);(focus (apply yRun rfl;intro w;first | (go_simp;done) | (go_simp;rfl)));(focus (exact hS.conv));simp only [putW]);(refine takeIf (i := 12) rfl (by kernel_rfl) (fun _ _ _ h => h) (yLoad1 (fun _ h => h) rfl rfl rfl rfl) hS.conv ?_;simp only [putW]);refine wpAnyH_all (rs := [10]) (by kernel_rfl) (by simp) ?_;intro i hi;simp only [List.mem_cons,List.not_mem_nil,or_false] at hi;subst hi;refine wpOp_of_list rfl ?_;go_wp2_with ((go_at_call 62;refine Calls.mono (devBlocks_any (hS.conv (S' := (d,DevG cv D)::(m8,cells (planV P b (.slice q (nI (plLv P)).length c)).toArray 60)::(m6,cells noPlan.toArray 60)::(blk (.slice q (nI (plLv P)).length c),sl 1 i64 (nI (plLv P)) 3 (.slice q (nI (plLv P)).length c))::K))) ?_;rw [HN.out];clear hS;rintro _ w ⟨rfl,hS⟩;simp only [putW]));refine ⟨rfl,hS.conv,?_⟩;(refine takeIf (i := 13) rfl (by kernel_rfl) (fun _ _ _ h => h) (yBinI rfl rfl rfl rfl (lssI e2)) hS.conv ?_;simp only [putW]);(apply takeIf (i := 14) rfl (by kernel_rfl) (fun _ _ _ h => h);(focus (apply yRun rfl;intro w;first | (go_simp;done) | (go_simp;rfl)));(focus (exact hS.conv));simp only [putW]);(apply takeIf (i := 15) rfl (by kernel_rfl) (fun _ _ _ h => h);(focus (apply yRun rfl;intro w;first | (go_simp;done) | (go_simp;rfl)));(focus (exact hS.conv));simp only [putW]);refine wpAnyH_done (by kernel_rfl) ?_ _;(go_wp2_with (first | (refine loadAll hS rfl rfl rfl ?_ ?_;rfl;simp only [putW]) | (refine storeAll hS rfl rfl rfl rfl ?_ ?_ ?_ ?_;rfl;(focus (simp [Value.oneCell'];done));rfl;clear hS;intro w hS;try simp only [putW]));have hr := run_loadAll (P := Tryd.prog) hS m6 60 rfl;exact bodyPost_ret (v := .tuple #[.agg (planV P b (.slice q (nI (plLv P)).length c)).toArray,.int .i64 0]) (by simp [results,Tryd.results36,asAddr,hr]) rfl (.inr ⟨.slice q (nI (plLv P)).length c,rfl,⟨c1,c2⟩,hS.conv⟩)))
    · have e2 : decide ((n : Int) < ((plT P b : Nat) : Int)) = true := decide_eq_true (by rw [HT.out];omega)
      have e2n : decide (n < plT P b) = true := decide_eq_true (by rw [HT.out];omega)
      have cno : ¬ (m + 2 ≤ b ∧ T ≤ n) := fun h => c2 h.2
      (refine wp_region_held (S := fun w' => Sat w0 ((m8,cells (planV P b (.slice q (nI (plLv P)).length c)).toArray 60)::(m6,cells noPlan.toArray 60)::(blk (.slice q (nI (plLv P)).length c),sl 1 i64 (nI (plLv P)) 3 (.slice q (nI (plLv P)).length c))::K) w') (by kernel_rfl) ?_;replace hS := hS.drew;(refine takeIf (i := 0) rfl (by kernel_rfl) (fun _ _ _ h => h) (yMove rfl rfl rfl) hS.conv ?_;simp only [evW,putW]);(apply takeIf (i := 1) rfl (by kernel_rfl) (fun _ _ _ h => h);(focus (apply yRun rfl;intro w;first | (go_simp;done) | (go_simp;rfl)));(focus (exact hS.conv));simp only [putW]);(refine takeIf (i := 2) rfl (by kernel_rfl) (fun _ _ _ h => h) (yMove rfl rfl rfl) hS.conv ?_;simp only [evW,putW]);(refine takeIf (i := 3) rfl (by kernel_rfl) (fun _ _ _ h => h) (yLoadAll (c := (planV P b (.slice q (nI (plLv P)).length c)).toArray) (fun _ h => h) rfl rfl rfl rfl) hS.conv ?_;simp only [putW]);(refine takeIf (i := 6) rfl (by kernel_rfl) (fun _ _ _ h => h) (yMove rfl rfl rfl) hS.conv ?_;simp only [evW,putW]);refine wpAnyH_all (rs := [4]) (by kernel_rfl) (by simp) ?_;intro i hi;simp only [List.mem_cons,List.not_mem_nil,or_false] at hi;subst hi;refine wpOp_of_list rfl ?_;go_wp2_with (refine buildSlice1 (c := #[.int .i64 0]) hS rfl rfl rfl ?_ ?_ ?_ ?_;rfl;rfl;rfl;clear hS;intro mb w hS;simp only [putW]);refine ⟨rfl,hS.conv,?_⟩;refine wpAnyH_all (rs := [5]) (by kernel_rfl) (by simp) ?_;intro i hi;simp only [List.mem_cons,List.not_mem_nil,or_false] at hi;subst hi;refine wpOp_of_list rfl ?_;go_wp2_with ((go_at_call 61;refine Calls.mono (planNeed0 (w0 := w) (P := P) (va := .slice (some ⟨mb,0,none⟩) 1 1) h1 h2 rfl (hS.readsSl (v := .slice q (nI (plLv P)).length c) (L := nI (plLv P)) fun _ _ => trivial) (oneRead (g := mb) (t := 3) hS)) ?_;rw [HM.out];rintro _ w2 ⟨rfl,h2⟩;replace hS := hS.frame h2;clear h2;(try simp only [List.cons_append,List.nil_append] at hS);simp only [putW]));refine ⟨rfl,hS.conv,?_⟩;(refine takeIf (i := 7) rfl (by kernel_rfl) (fun _ _ _ h => h) (yBinI rfl rfl rfl rfl (gtrI e1)) hS.conv ?_;simp only [putW]);(refine takeIf (i := 8) rfl (by kernel_rfl) (fun _ _ _ h => h) (yMove rfl rfl rfl) hS.conv ?_;simp only [evW,putW]);(refine takeIf (i := 9) rfl (by kernel_rfl) (fun _ _ _ h => h) (yMove rfl rfl rfl) hS.conv ?_;simp only [evW,putW]);(apply takeIf (i := 11) rfl (by kernel_rfl) (fun _ _ _ h => h);(focus (apply yRun rfl;intro w;first | (go_simp;done) | (go_simp;rfl)));(focus (exact hS.conv));simp only [putW]);(refine takeIf (i := 12) rfl (by kernel_rfl) (fun _ _ _ h => h) (yLoad1 (fun _ h => h) rfl rfl rfl rfl) hS.conv ?_;simp only [putW]);refine wpAnyH_all (rs := [10]) (by kernel_rfl) (by simp) ?_;intro i hi;simp only [List.mem_cons,List.not_mem_nil,or_false] at hi;subst hi;refine wpOp_of_list rfl ?_;go_wp2_with ((go_at_call 62;refine Calls.mono (devBlocks_any (hS.conv (S' := (d,DevG cv D)::(m8,cells (planV P b (.slice q (nI (plLv P)).length c)).toArray 60)::(m6,cells noPlan.toArray 60)::(blk (.slice q (nI (plLv P)).length c),sl 1 i64 (nI (plLv P)) 3 (.slice q (nI (plLv P)).length c))::K))) ?_;rw [HN.out];clear hS;rintro _ w ⟨rfl,hS⟩;simp only [putW]));refine ⟨rfl,hS.conv,?_⟩;(refine takeIf (i := 13) rfl (by kernel_rfl) (fun _ _ _ h => h) (yBinI rfl rfl rfl rfl (lssI e2)) hS.conv ?_;simp only [putW]);(apply takeIf (i := 14) rfl (by kernel_rfl) (fun _ _ _ h => h);(focus (apply yRun rfl;intro w;first | (go_simp;done) | (go_simp;rfl)));(focus (exact hS.conv));simp only [putW]);(apply takeIf (i := 15) rfl (by kernel_rfl) (fun _ _ _ h => h);(focus (apply yRun rfl;intro w;first | (go_simp;done) | (go_simp;rfl)));(focus (exact hS.conv));simp only [putW]);refine wpAnyH_done (by kernel_rfl) ?_ _;(go_wp2_with (refine storeAll hS rfl rfl rfl rfl ?_ ?_ ?_ ?_;rfl;(focus (simp [Value.oneCell'];done));rfl;clear hS;intro w hS;try simp only [putW]);have hr := run_loadAll (P := Tryd.prog) hS m6 60 rfl;exact bodyPost_ret (v := .tuple #[.agg noPlan.toArray,.int .i64 1]) (by simp [results,Tryd.results36,asAddr,hr]) rfl (.inl ⟨rfl,cno,hS.conv⟩)))
  · have e1 : decide ((b : Int) < ((m + 2 : Nat) : Int)) = true := decide_eq_true (by omega)
    have e1n : decide (b < m + 2) = true := decide_eq_true (by omega)
    have cno : ¬ (m + 2 ≤ b ∧ T ≤ n) := fun h => c1 h.1
    (refine wp_region_held (S := fun w' => Sat w0 ((m8,cells (planV P b (.slice q (nI (plLv P)).length c)).toArray 60)::(m6,cells noPlan.toArray 60)::(blk (.slice q (nI (plLv P)).length c),sl 1 i64 (nI (plLv P)) 3 (.slice q (nI (plLv P)).length c))::K) w') (by kernel_rfl) ?_;replace hS := hS.drew;(refine takeIf (i := 0) rfl (by kernel_rfl) (fun _ _ _ h => h) (yMove rfl rfl rfl) hS.conv ?_;simp only [evW,putW]);(apply takeIf (i := 1) rfl (by kernel_rfl) (fun _ _ _ h => h);(focus (apply yRun rfl;intro w;first | (go_simp;done) | (go_simp;rfl)));(focus (exact hS.conv));simp only [putW]);(refine takeIf (i := 2) rfl (by kernel_rfl) (fun _ _ _ h => h) (yMove rfl rfl rfl) hS.conv ?_;simp only [evW,putW]);(refine takeIf (i := 3) rfl (by kernel_rfl) (fun _ _ _ h => h) (yLoadAll (c := (planV P b (.slice q (nI (plLv P)).length c)).toArray) (fun _ h => h) rfl rfl rfl rfl) hS.conv ?_;simp only [putW]);(refine takeIf (i := 6) rfl (by kernel_rfl) (fun _ _ _ h => h) (yMove rfl rfl rfl) hS.conv ?_;simp only [evW,putW]);refine wpAnyH_all (rs := [4]) (by kernel_rfl) (by simp) ?_;intro i hi;simp only [List.mem_cons,List.not_mem_nil,or_false] at hi;subst hi;refine wpOp_of_list rfl ?_;go_wp2_with (refine buildSlice1 (c := #[.int .i64 0]) hS rfl rfl rfl ?_ ?_ ?_ ?_;rfl;rfl;rfl;clear hS;intro mb w hS;simp only [putW]);refine ⟨rfl,hS.conv,?_⟩;refine wpAnyH_all (rs := [5]) (by kernel_rfl) (by simp) ?_;intro i hi;simp only [List.mem_cons,List.not_mem_nil,or_false] at hi;subst hi;refine wpOp_of_list rfl ?_;go_wp2_with ((go_at_call 61;refine Calls.mono (planNeed0 (w0 := w) (P := P) (va := .slice (some ⟨mb,0,none⟩) 1 1) h1 h2 rfl (hS.readsSl (v := .slice q (nI (plLv P)).length c) (L := nI (plLv P)) fun _ _ => trivial) (oneRead (g := mb) (t := 3) hS)) ?_;rw [HM.out];rintro _ w2 ⟨rfl,h2⟩;replace hS := hS.frame h2;clear h2;(try simp only [List.cons_append,List.nil_append] at hS);simp only [putW]));refine ⟨rfl,hS.conv,?_⟩;(refine takeIf (i := 7) rfl (by kernel_rfl) (fun _ _ _ h => h) (yBinI rfl rfl rfl rfl (gtrI e1)) hS.conv ?_;simp only [putW]);(refine takeIf (i := 8) rfl (by kernel_rfl) (fun _ _ _ h => h) (yMove rfl rfl rfl) hS.conv ?_;simp only [evW,putW]);(refine takeIf (i := 9) rfl (by kernel_rfl) (fun _ _ _ h => h) (yNot rfl) hS.conv ?_;simp only [putW]);(refine takeIf (i := 10) rfl (by kernel_rfl) (fun _ _ _ h => h) (yNot rfl) hS.conv ?_;simp only [putW]);(refine takeIf (i := 11) rfl (by kernel_rfl) (fun _ _ _ h => h) (yNot rfl) hS.conv ?_;simp only [putW]);(refine takeIf (i := 12) rfl (by kernel_rfl) (fun _ _ _ h => h) (yNot rfl) hS.conv ?_;simp only [putW]);(refine takeIf (i := 13) rfl (by kernel_rfl) (fun _ _ _ h => h) (yNot rfl) hS.conv ?_;simp only [putW]);(apply takeIf (i := 14) rfl (by kernel_rfl) (fun _ _ _ h => h);(focus (apply yRun rfl;intro w;first | (go_simp;done) | (go_simp;rfl)));(focus (exact hS.conv));simp only [putW]);(apply takeIf (i := 15) rfl (by kernel_rfl) (fun _ _ _ h => h);(focus (apply yRun rfl;intro w;first | (go_simp;done) | (go_simp;rfl)));(focus (exact hS.conv));simp only [putW]);refine wpAnyH_done (by kernel_rfl) ?_ _;(go_wp2_with (refine storeAll hS rfl rfl rfl rfl ?_ ?_ ?_ ?_;rfl;(focus (simp [Value.oneCell'];done));rfl;clear hS;intro w hS;try simp only [putW]);have hr := run_loadAll (P := Tryd.prog) hS m6 60 rfl;exact bodyPost_ret (v := .tuple #[.agg noPlan.toArray,.int .i64 1]) (by simp [results,Tryd.results36,asAddr,hr]) rfl (.inl ⟨rfl,cno,hS.conv⟩)))
/-- Chunks as one. -/
def pkC (T : List Chunk) : Sl.K := fun _ h => holds T h
theorem packed {T : List Chunk} (j : Nat) (h : Sat w0 (T ++ F) w) : Sat w0 ((j,pkC T)::F) w := h.close fun _ h => h
theorem unpacked {T : List Chunk} {j : Nat} (h : Sat w0 ((j,pkC T)::F) w) : Sat w0 (T ++ F) w := h.open fun _ h => h
/-- What fit says: the plan's cells, the code, what was made. -/
def FitR (n : Nat) (P b : Int) (pl : List Value) (e : Int) (T : List Chunk) : Prop :=
  (pl = noPlan ∧ e = 1 ∧ ¬ fits n P b ∧ T = []) ∨ ∃ q c,pl = planV P.toNat b.toNat (.slice q (nI (plLv P.toNat)).length c) ∧ e = 0 ∧ fits n P b ∧ T = [(blk (.slice q (nI (plLv P.toNat)).length c),sl 1 i64 (nI (plLv P.toNat)) 3 (.slice q (nI (plLv P.toNat)).length c))]
theorem FitR.len {n : Nat} {P b : Int} {pl : List Value} {e : Int} {T : List Chunk} (h : FitR n P b pl e T) : pl.length = 10 := by
  rcases h with ⟨rfl,_⟩ | ⟨q,c,rfl,_⟩ <;> rfl
theorem FitR.one {n : Nat} {P b : Int} {pl : List Value} {e : Int} {T : List Chunk} (h : FitR n P b pl e T) : ∀ u ∈ pl.toArray.toList,u.oneCell' = true := by
  rcases h with ⟨rfl,_⟩ | ⟨q,c,rfl,_⟩ <;> simp [noPlan,planV,Value.oneCell']
theorem fit_all {P b : Int} (hS : Sat w0 ((d,DevG cv D)::K) w) : Calls Tryd.prog 36 #[.pointer (some ⟨d,0,none⟩),.int .i64 P,.int .i64 b] w fun e' w' => ∃ pl e T,FitR D.st.length P b pl e T ∧ e' = .returned (.tuple #[.agg pl.toArray,.int .i64 e]) ∧ Sat w0 ((9,pkC T)::(d,DevG cv D)::K) w' := by
  by_cases h : okPB P b
  · have h' := h
    obtain ⟨h1,h2,h3,h4⟩ := h'
    have eP : ((P.toNat : Nat) : Int) = P := Int.toNat_of_nonneg (by omega)
    have eb : ((b.toNat : Nat) : Int) = b := Int.toNat_of_nonneg (by omega)
    have hf := fit_any (P := P.toNat) (b := b.toNat) (by omega) (by omega) (by omega) (by omega) hS
    rw [eP,eb] at hf
    refine hf.mono fun e' w' hh => ?_
    rcases hh with ⟨rfl,hn,h5⟩ | ⟨lv,rfl,hn,h5⟩
    · refine ⟨noPlan,1,[],.inl ⟨rfl,rfl,fun hf => hn ⟨by have := hf.2.1;omega,hf.2.2⟩,rfl⟩,rfl,packed (T := []) 9 h5⟩
    · obtain ⟨q,c,rfl⟩ := restI h5
      exact ⟨_,0,_,.inr ⟨q,c,rfl,rfl,⟨h,by have := hn.1;omega,hn.2⟩,rfl⟩,rfl,packed (T := [_]) 9 h5⟩
  · exact (fit_bad h hS).mono fun e' w' hh => ⟨noPlan,1,[],.inl ⟨rfl,rfl,fun hf => h hf.1,rfl⟩,hh.1,packed (T := []) 9 hh.2⟩
end
end Go.Proofs.YtdkimdobcacpfaaDoor
namespace Go.Proofs.YtdkimdobcacpfaaDoor
open Go.RowKit Go.Proofs.YtdkimdobcacpfaaDoor.Sl Go.Proofs.YtdkimdobcacpfaaDoor.Sha Go.Proofs.YtdkimdobcacpfaaDoor.Jp Go.Proofs.YtdkimdobcacpfaaDoor.Tr Go.Proofs.YtdkimdobcacpfaaDoor.Dv

section
variable {w0 w : World} {K F S : List Chunk} {d r : Nat} {D : Dev} {cv : Value} {R : Rg}
abbrev knRes (R : Rg) (pl : List Value) (e : Int) : Value := .tuple #[.agg (stV R).toArray,.agg pl.toArray,.int .i64 e]
theorem stOne (R : Rg) : ∀ u ∈ (stV R).toArray.toList,u.oneCell' = true := stV_one R
set_option maxRecDepth 100000 in
set_option maxHeartbeats 4000000 in
theorem known_blank (hR : R.Wf) (h0 : R.pages = 0) (hS : Sat w0 ((r,RegC d R)::(d,DevG cv D)::K) w) : Calls Tryd.prog 28 #[.pointer (some ⟨d,0,none⟩),.pointer (some ⟨r,0,none⟩)] w fun e w' => e = .returned (knRes R noPlan 8) ∧ Sat w0 ((r,RegC d R)::(d,DevG cv D)::K) w' := by
  have HL : Bx ((stV R).toArray.size = 72) := ⟨by rw [List.size_toArray];exact stV_len hR⟩
  have HC : Bx (CellIs (stV R).toArray 0 (.int .i64 0)) := ⟨by rw [← h0];exact stCell0 R⟩
  clear h0
  go_enter Tryd.func28,Tryd.ntmps28
  go_wp2_with (first | (refine allocS (t := 28) hS rfl rfl (stV st0).toArray st0_cells ?_;clear hS;intro m4 w hS;simp only [putW]) | (refine alloc (t := 60) hS rfl rfl ?_;clear hS;intro m5 w hS;simp only [putW]) | (guard_target =~ Calls _ 35 _ _ _;refine Stopped.out ?_))
  refine ⟨?_⟩
  refine Calls.mono (regRead_any hR (hS.pull r (X := RegC d R))) ?_
  clear hS
  rintro _ w ⟨rfl,hS⟩
  simp only [putW]
  go_wp2_with (first | (refine allocS (t := 28) hS rfl rfl (stV st0).toArray st0_cells ?_;clear hS;intro m7 w hS;simp only [putW]) | (refine storeAll (cs := (stV R).toArray) hS rfl rfl rfl rfl HL.out (stOne R) st0_len ?_;clear hS;intro w hS;try simp only [putW]) | (refine loadC (c := (stV R).toArray) hS rfl rfl rfl HC.out ?_;simp only [putW]) | (refine loadAll (c := (stV R).toArray) hS rfl rfl rfl HL.out ?_;simp only [putW]) | (refine storeAll hS rfl rfl rfl rfl ?_ ?_ ?_ ?_;rfl;(focus (simp [Value.oneCell'];done));rfl;clear hS;intro w hS;try simp only [putW]))
  have h1 := run_loadAll (P := Tryd.prog) hS m4 28 HL.out
  have h2 := run_loadAll (P := Tryd.prog) hS m5 60 rfl
  exact bodyPost_ret (v := knRes R noPlan 8) (by simp [results,Tryd.results28,asAddr,h1,h2]) rfl ⟨rfl,hS.conv⟩
set_option maxRecDepth 100000 in
set_option maxHeartbeats 8000000 in
theorem known_any (hR : R.Wf) (h0 : R.pages ≠ 0) (hS : Sat w0 ((r,RegC d R)::(d,DevG cv D)::K) w) :
    Calls Tryd.prog 28 #[.pointer (some ⟨d,0,none⟩),.pointer (some ⟨r,0,none⟩)] w fun e' w' => ∃ pl e T,FitR D.st.length R.pages R.budget pl e T ∧ e' = .returned (knRes R pl e) ∧ Sat w0 ((9,pkC T)::(r,RegC d R)::(d,DevG cv D)::K) w' := by
  have HL : Bx ((stV R).toArray.size = 72) := ⟨by rw [List.size_toArray];exact stV_len hR⟩
  have HC0 : Bx (CellIs (stV R).toArray 0 (.int .i64 R.pages)) := ⟨stCell0 R⟩
  have HC1 : Bx (CellIs (stV R).toArray 1 (.int .i64 R.budget)) := ⟨stCell1 R⟩
  have d0 : decide (R.pages = 0) = false := decide_eq_false h0
  have d0b : (R.pages == 0) = false := by simpa using h0
  clear h0
  go_enter Tryd.func28,Tryd.ntmps28
  go_wp2_with (first | (refine allocS (t := 28) hS rfl rfl (stV st0).toArray st0_cells ?_;clear hS;intro m4 w hS;simp only [putW]) | (refine alloc (t := 60) hS rfl rfl ?_;clear hS;intro m5 w hS;simp only [putW]) | (guard_target =~ Calls _ 35 _ _ _;refine Stopped.out ?_))
  refine ⟨?_⟩
  refine Calls.mono (regRead_any hR (hS.pull r (X := RegC d R))) ?_
  clear hS
  rintro _ w ⟨rfl,hS⟩
  simp only [putW]
  go_wp2_with (first | (refine allocS (t := 28) hS rfl rfl (stV st0).toArray st0_cells ?_;clear hS;intro m7 w hS;simp only [putW]) | (refine storeAll (cs := (stV R).toArray) hS rfl rfl rfl rfl HL.out (stOne R) st0_len ?_;clear hS;intro w hS;try simp only [putW]) | (refine loadC (c := (stV R).toArray) hS rfl rfl rfl HC0.out ?_;simp only [putW]) | (refine loadC (c := (stV R).toArray) hS rfl rfl rfl HC1.out ?_;simp only [putW]) | (guard_target =~ Calls _ 36 _ _ _;refine Stopped.out ?_))
  refine ⟨?_⟩
  refine Calls.mono (fit_all (P := R.pages) (b := R.budget) (hS.pull d (X := DevG cv D))) ?_
  clear hS
  rintro _ w ⟨pl,e,T,hF,rfl,hS⟩
  simp only [putW]
  have HF : Bx _ := ⟨hF⟩
  have HPl : Bx (pl.toArray.size = 10) := ⟨by rw [List.size_toArray];exact hF.len⟩
  have HP1 : Bx _ := ⟨hF.one⟩
  clear hF
  go_upto_region 7 with (first | (refine alloc (t := 60) hS rfl rfl ?_;clear hS;intro m8 w hS;simp only [putW]) | (refine storeAll (cs := pl.toArray) hS rfl rfl rfl rfl HPl.out HP1.out ?_ ?_;(focus rfl);clear hS;intro w hS;try simp only [putW]))
  (refine wp_region_held (S := fun w' => Sat w0 ((m8,cells pl.toArray 60)::(m7,cells (stV R).toArray 28)::(9,pkC T)::(r,RegC d R)::(d,DevG cv D)::K) w') (by kernel_rfl) ?_;replace hS := hS.drew;(refine takeIf (i := 0) rfl (by kernel_rfl) (fun _ _ _ h => h) (yLoadAll (c := (stV R).toArray) (fun _ h => h) rfl rfl rfl HL.out) hS.conv ?_;simp only [putW]);(refine takeIf (i := 1) rfl (by kernel_rfl) (fun _ _ _ h => h) (yLoadAll (c := pl.toArray) (fun _ h => h) rfl rfl rfl HPl.out) hS.conv ?_;simp only [putW]);(refine takeIf (i := 2) rfl (by kernel_rfl) (fun _ _ _ h => h) (yMove rfl rfl rfl) hS.conv ?_;simp only [evW,putW]);refine wpAnyH_all (rs := [3]) (by kernel_rfl) (by simp) ?_;intro i hi;simp only [List.mem_cons,List.not_mem_nil,or_false] at hi;subst hi;refine wpOp_of_list rfl ?_;go_wp2_with (refine storeAll (b := m4) (cs := (stV R).toArray) hS rfl rfl rfl rfl HL.out (stOne R) st0_len ?_;clear hS;intro w hS;try simp only [putW]);refine ⟨rfl,hS.conv,?_⟩;refine wpAnyH_all (rs := [4]) (by kernel_rfl) (by simp) ?_;intro i hi;simp only [List.mem_cons,List.not_mem_nil,or_false] at hi;subst hi;refine wpOp_of_list rfl ?_;go_wp2_with (refine storeAll (b := m5) (cs := pl.toArray) hS rfl rfl rfl rfl HPl.out HP1.out ?_ ?_;(focus rfl);clear hS;intro w hS;try simp only [putW]);refine ⟨rfl,hS.conv,?_⟩;(apply takeIf (i := 5) rfl (by kernel_rfl) (fun _ _ _ h => h);(focus (apply yRun rfl;intro w;first | (go_simp;done) | (go_simp;rfl)));(focus (exact hS.conv));simp only [putW]);refine wpAnyH_done (by kernel_rfl) ?_ _;(go_wp2_with (refine load1 hS rfl rfl rfl rfl ?_;simp only [putW]);have h1 := run_loadAll (P := Tryd.prog) hS m4 28 HL.out;have h2 := run_loadAll (P := Tryd.prog) hS m5 60 HPl.out;exact bodyPost_ret (v := knRes R pl e) (by simp [results,Tryd.results28,asAddr,h1,h2]) rfl ⟨pl,e,T,HF.out,rfl,hS.conv⟩))
end
end Go.Proofs.YtdkimdobcacpfaaDoor
