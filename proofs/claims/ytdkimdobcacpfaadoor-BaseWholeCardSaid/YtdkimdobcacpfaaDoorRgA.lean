/-
  Two states held against each other.
  reg: Right, Follows, New, Read, Write.
-/
import Derived.Test.YtdkimdobcacpfaaDoorDvPl
import Derived.Test.YtdkimdobcacpfaaDoorShEq
import Derived.Test.YtdkimdobcacpfaaDoorSlS
import Derived.Test.YtdkimdobcacpfaaDoorDvA
set_option linter.unusedSimpArgs false
set_option linter.unusedVariables false
namespace Go.Proofs.YtdkimdobcacpfaaDoor
open Go.RowKit Go.Proofs.YtdkimdobcacpfaaDoor.Sl Go.Proofs.YtdkimdobcacpfaaDoor.Sha Go.Proofs.YtdkimdobcacpfaaDoor.Jp Go.Proofs.YtdkimdobcacpfaaDoor.Tr Go.Proofs.YtdkimdobcacpfaaDoor.Dv

def stV (s : Rg) : List Value := .int .i64 s.pages::.int .i64 s.budget::.bool s.wide::.int .u32 s.boot::.int .u64 s.version::.int .u32 s.epoch::.int .i64 s.cursor::.bool s.busy::(s.root.map u8v ++ s.mark.map u8v)
def stSeg (s : Rg) : List (List Value) := [[.int .i64 s.pages],[.int .i64 s.budget],[.bool s.wide],[.int .u32 s.boot],[.int .u64 s.version],[.int .u32 s.epoch],[.int .i64 s.cursor],[.bool s.busy],s.root.map u8v,s.mark.map u8v]
theorem stSeg_flat (s : Rg) : (stSeg s).flatten = stV s := by simp [stSeg,stV]
theorem stV_len {s : Rg} (h : s.Wf) : (stV s).length = 72 := by simp [stV,h.root.1,h.mark.1]
theorem litI {q : IntKind} {n : Int} (h1 : q.min ≤ n) (h2 : n ≤ q.max) : (Lit.int q n).wf = true := by
  show (decide (q.min ≤ n) && decide (n ≤ q.max)) = true
  simp [h1,h2]
def digL (A : List Int) : List Lit := (List.range 32).map fun i => Lit.int .u8 (A.getD i 0)
theorem digL_inj {A B : List Int} (hA : A.length = 32) (hB : B.length = 32) (h : digL A = digL B) : A = B := by
  apply List.ext_getElem (by rw [hA,hB])
  intro i h1 h2
  have h3 := congrArg (fun l => l[i]?) h
  unfold digL at h3
  simp [hA ▸ h1] at h3
  simpa [h1,h2] using h3
theorem cellsSt : Tryd.prog.cellsOf 28 = 72 := by kernel_rfl
theorem litsI64 {n : Int} (h : -9223372036854775808 ≤ n ∧ n < 9223372036854775808) : Tryd.prog.keyLits 3 3 [.int .i64 n] = some [.int .i64 n] := by
  unfold Program.keyLits
  rw [Tryd.underlying3]
  simp only [litI (q := .i64) h.1 (by show n ≤ 9223372036854775807;omega),and_self,if_true]
theorem litsU32 {n : Int} (h : 0 ≤ n ∧ n < 4294967296) : Tryd.prog.keyLits 3 22 [.int .u32 n] = some [.int .u32 n] := by
  unfold Program.keyLits
  rw [Tryd.underlying22]
  simp only [litI (q := .u32) h.1 (by show n ≤ 4294967295;omega),and_self,if_true]
theorem litsU64 {n : Int} (h : 0 ≤ n ∧ n < 18446744073709551616) : Tryd.prog.keyLits 3 23 [.int .u64 n] = some [.int .u64 n] := by
  unfold Program.keyLits
  rw [Tryd.underlying23]
  simp only [litI (q := .u64) h.1 (by show n ≤ 18446744073709551615;omega),and_self,if_true]
theorem litsB (b : Bool) : Tryd.prog.keyLits 3 4 [.bool b] = some [.bool b] := by
  unfold Program.keyLits
  rw [Tryd.underlying4]
def stL (s : Rg) : List Lit := [.int .i64 s.pages,.int .i64 s.budget,.bool s.wide,.int .u32 s.boot,.int .u64 s.version,.int .u32 s.epoch,.int .i64 s.cursor,.bool s.busy] ++ digL s.root ++ digL s.mark
theorem litsSt {s : Rg} (h : s.Wf) : Tryd.prog.keyLits 4 28 (stV s) = some (stL s) := by
  have hr := lits32 h.root.1 h.root.2
  have hm := lits32 h.mark.1 h.mark.2
  have e1 : ((stV s).drop 8).take 32 = s.root.map u8v := by
    show (s.root.map u8v ++ s.mark.map u8v).take 32 = _
    rw [List.take_left' (by rw [List.length_map];exact h.root.1)]
  have e2 : ((stV s).drop 40).take 32 = s.mark.map u8v := by
    show ((s.root.map u8v ++ s.mark.map u8v).drop 32).take 32 = _
    rw [List.drop_left' (by rw [List.length_map];exact h.root.1),List.take_of_length_le (by rw [List.length_map,h.mark.1];exact Nat.le_refl _)]
  have c1 : Tryd.prog.cellsOf 3 = 1 := by kernel_rfl
  have c2 : Tryd.prog.cellsOf 4 = 1 := by kernel_rfl
  have c3 : Tryd.prog.cellsOf 22 = 1 := by kernel_rfl
  have c4 : Tryd.prog.cellsOf 23 = 1 := by kernel_rfl
  have f0 : Tryd.prog.keyLits 3 3 (((stV s).drop 0).take (Tryd.prog.cellsOf 3)) = some [.int .i64 s.pages] := by rw [c1];exact litsI64 h.pages
  have f1 : Tryd.prog.keyLits 3 3 (((stV s).drop 1).take (Tryd.prog.cellsOf 3)) = some [.int .i64 s.budget] := by rw [c1];exact litsI64 h.budget
  have f2 : Tryd.prog.keyLits 3 4 (((stV s).drop 2).take (Tryd.prog.cellsOf 4)) = some [.bool s.wide] := by rw [c2];exact litsB s.wide
  have f3 : Tryd.prog.keyLits 3 22 (((stV s).drop 3).take (Tryd.prog.cellsOf 22)) = some [.int .u32 s.boot] := by rw [c3];exact litsU32 h.boot
  have f4 : Tryd.prog.keyLits 3 23 (((stV s).drop 4).take (Tryd.prog.cellsOf 23)) = some [.int .u64 s.version] := by rw [c4];exact litsU64 h.version
  have f5 : Tryd.prog.keyLits 3 22 (((stV s).drop 5).take (Tryd.prog.cellsOf 22)) = some [.int .u32 s.epoch] := by rw [c3];exact litsU32 h.epoch
  have f6 : Tryd.prog.keyLits 3 3 (((stV s).drop 6).take (Tryd.prog.cellsOf 3)) = some [.int .i64 s.cursor] := by rw [c1];exact litsI64 h.cursor
  have f7 : Tryd.prog.keyLits 3 4 (((stV s).drop 7).take (Tryd.prog.cellsOf 4)) = some [.bool s.busy] := by rw [c2];exact litsB s.busy
  have f8 : Tryd.prog.keyLits 3 26 (((stV s).drop 8).take (Tryd.prog.cellsOf 26)) = some (digL s.root) := by rw [cells32,e1];exact hr
  have f9 : Tryd.prog.keyLits 3 26 (((stV s).drop 40).take (Tryd.prog.cellsOf 26)) = some (digL s.mark) := by rw [cells32,e2];exact hm
  have hl := stV_len h
  unfold Program.keyLits
  rw [Tryd.underlying28]
  obtain ⟨v0,v1,vr,hs⟩ : ∃ a b r,stV s = a::b::r := ⟨_,_,_,rfl⟩
  rw [hs]
  simp only []
  rw [← hs,if_pos ⟨by rw [hl,cellsSt],by kernel_rfl⟩]
  simp only [List.mapM_cons,List.mapM_nil,f0,f1,f2,f3,f4,f5,f6,f7,f8,f9]
  simp [stL]
theorem stL_inj {s t : Rg} (hs : s.Wf) (ht : t.Wf) (h : stL s = stL t) : s = t := by
  obtain ⟨a1,a2,a3,a4,a5,a6,a7,a8,a9,a10⟩ := s
  obtain ⟨b1,b2,b3,b4,b5,b6,b7,b8,b9,b10⟩ := t
  simp only [stL,List.cons_append,List.nil_append,List.cons.injEq,Lit.int.injEq,Lit.bool.injEq,true_and] at h
  obtain ⟨rfl,rfl,rfl,rfl,rfl,rfl,rfl,rfl,h⟩ := h
  have h1 := List.append_inj h (by simp [digL])
  have h2 := digL_inj hs.root.1 ht.root.1 h1.1
  have h3 := digL_inj hs.mark.1 ht.mark.1 h1.2
  subst h2;subst h3
  rfl
set_option maxRecDepth 100000 in
theorem eqSt {s t : Rg} (hs : s.Wf) (ht : t.Wf) (w : World) : (Op.equalIn 10000 28 (.agg (stV s).toArray) (.agg (stV t).toArray)).run Tryd.prog w = .ok (decide (s = t)) w := by
  have hf : ∀ {s : Rg},s.Wf → (Value.agg (stV s).toArray).formed Tryd.prog 28 = true := fun {s} h => by
    unfold Value.formed
    rw [Tryd.underlying28]
    simp [stV_len h,cellsSt]
  obtain ⟨r,hr,hiff⟩ := run_equalIn_deep (P := Tryd.prog) 9996 4 28 (by kernel_rfl) w 4 4 (.agg (stV s).toArray) (.agg (stV t).toArray) _ _ (hf hs) (hf ht) (litsSt hs) (litsSt ht)
  rw [hr]
  congr 1
  rw [Bool.eq_iff_iff,hiff,decide_eq_true_eq]
  exact ⟨fun h => stL_inj hs ht h,fun h => by rw [h]⟩
end Go.Proofs.YtdkimdobcacpfaaDoor
namespace Go.Proofs.YtdkimdobcacpfaaDoor
open Go.RowKit Go.Proofs.YtdkimdobcacpfaaDoor.Sl Go.Proofs.YtdkimdobcacpfaaDoor.Sha Go.Proofs.YtdkimdobcacpfaaDoor.Jp Go.Proofs.YtdkimdobcacpfaaDoor.Tr Go.Proofs.YtdkimdobcacpfaaDoor.Dv

theorem st0_cells : (List.replicate 2 (Value.int .i64 0) ++ [Value.bool false] ++ [Value.int .u32 0] ++ [Value.int .u64 0] ++ [Value.int .u32 0] ++ [Value.int .i64 0] ++ [Value.bool false] ++ List.replicate 64 (Value.int .u8 0)).toArray = (stV st0).toArray := by kernel_rfl
set_option maxRecDepth 100000 in
instance : StrT Tryd.prog 28 (stSeg st0) := StrT.mk' Tryd.underlying28 (by kernel_rfl) (pl := #[(0,1),(1,1),(2,1),(3,1),(4,1),(5,1),(6,1),(7,1),(8,32),(40,32)]) (fun w => by go_simp) (by kernel_rfl)
theorem stCell0 (s : Rg) : CellIs (stV s).toArray 0 (.int .i64 s.pages) := ⟨by simp [stV]⟩
theorem stCell1 (s : Rg) : CellIs (stV s).toArray 1 (.int .i64 s.budget) := ⟨by simp [stV]⟩
theorem stCell2 (s : Rg) : CellIs (stV s).toArray 2 (.bool s.wide) := ⟨by simp [stV]⟩
theorem stCell3 (s : Rg) : CellIs (stV s).toArray 3 (.int .u32 s.boot) := ⟨by simp [stV]⟩
theorem stCell4 (s : Rg) : CellIs (stV s).toArray 4 (.int .u64 s.version) := ⟨by simp [stV]⟩
theorem stCell5 (s : Rg) : CellIs (stV s).toArray 5 (.int .u32 s.epoch) := ⟨by simp [stV]⟩
theorem stCell6 (s : Rg) : CellIs (stV s).toArray 6 (.int .i64 s.cursor) := ⟨by simp [stV]⟩
theorem stCell7 (s : Rg) : CellIs (stV s).toArray 7 (.bool s.busy) := ⟨by simp [stV]⟩
/-- A register at a device. -/
def RegC (d : Nat) (R : Rg) : K := cells (.pointer (some ⟨d,0,none⟩)::stV R).toArray 114
section
variable {w0 w : World} {K F S : List Chunk} {d r : Nat} {D : Dev} {cv : Value} {s R : Rg} {A B : Rg}
set_option maxRecDepth 100000 in
set_option maxHeartbeats 4000000 in
theorem right_any : Calls Tryd.prog 71 #[.agg (stV s).toArray] w0 fun e w' => e = .returned (.bool s.right) ∧ Sat w0 [] w' := by
  have hS := Sat.refl w0
  obtain ⟨b,hb⟩ : ∃ b,s.right = b := ⟨_,rfl⟩
  rw [hb]
  unfold Rg.right at hb
  by_cases h1 : 1 ≤ s.pages
  rotate_left
  · have hb : b = false := by rw [← hb];simp [h1]
    subst hb
    have d1 : decide (1 ≤ s.pages) = false := decide_eq_false h1
    go_enter Tryd.func71,Tryd.ntmps71
    go_wp2_with (first | (refine loadC hS rfl rfl rfl (stCell0 s) ?_;simp only [putW]) | (refine boxN hS rfl rfl rfl ?_;clear hS;intro mb w hS;simp only [putW]))
    go_ret
    exact ⟨rfl,hS.nothing⟩
  by_cases h2 : s.pages ≤ 4096
  rotate_left
  · have hb : b = false := by rw [← hb];simp [h2]
    subst hb
    have d1 : decide (1 ≤ s.pages) = true := decide_eq_true h1
    have d2 : decide (s.pages ≤ 4096) = false := decide_eq_false h2
    go_enter Tryd.func71,Tryd.ntmps71
    go_wp2_with (first | (refine loadC hS rfl rfl rfl (stCell0 s) ?_;simp only [putW]) | (refine boxN hS rfl rfl rfl ?_;clear hS;intro mb w hS;simp only [putW]))
    go_ret
    exact ⟨rfl,hS.nothing⟩
  by_cases h3 : 1 ≤ s.budget
  rotate_left
  · have hb : b = false := by rw [← hb];simp [h3]
    subst hb
    have d1 : decide (1 ≤ s.pages) = true := decide_eq_true h1
    have d2 : decide (s.pages ≤ 4096) = true := decide_eq_true h2
    have d3 : decide (1 ≤ s.budget) = false := decide_eq_false h3
    go_enter Tryd.func71,Tryd.ntmps71
    go_wp2_with (first | (refine loadC hS rfl rfl rfl (stCell0 s) ?_;simp only [putW]) | (refine loadC hS rfl rfl rfl (stCell1 s) ?_;simp only [putW]) | (refine boxN hS rfl rfl rfl ?_;clear hS;intro mb w hS;simp only [putW]))
    go_ret
    exact ⟨rfl,hS.nothing⟩
  by_cases h4 : s.budget ≤ 256
  rotate_left
  · have hb : b = false := by rw [← hb];simp [h4]
    subst hb
    have d1 : decide (1 ≤ s.pages) = true := decide_eq_true h1
    have d2 : decide (s.pages ≤ 4096) = true := decide_eq_true h2
    have d3 : decide (1 ≤ s.budget) = true := decide_eq_true h3
    have d4 : decide (s.budget ≤ 256) = false := decide_eq_false h4
    go_enter Tryd.func71,Tryd.ntmps71
    go_wp2_with (first | (refine loadC hS rfl rfl rfl (stCell0 s) ?_;simp only [putW]) | (refine loadC hS rfl rfl rfl (stCell1 s) ?_;simp only [putW]) | (refine boxN hS rfl rfl rfl ?_;clear hS;intro mb w hS;simp only [putW]))
    go_ret
    exact ⟨rfl,hS.nothing⟩
  by_cases h5 : 0 ≤ s.cursor
  rotate_left
  · have hb : b = false := by rw [← hb];simp [h5]
    subst hb
    have d1 : decide (1 ≤ s.pages) = true := decide_eq_true h1
    have d2 : decide (s.pages ≤ 4096) = true := decide_eq_true h2
    have d3 : decide (1 ≤ s.budget) = true := decide_eq_true h3
    have d4 : decide (s.budget ≤ 256) = true := decide_eq_true h4
    have d5 : decide (0 ≤ s.cursor) = false := decide_eq_false h5
    go_enter Tryd.func71,Tryd.ntmps71
    go_wp2_with (first | (refine loadC hS rfl rfl rfl (stCell0 s) ?_;simp only [putW]) | (refine loadC hS rfl rfl rfl (stCell1 s) ?_;simp only [putW]) | (refine loadC hS rfl rfl rfl (stCell6 s) ?_;simp only [putW]) | (refine boxN hS rfl rfl rfl ?_;clear hS;intro mb w hS;simp only [putW]))
    go_ret
    exact ⟨rfl,hS.nothing⟩
  by_cases h6 : s.cursor ≤ s.pages
  rotate_left
  · have hb : b = false := by rw [← hb];simp [h6]
    subst hb
    have d1 : decide (1 ≤ s.pages) = true := decide_eq_true h1
    have d2 : decide (s.pages ≤ 4096) = true := decide_eq_true h2
    have d3 : decide (1 ≤ s.budget) = true := decide_eq_true h3
    have d4 : decide (s.budget ≤ 256) = true := decide_eq_true h4
    have d5 : decide (0 ≤ s.cursor) = true := decide_eq_true h5
    have d6 : decide (s.cursor ≤ s.pages) = false := decide_eq_false h6
    go_enter Tryd.func71,Tryd.ntmps71
    go_wp2_with (first | (refine loadC hS rfl rfl rfl (stCell0 s) ?_;simp only [putW]) | (refine loadC hS rfl rfl rfl (stCell1 s) ?_;simp only [putW]) | (refine loadC hS rfl rfl rfl (stCell6 s) ?_;simp only [putW]) | (refine boxN hS rfl rfl rfl ?_;clear hS;intro mb w hS;simp only [putW]))
    go_ret
    exact ⟨rfl,hS.nothing⟩
  by_cases h7 : 0 < s.epoch
  rotate_left
  · have hb : b = false := by rw [← hb];simp [h7]
    subst hb
    have d1 : decide (1 ≤ s.pages) = true := decide_eq_true h1
    have d2 : decide (s.pages ≤ 4096) = true := decide_eq_true h2
    have d3 : decide (1 ≤ s.budget) = true := decide_eq_true h3
    have d4 : decide (s.budget ≤ 256) = true := decide_eq_true h4
    have d5 : decide (0 ≤ s.cursor) = true := decide_eq_true h5
    have d6 : decide (s.cursor ≤ s.pages) = true := decide_eq_true h6
    have d7 : decide (0 < s.epoch) = false := decide_eq_false h7
    go_enter Tryd.func71,Tryd.ntmps71
    go_wp2_with (first | (refine loadC hS rfl rfl rfl (stCell0 s) ?_;simp only [putW]) | (refine loadC hS rfl rfl rfl (stCell1 s) ?_;simp only [putW]) | (refine loadC hS rfl rfl rfl (stCell5 s) ?_;simp only [putW]) | (refine loadC hS rfl rfl rfl (stCell6 s) ?_;simp only [putW]) | (refine boxN hS rfl rfl rfl ?_;clear hS;intro mb w hS;simp only [putW]))
    go_ret
    exact ⟨rfl,hS.nothing⟩
  have hb : b = true := by rw [← hb];simp [h1,h2,h3,h4,h5,h6,h7]
  subst hb
  have d1 : decide (1 ≤ s.pages) = true := decide_eq_true h1
  have d2 : decide (s.pages ≤ 4096) = true := decide_eq_true h2
  have d3 : decide (1 ≤ s.budget) = true := decide_eq_true h3
  have d4 : decide (s.budget ≤ 256) = true := decide_eq_true h4
  have d5 : decide (0 ≤ s.cursor) = true := decide_eq_true h5
  have d6 : decide (s.cursor ≤ s.pages) = true := decide_eq_true h6
  have d7 : decide (0 < s.epoch) = true := decide_eq_true h7
  go_enter Tryd.func71,Tryd.ntmps71
  go_wp2_with (first | (refine loadC hS rfl rfl rfl (stCell0 s) ?_;simp only [putW]) | (refine loadC hS rfl rfl rfl (stCell1 s) ?_;simp only [putW]) | (refine loadC hS rfl rfl rfl (stCell5 s) ?_;simp only [putW]) | (refine loadC hS rfl rfl rfl (stCell6 s) ?_;simp only [putW]) | (refine boxN hS rfl rfl rfl ?_;clear hS;intro mb w hS;simp only [putW]))
  go_ret
  exact ⟨rfl,hS.nothing⟩
end
end Go.Proofs.YtdkimdobcacpfaaDoor
