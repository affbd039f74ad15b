/-
  Where things stand, in plain words.
  plan.Of at any pages and any budget.
-/
import Derived.Test.YtdkimdobcacpfaaDoorDvPl
import Derived.Test.YtdkimdobcacpfaaDoorJPlan
import Derived.Test.YtdkimdobcacpfaaDoorSlS
set_option linter.unusedSimpArgs false
set_option linter.unusedVariables false
namespace Go.Proofs.YtdkimdobcacpfaaDoor
open Go.Proofs.YtdkimdobcacpfaaDoor.Sl Go.Proofs.YtdkimdobcacpfaaDoor.Tr Go.Proofs.YtdkimdobcacpfaaDoor.Dv

/-- How many nodes each level has, from n blocks on. -/
def lvGo : Nat → Nat → List Nat
  | 0,_ => []
  | f + 1,n => ceil n 8::(if 1 < ceil n 8 then lvGo f (ceil n 8) else [])
def plC (P : Nat) : Nat := ceil P 16
def plLv (P : Nat) : List Nat := lvGo 4 (plC P)
def plN (P : Nat) : Nat := (plLv P).sum
def plH (P : Nat) : Nat := P + plC P + plN P
def plHd (b : Nat) : Nat := ceil (12 + 4 * b) 256
def plJ (P b : Nat) : Nat := plH P + plHd b
def plT (P b : Nat) : Nat := plJ P b + b + b
def nI (L : List Nat) : List Int := L.map fun n : Nat => (n : Int)
theorem ceil_pos {n s : Nat} (h : 0 < n) (hs : 0 < s) : 1 ≤ ceil n s := by
  unfold ceil
  exact (Nat.le_div_iff_mul_le hs).2 (by omega)
theorem ceil_le {n s k : Nat} (hs : 0 < s) (h : n ≤ s * k) : ceil n s ≤ k := by
  unfold ceil
  have : (n + s - 1) / s < k + 1 := (Nat.div_lt_iff_lt_mul hs).2 (by rw [Nat.add_mul,Nat.mul_comm k s];omega)
  omega
theorem plC_le {P : Nat} (h : P ≤ 4096) : plC P ≤ 256 := ceil_le (by omega) (by omega)
theorem plC_pos {P : Nat} (h : 1 ≤ P) : 1 ≤ plC P := ceil_pos h (by omega)
theorem plHd_le {b : Nat} (h : b ≤ 256) : plHd b ≤ 5 := ceil_le (by omega) (by omega)
theorem lvGo_len : ∀ (f n : Nat),(lvGo f n).length ≤ f
  | 0,n => by simp [lvGo]
  | f + 1,n => by
    simp only [lvGo,List.length_cons]
    split
    · have := lvGo_len f (ceil n 8);omega
    · simp
theorem lvGo_sum : ∀ (f n : Nat),(lvGo f n).sum ≤ f * (n + 8)
  | 0,n => by simp [lvGo]
  | f + 1,n => by
    simp only [lvGo,List.sum_cons]
    have hc : ceil n 8 ≤ n + 1 := ceil_le (by omega) (by omega)
    split
    · rename_i h
      have := lvGo_sum f (ceil n 8)
      have h2 : ceil n 8 ≤ n := by unfold ceil at h ⊢;omega
      have h3 : f * (ceil n 8 + 8) ≤ f * (n + 8) := Nat.mul_le_mul_left f (by omega)
      rw [Nat.add_mul]
      omega
    · simp
      rw [Nat.add_mul]
      omega
theorem plN_le {P : Nat} (h : P ≤ 4096) : plN P ≤ 2000 := by
  have h1 := lvGo_sum 4 (plC P)
  have h2 := plC_le h
  unfold plN plLv
  omega
/-- A plan's cells. -/
abbrev plL' (P b C : Int) (lv : Value) (N H hd J s t : Int) : List Value := [.int .i64 P,.int .i64 b,.int .i64 C,lv,.int .i64 N,.int .i64 H,.int .i64 hd,.int .i64 J,.int .i64 s,.int .i64 t]
abbrev planV (P b : Nat) (lv : Value) : List Value := plL' P b (plC P : Nat) lv (plN P : Nat) (plH P : Nat) (plHd b : Nat) (plJ P b : Nat) ((plJ P b + b : Nat)) (plT P b : Nat)
/-- Pages and a budget that may be. -/
def okPB (P b : Int) : Prop := 1 ≤ P ∧ P ≤ 4096 ∧ 1 ≤ b ∧ b ≤ 256
instance (P b : Int) : Decidable (okPB P b) := by unfold okPB;infer_instance
end Go.Proofs.YtdkimdobcacpfaaDoor
namespace Go.Proofs.YtdkimdobcacpfaaDoor
open Go.RowKit Go.Proofs.YtdkimdobcacpfaaDoor.Sl Go.Proofs.YtdkimdobcacpfaaDoor.Jp Go.Proofs.YtdkimdobcacpfaaDoor.Tr Go.Proofs.YtdkimdobcacpfaaDoor.Dv

section
variable {w0 w : World}
set_option maxRecDepth 100000 in
set_option maxHeartbeats 2000000 in
theorem planOf_no (P b : Int) (h : ¬ okPB P b) : Calls Tryd.prog 60 #[.int .i64 P,.int .i64 b] w0 fun e w' => e = .returned (.tuple #[.agg noPlan.toArray,.int .i64 1]) ∧ Sat w0 [] w' := by
  have hS := Sat.refl w0
  have fin : ∀ {m : Nat} {w : World} {F : List Chunk},Sat w0 ((m,cells noPlan.toArray 60)::F) w → (loadVar 60 ⟨m,0,none⟩).run Tryd.prog w = .ok (.agg noPlan.toArray) w := fun hS => run_loadAll (P := Tryd.prog) hS _ 60 rfl
  by_cases h1 : P < 1
  · have d1 : decide (P < 1) = true := decide_eq_true h1
    clear h
    go_enter Tryd.func60,Tryd.ntmps60
    go_wp2_with (first | (refine storeAll hS rfl rfl rfl rfl ?_ ?_ ?_ ?_;rfl;(focus (simp [Value.oneCell'];done));rfl;clear hS;intro w hS;try simp only [putW]) | (refine alloc hS rfl rfl ?_;clear hS;intro mb w hS;simp only [putW]))
    exact bodyPost_ret (v := .tuple #[.agg noPlan.toArray,.int .i64 1]) (by simp [results,Tryd.results60,asAddr,fin hS,noPlan]) rfl ⟨rfl,hS.nothing⟩
  · have d1 : decide (P < 1) = false := decide_eq_false h1
    by_cases h2 : 4096 < P
    · have d2 : decide (4096 < P) = true := decide_eq_true h2
      clear h
      go_enter Tryd.func60,Tryd.ntmps60
      go_wp2_with (first | (refine storeAll hS rfl rfl rfl rfl ?_ ?_ ?_ ?_;rfl;(focus (simp [Value.oneCell'];done));rfl;clear hS;intro w hS;try simp only [putW]) | (refine alloc hS rfl rfl ?_;clear hS;intro mb w hS;simp only [putW]))
      exact bodyPost_ret (v := .tuple #[.agg noPlan.toArray,.int .i64 1]) (by simp [results,Tryd.results60,asAddr,fin hS,noPlan]) rfl ⟨rfl,hS.nothing⟩
    · have d2 : decide (4096 < P) = false := decide_eq_false h2
      by_cases h3 : b < 1
      · have d3 : decide (b < 1) = true := decide_eq_true h3
        clear h
        go_enter Tryd.func60,Tryd.ntmps60
        go_wp2_with (first | (refine storeAll hS rfl rfl rfl rfl ?_ ?_ ?_ ?_;rfl;(focus (simp [Value.oneCell'];done));rfl;clear hS;intro w hS;try simp only [putW]) | (refine alloc hS rfl rfl ?_;clear hS;intro mb w hS;simp only [putW]))
        exact bodyPost_ret (v := .tuple #[.agg noPlan.toArray,.int .i64 1]) (by simp [results,Tryd.results60,asAddr,fin hS,noPlan]) rfl ⟨rfl,hS.nothing⟩
      · have d3 : decide (b < 1) = false := decide_eq_false h3
        have h4 : 256 < b := by unfold okPB at h;omega
        have d4 : decide (256 < b) = true := decide_eq_true h4
        clear h
        go_enter Tryd.func60,Tryd.ntmps60
        go_wp2_with (first | (refine storeAll hS rfl rfl rfl rfl ?_ ?_ ?_ ?_;rfl;(focus (simp [Value.oneCell'];done));rfl;clear hS;intro w hS;try simp only [putW]) | (refine alloc hS rfl rfl ?_;clear hS;intro mb w hS;simp only [putW]))
        exact bodyPost_ret (v := .tuple #[.agg noPlan.toArray,.int .i64 1]) (by simp [results,Tryd.results60,asAddr,fin hS,noPlan]) rfl ⟨rfl,hS.nothing⟩
theorem parts_i {n s : Nat} {ni si : Int} {r : Nat} (hni : ni = (n : Int)) (hsi : si = (s : Int)) (hr : ceil n s = r) (hn : n ≤ 1000000) (hs : 0 < s) (hs2 : s ≤ 1000) : Calls Tryd.prog 79 #[.int .i64 ni,.int .i64 si] w fun e w' => e = .returned (.int .i64 r) ∧ Sat w [] w' := by
  subst hni;subst hsi;subst hr
  exact parts_any n s hn hs hs2
set_option maxRecDepth 100000 in
set_option maxHeartbeats 4000000 in
theorem planOf_ok (P b : Nat) (h1 : 1 ≤ P) (h2 : P ≤ 4096) (h3 : 1 ≤ b) (h4 : b ≤ 256) : Calls Tryd.prog 60 #[.int .i64 P,.int .i64 b] w0 fun e w' => ∃ lv,e = .returned (.tuple #[.agg (planV P b lv).toArray,.int .i64 0]) ∧ Sat w0 [(blk lv,sl 1 i64 (nI (plLv P)) 3 lv)] w' := by
  have hS := Sat.refl w0
  have d1 : decide ((P : Int) < 1) = false := decide_eq_false (by omega)
  have d2 : decide ((4096 : Int) < (P : Int)) = false := decide_eq_false (by omega)
  have d2n : decide (4096 < P) = false := decide_eq_false (by omega)
  have d3 : decide ((b : Int) < 1) = false := decide_eq_false (by omega)
  have d4 : decide ((256 : Int) < (b : Int)) = false := decide_eq_false (by omega)
  have d4n : decide (256 < b) = false := decide_eq_false (by omega)
  obtain ⟨C,hC⟩ : ∃ C,plC P = C := ⟨_,rfl⟩
  have hC1 : 1 ≤ C := by rw [← hC];exact plC_pos h1
  have hC2 : C ≤ 256 := by rw [← hC];exact plC_le h2
  have HC : Bx _ := ⟨hC⟩
  have HCc : Bx (ceil P 16 = C) := ⟨hC⟩
  obtain ⟨hd,hhd⟩ : ∃ hd,plHd b = hd := ⟨_,rfl⟩
  have hhd5 : hd ≤ 5 := by rw [← hhd];exact plHd_le h4
  have HHd : Bx _ := ⟨hhd⟩
  have HHc : Bx (ceil (12 + 4 * b) 256 = hd) := ⟨hhd⟩
  have hN := plN_le h2
  clear hC hhd
  go_enter Tryd.func60,Tryd.ntmps60
  go_wp2_with (first | (guard_target =~ Calls _ 79 _ _ _;refine Stopped.out ?_) | (refine alloc hS rfl rfl ?_;clear hS;intro mb w hS;simp only [putW]))
  refine ⟨?_⟩
  (refine Calls.mono (parts_i (n := P) (s := 16) rfl rfl HCc.out (by omega) (by omega) (by omega)) ?_;rintro _ w2 ⟨rfl,h2⟩;replace hS := hS.frame h2;clear h2;(try simp only [List.cons_append,List.nil_append] at hS);simp only [putW])
  go_wp2_with (first | (refine alloc hS rfl rfl ?_;clear hS;intro m6 w hS;simp only [putW]) | (refine load1 hS rfl rfl rfl rfl ?_;simp only [putW]) | (refine storeAll hS rfl rfl rfl rfl ?_ ?_ ?_ ?_;rfl;(focus (simp [Value.oneCell'];done));rfl;clear hS;intro w hS;try simp only [putW]))
  replace hS := hS.slNil 1 i64 3
  go_loopg [7] 4 (fun f v wr => ∃ (n : Nat) (Ls : List Nat) (sv : Value),v = .int .i64 n ∧ 1 ≤ n ∧ Bx (n ≤ 8 ^ f ∧ (Ls = [] → f = 4) ∧ Ls.length ≤ 4 ∧ plLv P = Ls ++ (if 1 < n ∨ Ls = [] then lvGo f n else [])) ∧ n ≤ 256 ∧ Sat w0 [(m6,cells #[.int .i64 P,.int .i64 b,.int .i64 C,sv,.int .i64 (Ls.sum : Nat),.int .i64 0,.int .i64 0,.int .i64 0,.int .i64 0,.int .i64 0] 60),(blk sv,sl 1 i64 (nI Ls) 3 sv),(mb,cells noPlan.toArray 60)] wr)
  case atStart => exact ⟨C,[],.slice none 0 0,rfl,hC1,⟨by omega,fun _ => rfl,by simp,by rw [if_pos (.inr rfl),plLv,HC.out];rfl⟩,hC2,(show Sat w0 [(m6,cells #[.int .i64 P,.int .i64 b,.int .i64 C,.slice none 0 0,.int .i64 0,.int .i64 0,.int .i64 0,.int .i64 0,.int .i64 0,.int .i64 0] 60),(0,sl 1 i64 [] 3 (.slice none 0 0)),(mb,cells noPlan.toArray 60)] w from hS.conv)⟩
  case round =>
    clear hS
    obtain ⟨n,Ls,sv,rfl,hn1,HF,hn256,hS⟩ := hrel
    obtain ⟨q,hq⟩ : ∃ q,Ls.length = q := ⟨_,rfl⟩
    have HQ : Bx (Ls.length = q) := ⟨hq⟩
    have hq4 : q ≤ 4 := by rw [← hq];exact HF.out.2.2.1
    have hqI : (nI Ls).length = q := by rw [nI,List.length_map];exact hq
    have HQI : Bx _ := ⟨hqI⟩
    obtain ⟨Sm,hSm⟩ : ∃ Sm,Ls.sum = Sm := ⟨_,rfl⟩
    rw [hSm] at hS
    have HSm : Bx _ := ⟨hSm⟩
    have hSm2 : Sm ≤ 2000 := by
      have h5 := plN_le h2
      unfold plN at h5
      rw [HF.out.2.2.2,List.sum_append,hSm] at h5
      omega
    obtain ⟨sp,sc,hsv⟩ := shapeN (hS.pull (blk sv) (X := sl 1 i64 (nI Ls) 3 sv)) hqI
    subst hsv
    clear hq hqI hSm
    by_cases hgo : 1 < n ∨ Ls = []
    · have hf : gk ≠ 0 := by
        intro e
        subst e
        rcases hgo with h | h
        · have := HF.out.1;omega
        · have := HF.out.2.1 h;omega
      obtain ⟨f,hf2⟩ : ∃ f,gk = f + 1 := ⟨gk - 1,by omega⟩
      subst hf2
      obtain ⟨m,hm⟩ : ∃ m,ceil n 8 = m := ⟨_,rfl⟩
      have HM : Bx _ := ⟨hm⟩
      have hm1 : 1 ≤ m := by rw [← hm];exact ceil_pos (by omega) (by omega)
      have hm2 : m ≤ 256 := by rw [← hm];exact ceil_le (by omega) (by omega)
      have hm3 : m ≤ 8 ^ f := by rw [← hm];refine ceil_le (by omega) ?_;have := HF.out.1;rw [Nat.pow_succ] at this;omega
      have HM3 : Bx _ := ⟨hm3⟩
      have HF2 : Bx ((Ls ++ [m] = [] → f = 4) ∧ plLv P = (Ls ++ [m]) ++ (if 1 < m ∨ Ls ++ [m] = [] then lvGo f m else [])) := ⟨by simp,by
        rw [HF.out.2.2.2,if_pos hgo]
        simp [lvGo,hm]⟩
      have HQ4 : Bx (Ls.length + 1 ≤ 4) := ⟨by
        have h5 := congrArg List.length HF2.out.2
        have h6 := lvGo_len 4 (plC P)
        have h7 : (plLv P).length ≤ 4 := h6
        rw [h5] at h7
        simp at h7
        omega⟩
      clear hm hm3
      have hcond : Bx (decide ((1 : Int) < (n : Int)) = true ∨ (decide ((1 : Int) < (n : Int)) = false ∧ q = 0)) := ⟨by
        by_cases h5 : 1 < n
        · exact .inl (decide_eq_true (by omega))
        · refine .inr ⟨decide_eq_false (by omega),?_⟩
          rcases hgo with h | h
          · omega
          · rw [← HQ.out,h];rfl⟩
      clear hgo
      have hfin : ∀ {g c : Nat} {w4 : World},Sat w0 [(m6,cells #[.int .i64 P,.int .i64 b,.int .i64 C,.slice (some ⟨g,0,none⟩) (nI Ls ++ [(m : Int)]).length c,.int .i64 ((Sm : Int) + m),.int .i64 0,.int .i64 0,.int .i64 0,.int .i64 0,.int .i64 0] 60),(g,slc 1 i64 (nI Ls ++ [(m : Int)]) c 3),(mb,cells noPlan.toArray 60)] w4 →
          Sat w0 [(m6,cells #[.int .i64 P,.int .i64 b,.int .i64 C,.slice (some ⟨g,0,none⟩) (nI Ls ++ [(m : Int)]).length c,.int .i64 ((Ls ++ [m]).sum : Nat),.int .i64 0,.int .i64 0,.int .i64 0,.int .i64 0,.int .i64 0] 60),(blk (.slice (some ⟨g,0,none⟩) (nI Ls ++ [(m : Int)]).length c),sl 1 i64 (nI (Ls ++ [m])) 3 (.slice (some ⟨g,0,none⟩) (nI Ls ++ [(m : Int)]).length c)),(mb,cells noPlan.toArray 60)] w4 := fun {g c w4} h => by
        have h5 := (h.pull g (X := slc 1 i64 (nI Ls ++ [(m : Int)]) c 3)).slOfSlc
        have e1 : nI (Ls ++ [m]) = nI Ls ++ [(m : Int)] := by simp [nI]
        have e2 : (((Ls ++ [m]).sum : Nat) : Int) = (Sm : Int) + m := by rw [List.sum_append,HSm.out];simp
        rw [e1,e2]
        exact h5.conv
      have hlI : (nI Ls).length ≤ 4 := by rw [HQI.out];omega
      rcases hcond.out with d5 | ⟨d5,hq0⟩
      · go_wp2_with (first | (go_at_call 79;refine Calls.mono (parts_i (n := n) (s := 8) rfl rfl HM.out (by omega) (by omega) (by omega)) ?_;rintro _ w2 ⟨rfl,h2⟩;replace hS := hS.frame h2;clear h2;(try simp only [List.cons_append,List.nil_append] at hS);simp only [putW]) | (refine buildSlice1 (c := #[.int .i64 (m : Nat)]) hS rfl rfl rfl ?_ ?_ ?_ ?_;rfl;rfl;rfl;clear hS;intro mb w hS;simp only [putW]) | (refine append1 (f := i64) hS rfl rfl (.slice sp q sc) rfl rfl (m : Int) ?_ ?_ ?_ ?_ ?_ ?_;rfl;(focus (simp [i64,one,Value.oneCell'];done));rfl;(focus (simp [maxLen];omega));(focus (omega));clear hS;intro v' w hS;obtain ⟨g,cap,hv',hS3⟩ := hS.slSome (by simp);clear hS;subst hv';have hS := hS3;clear hS3;simp only [putW]) | (refine load1 hS rfl rfl rfl rfl ?_;simp only [putW]) | (refine store1 hS rfl rfl rfl rfl rfl ?_ ?_;(focus (simp;done));clear hS;intro w hS;simp only [evW,putW] at hS;try simp only [putW]))
        go_roundg f
        case measure => omega
        case rel => exact ⟨m,Ls ++ [m],_,by go_num,hm1,⟨HM3.out,HF2.out.1,by rw [List.length_append];exact HQ4.out,HF2.out.2⟩,hm2,hfin hS⟩
      · subst hq0
        go_wp2_with (first | (go_at_call 79;refine Calls.mono (parts_i (n := n) (s := 8) rfl rfl HM.out (by omega) (by omega) (by omega)) ?_;rintro _ w2 ⟨rfl,h2⟩;replace hS := hS.frame h2;clear h2;(try simp only [List.cons_append,List.nil_append] at hS);simp only [putW]) | (refine buildSlice1 (c := #[.int .i64 (m : Nat)]) hS rfl rfl rfl ?_ ?_ ?_ ?_;rfl;rfl;rfl;clear hS;intro mb w hS;simp only [putW]) | (refine append1 (f := i64) hS rfl rfl (.slice sp 0 sc) rfl rfl (m : Int) ?_ ?_ ?_ ?_ ?_ ?_;rfl;(focus (simp [i64,one,Value.oneCell'];done));rfl;(focus (simp [maxLen];omega));(focus (omega));clear hS;intro v' w hS;obtain ⟨g,cap,hv',hS3⟩ := hS.slSome (by simp);clear hS;subst hv';have hS := hS3;clear hS3;simp only [putW]) | (refine load1 hS rfl rfl rfl rfl ?_;simp only [putW]) | (refine store1 hS rfl rfl rfl rfl rfl ?_ ?_;(focus (simp;done));clear hS;intro w hS;simp only [evW,putW] at hS;try simp only [putW]))
        go_roundg f
        case measure => omega
        case rel => exact ⟨m,Ls ++ [m],_,by go_num,hm1,⟨HM3.out,HF2.out.1,by rw [List.length_append];exact HQ4.out,HF2.out.2⟩,hm2,hfin hS⟩
    · have hn : ¬ 1 < n := fun h => hgo (.inl h)
      have hL : Ls ≠ [] := fun h => hgo (.inr h)
      have d5 : decide ((1 : Int) < (n : Int)) = false := decide_eq_false (by omega)
      have hq1 : 1 ≤ q := by rw [← HQ.out];exact List.length_pos_iff.2 hL
      have d6 : decide ((q : Int) = 0) = false := decide_eq_false (by omega)
      have d6n : decide (q = 0) = false := decide_eq_false (by omega)
      have d6c : ((q : Int) == 0) = false := by simpa using (show q ≠ 0 by omega)
      have HE : Bx (plLv P = Ls) := ⟨by rw [HF.out.2.2.2,if_neg hgo,List.append_nil]⟩
      have hq0 : q ≠ 0 := by omega
      clear hgo hn hL
      go_wp2_with (first | (go_at_call 79;refine Calls.mono (parts_i (n := 12 + 4 * b) (s := 256) (by omega) rfl HHc.out (by omega) (by omega) (by omega)) ?_;rintro _ w2 ⟨rfl,h2⟩;replace hS := hS.frame h2;clear h2;(try simp only [List.cons_append,List.nil_append] at hS);simp only [putW]) | (refine load1 hS rfl rfl rfl rfl ?_;simp only [putW]) | (refine loadAll hS rfl rfl rfl ?_ ?_;rfl;simp only [putW]) | (refine store1 hS rfl rfl rfl rfl rfl ?_ ?_;(focus (simp;done));clear hS;intro w hS;simp only [evW,putW] at hS;try simp only [putW]) | (refine storeAll hS rfl rfl rfl rfl ?_ ?_ ?_ ?_;rfl;(focus (simp [Value.oneCell'];done));rfl;clear hS;intro w hS;try simp only [putW]))
      have hr := run_loadAll (P := Tryd.prog) hS mb 60 rfl
      have e : planV P b (.slice sp q sc) = [.int .i64 P,.int .i64 b,.int .i64 C,.slice sp q sc,.int .i64 Sm,.int .i64 ((P : Int) + C + Sm),.int .i64 hd,.int .i64 ((P : Int) + C + Sm + hd),.int .i64 ((P : Int) + C + Sm + hd + b),.int .i64 ((P : Int) + C + Sm + hd + b + b)] := by
        have e1 : plN P = Sm := by unfold plN;rw [HE.out];exact HSm.out
        simp only [planV,plL',plT,plJ,plH,HC.out,HHd.out,e1,Int.natCast_add]
      refine bodyPost_ret (v := .tuple #[.agg (planV P b (.slice sp q sc)).toArray,.int .i64 0]) (by rw [e];simp [results,Tryd.results60,asAddr,hr]) rfl ⟨.slice sp q sc,rfl,?_⟩
      rw [HE.out]
      exact hS.conv
end
end Go.Proofs.YtdkimdobcacpfaaDoor
