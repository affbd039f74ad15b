/-
  thimbleref16: Level, First, Parent, Of at a tree's plan.
  thimbleref16: First, Parent at a tree's plan.
  thimbleref16.Of at 300 pages at most.
-/
import Derived.Test.YtdkimdobcacpfaaDoorJPlan
import Derived.Test.YtdkimdobcacpfaaDoorTrPlain
import Derived.Test.YtdkimdobcacpfaaDoorSlB
set_option linter.unusedSimpArgs false
set_option linter.unusedVariables false
namespace Go.Proofs.YtdkimdobcacpfaaDoor
open Go.RowKit Go.Proofs.YtdkimdobcacpfaaDoor.Sl Go.Proofs.YtdkimdobcacpfaaDoor.Jp Go.Proofs.YtdkimdobcacpfaaDoor.Tr

/-- A plan's cells. -/
abbrev plL (P b C : Int) (lv : Value) (N H hd J s t : Int) : List Value := [.int .i64 P,.int .i64 b,.int .i64 C,lv,.int .i64 N,.int .i64 H,.int .i64 hd,.int .i64 J,.int .i64 s,.int .i64 t]
/-- In which level a block stands, and where in it. -/
def lvlF : List Int → Int → Int → Int × Int
  | [],_,_ => (-1,0)
  | a::l,i,t => if t < a then (i,t) else lvlF l (i + 1) (t - a)
theorem lvlF_drop {A : List Int} {k : Nat} {x : Int} (h : A[k]? = some x) (t : Int) : lvlF (A.drop k) k t = if t < x then ((k : Int),t) else lvlF (A.drop (k + 1)) ((k + 1 : Nat) : Int) (t - x) := by
  obtain ⟨hk,he⟩ := List.getElem?_eq_some_iff.1 h
  rw [List.drop_eq_getElem_cons hk,he,lvlF]
  push_cast
  rfl
section
variable {w0 w : World} {S : List Chunk} {A : List Int} {lv : Value} {P b C N H hd J s t : Int}
set_option maxHeartbeats 1000000 in
theorem level_any (hL : RI w0 A lv) (hA : ∀ x ∈ A,0 ≤ x ∧ x ≤ 1000000) (hP : 0 ≤ P ∧ P ≤ 1000000) (hC : 0 ≤ C ∧ C ≤ 1000000) (hl : A.length ≤ 1000) (k : Nat) (hk : k ≤ 1000000) {r i : Int} (hr : lvlF ([P,C] ++ A) 0 k = (r,i)) :
    Calls Tryd.prog 67 #[.agg (plL P b C lv N H hd J s t).toArray,.int .i64 k] w0 fun e w' => e = .returned (.tuple #[.int .i64 r,.int .i64 i]) ∧ Sat w0 [] w' := by
  have hS := Sat.refl w0
  have HR : Bx _ := ⟨hr⟩
  have HA : Bx _ := ⟨hA⟩
  clear hr hA
  go_enter Tryd.func67,Tryd.ntmps67
  go_wp2_with (first | (guard_target =~ wpList _ _ _ (Oper.mk (some 15) _ _ _ _ _::_) _ _;refine Stopped.out ?_) | (refine load1 hS rfl rfl rfl rfl ?_;simp only [putW]) | (refine boxN hS rfl rfl rfl ?_;clear hS;intro mb w hS;simp only [putW]))
  refine ⟨?_⟩
  refine buildSlice2 (u0 := .int .i64 P) (u1 := .int .i64 C) hS rfl rfl rfl rfl ?_
  clear hS
  intro m1 w hS
  simp only [putW]
  have h1 := hS.toSlc (l := [P,C]) (cap := 2) (n := 1) (f := i64) (by simp) (by simp) (by simp [maxLen]) (by rfl) (fun _ _ => rfl)
  replace hS := h1.slNil 1 i64 3
  have h2 : RI w [P,C] (.slice (some ⟨m1,0,none⟩) 2 2) := h1.readsSlc (g := m1) (n := 1) (f := i64) (L := [P,C]) (cap := 2) (t := 3) fun _ _ => trivial
  go_wp2_with (guard_target =~ wpList _ _ _ (Oper.mk (some 16) _ _ _ _ _::_) _ _;refine Stopped.out ?_)
  refine ⟨?_⟩
  refine appendB (f := i64) hS rfl rfl (.slice none 0 0) rfl rfl [P,C] h2 ?_ ?_ ?_ ?_
  · intro x _ u hu;rw [List.mem_singleton.1 hu];rfl
  · simp [maxLen]
  · simp
  clear hS h1 h2
  intro v1 w hS
  simp only [putW,List.nil_append] at hS ⊢
  go_wp2_with (first | (guard_target =~ wpList _ _ _ (Oper.mk (some 20) _ _ _ _ _::_) _ _;refine Stopped.out ?_) | (refine load1 hS rfl rfl rfl rfl ?_;simp only [putW]))
  refine ⟨?_⟩
  refine appendB (f := i64) hS rfl rfl v1 rfl rfl A (hL.mono hS.base) ?_ ?_ ?_ ?_
  · intro x _ u hu;rw [List.mem_singleton.1 hu];rfl
  · simp [maxLen];omega
  · simp;omega
  clear hS
  intro v2 w hS
  simp only [putW]
  obtain ⟨B,hB⟩ : ∃ B,[P,C] ++ A = B := ⟨_,rfl⟩
  have hBl : B.length = A.length + 2 := by rw [← hB];simp
  have hBx : Bx (∀ x ∈ B,0 ≤ x ∧ x ≤ 1000000) := ⟨fun x hx => by
    rw [← hB] at hx
    rcases List.mem_append.1 hx with hx | hx
    · simp only [List.mem_cons,List.not_mem_nil,or_false] at hx
      rcases hx with rfl | rfl
      · exact hP
      · exact hC
    · exact HA.out x hx⟩
  rw [hB] at hS
  rw [hB] at HR
  clear hB
  obtain ⟨g2,c2,hv2,hS2⟩ := hS.slFormC (A.length + 2) hBl (by omega)
  subst hv2
  clear hS
  have hS := hS2
  clear hS2
  go_wp2_with (refine load1 hS rfl rfl rfl rfl ?_;simp only [putW])
  go_loopw [6,8] (fun at' i' wr => ∃ (q : Nat) (x : Int),q ≤ A.length + 2 ∧ i' = .int .i64 q ∧ at' = .int .i64 x ∧ (0 ≤ x ∧ x ≤ 1000000) ∧ Bx (lvlF (B.drop q) q x = (r,i)) ∧ Sat w0 _ wr) (fun _ i' _ => A.length + 2 - (intOf i').toNat)
  case atStart => exact ⟨0,k,by omega,rfl,rfl,by omega,HR,hS⟩
  case round =>
    clear hS
    obtain ⟨q,x,hq,rfl,rfl,hx,hinv,hS⟩ := hrel
    by_cases hlt : q < A.length + 2
    · obtain ⟨y,hy⟩ : ∃ y,B[q]? = some y := ⟨_,List.getElem?_eq_getElem (by omega)⟩
      have hyb := hBx.out y (List.mem_of_getElem? hy)
      have hst := lvlF_drop hy x
      by_cases hxy : x < y
      · rw [if_pos hxy] at hst
        have e := hinv.out.symm.trans hst
        injection e with e1 e2
        subst e1;subst e2
        clear hst
        go_wp2_with (refine loadS1 (v1 := Value.int .i64) hS rfl rfl rfl hy ?_;simp only [putW])
        go_ret2
        exact ⟨rfl,hS.nothing⟩
      · rw [if_neg hxy] at hst
        have hinv2 : Bx _ := ⟨hst.symm.trans hinv.out⟩
        clear hst
        go_wp2_with (refine loadS1 (v1 := Value.int .i64) hS rfl rfl rfl hy ?_;simp only [putW])
        go_roundw
        case rel => exact ⟨q + 1,x - y,by omega,by go_num,by go_num,by omega,hinv2,hS⟩
        case measure => simp [intOf];omega
    · have e := hinv.out
      rw [List.drop_eq_nil_of_le (by omega)] at e
      injection e with e1 e2
      subst e1;subst e2
      go_wp2_with (refine load1 hS rfl rfl rfl rfl ?_;simp only [putW])
      go_ret2
      exact ⟨rfl,hS.nothing⟩
end
end Go.Proofs.YtdkimdobcacpfaaDoor
namespace Go.Proofs.YtdkimdobcacpfaaDoor
open Go.RowKit Go.Proofs.YtdkimdobcacpfaaDoor.Sl Go.Proofs.YtdkimdobcacpfaaDoor.Jp Go.Proofs.YtdkimdobcacpfaaDoor.Tr

/-- The levels of nodes. -/
def lvs (n1 N : Nat) : List Int := if N = n1 then [(n1 : Int)] else [(n1 : Int),1]
/-- Where what stands in a block is told. -/
def parP (P C n1 N k : Nat) : Option (Nat × Nat) := if k < P then some (P + k / 16,k % 16) else (par C n1 N (k - P)).map fun x => (P + x.1,x.2)
section
variable {w0 w : World} {S : List Chunk} {A : List Int} {lv : Value} {b N H hd J s t : Int} {P C : Nat}
set_option maxHeartbeats 1000000 in
theorem first1 (hP : P ≤ 1000000) (hC : C ≤ 1000000) : Calls Tryd.prog 68 #[.agg (plL P b C lv N H hd J s t).toArray,.int .i64 1] w0 fun e w' => e = .returned (.int .i64 P) ∧ Sat w0 [] w' := by
  have hS := Sat.refl w0
  go_enter Tryd.func68,Tryd.ntmps68
  go_wp2_with (first | (refine load1 hS rfl rfl rfl rfl ?_;simp only [putW]) | (refine boxN hS rfl rfl rfl ?_;clear hS;intro mb w hS;simp only [putW]))
  go_loopw [5,6] (fun at' i' wr => at' = .int .i64 P ∧ i' = .int .i64 2 ∧ Sat w0 _ wr) (fun _ _ _ => 0)
  case atStart => exact ⟨rfl,rfl,hS⟩
  case round =>
    clear hS
    obtain ⟨rfl,rfl,hS⟩ := hrel
    go_wp2_with (refine load1 hS rfl rfl rfl rfl ?_;simp only [putW])
    go_ret
    exact ⟨rfl,hS.nothing⟩
set_option maxHeartbeats 1000000 in
theorem first2 (hP : P ≤ 1000000) (hC : C ≤ 1000000) : Calls Tryd.prog 68 #[.agg (plL P b C lv N H hd J s t).toArray,.int .i64 2] w0 fun e w' => e = .returned (.int .i64 ((P : Int) + C)) ∧ Sat w0 [] w' := by
  have hS := Sat.refl w0
  go_enter Tryd.func68,Tryd.ntmps68
  go_wp2_with (first | (refine load1 hS rfl rfl rfl rfl ?_;simp only [putW]) | (refine boxN hS rfl rfl rfl ?_;clear hS;intro mb w hS;simp only [putW]))
  go_loopw [5,6] (fun at' i' wr => at' = .int .i64 ((P : Int) + C) ∧ i' = .int .i64 2 ∧ Sat w0 _ wr) (fun _ _ _ => 0)
  case atStart => exact ⟨rfl,rfl,hS⟩
  case round =>
    clear hS
    obtain ⟨rfl,rfl,hS⟩ := hrel
    go_wp2_with (refine load1 hS rfl rfl rfl rfl ?_;simp only [putW])
    go_ret
    exact ⟨rfl,hS.nothing⟩
set_option maxHeartbeats 1000000 in
theorem first3 {n1 : Nat} (hL : RI w0 [(n1 : Int),1] lv) (hP : P ≤ 1000000) (hC : C ≤ 1000000) (hn : n1 ≤ 1000000) : Calls Tryd.prog 68 #[.agg (plL P b C lv N H hd J s t).toArray,.int .i64 3] w0 fun e w' => e = .returned (.int .i64 ((P : Int) + C + n1)) ∧ Sat w0 [] w' := by
  have hS := Sat.refl w0
  obtain ⟨a,c,rfl,_,hat⟩ := hL.at
  obtain ⟨bl,ol,rfl,hB⟩ := hat (by simp)
  have h0 : [(n1 : Int),1][0]? = some (n1 : Int) := rfl
  clear hat hL
  simp only [List.length_cons,List.length_nil]
  go_enter Tryd.func68,Tryd.ntmps68
  go_wp2_with (first | (refine load1 hS rfl rfl rfl rfl ?_;simp only [putW]) | (refine boxN hS rfl rfl rfl ?_;clear hS;intro mb w hS;simp only [putW]))
  go_loopw [5,6] (fun at' i' wr => ((at' = .int .i64 ((P : Int) + C) ∧ i' = .int .i64 2) ∨ (at' = .int .i64 ((P : Int) + C + n1) ∧ i' = .int .i64 3)) ∧ Sat w0 _ wr) (fun _ i' _ => 3 - (intOf i').toNat)
  case atStart => exact ⟨.inl ⟨rfl,rfl⟩,hS⟩
  case round =>
    clear hS
    obtain ⟨⟨rfl,rfl⟩ | ⟨rfl,rfl⟩,hS⟩ := hrel
    · go_wp2_with (first | (refine loadB (f := i64) hS rfl rfl rfl hB 0 0 ?_ h0 rfl ?_;omega;simp only [putW]) | (refine load1 hS rfl rfl rfl rfl ?_;simp only [putW]))
      go_roundw
      case rel => exact ⟨.inr ⟨rfl,rfl⟩,hS⟩
      case measure => simp [intOf]
    · go_wp2_with (refine load1 hS rfl rfl rfl rfl ?_;simp only [putW])
      go_ret
      exact ⟨rfl,hS.nothing⟩
set_option maxHeartbeats 1000000 in
theorem parent_top {A : List Int} (hL : RI w0 A lv) (hlA : A.length ≤ 1000) {k : Nat} {r i : Int}
    (hlev2 : ∀ w,Sat w0 [] w → Calls Tryd.prog 67 #[.agg (plL P b C lv N H hd J s t).toArray,.int .i64 k] w fun e w' => e = .returned (.tuple #[.int .i64 r,.int .i64 i]) ∧ Sat w [] w') (hr : r = A.length + 1) :
    Calls Tryd.prog 42 #[.agg (plL P b C lv N H hd J s t).toArray,.int .i64 k] w0 fun e w' => e = .returned (.tuple #[.agg #[.int .i64 0,.int .i64 0],.int .i64 5]) ∧ Sat w0 [] w' := by
  have hS := Sat.refl w0
  obtain ⟨a,c,rfl,_,hat⟩ := hL.at
  clear hat hL
  subst hr
  go_enter Tryd.func42,Tryd.ntmps42
  have tok : True := trivial
  go_wp2_with (first | (have _t := tok;refine alloc hS rfl rfl ?_;clear hS tok;intro m4 w hS;simp only [putW]) | (go_at_call 67;refine Calls.mono (hlev2 _ hS.nothing) ?_;rintro _ w2 ⟨rfl,h2⟩;replace hS := hS.frame h2;clear h2;(try simp only [List.cons_append,List.nil_append] at hS);simp only [putW]) | (refine load1 hS rfl rfl rfl rfl ?_;simp only [putW]) | (refine loadAll hS rfl rfl rfl ?_ ?_;rfl;simp only [putW]) | (refine storeAll hS rfl rfl rfl rfl ?_ ?_ ?_ ?_;rfl;(focus (simp [Value.oneCell'];done));rfl;clear hS;intro w hS;try simp only [putW]) | (refine boxN hS rfl rfl rfl ?_;clear hS;intro mb w hS;simp only [putW]))
  have hr := run_loadAll (P := Tryd.prog) hS m4 105 rfl
  exact bodyPost_ret (v := .tuple #[.agg #[.int .i64 0,.int .i64 0],.int .i64 5]) (by simp [results,Tryd.results42,asAddr,hr]) rfl ⟨rfl,hS.nothing⟩
set_option maxHeartbeats 1000000 in
theorem parent_page {A : List Int} (hL : RI w0 A lv) (hlA : A.length ≤ 1000) (hP : P ≤ 1000000) (hC : C ≤ 1000000) {k : Nat} {i : Nat} (hi : i ≤ 1000000)
    (hlev2 : ∀ w,Sat w0 [] w → Calls Tryd.prog 67 #[.agg (plL P b C lv N H hd J s t).toArray,.int .i64 k] w fun e w' => e = .returned (.tuple #[.int .i64 0,.int .i64 i]) ∧ Sat w [] w') :
    Calls Tryd.prog 42 #[.agg (plL P b C lv N H hd J s t).toArray,.int .i64 k] w0 fun e w' => e = .returned (.tuple #[.agg #[.int .i64 ((P + i / 16 : Nat) : Int),.int .i64 ((i % 16 : Nat) : Int)],.int .i64 0]) ∧ Sat w0 [] w' := by
  have hS := Sat.refl w0
  obtain ⟨a,c,rfl,_,hat⟩ := hL.at
  clear hat hL
  go_enter Tryd.func42,Tryd.ntmps42
  have tok : True := trivial
  go_wp2_with (first | (have _t := tok;refine alloc hS rfl rfl ?_;clear hS tok;intro m4 w hS;simp only [putW]) | (go_at_call 67;refine Calls.mono (hlev2 _ hS.nothing) ?_;rintro _ w2 ⟨rfl,h2⟩;replace hS := hS.frame h2;clear h2;(try simp only [List.cons_append,List.nil_append] at hS);simp only [putW]) | (go_at_call 68;refine Calls.mono (first1 hP hC) ?_;rintro _ w2 ⟨rfl,h2⟩;replace hS := hS.frame h2;clear h2;(try simp only [List.cons_append,List.nil_append] at hS);simp only [putW]) | (refine load1 hS rfl rfl rfl rfl ?_;simp only [putW]) | (refine loadAll hS rfl rfl rfl ?_ ?_;rfl;simp only [putW]) | (refine storeAll hS rfl rfl rfl rfl ?_ ?_ ?_ ?_;rfl;(focus (simp [Value.oneCell'];done));rfl;clear hS;intro w hS;try simp only [putW]) | (refine boxN hS rfl rfl rfl ?_;clear hS;intro mb w hS;simp only [putW]))
  have hr := run_loadAll (P := Tryd.prog) hS m4 105 rfl
  exact bodyPost_ret (v := .tuple #[.agg #[.int .i64 ((P + i / 16 : Nat) : Int),.int .i64 ((i % 16 : Nat) : Int)],.int .i64 0]) (by simp [results,Tryd.results42,asAddr,hr]) rfl ⟨rfl,hS.nothing⟩
set_option maxHeartbeats 1000000 in
theorem parent_mid {A : List Int} (hL : RI w0 A lv) (hlA : A.length ≤ 1000) {f q : Nat} (hf : f ≤ 1000000) {k : Nat} {i : Nat} (hi : i ≤ 1000000) (hq : 0 < q) (hq2 : q < A.length + 1)
    (hlev2 : ∀ w,Sat w0 [] w → Calls Tryd.prog 67 #[.agg (plL P b C lv N H hd J s t).toArray,.int .i64 k] w fun e w' => e = .returned (.tuple #[.int .i64 q,.int .i64 i]) ∧ Sat w [] w')
    (hfst : ∀ w,Sat w0 [] w → Calls Tryd.prog 68 #[.agg (plL P b C lv N H hd J s t).toArray,.int .i64 ((q : Int) + 1)] w fun e w' => e = .returned (.int .i64 f) ∧ Sat w [] w') :
    Calls Tryd.prog 42 #[.agg (plL P b C lv N H hd J s t).toArray,.int .i64 k] w0 fun e w' => e = .returned (.tuple #[.agg #[.int .i64 ((f + i / 8 : Nat) : Int),.int .i64 ((i % 8 : Nat) : Int)],.int .i64 0]) ∧ Sat w0 [] w' := by
  have hS := Sat.refl w0
  obtain ⟨a,c,rfl,_,hat⟩ := hL.at
  clear hat hL
  go_enter Tryd.func42,Tryd.ntmps42
  have tok : True := trivial
  go_wp2_with (first | (have _t := tok;refine alloc hS rfl rfl ?_;clear hS tok;intro m4 w hS;simp only [putW]) | (go_at_call 67;refine Calls.mono (hlev2 _ hS.nothing) ?_;rintro _ w2 ⟨rfl,h2⟩;replace hS := hS.frame h2;clear h2;(try simp only [List.cons_append,List.nil_append] at hS);simp only [putW]) | (go_at_call 68;refine Calls.mono (hfst _ hS.nothing) ?_;rintro _ w2 ⟨rfl,h2⟩;replace hS := hS.frame h2;clear h2;(try simp only [List.cons_append,List.nil_append] at hS);simp only [putW]) | (refine load1 hS rfl rfl rfl rfl ?_;simp only [putW]) | (refine loadAll hS rfl rfl rfl ?_ ?_;rfl;simp only [putW]) | (refine storeAll hS rfl rfl rfl rfl ?_ ?_ ?_ ?_;rfl;(focus (simp [Value.oneCell'];done));rfl;clear hS;intro w hS;try simp only [putW]) | (refine boxN hS rfl rfl rfl ?_;clear hS;intro mb w hS;simp only [putW]))
  have hr := run_loadAll (P := Tryd.prog) hS m4 105 rfl
  exact bodyPost_ret (v := .tuple #[.agg #[.int .i64 ((f + i / 8 : Nat) : Int),.int .i64 ((i % 8 : Nat) : Int)],.int .i64 0]) (by simp [results,Tryd.results42,asAddr,hr]) rfl ⟨rfl,hS.nothing⟩
/-- A place, or that there is none. -/
def parV : Option (Nat × Nat) → Value
  | some x => .tuple #[.agg #[.int .i64 (x.1 : Int),.int .i64 (x.2 : Int)],.int .i64 0]
  | none => .tuple #[.agg #[.int .i64 0,.int .i64 0],.int .i64 5]
theorem refParent_any {n1 N' k : Nat} (hL : RI w0 (lvs n1 N') lv) (hP : P ≤ 100000) (hC : C ≤ 100000) (hn : n1 ≤ 100000) (hN : (N' = n1 ∧ n1 = 1) ∨ (N' = n1 + 1 ∧ 2 ≤ n1)) (hk : k < P + C + N') :
    Calls Tryd.prog 42 #[.agg (plL P b C lv N H hd J s t).toArray,.int .i64 k] w0 fun e w' => e = .returned (parV (parP P C n1 N' k)) ∧ Sat w0 [] w' := by
  have hA : ∀ x ∈ lvs n1 N',0 ≤ x ∧ x ≤ 1000000 := by
    unfold lvs
    intro x hx
    split at hx
    · rw [List.mem_singleton.1 hx];omega
    · simp only [List.mem_cons,List.not_mem_nil,or_false] at hx
      rcases hx with rfl | rfl <;> omega
  have hll : (lvs n1 N').length ≤ 2 := by unfold lvs;split <;> simp
  have lev : ∀ {r i : Int},lvlF ([(P : Int),(C : Int)] ++ lvs n1 N') 0 k = (r,i) → ∀ w,Sat w0 [] w → Calls Tryd.prog 67 #[.agg (plL P b C lv N H hd J s t).toArray,.int .i64 k] w fun e w' => e = .returned (.tuple #[.int .i64 r,.int .i64 i]) ∧ Sat w [] w' :=
    fun hr w h => level_any (hL.mono h.base) hA (by omega) (by omega) (by omega) k (by omega) hr
  by_cases h1 : k < P
  · have e : lvlF ([(P : Int),(C : Int)] ++ lvs n1 N') 0 k = (0,(k : Int)) := by
      rw [List.cons_append,lvlF,if_pos (by omega)]
    rw [parP,if_pos h1]
    exact parent_page hL (by omega) (by omega) (by omega) (by omega) (lev e)
  · by_cases h2 : k < P + C
    · have e : lvlF ([(P : Int),(C : Int)] ++ lvs n1 N') 0 k = (((1 : Nat) : Int),((k - P : Nat) : Int)) := by
        rw [List.cons_append,List.cons_append,lvlF,if_neg (by omega),lvlF,if_pos (by omega)]
        simp;omega
      rw [parP,if_neg h1,par,if_pos (by omega)]
      refine (parent_mid (q := 1) (f := P + C) hL (by omega) (by omega) (i := k - P) (by omega) (by omega) (by unfold lvs;split <;> simp) (lev e) (fun w h => first2 (by omega) (by omega))).mono fun e w' h => ⟨h.1.trans ?_,h.2⟩
      simp only [Option.map_some,parV]
      rw [Nat.add_assoc]
    · rcases hN with ⟨rfl,hN⟩ | ⟨rfl,hN⟩
      · have hl : lvs N' N' = [(N' : Int)] := by rw [lvs,if_pos rfl]
        have e : lvlF ([(P : Int),(C : Int)] ++ lvs N' N') 0 k = (2,0) := by
          rw [hl,List.cons_append,List.cons_append,lvlF,if_neg (by omega),lvlF,if_neg (by omega),List.nil_append,lvlF,if_pos (by omega)]
          simp;omega
        rw [parP,if_neg h1,par,if_neg (by omega),if_neg (by omega)]
        exact parent_top hL (by omega) (lev e) (by rw [hl];rfl)
      · have hl : lvs n1 (n1 + 1) = [(n1 : Int),1] := by rw [lvs,if_neg (by omega)]
        by_cases h3 : k < P + C + n1
        · have e : lvlF ([(P : Int),(C : Int)] ++ lvs n1 (n1 + 1)) 0 k = (((2 : Nat) : Int),((k - P - C : Nat) : Int)) := by
            rw [hl,List.cons_append,List.cons_append,lvlF,if_neg (by omega),lvlF,if_neg (by omega),List.nil_append,lvlF,if_pos (by omega)]
            simp;omega
          rw [parP,if_neg h1,par,if_neg (by omega),if_pos (by omega)]
          refine (parent_mid (q := 2) (f := P + C + n1) hL (by omega) (by omega) (i := k - P - C) (by omega) (by omega) (by rw [hl];simp) (lev e) (fun w h => first3 (by rw [← hl];exact hL.mono h.base) (by omega) (by omega) (by omega))).mono fun e w' h => ⟨h.1.trans ?_,h.2⟩
          simp only [Option.map_some,parV]
          rw [show P + (C + n1 + (k - P - C) / 8) = P + C + n1 + (k - P - C) / 8 by omega]
        · have e : lvlF ([(P : Int),(C : Int)] ++ lvs n1 (n1 + 1)) 0 k = (3,0) := by
            rw [hl,List.cons_append,List.cons_append,lvlF,if_neg (by omega),lvlF,if_neg (by omega),List.nil_append,lvlF,if_neg (by omega),lvlF,if_pos (by omega)]
            simp;omega
          rw [parP,if_neg h1,par,if_neg (by omega),if_neg (by omega)]
          exact parent_top hL (by omega) (lev e) (by rw [hl];rfl)
end
end Go.Proofs.YtdkimdobcacpfaaDoor
namespace Go.Proofs.YtdkimdobcacpfaaDoor
open Go.RowKit Go.Proofs.YtdkimdobcacpfaaDoor.Sl Go.Proofs.YtdkimdobcacpfaaDoor.Jp Go.Proofs.YtdkimdobcacpfaaDoor.Tr

def cC (P : Nat) : Nat := (P + 15) / 16
def cL (P : Nat) : Nat := (cC P + 7) / 8
def cN (P : Nat) : Nat := if cL P = 1 then 1 else cL P + 1
theorem cN_or {P : Nat} (h : 1 ≤ P) : (cN P = cL P ∧ cL P = 1) ∨ (cN P = cL P + 1 ∧ 2 ≤ cL P) := by
  have h1 : 1 ≤ cL P := by unfold cL cC;omega
  unfold cN
  split
  · left;omega
  · right;omega
theorem c_le {P : Nat} (h : P ≤ 300) : cC P ≤ 19 ∧ cL P ≤ 3 := by unfold cL cC;omega
section
variable {w0 w : World} {S : List Chunk}
theorem begun_lit {w : World} (n s : Nat) (c : Int) (h : ((ceil n s : Nat) : Int) = c) (hn : n ≤ 1000000) (hs : 0 < s) (hs2 : s ≤ 1000) : Calls Tryd.prog 66 #[.int .i64 n,.int .i64 s] w fun e w' => e = .returned (.int .i64 c) ∧ Sat w [] w' := by
  subst h
  exact begun_any n s hn hs hs2
end
end Go.Proofs.YtdkimdobcacpfaaDoor
