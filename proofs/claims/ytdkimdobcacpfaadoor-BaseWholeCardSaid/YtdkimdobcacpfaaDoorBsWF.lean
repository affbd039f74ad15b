/-
  What BaseWhole asks besides: the document's plan of at most 40 pages and a budget of 20; a block filled up; all blocks.
-/
import Derived.Test.YtdkimdobcacpfaaDoorBsFi
import Derived.Test.YtdkimdobcacpfaaDoorTrAl
import Derived.Test.YtdkimdobcacpfaaDoorBsB
set_option linter.unusedSimpArgs false
set_option linter.unusedVariables false
namespace Go.Proofs.YtdkimdobcacpfaaDoor
open Go.RowKit Go.Proofs.YtdkimdobcacpfaaDoor.Sl Go.Proofs.YtdkimdobcacpfaaDoor.Sha Go.Proofs.YtdkimdobcacpfaaDoor.Jp Go.Proofs.YtdkimdobcacpfaaDoor.Tr Go.Proofs.YtdkimdobcacpfaaDoor.Dv

/-- The plan of so many pages (one level of nodes) and a budget of 20. -/
abbrev plan20 (P c H : Nat) (lv : Value) : List Value := [.int .i64 P,.int .i64 20,.int .i64 c,lv,.int .i64 1,.int .i64 H,.int .i64 1,.int .i64 ((H + 1 : Nat)),.int .i64 ((H + 21 : Nat)),.int .i64 ((H + 41 : Nat))]
theorem c40 {P : Nat} (h1 : 1 ≤ P) (h : P ≤ 40) : cC P ≤ 3 ∧ 1 ≤ cC P ∧ cL P = 1 ∧ cN P = 1 := by
  have hc : cC P ≤ 3 ∧ 1 ≤ cC P := by unfold cC;omega
  have hl : cL P = 1 := by unfold cL;omega
  exact ⟨hc.1,hc.2,hl,by unfold cN;rw [if_pos hl]⟩
section
variable {w0 w : World} {K F S : List Chunk} {d r l p x : Nat} {D : Dev} {cv vj vk va : Value} {A : List Int}
set_option maxRecDepth 100000 in
set_option maxHeartbeats 4000000 in
theorem refOf20 {P : Nat} (h1 : 1 ≤ P) (h3 : P ≤ 40) : Calls Tryd.prog 40 #[.int .i64 P,.int .i64 20] w0 fun e w' => ∃ g,e = .returned (.tuple #[.agg (plan20 P (cC P) (P + cC P + 1) (.slice (some ⟨g,0,none⟩) 1 1)).toArray,.int .i64 0]) ∧ Sat w0 [(g,sl 1 i64 [1] 3 (.slice (some ⟨g,0,none⟩) 1 1))] w' := by
  have hS := Sat.refl w0
  obtain ⟨hC,hC1,hL1,-⟩ := c40 h1 h3
  have e1 : ((ceil P 16 : Nat) : Int) = (cC P : Nat) := rfl
  have e2 : ((ceil (cC P) 8 : Nat) : Int) = 1 := by have : ceil (cC P) 8 = cL P := rfl;rw [this,hL1];rfl
  have e4 : ((ceil 92 256 : Nat) : Int) = 1 := rfl
  generalize cC P = c at *
  have E1 : Bx _ := ⟨e1⟩
  have E2 : Bx _ := ⟨e2⟩
  have E4 : Bx _ := ⟨e4⟩
  clear e1 e2 e4 hL1
  go_enter Tryd.func40,Tryd.ntmps40
  have tok : True := trivial
  go_wp2_with (first | (guard_target =~ Calls _ 66 _ _ _;refine Stopped.out ?_) | (have _t := tok;refine alloc hS rfl rfl ?_;clear hS tok;intro m4 w hS;simp only [putW]) | (refine alloc hS rfl rfl ?_;clear hS;intro m6 w hS;simp only [putW]) | (refine store1 hS rfl rfl rfl rfl rfl ?_ ?_;(focus (simp;done));clear hS;intro w hS;simp only [evW,putW] at hS;try simp only [putW]))
  refine ⟨?_⟩
  (refine Calls.mono (begun_lit P 16 c E1.out (by omega) (by omega) (by omega)) ?_;rintro _ w2 ⟨rfl,h2⟩;replace hS := hS.frame h2;clear h2;(try simp only [List.cons_append,List.nil_append] at hS);simp only [putW])
  go_wp2_with (first | (guard_target =~ Calls _ 66 _ _ _;refine Stopped.out ?_) | (refine load1 hS rfl rfl rfl rfl ?_;simp only [putW]) | (refine store1 hS rfl rfl rfl rfl rfl ?_ ?_;(focus (simp;done));clear hS;intro w hS;simp only [evW,putW] at hS;try simp only [putW]))
  refine ⟨?_⟩
  (refine Calls.mono (begun_lit c 8 1 E2.out (by omega) (by omega) (by omega)) ?_;rintro _ w2 ⟨rfl,h2⟩;replace hS := hS.frame h2;clear h2;(try simp only [List.cons_append,List.nil_append] at hS);simp only [putW])
  go_wp2_with (first | (refine buildSlice1 (c := #[.int .i64 1]) hS rfl rfl rfl ?_ ?_ ?_ ?_;rfl;rfl;rfl;clear hS;intro mb w hS;simp only [putW]) | (refine store1 hS rfl rfl rfl rfl rfl ?_ ?_;(focus (simp;done));clear hS;intro w hS;simp only [evW,putW] at hS;try simp only [putW]))
  have hS1 := (hS.pull mb).toSlc (l := [(1 : Int)]) (cap := 1) (n := 1) (f := i64) (by simp) (by simp) (by simp [maxLen]) (by simp [one]) (fun _ _ => rfl)
  replace hS1 := hS1.slOfSlc
  clear hS
  have hS := hS1
  clear hS1
  simp only [List.length_cons,List.length_nil,Nat.zero_add] at hS
  obtain ⟨g0,rfl⟩ : ∃ g0,g0 = mb := ⟨_,rfl⟩
  go_loopw [7] (fun c' wr => c' = .int .i64 1 ∧ Sat w0 _ wr) (fun _ _ => 0)
  case atStart => exact ⟨rfl,hS⟩
  case round =>
    clear hS
    obtain ⟨rfl,hS⟩ := hrel
    go_wp2_with (first | (go_at_call 66;refine Calls.mono (begun_lit 92 256 1 E4.out (by omega) (by omega) (by omega)) ?_;rintro _ w2 ⟨rfl,h2⟩;replace hS := hS.frame h2;clear h2;(try simp only [List.cons_append,List.nil_append] at hS);simp only [putW]) | (refine load1 hS rfl rfl rfl rfl ?_;simp only [putW]) | (refine loadAll hS rfl rfl rfl ?_ ?_;rfl;simp only [putW]) | (refine store1 hS rfl rfl rfl rfl rfl ?_ ?_;(focus (simp;done));clear hS;intro w hS;simp only [evW,putW] at hS;try simp only [putW]) | (refine storeAll hS rfl rfl rfl rfl ?_ ?_ ?_ ?_;rfl;(focus (simp [Value.oneCell'];done));rfl;clear hS;intro w hS;try simp only [putW]))
    have hr := run_loadAll (P := Tryd.prog) hS m4 60 rfl
    have ea : ((P : Int) + c + 1) = ((P + c + 1 : Nat) : Int) := by omega
    refine bodyPost_ret (v := .tuple #[.agg (plan20 P c (P + c + 1) (.slice (some ⟨g0,0,none⟩) 1 1)).toArray,.int .i64 0]) (by simp [results,Tryd.results40,asAddr,hr];omega) rfl ⟨g0,rfl,?_⟩
    exact (hS.conv : Sat w0 [(g0,sl 1 i64 [(1 : Int)] 3 (.slice (some ⟨g0,0,none⟩) 1 1))] w)
set_option maxRecDepth 100000 in
set_option maxHeartbeats 4000000 in
theorem fit20 {P : Nat} (h1 : 1 ≤ P) (h3 : P ≤ 40) : Calls Tryd.prog 15 #[.int .i64 1000,.int .i64 P,.int .i64 20] w0 fun e w' => ∃ g,e = .returned (.tuple #[.agg (plan20 P (cC P) (P + cC P + 1) (.slice (some ⟨g,0,none⟩) 1 1)).toArray,.int .i64 0]) ∧ Sat w0 [(g,sl 1 i64 [1] 3 (.slice (some ⟨g,0,none⟩) 1 1))] w' := by
  have hS := Sat.refl w0
  obtain ⟨hC,hC1,-,-⟩ := c40 h1 h3
  obtain ⟨c,hc⟩ : ∃ c,cC P = c := ⟨_,rfl⟩
  obtain ⟨H,hH⟩ : ∃ H,P + c + 1 = H := ⟨_,rfl⟩
  have hH6 : H ≤ 100 := by omega
  have d1 : decide ((1000 : Int) < ((H : Int) + 41)) = false := decide_eq_false (by omega)
  have d2 : decide ((1000 : Int) < (((H + 41 : Nat)) : Int)) = false := decide_eq_false (by omega)
  have d3 : decide (1000 < H + 41) = false := decide_eq_false (by omega)
  have HO : Bx (∀ {w1 : World},Calls Tryd.prog 40 #[.int .i64 P,.int .i64 20] w1 fun e w' => ∃ g,e = .returned (.tuple #[.agg (plan20 P c H (.slice (some ⟨g,0,none⟩) 1 1)).toArray,.int .i64 0]) ∧ Sat w1 [(g,sl 1 i64 [1] 3 (.slice (some ⟨g,0,none⟩) 1 1))] w') := ⟨fun {w1} => by rw [← hH,← hc];exact refOf20 h1 h3⟩
  rw [hc,hH]
  rw [hc] at hC hC1
  clear hc hH
  go_enter Tryd.func15,Tryd.ntmps15
  go_wp2_with (first | (refine alloc hS rfl rfl ?_;clear hS;intro m6 w hS;simp only [putW]) | (guard_target =~ Calls _ 40 _ _ _;refine Stopped.out ?_))
  refine ⟨?_⟩
  refine Calls.mono HO.out ?_
  rintro _ w2 ⟨g,rfl,h2⟩
  replace hS := hS.frame h2
  clear h2
  simp only [List.cons_append,List.nil_append] at hS
  simp only [putW]
  go_wp2_with (first | (refine alloc hS rfl rfl ?_;clear hS;intro m8 w hS;simp only [putW]) | (refine load1 hS rfl rfl rfl rfl ?_;simp only [putW]) | (refine loadAll hS rfl rfl rfl ?_ ?_;rfl;simp only [putW]) | (refine storeAll hS rfl rfl rfl rfl ?_ ?_ ?_ ?_;rfl;(focus (simp [Value.oneCell'];done));rfl;clear hS;intro w hS;try simp only [putW]))
  have hr := run_loadAll (P := Tryd.prog) hS m6 60 rfl
  refine bodyPost_ret (v := .tuple #[.agg (plan20 P c H (.slice (some ⟨g,0,none⟩) 1 1)).toArray,.int .i64 0]) (by simp [results,Tryd.results15,asAddr,hr]) rfl ⟨g,rfl,hS.conv⟩
/-- Bytes filled up, or cut, to a block. -/
def fullR (A : List Int) : Row := A.take 256 ++ List.replicate (256 - A.length) 0
theorem fullR_row {A : List Int} (h : ∀ x ∈ A,okByte x) : isRow (fullR A) := ⟨by unfold fullR;rw [List.length_append,List.length_take,List.length_replicate];omega,fun x hx => by
  unfold fullR at hx
  rcases List.mem_append.1 hx with h1 | h1
  · exact h x (List.mem_of_mem_take h1)
  · rw [(List.mem_replicate.1 h1).2];unfold okByte;omega⟩
def fillK (A : List Int) (k : Nat) : Row := A.take k ++ List.replicate (256 - k) 0
theorem fillK_set {A : List Int} {k : Nat} {y : Int} (h : A[k]? = some y) (hk : k < 256) : (fillK A k).set k y = fillK A (k + 1) := by
  have hkl := (List.getElem?_eq_some_iff.1 h).1
  unfold fillK
  rw [List.take_add_one,h]
  have e1 : (A.take k).length = k := by rw [List.length_take];omega
  rw [show 256 - k = (256 - (k + 1)) + 1 by omega,List.replicate_succ,List.set_append_right _ _ (by omega),e1,Nat.sub_self]
  simp
set_option maxRecDepth 100000 in
set_option maxHeartbeats 4000000 in
theorem full_any (hR : RB w0 A va) : Calls Tryd.prog 11 #[va] w0 fun e w' => ∃ g,e = .returned (.slice (some ⟨g,0,none⟩) 256 256) ∧ Sat w0 [(g,slc 1 by8 (fullR A) 256 5)] w' := by
  have hS := Sat.refl w0
  obtain ⟨ad,c,hv,hl,hat⟩ := BSl.at hR
  subst hv
  have hmx := BSl.len hR
  obtain ⟨n,hn⟩ : ∃ n,A.length = n := ⟨_,rfl⟩
  obtain ⟨N,hN⟩ : ∃ N,min n 256 = N := ⟨_,rfl⟩
  have HN : Bx _ := ⟨hn⟩
  have HA : Bx _ := ⟨hat⟩
  have HFull : Bx (fillK A N = fullR A) := ⟨by
    unfold fillK fullR
    rw [hn]
    by_cases h : n ≤ 256
    · rw [show N = n by omega,List.take_of_length_le (by omega),List.take_of_length_le (by omega)]
    · rw [show N = 256 by omega,show 256 - n = 256 - 256 by omega]⟩
  rw [hn] at hmx
  rw [hn]
  clear hR hn hat hl
  go_enter Tryd.func11,Tryd.ntmps11
  go_wp2_with (refine makeN hS rfl rfl 256 rfl rfl by8 (0 : Int) rfl ?_ ?_ ?_;(focus (omega));(focus (simp [maxLen];done));clear hS;intro mb w hS;simp only [putW])
  obtain ⟨gc,rfl⟩ : ∃ gc,gc = mb := ⟨_,rfl⟩
  go_loopg [4] N (fun g i wr => ∃ k : Nat,k + g = N ∧ i = .int .i64 k ∧ Sat w0 [(gc,slc 1 by8 (fillK A k) 256 5)] wr)
  case atStart => exact ⟨0,by omega,rfl,by unfold fillK;exact hS⟩
  case round =>
    clear hS
    obtain ⟨k,hkg,rfl,hS⟩ := hrel
    cases gk with
    | zero =>
      have hkn : k = N := by omega
      subst hkn
      have HF2 := HFull.out
      rw [HF2] at hS
      by_cases hn2 : n ≤ 256
      · have d1 : decide ((k : Int) < (n : Int)) = false := decide_eq_false (by omega)
        have d2 : decide (k < n) = false := decide_eq_false (by omega)
        clear hN
        go_wp2_with (refine load1 hS rfl rfl rfl rfl ?_;simp only [putW])
        go_ret
        exact ⟨gc,rfl,hS⟩
      · have hk : k = 256 := by omega
        subst hk
        have d1 : decide ((256 : Int) < (n : Int)) = true := decide_eq_true (by omega)
        have d2 : decide (256 < n) = true := decide_eq_true (by omega)
        clear hN
        go_wp2_with (refine load1 hS rfl rfl rfl rfl ?_;simp only [putW])
        go_ret
        exact ⟨gc,rfl,hS⟩
    | succ g =>
      have hkn : k < n ∧ k < 256 := by omega
      obtain ⟨y,hy⟩ : ∃ y,A[k]? = some y := ⟨_,List.getElem?_eq_getElem (by rw [HN.out];omega)⟩
      obtain ⟨fb,fo,rfl,hB⟩ := HA.out (by intro e;rw [e] at hy;simp at hy)
      have d1 : decide ((k : Int) < (n : Int)) = true := decide_eq_true (by omega)
      have d2 : decide ((k : Int) < 256) = true := decide_eq_true (by omega)
      have d3 : decide (k < n) = true := decide_eq_true (by omega)
      have d4 : decide (k < 256) = true := decide_eq_true (by omega)
      have HY : Bx _ := ⟨hy⟩
      have HB : Bx _ := ⟨hB⟩
      have HKL : Bx ((fillK A k).length = 256) := ⟨by unfold fillK;rw [List.length_append,List.length_take,List.length_replicate,HN.out];omega⟩
      have HSet : Bx _ := ⟨fillK_set hy hkn.2⟩
      have hk6 : k < 256 := hkn.2
      have hkn1 : k < n := hkn.1
      clear hy hB hN hkn
      go_wp2_with (first | (refine loadB (f := by8) hS rfl rfl rfl HB.out k 0 ?_ HY.out rfl ?_;omega;simp only [putW]) | (refine storeS1 (v1 := Value.int .u8) hS rfl rfl rfl y rfl rfl ?_ ?_;(focus (rw [HKL.out];omega));clear hS;intro w hS;rw [HSet.out] at hS;try simp only [putW]))
      go_roundg g
      case measure => omega
      case rel => exact ⟨k + 1,by omega,by go_num,hS⟩
end
end Go.Proofs.YtdkimdobcacpfaaDoor
