/-
  thimbleref02: Same, SameAll, Copy, Num, Put; thimbleref14.SameInts; thimbleref03.Join.
  thimbleref02: Copy, Num, Put; thimbleref03.Join.
-/
import Derived.Test.YtdkimdobcacpfaaDoorTab
import Derived.Test.YtdkimdobcacpfaaDoorSlB
import Derived.Test.YtdkimdobcacpfaaDoorJPlain
set_option linter.unusedSimpArgs false
set_option linter.unusedVariables false
namespace Go.Proofs.YtdkimdobcacpfaaDoor
open Go.RowKit Go.Proofs.YtdkimdobcacpfaaDoor.Sl Go.Proofs.YtdkimdobcacpfaaDoor.Jp

theorem take_succ_eq {A B : List Int} {k : Nat} {x y : Int} (hx : A[k]? = some x) (hy : B[k]? = some y) (h : A.take k = B.take k) : (A.take (k + 1) = B.take (k + 1)) ↔ x = y := by
  rw [List.take_add_one,List.take_add_one,hx,hy,h];simp

section
variable {w : World} {A B : List Int} {va vb : Value}
set_option maxHeartbeats 400000 in
theorem same_any (ha : RB w A va) (hb : RB w B vb) : Calls Tryd.prog 44 #[va,vb] w fun e w' => e = .returned (.bool (decide (A = B))) ∧ Sat w [] w' := by
  have hS := Sat.refl w
  obtain ⟨pa,ca,rfl,hla,hata⟩ := ha.at
  obtain ⟨pb,cb,rfl,hlb,hatb⟩ := hb.at
  by_cases hl : A.length = B.length
  · have HL : Hid (A.length = B.length) := hl
    rw [← hl]
    clear hl ha hb
    go_enter Tryd.func44,Tryd.ntmps44
    go_wp2
    go_loopw [5] (fun i wr => ∃ k : Nat,k ≤ A.length ∧ i = .int .i64 k ∧ Sat w [] wr ∧ Hid (A.take k = B.take k)) (fun i _ => A.length - (intOf i).toNat)
    case atStart => exact ⟨0,Nat.zero_le _,rfl,hS,rfl⟩
    case round =>
      clear hS
      obtain ⟨k,hk,rfl,hS,hinv⟩ := hrel
      by_cases hlt : k < A.length
      · have hlb' : k < B.length := by have := HL.out;omega
        obtain ⟨x,hx⟩ : ∃ x,A[k]? = some x := ⟨_,List.getElem?_eq_getElem hlt⟩
        obtain ⟨y,hy⟩ : ∃ y,B[k]? = some y := ⟨_,List.getElem?_eq_getElem hlb'⟩
        obtain ⟨ba,oa,rfl,hBa⟩ := hata (by intro e;subst e;simp at hlt)
        obtain ⟨bb,ob,rfl,hBb⟩ := hatb (by intro e;subst e;simp at hlb')
        have hiff := take_succ_eq hx hy hinv.out
        have Hiff : Hid ((A.take (k + 1) = B.take (k + 1)) ↔ x = y) := hiff
        clear hiff
        by_cases hxy : x = y
        · subst hxy
          go_wp2
          (refine region_quiet hS (by kernel_rfl) (by kernel_rfl) (by kernel_rfl) ?_;clear hS;(repeat (apply quiet_step;(focus (intro w hS;go_wp2_with (first | (refine loadB (f := by8) hS rfl rfl rfl hBa k 0 ?_ hx rfl ?_;omega;simp only [putW]) | (refine loadB (f := by8) hS rfl rfl rfl hBb k 0 ?_ hy rfl ?_;omega;simp only [putW]) | (refine load1 hS rfl rfl rfl rfl ?_;simp only [putW]) | (refine loadAll hS rfl rfl rfl ?_ ?_;rfl;simp only [putW]) | (refine loadPart hS rfl rfl rfl ?_ rfl ?_;rfl;simp only [putW]));exact ⟨rfl,rfl,hS⟩));simp only [putW]));refine quiet_nil ?_;intro w hS)
          go_wp2
          go_roundw
          case rel => exact ⟨k + 1,by omega,by go_num,hS,Hiff.out.2 (by trivial)⟩
          case measure => simp [intOf];omega
        · go_wp2
          (refine region_quiet hS (by kernel_rfl) (by kernel_rfl) (by kernel_rfl) ?_;clear hS;(repeat (apply quiet_step;(focus (intro w hS;go_wp2_with (first | (refine loadB (f := by8) hS rfl rfl rfl hBa k 0 ?_ hx rfl ?_;omega;simp only [putW]) | (refine loadB (f := by8) hS rfl rfl rfl hBb k 0 ?_ hy rfl ?_;omega;simp only [putW]) | (refine load1 hS rfl rfl rfl rfl ?_;simp only [putW]) | (refine loadAll hS rfl rfl rfl ?_ ?_;rfl;simp only [putW]) | (refine loadPart hS rfl rfl rfl ?_ rfl ?_;rfl;simp only [putW]));exact ⟨rfl,rfl,hS⟩));simp only [putW]));refine quiet_nil ?_;intro w hS)
          go_wp2
          go_ret
          refine ⟨?_,hS⟩
          have : ¬ A = B := fun e => hxy (Hiff.out.1 (by rw [e]))
          simp [this]
      · go_wp2
        go_ret
        refine ⟨?_,hS⟩
        have h1 := hinv.out
        rw [List.take_of_length_le (by omega),List.take_of_length_le (by have := HL.out;omega)] at h1
        simp [h1]
  · have hne : ¬ A = B := fun e => hl (by rw [e])
    go_enter Tryd.func44,Tryd.ntmps44
    go_wp2
    go_ret
    exact ⟨by simp [hne],hS⟩
end

theorem map_take_succ {X Y : List (Value × List Int)} {k : Nat} {x y : Value × List Int} (hx : X[k]? = some x) (hy : Y[k]? = some y) (h : (X.take k).map (·.2) = (Y.take k).map (·.2)) :
    ((X.take (k + 1)).map (·.2) = (Y.take (k + 1)).map (·.2)) ↔ x.2 = y.2 := by
  rw [List.take_add_one,List.take_add_one,hx,hy,List.map_append,List.map_append,h];simp
set_option maxHeartbeats 400000 in
theorem sameAll_any {w : World} {X Y : List (Value × List Int)} {va vb : Value} (ha : RR w X va) (hb : RR w Y vb) : Calls Tryd.prog 23 #[va,vb] w fun e w' => e = .returned (.bool (decide (X.map (·.2) = Y.map (·.2)))) ∧ Sat w [] w' := by
  have hS := Sat.refl w
  obtain ⟨pa,ca,rfl,hla,hata⟩ := ha.at
  obtain ⟨pb,cb,rfl,hlb,hatb⟩ := hb.at
  by_cases hl : X.length = Y.length
  · have HL : Hid (X.length = Y.length) := hl
    rw [← hl]
    clear hl ha hb
    go_enter Tryd.func23,Tryd.ntmps23
    go_wp2
    go_loopw [5] (fun i wr => ∃ k : Nat,k ≤ X.length ∧ i = .int .i64 k ∧ Sat w [] wr ∧ Hid ((X.take k).map (·.2) = (Y.take k).map (·.2))) (fun i _ => X.length - (intOf i).toNat)
    case atStart => exact ⟨0,Nat.zero_le _,rfl,hS,rfl⟩
    case round =>
      clear hS
      obtain ⟨k,hk,rfl,hS,hinv⟩ := hrel
      by_cases hlt : k < X.length
      · have hlb' : k < Y.length := by have := HL.out;omega
        obtain ⟨x,hx⟩ : ∃ x,X[k]? = some x := ⟨_,List.getElem?_eq_getElem hlt⟩
        obtain ⟨y,hy⟩ : ∃ y,Y[k]? = some y := ⟨_,List.getElem?_eq_getElem hlb'⟩
        obtain ⟨ba,oa,rfl,hBa⟩ := hata (by intro e;subst e;simp at hlt)
        obtain ⟨bb,ob,rfl,hBb⟩ := hatb (by intro e;subst e;simp at hlb')
        have hiff := map_take_succ hx hy hinv.out
        have Hiff : Hid (((X.take (k + 1)).map (·.2) = (Y.take (k + 1)).map (·.2)) ↔ x.2 = y.2) := hiff
        clear hiff
        have hrx := (hBa.2 k x hx).1
        have hry := (hBb.2 k y hy).1
        by_cases hxy : x.2 = y.2
        · have hd : decide (x.2 = y.2) = true := by simp [hxy]
          have Hxy : Hid (x.2 = y.2) := hxy
          clear hxy
          go_wp2
          (refine region_quiet hS (by kernel_rfl) (by kernel_rfl) (by kernel_rfl) ?_;clear hS;(repeat (apply quiet_step;(focus (intro w hS;go_wp2_with (first | (refine loadB (f := rowF) hS rfl rfl rfl hBa k 0 ?_ hx rfl ?_;omega;simp only [putW]) | (refine loadB (f := rowF) hS rfl rfl rfl hBb k 0 ?_ hy rfl ?_;omega;simp only [putW]) | (go_at_call 44;refine Calls.mono (same_any (hrx.mono hS.base) (hry.mono hS.base)) ?_;try simp only [hd];rintro _ w2 ⟨rfl,h2⟩;replace hS := hS.frame h2;clear h2;(try simp only [List.cons_append,List.nil_append] at hS);simp only [putW]) | (refine load1 hS rfl rfl rfl rfl ?_;simp only [putW]) | (refine loadAll hS rfl rfl rfl ?_ ?_;rfl;simp only [putW]) | (refine loadPart hS rfl rfl rfl ?_ rfl ?_;rfl;simp only [putW]));exact ⟨rfl,rfl,hS⟩));simp only [putW]));refine quiet_nil ?_;intro w hS)
          go_wp2
          go_roundw
          case rel => exact ⟨k + 1,by omega,by go_num,hS,Hiff.out.2 Hxy.out⟩
          case measure => simp [intOf];omega
        · have hd : decide (x.2 = y.2) = false := by simp [hxy]
          go_wp2
          (refine region_quiet hS (by kernel_rfl) (by kernel_rfl) (by kernel_rfl) ?_;clear hS;(repeat (apply quiet_step;(focus (intro w hS;go_wp2_with (first | (refine loadB (f := rowF) hS rfl rfl rfl hBa k 0 ?_ hx rfl ?_;omega;simp only [putW]) | (refine loadB (f := rowF) hS rfl rfl rfl hBb k 0 ?_ hy rfl ?_;omega;simp only [putW]) | (go_at_call 44;refine Calls.mono (same_any (hrx.mono hS.base) (hry.mono hS.base)) ?_;try simp only [hd];rintro _ w2 ⟨rfl,h2⟩;replace hS := hS.frame h2;clear h2;(try simp only [List.cons_append,List.nil_append] at hS);simp only [putW]) | (refine load1 hS rfl rfl rfl rfl ?_;simp only [putW]) | (refine loadAll hS rfl rfl rfl ?_ ?_;rfl;simp only [putW]) | (refine loadPart hS rfl rfl rfl ?_ rfl ?_;rfl;simp only [putW]));exact ⟨rfl,rfl,hS⟩));simp only [putW]));refine quiet_nil ?_;intro w hS)
          go_wp2
          go_ret
          refine ⟨?_,hS⟩
          have : ¬ X.map (·.2) = Y.map (·.2) := fun e => hxy (Hiff.out.1 (by rw [List.map_take,List.map_take,e]))
          simp [this]
      · go_wp2
        go_ret
        refine ⟨?_,hS⟩
        have h1 := hinv.out
        rw [List.take_of_length_le (by omega),List.take_of_length_le (by have := HL.out;omega)] at h1
        simp [h1]
  · have hne : ¬ X.map (·.2) = Y.map (·.2) := fun e => hl (by have := congrArg List.length e;simpa using this)
    go_enter Tryd.func23,Tryd.ntmps23
    go_wp2
    go_ret
    exact ⟨by simp [hne],hS⟩
end Go.Proofs.YtdkimdobcacpfaaDoor
namespace Go.Proofs.YtdkimdobcacpfaaDoor
open Go.RowKit Go.Proofs.YtdkimdobcacpfaaDoor.Sl Go.Proofs.YtdkimdobcacpfaaDoor.Jp

section
variable {w0 : World} {A : List Int} {va : Value}
set_option maxHeartbeats 400000 in
theorem copy_any (ha : RB w0 A va) (hb : A.length ≤ 100000000000000) : Calls Tryd.prog 41 #[va] w0 fun e w' => ∃ v,e = .returned v ∧ Sat w0 [(blk v,sl 1 by8 A 5 v)] w' := by
  have hS := Sat.refl w0
  obtain ⟨pa,ca,rfl,hla,hata⟩ := ha.at
  clear ha
  go_enter Tryd.func41,Tryd.ntmps41
  go_wp2_with (first | (guard_target =~ wpList _ _ _ (Oper.mk (some 7) _ _ _ _ _::_) _ _;refine Stopped.out ?_) | (first | (refine load1 hS rfl rfl rfl rfl ?_;simp only [putW]) | (refine loadAll hS rfl rfl rfl ?_ ?_;rfl;simp only [putW]) | (refine loadPart hS rfl rfl rfl ?_ rfl ?_;rfl;simp only [putW]) | (refine store1 hS rfl rfl rfl rfl rfl ?_ ?_;(focus (simp;done));clear hS;intro w hS;simp only [evW,putW] at hS;try simp only [putW]) | (refine storeAll hS rfl rfl rfl rfl ?_ ?_ ?_ ?_;rfl;(focus (simp [Value.oneCell'];done));rfl;clear hS;intro w hS;try simp only [putW]) | (refine storeN hS rfl rfl rfl rfl ?_ ?_ ?_ ?_;rfl;(focus (simp [Value.oneCell'];done));(focus (simp;done));clear hS;intro w hS;simp at hS;try simp only [putW]) | (refine alloc hS rfl rfl ?_;clear hS;intro mb w hS;simp only [putW]) | (refine box1 hS rfl rfl rfl rfl ?_;clear hS;intro mb w hS;try simp only [evW,putW] at hS;simp only [putW]) | (refine boxN hS rfl rfl rfl ?_;clear hS;intro mb w hS;simp only [putW])))
  refine ⟨?_⟩
  refine makeLC hS rfl rfl 0 A.length rfl rfl 0 ?_ ?_ ?_ ?_
  · omega
  · omega
  · simp [maxLen];omega
  clear hS
  intro mb w hS
  simp only [putW]
  rw [List.replicate_zero] at hS
  replace hS := hS.slOfSlc
  go_wp2_with (first | (refine load1 hS rfl rfl rfl rfl ?_;simp only [putW]) | (refine loadAll hS rfl rfl rfl ?_ ?_;rfl;simp only [putW]) | (refine loadPart hS rfl rfl rfl ?_ rfl ?_;rfl;simp only [putW]) | (refine store1 hS rfl rfl rfl rfl rfl ?_ ?_;(focus (simp;done));clear hS;intro w hS;simp only [evW,putW] at hS;try simp only [putW]) | (refine storeAll hS rfl rfl rfl rfl ?_ ?_ ?_ ?_;rfl;(focus (simp [Value.oneCell'];done));rfl;clear hS;intro w hS;try simp only [putW]) | (refine storeN hS rfl rfl rfl rfl ?_ ?_ ?_ ?_;rfl;(focus (simp [Value.oneCell'];done));(focus (simp;done));clear hS;intro w hS;simp at hS;try simp only [putW]) | (refine alloc hS rfl rfl ?_;clear hS;intro mb w hS;simp only [putW]) | (refine box1 hS rfl rfl rfl rfl ?_;clear hS;intro mb w hS;try simp only [evW,putW] at hS;simp only [putW]) | (refine boxN hS rfl rfl rfl ?_;clear hS;intro mb w hS;simp only [putW]))
  go_loopw [3,4] (fun v i wr => ∃ k : Nat,k ≤ A.length ∧ i = .int .i64 k ∧ Sat w0 [(blk v,sl 1 by8 (A.take k) 5 v)] wr) (fun _ i _ => A.length - (intOf i).toNat)
  case atStart => exact ⟨0,Nat.zero_le _,rfl,hS⟩
  case round =>
    clear hS
    obtain ⟨k,hk,rfl,hS⟩ := hrel
    by_cases hlt : k < A.length
    · obtain ⟨x,hx⟩ : ∃ x,A[k]? = some x := ⟨_,List.getElem?_eq_getElem hlt⟩
      obtain ⟨ba,oa,rfl,hBa⟩ := hata (by intro e;subst e;simp at hlt)
      go_wp2_with (first | (refine loadB (f := by8) hS rfl rfl rfl hBa k 0 ?_ hx rfl ?_;omega;simp only [putW]) | (refine buildSlice1 (c := #[.int .u8 x]) hS rfl rfl rfl ?_ ?_ ?_ ?_;rfl;rfl;rfl;clear hS;intro mb w hS;simp only [putW]) | (refine append1 (f := by8) hS rfl rfl u3 rfl rfl x ?_ ?_ ?_ ?_ ?_ ?_;rfl;(focus (simp [by8,one,Value.oneCell'];done));rfl;(focus (first | omega | (simp [maxLen];done) | (simp [maxLen];omega)));(focus (first | omega | (simp [maxLen];done) | (simp [maxLen];omega)));clear hS;intro v' w hS;simp only [putW]) | (refine load1 hS rfl rfl rfl rfl ?_;simp only [putW]) | (refine loadAll hS rfl rfl rfl ?_ ?_;rfl;simp only [putW]) | (refine loadPart hS rfl rfl rfl ?_ rfl ?_;rfl;simp only [putW]) | (refine store1 hS rfl rfl rfl rfl rfl ?_ ?_;(focus (simp;done));clear hS;intro w hS;simp only [evW,putW] at hS;try simp only [putW]) | (refine storeAll hS rfl rfl rfl rfl ?_ ?_ ?_ ?_;rfl;(focus (simp [Value.oneCell'];done));rfl;clear hS;intro w hS;try simp only [putW]) | (refine storeN hS rfl rfl rfl rfl ?_ ?_ ?_ ?_;rfl;(focus (simp [Value.oneCell'];done));(focus (simp;done));clear hS;intro w hS;simp at hS;try simp only [putW]) | (refine alloc hS rfl rfl ?_;clear hS;intro mb w hS;simp only [putW]) | (refine box1 hS rfl rfl rfl rfl ?_;clear hS;intro mb w hS;try simp only [evW,putW] at hS;simp only [putW]) | (refine boxN hS rfl rfl rfl ?_;clear hS;intro mb w hS;simp only [putW]))
      rw [← take_get hx] at hS
      go_roundw
      case rel => exact ⟨k + 1,by omega,by go_num,hS⟩
      case measure => simp [intOf];omega
    · go_wp2_with (first | (refine load1 hS rfl rfl rfl rfl ?_;simp only [putW]) | (refine loadAll hS rfl rfl rfl ?_ ?_;rfl;simp only [putW]) | (refine loadPart hS rfl rfl rfl ?_ rfl ?_;rfl;simp only [putW]) | (refine store1 hS rfl rfl rfl rfl rfl ?_ ?_;(focus (simp;done));clear hS;intro w hS;simp only [evW,putW] at hS;try simp only [putW]) | (refine storeAll hS rfl rfl rfl rfl ?_ ?_ ?_ ?_;rfl;(focus (simp [Value.oneCell'];done));rfl;clear hS;intro w hS;try simp only [putW]) | (refine storeN hS rfl rfl rfl rfl ?_ ?_ ?_ ?_;rfl;(focus (simp [Value.oneCell'];done));(focus (simp;done));clear hS;intro w hS;simp at hS;try simp only [putW]) | (refine alloc hS rfl rfl ?_;clear hS;intro mb w hS;simp only [putW]) | (refine box1 hS rfl rfl rfl rfl ?_;clear hS;intro mb w hS;try simp only [evW,putW] at hS;simp only [putW]) | (refine boxN hS rfl rfl rfl ?_;clear hS;intro mb w hS;simp only [putW]))
      go_ret
      rw [List.take_of_length_le (by omega)] at hS
      exact ⟨_,rfl,hS⟩

/-- The bytes of a number, the least first. -/
def le (N k : Nat) : List Int := (List.range k).map fun j => ((N / 256 ^ j % 256 : Nat) : Int)
end
end Go.Proofs.YtdkimdobcacpfaaDoor
