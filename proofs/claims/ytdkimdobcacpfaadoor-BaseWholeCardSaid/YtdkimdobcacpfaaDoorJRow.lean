/-
  bytes.Clone, bytes.Equal; row.Put.
-/
import Derived.Test.YtdkimdobcacpfaaDoorTab
import Derived.Test.YtdkimdobcacpfaaDoorSlB
import Derived.Test.YtdkimdobcacpfaaDoorJPlain
import Derived.Lib.Bytes
set_option linter.unusedSimpArgs false
set_option linter.unusedVariables false
namespace Go.Proofs.YtdkimdobcacpfaaDoor
open Go.RowKit Go.Proofs.YtdkimdobcacpfaaDoor.Sl Go.Proofs.YtdkimdobcacpfaaDoor.Jp

section
variable {w0 : World} {A B : List Int} {va vb : Value}
theorem byte_at (N k : Nat) : (N : Int) / 2 ^ (8 * k) % 256 = ((N / 256 ^ k % 256 : Nat) : Int) := by
  rw [Int.pow_mul,show ((2 : Int) ^ 8) = ((256 : Nat) : Int) from rfl,← Int.natCast_pow]
  rfl
theorem bytes_back {A : List Int} (ha : ∀ b ∈ A,okByte b) : (Lib.bytesOf A).map (fun b => (b.toNat : Int)) = A := by
  unfold Lib.bytesOf
  rw [List.map_map]
  conv => rhs;rw [← List.map_id A]
  refine List.map_congr_left fun b hb => ?_
  obtain ⟨h1,h2⟩ := ha b hb
  show (((UInt8.ofNat b.toNat).toNat : Nat) : Int) = b
  rw [UInt8.toNat_ofNat']
  omega
theorem strOfNums_inj {A B : List Int} (ha : ∀ b ∈ A,okByte b) (hb : ∀ b ∈ B,okByte b) : ((strOfNums A).toList == (strOfNums B).toList) = decide (A = B) := by
  rw [Lib.strOfNums_toList,Lib.strOfNums_toList]
  by_cases h : A = B
  · subst h;simp
  · have : ¬ Lib.bytesOf A = Lib.bytesOf B := fun e => h (by rw [← bytes_back ha,← bytes_back hb,e])
    simp [h,this]
set_option maxHeartbeats 400000 in
theorem equal_any (ha : RB w0 A va) (hb : RB w0 B vb) : Calls Tryd.prog 76 #[va,vb] w0 fun e w' => e = .returned (.bool (decide (A = B))) ∧ Sat w0 [] w' := by
  have h1 := run_convertB (P := Tryd.prog) (src := 48) (dst := 9) Tryd.underlying5 Tryd.underlying9 ha
  have h2 := run_convertB (P := Tryd.prog) (src := 48) (dst := 9) Tryd.underlying5 Tryd.underlying9 hb
  have E : Hid _ := strOfNums_inj ha.all hb.all
  go_enter Tryd.func76,Tryd.ntmps76
  go_wp2
  go_ret
  exact ⟨by rw [← E.out];rfl,Sat.refl w0⟩
set_option maxHeartbeats 400000 in
theorem clone_any (ha : RB w0 A va) (hb : A.length ≤ 140737488355328) : Calls Tryd.prog 64 #[va] w0 fun e w' => ∃ v,e = .returned v ∧ Sat w0 [(blk v,sl 1 by8 A 5 v)] w' := by
  have hS := Sat.refl w0
  have hax := ha
  have hnil : ∀ w : World,(binOp BinOp.eql 48 (.slice none 0 0) (.slice none 0 0)).run Tryd.prog w = .ok (.bool true) w := fun _ => by kernel_rfl
  have hsome : ∀ (a : Addr) (n c : Nat) (w : World),(binOp BinOp.eql 48 (.slice (some a) n c) (.slice none 0 0)).run Tryd.prog w = .ok (.bool false) w := fun _ _ _ _ => by kernel_rfl
  rcases ha with ⟨rfl,rfl | ⟨ad,cap,hc,rfl⟩⟩ | ⟨b,off,cap,rfl,h1,h2,hB⟩
  · go_enter Tryd.func64,Tryd.ntmps64
    go_wp2
    go_ret
    exact ⟨_,rfl,hS.slNil 1 by8 5⟩
  · go_enter Tryd.func64,Tryd.ntmps64
    go_wp2_with (first | (refine buildSlice0 hS rfl rfl by8 ?_;clear hS;intro mb w hS;simp only [putW]) | (refine appendB (f := by8) hS rfl rfl (.slice (some ⟨mb,0,none⟩) 0 0) rfl rfl ([] : List Int) (hax.mono hS.base) ?_ ?_ ?_ ?_;(focus (simp [one,Value.oneCell'];done));(focus (first | omega | (simp [maxLen];done) | (simp [maxLen];omega)));(focus (first | omega | (simp [maxLen];done) | (simp [maxLen];omega)));clear hS;intro v' w hS;simp only [putW]) | (refine load1 hS rfl rfl rfl rfl ?_;simp only [putW]) | (refine loadAll hS rfl rfl rfl ?_ ?_;rfl;simp only [putW]) | (refine loadPart hS rfl rfl rfl ?_ rfl ?_;rfl;simp only [putW]) | (refine store1 hS rfl rfl rfl rfl rfl ?_ ?_;(focus (simp;done));clear hS;intro w hS;simp only [evW,putW] at hS;try simp only [putW]) | (refine storeAll hS rfl rfl rfl rfl ?_ ?_ ?_ ?_;rfl;(focus (simp [Value.oneCell'];done));rfl;clear hS;intro w hS;try simp only [putW]) | (refine storeN hS rfl rfl rfl rfl ?_ ?_ ?_ ?_;rfl;(focus (simp [Value.oneCell'];done));(focus (simp;done));clear hS;intro w hS;simp at hS;try simp only [putW]) | (refine alloc hS rfl rfl ?_;clear hS;intro mb w hS;simp only [putW]) | (refine box1 hS rfl rfl rfl rfl ?_;clear hS;intro mb w hS;try simp only [evW,putW] at hS;simp only [putW]) | (refine boxN hS rfl rfl rfl ?_;clear hS;intro mb w hS;simp only [putW]))
    go_ret
    exact ⟨_,rfl,hS⟩
  · go_enter Tryd.func64,Tryd.ntmps64
    go_wp2_with (first | (refine buildSlice0 hS rfl rfl by8 ?_;clear hS;intro mb w hS;simp only [putW]) | (refine appendB (f := by8) hS rfl rfl (.slice (some ⟨mb,0,none⟩) 0 0) rfl rfl A (hax.mono hS.base) ?_ ?_ ?_ ?_;(focus (simp [one,Value.oneCell'];done));(focus (first | omega | (simp [maxLen];done) | (simp [maxLen];omega)));(focus (first | omega | (simp [maxLen];done) | (simp [maxLen];omega)));clear hS;intro v' w hS;simp only [putW]) | (refine load1 hS rfl rfl rfl rfl ?_;simp only [putW]) | (refine loadAll hS rfl rfl rfl ?_ ?_;rfl;simp only [putW]) | (refine loadPart hS rfl rfl rfl ?_ rfl ?_;rfl;simp only [putW]) | (refine store1 hS rfl rfl rfl rfl rfl ?_ ?_;(focus (simp;done));clear hS;intro w hS;simp only [evW,putW] at hS;try simp only [putW]) | (refine storeAll hS rfl rfl rfl rfl ?_ ?_ ?_ ?_;rfl;(focus (simp [Value.oneCell'];done));rfl;clear hS;intro w hS;try simp only [putW]) | (refine storeN hS rfl rfl rfl rfl ?_ ?_ ?_ ?_;rfl;(focus (simp [Value.oneCell'];done));(focus (simp;done));clear hS;intro w hS;simp at hS;try simp only [putW]) | (refine alloc hS rfl rfl ?_;clear hS;intro mb w hS;simp only [putW]) | (refine box1 hS rfl rfl rfl rfl ?_;clear hS;intro mb w hS;try simp only [evW,putW] at hS;simp only [putW]) | (refine boxN hS rfl rfl rfl ?_;clear hS;intro mb w hS;simp only [putW]))
    go_ret
    exact ⟨_,rfl,hS⟩
set_option maxHeartbeats 400000 in
theorem put8 (N : Nat) (hn : N < 18446744073709551616) (ha : RB w0 A va) (hb : A.length ≤ 100000000000000) :
    Calls Tryd.prog 52 #[va,.int .u64 (N : Int),.int .i64 8] w0 fun e w' => ∃ v,e = .returned (.tuple #[v,.int .i64 0]) ∧ Sat w0 [(blk v,sl 1 by8 (A ++ be 8 N) 5 v)] w' := by
  have hS := Sat.refl w0
  have hax := ha
  obtain ⟨pa,ca,rfl,hla,hata⟩ := ha.at
  clear hata ha
  go_enter Tryd.func52,Tryd.ntmps52
  go_wp2_with (first | (guard_target =~ wpList _ _ _ (Oper.mk (some 33) _ _ _ _ _::_) _ _;refine Stopped.out ?_) | (first | (refine load1 hS rfl rfl rfl rfl ?_;simp only [putW]) | (refine loadAll hS rfl rfl rfl ?_ ?_;rfl;simp only [putW]) | (refine loadPart hS rfl rfl rfl ?_ rfl ?_;rfl;simp only [putW]) | (refine store1 hS rfl rfl rfl rfl rfl ?_ ?_;(focus (simp;done));clear hS;intro w hS;simp only [evW,putW] at hS;try simp only [putW]) | (refine storeAll hS rfl rfl rfl rfl ?_ ?_ ?_ ?_;rfl;(focus (simp [Value.oneCell'];done));rfl;clear hS;intro w hS;try simp only [putW]) | (refine storeN hS rfl rfl rfl rfl ?_ ?_ ?_ ?_;rfl;(focus (simp [Value.oneCell'];done));(focus (simp;done));clear hS;intro w hS;simp at hS;try simp only [putW]) | (refine alloc hS rfl rfl ?_;clear hS;intro mb w hS;simp only [putW]) | (refine box1 hS rfl rfl rfl rfl ?_;clear hS;intro mb w hS;try simp only [evW,putW] at hS;simp only [putW]) | (refine boxN hS rfl rfl rfl ?_;clear hS;intro mb w hS;simp only [putW])))
  refine ⟨?_⟩
  refine makeLC hS rfl rfl A.length (A.length + 8) rfl rfl 0 ?_ ?_ ?_ ?_
  · omega
  · omega
  · simp [maxLen];omega
  clear hS
  intro mb w hS
  simp only [putW]
  go_wp2_with (first | (guard_target =~ wpList _ _ _ (Oper.mk (some 36) _ _ _ _ _::_) _ _;refine Stopped.out ?_) | (refine load1 hS rfl rfl rfl rfl ?_;simp only [putW]) | (refine loadAll hS rfl rfl rfl ?_ ?_;rfl;simp only [putW]) | (refine loadPart hS rfl rfl rfl ?_ rfl ?_;rfl;simp only [putW]) | (refine store1 hS rfl rfl rfl rfl rfl ?_ ?_;(focus (simp;done));clear hS;intro w hS;simp only [evW,putW] at hS;try simp only [putW]) | (refine storeAll hS rfl rfl rfl rfl ?_ ?_ ?_ ?_;rfl;(focus (simp [Value.oneCell'];done));rfl;clear hS;intro w hS;try simp only [putW]) | (refine storeN hS rfl rfl rfl rfl ?_ ?_ ?_ ?_;rfl;(focus (simp [Value.oneCell'];done));(focus (simp;done));clear hS;intro w hS;simp at hS;try simp only [putW]) | (refine alloc hS rfl rfl ?_;clear hS;intro mb w hS;simp only [putW]) | (refine box1 hS rfl rfl rfl rfl ?_;clear hS;intro mb w hS;try simp only [evW,putW] at hS;simp only [putW]) | (refine boxN hS rfl rfl rfl ?_;clear hS;intro mb w hS;simp only [putW]))
  refine ⟨?_⟩
  refine copyB hS rfl rfl rfl rfl A (hax.mono hS.base) ?_ A.length ?_ ?_ ?_
  · simp [Value.oneCell']
  · simp
  · simp
  clear hS;intro w hS;simp only [putW]
  rw [show (List.replicate A.length (0 : Int)).take 0 ++ A.take A.length ++ (List.replicate A.length (0 : Int)).drop (0 + A.length) = A by simp] at hS
  replace hS := hS.slOfSlc
  go_wp2_with (first | (refine load1 hS rfl rfl rfl rfl ?_;simp only [putW]) | (refine loadAll hS rfl rfl rfl ?_ ?_;rfl;simp only [putW]) | (refine loadPart hS rfl rfl rfl ?_ rfl ?_;rfl;simp only [putW]) | (refine store1 hS rfl rfl rfl rfl rfl ?_ ?_;(focus (simp;done));clear hS;intro w hS;simp only [evW,putW] at hS;try simp only [putW]) | (refine storeAll hS rfl rfl rfl rfl ?_ ?_ ?_ ?_;rfl;(focus (simp [Value.oneCell'];done));rfl;clear hS;intro w hS;try simp only [putW]) | (refine storeN hS rfl rfl rfl rfl ?_ ?_ ?_ ?_;rfl;(focus (simp [Value.oneCell'];done));(focus (simp;done));clear hS;intro w hS;simp at hS;try simp only [putW]) | (refine alloc hS rfl rfl ?_;clear hS;intro mb w hS;simp only [putW]) | (refine box1 hS rfl rfl rfl rfl ?_;clear hS;intro mb w hS;try simp only [evW,putW] at hS;simp only [putW]) | (refine boxN hS rfl rfl rfl ?_;clear hS;intro mb w hS;simp only [putW]))
  go_loopw [8,9] (fun v i wr => ∃ k : Nat,k ≤ 8 ∧ i = .int .i64 ((k : Int) - 1) ∧ ∃ L,Hid (L ++ be k N = A ++ be 8 N) ∧ Hid (L.length ≤ A.length + 8) ∧ Sat w0 [(blk v,sl 1 by8 L 5 v)] wr) (fun _ i _ => ((intOf i) + 1).toNat)
  case atStart => exact ⟨8,Nat.le_refl _,rfl,A,rfl,by show A.length ≤ A.length + 8;omega,hS⟩
  case round =>
    clear hS
    obtain ⟨k,hk,rfl,L,hL,hLl,hS⟩ := hrel
    by_cases hlt : k = 0
    · subst hlt
      go_wp2_with (first | (refine load1 hS rfl rfl rfl rfl ?_;simp only [putW]) | (refine loadAll hS rfl rfl rfl ?_ ?_;rfl;simp only [putW]) | (refine loadPart hS rfl rfl rfl ?_ rfl ?_;rfl;simp only [putW]) | (refine store1 hS rfl rfl rfl rfl rfl ?_ ?_;(focus (simp;done));clear hS;intro w hS;simp only [evW,putW] at hS;try simp only [putW]) | (refine storeAll hS rfl rfl rfl rfl ?_ ?_ ?_ ?_;rfl;(focus (simp [Value.oneCell'];done));rfl;clear hS;intro w hS;try simp only [putW]) | (refine storeN hS rfl rfl rfl rfl ?_ ?_ ?_ ?_;rfl;(focus (simp [Value.oneCell'];done));(focus (simp;done));clear hS;intro w hS;simp at hS;try simp only [putW]) | (refine alloc hS rfl rfl ?_;clear hS;intro mb w hS;simp only [putW]) | (refine box1 hS rfl rfl rfl rfl ?_;clear hS;intro mb w hS;try simp only [evW,putW] at hS;simp only [putW]) | (refine boxN hS rfl rfl rfl ?_;clear hS;intro mb w hS;simp only [putW]))
      go_ret2
      have e : L = A ++ be 8 N := by have := hL.out;simpa [be] using this
      exact ⟨_,rfl,by rw [← e];exact hS⟩
    · obtain ⟨k,rfl⟩ : ∃ j,k = j + 1 := ⟨k - 1,by omega⟩
      have hL2 : L.length ≤ A.length + 8 := hLl.out
      go_wp2_with (first | (refine buildSlice1 (c := #[.int .u8 ((N : Int) / 2 ^ (8 * k) % 256)]) hS rfl rfl rfl ?_ ?_ ?_ ?_;rfl;rfl;rfl;clear hS;intro mb w hS;simp only [putW]) | (refine append1 (f := by8) hS rfl rfl u8 rfl rfl ((N : Int) / 2 ^ (8 * k) % 256) ?_ ?_ ?_ ?_ ?_ ?_;rfl;(focus (simp [by8,one,Value.oneCell'];done));rfl;(focus (first | omega | (simp [maxLen];done) | (simp [maxLen];omega)));(focus (first | omega | (simp [maxLen];done) | (simp [maxLen];omega)));clear hS;intro v' w hS;simp only [putW]) | (refine load1 hS rfl rfl rfl rfl ?_;simp only [putW]) | (refine loadAll hS rfl rfl rfl ?_ ?_;rfl;simp only [putW]) | (refine loadPart hS rfl rfl rfl ?_ rfl ?_;rfl;simp only [putW]) | (refine store1 hS rfl rfl rfl rfl rfl ?_ ?_;(focus (simp;done));clear hS;intro w hS;simp only [evW,putW] at hS;try simp only [putW]) | (refine storeAll hS rfl rfl rfl rfl ?_ ?_ ?_ ?_;rfl;(focus (simp [Value.oneCell'];done));rfl;clear hS;intro w hS;try simp only [putW]) | (refine storeN hS rfl rfl rfl rfl ?_ ?_ ?_ ?_;rfl;(focus (simp [Value.oneCell'];done));(focus (simp;done));clear hS;intro w hS;simp at hS;try simp only [putW]) | (refine alloc hS rfl rfl ?_;clear hS;intro mb w hS;simp only [putW]) | (refine box1 hS rfl rfl rfl rfl ?_;clear hS;intro mb w hS;try simp only [evW,putW] at hS;simp only [putW]) | (refine boxN hS rfl rfl rfl ?_;clear hS;intro mb w hS;simp only [putW]))
      go_roundw
      case rel => 
        refine ⟨k,by omega,by go_num,_,?_,?_,hS⟩
        · show _ = _
          rw [byte_at,List.append_assoc];exact hL.out
        · have := congrArg List.length hL.out
          show List.length _ ≤ _
          simp at this ⊢
          omega
      case measure => simp [intOf]
set_option maxHeartbeats 400000 in
theorem put4 (N : Nat) (hn : N < 4294967296) (ha : RB w0 A va) (hb : A.length ≤ 100000000000000) :
    Calls Tryd.prog 52 #[va,.int .u64 (N : Int),.int .i64 4] w0 fun e w' => ∃ v,e = .returned (.tuple #[v,.int .i64 0]) ∧ Sat w0 [(blk v,sl 1 by8 (A ++ be 4 N) 5 v)] w' := by
  have hS := Sat.refl w0
  have hax := ha
  have h0 : (N : Int) / 4294967296 = 0 := by omega
  obtain ⟨pa,ca,rfl,hla,hata⟩ := ha.at
  clear hata ha
  go_enter Tryd.func52,Tryd.ntmps52
  go_wp2_with (first | (guard_target =~ wpList _ _ _ (Oper.mk (some 33) _ _ _ _ _::_) _ _;refine Stopped.out ?_) | (first | (refine load1 hS rfl rfl rfl rfl ?_;simp only [putW]) | (refine loadAll hS rfl rfl rfl ?_ ?_;rfl;simp only [putW]) | (refine loadPart hS rfl rfl rfl ?_ rfl ?_;rfl;simp only [putW]) | (refine store1 hS rfl rfl rfl rfl rfl ?_ ?_;(focus (simp;done));clear hS;intro w hS;simp only [evW,putW] at hS;try simp only [putW]) | (refine storeAll hS rfl rfl rfl rfl ?_ ?_ ?_ ?_;rfl;(focus (simp [Value.oneCell'];done));rfl;clear hS;intro w hS;try simp only [putW]) | (refine storeN hS rfl rfl rfl rfl ?_ ?_ ?_ ?_;rfl;(focus (simp [Value.oneCell'];done));(focus (simp;done));clear hS;intro w hS;simp at hS;try simp only [putW]) | (refine alloc hS rfl rfl ?_;clear hS;intro mb w hS;simp only [putW]) | (refine box1 hS rfl rfl rfl rfl ?_;clear hS;intro mb w hS;try simp only [evW,putW] at hS;simp only [putW]) | (refine boxN hS rfl rfl rfl ?_;clear hS;intro mb w hS;simp only [putW])))
  refine ⟨?_⟩
  refine makeLC hS rfl rfl A.length (A.length + 4) rfl rfl 0 ?_ ?_ ?_ ?_
  · omega
  · omega
  · simp [maxLen];omega
  clear hS
  intro mb w hS
  simp only [putW]
  go_wp2_with (first | (guard_target =~ wpList _ _ _ (Oper.mk (some 36) _ _ _ _ _::_) _ _;refine Stopped.out ?_) | (refine load1 hS rfl rfl rfl rfl ?_;simp only [putW]) | (refine loadAll hS rfl rfl rfl ?_ ?_;rfl;simp only [putW]) | (refine loadPart hS rfl rfl rfl ?_ rfl ?_;rfl;simp only [putW]) | (refine store1 hS rfl rfl rfl rfl rfl ?_ ?_;(focus (simp;done));clear hS;intro w hS;simp only [evW,putW] at hS;try simp only [putW]) | (refine storeAll hS rfl rfl rfl rfl ?_ ?_ ?_ ?_;rfl;(focus (simp [Value.oneCell'];done));rfl;clear hS;intro w hS;try simp only [putW]) | (refine storeN hS rfl rfl rfl rfl ?_ ?_ ?_ ?_;rfl;(focus (simp [Value.oneCell'];done));(focus (simp;done));clear hS;intro w hS;simp at hS;try simp only [putW]) | (refine alloc hS rfl rfl ?_;clear hS;intro mb w hS;simp only [putW]) | (refine box1 hS rfl rfl rfl rfl ?_;clear hS;intro mb w hS;try simp only [evW,putW] at hS;simp only [putW]) | (refine boxN hS rfl rfl rfl ?_;clear hS;intro mb w hS;simp only [putW]))
  refine ⟨?_⟩
  refine copyB hS rfl rfl rfl rfl A (hax.mono hS.base) ?_ A.length ?_ ?_ ?_
  · simp [Value.oneCell']
  · simp
  · simp
  clear hS;intro w hS;simp only [putW]
  rw [show (List.replicate A.length (0 : Int)).take 0 ++ A.take A.length ++ (List.replicate A.length (0 : Int)).drop (0 + A.length) = A by simp] at hS
  replace hS := hS.slOfSlc
  go_wp2_with (first | (refine load1 hS rfl rfl rfl rfl ?_;simp only [putW]) | (refine loadAll hS rfl rfl rfl ?_ ?_;rfl;simp only [putW]) | (refine loadPart hS rfl rfl rfl ?_ rfl ?_;rfl;simp only [putW]) | (refine store1 hS rfl rfl rfl rfl rfl ?_ ?_;(focus (simp;done));clear hS;intro w hS;simp only [evW,putW] at hS;try simp only [putW]) | (refine storeAll hS rfl rfl rfl rfl ?_ ?_ ?_ ?_;rfl;(focus (simp [Value.oneCell'];done));rfl;clear hS;intro w hS;try simp only [putW]) | (refine storeN hS rfl rfl rfl rfl ?_ ?_ ?_ ?_;rfl;(focus (simp [Value.oneCell'];done));(focus (simp;done));clear hS;intro w hS;simp at hS;try simp only [putW]) | (refine alloc hS rfl rfl ?_;clear hS;intro mb w hS;simp only [putW]) | (refine box1 hS rfl rfl rfl rfl ?_;clear hS;intro mb w hS;try simp only [evW,putW] at hS;simp only [putW]) | (refine boxN hS rfl rfl rfl ?_;clear hS;intro mb w hS;simp only [putW]))
  go_loopw [8,9] (fun v i wr => ∃ k : Nat,k ≤ 4 ∧ i = .int .i64 ((k : Int) - 1) ∧ ∃ L,Hid (L ++ be k N = A ++ be 4 N) ∧ Hid (L.length ≤ A.length + 4) ∧ Sat w0 [(blk v,sl 1 by8 L 5 v)] wr) (fun _ i _ => ((intOf i) + 1).toNat)
  case atStart => exact ⟨4,Nat.le_refl _,rfl,A,rfl,by show A.length ≤ A.length + 4;omega,hS⟩
  case round =>
    clear hS
    obtain ⟨k,hk,rfl,L,hL,hLl,hS⟩ := hrel
    by_cases hlt : k = 0
    · subst hlt
      go_wp2_with (first | (refine load1 hS rfl rfl rfl rfl ?_;simp only [putW]) | (refine loadAll hS rfl rfl rfl ?_ ?_;rfl;simp only [putW]) | (refine loadPart hS rfl rfl rfl ?_ rfl ?_;rfl;simp only [putW]) | (refine store1 hS rfl rfl rfl rfl rfl ?_ ?_;(focus (simp;done));clear hS;intro w hS;simp only [evW,putW] at hS;try simp only [putW]) | (refine storeAll hS rfl rfl rfl rfl ?_ ?_ ?_ ?_;rfl;(focus (simp [Value.oneCell'];done));rfl;clear hS;intro w hS;try simp only [putW]) | (refine storeN hS rfl rfl rfl rfl ?_ ?_ ?_ ?_;rfl;(focus (simp [Value.oneCell'];done));(focus (simp;done));clear hS;intro w hS;simp at hS;try simp only [putW]) | (refine alloc hS rfl rfl ?_;clear hS;intro mb w hS;simp only [putW]) | (refine box1 hS rfl rfl rfl rfl ?_;clear hS;intro mb w hS;try simp only [evW,putW] at hS;simp only [putW]) | (refine boxN hS rfl rfl rfl ?_;clear hS;intro mb w hS;simp only [putW]))
      go_ret2
      have e : L = A ++ be 4 N := by have := hL.out;simpa [be] using this
      exact ⟨_,rfl,by rw [← e];exact hS⟩
    · obtain ⟨k,rfl⟩ : ∃ j,k = j + 1 := ⟨k - 1,by omega⟩
      have hL2 : L.length ≤ A.length + 4 := hLl.out
      go_wp2_with (first | (refine buildSlice1 (c := #[.int .u8 ((N : Int) / 2 ^ (8 * k) % 256)]) hS rfl rfl rfl ?_ ?_ ?_ ?_;rfl;rfl;rfl;clear hS;intro mb w hS;simp only [putW]) | (refine append1 (f := by8) hS rfl rfl u8 rfl rfl ((N : Int) / 2 ^ (8 * k) % 256) ?_ ?_ ?_ ?_ ?_ ?_;rfl;(focus (simp [by8,one,Value.oneCell'];done));rfl;(focus (first | omega | (simp [maxLen];done) | (simp [maxLen];omega)));(focus (first | omega | (simp [maxLen];done) | (simp [maxLen];omega)));clear hS;intro v' w hS;simp only [putW]) | (refine load1 hS rfl rfl rfl rfl ?_;simp only [putW]) | (refine loadAll hS rfl rfl rfl ?_ ?_;rfl;simp only [putW]) | (refine loadPart hS rfl rfl rfl ?_ rfl ?_;rfl;simp only [putW]) | (refine store1 hS rfl rfl rfl rfl rfl ?_ ?_;(focus (simp;done));clear hS;intro w hS;simp only [evW,putW] at hS;try simp only [putW]) | (refine storeAll hS rfl rfl rfl rfl ?_ ?_ ?_ ?_;rfl;(focus (simp [Value.oneCell'];done));rfl;clear hS;intro w hS;try simp only [putW]) | (refine storeN hS rfl rfl rfl rfl ?_ ?_ ?_ ?_;rfl;(focus (simp [Value.oneCell'];done));(focus (simp;done));clear hS;intro w hS;simp at hS;try simp only [putW]) | (refine alloc hS rfl rfl ?_;clear hS;intro mb w hS;simp only [putW]) | (refine box1 hS rfl rfl rfl rfl ?_;clear hS;intro mb w hS;try simp only [evW,putW] at hS;simp only [putW]) | (refine boxN hS rfl rfl rfl ?_;clear hS;intro mb w hS;simp only [putW]))
      go_roundw
      case rel => 
        refine ⟨k,by omega,by go_num,_,?_,?_,hS⟩
        · show _ = _
          rw [byte_at,List.append_assoc];exact hL.out
        · have := congrArg List.length hL.out
          show List.length _ ≤ _
          simp at this ⊢
          omega
      case measure => simp [intOf]
end
end Go.Proofs.YtdkimdobcacpfaaDoor
