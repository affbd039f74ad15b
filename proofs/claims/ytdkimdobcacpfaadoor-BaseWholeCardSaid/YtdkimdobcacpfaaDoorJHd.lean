/-
  journal.Head.
  journal.Head: what it refuses.
-/
import Derived.Test.YtdkimdobcacpfaaDoorJPlan
import Derived.Test.YtdkimdobcacpfaaDoorJRow
import Derived.Test.YtdkimdobcacpfaaDoorJ23
set_option linter.unusedSimpArgs false
set_option linter.unusedVariables false
namespace Go.Proofs.YtdkimdobcacpfaaDoor
open Go.RowKit Go.Proofs.YtdkimdobcacpfaaDoor.Sl Go.Proofs.YtdkimdobcacpfaaDoor.Jp

section
variable {w0 : World} {B : List Int} {vb : Value}
theorem cut_take_succ (all : List Int) (n : Nat) : cut all (n + 1) = cut all n ++ [(all.drop (256 * n)).take 256] := by
  unfold cut;rw [List.range_succ,List.map_append];rfl
theorem body_take_succ {B : List Int} {k : Nat} {x : Int} (hx : B[k]? = some x) (P : List Int) :
    (P ++ (B.take (k + 1)).flatMap fun b => be 4 b.toNat) = (P ++ (B.take k).flatMap fun b => be 4 b.toNat) ++ be 4 x.toNat := by
  rw [take_get hx,List.flatMap_append];simp

theorem cells_one {v : Value} (h : v.oneCell' = true) : v.cells = #[v] := by cases v <;> simp_all [Value.cells,Value.oneCell']
/-- What is laid, k blocks in. -/
def part (v : Nat) (B : List Int) (k : Nat) : List Int := (be 8 v ++ be 4 B.length) ++ (B.take k).flatMap fun b => be 4 b.toNat
theorem part_length (v : Nat) (B : List Int) {k : Nat} (h : k ≤ B.length) : (part v B k).length = 12 + 4 * k := by
  unfold part;rw [List.length_append,List.length_append,flat4_length];simp;omega

theorem part_succ {v : Nat} {B : List Int} {k : Nat} {x : Int} (hx : B[k]? = some x) : part v B (k + 1) = part v B k ++ be 4 x.toNat := body_take_succ hx _
theorem part_byt (v : Nat) (B : List Int) (k : Nat) : ∀ b ∈ part v B k,okByte b := by
  intro x hx
  unfold part at hx
  simp only [List.mem_append,List.mem_flatMap] at hx
  rcases hx with (h | h) | ⟨y,_,h⟩
  · exact be_byt _ _ x h
  · exact be_byt _ _ x h
  · exact be_byt _ _ x h
theorem full_part (v : Nat) (B : List Int) (b : Int) : part v B B.length ++ List.replicate (256 * heads b - (12 + 4 * B.length)) 0 = full v B b := by
  unfold part full body;rw [List.take_length,Int.toNat_natCast]
set_option maxRecDepth 100000 in
set_option maxHeartbeats 4000000 in
theorem head_some (v : Nat) (b : Int) (hv : v < 18446744073709551616) (hB : RI w0 B vb) (hk : okL B b) :
    Calls Tryd.prog 54 #[.int .u64 (v : Int),vb,.int .i64 b] w0 fun e w' => ∃ X vo g,X.map (·.2) = cut (full v B b) (heads b) ∧ e = .returned (.tuple #[vo,.int .i64 0]) ∧
      Sat w0 [(g,sl 1 rowF X 48 vo),(0,inn X 5)] w' := by
  have hS := Sat.refl w0
  obtain ⟨n,rfl⟩ : ∃ n : Nat,b = n := ⟨b.toNat,by have := hk.1.1;omega⟩
  have h1 : 1 ≤ n := by have := hk.1.1;omega
  have hn2 : n ≤ 256 := by have := hk.1.2;omega
  have h3 : B.length ≤ n := by have := hk.2.1;omega
  have Hb : Hid (∀ x ∈ B,0 ≤ x ∧ x < 65536) := hk.2.2
  have Hk : Hid (okL B n) := hk
  have hh1 := heads_le n hn2
  have hh2 : 12 + 4 * n ≤ 256 * heads n := by unfold heads;rw [Int.toNat_natCast];omega
  clear hk
  obtain ⟨pb,cb,rfl,hlb,hatb⟩ := hB.at
  clear hB
  go_enter Tryd.func54,Tryd.ntmps54
  go_wp2_with (first | (go_at_call 60;refine Calls.mono (planOf_good n h1 hn2) ?_;rintro _ w2 ⟨g,cap,rfl,h2⟩;replace hS := hS.frame h2;clear h2;(try simp only [List.cons_append,List.nil_append] at hS);simp only [putW]) | (guard_target =~ Calls _ 52 _ _ _;refine Stopped.out ?_) | (refine storeAll hS rfl rfl rfl rfl ?_ ?_ ?_ ?_;rfl;(focus (simp [Value.oneCell'];done));rfl;clear hS;intro w hS;try simp only [putW]) | (refine alloc hS rfl rfl ?_;clear hS;intro mb w hS;simp only [putW]))
  refine ⟨?_⟩
  have hnil : RB w0 [] (.slice none 0 0) := .inl ⟨rfl,.inl rfl⟩
  (refine Calls.mono (put8 v hv (hnil.mono hS.base) (by simp)) ?_;rintro _ w2 ⟨v1,rfl,h2⟩;replace hS := hS.frame h2;clear h2;(try simp only [List.cons_append,List.nil_append] at hS);simp only [putW])
  go_wp2_with (guard_target =~ Calls _ 52 _ _ _;refine Stopped.out ?_)
  refine ⟨?_⟩
  (refine Calls.mono (put4 B.length (by omega) (hS.readsSl (v := v1) (be_byt _ _)) (by simp)) ?_;rintro _ w2 ⟨v2,rfl,h2⟩;replace hS := hS.frame h2;clear h2;(try simp only [List.cons_append,List.nil_append] at hS);simp only [putW])
  go_wp2_with (refine load1 hS rfl rfl rfl rfl ?_;simp only [putW])
  simp only [show ¬ n < B.length by omega,decide_false]
  go_loopw [10,44] (fun vv i wr => ∃ k : Nat,k ≤ B.length ∧ i = .int .i64 k ∧ Sat w0 [(blk vv,sl 1 by8 (part v B k) 5 vv),(mb,cells #[.int .i64 1,.int .i64 n,.int .i64 1,.slice (some ⟨g,0,none⟩) 1 cap,.int .i64 1,.int .i64 3,.int .i64 (heads n),.int .i64 (3 + heads n),.int .i64 (3 + heads n + n),.int .i64 (3 + heads n + n + n)] 60)] wr) (fun _ i _ => B.length - (intOf i).toNat)
  case atStart =>
    refine ⟨0,Nat.zero_le _,rfl,?_⟩
    have e : part v B 0 = be 8 v ++ be 4 B.length := by simp [part]
    rw [e];exact hS.conv
  case round =>
    clear hS
    obtain ⟨k,hk,rfl,hS⟩ := hrel
    by_cases hlt : k < B.length
    · obtain ⟨x,hx⟩ : ∃ x,B[k]? = some x := ⟨_,List.getElem?_eq_getElem hlt⟩
      obtain ⟨bb,ob,rfl,hBb⟩ := hatb (by intro e;subst e;simp at hlt)
      have hx2 := Hb.out x (List.mem_of_getElem? hx)
      have hsucc := part_succ (v := v) hx
      have Hsucc : Hid _ := hsucc
      clear hsucc
      obtain ⟨N,rfl⟩ : ∃ N : Nat,x = N := ⟨x.toNat,by omega⟩
      have hl4 : Hid ((part v B k).length ≤ 100000000000000) := by show _ ≤ _;rw [part_length v B hk];omega
      go_wp2_with (first | (refine loadB (f := i64) hS rfl rfl rfl hBb k 0 ?_ hx rfl ?_;omega;simp only [putW]) | (guard_target =~ Calls _ 52 _ _ _;refine Stopped.out ?_))
      refine ⟨?_⟩
      (refine Calls.mono (put4 N (by omega) (hS.readsSl (v := u10) (part_byt v B k)) hl4.out) ?_;rintro _ w2 ⟨v3,rfl,h2⟩;replace hS := hS.frame h2;clear h2;(try simp only [List.cons_append,List.nil_append] at hS);simp only [putW])
      rw [show part v B k ++ be 4 N = part v B (k + 1) by rw [Hsucc.out,Int.toNat_natCast]] at hS
      go_wp2_with (refine load1 hS rfl rfl rfl rfl ?_;simp only [putW])
      go_roundw
      case rel => exact ⟨k + 1,by omega,by go_num,hS.conv⟩
      case measure => simp [intOf];omega
    · have hks : k = B.length := by omega
      subst hks
      have hpl := part_length v B (Nat.le_refl B.length)
      obtain ⟨gb,cb2,rfl,hS2⟩ := hS.slForm (12 + 4 * B.length) hpl (by omega)
      clear hS
      have hS := hS2
      clear hS2
      have HP : Hid _ := hpl
      clear hpl
      go_wp2_with (first | (guard_target =~ wpList _ _ _ (Oper.mk (some 69) _ _ _ _ _::_) _ _;refine Stopped.out ?_) | (refine load1 hS rfl rfl rfl rfl ?_;simp only [putW]))
      refine ⟨?_⟩
      refine appendZ (kq := .i64) hS rfl rfl (.slice (some ⟨gb,0,none⟩) (12 + 4 * B.length) cb2) rfl (256 * heads n - (12 + 4 * B.length)) ?_ Tryd.underlying3 0 rfl ?_ ?_ ?_
      · show Value.int .i64 _ = _
        refine congrArg (Value.int .i64) ?_
        omega
      · rw [HP.out];simp [maxLen];omega
      · rw [HP.out];omega
      clear hS;intro v4 w hS;simp only [putW]
      rw [full_part] at hS
      have hfl := full_length (v := (v : Int)) Hk.out
      obtain ⟨ga,ca,rfl,hS2⟩ := hS.slFormC (256 * heads n) hfl (by omega)
      clear hS
      have hS := hS2
      clear hS2
      have HF : Hid _ := hfl
      clear hfl
      have hS1 := (hS.innNil 0 5).slNil 1 rowF 48
      go_wp2_with (refine load1 hS rfl rfl rfl rfl ?_;simp only [putW])
      go_loopw [14,15] (fun out at' wr => ∃ (k : Nat) (X : List (Value × List Int)) (g' : Nat),k ≤ heads n ∧ at' = .int .i64 ((256 * k : Nat) : Int) ∧ Hid (X.map (·.2) = cut (full v B n) k) ∧ Hid (X.length = k) ∧ Sat w0 [(g',sl 1 rowF X 48 out),(0,inn X 5),(ga,slc 1 by8 (full v B n) ca 5)] wr) (fun _ i _ => 256 * heads n - (intOf i).toNat)
      case atStart => exact ⟨0,[],0,Nat.zero_le _,rfl,rfl,rfl,hS1.conv⟩
      case round =>
        clear hS hS1
        obtain ⟨k,X,g',hk,rfl,hX,hXl,hS⟩ := hrel
        by_cases hlt : k < heads n
        · have hk5 : k < 5 := by omega
          have hfc := hS.slcFacts (g := ga) (n := 1) (f := by8) (l := full v B n) (cap := ca) (t := 5)
          have hca : 256 * heads n ≤ ca := by have := hfc.1;rw [HF.out] at this;exact this
          have hcm : Hid (ca ≤ maxLen) := hfc.2.1
          clear hfc
          go_wp2_with (guard_target =~ Calls _ 64 _ _ _;refine Stopped.out ?_)
          refine ⟨?_⟩
          have hrd := hS.readsPart (g := ga) (A := full v B n) (cap := ca) (t := 5) (i := 256 * k) (m := 256) (cap' := ca - 256 * k) (ap := ⟨ga,256 * k,none⟩) (full_byt _ _ _) (by rw [HF.out];omega) rfl (by omega) (Nat.le_trans (Nat.sub_le _ _) hcm.out)
          have hlr : ((List.drop (256 * k) (full v B n)).take 256).length ≤ 140737488355328 := by rw [List.length_take];omega
          (refine Calls.mono (clone_any hrd hlr) ?_;rintro _ w2 ⟨vc,rfl,h2⟩;replace hS := hS.frame h2;clear h2;(try simp only [List.cons_append,List.nil_append] at hS);simp only [putW])
          have hvc : vc.oneCell' = true := hS.slCell (α := Int) (v := vc)
          clear hrd hlr
          have hcv : vc.cells = #[vc] := cells_one hvc
          go_wp2_with (guard_target =~ wpList _ _ _ (Oper.mk (some 83) _ _ _ _ _::_) _ _;refine Stopped.out ?_)
          refine ⟨?_⟩
          refine buildSlice1 (c := #[vc]) hS rfl rfl hcv rfl rfl rfl ?_
          clear hS;intro mz w hS;simp only [putW]
          go_wp2_with (guard_target =~ wpList _ _ _ (Oper.mk (some 84) _ _ _ _ _::_) _ _;refine Stopped.out ?_)
          refine ⟨?_⟩
          refine append1 (f := rowF) hS rfl rfl u14 rfl rfl ((vc,(List.drop (256 * k) (full v B n)).take 256)) rfl ?_ rfl ?_ ?_ ?_
          · simp [hvc]
          · have := hXl.out;rw [this];simp [maxLen];omega
          · have := hXl.out;rw [this];omega
          clear hS;intro v5 w hS;simp only [putW]
          replace hS := hS.innAdd (v := vc) (j := 0) (X := X) rfl
          go_wp2_with (refine load1 hS rfl rfl rfl rfl ?_;simp only [putW])
          go_roundw
          case rel =>
            refine ⟨k + 1,X ++ [(vc,(List.drop (256 * k) (full v B n)).take 256)],blk v5,by omega,by go_num,?_,?_,hS.conv⟩
            · show _ = _
              rw [List.map_append,hX.out,cut_take_succ];rfl
            · show List.length _ = _
              rw [List.length_append,hXl.out];rfl
          case measure => simp [intOf];omega
        · have hkh : k = heads n := by omega
          subst hkh
          go_wp2_with (refine load1 hS rfl rfl rfl rfl ?_;simp only [putW])
          go_ret2
          exact ⟨X,u14,g',hX.out,rfl,hS.conv⟩
end
end Go.Proofs.YtdkimdobcacpfaaDoor
namespace Go.Proofs.YtdkimdobcacpfaaDoor
open Go.RowKit Go.Proofs.YtdkimdobcacpfaaDoor.Sl Go.Proofs.YtdkimdobcacpfaaDoor.Jp

section
variable {w0 : World} {B : List Int} {vb : Value}
set_option maxRecDepth 100000 in
set_option maxHeartbeats 4000000 in
theorem head_off (v : Nat) (b : Int) (hv : v < 18446744073709551616) (hB : RI w0 B vb) (hk : okB b) (hn : ¬ okL B b) :
    Calls Tryd.prog 54 #[.int .u64 (v : Int),vb,.int .i64 b] w0 fun e w' => e = .returned (.tuple #[.slice none 0 0,.int .i64 1]) ∧ Sat w0 [] w' := by
  have hS := Sat.refl w0
  obtain ⟨n,rfl⟩ : ∃ n : Nat,b = n := ⟨b.toNat,by have := hk.1;omega⟩
  have h1 : 1 ≤ n := by have := hk.1;omega
  have hn2 : n ≤ 256 := by have := hk.2;omega
  have Hn : Hid (¬ okL B n) := hn
  have Hk : Hid (okB n) := hk
  have hh1 := heads_le n hn2
  clear hk hn
  obtain ⟨pb,cb,rfl,hlb,hatb⟩ := hB.at
  clear hB
  by_cases h3 : n < B.length
  · go_enter Tryd.func54,Tryd.ntmps54
    go_wp2_with (first | (go_at_call 60;refine Calls.mono (planOf_good n h1 hn2) ?_;rintro _ w2 ⟨g,cap,rfl,h2⟩;replace hS := hS.frame h2;clear h2;(try simp only [List.cons_append,List.nil_append] at hS);simp only [putW]) | (refine storeAll hS rfl rfl rfl rfl ?_ ?_ ?_ ?_;rfl;(focus (simp [Value.oneCell'];done));rfl;clear hS;intro w hS;try simp only [putW]) | (refine alloc hS rfl rfl ?_;clear hS;intro mb w hS;simp only [putW]))
    go_ret2
    exact ⟨rfl,hS.conv⟩
  go_enter Tryd.func54,Tryd.ntmps54
  go_wp2_with (first | (go_at_call 60;refine Calls.mono (planOf_good n h1 hn2) ?_;rintro _ w2 ⟨g,cap,rfl,h2⟩;replace hS := hS.frame h2;clear h2;(try simp only [List.cons_append,List.nil_append] at hS);simp only [putW]) | (guard_target =~ Calls _ 52 _ _ _;refine Stopped.out ?_) | (refine storeAll hS rfl rfl rfl rfl ?_ ?_ ?_ ?_;rfl;(focus (simp [Value.oneCell'];done));rfl;clear hS;intro w hS;try simp only [putW]) | (refine alloc hS rfl rfl ?_;clear hS;intro mb w hS;simp only [putW]))
  refine ⟨?_⟩
  have hnil : RB w0 [] (.slice none 0 0) := .inl ⟨rfl,.inl rfl⟩
  (refine Calls.mono (put8 v hv (hnil.mono hS.base) (by simp)) ?_;rintro _ w2 ⟨v1,rfl,h2⟩;replace hS := hS.frame h2;clear h2;(try simp only [List.cons_append,List.nil_append] at hS);simp only [putW])
  go_wp2_with (guard_target =~ Calls _ 52 _ _ _;refine Stopped.out ?_)
  refine ⟨?_⟩
  (refine Calls.mono (put4 B.length (by omega) (hS.readsSl (v := v1) (be_byt _ _)) (by simp)) ?_;rintro _ w2 ⟨v2,rfl,h2⟩;replace hS := hS.frame h2;clear h2;(try simp only [List.cons_append,List.nil_append] at hS);simp only [putW])
  go_wp2_with (refine load1 hS rfl rfl rfl rfl ?_;simp only [putW])
  go_loopw [10,44] (fun vv i wr => ∃ k : Nat,k ≤ B.length ∧ i = .int .i64 k ∧ Hid (∀ x ∈ B.take k,0 ≤ x ∧ x < 65536) ∧ Sat w0 [(blk vv,sl 1 by8 (part v B k) 5 vv),(mb,cells #[.int .i64 1,.int .i64 n,.int .i64 1,.slice (some ⟨g,0,none⟩) 1 cap,.int .i64 1,.int .i64 3,.int .i64 (heads n),.int .i64 (3 + heads n),.int .i64 (3 + heads n + n),.int .i64 (3 + heads n + n + n)] 60)] wr) (fun _ i _ => B.length - (intOf i).toNat)
  case atStart =>
    refine ⟨0,Nat.zero_le _,rfl,(by intro x hx;simp at hx),?_⟩
    have e : part v B 0 = be 8 v ++ be 4 B.length := by simp [part]
    rw [e];exact hS.conv
  case round =>
    clear hS
    obtain ⟨k,hk,rfl,hall,hS⟩ := hrel
    by_cases hlt : k < B.length
    · obtain ⟨x,hx⟩ : ∃ x,B[k]? = some x := ⟨_,List.getElem?_eq_getElem hlt⟩
      obtain ⟨bb,ob,rfl,hBb⟩ := hatb (by intro e;subst e;simp at hlt)
      by_cases hx2 : 0 ≤ x ∧ x < 65536
      rotate_left
      · by_cases hx0 : x < 0
        · go_wp2_with (refine loadB (f := i64) hS rfl rfl rfl hBb k 0 ?_ hx rfl ?_;omega;simp only [putW])
          go_ret2
          exact ⟨rfl,hS.conv⟩
        · have hx6 : 65536 ≤ x := by omega
          go_wp2_with (refine loadB (f := i64) hS rfl rfl rfl hBb k 0 ?_ hx rfl ?_;omega;simp only [putW])
          go_ret2
          exact ⟨rfl,hS.conv⟩
      have Hx2 : Hid (0 ≤ x ∧ x < 65536) := hx2
      have hsucc := part_succ (v := v) hx
      have Hsucc : Hid _ := hsucc
      clear hsucc
      obtain ⟨N,rfl⟩ : ∃ N : Nat,x = N := ⟨x.toNat,by omega⟩
      have hl4 : Hid ((part v B k).length ≤ 100000000000000) := by show _ ≤ _;rw [part_length v B hk];omega
      go_wp2_with (first | (refine loadB (f := i64) hS rfl rfl rfl hBb k 0 ?_ hx rfl ?_;omega;simp only [putW]) | (guard_target =~ Calls _ 52 _ _ _;refine Stopped.out ?_))
      refine ⟨?_⟩
      (refine Calls.mono (put4 N (by omega) (hS.readsSl (v := u10) (part_byt v B k)) hl4.out) ?_;rintro _ w2 ⟨v3,rfl,h2⟩;replace hS := hS.frame h2;clear h2;(try simp only [List.cons_append,List.nil_append] at hS);simp only [putW])
      rw [show part v B k ++ be 4 N = part v B (k + 1) by rw [Hsucc.out,Int.toNat_natCast]] at hS
      go_wp2_with (refine load1 hS rfl rfl rfl rfl ?_;simp only [putW])
      go_roundw
      case rel => exact ⟨k + 1,by omega,by go_num,(by rw [take_get hx];intro y hy;rcases List.mem_append.1 hy with h | h;exact hall.out y h;rw [List.mem_singleton.1 h];exact Hx2.out),hS.conv⟩
      case measure => simp [intOf];omega
    · exfalso
      have hks : k = B.length := Nat.le_antisymm hk (Nat.le_of_not_lt hlt)
      have h4 : (B.length : Int) ≤ n := by omega
      have h5 : ∀ x ∈ B,0 ≤ x ∧ x < 65536 := fun x hx => hall.out x (by rw [hks,List.take_length];exact hx)
      exact Hn.out ⟨Hk.out,h4,h5⟩
end
end Go.Proofs.YtdkimdobcacpfaaDoor
