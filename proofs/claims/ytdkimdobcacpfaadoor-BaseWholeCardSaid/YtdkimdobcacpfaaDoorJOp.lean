/-
  row.New, row.Reader: Num, Fault.
  row.Reader.safely and its deferred closure; Num.
  row.Reader.Num.
  What the loop of journal.Open keeps.
  journal.Open.
-/
import Derived.Test.YtdkimdobcacpfaaDoorJRow
import Derived.Test.YtdkimdobcacpfaaDoorJ23
import Derived.Defers
import Derived.Recover
import Derived.Lib.EndianBits
import Derived.Test.YtdkimdobcacpfaaDoorJJoin
import Derived.Test.YtdkimdobcacpfaaDoorJHd
set_option linter.unusedSimpArgs false
set_option linter.unusedVariables false
namespace Go.Proofs.YtdkimdobcacpfaaDoor
open Go.RowKit Go.Proofs.YtdkimdobcacpfaaDoor.Sl Go.Proofs.YtdkimdobcacpfaaDoor.Jp

section
variable {w0 w : World} {S F F' F1 F2 F3 F4 : List Chunk} {A : List Int} {va : Value} {rb : Nat}
theorem slIs {α : Type} {n g : Nat} {f : α → List Value} {L : List α} {t : TypeId} {v : Value} (h : Sat w0 S w) [p : PullSl S v g n f L t F] : ∃ q m c,v = .slice q m c := by
  rcases (h.perm p.perm).slCases with ⟨rfl,_,_⟩ | ⟨cap,rfl,_⟩
  · exact ⟨_,_,_,rfl⟩
  · exact ⟨_,_,_,rfl⟩
set_option maxHeartbeats 400000 in
theorem rowNew_any (ha : RB w0 A va) (hb : A.length ≤ 140737488355328) : Calls Tryd.prog 72 #[va] w0 fun e w' => ∃ rb v,e = .returned (.pointer (some ⟨rb,0,none⟩)) ∧
    Sat w0 [(rb,cells #[v,.int .i64 0] 159),(blk v,sl 1 by8 A 5 v)] w' := by
  have hS := Sat.refl w0
  go_enter Tryd.func72,Tryd.ntmps72
  go_wp2_with (guard_target =~ Calls _ 64 _ _ _;refine Stopped.out ?_)
  refine ⟨?_⟩
  (refine Calls.mono (clone_any ha hb) ?_;rintro _ w2 ⟨v,rfl,h2⟩;replace hS := hS.frame h2;clear h2;(try simp only [List.cons_append,List.nil_append] at hS);simp only [putW])
  obtain ⟨p,n,c,rfl⟩ := slIs (α := Int) (v := v) hS
  go_wp2_with (refine boxN hS rfl rfl rfl ?_;clear hS;intro mb w hS;simp only [putW])
  go_ret
  exact ⟨_,_,rfl,hS⟩

/-- What giving up leaves. -/
def gaveUp (f : Int) : List PanicEntry := [{ v := .iface 172 (.agg #[.int .i64 f]),recovered := false }]
set_option maxHeartbeats 400000 in
theorem need_fault (size : Int) (right : Bool) (v : Value) (f : Int) (hf : f ≠ 0) (hS : Sat w0 S w) [p : Pull S rb (cells #[v,.int .i64 f] 159) F] :
    Calls Tryd.prog 87 #[.pointer (some ⟨rb,0,none⟩),.int .i64 size,.bool right] w fun e w' => e = .panicked (gaveUp f) ∧ Sat w0 S w' := by
  have hf2 : (f == 0) = false := by simpa using hf
  go_enter Tryd.func87,Tryd.ntmps87
  go_wp2_with (refine load1 hS rfl rfl rfl rfl ?_;simp only [putW])
  exact ⟨rfl,rfl,hS⟩
set_option maxHeartbeats 400000 in
theorem need_short (size : Int) (p0 : Option Addr) (len cap : Nat) (hl : (len : Int) < size) (hS : Sat w0 S w) [p : Pull S rb (cells #[.slice p0 len cap,.int .i64 0] 159) F] :
    Calls Tryd.prog 87 #[.pointer (some ⟨rb,0,none⟩),.int .i64 size,.bool true] w fun e w' => e = .panicked (gaveUp 2) ∧ Sat w0 S w' := by
  go_enter Tryd.func87,Tryd.ntmps87
  go_wp2_with (refine load1 hS rfl rfl rfl rfl ?_;simp only [putW])
  exact ⟨rfl,rfl,hS⟩
set_option maxHeartbeats 400000 in
theorem need_ok (size : Int) (p0 : Option Addr) (len cap : Nat) (hl : size ≤ (len : Int)) (hS : Sat w0 S w) [p : Pull S rb (cells #[.slice p0 len cap,.int .i64 0] 159) F] :
    Calls Tryd.prog 87 #[.pointer (some ⟨rb,0,none⟩),.int .i64 size,.bool true] w fun e w' => e = .returned (.tuple #[]) ∧ Sat w0 S w' := by
  have hl2 : ¬ ((len : Int) < size) := by omega
  go_enter Tryd.func87,Tryd.ntmps87
  go_wp2_with (refine load1 hS rfl rfl rfl rfl ?_;simp only [putW])
  go_end0
  exact ⟨rfl,hS⟩
set_option maxHeartbeats 400000 in
theorem fault_any (v : Value) (f : Int) (hS : Sat w0 S w) [p : Pull S rb (cells #[v,.int .i64 f] 159) F] :
    Calls Tryd.prog 75 #[.pointer (some ⟨rb,0,none⟩)] w fun e w' => e = .returned (.int .i64 f) ∧ Sat w0 S w' := by
  go_enter Tryd.func75,Tryd.ntmps75
  go_wp2_with (refine load1 hS rfl rfl rfl rfl ?_;simp only [putW])
  go_ret
  exact ⟨rfl,hS⟩

/-- What is left of bytes, k in. -/
def Rest (g : Nat) (B : List Int) (k : Nat) (v : Value) : Prop := ∃ p c,v = .slice p (B.length - k) c ∧ k ≤ B.length ∧ B.length - k ≤ c ∧ c ≤ maxLen ∧ (k < B.length → p = some ⟨g,k,none⟩)
/-- A reader, k bytes in, over bytes of its own. -/
def rdrL (B : List Int) (v0 v : Value) (rb : Nat) : List Chunk := [(rb,cells #[v,.int .i64 0] 159),(blk v0,sl 1 by8 B 5 v0)]
def rdr (B : List Int) (k : Nat) : K := fun rb h => ∃ v0 v,Rest (blk v0) B k v ∧ holds (rdrL B v0 v rb) h
/-- .. that gave up. -/
def rdrF (f : Int) : K := cells #[.slice none 0 0,.int .i64 f] 159
theorem rdr_open (hS : Sat w0 S w) {B : List Int} {k : Nat} [p : Pull S rb (rdr B k) F] : ∃ v0 v,Rest (blk v0) B k v ∧ Sat w0 ((rb,cells #[v,.int .i64 0] 159)::(blk v0,sl 1 by8 B 5 v0)::F) w := by
  obtain ⟨v0,hS⟩ := (hS.perm p.perm).ex (Z := fun v0 rb h => ∃ v,Rest (blk v0) B k v ∧ holds (rdrL B v0 v rb) h) fun _ h => h
  obtain ⟨v,hS⟩ := hS.ex (Z := fun v rb h => Rest (blk v0) B k v ∧ holds (rdrL B v0 v rb) h) fun _ h => h
  obtain ⟨hR,hS⟩ := hS.and (Y := fun rb h => holds (rdrL B v0 v rb) h) fun _ h => h
  exact ⟨v0,v,hR,hS.open (T := rdrL B v0 v rb) fun _ h => h⟩
theorem rdr_close (rb : Nat) {B : List Int} {k : Nat} {v0 v : Value} (hR : Rest (blk v0) B k v) (hS : Sat w0 ((rb,cells #[v,.int .i64 0] 159)::(blk v0,sl 1 by8 B 5 v0)::F) w) : Sat w0 ((rb,rdr B k)::F) w :=
  Sat.close (T := rdrL B v0 v rb) hS fun _ h => ⟨v0,v,hR,h⟩

set_option maxHeartbeats 1000000 in
theorem num1_ok {B : List Int} {k s : Nat} {p0 p1 p2 g cap : Nat} {v : Value} (h1s : 1 ≤ s) (hs8 : s ≤ 8) (hks : k + s ≤ B.length) (hB : ∀ b ∈ B,okByte b) (hR : Rest g B k v)
    (hS : Sat w0 S w) [q0 : Pull S p0 (cells #[.pointer (some ⟨rb,0,none⟩)] 144) F] [q1 : Pull F p1 (cells #[.int .i64 (s : Int)] 3) F1] [q2 : Pull F1 p2 (cells #[.int .u64 0] 23) F2]
    [q3 : Pull F2 rb (cells #[v,.int .i64 0] 159) F3] [q4 : Pull F3 g (slc 1 by8 B cap 5) F4] :
    Calls Tryd.prog 86 #[.pointer (some ⟨p0,0,none⟩),.pointer (some ⟨p1,0,none⟩),.pointer (some ⟨p2,0,none⟩)] w fun e w' => e = .returned (.tuple #[]) ∧
      ∃ v',Rest g B (k + s) v' ∧ Sat w0 ((p2,cells #[.int .u64 (num ((B.drop k).take s))] 23)::(rb,cells #[v',.int .i64 0] 159)::(g,slc 1 by8 B cap 5)::F4) w' := by
  obtain ⟨pp,c,rfl,hk1,hk2,hk3,hk4⟩ := hR
  obtain rfl := hk4 (by omega)
  replace hS := hS.perm (q0.perm.trans ((q1.perm.trans ((q2.perm.trans ((q3.perm.trans (q4.perm.cons _)).cons _)).cons _)).cons _))
  have hb1 : (1 : Int) ≤ s := by omega
  have hb8 : (s : Int) ≤ 8 := by omega
  go_enter Tryd.func86,Tryd.ntmps86
  go_wp2_with (first | (guard_target =~ Calls _ 87 _ _ _;refine Stopped.out ?_) | (refine load1 hS rfl rfl rfl rfl ?_;simp only [putW]))
  refine ⟨?_⟩
  (refine Calls.mono (need_ok (rb := rb) s (some ⟨g,k,none⟩) (B.length - k) c (by omega) hS) ?_;clear hS;rintro _ w ⟨rfl,hS⟩;simp only [putW])
  go_wp2_with (refine load1 hS rfl rfl rfl rfl ?_;simp only [putW])
  (refine region_quiet hS (by kernel_rfl) (by kernel_rfl) (by kernel_rfl) ?_;clear hS;(repeat (apply quiet_step;(focus (intro w hS;go_wp2_with (refine load1 hS rfl rfl rfl rfl ?_;simp only [putW]);exact ⟨rfl,rfl,hS⟩));simp only [putW]));refine quiet_nil ?_;intro w hS)
  have hdl : (B.drop k).length = B.length - k := by rw [List.length_drop]
  have hbd : ∀ j,j ≤ s → 0 ≤ num ((B.drop k).take j) ∧ num ((B.drop k).take j) < 18446744073709551616 := fun j hj => by
    have h1 := num_lt (l := (B.drop k).take j) fun b hb => hB b (List.mem_of_mem_drop (List.mem_of_mem_take hb))
    refine ⟨h1.1,Int.lt_of_lt_of_le h1.2 ?_⟩
    have h2 : ((B.drop k).take j).length ≤ 8 := by rw [List.length_take];omega
    have h3 : (256 : Nat) ^ ((B.drop k).take j).length ≤ 256 ^ 8 := Nat.pow_le_pow_right (by omega) h2
    have h4 := Int.ofNat_le.2 h3
    rw [Int.natCast_pow,Int.natCast_pow] at h4
    exact h4
  have Hbd : Hid _ := hbd
  clear hbd
  go_wp2_with (refine load1 hS rfl rfl rfl rfl ?_;simp only [putW])
  go_loopw [21] (fun i wr => ∃ (j : Nat) (m : Int),j ≤ s ∧ i = .int .i64 (j : Int) ∧ Hid (m = num ((B.drop k).take j)) ∧ Sat w0 ((p2,cells #[.int .u64 m] 23)::(p0,cells #[.pointer (some ⟨rb,0,none⟩)] 144)::(p1,cells #[.int .i64 (s : Int)] 3)::(rb,cells #[.slice (some ⟨g,k,none⟩) (B.length - k) c,.int .i64 0] 159)::(g,slc 1 by8 B cap 5)::F4) wr) (fun i _ => s - (intOf i).toNat)
  case atStart => exact ⟨0,0,Nat.zero_le _,rfl,rfl,hS.conv⟩
  case round =>
    clear hS
    obtain ⟨j,m,hj,rfl,hm,hS⟩ := hrel
    by_cases hlt : j < s
    · obtain ⟨x,hx⟩ : ∃ x,B[k + j]? = some x := ⟨_,List.getElem?_eq_getElem (by omega)⟩
      have hx2 := hB x (List.mem_of_getElem? hx)
      unfold okByte at hx2
      have h1 := Hbd.out j (by omega)
      have h2 := Hbd.out (j + 1) (by omega)
      have hxd : (B.drop k)[j]? = some x := by rw [List.getElem?_drop];exact hx
      rw [← hm.out] at h1
      rw [num_take_succ hxd,← hm.out] at h2
      clear hxd
      go_wp2_with (first | (refine loadS1 (v1 := Value.int .u8) hS rfl rfl rfl hx ?_;simp only [putW]) | (first | (refine load1 hS rfl rfl rfl rfl ?_;simp only [putW]) | (refine store1 hS rfl rfl rfl rfl rfl ?_ ?_;(focus (simp;done));clear hS;intro w hS;simp only [evW,putW] at hS;try simp only [putW])))
      have hor : bits .or .u64 (m * 256) x = 256 * m + x := by rw [bits_join .u64 64 (by decide) wraps_u64 8 (m * 256) x (by omega) (by omega) (by omega) (by omega) (by omega) (by omega)];omega
      rw [hor] at hS
      go_roundw
      case rel => exact ⟨j + 1,256 * m + x,by omega,by go_num,by show _ = _;rw [num_take_succ (by rw [List.getElem?_drop];exact hx),← hm.out],hS⟩
      case measure => simp [intOf];omega
    · have hsc : s ≤ c := by omega
      have c0 : wr.cell? ⟨p0,0,none⟩ = some (.pointer (some ⟨rb,0,none⟩)) := hS.cell (b := p0) 0
      have c1 : wr.cell? ⟨p1,0,none⟩ = some (.int .i64 s) := hS.cell (b := p1) 0
      have c2 : wr.cell? ⟨rb,0,none⟩ = some (.slice (some ⟨g,k,none⟩) (B.length - k) c) := hS.cell (b := rb) 0
      have f2 : wr.frozen? ⟨rb,0,none⟩ = false := hS.free (b := rb) 0
      go_wp2_with (refine load1 hS rfl rfl rfl rfl ?_;simp only [putW])
      go_region
      generalize hpv : (if c = s then some ({ block := g,off := k } : Addr) else some { block := g,off := k + s }) = pv
      have hpk : k + s < B.length → pv = some ⟨g,k + s,none⟩ := fun h => by rw [← hpv,if_neg (by omega)]
      clear hpv
      replace hS := (hS.setCell (b := rb) 0 (.slice pv (B.length - k - s) (c - s))).drew
      go_wp2
      go_end0
      refine ⟨rfl,.slice pv (B.length - k - s) (c - s),⟨_,c - s,by rw [Nat.sub_sub],by omega,by omega,Nat.le_trans (Nat.sub_le _ _) hk3,hpk⟩,?_⟩
      have e := hm.out
      have hjs : j = s := by omega
      rw [hjs] at e
      rw [e] at hS
      have e2 : (#[.slice (some ⟨g,k,none⟩) (B.length - k) c,.int .i64 0] : Array Value).setIfInBounds 0 (.slice pv (B.length - k - s) (c - s)) = #[.slice pv (B.length - k - s) (c - s),.int .i64 0] := rfl
      rw [e2] at hS
      exact Sat.conv (S' := (p2,cells #[.int .u64 (num ((B.drop k).take s))] 23)::(rb,cells #[.slice pv (B.length - k - s) (c - s),.int .i64 0] 159)::(g,slc 1 by8 B cap 5)::F4) hS

set_option maxHeartbeats 1000000 in
theorem num1_fault {s p0 p1 p2 : Nat} {v : Value} {f : Int} (h1s : 1 ≤ s) (hs8 : s ≤ 8) (hf : f ≠ 0)
    (hS : Sat w0 S w) [q0 : Pull S p0 (cells #[.pointer (some ⟨rb,0,none⟩)] 144) F] [q1 : Pull F p1 (cells #[.int .i64 (s : Int)] 3) F1] [q3 : Pull F1 rb (cells #[v,.int .i64 f] 159) F3] :
    Calls Tryd.prog 86 #[.pointer (some ⟨p0,0,none⟩),.pointer (some ⟨p1,0,none⟩),.pointer (some ⟨p2,0,none⟩)] w fun e w' => e = .panicked (gaveUp f) ∧ Sat w0 ((p0,cells #[.pointer (some ⟨rb,0,none⟩)] 144)::(p1,cells #[.int .i64 (s : Int)] 3)::(rb,cells #[v,.int .i64 f] 159)::F3) w' := by
  replace hS := hS.perm (q0.perm.trans ((q1.perm.trans (q3.perm.cons _)).cons _))
  have hb1 : (1 : Int) ≤ s := by omega
  have hb8 : (s : Int) ≤ 8 := by omega
  go_enter Tryd.func86,Tryd.ntmps86
  go_wp2_with (first | (guard_target =~ Calls _ 87 _ _ _;refine Stopped.out ?_) | (refine load1 hS rfl rfl rfl rfl ?_;simp only [putW]))
  refine ⟨?_⟩
  (refine Calls.mono (need_fault (rb := rb) s _ v f hf hS) ?_;clear hS;rintro _ w ⟨rfl,hS⟩;simp only [putW])
  exact ⟨rfl,rfl,hS⟩
set_option maxHeartbeats 1000000 in
theorem num1_short {s p0 p1 p2 len cap : Nat} {pp : Option Addr} (h1s : 1 ≤ s) (hs8 : s ≤ 8) (hl : len < s)
    (hS : Sat w0 S w) [q0 : Pull S p0 (cells #[.pointer (some ⟨rb,0,none⟩)] 144) F] [q1 : Pull F p1 (cells #[.int .i64 (s : Int)] 3) F1] [q3 : Pull F1 rb (cells #[.slice pp len cap,.int .i64 0] 159) F3] :
    Calls Tryd.prog 86 #[.pointer (some ⟨p0,0,none⟩),.pointer (some ⟨p1,0,none⟩),.pointer (some ⟨p2,0,none⟩)] w fun e w' => e = .panicked (gaveUp 2) ∧ Sat w0 ((p0,cells #[.pointer (some ⟨rb,0,none⟩)] 144)::(p1,cells #[.int .i64 (s : Int)] 3)::(rb,cells #[.slice pp len cap,.int .i64 0] 159)::F3) w' := by
  replace hS := hS.perm (q0.perm.trans ((q1.perm.trans (q3.perm.cons _)).cons _))
  have hb1 : (1 : Int) ≤ s := by omega
  have hb8 : (s : Int) ≤ 8 := by omega
  go_enter Tryd.func86,Tryd.ntmps86
  go_wp2_with (first | (guard_target =~ Calls _ 87 _ _ _;refine Stopped.out ?_) | (refine load1 hS rfl rfl rfl rfl ?_;simp only [putW]))
  refine ⟨?_⟩
  (refine Calls.mono (need_short (rb := rb) s pp len cap (by omega) hS) ?_;clear hS;rintro _ w ⟨rfl,hS⟩;simp only [putW])
  exact ⟨rfl,rfl,hS⟩

end
end Go.Proofs.YtdkimdobcacpfaaDoor
namespace Go.Proofs.YtdkimdobcacpfaaDoor
open Go.RowKit Go.Proofs.YtdkimdobcacpfaaDoor.Sl Go.Proofs.YtdkimdobcacpfaaDoor.Jp

section
variable {w0 w : World} {S F F' F1 F2 F3 F4 : List Chunk} {A : List Int} {va : Value} {rb : Nat}
set_option maxHeartbeats 1000000 in
/-- The deferred closure: nothing was given up. -/
theorem catch_idle (p : Addr) (w : World) : CallsD Tryd.prog 92 #[.pointer (some p)] .returning w fun e u' w' => e = .returned (.tuple #[]) ∧ u' = .returning ∧ w' = w := by
  refine callsD_of_wpS Tryd.func92 rfl fun c₀ cs hu => ?_
  apply wpS_seq
  apply wpS_region
  simp [wpOpsS,go_sem,recoverD,hu,Tryd.ntmps92,Exit.thenS]
  apply wpS_seq
  apply wpS_region
  simp [wpOpsS,go_sem,Exit.thenS]
  refine wpS_cond (t := false) (by simp [Act.eval,Array.replicate]) ?_
  simp only [Bool.false_eq_true,if_false]
  refine wpS_of_wp (wp_skip ?_)
  cases c₀
  simp_all [bodyPostS,results,Tryd.results92]
set_option maxHeartbeats 400000 in
/-- .. what was given up is kept. -/
theorem catch_stop {q : Nat} {v : Value} {f0 : Int} (f : Int) (w : World) (hS : Sat w0 S w) [p1 : Pull S q (cells #[.pointer (some ⟨rb,0,none⟩)] 144) F] [p2 : Pull F rb (cells #[v,.int .i64 f0] 159) F1] :
    CallsD Tryd.prog 92 #[.pointer (some ⟨q,0,none⟩)] (.panicking ({ v := .iface 172 (.agg #[.int .i64 f]),recovered := false }::[])) w fun e u' w' => e = .returned (.tuple #[]) ∧ u' = .panicking ({ v := .iface 172 (.agg #[.int .i64 f]),recovered := true }::[]) ∧
      Sat w0 ((q,cells #[.pointer (some ⟨rb,0,none⟩)] 144)::(rb,cells #[.slice none 0 0,.int .i64 f] 159)::F1) w' := by
  replace hS := hS.perm (p1.perm.trans (p2.perm.cons _))
  refine callsD_of_wpS Tryd.func92 rfl fun c₀ cs hu => ?_
  apply wpS_seq
  apply wpS_region
  simp [wpOpsS,go_sem,recoverD,hu,Tryd.ntmps92,Exit.thenS]
  apply wpS_seq
  apply wpS_region
  simp [wpOpsS,go_sem,Exit.thenS]
  refine wpS_cond (t := true) (by simp [Act.eval,Array.replicate]) ?_
  simp only [if_true]
  refine wpS_of_wp (wp_mono (Q := fun e a' w' => e = .normal ∧ a'.defers = [] ∧ Sat w0 ((q,cells #[.pointer (some ⟨rb,0,none⟩)] 144)::(rb,cells #[.slice none 0 0,.int .i64 f] 159)::F1) w') ?_ ?_)
  rotate_left
  · rintro e a' w' ⟨rfl,ha,hS⟩
    cases c₀
    simp_all [bodyPostS,results,Tryd.results92]
  simp only [Array.replicate_succ,Array.replicate_zero,List.push_toArray,List.append_toArray,List.nil_append,List.cons_append,putW]
  have hta : ∀ w : World,(Instr.typeAssert (.iface 172 (.agg #[.int .i64 f])) 20 172 true).run Tryd.prog w = .ok (.tuple #[.agg #[.int .i64 f],.bool true]) w := fun _ => by kernel_rfl
  go_wp2_with (first | (refine storeAll hS rfl rfl rfl rfl ?_ ?_ ?_ ?_;rfl;(focus (simp [Value.oneCell'];done));rfl;clear hS;intro w hS;try simp only [putW]) | (refine alloc hS rfl rfl ?_;clear hS;intro mb w hS;simp only [putW]))
  have c0 : w.cell? ⟨q,0,none⟩ = some (.pointer (some ⟨rb,0,none⟩)) := hS.cell (b := q) 0
  have c2 : w.cell? ⟨mb,0,none⟩ = some (.int .i64 f) := hS.cell (b := mb) 0
  have f2 : w.frozen? ⟨rb,0,none⟩ = false := hS.free (b := rb) 0
  have f3 : w.frozen? ⟨rb,1,none⟩ = false := hS.free (b := rb) 1
  have c3 : w.cell? ⟨rb,0,none⟩ = some v := hS.cell (b := rb) 0
  have c4 : w.cell? ⟨rb,1,none⟩ = some (.int .i64 f0) := hS.cell (b := rb) 1
  have hA := hS.setCell (b := rb) 0 (.slice none 0 0)
  have hB := hS.setCell (b := rb) 1 (.int .i64 f)
  have a0 : (w.setCell ⟨rb,0,none⟩ (.slice none 0 0)).cell? ⟨q,0,none⟩ = some (.pointer (some ⟨rb,0,none⟩)) := hA.cell (b := q) 0
  have a2 : (w.setCell ⟨rb,0,none⟩ (.slice none 0 0)).cell? ⟨mb,0,none⟩ = some (.int .i64 f) := hA.cell (b := mb) 0
  have a4 : (w.setCell ⟨rb,0,none⟩ (.slice none 0 0)).cell? ⟨rb,1,none⟩ = some (.int .i64 f0) := hA.cell (b := rb) 1
  have a5 : (w.setCell ⟨rb,0,none⟩ (.slice none 0 0)).frozen? ⟨rb,1,none⟩ = false := hA.free (b := rb) 1
  have b0 : (w.setCell ⟨rb,1,none⟩ (.int .i64 f)).cell? ⟨q,0,none⟩ = some (.pointer (some ⟨rb,0,none⟩)) := hB.cell (b := q) 0
  have b2 : (w.setCell ⟨rb,1,none⟩ (.int .i64 f)).cell? ⟨mb,0,none⟩ = some (.int .i64 f) := hB.cell (b := mb) 0
  have b4 : (w.setCell ⟨rb,1,none⟩ (.int .i64 f)).cell? ⟨rb,0,none⟩ = some v := hB.cell (b := rb) 0
  have b5 : (w.setCell ⟨rb,1,none⟩ (.int .i64 f)).frozen? ⟨rb,0,none⟩ = false := hB.free (b := rb) 0
  go_region
  replace hS := (hA.setCell (b := rb) 1 (.int .i64 f)).drew
  have e2 : ((#[v,.int .i64 f0] : Array Value).setIfInBounds 0 (.slice none 0 0)).setIfInBounds 1 (.int .i64 f) = #[.slice none 0 0,.int .i64 f] := rfl
  rw [e2] at hS
  exact ⟨rfl,rfl,hS.conv⟩

set_option maxHeartbeats 1000000 in
theorem safely_ok {B : List Int} {k s : Nat} {p0 p1 p2 g cap : Nat} {v : Value} (h1s : 1 ≤ s) (hs8 : s ≤ 8) (hks : k + s ≤ B.length) (hB : ∀ b ∈ B,okByte b) (hR : Rest g B k v)
    (hS : Sat w0 S w) [q0 : Pull S p0 (cells #[.pointer (some ⟨rb,0,none⟩)] 144) F] [q1 : Pull F p1 (cells #[.int .i64 (s : Int)] 3) F1] [q2 : Pull F1 p2 (cells #[.int .u64 0] 23) F2]
    [q3 : Pull F2 rb (cells #[v,.int .i64 0] 159) F3] [q4 : Pull F3 g (slc 1 by8 B cap 5) F4] :
    Calls Tryd.prog 85 #[.pointer (some ⟨rb,0,none⟩),.func (.func 86) #[] #[.pointer (some ⟨p0,0,none⟩),.pointer (some ⟨p1,0,none⟩),.pointer (some ⟨p2,0,none⟩)]] w fun e w' => e = .returned (.tuple #[]) ∧
      ∃ v',Rest g B (k + s) v' ∧ Sat w0 ((p2,cells #[.int .u64 (num ((B.drop k).take s))] 23)::(rb,cells #[v',.int .i64 0] 159)::(g,slc 1 by8 B cap 5)::F4) w' := by
  replace hS := hS.perm (q0.perm.trans ((q1.perm.trans ((q2.perm.trans ((q3.perm.trans (q4.perm.cons _)).cons _)).cons _)).cons _))
  have hmf : ∀ (fn : Fn) (first cap : Array Value) (w : World),(Instr.makeFunc fn first cap).run Tryd.prog w = .ok (.func fn first cap) w := fun _ _ _ _ => rfl
  go_enter_defers Tryd.func85,Tryd.ntmps85
  go_wp2_with (first | (guard_target =~ Calls _ 86 _ _ _;refine Stopped.out ?_) | (refine box1 hS rfl rfl rfl rfl ?_;clear hS;intro mb w hS;try simp only [evW,putW] at hS;simp only [putW]))
  refine ⟨?_⟩
  (refine Calls.mono (num1_ok (rb := rb) h1s hs8 hks hB hR hS) ?_;clear hS;rintro _ w ⟨rfl,v',hR',hS⟩;simp only [putW])
  go_wp2_with (refine load1 hS rfl rfl rfl rfl ?_;simp only [putW])
  refine leaves_cons (f := 92) (args := #[.pointer (some ⟨mb,0,none⟩)]) (by simp) (by simp [go_sem]) ?_
  refine (catch_idle ⟨mb,0,none⟩ _).mono ?_
  rintro e u' w'' ⟨rfl,rfl,rfl⟩
  simp [Leaves,settle,results,Tryd.results85,go_sem]
  exact ⟨v',hR',hS.conv⟩
set_option maxHeartbeats 1000000 in
theorem safely_short {s p0 p1 p2 len cap : Nat} {pp : Option Addr} (h1s : 1 ≤ s) (hs8 : s ≤ 8) (hl : len < s)
    (hS : Sat w0 S w) [q0 : Pull S p0 (cells #[.pointer (some ⟨rb,0,none⟩)] 144) F] [q1 : Pull F p1 (cells #[.int .i64 (s : Int)] 3) F1] [q3 : Pull F1 rb (cells #[.slice pp len cap,.int .i64 0] 159) F3] :
    Calls Tryd.prog 85 #[.pointer (some ⟨rb,0,none⟩),.func (.func 86) #[] #[.pointer (some ⟨p0,0,none⟩),.pointer (some ⟨p1,0,none⟩),.pointer (some ⟨p2,0,none⟩)]] w fun e w' => e = .returned (.tuple #[]) ∧
      Sat w0 ((rb,cells #[.slice none 0 0,.int .i64 2] 159)::F3) w' := by
  replace hS := hS.perm (q0.perm.trans ((q1.perm.trans (q3.perm.cons _)).cons _))
  have hmf : ∀ (fn : Fn) (first cap : Array Value) (w : World),(Instr.makeFunc fn first cap).run Tryd.prog w = .ok (.func fn first cap) w := fun _ _ _ _ => rfl
  go_enter_defers Tryd.func85,Tryd.ntmps85
  go_wp2_with (first | (guard_target =~ Calls _ 86 _ _ _;refine Stopped.out ?_) | (refine box1 hS rfl rfl rfl rfl ?_;clear hS;intro mb w hS;try simp only [evW,putW] at hS;simp only [putW]))
  refine ⟨?_⟩
  (refine Calls.mono (num1_short (rb := rb) h1s hs8 hl hS) ?_;clear hS;rintro _ w ⟨rfl,hS⟩;simp only [putW])
  go_wp2_with (refine load1 hS rfl rfl rfl rfl ?_;simp only [putW])
  refine leaves_cons (f := 92) (args := #[.pointer (some ⟨mb,0,none⟩)]) (by simp) (by simp [go_sem]) ?_
  refine (catch_stop (rb := rb) (q := mb) 2 _ hS).mono ?_
  rintro e u' w'' ⟨rfl,rfl,hS⟩
  simp [Leaves,settle,results,Tryd.results85,go_sem]
  exact hS.conv
set_option maxHeartbeats 1000000 in
theorem safely_fault {s p0 p1 p2 : Nat} {v : Value} {f : Int} (h1s : 1 ≤ s) (hs8 : s ≤ 8) (hf : f ≠ 0)
    (hS : Sat w0 S w) [q0 : Pull S p0 (cells #[.pointer (some ⟨rb,0,none⟩)] 144) F] [q1 : Pull F p1 (cells #[.int .i64 (s : Int)] 3) F1] [q3 : Pull F1 rb (cells #[v,.int .i64 f] 159) F3] :
    Calls Tryd.prog 85 #[.pointer (some ⟨rb,0,none⟩),.func (.func 86) #[] #[.pointer (some ⟨p0,0,none⟩),.pointer (some ⟨p1,0,none⟩),.pointer (some ⟨p2,0,none⟩)]] w fun e w' => e = .returned (.tuple #[]) ∧
      Sat w0 ((rb,cells #[.slice none 0 0,.int .i64 f] 159)::F3) w' := by
  replace hS := hS.perm (q0.perm.trans ((q1.perm.trans (q3.perm.cons _)).cons _))
  have hmf : ∀ (fn : Fn) (first cap : Array Value) (w : World),(Instr.makeFunc fn first cap).run Tryd.prog w = .ok (.func fn first cap) w := fun _ _ _ _ => rfl
  go_enter_defers Tryd.func85,Tryd.ntmps85
  go_wp2_with (first | (guard_target =~ Calls _ 86 _ _ _;refine Stopped.out ?_) | (refine box1 hS rfl rfl rfl rfl ?_;clear hS;intro mb w hS;try simp only [evW,putW] at hS;simp only [putW]))
  refine ⟨?_⟩
  (refine Calls.mono (num1_fault (rb := rb) h1s hs8 hf hS) ?_;clear hS;rintro _ w ⟨rfl,hS⟩;simp only [putW])
  go_wp2_with (refine load1 hS rfl rfl rfl rfl ?_;simp only [putW])
  refine leaves_cons (f := 92) (args := #[.pointer (some ⟨mb,0,none⟩)]) (by simp) (by simp [go_sem]) ?_
  refine (catch_stop (rb := rb) (q := mb) f _ hS).mono ?_
  rintro e u' w'' ⟨rfl,rfl,hS⟩
  simp [Leaves,settle,results,Tryd.results85,go_sem]
  exact hS.conv
end
end Go.Proofs.YtdkimdobcacpfaaDoor
namespace Go.Proofs.YtdkimdobcacpfaaDoor
open Go.RowKit Go.Proofs.YtdkimdobcacpfaaDoor.Sl Go.Proofs.YtdkimdobcacpfaaDoor.Jp

section
variable {w0 w : World} {S F F' F1 F2 F3 F4 : List Chunk} {A : List Int} {va : Value} {rb : Nat}
set_option maxHeartbeats 1000000 in
theorem num_ok {B : List Int} {k s : Nat} (h1s : 1 ≤ s) (hs8 : s ≤ 8) (hks : k + s ≤ B.length) (hB : ∀ b ∈ B,okByte b) (hS : Sat w0 S w) [p : Pull S rb (rdr B k) F] :
    Calls Tryd.prog 74 #[.pointer (some ⟨rb,0,none⟩),.int .i64 (s : Int)] w fun e w' => e = .returned (.int .u64 (num ((B.drop k).take s))) ∧ Sat w0 ((rb,rdr B (k + s))::F) w' := by
  obtain ⟨v0,v,hR,hS1⟩ := rdr_open hS (B := B) (k := k) (rb := rb)
  obtain ⟨g,cap,rfl,hS2⟩ := hS1.perm (List.Perm.swap _ _ _) |>.slSome (by intro e;subst e;simp at hks;omega)
  clear hS hS1
  have hS := hS2
  clear hS2
  have hR2 : Rest g B k v := hR
  clear hR
  have hmf : ∀ (fn : Fn) (first cap : Array Value) (w : World),(Instr.makeFunc fn first cap).run Tryd.prog w = .ok (.func fn first cap) w := fun _ _ _ _ => rfl
  go_enter Tryd.func74,Tryd.ntmps74
  go_wp2_with (first | (guard_target =~ Calls _ 85 _ _ _;refine Stopped.out ?_) | (refine load1 hS rfl rfl rfl rfl ?_;simp only [putW]) | (refine store1 hS rfl rfl rfl rfl rfl ?_ ?_;(focus (simp;done));clear hS;intro w hS;simp only [evW,putW] at hS;try simp only [putW]) | (refine alloc hS rfl rfl ?_;clear hS;intro mb w hS;simp only [putW]) | (refine box1 hS rfl rfl rfl rfl ?_;clear hS;intro mb w hS;try simp only [evW,putW] at hS;simp only [putW]))
  refine ⟨?_⟩
  (refine Calls.mono (safely_ok (rb := rb) h1s hs8 hks hB hR2 hS) ?_;clear hS;rintro _ w ⟨rfl,v',hR',hS⟩;simp only [putW])
  go_wp2_with (refine load1 hS rfl rfl rfl rfl ?_;simp only [putW])
  go_ret
  have hS3 := (hS.conv (S' := (g,slc 1 by8 B cap 5)::(rb,cells #[v',.int .i64 0] 159)::F)).slOfSlc
  exact ⟨rfl,rdr_close (v0 := .slice (some ⟨g,0,none⟩) B.length cap) (v := v') rb hR' (hS3.perm (List.Perm.swap _ _ _))⟩
set_option maxHeartbeats 1000000 in
theorem num_short {B : List Int} {k s : Nat} (h1s : 1 ≤ s) (hs8 : s ≤ 8) (hks : B.length < k + s) (hS : Sat w0 S w) [p : Pull S rb (rdr B k) F] :
    Calls Tryd.prog 74 #[.pointer (some ⟨rb,0,none⟩),.int .i64 (s : Int)] w fun e w' => e = .returned (.int .u64 0) ∧ Sat w0 ((rb,rdrF 2)::F) w' := by
  obtain ⟨v0,v,⟨pp,c,rfl,hk1,hk2,hk3,hk4⟩,hS1⟩ := rdr_open hS (B := B) (k := k) (rb := rb)
  clear hS
  have hS := hS1
  clear hS1 hk4
  have hmf : ∀ (fn : Fn) (first cap : Array Value) (w : World),(Instr.makeFunc fn first cap).run Tryd.prog w = .ok (.func fn first cap) w := fun _ _ _ _ => rfl
  go_enter Tryd.func74,Tryd.ntmps74
  go_wp2_with (first | (guard_target =~ Calls _ 85 _ _ _;refine Stopped.out ?_) | (refine load1 hS rfl rfl rfl rfl ?_;simp only [putW]) | (refine store1 hS rfl rfl rfl rfl rfl ?_ ?_;(focus (simp;done));clear hS;intro w hS;simp only [evW,putW] at hS;try simp only [putW]) | (refine alloc hS rfl rfl ?_;clear hS;intro mb w hS;simp only [putW]) | (refine box1 hS rfl rfl rfl rfl ?_;clear hS;intro mb w hS;try simp only [evW,putW] at hS;simp only [putW]))
  refine ⟨?_⟩
  (refine Calls.mono (safely_short (rb := rb) (len := B.length - k) (cap := c) (pp := pp) h1s hs8 (by omega) hS) ?_;clear hS;rintro _ w ⟨rfl,hS⟩;simp only [putW])
  go_wp2_with (refine load1 hS rfl rfl rfl rfl ?_;simp only [putW])
  go_ret
  exact ⟨rfl,hS.conv (S' := (rb,cells #[.slice none 0 0,.int .i64 2] 159)::F)⟩
set_option maxHeartbeats 1000000 in
theorem num_fault {s : Nat} {f : Int} (h1s : 1 ≤ s) (hs8 : s ≤ 8) (hf : f ≠ 0) (hS : Sat w0 S w) [p : Pull S rb (rdrF f) F] :
    Calls Tryd.prog 74 #[.pointer (some ⟨rb,0,none⟩),.int .i64 (s : Int)] w fun e w' => e = .returned (.int .u64 0) ∧ Sat w0 ((rb,rdrF f)::F) w' := by
  have hS1 : Sat w0 ((rb,cells #[.slice none 0 0,.int .i64 f] 159)::F) w := hS.perm p.perm
  clear hS
  have hS := hS1
  clear hS1
  have hmf : ∀ (fn : Fn) (first cap : Array Value) (w : World),(Instr.makeFunc fn first cap).run Tryd.prog w = .ok (.func fn first cap) w := fun _ _ _ _ => rfl
  go_enter Tryd.func74,Tryd.ntmps74
  go_wp2_with (first | (guard_target =~ Calls _ 85 _ _ _;refine Stopped.out ?_) | (refine load1 hS rfl rfl rfl rfl ?_;simp only [putW]) | (refine store1 hS rfl rfl rfl rfl rfl ?_ ?_;(focus (simp;done));clear hS;intro w hS;simp only [evW,putW] at hS;try simp only [putW]) | (refine alloc hS rfl rfl ?_;clear hS;intro mb w hS;simp only [putW]) | (refine box1 hS rfl rfl rfl rfl ?_;clear hS;intro mb w hS;try simp only [evW,putW] at hS;simp only [putW]))
  refine ⟨?_⟩
  (refine Calls.mono (safely_fault (rb := rb) (f := f) h1s hs8 hf hS) ?_;clear hS;rintro _ w ⟨rfl,hS⟩;simp only [putW])
  go_wp2_with (refine load1 hS rfl rfl rfl rfl ?_;simp only [putW])
  go_ret
  exact ⟨rfl,hS.conv (S' := (rb,cells #[.slice none 0 0,.int .i64 f] 159)::F)⟩
theorem fault_rdr {B : List Int} {k : Nat} (hS : Sat w0 S w) [p : Pull S rb (rdr B k) F] :
    Calls Tryd.prog 75 #[.pointer (some ⟨rb,0,none⟩)] w fun e w' => e = .returned (.int .i64 0) ∧ Sat w0 ((rb,rdr B k)::F) w' := by
  obtain ⟨v0,v,hR,hS1⟩ := rdr_open hS (B := B) (k := k) (rb := rb)
  exact (fault_any v 0 hS1).mono fun e w' ⟨he,h⟩ => ⟨he,rdr_close rb hR h⟩
theorem fault_rdrF {f : Int} (hS : Sat w0 S w) [p : Pull S rb (rdrF f) F] :
    Calls Tryd.prog 75 #[.pointer (some ⟨rb,0,none⟩)] w fun e w' => e = .returned (.int .i64 f) ∧ Sat w0 ((rb,rdrF f)::F) w' := by
  have hS1 : Sat w0 ((rb,cells #[.slice none 0 0,.int .i64 f] 159)::F) w := hS.perm p.perm
  exact (fault_any (.slice none 0 0) f hS1).mono fun e w' ⟨he,h⟩ => ⟨he,h⟩

/-- What a reader says next, and where it stands then; none: it gave up. -/
def nextS (B : List Int) (s : Nat) : Option Nat → Int × Option Nat
  | some k => if k + s ≤ B.length then (num ((B.drop k).take s),some (k + s)) else (0,none)
  | none => (0,none)
def rdS (B : List Int) : Option Nat → K
  | some k => rdr B k
  | none => rdrF 2
def okS : Option Nat → Int
  | some _ => 0
  | none => 2
theorem num_st {B : List Int} {s : Nat} {st : Option Nat} (h1s : 1 ≤ s) (hs8 : s ≤ 8) (hB : ∀ b ∈ B,okByte b) (hS : Sat w0 S w) [p : Pull S rb (rdS B st) F] :
    Calls Tryd.prog 74 #[.pointer (some ⟨rb,0,none⟩),.int .i64 (s : Int)] w fun e w' => e = .returned (.int .u64 (nextS B s st).1) ∧ Sat w0 ((rb,rdS B (nextS B s st).2)::F) w' := by
  have hS1 := hS.perm p.perm
  cases st with
  | none => exact num_fault (f := 2) h1s hs8 (by decide) (hS1 : Sat w0 ((rb,rdrF 2)::F) w)
  | some k =>
    unfold nextS
    by_cases h : k + s ≤ B.length
    · simp only [if_pos h];exact num_ok h1s hs8 h hB (hS1 : Sat w0 ((rb,rdr B k)::F) w)
    · simp only [if_neg h];exact num_short h1s hs8 (by omega) (hS1 : Sat w0 ((rb,rdr B k)::F) w)
theorem fault_st {B : List Int} {st : Option Nat} (hS : Sat w0 S w) [p : Pull S rb (rdS B st) F] :
    Calls Tryd.prog 75 #[.pointer (some ⟨rb,0,none⟩)] w fun e w' => e = .returned (.int .i64 (okS st)) ∧ Sat w0 ((rb,rdS B st)::F) w' := by
  have hS1 := hS.perm p.perm
  cases st with
  | none => exact fault_rdrF (hS1 : Sat w0 ((rb,rdrF 2)::F) w)
  | some k => exact fault_rdr (hS1 : Sat w0 ((rb,rdr B k)::F) w)
theorem rdr_new {B : List Int} {v : Value} (hS : Sat w0 ((rb,cells #[v,.int .i64 0] 159)::(blk v,sl 1 by8 B 5 v)::F) w) : Sat w0 ((rb,rdS B (some 0))::F) w := by
  refine rdr_close (v0 := v) (v := v) rb ?_ hS
  rcases (hS.perm (List.Perm.swap _ _ _)).slCases with ⟨rfl,rfl,_⟩ | ⟨cap,hv,hC⟩
  · exact ⟨none,0,rfl,by simp,by simp,by simp,fun h => by simp at h⟩
  · have hf := hC.slcFacts (g := blk v) (n := 1) (f := by8) (l := B) (cap := cap) (t := 5)
    exact ⟨some ⟨blk v,0,none⟩,cap,by rw [Nat.sub_zero];exact hv,by simp,by simpa using hf.1,hf.2.1,fun _ => rfl⟩
theorem nextS_bound {B : List Int} {s : Nat} {st : Option Nat} (hB : ∀ b ∈ B,okByte b) : 0 ≤ (nextS B s st).1 ∧ (nextS B s st).1 < 256 ^ s := by
  have h0 : (0 : Int) < 256 ^ s := Int.pow_pos (by decide)
  unfold nextS
  split
  · split
    · rename_i k h
      have h1 := num_lt (l := (B.drop k).take s) fun b hb => hB b (List.mem_of_mem_drop (List.mem_of_mem_take hb))
      have h2 : ((B.drop k).take s).length = s := by rw [List.length_take,List.length_drop];omega
      rw [h2] at h1
      exact h1
    · exact ⟨Int.le_refl _,h0⟩
  · exact ⟨Int.le_refl _,h0⟩
end
end Go.Proofs.YtdkimdobcacpfaaDoor
namespace Go.Proofs.YtdkimdobcacpfaaDoor
open Go.RowKit Go.Proofs.YtdkimdobcacpfaaDoor.Sl Go.Proofs.YtdkimdobcacpfaaDoor.Jp

theorem cut_byt {all : List Int} {n : Nat} (h : ∀ b ∈ all,okByte b) {l : List Int} (hl : l ∈ cut all n) : ∀ b ∈ l,okByte b := by
  unfold cut at hl
  obtain ⟨i,_,rfl⟩ := List.mem_map.1 hl
  intro b hb
  exact h b (List.mem_of_mem_drop (List.mem_of_mem_take hb))
theorem nums4_succ (B : List Int) (k : Nat) : nums4 B (k + 1) = nums4 B k ++ [num ((B.drop (12 + 4 * k)).take 4)] := by
  unfold nums4;rw [List.range_succ,List.map_append];rfl
theorem nums4_length (B : List Int) (k : Nat) : (nums4 B k).length = k := by simp [nums4]

theorem nextS_some (B : List Int) (s k : Nat) : nextS B s (some k) = if k + s ≤ B.length then (num ((B.drop k).take s),some (k + s)) else (0,none) := rfl
theorem start_facts {B : List Int} (hB : ∀ b ∈ B,okByte b) : ∃ (vn cN : Nat) (st : Option Nat),(nextS B 8 (some 0)).1 = vn ∧ (nextS B 4 (nextS B 8 (some 0)).2).1 = cN ∧ (nextS B 4 (nextS B 8 (some 0)).2).2 = st ∧ vn < 18446744073709551616 ∧ cN < 4294967296 ∧
    ((12 ≤ B.length ∧ st = some 12 ∧ (vn : Int) = ver B ∧ (cN : Int) = cnt B) ∨ (B.length < 12 ∧ st = none)) := by
  have b1 := nextS_bound (B := B) (s := 8) (st := some 0) hB
  have b2 := nextS_bound (B := B) (s := 4) (st := (nextS B 8 (some 0)).2) hB
  refine ⟨(nextS B 8 (some 0)).1.toNat,(nextS B 4 (nextS B 8 (some 0)).2).1.toNat,_,by omega,by omega,rfl,by omega,by omega,?_⟩
  by_cases h12 : 12 ≤ B.length
  · left
    have e8 : nextS B 8 (some 0) = (num ((B.drop 0).take 8),some (0 + 8)) := by rw [nextS_some,if_pos (by omega)]
    have e4 : nextS B 4 (some 8) = (num ((B.drop 8).take 4),some (8 + 4)) := by rw [nextS_some,if_pos (by omega)]
    rw [e8] at b1 b2 ⊢
    simp only [Nat.zero_add] at b2 ⊢
    rw [e4] at b2 ⊢
    refine ⟨h12,rfl,?_,?_⟩
    · rw [Int.toNat_of_nonneg b1.1];unfold ver;rw [List.drop_zero]
    · rw [Int.toNat_of_nonneg b2.1];rfl
  · right
    refine ⟨by omega,?_⟩
    by_cases h8 : 0 + 8 ≤ B.length
    · rw [nextS_some,if_pos h8,nextS_some,if_neg (by omega)]
    · rw [nextS_some,if_neg h8];rfl
/-- What the loop over the block numbers keeps. -/
def loopI (B : List Int) (cN k : Nat) (L : List Int) (st : Option Nat) : Prop :=
  (st = some (12 + 4 * k) ∧ L = nums4 B k ∧ k ≤ cN ∧ 12 + 4 * k ≤ B.length) ∨ (st = none ∧ ¬ (12 + 4 * (cnt B).toNat ≤ B.length) ∧ L.length ≤ B.length + 1 ∧ k ≤ B.length + 1)
theorem loopI_len {B : List Int} {cN k : Nat} {L : List Int} {st : Option Nat} (h : loopI B cN k L st) : L.length ≤ B.length + 1 ∧ k ≤ B.length + 1 := by
  rcases h with ⟨_,rfl,_,h⟩ | ⟨_,_,h1,h2⟩
  · rw [nums4_length];omega
  · exact ⟨h1,h2⟩
theorem loopI_next {B : List Int} {cN k : Nat} {L : List Int} {p : Nat} (h : loopI B cN k L (some p)) (hlt : k < cN) (hc : (cN : Int) = cnt B) :
    loopI B cN (k + 1) (L ++ [(nextS B 4 (some p)).1]) (nextS B 4 (some p)).2 := by
  rcases h with ⟨hp,rfl,hk,hB⟩ | ⟨h,_⟩
  · have hp := Option.some.inj hp
    subst hp
    rw [nextS_some]
    by_cases h4 : 12 + 4 * k + 4 ≤ B.length
    · rw [if_pos h4]
      exact .inl ⟨by rw [Nat.mul_add,Nat.add_assoc],by rw [nums4_succ],by omega,by omega⟩
    · rw [if_neg h4]
      exact .inr ⟨rfl,by omega,by rw [List.length_append,nums4_length];simp;omega,by omega⟩
  · cases h
theorem no_open1 {H : List (List Int)} {b : Int} (h : ¬ (12 + 4 * (cnt H.flatten).toNat ≤ H.flatten.length)) : ¬ openOk H b := fun h2 => h h2.1
theorem no_open2 {H : List (List Int)} {b : Int} {cN : Nat} (hc : (cN : Int) = cnt H.flatten) (h : ¬ okL (nums4 H.flatten cN) b) : ¬ openOk H b := fun h2 => by
  have h3 := h2.2
  rw [← hc,Int.toNat_natCast,headOf_none h] at h3
  cases h3
theorem open_iff {H : List (List Int)} {b : Int} {cN vn : Nat} (hc : (cN : Int) = cnt H.flatten) (hv : (vn : Int) = ver H.flatten) (hl : 12 + 4 * cN ≤ H.flatten.length) (h : okL (nums4 H.flatten cN) b) :
    openOk H b ↔ cut (full vn (nums4 H.flatten cN) b) (heads b) = H := by
  unfold openOk
  rw [← hc,← hv,Int.toNat_natCast,headOf_some h]
  exact ⟨fun h2 => Option.some.inj h2.2,fun h2 => ⟨hl,by rw [h2]⟩⟩
end Go.Proofs.YtdkimdobcacpfaaDoor
namespace Go.Proofs.YtdkimdobcacpfaaDoor
open Go.RowKit Go.Proofs.YtdkimdobcacpfaaDoor.Sl Go.Proofs.YtdkimdobcacpfaaDoor.Jp

section
variable {w0 : World} {X : List (Value × List Int)} {vh : Value}
set_option maxRecDepth 100000 in
set_option maxHeartbeats 4000000 in
theorem open_good (b : Int) (hb : okB b) (hX : RR w0 X vh) (hl : (cat X).length ≤ 100000) : Calls Tryd.prog 48 #[vh,.int .i64 b] w0 fun e w' => ∃ vl,
    e = .returned (.tuple #[.int .u64 (openR (X.map (·.2)) b).1,vl,.int .i64 (openR (X.map (·.2)) b).2.2]) ∧ Sat w0 [(blk vl,sl 1 i64 (openR (X.map (·.2)) b).2.1 3 vl)] w' := by
  have hS := Sat.refl w0
  have hXx := hX
  obtain ⟨n,rfl⟩ : ∃ n : Nat,b = n := ⟨b.toNat,by have := hb.1;omega⟩
  have h1 : 1 ≤ n := by have := hb.1;omega
  have hn2 : n ≤ 256 := by have := hb.2;omega
  have Hb : Hid (okB n) := hb
  clear hb
  obtain ⟨ph,ch,rfl,hlh,hath⟩ := hX.at
  clear hX
  have hCat : cat X = (X.map (·.2)).flatten := rfl
  generalize hBt : cat X = Bt at *
  go_enter Tryd.func48,Tryd.ntmps48
  go_wp2_with (first | (go_at_call 60;refine Calls.mono (planOf_good n h1 hn2) ?_;rintro _ w2 ⟨g,cap,rfl,h2⟩;replace hS := hS.frame h2;clear h2;(try simp only [List.cons_append,List.nil_append] at hS);simp only [putW]) | (guard_target =~ Calls _ 73 _ _ _;refine Stopped.out ?_) | (refine storeAll hS rfl rfl rfl rfl ?_ ?_ ?_ ?_;rfl;(focus (simp [Value.oneCell'];done));rfl;clear hS;intro w hS;try simp only [putW]) | (refine alloc hS rfl rfl ?_;clear hS;intro mb w hS;simp only [putW]))
  refine ⟨?_⟩
  have hjl : (cat X).length ≤ 100000000000 := by rw [hBt];omega
  (refine Calls.mono (join_any (hXx.mono hS.base) hjl) ?_;rintro _ w2 ⟨vj,rfl,h2,hrj⟩;replace hS := hS.frame h2;clear h2;(try simp only [List.cons_append,List.nil_append] at hS);simp only [putW])
  rw [hBt] at hrj
  have hByt : ∀ x ∈ Bt,okByte x := hrj.all
  go_wp2_with (guard_target =~ Calls _ 72 _ _ _;refine Stopped.out ?_)
  refine ⟨?_⟩
  (refine Calls.mono (rowNew_any hrj (by omega)) ?_;rintro _ w2 ⟨rb,vr,rfl,h2⟩;replace hS := hS.frame h2;clear h2;(try simp only [List.cons_append,List.nil_append] at hS);simp only [putW])
  replace hS := rdr_new hS
  go_wp2_with (guard_target =~ Calls _ 74 _ _ _;refine Stopped.out ?_)
  refine ⟨?_⟩
  (refine Calls.mono (num_st (rb := rb) (B := Bt) (st := some 0) (s := 8) (by omega) (by omega) hByt hS) ?_;clear hS;rintro _ w ⟨rfl,hS⟩;simp only [putW])
  go_wp2_with (guard_target =~ Calls _ 74 _ _ _;refine Stopped.out ?_)
  refine ⟨?_⟩
  (refine Calls.mono (num_st (rb := rb) (B := Bt) (s := 4) (by omega) (by omega) hByt hS) ?_;clear hS;rintro _ w ⟨rfl,hS⟩;simp only [putW])
  obtain ⟨vn,cN,st2,e1,e2,e3,hv64,hc32,hst⟩ := start_facts hByt
  rw [e3] at hS
  rw [e1,e2]
  have Hst : Hid _ := hst
  clear hst e1 e2 e3
  have hS1 := (hS.conv (S' := [(rb,rdS Bt st2)])).slNil 1 i64 3
  clear hS
  have hS := hS1
  clear hS1
  go_wp2_with (refine load1 hS rfl rfl rfl rfl ?_;simp only [putW])
  go_loopw [5,11] (fun vv i wr => ∃ (k : Nat) (L : List Int) (st : Option Nat),i = .int .u64 (k : Int) ∧ Hid (loopI Bt cN k L st) ∧ Sat w0 [(blk vv,sl 1 i64 L 3 vv),(rb,rdS Bt st)] wr) (fun _ i _ => Bt.length + 5 - (intOf i).toNat)
  case atStart =>
    refine ⟨0,[],st2,rfl,?_,hS⟩
    rcases Hst.out with ⟨h1,rfl,_,_⟩ | ⟨h1,rfl⟩
    · exact .inl ⟨rfl,rfl,Nat.zero_le _,by omega⟩
    · exact .inr ⟨rfl,by omega,Nat.zero_le _,Nat.zero_le _⟩
  case round =>
    clear hS
    obtain ⟨k,L,st,rfl,hI,hS⟩ := hrel
    have hlen := loopI_len hI.out
    by_cases hk : k < cN
    · rcases hI.out with ⟨hsm,_⟩ | ⟨hsn0,hsn1,_⟩
      · obtain ⟨p,rfl⟩ : ∃ p,st = some p := ⟨_,hsm⟩
        have hc : Hid ((cN : Int) = cnt Bt) := by
          rcases hI.out with ⟨_,_,_,h⟩ | ⟨h,_⟩
          · rcases Hst.out with ⟨_,_,_,h2⟩ | ⟨h2,_⟩
            · exact h2
            · omega
          · cases h
        go_wp2_with (guard_target =~ Calls _ 75 _ _ _;refine Stopped.out ?_)
        refine ⟨?_⟩
        (refine Calls.mono (fault_st (rb := rb) (B := Bt) (st := some p) hS) ?_;clear hS;rintro _ w ⟨rfl,hS⟩;simp only [putW])
        simp only [okS]
        go_wp2_with (guard_target =~ Calls _ 74 _ _ _;refine Stopped.out ?_)
        refine ⟨?_⟩
        (refine Calls.mono (num_st (rb := rb) (B := Bt) (st := some p) (s := 4) (by omega) (by omega) hByt hS) ?_;clear hS;rintro _ w ⟨rfl,hS⟩;simp only [putW])
        have hnb := nextS_bound (B := Bt) (s := 4) (st := some p) hByt
        have hnx : Hid (loopI Bt cN (k + 1) (L ++ [(nextS Bt 4 (some p)).1]) (nextS Bt 4 (some p)).2) := loopI_next hI.out hk hc.out
        generalize (nextS Bt 4 (some p)).1 = x at hnb hnx ⊢
        generalize (nextS Bt 4 (some p)).2 = st' at hS hnx
        have hx1 : 0 ≤ x := hnb.1
        have hx2 : x < 4294967296 := hnb.2
        clear hnb
        go_wp2_with (first | (refine buildSlice1 (c := #[.int .i64 x]) hS rfl rfl rfl ?_ ?_ ?_ ?_;rfl;rfl;rfl;clear hS;intro mb w hS;simp only [putW]) | (refine append1 (f := i64) hS rfl rfl u5 rfl rfl x ?_ ?_ ?_ ?_ ?_ ?_;rfl;(focus (simp [i64,one,Value.oneCell'];done));rfl;(focus (simp [maxLen];omega));(focus (omega));clear hS;intro v' w hS;simp only [putW]))
        go_roundw
        case rel => exact ⟨k + 1,L ++ [x],st',by go_num,hnx,hS.conv⟩
        case measure => simp [intOf];omega
      · have hsn : Hid (st = none) := hsn0
        have hF : Hid ((st = some (12 + 4 * cN) ∧ L = nums4 Bt cN ∧ 12 + 4 * cN ≤ Bt.length ∧ (vn : Int) = ver Bt ∧ (cN : Int) = cnt Bt) ∨ (st = none ∧ ¬ (12 + 4 * (cnt Bt).toNat ≤ Bt.length))) := .inr ⟨hsn0,hsn1⟩
        clear hsn0 hsn1
        go_wp2_with (guard_target =~ Calls _ 75 _ _ _;refine Stopped.out ?_)
        refine ⟨?_⟩
        (refine Calls.mono (fault_st (rb := rb) (B := Bt) (st := st) hS) ?_;clear hS;rintro _ w ⟨rfl,hS⟩;simp only [putW])
        rw [show okS st = 2 by rw [hsn.out];rfl]
        go_wp2_with (guard_target =~ Calls _ 54 _ _ _;refine Stopped.out ?_)
        refine ⟨?_⟩
        have hrL := hS.readsSl (α := Int) (v := u5) (gd := fun _ => True) fun _ _ => trivial
        by_cases hok : okL L n
        · (refine Calls.mono (head_some vn n hv64 hrL hok) ?_;rintro _ w2 ⟨X',vo,g2,hX',rfl,h2⟩;replace hS := hS.frame h2;clear h2;(try simp only [List.cons_append,List.nil_append] at hS);simp only [putW])
          have HX : Hid _ := hX'
          clear hX'
          go_wp2_with (guard_target =~ Calls _ 75 _ _ _;refine Stopped.out ?_)
          refine ⟨?_⟩
          (refine Calls.mono (fault_st (rb := rb) (B := Bt) (st := st) hS) ?_;clear hS;rintro _ w ⟨rfl,hS⟩;simp only [putW])
          rcases hF.out with ⟨hs1,hL1,hl1,hv1,hc1⟩ | ⟨hs1,hl1⟩
          rotate_left
          · rw [show okS st = 2 by rw [hs1];rfl]
            go_wp2_with (refine load1 hS rfl rfl rfl rfl ?_;simp only [putW])
            have hno : ¬ openOk (X.map (·.2)) n := no_open1 (by rw [← hCat];exact hl1)
            rw [openR_form Hb.out hno]
            exact bodyPost_ret (v := .tuple #[.int .u64 0,.slice none 0 0,.int .i64 3]) (by simp [results,Tryd.results48]) rfl ⟨.slice none 0 0,rfl,hS.nothing.slNil 1 i64 3⟩
          · rw [show okS st = 0 by rw [hs1];rfl]
            have hiff : Hid (openOk (X.map (·.2)) n ↔ X'.map (·.2) = X.map (·.2)) := by
              have h5 := open_iff (H := X.map (·.2)) (b := n) (cN := cN) (vn := vn) (by rw [← hCat];exact hc1) (by rw [← hCat];exact hv1) (by rw [← hCat];exact hl1) (by rw [← hCat,← hL1];exact hok)
              show _ ↔ _
              rw [h5,← hCat,← hL1,← HX.out]
            have hXl : X'.length = heads n := by have := congrArg List.length HX.out;simpa [cut_length] using this
            have HXl : Hid _ := hXl
            have HL1 : Hid _ := hL1
            have HV1 : Hid _ := hv1
            have HC1 : Hid _ := hc1
            have hB2 : ∀ x ∈ X',∀ b ∈ x.2,okByte b := fun x hx => cut_byt (full_byt _ _ _) (by rw [← HX.out];exact List.mem_map.2 ⟨x,hx,rfl⟩)
            have hh1 : 1 ≤ heads n ∧ heads n ≤ 5 := ⟨by unfold heads;rw [Int.toNat_natCast];omega,heads_le n hn2⟩
            obtain ⟨g3,c3,rfl,hS2⟩ := hS.conv (S' := [(g2,sl 1 rowF X' 48 vo),(0,inn X' 5),(blk u5,sl 1 i64 L 3 u5)]) |>.slFormC (heads n) hXl hh1.1
            clear hS hXl hL1 hv1 hc1 hs1
            have hS := hS2
            clear hS2
            by_cases hlx : heads n = X.length
            · go_wp2_with (refine load1 hS rfl rfl rfl rfl ?_;simp only [putW])
              go_loopw [4,5,69] (fun a4 a5 i wr2 => ∃ j : Nat,j ≤ heads n ∧ i = .int .i64 (j : Int) ∧ a4 = .int .u64 (vn : Int) ∧ a5 = u5 ∧ Hid ((X'.take j).map (·.2) = (X.take j).map (·.2)) ∧ Sat w0 [(g3,slc 1 rowF X' c3 48),(0,inn X' 5),(blk u5,sl 1 i64 L 3 u5)] wr2) (fun _ _ i _ => heads n - (intOf i).toNat)
              case atStart => exact ⟨0,Nat.zero_le _,rfl,rfl,rfl,rfl,hS⟩
              case round =>
                clear hS
                obtain ⟨j,hj,rfl,rfl,rfl,hje,hS⟩ := hrel
                by_cases hjl : j < heads n
                · obtain ⟨⟨yv,yl⟩,hy⟩ : ∃ y,X'[j]? = some y := ⟨_,List.getElem?_eq_getElem (by rw [HXl.out];exact hjl)⟩
                  obtain ⟨⟨zv,zl⟩,hz⟩ : ∃ z,X[j]? = some z := ⟨_,List.getElem?_eq_getElem (by omega)⟩
                  obtain ⟨bh,oh,rfl,hBh⟩ := hath (by intro e;subst e;simp at hz)
                  have hrz : RB w0 zl zv := (hBh.2 j _ hz).1
                  have hiff2 : Hid ((X'.take (j + 1)).map (·.2) = (X.take (j + 1)).map (·.2) ↔ yl = zl) := map_take_succ hy hz hje.out
                  go_wp2_with (first | (guard_target =~ Calls _ 76 _ _ _;refine Stopped.out ?_) | (refine loadS (f := rowF) hS rfl rfl rfl j 0 ?_ hy rfl ?_ ?_;omega;omega;simp only [putW]) | (refine loadB (f := rowF) hS rfl rfl rfl hBh j 0 ?_ hz rfl ?_;omega;simp only [putW]))
                  refine ⟨?_⟩
                  (refine Calls.mono (equal_any ((hS.pull 0).innReads (v := yv) (A := yl) (List.mem_of_getElem? hy) (hB2 _ (List.mem_of_getElem? hy))) (hrz.mono hS.base)) ?_;rintro _ w2 ⟨rfl,h2⟩;replace hS := hS.frame h2;clear h2;(try simp only [List.cons_append,List.nil_append] at hS);simp only [putW])
                  by_cases hyz : yl = zl
                  · rw [decide_eq_true hyz]
                    have Hyz : Hid _ := hyz
                    clear hyz
                    go_wp2_with (refine load1 hS rfl rfl rfl rfl ?_;simp only [putW])
                    go_roundw
                    case rel => exact ⟨j + 1,by omega,by go_num,rfl,rfl,hiff2.out.2 Hyz.out,hS⟩
                    case measure => simp [intOf];omega
                  · rw [decide_eq_false hyz]
                    go_wp2_with (refine load1 hS rfl rfl rfl rfl ?_;simp only [putW])
                    have hno : ¬ openOk (X.map (·.2)) n := fun h => hyz (hiff2.out.1 (by rw [List.map_take,List.map_take,hiff.out.1 h]))
                    rw [openR_form Hb.out hno]
                    exact bodyPost_ret (v := .tuple #[.int .u64 0,.slice none 0 0,.int .i64 3]) (by simp [results,Tryd.results48]) rfl ⟨.slice none 0 0,rfl,hS.nothing.slNil 1 i64 3⟩
                · have hyes : openOk (X.map (·.2)) n := by
                    refine hiff.out.2 ?_
                    have h6 := hje.out
                    rwa [List.take_of_length_le (by rw [HXl.out];omega),List.take_of_length_le (by omega)] at h6
                  go_wp2_with (refine load1 hS rfl rfl rfl rfl ?_;simp only [putW])
                  refine bodyPost_ret (v := .tuple #[.int .u64 (vn : Int),u5,.int .i64 0]) (by simp [results,Tryd.results48]) rfl ⟨u5,?_,?_⟩
                  · rw [openR_ok Hb.out hyes,← hCat,← HV1.out]
                  · rw [openR_ok Hb.out hyes,← hCat,← HC1.out,Int.toNat_natCast,← HL1.out]
                    exact hS.conv (S' := [(blk u5,sl 1 i64 L 3 u5)])
            · go_wp2_with (refine load1 hS rfl rfl rfl rfl ?_;simp only [putW])
              have hno : ¬ openOk (X.map (·.2)) n := fun h => hlx (by have h7 := congrArg List.length (hiff.out.1 h);rw [List.length_map,List.length_map,HXl.out] at h7;exact h7)
              rw [openR_form Hb.out hno]
              exact bodyPost_ret (v := .tuple #[.int .u64 0,.slice none 0 0,.int .i64 3]) (by simp [results,Tryd.results48]) rfl ⟨.slice none 0 0,rfl,hS.nothing.slNil 1 i64 3⟩
        · (refine Calls.mono (head_off vn n hv64 hrL Hb.out hok) ?_;rintro _ w2 ⟨rfl,h2⟩;replace hS := hS.frame h2;clear h2;(try simp only [List.cons_append,List.nil_append] at hS);simp only [putW])
          go_wp2_with (refine load1 hS rfl rfl rfl rfl ?_;simp only [putW])
          have hno : ¬ openOk (X.map (·.2)) n := by
            rcases hF.out with ⟨_,hL1,hl,hv,hc⟩ | ⟨_,h⟩
            · exact no_open2 (cN := cN) (by rw [← hCat];exact hc) (by rw [← hCat,← hL1];exact hok)
            · exact no_open1 (by rw [← hCat];exact h)
          rw [openR_form Hb.out hno]
          exact bodyPost_ret (v := .tuple #[.int .u64 0,.slice none 0 0,.int .i64 3]) (by simp [results,Tryd.results48]) rfl ⟨.slice none 0 0,rfl,hS.nothing.slNil 1 i64 3⟩
    · have hF : Hid ((st = some (12 + 4 * cN) ∧ L = nums4 Bt cN ∧ 12 + 4 * cN ≤ Bt.length ∧ (vn : Int) = ver Bt ∧ (cN : Int) = cnt Bt) ∨ (st = none ∧ ¬ (12 + 4 * (cnt Bt).toNat ≤ Bt.length))) := by
        rcases hI.out with ⟨h,hL,hk2,h3⟩ | ⟨h,h2,_⟩
        · have hkk : k = cN := by omega
          subst hkk
          rcases Hst.out with ⟨_,_,h5,h6⟩ | ⟨h5,_⟩
          · exact .inl ⟨h,hL,h3,h5,h6⟩
          · omega
        · exact .inr ⟨h,h2⟩
      go_wp2_with (guard_target =~ Calls _ 54 _ _ _;refine Stopped.out ?_)
      refine ⟨?_⟩
      have hrL := hS.readsSl (α := Int) (v := u5) (gd := fun _ => True) fun _ _ => trivial
      by_cases hok : okL L n
      · (refine Calls.mono (head_some vn n hv64 hrL hok) ?_;rintro _ w2 ⟨X',vo,g2,hX',rfl,h2⟩;replace hS := hS.frame h2;clear h2;(try simp only [List.cons_append,List.nil_append] at hS);simp only [putW])
        have HX : Hid _ := hX'
        clear hX'
        go_wp2_with (guard_target =~ Calls _ 75 _ _ _;refine Stopped.out ?_)
        refine ⟨?_⟩
        (refine Calls.mono (fault_st (rb := rb) (B := Bt) (st := st) hS) ?_;clear hS;rintro _ w ⟨rfl,hS⟩;simp only [putW])
        rcases hF.out with ⟨hs1,hL1,hl1,hv1,hc1⟩ | ⟨hs1,hl1⟩
        rotate_left
        · rw [show okS st = 2 by rw [hs1];rfl]
          go_wp2_with (refine load1 hS rfl rfl rfl rfl ?_;simp only [putW])
          have hno : ¬ openOk (X.map (·.2)) n := no_open1 (by rw [← hCat];exact hl1)
          rw [openR_form Hb.out hno]
          exact bodyPost_ret (v := .tuple #[.int .u64 0,.slice none 0 0,.int .i64 3]) (by simp [results,Tryd.results48]) rfl ⟨.slice none 0 0,rfl,hS.nothing.slNil 1 i64 3⟩
        · rw [show okS st = 0 by rw [hs1];rfl]
          have hiff : Hid (openOk (X.map (·.2)) n ↔ X'.map (·.2) = X.map (·.2)) := by
            have h5 := open_iff (H := X.map (·.2)) (b := n) (cN := cN) (vn := vn) (by rw [← hCat];exact hc1) (by rw [← hCat];exact hv1) (by rw [← hCat];exact hl1) (by rw [← hCat,← hL1];exact hok)
            show _ ↔ _
            rw [h5,← hCat,← hL1,← HX.out]
          have hXl : X'.length = heads n := by have := congrArg List.length HX.out;simpa [cut_length] using this
          have HXl : Hid _ := hXl
          have HL1 : Hid _ := hL1
          have HV1 : Hid _ := hv1
          have HC1 : Hid _ := hc1
          have hB2 : ∀ x ∈ X',∀ b ∈ x.2,okByte b := fun x hx => cut_byt (full_byt _ _ _) (by rw [← HX.out];exact List.mem_map.2 ⟨x,hx,rfl⟩)
          have hh1 : 1 ≤ heads n ∧ heads n ≤ 5 := ⟨by unfold heads;rw [Int.toNat_natCast];omega,heads_le n hn2⟩
          obtain ⟨g3,c3,rfl,hS2⟩ := hS.conv (S' := [(g2,sl 1 rowF X' 48 vo),(0,inn X' 5),(blk u5,sl 1 i64 L 3 u5)]) |>.slFormC (heads n) hXl hh1.1
          clear hS hXl hL1 hv1 hc1 hs1
          have hS := hS2
          clear hS2
          by_cases hlx : heads n = X.length
          · go_wp2_with (refine load1 hS rfl rfl rfl rfl ?_;simp only [putW])
            go_loopw [4,5,69] (fun a4 a5 i wr2 => ∃ j : Nat,j ≤ heads n ∧ i = .int .i64 (j : Int) ∧ a4 = .int .u64 (vn : Int) ∧ a5 = u5 ∧ Hid ((X'.take j).map (·.2) = (X.take j).map (·.2)) ∧ Sat w0 [(g3,slc 1 rowF X' c3 48),(0,inn X' 5),(blk u5,sl 1 i64 L 3 u5)] wr2) (fun _ _ i _ => heads n - (intOf i).toNat)
            case atStart => exact ⟨0,Nat.zero_le _,rfl,rfl,rfl,rfl,hS⟩
            case round =>
              clear hS
              obtain ⟨j,hj,rfl,rfl,rfl,hje,hS⟩ := hrel
              by_cases hjl : j < heads n
              · obtain ⟨⟨yv,yl⟩,hy⟩ : ∃ y,X'[j]? = some y := ⟨_,List.getElem?_eq_getElem (by rw [HXl.out];exact hjl)⟩
                obtain ⟨⟨zv,zl⟩,hz⟩ : ∃ z,X[j]? = some z := ⟨_,List.getElem?_eq_getElem (by omega)⟩
                obtain ⟨bh,oh,rfl,hBh⟩ := hath (by intro e;subst e;simp at hz)
                have hrz : RB w0 zl zv := (hBh.2 j _ hz).1
                have hiff2 : Hid ((X'.take (j + 1)).map (·.2) = (X.take (j + 1)).map (·.2) ↔ yl = zl) := map_take_succ hy hz hje.out
                go_wp2_with (first | (guard_target =~ Calls _ 76 _ _ _;refine Stopped.out ?_) | (refine loadS (f := rowF) hS rfl rfl rfl j 0 ?_ hy rfl ?_ ?_;omega;omega;simp only [putW]) | (refine loadB (f := rowF) hS rfl rfl rfl hBh j 0 ?_ hz rfl ?_;omega;simp only [putW]))
                refine ⟨?_⟩
                (refine Calls.mono (equal_any ((hS.pull 0).innReads (v := yv) (A := yl) (List.mem_of_getElem? hy) (hB2 _ (List.mem_of_getElem? hy))) (hrz.mono hS.base)) ?_;rintro _ w2 ⟨rfl,h2⟩;replace hS := hS.frame h2;clear h2;(try simp only [List.cons_append,List.nil_append] at hS);simp only [putW])
                by_cases hyz : yl = zl
                · rw [decide_eq_true hyz]
                  have Hyz : Hid _ := hyz
                  clear hyz
                  go_wp2_with (refine load1 hS rfl rfl rfl rfl ?_;simp only [putW])
                  go_roundw
                  case rel => exact ⟨j + 1,by omega,by go_num,rfl,rfl,hiff2.out.2 Hyz.out,hS⟩
                  case measure => simp [intOf];omega
                · rw [decide_eq_false hyz]
                  go_wp2_with (refine load1 hS rfl rfl rfl rfl ?_;simp only [putW])
                  have hno : ¬ openOk (X.map (·.2)) n := fun h => hyz (hiff2.out.1 (by rw [List.map_take,List.map_take,hiff.out.1 h]))
                  rw [openR_form Hb.out hno]
                  exact bodyPost_ret (v := .tuple #[.int .u64 0,.slice none 0 0,.int .i64 3]) (by simp [results,Tryd.results48]) rfl ⟨.slice none 0 0,rfl,hS.nothing.slNil 1 i64 3⟩
              · have hyes : openOk (X.map (·.2)) n := by
                  refine hiff.out.2 ?_
                  have h6 := hje.out
                  rwa [List.take_of_length_le (by rw [HXl.out];omega),List.take_of_length_le (by omega)] at h6
                go_wp2_with (refine load1 hS rfl rfl rfl rfl ?_;simp only [putW])
                refine bodyPost_ret (v := .tuple #[.int .u64 (vn : Int),u5,.int .i64 0]) (by simp [results,Tryd.results48]) rfl ⟨u5,?_,?_⟩
                · rw [openR_ok Hb.out hyes,← hCat,← HV1.out]
                · rw [openR_ok Hb.out hyes,← hCat,← HC1.out,Int.toNat_natCast,← HL1.out]
                  exact hS.conv (S' := [(blk u5,sl 1 i64 L 3 u5)])
          · go_wp2_with (refine load1 hS rfl rfl rfl rfl ?_;simp only [putW])
            have hno : ¬ openOk (X.map (·.2)) n := fun h => hlx (by have h7 := congrArg List.length (hiff.out.1 h);rw [List.length_map,List.length_map,HXl.out] at h7;exact h7)
            rw [openR_form Hb.out hno]
            exact bodyPost_ret (v := .tuple #[.int .u64 0,.slice none 0 0,.int .i64 3]) (by simp [results,Tryd.results48]) rfl ⟨.slice none 0 0,rfl,hS.nothing.slNil 1 i64 3⟩
      · (refine Calls.mono (head_off vn n hv64 hrL Hb.out hok) ?_;rintro _ w2 ⟨rfl,h2⟩;replace hS := hS.frame h2;clear h2;(try simp only [List.cons_append,List.nil_append] at hS);simp only [putW])
        go_wp2_with (refine load1 hS rfl rfl rfl rfl ?_;simp only [putW])
        have hno : ¬ openOk (X.map (·.2)) n := by
          rcases hF.out with ⟨_,hL1,hl,hv,hc⟩ | ⟨_,h⟩
          · exact no_open2 (cN := cN) (by rw [← hCat];exact hc) (by rw [← hCat,← hL1];exact hok)
          · exact no_open1 (by rw [← hCat];exact h)
        rw [openR_form Hb.out hno]
        exact bodyPost_ret (v := .tuple #[.int .u64 0,.slice none 0 0,.int .i64 3]) (by simp [results,Tryd.results48]) rfl ⟨.slice none 0 0,rfl,hS.nothing.slNil 1 i64 3⟩
end
end Go.Proofs.YtdkimdobcacpfaaDoor
