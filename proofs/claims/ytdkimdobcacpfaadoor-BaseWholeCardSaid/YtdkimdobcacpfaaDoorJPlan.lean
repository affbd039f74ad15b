/-
  plan.Of and thimbleref16.Of at one page: what the plan of a journal says of its heads.
-/
import Derived.Test.YtdkimdobcacpfaaDoorTab
import Derived.Test.YtdkimdobcacpfaaDoorSlB
import Derived.Test.YtdkimdobcacpfaaDoorJPlain
set_option linter.unusedSimpArgs false
set_option linter.unusedVariables false
namespace Go.Proofs.YtdkimdobcacpfaaDoor
open Go.RowKit Go.Proofs.YtdkimdobcacpfaaDoor.Sl Go.Proofs.YtdkimdobcacpfaaDoor.Jp

/-- How many parts of a size n things begin. -/
def ceil (n s : Nat) : Nat := (n + s - 1) / s
theorem ceil_lt {n s k : Nat} (hs : 0 < s) : k * s < n ↔ k < ceil n s := by
  unfold ceil
  rw [← Nat.succ_le_iff (n := (n + s - 1) / s),Nat.le_div_iff_mul_le hs,Nat.succ_eq_add_one,Nat.add_mul]
  omega
abbrev noPlan : List Value := [.int .i64 0,.int .i64 0,.int .i64 0,.slice none 0 0,.int .i64 0,.int .i64 0,.int .i64 0,.int .i64 0,.int .i64 0,.int .i64 0]

section
variable {w0 w : World} {S : List Chunk}
theorem parts_any (n s : Nat) (hn : n ≤ 1000000) (hs : 0 < s) (hs2 : s ≤ 1000) :
    Calls Tryd.prog 79 #[.int .i64 n,.int .i64 s] w fun e w' => e = .returned (.int .i64 (ceil n s : Nat)) ∧ Sat w [] w' := by
  have e1 : ((n : Int) + s - 1) / s = ((ceil n s : Nat) : Int) := by
    unfold ceil
    rw [show ((n : Int) + s - 1) = ((n + s - 1 : Nat) : Int) by omega]
    rfl
  have E1 : Hid _ := e1
  clear e1
  go_enter Tryd.func79,Tryd.ntmps79
  go_wp2
  go_ret
  exact ⟨by rw [← E1.out];rfl,Sat.refl w⟩
theorem begun_any (n s : Nat) (hn : n ≤ 1000000) (hs : 0 < s) (hs2 : s ≤ 1000) :
    Calls Tryd.prog 66 #[.int .i64 n,.int .i64 s] w fun e w' => e = .returned (.int .i64 (ceil n s : Nat)) ∧ Sat w [] w' := by
  have hc : ceil n s ≤ 1001000 := by unfold ceil;exact Nat.le_trans (Nat.div_le_self _ _) (by omega)
  have HC : Hid (∀ k,k * s < n ↔ k < ceil n s) := fun k => ceil_lt hs
  go_enter Tryd.func66,Tryd.ntmps66
  go_wp2
  go_loopw [5] (fun i wr => ∃ k : Nat,k ≤ ceil n s ∧ i = .int .i64 k ∧ Sat w [] wr) (fun i _ => ceil n s - (intOf i).toNat)
  case atStart => exact ⟨0,Nat.zero_le _,rfl,Sat.refl w⟩
  case round =>
    obtain ⟨k,hk,rfl,hS⟩ := hrel
    have hm : ((k * s : Nat) : Int) = (k : Int) * (s : Int) := by push_cast;rfl
    have hb : k * s ≤ 1001000 * 1000 := Nat.mul_le_mul (by omega) hs2
    have hlt := HC.out k
    by_cases h : k < ceil n s
    · have h1 : (k : Int) * (s : Int) < n := by rw [← hm];have := hlt.2 h;omega
      have hb1 : (k : Int) * (s : Int) ≤ 1001000000 := by rw [← hm];omega
      have hb0 : 0 ≤ (k : Int) * (s : Int) := by rw [← hm];omega
      clear hlt hm
      go_wp2
      go_roundw
      case rel => exact ⟨k + 1,by omega,by go_num,hS⟩
      case measure => simp [intOf];omega
    · have h1 : ¬ ((k : Int) * (s : Int) < n) := by rw [← hm];have := mt hlt.1 h;omega
      have hb1 : (k : Int) * (s : Int) ≤ 1001000000 := by rw [← hm];omega
      have hb0 : 0 ≤ (k : Int) * (s : Int) := by rw [← hm];omega
      have HK : Hid (k = ceil n s) := by show k = ceil n s;omega
      clear hlt hm
      go_wp2
      go_ret
      exact ⟨by rw [← HK.out];rfl,hS⟩

theorem heads_ceil (n : Nat) : heads (n : Int) = ceil (12 + 4 * n) 256 := by unfold heads ceil;rw [Int.toNat_natCast];rfl
theorem heads_le (n : Nat) (h : n ≤ 256) : heads (n : Int) ≤ 5 := by unfold heads;rw [Int.toNat_natCast];omega
def lvM (w : World) (m : Nat) : Nat := match w.cell? ⟨m,3,none⟩ with | some (.slice none _ _) => 1 | _ => 0
theorem parts_16 : Calls Tryd.prog 79 #[.int .i64 1,.int .i64 16] w fun e w' => e = .returned (.int .i64 1) ∧ Sat w [] w' := parts_any 1 16 (by omega) (by omega) (by omega)
theorem parts_8 : Calls Tryd.prog 79 #[.int .i64 1,.int .i64 8] w fun e w' => e = .returned (.int .i64 1) ∧ Sat w [] w' := parts_any 1 8 (by omega) (by omega) (by omega)
theorem parts_h (n : Nat) (h : n ≤ 256) : Calls Tryd.prog 79 #[.int .i64 (12 + 4 * n),.int .i64 256] w fun e w' => e = .returned (.int .i64 (heads n)) ∧ Sat w [] w' := by
  have := parts_any (w := w) (12 + 4 * n) 256 (by omega) (by omega) (by omega)
  rw [heads_ceil];exact this
set_option maxHeartbeats 1000000 in
theorem planOf_good (n : Nat) (h1 : 1 ≤ n) (hn2 : n ≤ 256) : Calls Tryd.prog 60 #[.int .i64 1,.int .i64 n] w0 fun e w' => ∃ g cap,e = .returned (.tuple #[.agg #[.int .i64 1,.int .i64 n,.int .i64 1,.slice (some ⟨g,0,none⟩) 1 cap,.int .i64 1,.int .i64 3,.int .i64 (heads n),.int .i64 (3 + heads n),.int .i64 (3 + heads n + n),.int .i64 (3 + heads n + n + n)],.int .i64 0]) ∧ Sat w0 [] w' := by
  have hS := Sat.refl w0
  have hh := heads_le n hn2
  go_enter Tryd.func60,Tryd.ntmps60
  go_wp2_with (first | (guard_target =~ Calls _ 79 _ _ _;refine Stopped.out ?_) | (refine alloc hS rfl rfl ?_;clear hS;intro mb w hS;simp only [putW]))
  refine ⟨?_⟩
  replace hS := hS.slNil 1 i64 3
  go_wp2_with (first | (go_at_call 79;refine Calls.mono (parts_16) ?_;rintro _ w2 ⟨rfl,h2⟩;replace hS := hS.frame h2;clear h2;(try simp only [List.cons_append,List.nil_append] at hS);simp only [putW]) | (refine alloc hS rfl rfl ?_;clear hS;intro m6 w hS;simp only [putW]) | (refine load1 hS rfl rfl rfl rfl ?_;simp only [putW]) | (refine storeAll hS rfl rfl rfl rfl ?_ ?_ ?_ ?_;rfl;(focus (simp [Value.oneCell'];done));rfl;clear hS;intro w hS;try simp only [putW]))
  go_loopw [7] (fun c wr => c = .int .i64 1 ∧ (Sat w0 [(m6,cells #[.int .i64 1,.int .i64 n,.int .i64 1,.slice none 0 0,.int .i64 0,.int .i64 0,.int .i64 0,.int .i64 0,.int .i64 0,.int .i64 0] 60),(0,sl 1 i64 [] 3 (.slice none 0 0)),(mb,cells noPlan.toArray 60)] wr ∨
    ∃ g cap,Sat w0 [(m6,cells #[.int .i64 1,.int .i64 n,.int .i64 1,.slice (some ⟨g,0,none⟩) 1 cap,.int .i64 1,.int .i64 0,.int .i64 0,.int .i64 0,.int .i64 0,.int .i64 0] 60),(g,slc 1 i64 [1] cap 3),(mb,cells noPlan.toArray 60)] wr)) (fun _ wr => lvM wr m6)
  case atStart => exact ⟨rfl,.inl hS.conv⟩
  case round =>
    clear hS
    obtain ⟨rfl,hS | ⟨g,cap,hS⟩⟩ := hrel
    · have hm : lvM wr m6 = 1 := by unfold lvM;rw [hS.cell (b := m6) 3];rfl
      have Hm : Hid _ := hm
      clear hm
      go_wp2_with (first | (go_at_call 79;refine Calls.mono (parts_8) ?_;rintro _ w2 ⟨rfl,h2⟩;replace hS := hS.frame h2;clear h2;(try simp only [List.cons_append,List.nil_append] at hS);simp only [putW]) | (refine buildSlice1 (c := #[.int .i64 1]) hS rfl rfl rfl ?_ ?_ ?_ ?_;rfl;rfl;rfl;clear hS;intro mb w hS;simp only [putW]) | (refine append1 (f := i64) hS rfl rfl (.slice none 0 0) rfl rfl 1 ?_ ?_ ?_ ?_ ?_ ?_;rfl;(focus (simp [i64,one,Value.oneCell'];done));rfl;(focus (simp [maxLen];done));(focus (simp [maxLen];done));clear hS;intro v' w hS;obtain ⟨g,cap,hv',hS3⟩ := hS.slSome (by simp);clear hS;subst hv';have hS := hS3;clear hS3;simp only [putW]) | (refine load1 hS rfl rfl rfl rfl ?_;simp only [putW]) | (refine store1 hS rfl rfl rfl rfl rfl ?_ ?_;(focus (simp;done));clear hS;intro w hS;simp only [evW,putW] at hS;try simp only [putW]))
      simp only [List.nil_append,List.length_cons,List.length_nil,Nat.zero_add] at hS
      go_roundw
      case rel => exact ⟨rfl,.inr ⟨g,cap,hS.conv⟩⟩
      case measure => 
        have hm2 : lvM w m6 = 0 := by unfold lvM;rw [hS.cell (b := m6) 3];rfl
        rw [Hm.out,hm2];omega
    · go_wp2_with (first | (go_at_call 79;refine Calls.mono (parts_h n hn2) ?_;rintro _ w2 ⟨rfl,h2⟩;replace hS := hS.frame h2;clear h2;(try simp only [List.cons_append,List.nil_append] at hS);simp only [putW]) | (refine load1 hS rfl rfl rfl rfl ?_;simp only [putW]) | (refine loadAll hS rfl rfl rfl ?_ ?_;rfl;simp only [putW]) | (refine store1 hS rfl rfl rfl rfl rfl ?_ ?_;(focus (simp;done));clear hS;intro w hS;simp only [evW,putW] at hS;try simp only [putW]) | (refine storeAll hS rfl rfl rfl rfl ?_ ?_ ?_ ?_;rfl;(focus (simp [Value.oneCell'];done));rfl;clear hS;intro w hS;try simp only [putW]))
      have hr := run_loadAll (P := Tryd.prog) hS mb 60 rfl
      exact bodyPost_ret (v := .tuple #[.agg #[.int .i64 1,.int .i64 n,.int .i64 1,.slice (some ⟨g,0,none⟩) 1 cap,.int .i64 1,.int .i64 3,.int .i64 (heads n),.int .i64 (3 + heads n),.int .i64 (3 + heads n + n),.int .i64 (3 + heads n + n + n)],.int .i64 0]) (by simp [results,Tryd.results60,asAddr,hr]) rfl ⟨_,_,rfl,hS.conv⟩

end
end Go.Proofs.YtdkimdobcacpfaaDoor
