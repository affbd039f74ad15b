/-
  FramesPlays: an act done to both: Reserve, Free.
  FramesPlays: an act done to both: Free. (Printed by mkdo.py.)
  FramesPlays: an act done to both: Put of a new key. (Printed by mkdo.py.)
  FramesPlays: an act done to both: Put where no frame is empty. (Printed by mkdo.py.)
  FramesPlays: an act done to both: Put of a key that is there. (Printed by mkdo.py.)
-/
import Derived.Test.YtlkoclalcfeniaaFrTi
import Derived.Test.YtlkoclalcfeniaaFrHaveP
import Derived.Test.YtlkoclalcfeniaaFrKeys
set_option linter.unusedSimpArgs false
set_option linter.unusedVariables false
namespace Go.Proofs.Ytlkoclalcfeniaa
open Go.RowKit Go.Shelf Go.Proofs.Ytlkoclalcfeniaa.Sl Go.Proofs.Ytlkoclalcfeniaa.Jp

/-- The code's table. -/
abbrev codeL (T : Tb) (t : Nat) (FL : Frs) (PW : PinsW) (SL : Shs) (now : Nat) (sp : Spots) (K : List Chunk) : List Chunk := (t, cells (tbC T) 65) :: (T.fm, mapC encInt frV FL) :: (7, frC FL) :: (T.pm, mapC encW uV PW) :: (T.sm, mapC encInt (Value.int .i64) SL) :: (T.hp, HeatC now sp) :: K
/-- Both tables, tied, behind i acts. -/
def Bth (w0 : World) (T : Tb) (t x : Nat) (i : Nat) (K : List Chunk) (w : World) : Prop := ∃ FL PW SL now sp X, (Tie13 FL PW SL now sp T.most X i ∧ ∀ k ∈ mkeys FL, okI k) ∧ Sat w0 ((x, X13C X) :: codeL T t FL PW SL now sp K) w
abbrev pairC (t x : Nat) : Array Value := #[.pointer (some ⟨t, 0, none⟩), .pointer (some ⟨x, 0, none⟩)]
abbrev actC (kd tk ky : Int) (vB : Value) (wr : Bool) (by' : Nat) : Array Value := #[.int .i64 kd, .int .i64 tk, .int .i64 ky, vB, .bool wr, .float .f64 by']
section
variable {w0 w : World} {K : List Chunk} {t x i : Nat} {T : Tb} {FL : Frs} {PW : PinsW} {SL : Shs} {now : Nat} {sp : Spots} {X : X13} {kd tk ky : Int} {vB : Value} {wr : Bool} {bts : Nat}
set_option maxRecDepth 100000 in
set_option maxHeartbeats 8000000 in
theorem do_0 (hq : kd % 9 = 0) (h : Tie13 FL PW SL now sp T.most X i ∧ ∀ k ∈ mkeys FL, okI k) (hi : i ≤ 200) (hB : vB.oneCell' = true) (hS : Sat w0 ((x, X13C X) :: codeL T t FL PW SL now sp K) w) : Calls Try.prog 27 #[.agg (pairC t x), .agg (actC kd tk ky vB wr bts)] w fun e w' => e = .returned (.bool true) ∧ Bth w0 T t x (i + 1) K w' := by
  have HT : Bx _ := ⟨h⟩
  obtain ⟨at0, hat0⟩ : ∃ a, atX X.l ky 0 = a := ⟨_, rfl⟩
  have HA : Bx _ := ⟨hat0⟩
  obtain ⟨rc, hrc⟩ : ∃ r, resC SL T.most tk ky = r := ⟨_, rfl⟩
  have HR : Bx (resC SL T.most tk ky = rc ∧ resX X tk ky = rc) := ⟨hrc, by rw [← h.1.res]; exact hrc⟩
  have hp : ∀ p ∈ SL, 0 ≤ p.2 := fun p hp => by have := h.1.s1 p hp; omega
  have HP : Bx ((∀ p ∈ SL, 0 ≤ p.2) ∧ sumS SL ≤ T.most ∧ T.most ≤ 1024) := ⟨hp, h.1.ss, by have := h.1.m1.2; omega⟩
  have HP2 : Bx ((∀ p ∈ X.shares, 0 ≤ p.2) ∧ sumS X.shares ≤ X.most ∧ X.most ≤ 1024 ∧ X.shares.length ≤ 900) := ⟨fun p hp2 => hp p (h.1.sh.symm.subset hp2), by rw [← sum_perm h.1.sh, h.1.most]; exact h.1.ss, by rw [h.1.most]; have := h.1.m1.2; omega, by have := h.1.sl; omega⟩
  clear h hat0 hrc hp
  go_enter Try.func27, Try.ntmps27
  go_wp2_with (first | (refine boxN (cs := pairC t x) hS rfl rfl rfl ?_; clear hS; intro bp w hS; simp only [putW]) | (refine boxN (cs := actC kd tk ky vB wr bts) hS rfl rfl rfl ?_; clear hS; intro ba w hS; simp only [putW]) | (guard_target =~ Calls _ 40 _ _ _; refine Stopped.out ?_) | (refine load1 hS rfl rfl rfl rfl ?_; simp only [putW]) | (refine loadAll hS rfl rfl rfl ?_ ?_; rfl; simp only [putW]) | (refine loadPart hS rfl rfl rfl ?_ rfl ?_; rfl; simp only [putW]) | (refine store1 hS rfl rfl rfl rfl rfl ?_ ?_; (focus (simp; done)); clear hS; intro w hS; simp only [evW, putW] at hS; try simp only [putW]) | (refine storeAll hS rfl rfl rfl rfl ?_ ?_ ?_ ?_; rfl; (focus (simp [Value.oneCell']; done)); rfl; clear hS; intro w hS; try simp only [putW]) | (refine storeN hS rfl rfl rfl rfl ?_ ?_ ?_ ?_; rfl; (focus (simp [Value.oneCell']; done)); (focus (simp; done)); clear hS; intro w hS; simp at hS; try simp only [putW]) | (refine alloc hS rfl rfl ?_; clear hS; intro mb w hS; simp only [putW]) | (refine box1 hS rfl rfl rfl rfl ?_; clear hS; intro mb w hS; try simp only [evW, putW] at hS; simp only [putW]) | (refine boxN hS rfl rfl rfl ?_; clear hS; intro mb w hS; simp only [putW]))
  refine ⟨?_⟩
  refine Calls.mono (refAt_any (X := X) (key := ky) (K := (bp, cells (pairC t x) 55) :: (ba, cells (actC kd tk ky vB wr bts) 44) :: codeL T t FL PW SL now sp K) hS.conv) ?_
  clear hS
  rw [HA.out]
  rintro _ w ⟨rfl, hS⟩
  simp only [putW]
  go_wp2_with (first | (guard_target =~ Calls _ 8 _ _ _; refine Stopped.out ?_) | (refine load1 hS rfl rfl rfl rfl ?_; simp only [putW]) | (refine loadAll hS rfl rfl rfl ?_ ?_; rfl; simp only [putW]) | (refine loadPart hS rfl rfl rfl ?_ rfl ?_; rfl; simp only [putW]) | (refine store1 hS rfl rfl rfl rfl rfl ?_ ?_; (focus (simp; done)); clear hS; intro w hS; simp only [evW, putW] at hS; try simp only [putW]) | (refine storeAll hS rfl rfl rfl rfl ?_ ?_ ?_ ?_; rfl; (focus (simp [Value.oneCell']; done)); rfl; clear hS; intro w hS; try simp only [putW]) | (refine storeN hS rfl rfl rfl rfl ?_ ?_ ?_ ?_; rfl; (focus (simp [Value.oneCell']; done)); (focus (simp; done)); clear hS; intro w hS; simp at hS; try simp only [putW]) | (refine alloc hS rfl rfl ?_; clear hS; intro mb w hS; simp only [putW]) | (refine box1 hS rfl rfl rfl rfl ?_; clear hS; intro mb w hS; try simp only [evW, putW] at hS; simp only [putW]) | (refine boxN hS rfl rfl rfl ?_; clear hS; intro mb w hS; simp only [putW]))
  refine ⟨?_⟩
  refine Calls.mono (pick_sat kd 9 (by omega) (by omega) hS) ?_
  clear hS
  rintro _ w ⟨rfl, hS⟩
  rw [hq]
  simp only [putW]
  go_upto_region 7 with (first | (refine load1 hS rfl rfl rfl rfl ?_; simp only [putW]) | (refine loadAll hS rfl rfl rfl ?_ ?_; rfl; simp only [putW]) | (refine loadPart hS rfl rfl rfl ?_ rfl ?_; rfl; simp only [putW]) | (refine store1 hS rfl rfl rfl rfl rfl ?_ ?_; (focus (simp; done)); clear hS; intro w hS; simp only [evW, putW] at hS; try simp only [putW]) | (refine storeAll hS rfl rfl rfl rfl ?_ ?_ ?_ ?_; rfl; (focus (simp [Value.oneCell']; done)); rfl; clear hS; intro w hS; try simp only [putW]) | (refine storeN hS rfl rfl rfl rfl ?_ ?_ ?_ ?_; rfl; (focus (simp [Value.oneCell']; done)); (focus (simp; done)); clear hS; intro w hS; simp at hS; try simp only [putW]) | (refine alloc hS rfl rfl ?_; clear hS; intro mb w hS; simp only [putW]) | (refine box1 hS rfl rfl rfl rfl ?_; clear hS; intro mb w hS; try simp only [evW, putW] at hS; simp only [putW]) | (refine boxN hS rfl rfl rfl ?_; clear hS; intro mb w hS; simp only [putW]))
  (refine wp_region_held (S := fun w' => Sat w0 ((bp, cells (pairC t x) 55) :: (ba, cells (actC kd tk ky vB wr bts) 44) :: K) w') (by kernel_rfl) ?_; replace hS := hS.drew; (first | (refine takeIf (i := 0) rfl (by kernel_rfl) (fun _ _ _ h => h) (yMove rfl rfl rfl) hS.conv ?_; simp only [evW, putW]) | (refine takeIf (i := 0) rfl (by kernel_rfl) (fun _ _ _ h => h) (yLoad1 (fun _ h => h) rfl rfl rfl rfl) hS.conv ?_; simp only [putW]) | (refine takeIf (i := 0) rfl (by kernel_rfl) (fun _ _ _ h => h) (yLoadAll (fun _ h => h) rfl rfl rfl rfl) hS.conv ?_; simp only [putW]) | (apply takeIf (i := 0) rfl (by kernel_rfl) (fun _ _ _ h => h); (focus (apply yRun rfl; intro w; first | (go_simp; done) | (go_simp; rfl))); (focus (exact hS.conv)); simp only [putW])); (first | (refine takeIf (i := 1) rfl (by kernel_rfl) (fun _ _ _ h => h) (yMove rfl rfl rfl) hS.conv ?_; simp only [evW, putW]) | (refine takeIf (i := 1) rfl (by kernel_rfl) (fun _ _ _ h => h) (yLoad1 (fun _ h => h) rfl rfl rfl rfl) hS.conv ?_; simp only [putW]) | (refine takeIf (i := 1) rfl (by kernel_rfl) (fun _ _ _ h => h) (yLoadAll (fun _ h => h) rfl rfl rfl rfl) hS.conv ?_; simp only [putW]) | (apply takeIf (i := 1) rfl (by kernel_rfl) (fun _ _ _ h => h); (focus (apply yRun rfl; intro w; first | (go_simp; done) | (go_simp; rfl))); (focus (exact hS.conv)); simp only [putW])); (first | (refine takeIf (i := 2) rfl (by kernel_rfl) (fun _ _ _ h => h) (yMove rfl rfl rfl) hS.conv ?_; simp only [evW, putW]) | (refine takeIf (i := 2) rfl (by kernel_rfl) (fun _ _ _ h => h) (yLoad1 (fun _ h => h) rfl rfl rfl rfl) hS.conv ?_; simp only [putW]) | (refine takeIf (i := 2) rfl (by kernel_rfl) (fun _ _ _ h => h) (yLoadAll (fun _ h => h) rfl rfl rfl rfl) hS.conv ?_; simp only [putW]) | (apply takeIf (i := 2) rfl (by kernel_rfl) (fun _ _ _ h => h); (focus (apply yRun rfl; intro w; first | (go_simp; done) | (go_simp; rfl))); (focus (exact hS.conv)); simp only [putW])); (first | (refine takeIf (i := 3) rfl (by kernel_rfl) (fun _ _ _ h => h) (yMove rfl rfl rfl) hS.conv ?_; simp only [evW, putW]) | (refine takeIf (i := 3) rfl (by kernel_rfl) (fun _ _ _ h => h) (yLoad1 (fun _ h => h) rfl rfl rfl rfl) hS.conv ?_; simp only [putW]) | (refine takeIf (i := 3) rfl (by kernel_rfl) (fun _ _ _ h => h) (yLoadAll (fun _ h => h) rfl rfl rfl rfl) hS.conv ?_; simp only [putW]) | (apply takeIf (i := 3) rfl (by kernel_rfl) (fun _ _ _ h => h); (focus (apply yRun rfl; intro w; first | (go_simp; done) | (go_simp; rfl))); (focus (exact hS.conv)); simp only [putW])); (first | (refine takeIf (i := 4) rfl (by kernel_rfl) (fun _ _ _ h => h) (yMove rfl rfl rfl) hS.conv ?_; simp only [evW, putW]) | (refine takeIf (i := 4) rfl (by kernel_rfl) (fun _ _ _ h => h) (yLoad1 (fun _ h => h) rfl rfl rfl rfl) hS.conv ?_; simp only [putW]) | (refine takeIf (i := 4) rfl (by kernel_rfl) (fun _ _ _ h => h) (yLoadAll (fun _ h => h) rfl rfl rfl rfl) hS.conv ?_; simp only [putW]) | (apply takeIf (i := 4) rfl (by kernel_rfl) (fun _ _ _ h => h); (focus (apply yRun rfl; intro w; first | (go_simp; done) | (go_simp; rfl))); (focus (exact hS.conv)); simp only [putW])); (first | (refine takeIf (i := 5) rfl (by kernel_rfl) (fun _ _ _ h => h) (yMove rfl rfl rfl) hS.conv ?_; simp only [evW, putW]) | (refine takeIf (i := 5) rfl (by kernel_rfl) (fun _ _ _ h => h) (yLoad1 (fun _ h => h) rfl rfl rfl rfl) hS.conv ?_; simp only [putW]) | (refine takeIf (i := 5) rfl (by kernel_rfl) (fun _ _ _ h => h) (yLoadAll (fun _ h => h) rfl rfl rfl rfl) hS.conv ?_; simp only [putW]) | (apply takeIf (i := 5) rfl (by kernel_rfl) (fun _ _ _ h => h); (focus (apply yRun rfl; intro w; first | (go_simp; done) | (go_simp; rfl))); (focus (exact hS.conv)); simp only [putW])); (first | (refine takeIf (i := 7) rfl (by kernel_rfl) (fun _ _ _ h => h) (yMove rfl rfl rfl) hS.conv ?_; simp only [evW, putW]) | (refine takeIf (i := 7) rfl (by kernel_rfl) (fun _ _ _ h => h) (yLoad1 (fun _ h => h) rfl rfl rfl rfl) hS.conv ?_; simp only [putW]) | (refine takeIf (i := 7) rfl (by kernel_rfl) (fun _ _ _ h => h) (yLoadAll (fun _ h => h) rfl rfl rfl rfl) hS.conv ?_; simp only [putW]) | (apply takeIf (i := 7) rfl (by kernel_rfl) (fun _ _ _ h => h); (focus (apply yRun rfl; intro w; first | (go_simp; done) | (go_simp; rfl))); (focus (exact hS.conv)); simp only [putW])); (first | (refine takeIf (i := 8) rfl (by kernel_rfl) (fun _ _ _ h => h) (yMove rfl rfl rfl) hS.conv ?_; simp only [evW, putW]) | (refine takeIf (i := 8) rfl (by kernel_rfl) (fun _ _ _ h => h) (yLoad1 (fun _ h => h) rfl rfl rfl rfl) hS.conv ?_; simp only [putW]) | (refine takeIf (i := 8) rfl (by kernel_rfl) (fun _ _ _ h => h) (yLoadAll (fun _ h => h) rfl rfl rfl rfl) hS.conv ?_; simp only [putW]) | (apply takeIf (i := 8) rfl (by kernel_rfl) (fun _ _ _ h => h); (focus (apply yRun rfl; intro w; first | (go_simp; done) | (go_simp; rfl))); (focus (exact hS.conv)); simp only [putW])); (first | (refine takeIf (i := 9) rfl (by kernel_rfl) (fun _ _ _ h => h) (yMove rfl rfl rfl) hS.conv ?_; simp only [evW, putW]) | (refine takeIf (i := 9) rfl (by kernel_rfl) (fun _ _ _ h => h) (yLoad1 (fun _ h => h) rfl rfl rfl rfl) hS.conv ?_; simp only [putW]) | (refine takeIf (i := 9) rfl (by kernel_rfl) (fun _ _ _ h => h) (yLoadAll (fun _ h => h) rfl rfl rfl rfl) hS.conv ?_; simp only [putW]) | (apply takeIf (i := 9) rfl (by kernel_rfl) (fun _ _ _ h => h); (focus (apply yRun rfl; intro w; first | (go_simp; done) | (go_simp; rfl))); (focus (exact hS.conv)); simp only [putW])); (first | (refine takeIf (i := 10) rfl (by kernel_rfl) (fun _ _ _ h => h) (yMove rfl rfl rfl) hS.conv ?_; simp only [evW, putW]) | (refine takeIf (i := 10) rfl (by kernel_rfl) (fun _ _ _ h => h) (yLoad1 (fun _ h => h) rfl rfl rfl rfl) hS.conv ?_; simp only [putW]) | (refine takeIf (i := 10) rfl (by kernel_rfl) (fun _ _ _ h => h) (yLoadAll (fun _ h => h) rfl rfl rfl rfl) hS.conv ?_; simp only [putW]) | (apply takeIf (i := 10) rfl (by kernel_rfl) (fun _ _ _ h => h); (focus (apply yRun rfl; intro w; first | (go_simp; done) | (go_simp; rfl))); (focus (exact hS.conv)); simp only [putW])); (first | (refine takeIf (i := 11) rfl (by kernel_rfl) (fun _ _ _ h => h) (yMove rfl rfl rfl) hS.conv ?_; simp only [evW, putW]) | (refine takeIf (i := 11) rfl (by kernel_rfl) (fun _ _ _ h => h) (yLoad1 (fun _ h => h) rfl rfl rfl rfl) hS.conv ?_; simp only [putW]) | (refine takeIf (i := 11) rfl (by kernel_rfl) (fun _ _ _ h => h) (yLoadAll (fun _ h => h) rfl rfl rfl rfl) hS.conv ?_; simp only [putW]) | (apply takeIf (i := 11) rfl (by kernel_rfl) (fun _ _ _ h => h); (focus (apply yRun rfl; intro w; first | (go_simp; done) | (go_simp; rfl))); (focus (exact hS.conv)); simp only [putW])); (first | (refine takeIf (i := 12) rfl (by kernel_rfl) (fun _ _ _ h => h) (yMove rfl rfl rfl) hS.conv ?_; simp only [evW, putW]) | (refine takeIf (i := 12) rfl (by kernel_rfl) (fun _ _ _ h => h) (yLoad1 (fun _ h => h) rfl rfl rfl rfl) hS.conv ?_; simp only [putW]) | (refine takeIf (i := 12) rfl (by kernel_rfl) (fun _ _ _ h => h) (yLoadAll (fun _ h => h) rfl rfl rfl rfl) hS.conv ?_; simp only [putW]) | (apply takeIf (i := 12) rfl (by kernel_rfl) (fun _ _ _ h => h); (focus (apply yRun rfl; intro w; first | (go_simp; done) | (go_simp; rfl))); (focus (exact hS.conv)); simp only [putW])); refine wpAnyH_all (rs := [6]) (by kernel_rfl) (by simp) ?_; intro i hi; simp only [List.mem_cons, List.not_mem_nil, or_false] at hi; subst hi; refine wpOp_of_list rfl ?_; go_wp2_with (first | (go_at_call 19; refine Calls.mono (reserve_x (task := tk) (n := ky) HP.out.1 HP.out.2.1 HP.out.2.2 (hS.conv (S' := (t, cells (tbC T) 65) :: (T.sm, mapC encInt (Value.int .i64) SL) :: (x, X13C X) :: (bp, cells (pairC t x) 55) :: (ba, cells (actC kd tk ky vB wr bts) 44) :: (T.fm, mapC encInt frV FL) :: (7, frC FL) :: (T.pm, mapC encW uV PW) :: (T.hp, HeatC now sp) :: K))) ?_; rw [HR.out.1]; clear hS; rintro _ w ⟨rfl, hS⟩; simp only [putW]) | (refine load1 hS rfl rfl rfl rfl ?_; simp only [putW]) | (refine loadAll hS rfl rfl rfl ?_ ?_; rfl; simp only [putW]) | (refine loadPart hS rfl rfl rfl ?_ rfl ?_; rfl; simp only [putW]) | (refine store1 hS rfl rfl rfl rfl rfl ?_ ?_; (focus (simp; done)); clear hS; intro w hS; simp only [evW, putW] at hS; try simp only [putW]) | (refine storeAll hS rfl rfl rfl rfl ?_ ?_ ?_ ?_; rfl; (focus (simp [Value.oneCell']; done)); rfl; clear hS; intro w hS; try simp only [putW]) | (refine storeN hS rfl rfl rfl rfl ?_ ?_ ?_ ?_; rfl; (focus (simp [Value.oneCell']; done)); (focus (simp; done)); clear hS; intro w hS; simp at hS; try simp only [putW]) | (refine alloc hS rfl rfl ?_; clear hS; intro mb w hS; simp only [putW]) | (refine box1 hS rfl rfl rfl rfl ?_; clear hS; intro mb w hS; try simp only [evW, putW] at hS; simp only [putW]) | (refine boxN hS rfl rfl rfl ?_; clear hS; intro mb w hS; simp only [putW])); refine ⟨rfl, hS.conv, ?_⟩; refine wpAnyH_all (rs := [13]) (by kernel_rfl) (by simp) ?_; intro i hi; simp only [List.mem_cons, List.not_mem_nil, or_false] at hi; subst hi; refine wpOp_of_list rfl ?_; go_wp2_with (first | (go_at_call 41; refine Calls.mono (refReserve13 (X := X) (task := tk) (n := ky) (K := (t, cells (tbC T) 65) :: (T.sm, mapC encInt (Value.int .i64) (if rc = 0 then mput SL tk ky else SL)) :: (bp, cells (pairC t x) 55) :: (ba, cells (actC kd tk ky vB wr bts) 44) :: (T.fm, mapC encInt frV FL) :: (7, frC FL) :: (T.pm, mapC encW uV PW) :: (T.hp, HeatC now sp) :: K) HP2.out.1 HP2.out.2.1 HP2.out.2.2.1 HP2.out.2.2.2 hS.conv) ?_; rw [HR.out.2]; clear hS; rintro _ w ⟨rfl, hS⟩; simp only [putW]) | (refine load1 hS rfl rfl rfl rfl ?_; simp only [putW]) | (refine loadAll hS rfl rfl rfl ?_ ?_; rfl; simp only [putW]) | (refine loadPart hS rfl rfl rfl ?_ rfl ?_; rfl; simp only [putW]) | (refine store1 hS rfl rfl rfl rfl rfl ?_ ?_; (focus (simp; done)); clear hS; intro w hS; simp only [evW, putW] at hS; try simp only [putW]) | (refine storeAll hS rfl rfl rfl rfl ?_ ?_ ?_ ?_; rfl; (focus (simp [Value.oneCell']; done)); rfl; clear hS; intro w hS; try simp only [putW]) | (refine storeN hS rfl rfl rfl rfl ?_ ?_ ?_ ?_; rfl; (focus (simp [Value.oneCell']; done)); (focus (simp; done)); clear hS; intro w hS; simp at hS; try simp only [putW]) | (refine alloc hS rfl rfl ?_; clear hS; intro mb w hS; simp only [putW]) | (refine box1 hS rfl rfl rfl rfl ?_; clear hS; intro mb w hS; try simp only [evW, putW] at hS; simp only [putW]) | (refine boxN hS rfl rfl rfl ?_; clear hS; intro mb w hS; simp only [putW])); refine ⟨rfl, hS.conv, ?_⟩; (first | (refine takeIf (i := 14) rfl (by kernel_rfl) (fun _ _ _ h => h) (yMove rfl rfl rfl) hS.conv ?_; simp only [evW, putW]) | (refine takeIf (i := 14) rfl (by kernel_rfl) (fun _ _ _ h => h) (yLoad1 (fun _ h => h) rfl rfl rfl rfl) hS.conv ?_; simp only [putW]) | (refine takeIf (i := 14) rfl (by kernel_rfl) (fun _ _ _ h => h) (yLoadAll (fun _ h => h) rfl rfl rfl rfl) hS.conv ?_; simp only [putW]) | (apply takeIf (i := 14) rfl (by kernel_rfl) (fun _ _ _ h => h); (focus (apply yRun rfl; intro w; first | (go_simp; done) | (go_simp; rfl))); (focus (exact hS.conv)); simp only [putW])); (first | (refine takeIf (i := 15) rfl (by kernel_rfl) (fun _ _ _ h => h) (yMove rfl rfl rfl) hS.conv ?_; simp only [evW, putW]) | (refine takeIf (i := 15) rfl (by kernel_rfl) (fun _ _ _ h => h) (yLoad1 (fun _ h => h) rfl rfl rfl rfl) hS.conv ?_; simp only [putW]) | (refine takeIf (i := 15) rfl (by kernel_rfl) (fun _ _ _ h => h) (yLoadAll (fun _ h => h) rfl rfl rfl rfl) hS.conv ?_; simp only [putW]) | (apply takeIf (i := 15) rfl (by kernel_rfl) (fun _ _ _ h => h); (focus (apply yRun rfl; intro w; first | (go_simp; done) | (go_simp; rfl))); (focus (exact hS.conv)); simp only [putW])); refine wpAnyH_done (by kernel_rfl) ?_ _; go_wp2_with (first | (refine load1 hS rfl rfl rfl rfl ?_; simp only [putW]) | (refine loadAll hS rfl rfl rfl ?_ ?_; rfl; simp only [putW]) | (refine loadPart hS rfl rfl rfl ?_ rfl ?_; rfl; simp only [putW]) | (refine store1 hS rfl rfl rfl rfl rfl ?_ ?_; (focus (simp; done)); clear hS; intro w hS; simp only [evW, putW] at hS; try simp only [putW]) | (refine storeAll hS rfl rfl rfl rfl ?_ ?_ ?_ ?_; rfl; (focus (simp [Value.oneCell']; done)); rfl; clear hS; intro w hS; try simp only [putW]) | (refine storeN hS rfl rfl rfl rfl ?_ ?_ ?_ ?_; rfl; (focus (simp [Value.oneCell']; done)); (focus (simp; done)); clear hS; intro w hS; simp at hS; try simp only [putW]) | (refine alloc hS rfl rfl ?_; clear hS; intro mb w hS; simp only [putW]) | (refine box1 hS rfl rfl rfl rfl ?_; clear hS; intro mb w hS; try simp only [evW, putW] at hS; simp only [putW]) | (refine boxN hS rfl rfl rfl ?_; clear hS; intro mb w hS; simp only [putW])); go_ret; refine ⟨rfl, FL, PW, (if rc = 0 then mput SL tk ky else SL), now, sp, resT X tk ky, ⟨by have h9 := HT.out.1.reserve (task := tk) (n := ky); rw [HR.out.1] at h9; exact h9, HT.out.2⟩, hS.conv⟩)
end
end Go.Proofs.Ytlkoclalcfeniaa
namespace Go.Proofs.Ytlkoclalcfeniaa
open Go.RowKit Go.Shelf Go.Proofs.Ytlkoclalcfeniaa.Sl Go.Proofs.Ytlkoclalcfeniaa.Jp

section
variable {w0 w : World} {K : List Chunk} {t x i : Nat} {T : Tb} {FL : Frs} {PW : PinsW} {SL : Shs} {now : Nat} {sp : Spots} {X : X13} {kd tk ky : Int} {vB : Value} {wr : Bool} {bts : Nat}
set_option maxRecDepth 100000 in
set_option maxHeartbeats 8000000 in
theorem do_1 (hq : kd % 9 = 1) (h : Tie13 FL PW SL now sp T.most X i ∧ ∀ k ∈ mkeys FL, okI k) (hi : i ≤ 200) (hB : vB.oneCell' = true) (hS : Sat w0 ((x, X13C X) :: codeL T t FL PW SL now sp K) w) : Calls Try.prog 27 #[.agg (pairC t x), .agg (actC kd tk ky vB wr bts)] w fun e w' => e = .returned (.bool true) ∧ Bth w0 T t x (i + 1) K w' := by
  have HT : Bx _ := ⟨h⟩
  have HL : Bx (X.shares.length ≤ 1000 ∧ X.pins.length ≤ 1000) := ⟨by have := h.1.sl; omega, by have := h.1.pl; omega⟩
  obtain ⟨at0, hat0⟩ : ∃ a, atX X.l ky 0 = a := ⟨_, rfl⟩
  have HA : Bx (atX X.l ky 0 = at0) := ⟨hat0⟩
  clear h hat0
  go_enter Try.func27, Try.ntmps27
  go_wp2_with (first | (refine boxN (cs := pairC t x) hS rfl rfl rfl ?_; clear hS; intro bp w hS; simp only [putW]) | (refine boxN (cs := actC kd tk ky vB wr bts) hS rfl rfl rfl ?_; clear hS; intro ba w hS; simp only [putW]) | (guard_target =~ Calls _ 40 _ _ _; refine Stopped.out ?_) | (refine load1 hS rfl rfl rfl rfl ?_; simp only [putW]) | (refine loadAll hS rfl rfl rfl ?_ ?_; rfl; simp only [putW]) | (refine loadPart hS rfl rfl rfl ?_ rfl ?_; rfl; simp only [putW]) | (refine store1 hS rfl rfl rfl rfl rfl ?_ ?_; (focus (simp; done)); clear hS; intro w hS; simp only [evW, putW] at hS; try simp only [putW]) | (refine storeAll hS rfl rfl rfl rfl ?_ ?_ ?_ ?_; rfl; (focus (simp [Value.oneCell']; done)); rfl; clear hS; intro w hS; try simp only [putW]) | (refine storeN hS rfl rfl rfl rfl ?_ ?_ ?_ ?_; rfl; (focus (simp [Value.oneCell']; done)); (focus (simp; done)); clear hS; intro w hS; simp at hS; try simp only [putW]) | (refine alloc hS rfl rfl ?_; clear hS; intro mb w hS; simp only [putW]) | (refine box1 hS rfl rfl rfl rfl ?_; clear hS; intro mb w hS; try simp only [evW, putW] at hS; simp only [putW]) | (refine boxN hS rfl rfl rfl ?_; clear hS; intro mb w hS; simp only [putW]))
  refine ⟨?_⟩
  refine Calls.mono (refAt_any (X := X) (key := ky) (K := (bp, cells (pairC t x) 55) :: (ba, cells (actC kd tk ky vB wr bts) 44) :: codeL T t FL PW SL now sp K) hS.conv) ?_
  clear hS
  rw [HA.out]
  rintro _ w ⟨rfl, hS⟩
  simp only [putW]
  go_wp2_with (first | (guard_target =~ Calls _ 8 _ _ _; refine Stopped.out ?_) | (refine load1 hS rfl rfl rfl rfl ?_; simp only [putW]) | (refine loadAll hS rfl rfl rfl ?_ ?_; rfl; simp only [putW]) | (refine loadPart hS rfl rfl rfl ?_ rfl ?_; rfl; simp only [putW]) | (refine store1 hS rfl rfl rfl rfl rfl ?_ ?_; (focus (simp; done)); clear hS; intro w hS; simp only [evW, putW] at hS; try simp only [putW]) | (refine storeAll hS rfl rfl rfl rfl ?_ ?_ ?_ ?_; rfl; (focus (simp [Value.oneCell']; done)); rfl; clear hS; intro w hS; try simp only [putW]) | (refine storeN hS rfl rfl rfl rfl ?_ ?_ ?_ ?_; rfl; (focus (simp [Value.oneCell']; done)); (focus (simp; done)); clear hS; intro w hS; simp at hS; try simp only [putW]) | (refine alloc hS rfl rfl ?_; clear hS; intro mb w hS; simp only [putW]) | (refine box1 hS rfl rfl rfl rfl ?_; clear hS; intro mb w hS; try simp only [evW, putW] at hS; simp only [putW]) | (refine boxN hS rfl rfl rfl ?_; clear hS; intro mb w hS; simp only [putW]))
  refine ⟨?_⟩
  refine Calls.mono (pick_sat kd 9 (by omega) (by omega) hS) ?_
  clear hS
  rintro _ w ⟨rfl, hS⟩
  rw [hq]
  simp only [putW]
  go_wp2_with (first | (guard_target =~ Calls _ 15 _ _ _; refine Stopped.out ?_) | (refine load1 hS rfl rfl rfl rfl ?_; simp only [putW]) | (refine loadAll hS rfl rfl rfl ?_ ?_; rfl; simp only [putW]) | (refine loadPart hS rfl rfl rfl ?_ rfl ?_; rfl; simp only [putW]) | (refine store1 hS rfl rfl rfl rfl rfl ?_ ?_; (focus (simp; done)); clear hS; intro w hS; simp only [evW, putW] at hS; try simp only [putW]) | (refine storeAll hS rfl rfl rfl rfl ?_ ?_ ?_ ?_; rfl; (focus (simp [Value.oneCell']; done)); rfl; clear hS; intro w hS; try simp only [putW]) | (refine storeN hS rfl rfl rfl rfl ?_ ?_ ?_ ?_; rfl; (focus (simp [Value.oneCell']; done)); (focus (simp; done)); clear hS; intro w hS; simp at hS; try simp only [putW]) | (refine alloc hS rfl rfl ?_; clear hS; intro mb w hS; simp only [putW]) | (refine box1 hS rfl rfl rfl rfl ?_; clear hS; intro mb w hS; try simp only [evW, putW] at hS; simp only [putW]) | (refine boxN hS rfl rfl rfl ?_; clear hS; intro mb w hS; simp only [putW]))
  refine ⟨?_⟩
  refine Calls.mono (free_any (task := tk) (PL := PW) (SL := SL) (hS.conv (S' := (t, cells (tbC T) 65) :: (T.pm, mapC encW uV PW) :: (T.sm, mapC encInt (Value.int .i64) SL) :: (x, X13C X) :: (bp, cells (pairC t x) 55) :: (ba, cells (actC kd tk ky vB wr bts) 44) :: (T.fm, mapC encInt frV FL) :: (7, frC FL) :: (T.hp, HeatC now sp) :: K))) ?_
  clear hS
  rintro _ w ⟨PL2, rfl, hgone, hS⟩
  have HG : Bx _ := ⟨hgone⟩
  clear hgone
  simp only [putW]
  go_wp2_with (first | (guard_target =~ Calls _ 42 _ _ _; refine Stopped.out ?_) | (refine load1 hS rfl rfl rfl rfl ?_; simp only [putW]) | (refine loadAll hS rfl rfl rfl ?_ ?_; rfl; simp only [putW]) | (refine loadPart hS rfl rfl rfl ?_ rfl ?_; rfl; simp only [putW]) | (refine store1 hS rfl rfl rfl rfl rfl ?_ ?_; (focus (simp; done)); clear hS; intro w hS; simp only [evW, putW] at hS; try simp only [putW]) | (refine storeAll hS rfl rfl rfl rfl ?_ ?_ ?_ ?_; rfl; (focus (simp [Value.oneCell']; done)); rfl; clear hS; intro w hS; try simp only [putW]) | (refine storeN hS rfl rfl rfl rfl ?_ ?_ ?_ ?_; rfl; (focus (simp [Value.oneCell']; done)); (focus (simp; done)); clear hS; intro w hS; simp at hS; try simp only [putW]) | (refine alloc hS rfl rfl ?_; clear hS; intro mb w hS; simp only [putW]) | (refine box1 hS rfl rfl rfl rfl ?_; clear hS; intro mb w hS; try simp only [evW, putW] at hS; simp only [putW]) | (refine boxN hS rfl rfl rfl ?_; clear hS; intro mb w hS; simp only [putW]))
  refine ⟨?_⟩
  refine Calls.mono (refFree13 (X := X) (task := tk) (K := (t, cells (tbC T) 65) :: (T.pm, mapC encW uV PL2) :: (T.sm, mapC encInt (Value.int .i64) (mdel SL tk)) :: (bp, cells (pairC t x) 55) :: (ba, cells (actC kd tk ky vB wr bts) 44) :: (T.fm, mapC encInt frV FL) :: (7, frC FL) :: (T.hp, HeatC now sp) :: K) HL.out.1 HL.out.2 hS.conv) ?_
  clear hS
  rintro _ w ⟨rfl, hS⟩
  simp only [putW]
  go_wp2_with (first | (refine load1 hS rfl rfl rfl rfl ?_; simp only [putW]) | (refine loadAll hS rfl rfl rfl ?_ ?_; rfl; simp only [putW]) | (refine loadPart hS rfl rfl rfl ?_ rfl ?_; rfl; simp only [putW]) | (refine store1 hS rfl rfl rfl rfl rfl ?_ ?_; (focus (simp; done)); clear hS; intro w hS; simp only [evW, putW] at hS; try simp only [putW]) | (refine storeAll hS rfl rfl rfl rfl ?_ ?_ ?_ ?_; rfl; (focus (simp [Value.oneCell']; done)); rfl; clear hS; intro w hS; try simp only [putW]) | (refine storeN hS rfl rfl rfl rfl ?_ ?_ ?_ ?_; rfl; (focus (simp [Value.oneCell']; done)); (focus (simp; done)); clear hS; intro w hS; simp at hS; try simp only [putW]) | (refine alloc hS rfl rfl ?_; clear hS; intro mb w hS; simp only [putW]) | (refine box1 hS rfl rfl rfl rfl ?_; clear hS; intro mb w hS; try simp only [evW, putW] at hS; simp only [putW]) | (refine boxN hS rfl rfl rfl ?_; clear hS; intro mb w hS; simp only [putW]))
  go_ret
  exact ⟨rfl, FL, PL2, mdel SL tk, now, sp, _, ⟨HT.out.1.free HG.out, HT.out.2⟩, hS.conv⟩
end
end Go.Proofs.Ytlkoclalcfeniaa
namespace Go.Proofs.Ytlkoclalcfeniaa
open Go.RowKit Go.Shelf Go.Proofs.Ytlkoclalcfeniaa.Sl Go.Proofs.Ytlkoclalcfeniaa.Jp

section
variable {w0 w : World} {K : List Chunk} {t x i : Nat} {T : Tb} {FL : Frs} {PW : PinsW} {SL : Shs} {now : Nat} {sp : Spots} {X : X13} {kd tk ky : Int} {vB : Value} {wm : Bool} {bts : Nat}
set_option maxRecDepth 100000 in
set_option maxHeartbeats 8000000 in
theorem do_2n {B : List Int} (hRB : RB w0 B vB) (hBl : B.length ≤ 1000) (ho : okI ky) (hn : mget FL ky = none) (hm : (FL.length : Int) < T.most) (ha : atX X.l ky 0 = -1) (hq : kd % 9 = 2) (h : Tie13 FL PW SL now sp T.most X i ∧ ∀ k ∈ mkeys FL, okI k) (hi : i ≤ 200) (hB : vB.oneCell' = true) (hS : Sat w0 ((x, X13C X) :: codeL T t FL PW SL now sp K) w) : Calls Try.prog 27 #[.agg (pairC t x), .agg (actC kd tk ky vB wm bts)] w fun e w' => e = .returned (.bool true) ∧ Bth w0 T t x (i + 1) K w' := by
  have HT : Bx _ := ⟨h⟩
  obtain ⟨qB, cB, hvB⟩ : ∃ q c, vB = .slice q B.length c := by
    obtain ⟨a, c, h6, -⟩ := hRB.at
    exact ⟨a, c, h6⟩
  obtain ⟨nB, hnB⟩ : ∃ n, B.length = n := ⟨_, rfl⟩
  rw [hnB] at hvB
  subst hvB
  have HRB : Bx _ := ⟨hRB⟩
  have HnB : Bx _ := ⟨hnB⟩
  have hBl2 : B.length ≤ 100000000000000 := by omega
  have hBl3 : B.length ≤ 1000000 := by omega
  have hBl4 : nB ≤ 1000 := by omega
  have HOB : Bx (B.length ≤ 1000000 ∧ ∀ b ∈ B, okByte b) := ⟨hBl3, hRB.all⟩
  have HN : Bx _ := ⟨hn⟩
  have HO : Bx _ := ⟨ho⟩
  have HM : Bx ((FL.length : Int) < T.most ∧ T.most ≤ 1024) := ⟨hm, by have := h.1.m1.2; omega⟩
  have HX : Bx ((X.l.length : Int) < X.most ∧ X.most ≤ 1024) := ⟨by rw [h.1.len, h.1.most]; exact hm, by rw [h.1.most]; have := h.1.m1.2; omega⟩
  have HA : Bx (atX X.l ky 0 = -1) := ⟨ha⟩
  clear h hRB hnB
  go_enter Try.func27, Try.ntmps27
  go_wp2_with (first | (refine boxN (cs := pairC t x) hS rfl rfl rfl ?_; clear hS; intro bp w hS; simp only [putW]) | (refine boxN (cs := actC kd tk ky (.slice qB nB cB) wm bts) hS rfl rfl rfl ?_; clear hS; intro ba w hS; simp only [putW]) | (guard_target =~ Calls _ 40 _ _ _; refine Stopped.out ?_) | (refine load1 hS rfl rfl rfl rfl ?_; simp only [putW]) | (refine loadAll hS rfl rfl rfl ?_ ?_; rfl; simp only [putW]) | (refine loadPart hS rfl rfl rfl ?_ rfl ?_; rfl; simp only [putW]) | (refine store1 hS rfl rfl rfl rfl rfl ?_ ?_; (focus (simp; done)); clear hS; intro w hS; simp only [evW, putW] at hS; try simp only [putW]) | (refine storeAll hS rfl rfl rfl rfl ?_ ?_ ?_ ?_; rfl; (focus (simp [Value.oneCell']; done)); rfl; clear hS; intro w hS; try simp only [putW]) | (refine storeN hS rfl rfl rfl rfl ?_ ?_ ?_ ?_; rfl; (focus (simp [Value.oneCell']; done)); (focus (simp; done)); clear hS; intro w hS; simp at hS; try simp only [putW]) | (refine alloc hS rfl rfl ?_; clear hS; intro mb w hS; simp only [putW]) | (refine box1 hS rfl rfl rfl rfl ?_; clear hS; intro mb w hS; try simp only [evW, putW] at hS; simp only [putW]) | (refine boxN hS rfl rfl rfl ?_; clear hS; intro mb w hS; simp only [putW]))
  refine ⟨?_⟩
  refine Calls.mono (refAt_any (X := X) (key := ky) (K := (bp, cells (pairC t x) 55) :: (ba, cells (actC kd tk ky (.slice qB nB cB) wm bts) 44) :: codeL T t FL PW SL now sp K) hS.conv) ?_
  clear hS
  rw [HA.out]
  rintro _ w ⟨rfl, hS⟩
  simp only [putW]
  go_wp2_with (first | (guard_target =~ Calls _ 8 _ _ _; refine Stopped.out ?_) | (refine load1 hS rfl rfl rfl rfl ?_; simp only [putW]) | (refine loadAll hS rfl rfl rfl ?_ ?_; rfl; simp only [putW]) | (refine loadPart hS rfl rfl rfl ?_ rfl ?_; rfl; simp only [putW]) | (refine store1 hS rfl rfl rfl rfl rfl ?_ ?_; (focus (simp; done)); clear hS; intro w hS; simp only [evW, putW] at hS; try simp only [putW]) | (refine storeAll hS rfl rfl rfl rfl ?_ ?_ ?_ ?_; rfl; (focus (simp [Value.oneCell']; done)); rfl; clear hS; intro w hS; try simp only [putW]) | (refine storeN hS rfl rfl rfl rfl ?_ ?_ ?_ ?_; rfl; (focus (simp [Value.oneCell']; done)); (focus (simp; done)); clear hS; intro w hS; simp at hS; try simp only [putW]) | (refine alloc hS rfl rfl ?_; clear hS; intro mb w hS; simp only [putW]) | (refine box1 hS rfl rfl rfl rfl ?_; clear hS; intro mb w hS; try simp only [evW, putW] at hS; simp only [putW]) | (refine boxN hS rfl rfl rfl ?_; clear hS; intro mb w hS; simp only [putW]))
  refine ⟨?_⟩
  refine Calls.mono (pick_sat kd 9 (by omega) (by omega) hS) ?_
  clear hS
  rintro _ w ⟨rfl, hS⟩
  rw [hq]
  simp only [putW]
  go_wp2_with (first | (guard_target =~ Calls _ 43 _ _ _; refine Stopped.out ?_) | (refine load1 hS rfl rfl rfl rfl ?_; simp only [putW]) | (refine loadAll hS rfl rfl rfl ?_ ?_; rfl; simp only [putW]) | (refine loadPart hS rfl rfl rfl ?_ rfl ?_; rfl; simp only [putW]) | (refine store1 hS rfl rfl rfl rfl rfl ?_ ?_; (focus (simp; done)); clear hS; intro w hS; simp only [evW, putW] at hS; try simp only [putW]) | (refine storeAll hS rfl rfl rfl rfl ?_ ?_ ?_ ?_; rfl; (focus (simp [Value.oneCell']; done)); rfl; clear hS; intro w hS; try simp only [putW]) | (refine storeN hS rfl rfl rfl rfl ?_ ?_ ?_ ?_; rfl; (focus (simp [Value.oneCell']; done)); (focus (simp; done)); clear hS; intro w hS; simp at hS; try simp only [putW]) | (refine alloc hS rfl rfl ?_; clear hS; intro mb w hS; simp only [putW]) | (refine box1 hS rfl rfl rfl rfl ?_; clear hS; intro mb w hS; try simp only [evW, putW] at hS; simp only [putW]) | (refine boxN hS rfl rfl rfl ?_; clear hS; intro mb w hS; simp only [putW]))
  refine ⟨?_⟩
  refine Calls.mono (copy_any (HRB.out.mono hS.base) hBl2) ?_
  rintro _ w2 ⟨v1, rfl, h2⟩
  replace hS := hS.frame h2
  clear h2
  simp only [List.cons_append, List.nil_append] at hS
  obtain ⟨q1, c1, hs1⟩ := shapeN hS HnB.out
  subst hs1
  simp only [putW]
  go_wp2_with (first | (guard_target =~ Calls _ 10 _ _ _; refine Stopped.out ?_) | (refine load1 hS rfl rfl rfl rfl ?_; simp only [putW]) | (refine loadAll hS rfl rfl rfl ?_ ?_; rfl; simp only [putW]) | (refine loadPart hS rfl rfl rfl ?_ rfl ?_; rfl; simp only [putW]) | (refine store1 hS rfl rfl rfl rfl rfl ?_ ?_; (focus (simp; done)); clear hS; intro w hS; simp only [evW, putW] at hS; try simp only [putW]) | (refine storeAll hS rfl rfl rfl rfl ?_ ?_ ?_ ?_; rfl; (focus (simp [Value.oneCell']; done)); rfl; clear hS; intro w hS; try simp only [putW]) | (refine storeN hS rfl rfl rfl rfl ?_ ?_ ?_ ?_; rfl; (focus (simp [Value.oneCell']; done)); (focus (simp; done)); clear hS; intro w hS; simp at hS; try simp only [putW]) | (refine alloc hS rfl rfl ?_; clear hS; intro mb w hS; simp only [putW]) | (refine box1 hS rfl rfl rfl rfl ?_; clear hS; intro mb w hS; try simp only [evW, putW] at hS; simp only [putW]) | (refine boxN hS rfl rfl rfl ?_; clear hS; intro mb w hS; simp only [putW]))
  refine ⟨?_⟩
  refine Calls.mono (putNew_any (key := ky) (va := .slice q1 nB c1) (A := B) (b := wm) (K := (blk (.slice q1 nB c1), sl 1 by8 B 5 (.slice q1 nB c1)) :: (x, X13C X) :: (bp, cells (pairC t x) 55) :: (ba, cells (actC kd tk ky (.slice qB nB cB) wm bts) 44) :: (T.pm, mapC encW uV PW) :: (T.sm, mapC encInt (Value.int .i64) SL) :: (T.hp, HeatC now sp) :: K) (fun w' h => (h.conv (S' := (blk (.slice q1 nB c1), sl 1 by8 B 5 (.slice q1 nB c1)) :: [])).readsSl HOB.out.2) hBl3 HN.out HM.out.1 HM.out.2 (hS.conv (S' := (t, cells (tbC T) 65) :: (T.fm, mapC encInt frV FL) :: (7, frC FL) :: (blk (.slice q1 nB c1), sl 1 by8 B 5 (.slice q1 nB c1)) :: (x, X13C X) :: (bp, cells (pairC t x) 55) :: (ba, cells (actC kd tk ky (.slice qB nB cB) wm bts) 44) :: (T.pm, mapC encW uV PW) :: (T.sm, mapC encInt (Value.int .i64) SL) :: (T.hp, HeatC now sp) :: K))) ?_
  clear hS
  rintro _ w ⟨f, v2, rfl, hS⟩
  obtain ⟨FL2, hF2⟩ : ∃ F2, FL ++ [(ky, ((some ⟨f, 0, none⟩, v2, B, wm) : FrV))] = F2 := ⟨_, rfl⟩
  rw [hF2] at hS
  have HF2 : Bx _ := ⟨hF2⟩
  clear hF2
  simp only [putW]
  go_wp2_with (first | (refine load1 hS rfl rfl rfl rfl ?_; simp only [putW]) | (refine loadAll hS rfl rfl rfl ?_ ?_; rfl; simp only [putW]) | (refine loadPart hS rfl rfl rfl ?_ rfl ?_; rfl; simp only [putW]) | (refine store1 hS rfl rfl rfl rfl rfl ?_ ?_; (focus (simp; done)); clear hS; intro w hS; simp only [evW, putW] at hS; try simp only [putW]) | (refine storeAll hS rfl rfl rfl rfl ?_ ?_ ?_ ?_; rfl; (focus (simp [Value.oneCell']; done)); rfl; clear hS; intro w hS; try simp only [putW]) | (refine storeN hS rfl rfl rfl rfl ?_ ?_ ?_ ?_; rfl; (focus (simp [Value.oneCell']; done)); (focus (simp; done)); clear hS; intro w hS; simp at hS; try simp only [putW]) | (refine alloc hS rfl rfl ?_; clear hS; intro mb w hS; simp only [putW]) | (refine box1 hS rfl rfl rfl rfl ?_; clear hS; intro mb w hS; try simp only [evW, putW] at hS; simp only [putW]) | (refine boxN hS rfl rfl rfl ?_; clear hS; intro mb w hS; simp only [putW]))
  go_loopg [8] nB (fun g iv wq => ∃ (k : Nat) (B2 : List Int), k + g = nB ∧ iv = .int .i64 k ∧ Bx (B2.length = nB) ∧ Sat w0 ((blk (.slice q1 nB c1), sl 1 by8 B2 5 (.slice q1 nB c1)) :: (t, cells (tbC T) 65) :: (T.fm, mapC encInt frV FL2) :: (7, frC FL2) :: (x, X13C X) :: (bp, cells (pairC t x) 55) :: (ba, cells (actC kd tk ky (.slice qB nB cB) wm bts) 44) :: (T.pm, mapC encW uV PW) :: (T.sm, mapC encInt (Value.int .i64) SL) :: (T.hp, HeatC now sp) :: K) wq)
  case atStart => exact ⟨0, B, by omega, rfl, HnB, hS.conv⟩
  case round =>
    clear hS
    obtain ⟨k, B2, hkn, rfl, HB2, hS⟩ := hrel
    cases gk with
    | succ g =>
      have hlt : k < nB := by omega
      have d1 : decide ((k : Int) < (nB : Int)) = true := decide_eq_true (by omega)
      have d1n : decide (k < nB) = true := decide_eq_true hlt
      obtain ⟨bv, hbv⟩ : ∃ y, B2[k]? = some y := ⟨_, List.getElem?_eq_getElem (by rw [HB2.out]; exact hlt)⟩
      obtain ⟨gq, hqq, hcq, hS2⟩ := openS hS HB2.out (by omega)
      subst hqq
      clear hS
      have hS := hS2
      clear hS2
      have HBv : Bx _ := ⟨hbv⟩
      have hkl : k < B2.length := by rw [HB2.out]; exact hlt
      clear hbv
      go_wp2_with (first | (refine loadS1 (v1 := Value.int .u8) hS rfl rfl rfl HBv.out ?_; simp only [putW]) | (refine storeS1 (v1 := Value.int .u8) hS rfl rfl rfl _ rfl rfl ?_ ?_; (focus (first | omega | (simp [maxLen]; done) | (simp [maxLen]; omega))); clear hS; intro w hS; try simp only [putW]) | (refine load1 hS rfl rfl rfl rfl ?_; simp only [putW]) | (refine loadAll hS rfl rfl rfl ?_ ?_; rfl; simp only [putW]) | (refine loadPart hS rfl rfl rfl ?_ rfl ?_; rfl; simp only [putW]) | (refine store1 hS rfl rfl rfl rfl rfl ?_ ?_; (focus (simp; done)); clear hS; intro w hS; simp only [evW, putW] at hS; try simp only [putW]) | (refine storeAll hS rfl rfl rfl rfl ?_ ?_ ?_ ?_; rfl; (focus (simp [Value.oneCell']; done)); rfl; clear hS; intro w hS; try simp only [putW]) | (refine storeN hS rfl rfl rfl rfl ?_ ?_ ?_ ?_; rfl; (focus (simp [Value.oneCell']; done)); (focus (simp; done)); clear hS; intro w hS; simp at hS; try simp only [putW]) | (refine alloc hS rfl rfl ?_; clear hS; intro mb w hS; simp only [putW]) | (refine box1 hS rfl rfl rfl rfl ?_; clear hS; intro mb w hS; try simp only [evW, putW] at hS; simp only [putW]) | (refine boxN hS rfl rfl rfl ?_; clear hS; intro mb w hS; simp only [putW]))
      go_roundg g
      case measure => omega
      case rel =>
        have h9 := hS.slOfSlc
        rw [List.length_set, HB2.out] at h9
        exact ⟨k + 1, _, by omega, by go_num, ⟨by rw [List.length_set]; exact HB2.out⟩, h9⟩
    | zero =>
      have d1 : decide ((k : Int) < (nB : Int)) = false := decide_eq_false (by omega)
      have d1n : decide (k < nB) = false := decide_eq_false (by omega)
      go_wp2_with (first | (guard_target =~ Calls _ 44 _ _ _; refine Stopped.out ?_) | (refine load1 hS rfl rfl rfl rfl ?_; simp only [putW]) | (refine loadAll hS rfl rfl rfl ?_ ?_; rfl; simp only [putW]) | (refine loadPart hS rfl rfl rfl ?_ rfl ?_; rfl; simp only [putW]) | (refine store1 hS rfl rfl rfl rfl rfl ?_ ?_; (focus (simp; done)); clear hS; intro w hS; simp only [evW, putW] at hS; try simp only [putW]) | (refine storeAll hS rfl rfl rfl rfl ?_ ?_ ?_ ?_; rfl; (focus (simp [Value.oneCell']; done)); rfl; clear hS; intro w hS; try simp only [putW]) | (refine storeN hS rfl rfl rfl rfl ?_ ?_ ?_ ?_; rfl; (focus (simp [Value.oneCell']; done)); (focus (simp; done)); clear hS; intro w hS; simp at hS; try simp only [putW]) | (refine alloc hS rfl rfl ?_; clear hS; intro mb w hS; simp only [putW]) | (refine box1 hS rfl rfl rfl rfl ?_; clear hS; intro mb w hS; try simp only [evW, putW] at hS; simp only [putW]) | (refine boxN hS rfl rfl rfl ?_; clear hS; intro mb w hS; simp only [putW]))
      refine ⟨?_⟩
      refine Calls.mono (refPut_new (X := X) (key := ky) (A := B) (wr := wm) (K := (blk (.slice q1 nB c1), sl 1 by8 B2 5 (.slice q1 nB c1)) :: (t, cells (tbC T) 65) :: (T.fm, mapC encInt frV FL2) :: (7, frC FL2) :: (bp, cells (pairC t x) 55) :: (ba, cells (actC kd tk ky (.slice qB nB cB) wm bts) 44) :: (T.pm, mapC encW uV PW) :: (T.sm, mapC encInt (Value.int .i64) SL) :: (T.hp, HeatC now sp) :: K) HRB.out HOB.out.1 HA.out HX.out.1 HX.out.2 hS.conv) ?_
      clear hS
      rintro _ w ⟨v3, rfl, hS⟩
      simp only [putW]
      go_wp2_with (first | (refine load1 hS rfl rfl rfl rfl ?_; simp only [putW]) | (refine loadAll hS rfl rfl rfl ?_ ?_; rfl; simp only [putW]) | (refine loadPart hS rfl rfl rfl ?_ rfl ?_; rfl; simp only [putW]) | (refine store1 hS rfl rfl rfl rfl rfl ?_ ?_; (focus (simp; done)); clear hS; intro w hS; simp only [evW, putW] at hS; try simp only [putW]) | (refine storeAll hS rfl rfl rfl rfl ?_ ?_ ?_ ?_; rfl; (focus (simp [Value.oneCell']; done)); rfl; clear hS; intro w hS; try simp only [putW]) | (refine storeN hS rfl rfl rfl rfl ?_ ?_ ?_ ?_; rfl; (focus (simp [Value.oneCell']; done)); (focus (simp; done)); clear hS; intro w hS; simp at hS; try simp only [putW]) | (refine alloc hS rfl rfl ?_; clear hS; intro mb w hS; simp only [putW]) | (refine box1 hS rfl rfl rfl rfl ?_; clear hS; intro mb w hS; try simp only [evW, putW] at hS; simp only [putW]) | (refine boxN hS rfl rfl rfl ?_; clear hS; intro mb w hS; simp only [putW]))
      go_ret
      refine ⟨rfl, FL2, PW, SL, now, sp, ⟨X.most, X.l ++ [(ky, v3, B, wm)], X.pins, X.shares, X.now, X.heat⟩, ⟨?_, ?_⟩, hS.conv⟩
      · rw [← HF2.out]
        exact HT.out.1.putNew HN.out HM.out.1 HOB.out
      · intro k hk
        rw [← HF2.out] at hk
        have h9 : k ∈ mkeys FL ++ [ky] := by
          have e9 : mkeys (FL ++ [(ky, ((some ⟨f, 0, none⟩, v2, B, wm) : FrV))]) = mkeys FL ++ [ky] := by simp [mkeys]
          rw [← e9]
          exact hk
        rcases List.mem_append.1 h9 with h9 | h9
        · exact HT.out.2 k h9
        · rw [List.mem_singleton.1 h9]
          exact HO.out
end
end Go.Proofs.Ytlkoclalcfeniaa
namespace Go.Proofs.Ytlkoclalcfeniaa
open Go.RowKit Go.Shelf Go.Proofs.Ytlkoclalcfeniaa.Sl Go.Proofs.Ytlkoclalcfeniaa.Jp

section
variable {w0 w : World} {K : List Chunk} {t x i : Nat} {T : Tb} {FL : Frs} {PW : PinsW} {SL : Shs} {now : Nat} {sp : Spots} {X : X13} {kd tk ky : Int} {vB : Value} {wm : Bool} {bts : Nat}
set_option maxRecDepth 100000 in
set_option maxHeartbeats 8000000 in
theorem do_2f {B : List Int} (hRB : RB w0 B vB) (hBl : B.length ≤ 1000) (hn : mget FL ky = none) (hm : ¬ (FL.length : Int) < T.most) (ha : atX X.l ky 0 = -1) (hq : kd % 9 = 2) (h : Tie13 FL PW SL now sp T.most X i ∧ ∀ k ∈ mkeys FL, okI k) (hi : i ≤ 200) (hB : vB.oneCell' = true) (hS : Sat w0 ((x, X13C X) :: codeL T t FL PW SL now sp K) w) : Calls Try.prog 27 #[.agg (pairC t x), .agg (actC kd tk ky vB wm bts)] w fun e w' => e = .returned (.bool true) ∧ Bth w0 T t x (i + 1) K w' := by
  have HT : Bx _ := ⟨h⟩
  obtain ⟨qB, cB, hvB⟩ : ∃ q c, vB = .slice q B.length c := by
    obtain ⟨a, c, h6, -⟩ := hRB.at
    exact ⟨a, c, h6⟩
  obtain ⟨nB, hnB⟩ : ∃ n, B.length = n := ⟨_, rfl⟩
  rw [hnB] at hvB
  subst hvB
  have HRB : Bx _ := ⟨hRB⟩
  have HnB : Bx _ := ⟨hnB⟩
  have hBl2 : B.length ≤ 100000000000000 := by omega
  have hBl3 : B.length ≤ 1000000 := by omega
  have hBl4 : nB ≤ 1000 := by omega
  have HOB : Bx (B.length ≤ 1000000 ∧ ∀ b ∈ B, okByte b) := ⟨hBl3, hRB.all⟩
  have HN : Bx _ := ⟨hn⟩
  have HM : Bx ((FL.length : Int) = T.most) := ⟨by have := h.1.fl; omega⟩
  have HX : Bx (¬ (X.l.length : Int) < X.most) := ⟨by rw [h.1.len, h.1.most]; exact hm⟩
  have HA : Bx (atX X.l ky 0 = -1) := ⟨ha⟩
  clear h hRB hnB
  go_enter Try.func27, Try.ntmps27
  go_wp2_with (first | (refine boxN (cs := pairC t x) hS rfl rfl rfl ?_; clear hS; intro bp w hS; simp only [putW]) | (refine boxN (cs := actC kd tk ky (.slice qB nB cB) wm bts) hS rfl rfl rfl ?_; clear hS; intro ba w hS; simp only [putW]) | (guard_target =~ Calls _ 40 _ _ _; refine Stopped.out ?_) | (refine load1 hS rfl rfl rfl rfl ?_; simp only [putW]) | (refine loadAll hS rfl rfl rfl ?_ ?_; rfl; simp only [putW]) | (refine loadPart hS rfl rfl rfl ?_ rfl ?_; rfl; simp only [putW]) | (refine store1 hS rfl rfl rfl rfl rfl ?_ ?_; (focus (simp; done)); clear hS; intro w hS; simp only [evW, putW] at hS; try simp only [putW]) | (refine storeAll hS rfl rfl rfl rfl ?_ ?_ ?_ ?_; rfl; (focus (simp [Value.oneCell']; done)); rfl; clear hS; intro w hS; try simp only [putW]) | (refine storeN hS rfl rfl rfl rfl ?_ ?_ ?_ ?_; rfl; (focus (simp [Value.oneCell']; done)); (focus (simp; done)); clear hS; intro w hS; simp at hS; try simp only [putW]) | (refine alloc hS rfl rfl ?_; clear hS; intro mb w hS; simp only [putW]) | (refine box1 hS rfl rfl rfl rfl ?_; clear hS; intro mb w hS; try simp only [evW, putW] at hS; simp only [putW]) | (refine boxN hS rfl rfl rfl ?_; clear hS; intro mb w hS; simp only [putW]))
  refine ⟨?_⟩
  refine Calls.mono (refAt_any (X := X) (key := ky) (K := (bp, cells (pairC t x) 55) :: (ba, cells (actC kd tk ky (.slice qB nB cB) wm bts) 44) :: codeL T t FL PW SL now sp K) hS.conv) ?_
  clear hS
  rw [HA.out]
  rintro _ w ⟨rfl, hS⟩
  simp only [putW]
  go_wp2_with (first | (guard_target =~ Calls _ 8 _ _ _; refine Stopped.out ?_) | (refine load1 hS rfl rfl rfl rfl ?_; simp only [putW]) | (refine loadAll hS rfl rfl rfl ?_ ?_; rfl; simp only [putW]) | (refine loadPart hS rfl rfl rfl ?_ rfl ?_; rfl; simp only [putW]) | (refine store1 hS rfl rfl rfl rfl rfl ?_ ?_; (focus (simp; done)); clear hS; intro w hS; simp only [evW, putW] at hS; try simp only [putW]) | (refine storeAll hS rfl rfl rfl rfl ?_ ?_ ?_ ?_; rfl; (focus (simp [Value.oneCell']; done)); rfl; clear hS; intro w hS; try simp only [putW]) | (refine storeN hS rfl rfl rfl rfl ?_ ?_ ?_ ?_; rfl; (focus (simp [Value.oneCell']; done)); (focus (simp; done)); clear hS; intro w hS; simp at hS; try simp only [putW]) | (refine alloc hS rfl rfl ?_; clear hS; intro mb w hS; simp only [putW]) | (refine box1 hS rfl rfl rfl rfl ?_; clear hS; intro mb w hS; try simp only [evW, putW] at hS; simp only [putW]) | (refine boxN hS rfl rfl rfl ?_; clear hS; intro mb w hS; simp only [putW]))
  refine ⟨?_⟩
  refine Calls.mono (pick_sat kd 9 (by omega) (by omega) hS) ?_
  clear hS
  rintro _ w ⟨rfl, hS⟩
  rw [hq]
  simp only [putW]
  go_wp2_with (first | (guard_target =~ Calls _ 43 _ _ _; refine Stopped.out ?_) | (refine load1 hS rfl rfl rfl rfl ?_; simp only [putW]) | (refine loadAll hS rfl rfl rfl ?_ ?_; rfl; simp only [putW]) | (refine loadPart hS rfl rfl rfl ?_ rfl ?_; rfl; simp only [putW]) | (refine store1 hS rfl rfl rfl rfl rfl ?_ ?_; (focus (simp; done)); clear hS; intro w hS; simp only [evW, putW] at hS; try simp only [putW]) | (refine storeAll hS rfl rfl rfl rfl ?_ ?_ ?_ ?_; rfl; (focus (simp [Value.oneCell']; done)); rfl; clear hS; intro w hS; try simp only [putW]) | (refine storeN hS rfl rfl rfl rfl ?_ ?_ ?_ ?_; rfl; (focus (simp [Value.oneCell']; done)); (focus (simp; done)); clear hS; intro w hS; simp at hS; try simp only [putW]) | (refine alloc hS rfl rfl ?_; clear hS; intro mb w hS; simp only [putW]) | (refine box1 hS rfl rfl rfl rfl ?_; clear hS; intro mb w hS; try simp only [evW, putW] at hS; simp only [putW]) | (refine boxN hS rfl rfl rfl ?_; clear hS; intro mb w hS; simp only [putW]))
  refine ⟨?_⟩
  refine Calls.mono (copy_any (HRB.out.mono hS.base) hBl2) ?_
  rintro _ w2 ⟨v1, rfl, h2⟩
  replace hS := hS.frame h2
  clear h2
  simp only [List.cons_append, List.nil_append] at hS
  obtain ⟨q1, c1, hs1⟩ := shapeN hS HnB.out
  subst hs1
  simp only [putW]
  go_wp2_with (first | (guard_target =~ Calls _ 10 _ _ _; refine Stopped.out ?_) | (refine load1 hS rfl rfl rfl rfl ?_; simp only [putW]) | (refine loadAll hS rfl rfl rfl ?_ ?_; rfl; simp only [putW]) | (refine loadPart hS rfl rfl rfl ?_ rfl ?_; rfl; simp only [putW]) | (refine store1 hS rfl rfl rfl rfl rfl ?_ ?_; (focus (simp; done)); clear hS; intro w hS; simp only [evW, putW] at hS; try simp only [putW]) | (refine storeAll hS rfl rfl rfl rfl ?_ ?_ ?_ ?_; rfl; (focus (simp [Value.oneCell']; done)); rfl; clear hS; intro w hS; try simp only [putW]) | (refine storeN hS rfl rfl rfl rfl ?_ ?_ ?_ ?_; rfl; (focus (simp [Value.oneCell']; done)); (focus (simp; done)); clear hS; intro w hS; simp at hS; try simp only [putW]) | (refine alloc hS rfl rfl ?_; clear hS; intro mb w hS; simp only [putW]) | (refine box1 hS rfl rfl rfl rfl ?_; clear hS; intro mb w hS; try simp only [evW, putW] at hS; simp only [putW]) | (refine boxN hS rfl rfl rfl ?_; clear hS; intro mb w hS; simp only [putW]))
  refine ⟨?_⟩
  refine Calls.mono (putFull_any (key := ky) (va := .slice q1 nB c1) (b := wm) HN.out HM.out (hS.conv (S' := (t, cells (tbC T) 65) :: (T.fm, mapC encInt frV FL) :: (7, frC FL) :: (blk (.slice q1 nB c1), sl 1 by8 B 5 (.slice q1 nB c1)) :: (x, X13C X) :: (bp, cells (pairC t x) 55) :: (ba, cells (actC kd tk ky (.slice qB nB cB) wm bts) 44) :: (T.pm, mapC encW uV PW) :: (T.sm, mapC encInt (Value.int .i64) SL) :: (T.hp, HeatC now sp) :: K))) ?_
  clear hS
  rintro _ w ⟨rfl, hS⟩
  simp only [putW]
  go_wp2_with (first | (refine load1 hS rfl rfl rfl rfl ?_; simp only [putW]) | (refine loadAll hS rfl rfl rfl ?_ ?_; rfl; simp only [putW]) | (refine loadPart hS rfl rfl rfl ?_ rfl ?_; rfl; simp only [putW]) | (refine store1 hS rfl rfl rfl rfl rfl ?_ ?_; (focus (simp; done)); clear hS; intro w hS; simp only [evW, putW] at hS; try simp only [putW]) | (refine storeAll hS rfl rfl rfl rfl ?_ ?_ ?_ ?_; rfl; (focus (simp [Value.oneCell']; done)); rfl; clear hS; intro w hS; try simp only [putW]) | (refine storeN hS rfl rfl rfl rfl ?_ ?_ ?_ ?_; rfl; (focus (simp [Value.oneCell']; done)); (focus (simp; done)); clear hS; intro w hS; simp at hS; try simp only [putW]) | (refine alloc hS rfl rfl ?_; clear hS; intro mb w hS; simp only [putW]) | (refine box1 hS rfl rfl rfl rfl ?_; clear hS; intro mb w hS; try simp only [evW, putW] at hS; simp only [putW]) | (refine boxN hS rfl rfl rfl ?_; clear hS; intro mb w hS; simp only [putW]))
  go_loopg [8] nB (fun g iv wq => ∃ (k : Nat) (B2 : List Int), k + g = nB ∧ iv = .int .i64 k ∧ Bx (B2.length = nB) ∧ Sat w0 ((blk (.slice q1 nB c1), sl 1 by8 B2 5 (.slice q1 nB c1)) :: (t, cells (tbC T) 65) :: (T.fm, mapC encInt frV FL) :: (7, frC FL) :: (x, X13C X) :: (bp, cells (pairC t x) 55) :: (ba, cells (actC kd tk ky (.slice qB nB cB) wm bts) 44) :: (T.pm, mapC encW uV PW) :: (T.sm, mapC encInt (Value.int .i64) SL) :: (T.hp, HeatC now sp) :: K) wq)
  case atStart => exact ⟨0, B, by omega, rfl, HnB, hS.conv⟩
  case round =>
    clear hS
    obtain ⟨k, B2, hkn, rfl, HB2, hS⟩ := hrel
    cases gk with
    | succ g =>
      have hlt : k < nB := by omega
      have d1 : decide ((k : Int) < (nB : Int)) = true := decide_eq_true (by omega)
      have d1n : decide (k < nB) = true := decide_eq_true hlt
      obtain ⟨bv, hbv⟩ : ∃ y, B2[k]? = some y := ⟨_, List.getElem?_eq_getElem (by rw [HB2.out]; exact hlt)⟩
      obtain ⟨gq, hqq, hcq, hS2⟩ := openS hS HB2.out (by omega)
      subst hqq
      clear hS
      have hS := hS2
      clear hS2
      have HBv : Bx _ := ⟨hbv⟩
      have hkl : k < B2.length := by rw [HB2.out]; exact hlt
      clear hbv
      go_wp2_with (first | (refine loadS1 (v1 := Value.int .u8) hS rfl rfl rfl HBv.out ?_; simp only [putW]) | (refine storeS1 (v1 := Value.int .u8) hS rfl rfl rfl _ rfl rfl ?_ ?_; (focus (first | omega | (simp [maxLen]; done) | (simp [maxLen]; omega))); clear hS; intro w hS; try simp only [putW]) | (refine load1 hS rfl rfl rfl rfl ?_; simp only [putW]) | (refine loadAll hS rfl rfl rfl ?_ ?_; rfl; simp only [putW]) | (refine loadPart hS rfl rfl rfl ?_ rfl ?_; rfl; simp only [putW]) | (refine store1 hS rfl rfl rfl rfl rfl ?_ ?_; (focus (simp; done)); clear hS; intro w hS; simp only [evW, putW] at hS; try simp only [putW]) | (refine storeAll hS rfl rfl rfl rfl ?_ ?_ ?_ ?_; rfl; (focus (simp [Value.oneCell']; done)); rfl; clear hS; intro w hS; try simp only [putW]) | (refine storeN hS rfl rfl rfl rfl ?_ ?_ ?_ ?_; rfl; (focus (simp [Value.oneCell']; done)); (focus (simp; done)); clear hS; intro w hS; simp at hS; try simp only [putW]) | (refine alloc hS rfl rfl ?_; clear hS; intro mb w hS; simp only [putW]) | (refine box1 hS rfl rfl rfl rfl ?_; clear hS; intro mb w hS; try simp only [evW, putW] at hS; simp only [putW]) | (refine boxN hS rfl rfl rfl ?_; clear hS; intro mb w hS; simp only [putW]))
      go_roundg g
      case measure => omega
      case rel =>
        have h9 := hS.slOfSlc
        rw [List.length_set, HB2.out] at h9
        exact ⟨k + 1, _, by omega, by go_num, ⟨by rw [List.length_set]; exact HB2.out⟩, h9⟩
    | zero =>
      have d1 : decide ((k : Int) < (nB : Int)) = false := decide_eq_false (by omega)
      have d1n : decide (k < nB) = false := decide_eq_false (by omega)
      go_wp2_with (first | (guard_target =~ Calls _ 44 _ _ _; refine Stopped.out ?_) | (refine load1 hS rfl rfl rfl rfl ?_; simp only [putW]) | (refine loadAll hS rfl rfl rfl ?_ ?_; rfl; simp only [putW]) | (refine loadPart hS rfl rfl rfl ?_ rfl ?_; rfl; simp only [putW]) | (refine store1 hS rfl rfl rfl rfl rfl ?_ ?_; (focus (simp; done)); clear hS; intro w hS; simp only [evW, putW] at hS; try simp only [putW]) | (refine storeAll hS rfl rfl rfl rfl ?_ ?_ ?_ ?_; rfl; (focus (simp [Value.oneCell']; done)); rfl; clear hS; intro w hS; try simp only [putW]) | (refine storeN hS rfl rfl rfl rfl ?_ ?_ ?_ ?_; rfl; (focus (simp [Value.oneCell']; done)); (focus (simp; done)); clear hS; intro w hS; simp at hS; try simp only [putW]) | (refine alloc hS rfl rfl ?_; clear hS; intro mb w hS; simp only [putW]) | (refine box1 hS rfl rfl rfl rfl ?_; clear hS; intro mb w hS; try simp only [evW, putW] at hS; simp only [putW]) | (refine boxN hS rfl rfl rfl ?_; clear hS; intro mb w hS; simp only [putW]))
      refine ⟨?_⟩
      refine Calls.mono (refPut_full (X := X) (key := ky) (wr := wm) (K := (blk (.slice q1 nB c1), sl 1 by8 B2 5 (.slice q1 nB c1)) :: (t, cells (tbC T) 65) :: (T.fm, mapC encInt frV FL) :: (7, frC FL) :: (bp, cells (pairC t x) 55) :: (ba, cells (actC kd tk ky (.slice qB nB cB) wm bts) 44) :: (T.pm, mapC encW uV PW) :: (T.sm, mapC encInt (Value.int .i64) SL) :: (T.hp, HeatC now sp) :: K) HA.out (by have := HX.out; omega) hS.conv) ?_
      clear hS
      rintro _ w ⟨rfl, hS⟩
      simp only [putW]
      go_wp2_with (first | (refine load1 hS rfl rfl rfl rfl ?_; simp only [putW]) | (refine loadAll hS rfl rfl rfl ?_ ?_; rfl; simp only [putW]) | (refine loadPart hS rfl rfl rfl ?_ rfl ?_; rfl; simp only [putW]) | (refine store1 hS rfl rfl rfl rfl rfl ?_ ?_; (focus (simp; done)); clear hS; intro w hS; simp only [evW, putW] at hS; try simp only [putW]) | (refine storeAll hS rfl rfl rfl rfl ?_ ?_ ?_ ?_; rfl; (focus (simp [Value.oneCell']; done)); rfl; clear hS; intro w hS; try simp only [putW]) | (refine storeN hS rfl rfl rfl rfl ?_ ?_ ?_ ?_; rfl; (focus (simp [Value.oneCell']; done)); (focus (simp; done)); clear hS; intro w hS; simp at hS; try simp only [putW]) | (refine alloc hS rfl rfl ?_; clear hS; intro mb w hS; simp only [putW]) | (refine box1 hS rfl rfl rfl rfl ?_; clear hS; intro mb w hS; try simp only [evW, putW] at hS; simp only [putW]) | (refine boxN hS rfl rfl rfl ?_; clear hS; intro mb w hS; simp only [putW]))
      go_ret
      exact ⟨rfl, FL, PW, SL, now, sp, X, ⟨HT.out.1.up, HT.out.2⟩, hS.conv⟩
end
end Go.Proofs.Ytlkoclalcfeniaa
namespace Go.Proofs.Ytlkoclalcfeniaa
open Go.RowKit Go.Shelf Go.Proofs.Ytlkoclalcfeniaa.Sl Go.Proofs.Ytlkoclalcfeniaa.Jp

section
variable {w0 w : World} {K : List Chunk} {t x i : Nat} {T : Tb} {FL : Frs} {PW : PinsW} {SL : Shs} {now : Nat} {sp : Spots} {X : X13} {kd tk ky : Int} {vB : Value} {wm : Bool} {bts : Nat}
set_option maxRecDepth 100000 in
set_option maxHeartbeats 8000000 in
theorem do_2o {B : List Int} (hRB : RB w0 B vB) (hBl : B.length ≤ 1000) {j : Nat} {xa : Option Addr} {xv va : Value} {A : List Int} {bb : Bool} (hx : mget FL ky = some (xa, xv, A, bb)) (hj : X.l[j]? = some (ky, va, A, bb)) (ha : atX X.l ky 0 = j) (hq : kd % 9 = 2) (h : Tie13 FL PW SL now sp T.most X i ∧ ∀ k ∈ mkeys FL, okI k) (hi : i ≤ 200) (hB : vB.oneCell' = true) (hS : Sat w0 ((x, X13C X) :: codeL T t FL PW SL now sp K) w) : Calls Try.prog 27 #[.agg (pairC t x), .agg (actC kd tk ky vB wm bts)] w fun e w' => e = .returned (.bool true) ∧ Bth w0 T t x (i + 1) K w' := by
  have HT : Bx _ := ⟨h⟩
  obtain ⟨qB, cB, hvB⟩ : ∃ q c, vB = .slice q B.length c := by
    obtain ⟨a, c, h6, -⟩ := hRB.at
    exact ⟨a, c, h6⟩
  obtain ⟨nB, hnB⟩ : ∃ n, B.length = n := ⟨_, rfl⟩
  rw [hnB] at hvB
  subst hvB
  have HRB : Bx _ := ⟨hRB⟩
  have HnB : Bx _ := ⟨hnB⟩
  have hBl2 : B.length ≤ 100000000000000 := by omega
  have hBl3 : B.length ≤ 1000000 := by omega
  have hBl4 : nB ≤ 1000 := by omega
  have HOB : Bx (B.length ≤ 1000000 ∧ ∀ b ∈ B, okByte b) := ⟨hBl3, hRB.all⟩
  have HX : Bx _ := ⟨hx⟩
  have HJ : Bx _ := ⟨hj⟩
  have hj0 : (0 : Int) ≤ (j : Int) := by omega
  have HL : Bx (X.l.length ≤ 1024) := ⟨by have := h.1.len; have := h.1.fl; have := h.1.m1.2; omega⟩
  have HA : Bx (atX X.l ky 0 = (j : Int)) := ⟨ha⟩
  clear h hRB hnB
  go_enter Try.func27, Try.ntmps27
  go_wp2_with (first | (refine boxN (cs := pairC t x) hS rfl rfl rfl ?_; clear hS; intro bp w hS; simp only [putW]) | (refine boxN (cs := actC kd tk ky (.slice qB nB cB) wm bts) hS rfl rfl rfl ?_; clear hS; intro ba w hS; simp only [putW]) | (guard_target =~ Calls _ 40 _ _ _; refine Stopped.out ?_) | (refine load1 hS rfl rfl rfl rfl ?_; simp only [putW]) | (refine loadAll hS rfl rfl rfl ?_ ?_; rfl; simp only [putW]) | (refine loadPart hS rfl rfl rfl ?_ rfl ?_; rfl; simp only [putW]) | (refine store1 hS rfl rfl rfl rfl rfl ?_ ?_; (focus (simp; done)); clear hS; intro w hS; simp only [evW, putW] at hS; try simp only [putW]) | (refine storeAll hS rfl rfl rfl rfl ?_ ?_ ?_ ?_; rfl; (focus (simp [Value.oneCell']; done)); rfl; clear hS; intro w hS; try simp only [putW]) | (refine storeN hS rfl rfl rfl rfl ?_ ?_ ?_ ?_; rfl; (focus (simp [Value.oneCell']; done)); (focus (simp; done)); clear hS; intro w hS; simp at hS; try simp only [putW]) | (refine alloc hS rfl rfl ?_; clear hS; intro mb w hS; simp only [putW]) | (refine box1 hS rfl rfl rfl rfl ?_; clear hS; intro mb w hS; try simp only [evW, putW] at hS; simp only [putW]) | (refine boxN hS rfl rfl rfl ?_; clear hS; intro mb w hS; simp only [putW]))
  refine ⟨?_⟩
  refine Calls.mono (refAt_any (X := X) (key := ky) (K := (bp, cells (pairC t x) 55) :: (ba, cells (actC kd tk ky (.slice qB nB cB) wm bts) 44) :: codeL T t FL PW SL now sp K) hS.conv) ?_
  clear hS
  rw [HA.out]
  rintro _ w ⟨rfl, hS⟩
  simp only [putW]
  go_wp2_with (first | (guard_target =~ Calls _ 8 _ _ _; refine Stopped.out ?_) | (refine load1 hS rfl rfl rfl rfl ?_; simp only [putW]) | (refine loadAll hS rfl rfl rfl ?_ ?_; rfl; simp only [putW]) | (refine loadPart hS rfl rfl rfl ?_ rfl ?_; rfl; simp only [putW]) | (refine store1 hS rfl rfl rfl rfl rfl ?_ ?_; (focus (simp; done)); clear hS; intro w hS; simp only [evW, putW] at hS; try simp only [putW]) | (refine storeAll hS rfl rfl rfl rfl ?_ ?_ ?_ ?_; rfl; (focus (simp [Value.oneCell']; done)); rfl; clear hS; intro w hS; try simp only [putW]) | (refine storeN hS rfl rfl rfl rfl ?_ ?_ ?_ ?_; rfl; (focus (simp [Value.oneCell']; done)); (focus (simp; done)); clear hS; intro w hS; simp at hS; try simp only [putW]) | (refine alloc hS rfl rfl ?_; clear hS; intro mb w hS; simp only [putW]) | (refine box1 hS rfl rfl rfl rfl ?_; clear hS; intro mb w hS; try simp only [evW, putW] at hS; simp only [putW]) | (refine boxN hS rfl rfl rfl ?_; clear hS; intro mb w hS; simp only [putW]))
  refine ⟨?_⟩
  refine Calls.mono (pick_sat kd 9 (by omega) (by omega) hS) ?_
  clear hS
  rintro _ w ⟨rfl, hS⟩
  rw [hq]
  simp only [putW]
  go_wp2_with (first | (guard_target =~ Calls _ 43 _ _ _; refine Stopped.out ?_) | (refine load1 hS rfl rfl rfl rfl ?_; simp only [putW]) | (refine loadAll hS rfl rfl rfl ?_ ?_; rfl; simp only [putW]) | (refine loadPart hS rfl rfl rfl ?_ rfl ?_; rfl; simp only [putW]) | (refine store1 hS rfl rfl rfl rfl rfl ?_ ?_; (focus (simp; done)); clear hS; intro w hS; simp only [evW, putW] at hS; try simp only [putW]) | (refine storeAll hS rfl rfl rfl rfl ?_ ?_ ?_ ?_; rfl; (focus (simp [Value.oneCell']; done)); rfl; clear hS; intro w hS; try simp only [putW]) | (refine storeN hS rfl rfl rfl rfl ?_ ?_ ?_ ?_; rfl; (focus (simp [Value.oneCell']; done)); (focus (simp; done)); clear hS; intro w hS; simp at hS; try simp only [putW]) | (refine alloc hS rfl rfl ?_; clear hS; intro mb w hS; simp only [putW]) | (refine box1 hS rfl rfl rfl rfl ?_; clear hS; intro mb w hS; try simp only [evW, putW] at hS; simp only [putW]) | (refine boxN hS rfl rfl rfl ?_; clear hS; intro mb w hS; simp only [putW]))
  refine ⟨?_⟩
  refine Calls.mono (copy_any (HRB.out.mono hS.base) hBl2) ?_
  rintro _ w2 ⟨v1, rfl, h2⟩
  replace hS := hS.frame h2
  clear h2
  simp only [List.cons_append, List.nil_append] at hS
  obtain ⟨q1, c1, hs1⟩ := shapeN hS HnB.out
  subst hs1
  simp only [putW]
  go_wp2_with (first | (guard_target =~ Calls _ 10 _ _ _; refine Stopped.out ?_) | (refine load1 hS rfl rfl rfl rfl ?_; simp only [putW]) | (refine loadAll hS rfl rfl rfl ?_ ?_; rfl; simp only [putW]) | (refine loadPart hS rfl rfl rfl ?_ rfl ?_; rfl; simp only [putW]) | (refine store1 hS rfl rfl rfl rfl rfl ?_ ?_; (focus (simp; done)); clear hS; intro w hS; simp only [evW, putW] at hS; try simp only [putW]) | (refine storeAll hS rfl rfl rfl rfl ?_ ?_ ?_ ?_; rfl; (focus (simp [Value.oneCell']; done)); rfl; clear hS; intro w hS; try simp only [putW]) | (refine storeN hS rfl rfl rfl rfl ?_ ?_ ?_ ?_; rfl; (focus (simp [Value.oneCell']; done)); (focus (simp; done)); clear hS; intro w hS; simp at hS; try simp only [putW]) | (refine alloc hS rfl rfl ?_; clear hS; intro mb w hS; simp only [putW]) | (refine box1 hS rfl rfl rfl rfl ?_; clear hS; intro mb w hS; try simp only [evW, putW] at hS; simp only [putW]) | (refine boxN hS rfl rfl rfl ?_; clear hS; intro mb w hS; simp only [putW]))
  refine ⟨?_⟩
  refine Calls.mono (putOld_any (key := ky) (x := (xa, xv, A, bb)) (va := .slice q1 nB c1) (A := B) (b := wm) (K := (blk (.slice q1 nB c1), sl 1 by8 B 5 (.slice q1 nB c1)) :: (x, X13C X) :: (bp, cells (pairC t x) 55) :: (ba, cells (actC kd tk ky (.slice qB nB cB) wm bts) 44) :: (T.pm, mapC encW uV PW) :: (T.sm, mapC encInt (Value.int .i64) SL) :: (T.hp, HeatC now sp) :: K) (fun w' h => (h.conv (S' := (blk (.slice q1 nB c1), sl 1 by8 B 5 (.slice q1 nB c1)) :: [])).readsSl HOB.out.2) hBl3 HX.out HT.out.1.fo (hS.conv (S' := (t, cells (tbC T) 65) :: (T.fm, mapC encInt frV FL) :: (7, frC FL) :: (blk (.slice q1 nB c1), sl 1 by8 B 5 (.slice q1 nB c1)) :: (x, X13C X) :: (bp, cells (pairC t x) 55) :: (ba, cells (actC kd tk ky (.slice qB nB cB) wm bts) 44) :: (T.pm, mapC encW uV PW) :: (T.sm, mapC encInt (Value.int .i64) SL) :: (T.hp, HeatC now sp) :: K))) ?_
  clear hS
  rintro _ w ⟨v2, rfl, hS0⟩
  obtain ⟨FL2, hF2⟩ : ∃ F2, mput FL ky ((xa, v2, B, bb || wm) : FrV) = F2 := ⟨_, rfl⟩
  have hS : Sat w0 ((t, cells (tbC T) 65) :: (T.fm, mapC encInt frV (mput FL ky ((xa, v2, B, bb || wm) : FrV))) :: (7, frC (mput FL ky ((xa, v2, B, bb || wm) : FrV))) :: (blk (.slice q1 nB c1), sl 1 by8 B 5 (.slice q1 nB c1)) :: (x, X13C X) :: (bp, cells (pairC t x) 55) :: (ba, cells (actC kd tk ky (.slice qB nB cB) wm bts) 44) :: (T.pm, mapC encW uV PW) :: (T.sm, mapC encInt (Value.int .i64) SL) :: (T.hp, HeatC now sp) :: K) _ := hS0
  clear hS0
  rw [hF2] at hS
  have HF2 : Bx _ := ⟨hF2⟩
  clear hF2
  simp only [putW]
  go_wp2_with (first | (refine load1 hS rfl rfl rfl rfl ?_; simp only [putW]) | (refine loadAll hS rfl rfl rfl ?_ ?_; rfl; simp only [putW]) | (refine loadPart hS rfl rfl rfl ?_ rfl ?_; rfl; simp only [putW]) | (refine store1 hS rfl rfl rfl rfl rfl ?_ ?_; (focus (simp; done)); clear hS; intro w hS; simp only [evW, putW] at hS; try simp only [putW]) | (refine storeAll hS rfl rfl rfl rfl ?_ ?_ ?_ ?_; rfl; (focus (simp [Value.oneCell']; done)); rfl; clear hS; intro w hS; try simp only [putW]) | (refine storeN hS rfl rfl rfl rfl ?_ ?_ ?_ ?_; rfl; (focus (simp [Value.oneCell']; done)); (focus (simp; done)); clear hS; intro w hS; simp at hS; try simp only [putW]) | (refine alloc hS rfl rfl ?_; clear hS; intro mb w hS; simp only [putW]) | (refine box1 hS rfl rfl rfl rfl ?_; clear hS; intro mb w hS; try simp only [evW, putW] at hS; simp only [putW]) | (refine boxN hS rfl rfl rfl ?_; clear hS; intro mb w hS; simp only [putW]))
  go_loopg [8] nB (fun g iv wq => ∃ (k : Nat) (B2 : List Int), k + g = nB ∧ iv = .int .i64 k ∧ Bx (B2.length = nB) ∧ Sat w0 ((blk (.slice q1 nB c1), sl 1 by8 B2 5 (.slice q1 nB c1)) :: (t, cells (tbC T) 65) :: (T.fm, mapC encInt frV FL2) :: (7, frC FL2) :: (x, X13C X) :: (bp, cells (pairC t x) 55) :: (ba, cells (actC kd tk ky (.slice qB nB cB) wm bts) 44) :: (T.pm, mapC encW uV PW) :: (T.sm, mapC encInt (Value.int .i64) SL) :: (T.hp, HeatC now sp) :: K) wq)
  case atStart => exact ⟨0, B, by omega, rfl, HnB, hS.conv⟩
  case round =>
    clear hS
    obtain ⟨k, B2, hkn, rfl, HB2, hS⟩ := hrel
    cases gk with
    | succ g =>
      have hlt : k < nB := by omega
      have d1 : decide ((k : Int) < (nB : Int)) = true := decide_eq_true (by omega)
      have d1n : decide (k < nB) = true := decide_eq_true hlt
      obtain ⟨bv, hbv⟩ : ∃ y, B2[k]? = some y := ⟨_, List.getElem?_eq_getElem (by rw [HB2.out]; exact hlt)⟩
      obtain ⟨gq, hqq, hcq, hS2⟩ := openS hS HB2.out (by omega)
      subst hqq
      clear hS
      have hS := hS2
      clear hS2
      have HBv : Bx _ := ⟨hbv⟩
      have hkl : k < B2.length := by rw [HB2.out]; exact hlt
      clear hbv
      go_wp2_with (first | (refine loadS1 (v1 := Value.int .u8) hS rfl rfl rfl HBv.out ?_; simp only [putW]) | (refine storeS1 (v1 := Value.int .u8) hS rfl rfl rfl _ rfl rfl ?_ ?_; (focus (first | omega | (simp [maxLen]; done) | (simp [maxLen]; omega))); clear hS; intro w hS; try simp only [putW]) | (refine load1 hS rfl rfl rfl rfl ?_; simp only [putW]) | (refine loadAll hS rfl rfl rfl ?_ ?_; rfl; simp only [putW]) | (refine loadPart hS rfl rfl rfl ?_ rfl ?_; rfl; simp only [putW]) | (refine store1 hS rfl rfl rfl rfl rfl ?_ ?_; (focus (simp; done)); clear hS; intro w hS; simp only [evW, putW] at hS; try simp only [putW]) | (refine storeAll hS rfl rfl rfl rfl ?_ ?_ ?_ ?_; rfl; (focus (simp [Value.oneCell']; done)); rfl; clear hS; intro w hS; try simp only [putW]) | (refine storeN hS rfl rfl rfl rfl ?_ ?_ ?_ ?_; rfl; (focus (simp [Value.oneCell']; done)); (focus (simp; done)); clear hS; intro w hS; simp at hS; try simp only [putW]) | (refine alloc hS rfl rfl ?_; clear hS; intro mb w hS; simp only [putW]) | (refine box1 hS rfl rfl rfl rfl ?_; clear hS; intro mb w hS; try simp only [evW, putW] at hS; simp only [putW]) | (refine boxN hS rfl rfl rfl ?_; clear hS; intro mb w hS; simp only [putW]))
      go_roundg g
      case measure => omega
      case rel =>
        have h9 := hS.slOfSlc
        rw [List.length_set, HB2.out] at h9
        exact ⟨k + 1, _, by omega, by go_num, ⟨by rw [List.length_set]; exact HB2.out⟩, h9⟩
    | zero =>
      have d1 : decide ((k : Int) < (nB : Int)) = false := decide_eq_false (by omega)
      have d1n : decide (k < nB) = false := decide_eq_false (by omega)
      go_wp2_with (first | (guard_target =~ Calls _ 44 _ _ _; refine Stopped.out ?_) | (refine load1 hS rfl rfl rfl rfl ?_; simp only [putW]) | (refine loadAll hS rfl rfl rfl ?_ ?_; rfl; simp only [putW]) | (refine loadPart hS rfl rfl rfl ?_ rfl ?_; rfl; simp only [putW]) | (refine store1 hS rfl rfl rfl rfl rfl ?_ ?_; (focus (simp; done)); clear hS; intro w hS; simp only [evW, putW] at hS; try simp only [putW]) | (refine storeAll hS rfl rfl rfl rfl ?_ ?_ ?_ ?_; rfl; (focus (simp [Value.oneCell']; done)); rfl; clear hS; intro w hS; try simp only [putW]) | (refine storeN hS rfl rfl rfl rfl ?_ ?_ ?_ ?_; rfl; (focus (simp [Value.oneCell']; done)); (focus (simp; done)); clear hS; intro w hS; simp at hS; try simp only [putW]) | (refine alloc hS rfl rfl ?_; clear hS; intro mb w hS; simp only [putW]) | (refine box1 hS rfl rfl rfl rfl ?_; clear hS; intro mb w hS; try simp only [evW, putW] at hS; simp only [putW]) | (refine boxN hS rfl rfl rfl ?_; clear hS; intro mb w hS; simp only [putW]))
      refine ⟨?_⟩
      refine Calls.mono (refPut_old (X := X) (key := ky) (i := j) (A := B) (wr := wm) (vo := va) (B := A) (bb := bb) (K := (blk (.slice q1 nB c1), sl 1 by8 B2 5 (.slice q1 nB c1)) :: (t, cells (tbC T) 65) :: (T.fm, mapC encInt frV FL2) :: (7, frC FL2) :: (bp, cells (pairC t x) 55) :: (ba, cells (actC kd tk ky (.slice qB nB cB) wm bts) 44) :: (T.pm, mapC encW uV PW) :: (T.sm, mapC encInt (Value.int .i64) SL) :: (T.hp, HeatC now sp) :: K) HRB.out HOB.out.1 HJ.out HA.out HL.out hS.conv) ?_
      clear hS
      rintro _ w ⟨v3, rfl, hS⟩
      simp only [putW]
      go_wp2_with (first | (refine load1 hS rfl rfl rfl rfl ?_; simp only [putW]) | (refine loadAll hS rfl rfl rfl ?_ ?_; rfl; simp only [putW]) | (refine loadPart hS rfl rfl rfl ?_ rfl ?_; rfl; simp only [putW]) | (refine store1 hS rfl rfl rfl rfl rfl ?_ ?_; (focus (simp; done)); clear hS; intro w hS; simp only [evW, putW] at hS; try simp only [putW]) | (refine storeAll hS rfl rfl rfl rfl ?_ ?_ ?_ ?_; rfl; (focus (simp [Value.oneCell']; done)); rfl; clear hS; intro w hS; try simp only [putW]) | (refine storeN hS rfl rfl rfl rfl ?_ ?_ ?_ ?_; rfl; (focus (simp [Value.oneCell']; done)); (focus (simp; done)); clear hS; intro w hS; simp at hS; try simp only [putW]) | (refine alloc hS rfl rfl ?_; clear hS; intro mb w hS; simp only [putW]) | (refine box1 hS rfl rfl rfl rfl ?_; clear hS; intro mb w hS; try simp only [evW, putW] at hS; simp only [putW]) | (refine boxN hS rfl rfl rfl ?_; clear hS; intro mb w hS; simp only [putW]))
      go_ret
      refine ⟨rfl, FL2, PW, SL, now, sp, ⟨X.most, X.l.set j (ky, v3, B, bb || wm), X.pins, X.shares, X.now, X.heat⟩, ⟨?_, ?_⟩, hS.conv⟩
      · rw [← HF2.out]
        exact HT.out.1.over (x := (xa, xv, A, bb)) (v := v2) (v' := v3) (b := bb || wm) HX.out HJ.out rfl HOB.out
      · intro k hk
        rw [← HF2.out, mkeys_mput] at hk
        split at hk
        · exact HT.out.2 k hk
        · rename_i hni
          have h9 := HX.out
          rw [mget_none.2 hni] at h9
          cases h9
end
end Go.Proofs.Ytlkoclalcfeniaa
