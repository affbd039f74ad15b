/-
  script.Print's closure, and safely over it.
-/
import Derived.Test.YtpbjkfomdindnaaGreatDoorScPg
import Derived.Test.YtpbjkfomdindnaaGreatDoorScT
set_option linter.unusedSimpArgs false
set_option linter.unusedVariables false
namespace Go.Proofs.YtpbjkfomdindnaaGreatDoor
open Go.RowKit Go.Shelf Go.Proofs.YtpbjkfomdindnaaGreatDoor.Sl Go.Proofs.YtpbjkfomdindnaaGreatDoor.Jp Go.Proofs.YtpbjkfomdindnaaGreatDoor.Sc

section
variable {w0 w : World} {S F K : List Chunk} {fb sb pf : Nat} {s : St} {vo vd vf : Value}
set_option maxRecDepth 100000 in
set_option maxHeartbeats 1000000 in
theorem print1_any (hK : KV w0) (hR : RSt w0 s vo vd vf) (hS : Sat w0 ((pf, cells #[.pointer (some ⟨fb, 0, none⟩)] 51) :: (fb, pfrm []) :: (sb, cells (stC s vo vd vf) 29) :: K) w) :
    Calls Tryz.prog 37 #[.pointer (some ⟨pf, 0, none⟩), .pointer (some ⟨sb, 0, none⟩)] w fun e w' =>
      (∃ Y, printW s = some Y ∧ e = .returned (.tuple #[]) ∧ Sat w0 ((fb, pfrm Y) :: (sb, cells (stC s vo vd vf) 29) :: (pf, cells #[.pointer (some ⟨fb, 0, none⟩)] 51) :: K) w') ∨ (printW s = none ∧ e = .panicked badP ∧ Sat w0 K w') := by
  have HK : Bx _ := ⟨hK⟩
  have HR : Bx _ := ⟨hR⟩
  clear hK hR
  go_enter Tryz.func37, Tryz.ntmps37
  go_wp2_with (first | (guard_target =~ Calls _ 24 _ _ _; refine Stopped.out ?_) | (refine load1 hS rfl rfl rfl rfl ?_; simp only [putW]))
  refine ⟨?_⟩
  refine Calls.mono (step_print (fb := fb) (W := []) (sb := sb) (s := s) (vo := vo) (vd := vd) (vf := vf) (K := (pf, cells #[.pointer (some ⟨fb, 0, none⟩)] 51) :: K) HK.out HR.out (by simp) hS.conv) ?_
  clear hS
  rintro _ w (⟨Y, hY, rfl, hS⟩ | ⟨hY, rfl, hS⟩)
  · simp only [putW]
    have HY : Bx (printW s = some Y) := ⟨hY⟩
    clear hY
    go_wp2_with (refine load1 hS rfl rfl rfl rfl ?_; simp only [putW])
    go_end0
    exact .inl ⟨Y, HY.out, rfl, hS⟩
  · exact ⟨rfl, .inr ⟨hY, rfl, hS.tail⟩⟩
set_option maxRecDepth 100000 in
set_option maxHeartbeats 1000000 in
theorem safelyR_any (hK : KV w0) (hR : RSt w0 s vo vd vf) (hS : Sat w0 ((pf, cells #[.pointer (some ⟨fb, 0, none⟩)] 51) :: (fb, pfrm []) :: (sb, cells (stC s vo vd vf) 29) :: K) w) :
    Calls Tryz.prog 22 #[.func (.func 37) #[] #[.pointer (some ⟨pf, 0, none⟩), .pointer (some ⟨sb, 0, none⟩)]] w fun e w' =>
      (∃ Y, printW s = some Y ∧ e = .returned (.int .i64 0) ∧ Sat w0 ((fb, pfrm Y) :: (sb, cells (stC s vo vd vf) 29) :: (pf, cells #[.pointer (some ⟨fb, 0, none⟩)] 51) :: K) w') ∨ (printW s = none ∧ e = .returned (.int .i64 3) ∧ Sat w0 K w') := by
  have hmf : ∀ (fn : Fn) (first cap : Array Value) (w : World), (Instr.makeFunc fn first cap).run Tryz.prog w = .ok (.func fn first cap) w := fun _ _ _ _ => rfl
  have HK : Bx _ := ⟨hK⟩
  have HR : Bx _ := ⟨hR⟩
  clear hK hR
  go_enter_defers Tryz.func22, Tryz.ntmps22
  go_wp2_with (first | (guard_target =~ Calls _ 37 _ _ _; refine Stopped.out ?_) | (refine alloc hS rfl rfl ?_; clear hS; intro mb w hS; simp only [putW]))
  refine ⟨?_⟩
  refine Calls.mono (print1_any (fb := fb) (K := (mb, cells #[.int .i64 0] 30) :: K) HK.out HR.out hS.conv) ?_
  clear hS
  rintro _ w (⟨Y, hY, rfl, hS⟩ | ⟨hY, rfl, hS⟩)
  · simp only [putW]
    have HY : Bx (printW s = some Y) := ⟨hY⟩
    clear hY
    go_wp2_with (refine store1 hS rfl rfl rfl rfl rfl ?_ ?_; (focus (simp; done)); clear hS; intro w hS; simp only [evW, putW] at hS; try simp only [putW])
    have hc : w.cell? ⟨mb, 0, none⟩ = some (.int .i64 0) := hS.cell (b := mb) 0
    refine leaves_cons (f := 47) (args := #[.pointer (some ⟨mb, 0, none⟩)]) (by simp) (by simp [go_sem]) ?_
    refine (catch_idle ⟨mb, 0, none⟩ _).mono ?_
    rintro e u' w'' ⟨rfl, rfl, rfl⟩
    simp [Leaves, settle, results, Tryz.results22, go_sem, hc]
    exact ⟨Y, HY.out, hS.conv⟩
  · have HY : Bx (printW s = none) := ⟨hY⟩
    clear hY
    go_wp2_with (refine load1 hS rfl rfl rfl rfl ?_; simp only [putW])
    refine leaves_cons (f := 47) (args := #[.pointer (some ⟨mb, 0, none⟩)]) (by simp) (by simp [go_sem]) ?_
    refine (catch_stop (q := mb) _ hS).mono ?_
    rintro e u' w'' ⟨rfl, rfl, hS⟩
    have hc : w''.cell? ⟨mb, 0, none⟩ = some (.int .i64 3) := hS.cell (b := mb) 0
    simp [Leaves, settle, results, Tryz.results22, go_sem, hc]
    exact ⟨HY.out, hS.tail⟩
end
end Go.Proofs.YtpbjkfomdindnaaGreatDoor
