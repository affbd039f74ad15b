/-
  script.source.step, kinds all: printed by program (mksrc.py).
-/
import Derived.Test.YtpbjkfomdindnaaGreatDoorScHa
import Derived.Test.YtpbjkfomdindnaaGreatDoorScHb
import Derived.Test.YtpbjkfomdindnaaGreatDoorScHc
import Derived.Test.YtpbjkfomdindnaaGreatDoorScHd
set_option linter.unusedSimpArgs false
set_option linter.unusedVariables false
namespace Go.Proofs.YtpbjkfomdindnaaGreatDoor
open Go.RowKit Go.Shelf Go.Proofs.YtpbjkfomdindnaaGreatDoor.Sl Go.Proofs.YtpbjkfomdindnaaGreatDoor.Jp Go.Proofs.YtpbjkfomdindnaaGreatDoor.Sc

section
variable {w0 w : World} {S F K : List Chunk} {A : List Int} {p b o i : Nat}
theorem sstep_any (hA : SrcB w0 A b o) (hS : Sat w0 ((p, srcC A b o i) :: K) w) :
    Calls Tryz.prog 35 #[.pointer (some ⟨p, 0, none⟩)] w (StepPost2 w0 K A p b o (stepD A i)) := by
  obtain ⟨n, hn, hn2⟩ := gB_nat hA i
  have hr : (n : Int) % 12 = 0 ∨ (n : Int) % 12 = 1 ∨ (n : Int) % 12 = 2 ∨ (n : Int) % 12 = 3 ∨ (n : Int) % 12 = 4 ∨ (n : Int) % 12 = 5 ∨ (n : Int) % 12 = 6 ∨ (n : Int) % 12 = 7 ∨ (n : Int) % 12 = 8 ∨ (n : Int) % 12 = 9 ∨ (n : Int) % 12 = 10 ∨ (n : Int) % 12 = 11 := by omega
  rcases hr with hr | hr | hr | hr | hr | hr | hr | hr | hr | hr | hr | hr
  · exact sstep_1 hA hn hn2 hr hS
  · exact sstep_2 hA hn hn2 hr hS
  · exact sstep_3 hA hn hn2 hr hS
  · exact sstep_4 hA hn hn2 hr hS
  · exact sstep_5 hA hn hn2 hr hS
  · exact sstep_6 hA hn hn2 hr hS
  · exact sstep_7 hA hn hn2 hr hS
  · exact sstep_8 hA hn hn2 hr hS
  · exact sstep_9 hA hn hn2 hr hS
  · exact sstep_10 hA hn hn2 hr hS
  · exact sstep_11 hA hn hn2 hr hS
  · exact sstep_12 hA hn hn2 hr hS
end
end Go.Proofs.YtpbjkfomdindnaaGreatDoor
