/-
  thimbleref25.Source.Step, what it needs: printed by program (mkref.py).
-/
import Derived.Test.YtpbjkfomdindnaaGreatDoorScV
set_option linter.unusedSimpArgs false
set_option linter.unusedVariables false
namespace Go.Proofs.YtpbjkfomdindnaaGreatDoor
open Go.RowKit Go.Shelf Go.Proofs.YtpbjkfomdindnaaGreatDoor.Sl Go.Proofs.YtpbjkfomdindnaaGreatDoor.Jp Go.Proofs.YtpbjkfomdindnaaGreatDoor.Sc

section
variable {w0 w : World} {S F K : List Chunk} {A : List Int} {p i : Nat} {v : Value}
theorem rnext_p (hv : RB w0 A v) (hi : i ≤ 1000000) (hS : Sat w0 S w) [q : Pull S p (rsrc v i) F] :
    Calls Tryz.prog 61 #[.pointer (some ⟨p, 0, none⟩)] w fun e w' => e = .returned (.int .i64 (gB A i)) ∧ Sat w0 ((p, rsrc v (i + 1)) :: F) w' := rnext_any hv hi (hS.perm q.perm)
theorem rsome_p {m : Nat} (hv : RB w0 A v) (hi : i ≤ 900000) (hm : (gB A i % 9).toNat = m) (hS : Sat w0 S w) [q : Pull S p (rsrc v i) F] :
    Calls Tryz.prog 62 #[.pointer (some ⟨p, 0, none⟩)] w fun e w' => ∃ vo, e = .returned vo ∧ Sat w0 ((p, rsrc v (i + 1 + m)) :: (blk vo, sl 1 by8 (bytesAt A (i + 1) m) 5 vo) :: F) w' := rsome_any hv hi hm (hS.perm q.perm)
theorem rreal_p (hv : RB w0 A v) (hi : i ≤ 900000) (hS : Sat w0 S w) [q : Pull S p (rsrc v i) F] :
    Calls Tryz.prog 63 #[.pointer (some ⟨p, 0, none⟩)] w fun e w' => e = .returned (.float .f64 (beV 0 (bytesAt A i 8))) ∧ Sat w0 ((p, rsrc v (i + 8)) :: F) w' := rreal_any hv hi (hS.perm q.perm)
abbrev StepPost3 (w0 : World) (K : List Chunk) (v : Value) (p : Nat) (D : St × Nat) (e : Ending) (w' : World) : Prop :=
  ∃ vo vd vf, e = .returned (.agg (stC D.1 vo vd vf)) ∧ Sat w0 ((p, rsrc v D.2) :: stL D.1 vo vd vf ++ K) w'
end
end Go.Proofs.YtpbjkfomdindnaaGreatDoor
