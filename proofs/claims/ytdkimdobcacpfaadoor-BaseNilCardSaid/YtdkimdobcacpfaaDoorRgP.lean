/-
  The register in plain words. It names no program.
-/
import Derived.Test.YtdkimdobcacpfaaDoorDvP
set_option linter.unusedSimpArgs false
set_option linter.unusedVariables false
namespace Go.Proofs.YtdkimdobcacpfaaDoor.Dv
open Go.Proofs.YtdkimdobcacpfaaDoor.Sl Go.Proofs.YtdkimdobcacpfaaDoor.Tr

/-- What a register holds. -/
structure Rg where
  pages : Int
  budget : Int
  wide : Bool
  boot : Int
  version : Int
  epoch : Int
  cursor : Int
  busy : Bool
  root : List Int
  mark : List Int
deriving DecidableEq
def zero32 : List Int := List.replicate 32 0
def st0 : Rg := ⟨0, 0, false, 0, 0, 0, 0, false, zero32, zero32⟩
/-- Digests: 32 bytes. -/
def isDig (r : List Int) : Prop := r.length = 32 ∧ ∀ x ∈ r, okByte x
theorem isDig_zero : isDig zero32 := ⟨List.length_replicate, fun x hx => by rw [(List.mem_replicate.1 hx).2]; unfold okByte; omega⟩
structure Rg.Wf (s : Rg) : Prop where
  pages : -9223372036854775808 ≤ s.pages ∧ s.pages < 9223372036854775808
  budget : -9223372036854775808 ≤ s.budget ∧ s.budget < 9223372036854775808
  boot : 0 ≤ s.boot ∧ s.boot < 4294967296
  version : 0 ≤ s.version ∧ s.version < 18446744073709551616
  epoch : 0 ≤ s.epoch ∧ s.epoch < 4294967296
  cursor : -9223372036854775808 ≤ s.cursor ∧ s.cursor < 9223372036854775808
  root : isDig s.root
  mark : isDig s.mark
theorem st0_wf : st0.Wf := ⟨by decide, by decide, by decide, by decide, by decide, by decide, isDig_zero, isDig_zero⟩
/-- May it be? -/
def Rg.right (s : Rg) : Bool := decide (1 ≤ s.pages) && decide (s.pages ≤ 4096) && decide (1 ≤ s.budget) && decide (s.budget ≤ 256) && decide (0 ≤ s.cursor) && decide (s.cursor ≤ s.pages) && decide (0 < s.epoch)
/-- May b follow? -/
def Rg.follows (a b : Rg) : Bool :=
  b.right && (decide (a = st0) || (decide (a.pages = b.pages) && decide (a.budget = b.budget) && decide (a.wide = b.wide) && decide (a.boot ≤ b.boot) && decide (a.version ≤ b.version) && decide (a.epoch ≤ b.epoch)))
/-- The register is written: the device, what it holds then, what is answered. -/
def regWrite (D : Dev) (R s : Rg) : Dev × Rg × Int :=
  if D.off then (D, R, 7) else if R.follows s then (if D.spend.off then (D.spend, R, 7) else (D.spend, s, 0)) else (D, R, 3)
end Go.Proofs.YtdkimdobcacpfaaDoor.Dv
