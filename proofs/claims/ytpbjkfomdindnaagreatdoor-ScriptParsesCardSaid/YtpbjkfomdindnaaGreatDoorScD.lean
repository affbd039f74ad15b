/-
  Bytes as a script, in plain words: no program.
-/
import Derived.Test.YtpbjkfomdindnaaGreatDoorScQ
set_option linter.unusedSimpArgs false
set_option linter.unusedVariables false
namespace Go.Proofs.YtpbjkfomdindnaaGreatDoor.Sc
open Go

def gB (B : List Int) (i : Nat) : Int := B.getD i 0
def bytesAt (B : List Int) (i n : Nat) : List Int := (List.range n).map fun j => gB B (i + j)
def fatesAt (B : List Int) (i n : Nat) : List Int := (List.range n).map fun j => 256 * gB B (i + 2 * j) + gB B (i + 2 * j + 1)
/-- What is asked for, at a place, and the place behind it. -/
def askD (s : St) (B : List Int) (i : Nat) : St × Nat :=
  if gB B i % 6 + 1 = 1 then ({ s with okd := gB B i % 6 + 1, pg := gB B (i + 1) }, i + 2)
  else if gB B i % 6 + 1 = 2 then ({ s with okd := gB B i % 6 + 1, pg := gB B (i + 1), od := bytesAt B (i + 3) (gB B (i + 2) % 9).toNat }, i + 3 + (gB B (i + 2) % 9).toNat)
  else if gB B i % 6 + 1 = 5 then ({ s with okd := gB B i % 6 + 1, pg := gB B (i + 1), bt := beV 0 (bytesAt B (i + 2) 8) }, i + 10)
  else ({ s with okd := gB B i % 6 + 1 }, i + 1)
def stepD (B : List Int) (i : Nat) : St × Nat :=
  if gB B i % 12 + 1 = 1 then askD { st0 with kind := gB B i % 12 + 1, a := gB B (i + 1) % 8 } B (i + 2)
  else if gB B i % 12 + 1 = 2 ∨ gB B i % 12 + 1 = 3 ∨ gB B i % 12 + 1 = 6 ∨ gB B i % 12 + 1 = 11 then ({ st0 with kind := gB B i % 12 + 1, a := gB B (i + 1) }, i + 2)
  else if gB B i % 12 + 1 = 9 then ({ st0 with kind := gB B i % 12 + 1, a := gB B (i + 1), b := gB B (i + 2) }, i + 3)
  else if gB B i % 12 + 1 = 8 then ({ st0 with kind := gB B i % 12 + 1, a := gB B (i + 1), b := gB B (i + 2), da := bytesAt B (i + 4) (gB B (i + 3) % 9).toNat }, i + 4 + (gB B (i + 3) % 9).toNat)
  else if gB B i % 12 + 1 = 7 then ({ st0 with kind := gB B i % 12 + 1, a := gB B (i + 1), fa := fatesAt B (i + 3) (gB B (i + 2) % 5).toNat }, i + 3 + 2 * (gB B (i + 2) % 5).toNat)
  else if gB B i % 12 + 1 = 12 then ({ st0 with kind := gB B i % 12 + 1, a := gB B (i + 1) % 8, bt := beV 0 (bytesAt B (i + 2) 8) }, i + 10)
  else ({ st0 with kind := gB B i % 12 + 1 }, i + 1)
def decF (B : List Int) : Nat → Nat → List St
  | 0, _ => []
  | f + 1, i => if i < B.length then (stepD B i).1 :: decF B f (stepD B i).2 else []
/-- The script that bytes are. -/
def decodeS (B : List Int) : List St := decF B 1024 0
theorem gB_ok {B : List Int} (h : ∀ x ∈ B, okB8 x) (i : Nat) : okB8 (gB B i) := by
  unfold gB
  rw [List.getD_eq_getElem?_getD]
  cases hx : B[i]? with
  | none => exact ⟨by decide, by decide⟩
  | some x => exact h x (List.mem_of_getElem? hx)
theorem gB_get {B : List Int} {i : Nat} {x : Int} (h : B[i]? = some x) : gB B i = x := by unfold gB; rw [List.getD_eq_getElem?_getD, h]; rfl
theorem gB_out {B : List Int} {i : Nat} (h : B.length ≤ i) : gB B i = 0 := by unfold gB; rw [List.getD_eq_getElem?_getD, List.getElem?_eq_none h]; rfl
theorem bytesAt_succ (B : List Int) (i n : Nat) : bytesAt B i (n + 1) = bytesAt B i n ++ [gB B (i + n)] := by unfold bytesAt; rw [List.range_succ, List.map_append]; rfl
theorem fatesAt_succ (B : List Int) (i n : Nat) : fatesAt B i (n + 1) = fatesAt B i n ++ [256 * gB B (i + 2 * n) + gB B (i + 2 * n + 1)] := by unfold fatesAt; rw [List.range_succ, List.map_append]; rfl
theorem bytesAt_ok {B : List Int} (h : ∀ x ∈ B, okB8 x) (i n : Nat) : ∀ x ∈ bytesAt B i n, okB8 x := fun x hx => by
  obtain ⟨j, -, rfl⟩ := List.mem_map.1 hx
  exact gB_ok h _
theorem bytesAt_len (B : List Int) (i n : Nat) : (bytesAt B i n).length = n := by simp [bytesAt]
theorem fatesAt_len (B : List Int) (i n : Nat) : (fatesAt B i n).length = n := by simp [fatesAt]
theorem be8_lt {B : List Int} (h : ∀ x ∈ B, okB8 x) (i : Nat) : beV 0 (bytesAt B i 8) < 18446744073709551616 := by
  have h1 := beV_lt (bytesAt B i 8) 0 (bytesAt_ok h i 8)
  rw [bytesAt_len] at h1
  have e : (256 : Nat) ^ 8 = 18446744073709551616 := by decide
  omega
end Go.Proofs.YtpbjkfomdindnaaGreatDoor.Sc
