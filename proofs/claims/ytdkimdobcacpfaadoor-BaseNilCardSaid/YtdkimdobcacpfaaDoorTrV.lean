/-
  tree.Digest with a log, or without.
-/
import Derived.Test.YtdkimdobcacpfaaDoorTrDig
import Derived.Test.YtdkimdobcacpfaaDoorTrPlain
set_option linter.unusedSimpArgs false
set_option linter.unusedVariables false
namespace Go.Proofs.YtdkimdobcacpfaaDoor
open Go.RowKit Go.Proofs.YtdkimdobcacpfaaDoor.Sl Go.Proofs.YtdkimdobcacpfaaDoor.Sha Go.Proofs.YtdkimdobcacpfaaDoor.Jp

/-- A log, or none. -/
def LogV (v : Value) (Ps : List (List Int × List Int)) : K := fun _ h => v = .pointer none ∨ ∃ l, v = .pointer (some ⟨l, 0, none⟩) ∧ LogC Ps l h
def dig (b : Nat) (A : List Int) : List Int := shaF (inp b A)
def pre (b : Nat) (A : List Int) : List Int := inp b A
theorem dig_len' (b : Nat) (A : List Int) : (dig b A).length = 32 := dig_len _
theorem dig_okB (b : Nat) (A : List Int) : ∀ x ∈ dig b A, okByte x := dig_byte _
section
variable {w0 w : World} {K F S : List Chunk} {l : Nat} {lg : Value} {Ps Qs : List (List Int × List Int)} {A : List Int} {va : Value}
theorem logOpen (hS : Sat w0 ((1, LogV lg Ps) :: K) w) : lg = .pointer none ∨ ∃ l, lg = .pointer (some ⟨l, 0, none⟩) ∧ Sat w0 ((l, LogC Ps) :: K) w := by
  obtain ⟨h1, h2, d, l1, l2, hx, r⟩ := hS.has
  rcases hx with hx | ⟨l, h3, h4⟩
  · exact .inl hx
  · exact .inr ⟨l, h3, hS.base, h1, h2, d, l1, l2, h4, r⟩
theorem logNil (hS : Sat w0 K w) (Ps : List (List Int × List Int)) : Sat w0 ((1, LogV (.pointer none) Ps) :: K) w := hS.nilChunk 1 (.inl rfl)
theorem logSome (hS : Sat w0 ((l, LogC Ps) :: K) w) : Sat w0 ((1, LogV (.pointer (some ⟨l, 0, none⟩)) Ps) :: K) w := hS.turn fun _ h => .inr ⟨l, rfl, h⟩
theorem digest_v {b : Nat} (hS : Sat w0 ((1, LogV lg Ps) :: K) w) (hP : Ps.length ≤ 1000000) (hA : RB w A va) (hK : KTab w0) (hl : A.length ≤ 10000) :
    Calls Tryd.prog 33 #[lg, .int .i64 b, va] w fun e w' => e = .returned (.agg ((dig b A).map u8v).toArray) ∧ Sat w0 ((1, LogV lg (Ps ++ [(pre b A, dig b A)])) :: K) w' := by
  have hKw := hK.mono hS.base
  rcases logOpen hS with rfl | ⟨l, rfl, hS2⟩
  · refine (digest_nil (b := (b : Int)) (D := dig b A) rfl hA hKw hl).mono fun e w' h => ⟨h.1, ?_⟩
    exact logNil (hS.frame h.2).tail _
  · refine (digest_any (b := (b : Int)) (D := dig b A) rfl hS2 hP hA hKw hl).mono fun e w' h => ⟨h.1, ?_⟩
    exact logSome h.2
end
end Go.Proofs.YtdkimdobcacpfaaDoor
