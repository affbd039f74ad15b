/-
  What a log tells, in plain words: the first clash, the first that was opened and never sealed, the first two under one nonce. No program in sight.
-/
import Derived.Test.YteoidocicjlglaaDoorGhK
set_option linter.unusedSimpArgs false
set_option linter.unusedVariables false
namespace Go.Proofs.YteoidocicjlglaaDoor
open Go.RowKit Go.Proofs.YteoidocicjlglaaDoor.Sl Go.Proofs.YteoidocicjlglaaDoor.Sha Go.Proofs.YteoidocicjlglaaDoor.Jp

/-- The document's clash is the log's. -/
theorem clash_same {L : List (List Int × List Int)} {i j i' j' : Nat} {A B A' B' D' : List Int} (h : ClashAt L i j A B) (hij : i' < j') (hn : NoClash L j') (hi : L[i']? = some (A', D')) (hj : L[j']? = some (B', D')) (hne : A' ≠ B') (hf : ∀ n, n < i' → ∀ z, L[n]? = some z → z.2 = D' → z.1 = B') : i' = i ∧ j' = j ∧ A' = A ∧ B' = B := by
  obtain ⟨h12, hAB, hnc, D, g1, g2, g3⟩ := h
  have hjj : j' = j := by
    rcases Nat.lt_trichotomy j' j with h | h | h
    · exact absurd (hnc i' j' _ _ hij h hi hj rfl) hne
    · exact h
    · exact absurd (hn i j _ _ h12 h g1 g2 rfl) hAB
  subst hjj
  rw [g2] at hj
  cases hj
  have hii : i' = i := by
    rcases Nat.lt_trichotomy i' i with h | h | h
    · exact absurd rfl (g3 i' h _ hi)
    · exact h
    · exact absurd (hf i h _ g1 rfl) hAB
  subst hii
  rw [g1] at hi
  cases hi
  exact ⟨rfl, rfl, rfl, rfl⟩
theorem clash_none {L : List (List Int × List Int)} {i j n : Nat} {A B : List Int} (h : ClashAt L i j A B) (hn : NoClash L n) (hj : j < n) : False := by
  obtain ⟨h12, hAB, -, D, g1, g2, -⟩ := h
  exact hAB (hn i j _ _ h12 hj g1 g2 rfl)

/-- A tuple: its epoch, its nonce, what goes along, what was sealed. -/
abbrev Tup := Int × List Int × List Int × List Int
/-- What is right with a tuple. -/
def TupOk (t : Tup) : Prop := (0 ≤ t.1 ∧ t.1 < 4294967296) ∧ (t.2.1.length = 12 ∧ ∀ b ∈ t.2.1, okByte b) ∧ (t.2.2.1.length ≤ 100000000000 ∧ ∀ b ∈ t.2.2.1, okByte b) ∧ t.2.2.2.length ≤ 100000000000 ∧ ∀ b ∈ t.2.2.2, okByte b
/-- Its name. -/
abbrev nameOf (t : Tup) : Int × List Int := (t.1, t.2.1)
/-- The first two under one name. -/
def TwiceAt (L : List Tup) (i j : Nat) (s t : Tup) : Prop := i < j ∧ L[i]? = some s ∧ L[j]? = some t ∧ nameOf s = nameOf t ∧ ∀ a b x y, a < b → b < j → L[a]? = some x → L[b]? = some y → nameOf x ≠ nameOf y
def NoTwice (L : List Tup) (k : Nat) : Prop := ∀ a b x y, a < b → b < k → L[a]? = some x → L[b]? = some y → nameOf x ≠ nameOf y
theorem twice_same {L : List Tup} {i j i' j' : Nat} {s t s' t' : Tup} (h : TwiceAt L i j s t) (h' : TwiceAt L i' j' s' t') : i' = i ∧ j' = j ∧ s' = s ∧ t' = t := by
  obtain ⟨a1, a2, a3, a4, a5⟩ := h
  obtain ⟨b1, b2, b3, b4, b5⟩ := h'
  have hjj : j' = j := by
    rcases Nat.lt_trichotomy j' j with h | h | h
    · exact absurd b4 (a5 i' j' _ _ b1 h b2 b3)
    · exact h
    · exact absurd a4 (b5 i j _ _ a1 h a2 a3)
  subst hjj
  rw [a3] at b3
  cases b3
  have hii : i' = i := by
    rcases Nat.lt_trichotomy i' i with h | h | h
    · exact absurd (b4.trans a4.symm) (a5 i' i _ _ h a1 b2 a2)
    · exact h
    · exact absurd (a4.trans b4.symm) (b5 i i' _ _ h b1 a2 b2)
  subst hii
  rw [a2] at b2
  cases b2
  exact ⟨rfl, rfl, rfl, rfl⟩
theorem twice_none {L : List Tup} {i j n : Nat} {s t : Tup} (h : TwiceAt L i j s t) (hn : NoTwice L n) (hj : j < n) : False :=
  hn i j _ _ h.1 hj h.2.1 h.2.2.1 h.2.2.2.1
/-- The first that was opened and never sealed. -/
def ForgedAt (Ss Os : List Tup) (j : Nat) (t : Tup) : Prop := Os[j]? = some t ∧ t ∉ Ss ∧ ∀ n, n < j → ∀ z, Os[n]? = some z → z ∈ Ss
def NoForged (Ss Os : List Tup) (k : Nat) : Prop := ∀ n, n < k → ∀ z, Os[n]? = some z → z ∈ Ss
theorem forged_same {Ss Os : List Tup} {j j' : Nat} {t t' : Tup} (h : ForgedAt Ss Os j t) (h' : ForgedAt Ss Os j' t') : j' = j ∧ t' = t := by
  obtain ⟨a1, a2, a3⟩ := h
  obtain ⟨b1, b2, b3⟩ := h'
  have hjj : j' = j := by
    rcases Nat.lt_trichotomy j' j with h | h | h
    · exact absurd (a3 j' h _ b1) b2
    · exact h
    · exact absurd (b3 j h _ a1) a2
  subst hjj
  rw [a1] at b1
  cases b1
  exact ⟨rfl, rfl⟩
theorem forged_none {Ss Os : List Tup} {j n : Nat} {t : Tup} (h : ForgedAt Ss Os j t) (hn : NoForged Ss Os n) (hj : j < n) : False := h.2.1 (hn j hj t h.1)
end Go.Proofs.YteoidocicjlglaaDoor
