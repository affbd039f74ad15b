/-
  SHA-256 of whole texts in plain words: the blocks, the digest. No program in sight.
-/
import Derived.Test.YtkppoffljkpiaaaDoorShaS
namespace Go.Proofs.YtkppoffljkpiaaaDoor.Sha
open Go
/-- The eight words behind the first j blocks. -/
def blks (M : List Int) : Nat → List Int
  | 0 => hTab
  | j + 1 => blkF ((M.drop (64 * j)).take 64) (blks M j)
theorem blks_app (M A : List Int) : ∀ j, 64 * j ≤ M.length → blks (M ++ A) j = blks M j
  | 0, _ => rfl
  | j + 1, h => by
    show blkF _ (blks (M ++ A) j) = blkF _ (blks M j)
    rw [blks_app M A j (by omega), List.drop_append_of_le_length (by omega), List.take_append_of_le_length (by simp; omega)]
theorem hTab_ok : Ok8 hTab := ⟨rfl, fun x hx => by
  unfold hTab at hx
  simp only [List.mem_cons, List.not_mem_nil, or_false] at hx
  unfold In32
  omega⟩
theorem blks_ok (M : List Int) : ∀ j, Ok8 (blks M j)
  | 0 => hTab_ok
  | j + 1 => (blks_ok M j).blk
/-- The words behind a text's whole blocks; what is left over. -/
def stOf (M : List Int) : List Int := blks M (M.length / 64)
def lft (M : List Int) : List Int := M.drop (64 * (M.length / 64))
theorem lft_len (M : List Int) : (lft M).length = M.length % 64 := by unfold lft; rw [List.length_drop]; omega
theorem lft_app {M A : List Int} (h : M.length % 64 + A.length < 64) : lft (M ++ A) = lft M ++ A := by
  unfold lft
  rw [List.length_append, show (M.length + A.length) / 64 = M.length / 64 by omega, List.drop_append_of_le_length (by omega)]
theorem stOf_app {M A : List Int} (h : M.length % 64 + A.length < 64) : stOf (M ++ A) = stOf M := by
  unfold stOf
  rw [List.length_append, show (M.length + A.length) / 64 = M.length / 64 by omega, blks_app _ _ _ (by omega)]
theorem lft_full {M A : List Int} (h : M.length % 64 + A.length = 64) : lft (M ++ A) = [] := by
  unfold lft
  rw [List.length_append]
  exact List.drop_eq_nil_of_le (by simp; omega)
theorem stOf_full {M A : List Int} (h : M.length % 64 + A.length = 64) : stOf (M ++ A) = blkF (lft M ++ A) (stOf M) := by
  unfold stOf lft
  rw [List.length_append, show (M.length + A.length) / 64 = M.length / 64 + 1 by omega]
  show blkF _ _ = _
  rw [blks_app _ _ _ (by omega), List.drop_append_of_le_length (by omega), List.take_of_length_le (by simp; omega)]
theorem stOf_nil : stOf [] = hTab := rfl
theorem lft_nil : lft [] = [] := rfl
/-- The bytes of eight words. -/
def byt (s : List Int) (i : Nat) : Int := s.getD (i / 4) 0 / 2 ^ (24 - 8 * (i % 4)) % 256
def dig (s : List Int) : List Int := (List.range 32).map (byt s)
end Go.Proofs.YtkppoffljkpiaaaDoor.Sha
