/-
  Digests in plain words: the bytes that are written out. No program in sight.
-/
import Derived.Test.YtkppoffljkpiaaaDoorShaM
import Derived.Test.YtkppoffljkpiaaaDoorShaP
namespace Go.Proofs.YtkppoffljkpiaaaDoor
open Go.RowKit Go.Proofs.YtkppoffljkpiaaaDoor.Sl Go.Proofs.YtkppoffljkpiaaaDoor.Sha Go.Proofs.YtkppoffljkpiaaaDoor.Jp

abbrev u8v : Int → Value := Value.int .u8
/-- The digest of a text. -/
def shaF (M : List Int) : List Int := dig (stOf (pad M))
theorem pad_byte {A : List Int} (h : ∀ x ∈ A, okByte x) : ∀ x ∈ pad A, okByte x := fun x hx => by
  unfold pad at hx
  rcases List.mem_append.1 hx with hx | hx
  · rcases List.mem_append.1 hx with hx | hx
    · rcases List.mem_append.1 hx with hx | hx
      · exact h x hx
      · have : x = 128 := by simpa using hx
        subst this; unfold okByte; omega
    · have := (List.mem_replicate.1 hx).2
      subst this; unfold okByte; omega
  · exact be_byt _ _ x hx
theorem dig_len (s : List Int) : (dig s).length = 32 := by simp [dig]
theorem byt_byte (s : List Int) (i : Nat) : okByte (byt s i) := by unfold byt okByte; omega
theorem dig_byte (s : List Int) : ∀ x ∈ dig s, okByte x := fun x hx => by
  unfold dig at hx
  obtain ⟨i, _, rfl⟩ := List.mem_map.1 hx
  exact byt_byte s i
/-- The digest's bytes, t of them written. -/
def oArr (s : List Int) (t : Nat) : List Int := (dig s).take t ++ List.replicate (32 - t) 0
theorem oArr_len (s : List Int) {t : Nat} (h : t ≤ 32) : (oArr s t).length = 32 := by simp [oArr, dig_len]; omega
theorem oArr_set (s : List Int) {t : Nat} (h : t < 32) : (oArr s t).set t (byt s t) = oArr s (t + 1) := by
  unfold oArr
  have hl : ((dig s).take t).length = t := by rw [List.length_take, dig_len]; omega
  rw [List.set_append_right _ _ (by omega), hl, Nat.sub_self, show 32 - t = (32 - (t + 1)) + 1 by omega, List.replicate_succ, List.set_cons_zero,
    List.take_succ_eq_append_getElem (by rw [dig_len]; omega), List.append_assoc]
  congr 2
  simp [dig]
theorem oArr_all (s : List Int) : oArr s 32 = dig s := by
  unfold oArr
  rw [List.take_of_length_le (by rw [dig_len]; omega)]
  simp
theorem oArr_zero (s : List Int) : oArr s 0 = List.replicate 32 0 := by simp [oArr]
theorem zeros64 : (#[.int .u32 0, .int .u32 0, .int .u32 0, .int .u32 0, .int .u32 0, .int .u32 0, .int .u32 0, .int .u32 0, .int .u32 0, .int .u32 0, .int .u32 0, .int .u32 0, .int .u32 0, .int .u32 0, .int .u32 0, .int .u32 0, .int .u32 0, .int .u32 0, .int .u32 0, .int .u32 0, .int .u32 0, .int .u32 0, .int .u32 0, .int .u32 0, .int .u32 0, .int .u32 0, .int .u32 0, .int .u32 0, .int .u32 0, .int .u32 0, .int .u32 0, .int .u32 0, .int .u32 0, .int .u32 0, .int .u32 0, .int .u32 0, .int .u32 0, .int .u32 0, .int .u32 0, .int .u32 0, .int .u32 0, .int .u32 0, .int .u32 0, .int .u32 0, .int .u32 0, .int .u32 0, .int .u32 0, .int .u32 0, .int .u32 0, .int .u32 0, .int .u32 0, .int .u32 0, .int .u32 0, .int .u32 0, .int .u32 0, .int .u32 0, .int .u32 0, .int .u32 0, .int .u32 0, .int .u32 0, .int .u32 0, .int .u32 0, .int .u32 0, .int .u32 0] : Array Value) = ((List.replicate 64 (0 : Int)).map u32v).toArray := by simp [List.replicate, u32v]
theorem zeros32 : (#[.int .u8 0, .int .u8 0, .int .u8 0, .int .u8 0, .int .u8 0, .int .u8 0, .int .u8 0, .int .u8 0, .int .u8 0, .int .u8 0, .int .u8 0, .int .u8 0, .int .u8 0, .int .u8 0, .int .u8 0, .int .u8 0, .int .u8 0, .int .u8 0, .int .u8 0, .int .u8 0, .int .u8 0, .int .u8 0, .int .u8 0, .int .u8 0, .int .u8 0, .int .u8 0, .int .u8 0, .int .u8 0, .int .u8 0, .int .u8 0, .int .u8 0, .int .u8 0] : Array Value) = ((List.replicate 32 (0 : Int)).map u8v).toArray := by simp [List.replicate, u8v]

end Go.Proofs.YtkppoffljkpiaaaDoor
