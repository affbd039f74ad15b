/-
  How long a step's words are; script.Print over script.same.
-/
import Derived.Test.YtpbjkfomdindnaaGreatDoorScPi
set_option linter.unusedSimpArgs false
set_option linter.unusedVariables false
namespace Go.Proofs.YtpbjkfomdindnaaGreatDoor
open Go.RowKit Go.Shelf Go.Proofs.YtpbjkfomdindnaaGreatDoor.Sl Go.Proofs.YtpbjkfomdindnaaGreatDoor.Jp Go.Proofs.YtpbjkfomdindnaaGreatDoor.Sc

theorem hexL_length : ∀ l : List Int, (hexL l).length = 2 * l.length
  | [] => rfl
  | x :: l => by simp only [hexL, List.length_cons, hexL_length l]; omega
theorem dashL_length (l : List Int) (h : l.length ≤ 300) : (dashL l).length ≤ 1000 := by
  unfold dashL
  split
  · simp
  · rw [hexL_length]; omega
theorem beL_length : ∀ k n, (beL k n).length = k
  | 0, _ => rfl
  | k + 1, n => by simp [beL, beL_length k]
theorem bitsL_length (n : Nat) : (bitsL n).length ≤ 1000 := by unfold bitsL; rw [hexL_length, beL_length]; omega
theorem kwS_length (k : Nat) : (kwS k).length ≤ 1000 := by
  unfold kwS
  rw [List.getD_eq_getElem?_getD]
  cases h : stepsL[k]? with
  | none => simp
  | some x => exact (by decide : ∀ w ∈ stepsL, w.length ≤ 1000) x (List.mem_of_getElem? h)
theorem kwA_length (k : Nat) : (kwA k).length ≤ 1000 := by
  unfold kwA
  rw [List.getD_eq_getElem?_getD]
  cases h : asksL[k]? with
  | none => simp
  | some x => exact (by decide : ∀ w ∈ asksL, w.length ≤ 1000) x (List.mem_of_getElem? h)
/-- At most n words, none of them long. -/
def Few (n : Nat) (Y : List Bs) : Prop := Y.length ≤ n ∧ ∀ w ∈ Y, w.length ≤ 1000
theorem few_nil {Y : List Bs} (h : some [] = some Y) : Few 0 Y := by cases h; exact ⟨by simp, fun w hw => by cases hw⟩
theorem few_le {n m : Nat} {Y : List Bs} (h : Few n Y) (hm : n ≤ m) : Few m Y := ⟨Nat.le_trans h.1 hm, h.2⟩
theorem few_guard {n : Nat} {p : Prop} [Decidable p] {w : Bs} {r : Option (List Bs)} {Y : List Bs} (hw : p → w.length ≤ 1000) (hr : ∀ Y, r = some Y → Few n Y) (h : guardW p w r = some Y) : Few (n + 1) Y := by
  unfold guardW at h
  split at h
  · rename_i hp
    obtain ⟨Z, hZ, rfl⟩ := Option.map_eq_some_iff.1 h
    have h1 := hr Z hZ
    exact ⟨by simpa using h1.1, fun x hx => by rcases List.mem_cons.1 hx with e | e; · rw [e]; exact hw hp
                                               · exact h1.2 x e⟩
  · cases h
theorem itoa_1000 {n : Int} (h : okN n) : (Lib.itoa n).length ≤ 1000 := Nat.le_trans (itoa_len h) (by decide)
theorem fatesR_few {l : List Int} {Y : List Bs} (h : fatesR l = some Y) : Few 1 Y := by
  unfold fatesR at h
  split at h
  · rename_i hl
    split at h
    · cases h; exact ⟨by simp, fun w hw => by cases hw⟩
    · split at h
      · rename_i hk
        cases h
        refine ⟨by simp, fun w hw => ?_⟩
        obtain rfl := List.mem_singleton.1 hw
        have := joinC_len (c := 44) (M := 21) (W := l.map Lib.itoa) fun w hw => by
          obtain ⟨y, hy, rfl⟩ := List.mem_map.1 hw
          exact itoa_len (hk y hy)
        rw [List.length_map] at this
        show (joinC 44 (l.map Lib.itoa)).length ≤ 1000
        omega
      · cases h
  · cases h
theorem askR_few {s : St} {Y : List Bs} (h : askR s = some Y) : Few 4 Y := by
  unfold askR at h
  refine few_le (few_guard (n := 2) (fun _ => kwA_length _) (fun Y h => ?_) h) (by decide)
  split at h
  · exact few_le (few_guard (n := 0) itoa_1000 (fun Y h => few_nil h) h) (by decide)
  · split at h
    · exact few_guard (n := 1) itoa_1000 (fun Y h => few_guard (n := 0) (fun hl => dashL_length _ (by omega)) (fun Y h => few_nil h) h) h
    · split at h
      · refine few_guard (n := 1) itoa_1000 (fun Y h => ?_) h
        cases h
        exact ⟨by simp, fun w hw => by obtain rfl := List.mem_singleton.1 hw; exact bitsL_length _⟩
      · exact few_le (few_nil h) (by decide)
theorem printW_few {s : St} {Y : List Bs} (h : printW s = some Y) : Few 10 Y := by
  unfold printW at h
  refine few_le (few_guard (n := 5) (fun _ => kwS_length _) (fun Y h => ?_) h) (by decide)
  unfold stepR at h
  repeat' split at h
  · exact few_le (few_guard (n := 0) itoa_1000 (fun Y h => few_nil h) h) (by decide)
  · exact few_le (few_guard (n := 1) itoa_1000 (fun Y h => few_guard (n := 0) itoa_1000 (fun Y h => few_nil h) h) h) (by decide)
  · exact few_le (few_guard (n := 2) itoa_1000 (fun Y h => few_guard (n := 1) itoa_1000 (fun Y h => few_guard (n := 0) (fun hl => dashL_length _ (by omega)) (fun Y h => few_nil h) h) h) h) (by decide)
  · exact few_le (few_guard (n := 1) itoa_1000 (fun Y h => fatesR_few h) h) (by decide)
  · refine few_le (few_guard (n := 1) itoa_1000 (fun Y h => ?_) h) (by decide)
    cases h
    exact ⟨by simp, fun w hw => by obtain rfl := List.mem_singleton.1 hw; exact bitsL_length _⟩
  · exact few_guard (n := 4) itoa_1000 (fun Y h => askR_few h) h
  · exact few_le (few_nil h) (by decide)
theorem print_short {s : St} {Y : List Bs} (h : printW s = some Y) : (joinC 32 Y).length ≤ 20000 := by
  have h1 := printW_few h
  have h2 := joinC_len (c := 32) (M := 1000) h1.2
  have h3 := h1.1
  have : Y.length * (1000 + 1) ≤ 10 * 1001 := Nat.mul_le_mul h3 (by decide)
  omega
end Go.Proofs.YtpbjkfomdindnaaGreatDoor
