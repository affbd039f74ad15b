/-
  The plain law of TreePaths: a path out of a tree that was built fits; a path with one byte turned that fits is a clash. No program in sight.
-/
import Derived.Test.YteiglillnogoaaaDoorTrCheckR
import Derived.Test.YteiglillnogoaaaDoorTrRoot
import Derived.Test.YteiglillnogoaaaDoorGhC
set_option linter.unusedSimpArgs false
set_option linter.unusedVariables false
namespace Go.Proofs.YteiglillnogoaaaDoor
open Go.RowKit Go.Proofs.YteiglillnogoaaaDoor.Sl Go.Proofs.YteiglillnogoaaaDoor.Sha Go.Proofs.YteiglillnogoaaaDoor.Jp Go.Proofs.YteiglillnogoaaaDoor.Tr

theorem kid_put_same {A D : Row} {t : Nat} (hA : A.length = 256) (hD : D.length = 32) (ht : t < 8) : kidF (putAt A (32 * t) D) t = D := by
  unfold kidF putAt
  have h1 : (A.take (32 * t)).length = 32 * t := by simp; omega
  rw [List.append_assoc, List.drop_append, h1, Nat.sub_self, List.drop_zero, List.drop_of_length_le (by rw [h1]; omega), List.nil_append, List.take_append, hD, Nat.sub_self, List.take_zero, List.append_nil, List.take_of_length_le (by omega)]
theorem kid_put_other {A D : Row} {t u : Nat} (hA : A.length = 256) (hD : D.length = 32) (ht : t < 8) (hu : u < 8) (hne : u ≠ t) : kidF (putAt A (32 * t) D) u = kidF A u := by
  unfold kidF putAt
  apply List.ext_getElem?
  intro i
  rw [List.getElem?_take, List.getElem?_take]
  split
  · rename_i hi
    rw [List.getElem?_drop, List.getElem?_drop]
    have h1 : (A.take (32 * t)).length = 32 * t := by simp; omega
    by_cases h : u < t
    · rw [List.append_assoc, List.getElem?_append_left (by rw [h1]; omega), List.getElem?_take, if_pos (by omega)]
    · have h2 : (A.take (32 * t) ++ D).length = 32 * t + 32 := by rw [List.length_append, h1, hD]
      rw [List.getElem?_append_right (by rw [h2]; omega), h2, hD, List.getElem?_drop]
      congr 1
      omega
  · rfl
theorem modify_get {α : Type} {f : α → α} : ∀ {l : List α} {k j : Nat}, (l.modify k f)[j]? = if j = k then l[j]?.map f else l[j]?
  | [], k, j => by cases k <;> simp
  | a :: l, 0, 0 => by simp [List.modify]
  | a :: l, 0, j + 1 => by simp [List.modify]
  | a :: l, k + 1, 0 => by simp [List.modify]
  | a :: l, k + 1, j + 1 => by
    show (l.modify k f)[j]? = _
    rw [modify_get (l := l) (k := k) (j := j)]
    simp
/-- What is told of a block in the row above. -/
theorem ab_kid {d : Nat → Row → Row} (hd : ∀ i A, (d i A).length = 32) (hb : ∀ i A, ∀ x ∈ d i A, okByte x) (fr : Nat) (bs : List Row) : ∀ n k, k < n → ∃ A, (ab d fr bs n)[k / 8]? = some A ∧ kidF A (k % 8) = d (fr + k) (bs.getD k [])
  | 0, _, h => by omega
  | n + 1, k, h => by
    have hl := ab_len (d := d) fr bs n
    have hr := ab_rows hd hb fr bs n
    rw [ab, abStep]
    have hget : ∀ j A, (ab d fr bs n)[j]? = some A → (if n % 8 = 0 then ab d fr bs n ++ [z256] else ab d fr bs n)[j]? = some A := fun j A hj => by
      split
      · rw [List.getElem?_append_left (List.getElem?_eq_some_iff.1 hj).1]; exact hj
      · exact hj
    by_cases hk : k < n
    · obtain ⟨A, hA, hkA⟩ := ab_kid hd hb fr bs n k hk
      have hAr := hr A (List.mem_of_getElem? hA)
      rw [modify_get, hget _ _ hA]
      by_cases e : k / 8 = n / 8
      · rw [if_pos e]
        exact ⟨_, rfl, by rw [kid_put_other hAr.1 (hd _ _) (by omega) (by omega) (by omega)]; exact hkA⟩
      · rw [if_neg e]
        exact ⟨A, rfl, hkA⟩
    · have e : k = n := by omega
      subst e
      rw [modify_get, if_pos rfl]
      by_cases h8 : k % 8 = 0
      · rw [if_pos h8, List.getElem?_append_right (by omega), show k / 8 - (ab d fr bs k).length = 0 by omega]
        exact ⟨_, rfl, kid_put_same isRow_z.1 (hd _ _) (by omega)⟩
      · rw [if_neg h8]
        have hlt : k / 8 < (ab d fr bs k).length := by omega
        rw [List.getElem?_eq_getElem hlt]
        exact ⟨_, rfl, kid_put_same (hr _ (List.getElem_mem hlt)).1 (hd _ _) (by omega)⟩

/-- The rows of a path out of all rows. -/
def pathRows (P : Nat) (L : List Nat) (A : List Row) : List Row := L.map fun b => A.getD (b - P) []
theorem pathRows_get {P : Nat} {L : List Nat} {A : List Row} {i b : Nat} (h : L[i]? = some b) : (pathRows P L A)[i]? = some (A.getD (b - P) []) := by simp [pathRows, h]
/-- What stands above a page. -/
structure Above (P C n1 N page : Nat) (bs nn : List Row) (L T : List Nat) : Prop where
  fits : ∀ i b c t, L[i]? = some b → L[i + 1]? = some c → T[i + 1]? = some t → kidF ((bs ++ nn).getD (c - P) []) t = dig b ((bs ++ nn).getD (b - P) [])
  top : ∀ b, L[L.length - 1]? = some b → b = P + C + N - 1 ∧ (bs ++ nn).getD (b - P) [] = nn.getD (N - 1) []
  rows : ∀ (i b : Nat), L[i]? = some b → b - P < bs.length + nn.length
theorem above_made {P : Nat} (h1 : 1 ≤ P) (h3 : P ≤ 300) {bs : List Row} (hC : bs.length = cC P) {page : Nat} (hp : page < P) {nn : List Row} (hnn : (stB dig P bs (cM P)).2.2 = nn) (hnl : nn.length = cN P) :
    ∃ L T, Chain P (cC P) (cL P) (cN P) page L T ∧ Above P (cC P) (cL P) (cN P) page bs nn L T := by
  have hc := c_le h3
  have hP16 : P ≤ 16 * cC P := by unfold cC; omega
  have hfit := c_fit h1 h3
  have l1 : (ab dig P bs (cC P)).length = cL P := by rw [ab_len]; rfl
  have k1 : ∀ k, k < cC P → ∃ A, (ab dig P bs (cC P))[k / 8]? = some A ∧ kidF A (k % 8) = dig (P + k) (bs.getD k []) := fun k hk => ab_kid dig_len' dig_okB P bs (cC P) k hk
  rcases cM_is h1 h3 with ⟨em, el, en⟩ | ⟨em, el, el3, en⟩
  · have hnn1 : nn = ab dig P bs (cC P) := by
      rw [← hnn, em]
      show [] ++ ab dig P bs bs.length = _
      rw [List.nil_append, hC]
    generalize cC P = C at *
    generalize cL P = n1 at *
    generalize cN P = N at *
    subst el; subst en
    have e1 : parP P C 1 1 page = some (P + page / 16, page % 16) := by rw [parP, if_pos hp]
    have e2 : parP P C 1 1 (P + page / 16) = some (P + (C + page / 16 / 8), page / 16 % 8) := by
      rw [parP, if_neg (by omega), par, if_pos (by omega), Nat.add_sub_cancel_left]
      rfl
    have e3 : parP P C 1 1 (P + (C + page / 16 / 8)) = none := by
      rw [parP, if_neg (by omega), par, if_neg (by omega), if_neg (by omega)]
      rfl
    obtain ⟨A, hA, hkA⟩ := k1 (page / 16) (by omega)
    refine ⟨[P + page / 16, P + (C + page / 16 / 8)], [page % 16, page / 16 % 8], ⟨by simp [lvs], rfl, ?_, ?_, ?_, ?_, ?_⟩, ⟨?_, ?_, ?_⟩⟩
    · intro j a b t ha hb ht
      match j, ha, hb, ht with
      | 0, ha, hb, ht => simp at ha hb ht; subst ha; subst hb; subst ht; exact e1
      | 1, ha, hb, ht => simp at ha hb ht; subst ha; subst hb; subst ht; exact e2
      | j + 2, ha, hb, ht => simp at hb
    · intro a ha
      simp at ha
      subst ha
      exact e3
    · intro j a ha
      match j, ha with
      | 0, ha => simp at ha; omega
      | 1, ha => simp at ha; omega
      | 2, ha => simp at ha; omega
      | j + 3, ha => simp at ha
    · intro j b hb
      match j, hb with
      | 0, hb => simp at hb; omega
      | 1, hb => simp at hb; omega
      | j + 2, hb => simp at hb
    · intro j t ht
      match j, ht with
      | 0, ht => simp at ht; omega
      | j + 1, ht => simp at ht
    · intro i b c t hb hcc ht
      match i, hb, hcc, ht with
      | 0, hb, hcc, ht =>
        simp at hb hcc ht
        subst hb; subst hcc; subst ht
        rw [Nat.add_sub_cancel_left, Nat.add_sub_cancel_left, ← hC, getD_right, getD_left _ _ _ (by omega), hnn1, getD_of hA]
        exact hkA
      | i + 1, hb, hcc, ht => simp at hcc
    · intro b hb
      simp at hb
      subst hb
      have e0 : page / 16 / 8 = 0 := by omega
      rw [e0, Nat.add_sub_cancel_left, Nat.add_zero]
      refine ⟨by omega, ?_⟩
      have := getD_right bs nn 0
      rw [hC] at this
      exact this
    · intro i b hb
      match i, hb with
      | 0, hb => simp at hb; omega
      | 1, hb => simp at hb; omega
      | i + 2, hb => simp at hb
  · have hnn1 : nn = ab dig P bs (cC P) ++ ab dig (P + cC P) (ab dig P bs (cC P)) (cL P) := by
      rw [← hnn, em]
      show ([] ++ ab dig P bs bs.length) ++ ab dig (P + bs.length) (ab dig P bs bs.length) (ab dig P bs bs.length).length = _
      rw [List.nil_append, hC, l1]
    have k2 : ∀ k, k < cL P → ∃ A, (ab dig (P + cC P) (ab dig P bs (cC P)) (cL P))[k / 8]? = some A ∧ kidF A (k % 8) = dig (P + cC P + k) ((ab dig P bs (cC P)).getD k []) := fun k hk => ab_kid dig_len' dig_okB (P + cC P) _ (cL P) k hk
    have l2 : (ab dig (P + cC P) (ab dig P bs (cC P)) (cL P)).length = 1 := by rw [ab_len]; omega
    generalize hV : ab dig P bs (cC P) = V at *
    generalize hW : ab dig (P + cC P) V (cL P) = W at *
    clear hV hW
    generalize cC P = C at *
    generalize cL P = n1 at *
    generalize cN P = N at *
    subst en
    have e1 : parP P C n1 (n1 + 1) page = some (P + page / 16, page % 16) := by rw [parP, if_pos hp]
    have e2 : parP P C n1 (n1 + 1) (P + page / 16) = some (P + (C + page / 16 / 8), page / 16 % 8) := by
      rw [parP, if_neg (by omega), par, if_pos (by omega), Nat.add_sub_cancel_left]
      rfl
    have e3 : parP P C n1 (n1 + 1) (P + (C + page / 16 / 8)) = some (P + (C + n1 + page / 16 / 8 / 8), page / 16 / 8 % 8) := by
      rw [parP, if_neg (by omega), par, if_neg (by omega), if_pos (by omega), Nat.add_sub_cancel_left]
      simp only [Option.map_some]
      rw [Nat.add_sub_cancel_left]
    have e4 : parP P C n1 (n1 + 1) (P + (C + n1 + page / 16 / 8 / 8)) = none := by
      rw [parP, if_neg (by omega), par, if_neg (by omega), if_neg (by omega)]
      rfl
    obtain ⟨A, hA, hkA⟩ := k1 (page / 16) (by omega)
    obtain ⟨B, hB, hkB⟩ := k2 (page / 16 / 8) (by omega)
    refine ⟨[P + page / 16, P + (C + page / 16 / 8), P + (C + n1 + page / 16 / 8 / 8)], [page % 16, page / 16 % 8, page / 16 / 8 % 8], ⟨by simp [lvs], rfl, ?_, ?_, ?_, ?_, ?_⟩, ⟨?_, ?_, ?_⟩⟩
    · intro j a b t ha hb ht
      match j, ha, hb, ht with
      | 0, ha, hb, ht => simp at ha hb ht; subst ha; subst hb; subst ht; exact e1
      | 1, ha, hb, ht => simp at ha hb ht; subst ha; subst hb; subst ht; exact e2
      | 2, ha, hb, ht => simp at ha hb ht; subst ha; subst hb; subst ht; exact e3
      | j + 3, ha, hb, ht => simp at hb
    · intro a ha
      simp at ha
      subst ha
      exact e4
    · intro j a ha
      match j, ha with
      | 0, ha => simp at ha; omega
      | 1, ha => simp at ha; omega
      | 2, ha => simp at ha; omega
      | 3, ha => simp at ha; omega
      | j + 4, ha => simp at ha
    · intro j b hb
      match j, hb with
      | 0, hb => simp at hb; omega
      | 1, hb => simp at hb; omega
      | 2, hb => simp at hb; omega
      | j + 3, hb => simp at hb
    · intro j t ht
      match j, ht with
      | 0, ht => simp at ht; omega
      | 1, ht => simp at ht; omega
      | j + 2, ht => simp at ht
    · intro i b c t hb hcc ht
      match i, hb, hcc, ht with
      | 0, hb, hcc, ht =>
        simp at hb hcc ht
        subst hb; subst hcc; subst ht
        rw [Nat.add_sub_cancel_left, Nat.add_sub_cancel_left, ← hC, getD_right, getD_left _ _ _ (by omega), hnn1, getD_left _ _ _ (by omega), getD_of hA]
        exact hkA
      | 1, hb, hcc, ht =>
        simp at hb hcc ht
        subst hb; subst hcc; subst ht
        have g1 : (bs ++ nn).getD (P + (C + n1 + page / 16 / 8 / 8) - P) [] = B := by
          rw [Nat.add_sub_cancel_left, Nat.add_assoc, ← hC, getD_right, hnn1, ← l1, getD_right, getD_of hB]
        have g2 : (bs ++ nn).getD (P + (C + page / 16 / 8) - P) [] = V.getD (page / 16 / 8) [] := by
          rw [Nat.add_sub_cancel_left, ← hC, getD_right, hnn1, getD_left _ _ _ (by omega)]
        rw [g1, g2, ← Nat.add_assoc]
        exact hkB
      | i + 2, hb, hcc, ht => simp at hcc
    · intro b hb
      simp at hb
      subst hb
      have e0 : page / 16 / 8 / 8 = 0 := by omega
      rw [e0, Nat.add_sub_cancel_left, Nat.add_zero]
      refine ⟨by omega, ?_⟩
      have := getD_right bs nn n1
      rw [hC] at this
      exact this
    · intro i b hb
      match i, hb with
      | 0, hb => simp at hb; omega
      | 1, hb => simp at hb; omega
      | 2, hb => simp at hb; omega
      | i + 3, hb => simp at hb
end Go.Proofs.YteiglillnogoaaaDoor
