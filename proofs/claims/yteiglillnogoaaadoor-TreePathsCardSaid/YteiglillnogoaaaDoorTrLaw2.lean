/-
  The plain law of TreePaths, its end: a path that was built fits; one that was turned is told, or is a clash. No program in sight.
-/
import Derived.Test.YteiglillnogoaaaDoorTrLaw
set_option linter.unusedSimpArgs false
set_option linter.unusedVariables false
namespace Go.Proofs.YteiglillnogoaaaDoor
open Go.RowKit Go.Proofs.YteiglillnogoaaaDoor.Sl Go.Proofs.YteiglillnogoaaaDoor.Sha Go.Proofs.YteiglillnogoaaaDoor.Jp Go.Proofs.YteiglillnogoaaaDoor.Tr

theorem pathRows_len (P : Nat) (L : List Nat) (A : List Row) : (pathRows P L A).length = L.length := by simp [pathRows]
theorem chk_built {P C n1 N page : Nat} {bs nn : List Row} {L T : List Nat} (hc : Chain P C n1 N page L T) (ha : Above P C n1 N page bs nn L T) (h256 : ∀ r ∈ pathRows P L (bs ++ nn), r.length = 256) : chkAll L T (pathRows P L (bs ++ nn)) (dig (P + C + N - 1) (nn.getD (N - 1) [])) = 0 := by
  rw [chkAll, if_neg (by rw [pathRows_len]; simp), if_pos h256, chkF, if_pos]
  intro i hi
  obtain ⟨b, hb⟩ : ∃ b, L[i]? = some b := ⟨_, List.getElem?_eq_getElem hi⟩
  unfold fitsAt wantF
  rw [getD_of hb, getD_of (pathRows_get hb), pathRows_len]
  by_cases hnx : i + 1 < L.length
  · obtain ⟨c, hcc⟩ : ∃ b, L[i + 1]? = some b := ⟨_, List.getElem?_eq_getElem hnx⟩
    obtain ⟨t, ht⟩ : ∃ b, T[i + 1]? = some b := ⟨_, List.getElem?_eq_getElem (by rw [hc.lenT]; exact hnx)⟩
    rw [if_pos hnx, getD_of (pathRows_get hcc), getD_of ht]
    exact (ha.fits i b c t hb hcc ht).symm
  · rw [if_neg hnx]
    have e : i = L.length - 1 := by omega
    subst e
    obtain ⟨h1, h2⟩ := ha.top b hb
    rw [h2, ← h1]
theorem chk_turned {L T : List Nat} {rows : List Row} {root B A : Row} {i li : Nat} (hlen : rows.length = L.length) (h256 : ∀ r ∈ rows, r.length = 256) (hA : rows[i]? = some A) (hB : B.length = 256) (hli : L[i]? = some li) (h0 : chkAll L T rows root = 0) :
    chkAll L T (rows.set i B) root = 10 ∨ (chkAll L T (rows.set i B) root = 0 ∧ dig li B = dig li A) := by
  have hi := (List.getElem?_eq_some_iff.1 hA).1
  have h256' : ∀ r ∈ rows.set i B, r.length = 256 := fun r hr => by
    rcases List.mem_or_eq_of_mem_set hr with h | rfl
    · exact h256 r h
    · exact hB
  rw [chkAll, if_neg (by rw [hlen]; simp), if_pos h256, chkF] at h0
  have hall : ∀ j, j < L.length → fitsAt L T rows root j := by
    by_cases h : ∀ j, j < L.length → fitsAt L T rows root j
    · exact h
    · rw [if_neg h] at h0; cases h0
  rw [chkAll, if_neg (by rw [List.length_set, hlen]; simp), if_pos h256', chkF]
  by_cases h : ∀ j, j < L.length → fitsAt L T (rows.set i B) root j
  · right
    rw [if_pos h]
    refine ⟨rfl, ?_⟩
    have e1 := h i (by omega)
    have e2 := hall i (by omega)
    unfold fitsAt at e1 e2
    rw [getD_of hli, getD_of hA] at e2
    have hs : (rows.set i B)[i]? = some B := by simp [hi]
    rw [getD_of hli, getD_of hs] at e1
    rw [e1, e2]
    unfold wantF
    rw [List.length_set]
    split
    · have hg : (rows.set i B).getD (i + 1) [] = rows.getD (i + 1) [] := by
        simp only [List.getD]
        rw [List.getElem?_set_ne (by omega)]
      rw [hg]
    · rfl
  · left
    rw [if_neg h]
theorem inp_inj {b : Int} {A B : Row} (h : inp b A = inp b B) : A = B := by
  unfold inp at h
  exact List.append_cancel_left h
/-- What is in a log of a tree's digests. -/
def PairOk (p : List Int × List Int) : Prop := ∃ (b : Nat) (A : Row), p = (pre b A, dig b A) ∧ (∀ x ∈ A, okByte x) ∧ A.length ≤ 10000
theorem inp_byte {b : Int} {A : Row} (h : ∀ x ∈ A, okByte x) : ∀ x ∈ inp b A, okByte x := fun x hx => by
  unfold inp at hx
  rcases List.mem_append.1 hx with hx | hx
  · rcases List.mem_cons.1 hx with hx | hx
    · rw [hx]; unfold okByte; omega
    · exact be_byt _ _ x hx
  · exact h x hx
theorem inp_len (b : Int) (A : Row) : (inp b A).length ≤ A.length + 10 := by unfold inp; simp; omega
theorem pairOk_ok {p : List Int × List Int} (h : PairOk p) : (∀ b ∈ p.1, okByte b) ∧ p.1.length ≤ 100000000000 ∧ p.2.length = 32 ∧ ∀ b ∈ p.2, okByte b := by
  obtain ⟨b, A, rfl, h1, h2⟩ := h
  refine ⟨inp_byte h1, ?_, dig_len' _ _, dig_okB _ _⟩
  have := inp_len b A
  show (inp b A).length ≤ _
  omega
theorem clash_two {Ls : List (List Int × List Int)} {b : Nat} {A B : Row} (h1 : (pre b A, dig b A) ∈ Ls) (h2 : (pre b B, dig b B) ∈ Ls) (hne : A ≠ B) (he : dig b B = dig b A) : ¬ NoClash Ls Ls.length := fun hn => by
  obtain ⟨i, hi, e1⟩ := List.mem_iff_getElem.1 h1
  obtain ⟨j, hj, e2⟩ := List.mem_iff_getElem.1 h2
  have g1 : Ls[i]? = some (pre b A, dig b A) := by rw [List.getElem?_eq_getElem hi, e1]
  have g2 : Ls[j]? = some (pre b B, dig b B) := by rw [List.getElem?_eq_getElem hj, e2]
  rcases Nat.lt_trichotomy i j with h | h | h
  · exact hne (inp_inj (hn i j _ _ h hj g1 g2 he.symm))
  · subst h
    rw [g1] at g2
    exact hne (inp_inj (congrArg Prod.fst (Option.some.inj g2)))
  · exact hne (inp_inj (hn j i _ _ h hi g2 g1 he)).symm
theorem notes_ok {fr : Nat} {bs : List Row} (h : ∀ r ∈ bs, isRow r) : ∀ k, ∀ p ∈ notes dig pre fr bs k, PairOk p
  | 0, p, hp => by cases hp
  | k + 1, p, hp => by
    rw [notes] at hp
    rcases List.mem_append.1 hp with hp | hp
    · exact notes_ok h k p hp
    · rw [List.mem_singleton.1 hp]
      refine ⟨fr + k, bs.getD k [], rfl, ?_, ?_⟩
      · cases hg : bs[k]? with
        | none => simp [List.getD, hg]
        | some r => rw [getD_of hg]; exact (h r (List.mem_of_getElem? hg)).2
      · cases hg : bs[k]? with
        | none => simp [List.getD, hg]
        | some r => rw [getD_of hg]; have h2 : r.length = 256 := (h r (List.mem_of_getElem? hg)).1; omega
theorem stB_rows {P : Nat} {bs : List Row} (h : ∀ r ∈ bs, isRow r) : ∀ k, ∀ r ∈ (stB dig P bs k).2.1, isRow r
  | 0 => h
  | k + 1 => ab_rows dig_len' dig_okB _ _ _
theorem stN_ok {P : Nat} {bs : List Row} (h : ∀ r ∈ bs, isRow r) : ∀ k, ∀ p ∈ stN dig pre P bs k, PairOk p
  | 0, p, hp => by cases hp
  | k + 1, p, hp => by
    rw [stN] at hp
    rcases List.mem_append.1 hp with hp | hp
    · exact stN_ok h k p hp
    · exact notes_ok (stB_rows h k) _ p hp
theorem chkNotes_ok {L : List Nat} {rows : List Row} (h : ∀ r ∈ rows, isRow r) (q : Nat) : ∀ p ∈ chkNotes L rows q, PairOk p := fun p hp => by
  obtain ⟨i, _, rfl⟩ := List.mem_map.1 hp
  refine ⟨L.getD i 0, rows.getD i [], rfl, ?_, ?_⟩
  · cases hg : rows[i]? with
    | none => simp [List.getD, hg]
    | some r => rw [getD_of hg]; exact (h r (List.mem_of_getElem? hg)).2
  · cases hg : rows[i]? with
    | none => simp [List.getD, hg]
    | some r => rw [getD_of hg]; have h2 : r.length = 256 := (h r (List.mem_of_getElem? hg)).1; omega
theorem chkNotes_mem {L : List Nat} {rows : List Row} {q i li : Nat} {A : Row} (hi : i < q) (hl : L[i]? = some li) (hA : rows[i]? = some A) : (pre li A, dig li A) ∈ chkNotes L rows q :=
  List.mem_map.2 ⟨i, List.mem_range.2 hi, by rw [getD_of hl, getD_of hA]⟩
end Go.Proofs.YteiglillnogoaaaDoor
