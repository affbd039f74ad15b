/-
  The document's reading of a line: what its words may mean, in plain words. No program.
-/
import Derived.Test.YtpbjkfomdindnaaGreatDoorScTp
set_option linter.unusedSimpArgs false
set_option linter.unusedVariables false
namespace Go.Proofs.YtpbjkfomdindnaaGreatDoor.Sc
open Go

/-- One digit more. -/
def hx1 (n : Nat) (c : UInt8) : Nat := if 48 ≤ c.toNat ∧ c.toNat ≤ 57 then 16 * n + (c.toNat - 48) else if 97 ≤ c.toNat ∧ c.toNat ≤ 102 then 16 * n + (c.toNat - 97) + 10 else n
/-- Digits as bytes, as far as they are some. -/
def unhexV : Bs → List Int
  | a :: b :: l => ((hx1 (hx1 0 a) b : Nat) : Int) :: unhexV l
  | _ => []
theorem hx1_lt {n : Nat} (c : UInt8) (h : n < 16) : hx1 n c < 256 := by
  unfold hx1
  split
  · omega
  · split <;> omega
theorem hx1_lt0 (c : UInt8) : hx1 0 c < 16 := by
  unfold hx1
  split
  · omega
  · split <;> omega
theorem unhexV_ok : ∀ (w : Bs), ∀ x ∈ unhexV w, okB8 x
  | [], x, h => by cases h
  | [_], x, h => by cases h
  | a :: b :: l, x, h => by
    rcases List.mem_cons.1 h with e | e
    · rw [e]
      have := hx1_lt b (hx1_lt0 a)
      exact ⟨by omega, by omega⟩
    · exact unhexV_ok l x e
theorem unhexV_len : ∀ (w : Bs), 2 * (unhexV w).length ≤ w.length
  | [] => by simp [unhexV]
  | [_] => by simp [unhexV]
  | a :: b :: l => by
    have := unhexV_len l
    simp only [unhexV, List.length_cons]; omega
theorem hx1_dig : ∀ (k : Fin 16) (n : Nat), hx1 n (hexd k.val) = 16 * n + k.val := by
  intro k n
  have h : ∀ k : Fin 16, (48 ≤ (hexd k.val).toNat ∧ (hexd k.val).toNat ≤ 57 ∧ (hexd k.val).toNat - 48 = k.val) ∨ (97 ≤ (hexd k.val).toNat ∧ (hexd k.val).toNat ≤ 102 ∧ (hexd k.val).toNat - 97 + 10 = k.val) := by decide +kernel
  unfold hx1
  rcases h k with ⟨a, b, c⟩ | ⟨a, b, c⟩
  · rw [if_pos ⟨a, b⟩, c]
  · rw [if_neg (by omega), if_pos ⟨a, b⟩]; omega
theorem unhexV_hex : ∀ {l : List Int}, (∀ x ∈ l, okB8 x) → unhexV (hexL l) = l
  | [], _ => rfl
  | x :: l, h => by
    have hx := h x (by simp)
    have ih := unhexV_hex fun y hy => h y (List.mem_cons_of_mem _ hy)
    have h1 := hx1_dig ⟨x.toNat / 16, by have := hx.2; have := hx.1; omega⟩ 0
    have h2 := hx1_dig ⟨x.toNat % 16, Nat.mod_lt _ (by decide)⟩ (16 * 0 + x.toNat / 16)
    simp only at h1 h2
    rw [hexL, unhexV, ih, h1, h2]
    congr 1
    have := hx.1
    omega
theorem unhexV_dash {l : List Int} (h : ∀ x ∈ l, okB8 x) : unhexV (dashL l) = l := by
  unfold dashL
  split
  · rename_i e; rw [e]; rfl
  · exact unhexV_hex h
/-- The last place from 1 on that holds a word; 0: there is none. -/
def lastK (L : List Bs) (w : Bs) : Nat → Nat
  | 0 => 0
  | k + 1 => if L[k + 1]? = some w then k + 1 else lastK L w k
def word (W : List Bs) (i : Nat) : Bs := W.getD i []
def realV (w : Bs) : Nat := beV 0 (unhexV w) % 18446744073709551616
/-- What is asked for, by three words. -/
def candA (s : St) (w2 w3 w4 : Bs) : St :=
  if lastK asksL w2 6 = 2 then { s with okd := (lastK asksL w2 6 : Nat), pg := numV w3, od := unhexV w4 }
  else if lastK asksL w2 6 = 5 then { s with okd := (lastK asksL w2 6 : Nat), pg := numV w3, bt := realV w4 }
  else { s with okd := (lastK asksL w2 6 : Nat), pg := numV w3 }
def fatesV (w : Bs) : List Int := if w = [] then [] else (splitC 44 w).map numV
/-- What five words may mean. -/
def candW (w0 w1 w2 w3 w4 : Bs) : St :=
  if lastK stepsL w0 12 = 9 then { st0 with kind := (lastK stepsL w0 12 : Nat), a := numV w1, b := numV w2 }
  else if lastK stepsL w0 12 = 8 then { st0 with kind := (lastK stepsL w0 12 : Nat), a := numV w1, b := numV w2, da := unhexV w3 }
  else if lastK stepsL w0 12 = 7 then { st0 with kind := (lastK stepsL w0 12 : Nat), a := numV w1, fa := fatesV w2 }
  else if lastK stepsL w0 12 = 12 then { st0 with kind := (lastK stepsL w0 12 : Nat), a := numV w1, bt := realV w2 }
  else if lastK stepsL w0 12 = 1 then candA { st0 with kind := (lastK stepsL w0 12 : Nat), a := numV w1 } w2 w3 w4
  else { st0 with kind := (lastK stepsL w0 12 : Nat), a := numV w1 }
/-- What a line may mean. -/
def candS (l : Bs) : St := candW (word (splitC 32 l) 0) (word (splitC 32 l) 1) (word (splitC 32 l) 2) (word (splitC 32 l) 3) (word (splitC 32 l) 4)
theorem realV_lt (w : Bs) : realV w < 18446744073709551616 := Nat.mod_lt _ (by decide)
theorem realV_bits {n : Nat} (h : n < 18446744073709551616) : realV (bitsL n) = canB n := by
  unfold realV bitsL
  rw [unhexV_hex (beL_ok 8 _), beV_beL 8 _ (by rw [show (256 : Nat) ^ 8 = 18446744073709551616 by decide]; exact canB_lt h)]
  exact Nat.mod_eq_of_lt (canB_lt h)
theorem itoa_ne (n : Int) : Lib.itoa n ≠ [] := by
  unfold Lib.itoa
  split
  · simp
  · exact dec_ne _
theorem joinC_ne {c : UInt8} : ∀ {W : List Bs}, (∃ w ∈ W, w ≠ []) → joinC c W ≠ []
  | [], h => by obtain ⟨w, h, _⟩ := h; cases h
  | [w], h => by
    obtain ⟨v, hv, hne⟩ := h
    obtain rfl := List.mem_singleton.1 hv
    exact hne
  | w :: v :: r, _ => by rw [joinC_cons _ (by simp)]; simp
theorem fatesV_fates {l : List Int} (h : ∀ x ∈ l, okN x) (hne : l ≠ []) : fatesV (fatesL l) = l := by
  unfold fatesV
  have h0 : fatesL l ≠ [] := by
    unfold fatesL
    cases l with
    | nil => exact absurd rfl hne
    | cons x r => exact joinC_ne ⟨Lib.itoa x, by simp, itoa_ne x⟩
  rw [if_neg h0]
  unfold fatesL
  rw [split_join 44 (by simpa using hne) (fun w hw => by
    obtain ⟨x, hx, rfl⟩ := List.mem_map.1 hw
    exact itoa_free (h x hx).1 (by decide))]
  rw [List.map_map]
  refine (List.map_congr_left (g := id) fun x hx => numV_itoa (h x hx)).trans (List.map_id _)
/-- A plain step's line means the step. -/
theorem cand_line {s : St} (hw : Wf s) (h : Plain s) : eqv (candS (lineS s)) s := by
  have hsp : splitC 32 (lineS s) = lineW s := by
    unfold lineS
    exact split_join 32 (lineW_ne s) (lineW_free h (.inl rfl))
  unfold candS
  rw [hsp]
  obtain ⟨⟨h1, h2⟩, hk, he, ha, hb, hp, ho, hd, hf, hx⟩ := h
  have na := numV_itoa ha
  have nb := numV_itoa hb
  have np := numV_itoa hp
  have no := unhexV_dash hw.od
  have nd := unhexV_dash hw.da
  have nr := realV_bits hw.bt
  have ci := canB_idem s.bt
  obtain ⟨k, a, b, okd, pg, od, bt, da, fa⟩ := s
  simp only at *
  have he := eqv_symm he
  have s1 : lastK stepsL (kwS 1) 12 = 1 := by decide +kernel
  have s2 : lastK stepsL (kwS 2) 12 = 2 := by decide +kernel
  have s3 : lastK stepsL (kwS 3) 12 = 3 := by decide +kernel
  have s4 : lastK stepsL (kwS 4) 12 = 4 := by decide +kernel
  have s5 : lastK stepsL (kwS 5) 12 = 5 := by decide +kernel
  have s6 : lastK stepsL (kwS 6) 12 = 6 := by decide +kernel
  have s7 : lastK stepsL (kwS 7) 12 = 7 := by decide +kernel
  have s8 : lastK stepsL (kwS 8) 12 = 8 := by decide +kernel
  have s9 : lastK stepsL (kwS 9) 12 = 9 := by decide +kernel
  have s10 : lastK stepsL (kwS 10) 12 = 10 := by decide +kernel
  have s11 : lastK stepsL (kwS 11) 12 = 11 := by decide +kernel
  have s12 : lastK stepsL (kwS 12) 12 = 12 := by decide +kernel
  have a1 : lastK asksL (kwA 1) 6 = 1 := by decide +kernel
  have a2 : lastK asksL (kwA 2) 6 = 2 := by decide +kernel
  have a3 : lastK asksL (kwA 3) 6 = 3 := by decide +kernel
  have a4 : lastK asksL (kwA 4) 6 = 4 := by decide +kernel
  have a5 : lastK asksL (kwA 5) 6 = 5 := by decide +kernel
  have a6 : lastK asksL (kwA 6) 6 = 6 := by decide +kernel
  have nn : numV [] = 0 := rfl
  rcases kinds12 h1 h2 with e | e | e | e | e | e | e | e | e | e | e | e
  · subst e
    rcases kinds6 (hk rfl).1 (hk rfl).2 with f | f | f | f | f | f
    all_goals
      subst f
      simp only [bareS, bareO, eqv, st0, reduceIte, Int.reduceEq, or_false] at he
      simp [lineW, askedW, word, candW, candA, eqv, st0] at *
      simp_all
  all_goals
    subst e
    simp only [bareS, eqv, st0, reduceIte, Int.reduceEq, or_false, or_true, false_or, true_or] at he
  case inr.inr.inr.inr.inr.inr.inl =>
    by_cases hfa : fa = []
    · subst hfa
      simp [lineW, word, candW, eqv, st0, fatesV] at *
      simp_all
    · have nf := fatesV_fates hx hfa
      simp [lineW, word, candW, eqv, st0, hfa] at *
      simp_all
  all_goals
    simp [lineW, word, candW, eqv, st0] at *
    simp_all
end Go.Proofs.YtpbjkfomdindnaaGreatDoor.Sc
