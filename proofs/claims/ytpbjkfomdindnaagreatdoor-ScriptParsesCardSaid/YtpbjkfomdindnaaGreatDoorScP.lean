/-
  Plain lists of bytes: words, numerals, digits of base 16; a step as its words, and words as a step. It names no program.
-/
import Derived.Lib.SplitLaws
import Derived.Lib.Join
import Derived.Lib.ItoaNum
import Derived.Lib.AtoiAll
import Derived.Lib.Bytealg
import Derived.Lib.Repeat
set_option linter.unusedSimpArgs false
set_option linter.unusedVariables false
namespace Go.Proofs.YtpbjkfomdindnaaGreatDoor.Sc
open Go

abbrev Bs := List UInt8

/-! ### A text cut at a byte -/
def splitC (c : UInt8) : Bs → List Bs
  | [] => [[]]
  | b :: l => if b = c then [] :: splitC c l else match splitC c l with
    | [] => [[b]]
    | w :: r => (b :: w) :: r
theorem splitC_ne (c : UInt8) : ∀ l : Bs, splitC c l ≠ []
  | [] => by simp [splitC]
  | b :: l => by
    unfold splitC
    split
    · simp
    · split <;> simp
theorem splitC_none {c : UInt8} : ∀ {l : Bs}, c ∉ l → splitC c l = [l]
  | [], _ => rfl
  | b :: l, h => by
    have h1 : b ≠ c := fun e => h (by simp [e])
    have h2 : c ∉ l := fun e => h (by simp [e])
    rw [splitC, if_neg h1, splitC_none h2]
theorem splitC_hit {c : UInt8} : ∀ {x : Bs} (y : Bs), c ∉ x → splitC c (x ++ c :: y) = x :: splitC c y
  | [], y, _ => by simp [splitC]
  | b :: x, y, h => by
    have h1 : b ≠ c := fun e => h (by simp [e])
    have h2 : c ∉ x := fun e => h (by simp [e])
    rw [List.cons_append, splitC, if_neg h1, splitC_hit y h2]
theorem index_ge (c : UInt8) : ∀ l : Bs, -1 ≤ Lib.index l [c]
  | [] => by simp [Lib.index]
  | b :: l => by
    have := index_ge c l
    unfold Lib.index
    split
    · decide
    · split
      · decide
      · omega
theorem index_cons (c b : UInt8) (l : Bs) : Lib.index (b :: l) [c] = if c = b then 0 else if Lib.index l [c] = -1 then -1 else Lib.index l [c] + 1 := by
  conv => lhs; unfold Lib.index
  have hp : [c].isPrefixOf (b :: l) = (c == b) := by simp [List.isPrefixOf]
  rw [hp]
  by_cases h : c = b
  · simp [h]
  · by_cases h2 : Lib.index l [c] = -1
    · simp [h, h2]
    · simp [h, h2]
theorem index_none {c : UInt8} : ∀ {s : Bs}, Lib.index s [c] = -1 → c ∉ s
  | [], _ => by simp
  | b :: l, h => by
    have hg := index_ge c l
    rw [index_cons] at h
    by_cases hc : c = b
    · rw [if_pos hc] at h; omega
    · rw [if_neg hc] at h
      by_cases h2 : Lib.index l [c] = -1
      · have := index_none h2
        simp [hc, this]
      · rw [if_neg h2] at h; omega
theorem index_some {c : UInt8} : ∀ {s : Bs} {i : Nat}, Lib.index s [c] = i → c ∉ s.take i ∧ s.drop i = c :: s.drop (i + 1)
  | [], i, h => by simp [Lib.index] at h
  | b :: l, i, h => by
    have hg := index_ge c l
    rw [index_cons] at h
    by_cases hc : c = b
    · rw [if_pos hc] at h
      have : i = 0 := by omega
      subst this
      simp [hc]
    · rw [if_neg hc] at h
      by_cases h2 : Lib.index l [c] = -1
      · rw [if_pos h2] at h; omega
      · rw [if_neg h2] at h
        obtain ⟨j, rfl⟩ : ∃ j, i = j + 1 := ⟨i - 1, by omega⟩
        have h1 := index_some (c := c) (s := l) (i := j) (by omega)
        refine ⟨?_, by simpa using h1.2⟩
        rw [List.take_succ_cons]
        intro hm
        rcases List.mem_cons.1 hm with e | e
        · exact hc e
        · exact h1.1 e
theorem splitK_C {c : UInt8} : ∀ (n : Nat) (s : Bs), s.length ≤ n → Lib.splitK [c] 0 (s.count c) s = splitC c s
  | n, s, hn => by
    by_cases hm : c ∈ s
    · have hi : Lib.index s [c] ≠ -1 := fun e => index_none e hm
      obtain ⟨i, he⟩ : ∃ i : Nat, Lib.index s [c] = i := ⟨(Lib.index s [c]).toNat, by have := index_ge c s; omega⟩
      obtain ⟨h1, h2⟩ := index_some he
      have hs : s = s.take i ++ c :: s.drop (i + 1) := by rw [← h2, List.take_append_drop]
      have hc : s.count c = (s.drop (i + 1)).count c + 1 := by
        have := congrArg (List.count c) hs
        rw [List.count_append, List.count_eq_zero_of_not_mem h1, List.count_cons_self, Nat.zero_add] at this
        exact this
      have hlt : i < s.length := by
        rcases Nat.lt_or_ge i s.length with h | h
        · exact h
        · rw [List.drop_eq_nil_of_le h] at h2; cases h2
      match n, hn with
      | 0, hn => omega
      | n + 1, hn =>
        have hb : (Lib.index s [c] == -1) = false := by simpa using hi
        rw [hc, Lib.splitK, hb]
        simp only [Bool.false_eq_true, if_false, List.length_singleton]
        have e1 : (Lib.index s [c]).toNat = i := by omega
        rw [e1, Nat.add_zero, splitK_C n (s.drop (i + 1)) (by rw [List.length_drop]; omega)]
        conv => rhs; rw [hs]
        rw [splitC_hit _ h1]
    · rw [List.count_eq_zero_of_not_mem hm, splitC_none hm]
      rfl
/-- strings.Split at one byte. -/
theorem split_C (c : UInt8) (s : Bs) : Lib.split s [c] = splitC c s := by
  unfold Lib.split
  rw [Lib.count_one]
  exact splitK_C _ s (Nat.le_refl _)
def snocL (b : UInt8) : List Bs → List Bs
  | [] => [[b]]
  | [w] => [w ++ [b]]
  | w :: r => w :: snocL b r
theorem snocL_ne (b : UInt8) : ∀ l, snocL b l ≠ []
  | [] => by simp [snocL]
  | [w] => by simp [snocL]
  | w :: v :: r => by simp [snocL]
theorem snocL_eq (b : UInt8) : ∀ (x : List Bs) (w : Bs), snocL b (x ++ [w]) = x ++ [w ++ [b]]
  | [], w => rfl
  | [y], w => rfl
  | y :: z :: x, w => by
    have := snocL_eq b (z :: x) w
    simp only [List.cons_append] at this ⊢
    rw [snocL]
    · rw [this]
    · simp
theorem splitC_snoc (c b : UInt8) : ∀ l : Bs, splitC c (l ++ [b]) = if b = c then splitC c l ++ [[]] else snocL b (splitC c l)
  | [] => by
    by_cases h : b = c
    · simp [splitC, h]
    · simp [splitC, h, snocL]
  | a :: l => by
    have ih := splitC_snoc c b l
    by_cases ha : a = c
    · rw [List.cons_append, splitC, if_pos ha, ih, splitC, if_pos ha]
      by_cases hb : b = c
      · simp [hb]
      · rw [if_neg hb, if_neg hb]
        have := splitC_ne c l
        cases hl : splitC c l with
        | nil => exact absurd hl this
        | cons w r => rfl
    · rw [List.cons_append, splitC, if_neg ha, ih, splitC, if_neg ha]
      have hne := splitC_ne c l
      by_cases hb : b = c
      · simp only [hb, if_true]
        cases hl : splitC c l with
        | nil => exact absurd hl hne
        | cons w r => simp
      · simp only [if_neg hb]
        cases hl : splitC c l with
        | nil => exact absurd hl hne
        | cons w r =>
          cases r with
          | nil => rfl
          | cons v r =>
            have : snocL b (w :: v :: r) = w :: snocL b (v :: r) := by rw [snocL]; simp
            have h2 : snocL b ((a :: w) :: v :: r) = (a :: w) :: snocL b (v :: r) := by rw [snocL]; simp
            simp only [this, h2]
/-- Words with one byte between two. -/
def joinC (c : UInt8) : List Bs → Bs
  | [] => []
  | [w] => w
  | w :: r => w ++ c :: joinC c r
theorem joinC_cons {c : UInt8} (w : Bs) {r : List Bs} (h : r ≠ []) : joinC c (w :: r) = w ++ c :: joinC c r := by
  cases r with
  | nil => exact absurd rfl h
  | cons v r => rfl
theorem join_C (c : UInt8) : ∀ W : List Bs, Lib.join W [c] = joinC c W
  | [] => rfl
  | [w] => by rw [Lib.join_one]; rfl
  | w :: v :: r => by
    have ih := join_C c (v :: r)
    rw [joinC_cons w (by simp), ← ih, Lib.join_cons, Lib.join_cons]
    simp [Lib.joinTail]
theorem join_split (c : UInt8) : ∀ l : Bs, joinC c (splitC c l) = l
  | [] => rfl
  | b :: l => by
    have ih := join_split c l
    have hne := splitC_ne c l
    by_cases h : b = c
    · rw [splitC, if_pos h, joinC_cons _ hne, ih, h]; rfl
    · rw [splitC, if_neg h]
      cases hl : splitC c l with
      | nil => exact absurd hl hne
      | cons w r =>
        rw [hl] at ih
        cases r with
        | nil => simp only [joinC] at ih ⊢; rw [ih]
        | cons v r => rw [joinC_cons _ (by simp)] at ih ⊢; rw [← ih]; rfl
theorem split_join (c : UInt8) : ∀ {W : List Bs}, W ≠ [] → (∀ w ∈ W, c ∉ w) → splitC c (joinC c W) = W
  | [], h, _ => absurd rfl h
  | [w], _, h => splitC_none (h w (by simp))
  | w :: v :: r, _, h => by
    rw [joinC_cons _ (by simp), splitC_hit _ (h w (by simp)), split_join c (by simp) fun x hx => h x (by simp [hx])]
theorem splitC_free {c : UInt8} : ∀ {l : Bs} {w : Bs}, w ∈ splitC c l → c ∉ w
  | [], w, h => by simp [splitC] at h; simp [h]
  | b :: l, w, h => by
    by_cases hb : b = c
    · rw [splitC, if_pos hb] at h
      rcases List.mem_cons.1 h with e | e
      · simp [e]
      · exact splitC_free e
    · rw [splitC, if_neg hb] at h
      cases hl : splitC c l with
      | nil => exact absurd hl (splitC_ne c l)
      | cons x r =>
        rw [hl] at h
        rcases List.mem_cons.1 h with e | e
        · subst e
          have := splitC_free (c := c) (l := l) (w := x) (by rw [hl]; simp)
          simp [this]
          exact fun e => hb e.symm
        · exact splitC_free (c := c) (l := l) (by rw [hl]; simp [e])
theorem splitC_len {c : UInt8} : ∀ {l : Bs} {w : Bs}, w ∈ splitC c l → w.length ≤ l.length
  | [], w, h => by simp [splitC] at h; simp [h]
  | b :: l, w, h => by
    by_cases hb : b = c
    · rw [splitC, if_pos hb] at h
      rcases List.mem_cons.1 h with e | e
      · simp [e]
      · have := splitC_len e; simp; omega
    · rw [splitC, if_neg hb] at h
      cases hl : splitC c l with
      | nil => exact absurd hl (splitC_ne c l)
      | cons x r =>
        rw [hl] at h
        rcases List.mem_cons.1 h with e | e
        · subst e
          have := splitC_len (c := c) (l := l) (w := x) (by rw [hl]; simp)
          simp; omega
        · have := splitC_len (c := c) (l := l) (w := w) (by rw [hl]; simp [e]); simp; omega
theorem splitC_count (c : UInt8) : ∀ l : Bs, (splitC c l).length = l.count c + 1
  | [] => rfl
  | b :: l => by
    have ih := splitC_count c l
    by_cases h : b = c
    · rw [splitC, if_pos h, List.length_cons, ih, h, List.count_cons_self]
    · rw [splitC, if_neg h]
      have e : (b :: l).count c = l.count c := List.count_cons_of_ne h
      rw [e, ← ih]
      cases hl : splitC c l with
      | nil => exact absurd hl (splitC_ne c l)
      | cons w r => rfl

/-! ### Numerals -/
/-- A number of a line. -/
def okN (n : Int) : Prop := 0 ≤ n ∧ n < 1000000000
instance (n : Int) : Decidable (okN n) := inferInstanceAs (Decidable (_ ∧ _))
def numW (w : Bs) : Option Int := match Lib.atoiAll w with
  | .ok n => if okN n ∧ Lib.itoa n = w then some n else none
  | _ => none
theorem numW_itoa {w : Bs} {n : Int} (h : numW w = some n) : okN n ∧ Lib.itoa n = w := by
  unfold numW at h
  split at h
  · split at h
    · rename_i hk
      cases h; exact hk
    · cases h
  · cases h
theorem dec_digit : ∀ (u : Nat) (b : UInt8), b ∈ Lib.decDigits u → 48 ≤ b.toNat ∧ b.toNat ≤ 57 := by
  intro u b hb
  rw [Lib.decDigits_eq] at hb
  obtain ⟨t, _, rfl⟩ := List.mem_map.1 hb
  unfold Lib.dg
  have : u / 10 ^ (Lib.nDigits u - 1 - t) % 10 < 10 := Nat.mod_lt _ (by decide)
  generalize u / 10 ^ (Lib.nDigits u - 1 - t) % 10 = d at this
  have : (UInt8.ofNat (48 + d)).toNat = 48 + d := by
    rw [UInt8.toNat_ofNat']; omega
  omega
/-- Digits read from the left. -/
def decV (acc : Nat) (l : Bs) : Nat := l.foldl (fun a b => a * 10 + (b.toNat - 48)) acc
theorem decV_nil (acc : Nat) : decV acc [] = acc := rfl
theorem decV_cons (acc : Nat) (b : UInt8) (l : Bs) : decV acc (b :: l) = decV (acc * 10 + (b.toNat - 48)) l := by unfold decV; rw [List.foldl_cons]
theorem decV_append (acc : Nat) (l m : Bs) : decV acc (l ++ m) = decV (decV acc l) m := List.foldl_append
theorem decDigits_small {u : Nat} (h : u < 10) : Lib.decDigits u = [UInt8.ofNat (48 + u)] := Lib.decDigits_one h
theorem decDigits_big {u : Nat} (h : ¬ u < 10) : Lib.decDigits u = Lib.decDigits (u / 10) ++ [UInt8.ofNat (48 + u % 10)] := by
  rw [Lib.decDigits, dif_neg h]
theorem decV_dec : ∀ (n u : Nat), u ≤ n → decV 0 (Lib.decDigits u) = u
  | n, u, hn => by
    by_cases h : u < 10
    · rw [decDigits_small h]
      have : (UInt8.ofNat (48 + u)).toNat = 48 + u := by rw [UInt8.toNat_ofNat']; omega
      simp only [decV_cons, decV_nil, this]; omega
    · match n with
      | 0 => omega
      | n + 1 =>
        rw [decDigits_big h, decV_append, decV_dec n (u / 10) (by omega)]
        have : (UInt8.ofNat (48 + u % 10)).toNat = 48 + u % 10 := by rw [UInt8.toNat_ofNat']; omega
        simp only [decV_cons, decV_nil, this]; omega
theorem decV_ge (acc : Nat) : ∀ l : Bs, acc ≤ decV acc l
  | [] => Nat.le_refl _
  | b :: l => by
    have := decV_ge (acc * 10 + (b.toNat - 48)) l
    rw [decV_cons]; omega
theorem parseUint_V : ∀ (l : Bs) (acc : Nat), (∀ b ∈ l, 48 ≤ b.toNat ∧ b.toNat ≤ 57) → decV acc l < 1000000000000000000 → Lib.parseUint10 acc l = .ok (decV acc l)
  | [], acc, _, _ => rfl
  | b :: l, acc, h, hv => by
    have hb := h b (by simp)
    have hg := decV_ge (acc * 10 + (b.toNat - 48)) l
    rw [decV_cons] at hv
    rw [Lib.parseUint10, if_pos hb, if_neg (by omega), if_neg (by omega), parseUint_V l _ (fun x hx => h x (by simp [hx])) hv, decV_cons]
theorem itoa_nat {n : Int} (h : 0 ≤ n) : Lib.itoa n = Lib.decDigits n.toNat := by unfold Lib.itoa; rw [if_neg (by omega)]
theorem dec_ne (u : Nat) : Lib.decDigits u ≠ [] := fun e => by
  have := Lib.decDigits_length u
  rw [e] at this
  have := Lib.nDigits_pos u
  simp at *; omega
theorem atoi_dec {u : Nat} (hu : u < 1000000000) : Lib.atoiAll (Lib.decDigits u) = .ok (u : Int) := by
  have hd := dec_digit u
  have hv := decV_dec u u (Nat.le_refl _)
  cases hl : Lib.decDigits u with
  | nil => exact absurd hl (dec_ne u)
  | cons b l =>
    rw [hl] at hd hv
    have hb := hd b (by simp)
    have hp : Lib.parseMag (b :: l) = .ok u := by
      unfold Lib.parseMag
      rw [if_neg (by simp), parseUint_V _ _ hd (by rw [hv]; omega), hv]
    unfold Lib.atoiAll
    simp only
    rw [if_neg (by omega), hp]
    simp only
    rw [if_neg (by omega), if_neg (by omega), if_neg (by omega)]
theorem numW_of {n : Int} (h : okN n) : numW (Lib.itoa n) = some n := by
  obtain ⟨h0, h1⟩ := h
  unfold numW
  have e := itoa_nat h0
  have := atoi_dec (u := n.toNat) (by omega)
  rw [e, this]
  have e2 : ((n.toNat : Nat) : Int) = n := by omega
  simp only [e2]
  rw [if_pos ⟨⟨h0, h1⟩, e⟩]
theorem dec_len {u : Nat} (h : u < 1000000000) : (Lib.decDigits u).length ≤ 9 := by
  rw [Lib.decDigits_length]
  by_cases h0 : u < 10
  · rw [Lib.nDigits_small h0]; omega
  · obtain ⟨k, hk1, hk2⟩ : ∃ k, 10 ^ k ≤ u ∧ u < 10 ^ (k + 1) := by
      have := Lib.lt_pow_nDigits u
      refine ⟨Lib.nDigits u - 1, ?_, by rw [Nat.sub_add_cancel (Lib.nDigits_pos u)]; exact this⟩
      have key : ∀ n u : Nat, u ≤ n → 1 ≤ u → 10 ^ (Lib.nDigits u - 1) ≤ u := by
        intro n
        induction n with
        | zero => intro u h1 h2; omega
        | succ n ih =>
          intro u h1 h2
          by_cases h : u < 10
          · rw [Lib.nDigits_small h]; exact h2
          · rw [Lib.nDigits_big h, Nat.add_sub_cancel]
            have h3 := ih (u / 10) (by omega) (by omega)
            have h4 := Lib.nDigits_pos (u / 10)
            obtain ⟨m, hm⟩ : ∃ m, Lib.nDigits (u / 10) = m + 1 := ⟨_, (Nat.sub_add_cancel h4).symm⟩
            rw [hm] at h3 ⊢
            rw [Nat.add_sub_cancel] at h3
            rw [Nat.pow_succ]; omega
      exact key u u (Nat.le_refl _) (by omega)
    rw [Lib.nDigits_unique k u hk1 hk2]
    rcases Nat.lt_or_ge k 9 with h9 | h9
    · omega
    · have := Nat.pow_le_pow_right (n := 10) (by omega) h9
      have : (10 : Nat) ^ 9 = 1000000000 := by decide
      omega
theorem itoa_free {n : Int} (h : 0 ≤ n) {c : UInt8} (hc : c.toNat < 48 ∨ 57 < c.toNat) : c ∉ Lib.itoa n := fun hm => by
  rw [itoa_nat h] at hm
  have := dec_digit _ _ hm
  omega
/-- The document's reading of digits. -/
def numV (w : Bs) : Int := go 0 0 w
where
  go (k : Nat) (n : Int) : Bs → Int
    | [] => n
    | b :: l => if k < 10 then if b.toNat < 48 ∨ 57 < b.toNat then 0 else go (k + 1) (10 * n + ((b.toNat : Int) - 48)) l else n
theorem numV_go : ∀ (l : Bs) (k acc : Nat), (∀ b ∈ l, 48 ≤ b.toNat ∧ b.toNat ≤ 57) → k + l.length ≤ 10 → numV.go k acc l = decV acc l
  | [], _, _, _, _ => rfl
  | b :: l, k, acc, h, hk => by
    have hb := h b (by simp)
    simp only [List.length_cons] at hk
    rw [numV.go, if_pos (by omega), if_neg (by omega), decV_cons]
    have e : 10 * (acc : Int) + ((b.toNat : Int) - 48) = ((acc * 10 + (b.toNat - 48) : Nat) : Int) := by omega
    rw [e, numV_go l _ _ (fun x hx => h x (by simp [hx])) (by omega)]
theorem numV_itoa {n : Int} (h : okN n) : numV (Lib.itoa n) = n := by
  rw [itoa_nat h.1]
  show numV.go 0 ((0 : Nat) : Int) _ = n
  rw [numV_go _ 0 0 (dec_digit _) (by have := dec_len (u := n.toNat) (by have := h.2; omega); omega), decV_dec _ _ (Nat.le_refl _)]
  have := h.1
  omega
theorem numV_nil : numV [] = 0 := rfl

/-! ### Digits of base 16 -/
def digS : Bs := [48, 49, 50, 51, 52, 53, 54, 55, 56, 57, 97, 98, 99, 100, 101, 102]
def hexd (k : Nat) : UInt8 := digS.getD k 0
def okB8 (x : Int) : Prop := 0 ≤ x ∧ x < 256
def hexL : List Int → Bs
  | [] => []
  | x :: l => hexd (x.toNat / 16) :: hexd (x.toNat % 16) :: hexL l
theorem hexL_append : ∀ l m : List Int, hexL (l ++ m) = hexL l ++ hexL m
  | [], _ => rfl
  | x :: l, m => by rw [List.cons_append, hexL, hexL_append l m]; rfl
theorem hexL_len : ∀ l : List Int, (hexL l).length = 2 * l.length
  | [] => rfl
  | x :: l => by rw [hexL]; simp [hexL_len l]; omega
/-- A digit's value. -/
def hexI (c : UInt8) : Int := Lib.indexByte digS c
theorem hexI_fin : ∀ k : Fin 16, hexI (hexd k.val) = (k.val : Int) := by decide +kernel
theorem hexI_of {k : Nat} (h : k < 16) : hexI (hexd k) = k := hexI_fin ⟨k, h⟩
theorem indexByte_get : ∀ (l : Bs) (c : UInt8) (i : Nat), Lib.indexByte l c = i → l[i]? = some c
  | [], c, i, h => by simp [Lib.indexByte] at h
  | b :: l, c, i, h => by
    unfold Lib.indexByte at h
    split at h
    · rename_i e
      have e : b = c := by simpa using e
      have : i = 0 := by omega
      subst this; simp [e]
    · split at h
      · omega
      · rename_i h2
        have := Lib.indexByte_ge l c
        have h2 : Lib.indexByte l c ≠ -1 := by simpa using h2
        obtain ⟨j, rfl⟩ : ∃ j, i = j + 1 := ⟨i - 1, by omega⟩
        rw [List.getElem?_cons_succ]
        exact indexByte_get l c j (by omega)
theorem hexI_back {c : UInt8} (h : 0 ≤ hexI c) : hexI c < 16 ∧ hexd (hexI c).toNat = c := by
  have h1 := indexByte_get digS c (hexI c).toNat (by unfold hexI at *; omega)
  obtain ⟨hl, h2⟩ := List.getElem?_eq_some_iff.1 h1
  have : digS.length = 16 := rfl
  refine ⟨by omega, ?_⟩
  unfold hexd
  rw [List.getD_eq_getElem?_getD, h1]; rfl
def unhexW : Bs → Option (List Int)
  | [] => some []
  | [_] => none
  | a :: b :: l => if 0 ≤ hexI a ∧ 0 ≤ hexI b then (unhexW l).map (fun m => (hexI a * 16 + hexI b) :: m) else none
theorem unhex_hex : ∀ {l : List Int}, (∀ x ∈ l, okB8 x) → unhexW (hexL l) = some l
  | [], _ => rfl
  | x :: l, h => by
    have hx := h x (by simp)
    unfold okB8 at hx
    have e1 := hexI_of (k := x.toNat / 16) (by omega)
    have e2 := hexI_of (k := x.toNat % 16) (by omega)
    rw [hexL, unhexW, e1, e2, if_pos ⟨by omega, by omega⟩, unhex_hex fun y hy => h y (by simp [hy])]
    simp only [Option.map_some, Option.some.injEq, List.cons.injEq, and_true]
    omega
theorem hex_unhex : ∀ (w : Bs) {l : List Int}, unhexW w = some l → hexL l = w ∧ ∀ x ∈ l, okB8 x
  | [], l, h => by cases h; exact ⟨rfl, by simp⟩
  | [_], l, h => by cases h
  | a :: b :: w, l, h => by
    rw [unhexW] at h
    split at h
    · rename_i hk
      obtain ⟨m, hm, rfl⟩ := Option.map_eq_some_iff.1 h
      obtain ⟨h1, h2⟩ := hex_unhex w hm
      obtain ⟨ha1, ha2⟩ := hexI_back hk.1
      obtain ⟨hb1, hb2⟩ := hexI_back hk.2
      refine ⟨?_, fun x hx => ?_⟩
      · rw [hexL, h1]
        have e1 : (hexI a * 16 + hexI b).toNat / 16 = (hexI a).toNat := by omega
        have e2 : (hexI a * 16 + hexI b).toNat % 16 = (hexI b).toNat := by omega
        rw [e1, e2, ha2, hb2]
      · rcases List.mem_cons.1 hx with e | e
        · unfold okB8; subst e; omega
        · exact h2 x e
    · cases h
theorem digS_no : ∀ k : Nat, hexd k ≠ 32 ∧ hexd k ≠ 44 ∧ hexd k ≠ 45 ∧ hexd k ≠ 10 := by
  intro k
  by_cases h : k < 16
  · have : ∀ k : Fin 16, hexd k.val ≠ 32 ∧ hexd k.val ≠ 44 ∧ hexd k.val ≠ 45 ∧ hexd k.val ≠ 10 := by decide +kernel
    exact this ⟨k, h⟩
  · have e : hexd k = 0 := by
      unfold hexd
      rw [List.getD_eq_getElem?_getD, List.getElem?_eq_none (by show 16 ≤ k; omega)]; rfl
    rw [e]; decide
theorem hexL_free : ∀ (l : List Int) (c : UInt8), c = 32 ∨ c = 44 ∨ c = 45 ∨ c = 10 → c ∉ hexL l
  | [], _, _ => by simp [hexL]
  | x :: l, c, hc => by
    have h1 := digS_no (x.toNat / 16)
    have h2 := digS_no (x.toNat % 16)
    rw [hexL]
    intro hm
    rcases List.mem_cons.1 hm with e | hm
    · subst e; rcases hc with e | e | e | e <;> simp [e] at h1
    · rcases List.mem_cons.1 hm with e | hm
      · subst e; rcases hc with e | e | e | e <;> simp [e] at h2
      · exact hexL_free l c hc hm
/-- Bytes of a line: digits, or '-' for none. -/
def dashL (l : List Int) : Bs := if l = [] then [45] else hexL l
def dataW (mx : Nat) (w : Bs) : Option (List Int) := if w = [45] then some [] else match unhexW w with
  | some l => if 0 < l.length ∧ l.length ≤ mx then some l else none
  | none => none
theorem dataW_of {mx : Nat} {l : List Int} (hl : l.length ≤ mx) (h : ∀ x ∈ l, okB8 x) : dataW mx (dashL l) = some l := by
  unfold dataW dashL
  by_cases e : l = []
  · rw [if_pos e, if_pos rfl, e]
  · have hne : hexL l ≠ [45] := fun e2 => by
      have := hexL_free l 45 (by simp)
      rw [e2] at this; simp at this
    rw [if_neg e, if_neg hne, unhex_hex h]
    have : l.length ≠ 0 := fun e2 => e (List.eq_nil_of_length_eq_zero e2)
    simp only
    rw [if_pos ⟨by omega, hl⟩]
theorem dataW_back {mx : Nat} {w : Bs} {l : List Int} (h : dataW mx w = some l) : dashL l = w ∧ l.length ≤ mx ∧ ∀ x ∈ l, okB8 x := by
  unfold dataW at h
  split at h
  · rename_i e
    cases h
    exact ⟨by rw [e]; rfl, by simp, by simp⟩
  · split at h
    · rename_i m hm
      split at h
      · rename_i hk
        cases h
        obtain ⟨h1, h2⟩ := hex_unhex w hm
        refine ⟨?_, hk.2, h2⟩
        unfold dashL
        rw [if_neg (fun e => by rw [e] at hk; simp at hk), h1]
      · cases h
    · cases h

/-! ### A float64's bits -/
/-- Bytes, the highest first, as a number. -/
def beV (acc : Nat) : List Int → Nat
  | [] => acc
  | x :: l => beV (acc * 256 + x.toNat) l
def beL : Nat → Nat → List Int
  | 0, _ => []
  | k + 1, n => beL k (n / 256) ++ [((n % 256 : Nat) : Int)]
theorem beL_len : ∀ k n, (beL k n).length = k
  | 0, _ => rfl
  | k + 1, n => by rw [beL]; simp [beL_len k]
theorem beL_ok : ∀ k n, ∀ x ∈ beL k n, okB8 x
  | 0, _, _, h => by simp [beL] at h
  | k + 1, n, x, h => by
    rw [beL] at h
    rcases List.mem_append.1 h with e | e
    · exact beL_ok k _ x e
    · simp at e; subst e; unfold okB8; omega
theorem beV_append (acc : Nat) : ∀ (l m : List Int), beV acc (l ++ m) = beV (beV acc l) m
  | [], _ => rfl
  | b :: l, m => by rw [List.cons_append, beV, beV_append _ l m]; rfl
theorem beV_beL : ∀ (k n : Nat), n < 256 ^ k → beV 0 (beL k n) = n
  | 0, n, h => by simp at h; subst h; rfl
  | k + 1, n, h => by
    rw [beL, beV_append, beV_beL k (n / 256) (by rw [Nat.pow_succ] at h; omega)]
    simp only [beV, Int.toNat_natCast]; omega
theorem beV_lt : ∀ (l : List Int) (acc : Nat), (∀ x ∈ l, okB8 x) → beV acc l < (acc + 1) * 256 ^ l.length
  | [], acc, _ => by simp [beV]
  | x :: l, acc, h => by
    have hx := h x (by simp)
    unfold okB8 at hx
    have := beV_lt l (acc * 256 + x.toNat) fun y hy => h y (by simp [hy])
    rw [beV, List.length_cons, Nat.pow_succ]
    refine Nat.lt_of_lt_of_le this ?_
    rw [Nat.mul_comm (256 ^ l.length), ← Nat.mul_assoc]
    exact Nat.mul_le_mul_right _ (by omega)
theorem beL_beV : ∀ (k : Nat) (l : List Int), l.length = k → (∀ x ∈ l, okB8 x) → beL k (beV 0 l) = l
  | 0, l, h, _ => by rw [List.eq_nil_of_length_eq_zero h]; rfl
  | k + 1, l, h, hb => by
    obtain ⟨m, x, rfl⟩ : ∃ m x, l = m ++ [x] := by
      have hne : l ≠ [] := fun e => by rw [e] at h; simp at h
      exact ⟨l.dropLast, l.getLast hne, (List.dropLast_concat_getLast hne).symm⟩
    have hx := hb x (by simp)
    unfold okB8 at hx
    have e1 : beV 0 (m ++ [x]) = beV 0 m * 256 + x.toNat := by rw [beV_append]; rfl
    have e2 : (beV 0 m * 256 + x.toNat) / 256 = beV 0 m := by omega
    have e3 : (beV 0 m * 256 + x.toNat) % 256 = x.toNat := by omega
    rw [e1, beL, e2, e3, beL_beV k m (by simpa using h) fun y hy => hb y (by simp [hy])]
    congr 2
    omega
/-- No number. -/
def nanB (n : Nat) : Bool := decide (9218868437227405312 < n % 9223372036854775808)
def theNan : Nat := 9221120237041090561
def canB (n : Nat) : Nat := if nanB n then theNan else n
def sameB (x y : Nat) : Bool := x == y || nanB x && nanB y
theorem sameB_iff {x y : Nat} : sameB x y = true ↔ canB x = canB y := by
  have hn : nanB theNan = true := by decide
  unfold sameB canB
  by_cases hx : nanB x = true <;> by_cases hy : nanB y = true
  · simp [hx, hy]
  · have : x ≠ y := fun e => hy (by rw [← e]; exact hx)
    have h2 : theNan ≠ y := fun e => hy (by rw [← e]; exact hn)
    simp [hx, hy, this, h2]
  · have : x ≠ y := fun e => hx (by rw [e]; exact hy)
    have h2 : x ≠ theNan := fun e => hx (by rw [e]; exact hn)
    simp [hx, hy, this, h2]
  · simp [hx, hy]
def bitsL (n : Nat) : Bs := hexL (beL 8 (canB n))
def bitsW (w : Bs) : Option Nat := match unhexW w with
  | some l => if l.length = 8 ∧ (nanB (beV 0 l) = true → beV 0 l = theNan) then some (beV 0 l) else none
  | none => none
theorem canB_lt {n : Nat} (h : n < 18446744073709551616) : canB n < 18446744073709551616 := by
  unfold canB; split
  · decide
  · exact h
theorem canB_can (n : Nat) : nanB (canB n) = true → canB n = theNan := by
  unfold canB
  by_cases h : nanB n = true
  · rw [if_pos h]; intro _; rfl
  · rw [if_neg h]; intro h2; exact absurd h2 h
theorem canB_idem (n : Nat) : canB (canB n) = canB n := by
  unfold canB
  by_cases h : nanB n = true
  · rw [if_pos h]
    have hn : nanB theNan = true := by decide
    rw [if_pos hn]
  · rw [if_neg h, if_neg h]
theorem bitsW_of {n : Nat} (h : n < 18446744073709551616) : bitsW (bitsL n) = some (canB n) := by
  unfold bitsW bitsL
  rw [unhex_hex (beL_ok 8 _)]
  have e0 : (256 : Nat) ^ 8 = 18446744073709551616 := by decide
  have e : beV 0 (beL 8 (canB n)) = canB n := beV_beL 8 _ (by rw [e0]; exact canB_lt h)
  simp only [e]
  rw [if_pos ⟨beL_len 8 _, canB_can n⟩]
theorem bitsW_back {w : Bs} {n : Nat} (h : bitsW w = some n) : bitsL n = w ∧ n < 18446744073709551616 := by
  unfold bitsW at h
  split at h
  · rename_i l hl
    split at h
    · rename_i hk
      cases h
      obtain ⟨h1, h2⟩ := hex_unhex w hl
      have h3 : canB (beV 0 l) = beV 0 l := by
        unfold canB
        split
        · rename_i hn; exact (hk.2 hn).symm
        · rfl
      refine ⟨?_, ?_⟩
      · unfold bitsL
        rw [h3, beL_beV 8 l hk.1 h2, h1]
      · have := beV_lt l 0 h2
        rw [hk.1] at this
        have e : (256 : Nat) ^ 8 = 18446744073709551616 := by decide
        omega
    · cases h
  · cases h

/-! ### Fates -/
def allNum : List Bs → Option (List Int)
  | [] => some []
  | w :: r => match numW w with
    | none => none
    | some n => (allNum r).map (n :: ·)
def fatesL (l : List Int) : Bs := joinC 44 (l.map Lib.itoa)
def fatesW (w : Bs) : Option (List Int) := match allNum (splitC 44 w) with
  | some l => if l.length ≤ 16 then some l else none
  | none => none
theorem allNum_of : ∀ {l : List Int}, (∀ x ∈ l, okN x) → allNum (l.map Lib.itoa) = some l
  | [], _ => rfl
  | x :: l, h => by rw [List.map_cons, allNum, numW_of (h x (by simp)), allNum_of fun y hy => h y (by simp [hy])]; rfl
theorem allNum_back : ∀ {W : List Bs} {l : List Int}, allNum W = some l → l.map Lib.itoa = W ∧ ∀ x ∈ l, okN x
  | [], l, h => by cases h; exact ⟨rfl, by simp⟩
  | w :: W, l, h => by
    rw [allNum] at h
    split at h
    · cases h
    · rename_i n hn
      obtain ⟨m, hm, rfl⟩ := Option.map_eq_some_iff.1 h
      obtain ⟨h1, h2⟩ := allNum_back hm
      obtain ⟨h3, h4⟩ := numW_itoa hn
      refine ⟨by rw [List.map_cons, h1, h4], fun x hx => ?_⟩
      rcases List.mem_cons.1 hx with e | e
      · rw [e]; exact h3
      · exact h2 x e
theorem fatesW_of {l : List Int} (hne : l ≠ []) (hl : l.length ≤ 16) (h : ∀ x ∈ l, okN x) : fatesW (fatesL l) = some l := by
  unfold fatesW fatesL
  rw [split_join 44 (by simpa using hne) (fun w hw => by
    obtain ⟨x, hx, rfl⟩ := List.mem_map.1 hw
    exact itoa_free (h x hx).1 (by decide)), allNum_of h]
  simp only
  rw [if_pos hl]
theorem fatesW_back {w : Bs} {l : List Int} (h : fatesW w = some l) : fatesL l = w ∧ l ≠ [] ∧ l.length ≤ 16 ∧ ∀ x ∈ l, okN x := by
  unfold fatesW at h
  split at h
  · rename_i m hm
    split at h
    · rename_i hk
      cases h
      obtain ⟨h1, h2⟩ := allNum_back hm
      refine ⟨by unfold fatesL; rw [h1, join_split], fun e => ?_, hk, h2⟩
      rw [e] at h1
      exact splitC_ne 44 w h1.symm
    · cases h
  · cases h
end Go.Proofs.YtpbjkfomdindnaaGreatDoor.Sc
