/-
  Each step that bytes are is plain, its line is short; lines put behind one another are read as they were. No program.
-/
import Derived.Test.YtpbjkfomdindnaaGreatDoorScD
import Derived.Lib.ItoaLen
set_option linter.unusedSimpArgs false
set_option linter.unusedVariables false
namespace Go.Proofs.YtpbjkfomdindnaaGreatDoor.Sc
open Go

/-- What a step out of bytes keeps to. -/
structure Small (s : St) : Prop where
  pl : Plain s
  wf : Wf s
  od : s.od.length ≤ 8
  da : s.da.length ≤ 8
  fa : s.fa.length ≤ 4
theorem okN_byte {x : Int} (h : okB8 x) : okN x := ⟨h.1, by have := h.2; omega⟩
theorem okN_mod {x : Int} (h : okB8 x) : okN (x % 8) := ⟨by omega, by omega⟩
theorem fatesAt_ok {B : List Int} (h : ∀ x ∈ B, okB8 x) (i n : Nat) : ∀ x ∈ fatesAt B i n, okN x := fun x hx => by
  obtain ⟨j, -, rfl⟩ := List.mem_map.1 hx
  have h1 := gB_ok h (i + 2 * j)
  have h2 := gB_ok h (i + 2 * j + 1)
  obtain ⟨a, b⟩ := h1
  obtain ⟨c, d⟩ := h2
  exact ⟨by omega, by omega⟩
theorem askD_small {B : List Int} (h : ∀ x ∈ B, okB8 x) {a : Int} (ha : okN a) (i : Nat) : Small (askD { st0 with kind := 1, a := a } B i).1 := by
  have hz := okN0
  have hk : 0 ≤ gB B i ∧ gB B i < 256 := gB_ok h i
  have hp := okN_byte (gB_ok h (i + 1))
  have hb := bytesAt_ok h (i + 3) (gB B (i + 2) % 9).toNat
  have hl := bytesAt_len B (i + 3) (gB B (i + 2) % 9).toNat
  have h8 := be8_lt h (i + 2)
  have hl2 : (gB B (i + 2) % 9).toNat ≤ 8 := by omega
  obtain ⟨k, hkk⟩ : ∃ k, gB B i % 6 + 1 = k := ⟨_, rfl⟩
  have hk2 : 1 ≤ k ∧ k ≤ 6 := by omega
  unfold askD
  rw [hkk]
  generalize bytesAt B (i + 3) (gB B (i + 2) % 9).toNat = D at hb hl ⊢
  generalize gB B (i + 1) = p at hp ⊢
  generalize beV 0 (bytesAt B (i + 2) 8) = n at h8 ⊢
  rcases kinds6 hk2.1 hk2.2 with e | e | e | e | e | e <;> subst e <;> simp only [reduceIte, Int.reduceEq]
  all_goals refine ⟨⟨by simp, by simp, ?_, ha, hz, ?_, ?_, by simp [st0], by simp [st0], by simp [st0]⟩, ⟨?_, by simp [st0], ?_⟩, ?_, by simp [st0], by simp [st0]⟩
  all_goals first | (simp [bareS, bareO, eqv, st0]; done) | (simp [st0]; done) | exact hp | exact hb | exact h8 | exact hz | (simp only; omega)
theorem stepD_small {B : List Int} (h : ∀ x ∈ B, okB8 x) (i : Nat) : Small (stepD B i).1 := by
  have hz := okN0
  have hk : 0 ≤ gB B i ∧ gB B i < 256 := gB_ok h i
  have ha := okN_byte (gB_ok h (i + 1))
  have ha8 := okN_mod (gB_ok h (i + 1))
  have hb2 := okN_byte (gB_ok h (i + 2))
  have hb := bytesAt_ok h (i + 4) (gB B (i + 3) % 9).toNat
  have hl := bytesAt_len B (i + 4) (gB B (i + 3) % 9).toNat
  have h8 := be8_lt h (i + 2)
  have hl2 : (gB B (i + 3) % 9).toNat ≤ 8 := by omega
  have hf := fatesAt_ok h (i + 3) (gB B (i + 2) % 5).toNat
  have hfl := fatesAt_len B (i + 3) (gB B (i + 2) % 5).toNat
  have hl3 : (gB B (i + 2) % 5).toNat ≤ 4 := by omega
  have hask := askD_small h ha8 (i + 2)
  obtain ⟨k, hkk⟩ : ∃ k, gB B i % 12 + 1 = k := ⟨_, rfl⟩
  have hk2 : 1 ≤ k ∧ k ≤ 12 := by omega
  unfold stepD
  rw [hkk]
  generalize bytesAt B (i + 4) (gB B (i + 3) % 9).toNat = D at hb hl ⊢
  generalize fatesAt B (i + 3) (gB B (i + 2) % 5).toNat = F at hf hfl ⊢
  generalize beV 0 (bytesAt B (i + 2) 8) = n at h8 ⊢
  rcases kinds12 hk2.1 hk2.2 with e | e | e | e | e | e | e | e | e | e | e | e <;> subst e <;> simp only [reduceIte, Int.reduceEq, or_false, or_true, false_or, true_or]
  case inl => exact hask
  all_goals refine ⟨⟨by simp, by simp, ?_, ?_, ?_, ?_, by simp [st0], ?_, ?_, ?_⟩, ⟨by simp [st0], ?_, ?_⟩, by simp [st0], ?_, ?_⟩
  all_goals first | (simp [bareS, eqv, st0]; done) | (simp [st0]; done) | exact ha | exact ha8 | exact hb2 | exact hb | exact hf | exact h8 | exact hz | (simp only; omega)
theorem decF_small {B : List Int} (h : ∀ x ∈ B, okB8 x) : ∀ (f i : Nat), ∀ s ∈ decF B f i, Small s
  | 0, _, s, hs => by cases hs
  | f + 1, i, s, hs => by
    rw [decF] at hs
    split at hs
    · rcases List.mem_cons.1 hs with e | e
      · rw [e]; exact stepD_small h i
      · exact decF_small h f _ s e
    · cases hs
theorem decode_small {B : List Int} (h : ∀ x ∈ B, okB8 x) : ∀ s ∈ decodeS B, Small s := decF_small h 1024 0
theorem askD_on (s : St) (B : List Int) (i : Nat) : i + 1 ≤ (askD s B i).2 := by
  unfold askD
  repeat' split
  all_goals simp only; omega
theorem stepD_on (B : List Int) (i : Nat) : i + 1 ≤ (stepD B i).2 := by
  unfold stepD
  split
  · exact Nat.le_trans (by omega) (askD_on _ B (i + 2))
  repeat' split
  all_goals simp only; omega
theorem decF_len (B : List Int) : ∀ f i : Nat, (decF B f i).length ≤ f ∧ (decF B f i).length ≤ B.length - i
  | 0, _ => ⟨Nat.le_refl _, Nat.zero_le _⟩
  | f + 1, i => by
    rw [decF]
    split
    · have := decF_len B f (stepD B i).2
      have := stepD_on B i
      simp only [List.length_cons]
      omega
    · simp
theorem decode_len (B : List Int) : (decodeS B).length ≤ 1024 ∧ (decodeS B).length ≤ B.length ∧ (B ≠ [] → decodeS B ≠ []) := by
  have := decF_len B 1024 0
  refine ⟨this.1, by unfold decodeS; omega, fun h => ?_⟩
  have : 0 < B.length := List.length_pos_iff.2 h
  unfold decodeS
  rw [decF, if_pos this]
  simp
theorem itoa_len9 {n : Int} (h : okN n) : (Lib.itoa n).length ≤ 9 := by
  rw [itoa_nat h.1]
  exact dec_len (by have := h.2; have := h.1; omega)
theorem join_le {c : UInt8} {M : Nat} : ∀ {W : List Bs}, (∀ w ∈ W, w.length ≤ M) → (joinC c W).length ≤ W.length * (M + 1)
  | [], _ => by simp [joinC]
  | [w], h => by have := h w (by simp); simp only [joinC, List.length_cons, List.length_nil]; omega
  | w :: v :: r, h => by
    have h1 := h w (by simp)
    have h2 := join_le (c := c) (W := v :: r) fun x hx => h x (by simp [hx])
    rw [joinC_cons _ (by simp), List.length_append, List.length_cons]
    simp only [List.length_cons] at h2 ⊢
    rw [Nat.add_mul (r.length + 1) 1, Nat.one_mul]
    omega
theorem kw_len : (∀ k : Fin 13, (kwS k.val).length ≤ 50) ∧ (∀ k : Fin 7, (kwA k.val).length ≤ 50) := by decide +kernel
theorem line_short {s : St} (h : Small s) : (lineS s).length ≤ 300 := by
  obtain ⟨⟨⟨h1, h2⟩, hk, hb, ha, hb2, hp, -, -, -, hx⟩, wf, ho, hd, hf⟩ := h
  have ia := itoa_len9 ha
  have ib := itoa_len9 hb2
  have ip := itoa_len9 hp
  have fo : (dashL s.od).length ≤ 50 := by unfold dashL; split <;> first | (simp; done) | (rw [hexL_len]; omega)
  have fd : (dashL s.da).length ≤ 50 := by unfold dashL; split <;> first | (simp; done) | (rw [hexL_len]; omega)
  have fb : (bitsL s.bt).length ≤ 50 := by unfold bitsL; rw [hexL_len, beL_len]; omega
  have ff : (fatesL s.fa).length ≤ 50 := by
    unfold fatesL
    have := join_le (c := 44) (M := 9) (W := s.fa.map Lib.itoa) fun w hw => by
      obtain ⟨x, hx2, rfl⟩ := List.mem_map.1 hw
      exact itoa_len9 (hx x hx2)
    rw [List.length_map] at this
    omega
  have hw : (∀ w ∈ lineW s, w.length ≤ 50) ∧ (lineW s).length ≤ 5 := by
    have k1 := kw_len.1 1; have k2 := kw_len.1 2; have k3 := kw_len.1 3; have k4 := kw_len.1 4; have k5 := kw_len.1 5; have k6 := kw_len.1 6; have k7 := kw_len.1 7; have k8 := kw_len.1 8; have k9 := kw_len.1 9; have k10 := kw_len.1 10; have k11 := kw_len.1 11; have k12 := kw_len.1 12
    have j1 := kw_len.2 1; have j2 := kw_len.2 2; have j3 := kw_len.2 3; have j4 := kw_len.2 4; have j5 := kw_len.2 5; have j6 := kw_len.2 6
    have ia : (Lib.itoa s.a).length ≤ 50 := by omega
    have ib : (Lib.itoa s.b).length ≤ 50 := by omega
    have ip : (Lib.itoa s.pg).length ≤ 50 := by omega
    have key : ∀ W : List Bs, (∀ w ∈ W, w.length ≤ 50) → W.length ≤ 5 → (∀ w ∈ W, w.length ≤ 50) ∧ W.length ≤ 5 := fun W a b => ⟨a, b⟩
    have n0 : ∀ w ∈ ([] : List Bs), w.length ≤ 50 := fun w h => by cases h
    have cs : ∀ {x : Bs} {W : List Bs}, x.length ≤ 50 → (∀ w ∈ W, w.length ≤ 50) → ∀ w ∈ x :: W, w.length ≤ 50 := fun a b w h => by
      rcases List.mem_cons.1 h with e | e
      · rw [e]; exact a
      · exact b w e
    rcases kinds12 h1 h2 with e | e | e | e | e | e | e | e | e | e | e | e
    case' inl => rcases kinds6 (hk e).1 (hk e).2 with f | f | f | f | f | f
    all_goals simp only [lineW, askedW, reduceIte, Int.reduceEq, *]
    all_goals try split
    all_goals refine key _ ?_ (by simp)
    all_goals repeat (first | exact n0 | refine cs (by assumption) ?_)
  have := join_le (c := 32) hw.1
  have h5 := hw.2
  unfold lineS
  have : (lineW s).length * (50 + 1) ≤ 5 * 51 := Nat.mul_le_mul_right _ h5
  omega
theorem line_free {s : St} (h : Plain s) : (10 : UInt8) ∉ lineS s := fun hm => by
  rcases joinC_mem hm with e | ⟨w, hw, e⟩
  · exact absurd e (by decide)
  · exact lineW_free h (.inr rfl) w hw e
theorem line_ne {s : St} (hw : Wf s) (h : Plain s) : lineS s ≠ [] := fun e => by
  have := parseS_of hw h
  rw [e] at this
  exact absurd this (by rw [show parseS [] = none from by decide +kernel]; simp)
/-- Lines, with an empty one behind each third. -/
def textF : Nat → List Bs → Bs
  | _, [] => []
  | i, l :: r => l ++ 10 :: ((if i % 3 = 1 then [10] else []) ++ textF (i + 1) r)
def allF (l : List St) : Bs := textF 0 (l.map lineS)
theorem textF_snoc (l : Bs) : ∀ (L : List Bs) (i : Nat), textF i (L ++ [l]) = textF i L ++ (l ++ 10 :: (if (i + L.length) % 3 = 1 then [10] else []))
  | [], i => by simp [textF]
  | x :: L, i => by
    have := textF_snoc l L (i + 1)
    simp only [List.cons_append, textF, this, List.length_cons]
    rw [show i + 1 + L.length = i + (L.length + 1) by omega]
    simp
theorem textF_len {M : Nat} : ∀ (L : List Bs) (i : Nat), (∀ l ∈ L, l.length ≤ M) → (textF i L).length ≤ L.length * (M + 2)
  | [], _, _ => by simp [textF]
  | l :: L, i, h => by
    have h1 := h l (by simp)
    have h2 := textF_len L (i + 1) fun x hx => h x (by simp [hx])
    simp only [textF, List.length_append, List.length_cons]
    rw [Nat.add_mul]
    split <;> simp <;> omega
theorem textF_full : ∀ (L : List Bs) (i : Nat), (∀ l ∈ L, (10 : UInt8) ∉ l ∧ l ≠ []) → (splitC 10 (textF i L)).filter (fun l => decide (l ≠ [])) = L
  | [], i, _ => rfl
  | l :: L, i, h => by
    have h1 := h l (by simp)
    have h2 := textF_full L (i + 1) fun x hx => h x (by simp [hx])
    rw [textF, splitC_hit _ h1.1, List.filter_cons, if_pos (by simpa using h1.2)]
    congr 1
    split
    · rw [List.singleton_append, splitC, if_pos rfl, List.filter_cons, if_neg (by simp)]
      exact h2
    · rw [List.nil_append]; exact h2
end Go.Proofs.YtpbjkfomdindnaaGreatDoor.Sc
