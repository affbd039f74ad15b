/-
  A step as its words, words as a step, the document's line: plain lists, no program.
-/
import Derived.Test.YtpbjkfomdindnaaGreatDoorScP
set_option linter.unusedSimpArgs false
set_option linter.unusedVariables false
namespace Go.Proofs.YtpbjkfomdindnaaGreatDoor.Sc
open Go

/-- A step. -/
structure St where
  kind : Int
  a : Int
  b : Int
  okd : Int
  pg : Int
  od : List Int
  bt : Nat
  da : List Int
  fa : List Int
def st0 : St := ⟨0, 0, 0, 0, 0, [], 0, [], []⟩
def stepsL : List Bs := [[], [97, 115, 107], [103, 111], [112, 105, 99, 107], [114, 117, 110], [99, 114, 97, 115, 104], [97, 114, 109], [111, 112, 101, 110], [112, 111, 107, 101], [99, 111, 112, 121], [115, 110, 97, 112], [98, 97, 99, 107], [119, 101, 105, 103, 104, 116]]
def asksL : List Bs := [[], [114, 101, 97, 100], [119, 114, 105, 116, 101], [99, 111, 109, 109, 105, 116], [114, 111, 116, 97, 116, 101], [119, 97, 114, 109], [99, 108, 111, 115, 101]]
def kwS (k : Nat) : Bs := stepsL.getD k []
def kwA (k : Nat) : Bs := asksL.getD k []
/-- The first place from 1 on that holds a word. -/
def choiceW (K : List Bs) (w : Bs) : Option Int := Option.map (fun k : Nat => (k : Int)) ((List.range K.length).find? fun k => decide (1 ≤ k ∧ K[k]? = some w))
def takeW {α : Type} (f : Bs → Option α) : List Bs → Option (α × List Bs)
  | [] => none
  | w :: W => (f w).map fun x => (x, W)
def fatesF : List Bs → Option (List Int × List Bs)
  | [] => some ([], [])
  | w :: W => (fatesW w).map fun x => (x, W)
def askK (s : St) (k : Int) (W : List Bs) : Option (St × List Bs) :=
  if k = 1 then (takeW numW W).bind fun p => some ({ s with okd := k, pg := p.1 }, p.2)
  else if k = 2 then (takeW numW W).bind fun p => (takeW (dataW 240) p.2).bind fun d => some ({ s with okd := k, pg := p.1, od := d.1 }, d.2)
  else if k = 5 then (takeW numW W).bind fun p => (takeW bitsW p.2).bind fun d => some ({ s with okd := k, pg := p.1, bt := d.1 }, d.2)
  else some ({ s with okd := k }, W)
def askP (s : St) (W : List Bs) : Option (St × List Bs) := (takeW (choiceW asksL) W).bind fun x => askK s x.1 x.2
def stepK (k : Int) (W : List Bs) : Option (St × List Bs) :=
  if k = 2 ∨ k = 3 ∨ k = 6 ∨ k = 11 then (takeW numW W).bind fun p => some ({ st0 with kind := k, a := p.1 }, p.2)
  else if k = 9 then (takeW numW W).bind fun p => (takeW numW p.2).bind fun q => some ({ st0 with kind := k, a := p.1, b := q.1 }, q.2)
  else if k = 8 then (takeW numW W).bind fun p => (takeW numW p.2).bind fun q => (takeW (dataW 256) q.2).bind fun d => some ({ st0 with kind := k, a := p.1, b := q.1, da := d.1 }, d.2)
  else if k = 7 then (takeW numW W).bind fun p => (fatesF p.2).bind fun q => some ({ st0 with kind := k, a := p.1, fa := q.1 }, q.2)
  else if k = 12 then (takeW numW W).bind fun p => (takeW bitsW p.2).bind fun q => some ({ st0 with kind := k, a := p.1, bt := q.1 }, q.2)
  else if k = 1 then (takeW numW W).bind fun p => askP { st0 with kind := k, a := p.1 } p.2
  else some ({ st0 with kind := k }, W)
def stepP (W : List Bs) : Option (St × List Bs) := (takeW (choiceW stepsL) W).bind fun x => stepK x.1 x.2
/-- What a line is. -/
def parseS (l : Bs) : Option St := (stepP (splitC 32 l)).bind fun x => if x.2 = [] then some x.1 else none

/-! ### A step's words -/
def guardW (p : Prop) [Decidable p] (w : Bs) (r : Option (List Bs)) : Option (List Bs) := if p then r.map fun W => w :: W else none
def fatesR (l : List Int) : Option (List Bs) := if l.length ≤ 16 then if l = [] then some [] else if ∀ x ∈ l, okN x then some [fatesL l] else none else none
def askR (s : St) : Option (List Bs) := guardW (1 ≤ s.okd ∧ s.okd < 7) (kwA s.okd.toNat)
  (if s.okd = 1 then guardW (okN s.pg) (Lib.itoa s.pg) (some [])
  else if s.okd = 2 then guardW (okN s.pg) (Lib.itoa s.pg) (guardW (s.od.length ≤ 240) (dashL s.od) (some []))
  else if s.okd = 5 then guardW (okN s.pg) (Lib.itoa s.pg) (some [bitsL s.bt])
  else some [])
def stepR (s : St) : Option (List Bs) :=
  if s.kind = 2 ∨ s.kind = 3 ∨ s.kind = 6 ∨ s.kind = 11 then guardW (okN s.a) (Lib.itoa s.a) (some [])
  else if s.kind = 9 then guardW (okN s.a) (Lib.itoa s.a) (guardW (okN s.b) (Lib.itoa s.b) (some []))
  else if s.kind = 8 then guardW (okN s.a) (Lib.itoa s.a) (guardW (okN s.b) (Lib.itoa s.b) (guardW (s.da.length ≤ 256) (dashL s.da) (some [])))
  else if s.kind = 7 then guardW (okN s.a) (Lib.itoa s.a) (fatesR s.fa)
  else if s.kind = 12 then guardW (okN s.a) (Lib.itoa s.a) (some [bitsL s.bt])
  else if s.kind = 1 then guardW (okN s.a) (Lib.itoa s.a) (askR s)
  else some []
def printW (s : St) : Option (List Bs) := guardW (1 ≤ s.kind ∧ s.kind < 13) (kwS s.kind.toNat) (stepR s)

/-! ### The document -/
/-- The same step. -/
def eqv (s t : St) : Prop := s.kind = t.kind ∧ s.a = t.a ∧ s.b = t.b ∧ s.okd = t.okd ∧ s.pg = t.pg ∧ s.od = t.od ∧ canB s.bt = canB t.bt ∧ s.da = t.da ∧ s.fa = t.fa
instance (s t : St) : Decidable (eqv s t) := inferInstanceAs (Decidable (_ ∧ _))
theorem eqv_refl (s : St) : eqv s s := ⟨rfl, rfl, rfl, rfl, rfl, rfl, rfl, rfl, rfl⟩
theorem eqv_symm {s t : St} (h : eqv s t) : eqv t s := by
  obtain ⟨a, b, c, d, e, f, g, i, j⟩ := h
  exact ⟨a.symm, b.symm, c.symm, d.symm, e.symm, f.symm, g.symm, i.symm, j.symm⟩
theorem eqv_trans {s t u : St} (h : eqv s t) (k : eqv t u) : eqv s u := by
  obtain ⟨a, b, c, d, e, f, g, i, j⟩ := h
  obtain ⟨a', b', c', d', e', f', g', i', j'⟩ := k
  exact ⟨a.trans a', b.trans b', c.trans c', d.trans d', e.trans e', f.trans f', g.trans g', i.trans i', j.trans j'⟩
def bareO (s o : St) : St :=
  if s.okd = 1 then { o with okd := s.okd, pg := s.pg }
  else if s.okd = 2 then { o with okd := s.okd, pg := s.pg, od := s.od }
  else if s.okd = 5 then { o with okd := s.okd, pg := s.pg, bt := s.bt }
  else { o with okd := s.okd }
def bareS (s : St) : St :=
  if s.kind = 4 ∨ s.kind = 5 ∨ s.kind = 10 then { st0 with kind := s.kind }
  else if s.kind = 9 then { st0 with kind := s.kind, a := s.a, b := s.b }
  else if s.kind = 8 then { st0 with kind := s.kind, a := s.a, b := s.b, da := s.da }
  else if s.kind = 7 then { st0 with kind := s.kind, a := s.a, fa := s.fa }
  else if s.kind = 12 then { st0 with kind := s.kind, a := s.a, bt := s.bt }
  else if s.kind = 1 then bareO s { st0 with kind := s.kind, a := s.a }
  else { st0 with kind := s.kind, a := s.a }
def Plain (s : St) : Prop := (1 ≤ s.kind ∧ s.kind ≤ 12) ∧ (s.kind = 1 → 1 ≤ s.okd ∧ s.okd ≤ 6) ∧ eqv (bareS s) s ∧ okN s.a ∧ okN s.b ∧ okN s.pg ∧ s.od.length ≤ 240 ∧ s.da.length ≤ 256 ∧ s.fa.length ≤ 16 ∧ ∀ x ∈ s.fa, okN x
instance (s : St) : Decidable (Plain s) := inferInstanceAs (Decidable (_ ∧ _))
def askedW (s : St) : List Bs :=
  if s.okd = 1 then [kwA 1, Lib.itoa s.pg]
  else if s.okd = 2 then [kwA 2, Lib.itoa s.pg, dashL s.od]
  else if s.okd = 3 then [kwA 3]
  else if s.okd = 4 then [kwA 4]
  else if s.okd = 5 then [kwA 5, Lib.itoa s.pg, bitsL s.bt]
  else [kwA 6]
def lineW (s : St) : List Bs :=
  if s.kind = 1 then kwS 1 :: Lib.itoa s.a :: askedW s
  else if s.kind = 2 then [kwS 2, Lib.itoa s.a]
  else if s.kind = 3 then [kwS 3, Lib.itoa s.a]
  else if s.kind = 4 then [kwS 4]
  else if s.kind = 5 then [kwS 5]
  else if s.kind = 6 then [kwS 6, Lib.itoa s.a]
  else if s.kind = 7 then kwS 7 :: Lib.itoa s.a :: (if s.fa = [] then [] else [fatesL s.fa])
  else if s.kind = 8 then [kwS 8, Lib.itoa s.a, Lib.itoa s.b, dashL s.da]
  else if s.kind = 9 then [kwS 9, Lib.itoa s.a, Lib.itoa s.b]
  else if s.kind = 10 then [kwS 10]
  else if s.kind = 11 then [kwS 11, Lib.itoa s.a]
  else [kwS 12, Lib.itoa s.a, bitsL s.bt]
/-- A step's line, by the document. -/
def lineS (s : St) : Bs := joinC 32 (lineW s)
/-- What the numbers of a step are bound to be. -/
structure Wf (s : St) : Prop where
  od : ∀ x ∈ s.od, okB8 x
  da : ∀ x ∈ s.da, okB8 x
  bt : s.bt < 18446744073709551616
/-- With no number but the one. -/
def canS (s : St) : St := { s with bt := canB s.bt }

theorem kinds12 {k : Int} (h1 : 1 ≤ k) (h2 : k ≤ 12) : k = 1 ∨ k = 2 ∨ k = 3 ∨ k = 4 ∨ k = 5 ∨ k = 6 ∨ k = 7 ∨ k = 8 ∨ k = 9 ∨ k = 10 ∨ k = 11 ∨ k = 12 := by omega
theorem kinds6 {k : Int} (h1 : 1 ≤ k) (h2 : k ≤ 6) : k = 1 ∨ k = 2 ∨ k = 3 ∨ k = 4 ∨ k = 5 ∨ k = 6 := by omega
theorem steps_ch : ∀ k : Fin 12, choiceW stepsL (kwS (k.val + 1)) = some ((k.val + 1 : Nat) : Int) := by decide +kernel
theorem asks_ch : ∀ k : Fin 6, choiceW asksL (kwA (k.val + 1)) = some ((k.val + 1 : Nat) : Int) := by decide +kernel
theorem choice_back {K : List Bs} {w : Bs} {k : Int} (h : choiceW K w = some k) : 1 ≤ k ∧ k < K.length ∧ K.getD k.toNat [] = w := by
  unfold choiceW at h
  obtain ⟨n, hn, rfl⟩ := Option.map_eq_some_iff.1 h
  have h1 := List.find?_some hn
  have h2 := List.mem_of_find?_eq_some hn
  have h1 := of_decide_eq_true h1
  have h2 := List.mem_range.1 h2
  refine ⟨by omega, by omega, ?_⟩
  rw [Int.toNat_natCast, List.getD_eq_getElem?_getD, h1.2]; rfl
theorem canB0 {n : Nat} (h : canB 0 = canB n) : canB n = 0 := by rw [← h]; decide

/-- Print's words are the document's. -/
theorem printW_of {s : St} (h : Plain s) : printW s = some (lineW s) := by
  obtain ⟨⟨h1, h2⟩, hk, hb, ha, hb2, hp, ho, hd, hf, hx⟩ := h
  rcases kinds12 h1 h2 with e | e | e | e | e | e | e | e | e | e | e | e
  · obtain ⟨k1, k2⟩ := hk e
    rcases kinds6 k1 k2 with f | f | f | f | f | f <;> simp [printW, stepR, askR, guardW, lineW, askedW, e, f, ha, hp, ho]
  all_goals simp [printW, stepR, guardW, fatesR, lineW, e, ha, hb2, hd, hf]
  · split
    · rename_i h; simp [h]
    · rename_i h; simp [h]
theorem takeW_cons {α : Type} {f : Bs → Option α} {w : Bs} {W : List Bs} {x : α} (h : f w = some x) : takeW f (w :: W) = some (x, W) := by simp [takeW, h]
/-- A step's words are read as it. -/
theorem stepP_of {s : St} (hw : Wf s) (h : Plain s) : stepP (lineW s) = some (canS s, []) := by
  obtain ⟨⟨h1, h2⟩, hk, hb, ha, hb2, hp, ho, hd, hf, hx⟩ := h
  have na := numW_of ha
  have nb := numW_of hb2
  have np := numW_of hp
  have dd := dataW_of (mx := 256) hd hw.da
  have do_ := dataW_of (mx := 240) ho hw.od
  have bb := bitsW_of hw.bt
  obtain ⟨kind, a, b, okd, pg, od, bt, da, fa⟩ := s
  simp only at *
  rcases kinds12 h1 h2 with e | e | e | e | e | e | e | e | e | e | e | e
  · subst e
    obtain ⟨k1, k2⟩ := hk rfl
    rcases kinds6 k1 k2 with f | f | f | f | f | f
    all_goals
      subst f
      simp [eqv, bareS, bareO, st0, eq_comm (a := (0 : Int))] at hb
      have c1 : ∀ W, takeW (choiceW stepsL) (kwS 1 :: W) = some (1, W) := fun W => takeW_cons (steps_ch 0)
      have e1 : ∀ W, takeW numW (Lib.itoa a :: W) = some (a, W) := fun W => takeW_cons na
      have e2 : ∀ W, takeW numW (Lib.itoa pg :: W) = some (pg, W) := fun W => takeW_cons np
    · have c2 : ∀ W, takeW (choiceW asksL) (kwA 1 :: W) = some (1, W) := fun W => takeW_cons (asks_ch 0)
      simp [stepP, lineW, askedW, c1, stepK, e1, askP, askK, c2, e2, st0, canS, hb, canB0]
    · have c2 : ∀ W, takeW (choiceW asksL) (kwA 2 :: W) = some (2, W) := fun W => takeW_cons (asks_ch 1)
      have c3 : ∀ W, takeW (dataW 240) (dashL od :: W) = some (od, W) := fun W => takeW_cons do_
      simp [stepP, lineW, askedW, c1, stepK, e1, askP, askK, c2, e2, c3, st0, canS, hb, canB0]
    · have c2 : ∀ W, takeW (choiceW asksL) (kwA 3 :: W) = some (3, W) := fun W => takeW_cons (asks_ch 2)
      simp [stepP, lineW, askedW, c1, stepK, e1, askP, askK, c2, e2, st0, canS, hb, canB0]
    · have c2 : ∀ W, takeW (choiceW asksL) (kwA 4 :: W) = some (4, W) := fun W => takeW_cons (asks_ch 3)
      simp [stepP, lineW, askedW, c1, stepK, e1, askP, askK, c2, e2, st0, canS, hb, canB0]
    · have c2 : ∀ W, takeW (choiceW asksL) (kwA 5 :: W) = some (5, W) := fun W => takeW_cons (asks_ch 4)
      have c3 : ∀ W, takeW bitsW (bitsL bt :: W) = some (canB bt, W) := fun W => takeW_cons bb
      simp [stepP, lineW, askedW, c1, stepK, e1, askP, askK, c2, e2, c3, st0, canS, hb, canB0]
    · have c2 : ∀ W, takeW (choiceW asksL) (kwA 6 :: W) = some (6, W) := fun W => takeW_cons (asks_ch 5)
      simp [stepP, lineW, askedW, c1, stepK, e1, askP, askK, c2, e2, st0, canS, hb, canB0]
  all_goals
    subst e
    simp [eqv, bareS, st0, eq_comm (a := (0 : Int))] at hb
    have e1 : ∀ W, takeW numW (Lib.itoa a :: W) = some (a, W) := fun W => takeW_cons na
    have e2 : ∀ W, takeW numW (Lib.itoa b :: W) = some (b, W) := fun W => takeW_cons nb
  · have c1 : ∀ W, takeW (choiceW stepsL) (kwS 2 :: W) = some (2, W) := fun W => takeW_cons (steps_ch 1)
    simp [stepP, lineW, c1, stepK, e1, st0, canS, hb, canB0]
  · have c1 : ∀ W, takeW (choiceW stepsL) (kwS 3 :: W) = some (3, W) := fun W => takeW_cons (steps_ch 2)
    simp [stepP, lineW, c1, stepK, e1, st0, canS, hb, canB0]
  · have c1 : ∀ W, takeW (choiceW stepsL) (kwS 4 :: W) = some (4, W) := fun W => takeW_cons (steps_ch 3)
    simp [stepP, lineW, c1, stepK, e1, st0, canS, hb, canB0]
  · have c1 : ∀ W, takeW (choiceW stepsL) (kwS 5 :: W) = some (5, W) := fun W => takeW_cons (steps_ch 4)
    simp [stepP, lineW, c1, stepK, e1, st0, canS, hb, canB0]
  · have c1 : ∀ W, takeW (choiceW stepsL) (kwS 6 :: W) = some (6, W) := fun W => takeW_cons (steps_ch 5)
    simp [stepP, lineW, c1, stepK, e1, st0, canS, hb, canB0]
  · have c1 : ∀ W, takeW (choiceW stepsL) (kwS 7 :: W) = some (7, W) := fun W => takeW_cons (steps_ch 6)
    by_cases hfa : fa = []
    · simp [stepP, lineW, c1, stepK, e1, st0, canS, hb, canB0, hfa, fatesF]
    · have c3 := fatesW_of hfa hf hx
      simp [stepP, lineW, c1, stepK, e1, st0, canS, hb, canB0, hfa, fatesF, c3]
  · have c1 : ∀ W, takeW (choiceW stepsL) (kwS 8 :: W) = some (8, W) := fun W => takeW_cons (steps_ch 7)
    have c3 : ∀ W, takeW (dataW 256) (dashL da :: W) = some (da, W) := fun W => takeW_cons dd
    simp [stepP, lineW, c1, stepK, e1, e2, c3, st0, canS, hb, canB0]
  · have c1 : ∀ W, takeW (choiceW stepsL) (kwS 9 :: W) = some (9, W) := fun W => takeW_cons (steps_ch 8)
    simp [stepP, lineW, c1, stepK, e1, e2, st0, canS, hb, canB0]
  · have c1 : ∀ W, takeW (choiceW stepsL) (kwS 10 :: W) = some (10, W) := fun W => takeW_cons (steps_ch 9)
    simp [stepP, lineW, c1, stepK, e1, st0, canS, hb, canB0]
  · have c1 : ∀ W, takeW (choiceW stepsL) (kwS 11 :: W) = some (11, W) := fun W => takeW_cons (steps_ch 10)
    simp [stepP, lineW, c1, stepK, e1, st0, canS, hb, canB0]
  · have c1 : ∀ W, takeW (choiceW stepsL) (kwS 12 :: W) = some (12, W) := fun W => takeW_cons (steps_ch 11)
    have c3 : ∀ W, takeW bitsW (bitsL bt :: W) = some (canB bt, W) := fun W => takeW_cons bb
    simp [stepP, lineW, c1, stepK, e1, c3, st0, canS, hb, canB0]

/-! ### Back -/
theorem takeW_back {α : Type} {f : Bs → Option α} {W W' : List Bs} {x : α} (h : takeW f W = some (x, W')) : ∃ w, W = w :: W' ∧ f w = some x := by
  cases W with
  | nil => simp [takeW] at h
  | cons w W =>
    simp only [takeW, Option.map_eq_some_iff, Prod.mk.injEq] at h
    obtain ⟨y, h1, rfl, rfl⟩ := h
    exact ⟨w, rfl, h1⟩
theorem bindW {α β : Type} {f : Bs → Option α} {W : List Bs} {g : α × List Bs → Option β} {r : β} (h : (takeW f W).bind g = some r) : ∃ w x W', W = w :: W' ∧ f w = some x ∧ g (x, W') = some r := by
  obtain ⟨⟨x, W'⟩, hk, h⟩ := Option.bind_eq_some_iff.1 h
  obtain ⟨w, hw, hx⟩ := takeW_back hk
  exact ⟨w, x, W', hw, hx, h⟩
theorem okN0 : okN 0 := ⟨by decide, by decide⟩
theorem askK_back {a k : Int} (ha : okN a) (k1 : 1 ≤ k) (k2 : k ≤ 6) {W : List Bs} {s : St} (h : askK { st0 with kind := 1, a := a } k W = some (s, [])) : Wf s ∧ Plain s ∧ lineW s = kwS 1 :: Lib.itoa a :: kwA k.toNat :: W := by
  have hz := okN0
  unfold askK at h
  rcases kinds6 k1 k2 with f | f | f | f | f | f <;> subst f <;> simp only [reduceIte, Int.reduceEq] at h
  · obtain ⟨w2, p, W2, rfl, hw2, h_1⟩ := bindW h
    clear h
    obtain ⟨np, rfl⟩ := numW_itoa hw2
    simp only [Option.some.injEq, Prod.mk.injEq] at h_1
    obtain ⟨rfl, rfl⟩ := h_1
    refine ⟨⟨by simp [st0], by simp [st0], by simp [st0]⟩, by simp [Plain, bareS, bareO, eqv, st0, ha, np, hz], ?_⟩
    rfl
  · obtain ⟨w2, p, W2, rfl, hw2, h_1⟩ := bindW h
    clear h
    obtain ⟨np, rfl⟩ := numW_itoa hw2
    obtain ⟨w3, d, W3, rfl, hw3, h_2⟩ := bindW h_1
    clear h_1
    obtain ⟨rfl, d1, d2⟩ := dataW_back hw3
    simp only [Option.some.injEq, Prod.mk.injEq] at h_2
    obtain ⟨rfl, rfl⟩ := h_2
    refine ⟨⟨d2, by simp [st0], by simp [st0]⟩, by simp [Plain, bareS, bareO, eqv, st0, ha, np, hz, d1], ?_⟩
    rfl
  · simp only [Option.some.injEq, Prod.mk.injEq] at h
    obtain ⟨rfl, rfl⟩ := h
    refine ⟨⟨by simp [st0], by simp [st0], by simp [st0]⟩, by simp [Plain, bareS, bareO, eqv, st0, ha, hz], ?_⟩
    rfl
  · simp only [Option.some.injEq, Prod.mk.injEq] at h
    obtain ⟨rfl, rfl⟩ := h
    refine ⟨⟨by simp [st0], by simp [st0], by simp [st0]⟩, by simp [Plain, bareS, bareO, eqv, st0, ha, hz], ?_⟩
    rfl
  · obtain ⟨w2, p, W2, rfl, hw2, h_1⟩ := bindW h
    clear h
    obtain ⟨np, rfl⟩ := numW_itoa hw2
    obtain ⟨w3, d, W3, rfl, hw3, h_2⟩ := bindW h_1
    clear h_1
    obtain ⟨rfl, d1⟩ := bitsW_back hw3
    simp only [Option.some.injEq, Prod.mk.injEq] at h_2
    obtain ⟨rfl, rfl⟩ := h_2
    refine ⟨⟨by simp [st0], by simp [st0], d1⟩, by simp [Plain, bareS, bareO, eqv, st0, ha, np, hz], ?_⟩
    rfl
  · simp only [Option.some.injEq, Prod.mk.injEq] at h
    obtain ⟨rfl, rfl⟩ := h
    refine ⟨⟨by simp [st0], by simp [st0], by simp [st0]⟩, by simp [Plain, bareS, bareO, eqv, st0, ha, hz], ?_⟩
    rfl
theorem askP_back {a : Int} (ha : okN a) {W : List Bs} {s : St} (h : askP { st0 with kind := 1, a := a } W = some (s, [])) : Wf s ∧ Plain s ∧ lineW s = kwS 1 :: Lib.itoa a :: W := by
  unfold askP at h
  obtain ⟨w, k, W1, rfl, hw, h_1⟩ := bindW h
  clear h
  obtain ⟨k1, k2, k3⟩ := choice_back hw
  have k2 : k ≤ 6 := by simp only [asksL, List.length_cons, List.length_nil] at k2; omega
  obtain ⟨g1, g2, g3⟩ := askK_back ha k1 k2 h_1
  refine ⟨g1, g2, ?_⟩
  rw [g3, ← k3]; rfl
theorem stepK_back {k : Int} {W : List Bs} {s : St} (h1 : 1 ≤ k) (h2 : k ≤ 12) (h : stepK k W = some (s, [])) : Wf s ∧ Plain s ∧ lineW s = kwS k.toNat :: W := by
  have hz := okN0
  unfold stepK at h
  rcases kinds12 h1 h2 with e | e | e | e | e | e | e | e | e | e | e | e <;> subst e <;> simp only [reduceIte, Int.reduceEq, or_false, or_true, false_or, true_or] at h
  · obtain ⟨w2, p, W2, rfl, hw2, h_1⟩ := bindW h
    clear h
    obtain ⟨np, rfl⟩ := numW_itoa hw2
    exact askP_back np h_1
  · obtain ⟨w2, p, W2, rfl, hw2, h_1⟩ := bindW h
    clear h
    obtain ⟨np, rfl⟩ := numW_itoa hw2
    simp only [Option.some.injEq, Prod.mk.injEq] at h_1
    obtain ⟨rfl, rfl⟩ := h_1
    exact ⟨⟨by simp [st0], by simp [st0], by simp [st0]⟩, by simp [Plain, bareS, eqv, st0, np, hz], rfl⟩
  · obtain ⟨w2, p, W2, rfl, hw2, h_1⟩ := bindW h
    clear h
    obtain ⟨np, rfl⟩ := numW_itoa hw2
    simp only [Option.some.injEq, Prod.mk.injEq] at h_1
    obtain ⟨rfl, rfl⟩ := h_1
    exact ⟨⟨by simp [st0], by simp [st0], by simp [st0]⟩, by simp [Plain, bareS, eqv, st0, np, hz], rfl⟩
  · simp only [Option.some.injEq, Prod.mk.injEq] at h
    obtain ⟨rfl, rfl⟩ := h
    exact ⟨⟨by simp [st0], by simp [st0], by simp [st0]⟩, by simp [Plain, bareS, eqv, st0, hz], rfl⟩
  · simp only [Option.some.injEq, Prod.mk.injEq] at h
    obtain ⟨rfl, rfl⟩ := h
    exact ⟨⟨by simp [st0], by simp [st0], by simp [st0]⟩, by simp [Plain, bareS, eqv, st0, hz], rfl⟩
  · obtain ⟨w2, p, W2, rfl, hw2, h_1⟩ := bindW h
    clear h
    obtain ⟨np, rfl⟩ := numW_itoa hw2
    simp only [Option.some.injEq, Prod.mk.injEq] at h_1
    obtain ⟨rfl, rfl⟩ := h_1
    exact ⟨⟨by simp [st0], by simp [st0], by simp [st0]⟩, by simp [Plain, bareS, eqv, st0, np, hz], rfl⟩
  · obtain ⟨w2, p, W2, rfl, hw2, h_1⟩ := bindW h
    clear h
    obtain ⟨np, rfl⟩ := numW_itoa hw2
    obtain ⟨⟨d, W3⟩, hd, h_2⟩ := Option.bind_eq_some_iff.1 h_1
    clear h_1
    simp only [Option.some.injEq, Prod.mk.injEq] at h_2
    obtain ⟨rfl, rfl⟩ := h_2
    cases W2 with
    | nil =>
      simp only [fatesF, Option.some.injEq, Prod.mk.injEq] at hd
      obtain ⟨rfl, -⟩ := hd
      exact ⟨⟨by simp [st0], by simp [st0], by simp [st0]⟩, by simp [Plain, bareS, eqv, st0, np, hz], rfl⟩
    | cons w3 W3 =>
      simp only [fatesF, Option.map_eq_some_iff, Prod.mk.injEq] at hd
      obtain ⟨l, hl, rfl, rfl⟩ := hd
      obtain ⟨rfl, l1, l2, l3⟩ := fatesW_back hl
      refine ⟨⟨by simp [st0], by simp [st0], by simp [st0]⟩, ?_, by simp [lineW, l1]⟩
      simp [Plain, bareS, eqv, st0, np, hz, l2]
      exact l3
  · obtain ⟨w2, p, W2, rfl, hw2, h_1⟩ := bindW h
    clear h
    obtain ⟨np, rfl⟩ := numW_itoa hw2
    obtain ⟨w3, q, W3, rfl, hw3, h_2⟩ := bindW h_1
    clear h_1
    obtain ⟨nq, rfl⟩ := numW_itoa hw3
    obtain ⟨w4, d, W4, rfl, hw4, h_3⟩ := bindW h_2
    clear h_2
    obtain ⟨rfl, d1, d2⟩ := dataW_back hw4
    simp only [Option.some.injEq, Prod.mk.injEq] at h_3
    obtain ⟨rfl, rfl⟩ := h_3
    exact ⟨⟨by simp [st0], d2, by simp [st0]⟩, by simp [Plain, bareS, eqv, st0, np, nq, hz, d1], rfl⟩
  · obtain ⟨w2, p, W2, rfl, hw2, h_1⟩ := bindW h
    clear h
    obtain ⟨np, rfl⟩ := numW_itoa hw2
    obtain ⟨w3, q, W3, rfl, hw3, h_2⟩ := bindW h_1
    clear h_1
    obtain ⟨nq, rfl⟩ := numW_itoa hw3
    simp only [Option.some.injEq, Prod.mk.injEq] at h_2
    obtain ⟨rfl, rfl⟩ := h_2
    exact ⟨⟨by simp [st0], by simp [st0], by simp [st0]⟩, by simp [Plain, bareS, eqv, st0, np, nq, hz], rfl⟩
  · simp only [Option.some.injEq, Prod.mk.injEq] at h
    obtain ⟨rfl, rfl⟩ := h
    exact ⟨⟨by simp [st0], by simp [st0], by simp [st0]⟩, by simp [Plain, bareS, eqv, st0, hz], rfl⟩
  · obtain ⟨w2, p, W2, rfl, hw2, h_1⟩ := bindW h
    clear h
    obtain ⟨np, rfl⟩ := numW_itoa hw2
    simp only [Option.some.injEq, Prod.mk.injEq] at h_1
    obtain ⟨rfl, rfl⟩ := h_1
    exact ⟨⟨by simp [st0], by simp [st0], by simp [st0]⟩, by simp [Plain, bareS, eqv, st0, np, hz], rfl⟩
  · obtain ⟨w2, p, W2, rfl, hw2, h_1⟩ := bindW h
    clear h
    obtain ⟨np, rfl⟩ := numW_itoa hw2
    obtain ⟨w3, q, W3, rfl, hw3, h_2⟩ := bindW h_1
    clear h_1
    obtain ⟨rfl, q1⟩ := bitsW_back hw3
    simp only [Option.some.injEq, Prod.mk.injEq] at h_2
    obtain ⟨rfl, rfl⟩ := h_2
    exact ⟨⟨by simp [st0], by simp [st0], q1⟩, by simp [Plain, bareS, eqv, st0, np, hz], rfl⟩
theorem stepP_back {W : List Bs} {s : St} (h : stepP W = some (s, [])) : Wf s ∧ Plain s ∧ lineW s = W := by
  unfold stepP at h
  obtain ⟨w, k, W1, rfl, hw, h_1⟩ := bindW h
  clear h
  obtain ⟨k1, k2, k3⟩ := choice_back hw
  have k2 : k ≤ 12 := by simp only [stepsL, List.length_cons, List.length_nil] at k2; omega
  obtain ⟨g1, g2, g3⟩ := stepK_back k1 k2 h_1
  refine ⟨g1, g2, ?_⟩
  rw [g3, ← k3]; rfl
theorem parseS_back {l : Bs} {s : St} (h : parseS l = some s) : Wf s ∧ Plain s ∧ lineS s = l := by
  unfold parseS at h
  obtain ⟨⟨s', W⟩, hk, h⟩ := Option.bind_eq_some_iff.1 h
  split at h
  · rename_i hW
    simp only at hW
    subst hW
    simp only [Option.some.injEq] at h
    subst h
    obtain ⟨g1, g2, g3⟩ := stepP_back hk
    exact ⟨g1, g2, by unfold lineS; rw [g3, join_split]⟩
  · cases h
theorem kw_free : (∀ k : Fin 13, (32 : UInt8) ∉ kwS k.val ∧ (10 : UInt8) ∉ kwS k.val) ∧ (∀ k : Fin 7, (32 : UInt8) ∉ kwA k.val ∧ (10 : UInt8) ∉ kwA k.val) := by decide +kernel
theorem dashL_free (l : List Int) {c : UInt8} (hc : c = 32 ∨ c = 10) : c ∉ dashL l := by
  unfold dashL
  split
  · rcases hc with e | e <;> subst e <;> decide
  · exact hexL_free l c (by rcases hc with e | e <;> simp [e])
theorem joinC_mem {c d : UInt8} : ∀ {W : List Bs}, d ∈ joinC c W → d = c ∨ ∃ w ∈ W, d ∈ w
  | [], h => by simp [joinC] at h
  | [w], h => .inr ⟨w, by simp, h⟩
  | w :: v :: r, h => by
    rw [joinC_cons _ (by simp)] at h
    rcases List.mem_append.1 h with e | e
    · exact .inr ⟨w, by simp, e⟩
    · rcases List.mem_cons.1 e with e | e
      · exact .inl e
      · rcases joinC_mem e with e | ⟨x, hx, e⟩
        · exact .inl e
        · exact .inr ⟨x, by simp [hx], e⟩
theorem fatesL_free {l : List Int} (h : ∀ x ∈ l, okN x) {c : UInt8} (hc : c = 32 ∨ c = 10) : c ∉ fatesL l := fun hm => by
  rcases joinC_mem hm with e | ⟨w, hw, e⟩
  · rcases hc with e2 | e2 <;> rw [e2] at e <;> exact absurd e (by decide)
  · obtain ⟨x, hx, rfl⟩ := List.mem_map.1 hw
    exact itoa_free (h x hx).1 (by rcases hc with e2 | e2 <;> subst e2 <;> decide) e
theorem lineW_free {s : St} (h : Plain s) {c : UInt8} (hc : c = 32 ∨ c = 10) : ∀ w ∈ lineW s, c ∉ w := by
  obtain ⟨⟨h1, h2⟩, hk, hb, ha, hb2, hp, ho, hd, hf, hx⟩ := h
  have hc2 : c.toNat < 48 ∨ 57 < c.toNat := by rcases hc with e | e <;> subst e <;> decide
  have fa := itoa_free ha.1 hc2
  have fb := itoa_free hb2.1 hc2
  have fp := itoa_free hp.1 hc2
  have fo := dashL_free s.od hc
  have fd := dashL_free s.da hc
  have ff := fatesL_free hx hc
  have fbt : c ∉ bitsL s.bt := hexL_free _ c (by rcases hc with e | e <;> simp [e])
  have fk : ∀ k : Fin 13, c ∉ kwS k.val := fun k => by
    rcases hc with e | e <;> subst e
    · exact (kw_free.1 k).1
    · exact (kw_free.1 k).2
  have fj : ∀ k : Fin 7, c ∉ kwA k.val := fun k => by
    rcases hc with e | e <;> subst e
    · exact (kw_free.2 k).1
    · exact (kw_free.2 k).2
  have f1 : c ∉ kwS 1 := fk 1; have f2 : c ∉ kwS 2 := fk 2; have f3 : c ∉ kwS 3 := fk 3; have f4 : c ∉ kwS 4 := fk 4; have f5 : c ∉ kwS 5 := fk 5; have f6 : c ∉ kwS 6 := fk 6; have f7 : c ∉ kwS 7 := fk 7; have f8 : c ∉ kwS 8 := fk 8; have f9 : c ∉ kwS 9 := fk 9; have f10 : c ∉ kwS 10 := fk 10; have f11 : c ∉ kwS 11 := fk 11; have f12 : c ∉ kwS 12 := fk 12
  have j1 : c ∉ kwA 1 := fj 1; have j2 : c ∉ kwA 2 := fj 2; have j3 : c ∉ kwA 3 := fj 3; have j4 : c ∉ kwA 4 := fj 4; have j5 : c ∉ kwA 5 := fj 5; have j6 : c ∉ kwA 6 := fj 6
  clear fk fj
  rcases kinds12 h1 h2 with e | e | e | e | e | e | e | e | e | e | e | e
  · obtain ⟨k1, k2⟩ := hk e
    rcases kinds6 k1 k2 with f | f | f | f | f | f <;> simp [lineW, askedW, e, f] <;> simp_all
  all_goals simp [lineW, e]
  all_goals first | (split <;> simp_all; done) | (simp_all; done)
theorem lineW_ne (s : St) : lineW s ≠ [] := by
  unfold lineW
  repeat' split
  all_goals simp
theorem parseS_of {s : St} (hw : Wf s) (h : Plain s) : parseS (lineS s) = some (canS s) := by
  unfold parseS lineS
  rw [split_join 32 (lineW_ne s) (lineW_free h (.inl rfl)), stepP_of hw h]
  rfl
theorem canS_eqv (s : St) : eqv (canS s) s := ⟨rfl, rfl, rfl, rfl, rfl, rfl, canB_idem _, rfl, rfl⟩
theorem eqv_bare {s t : St} (h : eqv s t) : eqv (bareS s) (bareS t) := by
  obtain ⟨a, b, c, d, e, f, g, i, j⟩ := h
  simp only [bareS, bareO, a, d]
  repeat' split
  all_goals simp_all [eqv]
theorem Plain_eqv {s t : St} (h : eqv s t) (hp : Plain s) : Plain t := by
  obtain ⟨hk, ho, hb, r⟩ := hp
  have hb2 := eqv_trans (eqv_trans (eqv_symm (eqv_bare h)) hb) h
  obtain ⟨a, b, c, d, e, f, g, i, j⟩ := h
  rw [a] at hk
  rw [a, d] at ho
  rw [b, c, e, f, i, j] at r
  exact ⟨hk, ho, hb2, r⟩
theorem lineS_eqv {s t : St} (h : eqv s t) : lineS s = lineS t := by
  obtain ⟨a, b, c, d, e, f, g, i, j⟩ := h
  unfold lineS lineW askedW bitsL
  rw [a, b, c, d, e, f, g, i, j]

/-- script.Print, in plain words: a line, or none. -/
def printS (s : St) : Option Bs := match printW s with
  | none => none
  | some W => match parseS (joinC 32 W) with
    | none => none
    | some t => if eqv t s then some (joinC 32 W) else none
theorem printS_eq {s : St} (hw : Wf s) : printS s = if Plain s then some (lineS s) else none := by
  unfold printS
  by_cases h : Plain s
  · rw [if_pos h, printW_of h]
    have := parseS_of hw h
    unfold lineS at this
    simp only [this]
    rw [if_pos (canS_eqv s)]; rfl
  · rw [if_neg h]
    split
    · rfl
    · rename_i W hW
      split
      · rfl
      · rename_i t ht
        split
        · rename_i he
          exact absurd (Plain_eqv he (parseS_back ht).2.1) h
        · rfl
end Go.Proofs.YtpbjkfomdindnaaGreatDoor.Sc
