/-
  Slices of elements of several cells: their shape, parts, opened. It names no program.
-/
import Derived.Test.YtdkimdobcacpfaaDoorSlQuick
import Derived.Test.YtdkimdobcacpfaaDoorSlB
set_option linter.unusedSimpArgs false
set_option linter.unusedVariables false
namespace Go.Proofs.YtdkimdobcacpfaaDoor.Sl
open Go Go.RowKit

theorem shapeN {α : Type} {w0 w : World} {S : List Chunk} {v : Value} {b m n : Nat} {f : α → List Value} {l : List α} {t : TypeId} (h : Sat w0 ((b, sl n f l t v) :: S) w) (hl : l.length = m) : ∃ q c, v = .slice q m c := by
  subst hl
  rcases h.slCases with ⟨h1, h2, _⟩ | ⟨c, h1, _⟩
  · exact ⟨_, _, by rw [h1, h2]; rfl⟩
  · exact ⟨_, _, h1⟩
theorem drop_at {α : Type} {L : List α} {k : Nat} {x : α} (h : L[k]? = some x) : L.drop k = x :: L.drop (k + 1) := by
  obtain ⟨hk, rfl⟩ := List.getElem?_eq_some_iff.1 h
  exact List.drop_eq_getElem_cons hk
/-- 's[k:]' of elements of several cells. -/
def loVn (m : Nat) (q : Option Addr) (n c k : Nat) : Value := .slice (if c = k then q else q.map (·.add (k * m))) (n - k) (c - k)
section
variable {α : Type} {w : World} {m : Nat} {f : α → List Value} {gd : α → Prop} {L : List α} {q : Option Addr} {n c k : Nat}
theorem bslCapN (h : BSl w m f gd L (.slice q n c)) : L.length = n ∧ n ≤ c ∧ c ≤ maxLen := by
  rcases h with ⟨rfl, h | ⟨ad, cap, h1, h2⟩⟩ | ⟨b, off, cap, h0, h1, h2, h⟩
  · cases h; exact ⟨rfl, Nat.le_refl _, by unfold maxLen; omega⟩
  · cases h2; exact ⟨rfl, Nat.zero_le _, h1⟩
  · cases h0; exact ⟨rfl, h1, h2⟩
theorem bslHiN (h : BSl w m f gd L (.slice q n c)) (hk : k ≤ n) : BSl w m f gd (L.take k) (.slice q k c) := by
  rcases h with ⟨rfl, h | ⟨ad, cap, h1, h2⟩⟩ | ⟨b, off, cap, h0, h1, h2, h⟩
  · cases h
    obtain rfl : k = 0 := by omega
    exact .inl ⟨rfl, .inl rfl⟩
  · cases h2
    obtain rfl : k = 0 := by omega
    exact .inl ⟨rfl, .inr ⟨_, _, h1, rfl⟩⟩
  · cases h0
    have e : (L.take k).length = k := by simp; omega
    refine .inr ⟨b, off, c, by rw [e], by rw [e]; omega, h2, ?_⟩
    have := h.part 0 k
    simpa using this
theorem bslLoN (h : BSl w m f gd L (.slice q n c)) (hk : k ≤ n) : BSl w m f gd (L.drop k) (loVn m q n c k) := by
  unfold loVn
  rcases h with ⟨rfl, h | ⟨ad, cap, h1, h2⟩⟩ | ⟨b, off, cap, h0, h1, h2, h⟩
  · cases h
    obtain rfl : k = 0 := by omega
    exact .inl ⟨rfl, .inl rfl⟩
  · cases h2
    obtain rfl : k = 0 := by omega
    refine .inl ⟨rfl, .inr ⟨if c = 0 then ad else ad.add (0 * m), c, h1, ?_⟩⟩
    by_cases e : c = 0
    · simp [e]
    · simp [e]
  · cases h0
    by_cases e : c = k
    · have e2 : L.drop k = [] := List.drop_eq_nil_of_le (by omega)
      rw [e2, if_pos e]
      exact .inl ⟨rfl, .inr ⟨⟨b, off, none⟩, c - k, by omega, by rw [show L.length - k = 0 by omega]⟩⟩
    · rw [if_neg e]
      have e3 : (L.drop k).length = L.length - k := by simp
      have ea : (⟨b, off, none⟩ : Addr).add (k * m) = ⟨b, off + k * m, none⟩ := by unfold Addr.add; split <;> simp_all
      refine .inr ⟨b, off + k * m, c - k, by rw [e3]; show Value.slice (some ((⟨b, off, none⟩ : Addr).add (k * m))) _ _ = _; rw [ea], by rw [e3]; omega, by omega, ?_⟩
      have := h.part k (L.length - k)
      rw [← e3, List.take_length] at this
      simpa using this
end
section
variable {P : Program} {ops : Array Oper} {rest : List Oper} {o : Oper} {a : Act} {Q : Exit → Act → World → Prop} {w : World}
variable {n len cap k : Nat} {z : Array Value} {zv : Value} {t e : TypeId} {x lo : Operand} {q : Option Addr} {qk : IntKind} {li : Int} {agg : Bool}
theorem sliceHiV (hw : Region.wanted o (yielded ops a.tmps) = true) (ho : o.op = .slice t x none (some lo) none) (hx : a.eval x = .slice q len cap) (hlo : a.eval lo = .int qk li) [st : SliceTy P t e] [ty : Ty P e agg n zv z] (hli : li = (k : Int)) (hk : k ≤ cap)
    (kk : wpList P ops Q rest (a.put o.dst (.slice q k cap)) w) : wpList P ops Q (o :: rest) a w := by
  subst hli
  refine wp_value hw (w' := w) (v := .slice q k cap) ?_ kk
  have h2 : (k : Int) ≤ cap := by omega
  simp [execOp, ho, hx, hlo, Instr.sliceAt, run_underlying st.is, Instr.slice, Instr.sliceBounds, Instr.sliceBound, asIntOf, ty.size, hk]
  intro _
  cases q with
  | none => rfl
  | some ad => simp [add_zero]
theorem sliceLoV (hw : Region.wanted o (yielded ops a.tmps) = true) (ho : o.op = .slice t x (some lo) none none) (hx : a.eval x = .slice q len cap) (hlo : a.eval lo = .int qk li) [st : SliceTy P t e] [ty : Ty P e agg n zv z] (hli : li = (k : Int)) (hk : k ≤ len)
    (kk : wpList P ops Q rest (a.put o.dst (loVn n q len cap k)) w) : wpList P ops Q (o :: rest) a w := by
  subst hli
  refine wp_value hw (w' := w) (v := loVn n q len cap k) ?_ kk
  have h2 : (k : Int) ≤ len := by omega
  simp [execOp, ho, hx, hlo, Instr.sliceAt, run_underlying st.is, Instr.slice, Instr.sliceBounds, Instr.sliceBound, asIntOf, ty.size, hk, loVn]
end
theorem openS {α : Type} {w0 w : World} {F : List Chunk} {b m n cap : Nat} {f : α → List Value} {l : List α} {t : TypeId} {q : Option Addr} (h : Sat w0 ((b, sl n f l t (.slice q m cap)) :: F) w) (hl : l.length = m) (h0 : 0 < m) : ∃ g, q = some ⟨g, 0, none⟩ ∧ m ≤ cap ∧ Sat w0 ((g, slc n f l cap t) :: F) w := by
  subst hl
  rcases h.slCases with ⟨_, h2, _⟩ | ⟨c, h1, h2⟩
  · rw [h2] at h0
    cases h0
  · have h3 := (h2.slcFacts (g := b) (n := n) (f := f) (l := l) (cap := c) (t := t)).1
    cases h1
    exact ⟨b, rfl, h3, h2⟩
end Go.Proofs.YtdkimdobcacpfaaDoor.Sl
