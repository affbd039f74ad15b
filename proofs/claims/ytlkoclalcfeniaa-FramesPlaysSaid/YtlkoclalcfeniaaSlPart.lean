/-
  's[:k]' and 's[k:]' of whatever can be read, nil and empty slices too. It names no program.
-/
import Derived.Test.YtlkoclalcfeniaaSlB
set_option linter.unusedSimpArgs false
set_option linter.unusedVariables false
namespace Go.Proofs.Ytlkoclalcfeniaa.Sl
open Go Go.RowKit

/-- 's[k:]'. -/
def loV (q : Option Addr) (n c k : Nat) : Value := .slice (if c = k then q else q.map (·.add k)) (n - k) (c - k)
section
variable {α : Type} {w : World} {f : α → List Value} {gd : α → Prop} {L : List α} {q : Option Addr} {n c k : Nat}
theorem bslCap (h : BSl w 1 f gd L (.slice q n c)) : L.length = n ∧ n ≤ c ∧ c ≤ maxLen := by
  rcases h with ⟨rfl, h | ⟨ad, cap, h1, h2⟩⟩ | ⟨b, off, cap, h0, h1, h2, h⟩
  · cases h; exact ⟨rfl, Nat.le_refl _, by unfold maxLen; omega⟩
  · cases h2; exact ⟨rfl, Nat.zero_le _, h1⟩
  · cases h0; exact ⟨rfl, h1, h2⟩
theorem bslHi (h : BSl w 1 f gd L (.slice q n c)) (hk : k ≤ n) : BSl w 1 f gd (L.take k) (.slice q k c) := by
  rcases h with ⟨rfl, h | ⟨ad, cap, h1, h2⟩⟩ | ⟨b, off, cap, h0, h1, h2, h⟩
  · cases h
    obtain rfl : k = 0 := by omega
    exact .inl ⟨rfl, .inl rfl⟩
  · cases h2
    obtain rfl : k = 0 := by omega
    exact .inl ⟨rfl, .inr ⟨_, _, h1, rfl⟩⟩
  · cases h0
    have e : (L.take k).length = k := by simp; omega
    refine .inr ⟨b, off, c, by rw [e], by rw [e]; omega, h2, ?_⟩
    have := h.part 0 k
    simpa using this
theorem bslLo (h : BSl w 1 f gd L (.slice q n c)) (hk : k ≤ n) : BSl w 1 f gd (L.drop k) (loV q n c k) := by
  unfold loV
  rcases h with ⟨rfl, h | ⟨ad, cap, h1, h2⟩⟩ | ⟨b, off, cap, h0, h1, h2, h⟩
  · cases h
    obtain rfl : k = 0 := by omega
    exact .inl ⟨rfl, .inl rfl⟩
  · cases h2
    obtain rfl : k = 0 := by omega
    refine .inl ⟨rfl, .inr ⟨if c = 0 then ad else ad.add 0, c, h1, ?_⟩⟩
    by_cases e : c = 0
    · simp [e]
    · simp [e]
  · cases h0
    by_cases e : c = k
    · have e2 : L.drop k = [] := List.drop_eq_nil_of_le (by omega)
      rw [e2, if_pos e]
      exact .inl ⟨rfl, .inr ⟨⟨b, off, none⟩, c - k, by omega, by rw [show L.length - k = 0 by omega]⟩⟩
    · rw [if_neg e]
      have e3 : (L.drop k).length = L.length - k := by simp
      have ea : (⟨b, off, none⟩ : Addr).add k = ⟨b, off + k, none⟩ := by unfold Addr.add; split <;> simp_all
      refine .inr ⟨b, off + k, c - k, by rw [e3]; show Value.slice (some ((⟨b, off, none⟩ : Addr).add k)) _ _ = _; rw [ea], by rw [e3]; omega, by omega, ?_⟩
      have := h.part k (L.length - k)
      rw [← e3, List.take_length] at this
      simpa using this
end
section
variable {P : Program} {ops : Array Oper} {rest : List Oper} {o : Oper} {a : Act} {Q : Exit → Act → World → Prop} {w : World} {I : World → Prop}
variable {n len cap k : Nat} {z : Array Value} {zv : Value} {t e : TypeId} {x lo : Operand} {q : Option Addr} {qk : IntKind} {li : Int}
theorem runHi (ho : o.op = .slice t x none (some lo) none) (hx : a.eval x = .slice q len cap) (hlo : a.eval lo = .int qk li) (hli : li = (k : Int)) [st : SliceTy P t e] [ty : Ty P e false 1 zv z] (hk : k ≤ cap) (w : World) : (execOp a.eval o).run P w = .ok (.value (.slice q k cap)) w := by
  subst hli
  have h2 : (k : Int) ≤ cap := by omega
  simp [execOp, ho, hx, hlo, Instr.sliceAt, run_underlying st.is, Instr.slice, Instr.sliceBounds, Instr.sliceBound, asIntOf, ty.size, hk]
  intro _
  cases q with
  | none => rfl
  | some ad => simp [add_zero]
theorem runLo (ho : o.op = .slice t x (some lo) none none) (hx : a.eval x = .slice q len cap) (hlo : a.eval lo = .int qk li) (hli : li = (k : Int)) [st : SliceTy P t e] [ty : Ty P e false 1 zv z] (hk : k ≤ len) (w : World) : (execOp a.eval o).run P w = .ok (.value (loV q len cap k)) w := by
  subst hli
  have h2 : (k : Int) ≤ len := by omega
  simp [execOp, ho, hx, hlo, Instr.sliceAt, run_underlying st.is, Instr.slice, Instr.sliceBounds, Instr.sliceBound, asIntOf, ty.size, hk, loV]
theorem yHi (hw : Region.wanted o (yielded ops a.tmps) = true) (ho : o.op = .slice t x none (some lo) none) (hx : a.eval x = .slice q len cap) (hlo : a.eval lo = .int qk li) (hli : li = (k : Int)) [st : SliceTy P t e] [ty : Ty P e false 1 zv z] (hk : k ≤ cap) : YieldsIf P ops I o (.slice q k cap) a :=
  yRun hw fun w => runHi ho hx hlo hli hk w
theorem yLo (hw : Region.wanted o (yielded ops a.tmps) = true) (ho : o.op = .slice t x (some lo) none none) (hx : a.eval x = .slice q len cap) (hlo : a.eval lo = .int qk li) (hli : li = (k : Int)) [st : SliceTy P t e] [ty : Ty P e false 1 zv z] (hk : k ≤ len) : YieldsIf P ops I o (loV q len cap k) a :=
  yRun hw fun w => runLo ho hx hlo hli hk w
end
end Go.Proofs.Ytlkoclalcfeniaa.Sl
