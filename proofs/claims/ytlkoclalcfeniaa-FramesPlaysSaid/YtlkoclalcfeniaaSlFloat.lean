/-
  '+' and '/' on floats, whatever they give. It names no program.
-/
import Derived.Test.YtlkoclalcfeniaaSlA
import Derived.Laws.FloatArith
set_option linter.unusedSimpArgs false
set_option linter.unusedVariables false
namespace Go.Proofs.Ytlkoclalcfeniaa.Sl
open Go Go.RowKit

section
variable {P : Program} {ops : Array Oper} {rest : List Oper} {o : Oper} {a : Act} {Q : Exit → Act → World → Prop} {w0 w : World} {S : List Chunk}
theorem nan_cut (x y n : Nat) : 9218868437227405312 < (Question.nanBits FloatKind.f64 x y).cut n % 9223372036854775808 ∧ (Question.nanBits FloatKind.f64 x y).cut n < 18446744073709551616 := by
  show 9218868437227405312 < ((n % 2) * 2 ^ 63 + 0x7ff0000000000000 + 1 + (n / 2) % (2 ^ 52 - 1)) % 9223372036854775808 ∧ ((n % 2) * 2 ^ 63 + 0x7ff0000000000000 + 1 + (n / 2) % (2 ^ 52 - 1)) < 18446744073709551616
  have h1 : (n / 2) % (2 ^ 52 - 1) < 4503599627370495 := Nat.mod_lt _ (by decide)
  obtain ⟨t, ht⟩ : ∃ t, (n / 2) % (2 ^ 52 - 1) = t := ⟨_, rfl⟩
  rw [ht] at h1 ⊢
  have e63 : (2 : Nat) ^ 63 = 9223372036854775808 := by decide
  have h2 : n % 2 = 0 ∨ n % 2 = 1 := by omega
  rw [e63]
  clear ht e63
  rcases h2 with h2 | h2 <;> rw [h2] <;> constructor <;> omega
theorem run_floatAny {op : BinOp} (hop : op = .add ∨ op = .quo) (t : TypeId) (x y : Nat) (w : World) : ∃ r w', (w' = w ∨ w' = w.drew) ∧ ((∀ r', floatBits op .f64 x y = some r' → r = r') ∧ (floatBits op .f64 x y = none → 9218868437227405312 < r % 9223372036854775808 ∧ r < 18446744073709551616)) ∧ (binOp op t (.float .f64 x) (.float .f64 y)).run P w = .ok (.float .f64 r) w' := by
  cases h : floatBits op .f64 x y with
  | some r => exact ⟨r, w, .inl rfl, ⟨fun r' h' => Option.some.inj h', fun h' => by cases h'⟩, run_float_arith w op t .f64 x y r h⟩
  | none =>
    have hf : (Question.nanBits FloatKind.f64 x y).forced = false := rfl
    refine ⟨(Question.nanBits FloatKind.f64 x y).cut (w.tape w.drawn (Question.nanBits FloatKind.f64 x y)), w.drew, .inr rfl, ⟨fun r' h => absurd h (by simp), fun _ => nan_cut x y _⟩, ?_⟩
    rcases hop with rfl | rfl
    · have h' : FloatKind.f64.format.add x y = none := h
      simp [binOp, Op.floatArith, h', hf]
    · have h' : FloatKind.f64.format.div x y = none := h
      simp [binOp, Op.floatArith, h', hf]
theorem opFloat {op : BinOp} {t tr : TypeId} {x y : Operand} {X Y : Nat} (hop : op = .add ∨ op = .quo) (hS : Sat w0 S w) (hw : Region.wanted o (yielded ops a.tmps) = true) (ho : o.op = .binOp op t x y tr) (hx : a.eval x = .float .f64 X) (hy : a.eval y = .float .f64 Y)
    (kk : ∀ r w', ((∀ r', floatBits op .f64 X Y = some r' → r = r') ∧ (floatBits op .f64 X Y = none → 9218868437227405312 < r % 9223372036854775808 ∧ r < 18446744073709551616)) → Sat w0 S w' → wpList P ops Q rest (a.put o.dst (.float .f64 r)) w') : wpList P ops Q (o :: rest) a w := by
  obtain ⟨r, w', hw', hr, hrun⟩ := run_floatAny (P := P) hop t X Y w
  refine wp_value hw (w' := w') ?_ (kk r w' hr ?_)
  · have hg : (eqGuard op t x y (.float .f64 X) (.float .f64 Y)).run P w = .ok () w := by rcases hop with rfl | rfl <;> rfl
    simp [execOp, ho, hx, hy, hg, hrun]
  · rcases hw' with rfl | rfl
    · exact hS
    · exact hS.drew
end
end Go.Proofs.Ytlkoclalcfeniaa.Sl
