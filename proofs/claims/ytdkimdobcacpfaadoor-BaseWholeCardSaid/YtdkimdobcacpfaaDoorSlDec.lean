/-
  What comes in, in plain words: bytes, rows of bytes, numbers.
-/
import Derived.Test.YtdkimdobcacpfaaDoorJPlain
import Derived.Test.YtdkimdobcacpfaaDoorSlB
set_option linter.unusedSimpArgs false
set_option linter.unusedVariables false
namespace Go.Proofs.YtdkimdobcacpfaaDoor
open Go.RowKit Go.Proofs.YtdkimdobcacpfaaDoor.Sl Go.Proofs.YtdkimdobcacpfaaDoor.Jp

theorem dec8 {w : World} {us : List Value} (h : OkL w [.int .u8] us) : ∃ x : Int,by8 x = us ∧ okByte x := by
  match us,h with
  | [a],⟨ha,_⟩ =>
    cases ha with
    | int _ n hn => exact ⟨n,rfl,by simp [Lit.wf,IntKind.min,IntKind.max,IntKind.bits,IntKind.signed,okByte] at hn ⊢;omega⟩
theorem decRow {w : World} {us : List Value} (h : OkL w [.sl [.int .u8]] us) : ∃ x : Value × List Int,rowF x = us ∧ RB w x.2 x.1 := by
  match us,h with
  | [a],⟨ha,_⟩ =>
    obtain ⟨L,hL⟩ := toBSl (f := by8) (g := okByte) ha (by decide) fun us hu => dec8 hu
    exact ⟨(a,L),rfl,hL⟩
theorem decBytes {w : World} {v : Value} (h : OkL w [.sl [.int .u8]] [v]) : ∃ A,RB w A v := toBSl (f := by8) (g := okByte) h.1 (by decide) fun _ hu => dec8 hu
theorem decRows {w : World} {v : Value} (h : OkL w [.sl [.sl [.int .u8]]] [v]) : ∃ X,RR w X v := toBSl (f := rowF) (g := fun x => RB w x.2 x.1) h.1 (by decide) fun _ hu => decRow hu
theorem decInt {w : World} {k : IntKind} {v : Value} (h : OkL w [.int k] [v]) : ∃ n : Int,v = .int k n ∧ (Lit.int k n).wf = true := by
  obtain ⟨h,_⟩ := h
  cases h with
  | int _ n hn => exact ⟨n,rfl,hn⟩
end Go.Proofs.YtdkimdobcacpfaaDoor
