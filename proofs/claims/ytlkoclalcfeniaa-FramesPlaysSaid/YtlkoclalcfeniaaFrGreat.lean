/-
  thimblelaw13: an act; great.
-/
import Derived.Test.YtlkoclalcfeniaaFrShare
import Derived.Test.YtlkoclalcfeniaaSlB
set_option linter.unusedSimpArgs false
set_option linter.unusedVariables false
namespace Go.Proofs.Ytlkoclalcfeniaa
open Go.RowKit Go.Proofs.Ytlkoclalcfeniaa.Sl Go.Proofs.Ytlkoclalcfeniaa.Jp

/-- An act: kind, task, key; its bytes; two more. -/
abbrev Ac13 := (Int × Int × Int) × (Value × List Int) × Bool × Nat
def acF (x : Ac13) : List Value := [.int .i64 x.1.1, .int .i64 x.1.2.1, .int .i64 x.1.2.2, x.2.1.1, .bool x.2.2.1, .float .f64 x.2.2.2]
def AcIn (w : World) (x : Ac13) : Prop := RB w x.2.1.2 x.2.1.1
section
variable {w0 : World} {L : List Ac13} {n c : Nat} {pa : Option Addr}
set_option maxRecDepth 100000 in
set_option maxHeartbeats 2000000 in
theorem great13_any (hn : L.length = n) (hmax : n ≤ 9223372036854775807) (hat : L ≠ [] → ∃ b off, pa = some ⟨b, off, none⟩ ∧ BAt w0 6 acF (AcIn w0) L b off) : Calls Try.prog 18 #[.slice pa n c] w0 fun e w' => ∃ r, e = .returned (.bool r) ∧ (r = false → ∀ i x, i < 120 → L[i]? = some x → x.2.1.2.length ≤ 1000) ∧ Sat w0 [] w' := by
  have hS := Sat.refl w0
  have HN : Bx _ := ⟨hn⟩
  have HAT : Bx _ := ⟨hat⟩
  clear hn hat
  go_enter Try.func18, Try.ntmps18
  go_wp2_with (first | (refine load1 hS rfl rfl rfl rfl ?_; simp only [putW]) | (refine loadAll hS rfl rfl rfl ?_ ?_; rfl; simp only [putW]) | (refine loadPart hS rfl rfl rfl ?_ rfl ?_; rfl; simp only [putW]) | (refine store1 hS rfl rfl rfl rfl rfl ?_ ?_; (focus (simp; done)); clear hS; intro w hS; simp only [evW, putW] at hS; try simp only [putW]) | (refine storeAll hS rfl rfl rfl rfl ?_ ?_ ?_ ?_; rfl; (focus (simp [Value.oneCell']; done)); rfl; clear hS; intro w hS; try simp only [putW]) | (refine storeN hS rfl rfl rfl rfl ?_ ?_ ?_ ?_; rfl; (focus (simp [Value.oneCell']; done)); (focus (simp; done)); clear hS; intro w hS; simp at hS; try simp only [putW]) | (refine alloc hS rfl rfl ?_; clear hS; intro mb w hS; simp only [putW]) | (refine box1 hS rfl rfl rfl rfl ?_; clear hS; intro mb w hS; try simp only [evW, putW] at hS; simp only [putW]) | (refine boxN hS rfl rfl rfl ?_; clear hS; intro mb w hS; simp only [putW]))
  go_loopg [3] (min n 120) (fun g i wr => ∃ (k : Nat), k + g = min n 120 ∧ i = .int .i64 k ∧ Bx (∀ i x, i < k → L[i]? = some x → x.2.1.2.length ≤ 1000) ∧ Sat w0 [] wr)
  case atStart => exact ⟨0, by omega, rfl, ⟨fun i x h => absurd h (Nat.not_lt_zero _)⟩, hS⟩
  case round =>
    clear hS
    obtain ⟨k, hkg, rfl, HO, hS⟩ := hrel
    cases gk with
    | zero =>
      have hres : Bx (∀ i x, i < 120 → L[i]? = some x → x.2.1.2.length ≤ 1000) := ⟨fun i x hi hx => HO.out i x (by have := (List.getElem?_eq_some_iff.1 hx).1; rw [HN.out] at this; omega) hx⟩
      by_cases hkn : k < n
      · have h120 : 120 ≤ k := by omega
        have e1 : decide ((k : Int) < (n : Int)) = true := decide_eq_true (by omega)
        have e2 : decide ((k : Int) < 120) = false := decide_eq_false (by omega)
        clear hkg
        go_wp2_with (first | (refine load1 hS rfl rfl rfl rfl ?_; simp only [putW]) | (refine loadAll hS rfl rfl rfl ?_ ?_; rfl; simp only [putW]) | (refine loadPart hS rfl rfl rfl ?_ rfl ?_; rfl; simp only [putW]) | (refine store1 hS rfl rfl rfl rfl rfl ?_ ?_; (focus (simp; done)); clear hS; intro w hS; simp only [evW, putW] at hS; try simp only [putW]) | (refine storeAll hS rfl rfl rfl rfl ?_ ?_ ?_ ?_; rfl; (focus (simp [Value.oneCell']; done)); rfl; clear hS; intro w hS; try simp only [putW]) | (refine storeN hS rfl rfl rfl rfl ?_ ?_ ?_ ?_; rfl; (focus (simp [Value.oneCell']; done)); (focus (simp; done)); clear hS; intro w hS; simp at hS; try simp only [putW]) | (refine alloc hS rfl rfl ?_; clear hS; intro mb w hS; simp only [putW]) | (refine box1 hS rfl rfl rfl rfl ?_; clear hS; intro mb w hS; try simp only [evW, putW] at hS; simp only [putW]) | (refine boxN hS rfl rfl rfl ?_; clear hS; intro mb w hS; simp only [putW]))
        refine bodyPost_ret (v := .bool false) (by simp [results, Try.results18]) rfl ⟨false, rfl, fun _ => hres.out, hS⟩
      · have hnk : n ≤ k := by omega
        have e1 : decide ((k : Int) < (n : Int)) = false := decide_eq_false (by omega)
        clear hkg
        go_wp2_with (first | (refine load1 hS rfl rfl rfl rfl ?_; simp only [putW]) | (refine loadAll hS rfl rfl rfl ?_ ?_; rfl; simp only [putW]) | (refine loadPart hS rfl rfl rfl ?_ rfl ?_; rfl; simp only [putW]) | (refine store1 hS rfl rfl rfl rfl rfl ?_ ?_; (focus (simp; done)); clear hS; intro w hS; simp only [evW, putW] at hS; try simp only [putW]) | (refine storeAll hS rfl rfl rfl rfl ?_ ?_ ?_ ?_; rfl; (focus (simp [Value.oneCell']; done)); rfl; clear hS; intro w hS; try simp only [putW]) | (refine storeN hS rfl rfl rfl rfl ?_ ?_ ?_ ?_; rfl; (focus (simp [Value.oneCell']; done)); (focus (simp; done)); clear hS; intro w hS; simp at hS; try simp only [putW]) | (refine alloc hS rfl rfl ?_; clear hS; intro mb w hS; simp only [putW]) | (refine box1 hS rfl rfl rfl rfl ?_; clear hS; intro mb w hS; try simp only [evW, putW] at hS; simp only [putW]) | (refine boxN hS rfl rfl rfl ?_; clear hS; intro mb w hS; simp only [putW]))
        refine bodyPost_ret (v := .bool false) (by simp [results, Try.results18]) rfl ⟨false, rfl, fun _ => hres.out, hS⟩
    | succ g =>
      have hkn : k < n := by omega
      have hk120 : k < 120 := by omega
      have e1 : decide ((k : Int) < (n : Int)) = true := decide_eq_true (by omega)
      have e2 : decide ((k : Int) < 120) = true := decide_eq_true (by omega)
      obtain ⟨x, hx⟩ : ∃ x, L[k]? = some x := ⟨_, List.getElem?_eq_getElem (by rw [HN.out]; exact hkn)⟩
      obtain ⟨b, off, hpa, hB⟩ := HAT.out (fun h => by rw [h] at hx; cases hx)
      subst hpa
      have hin : AcIn w0 x := (hB.2 k x hx).1
      obtain ⟨⟨kd, tk, ky⟩, ⟨bv, B⟩, wr1, by1⟩ := x
      obtain ⟨q, cb, hbv, hlm, -⟩ := BSl.at (n := 1) hin
      have hbv' : bv = .slice q B.length cb := hbv
      subst hbv'
      have Hx : Bx _ := ⟨hx⟩
      have hsh : ∀ i x, i < k → L[i]? = some x → x.2.1.2.length ≤ 1000 := HO.out
      obtain ⟨lb, hlb⟩ : ∃ lb, B.length = lb := ⟨_, rfl⟩
      have hlm2 : lb ≤ 9223372036854775807 := by rw [← hlb]; exact hlm
      have HLB : Bx _ := ⟨hlb⟩
      have hv3 : (acF ((kd, tk, ky), (Value.slice q B.length cb, B), wr1, by1))[3]? = some (.slice q lb cb) := by rw [← hlb]; rfl
      have HV3 : Bx _ := ⟨hv3⟩
      clear hin hx HAT hsh hlb hlm hbv hv3
      by_cases hg : 1000 < lb
      · have e3 : decide ((1000 : Int) < (lb : Int)) = true := decide_eq_true (by omega)
        go_wp2_with (first | (refine loadB (f := acF) hS rfl rfl rfl hB k 3 ?_ Hx.out HV3.out ?_; omega; simp only [putW]) | (refine load1 hS rfl rfl rfl rfl ?_; simp only [putW]) | (refine loadAll hS rfl rfl rfl ?_ ?_; rfl; simp only [putW]) | (refine loadPart hS rfl rfl rfl ?_ rfl ?_; rfl; simp only [putW]) | (refine store1 hS rfl rfl rfl rfl rfl ?_ ?_; (focus (simp; done)); clear hS; intro w hS; simp only [evW, putW] at hS; try simp only [putW]) | (refine storeAll hS rfl rfl rfl rfl ?_ ?_ ?_ ?_; rfl; (focus (simp [Value.oneCell']; done)); rfl; clear hS; intro w hS; try simp only [putW]) | (refine storeN hS rfl rfl rfl rfl ?_ ?_ ?_ ?_; rfl; (focus (simp [Value.oneCell']; done)); (focus (simp; done)); clear hS; intro w hS; simp at hS; try simp only [putW]) | (refine alloc hS rfl rfl ?_; clear hS; intro mb w hS; simp only [putW]) | (refine box1 hS rfl rfl rfl rfl ?_; clear hS; intro mb w hS; try simp only [evW, putW] at hS; simp only [putW]) | (refine boxN hS rfl rfl rfl ?_; clear hS; intro mb w hS; simp only [putW]))
        refine bodyPost_ret (v := .bool true) (by simp [results, Try.results18]) rfl ⟨true, rfl, fun h => (by cases h), hS⟩
      · have e3 : decide ((1000 : Int) < (lb : Int)) = false := decide_eq_false (by omega)
        have hle : lb ≤ 1000 := by omega
        go_wp2_with (first | (refine loadB (f := acF) hS rfl rfl rfl hB k 3 ?_ Hx.out HV3.out ?_; omega; simp only [putW]) | (refine load1 hS rfl rfl rfl rfl ?_; simp only [putW]) | (refine loadAll hS rfl rfl rfl ?_ ?_; rfl; simp only [putW]) | (refine loadPart hS rfl rfl rfl ?_ rfl ?_; rfl; simp only [putW]) | (refine store1 hS rfl rfl rfl rfl rfl ?_ ?_; (focus (simp; done)); clear hS; intro w hS; simp only [evW, putW] at hS; try simp only [putW]) | (refine storeAll hS rfl rfl rfl rfl ?_ ?_ ?_ ?_; rfl; (focus (simp [Value.oneCell']; done)); rfl; clear hS; intro w hS; try simp only [putW]) | (refine storeN hS rfl rfl rfl rfl ?_ ?_ ?_ ?_; rfl; (focus (simp [Value.oneCell']; done)); (focus (simp; done)); clear hS; intro w hS; simp at hS; try simp only [putW]) | (refine alloc hS rfl rfl ?_; clear hS; intro mb w hS; simp only [putW]) | (refine box1 hS rfl rfl rfl rfl ?_; clear hS; intro mb w hS; try simp only [evW, putW] at hS; simp only [putW]) | (refine boxN hS rfl rfl rfl ?_; clear hS; intro mb w hS; simp only [putW]))
        go_roundg g
        case measure => omega
        case rel => exact ⟨k + 1, by omega, by go_num, ⟨fun i x hi hx => by
          by_cases hik : i < k
          · exact HO.out i x hik hx
          · have : i = k := by omega
            subst this
            have h1 := hx.symm.trans Hx.out
            cases h1
            rw [show (((kd, tk, ky), (Value.slice q B.length cb, B), wr1, by1) : Ac13).2.1.2 = B from rfl, HLB.out]
            exact hle⟩, hS⟩
end
end Go.Proofs.Ytlkoclalcfeniaa
