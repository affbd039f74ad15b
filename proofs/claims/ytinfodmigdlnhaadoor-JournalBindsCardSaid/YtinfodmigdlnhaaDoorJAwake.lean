/-
  The law's example; what is too great; arguments that come in.
-/
import Derived.Test.YtinfodmigdlnhaaDoorJHeadN
import Derived.Test.YtinfodmigdlnhaaDoorJ02
import Derived.WalkKit
import Derived.ProofKit
import Derived.OpenShut
import Derived.ShutString
import Derived.ChangeOld
import Derived.Below
set_option linter.unusedSimpArgs false
set_option linter.unusedVariables false
namespace Go.Proofs.YtinfodmigdlnhaaDoor.JournalOpensDone
open Go.ChangeShapes Go.WideShapes Go.ChangeAt Go.RowKit Go.Proofs.YtinfodmigdlnhaaDoor Go.Proofs.YtinfodmigdlnhaaDoor.Sl Go.Proofs.YtinfodmigdlnhaaDoor.Jp

section
variable {w0 : World} {X : List (Value × List Int)} {vh : Value}
/-- How much there is, up to a place. -/
def sizeTo (X : List (Value × List Int)) (k : Nat) : Nat := k + (cat (X.take k)).length
set_option maxHeartbeats 400000 in
theorem great2_any (hX : RR w0 X vh) : Calls Tryd.prog 29 #[vh] w0 fun e w' => ∃ r, e = .returned (.bool r) ∧ (r = false → (cat X).length + X.length ≤ 5000) ∧ Sat w0 [] w' := by
  have hS := Sat.refl w0
  obtain ⟨ph, ch, rfl, hlh, hath⟩ := hX.at
  clear hX
  go_enter Tryd.func29, Tryd.ntmps29
  go_wp2
  go_loopw [3, 4] (fun nn i wr => ∃ (k m : Nat), k ≤ X.length ∧ i = .int .i64 (k : Int) ∧ nn = .int .i64 (m : Int) ∧ Hid (m ≤ 10002) ∧ Hid (m ≤ 5000 → (cat (X.take k)).length + k ≤ m) ∧ Sat w0 [] wr) (fun _ i _ => X.length - (intOf i).toNat)
  case atStart => exact ⟨0, 0, Nat.zero_le _, rfl, rfl, Nat.zero_le _, fun _ => (by simp [cat] : (cat (X.take 0)).length + 0 ≤ 0), hS⟩
  case round =>
    clear hS
    obtain ⟨k, m, hk, rfl, rfl, hm, hcl, hS⟩ := hrel
    have hm2 := hm.out
    by_cases hlt : k < X.length
    · by_cases hm5 : m ≤ 5000
      · obtain ⟨⟨zv, zl⟩, hz⟩ : ∃ z, X[k]? = some z := ⟨_, List.getElem?_eq_getElem hlt⟩
        obtain ⟨bh, oh, rfl, hBh⟩ := hath (by intro e; subst e; simp at hlt)
        have hrz : RB w0 zl zv := (hBh.2 k _ hz).1
        obtain ⟨pz, cz, rfl, hzl, _⟩ := hrz.at
        have hct := cat_take hz
        have Hct : Hid _ := hct
        clear hct
        have hc5 := hcl.out hm5
        by_cases hz5 : zl.length ≤ 5001
        · go_wp2_with (first | (refine loadB (f := rowF) hS rfl rfl rfl hBh k 0 ?_ hz rfl ?_; omega; simp only [putW]) | (refine load1 hS rfl rfl rfl rfl ?_; simp only [putW]) | (refine loadAll hS rfl rfl rfl ?_ ?_; rfl; simp only [putW]) | (refine loadPart hS rfl rfl rfl ?_ rfl ?_; rfl; simp only [putW]) | (refine store1 hS rfl rfl rfl rfl rfl ?_ ?_; (focus (simp; done)); clear hS; intro w hS; simp only [evW, putW] at hS; try simp only [putW]) | (refine storeAll hS rfl rfl rfl rfl ?_ ?_ ?_ ?_; rfl; (focus (simp [Value.oneCell']; done)); rfl; clear hS; intro w hS; try simp only [putW]) | (refine storeN hS rfl rfl rfl rfl ?_ ?_ ?_ ?_; rfl; (focus (simp [Value.oneCell']; done)); (focus (simp; done)); clear hS; intro w hS; simp at hS; try simp only [putW]) | (refine alloc hS rfl rfl ?_; clear hS; intro mb w hS; simp only [putW]) | (refine box1 hS rfl rfl rfl rfl ?_; clear hS; intro mb w hS; try simp only [evW, putW] at hS; simp only [putW]) | (refine boxN hS rfl rfl rfl ?_; clear hS; intro mb w hS; simp only [putW]))
          go_roundw
          case rel => exact ⟨k + 1, m + 1 + zl.length, by omega, by go_num, by go_num, by show _ ≤ _; omega, fun _ => by rw [Hct.out, List.length_append]; show _ + zl.length + (k + 1) ≤ _; omega, hS⟩
          case measure => first | (simp [intOf]; done) | (simp [intOf]; omega)
        · have hz6 : 5001 < zl.length := by omega
          go_wp2_with (first | (refine loadB (f := rowF) hS rfl rfl rfl hBh k 0 ?_ hz rfl ?_; omega; simp only [putW]) | (refine load1 hS rfl rfl rfl rfl ?_; simp only [putW]) | (refine loadAll hS rfl rfl rfl ?_ ?_; rfl; simp only [putW]) | (refine loadPart hS rfl rfl rfl ?_ rfl ?_; rfl; simp only [putW]) | (refine store1 hS rfl rfl rfl rfl rfl ?_ ?_; (focus (simp; done)); clear hS; intro w hS; simp only [evW, putW] at hS; try simp only [putW]) | (refine storeAll hS rfl rfl rfl rfl ?_ ?_ ?_ ?_; rfl; (focus (simp [Value.oneCell']; done)); rfl; clear hS; intro w hS; try simp only [putW]) | (refine storeN hS rfl rfl rfl rfl ?_ ?_ ?_ ?_; rfl; (focus (simp [Value.oneCell']; done)); (focus (simp; done)); clear hS; intro w hS; simp at hS; try simp only [putW]) | (refine alloc hS rfl rfl ?_; clear hS; intro mb w hS; simp only [putW]) | (refine box1 hS rfl rfl rfl rfl ?_; clear hS; intro mb w hS; try simp only [evW, putW] at hS; simp only [putW]) | (refine boxN hS rfl rfl rfl ?_; clear hS; intro mb w hS; simp only [putW]))
          go_roundw
          case rel => exact ⟨k + 1, m + 1 + 5001, by omega, by go_num, by go_num, by show _ ≤ _; omega, fun h => by omega, hS⟩
          case measure => first | (simp [intOf]; done) | (simp [intOf]; omega)
      · go_wp2_with (first | (refine load1 hS rfl rfl rfl rfl ?_; simp only [putW]) | (refine loadAll hS rfl rfl rfl ?_ ?_; rfl; simp only [putW]) | (refine loadPart hS rfl rfl rfl ?_ rfl ?_; rfl; simp only [putW]) | (refine store1 hS rfl rfl rfl rfl rfl ?_ ?_; (focus (simp; done)); clear hS; intro w hS; simp only [evW, putW] at hS; try simp only [putW]) | (refine storeAll hS rfl rfl rfl rfl ?_ ?_ ?_ ?_; rfl; (focus (simp [Value.oneCell']; done)); rfl; clear hS; intro w hS; try simp only [putW]) | (refine storeN hS rfl rfl rfl rfl ?_ ?_ ?_ ?_; rfl; (focus (simp [Value.oneCell']; done)); (focus (simp; done)); clear hS; intro w hS; simp at hS; try simp only [putW]) | (refine alloc hS rfl rfl ?_; clear hS; intro mb w hS; simp only [putW]) | (refine box1 hS rfl rfl rfl rfl ?_; clear hS; intro mb w hS; try simp only [evW, putW] at hS; simp only [putW]) | (refine boxN hS rfl rfl rfl ?_; clear hS; intro mb w hS; simp only [putW]))
        go_ret
        exact ⟨true, by first | (simp; done) | (simp; omega), by simp, hS⟩
    · have hkx : k = X.length := by omega
      by_cases hm5 : m ≤ 5000
      · have hc5 := hcl.out hm5
        rw [hkx, List.take_of_length_le (Nat.le_refl _)] at hc5
        go_wp2_with (first | (refine load1 hS rfl rfl rfl rfl ?_; simp only [putW]) | (refine loadAll hS rfl rfl rfl ?_ ?_; rfl; simp only [putW]) | (refine loadPart hS rfl rfl rfl ?_ rfl ?_; rfl; simp only [putW]) | (refine store1 hS rfl rfl rfl rfl rfl ?_ ?_; (focus (simp; done)); clear hS; intro w hS; simp only [evW, putW] at hS; try simp only [putW]) | (refine storeAll hS rfl rfl rfl rfl ?_ ?_ ?_ ?_; rfl; (focus (simp [Value.oneCell']; done)); rfl; clear hS; intro w hS; try simp only [putW]) | (refine storeN hS rfl rfl rfl rfl ?_ ?_ ?_ ?_; rfl; (focus (simp [Value.oneCell']; done)); (focus (simp; done)); clear hS; intro w hS; simp at hS; try simp only [putW]) | (refine alloc hS rfl rfl ?_; clear hS; intro mb w hS; simp only [putW]) | (refine box1 hS rfl rfl rfl rfl ?_; clear hS; intro mb w hS; try simp only [evW, putW] at hS; simp only [putW]) | (refine boxN hS rfl rfl rfl ?_; clear hS; intro mb w hS; simp only [putW]))
        go_ret
        exact ⟨false, by first | (simp; done) | (simp; omega), fun _ => by omega, hS⟩
      · go_wp2_with (first | (refine load1 hS rfl rfl rfl rfl ?_; simp only [putW]) | (refine loadAll hS rfl rfl rfl ?_ ?_; rfl; simp only [putW]) | (refine loadPart hS rfl rfl rfl ?_ rfl ?_; rfl; simp only [putW]) | (refine store1 hS rfl rfl rfl rfl rfl ?_ ?_; (focus (simp; done)); clear hS; intro w hS; simp only [evW, putW] at hS; try simp only [putW]) | (refine storeAll hS rfl rfl rfl rfl ?_ ?_ ?_ ?_; rfl; (focus (simp [Value.oneCell']; done)); rfl; clear hS; intro w hS; try simp only [putW]) | (refine storeN hS rfl rfl rfl rfl ?_ ?_ ?_ ?_; rfl; (focus (simp [Value.oneCell']; done)); (focus (simp; done)); clear hS; intro w hS; simp at hS; try simp only [putW]) | (refine alloc hS rfl rfl ?_; clear hS; intro mb w hS; simp only [putW]) | (refine box1 hS rfl rfl rfl rfl ?_; clear hS; intro mb w hS; try simp only [evW, putW] at hS; simp only [putW]) | (refine boxN hS rfl rfl rfl ?_; clear hS; intro mb w hS; simp only [putW]))
        go_ret
        exact ⟨true, by first | (simp; done) | (simp; omega), by simp, hS⟩
theorem great_any (hX : RR w0 X vh) : Calls Tryd.prog 29 #[vh] w0 fun e w' => ∃ r, e = .returned (.bool r) ∧ (r = false → (cat X).length ≤ 5000) ∧ Sat w0 [] w' :=
  (great2_any hX).mono fun _ _ ⟨r, h1, h2, h3⟩ => ⟨r, h1, fun h => by have := h2 h; omega, h3⟩
def row1 : List Int := ((full 1 [5] 4).drop (256 * 0)).take 256
theorem row1_facts : row1.length = 256 ∧ row1[7]? = some 1 ∧ row1[11]? = some 1 ∧ row1[15]? = some 5 := by decide +kernel
set_option maxRecDepth 100000 in
set_option maxHeartbeats 1000000 in
theorem awake_any : Calls Tryd.prog 30 #[] w0 fun e w' => e = .returned (.bool true) ∧ Sat w0 [] w' := by
  have hS := Sat.refl w0
  go_enter Tryd.func30, Tryd.ntmps30
  go_wp2_with (first | (refine buildSlice1 (c := #[.int .i64 5]) hS rfl rfl rfl ?_ ?_ ?_ ?_; rfl; rfl; rfl; clear hS; intro mb w hS; simp only [putW]) | (guard_target =~ Calls _ 44 _ _ _; refine Stopped.out ?_) | (refine load1 hS rfl rfl rfl rfl ?_; simp only [putW]) | (refine loadAll hS rfl rfl rfl ?_ ?_; rfl; simp only [putW]) | (refine loadPart hS rfl rfl rfl ?_ rfl ?_; rfl; simp only [putW]) | (refine store1 hS rfl rfl rfl rfl rfl ?_ ?_; (focus (simp; done)); clear hS; intro w hS; simp only [evW, putW] at hS; try simp only [putW]) | (refine storeAll hS rfl rfl rfl rfl ?_ ?_ ?_ ?_; rfl; (focus (simp [Value.oneCell']; done)); rfl; clear hS; intro w hS; try simp only [putW]) | (refine storeN hS rfl rfl rfl rfl ?_ ?_ ?_ ?_; rfl; (focus (simp [Value.oneCell']; done)); (focus (simp; done)); clear hS; intro w hS; simp at hS; try simp only [putW]) | (refine alloc hS rfl rfl ?_; clear hS; intro mb w hS; simp only [putW]) | (refine box1 hS rfl rfl rfl rfl ?_; clear hS; intro mb w hS; try simp only [evW, putW] at hS; simp only [putW]) | (refine boxN hS rfl rfl rfl ?_; clear hS; intro mb w hS; simp only [putW]))
  refine ⟨?_⟩
  have hS1 : Sat w0 ((mb, slc 1 i64 [5] 1 3) :: []) w := hS.toSlc (l := [(5 : Int)]) (cap := 1) (n := 1) (f := i64) (by simp) (by simp) (by simp [maxLen]) (by simp [one]) (fun _ _ => rfl)
  have hr5 : RI w [5] (.slice (some ⟨mb, 0, none⟩) 1 1) := hS1.readsSlc (g := mb) (cap := 1) (fun _ _ => trivial)
  have hok : okL [5] 4 := by decide
  (refine Calls.mono (head_some 1 4 (by decide) hr5 hok) ?_; rintro _ w2 ⟨X', vo, g2, hX', rfl, h2⟩; replace hS := hS.frame h2; clear h2; (try simp only [List.cons_append, List.nil_append] at hS); simp only [putW])
  have hh : heads 4 = 1 := by decide
  rw [hh] at hX'
  obtain ⟨⟨bv, bl⟩, rfl⟩ : ∃ x, X' = [x] := by
    have h5 := congrArg List.length hX'
    rw [cut_length, List.length_map] at h5
    match X', h5 with
    | [x], _ => exact ⟨x, rfl⟩
  have hbl : bl = row1 := by
    have h6 : [bl] = cut (full 1 [5] 4) 1 := hX'
    rw [cut_succ] at h6
    have h7 := (List.cons.inj h6).1
    rw [h7]; rfl
  subst hbl
  obtain ⟨f1, f2, f3, f4⟩ := row1_facts
  obtain ⟨g3, c3, rfl, hS2⟩ := hS.slFormC 1 rfl (by omega)
  have hS3 := ((hS2.pull 0).innPull (X1 := []) (X2 := []) (v := bv) (A := row1) (t := 5))
  obtain ⟨g4, c4, rfl, hS4⟩ := hS3.slFormC 256 f1 (by omega)
  clear hS hS1 hS2 hS3 hX' hr5
  have hS := hS4
  clear hS4
  have hx0 : [((.slice (some ⟨g4, 0, none⟩) 256 c4 : Value), row1)][0]? = some (.slice (some ⟨g4, 0, none⟩) 256 c4, row1) := rfl
  go_wp2_with (first | (refine loadS (f := rowF) hS rfl rfl rfl 0 0 ?_ hx0 rfl ?_ ?_; omega; omega; simp only [putW]) | (refine loadS1 (v1 := Value.int .u8) hS rfl rfl rfl f2 ?_; simp only [putW]) | (refine loadS1 (v1 := Value.int .u8) hS rfl rfl rfl f3 ?_; simp only [putW]) | (refine loadS1 (v1 := Value.int .u8) hS rfl rfl rfl f4 ?_; simp only [putW]) | (refine load1 hS rfl rfl rfl rfl ?_; simp only [putW]) | (refine loadAll hS rfl rfl rfl ?_ ?_; rfl; simp only [putW]) | (refine loadPart hS rfl rfl rfl ?_ rfl ?_; rfl; simp only [putW]) | (refine store1 hS rfl rfl rfl rfl rfl ?_ ?_; (focus (simp; done)); clear hS; intro w hS; simp only [evW, putW] at hS; try simp only [putW]) | (refine storeAll hS rfl rfl rfl rfl ?_ ?_ ?_ ?_; rfl; (focus (simp [Value.oneCell']; done)); rfl; clear hS; intro w hS; try simp only [putW]) | (refine storeN hS rfl rfl rfl rfl ?_ ?_ ?_ ?_; rfl; (focus (simp [Value.oneCell']; done)); (focus (simp; done)); clear hS; intro w hS; simp at hS; try simp only [putW]) | (refine alloc hS rfl rfl ?_; clear hS; intro mb w hS; simp only [putW]) | (refine box1 hS rfl rfl rfl rfl ?_; clear hS; intro mb w hS; try simp only [evW, putW] at hS; simp only [putW]) | (refine boxN hS rfl rfl rfl ?_; clear hS; intro mb w hS; simp only [putW]))
  go_ret
  exact ⟨rfl, hS.nothing⟩

theorem byte_dec {w : World} {us : List Value} (h : OkL w [.int .u8] us) : ∃ x : Int, by8 x = us ∧ okByte x := by
  match us, h with
  | [a], ⟨ha, _⟩ =>
    cases ha with
    | int _ n hn => exact ⟨n, rfl, by simp [Lit.wf, IntKind.min, IntKind.max, IntKind.bits, IntKind.signed, okByte] at hn ⊢; omega⟩
theorem row_dec {w : World} {us : List Value} (h : OkL w [.sl [.int .u8]] us) : ∃ x : Value × List Int, rowF x = us ∧ RB w x.2 x.1 := by
  match us, h with
  | [a], ⟨ha, _⟩ =>
    obtain ⟨L, hL⟩ := toBSl (f := by8) (g := okByte) ha (by decide) fun us hu => byte_dec hu
    exact ⟨(a, L), rfl, hL⟩
end
end Go.Proofs.YtinfodmigdlnhaaDoor.JournalOpensDone
