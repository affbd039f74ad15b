/-
  thimblelaw25.ScriptDecodes.
-/
import Derived.Test.YtpbjkfomdindnaaGreatDoorScY
set_option linter.unusedSimpArgs false
set_option linter.unusedVariables false
namespace Go.Proofs.YtpbjkfomdindnaaGreatDoor
open Go.RowKit Go.Shelf Go.Proofs.YtpbjkfomdindnaaGreatDoor.Sl Go.Proofs.YtpbjkfomdindnaaGreatDoor.Jp Go.Proofs.YtpbjkfomdindnaaGreatDoor.Sc

section
variable {w0 : World} {A : List Int} {v : Value}
theorem eqv_refl (s : St) : eqv s s := ⟨rfl, rfl, rfl, rfl, rfl, rfl, rfl, rfl, rfl⟩
theorem same_maps {X Y : List SV} {D : List St} (hX : X.map (·.s) = D) (hY : Y.map (·.s) = D) : X.length = Y.length ∧ ∀ (i : Nat) (x y : SV), X[i]? = some x → Y[i]? = some y → eqv x.s y.s := by
  refine ⟨?_, fun i x y hx hy => ?_⟩
  · have := congrArg List.length (hX.trans hY.symm)
    simpa using this
  have h1 : (X.map (·.s))[i]? = some x.s := by rw [List.getElem?_map, hx]; rfl
  have h2 : (Y.map (·.s))[i]? = some y.s := by rw [List.getElem?_map, hy]; rfl
  rw [hX, ← hY, h2] at h1
  have : y.s = x.s := by simpa using h1
  rw [this]
  exact eqv_refl _
theorem inc_b (y : Int) : IntKind.wrap .u8 y ≥ 0 ∧ IntKind.wrap .u8 y < 256 := by
  simp [IntKind.wrap, IntKind.bits, IntKind.signed]
  omega
set_option maxRecDepth 100000 in
set_option maxHeartbeats 4000000 in
theorem scriptDecodes_any (hK : KV w0) (hv : RB w0 A v) : Calls Tryz.prog 4 #[v] w0 fun e w' => e = .returned (.bool true) ∧ Sat w0 [] w' := by
  have hS := Sat.refl w0
  have HK : Bx _ := ⟨hK⟩
  have HV : Bx (RB w0 A v) := ⟨hv⟩
  have hax := hv
  obtain ⟨q, c, rfl, h1, h2⟩ := BSl.at hv
  clear hK hv
  by_cases hl : 9000 < A.length
  · go_enter Tryz.func4, Tryz.ntmps4
    go_wp2_with (first | (go_at_call 9; refine Calls.mono (awake_any (HK.out.mono hS.base)) ?_; rintro _ w2 ⟨rfl, h2⟩; replace hS := hS.frame h2; clear h2; (try simp only [List.cons_append, List.nil_append] at hS); simp only [putW]) | (refine load1 hS rfl rfl rfl rfl ?_; simp only [putW]) | (refine loadAll hS rfl rfl rfl ?_ ?_; rfl; simp only [putW]) | (refine loadPart hS rfl rfl rfl ?_ rfl ?_; rfl; simp only [putW]) | (refine store1 hS rfl rfl rfl rfl rfl ?_ ?_; (focus (simp; done)); clear hS; intro w hS; simp only [evW, putW] at hS; try simp only [putW]) | (refine storeAll hS rfl rfl rfl rfl ?_ ?_ ?_ ?_; rfl; (focus (simp [Value.oneCell']; done)); rfl; clear hS; intro w hS; try simp only [putW]) | (refine storeN hS rfl rfl rfl rfl ?_ ?_ ?_ ?_; rfl; (focus (simp [Value.oneCell']; done)); (focus (simp; done)); clear hS; intro w hS; simp at hS; try simp only [putW]) | (refine alloc hS rfl rfl ?_; clear hS; intro mb w hS; simp only [putW]) | (refine box1 hS rfl rfl rfl rfl ?_; clear hS; intro mb w hS; try simp only [evW, putW] at hS; simp only [putW]) | (refine boxN hS rfl rfl rfl ?_; clear hS; intro mb w hS; simp only [putW]))
    go_ret
    exact ⟨rfl, hS⟩
  · go_enter Tryz.func4, Tryz.ntmps4
    go_wp2_with (first | (refine buildSlice0 hS rfl rfl by8 ?_; clear hS; intro mb w hS; simp only [putW]) | (refine appendB (f := by8) hS rfl rfl (.slice (some ⟨mb, 0, none⟩) 0 0) rfl rfl A (hax.mono hS.base) ?_ ?_ ?_ ?_; (focus (simp [one, Value.oneCell']; done)); (focus (first | omega | (simp [maxLen]; done) | (simp [maxLen]; omega))); (focus (first | omega | (simp [maxLen]; done) | (simp [maxLen]; omega))); clear hS; intro v' w hS; simp only [putW]) | (guard_target =~ Calls _ 13 _ _ _; refine Stopped.out ?_) | (refine load1 hS rfl rfl rfl rfl ?_; simp only [putW]) | (refine loadAll hS rfl rfl rfl ?_ ?_; rfl; simp only [putW]) | (refine loadPart hS rfl rfl rfl ?_ rfl ?_; rfl; simp only [putW]) | (refine store1 hS rfl rfl rfl rfl rfl ?_ ?_; (focus (simp; done)); clear hS; intro w hS; simp only [evW, putW] at hS; try simp only [putW]) | (refine storeAll hS rfl rfl rfl rfl ?_ ?_ ?_ ?_; rfl; (focus (simp [Value.oneCell']; done)); rfl; clear hS; intro w hS; try simp only [putW]) | (refine storeN hS rfl rfl rfl rfl ?_ ?_ ?_ ?_; rfl; (focus (simp [Value.oneCell']; done)); (focus (simp; done)); clear hS; intro w hS; simp at hS; try simp only [putW]) | (refine alloc hS rfl rfl ?_; clear hS; intro mb w hS; simp only [putW]) | (refine box1 hS rfl rfl rfl rfl ?_; clear hS; intro mb w hS; try simp only [evW, putW] at hS; simp only [putW]) | (refine boxN hS rfl rfl rfl ?_; clear hS; intro mb w hS; simp only [putW]))
    refine ⟨?_⟩
    rw [List.nil_append] at hS
    refine Calls.mono (sdecode_any (A := A) (Sat.readsSl (v := v') hS HV.out.all)) ?_
    rintro _ w ⟨X, vo, rfl, hD, hok, h3⟩
    replace hS := hS.frame h3
    clear h3
    simp only [List.cons_append, List.nil_append] at hS
    have HO : Bx (∀ x ∈ X, SOk x.s) := ⟨hok⟩
    have HD : Bx (X.map (·.s) = decodeS A) := ⟨hD⟩
    clear hD hok
    obtain ⟨qi, ci, rfl⟩ := slForm2 hS (v := v') (A := A)
    simp only [putW]
    go_wp2_with (first | (refine load1 hS rfl rfl rfl rfl ?_; simp only [putW]) | (refine loadAll hS rfl rfl rfl ?_ ?_; rfl; simp only [putW]) | (refine loadPart hS rfl rfl rfl ?_ rfl ?_; rfl; simp only [putW]) | (refine store1 hS rfl rfl rfl rfl rfl ?_ ?_; (focus (simp; done)); clear hS; intro w hS; simp only [evW, putW] at hS; try simp only [putW]) | (refine storeAll hS rfl rfl rfl rfl ?_ ?_ ?_ ?_; rfl; (focus (simp [Value.oneCell']; done)); rfl; clear hS; intro w hS; try simp only [putW]) | (refine storeN hS rfl rfl rfl rfl ?_ ?_ ?_ ?_; rfl; (focus (simp [Value.oneCell']; done)); (focus (simp; done)); clear hS; intro w hS; simp at hS; try simp only [putW]) | (refine alloc hS rfl rfl ?_; clear hS; intro mb w hS; simp only [putW]) | (refine box1 hS rfl rfl rfl rfl ?_; clear hS; intro mb w hS; try simp only [evW, putW] at hS; simp only [putW]) | (refine boxN hS rfl rfl rfl ?_; clear hS; intro mb w hS; simp only [putW]))
    go_loopw [5] (fun j wr => ∃ (k : Nat) (B : List Int), k ≤ A.length ∧ j = .int .i64 (k : Int) ∧ Bx (B.length = A.length ∧ ∀ j, k ≤ j → B[j]? = A[j]?) ∧ Sat w0 ((blk (.slice qi A.length ci), sl 1 by8 B 5 (.slice qi A.length ci)) :: (blk vo, sl 9 svF X 29 vo) :: (77, stepsC X) :: []) wr) (fun j _ => A.length - (intOf j).toNat)
    case atStart => exact ⟨0, A, Nat.zero_le _, rfl, ⟨rfl, fun _ _ => rfl⟩, hS.conv⟩
    case round =>
      clear hS
      obtain ⟨k, B, hk, rfl, HB, hS⟩ := hrel
      by_cases hlt : k < A.length
      · obtain ⟨x, hx⟩ : ∃ x, A[k]? = some x := ⟨_, List.getElem?_eq_getElem hlt⟩
        have hx2 := HV.out.all x (List.mem_of_getElem? hx)
        unfold okByte at hx2
        obtain ⟨b, o, rfl, hA⟩ := h2 (by intro e; subst e; simp at hlt)
        have HA : Bx (BAt w0 1 by8 okByte A b o) := ⟨hA⟩
        have Hx : Bx (A[k]? = some x) := ⟨hx⟩
        have Hb : Bx (B[k]? = some x) := ⟨by rw [HB.out.2 k (Nat.le_refl _)]; exact hx⟩
        obtain ⟨gi, ci', e, hS2⟩ := hS.slFormC A.length HB.out.1 (by omega)
        clear hS
        cases e
        have hS := hS2
        clear hS2 hA h2
        have hBl : B.length = A.length := HB.out.1
        have hwx : IntKind.u8.wrap x = x := by simp [IntKind.wrap, IntKind.bits, IntKind.signed]; omega
        go_wp2_with (first | (refine load1 hS rfl rfl rfl rfl ?_; simp only [putW]) | (refine loadAll hS rfl rfl rfl ?_ ?_; rfl; simp only [putW]) | (refine loadPart hS rfl rfl rfl ?_ rfl ?_; rfl; simp only [putW]) | (refine store1 hS rfl rfl rfl rfl rfl ?_ ?_; (focus (simp; done)); clear hS; intro w hS; simp only [evW, putW] at hS; try simp only [putW]) | (refine storeAll hS rfl rfl rfl rfl ?_ ?_ ?_ ?_; rfl; (focus (simp [Value.oneCell']; done)); rfl; clear hS; intro w hS; try simp only [putW]) | (refine storeN hS rfl rfl rfl rfl ?_ ?_ ?_ ?_; rfl; (focus (simp [Value.oneCell']; done)); (focus (simp; done)); clear hS; intro w hS; simp at hS; try simp only [putW]) | (refine alloc hS rfl rfl ?_; clear hS; intro mb w hS; simp only [putW]) | (refine box1 hS rfl rfl rfl rfl ?_; clear hS; intro mb w hS; try simp only [evW, putW] at hS; simp only [putW]) | (refine boxN hS rfl rfl rfl ?_; clear hS; intro mb w hS; simp only [putW]))
        (refine region_quiet hS (by kernel_rfl) (by kernel_rfl) (by kernel_rfl) ?_; clear hS; (repeat (first | (refine quiet_skip rfl ?_; simp only [putW]) | (apply quiet_run rfl; (focus (intro w hS; go_wp2_with (first | (refine loadB (f := by8) hS rfl rfl rfl HA.out k 0 ?_ Hx.out rfl ?_; omega; simp only [putW]) | (refine loadS (f := by8) hS rfl rfl rfl k 0 ?_ Hb.out rfl ?_ ?_; omega; omega; simp only [putW]) | (refine load1 hS rfl rfl rfl rfl ?_; simp only [putW]) | (refine loadAll hS rfl rfl rfl ?_ ?_; rfl; simp only [putW]) | (refine loadPart hS rfl rfl rfl ?_ rfl ?_; rfl; simp only [putW])); exact ⟨rfl, rfl, hS⟩)); simp only [putW]))); refine quiet_nil ?_; intro w hS)
        go_wp2_with (first | (refine loadS1 (v1 := Value.int .u8) hS rfl rfl rfl Hb.out ?_; simp only [putW]) | (refine storeS1 (v1 := Value.int .u8) hS rfl rfl rfl _ rfl rfl ?_ ?_; (focus (first | omega | (simp [maxLen]; done) | (simp [maxLen]; omega))); clear hS; intro w hS; try simp only [putW]) | (refine load1 hS rfl rfl rfl rfl ?_; simp only [putW]) | (refine loadAll hS rfl rfl rfl ?_ ?_; rfl; simp only [putW]) | (refine loadPart hS rfl rfl rfl ?_ rfl ?_; rfl; simp only [putW]) | (refine store1 hS rfl rfl rfl rfl rfl ?_ ?_; (focus (simp; done)); clear hS; intro w hS; simp only [evW, putW] at hS; try simp only [putW]) | (refine storeAll hS rfl rfl rfl rfl ?_ ?_ ?_ ?_; rfl; (focus (simp [Value.oneCell']; done)); rfl; clear hS; intro w hS; try simp only [putW]) | (refine storeN hS rfl rfl rfl rfl ?_ ?_ ?_ ?_; rfl; (focus (simp [Value.oneCell']; done)); (focus (simp; done)); clear hS; intro w hS; simp at hS; try simp only [putW]) | (refine alloc hS rfl rfl ?_; clear hS; intro mb w hS; simp only [putW]) | (refine box1 hS rfl rfl rfl rfl ?_; clear hS; intro mb w hS; try simp only [evW, putW] at hS; simp only [putW]) | (refine boxN hS rfl rfl rfl ?_; clear hS; intro mb w hS; simp only [putW]))
        have hS2 := hS.slOfSlc
        clear hS
        have hS := hS2
        clear hS2
        go_roundw
        case rel =>
          refine ⟨k + 1, B.set k ((x + 1) % 256), by omega, by go_num, ⟨by rw [List.length_set]; exact hBl, fun j hj => ?_⟩, ?_⟩
          · rw [List.getElem?_set_ne (by omega)]; exact HB.out.2 j (by omega)
          · rw [List.length_set, hBl] at hS
            exact hS.conv
        case measure => simp only [intOf]; omega
      · have HX : Bx (RSs wr X vo) := ⟨Sl.Sat.readsAll (v := vo) hS HO.out⟩
        go_wp2_with (first | (guard_target =~ Calls _ 15 _ _ _; refine Stopped.out ?_) | (refine load1 hS rfl rfl rfl rfl ?_; simp only [putW]) | (refine loadAll hS rfl rfl rfl ?_ ?_; rfl; simp only [putW]) | (refine loadPart hS rfl rfl rfl ?_ rfl ?_; rfl; simp only [putW]) | (refine store1 hS rfl rfl rfl rfl rfl ?_ ?_; (focus (simp; done)); clear hS; intro w hS; simp only [evW, putW] at hS; try simp only [putW]) | (refine storeAll hS rfl rfl rfl rfl ?_ ?_ ?_ ?_; rfl; (focus (simp [Value.oneCell']; done)); rfl; clear hS; intro w hS; try simp only [putW]) | (refine storeN hS rfl rfl rfl rfl ?_ ?_ ?_ ?_; rfl; (focus (simp [Value.oneCell']; done)); (focus (simp; done)); clear hS; intro w hS; simp at hS; try simp only [putW]) | (refine alloc hS rfl rfl ?_; clear hS; intro mb w hS; simp only [putW]) | (refine box1 hS rfl rfl rfl rfl ?_; clear hS; intro mb w hS; try simp only [evW, putW] at hS; simp only [putW]) | (refine boxN hS rfl rfl rfl ?_; clear hS; intro mb w hS; simp only [putW]))
        refine ⟨?_⟩
        refine Calls.mono (rdecode_any (HV.out.mono hS.base) (by omega)) ?_
        rintro _ w ⟨Y, vy, rfl, hE, hok, h3⟩
        have HY : Bx (RSs w Y vy) := ⟨Sl.Sat.readsAll (v := vy) h3 hok⟩
        have HX2 : Bx (RSs w X vo) := ⟨HX.out.mono h3.base⟩
        have HM := same_maps HD.out hE
        have HM1 : Bx _ := ⟨HM.1⟩
        have HM2 : Bx _ := ⟨HM.2⟩
        clear HX hE hok HM
        have hS0 : Sat w0 [] w := (hS.frame h3).nothing
        clear hS h3
        have hS := hS0
        clear hS0
        simp only [putW]
        go_wp2_with (first | (go_at_call 14; refine Calls.mono (sameAll_true (HX2.out) (HY.out) HM1.out HM2.out) ?_; rintro _ w2 ⟨rfl, h2⟩; replace hS := hS.frame h2; clear h2; (try simp only [List.cons_append, List.nil_append] at hS); simp only [putW]) | (go_at_call 9; refine Calls.mono (awake_any (HK.out.mono hS.base)) ?_; rintro _ w2 ⟨rfl, h2⟩; replace hS := hS.frame h2; clear h2; (try simp only [List.cons_append, List.nil_append] at hS); simp only [putW]) | (refine load1 hS rfl rfl rfl rfl ?_; simp only [putW]) | (refine loadAll hS rfl rfl rfl ?_ ?_; rfl; simp only [putW]) | (refine loadPart hS rfl rfl rfl ?_ rfl ?_; rfl; simp only [putW]) | (refine store1 hS rfl rfl rfl rfl rfl ?_ ?_; (focus (simp; done)); clear hS; intro w hS; simp only [evW, putW] at hS; try simp only [putW]) | (refine storeAll hS rfl rfl rfl rfl ?_ ?_ ?_ ?_; rfl; (focus (simp [Value.oneCell']; done)); rfl; clear hS; intro w hS; try simp only [putW]) | (refine storeN hS rfl rfl rfl rfl ?_ ?_ ?_ ?_; rfl; (focus (simp [Value.oneCell']; done)); (focus (simp; done)); clear hS; intro w hS; simp at hS; try simp only [putW]) | (refine alloc hS rfl rfl ?_; clear hS; intro mb w hS; simp only [putW]) | (refine box1 hS rfl rfl rfl rfl ?_; clear hS; intro mb w hS; try simp only [evW, putW] at hS; simp only [putW]) | (refine boxN hS rfl rfl rfl ?_; clear hS; intro mb w hS; simp only [putW]))
        go_ret
        exact ⟨rfl, hS⟩
end
end Go.Proofs.YtpbjkfomdindnaaGreatDoor
