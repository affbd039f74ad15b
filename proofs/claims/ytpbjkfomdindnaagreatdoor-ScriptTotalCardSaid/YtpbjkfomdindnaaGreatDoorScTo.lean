/-
  thimblelaw25.ScriptTotal, over script.same.
-/
import Derived.Test.YtpbjkfomdindnaaGreatDoorScPk
import Derived.Test.YtpbjkfomdindnaaGreatDoorScLi
import Derived.Test.YtpbjkfomdindnaaGreatDoorScTp
import Derived.Test.YtpbjkfomdindnaaGreatDoorScU
set_option linter.unusedSimpArgs false
set_option linter.unusedVariables false
namespace Go.Proofs.YtpbjkfomdindnaaGreatDoor
open Go.RowKit Go.Shelf Go.Proofs.YtpbjkfomdindnaaGreatDoor.Sl Go.Proofs.YtpbjkfomdindnaaGreatDoor.Jp Go.Proofs.YtpbjkfomdindnaaGreatDoor.Sc

theorem firstK_none {L : List Bs} (h : ∀ l ∈ L, l ≠ [] → parseS l ≠ none) : ∀ k, firstK L k = 0
  | 0 => rfl
  | k + 1 => by
    rw [firstK, if_pos (firstK_none h k), if_neg]
    rintro ⟨h1, h2⟩
    cases hg : L[k]? with
    | none => rw [List.getD_eq_getElem?_getD, hg] at h1; exact h1 rfl
    | some l =>
      rw [List.getD_eq_getElem?_getD, hg] at h1 h2
      exact h l (List.mem_of_getElem? hg) h1 h2
/-- Lines of small steps are read as they were. -/
theorem lines_all {D : List St} (hD : ∀ s ∈ D, Small s) (hl : D.length ≤ 1024) : linesS (textF 0 (D.map lineS)) = (D.map canS, 0, 0) := by
  have hne : ∀ l ∈ D.map lineS, (10 : UInt8) ∉ l ∧ l ≠ [] := fun l h => by
    obtain ⟨s, hs, rfl⟩ := List.mem_map.1 h
    exact ⟨line_free (hD s hs).pl, line_ne (hD s hs).wf (hD s hs).pl⟩
  have hf := textF_full (D.map lineS) 0 hne
  have hfull : fullL (splitC 10 (textF 0 (D.map lineS))) = D.map lineS := hf
  have hp : ∀ s ∈ D, parseS (lineS s) = some (canS s) := fun s hs => parseS_of (hD s hs).wf (hD s hs).pl
  unfold linesS linesL
  rw [hfull, List.length_map, if_neg (by omega), if_pos (firstK_none (fun l hl hn => ?_) _), List.map_map]
  · congr 1
    refine List.map_congr_left fun s hs => ?_
    show gotL (lineS s) = canS s
    unfold gotL
    rw [hp s hs]; rfl
  · have : l ∈ fullL (splitC 10 (textF 0 (D.map lineS))) := by
      unfold fullL
      exact List.mem_filter.2 ⟨hl, by simpa using hn⟩
    rw [hfull] at this
    obtain ⟨s, hs, rfl⟩ := List.mem_map.1 this
    rw [hp s hs]; simp
/-- Two strings behind one another. -/
theorem catL {P : Program} {ops : Array Oper} {rest : List Oper} {o : Oper} {a : Act} {Q : Exit → Act → World → Prop} {w : World} {t tr : TypeId} {x y : Operand} {l m : Bs} (hw : Region.wanted o (yielded ops a.tmps) = true) (ho : o.op = .binOp .add t x y tr) (hx : a.eval x = str l) (hy : a.eval y = str m)
    (hl : l.length + m.length ≤ 1000000) (k : wpList P ops Q rest (a.put o.dst (str (l ++ m))) w) : wpList P ops Q (o :: rest) a w := by
  refine wp_value hw (w' := w) ?_ k
  have hr : (binOp .add t (str l) (str m)).run P w = .ok (str (l ++ m)) w := run_string_add_lists w l m (by omega) (by omega)
  have hg : (eqGuard .add t x y (str l) (str m)).run P w = .ok () w := rfl
  simp [execOp, ho, hx, hy, hg, hr]
section
variable {w0 : World} {A : List Int} {v : Value}
theorem back_eqv {X Y : List SV} {D : List St} (hX : X.map (·.s) = D) (hY : Y.map (·.s) = D.map canS) : Y.length = X.length ∧ ∀ (i : Nat) (y x : SV), Y[i]? = some y → X[i]? = some x → eqv y.s x.s := by
  refine ⟨?_, fun i y x hy hx => ?_⟩
  · have := congrArg List.length hX
    have := congrArg List.length hY
    simp only [List.length_map] at *
    omega
  have h1 : (X.map (·.s))[i]? = some x.s := by rw [List.getElem?_map, hx]; rfl
  have h2 : (Y.map (·.s))[i]? = some y.s := by rw [List.getElem?_map, hy]; rfl
  rw [hX] at h1
  rw [hY, List.getElem?_map, h1] at h2
  have : canS x.s = y.s := by simpa using h2
  rw [← this]
  exact canS_eqv _
set_option maxRecDepth 100000 in
set_option maxHeartbeats 8000000 in
theorem scriptTotal_any (hsame : SameTells) (hK : KV w0) (hv : RB w0 A v) : Calls Tryz.prog 8 #[v] w0 fun e w' => e = .returned (.bool true) ∧ Sat w0 [] w' := by
  have hS := Sat.refl w0
  have HK : Bx (KV w0) := ⟨hK⟩
  have HQ : Bx SameTells := ⟨hsame⟩
  have HV : Bx (RB w0 A v) := ⟨hv⟩
  have HA : Bx (∀ x ∈ A, okByte x) := ⟨hv.all⟩
  obtain ⟨q, c, rfl, h1, -⟩ := BSl.at hv
  clear hK hv hsame
  by_cases hl : 2000 < A.length
  · go_enter Tryz.func8, Tryz.ntmps8
    go_wp2_with (go_at_call 9; refine Calls.mono (awake_any (HK.out.mono hS.base)) ?_; rintro _ w2 ⟨rfl, h2⟩; replace hS := hS.frame h2; clear h2; (try simp only [List.cons_append, List.nil_append] at hS); simp only [putW])
    go_ret
    exact ⟨rfl, hS⟩
  · go_enter Tryz.func8, Tryz.ntmps8
    go_wp2_with (guard_target =~ Calls _ 13 _ _ _; refine Stopped.out ?_)
    refine ⟨?_⟩
    refine Calls.mono (sdecode_any (HV.out.mono hS.base)) ?_
    rintro _ w ⟨X, vo, rfl, hD, hok, h3⟩
    replace hS := hS.frame h3
    clear h3
    simp only [List.cons_append, List.nil_append] at hS
    have hX : RSs w X vo := Sl.Sat.readsAll (v := vo) hS hok
    have HD : Bx (X.map (·.s) = decodeS A) := ⟨hD⟩
    have HX : Bx (RSs w X vo) := ⟨hX⟩
    obtain ⟨ua, uc, rfl, h1', h2'⟩ := BSl.at hX
    have HB2 : Bx (X ≠ [] → ∃ b o, ua = some ⟨b, o, none⟩ ∧ BAt w 9 svF (fun x => RSt w x.s x.o x.d x.f) X b o) := ⟨h2'⟩
    have HS0 : Bx (Sat w0 [] w) := ⟨hS.nothing⟩
    have HKw : Bx (KV w) := ⟨HK.out.mono hS.base⟩
    have hlen := decode_len A
    rw [← hD, List.length_map] at hlen
    obtain ⟨hl1, hl2, hl3⟩ := hlen
    have hsm : ∀ x ∈ X, Small x.s := fun x hx => decode_small (B := A) HA.out _ (by rw [← hD]; exact List.mem_map.2 ⟨x, hx, rfl⟩)
    have HM : Bx (∀ x ∈ X, Small x.s) := ⟨hsm⟩
    have hz : X.length = 0 → A.length = 0 := fun h0 => by
      by_cases hA : A = []
      · rw [hA]; rfl
      · exact absurd (by rw [List.length_eq_zero_iff.1 h0]; rfl) (hl3 hA)
    clear hl3
    clear hS hX hD hok h2' HV hsm
    have hS := Sat.refl w
    have d1 : decide ((1024 : Int) < (X.length : Int)) = false := decide_eq_false (by omega)
    have d1' : decide (1024 < X.length) = false := decide_eq_false (by omega)
    have d2 : decide ((A.length : Int) < (X.length : Int)) = false := decide_eq_false (by omega)
    have d2' : decide (A.length < X.length) = false := decide_eq_false (by omega)
    simp only [putW]
    by_cases h0 : X.length = 0
    · have hA0 := hz h0
      obtain rfl : X = [] := List.length_eq_zero_iff.1 h0
      have d3 : decide ((0 : Int) < (A.length : Int)) = false := decide_eq_false (by omega)
      have HT2 : Bx (linesS [] = ((decodeS A).map canS, 0, 0)) := ⟨by rw [← HD.out]; rfl⟩
      have HTl : Bx (([] : Bs).length ≤ 900000) := ⟨by decide⟩
      clear hz h0
      go_wp2_with (refine load1 hS rfl rfl rfl rfl ?_; simp only [putW])
      go_loopw [4, 5] (fun vt vi wr => vi = .int .i64 0 ∧ vt = str [] ∧ Sat w [] wr) (fun _ _ _ => 0)
      case atStart => exact ⟨rfl, rfl, hS⟩
      case round =>
        clear hS
        obtain ⟨rfl, rfl, hS⟩ := hrel
        go_wp2_with (guard_target =~ Calls _ 16 _ _ _; refine Stopped.out ?_)
        refine ⟨?_⟩
        refine Calls.mono (lines_any [] (HKw.out.mono hS.base) HTl.out) ?_
        rw [HT2.out]
        rintro _ w2 ⟨Y, vy, rfl, hE, hok, h3⟩
        have HM3 := back_eqv HD.out hE
        have HY : Bx (RSs w2 Y vy) := ⟨Sl.Sat.readsAll (v := vy) h3 hok⟩
        have hS1 : Sat w [] w2 := (hS.frame h3).nothing
        have HXX : Bx (RSs w2 [] _) := ⟨HX.out.mono hS1.base⟩
        have HM1 : Bx _ := ⟨HM3.1⟩
        have HM2 : Bx _ := ⟨HM3.2⟩
        clear hS h3 hok hE HM3
        have hS := hS1
        clear hS1
        simp only [putW]
        go_wp2_with (first | (go_at_call 14; refine Calls.mono (sameAll_true (HY.out) (HXX.out) HM1.out HM2.out) ?_; rintro _ w2 ⟨rfl, h2⟩; replace hS := hS.frame h2; clear h2; (try simp only [List.cons_append, List.nil_append] at hS); simp only [putW]) | (go_at_call 9; refine Calls.mono (awake_any (HKw.out.mono hS.base)) ?_; rintro _ w2 ⟨rfl, h2⟩; replace hS := hS.frame h2; clear h2; (try simp only [List.cons_append, List.nil_append] at hS); simp only [putW]))
        go_ret
        exact ⟨rfl, (HS0.out.frame hS).nothing⟩
    · have q0 : (((X.length : Nat) : Int) == 0) = false := beq_eq_false_iff_ne.2 (by omega)
      clear hz
      go_upto_region 6 with (refine load1 hS rfl rfl rfl rfl ?_; simp only [putW])
      clear q0 h0
      go_wp2_with (refine load1 hS rfl rfl rfl rfl ?_; simp only [putW])
      have HT0 : Bx (([] : Bs) = textF 0 ((X.take 0).map fun x => lineS x.s)) := ⟨rfl⟩
      go_loopw [4, 5] (fun vt vi wr => ∃ (k : Nat) (T : Bs), k ≤ X.length ∧ vi = .int .i64 (k : Int) ∧ vt = str T ∧ Bx (T = textF 0 ((X.take k).map fun x => lineS x.s)) ∧ Sat w [] wr) (fun _ vi _ => X.length - (intOf vi).toNat)
      case atStart => exact ⟨0, [], Nat.zero_le _, rfl, rfl, HT0, hS⟩
      case round =>
        clear hS HT0
        obtain ⟨k, T, hk, rfl, rfl, HT, hS⟩ := hrel
        have hTl : T.length ≤ 400000 := by
          rw [HT.out]
          refine Nat.le_trans (textF_len (M := 300) _ 0 fun l hl => ?_) ?_
          · obtain ⟨x, hx, rfl⟩ := List.mem_map.1 hl
            exact line_short (HM.out x (List.mem_of_mem_take hx))
          · rw [List.length_map, List.length_take]
            exact Nat.le_trans (Nat.mul_le_mul_right _ (Nat.le_trans (Nat.min_le_right _ _) hl1)) (by decide)
        by_cases hlt : k < X.length
        · obtain ⟨x, hx⟩ : ∃ x, X[k]? = some x := ⟨_, List.getElem?_eq_getElem hlt⟩
          obtain ⟨b, o, rfl, hB⟩ := HB2.out (by intro e; subst e; simp at hlt)
          have HX2 : Bx (RSt w x.s x.o x.d x.f) := ⟨(hB.2 k x hx).1⟩
          have HB : Bx (BAt w 9 svF (fun x => RSt w x.s x.o x.d x.f) X b o) := ⟨hB⟩
          have Hx : Bx (X[k]? = some x) := ⟨hx⟩
          have hsx := HM.out x (List.mem_of_getElem? hx)
          have HP : Bx (printS x.s = some (lineS x.s)) := ⟨by rw [printS_eq hsx.wf, if_pos hsx.pl]⟩
          have hZl := line_short hsx
          have HN : Bx (textF 0 ((X.take (k + 1)).map fun x => lineS x.s) = T ++ (lineS x.s ++ 10 :: (if k % 3 = 1 then [10] else []))) := ⟨by
            rw [List.take_add_one, hx, Option.toList_some, List.map_append, List.map_singleton, textF_snoc, ← HT.out, List.length_map, List.length_take, Nat.min_eq_left hk, Nat.zero_add]⟩
          clear hB hx hsx
          go_wp2_with (first | (refine loadBN (f := svF) (vs := (svF x)) hS rfl rfl rfl HB.out k 0 ?_ Hx.out ?_ ?_ ?_; omega; rfl; rfl; simp only [putW]) | (guard_target =~ Calls _ 19 _ _ _; refine Stopped.out ?_))
          refine ⟨?_⟩
          refine Calls.mono (print_any HQ.out (HKw.out.mono hS.base) (HX2.out.mono hS.base)) ?_
          rintro _ w2 ⟨⟨Z, hZ, rfl⟩ | ⟨hn, rfl⟩, h2⟩
          rotate_left
          · rw [HP.out] at hn; cases hn
          replace hS := hS.frame h2
          clear h2
          simp only [List.nil_append] at hS
          obtain rfl : lineS x.s = Z := by rw [HP.out] at hZ; exact Option.some.inj hZ
          clear hZ HP
          generalize lineS x.s = Z at hZl HN ⊢
          have HC1 : Bx (T.length + Z.length ≤ 1000000) := ⟨by omega⟩
          have HC2 : Bx ((T ++ Z).length + ([10] : Bs).length ≤ 1000000) := ⟨by simp; omega⟩
          have HC3 : Bx ((T ++ Z ++ [10]).length + ([10] : Bs).length ≤ 1000000) := ⟨by simp; omega⟩
          simp only [putW]
          go_upto_region 14 with (first | (refine catL (l := T) (m := Z) rfl rfl rfl rfl HC1.out ?_; simp only [putW]) | (refine catL (l := T ++ Z) (m := [10]) rfl rfl rfl rfl HC2.out ?_; simp only [putW]))
          by_cases h3 : k % 3 = 1
          · have hr : (((k : Nat) : Int) % 3 == 1) = true := by
              have : ((k : Nat) : Int) % 3 = 1 := by omega
              simp [this]
            have HE : Bx (T ++ Z ++ [10] ++ [10] = textF 0 ((X.take (k + 1)).map fun x => lineS x.s)) := ⟨by rw [HN.out, if_pos h3]; simp⟩
            generalize T ++ Z ++ [10] = U at HC3 HE ⊢
            clear h3 HN
            go_upto_region 9 with (refine catL (l := U) (m := [10]) rfl rfl rfl rfl HC3.out ?_; simp only [putW])
            generalize U ++ [10] = U' at HE ⊢
            go_wp2_with (refine load1 hS rfl rfl rfl rfl ?_; simp only [putW])
            go_roundw
            case rel => exact ⟨k + 1, U', by omega, by go_num, rfl, HE, hS⟩
            case measure => simp only [intOf]; omega
          · have hr : (((k : Nat) : Int) % 3 == 1) = false := by
              have : ((k : Nat) : Int) % 3 ≠ 1 := by omega
              simp [this]
            have HE : Bx (T ++ Z ++ [10] = textF 0 ((X.take (k + 1)).map fun x => lineS x.s)) := ⟨by rw [HN.out, if_neg h3]; simp⟩
            generalize T ++ Z ++ [10] = U at HC3 HE ⊢
            clear h3 HN HC3
            go_wp2_with (refine load1 hS rfl rfl rfl rfl ?_; simp only [putW])
            go_roundw
            case rel => exact ⟨k + 1, U, by omega, by go_num, rfl, HE, hS⟩
            case measure => simp only [intOf]; omega
        · have HT2 : Bx (linesS T = ((decodeS A).map canS, 0, 0)) := ⟨by
            rw [HT.out, List.take_of_length_le (by omega), ← lines_all (D := decodeS A) (decode_small (B := A) HA.out) (decode_len A).1, ← HD.out, List.map_map]
            rfl⟩
          have HTl : Bx (T.length ≤ 900000) := ⟨by omega⟩
          clear HT hTl
          go_wp2_with (guard_target =~ Calls _ 16 _ _ _; refine Stopped.out ?_)
          refine ⟨?_⟩
          refine Calls.mono (lines_any T (HKw.out.mono hS.base) HTl.out) ?_
          rw [HT2.out]
          rintro _ w2 ⟨Y, vy, rfl, hE, hok, h3⟩
          have HM3 := back_eqv HD.out hE
          have HY : Bx (RSs w2 Y vy) := ⟨Sl.Sat.readsAll (v := vy) h3 hok⟩
          have hS1 : Sat w [] w2 := (hS.frame h3).nothing
          have HXX : Bx (RSs w2 X (.slice ua X.length uc)) := ⟨HX.out.mono hS1.base⟩
          have HM1 : Bx _ := ⟨HM3.1⟩
          have HM2 : Bx _ := ⟨HM3.2⟩
          clear hS h3 hok hE HM3
          have hS := hS1
          clear hS1
          simp only [putW]
          go_wp2_with (first | (go_at_call 14; refine Calls.mono (sameAll_true (HY.out) (HXX.out) HM1.out HM2.out) ?_; rintro _ w2 ⟨rfl, h2⟩; replace hS := hS.frame h2; clear h2; (try simp only [List.cons_append, List.nil_append] at hS); simp only [putW]) | (go_at_call 9; refine Calls.mono (awake_any (HKw.out.mono hS.base)) ?_; rintro _ w2 ⟨rfl, h2⟩; replace hS := hS.frame h2; clear h2; (try simp only [List.cons_append, List.nil_append] at hS); simp only [putW]))
          go_ret
          exact ⟨rfl, (HS0.out.frame hS).nothing⟩
end
end Go.Proofs.YtpbjkfomdindnaaGreatDoor
