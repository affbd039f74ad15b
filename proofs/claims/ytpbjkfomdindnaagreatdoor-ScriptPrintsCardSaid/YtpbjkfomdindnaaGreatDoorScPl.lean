/-
  thimblelaw25.great; ScriptBack over script.same.
-/
import Derived.Test.YtpbjkfomdindnaaGreatDoorScPk
set_option linter.unusedSimpArgs false
set_option linter.unusedVariables false
namespace Go.Proofs.YtpbjkfomdindnaaGreatDoor
open Go.RowKit Go.Shelf Go.Proofs.YtpbjkfomdindnaaGreatDoor.Sl Go.Proofs.YtpbjkfomdindnaaGreatDoor.Jp Go.Proofs.YtpbjkfomdindnaaGreatDoor.Sc

def IsBool (e : Ending) : Prop := ∃ b, e = .returned (.bool b)
section
variable {w0 : World} {s : St} {vo vd vf : Value}
set_option maxRecDepth 100000 in
set_option maxHeartbeats 2000000 in
theorem great25_any (hR : RSt w0 s vo vd vf) : Calls Tryz.prog 18 #[.agg (stC s vo vd vf)] w0 fun e w' => IsBool e ∧ Sat w0 [] w' := by
  have hS := Sat.refl w0
  obtain ⟨po, co, rfl, -⟩ := BSl.at hR.od
  obtain ⟨pd, cd, rfl, -⟩ := BSl.at hR.da
  obtain ⟨pq, cf, rfl, -⟩ := BSl.at hR.fa
  clear hR
  by_cases h1 : 2000 < s.da.length
  · skip
    have dda : decide ((2000 : Int) < (s.da.length : Int)) = true := decide_eq_true (by omega)
    have eda : decide (2000 < s.da.length) = true := decide_eq_true (by omega)
    go_enter Tryz.func18, Tryz.ntmps18
    go_wp2_with (first | (guard_target =~ wpList _ _ _ (Oper.mk (some 1) _ _ _ _ _ :: _) _ _; refine boxN hS rfl rfl rfl ?_; clear hS; intro sb w hS; simp only [putW]) | (refine load1 hS rfl rfl rfl rfl ?_; simp only [putW]))
    go_ret
    exact ⟨⟨_, rfl⟩, hS.nothing⟩
  · by_cases h2 : 2000 < s.od.length
    · skip
      have dda : decide ((2000 : Int) < (s.da.length : Int)) = false := decide_eq_false (by omega)
      have eda : decide (2000 < s.da.length) = false := decide_eq_false (by omega)
      have dod : decide ((2000 : Int) < (s.od.length : Int)) = true := decide_eq_true (by omega)
      have eod : decide (2000 < s.od.length) = true := decide_eq_true (by omega)
      go_enter Tryz.func18, Tryz.ntmps18
      go_wp2_with (first | (guard_target =~ wpList _ _ _ (Oper.mk (some 1) _ _ _ _ _ :: _) _ _; refine boxN hS rfl rfl rfl ?_; clear hS; intro sb w hS; simp only [putW]) | (refine load1 hS rfl rfl rfl rfl ?_; simp only [putW]))
      go_ret
      exact ⟨⟨_, rfl⟩, hS.nothing⟩
    · by_cases h3 : 2000 < s.fa.length
      · skip
        have dda : decide ((2000 : Int) < (s.da.length : Int)) = false := decide_eq_false (by omega)
        have eda : decide (2000 < s.da.length) = false := decide_eq_false (by omega)
        have dod : decide ((2000 : Int) < (s.od.length : Int)) = false := decide_eq_false (by omega)
        have eod : decide (2000 < s.od.length) = false := decide_eq_false (by omega)
        have dfa : decide ((2000 : Int) < (s.fa.length : Int)) = true := decide_eq_true (by omega)
        have efa : decide (2000 < s.fa.length) = true := decide_eq_true (by omega)
        go_enter Tryz.func18, Tryz.ntmps18
        go_wp2_with (first | (guard_target =~ wpList _ _ _ (Oper.mk (some 1) _ _ _ _ _ :: _) _ _; refine boxN hS rfl rfl rfl ?_; clear hS; intro sb w hS; simp only [putW]) | (refine load1 hS rfl rfl rfl rfl ?_; simp only [putW]))
        go_ret
        exact ⟨⟨_, rfl⟩, hS.nothing⟩
      · skip
        have dda : decide ((2000 : Int) < (s.da.length : Int)) = false := decide_eq_false (by omega)
        have eda : decide (2000 < s.da.length) = false := decide_eq_false (by omega)
        have dod : decide ((2000 : Int) < (s.od.length : Int)) = false := decide_eq_false (by omega)
        have eod : decide (2000 < s.od.length) = false := decide_eq_false (by omega)
        have dfa : decide ((2000 : Int) < (s.fa.length : Int)) = false := decide_eq_false (by omega)
        have efa : decide (2000 < s.fa.length) = false := decide_eq_false (by omega)
        go_enter Tryz.func18, Tryz.ntmps18
        go_wp2_with (first | (guard_target =~ wpList _ _ _ (Oper.mk (some 1) _ _ _ _ _ :: _) _ _; refine boxN hS rfl rfl rfl ?_; clear hS; intro sb w hS; simp only [putW]) | (refine load1 hS rfl rfl rfl rfl ?_; simp only [putW]))
        go_ret
        exact ⟨⟨_, rfl⟩, hS.nothing⟩
theorem RSt.wf (h : RSt w0 s vo vd vf) : Wf s := ⟨h.od.all, h.da.all, h.bt⟩
theorem back_read {l : Bs} (hw : Wf s) (h : printS s = some l) : l.length ≤ 20000 ∧ parseS l = some (canS s) ∧ eqv (canS s) s := by
  rw [printS_eq hw] at h
  split at h
  · rename_i hp
    cases h
    refine ⟨?_, parseS_of hw hp, canS_eqv s⟩
    have := print_short (printW_of hp)
    exact this
  · cases h
theorem back_print {l : Bs} {x : St} (h : parseS l = some x) : printS x = some l := by
  obtain ⟨hw, hp, hl⟩ := parseS_back h
  rw [printS_eq hw, if_pos hp, hl]
set_option maxRecDepth 100000 in
set_option maxHeartbeats 8000000 in
theorem scriptBack_any (hsame : SameTells) (l : Bs) (hK : KV w0) (hR : RSt w0 s vo vd vf) : Calls Tryz.prog 7 #[.agg (stC s vo vd vf), str l] w0 fun e w' => e = .returned (.bool true) ∧ Sat w0 [] w' := by
  have hS := Sat.refl w0
  have HK : Bx _ := ⟨hK⟩
  have HR : Bx (RSt w0 s vo vd vf) := ⟨hR⟩
  have HQ : Bx SameTells := ⟨hsame⟩
  obtain ⟨po, co, rfl, -⟩ := BSl.at hR.od
  obtain ⟨pd, cd, rfl, -⟩ := BSl.at hR.da
  obtain ⟨pq, cf, rfl, -⟩ := BSl.at hR.fa
  clear hK hR hsame
  go_enter Tryz.func7, Tryz.ntmps7
  go_wp2_with (first | (guard_target =~ wpList _ _ _ (Oper.mk (some 2) _ _ _ _ _ :: _) _ _; refine boxN hS rfl rfl rfl ?_; clear hS; intro sb w hS; simp only [putW]) | (guard_target =~ Calls _ 18 _ _ _; refine Stopped.out ?_) | (refine loadAll hS rfl rfl rfl ?_ ?_; rfl; simp only [putW]))
  refine ⟨?_⟩
  refine Calls.mono (great25_any (HR.out.mono hS.base)) ?_
  rintro _ w ⟨⟨b, rfl⟩, h2⟩
  replace hS := hS.frame h2
  clear h2
  simp only [List.nil_append] at hS
  simp only [putW]
  cases b
  · by_cases hl : 2000 < l.length
    · go_wp2_with (go_at_call 9; refine Calls.mono (awake_any (HK.out.mono hS.base)) ?_; rintro _ w2 ⟨rfl, h2⟩; replace hS := hS.frame h2; clear h2; (try simp only [List.cons_append, List.nil_append] at hS); simp only [putW])
      go_ret
      exact ⟨rfl, hS.nothing⟩
    · have hl9 : l.length ≤ 900000 := by omega
      go_wp2_with (first | (guard_target =~ Calls _ 19 _ _ _; refine Stopped.out ?_) | (refine loadAll hS rfl rfl rfl ?_ ?_; rfl; simp only [putW]))
      refine ⟨?_⟩
      refine Calls.mono (print_any HQ.out (HK.out.mono hS.base) (HR.out.mono hS.base)) ?_
      rintro _ w ⟨⟨t, ht, rfl⟩ | ⟨-, rfl⟩, h2⟩
      · replace hS := hS.frame h2
        clear h2
        simp only [List.nil_append] at hS
        obtain ⟨g1, g2, g3⟩ := back_read HR.out.wf ht
        have HG : Bx (parseS t = some (canS s)) := ⟨g2⟩
        have HT : Bx (t.length ≤ 900000) := ⟨by omega⟩
        have HE : Bx (decide (eqv (canS s) s) = true) := ⟨decide_eq_true g3⟩
        clear g1 g2 g3 ht
        simp only [putW]
        go_wp2_with (guard_target =~ Calls _ 10 _ _ _; refine Stopped.out ?_)
        refine ⟨?_⟩
        refine Calls.mono (parse_any t (HK.out.mono hS.base) HT.out) ?_
        rintro _ w (⟨x, vo', vd', vf', hp, rfl, h2⟩ | ⟨hp, -, -⟩)
        rotate_left
        · rw [HG.out] at hp; cases hp
        obtain rfl : canS s = x := by rw [HG.out] at hp; exact Option.some.inj hp
        have HW := (parseS_back hp).1
        have HWB : Bx (Wf (canS s)) := ⟨HW⟩
        clear hp HW
        replace hS := hS.frame h2
        clear h2
        simp only [stL, List.cons_append, List.nil_append] at hS
        simp only [putW]
        have HC : Bx (∀ u ∈ (stC (canS s) vo' vd' vf').toList, u.oneCell' = true) := ⟨stC_one (Sat.slCell (α := Int) (v := vo') hS) (Sat.slCell (α := Int) (v := vd') hS) (Sat.slCell (α := Int) (v := vf') hS)⟩
        go_wp2_with (first | (guard_target =~ wpList _ _ _ (Oper.mk (some 7) _ _ _ _ _ :: _) _ _; refine alloc hS rfl rfl ?_; clear hS; intro tb w hS; simp only [putW]) | (refine storeAll hS rfl rfl rfl rfl ?_ ?_ ?_ ?_; rfl; (focus (exact HC.out)); rfl; clear hS; intro w hS; try simp only [putW]) | (guard_target =~ Calls _ 12 _ _ _; refine Stopped.out ?_) | (refine loadAll hS rfl rfl rfl ?_ ?_; rfl; simp only [putW]))
        refine ⟨?_⟩
        refine Calls.mono (sameS_any ⟨Sat.readsSl (v := vo') hS HWB.out.od, Sat.readsSl (v := vd') hS HWB.out.da, Sat.readsSl (v := vf') hS (fun _ _ => trivial), HWB.out.bt⟩ (HR.out.mono hS.base) HE.out) ?_
        rintro _ w ⟨rfl, h2⟩
        replace hS := hS.frame h2
        clear h2
        simp only [List.nil_append] at hS
        simp only [putW]
        go_wp2_with (guard_target =~ Calls _ 10 _ _ _; refine Stopped.out ?_)
        refine ⟨?_⟩
        refine Calls.mono (parse_any l (HK.out.mono hS.base) hl9) ?_
        rintro _ w (⟨x2, xo, xd, xf, hq, rfl, h2⟩ | ⟨hq, rfl, h2⟩)
        · replace hS := hS.frame h2
          clear h2
          simp only [stL, List.cons_append, List.nil_append] at hS
          have HX : Bx (printS x2 = some l) := ⟨back_print hq⟩
          have HW2 : Bx (Wf x2) := ⟨(parseS_back hq).1⟩
          clear hq
          simp only [putW]
          have HC2 : Bx (∀ u ∈ (stC x2 xo xd xf).toList, u.oneCell' = true) := ⟨stC_one (Sat.slCell (α := Int) (v := xo) hS) (Sat.slCell (α := Int) (v := xd) hS) (Sat.slCell (α := Int) (v := xf) hS)⟩
          go_wp2_with (first | (guard_target =~ wpList _ _ _ (Oper.mk (some 9) _ _ _ _ _ :: _) _ _; refine alloc hS rfl rfl ?_; clear hS; intro ub w hS; simp only [putW]) | (refine storeAll hS rfl rfl rfl rfl ?_ ?_ ?_ ?_; rfl; (focus (exact HC2.out)); rfl; clear hS; intro w hS; try simp only [putW]) | (guard_target =~ Calls _ 19 _ _ _; refine Stopped.out ?_) | (refine loadAll hS rfl rfl rfl ?_ ?_; rfl; simp only [putW]))
          refine ⟨?_⟩
          refine Calls.mono (print_any HQ.out (HK.out.mono hS.base) ⟨Sat.readsSl (v := xo) hS HW2.out.od, Sat.readsSl (v := xd) hS HW2.out.da, Sat.readsSl (v := xf) hS (fun _ _ => trivial), HW2.out.bt⟩) ?_
          rintro _ w ⟨⟨t2, ht2, rfl⟩ | ⟨hn, rfl⟩, h2⟩
          rotate_left
          · rw [HX.out] at hn; cases hn
          obtain rfl : l = t2 := by rw [HX.out] at ht2; exact Option.some.inj ht2
          clear ht2
          replace hS := hS.frame h2
          clear h2
          simp only [List.nil_append] at hS
          simp only [putW]
          go_wp2_with (go_at_call 9; refine Calls.mono (awake_any (HK.out.mono hS.base)) ?_; rintro _ w2 ⟨rfl, h2⟩; replace hS := hS.frame h2; clear h2; (try simp only [List.cons_append, List.nil_append] at hS); simp only [putW])
          go_ret
          exact ⟨rfl, hS.nothing⟩
        · replace hS := hS.frame h2
          clear h2 hq
          simp only [List.nil_append] at hS
          simp only [putW]
          go_wp2_with (first | (guard_target =~ wpList _ _ _ (Oper.mk (some 9) _ _ _ _ _ :: _) _ _; refine alloc hS rfl rfl ?_; clear hS; intro ub w hS; simp only [putW]) | (go_at_call 9; refine Calls.mono (awake_any (HK.out.mono hS.base)) ?_; rintro _ w2 ⟨rfl, h2⟩; replace hS := hS.frame h2; clear h2; (try simp only [List.cons_append, List.nil_append] at hS); simp only [putW]) | (refine storeAll hS rfl rfl rfl rfl ?_ ?_ ?_ ?_; rfl; (focus (simp [Value.oneCell']; done)); rfl; clear hS; intro w hS; try simp only [putW]))
          go_ret
          exact ⟨rfl, hS.nothing⟩
      · replace hS := hS.frame h2
        clear h2
        simp only [List.nil_append] at hS
        simp only [putW]
        go_wp2_with (guard_target =~ Calls _ 10 _ _ _; refine Stopped.out ?_)
        refine ⟨?_⟩
        refine Calls.mono (parse_any l (HK.out.mono hS.base) hl9) ?_
        rintro _ w (⟨x2, xo, xd, xf, hq, rfl, h2⟩ | ⟨hq, rfl, h2⟩)
        · replace hS := hS.frame h2
          clear h2
          simp only [stL, List.cons_append, List.nil_append] at hS
          have HX : Bx (printS x2 = some l) := ⟨back_print hq⟩
          have HW2 : Bx (Wf x2) := ⟨(parseS_back hq).1⟩
          clear hq
          simp only [putW]
          have HC2 : Bx (∀ u ∈ (stC x2 xo xd xf).toList, u.oneCell' = true) := ⟨stC_one (Sat.slCell (α := Int) (v := xo) hS) (Sat.slCell (α := Int) (v := xd) hS) (Sat.slCell (α := Int) (v := xf) hS)⟩
          go_wp2_with (first | (guard_target =~ wpList _ _ _ (Oper.mk (some 9) _ _ _ _ _ :: _) _ _; refine alloc hS rfl rfl ?_; clear hS; intro ub w hS; simp only [putW]) | (refine storeAll hS rfl rfl rfl rfl ?_ ?_ ?_ ?_; rfl; (focus (exact HC2.out)); rfl; clear hS; intro w hS; try simp only [putW]) | (guard_target =~ Calls _ 19 _ _ _; refine Stopped.out ?_) | (refine loadAll hS rfl rfl rfl ?_ ?_; rfl; simp only [putW]))
          refine ⟨?_⟩
          refine Calls.mono (print_any HQ.out (HK.out.mono hS.base) ⟨Sat.readsSl (v := xo) hS HW2.out.od, Sat.readsSl (v := xd) hS HW2.out.da, Sat.readsSl (v := xf) hS (fun _ _ => trivial), HW2.out.bt⟩) ?_
          rintro _ w ⟨⟨t2, ht2, rfl⟩ | ⟨hn, rfl⟩, h2⟩
          rotate_left
          · rw [HX.out] at hn; cases hn
          obtain rfl : l = t2 := by rw [HX.out] at ht2; exact Option.some.inj ht2
          clear ht2
          replace hS := hS.frame h2
          clear h2
          simp only [List.nil_append] at hS
          simp only [putW]
          go_wp2_with (go_at_call 9; refine Calls.mono (awake_any (HK.out.mono hS.base)) ?_; rintro _ w2 ⟨rfl, h2⟩; replace hS := hS.frame h2; clear h2; (try simp only [List.cons_append, List.nil_append] at hS); simp only [putW])
          go_ret
          exact ⟨rfl, hS.nothing⟩
        · replace hS := hS.frame h2
          clear h2 hq
          simp only [List.nil_append] at hS
          simp only [putW]
          go_wp2_with (first | (guard_target =~ wpList _ _ _ (Oper.mk (some 9) _ _ _ _ _ :: _) _ _; refine alloc hS rfl rfl ?_; clear hS; intro ub w hS; simp only [putW]) | (go_at_call 9; refine Calls.mono (awake_any (HK.out.mono hS.base)) ?_; rintro _ w2 ⟨rfl, h2⟩; replace hS := hS.frame h2; clear h2; (try simp only [List.cons_append, List.nil_append] at hS); simp only [putW]) | (refine storeAll hS rfl rfl rfl rfl ?_ ?_ ?_ ?_; rfl; (focus (simp [Value.oneCell']; done)); rfl; clear hS; intro w hS; try simp only [putW]))
          go_ret
          exact ⟨rfl, hS.nothing⟩
  · go_wp2_with (go_at_call 9; refine Calls.mono (awake_any (HK.out.mono hS.base)) ?_; rintro _ w2 ⟨rfl, h2⟩; replace hS := hS.frame h2; clear h2; (try simp only [List.cons_append, List.nil_append] at hS); simp only [putW])
    go_ret
    exact ⟨rfl, hS.nothing⟩
end
end Go.Proofs.YtpbjkfomdindnaaGreatDoor
