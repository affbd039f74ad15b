/-
  script.Print, over script.same.
-/
import Derived.Test.YtpbjkfomdindnaaGreatDoorScPj
set_option linter.unusedSimpArgs false
set_option linter.unusedVariables false
namespace Go.Proofs.YtpbjkfomdindnaaGreatDoor
open Go.RowKit Go.Shelf Go.Proofs.YtpbjkfomdindnaaGreatDoor.Sl Go.Proofs.YtpbjkfomdindnaaGreatDoor.Jp Go.Proofs.YtpbjkfomdindnaaGreatDoor.Sc

/-- What script.same is to tell. -/
def SameTells : Prop := ∀ {w : World} {s t : St} {vo vd vf vo' vd' vf' : Value} {r : Bool}, RSt w s vo vd vf → RSt w t vo' vd' vf' → decide (eqv s t) = r →
  Calls Tryz.prog 39 #[.agg (stC s vo vd vf), .agg (stC t vo' vd' vf')] w fun e w' => e = .returned (.bool r) ∧ Sat w [] w'
section
variable {w0 : World} {s : St} {vo vd vf : Value}
theorem print_none {s : St} (h : printW s = none) : printS s = none := by unfold printS; rw [h]
theorem print_unread {s : St} {Y : List Bs} (h : printW s = some Y) (hp : parseS (joinC 32 Y) = none) : printS s = none := by
  unfold printS
  rw [h]
  simp only [hp]
theorem print_read {s t : St} {Y : List Bs} (h : printW s = some Y) (hp : parseS (joinC 32 Y) = some t) : printS s = if eqv t s then some (joinC 32 Y) else none := by
  unfold printS
  rw [h]
  simp only [hp]
set_option maxRecDepth 100000 in
set_option maxHeartbeats 4000000 in
/-- Print. -/
theorem print_any (hsame : SameTells) (hK : KV w0) (hR : RSt w0 s vo vd vf) :
    Calls Tryz.prog 19 #[.agg (stC s vo vd vf)] w0 fun e w' => ((∃ l, printS s = some l ∧ e = .returned (.tuple #[str l, .int .i64 0])) ∨ (printS s = none ∧ e = .returned (.tuple #[str [], .int .i64 3]))) ∧ Sat w0 [] w' := by
  have hS := Sat.refl w0
  have hmf : ∀ (fn : Fn) (first cap : Array Value) (w : World), (Instr.makeFunc fn first cap).run Tryz.prog w = .ok (.func fn first cap) w := fun _ _ _ _ => rfl
  have HK : Bx _ := ⟨hK⟩
  have HR : Bx (RSt w0 s vo vd vf) := ⟨hR⟩
  have HQ : Bx SameTells := ⟨hsame⟩
  obtain ⟨po, co, rfl, -⟩ := BSl.at hR.od
  obtain ⟨pd, cd, rfl, -⟩ := BSl.at hR.da
  obtain ⟨pq, cf, rfl, -⟩ := BSl.at hR.fa
  clear hK hR hsame
  go_enter Tryz.func19, Tryz.ntmps19
  go_wp2_with (first | (guard_target =~ wpList _ _ _ (Oper.mk (some 1) _ _ _ _ _ :: _) _ _; refine boxN hS rfl rfl rfl ?_; clear hS; intro sb w hS; simp only [putW]) | (guard_target =~ wpList _ _ _ (Oper.mk (some 4) _ _ _ _ _ :: _) _ _; refine alloc hS rfl rfl ?_; clear hS; intro pf w hS; simp only [putW]) | (guard_target =~ wpList _ _ _ (Oper.mk (some 10) _ _ _ _ _ :: _) _ _; refine boxN hS rfl rfl rfl ?_; clear hS; intro fb w hS; simp only [putW]) | (guard_target =~ Calls _ 22 _ _ _; refine Stopped.out ?_) | (refine store1 hS rfl rfl rfl rfl rfl ?_ ?_; (focus (simp; done)); clear hS; intro w hS; simp only [evW, putW] at hS; try simp only [putW]))
  refine ⟨?_⟩
  have hS2 : Sat w0 ((pf, cells #[.pointer (some ⟨fb, 0, none⟩)] 51) :: (fb, cells #[.bool true, .slice none 0 0] 55) :: (sb, cells (stC s (.slice po s.od.length co) (.slice pd s.da.length cd) (.slice pq s.fa.length cf)) 29) :: []) w := hS
  clear hS
  have hS := pfrm_close fb (Sat.conv (S' := (fb, cells #[.bool true, .slice none 0 0] 55) :: (0, sl 1 strF [] 9 (.slice none 0 0)) :: (pf, cells #[.pointer (some ⟨fb, 0, none⟩)] 51) :: (sb, cells (stC s (.slice po s.od.length co) (.slice pd s.da.length cd) (.slice pq s.fa.length cf)) 29) :: []) (hS2.slNil 1 strF 9))
  clear hS2
  refine Calls.mono (safelyR_any (pf := pf) (fb := fb) (sb := sb) (s := s) (K := []) HK.out HR.out hS.conv) ?_
  clear hS
  rintro _ w (⟨Y, hY, rfl, hS⟩ | ⟨hY, rfl, hS⟩)
  · simp only [putW]
    have HY : Bx (printW s = some Y) := ⟨hY⟩
    obtain ⟨v, hS1⟩ := pfrm_open hS (fb := fb) (W := Y)
    clear hS hY
    have hS := hS1
    clear hS1
    have HS1 : Bx ((joinC 32 Y).length ≤ 20000) := ⟨print_short HY.out⟩
    have HF : Bx (Y.length ≤ 1000000) := ⟨Nat.le_trans (printW_few HY.out).1 (by decide)⟩
    go_wp2_with (first | (go_at_call 38; refine Calls.mono (join_any 32 (Sat.readsSl (v := v) hS (fun _ _ => trivial)) (Nat.le_trans HS1.out (by decide)) HF.out) ?_; rintro _ w2 ⟨rfl, h2⟩; replace hS := hS.frame h2; clear h2; (try simp only [List.cons_append, List.nil_append] at hS); simp only [putW]) | (guard_target =~ Calls _ 10 _ _ _; refine Stopped.out ?_) | (refine load1 hS rfl rfl rfl rfl ?_; simp only [putW]))
    refine ⟨?_⟩
    refine Calls.mono (parse_any (joinC 32 Y) (HK.out.mono hS.base) (Nat.le_trans HS1.out (by decide))) ?_
    rintro _ w (⟨t, vo', vd', vf', hp, rfl, h2⟩ | ⟨hp, rfl, h2⟩)
    · replace hS := hS.frame h2
      clear h2
      simp only [stL, List.cons_append, List.nil_append] at hS
      have hT := (parseS_back hp).1
      have HT : Bx (Wf t) := ⟨hT⟩
      have HP := print_read HY.out hp
      clear hp hT
      simp only [putW]
      have HC : Bx (∀ u ∈ (stC t vo' vd' vf').toList, u.oneCell' = true) := ⟨stC_one (Sat.slCell (α := Int) (v := vo') hS) (Sat.slCell (α := Int) (v := vd') hS) (Sat.slCell (α := Int) (v := vf') hS)⟩
      by_cases he : eqv t s
      · have HE : Bx (printS s = some (joinC 32 Y)) := ⟨by rw [HP, if_pos he]⟩
        have HD : Bx (decide (eqv t s) = true) := ⟨decide_eq_true he⟩
        clear HP he
        go_wp2_with (first | (guard_target =~ wpList _ _ _ (Oper.mk (some 7) _ _ _ _ _ :: _) _ _; refine alloc hS rfl rfl ?_; clear hS; intro tb w hS; simp only [putW]) | (refine storeAll hS rfl rfl rfl rfl ?_ ?_ ?_ ?_; rfl; (focus (exact HC.out)); rfl; clear hS; intro w hS; try simp only [putW]) | (guard_target =~ Calls _ 39 _ _ _; refine Stopped.out ?_) | (refine loadAll hS rfl rfl rfl ?_ ?_; rfl; simp only [putW]))
        refine ⟨?_⟩
        refine Calls.mono (HQ.out (r := true) ⟨Sat.readsSl (v := vo') hS HT.out.od, Sat.readsSl (v := vd') hS HT.out.da, Sat.readsSl (v := vf') hS (fun _ _ => trivial), HT.out.bt⟩ (HR.out.mono hS.base) HD.out) ?_
        rintro _ w ⟨rfl, h2⟩
        replace hS := hS.frame h2
        clear h2
        simp only [List.nil_append] at hS
        simp only [putW]
        go_wp2_with (refine load1 hS rfl rfl rfl rfl ?_; simp only [putW])
        exact bodyPost_ret (v := .tuple #[str (joinC 32 Y), .int .i64 0]) (by simp [results, Tryz.results19]) rfl ⟨.inl ⟨_, HE.out, rfl⟩, hS.nothing⟩
      · have HE : Bx (printS s = none) := ⟨by rw [HP, if_neg he]⟩
        have HD : Bx (decide (eqv t s) = false) := ⟨decide_eq_false he⟩
        clear HP he
        go_wp2_with (first | (guard_target =~ wpList _ _ _ (Oper.mk (some 7) _ _ _ _ _ :: _) _ _; refine alloc hS rfl rfl ?_; clear hS; intro tb w hS; simp only [putW]) | (refine storeAll hS rfl rfl rfl rfl ?_ ?_ ?_ ?_; rfl; (focus (exact HC.out)); rfl; clear hS; intro w hS; try simp only [putW]) | (guard_target =~ Calls _ 39 _ _ _; refine Stopped.out ?_) | (refine loadAll hS rfl rfl rfl ?_ ?_; rfl; simp only [putW]))
        refine ⟨?_⟩
        refine Calls.mono (HQ.out (r := false) ⟨Sat.readsSl (v := vo') hS HT.out.od, Sat.readsSl (v := vd') hS HT.out.da, Sat.readsSl (v := vf') hS (fun _ _ => trivial), HT.out.bt⟩ (HR.out.mono hS.base) HD.out) ?_
        rintro _ w ⟨rfl, h2⟩
        replace hS := hS.frame h2
        clear h2
        simp only [List.nil_append] at hS
        simp only [putW]
        go_wp2_with (refine load1 hS rfl rfl rfl rfl ?_; simp only [putW])
        exact bodyPost_ret (v := .tuple #[str [], .int .i64 3]) (by simp [results, Tryz.results19]) rfl ⟨.inr ⟨HE.out, rfl⟩, hS.nothing⟩
    · have HP : Bx (printS s = none) := ⟨print_unread HY.out hp⟩
      replace hS := hS.frame h2
      clear h2 hp
      simp only [List.nil_append] at hS
      simp only [putW]
      go_wp2_with (first | (guard_target =~ wpList _ _ _ (Oper.mk (some 7) _ _ _ _ _ :: _) _ _; refine alloc hS rfl rfl ?_; clear hS; intro tb w hS; simp only [putW]) | (refine storeAll hS rfl rfl rfl rfl ?_ ?_ ?_ ?_; rfl; (focus (simp [Value.oneCell']; done)); rfl; clear hS; intro w hS; try simp only [putW]))
      exact bodyPost_ret (v := .tuple #[str [], .int .i64 3]) (by simp [results, Tryz.results19]) rfl ⟨.inr ⟨HP.out, rfl⟩, hS.nothing⟩
  · have HP : Bx (printS s = none) := ⟨print_none hY⟩
    clear hY
    simp only [putW]
    go_wp2_with (refine load1 hS rfl rfl rfl rfl ?_; simp only [putW])
    exact bodyPost_ret (v := .tuple #[str [], .int .i64 3]) (by simp [results, Tryz.results19]) rfl ⟨.inr ⟨HP.out, rfl⟩, hS⟩
end
end Go.Proofs.YtpbjkfomdindnaaGreatDoor
