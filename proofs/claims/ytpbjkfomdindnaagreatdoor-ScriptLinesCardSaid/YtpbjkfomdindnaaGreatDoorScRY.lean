/-
  A region in the text's order, each operation by what it yields, without the others in sight. It names no program.
  thimbleref25.Plain.
  thimbleref25: asked, Print.
  thimbleref25.Print.
-/
import Derived.Test.YtpbjkfomdindnaaGreatDoorSlQuick
import Derived.Test.YtpbjkfomdindnaaGreatDoorScRX
set_option linter.unusedSimpArgs false
set_option linter.unusedVariables false
namespace Go.Proofs.YtpbjkfomdindnaaGreatDoor.Sl
open Go Go.RowKit

section
variable {P : Program} {ops : Array Oper} {C : World → Prop} {G : Act → Prop} {Q : Exit → Act → World → Prop}
theorem oper_wp_imp {o : Oper} {a : Act} {w : World} {K K' : Act → World → Prop} {Q' : Exit → Act → World → Prop} (hn : ∀ e a w, Q e a w → e = .normal) (h : ∀ a w, K a w → K' a w)
    (hh : o.wp P a w K Q) : o.wp P a w K' Q' := by
  have hl : ¬ LetsOut Q := fun ⟨_, _, q⟩ => by cases hn _ _ _ q
  unfold Oper.wp at *
  generalize (execOp a.eval o).run P w = r at *
  cases r with
  | ok n w' =>
    cases n <;> simp only [Oper.upon] at hh ⊢ <;>
      first
        | exact h _ _ hh
        | exact Calls.mono hh (fun e w'' he => by
            cases e with
            | returned v => exact h _ _ he
            | panicked c => cases hn _ _ _ he
            | outgrown => exact absurd he hl)
        | exact Rows.mono hh (fun _ _ he => h _ _ he)
  | halt x w' => cases x <;> simp only [Oper.upon] at hh ⊢ <;> cases hn _ _ _ hh
theorem flat_of_quiet : ∀ (l : List Oper) (a : Act) (w : World), quietW P ops C G l a → C w → (∀ a w, G a → C w → Q .normal a w) → wpList P ops Q l a w
  | [], a, w, h, hc, hk => hk a w h hc
  | o :: l, a, w, ⟨v, h1, h2⟩, hc, hk => by
    have h := h1 w hc
    have ih := fun w' (hc' : C w') => flat_of_quiet l (a.put o.dst v) w' h2 hc' hk
    unfold wpList at h ⊢
    by_cases hw : Region.wanted o (yielded ops a.tmps) = true
    · rw [if_pos hw] at h ⊢
      rcases h with h | ⟨-, a', w', h, -⟩
      · refine .inl (oper_wp_imp (fun e a w q => q.1) (fun a' w' q => ?_) h)
        unfold wpList at q
        obtain ⟨-, rfl, hc'⟩ := q
        exact ih w' hc'
      · cases h
    · rw [if_neg hw] at h ⊢
      unfold wpList at h
      obtain ⟨-, e, hc'⟩ := h
      rw [e]
      exact ih w hc'
theorem region_flat {w0 w : World} {S : List Chunk} {id : Nat} {a : Act} {l : List Oper} (hS : Sat w0 S w)
    (h : quietW P l.toArray (Sat w0 S) (fun a' => ∀ w', Sat w0 S w' → Q .normal a' w') l a) : (Code.region id l.toArray false).wp P Q a w :=
  wp_region_lit (flat_of_quiet l a w h hS fun _ w' g hc => g w' hc)
end
end Go.Proofs.YtpbjkfomdindnaaGreatDoor.Sl
namespace Go.Proofs.YtpbjkfomdindnaaGreatDoor
open Go.RowKit Go.Shelf Go.Proofs.YtpbjkfomdindnaaGreatDoor.Sl Go.Proofs.YtpbjkfomdindnaaGreatDoor.Jp Go.Proofs.YtpbjkfomdindnaaGreatDoor.Sc

section
variable {w0 w : World} {S F K : List Chunk} {vo vd vf : Value}
set_option maxRecDepth 100000 in
set_option maxHeartbeats 16000000 in
theorem plain_any {s : St} {r : Bool} (hR : RSt w0 s vo vd vf) (hr : decide (Plain s) = r) :
    Calls Tryz.prog 40 #[.agg (stC s vo vd vf)] w0 fun e w' => e = .returned (.bool r) ∧ Sat w0 [] w' := by
  have hS := Sat.refl w0
  have HR : Bx (RSt w0 s vo vd vf) := ⟨hR⟩
  have HP : Bx (decide (Plain s) = r) := ⟨hr⟩
  have hno : Bx (¬ Plain s → r = false) := ⟨fun h => by rw [← hr]; exact decide_eq_false h⟩
  obtain ⟨po, co, rfl, -⟩ := BSl.at hR.od
  obtain ⟨pd, cd, rfl, -⟩ := BSl.at hR.da
  obtain ⟨pq, cf, rfl, -, hat⟩ := BSl.at hR.fa
  have HAT : Bx _ := ⟨hat⟩
  clear hR hr hat
  have hbare : Bx (1 ≤ s.kind → s.kind ≤ 12 → (s.kind = 1 → 1 ≤ s.okd ∧ s.okd ≤ 6) → ∀ w : World, Sat w0 [] w → Calls Tryz.prog 68 #[.agg (stC s (.slice po s.od.length co) (.slice pd s.da.length cd) (.slice pq s.fa.length cf))] w fun e w' => e = .returned (.agg (stC (bareS s) (bvo s (.slice po s.od.length co)) (bvd s (.slice pd s.da.length cd)) (bvf s (.slice pq s.fa.length cf)))) ∧ Sat w [] w') := ⟨fun h1 h2 h3 w h => bare_any h1 h2 h3 (HR.out.mono h.base)⟩
  have HS : Bx (∀ w : World, Sat w0 [] w → Calls Tryz.prog 12 #[.agg (stC (bareS s) (bvo s (.slice po s.od.length co)) (bvd s (.slice pd s.da.length cd)) (bvf s (.slice pq s.fa.length cf))), .agg (stC s (.slice po s.od.length co) (.slice pd s.da.length cd) (.slice pq s.fa.length cf))] w fun e w' => e = .returned (.bool (decide (eqv (bareS s) s))) ∧ Sat w [] w') := ⟨fun w h => sameS_any (bare_rst (HR.out.mono h.base)) (HR.out.mono h.base) rfl⟩
  obtain ⟨z, hz⟩ : ∃ z, stC (bareS s) (bvo s (.slice po s.od.length co)) (bvd s (.slice pd s.da.length cd)) (bvf s (.slice pq s.fa.length cf)) = z := ⟨_, rfl⟩
  rw [hz] at hbare HS
  clear hz
  have hbe : ∃ be, decide (eqv (bareS s) s) = be := ⟨_, rfl⟩
  obtain ⟨be, hbe⟩ := hbe
  rw [hbe] at HS
  have HBE : Bx _ := ⟨hbe⟩
  clear hbe
  go_enter Tryz.func40, Tryz.ntmps40
  go_upto_region 1 with (first | (guard_target =~ wpList _ _ _ (Oper.mk (some 1) _ _ _ _ _ :: _) _ _; refine boxN hS rfl rfl rfl ?_; clear hS; intro sb w hS; simp only [putW]) | (refine load1 hS rfl rfl rfl rfl ?_; simp only [putW]) | (refine loadAll hS rfl rfl rfl ?_ ?_; rfl; simp only [putW]) | (refine loadPart hS rfl rfl rfl ?_ rfl ?_; rfl; simp only [putW]) | (refine store1 hS rfl rfl rfl rfl rfl ?_ ?_; (focus (simp; done)); clear hS; intro w hS; simp only [evW, putW] at hS; try simp only [putW]) | (refine storeAll hS rfl rfl rfl rfl ?_ ?_ ?_ ?_; rfl; (focus (simp [Value.oneCell']; done)); rfl; clear hS; intro w hS; try simp only [putW]) | (refine storeN hS rfl rfl rfl rfl ?_ ?_ ?_ ?_; rfl; (focus (simp [Value.oneCell']; done)); (focus (simp; done)); clear hS; intro w hS; simp at hS; try simp only [putW]) | (refine alloc hS rfl rfl ?_; clear hS; intro mb w hS; simp only [putW]) | (refine box1 hS rfl rfl rfl rfl ?_; clear hS; intro mb w hS; try simp only [evW, putW] at hS; simp only [putW]) | (refine boxN hS rfl rfl rfl ?_; clear hS; intro mb w hS; simp only [putW]))
  go_cut [35] from 4 to 34 (fun v wc => (∃ b, v = .bool b ∧ Bx ((b = true ∧ ¬ Plain s) ∨ (b = false ∧ (1 ≤ s.kind ∧ s.kind ≤ 12) ∧ (s.kind = 1 → 1 ≤ s.okd ∧ s.okd ≤ 6) ∧ eqv (bareS s) s))) ∧ Sat w0 ((sb, cells (stC s (.slice po s.od.length co) (.slice pd s.da.length cd) (.slice pq s.fa.length cf)) 29) :: []) wc)
  case first =>
    by_cases c1 : 1 ≤ s.kind
    rotate_left
    · have HF : Bx (¬ Plain s) := ⟨fun h => c1 h.1.1⟩
      have d1 : decide (s.kind < 1) = true := decide_eq_true (by omega)
      clear hbare HS HP hno
      (refine region_quiet hS (by kernel_rfl) (by kernel_rfl) (by kernel_rfl) ?_; clear hS; (repeat (first | (refine quiet_skip rfl ?_; simp only [putW]) | (refine quiet_y (yLoadAll (fun _ h => h) rfl rfl rfl rfl) ?_; simp only [putW]) | (refine quiet_y (yMove rfl rfl rfl) ?_; simp only [evW, putW]) | (refine quiet_y (yNil rfl rfl rfl) ?_; simp only [putW]) | (refine quiet_y (yLoad1 (fun _ h => h) rfl rfl rfl rfl) ?_; simp only [putW]) | (apply quiet_y; (focus (apply yRun rfl; intro w; first | (go_simp; done) | (go_simp; rfl))); simp only [putW]))); refine quiet_nil ?_; intro w hS)
      go_wp2_with (first | (refine load1 hS rfl rfl rfl rfl ?_; simp only [putW]) | (refine loadAll hS rfl rfl rfl ?_ ?_; rfl; simp only [putW]) | (refine loadPart hS rfl rfl rfl ?_ rfl ?_; rfl; simp only [putW]) | (refine store1 hS rfl rfl rfl rfl rfl ?_ ?_; (focus (simp; done)); clear hS; intro w hS; simp only [evW, putW] at hS; try simp only [putW]) | (refine storeAll hS rfl rfl rfl rfl ?_ ?_ ?_ ?_; rfl; (focus (simp [Value.oneCell']; done)); rfl; clear hS; intro w hS; try simp only [putW]) | (refine storeN hS rfl rfl rfl rfl ?_ ?_ ?_ ?_; rfl; (focus (simp [Value.oneCell']; done)); (focus (simp; done)); clear hS; intro w hS; simp at hS; try simp only [putW]) | (refine alloc hS rfl rfl ?_; clear hS; intro mb w hS; simp only [putW]) | (refine box1 hS rfl rfl rfl rfl ?_; clear hS; intro mb w hS; try simp only [evW, putW] at hS; simp only [putW]) | (refine boxN hS rfl rfl rfl ?_; clear hS; intro mb w hS; simp only [putW]))
      go_meet
      case rel => exact ⟨⟨_, rfl, ⟨.inl ⟨rfl, HF.out⟩⟩⟩, hS⟩
    by_cases c2 : s.kind ≤ 12
    rotate_left
    · have HF : Bx (¬ Plain s) := ⟨fun h => c2 h.1.2⟩
      have d1 : decide (s.kind < 1) = false := decide_eq_false (by omega)
      have d2 : decide (12 < s.kind) = true := decide_eq_true (by omega)
      clear hbare HS HP hno
      (refine region_quiet hS (by kernel_rfl) (by kernel_rfl) (by kernel_rfl) ?_; clear hS; (repeat (first | (refine quiet_skip rfl ?_; simp only [putW]) | (refine quiet_y (yLoadAll (fun _ h => h) rfl rfl rfl rfl) ?_; simp only [putW]) | (refine quiet_y (yMove rfl rfl rfl) ?_; simp only [evW, putW]) | (refine quiet_y (yNil rfl rfl rfl) ?_; simp only [putW]) | (refine quiet_y (yLoad1 (fun _ h => h) rfl rfl rfl rfl) ?_; simp only [putW]) | (apply quiet_y; (focus (apply yRun rfl; intro w; first | (go_simp; done) | (go_simp; rfl))); simp only [putW]))); refine quiet_nil ?_; intro w hS)
      go_wp2_with (first | (refine load1 hS rfl rfl rfl rfl ?_; simp only [putW]) | (refine loadAll hS rfl rfl rfl ?_ ?_; rfl; simp only [putW]) | (refine loadPart hS rfl rfl rfl ?_ rfl ?_; rfl; simp only [putW]) | (refine store1 hS rfl rfl rfl rfl rfl ?_ ?_; (focus (simp; done)); clear hS; intro w hS; simp only [evW, putW] at hS; try simp only [putW]) | (refine storeAll hS rfl rfl rfl rfl ?_ ?_ ?_ ?_; rfl; (focus (simp [Value.oneCell']; done)); rfl; clear hS; intro w hS; try simp only [putW]) | (refine storeN hS rfl rfl rfl rfl ?_ ?_ ?_ ?_; rfl; (focus (simp [Value.oneCell']; done)); (focus (simp; done)); clear hS; intro w hS; simp at hS; try simp only [putW]) | (refine alloc hS rfl rfl ?_; clear hS; intro mb w hS; simp only [putW]) | (refine box1 hS rfl rfl rfl rfl ?_; clear hS; intro mb w hS; try simp only [evW, putW] at hS; simp only [putW]) | (refine boxN hS rfl rfl rfl ?_; clear hS; intro mb w hS; simp only [putW]))
      go_meet
      case rel => exact ⟨⟨_, rfl, ⟨.inl ⟨rfl, HF.out⟩⟩⟩, hS⟩
    have d1 : decide (s.kind < 1) = false := decide_eq_false (by omega)
    have d2 : decide (12 < s.kind) = false := decide_eq_false (by omega)
    by_cases c3 : s.kind = 1 → 1 ≤ s.okd ∧ s.okd ≤ 6
    rotate_left
    · have HF : Bx (¬ Plain s) := ⟨fun h => c3 h.2.1⟩
      have q1 : (s.kind == 1) = true := beq_iff_eq.2 (Classical.byContradiction fun h => c3 fun e => absurd e h)
      by_cases c4 : s.okd < 1
      · have d3 : decide (s.okd < 1) = true := decide_eq_true c4
        clear hbare HS HP hno c3 c4
        (refine region_quiet hS (by kernel_rfl) (by kernel_rfl) (by kernel_rfl) ?_; clear hS; (repeat (first | (refine quiet_skip rfl ?_; simp only [putW]) | (refine quiet_y (yLoadAll (fun _ h => h) rfl rfl rfl rfl) ?_; simp only [putW]) | (refine quiet_y (yMove rfl rfl rfl) ?_; simp only [evW, putW]) | (refine quiet_y (yNil rfl rfl rfl) ?_; simp only [putW]) | (refine quiet_y (yLoad1 (fun _ h => h) rfl rfl rfl rfl) ?_; simp only [putW]) | (apply quiet_y; (focus (apply yRun rfl; intro w; first | (go_simp; done) | (go_simp; rfl))); simp only [putW]))); refine quiet_nil ?_; intro w hS)
        go_wp2_with (first | (refine load1 hS rfl rfl rfl rfl ?_; simp only [putW]) | (refine loadAll hS rfl rfl rfl ?_ ?_; rfl; simp only [putW]) | (refine loadPart hS rfl rfl rfl ?_ rfl ?_; rfl; simp only [putW]) | (refine store1 hS rfl rfl rfl rfl rfl ?_ ?_; (focus (simp; done)); clear hS; intro w hS; simp only [evW, putW] at hS; try simp only [putW]) | (refine storeAll hS rfl rfl rfl rfl ?_ ?_ ?_ ?_; rfl; (focus (simp [Value.oneCell']; done)); rfl; clear hS; intro w hS; try simp only [putW]) | (refine storeN hS rfl rfl rfl rfl ?_ ?_ ?_ ?_; rfl; (focus (simp [Value.oneCell']; done)); (focus (simp; done)); clear hS; intro w hS; simp at hS; try simp only [putW]) | (refine alloc hS rfl rfl ?_; clear hS; intro mb w hS; simp only [putW]) | (refine box1 hS rfl rfl rfl rfl ?_; clear hS; intro mb w hS; try simp only [evW, putW] at hS; simp only [putW]) | (refine boxN hS rfl rfl rfl ?_; clear hS; intro mb w hS; simp only [putW]))
        go_meet
        case rel => exact ⟨⟨_, rfl, ⟨.inl ⟨rfl, HF.out⟩⟩⟩, hS⟩
      · have d3 : decide (s.okd < 1) = false := decide_eq_false c4
        have d4 : decide (6 < s.okd) = true := decide_eq_true (Classical.byContradiction fun h => c3 fun _ => ⟨by omega, by omega⟩)
        clear hbare HS HP hno c3 c4
        (refine region_quiet hS (by kernel_rfl) (by kernel_rfl) (by kernel_rfl) ?_; clear hS; (repeat (first | (refine quiet_skip rfl ?_; simp only [putW]) | (refine quiet_y (yLoadAll (fun _ h => h) rfl rfl rfl rfl) ?_; simp only [putW]) | (refine quiet_y (yMove rfl rfl rfl) ?_; simp only [evW, putW]) | (refine quiet_y (yNil rfl rfl rfl) ?_; simp only [putW]) | (refine quiet_y (yLoad1 (fun _ h => h) rfl rfl rfl rfl) ?_; simp only [putW]) | (apply quiet_y; (focus (apply yRun rfl; intro w; first | (go_simp; done) | (go_simp; rfl))); simp only [putW]))); refine quiet_nil ?_; intro w hS)
        go_wp2_with (first | (refine load1 hS rfl rfl rfl rfl ?_; simp only [putW]) | (refine loadAll hS rfl rfl rfl ?_ ?_; rfl; simp only [putW]) | (refine loadPart hS rfl rfl rfl ?_ rfl ?_; rfl; simp only [putW]) | (refine store1 hS rfl rfl rfl rfl rfl ?_ ?_; (focus (simp; done)); clear hS; intro w hS; simp only [evW, putW] at hS; try simp only [putW]) | (refine storeAll hS rfl rfl rfl rfl ?_ ?_ ?_ ?_; rfl; (focus (simp [Value.oneCell']; done)); rfl; clear hS; intro w hS; try simp only [putW]) | (refine storeN hS rfl rfl rfl rfl ?_ ?_ ?_ ?_; rfl; (focus (simp [Value.oneCell']; done)); (focus (simp; done)); clear hS; intro w hS; simp at hS; try simp only [putW]) | (refine alloc hS rfl rfl ?_; clear hS; intro mb w hS; simp only [putW]) | (refine box1 hS rfl rfl rfl rfl ?_; clear hS; intro mb w hS; try simp only [evW, putW] at hS; simp only [putW]) | (refine boxN hS rfl rfl rfl ?_; clear hS; intro mb w hS; simp only [putW]))
        go_meet
        case rel => exact ⟨⟨_, rfl, ⟨.inl ⟨rfl, HF.out⟩⟩⟩, hS⟩
    have HB : Bx _ := ⟨hbare.out c1 c2 c3⟩
    have h1 : ((s.kind == 1) = true ∧ decide (s.okd < 1) = false ∧ decide (6 < s.okd) = false) ∨ (s.kind == 1) = false := by
      by_cases e : s.kind = 1
      · have := c3 e
        exact .inl ⟨beq_iff_eq.2 e, decide_eq_false (by omega), decide_eq_false (by omega)⟩
      · exact .inr (beq_eq_false_iff_ne.2 e)
    have HC : Bx (((!be) = true ∧ ¬ Plain s) ∨ ((!be) = false ∧ (1 ≤ s.kind ∧ s.kind ≤ 12) ∧ (s.kind = 1 → 1 ≤ s.okd ∧ s.okd ≤ 6) ∧ eqv (bareS s) s)) := ⟨by
      rw [← HBE.out]
      by_cases ce : eqv (bareS s) s
      · exact .inr ⟨by simp [ce], ⟨c1, c2⟩, c3, ce⟩
      · exact .inl ⟨by simp [ce], fun h => ce h.2.2.1⟩⟩
    clear hbare c1 c2 c3 HP hno HBE
    rcases h1 with ⟨q1, d3, d4⟩ | q1
    all_goals
      (refine region_quiet hS (by kernel_rfl) (by kernel_rfl) (by kernel_rfl) ?_; clear hS; (repeat (first | (refine quiet_skip rfl ?_; simp only [putW]) | (apply quiet_go rfl Tryz.call68 rfl; (focus (intro w hS; refine Calls.mono (HB.out _ hS.nothing) ?_; rintro _ w2 ⟨rfl, h2⟩; exact ⟨rfl, hS.frame h2⟩)); simp only [putW]) | (apply quiet_go rfl Tryz.call12 rfl; (focus (intro w hS; refine Calls.mono (HS.out _ hS.nothing) ?_; rintro _ w2 ⟨rfl, h2⟩; exact ⟨rfl, hS.frame h2⟩)); simp only [putW]) | (refine quiet_y (yLoadAll (fun _ h => h) rfl rfl rfl rfl) ?_; simp only [putW]) | (refine quiet_y (yMove rfl rfl rfl) ?_; simp only [evW, putW]) | (refine quiet_y (yNil rfl rfl rfl) ?_; simp only [putW]) | (refine quiet_y (yLoad1 (fun _ h => h) rfl rfl rfl rfl) ?_; simp only [putW]) | (apply quiet_y; (focus (apply yRun rfl; intro w; first | (go_simp; done) | (go_simp; rfl))); simp only [putW]))); refine quiet_nil ?_; intro w hS)
      go_wp2_with (first | (refine load1 hS rfl rfl rfl rfl ?_; simp only [putW]) | (refine loadAll hS rfl rfl rfl ?_ ?_; rfl; simp only [putW]) | (refine loadPart hS rfl rfl rfl ?_ rfl ?_; rfl; simp only [putW]) | (refine store1 hS rfl rfl rfl rfl rfl ?_ ?_; (focus (simp; done)); clear hS; intro w hS; simp only [evW, putW] at hS; try simp only [putW]) | (refine storeAll hS rfl rfl rfl rfl ?_ ?_ ?_ ?_; rfl; (focus (simp [Value.oneCell']; done)); rfl; clear hS; intro w hS; try simp only [putW]) | (refine storeN hS rfl rfl rfl rfl ?_ ?_ ?_ ?_; rfl; (focus (simp [Value.oneCell']; done)); (focus (simp; done)); clear hS; intro w hS; simp at hS; try simp only [putW]) | (refine alloc hS rfl rfl ?_; clear hS; intro mb w hS; simp only [putW]) | (refine box1 hS rfl rfl rfl rfl ?_; clear hS; intro mb w hS; try simp only [evW, putW] at hS; simp only [putW]) | (refine boxN hS rfl rfl rfl ?_; clear hS; intro mb w hS; simp only [putW]))
      go_meet
      case rel => exact ⟨⟨_, rfl, HC⟩, hS⟩
  case rest =>
    clear hS HS hbare HBE
    obtain ⟨⟨b, rfl, hb⟩, hS⟩ := hcut
    obtain ⟨⟨rfl, hF⟩ | ⟨rfl, hk, ho, he⟩⟩ := hb
    · have HF : Bx (r = false) := ⟨hno.out hF⟩
      clear hF
      go_wp2_with (first | (refine load1 hS rfl rfl rfl rfl ?_; simp only [putW]) | (refine loadAll hS rfl rfl rfl ?_ ?_; rfl; simp only [putW]) | (refine loadPart hS rfl rfl rfl ?_ rfl ?_; rfl; simp only [putW]) | (refine store1 hS rfl rfl rfl rfl rfl ?_ ?_; (focus (simp; done)); clear hS; intro w hS; simp only [evW, putW] at hS; try simp only [putW]) | (refine storeAll hS rfl rfl rfl rfl ?_ ?_ ?_ ?_; rfl; (focus (simp [Value.oneCell']; done)); rfl; clear hS; intro w hS; try simp only [putW]) | (refine storeN hS rfl rfl rfl rfl ?_ ?_ ?_ ?_; rfl; (focus (simp [Value.oneCell']; done)); (focus (simp; done)); clear hS; intro w hS; simp at hS; try simp only [putW]) | (refine alloc hS rfl rfl ?_; clear hS; intro mb w hS; simp only [putW]) | (refine box1 hS rfl rfl rfl rfl ?_; clear hS; intro mb w hS; try simp only [evW, putW] at hS; simp only [putW]) | (refine boxN hS rfl rfl rfl ?_; clear hS; intro mb w hS; simp only [putW]))
      exact bodyPost_ret (v := .bool false) (by simp [results, Tryz.results40]) rfl ⟨by rw [HF.out], hS.nothing⟩
    have HK1 : Bx _ := ⟨hk⟩
    have HK2 : Bx _ := ⟨ho⟩
    have HK3 : Bx _ := ⟨he⟩
    clear hk ho he
    go_upto_region 3 with (first | (refine load1 hS rfl rfl rfl rfl ?_; simp only [putW]) | (refine loadAll hS rfl rfl rfl ?_ ?_; rfl; simp only [putW]) | (refine loadPart hS rfl rfl rfl ?_ rfl ?_; rfl; simp only [putW]) | (refine store1 hS rfl rfl rfl rfl rfl ?_ ?_; (focus (simp; done)); clear hS; intro w hS; simp only [evW, putW] at hS; try simp only [putW]) | (refine storeAll hS rfl rfl rfl rfl ?_ ?_ ?_ ?_; rfl; (focus (simp [Value.oneCell']; done)); rfl; clear hS; intro w hS; try simp only [putW]) | (refine storeN hS rfl rfl rfl rfl ?_ ?_ ?_ ?_; rfl; (focus (simp [Value.oneCell']; done)); (focus (simp; done)); clear hS; intro w hS; simp at hS; try simp only [putW]) | (refine alloc hS rfl rfl ?_; clear hS; intro mb w hS; simp only [putW]) | (refine box1 hS rfl rfl rfl rfl ?_; clear hS; intro mb w hS; try simp only [evW, putW] at hS; simp only [putW]) | (refine boxN hS rfl rfl rfl ?_; clear hS; intro mb w hS; simp only [putW]))
    go_cut [71] from 36 to 70 (fun v wc => (∃ b, v = .bool b ∧ Bx ((b = true ∧ ¬ Plain s) ∨ (b = false ∧ okN s.a ∧ okN s.b ∧ okN s.pg ∧ s.od.length ≤ 240 ∧ s.da.length ≤ 256 ∧ s.fa.length ≤ 16))) ∧ Sat w0 ((sb, cells (stC s (.slice po s.od.length co) (.slice pd s.da.length cd) (.slice pq s.fa.length cf)) 29) :: []) wc)
    case first =>
      clear HK1 HK2 HK3 HP hno
      have key : ∃ b1 b2 b3 b4 b5 b6 : Bool, (decide (okN s.a) = b1 ∧ decide (okN s.b) = b2 ∧ decide (okN s.pg) = b3) ∧ (decide ((240 : Int) < (s.od.length : Int)) = b4 ∧ decide ((256 : Int) < (s.da.length : Int)) = b5 ∧ decide ((16 : Int) < (s.fa.length : Int)) = b6) := ⟨_, _, _, _, _, _, ⟨rfl, rfl, rfl⟩, rfl, rfl, rfl⟩
      obtain ⟨b1, b2, b3, b4, b5, b6, ⟨e1, e2, e3⟩, e4, e5, e6⟩ := key
      have HC : Bx ((((b1 = false ∨ b2 = false ∨ b3 = false ∨ b4 = true ∨ b5 = true ∨ b6 = true)) → ¬ Plain s) ∧ (b1 = true → b2 = true → b3 = true → b4 = false → b5 = false → b6 = false → okN s.a ∧ okN s.b ∧ okN s.pg ∧ s.od.length ≤ 240 ∧ s.da.length ≤ 256 ∧ s.fa.length ≤ 16)) := ⟨by
        refine ⟨fun h p => ?_, fun h1 h2 h3 h4 h5 h6 => ?_⟩
        · obtain ⟨-, -, -, pa, pb, pp, po, pd, pf, -⟩ := p
          rcases h with h | h | h | h | h | h
          · rw [h] at e1; exact of_decide_eq_false e1 pa
          · rw [h] at e2; exact of_decide_eq_false e2 pb
          · rw [h] at e3; exact of_decide_eq_false e3 pp
          · rw [h] at e4; have := of_decide_eq_true e4; omega
          · rw [h] at e5; have := of_decide_eq_true e5; omega
          · rw [h] at e6; have := of_decide_eq_true e6; omega
        · rw [h1] at e1; rw [h2] at e2; rw [h3] at e3; rw [h4] at e4; rw [h5] at e5; rw [h6] at e6
          have := of_decide_eq_false e4
          have := of_decide_eq_false e5
          have := of_decide_eq_false e6
          exact ⟨of_decide_eq_true e1, of_decide_eq_true e2, of_decide_eq_true e3, by omega, by omega, by omega⟩⟩
      cases b1
      · (refine region_flat hS ?_; clear hS; (repeat (first | (refine quiet_skip rfl ?_; simp only [putW]) | (apply quiet_go rfl Tryz.call69 rfl; (focus (intro w hS; refine Calls.mono (fits_any rfl) ?_; rintro _ w2 ⟨rfl, h2⟩; exact ⟨rfl, hS.frame h2⟩)); simp only [putW]) | (refine quiet_y (yMove rfl rfl rfl) ?_; simp only [evW, putW]) | (refine quiet_y (yNil rfl rfl rfl) ?_; simp only [putW]) | (refine quiet_y (yLoad1 (fun _ h => h) rfl rfl rfl rfl) ?_; simp only [putW]) | (apply quiet_y; (focus (apply yRun rfl; intro w; first | (go_simp; done) | (go_simp; rfl))); simp only [putW]))); refine quiet_nil ?_; intro w hS)
        go_wp2_with (first | (refine load1 hS rfl rfl rfl rfl ?_; simp only [putW]) | (refine loadAll hS rfl rfl rfl ?_ ?_; rfl; simp only [putW]) | (refine loadPart hS rfl rfl rfl ?_ rfl ?_; rfl; simp only [putW]) | (refine store1 hS rfl rfl rfl rfl rfl ?_ ?_; (focus (simp; done)); clear hS; intro w hS; simp only [evW, putW] at hS; try simp only [putW]) | (refine storeAll hS rfl rfl rfl rfl ?_ ?_ ?_ ?_; rfl; (focus (simp [Value.oneCell']; done)); rfl; clear hS; intro w hS; try simp only [putW]) | (refine storeN hS rfl rfl rfl rfl ?_ ?_ ?_ ?_; rfl; (focus (simp [Value.oneCell']; done)); (focus (simp; done)); clear hS; intro w hS; simp at hS; try simp only [putW]) | (refine alloc hS rfl rfl ?_; clear hS; intro mb w hS; simp only [putW]) | (refine box1 hS rfl rfl rfl rfl ?_; clear hS; intro mb w hS; try simp only [evW, putW] at hS; simp only [putW]) | (refine boxN hS rfl rfl rfl ?_; clear hS; intro mb w hS; simp only [putW]))
        go_meet
        case rel => exact ⟨⟨_, rfl, ⟨.inl ⟨rfl, HC.out.1 (by simp)⟩⟩⟩, hS⟩
      cases b2
      · (refine region_flat hS ?_; clear hS; (repeat (first | (refine quiet_skip rfl ?_; simp only [putW]) | (apply quiet_go rfl Tryz.call69 rfl; (focus (intro w hS; refine Calls.mono (fits_any rfl) ?_; rintro _ w2 ⟨rfl, h2⟩; exact ⟨rfl, hS.frame h2⟩)); simp only [putW]) | (refine quiet_y (yMove rfl rfl rfl) ?_; simp only [evW, putW]) | (refine quiet_y (yNil rfl rfl rfl) ?_; simp only [putW]) | (refine quiet_y (yLoad1 (fun _ h => h) rfl rfl rfl rfl) ?_; simp only [putW]) | (apply quiet_y; (focus (apply yRun rfl; intro w; first | (go_simp; done) | (go_simp; rfl))); simp only [putW]))); refine quiet_nil ?_; intro w hS)
        go_wp2_with (first | (refine load1 hS rfl rfl rfl rfl ?_; simp only [putW]) | (refine loadAll hS rfl rfl rfl ?_ ?_; rfl; simp only [putW]) | (refine loadPart hS rfl rfl rfl ?_ rfl ?_; rfl; simp only [putW]) | (refine store1 hS rfl rfl rfl rfl rfl ?_ ?_; (focus (simp; done)); clear hS; intro w hS; simp only [evW, putW] at hS; try simp only [putW]) | (refine storeAll hS rfl rfl rfl rfl ?_ ?_ ?_ ?_; rfl; (focus (simp [Value.oneCell']; done)); rfl; clear hS; intro w hS; try simp only [putW]) | (refine storeN hS rfl rfl rfl rfl ?_ ?_ ?_ ?_; rfl; (focus (simp [Value.oneCell']; done)); (focus (simp; done)); clear hS; intro w hS; simp at hS; try simp only [putW]) | (refine alloc hS rfl rfl ?_; clear hS; intro mb w hS; simp only [putW]) | (refine box1 hS rfl rfl rfl rfl ?_; clear hS; intro mb w hS; try simp only [evW, putW] at hS; simp only [putW]) | (refine boxN hS rfl rfl rfl ?_; clear hS; intro mb w hS; simp only [putW]))
        go_meet
        case rel => exact ⟨⟨_, rfl, ⟨.inl ⟨rfl, HC.out.1 (by simp)⟩⟩⟩, hS⟩
      cases b3
      · (refine region_flat hS ?_; clear hS; (repeat (first | (refine quiet_skip rfl ?_; simp only [putW]) | (apply quiet_go rfl Tryz.call69 rfl; (focus (intro w hS; refine Calls.mono (fits_any rfl) ?_; rintro _ w2 ⟨rfl, h2⟩; exact ⟨rfl, hS.frame h2⟩)); simp only [putW]) | (refine quiet_y (yMove rfl rfl rfl) ?_; simp only [evW, putW]) | (refine quiet_y (yNil rfl rfl rfl) ?_; simp only [putW]) | (refine quiet_y (yLoad1 (fun _ h => h) rfl rfl rfl rfl) ?_; simp only [putW]) | (apply quiet_y; (focus (apply yRun rfl; intro w; first | (go_simp; done) | (go_simp; rfl))); simp only [putW]))); refine quiet_nil ?_; intro w hS)
        go_wp2_with (first | (refine load1 hS rfl rfl rfl rfl ?_; simp only [putW]) | (refine loadAll hS rfl rfl rfl ?_ ?_; rfl; simp only [putW]) | (refine loadPart hS rfl rfl rfl ?_ rfl ?_; rfl; simp only [putW]) | (refine store1 hS rfl rfl rfl rfl rfl ?_ ?_; (focus (simp; done)); clear hS; intro w hS; simp only [evW, putW] at hS; try simp only [putW]) | (refine storeAll hS rfl rfl rfl rfl ?_ ?_ ?_ ?_; rfl; (focus (simp [Value.oneCell']; done)); rfl; clear hS; intro w hS; try simp only [putW]) | (refine storeN hS rfl rfl rfl rfl ?_ ?_ ?_ ?_; rfl; (focus (simp [Value.oneCell']; done)); (focus (simp; done)); clear hS; intro w hS; simp at hS; try simp only [putW]) | (refine alloc hS rfl rfl ?_; clear hS; intro mb w hS; simp only [putW]) | (refine box1 hS rfl rfl rfl rfl ?_; clear hS; intro mb w hS; try simp only [evW, putW] at hS; simp only [putW]) | (refine boxN hS rfl rfl rfl ?_; clear hS; intro mb w hS; simp only [putW]))
        go_meet
        case rel => exact ⟨⟨_, rfl, ⟨.inl ⟨rfl, HC.out.1 (by simp)⟩⟩⟩, hS⟩
      cases b4
      rotate_left
      · (refine region_flat hS ?_; clear hS; (repeat (first | (refine quiet_skip rfl ?_; simp only [putW]) | (apply quiet_go rfl Tryz.call69 rfl; (focus (intro w hS; refine Calls.mono (fits_any rfl) ?_; rintro _ w2 ⟨rfl, h2⟩; exact ⟨rfl, hS.frame h2⟩)); simp only [putW]) | (refine quiet_y (yMove rfl rfl rfl) ?_; simp only [evW, putW]) | (refine quiet_y (yNil rfl rfl rfl) ?_; simp only [putW]) | (refine quiet_y (yLoad1 (fun _ h => h) rfl rfl rfl rfl) ?_; simp only [putW]) | (apply quiet_y; (focus (apply yRun rfl; intro w; first | (go_simp; done) | (go_simp; rfl))); simp only [putW]))); refine quiet_nil ?_; intro w hS)
        go_wp2_with (first | (refine load1 hS rfl rfl rfl rfl ?_; simp only [putW]) | (refine loadAll hS rfl rfl rfl ?_ ?_; rfl; simp only [putW]) | (refine loadPart hS rfl rfl rfl ?_ rfl ?_; rfl; simp only [putW]) | (refine store1 hS rfl rfl rfl rfl rfl ?_ ?_; (focus (simp; done)); clear hS; intro w hS; simp only [evW, putW] at hS; try simp only [putW]) | (refine storeAll hS rfl rfl rfl rfl ?_ ?_ ?_ ?_; rfl; (focus (simp [Value.oneCell']; done)); rfl; clear hS; intro w hS; try simp only [putW]) | (refine storeN hS rfl rfl rfl rfl ?_ ?_ ?_ ?_; rfl; (focus (simp [Value.oneCell']; done)); (focus (simp; done)); clear hS; intro w hS; simp at hS; try simp only [putW]) | (refine alloc hS rfl rfl ?_; clear hS; intro mb w hS; simp only [putW]) | (refine box1 hS rfl rfl rfl rfl ?_; clear hS; intro mb w hS; try simp only [evW, putW] at hS; simp only [putW]) | (refine boxN hS rfl rfl rfl ?_; clear hS; intro mb w hS; simp only [putW]))
        go_meet
        case rel => exact ⟨⟨_, rfl, ⟨.inl ⟨rfl, HC.out.1 (by simp)⟩⟩⟩, hS⟩
      cases b5
      rotate_left
      · (refine region_flat hS ?_; clear hS; (repeat (first | (refine quiet_skip rfl ?_; simp only [putW]) | (apply quiet_go rfl Tryz.call69 rfl; (focus (intro w hS; refine Calls.mono (fits_any rfl) ?_; rintro _ w2 ⟨rfl, h2⟩; exact ⟨rfl, hS.frame h2⟩)); simp only [putW]) | (refine quiet_y (yMove rfl rfl rfl) ?_; simp only [evW, putW]) | (refine quiet_y (yNil rfl rfl rfl) ?_; simp only [putW]) | (refine quiet_y (yLoad1 (fun _ h => h) rfl rfl rfl rfl) ?_; simp only [putW]) | (apply quiet_y; (focus (apply yRun rfl; intro w; first | (go_simp; done) | (go_simp; rfl))); simp only [putW]))); refine quiet_nil ?_; intro w hS)
        go_wp2_with (first | (refine load1 hS rfl rfl rfl rfl ?_; simp only [putW]) | (refine loadAll hS rfl rfl rfl ?_ ?_; rfl; simp only [putW]) | (refine loadPart hS rfl rfl rfl ?_ rfl ?_; rfl; simp only [putW]) | (refine store1 hS rfl rfl rfl rfl rfl ?_ ?_; (focus (simp; done)); clear hS; intro w hS; simp only [evW, putW] at hS; try simp only [putW]) | (refine storeAll hS rfl rfl rfl rfl ?_ ?_ ?_ ?_; rfl; (focus (simp [Value.oneCell']; done)); rfl; clear hS; intro w hS; try simp only [putW]) | (refine storeN hS rfl rfl rfl rfl ?_ ?_ ?_ ?_; rfl; (focus (simp [Value.oneCell']; done)); (focus (simp; done)); clear hS; intro w hS; simp at hS; try simp only [putW]) | (refine alloc hS rfl rfl ?_; clear hS; intro mb w hS; simp only [putW]) | (refine box1 hS rfl rfl rfl rfl ?_; clear hS; intro mb w hS; try simp only [evW, putW] at hS; simp only [putW]) | (refine boxN hS rfl rfl rfl ?_; clear hS; intro mb w hS; simp only [putW]))
        go_meet
        case rel => exact ⟨⟨_, rfl, ⟨.inl ⟨rfl, HC.out.1 (by simp)⟩⟩⟩, hS⟩
      cases b6
      rotate_left
      · (refine region_flat hS ?_; clear hS; (repeat (first | (refine quiet_skip rfl ?_; simp only [putW]) | (apply quiet_go rfl Tryz.call69 rfl; (focus (intro w hS; refine Calls.mono (fits_any rfl) ?_; rintro _ w2 ⟨rfl, h2⟩; exact ⟨rfl, hS.frame h2⟩)); simp only [putW]) | (refine quiet_y (yMove rfl rfl rfl) ?_; simp only [evW, putW]) | (refine quiet_y (yNil rfl rfl rfl) ?_; simp only [putW]) | (refine quiet_y (yLoad1 (fun _ h => h) rfl rfl rfl rfl) ?_; simp only [putW]) | (apply quiet_y; (focus (apply yRun rfl; intro w; first | (go_simp; done) | (go_simp; rfl))); simp only [putW]))); refine quiet_nil ?_; intro w hS)
        go_wp2_with (first | (refine load1 hS rfl rfl rfl rfl ?_; simp only [putW]) | (refine loadAll hS rfl rfl rfl ?_ ?_; rfl; simp only [putW]) | (refine loadPart hS rfl rfl rfl ?_ rfl ?_; rfl; simp only [putW]) | (refine store1 hS rfl rfl rfl rfl rfl ?_ ?_; (focus (simp; done)); clear hS; intro w hS; simp only [evW, putW] at hS; try simp only [putW]) | (refine storeAll hS rfl rfl rfl rfl ?_ ?_ ?_ ?_; rfl; (focus (simp [Value.oneCell']; done)); rfl; clear hS; intro w hS; try simp only [putW]) | (refine storeN hS rfl rfl rfl rfl ?_ ?_ ?_ ?_; rfl; (focus (simp [Value.oneCell']; done)); (focus (simp; done)); clear hS; intro w hS; simp at hS; try simp only [putW]) | (refine alloc hS rfl rfl ?_; clear hS; intro mb w hS; simp only [putW]) | (refine box1 hS rfl rfl rfl rfl ?_; clear hS; intro mb w hS; try simp only [evW, putW] at hS; simp only [putW]) | (refine boxN hS rfl rfl rfl ?_; clear hS; intro mb w hS; simp only [putW]))
        go_meet
        case rel => exact ⟨⟨_, rfl, ⟨.inl ⟨rfl, HC.out.1 (by simp)⟩⟩⟩, hS⟩
      · (refine region_flat hS ?_; clear hS; (repeat (first | (refine quiet_skip rfl ?_; simp only [putW]) | (apply quiet_go rfl Tryz.call69 rfl; (focus (intro w hS; refine Calls.mono (fits_any rfl) ?_; rintro _ w2 ⟨rfl, h2⟩; exact ⟨rfl, hS.frame h2⟩)); simp only [putW]) | (refine quiet_y (yMove rfl rfl rfl) ?_; simp only [evW, putW]) | (refine quiet_y (yNil rfl rfl rfl) ?_; simp only [putW]) | (refine quiet_y (yLoad1 (fun _ h => h) rfl rfl rfl rfl) ?_; simp only [putW]) | (apply quiet_y; (focus (apply yRun rfl; intro w; first | (go_simp; done) | (go_simp; rfl))); simp only [putW]))); refine quiet_nil ?_; intro w hS)
        go_wp2_with (first | (refine load1 hS rfl rfl rfl rfl ?_; simp only [putW]) | (refine loadAll hS rfl rfl rfl ?_ ?_; rfl; simp only [putW]) | (refine loadPart hS rfl rfl rfl ?_ rfl ?_; rfl; simp only [putW]) | (refine store1 hS rfl rfl rfl rfl rfl ?_ ?_; (focus (simp; done)); clear hS; intro w hS; simp only [evW, putW] at hS; try simp only [putW]) | (refine storeAll hS rfl rfl rfl rfl ?_ ?_ ?_ ?_; rfl; (focus (simp [Value.oneCell']; done)); rfl; clear hS; intro w hS; try simp only [putW]) | (refine storeN hS rfl rfl rfl rfl ?_ ?_ ?_ ?_; rfl; (focus (simp [Value.oneCell']; done)); (focus (simp; done)); clear hS; intro w hS; simp at hS; try simp only [putW]) | (refine alloc hS rfl rfl ?_; clear hS; intro mb w hS; simp only [putW]) | (refine box1 hS rfl rfl rfl rfl ?_; clear hS; intro mb w hS; try simp only [evW, putW] at hS; simp only [putW]) | (refine boxN hS rfl rfl rfl ?_; clear hS; intro mb w hS; simp only [putW]))
        go_meet
        case rel => exact ⟨⟨_, rfl, ⟨.inr ⟨rfl, HC.out.2 (by simp) (by simp) (by simp) (by simp) (by simp) (by simp)⟩⟩⟩, hS⟩
    case rest =>
      clear hS
      obtain ⟨⟨b, rfl, hb⟩, hS⟩ := hcut
      obtain ⟨⟨rfl, hF⟩ | ⟨rfl, h6⟩⟩ := hb
      · have HF : Bx (r = false) := ⟨hno.out hF⟩
        clear hF
        go_wp2_with (first | (refine load1 hS rfl rfl rfl rfl ?_; simp only [putW]) | (refine loadAll hS rfl rfl rfl ?_ ?_; rfl; simp only [putW]) | (refine loadPart hS rfl rfl rfl ?_ rfl ?_; rfl; simp only [putW]) | (refine store1 hS rfl rfl rfl rfl rfl ?_ ?_; (focus (simp; done)); clear hS; intro w hS; simp only [evW, putW] at hS; try simp only [putW]) | (refine storeAll hS rfl rfl rfl rfl ?_ ?_ ?_ ?_; rfl; (focus (simp [Value.oneCell']; done)); rfl; clear hS; intro w hS; try simp only [putW]) | (refine storeN hS rfl rfl rfl rfl ?_ ?_ ?_ ?_; rfl; (focus (simp [Value.oneCell']; done)); (focus (simp; done)); clear hS; intro w hS; simp at hS; try simp only [putW]) | (refine alloc hS rfl rfl ?_; clear hS; intro mb w hS; simp only [putW]) | (refine box1 hS rfl rfl rfl rfl ?_; clear hS; intro mb w hS; try simp only [evW, putW] at hS; simp only [putW]) | (refine boxN hS rfl rfl rfl ?_; clear hS; intro mb w hS; simp only [putW]))
        exact bodyPost_ret (v := .bool false) (by simp [results, Tryz.results40]) rfl ⟨by rw [HF.out], hS.nothing⟩
      have HQ : Bx ((∀ x ∈ s.fa, okN x) → Plain s) := ⟨fun h => ⟨HK1.out, HK2.out, HK3.out, h6.1, h6.2.1, h6.2.2.1, h6.2.2.2.1, h6.2.2.2.2.1, h6.2.2.2.2.2, h⟩⟩
      have hl16 : s.fa.length ≤ 16 := h6.2.2.2.2.2
      clear HK1 HK2 HK3 h6
      go_wp2_with (first | (refine load1 hS rfl rfl rfl rfl ?_; simp only [putW]) | (refine loadAll hS rfl rfl rfl ?_ ?_; rfl; simp only [putW]) | (refine loadPart hS rfl rfl rfl ?_ rfl ?_; rfl; simp only [putW]) | (refine store1 hS rfl rfl rfl rfl rfl ?_ ?_; (focus (simp; done)); clear hS; intro w hS; simp only [evW, putW] at hS; try simp only [putW]) | (refine storeAll hS rfl rfl rfl rfl ?_ ?_ ?_ ?_; rfl; (focus (simp [Value.oneCell']; done)); rfl; clear hS; intro w hS; try simp only [putW]) | (refine storeN hS rfl rfl rfl rfl ?_ ?_ ?_ ?_; rfl; (focus (simp [Value.oneCell']; done)); (focus (simp; done)); clear hS; intro w hS; simp at hS; try simp only [putW]) | (refine alloc hS rfl rfl ?_; clear hS; intro mb w hS; simp only [putW]) | (refine box1 hS rfl rfl rfl rfl ?_; clear hS; intro mb w hS; try simp only [evW, putW] at hS; simp only [putW]) | (refine boxN hS rfl rfl rfl ?_; clear hS; intro mb w hS; simp only [putW]))
      go_loopw [3] (fun i wr => ∃ (k : Nat), k ≤ s.fa.length ∧ i = .int .i64 (k : Int) ∧ Bx (∀ x ∈ s.fa.take k, okN x) ∧ Sat w0 ((sb, cells (stC s (.slice po s.od.length co) (.slice pd s.da.length cd) (.slice pq s.fa.length cf)) 29) :: []) wr) (fun i _ => s.fa.length - (intOf i).toNat)
      case atStart => exact ⟨0, Nat.zero_le _, rfl, ⟨fun x hx => by simp at hx⟩, hS⟩
      case round =>
        clear hS
        obtain ⟨k, hk, rfl, HK, hS⟩ := hrel
        by_cases hlt : k < s.fa.length
        · obtain ⟨x, hx⟩ : ∃ x, s.fa[k]? = some x := ⟨_, List.getElem?_eq_getElem hlt⟩
          obtain ⟨b, off, rfl, hBA⟩ := HAT.out (by intro e; rw [e] at hlt; simp at hlt)
          have HBA : Bx (BAt w0 1 (one (Value.int .i64)) (fun _ => True) s.fa b off) := ⟨hBA⟩
          have Hx : Bx (s.fa[k]? = some x) := ⟨hx⟩
          clear hBA hx
          by_cases hf : okN x
          · have hf2 : decide (okN x) = true := decide_eq_true hf
            have HN : Bx (∀ x ∈ s.fa.take (k + 1), okN x) := ⟨fun y hy => by
              rw [List.take_add_one, Hx.out] at hy
              rcases List.mem_append.1 hy with h | h
              · exact HK.out y h
              · obtain rfl := List.mem_singleton.1 h; exact hf⟩
            clear hf
            go_wp2_with (first | (refine loadB (f := one (Value.int .i64)) hS rfl rfl rfl HBA.out k 0 ?_ Hx.out rfl ?_; omega; simp only [putW]) | (go_at_call 69; refine Calls.mono (fits_any rfl) ?_; rintro _ w2 ⟨rfl, h2⟩; replace hS := hS.frame h2; clear h2; (try simp only [List.cons_append, List.nil_append] at hS); simp only [putW]) | (refine load1 hS rfl rfl rfl rfl ?_; simp only [putW]) | (refine loadAll hS rfl rfl rfl ?_ ?_; rfl; simp only [putW]) | (refine loadPart hS rfl rfl rfl ?_ rfl ?_; rfl; simp only [putW]) | (refine store1 hS rfl rfl rfl rfl rfl ?_ ?_; (focus (simp; done)); clear hS; intro w hS; simp only [evW, putW] at hS; try simp only [putW]) | (refine storeAll hS rfl rfl rfl rfl ?_ ?_ ?_ ?_; rfl; (focus (simp [Value.oneCell']; done)); rfl; clear hS; intro w hS; try simp only [putW]) | (refine storeN hS rfl rfl rfl rfl ?_ ?_ ?_ ?_; rfl; (focus (simp [Value.oneCell']; done)); (focus (simp; done)); clear hS; intro w hS; simp at hS; try simp only [putW]) | (refine alloc hS rfl rfl ?_; clear hS; intro mb w hS; simp only [putW]) | (refine box1 hS rfl rfl rfl rfl ?_; clear hS; intro mb w hS; try simp only [evW, putW] at hS; simp only [putW]) | (refine boxN hS rfl rfl rfl ?_; clear hS; intro mb w hS; simp only [putW]))
            go_roundw
            case rel => exact ⟨k + 1, by omega, by go_num, HN, hS⟩
            case measure => simp only [intOf]; omega
          · have hf2 : decide (okN x) = false := decide_eq_false hf
            have HF : Bx (r = false) := ⟨hno.out fun h => hf (h.2.2.2.2.2.2.2.2.2 x (List.mem_of_getElem? Hx.out))⟩
            clear hf
            go_wp2_with (first | (refine loadB (f := one (Value.int .i64)) hS rfl rfl rfl HBA.out k 0 ?_ Hx.out rfl ?_; omega; simp only [putW]) | (go_at_call 69; refine Calls.mono (fits_any rfl) ?_; rintro _ w2 ⟨rfl, h2⟩; replace hS := hS.frame h2; clear h2; (try simp only [List.cons_append, List.nil_append] at hS); simp only [putW]) | (refine load1 hS rfl rfl rfl rfl ?_; simp only [putW]) | (refine loadAll hS rfl rfl rfl ?_ ?_; rfl; simp only [putW]) | (refine loadPart hS rfl rfl rfl ?_ rfl ?_; rfl; simp only [putW]) | (refine store1 hS rfl rfl rfl rfl rfl ?_ ?_; (focus (simp; done)); clear hS; intro w hS; simp only [evW, putW] at hS; try simp only [putW]) | (refine storeAll hS rfl rfl rfl rfl ?_ ?_ ?_ ?_; rfl; (focus (simp [Value.oneCell']; done)); rfl; clear hS; intro w hS; try simp only [putW]) | (refine storeN hS rfl rfl rfl rfl ?_ ?_ ?_ ?_; rfl; (focus (simp [Value.oneCell']; done)); (focus (simp; done)); clear hS; intro w hS; simp at hS; try simp only [putW]) | (refine alloc hS rfl rfl ?_; clear hS; intro mb w hS; simp only [putW]) | (refine box1 hS rfl rfl rfl rfl ?_; clear hS; intro mb w hS; try simp only [evW, putW] at hS; simp only [putW]) | (refine boxN hS rfl rfl rfl ?_; clear hS; intro mb w hS; simp only [putW]))
            exact bodyPost_ret (v := .bool false) (by simp [results, Tryz.results40]) rfl ⟨by rw [HF.out], hS.nothing⟩
        · have HT : Bx (r = true) := ⟨by rw [← HP.out]; exact decide_eq_true (HQ.out fun x hx => HK.out x (by rw [List.take_of_length_le (by omega)]; exact hx))⟩
          go_wp2_with (first | (refine load1 hS rfl rfl rfl rfl ?_; simp only [putW]) | (refine loadAll hS rfl rfl rfl ?_ ?_; rfl; simp only [putW]) | (refine loadPart hS rfl rfl rfl ?_ rfl ?_; rfl; simp only [putW]) | (refine store1 hS rfl rfl rfl rfl rfl ?_ ?_; (focus (simp; done)); clear hS; intro w hS; simp only [evW, putW] at hS; try simp only [putW]) | (refine storeAll hS rfl rfl rfl rfl ?_ ?_ ?_ ?_; rfl; (focus (simp [Value.oneCell']; done)); rfl; clear hS; intro w hS; try simp only [putW]) | (refine storeN hS rfl rfl rfl rfl ?_ ?_ ?_ ?_; rfl; (focus (simp [Value.oneCell']; done)); (focus (simp; done)); clear hS; intro w hS; simp at hS; try simp only [putW]) | (refine alloc hS rfl rfl ?_; clear hS; intro mb w hS; simp only [putW]) | (refine box1 hS rfl rfl rfl rfl ?_; clear hS; intro mb w hS; try simp only [evW, putW] at hS; simp only [putW]) | (refine boxN hS rfl rfl rfl ?_; clear hS; intro mb w hS; simp only [putW]))
          exact bodyPost_ret (v := .bool true) (by simp [results, Tryz.results40]) rfl ⟨by rw [HT.out], hS.nothing⟩
end
end Go.Proofs.YtpbjkfomdindnaaGreatDoor
namespace Go.Proofs.YtpbjkfomdindnaaGreatDoor
open Go.RowKit Go.Shelf Go.Proofs.YtpbjkfomdindnaaGreatDoor.Sl Go.Proofs.YtpbjkfomdindnaaGreatDoor.Jp Go.Proofs.YtpbjkfomdindnaaGreatDoor.Sc

section
variable {w0 w : World} {S F K : List Chunk} {vo vd vf : Value}
/-- The words of what is asked for, behind one another. -/
def askedS (s : St) : Bs := joinC 32 (askedW s)
set_option maxRecDepth 100000 in
set_option maxHeartbeats 8000000 in
theorem asked_any {s : St} (hK : KV w0) (h1 : 1 ≤ s.okd) (h2 : s.okd ≤ 6) (hp : okN s.pg) (hl : s.od.length ≤ 240) (ho : RB w0 s.od vo) (hb : s.bt < 18446744073709551616) :
    Calls Tryz.prog 42 #[.agg #[.int .i64 s.okd, .int .i64 s.pg, vo, .float .f64 s.bt]] w0 fun e w' => e = .returned (str (askedS s)) ∧ Sat w0 [] w' := by
  have hS := Sat.refl w0
  have HK : Bx (KV w0) := ⟨hK⟩
  have HO : Bx (RB w0 s.od vo) := ⟨ho⟩
  obtain ⟨po, co, rfl, -⟩ := BSl.at ho
  have HI : Bx (∀ w : World, Sat w0 [] w → Calls Tryz.prog 41 #[.int .i64 s.pg] w fun e w' => e = .returned (str (Lib.itoa s.pg)) ∧ Sat w [] w') := ⟨fun w h => itoa_any s.pg (HK.out.mono h.base) (by have := hp.1; omega) (by have := hp.2; omega)⟩
  have HH : Bx (∀ w : World, Sat w0 [] w → Calls Tryz.prog 44 #[.slice po s.od.length co] w fun e w' => e = .returned (str (dashL s.od)) ∧ Sat w [] w') := ⟨fun w h => rhex_any (HO.out.mono h.base) (by omega)⟩
  have HN : Bx (∀ w : World, Calls Tryz.prog 45 #[.float .f64 s.bt] w fun e w' => e = .returned (str (bitsL s.bt)) ∧ Sat w [] w') := ⟨fun w => rbits_any hb⟩
  have hZl : (Lib.itoa s.pg).length ≤ 21 := Lib.itoa_length_le s.pg (by have := hp.1; omega) (by have := hp.2; omega)
  have hDl : (dashL s.od).length ≤ 500 := by unfold dashL; split <;> first | (simp; done) | (rw [hexL_len]; omega)
  have hBl : (bitsL s.bt).length ≤ 500 := by unfold bitsL; rw [hexL_len, beL_len]; omega
  have HW : Bx (askedS s = joinC 32 (askedW s)) := ⟨rfl⟩
  unfold askedW at HW
  generalize Lib.itoa s.pg = Z at HI hZl HW
  generalize dashL s.od = D at HH hDl HW
  generalize bitsL s.bt = B at HN hBl HW
  generalize hq : askedS s = Q at HW ⊢
  clear hq ho hK hp hl hb
  rcases kinds6 h1 h2 with e | e | e | e | e | e
  all_goals
    rw [e] at HW ⊢
    simp only [reduceIte, Int.reduceEq] at HW
    clear h1 h2 e
    go_enter Tryz.func42, Tryz.ntmps42
    go_wp2_with (first | (guard_target =~ wpList _ _ _ (Oper.mk (some 1) _ _ _ _ _ :: _) _ _; refine boxN hS rfl rfl rfl ?_; clear hS; intro sb w hS; simp only [putW]) | (go_at_call 41; refine Calls.mono (HI.out _ hS.nothing) ?_; rintro _ w2 ⟨rfl, h2⟩; replace hS := hS.frame h2; clear h2; (try simp only [List.cons_append, List.nil_append] at hS); simp only [putW]) | (go_at_call 44; refine Calls.mono (HH.out _ hS.nothing) ?_; rintro _ w2 ⟨rfl, h2⟩; replace hS := hS.frame h2; clear h2; (try simp only [List.cons_append, List.nil_append] at hS); simp only [putW]) | (go_at_call 45; refine Calls.mono (HN.out _) ?_; rintro _ w2 ⟨rfl, h2⟩; replace hS := hS.frame h2; clear h2; (try simp only [List.cons_append, List.nil_append] at hS); simp only [putW]) | (refine sumL rfl rfl rfl rfl ?_ ?_; (focus (simp only [List.length_append, List.length_cons, List.length_nil]; omega)); simp only [putW]) | (refine load1 hS rfl rfl rfl rfl ?_; simp only [putW]) | (refine loadAll hS rfl rfl rfl ?_ ?_; rfl; simp only [putW]) | (refine loadPart hS rfl rfl rfl ?_ rfl ?_; rfl; simp only [putW]) | (refine store1 hS rfl rfl rfl rfl rfl ?_ ?_; (focus (simp; done)); clear hS; intro w hS; simp only [evW, putW] at hS; try simp only [putW]) | (refine storeAll hS rfl rfl rfl rfl ?_ ?_ ?_ ?_; rfl; (focus (simp [Value.oneCell']; done)); rfl; clear hS; intro w hS; try simp only [putW]) | (refine storeN hS rfl rfl rfl rfl ?_ ?_ ?_ ?_; rfl; (focus (simp [Value.oneCell']; done)); (focus (simp; done)); clear hS; intro w hS; simp at hS; try simp only [putW]) | (refine alloc hS rfl rfl ?_; clear hS; intro mb w hS; simp only [putW]) | (refine box1 hS rfl rfl rfl rfl ?_; clear hS; intro mb w hS; try simp only [evW, putW] at hS; simp only [putW]) | (refine boxN hS rfl rfl rfl ?_; clear hS; intro mb w hS; simp only [putW]))
    exact bodyPost_ret (v := str Q) (by simp [results, Tryz.results42]; rw [HW.out]; simp [joinC, kwA, asksL]) rfl ⟨rfl, hS.nothing⟩
end
end Go.Proofs.YtpbjkfomdindnaaGreatDoor
namespace Go.Proofs.YtpbjkfomdindnaaGreatDoor
open Go.RowKit Go.Shelf Go.Proofs.YtpbjkfomdindnaaGreatDoor.Sl Go.Proofs.YtpbjkfomdindnaaGreatDoor.Jp Go.Proofs.YtpbjkfomdindnaaGreatDoor.Sc

theorem join_leM {c : UInt8} {M : Nat} : ∀ {W : List Bs}, (∀ w ∈ W, w.length ≤ M) → (joinC c W).length ≤ W.length * (M + 1)
  | [], _ => by simp [joinC]
  | [w], h => by have := h w (by simp); simp only [joinC, List.length_cons, List.length_nil]; omega
  | w :: v :: r, h => by
    have h1 := h w (by simp)
    have h2 := join_leM (c := c) (W := v :: r) fun x hx => h x (by simp [hx])
    rw [joinC_cons _ (by simp), List.length_append, List.length_cons]
    simp only [List.length_cons] at h2 ⊢
    rw [Nat.add_mul (r.length + 1) 1, Nat.one_mul]
    omega
theorem askedW_ne (s : St) : askedW s ≠ [] := by
  unfold askedW
  repeat' split
  all_goals simp
theorem kwA_len : ∀ k : Fin 7, (kwA k.val).length ≤ 500 := by decide +kernel
theorem askedS_len {s : St} (hp : okN s.pg) (hl : s.od.length ≤ 240) : (askedS s).length ≤ 2000 := by
  have hZl : (Lib.itoa s.pg).length ≤ 500 := Nat.le_trans (Lib.itoa_length_le s.pg (by have := hp.1; omega) (by have := hp.2; omega)) (by decide)
  have hDl : (dashL s.od).length ≤ 500 := by unfold dashL; split <;> first | (simp; done) | (rw [hexL_len]; omega)
  have hBl : (bitsL s.bt).length ≤ 500 := by unfold bitsL; rw [hexL_len, beL_len]; omega
  have j1 := kwA_len 1; have j2 := kwA_len 2; have j3 := kwA_len 3; have j4 := kwA_len 4; have j5 := kwA_len 5; have j6 := kwA_len 6
  have n0 : ∀ w ∈ ([] : List Bs), w.length ≤ 500 := fun w h => by cases h
  have cs : ∀ {x : Bs} {W : List Bs}, x.length ≤ 500 → (∀ w ∈ W, w.length ≤ 500) → ∀ w ∈ x :: W, w.length ≤ 500 := fun a b w h => by
    rcases List.mem_cons.1 h with e | e
    · rw [e]; exact a
    · exact b w e
  have hw : ∀ w ∈ askedW s, w.length ≤ 500 := by
    unfold askedW
    split
    · exact cs j1 (cs hZl n0)
    · split
      · exact cs j2 (cs hZl (cs hDl n0))
      · split
        · exact cs j3 n0
        · split
          · exact cs j4 n0
          · split
            · exact cs j5 (cs hZl (cs hBl n0))
            · exact cs j6 n0
  have hc : (askedW s).length ≤ 3 := by
    unfold askedW
    repeat' split
    all_goals simp
  have := join_leM (c := 32) hw
  unfold askedS
  have : (askedW s).length * (500 + 1) ≤ 3 * 501 := Nat.mul_le_mul_right _ hc
  omega
section
variable {w0 w : World} {S F K : List Chunk} {vo vd vf : Value}
/-- What the document prints. -/
def rprintS (s : St) : Bs := if Plain s then lineS s else []
set_option maxRecDepth 100000 in
set_option maxHeartbeats 8000000 in
theorem rprint_any {s : St} (hK : KV w0) (hR : RSt w0 s vo vd vf) :
    Calls Tryz.prog 20 #[.agg (stC s vo vd vf)] w0 fun e w' => e = .returned (.tuple #[str (rprintS s), .bool (decide (Plain s))]) ∧ Sat w0 [] w' := by
  have hS := Sat.refl w0
  have HK : Bx (KV w0) := ⟨hK⟩
  have HR : Bx (RSt w0 s vo vd vf) := ⟨hR⟩
  obtain ⟨po, co, rfl, -⟩ := BSl.at hR.od
  obtain ⟨pd, cd, rfl, -⟩ := BSl.at hR.da
  obtain ⟨pq, cf, rfl, -⟩ := BSl.at hR.fa
  clear hK hR
  by_cases hp : Plain s
  rotate_left
  · have HP : Bx (decide (Plain s) = false) := ⟨decide_eq_false hp⟩
    have HQ : Bx (rprintS s = []) := ⟨if_neg hp⟩
    clear hp
    go_enter Tryz.func20, Tryz.ntmps20
    go_wp2_with (first | (guard_target =~ wpList _ _ _ (Oper.mk (some 1) _ _ _ _ _ :: _) _ _; refine boxN hS rfl rfl rfl ?_; clear hS; intro sb w hS; simp only [putW]) | (go_at_call 40; refine Calls.mono (plain_any (HR.out.mono hS.base) HP.out) ?_; rintro _ w2 ⟨rfl, h2⟩; replace hS := hS.frame h2; clear h2; (try simp only [List.cons_append, List.nil_append] at hS); simp only [putW]) | (refine load1 hS rfl rfl rfl rfl ?_; simp only [putW]) | (refine loadAll hS rfl rfl rfl ?_ ?_; rfl; simp only [putW]) | (refine loadPart hS rfl rfl rfl ?_ rfl ?_; rfl; simp only [putW]) | (refine store1 hS rfl rfl rfl rfl rfl ?_ ?_; (focus (simp; done)); clear hS; intro w hS; simp only [evW, putW] at hS; try simp only [putW]) | (refine storeAll hS rfl rfl rfl rfl ?_ ?_ ?_ ?_; rfl; (focus (simp [Value.oneCell']; done)); rfl; clear hS; intro w hS; try simp only [putW]) | (refine storeN hS rfl rfl rfl rfl ?_ ?_ ?_ ?_; rfl; (focus (simp [Value.oneCell']; done)); (focus (simp; done)); clear hS; intro w hS; simp at hS; try simp only [putW]) | (refine alloc hS rfl rfl ?_; clear hS; intro mb w hS; simp only [putW]) | (refine box1 hS rfl rfl rfl rfl ?_; clear hS; intro mb w hS; try simp only [evW, putW] at hS; simp only [putW]) | (refine boxN hS rfl rfl rfl ?_; clear hS; intro mb w hS; simp only [putW]))
    exact bodyPost_ret (v := .tuple #[str [], .bool false]) (by simp [results, Tryz.results20]) rfl ⟨by rw [HQ.out, HP.out], hS.nothing⟩
  have HP : Bx (decide (Plain s) = true) := ⟨decide_eq_true hp⟩
  have HQ : Bx (rprintS s = joinC 32 (lineW s)) := ⟨if_pos hp⟩
  obtain ⟨⟨h1, h2⟩, hk, -, ha, hb, hpg, ho, hd, hf, hx⟩ := hp
  have ha2 := ha
  have hb2 := hb
  obtain ⟨a0, a1⟩ := ha
  obtain ⟨b0, b1⟩ := hb
  have hZa : (Lib.itoa s.a).length ≤ 21 := Lib.itoa_length_le s.a (by omega) (by omega)
  have hZb : (Lib.itoa s.b).length ≤ 21 := Lib.itoa_length_le s.b (by omega) (by omega)
  have hBl : (bitsL s.bt).length ≤ 500 := by unfold bitsL; rw [hexL_len, beL_len]; omega
  have hDl : (dashL s.da).length ≤ 600 := by unfold dashL; split <;> first | (simp; done) | (rw [hexL_len]; omega)
  have hFl : (fatesL s.fa).length ≤ 500 := by
    unfold fatesL
    have := join_leM (c := 44) (M := 21) (W := s.fa.map Lib.itoa) fun w hw => by
      obtain ⟨x, hx2, rfl⟩ := List.mem_map.1 hw
      have := hx x hx2
      exact Lib.itoa_length_le x (by have := this.1; omega) (by have := this.2; omega)
    rw [List.length_map] at this
    have : s.fa.length * (21 + 1) ≤ 16 * 22 := Nat.mul_le_mul_right _ hf
    omega
  have hAl : (askedS s).length ≤ 2000 := askedS_len hpg ho
  have HN : Bx (∀ w : World, Calls Tryz.prog 45 #[.float .f64 s.bt] w fun e w' => e = .returned (str (bitsL s.bt)) ∧ Sat w [] w') := ⟨fun w => rbits_any HR.out.bt⟩
  have HH : Bx (∀ w : World, Sat w0 [] w → Calls Tryz.prog 44 #[.slice pd s.da.length cd] w fun e w' => e = .returned (str (dashL s.da)) ∧ Sat w [] w') := ⟨fun w h => rhex_any (HR.out.da.mono h.base) (by omega)⟩
  have HF : Bx (∀ w : World, Sat w0 [] w → Calls Tryz.prog 43 #[.slice pq s.fa.length cf] w fun e w' => e = .returned (str (fatesL s.fa)) ∧ Sat w [] w') := ⟨fun w h => rfates_any (HK.out.mono h.base) (HR.out.fa.mono h.base) (by omega) hx⟩
  have HA : Bx (s.kind = 1 → ∀ w : World, Sat w0 [] w → Calls Tryz.prog 42 #[.agg #[.int .i64 s.okd, .int .i64 s.pg, .slice po s.od.length co, .float .f64 s.bt]] w fun e w' => e = .returned (str (askedS s)) ∧ Sat w [] w') := ⟨fun e w h => asked_any (HK.out.mono h.base) (hk e).1 (hk e).2 hpg ho (HR.out.od.mono h.base) HR.out.bt⟩
  have HAW : Bx (∀ x y : Bs, joinC 32 (x :: y :: askedW s) = x ++ 32 :: (y ++ 32 :: askedS s)) := ⟨fun x y => by rw [joinC_cons _ (by simp), joinC_cons _ (askedW_ne s)]; rfl⟩
  unfold lineW at HQ
  clear hk hpg ho hx hd hf ha2 hb2
  generalize hL : bitsL s.bt = LB at HN hBl HQ
  generalize hL2 : dashL s.da = LD at HH hDl HQ
  generalize hL3 : fatesL s.fa = LF at HF hFl HQ
  generalize hL4 : askedS s = LA at HA hAl HAW
  clear hL hL2 hL3 hL4
  generalize hQ : rprintS s = Q at HQ ⊢
  clear hQ
  rcases kinds12 h1 h2 with e | e | e | e | e | e | e | e | e | e | e | e
  case' inr.inr.inr.inr.inr.inr.inl =>
    by_cases hfa : s.fa = []
    case' pos => have hfq : (((s.fa.length : Nat) : Int) == 0) = true := by rw [hfa]; rfl
    case' neg =>
      have hfq : (((s.fa.length : Nat) : Int) == 0) = false := beq_eq_false_iff_ne.2 (by
        intro h
        exact hfa (List.length_eq_zero_iff.1 (by omega)))
  all_goals
    have HC : Bx _ := ⟨e⟩
    rw [e] at HQ
    try rw [if_pos hfa] at HQ
    try rw [if_neg hfa] at HQ
    simp only [reduceIte, Int.reduceEq, HAW.out] at HQ
    try clear hfa
    clear h1 h2
    go_enter Tryz.func20, Tryz.ntmps20
    go_wp2_with (first | (guard_target =~ wpList _ _ _ (Oper.mk (some 1) _ _ _ _ _ :: _) _ _; refine boxN hS rfl rfl rfl ?_; clear hS; intro sb w hS; simp only [putW]) | (go_at_call 40; refine Calls.mono (plain_any (HR.out.mono hS.base) HP.out) ?_; rintro _ w2 ⟨rfl, h2⟩; replace hS := hS.frame h2; clear h2; (try simp only [List.cons_append, List.nil_append] at hS); simp only [putW]) | (go_at_call 41; refine Calls.mono (itoa_any _ (HK.out.mono hS.base) (by omega) (by omega)) ?_; rintro _ w2 ⟨rfl, h2⟩; replace hS := hS.frame h2; clear h2; (try simp only [List.cons_append, List.nil_append] at hS); simp only [putW]) | (go_at_call 44; refine Calls.mono (HH.out _ hS.nothing) ?_; rintro _ w2 ⟨rfl, h2⟩; replace hS := hS.frame h2; clear h2; (try simp only [List.cons_append, List.nil_append] at hS); simp only [putW]) | (go_at_call 45; refine Calls.mono (HN.out _) ?_; rintro _ w2 ⟨rfl, h2⟩; replace hS := hS.frame h2; clear h2; (try simp only [List.cons_append, List.nil_append] at hS); simp only [putW]) | (go_at_call 43; refine Calls.mono (HF.out _ hS.nothing) ?_; rintro _ w2 ⟨rfl, h2⟩; replace hS := hS.frame h2; clear h2; (try simp only [List.cons_append, List.nil_append] at hS); simp only [putW]) | (go_at_call 42; refine Calls.mono (HA.out HC.out _ hS.nothing) ?_; rintro _ w2 ⟨rfl, h2⟩; replace hS := hS.frame h2; clear h2; (try simp only [List.cons_append, List.nil_append] at hS); simp only [putW]) | (refine sumL rfl rfl rfl rfl ?_ ?_; (focus (simp only [List.length_append, List.length_cons, List.length_nil]; omega)); simp only [putW]) | (refine load1 hS rfl rfl rfl rfl ?_; simp only [putW]) | (refine loadAll hS rfl rfl rfl ?_ ?_; rfl; simp only [putW]) | (refine loadPart hS rfl rfl rfl ?_ rfl ?_; rfl; simp only [putW]) | (refine store1 hS rfl rfl rfl rfl rfl ?_ ?_; (focus (simp; done)); clear hS; intro w hS; simp only [evW, putW] at hS; try simp only [putW]) | (refine storeAll hS rfl rfl rfl rfl ?_ ?_ ?_ ?_; rfl; (focus (simp [Value.oneCell']; done)); rfl; clear hS; intro w hS; try simp only [putW]) | (refine storeN hS rfl rfl rfl rfl ?_ ?_ ?_ ?_; rfl; (focus (simp [Value.oneCell']; done)); (focus (simp; done)); clear hS; intro w hS; simp at hS; try simp only [putW]) | (refine alloc hS rfl rfl ?_; clear hS; intro mb w hS; simp only [putW]) | (refine box1 hS rfl rfl rfl rfl ?_; clear hS; intro mb w hS; try simp only [evW, putW] at hS; simp only [putW]) | (refine boxN hS rfl rfl rfl ?_; clear hS; intro mb w hS; simp only [putW]))
    exact bodyPost_ret (v := .tuple #[str Q, .bool true]) (by simp [results, Tryz.results20]; rw [HQ.out]; simp [joinC, kwS, stepsL]) rfl ⟨by rw [HP.out], hS.nothing⟩
end
end Go.Proofs.YtpbjkfomdindnaaGreatDoor
