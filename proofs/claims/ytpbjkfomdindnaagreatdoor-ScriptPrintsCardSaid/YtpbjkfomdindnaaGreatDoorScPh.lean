/-
  script.same: printed by program (mkssame.py; its head by hand).
-/
import Derived.Test.YtpbjkfomdindnaaGreatDoorScPg
import Derived.Test.YtpbjkfomdindnaaGreatDoorJRow
import Derived.WalkKit
set_option linter.unusedSimpArgs false
set_option linter.unusedVariables false
namespace Go.Proofs.YtpbjkfomdindnaaGreatDoor
open Go.RowKit Go.Shelf Go.Proofs.YtpbjkfomdindnaaGreatDoor.Sl Go.Proofs.YtpbjkfomdindnaaGreatDoor.Jp Go.Proofs.YtpbjkfomdindnaaGreatDoor.Sc

section
variable {P : Program} {ops : Array Oper} {I : World → Prop} {o : Oper} {a : Act} {rest : List Oper} {Q : Exit → Act → World → Prop} {w : World} {v : Value} {x : Operand} {e src dst : TypeId}
theorem seq_skip (hw : Region.wanted o (yielded ops a.tmps) = false) (k : wpList P ops Q rest (a.put o.dst undef) w) : wpList P ops Q (o :: rest) a w := by
  unfold wpList
  rw [if_neg (by rw [hw]; simp)]
  exact k
theorem seq_y {S : List Chunk} {w0 : World} (h : YieldsIf P ops (Sat w0 S) o v a) (hS : Sat w0 S w) (k : wpList P ops Q rest (a.put o.dst v) w) : wpList P ops Q (o :: rest) a w := by
  rcases h with ⟨hw, h⟩ | ⟨hw, rfl⟩
  · exact wp_value hw (h w hS) k
  · exact seq_skip hw k
theorem seq_y2 {S : List Chunk} {w0 : World} (hS : Sat w0 S w) (h : YieldsIf P ops (Sat w0 S) o v a) (k : wpList P ops Q rest (a.put o.dst v) w) : wpList P ops Q (o :: rest) a w := seq_y h hS k
theorem yConv {A : List Int} (hI : ∀ w, I w → RB w A v) (hw : Region.wanted o (yielded ops a.tmps) = true) (ho : o.op = .convert src dst x) (hx : a.eval x = v) [st : SliceTy P src e] (he : P.underlying e = some (.int .u8)) (hd : P.underlying dst = some .string) : YieldsIf P ops I o (.string (strOfNums A)) a :=
  .inl ⟨hw, fun w h => by simp [execOp, ho, hx, run_convertB he hd (hI w h)]⟩
end
theorem viaRest {C G : Nat → Nat → World → Prop} {Q : Prop} (main : (∀ a b w, C a b w → G a b w) → Q) (rest : ∀ a b w, C a b w → G a b w) : Q := main rest
section
variable {w0 : World}
set_option maxRecDepth 100000 in
set_option maxHeartbeats 20000000 in
theorem samep_any {s t : St} {vo vd vf vo' vd' vf' : Value} {r : Bool} (hs : RSt w0 s vo vd vf) (ht : RSt w0 t vo' vd' vf') (hr : decide (eqv s t) = r) :
    Calls Tryz.prog 39 #[.agg (stC s vo vd vf), .agg (stC t vo' vd' vf')] w0 fun e w' => e = .returned (.bool r) ∧ Sat w0 [] w' := by
  have hS := Sat.refl w0
  have HS : Bx (RSt w0 s vo vd vf) := ⟨hs⟩
  have HT : Bx (RSt w0 t vo' vd' vf') := ⟨ht⟩
  have HR : Bx (decide (eqv s t) = r) := ⟨hr⟩
  obtain ⟨s0, s1, s2, s3, s4, s5, s6, s7, s8⟩ := s
  obtain ⟨t0, t1, t2, t3, t4, t5, t6, t7, t8⟩ := t
  obtain ⟨po, co, rfl, -⟩ := BSl.at hs.od
  obtain ⟨pd, cd, rfl, -⟩ := BSl.at hs.da
  obtain ⟨pf, cf, rfl, hlf, hatf⟩ := BSl.at hs.fa
  obtain ⟨po', co', rfl, -⟩ := BSl.at ht.od
  obtain ⟨pd', cd', rfl, -⟩ := BSl.at ht.da
  obtain ⟨pf', cf', rfl, hlf', hatf'⟩ := BSl.at ht.fa
  clear hs ht hr
  simp only at *
  go_enter Tryz.func39, Tryz.ntmps39
  go_wp2_with (first | (guard_target =~ wpList _ _ _ (Oper.mk (some 2) _ _ _ _ _ :: _) _ _; refine boxN hS rfl rfl rfl ?_; clear hS; intro ab w hS; simp only [putW]) | (guard_target =~ wpList _ _ _ (Oper.mk (some 3) _ _ _ _ _ :: _) _ _; refine boxN hS rfl rfl rfl ?_; clear hS; intro bb w hS; simp only [putW]))
  apply viaRest (C := fun xb yb w => Sat w0 ((xb, cells #[.int .i64 s3, .int .i64 s4, .slice po s5.length co, .float .f64 s6] 26) :: (yb, cells #[.int .i64 t3, .int .i64 t4, .slice po' t5.length co', .float .f64 t6] 26) :: (ab, cells (stC ⟨s0, s1, s2, s3, s4, s5, s6, s7, s8⟩ (.slice po s5.length co) (.slice pd s7.length cd) (.slice pf s8.length cf)) 29) :: (bb, cells (stC ⟨t0, t1, t2, t3, t4, t5, t6, t7, t8⟩ (.slice po' t5.length co') (.slice pd' t7.length cd') (.slice pf' t8.length cf')) 29) :: []) w)
  case main =>
    intro hrest
    (refine wp_region_held (S := fun w' => Sat w0 ((ab, cells (stC ⟨s0, s1, s2, s3, s4, s5, s6, s7, s8⟩ (.slice po s5.length co) (.slice pd s7.length cd) (.slice pf s8.length cf)) 29) :: (bb, cells (stC ⟨t0, t1, t2, t3, t4, t5, t6, t7, t8⟩ (.slice po' t5.length co') (.slice pd' t7.length cd') (.slice pf' t8.length cf')) 29) :: []) w') (by kernel_rfl) ?_; replace hS := hS.drew; (apply takeIf (i := 0) rfl (by kernel_rfl) (fun _ _ _ h => h); (focus (apply yRun rfl; intro w; first | (go_simp; done) | (go_simp; rfl))); (focus (exact hS.conv)); simp only [putW]); (refine takeIf (i := 1) rfl (by kernel_rfl) (fun _ _ _ h => h) (yLoadPart (l := [.int .i64 s3, .int .i64 s4, .slice po s5.length co, .float .f64 s6]) (fun _ h => h) rfl rfl rfl rfl rfl) hS.conv ?_; simp only [putW]); (apply takeIf (i := 2) rfl (by kernel_rfl) (fun _ _ _ h => h); (focus (apply yRun rfl; intro w; first | (go_simp; done) | (go_simp; rfl))); (focus (exact hS.conv)); simp only [putW]); (refine takeIf (i := 3) rfl (by kernel_rfl) (fun _ _ _ h => h) (yLoadPart (l := [.int .i64 t3, .int .i64 t4, .slice po' t5.length co', .float .f64 t6]) (fun _ h => h) rfl rfl rfl rfl rfl) hS.conv ?_; simp only [putW]); refine wpAnyH_all (rs := [4, 5]) (by kernel_rfl) (by simp) ?_; intro i hi; simp only [List.mem_cons, List.not_mem_nil, or_false] at hi; rcases hi with rfl | rfl; (focus (refine wpOp_of_list rfl ?_; go_wp2_with (guard_target =~ wpList _ _ _ (Oper.mk (some 5) _ _ _ _ _ :: _) _ _; refine alloc hS rfl rfl ?_; clear hS; intro xb w hS; simp only [putW]); refine ⟨rfl, hS.conv, ?_⟩; refine wpAnyH_all (rs := [5]) (by kernel_rfl) (by simp) ?_; intro i hi; simp only [List.mem_cons, List.not_mem_nil, or_false] at hi; subst hi; refine wpOp_of_list rfl ?_; go_wp2_with (guard_target =~ wpList _ _ _ (Oper.mk (some 6) _ _ _ _ _ :: _) _ _; refine alloc hS rfl rfl ?_; clear hS; intro yb w hS; simp only [putW]); refine ⟨rfl, hS.conv, ?_⟩; refine wpAnyH_all (rs := [6]) (by kernel_rfl) (by simp) ?_; intro i hi; simp only [List.mem_cons, List.not_mem_nil, or_false] at hi; subst hi; refine wpOp_of_list rfl ?_; go_wp2_with (refine storeAll hS rfl rfl rfl rfl ?_ ?_ ?_ ?_; rfl; (focus (simp [Value.oneCell']; done)); rfl; clear hS; intro w hS; try simp only [putW]); refine ⟨rfl, hS.conv, ?_⟩; refine wpAnyH_all (rs := [7]) (by kernel_rfl) (by simp) ?_; intro i hi; simp only [List.mem_cons, List.not_mem_nil, or_false] at hi; subst hi; refine wpOp_of_list rfl ?_; go_wp2_with (refine storeAll hS rfl rfl rfl rfl ?_ ?_ ?_ ?_; rfl; (focus (simp [Value.oneCell']; done)); rfl; clear hS; intro w hS; try simp only [putW]); refine ⟨rfl, hS.conv, ?_⟩; refine wpAnyH_done (by kernel_rfl) ?_ _; exact hrest xb yb _ hS.conv)); (focus (refine wpOp_of_list rfl ?_; go_wp2_with (guard_target =~ wpList _ _ _ (Oper.mk (some 6) _ _ _ _ _ :: _) _ _; refine alloc hS rfl rfl ?_; clear hS; intro yb w hS; simp only [putW]); refine ⟨rfl, hS.conv, ?_⟩; refine wpAnyH_all (rs := [4]) (by kernel_rfl) (by simp) ?_; intro i hi; simp only [List.mem_cons, List.not_mem_nil, or_false] at hi; subst hi; refine wpOp_of_list rfl ?_; go_wp2_with (guard_target =~ wpList _ _ _ (Oper.mk (some 5) _ _ _ _ _ :: _) _ _; refine alloc hS rfl rfl ?_; clear hS; intro xb w hS; simp only [putW]); refine ⟨rfl, hS.conv, ?_⟩; refine wpAnyH_all (rs := [6]) (by kernel_rfl) (by simp) ?_; intro i hi; simp only [List.mem_cons, List.not_mem_nil, or_false] at hi; subst hi; refine wpOp_of_list rfl ?_; go_wp2_with (refine storeAll hS rfl rfl rfl rfl ?_ ?_ ?_ ?_; rfl; (focus (simp [Value.oneCell']; done)); rfl; clear hS; intro w hS; try simp only [putW]); refine ⟨rfl, hS.conv, ?_⟩; refine wpAnyH_all (rs := [7]) (by kernel_rfl) (by simp) ?_; intro i hi; simp only [List.mem_cons, List.not_mem_nil, or_false] at hi; subst hi; refine wpOp_of_list rfl ?_; go_wp2_with (refine storeAll hS rfl rfl rfl rfl ?_ ?_ ?_ ?_; rfl; (focus (simp [Value.oneCell']; done)); rfl; clear hS; intro w hS; try simp only [putW]); refine ⟨rfl, hS.conv, ?_⟩; refine wpAnyH_done (by kernel_rfl) ?_ _; exact hrest xb yb _ hS.conv)))
  case rest =>
    intro xb yb w hS
    go_upto_region 2 with (refine load1 hS rfl rfl rfl rfl ?_; simp only [putW])
    go_cut [7] from 13 to 33 (fun v7 wc => v7 = .bool (sameB s6 t6) ∧ Sat w0 ((xb, cells #[.int .i64 s3, .int .i64 s4, .slice po s5.length co, .float .f64 s6] 26) :: (yb, cells #[.int .i64 t3, .int .i64 t4, .slice po' t5.length co', .float .f64 t6] 26) :: (ab, cells (stC ⟨s0, s1, s2, s3, s4, s5, s6, s7, s8⟩ (.slice po s5.length co) (.slice pd s7.length cd) (.slice pf s8.length cf)) 29) :: (bb, cells (stC ⟨t0, t1, t2, t3, t4, t5, t6, t7, t8⟩ (.slice po' t5.length co') (.slice pd' t7.length cd') (.slice pf' t8.length cf')) 29) :: []) wc)
    case first =>
      have hbr1 : ∀ w : World, (callFunc 67 #[.float .f64 s6]).run Tryz.prog w = .ok (.value (.int .u64 (s6 : Int))) w := fun w => fbits_run s6 w
      have hbr2 : ∀ w : World, (callFunc 67 #[.float .f64 t6]).run Tryz.prog w = .ok (.value (.int .u64 (t6 : Int))) w := fun w => fbits_run t6 w
      have n1 := self_ne HS.out.bt
      have n2 := self_ne HT.out.bt
      by_cases he : s6 = t6
      · have q1 : ((s6 : Int) == (t6 : Int)) = true := by simp [he]
        have HB : Bx (sameB s6 t6 = true) := ⟨by unfold sameB; simp [he]⟩
        clear he n1 n2
        (refine region_quiet hS (by kernel_rfl) (by kernel_rfl) (by kernel_rfl) ?_; clear hS; (repeat (first | (refine quiet_skip rfl ?_; simp only [putW]) | (refine quiet_y (yMove rfl rfl rfl) ?_; simp only [evW, putW]) | (refine quiet_y (yLoad1 (fun _ h => h) rfl rfl rfl rfl) ?_; simp only [putW]) | (apply quiet_y; (focus (apply yRun rfl; intro w; first | (go_simp; done) | (go_simp; rfl))); simp only [putW]))); refine quiet_nil ?_; intro w hS)
        go_wp2_with (refine load1 hS rfl rfl rfl rfl ?_; simp only [putW])
        go_meet
        case rel => exact ⟨by rw [HB.out], hS⟩
      · have q1 : ((s6 : Int) == (t6 : Int)) = false := by
          have : ¬ (s6 : Int) = (t6 : Int) := fun h => he (by omega)
          simpa using this
        have HE : Bx (¬ s6 = t6) := ⟨he⟩
        clear he
        cases h1 : nanB s6 with
        | true =>
          rw [h1] at n1
          cases h2 : nanB t6 with
          | true =>
            rw [h2] at n2
            have HB : Bx (sameB s6 t6 = true) := ⟨by unfold sameB; simp [h1, h2]⟩
            clear h1 h2
            (refine region_quiet hS (by kernel_rfl) (by kernel_rfl) (by kernel_rfl) ?_; clear hS; (repeat (first | (refine quiet_y (yMove rfl rfl rfl) ?_; simp only [evW, putW]) | (refine quiet_y (yLoad1 (fun _ h => h) rfl rfl rfl rfl) ?_; simp only [putW]) | (apply quiet_y; (focus (apply yRun rfl; intro w; first | (go_simp; done) | (go_simp; rfl))); simp only [putW]))); refine quiet_nil ?_; intro w hS)
            go_wp2_with (refine load1 hS rfl rfl rfl rfl ?_; simp only [putW])
            go_meet
            case rel => exact ⟨by rw [HB.out], hS⟩
          | false =>
            rw [h2] at n2
            have HB : Bx (sameB s6 t6 = false) := ⟨by unfold sameB; simp [h1, h2, HE.out]⟩
            clear h1 h2
            (refine region_quiet hS (by kernel_rfl) (by kernel_rfl) (by kernel_rfl) ?_; clear hS; (repeat (first | (refine quiet_y (yMove rfl rfl rfl) ?_; simp only [evW, putW]) | (refine quiet_y (yLoad1 (fun _ h => h) rfl rfl rfl rfl) ?_; simp only [putW]) | (apply quiet_y; (focus (apply yRun rfl; intro w; first | (go_simp; done) | (go_simp; rfl))); simp only [putW]))); refine quiet_nil ?_; intro w hS)
            go_wp2_with (refine load1 hS rfl rfl rfl rfl ?_; simp only [putW])
            go_meet
            case rel => exact ⟨by rw [HB.out], hS⟩
        | false =>
          rw [h1] at n1
          have HB : Bx (sameB s6 t6 = false) := ⟨by unfold sameB; simp [h1, HE.out]⟩
          clear h1 n2
          (refine region_quiet hS (by kernel_rfl) (by kernel_rfl) (by kernel_rfl) ?_; clear hS; (repeat (first | (refine quiet_skip rfl ?_; simp only [putW]) | (refine quiet_y (yMove rfl rfl rfl) ?_; simp only [evW, putW]) | (refine quiet_y (yLoad1 (fun _ h => h) rfl rfl rfl rfl) ?_; simp only [putW]) | (apply quiet_y; (focus (apply yRun rfl; intro w; first | (go_simp; done) | (go_simp; rfl))); simp only [putW]))); refine quiet_nil ?_; intro w hS)
          go_wp2_with (refine load1 hS rfl rfl rfl rfl ?_; simp only [putW])
          go_meet
          case rel => exact ⟨by rw [HB.out], hS⟩
    case rest =>
      clear hS
      obtain ⟨rfl, hS⟩ := hcut
      go_upto_region 3 with (refine load1 hS rfl rfl rfl rfl ?_; simp only [putW])
      have cxb0 : wc.cell? ⟨xb, 0, none⟩ = some (.int .i64 s3) := hS.cell (b := xb) 0
      have cxb1 : wc.cell? ⟨xb, 1, none⟩ = some (.int .i64 s4) := hS.cell (b := xb) 1
      have cxb2 : wc.cell? ⟨xb, 2, none⟩ = some (.slice po s5.length co) := hS.cell (b := xb) 2
      have cxb3 : wc.cell? ⟨xb, 3, none⟩ = some (.float .f64 s6) := hS.cell (b := xb) 3
      have cyb0 : wc.cell? ⟨yb, 0, none⟩ = some (.int .i64 t3) := hS.cell (b := yb) 0
      have cyb1 : wc.cell? ⟨yb, 1, none⟩ = some (.int .i64 t4) := hS.cell (b := yb) 1
      have cyb2 : wc.cell? ⟨yb, 2, none⟩ = some (.slice po' t5.length co') := hS.cell (b := yb) 2
      have cyb3 : wc.cell? ⟨yb, 3, none⟩ = some (.float .f64 t6) := hS.cell (b := yb) 3
      have cab0 : wc.cell? ⟨ab, 0, none⟩ = some (.int .i64 s0) := hS.cell (b := ab) 0
      have cab1 : wc.cell? ⟨ab, 1, none⟩ = some (.int .i64 s1) := hS.cell (b := ab) 1
      have cab2 : wc.cell? ⟨ab, 2, none⟩ = some (.int .i64 s2) := hS.cell (b := ab) 2
      have cab7 : wc.cell? ⟨ab, 7, none⟩ = some (.slice pd s7.length cd) := hS.cell (b := ab) 7
      have cab8 : wc.cell? ⟨ab, 8, none⟩ = some (.slice pf s8.length cf) := hS.cell (b := ab) 8
      have cbb0 : wc.cell? ⟨bb, 0, none⟩ = some (.int .i64 t0) := hS.cell (b := bb) 0
      have cbb1 : wc.cell? ⟨bb, 1, none⟩ = some (.int .i64 t1) := hS.cell (b := bb) 1
      have cbb2 : wc.cell? ⟨bb, 2, none⟩ = some (.int .i64 t2) := hS.cell (b := bb) 2
      have cbb7 : wc.cell? ⟨bb, 7, none⟩ = some (.slice pd' t7.length cd') := hS.cell (b := bb) 7
      have cbb8 : wc.cell? ⟨bb, 8, none⟩ = some (.slice pf' t8.length cf') := hS.cell (b := bb) 8
      have hco : (convert 23 9 (.slice po s5.length co)).run Tryz.prog wc = .ok (.string (strOfNums s5)) wc := run_convertB (P := Tryz.prog) (src := 23) (dst := 9) Tryz.underlying5 Tryz.underlying9 (HS.out.od.mono hS.base)
      have hcp : (convert 23 9 (.slice po' t5.length co')).run Tryz.prog wc = .ok (.string (strOfNums t5)) wc := run_convertB (P := Tryz.prog) (src := 23) (dst := 9) Tryz.underlying5 Tryz.underlying9 (HT.out.od.mono hS.base)
      have hcd : (convert 23 9 (.slice pd s7.length cd)).run Tryz.prog wc = .ok (.string (strOfNums s7)) wc := run_convertB (P := Tryz.prog) (src := 23) (dst := 9) Tryz.underlying5 Tryz.underlying9 (HS.out.da.mono hS.base)
      have hce : (convert 23 9 (.slice pd' t7.length cd')).run Tryz.prog wc = .ok (.string (strOfNums t7)) wc := run_convertB (P := Tryz.prog) (src := 23) (dst := 9) Tryz.underlying5 Tryz.underlying9 (HT.out.da.mono hS.base)
      by_cases hs6 : canB s6 = canB t6
      · skip
        rw [show sameB s6 t6 = true from sameB_iff.2 hs6]
        by_cases hs3 : s3 = t3
        · skip
          have qs3 : (s3 == t3) = true := by simp [hs3]
          have ps3 : (s3 != t3) = false := by simp only [bne, qs3]; rfl
          by_cases hs4 : s4 = t4
          · skip
            have qs4 : (s4 == t4) = true := by simp [hs4]
            have ps4 : (s4 != t4) = false := by simp only [bne, qs4]; rfl
            by_cases hs5 : s5 = t5
            · skip
              have qs5 : ((strOfNums s5).toList == (strOfNums t5).toList) = true := by rw [strOfNums_inj HS.out.od.all HT.out.od.all]; exact decide_eq_true hs5
              have ps5 : ((strOfNums s5).toList != (strOfNums t5).toList) = false := by simp only [bne, qs5]; rfl
              by_cases hs0 : s0 = t0
              · skip
                have qs0 : (s0 == t0) = true := by simp [hs0]
                have ps0 : (s0 != t0) = false := by simp only [bne, qs0]; rfl
                by_cases hs1 : s1 = t1
                · skip
                  have qs1 : (s1 == t1) = true := by simp [hs1]
                  have ps1 : (s1 != t1) = false := by simp only [bne, qs1]; rfl
                  by_cases hs2 : s2 = t2
                  · skip
                    have qs2 : (s2 == t2) = true := by simp [hs2]
                    have ps2 : (s2 != t2) = false := by simp only [bne, qs2]; rfl
                    by_cases hs7 : s7 = t7
                    · skip
                      have qs7 : ((strOfNums s7).toList == (strOfNums t7).toList) = true := by rw [strOfNums_inj HS.out.da.all HT.out.da.all]; exact decide_eq_true hs7
                      have ps7 : ((strOfNums s7).toList != (strOfNums t7).toList) = false := by simp only [bne, qs7]; rfl
                      by_cases hs8l : s8.length = t8.length
                      · skip
                        have q8 : ((s8.length : Int) == (t8.length : Int)) = true := by simp [hs8l]
                        have p8 : ((s8.length : Int) != (t8.length : Int)) = false := by simp only [bne, q8]; rfl
                        have HA8 : Bx (∀ (h8 : s8 = t8), r = true) := ⟨fun h8 => by rw [← HR.out]; exact decide_eq_true ⟨hs0, hs1, hs2, hs3, hs4, hs5, hs6, hs7, h8⟩⟩
                        have HL8 : Bx (s8.length = t8.length) := ⟨hs8l⟩
                        clear hs6 hs3 hs4 hs5 hs0 hs1 hs2 hs7 hs8l
                        go_wp2
                        clear cxb0 cxb1 cxb2 cxb3 cyb0 cyb1 cyb2 cyb3 cab0 cab1 cab2 cab7 cab8 cbb0 cbb1 cbb2 cbb7 cbb8 hco hcp hcd hce
                        go_loopw [101] (fun j wr => ∃ (k : Nat), k ≤ s8.length ∧ j = .int .i64 (k : Int) ∧ Bx (∀ i, i < k → s8[i]? = t8[i]?) ∧ Sat w0 ((xb, cells #[.int .i64 s3, .int .i64 s4, .slice po s5.length co, .float .f64 s6] 26) :: (yb, cells #[.int .i64 t3, .int .i64 t4, .slice po' t5.length co', .float .f64 t6] 26) :: (ab, cells (stC ⟨s0, s1, s2, s3, s4, s5, s6, s7, s8⟩ (.slice po s5.length co) (.slice pd s7.length cd) (.slice pf s8.length cf)) 29) :: (bb, cells (stC ⟨t0, t1, t2, t3, t4, t5, t6, t7, t8⟩ (.slice po' t5.length co') (.slice pd' t7.length cd') (.slice pf' t8.length cf')) 29) :: []) wr) (fun j _ => s8.length - (intOf j).toNat)
                        case atStart => exact ⟨0, Nat.zero_le _, rfl, ⟨fun i h => by omega⟩, hS⟩
                        case round =>
                          clear hS
                          obtain ⟨k, hk, rfl, hE, hS⟩ := hrel
                          by_cases hlt : k < s8.length
                          · obtain ⟨x, hx⟩ : ∃ x, s8[k]? = some x := ⟨_, List.getElem?_eq_getElem hlt⟩
                            obtain ⟨y, hy⟩ : ∃ y, t8[k]? = some y := ⟨_, List.getElem?_eq_getElem (by rw [← HL8.out]; exact hlt)⟩
                            obtain ⟨b, o, rfl, hB⟩ := hatf (by intro e; subst e; simp at hlt)
                            obtain ⟨b', o', rfl, hB'⟩ := hatf' (by intro e; have := HL8.out; rw [e] at this; simp only [List.length_nil] at this; omega)
                            have HB : Bx _ := ⟨hB⟩
                            have HB' : Bx _ := ⟨hB'⟩
                            have Hx : Bx (s8[k]? = some x) := ⟨hx⟩
                            have Hy : Bx (t8[k]? = some y) := ⟨hy⟩
                            have hkt : k < t8.length := by rw [← HL8.out]; exact hlt
                            clear hB hB' hatf hatf' hx hy
                            by_cases hxy : x = y
                            · have qxy : (x == y) = true := by simp [hxy]
                              have pxy : (x != y) = false := by simp [hxy]
                              have HX : Bx (x = y) := ⟨hxy⟩
                              clear hxy
                              go_wp2_with (refine load1 hS rfl rfl rfl rfl ?_; simp only [putW])
                              (refine region_quiet hS (by kernel_rfl) (by kernel_rfl) (by kernel_rfl) ?_; clear hS; (repeat (apply quiet_run rfl; (focus (intro w hS; go_wp2_with (first | (refine loadB (f := i64) hS rfl rfl rfl HB.out k 0 ?_ Hx.out rfl ?_; omega; simp only [putW]) | (refine loadB (f := i64) hS rfl rfl rfl HB'.out k 0 ?_ Hy.out rfl ?_; omega; simp only [putW]) | (refine load1 hS rfl rfl rfl rfl ?_; simp only [putW])); exact ⟨rfl, rfl, hS⟩)); simp only [putW])); refine quiet_nil ?_; intro w hS)
                              go_wp2_with (refine load1 hS rfl rfl rfl rfl ?_; simp only [putW])
                              go_roundw
                              case rel =>
                                refine ⟨k + 1, by omega, by go_num, ⟨fun i hi => ?_⟩, hS⟩
                                rcases Nat.lt_or_ge i k with h | h
                                · exact hE.out i h
                                · obtain rfl : i = k := by omega
                                  rw [Hx.out, Hy.out, HX.out]
                              case measure => simp only [intOf]; omega
                            · have qxy : (x == y) = false := by simp [hxy]
                              have pxy : (x != y) = true := by simp [hxy]
                              have HR2 : Bx (r = false) := ⟨by rw [← HR.out]; exact decide_eq_false fun h => hxy (by have h8 : s8 = t8 := h.2.2.2.2.2.2.2.2; have := Hx.out; rw [h8, Hy.out] at this; exact (Option.some.inj this).symm)⟩
                              clear hxy
                              go_wp2_with (refine load1 hS rfl rfl rfl rfl ?_; simp only [putW])
                              (refine region_quiet hS (by kernel_rfl) (by kernel_rfl) (by kernel_rfl) ?_; clear hS; (repeat (apply quiet_run rfl; (focus (intro w hS; go_wp2_with (first | (refine loadB (f := i64) hS rfl rfl rfl HB.out k 0 ?_ Hx.out rfl ?_; omega; simp only [putW]) | (refine loadB (f := i64) hS rfl rfl rfl HB'.out k 0 ?_ Hy.out rfl ?_; omega; simp only [putW]) | (refine load1 hS rfl rfl rfl rfl ?_; simp only [putW])); exact ⟨rfl, rfl, hS⟩)); simp only [putW])); refine quiet_nil ?_; intro w hS)
                              go_wp2_with (refine load1 hS rfl rfl rfl rfl ?_; simp only [putW])
                              go_ret
                              exact ⟨by rw [HR2.out]; rfl, hS.nothing⟩
                          · obtain rfl : k = s8.length := by omega
                            have h8 : s8 = t8 := by
                              refine List.ext_getElem? fun i => ?_
                              rcases Nat.lt_or_ge i s8.length with h | h
                              · exact hE.out i h
                              · rw [List.getElem?_eq_none h, List.getElem?_eq_none (by rw [← HL8.out]; exact h)]
                            have HR2 : Bx (r = true) := ⟨HA8.out h8⟩
                            clear h8
                            go_wp2_with (refine load1 hS rfl rfl rfl rfl ?_; simp only [putW])
                            go_ret
                            exact ⟨by rw [HR2.out]; rfl, hS.nothing⟩
                      · skip
                        have q8 : ((s8.length : Int) == (t8.length : Int)) = false := by simp; omega
                        have p8 : ((s8.length : Int) != (t8.length : Int)) = true := by simp only [bne, q8]; rfl
                        have HR2 : Bx (r = false) := ⟨by rw [← HR.out]; exact decide_eq_false fun h => hs8l (congrArg List.length h.2.2.2.2.2.2.2.2)⟩
                        clear hs6 hs3 hs4 hs5 hs0 hs1 hs2 hs7 hs8l
                        go_wp2
                        go_ret
                        exact ⟨by rw [HR2.out]; rfl, hS.nothing⟩
                    · skip
                      have qs7 : ((strOfNums s7).toList == (strOfNums t7).toList) = false := by rw [strOfNums_inj HS.out.da.all HT.out.da.all]; exact decide_eq_false hs7
                      have ps7 : ((strOfNums s7).toList != (strOfNums t7).toList) = true := by simp only [bne, qs7]; rfl
                      have HR2 : Bx (r = false) := ⟨by rw [← HR.out]; exact decide_eq_false fun h => hs7 h.2.2.2.2.2.2.2.1⟩
                      clear hs6 hs3 hs4 hs5 hs0 hs1 hs2 hs7
                      go_wp2
                      go_ret
                      exact ⟨by rw [HR2.out]; rfl, hS.nothing⟩
                  · skip
                    have qs2 : (s2 == t2) = false := by simp [hs2]
                    have ps2 : (s2 != t2) = true := by simp only [bne, qs2]; rfl
                    have HR2 : Bx (r = false) := ⟨by rw [← HR.out]; exact decide_eq_false fun h => hs2 h.2.2.1⟩
                    clear hs6 hs3 hs4 hs5 hs0 hs1 hs2
                    go_wp2
                    go_ret
                    exact ⟨by rw [HR2.out]; rfl, hS.nothing⟩
                · skip
                  have qs1 : (s1 == t1) = false := by simp [hs1]
                  have ps1 : (s1 != t1) = true := by simp only [bne, qs1]; rfl
                  have HR2 : Bx (r = false) := ⟨by rw [← HR.out]; exact decide_eq_false fun h => hs1 h.2.1⟩
                  clear hs6 hs3 hs4 hs5 hs0 hs1
                  go_wp2
                  go_ret
                  exact ⟨by rw [HR2.out]; rfl, hS.nothing⟩
              · skip
                have qs0 : (s0 == t0) = false := by simp [hs0]
                have ps0 : (s0 != t0) = true := by simp only [bne, qs0]; rfl
                have HR2 : Bx (r = false) := ⟨by rw [← HR.out]; exact decide_eq_false fun h => hs0 h.1⟩
                clear hs6 hs3 hs4 hs5 hs0
                go_wp2
                go_ret
                exact ⟨by rw [HR2.out]; rfl, hS.nothing⟩
            · skip
              have qs5 : ((strOfNums s5).toList == (strOfNums t5).toList) = false := by rw [strOfNums_inj HS.out.od.all HT.out.od.all]; exact decide_eq_false hs5
              have ps5 : ((strOfNums s5).toList != (strOfNums t5).toList) = true := by simp only [bne, qs5]; rfl
              have HR2 : Bx (r = false) := ⟨by rw [← HR.out]; exact decide_eq_false fun h => hs5 h.2.2.2.2.2.1⟩
              clear hs6 hs3 hs4 hs5
              go_wp2
              go_ret
              exact ⟨by rw [HR2.out]; rfl, hS.nothing⟩
          · skip
            have qs4 : (s4 == t4) = false := by simp [hs4]
            have ps4 : (s4 != t4) = true := by simp only [bne, qs4]; rfl
            have HR2 : Bx (r = false) := ⟨by rw [← HR.out]; exact decide_eq_false fun h => hs4 h.2.2.2.2.1⟩
            clear hs6 hs3 hs4
            go_wp2
            go_ret
            exact ⟨by rw [HR2.out]; rfl, hS.nothing⟩
        · skip
          have qs3 : (s3 == t3) = false := by simp [hs3]
          have ps3 : (s3 != t3) = true := by simp only [bne, qs3]; rfl
          have HR2 : Bx (r = false) := ⟨by rw [← HR.out]; exact decide_eq_false fun h => hs3 h.2.2.2.1⟩
          clear hs6 hs3
          go_wp2
          go_ret
          exact ⟨by rw [HR2.out]; rfl, hS.nothing⟩
      · skip
        rw [show sameB s6 t6 = false from by cases e : sameB s6 t6 with | true => exact absurd (sameB_iff.1 e) hs6 | false => rfl]
        have HR2 : Bx (r = false) := ⟨by rw [← HR.out]; exact decide_eq_false fun h => hs6 h.2.2.2.2.2.2.1⟩
        clear hs6
        go_wp2
        go_ret
        exact ⟨by rw [HR2.out]; rfl, hS.nothing⟩
end
end Go.Proofs.YtpbjkfomdindnaaGreatDoor
