/-
  script.form, gathering: data, bits.
-/
import Derived.Test.YtpbjkfomdindnaaGreatDoorScPa
set_option linter.unusedSimpArgs false
set_option linter.unusedVariables false
namespace Go.Proofs.YtpbjkfomdindnaaGreatDoor
open Go.RowKit Go.Shelf Go.Proofs.YtpbjkfomdindnaaGreatDoor.Sl Go.Proofs.YtpbjkfomdindnaaGreatDoor.Jp Go.Proofs.YtpbjkfomdindnaaGreatDoor.Sc

section
variable {w0 w : World} {S F K : List Chunk} {W : List Bs} {fb sb off : Nat} {c : Array Value} {tb : TypeId}
theorem hexL_ne {A : List Int} (h : A ≠ []) : hexL A ≠ [] := by
  cases A with
  | nil => exact absurd rfl h
  | cons x l => simp [hexL]
set_option maxRecDepth 100000 in
set_option maxHeartbeats 2000000 in
theorem fdata_print {mx : Nat} {A : List Int} {va : Value} (hmx : mx ≤ 1000) (hA : RB w0 A va) (hc : c[off]? = some va) (hW : W.length ≤ 100) (hS : Sat w0 ((fb, pfrm W) :: (sb, cells c tb) :: K) w) :
    Calls Tryz.prog 51 #[.pointer (some ⟨fb, 0, none⟩), .pointer (some ⟨sb, off, none⟩), .int .i64 (mx : Int)] w fun e w' =>
      (A.length ≤ mx ∧ e = .returned (.tuple #[]) ∧ Sat w0 ((fb, pfrm (W ++ [dashL A])) :: (sb, cells c tb) :: K) w') ∨ (¬ A.length ≤ mx ∧ e = .panicked badP ∧ Sat w0 K w') := by
  have HA : Bx _ := ⟨hA⟩
  obtain ⟨pa, ca, rfl, hla, -⟩ := BSl.at hA
  have HO : Bx (c[off]? = some (.slice pa A.length ca)) := ⟨hc⟩
  clear hc hA
  obtain ⟨v, hS1⟩ := pfrm_open hS (fb := fb) (W := W)
  clear hS
  have hS := hS1
  clear hS1
  by_cases hl : A.length ≤ mx
  · have HL : Bx (A.length ≤ mx) := ⟨hl⟩
    by_cases h0 : A = []
    · subst h0
      have HD : Bx (hexL [] = [] ∧ dashL [] = [45]) := ⟨rfl, rfl⟩
      go_enter Tryz.func51, Tryz.ntmps51
      go_wp2_with (first | (refine load1 (b := sb) (v := .slice pa ([] : List Int).length ca) hS rfl rfl rfl HO.out ?_; simp only [putW]) | (go_at_call 25; refine Calls.mono (want_ok (by simp)) ?_; rintro _ w2 ⟨rfl, h2⟩; replace hS := hS.frame h2; clear h2; (try simp only [List.cons_append, List.nil_append] at hS); simp only [putW]) | (go_at_call 77; refine Calls.mono (hex_any (HA.out.mono hS.base) (by simp)) ?_; rw [HD.out.1]; rintro _ w2 ⟨rfl, h2⟩; replace hS := hS.frame h2; clear h2; (try simp only [List.cons_append, List.nil_append] at hS); simp only [putW]) | (refine buildSlice1 (c := #[str [45]]) hS rfl rfl rfl ?_ ?_ ?_ ?_; rfl; rfl; rfl; clear hS; intro mb w hS; simp only [putW]) | (refine append1 (f := strF) hS rfl rfl v rfl rfl ([45] : Bs) ?_ ?_ ?_ ?_ ?_ ?_; rfl; (focus (simp [strF, one, Value.oneCell']; done)); rfl; (focus (simp [maxLen]; omega)); (focus (omega)); clear hS; intro v' w hS; simp only [putW]) | (refine store1 (b := fb) (v := v') hS rfl rfl rfl rfl (Sat.slCell (α := Bs) (v := v') hS) ?_ ?_; (focus (simp; done)); clear hS; intro w hS; try simp only [putW]) | (refine load1 hS rfl rfl rfl rfl ?_; simp only [putW]))
      refine bodyPost_ret (v := .tuple #[]) (by simp [results, Tryz.results51]) rfl (.inl ⟨by simp, rfl, ?_⟩)
      rw [HD.out.2]
      exact pfrm_close fb hS
    · have HD : Bx (hexL A ≠ [] ∧ dashL A = hexL A) := ⟨hexL_ne h0, by unfold dashL; rw [if_neg h0]⟩
      have hx : (hexL A == ([] : Bs)) = false := by simpa using HD.out.1
      clear h0
      go_enter Tryz.func51, Tryz.ntmps51
      go_wp2_with (first | (refine load1 (b := sb) (v := .slice pa A.length ca) hS rfl rfl rfl HO.out ?_; simp only [putW]) | (go_at_call 25; refine Calls.mono (want_ok (by simp [hl])) ?_; rintro _ w2 ⟨rfl, h2⟩; replace hS := hS.frame h2; clear h2; (try simp only [List.cons_append, List.nil_append] at hS); simp only [putW]) | (go_at_call 77; refine Calls.mono (hex_any (HA.out.mono hS.base) (by omega)) ?_; rintro _ w2 ⟨rfl, h2⟩; replace hS := hS.frame h2; clear h2; (try simp only [List.cons_append, List.nil_append] at hS); simp only [putW]) | (refine buildSlice1 (c := #[str (hexL A)]) hS rfl rfl rfl ?_ ?_ ?_ ?_; rfl; rfl; rfl; clear hS; intro mb w hS; simp only [putW]) | (refine append1 (f := strF) hS rfl rfl v rfl rfl (hexL A) ?_ ?_ ?_ ?_ ?_ ?_; rfl; (focus (simp [strF, one, Value.oneCell']; done)); rfl; (focus (simp [maxLen]; omega)); (focus (omega)); clear hS; intro v' w hS; simp only [putW]) | (refine store1 (b := fb) (v := v') hS rfl rfl rfl rfl (Sat.slCell (α := Bs) (v := v') hS) ?_ ?_; (focus (simp; done)); clear hS; intro w hS; try simp only [putW]) | (refine load1 hS rfl rfl rfl rfl ?_; simp only [putW]))
      refine bodyPost_ret (v := .tuple #[]) (by simp [results, Tryz.results51]) rfl (.inl ⟨HL.out, rfl, ?_⟩)
      rw [HD.out.2]
      exact pfrm_close fb hS
  · have HN : Bx (¬ A.length ≤ mx) := ⟨hl⟩
    go_enter Tryz.func51, Tryz.ntmps51
    go_wp2_with (first | (refine load1 (b := sb) (v := .slice pa A.length ca) hS rfl rfl rfl HO.out ?_; simp only [putW]) | (go_at_call 25; refine Calls.mono (want_no (by simp [hl])) ?_; rintro _ w2 ⟨rfl, h2⟩; replace hS := hS.frame h2; clear h2; (try simp only [List.cons_append, List.nil_append] at hS); simp only [putW]) | (refine load1 hS rfl rfl rfl rfl ?_; simp only [putW]))
    exact ⟨rfl, .inr ⟨HN.out, rfl, hS.tail.tail.tail⟩⟩
theorem yCat {P : Program} {ops : Array Oper} {I : World → Prop} {o : Oper} {a : Act} {t tr : TypeId} {x y : Operand} {l m : Bs} (hw : Region.wanted o (yielded ops a.tmps) = true) (ho : o.op = .binOp .add t x y tr) (hx : a.eval x = str l) (hy : a.eval y = str m) (hl : l.length + m.length ≤ 1000000) : YieldsIf P ops I o (str (l ++ m)) a :=
  .inl ⟨hw, fun w _ => by
    have hr : (binOp .add t (str l) (str m)).run P w = .ok (str (l ++ m)) w := run_string_add_lists w l m (by omega) (by omega)
    have hg : (eqGuard .add t x y (str l) (str m)).run P w = .ok () w := rfl
    simp [execOp, ho, hx, hy, hg, hr]⟩
theorem lowD_bits {n k : Nat} (hk : k ≤ 15) (hn : n < 16 ^ (k + 1)) : List.replicate (15 - k) 48 ++ lowD (k + 1) n = hexL (beL 8 n) := by
  rw [← lowD_be 8 n, ← lowD_add (15 - k) (k + 1) n hn, show 15 - k + (k + 1) = 2 * 8 by omega]
set_option maxRecDepth 100000 in
set_option maxHeartbeats 1000000 in
theorem fbits_print {n : Nat} (hK : KV w0) (hn : n < 18446744073709551616) (hc : c[off]? = some (.float .f64 n)) (hW : W.length ≤ 100) (hS : Sat w0 ((fb, pfrm W) :: (sb, cells c tb) :: K) w) :
    Calls Tryz.prog 53 #[.pointer (some ⟨fb, 0, none⟩), .pointer (some ⟨sb, off, none⟩)] w fun e w' =>
      e = .returned (.tuple #[]) ∧ Sat w0 ((fb, pfrm (W ++ [bitsL n])) :: (sb, cells c tb) :: K) w' := by
  have HK : Bx _ := ⟨hK⟩
  have HO : Bx (c[off]? = some (.float .f64 n)) := ⟨hc⟩
  clear hc hK
  obtain ⟨v, hS1⟩ := pfrm_open hS (fb := fb) (W := W)
  clear hS
  have hS := hS1
  clear hS1
  have hfb : ∀ w : World, (callFunc 67 #[.float .f64 n]).run Tryz.prog w = .ok (.value (.int .u64 (n : Int))) w := fun w => fbits_run n w
  obtain ⟨b, hb⟩ : ∃ b, nanB n = b := ⟨_, rfl⟩
  obtain ⟨m, hm⟩ : ∃ m, canB n = m := ⟨_, rfl⟩
  have HM : Bx (bitsL n = hexL (beL 8 m)) := ⟨by rw [← hm]; rfl⟩
  have hm64 : m < 18446744073709551616 := by rw [← hm]; exact canB_lt hn
  have hmm : m = if b = true then 9221120237041090561 else n := by rw [← hm, ← hb]; rfl
  clear hm
  have hne := self_ne hn
  rw [hb] at hne
  clear hb hn
  go_enter Tryz.func53, Tryz.ntmps53
  go_wp2_with (first | (refine load1 (b := sb) (v := .float .f64 n) hS rfl rfl rfl HO.out ?_; simp only [putW]) | (refine load1 hS rfl rfl rfl rfl ?_; simp only [putW]))
  (refine region_quiet hS (by kernel_rfl) (by kernel_rfl) (by kernel_rfl) ?_; clear hS; (repeat (apply quiet_run rfl; (focus (intro w hS; go_wp2_with (refine load1 (b := sb) (v := .float .f64 n) hS rfl rfl rfl HO.out ?_; simp only [putW]); exact ⟨rfl, rfl, hS⟩)); simp only [putW])); refine quiet_nil ?_; intro w hS)
  have hfin : ∀ {k : Nat}, k ≤ 15 → m < 16 ^ (k + 1) → Bx (List.replicate (15 - k) (48 : UInt8) ++ lowD (k + 1) m = bitsL n) := fun h1 h2 => ⟨by rw [lowD_bits h1 h2, HM.out]⟩
  cases b
  case' false =>
    simp only [reduceIte, Bool.false_eq_true] at hmm
    subst hmm
    go_wp2_with (guard_target =~ Calls _ 79 _ _ _; refine Stopped.out ?_)
    refine ⟨?_⟩
  case' true =>
    simp only [reduceIte] at hmm
    have hm2 : (9221120237041090561 : Int) = (m : Int) := by omega
    clear hmm
    go_wp2_with (guard_target =~ Calls _ 79 _ _ _; refine Stopped.out ?_)
    refine ⟨?_⟩
    rw [hm2]
    clear hm2
  all_goals
    refine Calls.mono (formatUint_any (n := m) (HK.out.mono hS.base) hm64) ?_
    rintro _ w2 ⟨k, hk, hk2, rfl, h2⟩
    replace hS := hS.frame h2
    clear h2
    simp only [List.nil_append] at hS
    have HF := hfin hk hk2
    clear hk2 hfin
    obtain ⟨Z, hZ⟩ : ∃ Z, lowD (k + 1) m = Z := ⟨_, rfl⟩
    have hsz : (⟨Z.toArray⟩ : ByteArray).size = k + 1 := by rw [← hZ, str_size, lowD_len]
    have HZ : Bx ((List.replicate (15 - k) (48 : UInt8)).length + Z.length ≤ 1000000) := ⟨by rw [← hZ, List.length_replicate, lowD_len]; omega⟩
    rw [hZ] at HF ⊢
    clear hZ
    have hrep : Bx (∀ {w : World}, Calls Tryz.prog 80 #[str [48], .int .i64 (16 - ((k : Int) + 1))] w fun e w' => e = .returned (str (List.replicate (15 - k) 48)) ∧ Sat w [] w') := ⟨fun {w} => by rw [show (16 - ((k : Int) + 1)) = ((15 - k : Nat) : Int) by omega]; exact repeat_any 48 (15 - k) (by omega)⟩
    simp only [putW]
    go_upto_region 5 with (refine load1 hS rfl rfl rfl rfl ?_; simp only [putW])
    (refine wp_region_held (S := fun w' => Sat w0 ((sb, cells c tb) :: K) w') (by kernel_rfl) ?_; replace hS := hS.drew; (refine takeIf (i := 0) rfl (by kernel_rfl) (fun _ _ _ h => h) (yMove rfl rfl rfl) hS.conv ?_; simp only [evW, putW]); (refine takeIf (i := 1) rfl (by kernel_rfl) (fun _ _ _ h => h) (yMove rfl rfl rfl) hS.conv ?_; simp only [evW, putW]); (apply takeIf (i := 2) rfl (by kernel_rfl) (fun _ _ _ h => h); (focus (apply yRun rfl; intro w; first | (go_simp; done) | (go_simp; rfl))); (focus (exact hS.conv)); simp only [putW]); (apply takeIf (i := 3) rfl (by kernel_rfl) (fun _ _ _ h => h); (focus (apply yRun rfl; intro w; first | (go_simp; done) | (go_simp; rfl))); (focus (exact hS.conv)); simp only [putW]); (refine takeIf (i := 5) rfl (by kernel_rfl) (fun _ _ _ h => h) (yMove rfl rfl rfl) hS.conv ?_; simp only [evW, putW]); (apply takeIf (i := 6) rfl (by kernel_rfl) (fun _ _ _ h => h); (focus (apply yRun rfl; intro w; first | (go_simp; done) | (go_simp; rfl))); (focus (exact hS.conv)); simp only [putW]); (apply takeIf (i := 7) rfl (by kernel_rfl) (fun _ _ _ h => h); (focus (apply yRun rfl; intro w; first | (go_simp; done) | (go_simp; rfl))); (focus (exact hS.conv)); simp only [putW]); (refine takeIf (i := 9) rfl (by kernel_rfl) (fun _ _ _ h => h) (yMove rfl rfl rfl) hS.conv ?_; simp only [evW, putW]); refine wpAnyH_all (rs := [4, 8]) (by kernel_rfl) (by simp) ?_; intro i hi; simp only [List.mem_cons, List.not_mem_nil, or_false] at hi; rcases hi with rfl | rfl; (focus (refine wpOp_of_list rfl ?_; go_wp2_with (refine load1 hS rfl rfl rfl rfl ?_; simp only [putW]); refine ⟨rfl, hS.conv, ?_⟩; refine wpAnyH_all (rs := [8]) (by kernel_rfl) (by simp) ?_; intro i hi; simp only [List.mem_cons, List.not_mem_nil, or_false] at hi; subst hi; refine wpOp_of_list rfl ?_; go_wp2_with (go_at_call 80; refine Calls.mono (hrep.out) ?_; rintro _ w2 ⟨rfl, h2⟩; replace hS := hS.frame h2; clear h2; (try simp only [List.cons_append, List.nil_append] at hS); simp only [putW]); refine ⟨rfl, hS.conv, ?_⟩; (refine takeIf (i := 10) rfl (by kernel_rfl) (fun _ _ _ h => h) (yCat (l := List.replicate (15 - k) 48) (m := Z) rfl rfl rfl rfl HZ.out) hS.conv ?_; simp only [putW]); refine wpAnyH_all (rs := [11]) (by kernel_rfl) (by simp) ?_; intro i hi; simp only [List.mem_cons, List.not_mem_nil, or_false] at hi; subst hi; refine wpOp_of_list rfl ?_; go_wp2_with (refine buildSlice1 (c := #[str (List.replicate (15 - k) 48 ++ Z)]) hS rfl rfl rfl ?_ ?_ ?_ ?_; rfl; rfl; rfl; clear hS; intro mb w hS; simp only [putW]); refine ⟨rfl, hS.conv, ?_⟩; refine wpAnyH_all (rs := [12]) (by kernel_rfl) (by simp) ?_; intro i hi; simp only [List.mem_cons, List.not_mem_nil, or_false] at hi; subst hi; refine wpOp_of_list rfl ?_; go_wp2_with (refine append1 (f := strF) hS rfl rfl v rfl rfl (List.replicate (15 - k) 48 ++ Z) ?_ ?_ ?_ ?_ ?_ ?_; rfl; (focus (simp [strF, one, Value.oneCell']; done)); rfl; (focus (simp [maxLen]; omega)); (focus (omega)); clear hS; intro v' w hS; simp only [putW]); refine ⟨rfl, hS.conv, ?_⟩; (apply takeIf (i := 13) rfl (by kernel_rfl) (fun _ _ _ h => h); (focus (apply yRun rfl; intro w; first | (go_simp; done) | (go_simp; rfl))); (focus (exact hS.conv)); simp only [putW]); (apply takeIf (i := 14) rfl (by kernel_rfl) (fun _ _ _ h => h); (focus (apply yRun rfl; intro w; first | (go_simp; done) | (go_simp; rfl))); (focus (exact hS.conv)); simp only [putW]); refine wpAnyH_all (rs := [15]) (by kernel_rfl) (by simp) ?_; intro i hi; simp only [List.mem_cons, List.not_mem_nil, or_false] at hi; subst hi; refine wpOp_of_list rfl ?_; go_wp2_with (refine store1 (b := fb) (v := v') hS rfl rfl rfl rfl (Sat.slCell (α := Bs) (v := v') hS) ?_ ?_; (focus (simp; done)); clear hS; intro w hS; try simp only [putW]); refine ⟨rfl, hS.conv, ?_⟩; refine wpAnyH_done (by kernel_rfl) ?_ _; (replace hS : Sat w0 ((fb, cells #[.bool true, v'] 55) :: (blk v', sl 1 strF (W ++ [List.replicate (15 - k) 48 ++ Z]) 9 v') :: (sb, cells c tb) :: K) w := hS; rw [HF.out] at hS; go_wp2_with (refine load1 hS rfl rfl rfl rfl ?_; simp only [putW]); refine bodyPost_ret (v := .tuple #[]) (by simp [results, Tryz.results53]) rfl ⟨rfl, pfrm_close fb hS⟩))); (focus (refine wpOp_of_list rfl ?_; go_wp2_with (go_at_call 80; refine Calls.mono (hrep.out) ?_; rintro _ w2 ⟨rfl, h2⟩; replace hS := hS.frame h2; clear h2; (try simp only [List.cons_append, List.nil_append] at hS); simp only [putW]); refine ⟨rfl, hS.conv, ?_⟩; (refine takeIf (i := 10) rfl (by kernel_rfl) (fun _ _ _ h => h) (yCat (l := List.replicate (15 - k) 48) (m := Z) rfl rfl rfl rfl HZ.out) hS.conv ?_; simp only [putW]); refine wpAnyH_all (rs := [4, 11]) (by kernel_rfl) (by simp) ?_; intro i hi; simp only [List.mem_cons, List.not_mem_nil, or_false] at hi; rcases hi with rfl | rfl; (focus (refine wpOp_of_list rfl ?_; go_wp2_with (refine load1 hS rfl rfl rfl rfl ?_; simp only [putW]); refine ⟨rfl, hS.conv, ?_⟩; refine wpAnyH_all (rs := [11]) (by kernel_rfl) (by simp) ?_; intro i hi; simp only [List.mem_cons, List.not_mem_nil, or_false] at hi; subst hi; refine wpOp_of_list rfl ?_; go_wp2_with (refine buildSlice1 (c := #[str (List.replicate (15 - k) 48 ++ Z)]) hS rfl rfl rfl ?_ ?_ ?_ ?_; rfl; rfl; rfl; clear hS; intro mb w hS; simp only [putW]); refine ⟨rfl, hS.conv, ?_⟩; refine wpAnyH_all (rs := [12]) (by kernel_rfl) (by simp) ?_; intro i hi; simp only [List.mem_cons, List.not_mem_nil, or_false] at hi; subst hi; refine wpOp_of_list rfl ?_; go_wp2_with (refine append1 (f := strF) hS rfl rfl v rfl rfl (List.replicate (15 - k) 48 ++ Z) ?_ ?_ ?_ ?_ ?_ ?_; rfl; (focus (simp [strF, one, Value.oneCell']; done)); rfl; (focus (simp [maxLen]; omega)); (focus (omega)); clear hS; intro v' w hS; simp only [putW]); refine ⟨rfl, hS.conv, ?_⟩; (apply takeIf (i := 13) rfl (by kernel_rfl) (fun _ _ _ h => h); (focus (apply yRun rfl; intro w; first | (go_simp; done) | (go_simp; rfl))); (focus (exact hS.conv)); simp only [putW]); (apply takeIf (i := 14) rfl (by kernel_rfl) (fun _ _ _ h => h); (focus (apply yRun rfl; intro w; first | (go_simp; done) | (go_simp; rfl))); (focus (exact hS.conv)); simp only [putW]); refine wpAnyH_all (rs := [15]) (by kernel_rfl) (by simp) ?_; intro i hi; simp only [List.mem_cons, List.not_mem_nil, or_false] at hi; subst hi; refine wpOp_of_list rfl ?_; go_wp2_with (refine store1 (b := fb) (v := v') hS rfl rfl rfl rfl (Sat.slCell (α := Bs) (v := v') hS) ?_ ?_; (focus (simp; done)); clear hS; intro w hS; try simp only [putW]); refine ⟨rfl, hS.conv, ?_⟩; refine wpAnyH_done (by kernel_rfl) ?_ _; (replace hS : Sat w0 ((fb, cells #[.bool true, v'] 55) :: (blk v', sl 1 strF (W ++ [List.replicate (15 - k) 48 ++ Z]) 9 v') :: (sb, cells c tb) :: K) w := hS; rw [HF.out] at hS; go_wp2_with (refine load1 hS rfl rfl rfl rfl ?_; simp only [putW]); refine bodyPost_ret (v := .tuple #[]) (by simp [results, Tryz.results53]) rfl ⟨rfl, pfrm_close fb hS⟩))); (focus (refine wpOp_of_list rfl ?_; go_wp2_with (refine buildSlice1 (c := #[str (List.replicate (15 - k) 48 ++ Z)]) hS rfl rfl rfl ?_ ?_ ?_ ?_; rfl; rfl; rfl; clear hS; intro mb w hS; simp only [putW]); refine ⟨rfl, hS.conv, ?_⟩; refine wpAnyH_all (rs := [4]) (by kernel_rfl) (by simp) ?_; intro i hi; simp only [List.mem_cons, List.not_mem_nil, or_false] at hi; subst hi; refine wpOp_of_list rfl ?_; go_wp2_with (refine load1 hS rfl rfl rfl rfl ?_; simp only [putW]); refine ⟨rfl, hS.conv, ?_⟩; refine wpAnyH_all (rs := [12]) (by kernel_rfl) (by simp) ?_; intro i hi; simp only [List.mem_cons, List.not_mem_nil, or_false] at hi; subst hi; refine wpOp_of_list rfl ?_; go_wp2_with (refine append1 (f := strF) hS rfl rfl v rfl rfl (List.replicate (15 - k) 48 ++ Z) ?_ ?_ ?_ ?_ ?_ ?_; rfl; (focus (simp [strF, one, Value.oneCell']; done)); rfl; (focus (simp [maxLen]; omega)); (focus (omega)); clear hS; intro v' w hS; simp only [putW]); refine ⟨rfl, hS.conv, ?_⟩; (apply takeIf (i := 13) rfl (by kernel_rfl) (fun _ _ _ h => h); (focus (apply yRun rfl; intro w; first | (go_simp; done) | (go_simp; rfl))); (focus (exact hS.conv)); simp only [putW]); (apply takeIf (i := 14) rfl (by kernel_rfl) (fun _ _ _ h => h); (focus (apply yRun rfl; intro w; first | (go_simp; done) | (go_simp; rfl))); (focus (exact hS.conv)); simp only [putW]); refine wpAnyH_all (rs := [15]) (by kernel_rfl) (by simp) ?_; intro i hi; simp only [List.mem_cons, List.not_mem_nil, or_false] at hi; subst hi; refine wpOp_of_list rfl ?_; go_wp2_with (refine store1 (b := fb) (v := v') hS rfl rfl rfl rfl (Sat.slCell (α := Bs) (v := v') hS) ?_ ?_; (focus (simp; done)); clear hS; intro w hS; try simp only [putW]); refine ⟨rfl, hS.conv, ?_⟩; refine wpAnyH_done (by kernel_rfl) ?_ _; (replace hS : Sat w0 ((fb, cells #[.bool true, v'] 55) :: (blk v', sl 1 strF (W ++ [List.replicate (15 - k) 48 ++ Z]) 9 v') :: (sb, cells c tb) :: K) w := hS; rw [HF.out] at hS; go_wp2_with (refine load1 hS rfl rfl rfl rfl ?_; simp only [putW]); refine bodyPost_ret (v := .tuple #[]) (by simp [results, Tryz.results53]) rfl ⟨rfl, pfrm_close fb hS⟩))))))
end
end Go.Proofs.YtpbjkfomdindnaaGreatDoor
