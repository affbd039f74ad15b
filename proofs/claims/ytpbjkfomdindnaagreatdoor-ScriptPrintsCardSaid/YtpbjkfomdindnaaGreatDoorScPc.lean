/-
  script.form, gathering: fates.
-/
import Derived.Test.YtpbjkfomdindnaaGreatDoorScPb
import Derived.Lib.ItoaLen
set_option linter.unusedSimpArgs false
set_option linter.unusedVariables false
namespace Go.Proofs.YtpbjkfomdindnaaGreatDoor
open Go.RowKit Go.Shelf Go.Proofs.YtpbjkfomdindnaaGreatDoor.Sl Go.Proofs.YtpbjkfomdindnaaGreatDoor.Jp Go.Proofs.YtpbjkfomdindnaaGreatDoor.Sc

theorem joinC_len {c : UInt8} {M : Nat} : ∀ {W : List Bs}, (∀ w ∈ W, w.length ≤ M) → (joinC c W).length ≤ W.length * (M + 1)
  | [], _ => by simp [joinC]
  | [w], h => by
    have := h w (by simp)
    simp [joinC]
    omega
  | w :: w' :: r, h => by
    have h1 := h w (by simp)
    have h2 := joinC_len (c := c) (W := w' :: r) fun x hx => h x (by simp [hx])
    rw [joinC_cons w (by simp)]
    simp only [List.length_append, List.length_cons, Nat.add_mul] at h2 ⊢
    omega
theorem itoa_len {n : Int} (h : okN n) : (Lib.itoa n).length ≤ 21 := by
  obtain ⟨h0, h1⟩ := h
  exact Lib.itoa_length_le n (by omega) (by omega)
section
variable {w0 w : World} {S F K : List Chunk} {W : List Bs} {fb sb off : Nat} {c : Array Value} {tb : TypeId}
theorem fatesR_no {A : List Int} {k : Nat} {x : Int} (hx : A[k]? = some x) (hn : ¬ okN x) : fatesR A = none := by
  have hm := List.mem_of_getElem? hx
  unfold fatesR
  split
  · rw [if_neg (by intro e; subst e; cases hm), if_neg (fun h => hn (h x hm))]
  · rfl
set_option maxRecDepth 100000 in
set_option maxHeartbeats 2000000 in
theorem ffates_print {A : List Int} {va : Value} (hK : KV w0) (hv : RI w0 A va) (hc : c[off]? = some va) (hW : W.length ≤ 100) (hS : Sat w0 ((fb, pfrm W) :: (sb, cells c tb) :: K) w) :
    Calls Tryz.prog 52 #[.pointer (some ⟨fb, 0, none⟩), .pointer (some ⟨sb, off, none⟩)] w fun e w' =>
      (∃ Y, fatesR A = some Y ∧ Y.length ≤ 1 ∧ e = .returned (.tuple #[]) ∧ Sat w0 ((fb, pfrm (W ++ Y)) :: (sb, cells c tb) :: K) w') ∨ (fatesR A = none ∧ e = .panicked badP ∧ Sat w0 K w') := by
  have HK : Bx _ := ⟨hK⟩
  obtain ⟨pa, ca, rfl, hla, hat⟩ := BSl.at hv
  have HO : Bx (c[off]? = some (.slice pa A.length ca)) := ⟨hc⟩
  clear hc hv hK
  obtain ⟨v, hS1⟩ := pfrm_open hS (fb := fb) (W := W)
  clear hS
  have hS := hS1
  clear hS1
  by_cases hl : A.length ≤ 16
  · by_cases h0 : A = []
    · subst h0
      have HR : Bx (fatesR [] = some []) := ⟨rfl⟩
      go_enter Tryz.func52, Tryz.ntmps52
      go_wp2_with (first | (refine load1 (b := sb) (v := .slice pa ([] : List Int).length ca) hS rfl rfl rfl HO.out ?_; simp only [putW]) | (go_at_call 25; refine Calls.mono (want_ok (by simp)) ?_; rintro _ w2 ⟨rfl, h2⟩; replace hS := hS.frame h2; clear h2; (try simp only [List.cons_append, List.nil_append] at hS); simp only [putW]) | (refine load1 hS rfl rfl rfl rfl ?_; simp only [putW]))
      refine bodyPost_ret (v := .tuple #[]) (by simp [results, Tryz.results52]) rfl (.inl ⟨[], HR.out, by simp, rfl, ?_⟩)
      rw [List.append_nil]
      exact pfrm_close fb hS
    · have hpos : 0 < A.length := List.length_pos_iff.2 h0
      have H0 : Bx (A ≠ []) := ⟨h0⟩
      obtain ⟨b, o, rfl, hB⟩ := hat h0
      have HB : Bx (BAt w0 1 i64 (fun _ => True) A b o) := ⟨hB⟩
      clear hB hat h0
      go_enter Tryz.func52, Tryz.ntmps52
      go_wp2_with (first | (refine load1 (b := sb) (v := .slice (some ⟨b, o, none⟩) A.length ca) hS rfl rfl rfl HO.out ?_; simp only [putW]) | (go_at_call 25; refine Calls.mono (want_ok (decide_eq_true (by omega))) ?_; rintro _ w2 ⟨rfl, h2⟩; replace hS := hS.frame h2; clear h2; (try simp only [List.cons_append, List.nil_append] at hS); simp only [putW]) | (refine load1 hS rfl rfl rfl rfl ?_; simp only [putW]))
      have hS1 := hS.slNil 1 strF 9
      clear hS
      have hS := hS1
      clear hS1
      go_loopw [6, 59] (fun vp j wr => ∃ (k : Nat), k ≤ A.length ∧ j = .int .i64 (k : Int) ∧ Bx (∀ x ∈ A.take k, okN x) ∧ Sat w0 ((blk vp, sl 1 strF ((A.take k).map Lib.itoa) 9 vp) :: (fb, cells #[.bool true, v] 55) :: (blk v, sl 1 strF W 9 v) :: (sb, cells c tb) :: K) wr) (fun _ j _ => A.length - (intOf j).toNat)
      case atStart => exact ⟨0, Nat.zero_le _, rfl, ⟨fun x hx => by simp at hx⟩, hS⟩
      case round =>
        clear hS
        obtain ⟨k, hk, rfl, hT, hS⟩ := hrel
        by_cases hlt : k < A.length
        · obtain ⟨x, hx⟩ : ∃ x, A[k]? = some x := ⟨_, List.getElem?_eq_getElem hlt⟩
          have Hx : Bx (A[k]? = some x) := ⟨hx⟩
          have HT : Bx (A.take (k + 1) = A.take k ++ [x]) := ⟨by rw [List.take_add_one, hx]; rfl⟩
          have hlk : ((A.take k).map Lib.itoa).length ≤ 16 := by rw [List.length_map, List.length_take]; omega
          clear hx
          by_cases hn : okN x
          · have HN : Bx (okN x) := ⟨hn⟩
            obtain ⟨hx0, hx1⟩ := hn
            go_wp2_with (first | (refine loadB (f := i64) hS rfl rfl rfl HB.out k 0 ?_ Hx.out rfl ?_; omega; simp only [putW]) | (go_at_call 25; refine Calls.mono (want_ok (by simp [hx0, hx1])) ?_; rintro _ w2 ⟨rfl, h2⟩; replace hS := hS.frame h2; clear h2; (try simp only [List.cons_append, List.nil_append] at hS); simp only [putW]) | (go_at_call 41; refine Calls.mono (itoa_any x (HK.out.mono hS.base) (by omega) (by omega)) ?_; rintro _ w2 ⟨rfl, h2⟩; replace hS := hS.frame h2; clear h2; (try simp only [List.cons_append, List.nil_append] at hS); simp only [putW]) | (refine buildSlice1 (c := #[str (Lib.itoa x)]) hS rfl rfl rfl ?_ ?_ ?_ ?_; rfl; rfl; rfl; clear hS; intro mb w hS; simp only [putW]) | (refine append1 (f := strF) hS rfl rfl u6 rfl rfl (Lib.itoa x) ?_ ?_ ?_ ?_ ?_ ?_; rfl; (focus (simp [strF, one, Value.oneCell']; done)); rfl; (focus (simp [maxLen]; omega)); (focus (omega)); clear hS; intro v' w hS; simp only [putW]))
            go_roundw
            case rel =>
              refine ⟨k + 1, by omega, by go_num, ⟨fun y hy => ?_⟩, ?_⟩
              · rw [HT.out] at hy
                rcases List.mem_append.1 hy with h | h
                · exact hT.out y h
                · obtain rfl := List.mem_singleton.1 h
                  exact HN.out
              · rw [HT.out, List.map_append]
                exact hS
            case measure => simp only [intOf]; omega
          · have HR : Bx (fatesR A = none) := ⟨fatesR_no Hx.out hn⟩
            have hn2 : ¬ 0 ≤ x ∨ ¬ x < 1000000000 := by unfold okN at hn; omega
            clear hn
            by_cases hx0 : 0 ≤ x
            · have hx1 : ¬ x < 1000000000 := by omega
              clear hn2
              go_wp2_with (first | (refine loadB (f := i64) hS rfl rfl rfl HB.out k 0 ?_ Hx.out rfl ?_; omega; simp only [putW]) | (go_at_call 25; refine Calls.mono (want_no (by simp [hx1])) ?_; rintro _ w2 ⟨rfl, h2⟩; replace hS := hS.frame h2; clear h2; (try simp only [List.cons_append, List.nil_append] at hS); simp only [putW]))
              exact ⟨rfl, .inr ⟨HR.out, rfl, hS.tail.tail.tail.tail⟩⟩
            · clear hn2
              go_wp2_with (first | (refine loadB (f := i64) hS rfl rfl rfl HB.out k 0 ?_ Hx.out rfl ?_; omega; simp only [putW]) | (go_at_call 25; refine Calls.mono (want_no (by simp [hx0])) ?_; rintro _ w2 ⟨rfl, h2⟩; replace hS := hS.frame h2; clear h2; (try simp only [List.cons_append, List.nil_append] at hS); simp only [putW]))
              exact ⟨rfl, .inr ⟨HR.out, rfl, hS.tail.tail.tail.tail⟩⟩
        · obtain rfl : k = A.length := by omega
          rw [List.take_length] at hT hS
          have HR : Bx (fatesR A = some [fatesL A]) := ⟨by unfold fatesR; rw [if_pos hl, if_neg H0.out, if_pos hT.out]⟩
          have HL : Bx ((joinC 44 (A.map Lib.itoa)).length ≤ 1000000) := ⟨by
            have := joinC_len (c := 44) (M := 21) (W := A.map Lib.itoa) fun w hw => by
              obtain ⟨y, hy, rfl⟩ := List.mem_map.1 hw
              exact itoa_len (hT.out y hy)
            rw [List.length_map] at this
            omega⟩
          have HL2 : Bx ((A.map Lib.itoa).length ≤ 1000000) := ⟨by rw [List.length_map]; omega⟩
          have HS : Bx (joinC 44 (A.map Lib.itoa) = fatesL A) := ⟨rfl⟩
          obtain ⟨Z, hZ⟩ : ∃ Z, A.map Lib.itoa = Z := ⟨_, rfl⟩
          rw [hZ] at hS HL HL2 HS
          clear hZ hT
          have HJ : Bx (∀ {w : World}, RS w Z u6 → Calls Tryz.prog 38 #[u6, str [44]] w fun e w' => e = .returned (str (fatesL A)) ∧ Sat w [] w') := ⟨fun {w} h => by rw [← HS.out]; exact join_any 44 h HL.out HL2.out⟩
          go_wp2_with (refine load1 hS rfl rfl rfl rfl ?_; simp only [putW])
          (refine wp_region_held (S := fun w' => Sat w0 ((blk u6, sl 1 strF Z 9 u6) :: (sb, cells c tb) :: K) w') (by kernel_rfl) ?_; replace hS := hS.drew; (refine takeIf (i := 0) rfl (by kernel_rfl) (fun _ _ _ h => h) (yMove rfl rfl rfl) hS.conv ?_; simp only [evW, putW]); (refine takeIf (i := 1) rfl (by kernel_rfl) (fun _ _ _ h => h) (yMove rfl rfl rfl) hS.conv ?_; simp only [evW, putW]); (apply takeIf (i := 2) rfl (by kernel_rfl) (fun _ _ _ h => h); (focus (apply yRun rfl; intro w; first | (go_simp; done) | (go_simp; rfl))); (focus (exact hS.conv)); simp only [putW]); (apply takeIf (i := 3) rfl (by kernel_rfl) (fun _ _ _ h => h); (focus (apply yRun rfl; intro w; first | (go_simp; done) | (go_simp; rfl))); (focus (exact hS.conv)); simp only [putW]); (refine takeIf (i := 5) rfl (by kernel_rfl) (fun _ _ _ h => h) (yMove rfl rfl rfl) hS.conv ?_; simp only [evW, putW]); refine wpAnyH_all (rs := [4, 6]) (by kernel_rfl) (by simp) ?_; intro i hi; simp only [List.mem_cons, List.not_mem_nil, or_false] at hi; rcases hi with rfl | rfl; (focus (refine wpOp_of_list rfl ?_; go_wp2_with (refine load1 hS rfl rfl rfl rfl ?_; simp only [putW]); refine ⟨rfl, hS.conv, ?_⟩; refine wpAnyH_all (rs := [6]) (by kernel_rfl) (by simp) ?_; intro i hi; simp only [List.mem_cons, List.not_mem_nil, or_false] at hi; subst hi; refine wpOp_of_list rfl ?_; go_wp2_with (go_at_call 38; refine Calls.mono (HJ.out (Sat.readsSl (v := u6) hS (fun _ _ => trivial))) ?_; rintro _ w2 ⟨rfl, h2⟩; replace hS := hS.frame h2; clear h2; (try simp only [List.cons_append, List.nil_append] at hS); simp only [putW]); refine ⟨rfl, hS.conv, ?_⟩; refine wpAnyH_all (rs := [7]) (by kernel_rfl) (by simp) ?_; intro i hi; simp only [List.mem_cons, List.not_mem_nil, or_false] at hi; subst hi; refine wpOp_of_list rfl ?_; go_wp2_with (refine buildSlice1 (c := #[str (fatesL A)]) hS rfl rfl rfl ?_ ?_ ?_ ?_; rfl; rfl; rfl; clear hS; intro mb w hS; simp only [putW]); refine ⟨rfl, hS.conv, ?_⟩; refine wpAnyH_all (rs := [8]) (by kernel_rfl) (by simp) ?_; intro i hi; simp only [List.mem_cons, List.not_mem_nil, or_false] at hi; subst hi; refine wpOp_of_list rfl ?_; go_wp2_with (refine append1 (f := strF) hS rfl rfl v rfl rfl (fatesL A) ?_ ?_ ?_ ?_ ?_ ?_; rfl; (focus (simp [strF, one, Value.oneCell']; done)); rfl; (focus (simp [maxLen]; omega)); (focus (omega)); clear hS; intro v' w hS; simp only [putW]); refine ⟨rfl, hS.conv, ?_⟩; (apply takeIf (i := 9) rfl (by kernel_rfl) (fun _ _ _ h => h); (focus (apply yRun rfl; intro w; first | (go_simp; done) | (go_simp; rfl))); (focus (exact hS.conv)); simp only [putW]); (apply takeIf (i := 10) rfl (by kernel_rfl) (fun _ _ _ h => h); (focus (apply yRun rfl; intro w; first | (go_simp; done) | (go_simp; rfl))); (focus (exact hS.conv)); simp only [putW]); refine wpAnyH_all (rs := [11]) (by kernel_rfl) (by simp) ?_; intro i hi; simp only [List.mem_cons, List.not_mem_nil, or_false] at hi; subst hi; refine wpOp_of_list rfl ?_; go_wp2_with (refine store1 (b := fb) (v := v') hS rfl rfl rfl rfl (Sat.slCell (α := Bs) (v := v') hS) ?_ ?_; (focus (simp; done)); clear hS; intro w hS; try simp only [putW]); refine ⟨rfl, hS.conv, ?_⟩; refine wpAnyH_done (by kernel_rfl) ?_ _; (replace hS : Sat w0 ((fb, cells #[.bool true, v'] 55) :: (blk v', sl 1 strF (W ++ [fatesL A]) 9 v') :: (blk u6, sl 1 strF Z 9 u6) :: (sb, cells c tb) :: K) w := hS; go_wp2_with (refine load1 hS rfl rfl rfl rfl ?_; simp only [putW]); go_end0; refine .inl ⟨[fatesL A], HR.out, by simp, rfl, ?_⟩; exact (pfrm_close fb hS).conv))); (focus (refine wpOp_of_list rfl ?_; go_wp2_with (go_at_call 38; refine Calls.mono (HJ.out (Sat.readsSl (v := u6) hS (fun _ _ => trivial))) ?_; rintro _ w2 ⟨rfl, h2⟩; replace hS := hS.frame h2; clear h2; (try simp only [List.cons_append, List.nil_append] at hS); simp only [putW]); refine ⟨rfl, hS.conv, ?_⟩; refine wpAnyH_all (rs := [4, 7]) (by kernel_rfl) (by simp) ?_; intro i hi; simp only [List.mem_cons, List.not_mem_nil, or_false] at hi; rcases hi with rfl | rfl; (focus (refine wpOp_of_list rfl ?_; go_wp2_with (refine load1 hS rfl rfl rfl rfl ?_; simp only [putW]); refine ⟨rfl, hS.conv, ?_⟩; refine wpAnyH_all (rs := [7]) (by kernel_rfl) (by simp) ?_; intro i hi; simp only [List.mem_cons, List.not_mem_nil, or_false] at hi; subst hi; refine wpOp_of_list rfl ?_; go_wp2_with (refine buildSlice1 (c := #[str (fatesL A)]) hS rfl rfl rfl ?_ ?_ ?_ ?_; rfl; rfl; rfl; clear hS; intro mb w hS; simp only [putW]); refine ⟨rfl, hS.conv, ?_⟩; refine wpAnyH_all (rs := [8]) (by kernel_rfl) (by simp) ?_; intro i hi; simp only [List.mem_cons, List.not_mem_nil, or_false] at hi; subst hi; refine wpOp_of_list rfl ?_; go_wp2_with (refine append1 (f := strF) hS rfl rfl v rfl rfl (fatesL A) ?_ ?_ ?_ ?_ ?_ ?_; rfl; (focus (simp [strF, one, Value.oneCell']; done)); rfl; (focus (simp [maxLen]; omega)); (focus (omega)); clear hS; intro v' w hS; simp only [putW]); refine ⟨rfl, hS.conv, ?_⟩; (apply takeIf (i := 9) rfl (by kernel_rfl) (fun _ _ _ h => h); (focus (apply yRun rfl; intro w; first | (go_simp; done) | (go_simp; rfl))); (focus (exact hS.conv)); simp only [putW]); (apply takeIf (i := 10) rfl (by kernel_rfl) (fun _ _ _ h => h); (focus (apply yRun rfl; intro w; first | (go_simp; done) | (go_simp; rfl))); (focus (exact hS.conv)); simp only [putW]); refine wpAnyH_all (rs := [11]) (by kernel_rfl) (by simp) ?_; intro i hi; simp only [List.mem_cons, List.not_mem_nil, or_false] at hi; subst hi; refine wpOp_of_list rfl ?_; go_wp2_with (refine store1 (b := fb) (v := v') hS rfl rfl rfl rfl (Sat.slCell (α := Bs) (v := v') hS) ?_ ?_; (focus (simp; done)); clear hS; intro w hS; try simp only [putW]); refine ⟨rfl, hS.conv, ?_⟩; refine wpAnyH_done (by kernel_rfl) ?_ _; (replace hS : Sat w0 ((fb, cells #[.bool true, v'] 55) :: (blk v', sl 1 strF (W ++ [fatesL A]) 9 v') :: (blk u6, sl 1 strF Z 9 u6) :: (sb, cells c tb) :: K) w := hS; go_wp2_with (refine load1 hS rfl rfl rfl rfl ?_; simp only [putW]); go_end0; refine .inl ⟨[fatesL A], HR.out, by simp, rfl, ?_⟩; exact (pfrm_close fb hS).conv))); (focus (refine wpOp_of_list rfl ?_; go_wp2_with (refine buildSlice1 (c := #[str (fatesL A)]) hS rfl rfl rfl ?_ ?_ ?_ ?_; rfl; rfl; rfl; clear hS; intro mb w hS; simp only [putW]); refine ⟨rfl, hS.conv, ?_⟩; refine wpAnyH_all (rs := [4]) (by kernel_rfl) (by simp) ?_; intro i hi; simp only [List.mem_cons, List.not_mem_nil, or_false] at hi; subst hi; refine wpOp_of_list rfl ?_; go_wp2_with (refine load1 hS rfl rfl rfl rfl ?_; simp only [putW]); refine ⟨rfl, hS.conv, ?_⟩; refine wpAnyH_all (rs := [8]) (by kernel_rfl) (by simp) ?_; intro i hi; simp only [List.mem_cons, List.not_mem_nil, or_false] at hi; subst hi; refine wpOp_of_list rfl ?_; go_wp2_with (refine append1 (f := strF) hS rfl rfl v rfl rfl (fatesL A) ?_ ?_ ?_ ?_ ?_ ?_; rfl; (focus (simp [strF, one, Value.oneCell']; done)); rfl; (focus (simp [maxLen]; omega)); (focus (omega)); clear hS; intro v' w hS; simp only [putW]); refine ⟨rfl, hS.conv, ?_⟩; (apply takeIf (i := 9) rfl (by kernel_rfl) (fun _ _ _ h => h); (focus (apply yRun rfl; intro w; first | (go_simp; done) | (go_simp; rfl))); (focus (exact hS.conv)); simp only [putW]); (apply takeIf (i := 10) rfl (by kernel_rfl) (fun _ _ _ h => h); (focus (apply yRun rfl; intro w; first | (go_simp; done) | (go_simp; rfl))); (focus (exact hS.conv)); simp only [putW]); refine wpAnyH_all (rs := [11]) (by kernel_rfl) (by simp) ?_; intro i hi; simp only [List.mem_cons, List.not_mem_nil, or_false] at hi; subst hi; refine wpOp_of_list rfl ?_; go_wp2_with (refine store1 (b := fb) (v := v') hS rfl rfl rfl rfl (Sat.slCell (α := Bs) (v := v') hS) ?_ ?_; (focus (simp; done)); clear hS; intro w hS; try simp only [putW]); refine ⟨rfl, hS.conv, ?_⟩; refine wpAnyH_done (by kernel_rfl) ?_ _; (replace hS : Sat w0 ((fb, cells #[.bool true, v'] 55) :: (blk v', sl 1 strF (W ++ [fatesL A]) 9 v') :: (blk u6, sl 1 strF Z 9 u6) :: (sb, cells c tb) :: K) w := hS; go_wp2_with (refine load1 hS rfl rfl rfl rfl ?_; simp only [putW]); go_end0; refine .inl ⟨[fatesL A], HR.out, by simp, rfl, ?_⟩; exact (pfrm_close fb hS).conv))))))
  · have HR : Bx (fatesR A = none) := ⟨by unfold fatesR; rw [if_neg hl]⟩
    go_enter Tryz.func52, Tryz.ntmps52
    go_wp2_with (first | (refine load1 (b := sb) (v := .slice pa A.length ca) hS rfl rfl rfl HO.out ?_; simp only [putW]) | (go_at_call 25; refine Calls.mono (want_no (decide_eq_false (by omega))) ?_; rintro _ w2 ⟨rfl, h2⟩; replace hS := hS.frame h2; clear h2; (try simp only [List.cons_append, List.nil_append] at hS); simp only [putW]) | (refine load1 hS rfl rfl rfl rfl ?_; simp only [putW]))
    exact ⟨rfl, .inr ⟨HR.out, rfl, hS.tail.tail.tail⟩⟩
end
end Go.Proofs.YtpbjkfomdindnaaGreatDoor
