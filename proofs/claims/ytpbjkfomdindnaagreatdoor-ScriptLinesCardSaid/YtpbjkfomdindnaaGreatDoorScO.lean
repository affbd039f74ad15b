/-
  script.form: choice and fates of a line.
-/
import Derived.Test.YtpbjkfomdindnaaGreatDoorScN
set_option linter.unusedSimpArgs false
set_option linter.unusedVariables false
namespace Go.Proofs.YtpbjkfomdindnaaGreatDoor
open Go.RowKit Go.Shelf Go.Proofs.YtpbjkfomdindnaaGreatDoor.Sl Go.Proofs.YtpbjkfomdindnaaGreatDoor.Jp Go.Proofs.YtpbjkfomdindnaaGreatDoor.Sc

theorem choice_hit {L : List Bs} {x : Bs} {k : Nat} (h1 : 1 ≤ k) (hk : L[k]? = some x) (hb : ∀ j, 1 ≤ j → j < k → L[j]? ≠ some x) : choiceW L x = some (k : Int) := by
  unfold choiceW
  have hlt := (List.getElem?_eq_some_iff.1 hk).1
  have : (List.range L.length).find? (fun k => decide (1 ≤ k ∧ L[k]? = some x)) = some k := by
    rw [List.find?_range_eq_some]
    refine ⟨by simp [h1, hk], by simpa using hlt, fun j hj => ?_⟩
    have := hb j
    by_cases h : 1 ≤ j
    · simp [this h hj]
    · simp [h]
  rw [this]; rfl
theorem choice_none {L : List Bs} {x : Bs} (hb : ∀ j, 1 ≤ j → j < L.length → L[j]? ≠ some x) : choiceW L x = none := by
  unfold choiceW
  have : (List.range L.length).find? (fun k => decide (1 ≤ k ∧ L[k]? = some x)) = none := by
    rw [List.find?_eq_none]
    intro j hj
    have := hb j
    have hj := List.mem_range.1 hj
    by_cases h : 1 ≤ j
    · simp [this h hj]
    · simp [h]
  rw [this]; rfl
theorem allNum_drop {P : List Bs} {k : Nat} {x : Bs} (h : P[k]? = some x) : P.drop k = x :: P.drop (k + 1) := by
  obtain ⟨h1, h2⟩ := List.getElem?_eq_some_iff.1 h
  rw [List.drop_eq_getElem_cons h1, h2]
section
variable {w0 w : World} {S F K : List Chunk} {W : List Bs} {fb sb off : Nat} {c : Array Value} {tb : TypeId}
set_option maxRecDepth 100000 in
theorem steps_any : Calls Tryz.prog 49 #[] w0 fun e w' => ∃ g, e = .returned (.slice (some ⟨g, 0, none⟩) 13 13) ∧ Sat w0 [(g, slc 1 strF stepsL 13 9)] w' := by
  go_enter Tryz.func49, Tryz.ntmps49
  go_wp2
  go_ret
  refine ⟨w0.heap.size, rfl, ?_⟩
  exact ((Sat.refl w0).freshCells (stepsL.map str).toArray 9).toSlc (by simp [stepsL]) (by simp [stepsL]) (by simp [maxLen]) (by rw [flatMap_one, Nat.mul_one, List.take_of_length_le (by simp)]) (fun _ _ => rfl)
set_option maxRecDepth 100000 in
theorem asks_any : Calls Tryz.prog 81 #[] w0 fun e w' => ∃ g, e = .returned (.slice (some ⟨g, 0, none⟩) 7 7) ∧ Sat w0 [(g, slc 1 strF asksL 7 9)] w' := by
  go_enter Tryz.func81, Tryz.ntmps81
  go_wp2
  go_ret
  refine ⟨w0.heap.size, rfl, ?_⟩
  exact ((Sat.refl w0).freshCells (asksL.map str).toArray 9).toSlc (by simp [asksL]) (by simp [asksL]) (by simp [maxLen]) (by rw [flatMap_one, Nat.mul_one, List.take_of_length_le (by simp)]) (fun _ _ => rfl)
set_option maxRecDepth 100000 in
set_option maxHeartbeats 2000000 in
theorem choice_parse {L : List Bs} {gl n : Nat} (hn : L.length = n) (h1n : 1 ≤ n) (hn2 : n ≤ 100) (hoff : off < c.size) (hS : Sat w0 ((fb, frm W) :: (sb, cells c tb) :: (gl, slc 1 strF L n 9) :: K) w) :
    Calls Tryz.prog 48 #[.pointer (some ⟨fb, 0, none⟩), .pointer (some ⟨sb, off, none⟩), .slice (some ⟨gl, 0, none⟩) n n] w fun e w' =>
      (∃ m W', takeW (choiceW L) W = some (m, W') ∧ e = .returned (.tuple #[]) ∧ Sat w0 ((fb, frm W') :: (sb, cells (c.setIfInBounds off (.int .i64 m)) tb) :: K) w') ∨ (takeW (choiceW L) W = none ∧ e = .panicked badP ∧ Sat w0 K w') := by
  have HO : Bx (off < c.size) := ⟨hoff⟩
  have HL : Bx (L.length = n) := ⟨hn⟩
  clear hoff hn
  cases W with
  | nil =>
    go_enter Tryz.func48, Tryz.ntmps48
    go_wp2_with (first | (refine loadFlag [] hS rfl rfl rfl ?_; simp only [putW]) | (guard_target =~ Calls _ 75 _ _ _; refine Stopped.out ?_))
    refine ⟨?_⟩
    refine Calls.mono (next_none hS) ?_
    rintro _ w' ⟨rfl, hS⟩
    exact ⟨rfl, .inr ⟨rfl, rfl, hS.tail.tail⟩⟩
  | cons x W =>
    go_enter Tryz.func48, Tryz.ntmps48
    go_wp2_with (first | (refine loadFlag (x :: W) hS rfl rfl rfl ?_; simp only [putW]) | (guard_target =~ Calls _ 75 _ _ _; refine Stopped.out ?_))
    refine ⟨?_⟩
    refine Calls.mono (next_some hS) ?_
    clear hS
    rintro _ w ⟨rfl, hS⟩
    simp only [putW]
    go_wp2_with (refine load1 hS rfl rfl rfl rfl ?_; simp only [putW])
    go_loopw [7] (fun i wr => ∃ (k : Nat), 1 ≤ k ∧ k ≤ n ∧ i = .int .i64 (k : Int) ∧ Bx (∀ j, 1 ≤ j → j < k → L[j]? ≠ some x) ∧ Sat w0 ((fb, frm W) :: (sb, cells c tb) :: (gl, slc 1 strF L n 9) :: K) wr) (fun i _ => n - (intOf i).toNat)
    case atStart => exact ⟨1, Nat.le_refl _, h1n, rfl, ⟨fun j h1 h2 => by omega⟩, hS⟩
    case round =>
      clear hS
      obtain ⟨k, hk1, hk, rfl, hB, hS⟩ := hrel
      by_cases hlt : k < n
      · obtain ⟨y, hy⟩ : ∃ y, L[k]? = some y := ⟨_, List.getElem?_eq_getElem (by rw [HL.out]; exact hlt)⟩
        by_cases he : y = x
        · have hb : (y == x) = true := beq_iff_eq.2 he
          have HN : Bx (takeW (choiceW L) (x :: W) = some ((k : Int), W)) := ⟨by simp only [takeW]; rw [choice_hit hk1 (by rw [hy, he]) hB.out]; rfl⟩
          clear he hB
          go_wp2_with (first | (refine loadS1 (v1 := str) hS rfl rfl rfl hy ?_; simp only [putW]) | (refine store1 (b := sb) (v := .int .i64 (k : Int)) hS rfl rfl rfl rfl rfl ?_ ?_; (focus (exact HO.out)); clear hS; intro w hS; try simp only [putW]))
          exact bodyPost_ret (v := .tuple #[]) (by simp [results, Tryz.results48]) rfl (.inl ⟨k, W, HN.out, rfl, hS.conv⟩)
        · have hb : (y == x) = false := by simpa using he
          have HB : Bx (∀ j, 1 ≤ j → j < k + 1 → L[j]? ≠ some x) := ⟨fun j h1 h2 => by
            by_cases h : j = k
            · subst h; rw [hy]; simpa using he
            · exact hB.out j h1 (by omega)⟩
          clear he hB
          go_wp2_with (refine loadS1 (v1 := str) hS rfl rfl rfl hy ?_; simp only [putW])
          go_roundw
          case rel => exact ⟨k + 1, by omega, by omega, by go_num, HB, hS⟩
          case measure => simp only [intOf]; omega
      · have HN : Bx (takeW (choiceW L) (x :: W) = none) := ⟨by
          simp only [takeW]
          rw [choice_none fun j h1 h2 => hB.out j h1 (by rw [HL.out] at h2; omega)]; rfl⟩
        clear hB
        go_wp2_with (refine load1 hS rfl rfl rfl rfl ?_; simp only [putW])
        exact ⟨rfl, .inr ⟨HN.out, rfl, hS.tail.tail.tail⟩⟩
theorem set_twice {c : Array Value} {off : Nat} {u v : Value} : (c.setIfInBounds off u).setIfInBounds off v = c.setIfInBounds off v := by
  apply Array.ext'
  simp
theorem fatesF_nil : fatesF [] = some ([], []) := rfl
theorem slFormI {A : List Int} {g : Nat} {t : TypeId} {v : Value} (hS : Sat w0 S w) [p : PullSl S v g 1 i64 A t F] : ∃ q cc, v = .slice q A.length cc := by
  rcases (hS.perm p.perm).slCases with ⟨rfl, rfl, _⟩ | ⟨cap, rfl, _⟩
  · exact ⟨_, _, rfl⟩
  · exact ⟨_, _, rfl⟩
set_option maxRecDepth 100000 in
set_option maxHeartbeats 4000000 in
theorem ffates_parse (hK : KV w0) (hoff : off < c.size) (hc : c[off]? = some (.slice none 0 0)) (hS : Sat w0 ((fb, frm W) :: (sb, cells c tb) :: K) w) :
    Calls Tryz.prog 52 #[.pointer (some ⟨fb, 0, none⟩), .pointer (some ⟨sb, off, none⟩)] w fun e w' =>
      (∃ A v W', fatesF W = some (A, W') ∧ e = .returned (.tuple #[]) ∧ Sat w0 ((fb, frm W') :: (sb, cells (c.setIfInBounds off v) tb) :: (blk v, sl 1 i64 A 3 v) :: K) w') ∨ (fatesF W = none ∧ e = .panicked badP ∧ Sat w0 K w') := by
  have HK : Bx _ := ⟨hK⟩
  have HO : Bx (off < c.size ∧ c[off]? = some (.slice none 0 0)) := ⟨⟨hoff, hc⟩⟩
  clear hoff hc hK
  cases W with
  | nil =>
    go_enter Tryz.func52, Tryz.ntmps52
    go_wp2_with (first | (refine loadFlag [] hS rfl rfl rfl ?_; simp only [putW]) | (refine loadWords [] hS rfl rfl rfl ?_; intro q0 c0; simp only [putW]) | (refine load1 (b := sb) (v := .slice none 0 0) hS rfl rfl rfl HO.out.2 ?_; simp only [putW]) | (go_at_call 25; refine Calls.mono (want_ok rfl) ?_; rintro _ w2 ⟨rfl, h2⟩; replace hS := hS.frame h2; clear h2; (try simp only [List.cons_append, List.nil_append] at hS); simp only [putW]))
    exact bodyPost_ret (v := .tuple #[]) (by simp [results, Tryz.results52]) rfl (.inl ⟨[], .slice none 0 0, [], rfl, rfl, by
      rw [set_same HO.out.2]
      exact Sat.conv (S' := (fb, frm []) :: (sb, cells c tb) :: (0, sl 1 i64 [] 3 (.slice none 0 0)) :: K) (hS.slNil 1 i64 3)⟩)
  | cons x W =>
    have hl := (frm_ok hS (fb := fb) (W := x :: W)).2 x (by simp)
    go_enter Tryz.func52, Tryz.ntmps52
    go_wp2_with (first | (refine loadFlag (x :: W) hS rfl rfl rfl ?_; simp only [putW]) | (refine loadWords (x :: W) hS rfl rfl rfl ?_; intro q0 c0; simp only [putW]) | (guard_target =~ Calls _ 75 _ _ _; refine Stopped.out ?_))
    refine ⟨?_⟩
    refine Calls.mono (next_some hS) ?_
    clear hS
    rintro _ w ⟨rfl, hS⟩
    simp only [putW]
    go_wp2_with (guard_target =~ Calls _ 21 _ _ _; refine Stopped.out ?_)
    refine ⟨?_⟩
    (refine Calls.mono (split_any 44 x (HK.out.mono hS.base) hl) ?_; rintro _ w2 ⟨g, rfl, h2⟩; replace hS := hS.frame h2; clear h2; (try simp only [List.cons_append, List.nil_append] at hS); simp only [putW])
    obtain ⟨P, hP⟩ : ∃ P, splitC 44 x = P := ⟨_, rfl⟩
    obtain ⟨n, hn⟩ : ∃ n, P.length = n := ⟨_, rfl⟩
    rw [hP, hn] at hS
    rw [hP, hn]
    have HP : Bx (splitC 44 x = P ∧ P.length = n ∧ (∀ w ∈ P, w.length ≤ 1000000) ∧ n ≤ 1000001) := ⟨⟨hP, hn, fun w hw => by
      rw [← hP] at hw
      have := splitC_len hw; omega, by
      rw [← hn, ← hP, splitC_count]; have := List.count_le_length (a := (44 : UInt8)) (l := x); omega⟩⟩
    clear hP hn
    go_wp2_with (refine load1 hS rfl rfl rfl rfl ?_; simp only [putW])
    have hS1 := hS.slNil 1 i64 3
    clear hS
    have hS := hS1
    clear hS1
    go_loopw [24] (fun i wr => ∃ (k : Nat) (L : List Int) (v : Value), k ≤ n ∧ i = .int .i64 (k : Int) ∧ Bx (L.length = k ∧ allNum P = (allNum (P.drop k)).map fun m => L ++ m) ∧ Sat w0 ((blk v, sl 1 i64 L 3 v) :: (sb, cells (c.setIfInBounds off v) tb) :: (g, slc 1 strF P n 9) :: (fb, frm W) :: K) wr) (fun i _ => n - (intOf i).toNat)
    case atStart =>
      refine ⟨0, [], .slice none 0 0, Nat.zero_le _, rfl, ⟨⟨rfl, by simp⟩⟩, ?_⟩
      rw [set_same HO.out.2]
      exact Sat.conv (S' := (0, sl 1 i64 [] 3 (.slice none 0 0)) :: (sb, cells c tb) :: (g, slc 1 strF P n 9) :: (fb, frm W) :: K) hS
    case round =>
      clear hS
      obtain ⟨k, L, v, hk, rfl, hB, hS⟩ := hrel
      have hnb : n ≤ 1000001 := HP.out.2.2.2
      by_cases hlt : k < n
      · obtain ⟨y, hy⟩ : ∃ y, P[k]? = some y := ⟨_, List.getElem?_eq_getElem (by rw [HP.out.2.1]; exact hlt)⟩
        have hyl : y.length ≤ 1000000 := HP.out.2.2.1 y (List.mem_of_getElem? hy)
        go_upto_region 5 with (refine loadS1 (v1 := str) hS rfl rfl rfl hy ?_; simp only [putW])
        have hLl : L.length ≤ 1000001 := by have := hB.out.1; have := HP.out.2.2.2; omega
        cases hm : numW y with
        | some m =>
          have HB : Bx ((L ++ [m]).length = k + 1 ∧ allNum P = (allNum (P.drop (k + 1))).map fun r => (L ++ [m]) ++ r) := ⟨by
            obtain ⟨b1, b2⟩ := hB.out
            refine ⟨by simp [b1], ?_⟩
            rw [b2, allNum_drop hy, allNum, hm]
            simp only [Option.map_map]
            congr 1
            funext r
            simp⟩
          have hcn : ∀ w : World, Sat w0 [] w → Calls Tryz.prog 76 #[str y] w fun e w' => e = .returned (.int .i64 m) ∧ Sat w [] w' := fun w h => number_ok hm (HK.out.mono h.base) hyl
          clear hm hB
          (refine wp_region_held (S := fun w' => Sat w0 ((g, slc 1 strF P n 9) :: (fb, frm W) :: K) w') (by kernel_rfl) ?_; replace hS := hS.drew; (refine takeIf (i := 0) rfl (by kernel_rfl) (fun _ _ _ h => h) (yMove rfl rfl rfl) hS.conv ?_; simp only [evW, putW]); (refine takeIf (i := 1) rfl (by kernel_rfl) (fun _ _ _ h => h) (yMove rfl rfl rfl) hS.conv ?_; simp only [evW, putW]); (apply takeIf (i := 2) rfl (by kernel_rfl) (fun _ _ _ h => h); (focus (apply yRun rfl; intro w; first | (go_simp; done) | (go_simp; rfl))); (focus (exact hS.conv)); simp only [putW]); (refine takeIf (i := 4) rfl (by kernel_rfl) (fun _ _ _ h => h) (yMove rfl rfl rfl) hS.conv ?_; simp only [evW, putW]); refine wpAnyH_all (rs := [3, 5]) (by kernel_rfl) (by simp) ?_; intro i hi; simp only [List.mem_cons, List.not_mem_nil, or_false] at hi; rcases hi with rfl | rfl; (focus (refine wpOp_of_list rfl ?_; go_wp2_with (refine load1 (b := sb) (v := v) hS rfl rfl rfl (by simp [HO.out.1]) ?_; simp only [putW]); refine ⟨rfl, hS.conv, ?_⟩; refine wpAnyH_all (rs := [5]) (by kernel_rfl) (by simp) ?_; intro i hi; simp only [List.mem_cons, List.not_mem_nil, or_false] at hi; subst hi; refine wpOp_of_list rfl ?_; go_wp2_with (go_at_call 76; refine Calls.mono (hcn _ hS.nothing) ?_; rintro _ w2 ⟨rfl, h2⟩; replace hS := hS.frame h2; clear h2; (try simp only [List.cons_append, List.nil_append] at hS); simp only [putW]); refine ⟨rfl, hS.conv, ?_⟩; refine wpAnyH_all (rs := [6]) (by kernel_rfl) (by simp) ?_; intro i hi; simp only [List.mem_cons, List.not_mem_nil, or_false] at hi; subst hi; refine wpOp_of_list rfl ?_; go_wp2_with (refine buildSlice1 (c := #[.int .i64 m]) hS rfl rfl rfl ?_ ?_ ?_ ?_; rfl; rfl; rfl; clear hS; intro mb w hS; simp only [putW]); refine ⟨rfl, hS.conv, ?_⟩; refine wpAnyH_all (rs := [7]) (by kernel_rfl) (by simp) ?_; intro i hi; simp only [List.mem_cons, List.not_mem_nil, or_false] at hi; subst hi; refine wpOp_of_list rfl ?_; go_wp2_with (refine append1 (f := i64) hS rfl rfl v rfl rfl m ?_ ?_ ?_ ?_ ?_ ?_; rfl; (focus (simp [i64, one, Value.oneCell']; done)); rfl; (focus (simp [maxLen]; omega)); (focus (omega)); clear hS; intro v' w hS; simp only [putW]); refine ⟨rfl, hS.conv, ?_⟩; (apply takeIf (i := 8) rfl (by kernel_rfl) (fun _ _ _ h => h); (focus (apply yRun rfl; intro w; first | (go_simp; done) | (go_simp; rfl))); (focus (exact hS.conv)); simp only [putW]); refine wpAnyH_all (rs := [9]) (by kernel_rfl) (by simp) ?_; intro i hi; simp only [List.mem_cons, List.not_mem_nil, or_false] at hi; subst hi; refine wpOp_of_list rfl ?_; go_wp2_with (refine store1 (b := sb) (v := v') hS rfl rfl rfl rfl (Sat.slCell (α := Int) (v := v') hS) ?_ ?_; (focus (simp [HO.out.1])); clear hS; intro w hS; try simp only [putW]); refine ⟨rfl, hS.conv, ?_⟩; refine wpAnyH_done (by kernel_rfl) ?_ _; (rw [set_twice] at hS; go_wp2_with (refine load1 hS rfl rfl rfl rfl ?_; simp only [putW]); go_roundw; (case rel => (exact ⟨k + 1, L ++ [m], v', by omega, by go_num, HB, hS.conv⟩)); (case measure => (simp only [intOf]; omega))))); (focus (refine wpOp_of_list rfl ?_; go_wp2_with (go_at_call 76; refine Calls.mono (hcn _ hS.nothing) ?_; rintro _ w2 ⟨rfl, h2⟩; replace hS := hS.frame h2; clear h2; (try simp only [List.cons_append, List.nil_append] at hS); simp only [putW]); refine ⟨rfl, hS.conv, ?_⟩; refine wpAnyH_all (rs := [3, 6]) (by kernel_rfl) (by simp) ?_; intro i hi; simp only [List.mem_cons, List.not_mem_nil, or_false] at hi; rcases hi with rfl | rfl; (focus (refine wpOp_of_list rfl ?_; go_wp2_with (refine load1 (b := sb) (v := v) hS rfl rfl rfl (by simp [HO.out.1]) ?_; simp only [putW]); refine ⟨rfl, hS.conv, ?_⟩; refine wpAnyH_all (rs := [6]) (by kernel_rfl) (by simp) ?_; intro i hi; simp only [List.mem_cons, List.not_mem_nil, or_false] at hi; subst hi; refine wpOp_of_list rfl ?_; go_wp2_with (refine buildSlice1 (c := #[.int .i64 m]) hS rfl rfl rfl ?_ ?_ ?_ ?_; rfl; rfl; rfl; clear hS; intro mb w hS; simp only [putW]); refine ⟨rfl, hS.conv, ?_⟩; refine wpAnyH_all (rs := [7]) (by kernel_rfl) (by simp) ?_; intro i hi; simp only [List.mem_cons, List.not_mem_nil, or_false] at hi; subst hi; refine wpOp_of_list rfl ?_; go_wp2_with (refine append1 (f := i64) hS rfl rfl v rfl rfl m ?_ ?_ ?_ ?_ ?_ ?_; rfl; (focus (simp [i64, one, Value.oneCell']; done)); rfl; (focus (simp [maxLen]; omega)); (focus (omega)); clear hS; intro v' w hS; simp only [putW]); refine ⟨rfl, hS.conv, ?_⟩; (apply takeIf (i := 8) rfl (by kernel_rfl) (fun _ _ _ h => h); (focus (apply yRun rfl; intro w; first | (go_simp; done) | (go_simp; rfl))); (focus (exact hS.conv)); simp only [putW]); refine wpAnyH_all (rs := [9]) (by kernel_rfl) (by simp) ?_; intro i hi; simp only [List.mem_cons, List.not_mem_nil, or_false] at hi; subst hi; refine wpOp_of_list rfl ?_; go_wp2_with (refine store1 (b := sb) (v := v') hS rfl rfl rfl rfl (Sat.slCell (α := Int) (v := v') hS) ?_ ?_; (focus (simp [HO.out.1])); clear hS; intro w hS; try simp only [putW]); refine ⟨rfl, hS.conv, ?_⟩; refine wpAnyH_done (by kernel_rfl) ?_ _; (rw [set_twice] at hS; go_wp2_with (refine load1 hS rfl rfl rfl rfl ?_; simp only [putW]); go_roundw; (case rel => (exact ⟨k + 1, L ++ [m], v', by omega, by go_num, HB, hS.conv⟩)); (case measure => (simp only [intOf]; omega))))); (focus (refine wpOp_of_list rfl ?_; go_wp2_with (refine buildSlice1 (c := #[.int .i64 m]) hS rfl rfl rfl ?_ ?_ ?_ ?_; rfl; rfl; rfl; clear hS; intro mb w hS; simp only [putW]); refine ⟨rfl, hS.conv, ?_⟩; refine wpAnyH_all (rs := [3]) (by kernel_rfl) (by simp) ?_; intro i hi; simp only [List.mem_cons, List.not_mem_nil, or_false] at hi; subst hi; refine wpOp_of_list rfl ?_; go_wp2_with (refine load1 (b := sb) (v := v) hS rfl rfl rfl (by simp [HO.out.1]) ?_; simp only [putW]); refine ⟨rfl, hS.conv, ?_⟩; refine wpAnyH_all (rs := [7]) (by kernel_rfl) (by simp) ?_; intro i hi; simp only [List.mem_cons, List.not_mem_nil, or_false] at hi; subst hi; refine wpOp_of_list rfl ?_; go_wp2_with (refine append1 (f := i64) hS rfl rfl v rfl rfl m ?_ ?_ ?_ ?_ ?_ ?_; rfl; (focus (simp [i64, one, Value.oneCell']; done)); rfl; (focus (simp [maxLen]; omega)); (focus (omega)); clear hS; intro v' w hS; simp only [putW]); refine ⟨rfl, hS.conv, ?_⟩; (apply takeIf (i := 8) rfl (by kernel_rfl) (fun _ _ _ h => h); (focus (apply yRun rfl; intro w; first | (go_simp; done) | (go_simp; rfl))); (focus (exact hS.conv)); simp only [putW]); refine wpAnyH_all (rs := [9]) (by kernel_rfl) (by simp) ?_; intro i hi; simp only [List.mem_cons, List.not_mem_nil, or_false] at hi; subst hi; refine wpOp_of_list rfl ?_; go_wp2_with (refine store1 (b := sb) (v := v') hS rfl rfl rfl rfl (Sat.slCell (α := Int) (v := v') hS) ?_ ?_; (focus (simp [HO.out.1])); clear hS; intro w hS; try simp only [putW]); refine ⟨rfl, hS.conv, ?_⟩; refine wpAnyH_done (by kernel_rfl) ?_ _; (rw [set_twice] at hS; go_wp2_with (refine load1 hS rfl rfl rfl rfl ?_; simp only [putW]); go_roundw; (case rel => (exact ⟨k + 1, L ++ [m], v', by omega, by go_num, HB, hS.conv⟩)); (case measure => (simp only [intOf]; omega))))))))
        | none =>
          have HN : Bx (fatesF (x :: W) = none) := ⟨by
            simp only [fatesF, fatesW, HP.out.1]
            rw [hB.out.2, allNum_drop hy, allNum, hm]; rfl⟩
          have hcn : ∀ w : World, Sat w0 [] w → Calls Tryz.prog 76 #[str y] w fun e w' => e = .panicked badP ∧ Sat w [] w' := fun w h => number_no hm (HK.out.mono h.base) hyl
          clear hm hB
          (refine wp_region_held (S := fun w' => Sat w0 ((blk v, sl 1 i64 L 3 v) :: (sb, cells (c.setIfInBounds off v) tb) :: (g, slc 1 strF P n 9) :: (fb, frm W) :: K) w') (by kernel_rfl) ?_; replace hS := hS.drew; (refine takeIf (i := 0) rfl (by kernel_rfl) (fun _ _ _ h => h) (yMove rfl rfl rfl) hS.conv ?_; simp only [evW, putW]); (refine takeIf (i := 1) rfl (by kernel_rfl) (fun _ _ _ h => h) (yMove rfl rfl rfl) hS.conv ?_; simp only [evW, putW]); (apply takeIf (i := 2) rfl (by kernel_rfl) (fun _ _ _ h => h); (focus (apply yRun rfl; intro w; first | (go_simp; done) | (go_simp; rfl))); (focus (exact hS.conv)); simp only [putW]); (refine takeIf (i := 3) rfl (by kernel_rfl) (fun _ _ _ h => h) (yLoad1 (b := sb) (c := c.setIfInBounds off v) (v := v) (fun _ h => h) rfl rfl rfl (by simp [HO.out.1])) hS.conv ?_; simp only [putW]); (refine takeIf (i := 4) rfl (by kernel_rfl) (fun _ _ _ h => h) (yMove rfl rfl rfl) hS.conv ?_; simp only [evW, putW]); refine wpAnyH_all (rs := [5]) (by kernel_rfl) (by simp) ?_; intro i hi; simp only [List.mem_cons, List.not_mem_nil, or_false] at hi; subst hi; refine opPanic rfl rfl Tryz.call76 rfl ?_; refine Calls.mono (hcn _ hS.nothing) ?_; rintro _ w2 ⟨rfl, h2⟩; refine ⟨_, rfl, ?_⟩; exact ⟨rfl, .inr ⟨HN.out, rfl, (hS.frame h2).tail.tail.tail.tail⟩⟩)
      · have hd : P.drop k = [] := List.drop_eq_nil_of_le (by rw [HP.out.2.1]; omega)
        have hAll : Bx (allNum P = some L ∧ L.length = n) := ⟨by
          obtain ⟨b1, b2⟩ := hB.out
          rw [hd] at b2
          refine ⟨by rw [b2]; simp [allNum], by omega⟩⟩
        obtain ⟨q, cc, rfl⟩ := slFormI hS (v := v) (A := L)
        clear hd hB
        by_cases h16 : L.length ≤ 16
        · have HN : Bx (fatesF (x :: W) = some (L, W)) := ⟨by
            simp only [fatesF, fatesW, HP.out.1, hAll.out.1]
            rw [if_pos h16]; rfl⟩
          have hb : decide ((L.length : Int) ≤ 16) = true := decide_eq_true (by omega)
          have hb2 : decide (L.length ≤ 16) = true := decide_eq_true h16
          go_wp2_with (first | (refine load1 (b := sb) (v := .slice q L.length cc) hS rfl rfl rfl (by simp [HO.out.1]) ?_; simp only [putW]) | (go_at_call 25; refine Calls.mono (want_ok rfl) ?_; rintro _ w2 ⟨rfl, h2⟩; replace hS := hS.frame h2; clear h2; (try simp only [List.cons_append, List.nil_append] at hS); simp only [putW]))
          exact bodyPost_ret (v := .tuple #[]) (by simp [results, Tryz.results52]) rfl (.inl ⟨L, .slice q L.length cc, W, HN.out, rfl, hS.conv⟩)
        · have HN : Bx (fatesF (x :: W) = none) := ⟨by
            simp only [fatesF, fatesW, HP.out.1, hAll.out.1]
            rw [if_neg h16]; rfl⟩
          have hb : decide ((L.length : Int) ≤ 16) = false := decide_eq_false (by omega)
          have hb2 : decide (L.length ≤ 16) = false := decide_eq_false h16
          go_wp2_with (first | (refine load1 (b := sb) (v := .slice q L.length cc) hS rfl rfl rfl (by simp [HO.out.1]) ?_; simp only [putW]) | (go_at_call 25; refine Calls.mono (want_no rfl) ?_; rintro _ w2 ⟨rfl, h2⟩; replace hS := hS.frame h2; clear h2; (try simp only [List.cons_append, List.nil_append] at hS); simp only [putW]))
          exact ⟨rfl, .inr ⟨HN.out, rfl, hS.tail.tail.tail.tail⟩⟩
end
end Go.Proofs.YtpbjkfomdindnaaGreatDoor
