/-
  The law's example: awake of package thimblelaw18.
-/
import Derived.Test.YtmhnnppcihoofaaDoorTrRoot
import Derived.Test.YtmhnnppcihoofaaDoorJ02
set_option linter.unusedSimpArgs false
set_option linter.unusedVariables false
namespace Go.Proofs.YtmhnnppcihoofaaDoor
open Go.RowKit Go.Proofs.YtmhnnppcihoofaaDoor.Sl Go.Proofs.YtmhnnppcihoofaaDoor.Sha Go.Proofs.YtmhnnppcihoofaaDoor.Jp Go.Proofs.YtmhnnppcihoofaaDoor.Tr

theorem st_one (d : Nat → Row → Row) (b : Row) : stB d 1 [b] 1 = (2, [putAt z256 0 (d 1 b)], [putAt z256 0 (d 1 b)]) := rfl
theorem node_one {D : Row} (hD : D.length = 32) : (putAt z256 0 D).take 32 = D ∧ (putAt z256 0 D)[32]? = some 0 := by
  unfold putAt
  rw [List.take_zero, List.nil_append]
  refine ⟨by rw [← hD]; exact List.take_left, ?_⟩
  rw [List.getElem?_append_right (by omega), List.getElem?_drop, z256, List.getElem?_replicate, if_pos (by omega)]
section
variable {w0 w : World} {K : List Chunk} {va vb lv : Value}
set_option maxRecDepth 100000 in
theorem made_one : Calls Tryd.prog 14 #[.int .i64 0, .slice none 0 0] w0 fun e w' => ∃ gl cl vb xv xl, e = .returned (.tuple #[.agg (plL 1 4 1 (.slice (some ⟨gl, 0, none⟩) 1 cl) 1 3 1 4 8 12).toArray, vb]) ∧ isRow xl ∧
    Sat w0 [(blk vb, sl 1 rowF [(xv, xl)] 22 vb), (0, inn [(xv, xl)] 5), (gl, sl 1 i64 [1] 3 (.slice (some ⟨gl, 0, none⟩) 1 cl))] w' := by
  refine (made_any (F := []) 0 (.inl ⟨rfl, .inl rfl⟩)).mono fun e w' ⟨lv, vb, X, h1, h2, h3, hS⟩ => ?_
  have hp : nP 0 = 1 := by decide
  rw [hp] at h1 h2 hS
  have hl : lvs (cL 1) (cN 1) = [1] := by decide
  rw [hl] at hS
  have hc : cC 1 = 1 := by decide
  rw [hc] at h2
  match X, h2 with
  | [(xv, xl)], _ =>
    obtain ⟨gl, cl, rfl, hS2⟩ := (hS.perm (List.reverse_perm _).symm).slForm 1 rfl (by omega)
    exact ⟨gl, cl, vb, xv, xl, h1, h3 (xv, xl) (by simp), hS2.perm (by
      refine List.Perm.trans (List.reverse_perm _).symm ?_
      exact List.Perm.refl _)⟩
theorem build_one {xv : Value} {xl D N1 E : List Int} {b N H hd J s t : Int} (hS : Sat w0 K w) (hR : ∀ w', Sat w0 K w' → RR w' [(xv, xl)] vb) (hLv : ∀ w', Sat w0 K w' → RI w' [1] lv) (hK : KTab w0) (hx : xl.length = 256) (hD : dig 1 xl = D) (hN : putAt z256 0 D = N1) (hE : dig 2 N1 = E) :
    Calls Tryd.prog 15 #[.pointer none, .agg (plL 1 b 1 lv N H hd J s t).toArray, vb] w fun e w' => ∃ v yv, e = .returned (.tuple #[v, .agg (E.map u8v).toArray, .int .i64 0]) ∧ Sat w0 ((blk v, sl 1 rowF [(yv, N1)] 22 v) :: (3, inn [(yv, N1)] 5) :: K) w' := by
  have hst : stB dig 1 [xl] 1 = (2, [N1], [N1]) := by rw [st_one, hD, hN]
  have h := build_any (m := 1) (P := 1) (C := 1) (Ps := []) (X := [(xv, xl)]) (L := [1]) (b := b) (N := N) (H := H) (hd := hd) (J := J) (s := s) (t := t) (logNil hS []) hR hLv hK rfl (by intro x hx'; rw [List.mem_singleton.1 hx']; exact hx) rfl (by omega)
    (fun k hk => by
      match k, hk with
      | 0, _ => exact ⟨by show 1 ≤ 400000; omega, by show 1 ≤ 1000; omega, by show 0 ≤ 100000; omega⟩
      | 1, _ =>
        rw [show [(xv, xl)].map (·.2) = [xl] from rfl, hst]
        exact ⟨by show 2 ≤ 400000; omega, by show 1 ≤ 1000; omega, by show 1 ≤ 100000; omega⟩
      | k + 2, h => omega) (by rw [show [(xv, xl)].map (·.2) = [xl] from rfl, hst]; rfl) (by simp)
  rw [show [(xv, xl)].map (·.2) = [xl] from rfl, hst] at h
  refine h.mono fun e w' ⟨v, Y, h1, h2, h3⟩ => ?_
  match Y, h2 with
  | [(yv, yl)], h2 =>
    have e2 : yl = N1 := (List.cons.inj h2).1
    subst e2
    refine ⟨v, yv, ?_, ?_⟩
    · rw [h1, ← hE]; rfl
    · have h4 := ((h3.pull 0 (X := inn [(yv, yl)] 5)).turn (b' := 3) (Y := inn [(yv, yl)] 5) fun _ h => h)
      exact h4.conv
theorem readsN {g cap : Nat} {S F : List Chunk} {A : List Int} {t : TypeId} (h : Sat w0 S w) [p : Pull S g (slc 1 by8 A cap t) F] (n : Nat) (hn : A.length = n) (hg : ∀ x ∈ A, okByte x) : RB w A (.slice (some ⟨g, 0, none⟩) n cap) := by
  subst hn
  exact h.readsSlc (g := g) (L := A) (cap := cap) (t := t) hg
theorem same_yes {A B : List Int} (ha : RB w A va) (hb : RB w B vb) (e : A = B) : Calls Tryd.prog 13 #[va, vb] w fun e w' => e = .returned (.bool true) ∧ Sat w [] w' :=
  (same_any ha hb).mono fun _ _ h => ⟨by rw [h.1, decide_eq_true e], h.2⟩
theorem eq32_yes {A : List Int} (hA : A.length = 32) (ha : ∀ x ∈ A, okByte x) (w : World) : (Op.equalIn 10000 23 (.agg (A.map u8v).toArray) (.agg (A.map u8v).toArray)).run Tryd.prog w = .ok true w := by
  rw [eq32 hA hA ha ha]
  simp
set_option maxRecDepth 100000 in
set_option maxHeartbeats 4000000 in
theorem awake_any (hK : KTab w0) : Calls Tryd.prog 9 #[] w0 fun e w' => e = .returned (.bool true) ∧ Sat w0 [] w' := by
  have hS := Sat.refl w0
  go_enter Tryd.func9, Tryd.ntmps9
  go_wp2_with (first | (guard_target =~ Calls _ 14 _ _ _; refine Stopped.out ?_) | (refine load1 hS rfl rfl rfl rfl ?_; simp only [putW]) | (refine loadAll hS rfl rfl rfl ?_ ?_; rfl; simp only [putW]) | (refine loadPart hS rfl rfl rfl ?_ rfl ?_; rfl; simp only [putW]) | (refine store1 hS rfl rfl rfl rfl rfl ?_ ?_; (focus (simp; done)); clear hS; intro w hS; simp only [evW, putW] at hS; try simp only [putW]) | (refine storeAll hS rfl rfl rfl rfl ?_ ?_ ?_ ?_; rfl; (focus (simp [Value.oneCell']; done)); rfl; clear hS; intro w hS; try simp only [putW]) | (refine storeN hS rfl rfl rfl rfl ?_ ?_ ?_ ?_; rfl; (focus (simp [Value.oneCell']; done)); (focus (simp; done)); clear hS; intro w hS; simp at hS; try simp only [putW]) | (refine alloc hS rfl rfl ?_; clear hS; intro mb w hS; simp only [putW]) | (refine box1 hS rfl rfl rfl rfl ?_; clear hS; intro mb w hS; try simp only [evW, putW] at hS; simp only [putW]) | (refine boxN hS rfl rfl rfl ?_; clear hS; intro mb w hS; simp only [putW]))
  refine ⟨?_⟩
  (refine Calls.mono (made_one) ?_; rintro _ w2 ⟨gl, cl, vb, xv, xl, rfl, hx, h2⟩; replace hS := hS.frame h2; clear h2; (try simp only [List.cons_append, List.nil_append] at hS); simp only [putW])
  obtain ⟨D, hD⟩ : ∃ D, dig 1 xl = D := ⟨_, rfl⟩
  obtain ⟨N1, hN⟩ : ∃ N1, putAt z256 0 D = N1 := ⟨_, rfl⟩
  obtain ⟨E, hE⟩ : ∃ E, dig 2 N1 = E := ⟨_, rfl⟩
  have hdl : Bx (D.length = 32) := ⟨by rw [← hD]; exact dig_len' _ _⟩
  have hdb : Bx (∀ x ∈ D, okByte x) := ⟨by rw [← hD]; exact dig_okB _ _⟩
  have hel : Bx (E.length = 32) := ⟨by rw [← hE]; exact dig_len' _ _⟩
  have heb : Bx (∀ x ∈ E, okByte x) := ⟨by rw [← hE]; exact dig_okB _ _⟩
  have hno := node_one hdl.out
  rw [hN] at hno
  have hnr : Bx (isRow N1) := ⟨by rw [← hN]; exact isRow_put isRow_z hdl.out hdb.out (by omega)⟩
  have HD : Bx _ := ⟨hD⟩
  have HN : Bx _ := ⟨hN⟩
  have HE : Bx _ := ⟨hE⟩
  have HO : Bx _ := ⟨hno.1⟩
  have h32 := hno.2
  have hxb := hx.2
  have hxl := hx.1
  have HXB : Bx _ := ⟨hxb⟩
  have HXL : Bx _ := ⟨hxl⟩
  clear hD hN hE hno hxb hx hxl
  go_wp2_with (first | (guard_target =~ Calls _ 15 _ _ _; refine Stopped.out ?_) | (refine load1 hS rfl rfl rfl rfl ?_; simp only [putW]) | (refine loadAll hS rfl rfl rfl ?_ ?_; rfl; simp only [putW]) | (refine loadPart hS rfl rfl rfl ?_ rfl ?_; rfl; simp only [putW]) | (refine store1 hS rfl rfl rfl rfl rfl ?_ ?_; (focus (simp; done)); clear hS; intro w hS; simp only [evW, putW] at hS; try simp only [putW]) | (refine storeAll hS rfl rfl rfl rfl ?_ ?_ ?_ ?_; rfl; (focus (simp [Value.oneCell']; done)); rfl; clear hS; intro w hS; try simp only [putW]) | (refine storeN hS rfl rfl rfl rfl ?_ ?_ ?_ ?_; rfl; (focus (simp [Value.oneCell']; done)); (focus (simp; done)); clear hS; intro w hS; simp at hS; try simp only [putW]) | (refine alloc hS rfl rfl ?_; clear hS; intro mb w hS; simp only [putW]) | (refine box1 hS rfl rfl rfl rfl ?_; clear hS; intro mb w hS; try simp only [evW, putW] at hS; simp only [putW]) | (refine boxN hS rfl rfl rfl ?_; clear hS; intro mb w hS; simp only [putW]))
  refine ⟨?_⟩
  obtain ⟨mp, rfl⟩ : ∃ mp, mp = mb := ⟨_, rfl⟩
  have FR : (w' : World) → Prop := fun w' => Sat w0 [(mp, cells (plL 1 4 1 (Value.slice (some ⟨gl, 0, none⟩) 1 cl) 1 3 1 4 8 12).toArray 38), (blk vb, sl 1 rowF [(xv, xl)] 22 vb), (0, inn [(xv, xl)] 5), (gl, sl 1 i64 [1] 3 (Value.slice (some ⟨gl, 0, none⟩) 1 cl))] w'
  have hRk : ∀ w', Sat w0 [(mp, cells (plL 1 4 1 (Value.slice (some ⟨gl, 0, none⟩) 1 cl) 1 3 1 4 8 12).toArray 38), (blk vb, sl 1 rowF [(xv, xl)] 22 vb), (0, inn [(xv, xl)] 5), (gl, sl 1 i64 [1] 3 (Value.slice (some ⟨gl, 0, none⟩) 1 cl))] w' → RR w' [(xv, xl)] vb := fun w' h => h.rowsRead (vo := vb) (X := [(xv, xl)]) (j := 0) (t := 5) (T := 22) (fun x hx => by rw [List.mem_singleton.1 hx]; exact HXB.out)
  have hLk : ∀ w', Sat w0 [(mp, cells (plL 1 4 1 (Value.slice (some ⟨gl, 0, none⟩) 1 cl) 1 3 1 4 8 12).toArray 38), (blk vb, sl 1 rowF [(xv, xl)] 22 vb), (0, inn [(xv, xl)] 5), (gl, sl 1 i64 [1] 3 (Value.slice (some ⟨gl, 0, none⟩) 1 cl))] w' → RI w' [1] (Value.slice (some ⟨gl, 0, none⟩) 1 cl) := fun w' h => h.readsSl (v := Value.slice (some ⟨gl, 0, none⟩) 1 cl) (L := [1]) (fun _ _ => trivial)
  clear FR
  (refine Calls.mono (build_one hS hRk hLk hK HXL.out HD.out HN.out HE.out) ?_; clear hS; rintro _ w ⟨v, yv, rfl, hS⟩; simp only [putW])
  clear hRk hLk
  obtain ⟨gb, cb, rfl, hS2⟩ := (hS.pull (blk vb) (X := sl 1 rowF [(xv, xl)] 22 vb)).slFormC 1 rfl (by omega)
  clear hS
  obtain ⟨gn, cn, rfl, hS3⟩ := (hS2.pull (blk v) (X := sl 1 rowF [(yv, N1)] 22 v)).slFormC 1 rfl (by omega)
  clear hS2
  have hyr := (hS3.pull 3 (X := inn [(yv, N1)] 5)).innReads (v := yv) (A := N1) (by simp) hnr.out.2
  obtain ⟨gy, cy, hyv, hS4⟩ := (hS3.rowAt (j := 3) (i := 0) (v := yv) (A := N1) rfl).slFormC 256 hnr.out.1 (by omega)
  have hcy := BSl_cap (c := cy) (a := some ⟨gy, 0, none⟩) (m := 256) (by rw [← hyv]; exact hyr) (by intro e; have := hnr.out.1; rw [e] at this; cases this)
  rw [hnr.out.1] at hcy
  subst hyv
  clear hS3 hyr
  have hS := hS4
  clear hS4
  have hx0 : [(xv, xl)][0]? = some (xv, xl) := rfl
  have hy0 : [((.slice (some ⟨gy, 0, none⟩) 256 cy : Value), N1)][0]? = some (.slice (some ⟨gy, 0, none⟩) 256 cy, N1) := rfl
  have hEq := eq32_yes hel.out heb.out
  have hx1 : List.length xl ≤ 10000 := by rw [HXL.out]; omega
  have hn1 : List.length N1 ≤ 10000 := by rw [hnr.out.1]; omega
  have hn2 : 0 + 32 ≤ List.length N1 := by rw [hnr.out.1]; omega
  go_wp2_with (first | (refine loadS (f := rowF) hS rfl rfl rfl 0 0 ?_ hx0 rfl ?_ ?_; omega; omega; simp only [putW]) | (refine allocA (t := 23) (vv := u8v) hS rfl rfl (List.replicate 32 0) zeros32 ?_; clear hS; intro me w hS; simp only [putW]) | (refine storeAllA (vv := u8v) hS rfl rfl rfl E rfl hel.out (fun _ _ => rfl) (by simp) ?_; clear hS; intro w hS; try simp only [putW]) | (guard_target =~ Calls _ 16 _ _ _; refine Stopped.out ?_) | (refine load1 hS rfl rfl rfl rfl ?_; simp only [putW]) | (refine loadAll hS rfl rfl rfl ?_ ?_; rfl; simp only [putW]) | (refine loadPart hS rfl rfl rfl ?_ rfl ?_; rfl; simp only [putW]) | (refine store1 hS rfl rfl rfl rfl rfl ?_ ?_; (focus (simp; done)); clear hS; intro w hS; simp only [evW, putW] at hS; try simp only [putW]) | (refine storeAll hS rfl rfl rfl rfl ?_ ?_ ?_ ?_; rfl; (focus (simp [Value.oneCell']; done)); rfl; clear hS; intro w hS; try simp only [putW]) | (refine storeN hS rfl rfl rfl rfl ?_ ?_ ?_ ?_; rfl; (focus (simp [Value.oneCell']; done)); (focus (simp; done)); clear hS; intro w hS; simp at hS; try simp only [putW]) | (refine alloc hS rfl rfl ?_; clear hS; intro mb w hS; simp only [putW]) | (refine box1 hS rfl rfl rfl rfl ?_; clear hS; intro mb w hS; try simp only [evW, putW] at hS; simp only [putW]) | (refine boxN hS rfl rfl rfl ?_; clear hS; intro mb w hS; simp only [putW]))
  refine ⟨?_⟩
  go_wp2_with (first | (go_at_call 16; refine Calls.mono (refDigest_i (k := 1) rfl HD.out ((hS.pull 0 (X := inn [(xv, xl)] 5)).innReads (v := xv) (A := xl) (by simp) HXB.out) hx1) ?_; rintro _ w2 ⟨rfl, h2⟩; replace hS := hS.frame h2; clear h2; (try simp only [List.cons_append, List.nil_append] at hS); simp only [putW]) | (refine allocA (t := 23) (vv := u8v) hS rfl rfl (List.replicate 32 0) zeros32 ?_; clear hS; intro md w hS; simp only [putW]) | (refine storeAllA (vv := u8v) hS rfl rfl rfl D rfl hdl.out (fun _ _ => rfl) (by simp) ?_; clear hS; intro w hS; try simp only [putW]) | (refine load1 hS rfl rfl rfl rfl ?_; simp only [putW]) | (refine loadAll hS rfl rfl rfl ?_ ?_; rfl; simp only [putW]) | (refine loadPart hS rfl rfl rfl ?_ rfl ?_; rfl; simp only [putW]) | (refine store1 hS rfl rfl rfl rfl rfl ?_ ?_; (focus (simp; done)); clear hS; intro w hS; simp only [evW, putW] at hS; try simp only [putW]) | (refine storeAll hS rfl rfl rfl rfl ?_ ?_ ?_ ?_; rfl; (focus (simp [Value.oneCell']; done)); rfl; clear hS; intro w hS; try simp only [putW]) | (refine storeN hS rfl rfl rfl rfl ?_ ?_ ?_ ?_; rfl; (focus (simp [Value.oneCell']; done)); (focus (simp; done)); clear hS; intro w hS; simp at hS; try simp only [putW]) | (refine alloc hS rfl rfl ?_; clear hS; intro mb w hS; simp only [putW]) | (refine box1 hS rfl rfl rfl rfl ?_; clear hS; intro mb w hS; try simp only [evW, putW] at hS; simp only [putW]) | (refine boxN hS rfl rfl rfl ?_; clear hS; intro mb w hS; simp only [putW]))
  (refine region_quiet hS (by kernel_rfl) (by kernel_rfl) (by kernel_rfl) ?_; clear hS; (repeat (apply quiet_step; (focus (intro w hS; go_wp2_with (first | (refine loadS (f := rowF) hS rfl rfl rfl 0 0 ?_ hy0 rfl ?_ ?_; omega; omega; simp only [putW]) | (refine sliceHi (i := 32) rfl rfl rfl rfl rfl ?_ ?_; (focus omega); simp only [putW]) | (refine sliceArr rfl rfl Tryd.underlying23 rfl ?_; simp only [putW]) | (refine loadAllA (l := E) (vv := u8v) hS rfl rfl rfl hel.out ?_; simp only [putW]) | (refine loadS1 (v1 := Value.int .u8) hS rfl rfl rfl h32 ?_; simp only [putW]) | (go_at_call 13; refine Calls.mono (same_yes (hS.readsPart (g := gy) (A := N1) (i := 0) (m := 32) hnr.out.2 hn2 rfl (by omega) hcy.2) (hS.readsArrN 32 hdl.out hdb.out (by simp [maxLen])) HO.out) ?_; rintro _ w2 ⟨rfl, h2⟩; replace hS := hS.frame h2; clear h2; (try simp only [List.cons_append, List.nil_append] at hS); simp only [putW]) | (go_at_call 16; refine Calls.mono (refDigest_i (k := 2) rfl HE.out (readsN (g := gy) hS 256 hnr.out.1 hnr.out.2) hn1) ?_; rintro _ w2 ⟨rfl, h2⟩; replace hS := hS.frame h2; clear h2; (try simp only [List.cons_append, List.nil_append] at hS); simp only [putW]) | (refine load1 hS rfl rfl rfl rfl ?_; simp only [putW]) | (refine loadAll hS rfl rfl rfl ?_ ?_; rfl; simp only [putW]) | (refine loadPart hS rfl rfl rfl ?_ rfl ?_; rfl; simp only [putW])); exact ⟨rfl, rfl, hS⟩)); simp only [putW])); refine quiet_nil ?_; intro w hS)
  go_wp2_with (first | (refine load1 hS rfl rfl rfl rfl ?_; simp only [putW]) | (refine loadAll hS rfl rfl rfl ?_ ?_; rfl; simp only [putW]) | (refine loadPart hS rfl rfl rfl ?_ rfl ?_; rfl; simp only [putW]) | (refine store1 hS rfl rfl rfl rfl rfl ?_ ?_; (focus (simp; done)); clear hS; intro w hS; simp only [evW, putW] at hS; try simp only [putW]) | (refine storeAll hS rfl rfl rfl rfl ?_ ?_ ?_ ?_; rfl; (focus (simp [Value.oneCell']; done)); rfl; clear hS; intro w hS; try simp only [putW]) | (refine storeN hS rfl rfl rfl rfl ?_ ?_ ?_ ?_; rfl; (focus (simp [Value.oneCell']; done)); (focus (simp; done)); clear hS; intro w hS; simp at hS; try simp only [putW]) | (refine alloc hS rfl rfl ?_; clear hS; intro mb w hS; simp only [putW]) | (refine box1 hS rfl rfl rfl rfl ?_; clear hS; intro mb w hS; try simp only [evW, putW] at hS; simp only [putW]) | (refine boxN hS rfl rfl rfl ?_; clear hS; intro mb w hS; simp only [putW]))
  go_ret
  exact ⟨rfl, hS.nothing⟩
end
end Go.Proofs.YtmhnnppcihoofaaDoor
