/-
  GhostForges: the walk.
-/
import Derived.Test.YteoidocicjlglaaDoorGhPlay
import Derived.Test.YteoidocicjlglaaDoorGhAwake
import Derived.Test.YteoidocicjlglaaDoorGhRefF
set_option linter.unusedSimpArgs false
set_option linter.unusedVariables false
namespace Go.Proofs.YteoidocicjlglaaDoor.GhostForgesDone
open Go.RowKit Go.Proofs.YteoidocicjlglaaDoor Go.Proofs.YteoidocicjlglaaDoor.Sl Go.Proofs.YteoidocicjlglaaDoor.Sha Go.Proofs.YteoidocicjlglaaDoor.Jp

theorem tups_ok {w : World} {Y : List TupV} (h : ∀ y ∈ Y, TupRd w y) : ∀ t ∈ tsOf Y, TupOk t := fun t ht => by
  obtain ⟨y, hy, rfl⟩ := List.mem_map.1 ht
  exact (h y hy).ok
theorem tsOf_inv {Y : List TupV} {i : Nat} {t : Tup} (h : (tsOf Y)[i]? = some t) : ∃ y, Y[i]? = some y ∧ y.2.2 = t := by
  rw [List.getElem?_map] at h
  exact Option.map_eq_some_iff.1 h
theorem zT_rd (w : World) : TupRd w (.slice none 0 0, .slice none 0 0, zT) := by
  refine ⟨⟨⟨by decide, by decide⟩, ⟨rfl, fun b hb => ?_⟩, ⟨by decide, fun b hb => by cases hb⟩, by decide, fun b hb => by cases hb⟩, okNil w, okNil w⟩
  have : b = 0 := by simpa [zT] using hb
  subst this
  unfold okByte
  omega
section
variable {w0 : World} {va : Value} {L : List ActV}
set_option maxRecDepth 100000 in
set_option maxHeartbeats 4000000 in
theorem core (hL : RA w0 L va) (hK : KTab w0) : Calls Tryd.prog 4 #[va] w0 fun e w' => e = .returned (.bool true) ∧ Sat w0 [] w' := by
  have hS := Sat.refl w0
  go_enter Tryd.func4, Tryd.ntmps4
  go_wp2_with (first | (guard_target =~ Calls _ 9 _ _ _; refine Stopped.out ?_) | (refine load1 hS rfl rfl rfl rfl ?_; simp only [putW]) | (refine loadAll hS rfl rfl rfl ?_ ?_; rfl; simp only [putW]) | (refine loadPart hS rfl rfl rfl ?_ rfl ?_; rfl; simp only [putW]) | (refine store1 hS rfl rfl rfl rfl rfl ?_ ?_; (focus (simp; done)); clear hS; intro w hS; simp only [evW, putW] at hS; try simp only [putW]) | (refine storeAll hS rfl rfl rfl rfl ?_ ?_ ?_ ?_; rfl; (focus (simp [Value.oneCell']; done)); rfl; clear hS; intro w hS; try simp only [putW]) | (refine storeN hS rfl rfl rfl rfl ?_ ?_ ?_ ?_; rfl; (focus (simp [Value.oneCell']; done)); (focus (simp; done)); clear hS; intro w hS; simp at hS; try simp only [putW]) | (refine alloc hS rfl rfl ?_; clear hS; intro mb w hS; simp only [putW]) | (refine box1 hS rfl rfl rfl rfl ?_; clear hS; intro mb w hS; try simp only [evW, putW] at hS; simp only [putW]) | (refine boxN hS rfl rfl rfl ?_; clear hS; intro mb w hS; simp only [putW]))
  refine ⟨?_⟩
  (refine Calls.mono (greatA_any (hL.mono hS.base)) ?_; rintro _ w2 ⟨r1, rfl, hr1, h2⟩; replace hS := hS.frame h2; clear h2; (try simp only [List.cons_append, List.nil_append] at hS); simp only [putW])
  cases r1 with
  | true =>
    go_wp2_with (first | (go_at_call 10; refine Calls.mono (awakeG_any) ?_; rintro _ w2 ⟨rfl, h2⟩; replace hS := hS.frame h2; clear h2; (try simp only [List.cons_append, List.nil_append] at hS); simp only [putW]) | (refine load1 hS rfl rfl rfl rfl ?_; simp only [putW]) | (refine loadAll hS rfl rfl rfl ?_ ?_; rfl; simp only [putW]) | (refine loadPart hS rfl rfl rfl ?_ rfl ?_; rfl; simp only [putW]) | (refine store1 hS rfl rfl rfl rfl rfl ?_ ?_; (focus (simp; done)); clear hS; intro w hS; simp only [evW, putW] at hS; try simp only [putW]) | (refine storeAll hS rfl rfl rfl rfl ?_ ?_ ?_ ?_; rfl; (focus (simp [Value.oneCell']; done)); rfl; clear hS; intro w hS; try simp only [putW]) | (refine storeN hS rfl rfl rfl rfl ?_ ?_ ?_ ?_; rfl; (focus (simp [Value.oneCell']; done)); (focus (simp; done)); clear hS; intro w hS; simp at hS; try simp only [putW]) | (refine alloc hS rfl rfl ?_; clear hS; intro mb w hS; simp only [putW]) | (refine box1 hS rfl rfl rfl rfl ?_; clear hS; intro mb w hS; try simp only [evW, putW] at hS; simp only [putW]) | (refine boxN hS rfl rfl rfl ?_; clear hS; intro mb w hS; simp only [putW]))
    go_ret
    exact ⟨rfl, hS⟩
  | false =>
    have hsm := hr1 (by simp)
    clear hr1
    go_wp2_with (first | (guard_target =~ Calls _ 11 _ _ _; refine Stopped.out ?_) | (refine load1 hS rfl rfl rfl rfl ?_; simp only [putW]) | (refine loadAll hS rfl rfl rfl ?_ ?_; rfl; simp only [putW]) | (refine loadPart hS rfl rfl rfl ?_ rfl ?_; rfl; simp only [putW]) | (refine store1 hS rfl rfl rfl rfl rfl ?_ ?_; (focus (simp; done)); clear hS; intro w hS; simp only [evW, putW] at hS; try simp only [putW]) | (refine storeAll hS rfl rfl rfl rfl ?_ ?_ ?_ ?_; rfl; (focus (simp [Value.oneCell']; done)); rfl; clear hS; intro w hS; try simp only [putW]) | (refine storeN hS rfl rfl rfl rfl ?_ ?_ ?_ ?_; rfl; (focus (simp [Value.oneCell']; done)); (focus (simp; done)); clear hS; intro w hS; simp at hS; try simp only [putW]) | (refine alloc hS rfl rfl ?_; clear hS; intro mb w hS; simp only [putW]) | (refine box1 hS rfl rfl rfl rfl ?_; clear hS; intro mb w hS; try simp only [evW, putW] at hS; simp only [putW]) | (refine boxN hS rfl rfl rfl ?_; clear hS; intro mb w hS; simp only [putW]))
    refine ⟨?_⟩
    refine (played_any (hL.mono hS.base) (hK.mono hS.base) hsm).mono ?_
    have hS0 := hS
    clear hS hsm
    rintro _ w1 ⟨l, xl, X, Y, Z, xp, xs, xo, rfl, hok, hS1⟩
    have hS := hS1.conv (S' := [(l, LogF (psOf X) (tsOf Y) (tsOf Z)), (xl, cells #[xp, xs, xo] 41), (blk xs, sl 15 tupF Y 46 xs), (blk xo, sl 15 tupF Z 46 xo)])
    clear hS1
    have HOK : Bx _ := ⟨hok⟩
    have hYl : Y.length ≤ 1000000 := Nat.le_trans hok.ly (by omega)
    have hZl : Z.length ≤ 1000000 := Nat.le_trans hok.lz (by omega)
    have hSl : (tsOf Y).length ≤ 1000000 := by rw [List.length_map]; exact hYl
    have hOl : (tsOf Z).length ≤ 1000000 := by rw [List.length_map]; exact hZl
    have HSO : Bx _ := ⟨tups_ok hok.ry⟩
    have HOO : Bx _ := ⟨tups_ok hok.rz⟩
    clear hok
    obtain ⟨pz, hpz⟩ : ∃ pz, tupF (.slice none 0 0, .slice none 0 0, zT) = pz := ⟨_, rfl⟩
    have Hpz : Bx _ := ⟨hpz⟩
    have Hpzl : Bx (pz.length = 15) := ⟨by rw [← hpz]; rfl⟩
    have Hpzc : Bx (∀ u ∈ pz, u.oneCell' = true) := ⟨by rw [← hpz]; exact tupF_cell rfl rfl⟩
    have Hpze : Bx ((Value.agg #[.int .u32 0, .int .u8 0, .int .u8 0, .int .u8 0, .int .u8 0, .int .u8 0, .int .u8 0, .int .u8 0, .int .u8 0, .int .u8 0, .int .u8 0, .int .u8 0, .int .u8 0, .slice none 0 0, .slice none 0 0]) = .agg pz.toArray) := ⟨by rw [← hpz]; rfl⟩
    have hzz : eqT zT zT = true := by decide
    clear hpz
    simp only [putW]
    go_wp2_with (first | (guard_target =~ Calls _ 15 _ _ _; refine Stopped.out ?_) | (refine load1 hS rfl rfl rfl rfl ?_; simp only [putW]) | (refine loadAll hS rfl rfl rfl ?_ ?_; rfl; simp only [putW]) | (refine loadPart hS rfl rfl rfl ?_ rfl ?_; rfl; simp only [putW]) | (refine store1 hS rfl rfl rfl rfl rfl ?_ ?_; (focus (simp; done)); clear hS; intro w hS; simp only [evW, putW] at hS; try simp only [putW]) | (refine storeAll hS rfl rfl rfl rfl ?_ ?_ ?_ ?_; rfl; (focus (simp [Value.oneCell']; done)); rfl; clear hS; intro w hS; try simp only [putW]) | (refine storeN hS rfl rfl rfl rfl ?_ ?_ ?_ ?_; rfl; (focus (simp [Value.oneCell']; done)); (focus (simp; done)); clear hS; intro w hS; simp at hS; try simp only [putW]) | (refine alloc hS rfl rfl ?_; clear hS; intro mb w hS; simp only [putW]) | (refine box1 hS rfl rfl rfl rfl ?_; clear hS; intro mb w hS; try simp only [evW, putW] at hS; simp only [putW]) | (refine boxN hS rfl rfl rfl ?_; clear hS; intro mb w hS; simp only [putW]))
    refine ⟨?_⟩
    refine (refForged_any HOK.out.ry HOK.out.rz hYl hZl (hS.conv (S' := [(xl, cells #[xp, xs, xo] 41), (blk xs, sl 15 tupF Y 46 xs), (blk xo, sl 15 tupF Z 46 xo), (l, LogF (psOf X) (tsOf Y) (tsOf Z))]))).mono ?_
    clear hS
    rintro _ w4 ⟨⟨rfl, hno⟩ | ⟨j, t, rfl, hf⟩, hS⟩
    · simp only [putW]
      go_wp2_with (first | (guard_target =~ Calls _ 16 _ _ _; refine Stopped.out ?_) | (refine load1 hS rfl rfl rfl rfl ?_; simp only [putW]) | (refine loadAll hS rfl rfl rfl ?_ ?_; rfl; simp only [putW]) | (refine loadPart hS rfl rfl rfl ?_ rfl ?_; rfl; simp only [putW]) | (refine store1 hS rfl rfl rfl rfl rfl ?_ ?_; (focus (simp; done)); clear hS; intro w hS; simp only [evW, putW] at hS; try simp only [putW]) | (refine storeAll hS rfl rfl rfl rfl ?_ ?_ ?_ ?_; rfl; (focus (simp [Value.oneCell']; done)); rfl; clear hS; intro w hS; try simp only [putW]) | (refine storeN hS rfl rfl rfl rfl ?_ ?_ ?_ ?_; rfl; (focus (simp [Value.oneCell']; done)); (focus (simp; done)); clear hS; intro w hS; simp at hS; try simp only [putW]) | (refine alloc hS rfl rfl ?_; clear hS; intro mb w hS; simp only [putW]) | (refine box1 hS rfl rfl rfl rfl ?_; clear hS; intro mb w hS; try simp only [evW, putW] at hS; simp only [putW]) | (refine boxN hS rfl rfl rfl ?_; clear hS; intro mb w hS; simp only [putW]))
      refine ⟨?_⟩
      refine (forgedF HSO.out HOO.out hSl hOl (hS.pull l (X := LogF (psOf X) (tsOf Y) (tsOf Z)))).mono ?_
      clear hS
      rintro _ w3 (⟨rfl, hn, hS⟩ | ⟨j', t', q1, c1, q2, c2, hf', rfl, hS⟩)
      case inr =>
        have hj := (List.getElem?_eq_some_iff.1 hf'.1).1
        rw [List.length_map] at hj
        exact (forged_none hf' hno hj).elim
      clear hn hno
      rw [Hpz.out]
      simp only [putW]
      go_wp2_with (first | (refine alloc (t := 46) hS rfl rfl ?_; clear hS; intro m7 w hS; simp only [putW]) | (refine storeAll (cs := pz.toArray) hS rfl rfl rfl rfl ?_ ?_ ?_ ?_; (focus exact Hpzl.out); (focus exact Hpzc.out); (focus rfl); clear hS; intro w hS; try simp only [putW]) | (refine loadAll (c := pz.toArray) hS rfl rfl rfl Hpzl.out ?_; simp only [putW]) | (guard_target =~ Calls _ 17 _ _ _; refine Stopped.out ?_) | (refine load1 hS rfl rfl rfl rfl ?_; simp only [putW]) | (refine loadAll hS rfl rfl rfl ?_ ?_; rfl; simp only [putW]) | (refine loadPart hS rfl rfl rfl ?_ rfl ?_; rfl; simp only [putW]) | (refine store1 hS rfl rfl rfl rfl rfl ?_ ?_; (focus (simp; done)); clear hS; intro w hS; simp only [evW, putW] at hS; try simp only [putW]) | (refine storeAll hS rfl rfl rfl rfl ?_ ?_ ?_ ?_; rfl; (focus (simp [Value.oneCell']; done)); rfl; clear hS; intro w hS; try simp only [putW]) | (refine storeN hS rfl rfl rfl rfl ?_ ?_ ?_ ?_; rfl; (focus (simp [Value.oneCell']; done)); (focus (simp; done)); clear hS; intro w hS; simp at hS; try simp only [putW]) | (refine alloc hS rfl rfl ?_; clear hS; intro mb w hS; simp only [putW]) | (refine box1 hS rfl rfl rfl rfl ?_; clear hS; intro mb w hS; try simp only [evW, putW] at hS; simp only [putW]) | (refine boxN hS rfl rfl rfl ?_; clear hS; intro mb w hS; simp only [putW]))
      refine ⟨?_⟩
      rw [Hpze.out]
      (refine Calls.mono (sameT_any Hpz.out Hpz.out (zT_rd _) (zT_rd _)) ?_; rintro _ w2 ⟨rfl, h2⟩; replace hS := hS.frame h2; clear h2; (try simp only [List.cons_append, List.nil_append] at hS); simp only [putW])
      rw [hzz]
      go_wp2_with (first | (go_at_call 10; refine Calls.mono (awakeG_any) ?_; rintro _ w2 ⟨rfl, h2⟩; replace hS := hS.frame h2; clear h2; (try simp only [List.cons_append, List.nil_append] at hS); simp only [putW]) | (refine load1 hS rfl rfl rfl rfl ?_; simp only [putW]) | (refine loadAll hS rfl rfl rfl ?_ ?_; rfl; simp only [putW]) | (refine loadPart hS rfl rfl rfl ?_ rfl ?_; rfl; simp only [putW]) | (refine store1 hS rfl rfl rfl rfl rfl ?_ ?_; (focus (simp; done)); clear hS; intro w hS; simp only [evW, putW] at hS; try simp only [putW]) | (refine storeAll hS rfl rfl rfl rfl ?_ ?_ ?_ ?_; rfl; (focus (simp [Value.oneCell']; done)); rfl; clear hS; intro w hS; try simp only [putW]) | (refine storeN hS rfl rfl rfl rfl ?_ ?_ ?_ ?_; rfl; (focus (simp [Value.oneCell']; done)); (focus (simp; done)); clear hS; intro w hS; simp at hS; try simp only [putW]) | (refine alloc hS rfl rfl ?_; clear hS; intro mb w hS; simp only [putW]) | (refine box1 hS rfl rfl rfl rfl ?_; clear hS; intro mb w hS; try simp only [evW, putW] at hS; simp only [putW]) | (refine boxN hS rfl rfl rfl ?_; clear hS; intro mb w hS; simp only [putW]))
      go_ret
      exact ⟨rfl, (hS0.frame hS).nothing⟩
    · have Hf : Bx _ := ⟨hf⟩
      clear hf
      have hge : decide ((0 : Int) ≤ (j : Int)) = true := decide_eq_true (by omega)
      simp only [putW]
      go_wp2_with (first | (guard_target =~ Calls _ 16 _ _ _; refine Stopped.out ?_) | (refine load1 hS rfl rfl rfl rfl ?_; simp only [putW]) | (refine loadAll hS rfl rfl rfl ?_ ?_; rfl; simp only [putW]) | (refine loadPart hS rfl rfl rfl ?_ rfl ?_; rfl; simp only [putW]) | (refine store1 hS rfl rfl rfl rfl rfl ?_ ?_; (focus (simp; done)); clear hS; intro w hS; simp only [evW, putW] at hS; try simp only [putW]) | (refine storeAll hS rfl rfl rfl rfl ?_ ?_ ?_ ?_; rfl; (focus (simp [Value.oneCell']; done)); rfl; clear hS; intro w hS; try simp only [putW]) | (refine storeN hS rfl rfl rfl rfl ?_ ?_ ?_ ?_; rfl; (focus (simp [Value.oneCell']; done)); (focus (simp; done)); clear hS; intro w hS; simp at hS; try simp only [putW]) | (refine alloc hS rfl rfl ?_; clear hS; intro mb w hS; simp only [putW]) | (refine box1 hS rfl rfl rfl rfl ?_; clear hS; intro mb w hS; try simp only [evW, putW] at hS; simp only [putW]) | (refine boxN hS rfl rfl rfl ?_; clear hS; intro mb w hS; simp only [putW]))
      refine ⟨?_⟩
      refine (forgedF HSO.out HOO.out hSl hOl (hS.pull l (X := LogF (psOf X) (tsOf Y) (tsOf Z)))).mono ?_
      clear hS
      rintro _ w3 (⟨rfl, hn, hS⟩ | ⟨j', t', q1, c1, q2, c2, hf', rfl, hS⟩)
      · have hj := (List.getElem?_eq_some_iff.1 Hf.out.1).1
        exact (forged_none Hf.out hn hj).elim
      obtain ⟨e1, e2⟩ := forged_same hf' Hf.out
      subst e1 e2
      clear hf'
      obtain ⟨z, hz, hzt⟩ := tsOf_inv Hf.out.1
      have hzr := HOK.out.rz z (List.mem_of_getElem? hz)
      subst hzt
      obtain ⟨pn, hpn⟩ : ∃ pn, tupF (.slice q1 z.2.2.2.2.1.length c1, .slice q2 z.2.2.2.2.2.length c2, z.2.2) = pn := ⟨_, rfl⟩
      obtain ⟨py, hpy⟩ : ∃ py, tupF z = py := ⟨_, rfl⟩
      have Hpn : Bx _ := ⟨hpn⟩
      have Hpy : Bx _ := ⟨hpy⟩
      have Hpnl : Bx (pn.length = 15) := ⟨by rw [← hpn]; exact tupF_len hzr.ok.2.1.1⟩
      have Hpnc : Bx (∀ u ∈ pn, u.oneCell' = true) := ⟨by rw [← hpn]; exact tupF_cell rfl rfl⟩
      have Hpyl : Bx (py.length = 15) := ⟨by rw [← hpy]; exact tupF_len hzr.ok.2.1.1⟩
      have HZR : Bx _ := ⟨hzr⟩
      obtain ⟨n, hn⟩ : ∃ n, Z.length = n := ⟨_, rfl⟩
      have hjn : j < n := by rw [← hn]; exact (List.getElem?_eq_some_iff.1 hz).1
      have hjni : (j : Int) < (n : Int) := by omega
      obtain ⟨g, cap, e1, hS2⟩ := (hS.pull (blk xo) (X := sl 15 tupF Z 46 xo)).slFormC n hn (by omega)
      subst e1
      have HTR : ∀ {w' : World} {S1 F1 F2 : List Chunk} {b1 b2 : Nat} [PullSl S1 (.slice q1 z.2.2.2.2.1.length c1) b1 1 by8 z.2.2.2.2.1 5 F1] [PullSl S1 (.slice q2 z.2.2.2.2.2.length c2) b2 1 by8 z.2.2.2.2.2 5 F2], Sat w2 S1 w' → TupRd w' (.slice q1 z.2.2.2.2.1.length c1, .slice q2 z.2.2.2.2.2.length c2, z.2.2) := fun h => ⟨HZR.out.ok, h.readsSl HZR.out.ra.all, h.readsSl HZR.out.rs.all⟩
      have heq : eqT z.2.2 z.2.2 = true := by unfold eqT; exact decide_eq_true rfl
      have HEQ : Bx _ := ⟨heq⟩
      clear hS hn hzr hpy heq
      have hS := hS2.conv (S' := [(g, slc 15 tupF Z cap 46), (blk (.slice q1 z.2.2.2.2.1.length c1), sl 1 by8 z.2.2.2.2.1 5 (.slice q1 z.2.2.2.2.1.length c1)), (blk (.slice q2 z.2.2.2.2.2.length c2), sl 1 by8 z.2.2.2.2.2 5 (.slice q2 z.2.2.2.2.2.length c2)), (xl, cells #[xp, xs, .slice (some ⟨g, 0, none⟩) n cap] 41)])
      clear hS2
      rw [hpn]
      clear hpn
      simp only [putW]
      go_upto_region 10 with (first | (refine alloc (t := 46) hS rfl rfl ?_; clear hS; intro m7 w hS; simp only [putW]) | (refine storeAll (cs := pn.toArray) hS rfl rfl rfl rfl ?_ ?_ ?_ ?_; (focus exact Hpnl.out); (focus exact Hpnc.out); (focus rfl); clear hS; intro w hS; try simp only [putW]) | (refine load1 hS rfl rfl rfl rfl ?_; simp only [putW]) | (refine loadAll hS rfl rfl rfl ?_ ?_; rfl; simp only [putW]) | (refine loadPart hS rfl rfl rfl ?_ rfl ?_; rfl; simp only [putW]) | (refine store1 hS rfl rfl rfl rfl rfl ?_ ?_; (focus (simp; done)); clear hS; intro w hS; simp only [evW, putW] at hS; try simp only [putW]) | (refine storeAll hS rfl rfl rfl rfl ?_ ?_ ?_ ?_; rfl; (focus (simp [Value.oneCell']; done)); rfl; clear hS; intro w hS; try simp only [putW]) | (refine storeN hS rfl rfl rfl rfl ?_ ?_ ?_ ?_; rfl; (focus (simp [Value.oneCell']; done)); (focus (simp; done)); clear hS; intro w hS; simp at hS; try simp only [putW]) | (refine alloc hS rfl rfl ?_; clear hS; intro mb w hS; simp only [putW]) | (refine box1 hS rfl rfl rfl rfl ?_; clear hS; intro mb w hS; try simp only [evW, putW] at hS; simp only [putW]) | (refine boxN hS rfl rfl rfl ?_; clear hS; intro mb w hS; simp only [putW]))
      (refine region_quiet hS (by kernel_rfl) (by kernel_rfl) (by kernel_rfl) ?_; clear hS; (repeat (apply quiet_step; (focus (intro w hS; go_wp2_with (first | (refine loadAll (c := pn.toArray) hS rfl rfl rfl Hpnl.out ?_; simp only [putW]) | (refine loadSN (f := tupF) (vs := py) hS rfl rfl rfl j 0 ?_ hz ?_ ?_ ?_; (focus omega); (focus omega); (focus (rw [List.drop_zero, Hpy.out, List.take_of_length_le (by rw [Hpyl.out]; omega)])); simp only [putW]) | ((go_at_call 17; refine Calls.mono (sameT_any Hpn.out Hpy.out (HTR hS) (HZR.out.mono hS.base)) ?_; rintro _ w2 ⟨rfl, h2⟩; replace hS := hS.frame h2; clear h2; (try simp only [List.cons_append, List.nil_append] at hS); simp only [putW]); rw [HEQ.out]) | (go_at_call 10; refine Calls.mono (awakeG_any) ?_; rintro _ w2 ⟨rfl, h2⟩; replace hS := hS.frame h2; clear h2; (try simp only [List.cons_append, List.nil_append] at hS); simp only [putW]) | (refine load1 hS rfl rfl rfl rfl ?_; simp only [putW]) | (refine loadAll hS rfl rfl rfl ?_ ?_; rfl; simp only [putW]) | (refine loadPart hS rfl rfl rfl ?_ rfl ?_; rfl; simp only [putW])); exact ⟨rfl, rfl, hS⟩)); simp only [putW])); refine quiet_nil ?_; intro w hS)
      go_wp2_with (first | (refine load1 hS rfl rfl rfl rfl ?_; simp only [putW]) | (refine loadAll hS rfl rfl rfl ?_ ?_; rfl; simp only [putW]) | (refine loadPart hS rfl rfl rfl ?_ rfl ?_; rfl; simp only [putW]) | (refine store1 hS rfl rfl rfl rfl rfl ?_ ?_; (focus (simp; done)); clear hS; intro w hS; simp only [evW, putW] at hS; try simp only [putW]) | (refine storeAll hS rfl rfl rfl rfl ?_ ?_ ?_ ?_; rfl; (focus (simp [Value.oneCell']; done)); rfl; clear hS; intro w hS; try simp only [putW]) | (refine storeN hS rfl rfl rfl rfl ?_ ?_ ?_ ?_; rfl; (focus (simp [Value.oneCell']; done)); (focus (simp; done)); clear hS; intro w hS; simp at hS; try simp only [putW]) | (refine alloc hS rfl rfl ?_; clear hS; intro mb w hS; simp only [putW]) | (refine box1 hS rfl rfl rfl rfl ?_; clear hS; intro mb w hS; try simp only [evW, putW] at hS; simp only [putW]) | (refine boxN hS rfl rfl rfl ?_; clear hS; intro mb w hS; simp only [putW]))
      go_ret
      exact ⟨rfl, (hS0.frame hS).nothing⟩
end
end Go.Proofs.YteoidocicjlglaaDoor.GhostForgesDone
