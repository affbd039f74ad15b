/-
  GhostKeeps: the walk.
-/
import Derived.Test.YteoidocicjlglaaDoorGhPlay
import Derived.Test.YteoidocicjlglaaDoorGhAwake
import Derived.Test.YteoidocicjlglaaDoorSlB
set_option linter.unusedSimpArgs false
set_option linter.unusedVariables false
namespace Go.Proofs.YteoidocicjlglaaDoor.GhostKeepsDone
open Go.RowKit Go.Proofs.YteoidocicjlglaaDoor Go.Proofs.YteoidocicjlglaaDoor.Sl Go.Proofs.YteoidocicjlglaaDoor.Sha Go.Proofs.YteoidocicjlglaaDoor.Jp

theorem tups_ok {w : World} {Y : List TupV} (h : ∀ y ∈ Y, TupRd w y) : ∀ t ∈ tsOf Y, TupOk t := fun t ht => by
  obtain ⟨y, hy, rfl⟩ := List.mem_map.1 ht
  exact (h y hy).ok
theorem tsOf_inv {Y : List TupV} {i : Nat} {t : Tup} (h : (tsOf Y)[i]? = some t) : ∃ y, Y[i]? = some y ∧ y.2.2 = t := by
  rw [List.getElem?_map] at h
  exact Option.map_eq_some_iff.1 h
theorem zT_rd (w : World) : TupRd w (.slice none 0 0, .slice none 0 0, zT) := by
  refine ⟨⟨⟨by decide, by decide⟩, ⟨rfl, fun b hb => ?_⟩, ⟨by decide, fun b hb => by cases hb⟩, by decide, fun b hb => by cases hb⟩, okNil w, okNil w⟩
  have : b = 0 := by simpa [zT] using hb
  subst this
  unfold okByte
  omega
/-- The rows from a place on are as they were. -/
def RowsOk (B B' : List (Value × List Int)) (j : Nat) : Prop := B'.length = B.length ∧ ∀ k, j ≤ k → B'[k]? = B[k]?
theorem RowsOk.next {B B' : List (Value × List Int)} {j : Nat} (h : RowsOk B B' j) (x : Value × List Int) : RowsOk B (B'.set j x) (j + 1) :=
  ⟨by rw [List.length_set]; exact h.1, fun k hk => by rw [List.getElem?_set_ne (by omega)]; exact h.2 k (by omega)⟩
section
variable {w0 w : World} {K : List Chunk} {l : Nat} {Ps : List (List Int × List Int)} {Ss Os : List Tup}
/-- What is told as forged: a tuple in memory of its own, or the empty one. -/
theorem forgedAny (hs : ∀ t ∈ Ss, TupOk t) (ho : ∀ t ∈ Os, TupOk t) (hsl : Ss.length ≤ 1000000) (hol : Os.length ≤ 1000000) (hS : Sat w0 ((l, LogF Ps Ss Os) :: K) w) :
    Calls Tryd.prog 16 #[.pointer (some ⟨l, 0, none⟩)] w fun e w' => ∃ (pn : List Value) (b : Bool) (q : Option Addr) (c : Nat) (T : List Int), e = .returned (.tuple #[.agg pn.toArray, .bool b]) ∧ pn[14]? = some (.slice q T.length c) ∧ pn.length = 15 ∧ (∀ u ∈ pn, u.oneCell' = true) ∧ T.length ≤ 100000000000 ∧
      Sat w0 ((blk (.slice q T.length c), sl 1 by8 T 5 (.slice q T.length c)) :: (l, LogF Ps Ss Os) :: K) w' := by
  refine (forgedF hs ho hsl hol hS).mono ?_
  rintro _ w' (⟨rfl, -, h⟩ | ⟨j, t, q1, c1, q2, c2, hf, rfl, h⟩)
  · exact ⟨_, false, none, 0, [], rfl, rfl, rfl, tupF_cell rfl rfl, by simp, h.slNil 1 by8 5⟩
  · have hok := ho t (List.mem_of_getElem? hf.1)
    exact ⟨_, true, q2, c2, t.2.2.2, rfl, (tupIn (x := (.slice q1 t.2.2.1.length c1, .slice q2 t.2.2.2.length c2, t)) hok.2.1.1).sea, tupF_len hok.2.1.1, tupF_cell rfl rfl, hok.2.2.2.1, h.tail.perm (List.Perm.refl _)⟩
end
section
variable {w0 : World} {va : Value} {L : List ActV}
set_option maxRecDepth 100000 in
set_option maxHeartbeats 4000000 in
theorem core (hL : RA w0 L va) (hK : KTab w0) : Calls Tryd.prog 7 #[va] w0 fun e w' => e = .returned (.bool true) ∧ Sat w0 [] w' := by
  have hS := Sat.refl w0
  go_enter Tryd.func7, Tryd.ntmps7
  go_wp2_with (first | (guard_target =~ Calls _ 9 _ _ _; refine Stopped.out ?_) | (refine load1 hS rfl rfl rfl rfl ?_; simp only [putW]) | (refine loadAll hS rfl rfl rfl ?_ ?_; rfl; simp only [putW]) | (refine loadPart hS rfl rfl rfl ?_ rfl ?_; rfl; simp only [putW]) | (refine store1 hS rfl rfl rfl rfl rfl ?_ ?_; (focus (simp; done)); clear hS; intro w hS; simp only [evW, putW] at hS; try simp only [putW]) | (refine storeAll hS rfl rfl rfl rfl ?_ ?_ ?_ ?_; rfl; (focus (simp [Value.oneCell']; done)); rfl; clear hS; intro w hS; try simp only [putW]) | (refine storeN hS rfl rfl rfl rfl ?_ ?_ ?_ ?_; rfl; (focus (simp [Value.oneCell']; done)); (focus (simp; done)); clear hS; intro w hS; simp at hS; try simp only [putW]) | (refine alloc hS rfl rfl ?_; clear hS; intro mb w hS; simp only [putW]) | (refine box1 hS rfl rfl rfl rfl ?_; clear hS; intro mb w hS; try simp only [evW, putW] at hS; simp only [putW]) | (refine boxN hS rfl rfl rfl ?_; clear hS; intro mb w hS; simp only [putW]))
  refine ⟨?_⟩
  (refine Calls.mono (greatA_any (hL.mono hS.base)) ?_; rintro _ w2 ⟨r1, rfl, hr1, h2⟩; replace hS := hS.frame h2; clear h2; (try simp only [List.cons_append, List.nil_append] at hS); simp only [putW])
  cases r1 with
  | true =>
    go_wp2_with (first | (go_at_call 10; refine Calls.mono (awakeG_any) ?_; rintro _ w2 ⟨rfl, h2⟩; replace hS := hS.frame h2; clear h2; (try simp only [List.cons_append, List.nil_append] at hS); simp only [putW]) | (refine load1 hS rfl rfl rfl rfl ?_; simp only [putW]) | (refine loadAll hS rfl rfl rfl ?_ ?_; rfl; simp only [putW]) | (refine loadPart hS rfl rfl rfl ?_ rfl ?_; rfl; simp only [putW]) | (refine store1 hS rfl rfl rfl rfl rfl ?_ ?_; (focus (simp; done)); clear hS; intro w hS; simp only [evW, putW] at hS; try simp only [putW]) | (refine storeAll hS rfl rfl rfl rfl ?_ ?_ ?_ ?_; rfl; (focus (simp [Value.oneCell']; done)); rfl; clear hS; intro w hS; try simp only [putW]) | (refine storeN hS rfl rfl rfl rfl ?_ ?_ ?_ ?_; rfl; (focus (simp [Value.oneCell']; done)); (focus (simp; done)); clear hS; intro w hS; simp at hS; try simp only [putW]) | (refine alloc hS rfl rfl ?_; clear hS; intro mb w hS; simp only [putW]) | (refine box1 hS rfl rfl rfl rfl ?_; clear hS; intro mb w hS; try simp only [evW, putW] at hS; simp only [putW]) | (refine boxN hS rfl rfl rfl ?_; clear hS; intro mb w hS; simp only [putW]))
    go_ret
    exact ⟨rfl, hS⟩
  | false =>
    have hsm := hr1 (by simp)
    clear hr1
    go_wp2_with (first | (guard_target =~ Calls _ 11 _ _ _; refine Stopped.out ?_) | (refine load1 hS rfl rfl rfl rfl ?_; simp only [putW]) | (refine loadAll hS rfl rfl rfl ?_ ?_; rfl; simp only [putW]) | (refine loadPart hS rfl rfl rfl ?_ rfl ?_; rfl; simp only [putW]) | (refine store1 hS rfl rfl rfl rfl rfl ?_ ?_; (focus (simp; done)); clear hS; intro w hS; simp only [evW, putW] at hS; try simp only [putW]) | (refine storeAll hS rfl rfl rfl rfl ?_ ?_ ?_ ?_; rfl; (focus (simp [Value.oneCell']; done)); rfl; clear hS; intro w hS; try simp only [putW]) | (refine storeN hS rfl rfl rfl rfl ?_ ?_ ?_ ?_; rfl; (focus (simp [Value.oneCell']; done)); (focus (simp; done)); clear hS; intro w hS; simp at hS; try simp only [putW]) | (refine alloc hS rfl rfl ?_; clear hS; intro mb w hS; simp only [putW]) | (refine box1 hS rfl rfl rfl rfl ?_; clear hS; intro mb w hS; try simp only [evW, putW] at hS; simp only [putW]) | (refine boxN hS rfl rfl rfl ?_; clear hS; intro mb w hS; simp only [putW]))
    refine ⟨?_⟩
    refine (played_any (hL.mono hS.base) (hK.mono hS.base) hsm).mono ?_
    have hS0 := hS
    clear hS hsm
    rintro _ w1 ⟨l, xl, X, Y, Z, xp, xs, xo, rfl, hok, hS1⟩
    obtain ⟨qp, cp, e1⟩ := slShape (hS1.pull (blk xp) (X := sl 33 pairF X 37 xp))
    obtain ⟨qs, cs, e2⟩ := slShape (hS1.pull (blk xs) (X := sl 15 tupF Y 46 xs))
    obtain ⟨qo, co, e3⟩ := slShape (hS1.pull (blk xo) (X := sl 15 tupF Z 46 xo))
    have HOK : Bx _ := ⟨hok⟩
    have hYl : Y.length ≤ 1000000 := Nat.le_trans hok.ly (by omega)
    have hSl : (tsOf Y).length ≤ 1000000 := by rw [List.length_map]; exact hYl
    have hOl : (tsOf Z).length ≤ 1000000 := by rw [List.length_map]; exact Nat.le_trans hok.lz (by omega)
    have HSO : Bx _ := ⟨tups_ok hok.ry⟩
    have HOO : Bx _ := ⟨tups_ok hok.rz⟩
    clear hok
    obtain ⟨nX, hnX⟩ : ∃ n, X.length = n := ⟨_, rfl⟩
    obtain ⟨nY, hnY⟩ : ∃ n, Y.length = n := ⟨_, rfl⟩
    obtain ⟨nZ, hnZ⟩ : ∃ n, Z.length = n := ⟨_, rfl⟩
    rw [hnX] at e1
    rw [hnY] at e2 hYl
    rw [hnZ] at e3
    subst e1 e2 e3
    have HX : Bx ((psOf X).length = nX) := ⟨by rw [List.length_map]; exact hnX⟩
    have HY : Bx ((tsOf Y).length = nY) := ⟨by rw [List.length_map]; exact hnY⟩
    have HZ : Bx ((tsOf Z).length = nZ) := ⟨by rw [List.length_map]; exact hnZ⟩
    have HnY : Bx _ := ⟨hnY⟩
    have hS := hS1.conv (S' := (l, LogF (psOf X) (tsOf Y) (tsOf Z)) :: (xl, cells #[.slice qp nX cp, .slice qs nY cs, .slice qo nZ co] 41) :: (blk (.slice qs nY cs), sl 15 tupF Y 46 (.slice qs nY cs)) :: [])
    clear hS1 hnX hnY hnZ
    simp only [putW]
    go_wp2_with (first | (refine load1 hS rfl rfl rfl rfl ?_; simp only [putW]) | (refine loadAll hS rfl rfl rfl ?_ ?_; rfl; simp only [putW]) | (refine loadPart hS rfl rfl rfl ?_ rfl ?_; rfl; simp only [putW]) | (refine store1 hS rfl rfl rfl rfl rfl ?_ ?_; (focus (simp; done)); clear hS; intro w hS; simp only [evW, putW] at hS; try simp only [putW]) | (refine storeAll hS rfl rfl rfl rfl ?_ ?_ ?_ ?_; rfl; (focus (simp [Value.oneCell']; done)); rfl; clear hS; intro w hS; try simp only [putW]) | (refine storeN hS rfl rfl rfl rfl ?_ ?_ ?_ ?_; rfl; (focus (simp [Value.oneCell']; done)); (focus (simp; done)); clear hS; intro w hS; simp at hS; try simp only [putW]) | (refine alloc hS rfl rfl ?_; clear hS; intro mb w hS; simp only [putW]) | (refine box1 hS rfl rfl rfl rfl ?_; clear hS; intro mb w hS; try simp only [evW, putW] at hS; simp only [putW]) | (refine boxN hS rfl rfl rfl ?_; clear hS; intro mb w hS; simp only [putW]))
    go_loopg [6] 2 (fun g i wr => ∃ k : Nat, k + g = 2 ∧ i = .int .i64 k ∧ Sat w2 ((l, LogF (psOf X) (tsOf Y) (tsOf Z)) :: (xl, cells #[.slice qp nX cp, .slice qs nY cs, .slice qo nZ co] 41) :: (blk (.slice qs nY cs), sl 15 tupF Y 46 (.slice qs nY cs)) :: []) wr)
    case atStart => exact ⟨0, by omega, rfl, hS⟩
    case round =>
      clear hS
      obtain ⟨k, hkg, rfl, hS⟩ := hrel
      cases gk with
      | succ g =>
        have hk2 : k < 2 := by omega
        go_wp2_with (first | (guard_target =~ Calls _ 23 _ _ _; refine Stopped.out ?_) | (refine load1 hS rfl rfl rfl rfl ?_; simp only [putW]) | (refine loadAll hS rfl rfl rfl ?_ ?_; rfl; simp only [putW]) | (refine loadPart hS rfl rfl rfl ?_ rfl ?_; rfl; simp only [putW]) | (refine store1 hS rfl rfl rfl rfl rfl ?_ ?_; (focus (simp; done)); clear hS; intro w hS; simp only [evW, putW] at hS; try simp only [putW]) | (refine storeAll hS rfl rfl rfl rfl ?_ ?_ ?_ ?_; rfl; (focus (simp [Value.oneCell']; done)); rfl; clear hS; intro w hS; try simp only [putW]) | (refine storeN hS rfl rfl rfl rfl ?_ ?_ ?_ ?_; rfl; (focus (simp [Value.oneCell']; done)); (focus (simp; done)); clear hS; intro w hS; simp at hS; try simp only [putW]) | (refine alloc hS rfl rfl ?_; clear hS; intro mb w hS; simp only [putW]) | (refine box1 hS rfl rfl rfl rfl ?_; clear hS; intro mb w hS; try simp only [evW, putW] at hS; simp only [putW]) | (refine boxN hS rfl rfl rfl ?_; clear hS; intro mb w hS; simp only [putW]))
        refine ⟨?_⟩
        (refine Calls.mono (countF hS) ?_; clear hS; rintro _ w ⟨rfl, hS⟩; simp only [putW])
        rw [HX.out, HY.out, HZ.out]
        go_wp2_with (first | (guard_target =~ Calls _ 24 _ _ _; refine Stopped.out ?_) | (refine load1 hS rfl rfl rfl rfl ?_; simp only [putW]) | (refine loadAll hS rfl rfl rfl ?_ ?_; rfl; simp only [putW]) | (refine loadPart hS rfl rfl rfl ?_ rfl ?_; rfl; simp only [putW]) | (refine store1 hS rfl rfl rfl rfl rfl ?_ ?_; (focus (simp; done)); clear hS; intro w hS; simp only [evW, putW] at hS; try simp only [putW]) | (refine storeAll hS rfl rfl rfl rfl ?_ ?_ ?_ ?_; rfl; (focus (simp [Value.oneCell']; done)); rfl; clear hS; intro w hS; try simp only [putW]) | (refine storeN hS rfl rfl rfl rfl ?_ ?_ ?_ ?_; rfl; (focus (simp [Value.oneCell']; done)); (focus (simp; done)); clear hS; intro w hS; simp at hS; try simp only [putW]) | (refine alloc hS rfl rfl ?_; clear hS; intro mb w hS; simp only [putW]) | (refine box1 hS rfl rfl rfl rfl ?_; clear hS; intro mb w hS; try simp only [evW, putW] at hS; simp only [putW]) | (refine boxN hS rfl rfl rfl ?_; clear hS; intro mb w hS; simp only [putW]))
        refine ⟨?_⟩
        (refine Calls.mono (blocksF HSO.out hSl hS) ?_; clear hS; rintro _ w ⟨v, B, rfl, hB, hS⟩; simp only [putW])
        obtain ⟨qb, cb, e1⟩ := slShape hS
        have hBn : B.length = nY := by have h := congrArg List.length hB; rw [List.length_map, List.length_map, HY.out] at h; exact h
        rw [hBn] at e1
        subst e1
        have HB : Bx _ := ⟨hB⟩
        have HBn : Bx _ := ⟨hBn⟩
        clear hB hBn
        go_wp2_with (first | (refine load1 hS rfl rfl rfl rfl ?_; simp only [putW]) | (refine loadAll hS rfl rfl rfl ?_ ?_; rfl; simp only [putW]) | (refine loadPart hS rfl rfl rfl ?_ rfl ?_; rfl; simp only [putW]) | (refine store1 hS rfl rfl rfl rfl rfl ?_ ?_; (focus (simp; done)); clear hS; intro w hS; simp only [evW, putW] at hS; try simp only [putW]) | (refine storeAll hS rfl rfl rfl rfl ?_ ?_ ?_ ?_; rfl; (focus (simp [Value.oneCell']; done)); rfl; clear hS; intro w hS; try simp only [putW]) | (refine storeN hS rfl rfl rfl rfl ?_ ?_ ?_ ?_; rfl; (focus (simp [Value.oneCell']; done)); (focus (simp; done)); clear hS; intro w hS; simp at hS; try simp only [putW]) | (refine alloc hS rfl rfl ?_; clear hS; intro mb w hS; simp only [putW]) | (refine box1 hS rfl rfl rfl rfl ?_; clear hS; intro mb w hS; try simp only [evW, putW] at hS; simp only [putW]) | (refine boxN hS rfl rfl rfl ?_; clear hS; intro mb w hS; simp only [putW]))
        go_loopg [11] nY (fun g2 i wr => ∃ (j : Nat) (B' : List (Value × List Int)), j + g2 = nY ∧ i = .int .i64 j ∧ Bx (RowsOk B B' j) ∧ Sat w2 ((blk (.slice qb nY cb), sl 1 rowF B 31 (.slice qb nY cb)) :: (5, inn B' 5) :: (l, LogF (psOf X) (tsOf Y) (tsOf Z)) :: (xl, cells #[.slice qp nX cp, .slice qs nY cs, .slice qo nZ co] 41) :: (blk (.slice qs nY cs), sl 15 tupF Y 46 (.slice qs nY cs)) :: []) wr)
        case atStart => exact ⟨0, B, by omega, rfl, ⟨⟨rfl, fun _ _ => rfl⟩⟩, hS.conv⟩
        case round =>
          clear hS
          obtain ⟨j, B', hjg, rfl, hrows, hS⟩ := hrel
          cases gk with
          | succ g2 =>
            have hlt : j < nY := by omega
            have hlti : (j : Int) < (nY : Int) := by omega
            obtain ⟨⟨vb, A⟩, hb⟩ : ∃ y, B[j]? = some y := ⟨_, List.getElem?_eq_getElem (by rw [HBn.out]; exact hlt)⟩
            obtain ⟨y, hy⟩ : ∃ y, Y[j]? = some y := ⟨_, List.getElem?_eq_getElem (by rw [HnY.out]; exact hlt)⟩
            have hyr0 := HOK.out.ry y (List.mem_of_getElem? hy)
            have hAt : A = y.2.2.2.2.2 := by
              have h := congrArg (fun l => l[j]?) HB.out
              simp only [List.getElem?_map, hb, hy, Option.map_some] at h
              exact Option.some.inj h
            have hb' : B'[j]? = some (vb, A) := by rw [hrows.out.2 j (Nat.le_refl _)]; exact hb
            have hyr := HOK.out.ry y (List.mem_of_getElem? hy)
            have HYR : Bx _ := ⟨hyr⟩
            have Hy14 : Bx ((tupF y)[14]? = some y.2.1) := ⟨(tupIn hyr.ok.2.1.1).sea⟩
            have HAt : Bx _ := ⟨hAt⟩
            have Hb' : Bx _ := ⟨hb'⟩
            have HAb : Bx (∀ b ∈ A, okByte b) := ⟨by rw [hAt]; exact hyr.rs.all⟩
            obtain ⟨gb, cap, e1, hS2⟩ := hS.slFormC nY HBn.out (by omega)
            cases e1
            obtain ⟨gy, cap, e1, hS3⟩ := (hS2.pull (blk (.slice qs nY cs)) (X := sl 15 tupF Y 46 (.slice qs nY cs))).slFormC nY HnY.out (by omega)
            cases e1
            have hS4 := hS3.rowAt (j := 5) (X := B') hb'
            obtain ⟨qa, ca, e1⟩ := slShape hS4
            obtain ⟨na, hna⟩ : ∃ n, A.length = n := ⟨_, rfl⟩
            rw [hna] at e1
            subst e1
            have Hna : Bx _ := ⟨hna⟩
            have hnaL : na ≤ 100000000000 := by rw [← hna, hAt]; exact hyr0.ok.2.2.2.1
            clear hS hS2 hS3 hAt hb' hyr hyr0 hna
            have hS := hS4.conv (S' := (blk (.slice qa na ca), sl 1 by8 A 5 (.slice qa na ca)) :: (gb, slc 1 rowF B cb 31) :: (5, inn (B'.take j ++ B'.drop (j + 1)) 5) :: (l, LogF (psOf X) (tsOf Y) (tsOf Z)) :: (xl, cells #[.slice qp nX cp, .slice (some ⟨gy, 0, none⟩) nY cs, .slice qo nZ co] 41) :: (gy, slc 15 tupF Y cs 46) :: [])
            clear hS4
            go_upto_region 14 with (first | (refine load1 hS rfl rfl rfl rfl ?_; simp only [putW]) | (refine loadAll hS rfl rfl rfl ?_ ?_; rfl; simp only [putW]) | (refine loadPart hS rfl rfl rfl ?_ rfl ?_; rfl; simp only [putW]) | (refine store1 hS rfl rfl rfl rfl rfl ?_ ?_; (focus (simp; done)); clear hS; intro w hS; simp only [evW, putW] at hS; try simp only [putW]) | (refine storeAll hS rfl rfl rfl rfl ?_ ?_ ?_ ?_; rfl; (focus (simp [Value.oneCell']; done)); rfl; clear hS; intro w hS; try simp only [putW]) | (refine storeN hS rfl rfl rfl rfl ?_ ?_ ?_ ?_; rfl; (focus (simp [Value.oneCell']; done)); (focus (simp; done)); clear hS; intro w hS; simp at hS; try simp only [putW]) | (refine alloc hS rfl rfl ?_; clear hS; intro mb w hS; simp only [putW]) | (refine box1 hS rfl rfl rfl rfl ?_; clear hS; intro mb w hS; try simp only [evW, putW] at hS; simp only [putW]) | (refine boxN hS rfl rfl rfl ?_; clear hS; intro mb w hS; simp only [putW]))
            (refine region_quiet hS (by kernel_rfl) (by kernel_rfl) (by kernel_rfl) ?_; clear hS; (repeat (apply quiet_step; (focus (intro w hS; go_wp2_with (first | (refine loadS (f := rowF) hS rfl rfl rfl j 0 ?_ hb rfl ?_ ?_; omega; omega; simp only [putW]) | (refine loadS (f := tupF) hS rfl rfl rfl j 14 ?_ hy Hy14.out ?_ ?_; (focus omega); (focus omega); simp only [putW]) | ((go_at_call 14; refine Calls.mono (same_any (hS.readsSl (v := .slice qa na ca) (L := A) HAb.out) (HYR.out.rs.mono hS.base)) ?_; rintro _ w2 ⟨rfl, h2⟩; replace hS := hS.frame h2; clear h2; (try simp only [List.cons_append, List.nil_append] at hS); simp only [putW]); rw [decide_eq_true HAt.out]) | (refine load1 hS rfl rfl rfl rfl ?_; simp only [putW]) | (refine loadAll hS rfl rfl rfl ?_ ?_; rfl; simp only [putW]) | (refine loadPart hS rfl rfl rfl ?_ rfl ?_; rfl; simp only [putW])); exact ⟨rfl, rfl, hS⟩)); simp only [putW])); refine quiet_nil ?_; intro w hS)
            go_wp2_with (first | (refine load1 hS rfl rfl rfl rfl ?_; simp only [putW]) | (refine loadAll hS rfl rfl rfl ?_ ?_; rfl; simp only [putW]) | (refine loadPart hS rfl rfl rfl ?_ rfl ?_; rfl; simp only [putW]) | (refine store1 hS rfl rfl rfl rfl rfl ?_ ?_; (focus (simp; done)); clear hS; intro w hS; simp only [evW, putW] at hS; try simp only [putW]) | (refine storeAll hS rfl rfl rfl rfl ?_ ?_ ?_ ?_; rfl; (focus (simp [Value.oneCell']; done)); rfl; clear hS; intro w hS; try simp only [putW]) | (refine storeN hS rfl rfl rfl rfl ?_ ?_ ?_ ?_; rfl; (focus (simp [Value.oneCell']; done)); (focus (simp; done)); clear hS; intro w hS; simp at hS; try simp only [putW]) | (refine alloc hS rfl rfl ?_; clear hS; intro mb w hS; simp only [putW]) | (refine box1 hS rfl rfl rfl rfl ?_; clear hS; intro mb w hS; try simp only [evW, putW] at hS; simp only [putW]) | (refine boxN hS rfl rfl rfl ?_; clear hS; intro mb w hS; simp only [putW]))
            go_loopg [12] na (fun g3 i3 wr => ∃ (k3 : Nat) (A' : List Int), k3 + g3 = na ∧ i3 = .int .i64 k3 ∧ Bx (A'.length = na) ∧ Sat w2 ((blk (.slice qa na ca), sl 1 by8 A' 5 (.slice qa na ca)) :: (gb, slc 1 rowF B cb 31) :: (5, inn (B'.take j ++ B'.drop (j + 1)) 5) :: (l, LogF (psOf X) (tsOf Y) (tsOf Z)) :: (xl, cells #[.slice qp nX cp, .slice (some ⟨gy, 0, none⟩) nY cs, .slice qo nZ co] 41) :: (gy, slc 15 tupF Y cs 46) :: []) wr)
            case atStart => exact ⟨0, A, by omega, rfl, Hna, hS⟩
            case round =>
              clear hS
              obtain ⟨k3, A', hkg3, rfl, hAl, hS⟩ := hrel
              cases gk with
              | succ g3 =>
                have hlt3 : k3 < na := by omega
                have hlti3 : (k3 : Int) < (na : Int) := by omega
                obtain ⟨x, hx⟩ : ∃ y, A'[k3]? = some y := ⟨_, List.getElem?_eq_getElem (by rw [hAl.out]; exact hlt3)⟩
                obtain ⟨gr, cap, e1, hS2⟩ := hS.slFormC na hAl.out (by omega)
                cases e1
                clear hS
                have hS := hS2
                clear hS2
                have hAl2 := hAl.out
                go_upto_region 19 with (first | (refine loadS (f := rowF) hS rfl rfl rfl j 0 ?_ hb rfl ?_ ?_; omega; omega; simp only [putW]) | (refine load1 hS rfl rfl rfl rfl ?_; simp only [putW]) | (refine loadAll hS rfl rfl rfl ?_ ?_; rfl; simp only [putW]) | (refine loadPart hS rfl rfl rfl ?_ rfl ?_; rfl; simp only [putW]) | (refine store1 hS rfl rfl rfl rfl rfl ?_ ?_; (focus (simp; done)); clear hS; intro w hS; simp only [evW, putW] at hS; try simp only [putW]) | (refine storeAll hS rfl rfl rfl rfl ?_ ?_ ?_ ?_; rfl; (focus (simp [Value.oneCell']; done)); rfl; clear hS; intro w hS; try simp only [putW]) | (refine storeN hS rfl rfl rfl rfl ?_ ?_ ?_ ?_; rfl; (focus (simp [Value.oneCell']; done)); (focus (simp; done)); clear hS; intro w hS; simp at hS; try simp only [putW]) | (refine alloc hS rfl rfl ?_; clear hS; intro mb w hS; simp only [putW]) | (refine box1 hS rfl rfl rfl rfl ?_; clear hS; intro mb w hS; try simp only [evW, putW] at hS; simp only [putW]) | (refine boxN hS rfl rfl rfl ?_; clear hS; intro mb w hS; simp only [putW]))
                (refine region_upd gr (slc 1 by8 (A'.set k3 ((x + 1) % 256)) ca 5) 14 hS (by kernel_rfl) (by kernel_rfl) (by kernel_rfl) (by kernel_rfl) ?_; clear hS; (repeat (first | (apply one_dep rfl; (focus (intro w hS; go_wp2_with (first | (refine loadS (f := rowF) hS rfl rfl rfl j 0 ?_ hb rfl ?_ ?_; omega; omega; simp only [putW]) | (refine loadS1 (v1 := Value.int .u8) hS rfl rfl rfl hx ?_; simp only [putW]) | (refine storeS1 (v1 := Value.int .u8) hS rfl rfl rfl ((x + 1) % 256) rfl rfl ?_ ?_; (focus (first | omega | (simp [maxLen]; done) | (simp [maxLen]; omega))); clear hS; intro w hS; try simp only [putW]) | (refine load1 hS rfl rfl rfl rfl ?_; simp only [putW]) | (refine loadAll hS rfl rfl rfl ?_ ?_; rfl; simp only [putW]) | (refine loadPart hS rfl rfl rfl ?_ rfl ?_; rfl; simp only [putW])); exact ⟨rfl, rfl, hS⟩)); simp only [putW]) | (apply one_step rfl; (focus (intro w hS; go_wp2_with (first | (refine loadS (f := rowF) hS rfl rfl rfl j 0 ?_ hb rfl ?_ ?_; omega; omega; simp only [putW]) | (refine loadS1 (v1 := Value.int .u8) hS rfl rfl rfl hx ?_; simp only [putW]) | (refine storeS1 (v1 := Value.int .u8) hS rfl rfl rfl ((x + 1) % 256) rfl rfl ?_ ?_; (focus (first | omega | (simp [maxLen]; done) | (simp [maxLen]; omega))); clear hS; intro w hS; try simp only [putW]) | (refine load1 hS rfl rfl rfl rfl ?_; simp only [putW]) | (refine loadAll hS rfl rfl rfl ?_ ?_; rfl; simp only [putW]) | (refine loadPart hS rfl rfl rfl ?_ rfl ?_; rfl; simp only [putW])); exact ⟨rfl, rfl, hS⟩)); (focus (intro w hS; go_wp2_with (first | (refine loadS (f := rowF) hS rfl rfl rfl j 0 ?_ hb rfl ?_ ?_; omega; omega; simp only [putW]) | (refine loadS1 (v1 := Value.int .u8) hS rfl rfl rfl hx ?_; simp only [putW]) | (refine storeS1 (v1 := Value.int .u8) hS rfl rfl rfl ((x + 1) % 256) rfl rfl ?_ ?_; (focus (first | omega | (simp [maxLen]; done) | (simp [maxLen]; omega))); clear hS; intro w hS; try simp only [putW]) | (refine load1 hS rfl rfl rfl rfl ?_; simp only [putW]) | (refine loadAll hS rfl rfl rfl ?_ ?_; rfl; simp only [putW]) | (refine loadPart hS rfl rfl rfl ?_ rfl ?_; rfl; simp only [putW])); exact ⟨rfl, rfl, hS⟩)); simp only [putW]) | (refine one_here rfl (v := undef) ?_ ?_; (focus (intro w hS; go_wp2_with (first | (refine loadS (f := rowF) hS rfl rfl rfl j 0 ?_ hb rfl ?_ ?_; omega; omega; simp only [putW]) | (refine loadS1 (v1 := Value.int .u8) hS rfl rfl rfl hx ?_; simp only [putW]) | (refine storeS1 (v1 := Value.int .u8) hS rfl rfl rfl ((x + 1) % 256) rfl rfl ?_ ?_; (focus (first | omega | (simp [maxLen]; done) | (simp [maxLen]; omega))); clear hS; intro w hS; try simp only [putW]) | (refine load1 hS rfl rfl rfl rfl ?_; simp only [putW]) | (refine loadAll hS rfl rfl rfl ?_ ?_; rfl; simp only [putW]) | (refine loadPart hS rfl rfl rfl ?_ rfl ?_; rfl; simp only [putW]) | (refine store1 hS rfl rfl rfl rfl rfl ?_ ?_; (focus (simp; done)); clear hS; intro w hS; simp only [evW, putW] at hS; try simp only [putW]) | (refine storeAll hS rfl rfl rfl rfl ?_ ?_ ?_ ?_; rfl; (focus (simp [Value.oneCell']; done)); rfl; clear hS; intro w hS; try simp only [putW]) | (refine storeN hS rfl rfl rfl rfl ?_ ?_ ?_ ?_; rfl; (focus (simp [Value.oneCell']; done)); (focus (simp; done)); clear hS; intro w hS; simp at hS; try simp only [putW]) | (refine alloc hS rfl rfl ?_; clear hS; intro mb w hS; simp only [putW]) | (refine box1 hS rfl rfl rfl rfl ?_; clear hS; intro mb w hS; try simp only [evW, putW] at hS; simp only [putW]) | (refine boxN hS rfl rfl rfl ?_; clear hS; intro mb w hS; simp only [putW])); (first | exact ⟨rfl, rfl, hS⟩ | exact ⟨rfl, rfl, hS.conv⟩))); simp only [putW]))); refine one_nil ?_; intro w hS)
                go_wp2_with (first | (refine load1 hS rfl rfl rfl rfl ?_; simp only [putW]) | (refine loadAll hS rfl rfl rfl ?_ ?_; rfl; simp only [putW]) | (refine loadPart hS rfl rfl rfl ?_ rfl ?_; rfl; simp only [putW]) | (refine store1 hS rfl rfl rfl rfl rfl ?_ ?_; (focus (simp; done)); clear hS; intro w hS; simp only [evW, putW] at hS; try simp only [putW]) | (refine storeAll hS rfl rfl rfl rfl ?_ ?_ ?_ ?_; rfl; (focus (simp [Value.oneCell']; done)); rfl; clear hS; intro w hS; try simp only [putW]) | (refine storeN hS rfl rfl rfl rfl ?_ ?_ ?_ ?_; rfl; (focus (simp [Value.oneCell']; done)); (focus (simp; done)); clear hS; intro w hS; simp at hS; try simp only [putW]) | (refine alloc hS rfl rfl ?_; clear hS; intro mb w hS; simp only [putW]) | (refine box1 hS rfl rfl rfl rfl ?_; clear hS; intro mb w hS; try simp only [evW, putW] at hS; simp only [putW]) | (refine boxN hS rfl rfl rfl ?_; clear hS; intro mb w hS; simp only [putW]))
                have h1 := (hS.pull gr (X := slc 1 by8 (A'.set k3 ((x + 1) % 256)) ca 5)).slOfSlc
                rw [List.length_set, hAl.out] at h1
                go_roundg g3
                case measure => omega
                case rel =>
                  refine ⟨k3 + 1, A'.set k3 ((x + 1) % 256), by omega, by go_num, ⟨?_⟩, h1.conv⟩
                  rw [List.length_set, hAl.out]
              | zero =>
                have hkn : na = k3 := by omega
                subst hkn
                go_upto_region 13 with (first | (refine loadS (f := rowF) hS rfl rfl rfl j 0 ?_ hb rfl ?_ ?_; omega; omega; simp only [putW]) | (refine load1 hS rfl rfl rfl rfl ?_; simp only [putW]) | (refine loadAll hS rfl rfl rfl ?_ ?_; rfl; simp only [putW]) | (refine loadPart hS rfl rfl rfl ?_ rfl ?_; rfl; simp only [putW]) | (refine store1 hS rfl rfl rfl rfl rfl ?_ ?_; (focus (simp; done)); clear hS; intro w hS; simp only [evW, putW] at hS; try simp only [putW]) | (refine storeAll hS rfl rfl rfl rfl ?_ ?_ ?_ ?_; rfl; (focus (simp [Value.oneCell']; done)); rfl; clear hS; intro w hS; try simp only [putW]) | (refine storeN hS rfl rfl rfl rfl ?_ ?_ ?_ ?_; rfl; (focus (simp [Value.oneCell']; done)); (focus (simp; done)); clear hS; intro w hS; simp at hS; try simp only [putW]) | (refine alloc hS rfl rfl ?_; clear hS; intro mb w hS; simp only [putW]) | (refine box1 hS rfl rfl rfl rfl ?_; clear hS; intro mb w hS; try simp only [evW, putW] at hS; simp only [putW]) | (refine boxN hS rfl rfl rfl ?_; clear hS; intro mb w hS; simp only [putW]))
                go_wp2_with (first | (refine load1 hS rfl rfl rfl rfl ?_; simp only [putW]) | (refine loadAll hS rfl rfl rfl ?_ ?_; rfl; simp only [putW]) | (refine loadPart hS rfl rfl rfl ?_ rfl ?_; rfl; simp only [putW]) | (refine store1 hS rfl rfl rfl rfl rfl ?_ ?_; (focus (simp; done)); clear hS; intro w hS; simp only [evW, putW] at hS; try simp only [putW]) | (refine storeAll hS rfl rfl rfl rfl ?_ ?_ ?_ ?_; rfl; (focus (simp [Value.oneCell']; done)); rfl; clear hS; intro w hS; try simp only [putW]) | (refine storeN hS rfl rfl rfl rfl ?_ ?_ ?_ ?_; rfl; (focus (simp [Value.oneCell']; done)); (focus (simp; done)); clear hS; intro w hS; simp at hS; try simp only [putW]) | (refine alloc hS rfl rfl ?_; clear hS; intro mb w hS; simp only [putW]) | (refine box1 hS rfl rfl rfl rfl ?_; clear hS; intro mb w hS; try simp only [evW, putW] at hS; simp only [putW]) | (refine boxN hS rfl rfl rfl ?_; clear hS; intro mb w hS; simp only [putW]))
                have h1 := (hS.perm (List.Perm.swap _ _ _)).slOfSlc
                rw [HBn.out] at h1
                have h2 := hS.rowBack (v := .slice qa na ca) (B := A') (j := 5) rfl Hb'.out
                have h3 := (h2.pull gb (X := slc 1 rowF B cb 31)).slOfSlc
                have h4 := (h3.pull gy (X := slc 15 tupF Y cs 46)).slOfSlc
                rw [HBn.out, HnY.out] at h4
                go_roundg g2
                case measure => omega
                case rel => exact ⟨j + 1, B'.set j (.slice qa na ca, A'), by omega, by go_num, ⟨hrows.out.next _⟩, h4.conv⟩
          | zero =>
            have hjn : nY = j := by omega
            have hS2 := hS.conv (S' := (l, LogF (psOf X) (tsOf Y) (tsOf Z)) :: (xl, cells #[.slice qp nX cp, .slice qs nY cs, .slice qo nZ co] 41) :: (blk (.slice qs nY cs), sl 15 tupF Y 46 (.slice qs nY cs)) :: [])
            clear hS hrows hjg
            subst hjn
            have hS := hS2
            clear hS2
            go_wp2_with (first | (guard_target =~ Calls _ 16 _ _ _; refine Stopped.out ?_) | (refine load1 hS rfl rfl rfl rfl ?_; simp only [putW]) | (refine loadAll hS rfl rfl rfl ?_ ?_; rfl; simp only [putW]) | (refine loadPart hS rfl rfl rfl ?_ rfl ?_; rfl; simp only [putW]) | (refine store1 hS rfl rfl rfl rfl rfl ?_ ?_; (focus (simp; done)); clear hS; intro w hS; simp only [evW, putW] at hS; try simp only [putW]) | (refine storeAll hS rfl rfl rfl rfl ?_ ?_ ?_ ?_; rfl; (focus (simp [Value.oneCell']; done)); rfl; clear hS; intro w hS; try simp only [putW]) | (refine storeN hS rfl rfl rfl rfl ?_ ?_ ?_ ?_; rfl; (focus (simp [Value.oneCell']; done)); (focus (simp; done)); clear hS; intro w hS; simp at hS; try simp only [putW]) | (refine alloc hS rfl rfl ?_; clear hS; intro mb w hS; simp only [putW]) | (refine box1 hS rfl rfl rfl rfl ?_; clear hS; intro mb w hS; try simp only [evW, putW] at hS; simp only [putW]) | (refine boxN hS rfl rfl rfl ?_; clear hS; intro mb w hS; simp only [putW]))
            refine ⟨?_⟩
            (refine Calls.mono (forgedAny HSO.out HOO.out hSl hOl hS) ?_; clear hS; rintro _ w ⟨pn, bb, qt, ct, T, rfl, h14, hpl, hpc, htl, hS⟩; simp only [putW])
            obtain ⟨nt, hnt⟩ : ∃ n, T.length = n := ⟨_, rfl⟩
            rw [hnt] at h14 htl hS
            have Hnt : Bx _ := ⟨hnt⟩
            have p14 : Bx (CellIs pn.toArray 14 (.slice qt nt ct)) := ⟨⟨by simpa using h14⟩⟩
            have Hpl : Bx _ := ⟨hpl⟩
            have Hpc : Bx _ := ⟨hpc⟩
            clear h14 hpl hpc hnt
            go_wp2_with (first | (refine alloc (t := 46) hS rfl rfl ?_; clear hS; intro mt w hS; simp only [putW]) | (refine storeAll (cs := pn.toArray) hS rfl rfl rfl rfl ?_ ?_ ?_ ?_; (focus exact Hpl.out); (focus exact Hpc.out); (focus rfl); clear hS; intro w hS; try simp only [putW]) | (refine load1 hS rfl rfl rfl rfl ?_; simp only [putW]) | (refine loadAll hS rfl rfl rfl ?_ ?_; rfl; simp only [putW]) | (refine loadPart hS rfl rfl rfl ?_ rfl ?_; rfl; simp only [putW]) | (refine store1 hS rfl rfl rfl rfl rfl ?_ ?_; (focus (simp; done)); clear hS; intro w hS; simp only [evW, putW] at hS; try simp only [putW]) | (refine storeAll hS rfl rfl rfl rfl ?_ ?_ ?_ ?_; rfl; (focus (simp [Value.oneCell']; done)); rfl; clear hS; intro w hS; try simp only [putW]) | (refine storeN hS rfl rfl rfl rfl ?_ ?_ ?_ ?_; rfl; (focus (simp [Value.oneCell']; done)); (focus (simp; done)); clear hS; intro w hS; simp at hS; try simp only [putW]) | (refine alloc hS rfl rfl ?_; clear hS; intro mb w hS; simp only [putW]) | (refine box1 hS rfl rfl rfl rfl ?_; clear hS; intro mb w hS; try simp only [evW, putW] at hS; simp only [putW]) | (refine boxN hS rfl rfl rfl ?_; clear hS; intro mb w hS; simp only [putW]))
            go_loopg [15] nt (fun g3 i3 wr => ∃ (k3 : Nat) (T' : List Int), k3 + g3 = nt ∧ i3 = .int .i64 k3 ∧ Bx (T'.length = nt) ∧ Sat w2 ((blk (.slice qt nt ct), sl 1 by8 T' 5 (.slice qt nt ct)) :: (mt, cells pn.toArray 46) :: (l, LogF (psOf X) (tsOf Y) (tsOf Z)) :: (xl, cells #[.slice qp nX cp, .slice qs nY cs, .slice qo nZ co] 41) :: (blk (.slice qs nY cs), sl 15 tupF Y 46 (.slice qs nY cs)) :: []) wr)
            case atStart => exact ⟨0, T, by omega, rfl, Hnt, hS.conv⟩
            case round =>
              clear hS
              obtain ⟨k3, T', hkg3, rfl, hTl, hS⟩ := hrel
              cases gk with
              | succ g3 =>
                have hlt3 : k3 < nt := by omega
                have hlti3 : (k3 : Int) < (nt : Int) := by omega
                obtain ⟨x, hx⟩ : ∃ y, T'[k3]? = some y := ⟨_, List.getElem?_eq_getElem (by rw [hTl.out]; exact hlt3)⟩
                obtain ⟨gr, cap, e1, hS2⟩ := hS.slFormC nt hTl.out (by omega)
                cases e1
                clear hS
                have hS := hS2
                clear hS2
                have hTl2 := hTl.out
                go_upto_region 24 with (first | (refine loadC hS rfl rfl rfl p14.out ?_; simp only [putW]) | (refine load1 hS rfl rfl rfl rfl ?_; simp only [putW]) | (refine loadAll hS rfl rfl rfl ?_ ?_; rfl; simp only [putW]) | (refine loadPart hS rfl rfl rfl ?_ rfl ?_; rfl; simp only [putW]) | (refine store1 hS rfl rfl rfl rfl rfl ?_ ?_; (focus (simp; done)); clear hS; intro w hS; simp only [evW, putW] at hS; try simp only [putW]) | (refine storeAll hS rfl rfl rfl rfl ?_ ?_ ?_ ?_; rfl; (focus (simp [Value.oneCell']; done)); rfl; clear hS; intro w hS; try simp only [putW]) | (refine storeN hS rfl rfl rfl rfl ?_ ?_ ?_ ?_; rfl; (focus (simp [Value.oneCell']; done)); (focus (simp; done)); clear hS; intro w hS; simp at hS; try simp only [putW]) | (refine alloc hS rfl rfl ?_; clear hS; intro mb w hS; simp only [putW]) | (refine box1 hS rfl rfl rfl rfl ?_; clear hS; intro mb w hS; try simp only [evW, putW] at hS; simp only [putW]) | (refine boxN hS rfl rfl rfl ?_; clear hS; intro mb w hS; simp only [putW]))
                (refine region_upd gr (slc 1 by8 (T'.set k3 ((x + 1) % 256)) ct 5) 10 hS (by kernel_rfl) (by kernel_rfl) (by kernel_rfl) (by kernel_rfl) ?_; clear hS; (repeat (first | (apply one_dep rfl; (focus (intro w hS; go_wp2_with (first | (refine loadC hS rfl rfl rfl p14.out ?_; simp only [putW]) | (refine loadS1 (v1 := Value.int .u8) hS rfl rfl rfl hx ?_; simp only [putW]) | (refine storeS1 (v1 := Value.int .u8) hS rfl rfl rfl ((x + 1) % 256) rfl rfl ?_ ?_; (focus (first | omega | (simp [maxLen]; done) | (simp [maxLen]; omega))); clear hS; intro w hS; try simp only [putW]) | (refine load1 hS rfl rfl rfl rfl ?_; simp only [putW]) | (refine loadAll hS rfl rfl rfl ?_ ?_; rfl; simp only [putW]) | (refine loadPart hS rfl rfl rfl ?_ rfl ?_; rfl; simp only [putW])); exact ⟨rfl, rfl, hS⟩)); simp only [putW]) | (apply one_step rfl; (focus (intro w hS; go_wp2_with (first | (refine loadC hS rfl rfl rfl p14.out ?_; simp only [putW]) | (refine loadS1 (v1 := Value.int .u8) hS rfl rfl rfl hx ?_; simp only [putW]) | (refine storeS1 (v1 := Value.int .u8) hS rfl rfl rfl ((x + 1) % 256) rfl rfl ?_ ?_; (focus (first | omega | (simp [maxLen]; done) | (simp [maxLen]; omega))); clear hS; intro w hS; try simp only [putW]) | (refine load1 hS rfl rfl rfl rfl ?_; simp only [putW]) | (refine loadAll hS rfl rfl rfl ?_ ?_; rfl; simp only [putW]) | (refine loadPart hS rfl rfl rfl ?_ rfl ?_; rfl; simp only [putW])); exact ⟨rfl, rfl, hS⟩)); (focus (intro w hS; go_wp2_with (first | (refine loadC hS rfl rfl rfl p14.out ?_; simp only [putW]) | (refine loadS1 (v1 := Value.int .u8) hS rfl rfl rfl hx ?_; simp only [putW]) | (refine storeS1 (v1 := Value.int .u8) hS rfl rfl rfl ((x + 1) % 256) rfl rfl ?_ ?_; (focus (first | omega | (simp [maxLen]; done) | (simp [maxLen]; omega))); clear hS; intro w hS; try simp only [putW]) | (refine load1 hS rfl rfl rfl rfl ?_; simp only [putW]) | (refine loadAll hS rfl rfl rfl ?_ ?_; rfl; simp only [putW]) | (refine loadPart hS rfl rfl rfl ?_ rfl ?_; rfl; simp only [putW])); exact ⟨rfl, rfl, hS⟩)); simp only [putW]) | (refine one_here rfl (v := undef) ?_ ?_; (focus (intro w hS; go_wp2_with (first | (refine loadC hS rfl rfl rfl p14.out ?_; simp only [putW]) | (refine loadS1 (v1 := Value.int .u8) hS rfl rfl rfl hx ?_; simp only [putW]) | (refine storeS1 (v1 := Value.int .u8) hS rfl rfl rfl ((x + 1) % 256) rfl rfl ?_ ?_; (focus (first | omega | (simp [maxLen]; done) | (simp [maxLen]; omega))); clear hS; intro w hS; try simp only [putW]) | (refine load1 hS rfl rfl rfl rfl ?_; simp only [putW]) | (refine loadAll hS rfl rfl rfl ?_ ?_; rfl; simp only [putW]) | (refine loadPart hS rfl rfl rfl ?_ rfl ?_; rfl; simp only [putW]) | (refine store1 hS rfl rfl rfl rfl rfl ?_ ?_; (focus (simp; done)); clear hS; intro w hS; simp only [evW, putW] at hS; try simp only [putW]) | (refine storeAll hS rfl rfl rfl rfl ?_ ?_ ?_ ?_; rfl; (focus (simp [Value.oneCell']; done)); rfl; clear hS; intro w hS; try simp only [putW]) | (refine storeN hS rfl rfl rfl rfl ?_ ?_ ?_ ?_; rfl; (focus (simp [Value.oneCell']; done)); (focus (simp; done)); clear hS; intro w hS; simp at hS; try simp only [putW]) | (refine alloc hS rfl rfl ?_; clear hS; intro mb w hS; simp only [putW]) | (refine box1 hS rfl rfl rfl rfl ?_; clear hS; intro mb w hS; try simp only [evW, putW] at hS; simp only [putW]) | (refine boxN hS rfl rfl rfl ?_; clear hS; intro mb w hS; simp only [putW])); (first | exact ⟨rfl, rfl, hS⟩ | exact ⟨rfl, rfl, hS.conv⟩))); simp only [putW]))); refine one_nil ?_; intro w hS)
                go_wp2_with (first | (refine load1 hS rfl rfl rfl rfl ?_; simp only [putW]) | (refine loadAll hS rfl rfl rfl ?_ ?_; rfl; simp only [putW]) | (refine loadPart hS rfl rfl rfl ?_ rfl ?_; rfl; simp only [putW]) | (refine store1 hS rfl rfl rfl rfl rfl ?_ ?_; (focus (simp; done)); clear hS; intro w hS; simp only [evW, putW] at hS; try simp only [putW]) | (refine storeAll hS rfl rfl rfl rfl ?_ ?_ ?_ ?_; rfl; (focus (simp [Value.oneCell']; done)); rfl; clear hS; intro w hS; try simp only [putW]) | (refine storeN hS rfl rfl rfl rfl ?_ ?_ ?_ ?_; rfl; (focus (simp [Value.oneCell']; done)); (focus (simp; done)); clear hS; intro w hS; simp at hS; try simp only [putW]) | (refine alloc hS rfl rfl ?_; clear hS; intro mb w hS; simp only [putW]) | (refine box1 hS rfl rfl rfl rfl ?_; clear hS; intro mb w hS; try simp only [evW, putW] at hS; simp only [putW]) | (refine boxN hS rfl rfl rfl ?_; clear hS; intro mb w hS; simp only [putW]))
                have h1 := (hS.pull gr (X := slc 1 by8 (T'.set k3 ((x + 1) % 256)) ct 5)).slOfSlc
                rw [List.length_set, hTl.out] at h1
                go_roundg g3
                case measure => omega
                case rel =>
                  refine ⟨k3 + 1, T'.set k3 ((x + 1) % 256), by omega, by go_num, ⟨?_⟩, h1.conv⟩
                  rw [List.length_set, hTl.out]
              | zero =>
                have hkn : nt = k3 := by omega
                subst hkn
                go_wp2_with (first | (refine loadC hS rfl rfl rfl p14.out ?_; simp only [putW]) | (refine load1 hS rfl rfl rfl rfl ?_; simp only [putW]) | (refine loadAll hS rfl rfl rfl ?_ ?_; rfl; simp only [putW]) | (refine loadPart hS rfl rfl rfl ?_ rfl ?_; rfl; simp only [putW]) | (refine store1 hS rfl rfl rfl rfl rfl ?_ ?_; (focus (simp; done)); clear hS; intro w hS; simp only [evW, putW] at hS; try simp only [putW]) | (refine storeAll hS rfl rfl rfl rfl ?_ ?_ ?_ ?_; rfl; (focus (simp [Value.oneCell']; done)); rfl; clear hS; intro w hS; try simp only [putW]) | (refine storeN hS rfl rfl rfl rfl ?_ ?_ ?_ ?_; rfl; (focus (simp [Value.oneCell']; done)); (focus (simp; done)); clear hS; intro w hS; simp at hS; try simp only [putW]) | (refine alloc hS rfl rfl ?_; clear hS; intro mb w hS; simp only [putW]) | (refine box1 hS rfl rfl rfl rfl ?_; clear hS; intro mb w hS; try simp only [evW, putW] at hS; simp only [putW]) | (refine boxN hS rfl rfl rfl ?_; clear hS; intro mb w hS; simp only [putW]))
                go_roundg g
                case measure => omega
                case rel => exact ⟨k + 1, by omega, by go_num, hS.conv⟩
      | zero =>
        have hk2 : k = 2 := by omega
        subst hk2
        go_wp2_with (first | (go_at_call 10; refine Calls.mono (awakeG_any) ?_; rintro _ w2 ⟨rfl, h2⟩; replace hS := hS.frame h2; clear h2; (try simp only [List.cons_append, List.nil_append] at hS); simp only [putW]) | (refine load1 hS rfl rfl rfl rfl ?_; simp only [putW]) | (refine loadAll hS rfl rfl rfl ?_ ?_; rfl; simp only [putW]) | (refine loadPart hS rfl rfl rfl ?_ rfl ?_; rfl; simp only [putW]) | (refine store1 hS rfl rfl rfl rfl rfl ?_ ?_; (focus (simp; done)); clear hS; intro w hS; simp only [evW, putW] at hS; try simp only [putW]) | (refine storeAll hS rfl rfl rfl rfl ?_ ?_ ?_ ?_; rfl; (focus (simp [Value.oneCell']; done)); rfl; clear hS; intro w hS; try simp only [putW]) | (refine storeN hS rfl rfl rfl rfl ?_ ?_ ?_ ?_; rfl; (focus (simp [Value.oneCell']; done)); (focus (simp; done)); clear hS; intro w hS; simp at hS; try simp only [putW]) | (refine alloc hS rfl rfl ?_; clear hS; intro mb w hS; simp only [putW]) | (refine box1 hS rfl rfl rfl rfl ?_; clear hS; intro mb w hS; try simp only [evW, putW] at hS; simp only [putW]) | (refine boxN hS rfl rfl rfl ?_; clear hS; intro mb w hS; simp only [putW]))
        go_ret
        exact ⟨rfl, (hS0.frame hS).nothing⟩
end
end Go.Proofs.YteoidocicjlglaaDoor.GhostKeepsDone
