/-
  ghost.Twice, Blocks, Count.
-/
import Derived.Test.YteoidocicjlglaaDoorGhForge
set_option linter.unusedSimpArgs false
set_option linter.unusedVariables false
namespace Go.Proofs.YteoidocicjlglaaDoor
open Go.RowKit Go.Proofs.YteoidocicjlglaaDoor.Sl Go.Proofs.YteoidocicjlglaaDoor.Sha Go.Proofs.YteoidocicjlglaaDoor.Jp

/-- The map has the place of each name among the first k. -/
def TwMap (Y : List TupV) (k : Nat) (m : List (Nm × Int)) : Prop :=
  (∀ (n : Nm) v, mget m n = some v → ∃ i : Nat, v = i ∧ i < k ∧ ∃ y, Y[i]? = some y ∧ nameOf y.2.2 = n.1) ∧ ∀ n : Nm, mget m n = none → ∀ i, i < k → ∀ y, Y[i]? = some y → nameOf y.2.2 ≠ n.1
theorem twMap_zero (Y : List TupV) : TwMap Y 0 [] := ⟨fun n v h => by simp [mget, findL] at h, fun n _ i hi => by omega⟩
theorem twMap_next {Y : List TupV} {k : Nat} {m : List (Nm × Int)} {y : TupV} {key : Nm} (h : TwMap Y k m) (hy : Y[k]? = some y) (hn : nameOf y.2.2 = key.1) : TwMap Y (k + 1) (mput m key k) := by
  refine ⟨fun n v hv => ?_, fun n hv i hi z hz => ?_⟩
  · rw [mget_mput] at hv
    split at hv
    · rename_i e
      subst e
      exact ⟨k, (Option.some.inj hv).symm, by omega, y, hy, hn⟩
    · obtain ⟨i, h1, h2, h3⟩ := h.1 n v hv
      exact ⟨i, h1, by omega, h3⟩
  · rw [mget_mput] at hv
    split at hv
    · cases hv
    · rename_i e
      by_cases e2 : i < k
      · exact h.2 n hv i e2 z hz
      · obtain rfl : i = k := by omega
        rw [hy] at hz
        cases hz
        exact fun e3 => e (Subtype.ext (e3.symm.trans hn))
theorem noTwice_next {Y : List TupV} {k : Nat} {m : List (Nm × Int)} {y : TupV} {key : Nm} (h : NoTwice (Y.map (·.2.2)) k) (hm : TwMap Y k m) (hy : Y[k]? = some y) (hn : nameOf y.2.2 = key.1) (hg : mget m key = none) : NoTwice (Y.map (·.2.2)) (k + 1) := fun a b s t hab hb hs ht => by
  by_cases e : b < k
  · exact h a b s t hab e hs ht
  · obtain rfl : b = k := by omega
    rw [List.getElem?_map, hy] at ht
    have e1 : y.2.2 = t := Option.some.inj ht
    rw [List.getElem?_map] at hs
    obtain ⟨z, hz, e2⟩ := Option.map_eq_some_iff.1 hs
    have e3 : z.2.2 = s := e2
    rw [← e1, ← e3, hn]
    exact hm.2 key hg a hab z hz
section
variable {w0 w : World} {K F S : List Chunk} {l j : Nat} {vp vs vo v : Value} {Y Z : List TupV} {Ss Os : List Tup}
set_option maxRecDepth 100000 in
set_option maxHeartbeats 4000000 in
theorem twice_open (hY : ∀ y ∈ Y, TupOk y.2.2) (hYl : Y.length ≤ 1000000)
    (hS : Sat w0 ((l, cells #[vp, vs, vo] 70) :: (blk vs, sl 15 tupF Y 46 vs) :: (1, inn (rowsT Y) 5) :: K) w) :
    Calls Tryd.prog 22 #[.pointer (some ⟨l, 0, none⟩)] w fun e w' =>
      (e = .returned (.tuple #[.agg (tupF (.slice none 0 0, .slice none 0 0, zT)).toArray, .agg (tupF (.slice none 0 0, .slice none 0 0, zT)).toArray, .bool false]) ∧ NoTwice (Y.map (·.2.2)) Y.length ∧ Sat w0 ((l, cells #[vp, vs, vo] 70) :: (blk vs, sl 15 tupF Y 46 vs) :: (1, inn (rowsT Y) 5) :: K) w') ∨
      ∃ i j s t q1 c1 q2 c2 q3 c3 q4 c4, TwiceAt (Y.map (·.2.2)) i j s t ∧ e = .returned (.tuple #[.agg (tupF (.slice q1 s.2.2.1.length c1, .slice q2 s.2.2.2.length c2, s)).toArray, .agg (tupF (.slice q3 t.2.2.1.length c3, .slice q4 t.2.2.2.length c4, t)).toArray, .bool true]) ∧
        Sat w0 ((blk (.slice q1 s.2.2.1.length c1), sl 1 by8 s.2.2.1 5 (.slice q1 s.2.2.1.length c1)) :: (blk (.slice q2 s.2.2.2.length c2), sl 1 by8 s.2.2.2 5 (.slice q2 s.2.2.2.length c2)) :: (blk (.slice q3 t.2.2.1.length c3), sl 1 by8 t.2.2.1 5 (.slice q3 t.2.2.1.length c3)) :: (blk (.slice q4 t.2.2.2.length c4), sl 1 by8 t.2.2.2 5 (.slice q4 t.2.2.2.length c4)) :: (l, cells #[vp, vs, vo] 70) :: (blk vs, sl 15 tupF Y 46 vs) :: (1, inn (rowsT Y) 5) :: K) w' := by
  have HYk : Bx _ := ⟨hY⟩
  clear hY
  obtain ⟨nY, hnY⟩ : ∃ n, Y.length = n := ⟨_, rfl⟩
  obtain ⟨qs, cs, e1⟩ := slShape (hS.pull (blk vs) (X := sl 15 tupF Y 46 vs))
  rw [hnY] at e1 hYl
  subst e1
  have HnY : Bx _ := ⟨hnY⟩
  rw [hnY]
  clear hnY
  have tok : True := trivial
  go_enter Tryd.func22, Tryd.ntmps22
  go_wp2_with (first | (have _t := tok; refine alloc (t := 46) hS rfl rfl ?_; clear hS tok; intro m2 w hS; simp only [putW]) | (refine alloc (t := 46) hS rfl rfl ?_; clear hS; intro m3 w hS; simp only [putW]) | (refine makeMap hS rfl rfl encN  (Value.int .i64) ?_; clear hS; intro mb w hS; simp only [putW]) | (refine load1 hS rfl rfl rfl rfl ?_; simp only [putW]) | (refine loadAll hS rfl rfl rfl ?_ ?_; rfl; simp only [putW]) | (refine loadPart hS rfl rfl rfl ?_ rfl ?_; rfl; simp only [putW]) | (refine store1 hS rfl rfl rfl rfl rfl ?_ ?_; (focus (simp; done)); clear hS; intro w hS; simp only [evW, putW] at hS; try simp only [putW]) | (refine storeAll hS rfl rfl rfl rfl ?_ ?_ ?_ ?_; rfl; (focus (simp [Value.oneCell']; done)); rfl; clear hS; intro w hS; try simp only [putW]) | (refine storeN hS rfl rfl rfl rfl ?_ ?_ ?_ ?_; rfl; (focus (simp [Value.oneCell']; done)); (focus (simp; done)); clear hS; intro w hS; simp at hS; try simp only [putW]) | (refine alloc hS rfl rfl ?_; clear hS; intro mb w hS; simp only [putW]) | (refine box1 hS rfl rfl rfl rfl ?_; clear hS; intro mb w hS; try simp only [evW, putW] at hS; simp only [putW]) | (refine boxN hS rfl rfl rfl ?_; clear hS; intro mb w hS; simp only [putW]))
  obtain ⟨mp, rfl⟩ : ∃ mp, mp = mb := ⟨_, rfl⟩
  obtain ⟨zc, hzc⟩ : ∃ zc : Array Value, (tupF (.slice none 0 0, .slice none 0 0, zT)).toArray = zc := ⟨_, rfl⟩
  have hzs : Bx (zc.size = 15) := ⟨by rw [← hzc]; rfl⟩
  have hS2 : Sat w0 ((mp, mapC encN (Value.int .i64) []) :: (m3, cells (tupF (.slice none 0 0, .slice none 0 0, zT)).toArray 46) :: (m2, cells (tupF (.slice none 0 0, .slice none 0 0, zT)).toArray 46) :: (l, cells #[vp, .slice qs nY cs, vo] 70) :: (blk (.slice qs nY cs), sl 15 tupF Y 46 (.slice qs nY cs)) :: (1, inn (rowsT Y) 5) :: K) w := hS
  clear hS
  rw [hzc] at hS2
  have hS := hS2
  clear hS2 hzc
  go_loopg [21] nY (fun g i wr => ∃ (k : Nat) (m : List (Nm × Int)), k + g = nY ∧ i = .int .i64 k ∧ Bx (TwMap Y k m) ∧ Bx (NoTwice (Y.map (·.2.2)) k) ∧ Sat w0 ((mp, mapC encN (Value.int .i64) m) :: (m3, cells zc 46) :: (m2, cells zc 46) :: (l, cells #[vp, .slice qs nY cs, vo] 70) :: (blk (.slice qs nY cs), sl 15 tupF Y 46 (.slice qs nY cs)) :: (1, inn (rowsT Y) 5) :: K) wr)
  case atStart => exact ⟨0, [], by omega, rfl, ⟨twMap_zero Y⟩, ⟨fun a b s t _ h => by omega⟩, hS.conv⟩
  case round =>
    clear hS
    obtain ⟨k, m, hkg, rfl, htw, hno, hS⟩ := hrel
    cases gk with
    | succ g =>
      have hlt : k < nY := by omega
      have hlti : (k : Int) < (nY : Int) := by omega
      obtain ⟨y, hy⟩ : ∃ y, Y[k]? = some y := ⟨_, List.getElem?_eq_getElem (by rw [HnY.out]; exact hlt)⟩
      have hym := List.mem_of_getElem? hy
      have hyo := HYk.out y hym
      have hyr : TupRd wr y := rdT (hS.pull 1 (X := inn (rowsT Y) 5)) HYk.out y hym
      obtain ⟨py, hpy⟩ : ∃ py, tupF y = py := ⟨_, rfl⟩
      have Hyc : Bx (∀ u ∈ py, u.oneCell' = true) := ⟨by rw [← hpy]; exact hyr.cell⟩
      have hin : TupIn y py := by rw [← hpy]; exact tupIn hyo.2.1.1
      have Hyl : Bx (py.length = 15) := ⟨hin.len⟩
      have y0 : Bx (CellIs py.toArray 0 (.int .u32 y.2.2.1)) := ⟨⟨by simpa using hin.ep⟩⟩
      have y1 : Bx (PartIs py.toArray 1 12 (y.2.2.2.1.map u8v)) := ⟨⟨by rw [List.length_map]; exact hyo.2.1.1, by rw [List.toList_toArray]; exact hin.non⟩⟩
      obtain ⟨key, hkey⟩ : ∃ key : Nm, key = nmOf y.2.2 hyo := ⟨_, rfl⟩
      have Hkn : Bx (nameOf y.2.2 = key.1) := ⟨by rw [hkey]; rfl⟩
      have Hke : Bx (Value.agg (Value.int .u32 y.2.2.1 :: y.2.2.2.1.map u8v).toArray = encN key) := ⟨by rw [hkey]; rfl⟩
      have Hn12 : Bx (y.2.2.2.1.length = 12) := ⟨hyo.2.1.1⟩
      obtain ⟨nc, hnc⟩ : ∃ nc : List Value, Value.int .u32 y.2.2.1 :: y.2.2.2.1.map u8v = nc := ⟨_, rfl⟩
      have Hnl : Bx (nc.length = 13) := ⟨by rw [← hnc]; simp [hyo.2.1.1]⟩
      have Hncc : Bx (∀ u ∈ nc, u.oneCell' = true) := ⟨fun u hu => by
        rw [← hnc] at hu
        rcases List.mem_cons.1 hu with rfl | hu
        · rfl
        · obtain ⟨x, _, rfl⟩ := List.mem_map.1 hu; rfl⟩
      have Hnc : Bx _ := ⟨hnc⟩
      have Hpy : Bx _ := ⟨hpy⟩
      rw [hnc] at Hke
      have Hy : Bx _ := ⟨hy⟩
      have Hym : Bx _ := ⟨hym⟩
      have Hyo : Bx _ := ⟨hyo⟩
      clear hpy hkey hin hyo hyr hym hnc hlt
      obtain ⟨gs, cap, e1, hS2⟩ := (hS.pull (blk (.slice qs nY cs)) (X := sl 15 tupF Y 46 (.slice qs nY cs))).slFormC nY HnY.out (by omega)
      cases e1
      clear hS
      have hS := hS2
      clear hS2
      go_wp2_with (first | (refine loadSN (f := tupF) (vs := py) hS rfl rfl rfl k 0 ?_ hy ?_ ?_ ?_; (focus omega); (focus omega); (focus (rw [List.drop_zero, Hpy.out, List.take_of_length_le (by rw [Hyl.out]; omega)])); simp only [putW]) | (refine alloc (t := 46) hS rfl rfl ?_; clear hS; intro my w hS; simp only [putW]) | (refine storeAll (cs := py.toArray) hS rfl rfl rfl rfl ?_ ?_ ?_ ?_; (focus exact Hyl.out); (focus exact Hyc.out); (focus rfl); clear hS; intro w hS; try simp only [putW]) | (refine loadC hS rfl rfl rfl y0.out ?_; simp only [putW]) | (refine loadP hS rfl rfl rfl y1.out ?_; simp only [putW]) | (refine buildNm Hn12.out rfl rfl rfl rfl ?_; rw [Hnc.out]; simp only [putW]) | (refine alloc (t := 76) hS rfl rfl ?_; clear hS; intro mn w hS; simp only [putW]) | (refine storeAll (cs := nc.toArray) hS rfl rfl rfl rfl ?_ ?_ ?_ ?_; (focus exact Hnl.out); (focus exact Hncc.out); (focus rfl); clear hS; intro w hS; try simp only [putW]) | (refine loadAll (c := nc.toArray) hS rfl rfl rfl Hnl.out ?_; simp only [putW]) | (guard_target =~ wpList _ _ _ (Oper.mk (some 34) _ _ _ _ _ :: _) _ _; refine Stopped.out ?_) | (refine load1 hS rfl rfl rfl rfl ?_; simp only [putW]) | (refine loadAll hS rfl rfl rfl ?_ ?_; rfl; simp only [putW]) | (refine loadPart hS rfl rfl rfl ?_ rfl ?_; rfl; simp only [putW]) | (refine store1 hS rfl rfl rfl rfl rfl ?_ ?_; (focus (simp; done)); clear hS; intro w hS; simp only [evW, putW] at hS; try simp only [putW]) | (refine storeAll hS rfl rfl rfl rfl ?_ ?_ ?_ ?_; rfl; (focus (simp [Value.oneCell']; done)); rfl; clear hS; intro w hS; try simp only [putW]) | (refine storeN hS rfl rfl rfl rfl ?_ ?_ ?_ ?_; rfl; (focus (simp [Value.oneCell']; done)); (focus (simp; done)); clear hS; intro w hS; simp at hS; try simp only [putW]) | (refine alloc hS rfl rfl ?_; clear hS; intro mb w hS; simp only [putW]) | (refine box1 hS rfl rfl rfl rfl ?_; clear hS; intro mb w hS; try simp only [evW, putW] at hS; simp only [putW]) | (refine boxN hS rfl rfl rfl ?_; clear hS; intro mb w hS; simp only [putW]))
      refine ⟨?_⟩
      refine lookupW2 (b := mp) (enc := encN) (ve := Value.int .i64) (l := m) hS rfl rfl key rfl Hke.out 0 rfl ?_
      simp only [putW]
      cases hm : mget m key with
      | none =>
        simp only [Option.getD_none, Option.isSome_none]
        have Hm : Bx _ := ⟨hm⟩
        clear hm
        go_wp2_with (first | (refine loadAll (c := nc.toArray) hS rfl rfl rfl Hnl.out ?_; simp only [putW]) | (refine mapUpdateW (b := mp) (enc := encN) (ve := Value.int .i64) (l := m) hS rfl rfl key (k : Int) rfl Hke.out rfl ?_; clear hS; intro w hS; try simp only [putW]) | (refine load1 hS rfl rfl rfl rfl ?_; simp only [putW]) | (refine loadAll hS rfl rfl rfl ?_ ?_; rfl; simp only [putW]) | (refine loadPart hS rfl rfl rfl ?_ rfl ?_; rfl; simp only [putW]) | (refine store1 hS rfl rfl rfl rfl rfl ?_ ?_; (focus (simp; done)); clear hS; intro w hS; simp only [evW, putW] at hS; try simp only [putW]) | (refine storeAll hS rfl rfl rfl rfl ?_ ?_ ?_ ?_; rfl; (focus (simp [Value.oneCell']; done)); rfl; clear hS; intro w hS; try simp only [putW]) | (refine storeN hS rfl rfl rfl rfl ?_ ?_ ?_ ?_; rfl; (focus (simp [Value.oneCell']; done)); (focus (simp; done)); clear hS; intro w hS; simp at hS; try simp only [putW]) | (refine alloc hS rfl rfl ?_; clear hS; intro mb w hS; simp only [putW]) | (refine box1 hS rfl rfl rfl rfl ?_; clear hS; intro mb w hS; try simp only [evW, putW] at hS; simp only [putW]) | (refine boxN hS rfl rfl rfl ?_; clear hS; intro mb w hS; simp only [putW]))
        have h1 := (hS.pull gs (X := slc 15 tupF Y cs 46)).slOfSlc
        rw [HnY.out] at h1
        go_roundg g
        case measure => omega
        case rel => exact ⟨k + 1, mput m key k, by omega, by go_num, ⟨twMap_next htw.out Hy.out Hkn.out⟩, ⟨noTwice_next hno.out htw.out Hy.out Hkn.out Hm.out⟩, h1.conv⟩
      | some v =>
        obtain ⟨i, rfl, hik, x, hx, hxn⟩ := htw.out.1 key v hm
        simp only [Option.getD_some, Option.isSome_some]
        have hin : i < nY := by omega
        have hini : (i : Int) < (nY : Int) := by omega
        have hxm := List.mem_of_getElem? hx
        have hxo := HYk.out x hxm
        obtain ⟨px, hpx⟩ : ∃ px, tupF x = px := ⟨_, rfl⟩
        have Hpx : Bx _ := ⟨hpx⟩
        have Hx : Bx _ := ⟨hx⟩
        have Hxn : Bx (nameOf x.2.2 = nameOf y.2.2) := ⟨hxn.trans Hkn.out.symm⟩
        have Hx12 : Bx (x.2.2.2.1.length = 12) := ⟨hxo.2.1.1⟩
        have hrx := (rdT (hS.pull 1 (X := inn (rowsT Y) 5)) HYk.out x hxm)
        have hry := (rdT (hS.pull 1 (X := inn (rowsT Y) 5)) HYk.out y Hym.out)
        have hla : x.2.2.2.2.1.length ≤ 140737488355328 := Nat.le_trans hxo.2.2.1.1 (by omega)
        have hls : x.2.2.2.2.2.length ≤ 140737488355328 := Nat.le_trans hxo.2.2.2.1 (by omega)
        have hma : y.2.2.2.2.1.length ≤ 140737488355328 := Nat.le_trans Hyo.out.2.2.1.1 (by omega)
        have hms : y.2.2.2.2.2.length ≤ 140737488355328 := Nat.le_trans Hyo.out.2.2.2.1 (by omega)
        have Hxm : Bx _ := ⟨hxm⟩
        clear hm hpx hxo hxn hrx hry hy hx hxm
        have HR : ∀ {w' : World} {S0 F0 : List Chunk} [Pull S0 1 (inn (rowsT Y) 5) F0], Sat w0 S0 w' → TupRd w' x ∧ TupRd w' y := fun h => ⟨rdT (h.pull 1 (X := inn (rowsT Y) 5)) HYk.out x Hxm.out, rdT (h.pull 1 (X := inn (rowsT Y) 5)) HYk.out y Hym.out⟩
        go_wp2_with (first | (refine load1 hS rfl rfl rfl rfl ?_; simp only [putW]) | (refine loadAll hS rfl rfl rfl ?_ ?_; rfl; simp only [putW]) | (refine loadPart hS rfl rfl rfl ?_ rfl ?_; rfl; simp only [putW]) | (refine store1 hS rfl rfl rfl rfl rfl ?_ ?_; (focus (simp; done)); clear hS; intro w hS; simp only [evW, putW] at hS; try simp only [putW]) | (refine storeAll hS rfl rfl rfl rfl ?_ ?_ ?_ ?_; rfl; (focus (simp [Value.oneCell']; done)); rfl; clear hS; intro w hS; try simp only [putW]) | (refine storeN hS rfl rfl rfl rfl ?_ ?_ ?_ ?_; rfl; (focus (simp [Value.oneCell']; done)); (focus (simp; done)); clear hS; intro w hS; simp at hS; try simp only [putW]) | (refine alloc hS rfl rfl ?_; clear hS; intro mb w hS; simp only [putW]) | (refine box1 hS rfl rfl rfl rfl ?_; clear hS; intro mb w hS; try simp only [evW, putW] at hS; simp only [putW]) | (refine boxN hS rfl rfl rfl ?_; clear hS; intro mb w hS; simp only [putW]))
        have hzs2 := hzs.out
        (refine wp_region_held (S := fun w' => Sat w0 ((my, cells py.toArray 46) :: (l, cells #[vp, .slice (some ⟨gs, 0, none⟩) nY cs, vo] 70) :: (gs, slc 15 tupF Y cs 46) :: (1, inn (rowsT Y) 5) :: K) w') (by kernel_rfl) ?_; replace hS := hS.drew; (first | (refine takeIf (i := 0) rfl (by kernel_rfl) (fun _ _ _ h => h) (yLoadSN (f := tupF) (fun _ h => h) rfl rfl rfl i (by omega) Hx.out Hpx.out) hS.conv ?_; simp only [putW]) | (refine takeIf (i := 0) rfl (by kernel_rfl) (fun _ _ _ h => h) (yLoadAll (fun _ h => h) rfl rfl rfl Hyl.out) hS.conv ?_; simp only [putW]) | (refine takeIf (i := 0) rfl (by kernel_rfl) (fun _ _ _ h => h) (yMove rfl rfl rfl) hS.conv ?_; simp only [evW, putW]) | (refine takeIf (i := 0) rfl (by kernel_rfl) (fun _ _ _ h => h) (yLoad1 (fun _ h => h) rfl rfl rfl rfl) hS.conv ?_; simp only [putW]) | (refine takeIf (i := 0) rfl (by kernel_rfl) (fun _ _ _ h => h) (yLoadAll (fun _ h => h) rfl rfl rfl rfl) hS.conv ?_; simp only [putW]) | (apply takeIf (i := 0) rfl (by kernel_rfl) (fun _ _ _ h => h); (focus (apply yRun rfl; intro w; first | (go_simp; done) | (go_simp; rfl))); (focus (exact hS.conv)); simp only [putW])); (first | (refine takeIf (i := 1) rfl (by kernel_rfl) (fun _ _ _ h => h) (yLoadSN (f := tupF) (fun _ h => h) rfl rfl rfl i (by omega) Hx.out Hpx.out) hS.conv ?_; simp only [putW]) | (refine takeIf (i := 1) rfl (by kernel_rfl) (fun _ _ _ h => h) (yLoadAll (fun _ h => h) rfl rfl rfl Hyl.out) hS.conv ?_; simp only [putW]) | (refine takeIf (i := 1) rfl (by kernel_rfl) (fun _ _ _ h => h) (yMove rfl rfl rfl) hS.conv ?_; simp only [evW, putW]) | (refine takeIf (i := 1) rfl (by kernel_rfl) (fun _ _ _ h => h) (yLoad1 (fun _ h => h) rfl rfl rfl rfl) hS.conv ?_; simp only [putW]) | (refine takeIf (i := 1) rfl (by kernel_rfl) (fun _ _ _ h => h) (yLoadAll (fun _ h => h) rfl rfl rfl rfl) hS.conv ?_; simp only [putW]) | (apply takeIf (i := 1) rfl (by kernel_rfl) (fun _ _ _ h => h); (focus (apply yRun rfl; intro w; first | (go_simp; done) | (go_simp; rfl))); (focus (exact hS.conv)); simp only [putW])); (first | (refine takeIf (i := 2) rfl (by kernel_rfl) (fun _ _ _ h => h) (yLoadSN (f := tupF) (fun _ h => h) rfl rfl rfl i (by omega) Hx.out Hpx.out) hS.conv ?_; simp only [putW]) | (refine takeIf (i := 2) rfl (by kernel_rfl) (fun _ _ _ h => h) (yLoadAll (fun _ h => h) rfl rfl rfl Hyl.out) hS.conv ?_; simp only [putW]) | (refine takeIf (i := 2) rfl (by kernel_rfl) (fun _ _ _ h => h) (yMove rfl rfl rfl) hS.conv ?_; simp only [evW, putW]) | (refine takeIf (i := 2) rfl (by kernel_rfl) (fun _ _ _ h => h) (yLoad1 (fun _ h => h) rfl rfl rfl rfl) hS.conv ?_; simp only [putW]) | (refine takeIf (i := 2) rfl (by kernel_rfl) (fun _ _ _ h => h) (yLoadAll (fun _ h => h) rfl rfl rfl rfl) hS.conv ?_; simp only [putW]) | (apply takeIf (i := 2) rfl (by kernel_rfl) (fun _ _ _ h => h); (focus (apply yRun rfl; intro w; first | (go_simp; done) | (go_simp; rfl))); (focus (exact hS.conv)); simp only [putW])); (first | (refine takeIf (i := 3) rfl (by kernel_rfl) (fun _ _ _ h => h) (yLoadSN (f := tupF) (fun _ h => h) rfl rfl rfl i (by omega) Hx.out Hpx.out) hS.conv ?_; simp only [putW]) | (refine takeIf (i := 3) rfl (by kernel_rfl) (fun _ _ _ h => h) (yLoadAll (fun _ h => h) rfl rfl rfl Hyl.out) hS.conv ?_; simp only [putW]) | (refine takeIf (i := 3) rfl (by kernel_rfl) (fun _ _ _ h => h) (yMove rfl rfl rfl) hS.conv ?_; simp only [evW, putW]) | (refine takeIf (i := 3) rfl (by kernel_rfl) (fun _ _ _ h => h) (yLoad1 (fun _ h => h) rfl rfl rfl rfl) hS.conv ?_; simp only [putW]) | (refine takeIf (i := 3) rfl (by kernel_rfl) (fun _ _ _ h => h) (yLoadAll (fun _ h => h) rfl rfl rfl rfl) hS.conv ?_; simp only [putW]) | (apply takeIf (i := 3) rfl (by kernel_rfl) (fun _ _ _ h => h); (focus (apply yRun rfl; intro w; first | (go_simp; done) | (go_simp; rfl))); (focus (exact hS.conv)); simp only [putW])); (first | (refine takeIf (i := 4) rfl (by kernel_rfl) (fun _ _ _ h => h) (yLoadSN (f := tupF) (fun _ h => h) rfl rfl rfl i (by omega) Hx.out Hpx.out) hS.conv ?_; simp only [putW]) | (refine takeIf (i := 4) rfl (by kernel_rfl) (fun _ _ _ h => h) (yLoadAll (fun _ h => h) rfl rfl rfl Hyl.out) hS.conv ?_; simp only [putW]) | (refine takeIf (i := 4) rfl (by kernel_rfl) (fun _ _ _ h => h) (yMove rfl rfl rfl) hS.conv ?_; simp only [evW, putW]) | (refine takeIf (i := 4) rfl (by kernel_rfl) (fun _ _ _ h => h) (yLoad1 (fun _ h => h) rfl rfl rfl rfl) hS.conv ?_; simp only [putW]) | (refine takeIf (i := 4) rfl (by kernel_rfl) (fun _ _ _ h => h) (yLoadAll (fun _ h => h) rfl rfl rfl rfl) hS.conv ?_; simp only [putW]) | (apply takeIf (i := 4) rfl (by kernel_rfl) (fun _ _ _ h => h); (focus (apply yRun rfl; intro w; first | (go_simp; done) | (go_simp; rfl))); (focus (exact hS.conv)); simp only [putW])); (first | (refine takeIf (i := 5) rfl (by kernel_rfl) (fun _ _ _ h => h) (yLoadSN (f := tupF) (fun _ h => h) rfl rfl rfl i (by omega) Hx.out Hpx.out) hS.conv ?_; simp only [putW]) | (refine takeIf (i := 5) rfl (by kernel_rfl) (fun _ _ _ h => h) (yLoadAll (fun _ h => h) rfl rfl rfl Hyl.out) hS.conv ?_; simp only [putW]) | (refine takeIf (i := 5) rfl (by kernel_rfl) (fun _ _ _ h => h) (yMove rfl rfl rfl) hS.conv ?_; simp only [evW, putW]) | (refine takeIf (i := 5) rfl (by kernel_rfl) (fun _ _ _ h => h) (yLoad1 (fun _ h => h) rfl rfl rfl rfl) hS.conv ?_; simp only [putW]) | (refine takeIf (i := 5) rfl (by kernel_rfl) (fun _ _ _ h => h) (yLoadAll (fun _ h => h) rfl rfl rfl rfl) hS.conv ?_; simp only [putW]) | (apply takeIf (i := 5) rfl (by kernel_rfl) (fun _ _ _ h => h); (focus (apply yRun rfl; intro w; first | (go_simp; done) | (go_simp; rfl))); (focus (exact hS.conv)); simp only [putW])); (first | (refine takeIf (i := 6) rfl (by kernel_rfl) (fun _ _ _ h => h) (yLoadSN (f := tupF) (fun _ h => h) rfl rfl rfl i (by omega) Hx.out Hpx.out) hS.conv ?_; simp only [putW]) | (refine takeIf (i := 6) rfl (by kernel_rfl) (fun _ _ _ h => h) (yLoadAll (fun _ h => h) rfl rfl rfl Hyl.out) hS.conv ?_; simp only [putW]) | (refine takeIf (i := 6) rfl (by kernel_rfl) (fun _ _ _ h => h) (yMove rfl rfl rfl) hS.conv ?_; simp only [evW, putW]) | (refine takeIf (i := 6) rfl (by kernel_rfl) (fun _ _ _ h => h) (yLoad1 (fun _ h => h) rfl rfl rfl rfl) hS.conv ?_; simp only [putW]) | (refine takeIf (i := 6) rfl (by kernel_rfl) (fun _ _ _ h => h) (yLoadAll (fun _ h => h) rfl rfl rfl rfl) hS.conv ?_; simp only [putW]) | (apply takeIf (i := 6) rfl (by kernel_rfl) (fun _ _ _ h => h); (focus (apply yRun rfl; intro w; first | (go_simp; done) | (go_simp; rfl))); (focus (exact hS.conv)); simp only [putW])); (first | (refine takeIf (i := 8) rfl (by kernel_rfl) (fun _ _ _ h => h) (yLoadSN (f := tupF) (fun _ h => h) rfl rfl rfl i (by omega) Hx.out Hpx.out) hS.conv ?_; simp only [putW]) | (refine takeIf (i := 8) rfl (by kernel_rfl) (fun _ _ _ h => h) (yLoadAll (fun _ h => h) rfl rfl rfl Hyl.out) hS.conv ?_; simp only [putW]) | (refine takeIf (i := 8) rfl (by kernel_rfl) (fun _ _ _ h => h) (yMove rfl rfl rfl) hS.conv ?_; simp only [evW, putW]) | (refine takeIf (i := 8) rfl (by kernel_rfl) (fun _ _ _ h => h) (yLoad1 (fun _ h => h) rfl rfl rfl rfl) hS.conv ?_; simp only [putW]) | (refine takeIf (i := 8) rfl (by kernel_rfl) (fun _ _ _ h => h) (yLoadAll (fun _ h => h) rfl rfl rfl rfl) hS.conv ?_; simp only [putW]) | (apply takeIf (i := 8) rfl (by kernel_rfl) (fun _ _ _ h => h); (focus (apply yRun rfl; intro w; first | (go_simp; done) | (go_simp; rfl))); (focus (exact hS.conv)); simp only [putW])); refine wpAnyH_all (rs := [7]) (by kernel_rfl) (by simp) ?_; intro i hi; simp only [List.mem_cons, List.not_mem_nil, or_false] at hi; subst hi; refine wpOp_of_list rfl ?_; go_wp2_with (first | ((go_at_call 33; refine Calls.mono (own_any (t := x.2.2) Hpx.out Hx12.out (HR hS).1.ra (HR hS).1.rs hla hls) ?_; rintro _ w2 ⟨q1, c1, q2, c2, rfl, h2⟩; replace hS := hS.frame h2; clear h2; (try simp only [List.cons_append, List.nil_append] at hS); simp only [putW]); (obtain ⟨rn, hrn⟩ : ∃ rn : TupV, (.slice q1 x.2.2.2.2.1.length c1, .slice q2 x.2.2.2.2.2.length c2, x.2.2) = rn := ⟨_, rfl⟩; have HNr : Bx _ := ⟨hrn⟩; have HLr : Bx ((tupF rn).length = 15) := ⟨by rw [← hrn]; exact tupF_len Hx12.out⟩; have HCr : Bx (∀ u ∈ tupF rn, u.oneCell' = true) := ⟨by rw [← hrn]; exact tupF_cell rfl rfl⟩; rw [hrn]; clear hrn; obtain ⟨prn, hprn⟩ : ∃ p, tupF rn = p := ⟨_, rfl⟩; have HPr : Bx _ := ⟨hprn⟩; rw [hprn] at HLr HCr ⊢; clear hprn)) | (refine load1 hS rfl rfl rfl rfl ?_; simp only [putW]) | (refine loadAll hS rfl rfl rfl ?_ ?_; rfl; simp only [putW]) | (refine loadPart hS rfl rfl rfl ?_ rfl ?_; rfl; simp only [putW]) | (refine store1 hS rfl rfl rfl rfl rfl ?_ ?_; (focus (simp; done)); clear hS; intro w hS; simp only [evW, putW] at hS; try simp only [putW]) | (refine storeAll hS rfl rfl rfl rfl ?_ ?_ ?_ ?_; rfl; (focus (simp [Value.oneCell']; done)); rfl; clear hS; intro w hS; try simp only [putW]) | (refine storeN hS rfl rfl rfl rfl ?_ ?_ ?_ ?_; rfl; (focus (simp [Value.oneCell']; done)); (focus (simp; done)); clear hS; intro w hS; simp at hS; try simp only [putW]) | (refine alloc hS rfl rfl ?_; clear hS; intro mb w hS; simp only [putW]) | (refine box1 hS rfl rfl rfl rfl ?_; clear hS; intro mb w hS; try simp only [evW, putW] at hS; simp only [putW]) | (refine boxN hS rfl rfl rfl ?_; clear hS; intro mb w hS; simp only [putW])); refine ⟨rfl, hS.conv, ?_⟩; refine wpAnyH_all (rs := [9]) (by kernel_rfl) (by simp) ?_; intro i hi; simp only [List.mem_cons, List.not_mem_nil, or_false] at hi; subst hi; refine wpOp_of_list rfl ?_; go_wp2_with (first | ((go_at_call 33; refine Calls.mono (own_any (t := y.2.2) Hpy.out Hn12.out (HR hS).2.ra (HR hS).2.rs hma hms) ?_; rintro _ w2 ⟨q3, c3, q4, c4, rfl, h2⟩; replace hS := hS.frame h2; clear h2; (try simp only [List.cons_append, List.nil_append] at hS); simp only [putW]); (obtain ⟨sn, hsn⟩ : ∃ sn : TupV, (.slice q3 y.2.2.2.2.1.length c3, .slice q4 y.2.2.2.2.2.length c4, y.2.2) = sn := ⟨_, rfl⟩; have HNs : Bx _ := ⟨hsn⟩; have HLs : Bx ((tupF sn).length = 15) := ⟨by rw [← hsn]; exact tupF_len Hn12.out⟩; have HCs : Bx (∀ u ∈ tupF sn, u.oneCell' = true) := ⟨by rw [← hsn]; exact tupF_cell rfl rfl⟩; rw [hsn]; clear hsn; obtain ⟨psn, hpsn⟩ : ∃ p, tupF sn = p := ⟨_, rfl⟩; have HPs : Bx _ := ⟨hpsn⟩; rw [hpsn] at HLs HCs ⊢; clear hpsn)) | (refine load1 hS rfl rfl rfl rfl ?_; simp only [putW]) | (refine loadAll hS rfl rfl rfl ?_ ?_; rfl; simp only [putW]) | (refine loadPart hS rfl rfl rfl ?_ rfl ?_; rfl; simp only [putW]) | (refine store1 hS rfl rfl rfl rfl rfl ?_ ?_; (focus (simp; done)); clear hS; intro w hS; simp only [evW, putW] at hS; try simp only [putW]) | (refine storeAll hS rfl rfl rfl rfl ?_ ?_ ?_ ?_; rfl; (focus (simp [Value.oneCell']; done)); rfl; clear hS; intro w hS; try simp only [putW]) | (refine storeN hS rfl rfl rfl rfl ?_ ?_ ?_ ?_; rfl; (focus (simp [Value.oneCell']; done)); (focus (simp; done)); clear hS; intro w hS; simp at hS; try simp only [putW]) | (refine alloc hS rfl rfl ?_; clear hS; intro mb w hS; simp only [putW]) | (refine box1 hS rfl rfl rfl rfl ?_; clear hS; intro mb w hS; try simp only [evW, putW] at hS; simp only [putW]) | (refine boxN hS rfl rfl rfl ?_; clear hS; intro mb w hS; simp only [putW])); refine ⟨rfl, hS.conv, ?_⟩; refine wpAnyH_all (rs := [10]) (by kernel_rfl) (by simp) ?_; intro i hi; simp only [List.mem_cons, List.not_mem_nil, or_false] at hi; subst hi; refine wpOp_of_list rfl ?_; go_wp2_with (first | (refine storeAll (cs := prn.toArray) hS rfl rfl rfl rfl ?_ ?_ ?_ ?_; (focus exact HLr.out); (focus exact HCr.out); (focus exact hzs2); clear hS; intro w hS; try simp only [putW]) | (refine load1 hS rfl rfl rfl rfl ?_; simp only [putW]) | (refine loadAll hS rfl rfl rfl ?_ ?_; rfl; simp only [putW]) | (refine loadPart hS rfl rfl rfl ?_ rfl ?_; rfl; simp only [putW]) | (refine store1 hS rfl rfl rfl rfl rfl ?_ ?_; (focus (simp; done)); clear hS; intro w hS; simp only [evW, putW] at hS; try simp only [putW]) | (refine storeAll hS rfl rfl rfl rfl ?_ ?_ ?_ ?_; rfl; (focus (simp [Value.oneCell']; done)); rfl; clear hS; intro w hS; try simp only [putW]) | (refine storeN hS rfl rfl rfl rfl ?_ ?_ ?_ ?_; rfl; (focus (simp [Value.oneCell']; done)); (focus (simp; done)); clear hS; intro w hS; simp at hS; try simp only [putW]) | (refine alloc hS rfl rfl ?_; clear hS; intro mb w hS; simp only [putW]) | (refine box1 hS rfl rfl rfl rfl ?_; clear hS; intro mb w hS; try simp only [evW, putW] at hS; simp only [putW]) | (refine boxN hS rfl rfl rfl ?_; clear hS; intro mb w hS; simp only [putW])); refine ⟨rfl, hS.conv, ?_⟩; refine wpAnyH_all (rs := [11]) (by kernel_rfl) (by simp) ?_; intro i hi; simp only [List.mem_cons, List.not_mem_nil, or_false] at hi; subst hi; refine wpOp_of_list rfl ?_; go_wp2_with (first | (refine storeAll (cs := psn.toArray) hS rfl rfl rfl rfl ?_ ?_ ?_ ?_; (focus exact HLs.out); (focus exact HCs.out); (focus exact hzs2); clear hS; intro w hS; try simp only [putW]) | (refine load1 hS rfl rfl rfl rfl ?_; simp only [putW]) | (refine loadAll hS rfl rfl rfl ?_ ?_; rfl; simp only [putW]) | (refine loadPart hS rfl rfl rfl ?_ rfl ?_; rfl; simp only [putW]) | (refine store1 hS rfl rfl rfl rfl rfl ?_ ?_; (focus (simp; done)); clear hS; intro w hS; simp only [evW, putW] at hS; try simp only [putW]) | (refine storeAll hS rfl rfl rfl rfl ?_ ?_ ?_ ?_; rfl; (focus (simp [Value.oneCell']; done)); rfl; clear hS; intro w hS; try simp only [putW]) | (refine storeN hS rfl rfl rfl rfl ?_ ?_ ?_ ?_; rfl; (focus (simp [Value.oneCell']; done)); (focus (simp; done)); clear hS; intro w hS; simp at hS; try simp only [putW]) | (refine alloc hS rfl rfl ?_; clear hS; intro mb w hS; simp only [putW]) | (refine box1 hS rfl rfl rfl rfl ?_; clear hS; intro mb w hS; try simp only [evW, putW] at hS; simp only [putW]) | (refine boxN hS rfl rfl rfl ?_; clear hS; intro mb w hS; simp only [putW])); refine ⟨rfl, hS.conv, ?_⟩; (first | (refine takeIf (i := 12) rfl (by kernel_rfl) (fun _ _ _ h => h) (yLoadSN (f := tupF) (fun _ h => h) rfl rfl rfl i (by omega) Hx.out Hpx.out) hS.conv ?_; simp only [putW]) | (refine takeIf (i := 12) rfl (by kernel_rfl) (fun _ _ _ h => h) (yLoadAll (fun _ h => h) rfl rfl rfl Hyl.out) hS.conv ?_; simp only [putW]) | (refine takeIf (i := 12) rfl (by kernel_rfl) (fun _ _ _ h => h) (yMove rfl rfl rfl) hS.conv ?_; simp only [evW, putW]) | (refine takeIf (i := 12) rfl (by kernel_rfl) (fun _ _ _ h => h) (yLoad1 (fun _ h => h) rfl rfl rfl rfl) hS.conv ?_; simp only [putW]) | (refine takeIf (i := 12) rfl (by kernel_rfl) (fun _ _ _ h => h) (yLoadAll (fun _ h => h) rfl rfl rfl rfl) hS.conv ?_; simp only [putW]) | (apply takeIf (i := 12) rfl (by kernel_rfl) (fun _ _ _ h => h); (focus (apply yRun rfl; intro w; first | (go_simp; done) | (go_simp; rfl))); (focus (exact hS.conv)); simp only [putW])); refine wpAnyH_done (by kernel_rfl) ?_ _; skip)
        go_wp2_with (first | (refine load1 hS rfl rfl rfl rfl ?_; simp only [putW]) | (refine loadAll hS rfl rfl rfl ?_ ?_; rfl; simp only [putW]) | (refine loadPart hS rfl rfl rfl ?_ rfl ?_; rfl; simp only [putW]) | (refine store1 hS rfl rfl rfl rfl rfl ?_ ?_; (focus (simp; done)); clear hS; intro w hS; simp only [evW, putW] at hS; try simp only [putW]) | (refine storeAll hS rfl rfl rfl rfl ?_ ?_ ?_ ?_; rfl; (focus (simp [Value.oneCell']; done)); rfl; clear hS; intro w hS; try simp only [putW]) | (refine storeN hS rfl rfl rfl rfl ?_ ?_ ?_ ?_; rfl; (focus (simp [Value.oneCell']; done)); (focus (simp; done)); clear hS; intro w hS; simp at hS; try simp only [putW]) | (refine alloc hS rfl rfl ?_; clear hS; intro mb w hS; simp only [putW]) | (refine box1 hS rfl rfl rfl rfl ?_; clear hS; intro mb w hS; try simp only [evW, putW] at hS; simp only [putW]) | (refine boxN hS rfl rfl rfl ?_; clear hS; intro mb w hS; simp only [putW]))
        have hr := run_loadAll (P := Tryd.prog) hS m2 46 HLr.out
        have hr2 := run_loadAll (P := Tryd.prog) hS m3 46 HLs.out
        refine bodyPost_ret (v := .tuple #[.agg prn.toArray, .agg psn.toArray, .bool true]) (by simp [results, Tryd.results22, asAddr, hr, hr2]) rfl (.inr ⟨i, k, x.2.2, y.2.2, q1, c1, q2, c2, q3, c3, q4, c4, ⟨hik, by rw [List.getElem?_map, Hx.out]; rfl, by rw [List.getElem?_map, Hy.out]; rfl, Hxn.out, hno.out⟩, by rw [← HPr.out, ← HPs.out, ← HNr.out, ← HNs.out], ?_⟩)
        have h1 := (hS.pull gs (X := slc 15 tupF Y cs 46)).slOfSlc
        rw [HnY.out] at h1
        exact h1.conv
    | zero =>
      have hkn : k = nY := by omega
      subst hkn
      have hzs2 := hzs.out
      have tok : True := trivial
      have hz15 : (tupF (.slice none 0 0, .slice none 0 0, zT)).toArray.size = 15 := rfl
      go_wp2_with (first | (have _t := tok; refine storeAll (b := m2) (cs := (tupF (.slice none 0 0, .slice none 0 0, zT)).toArray) hS rfl rfl rfl rfl ?_ ?_ ?_ ?_; (focus rfl); (focus (rw [List.toList_toArray]; exact tupF_cell rfl rfl)); (focus exact hzs2); clear hS tok; intro w hS; try simp only [putW]) | (refine storeAll (b := m3) (cs := (tupF (.slice none 0 0, .slice none 0 0, zT)).toArray) hS rfl rfl rfl rfl ?_ ?_ ?_ ?_; (focus rfl); (focus (rw [List.toList_toArray]; exact tupF_cell rfl rfl)); (focus exact hzs2); clear hS; intro w hS; try simp only [putW]) | (refine load1 hS rfl rfl rfl rfl ?_; simp only [putW]) | (refine loadAll hS rfl rfl rfl ?_ ?_; rfl; simp only [putW]) | (refine loadPart hS rfl rfl rfl ?_ rfl ?_; rfl; simp only [putW]) | (refine store1 hS rfl rfl rfl rfl rfl ?_ ?_; (focus (simp; done)); clear hS; intro w hS; simp only [evW, putW] at hS; try simp only [putW]) | (refine storeAll hS rfl rfl rfl rfl ?_ ?_ ?_ ?_; rfl; (focus (simp [Value.oneCell']; done)); rfl; clear hS; intro w hS; try simp only [putW]) | (refine storeN hS rfl rfl rfl rfl ?_ ?_ ?_ ?_; rfl; (focus (simp [Value.oneCell']; done)); (focus (simp; done)); clear hS; intro w hS; simp at hS; try simp only [putW]) | (refine alloc hS rfl rfl ?_; clear hS; intro mb w hS; simp only [putW]) | (refine box1 hS rfl rfl rfl rfl ?_; clear hS; intro mb w hS; try simp only [evW, putW] at hS; simp only [putW]) | (refine boxN hS rfl rfl rfl ?_; clear hS; intro mb w hS; simp only [putW]))
      have hr := run_loadAll (P := Tryd.prog) hS m2 46 hz15
      have hr2 := run_loadAll (P := Tryd.prog) hS m3 46 hz15
      refine bodyPost_ret (v := .tuple #[.agg (tupF (.slice none 0 0, .slice none 0 0, zT)).toArray, .agg (tupF (.slice none 0 0, .slice none 0 0, zT)).toArray, .bool false]) (by simp [results, Tryd.results22, asAddr, hr, hr2]) rfl (.inl ⟨rfl, hno.out, hS.conv⟩)
set_option maxRecDepth 100000 in
set_option maxHeartbeats 4000000 in
theorem blocks_open (hY : ∀ y ∈ Y, TupOk y.2.2) (hYl : Y.length ≤ 1000000)
    (hS : Sat w0 ((l, cells #[vp, vs, vo] 70) :: (blk vs, sl 15 tupF Y 46 vs) :: (1, inn (rowsT Y) 5) :: K) w) :
    Calls Tryd.prog 24 #[.pointer (some ⟨l, 0, none⟩)] w fun e w' => ∃ v B, e = .returned v ∧ B.map (·.2) = Y.map (·.2.2.2.2.2) ∧ Sat w0 ((blk v, sl 1 rowF B 31 v) :: (5, inn B 5) :: (l, cells #[vp, vs, vo] 70) :: (blk vs, sl 15 tupF Y 46 vs) :: (1, inn (rowsT Y) 5) :: K) w' := by
  have HYk : Bx _ := ⟨hY⟩
  clear hY
  obtain ⟨nY, hnY⟩ : ∃ n, Y.length = n := ⟨_, rfl⟩
  obtain ⟨qs, cs, e1⟩ := slShape (hS.pull (blk vs) (X := sl 15 tupF Y 46 vs))
  rw [hnY] at e1 hYl
  subst e1
  have HnY : Bx _ := ⟨hnY⟩
  clear hnY
  go_enter Tryd.func24, Tryd.ntmps24
  go_wp2_with (first | (refine load1 hS rfl rfl rfl rfl ?_; simp only [putW]) | (refine loadAll hS rfl rfl rfl ?_ ?_; rfl; simp only [putW]) | (refine loadPart hS rfl rfl rfl ?_ rfl ?_; rfl; simp only [putW]) | (refine store1 hS rfl rfl rfl rfl rfl ?_ ?_; (focus (simp; done)); clear hS; intro w hS; simp only [evW, putW] at hS; try simp only [putW]) | (refine storeAll hS rfl rfl rfl rfl ?_ ?_ ?_ ?_; rfl; (focus (simp [Value.oneCell']; done)); rfl; clear hS; intro w hS; try simp only [putW]) | (refine storeN hS rfl rfl rfl rfl ?_ ?_ ?_ ?_; rfl; (focus (simp [Value.oneCell']; done)); (focus (simp; done)); clear hS; intro w hS; simp at hS; try simp only [putW]) | (refine alloc hS rfl rfl ?_; clear hS; intro mb w hS; simp only [putW]) | (refine box1 hS rfl rfl rfl rfl ?_; clear hS; intro mb w hS; try simp only [evW, putW] at hS; simp only [putW]) | (refine boxN hS rfl rfl rfl ?_; clear hS; intro mb w hS; simp only [putW]))
  go_loopg [3, 13] nY (fun g v i wr => ∃ (k : Nat) (B : List (Value × List Int)), k + g = nY ∧ i = .int .i64 k ∧ Bx (B.map (·.2) = (Y.take k).map (·.2.2.2.2.2)) ∧ Sat w0 ((blk v, sl 1 rowF B 31 v) :: (5, inn B 5) :: (l, cells #[vp, .slice qs nY cs, vo] 70) :: (blk (.slice qs nY cs), sl 15 tupF Y 46 (.slice qs nY cs)) :: (1, inn (rowsT Y) 5) :: K) wr)
  case atStart => exact ⟨0, [], by omega, rfl, ⟨rfl⟩, (hS.innNil 5 5).slNil 1 rowF 31⟩
  case round =>
    clear hS
    obtain ⟨k, B, hkg, rfl, hB, hS⟩ := hrel
    have hBl : B.length = k := by have := congrArg List.length hB.out; simp [HnY.out] at this; omega
    have hBl2 : B.length ≤ 1000000 := by omega
    clear hBl
    cases gk with
    | succ g =>
      have hlt : k < nY := by omega
      have hlti : (k : Int) < (nY : Int) := by omega
      obtain ⟨y, hy⟩ : ∃ y, Y[k]? = some y := ⟨_, List.getElem?_eq_getElem (by rw [HnY.out]; exact hlt)⟩
      have hym := List.mem_of_getElem? hy
      have hyo := HYk.out y hym
      have hyr : TupRd wr y := rdT (hS.pull 1 (X := inn (rowsT Y) 5)) HYk.out y hym
      obtain ⟨py, hpy⟩ : ∃ py, tupF y = py := ⟨_, rfl⟩
      have Hyc : Bx (∀ u ∈ py, u.oneCell' = true) := ⟨by rw [← hpy]; exact hyr.cell⟩
      have hin : TupIn y py := by rw [← hpy]; exact tupIn hyo.2.1.1
      have Hyl : Bx (py.length = 15) := ⟨hin.len⟩
      have y14 : Bx (CellIs py.toArray 14 y.2.1) := ⟨⟨by simpa using hin.sea⟩⟩
      have Hpy : Bx _ := ⟨hpy⟩
      have Hy : Bx _ := ⟨hy⟩
      have Hym : Bx _ := ⟨hym⟩
      have hyl : y.2.2.2.2.2.length ≤ 140737488355328 := Nat.le_trans hyo.2.2.2.1 (by omega)
      have hnx : Bx ((Y.take (k + 1)).map (·.2.2.2.2.2) = (Y.take k).map (·.2.2.2.2.2) ++ [y.2.2.2.2.2]) := ⟨by rw [List.take_add_one, hy, List.map_append]; rfl⟩
      clear hpy hin hyo hyr hym hlt
      obtain ⟨gs, cap, e1, hS2⟩ := (hS.pull (blk (.slice qs nY cs)) (X := sl 15 tupF Y 46 (.slice qs nY cs))).slFormC nY HnY.out (by omega)
      cases e1
      clear hS
      have hS := hS2
      clear hS2
      go_wp2_with (first | (refine loadSN (f := tupF) (vs := py) hS rfl rfl rfl k 0 ?_ hy ?_ ?_ ?_; (focus omega); (focus omega); (focus (rw [List.drop_zero, Hpy.out, List.take_of_length_le (by rw [Hyl.out]; omega)])); simp only [putW]) | (refine alloc (t := 46) hS rfl rfl ?_; clear hS; intro my w hS; simp only [putW]) | (refine storeAll (cs := py.toArray) hS rfl rfl rfl rfl ?_ ?_ ?_ ?_; (focus exact Hyl.out); (focus exact Hyc.out); (focus rfl); clear hS; intro w hS; try simp only [putW]) | (refine loadC hS rfl rfl rfl y14.out ?_; simp only [putW]) | (guard_target =~ Calls _ 32 _ _ _; refine Stopped.out ?_) | (refine load1 hS rfl rfl rfl rfl ?_; simp only [putW]) | (refine loadAll hS rfl rfl rfl ?_ ?_; rfl; simp only [putW]) | (refine loadPart hS rfl rfl rfl ?_ rfl ?_; rfl; simp only [putW]) | (refine store1 hS rfl rfl rfl rfl rfl ?_ ?_; (focus (simp; done)); clear hS; intro w hS; simp only [evW, putW] at hS; try simp only [putW]) | (refine storeAll hS rfl rfl rfl rfl ?_ ?_ ?_ ?_; rfl; (focus (simp [Value.oneCell']; done)); rfl; clear hS; intro w hS; try simp only [putW]) | (refine storeN hS rfl rfl rfl rfl ?_ ?_ ?_ ?_; rfl; (focus (simp [Value.oneCell']; done)); (focus (simp; done)); clear hS; intro w hS; simp at hS; try simp only [putW]) | (refine alloc hS rfl rfl ?_; clear hS; intro mb w hS; simp only [putW]) | (refine box1 hS rfl rfl rfl rfl ?_; clear hS; intro mb w hS; try simp only [evW, putW] at hS; simp only [putW]) | (refine boxN hS rfl rfl rfl ?_; clear hS; intro mb w hS; simp only [putW]))
      refine ⟨?_⟩
      clear hy
      (refine Calls.mono (clone_any (rdT (hS.pull 1 (X := inn (rowsT Y) 5)) HYk.out y Hym.out).rs hyl) ?_; rintro _ w2 ⟨vc, rfl, h2⟩; replace hS := hS.frame h2; clear h2; (try simp only [List.cons_append, List.nil_append] at hS); simp only [putW])
      obtain ⟨q1, c1, hvc⟩ := restShape hS
      subst hvc
      go_wp2_with (first | (refine buildSlice1 (c := #[.slice q1 y.2.2.2.2.2.length c1]) hS rfl rfl rfl ?_ ?_ ?_ ?_; rfl; rfl; rfl; clear hS; intro mb w hS; simp only [putW]) | (refine append1 (f := rowF) (n := 1) hS rfl rfl u3 rfl rfl ((.slice q1 y.2.2.2.2.2.length c1, y.2.2.2.2.2) : Value × List Int) rfl ?_ rfl ?_ ?_ ?_; (focus (intro u hu; rw [List.mem_singleton.1 hu]; rfl)); (focus (simp [maxLen]; omega)); (focus omega); clear hS; intro v' w hS; simp only [putW]) | (refine load1 hS rfl rfl rfl rfl ?_; simp only [putW]) | (refine loadAll hS rfl rfl rfl ?_ ?_; rfl; simp only [putW]) | (refine loadPart hS rfl rfl rfl ?_ rfl ?_; rfl; simp only [putW]) | (refine store1 hS rfl rfl rfl rfl rfl ?_ ?_; (focus (simp; done)); clear hS; intro w hS; simp only [evW, putW] at hS; try simp only [putW]) | (refine storeAll hS rfl rfl rfl rfl ?_ ?_ ?_ ?_; rfl; (focus (simp [Value.oneCell']; done)); rfl; clear hS; intro w hS; try simp only [putW]) | (refine storeN hS rfl rfl rfl rfl ?_ ?_ ?_ ?_; rfl; (focus (simp [Value.oneCell']; done)); (focus (simp; done)); clear hS; intro w hS; simp at hS; try simp only [putW]) | (refine alloc hS rfl rfl ?_; clear hS; intro mb w hS; simp only [putW]) | (refine box1 hS rfl rfl rfl rfl ?_; clear hS; intro mb w hS; try simp only [evW, putW] at hS; simp only [putW]) | (refine boxN hS rfl rfl rfl ?_; clear hS; intro mb w hS; simp only [putW]))
      have h1 := (hS.pull gs (X := slc 15 tupF Y cs 46)).slOfSlc
      rw [HnY.out] at h1
      have h2 := h1.innAdd (j := 5) (X := B) (A := y.2.2.2.2.2) (t := 5) (.slice q1 y.2.2.2.2.2.length c1) rfl
      go_roundg g
      case measure => omega
      case rel => exact ⟨k + 1, B ++ [(.slice q1 y.2.2.2.2.2.length c1, y.2.2.2.2.2)], by omega, by go_num, ⟨by rw [List.map_append, hB.out, hnx.out]; rfl⟩, h2.conv⟩
    | zero =>
      have hkn : k = nY := by omega
      subst hkn
      go_wp2_with (first | (refine load1 hS rfl rfl rfl rfl ?_; simp only [putW]) | (refine loadAll hS rfl rfl rfl ?_ ?_; rfl; simp only [putW]) | (refine loadPart hS rfl rfl rfl ?_ rfl ?_; rfl; simp only [putW]) | (refine store1 hS rfl rfl rfl rfl rfl ?_ ?_; (focus (simp; done)); clear hS; intro w hS; simp only [evW, putW] at hS; try simp only [putW]) | (refine storeAll hS rfl rfl rfl rfl ?_ ?_ ?_ ?_; rfl; (focus (simp [Value.oneCell']; done)); rfl; clear hS; intro w hS; try simp only [putW]) | (refine storeN hS rfl rfl rfl rfl ?_ ?_ ?_ ?_; rfl; (focus (simp [Value.oneCell']; done)); (focus (simp; done)); clear hS; intro w hS; simp at hS; try simp only [putW]) | (refine alloc hS rfl rfl ?_; clear hS; intro mb w hS; simp only [putW]) | (refine box1 hS rfl rfl rfl rfl ?_; clear hS; intro mb w hS; try simp only [evW, putW] at hS; simp only [putW]) | (refine boxN hS rfl rfl rfl ?_; clear hS; intro mb w hS; simp only [putW]))
      refine bodyPost_ret (v := u3) (by simp [results, Tryd.results24]) rfl ⟨u3, B, rfl, ?_, hS.conv⟩
      rw [hB.out, List.take_of_length_le (by rw [HnY.out]; exact Nat.le_refl _)]
end
end Go.Proofs.YteoidocicjlglaaDoor
