/-
  ghost.Forged.
-/
import Derived.Test.YteoidocicjlglaaDoorGhOwn
import Derived.Test.YteoidocicjlglaaDoorGhBag
import Derived.Deep.LoopGhost
set_option linter.unusedSimpArgs false
set_option linter.unusedVariables false
namespace Go.Proofs.YteoidocicjlglaaDoor
open Go.RowKit Go.Proofs.YteoidocicjlglaaDoor.Sl Go.Proofs.YteoidocicjlglaaDoor.Sha Go.Proofs.YteoidocicjlglaaDoor.Jp

def zT : Tup := (0, List.replicate 12 0, [], [])
theorem rowsT_a {Y : List TupV} {y : TupV} (h : y ∈ Y) : (y.1, y.2.2.2.2.1) ∈ rowsT Y := List.mem_flatMap.2 ⟨y, h, by simp⟩
theorem rowsT_s {Y : List TupV} {y : TupV} (h : y ∈ Y) : (y.2.1, y.2.2.2.2.2) ∈ rowsT Y := List.mem_flatMap.2 ⟨y, h, by simp⟩
section
variable {w0 w : World} {K F S : List Chunk} {l j : Nat} {vp vs vo v : Value} {Y Z : List TupV} {Ss Os : List Tup}
theorem rdT (h : Sat w0 ((j, inn (rowsT Y) 5) :: F) w) (hY : ∀ y ∈ Y, TupOk y.2.2) : ∀ y ∈ Y, TupRd w y := fun y hy =>
  ⟨hY y hy, h.innReads (rowsT_a hy) (hY y hy).2.2.1.2, h.innReads (rowsT_s hy) (hY y hy).2.2.2.2⟩
theorem slShape {α : Type} {n : Nat} {f : α → List Value} {X : List α} {t : TypeId} {g : Nat} (h : Sat w0 ((g, sl n f X t v) :: F) w) : ∃ q c, v = .slice q X.length c := by
  rcases h.slCases with ⟨rfl, rfl, _⟩ | ⟨c, rfl, _⟩
  · exact ⟨none, 0, rfl⟩
  · exact ⟨_, _, rfl⟩
set_option maxRecDepth 100000 in
set_option maxHeartbeats 4000000 in
theorem forged_open (hY : ∀ y ∈ Y, TupOk y.2.2) (hZ : ∀ z ∈ Z, TupOk z.2.2) (hYl : Y.length ≤ 1000000) (hZl : Z.length ≤ 1000000)
    (hS : Sat w0 ((l, cells #[vp, vs, vo] 70) :: (blk vs, sl 15 tupF Y 46 vs) :: (1, inn (rowsT Y) 5) :: (blk vo, sl 15 tupF Z 46 vo) :: (2, inn (rowsT Z) 5) :: K) w) :
    Calls Tryd.prog 16 #[.pointer (some ⟨l, 0, none⟩)] w fun e w' =>
      (e = .returned (.tuple #[.agg (tupF (.slice none 0 0, .slice none 0 0, zT)).toArray, .bool false]) ∧ NoForged (Y.map (·.2.2)) (Z.map (·.2.2)) Z.length ∧ Sat w0 ((l, cells #[vp, vs, vo] 70) :: (blk vs, sl 15 tupF Y 46 vs) :: (1, inn (rowsT Y) 5) :: (blk vo, sl 15 tupF Z 46 vo) :: (2, inn (rowsT Z) 5) :: K) w') ∨
      ∃ j t q1 c1 q2 c2, ForgedAt (Y.map (·.2.2)) (Z.map (·.2.2)) j t ∧ e = .returned (.tuple #[.agg (tupF (.slice q1 t.2.2.1.length c1, .slice q2 t.2.2.2.length c2, t)).toArray, .bool true]) ∧
        Sat w0 ((blk (.slice q1 t.2.2.1.length c1), sl 1 by8 t.2.2.1 5 (.slice q1 t.2.2.1.length c1)) :: (blk (.slice q2 t.2.2.2.length c2), sl 1 by8 t.2.2.2 5 (.slice q2 t.2.2.2.length c2)) :: (l, cells #[vp, vs, vo] 70) :: (blk vs, sl 15 tupF Y 46 vs) :: (1, inn (rowsT Y) 5) :: (blk vo, sl 15 tupF Z 46 vo) :: (2, inn (rowsT Z) 5) :: K) w' := by
  have HYk : Bx _ := ⟨hY⟩
  have HZk : Bx _ := ⟨hZ⟩
  clear hY hZ
  obtain ⟨nY, hnY⟩ : ∃ n, Y.length = n := ⟨_, rfl⟩
  obtain ⟨nZ, hnZ⟩ : ∃ n, Z.length = n := ⟨_, rfl⟩
  obtain ⟨qs, cs, e1⟩ := slShape (hS.pull (blk vs) (X := sl 15 tupF Y 46 vs))
  obtain ⟨qo, co, e2⟩ := slShape (hS.pull (blk vo) (X := sl 15 tupF Z 46 vo))
  rw [hnY] at e1 hYl
  rw [hnZ] at e2 hZl
  subst e1 e2
  have HnY : Bx _ := ⟨hnY⟩
  have HnZ : Bx _ := ⟨hnZ⟩
  rw [hnZ]
  clear hnY hnZ
  go_enter Tryd.func16, Tryd.ntmps16
  go_wp2_with (first | (refine alloc hS rfl rfl ?_; clear hS; intro m2 w hS; simp only [putW]) | (refine load1 hS rfl rfl rfl rfl ?_; simp only [putW]) | (refine loadAll hS rfl rfl rfl ?_ ?_; rfl; simp only [putW]) | (refine loadPart hS rfl rfl rfl ?_ rfl ?_; rfl; simp only [putW]) | (refine store1 hS rfl rfl rfl rfl rfl ?_ ?_; (focus (simp; done)); clear hS; intro w hS; simp only [evW, putW] at hS; try simp only [putW]) | (refine storeAll hS rfl rfl rfl rfl ?_ ?_ ?_ ?_; rfl; (focus (simp [Value.oneCell']; done)); rfl; clear hS; intro w hS; try simp only [putW]) | (refine storeN hS rfl rfl rfl rfl ?_ ?_ ?_ ?_; rfl; (focus (simp [Value.oneCell']; done)); (focus (simp; done)); clear hS; intro w hS; simp at hS; try simp only [putW]) | (refine alloc hS rfl rfl ?_; clear hS; intro mb w hS; simp only [putW]) | (refine box1 hS rfl rfl rfl rfl ?_; clear hS; intro mb w hS; try simp only [evW, putW] at hS; simp only [putW]) | (refine boxN hS rfl rfl rfl ?_; clear hS; intro mb w hS; simp only [putW]))
  go_step3
  go_wp2_with (first | (refine makeMap hS rfl rfl encN  bagE ?_; clear hS; intro mb w hS; simp only [putW]) | (refine load1 hS rfl rfl rfl rfl ?_; simp only [putW]) | (refine loadAll hS rfl rfl rfl ?_ ?_; rfl; simp only [putW]) | (refine loadPart hS rfl rfl rfl ?_ rfl ?_; rfl; simp only [putW]) | (refine store1 hS rfl rfl rfl rfl rfl ?_ ?_; (focus (simp; done)); clear hS; intro w hS; simp only [evW, putW] at hS; try simp only [putW]) | (refine storeAll hS rfl rfl rfl rfl ?_ ?_ ?_ ?_; rfl; (focus (simp [Value.oneCell']; done)); rfl; clear hS; intro w hS; try simp only [putW]) | (refine storeN hS rfl rfl rfl rfl ?_ ?_ ?_ ?_; rfl; (focus (simp [Value.oneCell']; done)); (focus (simp; done)); clear hS; intro w hS; simp at hS; try simp only [putW]) | (refine alloc hS rfl rfl ?_; clear hS; intro mb w hS; simp only [putW]) | (refine box1 hS rfl rfl rfl rfl ?_; clear hS; intro mb w hS; try simp only [evW, putW] at hS; simp only [putW]) | (refine boxN hS rfl rfl rfl ?_; clear hS; intro mb w hS; simp only [putW]))
  obtain ⟨mp, rfl⟩ : ∃ mp, mp = mb := ⟨_, rfl⟩
  obtain ⟨zc, hzc⟩ : ∃ zc : Array Value, (tupF (.slice none 0 0, .slice none 0 0, zT)).toArray = zc := ⟨_, rfl⟩
  have hzs : Bx (zc.size = 15) := ⟨by rw [← hzc]; rfl⟩
  have hS2 : Sat w0 ((mp, mapC encN bagE []) :: (m2, cells (tupF (.slice none 0 0, .slice none 0 0, zT)).toArray 46) :: (l, cells #[vp, .slice qs nY cs, .slice qo nZ co] 70) :: (blk (.slice qs nY cs), sl 15 tupF Y 46 (.slice qs nY cs)) :: (1, inn (rowsT Y) 5) :: (blk (.slice qo nZ co), sl 15 tupF Z 46 (.slice qo nZ co)) :: (2, inn (rowsT Z) 5) :: K) w := hS
  clear hS
  rw [hzc] at hS2
  have hS := bagNil 7 hS2
  clear hS2 hzc
  go_loopg [21] nY (fun g i wr => ∃ (k : Nat) (m : List (Nm × BagV)), k + g = nY ∧ i = .int .i64 k ∧ Bx (BagIs Y k m) ∧ Sat w0 ((mp, mapC encN bagE m) :: (7, bagC m) :: (m2, cells zc 46) :: (l, cells #[vp, .slice qs nY cs, .slice qo nZ co] 70) :: (blk (.slice qs nY cs), sl 15 tupF Y 46 (.slice qs nY cs)) :: (1, inn (rowsT Y) 5) :: (blk (.slice qo nZ co), sl 15 tupF Z 46 (.slice qo nZ co)) :: (2, inn (rowsT Z) 5) :: K) wr)
  case atStart => exact ⟨0, [], by omega, rfl, ⟨bagIs_zero Y⟩, hS.conv⟩
  case round =>
    clear hS
    obtain ⟨k, m, hkg, rfl, hbag, hS⟩ := hrel
    cases gk with
    | succ g =>
      have hlt : k < nY := by omega
      have hlti : (k : Int) < (nY : Int) := by omega
      obtain ⟨y, hy⟩ : ∃ y, Y[k]? = some y := ⟨_, List.getElem?_eq_getElem (by rw [HnY.out]; exact hlt)⟩
      have hym := List.mem_of_getElem? hy
      have hyo := HYk.out y hym
      have hyr : TupRd wr y := rdT (hS.pull 1 (X := inn (rowsT Y) 5)) HYk.out y hym
      obtain ⟨py, hpy⟩ : ∃ py, tupF y = py := ⟨_, rfl⟩
      have Hyc : Bx (∀ u ∈ py, u.oneCell' = true) := ⟨by rw [← hpy]; exact hyr.cell⟩
      have hin : TupIn y py := by rw [← hpy]; exact tupIn hyo.2.1.1
      have Hyl : Bx (py.length = 15) := ⟨hin.len⟩
      have y0 : Bx (CellIs py.toArray 0 (.int .u32 y.2.2.1)) := ⟨⟨by simpa using hin.ep⟩⟩
      have y1 : Bx (PartIs py.toArray 1 12 (y.2.2.2.1.map u8v)) := ⟨⟨by rw [List.length_map]; exact hyo.2.1.1, by rw [List.toList_toArray]; exact hin.non⟩⟩
      obtain ⟨key, hkey⟩ : ∃ key : Nm, key = nmOf y.2.2 hyo := ⟨_, rfl⟩
      have Hkn : Bx (nameOf y.2.2 = key.1) := ⟨by rw [hkey]; rfl⟩
      have Hke : Bx (Value.agg (Value.int .u32 y.2.2.1 :: y.2.2.2.1.map u8v).toArray = encN key) := ⟨by rw [hkey]; rfl⟩
      have Hn12 : Bx (y.2.2.2.1.length = 12) := ⟨hyo.2.1.1⟩
      obtain ⟨nc, hnc⟩ : ∃ nc : List Value, Value.int .u32 y.2.2.1 :: y.2.2.2.1.map u8v = nc := ⟨_, rfl⟩
      have Hnl : Bx (nc.length = 13) := ⟨by rw [← hnc]; simp [hyo.2.1.1]⟩
      have Hncc : Bx (∀ u ∈ nc, u.oneCell' = true) := ⟨fun u hu => by
        rw [← hnc] at hu
        rcases List.mem_cons.1 hu with rfl | hu
        · rfl
        · obtain ⟨x, _, rfl⟩ := List.mem_map.1 hu; rfl⟩
      have Hnc : Bx _ := ⟨hnc⟩
      have Hpy : Bx _ := ⟨hpy⟩
      rw [hnc] at Hke
      have Hy : Bx _ := ⟨hy⟩
      clear hpy hkey hin hyo hyr hym hnc hlt
      obtain ⟨gs, cap, e1, hS2⟩ := (hS.pull (blk (.slice qs nY cs)) (X := sl 15 tupF Y 46 (.slice qs nY cs))).slFormC nY HnY.out (by omega)
      cases e1
      clear hS
      have hS := hS2
      clear hS2
      go_wp2_with (first | (refine loadSN (f := tupF) (vs := py) hS rfl rfl rfl k 0 ?_ hy ?_ ?_ ?_; (focus omega); (focus omega); (focus (rw [List.drop_zero, Hpy.out, List.take_of_length_le (by rw [Hyl.out]; omega)])); simp only [putW]) | (refine alloc (t := 46) hS rfl rfl ?_; clear hS; intro mt w hS; simp only [putW]) | (refine storeAll (cs := py.toArray) hS rfl rfl rfl rfl ?_ ?_ ?_ ?_; (focus exact Hyl.out); (focus exact Hyc.out); (focus rfl); clear hS; intro w hS; try simp only [putW]) | (refine loadC hS rfl rfl rfl y0.out ?_; simp only [putW]) | (refine loadP hS rfl rfl rfl y1.out ?_; simp only [putW]) | (refine buildNm Hn12.out rfl rfl rfl rfl ?_; rw [Hnc.out]; simp only [putW]) | (refine alloc (t := 76) hS rfl rfl ?_; clear hS; intro mn w hS; simp only [putW]) | (refine storeAll (cs := nc.toArray) hS rfl rfl rfl rfl ?_ ?_ ?_ ?_; (focus exact Hnl.out); (focus exact Hncc.out); (focus rfl); clear hS; intro w hS; try simp only [putW]) | (guard_target =~ wpList _ _ _ (Oper.mk (some 31) _ _ _ _ _ :: _) _ _; refine Stopped.out ?_) | (refine load1 hS rfl rfl rfl rfl ?_; simp only [putW]) | (refine loadAll hS rfl rfl rfl ?_ ?_; rfl; simp only [putW]) | (refine loadPart hS rfl rfl rfl ?_ rfl ?_; rfl; simp only [putW]) | (refine store1 hS rfl rfl rfl rfl rfl ?_ ?_; (focus (simp; done)); clear hS; intro w hS; simp only [evW, putW] at hS; try simp only [putW]) | (refine storeAll hS rfl rfl rfl rfl ?_ ?_ ?_ ?_; rfl; (focus (simp [Value.oneCell']; done)); rfl; clear hS; intro w hS; try simp only [putW]) | (refine storeN hS rfl rfl rfl rfl ?_ ?_ ?_ ?_; rfl; (focus (simp [Value.oneCell']; done)); (focus (simp; done)); clear hS; intro w hS; simp at hS; try simp only [putW]) | (refine alloc hS rfl rfl ?_; clear hS; intro mb w hS; simp only [putW]) | (refine box1 hS rfl rfl rfl rfl ?_; clear hS; intro mb w hS; try simp only [evW, putW] at hS; simp only [putW]) | (refine boxN hS rfl rfl rfl ?_; clear hS; intro mb w hS; simp only [putW]))
      refine ⟨?_⟩
      go_wp2_with (first | (refine loadAll (c := nc.toArray) hS rfl rfl rfl Hnl.out ?_; simp only [putW]) | (refine loadAll (c := py.toArray) hS rfl rfl rfl Hyl.out ?_; simp only [putW]) | (refine buildSlice1 (c := py.toArray) hS rfl rfl rfl Hyl.out rfl rfl ?_; clear hS; intro mb w hS; simp only [putW]) | (guard_target =~ wpList _ _ _ (Oper.mk (some 35) _ _ _ _ _ :: _) _ _; refine Stopped.out ?_) | (refine load1 hS rfl rfl rfl rfl ?_; simp only [putW]) | (refine loadAll hS rfl rfl rfl ?_ ?_; rfl; simp only [putW]) | (refine loadPart hS rfl rfl rfl ?_ rfl ?_; rfl; simp only [putW]) | (refine store1 hS rfl rfl rfl rfl rfl ?_ ?_; (focus (simp; done)); clear hS; intro w hS; simp only [evW, putW] at hS; try simp only [putW]) | (refine storeAll hS rfl rfl rfl rfl ?_ ?_ ?_ ?_; rfl; (focus (simp [Value.oneCell']; done)); rfl; clear hS; intro w hS; try simp only [putW]) | (refine storeN hS rfl rfl rfl rfl ?_ ?_ ?_ ?_; rfl; (focus (simp [Value.oneCell']; done)); (focus (simp; done)); clear hS; intro w hS; simp at hS; try simp only [putW]) | (refine alloc hS rfl rfl ?_; clear hS; intro mb w hS; simp only [putW]) | (refine box1 hS rfl rfl rfl rfl ?_; clear hS; intro mb w hS; try simp only [evW, putW] at hS; simp only [putW]) | (refine boxN hS rfl rfl rfl ?_; clear hS; intro mb w hS; simp only [putW]))
      refine ⟨?_⟩
      refine mapEntryW (b := mp) (enc := encN) (ve := bagE) (l := m) hS rfl rfl key rfl Hke.out bag0 rfl ?_
      clear hS
      intro st w hS
      obtain ⟨v0, L0, rest, hg, hput, hback, hS2⟩ := bagGet (hS.pull 7 (X := bagC m)) key
      clear hS
      have hS := hS2
      clear hS2 hback
      rw [hg] at hS ⊢
      simp only [putW]
      have Hg : Bx _ := ⟨hg⟩
      have hL0 : L0.length ≤ 1000000 := by
        have h1 := hbag.out key
        rw [hg] at h1
        have h2 : L0 = _ := h1
        rw [h2]
        refine Nat.le_trans (List.length_filter_le _ _) ?_
        rw [List.length_take]
        omega
      clear hg
      go_wp2_with (first | (guard_target =~ wpList _ _ _ (Oper.mk (some 36) _ _ _ _ _ :: _) _ _; refine Stopped.out ?_) | (refine load1 hS rfl rfl rfl rfl ?_; simp only [putW]) | (refine loadAll hS rfl rfl rfl ?_ ?_; rfl; simp only [putW]) | (refine loadPart hS rfl rfl rfl ?_ rfl ?_; rfl; simp only [putW]) | (refine store1 hS rfl rfl rfl rfl rfl ?_ ?_; (focus (simp; done)); clear hS; intro w hS; simp only [evW, putW] at hS; try simp only [putW]) | (refine storeAll hS rfl rfl rfl rfl ?_ ?_ ?_ ?_; rfl; (focus (simp [Value.oneCell']; done)); rfl; clear hS; intro w hS; try simp only [putW]) | (refine storeN hS rfl rfl rfl rfl ?_ ?_ ?_ ?_; rfl; (focus (simp [Value.oneCell']; done)); (focus (simp; done)); clear hS; intro w hS; simp at hS; try simp only [putW]) | (refine alloc hS rfl rfl ?_; clear hS; intro mb w hS; simp only [putW]) | (refine box1 hS rfl rfl rfl rfl ?_; clear hS; intro mb w hS; try simp only [evW, putW] at hS; simp only [putW]) | (refine boxN hS rfl rfl rfl ?_; clear hS; intro mb w hS; simp only [putW]))
      refine ⟨?_⟩
      have hS1 := (hS.pull mb (X := cells py.toArray 46)).toSlc (l := [y]) (cap := 1) (n := 15) (f := tupF) (by simp [Hyl.out]) (by simp) (by simp [maxLen]) (by rw [List.take_of_length_le (by simp [Hyl.out])]; simp [Hpy.out]) (fun x hx => by rw [List.mem_singleton.1 hx, Hpy.out]; exact Hyl.out)
      have hsrc := hS1.readsSlc (g := mb) (n := 15) (f := tupF) (L := [y]) (cap := 1) (t := 46) (gd := fun _ => True) (fun _ _ => trivial)
      refine appendB (f := tupF) hS1 rfl rfl v0 rfl rfl [y] hsrc (fun x hx u hu => by rw [List.mem_singleton.1 hx, Hpy.out] at hu; exact Hyc.out u hu) ?_ ?_ ?_
      · simp [maxLen]; omega
      · simp; omega
      clear hS hS1 hsrc
      intro v' w hS
      simp only [putW]
      have hS1 := hput v' (L0 ++ [y]) (hS.conv (S' := (blk v', sl 15 tupF (L0 ++ [y]) 46 v') :: (7, bagC rest) :: (mp, mapS encN bagE (mput m key (v0, L0)) key st) :: (m2, cells zc 46) :: (l, cells #[vp, .slice (some ⟨gs, 0, none⟩) nY cs, .slice qo nZ co] 70) :: (gs, slc 15 tupF Y cs 46) :: (1, inn (rowsT Y) 5) :: (blk (.slice qo nZ co), sl 15 tupF Z 46 (.slice qo nZ co)) :: (2, inn (rowsT Z) 5) :: K))
      clear hS hput
      have hS := hS1
      clear hS1
      go_wp2_with (first | (refine entryStoreW (b := mp) (enc := encN) (ve := bagE) (l := mput m key (v0, L0)) (st := st) (key := key) hS rfl rfl ((v', L0 ++ [y]) : BagV) rfl rfl rfl ?_; clear hS; intro w hS; simp only [putW]) | (refine load1 hS rfl rfl rfl rfl ?_; simp only [putW]) | (refine loadAll hS rfl rfl rfl ?_ ?_; rfl; simp only [putW]) | (refine loadPart hS rfl rfl rfl ?_ rfl ?_; rfl; simp only [putW]) | (refine store1 hS rfl rfl rfl rfl rfl ?_ ?_; (focus (simp; done)); clear hS; intro w hS; simp only [evW, putW] at hS; try simp only [putW]) | (refine storeAll hS rfl rfl rfl rfl ?_ ?_ ?_ ?_; rfl; (focus (simp [Value.oneCell']; done)); rfl; clear hS; intro w hS; try simp only [putW]) | (refine storeN hS rfl rfl rfl rfl ?_ ?_ ?_ ?_; rfl; (focus (simp [Value.oneCell']; done)); (focus (simp; done)); clear hS; intro w hS; simp at hS; try simp only [putW]) | (refine alloc hS rfl rfl ?_; clear hS; intro mb w hS; simp only [putW]) | (refine box1 hS rfl rfl rfl rfl ?_; clear hS; intro mb w hS; try simp only [evW, putW] at hS; simp only [putW]) | (refine boxN hS rfl rfl rfl ?_; clear hS; intro mb w hS; simp only [putW]))
      have h1 := (hS.pull gs (X := slc 15 tupF Y cs 46)).slOfSlc
      rw [HnY.out, mput_mput] at h1
      go_roundg g
      case measure => omega
      case rel => exact ⟨k + 1, mput m key (v', L0 ++ [y]), by omega, by go_num, ⟨bagIs_next hbag.out Hy.out Hkn.out Hg.out⟩, h1.conv⟩
    | zero =>
      have hkn : k = nY := by omega
      subst hkn
      have Hbag : Bx (BagIs Y Y.length m) := ⟨by rw [HnY.out]; exact hbag.out⟩
      clear hbag
      go_wp2_with (first | (refine load1 hS rfl rfl rfl rfl ?_; simp only [putW]) | (refine loadAll hS rfl rfl rfl ?_ ?_; rfl; simp only [putW]) | (refine loadPart hS rfl rfl rfl ?_ rfl ?_; rfl; simp only [putW]) | (refine store1 hS rfl rfl rfl rfl rfl ?_ ?_; (focus (simp; done)); clear hS; intro w hS; simp only [evW, putW] at hS; try simp only [putW]) | (refine storeAll hS rfl rfl rfl rfl ?_ ?_ ?_ ?_; rfl; (focus (simp [Value.oneCell']; done)); rfl; clear hS; intro w hS; try simp only [putW]) | (refine storeN hS rfl rfl rfl rfl ?_ ?_ ?_ ?_; rfl; (focus (simp [Value.oneCell']; done)); (focus (simp; done)); clear hS; intro w hS; simp at hS; try simp only [putW]) | (refine alloc hS rfl rfl ?_; clear hS; intro mb w hS; simp only [putW]) | (refine box1 hS rfl rfl rfl rfl ?_; clear hS; intro mb w hS; try simp only [evW, putW] at hS; simp only [putW]) | (refine boxN hS rfl rfl rfl ?_; clear hS; intro mb w hS; simp only [putW]))
      go_step3
      go_wp2_with (first | (refine load1 hS rfl rfl rfl rfl ?_; simp only [putW]) | (refine loadAll hS rfl rfl rfl ?_ ?_; rfl; simp only [putW]) | (refine loadPart hS rfl rfl rfl ?_ rfl ?_; rfl; simp only [putW]) | (refine store1 hS rfl rfl rfl rfl rfl ?_ ?_; (focus (simp; done)); clear hS; intro w hS; simp only [evW, putW] at hS; try simp only [putW]) | (refine storeAll hS rfl rfl rfl rfl ?_ ?_ ?_ ?_; rfl; (focus (simp [Value.oneCell']; done)); rfl; clear hS; intro w hS; try simp only [putW]) | (refine storeN hS rfl rfl rfl rfl ?_ ?_ ?_ ?_; rfl; (focus (simp [Value.oneCell']; done)); (focus (simp; done)); clear hS; intro w hS; simp at hS; try simp only [putW]) | (refine alloc hS rfl rfl ?_; clear hS; intro mb w hS; simp only [putW]) | (refine box1 hS rfl rfl rfl rfl ?_; clear hS; intro mb w hS; try simp only [evW, putW] at hS; simp only [putW]) | (refine boxN hS rfl rfl rfl ?_; clear hS; intro mb w hS; simp only [putW]))
      go_loopg [44] nZ (fun g i wr => ∃ j : Nat, j + g = nZ ∧ i = .int .i64 j ∧ Bx (NoForged (Y.map (·.2.2)) (Z.map (·.2.2)) j) ∧ Sat w0 ((mp, mapC encN bagE m) :: (7, bagC m) :: (m2, cells zc 46) :: (l, cells #[vp, .slice qs k cs, .slice qo nZ co] 70) :: (blk (.slice qs k cs), sl 15 tupF Y 46 (.slice qs k cs)) :: (1, inn (rowsT Y) 5) :: (blk (.slice qo nZ co), sl 15 tupF Z 46 (.slice qo nZ co)) :: (2, inn (rowsT Z) 5) :: K) wr)
      case atStart => exact ⟨0, by omega, rfl, ⟨fun n hn => by omega⟩, hS.conv⟩
      case round =>
        clear hS
        obtain ⟨j, hjg, rfl, hnf, hS⟩ := hrel
        cases gk with
        | succ g =>
          have hlt : j < nZ := by omega
          have hlti : (j : Int) < (nZ : Int) := by omega
          obtain ⟨z, hz⟩ : ∃ z, Z[j]? = some z := ⟨_, List.getElem?_eq_getElem (by rw [HnZ.out]; exact hlt)⟩
          have hzm := List.mem_of_getElem? hz
          have hzr : TupRd wr z := rdT (hS.pull 2 (X := inn (rowsT Z) 5)) HZk.out z hzm
          have hzo := HZk.out z hzm
          obtain ⟨pz, hpz⟩ : ∃ pz, tupF z = pz := ⟨_, rfl⟩
          have Hzc : Bx (∀ u ∈ pz, u.oneCell' = true) := ⟨by rw [← hpz]; exact hzr.cell⟩
          have hin : TupIn z pz := by rw [← hpz]; exact tupIn hzo.2.1.1
          have Hzl : Bx (pz.length = 15) := ⟨hin.len⟩
          have z0 : Bx (CellIs pz.toArray 0 (.int .u32 z.2.2.1)) := ⟨⟨by simpa using hin.ep⟩⟩
          have z1 : Bx (PartIs pz.toArray 1 12 (z.2.2.2.1.map u8v)) := ⟨⟨by rw [List.length_map]; exact hzo.2.1.1, by rw [List.toList_toArray]; exact hin.non⟩⟩
          have z13 : Bx (CellIs pz.toArray 13 z.1) := ⟨⟨by simpa using hin.aad⟩⟩
          have z14 : Bx (CellIs pz.toArray 14 z.2.1) := ⟨⟨by simpa using hin.sea⟩⟩
          have Hpz : Bx _ := ⟨hpz⟩
          obtain ⟨key, hkey⟩ : ∃ key : Nm, key = nmOf z.2.2 hzo := ⟨_, rfl⟩
          have Hkn : Bx (nameOf z.2.2 = key.1) := ⟨by rw [hkey]; rfl⟩
          have Hke : Bx (Value.agg (Value.int .u32 z.2.2.1 :: z.2.2.2.1.map u8v).toArray = encN key) := ⟨by rw [hkey]; rfl⟩
          have Hn12 : Bx (z.2.2.2.1.length = 12) := ⟨hzo.2.1.1⟩
          obtain ⟨nc, hnc⟩ : ∃ nc : List Value, Value.int .u32 z.2.2.1 :: z.2.2.2.1.map u8v = nc := ⟨_, rfl⟩
          have Hnc : Bx _ := ⟨hnc⟩
          rw [hnc] at Hke
          have Hz : Bx _ := ⟨hz⟩
          have Hzm : Bx _ := ⟨hzm⟩
          have Hzo : Bx _ := ⟨hzo⟩
          clear hpz hkey hin hzo hzr hzm hnc hlt hkg
          obtain ⟨gz, cap, e1, hS2⟩ := (hS.pull (blk (.slice qo nZ co)) (X := sl 15 tupF Z 46 (.slice qo nZ co))).slFormC nZ HnZ.out (by omega)
          cases e1
          clear hS
          have hS := hS2
          clear hS2
          go_wp2_with (first | (refine loadSN (f := tupF) (vs := pz) hS rfl rfl rfl j 0 ?_ hz ?_ ?_ ?_; (focus omega); (focus omega); (focus (rw [List.drop_zero, Hpz.out, List.take_of_length_le (by rw [Hzl.out]; omega)])); simp only [putW]) | (refine alloc (t := 46) hS rfl rfl ?_; clear hS; intro mz w hS; simp only [putW]) | (refine storeAll (cs := pz.toArray) hS rfl rfl rfl rfl ?_ ?_ ?_ ?_; (focus exact Hzl.out); (focus exact Hzc.out); (focus rfl); clear hS; intro w hS; try simp only [putW]) | (refine loadC hS rfl rfl rfl z0.out ?_; simp only [putW]) | (refine loadP hS rfl rfl rfl z1.out ?_; simp only [putW]) | (refine buildNm Hn12.out rfl rfl rfl rfl ?_; rw [Hnc.out]; simp only [putW]) | (guard_target =~ wpList _ _ _ (Oper.mk (some 54) _ _ _ _ _ :: _) _ _; refine Stopped.out ?_) | (refine load1 hS rfl rfl rfl rfl ?_; simp only [putW]) | (refine loadAll hS rfl rfl rfl ?_ ?_; rfl; simp only [putW]) | (refine loadPart hS rfl rfl rfl ?_ rfl ?_; rfl; simp only [putW]) | (refine store1 hS rfl rfl rfl rfl rfl ?_ ?_; (focus (simp; done)); clear hS; intro w hS; simp only [evW, putW] at hS; try simp only [putW]) | (refine storeAll hS rfl rfl rfl rfl ?_ ?_ ?_ ?_; rfl; (focus (simp [Value.oneCell']; done)); rfl; clear hS; intro w hS; try simp only [putW]) | (refine storeN hS rfl rfl rfl rfl ?_ ?_ ?_ ?_; rfl; (focus (simp [Value.oneCell']; done)); (focus (simp; done)); clear hS; intro w hS; simp at hS; try simp only [putW]) | (refine alloc hS rfl rfl ?_; clear hS; intro mb w hS; simp only [putW]) | (refine box1 hS rfl rfl rfl rfl ?_; clear hS; intro mb w hS; try simp only [evW, putW] at hS; simp only [putW]) | (refine boxN hS rfl rfl rfl ?_; clear hS; intro mb w hS; simp only [putW]))
          refine ⟨?_⟩
          refine lookupW1 (b := mp) (enc := encN) (ve := bagE) (l := m) hS rfl rfl key rfl Hke.out bag0 rfl ?_
          obtain ⟨v0, L0, rest, hg, hput, hback, hS2⟩ := bagGet (hS.pull 7 (X := bagC m)) key
          clear hS hput
          have hS := hS2
          clear hS2
          rw [hg]
          simp only [bagE, putW]
          have Hmem := bagIs_mem Hbag.out hg
          have hL0 : L0.length ≤ 1000000 := by
            have h1 := Hbag.out key
            rw [hg] at h1
            have h2 : L0 = _ := h1
            rw [h2]
            refine Nat.le_trans (List.length_filter_le _ _) ?_
            rw [List.length_take, HnY.out]
            omega
          have HM : Bx _ := ⟨Hmem⟩
          clear hg Hmem
          obtain ⟨n0, hn0⟩ : ∃ n0, L0.length = n0 := ⟨_, rfl⟩
          obtain ⟨q0, c0, e0⟩ := slShape (hS.pull (blk v0) (X := sl 15 tupF L0 46 v0))
          rw [hn0] at e0 hL0
          subst e0
          have Hn0 : Bx _ := ⟨hn0⟩
          clear hn0 hz
          go_wp2_with (first | (refine load1 hS rfl rfl rfl rfl ?_; simp only [putW]) | (refine loadAll hS rfl rfl rfl ?_ ?_; rfl; simp only [putW]) | (refine loadPart hS rfl rfl rfl ?_ rfl ?_; rfl; simp only [putW]) | (refine store1 hS rfl rfl rfl rfl rfl ?_ ?_; (focus (simp; done)); clear hS; intro w hS; simp only [evW, putW] at hS; try simp only [putW]) | (refine storeAll hS rfl rfl rfl rfl ?_ ?_ ?_ ?_; rfl; (focus (simp [Value.oneCell']; done)); rfl; clear hS; intro w hS; try simp only [putW]) | (refine storeN hS rfl rfl rfl rfl ?_ ?_ ?_ ?_; rfl; (focus (simp [Value.oneCell']; done)); (focus (simp; done)); clear hS; intro w hS; simp at hS; try simp only [putW]) | (refine alloc hS rfl rfl ?_; clear hS; intro mb w hS; simp only [putW]) | (refine box1 hS rfl rfl rfl rfl ?_; clear hS; intro mb w hS; try simp only [evW, putW] at hS; simp only [putW]) | (refine boxN hS rfl rfl rfl ?_; clear hS; intro mb w hS; simp only [putW]))
          go_loopg [56] n0 (fun g2 i wr => ∃ i' : Nat, i' + g2 = n0 ∧ i = .int .i64 i' ∧ Bx (∀ x ∈ L0.take i', x.2.2 ≠ z.2.2) ∧ Sat w0 ((blk (.slice q0 n0 c0), sl 15 tupF L0 46 (.slice q0 n0 c0)) :: (7, bagC rest) :: (mz, cells pz.toArray 46) :: (mp, mapC encN bagE m) :: (m2, cells zc 46) :: (l, cells #[vp, .slice qs k cs, .slice (some ⟨gz, 0, none⟩) nZ co] 70) :: (blk (.slice qs k cs), sl 15 tupF Y 46 (.slice qs k cs)) :: (1, inn (rowsT Y) 5) :: (gz, slc 15 tupF Z co 46) :: (2, inn (rowsT Z) 5) :: K) wr)
          case atStart => exact ⟨0, by omega, rfl, ⟨fun x hx => by simp at hx⟩, hS.conv⟩
          case round =>
            clear hS
            obtain ⟨i, hig, rfl, hne, hS⟩ := hrel
            cases gk with
            | succ g2 =>
              have hlt : i < n0 := by omega
              have hlti : (i : Int) < (n0 : Int) := by omega
              obtain ⟨x, hx⟩ : ∃ x, L0[i]? = some x := ⟨_, List.getElem?_eq_getElem (by rw [Hn0.out]; exact hlt)⟩
              have hx0 := List.mem_of_getElem? hx
              obtain ⟨hxm, hxn⟩ := (HM.out x).1 hx0
              have hxr : TupRd wr x := rdT (hS.pull 1 (X := inn (rowsT Y) 5)) HYk.out x hxm
              have hxo := HYk.out x hxm
              obtain ⟨px, hpx⟩ : ∃ px, tupF x = px := ⟨_, rfl⟩
              have Hxc : Bx (∀ u ∈ px, u.oneCell' = true) := ⟨by rw [← hpx]; exact hxr.cell⟩
              have hin : TupIn x px := by rw [← hpx]; exact tupIn hxo.2.1.1
              have Hxl : Bx (px.length = 15) := ⟨hin.len⟩
              have x13 : Bx (CellIs px.toArray 13 x.1) := ⟨⟨by simpa using hin.aad⟩⟩
              have x14 : Bx (CellIs px.toArray 14 x.2.1) := ⟨⟨by simpa using hin.sea⟩⟩
              have Hpx : Bx _ := ⟨hpx⟩
              have Hx : Bx _ := ⟨hx⟩
              have Hxm : Bx _ := ⟨hxm⟩
              have Hxn : Bx _ := ⟨hxn⟩
              clear hpx hin hxo hxr hxm hlt hx0 hxn
              obtain ⟨gx, cap, e1, hS2⟩ := (hS.pull (blk (.slice q0 n0 c0)) (X := sl 15 tupF L0 46 (.slice q0 n0 c0))).slFormC n0 Hn0.out (by omega)
              cases e1
              clear hS
              have hS := hS2
              clear hS2
              go_wp2_with (first | (refine loadSN (f := tupF) (vs := px) hS rfl rfl rfl i 0 ?_ hx ?_ ?_ ?_; (focus omega); (focus omega); (focus (rw [List.drop_zero, Hpx.out, List.take_of_length_le (by rw [Hxl.out]; omega)])); simp only [putW]) | (refine alloc (t := 46) hS rfl rfl ?_; clear hS; intro mx w hS; simp only [putW]) | (refine storeAll (cs := px.toArray) hS rfl rfl rfl rfl ?_ ?_ ?_ ?_; (focus exact Hxl.out); (focus exact Hxc.out); (focus rfl); clear hS; intro w hS; try simp only [putW]) | (refine loadC hS rfl rfl rfl x13.out ?_; simp only [putW]) | (refine loadC hS rfl rfl rfl z13.out ?_; simp only [putW]) | (guard_target =~ Calls _ 31 _ _ _; refine Stopped.out ?_) | (refine load1 hS rfl rfl rfl rfl ?_; simp only [putW]) | (refine loadAll hS rfl rfl rfl ?_ ?_; rfl; simp only [putW]) | (refine loadPart hS rfl rfl rfl ?_ rfl ?_; rfl; simp only [putW]) | (refine store1 hS rfl rfl rfl rfl rfl ?_ ?_; (focus (simp; done)); clear hS; intro w hS; simp only [evW, putW] at hS; try simp only [putW]) | (refine storeAll hS rfl rfl rfl rfl ?_ ?_ ?_ ?_; rfl; (focus (simp [Value.oneCell']; done)); rfl; clear hS; intro w hS; try simp only [putW]) | (refine storeN hS rfl rfl rfl rfl ?_ ?_ ?_ ?_; rfl; (focus (simp [Value.oneCell']; done)); (focus (simp; done)); clear hS; intro w hS; simp at hS; try simp only [putW]) | (refine alloc hS rfl rfl ?_; clear hS; intro mb w hS; simp only [putW]) | (refine box1 hS rfl rfl rfl rfl ?_; clear hS; intro mb w hS; try simp only [evW, putW] at hS; simp only [putW]) | (refine boxN hS rfl rfl rfl ?_; clear hS; intro mb w hS; simp only [putW]))
              refine ⟨?_⟩
              clear hx
              (refine Calls.mono (equal_any (rdT (hS.pull 1 (X := inn (rowsT Y) 5)) HYk.out x Hxm.out).ra (rdT (hS.pull 2 (X := inn (rowsT Z) 5)) HZk.out z Hzm.out).ra) ?_; rintro _ w2 ⟨rfl, h2⟩; replace hS := hS.frame h2; clear h2; (try simp only [List.cons_append, List.nil_append] at hS); simp only [putW])
              by_cases hA : x.2.2.2.2.1 = z.2.2.2.2.1
              · rw [decide_eq_true hA]
                have HAe : Bx _ := ⟨hA⟩
                clear hA
                go_wp2_with (first | (refine loadC hS rfl rfl rfl x14.out ?_; simp only [putW]) | (refine loadC hS rfl rfl rfl z14.out ?_; simp only [putW]) | (guard_target =~ Calls _ 31 _ _ _; refine Stopped.out ?_) | (refine load1 hS rfl rfl rfl rfl ?_; simp only [putW]) | (refine loadAll hS rfl rfl rfl ?_ ?_; rfl; simp only [putW]) | (refine loadPart hS rfl rfl rfl ?_ rfl ?_; rfl; simp only [putW]) | (refine store1 hS rfl rfl rfl rfl rfl ?_ ?_; (focus (simp; done)); clear hS; intro w hS; simp only [evW, putW] at hS; try simp only [putW]) | (refine storeAll hS rfl rfl rfl rfl ?_ ?_ ?_ ?_; rfl; (focus (simp [Value.oneCell']; done)); rfl; clear hS; intro w hS; try simp only [putW]) | (refine storeN hS rfl rfl rfl rfl ?_ ?_ ?_ ?_; rfl; (focus (simp [Value.oneCell']; done)); (focus (simp; done)); clear hS; intro w hS; simp at hS; try simp only [putW]) | (refine alloc hS rfl rfl ?_; clear hS; intro mb w hS; simp only [putW]) | (refine box1 hS rfl rfl rfl rfl ?_; clear hS; intro mb w hS; try simp only [evW, putW] at hS; simp only [putW]) | (refine boxN hS rfl rfl rfl ?_; clear hS; intro mb w hS; simp only [putW]))
                refine ⟨?_⟩
                (refine Calls.mono (equal_any (rdT (hS.pull 1 (X := inn (rowsT Y) 5)) HYk.out x Hxm.out).rs (rdT (hS.pull 2 (X := inn (rowsT Z) 5)) HZk.out z Hzm.out).rs) ?_; rintro _ w2 ⟨rfl, h2⟩; replace hS := hS.frame h2; clear h2; (try simp only [List.cons_append, List.nil_append] at hS); simp only [putW])
                by_cases hB : x.2.2.2.2.2 = z.2.2.2.2.2
                · rw [decide_eq_true hB]
                  have HBe : Bx _ := ⟨hB⟩
                  clear hB
                  go_wp2_with (first | (refine load1 hS rfl rfl rfl rfl ?_; simp only [putW]) | (refine loadAll hS rfl rfl rfl ?_ ?_; rfl; simp only [putW]) | (refine loadPart hS rfl rfl rfl ?_ rfl ?_; rfl; simp only [putW]) | (refine store1 hS rfl rfl rfl rfl rfl ?_ ?_; (focus (simp; done)); clear hS; intro w hS; simp only [evW, putW] at hS; try simp only [putW]) | (refine storeAll hS rfl rfl rfl rfl ?_ ?_ ?_ ?_; rfl; (focus (simp [Value.oneCell']; done)); rfl; clear hS; intro w hS; try simp only [putW]) | (refine storeN hS rfl rfl rfl rfl ?_ ?_ ?_ ?_; rfl; (focus (simp [Value.oneCell']; done)); (focus (simp; done)); clear hS; intro w hS; simp at hS; try simp only [putW]) | (refine alloc hS rfl rfl ?_; clear hS; intro mb w hS; simp only [putW]) | (refine box1 hS rfl rfl rfl rfl ?_; clear hS; intro mb w hS; try simp only [evW, putW] at hS; simp only [putW]) | (refine boxN hS rfl rfl rfl ?_; clear hS; intro mb w hS; simp only [putW]))
                  have h1 := (hS.pull gx (X := slc 15 tupF L0 c0 46)).slOfSlc
                  rw [Hn0.out] at h1
                  have h2 := hback (F' := (mp, mapC encN bagE m) :: (m2, cells zc 46) :: (l, cells #[vp, .slice qs k cs, .slice (some ⟨gz, 0, none⟩) nZ co] 70) :: (blk (.slice qs k cs), sl 15 tupF Y 46 (.slice qs k cs)) :: (1, inn (rowsT Y) 5) :: (gz, slc 15 tupF Z co 46) :: (2, inn (rowsT Z) 5) :: K) h1.conv
                  have h3 := (h2.pull gz (X := slc 15 tupF Z co 46)).slOfSlc
                  rw [HnZ.out] at h3
                  go_roundg g
                  case measure => omega
                  case rel =>
                    refine ⟨j + 1, by omega, by go_num, ⟨fun n hn u hu => ?_⟩, h3.conv⟩
                    by_cases e : n < j
                    · exact hnf.out n e u hu
                    · have e2 : n = j := by omega
                      subst e2
                      rw [List.getElem?_map, Hz.out] at hu
                      have e3 : z.2.2 = u := Option.some.inj hu
                      rw [← e3]
                      have e4 : x.2.2 = z.2.2 := by
                        have e5 : (x.2.2.1, x.2.2.2.1) = (z.2.2.1, z.2.2.2.1) := Hxn.out.trans Hkn.out.symm
                        exact Prod.ext (Prod.mk.inj e5).1 (Prod.ext (Prod.mk.inj e5).2 (Prod.ext HAe.out HBe.out))
                      rw [← e4]
                      exact List.mem_map_of_mem (f := fun x : TupV => x.2.2) Hxm.out
                · rw [decide_eq_false hB]
                  have HBe : Bx _ := ⟨hB⟩
                  clear hB
                  go_wp2_with (first | (refine load1 hS rfl rfl rfl rfl ?_; simp only [putW]) | (refine loadAll hS rfl rfl rfl ?_ ?_; rfl; simp only [putW]) | (refine loadPart hS rfl rfl rfl ?_ rfl ?_; rfl; simp only [putW]) | (refine store1 hS rfl rfl rfl rfl rfl ?_ ?_; (focus (simp; done)); clear hS; intro w hS; simp only [evW, putW] at hS; try simp only [putW]) | (refine storeAll hS rfl rfl rfl rfl ?_ ?_ ?_ ?_; rfl; (focus (simp [Value.oneCell']; done)); rfl; clear hS; intro w hS; try simp only [putW]) | (refine storeN hS rfl rfl rfl rfl ?_ ?_ ?_ ?_; rfl; (focus (simp [Value.oneCell']; done)); (focus (simp; done)); clear hS; intro w hS; simp at hS; try simp only [putW]) | (refine alloc hS rfl rfl ?_; clear hS; intro mb w hS; simp only [putW]) | (refine box1 hS rfl rfl rfl rfl ?_; clear hS; intro mb w hS; try simp only [evW, putW] at hS; simp only [putW]) | (refine boxN hS rfl rfl rfl ?_; clear hS; intro mb w hS; simp only [putW]))
                  have h1 := (hS.pull gx (X := slc 15 tupF L0 c0 46)).slOfSlc
                  rw [Hn0.out] at h1
                  go_roundg g2
                  case measure => omega
                  case rel =>
                    refine ⟨i + 1, by omega, by go_num, ⟨fun u hu => ?_⟩, h1.conv⟩
                    rw [List.take_add_one, Hx.out] at hu
                    rcases List.mem_append.1 hu with hu | hu
                    · exact hne.out u hu
                    · have e : u = x := by simpa using hu
                      rw [e]
                      exact fun e2 => HBe.out (by rw [e2])
              · rw [decide_eq_false hA]
                have HAe : Bx _ := ⟨hA⟩
                clear hA
                go_wp2_with (first | (refine load1 hS rfl rfl rfl rfl ?_; simp only [putW]) | (refine loadAll hS rfl rfl rfl ?_ ?_; rfl; simp only [putW]) | (refine loadPart hS rfl rfl rfl ?_ rfl ?_; rfl; simp only [putW]) | (refine store1 hS rfl rfl rfl rfl rfl ?_ ?_; (focus (simp; done)); clear hS; intro w hS; simp only [evW, putW] at hS; try simp only [putW]) | (refine storeAll hS rfl rfl rfl rfl ?_ ?_ ?_ ?_; rfl; (focus (simp [Value.oneCell']; done)); rfl; clear hS; intro w hS; try simp only [putW]) | (refine storeN hS rfl rfl rfl rfl ?_ ?_ ?_ ?_; rfl; (focus (simp [Value.oneCell']; done)); (focus (simp; done)); clear hS; intro w hS; simp at hS; try simp only [putW]) | (refine alloc hS rfl rfl ?_; clear hS; intro mb w hS; simp only [putW]) | (refine box1 hS rfl rfl rfl rfl ?_; clear hS; intro mb w hS; try simp only [evW, putW] at hS; simp only [putW]) | (refine boxN hS rfl rfl rfl ?_; clear hS; intro mb w hS; simp only [putW]))
                have h1 := (hS.pull gx (X := slc 15 tupF L0 c0 46)).slOfSlc
                rw [Hn0.out] at h1
                go_roundg g2
                case measure => omega
                case rel =>
                  refine ⟨i + 1, by omega, by go_num, ⟨fun u hu => ?_⟩, h1.conv⟩
                  rw [List.take_add_one, Hx.out] at hu
                  rcases List.mem_append.1 hu with hu | hu
                  · exact hne.out u hu
                  · have e : u = x := by simpa using hu
                    rw [e]
                    exact fun e2 => HAe.out (by rw [e2])
            | zero =>
              have hin0 : i = n0 := by omega
              subst hin0
              go_wp2_with (first | (refine loadAll (c := pz.toArray) hS rfl rfl rfl Hzl.out ?_; simp only [putW]) | (guard_target =~ Calls _ 33 _ _ _; refine Stopped.out ?_) | (refine load1 hS rfl rfl rfl rfl ?_; simp only [putW]) | (refine loadAll hS rfl rfl rfl ?_ ?_; rfl; simp only [putW]) | (refine loadPart hS rfl rfl rfl ?_ rfl ?_; rfl; simp only [putW]) | (refine store1 hS rfl rfl rfl rfl rfl ?_ ?_; (focus (simp; done)); clear hS; intro w hS; simp only [evW, putW] at hS; try simp only [putW]) | (refine storeAll hS rfl rfl rfl rfl ?_ ?_ ?_ ?_; rfl; (focus (simp [Value.oneCell']; done)); rfl; clear hS; intro w hS; try simp only [putW]) | (refine storeN hS rfl rfl rfl rfl ?_ ?_ ?_ ?_; rfl; (focus (simp [Value.oneCell']; done)); (focus (simp; done)); clear hS; intro w hS; simp at hS; try simp only [putW]) | (refine alloc hS rfl rfl ?_; clear hS; intro mb w hS; simp only [putW]) | (refine box1 hS rfl rfl rfl rfl ?_; clear hS; intro mb w hS; try simp only [evW, putW] at hS; simp only [putW]) | (refine boxN hS rfl rfl rfl ?_; clear hS; intro mb w hS; simp only [putW]))
              refine ⟨?_⟩
              have hzr2 := rdT (hS.pull 2 (X := inn (rowsT Z) 5)) HZk.out z Hzm.out
              have hla : z.2.2.2.2.1.length ≤ 140737488355328 := Nat.le_trans Hzo.out.2.2.1.1 (by omega)
              have hls : z.2.2.2.2.2.length ≤ 140737488355328 := Nat.le_trans Hzo.out.2.2.2.1 (by omega)
              (refine Calls.mono (own_any (t := z.2.2) Hpz.out Hn12.out hzr2.ra hzr2.rs hla hls) ?_; rintro _ w2 ⟨q1, c1, q2, c2, rfl, h2⟩; replace hS := hS.frame h2; clear h2; (try simp only [List.cons_append, List.nil_append] at hS); simp only [putW])
              clear hzr2
              obtain ⟨xn, hxn⟩ : ∃ xn : TupV, (.slice q1 z.2.2.2.2.1.length c1, .slice q2 z.2.2.2.2.2.length c2, z.2.2) = xn := ⟨_, rfl⟩
              have HXN : Bx _ := ⟨hxn⟩
              have HL9 : Bx ((tupF xn).length = 15) := ⟨by rw [← hxn]; exact tupF_len Hn12.out⟩
              have HC9 : Bx (∀ u ∈ tupF xn, u.oneCell' = true) := ⟨by rw [← hxn]; exact tupF_cell rfl rfl⟩
              rw [hxn]
              clear hxn
              obtain ⟨pn, hpn⟩ : ∃ pn, tupF xn = pn := ⟨_, rfl⟩
              have HPN : Bx _ := ⟨hpn⟩
              rw [hpn] at HL9 HC9 ⊢
              clear hpn
              have hzs2 := hzs.out
              go_wp2_with (first | (refine storeAll (cs := pn.toArray) hS rfl rfl rfl rfl ?_ ?_ ?_ ?_; (focus exact HL9.out); (focus exact HC9.out); (focus exact hzs2); clear hS; intro w hS; try simp only [putW]) | (refine load1 hS rfl rfl rfl rfl ?_; simp only [putW]) | (refine loadAll hS rfl rfl rfl ?_ ?_; rfl; simp only [putW]) | (refine loadPart hS rfl rfl rfl ?_ rfl ?_; rfl; simp only [putW]) | (refine store1 hS rfl rfl rfl rfl rfl ?_ ?_; (focus (simp; done)); clear hS; intro w hS; simp only [evW, putW] at hS; try simp only [putW]) | (refine storeAll hS rfl rfl rfl rfl ?_ ?_ ?_ ?_; rfl; (focus (simp [Value.oneCell']; done)); rfl; clear hS; intro w hS; try simp only [putW]) | (refine storeN hS rfl rfl rfl rfl ?_ ?_ ?_ ?_; rfl; (focus (simp [Value.oneCell']; done)); (focus (simp; done)); clear hS; intro w hS; simp at hS; try simp only [putW]) | (refine alloc hS rfl rfl ?_; clear hS; intro mb w hS; simp only [putW]) | (refine box1 hS rfl rfl rfl rfl ?_; clear hS; intro mb w hS; try simp only [evW, putW] at hS; simp only [putW]) | (refine boxN hS rfl rfl rfl ?_; clear hS; intro mb w hS; simp only [putW]))
              have hr := run_loadAll (P := Tryd.prog) hS m2 46 HL9.out
              try rw [Exit.noGoto_ret]
              refine bodyPost_ret (v := .tuple #[.agg pn.toArray, .bool true]) (by simp [results, Tryd.results16, asAddr, hr]) rfl (.inr ⟨j, z.2.2, q1, c1, q2, c2, ⟨by rw [List.getElem?_map, Hz.out]; rfl, ?_, hnf.out⟩, by rw [← HPN.out, ← HXN.out], ?_⟩)
              · intro hm
                obtain ⟨u, hu, e⟩ := List.mem_map.1 hm
                have hu2 : u.2.2 = z.2.2 := e
                have hul := (HM.out u).2 ⟨hu, by rw [hu2]; exact Hkn.out⟩
                exact hne.out u (by rw [List.take_of_length_le (by rw [Hn0.out]; exact Nat.le_refl _)]; exact hul) hu2
              · have h1 := hS.conv (S' := (blk (.slice q0 i c0), sl 15 tupF L0 46 (.slice q0 i c0)) :: (7, bagC rest) :: (gz, slc 15 tupF Z co 46) :: (blk (.slice q1 z.2.2.2.2.1.length c1), sl 1 by8 z.2.2.2.2.1 5 (.slice q1 z.2.2.2.2.1.length c1)) :: (blk (.slice q2 z.2.2.2.2.2.length c2), sl 1 by8 z.2.2.2.2.2 5 (.slice q2 z.2.2.2.2.2.length c2)) :: (l, cells #[vp, .slice qs k cs, .slice (some ⟨gz, 0, none⟩) nZ co] 70) :: (blk (.slice qs k cs), sl 15 tupF Y 46 (.slice qs k cs)) :: (1, inn (rowsT Y) 5) :: (2, inn (rowsT Z) 5) :: K)
                have h3 := (h1.pull gz (X := slc 15 tupF Z co 46)).slOfSlc
                rw [HnZ.out] at h3
                exact h3.conv
        | zero =>
          have hjn : j = nZ := by omega
          subst hjn
          have hzs2 := hzs.out
          go_wp2_with (first | (refine storeAll (cs := (tupF (.slice none 0 0, .slice none 0 0, zT)).toArray) hS rfl rfl rfl rfl ?_ ?_ ?_ ?_; (focus rfl); (focus (rw [List.toList_toArray]; exact tupF_cell rfl rfl)); (focus exact hzs2); clear hS; intro w hS; try simp only [putW]) | (refine load1 hS rfl rfl rfl rfl ?_; simp only [putW]) | (refine loadAll hS rfl rfl rfl ?_ ?_; rfl; simp only [putW]) | (refine loadPart hS rfl rfl rfl ?_ rfl ?_; rfl; simp only [putW]) | (refine store1 hS rfl rfl rfl rfl rfl ?_ ?_; (focus (simp; done)); clear hS; intro w hS; simp only [evW, putW] at hS; try simp only [putW]) | (refine storeAll hS rfl rfl rfl rfl ?_ ?_ ?_ ?_; rfl; (focus (simp [Value.oneCell']; done)); rfl; clear hS; intro w hS; try simp only [putW]) | (refine storeN hS rfl rfl rfl rfl ?_ ?_ ?_ ?_; rfl; (focus (simp [Value.oneCell']; done)); (focus (simp; done)); clear hS; intro w hS; simp at hS; try simp only [putW]) | (refine alloc hS rfl rfl ?_; clear hS; intro mb w hS; simp only [putW]) | (refine box1 hS rfl rfl rfl rfl ?_; clear hS; intro mb w hS; try simp only [evW, putW] at hS; simp only [putW]) | (refine boxN hS rfl rfl rfl ?_; clear hS; intro mb w hS; simp only [putW]))
          have hr := run_loadAll (P := Tryd.prog) hS m2 46 (show (tupF (.slice none 0 0, .slice none 0 0, zT)).toArray.size = 15 from rfl)
          try rw [Exit.noGoto_ret]
          refine bodyPost_ret (v := .tuple #[.agg (tupF (.slice none 0 0, .slice none 0 0, zT)).toArray, .bool false]) (by simp [results, Tryd.results16, asAddr, hr]) rfl (.inl ⟨rfl, hnf.out, hS.conv⟩)
end
end Go.Proofs.YteoidocicjlglaaDoor
