/-
  The whole log: what New, Hash, Note, Clash, Forged, Twice, Blocks, Count tell of it.
-/
import Derived.Test.YteoidocicjlglaaDoorGhTwice
set_option linter.unusedSimpArgs false
set_option linter.unusedVariables false
namespace Go.Proofs.YteoidocicjlglaaDoor
open Go.RowKit Go.Proofs.YteoidocicjlglaaDoor.Sl Go.Proofs.YteoidocicjlglaaDoor.Sha Go.Proofs.YteoidocicjlglaaDoor.Jp

section
variable {w0 w : World} {K F S : List Chunk} {l : Nat} {Ps : List (List Int × List Int)} {Ss Os : List Tup} {va v : Value} {A D : List Int}
theorem openFull (hS : Sat w0 ((l, LogF Ps Ss Os) :: K) w) : ∃ vp vs vo X Y Z, X.map (·.2) = Ps ∧ Y.map (·.2.2) = Ss ∧ Z.map (·.2.2) = Os ∧ Sat w0 ((l, cells #[vp, vs, vo] 70) :: (blk vs, sl 15 tupF Y 46 vs) :: (1, inn (rowsT Y) 5) :: (blk vo, sl 15 tupF Z 46 vo) :: (2, inn (rowsT Z) 5) :: (blk vp, sl 33 pairF X 72 vp) :: (0, inn (rowsOf X) 5) :: K) w := by
  obtain ⟨vs, vo, h1⟩ := openF hS
  obtain ⟨Y, hY, h2⟩ := openT (h1.pull 2 (X := TupC vs Ss))
  have h3 := (h2.pull 1 (X := inn (rowsT Y) 5)).turn (b' := 11) (Y := inn (rowsT Y) 5) fun _ h => h
  obtain ⟨Z, hZ, h4⟩ := openT (h3.pull 3 (X := TupC vo Os))
  have h4 := (h4.pull 1 (X := inn (rowsT Z) 5)).turn (b' := 2) (Y := inn (rowsT Z) 5) fun _ h => h
  have h4 := (h4.pull 11 (X := inn (rowsT Y) 5)).turn (b' := 1) (Y := inn (rowsT Y) 5) fun _ h => h
  obtain ⟨X, vp, hX, h5⟩ := openLog (h4.pull l (X := LogG vs vo Ps))
  exact ⟨vp, vs, vo, X, Y, Z, hX, hY, hZ, h5.conv⟩
theorem closeFull {vp vs vo : Value} {X : List PairV} {Y Z : List TupV} (hX : X.map (·.2) = Ps) (hY : Y.map (·.2.2) = Ss) (hZ : Z.map (·.2.2) = Os) (h : Sat w0 ((l, cells #[vp, vs, vo] 70) :: (blk vs, sl 15 tupF Y 46 vs) :: (1, inn (rowsT Y) 5) :: (blk vo, sl 15 tupF Z 46 vo) :: (2, inn (rowsT Z) 5) :: (blk vp, sl 33 pairF X 72 vp) :: (0, inn (rowsOf X) 5) :: K) w) : Sat w0 ((l, LogF Ps Ss Os) :: K) w := by
  have h0 := (h.pull 1 (X := inn (rowsT Y) 5)).turn (b' := 11) (Y := inn (rowsT Y) 5) fun _ h => h
  have h1 := (h0.pull 2 (X := inn (rowsT Z) 5)).turn (b' := 1) (Y := inn (rowsT Z) 5) fun _ h => h
  have h2 := closeT 3 hZ (h1.conv (S' := (blk vo, sl 15 tupF Z 46 vo) :: (1, inn (rowsT Z) 5) :: (11, inn (rowsT Y) 5) :: (blk vs, sl 15 tupF Y 46 vs) :: (l, cells #[vp, vs, vo] 70) :: (blk vp, sl 33 pairF X 72 vp) :: (0, inn (rowsOf X) 5) :: K))
  have h2 := (h2.pull 11 (X := inn (rowsT Y) 5)).turn (b' := 1) (Y := inn (rowsT Y) 5) fun _ h => h
  have h3 := closeT 2 hY (h2.conv (S' := (blk vs, sl 15 tupF Y 46 vs) :: (1, inn (rowsT Y) 5) :: (3, TupC vo Os) :: (l, cells #[vp, vs, vo] 70) :: (blk vp, sl 33 pairF X 72 vp) :: (0, inn (rowsOf X) 5) :: K))
  have h4 := closeLog hX (h3.conv (S' := (l, cells #[vp, vs, vo] 70) :: (blk vp, sl 33 pairF X 72 vp) :: (0, inn (rowsOf X) 5) :: (2, TupC vs Ss) :: (3, TupC vo Os) :: K))
  exact closeF h4
theorem newF : Calls Tryd.prog 18 #[] w0 fun e w' => ∃ l, e = .returned (.pointer (some ⟨l, 0, none⟩)) ∧ Sat w0 [(l, LogF [] [] [])] w' :=
  ghostNew_any.mono fun _ _ ⟨l, h1, h2⟩ => ⟨l, h1, logF_of h2⟩
theorem noteF (hS : Sat w0 ((l, LogF Ps Ss Os) :: K) w) (ha : RB w A va) (hA : A.length ≤ 100000000000) (hP : Ps.length ≤ 1000000) (hD : D.length = 32) :
    Calls Tryd.prog 25 #[.pointer (some ⟨l, 0, none⟩), va, .agg (D.map u8v).toArray] w fun e w' => e = .returned (.tuple #[]) ∧ Sat w0 ((l, LogF (Ps ++ [(A, D)]) Ss Os) :: K) w' := by
  obtain ⟨vs, vo, h1⟩ := openF hS
  exact (note_any h1 ha hA hP hD).mono fun _ _ ⟨h2, h3⟩ => ⟨h2, closeF h3⟩
theorem hashF {X : List (Value × List Int)} {vp : Value} (hS : Sat w0 ((l, LogF Ps Ss Os) :: K) w) (hX : RR w X vp) (hK : KTab w) (hc : (cat X).length ≤ 100000000000) (hP : Ps.length ≤ 1000000) :
    Calls Tryd.prog 19 #[.pointer (some ⟨l, 0, none⟩), vp] w fun e w' => e = .returned (.agg ((shaF (cat X)).map u8v).toArray) ∧ Sat w0 ((l, LogF (Ps ++ [(cat X, shaF (cat X))]) Ss Os) :: K) w' := by
  obtain ⟨vs, vo, h1⟩ := openF hS
  exact (hash_any h1 hX hK hc hP).mono fun _ _ ⟨h2, h3⟩ => ⟨h2, closeF h3⟩
theorem clashF (hok : ∀ p ∈ Ps, (∀ b ∈ p.1, okByte b) ∧ p.1.length ≤ 100000000000 ∧ p.2.length = 32 ∧ ∀ b ∈ p.2, okByte b) (hlen : Ps.length ≤ 1000000) (hS : Sat w0 ((l, LogF Ps Ss Os) :: K) w) :
    Calls Tryd.prog 13 #[.pointer (some ⟨l, 0, none⟩)] w fun e w' =>
      (e = .returned (.tuple #[.slice none 0 0, .slice none 0 0, .bool false]) ∧ NoClash Ps Ps.length ∧ Sat w0 ((l, LogF Ps Ss Os) :: K) w') ∨
      ∃ i j A B va vb, ClashAt Ps i j A B ∧ e = .returned (.tuple #[va, vb, .bool true]) ∧ Sat w0 ((blk va, sl 1 by8 A 5 va) :: (blk vb, sl 1 by8 B 5 vb) :: (l, LogF Ps Ss Os) :: K) w' := by
  obtain ⟨vs, vo, h1⟩ := openF hS
  refine (clashG hok hlen h1).mono fun _ _ h => ?_
  rcases h with ⟨h2, h3, h4⟩ | ⟨i, j, A, B, va, vb, h2, h3, h4⟩
  · exact .inl ⟨h2, h3, closeF h4⟩
  · exact .inr ⟨i, j, A, B, va, vb, h2, h3, (closeF (h4.conv (S' := (l, LogG vs vo Ps) :: (2, TupC vs Ss) :: (3, TupC vo Os) :: (blk va, sl 1 by8 A 5 va) :: (blk vb, sl 1 by8 B 5 vb) :: K))).conv⟩
theorem okMap {Y : List TupV} (hY : Y.map (·.2.2) = Ss) (h : ∀ t ∈ Ss, TupOk t) : ∀ y ∈ Y, TupOk y.2.2 := fun y hy => h _ (by rw [← hY]; exact List.mem_map_of_mem (f := fun x : TupV => x.2.2) hy)
theorem lenMap {Y : List TupV} (hY : Y.map (·.2.2) = Ss) : Y.length = Ss.length := by rw [← hY, List.length_map]
theorem forgedF (hs : ∀ t ∈ Ss, TupOk t) (ho : ∀ t ∈ Os, TupOk t) (hsl : Ss.length ≤ 1000000) (hol : Os.length ≤ 1000000) (hS : Sat w0 ((l, LogF Ps Ss Os) :: K) w) :
    Calls Tryd.prog 16 #[.pointer (some ⟨l, 0, none⟩)] w fun e w' =>
      (e = .returned (.tuple #[.agg (tupF (.slice none 0 0, .slice none 0 0, zT)).toArray, .bool false]) ∧ NoForged Ss Os Os.length ∧ Sat w0 ((l, LogF Ps Ss Os) :: K) w') ∨
      ∃ j t q1 c1 q2 c2, ForgedAt Ss Os j t ∧ e = .returned (.tuple #[.agg (tupF (.slice q1 t.2.2.1.length c1, .slice q2 t.2.2.2.length c2, t)).toArray, .bool true]) ∧
        Sat w0 ((blk (.slice q1 t.2.2.1.length c1), sl 1 by8 t.2.2.1 5 (.slice q1 t.2.2.1.length c1)) :: (blk (.slice q2 t.2.2.2.length c2), sl 1 by8 t.2.2.2 5 (.slice q2 t.2.2.2.length c2)) :: (l, LogF Ps Ss Os) :: K) w' := by
  obtain ⟨vp, vs, vo, X, Y, Z, hX, hY, hZ, h1⟩ := openFull hS
  refine (forged_open (okMap hY hs) (okMap hZ ho) (by rw [lenMap hY]; exact hsl) (by rw [lenMap hZ]; exact hol) h1).mono fun _ _ h => ?_
  rw [hY, hZ, lenMap hZ] at h
  rcases h with ⟨h2, h3, h4⟩ | ⟨j, t, q1, c1, q2, c2, h2, h3, h4⟩
  · exact .inl ⟨h2, h3, closeFull hX hY hZ h4⟩
  · exact .inr ⟨j, t, q1, c1, q2, c2, h2, h3, (closeFull hX hY hZ (h4.conv (S' := (l, cells #[vp, vs, vo] 70) :: (blk vs, sl 15 tupF Y 46 vs) :: (1, inn (rowsT Y) 5) :: (blk vo, sl 15 tupF Z 46 vo) :: (2, inn (rowsT Z) 5) :: (blk vp, sl 33 pairF X 72 vp) :: (0, inn (rowsOf X) 5) :: (blk (.slice q1 t.2.2.1.length c1), sl 1 by8 t.2.2.1 5 (.slice q1 t.2.2.1.length c1)) :: (blk (.slice q2 t.2.2.2.length c2), sl 1 by8 t.2.2.2 5 (.slice q2 t.2.2.2.length c2)) :: K))).conv⟩
theorem twiceF (hs : ∀ t ∈ Ss, TupOk t) (hsl : Ss.length ≤ 1000000) (hS : Sat w0 ((l, LogF Ps Ss Os) :: K) w) :
    Calls Tryd.prog 22 #[.pointer (some ⟨l, 0, none⟩)] w fun e w' =>
      (e = .returned (.tuple #[.agg (tupF (.slice none 0 0, .slice none 0 0, zT)).toArray, .agg (tupF (.slice none 0 0, .slice none 0 0, zT)).toArray, .bool false]) ∧ NoTwice Ss Ss.length ∧ Sat w0 ((l, LogF Ps Ss Os) :: K) w') ∨
      ∃ i j s t q1 c1 q2 c2 q3 c3 q4 c4, TwiceAt Ss i j s t ∧ e = .returned (.tuple #[.agg (tupF (.slice q1 s.2.2.1.length c1, .slice q2 s.2.2.2.length c2, s)).toArray, .agg (tupF (.slice q3 t.2.2.1.length c3, .slice q4 t.2.2.2.length c4, t)).toArray, .bool true]) ∧
        Sat w0 ((blk (.slice q1 s.2.2.1.length c1), sl 1 by8 s.2.2.1 5 (.slice q1 s.2.2.1.length c1)) :: (blk (.slice q2 s.2.2.2.length c2), sl 1 by8 s.2.2.2 5 (.slice q2 s.2.2.2.length c2)) :: (blk (.slice q3 t.2.2.1.length c3), sl 1 by8 t.2.2.1 5 (.slice q3 t.2.2.1.length c3)) :: (blk (.slice q4 t.2.2.2.length c4), sl 1 by8 t.2.2.2 5 (.slice q4 t.2.2.2.length c4)) :: (l, LogF Ps Ss Os) :: K) w' := by
  obtain ⟨vp, vs, vo, X, Y, Z, hX, hY, hZ, h1⟩ := openFull hS
  refine (twice_open (okMap hY hs) (by rw [lenMap hY]; exact hsl) h1).mono fun _ _ h => ?_
  rw [hY, lenMap hY] at h
  rcases h with ⟨h2, h3, h4⟩ | ⟨i, j, s, t, q1, c1, q2, c2, q3, c3, q4, c4, h2, h3, h4⟩
  · exact .inl ⟨h2, h3, closeFull hX hY hZ h4⟩
  · exact .inr ⟨i, j, s, t, q1, c1, q2, c2, q3, c3, q4, c4, h2, h3, (closeFull hX hY hZ (h4.conv (S' := (l, cells #[vp, vs, vo] 70) :: (blk vs, sl 15 tupF Y 46 vs) :: (1, inn (rowsT Y) 5) :: (blk vo, sl 15 tupF Z 46 vo) :: (2, inn (rowsT Z) 5) :: (blk vp, sl 33 pairF X 72 vp) :: (0, inn (rowsOf X) 5) :: (blk (.slice q1 s.2.2.1.length c1), sl 1 by8 s.2.2.1 5 (.slice q1 s.2.2.1.length c1)) :: (blk (.slice q2 s.2.2.2.length c2), sl 1 by8 s.2.2.2 5 (.slice q2 s.2.2.2.length c2)) :: (blk (.slice q3 t.2.2.1.length c3), sl 1 by8 t.2.2.1 5 (.slice q3 t.2.2.1.length c3)) :: (blk (.slice q4 t.2.2.2.length c4), sl 1 by8 t.2.2.2 5 (.slice q4 t.2.2.2.length c4)) :: K))).conv⟩
theorem blocksF (hs : ∀ t ∈ Ss, TupOk t) (hsl : Ss.length ≤ 1000000) (hS : Sat w0 ((l, LogF Ps Ss Os) :: K) w) :
    Calls Tryd.prog 24 #[.pointer (some ⟨l, 0, none⟩)] w fun e w' => ∃ v B, e = .returned v ∧ B.map (·.2) = Ss.map (·.2.2.2) ∧ Sat w0 ((blk v, sl 1 rowF B 31 v) :: (5, inn B 5) :: (l, LogF Ps Ss Os) :: K) w' := by
  obtain ⟨vp, vs, vo, X, Y, Z, hX, hY, hZ, h1⟩ := openFull hS
  refine (blocks_open (okMap hY hs) (by rw [lenMap hY]; exact hsl) h1).mono fun _ _ ⟨v, B, h2, h3, h4⟩ => ⟨v, B, h2, by rw [h3, ← hY, List.map_map]; rfl, ?_⟩
  exact (closeFull hX hY hZ (h4.conv (S' := (l, cells #[vp, vs, vo] 70) :: (blk vs, sl 15 tupF Y 46 vs) :: (1, inn (rowsT Y) 5) :: (blk vo, sl 15 tupF Z 46 vo) :: (2, inn (rowsT Z) 5) :: (blk vp, sl 33 pairF X 72 vp) :: (0, inn (rowsOf X) 5) :: (blk v, sl 1 rowF B 31 v) :: (5, inn B 5) :: K))).conv
set_option maxHeartbeats 1000000 in
theorem countF (hS : Sat w0 ((l, LogF Ps Ss Os) :: K) w) : Calls Tryd.prog 23 #[.pointer (some ⟨l, 0, none⟩)] w fun e w' => e = .returned (.tuple #[.int .i64 (Ps.length : Int), .int .i64 (Ss.length : Int), .int .i64 (Os.length : Int)]) ∧ Sat w0 ((l, LogF Ps Ss Os) :: K) w' := by
  obtain ⟨vp, vs, vo, X, Y, Z, hX, hY, hZ, hS2⟩ := openFull hS
  clear hS
  have hS := hS2
  clear hS2
  obtain ⟨q1, c1, e1⟩ := slShape (hS.pull (blk vs) (X := sl 15 tupF Y 46 vs))
  obtain ⟨q2, c2, e2⟩ := slShape (hS.pull (blk vo) (X := sl 15 tupF Z 46 vo))
  obtain ⟨q3, c3, e3⟩ := slShape (hS.pull (blk vp) (X := sl 33 pairF X 72 vp))
  rw [lenMap hY] at e1
  rw [lenMap hZ] at e2
  rw [show X.length = Ps.length by rw [← hX, List.length_map]] at e3
  subst e1 e2 e3
  have HX : Bx _ := ⟨hX⟩
  have HY : Bx _ := ⟨hY⟩
  have HZ : Bx _ := ⟨hZ⟩
  clear hX hY hZ
  go_enter Tryd.func23, Tryd.ntmps23
  go_wp2_with (first | (refine load1 hS rfl rfl rfl rfl ?_; simp only [putW]) | (refine loadAll hS rfl rfl rfl ?_ ?_; rfl; simp only [putW]) | (refine loadPart hS rfl rfl rfl ?_ rfl ?_; rfl; simp only [putW]) | (refine store1 hS rfl rfl rfl rfl rfl ?_ ?_; (focus (simp; done)); clear hS; intro w hS; simp only [evW, putW] at hS; try simp only [putW]) | (refine storeAll hS rfl rfl rfl rfl ?_ ?_ ?_ ?_; rfl; (focus (simp [Value.oneCell']; done)); rfl; clear hS; intro w hS; try simp only [putW]) | (refine storeN hS rfl rfl rfl rfl ?_ ?_ ?_ ?_; rfl; (focus (simp [Value.oneCell']; done)); (focus (simp; done)); clear hS; intro w hS; simp at hS; try simp only [putW]) | (refine alloc hS rfl rfl ?_; clear hS; intro mb w hS; simp only [putW]) | (refine box1 hS rfl rfl rfl rfl ?_; clear hS; intro mb w hS; try simp only [evW, putW] at hS; simp only [putW]) | (refine boxN hS rfl rfl rfl ?_; clear hS; intro mb w hS; simp only [putW]))
  (refine region_quiet hS (by kernel_rfl) (by kernel_rfl) (by kernel_rfl) ?_; clear hS; (repeat (apply quiet_step; (focus (intro w hS; go_wp2_with (first | (refine load1 hS rfl rfl rfl rfl ?_; simp only [putW]) | (refine loadAll hS rfl rfl rfl ?_ ?_; rfl; simp only [putW]) | (refine loadPart hS rfl rfl rfl ?_ rfl ?_; rfl; simp only [putW])); exact ⟨rfl, rfl, hS⟩)); simp only [putW])); refine quiet_nil ?_; intro w hS)
  go_wp2_with (first | (refine load1 hS rfl rfl rfl rfl ?_; simp only [putW]) | (refine loadAll hS rfl rfl rfl ?_ ?_; rfl; simp only [putW]) | (refine loadPart hS rfl rfl rfl ?_ rfl ?_; rfl; simp only [putW]) | (refine store1 hS rfl rfl rfl rfl rfl ?_ ?_; (focus (simp; done)); clear hS; intro w hS; simp only [evW, putW] at hS; try simp only [putW]) | (refine storeAll hS rfl rfl rfl rfl ?_ ?_ ?_ ?_; rfl; (focus (simp [Value.oneCell']; done)); rfl; clear hS; intro w hS; try simp only [putW]) | (refine storeN hS rfl rfl rfl rfl ?_ ?_ ?_ ?_; rfl; (focus (simp [Value.oneCell']; done)); (focus (simp; done)); clear hS; intro w hS; simp at hS; try simp only [putW]) | (refine alloc hS rfl rfl ?_; clear hS; intro mb w hS; simp only [putW]) | (refine box1 hS rfl rfl rfl rfl ?_; clear hS; intro mb w hS; try simp only [evW, putW] at hS; simp only [putW]) | (refine boxN hS rfl rfl rfl ?_; clear hS; intro mb w hS; simp only [putW]))
  refine bodyPost_ret (v := .tuple #[.int .i64 (Ps.length : Int), .int .i64 (Ss.length : Int), .int .i64 (Os.length : Int)]) (by simp [results, Tryd.results23]) rfl ⟨rfl, closeFull HX.out HY.out HZ.out hS⟩
end
end Go.Proofs.YteoidocicjlglaaDoor
