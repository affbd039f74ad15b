/-
  tree.Build.
-/
import Derived.Test.YtdkimdobcacpfaaDoorTrAb
import Derived.Test.YtdkimdobcacpfaaDoorTrR16
set_option linter.unusedSimpArgs false
set_option linter.unusedVariables false
namespace Go.Proofs.YtdkimdobcacpfaaDoor
open Go.RowKit Go.Proofs.YtdkimdobcacpfaaDoor.Sl Go.Proofs.YtdkimdobcacpfaaDoor.Sha Go.Proofs.YtdkimdobcacpfaaDoor.Jp Go.Proofs.YtdkimdobcacpfaaDoor.Tr

section
variable {w0 w : World} {K F S : List Chunk} {l : Nat} {lg : Value} {Ps Qs : List (List Int × List Int)} {va vb lv : Value} {X : List (Value × List Int)}
/-- Two rows of rows are one. -/
theorem innMerge {X Y : List (Value × List Int)} {t : TypeId} {j j' : Nat} (h : Sat w0 ((j, inn X t) :: (j', inn Y t) :: F) w) : Sat w0 ((j, inn (X ++ Y) t) :: F) w := by
  refine Sat.close (T := [(j, inn X t), (j', inn Y t)]) h fun h1 ⟨ha, hb, d, l1, l2, hx, hc, hd, d', l3, l4, hy, _⟩ => ?_
  show holds (rowsL (X ++ Y) t) h1
  unfold rowsL
  rw [List.map_append]
  refine holds_join (h1 := ha) (h2 := hc) (fun k => ?_) l1 (le_trans l3 l2) hx hy
  rcases d k with e | e
  · exact .inl e
  · right
    cases ec : hc k with
    | none => rfl
    | some o => have := l3 k o ec; rw [e] at this; cases this
/-- A row of rows reads, its rows standing among others. -/
theorem rowsReadSub {X X' : List (Value × List Int)} {t T : TypeId} {gv j : Nat} {vo : Value} {F' : List Chunk} (h : Sat w0 S w) [p : PullSl S vo gv 1 rowF X T F] [q : Pull F j (inn X' t) F'] (hs : ∀ x ∈ X, x ∈ X') (hX : ∀ x ∈ X, ∀ b ∈ x.2, okByte b) : RR w X vo := by
  refine BSl.mono (gd := fun x => x ∈ X) (h.readsSl (g := gv) (n := 1) (f := rowF) (L := X) (t := T) fun x hx => hx) (Below.refl _ _) fun x hx _ => ?_
  have h1 := (h.perm p.perm).tail
  exact (h1.pull j).innReads (v := x.1) (A := x.2) (hs x hx) (hX x hx)
theorem rowsOk {X : List (Value × List Int)} {L : List Row} (h : X.map (·.2) = L) (hL : ∀ r ∈ L, isRow r) : ∀ x ∈ X, isRow x.2 := fun x hx => hL _ (by rw [← h]; exact List.mem_map_of_mem hx)

set_option maxRecDepth 100000 in
set_option maxHeartbeats 4000000 in
theorem build_any {L : List Int} {P C m : Nat} {b N H hd J s t : Int} (hS : Sat w0 ((1, LogV lg Ps) :: K) w) (hR : ∀ w', Sat w0 K w' → RR w' X vb) (hLv : ∀ w', Sat w0 K w' → RI w' L lv) (hK : KTab w0) (hC : X.length = C) (hrow : ∀ x ∈ X, x.2.length = 256) (hm : L.length = m) (hm0 : 0 < m)
    (hb : ∀ k, k ≤ m → (stB dig P (X.map (·.2)) k).1 ≤ 400000 ∧ (stB dig P (X.map (·.2)) k).2.1.length ≤ 1000 ∧ (stB dig P (X.map (·.2)) k).2.2.length ≤ 100000) (hone : (stB dig P (X.map (·.2)) m).2.1.length = 1) (hP : Ps.length ≤ 1000) :
    Calls Tryd.prog 37 #[lg, .agg (plL P b C lv N H hd J s t).toArray, vb] w fun e w' => ∃ v Y, e = .returned (.tuple #[v, .agg ((dig (stB dig P (X.map (·.2)) m).1 ((stB dig P (X.map (·.2)) m).2.1.getD 0 [])).map u8v).toArray, .int .i64 0]) ∧ Y.map (·.2) = (stB dig P (X.map (·.2)) m).2.2 ∧
      Sat w0 ((blk v, sl 1 rowF Y 48 v) :: (0, inn Y 5) :: (1, LogV lg (Ps ++ stN dig pre P (X.map (·.2)) m ++ [(pre (stB dig P (X.map (·.2)) m).1 ((stB dig P (X.map (·.2)) m).2.1.getD 0 []), dig (stB dig P (X.map (·.2)) m).1 ((stB dig P (X.map (·.2)) m).2.1.getD 0 []))])) :: K) w' := by
  obtain ⟨a0, c0, hvb, hn⟩ := rrShape (hR w hS.tail)
  subst hvb
  obtain ⟨a1, c1, hlv, hn1, _⟩ := (hLv w hS.tail).at
  subst hlv
  obtain ⟨bs, hbs⟩ : ∃ bs, X.map (·.2) = bs := ⟨_, rfl⟩
  rw [hbs] at hb hone ⊢
  have HB : Bx _ := ⟨hbs⟩
  have HR : Bx _ := ⟨hR⟩
  have HW : Bx _ := ⟨hrow⟩
  have Hb : Bx _ := ⟨hb⟩
  have Ho : Bx _ := ⟨hone⟩
  have hP4 : P ≤ 400000 := (hb 0 (Nat.zero_le _)).1
  obtain ⟨D, hD⟩ : ∃ D, dig (stB dig P bs m).1 ((stB dig P bs m).2.1.getD 0 []) = D := ⟨_, rfl⟩
  obtain ⟨E, hE⟩ : ∃ E, pre (stB dig P bs m).1 ((stB dig P bs m).2.1.getD 0 []) = E := ⟨_, rfl⟩
  rw [hD, hE]
  have HD : Bx _ := ⟨hD⟩
  have HE : Bx _ := ⟨hE⟩
  have hdl : Bx (D.length = 32) := ⟨by rw [← hD]; exact dig_len' _ _⟩
  clear hD hE
  rw [hC, hm]
  rw [hC] at hn
  have hX1 : C ≤ 1000 := by have := (hb 0 (Nat.zero_le _)).2.1; rw [← hbs] at this; simpa [stB, hC] using this
  clear hbs hR hrow hb hone hLv
  go_enter Tryd.func37, Tryd.ntmps37
  go_wp2_with (first | (refine allocA (t := 26) (vv := u8v) hS rfl rfl (List.replicate 32 0) zeros32 ?_; clear hS; intro mo w hS; simp only [putW]) | (refine load1 hS rfl rfl rfl rfl ?_; simp only [putW]) | (refine loadAll hS rfl rfl rfl ?_ ?_; rfl; simp only [putW]) | (refine loadPart hS rfl rfl rfl ?_ rfl ?_; rfl; simp only [putW]) | (refine store1 hS rfl rfl rfl rfl rfl ?_ ?_; (focus (simp; done)); clear hS; intro w hS; simp only [evW, putW] at hS; try simp only [putW]) | (refine storeAll hS rfl rfl rfl rfl ?_ ?_ ?_ ?_; rfl; (focus (simp [Value.oneCell']; done)); rfl; clear hS; intro w hS; try simp only [putW]) | (refine storeN hS rfl rfl rfl rfl ?_ ?_ ?_ ?_; rfl; (focus (simp [Value.oneCell']; done)); (focus (simp; done)); clear hS; intro w hS; simp at hS; try simp only [putW]) | (refine alloc hS rfl rfl ?_; clear hS; intro mb w hS; simp only [putW]) | (refine box1 hS rfl rfl rfl rfl ?_; clear hS; intro mb w hS; try simp only [evW, putW] at hS; simp only [putW]) | (refine boxN hS rfl rfl rfl ?_; clear hS; intro mb w hS; simp only [putW]))
  go_loopw [29] (fun i wr => ∃ k : Nat, k ≤ C ∧ i = .int .i64 k ∧ Sat w0 _ wr) (fun i _ => C - (intOf i).toNat)
  case atStart => exact ⟨0, Nat.zero_le _, rfl, hS⟩
  case round =>
    clear hS
    obtain ⟨k, hk, rfl, hS⟩ := hrel
    by_cases hlt : k < C
    · obtain ⟨⟨xv, xl⟩, hx⟩ : ∃ x, X[k]? = some x := ⟨_, List.getElem?_eq_getElem (by omega)⟩
      have hRw := HR.out _ (hS.conv : Sat w0 K wr)
      obtain ⟨bb, ob, ha0, hBb⟩ := rrAt hRw (by intro e; subst e; simp at hx)
      subst ha0
      obtain ⟨px, cx, hxv⟩ : ∃ px cx, xv = .slice px 256 cx := by
        obtain ⟨px, cx, e, _⟩ := (hBb.2 k _ hx).1.at
        have h256 : xl.length = 256 := HW.out _ (List.mem_of_getElem? hx)
        rw [h256] at e
        exact ⟨px, cx, e⟩
      subst hxv
      clear hRw
      go_wp2_with (first | (refine loadB (f := rowF) (Sat.refl _) rfl rfl rfl hBb k 0 ?_ hx rfl ?_; omega; simp only [putW]) | (refine load1 hS rfl rfl rfl rfl ?_; simp only [putW]) | (refine loadAll hS rfl rfl rfl ?_ ?_; rfl; simp only [putW]) | (refine loadPart hS rfl rfl rfl ?_ rfl ?_; rfl; simp only [putW]) | (refine store1 hS rfl rfl rfl rfl rfl ?_ ?_; (focus (simp; done)); clear hS; intro w hS; simp only [evW, putW] at hS; try simp only [putW]) | (refine storeAll hS rfl rfl rfl rfl ?_ ?_ ?_ ?_; rfl; (focus (simp [Value.oneCell']; done)); rfl; clear hS; intro w hS; try simp only [putW]) | (refine storeN hS rfl rfl rfl rfl ?_ ?_ ?_ ?_; rfl; (focus (simp [Value.oneCell']; done)); (focus (simp; done)); clear hS; intro w hS; simp at hS; try simp only [putW]) | (refine alloc hS rfl rfl ?_; clear hS; intro mb w hS; simp only [putW]) | (refine box1 hS rfl rfl rfl rfl ?_; clear hS; intro mb w hS; try simp only [evW, putW] at hS; simp only [putW]) | (refine boxN hS rfl rfl rfl ?_; clear hS; intro mb w hS; simp only [putW]))
      go_roundw
      case rel => exact ⟨k + 1, by omega, by go_num, hS⟩
      case measure => simp [intOf]; omega
    · have hkC : k = C := by omega
      subst hkC
      go_wp2_with (first | (refine load1 hS rfl rfl rfl rfl ?_; simp only [putW]) | (refine loadAll hS rfl rfl rfl ?_ ?_; rfl; simp only [putW]) | (refine loadPart hS rfl rfl rfl ?_ rfl ?_; rfl; simp only [putW]) | (refine store1 hS rfl rfl rfl rfl rfl ?_ ?_; (focus (simp; done)); clear hS; intro w hS; simp only [evW, putW] at hS; try simp only [putW]) | (refine storeAll hS rfl rfl rfl rfl ?_ ?_ ?_ ?_; rfl; (focus (simp [Value.oneCell']; done)); rfl; clear hS; intro w hS; try simp only [putW]) | (refine storeN hS rfl rfl rfl rfl ?_ ?_ ?_ ?_; rfl; (focus (simp [Value.oneCell']; done)); (focus (simp; done)); clear hS; intro w hS; simp at hS; try simp only [putW]) | (refine alloc hS rfl rfl ?_; clear hS; intro mb w hS; simp only [putW]) | (refine box1 hS rfl rfl rfl rfl ?_; clear hS; intro mb w hS; try simp only [evW, putW] at hS; simp only [putW]) | (refine boxN hS rfl rfl rfl ?_; clear hS; intro mb w hS; simp only [putW]))
      go_loopw [11, 12, 13, 44] (fun nd at' lv' i wr => ∃ (q : Nat) (Nd Lk : List (Value × List Int)) (T : List Chunk), q ≤ m ∧ i = .int .i64 q ∧ at' = .int .i64 ((stB dig P bs q).1 : Nat) ∧ Bx (Nd.map (·.2) = (stB dig P bs q).2.2) ∧ Bx (Lk.map (·.2) = (stB dig P bs q).2.1) ∧ Bx (∀ x ∈ Lk, x.2.length ≤ 10000) ∧ Bx (∀ w', Sat w0 ((0, inn Nd 5) :: (T ++ K)) w' → RR w' Lk lv') ∧
        Sat w0 ((blk nd, sl 1 rowF Nd 48 nd) :: (0, inn Nd 5) :: (1, LogV lg (Ps ++ stN dig pre P bs q)) :: (mo, cells ((List.replicate 32 (0 : Int)).map u8v).toArray 26) :: (mb, cells (plL P b k (.slice a1 m c1) N H hd J s t).toArray 60) :: (T ++ K)) wr) (fun _ _ _ i _ => m - (intOf i).toNat)
      case atStart =>
        refine ⟨0, [], X, [], Nat.zero_le _, rfl, rfl, ⟨rfl⟩, HB, ⟨fun x hx => by rw [HW.out x hx]; omega⟩, ⟨fun w' h => ?_⟩, ?_⟩
        · have h1 : Sat w0 K w' := (show Sat w0 ((0, inn [] 5) :: K) w' from h).conv
          have h2 := HR.out _ h1
          rw [hC] at h2
          exact h2
        · have h1 := (hS.innNil 0 5).slNil 1 rowF 48
          rw [show Ps ++ stN dig pre P bs 0 = Ps by simp [stN]]
          exact (h1.conv : Sat w0 ((0, sl 1 rowF [] 48 (.slice none 0 0)) :: (0, inn [] 5) :: (1, LogV lg Ps) :: (mo, cells ((List.replicate 32 (0 : Int)).map u8v).toArray 26) :: (mb, cells (plL P b k (.slice a1 m c1) N H hd J s t).toArray 60) :: K) wr)
      case round =>
        clear hS
        obtain ⟨q, Nd, Lk, T, hq, rfl, rfl, hNd, hLk, hLr, hRd, hS⟩ := hrel
        obtain ⟨a2, c2, hv2, _⟩ := rrShape (hRd.out wr hS.conv)
        subst hv2
        have hbq := Hb.out q hq
        have hlk : Lk.length = (stB dig P bs q).2.1.length := by rw [← hLk.out]; simp
        have hnd : Nd.length = (stB dig P bs q).2.2.length := by rw [← hNd.out]; simp
        have hnt := stN_len (d := dig) pre P bs q
        have hstep : Bx (stB dig P bs (q + 1) = ((stB dig P bs q).1 + Lk.length, ab dig (stB dig P bs q).1 (stB dig P bs q).2.1 Lk.length, (stB dig P bs q).2.2 ++ ab dig (stB dig P bs q).1 (stB dig P bs q).2.1 Lk.length)) := ⟨by rw [hlk]; rfl⟩
        have hnstep : Bx (stN dig pre P bs (q + 1) = stN dig pre P bs q ++ notes dig pre (stB dig P bs q).1 (stB dig P bs q).2.1 Lk.length) := ⟨by rw [hlk]; rfl⟩
        obtain ⟨at0, hat0⟩ : ∃ n, (stB dig P bs q).1 = n := ⟨_, rfl⟩
        rw [hat0] at hstep hnstep hnt hbq ⊢
        have hlk1 : Lk.length ≤ 1000 := by omega
        have hnd1 : Nd.length ≤ 100000 := by omega
        have hnt1 : (stN dig pre P bs q).length ≤ 400000 := by omega
        have hat1 : at0 ≤ 400000 := by omega
        have HLK : Bx _ := ⟨hlk⟩
        have HAT : Bx _ := ⟨hat0⟩
        clear hbq hlk hnd hnt hat0
        by_cases hqm : q < m
        · go_wp2_with (first | (guard_target =~ Calls _ 63 _ _ _; refine Stopped.out ?_) | (refine load1 hS rfl rfl rfl rfl ?_; simp only [putW]) | (refine loadAll hS rfl rfl rfl ?_ ?_; rfl; simp only [putW]) | (refine loadPart hS rfl rfl rfl ?_ rfl ?_; rfl; simp only [putW]) | (refine store1 hS rfl rfl rfl rfl rfl ?_ ?_; (focus (simp; done)); clear hS; intro w hS; simp only [evW, putW] at hS; try simp only [putW]) | (refine storeAll hS rfl rfl rfl rfl ?_ ?_ ?_ ?_; rfl; (focus (simp [Value.oneCell']; done)); rfl; clear hS; intro w hS; try simp only [putW]) | (refine storeN hS rfl rfl rfl rfl ?_ ?_ ?_ ?_; rfl; (focus (simp [Value.oneCell']; done)); (focus (simp; done)); clear hS; intro w hS; simp at hS; try simp only [putW]) | (refine alloc hS rfl rfl ?_; clear hS; intro mb w hS; simp only [putW]) | (refine box1 hS rfl rfl rfl rfl ?_; clear hS; intro mb w hS; try simp only [evW, putW] at hS; simp only [putW]) | (refine boxN hS rfl rfl rfl ?_; clear hS; intro mb w hS; simp only [putW]))
          refine ⟨?_⟩
          replace hS := hS.conv (S' := (1, LogV lg (Ps ++ stN dig pre P bs q)) :: (blk u11, sl 1 rowF Nd 48 u11) :: (0, inn Nd 5) :: (mo, cells ((List.replicate 32 (0 : Int)).map u8v).toArray 26) :: (mb, cells (plL P b k (.slice a1 m c1) N H hd J s t).toArray 60) :: (T ++ K))
          have hPl : (Ps ++ stN dig pre P bs q).length ≤ 500000 := by rw [List.length_append]; omega
          (refine Calls.mono (above_any (fr := at0) (X := Lk) (by omega) hS (fun w' h => hRd.out w' h.conv) hK (by omega) hLr.out hPl) ?_; clear hS; rintro _ w ⟨v, Y, rfl, hY, hS⟩; simp only [putW])
          rw [hLk.out] at hY hS
          have hYr := ab_rows dig_len' dig_okB at0 (stB dig P bs q).2.1 Lk.length
          rw [← hY] at hYr
          have hYl : Y.length ≤ 1000 := by have := congrArg List.length hY; rw [ab_len] at this; simp at this; omega
          have HY : Bx _ := ⟨hY⟩
          have HYr : Bx (∀ x ∈ Y, isRow x.2) := ⟨fun x hx => hYr _ (List.mem_map_of_mem hx)⟩
          clear hY hYr
          have hc : ∀ x ∈ Y, x.1.oneCell' = true := fun x hx => by
            have h1 := (hS.pull 0).innReads (v := x.1) (A := x.2) hx (HYr.out x hx).2
            obtain ⟨a, c, e, _⟩ := h1.at
            rw [e]; rfl
          have hS2 := (hS.pull 0).turn (b' := 2) (Y := inn Y 5) fun _ h => h
          clear hS
          have hS := hS2
          clear hS2
          go_wp2_with (first | (guard_target =~ wpList _ _ _ (Oper.mk (some 57) _ _ _ _ _ :: _) _ _; refine Stopped.out ?_) | (refine load1 hS rfl rfl rfl rfl ?_; simp only [putW]) | (refine loadAll hS rfl rfl rfl ?_ ?_; rfl; simp only [putW]) | (refine loadPart hS rfl rfl rfl ?_ rfl ?_; rfl; simp only [putW]) | (refine store1 hS rfl rfl rfl rfl rfl ?_ ?_; (focus (simp; done)); clear hS; intro w hS; simp only [evW, putW] at hS; try simp only [putW]) | (refine storeAll hS rfl rfl rfl rfl ?_ ?_ ?_ ?_; rfl; (focus (simp [Value.oneCell']; done)); rfl; clear hS; intro w hS; try simp only [putW]) | (refine storeN hS rfl rfl rfl rfl ?_ ?_ ?_ ?_; rfl; (focus (simp [Value.oneCell']; done)); (focus (simp; done)); clear hS; intro w hS; simp at hS; try simp only [putW]) | (refine alloc hS rfl rfl ?_; clear hS; intro mb w hS; simp only [putW]) | (refine box1 hS rfl rfl rfl rfl ?_; clear hS; intro mb w hS; try simp only [evW, putW] at hS; simp only [putW]) | (refine boxN hS rfl rfl rfl ?_; clear hS; intro mb w hS; simp only [putW]))
          refine ⟨?_⟩
          refine appendB (f := rowF) (n := 1) hS rfl rfl u11 rfl rfl Y (hS.readsSl (v := v) (L := Y) (gd := fun _ => True) fun _ _ => trivial) (fun x hx u hu => by rw [List.mem_singleton.1 hu]; exact hc x hx) ?_ ?_ ?_
          · simp [maxLen]; omega
          · omega
          clear hS hc
          intro v2 w hS
          simp only [putW]
          have hS2 : Sat w0 ((0, inn (Nd ++ Y) 5) :: (blk v2, sl 1 rowF (Nd ++ Y) 48 v2) :: (1, LogV lg (Ps ++ stN dig pre P bs q ++ notes dig pre at0 (stB dig P bs q).2.1 Lk.length)) :: (mo, cells ((List.replicate 32 (0 : Int)).map u8v).toArray 26) :: (mb, cells (plL P b k (.slice a1 m c1) N H hd J s t).toArray 60) :: (blk v, sl 1 rowF Y 48 v) :: (T ++ K)) w := innMerge (j := 0) (j' := 2) hS.conv
          clear hS
          have hS := hS2
          clear hS2
          rw [List.append_assoc, ← hnstep.out] at hS
          go_wp2_with (first | (refine load1 hS rfl rfl rfl rfl ?_; simp only [putW]) | (refine loadAll hS rfl rfl rfl ?_ ?_; rfl; simp only [putW]) | (refine loadPart hS rfl rfl rfl ?_ rfl ?_; rfl; simp only [putW]) | (refine store1 hS rfl rfl rfl rfl rfl ?_ ?_; (focus (simp; done)); clear hS; intro w hS; simp only [evW, putW] at hS; try simp only [putW]) | (refine storeAll hS rfl rfl rfl rfl ?_ ?_ ?_ ?_; rfl; (focus (simp [Value.oneCell']; done)); rfl; clear hS; intro w hS; try simp only [putW]) | (refine storeN hS rfl rfl rfl rfl ?_ ?_ ?_ ?_; rfl; (focus (simp [Value.oneCell']; done)); (focus (simp; done)); clear hS; intro w hS; simp at hS; try simp only [putW]) | (refine alloc hS rfl rfl ?_; clear hS; intro mb w hS; simp only [putW]) | (refine box1 hS rfl rfl rfl rfl ?_; clear hS; intro mb w hS; try simp only [evW, putW] at hS; simp only [putW]) | (refine boxN hS rfl rfl rfl ?_; clear hS; intro mb w hS; simp only [putW]))
          go_roundw
          case rel =>
            refine ⟨q + 1, Nd ++ Y, Y, [(blk v, sl 1 rowF Y 48 v)], by omega, by go_num, ?_, ⟨by rw [List.map_append, hNd.out, HY.out, hstep.out]⟩, ⟨by rw [HY.out, hstep.out]⟩, ⟨fun x hx => by rw [(HYr.out x hx).1]; omega⟩, ⟨fun w' h => ?_⟩, ?_⟩
            · rw [hstep.out]; go_num
            · have h1 : Sat w0 ((0, inn (Nd ++ Y) 5) :: (blk v, sl 1 rowF Y 48 v) :: K) w' := h
              exact rowsReadSub (j := 0) (X' := Nd ++ Y) h1 (fun x hx => List.mem_append_right _ hx) fun x hx => (HYr.out x hx).2
            · exact (hS.conv : Sat w0 ((blk v2, sl 1 rowF (Nd ++ Y) 48 v2) :: (0, inn (Nd ++ Y) 5) :: (1, LogV lg (Ps ++ stN dig pre P bs (q + 1))) :: (mo, cells ((List.replicate 32 (0 : Int)).map u8v).toArray 26) :: (mb, cells (plL P b k (.slice a1 m c1) N H hd J s t).toArray 60) :: (blk v, sl 1 rowF Y 48 v) :: K) w)
          case measure => simp [intOf]; omega
        · have hqe : q = m := by omega
          subst hqe
          have hl1 : Lk.length = 1 := by rw [HLK.out]; exact Ho.out
          obtain ⟨⟨xv, xl⟩, hx⟩ : ∃ x, Lk[0]? = some x := ⟨_, List.getElem?_eq_getElem (by omega)⟩
          have hxl : xl.length ≤ 10000 := hLr.out _ (List.mem_of_getElem? hx)
          have hxg : Bx ((stB dig P bs q).2.1.getD 0 [] = xl) := ⟨by rw [← hLk.out]; exact mapGet hx⟩
          have hRw := hRd.out wr hS.conv
          obtain ⟨bb, ob, ha0, hBb⟩ := rrAt hRw (by intro e; subst e; simp at hx)
          subst ha0
          rw [hl1]
          have HL1 : Bx (Lk.length = 1) := ⟨hl1⟩
          have HD2 : Bx (dig at0 xl = D) := ⟨by rw [← HD.out, hxg.out, HAT.out]⟩
          have HE2 : Bx (pre at0 xl = E) := ⟨by rw [← HE.out, hxg.out, HAT.out]⟩
          clear hl1 hRw
          go_wp2_with (first | (refine loadB (f := rowF) (Sat.refl _) rfl rfl rfl hBb 0 0 ?_ hx rfl ?_; omega; simp only [putW]) | (guard_target =~ Calls _ 33 _ _ _; refine Stopped.out ?_) | (refine load1 hS rfl rfl rfl rfl ?_; simp only [putW]) | (refine loadAll hS rfl rfl rfl ?_ ?_; rfl; simp only [putW]) | (refine loadPart hS rfl rfl rfl ?_ rfl ?_; rfl; simp only [putW]) | (refine store1 hS rfl rfl rfl rfl rfl ?_ ?_; (focus (simp; done)); clear hS; intro w hS; simp only [evW, putW] at hS; try simp only [putW]) | (refine storeAll hS rfl rfl rfl rfl ?_ ?_ ?_ ?_; rfl; (focus (simp [Value.oneCell']; done)); rfl; clear hS; intro w hS; try simp only [putW]) | (refine storeN hS rfl rfl rfl rfl ?_ ?_ ?_ ?_; rfl; (focus (simp [Value.oneCell']; done)); (focus (simp; done)); clear hS; intro w hS; simp at hS; try simp only [putW]) | (refine alloc hS rfl rfl ?_; clear hS; intro mb w hS; simp only [putW]) | (refine box1 hS rfl rfl rfl rfl ?_; clear hS; intro mb w hS; try simp only [evW, putW] at hS; simp only [putW]) | (refine boxN hS rfl rfl rfl ?_; clear hS; intro mb w hS; simp only [putW]))
          refine ⟨?_⟩
          replace hS := hS.conv (S' := (1, LogV lg (Ps ++ stN dig pre P bs q)) :: (blk u11, sl 1 rowF Nd 48 u11) :: (0, inn Nd 5) :: (mo, cells ((List.replicate 32 (0 : Int)).map u8v).toArray 26) :: K)
          have hPl : (Ps ++ stN dig pre P bs q).length ≤ 1000000 := by rw [List.length_append]; omega
          (refine Calls.mono (digest_vi (b := at0) rfl hS hPl ((hBb.2 0 _ hx).1) hK hxl HD2.out) ?_; clear hS; rintro _ w ⟨rfl, hS⟩; simp only [putW])
          rw [HE2.out] at hS
          go_wp2_with (first | (refine storeAllA (vv := u8v) hS rfl rfl rfl D rfl hdl.out (fun _ _ => rfl) (by simp) ?_; clear hS; intro w hS; try simp only [putW]) | (refine load1 hS rfl rfl rfl rfl ?_; simp only [putW]) | (refine loadAll hS rfl rfl rfl ?_ ?_; rfl; simp only [putW]) | (refine loadPart hS rfl rfl rfl ?_ rfl ?_; rfl; simp only [putW]) | (refine store1 hS rfl rfl rfl rfl rfl ?_ ?_; (focus (simp; done)); clear hS; intro w hS; simp only [evW, putW] at hS; try simp only [putW]) | (refine storeAll hS rfl rfl rfl rfl ?_ ?_ ?_ ?_; rfl; (focus (simp [Value.oneCell']; done)); rfl; clear hS; intro w hS; try simp only [putW]) | (refine storeN hS rfl rfl rfl rfl ?_ ?_ ?_ ?_; rfl; (focus (simp [Value.oneCell']; done)); (focus (simp; done)); clear hS; intro w hS; simp at hS; try simp only [putW]) | (refine alloc hS rfl rfl ?_; clear hS; intro mb w hS; simp only [putW]) | (refine box1 hS rfl rfl rfl rfl ?_; clear hS; intro mb w hS; try simp only [evW, putW] at hS; simp only [putW]) | (refine boxN hS rfl rfl rfl ?_; clear hS; intro mb w hS; simp only [putW]))
          have hr := run_loadAll (P := Tryd.prog) hS mo 26 (by simpa using hdl.out)
          refine bodyPost_ret (v := .tuple #[u11, .agg (D.map u8v).toArray, .int .i64 0]) (by simp [results, Tryd.results37, asAddr, hr]) rfl ⟨u11, Nd, rfl, hNd.out, hS.conv⟩
end
end Go.Proofs.YtdkimdobcacpfaaDoor
