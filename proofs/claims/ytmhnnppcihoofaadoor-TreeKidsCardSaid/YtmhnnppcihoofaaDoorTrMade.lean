/-
  thimblelaw18.made.
-/
import Derived.Test.YtmhnnppcihoofaaDoorTrOf
import Derived.Test.YtmhnnppcihoofaaDoorSpPick
import Derived.Test.YtmhnnppcihoofaaDoorJRow
import Derived.Laws.BitsAllLaws
set_option linter.unusedSimpArgs false
set_option linter.unusedVariables false
namespace Go.Proofs.YtmhnnppcihoofaaDoor
open Go.RowKit Go.Proofs.YtmhnnppcihoofaaDoor.Sl Go.Proofs.YtmhnnppcihoofaaDoor.Jp Go.Proofs.YtmhnnppcihoofaaDoor.Tr

/-- How many pages. -/
def nP (x : Int) : Nat := 1 + (x % 300).toNat
theorem nP_le (x : Int) : 1 ≤ nP x ∧ nP x ≤ 300 ∧ 1 + x % 300 = (nP x : Int) := by
  have h3 := Int.emod_nonneg x (show (300 : Int) ≠ 0 by omega)
  have h4 := Int.emod_lt_of_pos x (show (0 : Int) < 300 by omega)
  unfold nP
  omega
section
variable {w0 w : World} {S : List Chunk} {va vb vf lv : Value} {X : List (Value × List Int)}
theorem refOf_i {P : Nat} {xi : Int} (hx : xi = (P : Int)) (h1 : 1 ≤ P) (h3 : P ≤ 300) : Calls Tryd.prog 17 #[.int .i64 xi, .int .i64 4] w0 fun e w' => ∃ lv, e = .returned (.tuple #[.agg (planC P lv).toArray, .int .i64 0]) ∧ Sat w0 [(blk lv, sl 1 i64 (lvs (cL P) (cN P)) 3 lv)] w' := by
  subst hx
  exact refOf_made P h1 h3
theorem xor_ok {x y : Int} (hx : okByte x) (hy : okByte y) : okByte (bits .xor .u8 x y) := by
  unfold okByte at hx hy
  obtain ⟨a, rfl⟩ : ∃ a : Nat, x = a := ⟨x.toNat, by omega⟩
  obtain ⟨b, rfl⟩ : ∃ b : Nat, y = b := ⟨y.toNat, by omega⟩
  rw [u8_xor_nat a b (by omega) (by omega)]
  have := Nat.xor_lt_two_pow (n := 8) (x := a) (y := b) (by omega) (by omega)
  unfold okByte
  omega
set_option maxRecDepth 100000 in
set_option maxHeartbeats 2000000 in
theorem made_any {F : List Int} (x : Int) (hF : RB w0 F vf) : Calls Tryd.prog 14 #[.int .i64 x, vf] w0 fun e w' => ∃ lv vb X, e = .returned (.tuple #[.agg (planC (nP x) lv).toArray, vb]) ∧ X.length = cC (nP x) ∧ (∀ r ∈ X, isRow r.2) ∧
    Sat w0 [(blk vb, sl 1 rowF X 22 vb), (0, inn X 5), (blk lv, sl 1 i64 (lvs (cL (nP x)) (cN (nP x))) 3 lv)] w' := by
  have hS := Sat.refl w0
  obtain ⟨hp1, hp3, hpe⟩ := nP_le x
  have hC := (c_le hp3).1
  obtain ⟨af, cf, rfl, hlf, hatf⟩ := hF.at
  have hFo := hF.all
  clear hF
  go_enter Tryd.func14, Tryd.ntmps14
  have tok : True := trivial
  go_wp2_with (first | (have _t := tok; refine alloc hS rfl rfl ?_; clear hS tok; intro m4 w hS; simp only [putW]) | (guard_target =~ Calls _ 18 _ _ _; refine Stopped.out ?_) | (refine load1 hS rfl rfl rfl rfl ?_; simp only [putW]) | (refine loadAll hS rfl rfl rfl ?_ ?_; rfl; simp only [putW]) | (refine loadPart hS rfl rfl rfl ?_ rfl ?_; rfl; simp only [putW]) | (refine store1 hS rfl rfl rfl rfl rfl ?_ ?_; (focus (simp; done)); clear hS; intro w hS; simp only [evW, putW] at hS; try simp only [putW]) | (refine storeAll hS rfl rfl rfl rfl ?_ ?_ ?_ ?_; rfl; (focus (simp [Value.oneCell']; done)); rfl; clear hS; intro w hS; try simp only [putW]) | (refine storeN hS rfl rfl rfl rfl ?_ ?_ ?_ ?_; rfl; (focus (simp [Value.oneCell']; done)); (focus (simp; done)); clear hS; intro w hS; simp at hS; try simp only [putW]) | (refine alloc hS rfl rfl ?_; clear hS; intro mb w hS; simp only [putW]) | (refine box1 hS rfl rfl rfl rfl ?_; clear hS; intro mb w hS; try simp only [evW, putW] at hS; simp only [putW]) | (refine boxN hS rfl rfl rfl ?_; clear hS; intro mb w hS; simp only [putW]))
  refine ⟨?_⟩
  (refine Calls.mono (pick_sat x 300 (by omega) (by omega) hS) ?_; clear hS; rintro _ w ⟨rfl, hS⟩; simp only [putW])
  go_wp2_with (first | (guard_target =~ Calls _ 17 _ _ _; refine Stopped.out ?_) | (refine load1 hS rfl rfl rfl rfl ?_; simp only [putW]) | (refine loadAll hS rfl rfl rfl ?_ ?_; rfl; simp only [putW]) | (refine loadPart hS rfl rfl rfl ?_ rfl ?_; rfl; simp only [putW]) | (refine store1 hS rfl rfl rfl rfl rfl ?_ ?_; (focus (simp; done)); clear hS; intro w hS; simp only [evW, putW] at hS; try simp only [putW]) | (refine storeAll hS rfl rfl rfl rfl ?_ ?_ ?_ ?_; rfl; (focus (simp [Value.oneCell']; done)); rfl; clear hS; intro w hS; try simp only [putW]) | (refine storeN hS rfl rfl rfl rfl ?_ ?_ ?_ ?_; rfl; (focus (simp [Value.oneCell']; done)); (focus (simp; done)); clear hS; intro w hS; simp at hS; try simp only [putW]) | (refine alloc hS rfl rfl ?_; clear hS; intro mb w hS; simp only [putW]) | (refine box1 hS rfl rfl rfl rfl ?_; clear hS; intro mb w hS; try simp only [evW, putW] at hS; simp only [putW]) | (refine boxN hS rfl rfl rfl ?_; clear hS; intro mb w hS; simp only [putW]))
  refine ⟨?_⟩
  (refine Calls.mono (refOf_i (P := nP x) rfl hp1 hp3) ?_; rintro _ w2 ⟨lv, rfl, h2⟩; replace hS := hS.frame h2; clear h2; (try simp only [List.cons_append, List.nil_append] at hS); simp only [putW])
  have HF : Bx (∀ y ∈ F, okByte y) := ⟨hFo⟩
  clear hpe hFo
  have hLVl : 0 < (lvs (cL (nP x)) (cN (nP x))).length := by unfold lvs; split <;> simp
  obtain ⟨LV, hLV⟩ : ∃ LV, lvs (cL (nP x)) (cN (nP x)) = LV := ⟨_, rfl⟩
  rw [hLV] at hS hLVl
  have HLV : Bx _ := ⟨hLV⟩
  clear hLV
  obtain ⟨gl, cl, rfl, hS2⟩ := hS.slForm LV.length rfl hLVl
  clear hLVl
  clear hS
  have hS := hS2
  clear hS2
  obtain ⟨PC, hPC⟩ : ∃ PC, planC (nP x) (.slice (some ⟨gl, 0, none⟩) LV.length cl) = PC := ⟨_, rfl⟩
  rw [hPC]
  obtain ⟨P, N, H, J, s, t, rfl⟩ : ∃ P N H J s t : Int, PC = plL P 4 (cC (nP x) : Nat) (.slice (some ⟨gl, 0, none⟩) LV.length cl) N H 1 J s t := ⟨_, _, _, _, _, _, hPC.symm⟩
  have HPC : Bx _ := ⟨hPC⟩
  clear hPC
  obtain ⟨C, hCe⟩ : ∃ C, cC (nP x) = C := ⟨_, rfl⟩
  rw [hCe] at hC HPC ⊢
  have HC : Bx _ := ⟨hCe⟩
  clear hCe
  go_wp2_with (first | (refine alloc hS rfl rfl ?_; clear hS; intro m6 w hS; simp only [putW]) | (refine load1 hS rfl rfl rfl rfl ?_; simp only [putW]) | (refine loadAll hS rfl rfl rfl ?_ ?_; rfl; simp only [putW]) | (refine loadPart hS rfl rfl rfl ?_ rfl ?_; rfl; simp only [putW]) | (refine store1 hS rfl rfl rfl rfl rfl ?_ ?_; (focus (simp; done)); clear hS; intro w hS; simp only [evW, putW] at hS; try simp only [putW]) | (refine storeAll hS rfl rfl rfl rfl ?_ ?_ ?_ ?_; rfl; (focus (simp [Value.oneCell']; done)); rfl; clear hS; intro w hS; try simp only [putW]) | (refine storeN hS rfl rfl rfl rfl ?_ ?_ ?_ ?_; rfl; (focus (simp [Value.oneCell']; done)); (focus (simp; done)); clear hS; intro w hS; simp at hS; try simp only [putW]) | (refine alloc hS rfl rfl ?_; clear hS; intro mb w hS; simp only [putW]) | (refine box1 hS rfl rfl rfl rfl ?_; clear hS; intro mb w hS; try simp only [evW, putW] at hS; simp only [putW]) | (refine boxN hS rfl rfl rfl ?_; clear hS; intro mb w hS; simp only [putW]))
  go_loopw [8, 9] (fun v i wr => ∃ (k : Nat) (X : List (Value × List Int)), k ≤ C ∧ i = .int .i64 k ∧ Bx (X.length = k) ∧ Bx (∀ r ∈ X, isRow r.2) ∧ Sat w0 ((blk v, sl 1 rowF X 22 v) :: (0, inn X 5) :: (m6, cells (plL P 4 C (.slice (some ⟨gl, 0, none⟩) LV.length cl) N H 1 J s t).toArray 38) :: (gl, sl 1 i64 LV 3 (.slice (some ⟨gl, 0, none⟩) LV.length cl)) :: (m4, cells #[.int .i64 0, .int .i64 0, .int .i64 0, .slice none 0 0, .int .i64 0, .int .i64 0, .int .i64 0, .int .i64 0, .int .i64 0, .int .i64 0] 38) :: []) wr) (fun _ i _ => C - (intOf i).toNat)
  case atStart => exact ⟨0, [], Nat.zero_le _, rfl, ⟨rfl⟩, ⟨fun r hr => by cases hr⟩, (hS.innNil 0 5).slNil 1 rowF 22⟩
  case round =>
    clear hS
    obtain ⟨k, X, hk, rfl, hXl, hXr, hS⟩ := hrel
    have hXl2 := hXl.out
    by_cases hlt : k < C
    · go_wp2_with (first | (guard_target =~ wpList _ _ _ (Oper.mk (some 25) _ _ _ _ _ :: _) _ _; refine Stopped.out ?_) | (refine load1 hS rfl rfl rfl rfl ?_; simp only [putW]) | (refine loadAll hS rfl rfl rfl ?_ ?_; rfl; simp only [putW]) | (refine loadPart hS rfl rfl rfl ?_ rfl ?_; rfl; simp only [putW]) | (refine store1 hS rfl rfl rfl rfl rfl ?_ ?_; (focus (simp; done)); clear hS; intro w hS; simp only [evW, putW] at hS; try simp only [putW]) | (refine storeAll hS rfl rfl rfl rfl ?_ ?_ ?_ ?_; rfl; (focus (simp [Value.oneCell']; done)); rfl; clear hS; intro w hS; try simp only [putW]) | (refine storeN hS rfl rfl rfl rfl ?_ ?_ ?_ ?_; rfl; (focus (simp [Value.oneCell']; done)); (focus (simp; done)); clear hS; intro w hS; simp at hS; try simp only [putW]) | (refine alloc hS rfl rfl ?_; clear hS; intro mb w hS; simp only [putW]) | (refine box1 hS rfl rfl rfl rfl ?_; clear hS; intro mb w hS; try simp only [evW, putW] at hS; simp only [putW]) | (refine boxN hS rfl rfl rfl ?_; clear hS; intro mb w hS; simp only [putW]))
      refine ⟨?_⟩
      refine makeN hS rfl rfl 256 rfl rfl by8 (0 : Int) rfl ?_ ?_ ?_
      · omega
      · simp [maxLen]
      clear hS
      intro m1 w hS
      simp only [putW]
      go_wp2_with (first | (refine load1 hS rfl rfl rfl rfl ?_; simp only [putW]) | (refine loadAll hS rfl rfl rfl ?_ ?_; rfl; simp only [putW]) | (refine loadPart hS rfl rfl rfl ?_ rfl ?_; rfl; simp only [putW]) | (refine store1 hS rfl rfl rfl rfl rfl ?_ ?_; (focus (simp; done)); clear hS; intro w hS; simp only [evW, putW] at hS; try simp only [putW]) | (refine storeAll hS rfl rfl rfl rfl ?_ ?_ ?_ ?_; rfl; (focus (simp [Value.oneCell']; done)); rfl; clear hS; intro w hS; try simp only [putW]) | (refine storeN hS rfl rfl rfl rfl ?_ ?_ ?_ ?_; rfl; (focus (simp [Value.oneCell']; done)); (focus (simp; done)); clear hS; intro w hS; simp at hS; try simp only [putW]) | (refine alloc hS rfl rfl ?_; clear hS; intro mb w hS; simp only [putW]) | (refine box1 hS rfl rfl rfl rfl ?_; clear hS; intro mb w hS; try simp only [evW, putW] at hS; simp only [putW]) | (refine boxN hS rfl rfl rfl ?_; clear hS; intro mb w hS; simp only [putW]))
      go_loopw [11] (fun i wr => ∃ (q : Nat) (B : List Int), q ≤ F.length ∧ q ≤ 256 ∧ i = .int .i64 q ∧ Bx (isRow B) ∧ Sat w0 ((m1, slc 1 by8 B 256 5) :: (blk u8, sl 1 rowF X 22 u8) :: (0, inn X 5) :: (m6, cells (plL P 4 C (.slice (some ⟨gl, 0, none⟩) LV.length cl) N H 1 J s t).toArray 38) :: (gl, sl 1 i64 LV 3 (.slice (some ⟨gl, 0, none⟩) LV.length cl)) :: (m4, cells #[.int .i64 0, .int .i64 0, .int .i64 0, .slice none 0 0, .int .i64 0, .int .i64 0, .int .i64 0, .int .i64 0, .int .i64 0, .int .i64 0] 38) :: []) wr) (fun i _ => 256 - (intOf i).toNat)
      case atStart => exact ⟨0, List.replicate 256 0, Nat.zero_le _, by omega, rfl, ⟨isRow_z⟩, hS.conv⟩
      case round =>
        clear hS
        obtain ⟨q, B, hq, hq2, rfl, hB, hS⟩ := hrel
        have hBl := hB.out.1
        by_cases hlq : q < F.length ∧ q < 256
        · obtain ⟨hl1, hl2⟩ := hlq
          obtain ⟨y, hy⟩ : ∃ y, F[q]? = some y := ⟨_, List.getElem?_eq_getElem hl1⟩
          obtain ⟨bf, of, rfl, hBf⟩ := hatf (by intro e; subst e; simp at hy)
          obtain ⟨z, hz⟩ : ∃ z, B[q]? = some z := ⟨_, List.getElem?_eq_getElem (by omega)⟩
          have hyo := HF.out y (List.mem_of_getElem? hy)
          have hko : okByte (k : Int) := by unfold okByte; omega
          have hxo := xor_ok hyo hko
          obtain ⟨xr, hxr⟩ : ∃ xr, bits .xor .u8 y k = xr := ⟨_, rfl⟩
          rw [hxr] at hxo
          have hB2 : Bx (isRow (B.set q xr)) := ⟨by rw [List.length_set]; exact hBl, fun u hu => by
            rcases List.mem_or_eq_of_mem_set hu with h | rfl
            · exact hB.out.2 u h
            · exact hxo⟩
          clear hyo hxo
          go_wp2_with (first | (refine loadB (f := by8) hS rfl rfl rfl hBf q 0 ?_ hy rfl ?_; omega; simp only [putW]) | (refine storeS1 (v1 := Value.int .u8) hS rfl rfl rfl xr rfl rfl ?_ ?_; (focus (first | omega | (simp [maxLen]; done) | (simp [maxLen]; omega))); clear hS; intro w hS; try simp only [putW]) | (refine load1 hS rfl rfl rfl rfl ?_; simp only [putW]) | (refine loadAll hS rfl rfl rfl ?_ ?_; rfl; simp only [putW]) | (refine loadPart hS rfl rfl rfl ?_ rfl ?_; rfl; simp only [putW]) | (refine store1 hS rfl rfl rfl rfl rfl ?_ ?_; (focus (simp; done)); clear hS; intro w hS; simp only [evW, putW] at hS; try simp only [putW]) | (refine storeAll hS rfl rfl rfl rfl ?_ ?_ ?_ ?_; rfl; (focus (simp [Value.oneCell']; done)); rfl; clear hS; intro w hS; try simp only [putW]) | (refine storeN hS rfl rfl rfl rfl ?_ ?_ ?_ ?_; rfl; (focus (simp [Value.oneCell']; done)); (focus (simp; done)); clear hS; intro w hS; simp at hS; try simp only [putW]) | (refine alloc hS rfl rfl ?_; clear hS; intro mb w hS; simp only [putW]) | (refine box1 hS rfl rfl rfl rfl ?_; clear hS; intro mb w hS; try simp only [evW, putW] at hS; simp only [putW]) | (refine boxN hS rfl rfl rfl ?_; clear hS; intro mb w hS; simp only [putW]))
          go_roundw
          case rel => exact ⟨q + 1, B.set q xr, by omega, by omega, by go_num, hB2, hS.conv⟩
          case measure => simp [intOf]; omega
        · go_wp2_with (first | (refine buildSlice1 (c := #[.slice (some ⟨m1, 0, none⟩) 256 256]) hS rfl rfl rfl ?_ ?_ ?_ ?_; rfl; rfl; rfl; clear hS; intro mb w hS; simp only [putW]) | (guard_target =~ wpList _ _ _ (Oper.mk (some 49) _ _ _ _ _ :: _) _ _; refine Stopped.out ?_) | (refine load1 hS rfl rfl rfl rfl ?_; simp only [putW]) | (refine loadAll hS rfl rfl rfl ?_ ?_; rfl; simp only [putW]) | (refine loadPart hS rfl rfl rfl ?_ rfl ?_; rfl; simp only [putW]) | (refine store1 hS rfl rfl rfl rfl rfl ?_ ?_; (focus (simp; done)); clear hS; intro w hS; simp only [evW, putW] at hS; try simp only [putW]) | (refine storeAll hS rfl rfl rfl rfl ?_ ?_ ?_ ?_; rfl; (focus (simp [Value.oneCell']; done)); rfl; clear hS; intro w hS; try simp only [putW]) | (refine storeN hS rfl rfl rfl rfl ?_ ?_ ?_ ?_; rfl; (focus (simp [Value.oneCell']; done)); (focus (simp; done)); clear hS; intro w hS; simp at hS; try simp only [putW]) | (refine alloc hS rfl rfl ?_; clear hS; intro mb w hS; simp only [putW]) | (refine box1 hS rfl rfl rfl rfl ?_; clear hS; intro mb w hS; try simp only [evW, putW] at hS; simp only [putW]) | (refine boxN hS rfl rfl rfl ?_; clear hS; intro mb w hS; simp only [putW]))
          all_goals (
            refine ⟨?_⟩
            refine append1 (f := rowF) (n := 1) hS rfl rfl u8 rfl rfl ((.slice (some ⟨m1, 0, none⟩) 256 256, B) : Value × List Int) rfl ?_ rfl ?_ ?_ ?_
            · intro u hu; rw [List.mem_singleton.1 hu]; rfl
            · simp [maxLen]; omega
            · omega
            clear hS
            intro v' w hS
            simp only [putW]
            go_wp2_with (first | (refine load1 hS rfl rfl rfl rfl ?_; simp only [putW]) | (refine loadAll hS rfl rfl rfl ?_ ?_; rfl; simp only [putW]) | (refine loadPart hS rfl rfl rfl ?_ rfl ?_; rfl; simp only [putW]) | (refine store1 hS rfl rfl rfl rfl rfl ?_ ?_; (focus (simp; done)); clear hS; intro w hS; simp only [evW, putW] at hS; try simp only [putW]) | (refine storeAll hS rfl rfl rfl rfl ?_ ?_ ?_ ?_; rfl; (focus (simp [Value.oneCell']; done)); rfl; clear hS; intro w hS; try simp only [putW]) | (refine storeN hS rfl rfl rfl rfl ?_ ?_ ?_ ?_; rfl; (focus (simp [Value.oneCell']; done)); (focus (simp; done)); clear hS; intro w hS; simp at hS; try simp only [putW]) | (refine alloc hS rfl rfl ?_; clear hS; intro mb w hS; simp only [putW]) | (refine box1 hS rfl rfl rfl rfl ?_; clear hS; intro mb w hS; try simp only [evW, putW] at hS; simp only [putW]) | (refine boxN hS rfl rfl rfl ?_; clear hS; intro mb w hS; simp only [putW]))
            go_roundw
            case rel =>
              refine ⟨k + 1, X ++ [((.slice (some ⟨m1, 0, none⟩) 256 256, B) : Value × List Int)], by omega, by go_num, ⟨by rw [List.length_append, hXl.out]; rfl⟩, ⟨fun r hr => ?_⟩, ?_⟩
              · rcases List.mem_append.1 hr with h | h
                · exact hXr.out r h
                · rw [List.mem_singleton.1 h]; exact hB.out
              · have h1 := (hS.pull m1).slOfSlc
                rw [hBl] at h1
                exact (h1.innAdd (j := 0) (X := X) (t := 5) (.slice (some ⟨m1, 0, none⟩) 256 256) rfl).conv
            case measure => simp [intOf]; omega)
    · have hkC : k = C := by omega
      subst hkC
      go_wp2_with (first | (refine load1 hS rfl rfl rfl rfl ?_; simp only [putW]) | (refine loadAll hS rfl rfl rfl ?_ ?_; rfl; simp only [putW]) | (refine loadPart hS rfl rfl rfl ?_ rfl ?_; rfl; simp only [putW]) | (refine store1 hS rfl rfl rfl rfl rfl ?_ ?_; (focus (simp; done)); clear hS; intro w hS; simp only [evW, putW] at hS; try simp only [putW]) | (refine storeAll hS rfl rfl rfl rfl ?_ ?_ ?_ ?_; rfl; (focus (simp [Value.oneCell']; done)); rfl; clear hS; intro w hS; try simp only [putW]) | (refine storeN hS rfl rfl rfl rfl ?_ ?_ ?_ ?_; rfl; (focus (simp [Value.oneCell']; done)); (focus (simp; done)); clear hS; intro w hS; simp at hS; try simp only [putW]) | (refine alloc hS rfl rfl ?_; clear hS; intro mb w hS; simp only [putW]) | (refine box1 hS rfl rfl rfl rfl ?_; clear hS; intro mb w hS; try simp only [evW, putW] at hS; simp only [putW]) | (refine boxN hS rfl rfl rfl ?_; clear hS; intro mb w hS; simp only [putW]))
      have hr := run_loadAll (P := Tryd.prog) hS m4 38 rfl
      refine bodyPost_ret (v := .tuple #[.agg (plL P 4 k (.slice (some ⟨gl, 0, none⟩) LV.length cl) N H 1 J s t).toArray, u8]) (by simp [results, Tryd.results14, asAddr, hr]) rfl ⟨.slice (some ⟨gl, 0, none⟩) LV.length cl, u8, X, by rw [HPC.out], hXl.out.trans HC.out.symm, hXr.out, ?_⟩
      rw [HLV.out]
      exact hS.conv
end
end Go.Proofs.YtmhnnppcihoofaaDoor
