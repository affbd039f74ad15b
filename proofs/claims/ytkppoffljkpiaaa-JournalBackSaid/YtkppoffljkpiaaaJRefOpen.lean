/-
  thimbleref19.Open.
-/
import Derived.Test.YtkppoffljkpiaaaJOpenP
import Derived.Test.YtkppoffljkpiaaaJ02
import Derived.Test.YtkppoffljkpiaaaJRefHeadN
namespace Go.Proofs.Ytkppoffljkpiaaa
open Go.RowKit Go.Proofs.Ytkppoffljkpiaaa.Sl Go.Proofs.Ytkppoffljkpiaaa.Jp

section
variable {w0 : World} {X : List (Value × List Int)} {vh : Value}
set_option maxHeartbeats 400000 in
theorem refOpen_bad (b : Int) (hb : ¬ okB b) (_hX : RR w0 X vh) : Calls Try.prog 8 #[vh, .int .i64 b] w0 fun e w' => e = .returned (.tuple #[.int .u64 0, .slice none 0 0, .int .i64 1]) ∧ Sat w0 [] w' := by
  have hS := Sat.refl w0
  go_enter Try.func8, Try.ntmps8
  go_wp2_with (first | (go_at_call 18; refine Calls.mono (refOf_bad b hb) ?_; rintro _ w2 ⟨rfl, h2⟩; replace hS := hS.frame h2; clear h2; (try simp only [List.nil_append] at hS); simp only []) | (refine load1 hS rfl rfl rfl rfl ?_; simp only [putW]) | (refine loadAll hS rfl rfl rfl ?_ ?_; rfl; simp only [putW]) | (refine loadPart hS rfl rfl rfl ?_ rfl ?_; rfl; simp only [putW]) | (refine store1 hS rfl rfl rfl rfl rfl ?_ ?_; (focus (simp; done)); clear hS; intro w hS; simp only [evW, putW] at hS; try simp only [putW]) | (refine storeAll hS rfl rfl rfl rfl ?_ ?_ ?_ ?_; rfl; (focus (simp [Value.oneCell']; done)); rfl; clear hS; intro w hS; try simp only [putW]) | (refine storeN hS rfl rfl rfl rfl ?_ ?_ ?_ ?_; rfl; (focus (simp [Value.oneCell']; done)); (focus (simp; done)); clear hS; intro w hS; simp at hS; try simp only [putW]) | (refine alloc hS rfl rfl ?_; clear hS; intro mb w hS; simp only [putW]) | (refine box1 hS rfl rfl rfl rfl ?_; clear hS; intro mb w hS; try simp only [evW, putW] at hS; simp only [putW]) | (refine boxN hS rfl rfl rfl ?_; clear hS; intro mb w hS; simp only [putW]))
  exact bodyPost_ret (v := .tuple #[.int .u64 0, .slice none 0 0, .int .i64 1]) (by simp [results, Try.results8]) rfl ⟨rfl, hS.conv⟩

set_option maxRecDepth 100000 in
set_option maxHeartbeats 4000000 in
theorem refOpen_good (b : Int) (hb : okB b) (hX : RR w0 X vh) (hl : (cat X).length ≤ 100000) : Calls Try.prog 8 #[vh, .int .i64 b] w0 fun e w' => ∃ vl,
    e = .returned (.tuple #[.int .u64 (openR (X.map (·.2)) b).1, vl, .int .i64 (openR (X.map (·.2)) b).2.2]) ∧ Sat w0 [(blk vl, sl 1 i64 (openR (X.map (·.2)) b).2.1 3 vl)] w' := by
  have hS := Sat.refl w0
  have hXx := hX
  obtain ⟨n, rfl⟩ : ∃ n : Nat, b = n := ⟨b.toNat, by have := hb.1; omega⟩
  have h1 : 1 ≤ n := by have := hb.1; omega
  have hn2 : n ≤ 256 := by have := hb.2; omega
  have Hb : Hid (okB n) := hb
  have hh1 : 1 ≤ heads n ∧ heads n ≤ 5 := ⟨by unfold heads; rw [Int.toNat_natCast]; omega, heads_le n hn2⟩
  have hh2 : 12 + 4 * n ≤ 256 * heads n := by unfold heads; rw [Int.toNat_natCast]; omega
  clear hb
  obtain ⟨ph, ch, rfl, hlh, hath⟩ := hX.at
  clear hX
  have hCat : cat X = (X.map (·.2)).flatten := rfl
  have hform : ¬ openOk (X.map (·.2)) n → ∀ w, Sat w0 [] w → ∃ vl, Ending.returned (.tuple #[.int .u64 0, .slice none 0 0, .int .i64 3]) = .returned (.tuple #[.int .u64 (openR (X.map (·.2)) n).1, vl, .int .i64 (openR (X.map (·.2)) n).2.2]) ∧ Sat w0 [(blk vl, sl 1 i64 (openR (X.map (·.2)) n).2.1 3 vl)] w := by
    intro hno w hw
    rw [openR_form Hb.out hno]
    exact ⟨.slice none 0 0, rfl, hw.slNil 1 i64 3⟩
  by_cases hlx : X.length = heads n
  rotate_left
  · have hno : ¬ openOk (X.map (·.2)) n := fun h => hlx (by have := (open_ref h).1; rwa [List.length_map] at this)
    go_enter Try.func8, Try.ntmps8
    go_wp2_with (first | (go_at_call 18; refine Calls.mono (refOf_good n h1 hn2) ?_; rintro _ w2 ⟨g, cap, rfl, h2⟩; replace hS := hS.frame h2; clear h2; (try simp only [List.nil_append] at hS); simp only []) | (refine load1 hS rfl rfl rfl rfl ?_; simp only [putW]) | (refine loadAll hS rfl rfl rfl ?_ ?_; rfl; simp only [putW]) | (refine loadPart hS rfl rfl rfl ?_ rfl ?_; rfl; simp only [putW]) | (refine store1 hS rfl rfl rfl rfl rfl ?_ ?_; (focus (simp; done)); clear hS; intro w hS; simp only [evW, putW] at hS; try simp only [putW]) | (refine storeAll hS rfl rfl rfl rfl ?_ ?_ ?_ ?_; rfl; (focus (simp [Value.oneCell']; done)); rfl; clear hS; intro w hS; try simp only [putW]) | (refine storeN hS rfl rfl rfl rfl ?_ ?_ ?_ ?_; rfl; (focus (simp [Value.oneCell']; done)); (focus (simp; done)); clear hS; intro w hS; simp at hS; try simp only [putW]) | (refine alloc hS rfl rfl ?_; clear hS; intro mb w hS; simp only [putW]) | (refine box1 hS rfl rfl rfl rfl ?_; clear hS; intro mb w hS; try simp only [evW, putW] at hS; simp only [putW]) | (refine boxN hS rfl rfl rfl ?_; clear hS; intro mb w hS; simp only [putW]))
    exact bodyPost_ret (v := .tuple #[.int .u64 0, .slice none 0 0, .int .i64 3]) (by simp [results, Try.results8]) rfl (hform hno _ hS.nothing)
  have Hlx : Hid (X.length = heads n) := hlx
  rw [hlx] at hXx ⊢
  clear hlx
  go_enter Try.func8, Try.ntmps8
  go_wp2_with (first | (go_at_call 18; refine Calls.mono (refOf_good n h1 hn2) ?_; rintro _ w2 ⟨g, cap, rfl, h2⟩; replace hS := hS.frame h2; clear h2; (try simp only [List.nil_append] at hS); simp only []) | (refine load1 hS rfl rfl rfl rfl ?_; simp only [putW]) | (refine loadAll hS rfl rfl rfl ?_ ?_; rfl; simp only [putW]) | (refine loadPart hS rfl rfl rfl ?_ rfl ?_; rfl; simp only [putW]) | (refine store1 hS rfl rfl rfl rfl rfl ?_ ?_; (focus (simp; done)); clear hS; intro w hS; simp only [evW, putW] at hS; try simp only [putW]) | (refine storeAll hS rfl rfl rfl rfl ?_ ?_ ?_ ?_; rfl; (focus (simp [Value.oneCell']; done)); rfl; clear hS; intro w hS; try simp only [putW]) | (refine storeN hS rfl rfl rfl rfl ?_ ?_ ?_ ?_; rfl; (focus (simp [Value.oneCell']; done)); (focus (simp; done)); clear hS; intro w hS; simp at hS; try simp only [putW]) | (refine alloc hS rfl rfl ?_; clear hS; intro mb w hS; simp only [putW]) | (refine box1 hS rfl rfl rfl rfl ?_; clear hS; intro mb w hS; try simp only [evW, putW] at hS; simp only [putW]) | (refine boxN hS rfl rfl rfl ?_; clear hS; intro mb w hS; simp only [putW]))
  go_loopw [9] (fun i wr => ∃ j : Nat, j ≤ heads n ∧ i = .int .i64 (j : Int) ∧ Hid (∀ x ∈ X.take j, x.2.length = 256) ∧ Sat w0 [] wr) (fun i _ => heads n - (intOf i).toNat)
  case atStart => exact ⟨0, Nat.zero_le _, rfl, (by intro x hx; simp at hx), hS.nothing⟩
  case round =>
    clear hS
    obtain ⟨j, hj, rfl, hall, hS⟩ := hrel
    by_cases hjl : j < heads n
    · obtain ⟨⟨zv, zl⟩, hz⟩ : ∃ z, X[j]? = some z := ⟨_, List.getElem?_eq_getElem (by rw [Hlx.out]; exact hjl)⟩
      obtain ⟨bh, oh, rfl, hBh⟩ := hath (by intro e; subst e; simp at hz)
      have hrz : RB w0 zl zv := (hBh.2 j _ hz).1
      obtain ⟨pz, cz, rfl, _, _⟩ := hrz.at
      by_cases h256 : zl.length = 256
      · have H256 : Hid _ := h256
        go_wp2_with (first | (refine loadB (f := rowF) hS rfl rfl rfl hBh j 0 ?_ hz rfl ?_; omega; simp only [putW]) | (refine load1 hS rfl rfl rfl rfl ?_; simp only [putW]) | (refine loadAll hS rfl rfl rfl ?_ ?_; rfl; simp only [putW]) | (refine loadPart hS rfl rfl rfl ?_ rfl ?_; rfl; simp only [putW]) | (refine store1 hS rfl rfl rfl rfl rfl ?_ ?_; (focus (simp; done)); clear hS; intro w hS; simp only [evW, putW] at hS; try simp only [putW]) | (refine storeAll hS rfl rfl rfl rfl ?_ ?_ ?_ ?_; rfl; (focus (simp [Value.oneCell']; done)); rfl; clear hS; intro w hS; try simp only [putW]) | (refine storeN hS rfl rfl rfl rfl ?_ ?_ ?_ ?_; rfl; (focus (simp [Value.oneCell']; done)); (focus (simp; done)); clear hS; intro w hS; simp at hS; try simp only [putW]) | (refine alloc hS rfl rfl ?_; clear hS; intro mb w hS; simp only [putW]) | (refine box1 hS rfl rfl rfl rfl ?_; clear hS; intro mb w hS; try simp only [evW, putW] at hS; simp only [putW]) | (refine boxN hS rfl rfl rfl ?_; clear hS; intro mb w hS; simp only [putW]))
        go_roundw
        case rel => exact ⟨j + 1, by omega, by go_num, (by rw [take_get hz]; intro y hy; rcases List.mem_append.1 hy with h | h; exact hall.out y h; rw [List.mem_singleton.1 h]; exact H256.out), hS⟩
        case measure => simp [intOf]; omega
      · have hno : ¬ openOk (X.map (·.2)) n := fun h => h256 ((open_ref h).2.1 zl (List.mem_map.2 ⟨_, List.mem_of_getElem? hz, rfl⟩))
        go_wp2_with (first | (refine loadB (f := rowF) hS rfl rfl rfl hBh j 0 ?_ hz rfl ?_; omega; simp only [putW]) | (refine load1 hS rfl rfl rfl rfl ?_; simp only [putW]) | (refine loadAll hS rfl rfl rfl ?_ ?_; rfl; simp only [putW]) | (refine loadPart hS rfl rfl rfl ?_ rfl ?_; rfl; simp only [putW]) | (refine store1 hS rfl rfl rfl rfl rfl ?_ ?_; (focus (simp; done)); clear hS; intro w hS; simp only [evW, putW] at hS; try simp only [putW]) | (refine storeAll hS rfl rfl rfl rfl ?_ ?_ ?_ ?_; rfl; (focus (simp [Value.oneCell']; done)); rfl; clear hS; intro w hS; try simp only [putW]) | (refine storeN hS rfl rfl rfl rfl ?_ ?_ ?_ ?_; rfl; (focus (simp [Value.oneCell']; done)); (focus (simp; done)); clear hS; intro w hS; simp at hS; try simp only [putW]) | (refine alloc hS rfl rfl ?_; clear hS; intro mb w hS; simp only [putW]) | (refine box1 hS rfl rfl rfl rfl ?_; clear hS; intro mb w hS; try simp only [evW, putW] at hS; simp only [putW]) | (refine boxN hS rfl rfl rfl ?_; clear hS; intro mb w hS; simp only [putW]))
        exact bodyPost_ret (v := .tuple #[.int .u64 0, .slice none 0 0, .int .i64 3]) (by simp [results, Try.results8]) rfl (hform hno _ hS.nothing)
    · have hall2 : ∀ l ∈ X.map (·.2), l.length = 256 := by
        intro l hl
        obtain ⟨x, hx, rfl⟩ := List.mem_map.1 hl
        exact hall.out x (by rw [List.take_of_length_le (by rw [Hlx.out]; omega)]; exact hx)
      have hBl : (cat X).length = 256 * heads n := by rw [hCat, flatten_256 _ hall2, List.length_map, Hlx.out]
      have HBl : Hid _ := hBl
      have Hall2 : Hid _ := hall2
      have hjl2 : (cat X).length ≤ 100000000000 := by omega
      clear hBl hall2
      have hByt : ∀ x ∈ cat X, okByte x := by
        by_cases h0 : X = []
        · subst h0; intro x hx; simp [cat] at hx
        · obtain ⟨bh, oh, _, hBh⟩ := hath h0
          intro y hy
          unfold cat at hy
          rw [List.mem_flatten] at hy
          obtain ⟨l, hl, hy⟩ := hy
          obtain ⟨x, hx, rfl⟩ := List.mem_map.1 hl
          obtain ⟨i, hi, rfl⟩ := List.mem_iff_getElem.1 hx
          exact (hBh.2 i _ (List.getElem?_eq_getElem hi)).1.all y hy
      generalize hBt : cat X = Bt at *
      go_wp2_with (first | (guard_target =~ Calls _ 19 _ _ _; refine Stopped.out ?_) | (refine load1 hS rfl rfl rfl rfl ?_; simp only [putW]) | (refine loadAll hS rfl rfl rfl ?_ ?_; rfl; simp only [putW]) | (refine loadPart hS rfl rfl rfl ?_ rfl ?_; rfl; simp only [putW]) | (refine store1 hS rfl rfl rfl rfl rfl ?_ ?_; (focus (simp; done)); clear hS; intro w hS; simp only [evW, putW] at hS; try simp only [putW]) | (refine storeAll hS rfl rfl rfl rfl ?_ ?_ ?_ ?_; rfl; (focus (simp [Value.oneCell']; done)); rfl; clear hS; intro w hS; try simp only [putW]) | (refine storeN hS rfl rfl rfl rfl ?_ ?_ ?_ ?_; rfl; (focus (simp [Value.oneCell']; done)); (focus (simp; done)); clear hS; intro w hS; simp at hS; try simp only [putW]) | (refine alloc hS rfl rfl ?_; clear hS; intro mb w hS; simp only [putW]) | (refine box1 hS rfl rfl rfl rfl ?_; clear hS; intro mb w hS; try simp only [evW, putW] at hS; simp only [putW]) | (refine boxN hS rfl rfl rfl ?_; clear hS; intro mb w hS; simp only [putW]))
      refine ⟨?_⟩
      have hjl3 : (cat X).length ≤ 100000000000 := by rw [hBt]; exact hjl2
      (refine Calls.mono (refJoin_any (hXx.mono hS.base) hjl3) ?_; rintro _ w2 ⟨vj, rfl, h2⟩; replace hS := hS.frame h2; clear h2; (try simp only [List.cons_append, List.nil_append] at hS); simp only [])
      rw [hBt] at hS
      obtain ⟨ga, ca, rfl, hS2⟩ := hS.slFormC (256 * heads n) HBl.out (by omega)
      clear hS
      have hS := hS2
      clear hS2
      have hfc := hS.slcFacts (g := ga) (n := 1) (f := by8) (l := Bt) (cap := ca) (t := 5)
      have hca : 256 * heads n ≤ ca := by have := hfc.1; rw [HBl.out] at this; exact this
      have hcm : Hid (ca ≤ maxLen) := hfc.2.1
      clear hfc
      have hlen4 : ∀ i m, ((Bt.drop i).take m).length ≤ m := fun i m => by rw [List.length_take]; omega
      go_wp2_with (first | (guard_target =~ Calls _ 20 _ _ _; refine Stopped.out ?_) | (refine load1 hS rfl rfl rfl rfl ?_; simp only [putW]) | (refine loadAll hS rfl rfl rfl ?_ ?_; rfl; simp only [putW]) | (refine loadPart hS rfl rfl rfl ?_ rfl ?_; rfl; simp only [putW]) | (refine store1 hS rfl rfl rfl rfl rfl ?_ ?_; (focus (simp; done)); clear hS; intro w hS; simp only [evW, putW] at hS; try simp only [putW]) | (refine storeAll hS rfl rfl rfl rfl ?_ ?_ ?_ ?_; rfl; (focus (simp [Value.oneCell']; done)); rfl; clear hS; intro w hS; try simp only [putW]) | (refine storeN hS rfl rfl rfl rfl ?_ ?_ ?_ ?_; rfl; (focus (simp [Value.oneCell']; done)); (focus (simp; done)); clear hS; intro w hS; simp at hS; try simp only [putW]) | (refine alloc hS rfl rfl ?_; clear hS; intro mb w hS; simp only [putW]) | (refine box1 hS rfl rfl rfl rfl ?_; clear hS; intro mb w hS; try simp only [evW, putW] at hS; simp only [putW]) | (refine boxN hS rfl rfl rfl ?_; clear hS; intro mb w hS; simp only [putW]))
      refine ⟨?_⟩
      have hrd8 := hS.readsPart (g := ga) (A := Bt) (cap := ca) (t := 5) (i := 0) (m := 8) (cap' := ca) (ap := ⟨ga, 0, none⟩) hByt (by rw [HBl.out]; omega) rfl (by omega) hcm.out
      (refine Calls.mono (num_any hrd8 (hlen4 0 8)) ?_; rintro _ w2 ⟨rfl, h2⟩; replace hS := hS.frame h2; clear h2; (try simp only [List.nil_append] at hS); simp only [])
      go_wp2_with (first | (guard_target =~ Calls _ 20 _ _ _; refine Stopped.out ?_) | (refine load1 hS rfl rfl rfl rfl ?_; simp only [putW]) | (refine loadAll hS rfl rfl rfl ?_ ?_; rfl; simp only [putW]) | (refine loadPart hS rfl rfl rfl ?_ rfl ?_; rfl; simp only [putW]) | (refine store1 hS rfl rfl rfl rfl rfl ?_ ?_; (focus (simp; done)); clear hS; intro w hS; simp only [evW, putW] at hS; try simp only [putW]) | (refine storeAll hS rfl rfl rfl rfl ?_ ?_ ?_ ?_; rfl; (focus (simp [Value.oneCell']; done)); rfl; clear hS; intro w hS; try simp only [putW]) | (refine storeN hS rfl rfl rfl rfl ?_ ?_ ?_ ?_; rfl; (focus (simp [Value.oneCell']; done)); (focus (simp; done)); clear hS; intro w hS; simp at hS; try simp only [putW]) | (refine alloc hS rfl rfl ?_; clear hS; intro mb w hS; simp only [putW]) | (refine box1 hS rfl rfl rfl rfl ?_; clear hS; intro mb w hS; try simp only [evW, putW] at hS; simp only [putW]) | (refine boxN hS rfl rfl rfl ?_; clear hS; intro mb w hS; simp only [putW]))
      refine ⟨?_⟩
      have hrd4 := hS.readsPart (g := ga) (A := Bt) (cap := ca) (t := 5) (i := 8) (m := 4) (cap' := ca - 8) (ap := ⟨ga, 8, none⟩) hByt (by rw [HBl.out]; omega) rfl (by omega) (Nat.le_trans (Nat.sub_le _ _) hcm.out)
      (refine Calls.mono (num_any hrd4 (Nat.le_trans (hlen4 8 4) (by omega))) ?_; rintro _ w2 ⟨rfl, h2⟩; replace hS := hS.frame h2; clear h2; (try simp only [List.nil_append] at hS); simp only [])
      clear hrd8 hrd4
      have hvb := num_lt (l := (Bt.drop 0).take 8) fun b hb => hByt b (List.mem_of_mem_drop (List.mem_of_mem_take hb))
      have hcb := num_lt (l := (Bt.drop 8).take 4) fun b hb => hByt b (List.mem_of_mem_drop (List.mem_of_mem_take hb))
      rw [show ((Bt.drop 0).take 8).length = 8 by rw [List.length_take, List.length_drop, HBl.out]; omega] at hvb
      rw [show ((Bt.drop 8).take 4).length = 4 by rw [List.length_take, List.length_drop, HBl.out]; omega] at hcb
      have hver : Hid (num ((Bt.drop 0).take 8) = ver Bt) := by show _ = _; unfold ver; rw [List.drop_zero]
      have hcnt : Hid (num ((Bt.drop 8).take 4) = cnt Bt) := rfl
      generalize num ((Bt.drop 0).take 8) = va at hvb hver ⊢
      generalize num ((Bt.drop 8).take 4) = vc at hcb hcnt ⊢
      obtain ⟨vn, rfl⟩ : ∃ vn : Nat, va = vn := ⟨va.toNat, by have := hvb.1; omega⟩
      obtain ⟨cN, rfl⟩ : ∃ cN : Nat, vc = cN := ⟨vc.toNat, by have := hcb.1; omega⟩
      have hv64 : vn < 18446744073709551616 := by have := hvb.2; omega
      have hc32 : cN < 4294967296 := by have := hcb.2; omega
      clear hvb hcb
      by_cases hcn : cN ≤ n
      rotate_left
      · have hno : ¬ openOk (X.map (·.2)) n := fun h => hcn (by have h5 := (open_ref h).2.2; rw [← hCat, ← hcnt.out] at h5; omega)
        go_wp2_with (first | (refine load1 hS rfl rfl rfl rfl ?_; simp only [putW]) | (refine loadAll hS rfl rfl rfl ?_ ?_; rfl; simp only [putW]) | (refine loadPart hS rfl rfl rfl ?_ rfl ?_; rfl; simp only [putW]) | (refine store1 hS rfl rfl rfl rfl rfl ?_ ?_; (focus (simp; done)); clear hS; intro w hS; simp only [evW, putW] at hS; try simp only [putW]) | (refine storeAll hS rfl rfl rfl rfl ?_ ?_ ?_ ?_; rfl; (focus (simp [Value.oneCell']; done)); rfl; clear hS; intro w hS; try simp only [putW]) | (refine storeN hS rfl rfl rfl rfl ?_ ?_ ?_ ?_; rfl; (focus (simp [Value.oneCell']; done)); (focus (simp; done)); clear hS; intro w hS; simp at hS; try simp only [putW]) | (refine alloc hS rfl rfl ?_; clear hS; intro mb w hS; simp only [putW]) | (refine box1 hS rfl rfl rfl rfl ?_; clear hS; intro mb w hS; try simp only [evW, putW] at hS; simp only [putW]) | (refine boxN hS rfl rfl rfl ?_; clear hS; intro mb w hS; simp only [putW]))
        exact bodyPost_ret (v := .tuple #[.int .u64 0, .slice none 0 0, .int .i64 3]) (by simp [results, Try.results8]) rfl (hform hno _ hS.nothing)
      have hS1 := hS.slNil 1 i64 3
      clear hS
      have hS := hS1
      clear hS1
      go_wp2_with (first | (refine load1 hS rfl rfl rfl rfl ?_; simp only [putW]) | (refine loadAll hS rfl rfl rfl ?_ ?_; rfl; simp only [putW]) | (refine loadPart hS rfl rfl rfl ?_ rfl ?_; rfl; simp only [putW]) | (refine store1 hS rfl rfl rfl rfl rfl ?_ ?_; (focus (simp; done)); clear hS; intro w hS; simp only [evW, putW] at hS; try simp only [putW]) | (refine storeAll hS rfl rfl rfl rfl ?_ ?_ ?_ ?_; rfl; (focus (simp [Value.oneCell']; done)); rfl; clear hS; intro w hS; try simp only [putW]) | (refine storeN hS rfl rfl rfl rfl ?_ ?_ ?_ ?_; rfl; (focus (simp [Value.oneCell']; done)); (focus (simp; done)); clear hS; intro w hS; simp at hS; try simp only [putW]) | (refine alloc hS rfl rfl ?_; clear hS; intro mb w hS; simp only [putW]) | (refine box1 hS rfl rfl rfl rfl ?_; clear hS; intro mb w hS; try simp only [evW, putW] at hS; simp only [putW]) | (refine boxN hS rfl rfl rfl ?_; clear hS; intro mb w hS; simp only [putW]))
      go_loopw [13, 14] (fun vv i wr => ∃ k : Nat, k ≤ cN ∧ i = .int .i64 (k : Int) ∧ Sat w0 [(blk vv, sl 1 i64 (nums4 Bt k) 3 vv), (ga, slc 1 by8 Bt ca 5)] wr) (fun _ i _ => cN - (intOf i).toNat)
      case atStart => exact ⟨0, Nat.zero_le _, rfl, hS⟩
      case round =>
        clear hS
        obtain ⟨k, hk, rfl, hS⟩ := hrel
        have hL := nums4_length Bt k
        have HL : Hid _ := hL
        clear hL
        by_cases hlt : k < cN
        · have hnl : (nums4 Bt k).length ≤ 300 := by rw [HL.out]; omega
          go_wp2_with (first | (guard_target =~ Calls _ 20 _ _ _; refine Stopped.out ?_) | (refine load1 hS rfl rfl rfl rfl ?_; simp only [putW]) | (refine loadAll hS rfl rfl rfl ?_ ?_; rfl; simp only [putW]) | (refine loadPart hS rfl rfl rfl ?_ rfl ?_; rfl; simp only [putW]) | (refine store1 hS rfl rfl rfl rfl rfl ?_ ?_; (focus (simp; done)); clear hS; intro w hS; simp only [evW, putW] at hS; try simp only [putW]) | (refine storeAll hS rfl rfl rfl rfl ?_ ?_ ?_ ?_; rfl; (focus (simp [Value.oneCell']; done)); rfl; clear hS; intro w hS; try simp only [putW]) | (refine storeN hS rfl rfl rfl rfl ?_ ?_ ?_ ?_; rfl; (focus (simp [Value.oneCell']; done)); (focus (simp; done)); clear hS; intro w hS; simp at hS; try simp only [putW]) | (refine alloc hS rfl rfl ?_; clear hS; intro mb w hS; simp only [putW]) | (refine box1 hS rfl rfl rfl rfl ?_; clear hS; intro mb w hS; try simp only [evW, putW] at hS; simp only [putW]) | (refine boxN hS rfl rfl rfl ?_; clear hS; intro mb w hS; simp only [putW]))
          refine ⟨?_⟩
          have hrd := hS.readsPart (g := ga) (A := Bt) (cap := ca) (t := 5) (i := 12 + 4 * k) (m := 4) (cap' := ca - (12 + 4 * k)) (ap := ⟨ga, 12 + 4 * k, none⟩) hByt (by rw [HBl.out]; omega) rfl (by omega) (Nat.le_trans (Nat.sub_le _ _) hcm.out)
          rw [show 16 + 4 * k - (12 + 4 * k) = 4 by omega]
          (refine Calls.mono (num_any hrd (Nat.le_trans (hlen4 (12 + 4 * k) 4) (by omega))) ?_; rintro _ w2 ⟨rfl, h2⟩; replace hS := hS.frame h2; clear h2; (try simp only [List.nil_append] at hS); simp only [])
          clear hrd
          have hxb := num_lt (l := (Bt.drop (12 + 4 * k)).take 4) fun b hb => hByt b (List.mem_of_mem_drop (List.mem_of_mem_take hb))
          rw [show ((Bt.drop (12 + 4 * k)).take 4).length = 4 by rw [List.length_take, List.length_drop, HBl.out]; omega] at hxb
          have hns : Hid (nums4 Bt (k + 1) = nums4 Bt k ++ [num ((Bt.drop (12 + 4 * k)).take 4)]) := nums4_succ Bt k
          generalize num ((Bt.drop (12 + 4 * k)).take 4) = x at hxb hns ⊢
          have hx1 : 0 ≤ x := hxb.1
          have hx2 : x < 4294967296 := hxb.2
          clear hxb
          go_wp2_with (first | (refine buildSlice1 (c := #[.int .i64 x]) hS rfl rfl rfl ?_ ?_ ?_ ?_; rfl; rfl; rfl; clear hS; intro mb w hS; simp only [putW]) | (refine append1 (f := i64) hS rfl rfl u13 rfl rfl x ?_ ?_ ?_ ?_ ?_ ?_; rfl; (focus (simp [i64, one, Value.oneCell']; done)); rfl; (focus (first | omega | (simp [maxLen]; done) | (simp [maxLen]; omega))); (focus (first | omega | (simp [maxLen]; done) | (simp [maxLen]; omega))); clear hS; intro v' w hS; simp only [putW]) | (refine load1 hS rfl rfl rfl rfl ?_; simp only [putW]) | (refine loadAll hS rfl rfl rfl ?_ ?_; rfl; simp only [putW]) | (refine loadPart hS rfl rfl rfl ?_ rfl ?_; rfl; simp only [putW]) | (refine store1 hS rfl rfl rfl rfl rfl ?_ ?_; (focus (simp; done)); clear hS; intro w hS; simp only [evW, putW] at hS; try simp only [putW]) | (refine storeAll hS rfl rfl rfl rfl ?_ ?_ ?_ ?_; rfl; (focus (simp [Value.oneCell']; done)); rfl; clear hS; intro w hS; try simp only [putW]) | (refine storeN hS rfl rfl rfl rfl ?_ ?_ ?_ ?_; rfl; (focus (simp [Value.oneCell']; done)); (focus (simp; done)); clear hS; intro w hS; simp at hS; try simp only [putW]) | (refine alloc hS rfl rfl ?_; clear hS; intro mb w hS; simp only [putW]) | (refine box1 hS rfl rfl rfl rfl ?_; clear hS; intro mb w hS; try simp only [evW, putW] at hS; simp only [putW]) | (refine boxN hS rfl rfl rfl ?_; clear hS; intro mb w hS; simp only [putW]))
          rw [← hns.out] at hS
          go_roundw
          case rel => exact ⟨k + 1, by omega, by go_num, hS.conv⟩
          case measure => simp [intOf]; omega
        · have hkc : k = cN := by omega
          subst hkc
          have hrL := hS.readsSl (α := Int) (v := u13) (gd := fun _ => True) fun _ _ => trivial
          go_wp2_with (first | (guard_target =~ Calls _ 21 _ _ _; refine Stopped.out ?_) | (refine load1 hS rfl rfl rfl rfl ?_; simp only [putW]) | (refine loadAll hS rfl rfl rfl ?_ ?_; rfl; simp only [putW]) | (refine loadPart hS rfl rfl rfl ?_ rfl ?_; rfl; simp only [putW]) | (refine store1 hS rfl rfl rfl rfl rfl ?_ ?_; (focus (simp; done)); clear hS; intro w hS; simp only [evW, putW] at hS; try simp only [putW]) | (refine storeAll hS rfl rfl rfl rfl ?_ ?_ ?_ ?_; rfl; (focus (simp [Value.oneCell']; done)); rfl; clear hS; intro w hS; try simp only [putW]) | (refine storeN hS rfl rfl rfl rfl ?_ ?_ ?_ ?_; rfl; (focus (simp [Value.oneCell']; done)); (focus (simp; done)); clear hS; intro w hS; simp at hS; try simp only [putW]) | (refine alloc hS rfl rfl ?_; clear hS; intro mb w hS; simp only [putW]) | (refine box1 hS rfl rfl rfl rfl ?_; clear hS; intro mb w hS; try simp only [evW, putW] at hS; simp only [putW]) | (refine boxN hS rfl rfl rfl ?_; clear hS; intro mb w hS; simp only [putW]))
          refine ⟨?_⟩
          by_cases hok : okL (nums4 Bt k) n
          · (refine Calls.mono (refHead_some vn n hv64 hrL hok) ?_; rintro _ w2 ⟨X', vo, g2, hX', rfl, h2⟩; replace hS := hS.frame h2; clear h2; (try simp only [List.cons_append, List.nil_append] at hS); simp only [])
            have hiff : Hid (openOk (X.map (·.2)) n ↔ X'.map (·.2) = X.map (·.2)) := by
              have h5 := open_iff (H := X.map (·.2)) (b := n) (cN := k) (vn := vn) (by rw [← hCat]; exact hcnt.out) (by rw [← hCat]; exact hver.out) (by rw [← hCat, HBl.out]; omega) (by rw [← hCat]; exact hok)
              show _ ↔ _
              rw [h5, ← hCat, ← hX']
            have hB2 : ∀ x ∈ X', ∀ b ∈ x.2, okByte b := fun x hx => cut_byt (full_byt _ _ _) (by rw [← hX']; exact List.mem_map.2 ⟨x, hx, rfl⟩)
            clear hX'
            go_wp2_with (first | (guard_target =~ Calls _ 22 _ _ _; refine Stopped.out ?_) | (refine load1 hS rfl rfl rfl rfl ?_; simp only [putW]) | (refine loadAll hS rfl rfl rfl ?_ ?_; rfl; simp only [putW]) | (refine loadPart hS rfl rfl rfl ?_ rfl ?_; rfl; simp only [putW]) | (refine store1 hS rfl rfl rfl rfl rfl ?_ ?_; (focus (simp; done)); clear hS; intro w hS; simp only [evW, putW] at hS; try simp only [putW]) | (refine storeAll hS rfl rfl rfl rfl ?_ ?_ ?_ ?_; rfl; (focus (simp [Value.oneCell']; done)); rfl; clear hS; intro w hS; try simp only [putW]) | (refine storeN hS rfl rfl rfl rfl ?_ ?_ ?_ ?_; rfl; (focus (simp [Value.oneCell']; done)); (focus (simp; done)); clear hS; intro w hS; simp at hS; try simp only [putW]) | (refine alloc hS rfl rfl ?_; clear hS; intro mb w hS; simp only [putW]) | (refine box1 hS rfl rfl rfl rfl ?_; clear hS; intro mb w hS; try simp only [evW, putW] at hS; simp only [putW]) | (refine boxN hS rfl rfl rfl ?_; clear hS; intro mb w hS; simp only [putW]))
            refine ⟨?_⟩
            (refine Calls.mono (sameAll_any (hS.rowsRead (vo := vo) (j := 0) (T := 37) hB2) (hXx.mono hS.base)) ?_; rintro _ w2 ⟨rfl, h2⟩; replace hS := hS.frame h2; clear h2; (try simp only [List.nil_append] at hS); simp only [])
            by_cases heq : X'.map (·.2) = X.map (·.2)
            · rw [decide_eq_true heq]
              have hyes : openOk (X.map (·.2)) n := hiff.out.2 heq
              clear heq
              go_wp2_with (first | (refine load1 hS rfl rfl rfl rfl ?_; simp only [putW]) | (refine loadAll hS rfl rfl rfl ?_ ?_; rfl; simp only [putW]) | (refine loadPart hS rfl rfl rfl ?_ rfl ?_; rfl; simp only [putW]) | (refine store1 hS rfl rfl rfl rfl rfl ?_ ?_; (focus (simp; done)); clear hS; intro w hS; simp only [evW, putW] at hS; try simp only [putW]) | (refine storeAll hS rfl rfl rfl rfl ?_ ?_ ?_ ?_; rfl; (focus (simp [Value.oneCell']; done)); rfl; clear hS; intro w hS; try simp only [putW]) | (refine storeN hS rfl rfl rfl rfl ?_ ?_ ?_ ?_; rfl; (focus (simp [Value.oneCell']; done)); (focus (simp; done)); clear hS; intro w hS; simp at hS; try simp only [putW]) | (refine alloc hS rfl rfl ?_; clear hS; intro mb w hS; simp only [putW]) | (refine box1 hS rfl rfl rfl rfl ?_; clear hS; intro mb w hS; try simp only [evW, putW] at hS; simp only [putW]) | (refine boxN hS rfl rfl rfl ?_; clear hS; intro mb w hS; simp only [putW]))
              refine bodyPost_ret (v := .tuple #[.int .u64 (vn : Int), u13, .int .i64 0]) (by simp [results, Try.results8]) rfl ⟨u13, ?_, ?_⟩
              · rw [openR_ok Hb.out hyes, ← hCat, ← hver.out]
              · rw [openR_ok Hb.out hyes, ← hCat, ← hcnt.out, Int.toNat_natCast]
                exact hS.conv (S' := [(blk u13, sl 1 i64 (nums4 Bt k) 3 u13)])
            · rw [decide_eq_false heq]
              have hno : ¬ openOk (X.map (·.2)) n := fun h => heq (hiff.out.1 h)
              go_wp2_with (first | (refine load1 hS rfl rfl rfl rfl ?_; simp only [putW]) | (refine loadAll hS rfl rfl rfl ?_ ?_; rfl; simp only [putW]) | (refine loadPart hS rfl rfl rfl ?_ rfl ?_; rfl; simp only [putW]) | (refine store1 hS rfl rfl rfl rfl rfl ?_ ?_; (focus (simp; done)); clear hS; intro w hS; simp only [evW, putW] at hS; try simp only [putW]) | (refine storeAll hS rfl rfl rfl rfl ?_ ?_ ?_ ?_; rfl; (focus (simp [Value.oneCell']; done)); rfl; clear hS; intro w hS; try simp only [putW]) | (refine storeN hS rfl rfl rfl rfl ?_ ?_ ?_ ?_; rfl; (focus (simp [Value.oneCell']; done)); (focus (simp; done)); clear hS; intro w hS; simp at hS; try simp only [putW]) | (refine alloc hS rfl rfl ?_; clear hS; intro mb w hS; simp only [putW]) | (refine box1 hS rfl rfl rfl rfl ?_; clear hS; intro mb w hS; try simp only [evW, putW] at hS; simp only [putW]) | (refine boxN hS rfl rfl rfl ?_; clear hS; intro mb w hS; simp only [putW]))
              exact bodyPost_ret (v := .tuple #[.int .u64 0, .slice none 0 0, .int .i64 3]) (by simp [results, Try.results8]) rfl (hform hno _ hS.nothing)
          · (refine Calls.mono (refHead_off vn n hv64 hrL Hb.out hok) ?_; rintro _ w2 ⟨rfl, h2⟩; replace hS := hS.frame h2; clear h2; (try simp only [List.nil_append] at hS); simp only [])
            have hno : ¬ openOk (X.map (·.2)) n := no_open2 (cN := k) (by rw [← hCat]; exact hcnt.out) (by rw [← hCat]; exact hok)
            go_wp2_with (first | (refine load1 hS rfl rfl rfl rfl ?_; simp only [putW]) | (refine loadAll hS rfl rfl rfl ?_ ?_; rfl; simp only [putW]) | (refine loadPart hS rfl rfl rfl ?_ rfl ?_; rfl; simp only [putW]) | (refine store1 hS rfl rfl rfl rfl rfl ?_ ?_; (focus (simp; done)); clear hS; intro w hS; simp only [evW, putW] at hS; try simp only [putW]) | (refine storeAll hS rfl rfl rfl rfl ?_ ?_ ?_ ?_; rfl; (focus (simp [Value.oneCell']; done)); rfl; clear hS; intro w hS; try simp only [putW]) | (refine storeN hS rfl rfl rfl rfl ?_ ?_ ?_ ?_; rfl; (focus (simp [Value.oneCell']; done)); (focus (simp; done)); clear hS; intro w hS; simp at hS; try simp only [putW]) | (refine alloc hS rfl rfl ?_; clear hS; intro mb w hS; simp only [putW]) | (refine box1 hS rfl rfl rfl rfl ?_; clear hS; intro mb w hS; try simp only [evW, putW] at hS; simp only [putW]) | (refine boxN hS rfl rfl rfl ?_; clear hS; intro mb w hS; simp only [putW]))
            exact bodyPost_ret (v := .tuple #[.int .u64 0, .slice none 0 0, .int .i64 3]) (by simp [results, Try.results8]) rfl (hform hno _ hS.nothing)
end
end Go.Proofs.Ytkppoffljkpiaaa
