/-
  journal.Open.
-/
import Derived.Test.YtkppoffljkpiaaaJOpenP
import Derived.Test.YtkppoffljkpiaaaJ02
namespace Go.Proofs.Ytkppoffljkpiaaa
open Go.RowKit Go.Proofs.Ytkppoffljkpiaaa.Sl Go.Proofs.Ytkppoffljkpiaaa.Jp

section
variable {w0 : World} {X : List (Value × List Int)} {vh : Value}
set_option maxHeartbeats 400000 in
theorem open_bad (b : Int) (hb : ¬ okB b) (_hX : RR w0 X vh) : Calls Try.prog 7 #[vh, .int .i64 b] w0 fun e w' => e = .returned (.tuple #[.int .u64 0, .slice none 0 0, .int .i64 1]) ∧ Sat w0 [] w' := by
  have hS := Sat.refl w0
  go_enter Try.func7, Try.ntmps7
  go_wp2_with (first | (go_at_call 12; refine Calls.mono (planOf_bad b hb) ?_; rintro _ w2 ⟨rfl, h2⟩; replace hS := hS.frame h2; clear h2; (try simp only [List.nil_append] at hS); simp only []) | (refine load1 hS rfl rfl rfl rfl ?_; simp only [putW]) | (refine loadAll hS rfl rfl rfl ?_ ?_; rfl; simp only [putW]) | (refine loadPart hS rfl rfl rfl ?_ rfl ?_; rfl; simp only [putW]) | (refine store1 hS rfl rfl rfl rfl rfl ?_ ?_; (focus (simp; done)); clear hS; intro w hS; simp only [evW, putW] at hS; try simp only [putW]) | (refine storeAll hS rfl rfl rfl rfl ?_ ?_ ?_ ?_; rfl; (focus (simp [Value.oneCell']; done)); rfl; clear hS; intro w hS; try simp only [putW]) | (refine storeN hS rfl rfl rfl rfl ?_ ?_ ?_ ?_; rfl; (focus (simp [Value.oneCell']; done)); (focus (simp; done)); clear hS; intro w hS; simp at hS; try simp only [putW]) | (refine alloc hS rfl rfl ?_; clear hS; intro mb w hS; simp only [putW]) | (refine box1 hS rfl rfl rfl rfl ?_; clear hS; intro mb w hS; try simp only [evW, putW] at hS; simp only [putW]) | (refine boxN hS rfl rfl rfl ?_; clear hS; intro mb w hS; simp only [putW]))
  exact bodyPost_ret (v := .tuple #[.int .u64 0, .slice none 0 0, .int .i64 1]) (by simp [results, Try.results7]) rfl ⟨rfl, hS.conv⟩

set_option maxRecDepth 100000 in
set_option maxHeartbeats 4000000 in
theorem open_good (b : Int) (hb : okB b) (hX : RR w0 X vh) (hl : (cat X).length ≤ 100000) : Calls Try.prog 7 #[vh, .int .i64 b] w0 fun e w' => ∃ vl,
    e = .returned (.tuple #[.int .u64 (openR (X.map (·.2)) b).1, vl, .int .i64 (openR (X.map (·.2)) b).2.2]) ∧ Sat w0 [(blk vl, sl 1 i64 (openR (X.map (·.2)) b).2.1 3 vl)] w' := by
  have hS := Sat.refl w0
  have hXx := hX
  obtain ⟨n, rfl⟩ : ∃ n : Nat, b = n := ⟨b.toNat, by have := hb.1; omega⟩
  have h1 : 1 ≤ n := by have := hb.1; omega
  have hn2 : n ≤ 256 := by have := hb.2; omega
  have Hb : Hid (okB n) := hb
  clear hb
  obtain ⟨ph, ch, rfl, hlh, hath⟩ := hX.at
  clear hX
  have hCat : cat X = (X.map (·.2)).flatten := rfl
  generalize hBt : cat X = Bt at *
  go_enter Try.func7, Try.ntmps7
  go_wp2_with (first | (go_at_call 12; refine Calls.mono (planOf_good n h1 hn2) ?_; rintro _ w2 ⟨g, cap, rfl, h2⟩; replace hS := hS.frame h2; clear h2; (try simp only [List.nil_append] at hS); simp only []) | (guard_target =~ Calls _ 14 _ _ _; refine Stopped.out ?_) | (refine load1 hS rfl rfl rfl rfl ?_; simp only [putW]) | (refine loadAll hS rfl rfl rfl ?_ ?_; rfl; simp only [putW]) | (refine loadPart hS rfl rfl rfl ?_ rfl ?_; rfl; simp only [putW]) | (refine store1 hS rfl rfl rfl rfl rfl ?_ ?_; (focus (simp; done)); clear hS; intro w hS; simp only [evW, putW] at hS; try simp only [putW]) | (refine storeAll hS rfl rfl rfl rfl ?_ ?_ ?_ ?_; rfl; (focus (simp [Value.oneCell']; done)); rfl; clear hS; intro w hS; try simp only [putW]) | (refine storeN hS rfl rfl rfl rfl ?_ ?_ ?_ ?_; rfl; (focus (simp [Value.oneCell']; done)); (focus (simp; done)); clear hS; intro w hS; simp at hS; try simp only [putW]) | (refine alloc hS rfl rfl ?_; clear hS; intro mb w hS; simp only [putW]) | (refine box1 hS rfl rfl rfl rfl ?_; clear hS; intro mb w hS; try simp only [evW, putW] at hS; simp only [putW]) | (refine boxN hS rfl rfl rfl ?_; clear hS; intro mb w hS; simp only [putW]))
  refine ⟨?_⟩
  have hjl : (cat X).length ≤ 100000000000 := by rw [hBt]; omega
  (refine Calls.mono (join_any (hXx.mono hS.base) hjl) ?_; rintro _ w2 ⟨vj, rfl, h2, hrj⟩; replace hS := hS.frame h2; clear h2; (try simp only [List.nil_append] at hS); simp only [])
  rw [hBt] at hrj
  have hByt : ∀ x ∈ Bt, okByte x := hrj.all
  go_wp2_with (first | (guard_target =~ Calls _ 13 _ _ _; refine Stopped.out ?_) | (refine load1 hS rfl rfl rfl rfl ?_; simp only [putW]) | (refine loadAll hS rfl rfl rfl ?_ ?_; rfl; simp only [putW]) | (refine loadPart hS rfl rfl rfl ?_ rfl ?_; rfl; simp only [putW]) | (refine store1 hS rfl rfl rfl rfl rfl ?_ ?_; (focus (simp; done)); clear hS; intro w hS; simp only [evW, putW] at hS; try simp only [putW]) | (refine storeAll hS rfl rfl rfl rfl ?_ ?_ ?_ ?_; rfl; (focus (simp [Value.oneCell']; done)); rfl; clear hS; intro w hS; try simp only [putW]) | (refine storeN hS rfl rfl rfl rfl ?_ ?_ ?_ ?_; rfl; (focus (simp [Value.oneCell']; done)); (focus (simp; done)); clear hS; intro w hS; simp at hS; try simp only [putW]) | (refine alloc hS rfl rfl ?_; clear hS; intro mb w hS; simp only [putW]) | (refine box1 hS rfl rfl rfl rfl ?_; clear hS; intro mb w hS; try simp only [evW, putW] at hS; simp only [putW]) | (refine boxN hS rfl rfl rfl ?_; clear hS; intro mb w hS; simp only [putW]))
  refine ⟨?_⟩
  (refine Calls.mono (rowNew_any hrj (by omega)) ?_; rintro _ w2 ⟨rb, vr, rfl, h2⟩; replace hS := hS.frame h2; clear h2; (try simp only [List.cons_append, List.nil_append] at hS); simp only [])
  replace hS := rdr_new hS
  go_wp2_with (first | (guard_target =~ Calls _ 15 _ _ _; refine Stopped.out ?_) | (refine load1 hS rfl rfl rfl rfl ?_; simp only [putW]) | (refine loadAll hS rfl rfl rfl ?_ ?_; rfl; simp only [putW]) | (refine loadPart hS rfl rfl rfl ?_ rfl ?_; rfl; simp only [putW]) | (refine store1 hS rfl rfl rfl rfl rfl ?_ ?_; (focus (simp; done)); clear hS; intro w hS; simp only [evW, putW] at hS; try simp only [putW]) | (refine storeAll hS rfl rfl rfl rfl ?_ ?_ ?_ ?_; rfl; (focus (simp [Value.oneCell']; done)); rfl; clear hS; intro w hS; try simp only [putW]) | (refine storeN hS rfl rfl rfl rfl ?_ ?_ ?_ ?_; rfl; (focus (simp [Value.oneCell']; done)); (focus (simp; done)); clear hS; intro w hS; simp at hS; try simp only [putW]) | (refine alloc hS rfl rfl ?_; clear hS; intro mb w hS; simp only [putW]) | (refine box1 hS rfl rfl rfl rfl ?_; clear hS; intro mb w hS; try simp only [evW, putW] at hS; simp only [putW]) | (refine boxN hS rfl rfl rfl ?_; clear hS; intro mb w hS; simp only [putW]))
  refine ⟨?_⟩
  (refine Calls.mono (num_st (rb := rb) (B := Bt) (st := some 0) (s := 8) (by omega) (by omega) hByt hS) ?_; clear hS; rintro _ w ⟨rfl, hS⟩; simp only [])
  go_wp2_with (first | (guard_target =~ Calls _ 15 _ _ _; refine Stopped.out ?_) | (refine load1 hS rfl rfl rfl rfl ?_; simp only [putW]) | (refine loadAll hS rfl rfl rfl ?_ ?_; rfl; simp only [putW]) | (refine loadPart hS rfl rfl rfl ?_ rfl ?_; rfl; simp only [putW]) | (refine store1 hS rfl rfl rfl rfl rfl ?_ ?_; (focus (simp; done)); clear hS; intro w hS; simp only [evW, putW] at hS; try simp only [putW]) | (refine storeAll hS rfl rfl rfl rfl ?_ ?_ ?_ ?_; rfl; (focus (simp [Value.oneCell']; done)); rfl; clear hS; intro w hS; try simp only [putW]) | (refine storeN hS rfl rfl rfl rfl ?_ ?_ ?_ ?_; rfl; (focus (simp [Value.oneCell']; done)); (focus (simp; done)); clear hS; intro w hS; simp at hS; try simp only [putW]) | (refine alloc hS rfl rfl ?_; clear hS; intro mb w hS; simp only [putW]) | (refine box1 hS rfl rfl rfl rfl ?_; clear hS; intro mb w hS; try simp only [evW, putW] at hS; simp only [putW]) | (refine boxN hS rfl rfl rfl ?_; clear hS; intro mb w hS; simp only [putW]))
  refine ⟨?_⟩
  (refine Calls.mono (num_st (rb := rb) (B := Bt) (s := 4) (by omega) (by omega) hByt hS) ?_; clear hS; rintro _ w ⟨rfl, hS⟩; simp only [])
  obtain ⟨vn, cN, st2, e1, e2, e3, hv64, hc32, hst⟩ := start_facts hByt
  rw [e3] at hS
  rw [e1, e2]
  have Hst : Hid _ := hst
  clear hst e1 e2 e3
  have hS1 := (hS.conv (S' := [(rb, rdS Bt st2)])).slNil 1 i64 3
  clear hS
  have hS := hS1
  clear hS1
  go_wp2_with (first | (refine load1 hS rfl rfl rfl rfl ?_; simp only [putW]) | (refine loadAll hS rfl rfl rfl ?_ ?_; rfl; simp only [putW]) | (refine loadPart hS rfl rfl rfl ?_ rfl ?_; rfl; simp only [putW]) | (refine store1 hS rfl rfl rfl rfl rfl ?_ ?_; (focus (simp; done)); clear hS; intro w hS; simp only [evW, putW] at hS; try simp only [putW]) | (refine storeAll hS rfl rfl rfl rfl ?_ ?_ ?_ ?_; rfl; (focus (simp [Value.oneCell']; done)); rfl; clear hS; intro w hS; try simp only [putW]) | (refine storeN hS rfl rfl rfl rfl ?_ ?_ ?_ ?_; rfl; (focus (simp [Value.oneCell']; done)); (focus (simp; done)); clear hS; intro w hS; simp at hS; try simp only [putW]) | (refine alloc hS rfl rfl ?_; clear hS; intro mb w hS; simp only [putW]) | (refine box1 hS rfl rfl rfl rfl ?_; clear hS; intro mb w hS; try simp only [evW, putW] at hS; simp only [putW]) | (refine boxN hS rfl rfl rfl ?_; clear hS; intro mb w hS; simp only [putW]))
  go_loopw [5, 11] (fun vv i wr => ∃ (k : Nat) (L : List Int) (st : Option Nat), i = .int .u64 (k : Int) ∧ Hid (loopI Bt cN k L st) ∧ Sat w0 [(blk vv, sl 1 i64 L 3 vv), (rb, rdS Bt st)] wr) (fun _ i _ => Bt.length + 5 - (intOf i).toNat)
  case atStart =>
    refine ⟨0, [], st2, rfl, ?_, hS⟩
    rcases Hst.out with ⟨h1, rfl, _, _⟩ | ⟨h1, rfl⟩
    · exact .inl ⟨rfl, rfl, Nat.zero_le _, by omega⟩
    · exact .inr ⟨rfl, by omega, Nat.zero_le _, Nat.zero_le _⟩
  case round =>
    clear hS
    obtain ⟨k, L, st, rfl, hI, hS⟩ := hrel
    have hlen := loopI_len hI.out
    by_cases hk : k < cN
    · rcases hI.out with ⟨hsm, _⟩ | ⟨hsn0, hsn1, _⟩
      · obtain ⟨p, rfl⟩ : ∃ p, st = some p := ⟨_, hsm⟩
        have hc : Hid ((cN : Int) = cnt Bt) := by
          rcases hI.out with ⟨_, _, _, h⟩ | ⟨h, _⟩
          · rcases Hst.out with ⟨_, _, _, h2⟩ | ⟨h2, _⟩
            · exact h2
            · omega
          · cases h
        go_wp2_with (first | (guard_target =~ Calls _ 16 _ _ _; refine Stopped.out ?_) | (refine load1 hS rfl rfl rfl rfl ?_; simp only [putW]) | (refine loadAll hS rfl rfl rfl ?_ ?_; rfl; simp only [putW]) | (refine loadPart hS rfl rfl rfl ?_ rfl ?_; rfl; simp only [putW]) | (refine store1 hS rfl rfl rfl rfl rfl ?_ ?_; (focus (simp; done)); clear hS; intro w hS; simp only [evW, putW] at hS; try simp only [putW]) | (refine storeAll hS rfl rfl rfl rfl ?_ ?_ ?_ ?_; rfl; (focus (simp [Value.oneCell']; done)); rfl; clear hS; intro w hS; try simp only [putW]) | (refine storeN hS rfl rfl rfl rfl ?_ ?_ ?_ ?_; rfl; (focus (simp [Value.oneCell']; done)); (focus (simp; done)); clear hS; intro w hS; simp at hS; try simp only [putW]) | (refine alloc hS rfl rfl ?_; clear hS; intro mb w hS; simp only [putW]) | (refine box1 hS rfl rfl rfl rfl ?_; clear hS; intro mb w hS; try simp only [evW, putW] at hS; simp only [putW]) | (refine boxN hS rfl rfl rfl ?_; clear hS; intro mb w hS; simp only [putW]))
        refine ⟨?_⟩
        (refine Calls.mono (fault_st (rb := rb) (B := Bt) (st := some p) hS) ?_; clear hS; rintro _ w ⟨rfl, hS⟩; simp only [])
        simp only [okS]
        go_wp2_with (first | (guard_target =~ Calls _ 15 _ _ _; refine Stopped.out ?_) | (refine load1 hS rfl rfl rfl rfl ?_; simp only [putW]) | (refine loadAll hS rfl rfl rfl ?_ ?_; rfl; simp only [putW]) | (refine loadPart hS rfl rfl rfl ?_ rfl ?_; rfl; simp only [putW]) | (refine store1 hS rfl rfl rfl rfl rfl ?_ ?_; (focus (simp; done)); clear hS; intro w hS; simp only [evW, putW] at hS; try simp only [putW]) | (refine storeAll hS rfl rfl rfl rfl ?_ ?_ ?_ ?_; rfl; (focus (simp [Value.oneCell']; done)); rfl; clear hS; intro w hS; try simp only [putW]) | (refine storeN hS rfl rfl rfl rfl ?_ ?_ ?_ ?_; rfl; (focus (simp [Value.oneCell']; done)); (focus (simp; done)); clear hS; intro w hS; simp at hS; try simp only [putW]) | (refine alloc hS rfl rfl ?_; clear hS; intro mb w hS; simp only [putW]) | (refine box1 hS rfl rfl rfl rfl ?_; clear hS; intro mb w hS; try simp only [evW, putW] at hS; simp only [putW]) | (refine boxN hS rfl rfl rfl ?_; clear hS; intro mb w hS; simp only [putW]))
        refine ⟨?_⟩
        (refine Calls.mono (num_st (rb := rb) (B := Bt) (st := some p) (s := 4) (by omega) (by omega) hByt hS) ?_; clear hS; rintro _ w ⟨rfl, hS⟩; simp only [])
        have hnb := nextS_bound (B := Bt) (s := 4) (st := some p) hByt
        have hnx : Hid (loopI Bt cN (k + 1) (L ++ [(nextS Bt 4 (some p)).1]) (nextS Bt 4 (some p)).2) := loopI_next hI.out hk hc.out
        generalize (nextS Bt 4 (some p)).1 = x at hnb hnx ⊢
        generalize (nextS Bt 4 (some p)).2 = st' at hS hnx
        have hx1 : 0 ≤ x := hnb.1
        have hx2 : x < 4294967296 := hnb.2
        clear hnb
        go_wp2_with (first | (refine buildSlice1 (c := #[.int .i64 x]) hS rfl rfl rfl ?_ ?_ ?_ ?_; rfl; rfl; rfl; clear hS; intro mb w hS; simp only [putW]) | (refine append1 (f := i64) hS rfl rfl u5 rfl rfl x ?_ ?_ ?_ ?_ ?_ ?_; rfl; (focus (simp [i64, one, Value.oneCell']; done)); rfl; (focus (first | omega | (simp [maxLen]; done) | (simp [maxLen]; omega))); (focus (first | omega | (simp [maxLen]; done) | (simp [maxLen]; omega))); clear hS; intro v' w hS; simp only [putW]) | (refine load1 hS rfl rfl rfl rfl ?_; simp only [putW]) | (refine loadAll hS rfl rfl rfl ?_ ?_; rfl; simp only [putW]) | (refine loadPart hS rfl rfl rfl ?_ rfl ?_; rfl; simp only [putW]) | (refine store1 hS rfl rfl rfl rfl rfl ?_ ?_; (focus (simp; done)); clear hS; intro w hS; simp only [evW, putW] at hS; try simp only [putW]) | (refine storeAll hS rfl rfl rfl rfl ?_ ?_ ?_ ?_; rfl; (focus (simp [Value.oneCell']; done)); rfl; clear hS; intro w hS; try simp only [putW]) | (refine storeN hS rfl rfl rfl rfl ?_ ?_ ?_ ?_; rfl; (focus (simp [Value.oneCell']; done)); (focus (simp; done)); clear hS; intro w hS; simp at hS; try simp only [putW]) | (refine alloc hS rfl rfl ?_; clear hS; intro mb w hS; simp only [putW]) | (refine box1 hS rfl rfl rfl rfl ?_; clear hS; intro mb w hS; try simp only [evW, putW] at hS; simp only [putW]) | (refine boxN hS rfl rfl rfl ?_; clear hS; intro mb w hS; simp only [putW]))
        go_roundw
        case rel => exact ⟨k + 1, L ++ [x], st', by go_num, hnx, hS.conv⟩
        case measure => simp [intOf]; omega
      · have hsn : Hid (st = none) := hsn0
        have hF : Hid ((st = some (12 + 4 * cN) ∧ L = nums4 Bt cN ∧ 12 + 4 * cN ≤ Bt.length ∧ (vn : Int) = ver Bt ∧ (cN : Int) = cnt Bt) ∨ (st = none ∧ ¬ (12 + 4 * (cnt Bt).toNat ≤ Bt.length))) := .inr ⟨hsn0, hsn1⟩
        clear hsn0 hsn1
        go_wp2_with (first | (guard_target =~ Calls _ 16 _ _ _; refine Stopped.out ?_) | (refine load1 hS rfl rfl rfl rfl ?_; simp only [putW]) | (refine loadAll hS rfl rfl rfl ?_ ?_; rfl; simp only [putW]) | (refine loadPart hS rfl rfl rfl ?_ rfl ?_; rfl; simp only [putW]) | (refine store1 hS rfl rfl rfl rfl rfl ?_ ?_; (focus (simp; done)); clear hS; intro w hS; simp only [evW, putW] at hS; try simp only [putW]) | (refine storeAll hS rfl rfl rfl rfl ?_ ?_ ?_ ?_; rfl; (focus (simp [Value.oneCell']; done)); rfl; clear hS; intro w hS; try simp only [putW]) | (refine storeN hS rfl rfl rfl rfl ?_ ?_ ?_ ?_; rfl; (focus (simp [Value.oneCell']; done)); (focus (simp; done)); clear hS; intro w hS; simp at hS; try simp only [putW]) | (refine alloc hS rfl rfl ?_; clear hS; intro mb w hS; simp only [putW]) | (refine box1 hS rfl rfl rfl rfl ?_; clear hS; intro mb w hS; try simp only [evW, putW] at hS; simp only [putW]) | (refine boxN hS rfl rfl rfl ?_; clear hS; intro mb w hS; simp only [putW]))
        refine ⟨?_⟩
        (refine Calls.mono (fault_st (rb := rb) (B := Bt) (st := st) hS) ?_; clear hS; rintro _ w ⟨rfl, hS⟩; simp only [])
        rw [show okS st = 2 by rw [hsn.out]; rfl]
        go_wp2_with (first | (guard_target =~ Calls _ 10 _ _ _; refine Stopped.out ?_) | (refine load1 hS rfl rfl rfl rfl ?_; simp only [putW]) | (refine loadAll hS rfl rfl rfl ?_ ?_; rfl; simp only [putW]) | (refine loadPart hS rfl rfl rfl ?_ rfl ?_; rfl; simp only [putW]) | (refine store1 hS rfl rfl rfl rfl rfl ?_ ?_; (focus (simp; done)); clear hS; intro w hS; simp only [evW, putW] at hS; try simp only [putW]) | (refine storeAll hS rfl rfl rfl rfl ?_ ?_ ?_ ?_; rfl; (focus (simp [Value.oneCell']; done)); rfl; clear hS; intro w hS; try simp only [putW]) | (refine storeN hS rfl rfl rfl rfl ?_ ?_ ?_ ?_; rfl; (focus (simp [Value.oneCell']; done)); (focus (simp; done)); clear hS; intro w hS; simp at hS; try simp only [putW]) | (refine alloc hS rfl rfl ?_; clear hS; intro mb w hS; simp only [putW]) | (refine box1 hS rfl rfl rfl rfl ?_; clear hS; intro mb w hS; try simp only [evW, putW] at hS; simp only [putW]) | (refine boxN hS rfl rfl rfl ?_; clear hS; intro mb w hS; simp only [putW]))
        refine ⟨?_⟩
        have hrL := hS.readsSl (α := Int) (v := u5) (gd := fun _ => True) fun _ _ => trivial
        by_cases hok : okL L n
        · (refine Calls.mono (head_some vn n hv64 hrL hok) ?_; rintro _ w2 ⟨X', vo, g2, hX', rfl, h2⟩; replace hS := hS.frame h2; clear h2; (try simp only [List.cons_append, List.nil_append] at hS); simp only [])
          have HX : Hid _ := hX'
          clear hX'
          go_wp2_with (first | (guard_target =~ Calls _ 16 _ _ _; refine Stopped.out ?_) | (refine load1 hS rfl rfl rfl rfl ?_; simp only [putW]) | (refine loadAll hS rfl rfl rfl ?_ ?_; rfl; simp only [putW]) | (refine loadPart hS rfl rfl rfl ?_ rfl ?_; rfl; simp only [putW]) | (refine store1 hS rfl rfl rfl rfl rfl ?_ ?_; (focus (simp; done)); clear hS; intro w hS; simp only [evW, putW] at hS; try simp only [putW]) | (refine storeAll hS rfl rfl rfl rfl ?_ ?_ ?_ ?_; rfl; (focus (simp [Value.oneCell']; done)); rfl; clear hS; intro w hS; try simp only [putW]) | (refine storeN hS rfl rfl rfl rfl ?_ ?_ ?_ ?_; rfl; (focus (simp [Value.oneCell']; done)); (focus (simp; done)); clear hS; intro w hS; simp at hS; try simp only [putW]) | (refine alloc hS rfl rfl ?_; clear hS; intro mb w hS; simp only [putW]) | (refine box1 hS rfl rfl rfl rfl ?_; clear hS; intro mb w hS; try simp only [evW, putW] at hS; simp only [putW]) | (refine boxN hS rfl rfl rfl ?_; clear hS; intro mb w hS; simp only [putW]))
          refine ⟨?_⟩
          (refine Calls.mono (fault_st (rb := rb) (B := Bt) (st := st) hS) ?_; clear hS; rintro _ w ⟨rfl, hS⟩; simp only [])
          rcases hF.out with ⟨hs1, hL1, hl1, hv1, hc1⟩ | ⟨hs1, hl1⟩
          rotate_left
          · rw [show okS st = 2 by rw [hs1]; rfl]
            go_wp2_with (first | (refine load1 hS rfl rfl rfl rfl ?_; simp only [putW]) | (refine loadAll hS rfl rfl rfl ?_ ?_; rfl; simp only [putW]) | (refine loadPart hS rfl rfl rfl ?_ rfl ?_; rfl; simp only [putW]) | (refine store1 hS rfl rfl rfl rfl rfl ?_ ?_; (focus (simp; done)); clear hS; intro w hS; simp only [evW, putW] at hS; try simp only [putW]) | (refine storeAll hS rfl rfl rfl rfl ?_ ?_ ?_ ?_; rfl; (focus (simp [Value.oneCell']; done)); rfl; clear hS; intro w hS; try simp only [putW]) | (refine storeN hS rfl rfl rfl rfl ?_ ?_ ?_ ?_; rfl; (focus (simp [Value.oneCell']; done)); (focus (simp; done)); clear hS; intro w hS; simp at hS; try simp only [putW]) | (refine alloc hS rfl rfl ?_; clear hS; intro mb w hS; simp only [putW]) | (refine box1 hS rfl rfl rfl rfl ?_; clear hS; intro mb w hS; try simp only [evW, putW] at hS; simp only [putW]) | (refine boxN hS rfl rfl rfl ?_; clear hS; intro mb w hS; simp only [putW]))
            have hno : ¬ openOk (X.map (·.2)) n := no_open1 (by rw [← hCat]; exact hl1)
            rw [openR_form Hb.out hno]
            exact bodyPost_ret (v := .tuple #[.int .u64 0, .slice none 0 0, .int .i64 3]) (by simp [results, Try.results7]) rfl ⟨.slice none 0 0, rfl, hS.nothing.slNil 1 i64 3⟩
          · rw [show okS st = 0 by rw [hs1]; rfl]
            have hiff : Hid (openOk (X.map (·.2)) n ↔ X'.map (·.2) = X.map (·.2)) := by
              have h5 := open_iff (H := X.map (·.2)) (b := n) (cN := cN) (vn := vn) (by rw [← hCat]; exact hc1) (by rw [← hCat]; exact hv1) (by rw [← hCat]; exact hl1) (by rw [← hCat, ← hL1]; exact hok)
              show _ ↔ _
              rw [h5, ← hCat, ← hL1, ← HX.out]
            have hXl : X'.length = heads n := by have := congrArg List.length HX.out; simpa [cut_length] using this
            have HXl : Hid _ := hXl
            have HL1 : Hid _ := hL1
            have HV1 : Hid _ := hv1
            have HC1 : Hid _ := hc1
            have hB2 : ∀ x ∈ X', ∀ b ∈ x.2, okByte b := fun x hx => cut_byt (full_byt _ _ _) (by rw [← HX.out]; exact List.mem_map.2 ⟨x, hx, rfl⟩)
            have hh1 : 1 ≤ heads n ∧ heads n ≤ 5 := ⟨by unfold heads; rw [Int.toNat_natCast]; omega, heads_le n hn2⟩
            obtain ⟨g3, c3, rfl, hS2⟩ := hS.conv (S' := [(g2, sl 1 rowF X' 37 vo), (0, inn X' 5), (blk u5, sl 1 i64 L 3 u5)]) |>.slFormC (heads n) hXl hh1.1
            clear hS hXl hL1 hv1 hc1 hs1
            have hS := hS2
            clear hS2
            by_cases hlx : heads n = X.length
            · go_wp2_with (first | (refine load1 hS rfl rfl rfl rfl ?_; simp only [putW]) | (refine loadAll hS rfl rfl rfl ?_ ?_; rfl; simp only [putW]) | (refine loadPart hS rfl rfl rfl ?_ rfl ?_; rfl; simp only [putW]) | (refine store1 hS rfl rfl rfl rfl rfl ?_ ?_; (focus (simp; done)); clear hS; intro w hS; simp only [evW, putW] at hS; try simp only [putW]) | (refine storeAll hS rfl rfl rfl rfl ?_ ?_ ?_ ?_; rfl; (focus (simp [Value.oneCell']; done)); rfl; clear hS; intro w hS; try simp only [putW]) | (refine storeN hS rfl rfl rfl rfl ?_ ?_ ?_ ?_; rfl; (focus (simp [Value.oneCell']; done)); (focus (simp; done)); clear hS; intro w hS; simp at hS; try simp only [putW]) | (refine alloc hS rfl rfl ?_; clear hS; intro mb w hS; simp only [putW]) | (refine box1 hS rfl rfl rfl rfl ?_; clear hS; intro mb w hS; try simp only [evW, putW] at hS; simp only [putW]) | (refine boxN hS rfl rfl rfl ?_; clear hS; intro mb w hS; simp only [putW]))
              go_loopw [4, 5, 69] (fun a4 a5 i wr2 => ∃ j : Nat, j ≤ heads n ∧ i = .int .i64 (j : Int) ∧ a4 = .int .u64 (vn : Int) ∧ a5 = u5 ∧ Hid ((X'.take j).map (·.2) = (X.take j).map (·.2)) ∧ Sat w0 [(g3, slc 1 rowF X' c3 37), (0, inn X' 5), (blk u5, sl 1 i64 L 3 u5)] wr2) (fun _ _ i _ => heads n - (intOf i).toNat)
              case atStart => exact ⟨0, Nat.zero_le _, rfl, rfl, rfl, rfl, hS⟩
              case round =>
                clear hS
                obtain ⟨j, hj, rfl, rfl, rfl, hje, hS⟩ := hrel
                by_cases hjl : j < heads n
                · obtain ⟨⟨yv, yl⟩, hy⟩ : ∃ y, X'[j]? = some y := ⟨_, List.getElem?_eq_getElem (by rw [HXl.out]; exact hjl)⟩
                  obtain ⟨⟨zv, zl⟩, hz⟩ : ∃ z, X[j]? = some z := ⟨_, List.getElem?_eq_getElem (by omega)⟩
                  obtain ⟨bh, oh, rfl, hBh⟩ := hath (by intro e; subst e; simp at hz)
                  have hrz : RB w0 zl zv := (hBh.2 j _ hz).1
                  have hiff2 : Hid ((X'.take (j + 1)).map (·.2) = (X.take (j + 1)).map (·.2) ↔ yl = zl) := map_take_succ hy hz hje.out
                  go_wp2_with (first | (guard_target =~ Calls _ 17 _ _ _; refine Stopped.out ?_) | (refine loadS (f := rowF) hS rfl rfl rfl j 0 ?_ hy rfl ?_ ?_; omega; omega; simp only [putW]) | (refine loadB (f := rowF) hS rfl rfl rfl hBh j 0 ?_ hz rfl ?_; omega; simp only [putW]) | (refine load1 hS rfl rfl rfl rfl ?_; simp only [putW]) | (refine loadAll hS rfl rfl rfl ?_ ?_; rfl; simp only [putW]) | (refine loadPart hS rfl rfl rfl ?_ rfl ?_; rfl; simp only [putW]) | (refine store1 hS rfl rfl rfl rfl rfl ?_ ?_; (focus (simp; done)); clear hS; intro w hS; simp only [evW, putW] at hS; try simp only [putW]) | (refine storeAll hS rfl rfl rfl rfl ?_ ?_ ?_ ?_; rfl; (focus (simp [Value.oneCell']; done)); rfl; clear hS; intro w hS; try simp only [putW]) | (refine storeN hS rfl rfl rfl rfl ?_ ?_ ?_ ?_; rfl; (focus (simp [Value.oneCell']; done)); (focus (simp; done)); clear hS; intro w hS; simp at hS; try simp only [putW]) | (refine alloc hS rfl rfl ?_; clear hS; intro mb w hS; simp only [putW]) | (refine box1 hS rfl rfl rfl rfl ?_; clear hS; intro mb w hS; try simp only [evW, putW] at hS; simp only [putW]) | (refine boxN hS rfl rfl rfl ?_; clear hS; intro mb w hS; simp only [putW]))
                  refine ⟨?_⟩
                  (refine Calls.mono (equal_any ((hS.pull 0).innReads (v := yv) (A := yl) (List.mem_of_getElem? hy) (hB2 _ (List.mem_of_getElem? hy))) (hrz.mono hS.base)) ?_; rintro _ w2 ⟨rfl, h2⟩; replace hS := hS.frame h2; clear h2; (try simp only [List.nil_append] at hS); simp only [])
                  by_cases hyz : yl = zl
                  · rw [decide_eq_true hyz]
                    have Hyz : Hid _ := hyz
                    clear hyz
                    go_wp2_with (first | (refine load1 hS rfl rfl rfl rfl ?_; simp only [putW]) | (refine loadAll hS rfl rfl rfl ?_ ?_; rfl; simp only [putW]) | (refine loadPart hS rfl rfl rfl ?_ rfl ?_; rfl; simp only [putW]) | (refine store1 hS rfl rfl rfl rfl rfl ?_ ?_; (focus (simp; done)); clear hS; intro w hS; simp only [evW, putW] at hS; try simp only [putW]) | (refine storeAll hS rfl rfl rfl rfl ?_ ?_ ?_ ?_; rfl; (focus (simp [Value.oneCell']; done)); rfl; clear hS; intro w hS; try simp only [putW]) | (refine storeN hS rfl rfl rfl rfl ?_ ?_ ?_ ?_; rfl; (focus (simp [Value.oneCell']; done)); (focus (simp; done)); clear hS; intro w hS; simp at hS; try simp only [putW]) | (refine alloc hS rfl rfl ?_; clear hS; intro mb w hS; simp only [putW]) | (refine box1 hS rfl rfl rfl rfl ?_; clear hS; intro mb w hS; try simp only [evW, putW] at hS; simp only [putW]) | (refine boxN hS rfl rfl rfl ?_; clear hS; intro mb w hS; simp only [putW]))
                    go_roundw
                    case rel => exact ⟨j + 1, by omega, by go_num, rfl, rfl, hiff2.out.2 Hyz.out, hS⟩
                    case measure => simp [intOf]; omega
                  · rw [decide_eq_false hyz]
                    go_wp2_with (first | (refine load1 hS rfl rfl rfl rfl ?_; simp only [putW]) | (refine loadAll hS rfl rfl rfl ?_ ?_; rfl; simp only [putW]) | (refine loadPart hS rfl rfl rfl ?_ rfl ?_; rfl; simp only [putW]) | (refine store1 hS rfl rfl rfl rfl rfl ?_ ?_; (focus (simp; done)); clear hS; intro w hS; simp only [evW, putW] at hS; try simp only [putW]) | (refine storeAll hS rfl rfl rfl rfl ?_ ?_ ?_ ?_; rfl; (focus (simp [Value.oneCell']; done)); rfl; clear hS; intro w hS; try simp only [putW]) | (refine storeN hS rfl rfl rfl rfl ?_ ?_ ?_ ?_; rfl; (focus (simp [Value.oneCell']; done)); (focus (simp; done)); clear hS; intro w hS; simp at hS; try simp only [putW]) | (refine alloc hS rfl rfl ?_; clear hS; intro mb w hS; simp only [putW]) | (refine box1 hS rfl rfl rfl rfl ?_; clear hS; intro mb w hS; try simp only [evW, putW] at hS; simp only [putW]) | (refine boxN hS rfl rfl rfl ?_; clear hS; intro mb w hS; simp only [putW]))
                    have hno : ¬ openOk (X.map (·.2)) n := fun h => hyz (hiff2.out.1 (by rw [List.map_take, List.map_take, hiff.out.1 h]))
                    rw [openR_form Hb.out hno]
                    exact bodyPost_ret (v := .tuple #[.int .u64 0, .slice none 0 0, .int .i64 3]) (by simp [results, Try.results7]) rfl ⟨.slice none 0 0, rfl, hS.nothing.slNil 1 i64 3⟩
                · have hyes : openOk (X.map (·.2)) n := by
                    refine hiff.out.2 ?_
                    have h6 := hje.out
                    rwa [List.take_of_length_le (by rw [HXl.out]; omega), List.take_of_length_le (by omega)] at h6
                  go_wp2_with (first | (refine load1 hS rfl rfl rfl rfl ?_; simp only [putW]) | (refine loadAll hS rfl rfl rfl ?_ ?_; rfl; simp only [putW]) | (refine loadPart hS rfl rfl rfl ?_ rfl ?_; rfl; simp only [putW]) | (refine store1 hS rfl rfl rfl rfl rfl ?_ ?_; (focus (simp; done)); clear hS; intro w hS; simp only [evW, putW] at hS; try simp only [putW]) | (refine storeAll hS rfl rfl rfl rfl ?_ ?_ ?_ ?_; rfl; (focus (simp [Value.oneCell']; done)); rfl; clear hS; intro w hS; try simp only [putW]) | (refine storeN hS rfl rfl rfl rfl ?_ ?_ ?_ ?_; rfl; (focus (simp [Value.oneCell']; done)); (focus (simp; done)); clear hS; intro w hS; simp at hS; try simp only [putW]) | (refine alloc hS rfl rfl ?_; clear hS; intro mb w hS; simp only [putW]) | (refine box1 hS rfl rfl rfl rfl ?_; clear hS; intro mb w hS; try simp only [evW, putW] at hS; simp only [putW]) | (refine boxN hS rfl rfl rfl ?_; clear hS; intro mb w hS; simp only [putW]))
                  refine bodyPost_ret (v := .tuple #[.int .u64 (vn : Int), u5, .int .i64 0]) (by simp [results, Try.results7]) rfl ⟨u5, ?_, ?_⟩
                  · rw [openR_ok Hb.out hyes, ← hCat, ← HV1.out]
                  · rw [openR_ok Hb.out hyes, ← hCat, ← HC1.out, Int.toNat_natCast, ← HL1.out]
                    exact hS.conv (S' := [(blk u5, sl 1 i64 L 3 u5)])
            · go_wp2_with (first | (refine load1 hS rfl rfl rfl rfl ?_; simp only [putW]) | (refine loadAll hS rfl rfl rfl ?_ ?_; rfl; simp only [putW]) | (refine loadPart hS rfl rfl rfl ?_ rfl ?_; rfl; simp only [putW]) | (refine store1 hS rfl rfl rfl rfl rfl ?_ ?_; (focus (simp; done)); clear hS; intro w hS; simp only [evW, putW] at hS; try simp only [putW]) | (refine storeAll hS rfl rfl rfl rfl ?_ ?_ ?_ ?_; rfl; (focus (simp [Value.oneCell']; done)); rfl; clear hS; intro w hS; try simp only [putW]) | (refine storeN hS rfl rfl rfl rfl ?_ ?_ ?_ ?_; rfl; (focus (simp [Value.oneCell']; done)); (focus (simp; done)); clear hS; intro w hS; simp at hS; try simp only [putW]) | (refine alloc hS rfl rfl ?_; clear hS; intro mb w hS; simp only [putW]) | (refine box1 hS rfl rfl rfl rfl ?_; clear hS; intro mb w hS; try simp only [evW, putW] at hS; simp only [putW]) | (refine boxN hS rfl rfl rfl ?_; clear hS; intro mb w hS; simp only [putW]))
              have hno : ¬ openOk (X.map (·.2)) n := fun h => hlx (by have h7 := congrArg List.length (hiff.out.1 h); rw [List.length_map, List.length_map, HXl.out] at h7; exact h7)
              rw [openR_form Hb.out hno]
              exact bodyPost_ret (v := .tuple #[.int .u64 0, .slice none 0 0, .int .i64 3]) (by simp [results, Try.results7]) rfl ⟨.slice none 0 0, rfl, hS.nothing.slNil 1 i64 3⟩
        · (refine Calls.mono (head_off vn n hv64 hrL Hb.out hok) ?_; rintro _ w2 ⟨rfl, h2⟩; replace hS := hS.frame h2; clear h2; (try simp only [List.nil_append] at hS); simp only [])
          go_wp2_with (first | (refine load1 hS rfl rfl rfl rfl ?_; simp only [putW]) | (refine loadAll hS rfl rfl rfl ?_ ?_; rfl; simp only [putW]) | (refine loadPart hS rfl rfl rfl ?_ rfl ?_; rfl; simp only [putW]) | (refine store1 hS rfl rfl rfl rfl rfl ?_ ?_; (focus (simp; done)); clear hS; intro w hS; simp only [evW, putW] at hS; try simp only [putW]) | (refine storeAll hS rfl rfl rfl rfl ?_ ?_ ?_ ?_; rfl; (focus (simp [Value.oneCell']; done)); rfl; clear hS; intro w hS; try simp only [putW]) | (refine storeN hS rfl rfl rfl rfl ?_ ?_ ?_ ?_; rfl; (focus (simp [Value.oneCell']; done)); (focus (simp; done)); clear hS; intro w hS; simp at hS; try simp only [putW]) | (refine alloc hS rfl rfl ?_; clear hS; intro mb w hS; simp only [putW]) | (refine box1 hS rfl rfl rfl rfl ?_; clear hS; intro mb w hS; try simp only [evW, putW] at hS; simp only [putW]) | (refine boxN hS rfl rfl rfl ?_; clear hS; intro mb w hS; simp only [putW]))
          have hno : ¬ openOk (X.map (·.2)) n := by
            rcases hF.out with ⟨_, hL1, hl, hv, hc⟩ | ⟨_, h⟩
            · exact no_open2 (cN := cN) (by rw [← hCat]; exact hc) (by rw [← hCat, ← hL1]; exact hok)
            · exact no_open1 (by rw [← hCat]; exact h)
          rw [openR_form Hb.out hno]
          exact bodyPost_ret (v := .tuple #[.int .u64 0, .slice none 0 0, .int .i64 3]) (by simp [results, Try.results7]) rfl ⟨.slice none 0 0, rfl, hS.nothing.slNil 1 i64 3⟩
    · have hF : Hid ((st = some (12 + 4 * cN) ∧ L = nums4 Bt cN ∧ 12 + 4 * cN ≤ Bt.length ∧ (vn : Int) = ver Bt ∧ (cN : Int) = cnt Bt) ∨ (st = none ∧ ¬ (12 + 4 * (cnt Bt).toNat ≤ Bt.length))) := by
        rcases hI.out with ⟨h, hL, hk2, h3⟩ | ⟨h, h2, _⟩
        · have hkk : k = cN := by omega
          subst hkk
          rcases Hst.out with ⟨_, _, h5, h6⟩ | ⟨h5, _⟩
          · exact .inl ⟨h, hL, h3, h5, h6⟩
          · omega
        · exact .inr ⟨h, h2⟩
      go_wp2_with (first | (guard_target =~ Calls _ 10 _ _ _; refine Stopped.out ?_) | (refine load1 hS rfl rfl rfl rfl ?_; simp only [putW]) | (refine loadAll hS rfl rfl rfl ?_ ?_; rfl; simp only [putW]) | (refine loadPart hS rfl rfl rfl ?_ rfl ?_; rfl; simp only [putW]) | (refine store1 hS rfl rfl rfl rfl rfl ?_ ?_; (focus (simp; done)); clear hS; intro w hS; simp only [evW, putW] at hS; try simp only [putW]) | (refine storeAll hS rfl rfl rfl rfl ?_ ?_ ?_ ?_; rfl; (focus (simp [Value.oneCell']; done)); rfl; clear hS; intro w hS; try simp only [putW]) | (refine storeN hS rfl rfl rfl rfl ?_ ?_ ?_ ?_; rfl; (focus (simp [Value.oneCell']; done)); (focus (simp; done)); clear hS; intro w hS; simp at hS; try simp only [putW]) | (refine alloc hS rfl rfl ?_; clear hS; intro mb w hS; simp only [putW]) | (refine box1 hS rfl rfl rfl rfl ?_; clear hS; intro mb w hS; try simp only [evW, putW] at hS; simp only [putW]) | (refine boxN hS rfl rfl rfl ?_; clear hS; intro mb w hS; simp only [putW]))
      refine ⟨?_⟩
      have hrL := hS.readsSl (α := Int) (v := u5) (gd := fun _ => True) fun _ _ => trivial
      by_cases hok : okL L n
      · (refine Calls.mono (head_some vn n hv64 hrL hok) ?_; rintro _ w2 ⟨X', vo, g2, hX', rfl, h2⟩; replace hS := hS.frame h2; clear h2; (try simp only [List.cons_append, List.nil_append] at hS); simp only [])
        have HX : Hid _ := hX'
        clear hX'
        go_wp2_with (first | (guard_target =~ Calls _ 16 _ _ _; refine Stopped.out ?_) | (refine load1 hS rfl rfl rfl rfl ?_; simp only [putW]) | (refine loadAll hS rfl rfl rfl ?_ ?_; rfl; simp only [putW]) | (refine loadPart hS rfl rfl rfl ?_ rfl ?_; rfl; simp only [putW]) | (refine store1 hS rfl rfl rfl rfl rfl ?_ ?_; (focus (simp; done)); clear hS; intro w hS; simp only [evW, putW] at hS; try simp only [putW]) | (refine storeAll hS rfl rfl rfl rfl ?_ ?_ ?_ ?_; rfl; (focus (simp [Value.oneCell']; done)); rfl; clear hS; intro w hS; try simp only [putW]) | (refine storeN hS rfl rfl rfl rfl ?_ ?_ ?_ ?_; rfl; (focus (simp [Value.oneCell']; done)); (focus (simp; done)); clear hS; intro w hS; simp at hS; try simp only [putW]) | (refine alloc hS rfl rfl ?_; clear hS; intro mb w hS; simp only [putW]) | (refine box1 hS rfl rfl rfl rfl ?_; clear hS; intro mb w hS; try simp only [evW, putW] at hS; simp only [putW]) | (refine boxN hS rfl rfl rfl ?_; clear hS; intro mb w hS; simp only [putW]))
        refine ⟨?_⟩
        (refine Calls.mono (fault_st (rb := rb) (B := Bt) (st := st) hS) ?_; clear hS; rintro _ w ⟨rfl, hS⟩; simp only [])
        rcases hF.out with ⟨hs1, hL1, hl1, hv1, hc1⟩ | ⟨hs1, hl1⟩
        rotate_left
        · rw [show okS st = 2 by rw [hs1]; rfl]
          go_wp2_with (first | (refine load1 hS rfl rfl rfl rfl ?_; simp only [putW]) | (refine loadAll hS rfl rfl rfl ?_ ?_; rfl; simp only [putW]) | (refine loadPart hS rfl rfl rfl ?_ rfl ?_; rfl; simp only [putW]) | (refine store1 hS rfl rfl rfl rfl rfl ?_ ?_; (focus (simp; done)); clear hS; intro w hS; simp only [evW, putW] at hS; try simp only [putW]) | (refine storeAll hS rfl rfl rfl rfl ?_ ?_ ?_ ?_; rfl; (focus (simp [Value.oneCell']; done)); rfl; clear hS; intro w hS; try simp only [putW]) | (refine storeN hS rfl rfl rfl rfl ?_ ?_ ?_ ?_; rfl; (focus (simp [Value.oneCell']; done)); (focus (simp; done)); clear hS; intro w hS; simp at hS; try simp only [putW]) | (refine alloc hS rfl rfl ?_; clear hS; intro mb w hS; simp only [putW]) | (refine box1 hS rfl rfl rfl rfl ?_; clear hS; intro mb w hS; try simp only [evW, putW] at hS; simp only [putW]) | (refine boxN hS rfl rfl rfl ?_; clear hS; intro mb w hS; simp only [putW]))
          have hno : ¬ openOk (X.map (·.2)) n := no_open1 (by rw [← hCat]; exact hl1)
          rw [openR_form Hb.out hno]
          exact bodyPost_ret (v := .tuple #[.int .u64 0, .slice none 0 0, .int .i64 3]) (by simp [results, Try.results7]) rfl ⟨.slice none 0 0, rfl, hS.nothing.slNil 1 i64 3⟩
        · rw [show okS st = 0 by rw [hs1]; rfl]
          have hiff : Hid (openOk (X.map (·.2)) n ↔ X'.map (·.2) = X.map (·.2)) := by
            have h5 := open_iff (H := X.map (·.2)) (b := n) (cN := cN) (vn := vn) (by rw [← hCat]; exact hc1) (by rw [← hCat]; exact hv1) (by rw [← hCat]; exact hl1) (by rw [← hCat, ← hL1]; exact hok)
            show _ ↔ _
            rw [h5, ← hCat, ← hL1, ← HX.out]
          have hXl : X'.length = heads n := by have := congrArg List.length HX.out; simpa [cut_length] using this
          have HXl : Hid _ := hXl
          have HL1 : Hid _ := hL1
          have HV1 : Hid _ := hv1
          have HC1 : Hid _ := hc1
          have hB2 : ∀ x ∈ X', ∀ b ∈ x.2, okByte b := fun x hx => cut_byt (full_byt _ _ _) (by rw [← HX.out]; exact List.mem_map.2 ⟨x, hx, rfl⟩)
          have hh1 : 1 ≤ heads n ∧ heads n ≤ 5 := ⟨by unfold heads; rw [Int.toNat_natCast]; omega, heads_le n hn2⟩
          obtain ⟨g3, c3, rfl, hS2⟩ := hS.conv (S' := [(g2, sl 1 rowF X' 37 vo), (0, inn X' 5), (blk u5, sl 1 i64 L 3 u5)]) |>.slFormC (heads n) hXl hh1.1
          clear hS hXl hL1 hv1 hc1 hs1
          have hS := hS2
          clear hS2
          by_cases hlx : heads n = X.length
          · go_wp2_with (first | (refine load1 hS rfl rfl rfl rfl ?_; simp only [putW]) | (refine loadAll hS rfl rfl rfl ?_ ?_; rfl; simp only [putW]) | (refine loadPart hS rfl rfl rfl ?_ rfl ?_; rfl; simp only [putW]) | (refine store1 hS rfl rfl rfl rfl rfl ?_ ?_; (focus (simp; done)); clear hS; intro w hS; simp only [evW, putW] at hS; try simp only [putW]) | (refine storeAll hS rfl rfl rfl rfl ?_ ?_ ?_ ?_; rfl; (focus (simp [Value.oneCell']; done)); rfl; clear hS; intro w hS; try simp only [putW]) | (refine storeN hS rfl rfl rfl rfl ?_ ?_ ?_ ?_; rfl; (focus (simp [Value.oneCell']; done)); (focus (simp; done)); clear hS; intro w hS; simp at hS; try simp only [putW]) | (refine alloc hS rfl rfl ?_; clear hS; intro mb w hS; simp only [putW]) | (refine box1 hS rfl rfl rfl rfl ?_; clear hS; intro mb w hS; try simp only [evW, putW] at hS; simp only [putW]) | (refine boxN hS rfl rfl rfl ?_; clear hS; intro mb w hS; simp only [putW]))
            go_loopw [4, 5, 69] (fun a4 a5 i wr2 => ∃ j : Nat, j ≤ heads n ∧ i = .int .i64 (j : Int) ∧ a4 = .int .u64 (vn : Int) ∧ a5 = u5 ∧ Hid ((X'.take j).map (·.2) = (X.take j).map (·.2)) ∧ Sat w0 [(g3, slc 1 rowF X' c3 37), (0, inn X' 5), (blk u5, sl 1 i64 L 3 u5)] wr2) (fun _ _ i _ => heads n - (intOf i).toNat)
            case atStart => exact ⟨0, Nat.zero_le _, rfl, rfl, rfl, rfl, hS⟩
            case round =>
              clear hS
              obtain ⟨j, hj, rfl, rfl, rfl, hje, hS⟩ := hrel
              by_cases hjl : j < heads n
              · obtain ⟨⟨yv, yl⟩, hy⟩ : ∃ y, X'[j]? = some y := ⟨_, List.getElem?_eq_getElem (by rw [HXl.out]; exact hjl)⟩
                obtain ⟨⟨zv, zl⟩, hz⟩ : ∃ z, X[j]? = some z := ⟨_, List.getElem?_eq_getElem (by omega)⟩
                obtain ⟨bh, oh, rfl, hBh⟩ := hath (by intro e; subst e; simp at hz)
                have hrz : RB w0 zl zv := (hBh.2 j _ hz).1
                have hiff2 : Hid ((X'.take (j + 1)).map (·.2) = (X.take (j + 1)).map (·.2) ↔ yl = zl) := map_take_succ hy hz hje.out
                go_wp2_with (first | (guard_target =~ Calls _ 17 _ _ _; refine Stopped.out ?_) | (refine loadS (f := rowF) hS rfl rfl rfl j 0 ?_ hy rfl ?_ ?_; omega; omega; simp only [putW]) | (refine loadB (f := rowF) hS rfl rfl rfl hBh j 0 ?_ hz rfl ?_; omega; simp only [putW]) | (refine load1 hS rfl rfl rfl rfl ?_; simp only [putW]) | (refine loadAll hS rfl rfl rfl ?_ ?_; rfl; simp only [putW]) | (refine loadPart hS rfl rfl rfl ?_ rfl ?_; rfl; simp only [putW]) | (refine store1 hS rfl rfl rfl rfl rfl ?_ ?_; (focus (simp; done)); clear hS; intro w hS; simp only [evW, putW] at hS; try simp only [putW]) | (refine storeAll hS rfl rfl rfl rfl ?_ ?_ ?_ ?_; rfl; (focus (simp [Value.oneCell']; done)); rfl; clear hS; intro w hS; try simp only [putW]) | (refine storeN hS rfl rfl rfl rfl ?_ ?_ ?_ ?_; rfl; (focus (simp [Value.oneCell']; done)); (focus (simp; done)); clear hS; intro w hS; simp at hS; try simp only [putW]) | (refine alloc hS rfl rfl ?_; clear hS; intro mb w hS; simp only [putW]) | (refine box1 hS rfl rfl rfl rfl ?_; clear hS; intro mb w hS; try simp only [evW, putW] at hS; simp only [putW]) | (refine boxN hS rfl rfl rfl ?_; clear hS; intro mb w hS; simp only [putW]))
                refine ⟨?_⟩
                (refine Calls.mono (equal_any ((hS.pull 0).innReads (v := yv) (A := yl) (List.mem_of_getElem? hy) (hB2 _ (List.mem_of_getElem? hy))) (hrz.mono hS.base)) ?_; rintro _ w2 ⟨rfl, h2⟩; replace hS := hS.frame h2; clear h2; (try simp only [List.nil_append] at hS); simp only [])
                by_cases hyz : yl = zl
                · rw [decide_eq_true hyz]
                  have Hyz : Hid _ := hyz
                  clear hyz
                  go_wp2_with (first | (refine load1 hS rfl rfl rfl rfl ?_; simp only [putW]) | (refine loadAll hS rfl rfl rfl ?_ ?_; rfl; simp only [putW]) | (refine loadPart hS rfl rfl rfl ?_ rfl ?_; rfl; simp only [putW]) | (refine store1 hS rfl rfl rfl rfl rfl ?_ ?_; (focus (simp; done)); clear hS; intro w hS; simp only [evW, putW] at hS; try simp only [putW]) | (refine storeAll hS rfl rfl rfl rfl ?_ ?_ ?_ ?_; rfl; (focus (simp [Value.oneCell']; done)); rfl; clear hS; intro w hS; try simp only [putW]) | (refine storeN hS rfl rfl rfl rfl ?_ ?_ ?_ ?_; rfl; (focus (simp [Value.oneCell']; done)); (focus (simp; done)); clear hS; intro w hS; simp at hS; try simp only [putW]) | (refine alloc hS rfl rfl ?_; clear hS; intro mb w hS; simp only [putW]) | (refine box1 hS rfl rfl rfl rfl ?_; clear hS; intro mb w hS; try simp only [evW, putW] at hS; simp only [putW]) | (refine boxN hS rfl rfl rfl ?_; clear hS; intro mb w hS; simp only [putW]))
                  go_roundw
                  case rel => exact ⟨j + 1, by omega, by go_num, rfl, rfl, hiff2.out.2 Hyz.out, hS⟩
                  case measure => simp [intOf]; omega
                · rw [decide_eq_false hyz]
                  go_wp2_with (first | (refine load1 hS rfl rfl rfl rfl ?_; simp only [putW]) | (refine loadAll hS rfl rfl rfl ?_ ?_; rfl; simp only [putW]) | (refine loadPart hS rfl rfl rfl ?_ rfl ?_; rfl; simp only [putW]) | (refine store1 hS rfl rfl rfl rfl rfl ?_ ?_; (focus (simp; done)); clear hS; intro w hS; simp only [evW, putW] at hS; try simp only [putW]) | (refine storeAll hS rfl rfl rfl rfl ?_ ?_ ?_ ?_; rfl; (focus (simp [Value.oneCell']; done)); rfl; clear hS; intro w hS; try simp only [putW]) | (refine storeN hS rfl rfl rfl rfl ?_ ?_ ?_ ?_; rfl; (focus (simp [Value.oneCell']; done)); (focus (simp; done)); clear hS; intro w hS; simp at hS; try simp only [putW]) | (refine alloc hS rfl rfl ?_; clear hS; intro mb w hS; simp only [putW]) | (refine box1 hS rfl rfl rfl rfl ?_; clear hS; intro mb w hS; try simp only [evW, putW] at hS; simp only [putW]) | (refine boxN hS rfl rfl rfl ?_; clear hS; intro mb w hS; simp only [putW]))
                  have hno : ¬ openOk (X.map (·.2)) n := fun h => hyz (hiff2.out.1 (by rw [List.map_take, List.map_take, hiff.out.1 h]))
                  rw [openR_form Hb.out hno]
                  exact bodyPost_ret (v := .tuple #[.int .u64 0, .slice none 0 0, .int .i64 3]) (by simp [results, Try.results7]) rfl ⟨.slice none 0 0, rfl, hS.nothing.slNil 1 i64 3⟩
              · have hyes : openOk (X.map (·.2)) n := by
                  refine hiff.out.2 ?_
                  have h6 := hje.out
                  rwa [List.take_of_length_le (by rw [HXl.out]; omega), List.take_of_length_le (by omega)] at h6
                go_wp2_with (first | (refine load1 hS rfl rfl rfl rfl ?_; simp only [putW]) | (refine loadAll hS rfl rfl rfl ?_ ?_; rfl; simp only [putW]) | (refine loadPart hS rfl rfl rfl ?_ rfl ?_; rfl; simp only [putW]) | (refine store1 hS rfl rfl rfl rfl rfl ?_ ?_; (focus (simp; done)); clear hS; intro w hS; simp only [evW, putW] at hS; try simp only [putW]) | (refine storeAll hS rfl rfl rfl rfl ?_ ?_ ?_ ?_; rfl; (focus (simp [Value.oneCell']; done)); rfl; clear hS; intro w hS; try simp only [putW]) | (refine storeN hS rfl rfl rfl rfl ?_ ?_ ?_ ?_; rfl; (focus (simp [Value.oneCell']; done)); (focus (simp; done)); clear hS; intro w hS; simp at hS; try simp only [putW]) | (refine alloc hS rfl rfl ?_; clear hS; intro mb w hS; simp only [putW]) | (refine box1 hS rfl rfl rfl rfl ?_; clear hS; intro mb w hS; try simp only [evW, putW] at hS; simp only [putW]) | (refine boxN hS rfl rfl rfl ?_; clear hS; intro mb w hS; simp only [putW]))
                refine bodyPost_ret (v := .tuple #[.int .u64 (vn : Int), u5, .int .i64 0]) (by simp [results, Try.results7]) rfl ⟨u5, ?_, ?_⟩
                · rw [openR_ok Hb.out hyes, ← hCat, ← HV1.out]
                · rw [openR_ok Hb.out hyes, ← hCat, ← HC1.out, Int.toNat_natCast, ← HL1.out]
                  exact hS.conv (S' := [(blk u5, sl 1 i64 L 3 u5)])
          · go_wp2_with (first | (refine load1 hS rfl rfl rfl rfl ?_; simp only [putW]) | (refine loadAll hS rfl rfl rfl ?_ ?_; rfl; simp only [putW]) | (refine loadPart hS rfl rfl rfl ?_ rfl ?_; rfl; simp only [putW]) | (refine store1 hS rfl rfl rfl rfl rfl ?_ ?_; (focus (simp; done)); clear hS; intro w hS; simp only [evW, putW] at hS; try simp only [putW]) | (refine storeAll hS rfl rfl rfl rfl ?_ ?_ ?_ ?_; rfl; (focus (simp [Value.oneCell']; done)); rfl; clear hS; intro w hS; try simp only [putW]) | (refine storeN hS rfl rfl rfl rfl ?_ ?_ ?_ ?_; rfl; (focus (simp [Value.oneCell']; done)); (focus (simp; done)); clear hS; intro w hS; simp at hS; try simp only [putW]) | (refine alloc hS rfl rfl ?_; clear hS; intro mb w hS; simp only [putW]) | (refine box1 hS rfl rfl rfl rfl ?_; clear hS; intro mb w hS; try simp only [evW, putW] at hS; simp only [putW]) | (refine boxN hS rfl rfl rfl ?_; clear hS; intro mb w hS; simp only [putW]))
            have hno : ¬ openOk (X.map (·.2)) n := fun h => hlx (by have h7 := congrArg List.length (hiff.out.1 h); rw [List.length_map, List.length_map, HXl.out] at h7; exact h7)
            rw [openR_form Hb.out hno]
            exact bodyPost_ret (v := .tuple #[.int .u64 0, .slice none 0 0, .int .i64 3]) (by simp [results, Try.results7]) rfl ⟨.slice none 0 0, rfl, hS.nothing.slNil 1 i64 3⟩
      · (refine Calls.mono (head_off vn n hv64 hrL Hb.out hok) ?_; rintro _ w2 ⟨rfl, h2⟩; replace hS := hS.frame h2; clear h2; (try simp only [List.nil_append] at hS); simp only [])
        go_wp2_with (first | (refine load1 hS rfl rfl rfl rfl ?_; simp only [putW]) | (refine loadAll hS rfl rfl rfl ?_ ?_; rfl; simp only [putW]) | (refine loadPart hS rfl rfl rfl ?_ rfl ?_; rfl; simp only [putW]) | (refine store1 hS rfl rfl rfl rfl rfl ?_ ?_; (focus (simp; done)); clear hS; intro w hS; simp only [evW, putW] at hS; try simp only [putW]) | (refine storeAll hS rfl rfl rfl rfl ?_ ?_ ?_ ?_; rfl; (focus (simp [Value.oneCell']; done)); rfl; clear hS; intro w hS; try simp only [putW]) | (refine storeN hS rfl rfl rfl rfl ?_ ?_ ?_ ?_; rfl; (focus (simp [Value.oneCell']; done)); (focus (simp; done)); clear hS; intro w hS; simp at hS; try simp only [putW]) | (refine alloc hS rfl rfl ?_; clear hS; intro mb w hS; simp only [putW]) | (refine box1 hS rfl rfl rfl rfl ?_; clear hS; intro mb w hS; try simp only [evW, putW] at hS; simp only [putW]) | (refine boxN hS rfl rfl rfl ?_; clear hS; intro mb w hS; simp only [putW]))
        have hno : ¬ openOk (X.map (·.2)) n := by
          rcases hF.out with ⟨_, hL1, hl, hv, hc⟩ | ⟨_, h⟩
          · exact no_open2 (cN := cN) (by rw [← hCat]; exact hc) (by rw [← hCat, ← hL1]; exact hok)
          · exact no_open1 (by rw [← hCat]; exact h)
        rw [openR_form Hb.out hno]
        exact bodyPost_ret (v := .tuple #[.int .u64 0, .slice none 0 0, .int .i64 3]) (by simp [results, Try.results7]) rfl ⟨.slice none 0 0, rfl, hS.nothing.slNil 1 i64 3⟩
end
end Go.Proofs.Ytkppoffljkpiaaa
