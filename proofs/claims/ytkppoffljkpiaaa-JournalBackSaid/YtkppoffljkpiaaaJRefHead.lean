/-
  thimbleref19.Head.
-/
import Derived.Test.YtkppoffljkpiaaaJPlanR
import Derived.Test.YtkppoffljkpiaaaJHead
namespace Go.Proofs.Ytkppoffljkpiaaa
open Go.RowKit Go.Proofs.Ytkppoffljkpiaaa.Sl Go.Proofs.Ytkppoffljkpiaaa.Jp

section
variable {w0 : World} {B : List Int} {vb : Value}
theorem slKnown {α : Type} {w : World} {F : List Chunk} {g n m cap : Nat} {f : α → List Value} {L : List α} {t : TypeId} (h : Sat w0 ((g, sl n f L t (.slice (some ⟨g, 0, none⟩) m cap)) :: F) w) : Sat w0 ((g, slc n f L cap t) :: F) w := by
  rcases h.slCases with ⟨h1, _⟩ | ⟨cap', h1, h2⟩
  · cases h1
  · simp only [Value.slice.injEq] at h1
    obtain ⟨_, _, rfl⟩ := h1
    exact h2
theorem rep_snoc (P : List Int) (j : Nat) : (P ++ List.replicate j 0) ++ [0] = P ++ List.replicate (j + 1) 0 := by rw [List.append_assoc, ← List.replicate_succ']
set_option maxRecDepth 100000 in
set_option maxHeartbeats 4000000 in
theorem refHead_some (v : Nat) (b : Int) (hv : v < 18446744073709551616) (hB : RI w0 B vb) (hk : okL B b) :
    Calls Try.prog 21 #[.int .u64 (v : Int), vb, .int .i64 b] w0 fun e w' => ∃ X vo g, X.map (·.2) = cut (full v B b) (heads b) ∧ e = .returned (.tuple #[vo, .int .i64 0]) ∧
      Sat w0 [(g, sl 1 rowF X 37 vo), (0, inn X 5)] w' := by
  have hS := Sat.refl w0
  obtain ⟨n, rfl⟩ : ∃ n : Nat, b = n := ⟨b.toNat, by have := hk.1.1; omega⟩
  have h1 : 1 ≤ n := by have := hk.1.1; omega
  have hn2 : n ≤ 256 := by have := hk.1.2; omega
  have h3 : B.length ≤ n := by have := hk.2.1; omega
  have Hb : Hid (∀ x ∈ B, 0 ≤ x ∧ x < 65536) := hk.2.2
  have Hk : Hid (okL B n) := hk
  have hh1 := heads_le n hn2
  have hh2 : 12 + 4 * n ≤ 256 * heads n := by unfold heads; rw [Int.toNat_natCast]; omega
  clear hk
  obtain ⟨pb, cb, rfl, hlb, hatb⟩ := hB.at
  clear hB
  have hnil : ∀ w : World, RB w [] (.slice none 0 0) := fun _ => .inl ⟨rfl, .inl rfl⟩
  go_enter Try.func21, Try.ntmps21
  go_wp2_with (first | (go_at_call 18; refine Calls.mono (refOf_good n h1 hn2) ?_; rintro _ w2 ⟨g, cap, rfl, h2⟩; replace hS := hS.frame h2; clear h2; (try simp only [List.nil_append] at hS); simp only []) | (guard_target =~ Calls _ 31 _ _ _; refine Stopped.out ?_) | (refine load1 hS rfl rfl rfl rfl ?_; simp only [putW]) | (refine loadAll hS rfl rfl rfl ?_ ?_; rfl; simp only [putW]) | (refine loadPart hS rfl rfl rfl ?_ rfl ?_; rfl; simp only [putW]) | (refine store1 hS rfl rfl rfl rfl rfl ?_ ?_; (focus (simp; done)); clear hS; intro w hS; simp only [evW, putW] at hS; try simp only [putW]) | (refine storeAll hS rfl rfl rfl rfl ?_ ?_ ?_ ?_; rfl; (focus (simp [Value.oneCell']; done)); rfl; clear hS; intro w hS; try simp only [putW]) | (refine storeN hS rfl rfl rfl rfl ?_ ?_ ?_ ?_; rfl; (focus (simp [Value.oneCell']; done)); (focus (simp; done)); clear hS; intro w hS; simp at hS; try simp only [putW]) | (refine alloc hS rfl rfl ?_; clear hS; intro mb w hS; simp only [putW]) | (refine box1 hS rfl rfl rfl rfl ?_; clear hS; intro mb w hS; try simp only [evW, putW] at hS; simp only [putW]) | (refine boxN hS rfl rfl rfl ?_; clear hS; intro mb w hS; simp only [putW]))
  refine ⟨?_⟩
  (refine Calls.mono (refPut_any 8 v (by omega) (by omega) (by simpa using hv) (hnil _) (by simp)) ?_; rintro _ w2 ⟨v1, rfl, h2⟩; replace hS := hS.frame h2; clear h2; (try simp only [List.cons_append, List.nil_append] at hS); simp only [])
  go_wp2_with (first | (guard_target =~ Calls _ 31 _ _ _; refine Stopped.out ?_) | (refine load1 hS rfl rfl rfl rfl ?_; simp only [putW]) | (refine loadAll hS rfl rfl rfl ?_ ?_; rfl; simp only [putW]) | (refine loadPart hS rfl rfl rfl ?_ rfl ?_; rfl; simp only [putW]) | (refine store1 hS rfl rfl rfl rfl rfl ?_ ?_; (focus (simp; done)); clear hS; intro w hS; simp only [evW, putW] at hS; try simp only [putW]) | (refine storeAll hS rfl rfl rfl rfl ?_ ?_ ?_ ?_; rfl; (focus (simp [Value.oneCell']; done)); rfl; clear hS; intro w hS; try simp only [putW]) | (refine storeN hS rfl rfl rfl rfl ?_ ?_ ?_ ?_; rfl; (focus (simp [Value.oneCell']; done)); (focus (simp; done)); clear hS; intro w hS; simp at hS; try simp only [putW]) | (refine alloc hS rfl rfl ?_; clear hS; intro mb w hS; simp only [putW]) | (refine box1 hS rfl rfl rfl rfl ?_; clear hS; intro mb w hS; try simp only [evW, putW] at hS; simp only [putW]) | (refine boxN hS rfl rfl rfl ?_; clear hS; intro mb w hS; simp only [putW]))
  refine ⟨?_⟩
  (refine Calls.mono (refPut_any 4 B.length (by omega) (by omega) (by omega) (hnil _) (by simp)) ?_; rintro _ w2 ⟨v2, rfl, h2⟩; replace hS := hS.frame h2; clear h2; (try simp only [List.cons_append, List.nil_append] at hS); simp only [])
  go_wp2_with (first | (refine appendB (f := by8) hS rfl rfl v1 rfl rfl (be 4 B.length) (hS.readsSl (α := Int) (v := v2) (be_byt 4 B.length)) ?_ ?_ ?_ ?_; (focus (simp [one, Value.oneCell']; done)); (focus (first | omega | (simp [maxLen]; done) | (simp [maxLen]; omega))); (focus (first | omega | (simp []; done) | (simp [maxLen]; omega))); clear hS; intro v' w hS; simp only [putW]) | (refine load1 hS rfl rfl rfl rfl ?_; simp only [putW]) | (refine loadAll hS rfl rfl rfl ?_ ?_; rfl; simp only [putW]) | (refine loadPart hS rfl rfl rfl ?_ rfl ?_; rfl; simp only [putW]) | (refine store1 hS rfl rfl rfl rfl rfl ?_ ?_; (focus (simp; done)); clear hS; intro w hS; simp only [evW, putW] at hS; try simp only [putW]) | (refine storeAll hS rfl rfl rfl rfl ?_ ?_ ?_ ?_; rfl; (focus (simp [Value.oneCell']; done)); rfl; clear hS; intro w hS; try simp only [putW]) | (refine storeN hS rfl rfl rfl rfl ?_ ?_ ?_ ?_; rfl; (focus (simp [Value.oneCell']; done)); (focus (simp; done)); clear hS; intro w hS; simp at hS; try simp only [putW]) | (refine alloc hS rfl rfl ?_; clear hS; intro mb w hS; simp only [putW]) | (refine box1 hS rfl rfl rfl rfl ?_; clear hS; intro mb w hS; try simp only [evW, putW] at hS; simp only [putW]) | (refine boxN hS rfl rfl rfl ?_; clear hS; intro mb w hS; simp only [putW]))
  simp only [show ¬ n < B.length by omega, decide_false]
  go_loopw [10, 14] (fun vv i wr => ∃ k : Nat, k ≤ B.length ∧ i = .int .i64 k ∧ Sat w0 [(blk vv, sl 1 by8 (part v B k) 5 vv), (mb, cells #[.int .i64 1, .int .i64 n, .int .i64 1, .slice (some ⟨g, 0, none⟩) 1 cap, .int .i64 1, .int .i64 3, .int .i64 (heads n), .int .i64 (3 + heads n), .int .i64 (3 + heads n + n), .int .i64 (3 + heads n + n + n)] 40)] wr) (fun _ i _ => B.length - (intOf i).toNat)
  case atStart =>
    refine ⟨0, Nat.zero_le _, rfl, ?_⟩
    have e : part v B 0 = be 8 v ++ be 4 B.length := by simp [part]
    rw [e]; exact hS.conv
  case round =>
    clear hS
    obtain ⟨k, hk, rfl, hS⟩ := hrel
    by_cases hlt : k < B.length
    · obtain ⟨x, hx⟩ : ∃ x, B[k]? = some x := ⟨_, List.getElem?_eq_getElem hlt⟩
      obtain ⟨bb, ob, rfl, hBb⟩ := hatb (by intro e; subst e; simp at hlt)
      have hx2 := Hb.out x (List.mem_of_getElem? hx)
      have hsucc := part_succ (v := v) hx
      have Hsucc : Hid _ := hsucc
      clear hsucc
      obtain ⟨N, rfl⟩ : ∃ N : Nat, x = N := ⟨x.toNat, by omega⟩
      have hl4 := part_length v B hk
      have HL4 : Hid _ := hl4
      have hl5 : (part v B k).length ≤ 2000 := by rw [hl4]; omega
      clear hl4
      go_wp2_with (first | (refine loadB (f := i64) hS rfl rfl rfl hBb k 0 ?_ hx rfl ?_; omega; simp only [putW]) | (guard_target =~ Calls _ 31 _ _ _; refine Stopped.out ?_) | (refine load1 hS rfl rfl rfl rfl ?_; simp only [putW]) | (refine loadAll hS rfl rfl rfl ?_ ?_; rfl; simp only [putW]) | (refine loadPart hS rfl rfl rfl ?_ rfl ?_; rfl; simp only [putW]) | (refine store1 hS rfl rfl rfl rfl rfl ?_ ?_; (focus (simp; done)); clear hS; intro w hS; simp only [evW, putW] at hS; try simp only [putW]) | (refine storeAll hS rfl rfl rfl rfl ?_ ?_ ?_ ?_; rfl; (focus (simp [Value.oneCell']; done)); rfl; clear hS; intro w hS; try simp only [putW]) | (refine storeN hS rfl rfl rfl rfl ?_ ?_ ?_ ?_; rfl; (focus (simp [Value.oneCell']; done)); (focus (simp; done)); clear hS; intro w hS; simp at hS; try simp only [putW]) | (refine alloc hS rfl rfl ?_; clear hS; intro mb w hS; simp only [putW]) | (refine box1 hS rfl rfl rfl rfl ?_; clear hS; intro mb w hS; try simp only [evW, putW] at hS; simp only [putW]) | (refine boxN hS rfl rfl rfl ?_; clear hS; intro mb w hS; simp only [putW]))
      refine ⟨?_⟩
      (refine Calls.mono (refPut_any 4 N (by omega) (by omega) (by omega) (hnil _) (by simp)) ?_; rintro _ w2 ⟨v3, rfl, h2⟩; replace hS := hS.frame h2; clear h2; (try simp only [List.cons_append, List.nil_append] at hS); simp only [])
      go_wp2_with (first | (refine appendB (f := by8) hS rfl rfl u10 rfl rfl (be 4 N) (hS.readsSl (α := Int) (v := v3) (be_byt 4 N)) ?_ ?_ ?_ ?_; (focus (simp [one, Value.oneCell']; done)); (focus (first | omega | (simp [maxLen]; done) | (simp [maxLen]; omega))); (focus (first | omega | (simp []; done) | (simp []; omega))); clear hS; intro v' w hS; simp only [putW]) | (refine load1 hS rfl rfl rfl rfl ?_; simp only [putW]) | (refine loadAll hS rfl rfl rfl ?_ ?_; rfl; simp only [putW]) | (refine loadPart hS rfl rfl rfl ?_ rfl ?_; rfl; simp only [putW]) | (refine store1 hS rfl rfl rfl rfl rfl ?_ ?_; (focus (simp; done)); clear hS; intro w hS; simp only [evW, putW] at hS; try simp only [putW]) | (refine storeAll hS rfl rfl rfl rfl ?_ ?_ ?_ ?_; rfl; (focus (simp [Value.oneCell']; done)); rfl; clear hS; intro w hS; try simp only [putW]) | (refine storeN hS rfl rfl rfl rfl ?_ ?_ ?_ ?_; rfl; (focus (simp [Value.oneCell']; done)); (focus (simp; done)); clear hS; intro w hS; simp at hS; try simp only [putW]) | (refine alloc hS rfl rfl ?_; clear hS; intro mb w hS; simp only [putW]) | (refine box1 hS rfl rfl rfl rfl ?_; clear hS; intro mb w hS; try simp only [evW, putW] at hS; simp only [putW]) | (refine boxN hS rfl rfl rfl ?_; clear hS; intro mb w hS; simp only [putW]))
      rw [show part v B k ++ be 4 N = part v B (k + 1) by rw [Hsucc.out, Int.toNat_natCast]] at hS
      go_roundw
      case rel => exact ⟨k + 1, by omega, by go_num, hS.conv⟩
      case measure => simp [intOf]; omega
    · have hks : k = B.length := by omega
      subst hks
      have hpl := part_length v B (Nat.le_refl B.length)
      have HP : Hid _ := hpl
      clear hpl
      go_wp2_with (first | (refine load1 hS rfl rfl rfl rfl ?_; simp only [putW]) | (refine loadAll hS rfl rfl rfl ?_ ?_; rfl; simp only [putW]) | (refine loadPart hS rfl rfl rfl ?_ rfl ?_; rfl; simp only [putW]) | (refine store1 hS rfl rfl rfl rfl rfl ?_ ?_; (focus (simp; done)); clear hS; intro w hS; simp only [evW, putW] at hS; try simp only [putW]) | (refine storeAll hS rfl rfl rfl rfl ?_ ?_ ?_ ?_; rfl; (focus (simp [Value.oneCell']; done)); rfl; clear hS; intro w hS; try simp only [putW]) | (refine storeN hS rfl rfl rfl rfl ?_ ?_ ?_ ?_; rfl; (focus (simp [Value.oneCell']; done)); (focus (simp; done)); clear hS; intro w hS; simp at hS; try simp only [putW]) | (refine alloc hS rfl rfl ?_; clear hS; intro mb w hS; simp only [putW]) | (refine box1 hS rfl rfl rfl rfl ?_; clear hS; intro mb w hS; try simp only [evW, putW] at hS; simp only [putW]) | (refine boxN hS rfl rfl rfl ?_; clear hS; intro mb w hS; simp only [putW]))
      go_loopw [10] (fun vv wr => ∃ j : Nat, Hid (12 + 4 * B.length + j ≤ 256 * heads n) ∧ Sat w0 [(blk vv, sl 1 by8 (part v B B.length ++ List.replicate j 0) 5 vv), (mb, cells #[.int .i64 1, .int .i64 n, .int .i64 1, .slice (some ⟨g, 0, none⟩) 1 cap, .int .i64 1, .int .i64 3, .int .i64 (heads n), .int .i64 (3 + heads n), .int .i64 (3 + heads n + n), .int .i64 (3 + heads n + n + n)] 40)] wr) (fun vv _ => 256 * heads n - sLen vv)
      case atStart => exact ⟨0, by show _ ≤ _; omega, by rw [List.replicate_zero, List.append_nil]; exact hS⟩
      case round =>
        clear hS
        obtain ⟨j, hj, hS⟩ := hrel
        have hjl : (part v B B.length ++ List.replicate j 0).length = 12 + 4 * B.length + j := by rw [List.length_append, HP.out, List.length_replicate]
        have HJL : Hid _ := hjl
        have hj2 := hj.out
        obtain ⟨ga, ca, rfl, hS2⟩ := hS.slForm (12 + 4 * B.length + j) hjl (by omega)
        clear hS
        have hS := hS2
        clear hS2
        have hjl2 : (part v B B.length ++ List.replicate j 0).length ≤ 2000 := by rw [hjl]; omega
        clear hjl
        have hpl2 : (part v B B.length).length ≤ 2000 := by rw [HP.out]; omega
        have hj3 : j ≤ 1280 := by omega
        by_cases hlt2 : 12 + 4 * B.length + j < 256 * heads n
        · go_wp2_with (first | (refine buildSlice1 (c := #[.int .u8 0]) hS rfl rfl rfl ?_ ?_ ?_ ?_; rfl; rfl; rfl; clear hS; intro mb w hS; simp only [putW]) | (refine append1 (f := by8) hS rfl rfl (.slice (some ⟨ga, 0, none⟩) (12 + 4 * B.length + j) ca) rfl rfl 0 ?_ ?_ ?_ ?_ ?_ ?_; rfl; (focus (simp [by8, one, Value.oneCell']; done)); rfl; (focus (first | omega | (simp [maxLen]; done) | (simp [maxLen]; omega))); (focus (first | omega | (simp [maxLen]; done) | (simp [maxLen]; omega))); clear hS; intro v' w hS; simp only [putW]) | (refine load1 hS rfl rfl rfl rfl ?_; simp only [putW]) | (refine loadAll hS rfl rfl rfl ?_ ?_; rfl; simp only [putW]) | (refine loadPart hS rfl rfl rfl ?_ rfl ?_; rfl; simp only [putW]) | (refine store1 hS rfl rfl rfl rfl rfl ?_ ?_; (focus (simp; done)); clear hS; intro w hS; simp only [evW, putW] at hS; try simp only [putW]) | (refine storeAll hS rfl rfl rfl rfl ?_ ?_ ?_ ?_; rfl; (focus (simp [Value.oneCell']; done)); rfl; clear hS; intro w hS; try simp only [putW]) | (refine storeN hS rfl rfl rfl rfl ?_ ?_ ?_ ?_; rfl; (focus (simp [Value.oneCell']; done)); (focus (simp; done)); clear hS; intro w hS; simp at hS; try simp only [putW]) | (refine alloc hS rfl rfl ?_; clear hS; intro mb w hS; simp only [putW]) | (refine box1 hS rfl rfl rfl rfl ?_; clear hS; intro mb w hS; try simp only [evW, putW] at hS; simp only [putW]) | (refine boxN hS rfl rfl rfl ?_; clear hS; intro mb w hS; simp only [putW]))
          have hll := hS.slLen (α := Int) (v := v')
          rw [List.length_append, HJL.out] at hll
          have Hll : Hid _ := hll
          clear hll
          rw [rep_snoc] at hS
          go_roundw
          case rel => exact ⟨j + 1, by show _ ≤ _; omega, hS.conv⟩
          case measure =>
            have h7 : sLen v' = 12 + 4 * B.length + j + 1 := Hll.out
            show 256 * heads n - sLen v' < 256 * heads n - (12 + 4 * B.length + j)
            omega
        · have hjz : j = 256 * heads n - (12 + 4 * B.length) := by omega
          have hje : 12 + 4 * B.length + j = 256 * heads n := by omega
          rw [hjz, full_part] at hS
          replace hS := slKnown hS
          have HF : Hid ((full v B n).length = 256 * heads n) := full_length Hk.out
          have hS1 := (hS.innNil 0 5).slNil 1 rowF 37
          go_wp2_with (first | (refine load1 hS rfl rfl rfl rfl ?_; simp only [putW]) | (refine loadAll hS rfl rfl rfl ?_ ?_; rfl; simp only [putW]) | (refine loadPart hS rfl rfl rfl ?_ rfl ?_; rfl; simp only [putW]) | (refine store1 hS rfl rfl rfl rfl rfl ?_ ?_; (focus (simp; done)); clear hS; intro w hS; simp only [evW, putW] at hS; try simp only [putW]) | (refine storeAll hS rfl rfl rfl rfl ?_ ?_ ?_ ?_; rfl; (focus (simp [Value.oneCell']; done)); rfl; clear hS; intro w hS; try simp only [putW]) | (refine storeN hS rfl rfl rfl rfl ?_ ?_ ?_ ?_; rfl; (focus (simp [Value.oneCell']; done)); (focus (simp; done)); clear hS; intro w hS; simp at hS; try simp only [putW]) | (refine alloc hS rfl rfl ?_; clear hS; intro mb w hS; simp only [putW]) | (refine box1 hS rfl rfl rfl rfl ?_; clear hS; intro mb w hS; try simp only [evW, putW] at hS; simp only [putW]) | (refine boxN hS rfl rfl rfl ?_; clear hS; intro mb w hS; simp only [putW]))
          go_loopw [17, 18] (fun out i wr => ∃ (k : Nat) (X : List (Value × List Int)) (g' : Nat), k ≤ heads n ∧ i = .int .i64 (k : Int) ∧ Hid (X.map (·.2) = cut (full v B n) k) ∧ Hid (X.length = k) ∧ Sat w0 [(g', sl 1 rowF X 37 out), (0, inn X 5), (ga, slc 1 by8 (full v B n) ca 5), (mb, cells #[.int .i64 1, .int .i64 n, .int .i64 1, .slice (some ⟨g, 0, none⟩) 1 cap, .int .i64 1, .int .i64 3, .int .i64 (heads n), .int .i64 (3 + heads n), .int .i64 (3 + heads n + n), .int .i64 (3 + heads n + n + n)] 40)] wr) (fun _ i _ => heads n - (intOf i).toNat)
          case atStart => exact ⟨0, [], 0, Nat.zero_le _, rfl, rfl, rfl, hS1.conv⟩
          case round =>
            clear hS hS1
            obtain ⟨k, X, g', hk, rfl, hX, hXl, hS⟩ := hrel
            by_cases hlt3 : k < heads n
            · have hk5 : k < 5 := by omega
              have hfc := hS.slcFacts (g := ga) (n := 1) (f := by8) (l := full v B n) (cap := ca) (t := 5)
              have hca : 256 * heads n ≤ ca := by have := hfc.1; rw [HF.out] at this; exact this
              have hcm : Hid (ca ≤ maxLen) := hfc.2.1
              clear hfc
              go_wp2_with (first | (guard_target =~ Calls _ 32 _ _ _; refine Stopped.out ?_) | (first | (refine load1 hS rfl rfl rfl rfl ?_; simp only [putW]) | (refine loadAll hS rfl rfl rfl ?_ ?_; rfl; simp only [putW]) | (refine loadPart hS rfl rfl rfl ?_ rfl ?_; rfl; simp only [putW]) | (refine store1 hS rfl rfl rfl rfl rfl ?_ ?_; (focus (simp; done)); clear hS; intro w hS; simp only [evW, putW] at hS; try simp only [putW]) | (refine storeAll hS rfl rfl rfl rfl ?_ ?_ ?_ ?_; rfl; (focus (simp [Value.oneCell']; done)); rfl; clear hS; intro w hS; try simp only [putW]) | (refine storeN hS rfl rfl rfl rfl ?_ ?_ ?_ ?_; rfl; (focus (simp [Value.oneCell']; done)); (focus (simp; done)); clear hS; intro w hS; simp at hS; try simp only [putW]) | (refine alloc hS rfl rfl ?_; clear hS; intro mb w hS; simp only [putW]) | (refine box1 hS rfl rfl rfl rfl ?_; clear hS; intro mb w hS; try simp only [evW, putW] at hS; simp only [putW]) | (refine boxN hS rfl rfl rfl ?_; clear hS; intro mb w hS; simp only [putW])))
              refine ⟨?_⟩
              have hrd := hS.readsPart (g := ga) (A := full v B n) (cap := ca) (t := 5) (i := 256 * k) (m := 256) (cap' := ca - 256 * k) (ap := ⟨ga, 256 * k, none⟩) (full_byt _ _ _) (by rw [HF.out]; omega) rfl (by omega) (Nat.le_trans (Nat.sub_le _ _) hcm.out)
              have hlr : ((List.drop (256 * k) (full v B n)).take 256).length ≤ 100000000000000 := by rw [List.length_take]; omega
              (refine Calls.mono (copy_any hrd hlr) ?_; rintro _ w2 ⟨vc, rfl, h2⟩; replace hS := hS.frame h2; clear h2; (try simp only [List.cons_append, List.nil_append] at hS); simp only [])
              have hvc : vc.oneCell' = true := hS.slCell (α := Int) (v := vc)
              clear hrd hlr
              have hcv : vc.cells = #[vc] := cells_one hvc
              go_wp2_with (first | (guard_target =~ wpList _ _ _ (Oper.mk (some 101) _ _ _ _ _ :: _) _ _; refine Stopped.out ?_) | (refine load1 hS rfl rfl rfl rfl ?_; simp only [putW]) | (refine loadAll hS rfl rfl rfl ?_ ?_; rfl; simp only [putW]) | (refine loadPart hS rfl rfl rfl ?_ rfl ?_; rfl; simp only [putW]) | (refine store1 hS rfl rfl rfl rfl rfl ?_ ?_; (focus (simp; done)); clear hS; intro w hS; simp only [evW, putW] at hS; try simp only [putW]) | (refine storeAll hS rfl rfl rfl rfl ?_ ?_ ?_ ?_; rfl; (focus (simp [Value.oneCell']; done)); rfl; clear hS; intro w hS; try simp only [putW]) | (refine storeN hS rfl rfl rfl rfl ?_ ?_ ?_ ?_; rfl; (focus (simp [Value.oneCell']; done)); (focus (simp; done)); clear hS; intro w hS; simp at hS; try simp only [putW]) | (refine alloc hS rfl rfl ?_; clear hS; intro mb w hS; simp only [putW]) | (refine box1 hS rfl rfl rfl rfl ?_; clear hS; intro mb w hS; try simp only [evW, putW] at hS; simp only [putW]) | (refine boxN hS rfl rfl rfl ?_; clear hS; intro mb w hS; simp only [putW]))
              refine ⟨?_⟩
              refine buildSlice1 (c := #[vc]) hS rfl rfl hcv rfl rfl rfl ?_
              clear hS; intro mz w hS; simp only [putW]
              go_wp2_with (first | (guard_target =~ wpList _ _ _ (Oper.mk (some 102) _ _ _ _ _ :: _) _ _; refine Stopped.out ?_) | (refine load1 hS rfl rfl rfl rfl ?_; simp only [putW]) | (refine loadAll hS rfl rfl rfl ?_ ?_; rfl; simp only [putW]) | (refine loadPart hS rfl rfl rfl ?_ rfl ?_; rfl; simp only [putW]) | (refine store1 hS rfl rfl rfl rfl rfl ?_ ?_; (focus (simp; done)); clear hS; intro w hS; simp only [evW, putW] at hS; try simp only [putW]) | (refine storeAll hS rfl rfl rfl rfl ?_ ?_ ?_ ?_; rfl; (focus (simp [Value.oneCell']; done)); rfl; clear hS; intro w hS; try simp only [putW]) | (refine storeN hS rfl rfl rfl rfl ?_ ?_ ?_ ?_; rfl; (focus (simp [Value.oneCell']; done)); (focus (simp; done)); clear hS; intro w hS; simp at hS; try simp only [putW]) | (refine alloc hS rfl rfl ?_; clear hS; intro mb w hS; simp only [putW]) | (refine box1 hS rfl rfl rfl rfl ?_; clear hS; intro mb w hS; try simp only [evW, putW] at hS; simp only [putW]) | (refine boxN hS rfl rfl rfl ?_; clear hS; intro mb w hS; simp only [putW]))
              refine ⟨?_⟩
              refine append1 (f := rowF) hS rfl rfl u17 rfl rfl ((vc, (List.drop (256 * k) (full v B n)).take 256)) rfl ?_ rfl ?_ ?_ ?_
              · simp [hvc]
              · have := hXl.out; rw [this]; simp [maxLen]; omega
              · have := hXl.out; rw [this]; omega
              clear hS; intro v5 w hS; simp only [putW]
              replace hS := hS.innAdd (v := vc) (j := 0) (X := X) rfl
              go_wp2_with (first | (refine load1 hS rfl rfl rfl rfl ?_; simp only [putW]) | (refine loadAll hS rfl rfl rfl ?_ ?_; rfl; simp only [putW]) | (refine loadPart hS rfl rfl rfl ?_ rfl ?_; rfl; simp only [putW]) | (refine store1 hS rfl rfl rfl rfl rfl ?_ ?_; (focus (simp; done)); clear hS; intro w hS; simp only [evW, putW] at hS; try simp only [putW]) | (refine storeAll hS rfl rfl rfl rfl ?_ ?_ ?_ ?_; rfl; (focus (simp [Value.oneCell']; done)); rfl; clear hS; intro w hS; try simp only [putW]) | (refine storeN hS rfl rfl rfl rfl ?_ ?_ ?_ ?_; rfl; (focus (simp [Value.oneCell']; done)); (focus (simp; done)); clear hS; intro w hS; simp at hS; try simp only [putW]) | (refine alloc hS rfl rfl ?_; clear hS; intro mb w hS; simp only [putW]) | (refine box1 hS rfl rfl rfl rfl ?_; clear hS; intro mb w hS; try simp only [evW, putW] at hS; simp only [putW]) | (refine boxN hS rfl rfl rfl ?_; clear hS; intro mb w hS; simp only [putW]))
              go_roundw
              case rel =>
                refine ⟨k + 1, X ++ [(vc, (List.drop (256 * k) (full v B n)).take 256)], blk v5, by omega, by go_num, ?_, ?_, hS.conv⟩
                · show _ = _
                  rw [List.map_append, hX.out, cut_take_succ]; rfl
                · show List.length _ = _
                  rw [List.length_append, hXl.out]; rfl
              case measure => simp [intOf]; omega
            · have hkh : k = heads n := by omega
              subst hkh
              go_wp2_with (first | (refine load1 hS rfl rfl rfl rfl ?_; simp only [putW]) | (refine loadAll hS rfl rfl rfl ?_ ?_; rfl; simp only [putW]) | (refine loadPart hS rfl rfl rfl ?_ rfl ?_; rfl; simp only [putW]) | (refine store1 hS rfl rfl rfl rfl rfl ?_ ?_; (focus (simp; done)); clear hS; intro w hS; simp only [evW, putW] at hS; try simp only [putW]) | (refine storeAll hS rfl rfl rfl rfl ?_ ?_ ?_ ?_; rfl; (focus (simp [Value.oneCell']; done)); rfl; clear hS; intro w hS; try simp only [putW]) | (refine storeN hS rfl rfl rfl rfl ?_ ?_ ?_ ?_; rfl; (focus (simp [Value.oneCell']; done)); (focus (simp; done)); clear hS; intro w hS; simp at hS; try simp only [putW]) | (refine alloc hS rfl rfl ?_; clear hS; intro mb w hS; simp only [putW]) | (refine box1 hS rfl rfl rfl rfl ?_; clear hS; intro mb w hS; try simp only [evW, putW] at hS; simp only [putW]) | (refine boxN hS rfl rfl rfl ?_; clear hS; intro mb w hS; simp only [putW]))
              go_ret2
              exact ⟨X, u17, g', hX.out, rfl, hS.conv⟩
end
end Go.Proofs.Ytkppoffljkpiaaa
