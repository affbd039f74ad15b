/-
  heat.Coldest.
-/
import Derived.Test.YtlkoclalcfeniaaFrHeat2
import Derived.Test.YtlkoclalcfeniaaSlB
set_option linter.unusedSimpArgs false
set_option linter.unusedVariables false
namespace Go.Proofs.Ytlkoclalcfeniaa
open Go.RowKit Go.Proofs.Ytlkoclalcfeniaa.Sl Go.Proofs.Ytlkoclalcfeniaa.Jp

/-- The coldest so far, and its heat. -/
def coldStep (f : Int → Nat) (acc : Option (Int × Nat)) (k : Int) : Option (Int × Nat) := match acc with
  | none => some (k, f k)
  | some (b, hb) => if rankF (f k) < rankF hb ∨ (¬ rankF hb < rankF (f k) ∧ k < b) then some (k, f k) else some (b, hb)
def coldF (f : Int → Nat) (L : List Int) : Option (Int × Nat) := L.foldl (coldStep f) none
theorem coldF_next (f : Int → Nat) {L : List Int} {j : Nat} {k : Int} (h : L[j]? = some k) : coldF f (L.take (j + 1)) = coldStep f (coldF f (L.take j)) k := by
  unfold coldF
  rw [List.take_add_one, h, List.foldl_append]
  rfl
section
variable {w0 w : World} {K F S : List Chunk} {h now nL : Nat} {sp : Spots} {q : Option Addr} {c : Nat} {L : List Int} {x y : Nat}
theorem less_both : Calls Try.prog 55 #[.float .f64 x, .float .f64 y] w0 fun e w' => ∃ b, e = .returned (.bool b) ∧ ((x : Int) < 18446744073709551616 → (y : Int) < 18446744073709551616 → b = decide (rankF x < rankF y)) ∧ Sat w0 [] w' := by
  by_cases hx : (x : Int) < 18446744073709551616
  · by_cases hy : (y : Int) < 18446744073709551616
    · exact (less_any hx hy).mono fun e w' ⟨h1, h2⟩ => ⟨_, h1, fun _ _ => rfl, h2⟩
    · exact less_some.mono fun e w' ⟨b, h1, h2⟩ => ⟨b, h1, fun _ h => absurd h hy, h2⟩
  · exact less_some.mono fun e w' ⟨b, h1, h2⟩ => ⟨b, h1, fun h _ => absurd h hx, h2⟩
/-- The heats of some keys are known. -/
def Known (now : Nat) (sp : Spots) (f : Int → Nat) (L : List Int) : Prop := ∀ k ∈ L, ((now : Int) - (spotOf sp k).2 < 16 ∨ NumF (spotOf sp k).1) ∧ rightF (coolF now (spotOf sp k)) = f k ∧ (f k : Int) < 18446744073709551616
/-- What is known of the coldest so far. -/
structure ColdIs (now : Nat) (sp : Spots) (L : List Int) (j : Nat) (bk : Int) (bh : Nat) : Prop where
  mem : j ≠ 0 → bk ∈ L.take j
  ex : j ≠ 0 → ∀ f, Known now sp f L → coldF f (L.take j) = some (bk, bh) ∧ (bh : Int) < 18446744073709551616
theorem ColdIs.zero (now : Nat) (sp : Spots) (L : List Int) : ColdIs now sp L 0 0 0 := ⟨fun h => absurd rfl h, fun h => absurd rfl h⟩
theorem ColdIs.take {j : Nat} {k bk : Int} {r bh : Nat} (hk : L[j]? = some k) (hx : ∀ f, Known now sp f L → r = f k) (hc : ColdIs now sp L j bk bh) (hw : j ≠ 0 → ∀ f, Known now sp f L → rankF (f k) < rankF bh ∨ (¬ rankF bh < rankF (f k) ∧ k < bk)) : ColdIs now sp L (j + 1) k r :=
  ⟨fun _ => by rw [List.take_add_one, hk]; simp, fun _ f hf => by
    refine ⟨?_, by rw [hx f hf]; exact (hf k (List.mem_of_getElem? hk)).2.2⟩
    rw [coldF_next f hk, hx f hf]
    by_cases h0 : j = 0
    · subst h0
      rfl
    · rw [(hc.ex h0 f hf).1]
      unfold coldStep
      simp only
      rw [if_pos (hw h0 f hf)]⟩
theorem ColdIs.stay {j : Nat} {k bk : Int} {bh : Nat} (hk : L[j]? = some k) (hc : ColdIs now sp L j bk bh) (h0 : j ≠ 0) (hw : ∀ f, Known now sp f L → ¬ (rankF (f k) < rankF bh ∨ (¬ rankF bh < rankF (f k) ∧ k < bk))) : ColdIs now sp L (j + 1) bk bh :=
  ⟨fun _ => by rw [List.take_add_one]; exact List.mem_append_left _ (hc.mem h0), fun _ f hf => by
    refine ⟨?_, (hc.ex h0 f hf).2⟩
    rw [coldF_next f hk, (hc.ex h0 f hf).1]
    unfold coldStep
    simp only
    rw [if_neg (hw f hf)]⟩
set_option maxRecDepth 100000 in
set_option maxHeartbeats 4000000 in
theorem coldest_any (hn : now ≤ 1000000) (hsp : SpOk now sp) (hnL : L.length = nL) (hl : nL ≤ 1000000) (hS : Sat w0 ((h, HeatC now sp) :: (blk (.slice q nL c), sl 1 i64 L 3 (.slice q nL c)) :: K) w) :
    Calls Try.prog 33 #[.pointer (some ⟨h, 0, none⟩), .slice q nL c] w fun e w' => ∃ k bh, e = .returned (.tuple #[.int .i64 k, .bool (decide (0 < nL))]) ∧ ColdIs now sp L nL k bh ∧ Sat w0 ((h, HeatC now sp) :: (blk (.slice q nL c), sl 1 i64 L 3 (.slice q nL c)) :: K) w' := by
  obtain ⟨m, hS2⟩ := heatOpen hS
  clear hS
  have hS := hS2
  clear hS2
  have HSP : Bx _ := ⟨hsp⟩
  have HnL : Bx _ := ⟨hnL⟩
  clear hsp hnL
  go_enter Try.func33, Try.ntmps33
  go_wp2_with (first | (refine load1 hS rfl rfl rfl rfl ?_; simp only [putW]) | (refine loadAll hS rfl rfl rfl ?_ ?_; rfl; simp only [putW]) | (refine loadPart hS rfl rfl rfl ?_ rfl ?_; rfl; simp only [putW]) | (refine store1 hS rfl rfl rfl rfl rfl ?_ ?_; (focus (simp; done)); clear hS; intro w hS; simp only [evW, putW] at hS; try simp only [putW]) | (refine storeAll hS rfl rfl rfl rfl ?_ ?_ ?_ ?_; rfl; (focus (simp [Value.oneCell']; done)); rfl; clear hS; intro w hS; try simp only [putW]) | (refine storeN hS rfl rfl rfl rfl ?_ ?_ ?_ ?_; rfl; (focus (simp [Value.oneCell']; done)); (focus (simp; done)); clear hS; intro w hS; simp at hS; try simp only [putW]) | (refine alloc hS rfl rfl ?_; clear hS; intro mb w hS; simp only [putW]) | (refine box1 hS rfl rfl rfl rfl ?_; clear hS; intro mb w hS; try simp only [evW, putW] at hS; simp only [putW]) | (refine boxN hS rfl rfl rfl ?_; clear hS; intro mb w hS; simp only [putW]))
  go_loopg [6, 7, 13] nL (fun g best heat i wr => ∃ (j : Nat) (bk : Int) (bh : Nat), j + g = nL ∧ best = .int .i64 bk ∧ heat = .float .f64 bh ∧ i = .int .i64 j ∧ Bx (ColdIs now sp L j bk bh) ∧ Sat w0 ((h, cells #[.int .i64 16, .int .i64 (now : Int), .map (some m)] 105) :: (m, mapC encInt spotV sp) :: (blk (.slice q nL c), sl 1 i64 L 3 (.slice q nL c)) :: K) wr)
  case atStart => exact ⟨0, 0, 0, by omega, rfl, rfl, rfl, ⟨ColdIs.zero now sp L⟩, hS⟩
  case round =>
    clear hS
    obtain ⟨j, bk, bh, hjg, rfl, rfl, rfl, hc, hS⟩ := hrel
    cases gk with
    | succ g =>
      have hlt : j < nL := by omega
      have hlti : (j : Int) < (nL : Int) := by omega
      obtain ⟨k, hk⟩ : ∃ k, L[j]? = some k := ⟨_, List.getElem?_eq_getElem (by rw [HnL.out]; exact hlt)⟩
      obtain ⟨ga, cap, e1, hS2⟩ := (hS.pull (blk (.slice q nL c)) (X := sl 1 i64 L 3 (.slice q nL c))).slFormC nL HnL.out (by omega)
      cases e1
      clear hS
      have hS := hS2.conv (S' := (h, cells #[.int .i64 16, .int .i64 (now : Int), .map (some m)] 105) :: (m, mapC encInt spotV sp) :: (ga, slc 1 i64 L c 3) :: K)
      clear hS2
      go_wp2_with (first | (refine loadS1 (v1 := Value.int .i64) hS rfl rfl rfl hk ?_; simp only [putW]) | (guard_target =~ Calls _ 54 _ _ _; refine Stopped.out ?_) | (refine load1 hS rfl rfl rfl rfl ?_; simp only [putW]) | (refine loadAll hS rfl rfl rfl ?_ ?_; rfl; simp only [putW]) | (refine loadPart hS rfl rfl rfl ?_ rfl ?_; rfl; simp only [putW]) | (refine store1 hS rfl rfl rfl rfl rfl ?_ ?_; (focus (simp; done)); clear hS; intro w hS; simp only [evW, putW] at hS; try simp only [putW]) | (refine storeAll hS rfl rfl rfl rfl ?_ ?_ ?_ ?_; rfl; (focus (simp [Value.oneCell']; done)); rfl; clear hS; intro w hS; try simp only [putW]) | (refine storeN hS rfl rfl rfl rfl ?_ ?_ ?_ ?_; rfl; (focus (simp [Value.oneCell']; done)); (focus (simp; done)); clear hS; intro w hS; simp at hS; try simp only [putW]) | (refine alloc hS rfl rfl ?_; clear hS; intro mb w hS; simp only [putW]) | (refine box1 hS rfl rfl rfl rfl ?_; clear hS; intro mb w hS; try simp only [evW, putW] at hS; simp only [putW]) | (refine boxN hS rfl rfl rfl ?_; clear hS; intro mb w hS; simp only [putW]))
      refine ⟨?_⟩
      refine Calls.mono (of_open (key := k) hS hn HSP.out) ?_
      clear hS
      rintro _ w ⟨r, rfl, hr, hS⟩
      simp only [putW]
      have Hx : Bx (∀ f, Known now sp f L → r = f k) := ⟨fun f hf => by
        obtain ⟨h1, h2, -⟩ := hf k (List.mem_of_getElem? hk)
        rw [← h2]; exact hr h1⟩
      have Hk : Bx _ := ⟨hk⟩
      clear hr hk hlt
      have hback : ∀ {w' : World}, Sat w0 ((h, cells #[.int .i64 16, .int .i64 (now : Int), .map (some m)] 105) :: (m, mapC encInt spotV sp) :: (ga, slc 1 i64 L c 3) :: K) w' → Sat w0 ((h, cells #[.int .i64 16, .int .i64 (now : Int), .map (some m)] 105) :: (m, mapC encInt spotV sp) :: (blk (.slice (some ⟨ga, 0, none⟩) nL c), sl 1 i64 L 3 (.slice (some ⟨ga, 0, none⟩) nL c)) :: K) w' := fun hS => by
        have h1 := (hS.pull ga (X := slc 1 i64 L c 3)).slOfSlc
        rw [HnL.out] at h1
        exact h1.conv
      by_cases h0 : j = 0
      · subst h0
        go_wp2_with (first | (refine load1 hS rfl rfl rfl rfl ?_; simp only [putW]) | (refine loadAll hS rfl rfl rfl ?_ ?_; rfl; simp only [putW]) | (refine loadPart hS rfl rfl rfl ?_ rfl ?_; rfl; simp only [putW]) | (refine store1 hS rfl rfl rfl rfl rfl ?_ ?_; (focus (simp; done)); clear hS; intro w hS; simp only [evW, putW] at hS; try simp only [putW]) | (refine storeAll hS rfl rfl rfl rfl ?_ ?_ ?_ ?_; rfl; (focus (simp [Value.oneCell']; done)); rfl; clear hS; intro w hS; try simp only [putW]) | (refine storeN hS rfl rfl rfl rfl ?_ ?_ ?_ ?_; rfl; (focus (simp [Value.oneCell']; done)); (focus (simp; done)); clear hS; intro w hS; simp at hS; try simp only [putW]) | (refine alloc hS rfl rfl ?_; clear hS; intro mb w hS; simp only [putW]) | (refine box1 hS rfl rfl rfl rfl ?_; clear hS; intro mb w hS; try simp only [evW, putW] at hS; simp only [putW]) | (refine boxN hS rfl rfl rfl ?_; clear hS; intro mb w hS; simp only [putW]))
        go_roundg g
        case measure => omega
        case rel => exact ⟨1, k, r, by omega, rfl, rfl, by go_num, ⟨ColdIs.take Hk.out Hx.out hc.out (fun h => absurd rfl h)⟩, hback hS⟩
      · have h0d : decide ((j : Int) = 0) = false := decide_eq_false (by omega)
        go_wp2_with (first | (guard_target =~ Calls _ 55 _ _ _; refine Stopped.out ?_) | (refine load1 hS rfl rfl rfl rfl ?_; simp only [putW]) | (refine loadAll hS rfl rfl rfl ?_ ?_; rfl; simp only [putW]) | (refine loadPart hS rfl rfl rfl ?_ rfl ?_; rfl; simp only [putW]) | (refine store1 hS rfl rfl rfl rfl rfl ?_ ?_; (focus (simp; done)); clear hS; intro w hS; simp only [evW, putW] at hS; try simp only [putW]) | (refine storeAll hS rfl rfl rfl rfl ?_ ?_ ?_ ?_; rfl; (focus (simp [Value.oneCell']; done)); rfl; clear hS; intro w hS; try simp only [putW]) | (refine storeN hS rfl rfl rfl rfl ?_ ?_ ?_ ?_; rfl; (focus (simp [Value.oneCell']; done)); (focus (simp; done)); clear hS; intro w hS; simp at hS; try simp only [putW]) | (refine alloc hS rfl rfl ?_; clear hS; intro mb w hS; simp only [putW]) | (refine box1 hS rfl rfl rfl rfl ?_; clear hS; intro mb w hS; try simp only [evW, putW] at hS; simp only [putW]) | (refine boxN hS rfl rfl rfl ?_; clear hS; intro mb w hS; simp only [putW]))
        refine ⟨?_⟩
        (refine Calls.mono (less_both) ?_; rintro _ w2 ⟨b1, rfl, hb1, h2⟩; replace hS := hS.frame h2; clear h2; (try simp only [List.cons_append, List.nil_append] at hS); simp only [putW])
        have HB1 : Bx (∀ f, Known now sp f L → b1 = decide (rankF (f k) < rankF bh)) := ⟨fun f hf => by
          rw [← Hx.out f hf]
          refine hb1 ?_ (hc.out.ex h0 f hf).2
          rw [Hx.out f hf]
          exact (hf k (List.mem_of_getElem? Hk.out)).2.2⟩
        clear hb1
        cases b1 with
        | true =>
          go_wp2_with (first | (refine load1 hS rfl rfl rfl rfl ?_; simp only [putW]) | (refine loadAll hS rfl rfl rfl ?_ ?_; rfl; simp only [putW]) | (refine loadPart hS rfl rfl rfl ?_ rfl ?_; rfl; simp only [putW]) | (refine store1 hS rfl rfl rfl rfl rfl ?_ ?_; (focus (simp; done)); clear hS; intro w hS; simp only [evW, putW] at hS; try simp only [putW]) | (refine storeAll hS rfl rfl rfl rfl ?_ ?_ ?_ ?_; rfl; (focus (simp [Value.oneCell']; done)); rfl; clear hS; intro w hS; try simp only [putW]) | (refine storeN hS rfl rfl rfl rfl ?_ ?_ ?_ ?_; rfl; (focus (simp [Value.oneCell']; done)); (focus (simp; done)); clear hS; intro w hS; simp at hS; try simp only [putW]) | (refine alloc hS rfl rfl ?_; clear hS; intro mb w hS; simp only [putW]) | (refine box1 hS rfl rfl rfl rfl ?_; clear hS; intro mb w hS; try simp only [evW, putW] at hS; simp only [putW]) | (refine boxN hS rfl rfl rfl ?_; clear hS; intro mb w hS; simp only [putW]))
          go_roundg g
          case measure => omega
          case rel => exact ⟨j + 1, k, r, by omega, rfl, rfl, by go_num, ⟨ColdIs.take Hk.out Hx.out hc.out (fun _ f hf => .inl (of_decide_eq_true (HB1.out f hf).symm))⟩, hback hS⟩
        | false =>
          go_wp2_with (first | (guard_target =~ Calls _ 55 _ _ _; refine Stopped.out ?_) | (refine load1 hS rfl rfl rfl rfl ?_; simp only [putW]) | (refine loadAll hS rfl rfl rfl ?_ ?_; rfl; simp only [putW]) | (refine loadPart hS rfl rfl rfl ?_ rfl ?_; rfl; simp only [putW]) | (refine store1 hS rfl rfl rfl rfl rfl ?_ ?_; (focus (simp; done)); clear hS; intro w hS; simp only [evW, putW] at hS; try simp only [putW]) | (refine storeAll hS rfl rfl rfl rfl ?_ ?_ ?_ ?_; rfl; (focus (simp [Value.oneCell']; done)); rfl; clear hS; intro w hS; try simp only [putW]) | (refine storeN hS rfl rfl rfl rfl ?_ ?_ ?_ ?_; rfl; (focus (simp [Value.oneCell']; done)); (focus (simp; done)); clear hS; intro w hS; simp at hS; try simp only [putW]) | (refine alloc hS rfl rfl ?_; clear hS; intro mb w hS; simp only [putW]) | (refine box1 hS rfl rfl rfl rfl ?_; clear hS; intro mb w hS; try simp only [evW, putW] at hS; simp only [putW]) | (refine boxN hS rfl rfl rfl ?_; clear hS; intro mb w hS; simp only [putW]))
          refine ⟨?_⟩
          (refine Calls.mono (less_both) ?_; rintro _ w2 ⟨b2, rfl, hb2, h2⟩; replace hS := hS.frame h2; clear h2; (try simp only [List.cons_append, List.nil_append] at hS); simp only [putW])
          have HB2 : Bx (∀ f, Known now sp f L → b2 = decide (rankF bh < rankF (f k))) := ⟨fun f hf => by
            rw [← Hx.out f hf]
            refine hb2 (hc.out.ex h0 f hf).2 ?_
            rw [Hx.out f hf]
            exact (hf k (List.mem_of_getElem? Hk.out)).2.2⟩
          clear hb2
          cases b2 with
          | true =>
            go_wp2_with (first | (refine load1 hS rfl rfl rfl rfl ?_; simp only [putW]) | (refine loadAll hS rfl rfl rfl ?_ ?_; rfl; simp only [putW]) | (refine loadPart hS rfl rfl rfl ?_ rfl ?_; rfl; simp only [putW]) | (refine store1 hS rfl rfl rfl rfl rfl ?_ ?_; (focus (simp; done)); clear hS; intro w hS; simp only [evW, putW] at hS; try simp only [putW]) | (refine storeAll hS rfl rfl rfl rfl ?_ ?_ ?_ ?_; rfl; (focus (simp [Value.oneCell']; done)); rfl; clear hS; intro w hS; try simp only [putW]) | (refine storeN hS rfl rfl rfl rfl ?_ ?_ ?_ ?_; rfl; (focus (simp [Value.oneCell']; done)); (focus (simp; done)); clear hS; intro w hS; simp at hS; try simp only [putW]) | (refine alloc hS rfl rfl ?_; clear hS; intro mb w hS; simp only [putW]) | (refine box1 hS rfl rfl rfl rfl ?_; clear hS; intro mb w hS; try simp only [evW, putW] at hS; simp only [putW]) | (refine boxN hS rfl rfl rfl ?_; clear hS; intro mb w hS; simp only [putW]))
            go_roundg g
            case measure => omega
            case rel => exact ⟨j + 1, bk, bh, by omega, rfl, rfl, by go_num, ⟨ColdIs.stay Hk.out hc.out h0 (fun f hf hw => by
              rcases hw with hw | ⟨hw, -⟩
              · exact of_decide_eq_false (HB1.out f hf).symm hw
              · exact hw (of_decide_eq_true (HB2.out f hf).symm))⟩, hback hS⟩
          | false =>
            by_cases hkb : k < bk
            · have hkd : decide (k < bk) = true := decide_eq_true hkb
              go_wp2_with (first | (refine load1 hS rfl rfl rfl rfl ?_; simp only [putW]) | (refine loadAll hS rfl rfl rfl ?_ ?_; rfl; simp only [putW]) | (refine loadPart hS rfl rfl rfl ?_ rfl ?_; rfl; simp only [putW]) | (refine store1 hS rfl rfl rfl rfl rfl ?_ ?_; (focus (simp; done)); clear hS; intro w hS; simp only [evW, putW] at hS; try simp only [putW]) | (refine storeAll hS rfl rfl rfl rfl ?_ ?_ ?_ ?_; rfl; (focus (simp [Value.oneCell']; done)); rfl; clear hS; intro w hS; try simp only [putW]) | (refine storeN hS rfl rfl rfl rfl ?_ ?_ ?_ ?_; rfl; (focus (simp [Value.oneCell']; done)); (focus (simp; done)); clear hS; intro w hS; simp at hS; try simp only [putW]) | (refine alloc hS rfl rfl ?_; clear hS; intro mb w hS; simp only [putW]) | (refine box1 hS rfl rfl rfl rfl ?_; clear hS; intro mb w hS; try simp only [evW, putW] at hS; simp only [putW]) | (refine boxN hS rfl rfl rfl ?_; clear hS; intro mb w hS; simp only [putW]))
              go_roundg g
              case measure => omega
              case rel => exact ⟨j + 1, k, r, by omega, rfl, rfl, by go_num, ⟨ColdIs.take Hk.out Hx.out hc.out (fun _ f hf => .inr ⟨of_decide_eq_false (HB2.out f hf).symm, hkb⟩)⟩, hback hS⟩
            · have hkd : decide (k < bk) = false := decide_eq_false hkb
              go_wp2_with (first | (refine load1 hS rfl rfl rfl rfl ?_; simp only [putW]) | (refine loadAll hS rfl rfl rfl ?_ ?_; rfl; simp only [putW]) | (refine loadPart hS rfl rfl rfl ?_ rfl ?_; rfl; simp only [putW]) | (refine store1 hS rfl rfl rfl rfl rfl ?_ ?_; (focus (simp; done)); clear hS; intro w hS; simp only [evW, putW] at hS; try simp only [putW]) | (refine storeAll hS rfl rfl rfl rfl ?_ ?_ ?_ ?_; rfl; (focus (simp [Value.oneCell']; done)); rfl; clear hS; intro w hS; try simp only [putW]) | (refine storeN hS rfl rfl rfl rfl ?_ ?_ ?_ ?_; rfl; (focus (simp [Value.oneCell']; done)); (focus (simp; done)); clear hS; intro w hS; simp at hS; try simp only [putW]) | (refine alloc hS rfl rfl ?_; clear hS; intro mb w hS; simp only [putW]) | (refine box1 hS rfl rfl rfl rfl ?_; clear hS; intro mb w hS; try simp only [evW, putW] at hS; simp only [putW]) | (refine boxN hS rfl rfl rfl ?_; clear hS; intro mb w hS; simp only [putW]))
              go_roundg g
              case measure => omega
              case rel => exact ⟨j + 1, bk, bh, by omega, rfl, rfl, by go_num, ⟨ColdIs.stay Hk.out hc.out h0 (fun f hf hw => by
                rcases hw with hw | ⟨-, hw⟩
                · exact of_decide_eq_false (HB1.out f hf).symm hw
                · omega)⟩, hback hS⟩
    | zero =>
      have hjn : nL = j := by omega
      subst hjn
      go_wp2_with (first | (refine load1 hS rfl rfl rfl rfl ?_; simp only [putW]) | (refine loadAll hS rfl rfl rfl ?_ ?_; rfl; simp only [putW]) | (refine loadPart hS rfl rfl rfl ?_ rfl ?_; rfl; simp only [putW]) | (refine store1 hS rfl rfl rfl rfl rfl ?_ ?_; (focus (simp; done)); clear hS; intro w hS; simp only [evW, putW] at hS; try simp only [putW]) | (refine storeAll hS rfl rfl rfl rfl ?_ ?_ ?_ ?_; rfl; (focus (simp [Value.oneCell']; done)); rfl; clear hS; intro w hS; try simp only [putW]) | (refine storeN hS rfl rfl rfl rfl ?_ ?_ ?_ ?_; rfl; (focus (simp [Value.oneCell']; done)); (focus (simp; done)); clear hS; intro w hS; simp at hS; try simp only [putW]) | (refine alloc hS rfl rfl ?_; clear hS; intro mb w hS; simp only [putW]) | (refine box1 hS rfl rfl rfl rfl ?_; clear hS; intro mb w hS; try simp only [evW, putW] at hS; simp only [putW]) | (refine boxN hS rfl rfl rfl ?_; clear hS; intro mb w hS; simp only [putW]))
      refine bodyPost_ret (v := .tuple #[.int .i64 bk, .bool (decide (0 < nL))]) (by simp [results, Try.results33]) rfl ⟨bk, bh, rfl, hc.out, ?_⟩
      exact heatShut (m := m) hS
end
end Go.Proofs.Ytlkoclalcfeniaa
