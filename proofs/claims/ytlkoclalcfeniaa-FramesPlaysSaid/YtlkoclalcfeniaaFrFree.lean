/-
  frames: Free (maps.DeleteFunc with its closure), Drop.
-/
import Derived.Test.YtlkoclalcfeniaaFrPin
set_option linter.unusedSimpArgs false
set_option linter.unusedVariables false
namespace Go.Proofs.Ytlkoclalcfeniaa
open Go.RowKit Go.Proofs.Ytlkoclalcfeniaa.Sl Go.Proofs.Ytlkoclalcfeniaa.Jp

instance tyEmpty : Ty Try.prog 73 true 0 (.agg #[]) #[] := Ty.mk' (by kernel_rfl) rfl rfl
section
variable {w0 w : World} {K F S : List Chunk} {t j b tb pm : Nat} {T : Tb} {FL FL1 FL2 : Frs} {PL : PinsW} {SL : Shs} {now : Nat} {sp : Spots} {key task : Int}
set_option maxHeartbeats 1000000 in
theorem free1_any {x y : Int} (hS : Sat w0 ((tb, cells #[.int .i64 task] 3) :: K) w) : Calls Try.prog 36 #[.agg #[.int .i64 x, .int .i64 y], .agg #[], .pointer (some ⟨tb, 0, none⟩)] w fun e w' => e = .returned (.bool (decide (x = task))) ∧ Sat w0 ((tb, cells #[.int .i64 task] 3) :: K) w' := by
  go_enter Try.func36, Try.ntmps36
  go_wp2_with (first | (refine load1 hS rfl rfl rfl rfl ?_; simp only [putW]) | (refine loadAll hS rfl rfl rfl ?_ ?_; rfl; simp only [putW]) | (refine loadPart hS rfl rfl rfl ?_ rfl ?_; rfl; simp only [putW]) | (refine store1 hS rfl rfl rfl rfl rfl ?_ ?_; (focus (simp; done)); clear hS; intro w hS; simp only [evW, putW] at hS; try simp only [putW]) | (refine storeAll hS rfl rfl rfl rfl ?_ ?_ ?_ ?_; rfl; (focus (simp [Value.oneCell']; done)); rfl; clear hS; intro w hS; try simp only [putW]) | (refine storeN hS rfl rfl rfl rfl ?_ ?_ ?_ ?_; rfl; (focus (simp [Value.oneCell']; done)); (focus (simp; done)); clear hS; intro w hS; simp at hS; try simp only [putW]) | (refine alloc hS rfl rfl ?_; clear hS; intro mb w hS; simp only [putW]) | (refine box1 hS rfl rfl rfl rfl ?_; clear hS; intro mb w hS; try simp only [evW, putW] at hS; simp only [putW]) | (refine boxN hS rfl rfl rfl ?_; clear hS; intro mb w hS; simp only [putW]))
  go_ret
  exact ⟨rfl, hS.conv⟩
/-- What is in the map as long as 'left' is to be looked at. -/
def Gone (PL l left : PinsW) (task : Int) : Prop := (mkeys l).length + 0 ≤ (mkeys PL).length ∧ ∀ p, p ∈ mkeys l ↔ p ∈ mkeys PL ∧ (p ∈ mkeys left ∨ p.1.1 ≠ task)
theorem Gone.start (PL : PinsW) (task : Int) : Gone PL PL PL task := ⟨Nat.le_refl _, fun p => ⟨fun h => ⟨h, .inl h⟩, fun h => h.1⟩⟩
theorem mem_mid {L1 L2 : PinsW} {kk : PinW} {u : Unit} {p : PinW} : p ∈ mkeys (L1 ++ (kk, u) :: L2) ↔ p = kk ∨ p ∈ mkeys (L1 ++ L2) := by
  unfold mkeys
  simp only [List.map_append, List.map_cons, List.mem_append, List.mem_cons]
  constructor
  · rintro (h | h | h)
    · exact .inr (.inl h)
    · exact .inl h
    · exact .inr (.inr h)
  · rintro (h | h | h)
    · exact .inr (.inl h)
    · exact .inl h
    · exact .inr (.inr h)
theorem Gone.hit {l L1 L2 : PinsW} {kk : PinW} {u : Unit} (h : Gone PL l (L1 ++ (kk, u) :: L2) task) (hk : kk.1.1 = task) (hn : kk ∉ mkeys (L1 ++ L2)) : Gone PL (mdel l kk) (L1 ++ L2) task := by
  refine ⟨?_, fun p => ?_⟩
  · rw [mkeys_mdel]
    exact Nat.le_trans (List.length_filter_le _ _) h.1
  · rw [mkeys_mdel, List.mem_filter, h.2 p, mem_mid]
    constructor
    · rintro ⟨⟨h1, h2⟩, h3⟩
      have h4 : p ≠ kk := by simpa using h3
      refine ⟨h1, ?_⟩
      rcases h2 with (h2 | h2) | h2
      · exact absurd h2 h4
      · exact .inl h2
      · exact .inr h2
    · rintro ⟨h1, h2⟩
      have h4 : p ≠ kk := by
        rcases h2 with h2 | h2
        · exact fun e => hn (e ▸ h2)
        · exact fun e => h2 (by rw [e]; exact hk)
      refine ⟨⟨h1, ?_⟩, by simpa using h4⟩
      rcases h2 with h2 | h2
      · exact .inl (.inr h2)
      · exact .inr h2
theorem Gone.miss {l L1 L2 : PinsW} {kk : PinW} {u : Unit} (h : Gone PL l (L1 ++ (kk, u) :: L2) task) (hk : kk.1.1 ≠ task) : Gone PL l (L1 ++ L2) task := by
  refine ⟨h.1, fun p => ?_⟩
  rw [h.2 p, mem_mid]
  constructor
  · rintro ⟨h1, h2⟩
    refine ⟨h1, ?_⟩
    rcases h2 with (h2 | h2) | h2
    · exact .inr (by rw [h2]; exact hk)
    · exact .inl h2
    · exact .inr h2
  · rintro ⟨h1, h2⟩
    refine ⟨h1, ?_⟩
    rcases h2 with h2 | h2
    · exact .inl (.inr h2)
    · exact .inr h2
set_option maxRecDepth 100000 in
set_option maxHeartbeats 2000000 in
theorem deleteFunc_any (hS : Sat w0 ((pm, mapC encW uV PL) :: (tb, cells #[.int .i64 task] 3) :: K) w) : Calls Try.prog 35 #[.map (some pm), .func (.func 36) #[] #[.pointer (some ⟨tb, 0, none⟩)]] w fun e w' => ∃ PL2, e = .returned (.tuple #[]) ∧ Gone PL PL2 [] task ∧ Sat w0 ((pm, mapC encW uV PL2) :: (tb, cells #[.int .i64 task] 3) :: K) w' := by
  obtain ⟨n, hn⟩ : ∃ n, PL.length = n := ⟨_, rfl⟩
  have Hn : Bx _ := ⟨hn⟩
  clear hn
  go_enter Try.func35, Try.ntmps35
  go_wp2_with (first | (guard_target =~ wpList _ _ _ (Oper.mk (some 7) _ _ _ _ _ :: _) _ _; refine Stopped.out ?_) | (refine load1 hS rfl rfl rfl rfl ?_; simp only [putW]) | (refine loadAll hS rfl rfl rfl ?_ ?_; rfl; simp only [putW]) | (refine loadPart hS rfl rfl rfl ?_ rfl ?_; rfl; simp only [putW]) | (refine store1 hS rfl rfl rfl rfl rfl ?_ ?_; (focus (simp; done)); clear hS; intro w hS; simp only [evW, putW] at hS; try simp only [putW]) | (refine storeAll hS rfl rfl rfl rfl ?_ ?_ ?_ ?_; rfl; (focus (simp [Value.oneCell']; done)); rfl; clear hS; intro w hS; try simp only [putW]) | (refine storeN hS rfl rfl rfl rfl ?_ ?_ ?_ ?_; rfl; (focus (simp [Value.oneCell']; done)); (focus (simp; done)); clear hS; intro w hS; simp at hS; try simp only [putW]) | (refine alloc hS rfl rfl ?_; clear hS; intro mb w hS; simp only [putW]) | (refine box1 hS rfl rfl rfl rfl ?_; clear hS; intro mb w hS; try simp only [evW, putW] at hS; simp only [putW]) | (refine boxN hS rfl rfl rfl ?_; clear hS; intro mb w hS; simp only [putW]))
  refine ⟨?_⟩
  refine rangeMap (b := pm) (enc := encW) (ve := uV) (l := PL) hS rfl rfl rfl ?_
  clear hS
  intro r w hS
  simp only [putW]
  go_wp2_with (first | (refine load1 hS rfl rfl rfl rfl ?_; simp only [putW]) | (refine loadAll hS rfl rfl rfl ?_ ?_; rfl; simp only [putW]) | (refine loadPart hS rfl rfl rfl ?_ rfl ?_; rfl; simp only [putW]) | (refine store1 hS rfl rfl rfl rfl rfl ?_ ?_; (focus (simp; done)); clear hS; intro w hS; simp only [evW, putW] at hS; try simp only [putW]) | (refine storeAll hS rfl rfl rfl rfl ?_ ?_ ?_ ?_; rfl; (focus (simp [Value.oneCell']; done)); rfl; clear hS; intro w hS; try simp only [putW]) | (refine storeN hS rfl rfl rfl rfl ?_ ?_ ?_ ?_; rfl; (focus (simp [Value.oneCell']; done)); (focus (simp; done)); clear hS; intro w hS; simp at hS; try simp only [putW]) | (refine alloc hS rfl rfl ?_; clear hS; intro mb w hS; simp only [putW]) | (refine box1 hS rfl rfl rfl rfl ?_; clear hS; intro mb w hS; try simp only [evW, putW] at hS; simp only [putW]) | (refine boxN hS rfl rfl rfl ?_; clear hS; intro mb w hS; simp only [putW]))
  go_loopg [] n (fun g wr => ∃ l left cur, left.length = g ∧ Bx (Gone PL l left task) ∧ Sat w0 ((r, itC encW uV pm l left cur) :: (tb, cells #[.int .i64 task] 3) :: K) wr)
  case atStart => exact ⟨PL, PL, none, Hn.out, ⟨Gone.start PL task⟩, hS.conv⟩
  case round =>
    clear hS
    obtain ⟨l, left, cur, hlen, hg, hS⟩ := hrel
    go_wp2_with (first | (guard_target =~ wpList _ _ _ (Oper.mk (some 8) _ _ _ _ _ :: _) _ _; refine Stopped.out ?_) | (refine load1 hS rfl rfl rfl rfl ?_; simp only [putW]) | (refine loadAll hS rfl rfl rfl ?_ ?_; rfl; simp only [putW]) | (refine loadPart hS rfl rfl rfl ?_ rfl ?_; rfl; simp only [putW]) | (refine store1 hS rfl rfl rfl rfl rfl ?_ ?_; (focus (simp; done)); clear hS; intro w hS; simp only [evW, putW] at hS; try simp only [putW]) | (refine storeAll hS rfl rfl rfl rfl ?_ ?_ ?_ ?_; rfl; (focus (simp [Value.oneCell']; done)); rfl; clear hS; intro w hS; try simp only [putW]) | (refine storeN hS rfl rfl rfl rfl ?_ ?_ ?_ ?_; rfl; (focus (simp [Value.oneCell']; done)); (focus (simp; done)); clear hS; intro w hS; simp at hS; try simp only [putW]) | (refine alloc hS rfl rfl ?_; clear hS; intro mb w hS; simp only [putW]) | (refine box1 hS rfl rfl rfl rfl ?_; clear hS; intro mb w hS; try simp only [evW, putW] at hS; simp only [putW]) | (refine boxN hS rfl rfl rfl ?_; clear hS; intro mb w hS; simp only [putW]))
    refine ⟨?_⟩
    refine nextMap (r := r) (b := pm) (enc := encW) (ve := uV) (l := l) (left := left) (cur := cur) hS rfl rfl rfl ?_ ?_
    · intro hnil
      have hres : Bx (Gone PL l [] task) := ⟨by have := hg.out; rw [hnil] at this; exact this⟩
      clear hnil hg
      simp only [putW]
      go_wp2_with (first | (refine load1 hS rfl rfl rfl rfl ?_; simp only [putW]) | (refine loadAll hS rfl rfl rfl ?_ ?_; rfl; simp only [putW]) | (refine loadPart hS rfl rfl rfl ?_ rfl ?_; rfl; simp only [putW]) | (refine store1 hS rfl rfl rfl rfl rfl ?_ ?_; (focus (simp; done)); clear hS; intro w hS; simp only [evW, putW] at hS; try simp only [putW]) | (refine storeAll hS rfl rfl rfl rfl ?_ ?_ ?_ ?_; rfl; (focus (simp [Value.oneCell']; done)); rfl; clear hS; intro w hS; try simp only [putW]) | (refine storeN hS rfl rfl rfl rfl ?_ ?_ ?_ ?_; rfl; (focus (simp [Value.oneCell']; done)); (focus (simp; done)); clear hS; intro w hS; simp at hS; try simp only [putW]) | (refine alloc hS rfl rfl ?_; clear hS; intro mb w hS; simp only [putW]) | (refine box1 hS rfl rfl rfl rfl ?_; clear hS; intro mb w hS; try simp only [evW, putW] at hS; simp only [putW]) | (refine boxN hS rfl rfl rfl ?_; clear hS; intro mb w hS; simp only [putW]))
      go_end0
      exact ⟨l, rfl, hres.out, (hS.itDone (r := r) (b := pm)).conv⟩
    · intro L1 kk u L2 w' hsp hmem hnk hS'
      clear hS
      have hS := hS'
      clear hS' hmem
      have hlen2 : (L1 ++ L2).length + 1 = gk := by rw [← hlen, hsp]; simp; omega
      have hg2 : Bx (Gone PL l (L1 ++ (kk, u) :: L2) task) := ⟨by have := hg.out; rw [hsp] at this; exact this⟩
      have Hnk : Bx _ := ⟨hnk⟩
      clear hsp hlen hg hnk
      obtain ⟨x, hx⟩ : ∃ x, kk.1.1 = x := ⟨_, rfl⟩
      obtain ⟨y, hy⟩ : ∃ y, kk.1.2 = y := ⟨_, rfl⟩
      have henc : encW kk = .agg #[.int .i64 x, .int .i64 y] := by rw [← hx, ← hy]; rfl
      have Henc : Bx _ := ⟨henc⟩
      have Hx : Bx _ := ⟨hx⟩
      clear hx hy henc
      simp only [putW]
      go_wp2_with (first | (refine entryMap (r := r) (b := pm) (enc := encW) (ve := uV) (l := l) hS rfl rfl rfl ?_; rw [Henc.out]; simp only [putW, uV]) | (refine alloc (t := 75) hS rfl rfl ?_; clear hS; intro mp w hS; simp only [putW]) | (refine alloc (t := 73) hS rfl rfl ?_; clear hS; intro me w hS; simp only [putW]) | (refine storeAll (t := 75) (cs := #[.int .i64 x, .int .i64 y]) hS rfl rfl rfl rfl ?_ ?_ ?_ ?_; (focus rfl); (focus (simp [Value.oneCell']; done)); (focus rfl); clear hS; intro w hS; try simp only [putW]) | (guard_target =~ Calls _ 36 _ _ _; refine Stopped.out ?_) | (refine load1 hS rfl rfl rfl rfl ?_; simp only [putW]) | (refine loadAll hS rfl rfl rfl ?_ ?_; rfl; simp only [putW]) | (refine loadPart hS rfl rfl rfl ?_ rfl ?_; rfl; simp only [putW]) | (refine store1 hS rfl rfl rfl rfl rfl ?_ ?_; (focus (simp; done)); clear hS; intro w hS; simp only [evW, putW] at hS; try simp only [putW]) | (refine storeAll hS rfl rfl rfl rfl ?_ ?_ ?_ ?_; rfl; (focus (simp [Value.oneCell']; done)); rfl; clear hS; intro w hS; try simp only [putW]) | (refine storeN hS rfl rfl rfl rfl ?_ ?_ ?_ ?_; rfl; (focus (simp [Value.oneCell']; done)); (focus (simp; done)); clear hS; intro w hS; simp at hS; try simp only [putW]) | (refine alloc hS rfl rfl ?_; clear hS; intro mb w hS; simp only [putW]) | (refine box1 hS rfl rfl rfl rfl ?_; clear hS; intro mb w hS; try simp only [evW, putW] at hS; simp only [putW]) | (refine boxN hS rfl rfl rfl ?_; clear hS; intro mb w hS; simp only [putW]))
      refine ⟨?_⟩
      refine Calls.mono (free1_any (task := task) (hS.conv (S' := (tb, cells #[.int .i64 task] 3) :: (mp, cells #[.int .i64 x, .int .i64 y] 75) :: (r, itC encW uV pm l (L1 ++ L2) (some (kk, u))) :: K))) ?_
      clear hS
      rintro _ w ⟨rfl, hS⟩
      simp only [putW]
      by_cases hxt : x = task
      · have Hit : Bx (Gone PL (mdel l kk) (L1 ++ L2) task) := ⟨hg2.out.hit (Hx.out.trans hxt) Hnk.out⟩
        have hd : decide (x = task) = true := decide_eq_true hxt
        have Hxt : Bx _ := ⟨hxt⟩
        clear hxt
        rw [hd]
        clear hd
        go_wp2_with (first | (guard_target =~ wpList _ _ _ (Oper.mk (some 18) _ _ _ _ _ :: _) _ _; refine Stopped.out ?_) | (refine load1 hS rfl rfl rfl rfl ?_; simp only [putW]) | (refine loadAll hS rfl rfl rfl ?_ ?_; rfl; simp only [putW]) | (refine loadPart hS rfl rfl rfl ?_ rfl ?_; rfl; simp only [putW]) | (refine store1 hS rfl rfl rfl rfl rfl ?_ ?_; (focus (simp; done)); clear hS; intro w hS; simp only [evW, putW] at hS; try simp only [putW]) | (refine storeAll hS rfl rfl rfl rfl ?_ ?_ ?_ ?_; rfl; (focus (simp [Value.oneCell']; done)); rfl; clear hS; intro w hS; try simp only [putW]) | (refine storeN hS rfl rfl rfl rfl ?_ ?_ ?_ ?_; rfl; (focus (simp [Value.oneCell']; done)); (focus (simp; done)); clear hS; intro w hS; simp at hS; try simp only [putW]) | (refine alloc hS rfl rfl ?_; clear hS; intro mb w hS; simp only [putW]) | (refine box1 hS rfl rfl rfl rfl ?_; clear hS; intro mb w hS; try simp only [evW, putW] at hS; simp only [putW]) | (refine boxN hS rfl rfl rfl ?_; clear hS; intro mb w hS; simp only [putW]))
        refine ⟨?_⟩
        go_wp2_with (first | (refine deleteIt (r := r) (b := pm) (enc := encW) (ve := uV) (l := l) (left := L1 ++ L2) (key := kk) (v := u) encW_inj Hnk.out hS rfl rfl rfl (by exact Henc.out.symm) ?_; clear hS; intro w hS; simp only [putW]) | (refine load1 hS rfl rfl rfl rfl ?_; simp only [putW]) | (refine loadAll hS rfl rfl rfl ?_ ?_; rfl; simp only [putW]) | (refine loadPart hS rfl rfl rfl ?_ rfl ?_; rfl; simp only [putW]) | (refine store1 hS rfl rfl rfl rfl rfl ?_ ?_; (focus (simp; done)); clear hS; intro w hS; simp only [evW, putW] at hS; try simp only [putW]) | (refine storeAll hS rfl rfl rfl rfl ?_ ?_ ?_ ?_; rfl; (focus (simp [Value.oneCell']; done)); rfl; clear hS; intro w hS; try simp only [putW]) | (refine storeN hS rfl rfl rfl rfl ?_ ?_ ?_ ?_; rfl; (focus (simp [Value.oneCell']; done)); (focus (simp; done)); clear hS; intro w hS; simp at hS; try simp only [putW]) | (refine alloc hS rfl rfl ?_; clear hS; intro mb w hS; simp only [putW]) | (refine box1 hS rfl rfl rfl rfl ?_; clear hS; intro mb w hS; try simp only [evW, putW] at hS; simp only [putW]) | (refine boxN hS rfl rfl rfl ?_; clear hS; intro mb w hS; simp only [putW]))
        go_roundg ((L1 ++ L2).length)
        case measure => omega
        case rel => exact ⟨mdel l kk, L1 ++ L2, none, rfl, Hit, hS.conv⟩
      · have Miss : Bx (Gone PL l (L1 ++ L2) task) := ⟨hg2.out.miss (by rw [Hx.out]; exact hxt)⟩
        have hd : decide (x = task) = false := decide_eq_false hxt
        rw [hd]
        clear hd hxt
        go_wp2_with (first | (refine load1 hS rfl rfl rfl rfl ?_; simp only [putW]) | (refine loadAll hS rfl rfl rfl ?_ ?_; rfl; simp only [putW]) | (refine loadPart hS rfl rfl rfl ?_ rfl ?_; rfl; simp only [putW]) | (refine store1 hS rfl rfl rfl rfl rfl ?_ ?_; (focus (simp; done)); clear hS; intro w hS; simp only [evW, putW] at hS; try simp only [putW]) | (refine storeAll hS rfl rfl rfl rfl ?_ ?_ ?_ ?_; rfl; (focus (simp [Value.oneCell']; done)); rfl; clear hS; intro w hS; try simp only [putW]) | (refine storeN hS rfl rfl rfl rfl ?_ ?_ ?_ ?_; rfl; (focus (simp [Value.oneCell']; done)); (focus (simp; done)); clear hS; intro w hS; simp at hS; try simp only [putW]) | (refine alloc hS rfl rfl ?_; clear hS; intro mb w hS; simp only [putW]) | (refine box1 hS rfl rfl rfl rfl ?_; clear hS; intro mb w hS; try simp only [evW, putW] at hS; simp only [putW]) | (refine boxN hS rfl rfl rfl ?_; clear hS; intro mb w hS; simp only [putW]))
        go_roundg ((L1 ++ L2).length)
        case measure => omega
        case rel => exact ⟨l, L1 ++ L2, some (kk, u), rfl, Miss, hS.conv⟩
end
end Go.Proofs.Ytlkoclalcfeniaa
