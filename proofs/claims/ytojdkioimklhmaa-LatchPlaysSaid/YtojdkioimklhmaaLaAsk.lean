/-
  latch: Ask.
-/
import Derived.Test.YtojdkioimklhmaaLaH
import Derived.Deep.CutRange
set_option linter.unusedSimpArgs false
set_option linter.unusedVariables false
namespace Go.Proofs.Ytojdkioimklhmaa
open Go.RowKit Go.Proofs.Ytojdkioimklhmaa.Sl

/-- A latch behind a request. -/
def queued (P : LtP) (task : Int) (al : Bool) : LtP := ⟨P.has, P.alone, P.queue ++ [(task, al)]⟩
def askL (P : LtP) (task : Int) (al : Bool) : Bool × LtP :=
  if P.queue = [] then (match grantP (queued P task al) with
    | some x => (true, x.2)
    | none => (false, queued P task al)) else (false, queued P task al)
/-- What Ask does, where the task may ask. -/
def atKey (PL : PLts) (key : Int) : LtP := (mget PL key).getD lt0P
def mayAsk (PL : PLts) (W : Wts) (task key : Int) : Bool := !(mget W task).isSome && !decide (0 < holdsP PL task key)
section
variable {w0 w : World} {K F S : List Chunk} {a t : Nat} {P : LtP} {PL : PLts} {LL L1 L2 : Lts} {W : Wts} {key task : Int} {al : Bool}
set_option maxRecDepth 100000 in
set_option maxHeartbeats 2000000 in
theorem ask_busy (hm : mayAsk PL W task key = false) (hS : Sat w0 ((t, TabC PL W) :: K) w) : Calls Try.prog 12 #[.pointer (some ⟨t, 0, none⟩), .int .i64 task, .int .i64 key, .bool al] w fun e w' => e = .returned (.tuple #[.bool false, .int .i64 6]) ∧ Sat w0 ((t, TabC PL W) :: K) w' := by
  obtain ⟨LL, lm, wm, ⟨hs, ho⟩, hS1⟩ := tabOpen hS
  clear hS
  have HS : Bx (strip LL = PL ∧ LtOk LL) := ⟨hs, ho⟩
  clear hs ho
  have hS := hS1
  clear hS1
  cases hw : (mget W task).isSome with
  | true =>
    have HW : Bx _ := ⟨hw⟩
    clear hw hm
    go_enter Try.func12, Try.ntmps12
    go_wp2_with (first | (refine lookup2 (enc := encInt) (ve := Value.int .i64) (b := wm) hS rfl rfl task rfl rfl 0 rfl ?_; rw [HW.out]; simp only [putW]) | (refine load1 hS rfl rfl rfl rfl ?_; simp only [putW]) | (refine loadAll hS rfl rfl rfl ?_ ?_; rfl; simp only [putW]) | (refine loadPart hS rfl rfl rfl ?_ rfl ?_; rfl; simp only [putW]) | (refine store1 hS rfl rfl rfl rfl rfl ?_ ?_; (focus (simp; done)); clear hS; intro w hS; simp only [evW, putW] at hS; try simp only [putW]) | (refine storeAll hS rfl rfl rfl rfl ?_ ?_ ?_ ?_; rfl; (focus (simp [Value.oneCell']; done)); rfl; clear hS; intro w hS; try simp only [putW]) | (refine storeN hS rfl rfl rfl rfl ?_ ?_ ?_ ?_; rfl; (focus (simp [Value.oneCell']; done)); (focus (simp; done)); clear hS; intro w hS; simp at hS; try simp only [putW]) | (refine alloc hS rfl rfl ?_; clear hS; intro mb w hS; simp only [putW]) | (refine box1 hS rfl rfl rfl rfl ?_; clear hS; intro mb w hS; try simp only [evW, putW] at hS; simp only [putW]) | (refine boxN hS rfl rfl rfl ?_; clear hS; intro mb w hS; simp only [putW]))
    refine bodyPost_ret (v := .tuple #[.bool false, .int .i64 6]) (by simp [results, Try.results12]) rfl ⟨rfl, tabShut (lm := lm) (wm := wm) HS.out.1 HS.out.2 hS.conv⟩
  | false =>
    have HW : Bx _ := ⟨hw⟩
    have hh : 0 < holdsP PL task key := by
      unfold mayAsk at hm
      rw [hw] at hm
      simpa using hm
    obtain ⟨h, hh2⟩ : ∃ h, holdsP PL task key = h := ⟨_, rfl⟩
    rw [hh2] at hh
    have HH : Bx _ := ⟨hh2⟩
    have dh : decide (0 < h) = true := decide_eq_true hh
    clear hw hm hh2
    go_enter Try.func12, Try.ntmps12
    go_wp2_with (first | (refine lookup2 (enc := encInt) (ve := Value.int .i64) (b := wm) hS rfl rfl task rfl rfl 0 rfl ?_; rw [HW.out]; simp only [putW]) | (guard_target =~ Calls _ 13 _ _ _; refine Stopped.out ?_) | (refine load1 hS rfl rfl rfl rfl ?_; simp only [putW]) | (refine loadAll hS rfl rfl rfl ?_ ?_; rfl; simp only [putW]) | (refine loadPart hS rfl rfl rfl ?_ rfl ?_; rfl; simp only [putW]) | (refine store1 hS rfl rfl rfl rfl rfl ?_ ?_; (focus (simp; done)); clear hS; intro w hS; simp only [evW, putW] at hS; try simp only [putW]) | (refine storeAll hS rfl rfl rfl rfl ?_ ?_ ?_ ?_; rfl; (focus (simp [Value.oneCell']; done)); rfl; clear hS; intro w hS; try simp only [putW]) | (refine storeN hS rfl rfl rfl rfl ?_ ?_ ?_ ?_; rfl; (focus (simp [Value.oneCell']; done)); (focus (simp; done)); clear hS; intro w hS; simp at hS; try simp only [putW]) | (refine alloc hS rfl rfl ?_; clear hS; intro mb w hS; simp only [putW]) | (refine box1 hS rfl rfl rfl rfl ?_; clear hS; intro mb w hS; try simp only [evW, putW] at hS; simp only [putW]) | (refine boxN hS rfl rfl rfl ?_; clear hS; intro mb w hS; simp only [putW]))
    refine ⟨?_⟩
    refine Calls.mono (holds_any (PL := PL) (W := W) (tabShut (F := K) (lm := lm) (wm := wm) HS.out.1 HS.out.2 hS.conv)) ?_
    clear hS
    rintro _ w ⟨rfl, hS⟩
    rw [HH.out]
    simp only [putW]
    go_wp2_with (first | (refine load1 hS rfl rfl rfl rfl ?_; simp only [putW]) | (refine loadAll hS rfl rfl rfl ?_ ?_; rfl; simp only [putW]) | (refine loadPart hS rfl rfl rfl ?_ rfl ?_; rfl; simp only [putW]) | (refine store1 hS rfl rfl rfl rfl rfl ?_ ?_; (focus (simp; done)); clear hS; intro w hS; simp only [evW, putW] at hS; try simp only [putW]) | (refine storeAll hS rfl rfl rfl rfl ?_ ?_ ?_ ?_; rfl; (focus (simp [Value.oneCell']; done)); rfl; clear hS; intro w hS; try simp only [putW]) | (refine storeN hS rfl rfl rfl rfl ?_ ?_ ?_ ?_; rfl; (focus (simp [Value.oneCell']; done)); (focus (simp; done)); clear hS; intro w hS; simp at hS; try simp only [putW]) | (refine alloc hS rfl rfl ?_; clear hS; intro mb w hS; simp only [putW]) | (refine box1 hS rfl rfl rfl rfl ?_; clear hS; intro mb w hS; try simp only [evW, putW] at hS; simp only [putW]) | (refine boxN hS rfl rfl rfl ?_; clear hS; intro mb w hS; simp only [putW]))
    refine bodyPost_ret (v := .tuple #[.bool false, .int .i64 6]) (by simp [results, Try.results12]) rfl ⟨rfl, hS⟩
/-- A place for a latch in the list of them. -/
structure Place (LL : Lts) (key : Int) (L1 L2 : Lts) (a : Nat) : Prop where
  put : ∀ y : LtP, strip (L1 ++ (key, (some a, y)) :: L2) = mput (strip LL) key y
  ok : ∀ y : LtP, LtOk (L1 ++ (key, (some a, y)) :: L2)
theorem Place.there {x : LtP} (ho : LtOk LL) (hg : mget LL key = some (some a, x)) : ∃ L1 L2, LL = L1 ++ (key, (some a, x)) :: L2 ∧ Place LL key L1 L2 a := by
  obtain ⟨L1, L2, hsp, hput⟩ := lt_split hg
  refine ⟨L1, L2, hsp, fun y => by rw [← hput (some a, y), mput_strip], fun y e he => ?_⟩
  rw [hsp] at ho
  rcases List.mem_append.1 he with he | he
  · exact ho e (List.mem_append_left _ he)
  · rcases List.mem_cons.1 he with rfl | he
    · exact ⟨a, rfl⟩
    · exact ho e (List.mem_append_right _ (List.mem_cons_of_mem _ he))
theorem Place.fresh (a : Nat) (ho : LtOk LL) (hg : mget LL key = none) : Place LL key LL [] a := by
  refine ⟨fun y => by rw [← mput_new hg (some a, y), mput_strip], fun y e he => ?_⟩
  rcases List.mem_append.1 he with he | he
  · exact ho e he
  · rw [List.mem_singleton.1 he]
    exact ⟨a, rfl⟩
theorem tabBack {lm wm : Nat} {y : LtP} {y0 : LtP} (hp : Place LL key L1 L2 a) (h : Sat w0 ((a, LtC y) :: (t, cells #[.map (some lm), .map (some wm)] 51) :: (lm, mapC encInt ltV (L1 ++ (key, (some a, y0)) :: L2)) :: (8, ltsC (L1 ++ L2)) :: (wm, mapC encInt (Value.int .i64) W) :: K) w) : Sat w0 ((t, TabC (mput (strip LL) key y) W) :: K) w := by
  have h1 : Sat w0 ((a, LtC y) :: (8, ltsC (L1 ++ L2)) :: (t, cells #[.map (some lm), .map (some wm)] 51) :: (lm, mapC encInt ltV (L1 ++ (key, (some a, y0)) :: L2)) :: (wm, mapC encInt (Value.int .i64) W) :: K) w := h.conv
  have h2 := ltsPush key (some a, y) h1
  have h3 : Sat w0 ((lm, mapC encInt ltV (L1 ++ (key, (some a, y0)) :: L2)) :: (t, cells #[.map (some lm), .map (some wm)] 51) :: (8, ltsC (L1 ++ (key, (some a, y)) :: L2)) :: (wm, mapC encInt (Value.int .i64) W) :: K) w := h2.conv
  have h4 := mapSame' (l' := L1 ++ (key, (some a, y)) :: L2) (by simp [ltV]) (by simp [mkeys]) h3
  exact tabShut (lm := lm) (wm := wm) (hp.put y) (hp.ok y) h4.conv
set_option maxRecDepth 100000 in
set_option maxHeartbeats 4000000 in
theorem ask_any (hm : mayAsk PL W task key = true) (hq : (atKey PL key).queue.length + 1 ≤ 1000000) (hS : Sat w0 ((t, TabC PL W) :: K) w) : Calls Try.prog 12 #[.pointer (some ⟨t, 0, none⟩), .int .i64 task, .int .i64 key, .bool al] w fun e w' => ∃ r l, askL (atKey PL key) task al = (r, l) ∧ e = .returned (.tuple #[.bool r, .int .i64 0]) ∧ Sat w0 ((t, TabC (mput PL key l) (if r then W else mput W task key)) :: K) w' := by
  obtain ⟨LL, lm, wm, ⟨hs, ho⟩, hS1⟩ := tabOpen hS
  clear hS
  have HS : Bx (strip LL = PL ∧ LtOk LL) := ⟨hs, ho⟩
  clear hs ho
  have hS := hS1
  clear hS1
  have hm2 : (mget W task).isSome = false ∧ ¬ 0 < holdsP PL task key := by
    unfold mayAsk at hm
    simpa using hm
  have HW : Bx ((mget W task).isSome = false) := ⟨hm2.1⟩
  obtain ⟨h, hh2⟩ : ∃ h, holdsP PL task key = h := ⟨_, rfl⟩
  have HH : Bx _ := ⟨hh2⟩
  have dh : decide (0 < h) = false := decide_eq_false (by rw [← hh2]; exact hm2.2)
  obtain ⟨P0, hP0⟩ : ∃ P0, atKey PL key = P0 := ⟨_, rfl⟩
  rw [hP0] at hq
  have HP0 : Bx _ := ⟨hP0⟩
  have HQ : Bx _ := ⟨hq⟩
  rw [hP0]
  clear hm hm2 hh2 hP0 hq
  go_enter Try.func12, Try.ntmps12
  go_wp2_with (first | (refine lookup2 (enc := encInt) (ve := Value.int .i64) (b := wm) hS rfl rfl task rfl rfl 0 rfl ?_; rw [HW.out]; simp only [putW]) | (guard_target =~ Calls _ 13 _ _ _; refine Stopped.out ?_) | (refine load1 hS rfl rfl rfl rfl ?_; simp only [putW]) | (refine loadAll hS rfl rfl rfl ?_ ?_; rfl; simp only [putW]) | (refine loadPart hS rfl rfl rfl ?_ rfl ?_; rfl; simp only [putW]) | (refine store1 hS rfl rfl rfl rfl rfl ?_ ?_; (focus (simp; done)); clear hS; intro w hS; simp only [evW, putW] at hS; try simp only [putW]) | (refine storeAll hS rfl rfl rfl rfl ?_ ?_ ?_ ?_; rfl; (focus (simp [Value.oneCell']; done)); rfl; clear hS; intro w hS; try simp only [putW]) | (refine storeN hS rfl rfl rfl rfl ?_ ?_ ?_ ?_; rfl; (focus (simp [Value.oneCell']; done)); (focus (simp; done)); clear hS; intro w hS; simp at hS; try simp only [putW]) | (refine alloc hS rfl rfl ?_; clear hS; intro mb w hS; simp only [putW]) | (refine box1 hS rfl rfl rfl rfl ?_; clear hS; intro mb w hS; try simp only [evW, putW] at hS; simp only [putW]) | (refine boxN hS rfl rfl rfl ?_; clear hS; intro mb w hS; simp only [putW]))
  refine ⟨?_⟩
  refine Calls.mono (holds_any (PL := PL) (W := W) (tabShut (F := K) (lm := lm) (wm := wm) HS.out.1 HS.out.2 hS.conv)) ?_
  clear hS HS
  rintro _ w ⟨rfl, hS1⟩
  rw [HH.out]
  simp only [putW]
  obtain ⟨LL, lm, wm, ⟨hs, ho⟩, hS⟩ := tabOpen hS1
  clear hS1
  have HS : Bx (strip LL = PL) := ⟨hs⟩
  have HO : Bx (LtOk LL) := ⟨ho⟩
  obtain ⟨xo, hxo⟩ : ∃ o, mget LL key = o := ⟨_, rfl⟩
  have HX : Bx _ := ⟨hxo⟩
  obtain ⟨xp, hxp⟩ : ∃ p, (xo.getD lt0).1 = p := ⟨_, rfl⟩
  obtain ⟨xb, hxb⟩ : ∃ b, xo.isSome = b := ⟨_, rfl⟩
  have HG : Bx (ltV ((mget LL key).getD lt0) = .pointer (xp.map fun a => ⟨a, 0, none⟩) ∧ (mget LL key).isSome = xb) := ⟨by rw [hxo]; exact ⟨by rw [← hxp]; rfl, hxb⟩⟩
  have HXP : Bx ((xo.getD lt0).1 = xp ∧ xo.isSome = xb) := ⟨hxp, hxb⟩
  clear hs ho hxo hxp hxb
  go_upto_if 45 with (first | (refine lookup2 (enc := encInt) (ve := ltV) (b := lm) hS rfl rfl key rfl rfl lt0 rfl ?_; rw [HG.out.1, HG.out.2]; simp only [putW]) | (refine load1 hS rfl rfl rfl rfl ?_; simp only [putW]) | (refine loadAll hS rfl rfl rfl ?_ ?_; rfl; simp only [putW]) | (refine loadPart hS rfl rfl rfl ?_ rfl ?_; rfl; simp only [putW]) | (refine store1 hS rfl rfl rfl rfl rfl ?_ ?_; (focus (simp; done)); clear hS; intro w hS; simp only [evW, putW] at hS; try simp only [putW]) | (refine storeAll hS rfl rfl rfl rfl ?_ ?_ ?_ ?_; rfl; (focus (simp [Value.oneCell']; done)); rfl; clear hS; intro w hS; try simp only [putW]) | (refine storeN hS rfl rfl rfl rfl ?_ ?_ ?_ ?_; rfl; (focus (simp [Value.oneCell']; done)); (focus (simp; done)); clear hS; intro w hS; simp at hS; try simp only [putW]) | (refine alloc hS rfl rfl ?_; clear hS; intro mb w hS; simp only [putW]) | (refine box1 hS rfl rfl rfl rfl ?_; clear hS; intro mb w hS; try simp only [evW, putW] at hS; simp only [putW]) | (refine boxN hS rfl rfl rfl ?_; clear hS; intro mb w hS; simp only [putW]))
  go_cut [12] from 45 to 54 (fun v12 wc => ∃ (a : Nat) (L1 L2 : Lts), v12 = .pointer (some ⟨a, 0, none⟩) ∧ Bx (Place LL key L1 L2 a) ∧ Sat w0 ((a, LtC P0) :: (t, cells #[.map (some lm), .map (some wm)] 51) :: (lm, mapC encInt ltV (L1 ++ (key, (some a, P0)) :: L2)) :: (8, ltsC (L1 ++ L2)) :: (wm, mapC encInt (Value.int .i64) W) :: K) wc)
  case first =>
    cases xo with
    | none =>
      have hxp : xp = none := HXP.out.1.symm
      have hxb : xb = false := HXP.out.2.symm
      subst hxp
      subst hxb
      have hp0 : P0 = lt0P := by
        rw [← HP0.out]
        unfold atKey
        rw [← HS.out, mget_strip, HX.out]
        rfl
      subst hp0
      go_wp2_with (first | (guard_target =~ wpList _ _ _ (Oper.mk (some 46) _ _ _ _ _ :: _) _ _; refine Stopped.out ?_) | (refine load1 hS rfl rfl rfl rfl ?_; simp only [putW]) | (refine loadAll hS rfl rfl rfl ?_ ?_; rfl; simp only [putW]) | (refine loadPart hS rfl rfl rfl ?_ rfl ?_; rfl; simp only [putW]) | (refine store1 hS rfl rfl rfl rfl rfl ?_ ?_; (focus (simp; done)); clear hS; intro w hS; simp only [evW, putW] at hS; try simp only [putW]) | (refine storeAll hS rfl rfl rfl rfl ?_ ?_ ?_ ?_; rfl; (focus (simp [Value.oneCell']; done)); rfl; clear hS; intro w hS; try simp only [putW]) | (refine storeN hS rfl rfl rfl rfl ?_ ?_ ?_ ?_; rfl; (focus (simp [Value.oneCell']; done)); (focus (simp; done)); clear hS; intro w hS; simp at hS; try simp only [putW]) | (refine alloc hS rfl rfl ?_; clear hS; intro mb w hS; simp only [putW]) | (refine box1 hS rfl rfl rfl rfl ?_; clear hS; intro mb w hS; try simp only [evW, putW] at hS; simp only [putW]) | (refine boxN hS rfl rfl rfl ?_; clear hS; intro mb w hS; simp only [putW]))
      refine ⟨?_⟩
      refine makeMap hS rfl rfl encInt uV ?_
      clear hS
      intro hb w hS
      simp only [putW]
      go_wp2_with (first | (refine boxN (cs := #[.map (some hb), .bool false, .slice none 0 0]) hS rfl rfl rfl ?_; clear hS; intro a w hS; simp only [putW]) | (refine mapUpdate (b := lm) (enc := encInt) (ve := ltV) (l := LL) hS rfl rfl key (some a, lt0P) rfl rfl rfl ?_; clear hS; intro w hS; try simp only [putW]) | (refine load1 hS rfl rfl rfl rfl ?_; simp only [putW]) | (refine loadAll hS rfl rfl rfl ?_ ?_; rfl; simp only [putW]) | (refine loadPart hS rfl rfl rfl ?_ rfl ?_; rfl; simp only [putW]) | (refine store1 hS rfl rfl rfl rfl rfl ?_ ?_; (focus (simp; done)); clear hS; intro w hS; simp only [evW, putW] at hS; try simp only [putW]) | (refine storeAll hS rfl rfl rfl rfl ?_ ?_ ?_ ?_; rfl; (focus (simp [Value.oneCell']; done)); rfl; clear hS; intro w hS; try simp only [putW]) | (refine storeN hS rfl rfl rfl rfl ?_ ?_ ?_ ?_; rfl; (focus (simp [Value.oneCell']; done)); (focus (simp; done)); clear hS; intro w hS; simp at hS; try simp only [putW]) | (refine alloc hS rfl rfl ?_; clear hS; intro mb w hS; simp only [putW]) | (refine box1 hS rfl rfl rfl rfl ?_; clear hS; intro mb w hS; try simp only [evW, putW] at hS; simp only [putW]) | (refine boxN hS rfl rfl rfl ?_; clear hS; intro mb w hS; simp only [putW]))
      go_meet
      case rel =>
        rw [mput_new HX.out] at hS
        have h1 := qNil hS
        have h2 : Sat w0 ((a, cells #[.map (some hb), .bool false, .slice none 0 0] 58) :: (hb, mapC encInt uV []) :: (blk (.slice none 0 0), qC [] (.slice none 0 0)) :: (t, cells #[.map (some lm), .map (some wm)] 51) :: (lm, mapC encInt ltV (LL ++ [(key, (some a, lt0P))])) :: (8, ltsC LL) :: (wm, mapC encInt (Value.int .i64) W) :: K) _ := h1.conv
        have h3 := ltShut (P := lt0P) h2
        refine ⟨a, LL, [], rfl, ⟨Place.fresh a HO.out HX.out⟩, ?_⟩
        rw [List.append_nil]
        exact h3
    | some x =>
      obtain ⟨xa, P⟩ := x
      have hxp : xp = xa := HXP.out.1.symm
      have hxb : xb = true := HXP.out.2.symm
      subst hxp
      subst hxb
      obtain ⟨a, ha⟩ := HO.out (key, (xp, P)) (mget_mem HX.out)
      have ha' : xp = some a := ha
      subst ha'
      have hp0 : P0 = P := by
        rw [← HP0.out]
        unfold atKey
        rw [← HS.out, mget_strip, HX.out]
        rfl
      subst hp0
      obtain ⟨L1, L2, hsp, hpl⟩ := Place.there HO.out HX.out
      have HPl : Bx _ := ⟨hpl⟩
      have HSp : Bx _ := ⟨hsp⟩
      clear hpl hsp ha
      go_wp2_with (first | (refine load1 hS rfl rfl rfl rfl ?_; simp only [putW]) | (refine loadAll hS rfl rfl rfl ?_ ?_; rfl; simp only [putW]) | (refine loadPart hS rfl rfl rfl ?_ rfl ?_; rfl; simp only [putW]) | (refine store1 hS rfl rfl rfl rfl rfl ?_ ?_; (focus (simp; done)); clear hS; intro w hS; simp only [evW, putW] at hS; try simp only [putW]) | (refine storeAll hS rfl rfl rfl rfl ?_ ?_ ?_ ?_; rfl; (focus (simp [Value.oneCell']; done)); rfl; clear hS; intro w hS; try simp only [putW]) | (refine storeN hS rfl rfl rfl rfl ?_ ?_ ?_ ?_; rfl; (focus (simp [Value.oneCell']; done)); (focus (simp; done)); clear hS; intro w hS; simp at hS; try simp only [putW]) | (refine alloc hS rfl rfl ?_; clear hS; intro mb w hS; simp only [putW]) | (refine box1 hS rfl rfl rfl rfl ?_; clear hS; intro mb w hS; try simp only [evW, putW] at hS; simp only [putW]) | (refine boxN hS rfl rfl rfl ?_; clear hS; intro mb w hS; simp only [putW]))
      go_meet
      case rel =>
        have h1 := hS.pull 8 (X := ltsC LL)
        rw [HSp.out] at h1
        have h2 : Sat w0 ((a, LtC P0) :: (8, ltsC (L1 ++ L2)) :: (t, cells #[.map (some lm), .map (some wm)] 51) :: (lm, mapC encInt ltV (L1 ++ (key, (some a, P0)) :: L2)) :: (wm, mapC encInt (Value.int .i64) W) :: K) _ := ltsPull h1
        exact ⟨a, L1, L2, rfl, HPl, h2.conv⟩
  case rest =>
    clear hS HG HXP HX
    obtain ⟨a, L1, L2, rfl, HPl, hS1⟩ := hcut
    obtain ⟨hb, vq, hS⟩ := ltOpen hS1
    clear hS1
    obtain ⟨nQ, hnQ⟩ : ∃ n, P0.queue.length = n := ⟨_, rfl⟩
    have HnQ : Bx _ := ⟨hnQ⟩
    have HLen : Bx ((P0.queue ++ [(task, al)]).length = nQ + 1) := ⟨by rw [← hnQ]; simp⟩
    have hnQm : nQ + 1 ≤ 1000000 := by rw [← hnQ]; exact HQ.out
    clear hnQ
    have HFold : ∀ {v : Value} {V : Wts} {w' : World}, Sat w0 ((a, cells #[.map (some hb), .bool P0.alone, v] 58) :: (hb, mapC encInt uV P0.has) :: (blk v, qC (P0.queue ++ [(task, al)]) v) :: (t, cells #[.map (some lm), .map (some wm)] 51) :: (lm, mapC encInt ltV (L1 ++ (key, (some a, P0)) :: L2)) :: (8, ltsC (L1 ++ L2)) :: (wm, mapC encInt (Value.int .i64) V) :: K) w' → Sat w0 ((a, LtC (queued P0 task al)) :: (t, cells #[.map (some lm), .map (some wm)] 51) :: (lm, mapC encInt ltV (L1 ++ (key, (some a, P0)) :: L2)) :: (8, ltsC (L1 ++ L2)) :: (wm, mapC encInt (Value.int .i64) V) :: K) w' := fun h => ltShut (P := queued P0 task al) h
    go_upto_region 11 with (first | (refine buildSlice1 (c := rqC (task, al)) hS rfl rfl rfl ?_ ?_ ?_ ?_; rfl; rfl; rfl; clear hS; intro mb w hS; simp only [putW]) | (refine appendQ hS rfl rfl vq rfl rfl (task, al) HQ.out ?_; clear hS; intro v5 w hS; obtain ⟨q5, c5, hv5⟩ := qShape hS HLen.out; subst hv5; simp only [putW]) | (refine load1 hS rfl rfl rfl rfl ?_; simp only [putW]) | (refine loadAll hS rfl rfl rfl ?_ ?_; rfl; simp only [putW]) | (refine loadPart hS rfl rfl rfl ?_ rfl ?_; rfl; simp only [putW]) | (refine store1 hS rfl rfl rfl rfl rfl ?_ ?_; (focus (simp; done)); clear hS; intro w hS; simp only [evW, putW] at hS; try simp only [putW]) | (refine storeAll hS rfl rfl rfl rfl ?_ ?_ ?_ ?_; rfl; (focus (simp [Value.oneCell']; done)); rfl; clear hS; intro w hS; try simp only [putW]) | (refine storeN hS rfl rfl rfl rfl ?_ ?_ ?_ ?_; rfl; (focus (simp [Value.oneCell']; done)); (focus (simp; done)); clear hS; intro w hS; simp at hS; try simp only [putW]) | (refine alloc hS rfl rfl ?_; clear hS; intro mb w hS; simp only [putW]) | (refine box1 hS rfl rfl rfl rfl ?_; clear hS; intro mb w hS; try simp only [evW, putW] at hS; simp only [putW]) | (refine boxN hS rfl rfl rfl ?_; clear hS; intro mb w hS; simp only [putW]))
    by_cases hn0 : nQ = 0
    · subst hn0
      have HNil : Bx (P0.queue = []) := ⟨List.eq_nil_of_length_eq_zero HnQ.out⟩
      go_wp2_with (first | (guard_target =~ Calls _ 23 _ _ _; refine Stopped.out ?_) | (refine load1 hS rfl rfl rfl rfl ?_; simp only [putW]) | (refine loadAll hS rfl rfl rfl ?_ ?_; rfl; simp only [putW]) | (refine loadPart hS rfl rfl rfl ?_ rfl ?_; rfl; simp only [putW]) | (refine store1 hS rfl rfl rfl rfl rfl ?_ ?_; (focus (simp; done)); clear hS; intro w hS; simp only [evW, putW] at hS; try simp only [putW]) | (refine storeAll hS rfl rfl rfl rfl ?_ ?_ ?_ ?_; rfl; (focus (simp [Value.oneCell']; done)); rfl; clear hS; intro w hS; try simp only [putW]) | (refine storeN hS rfl rfl rfl rfl ?_ ?_ ?_ ?_; rfl; (focus (simp [Value.oneCell']; done)); (focus (simp; done)); clear hS; intro w hS; simp at hS; try simp only [putW]) | (refine alloc hS rfl rfl ?_; clear hS; intro mb w hS; simp only [putW]) | (refine box1 hS rfl rfl rfl rfl ?_; clear hS; intro mb w hS; try simp only [evW, putW] at hS; simp only [putW]) | (refine boxN hS rfl rfl rfl ?_; clear hS; intro mb w hS; simp only [putW]))
      refine ⟨?_⟩
      refine Calls.mono (grant_any (P := queued P0 task al) (HFold (v := .slice q5 (0 + 1) c5) (V := W) hS.conv)) ?_
      clear hS
      rintro e w (⟨hgr, rfl, hS⟩ | ⟨k, P', hgr, rfl, hS⟩)
      · have HA : Bx (askL P0 task al = (false, queued P0 task al)) := ⟨by unfold askL; rw [if_pos HNil.out, hgr]⟩
        clear hgr
        simp only [putW]
        go_wp2_with (first | (refine mapUpdate (b := wm) (enc := encInt) (ve := Value.int .i64) (l := W) hS rfl rfl task key rfl rfl rfl ?_; clear hS; intro w hS; try simp only [putW]) | (refine load1 hS rfl rfl rfl rfl ?_; simp only [putW]) | (refine loadAll hS rfl rfl rfl ?_ ?_; rfl; simp only [putW]) | (refine loadPart hS rfl rfl rfl ?_ rfl ?_; rfl; simp only [putW]) | (refine store1 hS rfl rfl rfl rfl rfl ?_ ?_; (focus (simp; done)); clear hS; intro w hS; simp only [evW, putW] at hS; try simp only [putW]) | (refine storeAll hS rfl rfl rfl rfl ?_ ?_ ?_ ?_; rfl; (focus (simp [Value.oneCell']; done)); rfl; clear hS; intro w hS; try simp only [putW]) | (refine storeN hS rfl rfl rfl rfl ?_ ?_ ?_ ?_; rfl; (focus (simp [Value.oneCell']; done)); (focus (simp; done)); clear hS; intro w hS; simp at hS; try simp only [putW]) | (refine alloc hS rfl rfl ?_; clear hS; intro mb w hS; simp only [putW]) | (refine box1 hS rfl rfl rfl rfl ?_; clear hS; intro mb w hS; try simp only [evW, putW] at hS; simp only [putW]) | (refine boxN hS rfl rfl rfl ?_; clear hS; intro mb w hS; simp only [putW]))
        refine bodyPost_ret (v := .tuple #[.bool false, .int .i64 0]) (by simp [results, Try.results12]) rfl ⟨false, _, HA.out, rfl, ?_⟩
        have h1 := tabBack (t := t) (K := K) (y := queued P0 task al) (lm := lm) (wm := wm) (W := mput W task key) (y0 := P0) HPl.out hS.conv
        rw [HS.out] at h1
        exact h1
      · have HA : Bx (askL P0 task al = (true, P')) := ⟨by unfold askL; rw [if_pos HNil.out, hgr]⟩
        clear hgr
        simp only [putW]
        go_wp2_with (first | (refine load1 hS rfl rfl rfl rfl ?_; simp only [putW]) | (refine loadAll hS rfl rfl rfl ?_ ?_; rfl; simp only [putW]) | (refine loadPart hS rfl rfl rfl ?_ rfl ?_; rfl; simp only [putW]) | (refine store1 hS rfl rfl rfl rfl rfl ?_ ?_; (focus (simp; done)); clear hS; intro w hS; simp only [evW, putW] at hS; try simp only [putW]) | (refine storeAll hS rfl rfl rfl rfl ?_ ?_ ?_ ?_; rfl; (focus (simp [Value.oneCell']; done)); rfl; clear hS; intro w hS; try simp only [putW]) | (refine storeN hS rfl rfl rfl rfl ?_ ?_ ?_ ?_; rfl; (focus (simp [Value.oneCell']; done)); (focus (simp; done)); clear hS; intro w hS; simp at hS; try simp only [putW]) | (refine alloc hS rfl rfl ?_; clear hS; intro mb w hS; simp only [putW]) | (refine box1 hS rfl rfl rfl rfl ?_; clear hS; intro mb w hS; try simp only [evW, putW] at hS; simp only [putW]) | (refine boxN hS rfl rfl rfl ?_; clear hS; intro mb w hS; simp only [putW]))
        refine bodyPost_ret (v := .tuple #[.bool true, .int .i64 0]) (by simp [results, Try.results12]) rfl ⟨true, _, HA.out, rfl, ?_⟩
        have h1 := tabBack (lm := lm) (wm := wm) (W := W) (y0 := P0) HPl.out hS
        rw [HS.out] at h1
        exact h1
    · have HNe : Bx (¬ P0.queue = []) := ⟨fun h => hn0 (by rw [← HnQ.out, h]; rfl)⟩
      have HA : Bx (askL P0 task al = (false, queued P0 task al)) := ⟨by unfold askL; rw [if_neg HNe.out]⟩
      have d1 : (((nQ + 1 : Nat) : Int) == 1) = false := by simp; omega
      have d2 : ((nQ : Int) + 1 == 1) = false := by simp; omega
      go_wp2_with (first | (refine mapUpdate (b := wm) (enc := encInt) (ve := Value.int .i64) (l := W) hS rfl rfl task key rfl rfl rfl ?_; clear hS; intro w hS; try simp only [putW]) | (refine load1 hS rfl rfl rfl rfl ?_; simp only [putW]) | (refine loadAll hS rfl rfl rfl ?_ ?_; rfl; simp only [putW]) | (refine loadPart hS rfl rfl rfl ?_ rfl ?_; rfl; simp only [putW]) | (refine store1 hS rfl rfl rfl rfl rfl ?_ ?_; (focus (simp; done)); clear hS; intro w hS; simp only [evW, putW] at hS; try simp only [putW]) | (refine storeAll hS rfl rfl rfl rfl ?_ ?_ ?_ ?_; rfl; (focus (simp [Value.oneCell']; done)); rfl; clear hS; intro w hS; try simp only [putW]) | (refine storeN hS rfl rfl rfl rfl ?_ ?_ ?_ ?_; rfl; (focus (simp [Value.oneCell']; done)); (focus (simp; done)); clear hS; intro w hS; simp at hS; try simp only [putW]) | (refine alloc hS rfl rfl ?_; clear hS; intro mb w hS; simp only [putW]) | (refine box1 hS rfl rfl rfl rfl ?_; clear hS; intro mb w hS; try simp only [evW, putW] at hS; simp only [putW]) | (refine boxN hS rfl rfl rfl ?_; clear hS; intro mb w hS; simp only [putW]))
      refine bodyPost_ret (v := .tuple #[.bool false, .int .i64 0]) (by simp [results, Try.results12]) rfl ⟨false, _, HA.out, rfl, ?_⟩
      have h0 := HFold (v := .slice q5 (nQ + 1) c5) (V := mput W task key) hS.conv
      have h1 := tabBack (lm := lm) (wm := wm) (W := mput W task key) (y0 := P0) HPl.out h0
      rw [HS.out] at h1
      exact h1
end
end Go.Proofs.Ytojdkioimklhmaa
