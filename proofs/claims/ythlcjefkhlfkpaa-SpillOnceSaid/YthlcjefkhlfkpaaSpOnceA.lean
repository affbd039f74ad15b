/-
  SpillOnce: the walk, no more than 200 acts. (Printed by mkonce.py.)
-/
import Derived.Test.YthlcjefkhlfkpaaSpOnceP
import Derived.Deep.CutRange
import Derived.Deep.CutBlock
set_option linter.unusedSimpArgs false
set_option linter.unusedVariables false
namespace Go.Proofs.Ythlcjefkhlfkpaa.SpillOnceDone
open Go.RowKit Go.Proofs.Ythlcjefkhlfkpaa Go.Proofs.Ythlcjefkhlfkpaa.Sl

/-- An act. -/
structure AcA where
  kind : Int
  page : Int
  x : En
def AcA.l (s : AcA) : List Value := [.int .i64 s.kind, .int .i64 s.page, .int .u32 s.x.ep, .int .u32 s.x.bo, .int .u64 s.x.sq]
section
variable {w0 : World}
set_option maxRecDepth 100000 in
set_option maxHeartbeats 8000000 in
theorem coreA (n0 : Int) {L : List AcA} {N la : Nat} {pa : Option Addr} {ca : Nat} (hL : L.length = la) (hla : la ≤ 9223372036854775807) (hat : L ≠ [] → ∃ b off, pa = some ⟨b, off, none⟩ ∧ BAt w0 5 AcA.l (fun s => wI s.page) L b off) (hN : N ≤ la) (hN2 : N ≤ 200) (d1 : la ≤ N) :
    Calls Try.prog 5 #[.int .i64 n0, .slice pa la ca] w0 fun e w' => e = .returned (.bool true) ∧ Sat w0 [] w' := by
  have hS := Sat.refl w0
  have HL : Bx _ := ⟨hL⟩
  have HAT : Bx _ := ⟨hat⟩
  clear hL hat
  go_enter Try.func5, Try.ntmps5
  go_wp2_with (first | (guard_target =~ Calls _ 10 _ _ _; refine Stopped.out ?_) | (refine load1 hS rfl rfl rfl rfl ?_; simp only [putW]) | (refine loadAll hS rfl rfl rfl ?_ ?_; rfl; simp only [putW]) | (refine loadPart hS rfl rfl rfl ?_ rfl ?_; rfl; simp only [putW]) | (refine store1 hS rfl rfl rfl rfl rfl ?_ ?_; (focus (simp; done)); clear hS; intro w hS; simp only [evW, putW] at hS; try simp only [putW]) | (refine storeAll hS rfl rfl rfl rfl ?_ ?_ ?_ ?_; rfl; (focus (simp [Value.oneCell']; done)); rfl; clear hS; intro w hS; try simp only [putW]) | (refine storeN hS rfl rfl rfl rfl ?_ ?_ ?_ ?_; rfl; (focus (simp [Value.oneCell']; done)); (focus (simp; done)); clear hS; intro w hS; simp at hS; try simp only [putW]) | (refine alloc hS rfl rfl ?_; clear hS; intro mb w hS; simp only [putW]) | (refine box1 hS rfl rfl rfl rfl ?_; clear hS; intro mb w hS; try simp only [evW, putW] at hS; simp only [putW]) | (refine boxN hS rfl rfl rfl ?_; clear hS; intro mb w hS; simp only [putW]))
  refine ⟨?_⟩
  refine Calls.mono (pick_sat n0 256 (by omega) (by omega) hS) ?_
  clear hS
  rintro _ w ⟨rfl, hS⟩
  obtain ⟨m, hm, hm8⟩ : ∃ m : Nat, n0 % 256 = m ∧ m ≤ 255 := ⟨(n0 % 256).toNat, by omega, by omega⟩
  rw [hm]
  clear hm
  simp only [putW]
  go_wp2_with (first | (guard_target =~ Calls _ 7 _ _ _; refine Stopped.out ?_) | (refine load1 hS rfl rfl rfl rfl ?_; simp only [putW]) | (refine loadAll hS rfl rfl rfl ?_ ?_; rfl; simp only [putW]) | (refine loadPart hS rfl rfl rfl ?_ rfl ?_; rfl; simp only [putW]) | (refine store1 hS rfl rfl rfl rfl rfl ?_ ?_; (focus (simp; done)); clear hS; intro w hS; simp only [evW, putW] at hS; try simp only [putW]) | (refine storeAll hS rfl rfl rfl rfl ?_ ?_ ?_ ?_; rfl; (focus (simp [Value.oneCell']; done)); rfl; clear hS; intro w hS; try simp only [putW]) | (refine storeN hS rfl rfl rfl rfl ?_ ?_ ?_ ?_; rfl; (focus (simp [Value.oneCell']; done)); (focus (simp; done)); clear hS; intro w hS; simp at hS; try simp only [putW]) | (refine alloc hS rfl rfl ?_; clear hS; intro mb w hS; simp only [putW]) | (refine box1 hS rfl rfl rfl rfl ?_; clear hS; intro mb w hS; try simp only [evW, putW] at hS; simp only [putW]) | (refine boxN hS rfl rfl rfl ?_; clear hS; intro mb w hS; simp only [putW]))
  refine ⟨?_⟩
  obtain ⟨nn, hnn⟩ : ∃ nn : Nat, 1 + (m : Int) = nn := ⟨1 + m, by omega⟩
  rw [hnn]
  have h1 : 1 ≤ nn := by omega
  have h9 : nn ≤ 256 := by omega
  clear hnn hm8
  refine Calls.mono (new_any nn hS h1 h9) ?_
  clear hS
  rintro _ w ⟨bs, rfl, hS⟩
  simp only [putW]
  go_wp2_with (first | (refine load1 hS rfl rfl rfl rfl ?_; simp only [putW]) | (refine loadAll hS rfl rfl rfl ?_ ?_; rfl; simp only [putW]) | (refine loadPart hS rfl rfl rfl ?_ rfl ?_; rfl; simp only [putW]) | (refine store1 hS rfl rfl rfl rfl rfl ?_ ?_; (focus (simp; done)); clear hS; intro w hS; simp only [evW, putW] at hS; try simp only [putW]) | (refine storeAll hS rfl rfl rfl rfl ?_ ?_ ?_ ?_; rfl; (focus (simp [Value.oneCell']; done)); rfl; clear hS; intro w hS; try simp only [putW]) | (refine storeN hS rfl rfl rfl rfl ?_ ?_ ?_ ?_; rfl; (focus (simp [Value.oneCell']; done)); (focus (simp; done)); clear hS; intro w hS; simp at hS; try simp only [putW]) | (refine alloc hS rfl rfl ?_; clear hS; intro mb w hS; simp only [putW]) | (refine box1 hS rfl rfl rfl rfl ?_; clear hS; intro mb w hS; try simp only [evW, putW] at hS; simp only [putW]) | (refine boxN hS rfl rfl rfl ?_; clear hS; intro mb w hS; simp only [putW]))
  go_loopg [7] N (fun g i wr => ∃ (k : Nat) (fl : List Bool) (m : List (Int × (Nat × En))) (R : List Rs), k + g = N ∧ i = .int .i64 k ∧ Bx (Tie nn fl m R ∧ ∀ y ∈ mkeys m, wI y) ∧ Sat w0 ((bs, SlotsC nn fl m) :: []) wr)
  case atStart => exact ⟨0, _, _, _, by omega, rfl, ⟨Tie.start nn, fun y hy => by cases hy⟩, hS.conv⟩
  case round =>
    clear hS
    obtain ⟨k, fl, m, R, hkg, rfl, HT, hS⟩ := hrel
    cases gk with
    | zero =>
      have hkN : k = N := by omega
      subst hkN
      clear hkg
      have e1 : decide ((k : Int) < (la : Int)) = false := decide_eq_false (by omega)
      go_wp2_with (first | (go_at_call 9; refine Calls.mono (awake_any hS) ?_; clear hS; rintro _ w ⟨rfl, hS⟩; simp only [putW]) | (refine load1 hS rfl rfl rfl rfl ?_; simp only [putW]) | (refine loadAll hS rfl rfl rfl ?_ ?_; rfl; simp only [putW]) | (refine loadPart hS rfl rfl rfl ?_ rfl ?_; rfl; simp only [putW]) | (refine store1 hS rfl rfl rfl rfl rfl ?_ ?_; (focus (simp; done)); clear hS; intro w hS; simp only [evW, putW] at hS; try simp only [putW]) | (refine storeAll hS rfl rfl rfl rfl ?_ ?_ ?_ ?_; rfl; (focus (simp [Value.oneCell']; done)); rfl; clear hS; intro w hS; try simp only [putW]) | (refine storeN hS rfl rfl rfl rfl ?_ ?_ ?_ ?_; rfl; (focus (simp [Value.oneCell']; done)); (focus (simp; done)); clear hS; intro w hS; simp at hS; try simp only [putW]) | (refine alloc hS rfl rfl ?_; clear hS; intro mb w hS; simp only [putW]) | (refine box1 hS rfl rfl rfl rfl ?_; clear hS; intro mb w hS; try simp only [evW, putW] at hS; simp only [putW]) | (refine boxN hS rfl rfl rfl ?_; clear hS; intro mb w hS; simp only [putW]))
      go_ret
      exact ⟨rfl, hS.nothing⟩
    | succ g =>
      have hkN : k < N := by omega
      have hkla : k < la := by omega
      have hk200 : k < 200 := by omega
      have e1 : decide ((k : Int) < (la : Int)) = true := decide_eq_true (by omega)
      have e2 : decide ((k : Int) < 200) = true := decide_eq_true (by omega)
      obtain ⟨ac, hx⟩ : ∃ y, L[k]? = some y := ⟨_, List.getElem?_eq_getElem (by rw [HL.out]; exact hkla)⟩
      obtain ⟨b, off, hpa, hBA⟩ := HAT.out (fun h => by rw [h] at hx; cases hx)
      subst hpa
      have HWF : Bx (wI ac.page) := ⟨(hBA.2 k ac hx).1⟩
      obtain ⟨kd, pg, x⟩ := ac
      have Hx : Bx _ := ⟨hx⟩
      clear hx HAT
      have HNM : Bx ((mkeys m).Nodup) := ⟨keysSlots hS⟩
      obtain ⟨ov, hov⟩ : ∃ o, mget m pg = o := ⟨_, rfl⟩
      have HOV : Bx (mget m pg = ov) := ⟨hov⟩
      obtain ⟨q0, hq0⟩ : ∃ q, ov.getD noSlot = q := ⟨_, rfl⟩
      obtain ⟨ok0, hok0⟩ : ∃ b, ov.isSome = b := ⟨_, rfl⟩
      have HQ0 : Bx ((mget m pg).getD noSlot = q0 ∧ (mget m pg).isSome = ok0) := ⟨by rw [hov, hq0, hok0]; exact ⟨rfl, rfl⟩⟩
      have HOK0 : Bx (ov.getD noSlot = q0 ∧ ov.isSome = ok0) := ⟨hq0, hok0⟩
      clear hov hq0 hok0
      go_wp2_with (first | (refine loadBN (f := AcA.l) (vs := [.int .i64 kd, .int .i64 pg, .int .u32 x.ep, .int .u32 x.bo, .int .u64 x.sq]) hS rfl rfl rfl hBA k 0 ?_ Hx.out rfl rfl ?_; (focus omega); simp only [putW]) | (refine alloc (t := 35) hS rfl rfl ?_; clear hS; intro ma w hS; simp only [putW]) | (guard_target =~ Calls _ 16 _ _ _; refine Stopped.out ?_) | (refine load1 hS rfl rfl rfl rfl ?_; simp only [putW]) | (refine loadAll hS rfl rfl rfl ?_ ?_; rfl; simp only [putW]) | (refine loadPart hS rfl rfl rfl ?_ rfl ?_; rfl; simp only [putW]) | (refine store1 hS rfl rfl rfl rfl rfl ?_ ?_; (focus (simp; done)); clear hS; intro w hS; simp only [evW, putW] at hS; try simp only [putW]) | (refine storeAll hS rfl rfl rfl rfl ?_ ?_ ?_ ?_; rfl; (focus (simp [Value.oneCell']; done)); rfl; clear hS; intro w hS; try simp only [putW]) | (refine storeN hS rfl rfl rfl rfl ?_ ?_ ?_ ?_; rfl; (focus (simp [Value.oneCell']; done)); (focus (simp; done)); clear hS; intro w hS; simp at hS; try simp only [putW]) | (refine alloc hS rfl rfl ?_; clear hS; intro mb w hS; simp only [putW]) | (refine box1 hS rfl rfl rfl rfl ?_; clear hS; intro mb w hS; try simp only [evW, putW] at hS; simp only [putW]) | (refine boxN hS rfl rfl rfl ?_; clear hS; intro mb w hS; simp only [putW]))
      refine ⟨?_⟩
      refine Calls.mono (of_any (bs := bs) pg q0 ok0 hS HQ0.out.1 HQ0.out.2) ?_
      clear hS
      rintro _ w ⟨rfl, hS⟩
      simp only [putW]
      go_wp2_with (first | (refine alloc (t := 33) hS rfl rfl ?_; clear hS; intro m10 w hS; simp only [putW]) | (refine storeAll (t := 33) (cs := q0.2.l.toArray) hS rfl rfl rfl rfl ?_ ?_ ?_ ?_; (focus rfl); (focus (simp [En.l, Value.oneCell']; done)); (focus rfl); clear hS; intro w hS; try simp only [putW]) | (guard_target =~ Calls _ 10 _ _ _; refine Stopped.out ?_) | (refine load1 hS rfl rfl rfl rfl ?_; simp only [putW]) | (refine loadAll hS rfl rfl rfl ?_ ?_; rfl; simp only [putW]) | (refine loadPart hS rfl rfl rfl ?_ rfl ?_; rfl; simp only [putW]) | (refine store1 hS rfl rfl rfl rfl rfl ?_ ?_; (focus (simp; done)); clear hS; intro w hS; simp only [evW, putW] at hS; try simp only [putW]) | (refine storeAll hS rfl rfl rfl rfl ?_ ?_ ?_ ?_; rfl; (focus (simp [Value.oneCell']; done)); rfl; clear hS; intro w hS; try simp only [putW]) | (refine storeN hS rfl rfl rfl rfl ?_ ?_ ?_ ?_; rfl; (focus (simp [Value.oneCell']; done)); (focus (simp; done)); clear hS; intro w hS; simp at hS; try simp only [putW]) | (refine alloc hS rfl rfl ?_; clear hS; intro mb w hS; simp only [putW]) | (refine box1 hS rfl rfl rfl rfl ?_; clear hS; intro mb w hS; try simp only [evW, putW] at hS; simp only [putW]) | (refine boxN hS rfl rfl rfl ?_; clear hS; intro mb w hS; simp only [putW]))
      refine ⟨?_⟩
      refine Calls.mono (pick_sat kd 4 (by omega) (by omega) hS) ?_
      clear hS
      rintro _ w ⟨rfl, hS⟩
      obtain ⟨q4, hq4⟩ : ∃ q4 : Int, kd % 4 = q4 := ⟨_, rfl⟩
      rw [hq4]
      clear hq4
      simp only [putW]
      go_upto_if 58 with (first | (refine load1 hS rfl rfl rfl rfl ?_; simp only [putW]) | (refine loadAll hS rfl rfl rfl ?_ ?_; rfl; simp only [putW]) | (refine loadPart hS rfl rfl rfl ?_ rfl ?_; rfl; simp only [putW]) | (refine store1 hS rfl rfl rfl rfl rfl ?_ ?_; (focus (simp; done)); clear hS; intro w hS; simp only [evW, putW] at hS; try simp only [putW]) | (refine storeAll hS rfl rfl rfl rfl ?_ ?_ ?_ ?_; rfl; (focus (simp [Value.oneCell']; done)); rfl; clear hS; intro w hS; try simp only [putW]) | (refine storeN hS rfl rfl rfl rfl ?_ ?_ ?_ ?_; rfl; (focus (simp [Value.oneCell']; done)); (focus (simp; done)); clear hS; intro w hS; simp at hS; try simp only [putW]) | (refine alloc hS rfl rfl ?_; clear hS; intro mb w hS; simp only [putW]) | (refine box1 hS rfl rfl rfl rfl ?_; clear hS; intro mb w hS; try simp only [evW, putW] at hS; simp only [putW]) | (refine boxN hS rfl rfl rfl ?_; clear hS; intro mb w hS; simp only [putW]))
      go_cut [12, 13, 14, 15, 16] from 58 to 101 (fun _ _ _ _ _ wc => ∃ (fl : List Bool) (m : List (Int × (Nat × En))) (R : List Rs), Bx (Tie nn fl m R ∧ ∀ y ∈ mkeys m, wI y) ∧ Sat w0 ((bs, SlotsC nn fl m) :: []) wc)
      case first =>
        by_cases hq : q4 = 0
        · subst hq
          cases ov with
          | none =>
            have HG1 : Bx ((mget m pg).getD noSlot = noSlot ∧ (mget m pg).isSome = false) := ⟨by rw [HOV.out]; exact ⟨rfl, rfl⟩⟩
            go_wp2_with (first | (go_at_call 11; refine Calls.mono (free_none (bs := bs) pg HOV.out hS) ?_; clear hS; rintro _ w ⟨rfl, hS⟩; simp only [putW]) | (go_at_call 16; refine Calls.mono (of_any (bs := bs) pg noSlot false hS HG1.out.1 HG1.out.2) ?_; clear hS; rintro _ w ⟨rfl, hS⟩; simp only [putW]) | (refine alloc (t := 33) hS rfl rfl ?_; clear hS; intro m13 w hS; simp only [putW]) | (refine storeAll (t := 33) (cs := noSlot.2.l.toArray) hS rfl rfl rfl rfl ?_ ?_ ?_ ?_; (focus rfl); (focus (simp [noSlot, En.l, Value.oneCell']; done)); (focus rfl); clear hS; intro w hS; try simp only [putW]) | (refine load1 hS rfl rfl rfl rfl ?_; simp only [putW]) | (refine loadAll hS rfl rfl rfl ?_ ?_; rfl; simp only [putW]) | (refine loadPart hS rfl rfl rfl ?_ rfl ?_; rfl; simp only [putW]) | (refine store1 hS rfl rfl rfl rfl rfl ?_ ?_; (focus (simp; done)); clear hS; intro w hS; simp only [evW, putW] at hS; try simp only [putW]) | (refine storeAll hS rfl rfl rfl rfl ?_ ?_ ?_ ?_; rfl; (focus (simp [Value.oneCell']; done)); rfl; clear hS; intro w hS; try simp only [putW]) | (refine storeN hS rfl rfl rfl rfl ?_ ?_ ?_ ?_; rfl; (focus (simp [Value.oneCell']; done)); (focus (simp; done)); clear hS; intro w hS; simp at hS; try simp only [putW]) | (refine alloc hS rfl rfl ?_; clear hS; intro mb w hS; simp only [putW]) | (refine box1 hS rfl rfl rfl rfl ?_; clear hS; intro mb w hS; try simp only [evW, putW] at hS; simp only [putW]) | (refine boxN hS rfl rfl rfl ?_; clear hS; intro mb w hS; simp only [putW]))
            go_meet
            case rel => exact ⟨_, _, _, HT, hS.conv⟩
          | some q =>
            obtain ⟨i, y⟩ := q
            have Hin := Lib.hid (HT.out.1.of_some HOV.out).2.2
            have HT2 : Bx (Tie nn (fl.set i true) (mdel m pg) (R.set i freeRs) ∧ ∀ y ∈ mkeys (mdel m pg), wI y) := ⟨HT.out.1.freed HOV.out, fun y hy => by rw [mkeys_mdel] at hy; exact HT.out.2 y (List.mem_filter.1 hy).1⟩
            have HG2 : Bx ((mget (mdel m pg) pg).getD noSlot = noSlot ∧ (mget (mdel m pg) pg).isSome = false) := ⟨by rw [mget_mdel, if_pos rfl]; exact ⟨rfl, rfl⟩⟩
            go_wp2_with (first | (go_at_call 11; refine Calls.mono (free_some (bs := bs) pg (i, y) HOV.out Hin.out hS) ?_; clear hS; rintro _ w ⟨rfl, hS⟩; simp only [putW]) | (go_at_call 16; refine Calls.mono (of_any (bs := bs) (m := mdel m pg) pg noSlot false hS HG2.out.1 HG2.out.2) ?_; clear hS; rintro _ w ⟨rfl, hS⟩; simp only [putW]) | (refine alloc (t := 33) hS rfl rfl ?_; clear hS; intro m13 w hS; simp only [putW]) | (refine storeAll (t := 33) (cs := noSlot.2.l.toArray) hS rfl rfl rfl rfl ?_ ?_ ?_ ?_; (focus rfl); (focus (simp [noSlot, En.l, Value.oneCell']; done)); (focus rfl); clear hS; intro w hS; try simp only [putW]) | (refine load1 hS rfl rfl rfl rfl ?_; simp only [putW]) | (refine loadAll hS rfl rfl rfl ?_ ?_; rfl; simp only [putW]) | (refine loadPart hS rfl rfl rfl ?_ rfl ?_; rfl; simp only [putW]) | (refine store1 hS rfl rfl rfl rfl rfl ?_ ?_; (focus (simp; done)); clear hS; intro w hS; simp only [evW, putW] at hS; try simp only [putW]) | (refine storeAll hS rfl rfl rfl rfl ?_ ?_ ?_ ?_; rfl; (focus (simp [Value.oneCell']; done)); rfl; clear hS; intro w hS; try simp only [putW]) | (refine storeN hS rfl rfl rfl rfl ?_ ?_ ?_ ?_; rfl; (focus (simp [Value.oneCell']; done)); (focus (simp; done)); clear hS; intro w hS; simp at hS; try simp only [putW]) | (refine alloc hS rfl rfl ?_; clear hS; intro mb w hS; simp only [putW]) | (refine box1 hS rfl rfl rfl rfl ?_; clear hS; intro mb w hS; try simp only [evW, putW] at hS; simp only [putW]) | (refine boxN hS rfl rfl rfl ?_; clear hS; intro mb w hS; simp only [putW]))
            go_meet
            case rel => exact ⟨_, _, _, HT2, hS.conv⟩
        · cases ov with
          | some q =>
            obtain ⟨i, y⟩ := q
            have Hin := Lib.hid (HT.out.1.of_some HOV.out).2.2
            have hq0 : q0 = (i, y) := HOK0.out.1.symm
            subst hq0
            have hok0 : ok0 = true := HOK0.out.2.symm
            subst hok0
            have HT2 : Bx (Tie nn (fl.set i false) (mput m pg (i, x)) (R.set i ⟨false, pg, x⟩) ∧ ∀ y ∈ mkeys (mput m pg (i, x)), wI y) := ⟨HT.out.1.given x Hin.out (.inl ⟨y, HOV.out⟩), fun z hz => by
              rw [mkeys_mput] at hz
              split at hz
              · exact HT.out.2 z hz
              · rcases List.mem_append.1 hz with hz | hz
                · exact HT.out.2 z hz
                · rw [List.mem_singleton.1 hz]; exact HWF.out⟩
            have Hg := Lib.hid (show giveAt fl m pg = i by unfold giveAt; rw [HOV.out])
            go_wp2_with (first | (go_at_call 14; refine Calls.mono (give_any (bs := bs) pg x i Hin.out Hg.out hS) ?_; clear hS; rintro _ w ⟨rfl, hS⟩; simp only [putW]) | (refine load1 hS rfl rfl rfl rfl ?_; simp only [putW]) | (refine loadAll hS rfl rfl rfl ?_ ?_; rfl; simp only [putW]) | (refine loadPart hS rfl rfl rfl ?_ rfl ?_; rfl; simp only [putW]) | (refine store1 hS rfl rfl rfl rfl rfl ?_ ?_; (focus (simp; done)); clear hS; intro w hS; simp only [evW, putW] at hS; try simp only [putW]) | (refine storeAll hS rfl rfl rfl rfl ?_ ?_ ?_ ?_; rfl; (focus (simp [Value.oneCell']; done)); rfl; clear hS; intro w hS; try simp only [putW]) | (refine storeN hS rfl rfl rfl rfl ?_ ?_ ?_ ?_; rfl; (focus (simp [Value.oneCell']; done)); (focus (simp; done)); clear hS; intro w hS; simp at hS; try simp only [putW]) | (refine alloc hS rfl rfl ?_; clear hS; intro mb w hS; simp only [putW]) | (refine box1 hS rfl rfl rfl rfl ?_; clear hS; intro mb w hS; try simp only [evW, putW] at hS; simp only [putW]) | (refine boxN hS rfl rfl rfl ?_; clear hS; intro mb w hS; simp only [putW]))
            go_meet
            case rel => exact ⟨_, _, _, HT2, hS.conv⟩
          | none =>
            have hok0 : ok0 = false := HOK0.out.2.symm
            subst hok0
            rcases freeFrom_range R with hf | ⟨i, hf, hin2, pgo, yo, hR⟩
            · have Hg := Lib.hid (show giveAt fl m pg = -1 by unfold giveAt; rw [HOV.out]; show idxFrom fl true 0 = -1; rw [HT.out.1.index, hf])
              have HLen : Bx (m.length = nn) := ⟨HT.out.1.full HNM.out hf⟩
              clear hf
              go_wp2_with (first | (go_at_call 14; refine Calls.mono (give_full (bs := bs) pg x Hg.out hS) ?_; clear hS; rintro _ w ⟨rfl, hS⟩; simp only [putW]) | (guard_target =~ Calls _ 18 _ _ _; refine Stopped.out ?_) | (refine load1 hS rfl rfl rfl rfl ?_; simp only [putW]) | (refine loadAll hS rfl rfl rfl ?_ ?_; rfl; simp only [putW]) | (refine loadPart hS rfl rfl rfl ?_ rfl ?_; rfl; simp only [putW]) | (refine store1 hS rfl rfl rfl rfl rfl ?_ ?_; (focus (simp; done)); clear hS; intro w hS; simp only [evW, putW] at hS; try simp only [putW]) | (refine storeAll hS rfl rfl rfl rfl ?_ ?_ ?_ ?_; rfl; (focus (simp [Value.oneCell']; done)); rfl; clear hS; intro w hS; try simp only [putW]) | (refine storeN hS rfl rfl rfl rfl ?_ ?_ ?_ ?_; rfl; (focus (simp [Value.oneCell']; done)); (focus (simp; done)); clear hS; intro w hS; simp at hS; try simp only [putW]) | (refine alloc hS rfl rfl ?_; clear hS; intro mb w hS; simp only [putW]) | (refine box1 hS rfl rfl rfl rfl ?_; clear hS; intro mb w hS; try simp only [evW, putW] at hS; simp only [putW]) | (refine boxN hS rfl rfl rfl ?_; clear hS; intro mb w hS; simp only [putW]))
              refine ⟨?_⟩
              refine Calls.mono (pages_any (bs := bs) (n := nn) (fl := fl) (m := m) HT.out.2 (by rw [HLen.out]; omega) (hS.conv (S' := (bs, SlotsC nn fl m) :: []))) ?_
              clear hS
              rintro _ w ⟨vp, rfl, hS⟩
              obtain ⟨qq, cq, hvq⟩ := shapeI (m := nn) hS (by rw [sortI_len, length_mkeys]; exact HLen.out)
              subst hvq
              simp only [putW]
              go_wp2_with (first | (refine load1 hS rfl rfl rfl rfl ?_; simp only [putW]) | (refine loadAll hS rfl rfl rfl ?_ ?_; rfl; simp only [putW]) | (refine loadPart hS rfl rfl rfl ?_ rfl ?_; rfl; simp only [putW]) | (refine store1 hS rfl rfl rfl rfl rfl ?_ ?_; (focus (simp; done)); clear hS; intro w hS; simp only [evW, putW] at hS; try simp only [putW]) | (refine storeAll hS rfl rfl rfl rfl ?_ ?_ ?_ ?_; rfl; (focus (simp [Value.oneCell']; done)); rfl; clear hS; intro w hS; try simp only [putW]) | (refine storeN hS rfl rfl rfl rfl ?_ ?_ ?_ ?_; rfl; (focus (simp [Value.oneCell']; done)); (focus (simp; done)); clear hS; intro w hS; simp at hS; try simp only [putW]) | (refine alloc hS rfl rfl ?_; clear hS; intro mb w hS; simp only [putW]) | (refine box1 hS rfl rfl rfl rfl ?_; clear hS; intro mb w hS; try simp only [evW, putW] at hS; simp only [putW]) | (refine boxN hS rfl rfl rfl ?_; clear hS; intro mb w hS; simp only [putW]))
              go_meet
              case rel => exact ⟨_, _, _, HT, hS.conv⟩
            · have hin : i < nn := by rw [← HT.out.1.len]; exact hin2
              have HT2 : Bx (Tie nn (fl.set i false) (mput m pg (i, x)) (R.set i ⟨false, pg, x⟩) ∧ ∀ y ∈ mkeys (mput m pg (i, x)), wI y) := ⟨HT.out.1.given x hin (.inr ⟨HOV.out, pgo, yo, hR⟩), fun z hz => by
                rw [mkeys_mput] at hz
                split at hz
                · exact HT.out.2 z hz
                · rcases List.mem_append.1 hz with hz | hz
                  · exact HT.out.2 z hz
                  · rw [List.mem_singleton.1 hz]; exact HWF.out⟩
              have Hg := Lib.hid (show giveAt fl m pg = i by unfold giveAt; rw [HOV.out]; show idxFrom fl true 0 = i; rw [HT.out.1.index, hf])
              clear hf hR hin2
              go_wp2_with (first | (go_at_call 14; refine Calls.mono (give_any (bs := bs) pg x i hin Hg.out hS) ?_; clear hS; rintro _ w ⟨rfl, hS⟩; simp only [putW]) | (refine load1 hS rfl rfl rfl rfl ?_; simp only [putW]) | (refine loadAll hS rfl rfl rfl ?_ ?_; rfl; simp only [putW]) | (refine loadPart hS rfl rfl rfl ?_ rfl ?_; rfl; simp only [putW]) | (refine store1 hS rfl rfl rfl rfl rfl ?_ ?_; (focus (simp; done)); clear hS; intro w hS; simp only [evW, putW] at hS; try simp only [putW]) | (refine storeAll hS rfl rfl rfl rfl ?_ ?_ ?_ ?_; rfl; (focus (simp [Value.oneCell']; done)); rfl; clear hS; intro w hS; try simp only [putW]) | (refine storeN hS rfl rfl rfl rfl ?_ ?_ ?_ ?_; rfl; (focus (simp [Value.oneCell']; done)); (focus (simp; done)); clear hS; intro w hS; simp at hS; try simp only [putW]) | (refine alloc hS rfl rfl ?_; clear hS; intro mb w hS; simp only [putW]) | (refine box1 hS rfl rfl rfl rfl ?_; clear hS; intro mb w hS; try simp only [evW, putW] at hS; simp only [putW]) | (refine boxN hS rfl rfl rfl ?_; clear hS; intro mb w hS; simp only [putW]))
              go_meet
              case rel => exact ⟨_, _, _, HT2, hS.conv⟩
      case rest =>
        clear hS HT HNM HOV HQ0 HOK0
        obtain ⟨fl, m, R, HT, hS⟩ := hcut
        have HNM : Bx ((mkeys m).Nodup) := ⟨keysSlots hS⟩
        obtain ⟨nK, hnK⟩ : ∃ n, m.length = n := ⟨_, rfl⟩
        have HnK : Bx _ := ⟨hnK⟩
        have hK256 : nK ≤ nn := by rw [← hnK]; exact HT.out.1.le HNM.out
        have HLL : Bx ((sortI (mkeys m)).length = nK) := ⟨by rw [sortI_len, length_mkeys]; exact hnK⟩
        clear hnK
        go_wp2_with (first | (guard_target =~ Calls _ 18 _ _ _; refine Stopped.out ?_) | (refine load1 hS rfl rfl rfl rfl ?_; simp only [putW]) | (refine loadAll hS rfl rfl rfl ?_ ?_; rfl; simp only [putW]) | (refine loadPart hS rfl rfl rfl ?_ rfl ?_; rfl; simp only [putW]) | (refine store1 hS rfl rfl rfl rfl rfl ?_ ?_; (focus (simp; done)); clear hS; intro w hS; simp only [evW, putW] at hS; try simp only [putW]) | (refine storeAll hS rfl rfl rfl rfl ?_ ?_ ?_ ?_; rfl; (focus (simp [Value.oneCell']; done)); rfl; clear hS; intro w hS; try simp only [putW]) | (refine storeN hS rfl rfl rfl rfl ?_ ?_ ?_ ?_; rfl; (focus (simp [Value.oneCell']; done)); (focus (simp; done)); clear hS; intro w hS; simp at hS; try simp only [putW]) | (refine alloc hS rfl rfl ?_; clear hS; intro mb w hS; simp only [putW]) | (refine box1 hS rfl rfl rfl rfl ?_; clear hS; intro mb w hS; try simp only [evW, putW] at hS; simp only [putW]) | (refine boxN hS rfl rfl rfl ?_; clear hS; intro mb w hS; simp only [putW]))
        refine ⟨?_⟩
        refine Calls.mono (pages_any (bs := bs) (n := nn) (fl := fl) (m := m) HT.out.2 (by rw [HnK.out]; omega) (hS.conv (S' := (bs, SlotsC nn fl m) :: []))) ?_
        clear hS
        rintro _ w ⟨vp, rfl, hS⟩
        obtain ⟨ql, cl, hvl⟩ := shapeI hS HLL.out
        subst hvl
        simp only [putW]
        go_wp2_with (first | (refine makeN hS rfl rfl nn rfl rfl (Sl.one Value.bool) false rfl ?_ ?_ ?_; (focus (first | omega | (simp [maxLen]; done) | (simp [maxLen]; omega))); (focus (first | omega | (simp [maxLen]; done) | (simp [maxLen]; omega))); clear hS; intro mb w hS; simp only [putW]) | (refine load1 hS rfl rfl rfl rfl ?_; simp only [putW]) | (refine loadAll hS rfl rfl rfl ?_ ?_; rfl; simp only [putW]) | (refine loadPart hS rfl rfl rfl ?_ rfl ?_; rfl; simp only [putW]) | (refine store1 hS rfl rfl rfl rfl rfl ?_ ?_; (focus (simp; done)); clear hS; intro w hS; simp only [evW, putW] at hS; try simp only [putW]) | (refine storeAll hS rfl rfl rfl rfl ?_ ?_ ?_ ?_; rfl; (focus (simp [Value.oneCell']; done)); rfl; clear hS; intro w hS; try simp only [putW]) | (refine storeN hS rfl rfl rfl rfl ?_ ?_ ?_ ?_; rfl; (focus (simp [Value.oneCell']; done)); (focus (simp; done)); clear hS; intro w hS; simp at hS; try simp only [putW]) | (refine alloc hS rfl rfl ?_; clear hS; intro mb w hS; simp only [putW]) | (refine box1 hS rfl rfl rfl rfl ?_; clear hS; intro mb w hS; try simp only [evW, putW] at hS; simp only [putW]) | (refine boxN hS rfl rfl rfl ?_; clear hS; intro mb w hS; simp only [putW]))
        go_loopg [19] nK (fun g i wr => ∃ (j : Nat) (sn : List Bool), j + g = nK ∧ i = .int .i64 j ∧ Bx (Seen m (sortI (mkeys m)) j sn ∧ sn.length = nn) ∧ Sat w0 ((mb, slc 1 (Sl.one Value.bool) sn nn 4) :: (blk (.slice ql nK cl), sl 1 i64 (sortI (mkeys m)) 3 (.slice ql nK cl)) :: (bs, SlotsC nn fl m) :: []) wr)
        case atStart => exact ⟨0, _, by omega, rfl, ⟨Seen.start nn, by simp⟩, hS.conv⟩
        case round =>
          clear hS
          obtain ⟨j, sn, hjg, rfl, HSn, hS⟩ := hrel
          cases gk with
          | zero =>
            have hj : j = nK := by omega
            subst hj
            clear hjg
            go_wp2_with (first | (refine load1 hS rfl rfl rfl rfl ?_; simp only [putW]) | (refine loadAll hS rfl rfl rfl ?_ ?_; rfl; simp only [putW]) | (refine loadPart hS rfl rfl rfl ?_ rfl ?_; rfl; simp only [putW]) | (refine store1 hS rfl rfl rfl rfl rfl ?_ ?_; (focus (simp; done)); clear hS; intro w hS; simp only [evW, putW] at hS; try simp only [putW]) | (refine storeAll hS rfl rfl rfl rfl ?_ ?_ ?_ ?_; rfl; (focus (simp [Value.oneCell']; done)); rfl; clear hS; intro w hS; try simp only [putW]) | (refine storeN hS rfl rfl rfl rfl ?_ ?_ ?_ ?_; rfl; (focus (simp [Value.oneCell']; done)); (focus (simp; done)); clear hS; intro w hS; simp at hS; try simp only [putW]) | (refine alloc hS rfl rfl ?_; clear hS; intro mb w hS; simp only [putW]) | (refine box1 hS rfl rfl rfl rfl ?_; clear hS; intro mb w hS; try simp only [evW, putW] at hS; simp only [putW]) | (refine boxN hS rfl rfl rfl ?_; clear hS; intro mb w hS; simp only [putW]))
            go_roundg g
            case measure => omega
            case rel => exact ⟨k + 1, _, _, _, by omega, by go_num, HT, hS.conv⟩
          | succ g2 =>
            have hjK : j < nK := by omega
            have hj256 : j < 256 := by omega
            have e3 : decide ((j : Int) < (nK : Int)) = true := decide_eq_true (by omega)
            obtain ⟨p, hp⟩ : ∃ p, (sortI (mkeys m))[j]? = some p := ⟨_, List.getElem?_eq_getElem (by rw [HLL.out]; exact hjK)⟩
            obtain ⟨sq, hsq⟩ : ∃ q, mget m p = some q := by
              cases hg : mget m p with
              | some q => exact ⟨q, rfl⟩
              | none => exact absurd ((sortI_perm _).subset (List.mem_of_getElem? hp)) (mget_none.1 hg)
            obtain ⟨i, y⟩ := sq
            have hin : i < nn := (HT.out.1.of_some hsq).2.2
            obtain ⟨bb, hbb⟩ : ∃ b, sn[i]? = some b := ⟨_, List.getElem?_eq_getElem (by rw [HSn.out.2]; exact hin)⟩
            have hbf := HSn.out.1.fresh HT.out.1 (fun a c d h1 h2 h3 => rising HNM.out h1 h2 h3) hp hsq hbb
            subst hbf
            have HP : Bx _ := ⟨hp⟩
            have HSQ : Bx _ := ⟨hsq⟩
            have HBB : Bx _ := ⟨hbb⟩
            have HSn2 : Bx (Seen m (sortI (mkeys m)) (j + 1) (sn.set i true) ∧ (sn.set i true).length = nn) := ⟨HSn.out.1.next hp hsq (by rw [HSn.out.2]; exact hin), by rw [List.length_set]; exact HSn.out.2⟩
            have hil : i < sn.length := by rw [HSn.out.2]; exact hin
            clear hp hsq hbb
            obtain ⟨g17, hq17, hcap17, hS2⟩ := openI (hS.conv (S' := (blk (.slice ql nK cl), sl 1 i64 (sortI (mkeys m)) 3 (.slice ql nK cl)) :: (mb, slc 1 (Sl.one Value.bool) sn nn 4) :: (bs, SlotsC nn fl m) :: [])) HLL.out (by omega)
            subst hq17
            clear hS
            have hS := hS2
            clear hS2
            go_wp2_with (first | (refine loadS1 (v1 := Value.int .i64) hS rfl rfl rfl HP.out ?_; simp only [putW]) | (guard_target =~ Calls _ 16 _ _ _; refine Stopped.out ?_) | (refine load1 hS rfl rfl rfl rfl ?_; simp only [putW]) | (refine loadAll hS rfl rfl rfl ?_ ?_; rfl; simp only [putW]) | (refine loadPart hS rfl rfl rfl ?_ rfl ?_; rfl; simp only [putW]) | (refine store1 hS rfl rfl rfl rfl rfl ?_ ?_; (focus (simp; done)); clear hS; intro w hS; simp only [evW, putW] at hS; try simp only [putW]) | (refine storeAll hS rfl rfl rfl rfl ?_ ?_ ?_ ?_; rfl; (focus (simp [Value.oneCell']; done)); rfl; clear hS; intro w hS; try simp only [putW]) | (refine storeN hS rfl rfl rfl rfl ?_ ?_ ?_ ?_; rfl; (focus (simp [Value.oneCell']; done)); (focus (simp; done)); clear hS; intro w hS; simp at hS; try simp only [putW]) | (refine alloc hS rfl rfl ?_; clear hS; intro mb w hS; simp only [putW]) | (refine box1 hS rfl rfl rfl rfl ?_; clear hS; intro mb w hS; try simp only [evW, putW] at hS; simp only [putW]) | (refine boxN hS rfl rfl rfl ?_; clear hS; intro mb w hS; simp only [putW]))
            refine ⟨?_⟩
            refine Calls.mono (show Calls Try.prog 16 #[.pointer (some ⟨bs, 0, none⟩), .int .i64 p] _ (fun e w' => e = .returned (.tuple #[.int .i64 (i : Int), .agg y.l.toArray, .bool true]) ∧ Sat w0 _ w') from of_any (bs := bs) p (i, y) true hS (by rw [HSQ.out]; rfl) (by rw [HSQ.out]; rfl)) ?_
            clear hS
            rintro _ w ⟨rfl, hS⟩
            have d0 : decide ((i : Int) < 0) = false := decide_eq_false (by omega)
            have d1 : decide ((nn : Int) ≤ (i : Int)) = false := decide_eq_false (by omega)
            have d1n : decide (nn ≤ i) = false := decide_eq_false (by omega)
            simp only [putW]
            go_upto_region 24 with (first | (refine alloc (t := 33) hS rfl rfl ?_; clear hS; intro m21 w hS; simp only [putW]) | (refine storeAll (t := 33) (cs := y.l.toArray) hS rfl rfl rfl rfl ?_ ?_ ?_ ?_; (focus rfl); (focus (simp [En.l, Value.oneCell']; done)); (focus rfl); clear hS; intro w hS; try simp only [putW]) | (refine load1 hS rfl rfl rfl rfl ?_; simp only [putW]) | (refine loadAll hS rfl rfl rfl ?_ ?_; rfl; simp only [putW]) | (refine loadPart hS rfl rfl rfl ?_ rfl ?_; rfl; simp only [putW]) | (refine store1 hS rfl rfl rfl rfl rfl ?_ ?_; (focus (simp; done)); clear hS; intro w hS; simp only [evW, putW] at hS; try simp only [putW]) | (refine storeAll hS rfl rfl rfl rfl ?_ ?_ ?_ ?_; rfl; (focus (simp [Value.oneCell']; done)); rfl; clear hS; intro w hS; try simp only [putW]) | (refine storeN hS rfl rfl rfl rfl ?_ ?_ ?_ ?_; rfl; (focus (simp [Value.oneCell']; done)); (focus (simp; done)); clear hS; intro w hS; simp at hS; try simp only [putW]) | (refine alloc hS rfl rfl ?_; clear hS; intro mb w hS; simp only [putW]) | (refine box1 hS rfl rfl rfl rfl ?_; clear hS; intro mb w hS; try simp only [evW, putW] at hS; simp only [putW]) | (refine boxN hS rfl rfl rfl ?_; clear hS; intro mb w hS; simp only [putW]))
            cases j with
            | zero =>
              (refine region_quiet hS (by kernel_rfl) (by kernel_rfl) (by kernel_rfl) ?_; clear hS; (repeat (apply quiet_step; (focus (intro w hS; go_wp2_with (first | (refine loadS1 (v1 := Value.bool) hS rfl rfl rfl HBB.out ?_; simp only [putW]) | (refine load1 hS rfl rfl rfl rfl ?_; simp only [putW]) | (refine loadAll hS rfl rfl rfl ?_ ?_; rfl; simp only [putW]) | (refine loadPart hS rfl rfl rfl ?_ rfl ?_; rfl; simp only [putW])); exact ⟨rfl, rfl, hS⟩)); simp only [putW])); refine quiet_nil ?_; intro w hS)
              go_wp2_with (first | (refine storeS1 (v1 := Value.bool) hS rfl rfl rfl true rfl rfl ?_ ?_; (focus (first | omega | (simp [maxLen]; done) | (simp [maxLen]; omega))); clear hS; intro w hS; try simp only [putW]) | (refine load1 hS rfl rfl rfl rfl ?_; simp only [putW]) | (refine loadAll hS rfl rfl rfl ?_ ?_; rfl; simp only [putW]) | (refine loadPart hS rfl rfl rfl ?_ rfl ?_; rfl; simp only [putW]) | (refine store1 hS rfl rfl rfl rfl rfl ?_ ?_; (focus (simp; done)); clear hS; intro w hS; simp only [evW, putW] at hS; try simp only [putW]) | (refine storeAll hS rfl rfl rfl rfl ?_ ?_ ?_ ?_; rfl; (focus (simp [Value.oneCell']; done)); rfl; clear hS; intro w hS; try simp only [putW]) | (refine storeN hS rfl rfl rfl rfl ?_ ?_ ?_ ?_; rfl; (focus (simp [Value.oneCell']; done)); (focus (simp; done)); clear hS; intro w hS; simp at hS; try simp only [putW]) | (refine alloc hS rfl rfl ?_; clear hS; intro mb w hS; simp only [putW]) | (refine box1 hS rfl rfl rfl rfl ?_; clear hS; intro mb w hS; try simp only [evW, putW] at hS; simp only [putW]) | (refine boxN hS rfl rfl rfl ?_; clear hS; intro mb w hS; simp only [putW]))
              go_roundg g2
              case measure => omega
              case rel => exact ⟨1, _, by omega, by go_num, HSn2, (closeI (hS.pull g17 (X := slc 1 i64 (sortI (mkeys m)) cl 3)) HLL.out).conv⟩
            | succ j1 =>
              obtain ⟨z, hz⟩ : ∃ z, (sortI (mkeys m))[j1]? = some z := ⟨_, List.getElem?_eq_getElem (by rw [HLL.out]; omega)⟩
              have hzp : z < p := rising HNM.out (Nat.lt_succ_self j1) hz HP.out
              have HZ : Bx _ := ⟨hz⟩
              have d2 : decide (p ≤ z) = false := decide_eq_false (by omega)
              have d3 : decide ((0 : Int) < ((j1 + 1 : Nat) : Int)) = true := decide_eq_true (by omega)
              have d4 : ((j1 + 1 : Nat) : Int) - 1 = (j1 : Int) := by omega
              clear hz hzp
              (refine region_quiet hS (by kernel_rfl) (by kernel_rfl) (by kernel_rfl) ?_; clear hS; (repeat (apply quiet_step; (focus (intro w hS; go_wp2_with (first | (refine loadS1 (v1 := Value.bool) hS rfl rfl rfl HBB.out ?_; simp only [putW]) | (refine loadS (f := i64) hS rfl rfl rfl j1 0 ?_ HZ.out rfl ?_ ?_; omega; omega; simp only [putW]) | (refine loadS (f := i64) hS rfl rfl rfl (j1 + 1) 0 ?_ HP.out rfl ?_ ?_; omega; omega; simp only [putW]) | (refine load1 hS rfl rfl rfl rfl ?_; simp only [putW]) | (refine loadAll hS rfl rfl rfl ?_ ?_; rfl; simp only [putW]) | (refine loadPart hS rfl rfl rfl ?_ rfl ?_; rfl; simp only [putW])); exact ⟨rfl, rfl, hS⟩)); simp only [putW])); refine quiet_nil ?_; intro w hS)
              go_wp2_with (first | (refine storeS1 (v1 := Value.bool) hS rfl rfl rfl true rfl rfl ?_ ?_; (focus (first | omega | (simp [maxLen]; done) | (simp [maxLen]; omega))); clear hS; intro w hS; try simp only [putW]) | (refine load1 hS rfl rfl rfl rfl ?_; simp only [putW]) | (refine loadAll hS rfl rfl rfl ?_ ?_; rfl; simp only [putW]) | (refine loadPart hS rfl rfl rfl ?_ rfl ?_; rfl; simp only [putW]) | (refine store1 hS rfl rfl rfl rfl rfl ?_ ?_; (focus (simp; done)); clear hS; intro w hS; simp only [evW, putW] at hS; try simp only [putW]) | (refine storeAll hS rfl rfl rfl rfl ?_ ?_ ?_ ?_; rfl; (focus (simp [Value.oneCell']; done)); rfl; clear hS; intro w hS; try simp only [putW]) | (refine storeN hS rfl rfl rfl rfl ?_ ?_ ?_ ?_; rfl; (focus (simp [Value.oneCell']; done)); (focus (simp; done)); clear hS; intro w hS; simp at hS; try simp only [putW]) | (refine alloc hS rfl rfl ?_; clear hS; intro mb w hS; simp only [putW]) | (refine box1 hS rfl rfl rfl rfl ?_; clear hS; intro mb w hS; try simp only [evW, putW] at hS; simp only [putW]) | (refine boxN hS rfl rfl rfl ?_; clear hS; intro mb w hS; simp only [putW]))
              go_roundg g2
              case measure => omega
              case rel => exact ⟨j1 + 2, _, by omega, by go_num, HSn2, (closeI (hS.pull g17 (X := slc 1 i64 (sortI (mkeys m)) cl 3)) HLL.out).conv⟩
end
end Go.Proofs.Ythlcjefkhlfkpaa.SpillOnceDone
