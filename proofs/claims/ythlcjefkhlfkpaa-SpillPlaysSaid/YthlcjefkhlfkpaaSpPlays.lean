/-
  thimblelaw20.SpillPlays: the walk.
-/
import Derived.Test.YthlcjefkhlfkpaaSpTie
import Derived.Deep.CutRange
import Derived.Deep.CutBlock
namespace Go.Proofs.Ythlcjefkhlfkpaa
open Go.RowKit Go.Proofs.Ythlcjefkhlfkpaa.Sl

/-- An act. -/
structure Ac where
  kind : Int
  page : Int
  x : En
def Ac.l (s : Ac) : List Value := [.int .i64 s.kind, .int .i64 s.page, .int .u32 s.x.ep, .int .u32 s.x.bo, .int .u64 s.x.sq]
attribute [go_sem] Ac.l

section
variable {w0 w : World} {S F : List Chunk}
set_option maxRecDepth 100000 in
theorem plays_bad (n : Int) (v : Value) (hn : n < 1 ∨ 256 < n) (hS : Sat w0 S w) :
    Calls Try.prog 3 #[.int .i64 n, v] w fun e w' => e = .returned (.bool true) ∧ Sat w0 S w' := by
  go_enter Try.func3, Try.ntmps3
  go_wp2_with (first | (go_at_call 7; refine Calls.mono (new_bad n hS hn) ?_; clear hS; rintro _ w ⟨rfl, hS⟩; simp only [putW]) | (go_at_call 8; refine Calls.mono (refNew_none n hS hn) ?_; clear hS; rintro _ w ⟨rfl, hS⟩; simp only [putW]) | (go_at_call 9; refine Calls.mono (awake_any hS) ?_; clear hS; rintro _ w ⟨rfl, hS⟩; simp only [putW]) | (refine load1 hS rfl rfl rfl rfl ?_; simp only [putW]) | (refine loadAll hS rfl rfl rfl ?_ ?_; rfl; simp only [putW]) | (refine loadPart hS rfl rfl rfl ?_ rfl ?_; rfl; simp only [putW]) | (refine store1 hS rfl rfl rfl rfl rfl ?_ ?_; (focus (simp; done)); clear hS; intro w hS; simp only [evW, putW] at hS; try simp only [putW]) | (refine storeAll hS rfl rfl rfl rfl ?_ ?_ ?_ ?_; rfl; (focus (simp [Value.oneCell']; done)); rfl; clear hS; intro w hS; try simp only [putW]) | (refine storeN hS rfl rfl rfl rfl ?_ ?_ ?_ ?_; rfl; (focus (simp [Value.oneCell']; done)); (focus (simp; done)); clear hS; intro w hS; simp at hS; try simp only [putW]) | (refine alloc hS rfl rfl ?_; clear hS; intro mb w hS; simp only [putW]) | (refine box1 hS rfl rfl rfl rfl ?_; clear hS; intro mb w hS; try simp only [evW, putW] at hS; simp only [putW]) | (refine boxN hS rfl rfl rfl ?_; clear hS; intro mb w hS; simp only [putW]))
  go_ret
  exact ⟨rfl, hS⟩
set_option maxRecDepth 100000 in
set_option maxHeartbeats 0 in
theorem plays_good (n : Nat) (v : Value) (L : List Ac) (hB : BSl w0 5 Ac.l (fun _ => True) L v) (h1 : 1 ≤ n) (h2 : n ≤ 256) (hS : Sat w0 S w) :
    Calls Try.prog 3 #[.int .i64 n, v] w fun e w' => e = .returned (.bool true) ∧ Sat w0 S w' := by
  obtain ⟨a, cap, rfl, hmax, hL⟩ := hB.at
  clear hB
  have hn0 : ((n : Int) == 0) = false := by simp; omega
  go_enter Try.func3, Try.ntmps3
  go_wp2_with (first | (go_at_call 7; refine Calls.mono (new_any n hS h1 h2) ?_; clear hS; rintro _ w ⟨bs, rfl, hS⟩; simp only [putW]) | (go_at_call 8; refine Calls.mono (refNew_some n hS h1 h2) ?_; clear hS; rintro _ w ⟨g, cg, rfl, hS⟩; simp only [putW]) | (refine load1 hS rfl rfl rfl rfl ?_; simp only [putW]) | (refine loadAll hS rfl rfl rfl ?_ ?_; rfl; simp only [putW]) | (refine loadPart hS rfl rfl rfl ?_ rfl ?_; rfl; simp only [putW]) | (refine store1 hS rfl rfl rfl rfl rfl ?_ ?_; (focus (simp; done)); clear hS; intro w hS; simp only [evW, putW] at hS; try simp only [putW]) | (refine storeAll hS rfl rfl rfl rfl ?_ ?_ ?_ ?_; rfl; (focus (simp [Value.oneCell']; done)); rfl; clear hS; intro w hS; try simp only [putW]) | (refine storeN hS rfl rfl rfl rfl ?_ ?_ ?_ ?_; rfl; (focus (simp [Value.oneCell']; done)); (focus (simp; done)); clear hS; intro w hS; simp at hS; try simp only [putW]) | (refine alloc hS rfl rfl ?_; clear hS; intro mb w hS; simp only [putW]) | (refine box1 hS rfl rfl rfl rfl ?_; clear hS; intro mb w hS; try simp only [evW, putW] at hS; simp only [putW]) | (refine boxN hS rfl rfl rfl ?_; clear hS; intro mb w hS; simp only [putW]))
  go_loopw [7, 8, 9, 10, 11, 12, 13, 14, 15, 16, 17, 18, 95, 111] (fun l i _ _ _ _ _ _ _ _ _ _ _ _ wr => ∃ (k : Nat) (fl : List Bool) (m : List (Int × (Nat × En))) (R : List Rs) (g cg : Nat), k ≤ L.length ∧ k ≤ 300 ∧ i = .int .i64 k ∧ l = .slice (some ⟨g, 0, none⟩) n cg ∧ Tie n fl m R ∧ Sat w0 ((bs, SlotsC n fl m) :: (g, slc 5 Rs.l R cg 40) :: S) wr) (fun _ i _ _ _ _ _ _ _ _ _ _ _ _ _ => L.length - (intOf i).toNat)
  case atStart => exact ⟨0, _, _, _, g, cg, by omega, by omega, rfl, rfl, Tie.start n, hS.conv⟩
  case round =>
    clear hS
    obtain ⟨k, fl, m, R, g, cg, hk, hk3, rfl, rfl, ht, hS⟩ := hrel
    by_cases hlt : k < L.length ∧ k < 300
    · obtain ⟨hlt, hlt3⟩ := hlt
      obtain ⟨b, off, rfl, hA⟩ := hL (by intro h; subst h; simp at hlt)
      clear hL
      obtain ⟨ac, hac⟩ : ∃ ac, L[k]? = some ac := ⟨_, List.getElem?_eq_getElem hlt⟩
      go_upto_block 2 with (first | (refine loadBN (f := Ac.l) (vs := [.int .i64 ac.kind, .int .i64 ac.page, .int .u32 ac.x.ep, .int .u32 ac.x.bo, .int .u64 ac.x.sq]) hS rfl rfl rfl hA k 0 ?_ hac ?_ ?_ ?_; omega; rfl; rfl; simp only [putW]) | (go_at_call 10; refine Calls.mono (pick_sat ac.kind 9 (by omega) (by omega) hS) ?_; clear hS; rintro _ w ⟨rfl, hS⟩; simp only [putW]) | (refine load1 hS rfl rfl rfl rfl ?_; simp only [putW]) | (refine loadAll hS rfl rfl rfl ?_ ?_; rfl; simp only [putW]) | (refine loadPart hS rfl rfl rfl ?_ rfl ?_; rfl; simp only [putW]) | (refine store1 hS rfl rfl rfl rfl rfl ?_ ?_; (focus (simp; done)); clear hS; intro w hS; simp only [evW, putW] at hS; try simp only [putW]) | (refine storeAll hS rfl rfl rfl rfl ?_ ?_ ?_ ?_; rfl; (focus (simp [Value.oneCell']; done)); rfl; clear hS; intro w hS; try simp only [putW]) | (refine storeN hS rfl rfl rfl rfl ?_ ?_ ?_ ?_; rfl; (focus (simp [Value.oneCell']; done)); (focus (simp; done)); clear hS; intro w hS; simp at hS; try simp only [putW]) | (refine alloc hS rfl rfl ?_; clear hS; intro mb w hS; simp only [putW]) | (refine box1 hS rfl rfl rfl rfl ?_; clear hS; intro mb w hS; try simp only [evW, putW] at hS; simp only [putW]) | (refine boxN hS rfl rfl rfl ?_; clear hS; intro mb w hS; simp only [putW]))
      go_cut [7, 10, 11, 12, 13] from 40 to 173 (fun l _ _ _ _ wc => ∃ (fl' : List Bool) (m' : List (Int × (Nat × En))) (R' : List Rs) (g' cg' : Nat), l = .slice (some ⟨g', 0, none⟩) n cg' ∧ Tie n fl' m' R' ∧ Sat w0 ((bs, SlotsC n fl' m') :: (g', slc 5 Rs.l R' cg' 40) :: S) wc)
      case first =>
        by_cases hk0 : ac.kind % 9 = 0
        · cases hm : mget m ac.page with
          | none =>
            have hr := Lib.hid (ht.of_none hm)
            go_wp2_with (first | (go_at_call 11; refine Calls.mono (free_none (bs := bs) ac.page hm hS) ?_; clear hS; rintro _ w ⟨rfl, hS⟩; simp only [putW]) | (go_at_call 12; refine Calls.mono (refOf_any (L := R) ac.page ht.len hS) ?_; rw [hr.out]; clear hS; rintro _ w ⟨rfl, hS⟩; simp only [putW]) | (refine load1 hS rfl rfl rfl rfl ?_; simp only [putW]) | (refine loadAll hS rfl rfl rfl ?_ ?_; rfl; simp only [putW]) | (refine loadPart hS rfl rfl rfl ?_ rfl ?_; rfl; simp only [putW]) | (refine store1 hS rfl rfl rfl rfl rfl ?_ ?_; (focus (simp; done)); clear hS; intro w hS; simp only [evW, putW] at hS; try simp only [putW]) | (refine storeAll hS rfl rfl rfl rfl ?_ ?_ ?_ ?_; rfl; (focus (simp [Value.oneCell']; done)); rfl; clear hS; intro w hS; try simp only [putW]) | (refine storeN hS rfl rfl rfl rfl ?_ ?_ ?_ ?_; rfl; (focus (simp [Value.oneCell']; done)); (focus (simp; done)); clear hS; intro w hS; simp at hS; try simp only [putW]) | (refine alloc hS rfl rfl ?_; clear hS; intro mb w hS; simp only [putW]) | (refine box1 hS rfl rfl rfl rfl ?_; clear hS; intro mb w hS; try simp only [evW, putW] at hS; simp only [putW]) | (refine boxN hS rfl rfl rfl ?_; clear hS; intro mb w hS; simp only [putW]))
            go_meet
            case rel => exact ⟨fl, m, R, g, cg, rfl, ht, hS.conv⟩
          | some q =>
            obtain ⟨i, y⟩ := q
            obtain ⟨hr0, hri, hin⟩ := ht.of_some hm
            have hr := Lib.hid hr0
            have hin2 : i < R.length := by rw [ht.len]; exact hin
            have ht2 := ht.freed hm
            clear hr0 hri
            go_wp2_with (first | (go_at_call 11; refine Calls.mono (free_some (bs := bs) ac.page (i, y) hm hin hS) ?_; clear hS; rintro _ w ⟨rfl, hS⟩; simp only [putW]) | (go_at_call 12; refine Calls.mono (refOf_any (L := R) ac.page ht.len hS) ?_; rw [hr.out]; clear hS; rintro _ w ⟨rfl, hS⟩; simp only [putW]) | (refine storeS (f := Rs.l) hS rfl rfl rfl i ?_ freeRs rfl ?_ ?_ ?_ ?_ ?_; omega; rfl; (focus (simp [Rs.l, Value.oneCell']; done)); rfl; (focus (first | omega | (simp [maxLen]; done) | (simp [maxLen]; omega))); clear hS; intro w hS; try simp only [putW]) | (refine load1 hS rfl rfl rfl rfl ?_; simp only [putW]) | (refine loadAll hS rfl rfl rfl ?_ ?_; rfl; simp only [putW]) | (refine loadPart hS rfl rfl rfl ?_ rfl ?_; rfl; simp only [putW]) | (refine store1 hS rfl rfl rfl rfl rfl ?_ ?_; (focus (simp; done)); clear hS; intro w hS; simp only [evW, putW] at hS; try simp only [putW]) | (refine storeAll hS rfl rfl rfl rfl ?_ ?_ ?_ ?_; rfl; (focus (simp [Value.oneCell']; done)); rfl; clear hS; intro w hS; try simp only [putW]) | (refine storeN hS rfl rfl rfl rfl ?_ ?_ ?_ ?_; rfl; (focus (simp [Value.oneCell']; done)); (focus (simp; done)); clear hS; intro w hS; simp at hS; try simp only [putW]) | (refine alloc hS rfl rfl ?_; clear hS; intro mb w hS; simp only [putW]) | (refine box1 hS rfl rfl rfl rfl ?_; clear hS; intro mb w hS; try simp only [evW, putW] at hS; simp only [putW]) | (refine boxN hS rfl rfl rfl ?_; clear hS; intro mb w hS; simp only [putW]))
            go_meet
            case rel => exact ⟨_, _, _, g, cg, rfl, ht2, hS.conv⟩
        · by_cases hk1 : ac.kind % 9 = 1
          · go_wp2_with (first | (go_at_call 13; refine Calls.mono (clear_any (bs := bs) hS) ?_; clear hS; rintro _ w ⟨rfl, hS⟩; simp only [putW]) | (go_at_call 8; refine Calls.mono (refNew_some n hS h1 h2) ?_; clear hS; rintro _ w ⟨g2, cg2, rfl, hS⟩; simp only [putW]) | (refine load1 hS rfl rfl rfl rfl ?_; simp only [putW]) | (refine loadAll hS rfl rfl rfl ?_ ?_; rfl; simp only [putW]) | (refine loadPart hS rfl rfl rfl ?_ rfl ?_; rfl; simp only [putW]) | (refine store1 hS rfl rfl rfl rfl rfl ?_ ?_; (focus (simp; done)); clear hS; intro w hS; simp only [evW, putW] at hS; try simp only [putW]) | (refine storeAll hS rfl rfl rfl rfl ?_ ?_ ?_ ?_; rfl; (focus (simp [Value.oneCell']; done)); rfl; clear hS; intro w hS; try simp only [putW]) | (refine storeN hS rfl rfl rfl rfl ?_ ?_ ?_ ?_; rfl; (focus (simp [Value.oneCell']; done)); (focus (simp; done)); clear hS; intro w hS; simp at hS; try simp only [putW]) | (refine alloc hS rfl rfl ?_; clear hS; intro mb w hS; simp only [putW]) | (refine box1 hS rfl rfl rfl rfl ?_; clear hS; intro mb w hS; try simp only [evW, putW] at hS; simp only [putW]) | (refine boxN hS rfl rfl rfl ?_; clear hS; intro mb w hS; simp only [putW]))
            go_meet
            case rel => exact ⟨_, _, _, _, _, rfl, Tie.start n, hS.conv⟩
          · cases hm : mget m ac.page with
            | some q =>
              obtain ⟨j, y⟩ := q
              obtain ⟨hr0, hri, hin⟩ := ht.of_some hm
              have hin2 : j < R.length := by rw [ht.len]; exact hin
              have ht2 := ht.given ac.x hin (.inl ⟨y, hm⟩)
              have hg : Hid (giveAt fl m ac.page = j) := Lib.hid (by unfold giveAt; rw [hm])
              have h0 : ¬ ((j : Int) < 0) := by omega
              have hr := Lib.hid hr0
              clear hr0 hri
              go_wp2_with (first | (go_at_call 14; refine Calls.mono (give_any (bs := bs) ac.page ac.x j hin hg.out hS) ?_; clear hS; rintro _ w ⟨rfl, hS⟩; simp only [putW]) | (go_at_call 15; refine Calls.mono (refGive_has (L := R) ac.page ac.x j hr.out hin2 ht.len hS) ?_; clear hS; rintro _ w ⟨rfl, hS⟩; simp only [putW]) | (refine load1 hS rfl rfl rfl rfl ?_; simp only [putW]) | (refine loadAll hS rfl rfl rfl ?_ ?_; rfl; simp only [putW]) | (refine loadPart hS rfl rfl rfl ?_ rfl ?_; rfl; simp only [putW]) | (refine store1 hS rfl rfl rfl rfl rfl ?_ ?_; (focus (simp; done)); clear hS; intro w hS; simp only [evW, putW] at hS; try simp only [putW]) | (refine storeAll hS rfl rfl rfl rfl ?_ ?_ ?_ ?_; rfl; (focus (simp [Value.oneCell']; done)); rfl; clear hS; intro w hS; try simp only [putW]) | (refine storeN hS rfl rfl rfl rfl ?_ ?_ ?_ ?_; rfl; (focus (simp [Value.oneCell']; done)); (focus (simp; done)); clear hS; intro w hS; simp at hS; try simp only [putW]) | (refine alloc hS rfl rfl ?_; clear hS; intro mb w hS; simp only [putW]) | (refine box1 hS rfl rfl rfl rfl ?_; clear hS; intro mb w hS; try simp only [evW, putW] at hS; simp only [putW]) | (refine boxN hS rfl rfl rfl ?_; clear hS; intro mb w hS; simp only [putW]))
              go_meet
              case rel => exact ⟨_, _, _, g, cg, rfl, ht2, hS.conv⟩
            | none =>
              have hr := Lib.hid (ht.of_none hm)
              rcases freeFrom_range R with hf | ⟨j, hf, hin2, pg, y, hR⟩
              · have hg : Hid (giveAt fl m ac.page = -1) := Lib.hid (by unfold giveAt; rw [hm]; show idxFrom fl true 0 = -1; rw [ht.index, hf])
                have hf' := Lib.hid hf
                clear hf
                go_wp2_with (first | (go_at_call 14; refine Calls.mono (give_full (bs := bs) ac.page ac.x hg.out hS) ?_; clear hS; rintro _ w ⟨rfl, hS⟩; simp only [putW]) | (go_at_call 15; refine Calls.mono (refGive_none (L := R) ac.page ac.x hr.out hf'.out ht.len hS) ?_; clear hS; rintro _ w ⟨rfl, hS⟩; simp only [putW]) | (refine load1 hS rfl rfl rfl rfl ?_; simp only [putW]) | (refine loadAll hS rfl rfl rfl ?_ ?_; rfl; simp only [putW]) | (refine loadPart hS rfl rfl rfl ?_ rfl ?_; rfl; simp only [putW]) | (refine store1 hS rfl rfl rfl rfl rfl ?_ ?_; (focus (simp; done)); clear hS; intro w hS; simp only [evW, putW] at hS; try simp only [putW]) | (refine storeAll hS rfl rfl rfl rfl ?_ ?_ ?_ ?_; rfl; (focus (simp [Value.oneCell']; done)); rfl; clear hS; intro w hS; try simp only [putW]) | (refine storeN hS rfl rfl rfl rfl ?_ ?_ ?_ ?_; rfl; (focus (simp [Value.oneCell']; done)); (focus (simp; done)); clear hS; intro w hS; simp at hS; try simp only [putW]) | (refine alloc hS rfl rfl ?_; clear hS; intro mb w hS; simp only [putW]) | (refine box1 hS rfl rfl rfl rfl ?_; clear hS; intro mb w hS; try simp only [evW, putW] at hS; simp only [putW]) | (refine boxN hS rfl rfl rfl ?_; clear hS; intro mb w hS; simp only [putW]))
                go_meet
                case rel => exact ⟨_, _, _, g, cg, rfl, ht, hS.conv⟩
              · have hin : j < n := by rw [← ht.len]; exact hin2
                have ht2 := ht.given ac.x hin (.inr ⟨hm, pg, y, hR⟩)
                have hg : Hid (giveAt fl m ac.page = j) := Lib.hid (by unfold giveAt; rw [hm]; show idxFrom fl true 0 = j; rw [ht.index, hf])
                have h0 : ¬ ((j : Int) < 0) := by omega
                have hf' := Lib.hid hf
                clear hf hR
                go_wp2_with (first | (go_at_call 14; refine Calls.mono (give_any (bs := bs) ac.page ac.x j hin hg.out hS) ?_; clear hS; rintro _ w ⟨rfl, hS⟩; simp only [putW]) | (go_at_call 15; refine Calls.mono (refGive_free (L := R) ac.page ac.x j hr.out hf'.out hin2 ht.len hS) ?_; clear hS; rintro _ w ⟨rfl, hS⟩; simp only [putW]) | (refine load1 hS rfl rfl rfl rfl ?_; simp only [putW]) | (refine loadAll hS rfl rfl rfl ?_ ?_; rfl; simp only [putW]) | (refine loadPart hS rfl rfl rfl ?_ rfl ?_; rfl; simp only [putW]) | (refine store1 hS rfl rfl rfl rfl rfl ?_ ?_; (focus (simp; done)); clear hS; intro w hS; simp only [evW, putW] at hS; try simp only [putW]) | (refine storeAll hS rfl rfl rfl rfl ?_ ?_ ?_ ?_; rfl; (focus (simp [Value.oneCell']; done)); rfl; clear hS; intro w hS; try simp only [putW]) | (refine storeN hS rfl rfl rfl rfl ?_ ?_ ?_ ?_; rfl; (focus (simp [Value.oneCell']; done)); (focus (simp; done)); clear hS; intro w hS; simp at hS; try simp only [putW]) | (refine alloc hS rfl rfl ?_; clear hS; intro mb w hS; simp only [putW]) | (refine box1 hS rfl rfl rfl rfl ?_; clear hS; intro mb w hS; try simp only [evW, putW] at hS; simp only [putW]) | (refine boxN hS rfl rfl rfl ?_; clear hS; intro mb w hS; simp only [putW]))
                go_meet
                case rel => exact ⟨_, _, _, g, cg, rfl, ht2, hS.conv⟩
      case rest =>
        clear hS ht
        obtain ⟨fl, m, R, g, cg, rfl, ht, hS⟩ := hcut
        go_wp2_with fail
        go_loopw [14] (fun kk wr2 => ∃ j : Nat, j ≤ k + 1 ∧ kk = .int .i64 j ∧ Sat w0 ((bs, SlotsC n fl m) :: (g, slc 5 Rs.l R cg 40) :: S) wr2) (fun kk _ => k + 1 - (intOf kk).toNat)
        case atStart => exact ⟨0, by omega, rfl, hS⟩
        case round =>
          clear hS
          obtain ⟨j, hj, rfl, hS⟩ := hrel
          by_cases hjk : j ≤ k
          · obtain ⟨aj, haj⟩ : ∃ aj, L[j]? = some aj := ⟨_, List.getElem?_eq_getElem (by omega)⟩
            cases hm : mget m aj.page with
            | none =>
              have hr := Lib.hid (ht.of_none hm)
              have hq := Lib.hid (show (mget m aj.page).getD noSlot = noSlot by rw [hm]; rfl)
              have ho := Lib.hid (show (mget m aj.page).isSome = false by rw [hm]; rfl)
              go_wp2_with (first | (refine loadB (f := Ac.l) hS rfl rfl rfl hA j 1 ?_ haj rfl ?_; omega; simp only [putW]) | (go_at_call 16; refine Calls.mono (of_any (bs := bs) aj.page noSlot false hS hq.out ho.out) ?_; clear hS; rintro _ w ⟨rfl, hS⟩; simp only [putW]) | (go_at_call 12; refine Calls.mono (refOf_any (L := R) aj.page ht.len hS) ?_; rw [hr.out]; clear hS; rintro _ w ⟨rfl, hS⟩; simp only [putW]) | (refine load1 hS rfl rfl rfl rfl ?_; simp only [putW]) | (refine loadAll hS rfl rfl rfl ?_ ?_; rfl; simp only [putW]) | (refine loadPart hS rfl rfl rfl ?_ rfl ?_; rfl; simp only [putW]) | (refine store1 hS rfl rfl rfl rfl rfl ?_ ?_; (focus (simp; done)); clear hS; intro w hS; simp only [evW, putW] at hS; try simp only [putW]) | (refine storeAll hS rfl rfl rfl rfl ?_ ?_ ?_ ?_; rfl; (focus (simp [Value.oneCell']; done)); rfl; clear hS; intro w hS; try simp only [putW]) | (refine storeN hS rfl rfl rfl rfl ?_ ?_ ?_ ?_; rfl; (focus (simp [Value.oneCell']; done)); (focus (simp; done)); clear hS; intro w hS; simp at hS; try simp only [putW]) | (refine alloc hS rfl rfl ?_; clear hS; intro mb w hS; simp only [putW]) | (refine box1 hS rfl rfl rfl rfl ?_; clear hS; intro mb w hS; try simp only [evW, putW] at hS; simp only [putW]) | (refine boxN hS rfl rfl rfl ?_; clear hS; intro mb w hS; simp only [putW]))
              (refine region_quiet hS (by kernel_rfl) (by kernel_rfl) (by kernel_rfl) ?_; clear hS; (repeat (apply quiet_step; (focus (intro w hS; go_wp2_with (first | (refine load1 hS rfl rfl rfl rfl ?_; simp only [putW]) | (refine loadAll hS rfl rfl rfl ?_ ?_; rfl; simp only [putW]) | (refine loadPart hS rfl rfl rfl ?_ rfl ?_; rfl; simp only [putW])); exact ⟨rfl, rfl, hS⟩)); simp only [putW])); refine quiet_nil ?_; intro w hS)
              go_wp2_with (first | (refine load1 hS rfl rfl rfl rfl ?_; simp only [putW]) | (refine loadAll hS rfl rfl rfl ?_ ?_; rfl; simp only [putW]) | (refine loadPart hS rfl rfl rfl ?_ rfl ?_; rfl; simp only [putW]) | (refine store1 hS rfl rfl rfl rfl rfl ?_ ?_; (focus (simp; done)); clear hS; intro w hS; simp only [evW, putW] at hS; try simp only [putW]) | (refine storeAll hS rfl rfl rfl rfl ?_ ?_ ?_ ?_; rfl; (focus (simp [Value.oneCell']; done)); rfl; clear hS; intro w hS; try simp only [putW]) | (refine storeN hS rfl rfl rfl rfl ?_ ?_ ?_ ?_; rfl; (focus (simp [Value.oneCell']; done)); (focus (simp; done)); clear hS; intro w hS; simp at hS; try simp only [putW]) | (refine alloc hS rfl rfl ?_; clear hS; intro mb w hS; simp only [putW]) | (refine box1 hS rfl rfl rfl rfl ?_; clear hS; intro mb w hS; try simp only [evW, putW] at hS; simp only [putW]) | (refine boxN hS rfl rfl rfl ?_; clear hS; intro mb w hS; simp only [putW]))
              go_roundw
              case rel => exact ⟨j + 1, by omega, by go_num, hS.conv⟩
              case measure => simp [intOf]; omega
            | some q =>
              obtain ⟨i, y⟩ := q
              obtain ⟨hr0, hri, hin⟩ := ht.of_some hm
              have hin2 : i < R.length := by rw [ht.len]; exact hin
              have hr := Lib.hid hr0
              have h0 : (i : Int) ≥ 0 := by omega
              clear hr0
              have hq := Lib.hid (show (mget m aj.page).getD noSlot = (i, y) by rw [hm]; rfl)
              have ho := Lib.hid (show (mget m aj.page).isSome = true by rw [hm]; rfl)
              go_wp2_with (first | (refine loadB (f := Ac.l) hS rfl rfl rfl hA j 1 ?_ haj rfl ?_; omega; simp only [putW]) | (go_at_call 16; refine Calls.mono (of_any (bs := bs) aj.page (i, y) true hS hq.out ho.out) ?_; clear hS; rintro _ w ⟨rfl, hS⟩; simp only [putW]) | (go_at_call 12; refine Calls.mono (refOf_any (L := R) aj.page ht.len hS) ?_; rw [hr.out]; clear hS; rintro _ w ⟨rfl, hS⟩; simp only [putW]) | (refine load1 hS rfl rfl rfl rfl ?_; simp only [putW]) | (refine loadAll hS rfl rfl rfl ?_ ?_; rfl; simp only [putW]) | (refine loadPart hS rfl rfl rfl ?_ rfl ?_; rfl; simp only [putW]) | (refine store1 hS rfl rfl rfl rfl rfl ?_ ?_; (focus (simp; done)); clear hS; intro w hS; simp only [evW, putW] at hS; try simp only [putW]) | (refine storeAll hS rfl rfl rfl rfl ?_ ?_ ?_ ?_; rfl; (focus (simp [Value.oneCell']; done)); rfl; clear hS; intro w hS; try simp only [putW]) | (refine storeN hS rfl rfl rfl rfl ?_ ?_ ?_ ?_; rfl; (focus (simp [Value.oneCell']; done)); (focus (simp; done)); clear hS; intro w hS; simp at hS; try simp only [putW]) | (refine alloc hS rfl rfl ?_; clear hS; intro mb w hS; simp only [putW]) | (refine box1 hS rfl rfl rfl rfl ?_; clear hS; intro mb w hS; try simp only [evW, putW] at hS; simp only [putW]) | (refine boxN hS rfl rfl rfl ?_; clear hS; intro mb w hS; simp only [putW]))
              (refine region_quiet hS (by kernel_rfl) (by kernel_rfl) (by kernel_rfl) ?_; clear hS; (repeat (apply quiet_step; (focus (intro w hS; go_wp2_with (first | (refine loadSN (f := Rs.l) (vs := [.int .u32 y.ep, .int .u32 y.bo, .int .u64 y.sq]) hS rfl rfl rfl i 2 ?_ hri ?_ ?_ ?_; omega; (focus (first | omega | decide)); rfl; simp only [putW]) | (refine load1 hS rfl rfl rfl rfl ?_; simp only [putW]) | (refine loadAll hS rfl rfl rfl ?_ ?_; rfl; simp only [putW]) | (refine loadPart hS rfl rfl rfl ?_ rfl ?_; rfl; simp only [putW])); exact ⟨rfl, rfl, hS⟩)); simp only [putW])); refine quiet_nil ?_; intro w hS)
              go_wp2_with (first | (refine load1 hS rfl rfl rfl rfl ?_; simp only [putW]) | (refine loadAll hS rfl rfl rfl ?_ ?_; rfl; simp only [putW]) | (refine loadPart hS rfl rfl rfl ?_ rfl ?_; rfl; simp only [putW]) | (refine store1 hS rfl rfl rfl rfl rfl ?_ ?_; (focus (simp; done)); clear hS; intro w hS; simp only [evW, putW] at hS; try simp only [putW]) | (refine storeAll hS rfl rfl rfl rfl ?_ ?_ ?_ ?_; rfl; (focus (simp [Value.oneCell']; done)); rfl; clear hS; intro w hS; try simp only [putW]) | (refine storeN hS rfl rfl rfl rfl ?_ ?_ ?_ ?_; rfl; (focus (simp [Value.oneCell']; done)); (focus (simp; done)); clear hS; intro w hS; simp at hS; try simp only [putW]) | (refine alloc hS rfl rfl ?_; clear hS; intro mb w hS; simp only [putW]) | (refine box1 hS rfl rfl rfl rfl ?_; clear hS; intro mb w hS; try simp only [evW, putW] at hS; simp only [putW]) | (refine boxN hS rfl rfl rfl ?_; clear hS; intro mb w hS; simp only [putW]))
              go_roundw
              case rel => exact ⟨j + 1, by omega, by go_num, hS.conv⟩
              case measure => simp [intOf]; omega
          · have hjk2 : j = k + 1 := by omega
            subst hjk2
            go_wp2_with (first | (refine load1 hS rfl rfl rfl rfl ?_; simp only [putW]) | (refine loadAll hS rfl rfl rfl ?_ ?_; rfl; simp only [putW]) | (refine loadPart hS rfl rfl rfl ?_ rfl ?_; rfl; simp only [putW]) | (refine store1 hS rfl rfl rfl rfl rfl ?_ ?_; (focus (simp; done)); clear hS; intro w hS; simp only [evW, putW] at hS; try simp only [putW]) | (refine storeAll hS rfl rfl rfl rfl ?_ ?_ ?_ ?_; rfl; (focus (simp [Value.oneCell']; done)); rfl; clear hS; intro w hS; try simp only [putW]) | (refine storeN hS rfl rfl rfl rfl ?_ ?_ ?_ ?_; rfl; (focus (simp [Value.oneCell']; done)); (focus (simp; done)); clear hS; intro w hS; simp at hS; try simp only [putW]) | (refine alloc hS rfl rfl ?_; clear hS; intro mb w hS; simp only [putW]) | (refine box1 hS rfl rfl rfl rfl ?_; clear hS; intro mb w hS; try simp only [evW, putW] at hS; simp only [putW]) | (refine boxN hS rfl rfl rfl ?_; clear hS; intro mb w hS; simp only [putW]))
            go_roundw
            case rel => exact ⟨k + 1, fl, m, R, g, cg, by omega, by omega, by go_num, rfl, ht, hS⟩
            case measure => simp [intOf]; omega
    · have hend : ¬ (k < L.length) ∨ ¬ (k < 300) := by omega
      rcases hend with hend | hend
      · go_wp2_with (first | (go_at_call 9; refine Calls.mono (awake_any hS) ?_; clear hS; rintro _ w ⟨rfl, hS⟩; simp only [putW]) | (refine load1 hS rfl rfl rfl rfl ?_; simp only [putW]) | (refine loadAll hS rfl rfl rfl ?_ ?_; rfl; simp only [putW]) | (refine loadPart hS rfl rfl rfl ?_ rfl ?_; rfl; simp only [putW]) | (refine store1 hS rfl rfl rfl rfl rfl ?_ ?_; (focus (simp; done)); clear hS; intro w hS; simp only [evW, putW] at hS; try simp only [putW]) | (refine storeAll hS rfl rfl rfl rfl ?_ ?_ ?_ ?_; rfl; (focus (simp [Value.oneCell']; done)); rfl; clear hS; intro w hS; try simp only [putW]) | (refine storeN hS rfl rfl rfl rfl ?_ ?_ ?_ ?_; rfl; (focus (simp [Value.oneCell']; done)); (focus (simp; done)); clear hS; intro w hS; simp at hS; try simp only [putW]) | (refine alloc hS rfl rfl ?_; clear hS; intro mb w hS; simp only [putW]) | (refine box1 hS rfl rfl rfl rfl ?_; clear hS; intro mb w hS; try simp only [evW, putW] at hS; simp only [putW]) | (refine boxN hS rfl rfl rfl ?_; clear hS; intro mb w hS; simp only [putW]))
        go_ret
        exact ⟨rfl, hS.conv⟩
      · by_cases hlt2 : k < L.length
        all_goals
          go_wp2_with (first | (go_at_call 9; refine Calls.mono (awake_any hS) ?_; clear hS; rintro _ w ⟨rfl, hS⟩; simp only [putW]) | (refine load1 hS rfl rfl rfl rfl ?_; simp only [putW]) | (refine loadAll hS rfl rfl rfl ?_ ?_; rfl; simp only [putW]) | (refine loadPart hS rfl rfl rfl ?_ rfl ?_; rfl; simp only [putW]) | (refine store1 hS rfl rfl rfl rfl rfl ?_ ?_; (focus (simp; done)); clear hS; intro w hS; simp only [evW, putW] at hS; try simp only [putW]) | (refine storeAll hS rfl rfl rfl rfl ?_ ?_ ?_ ?_; rfl; (focus (simp [Value.oneCell']; done)); rfl; clear hS; intro w hS; try simp only [putW]) | (refine storeN hS rfl rfl rfl rfl ?_ ?_ ?_ ?_; rfl; (focus (simp [Value.oneCell']; done)); (focus (simp; done)); clear hS; intro w hS; simp at hS; try simp only [putW]) | (refine alloc hS rfl rfl ?_; clear hS; intro mb w hS; simp only [putW]) | (refine box1 hS rfl rfl rfl rfl ?_; clear hS; intro mb w hS; try simp only [evW, putW] at hS; simp only [putW]) | (refine boxN hS rfl rfl rfl ?_; clear hS; intro mb w hS; simp only [putW]))
          go_ret
          exact ⟨rfl, hS.conv⟩
end
end Go.Proofs.Ythlcjefkhlfkpaa
