/-
  tree.Build, refused.
-/
import Derived.Test.YtmhnnppcihoofaaDoorTrBuild
set_option linter.unusedSimpArgs false
set_option linter.unusedVariables false
namespace Go.Proofs.YtmhnnppcihoofaaDoor
open Go.RowKit Go.Proofs.YtmhnnppcihoofaaDoor.Sl Go.Proofs.YtmhnnppcihoofaaDoor.Sha Go.Proofs.YtmhnnppcihoofaaDoor.Jp Go.Proofs.YtmhnnppcihoofaaDoor.Tr

section
variable {w0 w : World} {lg va vb lv : Value} {X : List (Value × List Int)}
abbrev z32 : Value := .agg ((List.replicate 32 (0 : Int)).map u8v).toArray
set_option maxRecDepth 100000 in
set_option maxHeartbeats 1000000 in
theorem build_arg {L : List Int} {P C : Int} {b N H hd J s t : Int} (hR : RR w0 X vb) (hLv : RI w0 L lv) (hC : ((X.length : Nat) : Int) ≠ C) :
    Calls Tryd.prog 15 #[lg, .agg (plL P b C lv N H hd J s t).toArray, vb] w0 fun e w' => e = .returned (.tuple #[.slice none 0 0, z32, .int .i64 1]) ∧ Sat w0 [] w' := by
  have hS := Sat.refl w0
  obtain ⟨a0, c0, hvb, hn⟩ := rrShape hR
  subst hvb
  obtain ⟨a1, c1, hlv, hn1, _⟩ := hLv.at
  subst hlv
  go_enter Tryd.func15, Tryd.ntmps15
  go_wp2_with (first | (refine allocA (t := 23) (vv := u8v) hS rfl rfl (List.replicate 32 0) zeros32 ?_; clear hS; intro mo w hS; simp only [putW]) | (refine storeAllA (vv := u8v) hS rfl rfl rfl (List.replicate 32 0) rfl rfl (fun _ _ => rfl) (by simp) ?_; clear hS; intro w hS; try simp only [putW]) | (refine load1 hS rfl rfl rfl rfl ?_; simp only [putW]) | (refine loadAll hS rfl rfl rfl ?_ ?_; rfl; simp only [putW]) | (refine loadPart hS rfl rfl rfl ?_ rfl ?_; rfl; simp only [putW]) | (refine store1 hS rfl rfl rfl rfl rfl ?_ ?_; (focus (simp; done)); clear hS; intro w hS; simp only [evW, putW] at hS; try simp only [putW]) | (refine storeAll hS rfl rfl rfl rfl ?_ ?_ ?_ ?_; rfl; (focus (simp [Value.oneCell']; done)); rfl; clear hS; intro w hS; try simp only [putW]) | (refine storeN hS rfl rfl rfl rfl ?_ ?_ ?_ ?_; rfl; (focus (simp [Value.oneCell']; done)); (focus (simp; done)); clear hS; intro w hS; simp at hS; try simp only [putW]) | (refine alloc hS rfl rfl ?_; clear hS; intro mb w hS; simp only [putW]) | (refine box1 hS rfl rfl rfl rfl ?_; clear hS; intro mb w hS; try simp only [evW, putW] at hS; simp only [putW]) | (refine boxN hS rfl rfl rfl ?_; clear hS; intro mb w hS; simp only [putW]))
  have hr := run_loadAll (P := Tryd.prog) hS mo 23 (by simp)
  refine bodyPost_ret (v := .tuple #[.slice none 0 0, z32, .int .i64 1]) (by simp [results, Tryd.results15, asAddr, hr]) rfl ⟨rfl, hS.nothing⟩
set_option maxRecDepth 100000 in
set_option maxHeartbeats 1000000 in
theorem build_form {L : List Int} {P : Int} {C : Nat} {b N H hd J s t : Int} (hR : RR w0 X vb) (hLv : RI w0 L lv) (hL0 : L ≠ []) (hC : X.length = C) (hbad : ∃ x ∈ X, x.2.length ≠ 256) :
    Calls Tryd.prog 15 #[lg, .agg (plL P b C lv N H hd J s t).toArray, vb] w0 fun e w' => e = .returned (.tuple #[.slice none 0 0, z32, .int .i64 3]) ∧ Sat w0 [] w' := by
  have hS := Sat.refl w0
  obtain ⟨a0, c0, hvb, hn, hat⟩ := hR.at
  subst hvb
  obtain ⟨a1, c1, hlv, hn1, _⟩ := hLv.at
  subst hlv
  have hl1 : 0 < L.length := List.length_pos_iff.2 hL0
  obtain ⟨bb, ob, rfl, hBb⟩ := hat (by intro e; subst e; obtain ⟨x, hx, _⟩ := hbad; cases hx)
  have Hbad : Bx _ := ⟨hbad⟩
  clear hat hR hLv hL0 hbad
  rw [hC]
  rw [hC] at hn
  go_enter Tryd.func15, Tryd.ntmps15
  go_wp2_with (first | (refine allocA (t := 23) (vv := u8v) hS rfl rfl (List.replicate 32 0) zeros32 ?_; clear hS; intro mo w hS; simp only [putW]) | (refine load1 hS rfl rfl rfl rfl ?_; simp only [putW]) | (refine loadAll hS rfl rfl rfl ?_ ?_; rfl; simp only [putW]) | (refine loadPart hS rfl rfl rfl ?_ rfl ?_; rfl; simp only [putW]) | (refine store1 hS rfl rfl rfl rfl rfl ?_ ?_; (focus (simp; done)); clear hS; intro w hS; simp only [evW, putW] at hS; try simp only [putW]) | (refine storeAll hS rfl rfl rfl rfl ?_ ?_ ?_ ?_; rfl; (focus (simp [Value.oneCell']; done)); rfl; clear hS; intro w hS; try simp only [putW]) | (refine storeN hS rfl rfl rfl rfl ?_ ?_ ?_ ?_; rfl; (focus (simp [Value.oneCell']; done)); (focus (simp; done)); clear hS; intro w hS; simp at hS; try simp only [putW]) | (refine alloc hS rfl rfl ?_; clear hS; intro mb w hS; simp only [putW]) | (refine box1 hS rfl rfl rfl rfl ?_; clear hS; intro mb w hS; try simp only [evW, putW] at hS; simp only [putW]) | (refine boxN hS rfl rfl rfl ?_; clear hS; intro mb w hS; simp only [putW]))
  go_loopw [29] (fun i wr => ∃ k : Nat, k ≤ C ∧ i = .int .i64 k ∧ Bx (∀ i x, X[i]? = some x → i < k → x.2.length = 256) ∧ Sat w0 _ wr) (fun i _ => C - (intOf i).toNat)
  case atStart => exact ⟨0, Nat.zero_le _, rfl, ⟨fun i x _ h => by omega⟩, hS⟩
  case round =>
    clear hS
    obtain ⟨k, hk, rfl, hinv, hS⟩ := hrel
    by_cases hlt : k < C
    · obtain ⟨⟨xv, xl⟩, hx⟩ : ∃ x, X[k]? = some x := ⟨_, List.getElem?_eq_getElem (by omega)⟩
      obtain ⟨px, cx, hxv, _⟩ := (hBb.2 k _ hx).1.at
      by_cases h256 : xl.length = 256
      · have hxv2 : xv = .slice px 256 cx := by rw [← h256]; exact hxv
        subst hxv2
        have hinv2 : Bx (∀ i x, X[i]? = some x → i < k + 1 → x.2.length = 256) := ⟨fun i x hi hlt => by
          by_cases h : i = k
          · subst h; rw [hx] at hi; cases hi; exact h256
          · exact hinv.out i x hi (by omega)⟩
        clear h256 hxv
        go_wp2_with (first | (refine loadB (f := rowF) hS rfl rfl rfl hBb k 0 ?_ hx rfl ?_; omega; simp only [putW]) | (refine load1 hS rfl rfl rfl rfl ?_; simp only [putW]) | (refine loadAll hS rfl rfl rfl ?_ ?_; rfl; simp only [putW]) | (refine loadPart hS rfl rfl rfl ?_ rfl ?_; rfl; simp only [putW]) | (refine store1 hS rfl rfl rfl rfl rfl ?_ ?_; (focus (simp; done)); clear hS; intro w hS; simp only [evW, putW] at hS; try simp only [putW]) | (refine storeAll hS rfl rfl rfl rfl ?_ ?_ ?_ ?_; rfl; (focus (simp [Value.oneCell']; done)); rfl; clear hS; intro w hS; try simp only [putW]) | (refine storeN hS rfl rfl rfl rfl ?_ ?_ ?_ ?_; rfl; (focus (simp [Value.oneCell']; done)); (focus (simp; done)); clear hS; intro w hS; simp at hS; try simp only [putW]) | (refine alloc hS rfl rfl ?_; clear hS; intro mb w hS; simp only [putW]) | (refine box1 hS rfl rfl rfl rfl ?_; clear hS; intro mb w hS; try simp only [evW, putW] at hS; simp only [putW]) | (refine boxN hS rfl rfl rfl ?_; clear hS; intro mb w hS; simp only [putW]))
        go_roundw
        case rel => exact ⟨k + 1, by omega, by go_num, hinv2, hS⟩
        case measure => simp [intOf]; omega
      · obtain ⟨xn, hxn⟩ : ∃ n, xl.length = n := ⟨_, rfl⟩
        rw [hxn] at hxv h256
        subst hxv
        clear hxn
        go_wp2_with (first | (refine loadB (f := rowF) hS rfl rfl rfl hBb k 0 ?_ hx rfl ?_; omega; simp only [putW]) | (refine storeAllA (vv := u8v) hS rfl rfl rfl (List.replicate 32 0) rfl rfl (fun _ _ => rfl) (by simp) ?_; clear hS; intro w hS; try simp only [putW]) | (refine load1 hS rfl rfl rfl rfl ?_; simp only [putW]) | (refine loadAll hS rfl rfl rfl ?_ ?_; rfl; simp only [putW]) | (refine loadPart hS rfl rfl rfl ?_ rfl ?_; rfl; simp only [putW]) | (refine store1 hS rfl rfl rfl rfl rfl ?_ ?_; (focus (simp; done)); clear hS; intro w hS; simp only [evW, putW] at hS; try simp only [putW]) | (refine storeAll hS rfl rfl rfl rfl ?_ ?_ ?_ ?_; rfl; (focus (simp [Value.oneCell']; done)); rfl; clear hS; intro w hS; try simp only [putW]) | (refine storeN hS rfl rfl rfl rfl ?_ ?_ ?_ ?_; rfl; (focus (simp [Value.oneCell']; done)); (focus (simp; done)); clear hS; intro w hS; simp at hS; try simp only [putW]) | (refine alloc hS rfl rfl ?_; clear hS; intro mb w hS; simp only [putW]) | (refine box1 hS rfl rfl rfl rfl ?_; clear hS; intro mb w hS; try simp only [evW, putW] at hS; simp only [putW]) | (refine boxN hS rfl rfl rfl ?_; clear hS; intro mb w hS; simp only [putW]))
        have hr := run_loadAll (P := Tryd.prog) hS mo 23 (by simp)
        refine bodyPost_ret (v := .tuple #[.slice none 0 0, z32, .int .i64 3]) (by simp [results, Tryd.results15, asAddr, hr]) rfl ⟨rfl, hS.nothing⟩
    · obtain ⟨x, hx, hne⟩ := Hbad.out
      obtain ⟨i, hi, he⟩ := List.mem_iff_getElem.1 hx
      exact absurd (hinv.out i x (by rw [List.getElem?_eq_getElem hi, he]) (by omega)) hne
end
end Go.Proofs.YtmhnnppcihoofaaDoor
