/-
  TreeChecks: the walk.
-/
import Derived.Test.YteiglillnogoaaaDoorTrCheckR
import Derived.Test.YteiglillnogoaaaDoorTrAwake
set_option linter.unusedSimpArgs false
set_option linter.unusedVariables false
namespace Go.Proofs.YteiglillnogoaaaDoor.TreeChecksDone
open Go.RowKit Go.Proofs.YteiglillnogoaaaDoor Go.Proofs.YteiglillnogoaaaDoor.Sl Go.Proofs.YteiglillnogoaaaDoor.Sha Go.Proofs.YteiglillnogoaaaDoor.Jp Go.Proofs.YteiglillnogoaaaDoor.Tr

section
variable {w0 w : World} {lv vb : Value} {b hd J s t : Int} {P C n1 N : Nat} {L T : List Nat} {X : List (Value × List Int)} {R : List Int}
theorem check_nil {page : Nat} {pi : Int} {rows : List Row} {r : Int} (hpi : pi = (page : Int)) (hL : RI w (lvs n1 N) lv) (hR : RR w X vb) (hK : KTab w) (hP : P ≤ 100000) (hC : C ≤ 100000) (hn : n1 ≤ 100000) (hN : (N = n1 ∧ n1 = 1) ∨ (N = n1 + 1 ∧ 2 ≤ n1)) (hp : page < P) (hc : Chain P C n1 N page L T) (hRl : R.length = 32) (hRb : ∀ x ∈ R, okByte x)
    (hrows : X.map (·.2) = rows) (hr : chkAll L T rows R = r) :
    Calls Tryd.prog 25 #[.pointer none, .agg (plL P b C lv N ((P : Int) + C + N) hd J s t).toArray, .int .i64 pi, vb, .agg (R.map u8v).toArray] w fun e w' => e = .returned (.int .i64 r) ∧ Sat w [] w' :=
  (check_any (Ps := []) hpi (logNil (Sat.refl w) []) (fun w' h => hL.mono h.base) (fun w' h => hR.mono h.base) hK hP hC hn hN hp hc hRl hRb (by simp) hrows hr).mono fun e w' ⟨h1, q, _, _, h2⟩ => ⟨h1, h2.tail⟩
set_option maxRecDepth 100000 in
set_option maxHeartbeats 4000000 in
theorem core (x y : Int) (hX : RR w0 X vb) (hRl : R.length = 32) (hRb : ∀ x ∈ R, okByte x) (hK : KTab w0) : Calls Tryd.prog 6 #[.int .i64 x, .int .i64 y, vb, .agg (R.map u8v).toArray] w0 fun e w' => e = .returned (.bool true) ∧ Sat w0 [] w' := by
  have hS := Sat.refl w0
  obtain ⟨a, c, rfl, hln, hat⟩ := hX.at
  have Hat : Bx _ := ⟨hat⟩
  have HX : Bx _ := ⟨hX⟩
  have HRl : Bx _ := ⟨hRl⟩
  have HRb : Bx _ := ⟨hRb⟩
  clear hat hX
  obtain ⟨n, hn⟩ : ∃ n, X.length = n := ⟨_, rfl⟩
  rw [hn] at hln HX ⊢
  have Hn : Bx _ := ⟨hn⟩
  clear hn
  by_cases h9 : n ≤ 9
  · go_enter Tryd.func6, Tryd.ntmps6
    go_wp2_with (first | (refine boxA (vv := u8v) hS rfl rfl R rfl ?_; clear hS; intro mr w hS; simp only [putW]) | (refine load1 hS rfl rfl rfl rfl ?_; simp only [putW]) | (refine loadAll hS rfl rfl rfl ?_ ?_; rfl; simp only [putW]) | (refine loadPart hS rfl rfl rfl ?_ rfl ?_; rfl; simp only [putW]) | (refine store1 hS rfl rfl rfl rfl rfl ?_ ?_; (focus (simp; done)); clear hS; intro w hS; simp only [evW, putW] at hS; try simp only [putW]) | (refine storeAll hS rfl rfl rfl rfl ?_ ?_ ?_ ?_; rfl; (focus (simp [Value.oneCell']; done)); rfl; clear hS; intro w hS; try simp only [putW]) | (refine storeN hS rfl rfl rfl rfl ?_ ?_ ?_ ?_; rfl; (focus (simp [Value.oneCell']; done)); (focus (simp; done)); clear hS; intro w hS; simp at hS; try simp only [putW]) | (refine alloc hS rfl rfl ?_; clear hS; intro mb w hS; simp only [putW]) | (refine box1 hS rfl rfl rfl rfl ?_; clear hS; intro mb w hS; try simp only [evW, putW] at hS; simp only [putW]) | (refine boxN hS rfl rfl rfl ?_; clear hS; intro mb w hS; simp only [putW]))
    go_loopw [9] (fun i' wr => ∃ i : Nat, i ≤ n ∧ i' = .int .i64 i ∧ Sat w0 _ wr) (fun i' _ => n - (intOf i').toNat)
    case atStart => exact ⟨0, Nat.zero_le _, rfl, hS⟩
    case round =>
      clear hS
      obtain ⟨i, hi, rfl, hS⟩ := hrel
      by_cases hlt : i < n
      · obtain ⟨⟨xv, xl⟩, hx⟩ : ∃ x, X[i]? = some x := ⟨_, List.getElem?_eq_getElem (by rw [Hn.out]; exact hlt)⟩
        obtain ⟨bb, ob, rfl, hBb⟩ := Hat.out (by intro e; subst e; simp at hx)
        obtain ⟨px, cx, hxv, hxl, _⟩ := (hBb.2 i _ hx).1.at
        obtain ⟨xn, hxn⟩ : ∃ xn, xl.length = xn := ⟨_, rfl⟩
        have hxv2 : xv = .slice px xn cx := by rw [← hxn]; exact hxv
        subst hxv2
        have hxl2 : xn ≤ 9223372036854775807 := by rw [← hxn]; exact hxl
        clear hxv hxl hxn
        by_cases h3 : xn ≤ 300
        · go_wp2_with (first | (refine loadB (f := rowF) hS rfl rfl rfl hBb i 0 ?_ hx rfl ?_; omega; simp only [putW]) | (refine load1 hS rfl rfl rfl rfl ?_; simp only [putW]) | (refine loadAll hS rfl rfl rfl ?_ ?_; rfl; simp only [putW]) | (refine loadPart hS rfl rfl rfl ?_ rfl ?_; rfl; simp only [putW]) | (refine store1 hS rfl rfl rfl rfl rfl ?_ ?_; (focus (simp; done)); clear hS; intro w hS; simp only [evW, putW] at hS; try simp only [putW]) | (refine storeAll hS rfl rfl rfl rfl ?_ ?_ ?_ ?_; rfl; (focus (simp [Value.oneCell']; done)); rfl; clear hS; intro w hS; try simp only [putW]) | (refine storeN hS rfl rfl rfl rfl ?_ ?_ ?_ ?_; rfl; (focus (simp [Value.oneCell']; done)); (focus (simp; done)); clear hS; intro w hS; simp at hS; try simp only [putW]) | (refine alloc hS rfl rfl ?_; clear hS; intro mb w hS; simp only [putW]) | (refine box1 hS rfl rfl rfl rfl ?_; clear hS; intro mb w hS; try simp only [evW, putW] at hS; simp only [putW]) | (refine boxN hS rfl rfl rfl ?_; clear hS; intro mb w hS; simp only [putW]))
          go_roundw
          case rel => exact ⟨i + 1, by omega, by go_num, hS⟩
          case measure => simp [intOf]; omega
        · have h3' : 300 < xn := by omega
          go_wp2_with (first | (refine loadB (f := rowF) hS rfl rfl rfl hBb i 0 ?_ hx rfl ?_; omega; simp only [putW]) | (go_at_call 15; refine Calls.mono (awake_any (hK.mono hS.base)) ?_; rintro _ w2 ⟨rfl, h2⟩; replace hS := hS.frame h2; clear h2; (try simp only [List.cons_append, List.nil_append] at hS); simp only [putW]) | (refine load1 hS rfl rfl rfl rfl ?_; simp only [putW]) | (refine loadAll hS rfl rfl rfl ?_ ?_; rfl; simp only [putW]) | (refine loadPart hS rfl rfl rfl ?_ rfl ?_; rfl; simp only [putW]) | (refine store1 hS rfl rfl rfl rfl rfl ?_ ?_; (focus (simp; done)); clear hS; intro w hS; simp only [evW, putW] at hS; try simp only [putW]) | (refine storeAll hS rfl rfl rfl rfl ?_ ?_ ?_ ?_; rfl; (focus (simp [Value.oneCell']; done)); rfl; clear hS; intro w hS; try simp only [putW]) | (refine storeN hS rfl rfl rfl rfl ?_ ?_ ?_ ?_; rfl; (focus (simp [Value.oneCell']; done)); (focus (simp; done)); clear hS; intro w hS; simp at hS; try simp only [putW]) | (refine alloc hS rfl rfl ?_; clear hS; intro mb w hS; simp only [putW]) | (refine box1 hS rfl rfl rfl rfl ?_; clear hS; intro mb w hS; try simp only [evW, putW] at hS; simp only [putW]) | (refine boxN hS rfl rfl rfl ?_; clear hS; intro mb w hS; simp only [putW]))
          go_ret
          exact ⟨rfl, hS.nothing⟩
      · have hin : i = n := by omega
        subst hin
        go_wp2_with (first | (guard_target =~ Calls _ 8 _ _ _; refine Stopped.out ?_) | (refine load1 hS rfl rfl rfl rfl ?_; simp only [putW]) | (refine loadAll hS rfl rfl rfl ?_ ?_; rfl; simp only [putW]) | (refine loadPart hS rfl rfl rfl ?_ rfl ?_; rfl; simp only [putW]) | (refine store1 hS rfl rfl rfl rfl rfl ?_ ?_; (focus (simp; done)); clear hS; intro w hS; simp only [evW, putW] at hS; try simp only [putW]) | (refine storeAll hS rfl rfl rfl rfl ?_ ?_ ?_ ?_; rfl; (focus (simp [Value.oneCell']; done)); rfl; clear hS; intro w hS; try simp only [putW]) | (refine storeN hS rfl rfl rfl rfl ?_ ?_ ?_ ?_; rfl; (focus (simp [Value.oneCell']; done)); (focus (simp; done)); clear hS; intro w hS; simp at hS; try simp only [putW]) | (refine alloc hS rfl rfl ?_; clear hS; intro mb w hS; simp only [putW]) | (refine box1 hS rfl rfl rfl rfl ?_; clear hS; intro mb w hS; try simp only [evW, putW] at hS; simp only [putW]) | (refine boxN hS rfl rfl rfl ?_; clear hS; intro mb w hS; simp only [putW]))
        refine ⟨?_⟩
        (refine Calls.mono (made_any (F := []) x (.inl ⟨rfl, .inl rfl⟩)) ?_; rintro _ w2 ⟨lv, vq, Y, rfl, hY, hYr, h2⟩; replace hS := hS.frame h2; clear h2; (try simp only [List.cons_append, List.nil_append] at hS); simp only [putW])
        obtain ⟨hp1, hp3, -⟩ := nP_le x
        generalize nP x = P at *
        have hcp := c_pos hp1
        have hcl := c_le hp3
        have hfit := c_fit hp1 hp3
        have hor := cN_or hp1
        have hm1 : 0 < (lvs (cL P) (cN P)).length := by unfold lvs; split <;> simp
        have hP16 : P ≤ 16 * cC P := by unfold cC; omega
        have hC8 : cC P ≤ 8 * cL P := by omega
        obtain ⟨gl, cl, rfl, hS2⟩ := (hS.pull (blk lv) (X := sl 1 i64 (lvs (cL P) (cN P)) 3 lv)).slForm (lvs (cL P) (cN P)).length rfl hm1
        clear hS
        have hS := hS2
        clear hS2 hY hYr hm1
        have hriL : ∀ {w' : World} {S0 F0 : List Chunk} [PullSl S0 (.slice (some ⟨gl, 0, none⟩) (lvs (cL P) (cN P)).length cl) gl 1 i64 (lvs (cL P) (cN P)) 3 F0], Sat w0 S0 w' → RI w' (lvs (cL P) (cN P)) (.slice (some ⟨gl, 0, none⟩) (lvs (cL P) (cN P)).length cl) := fun h => h.readsSl (v := .slice (some ⟨gl, 0, none⟩) (lvs (cL P) (cN P)).length cl) (g := gl) (L := lvs (cL P) (cN P)) fun _ _ => trivial
        by_cases hpg : 0 ≤ y ∧ y < (P : Int)
        · obtain ⟨page, rfl⟩ : ∃ p : Nat, y = p := ⟨y.toNat, by omega⟩
          have hpp : page < P := by omega
          obtain ⟨L, T, hch⟩ := chain_made hpp hP16 hC8 (by omega) hor
          obtain ⟨r, hr⟩ : ∃ r, chkAll L T (X.map (·.2)) R = r := ⟨_, rfl⟩
          have Hr : Bx _ := ⟨hr⟩
          have Hch : Bx _ := ⟨hch⟩
          have Hor : Bx _ := ⟨hor⟩
          have h1 : P ≤ 100000 := by omega
          have h2 : cC P ≤ 100000 := by omega
          have h3 : cL P ≤ 100000 := by omega
          clear hr hch hor
          go_upto_region 9 with (first | (refine load1 hS rfl rfl rfl rfl ?_; simp only [putW]) | (refine loadAll hS rfl rfl rfl ?_ ?_; rfl; simp only [putW]) | (refine loadPart hS rfl rfl rfl ?_ rfl ?_; rfl; simp only [putW]) | (refine store1 hS rfl rfl rfl rfl rfl ?_ ?_; (focus (simp; done)); clear hS; intro w hS; simp only [evW, putW] at hS; try simp only [putW]) | (refine storeAll hS rfl rfl rfl rfl ?_ ?_ ?_ ?_; rfl; (focus (simp [Value.oneCell']; done)); rfl; clear hS; intro w hS; try simp only [putW]) | (refine storeN hS rfl rfl rfl rfl ?_ ?_ ?_ ?_; rfl; (focus (simp [Value.oneCell']; done)); (focus (simp; done)); clear hS; intro w hS; simp at hS; try simp only [putW]) | (refine alloc hS rfl rfl ?_; clear hS; intro mb w hS; simp only [putW]) | (refine box1 hS rfl rfl rfl rfl ?_; clear hS; intro mb w hS; try simp only [evW, putW] at hS; simp only [putW]) | (refine boxN hS rfl rfl rfl ?_; clear hS; intro mb w hS; simp only [putW]))
          (refine region_quiet hS (by kernel_rfl) (by kernel_rfl) (by kernel_rfl) ?_; clear hS; (repeat (apply quiet_step; (focus (intro w hS; go_wp2_with (first | (refine loadAllA (l := R) (vv := u8v) hS rfl rfl rfl HRl.out ?_; simp only [putW]) | (go_at_call 25; refine Calls.mono (check_nil (X := X) (R := R) rfl (hriL hS) (HX.out.mono hS.base) (hK.mono hS.base) h1 h2 h3 Hor.out hpp Hch.out HRl.out HRb.out rfl Hr.out) ?_; rintro _ w2 ⟨rfl, h2⟩; replace hS := hS.frame h2; clear h2; (try simp only [List.cons_append, List.nil_append] at hS); simp only [putW]) | (go_at_call 26; refine Calls.mono (refCheck_any (X := X) (R := R) rfl (hriL hS) (HX.out.mono hS.base) h1 h2 h3 Hor.out hpp Hch.out HRl.out HRb.out rfl Hr.out) ?_; rintro _ w2 ⟨rfl, h2⟩; replace hS := hS.frame h2; clear h2; (try simp only [List.cons_append, List.nil_append] at hS); simp only [putW]) | (go_at_call 15; refine Calls.mono (awake_any (hK.mono hS.base)) ?_; rintro _ w2 ⟨rfl, h2⟩; replace hS := hS.frame h2; clear h2; (try simp only [List.cons_append, List.nil_append] at hS); simp only [putW]) | (refine load1 hS rfl rfl rfl rfl ?_; simp only [putW]) | (refine loadAll hS rfl rfl rfl ?_ ?_; rfl; simp only [putW]) | (refine loadPart hS rfl rfl rfl ?_ rfl ?_; rfl; simp only [putW])); exact ⟨rfl, rfl, hS⟩)); simp only [putW])); refine quiet_nil ?_; intro w hS)
          go_wp2_with (first | (refine load1 hS rfl rfl rfl rfl ?_; simp only [putW]) | (refine loadAll hS rfl rfl rfl ?_ ?_; rfl; simp only [putW]) | (refine loadPart hS rfl rfl rfl ?_ rfl ?_; rfl; simp only [putW]) | (refine store1 hS rfl rfl rfl rfl rfl ?_ ?_; (focus (simp; done)); clear hS; intro w hS; simp only [evW, putW] at hS; try simp only [putW]) | (refine storeAll hS rfl rfl rfl rfl ?_ ?_ ?_ ?_; rfl; (focus (simp [Value.oneCell']; done)); rfl; clear hS; intro w hS; try simp only [putW]) | (refine storeN hS rfl rfl rfl rfl ?_ ?_ ?_ ?_; rfl; (focus (simp [Value.oneCell']; done)); (focus (simp; done)); clear hS; intro w hS; simp at hS; try simp only [putW]) | (refine alloc hS rfl rfl ?_; clear hS; intro mb w hS; simp only [putW]) | (refine box1 hS rfl rfl rfl rfl ?_; clear hS; intro mb w hS; try simp only [evW, putW] at hS; simp only [putW]) | (refine boxN hS rfl rfl rfl ?_; clear hS; intro mb w hS; simp only [putW]))
          go_ret
          exact ⟨rfl, hS.nothing⟩
        · have hbad : y < 0 ∨ (P : Int) ≤ y := by omega
          have Hbad : Bx _ := ⟨hbad⟩
          clear hbad hpg
          go_upto_region 9 with (first | (refine load1 hS rfl rfl rfl rfl ?_; simp only [putW]) | (refine loadAll hS rfl rfl rfl ?_ ?_; rfl; simp only [putW]) | (refine loadPart hS rfl rfl rfl ?_ rfl ?_; rfl; simp only [putW]) | (refine store1 hS rfl rfl rfl rfl rfl ?_ ?_; (focus (simp; done)); clear hS; intro w hS; simp only [evW, putW] at hS; try simp only [putW]) | (refine storeAll hS rfl rfl rfl rfl ?_ ?_ ?_ ?_; rfl; (focus (simp [Value.oneCell']; done)); rfl; clear hS; intro w hS; try simp only [putW]) | (refine storeN hS rfl rfl rfl rfl ?_ ?_ ?_ ?_; rfl; (focus (simp [Value.oneCell']; done)); (focus (simp; done)); clear hS; intro w hS; simp at hS; try simp only [putW]) | (refine alloc hS rfl rfl ?_; clear hS; intro mb w hS; simp only [putW]) | (refine box1 hS rfl rfl rfl rfl ?_; clear hS; intro mb w hS; try simp only [evW, putW] at hS; simp only [putW]) | (refine boxN hS rfl rfl rfl ?_; clear hS; intro mb w hS; simp only [putW]))
          (refine region_quiet hS (by kernel_rfl) (by kernel_rfl) (by kernel_rfl) ?_; clear hS; (repeat (apply quiet_step; (focus (intro w hS; go_wp2_with (first | (refine loadAllA (l := R) (vv := u8v) hS rfl rfl rfl HRl.out ?_; simp only [putW]) | (go_at_call 25; refine Calls.mono (check_bad (R := R) Hbad.out rfl HRl.out) ?_; rintro _ w2 ⟨rfl, h2⟩; replace hS := hS.frame h2; clear h2; (try simp only [List.cons_append, List.nil_append] at hS); simp only [putW]) | (go_at_call 26; refine Calls.mono (refCheck_bad (R := R) Hbad.out rfl HRl.out) ?_; rintro _ w2 ⟨rfl, h2⟩; replace hS := hS.frame h2; clear h2; (try simp only [List.cons_append, List.nil_append] at hS); simp only [putW]) | (go_at_call 15; refine Calls.mono (awake_any (hK.mono hS.base)) ?_; rintro _ w2 ⟨rfl, h2⟩; replace hS := hS.frame h2; clear h2; (try simp only [List.cons_append, List.nil_append] at hS); simp only [putW]) | (refine load1 hS rfl rfl rfl rfl ?_; simp only [putW]) | (refine loadAll hS rfl rfl rfl ?_ ?_; rfl; simp only [putW]) | (refine loadPart hS rfl rfl rfl ?_ rfl ?_; rfl; simp only [putW])); exact ⟨rfl, rfl, hS⟩)); simp only [putW])); refine quiet_nil ?_; intro w hS)
          go_wp2_with (first | (refine load1 hS rfl rfl rfl rfl ?_; simp only [putW]) | (refine loadAll hS rfl rfl rfl ?_ ?_; rfl; simp only [putW]) | (refine loadPart hS rfl rfl rfl ?_ rfl ?_; rfl; simp only [putW]) | (refine store1 hS rfl rfl rfl rfl rfl ?_ ?_; (focus (simp; done)); clear hS; intro w hS; simp only [evW, putW] at hS; try simp only [putW]) | (refine storeAll hS rfl rfl rfl rfl ?_ ?_ ?_ ?_; rfl; (focus (simp [Value.oneCell']; done)); rfl; clear hS; intro w hS; try simp only [putW]) | (refine storeN hS rfl rfl rfl rfl ?_ ?_ ?_ ?_; rfl; (focus (simp [Value.oneCell']; done)); (focus (simp; done)); clear hS; intro w hS; simp at hS; try simp only [putW]) | (refine alloc hS rfl rfl ?_; clear hS; intro mb w hS; simp only [putW]) | (refine box1 hS rfl rfl rfl rfl ?_; clear hS; intro mb w hS; try simp only [evW, putW] at hS; simp only [putW]) | (refine boxN hS rfl rfl rfl ?_; clear hS; intro mb w hS; simp only [putW]))
          go_ret
          exact ⟨rfl, hS.nothing⟩
  · have h9' : 9 < n := by omega
    go_enter Tryd.func6, Tryd.ntmps6
    go_wp2_with (first | (refine boxA (vv := u8v) hS rfl rfl R rfl ?_; clear hS; intro mr w hS; simp only [putW]) | (go_at_call 15; refine Calls.mono (awake_any (hK.mono hS.base)) ?_; rintro _ w2 ⟨rfl, h2⟩; replace hS := hS.frame h2; clear h2; (try simp only [List.cons_append, List.nil_append] at hS); simp only [putW]) | (refine load1 hS rfl rfl rfl rfl ?_; simp only [putW]) | (refine loadAll hS rfl rfl rfl ?_ ?_; rfl; simp only [putW]) | (refine loadPart hS rfl rfl rfl ?_ rfl ?_; rfl; simp only [putW]) | (refine store1 hS rfl rfl rfl rfl rfl ?_ ?_; (focus (simp; done)); clear hS; intro w hS; simp only [evW, putW] at hS; try simp only [putW]) | (refine storeAll hS rfl rfl rfl rfl ?_ ?_ ?_ ?_; rfl; (focus (simp [Value.oneCell']; done)); rfl; clear hS; intro w hS; try simp only [putW]) | (refine storeN hS rfl rfl rfl rfl ?_ ?_ ?_ ?_; rfl; (focus (simp [Value.oneCell']; done)); (focus (simp; done)); clear hS; intro w hS; simp at hS; try simp only [putW]) | (refine alloc hS rfl rfl ?_; clear hS; intro mb w hS; simp only [putW]) | (refine box1 hS rfl rfl rfl rfl ?_; clear hS; intro mb w hS; try simp only [evW, putW] at hS; simp only [putW]) | (refine boxN hS rfl rfl rfl ?_; clear hS; intro mb w hS; simp only [putW]))
    go_ret
    exact ⟨rfl, hS.nothing⟩
end
end Go.Proofs.YteiglillnogoaaaDoor.TreeChecksDone
