/-
  GhostHonest: the walk.
-/
import Derived.Test.YteoidocicjlglaaDoorGhPlay
import Derived.Test.YteoidocicjlglaaDoorGhAwake
set_option linter.unusedSimpArgs false
set_option linter.unusedVariables false
namespace Go.Proofs.YteoidocicjlglaaDoor.GhostHonestDone
open Go.RowKit Go.Proofs.YteoidocicjlglaaDoor Go.Proofs.YteoidocicjlglaaDoor.Sl Go.Proofs.YteoidocicjlglaaDoor.Sha Go.Proofs.YteoidocicjlglaaDoor.Jp

/-- What came in as hashes. -/
structure HashOk (k : Nat) (Ps : List (List Int × List Int)) : Prop where
  le : Ps.length ≤ k
  is : ∀ p ∈ Ps, p.2 = shaF p.1 ∧ (∀ b ∈ p.1, okByte b) ∧ p.1.length ≤ 10000
theorem HashOk.add {k : Nat} {Ps : List (List Int × List Int)} {A : List Int} (h : HashOk k Ps) (hb : ∀ b ∈ A, okByte b) (hl : A.length ≤ 10000) : HashOk (k + 1) (Ps ++ [(A, shaF A)]) :=
  ⟨by have := h.le; simp; omega, fun p hp => by
    rcases List.mem_append.1 hp with hp | hp
    · exact h.is p hp
    · rw [List.mem_singleton.1 hp]; exact ⟨rfl, hb, hl⟩⟩
theorem HashOk.oks {k : Nat} {Ps : List (List Int × List Int)} (h : HashOk k Ps) : ∀ p ∈ Ps, (∀ b ∈ p.1, okByte b) ∧ p.1.length ≤ 100000000000 ∧ p.2.length = 32 ∧ ∀ b ∈ p.2, okByte b := fun p hp => by
  obtain ⟨h1, h2, h3⟩ := h.is p hp
  exact ⟨h2, Nat.le_trans h3 (by omega), by rw [h1]; exact dig_len _, by rw [h1]; exact dig_byte _⟩
theorem HashOk.clash {k : Nat} {Ps : List (List Int × List Int)} {i j : Nat} {A B : List Int} (h : HashOk k Ps) (hc : ClashAt Ps i j A B) : (∀ b ∈ A, okByte b) ∧ (∀ b ∈ B, okByte b) ∧ A.length ≤ 10000 ∧ B.length ≤ 10000 ∧ shaF A = shaF B ∧ A ≠ B := by
  obtain ⟨-, hne, -, D, h1, h2, -⟩ := hc
  obtain ⟨a1, a2, a3⟩ := h.is _ (List.mem_of_getElem? h1)
  obtain ⟨b1, b2, b3⟩ := h.is _ (List.mem_of_getElem? h2)
  exact ⟨a2, b2, a3, b3, a1.symm.trans b1, hne⟩
section
variable {w0 : World} {va : Value} {L : List ActV}
set_option maxRecDepth 100000 in
set_option maxHeartbeats 4000000 in
theorem core (hL : RA w0 L va) (hK : KTab w0) : Calls Tryd.prog 5 #[va] w0 fun e w' => e = .returned (.bool true) ∧ Sat w0 [] w' := by
  have hS := Sat.refl w0
  obtain ⟨pa, ca, rfl, hla, hata⟩ := hL.at
  obtain ⟨nL, hnL⟩ : ∃ n, L.length = n := ⟨_, rfl⟩
  have HnL : Bx _ := ⟨hnL⟩
  rw [hnL] at hla hL ⊢
  have hata2 : Bx (0 < nL → ∃ b o, pa = some ⟨b, o, none⟩ ∧ BAt w0 49 actF (ActIn w0) L b o) := ⟨fun h => hata (by intro e; subst e; simp at hnL; omega)⟩
  have HK : Bx _ := ⟨hK⟩
  clear hata hnL
  go_enter Tryd.func5, Tryd.ntmps5
  go_wp2_with (first | (guard_target =~ Calls _ 9 _ _ _; refine Stopped.out ?_) | (refine load1 hS rfl rfl rfl rfl ?_; simp only [putW]) | (refine loadAll hS rfl rfl rfl ?_ ?_; rfl; simp only [putW]) | (refine loadPart hS rfl rfl rfl ?_ rfl ?_; rfl; simp only [putW]) | (refine store1 hS rfl rfl rfl rfl rfl ?_ ?_; (focus (simp; done)); clear hS; intro w hS; simp only [evW, putW] at hS; try simp only [putW]) | (refine storeAll hS rfl rfl rfl rfl ?_ ?_ ?_ ?_; rfl; (focus (simp [Value.oneCell']; done)); rfl; clear hS; intro w hS; try simp only [putW]) | (refine storeN hS rfl rfl rfl rfl ?_ ?_ ?_ ?_; rfl; (focus (simp [Value.oneCell']; done)); (focus (simp; done)); clear hS; intro w hS; simp at hS; try simp only [putW]) | (refine alloc hS rfl rfl ?_; clear hS; intro mb w hS; simp only [putW]) | (refine box1 hS rfl rfl rfl rfl ?_; clear hS; intro mb w hS; try simp only [evW, putW] at hS; simp only [putW]) | (refine boxN hS rfl rfl rfl ?_; clear hS; intro mb w hS; simp only [putW]))
  refine ⟨?_⟩
  (refine Calls.mono (greatA_any (hL.mono hS.base)) ?_; rintro _ w2 ⟨r1, rfl, hr1, h2⟩; replace hS := hS.frame h2; clear h2; (try simp only [List.cons_append, List.nil_append] at hS); simp only [putW])
  cases r1 with
  | true =>
    go_wp2_with (first | (go_at_call 10; refine Calls.mono (awakeG_any) ?_; rintro _ w2 ⟨rfl, h2⟩; replace hS := hS.frame h2; clear h2; (try simp only [List.cons_append, List.nil_append] at hS); simp only [putW]) | (refine load1 hS rfl rfl rfl rfl ?_; simp only [putW]) | (refine loadAll hS rfl rfl rfl ?_ ?_; rfl; simp only [putW]) | (refine loadPart hS rfl rfl rfl ?_ rfl ?_; rfl; simp only [putW]) | (refine store1 hS rfl rfl rfl rfl rfl ?_ ?_; (focus (simp; done)); clear hS; intro w hS; simp only [evW, putW] at hS; try simp only [putW]) | (refine storeAll hS rfl rfl rfl rfl ?_ ?_ ?_ ?_; rfl; (focus (simp [Value.oneCell']; done)); rfl; clear hS; intro w hS; try simp only [putW]) | (refine storeN hS rfl rfl rfl rfl ?_ ?_ ?_ ?_; rfl; (focus (simp [Value.oneCell']; done)); (focus (simp; done)); clear hS; intro w hS; simp at hS; try simp only [putW]) | (refine alloc hS rfl rfl ?_; clear hS; intro mb w hS; simp only [putW]) | (refine box1 hS rfl rfl rfl rfl ?_; clear hS; intro mb w hS; try simp only [evW, putW] at hS; simp only [putW]) | (refine boxN hS rfl rfl rfl ?_; clear hS; intro mb w hS; simp only [putW]))
    go_ret
    exact ⟨rfl, hS⟩
  | false =>
    have hsm := hr1 (by simp)
    have HSM : Bx _ := ⟨hsm⟩
    clear hr1 hsm
    go_wp2_with (first | (go_at_call 18; refine Calls.mono (newF) ?_; rintro _ w2 ⟨l, rfl, h2⟩; replace hS := hS.frame h2; clear h2; (try simp only [List.cons_append, List.nil_append] at hS); simp only [putW]) | (refine load1 hS rfl rfl rfl rfl ?_; simp only [putW]) | (refine loadAll hS rfl rfl rfl ?_ ?_; rfl; simp only [putW]) | (refine loadPart hS rfl rfl rfl ?_ rfl ?_; rfl; simp only [putW]) | (refine store1 hS rfl rfl rfl rfl rfl ?_ ?_; (focus (simp; done)); clear hS; intro w hS; simp only [evW, putW] at hS; try simp only [putW]) | (refine storeAll hS rfl rfl rfl rfl ?_ ?_ ?_ ?_; rfl; (focus (simp [Value.oneCell']; done)); rfl; clear hS; intro w hS; try simp only [putW]) | (refine storeN hS rfl rfl rfl rfl ?_ ?_ ?_ ?_; rfl; (focus (simp [Value.oneCell']; done)); (focus (simp; done)); clear hS; intro w hS; simp at hS; try simp only [putW]) | (refine alloc hS rfl rfl ?_; clear hS; intro mb w hS; simp only [putW]) | (refine box1 hS rfl rfl rfl rfl ?_; clear hS; intro mb w hS; try simp only [evW, putW] at hS; simp only [putW]) | (refine boxN hS rfl rfl rfl ?_; clear hS; intro mb w hS; simp only [putW]))
    obtain ⟨N, hN⟩ : ∃ N, min nL 300 = N := ⟨_, rfl⟩
    have hN1 : N ≤ nL := by omega
    have hN2 : N ≤ 300 := by omega
    have hN3 : N < nL → N = 300 := by omega
    clear hN
    go_loopg [4] N (fun g i wr => ∃ (k : Nat) (Ps : List (List Int × List Int)), k + g = N ∧ i = .int .i64 k ∧ Bx (HashOk k Ps) ∧ Sat w0 [(l, LogF Ps [] [])] wr)
    case atStart => exact ⟨0, [], by omega, rfl, ⟨⟨by simp, by simp⟩⟩, hS⟩
    case round =>
      clear hS
      obtain ⟨k, Ps, hkg, rfl, hok, hS⟩ := hrel
      have hPl : Ps.length ≤ 1000000 := Nat.le_trans hok.out.le (by omega)
      cases gk with
      | succ g =>
        have hlt : k < nL := by omega
        have h300 : k < 300 := by omega
        obtain ⟨x, hx⟩ : ∃ x, L[k]? = some x := ⟨_, List.getElem?_eq_getElem (by rw [HnL.out]; exact hlt)⟩
        obtain ⟨bh, oh, rfl, hBh⟩ := hata2.out (by omega)
        have hxi : ActIn w0 x := (hBh.2 k _ hx).1
        have hxs : Small x := HSM.out k x h300 hx
        obtain ⟨q0, c0, e0, hl0, -⟩ := hxi.dat.at
        obtain ⟨A, hA⟩ : ∃ A, x.2.1.2 = A := ⟨_, rfl⟩
        obtain ⟨n0, hn0⟩ : ∃ n, A.length = n := ⟨_, rfl⟩
        have hdat : RB w0 A (.slice q0 n0 c0) := by have h := hxi.dat; rw [e0, hA, hn0] at h; exact h
        have hA1 : A.length ≤ 10000 := by rw [← hA]; exact hxs.1
        have HDat : Bx _ := ⟨hdat⟩
        have HA1 : Bx _ := ⟨hA1⟩
        have I1 : Bx ((actF x)[1]? = some (.slice q0 n0 c0)) := ⟨by have h := hxi.is.dat; rw [e0, hA, hn0] at h; exact h⟩
        have Hx : Bx _ := ⟨hx⟩
        have hcl : (cat [((.slice q0 n0 c0 : Value), A)]).length ≤ 100000000000 := by rw [cat_one]; exact Nat.le_trans hA1 (by omega)
        have HCL : Bx _ := ⟨hcl⟩
        clear hxi hxs e0 hl0 hA hn0 hdat hA1 hx hcl
        go_wp2_with (first | (refine loadB (f := actF) hS rfl rfl rfl hBh k 1 ?_ Hx.out I1.out ?_; (focus omega); simp only [putW]) | (refine buildSlice1 (c := #[.slice q0 n0 c0]) hS rfl rfl rfl ?_ ?_ ?_ ?_; rfl; rfl; rfl; clear hS; intro mb w hS; simp only [putW]) | (guard_target =~ Calls _ 19 _ _ _; refine Stopped.out ?_) | (refine load1 hS rfl rfl rfl rfl ?_; simp only [putW]) | (refine loadAll hS rfl rfl rfl ?_ ?_; rfl; simp only [putW]) | (refine loadPart hS rfl rfl rfl ?_ rfl ?_; rfl; simp only [putW]) | (refine store1 hS rfl rfl rfl rfl rfl ?_ ?_; (focus (simp; done)); clear hS; intro w hS; simp only [evW, putW] at hS; try simp only [putW]) | (refine storeAll hS rfl rfl rfl rfl ?_ ?_ ?_ ?_; rfl; (focus (simp [Value.oneCell']; done)); rfl; clear hS; intro w hS; try simp only [putW]) | (refine storeN hS rfl rfl rfl rfl ?_ ?_ ?_ ?_; rfl; (focus (simp [Value.oneCell']; done)); (focus (simp; done)); clear hS; intro w hS; simp at hS; try simp only [putW]) | (refine alloc hS rfl rfl ?_; clear hS; intro mb w hS; simp only [putW]) | (refine box1 hS rfl rfl rfl rfl ?_; clear hS; intro mb w hS; try simp only [evW, putW] at hS; simp only [putW]) | (refine boxN hS rfl rfl rfl ?_; clear hS; intro mb w hS; simp only [putW]))
        refine ⟨?_⟩
        refine Calls.mono (hashF (hS.pull l (X := LogF Ps [] [])) (litRR hS (HDat.out.mono hS.base)) (HK.out.mono hS.base) HCL.out hPl) ?_
        clear hS
        rintro _ w ⟨rfl, hS⟩
        rw [cat_one] at hS ⊢
        simp only [putW]
        go_wp2_with (first | (refine load1 hS rfl rfl rfl rfl ?_; simp only [putW]) | (refine loadAll hS rfl rfl rfl ?_ ?_; rfl; simp only [putW]) | (refine loadPart hS rfl rfl rfl ?_ rfl ?_; rfl; simp only [putW]) | (refine store1 hS rfl rfl rfl rfl rfl ?_ ?_; (focus (simp; done)); clear hS; intro w hS; simp only [evW, putW] at hS; try simp only [putW]) | (refine storeAll hS rfl rfl rfl rfl ?_ ?_ ?_ ?_; rfl; (focus (simp [Value.oneCell']; done)); rfl; clear hS; intro w hS; try simp only [putW]) | (refine storeN hS rfl rfl rfl rfl ?_ ?_ ?_ ?_; rfl; (focus (simp [Value.oneCell']; done)); (focus (simp; done)); clear hS; intro w hS; simp at hS; try simp only [putW]) | (refine alloc hS rfl rfl ?_; clear hS; intro mb w hS; simp only [putW]) | (refine box1 hS rfl rfl rfl rfl ?_; clear hS; intro mb w hS; try simp only [evW, putW] at hS; simp only [putW]) | (refine boxN hS rfl rfl rfl ?_; clear hS; intro mb w hS; simp only [putW]))
        go_roundg g
        case measure => omega
        case rel => exact ⟨k + 1, Ps ++ [(A, shaF A)], by omega, by go_num, ⟨hok.out.add HDat.out.all HA1.out⟩, hS.conv⟩
      | zero =>
        have hkn : N = k := by omega
        have hlt : ¬ (k < nL ∧ k < 300) := by omega
        clear hN3
        subst hkn
        have hgo : Bx (HashOk N Ps) := hok
        by_cases hlt2 : N < nL
        · have h3 : ¬ N < 300 := by omega
          go_wp2_with (first | (guard_target =~ Calls _ 13 _ _ _; refine Stopped.out ?_) | (refine load1 hS rfl rfl rfl rfl ?_; simp only [putW]) | (refine loadAll hS rfl rfl rfl ?_ ?_; rfl; simp only [putW]) | (refine loadPart hS rfl rfl rfl ?_ rfl ?_; rfl; simp only [putW]) | (refine store1 hS rfl rfl rfl rfl rfl ?_ ?_; (focus (simp; done)); clear hS; intro w hS; simp only [evW, putW] at hS; try simp only [putW]) | (refine storeAll hS rfl rfl rfl rfl ?_ ?_ ?_ ?_; rfl; (focus (simp [Value.oneCell']; done)); rfl; clear hS; intro w hS; try simp only [putW]) | (refine storeN hS rfl rfl rfl rfl ?_ ?_ ?_ ?_; rfl; (focus (simp [Value.oneCell']; done)); (focus (simp; done)); clear hS; intro w hS; simp at hS; try simp only [putW]) | (refine alloc hS rfl rfl ?_; clear hS; intro mb w hS; simp only [putW]) | (refine box1 hS rfl rfl rfl rfl ?_; clear hS; intro mb w hS; try simp only [evW, putW] at hS; simp only [putW]) | (refine boxN hS rfl rfl rfl ?_; clear hS; intro mb w hS; simp only [putW]))
          refine ⟨?_⟩
          refine (clashF hgo.out.oks hPl (hS.pull l (X := LogF Ps [] []))).mono ?_
          clear hS
          rintro _ w3 (⟨rfl, hn, hS⟩ | ⟨i', j', A', B', va', vb', hcl, rfl, hS⟩)
          · clear hn
            simp only [putW]
            go_wp2_with (first | (go_at_call 10; refine Calls.mono (awakeG_any) ?_; rintro _ w2 ⟨rfl, h2⟩; replace hS := hS.frame h2; clear h2; (try simp only [List.cons_append, List.nil_append] at hS); simp only [putW]) | (refine load1 hS rfl rfl rfl rfl ?_; simp only [putW]) | (refine loadAll hS rfl rfl rfl ?_ ?_; rfl; simp only [putW]) | (refine loadPart hS rfl rfl rfl ?_ rfl ?_; rfl; simp only [putW]) | (refine store1 hS rfl rfl rfl rfl rfl ?_ ?_; (focus (simp; done)); clear hS; intro w hS; simp only [evW, putW] at hS; try simp only [putW]) | (refine storeAll hS rfl rfl rfl rfl ?_ ?_ ?_ ?_; rfl; (focus (simp [Value.oneCell']; done)); rfl; clear hS; intro w hS; try simp only [putW]) | (refine storeN hS rfl rfl rfl rfl ?_ ?_ ?_ ?_; rfl; (focus (simp [Value.oneCell']; done)); (focus (simp; done)); clear hS; intro w hS; simp at hS; try simp only [putW]) | (refine alloc hS rfl rfl ?_; clear hS; intro mb w hS; simp only [putW]) | (refine box1 hS rfl rfl rfl rfl ?_; clear hS; intro mb w hS; try simp only [evW, putW] at hS; simp only [putW]) | (refine boxN hS rfl rfl rfl ?_; clear hS; intro mb w hS; simp only [putW]))
            go_ret
            exact ⟨rfl, hS.nothing⟩
          · obtain ⟨a1, a2, a3, a4, a5, a6⟩ := hgo.out.clash hcl
            clear hcl
            have HA1 : Bx _ := ⟨a1⟩
            have HB1 : Bx _ := ⟨a2⟩
            have b1 : A'.length ≤ 100000000 := by omega
            have b2 : B'.length ≤ 100000000 := by omega
            obtain ⟨DD, hDD⟩ : ∃ DD, shaF A' = DD := ⟨_, rfl⟩
            have HDD : Bx _ := ⟨hDD⟩
            have HDE : Bx (shaF B' = DD) := ⟨by rw [← a5]; exact hDD⟩
            have HDD32 : Bx (DD.length = 32) := ⟨by rw [← hDD]; exact dig_len _⟩
            have HDDb : Bx (∀ b ∈ DD, okByte b) := ⟨by rw [← hDD]; exact dig_byte _⟩
            have hEq : ∀ w : World, (Op.equalIn 10000 35 (.agg (DD.map u8v).toArray) (.agg (DD.map u8v).toArray)).run Tryd.prog w = .ok true w := fun w => by
              rw [eq32 HDD32.out HDD32.out HDDb.out HDDb.out, decide_eq_true rfl]
            have hne : Bx (decide (A' = B') = false) := ⟨decide_eq_false a6⟩
            clear a1 a2 a5 a6 hDD
            simp only [putW]
            go_wp2_with (first | (guard_target =~ Calls _ 20 _ _ _; refine Stopped.out ?_) | (refine load1 hS rfl rfl rfl rfl ?_; simp only [putW]) | (refine loadAll hS rfl rfl rfl ?_ ?_; rfl; simp only [putW]) | (refine loadPart hS rfl rfl rfl ?_ rfl ?_; rfl; simp only [putW]) | (refine store1 hS rfl rfl rfl rfl rfl ?_ ?_; (focus (simp; done)); clear hS; intro w hS; simp only [evW, putW] at hS; try simp only [putW]) | (refine storeAll hS rfl rfl rfl rfl ?_ ?_ ?_ ?_; rfl; (focus (simp [Value.oneCell']; done)); rfl; clear hS; intro w hS; try simp only [putW]) | (refine storeN hS rfl rfl rfl rfl ?_ ?_ ?_ ?_; rfl; (focus (simp [Value.oneCell']; done)); (focus (simp; done)); clear hS; intro w hS; simp at hS; try simp only [putW]) | (refine alloc hS rfl rfl ?_; clear hS; intro mb w hS; simp only [putW]) | (refine box1 hS rfl rfl rfl rfl ?_; clear hS; intro mb w hS; try simp only [evW, putW] at hS; simp only [putW]) | (refine boxN hS rfl rfl rfl ?_; clear hS; intro mb w hS; simp only [putW]))
            refine ⟨?_⟩
            (refine Calls.mono (refOf_any (hS.readsSl (v := va') (L := A') HA1.out) b1) ?_; rintro _ w2 ⟨rfl, h2⟩; replace hS := hS.frame h2; clear h2; (try simp only [List.cons_append, List.nil_append] at hS); simp only [putW])
            rw [HDD.out]
            go_wp2_with (first | (guard_target =~ Calls _ 20 _ _ _; refine Stopped.out ?_) | (refine load1 hS rfl rfl rfl rfl ?_; simp only [putW]) | (refine loadAll hS rfl rfl rfl ?_ ?_; rfl; simp only [putW]) | (refine loadPart hS rfl rfl rfl ?_ rfl ?_; rfl; simp only [putW]) | (refine store1 hS rfl rfl rfl rfl rfl ?_ ?_; (focus (simp; done)); clear hS; intro w hS; simp only [evW, putW] at hS; try simp only [putW]) | (refine storeAll hS rfl rfl rfl rfl ?_ ?_ ?_ ?_; rfl; (focus (simp [Value.oneCell']; done)); rfl; clear hS; intro w hS; try simp only [putW]) | (refine storeN hS rfl rfl rfl rfl ?_ ?_ ?_ ?_; rfl; (focus (simp [Value.oneCell']; done)); (focus (simp; done)); clear hS; intro w hS; simp at hS; try simp only [putW]) | (refine alloc hS rfl rfl ?_; clear hS; intro mb w hS; simp only [putW]) | (refine box1 hS rfl rfl rfl rfl ?_; clear hS; intro mb w hS; try simp only [evW, putW] at hS; simp only [putW]) | (refine boxN hS rfl rfl rfl ?_; clear hS; intro mb w hS; simp only [putW]))
            refine ⟨?_⟩
            (refine Calls.mono (refOf_any (hS.readsSl (v := vb') (L := B') HB1.out) b2) ?_; rintro _ w2 ⟨rfl, h2⟩; replace hS := hS.frame h2; clear h2; (try simp only [List.cons_append, List.nil_append] at hS); simp only [putW])
            rw [HDE.out]
            go_wp2_with (first | (guard_target =~ Calls _ 14 _ _ _; refine Stopped.out ?_) | (refine load1 hS rfl rfl rfl rfl ?_; simp only [putW]) | (refine loadAll hS rfl rfl rfl ?_ ?_; rfl; simp only [putW]) | (refine loadPart hS rfl rfl rfl ?_ rfl ?_; rfl; simp only [putW]) | (refine store1 hS rfl rfl rfl rfl rfl ?_ ?_; (focus (simp; done)); clear hS; intro w hS; simp only [evW, putW] at hS; try simp only [putW]) | (refine storeAll hS rfl rfl rfl rfl ?_ ?_ ?_ ?_; rfl; (focus (simp [Value.oneCell']; done)); rfl; clear hS; intro w hS; try simp only [putW]) | (refine storeN hS rfl rfl rfl rfl ?_ ?_ ?_ ?_; rfl; (focus (simp [Value.oneCell']; done)); (focus (simp; done)); clear hS; intro w hS; simp at hS; try simp only [putW]) | (refine alloc hS rfl rfl ?_; clear hS; intro mb w hS; simp only [putW]) | (refine box1 hS rfl rfl rfl rfl ?_; clear hS; intro mb w hS; try simp only [evW, putW] at hS; simp only [putW]) | (refine boxN hS rfl rfl rfl ?_; clear hS; intro mb w hS; simp only [putW]))
            refine ⟨?_⟩
            (refine Calls.mono (same_any (hS.readsSl (v := va') (L := A') HA1.out) (hS.readsSl (v := vb') (L := B') HB1.out)) ?_; rintro _ w2 ⟨rfl, h2⟩; replace hS := hS.frame h2; clear h2; (try simp only [List.cons_append, List.nil_append] at hS); simp only [putW])
            rw [hne.out]
            go_wp2_with (first | (go_at_call 10; refine Calls.mono (awakeG_any) ?_; rintro _ w2 ⟨rfl, h2⟩; replace hS := hS.frame h2; clear h2; (try simp only [List.cons_append, List.nil_append] at hS); simp only [putW]) | (refine load1 hS rfl rfl rfl rfl ?_; simp only [putW]) | (refine loadAll hS rfl rfl rfl ?_ ?_; rfl; simp only [putW]) | (refine loadPart hS rfl rfl rfl ?_ rfl ?_; rfl; simp only [putW]) | (refine store1 hS rfl rfl rfl rfl rfl ?_ ?_; (focus (simp; done)); clear hS; intro w hS; simp only [evW, putW] at hS; try simp only [putW]) | (refine storeAll hS rfl rfl rfl rfl ?_ ?_ ?_ ?_; rfl; (focus (simp [Value.oneCell']; done)); rfl; clear hS; intro w hS; try simp only [putW]) | (refine storeN hS rfl rfl rfl rfl ?_ ?_ ?_ ?_; rfl; (focus (simp [Value.oneCell']; done)); (focus (simp; done)); clear hS; intro w hS; simp at hS; try simp only [putW]) | (refine alloc hS rfl rfl ?_; clear hS; intro mb w hS; simp only [putW]) | (refine box1 hS rfl rfl rfl rfl ?_; clear hS; intro mb w hS; try simp only [evW, putW] at hS; simp only [putW]) | (refine boxN hS rfl rfl rfl ?_; clear hS; intro mb w hS; simp only [putW]))
            go_ret
            exact ⟨rfl, hS.nothing⟩
        · go_wp2_with (first | (guard_target =~ Calls _ 13 _ _ _; refine Stopped.out ?_) | (refine load1 hS rfl rfl rfl rfl ?_; simp only [putW]) | (refine loadAll hS rfl rfl rfl ?_ ?_; rfl; simp only [putW]) | (refine loadPart hS rfl rfl rfl ?_ rfl ?_; rfl; simp only [putW]) | (refine store1 hS rfl rfl rfl rfl rfl ?_ ?_; (focus (simp; done)); clear hS; intro w hS; simp only [evW, putW] at hS; try simp only [putW]) | (refine storeAll hS rfl rfl rfl rfl ?_ ?_ ?_ ?_; rfl; (focus (simp [Value.oneCell']; done)); rfl; clear hS; intro w hS; try simp only [putW]) | (refine storeN hS rfl rfl rfl rfl ?_ ?_ ?_ ?_; rfl; (focus (simp [Value.oneCell']; done)); (focus (simp; done)); clear hS; intro w hS; simp at hS; try simp only [putW]) | (refine alloc hS rfl rfl ?_; clear hS; intro mb w hS; simp only [putW]) | (refine box1 hS rfl rfl rfl rfl ?_; clear hS; intro mb w hS; try simp only [evW, putW] at hS; simp only [putW]) | (refine boxN hS rfl rfl rfl ?_; clear hS; intro mb w hS; simp only [putW]))
          refine ⟨?_⟩
          refine (clashF hgo.out.oks hPl (hS.pull l (X := LogF Ps [] []))).mono ?_
          clear hS
          rintro _ w3 (⟨rfl, hn, hS⟩ | ⟨i', j', A', B', va', vb', hcl, rfl, hS⟩)
          · clear hn
            simp only [putW]
            go_wp2_with (first | (go_at_call 10; refine Calls.mono (awakeG_any) ?_; rintro _ w2 ⟨rfl, h2⟩; replace hS := hS.frame h2; clear h2; (try simp only [List.cons_append, List.nil_append] at hS); simp only [putW]) | (refine load1 hS rfl rfl rfl rfl ?_; simp only [putW]) | (refine loadAll hS rfl rfl rfl ?_ ?_; rfl; simp only [putW]) | (refine loadPart hS rfl rfl rfl ?_ rfl ?_; rfl; simp only [putW]) | (refine store1 hS rfl rfl rfl rfl rfl ?_ ?_; (focus (simp; done)); clear hS; intro w hS; simp only [evW, putW] at hS; try simp only [putW]) | (refine storeAll hS rfl rfl rfl rfl ?_ ?_ ?_ ?_; rfl; (focus (simp [Value.oneCell']; done)); rfl; clear hS; intro w hS; try simp only [putW]) | (refine storeN hS rfl rfl rfl rfl ?_ ?_ ?_ ?_; rfl; (focus (simp [Value.oneCell']; done)); (focus (simp; done)); clear hS; intro w hS; simp at hS; try simp only [putW]) | (refine alloc hS rfl rfl ?_; clear hS; intro mb w hS; simp only [putW]) | (refine box1 hS rfl rfl rfl rfl ?_; clear hS; intro mb w hS; try simp only [evW, putW] at hS; simp only [putW]) | (refine boxN hS rfl rfl rfl ?_; clear hS; intro mb w hS; simp only [putW]))
            go_ret
            exact ⟨rfl, hS.nothing⟩
          · obtain ⟨a1, a2, a3, a4, a5, a6⟩ := hgo.out.clash hcl
            clear hcl
            have HA1 : Bx _ := ⟨a1⟩
            have HB1 : Bx _ := ⟨a2⟩
            have b1 : A'.length ≤ 100000000 := by omega
            have b2 : B'.length ≤ 100000000 := by omega
            obtain ⟨DD, hDD⟩ : ∃ DD, shaF A' = DD := ⟨_, rfl⟩
            have HDD : Bx _ := ⟨hDD⟩
            have HDE : Bx (shaF B' = DD) := ⟨by rw [← a5]; exact hDD⟩
            have HDD32 : Bx (DD.length = 32) := ⟨by rw [← hDD]; exact dig_len _⟩
            have HDDb : Bx (∀ b ∈ DD, okByte b) := ⟨by rw [← hDD]; exact dig_byte _⟩
            have hEq : ∀ w : World, (Op.equalIn 10000 35 (.agg (DD.map u8v).toArray) (.agg (DD.map u8v).toArray)).run Tryd.prog w = .ok true w := fun w => by
              rw [eq32 HDD32.out HDD32.out HDDb.out HDDb.out, decide_eq_true rfl]
            have hne : Bx (decide (A' = B') = false) := ⟨decide_eq_false a6⟩
            clear a1 a2 a5 a6 hDD
            simp only [putW]
            go_wp2_with (first | (guard_target =~ Calls _ 20 _ _ _; refine Stopped.out ?_) | (refine load1 hS rfl rfl rfl rfl ?_; simp only [putW]) | (refine loadAll hS rfl rfl rfl ?_ ?_; rfl; simp only [putW]) | (refine loadPart hS rfl rfl rfl ?_ rfl ?_; rfl; simp only [putW]) | (refine store1 hS rfl rfl rfl rfl rfl ?_ ?_; (focus (simp; done)); clear hS; intro w hS; simp only [evW, putW] at hS; try simp only [putW]) | (refine storeAll hS rfl rfl rfl rfl ?_ ?_ ?_ ?_; rfl; (focus (simp [Value.oneCell']; done)); rfl; clear hS; intro w hS; try simp only [putW]) | (refine storeN hS rfl rfl rfl rfl ?_ ?_ ?_ ?_; rfl; (focus (simp [Value.oneCell']; done)); (focus (simp; done)); clear hS; intro w hS; simp at hS; try simp only [putW]) | (refine alloc hS rfl rfl ?_; clear hS; intro mb w hS; simp only [putW]) | (refine box1 hS rfl rfl rfl rfl ?_; clear hS; intro mb w hS; try simp only [evW, putW] at hS; simp only [putW]) | (refine boxN hS rfl rfl rfl ?_; clear hS; intro mb w hS; simp only [putW]))
            refine ⟨?_⟩
            (refine Calls.mono (refOf_any (hS.readsSl (v := va') (L := A') HA1.out) b1) ?_; rintro _ w2 ⟨rfl, h2⟩; replace hS := hS.frame h2; clear h2; (try simp only [List.cons_append, List.nil_append] at hS); simp only [putW])
            rw [HDD.out]
            go_wp2_with (first | (guard_target =~ Calls _ 20 _ _ _; refine Stopped.out ?_) | (refine load1 hS rfl rfl rfl rfl ?_; simp only [putW]) | (refine loadAll hS rfl rfl rfl ?_ ?_; rfl; simp only [putW]) | (refine loadPart hS rfl rfl rfl ?_ rfl ?_; rfl; simp only [putW]) | (refine store1 hS rfl rfl rfl rfl rfl ?_ ?_; (focus (simp; done)); clear hS; intro w hS; simp only [evW, putW] at hS; try simp only [putW]) | (refine storeAll hS rfl rfl rfl rfl ?_ ?_ ?_ ?_; rfl; (focus (simp [Value.oneCell']; done)); rfl; clear hS; intro w hS; try simp only [putW]) | (refine storeN hS rfl rfl rfl rfl ?_ ?_ ?_ ?_; rfl; (focus (simp [Value.oneCell']; done)); (focus (simp; done)); clear hS; intro w hS; simp at hS; try simp only [putW]) | (refine alloc hS rfl rfl ?_; clear hS; intro mb w hS; simp only [putW]) | (refine box1 hS rfl rfl rfl rfl ?_; clear hS; intro mb w hS; try simp only [evW, putW] at hS; simp only [putW]) | (refine boxN hS rfl rfl rfl ?_; clear hS; intro mb w hS; simp only [putW]))
            refine ⟨?_⟩
            (refine Calls.mono (refOf_any (hS.readsSl (v := vb') (L := B') HB1.out) b2) ?_; rintro _ w2 ⟨rfl, h2⟩; replace hS := hS.frame h2; clear h2; (try simp only [List.cons_append, List.nil_append] at hS); simp only [putW])
            rw [HDE.out]
            go_wp2_with (first | (guard_target =~ Calls _ 14 _ _ _; refine Stopped.out ?_) | (refine load1 hS rfl rfl rfl rfl ?_; simp only [putW]) | (refine loadAll hS rfl rfl rfl ?_ ?_; rfl; simp only [putW]) | (refine loadPart hS rfl rfl rfl ?_ rfl ?_; rfl; simp only [putW]) | (refine store1 hS rfl rfl rfl rfl rfl ?_ ?_; (focus (simp; done)); clear hS; intro w hS; simp only [evW, putW] at hS; try simp only [putW]) | (refine storeAll hS rfl rfl rfl rfl ?_ ?_ ?_ ?_; rfl; (focus (simp [Value.oneCell']; done)); rfl; clear hS; intro w hS; try simp only [putW]) | (refine storeN hS rfl rfl rfl rfl ?_ ?_ ?_ ?_; rfl; (focus (simp [Value.oneCell']; done)); (focus (simp; done)); clear hS; intro w hS; simp at hS; try simp only [putW]) | (refine alloc hS rfl rfl ?_; clear hS; intro mb w hS; simp only [putW]) | (refine box1 hS rfl rfl rfl rfl ?_; clear hS; intro mb w hS; try simp only [evW, putW] at hS; simp only [putW]) | (refine boxN hS rfl rfl rfl ?_; clear hS; intro mb w hS; simp only [putW]))
            refine ⟨?_⟩
            (refine Calls.mono (same_any (hS.readsSl (v := va') (L := A') HA1.out) (hS.readsSl (v := vb') (L := B') HB1.out)) ?_; rintro _ w2 ⟨rfl, h2⟩; replace hS := hS.frame h2; clear h2; (try simp only [List.cons_append, List.nil_append] at hS); simp only [putW])
            rw [hne.out]
            go_wp2_with (first | (go_at_call 10; refine Calls.mono (awakeG_any) ?_; rintro _ w2 ⟨rfl, h2⟩; replace hS := hS.frame h2; clear h2; (try simp only [List.cons_append, List.nil_append] at hS); simp only [putW]) | (refine load1 hS rfl rfl rfl rfl ?_; simp only [putW]) | (refine loadAll hS rfl rfl rfl ?_ ?_; rfl; simp only [putW]) | (refine loadPart hS rfl rfl rfl ?_ rfl ?_; rfl; simp only [putW]) | (refine store1 hS rfl rfl rfl rfl rfl ?_ ?_; (focus (simp; done)); clear hS; intro w hS; simp only [evW, putW] at hS; try simp only [putW]) | (refine storeAll hS rfl rfl rfl rfl ?_ ?_ ?_ ?_; rfl; (focus (simp [Value.oneCell']; done)); rfl; clear hS; intro w hS; try simp only [putW]) | (refine storeN hS rfl rfl rfl rfl ?_ ?_ ?_ ?_; rfl; (focus (simp [Value.oneCell']; done)); (focus (simp; done)); clear hS; intro w hS; simp at hS; try simp only [putW]) | (refine alloc hS rfl rfl ?_; clear hS; intro mb w hS; simp only [putW]) | (refine box1 hS rfl rfl rfl rfl ?_; clear hS; intro mb w hS; try simp only [evW, putW] at hS; simp only [putW]) | (refine boxN hS rfl rfl rfl ?_; clear hS; intro mb w hS; simp only [putW]))
            go_ret
            exact ⟨rfl, hS.nothing⟩
end
end Go.Proofs.YteoidocicjlglaaDoor.GhostHonestDone
