/-
  GhostClashes: the walk.
-/
import Derived.Test.YteoidocicjlglaaDoorGhPlay
import Derived.Test.YteoidocicjlglaaDoorGhAwake
import Derived.Test.YteoidocicjlglaaDoorGhRef
set_option linter.unusedSimpArgs false
set_option linter.unusedVariables false
namespace Go.Proofs.YteoidocicjlglaaDoor.GhostClashesDone
open Go.RowKit Go.Proofs.YteoidocicjlglaaDoor Go.Proofs.YteoidocicjlglaaDoor.Sl Go.Proofs.YteoidocicjlglaaDoor.Sha Go.Proofs.YteoidocicjlglaaDoor.Jp

theorem pairs_ok {w : World} {k : Nat} {X : List PairV} {Y Z : List TupV} (h : PlayOk w k X Y Z) : ∀ p ∈ psOf X, (∀ b ∈ p.1, okByte b) ∧ p.1.length ≤ 100000000000 ∧ p.2.length = 32 ∧ ∀ b ∈ p.2, okByte b := fun p hp => by
  obtain ⟨x, hx, rfl⟩ := List.mem_map.1 hp
  obtain ⟨h1, h2, h3⟩ := h.rx x hx
  exact ⟨h1.all, Nat.le_trans (h.sx x hx) (by omega), h2, h3⟩
theorem psOf_inv {X : List PairV} {i : Nat} {A D : List Int} (h : (psOf X)[i]? = some (A, D)) : ∃ v, X[i]? = some (v, A, D) := by
  rw [List.getElem?_map] at h
  obtain ⟨⟨v, A', D'⟩, hx, he⟩ := Option.map_eq_some_iff.1 h
  cases he
  exact ⟨v, hx⟩
section
variable {w0 : World} {va : Value} {L : List ActV}
set_option maxRecDepth 100000 in
set_option maxHeartbeats 4000000 in
theorem core (hL : RA w0 L va) (hK : KTab w0) : Calls Tryd.prog 3 #[va] w0 fun e w' => e = .returned (.bool true) ∧ Sat w0 [] w' := by
  have hS := Sat.refl w0
  go_enter Tryd.func3, Tryd.ntmps3
  go_wp2_with (first | (guard_target =~ Calls _ 9 _ _ _; refine Stopped.out ?_) | (refine load1 hS rfl rfl rfl rfl ?_; simp only [putW]) | (refine loadAll hS rfl rfl rfl ?_ ?_; rfl; simp only [putW]) | (refine loadPart hS rfl rfl rfl ?_ rfl ?_; rfl; simp only [putW]) | (refine store1 hS rfl rfl rfl rfl rfl ?_ ?_; (focus (simp; done)); clear hS; intro w hS; simp only [evW, putW] at hS; try simp only [putW]) | (refine storeAll hS rfl rfl rfl rfl ?_ ?_ ?_ ?_; rfl; (focus (simp [Value.oneCell']; done)); rfl; clear hS; intro w hS; try simp only [putW]) | (refine storeN hS rfl rfl rfl rfl ?_ ?_ ?_ ?_; rfl; (focus (simp [Value.oneCell']; done)); (focus (simp; done)); clear hS; intro w hS; simp at hS; try simp only [putW]) | (refine alloc hS rfl rfl ?_; clear hS; intro mb w hS; simp only [putW]) | (refine box1 hS rfl rfl rfl rfl ?_; clear hS; intro mb w hS; try simp only [evW, putW] at hS; simp only [putW]) | (refine boxN hS rfl rfl rfl ?_; clear hS; intro mb w hS; simp only [putW]))
  refine ⟨?_⟩
  (refine Calls.mono (greatA_any (hL.mono hS.base)) ?_; rintro _ w2 ⟨r1, rfl, hr1, h2⟩; replace hS := hS.frame h2; clear h2; (try simp only [List.cons_append, List.nil_append] at hS); simp only [putW])
  cases r1 with
  | true =>
    go_wp2_with (first | (go_at_call 10; refine Calls.mono (awakeG_any) ?_; rintro _ w2 ⟨rfl, h2⟩; replace hS := hS.frame h2; clear h2; (try simp only [List.cons_append, List.nil_append] at hS); simp only [putW]) | (refine load1 hS rfl rfl rfl rfl ?_; simp only [putW]) | (refine loadAll hS rfl rfl rfl ?_ ?_; rfl; simp only [putW]) | (refine loadPart hS rfl rfl rfl ?_ rfl ?_; rfl; simp only [putW]) | (refine store1 hS rfl rfl rfl rfl rfl ?_ ?_; (focus (simp; done)); clear hS; intro w hS; simp only [evW, putW] at hS; try simp only [putW]) | (refine storeAll hS rfl rfl rfl rfl ?_ ?_ ?_ ?_; rfl; (focus (simp [Value.oneCell']; done)); rfl; clear hS; intro w hS; try simp only [putW]) | (refine storeN hS rfl rfl rfl rfl ?_ ?_ ?_ ?_; rfl; (focus (simp [Value.oneCell']; done)); (focus (simp; done)); clear hS; intro w hS; simp at hS; try simp only [putW]) | (refine alloc hS rfl rfl ?_; clear hS; intro mb w hS; simp only [putW]) | (refine box1 hS rfl rfl rfl rfl ?_; clear hS; intro mb w hS; try simp only [evW, putW] at hS; simp only [putW]) | (refine boxN hS rfl rfl rfl ?_; clear hS; intro mb w hS; simp only [putW]))
    go_ret
    exact ⟨rfl, hS⟩
  | false =>
    have hsm := hr1 (by simp)
    clear hr1
    go_wp2_with (first | (guard_target =~ Calls _ 11 _ _ _; refine Stopped.out ?_) | (refine load1 hS rfl rfl rfl rfl ?_; simp only [putW]) | (refine loadAll hS rfl rfl rfl ?_ ?_; rfl; simp only [putW]) | (refine loadPart hS rfl rfl rfl ?_ rfl ?_; rfl; simp only [putW]) | (refine store1 hS rfl rfl rfl rfl rfl ?_ ?_; (focus (simp; done)); clear hS; intro w hS; simp only [evW, putW] at hS; try simp only [putW]) | (refine storeAll hS rfl rfl rfl rfl ?_ ?_ ?_ ?_; rfl; (focus (simp [Value.oneCell']; done)); rfl; clear hS; intro w hS; try simp only [putW]) | (refine storeN hS rfl rfl rfl rfl ?_ ?_ ?_ ?_; rfl; (focus (simp [Value.oneCell']; done)); (focus (simp; done)); clear hS; intro w hS; simp at hS; try simp only [putW]) | (refine alloc hS rfl rfl ?_; clear hS; intro mb w hS; simp only [putW]) | (refine box1 hS rfl rfl rfl rfl ?_; clear hS; intro mb w hS; try simp only [evW, putW] at hS; simp only [putW]) | (refine boxN hS rfl rfl rfl ?_; clear hS; intro mb w hS; simp only [putW]))
    refine ⟨?_⟩
    refine (played_any (hL.mono hS.base) (hK.mono hS.base) hsm).mono ?_
    have hS0 := hS
    clear hS hsm
    rintro _ w1 ⟨l, xl, X, Y, Z, xp, xs, xo, rfl, hok, hS1⟩
    have hS := hS1.conv (S' := [(l, LogF (psOf X) (tsOf Y) (tsOf Z)), (xl, cells #[xp, xs, xo] 41), (blk xp, sl 33 pairF X 37 xp)])
    clear hS1
    have HOK : Bx _ := ⟨hok⟩
    have hXl : X.length ≤ 1000000 := Nat.le_trans hok.lx (by omega)
    have hPl : (psOf X).length ≤ 1000000 := by rw [List.length_map]; exact hXl
    have HPO : Bx _ := ⟨pairs_ok hok⟩
    clear hok
    simp only [putW]
    go_wp2_with (first | (guard_target =~ Calls _ 12 _ _ _; refine Stopped.out ?_) | (refine load1 hS rfl rfl rfl rfl ?_; simp only [putW]) | (refine loadAll hS rfl rfl rfl ?_ ?_; rfl; simp only [putW]) | (refine loadPart hS rfl rfl rfl ?_ rfl ?_; rfl; simp only [putW]) | (refine store1 hS rfl rfl rfl rfl rfl ?_ ?_; (focus (simp; done)); clear hS; intro w hS; simp only [evW, putW] at hS; try simp only [putW]) | (refine storeAll hS rfl rfl rfl rfl ?_ ?_ ?_ ?_; rfl; (focus (simp [Value.oneCell']; done)); rfl; clear hS; intro w hS; try simp only [putW]) | (refine storeN hS rfl rfl rfl rfl ?_ ?_ ?_ ?_; rfl; (focus (simp [Value.oneCell']; done)); (focus (simp; done)); clear hS; intro w hS; simp at hS; try simp only [putW]) | (refine alloc hS rfl rfl ?_; clear hS; intro mb w hS; simp only [putW]) | (refine box1 hS rfl rfl rfl rfl ?_; clear hS; intro mb w hS; try simp only [evW, putW] at hS; simp only [putW]) | (refine boxN hS rfl rfl rfl ?_; clear hS; intro mb w hS; simp only [putW]))
    refine ⟨?_⟩
    refine (refClash_any HOK.out.rx hXl (hS.conv (S' := [(xl, cells #[xp, xs, xo] 41), (blk xp, sl 33 pairF X 37 xp), (l, LogF (psOf X) (tsOf Y) (tsOf Z))]))).mono ?_
    clear hS
    rintro _ w2 ⟨⟨rfl, hno⟩ | ⟨i, j, A, B, D, rfl, hij, hno, hpi, hpj, hne, hfi⟩, hS⟩
    · simp only [putW]
      go_wp2_with (first | (guard_target =~ Calls _ 13 _ _ _; refine Stopped.out ?_) | (refine load1 hS rfl rfl rfl rfl ?_; simp only [putW]) | (refine loadAll hS rfl rfl rfl ?_ ?_; rfl; simp only [putW]) | (refine loadPart hS rfl rfl rfl ?_ rfl ?_; rfl; simp only [putW]) | (refine store1 hS rfl rfl rfl rfl rfl ?_ ?_; (focus (simp; done)); clear hS; intro w hS; simp only [evW, putW] at hS; try simp only [putW]) | (refine storeAll hS rfl rfl rfl rfl ?_ ?_ ?_ ?_; rfl; (focus (simp [Value.oneCell']; done)); rfl; clear hS; intro w hS; try simp only [putW]) | (refine storeN hS rfl rfl rfl rfl ?_ ?_ ?_ ?_; rfl; (focus (simp [Value.oneCell']; done)); (focus (simp; done)); clear hS; intro w hS; simp at hS; try simp only [putW]) | (refine alloc hS rfl rfl ?_; clear hS; intro mb w hS; simp only [putW]) | (refine box1 hS rfl rfl rfl rfl ?_; clear hS; intro mb w hS; try simp only [evW, putW] at hS; simp only [putW]) | (refine boxN hS rfl rfl rfl ?_; clear hS; intro mb w hS; simp only [putW]))
      refine ⟨?_⟩
      refine (clashF HPO.out hPl (hS.pull l (X := LogF (psOf X) (tsOf Y) (tsOf Z)))).mono ?_
      clear hS
      rintro _ w3 (⟨rfl, hn, hS⟩ | ⟨i', j', A', B', va', vb', hcl, rfl, hS⟩)
      case inr =>
        have hj := (List.getElem?_eq_some_iff.1 hcl.2.2.2.choose_spec.2.1).1
        rw [List.length_map] at hj
        exact (clash_none hcl hno hj).elim
      clear hn hno
      simp only [putW]
      go_wp2_with (first | (go_at_call 10; refine Calls.mono (awakeG_any) ?_; rintro _ w2 ⟨rfl, h2⟩; replace hS := hS.frame h2; clear h2; (try simp only [List.cons_append, List.nil_append] at hS); simp only [putW]) | (refine load1 hS rfl rfl rfl rfl ?_; simp only [putW]) | (refine loadAll hS rfl rfl rfl ?_ ?_; rfl; simp only [putW]) | (refine loadPart hS rfl rfl rfl ?_ rfl ?_; rfl; simp only [putW]) | (refine store1 hS rfl rfl rfl rfl rfl ?_ ?_; (focus (simp; done)); clear hS; intro w hS; simp only [evW, putW] at hS; try simp only [putW]) | (refine storeAll hS rfl rfl rfl rfl ?_ ?_ ?_ ?_; rfl; (focus (simp [Value.oneCell']; done)); rfl; clear hS; intro w hS; try simp only [putW]) | (refine storeN hS rfl rfl rfl rfl ?_ ?_ ?_ ?_; rfl; (focus (simp [Value.oneCell']; done)); (focus (simp; done)); clear hS; intro w hS; simp at hS; try simp only [putW]) | (refine alloc hS rfl rfl ?_; clear hS; intro mb w hS; simp only [putW]) | (refine box1 hS rfl rfl rfl rfl ?_; clear hS; intro mb w hS; try simp only [evW, putW] at hS; simp only [putW]) | (refine boxN hS rfl rfl rfl ?_; clear hS; intro mb w hS; simp only [putW]))
      go_ret
      exact ⟨rfl, (hS0.frame hS).nothing⟩
    · have Hno : Bx _ := ⟨hno⟩
      have Hpi : Bx _ := ⟨hpi⟩
      have Hpj : Bx _ := ⟨hpj⟩
      have Hne : Bx _ := ⟨hne⟩
      have Hfi : Bx _ := ⟨hfi⟩
      clear hno hpi hpj hne hfi
      have hge : decide ((0 : Int) ≤ (i : Int)) = true := decide_eq_true (by omega)
      simp only [putW]
      go_wp2_with (first | (guard_target =~ Calls _ 13 _ _ _; refine Stopped.out ?_) | (refine load1 hS rfl rfl rfl rfl ?_; simp only [putW]) | (refine loadAll hS rfl rfl rfl ?_ ?_; rfl; simp only [putW]) | (refine loadPart hS rfl rfl rfl ?_ rfl ?_; rfl; simp only [putW]) | (refine store1 hS rfl rfl rfl rfl rfl ?_ ?_; (focus (simp; done)); clear hS; intro w hS; simp only [evW, putW] at hS; try simp only [putW]) | (refine storeAll hS rfl rfl rfl rfl ?_ ?_ ?_ ?_; rfl; (focus (simp [Value.oneCell']; done)); rfl; clear hS; intro w hS; try simp only [putW]) | (refine storeN hS rfl rfl rfl rfl ?_ ?_ ?_ ?_; rfl; (focus (simp [Value.oneCell']; done)); (focus (simp; done)); clear hS; intro w hS; simp at hS; try simp only [putW]) | (refine alloc hS rfl rfl ?_; clear hS; intro mb w hS; simp only [putW]) | (refine box1 hS rfl rfl rfl rfl ?_; clear hS; intro mb w hS; try simp only [evW, putW] at hS; simp only [putW]) | (refine boxN hS rfl rfl rfl ?_; clear hS; intro mb w hS; simp only [putW]))
      refine ⟨?_⟩
      refine (clashF HPO.out hPl (hS.pull l (X := LogF (psOf X) (tsOf Y) (tsOf Z)))).mono ?_
      clear hS
      rintro _ w3 (⟨rfl, hn, hS⟩ | ⟨i', j', A', B', va', vb', hcl, rfl, hS⟩)
      · have hj := (List.getElem?_eq_some_iff.1 Hpj.out).1
        exact (Hne.out (hn i j _ _ hij hj Hpi.out Hpj.out rfl)).elim
      obtain ⟨e1, e2, e3, e4⟩ := clash_same hcl hij Hno.out Hpi.out Hpj.out Hne.out Hfi.out
      subst e1 e2 e3 e4
      clear hcl
      obtain ⟨vi, hxi⟩ := psOf_inv Hpi.out
      obtain ⟨vj, hxj⟩ := psOf_inv Hpj.out
      have hri := (HOK.out.rx _ (List.mem_of_getElem? hxi)).1
      have hrj := (HOK.out.rx _ (List.mem_of_getElem? hxj)).1
      have HRI : Bx _ := ⟨hri⟩
      have HRJ : Bx _ := ⟨hrj⟩
      obtain ⟨n, hn⟩ : ∃ n, X.length = n := ⟨_, rfl⟩
      have hin : i < n := by rw [← hn]; exact (List.getElem?_eq_some_iff.1 hxi).1
      have hjn : j < n := by rw [← hn]; exact (List.getElem?_eq_some_iff.1 hxj).1
      obtain ⟨g, cap, e1, hS2⟩ := (hS.pull (blk xp) (X := sl 33 pairF X 37 xp)).slFormC n hn (by omega)
      subst e1
      clear hS hn
      have hS := hS2.conv (S' := [(g, slc 33 pairF X cap 37), (blk va', sl 1 by8 A 5 va'), (blk vb', sl 1 by8 B 5 vb'), (xl, cells #[.slice (some ⟨g, 0, none⟩) n cap, xs, xo] 41)])
      clear hS2 hri hrj
      simp only [putW]
      go_wp2_with (first | (refine loadS (f := pairF) hS rfl rfl rfl i 0 ?_ hxi rfl ?_ ?_; omega; omega; simp only [putW]) | (guard_target =~ Calls _ 14 _ _ _; refine Stopped.out ?_) | (refine load1 hS rfl rfl rfl rfl ?_; simp only [putW]) | (refine loadAll hS rfl rfl rfl ?_ ?_; rfl; simp only [putW]) | (refine loadPart hS rfl rfl rfl ?_ rfl ?_; rfl; simp only [putW]) | (refine store1 hS rfl rfl rfl rfl rfl ?_ ?_; (focus (simp; done)); clear hS; intro w hS; simp only [evW, putW] at hS; try simp only [putW]) | (refine storeAll hS rfl rfl rfl rfl ?_ ?_ ?_ ?_; rfl; (focus (simp [Value.oneCell']; done)); rfl; clear hS; intro w hS; try simp only [putW]) | (refine storeN hS rfl rfl rfl rfl ?_ ?_ ?_ ?_; rfl; (focus (simp [Value.oneCell']; done)); (focus (simp; done)); clear hS; intro w hS; simp at hS; try simp only [putW]) | (refine alloc hS rfl rfl ?_; clear hS; intro mb w hS; simp only [putW]) | (refine box1 hS rfl rfl rfl rfl ?_; clear hS; intro mb w hS; try simp only [evW, putW] at hS; simp only [putW]) | (refine boxN hS rfl rfl rfl ?_; clear hS; intro mb w hS; simp only [putW]))
      refine ⟨?_⟩
      (refine Calls.mono (same_any (hS.readsSl (v := va') (L := A) HRI.out.all) (HRI.out.mono hS.base)) ?_; rintro _ w2 ⟨rfl, h2⟩; replace hS := hS.frame h2; clear h2; (try simp only [List.cons_append, List.nil_append] at hS); simp only [putW])
      simp only [decide_true]
      go_wp2_with (first | (refine loadS (f := pairF) hS rfl rfl rfl j 0 ?_ hxj rfl ?_ ?_; omega; omega; simp only [putW]) | (guard_target =~ Calls _ 14 _ _ _; refine Stopped.out ?_) | (refine load1 hS rfl rfl rfl rfl ?_; simp only [putW]) | (refine loadAll hS rfl rfl rfl ?_ ?_; rfl; simp only [putW]) | (refine loadPart hS rfl rfl rfl ?_ rfl ?_; rfl; simp only [putW]) | (refine store1 hS rfl rfl rfl rfl rfl ?_ ?_; (focus (simp; done)); clear hS; intro w hS; simp only [evW, putW] at hS; try simp only [putW]) | (refine storeAll hS rfl rfl rfl rfl ?_ ?_ ?_ ?_; rfl; (focus (simp [Value.oneCell']; done)); rfl; clear hS; intro w hS; try simp only [putW]) | (refine storeN hS rfl rfl rfl rfl ?_ ?_ ?_ ?_; rfl; (focus (simp [Value.oneCell']; done)); (focus (simp; done)); clear hS; intro w hS; simp at hS; try simp only [putW]) | (refine alloc hS rfl rfl ?_; clear hS; intro mb w hS; simp only [putW]) | (refine box1 hS rfl rfl rfl rfl ?_; clear hS; intro mb w hS; try simp only [evW, putW] at hS; simp only [putW]) | (refine boxN hS rfl rfl rfl ?_; clear hS; intro mb w hS; simp only [putW]))
      refine ⟨?_⟩
      (refine Calls.mono (same_any (hS.readsSl (v := vb') (L := B) HRJ.out.all) (HRJ.out.mono hS.base)) ?_; rintro _ w2 ⟨rfl, h2⟩; replace hS := hS.frame h2; clear h2; (try simp only [List.cons_append, List.nil_append] at hS); simp only [putW])
      simp only [decide_true]
      go_wp2_with (first | (go_at_call 10; refine Calls.mono (awakeG_any) ?_; rintro _ w2 ⟨rfl, h2⟩; replace hS := hS.frame h2; clear h2; (try simp only [List.cons_append, List.nil_append] at hS); simp only [putW]) | (refine load1 hS rfl rfl rfl rfl ?_; simp only [putW]) | (refine loadAll hS rfl rfl rfl ?_ ?_; rfl; simp only [putW]) | (refine loadPart hS rfl rfl rfl ?_ rfl ?_; rfl; simp only [putW]) | (refine store1 hS rfl rfl rfl rfl rfl ?_ ?_; (focus (simp; done)); clear hS; intro w hS; simp only [evW, putW] at hS; try simp only [putW]) | (refine storeAll hS rfl rfl rfl rfl ?_ ?_ ?_ ?_; rfl; (focus (simp [Value.oneCell']; done)); rfl; clear hS; intro w hS; try simp only [putW]) | (refine storeN hS rfl rfl rfl rfl ?_ ?_ ?_ ?_; rfl; (focus (simp [Value.oneCell']; done)); (focus (simp; done)); clear hS; intro w hS; simp at hS; try simp only [putW]) | (refine alloc hS rfl rfl ?_; clear hS; intro mb w hS; simp only [putW]) | (refine box1 hS rfl rfl rfl rfl ?_; clear hS; intro mb w hS; try simp only [evW, putW] at hS; simp only [putW]) | (refine boxN hS rfl rfl rfl ?_; clear hS; intro mb w hS; simp only [putW]))
      go_ret
      exact ⟨rfl, (hS0.frame hS).nothing⟩
end
end Go.Proofs.YteoidocicjlglaaDoor.GhostClashesDone
