/-
  TreePaths: the walk.
-/
import Derived.Test.YteiglillnogoaaaDoorTrPathL
set_option linter.unusedSimpArgs false
set_option linter.unusedVariables false
namespace Go.Proofs.YteiglillnogoaaaDoor.TreePathsDone
open Go.RowKit Go.Proofs.YteiglillnogoaaaDoor Go.Proofs.YteiglillnogoaaaDoor.Sl Go.Proofs.YteiglillnogoaaaDoor.Sha Go.Proofs.YteiglillnogoaaaDoor.Jp Go.Proofs.YteiglillnogoaaaDoor.Tr Go.Proofs.YteiglillnogoaaaDoor.TreeBuildsDone

section
variable {w0 w : World} {S F : List Chunk} {α : Type} {g cap j n : Nat} {l l' : List α} {vv : α → Value} {f : α → List Value} {t : TypeId}
theorem setSlc (h : Sat w0 ((g, slc 1 (one vv) l cap t) :: F) w) (y : α) (hj : j < l.length) : Sat w0 ((g, slc 1 (one vv) (l.set j y) cap t) :: F) (w.setCell ⟨g, j, none⟩ (vv y)) := by
  obtain ⟨cur, hcur, k1, k2, k3, k4, k5⟩ := h.slcOf (g := g) (n := 1) (f := one vv) (l := l) (cap := cap) (t := t)
  refine (hcur.setCell (b := g) j (vv y)).toSlc (by simpa using k1) (by simpa using k2) k3 ?_ (fun _ _ => rfl)
  rw [flatMap_one, Nat.mul_one] at k4
  rw [flatMap_one, Nat.mul_one, List.length_set, Array.toList_setIfInBounds, List.take_set, k4, List.map_set]
theorem sameSlc (h : Sat w0 ((g, slc n f l cap t) :: F) w) (h1 : l.length = l'.length) (h2 : l.flatMap f = l'.flatMap f) (h3 : ∀ x ∈ l', (f x).length = n) : Sat w0 ((g, slc n f l' cap t) :: F) w :=
  h.turn fun _ ⟨cur, a, b, c, d, e, _⟩ => ⟨cur, a, b, by rw [← h1]; exact c, d, by rw [← h1, ← h2]; exact e, h3⟩
end
theorem xor_ne {a b : Nat} (hb : b ≠ 0) : a ^^^ b ≠ a := fun e => hb (by
  have h1 : a ^^^ (a ^^^ b) = a ^^^ a := by rw [e]
  rwa [← Nat.xor_assoc, Nat.xor_self, Nat.zero_xor] at h1)
section
variable {w0 w : World} {K S F0 F1 F2 : List Chunk} {X Y : List (Value × List Int)} {va vf : Value} {Ps : List (List Int × List Int)} {l : Nat}
theorem logBack (hS : Sat w0 ((1, LogV (.pointer (some ⟨l, 0, none⟩)) Ps) :: K) w) : Sat w0 ((l, LogC Ps) :: K) w := by
  rcases logOpen hS with h | ⟨l', h, h2⟩
  · cases h
  · cases h
    exact h2
/-- A row of rows, some of one owner, some of another. -/
theorem rrTwo {j j' : Nat} {T t : TypeId} (h : Sat w0 S w) [p : PullSl S va (blk va) 1 rowF (X ++ Y) T F0] [q : Pull F0 j (inn X t) F1] [q' : Pull F0 j' (inn Y t) F2] (hX : ∀ x ∈ X, isRow x.2) (hY : ∀ x ∈ Y, isRow x.2) : RR w (X ++ Y) va := by
  have h1 := (h.perm p.perm).tail
  refine h.readsSl (v := va) (L := X ++ Y) (gd := fun x => RB w x.2 x.1) fun x hx => ?_
  rcases List.mem_append.1 hx with hx | hx
  · exact (h1.pull j (X := inn X t)).innReads (v := x.1) (A := x.2) hx (hX x hx).2
  · exact (h1.pull j' (X := inn Y t)).innReads (v := x.1) (A := x.2) hx (hY x hx).2
set_option maxRecDepth 100000 in
set_option maxHeartbeats 1000000 in
theorem core (x y z : Int) (c : Nat) {F : List Int} (hc : c < 256) (hF : RB w0 F vf) (hK : KTab w0) : Calls Tryd.prog 7 #[.int .i64 x, vf, .int .i64 y, .int .i64 z, .int .u8 c] w0 fun e w' => e = .returned (.bool true) ∧ Sat w0 [] w' := by
  have hS := Sat.refl w0
  go_enter Tryd.func7, Tryd.ntmps7
  go_wp2_with (first | (guard_target =~ Calls _ 8 _ _ _; refine Stopped.out ?_) | (refine load1 hS rfl rfl rfl rfl ?_; simp only [putW]) | (refine loadAll hS rfl rfl rfl ?_ ?_; rfl; simp only [putW]) | (refine loadPart hS rfl rfl rfl ?_ rfl ?_; rfl; simp only [putW]) | (refine store1 hS rfl rfl rfl rfl rfl ?_ ?_; (focus (simp; done)); clear hS; intro w hS; simp only [evW, putW] at hS; try simp only [putW]) | (refine storeAll hS rfl rfl rfl rfl ?_ ?_ ?_ ?_; rfl; (focus (simp [Value.oneCell']; done)); rfl; clear hS; intro w hS; try simp only [putW]) | (refine storeN hS rfl rfl rfl rfl ?_ ?_ ?_ ?_; rfl; (focus (simp [Value.oneCell']; done)); (focus (simp; done)); clear hS; intro w hS; simp at hS; try simp only [putW]) | (refine alloc hS rfl rfl ?_; clear hS; intro mb w hS; simp only [putW]) | (refine box1 hS rfl rfl rfl rfl ?_; clear hS; intro mb w hS; try simp only [evW, putW] at hS; simp only [putW]) | (refine boxN hS rfl rfl rfl ?_; clear hS; intro mb w hS; simp only [putW]))
  refine ⟨?_⟩
  (refine Calls.mono (made_any x (hF.mono hS.base)) ?_; rintro _ w2 ⟨lv, vb, X, rfl, hX, hXr, h2⟩; replace hS := hS.frame h2; clear h2; (try simp only [List.cons_append, List.nil_append] at hS); simp only [putW])
  obtain ⟨hp1, hp3, -⟩ := nP_le x
  generalize nP x = P at *
  have hm := cM_is hp1 hp3
  have hcp := c_pos hp1
  have hcl := c_le hp3
  have hor := cN_or hp1
  obtain ⟨gl, cl, rfl, hS2⟩ := (hS.pull (blk lv) (X := sl 1 i64 (lvs (cL P) (cN P)) 3 lv)).slForm (cM P) rfl (by omega)
  clear hS
  obtain ⟨g, cap, rfl, hS3⟩ := (hS2.pull (blk vb) (X := sl 1 rowF X 22 vb)).slFormC (cC P) hX (by omega)
  clear hS2
  have hS := hS3
  clear hS3
  have hbl : (X.map (·.2)).length = cC P := by simpa using hX
  obtain ⟨nn, hnl, hall, hnn⟩ := plan_facts hp1 hp3 (bs := X.map (·.2)) hbl
  obtain ⟨D, hD⟩ : ∃ D, dig (P + cC P + cN P - 1) (nn.getD (cN P - 1) []) = D := ⟨_, rfl⟩
  have hdl : Bx (D.length = 32) := ⟨by rw [← hD]; exact dig_len' _ _⟩
  have hdb : Bx (∀ x ∈ D, okByte x) := ⟨by rw [← hD]; exact dig_okB _ _⟩
  -- the page
  obtain ⟨page, hpg, hpp⟩ : ∃ page : Nat, y % (P : Int) = page ∧ page < P := by
    have h3 := Int.emod_nonneg y (show (P : Int) ≠ 0 by omega)
    have h4 := Int.emod_lt_of_pos y (show (0 : Int) < P by omega)
    exact ⟨(y % (P : Int)).toNat, by omega, by omega⟩
  obtain ⟨L, T, hch, hab⟩ := above_made hp1 hp3 hbl hpp hnn.1 hnl
  have hrows : ∀ r ∈ X.map (·.2) ++ nn, isRow r := by
    rw [← hall]
    refine all_rows dig_len' dig_okB P (cC P) (cL P) (cN P) _ (fun r hr => ?_) (cC P + cN P)
    obtain ⟨x, hx, rfl⟩ := List.mem_map.1 hr
    exact hXr x hx
  have hpr : ∀ r ∈ pathRows P L (X.map (·.2) ++ nn), isRow r := fun r hr => by
    obtain ⟨b, hb, rfl⟩ := List.mem_map.1 hr
    obtain ⟨i, hi, rfl⟩ := List.mem_iff_getElem.1 hb
    have hin := hab.rows i _ (List.getElem?_eq_getElem hi)
    rw [getD_of (List.getElem?_eq_getElem (by rw [List.length_append]; exact hin))]
    exact hrows _ (List.getElem_mem _)
  have hck := chk_built hch hab fun r hr => (hpr r hr).1
  obtain ⟨rows, hrw⟩ : ∃ rows, pathRows P L (X.map (·.2) ++ nn) = rows := ⟨_, rfl⟩
  rw [hrw] at hck hpr
  rw [hD] at hck
  have hrl : Bx (rows.length = L.length) := ⟨by rw [← hrw, pathRows_len]⟩
  have hLm : L.length = cM P + 1 := by rw [hch.len]; rfl
  have hlvl : (lvs (cL P) (cN P)).length = cM P := rfl
  obtain ⟨C, hC⟩ : ∃ C, cC P = C := ⟨_, rfl⟩
  obtain ⟨n1, hn1⟩ : ∃ n1, cL P = n1 := ⟨_, rfl⟩
  obtain ⟨N, hN⟩ : ∃ N, cN P = N := ⟨_, rfl⟩
  obtain ⟨m, hmm⟩ : ∃ m, cM P = m := ⟨_, rfl⟩
  obtain ⟨PC, hPC⟩ : ∃ PC, planC P (.slice (some ⟨gl, 0, none⟩) (cM P) cl) = PC := ⟨_, rfl⟩
  rw [hPC]
  obtain ⟨J, s, t, hPC2⟩ : ∃ J s t : Int, PC = plL P 4 C (.slice (some ⟨gl, 0, none⟩) m cl) N ((P : Int) + C + N) 1 J s t := ⟨_, _, _, by rw [← hPC, ← hC, ← hN, ← hmm]⟩
  subst hPC2
  clear hPC
  simp only [hC, hN, hn1, hmm] at hS hX hnl hall hnn hm hcp hcl hor hlvl hch hab hD hLm ⊢
  have HC : Bx _ := ⟨hC⟩
  have HN : Bx _ := ⟨hN⟩
  have Hn1 : Bx _ := ⟨hn1⟩
  have Hm : Bx _ := ⟨hmm⟩
  have HD : Bx _ := ⟨hD⟩
  have Hnn : Bx _ := ⟨hnn⟩
  have Hnl : Bx _ := ⟨hnl⟩
  have HX : Bx _ := ⟨hX⟩
  have HXr : Bx _ := ⟨hXr⟩
  have Hlv : Bx ((lvs n1 N).length = m) := ⟨hlvl⟩
  have Hch : Bx _ := ⟨hch⟩
  have Hck : Bx _ := ⟨hck⟩
  have Hrw : Bx _ := ⟨hrw⟩
  have Hpr : Bx _ := ⟨hpr⟩
  have Hrows : Bx _ := ⟨hrows⟩
  have Hab : Bx _ := ⟨hab⟩
  have Hor : Bx _ := ⟨hor⟩
  have hm3 : m ≤ 2 ∧ 1 ≤ m := by omega
  have HLm : Bx _ := ⟨hLm⟩
  clear hlvl hC hN hn1 hmm hD hnn hall hnl hX hXr hch hck hrw hpr hrows hab hbl hm hLm
  go_wp2_with (first | (go_at_call 10; refine Calls.mono (ghostNew_any) ?_; rintro _ w2 ⟨l, rfl, h2⟩; replace hS := hS.frame h2; clear h2; (try simp only [List.cons_append, List.nil_append] at hS); simp only [putW]) | (guard_target =~ Calls _ 9 _ _ _; refine Stopped.out ?_) | (refine load1 hS rfl rfl rfl rfl ?_; simp only [putW]) | (refine loadAll hS rfl rfl rfl ?_ ?_; rfl; simp only [putW]) | (refine loadPart hS rfl rfl rfl ?_ rfl ?_; rfl; simp only [putW]) | (refine store1 hS rfl rfl rfl rfl rfl ?_ ?_; (focus (simp; done)); clear hS; intro w hS; simp only [evW, putW] at hS; try simp only [putW]) | (refine storeAll hS rfl rfl rfl rfl ?_ ?_ ?_ ?_; rfl; (focus (simp [Value.oneCell']; done)); rfl; clear hS; intro w hS; try simp only [putW]) | (refine storeN hS rfl rfl rfl rfl ?_ ?_ ?_ ?_; rfl; (focus (simp [Value.oneCell']; done)); (focus (simp; done)); clear hS; intro w hS; simp at hS; try simp only [putW]) | (refine alloc hS rfl rfl ?_; clear hS; intro mb w hS; simp only [putW]) | (refine box1 hS rfl rfl rfl rfl ?_; clear hS; intro mb w hS; try simp only [evW, putW] at hS; simp only [putW]) | (refine boxN hS rfl rfl rfl ?_; clear hS; intro mb w hS; simp only [putW]))
  refine ⟨?_⟩
  obtain ⟨mp, rfl⟩ : ∃ mp, mp = mb := ⟨_, rfl⟩
  replace hS := logSome (hS.pull l (X := LogC []))
  (refine Calls.mono (build_log (X := X) hS (fun w' h => rowsReadN (g := g) (cap := cap) (T := 22) (t := 5) 0 h HX.out fun x hx => (HXr.out x hx).2) (fun w' h => h.readsSl (v := .slice (some ⟨gl, 0, none⟩) m cl) (g := gl) (L := lvs n1 N) fun _ _ => trivial) hK hp1 hp3 HC.out Hn1.out HN.out Hm.out HX.out HXr.out Hnn.out HD.out) ?_; clear hS; rintro _ w ⟨v, Y, Qs, rfl, hY, hQ, hQl, hS⟩; simp only [putW])
  have hYl : Y.length = N := by have h := congrArg List.length hY; rw [Hnl.out] at h; simpa using h
  have HYr : Bx (∀ x ∈ Y, isRow x.2) := ⟨fun x hx => Hrows.out _ (List.mem_append_right _ (by rw [← hY]; exact List.mem_map_of_mem (f := fun x : Value × List Int => x.2) hx))⟩
  have HY : Bx _ := ⟨hY⟩
  have HQ : Bx _ := ⟨hQ⟩
  obtain ⟨gn, cn, rfl, hS2⟩ := (hS.pull (blk v) (X := sl 1 rowF Y 22 v)).slFormC N hYl (by omega)
  clear hS
  have hS := hS2
  have HYl : Bx _ := ⟨hYl⟩
  clear hS2 hY hQ hYl
  have HXc : Bx (∀ x ∈ X, x.1.oneCell' = true) := ⟨fun x hx => by
    obtain ⟨a, c, e, _⟩ := ((rowsReadN (g := g) (cap := cap) (T := 22) (t := 5) 0 hS HX.out fun x hx => (HXr.out x hx).2).all x hx).at
    rw [e]; rfl⟩
  have HYc : Bx (∀ x ∈ Y, x.1.oneCell' = true) := ⟨fun x hx => by
    obtain ⟨a, c, e, _⟩ := ((rowsReadN (g := gn) (cap := cn) (T := 22) (t := 5) 3 hS HYl.out fun x hx => (HYr.out x hx).2).all x hx).at
    rw [e]; rfl⟩
  have Hpg : Bx _ := ⟨hpg⟩
  clear hpg
  go_wp2_with (first | (refine allocA (t := 29) (vv := u8v) hS rfl rfl (List.replicate 32 0) zeros32 ?_; clear hS; intro md w hS; simp only [putW]) | (refine storeAllA (vv := u8v) hS rfl rfl rfl D rfl hdl.out (fun _ _ => rfl) (by simp) ?_; clear hS; intro w hS; try simp only [putW]) | (guard_target =~ Calls _ 14 _ _ _; refine Stopped.out ?_) | (refine load1 hS rfl rfl rfl rfl ?_; simp only [putW]) | (refine loadAll hS rfl rfl rfl ?_ ?_; rfl; simp only [putW]) | (refine loadPart hS rfl rfl rfl ?_ rfl ?_; rfl; simp only [putW]) | (refine store1 hS rfl rfl rfl rfl rfl ?_ ?_; (focus (simp; done)); clear hS; intro w hS; simp only [evW, putW] at hS; try simp only [putW]) | (refine storeAll hS rfl rfl rfl rfl ?_ ?_ ?_ ?_; rfl; (focus (simp [Value.oneCell']; done)); rfl; clear hS; intro w hS; try simp only [putW]) | (refine storeN hS rfl rfl rfl rfl ?_ ?_ ?_ ?_; rfl; (focus (simp [Value.oneCell']; done)); (focus (simp; done)); clear hS; intro w hS; simp at hS; try simp only [putW]) | (refine alloc hS rfl rfl ?_; clear hS; intro mb w hS; simp only [putW]) | (refine box1 hS rfl rfl rfl rfl ?_; clear hS; intro mb w hS; try simp only [evW, putW] at hS; simp only [putW]) | (refine boxN hS rfl rfl rfl ?_; clear hS; intro mb w hS; simp only [putW]))
  refine ⟨?_⟩
  refine Calls.mono (pick_any y P (by omega) (by omega)) ?_
  rintro _ _ ⟨rfl, rfl⟩
  simp only [putW]
  rw [Hpg.out]
  go_wp2_with (first | (guard_target =~ wpList _ _ _ (Oper.mk (some 43) _ _ _ _ _ :: _) _ _; refine Stopped.out ?_) | (refine load1 hS rfl rfl rfl rfl ?_; simp only [putW]) | (refine loadAll hS rfl rfl rfl ?_ ?_; rfl; simp only [putW]) | (refine loadPart hS rfl rfl rfl ?_ rfl ?_; rfl; simp only [putW]) | (refine store1 hS rfl rfl rfl rfl rfl ?_ ?_; (focus (simp; done)); clear hS; intro w hS; simp only [evW, putW] at hS; try simp only [putW]) | (refine storeAll hS rfl rfl rfl rfl ?_ ?_ ?_ ?_; rfl; (focus (simp [Value.oneCell']; done)); rfl; clear hS; intro w hS; try simp only [putW]) | (refine storeN hS rfl rfl rfl rfl ?_ ?_ ?_ ?_; rfl; (focus (simp [Value.oneCell']; done)); (focus (simp; done)); clear hS; intro w hS; simp at hS; try simp only [putW]) | (refine alloc hS rfl rfl ?_; clear hS; intro mb w hS; simp only [putW]) | (refine box1 hS rfl rfl rfl rfl ?_; clear hS; intro mb w hS; try simp only [evW, putW] at hS; simp only [putW]) | (refine boxN hS rfl rfl rfl ?_; clear hS; intro mb w hS; simp only [putW]))
  refine ⟨?_⟩
  refine buildSlice0 (α := Value × List Int) hS rfl rfl rowF ?_
  clear hS
  intro m0 w hS
  simp only [putW]
  go_wp2_with (first | (guard_target =~ wpList _ _ _ (Oper.mk (some 45) _ _ _ _ _ :: _) _ _; refine Stopped.out ?_) | (refine load1 hS rfl rfl rfl rfl ?_; simp only [putW]) | (refine loadAll hS rfl rfl rfl ?_ ?_; rfl; simp only [putW]) | (refine loadPart hS rfl rfl rfl ?_ rfl ?_; rfl; simp only [putW]) | (refine store1 hS rfl rfl rfl rfl rfl ?_ ?_; (focus (simp; done)); clear hS; intro w hS; simp only [evW, putW] at hS; try simp only [putW]) | (refine storeAll hS rfl rfl rfl rfl ?_ ?_ ?_ ?_; rfl; (focus (simp [Value.oneCell']; done)); rfl; clear hS; intro w hS; try simp only [putW]) | (refine storeN hS rfl rfl rfl rfl ?_ ?_ ?_ ?_; rfl; (focus (simp [Value.oneCell']; done)); (focus (simp; done)); clear hS; intro w hS; simp at hS; try simp only [putW]) | (refine alloc hS rfl rfl ?_; clear hS; intro mb w hS; simp only [putW]) | (refine box1 hS rfl rfl rfl rfl ?_; clear hS; intro mb w hS; try simp only [evW, putW] at hS; simp only [putW]) | (refine boxN hS rfl rfl rfl ?_; clear hS; intro mb w hS; simp only [putW]))
  refine ⟨?_⟩
  refine appendB (f := rowF) hS rfl rfl (.slice (some ⟨m0, 0, none⟩) 0 0) rfl rfl X (rowsReadN (g := g) (cap := cap) (T := 22) (t := 5) 0 hS HX.out fun x hx => (HXr.out x hx).2) (fun x hx u hu => by rw [List.mem_singleton.1 hu]; exact HXc.out x hx) ?_ ?_ ?_
  · rw [HX.out]; simp [maxLen]; omega
  · rw [HX.out]; simp; omega
  clear hS
  intro v1 w hS
  simp only [putW, List.nil_append] at hS ⊢
  go_wp2_with (first | (guard_target =~ wpList _ _ _ (Oper.mk (some 47) _ _ _ _ _ :: _) _ _; refine Stopped.out ?_) | (refine load1 hS rfl rfl rfl rfl ?_; simp only [putW]) | (refine loadAll hS rfl rfl rfl ?_ ?_; rfl; simp only [putW]) | (refine loadPart hS rfl rfl rfl ?_ rfl ?_; rfl; simp only [putW]) | (refine store1 hS rfl rfl rfl rfl rfl ?_ ?_; (focus (simp; done)); clear hS; intro w hS; simp only [evW, putW] at hS; try simp only [putW]) | (refine storeAll hS rfl rfl rfl rfl ?_ ?_ ?_ ?_; rfl; (focus (simp [Value.oneCell']; done)); rfl; clear hS; intro w hS; try simp only [putW]) | (refine storeN hS rfl rfl rfl rfl ?_ ?_ ?_ ?_; rfl; (focus (simp [Value.oneCell']; done)); (focus (simp; done)); clear hS; intro w hS; simp at hS; try simp only [putW]) | (refine alloc hS rfl rfl ?_; clear hS; intro mb w hS; simp only [putW]) | (refine box1 hS rfl rfl rfl rfl ?_; clear hS; intro mb w hS; try simp only [evW, putW] at hS; simp only [putW]) | (refine boxN hS rfl rfl rfl ?_; clear hS; intro mb w hS; simp only [putW]))
  refine ⟨?_⟩
  refine appendB (f := rowF) hS rfl rfl v1 rfl rfl Y (rowsReadN (g := gn) (cap := cn) (T := 22) (t := 5) 3 hS HYl.out fun x hx => (HYr.out x hx).2) (fun x hx u hu => by rw [List.mem_singleton.1 hu]; exact HYc.out x hx) ?_ ?_ ?_
  · rw [HX.out, HYl.out]; simp [maxLen]; omega
  · rw [HX.out, HYl.out]; omega
  clear hS
  intro va w hS
  simp only [putW]
  go_wp2_with (first | (guard_target =~ Calls _ 27 _ _ _; refine Stopped.out ?_) | (refine load1 hS rfl rfl rfl rfl ?_; simp only [putW]) | (refine loadAll hS rfl rfl rfl ?_ ?_; rfl; simp only [putW]) | (refine loadPart hS rfl rfl rfl ?_ rfl ?_; rfl; simp only [putW]) | (refine store1 hS rfl rfl rfl rfl rfl ?_ ?_; (focus (simp; done)); clear hS; intro w hS; simp only [evW, putW] at hS; try simp only [putW]) | (refine storeAll hS rfl rfl rfl rfl ?_ ?_ ?_ ?_; rfl; (focus (simp [Value.oneCell']; done)); rfl; clear hS; intro w hS; try simp only [putW]) | (refine storeN hS rfl rfl rfl rfl ?_ ?_ ?_ ?_; rfl; (focus (simp [Value.oneCell']; done)); (focus (simp; done)); clear hS; intro w hS; simp at hS; try simp only [putW]) | (refine alloc hS rfl rfl ?_; clear hS; intro mb w hS; simp only [putW]) | (refine box1 hS rfl rfl rfl rfl ?_; clear hS; intro mb w hS; try simp only [evW, putW] at hS; simp only [putW]) | (refine boxN hS rfl rfl rfl ?_; clear hS; intro mb w hS; simp only [putW]))
  refine ⟨?_⟩
  have hP5 : P ≤ 100000 := by omega
  have hC5 : C ≤ 100000 := by omega
  have hn5 : n1 ≤ 100000 := by omega
  have hXY : Bx (∀ x ∈ X ++ Y, isRow x.2) := ⟨fun x hx => by
    rcases List.mem_append.1 hx with h | h
    · exact HXr.out x h
    · exact HYr.out x h⟩
  have hXYl : Bx ((X ++ Y).length = C + N) := ⟨by rw [List.length_append, HX.out, HYl.out]⟩
  have hXYm : Bx ((X ++ Y).map (·.2) = X.map (·.2) ++ nn) := ⟨by rw [List.map_append, HY.out]⟩
  have hin : ∀ (i b : Nat), L[i]? = some b → b - P < (X ++ Y).length := fun i b h => by
    have h2 := Hab.out.rows i b h
    rw [hXYl.out]
    rw [List.length_map, HX.out, Hnl.out] at h2
    exact h2
  have hXY5 : (X ++ Y).length ≤ 100000 := by rw [hXYl.out]; omega
  (refine Calls.mono (lawPath_any (Z := X ++ Y) (L := L) (T := T) rfl (hS.readsSl (v := .slice (some ⟨gl, 0, none⟩) m cl) (g := gl) (L := lvs n1 N) fun _ _ => trivial) (rrTwo (j := 0) (j' := 3) (T := 22) (t := 5) hS HXr.out HYr.out) hP5 hC5 hn5 Hor.out hpp Hch.out hXY.out hin hXY5) ?_; rintro _ w2 ⟨vx, Z, rfl, hZ, h2⟩; replace hS := hS.frame h2; clear h2; (try simp only [List.cons_append, List.nil_append] at hS); simp only [putW])
  rw [hXYm.out, Hrw.out] at hZ
  replace hS := ((hS.pull 0 (X := inn Z 5)).turn (b' := 5) (Y := inn Z 5) fun _ h => h)
  obtain ⟨n9, hn9⟩ : ∃ n9, m + 1 = n9 := ⟨_, rfl⟩
  have hn95 : 2 ≤ n9 ∧ n9 ≤ 3 := by omega
  have hZl : Z.length = n9 := by rw [← hn9]; have h := congrArg List.length hZ; rw [hrl.out, HLm.out] at h; simpa using h
  have HZ : Bx _ := ⟨hZ⟩
  have HZl : Bx _ := ⟨hZl⟩
  obtain ⟨gx, cx, rfl, hS2⟩ := (hS.pull (blk vx) (X := sl 1 rowF Z 22 vx)).slFormC n9 hZl (by omega)
  clear hS
  have hS := hS2
  clear hS2 hZ hZl
  go_wp2_with (first | (refine loadAllA (l := D) (vv := u8v) hS rfl rfl rfl hdl.out ?_; simp only [putW]) | (guard_target =~ Calls _ 25 _ _ _; refine Stopped.out ?_) | (refine load1 hS rfl rfl rfl rfl ?_; simp only [putW]) | (refine loadAll hS rfl rfl rfl ?_ ?_; rfl; simp only [putW]) | (refine loadPart hS rfl rfl rfl ?_ rfl ?_; rfl; simp only [putW]) | (refine store1 hS rfl rfl rfl rfl rfl ?_ ?_; (focus (simp; done)); clear hS; intro w hS; simp only [evW, putW] at hS; try simp only [putW]) | (refine storeAll hS rfl rfl rfl rfl ?_ ?_ ?_ ?_; rfl; (focus (simp [Value.oneCell']; done)); rfl; clear hS; intro w hS; try simp only [putW]) | (refine storeN hS rfl rfl rfl rfl ?_ ?_ ?_ ?_; rfl; (focus (simp [Value.oneCell']; done)); (focus (simp; done)); clear hS; intro w hS; simp at hS; try simp only [putW]) | (refine alloc hS rfl rfl ?_; clear hS; intro mb w hS; simp only [putW]) | (refine box1 hS rfl rfl rfl rfl ?_; clear hS; intro mb w hS; try simp only [evW, putW] at hS; simp only [putW]) | (refine boxN hS rfl rfl rfl ?_; clear hS; intro mb w hS; simp only [putW]))
  refine ⟨?_⟩
  replace hS := hS.conv (S' := (1, LogV (.pointer (some ⟨l, 0, none⟩)) Qs) :: (gx, slc 1 rowF Z cx 22) :: (5, inn Z 5) :: (md, cells (D.map u8v).toArray 29) :: (mp, cells (plL P 4 C (.slice (some ⟨gl, 0, none⟩) m cl) N ((P : Int) + C + N) 1 J s t).toArray 25) :: (gl, sl 1 i64 (lvs n1 N) 3 (.slice (some ⟨gl, 0, none⟩) m cl)) :: [])
  have hZr : Bx (∀ x ∈ Z, isRow x.2) := ⟨fun x hx => Hpr.out _ (by rw [← HZ.out]; exact List.mem_map_of_mem (f := fun x : Value × List Int => x.2) hx)⟩
  have hQ5 : Qs.length ≤ 1000 := by omega
  (refine Calls.mono (check_any (X := Z) (R := D) (rows := rows) (r := 0) rfl hS (fun w' h => h.readsSl (v := .slice (some ⟨gl, 0, none⟩) m cl) (g := gl) (L := lvs n1 N) fun _ _ => trivial) (fun w' h => rowsReadN (g := gx) (cap := cx) (T := 22) (t := 5) 5 h HZl.out fun x hx => (hZr.out x hx).2) hK hP5 hC5 hn5 Hor.out hpp Hch.out hdl.out hdb.out hQ5 HZ.out Hck.out) ?_; clear hS; rintro _ w ⟨rfl, q, hq, hq0, hS⟩; simp only [putW])
  have hq1 : n9 = q := by rw [hq0 rfl, HLm.out, hn9]
  subst hq1
  clear hq hq0
  have hQs2 : Bx (∀ p ∈ Qs ++ chkNotes L rows n9, PairOk p) := ⟨fun p hp => by
    rcases List.mem_append.1 hp with h | h
    · exact HQ.out p h
    · exact chkNotes_ok Hpr.out n9 p h⟩
  have hQl2 : (Qs ++ chkNotes L rows n9).length ≤ 1000 := by rw [List.length_append, chkNotes_len]; omega
  by_cases hc0 : c = 0
  · subst hc0
    go_wp2_with (first | (go_at_call 15; refine Calls.mono (awake_any (hK.mono hS.base)) ?_; rintro _ w2 ⟨rfl, h2⟩; replace hS := hS.frame h2; clear h2; (try simp only [List.cons_append, List.nil_append] at hS); simp only [putW]) | (refine load1 hS rfl rfl rfl rfl ?_; simp only [putW]) | (refine loadAll hS rfl rfl rfl ?_ ?_; rfl; simp only [putW]) | (refine loadPart hS rfl rfl rfl ?_ rfl ?_; rfl; simp only [putW]) | (refine store1 hS rfl rfl rfl rfl rfl ?_ ?_; (focus (simp; done)); clear hS; intro w hS; simp only [evW, putW] at hS; try simp only [putW]) | (refine storeAll hS rfl rfl rfl rfl ?_ ?_ ?_ ?_; rfl; (focus (simp [Value.oneCell']; done)); rfl; clear hS; intro w hS; try simp only [putW]) | (refine storeN hS rfl rfl rfl rfl ?_ ?_ ?_ ?_; rfl; (focus (simp [Value.oneCell']; done)); (focus (simp; done)); clear hS; intro w hS; simp at hS; try simp only [putW]) | (refine alloc hS rfl rfl ?_; clear hS; intro mb w hS; simp only [putW]) | (refine box1 hS rfl rfl rfl rfl ?_; clear hS; intro mb w hS; try simp only [evW, putW] at hS; simp only [putW]) | (refine boxN hS rfl rfl rfl ?_; clear hS; intro mb w hS; simp only [putW]))
    go_ret
    exact ⟨rfl, hS.nothing⟩
  · have hc0' : Hid (c ≠ 0) := hc0
    have hcb : ((c : Nat) : Int) ≠ 0 := by omega
    clear hc0
    go_wp2_with (first | (guard_target =~ Calls _ 14 _ _ _; refine Stopped.out ?_) | (refine load1 hS rfl rfl rfl rfl ?_; simp only [putW]) | (refine loadAll hS rfl rfl rfl ?_ ?_; rfl; simp only [putW]) | (refine loadPart hS rfl rfl rfl ?_ rfl ?_; rfl; simp only [putW]) | (refine store1 hS rfl rfl rfl rfl rfl ?_ ?_; (focus (simp; done)); clear hS; intro w hS; simp only [evW, putW] at hS; try simp only [putW]) | (refine storeAll hS rfl rfl rfl rfl ?_ ?_ ?_ ?_; rfl; (focus (simp [Value.oneCell']; done)); rfl; clear hS; intro w hS; try simp only [putW]) | (refine storeN hS rfl rfl rfl rfl ?_ ?_ ?_ ?_; rfl; (focus (simp [Value.oneCell']; done)); (focus (simp; done)); clear hS; intro w hS; simp at hS; try simp only [putW]) | (refine alloc hS rfl rfl ?_; clear hS; intro mb w hS; simp only [putW]) | (refine box1 hS rfl rfl rfl rfl ?_; clear hS; intro mb w hS; try simp only [evW, putW] at hS; simp only [putW]) | (refine boxN hS rfl rfl rfl ?_; clear hS; intro mb w hS; simp only [putW]))
    refine ⟨?_⟩
    refine Calls.mono (pick_any z (256 * (n9 : Int)) (by omega) (by omega)) ?_
    rintro _ _ ⟨rfl, rfl⟩
    simp only [putW]
    obtain ⟨k, hk, hkl⟩ : ∃ k : Nat, z % (256 * (n9 : Int)) = k ∧ k < 256 * n9 := by
      have h3 := Int.emod_nonneg z (show 256 * (n9 : Int) ≠ 0 by omega)
      have h4 := Int.emod_lt_of_pos z (show 0 < 256 * (n9 : Int) by omega)
      exact ⟨(z % (256 * (n9 : Int))).toNat, by omega, by omega⟩
    rw [hk]
    clear hk
    obtain ⟨i, j, hj, hi, rfl⟩ : ∃ i j, j < 256 ∧ i < n9 ∧ k = 256 * i + j := ⟨k / 256, k % 256, by omega, by omega, by omega⟩
    clear hkl
    obtain ⟨⟨rv, rl⟩, hxi⟩ : ∃ x, Z[i]? = some x := ⟨_, List.getElem?_eq_getElem (by rw [HZl.out]; exact hi)⟩
    have hiX : i < Z.length := (List.getElem?_eq_some_iff.1 hxi).1
    have hsp : Z = Z.take i ++ (rv, rl) :: Z.drop (i + 1) := by
      have h5 : Z.drop i = (rv, rl) :: Z.drop (i + 1) := by rw [List.drop_eq_getElem_cons hiX]; congr 1; exact (List.getElem?_eq_some_iff.1 hxi).2
      rw [← h5, List.take_append_drop]
    have hrl : rl.length = 256 := (hZr.out _ (List.mem_of_getElem? hxi)).1
    have hrB : ∀ y ∈ rl, okByte y := (hZr.out _ (List.mem_of_getElem? hxi)).2
    have hS3 := hS.pull 5
    rw [show inn Z 5 = inn (Z.take i ++ (rv, rl) :: Z.drop (i + 1)) 5 from congrArg (fun l => inn l 5) hsp] at hS3
    obtain ⟨gr, cr, rfl, hS4⟩ := hS3.innPull.slFormC 256 hrl (by omega)
    clear hS hS3
    have hS := hS4
    clear hS4
    obtain ⟨xi, hx⟩ : ∃ x, rl[j]? = some x := ⟨_, List.getElem?_eq_getElem (by omega)⟩
    have hxb := hrB xi (List.mem_of_getElem? hx)
    unfold okByte at hxb
    obtain ⟨xn, rfl⟩ : ∃ xn : Nat, xi = xn := ⟨xi.toNat, by omega⟩
    have hxn : xn < 256 := by omega
    have hxor : bits .xor .u8 (xn : Int) (c : Int) = ((xn ^^^ c : Nat) : Int) := u8_xor_nat xn c hxn hc
    have hyl : xn ^^^ c < 256 := Nat.xor_lt_two_pow (n := 8) hxn hc
    have hyn : Hid (xn ^^^ c ≠ xn) := xor_ne hc0'.out
    generalize xn ^^^ c = y' at hxor hyl hyn
    have Hsp : Hid _ := hsp
    have Hrl : Hid _ := hrl
    have HrB : Hid _ := hrB
    have Hx : Bx _ := ⟨hx⟩
    have Hxi : Bx _ := ⟨hxi⟩
    clear hsp hrl hxb hrB
    have cA : w.cell? ⟨gx, i, none⟩ = some (.slice (some ⟨gr, 0, none⟩) 256 cr) := by
      have h5 := hS.slcCell (g := gx) (n := 1) (f := rowF) (l := Z) (cap := cx) (t := 22) (i := i) (j := 0) hxi (by omega)
      simpa using h5
    have cB : w.cell? ⟨gr, j, none⟩ = some (.int .u8 (xn : Int)) := by
      have h5 := hS.slcCell (g := gr) (n := 1) (f := by8) (l := rl) (cap := cr) (t := 5) (i := j) (j := 0) hx (by omega)
      simpa [one] using h5
    have fB : w.frozen? ⟨gr, j, none⟩ = false := by
      obtain ⟨cur, hcur, _⟩ := hS.slcOf (g := gr) (n := 1) (f := by8) (l := rl) (cap := cr) (t := 5)
      exact hcur.free (b := gr) j
    clear hx hxi
    have hq : (256 * (i : Int) + j) / 256 = i := by omega
    have hr : (256 * (i : Int) + j) % 256 = j := by omega
    go_wp2_with (first | (refine load1 hS rfl rfl rfl rfl ?_; simp only [putW]) | (refine loadAll hS rfl rfl rfl ?_ ?_; rfl; simp only [putW]) | (refine loadPart hS rfl rfl rfl ?_ rfl ?_; rfl; simp only [putW]) | (refine store1 hS rfl rfl rfl rfl rfl ?_ ?_; (focus (simp; done)); clear hS; intro w hS; simp only [evW, putW] at hS; try simp only [putW]) | (refine storeAll hS rfl rfl rfl rfl ?_ ?_ ?_ ?_; rfl; (focus (simp [Value.oneCell']; done)); rfl; clear hS; intro w hS; try simp only [putW]) | (refine storeN hS rfl rfl rfl rfl ?_ ?_ ?_ ?_; rfl; (focus (simp [Value.oneCell']; done)); (focus (simp; done)); clear hS; intro w hS; simp at hS; try simp only [putW]) | (refine alloc hS rfl rfl ?_; clear hS; intro mb w hS; simp only [putW]) | (refine box1 hS rfl rfl rfl rfl ?_; clear hS; intro mb w hS; try simp only [evW, putW] at hS; simp only [putW]) | (refine boxN hS rfl rfl rfl ?_; clear hS; intro mb w hS; simp only [putW]))
    go_region
    replace hS := (setSlc hS ((y' : Int)) (by rw [Hrl.out]; exact hj)).drew
    obtain ⟨B, hB⟩ : ∃ B, rl.set j (y' : Int) = B := ⟨_, rfl⟩
    have HB : Bx _ := ⟨hB⟩
    have HBl : Bx (B.length = 256) := ⟨by rw [← hB, List.length_set]; exact Hrl.out⟩
    have hBr : isRow B := ⟨HBl.out, fun b hb => by
      rw [← hB] at hb
      rcases List.mem_or_eq_of_mem_set hb with h | rfl
      · exact HrB.out b h
      · exact ⟨by omega, by omega⟩⟩
    have hne : Hid (rl ≠ B) := fun e => hyn.out (by
      have e3 := congrArg (fun l : List Int => l[j]?) e
      simp only [← HB.out, List.getElem?_set, Hx.out] at e3
      rw [if_pos trivial, if_pos (by rw [Hrl.out]; exact hj)] at e3
      have e4 := Option.some.inj e3
      omega)
    rw [hB] at hS
    clear hB
    have hSb := hS.slOfSlc
    rw [HBl.out] at hSb
    replace hSb := Sat.innBack (v := .slice (some ⟨gr, 0, none⟩) 256 cr) hSb
    clear hS cA cB fB
    obtain ⟨Z2, hZ2⟩ : ∃ Z2, Z2 = Z.take i ++ (.slice (some ⟨gr, 0, none⟩) 256 cr, B) :: Z.drop (i + 1) := ⟨_, rfl⟩
    rw [← hZ2] at hSb
    have hZ2s : Z2 = Z.set i (.slice (some ⟨gr, 0, none⟩) 256 cr, B) := by rw [hZ2, List.set_eq_take_append_cons_drop, if_pos hiX]
    have h2l : Z2.length = Z.length := by rw [hZ2s, List.length_set]
    have h2f : Z.flatMap rowF = Z2.flatMap rowF := by rw [hZ2]; conv => lhs; rw [Hsp.out]
                                                      simp [List.flatMap_append, List.flatMap_cons]
    have HZ2l : Bx (Z2.length = n9) := ⟨h2l.trans HZl.out⟩
    have HZ2r : Bx (∀ x ∈ Z2, isRow x.2) := ⟨fun x hx => by
      rw [hZ2s] at hx
      rcases List.mem_or_eq_of_mem_set hx with h | rfl
      · exact hZr.out x h
      · exact hBr⟩
    have HZ2 : Bx (Z2.map (·.2) = rows.set i B) := ⟨by rw [hZ2s, List.map_set, HZ.out]⟩
    have hS := (sameSlc (l := Z) (l' := Z2) (n := 1) (f := rowF) (hSb.pull gx) h2l.symm h2f (fun _ _ => rfl))
    clear hSb h2l h2f hZ2 hZ2s
    have hri : rows[i]? = some rl := by rw [← HZ.out, List.getElem?_map, Hxi.out]; rfl
    obtain ⟨li, hli⟩ : ∃ li, L[i]? = some li := ⟨_, List.getElem?_eq_getElem (by rw [HLm.out]; omega)⟩
    obtain ⟨r, hr2⟩ : ∃ r, chkAll L T (rows.set i B) D = r := ⟨_, rfl⟩
    have htn := chk_turned (root := D) (T := T) (hrl.out) (fun r hr => (Hpr.out r hr).1) hri HBl.out hli Hck.out
    rw [hr2] at htn
    have Htn : Bx _ := ⟨htn⟩
    have Hr2 : Bx _ := ⟨hr2⟩
    have Hri : Bx _ := ⟨hri⟩
    have Hli : Bx _ := ⟨hli⟩
    have hBrs : Bx (∀ r ∈ rows.set i B, isRow r) := ⟨fun r hr => by
      rcases List.mem_or_eq_of_mem_set hr with h | rfl
      · exact Hpr.out r h
      · exact hBr⟩
    clear htn hr2 hri hli hr hq
    obtain ⟨Q2, hQ2⟩ : ∃ Q2, Qs ++ chkNotes L rows n9 = Q2 := ⟨_, rfl⟩
    rw [hQ2] at hS hQs2 hQl2
    have HQ2 : Bx _ := ⟨hQ2⟩
    clear hQ2
    go_wp2_with (first | (refine loadAllA (l := D) (vv := u8v) hS rfl rfl rfl hdl.out ?_; simp only [putW]) | (guard_target =~ Calls _ 25 _ _ _; refine Stopped.out ?_) | (refine load1 hS rfl rfl rfl rfl ?_; simp only [putW]) | (refine loadAll hS rfl rfl rfl ?_ ?_; rfl; simp only [putW]) | (refine loadPart hS rfl rfl rfl ?_ rfl ?_; rfl; simp only [putW]) | (refine store1 hS rfl rfl rfl rfl rfl ?_ ?_; (focus (simp; done)); clear hS; intro w hS; simp only [evW, putW] at hS; try simp only [putW]) | (refine storeAll hS rfl rfl rfl rfl ?_ ?_ ?_ ?_; rfl; (focus (simp [Value.oneCell']; done)); rfl; clear hS; intro w hS; try simp only [putW]) | (refine storeN hS rfl rfl rfl rfl ?_ ?_ ?_ ?_; rfl; (focus (simp [Value.oneCell']; done)); (focus (simp; done)); clear hS; intro w hS; simp at hS; try simp only [putW]) | (refine alloc hS rfl rfl ?_; clear hS; intro mb w hS; simp only [putW]) | (refine box1 hS rfl rfl rfl rfl ?_; clear hS; intro mb w hS; try simp only [evW, putW] at hS; simp only [putW]) | (refine boxN hS rfl rfl rfl ?_; clear hS; intro mb w hS; simp only [putW]))
    refine ⟨?_⟩
    replace hS := hS.conv (S' := (1, LogV (.pointer (some ⟨l, 0, none⟩)) Q2) :: (gx, slc 1 rowF Z2 cx 22) :: (5, inn Z2 5) :: (md, cells (D.map u8v).toArray 29) :: (mp, cells (plL P 4 C (.slice (some ⟨gl, 0, none⟩) m cl) N ((P : Int) + C + N) 1 J s t).toArray 25) :: (gl, sl 1 i64 (lvs n1 N) 3 (.slice (some ⟨gl, 0, none⟩) m cl)) :: [])
    (refine Calls.mono (check_any (X := Z2) (R := D) (rows := rows.set i B) (r := r) rfl hS (fun w' h => h.readsSl (v := .slice (some ⟨gl, 0, none⟩) m cl) (g := gl) (L := lvs n1 N) fun _ _ => trivial) (fun w' h => rowsReadN (g := gx) (cap := cx) (T := 22) (t := 5) 5 h HZ2l.out fun x hx => (HZ2r.out x hx).2) hK hP5 hC5 hn5 Hor.out hpp Hch.out hdl.out hdb.out hQl2 HZ2.out Hr2.out) ?_; clear hS; rintro _ w ⟨rfl, q, hq, hq0, hS⟩; simp only [putW])
    have Hq : Bx (r = 0 → q = n9) := ⟨fun h => by rw [hq0 h, HLm.out, hn9]⟩
    have hqn : q ≤ n9 := by rw [HLm.out, hn9] at hq; exact hq
    clear hq hq0
    have hQs3 : ∀ p ∈ Q2 ++ chkNotes L (rows.set i B) q, PairOk p := fun p hp => by
      rcases List.mem_append.1 hp with h | h
      · exact hQs2.out p h
      · exact chkNotes_ok hBrs.out q p h
    have hQl3 : (Q2 ++ chkNotes L (rows.set i B) q).length ≤ 1000000 := by rw [List.length_append, chkNotes_len]; omega
    have hcl : Bx (r = 0 → ¬ NoClash (Q2 ++ chkNotes L (rows.set i B) q) (Q2 ++ chkNotes L (rows.set i B) q).length) := ⟨fun h0 => by
      have hd : dig li B = dig li rl := by
        rcases Htn.out with h | h
        · omega
        · exact h.2
      refine clash_two (b := li) (A := rl) (B := B) ?_ ?_ hne hd
      · rw [← HQ2.out]
        exact List.mem_append_left _ (List.mem_append_right _ (chkNotes_mem hi Hli.out Hri.out))
      · exact List.mem_append_right _ (chkNotes_mem (by rw [Hq.out h0]; exact hi) Hli.out (by rw [List.getElem?_set_self (by rw [hrl.out, HLm.out]; omega)]))⟩
    obtain ⟨Q3, hQ3⟩ : ∃ Q3, Q2 ++ chkNotes L (rows.set i B) q = Q3 := ⟨_, rfl⟩
    rw [hQ3] at hS hQs3 hQl3 hcl
    clear hQ3
    have hr0 : Bx (r = 10 ∨ r = 0) := ⟨Htn.out.imp id And.left⟩
    go_wp2_with (first | (guard_target =~ Calls _ 28 _ _ _; refine Stopped.out ?_) | (refine load1 hS rfl rfl rfl rfl ?_; simp only [putW]) | (refine loadAll hS rfl rfl rfl ?_ ?_; rfl; simp only [putW]) | (refine loadPart hS rfl rfl rfl ?_ rfl ?_; rfl; simp only [putW]) | (refine store1 hS rfl rfl rfl rfl rfl ?_ ?_; (focus (simp; done)); clear hS; intro w hS; simp only [evW, putW] at hS; try simp only [putW]) | (refine storeAll hS rfl rfl rfl rfl ?_ ?_ ?_ ?_; rfl; (focus (simp [Value.oneCell']; done)); rfl; clear hS; intro w hS; try simp only [putW]) | (refine storeN hS rfl rfl rfl rfl ?_ ?_ ?_ ?_; rfl; (focus (simp [Value.oneCell']; done)); (focus (simp; done)); clear hS; intro w hS; simp at hS; try simp only [putW]) | (refine alloc hS rfl rfl ?_; clear hS; intro mb w hS; simp only [putW]) | (refine box1 hS rfl rfl rfl rfl ?_; clear hS; intro mb w hS; try simp only [evW, putW] at hS; simp only [putW]) | (refine boxN hS rfl rfl rfl ?_; clear hS; intro mb w hS; simp only [putW]))
    refine ⟨?_⟩
    replace hS := logBack (hS.pull 1)
    refine (clash_any hQs3 hQl3 hS).mono ?_
    clear hS
    rintro _ w (⟨rfl, hno, hS⟩ | ⟨i2, j2, A2, B2, va2, vb2, -, rfl, hS⟩)
    · have hr10 : r = 10 := hr0.out.resolve_right fun h => hcl.out h hno
      clear hno
      subst hr10
      go_wp2_with (first | (go_at_call 15; refine Calls.mono (awake_any (hK.mono hS.base)) ?_; rintro _ w2 ⟨rfl, h2⟩; replace hS := hS.frame h2; clear h2; (try simp only [List.cons_append, List.nil_append] at hS); simp only [putW]) | (refine load1 hS rfl rfl rfl rfl ?_; simp only [putW]) | (refine loadAll hS rfl rfl rfl ?_ ?_; rfl; simp only [putW]) | (refine loadPart hS rfl rfl rfl ?_ rfl ?_; rfl; simp only [putW]) | (refine store1 hS rfl rfl rfl rfl rfl ?_ ?_; (focus (simp; done)); clear hS; intro w hS; simp only [evW, putW] at hS; try simp only [putW]) | (refine storeAll hS rfl rfl rfl rfl ?_ ?_ ?_ ?_; rfl; (focus (simp [Value.oneCell']; done)); rfl; clear hS; intro w hS; try simp only [putW]) | (refine storeN hS rfl rfl rfl rfl ?_ ?_ ?_ ?_; rfl; (focus (simp [Value.oneCell']; done)); (focus (simp; done)); clear hS; intro w hS; simp at hS; try simp only [putW]) | (refine alloc hS rfl rfl ?_; clear hS; intro mb w hS; simp only [putW]) | (refine box1 hS rfl rfl rfl rfl ?_; clear hS; intro mb w hS; try simp only [evW, putW] at hS; simp only [putW]) | (refine boxN hS rfl rfl rfl ?_; clear hS; intro mb w hS; simp only [putW]))
      go_ret
      exact ⟨rfl, hS.nothing⟩
    · rcases hr0.out with h10 | h10
      · subst h10
        go_wp2_with (first | (go_at_call 15; refine Calls.mono (awake_any (hK.mono hS.base)) ?_; rintro _ w2 ⟨rfl, h2⟩; replace hS := hS.frame h2; clear h2; (try simp only [List.cons_append, List.nil_append] at hS); simp only [putW]) | (refine load1 hS rfl rfl rfl rfl ?_; simp only [putW]) | (refine loadAll hS rfl rfl rfl ?_ ?_; rfl; simp only [putW]) | (refine loadPart hS rfl rfl rfl ?_ rfl ?_; rfl; simp only [putW]) | (refine store1 hS rfl rfl rfl rfl rfl ?_ ?_; (focus (simp; done)); clear hS; intro w hS; simp only [evW, putW] at hS; try simp only [putW]) | (refine storeAll hS rfl rfl rfl rfl ?_ ?_ ?_ ?_; rfl; (focus (simp [Value.oneCell']; done)); rfl; clear hS; intro w hS; try simp only [putW]) | (refine storeN hS rfl rfl rfl rfl ?_ ?_ ?_ ?_; rfl; (focus (simp [Value.oneCell']; done)); (focus (simp; done)); clear hS; intro w hS; simp at hS; try simp only [putW]) | (refine alloc hS rfl rfl ?_; clear hS; intro mb w hS; simp only [putW]) | (refine box1 hS rfl rfl rfl rfl ?_; clear hS; intro mb w hS; try simp only [evW, putW] at hS; simp only [putW]) | (refine boxN hS rfl rfl rfl ?_; clear hS; intro mb w hS; simp only [putW]))
        go_ret
        exact ⟨rfl, hS.nothing⟩
      · subst h10
        go_wp2_with (first | (go_at_call 15; refine Calls.mono (awake_any (hK.mono hS.base)) ?_; rintro _ w2 ⟨rfl, h2⟩; replace hS := hS.frame h2; clear h2; (try simp only [List.cons_append, List.nil_append] at hS); simp only [putW]) | (refine load1 hS rfl rfl rfl rfl ?_; simp only [putW]) | (refine loadAll hS rfl rfl rfl ?_ ?_; rfl; simp only [putW]) | (refine loadPart hS rfl rfl rfl ?_ rfl ?_; rfl; simp only [putW]) | (refine store1 hS rfl rfl rfl rfl rfl ?_ ?_; (focus (simp; done)); clear hS; intro w hS; simp only [evW, putW] at hS; try simp only [putW]) | (refine storeAll hS rfl rfl rfl rfl ?_ ?_ ?_ ?_; rfl; (focus (simp [Value.oneCell']; done)); rfl; clear hS; intro w hS; try simp only [putW]) | (refine storeN hS rfl rfl rfl rfl ?_ ?_ ?_ ?_; rfl; (focus (simp [Value.oneCell']; done)); (focus (simp; done)); clear hS; intro w hS; simp at hS; try simp only [putW]) | (refine alloc hS rfl rfl ?_; clear hS; intro mb w hS; simp only [putW]) | (refine box1 hS rfl rfl rfl rfl ?_; clear hS; intro mb w hS; try simp only [evW, putW] at hS; simp only [putW]) | (refine boxN hS rfl rfl rfl ?_; clear hS; intro mb w hS; simp only [putW]))
        go_ret
        exact ⟨rfl, hS.nothing⟩
end
end Go.Proofs.YteiglillnogoaaaDoor.TreePathsDone
