/-
  JournalBack: the walk, the given row.
-/
import Derived.Test.YtkppoffljkpiaaaJLaw
import Derived.Test.YtkppoffljkpiaaaSpPick
import Derived.Laws.BitsAllLaws
namespace Go.Proofs.Ytkppoffljkpiaaa.JournalBackDone
open Go.ChangeShapes Go.WideShapes Go.ChangeAt Go.RowKit Go.Proofs.Ytkppoffljkpiaaa Go.Proofs.Ytkppoffljkpiaaa.Sl Go.Proofs.Ytkppoffljkpiaaa.Jp Go.Proofs.Ytkppoffljkpiaaa.JournalOpensDone

theorem xor_ne {a b : Nat} (hb : b ≠ 0) : a ^^^ b ≠ a := fun e => hb (by
  have h1 : a ^^^ (a ^^^ b) = a ^^^ a := by rw [e]
  rwa [← Nat.xor_assoc, Nat.xor_self, Nat.zero_xor] at h1)
theorem int_dec {w : World} {us : List Value} (h : OkL w [.int .i64] us) : ∃ x : Int, i64 x = us ∧ True := by
  match us, h with
  | [a], ⟨ha, _⟩ =>
    cases ha with
    | int _ n hn => exact ⟨n, rfl, trivial⟩

section
variable {w0 w : World} {S F : List Chunk} {α : Type} {g cap j n : Nat} {l l' : List α} {vv : α → Value} {f : α → List Value} {t : TypeId}
theorem setSlc (h : Sat w0 ((g, slc 1 (one vv) l cap t) :: F) w) (y : α) (_hj : j < l.length) : Sat w0 ((g, slc 1 (one vv) (l.set j y) cap t) :: F) (w.setCell ⟨g, j, none⟩ (vv y)) := by
  obtain ⟨cur, hcur, k1, k2, k3, k4, k5⟩ := h.slcOf (g := g) (n := 1) (f := one vv) (l := l) (cap := cap) (t := t)
  refine (hcur.setCell (b := g) j (vv y)).toSlc (by simpa using k1) (by simpa using k2) k3 ?_ (fun _ _ => rfl)
  rw [flatMap_one, Nat.mul_one] at k4
  rw [flatMap_one, Nat.mul_one, List.length_set, Array.toList_setIfInBounds, List.take_set, k4, List.map_set]
theorem slZero {v : Value} (hl : l = []) (h : Sat w0 ((g, sl n f l t v) :: F) w) : ∃ q c, v = .slice q 0 c := by
  subst hl
  rcases h.slCases with ⟨rfl, _, _⟩ | ⟨c, rfl, _⟩
  · exact ⟨_, _, rfl⟩
  · exact ⟨_, _, rfl⟩
theorem sameSlc (h : Sat w0 ((g, slc n f l cap t) :: F) w) (h1 : l.length = l'.length) (h2 : l.flatMap f = l'.flatMap f) (h3 : ∀ x ∈ l', (f x).length = n) : Sat w0 ((g, slc n f l' cap t) :: F) w :=
  h.turn fun _ ⟨cur, a, b, c, d, e, _⟩ => ⟨cur, a, b, by rw [← h1]; exact c, d, by rw [← h1, ← h2]; exact e, h3⟩
end

set_option maxRecDepth 100000 in
set_option maxHeartbeats 4000000 in
theorem core {W : World} (v : Nat) (L : List Int) (vb : Value) (b at' : Int) (cn : Nat) (hv : v < 18446744073709551616) (hc : cn < 256) (hL : RI W L vb) :
    Calls Try.prog 4 #[.int .u64 (v : Int), vb, .int .i64 b, .int .i64 at', .int .u8 (cn : Int)] W fun e w' => e = .returned (.bool true) ∧ Sat W [] w' := by
  have hS := Sat.refl W
  have hLx := hL
  obtain ⟨pb, cb, rfl, hlb, _⟩ := hL.at
  clear hL
  by_cases hlen : 2000 < L.length
  · go_enter Try.func4, Try.ntmps4
    go_wp2_with (first | (go_at_call 6; refine Calls.mono (awake_any) ?_; rintro _ w2 ⟨rfl, h2⟩; replace hS := hS.frame h2; clear h2; (try simp only [List.nil_append] at hS); simp only []) | (refine load1 hS rfl rfl rfl rfl ?_; simp only [putW]) | (refine loadAll hS rfl rfl rfl ?_ ?_; rfl; simp only [putW]) | (refine loadPart hS rfl rfl rfl ?_ rfl ?_; rfl; simp only [putW]) | (refine store1 hS rfl rfl rfl rfl rfl ?_ ?_; (focus (simp; done)); clear hS; intro w hS; simp only [evW, putW] at hS; try simp only [putW]) | (refine storeAll hS rfl rfl rfl rfl ?_ ?_ ?_ ?_; rfl; (focus (simp [Value.oneCell']; done)); rfl; clear hS; intro w hS; try simp only [putW]) | (refine storeN hS rfl rfl rfl rfl ?_ ?_ ?_ ?_; rfl; (focus (simp [Value.oneCell']; done)); (focus (simp; done)); clear hS; intro w hS; simp at hS; try simp only [putW]) | (refine alloc hS rfl rfl ?_; clear hS; intro mb w hS; simp only [putW]) | (refine box1 hS rfl rfl rfl rfl ?_; clear hS; intro mb w hS; try simp only [evW, putW] at hS; simp only [putW]) | (refine boxN hS rfl rfl rfl ?_; clear hS; intro mb w hS; simp only [putW]))
    go_ret
    exact ⟨rfl, hS⟩
  · by_cases hb : okB b
    rotate_left
    · go_enter Try.func4, Try.ntmps4
      go_wp2_with (first | (go_at_call 10; refine Calls.mono (head_bad v b (hLx.mono hS.base) hb) ?_; rintro _ w2 ⟨rfl, h2⟩; replace hS := hS.frame h2; clear h2; (try simp only [List.nil_append] at hS); simp only []) | (go_at_call 6; refine Calls.mono (awake_any) ?_; rintro _ w2 ⟨rfl, h2⟩; replace hS := hS.frame h2; clear h2; (try simp only [List.nil_append] at hS); simp only []) | (refine load1 hS rfl rfl rfl rfl ?_; simp only [putW]) | (refine loadAll hS rfl rfl rfl ?_ ?_; rfl; simp only [putW]) | (refine loadPart hS rfl rfl rfl ?_ rfl ?_; rfl; simp only [putW]) | (refine store1 hS rfl rfl rfl rfl rfl ?_ ?_; (focus (simp; done)); clear hS; intro w hS; simp only [evW, putW] at hS; try simp only [putW]) | (refine storeAll hS rfl rfl rfl rfl ?_ ?_ ?_ ?_; rfl; (focus (simp [Value.oneCell']; done)); rfl; clear hS; intro w hS; try simp only [putW]) | (refine storeN hS rfl rfl rfl rfl ?_ ?_ ?_ ?_; rfl; (focus (simp [Value.oneCell']; done)); (focus (simp; done)); clear hS; intro w hS; simp at hS; try simp only [putW]) | (refine alloc hS rfl rfl ?_; clear hS; intro mb w hS; simp only [putW]) | (refine box1 hS rfl rfl rfl rfl ?_; clear hS; intro mb w hS; try simp only [evW, putW] at hS; simp only [putW]) | (refine boxN hS rfl rfl rfl ?_; clear hS; intro mb w hS; simp only [putW]))
      go_ret
      exact ⟨rfl, hS⟩
    · by_cases hok : okL L b
      rotate_left
      · go_enter Try.func4, Try.ntmps4
        go_wp2_with (first | (go_at_call 10; refine Calls.mono (head_off v b hv (hLx.mono hS.base) hb hok) ?_; rintro _ w2 ⟨rfl, h2⟩; replace hS := hS.frame h2; clear h2; (try simp only [List.nil_append] at hS); simp only []) | (go_at_call 6; refine Calls.mono (awake_any) ?_; rintro _ w2 ⟨rfl, h2⟩; replace hS := hS.frame h2; clear h2; (try simp only [List.nil_append] at hS); simp only []) | (refine load1 hS rfl rfl rfl rfl ?_; simp only [putW]) | (refine loadAll hS rfl rfl rfl ?_ ?_; rfl; simp only [putW]) | (refine loadPart hS rfl rfl rfl ?_ rfl ?_; rfl; simp only [putW]) | (refine store1 hS rfl rfl rfl rfl rfl ?_ ?_; (focus (simp; done)); clear hS; intro w hS; simp only [evW, putW] at hS; try simp only [putW]) | (refine storeAll hS rfl rfl rfl rfl ?_ ?_ ?_ ?_; rfl; (focus (simp [Value.oneCell']; done)); rfl; clear hS; intro w hS; try simp only [putW]) | (refine storeN hS rfl rfl rfl rfl ?_ ?_ ?_ ?_; rfl; (focus (simp [Value.oneCell']; done)); (focus (simp; done)); clear hS; intro w hS; simp at hS; try simp only [putW]) | (refine alloc hS rfl rfl ?_; clear hS; intro mb w hS; simp only [putW]) | (refine box1 hS rfl rfl rfl rfl ?_; clear hS; intro mb w hS; try simp only [evW, putW] at hS; simp only [putW]) | (refine boxN hS rfl rfl rfl ?_; clear hS; intro mb w hS; simp only [putW]))
        go_ret
        exact ⟨rfl, hS⟩
      · have hh : Hid (headOf v L b = some (cut (full v L b) (heads b))) := headOf_some hok
        have hh1 : 1 ≤ heads b ∧ heads b ≤ 5 := by obtain ⟨h3, h4⟩ := hb; unfold heads; omega
        go_enter Try.func4, Try.ntmps4
        go_wp2_with (first | (guard_target =~ Calls _ 10 _ _ _; refine Stopped.out ?_) | (refine load1 hS rfl rfl rfl rfl ?_; simp only [putW]) | (refine loadAll hS rfl rfl rfl ?_ ?_; rfl; simp only [putW]) | (refine loadPart hS rfl rfl rfl ?_ rfl ?_; rfl; simp only [putW]) | (refine store1 hS rfl rfl rfl rfl rfl ?_ ?_; (focus (simp; done)); clear hS; intro w hS; simp only [evW, putW] at hS; try simp only [putW]) | (refine storeAll hS rfl rfl rfl rfl ?_ ?_ ?_ ?_; rfl; (focus (simp [Value.oneCell']; done)); rfl; clear hS; intro w hS; try simp only [putW]) | (refine storeN hS rfl rfl rfl rfl ?_ ?_ ?_ ?_; rfl; (focus (simp [Value.oneCell']; done)); (focus (simp; done)); clear hS; intro w hS; simp at hS; try simp only [putW]) | (refine alloc hS rfl rfl ?_; clear hS; intro mb w hS; simp only [putW]) | (refine box1 hS rfl rfl rfl rfl ?_; clear hS; intro mb w hS; try simp only [evW, putW] at hS; simp only [putW]) | (refine boxN hS rfl rfl rfl ?_; clear hS; intro mb w hS; simp only [putW]))
        refine ⟨?_⟩
        (refine Calls.mono (head_some v b hv (hLx.mono hS.base) hok) ?_; rintro _ w2 ⟨X, vo, g2, hX, rfl, h2⟩; replace hS := hS.frame h2; clear h2; (try simp only [List.cons_append, List.nil_append] at hS); simp only [])
        have hXl : X.length = heads b := by have := congrArg List.length hX; simpa [cut_length] using this
        have hB2 : ∀ x ∈ X, ∀ y ∈ x.2, okByte y := fun x hx => cut_byt (full_byt _ _ _) (by rw [← hX]; exact List.mem_map.2 ⟨x, hx, rfl⟩)
        have h256 : ∀ x ∈ X, x.2.length = 256 := fun x hx => cut_mem (full_length hok) (by rw [← hX]; exact List.mem_map.2 ⟨x, hx, rfl⟩)
        have hcat : (cat X).length = 256 * heads b := by
          show (X.map (·.2)).flatten.length = _
          rw [flatten_256 _ (fun l hl => by obtain ⟨x, hx, rfl⟩ := List.mem_map.1 hl; exact h256 x hx), List.length_map, hXl]
        rw [← hX] at hh
        have Hcl : Hid ((cat X).length ≤ 100000) := by show _ ≤ _; omega
        obtain ⟨ho1, ho2⟩ := open_head (v := (v : Int)) ⟨by omega, by omega⟩ hh.out
        have hR : openR (X.map (·.2)) b = ((v : Int), L, 0) := by
          rw [openR_ok hb ho1]
          have := ho2
          unfold opened at this
          rw [Prod.mk.injEq] at this
          rw [this.1, this.2]
        have HR : Hid _ := hR
        have HXl : Hid _ := hXl
        have HX : Hid _ := hX
        clear hR ho1 ho2 hcat hXl hX
        go_wp2_with (first | (guard_target =~ Calls _ 7 _ _ _; refine Stopped.out ?_) | (refine load1 hS rfl rfl rfl rfl ?_; simp only [putW]) | (refine loadAll hS rfl rfl rfl ?_ ?_; rfl; simp only [putW]) | (refine loadPart hS rfl rfl rfl ?_ rfl ?_; rfl; simp only [putW]) | (refine store1 hS rfl rfl rfl rfl rfl ?_ ?_; (focus (simp; done)); clear hS; intro w hS; simp only [evW, putW] at hS; try simp only [putW]) | (refine storeAll hS rfl rfl rfl rfl ?_ ?_ ?_ ?_; rfl; (focus (simp [Value.oneCell']; done)); rfl; clear hS; intro w hS; try simp only [putW]) | (refine storeN hS rfl rfl rfl rfl ?_ ?_ ?_ ?_; rfl; (focus (simp [Value.oneCell']; done)); (focus (simp; done)); clear hS; intro w hS; simp at hS; try simp only [putW]) | (refine alloc hS rfl rfl ?_; clear hS; intro mb w hS; simp only [putW]) | (refine box1 hS rfl rfl rfl rfl ?_; clear hS; intro mb w hS; try simp only [evW, putW] at hS; simp only [putW]) | (refine boxN hS rfl rfl rfl ?_; clear hS; intro mb w hS; simp only [putW]))
        refine ⟨?_⟩
        (refine Calls.mono (open_good b hb (hS.rowsRead (vo := vo) (j := 0) (T := 37) hB2) Hcl.out) ?_; rintro _ w2 ⟨vl, rfl, h2⟩; replace hS := hS.frame h2; clear h2; (try simp only [List.cons_append, List.nil_append] at hS); simp only [])
        rw [HR.out] at hS ⊢
        go_wp2_with (first | (guard_target =~ Calls _ 9 _ _ _; refine Stopped.out ?_) | (refine load1 hS rfl rfl rfl rfl ?_; simp only [putW]) | (refine loadAll hS rfl rfl rfl ?_ ?_; rfl; simp only [putW]) | (refine loadPart hS rfl rfl rfl ?_ rfl ?_; rfl; simp only [putW]) | (refine store1 hS rfl rfl rfl rfl rfl ?_ ?_; (focus (simp; done)); clear hS; intro w hS; simp only [evW, putW] at hS; try simp only [putW]) | (refine storeAll hS rfl rfl rfl rfl ?_ ?_ ?_ ?_; rfl; (focus (simp [Value.oneCell']; done)); rfl; clear hS; intro w hS; try simp only [putW]) | (refine storeN hS rfl rfl rfl rfl ?_ ?_ ?_ ?_; rfl; (focus (simp [Value.oneCell']; done)); (focus (simp; done)); clear hS; intro w hS; simp at hS; try simp only [putW]) | (refine alloc hS rfl rfl ?_; clear hS; intro mb w hS; simp only [putW]) | (refine box1 hS rfl rfl rfl rfl ?_; clear hS; intro mb w hS; try simp only [evW, putW] at hS; simp only [putW]) | (refine boxN hS rfl rfl rfl ?_; clear hS; intro mb w hS; simp only [putW]))
        refine ⟨?_⟩
        (refine Calls.mono (sameInts_any (A := L) (B := L) (hS.readsSl (v := vl) fun _ _ => trivial) (hLx.mono hS.base)) ?_; rintro _ w2 ⟨rfl, h2⟩; replace hS := hS.frame h2; clear h2; (try simp only [List.nil_append] at hS); simp only [])
        simp only [decide_true]
        by_cases hc0 : cn = 0
        · subst hc0
          go_wp2_with (first | (go_at_call 6; refine Calls.mono (awake_any) ?_; rintro _ w2 ⟨rfl, h2⟩; replace hS := hS.frame h2; clear h2; (try simp only [List.nil_append] at hS); simp only []) | (refine load1 hS rfl rfl rfl rfl ?_; simp only [putW]) | (refine loadAll hS rfl rfl rfl ?_ ?_; rfl; simp only [putW]) | (refine loadPart hS rfl rfl rfl ?_ rfl ?_; rfl; simp only [putW]) | (refine store1 hS rfl rfl rfl rfl rfl ?_ ?_; (focus (simp; done)); clear hS; intro w hS; simp only [evW, putW] at hS; try simp only [putW]) | (refine storeAll hS rfl rfl rfl rfl ?_ ?_ ?_ ?_; rfl; (focus (simp [Value.oneCell']; done)); rfl; clear hS; intro w hS; try simp only [putW]) | (refine storeN hS rfl rfl rfl rfl ?_ ?_ ?_ ?_; rfl; (focus (simp [Value.oneCell']; done)); (focus (simp; done)); clear hS; intro w hS; simp at hS; try simp only [putW]) | (refine alloc hS rfl rfl ?_; clear hS; intro mb w hS; simp only [putW]) | (refine box1 hS rfl rfl rfl rfl ?_; clear hS; intro mb w hS; try simp only [evW, putW] at hS; simp only [putW]) | (refine boxN hS rfl rfl rfl ?_; clear hS; intro mb w hS; simp only [putW]))
          go_ret
          exact ⟨rfl, hS.nothing⟩
        · have hcI : ¬ ((cn : Int) = 0) := by omega
          have hc0' : Hid (cn ≠ 0) := hc0
          clear hc0
          obtain ⟨gO, cO, rfl, hS2⟩ := (hS.conv (S' := [(g2, sl 1 rowF X 37 vo), (0, inn X 5), (blk vl, sl 1 i64 L 3 vl)])).slFormC (heads b) HXl.out hh1.1
          clear hS
          have hS := hS2
          clear hS2
          go_wp2_with (first | (guard_target =~ Calls _ 11 _ _ _; refine Stopped.out ?_) | (refine load1 hS rfl rfl rfl rfl ?_; simp only [putW]) | (refine loadAll hS rfl rfl rfl ?_ ?_; rfl; simp only [putW]) | (refine loadPart hS rfl rfl rfl ?_ rfl ?_; rfl; simp only [putW]) | (refine store1 hS rfl rfl rfl rfl rfl ?_ ?_; (focus (simp; done)); clear hS; intro w hS; simp only [evW, putW] at hS; try simp only [putW]) | (refine storeAll hS rfl rfl rfl rfl ?_ ?_ ?_ ?_; rfl; (focus (simp [Value.oneCell']; done)); rfl; clear hS; intro w hS; try simp only [putW]) | (refine storeN hS rfl rfl rfl rfl ?_ ?_ ?_ ?_; rfl; (focus (simp [Value.oneCell']; done)); (focus (simp; done)); clear hS; intro w hS; simp at hS; try simp only [putW]) | (refine alloc hS rfl rfl ?_; clear hS; intro mb w hS; simp only [putW]) | (refine box1 hS rfl rfl rfl rfl ?_; clear hS; intro mb w hS; try simp only [evW, putW] at hS; simp only [putW]) | (refine boxN hS rfl rfl rfl ?_; clear hS; intro mb w hS; simp only [putW]))
          refine ⟨?_⟩
          refine Calls.mono (pick_any at' (256 * (heads b : Int)) (by omega) (by omega)) ?_
          rintro _ _ ⟨rfl, rfl⟩
          simp only []
          obtain ⟨k, hk, hkl⟩ : ∃ k : Nat, at' % (256 * (heads b : Int)) = k ∧ k < 256 * heads b := by
            have h3 := Int.emod_nonneg at' (show 256 * (heads b : Int) ≠ 0 by omega)
            have h4 := Int.emod_lt_of_pos at' (show 0 < 256 * (heads b : Int) by omega)
            exact ⟨(at' % (256 * (heads b : Int))).toNat, by omega, by omega⟩
          rw [hk]
          clear hk
          obtain ⟨i, j, hj, hi, rfl⟩ : ∃ i j, j < 256 ∧ i < heads b ∧ k = 256 * i + j := ⟨k / 256, k % 256, by omega, by omega, by omega⟩
          clear hkl
          obtain ⟨⟨rv, rl⟩, hxi⟩ : ∃ x, X[i]? = some x := ⟨_, List.getElem?_eq_getElem (by rw [HXl.out]; exact hi)⟩
          have hiX : i < X.length := (List.getElem?_eq_some_iff.1 hxi).1
          have hsp : X = X.take i ++ (rv, rl) :: X.drop (i + 1) := by
            have h5 : X.drop i = (rv, rl) :: X.drop (i + 1) := by rw [List.drop_eq_getElem_cons hiX]; congr 1; exact (List.getElem?_eq_some_iff.1 hxi).2
            rw [← h5, List.take_append_drop]
          have hrl : rl.length = 256 := h256 _ (List.mem_of_getElem? hxi)
          have hrB : ∀ y ∈ rl, okByte y := hB2 _ (List.mem_of_getElem? hxi)
          have hS3 := hS.pull 0
          rw [show inn X 5 = inn (X.take i ++ (rv, rl) :: X.drop (i + 1)) 5 from congrArg (fun l => inn l 5) hsp] at hS3
          obtain ⟨gr, cr, rfl, hS4⟩ := hS3.innPull.slFormC 256 hrl (by omega)
          clear hS hS3
          have hS := hS4
          clear hS4
          obtain ⟨xi, hx⟩ : ∃ x, rl[j]? = some x := ⟨_, List.getElem?_eq_getElem (by omega)⟩
          have hxb := hrB xi (List.mem_of_getElem? hx)
          unfold okByte at hxb
          obtain ⟨xn, rfl⟩ : ∃ xn : Nat, xi = xn := ⟨xi.toNat, by omega⟩
          have hxn : xn < 256 := by omega
          have hxor : bits .xor .u8 (xn : Int) (cn : Int) = ((xn ^^^ cn : Nat) : Int) := u8_xor_nat xn cn hxn hc
          have hyl : xn ^^^ cn < 256 := Nat.xor_lt_two_pow (n := 8) hxn hc
          have hyn : Hid (xn ^^^ cn ≠ xn) := xor_ne hc0'.out
          generalize xn ^^^ cn = y at hxor hyl hyn
          have Hsp : Hid _ := hsp
          have Hrl : Hid _ := hrl
          clear hsp hrl hxb
          have cA : w2.cell? ⟨gO, i, none⟩ = some (.slice (some ⟨gr, 0, none⟩) 256 cr) := by
            have h5 := hS.slcCell (g := gO) (n := 1) (f := rowF) (l := X) (cap := cO) (t := 37) (i := i) (j := 0) hxi (by omega)
            simpa using h5
          have cB : w2.cell? ⟨gr, j, none⟩ = some (.int .u8 (xn : Int)) := by
            have h5 := hS.slcCell (g := gr) (n := 1) (f := by8) (l := rl) (cap := cr) (t := 5) (i := j) (j := 0) hx (by omega)
            simpa [one] using h5
          have fB : w2.frozen? ⟨gr, j, none⟩ = false := by
            obtain ⟨cur, hcur, _⟩ := hS.slcOf (g := gr) (n := 1) (f := by8) (l := rl) (cap := cr) (t := 5)
            exact hcur.free (b := gr) j
          have hq : (256 * (i : Int) + j) / 256 = i := by omega
          have hr : (256 * (i : Int) + j) % 256 = j := by omega
          go_wp2_with (first | (refine load1 hS rfl rfl rfl rfl ?_; simp only [putW]) | (refine loadAll hS rfl rfl rfl ?_ ?_; rfl; simp only [putW]) | (refine loadPart hS rfl rfl rfl ?_ rfl ?_; rfl; simp only [putW]) | (refine store1 hS rfl rfl rfl rfl rfl ?_ ?_; (focus (simp; done)); clear hS; intro w hS; simp only [evW, putW] at hS; try simp only [putW]) | (refine storeAll hS rfl rfl rfl rfl ?_ ?_ ?_ ?_; rfl; (focus (simp [Value.oneCell']; done)); rfl; clear hS; intro w hS; try simp only [putW]) | (refine storeN hS rfl rfl rfl rfl ?_ ?_ ?_ ?_; rfl; (focus (simp [Value.oneCell']; done)); (focus (simp; done)); clear hS; intro w hS; simp at hS; try simp only [putW]) | (refine alloc hS rfl rfl ?_; clear hS; intro mb w hS; simp only [putW]) | (refine box1 hS rfl rfl rfl rfl ?_; clear hS; intro mb w hS; try simp only [evW, putW] at hS; simp only [putW]) | (refine boxN hS rfl rfl rfl ?_; clear hS; intro mb w hS; simp only [putW]))
          go_region
          replace hS := (setSlc hS ((y : Int)) (by rw [Hrl.out]; exact hj)).drew
          have HrlY : Hid ((rl.set j (y : Int)).length = 256) := by show List.length _ = _; rw [List.length_set]; exact Hrl.out
          have hSb := hS.slOfSlc
          rw [HrlY.out] at hSb
          replace hSb := Sat.innBack (v := .slice (some ⟨gr, 0, none⟩) 256 cr) hSb
          clear hS cA cB fB
          obtain ⟨X2, hX2⟩ : ∃ X2, X2 = X.take i ++ (.slice (some ⟨gr, 0, none⟩) 256 cr, rl.set j (y : Int)) :: X.drop (i + 1) := ⟨_, rfl⟩
          rw [← hX2] at hSb
          have h2l : X2.length = X.length := by rw [hX2]; conv => rhs; rw [Hsp.out]
                                                simp
          have h2f : X.flatMap rowF = X2.flatMap rowF := by rw [hX2]; conv => lhs; rw [Hsp.out]
                                                            simp [List.flatMap_append, List.flatMap_cons]
          have h2B : ∀ x ∈ X2, ∀ z ∈ x.2, okByte z := by
            intro x hx z hz
            rw [hX2] at hx
            rcases List.mem_append.1 hx with h | h
            · exact hB2 x (List.mem_of_mem_take h) z hz
            · rcases List.mem_cons.1 h with rfl | h
              · rcases List.mem_or_eq_of_mem_set hz with h | rfl
                · exact hrB z h
                · exact ⟨by omega, by omega⟩
              · exact hB2 x (List.mem_of_mem_drop h) z hz
          have h256' : ∀ x ∈ X2, x.2.length = 256 := by
            intro x hx
            rw [hX2] at hx
            rcases List.mem_append.1 hx with h | h
            · exact h256 x (List.mem_of_mem_take h)
            · rcases List.mem_cons.1 h with rfl | h
              · exact HrlY.out
              · exact h256 x (List.mem_of_mem_drop h)
          have hne : Hid (X2.map (·.2) ≠ X.map (·.2)) := fun e => hyn.out (by
            have e1 := congrArg (fun l : List (List Int) => l[i]?) e
            simp only [List.getElem?_map] at e1
            rw [hxi, hX2, List.getElem?_append_right (by rw [List.length_take]; omega), List.length_take, Nat.min_eq_left (by omega), Nat.sub_self] at e1
            have e2 : rl.set j (y : Int) = rl := by simpa using e1
            have e3 := congrArg (fun l : List Int => l[j]?) e2
            simp only [List.getElem?_set, hx] at e3
            rw [if_pos trivial, if_pos (by rw [Hrl.out]; exact hj)] at e3
            have e4 := Option.some.inj e3
            omega)
          have hcat2 : (cat X2).length = 256 * heads b := by
            show (X2.map (·.2)).flatten.length = _
            rw [flatten_256 _ (fun l hl => by obtain ⟨x, hx, rfl⟩ := List.mem_map.1 hl; exact h256' x hx), List.length_map, h2l, HXl.out]
          have Hcl2 : Hid ((cat X2).length ≤ 100000) := by show _ ≤ _; omega
          have hX2l : Hid (X2.length = heads b) := h2l.trans HXl.out
          have hS := (sameSlc (l := X) (l' := X2) (n := 1) (f := rowF) (hSb.pull gO) h2l.symm h2f (fun _ _ => rfl))
          clear hSb hcat2 h2l h2f hX2 h256'
          go_wp2_with (first | (guard_target =~ Calls _ 7 _ _ _; refine Stopped.out ?_) | (refine load1 hS rfl rfl rfl rfl ?_; simp only [putW]) | (refine loadAll hS rfl rfl rfl ?_ ?_; rfl; simp only [putW]) | (refine loadPart hS rfl rfl rfl ?_ rfl ?_; rfl; simp only [putW]) | (refine store1 hS rfl rfl rfl rfl rfl ?_ ?_; (focus (simp; done)); clear hS; intro w hS; simp only [evW, putW] at hS; try simp only [putW]) | (refine storeAll hS rfl rfl rfl rfl ?_ ?_ ?_ ?_; rfl; (focus (simp [Value.oneCell']; done)); rfl; clear hS; intro w hS; try simp only [putW]) | (refine storeN hS rfl rfl rfl rfl ?_ ?_ ?_ ?_; rfl; (focus (simp [Value.oneCell']; done)); (focus (simp; done)); clear hS; intro w hS; simp at hS; try simp only [putW]) | (refine alloc hS rfl rfl ?_; clear hS; intro mb w hS; simp only [putW]) | (refine box1 hS rfl rfl rfl rfl ?_; clear hS; intro mb w hS; try simp only [evW, putW] at hS; simp only [putW]) | (refine boxN hS rfl rfl rfl ?_; clear hS; intro mb w hS; simp only [putW]))
          refine ⟨?_⟩
          have h9 := hS.readsSlc (g := gO) (n := 1) (f := rowF) (L := X2) (cap := cO) (t := 37) (gd := fun x => x ∈ X2) (fun x hx => hx)
          rw [hX2l.out] at h9
          have hRR := BSl.mono (gd' := fun x => RB _ x.2 x.1) h9 (Below.refl _ _) fun x hx _ => ((hS.pull 0).innReads (v := x.1) (A := x.2) hx (h2B x hx))
          (refine Calls.mono (open_good b hb hRR Hcl2.out) ?_; rintro _ w2 ⟨vm, rfl, h2⟩; replace hS := hS.frame h2; clear h2; (try simp only [List.cons_append, List.nil_append] at hS); simp only [])
          clear hRR h9
          by_cases ho : openOk (X2.map (·.2)) b
          · have hR2 := openR_ok hb ho
            have hh2 : Hid (headOf (ver (X2.map (·.2)).flatten) (nums4 (X2.map (·.2)).flatten (cnt (X2.map (·.2)).flatten).toNat) b = some (X2.map (·.2))) := ho.2
            rw [hR2] at hS ⊢
            clear hR2 ho
            generalize nums4 (X2.map (·.2)).flatten (cnt (X2.map (·.2)).flatten).toNat = M at hS hh2 ⊢
            generalize ver (X2.map (·.2)).flatten = wv at hS hh2 ⊢
            by_cases hwv : wv = (v : Int)
            · subst hwv
              have hML : ¬ M = L := fun e => hne.out (by
                have h10 := hh2.out
                rw [e, hh.out] at h10
                exact (Option.some.inj h10).symm)
              go_wp2_with (first | (guard_target =~ Calls _ 9 _ _ _; refine Stopped.out ?_) | (refine load1 hS rfl rfl rfl rfl ?_; simp only [putW]) | (refine loadAll hS rfl rfl rfl ?_ ?_; rfl; simp only [putW]) | (refine loadPart hS rfl rfl rfl ?_ rfl ?_; rfl; simp only [putW]) | (refine store1 hS rfl rfl rfl rfl rfl ?_ ?_; (focus (simp; done)); clear hS; intro w hS; simp only [evW, putW] at hS; try simp only [putW]) | (refine storeAll hS rfl rfl rfl rfl ?_ ?_ ?_ ?_; rfl; (focus (simp [Value.oneCell']; done)); rfl; clear hS; intro w hS; try simp only [putW]) | (refine storeN hS rfl rfl rfl rfl ?_ ?_ ?_ ?_; rfl; (focus (simp [Value.oneCell']; done)); (focus (simp; done)); clear hS; intro w hS; simp at hS; try simp only [putW]) | (refine alloc hS rfl rfl ?_; clear hS; intro mb w hS; simp only [putW]) | (refine box1 hS rfl rfl rfl rfl ?_; clear hS; intro mb w hS; try simp only [evW, putW] at hS; simp only [putW]) | (refine boxN hS rfl rfl rfl ?_; clear hS; intro mb w hS; simp only [putW]))
              refine ⟨?_⟩
              (refine Calls.mono (sameInts_any (A := M) (B := L) (hS.readsSl (v := vm) fun _ _ => trivial) (hS.readsSl (v := vl) fun _ _ => trivial)) ?_; rintro _ w2 ⟨rfl, h2⟩; replace hS := hS.frame h2; clear h2; (try simp only [List.nil_append] at hS); simp only [])
              rw [decide_eq_false hML]
              go_wp2_with (first | (go_at_call 6; refine Calls.mono (awake_any) ?_; rintro _ w2 ⟨rfl, h2⟩; replace hS := hS.frame h2; clear h2; (try simp only [List.nil_append] at hS); simp only []) | (refine load1 hS rfl rfl rfl rfl ?_; simp only [putW]) | (refine loadAll hS rfl rfl rfl ?_ ?_; rfl; simp only [putW]) | (refine loadPart hS rfl rfl rfl ?_ rfl ?_; rfl; simp only [putW]) | (refine store1 hS rfl rfl rfl rfl rfl ?_ ?_; (focus (simp; done)); clear hS; intro w hS; simp only [evW, putW] at hS; try simp only [putW]) | (refine storeAll hS rfl rfl rfl rfl ?_ ?_ ?_ ?_; rfl; (focus (simp [Value.oneCell']; done)); rfl; clear hS; intro w hS; try simp only [putW]) | (refine storeN hS rfl rfl rfl rfl ?_ ?_ ?_ ?_; rfl; (focus (simp [Value.oneCell']; done)); (focus (simp; done)); clear hS; intro w hS; simp at hS; try simp only [putW]) | (refine alloc hS rfl rfl ?_; clear hS; intro mb w hS; simp only [putW]) | (refine box1 hS rfl rfl rfl rfl ?_; clear hS; intro mb w hS; try simp only [evW, putW] at hS; simp only [putW]) | (refine boxN hS rfl rfl rfl ?_; clear hS; intro mb w hS; simp only [putW]))
              go_ret
              exact ⟨rfl, hS.nothing⟩
            · go_wp2_with (first | (go_at_call 6; refine Calls.mono (awake_any) ?_; rintro _ w2 ⟨rfl, h2⟩; replace hS := hS.frame h2; clear h2; (try simp only [List.nil_append] at hS); simp only []) | (refine load1 hS rfl rfl rfl rfl ?_; simp only [putW]) | (refine loadAll hS rfl rfl rfl ?_ ?_; rfl; simp only [putW]) | (refine loadPart hS rfl rfl rfl ?_ rfl ?_; rfl; simp only [putW]) | (refine store1 hS rfl rfl rfl rfl rfl ?_ ?_; (focus (simp; done)); clear hS; intro w hS; simp only [evW, putW] at hS; try simp only [putW]) | (refine storeAll hS rfl rfl rfl rfl ?_ ?_ ?_ ?_; rfl; (focus (simp [Value.oneCell']; done)); rfl; clear hS; intro w hS; try simp only [putW]) | (refine storeN hS rfl rfl rfl rfl ?_ ?_ ?_ ?_; rfl; (focus (simp [Value.oneCell']; done)); (focus (simp; done)); clear hS; intro w hS; simp at hS; try simp only [putW]) | (refine alloc hS rfl rfl ?_; clear hS; intro mb w hS; simp only [putW]) | (refine box1 hS rfl rfl rfl rfl ?_; clear hS; intro mb w hS; try simp only [evW, putW] at hS; simp only [putW]) | (refine boxN hS rfl rfl rfl ?_; clear hS; intro mb w hS; simp only [putW]))
              go_ret
              exact ⟨rfl, hS.nothing⟩
          · rw [openR_form hb ho] at hS ⊢
            obtain ⟨q9, c9, rfl⟩ := slZero (α := Int) (f := i64) (n := 1) (t := 3) (v := vm) (l := []) rfl hS
            go_wp2_with (first | (go_at_call 6; refine Calls.mono (awake_any) ?_; rintro _ w2 ⟨rfl, h2⟩; replace hS := hS.frame h2; clear h2; (try simp only [List.nil_append] at hS); simp only []) | (refine load1 hS rfl rfl rfl rfl ?_; simp only [putW]) | (refine loadAll hS rfl rfl rfl ?_ ?_; rfl; simp only [putW]) | (refine loadPart hS rfl rfl rfl ?_ rfl ?_; rfl; simp only [putW]) | (refine store1 hS rfl rfl rfl rfl rfl ?_ ?_; (focus (simp; done)); clear hS; intro w hS; simp only [evW, putW] at hS; try simp only [putW]) | (refine storeAll hS rfl rfl rfl rfl ?_ ?_ ?_ ?_; rfl; (focus (simp [Value.oneCell']; done)); rfl; clear hS; intro w hS; try simp only [putW]) | (refine storeN hS rfl rfl rfl rfl ?_ ?_ ?_ ?_; rfl; (focus (simp [Value.oneCell']; done)); (focus (simp; done)); clear hS; intro w hS; simp at hS; try simp only [putW]) | (refine alloc hS rfl rfl ?_; clear hS; intro mb w hS; simp only [putW]) | (refine box1 hS rfl rfl rfl rfl ?_; clear hS; intro mb w hS; try simp only [evW, putW] at hS; simp only [putW]) | (refine boxN hS rfl rfl rfl ?_; clear hS; intro mb w hS; simp only [putW]))
            go_ret
            exact ⟨rfl, hS.nothing⟩

theorem walk (W : World) {v0 v1 v2 v3 v4 : Value} (h0 : OkL W [.int .u64] [v0]) (h1 : OkL W [.sl [.int .i64]] [v1]) (h2 : OkL W [.int .i64] [v2]) (h3 : OkL W [.int .i64] [v3]) (h4 : OkL W [.int .u8] [v4]) :
    Calls Try.prog 4 #[v0, v1, v2, v3, v4] W fun e w' => e = .returned (.bool true) ∧ Below W.heap.size W w' := by
  obtain ⟨L, hL⟩ := toBSl (f := i64) (g := fun _ => True) h1.1 (by decide) fun us hu => int_dec hu
  have hLx : RI W L v1 := hL
  obtain ⟨h0, _⟩ := h0
  obtain ⟨h2, _⟩ := h2
  obtain ⟨h3, _⟩ := h3
  obtain ⟨h4, _⟩ := h4
  cases h0 with
  | int _ n hn =>
    have hn2 : 0 ≤ n ∧ n < 18446744073709551616 := by simp [Lit.wf, IntKind.min, IntKind.max, IntKind.bits, IntKind.signed] at hn ⊢; omega
    obtain ⟨v, rfl⟩ : ∃ v : Nat, n = v := ⟨n.toNat, by omega⟩
    cases h2 with
    | int _ b _ =>
      cases h3 with
      | int _ a _ =>
        cases h4 with
        | int _ c hc =>
          have hc2 : 0 ≤ c ∧ c < 256 := by simp [Lit.wf, IntKind.min, IntKind.max, IntKind.bits, IntKind.signed] at hc ⊢; omega
          obtain ⟨cn, rfl⟩ : ∃ cn : Nat, c = cn := ⟨c.toNat, by omega⟩
          exact (core v L v1 b a cn (by omega) (by omega) hLx).mono fun e w' ⟨he, hS⟩ => ⟨he, hS.base⟩

theorem own : ownKnob Try.prog.godebug = none := by kernel_rfl
theorem laidOut : laidOutB Try.prog = true := by kernel_rfl

set_option maxRecDepth 100000 in
theorem lifted (os : Os) (started : os.Started) (H : Type) (enc : TypeId × Value → H) :
    ReturnsInHanded {} Try.checked os 4 .any (Rows.journalBackSpec.pre6 enc Try.prog Try.f4 Rows.journalBackRow.domain false) (Rows.journalBackSpec.post enc Try.prog Try.f4 false true false false) := by
  refine returnsInHanded_of_change (C := Try.checked) own started (by kernel_rfl) Try.func4
    (ChangeSpec.witness6 (enc := enc) (C := Try.checked) false ⟨#[], #[.int .u64 0, .slice none 0 0, .int .i64 0, .int .i64 0, .int .u8 0], []⟩ 8 (by kernel_rfl) (by kernel_rfl) (by kernel_rfl) (by kernel_rfl)) ?_
  intro W base args ds gs before hval0 hW hcnd _
  have hval : ∀ (j : Nat) t v, Try.f4.params[j]? = some t → args[j]? = some v → Value.okWide Try.prog W .any base t v := hval0
  have hW' := hW
  obtain ⟨p, q, hA0, hV, rfl, hfz, hnd⟩ := hW
  have hA : DataW.TrodAll enc Try.prog W 0 (fun _ => true) true Try.f4.params.toList args.toList ds p := hA0
  rw [Try.params4] at hA hval
  obtain ⟨v0, vs0, d0, ds0, p0, q0, hargs, rfl, rfl, h0, r0⟩ := trodAll_cons hA
  obtain ⟨v1, vs1, d1, ds1, p1, q1, rfl, rfl, rfl, h1, r1⟩ := trodAll_cons r0
  obtain ⟨v2, vs2, d2, ds2, p2, q2, rfl, rfl, rfl, h2, r2⟩ := trodAll_cons r1
  obtain ⟨v3, vs3, d3, ds3, p3, q3, rfl, rfl, rfl, h3, r3⟩ := trodAll_cons r2
  obtain ⟨v4, vs4, d4, ds4, p4, q4, rfl, rfl, rfl, h4, r4⟩ := trodAll_cons r3
  obtain ⟨rfl, rfl, rfl⟩ := trodAll_nil r4
  obtain rfl : args = #[v0, v1, v2, v3, v4] := by cases args; simp_all
  obtain ⟨rfl, rfl⟩ := trodVars_none hV
  have k0 := h0
  have lt0 : ∀ x ∈ p0, x.block < W.heap.size := by obtain ⟨m, hm⟩ := k0; exact DataW.trod_lt m _ _ _ hm
  have k1 := h1
  have lt1 : ∀ x ∈ p1, x.block < W.heap.size := by obtain ⟨m, hm⟩ := k1; exact DataW.trod_lt m _ _ _ hm
  have k2 := h2
  have lt2 : ∀ x ∈ p2, x.block < W.heap.size := by obtain ⟨m, hm⟩ := k2; exact DataW.trod_lt m _ _ _ hm
  have k3 := h3
  have lt3 : ∀ x ∈ p3, x.block < W.heap.size := by obtain ⟨m, hm⟩ := k3; exact DataW.trod_lt m _ _ _ hm
  have k4 := h4
  have lt4 : ∀ x ∈ p4, x.block < W.heap.size := by obtain ⟨m, hm⟩ := k4; exact DataW.trod_lt m _ _ _ hm
  have Wk := walk W (argOne (n := 8) (by kernel_rfl) (by kernel_rfl) (hval 0 25 v0 rfl rfl) h0) (argOne (n := 8) (by kernel_rfl) (by kernel_rfl) (hval 1 26 v1 rfl rfl) h1) (argOne (n := 8) (by kernel_rfl) (by kernel_rfl) (hval 2 3 v2 rfl rfl) h2) (argOne (n := 8) (by kernel_rfl) (by kernel_rfl) (hval 3 3 v3 rfl rfl) h3) (argOne (n := 8) (by kernel_rfl) (by kernel_rfl) (hval 4 5 v4 rfl rfl) h4)
  clear hA0 hval0
  refine Wk.mono fun e W' ⟨he, bel⟩ => ?_
  subst he
  exact ⟨_, rfl, _, _, _, [], _, [], hW', trodAll_mk1 (shut_bool Try.underlying4 _), (trodAll_cons_mk (Below.trod laidOut (by kernel_rfl) (of_decide_eq_true (by kernel_rfl)) k0 bel lt0) (trodAll_cons_mk (Below.trod laidOut (by kernel_rfl) (of_decide_eq_true (by kernel_rfl)) k1 bel lt1) (trodAll_cons_mk (Below.trod laidOut (by kernel_rfl) (of_decide_eq_true (by kernel_rfl)) k2 bel lt2) (trodAll_cons_mk (Below.trod laidOut (by kernel_rfl) (of_decide_eq_true (by kernel_rfl)) k3 bel lt3) (trodAll_cons_mk (Below.trod laidOut (by kernel_rfl) (of_decide_eq_true (by kernel_rfl)) k4 bel lt4) trodAll_mk0))))), rfl, bel.frame _, fun h => by cases h⟩

theorem over : Rows.journalBackRow.holds Try.pinned (OpenSpec.ofChange Rows.journalBackSpec) :=
  OpenClaim.holds_of_wide 4 Try.f4 rfl rfl rfl rfl rfl rfl rfl ⟨rfl, rfl, rfl, rfl, rfl⟩ rfl rfl rfl rfl rfl (by kernel_rfl) Try.func4 (by kernel_rfl)
    (of_decide_eq_true (by kernel_rfl)) (by unfold Func.isWrapper; first | (rw [if_pos (by decide +kernel)]; kernel_rfl) | (rw [if_neg (by decide +kernel)]; exact ⟨rfl, rfl⟩))
    (fun os started H enc _ => lifted os started H enc)

/-- The statement. -/
theorem proved : Rows.JournalBackSaid := over

end Go.Proofs.Ytkppoffljkpiaaa.JournalBackDone
