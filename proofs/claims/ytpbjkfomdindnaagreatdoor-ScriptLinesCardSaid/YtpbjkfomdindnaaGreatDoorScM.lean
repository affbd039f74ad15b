/-
  script.form: the words of a line, taken off one by one.
-/
import Derived.Test.YtpbjkfomdindnaaGreatDoorScL
set_option linter.unusedSimpArgs false
set_option linter.unusedVariables false
namespace Go.Proofs.YtpbjkfomdindnaaGreatDoor
open Go.RowKit Go.Shelf Go.Proofs.YtpbjkfomdindnaaGreatDoor.Sl Go.Proofs.YtpbjkfomdindnaaGreatDoor.Jp Go.Proofs.YtpbjkfomdindnaaGreatDoor.Sc

/-- What is left of words, k in. -/
def RestW (g : Nat) (W : List Bs) (k : Nat) (v : Value) : Prop := ∃ p c, v = .slice p (W.length - k) c ∧ k ≤ W.length ∧ W.length - k ≤ c ∧ c ≤ maxLen ∧ (k < W.length → p = some ⟨g, k, none⟩)
/-- Words that no line is longer than. -/
def okW (W : List Bs) : Prop := W.length ≤ 1000000 ∧ ∀ w ∈ W, w.length ≤ 1000000
theorem okW.tail {w : Bs} {W : List Bs} (h : okW (w :: W)) : okW W := ⟨by have := h.1; simp at this; omega, fun x hx => h.2 x (by simp [hx])⟩
/-- A line's form. -/
def frmL (v : Value) (fb g cap : Nat) (W0 : List Bs) : List Chunk := [(fb, cells #[.bool false, v] 55), (g, slc 1 strF W0 cap 9)]
def frm (W : List Bs) : K := fun fb h => ∃ g W0 k cap v, (W0.drop k = W ∧ okW W ∧ RestW g W0 k v) ∧ holds (frmL v fb g cap W0) h
section
variable {w0 w : World} {S F F1 : List Chunk} {W : List Bs} {fb sb : Nat}
theorem frm_open (hS : Sat w0 S w) [p : Pull S fb (frm W) F] : ∃ g W0 k cap v, (W0.drop k = W ∧ okW W ∧ RestW g W0 k v) ∧ Sat w0 ((fb, cells #[.bool false, v] 55) :: (g, slc 1 strF W0 cap 9) :: F) w := by
  obtain ⟨g, hS⟩ := (hS.perm p.perm).ex (Z := fun g fb h => ∃ (W0 : List Bs) (k cap : Nat) (v : Value), (W0.drop k = W ∧ okW W ∧ RestW g W0 k v) ∧ holds (frmL v fb g cap W0) h) fun _ h => h
  obtain ⟨W0, hS⟩ := hS.ex (Z := fun W0 fb h => ∃ k cap v, (W0.drop k = W ∧ okW W ∧ RestW g W0 k v) ∧ holds (frmL v fb g cap W0) h) fun _ h => h
  obtain ⟨k, hS⟩ := hS.ex (Z := fun k fb h => ∃ cap v, (W0.drop k = W ∧ okW W ∧ RestW g W0 k v) ∧ holds (frmL v fb g cap W0) h) fun _ h => h
  obtain ⟨cap, hS⟩ := hS.ex (Z := fun cap fb h => ∃ v, (W0.drop k = W ∧ okW W ∧ RestW g W0 k v) ∧ holds (frmL v fb g cap W0) h) fun _ h => h
  obtain ⟨v, hS⟩ := hS.ex (Z := fun v fb h => (W0.drop k = W ∧ okW W ∧ RestW g W0 k v) ∧ holds (frmL v fb g cap W0) h) fun _ h => h
  obtain ⟨hR, hS⟩ := hS.and (Y := fun fb h => holds (frmL v fb g cap W0) h) fun _ h => h
  exact ⟨g, W0, k, cap, v, hR, hS.open (T := frmL v fb g cap W0) fun _ h => h⟩
theorem frm_close (fb : Nat) {g k cap : Nat} {W0 : List Bs} {v : Value} (hR : W0.drop k = W ∧ okW W ∧ RestW g W0 k v) (hS : Sat w0 ((fb, cells #[.bool false, v] 55) :: (g, slc 1 strF W0 cap 9) :: F) w) : Sat w0 ((fb, frm W) :: F) w :=
  Sat.close (T := frmL v fb g cap W0) hS fun _ h => ⟨g, W0, k, cap, v, hR, h⟩
theorem frm_ok (hS : Sat w0 S w) [p : Pull S fb (frm W) F] : okW W := by
  obtain ⟨g, W0, k, cap, v, h, -⟩ := frm_open hS (fb := fb) (W := W)
  exact h.2.1
/-- strings.Split's words. -/
theorem frm_new {g : Nat} {W : List Bs} (hW : okW W) (hne : W ≠ []) (hS : Sat w0 ((fb, cells #[.bool false, .slice (some ⟨g, 0, none⟩) W.length W.length] 55) :: (g, slc 1 strF W W.length 9) :: F) w) : Sat w0 ((fb, frm W) :: F) w :=
  frm_close fb (k := 0) ⟨rfl, hW, ⟨some ⟨g, 0, none⟩, W.length, by simp, by simp, by simp, by have := hW.1; simp [maxLen]; omega, fun _ => rfl⟩⟩ hS
theorem next_close {g k cap c : Nat} {W0 : List Bs} {pv : Option Addr} (hD : Bx (W0.drop (k + 1) = W ∧ okW W)) (hk : k < W0.length) (hc : W0.length - k ≤ c) (hm : c ≤ maxLen) (hpv : k + 1 < W0.length → pv = some ⟨g, k + 1, none⟩)
    (hS : Sat w0 ((fb, cells #[.bool false, .slice pv (W0.length - k - 1) (c - 1)] 55) :: (g, slc 1 strF W0 cap 9) :: F) w) : Sat w0 ((fb, frm W) :: F) w :=
  frm_close fb (k := k + 1) ⟨hD.out.1, hD.out.2, ⟨pv, c - 1, by rw [Nat.sub_sub], by omega, by omega, by omega, hpv⟩⟩ hS
set_option maxRecDepth 100000 in
set_option maxHeartbeats 1000000 in
theorem next_some {x : Bs} (hS : Sat w0 S w) [p : Pull S fb (frm (x :: W)) F] :
    Calls Tryz.prog 75 #[.pointer (some ⟨fb, 0, none⟩)] w fun e w' => e = .returned (str x) ∧ Sat w0 ((fb, frm W) :: F) w' := by
  obtain ⟨g, W0, k, cap, v, ⟨hd, hok, hR⟩, hS1⟩ := frm_open hS (fb := fb) (W := x :: W)
  clear hS
  have hS := hS1
  clear hS1
  obtain ⟨pp, c, rfl, hk1, hk2, hk3, hk4⟩ := hR
  have hlt : k < W0.length := by
    rcases Nat.lt_or_ge k W0.length with h | h
    · exact h
    · rw [List.drop_eq_nil_of_le h] at hd; cases hd
  obtain rfl := hk4 hlt
  have hx : W0[k]? = some x := by
    have h1 := congrArg (fun l => l[0]?) hd
    simpa using h1
  have HD : Bx (W0.drop (k + 1) = W ∧ okW W) := ⟨by
    have h1 := congrArg (List.drop 1) hd
    rw [List.drop_drop] at h1
    exact ⟨h1, hok.tail⟩⟩
  clear hd hok hk4
  go_enter Tryz.func75, Tryz.ntmps75
  go_wp2_with (first | (go_at_call 25; refine Calls.mono (want_ok (decide_eq_true (by omega))) ?_; rintro _ w2 ⟨rfl, h2⟩; replace hS := hS.frame h2; clear h2; (try simp only [List.cons_append, List.nil_append] at hS); simp only [putW]) | (refine loadS1 (v1 := str) hS rfl rfl rfl hx ?_; simp only [putW]) | (refine load1 hS rfl rfl rfl rfl ?_; simp only [putW]) | (refine store1 hS rfl rfl rfl rfl rfl ?_ ?_; (focus (simp; done)); clear hS; intro w hS; simp only [evW, putW] at hS; try simp only [putW]))
  all_goals
    go_ret
    exact ⟨rfl, next_close HD hlt hk2 hk3 (fun h => if_neg (by omega)) hS⟩
set_option maxHeartbeats 1000000 in
theorem next_none (hS : Sat w0 S w) [p : Pull S fb (frm []) F] :
    Calls Tryz.prog 75 #[.pointer (some ⟨fb, 0, none⟩)] w fun e w' => e = .panicked badP ∧ Sat w0 F w' := by
  obtain ⟨g, W0, k, cap, v, ⟨hd, hok, hR⟩, hS1⟩ := frm_open hS (fb := fb) (W := [])
  clear hS
  have hS := hS1
  clear hS1
  obtain ⟨pp, c, rfl, hk1, hk2, hk3, hk4⟩ := hR
  have hz : W0.length - k = 0 := by
    have := congrArg List.length hd
    simpa using this
  rw [hz] at hS hk2
  clear hd hok hk4 hz
  go_enter Tryz.func75, Tryz.ntmps75
  go_wp2_with (first | (go_at_call 25; refine Calls.mono (want_no rfl) ?_; rintro _ w2 ⟨rfl, h2⟩; replace hS := hS.frame h2; clear h2; (try simp only [List.cons_append, List.nil_append] at hS); simp only [putW]) | (refine load1 hS rfl rfl rfl rfl ?_; simp only [putW]))
  exact ⟨rfl, rfl, hS.tail.tail⟩
end
section
variable {ops : Array Oper} {rest : List Oper} {o : Oper} {a : Act} {Q : Exit → Act → World → Prop} {w0 w : World} {S F : List Chunk} {t : TypeId} {x : Operand} {fb n : Nat} {zv : Value} {z : Array Value} {W : List Bs}
/-- 'f.print' of a line's form. -/
theorem loadFlag (W : List Bs) (hS : Sat w0 S w) (hw : Region.wanted o (yielded ops a.tmps) = true) (ho : o.op = .load t x) (hx : a.eval x = .pointer (some ⟨fb, 0, none⟩)) [ty : Ty Tryz.prog t false n zv z] [p : Pull S fb (frm W) F]
    (k : wpList Tryz.prog ops Q rest (a.put o.dst (.bool false)) w) : wpList Tryz.prog ops Q (o :: rest) a w := by
  obtain ⟨g, W0, i, cap, v, -, hS1⟩ := frm_open hS (fb := fb) (W := W)
  refine wp_value hw ?_ k
  have h1 : (loadVar t ⟨fb, 0, none⟩).run Tryz.prog w = .ok (.bool false) w := run_load1 (hS1.cell (b := fb) 0)
  simp [execOp, ho, hx, Instr.loadAt, Instr.sureAddr, h1]
/-- 'f.words' of a line's form. -/
theorem loadWords (W : List Bs) (hS : Sat w0 S w) (hw : Region.wanted o (yielded ops a.tmps) = true) (ho : o.op = .load t x) (hx : a.eval x = .pointer (some ⟨fb, 1, none⟩)) [ty : Ty Tryz.prog t false n zv z] [p : Pull S fb (frm W) F]
    (k : ∀ q c, wpList Tryz.prog ops Q rest (a.put o.dst (.slice q W.length c)) w) : wpList Tryz.prog ops Q (o :: rest) a w := by
  obtain ⟨g, W0, i, cap, v, ⟨hd, -, q, c, rfl, -⟩, hS1⟩ := frm_open hS (fb := fb) (W := W)
  have hlen : W0.length - i = W.length := by rw [← hd, List.length_drop]
  rw [hlen] at hS1
  refine wp_value hw ?_ (k q c)
  have h1 : (loadVar t ⟨fb, 1, none⟩).run Tryz.prog w = .ok (.slice q W.length c) w := run_load1 (hS1.cell (b := fb) 1)
  simp [execOp, ho, hx, Instr.loadAt, Instr.sureAddr, h1]
end
section
variable {w0 w : World} {S F K : List Chunk} {W : List Bs} {fb sb off : Nat} {c : Array Value} {tb : TypeId}
set_option maxHeartbeats 1000000 in
theorem fnum_parse (hK : KV w0) (hoff : off < c.size) (hS : Sat w0 ((fb, frm W) :: (sb, cells c tb) :: K) w) :
    Calls Tryz.prog 50 #[.pointer (some ⟨fb, 0, none⟩), .pointer (some ⟨sb, off, none⟩)] w fun e w' =>
      (∃ n W', takeW numW W = some (n, W') ∧ e = .returned (.tuple #[]) ∧ Sat w0 ((fb, frm W') :: (sb, cells (c.setIfInBounds off (.int .i64 n)) tb) :: K) w') ∨ (takeW numW W = none ∧ e = .panicked badP ∧ Sat w0 K w') := by
  have HK : Bx _ := ⟨hK⟩
  have HO : Bx (off < c.size) := ⟨hoff⟩
  clear hK hoff
  cases W with
  | nil =>
    go_enter Tryz.func50, Tryz.ntmps50
    go_wp2_with (first | (refine loadFlag [] hS rfl rfl rfl ?_; simp only [putW]) | (guard_target =~ Calls _ 75 _ _ _; refine Stopped.out ?_))
    refine ⟨?_⟩
    refine Calls.mono (next_none hS) ?_
    rintro _ w' ⟨rfl, hS⟩
    exact ⟨rfl, .inr ⟨rfl, rfl, hS.tail⟩⟩
  | cons x W =>
    have hl := (frm_ok hS (fb := fb) (W := x :: W)).2 x (by simp)
    go_enter Tryz.func50, Tryz.ntmps50
    go_wp2_with (first | (refine loadFlag (x :: W) hS rfl rfl rfl ?_; simp only [putW]) | (guard_target =~ Calls _ 75 _ _ _; refine Stopped.out ?_))
    refine ⟨?_⟩
    refine Calls.mono (next_some hS) ?_
    clear hS
    rintro _ w ⟨rfl, hS⟩
    simp only [putW]
    go_wp2_with (guard_target =~ Calls _ 76 _ _ _; refine Stopped.out ?_)
    refine ⟨?_⟩
    (refine Calls.mono (number_any (HK.out.mono hS.base) hl) ?_; rintro _ w2 ⟨h, h2⟩; replace hS := hS.frame h2; clear h2; (try simp only [List.cons_append, List.nil_append] at hS))
    rcases h with ⟨n, hn, rfl⟩ | ⟨hn, rfl⟩
    · simp only [putW]
      have HN : Bx (takeW numW (x :: W) = some (n, W)) := ⟨by simp [takeW, hn]⟩
      clear hn
      go_wp2_with (refine store1 (b := sb) (v := .int .i64 n) hS rfl rfl rfl rfl rfl ?_ ?_; (focus (exact HO.out)); clear hS; intro w hS; try simp only [putW])
      go_end0
      exact .inl ⟨n, W, HN.out, rfl, hS.conv⟩
    · exact ⟨rfl, .inr ⟨by simp [takeW, hn], rfl, hS.tail.tail⟩⟩
theorem slForm2 {A : List Int} {g : Nat} {t : TypeId} {v : Value} (hS : Sat w0 S w) [p : PullSl S v g 1 by8 A t F] : ∃ q cc, v = .slice q A.length cc := by
  rcases (hS.perm p.perm).slCases with ⟨rfl, rfl, _⟩ | ⟨cap, rfl, _⟩
  · exact ⟨_, _, rfl⟩
  · exact ⟨_, _, rfl⟩
theorem set_same {c : Array Value} {off : Nat} {v : Value} (h : c[off]? = some v) : c.setIfInBounds off v = c := by
  obtain ⟨hlt, he⟩ := Array.getElem?_eq_some_iff.1 h
  refine Array.ext (by simp) fun i h1 h2 => ?_
  rw [Array.getElem_setIfInBounds]
  split
  · rename_i e
    subst e
    exact he.symm
  · rfl
set_option maxRecDepth 100000 in
set_option maxHeartbeats 1000000 in
theorem fdata_parse {mx : Nat} (hmx : mx ≤ 1000) (hoff : off < c.size) (hc : c[off]? = some (.slice none 0 0)) (hS : Sat w0 ((fb, frm W) :: (sb, cells c tb) :: K) w) :
    Calls Tryz.prog 51 #[.pointer (some ⟨fb, 0, none⟩), .pointer (some ⟨sb, off, none⟩), .int .i64 (mx : Int)] w fun e w' =>
      (∃ A v W', takeW (dataW mx) W = some (A, W') ∧ e = .returned (.tuple #[]) ∧ Sat w0 ((fb, frm W') :: (sb, cells (c.setIfInBounds off v) tb) :: (blk v, sl 1 by8 A 5 v) :: K) w') ∨ (takeW (dataW mx) W = none ∧ e = .panicked badP ∧ Sat w0 K w') := by
  have HO : Bx (off < c.size ∧ c[off]? = some (.slice none 0 0)) := ⟨⟨hoff, hc⟩⟩
  clear hoff hc
  cases W with
  | nil =>
    go_enter Tryz.func51, Tryz.ntmps51
    go_wp2_with (first | (refine loadFlag [] hS rfl rfl rfl ?_; simp only [putW]) | (guard_target =~ Calls _ 75 _ _ _; refine Stopped.out ?_))
    refine ⟨?_⟩
    refine Calls.mono (next_none hS) ?_
    rintro _ w' ⟨rfl, hS⟩
    exact ⟨rfl, .inr ⟨rfl, rfl, hS.tail⟩⟩
  | cons x W =>
    have hl := (frm_ok hS (fb := fb) (W := x :: W)).2 x (by simp)
    go_enter Tryz.func51, Tryz.ntmps51
    go_wp2_with (first | (refine loadFlag (x :: W) hS rfl rfl rfl ?_; simp only [putW]) | (guard_target =~ Calls _ 75 _ _ _; refine Stopped.out ?_))
    refine ⟨?_⟩
    refine Calls.mono (next_some hS) ?_
    clear hS
    rintro _ w ⟨rfl, hS⟩
    simp only [putW]
    by_cases hx : x = [45]
    · have hb : (x == [45]) = true := beq_iff_eq.2 hx
      have HN : Bx (takeW (dataW mx) (x :: W) = some ([], W)) := ⟨by simp [takeW, dataW, hx]⟩
      clear hx
      go_wp2_with (refine load1 hS rfl rfl rfl rfl ?_; simp only [putW])
      go_end0
      refine .inl ⟨[], .slice none 0 0, W, HN.out, rfl, ?_⟩
      rw [set_same HO.out.2]
      exact Sat.conv (S' := (fb, frm W) :: (sb, cells c tb) :: (0, sl 1 by8 [] 5 (.slice none 0 0)) :: K) (hS.slNil 1 by8 5)
    · have hb : (x == [45]) = false := by simpa using hx
      have HX : Bx (x ≠ [45]) := ⟨hx⟩
      clear hx
      go_wp2_with (guard_target =~ Calls _ 78 _ _ _; refine Stopped.out ?_)
      refine ⟨?_⟩
      refine Calls.mono (unhex_any hl) ?_
      rintro _ w2 (⟨A, v, hA, rfl, h2⟩ | ⟨hA, rfl, h2⟩)
      · replace hS := hS.frame h2
        clear h2
        simp only [List.cons_append, List.nil_append] at hS
        simp only [putW]
        obtain ⟨q, cc, rfl⟩ := slForm2 hS (v := v) (A := A)
        have HA : Bx (unhexW x = some A) := ⟨hA⟩
        clear hA
        by_cases h0 : 0 < A.length
        · by_cases h1 : A.length ≤ mx
          · have HN : Bx (takeW (dataW mx) (x :: W) = some (A, W)) := ⟨by simp [takeW, dataW, HX.out, HA.out, h0, h1]⟩
            go_wp2_with (first | (refine store1 (b := sb) (v := .slice q A.length cc) hS rfl rfl rfl rfl rfl ?_ ?_; (focus (exact HO.out.1)); clear hS; intro w hS; try simp only [putW]) | (refine load1 (b := sb) (v := .slice q A.length cc) hS rfl rfl rfl (by simp [HO.out.1]) ?_; simp only [putW]) | (go_at_call 25; refine Calls.mono (want_ok (by simp [h0, h1])) ?_; rintro _ w2 ⟨rfl, h2⟩; replace hS := hS.frame h2; clear h2; (try simp only [List.cons_append, List.nil_append] at hS); simp only [putW]))
            go_end0
            exact .inl ⟨A, .slice q A.length cc, W, HN.out, rfl, hS.conv⟩
          · have HN : Bx (takeW (dataW mx) (x :: W) = none) := ⟨by simp [takeW, dataW, HX.out, HA.out, h1]⟩
            go_wp2_with (first | (refine store1 (b := sb) (v := .slice q A.length cc) hS rfl rfl rfl rfl rfl ?_ ?_; (focus (exact HO.out.1)); clear hS; intro w hS; try simp only [putW]) | (refine load1 (b := sb) (v := .slice q A.length cc) hS rfl rfl rfl (by simp [HO.out.1]) ?_; simp only [putW]) | (go_at_call 25; refine Calls.mono (want_no (by simp [h0, h1])) ?_; rintro _ w2 ⟨rfl, h2⟩; replace hS := hS.frame h2; clear h2; (try simp only [List.cons_append, List.nil_append] at hS); simp only [putW]))
            exact ⟨rfl, .inr ⟨HN.out, rfl, hS.tail.tail.tail⟩⟩
        · have HN : Bx (takeW (dataW mx) (x :: W) = none) := ⟨by simp [takeW, dataW, HX.out, HA.out, h0]⟩
          go_wp2_with (first | (refine store1 (b := sb) (v := .slice q A.length cc) hS rfl rfl rfl rfl rfl ?_ ?_; (focus (exact HO.out.1)); clear hS; intro w hS; try simp only [putW]) | (refine load1 (b := sb) (v := .slice q A.length cc) hS rfl rfl rfl (by simp [HO.out.1]) ?_; simp only [putW]) | (go_at_call 25; refine Calls.mono (want_no (by simp [h0])) ?_; rintro _ w2 ⟨rfl, h2⟩; replace hS := hS.frame h2; clear h2; (try simp only [List.cons_append, List.nil_append] at hS); simp only [putW]))
          exact ⟨rfl, .inr ⟨HN.out, rfl, hS.tail.tail.tail⟩⟩
      · exact ⟨rfl, .inr ⟨by simp [takeW, dataW, HX.out, hA], rfl, (hS.frame h2).tail.tail⟩⟩
end
end Go.Proofs.YtpbjkfomdindnaaGreatDoor
