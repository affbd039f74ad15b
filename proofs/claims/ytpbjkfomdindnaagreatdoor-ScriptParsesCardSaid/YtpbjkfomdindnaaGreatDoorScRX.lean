/-
  thimbleref25: hex, bits, fates, fits.
  thimbleref25.bare, Plain.
-/
import Derived.Test.YtpbjkfomdindnaaGreatDoorScE
import Derived.Test.YtpbjkfomdindnaaGreatDoorScU
import Derived.Test.YtpbjkfomdindnaaGreatDoorJ03
import Derived.Lib.ItoaLen
import Derived.Laws.Runes
import Derived.Test.YtpbjkfomdindnaaGreatDoorScE2
set_option linter.unusedSimpArgs false
set_option linter.unusedVariables false
namespace Go.Proofs.YtpbjkfomdindnaaGreatDoor
open Go.RowKit Go.Shelf Go.Proofs.YtpbjkfomdindnaaGreatDoor.Sl Go.Proofs.YtpbjkfomdindnaaGreatDoor.Jp Go.Proofs.YtpbjkfomdindnaaGreatDoor.Sc

section
variable {P : Program} {ops : Array Oper} {I : World → Prop} {o : Oper} {a : Act} {t tr : TypeId} {x y : Operand} {w0 : World} {S : List Chunk}
/-- Two strings behind one another. -/
theorem ySum {l m : Bs} (hw : Region.wanted o (yielded ops a.tmps) = true) (ho : o.op = .binOp .add t x y tr) (hx : a.eval x = str l) (hy : a.eval y = str m) (hl : l.length + m.length ≤ 1000000) : YieldsIf P ops I o (str (l ++ m)) a :=
  .inl ⟨hw, fun w _ => by
    have hr : (binOp .add t (str l) (str m)).run P w = .ok (str (l ++ m)) w := run_string_add_lists w l m (by omega) (by omega)
    have hg : (eqGuard .add t x y (str l) (str m)).run P w = .ok () w := rfl
    simp [execOp, ho, hx, hy, hg, hr]⟩
/-- 'string(b)', b one byte of a small letter. -/
theorem yRune {src dst : TypeId} {kd : IntKind} {n : Int} {b : UInt8} (hw : Region.wanted o (yielded ops a.tmps) = true) (ho : o.op = .convert src dst x) (hx : a.eval x = .int kd n) (hs : (P.underlying src).isSome = true) (hd : P.underlying dst = some .string) (he : Utf8.encode n = ⟨[b].toArray⟩) : YieldsIf P ops I o (str [b]) a :=
  .inl ⟨hw, fun w _ => by
    have hr := run_convert_int_string (P := P) w src dst kd n hs hd
    rw [he] at hr
    simp [execOp, ho, hx, hr]⟩
/-- A cell of an element that came in. -/
theorem yLoadIn {b off p n : Nat} {z : Array Value} {zv v : Value} {α : Type} {f : α → List Value} {gd : α → Prop} {L : List α} (hI : ∀ w, I w → Sat w0 S w) (hw : Region.wanted o (yielded ops a.tmps) = true) (ho : o.op = .load t x) (hx : a.eval x = .pointer (some ⟨b, p, none⟩))
    [ty : Ty P t false 1 zv z] (hB : BAt w0 n f gd L b off) (i j : Nat) (hoff : p = off + i * n + j) {y : α} (hy : L[i]? = some y) (hv : (f y)[j]? = some v) : YieldsIf P ops I o v a :=
  .inl ⟨hw, fun w h => by
    have hS := hI w h
    have h1 : (loadVar t ⟨b, p, none⟩).run P w = .ok v w := run_load1 (by rw [hoff]; exact hS.baseCell hB hy hv)
    simp [execOp, ho, hx, Instr.loadAt, Instr.sureAddr, h1]⟩
end
theorem sumL {P : Program} {ops : Array Oper} {rest : List Oper} {o : Oper} {a : Act} {Q : Exit → Act → World → Prop} {w : World} {t tr : TypeId} {x y : Operand} {l m : Bs} (hw : Region.wanted o (yielded ops a.tmps) = true) (ho : o.op = .binOp .add t x y tr) (hx : a.eval x = str l) (hy : a.eval y = str m)
    (hl : l.length + m.length ≤ 1000000) (k : wpList P ops Q rest (a.put o.dst (str (l ++ m))) w) : wpList P ops Q (o :: rest) a w := by
  refine wp_value hw (w' := w) ?_ k
  have hr : (binOp .add t (str l) (str m)).run P w = .ok (str (l ++ m)) w := run_string_add_lists w l m (by omega) (by omega)
  have hg : (eqGuard .add t x y (str l) (str m)).run P w = .ok () w := rfl
  simp [execOp, ho, hx, hy, hg, hr]
theorem enc_low {b : UInt8} (h : b.toNat < 128) : Utf8.encode (b.toNat : Int) = ⟨[b].toArray⟩ := by
  unfold Utf8.encode
  have hv : Utf8.valid (b.toNat : Int) = true := by unfold Utf8.valid; simp; omega
  simp only [hv, if_true, Int.toNat_natCast, h]
  simp
theorem dig_low {k : Nat} (h : k < 16) : (hexd k).toNat < 128 := by
  have : ∀ k : Fin 16, (hexd k.val).toNat < 128 := by decide +kernel
  exact this ⟨k, h⟩
theorem dig_enc {k : Nat} (h : k < 16) : Utf8.encode ((hexd k).toNat : Int) = ⟨[hexd k].toArray⟩ := enc_low (dig_low h)
theorem hexL_non {A : List Int} (h : A ≠ []) : hexL A ≠ [] := by
  cases A with
  | nil => exact absurd rfl h
  | cons x l => simp [hexL]
theorem be_beL : ∀ (k n : Nat), be k n = beL k n
  | 0, _ => rfl
  | k + 1, n => by
    have key : ∀ (k n : Nat), be (k + 1) n = be k (n / 256) ++ [((n % 256 : Nat) : Int)] := by
      intro k
      induction k with
      | zero => intro n; simp [be]
      | succ k ih =>
        intro n
        rw [be, ih n, be, List.cons_append]
        congr 2
        rw [Nat.div_div_eq_div_mul, ← Nat.pow_succ']
    rw [key, be_beL k, beL]
theorem join_le22 {c : UInt8} : ∀ {W : List Bs}, (∀ w ∈ W, w.length ≤ 21) → (joinC c W).length ≤ W.length * 22
  | [], _ => by simp [joinC]
  | [w], h => by have := h w (by simp); simp only [joinC, List.length_cons, List.length_nil]; omega
  | w :: v :: r, h => by
    have h1 := h w (by simp)
    have h2 := join_le22 (c := c) (W := v :: r) fun x hx => h x (by simp [hx])
    rw [joinC_cons _ (by simp), List.length_append, List.length_cons]
    simp only [List.length_cons] at h2 ⊢
    omega
theorem joinC_snoc (c : UInt8) (w : Bs) : ∀ W : List Bs, joinC c (W ++ [w]) = if W = [] then w else joinC c W ++ [c] ++ w
  | [] => rfl
  | [x] => by simp [joinC]
  | x :: y :: r => by
    have := joinC_snoc c w (y :: r)
    rw [List.cons_append, joinC_cons x (by simp), this, if_neg (by simp), if_neg (by simp), joinC_cons (r := y :: r) x (by simp)]
    simp
section
variable {w0 w : World} {S F K : List Chunk}
set_option maxRecDepth 100000 in
set_option maxHeartbeats 1000000 in
theorem rhex_any {A : List Int} {va : Value} (hA : RB w0 A va) (hl : A.length ≤ 100000) :
    Calls Tryz.prog 44 #[va] w0 fun e w' => e = .returned (str (dashL A)) ∧ Sat w0 [] w' := by
  have hS := Sat.refl w0
  have HA : Bx (∀ x ∈ A, okByte x) := ⟨hA.all⟩
  obtain ⟨pa, ca, rfl, -, hat⟩ := hA.at
  clear hA
  go_enter Tryz.func44, Tryz.ntmps44
  go_wp2_with (first | (refine load1 hS rfl rfl rfl rfl ?_; simp only [putW]) | (refine loadAll hS rfl rfl rfl ?_ ?_; rfl; simp only [putW]) | (refine loadPart hS rfl rfl rfl ?_ rfl ?_; rfl; simp only [putW]) | (refine store1 hS rfl rfl rfl rfl rfl ?_ ?_; (focus (simp; done)); clear hS; intro w hS; simp only [evW, putW] at hS; try simp only [putW]) | (refine storeAll hS rfl rfl rfl rfl ?_ ?_ ?_ ?_; rfl; (focus (simp [Value.oneCell']; done)); rfl; clear hS; intro w hS; try simp only [putW]) | (refine storeN hS rfl rfl rfl rfl ?_ ?_ ?_ ?_; rfl; (focus (simp [Value.oneCell']; done)); (focus (simp; done)); clear hS; intro w hS; simp at hS; try simp only [putW]) | (refine alloc hS rfl rfl ?_; clear hS; intro mb w hS; simp only [putW]) | (refine box1 hS rfl rfl rfl rfl ?_; clear hS; intro mb w hS; try simp only [evW, putW] at hS; simp only [putW]) | (refine boxN hS rfl rfl rfl ?_; clear hS; intro mb w hS; simp only [putW]))
  have hT0 : Bx (([] : Bs) = hexL (A.take 0)) := ⟨rfl⟩
  go_loopw [3, 4] (fun s i wr => ∃ (k : Nat) (T : Bs), k ≤ A.length ∧ i = .int .i64 (k : Int) ∧ s = str T ∧ Bx (T = hexL (A.take k)) ∧ Sat w0 [] wr) (fun _ i _ => A.length - (intOf i).toNat)
  case atStart => exact ⟨0, [], Nat.zero_le _, rfl, rfl, hT0, hS⟩
  case round =>
    clear hS hT0
    obtain ⟨k, T, hk, rfl, rfl, hT, hS⟩ := hrel
    have hTl : T.length ≤ 200000 := by rw [hT.out, hexL_len, List.length_take]; omega
    by_cases hlt : k < A.length
    · obtain ⟨x, hx⟩ : ∃ x, A[k]? = some x := ⟨_, List.getElem?_eq_getElem hlt⟩
      obtain ⟨n, hn, hn2⟩ : ∃ n : Nat, x = n ∧ n < 256 := by
        have := HA.out x (List.mem_of_getElem? hx)
        unfold okByte at this
        exact ⟨x.toNat, by omega, by omega⟩
      subst hn
      obtain ⟨b, off, rfl, hBA⟩ := hat (by intro e; subst e; simp at hlt)
      have HB : Bx (BAt w0 1 by8 okByte A b off) := ⟨hBA⟩
      have Hx : Bx (A[k]? = some (n : Int)) := ⟨hx⟩
      have HN : Bx (hexL (A.take (k + 1)) = T ++ [hexd (n / 16)] ++ [hexd (n % 16)]) := ⟨by
        rw [List.take_add_one, hx, hexL_append, ← hT.out]
        simp [hexL]⟩
      have e1 : Bx (digS[n / 16]? = some (hexd (n / 16)) ∧ Utf8.encode ((hexd (n / 16)).toNat : Int) = ⟨[hexd (n / 16)].toArray⟩) := ⟨digS_get (by omega), dig_enc (by omega)⟩
      have e2 : Bx (digS[n % 16]? = some (hexd (n % 16)) ∧ Utf8.encode ((hexd (n % 16)).toNat : Int) = ⟨[hexd (n % 16)].toArray⟩) := ⟨digS_get (by omega), dig_enc (by omega)⟩
      generalize hexd (n / 16) = x1 at HN e1
      generalize hexd (n % 16) = x2 at HN e2
      have c1 : Bx (T.length + ([x1] : Bs).length ≤ 1000000) := ⟨by simp; omega⟩
      have c2 : Bx ((T ++ [x1]).length + ([x2] : Bs).length ≤ 1000000) := ⟨by simp; omega⟩
      have w1 : Bx (IntKind.u8.wrap ((n : Int) / 16) = ((n / 16 : Nat) : Int)) := ⟨by simp [IntKind.wrap, IntKind.bits, IntKind.signed]; omega⟩
      have w2 : Bx ((n : Int).tmod 16 = ((n % 16 : Nat) : Int)) := ⟨by rw [Int.tmod_eq_emod_of_nonneg (by omega)]; omega⟩
      clear hBA hat hx hT hTl
      go_wp2_with (first | (refine load1 hS rfl rfl rfl rfl ?_; simp only [putW]) | (refine loadAll hS rfl rfl rfl ?_ ?_; rfl; simp only [putW]) | (refine loadPart hS rfl rfl rfl ?_ rfl ?_; rfl; simp only [putW]) | (refine store1 hS rfl rfl rfl rfl rfl ?_ ?_; (focus (simp; done)); clear hS; intro w hS; simp only [evW, putW] at hS; try simp only [putW]) | (refine storeAll hS rfl rfl rfl rfl ?_ ?_ ?_ ?_; rfl; (focus (simp [Value.oneCell']; done)); rfl; clear hS; intro w hS; try simp only [putW]) | (refine storeN hS rfl rfl rfl rfl ?_ ?_ ?_ ?_; rfl; (focus (simp [Value.oneCell']; done)); (focus (simp; done)); clear hS; intro w hS; simp at hS; try simp only [putW]) | (refine alloc hS rfl rfl ?_; clear hS; intro mb w hS; simp only [putW]) | (refine box1 hS rfl rfl rfl rfl ?_; clear hS; intro mb w hS; try simp only [evW, putW] at hS; simp only [putW]) | (refine boxN hS rfl rfl rfl ?_; clear hS; intro mb w hS; simp only [putW]))
      (refine region_quiet hS (by kernel_rfl) (by kernel_rfl) (by kernel_rfl) ?_; clear hS; (repeat (first | (refine quiet_skip rfl ?_; simp only [putW]) | (refine quiet_y (yLoadIn (w0 := w0) (f := by8) (fun _ h => h) rfl rfl rfl HB.out k 0 (by omega) Hx.out rfl) ?_; simp only [putW]) | (refine quiet_y (yIndex (l := digS) (n := n / 16) (b := x1) rfl rfl rfl rfl Tryz.underlying9 (by rw [w1.out]) e1.out.1) ?_; simp only [putW]) | (refine quiet_y (yIndex (l := digS) (n := n % 16) (b := x2) rfl rfl rfl rfl Tryz.underlying9 (by rw [w2.out]) e2.out.1) ?_; simp only [putW]) | (refine quiet_y (yRune (b := x1) rfl rfl rfl rfl Tryz.underlying9 (by rw [e1.out.2])) ?_; simp only [putW]) | (refine quiet_y (yRune (b := x2) rfl rfl rfl rfl Tryz.underlying9 (by rw [e2.out.2])) ?_; simp only [putW]) | (refine quiet_y (ySum (l := T) (m := [x1]) rfl rfl rfl rfl c1.out) ?_; simp only [putW]) | (refine quiet_y (ySum (l := T ++ [x1]) (m := [x2]) rfl rfl rfl rfl c2.out) ?_; simp only [putW]) | (refine quiet_y (yMove rfl rfl rfl) ?_; simp only [evW, putW]) | (refine quiet_y (yNil rfl rfl rfl) ?_; simp only [putW]) | (refine quiet_y (yLoad1 (fun _ h => h) rfl rfl rfl rfl) ?_; simp only [putW]) | (apply quiet_y; (focus (apply yRun rfl; intro w; first | (go_simp; done) | (go_simp; rfl))); simp only [putW]))); refine quiet_nil ?_; intro w hS)
      have HN2 : Bx (hexL (A.take (k + 1)) = T ++ [x1, x2]) := ⟨by rw [HN.out]; simp⟩
      clear HN
      clear c1 c2 e1 e2
      go_wp2_with (first | (refine load1 hS rfl rfl rfl rfl ?_; simp only [putW]) | (refine loadAll hS rfl rfl rfl ?_ ?_; rfl; simp only [putW]) | (refine loadPart hS rfl rfl rfl ?_ rfl ?_; rfl; simp only [putW]) | (refine store1 hS rfl rfl rfl rfl rfl ?_ ?_; (focus (simp; done)); clear hS; intro w hS; simp only [evW, putW] at hS; try simp only [putW]) | (refine storeAll hS rfl rfl rfl rfl ?_ ?_ ?_ ?_; rfl; (focus (simp [Value.oneCell']; done)); rfl; clear hS; intro w hS; try simp only [putW]) | (refine storeN hS rfl rfl rfl rfl ?_ ?_ ?_ ?_; rfl; (focus (simp [Value.oneCell']; done)); (focus (simp; done)); clear hS; intro w hS; simp at hS; try simp only [putW]) | (refine alloc hS rfl rfl ?_; clear hS; intro mb w hS; simp only [putW]) | (refine box1 hS rfl rfl rfl rfl ?_; clear hS; intro mb w hS; try simp only [evW, putW] at hS; simp only [putW]) | (refine boxN hS rfl rfl rfl ?_; clear hS; intro mb w hS; simp only [putW]))
      go_roundw
      case rel => exact ⟨k + 1, T ++ [x1, x2], by omega, by go_num, rfl, ⟨HN2.out.symm⟩, hS⟩
      case measure => simp only [intOf]; omega
    · have hke : A.take k = A := List.take_of_length_le (by omega)
      by_cases h0 : A = []
      · subst h0
        obtain rfl : T = [] := by rw [hT.out]; simp [hexL]
        clear hT hke
        go_wp2_with (first | (refine load1 hS rfl rfl rfl rfl ?_; simp only [putW]) | (refine loadAll hS rfl rfl rfl ?_ ?_; rfl; simp only [putW]) | (refine loadPart hS rfl rfl rfl ?_ rfl ?_; rfl; simp only [putW]) | (refine store1 hS rfl rfl rfl rfl rfl ?_ ?_; (focus (simp; done)); clear hS; intro w hS; simp only [evW, putW] at hS; try simp only [putW]) | (refine storeAll hS rfl rfl rfl rfl ?_ ?_ ?_ ?_; rfl; (focus (simp [Value.oneCell']; done)); rfl; clear hS; intro w hS; try simp only [putW]) | (refine storeN hS rfl rfl rfl rfl ?_ ?_ ?_ ?_; rfl; (focus (simp [Value.oneCell']; done)); (focus (simp; done)); clear hS; intro w hS; simp at hS; try simp only [putW]) | (refine alloc hS rfl rfl ?_; clear hS; intro mb w hS; simp only [putW]) | (refine box1 hS rfl rfl rfl rfl ?_; clear hS; intro mb w hS; try simp only [evW, putW] at hS; simp only [putW]) | (refine boxN hS rfl rfl rfl ?_; clear hS; intro mb w hS; simp only [putW]))
        exact bodyPost_ret (v := str [45]) (by simp [results, Tryz.results44]) rfl ⟨rfl, hS⟩
      · have hq : (T == []) = false := by
          rw [hT.out, hke]
          simpa using hexL_non h0
        have HD : Bx (dashL A = T) := ⟨by unfold dashL; rw [if_neg h0, hT.out, hke]⟩
        clear hT hke h0
        go_wp2_with (first | (refine load1 hS rfl rfl rfl rfl ?_; simp only [putW]) | (refine loadAll hS rfl rfl rfl ?_ ?_; rfl; simp only [putW]) | (refine loadPart hS rfl rfl rfl ?_ rfl ?_; rfl; simp only [putW]) | (refine store1 hS rfl rfl rfl rfl rfl ?_ ?_; (focus (simp; done)); clear hS; intro w hS; simp only [evW, putW] at hS; try simp only [putW]) | (refine storeAll hS rfl rfl rfl rfl ?_ ?_ ?_ ?_; rfl; (focus (simp [Value.oneCell']; done)); rfl; clear hS; intro w hS; try simp only [putW]) | (refine storeN hS rfl rfl rfl rfl ?_ ?_ ?_ ?_; rfl; (focus (simp [Value.oneCell']; done)); (focus (simp; done)); clear hS; intro w hS; simp at hS; try simp only [putW]) | (refine alloc hS rfl rfl ?_; clear hS; intro mb w hS; simp only [putW]) | (refine box1 hS rfl rfl rfl rfl ?_; clear hS; intro mb w hS; try simp only [evW, putW] at hS; simp only [putW]) | (refine boxN hS rfl rfl rfl ?_; clear hS; intro mb w hS; simp only [putW]))
        exact bodyPost_ret (v := str T) (by simp [results, Tryz.results44]) rfl ⟨by rw [HD.out], hS⟩
set_option maxRecDepth 100000 in
set_option maxHeartbeats 1000000 in
theorem rbits_any {n : Nat} (hn : n < 18446744073709551616) :
    Calls Tryz.prog 45 #[.float .f64 n] w0 fun e w' => e = .returned (str (bitsL n)) ∧ Sat w0 [] w' := by
  have hS := Sat.refl w0
  have hfb : ∀ w : World, (callFunc 67 #[.float .f64 n]).run Tryz.prog w = .ok (.value (.int .u64 (n : Int))) w := fun w => fbits_run n w
  have hne := self_ne hn
  obtain ⟨m, hm⟩ : ∃ m, canB n = m := ⟨_, rfl⟩
  have hm64 : m < 18446744073709551616 := by rw [← hm]; exact canB_lt hn
  have HM : Bx (bitsL n = dashL (([] : List Int) ++ be 8 m)) := ⟨by
    rw [List.nil_append, be_beL]
    unfold bitsL dashL
    rw [hm, if_neg]
    intro e
    have := congrArg List.length e
    rw [beL_len] at this
    exact absurd this (by decide)⟩
  have HL : Bx ((([] : List Int) ++ be 8 m).length ≤ 100000 ∧ ∀ x ∈ ([] : List Int) ++ be 8 m, okByte x) := ⟨by rw [List.nil_append, be_beL, beL_len]; decide, by rw [List.nil_append, be_beL]; exact beL_ok 8 m⟩
  cases hb : nanB n with
  | true =>
    rw [hb] at hne
    have hm2 : (9221120237041090561 : Int) = (m : Int) := by rw [← hm, canB_yes hb]; rfl
    clear hb hm
    go_enter Tryz.func45, Tryz.ntmps45
    go_wp2_with (first | (guard_target =~ Calls _ 71 _ _ _; refine Stopped.out ?_) | (refine load1 hS rfl rfl rfl rfl ?_; simp only [putW]) | (refine loadAll hS rfl rfl rfl ?_ ?_; rfl; simp only [putW]) | (refine loadPart hS rfl rfl rfl ?_ rfl ?_; rfl; simp only [putW]) | (refine store1 hS rfl rfl rfl rfl rfl ?_ ?_; (focus (simp; done)); clear hS; intro w hS; simp only [evW, putW] at hS; try simp only [putW]) | (refine storeAll hS rfl rfl rfl rfl ?_ ?_ ?_ ?_; rfl; (focus (simp [Value.oneCell']; done)); rfl; clear hS; intro w hS; try simp only [putW]) | (refine storeN hS rfl rfl rfl rfl ?_ ?_ ?_ ?_; rfl; (focus (simp [Value.oneCell']; done)); (focus (simp; done)); clear hS; intro w hS; simp at hS; try simp only [putW]) | (refine alloc hS rfl rfl ?_; clear hS; intro mb w hS; simp only [putW]) | (refine box1 hS rfl rfl rfl rfl ?_; clear hS; intro mb w hS; try simp only [evW, putW] at hS; simp only [putW]) | (refine boxN hS rfl rfl rfl ?_; clear hS; intro mb w hS; simp only [putW]))
    refine ⟨?_⟩
    rw [hm2]
    clear hm2
    refine Calls.mono (refPut_any (va := nilV) (A := []) 8 m (by decide) (by decide) hm64 (.inl ⟨rfl, .inl rfl⟩) (by simp)) ?_
    rintro _ w2 ⟨v, rfl, h2⟩
    replace hS := hS.frame h2
    clear h2
    generalize ([] : List Int) ++ be 8 m = D at HM HL hS
    simp only [List.append_nil] at hS
    simp only [putW]
    go_wp2_with (first | (go_at_call 44; refine Calls.mono (rhex_any (Sat.readsSl (v := v) hS HL.out.2) HL.out.1) ?_; rintro _ w2 ⟨rfl, h2⟩; replace hS := hS.frame h2; clear h2; (try simp only [List.cons_append, List.nil_append] at hS); simp only [putW]) | (refine load1 hS rfl rfl rfl rfl ?_; simp only [putW]) | (refine loadAll hS rfl rfl rfl ?_ ?_; rfl; simp only [putW]) | (refine loadPart hS rfl rfl rfl ?_ rfl ?_; rfl; simp only [putW]) | (refine store1 hS rfl rfl rfl rfl rfl ?_ ?_; (focus (simp; done)); clear hS; intro w hS; simp only [evW, putW] at hS; try simp only [putW]) | (refine storeAll hS rfl rfl rfl rfl ?_ ?_ ?_ ?_; rfl; (focus (simp [Value.oneCell']; done)); rfl; clear hS; intro w hS; try simp only [putW]) | (refine storeN hS rfl rfl rfl rfl ?_ ?_ ?_ ?_; rfl; (focus (simp [Value.oneCell']; done)); (focus (simp; done)); clear hS; intro w hS; simp at hS; try simp only [putW]) | (refine alloc hS rfl rfl ?_; clear hS; intro mb w hS; simp only [putW]) | (refine box1 hS rfl rfl rfl rfl ?_; clear hS; intro mb w hS; try simp only [evW, putW] at hS; simp only [putW]) | (refine boxN hS rfl rfl rfl ?_; clear hS; intro mb w hS; simp only [putW]))
    go_ret
    exact ⟨by rw [HM.out]; rfl, hS.nothing⟩
  | false =>
    rw [hb] at hne
    obtain rfl : n = m := by rw [← hm, canB_no hb]
    clear hb hm
    go_enter Tryz.func45, Tryz.ntmps45
    go_wp2_with (first | (guard_target =~ Calls _ 71 _ _ _; refine Stopped.out ?_) | (refine load1 hS rfl rfl rfl rfl ?_; simp only [putW]) | (refine loadAll hS rfl rfl rfl ?_ ?_; rfl; simp only [putW]) | (refine loadPart hS rfl rfl rfl ?_ rfl ?_; rfl; simp only [putW]) | (refine store1 hS rfl rfl rfl rfl rfl ?_ ?_; (focus (simp; done)); clear hS; intro w hS; simp only [evW, putW] at hS; try simp only [putW]) | (refine storeAll hS rfl rfl rfl rfl ?_ ?_ ?_ ?_; rfl; (focus (simp [Value.oneCell']; done)); rfl; clear hS; intro w hS; try simp only [putW]) | (refine storeN hS rfl rfl rfl rfl ?_ ?_ ?_ ?_; rfl; (focus (simp [Value.oneCell']; done)); (focus (simp; done)); clear hS; intro w hS; simp at hS; try simp only [putW]) | (refine alloc hS rfl rfl ?_; clear hS; intro mb w hS; simp only [putW]) | (refine box1 hS rfl rfl rfl rfl ?_; clear hS; intro mb w hS; try simp only [evW, putW] at hS; simp only [putW]) | (refine boxN hS rfl rfl rfl ?_; clear hS; intro mb w hS; simp only [putW]))
    refine ⟨?_⟩
    refine Calls.mono (refPut_any (va := nilV) (A := []) 8 n (by decide) (by decide) hm64 (.inl ⟨rfl, .inl rfl⟩) (by simp)) ?_
    rintro _ w2 ⟨v, rfl, h2⟩
    replace hS := hS.frame h2
    clear h2
    generalize ([] : List Int) ++ be 8 n = D at HM HL hS
    simp only [List.append_nil] at hS
    simp only [putW]
    go_wp2_with (first | (go_at_call 44; refine Calls.mono (rhex_any (Sat.readsSl (v := v) hS HL.out.2) HL.out.1) ?_; rintro _ w2 ⟨rfl, h2⟩; replace hS := hS.frame h2; clear h2; (try simp only [List.cons_append, List.nil_append] at hS); simp only [putW]) | (refine load1 hS rfl rfl rfl rfl ?_; simp only [putW]) | (refine loadAll hS rfl rfl rfl ?_ ?_; rfl; simp only [putW]) | (refine loadPart hS rfl rfl rfl ?_ rfl ?_; rfl; simp only [putW]) | (refine store1 hS rfl rfl rfl rfl rfl ?_ ?_; (focus (simp; done)); clear hS; intro w hS; simp only [evW, putW] at hS; try simp only [putW]) | (refine storeAll hS rfl rfl rfl rfl ?_ ?_ ?_ ?_; rfl; (focus (simp [Value.oneCell']; done)); rfl; clear hS; intro w hS; try simp only [putW]) | (refine storeN hS rfl rfl rfl rfl ?_ ?_ ?_ ?_; rfl; (focus (simp [Value.oneCell']; done)); (focus (simp; done)); clear hS; intro w hS; simp at hS; try simp only [putW]) | (refine alloc hS rfl rfl ?_; clear hS; intro mb w hS; simp only [putW]) | (refine box1 hS rfl rfl rfl rfl ?_; clear hS; intro mb w hS; try simp only [evW, putW] at hS; simp only [putW]) | (refine boxN hS rfl rfl rfl ?_; clear hS; intro mb w hS; simp only [putW]))
    go_ret
    exact ⟨by rw [HM.out]; rfl, hS.nothing⟩
theorem fits_any {n : Int} {b : Bool} (hb : decide (okN n) = b) : Calls Tryz.prog 69 #[.int .i64 n] w0 fun e w' => e = .returned (.bool b) ∧ Sat w0 [] w' := by
  have hS := Sat.refl w0
  by_cases h0 : 0 ≤ n
  · by_cases h1 : n ≤ 999999999
    · have HB : Bx (b = true) := ⟨by rw [← hb]; exact decide_eq_true ⟨h0, by omega⟩⟩
      clear hb
      go_enter Tryz.func69, Tryz.ntmps69
      go_wp2_with (first | (refine load1 hS rfl rfl rfl rfl ?_; simp only [putW]) | (refine loadAll hS rfl rfl rfl ?_ ?_; rfl; simp only [putW]) | (refine loadPart hS rfl rfl rfl ?_ rfl ?_; rfl; simp only [putW]) | (refine store1 hS rfl rfl rfl rfl rfl ?_ ?_; (focus (simp; done)); clear hS; intro w hS; simp only [evW, putW] at hS; try simp only [putW]) | (refine storeAll hS rfl rfl rfl rfl ?_ ?_ ?_ ?_; rfl; (focus (simp [Value.oneCell']; done)); rfl; clear hS; intro w hS; try simp only [putW]) | (refine storeN hS rfl rfl rfl rfl ?_ ?_ ?_ ?_; rfl; (focus (simp [Value.oneCell']; done)); (focus (simp; done)); clear hS; intro w hS; simp at hS; try simp only [putW]) | (refine alloc hS rfl rfl ?_; clear hS; intro mb w hS; simp only [putW]) | (refine box1 hS rfl rfl rfl rfl ?_; clear hS; intro mb w hS; try simp only [evW, putW] at hS; simp only [putW]) | (refine boxN hS rfl rfl rfl ?_; clear hS; intro mb w hS; simp only [putW]))
      go_ret
      exact ⟨by rw [HB.out] <;> rfl, hS⟩
    · have HB : Bx (b = false) := ⟨by rw [← hb]; exact decide_eq_false fun h => h1 (by have := h.2; omega)⟩
      clear hb
      go_enter Tryz.func69, Tryz.ntmps69
      go_wp2_with (first | (refine load1 hS rfl rfl rfl rfl ?_; simp only [putW]) | (refine loadAll hS rfl rfl rfl ?_ ?_; rfl; simp only [putW]) | (refine loadPart hS rfl rfl rfl ?_ rfl ?_; rfl; simp only [putW]) | (refine store1 hS rfl rfl rfl rfl rfl ?_ ?_; (focus (simp; done)); clear hS; intro w hS; simp only [evW, putW] at hS; try simp only [putW]) | (refine storeAll hS rfl rfl rfl rfl ?_ ?_ ?_ ?_; rfl; (focus (simp [Value.oneCell']; done)); rfl; clear hS; intro w hS; try simp only [putW]) | (refine storeN hS rfl rfl rfl rfl ?_ ?_ ?_ ?_; rfl; (focus (simp [Value.oneCell']; done)); (focus (simp; done)); clear hS; intro w hS; simp at hS; try simp only [putW]) | (refine alloc hS rfl rfl ?_; clear hS; intro mb w hS; simp only [putW]) | (refine box1 hS rfl rfl rfl rfl ?_; clear hS; intro mb w hS; try simp only [evW, putW] at hS; simp only [putW]) | (refine boxN hS rfl rfl rfl ?_; clear hS; intro mb w hS; simp only [putW]))
      go_ret
      exact ⟨by rw [HB.out] <;> rfl, hS⟩
  · have HB : Bx (b = false) := ⟨by rw [← hb]; exact decide_eq_false fun h => h0 h.1⟩
    clear hb
    go_enter Tryz.func69, Tryz.ntmps69
    go_wp2_with (first | (refine load1 hS rfl rfl rfl rfl ?_; simp only [putW]) | (refine loadAll hS rfl rfl rfl ?_ ?_; rfl; simp only [putW]) | (refine loadPart hS rfl rfl rfl ?_ rfl ?_; rfl; simp only [putW]) | (refine store1 hS rfl rfl rfl rfl rfl ?_ ?_; (focus (simp; done)); clear hS; intro w hS; simp only [evW, putW] at hS; try simp only [putW]) | (refine storeAll hS rfl rfl rfl rfl ?_ ?_ ?_ ?_; rfl; (focus (simp [Value.oneCell']; done)); rfl; clear hS; intro w hS; try simp only [putW]) | (refine storeN hS rfl rfl rfl rfl ?_ ?_ ?_ ?_; rfl; (focus (simp [Value.oneCell']; done)); (focus (simp; done)); clear hS; intro w hS; simp at hS; try simp only [putW]) | (refine alloc hS rfl rfl ?_; clear hS; intro mb w hS; simp only [putW]) | (refine box1 hS rfl rfl rfl rfl ?_; clear hS; intro mb w hS; try simp only [evW, putW] at hS; simp only [putW]) | (refine boxN hS rfl rfl rfl ?_; clear hS; intro mb w hS; simp only [putW]))
    go_ret
    exact ⟨by rw [HB.out] <;> rfl, hS⟩
set_option maxRecDepth 100000 in
set_option maxHeartbeats 1000000 in
theorem rfates_any {A : List Int} {va : Value} (hK : KV w0) (hA : RI w0 A va) (hl : A.length ≤ 100) (hk : ∀ x ∈ A, okN x) :
    Calls Tryz.prog 43 #[va] w0 fun e w' => e = .returned (str (fatesL A)) ∧ Sat w0 [] w' := by
  have hS := Sat.refl w0
  have HK : Bx (KV w0) := ⟨hK⟩
  have HA : Bx (∀ x ∈ A, okN x) := ⟨hk⟩
  obtain ⟨pa, ca, rfl, -, hat⟩ := BSl.at hA
  clear hA hK hk
  go_enter Tryz.func43, Tryz.ntmps43
  go_wp2_with (first | (refine load1 hS rfl rfl rfl rfl ?_; simp only [putW]) | (refine loadAll hS rfl rfl rfl ?_ ?_; rfl; simp only [putW]) | (refine loadPart hS rfl rfl rfl ?_ rfl ?_; rfl; simp only [putW]) | (refine store1 hS rfl rfl rfl rfl rfl ?_ ?_; (focus (simp; done)); clear hS; intro w hS; simp only [evW, putW] at hS; try simp only [putW]) | (refine storeAll hS rfl rfl rfl rfl ?_ ?_ ?_ ?_; rfl; (focus (simp [Value.oneCell']; done)); rfl; clear hS; intro w hS; try simp only [putW]) | (refine storeN hS rfl rfl rfl rfl ?_ ?_ ?_ ?_; rfl; (focus (simp [Value.oneCell']; done)); (focus (simp; done)); clear hS; intro w hS; simp at hS; try simp only [putW]) | (refine alloc hS rfl rfl ?_; clear hS; intro mb w hS; simp only [putW]) | (refine box1 hS rfl rfl rfl rfl ?_; clear hS; intro mb w hS; try simp only [evW, putW] at hS; simp only [putW]) | (refine boxN hS rfl rfl rfl ?_; clear hS; intro mb w hS; simp only [putW]))
  have hT0 : Bx (([] : Bs) = joinC 44 ((A.take 0).map Lib.itoa)) := ⟨rfl⟩
  go_loopw [3, 4] (fun s i wr => ∃ (k : Nat) (T : Bs), k ≤ A.length ∧ i = .int .i64 (k : Int) ∧ s = str T ∧ Bx (T = joinC 44 ((A.take k).map Lib.itoa)) ∧ Sat w0 [] wr) (fun _ i _ => A.length - (intOf i).toNat)
  case atStart => exact ⟨0, [], Nat.zero_le _, rfl, rfl, hT0, hS⟩
  case round =>
    clear hS hT0
    obtain ⟨k, T, hk, rfl, rfl, hT, hS⟩ := hrel
    by_cases hlt : k < A.length
    · obtain ⟨x, hx⟩ : ∃ x, A[k]? = some x := ⟨_, List.getElem?_eq_getElem hlt⟩
      have hxn := HA.out x (List.mem_of_getElem? hx)
      obtain ⟨b, off, rfl, hBA⟩ := hat (by intro e; subst e; simp at hlt)
      have HB : Bx (BAt w0 1 (one (Value.int .i64)) (fun _ => True) A b off) := ⟨hBA⟩
      have Hx : Bx (A[k]? = some x) := ⟨hx⟩
      have hZl : (Lib.itoa x).length ≤ 21 := Lib.itoa_length_le x (by have := hxn.1; omega) (by have := hxn.2; omega)
      have hTl : T.length ≤ 10000 := by
        rw [hT.out]
        refine Nat.le_trans (join_le22 fun w hw => ?_) (?_ : ((A.take k).map Lib.itoa).length * 22 ≤ 10000)
        · obtain ⟨x, hx2, rfl⟩ := List.mem_map.1 hw
          have hxn := HA.out x (List.mem_of_mem_take hx2)
          exact Lib.itoa_length_le x (by have := hxn.1; omega) (by have := hxn.2; omega)
        · rw [List.length_map, List.length_take]; omega
      have HI : Bx (∀ {w : World}, Sat w0 [] w → Calls Tryz.prog 41 #[.int .i64 x] w fun e w' => e = .returned (str (Lib.itoa x)) ∧ Sat w [] w') := ⟨fun {w} h => itoa_any x (HK.out.mono h.base) (by have := hxn.1; omega) (by have := hxn.2; omega)⟩
      have HN : Bx (joinC 44 ((A.take (k + 1)).map Lib.itoa) = if k = 0 then Lib.itoa x else T ++ [44] ++ Lib.itoa x) := ⟨by
        rw [List.take_add_one, hx, Option.toList_some, List.map_append, List.map_singleton, joinC_snoc, hT.out]
        congr 1
        rw [List.map_eq_nil_iff, List.take_eq_nil_iff]
        simp only [eq_iff_iff]
        constructor
        · rintro (h | h)
          · exact h
          · subst h; simp at hlt
        · intro h; exact .inl h⟩
      generalize Lib.itoa x = Z at hZl HI HN
      clear hBA hat hx hxn
      have c1 : Bx (T.length + ([44] : Bs).length ≤ 1000000) := ⟨by simp; omega⟩
      have c2 : Bx ((T ++ [44]).length + Z.length ≤ 1000000) := ⟨by simp; omega⟩
      have c3 : Bx (([] : Bs).length + Z.length ≤ 1000000) := ⟨by simp; omega⟩
      by_cases h0 : k = 0
      · subst h0
        obtain rfl : T = [] := by rw [hT.out]; rfl
        rw [if_pos rfl] at HN
        clear hT hTl c1 c2
        go_upto_region 4 with (first | (refine loadB (f := one (Value.int .i64)) hS rfl rfl rfl HB.out 0 0 ?_ Hx.out rfl ?_; omega; simp only [putW]) | (go_at_call 41; refine Calls.mono (HI.out hS) ?_; rintro _ w2 ⟨rfl, h2⟩; replace hS := hS.frame h2; clear h2; (try simp only [List.cons_append, List.nil_append] at hS); simp only [putW]) | (refine sumL (l := []) (m := Z) rfl rfl rfl rfl c3.out ?_; simp only [putW]) | (refine load1 hS rfl rfl rfl rfl ?_; simp only [putW]) | (refine loadAll hS rfl rfl rfl ?_ ?_; rfl; simp only [putW]) | (refine loadPart hS rfl rfl rfl ?_ rfl ?_; rfl; simp only [putW]) | (refine store1 hS rfl rfl rfl rfl rfl ?_ ?_; (focus (simp; done)); clear hS; intro w hS; simp only [evW, putW] at hS; try simp only [putW]) | (refine storeAll hS rfl rfl rfl rfl ?_ ?_ ?_ ?_; rfl; (focus (simp [Value.oneCell']; done)); rfl; clear hS; intro w hS; try simp only [putW]) | (refine storeN hS rfl rfl rfl rfl ?_ ?_ ?_ ?_; rfl; (focus (simp [Value.oneCell']; done)); (focus (simp; done)); clear hS; intro w hS; simp at hS; try simp only [putW]) | (refine alloc hS rfl rfl ?_; clear hS; intro mb w hS; simp only [putW]) | (refine box1 hS rfl rfl rfl rfl ?_; clear hS; intro mb w hS; try simp only [evW, putW] at hS; simp only [putW]) | (refine boxN hS rfl rfl rfl ?_; clear hS; intro mb w hS; simp only [putW]))
        rw [List.nil_append]
        go_wp2_with (first | (refine load1 hS rfl rfl rfl rfl ?_; simp only [putW]) | (refine loadAll hS rfl rfl rfl ?_ ?_; rfl; simp only [putW]) | (refine loadPart hS rfl rfl rfl ?_ rfl ?_; rfl; simp only [putW]) | (refine store1 hS rfl rfl rfl rfl rfl ?_ ?_; (focus (simp; done)); clear hS; intro w hS; simp only [evW, putW] at hS; try simp only [putW]) | (refine storeAll hS rfl rfl rfl rfl ?_ ?_ ?_ ?_; rfl; (focus (simp [Value.oneCell']; done)); rfl; clear hS; intro w hS; try simp only [putW]) | (refine storeN hS rfl rfl rfl rfl ?_ ?_ ?_ ?_; rfl; (focus (simp [Value.oneCell']; done)); (focus (simp; done)); clear hS; intro w hS; simp at hS; try simp only [putW]) | (refine alloc hS rfl rfl ?_; clear hS; intro mb w hS; simp only [putW]) | (refine box1 hS rfl rfl rfl rfl ?_; clear hS; intro mb w hS; try simp only [evW, putW] at hS; simp only [putW]) | (refine boxN hS rfl rfl rfl ?_; clear hS; intro mb w hS; simp only [putW]))
        go_roundw
        case rel => exact ⟨1, Z, by omega, by go_num, rfl, ⟨HN.out.symm⟩, hS⟩
        case measure => simp only [intOf]; omega
      · rw [if_neg h0] at HN
        have hk0 : 0 < k := by omega
        clear hT hTl c3 h0
        go_upto_region 4 with (first | (refine sumL (l := T) (m := [44]) rfl rfl rfl rfl c1.out ?_; simp only [putW]) | (refine loadB (f := one (Value.int .i64)) hS rfl rfl rfl HB.out k 0 ?_ Hx.out rfl ?_; omega; simp only [putW]) | (go_at_call 41; refine Calls.mono (HI.out hS) ?_; rintro _ w2 ⟨rfl, h2⟩; replace hS := hS.frame h2; clear h2; (try simp only [List.cons_append, List.nil_append] at hS); simp only [putW]) | (refine sumL (l := T ++ [44]) (m := Z) rfl rfl rfl rfl c2.out ?_; simp only [putW]) | (refine load1 hS rfl rfl rfl rfl ?_; simp only [putW]) | (refine loadAll hS rfl rfl rfl ?_ ?_; rfl; simp only [putW]) | (refine loadPart hS rfl rfl rfl ?_ rfl ?_; rfl; simp only [putW]) | (refine store1 hS rfl rfl rfl rfl rfl ?_ ?_; (focus (simp; done)); clear hS; intro w hS; simp only [evW, putW] at hS; try simp only [putW]) | (refine storeAll hS rfl rfl rfl rfl ?_ ?_ ?_ ?_; rfl; (focus (simp [Value.oneCell']; done)); rfl; clear hS; intro w hS; try simp only [putW]) | (refine storeN hS rfl rfl rfl rfl ?_ ?_ ?_ ?_; rfl; (focus (simp [Value.oneCell']; done)); (focus (simp; done)); clear hS; intro w hS; simp at hS; try simp only [putW]) | (refine alloc hS rfl rfl ?_; clear hS; intro mb w hS; simp only [putW]) | (refine box1 hS rfl rfl rfl rfl ?_; clear hS; intro mb w hS; try simp only [evW, putW] at hS; simp only [putW]) | (refine boxN hS rfl rfl rfl ?_; clear hS; intro mb w hS; simp only [putW]))
        generalize T ++ [44] ++ Z = U at HN ⊢
        go_wp2_with (first | (refine load1 hS rfl rfl rfl rfl ?_; simp only [putW]) | (refine loadAll hS rfl rfl rfl ?_ ?_; rfl; simp only [putW]) | (refine loadPart hS rfl rfl rfl ?_ rfl ?_; rfl; simp only [putW]) | (refine store1 hS rfl rfl rfl rfl rfl ?_ ?_; (focus (simp; done)); clear hS; intro w hS; simp only [evW, putW] at hS; try simp only [putW]) | (refine storeAll hS rfl rfl rfl rfl ?_ ?_ ?_ ?_; rfl; (focus (simp [Value.oneCell']; done)); rfl; clear hS; intro w hS; try simp only [putW]) | (refine storeN hS rfl rfl rfl rfl ?_ ?_ ?_ ?_; rfl; (focus (simp [Value.oneCell']; done)); (focus (simp; done)); clear hS; intro w hS; simp at hS; try simp only [putW]) | (refine alloc hS rfl rfl ?_; clear hS; intro mb w hS; simp only [putW]) | (refine box1 hS rfl rfl rfl rfl ?_; clear hS; intro mb w hS; try simp only [evW, putW] at hS; simp only [putW]) | (refine boxN hS rfl rfl rfl ?_; clear hS; intro mb w hS; simp only [putW]))
        go_roundw
        case rel => exact ⟨k + 1, U, by omega, by go_num, rfl, ⟨HN.out.symm⟩, hS⟩
        case measure => simp only [intOf]; omega
    · have HD : Bx (fatesL A = T) := ⟨by rw [hT.out, List.take_of_length_le (by omega)]; rfl⟩
      clear hT
      go_wp2_with (first | (refine load1 hS rfl rfl rfl rfl ?_; simp only [putW]) | (refine loadAll hS rfl rfl rfl ?_ ?_; rfl; simp only [putW]) | (refine loadPart hS rfl rfl rfl ?_ rfl ?_; rfl; simp only [putW]) | (refine store1 hS rfl rfl rfl rfl rfl ?_ ?_; (focus (simp; done)); clear hS; intro w hS; simp only [evW, putW] at hS; try simp only [putW]) | (refine storeAll hS rfl rfl rfl rfl ?_ ?_ ?_ ?_; rfl; (focus (simp [Value.oneCell']; done)); rfl; clear hS; intro w hS; try simp only [putW]) | (refine storeN hS rfl rfl rfl rfl ?_ ?_ ?_ ?_; rfl; (focus (simp [Value.oneCell']; done)); (focus (simp; done)); clear hS; intro w hS; simp at hS; try simp only [putW]) | (refine alloc hS rfl rfl ?_; clear hS; intro mb w hS; simp only [putW]) | (refine box1 hS rfl rfl rfl rfl ?_; clear hS; intro mb w hS; try simp only [evW, putW] at hS; simp only [putW]) | (refine boxN hS rfl rfl rfl ?_; clear hS; intro mb w hS; simp only [putW]))
      exact bodyPost_ret (v := str T) (by simp [results, Tryz.results43]) rfl ⟨by rw [HD.out], hS⟩
end
end Go.Proofs.YtpbjkfomdindnaaGreatDoor
namespace Go.Proofs.YtpbjkfomdindnaaGreatDoor
open Go.RowKit Go.Shelf Go.Proofs.YtpbjkfomdindnaaGreatDoor.Sl Go.Proofs.YtpbjkfomdindnaaGreatDoor.Jp Go.Proofs.YtpbjkfomdindnaaGreatDoor.Sc

section
variable {w0 w : World} {S F K : List Chunk} {vo vd vf : Value}
theorem rb_nil : RB w0 [] nilV := .inl ⟨rfl, .inl rfl⟩
theorem ri_nil : RI w0 [] nilV := .inl ⟨rfl, .inl rfl⟩
def bvo (s : St) (v : Value) : Value := if s.kind = 1 then (if s.okd = 2 then v else nilV) else nilV
def bvd (s : St) (v : Value) : Value := if s.kind = 8 then v else nilV
def bvf (s : St) (v : Value) : Value := if s.kind = 7 then v else nilV
theorem bare_rst {w : World} {s : St} (hR : RSt w s vo vd vf) : RSt w (bareS s) (bvo s vo) (bvd s vd) (bvf s vf) := by
  obtain ⟨k, a, b, okd, pg, od, bt, da, fa⟩ := s
  have hn := rb_nil (w0 := w)
  have hm := ri_nil (w0 := w)
  have hz : (0 : Nat) < 18446744073709551616 := by decide
  obtain ⟨h1, h2, h3, h4⟩ := hR
  unfold bvo bvd bvf bareS bareO
  simp only at *
  by_cases k1 : k = 1
  · subst k1
    simp only [Int.reduceEq, reduceIte, or_false]
    by_cases o1 : okd = 1
    · subst o1; exact ⟨hn, hn, hm, hz⟩
    · by_cases o2 : okd = 2
      · subst o2; exact ⟨h1, hn, hm, hz⟩
      · by_cases o5 : okd = 5
        · subst o5; exact ⟨hn, hn, hm, h4⟩
        · simp only [o1, o2, o5, if_false]; exact ⟨hn, hn, hm, hz⟩
  · simp only [k1, if_false]
    by_cases k8 : k = 8
    · subst k8; exact ⟨hn, h2, hm, hz⟩
    · by_cases k7 : k = 7
      · subst k7; exact ⟨hn, hn, h3, hz⟩
      · by_cases k12 : k = 12
        · subst k12; exact ⟨hn, hn, hm, h4⟩
        · simp only [k8, k7, k12, if_false]
          split
          · exact ⟨hn, hn, hm, hz⟩
          · split <;> exact ⟨hn, hn, hm, hz⟩
set_option maxRecDepth 100000 in
set_option maxHeartbeats 8000000 in
theorem bare_any {s : St} (h1 : 1 ≤ s.kind) (h2 : s.kind ≤ 12) (hok : s.kind = 1 → 1 ≤ s.okd ∧ s.okd ≤ 6) (hR : RSt w0 s vo vd vf) :
    Calls Tryz.prog 68 #[.agg (stC s vo vd vf)] w0 fun e w' => e = .returned (.agg (stC (bareS s) (bvo s vo) (bvd s vd) (bvf s vf))) ∧ Sat w0 [] w' := by
  have hS := Sat.refl w0
  obtain ⟨po, co, rfl, -⟩ := BSl.at hR.od
  obtain ⟨pd, cd, rfl, -⟩ := BSl.at hR.da
  obtain ⟨pq, cf, rfl, -⟩ := BSl.at hR.fa
  clear hR
  obtain ⟨k, a, b, okd, pg, od, bt, da, fa⟩ := s
  simp only at h1 h2 hok
  generalize od.length = lo 
  generalize da.length = ld 
  generalize fa.length = lf 
  rcases kinds12 h1 h2 with rfl | rfl | rfl | rfl | rfl | rfl | rfl | rfl | rfl | rfl | rfl | rfl
  case' inl => rcases kinds6 (hok rfl).1 (hok rfl).2 with rfl | rfl | rfl | rfl | rfl | rfl
  all_goals
    clear h1 h2 hok
    go_enter Tryz.func68, Tryz.ntmps68
    go_wp2_with (first | (guard_target =~ wpList _ _ _ (Oper.mk (some 1) _ _ _ _ _ :: _) _ _; refine boxN hS rfl rfl rfl ?_; clear hS; intro sb w hS; simp only [putW]) | (guard_target =~ wpList _ _ _ (Oper.mk (some 2) _ _ _ _ _ :: _) _ _; refine alloc hS rfl rfl ?_; clear hS; intro rb w hS; simp only [putW]) | (guard_target =~ wpList _ _ _ (Oper.mk (some 3) _ _ _ _ _ :: _) _ _; refine alloc hS rfl rfl ?_; clear hS; intro ob w hS; simp only [putW]) | (refine load1 hS rfl rfl rfl rfl ?_; simp only [putW]) | (refine loadAll hS rfl rfl rfl ?_ ?_; rfl; simp only [putW]) | (refine loadPart hS rfl rfl rfl ?_ rfl ?_; rfl; simp only [putW]) | (refine store1 hS rfl rfl rfl rfl rfl ?_ ?_; (focus (simp; done)); clear hS; intro w hS; simp only [evW, putW] at hS; try simp only [putW]) | (refine storeAll hS rfl rfl rfl rfl ?_ ?_ ?_ ?_; rfl; (focus (simp [Value.oneCell']; done)); rfl; clear hS; intro w hS; try simp only [putW]) | (refine storeN hS rfl rfl rfl rfl ?_ ?_ ?_ ?_; rfl; (focus (simp [Value.oneCell']; done)); (focus (simp; done)); clear hS; intro w hS; simp at hS; try simp only [putW]) | (refine alloc hS rfl rfl ?_; clear hS; intro mb w hS; simp only [putW]) | (refine box1 hS rfl rfl rfl rfl ?_; clear hS; intro mb w hS; try simp only [evW, putW] at hS; simp only [putW]) | (refine boxN hS rfl rfl rfl ?_; clear hS; intro mb w hS; simp only [putW]))
    have hload := run_loadAll (P := Tryz.prog) hS rb 29 rfl
    exact bodyPost_ret (v := .agg _) (by simp [results, Tryz.results68, asAddr, hload]; exact ⟨rfl, rfl, rfl, rfl, rfl, rfl, rfl, rfl, rfl⟩) rfl ⟨rfl, hS.nothing⟩
end
end Go.Proofs.YtpbjkfomdindnaaGreatDoor
