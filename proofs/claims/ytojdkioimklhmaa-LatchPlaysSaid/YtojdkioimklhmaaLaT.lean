/-
  latch: a latch, the table; grant, Holds, Waits, New.
-/
import Derived.Test.YtojdkioimklhmaaLaDel2
import Derived.Test.YtojdkioimklhmaaSlKey
set_option linter.unusedSimpArgs false
set_option linter.unusedVariables false
namespace Go.Proofs.Ytojdkioimklhmaa
open Go.RowKit Go.Proofs.Ytojdkioimklhmaa.Sl

instance tyEmpty : Ty Try.prog 53 true 0 (.agg #[]) #[] := Ty.mk' (by kernel_rfl) rfl rfl
instance keyInt : KeyEnc Try.prog 3 encInt := encInt_ok Try.underlying3
def uV (_ : Unit) : Value := .agg #[]
/-- A latch: who has it, whether alone, who waits. -/
structure LtP where
  has : List (Int × Unit)
  alone : Bool
  queue : List Rq
def lt0P : LtP := ⟨[], false, []⟩
def ltCh (P : LtP) (hb : Nat) (vq : Value) (a : Nat) : List Chunk := [(a, cells #[.map (some hb), .bool P.alone, vq] 58), (hb, mapC encInt uV P.has), (blk vq, qC P.queue vq)]
def LtC (P : LtP) : K := fun a h => ∃ hb vq, holds (ltCh P hb vq a) h
/-- A latch under its pointer. -/
abbrev LtV := Option Nat × LtP
def ltV (x : LtV) : Value := .pointer (x.1.map fun a => ⟨a, 0, none⟩)
abbrev lt0 : LtV := (none, lt0P)
abbrev Lts := List (Int × LtV)
abbrev PLts := List (Int × LtP)
abbrev Wts := List (Int × Int)
def strip (LL : Lts) : PLts := LL.map fun e => (e.1, e.2.2)
def ltsL (LL : Lts) : List Chunk := LL.map fun e => (e.2.1.getD 0, LtC e.2.2)
def ltsC (LL : Lts) : K := fun _ h => holds (ltsL LL) h
def LtOk (LL : Lts) : Prop := ∀ e ∈ LL, ∃ a, e.2.1 = some a
def tabL (LL : Lts) (W : Wts) (lm wm t : Nat) : List Chunk := [(t, cells #[.map (some lm), .map (some wm)] 51), (lm, mapC encInt ltV LL), (8, ltsC LL), (wm, mapC encInt (Value.int .i64) W)]
/-- The table. -/
def TabC (PL : PLts) (W : Wts) : K := fun t h => ∃ LL lm wm, (strip LL = PL ∧ LtOk LL) ∧ holds (tabL LL W lm wm t) h
/-- What grant does. -/
def grantP (P : LtP) : Option (Int × LtP) := match P.queue with
  | [] => none
  | r :: q => if P.alone = true ∨ (r.2 = true ∧ 0 < P.has.length) then none else some (r.1, ⟨mput P.has r.1 (), r.2, q⟩)
theorem findL_strip (key : Int) : ∀ (LL : Lts) (i : Nat), findL (strip LL) key i = (findL LL key i).map fun p => (p.1, p.2.2) := fun LL i => findL_map (fun x : LtV => x.2) LL key i
theorem mget_strip (LL : Lts) (key : Int) : mget (strip LL) key = (mget LL key).map (·.2) := by
  unfold mget
  rw [findL_strip, Option.map_map, Option.map_map]
  rfl
theorem mput_strip (LL : Lts) (key : Int) (x : LtV) : strip (mput LL key x) = mput (strip LL) key x.2 := by
  unfold mput
  rw [findL_strip]
  cases findL LL key 0 with
  | none => simp [strip]
  | some p => simp [strip, List.map_set]
theorem mkeys_strip (LL : Lts) : mkeys (strip LL) = mkeys LL := by
  unfold mkeys strip
  rw [List.map_map]
  rfl
theorem lt_split {LL : Lts} {key : Int} {x : LtV} (h : mget LL key = some x) : ∃ L1 L2, LL = L1 ++ (key, x) :: L2 ∧ ∀ y, mput LL key y = L1 ++ (key, y) :: L2 := by
  unfold mget at h
  cases hf : findL LL key 0 with
  | none => rw [hf] at h; cases h
  | some p =>
    obtain ⟨i, u⟩ := p
    rw [hf] at h
    have hu : u = x := by simpa using h
    subst hu
    have hi := findL_some hf
    have hlt := (List.getElem?_eq_some_iff.1 hi).1
    refine ⟨LL.take i, LL.drop (i + 1), split_get hi, fun y => ?_⟩
    unfold mput
    rw [hf]
    show LL.set i (key, y) = _
    rw [List.set_eq_take_append_cons_drop, if_pos hlt]
theorem mput_new {LL : Lts} {key : Int} (h : mget LL key = none) (y : LtV) : mput LL key y = LL ++ [(key, y)] := by
  have h1 : findL LL key 0 = none := by
    unfold mget at h
    simpa using h
  unfold mput
  rw [h1]
section
variable {w0 w : World} {K F S : List Chunk} {a t : Nat} {P : LtP} {PL : PLts} {LL L1 L2 : Lts} {W : Wts} {key task : Int}
theorem ltOpen (h : Sat w0 ((a, LtC P) :: F) w) : ∃ hb vq, Sat w0 ((a, cells #[.map (some hb), .bool P.alone, vq] 58) :: (hb, mapC encInt uV P.has) :: (blk vq, qC P.queue vq) :: F) w := by
  obtain ⟨hb, h⟩ := h.ex (Z := fun hb a h => ∃ vq, holds (ltCh P hb vq a) h) fun _ h => h
  obtain ⟨vq, h⟩ := h.ex (Z := fun vq a h => holds (ltCh P hb vq a) h) fun _ h => h
  exact ⟨hb, vq, h.open (T := ltCh P hb vq a) fun _ h => h⟩
theorem ltShut {hb : Nat} {vq : Value} (h : Sat w0 ((a, cells #[.map (some hb), .bool P.alone, vq] 58) :: (hb, mapC encInt uV P.has) :: (blk vq, qC P.queue vq) :: F) w) : Sat w0 ((a, LtC P) :: F) w :=
  Sat.close (T := ltCh P hb vq a) (F := F) h fun _ h => ⟨hb, vq, h⟩
theorem tabOpen (h : Sat w0 ((t, TabC PL W) :: F) w) : ∃ LL lm wm, (strip LL = PL ∧ LtOk LL) ∧ Sat w0 ((t, cells #[.map (some lm), .map (some wm)] 51) :: (lm, mapC encInt ltV LL) :: (8, ltsC LL) :: (wm, mapC encInt (Value.int .i64) W) :: F) w := by
  obtain ⟨LL, h⟩ := h.ex (Z := fun LL t h => ∃ lm wm, (strip LL = PL ∧ LtOk LL) ∧ holds (tabL LL W lm wm t) h) fun _ h => h
  obtain ⟨lm, h⟩ := h.ex (Z := fun lm t h => ∃ wm, (strip LL = PL ∧ LtOk LL) ∧ holds (tabL LL W lm wm t) h) fun _ h => h
  obtain ⟨wm, h⟩ := h.ex (Z := fun wm t h => (strip LL = PL ∧ LtOk LL) ∧ holds (tabL LL W lm wm t) h) fun _ h => h
  obtain ⟨hp, h⟩ := h.and (Y := fun t h => holds (tabL LL W lm wm t) h) fun _ h => h
  exact ⟨LL, lm, wm, hp, h.open (T := tabL LL W lm wm t) fun _ h => h⟩
theorem tabShut {lm wm : Nat} (hs : strip LL = PL) (ho : LtOk LL) (h : Sat w0 ((t, cells #[.map (some lm), .map (some wm)] 51) :: (lm, mapC encInt ltV LL) :: (8, ltsC LL) :: (wm, mapC encInt (Value.int .i64) W) :: F) w) : Sat w0 ((t, TabC PL W) :: F) w :=
  Sat.close (T := tabL LL W lm wm t) (F := F) h fun _ h => ⟨LL, lm, wm, ⟨hs, ho⟩, h⟩
theorem ltsPull {j : Nat} {x : LtV} (h : Sat w0 ((j, ltsC (L1 ++ (key, x) :: L2)) :: F) w) : Sat w0 ((x.1.getD 0, LtC x.2) :: (j, ltsC (L1 ++ L2)) :: F) w := by
  have h1 : Sat w0 (ltsL (L1 ++ (key, x) :: L2) ++ F) w := h.open fun _ h => h
  have e : (ltsL (L1 ++ (key, x) :: L2) ++ F).Perm ((x.1.getD 0, LtC x.2) :: (ltsL (L1 ++ L2) ++ F)) := by
    unfold ltsL
    simp only [List.map_append, List.map_cons, List.append_assoc, List.cons_append]
    exact List.perm_middle
  have h2 := h1.perm e
  have h3 : Sat w0 (ltsL (L1 ++ L2) ++ ((x.1.getD 0, LtC x.2) :: F)) w := h2.perm List.perm_middle.symm
  exact (Sat.close (b := j) (X := ltsC (L1 ++ L2)) h3 fun _ h => h).perm (List.Perm.swap _ _ _)
theorem ltsPush {j : Nat} (key : Int) (x : LtV) (h : Sat w0 ((x.1.getD 0, LtC x.2) :: (j, ltsC (L1 ++ L2)) :: F) w) : Sat w0 ((j, ltsC (L1 ++ (key, x) :: L2)) :: F) w := by
  have h1 : Sat w0 ((j, ltsC (L1 ++ L2)) :: (x.1.getD 0, LtC x.2) :: F) w := h.perm (List.Perm.swap _ _ _)
  have h2 : Sat w0 (ltsL (L1 ++ L2) ++ ((x.1.getD 0, LtC x.2) :: F)) w := h1.open fun _ h => h
  refine Sat.close (T := ltsL (L1 ++ (key, x) :: L2)) (h2.perm ?_) fun _ h => h
  unfold ltsL
  simp only [List.map_append, List.map_cons, List.append_assoc, List.cons_append]
  exact List.Perm.append_left _ List.perm_middle
theorem ltsPerm {j : Nat} {LL' : Lts} (hp : LL.Perm LL') (h : Sat w0 ((j, ltsC LL) :: F) w) : Sat w0 ((j, ltsC LL') :: F) w :=
  h.turn fun _ hh => holds_perm (hp.map _) hh
theorem mapSame' {κ β : Type} {enc : κ → Value} {ve : β → Value} {l l' : List (κ × β)} {b : Nat} (h1 : l.map (fun p => (enc p.1, ve p.2)) = l'.map (fun p => (enc p.1, ve p.2))) (h2 : mkeys l = mkeys l') (h : Sat w0 ((b, mapC enc ve l) :: F) w) : Sat w0 ((b, mapC enc ve l') :: F) w :=
  h.turn fun _ ⟨es, clk, a1, a2, a3, a4⟩ => ⟨es, clk, a1, a2.trans h1, a3, h2 ▸ a4⟩
/-- A cell is read, its place known by a number. -/
theorem load1i {ops : Array Oper} {rest : List Oper} {o : Oper} {ac : Act} {Q : Exit → Act → World → Prop} {b p p' : Nat} {cur : Array Value} {tb ty0 : TypeId} {x : Operand} {v zv : Value} {z : Array Value} {n : Nat} (hS : Sat w0 S w) (hw : Region.wanted o (yielded ops ac.tmps) = true) (ho : o.op = .load ty0 x) (hx : ac.eval x = .pointer (some ⟨b, p, none⟩))
    [ty : Ty Try.prog ty0 false n zv z] [Pull S b (cells cur tb) F] (hp : p = p') (hc : cur[p']? = some v)
    (kk : wpList Try.prog ops Q rest (ac.put o.dst v) w) : wpList Try.prog ops Q (o :: rest) ac w := by
  subst hp
  exact load1 hS hw ho hx (b := b) (c := cur) (tb := tb) hc kk
set_option maxRecDepth 100000 in
set_option maxHeartbeats 4000000 in
theorem grant_any (hS : Sat w0 ((a, LtC P) :: K) w) : Calls Try.prog 23 #[.pointer (some ⟨a, 0, none⟩)] w fun e w' =>
    (grantP P = none ∧ e = .returned (.tuple #[.int .i64 0, .bool false]) ∧ Sat w0 ((a, LtC P) :: K) w') ∨ ∃ k P', grantP P = some (k, P') ∧ e = .returned (.tuple #[.int .i64 k, .bool true]) ∧ Sat w0 ((a, LtC P') :: K) w' := by
  obtain ⟨hb, vq, hS1⟩ := ltOpen hS
  clear hS
  obtain ⟨has, al, queue⟩ := P
  cases queue with
  | nil =>
    have hS : Sat w0 ((a, cells #[.map (some hb), .bool al, vq] 58) :: (hb, mapC encInt uV has) :: (blk vq, qC [] vq) :: K) w := hS1
    clear hS1
    obtain ⟨q0, c0, hv⟩ := qShape (n := 0) (hS.tail.tail) rfl
    subst hv
    go_enter Try.func23, Try.ntmps23
    go_wp2_with (first | (refine load1 hS rfl rfl rfl rfl ?_; simp only [putW]) | (refine loadAll hS rfl rfl rfl ?_ ?_; rfl; simp only [putW]) | (refine loadPart hS rfl rfl rfl ?_ rfl ?_; rfl; simp only [putW]) | (refine store1 hS rfl rfl rfl rfl rfl ?_ ?_; (focus (simp; done)); clear hS; intro w hS; simp only [evW, putW] at hS; try simp only [putW]) | (refine storeAll hS rfl rfl rfl rfl ?_ ?_ ?_ ?_; rfl; (focus (simp [Value.oneCell']; done)); rfl; clear hS; intro w hS; try simp only [putW]) | (refine storeN hS rfl rfl rfl rfl ?_ ?_ ?_ ?_; rfl; (focus (simp [Value.oneCell']; done)); (focus (simp; done)); clear hS; intro w hS; simp at hS; try simp only [putW]) | (refine alloc hS rfl rfl ?_; clear hS; intro mb w hS; simp only [putW]) | (refine box1 hS rfl rfl rfl rfl ?_; clear hS; intro mb w hS; try simp only [evW, putW] at hS; simp only [putW]) | (refine boxN hS rfl rfl rfl ?_; clear hS; intro mb w hS; simp only [putW]))
    refine bodyPost_ret (v := .tuple #[.int .i64 0, .bool false]) (by simp [results, Try.results23]) rfl (.inl ⟨rfl, rfl, ltShut (P := ⟨has, al, []⟩) hS⟩)
  | cons r q =>
    have hS2 : Sat w0 ((blk vq, qC (r :: q) vq) :: (a, cells #[.map (some hb), .bool al, vq] 58) :: (hb, mapC encInt uV has) :: K) w := hS1.conv
    clear hS1
    obtain ⟨b0, hb0⟩ : ∃ b0, blk vq = b0 := ⟨_, rfl⟩
    rw [hb0] at hS2
    rcases qOpen hS2 with ⟨-, h, -⟩ | ⟨off, cap, cur, hv, hq, hS3⟩
    · cases h
    · obtain ⟨n, hn⟩ : ∃ n, q.length + 1 = n := ⟨_, rfl⟩
      have hv2 : vq = .slice (some ⟨b0, off, none⟩) n cap := by rw [← hn]; exact hv
      subst hv2
      have Hn : Bx _ := ⟨hn⟩
      have HQ : Bx _ := ⟨hq⟩
      have hn0 : 0 < n := by omega
      have hS := hS3
      clear hS2 hS3 hb0 hv hn hq
      obtain ⟨r1, r2⟩ := r
      have HR := Lib.hid (HQ.out.has 0 (r1, r2) rfl)
      have HEnd : ∀ {w' : World}, Sat w0 ((b0, cells cur 61) :: (a, cells #[.map (some hb), .bool al, .slice (some ⟨b0, off, none⟩) n cap] 58) :: (hb, mapC encInt uV has) :: K) w' → Sat w0 ((a, LtC ⟨has, al, (r1, r2) :: q⟩) :: K) w' := fun h =>
        ltShut (P := ⟨has, al, (r1, r2) :: q⟩) (hb := hb) (vq := .slice (some ⟨b0, off, none⟩) n cap) (qShut h HQ.out Hn.out).conv
      have dn0 : ((n : Int) == 0) = false := by simp; omega
      have dlt : (0 : Int) < (n : Int) := by omega
      cases al with
      | true =>
        go_enter Try.func23, Try.ntmps23
        go_wp2_with (first | (refine load1 hS rfl rfl rfl rfl ?_; simp only [putW]) | (refine loadAll hS rfl rfl rfl ?_ ?_; rfl; simp only [putW]) | (refine loadPart hS rfl rfl rfl ?_ rfl ?_; rfl; simp only [putW]) | (refine store1 hS rfl rfl rfl rfl rfl ?_ ?_; (focus (simp; done)); clear hS; intro w hS; simp only [evW, putW] at hS; try simp only [putW]) | (refine storeAll hS rfl rfl rfl rfl ?_ ?_ ?_ ?_; rfl; (focus (simp [Value.oneCell']; done)); rfl; clear hS; intro w hS; try simp only [putW]) | (refine storeN hS rfl rfl rfl rfl ?_ ?_ ?_ ?_; rfl; (focus (simp [Value.oneCell']; done)); (focus (simp; done)); clear hS; intro w hS; simp at hS; try simp only [putW]) | (refine alloc hS rfl rfl ?_; clear hS; intro mb w hS; simp only [putW]) | (refine box1 hS rfl rfl rfl rfl ?_; clear hS; intro mb w hS; try simp only [evW, putW] at hS; simp only [putW]) | (refine boxN hS rfl rfl rfl ?_; clear hS; intro mb w hS; simp only [putW]))
        refine bodyPost_ret (v := .tuple #[.int .i64 0, .bool false]) (by simp [results, Try.results23]) rfl (.inl ⟨by simp [grantP], rfl, HEnd hS⟩)
      | false =>
        obtain ⟨nh, hnh⟩ : ∃ n, has.length = n := ⟨_, rfl⟩
        have Hnh : Bx _ := ⟨hnh⟩
        clear hnh
        by_cases hbusy : r2 = true ∧ 0 < nh
        · obtain ⟨rfl, hpos⟩ := hbusy
          have hG : Bx (grantP ⟨has, false, (r1, true) :: q⟩ = none) := ⟨by
            unfold grantP
            exact if_pos (.inr ⟨rfl, by rw [Hnh.out]; exact hpos⟩)⟩
          have dp : decide ((0 : Int) < (nh : Int)) = true := decide_eq_true (by omega)
          go_enter Try.func23, Try.ntmps23
          go_wp2_with (first | (refine load1i (b := b0) (p' := off + 2 * 0 + 1) (cur := cur) hS rfl rfl rfl ?_ HR.out.2 ?_; (focus omega); simp only [putW]) | (refine lenMap (enc := encInt) (ve := uV) (l := has) hS rfl rfl rfl ?_; rw [Hnh.out]; simp only [putW]) | (refine load1 hS rfl rfl rfl rfl ?_; simp only [putW]) | (refine loadAll hS rfl rfl rfl ?_ ?_; rfl; simp only [putW]) | (refine loadPart hS rfl rfl rfl ?_ rfl ?_; rfl; simp only [putW]) | (refine store1 hS rfl rfl rfl rfl rfl ?_ ?_; (focus (simp; done)); clear hS; intro w hS; simp only [evW, putW] at hS; try simp only [putW]) | (refine storeAll hS rfl rfl rfl rfl ?_ ?_ ?_ ?_; rfl; (focus (simp [Value.oneCell']; done)); rfl; clear hS; intro w hS; try simp only [putW]) | (refine storeN hS rfl rfl rfl rfl ?_ ?_ ?_ ?_; rfl; (focus (simp [Value.oneCell']; done)); (focus (simp; done)); clear hS; intro w hS; simp at hS; try simp only [putW]) | (refine alloc hS rfl rfl ?_; clear hS; intro mb w hS; simp only [putW]) | (refine box1 hS rfl rfl rfl rfl ?_; clear hS; intro mb w hS; try simp only [evW, putW] at hS; simp only [putW]) | (refine boxN hS rfl rfl rfl ?_; clear hS; intro mb w hS; simp only [putW]))
          refine bodyPost_ret (v := .tuple #[.int .i64 0, .bool false]) (by simp [results, Try.results23]) rfl (.inl ⟨hG.out, rfl, HEnd hS⟩)
        · have hG : Bx (grantP ⟨has, false, (r1, r2) :: q⟩ = some (r1, ⟨mput has r1 (), r2, q⟩)) := ⟨by
            unfold grantP
            refine if_neg fun h => ?_
            rcases h with h | ⟨h1, h2⟩
            · cases h
            · exact hbusy ⟨h1, by rw [← Hnh.out]; exact h2⟩⟩
          go_enter Try.func23, Try.ntmps23
          go_upto_region 1 with (first | (refine load1 hS rfl rfl rfl rfl ?_; simp only [putW]) | (refine loadAll hS rfl rfl rfl ?_ ?_; rfl; simp only [putW]) | (refine loadPart hS rfl rfl rfl ?_ rfl ?_; rfl; simp only [putW]) | (refine store1 hS rfl rfl rfl rfl rfl ?_ ?_; (focus (simp; done)); clear hS; intro w hS; simp only [evW, putW] at hS; try simp only [putW]) | (refine storeAll hS rfl rfl rfl rfl ?_ ?_ ?_ ?_; rfl; (focus (simp [Value.oneCell']; done)); rfl; clear hS; intro w hS; try simp only [putW]) | (refine storeN hS rfl rfl rfl rfl ?_ ?_ ?_ ?_; rfl; (focus (simp [Value.oneCell']; done)); (focus (simp; done)); clear hS; intro w hS; simp at hS; try simp only [putW]) | (refine alloc hS rfl rfl ?_; clear hS; intro mb w hS; simp only [putW]) | (refine box1 hS rfl rfl rfl rfl ?_; clear hS; intro mb w hS; try simp only [evW, putW] at hS; simp only [putW]) | (refine boxN hS rfl rfl rfl ?_; clear hS; intro mb w hS; simp only [putW]))
          go_cut [33] from 5 to 32 (fun v wc => v = .bool false ∧ Sat w0 ((b0, cells cur 61) :: (a, cells #[.map (some hb), .bool false, .slice (some ⟨b0, off, none⟩) n cap] 58) :: (hb, mapC encInt uV has) :: K) wc)
          case first =>
            cases r2 with
            | false =>
              go_wp2_with (first | (refine load1i (b := b0) (p' := off + 2 * 0 + 1) (cur := cur) hS rfl rfl rfl ?_ HR.out.2 ?_; (focus omega); simp only [putW]) | (refine load1 hS rfl rfl rfl rfl ?_; simp only [putW]) | (refine loadAll hS rfl rfl rfl ?_ ?_; rfl; simp only [putW]) | (refine loadPart hS rfl rfl rfl ?_ rfl ?_; rfl; simp only [putW]) | (refine store1 hS rfl rfl rfl rfl rfl ?_ ?_; (focus (simp; done)); clear hS; intro w hS; simp only [evW, putW] at hS; try simp only [putW]) | (refine storeAll hS rfl rfl rfl rfl ?_ ?_ ?_ ?_; rfl; (focus (simp [Value.oneCell']; done)); rfl; clear hS; intro w hS; try simp only [putW]) | (refine storeN hS rfl rfl rfl rfl ?_ ?_ ?_ ?_; rfl; (focus (simp [Value.oneCell']; done)); (focus (simp; done)); clear hS; intro w hS; simp at hS; try simp only [putW]) | (refine alloc hS rfl rfl ?_; clear hS; intro mb w hS; simp only [putW]) | (refine box1 hS rfl rfl rfl rfl ?_; clear hS; intro mb w hS; try simp only [evW, putW] at hS; simp only [putW]) | (refine boxN hS rfl rfl rfl ?_; clear hS; intro mb w hS; simp only [putW]))
              go_meet
              case rel => exact ⟨rfl, hS.conv⟩
            | true =>
              have hnh0 : nh = 0 := by
                rcases Nat.eq_zero_or_pos nh with h | h
                · exact h
                · exact absurd ⟨rfl, h⟩ hbusy
              subst hnh0
              clear hbusy
              go_wp2_with (first | (refine load1i (b := b0) (p' := off + 2 * 0 + 1) (cur := cur) hS rfl rfl rfl ?_ HR.out.2 ?_; (focus omega); simp only [putW]) | (refine lenMap (enc := encInt) (ve := uV) (l := has) hS rfl rfl rfl ?_; rw [Hnh.out]; simp only [putW]) | (refine load1 hS rfl rfl rfl rfl ?_; simp only [putW]) | (refine loadAll hS rfl rfl rfl ?_ ?_; rfl; simp only [putW]) | (refine loadPart hS rfl rfl rfl ?_ rfl ?_; rfl; simp only [putW]) | (refine store1 hS rfl rfl rfl rfl rfl ?_ ?_; (focus (simp; done)); clear hS; intro w hS; simp only [evW, putW] at hS; try simp only [putW]) | (refine storeAll hS rfl rfl rfl rfl ?_ ?_ ?_ ?_; rfl; (focus (simp [Value.oneCell']; done)); rfl; clear hS; intro w hS; try simp only [putW]) | (refine storeN hS rfl rfl rfl rfl ?_ ?_ ?_ ?_; rfl; (focus (simp [Value.oneCell']; done)); (focus (simp; done)); clear hS; intro w hS; simp at hS; try simp only [putW]) | (refine alloc hS rfl rfl ?_; clear hS; intro mb w hS; simp only [putW]) | (refine box1 hS rfl rfl rfl rfl ?_; clear hS; intro mb w hS; try simp only [evW, putW] at hS; simp only [putW]) | (refine boxN hS rfl rfl rfl ?_; clear hS; intro mb w hS; simp only [putW]))
              go_meet
              case rel => exact ⟨rfl, hS.conv⟩
          case rest =>
            clear hS hbusy
            obtain ⟨rfl, hS⟩ := hcut
            go_upto_region 5 with (first | (refine loadRq (b := b0) (k := 0) (q := (r1, r2)) hS rfl rfl rfl ?_ HR.out.1 HR.out.2 ?_; (focus omega); simp only [putW]) | (refine alloc (t := 61) hS rfl rfl ?_; clear hS; intro m4 w hS; simp only [putW]) | (refine storeAll (t := 61) (cs := #[.int .i64 r1, .bool r2]) hS rfl rfl rfl rfl ?_ ?_ ?_ ?_; (focus rfl); (focus (simp [Value.oneCell']; done)); (focus rfl); clear hS; intro w hS; try simp only [putW]) | (refine popQ (b := b0) (L := q) (q := (r1, r2)) (cur := cur) hS rfl rfl rfl rfl Hn.out HQ.out ?_; clear hS; intro v5 hS; obtain ⟨q5, c5, hv5⟩ := qShape hS rfl; subst hv5; simp only [putW]) | (refine load1 hS rfl rfl rfl rfl ?_; simp only [putW]) | (refine loadAll hS rfl rfl rfl ?_ ?_; rfl; simp only [putW]) | (refine loadPart hS rfl rfl rfl ?_ rfl ?_; rfl; simp only [putW]) | (refine store1 hS rfl rfl rfl rfl rfl ?_ ?_; (focus (simp; done)); clear hS; intro w hS; simp only [evW, putW] at hS; try simp only [putW]) | (refine storeAll hS rfl rfl rfl rfl ?_ ?_ ?_ ?_; rfl; (focus (simp [Value.oneCell']; done)); rfl; clear hS; intro w hS; try simp only [putW]) | (refine storeN hS rfl rfl rfl rfl ?_ ?_ ?_ ?_; rfl; (focus (simp [Value.oneCell']; done)); (focus (simp; done)); clear hS; intro w hS; simp at hS; try simp only [putW]) | (refine alloc hS rfl rfl ?_; clear hS; intro mb w hS; simp only [putW]) | (refine box1 hS rfl rfl rfl rfl ?_; clear hS; intro mb w hS; try simp only [evW, putW] at hS; simp only [putW]) | (refine boxN hS rfl rfl rfl ?_; clear hS; intro mb w hS; simp only [putW]))
            (refine region_upd hb (mapC encInt uV (mput has r1 ())) 7 hS (by kernel_rfl) (by kernel_rfl) (by kernel_rfl) (by kernel_rfl) ?_; clear hS; (repeat (first | (apply one_dep rfl; (focus (intro w hS; go_wp2_with (first | (refine mapUpdate (enc := encInt) (ve := uV) hS rfl rfl r1 () rfl rfl rfl ?_; clear hS; intro w hS; try simp only [putW]) | (refine load1 hS rfl rfl rfl rfl ?_; simp only [putW]) | (refine loadAll hS rfl rfl rfl ?_ ?_; rfl; simp only [putW]) | (refine loadPart hS rfl rfl rfl ?_ rfl ?_; rfl; simp only [putW])); exact ⟨rfl, rfl, hS⟩)); simp only [putW]) | (apply one_step rfl; (focus (intro w hS; go_wp2_with (first | (refine mapUpdate (enc := encInt) (ve := uV) hS rfl rfl r1 () rfl rfl rfl ?_; clear hS; intro w hS; try simp only [putW]) | (refine load1 hS rfl rfl rfl rfl ?_; simp only [putW]) | (refine loadAll hS rfl rfl rfl ?_ ?_; rfl; simp only [putW]) | (refine loadPart hS rfl rfl rfl ?_ rfl ?_; rfl; simp only [putW])); exact ⟨rfl, rfl, hS⟩)); (focus (intro w hS; go_wp2_with (first | (refine mapUpdate (enc := encInt) (ve := uV) hS rfl rfl r1 () rfl rfl rfl ?_; clear hS; intro w hS; try simp only [putW]) | (refine load1 hS rfl rfl rfl rfl ?_; simp only [putW]) | (refine loadAll hS rfl rfl rfl ?_ ?_; rfl; simp only [putW]) | (refine loadPart hS rfl rfl rfl ?_ rfl ?_; rfl; simp only [putW])); exact ⟨rfl, rfl, hS⟩)); simp only [putW]) | (refine one_here rfl (v := undef) ?_ ?_; (focus (intro w hS; go_wp2_with (first | (refine mapUpdate (enc := encInt) (ve := uV) hS rfl rfl r1 () rfl rfl rfl ?_; clear hS; intro w hS; try simp only [putW]) | (refine load1 hS rfl rfl rfl rfl ?_; simp only [putW]) | (refine loadAll hS rfl rfl rfl ?_ ?_; rfl; simp only [putW]) | (refine loadPart hS rfl rfl rfl ?_ rfl ?_; rfl; simp only [putW]) | (refine store1 hS rfl rfl rfl rfl rfl ?_ ?_; (focus (simp; done)); clear hS; intro w hS; simp only [evW, putW] at hS; try simp only [putW]) | (refine storeAll hS rfl rfl rfl rfl ?_ ?_ ?_ ?_; rfl; (focus (simp [Value.oneCell']; done)); rfl; clear hS; intro w hS; try simp only [putW]) | (refine storeN hS rfl rfl rfl rfl ?_ ?_ ?_ ?_; rfl; (focus (simp [Value.oneCell']; done)); (focus (simp; done)); clear hS; intro w hS; simp at hS; try simp only [putW]) | (refine alloc hS rfl rfl ?_; clear hS; intro mb w hS; simp only [putW]) | (refine box1 hS rfl rfl rfl rfl ?_; clear hS; intro mb w hS; try simp only [evW, putW] at hS; simp only [putW]) | (refine boxN hS rfl rfl rfl ?_; clear hS; intro mb w hS; simp only [putW])); (first | exact ⟨rfl, rfl, hS⟩ | exact ⟨rfl, rfl, hS.conv⟩))); simp only [putW]))); refine one_nil ?_; intro w hS)
            go_wp2_with (first | (refine load1 hS rfl rfl rfl rfl ?_; simp only [putW]) | (refine loadAll hS rfl rfl rfl ?_ ?_; rfl; simp only [putW]) | (refine loadPart hS rfl rfl rfl ?_ rfl ?_; rfl; simp only [putW]) | (refine store1 hS rfl rfl rfl rfl rfl ?_ ?_; (focus (simp; done)); clear hS; intro w hS; simp only [evW, putW] at hS; try simp only [putW]) | (refine storeAll hS rfl rfl rfl rfl ?_ ?_ ?_ ?_; rfl; (focus (simp [Value.oneCell']; done)); rfl; clear hS; intro w hS; try simp only [putW]) | (refine storeN hS rfl rfl rfl rfl ?_ ?_ ?_ ?_; rfl; (focus (simp [Value.oneCell']; done)); (focus (simp; done)); clear hS; intro w hS; simp at hS; try simp only [putW]) | (refine alloc hS rfl rfl ?_; clear hS; intro mb w hS; simp only [putW]) | (refine box1 hS rfl rfl rfl rfl ?_; clear hS; intro mb w hS; try simp only [evW, putW] at hS; simp only [putW]) | (refine boxN hS rfl rfl rfl ?_; clear hS; intro mb w hS; simp only [putW]))
            refine bodyPost_ret (v := .tuple #[.int .i64 r1, .bool true]) (by simp [results, Try.results23]) rfl (.inr ⟨r1, ⟨mput has r1 (), r2, q⟩, hG.out, rfl, ltShut (P := ⟨mput has r1 (), r2, q⟩) (hb := hb) (vq := .slice q5 q.length c5) hS.conv⟩)
end
end Go.Proofs.Ytojdkioimklhmaa
