/-
  What a cut of the power leaves: devices in plain words, for BaseWhole. It names no program.
  base.Boot in plain words, with images that wait; what a boot does to the three states of a commit. It names no program.
  opn: how a head is opened (version, blocks, code); mk: the mark of a head and images; dg: a block's digest. All numbers of blocks are the plan's: hd: the first block of the head, hs: how many, jn: the first block of the journal.
  Where the power stays, a boot goes through. It names no program.
  A job's steps in plain words, and what a cut in any of them leaves. It names no program.
  Any number of boots, cut anywhere, behind a job that was cut. It names no program.
  What a head and images make of the blocks beyond the homes: the journal of a commit. It names no program.
-/
import Derived.Test.YtdkimdobcacpfaaDoorDvPl
import Derived.Test.YtdkimdobcacpfaaDoorJPlain
set_option linter.unusedSimpArgs false
set_option linter.unusedVariables false
namespace Go.Proofs.YtdkimdobcacpfaaDoor.Dv
open Go.Proofs.YtdkimdobcacpfaaDoor.Sl Go.Proofs.YtdkimdobcacpfaaDoor.Tr

/-- Nothing waits for a block. -/
def Dev.still (D : Dev) (k : Nat) : Prop := ∀ x ∈ D.wt,x.1 ≠ k
theorem lastW_still : ∀ {l : List (Nat × Row)} {k : Nat},(∀ x ∈ l,x.1 ≠ k) → lastW l k = none
  | [],_,_ => rfl
  | (a,b)::l,k,h => by
    rw [lastW,lastW_still fun x hx => h x (by simp [hx])]
    simp only
    rw [if_neg (h (a,b) (by simp))]
theorem lastW_some : ∀ {l : List (Nat × Row)} {k : Nat},(∃ x ∈ l,x.1 = k) → ∃ r,lastW l k = some r
  | [],_,h => by obtain ⟨x,hx,_⟩ := h;cases hx
  | (a,b)::l,k,h => by
    rw [lastW]
    cases hl : lastW l k with
    | some r => exact ⟨r,rfl⟩
    | none =>
      obtain ⟨x,hx,he⟩ := h
      rcases List.mem_cons.1 hx with e | e
      · subst e;exact ⟨b,by simp only;rw [if_pos he]⟩
      · obtain ⟨r,hr⟩ := lastW_some ⟨x,e,he⟩
        rw [hl] at hr;cases hr
theorem now_still {D : Dev} {k : Nat} (h : D.still k) : D.now k = D.st.getD k [] := by
  unfold Dev.now
  rw [lastW_still h];rfl
theorem layP_still (F : List Int) : ∀ (l : List (Nat × Row)) (st : List Row) (i : Nat) {k : Nat},(∀ x ∈ l,x.1 ≠ k) → (layP F st i l).getD k [] = st.getD k []
  | [],_,_,_,_ => rfl
  | (a,b)::l,st,i,k,h => by
    rw [layP,layP_still F l _ (i + 1) fun x hx => h x (by simp [hx])]
    have hne : a ≠ k := h (a,b) (by simp)
    simp only [List.getD_eq_getElem?_getD]
    rw [List.getElem?_set_ne hne]
/-- The power comes back: what nothing waited for stays. -/
theorem on_still {D : Dev} {F : List Int} {k : Nat} (h : D.still k) : (D.on F).st.getD k [] = D.st.getD k [] := by
  unfold Dev.on
  split
  · exact layP_still F D.wt D.st 0 h
  · rfl
theorem on_len (D : Dev) (F : List Int) : (D.on F).st.length = D.st.length := by
  unfold Dev.on
  split
  · exact layP_length F D.wt D.st 0
  · rfl
theorem on_wt {D : Dev} (F : List Int) : ∀ x ∈ (D.on F).wt,x ∈ D.wt := by
  unfold Dev.on
  split
  · intro x hx;cases hx
  · exact fun x hx => hx
theorem write_st (D : Dev) (a : Int) (b : Row) : (D.write a b).1.st = D.st := by
  unfold Dev.write
  split
  · rfl
  · split <;> rfl
theorem write_wt {D : Dev} {a : Int} {b : Row} {x : Nat × Row} (h : x ∈ (D.write a b).1.wt) : x ∈ D.wt ∨ x = (a.toNat,b) := by
  unfold Dev.write at h
  split at h
  · exact .inl h
  · split at h
    · exact .inl h
    · rcases List.mem_append.1 h with h1 | h1
      · exact .inl h1
      · exact .inr (List.mem_singleton.1 h1)
theorem write_ok {D : Dev} {a : Int} {b : Row} (h : (D.write a b).2 = 0) : (D.write a b).1.wt = D.wt ++ [(a.toNat,b)] ∧ D.off = false ∧ (D.write a b).1.off = false := by
  unfold Dev.write at h ⊢
  split
  · rename_i hr
    rw [if_pos hr] at h
    exact absurd h hr
  · rename_i hr
    rw [if_neg hr] at h
    split
    · rename_i hl
      rw [if_pos hl] at h
      cases h
    · rename_i hl
      rw [if_neg hl] at h
      refine ⟨rfl,?_,?_⟩
      · have hr2 : D.ready a = 0 := Classical.byContradiction hr
        unfold Dev.ready at hr2
        cases ho : D.off with
        | false => rfl
        | true => rw [ho] at hr2;cases hr2
      · cases ho : (D.put a.toNat b).spend.off with
        | false => rfl
        | true =>
          simp only [ho] at h
          cases h
/-- Writes in a row, till one is refused. -/
def wrL (D : Dev) : List (Nat × Row) → Dev × Int
  | [] => (D,0)
  | (k,b)::l => if (D.write k b).2 ≠ 0 then D.write k b else wrL (D.write k b).1 l
theorem wrL_st : ∀ (l : List (Nat × Row)) (D : Dev),(wrL D l).1.st = D.st
  | [],_ => rfl
  | (k,b)::l,D => by
    rw [wrL]
    split
    · exact write_st D k b
    · rw [wrL_st l,write_st]
theorem wrL_wt : ∀ (l : List (Nat × Row)) (D : Dev) {x : Nat × Row},x ∈ (wrL D l).1.wt → x ∈ D.wt ∨ x ∈ l
  | [],_,_,h => .inl h
  | (k,b)::l,D,x,h => by
    rw [wrL] at h
    split at h
    · rcases write_wt h with h1 | h1
      · exact .inl h1
      · exact .inr (by rw [h1];simp)
    · rcases wrL_wt l _ h with h1 | h1
      · rcases write_wt h1 with h2 | h2
        · exact .inl h2
        · exact .inr (by rw [h2];simp)
      · exact .inr (by simp [h1])
theorem wrL_ok : ∀ (l : List (Nat × Row)) (D : Dev),(wrL D l).2 = 0 → (wrL D l).1.wt = D.wt ++ l
  | [],D,_ => by simp [wrL]
  | (k,b)::l,D,h => by
    rw [wrL] at h ⊢
    split
    · rename_i hr
      rw [if_pos hr] at h
      exact absurd h hr
    · rename_i hr
      rw [if_neg hr] at h
      have h1 : (D.write k b).2 = 0 := Classical.byContradiction hr
      rw [wrL_ok l _ h,(write_ok h1).1,List.append_assoc]
      simp
theorem flush_cases (D : Dev) : (D.flush.2 ≠ 0 ∧ D.flush.1.st = D.st ∧ D.flush.1.wt = D.wt) ∨ (D.flush.2 = 0 ∧ D.flush.1.st = lay D.st D.wt ∧ D.flush.1.wt = []) := by
  unfold Dev.flush
  split
  · exact .inl ⟨by simp,rfl,rfl⟩
  · split
    · exact .inl ⟨by simp,rfl,rfl⟩
    · exact .inr ⟨rfl,rfl,rfl⟩
theorem reg_cases (D : Dev) (R s : Rg) : (regWrite D R s).1.st = D.st ∧ (regWrite D R s).1.wt = D.wt ∧ (((regWrite D R s).2.2 ≠ 0 ∧ (regWrite D R s).2.1 = R) ∨ ((regWrite D R s).2.2 = 0 ∧ (regWrite D R s).2.1 = s)) := by
  unfold regWrite
  split
  · exact ⟨rfl,rfl,.inl ⟨by simp,rfl⟩⟩
  · split
    · split
      · exact ⟨rfl,rfl,.inl ⟨by simp,rfl⟩⟩
      · exact ⟨rfl,rfl,.inr ⟨rfl,rfl⟩⟩
    · exact ⟨rfl,rfl,.inl ⟨by simp,rfl⟩⟩
theorem lay_getD (l : List (Nat × Row)) (st : List Row) {k : Nat} (h : k < st.length) : (lay st l).getD k [] = (lastW l k).getD (st.getD k []) := by
  rw [List.getD_eq_getElem?_getD,lay_get l st k h];rfl

/-! ### Three states of a commit: homes 0 .. H-1; the images L go home; J is what stands beyond the homes -/
/-- Nothing has gone home. -/
structure Old (H : Nat) (old : Nat → Row) (D : Dev) : Prop where
  st : ∀ k,k < H → D.st.getD k [] = old k
  wt : ∀ x ∈ D.wt,H ≤ x.1
/-- Images go home; what is beyond the homes stands. -/
structure Mid (H : Nat) (old : Nat → Row) (L : List (Nat × Row)) (J : Nat → Row) (D : Dev) : Prop where
  st : ∀ k,k < H → (∀ x ∈ L,x.1 ≠ k) → D.st.getD k [] = old k
  jr : ∀ k,H ≤ k → D.st.getD k [] = J k
  wt : ∀ x ∈ D.wt,x ∈ L
section
variable {H : Nat} {old : Nat → Row} {L : List (Nat × Row)} {J : Nat → Row} {D D' : Dev}
theorem Old.same (h : Old H old D) (h1 : D'.st = D.st) (h2 : D'.wt = D.wt) : Old H old D' := ⟨by rw [h1];exact h.st,by rw [h2];exact h.wt⟩
theorem Mid.same (h : Mid H old L J D) (h1 : D'.st = D.st) (h2 : D'.wt = D.wt) : Mid H old L J D' := ⟨by rw [h1];exact h.st,by rw [h1];exact h.jr,by rw [h2];exact h.wt⟩
theorem Old.still (h : Old H old D) {k : Nat} (hk : k < H) : D.still k := fun x hx e => by have := h.wt x hx;omega
theorem Old.now (h : Old H old D) {k : Nat} (hk : k < H) : D.now k = old k := by rw [now_still (h.still hk),h.st k hk]
theorem Old.on (h : Old H old D) (F : List Int) : Old H old (D.on F) := ⟨fun k hk => by rw [on_still (h.still hk),h.st k hk],fun x hx => h.wt x (on_wt F x hx)⟩
theorem Old.crash (h : Old H old D) : Old H old D.crash := h.same rfl rfl
theorem Old.arm (h : Old H old D) (n : Int) : Old H old (D.arm n) := by
  unfold Dev.arm
  split
  · exact h
  · exact h.same rfl rfl
theorem Old.write (h : Old H old D) {a : Nat} (ha : H ≤ a) (b : Row) : Old H old (D.write a b).1 := ⟨by rw [write_st];exact h.st,fun x hx => by
  rcases write_wt hx with h1 | h1
  · exact h.wt x h1
  · rw [h1];simpa using ha⟩
theorem Old.flush (h : Old H old D) (hH : H ≤ D.st.length) : Old H old D.flush.1 := by
  rcases flush_cases D with ⟨-,h1,h2⟩ | ⟨-,h1,h2⟩
  · exact h.same h1 h2
  · refine ⟨fun k hk => ?_,by rw [h2];exact fun x hx => by cases hx⟩
    rw [h1,lay_getD _ _ (by omega),lastW_still (h.still hk)]
    exact h.st k hk
theorem Mid.beyond (h : Mid H old L J D) (hL : ∀ x ∈ L,x.1 < H) {k : Nat} (hk : H ≤ k) : D.still k := fun x hx e => by have := hL x (h.wt x hx);omega
/-- What is beyond the homes reads as it stands. -/
theorem Mid.nowJ (h : Mid H old L J D) (hL : ∀ x ∈ L,x.1 < H) {k : Nat} (hk : H ≤ k) : D.now k = J k := by rw [now_still (h.beyond hL hk),h.jr k hk]
theorem Mid.on (h : Mid H old L J D) (hL : ∀ x ∈ L,x.1 < H) (F : List Int) : Mid H old L J (D.on F) := ⟨fun k hk hn => by rw [on_still fun x hx => hn x (h.wt x hx),h.st k hk hn],fun k hk => by rw [on_still (h.beyond hL hk),h.jr k hk],fun x hx => h.wt x (on_wt F x hx)⟩
theorem Mid.crash (h : Mid H old L J D) : Mid H old L J D.crash := h.same rfl rfl
theorem Mid.arm (h : Mid H old L J D) (n : Int) : Mid H old L J (D.arm n) := by
  unfold Dev.arm
  split
  · exact h
  · exact h.same rfl rfl
theorem Mid.write (h : Mid H old L J D) {a : Nat} {b : Row} (ha : (a,b) ∈ L) : Mid H old L J (D.write a b).1 := ⟨by rw [write_st];exact h.st,by rw [write_st];exact h.jr,fun x hx => by
  rcases write_wt hx with h1 | h1
  · exact h.wt x h1
  · rw [h1];simpa using ha⟩
theorem Mid.writes (h : Mid H old L J D) : Mid H old L J (wrL D L).1 := ⟨by rw [wrL_st];exact h.st,by rw [wrL_st];exact h.jr,fun x hx => by
  rcases wrL_wt L D hx with h1 | h1
  · exact h.wt x h1
  · exact h1⟩
/-- Homes as they are to be. -/
def toBe (old : Nat → Row) (L : List (Nat × Row)) (k : Nat) : Row := (lastW L k).getD (old k)
/-- All images wait, or are stored; one flush more, and all homes are as they are to be. -/
theorem Mid.flush_done (h : Mid H old L J D) (hL : ∀ x ∈ L,x.1 < H) (hH : H ≤ D.st.length) {p : List (Nat × Row)} (hw : D.wt = p ++ L) (hf : D.flush.2 = 0) : Old H (toBe old L) D.flush.1 := by
  rcases flush_cases D with ⟨h0,-,-⟩ | ⟨-,h1,h2⟩
  · exact absurd hf h0
  · refine ⟨fun k hk => ?_,by rw [h2];exact fun x hx => by cases hx⟩
    rw [h1,lay_getD _ _ (by omega),hw,lastW_app]
    unfold toBe
    by_cases hm : ∃ x ∈ L,x.1 = k
    · obtain ⟨r,hr⟩ := lastW_some hm
      rw [hr];rfl
    · have hn : ∀ x ∈ L,x.1 ≠ k := fun x hx e => hm ⟨x,hx,e⟩
      have hp : lastW p k = none := lastW_still fun x hx => hn x (h.wt x (by rw [hw];exact List.mem_append_left _ hx))
      rw [lastW_still hn,hp]
      exact h.st k hk hn
theorem lay_still (l : List (Nat × Row)) (st : List Row) {k : Nat} (h : ∀ x ∈ l,x.1 ≠ k) : (lay st l).getD k [] = st.getD k [] := by
  by_cases hk : k < st.length
  · rw [lay_getD l st hk,lastW_still h];rfl
  · simp only [List.getD_eq_getElem?_getD]
    rw [List.getElem?_eq_none (by rw [lay_length];omega),List.getElem?_eq_none (by omega)]
theorem Mid.flush (h : Mid H old L J D) (hL : ∀ x ∈ L,x.1 < H) : Mid H old L J D.flush.1 := by
  rcases flush_cases D with ⟨-,h1,h2⟩ | ⟨-,h1,h2⟩
  · exact h.same h1 h2
  · exact ⟨fun k hk hn => by rw [h1,lay_still _ _ fun x hx => hn x (h.wt x hx)];exact h.st k hk hn,fun k hk => by rw [h1,lay_still _ _ (h.beyond hL hk)];exact h.jr k hk,by rw [h2];exact fun x hx => by cases hx⟩
theorem Mid.flush_cut (h : Mid H old L J D) (hf : D.flush.2 ≠ 0) : Mid H old L J D.flush.1 := by
  rcases flush_cases D with ⟨-,h1,h2⟩ | ⟨h0,-,-⟩
  · exact h.same h1 h2
  · exact absurd h0 hf
end
end Go.Proofs.YtdkimdobcacpfaaDoor.Dv
namespace Go.Proofs.YtdkimdobcacpfaaDoor.Dv
open Go.Proofs.YtdkimdobcacpfaaDoor.Sl Go.Proofs.YtdkimdobcacpfaaDoor.Tr

section
variable (opn : List Row → Int → Int × List Int × Int) (mk : List Row → List Row → List Int) (dg : Nat → Row → List Int) (hd hs jn : Nat)
def rowsAt (D : Dev) (from_ n : Nat) : List Row := (List.range n).map fun i => D.now (from_ + i)
/-- The images that a head names, with their homes. -/
def imgs (D : Dev) (R : Rg) : List (Nat × Row) := ((opn (rowsAt D hd hs) R.budget).2.1.map Int.toNat).zip (rowsAt D jn (opn (rowsAt D hd hs) R.budget).2.1.length)
/-- May a head's images go home? -/
def headOk (D : Dev) (R : Rg) : Bool :=
  decide ((opn (rowsAt D hd hs) R.budget).2.2 = 0) && decide ((opn (rowsAt D hd hs) R.budget).1 = R.version) && (opn (rowsAt D hd hs) R.budget).2.1.all (fun b => decide (b < (hd : Int))) &&
    decide (mk (rowsAt D hd hs) (rowsAt D jn (opn (rowsAt D hd hs) R.budget).2.1.length) = R.mark)
/-- The images go home. -/
def finishP (D : Dev) (R : Rg) : Dev × Int :=
  if headOk opn mk hd hs jn D R = false then (D,10)
  else if (wrL D (imgs opn hd hs jn D R)).2 ≠ 0 then wrL D (imgs opn hd hs jn D R) else (wrL D (imgs opn hd hs jn D R)).1.flush
def up1 (R : Rg) : Rg := { R with boot := R.boot + 1 }
def calm (R : Rg) : Rg := { R with busy := false,mark := zero32 }
/-- The end of a boot. -/
def endP (D : Dev) (R : Rg) : Dev × Rg × Rg × Int := if dg (hd - 1) (D.now (hd - 1)) = R.root then (D,R,R,0) else (D,R,st0,10)
/-- Boot where the register is known and its plan fits: the device, the register, what is told, its code. -/
def bootP (D : Dev) (R : Rg) : Dev × Rg × Rg × Int :=
  if D.off then (D,R,st0,7) else if R.boot = 4294967295 then (D,R,st0,13)
  else if (regWrite D R (up1 R)).2.2 ≠ 0 then ((regWrite D R (up1 R)).1,(regWrite D R (up1 R)).2.1,st0,(regWrite D R (up1 R)).2.2)
  else if R.busy = false then endP dg hd (regWrite D R (up1 R)).1 (up1 R)
  else if (finishP opn mk hd hs jn (regWrite D R (up1 R)).1 (up1 R)).2 ≠ 0 then ((finishP opn mk hd hs jn (regWrite D R (up1 R)).1 (up1 R)).1,up1 R,st0,(finishP opn mk hd hs jn (regWrite D R (up1 R)).1 (up1 R)).2)
  else if (regWrite (finishP opn mk hd hs jn (regWrite D R (up1 R)).1 (up1 R)).1 (up1 R) (calm (up1 R))).2.2 ≠ 0 then
    ((regWrite (finishP opn mk hd hs jn (regWrite D R (up1 R)).1 (up1 R)).1 (up1 R) (calm (up1 R))).1,(regWrite (finishP opn mk hd hs jn (regWrite D R (up1 R)).1 (up1 R)).1 (up1 R) (calm (up1 R))).2.1,st0,(regWrite (finishP opn mk hd hs jn (regWrite D R (up1 R)).1 (up1 R)).1 (up1 R) (calm (up1 R))).2.2)
  else endP dg hd (regWrite (finishP opn mk hd hs jn (regWrite D R (up1 R)).1 (up1 R)).1 (up1 R) (calm (up1 R))).1 (calm (up1 R))
end
section
variable {opn : List Row → Int → Int × List Int × Int} {mk : List Row → List Row → List Int} {dg : Nat → Row → List Int} {hd hs jn : Nat}
variable {D : Dev} {R : Rg} {old : Nat → Row} {L : List (Nat × Row)} {J : Nat → Row}
theorem endP_dev (D : Dev) (R : Rg) : (endP dg hd D R).1 = D ∧ (endP dg hd D R).2.1 = R := by
  unfold endP
  split <;> exact ⟨rfl,rfl⟩
/-- No images wait: the homes stay as they are, whatever comes. -/
theorem boot_calm (h : Old hd old D) (hb : R.busy = false) : Old hd old (bootP opn mk dg hd hs jn D R).1 ∧ ((bootP opn mk dg hd hs jn D R).2.1 = R ∨ (bootP opn mk dg hd hs jn D R).2.1 = up1 R) := by
  obtain ⟨r1,r2,r3⟩ := reg_cases D R (up1 R)
  unfold bootP
  split
  · exact ⟨h,.inl rfl⟩
  · split
    · exact ⟨h,.inl rfl⟩
    · split
      · rename_i hr
        refine ⟨h.same r1 r2,?_⟩
        rcases r3 with ⟨-,q⟩ | ⟨q,-⟩
        · exact .inl q
        · exact absurd q hr
      · obtain ⟨e1,e2⟩ := endP_dev (dg := dg) (hd := hd) (regWrite D R (up1 R)).1 (up1 R)
        rw [e1,e2]
        exact ⟨h.same r1 r2,.inr rfl⟩
theorem rowsAt_mid (h : Mid hd old L J D) (hL : ∀ x ∈ L,x.1 < hd) {f n : Nat} (hf : hd ≤ f) : rowsAt D f n = (List.range n).map fun i => J (f + i) := by
  unfold rowsAt
  refine List.map_congr_left fun i _ => ?_
  exact h.nowJ hL (by omega)
/-- What the journal of a commit is. -/
structure Jr (opn : List Row → Int → Int × List Int × Int) (mk : List Row → List Row → List Int) (hd hs jn : Nat) (J : Nat → Row) (L : List (Nat × Row)) (v b : Int) (m : List Int) : Prop where
  code : (opn ((List.range hs).map fun i => J (hd + i)) b).2.2 = 0
  ver : (opn ((List.range hs).map fun i => J (hd + i)) b).1 = v
  low : ∀ x ∈ (opn ((List.range hs).map fun i => J (hd + i)) b).2.1,0 ≤ x ∧ x < (hd : Int)
  im : L = ((opn ((List.range hs).map fun i => J (hd + i)) b).2.1.map Int.toNat).zip ((List.range (opn ((List.range hs).map fun i => J (hd + i)) b).2.1.length).map fun i => J (jn + i))
  mark : mk ((List.range hs).map fun i => J (hd + i)) ((List.range (opn ((List.range hs).map fun i => J (hd + i)) b).2.1.length).map fun i => J (jn + i)) = m
theorem Jr.lt {v b : Int} {m : List Int} (h : Jr opn mk hd hs jn J L v b m) : ∀ x ∈ L,x.1 < hd := fun x hx => by
  rw [h.im] at hx
  have h1 := (List.of_mem_zip (a := x.1) (b := x.2) hx).1
  obtain ⟨y,hy,he⟩ := List.mem_map.1 h1
  have := h.low y hy
  omega
theorem imgs_mid {v : Int} {m : List Int} (hj : Jr opn mk hd hs jn J L v R.budget m) (h : Mid hd old L J D) (hjn : hd ≤ jn) : imgs opn hd hs jn D R = L := by
  unfold imgs
  rw [rowsAt_mid h hj.lt (Nat.le_refl _),rowsAt_mid h hj.lt hjn]
  exact hj.im.symm
theorem headOk_mid (hj : Jr opn mk hd hs jn J L R.version R.budget R.mark) (h : Mid hd old L J D) (hjn : hd ≤ jn) : headOk opn mk hd hs jn D R = true := by
  unfold headOk
  rw [rowsAt_mid h hj.lt (Nat.le_refl _),rowsAt_mid h hj.lt hjn]
  simp only [Bool.and_eq_true,decide_eq_true_eq,List.all_eq_true]
  exact ⟨⟨⟨hj.code,hj.ver⟩,fun x hx => (hj.low x hx).2⟩,hj.mark⟩
/-- The images go home, or some of them. -/
theorem finish_mid (hj : Jr opn mk hd hs jn J L R.version R.budget R.mark) (h : Mid hd old L J D) (hjn : hd ≤ jn) (hH : hd ≤ D.st.length) :
    ((finishP opn mk hd hs jn D R).2 = 0 ∧ Old hd (toBe old L) (finishP opn mk hd hs jn D R).1 ∧ Mid hd old L J (finishP opn mk hd hs jn D R).1) ∨ ((finishP opn mk hd hs jn D R).2 ≠ 0 ∧ Mid hd old L J (finishP opn mk hd hs jn D R).1) := by
  have hi := imgs_mid (R := R) hj h hjn
  have hw := h.writes
  unfold finishP
  rw [headOk_mid hj h hjn,if_neg (by simp),hi]
  by_cases hr : (wrL D L).2 = 0
  · rw [if_neg (not_not_intro hr)]
    by_cases hf : (wrL D L).1.flush.2 = 0
    · exact .inl ⟨hf,hw.flush_done hj.lt (by rw [wrL_st];exact hH) (wrL_ok L D hr) hf,hw.flush hj.lt⟩
    · exact .inr ⟨hf,hw.flush_cut hf⟩
  · rw [if_pos hr]
    exact .inr ⟨hr,hw⟩
/-- Images wait: a boot leaves them waiting, or brings all of them home. -/
theorem boot_mid (hj : Jr opn mk hd hs jn J L R.version R.budget R.mark) (h : Mid hd old L J D) (hb : R.busy = true) (hjn : hd ≤ jn) (hH : hd ≤ D.st.length) :
    (Mid hd old L J (bootP opn mk dg hd hs jn D R).1 ∧ ((bootP opn mk dg hd hs jn D R).2.1 = R ∨ (bootP opn mk dg hd hs jn D R).2.1 = up1 R)) ∨
    (Old hd (toBe old L) (bootP opn mk dg hd hs jn D R).1 ∧ (bootP opn mk dg hd hs jn D R).2.1 = calm (up1 R)) := by
  obtain ⟨r1,r2,r3⟩ := reg_cases D R (up1 R)
  have hm := h.same r1 r2
  have hfin := finish_mid (R := up1 R) (D := (regWrite D R (up1 R)).1) hj hm hjn (by rw [r1];exact hH)
  unfold bootP
  split
  · exact .inl ⟨h,.inl rfl⟩
  · split
    · exact .inl ⟨h,.inl rfl⟩
    · split
      · rename_i hr
        refine .inl ⟨hm,?_⟩
        rcases r3 with ⟨-,q⟩ | ⟨q,-⟩
        · exact .inl q
        · exact absurd q hr
      · rw [if_neg (by rw [hb];simp)]
        split
        · rename_i hf
          rcases hfin with ⟨q,-⟩ | ⟨-,q⟩
          · exact absurd q hf
          · exact .inl ⟨q,.inr rfl⟩
        · rename_i hf
          have hf0 : (finishP opn mk hd hs jn (regWrite D R (up1 R)).1 (up1 R)).2 = 0 := Classical.byContradiction hf
          rcases hfin with ⟨-,q,q2⟩ | ⟨q,-⟩
          · obtain ⟨s1,s2,s3⟩ := reg_cases (finishP opn mk hd hs jn (regWrite D R (up1 R)).1 (up1 R)).1 (up1 R) (calm (up1 R))
            split
            · rename_i hr
              refine .inl ⟨q2.same s1 s2,?_⟩
              rcases s3 with ⟨-,e⟩ | ⟨e,-⟩
              · exact .inr e
              · exact absurd e hr
            · obtain ⟨e1,e2⟩ := endP_dev (dg := dg) (hd := hd) (regWrite (finishP opn mk hd hs jn (regWrite D R (up1 R)).1 (up1 R)).1 (up1 R) (calm (up1 R))).1 (calm (up1 R))
              rw [e1,e2]
              exact .inr ⟨q.same s1 s2,rfl⟩
          · exact absurd hf0 q
end
end Go.Proofs.YtdkimdobcacpfaaDoor.Dv
namespace Go.Proofs.YtdkimdobcacpfaaDoor.Dv
open Go.Proofs.YtdkimdobcacpfaaDoor.Sl Go.Proofs.YtdkimdobcacpfaaDoor.Tr

/-- The power is on, and stays. -/
structure Dev.On (D : Dev) : Prop where
  off : D.off = false
  arm : D.armed = 0
section
variable {D : Dev} {R s : Rg} {l : List (Nat × Row)}
theorem Dev.On.spend (h : D.On) : D.spend.On := ⟨by show (D.off || D.armed == 1) = false;rw [h.off,h.arm];rfl,by show D.armed - 1 = 0;rw [h.arm]⟩
theorem on_write (h : D.On) {a : Nat} {b : Row} (ha : a < D.st.length) (hb : b.length = 256) : (D.write a b).2 = 0 ∧ (D.write a b).1.On := by
  have hr : D.ready (a : Int) = 0 := by
    unfold Dev.ready
    rw [h.off]
    simp only [Bool.false_eq_true,if_false]
    rw [if_neg (by omega)]
  have hp : (D.put (a : Int).toNat b).spend.On := Dev.On.spend ⟨h.off,h.arm⟩
  unfold Dev.write
  rw [if_neg (not_not_intro hr),if_neg (not_not_intro hb)]
  exact ⟨by simp only [hp.off];rfl,hp⟩
theorem on_writes : ∀ (l : List (Nat × Row)) (D : Dev),D.On → (∀ x ∈ l,x.1 < D.st.length ∧ x.2.length = 256) → (wrL D l).2 = 0 ∧ (wrL D l).1.On
  | [],_,h,_ => ⟨rfl,h⟩
  | (k,b)::l,D,h,hl => by
    obtain ⟨h1,h2⟩ := on_write h (hl (k,b) (by simp)).1 (hl (k,b) (by simp)).2
    rw [wrL,if_neg (not_not_intro h1)]
    exact on_writes l _ h2 fun x hx => by rw [write_st];exact hl x (by simp [hx])
theorem on_flush (h : D.On) : D.flush.2 = 0 ∧ D.flush.1.On := by
  unfold Dev.flush
  rw [if_neg (by rw [h.off];simp),if_neg (by rw [h.spend.off];simp)]
  exact ⟨rfl,⟨h.spend.off,h.spend.arm⟩⟩
theorem on_reg (h : D.On) (hf : R.follows s = true) : regWrite D R s = (D.spend,s,0) := by
  unfold regWrite
  rw [if_neg (by rw [h.off];simp),if_pos hf,if_neg (by rw [h.spend.off];simp)]
/-- A register that may be written on. -/
structure Rg.Live (R : Rg) : Prop where
  right : R.right = true
  boot : R.boot + 1 < 4294967296
theorem right_up1 : (up1 R).right = R.right := rfl
theorem right_calm : (calm R).right = R.right := rfl
theorem follows_up1 (h : R.right = true) : R.follows (up1 R) = true := by
  unfold Rg.follows
  rw [right_up1,h]
  simp [up1]
  exact .inr (decide_eq_true (by omega))
theorem follows_calm (h : R.right = true) : R.follows (calm R) = true := by
  unfold Rg.follows
  rw [right_calm,h]
  simp [calm]
variable {opn : List Row → Int → Int × List Int × Int} {mk : List Row → List Row → List Int} {dg : Nat → Row → List Int} {hd hs jn : Nat} {old : Nat → Row} {L : List (Nat × Row)} {J : Nat → Row}
theorem boot_calm_on (h : Old hd old D) (hb : R.busy = false) (hl : R.Live) (ho : D.On) (h0 : 0 < hd) (ht : dg (hd - 1) (old (hd - 1)) = R.root) : bootP opn mk dg hd hs jn D R = (D.spend,up1 R,up1 R,0) := by
  have hr := on_reg ho (follows_up1 hl.right)
  unfold bootP
  rw [hr,if_neg (by rw [ho.off];simp),if_neg (by have := hl.boot;omega),if_neg (fun e => e rfl),if_pos hb]
  have hn : D.spend.now (hd - 1) = old (hd - 1) := (h.same (D' := D.spend) rfl rfl).now (by omega)
  unfold endP
  rw [hn,if_pos (by rw [ht];rfl)]
theorem boot_mid_on (hj : Jr opn mk hd hs jn J L R.version R.budget R.mark) (h : Mid hd old L J D) (hb : R.busy = true) (hl : R.Live) (ho : D.On) (h0 : 0 < hd) (hjn : hd ≤ jn) (hH : hd ≤ D.st.length) (hrow : ∀ x ∈ L,x.2.length = 256)
    (ht : dg (hd - 1) (toBe old L (hd - 1)) = R.root) : ∃ D',bootP opn mk dg hd hs jn D R = (D',calm (up1 R),calm (up1 R),0) ∧ Old hd (toBe old L) D' ∧ D'.On := by
  have hr := on_reg ho (follows_up1 hl.right)
  have hm : Mid hd old L J D.spend := h.same rfl rfl
  have hi := imgs_mid (R := up1 R) (D := D.spend) (v := R.version) (m := R.mark) hj hm hjn
  have hok := headOk_mid (R := up1 R) (D := D.spend) hj hm hjn
  obtain ⟨w1,w2⟩ := on_writes L D.spend ho.spend fun x hx => ⟨by have := hj.lt x hx;show x.1 < D.st.length;omega,hrow x hx⟩
  obtain ⟨f1,f2⟩ := on_flush w2
  have hdone := hm.writes.flush_done hj.lt (by rw [wrL_st];exact hH) (wrL_ok L _ w1) f1
  have hfin : finishP opn mk hd hs jn D.spend (up1 R) = (wrL D.spend L).1.flush := by
    unfold finishP
    rw [hok,if_neg (by simp),hi,if_neg (not_not_intro w1)]
  have hr2 : regWrite (wrL D.spend L).1.flush.1 (up1 R) (calm (up1 R)) = ((wrL D.spend L).1.flush.1.spend,calm (up1 R),0) := on_reg f2 (follows_calm (by rw [right_up1];exact hl.right))
  refine ⟨(wrL D.spend L).1.flush.1.spend,?_,hdone.same rfl rfl,f2.spend⟩
  unfold bootP
  rw [hr,if_neg (by rw [ho.off];simp),if_neg (by have := hl.boot;omega),if_neg (fun e => e rfl),if_neg (by rw [hb];simp)]
  simp only [hfin]
  rw [if_neg (not_not_intro f1),hr2,if_neg (fun e => e rfl)]
  have hn : (wrL D.spend L).1.flush.1.spend.now (hd - 1) = toBe old L (hd - 1) := (hdone.same (D' := (wrL D.spend L).1.flush.1.spend) rfl rfl).now (by omega)
  unfold endP
  rw [hn,if_pos (by rw [ht];rfl)]
end
end Go.Proofs.YtdkimdobcacpfaaDoor.Dv
namespace Go.Proofs.YtdkimdobcacpfaaDoor.Dv
open Go.Proofs.YtdkimdobcacpfaaDoor.Sl Go.Proofs.YtdkimdobcacpfaaDoor.Tr

/-- A step of a job: a block is written; a flush; the register is written; an image goes home (its home, where it stands, its digest). -/
inductive SK where
  | wr (k : Nat) (b : Row)
  | fl
  | rg (s : Rg)
  | hm (k src : Nat) (d : List Int)
section
variable (dg : Nat → Row → List Int)
def stepJ (D : Dev) (R : Rg) : SK → Dev × Rg × Int
  | .wr k b => ((D.write k b).1,R,(D.write k b).2)
  | .fl => (D.flush.1,R,D.flush.2)
  | .rg s => regWrite D R s
  | .hm k src d => if D.ready src ≠ 0 then (D,R,D.ready src) else if dg k (D.now src) ≠ d then (D,R,10) else ((D.write k (D.now src)).1,R,(D.write k (D.now src)).2)
/-- Steps, till one tells a fault. -/
def runJ (D : Dev) (R : Rg) : List SK → Dev × Rg × Int
  | [] => (D,R,0)
  | x::l => if (stepJ dg D R x).2.2 ≠ 0 then stepJ dg D R x else runJ (stepJ dg D R x).1 (stepJ dg D R x).2.1 l
end
section
variable {dg : Nat → Row → List Int} {D : Dev} {R s : Rg} {hd hs jn : Nat} {old : Nat → Row} {L : List (Nat × Row)} {J : Nat → Row}
theorem runJ_hit {x : SK} {l : List SK} (h : (stepJ dg D R x).2.2 ≠ 0) : runJ dg D R (x::l) = stepJ dg D R x := by rw [runJ,if_pos h]
theorem runJ_go {x : SK} {l : List SK} (h : (stepJ dg D R x).2.2 = 0) : runJ dg D R (x::l) = runJ dg (stepJ dg D R x).1 (stepJ dg D R x).2.1 l := by rw [runJ,if_neg (not_not_intro h)]
theorem runJ_append (l m : List SK) : ∀ (D : Dev) (R : Rg),runJ dg D R (l ++ m) = if (runJ dg D R l).2.2 ≠ 0 then runJ dg D R l else runJ dg (runJ dg D R l).1 (runJ dg D R l).2.1 m := by
  induction l with
  | nil => intro D R;simp [runJ]
  | cons x l ih =>
    intro D R
    rw [List.cons_append,runJ,runJ]
    by_cases h : (stepJ dg D R x).2.2 ≠ 0
    · rw [if_pos h,if_pos h,if_pos h]
    · rw [if_neg h,if_neg h,ih]
theorem write_fault {a : Nat} {b : Row} (ha : a < D.st.length) (hb : b.length = 256) (ho : D.off = false) (hf : (D.write a b).2 ≠ 0) : (D.write a b).1.off = true := by
  have hr : D.ready (a : Int) = 0 := by
    unfold Dev.ready
    rw [ho]
    simp only [Bool.false_eq_true,if_false]
    rw [if_neg (by omega)]
  unfold Dev.write at hf ⊢
  rw [if_neg (not_not_intro hr),if_neg (not_not_intro hb)] at hf ⊢
  cases h : (D.put (a : Int).toNat b).spend.off with
  | true => rfl
  | false => rw [h] at hf;exact absurd rfl hf
theorem flush_fault (hf : D.flush.2 ≠ 0) : D.flush.1.off = true := by
  unfold Dev.flush at hf ⊢
  split
  · rename_i h;exact h
  · rename_i h
    rw [if_neg h] at hf
    split
    · rename_i h2;exact h2
    · rename_i h2
      rw [if_neg h2] at hf
      exact absurd rfl hf
theorem flush_up (hf : D.flush.2 = 0) : D.flush.1.off = false := by
  unfold Dev.flush at hf ⊢
  split
  · rename_i h;rw [if_pos h] at hf;cases hf
  · rename_i h
    rw [if_neg h] at hf
    split
    · rename_i h2;rw [if_pos h2] at hf;cases hf
    · rename_i h2;show D.spend.off = false;simpa using h2
theorem reg_fault (hfo : R.follows s = true) (hf : (regWrite D R s).2.2 ≠ 0) : (regWrite D R s).1.off = true := by
  unfold regWrite at hf ⊢
  split
  · rename_i h;exact h
  · rename_i h
    rw [if_neg h,if_pos hfo] at hf
    split
    · rename_i h2;exact h2
    · rename_i h2
      rw [if_neg h2] at hf
      exact absurd rfl hf
theorem reg_up (hf : (regWrite D R s).2.2 = 0) : (regWrite D R s).1.off = false ∧ (regWrite D R s).2.1 = s := by
  unfold regWrite at hf ⊢
  split
  · rename_i h;rw [if_pos h] at hf;cases hf
  · rename_i h
    rw [if_neg h] at hf
    split
    · rename_i h2
      rw [if_pos h2] at hf
      split
      · rename_i h3;rw [if_pos h3] at hf;cases hf
      · rename_i h3;exact ⟨by simpa using h3,rfl⟩
    · rename_i h2;rw [if_neg h2] at hf;cases hf
/-- Writes beyond the homes: the homes stay; a fault is a cut. -/
theorem run_beyond (R : Rg) : ∀ (l : List (Nat × Row)) (D : Dev),Old hd old D → D.off = false → (∀ x ∈ l,hd ≤ x.1 ∧ x.1 < D.st.length ∧ x.2.length = 256) →
    Old hd old (runJ dg D R (l.map fun x => .wr x.1 x.2)).1 ∧ (runJ dg D R (l.map fun x => .wr x.1 x.2)).2.1 = R ∧ (runJ dg D R (l.map fun x => .wr x.1 x.2)).1.st.length = D.st.length ∧
    ((runJ dg D R (l.map fun x => .wr x.1 x.2)).2.2 ≠ 0 → (runJ dg D R (l.map fun x => .wr x.1 x.2)).1.off = true) ∧
    ((runJ dg D R (l.map fun x => .wr x.1 x.2)).2.2 = 0 → (runJ dg D R (l.map fun x => .wr x.1 x.2)).1.off = false ∧ (runJ dg D R (l.map fun x => .wr x.1 x.2)).1.st = D.st ∧ (runJ dg D R (l.map fun x => .wr x.1 x.2)).1.wt = D.wt ++ l)
  | [],D,h,ho,_ => ⟨h,rfl,rfl,fun e => absurd rfl e,fun _ => ⟨ho,rfl,by simp [runJ]⟩⟩
  | (k,b)::l,D,h,ho,hl => by
    obtain ⟨a1,a2,a3⟩ := hl (k,b) (by simp)
    rw [List.map_cons]
    by_cases hf : (D.write (k : Int) b).2 ≠ 0
    · rw [runJ_hit (dg := dg) (D := D) (R := R) (x := .wr k b) hf]
      exact ⟨h.write a1 b,rfl,congrArg List.length (write_st D k b),fun _ => write_fault a2 a3 ho hf,fun e => absurd e hf⟩
    · have h0 : (D.write (k : Int) b).2 = 0 := Classical.byContradiction hf
      obtain ⟨w1,-,w3⟩ := write_ok h0
      obtain ⟨g1,g2,g3,g4,g5⟩ := run_beyond R l (D.write (k : Int) b).1 (h.write a1 b) w3 fun x hx => by rw [write_st];exact hl x (by simp [hx])
      rw [runJ_go (dg := dg) (D := D) (R := R) (x := .wr k b) h0]
      refine ⟨g1,g2,g3.trans (congrArg List.length (write_st D k b)),g4,fun e => ?_⟩
      obtain ⟨q1,q2,q3⟩ := g5 e
      exact ⟨q1,q2.trans (write_st D k b),q3.trans (by rw [w1];simp)⟩
/-- Images go home one by one: a fault is a cut. -/
theorem run_homes (R : Rg) (hL : ∀ x ∈ L,x.1 < hd) (hrow : ∀ x ∈ L,x.2.length = 256) (hjn : hd ≤ jn) : ∀ (l : List (Nat × Row)) (i : Nat) (D : Dev),Mid hd old L J D → D.off = false → hd ≤ D.st.length → jn + i + l.length ≤ D.st.length →
    (∀ x ∈ l,x ∈ L) → (∀ (j : Nat) (x : Nat × Row),l[j]? = some x → J (jn + i + j) = x.2) →
    Mid hd old L J (runJ dg D R ((l.zipIdx i).map fun x => .hm x.1.1 (jn + x.2) (dg x.1.1 x.1.2))).1 ∧ (runJ dg D R ((l.zipIdx i).map fun x => .hm x.1.1 (jn + x.2) (dg x.1.1 x.1.2))).2.1 = R ∧ (runJ dg D R ((l.zipIdx i).map fun x => .hm x.1.1 (jn + x.2) (dg x.1.1 x.1.2))).1.st.length = D.st.length ∧
    ((runJ dg D R ((l.zipIdx i).map fun x => .hm x.1.1 (jn + x.2) (dg x.1.1 x.1.2))).2.2 ≠ 0 → (runJ dg D R ((l.zipIdx i).map fun x => .hm x.1.1 (jn + x.2) (dg x.1.1 x.1.2))).1.off = true) ∧
    ((runJ dg D R ((l.zipIdx i).map fun x => .hm x.1.1 (jn + x.2) (dg x.1.1 x.1.2))).2.2 = 0 → (runJ dg D R ((l.zipIdx i).map fun x => .hm x.1.1 (jn + x.2) (dg x.1.1 x.1.2))).1.off = false ∧ (runJ dg D R ((l.zipIdx i).map fun x => .hm x.1.1 (jn + x.2) (dg x.1.1 x.1.2))).1.wt = D.wt ++ l)
  | [],i,D,h,ho,_,_,_,_ => ⟨h,rfl,rfl,fun e => absurd rfl e,fun _ => ⟨ho,by simp [runJ]⟩⟩
  | (k,b)::l,i,D,h,ho,hH,hlen,hin,hJ => by
    have hm := hin (k,b) (by simp)
    have hk := hL _ hm
    have hb := hrow _ hm
    have hnow : D.now (jn + i) = b := by
      rw [h.nowJ hL (by omega)]
      exact hJ 0 (k,b) rfl
    have hrd : D.ready ((jn + i : Nat) : Int) = 0 := by
      unfold Dev.ready
      rw [ho]
      simp only [Bool.false_eq_true,if_false]
      simp only [List.length_cons] at hlen
      rw [if_neg (by omega)]
    have hst : stepJ dg D R (.hm k (jn + i) (dg k b)) = ((D.write k b).1,R,(D.write k b).2) := by
      rw [stepJ,if_neg (not_not_intro hrd),hnow,if_neg (not_not_intro rfl)]
    rw [List.zipIdx_cons,List.map_cons]
    simp only at hk hb
    by_cases hf : (D.write (k : Int) b).2 ≠ 0
    · rw [runJ_hit (dg := dg) (D := D) (R := R) (x := .hm k (jn + i) (dg k b)) (by rw [hst];exact hf),hst]
      exact ⟨h.write hm,rfl,congrArg List.length (write_st D k b),fun _ => write_fault (by omega) hb ho hf,fun e => absurd e hf⟩
    · have h0 : (D.write (k : Int) b).2 = 0 := Classical.byContradiction hf
      obtain ⟨w1,-,w3⟩ := write_ok h0
      obtain ⟨g1,g2,g3,g4,g5⟩ := run_homes R hL hrow hjn l (i + 1) (D.write (k : Int) b).1 (h.write hm) w3 (by rw [write_st];exact hH) (by rw [write_st];simp only [List.length_cons] at hlen;omega) (fun x hx => hin x (by simp [hx])) fun j x hx => by
        rw [← hJ (j + 1) x (by simpa using hx)]
        congr 1
        omega
      rw [runJ_go (dg := dg) (D := D) (R := R) (x := .hm k (jn + i) (dg k b)) (by rw [hst];exact h0),hst]
      refine ⟨g1,g2,g3.trans (congrArg List.length (write_st D k b)),g4,fun e => ?_⟩
      obtain ⟨q1,q2⟩ := g5 e
      exact ⟨q1,q2.trans (by rw [w1];simp)⟩
/-- A job's steps. -/
def homesJ (dg : Nat → Row → List Int) (jn : Nat) (L : List (Nat × Row)) : List SK := (L.zipIdx 0).map fun x => .hm x.1.1 (jn + x.2) (dg x.1.1 x.1.2)
def stepsJ (dg : Nat → Row → List Int) (jn : Nat) (hw L : List (Nat × Row)) (s : Rg) : List SK := (hw.map fun x => .wr x.1 x.2) ++ (.fl::.rg s::(homesJ dg jn L ++ [.fl,.rg (calm s)]))
/-- A job goes through, and all homes are as they are to be; or the power is gone, and nothing has gone home, or the journal stands. -/
theorem job_law {hw : List (Nat × Row)} (h : Old hd old D) (ho : D.off = false) (hH : hd ≤ D.st.length) (hhw : ∀ x ∈ hw,hd ≤ x.1 ∧ x.1 < D.st.length ∧ x.2.length = 256) (hL : ∀ x ∈ L,x.1 < hd) (hrow : ∀ x ∈ L,x.2.length = 256) (hjn : hd ≤ jn) (hlen : jn + L.length ≤ D.st.length)
    (hf : R.follows s = true) (hr : s.right = true) (hJ : ∀ (j : Nat) (x : Nat × Row),L[j]? = some x → (lay D.st (D.wt ++ hw)).getD (jn + j) [] = x.2) :
    (runJ dg D R (stepsJ dg jn hw L s)).1.st.length = D.st.length ∧
    (((runJ dg D R (stepsJ dg jn hw L s)).2.2 = 0 ∧ Old hd (toBe old L) (runJ dg D R (stepsJ dg jn hw L s)).1 ∧ (runJ dg D R (stepsJ dg jn hw L s)).2.1 = calm s) ∨
    ((runJ dg D R (stepsJ dg jn hw L s)).2.2 ≠ 0 ∧ (runJ dg D R (stepsJ dg jn hw L s)).1.off = true ∧ ((Old hd old (runJ dg D R (stepsJ dg jn hw L s)).1 ∧ (runJ dg D R (stepsJ dg jn hw L s)).2.1 = R) ∨
      (Mid hd old L (fun k => (lay D.st (D.wt ++ hw)).getD k []) (runJ dg D R (stepsJ dg jn hw L s)).1 ∧ (runJ dg D R (stepsJ dg jn hw L s)).2.1 = s)))) := by
  obtain ⟨g1,g2,g3,g4,g5⟩ := run_beyond (dg := dg) R hw D h ho hhw
  unfold stepsJ
  rw [runJ_append]
  by_cases e : (runJ dg D R (hw.map fun x => .wr x.1 x.2)).2.2 ≠ 0
  · rw [if_pos e]
    exact ⟨g3,.inr ⟨e,g4 e,.inl ⟨g1,g2⟩⟩⟩
  rw [if_neg e,g2]
  obtain ⟨q1,q2,q3⟩ := g5 (Classical.byContradiction e)
  generalize (runJ dg D R (hw.map fun x => .wr x.1 x.2)).1 = D1 at g1 g3 q1 q2 q3 ⊢
  clear g2 g4 g5 e
  have hfl : D1.flush.1.st.length = D.st.length := by
    rcases flush_cases D1 with ⟨-,a,-⟩ | ⟨-,a,-⟩
    · rw [a,g3]
    · rw [a,lay_length,g3]
  have ho2 := g1.flush (by omega)
  by_cases e : D1.flush.2 ≠ 0
  · rw [runJ_hit (dg := dg) (D := D1) (R := R) (x := .fl) e]
    exact ⟨hfl,.inr ⟨e,flush_fault e,.inl ⟨ho2,rfl⟩⟩⟩
  have e0 : D1.flush.2 = 0 := Classical.byContradiction e
  rw [runJ_go (dg := dg) (D := D1) (R := R) (x := .fl) e0]
  have hm : Mid hd old L (fun k => (lay D.st (D.wt ++ hw)).getD k []) D1.flush.1 ∧ D1.flush.1.wt = [] := by
    rcases flush_cases D1 with ⟨a,-,-⟩ | ⟨-,a,b⟩
    · exact absurd e0 a
    · exact ⟨⟨fun k hk _ => ho2.st k hk,fun k _ => by rw [a,q2,q3],by rw [b];exact fun x hx => by cases hx⟩,b⟩
  have hup := flush_up e0
  show (runJ dg D1.flush.1 R (.rg s::(homesJ dg jn L ++ [.fl,.rg (calm s)]))).1.st.length = _ ∧ _
  have hgo : (stepJ dg D1 R .fl).1 = D1.flush.1 ∧ (stepJ dg D1 R .fl).2.1 = R := ⟨rfl,rfl⟩
  rw [hgo.1,hgo.2]
  generalize D1.flush.1 = D2 at hfl ho2 hm hup ⊢
  clear g1 g3 q1 q2 q3 e e0 hgo
  obtain ⟨r1,r2,r3⟩ := reg_cases D2 R s
  by_cases e : (regWrite D2 R s).2.2 ≠ 0
  · rw [runJ_hit (dg := dg) (D := D2) (R := R) (x := .rg s) e]
    refine ⟨(congrArg List.length r1).trans hfl,.inr ⟨e,reg_fault hf e,.inl ⟨ho2.same r1 r2,?_⟩⟩⟩
    rcases r3 with ⟨-,b⟩ | ⟨b,-⟩
    · exact b
    · exact absurd b e
  have e0 : (regWrite D2 R s).2.2 = 0 := Classical.byContradiction e
  obtain ⟨u1,u2⟩ := reg_up e0
  rw [runJ_go (dg := dg) (D := D2) (R := R) (x := .rg s) e0]
  have hgo : (stepJ dg D2 R (.rg s)).1 = (regWrite D2 R s).1 ∧ (stepJ dg D2 R (.rg s)).2.1 = s := ⟨rfl,u2⟩
  rw [hgo.1,hgo.2]
  have hm3 := hm.1.same r1 r2
  have hw3 : (regWrite D2 R s).1.wt = [] := r2.trans hm.2
  have hl3 : (regWrite D2 R s).1.st.length = D.st.length := (congrArg List.length r1).trans hfl
  generalize (regWrite D2 R s).1 = D3 at u1 hm3 hw3 hl3 ⊢
  clear hm ho2 hfl hup r1 r2 r3 e e0 u2 hgo
  obtain ⟨k1,k2,k3,k4,k5⟩ := run_homes (dg := dg) (hd := hd) (jn := jn) s hL hrow hjn L 0 D3 hm3 u1 (by omega) (by omega) (fun x hx => hx) (fun j x hx => by rw [← hJ j x hx];rfl)
  rw [runJ_append]
  show (if (runJ dg D3 s (homesJ dg jn L)).2.2 ≠ 0 then runJ dg D3 s (homesJ dg jn L) else runJ dg (runJ dg D3 s (homesJ dg jn L)).1 (runJ dg D3 s (homesJ dg jn L)).2.1 [.fl,.rg (calm s)]).1.st.length = _ ∧ _
  change Mid hd old L _ (runJ dg D3 s (homesJ dg jn L)).1 at k1
  change (runJ dg D3 s (homesJ dg jn L)).2.1 = s at k2
  change (runJ dg D3 s (homesJ dg jn L)).1.st.length = _ at k3
  change (runJ dg D3 s (homesJ dg jn L)).2.2 ≠ 0 → (runJ dg D3 s (homesJ dg jn L)).1.off = true at k4
  change (runJ dg D3 s (homesJ dg jn L)).2.2 = 0 → (runJ dg D3 s (homesJ dg jn L)).1.off = false ∧ (runJ dg D3 s (homesJ dg jn L)).1.wt = D3.wt ++ L at k5
  by_cases e : (runJ dg D3 s (homesJ dg jn L)).2.2 ≠ 0
  · rw [if_pos e]
    exact ⟨k3.trans hl3,.inr ⟨e,k4 e,.inr ⟨k1,k2⟩⟩⟩
  rw [if_neg e,k2]
  obtain ⟨p1,p2⟩ := k5 (Classical.byContradiction e)
  rw [hw3,List.nil_append] at p2
  have hl4 := k3.trans hl3
  generalize (runJ dg D3 s (homesJ dg jn L)).1 = D4 at k1 p1 p2 hl4 ⊢
  clear k2 k3 k4 k5 e hm3 hw3 hl3 u1
  have hfl : D4.flush.1.st.length = D.st.length := by
    rcases flush_cases D4 with ⟨-,a,-⟩ | ⟨-,a,-⟩
    · rw [a,hl4]
    · rw [a,lay_length,hl4]
  have hmf := k1.flush hL
  by_cases e : D4.flush.2 ≠ 0
  · rw [runJ_hit (dg := dg) (D := D4) (R := s) (x := .fl) e]
    exact ⟨hfl,.inr ⟨e,flush_fault e,.inr ⟨hmf,rfl⟩⟩⟩
  have e0 : D4.flush.2 = 0 := Classical.byContradiction e
  rw [runJ_go (dg := dg) (D := D4) (R := s) (x := .fl) e0]
  have hgo : (stepJ dg D4 s .fl).1 = D4.flush.1 ∧ (stepJ dg D4 s .fl).2.1 = s := ⟨rfl,rfl⟩
  rw [hgo.1,hgo.2]
  have hdone := k1.flush_done hL (by omega) (p := []) (by rw [p2];rfl) e0
  generalize D4.flush.1 = D5 at hfl hmf hdone ⊢
  clear e e0 hgo k1 p1 p2 hl4
  obtain ⟨r1,r2,r3⟩ := reg_cases D5 s (calm s)
  by_cases e : (regWrite D5 s (calm s)).2.2 ≠ 0
  · rw [runJ_hit (dg := dg) (D := D5) (R := s) (x := .rg (calm s)) e]
    refine ⟨(congrArg List.length r1).trans hfl,.inr ⟨e,reg_fault (follows_calm hr) e,.inr ⟨hmf.same r1 r2,?_⟩⟩⟩
    rcases r3 with ⟨-,b⟩ | ⟨b,-⟩
    · exact b
    · exact absurd b e
  have e0 : (regWrite D5 s (calm s)).2.2 = 0 := Classical.byContradiction e
  rw [runJ_go (dg := dg) (D := D5) (R := s) (x := .rg (calm s)) e0]
  exact ⟨(congrArg List.length r1).trans hfl,.inl ⟨rfl,hdone.same r1 r2,(reg_up e0).2⟩⟩
end
end Go.Proofs.YtdkimdobcacpfaaDoor.Dv
namespace Go.Proofs.YtdkimdobcacpfaaDoor.Dv
open Go.Proofs.YtdkimdobcacpfaaDoor.Sl Go.Proofs.YtdkimdobcacpfaaDoor.Tr

section
variable {opn : List Row → Int → Int × List Int × Int} {mk : List Row → List Row → List Int} {dg : Nat → Row → List Int} {hd hs jn : Nat}
variable {D : Dev} {R R0 s : Rg} {old : Nat → Row} {L : List (Nat × Row)} {J : Nat → Row}
theorem finish_len (D : Dev) (R : Rg) : (finishP opn mk hd hs jn D R).1.st.length = D.st.length := by
  unfold finishP
  split
  · rfl
  · split
    · rw [wrL_st]
    · rcases flush_cases (wrL D (imgs opn hd hs jn D R)).1 with ⟨-,a,-⟩ | ⟨-,a,-⟩
      · rw [a,wrL_st]
      · rw [a,lay_length,wrL_st]
theorem boot_len (D : Dev) (R : Rg) : (bootP opn mk dg hd hs jn D R).1.st.length = D.st.length := by
  have r1 := congrArg List.length (reg_cases D R (up1 R)).1
  have f1 := finish_len (opn := opn) (mk := mk) (hd := hd) (hs := hs) (jn := jn) (regWrite D R (up1 R)).1 (up1 R)
  have r2 := congrArg List.length (reg_cases (finishP opn mk hd hs jn (regWrite D R (up1 R)).1 (up1 R)).1 (up1 R) (calm (up1 R))).1
  unfold bootP
  split
  · rfl
  · split
    · rfl
    · split
      · exact r1
      · split
        · rw [(endP_dev _ _).1];exact r1
        · split
          · exact f1.trans r1
          · split
            · exact r2.trans (f1.trans r1)
            · rw [(endP_dev _ _).1];exact r2.trans (f1.trans r1)
/-- A register, so many boots on. -/
def later (R : Rg) (n : Nat) : Rg := { R with boot := R.boot + n }
theorem later_up (R : Rg) (n : Nat) : up1 (later R n) = later R (n + 1) := by
  unfold up1 later
  simp only [Rg.mk.injEq,true_and,and_true]
  omega
theorem calm_later (R : Rg) (n : Nat) : calm (later R n) = later (calm R) n := rfl
/-- Nothing has gone home; or the journal stands; or all has gone home. -/
def Three (hd : Nat) (old : Nat → Row) (L : List (Nat × Row)) (J : Nat → Row) (R0 s : Rg) (len n : Nat) (D : Dev) (R : Rg) : Prop :=
  D.st.length = len ∧ ∃ m,m ≤ n ∧ ((Old hd old D ∧ R = later R0 m) ∨ (Mid hd old L J D ∧ R = later s m) ∨ (Old hd (toBe old L) D ∧ R = later (calm s) m))
variable {len n : Nat}
theorem Three.cut (h : Three hd old L J R0 s len n D R) (hL : ∀ x ∈ L,x.1 < hd) (a : Int) (F : List Int) : Three hd old L J R0 s len n ((D.arm a).crash.on F) R := by
  obtain ⟨h1,m,hm,h2⟩ := h
  refine ⟨by rw [on_len];show (D.arm a).st.length = len;unfold Dev.arm;split <;> exact h1,m,hm,?_⟩
  rcases h2 with ⟨q,e⟩ | ⟨q,e⟩ | ⟨q,e⟩
  · exact .inl ⟨((q.arm a).crash).on F,e⟩
  · exact .inr (.inl ⟨((q.arm a).crash).on hL F,e⟩)
  · exact .inr (.inr ⟨((q.arm a).crash).on F,e⟩)
theorem Three.off (h : Three hd old L J R0 s len n D R) (hL : ∀ x ∈ L,x.1 < hd) (F : List Int) : Three hd old L J R0 s len n (D.crash.on F) R := by
  obtain ⟨h1,m,hm,h2⟩ := h
  refine ⟨by rw [on_len];exact h1,m,hm,?_⟩
  rcases h2 with ⟨q,e⟩ | ⟨q,e⟩ | ⟨q,e⟩
  · exact .inl ⟨q.crash.on F,e⟩
  · exact .inr (.inl ⟨q.crash.on hL F,e⟩)
  · exact .inr (.inr ⟨q.crash.on F,e⟩)
theorem Three.arm (h : Three hd old L J R0 s len n D R) (a : Int) : Three hd old L J R0 s len n (D.arm a) R := by
  obtain ⟨h1,m,hm,h2⟩ := h
  refine ⟨by unfold Dev.arm;split <;> exact h1,m,hm,?_⟩
  rcases h2 with ⟨q,e⟩ | ⟨q,e⟩ | ⟨q,e⟩
  · exact .inl ⟨q.arm a,e⟩
  · exact .inr (.inl ⟨q.arm a,e⟩)
  · exact .inr (.inr ⟨q.arm a,e⟩)
/-- A boot, wherever it is cut. -/
theorem Three.boot (h : Three hd old L J R0 s len n D R) (hj : Jr opn mk hd hs jn J L s.version s.budget s.mark) (h0 : R0.busy = false) (h1 : s.busy = true) (hjn : hd ≤ jn) (hH : hd ≤ len) :
    Three hd old L J R0 s len (n + 1) (bootP opn mk dg hd hs jn D R).1 (bootP opn mk dg hd hs jn D R).2.1 := by
  obtain ⟨hl,m,hm,h2⟩ := h
  have hlen := boot_len (opn := opn) (mk := mk) (dg := dg) (hd := hd) (hs := hs) (jn := jn) D R
  rcases h2 with ⟨q,rfl⟩ | ⟨q,rfl⟩ | ⟨q,rfl⟩
  · obtain ⟨g1,g2⟩ := boot_calm (opn := opn) (mk := mk) (dg := dg) (hs := hs) (jn := jn) (R := later R0 m) q h0
    rcases g2 with g2 | g2
    · exact ⟨hlen.trans hl,m,by omega,.inl ⟨g1,g2⟩⟩
    · exact ⟨hlen.trans hl,m + 1,by omega,.inl ⟨g1,by rw [g2,later_up]⟩⟩
  · have hj2 : Jr opn mk hd hs jn J L (later s m).version (later s m).budget (later s m).mark := hj
    rcases boot_mid (dg := dg) (R := later s m) hj2 q h1 hjn (by omega) with ⟨g1,g2 | g2⟩ | ⟨g1,g2⟩
    · exact ⟨hlen.trans hl,m,by omega,.inr (.inl ⟨g1,g2⟩)⟩
    · exact ⟨hlen.trans hl,m + 1,by omega,.inr (.inl ⟨g1,by rw [g2,later_up]⟩)⟩
    · exact ⟨hlen.trans hl,m + 1,by omega,.inr (.inr ⟨g1,by rw [g2,later_up,calm_later]⟩)⟩
  · obtain ⟨g1,g2⟩ := boot_calm (opn := opn) (mk := mk) (dg := dg) (hs := hs) (jn := jn) (R := later (calm s) m) q rfl
    rcases g2 with g2 | g2
    · exact ⟨hlen.trans hl,m,by omega,.inr (.inr ⟨g1,g2⟩)⟩
    · exact ⟨hlen.trans hl,m + 1,by omega,.inr (.inr ⟨g1,by rw [g2,later_up]⟩)⟩
/-- A boot with the power on: all is as it was, or as it was to be. -/
theorem Three.last (h : Three hd old L J R0 s len n D R) (hj : Jr opn mk hd hs jn J L s.version s.budget s.mark) (h0 : R0.busy = false) (h1 : s.busy = true) (hjn : hd ≤ jn) (hH : hd ≤ len) (hp : 0 < hd) (ho : D.On)
    (hr0 : R0.right = true) (hr1 : s.right = true) (hb0 : R0.boot + n + 1 < 4294967296) (hb1 : s.boot + n + 1 < 4294967296) (hrow : ∀ x ∈ L,x.2.length = 256) (ht0 : dg (hd - 1) (old (hd - 1)) = R0.root) (ht1 : dg (hd - 1) (toBe old L (hd - 1)) = s.root) :
    ∃ D' m,m ≤ n + 1 ∧ ((bootP opn mk dg hd hs jn D R = (D',later R0 m,later R0 m,0) ∧ Old hd old D') ∨ (bootP opn mk dg hd hs jn D R = (D',later (calm s) m,later (calm s) m,0) ∧ Old hd (toBe old L) D')) := by
  obtain ⟨hl,m,hm,h2⟩ := h
  rcases h2 with ⟨q,rfl⟩ | ⟨q,rfl⟩ | ⟨q,rfl⟩
  · have e := boot_calm_on (opn := opn) (mk := mk) (dg := dg) (hs := hs) (jn := jn) (R := later R0 m) q h0 ⟨hr0,by show R0.boot + m + 1 < _;omega⟩ ho hp ht0
    rw [later_up] at e
    exact ⟨_,m + 1,by omega,.inl ⟨e,q.same rfl rfl⟩⟩
  · have hj2 : Jr opn mk hd hs jn J L (later s m).version (later s m).budget (later s m).mark := hj
    obtain ⟨D',e,g1,-⟩ := boot_mid_on (dg := dg) (R := later s m) hj2 q h1 ⟨hr1,by show s.boot + m + 1 < _;omega⟩ ho hp hjn (by omega) hrow ht1
    rw [later_up,calm_later] at e
    exact ⟨D',m + 1,by omega,.inr ⟨e,g1⟩⟩
  · have e := boot_calm_on (opn := opn) (mk := mk) (dg := dg) (hs := hs) (jn := jn) (R := later (calm s) m) q rfl ⟨hr1,by show s.boot + m + 1 < _;omega⟩ ho hp ht1
    rw [later_up] at e
    exact ⟨_,m + 1,by omega,.inr ⟨e,q.same rfl rfl⟩⟩
/-- What was written last at a place stands there behind a flush. -/
theorem lay_hit {W : List (Nat × Row)} {st : List Row} {i k : Nat} {b : Row} (h : W[i]? = some (k,b)) (hr : ∀ (j : Nat) (x : Nat × Row),i < j → W[j]? = some x → x.1 ≠ k) (hk : k < st.length) : (lay st W).getD k [] = b := by
  rw [lay_getD W st hk,lastW_hit h (lastW_still fun x hx => ?_)]
  · rfl
  · obtain ⟨j,hj⟩ := List.mem_iff_getElem?.1 hx
    rw [List.getElem?_drop] at hj
    exact hr (i + 1 + j) x (by omega) hj
end
end Go.Proofs.YtdkimdobcacpfaaDoor.Dv
namespace Go.Proofs.YtdkimdobcacpfaaDoor.Dv
open Go.Proofs.YtdkimdobcacpfaaDoor.Sl Go.Proofs.YtdkimdobcacpfaaDoor.Tr Go.Proofs.YtdkimdobcacpfaaDoor.Jp

theorem range_map_eq {X : List Row} {f : Nat → Row} (h : ∀ (i : Nat) (x : Row),X[i]? = some x → f i = x) : (List.range X.length).map f = X := by
  refine List.ext_getElem? fun i => ?_
  rw [List.getElem?_map]
  by_cases hi : i < X.length
  · rw [List.getElem?_range hi,List.getElem?_eq_getElem hi]
    exact congrArg some (h i _ (List.getElem?_eq_getElem hi))
  · rw [List.getElem?_eq_none (by simpa using hi),List.getElem?_eq_none (by omega)]
    rfl
theorem jr_of {mk : List Row → List Row → List Int} {hd jn : Nat} {J : Nat → Row} {Bk : List Int} {I H : List Row} {v b : Int} (hv : 0 ≤ v ∧ v < 18446744073709551616) (hb : okB b) (hh : headOf v Bk b = some H)
    (hH : ∀ (i : Nat) (x : Row),H[i]? = some x → J (hd + i) = x) (hI : ∀ (i : Nat) (x : Row),I[i]? = some x → J (jn + i) = x) (hl : Bk.length = I.length) (hlow : ∀ x ∈ Bk,0 ≤ x ∧ x < (hd : Int)) :
    Jr openR mk hd H.length jn J ((Bk.map Int.toNat).zip I) v b (mk H I) := by
  obtain ⟨h1,h2⟩ := open_head hv hh
  have e1 : (List.range H.length).map (fun i => J (hd + i)) = H := range_map_eq hH
  have e2 : (List.range I.length).map (fun i => J (jn + i)) = I := range_map_eq hI
  have e3 : openR H b = (v,Bk,0) := by
    rw [openR_ok hb h1]
    unfold opened at h2
    have a := congrArg Prod.fst h2
    have c := congrArg Prod.snd h2
    simp only at a c
    rw [a,c]
  refine ⟨?_,?_,?_,?_,?_⟩
  · rw [e1,e3]
  · rw [e1,e3]
  · rw [e1,e3];exact hlow
  · rw [e1,e3]
    show _ = (Bk.map Int.toNat).zip ((List.range Bk.length).map fun i => J (jn + i))
    rw [hl,e2]
  · rw [e1,e3]
    show mk H ((List.range Bk.length).map fun i => J (jn + i)) = _
    rw [hl,e2]
end Go.Proofs.YtdkimdobcacpfaaDoor.Dv
