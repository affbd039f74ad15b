/-
  The device in plain words. It names no program.
  The register in plain words. It names no program.
  The device in plain words: the power goes, comes back; an adversary. It names no program.
-/
import Derived.Test.YtdkimdobcacpfaaDoorTrPlain
set_option linter.unusedSimpArgs false
set_option linter.unusedVariables false
namespace Go.Proofs.YtdkimdobcacpfaaDoor.Dv
open Go.Proofs.YtdkimdobcacpfaaDoor.Sl Go.Proofs.YtdkimdobcacpfaaDoor.Tr

/-- A device: what is stored, what waits, is it off, when the power goes, how many accesses there were, what was written. -/
structure Dev where
  st : List Row
  wt : List (Nat × Row)
  off : Bool
  armed : Nat
  count : Nat
  wr : List (Nat × Row)
def lastW : List (Nat × Row) → Nat → Option Row
  | [],_ => none
  | (a,b)::l,k => match lastW l k with
    | some r => some r
    | none => if a = k then some b else none
def Dev.now (D : Dev) (k : Nat) : Row := (lastW D.wt k).getD (D.st.getD k [])
def Dev.ready (D : Dev) (at' : Int) : Int := if D.off then 7 else if at' < 0 ∨ (D.st.length : Int) ≤ at' then 1 else 0
def Dev.spend (D : Dev) : Dev := { D with count := D.count + 1,armed := D.armed - 1,off := D.off || D.armed == 1 }
def Dev.put (D : Dev) (k : Nat) (b : Row) : Dev := { D with wt := D.wt ++ [(k,b)],wr := D.wr ++ [(k,b)] }
/-- .. the write alone, not yet noted. -/
def Dev.wait (D : Dev) (k : Nat) (b : Row) : Dev := { D with wt := D.wt ++ [(k,b)] }
def Dev.write (D : Dev) (at' : Int) (b : Row) : Dev × Int :=
  if D.ready at' ≠ 0 then (D,D.ready at') else if b.length ≠ 256 then (D,1) else (((D.put at'.toNat b).spend),if (D.put at'.toNat b).spend.off then 7 else 0)
def lay (st : List Row) : List (Nat × Row) → List Row
  | [] => st
  | (k,b)::l => lay (st.set k b) l
def Dev.stored (D : Dev) : Dev := { D with st := lay D.st D.wt,wt := [] }
def Dev.flush (D : Dev) : Dev × Int := if D.off then (D,7) else if D.spend.off then (D.spend,7) else (D.spend.stored,0)
def Dev.crash (D : Dev) : Dev := { D with off := true,armed := 0 }
/-- As a device is made. -/
def fresh (n : Nat) : Dev := ⟨List.replicate n z256,[],false,0,0,[]⟩
structure Dev.Ok (D : Dev) : Prop where
  n1 : 1 ≤ D.st.length
  n2 : D.st.length ≤ 65536
  st : ∀ r ∈ D.st,isRow r
  wt : ∀ x ∈ D.wt,x.1 < D.st.length ∧ isRow x.2
  wr : ∀ x ∈ D.wr,isRow x.2
/-- No number of it is too great. -/
structure Dev.Sz (D : Dev) : Prop where
  wt : D.wt.length ≤ 1000000
  wr : D.wr.length ≤ 1000000
  count : D.count ≤ 1000000000000
  armed : D.armed ≤ 9223372036854775807

theorem lastW_app : ∀ (l m : List (Nat × Row)) (k : Nat),lastW (l ++ m) k = (match lastW m k with
    | some r => some r
    | none => lastW l k)
  | [],m,k => by
    simp only [List.nil_append,lastW]
    cases lastW m k <;> rfl
  | (a,b)::l,m,k => by
    simp only [List.cons_append,lastW,lastW_app l m k]
    cases lastW m k <;> simp
theorem lastW_hit {l : List (Nat × Row)} {g k : Nat} {b : Row} (h : l[g]? = some (k,b)) (hr : lastW (l.drop (g + 1)) k = none) : lastW l k = some b := by
  have h1 : l = l.take g ++ ((k,b)::l.drop (g + 1)) := by
    obtain ⟨hlt,he⟩ := List.getElem?_eq_some_iff.1 h
    rw [← he,← List.drop_eq_getElem_cons hlt,List.take_append_drop]
  rw [h1,lastW_app]
  simp [lastW,hr]
theorem lastW_miss {l : List (Nat × Row)} {g a k : Nat} {b : Row} (h : l[g]? = some (a,b)) (hk : a ≠ k) (hr : lastW (l.drop (g + 1)) k = none) : lastW (l.drop g) k = none := by
  obtain ⟨hlt,he⟩ := List.getElem?_eq_some_iff.1 h
  rw [List.drop_eq_getElem_cons hlt,he]
  simp [lastW,hr,hk]
theorem lastW_mem : ∀ {l : List (Nat × Row)} {k : Nat} {r : Row},lastW l k = some r → (k,r) ∈ l
  | [],_,_,h => by cases h
  | (a,b)::l,k,r,h => by
    simp only [lastW] at h
    split at h
    · rename_i r' h'
      cases h
      exact List.mem_cons_of_mem _ (lastW_mem h')
    · split at h
      · rename_i e
        cases h
        subst e
        simp
      · cases h
theorem lay_length : ∀ (l : List (Nat × Row)) (st : List Row),(lay st l).length = st.length
  | [],_ => rfl
  | (k,b)::l,st => by rw [lay,lay_length l];simp
theorem lay_append : ∀ (l : List (Nat × Row)) (st : List Row) (k : Nat) (b : Row),lay st (l ++ [(k,b)]) = (lay st l).set k b
  | [],_,_,_ => rfl
  | (a,c)::l,st,k,b => by simp only [List.cons_append,lay];exact lay_append l _ k b
theorem lay_get : ∀ (l : List (Nat × Row)) (st : List Row) (k : Nat),k < st.length → (lay st l)[k]? = some ((lastW l k).getD (st.getD k []))
  | [],st,k,h => by simp [lay,lastW,h]
  | (a,b)::l,st,k,h => by
    rw [lay,lay_get l _ k (by simpa using h)]
    simp only [lastW]
    cases hl : lastW l k with
    | some r => simp
    | none =>
      simp only [Option.getD_none]
      by_cases e : a = k
      · subst e
        simp [h]
      · simp [e]
theorem lay_row : ∀ (l : List (Nat × Row)) (st : List Row),(∀ r ∈ st,isRow r) → (∀ x ∈ l,isRow x.2) → ∀ r ∈ lay st l,isRow r
  | [],_,h,_ => h
  | (k,b)::l,st,h,hl => lay_row l _ (fun r hr => by
      rcases List.mem_or_eq_of_mem_set hr with h1 | h1
      · exact h r h1
      · rw [h1];exact hl (k,b) (by simp)) fun x hx => hl x (by simp [hx])
section
variable {D : Dev} {n k : Nat} {b : Row}
theorem Dev.Ok.now (h : D.Ok) (hk : k < D.st.length) : isRow (D.now k) := by
  unfold Dev.now
  cases hl : lastW D.wt k with
  | some r => exact (h.wt _ (lastW_mem hl)).2
  | none => exact h.st _ (by simp [hk])
theorem Dev.Ok.spend (h : D.Ok) : D.spend.Ok := ⟨h.n1,h.n2,h.st,h.wt,h.wr⟩
theorem Dev.Ok.put (h : D.Ok) (hk : k < D.st.length) (hb : isRow b) : (D.put k b).Ok :=
  ⟨h.n1,h.n2,h.st,fun x hx => by
    rcases List.mem_append.1 hx with h1 | h1
    · exact h.wt x h1
    · rw [List.mem_singleton.1 h1];exact ⟨hk,hb⟩,fun x hx => by
    rcases List.mem_append.1 hx with h1 | h1
    · exact h.wr x h1
    · rw [List.mem_singleton.1 h1];exact hb⟩
theorem Dev.Ok.wait (h : D.Ok) (hk : k < D.st.length) (hb : isRow b) : (D.wait k b).Ok := ⟨h.n1,h.n2,h.st,(h.put hk hb).wt,h.wr⟩
theorem Dev.Ok.stored (h : D.Ok) : D.stored.Ok :=
  ⟨by show 1 ≤ (lay D.st D.wt).length;rw [lay_length];exact h.n1,by show (lay D.st D.wt).length ≤ _;rw [lay_length];exact h.n2,lay_row _ _ h.st fun x hx => (h.wt x hx).2,(fun x hx => by cases hx),h.wr⟩
theorem Dev.Ok.crash (h : D.Ok) : D.crash.Ok := ⟨h.n1,h.n2,h.st,h.wt,h.wr⟩
theorem fresh_ok (h1 : 1 ≤ n) (h2 : n ≤ 65536) : (fresh n).Ok :=
  ⟨by simp [fresh,h1],by simp [fresh,h2],fun r hr => by rw [(List.mem_replicate.1 hr).2];exact isRow_z,(fun x hx => by cases hx),(fun x hx => by cases hx)⟩
theorem Dev.Ok.write (h : D.Ok) {at' : Int} (hb : ∀ x ∈ b,okByte x) : (D.write at' b).1.Ok := by
  unfold Dev.write
  split
  · exact h
  · rename_i hr
    split
    · exact h
    · rename_i hl
      have hr2 : D.ready at' = 0 := by simpa using hr
      have hl2 : b.length = 256 := by simpa using hl
      refine (h.put ?_ ⟨hl2,hb⟩).spend
      unfold Dev.ready at hr2
      split at hr2
      · cases hr2
      · split at hr2
        · cases hr2
        · omega
theorem Dev.Ok.flush (h : D.Ok) : D.flush.1.Ok := by
  unfold Dev.flush
  split
  · exact h
  · split
    · exact h.spend
    · exact h.spend.stored
end
end Go.Proofs.YtdkimdobcacpfaaDoor.Dv
namespace Go.Proofs.YtdkimdobcacpfaaDoor.Dv
open Go.Proofs.YtdkimdobcacpfaaDoor.Sl Go.Proofs.YtdkimdobcacpfaaDoor.Tr

/-- What a register holds. -/
structure Rg where
  pages : Int
  budget : Int
  wide : Bool
  boot : Int
  version : Int
  epoch : Int
  cursor : Int
  busy : Bool
  root : List Int
  mark : List Int
deriving DecidableEq
def zero32 : List Int := List.replicate 32 0
def st0 : Rg := ⟨0,0,false,0,0,0,0,false,zero32,zero32⟩
/-- Digests: 32 bytes. -/
def isDig (r : List Int) : Prop := r.length = 32 ∧ ∀ x ∈ r,okByte x
theorem isDig_zero : isDig zero32 := ⟨List.length_replicate,fun x hx => by rw [(List.mem_replicate.1 hx).2];unfold okByte;omega⟩
structure Rg.Wf (s : Rg) : Prop where
  pages : -9223372036854775808 ≤ s.pages ∧ s.pages < 9223372036854775808
  budget : -9223372036854775808 ≤ s.budget ∧ s.budget < 9223372036854775808
  boot : 0 ≤ s.boot ∧ s.boot < 4294967296
  version : 0 ≤ s.version ∧ s.version < 18446744073709551616
  epoch : 0 ≤ s.epoch ∧ s.epoch < 4294967296
  cursor : -9223372036854775808 ≤ s.cursor ∧ s.cursor < 9223372036854775808
  root : isDig s.root
  mark : isDig s.mark
theorem st0_wf : st0.Wf := ⟨by decide,by decide,by decide,by decide,by decide,by decide,isDig_zero,isDig_zero⟩
/-- May it be? -/
def Rg.right (s : Rg) : Bool := decide (1 ≤ s.pages) && decide (s.pages ≤ 4096) && decide (1 ≤ s.budget) && decide (s.budget ≤ 256) && decide (0 ≤ s.cursor) && decide (s.cursor ≤ s.pages) && decide (0 < s.epoch)
/-- May b follow? -/
def Rg.follows (a b : Rg) : Bool :=
  b.right && (decide (a = st0) || (decide (a.pages = b.pages) && decide (a.budget = b.budget) && decide (a.wide = b.wide) && decide (a.boot ≤ b.boot) && decide (a.version ≤ b.version) && decide (a.epoch ≤ b.epoch)))
/-- The register is written: the device, what it holds then, what is answered. -/
def regWrite (D : Dev) (R s : Rg) : Dev × Rg × Int :=
  if D.off then (D,R,7) else if R.follows s then (if D.spend.off then (D.spend,R,7) else (D.spend,s,0)) else (D,R,3)
end Go.Proofs.YtdkimdobcacpfaaDoor.Dv
namespace Go.Proofs.YtdkimdobcacpfaaDoor.Dv
open Go.Proofs.YtdkimdobcacpfaaDoor.Sl Go.Proofs.YtdkimdobcacpfaaDoor.Tr

/-- How many bytes of write i are stored. -/
def fateOf (F : List Int) (i : Nat) : Nat := if F.length = 0 then 0 else ((F.getD (i % F.length) 0) % 257).toNat
def cutR (new old : Row) (k : Nat) : Row := new.take k ++ old.drop k
def layP (F : List Int) : List Row → Nat → List (Nat × Row) → List Row
  | st,_,[] => st
  | st,i,(k,b)::l => layP F (st.set k (cutR b (st.getD k []) (fateOf F i))) (i + 1) l
def Dev.arm (D : Dev) (n : Int) : Dev := if D.off then D else { D with armed := n.toNat }
def Dev.on (D : Dev) (F : List Int) : Dev := if D.off then { D with st := layP F D.st 0 D.wt,wt := [],off := false,armed := 0 } else D
theorem fateOf_le (F : List Int) (i : Nat) : fateOf F i ≤ 256 := by
  unfold fateOf
  split
  · omega
  · have h1 := Int.emod_nonneg (F.getD (i % F.length) 0) (show (257 : Int) ≠ 0 by omega)
    have h2 := Int.emod_lt_of_pos (F.getD (i % F.length) 0) (show (0 : Int) < 257 by omega)
    omega
theorem isRow_cut {new old : Row} {k : Nat} (h1 : isRow new) (h2 : isRow old) (hk : k ≤ 256) : isRow (cutR new old k) :=
  ⟨by unfold cutR;rw [List.length_append,List.length_take,List.length_drop,h1.1,h2.1];omega,fun x hx => by
    unfold cutR at hx
    rcases List.mem_append.1 hx with h | h
    · exact h1.2 x (List.mem_of_mem_take h)
    · exact h2.2 x (List.mem_of_mem_drop h)⟩
theorem layP_length (F : List Int) : ∀ (l : List (Nat × Row)) (st : List Row) (i : Nat),(layP F st i l).length = st.length
  | [],_,_ => rfl
  | (k,b)::l,st,i => by rw [layP,layP_length F l];simp
theorem layP_row (F : List Int) : ∀ (l : List (Nat × Row)) (st : List Row) (i : Nat),(∀ r ∈ st,isRow r) → (∀ x ∈ l,x.1 < st.length ∧ isRow x.2) → ∀ r ∈ layP F st i l,isRow r
  | [],_,_,h,_ => h
  | (k,b)::l,st,i,h,hl => by
    have hb := hl (k,b) (by simp)
    refine layP_row F l _ (i + 1) (fun r hr => ?_) fun x hx => ⟨by rw [List.length_set];exact (hl x (by simp [hx])).1,(hl x (by simp [hx])).2⟩
    rcases List.mem_or_eq_of_mem_set hr with h1 | h1
    · exact h r h1
    · rw [h1]
      refine isRow_cut hb.2 (h _ ?_) (fateOf_le F i)
      simp [hb.1]
theorem layP_take (F : List Int) : ∀ (l : List (Nat × Row)) (st : List Row) (i j : Nat) (a : Nat) (b : Row),l[j]? = some (a,b) → layP F st i (l.take (j + 1)) = (layP F st i (l.take j)).set a (cutR b ((layP F st i (l.take j)).getD a []) (fateOf F (i + j)))
  | [],_,_,_,_,_,h => by simp at h
  | (k,c)::l,st,i,0,a,b,h => by
    simp at h
    obtain ⟨rfl,rfl⟩ := h
    simp [layP]
  | (k,c)::l,st,i,j + 1,a,b,h => by
    have h1 : l[j]? = some (a,b) := by simpa using h
    have ih := layP_take F l (st.set k (cutR c (st.getD k []) (fateOf F i))) (i + 1) j a b h1
    rw [List.take_succ_cons,layP,ih,show i + 1 + j = i + (j + 1) by omega]
    rfl
section
variable {D : Dev}
theorem Dev.Ok.arm (h : D.Ok) (n : Int) : (D.arm n).Ok := by
  unfold Dev.arm
  split
  · exact h
  · exact ⟨h.n1,h.n2,h.st,h.wt,h.wr⟩
theorem Dev.Ok.on (h : D.Ok) (F : List Int) : (D.on F).Ok := by
  unfold Dev.on
  split
  · exact ⟨by show 1 ≤ (layP F D.st 0 D.wt).length;rw [layP_length];exact h.n1,by show (layP F D.st 0 D.wt).length ≤ _;rw [layP_length];exact h.n2,layP_row F _ _ _ h.st h.wt,(fun x hx => by cases hx),h.wr⟩
  · exact h
end
end Go.Proofs.YtdkimdobcacpfaaDoor.Dv
