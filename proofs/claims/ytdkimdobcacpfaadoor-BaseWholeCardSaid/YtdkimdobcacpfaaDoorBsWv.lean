/-
  BaseWhole in plain words: what is formatted; the puts; a job cut or done; boots; what is read then.
  BaseWhole: all blocks read; how great things are behind boots; what all blocks are to be.
  BaseWhole: a job in a loop, one step a round.
  BaseWhole: the walk.
  BaseWhole: what the job leaves, at the law's own register and device.
  BaseWhole: the last boot, in plain words.
-/
import Derived.Test.YtdkimdobcacpfaaDoorBsWF
import Derived.Test.YtdkimdobcacpfaaDoorJbI
import Derived.Test.YtdkimdobcacpfaaDoorBsBt
import Derived.Test.YtdkimdobcacpfaaDoorSpPick
import Derived.Test.YtdkimdobcacpfaaDoorDvB
set_option linter.unusedSimpArgs false
set_option linter.unusedVariables false
namespace Go.Proofs.YtdkimdobcacpfaaDoor
open Go.RowKit Go.Proofs.YtdkimdobcacpfaaDoor.Sl Go.Proofs.YtdkimdobcacpfaaDoor.Sha Go.Proofs.YtdkimdobcacpfaaDoor.Jp Go.Proofs.YtdkimdobcacpfaaDoor.Tr Go.Proofs.YtdkimdobcacpfaaDoor.Dv

/-! ### The plan -/
theorem pl40 {P : Nat} (h1 : 1 ≤ P) (h3 : P ≤ 40) : plC P = cC P ∧ plN P = 1 ∧ plM P = 1 ∧ cM P = 1 ∧ plHd 20 = 1 ∧ plH P = P + cC P + 1 ∧ plJ P 20 = P + cC P + 2 ∧ plT P 20 = P + cC P + 42 := by
  obtain ⟨hc3,hc1,hcl,hcn⟩ := c40 h1 h3
  have e1 : plC P = cC P := by unfold plC ceil cC;omega
  have e2 : ceil (plC P) 8 = 1 := by rw [e1];unfold ceil;omega
  have e3 : plLv P = [1] := by
    unfold plLv
    rw [lvGo,e2,if_neg (by omega)]
  have e4 : plN P = 1 := by unfold plN;rw [e3];rfl
  have e5 : plM P = 1 := by unfold plM;rw [e3];rfl
  have e6 : cM P = 1 := by unfold cM;rw [hcl,hcn];rfl
  have e7 : plHd 20 = 1 := rfl
  have e8 : plH P = P + cC P + 1 := by unfold plH;rw [e1,e4]
  have e9 : plJ P 20 = P + cC P + 2 := by unfold plJ;rw [e8,e7]
  exact ⟨e1,e4,e5,e6,e7,e8,e9,by unfold plT;rw [e9]⟩
/-! ### Rows laid one behind the other -/
def placeL (k : Nat) : List Row → List (Nat × Row)
  | [] => []
  | r::l => (k,r)::placeL (k + 1) l
theorem placeL_get : ∀ (l : List Row) (k i : Nat),(placeL k l)[i]? = (l[i]?).map fun r => (k + i,r)
  | [],k,i => by simp [placeL]
  | r::l,k,0 => by simp [placeL]
  | r::l,k,i + 1 => by
    simp only [placeL,List.getElem?_cons_succ,placeL_get l (k + 1) i]
    cases l[i]? with
    | none => rfl
    | some x => simp;omega
theorem placeL_len : ∀ (l : List Row) (k : Nat),(placeL k l).length = l.length
  | [],_ => rfl
  | _::l,k => by simp [placeL,placeL_len l]
theorem placeL_app : ∀ (l m : List Row) (k : Nat),placeL k (l ++ m) = placeL k l ++ placeL (k + l.length) m
  | [],m,k => by simp [placeL]
  | r::l,m,k => by
    simp only [List.cons_append,placeL,placeL_app l m (k + 1),List.length_cons]
    rw [show k + 1 + l.length = k + (l.length + 1) by omega]
theorem placeL_lay {l : List Row} {k i : Nat} {r : Row} {st : List Row} (h : l[i]? = some r) (hk : k + i < st.length) : (lay st (placeL k l)).getD (k + i) [] = r := by
  refine lay_hit (i := i) (by rw [placeL_get,h];rfl) (fun j x hj hx => ?_) hk
  rw [placeL_get] at hx
  obtain ⟨y,hy,he⟩ := Option.map_eq_some_iff.1 hx
  rw [← he]
  show k + j ≠ k + i
  omega
theorem wrAll_on : ∀ (l : List Row) (D : Dev) (k n : Nat),D.On → k + l.length ≤ D.st.length → (∀ r ∈ l,r.length = 256) → (D.wt.length ≤ n ∧ D.wr.length ≤ n ∧ D.count ≤ n ∧ D.armed ≤ 9223372036854775807) →
    (wrAll D k l).2 = 0 ∧ (wrAll D k l).1.On ∧ (wrAll D k l).1.st = D.st ∧ (wrAll D k l).1.wt = D.wt ++ placeL k l ∧ ((wrAll D k l).1.wt.length ≤ n + l.length ∧ (wrAll D k l).1.wr.length ≤ n + l.length ∧ (wrAll D k l).1.count ≤ n + l.length ∧ (wrAll D k l).1.armed ≤ 9223372036854775807)
  | [],D,k,n,h,_,_,hs => ⟨rfl,h,rfl,by simp [wrAll,placeL],hs⟩
  | r::l,D,k,n,h,hl,hr,hs => by
    simp only [List.length_cons] at hl
    obtain ⟨h1,h2⟩ := on_write h (a := k) (b := r) (by omega) (hr r (by simp))
    have h3 := (write_ok h1).1
    have h4 := write_sz (k := (k : Int)) (r := r) hs
    have h5 : (D.write (k : Int) r).1.st = D.st := write_st
    rw [wrAll,if_pos h1]
    obtain ⟨a1,a2,a3,a4,a5⟩ := wrAll_on l (D.write (k : Int) r).1 (k + 1) (n + 1) h2 (by rw [h5];omega) (fun x hx => hr x (by simp [hx])) h4
    refine ⟨a1,a2,a3.trans h5,?_,by simp only [List.length_cons];exact ⟨by omega,by omega,by omega,a5.2.2.2⟩⟩
    rw [a4,h3,placeL]
    simp
/-! ### What is formatted -/
def cfW (P : Nat) : Cf := ⟨P,20,0,0,false,0,0⟩
theorem newNd40 {P : Nat} (h1 : 1 ≤ P) (h3 : P ≤ 40) : ∃ nd,newNd P = [nd] ∧ newRoot P = dig (P + cC P) nd ∧ isRow nd := by
  obtain ⟨e1,-,e3,e4,-⟩ := pl40 h1 h3
  obtain ⟨hc3,hc1,hcl,hcn⟩ := c40 h1 h3
  have hbl : (newBs P).length = cC P := by unfold newBs;rw [List.length_replicate,e1]
  obtain ⟨-,a1,a2,a3,a4,a5⟩ := built h1 (by omega) hbl
  rw [e4] at a1 a2 a3 a4 a5
  rw [hcn] at a1 a3 a4 a5
  have hn : newNd P = (stB dig P (newBs P) 1).2.2 := by unfold newNd;rw [e3]
  have hr : newRoot P = dig (stB dig P (newBs P) 1).1 ((stB dig P (newBs P) 1).2.1.getD 0 []) := by unfold newRoot;rw [e3]
  match hm : (stB dig P (newBs P) 1).2.2,a5 with
  | [nd],_ =>
    rw [hm] at a4 a1
    have h2 : (stB dig P (newBs P) 1).1 = P + cC P := by omega
    have h4 : nd = (stB dig P (newBs P) 1).2.1.getD 0 [] := a4
    refine ⟨nd,hn.trans hm,by rw [hr,h2,← h4],?_⟩
    have hz : ∀ r ∈ newBs P,isRow r := fun r hr => by unfold newBs at hr;rw [(List.mem_replicate.1 hr).2];exact isRow_z
    exact all_rows dig_len' dig_okB P (cC P) (cL P) 1 (newBs P) hz (cC P + 1) nd (by rw [a1];simp)
theorem fmt_plain {P : Nat} (h1 : 1 ≤ P) (h3 : P ≤ 40) : ∃ D1,(wrAll (fresh (P + cC P + 42)) P (newBs P ++ newNd P)).2 = 0 ∧ (wrAll (fresh (P + cC P + 42)) P (newBs P ++ newNd P)).1.flush.2 = 0 ∧
    regWrite (wrAll (fresh (P + cC P + 42)) P (newBs P ++ newNd P)).1.flush.1 st0 (newSt (cfW P)) = (D1,newSt (cfW P),0) ∧ D1.On ∧ D1.wt = [] ∧ D1.st.length = P + cC P + 42 ∧ dig (P + cC P) (D1.st.getD (P + cC P) []) = newRoot P ∧
    (D1.wt.length ≤ 100 ∧ D1.wr.length ≤ 100 ∧ D1.count ≤ 100 ∧ D1.armed ≤ 9223372036854775807) := by
  obtain ⟨nd,hnd,hroot,hrow⟩ := newNd40 h1 h3
  obtain ⟨e1,-⟩ := pl40 h1 h3
  obtain ⟨hc3,hc1,-,-⟩ := c40 h1 h3
  have hbl : (newBs P).length = cC P := by unfold newBs;rw [List.length_replicate,e1]
  have hl : (newBs P ++ newNd P).length = cC P + 1 := by rw [List.length_append,hbl,hnd];rfl
  have hst : (fresh (P + cC P + 42)).st.length = P + cC P + 42 := by unfold fresh;exact List.length_replicate
  have hr : ∀ r ∈ newBs P ++ newNd P,r.length = 256 := fun r hr => by
    rcases List.mem_append.1 hr with h | h
    · unfold newBs at h;rw [(List.mem_replicate.1 h).2];exact isRow_z.1
    · rw [hnd] at h;rw [List.mem_singleton.1 h];exact hrow.1
  obtain ⟨a1,a2,a3,a4,a5⟩ := wrAll_on (newBs P ++ newNd P) (fresh (P + cC P + 42)) P 0 ⟨rfl,rfl⟩ (by rw [hst,hl];omega) hr ⟨Nat.le_refl _,Nat.le_refl _,Nat.le_refl _,by show 0 ≤ 9223372036854775807;omega⟩
  obtain ⟨f1,f2⟩ := on_flush a2
  have hfl : st0.follows (newSt (cfW P)) = true := by
    unfold Rg.follows
    have hp1 : decide (1 ≤ (P : Int)) = true := decide_eq_true (by omega)
    have hp2 : decide ((P : Int) ≤ 4096) = true := decide_eq_true (by omega)
    have hp3 : decide ((0 : Int) ≤ (P : Int)) = true := decide_eq_true (by omega)
    have hp4 : decide ((P : Int) ≤ (P : Int)) = true := decide_eq_true (by omega)
    have hr : (newSt (cfW P)).right = true := by
      unfold Rg.right
      show (decide (1 ≤ (P : Int)) && decide ((P : Int) ≤ 4096) && decide ((1 : Int) ≤ 20) && decide ((20 : Int) ≤ 256) && decide ((0 : Int) ≤ (P : Int)) && decide ((P : Int) ≤ (P : Int)) && decide ((0 : Int) < 1)) = true
      rw [hp1,hp2,hp3,hp4];rfl
    rw [hr,show decide (st0 = st0) = true from decide_eq_true rfl]
    rfl
  have hrg := on_reg (s := newSt (cfW P)) (R := st0) f2 hfl
  have hfs := flush_szn a5
  generalize hD0 : (wrAll (fresh (P + cC P + 42)) P (newBs P ++ newNd P)).1 = D0 at *
  have hflc := flush_cases D0
  rcases hflc with ⟨hh,-,-⟩ | ⟨-,g1,g2⟩
  · exact absurd f1 hh
  refine ⟨D0.flush.1.spend,a1,f1,hrg,f2.spend,g2,?_,?_,?_⟩
  · show D0.flush.1.st.length = _
    rw [g1,lay_length,a3,hst]
  · show dig (P + cC P) (D0.flush.1.st.getD (P + cC P) []) = _
    have hx : (newBs P ++ newNd P)[cC P]? = some nd := by rw [List.getElem?_append_right (by omega),hbl,Nat.sub_self,hnd];rfl
    have h5 : (lay D0.st (placeL P (newBs P ++ newNd P))).getD (P + cC P) [] = nd := placeL_lay hx (by rw [a3,hst];omega)
    rw [g1,a4]
    show dig (P + cC P) ((lay D0.st ([] ++ placeL P (newBs P ++ newNd P))).getD (P + cC P) []) = _
    rw [List.nil_append,h5,hroot]
  · rw [hl] at hfs
    exact ⟨by show D0.flush.1.wt.length ≤ _;omega,by show D0.flush.1.wr.length ≤ _;omega,by show D0.flush.1.count + 1 ≤ _;omega,by show D0.flush.1.armed - 1 ≤ _;omega⟩
/-! ### The puts -/
def placeJ (jn : Nat) (A : List (Nat × Row)) : List (Nat × Row) := placeL jn (A.map (·.2))
structure PutI (hd jn : Nat) (old : Nat → Row) (st : List Row) (A : List (Nat × Row)) (k : Nat) (D : Dev) (L : List (Nat × Row)) : Prop where
  old : Old hd old D
  st : D.st = st
  on : D.off = false → L = A.take k ∧ D.wt = placeJ jn (A.take k)
  len : L.length ≤ k
theorem PutI.next {hd jn k : Nat} {old : Nat → Row} {st : List Row} {A L : List (Nat × Row)} {D : Dev} {a : Nat} {B : Row} (h : PutI hd jn old st A k D L) (hA : A[k]? = some (a,B)) (hB : B.length = 256) (hj : hd ≤ jn) (hr : jn + k < st.length) :
    PutI hd jn old st A (k + 1) (D.write ((jn + L.length : Nat) : Int) B).1 (putL (D.write ((jn + L.length : Nat) : Int) B).2 L a B) := by
  have hkA : k < A.length := (List.getElem?_eq_some_iff.1 hA).1
  have hl := h.len
  have hlen : (putL (D.write ((jn + L.length : Nat) : Int) B).2 L a B).length ≤ k + 1 := by
    unfold putL
    split
    · rw [List.length_append,List.length_cons,List.length_nil];omega
    · omega
  refine ⟨h.old.write (by omega) B,(write_st).trans h.st,fun ho => ?_,hlen⟩
  cases hoff : D.off with
  | true =>
    exfalso
    have hr7 : D.ready ((jn + L.length : Nat) : Int) = 7 := by unfold Dev.ready;rw [if_pos hoff]
    have : (D.write ((jn + L.length : Nat) : Int) B).1 = D := by
      unfold Dev.write
      rw [if_pos (by rw [hr7];omega)]
    rw [this,hoff] at ho
    cases ho
  | false =>
    obtain ⟨h1,h2⟩ := h.on hoff
    have hLk : L.length = k := by rw [h1,List.length_take];omega
    have hr0 : D.ready ((jn + L.length : Nat) : Int) = 0 := by
      unfold Dev.ready
      rw [hoff]
      simp only [Bool.false_eq_true,if_false]
      rw [if_neg (by rw [h.st,hLk];omega)]
    have hc : (D.write ((jn + L.length : Nat) : Int) B).2 = 0 := by
      unfold Dev.write at ho ⊢
      rw [if_neg (not_not_intro hr0),if_neg (not_not_intro hB)] at ho ⊢
      show (if _ then _ else _) = _
      rw [if_neg (by rw [ho];simp)]
    obtain ⟨w1,-,-⟩ := write_ok hc
    have e3 : A.take (k + 1) = A.take k ++ [(a,B)] := by rw [List.take_add_one,hA];rfl
    refine ⟨?_,?_⟩
    · unfold putL
      rw [if_pos hc,e3,h1]
    · rw [w1,h2,e3]
      unfold placeJ
      rw [List.map_append,placeL_app,List.length_map,List.length_take,Nat.min_eq_left (by omega),hLk]
      rfl
/-! ### A job cut or done -/
theorem stepJ_up {D : Dev} {R : Rg} {x : SK} (h : (stepJ dig D R x).2.2 = 0) : (stepJ dig D R x).1.off = false := by
  cases x with
  | wr k b => exact (write_ok h).2.2
  | fl => exact flush_up h
  | rg s => exact (reg_up h).1
  | hm k src A =>
    rw [stepJ_hm] at h ⊢
    have h1 : (homP D k src A).2 = 0 := h
    show (homP D k src A).1.off = false
    unfold homP at h1 ⊢
    by_cases h2 : D.ready src ≠ 0
    · rw [if_pos h2] at h1;exact absurd h1 h2
    · rw [if_neg h2] at h1 ⊢
      by_cases h3 : dig k (D.now src) ≠ A
      · rw [if_pos h3] at h1;cases h1
      · rw [if_neg h3] at h1 ⊢
        exact (write_ok h1).2.2
theorem later_zero (R : Rg) : later R 0 = R := by
  unfold later
  simp
/-- What a job left: nothing has gone home, or the journal stands, or all has gone home (if it was done: that). -/
def Wh (hd jn T : Nat) (old : Nat → Row) (L : List (Nat × Row)) (R2 s : Rg) (done : Bool) (m : Nat) (D : Dev) (R : Rg) : Prop :=
  ∃ J,Jr openR mkF hd 1 jn J L s.version s.budget s.mark ∧ Three hd (if done then toBe old L else old) L J (if done then calm s else R2) s T m D R
theorem zip_self : ∀ L : List (Nat × Row),(L.map fun x => x.1).zip (L.map fun x => x.2) = L
  | [] => rfl
  | (a,b)::l => by simp only [List.map_cons,List.zip_cons_cons,zip_self l]
/-- Where the journal's head and its images are to stand. -/
def jOf (hd jn : Nat) (h0 : Row) (L : List (Nat × Row)) (k : Nat) : Row := if k = hd then h0 else (L.map (·.2)).getD (k - jn) []
section
variable {hd jn T : Nat} {old : Nat → Row} {L : List (Nat × Row)} {R2 s0 : Rg} {D : Dev} {b : Nat} {h0 : Row} {mk : List Int}
theorem busyR_mark (s : Rg) (m : List Int) : (busyR s m).mark = m ∧ (busyR s m).version = s.version ∧ (busyR s m).budget = s.budget := ⟨rfl,rfl,rfl⟩
theorem jr_any {J : Nat → Row} (hmk : mkF [h0] (L.map (·.2)) = mk) (hb : 1 ≤ b ∧ b ≤ 256) (hv : 0 ≤ s0.version ∧ s0.version < 18446744073709551616) (hsb : s0.budget = (b : Int)) (hH : headR s0.version L b = [h0]) (hL : L.length ≤ b) (hlow : ∀ x ∈ L,x.1 < hd) (hhd : hd ≤ 65536)
    (hJ0 : J hd = h0) (hJi : ∀ (i : Nat) (x : Nat × Row),L[i]? = some x → J (jn + i) = x.2) : Jr openR mkF hd 1 jn J L (busyR s0 mk).version (busyR s0 mk).budget (busyR s0 mk).mark := by
  have hok : okL (jobBs L) b := ⟨⟨by omega,by omega⟩,by unfold jobBs;rw [List.length_map];omega,fun x hx => by
    obtain ⟨y,hy,rfl⟩ := List.mem_map.1 hx
    have := hlow y hy
    omega⟩
  have hh : headOf s0.version (jobBs L) (b : Int) = some [h0] := by
    rw [headOf_some hok,← hH];rfl
  have hz : ((jobBs L).map Int.toNat).zip (L.map (·.2)) = L := by
    unfold jobBs
    rw [List.map_map]
    have : (Int.toNat ∘ fun x : Nat × Row => (x.1 : Int)) = fun x => x.1 := by funext x;simp
    rw [this]
    exact zip_self L
  have h1 := jr_of (mk := mkF) (hd := hd) (jn := jn) (J := J) (Bk := jobBs L) (I := L.map (·.2)) (H := [h0]) hv (b := (b : Int)) ⟨by omega,by omega⟩ hh
    (fun i x hx => by
      cases i with
      | zero => simp at hx;rw [← hx];exact hJ0
      | succ i => simp at hx)
    (fun i x hx => by
      rw [List.getElem?_map] at hx
      obtain ⟨y,hy,he⟩ := Option.map_eq_some_iff.1 hx
      rw [← he]
      exact hJi i y hy)
    (by unfold jobBs;simp) (fun x hx => by
      obtain ⟨y,hy,rfl⟩ := List.mem_map.1 hx
      have := hlow y hy
      omega)
  rw [hz,hmk] at h1
  obtain ⟨e1,e2,e3⟩ := busyR_mark s0 mk
  rw [e1,e2,e3,hsb]
  exact h1
/-- The power went while images were put. -/
theorem Wh.cut {A : List (Nat × Row)} {k : Nat} {st : List Row} {LL : List (Nat × Row)} (hmk : mkF [h0] (L.map (·.2)) = mk) (hb : 1 ≤ b ∧ b ≤ 256) (hv : 0 ≤ s0.version ∧ s0.version < 18446744073709551616) (hsb : s0.budget = (b : Int)) (hH : headR s0.version L b = [h0]) (hL : L.length ≤ b) (hlow : ∀ x ∈ L,x.1 < hd) (hhd : hd ≤ 65536) (hjn : hd < jn)
    (h : PutI hd jn old st A k D LL) (hT : st.length = T) : Wh hd jn T old L R2 (busyR s0 mk) false 0 D R2 := by
  refine ⟨jOf hd jn h0 L,jr_any hmk hb hv hsb hH hL hlow hhd (by unfold jOf;rw [if_pos rfl]) (fun i x hx => ?_),by rw [h.st,hT],0,Nat.le_refl _,.inl ⟨h.old,(later_zero R2).symm⟩⟩
  unfold jOf
  rw [if_neg (by omega),show jn + i - jn = i by omega,List.getD_eq_getElem?_getD,List.getElem?_map,hx]
  rfl
/-- A job at work, cut or done. -/
theorem Wh.ran {st : List Row} (hmk : mkF [h0] (L.map (·.2)) = mk) (hb : 1 ≤ b ∧ b ≤ 256) (hv : 0 ≤ s0.version ∧ s0.version < 18446744073709551616) (hsb : s0.budget = (b : Int)) (hH : headR s0.version L b = [h0]) (hh0 : isRow h0) (hL : L.length ≤ b) (hlow : ∀ x ∈ L,x.1 < hd) (hrow : ∀ x ∈ L,x.2.length = 256) (hhd : hd ≤ 65536) (hjn : hd < jn)
    (h : PutI hd jn old st L L.length D L) (ho : D.off = false) (hT : st.length = T) (hjT : jn + L.length ≤ T) (hf : R2.follows (busyR s0 mk) = true) (hr : (busyR s0 mk).right = true) :
    ((runJ dig D R2 (stepsJ dig jn (headWs hd [h0]) L (busyR s0 mk))).2.2 ≠ 0 → (runJ dig D R2 (stepsJ dig jn (headWs hd [h0]) L (busyR s0 mk))).1.off = true) ∧
    Wh hd jn T old L R2 (busyR s0 mk) (decide ((runJ dig D R2 (stepsJ dig jn (headWs hd [h0]) L (busyR s0 mk))).2.2 = 0)) 0 (runJ dig D R2 (stepsJ dig jn (headWs hd [h0]) L (busyR s0 mk))).1 (runJ dig D R2 (stepsJ dig jn (headWs hd [h0]) L (busyR s0 mk))).2.1 := by
  obtain ⟨-,hw⟩ := h.on ho
  rw [List.take_length] at hw
  have hwd : headWs hd [h0] = [(hd,h0)] := rfl
  have hstl : D.st.length = T := by rw [h.st,hT]
  have hJi : ∀ (j : Nat) (x : Nat × Row),L[j]? = some x → (lay D.st (D.wt ++ headWs hd [h0])).getD (jn + j) [] = x.2 := fun j x hx => by
    have hjl := (List.getElem?_eq_some_iff.1 hx).1
    have hp : (placeJ jn L)[j]? = some (jn + j,x.2) := by unfold placeJ;rw [placeL_get,List.getElem?_map,hx];rfl
    have hpl := (List.getElem?_eq_some_iff.1 hp).1
    refine lay_hit (i := j) (by rw [hw,List.getElem?_append_left hpl];exact hp) (fun i y hi hy => ?_) (by omega)
    rw [hw,hwd] at hy
    by_cases hi2 : i < (placeJ jn L).length
    · rw [List.getElem?_append_left hi2] at hy
      unfold placeJ at hy
      rw [placeL_get] at hy
      obtain ⟨z,_,he⟩ := Option.map_eq_some_iff.1 hy
      rw [← he]
      show jn + i ≠ jn + j
      omega
    · rw [List.getElem?_append_right (by omega)] at hy
      have : y = (hd,h0) := by
        cases hc : i - (placeJ jn L).length with
        | zero => rw [hc] at hy;simpa using hy.symm
        | succ q => rw [hc] at hy;simp at hy
      rw [this]
      show hd ≠ jn + j
      omega
  have hJ0 : (lay D.st (D.wt ++ headWs hd [h0])).getD hd [] = h0 := by
    refine lay_hit (i := (placeJ jn L).length) (by rw [hw,hwd,List.getElem?_append_right (Nat.le_refl _),Nat.sub_self];rfl) (fun i y hi hy => ?_) (by omega)
    rw [hw,hwd,List.getElem?_append_right (by omega)] at hy
    have hq : ∃ q,i - (placeJ jn L).length = q + 1 := ⟨i - (placeJ jn L).length - 1,by omega⟩
    obtain ⟨q,hq⟩ := hq
    rw [hq] at hy
    simp at hy
  obtain ⟨g1,g2⟩ := job_law (dg := dig) (R := R2) (s := busyR s0 mk) (hd := hd) (jn := jn) (old := old) (L := L) (hw := headWs hd [h0]) h.old ho (by omega)
    (fun x hx => by rw [hwd] at hx;rw [List.mem_singleton.1 hx];exact ⟨Nat.le_refl _,by show hd < D.st.length;omega,hh0.1⟩) hlow hrow (by omega) (by omega) hf hr hJi
  generalize runJ dig D R2 (stepsJ dig jn (headWs hd [h0]) L (busyR s0 mk)) = W at g1 g2 ⊢
  have hj1 := jr_any (J := jOf hd jn h0 L) (jn := jn) hmk hb hv hsb hH hL hlow hhd (by unfold jOf;rw [if_pos rfl]) (fun i x hx => by
    unfold jOf
    rw [if_neg (by omega),show jn + i - jn = i by omega,List.getD_eq_getElem?_getD,List.getElem?_map,hx]
    rfl)
  have hj2 := jr_any (J := fun k => (lay D.st (D.wt ++ headWs hd [h0])).getD k []) (jn := jn) hmk hb hv hsb hH hL hlow hhd hJ0 hJi
  rcases g2 with ⟨q1,q2,q3⟩ | ⟨q1,q2,q3⟩
  · refine ⟨fun e => absurd q1 e,jOf hd jn h0 L,hj1,g1.trans hstl,0,Nat.le_refl _,?_⟩
    rw [decide_eq_true q1]
    exact .inl ⟨q2,by rw [q3];exact (later_zero _).symm⟩
  · refine ⟨fun _ => q2,?_⟩
    rw [decide_eq_false q1]
    rcases q3 with ⟨a,e⟩ | ⟨a,e⟩
    · exact ⟨jOf hd jn h0 L,hj1,g1.trans hstl,0,Nat.le_refl _,.inl ⟨a,by rw [e];exact (later_zero _).symm⟩⟩
    · exact ⟨_,hj2,g1.trans hstl,0,Nat.le_refl _,.inr (.inl ⟨a,by rw [e];exact (later_zero _).symm⟩)⟩
end
section
variable {hd jn T m : Nat} {old : Nat → Row} {L : List (Nat × Row)} {R2 s R : Rg} {done : Bool} {D : Dev}
theorem Wh.arm (h : Wh hd jn T old L R2 s done m D R) (a : Int) : Wh hd jn T old L R2 s done m (D.arm a) R := by
  obtain ⟨J,h1,h2⟩ := h
  exact ⟨J,h1,h2.arm a⟩
theorem Wh.off (h : Wh hd jn T old L R2 s done m D R) (F : List Int) : Wh hd jn T old L R2 s done m (D.crash.on F) R := by
  obtain ⟨J,h1,h2⟩ := h
  exact ⟨J,h1,h2.off h1.lt F⟩
theorem Wh.boot (h : Wh hd jn T old L R2 s done m D R) (h0 : R2.busy = false) (h1 : s.busy = true) (hjn : hd ≤ jn) (hH : hd ≤ T) : Wh hd jn T old L R2 s done (m + 1) (bootP openR mkF dig hd 1 jn D R).1 (bootP openR mkF dig hd 1 jn D R).2.1 := by
  obtain ⟨J,h2,h3⟩ := h
  refine ⟨J,h2,h3.boot h2 ?_ h1 hjn hH⟩
  cases done
  · exact h0
  · rfl
theorem toBe_two (old : Nat → Row) (L : List (Nat × Row)) (k : Nat) : toBe (toBe old L) L k = toBe old L k := by
  unfold toBe
  cases lastW L k <;> rfl
theorem Wh.last (h : Wh hd jn T old L R2 s done m D R) (h0 : R2.busy = false) (h1 : s.busy = true) (hjn : hd ≤ jn) (hH : hd ≤ T) (hp : 0 < hd) (ho : D.On) (hr0 : R2.right = true) (hr1 : s.right = true) (hb0 : R2.boot + m + 1 < 4294967296) (hb1 : s.boot + m + 1 < 4294967296)
    (hrow : ∀ x ∈ L,x.2.length = 256) (ht0 : dig (hd - 1) (old (hd - 1)) = R2.root) (ht1 : dig (hd - 1) (toBe old L (hd - 1)) = s.root) :
    ∃ D' R',bootP openR mkF dig hd 1 jn D R = (D',R',R',0) ∧ R'.busy = false ∧ ((done = false ∧ R'.version = R2.version ∧ ∀ k,k < hd → D'.now k = old k) ∨ (R'.version = s.version ∧ R'.root = s.root ∧ ∀ k,k < hd → D'.now k = toBe old L k)) := by
  obtain ⟨J,h2,h3⟩ := h
  cases done with
  | false =>
    obtain ⟨D',n,-,h4⟩ := h3.last (dg := dig) h2 h0 h1 hjn hH hp ho hr0 hr1 hb0 hb1 hrow ht0 ht1
    rcases h4 with ⟨h5,h6⟩ | ⟨h5,h6⟩
    · exact ⟨D',_,h5,h0,.inl ⟨rfl,rfl,fun k hk => h6.now hk⟩⟩
    · exact ⟨D',_,h5,rfl,.inr ⟨rfl,rfl,fun k hk => h6.now hk⟩⟩
  | true =>
    obtain ⟨D',n,-,h4⟩ := h3.last (dg := dig) h2 rfl h1 hjn hH hp ho hr1 hr1 hb1 hb1 hrow ht1 (by show dig (hd - 1) (toBe (toBe old L) L (hd - 1)) = s.root;rw [toBe_two];exact ht1)
    rcases h4 with ⟨h5,h6⟩ | ⟨h5,h6⟩
    · exact ⟨D',_,h5,rfl,.inr ⟨rfl,rfl,fun k hk => h6.now hk⟩⟩
    · exact ⟨D',_,h5,rfl,.inr ⟨rfl,rfl,fun k hk => by rw [h6.now hk];exact toBe_two old L k⟩⟩
end
end Go.Proofs.YtdkimdobcacpfaaDoor
namespace Go.Proofs.YtdkimdobcacpfaaDoor
open Go.RowKit Go.Proofs.YtdkimdobcacpfaaDoor.Sl Go.Proofs.YtdkimdobcacpfaaDoor.Sha Go.Proofs.YtdkimdobcacpfaaDoor.Jp Go.Proofs.YtdkimdobcacpfaaDoor.Tr Go.Proofs.YtdkimdobcacpfaaDoor.Dv

theorem lastW_placeL : ∀ (l : List Row) (k0 k : Nat),lastW (placeL k0 l) k = if k0 ≤ k then l[k - k0]? else none
  | [],k0,k => by simp [placeL,lastW]
  | r::l,k0,k => by
    rw [placeL,lastW,lastW_placeL l (k0 + 1) k]
    by_cases h : k0 + 1 ≤ k
    · have e : (if k0 ≤ k then (r::l)[k - k0]? else none) = l[k - (k0 + 1)]? := by
        rw [if_pos (by omega),show k - k0 = (k - (k0 + 1)) + 1 by omega,List.getElem?_cons_succ]
      rw [e,if_pos h]
      cases hl : l[k - (k0 + 1)]? with
      | some x => rfl
      | none => exact if_neg (by omega)
    · rw [if_neg h]
      by_cases h2 : k0 = k
      · subst h2
        simp
      · have e : (if k0 ≤ k then (r::l)[k - k0]? else none) = none := if_neg (by omega)
        rw [e]
        exact if_neg h2
/-- All that is put: images of pages, then the tree. -/
def putsA (I : List Row) (n : Nat) (Tr : List Row) : List (Nat × Row) := placeL 0 I ++ placeL n Tr
theorem toBe_puts (old : Nat → Row) (I Tr : List Row) (n k : Nat) (hI : I.length ≤ n) : toBe old (putsA I n Tr) k = if k < I.length then I.getD k [] else if n ≤ k ∧ k < n + Tr.length then Tr.getD (k - n) [] else old k := by
  unfold toBe putsA
  rw [lastW_app,lastW_placeL,lastW_placeL]
  by_cases h1 : k < I.length
  · rw [if_neg (by omega),if_pos h1,if_pos (Nat.zero_le _),Nat.sub_zero,List.getElem?_eq_getElem h1,List.getD_eq_getElem?_getD,List.getElem?_eq_getElem h1]
    rfl
  · rw [if_neg h1]
    by_cases h2 : n ≤ k ∧ k < n + Tr.length
    · have h3 : k - n < Tr.length := by omega
      rw [if_pos h2.1,if_pos h2,List.getElem?_eq_getElem h3,List.getD_eq_getElem?_getD,List.getElem?_eq_getElem h3]
      rfl
    · rw [if_neg h2]
      have h4 : (if n ≤ k then Tr[k - n]? else none) = none := by
        by_cases h5 : n ≤ k
        · rw [if_pos h5,List.getElem?_eq_none (by omega)]
        · rw [if_neg h5]
      rw [h4,if_pos (Nat.zero_le _),List.getElem?_eq_none (by omega)]
      rfl
theorem fresh_rows (old : Nat → Row) (I Tr : List Row) (n : Nat) (hI : I.length ≤ n) : (List.range (n + Tr.length)).map (toBe old (putsA I n Tr)) = I ++ (((List.range n).map old) ++ Tr).drop I.length := by
  refine List.ext_getElem? fun k => ?_
  rw [List.getElem?_map]
  by_cases hk : k < n + Tr.length
  · rw [List.getElem?_range hk]
    show some (toBe old (putsA I n Tr) k) = _
    rw [toBe_puts old I Tr n k hI]
    by_cases h1 : k < I.length
    · rw [if_pos h1,List.getElem?_append_left h1,List.getD_eq_getElem?_getD,List.getElem?_eq_getElem h1]
      rfl
    · rw [if_neg h1,List.getElem?_append_right (by omega),List.getElem?_drop,show I.length + (k - I.length) = k by omega]
      by_cases h2 : n ≤ k
      · have h3 : k - n < Tr.length := by omega
        rw [if_pos ⟨h2,hk⟩,List.getElem?_append_right (by simpa using h2),List.length_map,List.length_range,List.getD_eq_getElem?_getD,List.getElem?_eq_getElem h3]
        rfl
      · rw [if_neg (by omega),List.getElem?_append_left (by simp;omega),List.getElem?_map,List.getElem?_range (by omega)]
        rfl
  · rw [List.getElem?_eq_none (by simpa using hk),List.getElem?_eq_none]
    · rfl
    · simp;omega
theorem putsA_get_left {I Tr : List Row} {n k : Nat} {r : Row} (h : I[k]? = some r) : (putsA I n Tr)[k]? = some (k,r) := by
  have hl := (List.getElem?_eq_some_iff.1 h).1
  unfold putsA
  rw [List.getElem?_append_left (by rw [placeL_len];exact hl),placeL_get,h]
  simp
theorem putsA_get_right {I Tr : List Row} {n k : Nat} {r : Row} (h : Tr[k]? = some r) : (putsA I n Tr)[I.length + k]? = some (n + k,r) := by
  unfold putsA
  rw [List.getElem?_append_right (by rw [placeL_len];omega),placeL_len,Nat.add_sub_cancel_left,placeL_get,h]
  rfl
theorem putsA_len (I Tr : List Row) (n : Nat) : (putsA I n Tr).length = I.length + Tr.length := by unfold putsA;rw [List.length_append,placeL_len,placeL_len]
theorem putsA_mem {I Tr : List Row} {n : Nat} {x : Nat × Row} (h : x ∈ putsA I n Tr) : (x.1 < I.length ∧ x.2 ∈ I) ∨ (n ≤ x.1 ∧ x.1 < n + Tr.length ∧ x.2 ∈ Tr) := by
  unfold putsA at h
  rcases List.mem_append.1 h with h | h
  · obtain ⟨i,hi⟩ := List.mem_iff_getElem?.1 h
    rw [placeL_get] at hi
    obtain ⟨r,hr,he⟩ := Option.map_eq_some_iff.1 hi
    rw [← he]
    have := (List.getElem?_eq_some_iff.1 hr).1
    exact .inl ⟨by show 0 + i < _;omega,List.mem_of_getElem? hr⟩
  · obtain ⟨i,hi⟩ := List.mem_iff_getElem?.1 h
    rw [placeL_get] at hi
    obtain ⟨r,hr,he⟩ := Option.map_eq_some_iff.1 hi
    rw [← he]
    have := (List.getElem?_eq_some_iff.1 hr).1
    exact .inr ⟨by show n ≤ n + i;omega,by show n + i < _;omega,List.mem_of_getElem? hr⟩
/-! ### How great things are -/
/-- No number of a device is above n. -/
structure SzN (n : Nat) (D : Dev) : Prop where
  all : D.wt.length ≤ n ∧ D.wr.length ≤ n ∧ D.count ≤ n ∧ D.armed ≤ 9223372036854775807
theorem SzN.le {n m : Nat} {D : Dev} (h : SzN n D) (hnm : n ≤ m) : SzN m D := ⟨by have := h.all;omega,by have := h.all;omega,by have := h.all;omega,h.all.2.2.2⟩
theorem SzN.sz {n : Nat} {D : Dev} (h : SzN n D) (hn : n ≤ 1000000) : D.Sz := ⟨by have := h.all;omega,by have := h.all;omega,by have := h.all;omega,h.all.2.2.2⟩
theorem SzN.spend {n : Nat} {D : Dev} (h : SzN n D) : SzN (n + 1) D.spend := ⟨by have := h.all;show D.wt.length ≤ _;omega,by have := h.all;show D.wr.length ≤ _;omega,by have := h.all;show D.count + 1 ≤ _;omega,by have := h.all;show D.armed - 1 ≤ _;omega⟩
theorem SzN.write {n : Nat} {D : Dev} (h : SzN n D) (k : Int) (r : Row) : SzN (n + 1) (D.write k r).1 := ⟨write_sz h.all⟩
theorem SzN.flush {n : Nat} {D : Dev} (h : SzN n D) : SzN (n + 1) D.flush.1 := ⟨flush_szn h.all⟩
theorem SzN.reg {n : Nat} {D : Dev} (h : SzN n D) (R s : Rg) : SzN (n + 1) (regWrite D R s).1 := by
  unfold regWrite
  split
  · exact h.le (by omega)
  · split
    · split
      · exact h.spend
      · exact h.spend
    · exact h.le (by omega)
theorem SzN.arm {n : Nat} {D : Dev} (h : SzN n D) {a : Int} (ha : a ≤ 9223372036854775807) : SzN n (D.arm a) := by
  unfold Dev.arm
  split
  · exact h
  · exact ⟨h.all.1,h.all.2.1,h.all.2.2.1,by show a.toNat ≤ _;omega⟩
theorem SzN.crash {n : Nat} {D : Dev} (h : SzN n D) : SzN n D.crash := ⟨h.all.1,h.all.2.1,h.all.2.2.1,by show 0 ≤ _;omega⟩
theorem SzN.on {n : Nat} {D : Dev} (h : SzN n D) (F : List Int) : SzN n (D.on F) := by
  unfold Dev.on
  split
  · exact ⟨by show 0 ≤ _;omega,h.all.2.1,h.all.2.2.1,by show 0 ≤ _;omega⟩
  · exact h
theorem SzN.step {n : Nat} {D : Dev} (h : SzN n D) (R : Rg) (x : SK) : SzN (n + 1) (stepJ dig D R x).1 := by
  cases x with
  | wr k b => exact h.write _ _
  | fl => exact h.flush
  | rg s => exact h.reg _ _
  | hm k src A =>
    rw [stepJ_hm]
    show SzN (n + 1) (homP D k src A).1
    unfold homP
    split
    · exact h.le (by omega)
    · split
      · exact h.le (by omega)
      · exact h.write _ _
theorem SzN.boot {n hd hs jn b : Nat} {D : Dev} {R : Rg} (h : SzN n D) (hb : R.budget = (b : Int)) (hb2 : b ≤ 256) : SzN (n + 310) (bootP openR mkF dig hd hs jn D R).1 := by
  have r1 := h.reg R (up1 R)
  have f1 : SzN (n + 1 + 300) (finishP openR mkF hd hs jn (regWrite D R (up1 R)).1 (up1 R)).1 := ⟨finish_sz (R := up1 R) hb hb2 r1.all⟩
  have r2 := f1.reg (up1 R) (calm (up1 R))
  unfold bootP
  split
  · exact h.le (by omega)
  · split
    · exact h.le (by omega)
    · split
      · exact r1.le (by omega)
      · split
        · rw [(endP_dev _ _).1];exact r1.le (by omega)
        · split
          · exact f1.le (by omega)
          · split
            · exact r2.le (by omega)
            · rw [(endP_dev _ _).1];exact r2.le (by omega)
theorem finL_len (hd hs jn : Nat) (D : Dev) (R : Rg) : (finL hd hs jn D R).length ≤ 1 := by unfold finL;split <;> simp
theorem btL_len (hd hs jn : Nat) (D : Dev) (R : Rg) : (btL hd hs jn D R).length ≤ 2 := by
  have h1 := finL_len hd hs jn (regWrite D R (up1 R)).1 (up1 R)
  unfold btL
  split
  · simp
  · split
    · simp
    · split
      · simp
      · split
        · simp [endL]
        · split
          · omega
          · split
            · omega
            · rw [List.length_append];simp [endL];omega
theorem noteJ_len (D : Dev) (x : SK) : (noteJ D x).length ≤ 1 := by
  cases x with
  | hm k src A => show (homL D k src).length ≤ 1;unfold homL;split <;> simp
  | wr k b => simp [noteJ]
  | fl => simp [noteJ]
  | rg s => simp [noteJ]
/-! ### The register behind boots -/
structure RgN (P : Nat) (b : Int) (R : Rg) : Prop where
  wf : R.Wf
  pages : R.pages = P
  budget : R.budget = b
theorem later_rgn {P n : Nat} {b : Int} {R : Rg} (h : RgN P b R) (hb : R.boot + n < 4294967296) : RgN P b (later R n) :=
  ⟨⟨h.wf.pages,h.wf.budget,⟨by have := h.wf.boot.1;show 0 ≤ R.boot + (n : Int);omega,by show R.boot + (n : Int) < _;omega⟩,h.wf.version,h.wf.epoch,h.wf.cursor,h.wf.root,h.wf.mark⟩,h.pages,h.budget⟩
theorem Wh.rgn {hd jn T m P : Nat} {b : Int} {old : Nat → Row} {L : List (Nat × Row)} {R2 s R : Rg} {done : Bool} {D : Dev} (h : Wh hd jn T old L R2 s done m D R) (h2 : RgN P b R2) (hs : RgN P b s) (hb2 : R2.boot + m < 4294967296) (hbs : s.boot + m < 4294967296) : RgN P b R ∧ D.st.length = T := by
  obtain ⟨J,-,hl,i,hi,h3⟩ := h
  have hc : RgN P b (calm s) := ⟨calm_wf hs.wf,hs.pages,hs.budget⟩
  have h0 : RgN P b (if done then calm s else R2) := by cases done;exact h2;exact hc
  have h0b : (if done then calm s else R2).boot + i < 4294967296 := by
    cases done
    · show R2.boot + (i : Int) < _;omega
    · show s.boot + (i : Int) < _;omega
  refine ⟨?_,hl⟩
  rcases h3 with ⟨-,e⟩ | ⟨-,e⟩ | ⟨-,e⟩
  · rw [e];exact later_rgn h0 h0b
  · rw [e];exact later_rgn hs (by omega)
  · rw [e];exact later_rgn hc (by show s.boot + (i : Int) < _;omega)
section
variable {w0 w : World} {K F S : List Chunk} {d r l p x : Nat} {D : Dev} {cv vj vk : Value}
set_option maxRecDepth 100000 in
set_option maxHeartbeats 4000000 in
theorem all_any {H P c : Nat} {lv : Value} (hoff : D.off = false) (hn : H ≤ D.st.length) (hz : D.wt.length ≤ 1000000) (hS : Sat w0 ((p,cells (pairP d r l x vj vk) 41)::(d,DevG cv D)::K) w) : Calls Tryd.prog 16 #[.pointer (some ⟨p,0,none⟩),.agg (plan20 P c H lv).toArray] w fun e w' => ∃ v X,e = .returned v ∧ Bx ((X : List (Value × List Int)).map (·.2) = rowsAt D 0 H) ∧ Sat w0 ((blk v,sl 1 rowF X 48 v)::(71,inn X 109)::(p,cells (pairP d r l x vj vk) 41)::(d,DevG cv D)::K) w' := by
  have hO := devOk (hS.pull d (X := DevG cv D))
  have hst : D.st.length ≤ 65536 := hO.n2
  have hn6 : H ≤ 65536 := by omega
  have HO : Bx _ := ⟨hO⟩
  have HOff : Bx _ := ⟨hoff⟩
  have HN : Bx _ := ⟨hn⟩
  have HZ : Bx _ := ⟨hz⟩
  clear hO hoff hst hn hz
  have hS1 := (hS.innNil 71 109).slNil 1 rowF 48
  clear hS
  have hS := hS1
  clear hS1
  go_enter Tryd.func16,Tryd.ntmps16
  go_wp2_with (refine boxN (cs := (plan20 P c H lv).toArray) hS rfl rfl rfl ?_;clear hS;intro m3 w hS;simp only [putW])
  go_loopg [5,6] H (fun g v i wr => ∃ (k : Nat) (X : List (Value × List Int)),k + g = H ∧ i = .int .i64 k ∧ Bx (X.map (·.2) = rowsAt D 0 k) ∧ Sat w0 ((blk v,sl 1 rowF X 48 v)::(71,inn X 109)::(m3,cells (plan20 P c H lv).toArray 60)::(p,cells (pairP d r l x vj vk) 41)::(d,DevG cv D)::K) wr)
  case atStart => exact ⟨0,[],by omega,rfl,⟨rfl⟩,hS.conv (S' := (0,sl 1 rowF ([] : List (Value × List Int)) 48 (.slice none 0 0))::(71,inn [] 109)::(m3,cells (plan20 P c H lv).toArray 60)::(p,cells (pairP d r l x vj vk) 41)::(d,DevG cv D)::K)⟩
  case round =>
    clear hS
    obtain ⟨k,X,hkg,rfl,HX,hS⟩ := hrel
    cases gk with
    | zero =>
      have hkn : k = H := by omega
      subst hkn
      go_wp2_with (refine load1 hS rfl rfl rfl rfl ?_;simp only [putW])
      go_ret
      exact ⟨u5,X,rfl,HX,hS.conv⟩
    | succ g =>
      have hkn : k < H := by omega
      have hXl : X.length ≤ 65536 := by
        have h1 := congrArg List.length HX.out
        rw [List.length_map,rowsAt_len] at h1
        omega
      have hrow := HO.out.now (k := k) (by have := HN.out;omega)
      obtain ⟨r0,hr⟩ : ∃ r0,D.now k = r0 := ⟨_,rfl⟩
      rw [hr] at hrow
      have HR : Bx _ := ⟨hrow⟩
      have HRr : Bx _ := ⟨hr⟩
      clear hr hrow
      go_wp2_with (first | (guard_target =~ Calls _ 31 _ _ _;refine Stopped.out ?_) | (refine load1 hS rfl rfl rfl rfl ?_;simp only [putW]))
      refine ⟨?_⟩
      refine Calls.mono (devRead_at (k := k) (by omega) HOff.out (by have := HN.out;omega) HZ.out (hS.pull d (X := DevG cv D))) ?_
      rw [HRr.out]
      clear hS
      rintro _ w ⟨v1,rfl,hS⟩
      obtain ⟨q1,c1,hv1⟩ := shapeN hS HR.out.1
      subst hv1
      simp only [putW]
      go_wp2_with (first | (refine buildSlice1 (c := #[.slice q1 256 c1]) hS rfl rfl rfl ?_ ?_ ?_ ?_;rfl;rfl;rfl;clear hS;intro mb w hS;simp only [putW]) | (refine append1 (f := rowF) hS rfl rfl u5 rfl rfl ((.slice q1 256 c1,r0) : Value × List Int) ?_ ?_ ?_ ?_ ?_ ?_;rfl;(focus (simp [rowF,one,Value.oneCell'];done));rfl;(focus (simp [maxLen];omega));(focus (omega));clear hS;intro v' w hS;simp only [putW]))
      go_roundg g
      case measure => omega
      case rel => exact ⟨k + 1,X ++ [(.slice q1 256 c1,r0)],by omega,by go_num,⟨by rw [List.map_append,HX.out,rowsAt_succ,Nat.zero_add,HRr.out];rfl⟩,(hS.innAdd (.slice q1 256 c1) (j := 71) (X := X) (t := 109) rfl).conv⟩
end
end Go.Proofs.YtdkimdobcacpfaaDoor
namespace Go.Proofs.YtdkimdobcacpfaaDoor
open Go.RowKit Go.Proofs.YtdkimdobcacpfaaDoor.Sl Go.Proofs.YtdkimdobcacpfaaDoor.Sha Go.Proofs.YtdkimdobcacpfaaDoor.Jp Go.Proofs.YtdkimdobcacpfaaDoor.Tr Go.Proofs.YtdkimdobcacpfaaDoor.Dv

theorem reg_len (D : Dev) (R s : Rg) : (regWrite D R s).1.st.length = D.st.length := by
  unfold regWrite
  split
  · rfl
  · split
    · split <;> rfl
    · rfl
theorem stepJ_len (D : Dev) (R : Rg) (x : SK) : (stepJ dig D R x).1.st.length = D.st.length := by
  cases x with
  | wr k b => show (D.write k b).1.st.length = _;rw [write_st]
  | fl =>
    show D.flush.1.st.length = _
    rcases flush_cases D with ⟨-,a,-⟩ | ⟨-,a,-⟩
    · rw [a]
    · rw [a,lay_length]
  | rg s => exact reg_len D R s
  | hm k src A =>
    rw [stepJ_hm]
    show (homP D k src A).1.st.length = _
    unfold homP
    split
    · rfl
    · split
      · rfl
      · rw [write_st]
theorem stepJ_wf {D : Dev} {R : Rg} {x : SK} (h : R.Wf) (hs : ∀ s,x = .rg s → s.Wf) : (stepJ dig D R x).2.1.Wf := by
  cases x with
  | wr k b => exact h
  | fl => exact h
  | rg s =>
    show (regWrite D R s).2.1.Wf
    unfold regWrite
    split
    · exact h
    · split
      · split
        · exact h
        · exact hs s rfl
      · exact h
  | hm k src A =>
    rw [stepJ_hm]
    exact h
/-- A job at work in a loop that asks for one step a round. -/
structure Lp (D0 : Dev) (R0 : Rg) (steps : List SK) (k : Nat) (D : Dev) (R : Rg) (l : List SK) (c : Int) (dn : Bool) : Prop where
  run : runJ dig D0 R0 steps = if c ≠ 0 then (D,R,c) else runJ dig D R l
  dn : dn = (decide (c = 0) && l.isEmpty)
  up : c = 0 → D.off = false
  len : l.length + k = steps.length
  st : D.st.length = D0.st.length
  wf : R.Wf
  wfl : ∀ s,SK.rg s ∈ l → s.Wf
theorem Lp.first {D0 : Dev} {R0 : Rg} {sk : SK} {l steps : List SK} (h : steps = sk::l) (hR : R0.Wf) (hs : ∀ s,SK.rg s ∈ steps → s.Wf) : Lp D0 R0 steps 1 (stepJ dig D0 R0 sk).1 (stepJ dig D0 R0 sk).2.1 l (stepJ dig D0 R0 sk).2.2 (decide ((stepJ dig D0 R0 sk).2.2 = 0) && l.isEmpty) := by
  subst h
  exact ⟨by rw [runJ],rfl,fun h => stepJ_up h,rfl,stepJ_len _ _ _,stepJ_wf hR fun s e => hs s (by simp [e]),fun s hm => hs s (by simp [hm])⟩
theorem Lp.step {D0 D : Dev} {R0 R : Rg} {sk : SK} {l steps : List SK} {k : Nat} {dn : Bool} (h : Lp D0 R0 steps k D R (sk::l) 0 dn) : Lp D0 R0 steps (k + 1) (stepJ dig D R sk).1 (stepJ dig D R sk).2.1 l (stepJ dig D R sk).2.2 (decide ((stepJ dig D R sk).2.2 = 0) && l.isEmpty) := by
  refine ⟨?_,rfl,fun h => stepJ_up h,?_,by rw [stepJ_len,h.st],stepJ_wf h.wf fun s e => h.wfl s (by simp [e]),fun s hm => h.wfl s (by simp [hm])⟩
  · rw [h.run,if_neg (by simp),runJ]
  · have := h.len
    rw [List.length_cons] at this
    omega
/-- The loop goes on: a step is left, and the last one was fine. -/
theorem Lp.more {D0 D : Dev} {R0 R : Rg} {l steps : List SK} {k : Nat} {c : Int} (h : Lp D0 R0 steps k D R l c false) (ho : D.off = false) (hc : (runJ dig D0 R0 steps).2.2 ≠ 0 → (runJ dig D0 R0 steps).1.off = true) : c = 0 ∧ ∃ sk l',l = sk::l' := by
  have h0 : c = 0 := by
    by_cases h1 : c = 0
    · exact h1
    · rw [h.run,if_pos h1] at hc
      have := hc h1
      rw [ho] at this
      cases this
  subst h0
  refine ⟨rfl,?_⟩
  cases l with
  | nil => have := h.dn;simp at this
  | cons x l => exact ⟨x,l,rfl⟩
theorem Lp.stop {D0 D : Dev} {R0 R R2 s : Rg} {l steps : List SK} {k hd jn T : Nat} {c : Int} {dn : Bool} {old : Nat → Row} {L : List (Nat × Row)} (h : Lp D0 R0 steps k D R l c dn) (he : dn = true ∨ D.off = true)
    (hw : Wh hd jn T old L R2 s (decide ((runJ dig D0 R0 steps).2.2 = 0)) 0 (runJ dig D0 R0 steps).1 (runJ dig D0 R0 steps).2.1) : Wh hd jn T old L R2 s dn 0 D R := by
  rw [h.run] at hw
  by_cases hc : c = 0
  · subst hc
    rw [if_neg (by simp)] at hw
    have hd1 : dn = true := by
      rcases he with he | he
      · exact he
      · rw [h.up rfl] at he;cases he
    have hl := h.dn
    rw [hd1] at hl
    cases l with
    | nil => rw [hd1];exact hw
    | cons x l => simp at hl
  · rw [if_pos hc] at hw
    have hl := h.dn
    rw [decide_eq_false hc] at hl
    have e : dn = false := by rw [hl];rfl
    rw [e]
    have e2 : decide ((D,R,c).2.2 = 0) = false := decide_eq_false hc
    rw [e2] at hw
    exact hw
theorem headR_one (v : Int) (L : List (Nat × Row)) : ∃ h0,headR v L 20 = [h0] := by
  have h : (headR v L 20).length = 1 := by
    unfold headR
    rw [cut_length]
    rfl
  obtain ⟨x,hx⟩ := List.length_eq_one_iff.1 h
  exact ⟨x,hx⟩
theorem stepsJ_one (jn hd : Nat) (h0 : Row) (L : List (Nat × Row)) (s : Rg) : (stepsJ dig jn (headWs hd [h0]) L s).length = L.length + 5 ∧ ∃ sk l,stepsJ dig jn (headWs hd [h0]) L s = sk::l := by
  refine ⟨?_,_,_,rfl⟩
  unfold stepsJ
  have h1 : (headWs hd [h0]).length = 1 := rfl
  have h2 : (homesJ dig jn L).length = L.length := by unfold homesJ;simp
  simp only [List.length_append,List.length_map,List.length_cons,List.length_nil,h1,h2]
  omega
theorem stepsJ_wf {jn hd : Nat} {h0 : Row} {L : List (Nat × Row)} {s : Rg} (h : s.Wf) : ∀ s',SK.rg s' ∈ stepsJ dig jn (headWs hd [h0]) L s → s'.Wf := by
  intro s' hm
  unfold stepsJ homesJ at hm
  simp at hm
  rcases hm with hm | hm
  · rw [hm];exact h
  · rw [hm];exact calm_wf h
/-- A job in a loop: not begun, or at work. -/
def JobW (n d r : Nat) (lg : Value) (pl : Pl) (L : List (Nat × Row)) (b : Bool) (l : List SK) (c : Int) : Sl.K := if b then JobN d r lg pl L else JobB n d r lg pl l c
structure LpI (D0 : Dev) (R0 : Rg) (steps : List SK) (q0 n0 : Nat) (b : Bool) (k : Nat) (D : Dev) (R : Rg) (Q : List (List Int × List Int)) (l : List SK) (c : Int) (dn : Bool) : Prop where
  new : b = true → k = 0 ∧ D = D0 ∧ R = R0 ∧ dn = false
  old : b = false → D0.off = false ∧ Lp D0 R0 steps k D R l c dn
  sz : SzN (n0 + k) D
  log : Q.length ≤ q0 + 2 * k
theorem LpI.le {D0 D : Dev} {R0 R : Rg} {steps l : List SK} {q0 n0 k : Nat} {b dn : Bool} {Q : List (List Int × List Int)} {c : Int} (h : LpI D0 R0 steps q0 n0 b k D R Q l c dn) : k ≤ steps.length := by
  cases b with
  | true => rw [(h.new rfl).1];omega
  | false => have := (h.old rfl).2.len;omega
section
variable {w0 w : World} {K : List Chunk} {d r j H n0 q0 k : Nat} {b : Bool} {D0 D : Dev} {R0 R S0 : Rg} {cv lg : Value} {pl : Pl} {Q : List (List Int × List Int)} {A Lk : List (Nat × Row)} {steps l : List SK} {c : Int} {dn : Bool}
/-- Job.Go in a loop: not begun, or at work. -/
theorem goW (hb : pl.b = 20) (hhd : pl.hd = H) (hjn : pl.jn = H + 1) (hH : H ≤ 60) (hn : D0.st.length = H + 41) (hs : S0.Wf)
    (hst : stepsJ dig (H + 1) (headWs H (headR S0.version A 20)) A (busyR S0 (mkF (headR S0.version A 20) (A.map (·.2)))) = steps) (hne : ∃ sk l,steps = sk::l) (hwf : ∀ s,SK.rg s ∈ steps → s.Wf) (hR : R0.Wf)
    (hrun : D0.off = false → (runJ dig D0 R0 steps).2.2 ≠ 0 → (runJ dig D0 R0 steps).1.off = true) (hL : D0.off = false → Lk = A) (hk : k ≤ 60) (hq : q0 ≤ 1000) (hn0 : n0 ≤ 1000)
    (h : LpI D0 R0 steps q0 n0 b k D R Q l c dn) (hdn : dn = false) (ho : D.off = false) (hK : KTab w0) (hS : Sat w0 ((1,LogV lg Q)::(j,JobW (H + 41) d r lg pl Lk b l c)::(r,RegC d R)::(d,DevG cv D)::K) w) :
    Calls Tryd.prog 8 #[.pointer (some ⟨j,0,none⟩),.agg (stV S0).toArray] w fun e w' => ∃ D' R' Q' l' c' dn',e = .returned (.tuple #[.bool dn',.int .i64 c']) ∧ Bx (LpI D0 R0 steps q0 n0 false (k + 1) D' R' Q' l' c' dn') ∧
      Sat w0 ((1,LogV lg Q')::(j,JobW (H + 41) d r lg pl Lk false l' c')::(r,RegC d R')::(d,DevG cv D')::K) w' := by
  subst hdn
  cases b with
  | true =>
    obtain ⟨e1,e2,e3,-⟩ := h.new rfl
    have e4 : Lk = A := hL (by rw [← e2];exact ho)
    subst e1 e2 e3 e4
    obtain ⟨sk,l2,hsk⟩ := hne
    have hS1 : Sat w0 ((1,LogV lg Q)::(j,JobN d r lg pl Lk)::(r,RegC d R)::(d,DevG cv D)::K) w := hS
    have hlog := h.log
    refine Calls.mono (go_first (n := H + 41) (sk := sk) (l := l2) (n0 := n0 + 0) hn hs (by omega) (by omega) (by omega) hR (by omega) h.sz.all (by omega) hK (by rw [hb,hhd,hjn,hst,hsk]) hS1) ?_
    rintro _ w' ⟨rfl,hS2⟩
    refine ⟨_,_,_,l2,_,_,rfl,⟨⟨fun h9 => (by cases h9),fun _ => ⟨ho,Lp.first hsk hR hwf⟩,h.sz.step R sk,?_⟩⟩,hS2⟩
    have := noteJ_len D sk
    unfold goPs
    simp only [List.length_append,List.length_cons,List.length_nil]
    omega
  | false =>
    obtain ⟨o1,o2⟩ := h.old rfl
    obtain ⟨rfl,sk,l2,rfl⟩ := o2.more ho (hrun o1)
    have hS1 : Sat w0 ((1,LogV lg Q)::(j,JobB (H + 41) d r lg pl (sk::l2) 0)::(r,RegC d R)::(d,DevG cv D)::K) w := hS
    have hlog := h.log
    refine Calls.mono (go_step (n := H + 41) (n0 := n0 + k) (o2.st.trans hn) o2.wf (by omega) h.sz.all (by omega) hK hS1) ?_
    rintro _ w' ⟨rfl,hS2⟩
    refine ⟨_,_,_,l2,_,_,rfl,⟨⟨fun h9 => (by cases h9),fun _ => ⟨o1,o2.step⟩,h.sz.step R sk,?_⟩⟩,hS2⟩
    have := noteJ_len D sk
    simp only [List.length_append]
    omega
end
end Go.Proofs.YtdkimdobcacpfaaDoor
namespace Go.Proofs.YtdkimdobcacpfaaDoor.BaseWholeDone
open Go.RowKit Go.Proofs.YtdkimdobcacpfaaDoor Go.Proofs.YtdkimdobcacpfaaDoor.Sl Go.Proofs.YtdkimdobcacpfaaDoor.Sha Go.Proofs.YtdkimdobcacpfaaDoor.Jp Go.Proofs.YtdkimdobcacpfaaDoor.Tr Go.Proofs.YtdkimdobcacpfaaDoor.Dv

/-- How many pages. -/
def nW (x : Int) : Nat := 1 + (x % 40).toNat
theorem nW_le (x : Int) : 1 ≤ nW x ∧ nW x ≤ 40 ∧ 1 + x % 40 = (nW x : Int) := by
  have h3 := Int.emod_nonneg x (show (40 : Int) ≠ 0 by omega)
  have h4 := Int.emod_lt_of_pos x (show (0 : Int) < 40 by omega)
  unfold nW
  omega
/-- A cut that comes in: when the power goes; the fates. -/
abbrev CutV := Int × Value × List Int
def cutF (x : CutV) : List Value := [.int .i64 x.1,x.2.1]
def CutIn (w : World) (x : CutV) : Prop := RI w x.2.2 x.2.1
/-- What is so behind Format. -/
structure Fmt (P : Nat) (D1 : Dev) : Prop where
  on : D1.On
  wt : D1.wt = []
  len : D1.st.length = P + cC P + 42
  top : dig (P + cC P) (D1.st.getD (P + cC P) []) = newRoot P
  sz : SzN 100 D1
section
variable {w0 w : World} {K F S : List Chunk} {d r l p x : Nat} {D : Dev} {lg : Value}
theorem fit20_i {P : Nat} {xi : Int} (hx : xi = (P : Int)) (h1 : 1 ≤ P) (h3 : P ≤ 40) : Calls Tryd.prog 15 #[.int .i64 1000,.int .i64 xi,.int .i64 20] w0 fun e w' => ∃ g,e = .returned (.tuple #[.agg (plan20 P (cC P) (P + cC P + 1) (.slice (some ⟨g,0,none⟩) 1 1)).toArray,.int .i64 0]) ∧ Sat w0 [(g,sl 1 i64 [1] 3 (.slice (some ⟨g,0,none⟩) 1 1))] w' := by
  subst hx
  exact fit20 h1 h3
theorem newL_len {P : Nat} (h1 : 1 ≤ P) (h3 : P ≤ 40) : (newL P).length ≤ 10 := by
  obtain ⟨e1,-,e3,-⟩ := pl40 h1 h3
  obtain ⟨hc3,-,-,-⟩ := c40 h1 h3
  have h := stN_len (d := dig) pre P (newBs P) 1
  have h2 : (stB dig P (newBs P) 1).1 = P + (newBs P).length := rfl
  have h4 : (newBs P).length = cC P := by unfold newBs;rw [List.length_replicate,e1]
  unfold newL
  rw [List.length_append,e3]
  simp only [List.length_cons,List.length_nil]
  omega
theorem format_whole {P : Nat} (h1 : 1 ≤ P) (h3 : P ≤ 40) (hK : KTab w0) (hS : Sat w0 ((1,LogV lg [])::(r,RegC d st0)::(d,DevC (fresh (P + cC P + 42)))::K) w) :
    Calls Tryd.prog 9 #[.pointer (some ⟨d,0,none⟩),.pointer (some ⟨r,0,none⟩),.agg (cfV (cfW P)),lg] w fun e w' => e = .returned (.int .i64 0) ∧ ∃ D1,Fmt P D1 ∧ Sat w0 ((1,LogV lg (newL P))::(r,RegC d (newSt (cfW P)))::(d,DevC D1)::K) w' := by
  obtain ⟨p1,p2,p3,p4,p5,p6,p7,p8⟩ := pl40 h1 h3
  obtain ⟨hc3,hc1,-,-⟩ := c40 h1 h3
  have hst : (fresh (P + cC P + 42)).st.length = P + cC P + 42 := by unfold fresh;exact List.length_replicate
  have hfit : fits (fresh (P + cC P + 42)).st.length (cfW P).pages (cfW P).budget := by
    rw [hst]
    refine ⟨⟨by show 1 ≤ (P : Int);omega,by show (P : Int) ≤ 4096;omega,by show (1 : Int) ≤ 20;omega,by show (20 : Int) ≤ 256;omega⟩,?_,?_⟩
    · show ((plM ((P : Int)).toNat : Nat) : Int) + 2 ≤ 20
      rw [Int.toNat_natCast,p3];omega
    · show plT ((P : Int)).toNat 20 ≤ _
      rw [Int.toNat_natCast,p8];omega
  have hC8 : plC (cfW P).pages.toNat ≤ 8 := by
    show plC ((P : Int)).toNat ≤ 8
    rw [Int.toNat_natCast,p1];omega
  have hf := format_go (c := cfW P) (Ps := []) (n0 := 0) ⟨Nat.le_refl _,Nat.le_refl _,Nat.le_refl _,by show 0 ≤ 9223372036854775807;omega⟩ (by omega) hfit hC8 rfl ⟨by show (0 : Int) ≤ 0;omega,by show (0 : Int) < 4294967296;omega⟩ (by simp) hK hS
  obtain ⟨D1,a1,a2,a3,a4,a5,a6,a7,a8⟩ := fmt_plain h1 h3
  have e0 : (cfW P).pages.toNat = P := Int.toNat_natCast P
  rw [e0] at hf
  refine hf.mono fun e w' hp => ?_
  unfold FmtPost at hp
  rw [e0] at hp
  rcases hp with ⟨hn,-⟩ | ⟨-,hn,-⟩ | ⟨-,-,he,hs⟩
  · exact absurd a1 hn
  · exact absurd a2 hn
  · rw [a3] at he hs
    exact ⟨he,D1,⟨a4,a5,a6,a7,⟨a8⟩⟩,hs⟩
/-- What is so behind the first boot. -/
structure Bt (P H : Nat) (D2 : Dev) (R2 : Rg) : Prop where
  on : D2.On
  wt : D2.wt = []
  len : D2.st.length = H + 41
  top : dig (H - 1) (D2.st.getD (H - 1) []) = R2.root
  sz : SzN 101 D2
  rg : RgN P 20 R2
  busy : R2.busy = false
  version : R2.version = 0
  boot : R2.boot = 1
  epoch : R2.epoch = 1
  cursor : R2.cursor = P
  wide : R2.wide = false
theorem Bt.right {P H : Nat} {D2 : Dev} {R2 : Rg} (h : Bt P H D2 R2) (h1 : 1 ≤ P) (h3 : P ≤ 40) (R : Rg) (e1 : R.pages = R2.pages) (e2 : R.budget = R2.budget) (e3 : R.cursor = R2.cursor) (e4 : R.epoch = R2.epoch) : R.right = true := by
  unfold Rg.right
  rw [e1,e2,e3,e4,h.rg.pages,h.rg.budget,h.cursor,h.epoch]
  rw [decide_eq_true (show 1 ≤ (P : Int) by omega),decide_eq_true (show (P : Int) ≤ 4096 by omega),decide_eq_true (show (0 : Int) ≤ P by omega),decide_eq_true (show (P : Int) ≤ P by omega)]
  rfl
theorem fits40 {P n : Nat} {R : Rg} (h1 : 1 ≤ P) (h3 : P ≤ 40) (hn : n = P + cC P + 42) (hR : RgN P 20 R) : fits n R.pages R.budget := by
  obtain ⟨p1,p2,p3,p4,p5,p6,p7,p8⟩ := pl40 h1 h3
  rw [hR.pages,hR.budget]
  refine ⟨⟨by omega,by omega,by omega,by omega⟩,?_,?_⟩
  · rw [Int.toNat_natCast,p3];omega
  · rw [Int.toNat_natCast]
    show plT P 20 ≤ n
    rw [p8];omega
theorem bootF40 {P H : Nat} {D : Dev} {R : Rg} (h1 : 1 ≤ P) (h3 : P ≤ 40) (hH : P + cC P + 1 = H) (hR : RgN P 20 R) : bootF D R = bootP openR mkF dig H 1 (H + 1) D R := by
  obtain ⟨p1,p2,p3,p4,p5,p6,p7,p8⟩ := pl40 h1 h3
  show bootP openR mkF dig (plH R.pages.toNat) (plHd R.budget.toNat) (plJ R.pages.toNat R.budget.toNat) D R = _
  rw [hR.pages,hR.budget,Int.toNat_natCast]
  show bootP openR mkF dig (plH P) (plHd 20) (plJ P 20) D R = _
  rw [p5,p6,p7,← hH]
theorem boot_whole {P H : Nat} {D1 : Dev} {Ps : List (List Int × List Int)} (h1 : 1 ≤ P) (h3 : P ≤ 40) (hH : P + cC P + 1 = H) (hF : Fmt P D1) (hP : Ps.length ≤ 100) (hK : KTab w0) (hS : Sat w0 ((1,LogV lg Ps)::(r,RegC d (newSt (cfW P)))::(d,DevC D1)::K) w) :
    Calls Tryd.prog 6 #[.pointer (some ⟨d,0,none⟩),.pointer (some ⟨r,0,none⟩),lg] w fun e w' => ∃ D2 R2 Q,Bt P H D2 R2 ∧ List.length Q ≤ Ps.length + 2 ∧ e = .returned (btRes R2 0) ∧ Sat w0 ((1,LogV lg Q)::(r,RegC d R2)::(d,DevC D2)::K) w' := by
  have hw : (newSt (cfW P)).Wf := newSt_wf ⟨by show 1 ≤ (P : Int);omega,by show (P : Int) ≤ 4096;omega⟩ ⟨by show (1 : Int) ≤ 20;omega,by show (20 : Int) ≤ 256;omega⟩ ⟨by show (0 : Int) ≤ 0;omega,by show (0 : Int) < 4294967296;omega⟩
  have hrn : RgN P 20 (newSt (cfW P)) := ⟨hw,rfl,rfl⟩
  have hb := boot_full (lg := lg) (K := K) hF.sz.all (by omega) hw (fits40 h1 h3 hF.len hrn) (by omega) hK hS
  have hold : Old H (fun k => D1.st.getD k []) D1 := ⟨fun k _ => rfl,by rw [hF.wt];exact fun x hx => by cases hx⟩
  have hroot : (newSt (cfW P)).root = newRoot P := by show newRoot ((P : Int)).toNat = _;rw [Int.toNat_natCast]
  have hright : (newSt (cfW P)).right = true := by
    unfold Rg.right
    show (decide (1 ≤ (P : Int)) && decide ((P : Int) ≤ 4096) && decide ((1 : Int) ≤ 20) && decide ((20 : Int) ≤ 256) && decide ((0 : Int) ≤ (P : Int)) && decide ((P : Int) ≤ (P : Int)) && decide ((0 : Int) < 1)) = true
    rw [decide_eq_true (show 1 ≤ (P : Int) by omega),decide_eq_true (show (P : Int) ≤ 4096 by omega),decide_eq_true (show (0 : Int) ≤ P by omega),decide_eq_true (show (P : Int) ≤ P by omega)]
    rfl
  have he := boot_calm_on (opn := openR) (mk := mkF) (dg := dig) (hs := 1) (jn := H + 1) (R := newSt (cfW P)) hold rfl ⟨hright,by show (0 : Int) + 1 < 4294967296;omega⟩ hF.on (by omega) (by
    rw [hroot,← hF.top]
    show dig (H - 1) (D1.st.getD (H - 1) []) = _
    rw [show H - 1 = P + cC P by omega])
  rw [← bootF40 h1 h3 hH hrn] at he
  rw [he] at hb
  refine hb.mono fun e w' hp => ⟨D1.spend,up1 (newSt (cfW P)),_,?_,?_,hp.1,hp.2⟩
  · refine ⟨hF.on.spend,hF.wt,by rw [show D1.spend.st = D1.st from rfl,hF.len];omega,?_,hF.sz.spend,⟨up1_wf hw (by show ¬ (0 : Int) = 4294967295;omega),rfl,rfl⟩,rfl,rfl,rfl,rfl,rfl,rfl⟩
    show dig (H - 1) (D1.st.getD (H - 1) []) = (newSt (cfW P)).root
    rw [hroot,← hF.top,show H - 1 = P + cC P by omega]
  · rw [List.length_append]
    have := btL_len (plH (newSt (cfW P)).pages.toNat) (plHd (newSt (cfW P)).budget.toNat) (plJ (newSt (cfW P)).pages.toNat (newSt (cfW P)).budget.toNat) D1 (newSt (cfW P))
    show Ps.length + (btL _ _ _ D1 (newSt (cfW P))).length ≤ _
    omega
/-- A counter block as the law lays it. -/
def cntR (A : List Int) (i : Nat) : Row := (fullR A).set 0 (i : Int)
theorem cntR_row {A : List Int} (h : ∀ x ∈ A,okByte x) {i : Nat} (hi : i < 256) : isRow (cntR A i) := by
  have h1 := fullR_row h
  refine ⟨by unfold cntR;rw [List.length_set];exact h1.1,fun x hx => ?_⟩
  unfold cntR at hx
  rcases List.mem_or_eq_of_mem_set hx with h2 | h2
  · exact h1.2 x h2
  · rw [h2];unfold okByte;omega
theorem stSet4 (s : Rg) (v : Int) : (stV s).toArray.setIfInBounds 4 (.int .u64 v) = (stV { s with version := v }).toArray := by
  rw [List.setIfInBounds_toArray]
  rfl
theorem stSet8 {s : Rg} (h : s.Wf) {m : List Int} (hm : m.length = 32) : ((stV s).toArray.toList.take 8 ++ ((m.map u8v).toArray).toList ++ (stV s).toArray.toList.drop (8 + 32)).toArray = (stV { s with root := m }).toArray := by
  have e : stV s = [.int .i64 s.pages,.int .i64 s.budget,.bool s.wide,.int .u32 s.boot,.int .u64 s.version,.int .u32 s.epoch,.int .i64 s.cursor,.bool s.busy] ++ (s.root.map u8v ++ s.mark.map u8v) := rfl
  show ((stV s).take 8 ++ m.map u8v ++ (stV s).drop (8 + 32)).toArray = _
  have e1 : (stV s).take 8 = [.int .i64 s.pages,.int .i64 s.budget,.bool s.wide,.int .u32 s.boot,.int .u64 s.version,.int .u32 s.epoch,.int .i64 s.cursor,.bool s.busy] := by rw [e];exact List.take_left' rfl
  have e2 : (stV s).drop (8 + 32) = s.mark.map u8v := by
    rw [← List.drop_drop]
    show (s.root.map u8v ++ s.mark.map u8v).drop 32 = _
    rw [List.drop_left' (by rw [List.length_map];exact h.root.1)]
  rw [e1,e2]
  show _ = ([.int .i64 s.pages,.int .i64 s.budget,.bool s.wide,.int .u32 s.boot,.int .u64 s.version,.int .u32 s.epoch,.int .i64 s.cursor,.bool s.busy] ++ (m.map u8v ++ s.mark.map u8v) : List Value).toArray
  rw [List.append_assoc]
/-- A root is set. -/
theorem storeRoot {ops : Array Oper} {rest : List Oper} {o : Oper} {a : Act} {Q : Exit → Act → World → Prop} {x y : Operand} {b : Nat} {tb : TypeId} {m : List Int} {s : Rg} (hS : Sat w0 S w) (hw : Region.wanted o (yielded ops a.tmps) = true) (ho : o.op = .store 26 x y) (hx : a.eval x = .pointer (some ⟨b,8,none⟩)) (hy : a.eval y = .agg (m.map u8v).toArray) (hs : s.Wf) (hm : m.length = 32)
    [Pull S b (cells (stV s).toArray tb) F] (k : ∀ w',Sat w0 ((b,cells (stV { s with root := m }).toArray tb)::F) w' → wpList Tryd.prog ops Q rest (a.put o.dst undef) w') : wpList Tryd.prog ops Q (o::rest) a w := by
  refine storeN hS hw ho hx hy (by simpa using hm) (fun u hu => by obtain ⟨y,_,rfl⟩ := List.mem_map.1 hu;rfl) (b := b) (c := (stV s).toArray) (tb := tb) (by rw [List.size_toArray,stV_len hs];omega) fun w' h => ?_
  rw [stSet8 hs hm] at h
  exact k w' h
theorem allRead {X : List (Value × List Int)} {g n cap : Nat} {T : TypeId} (h : Sat w0 S w) [Pull S g (slc 1 rowF X cap T) F] (hn : X.length = n) : BSl w 1 rowF (fun _ => True) X (.slice (some ⟨g,0,none⟩) n cap) := by
  subst hn
  exact h.readsSlc (g := g) (n := 1) (f := rowF) (L := X) (cap := cap) (t := T) fun _ _ => trivial
theorem takeRead {X : List (Value × List Int)} {g n cap k : Nat} {T : TypeId} (h : Sat w0 S w) [Pull S g (slc 1 rowF X cap T) F] (hn : X.length = n) (hk : k ≤ n) : BSl w 1 rowF (fun _ => True) (X.take k) (.slice (some ⟨g,0,none⟩) k cap) := bslHiN (allRead h hn) hk
theorem innCells {X : List (Value × List Int)} {j : Nat} {t : TypeId} (h : Sat w0 S w) [Pull S j (inn X t) F] (hX : ∀ y ∈ X,isRow y.2) : ∀ y ∈ X,y.1.oneCell' = true := fun y hy => rb_cell ((h.pull j (X := inn X t)).innReads (v := y.1) (A := y.2) hy (hX y hy).2)
theorem takeCells {X : List (Value × List Int)} (h : ∀ y ∈ X,y.1.oneCell' = true) (k : Nat) : ∀ y ∈ X.take k,∀ u ∈ rowF y,u.oneCell' = true := row_cells _ fun y hy => h y (List.mem_of_mem_take hy)
theorem rrSlc {X : List (Value × List Int)} {g n cap j : Nat} {T t : TypeId} {F' : List Chunk} (h : Sat w0 S w) [p : Pull S g (slc 1 rowF X cap T) F] [q : Pull S j (inn X t) F'] (hn : X.length = n) (hX : ∀ y ∈ X,isRow y.2) : RR w X (.slice (some ⟨g,0,none⟩) n cap) := by
  subst hn
  refine BSl.mono (gd := fun x => x ∈ X) (h.readsSlc (g := g) (n := 1) (f := rowF) (L := X) (cap := cap) (t := T) fun x hx => hx) (Below.refl _ _) fun x hx _ => ?_
  exact (h.pull j (X := inn X t)).innReads (v := x.1) (A := x.2) hx (hX x hx).2
theorem plOf_is {P : Nat} {lv : Value} (h1 : 1 ≤ P) (h3 : P ≤ 40) {R : Rg} (hR : RgN P 20 R) : (plOf R.pages.toNat R.budget.toNat lv).b = 20 ∧ (plOf R.pages.toNat R.budget.toNat lv).hd = P + cC P + 1 ∧ (plOf R.pages.toNat R.budget.toNat lv).jn = P + cC P + 2 := by
  obtain ⟨p1,p2,p3,p4,p5,p6,p7,p8⟩ := pl40 h1 h3
  rw [hR.pages,hR.budget,Int.toNat_natCast]
  exact ⟨rfl,p6,p7⟩
theorem putPs_len {c : Int} {Ps : List (List Int × List Int)} {k : Nat} {B : Row} : (putPs c Ps k B).length ≤ Ps.length + 1 := by
  unfold putPs
  split
  · rw [List.length_append];simp
  · omega
theorem drop_set0 {α : Type} {L : List α} {k : Nat} {y : α} (h : k < L.length) : (L.drop k).set 0 y = y::L.drop (k + 1) := by
  rw [List.drop_eq_getElem_cons h]
  rfl
theorem put_at {k n0 j : Nat} {ki : Int} {D : Dev} {cv vb : Value} {B : Row} {pl : Pl} {Ps : List (List Int × List Int)} {L : List (Nat × Row)} (hki : ki = (k : Int)) (hk : k < pl.hd) (hB : isRow B) (hl : L.length < pl.b) (hjn : pl.jn + pl.b ≤ 65536) (hhd : pl.hd ≤ 65536) (hP : Ps.length ≤ 900000) (hsm : D.wt.length ≤ n0 ∧ D.wr.length ≤ n0 ∧ D.count ≤ n0 ∧ D.armed ≤ 9223372036854775807) (hn0 : n0 ≤ 900000) (hK : KTab w0) (hR : ∀ w',Sat w0 K w' → RB w' B vb)
    (hS : Sat w0 ((1,LogV lg Ps)::(j,JobN d r lg pl L)::(d,DevG cv D)::K) w) :
    Calls Tryd.prog 10 #[.pointer (some ⟨j,0,none⟩),.int .i64 ki,vb] w fun e w' => e = .returned (.int .i64 (D.write ((pl.jn + L.length : Nat) : Int) B).2) ∧
      Sat w0 ((1,LogV lg (putPs (D.write ((pl.jn + L.length : Nat) : Int) B).2 Ps k B))::(j,JobN d r lg pl (putL (D.write ((pl.jn + L.length : Nat) : Int) B).2 L k B))::(d,DevG cv (D.write ((pl.jn + L.length : Nat) : Int) B).1)::K) w' := by
  subst hki
  exact put_ok hk hB hl hjn hhd hP hsm hn0 hK hR hS
end
end Go.Proofs.YtdkimdobcacpfaaDoor.BaseWholeDone
namespace Go.Proofs.YtdkimdobcacpfaaDoor.BaseWholeDone
open Go.RowKit Go.Proofs.YtdkimdobcacpfaaDoor Go.Proofs.YtdkimdobcacpfaaDoor.Sl Go.Proofs.YtdkimdobcacpfaaDoor.Sha Go.Proofs.YtdkimdobcacpfaaDoor.Jp Go.Proofs.YtdkimdobcacpfaaDoor.Tr Go.Proofs.YtdkimdobcacpfaaDoor.Dv

theorem headR_row {v : Int} {L : List (Nat × Row)} {hd : Nat} {h0 : Row} (h : headR v L 20 = [h0]) (hl : L.length ≤ 20) (hhd : hd ≤ 60000) (hlow : ∀ x ∈ L,x.1 < hd) : isRow h0 := by
  have hr : h0 ∈ headR v L 20 := by rw [h];simp
  have hokL : okL (jobBs L) ((20 : Nat) : Int) := ⟨⟨by omega,by omega⟩,by unfold jobBs;rw [List.length_map];omega,fun x hx => by
    obtain ⟨y,hy,rfl⟩ := List.mem_map.1 hx
    have := hlow y hy
    omega⟩
  exact ⟨cut_mem (full_length hokL) hr,cut_byt (full_byt _ _ _) hr⟩
theorem putsA_ok {I Tr : List Row} {P c H : Nat} (hI : ∀ r ∈ I,isRow r) (hT : ∀ r ∈ Tr,isRow r) (hIl : I.length ≤ P) (hTl : P + Tr.length = H) : (∀ x ∈ putsA I P Tr,x.1 < H) ∧ ∀ x ∈ putsA I P Tr,isRow x.2 := by
  refine ⟨fun x hx => ?_,fun x hx => ?_⟩
  · rcases putsA_mem hx with ⟨a,-⟩ | ⟨-,a,-⟩ <;> omega
  · rcases putsA_mem hx with ⟨-,a⟩ | ⟨-,-,a⟩
    · exact hI _ a
    · exact hT _ a
section
variable {P H : Nat} {D2 Dk : Dev} {R2 S0 sB : Rg} {A Lk : List (Nat × Row)} {rt mk : List Int} {h0 : Row} {steps : List SK} {old : Nat → Row}
theorem whTie (h1 : 1 ≤ P) (h3 : P ≤ 40) (hHc : P + cC P + 1 = H) (hH : H ≤ 50) (hB : Bt P H D2 R2) (hS0 : ({ R2 with version := 1,root := rt } : Rg) = S0) (hs : S0.Wf) (hh0 : headR S0.version A 20 = [h0]) (hmk : mkF [h0] (A.map (·.2)) = mk) (hsB : busyR S0 mk = sB)
    (hst : stepsJ dig (H + 1) (headWs H [h0]) A sB = steps) (hAl : A.length ≤ 20) (hlow : ∀ x ∈ A,x.1 < H) (hrow : ∀ x ∈ A,isRow x.2) (hr0 : isRow h0) (hP : PutI H (H + 1) old D2.st A A.length Dk Lk) :
    (Dk.off = false → Lk = A) ∧ Wh H (H + 1) (H + 41) old A R2 sB false 0 Dk R2 ∧
    (Dk.off = false → ((runJ dig Dk R2 steps).2.2 ≠ 0 → (runJ dig Dk R2 steps).1.off = true) ∧ Wh H (H + 1) (H + 41) old A R2 sB (decide ((runJ dig Dk R2 steps).2.2 = 0)) 0 (runJ dig Dk R2 steps).1 (runJ dig Dk R2 steps).2.1) := by
  have hb : S0.budget = ((20 : Nat) : Int) := by rw [← hS0];exact hB.rg.budget
  have hv := hs.version
  have hT : D2.st.length = H + 41 := hB.len
  have hL : Dk.off = false → Lk = A := fun ho => by have := (hP.on ho).1;rwa [List.take_length] at this
  have hrB : sB.right = true := by
    rw [← hsB,← hS0]
    exact hB.right h1 h3 _ rfl rfl rfl rfl
  refine ⟨hL,?_,fun ho => ?_⟩
  · rw [← hsB]
    exact Wh.cut hmk (by omega) hv hb hh0 hAl hlow (by omega) (by omega) hP hT
  · have e := hL ho
    subst e
    rw [← hst,← hsB]
    refine Wh.ran hmk (by omega) hv hb hh0 hr0 hAl hlow (fun x hx => (hrow x hx).1) (by omega) (by omega) hP ho hT (by omega) ?_ (by rw [hsB];exact hrB)
    rw [hsB]
    unfold Rg.follows
    rw [hrB,← hsB,← hS0]
    simp [busyR,hB.version]
end
end Go.Proofs.YtdkimdobcacpfaaDoor.BaseWholeDone
namespace Go.Proofs.YtdkimdobcacpfaaDoor.BaseWholeDone
open Go.RowKit Go.Proofs.YtdkimdobcacpfaaDoor Go.Proofs.YtdkimdobcacpfaaDoor.Sl Go.Proofs.YtdkimdobcacpfaaDoor.Sha Go.Proofs.YtdkimdobcacpfaaDoor.Jp Go.Proofs.YtdkimdobcacpfaaDoor.Tr Go.Proofs.YtdkimdobcacpfaaDoor.Dv

theorem crashOn_on (D : Dev) (F : List Int) : (D.crash.on F).On := by
  unfold Dev.on Dev.crash
  exact ⟨rfl,rfl⟩
theorem endP_up {dg : Nat → Row → List Int} {hd : Nat} {D : Dev} {R : Rg} (h : D.off = false) : (endP dg hd D R).1.off = false := by
  rw [(endP_dev _ _).1];exact h
theorem bootP_up {opn : List Row → Int → Int × List Int × Int} {mk : List Row → List Row → List Int} {dg : Nat → Row → List Int} {hd hs jn : Nat} {D : Dev} {R : Rg} (h : (bootP opn mk dg hd hs jn D R).2.2.2 = 0) : (bootP opn mk dg hd hs jn D R).1.off = false := by
  unfold bootP at h ⊢
  split
  · rename_i h1;rw [if_pos h1] at h;cases h
  · rename_i h1
    rw [if_neg h1] at h
    split
    · rename_i h2;rw [if_pos h2] at h;cases h
    · rename_i h2
      rw [if_neg h2] at h
      split
      · rename_i h3;rw [if_pos h3] at h;exact absurd h h3
      · rename_i h3
        rw [if_neg h3] at h
        have r1 := (reg_up (Decidable.not_not.1 h3)).1
        split
        · exact endP_up r1
        · rename_i h4
          rw [if_neg h4] at h
          split
          · rename_i h5;rw [if_pos h5] at h;exact absurd h h5
          · rename_i h5
            rw [if_neg h5] at h
            split
            · rename_i h6;rw [if_pos h6] at h;exact absurd h h6
            · rename_i h6
              exact endP_up (reg_up (Decidable.not_not.1 h6)).1
theorem rowsAt_eq {D : Dev} {n : Nat} {f : Nat → Row} (h : ∀ k,k < n → D.now k = f k) : rowsAt D 0 n = (List.range n).map f := by
  unfold rowsAt
  refine List.map_congr_left fun i hi => ?_
  rw [Nat.zero_add]
  exact h i (List.mem_range.1 hi)
theorem rowsAt_st {D : Dev} {n : Nat} (h : D.wt = []) : rowsAt D 0 n = (List.range n).map fun k => D.st.getD k [] := rowsAt_eq fun k _ => by
  unfold Dev.now
  rw [h]
  rfl
section
variable {P c H M m : Nat} {D2 D : Dev} {R2 R S0 sB : Rg} {Im Tr : List Row} {A : List (Nat × Row)} {rt mk : List Int} {top : Row} {dn : Bool}
/-- The last boot: the power is on; all blocks are as they were, or as they were to be. -/
theorem whEnd (h1 : 1 ≤ P) (h3 : P ≤ 40) (hHc : P + c + 1 = H) (hB : Bt P H D2 R2) (hS0 : ({ R2 with version := 1,root := rt } : Rg) = S0) (hsB : busyR S0 mk = sB) (hA : putsA Im P Tr = A) (hI : Im.length = M) (hM : M ≤ P) (hT : Tr.length = c + 1) (hIr : ∀ r ∈ Im,isRow r) (hTr : ∀ r ∈ Tr,isRow r)
    (htop : Tr[c]? = some top) (hrt : dig (H - 1) top = rt) (h : Wh H (H + 1) (H + 41) (fun k => D2.st.getD k []) A R2 sB dn m D R) (hm : m ≤ 100) (hn : D.On) :
    ∃ D' R',bootP openR mkF dig H 1 (H + 1) D R = (D',R',R',0) ∧ R'.busy = false ∧ D'.off = false ∧ D'.st.length = H + 41 ∧
      ((dn = false ∧ R'.version = 0 ∧ rowsAt D' 0 H = rowsAt D2 0 H) ∨ (R'.version = 1 ∧ R'.root = rt ∧ rowsAt D' 0 H = Im ++ ((rowsAt D2 0 H).take P ++ Tr).drop M)) := by
  have e1 : sB.version = 1 := by rw [← hsB,← hS0];rfl
  have e2 : sB.root = rt := by rw [← hsB,← hS0];rfl
  have e3 : sB.boot = 1 := by rw [← hsB,← hS0];exact hB.boot
  have e4 : sB.busy = true := by rw [← hsB];rfl
  have hrow : ∀ x ∈ A,x.2.length = 256 := fun x hx => by
    rw [← hA] at hx
    rcases putsA_mem hx with ⟨-,a⟩ | ⟨-,-,a⟩
    · exact (hIr _ a).1
    · exact (hTr _ a).1
  have hr0 : R2.right = true := hB.right h1 h3 R2 rfl rfl rfl rfl
  have hr1 : sB.right = true := hB.right h1 h3 sB (by rw [← hsB,← hS0];rfl) (by rw [← hsB,← hS0];rfl) (by rw [← hsB,← hS0];rfl) (by rw [← hsB,← hS0];rfl)
  have ht1 : dig (H - 1) (toBe (fun k => D2.st.getD k []) A (H - 1)) = sB.root := by
    rw [e2,← hrt,← hA,toBe_puts _ _ _ _ _ (by omega),if_neg (by omega),if_pos (by omega),show H - 1 - P = c by omega,List.getD_eq_getElem?_getD,htop]
    rfl
  obtain ⟨D',R',hb,hbz,hw⟩ := h.last hB.busy e4 (by omega) (by omega) (by omega) hn hr0 hr1 (by rw [hB.boot];omega) (by rw [e3];omega) hrow hB.top ht1
  have hup := bootP_up (opn := openR) (mk := mkF) (dg := dig) (hd := H) (hs := 1) (jn := H + 1) (D := D) (R := R) (by rw [hb])
  have hlen := boot_len (opn := openR) (mk := mkF) (dg := dig) (hd := H) (hs := 1) (jn := H + 1) D R
  rw [hb] at hup hlen
  have hT2 : D.st.length = H + 41 := by obtain ⟨J,-,q⟩ := h;exact q.1
  refine ⟨D',R',hb,hbz,hup,hlen.trans hT2,?_⟩
  rcases hw with ⟨a,b,q⟩ | ⟨a,b,q⟩
  · exact .inl ⟨a,by rw [b];exact hB.version,by rw [rowsAt_eq q,rowsAt_st hB.wt]⟩
  · refine .inr ⟨a.trans e1,b.trans e2,?_⟩
    rw [rowsAt_eq q,← hA]
    have hf := fresh_rows (fun k => D2.st.getD k []) Im Tr P (by omega)
    rw [hT,show P + (c + 1) = H by omega,hI] at hf
    rw [hf,rowsAt_st hB.wt]
    congr 2
    rw [← List.map_take,List.take_range,Nat.min_eq_left (by omega)]
/-- A boot on the way. -/
theorem whBoot (h1 : 1 ≤ P) (h3 : P ≤ 40) (hHc : P + cC P + 1 = H) (hB : Bt P H D2 R2) (hS0 : ({ R2 with version := 1,root := rt } : Rg) = S0) (hs : S0.Wf) (hmk : isDig mk) (hsB : busyR S0 mk = sB)
    (h : Wh H (H + 1) (H + 41) (fun k => D2.st.getD k []) A R2 sB dn m D R) (hm : m ≤ 100) :
    RgN P 20 R ∧ D.st.length = H + 41 ∧ bootF D R = bootP openR mkF dig H 1 (H + 1) D R ∧ Wh H (H + 1) (H + 41) (fun k => D2.st.getD k []) A R2 sB dn (m + 1) (bootP openR mkF dig H 1 (H + 1) D R).1 (bootP openR mkF dig H 1 (H + 1) D R).2.1 := by
  have e3 : sB.boot = 1 := by rw [← hsB,← hS0];exact hB.boot
  have e4 : sB.busy = true := by rw [← hsB];rfl
  have hrs : RgN P 20 sB := ⟨by rw [← hsB];exact busyR_wf hs hmk,by rw [← hsB,← hS0];exact hB.rg.pages,by rw [← hsB,← hS0];exact hB.rg.budget⟩
  obtain ⟨g1,g2⟩ := h.rgn hB.rg hrs (by rw [hB.boot];omega) (by rw [e3];omega)
  exact ⟨g1,g2,bootF40 h1 h3 hHc g1,h.boot hB.busy e4 (by omega) (by omega)⟩
variable {w0 w : World} {K : List Chunk} {d r : Nat} {lg : Value} {Q : List (List Int × List Int)}
/-- How it ends. -/
structure EndF (P H M : Nat) (Im Tr : List Row) (D2 : Dev) (rt : List Int) (dn : Bool) (D9 : Dev) (R9 : Rg) : Prop where
  wf : R9.Wf
  busy : R9.busy = false
  off : D9.off = false
  len : D9.st.length = H + 41
  wt : D9.wt.length ≤ 100000
  ways : (dn = false ∧ R9.version = 0 ∧ rowsAt D9 0 H = rowsAt D2 0 H) ∨ (R9.version = 1 ∧ R9.root = rt ∧ rowsAt D9 0 H = Im ++ ((rowsAt D2 0 H).take P ++ Tr).drop M)
/-- The same, walked. -/
theorem boot_way {k : Nat} (h1 : 1 ≤ P) (h3 : P ≤ 40) (hHc : P + cC P + 1 = H) (hB : Bt P H D2 R2) (hS0 : ({ R2 with version := 1,root := rt } : Rg) = S0) (hs : S0.Wf) (hmk : isDig mk) (hsB : busyR S0 mk = sB)
    (h : Wh H (H + 1) (H + 41) (fun k => D2.st.getD k []) A R2 sB dn k D R) (hz : SzN (200 + 310 * k) D) (hq : Q.length ≤ 400 + 2 * k) (hk : k ≤ 20) (hK : KTab w0) (hS : Sat w0 ((1,LogV lg Q)::(r,RegC d R)::(d,DevC D)::K) w) :
    Calls Tryd.prog 6 #[.pointer (some ⟨d,0,none⟩),.pointer (some ⟨r,0,none⟩),lg] w fun e w' => ∃ v D7 R7 Q7,e = .returned v ∧ Bx (Wh H (H + 1) (H + 41) (fun k => D2.st.getD k []) A R2 sB dn (k + 1) D7 R7 ∧ SzN (200 + 310 * (k + 1)) D7 ∧ List.length Q7 ≤ 400 + 2 * (k + 1)) ∧
      Sat w0 ((1,LogV lg Q7)::(r,RegC d R7)::(d,DevC D7)::K) w' := by
  obtain ⟨g1,g2,g3,g4⟩ := whBoot h1 h3 hHc hB hS0 hs hmk hsB h (by omega)
  refine Calls.mono (boot_full hz.all (by omega) g1.wf (fits40 h1 h3 (by rw [g2];omega) g1) (by omega) hK hS) ?_
  rintro _ w' ⟨rfl,hS2⟩
  rw [g3] at hS2
  have hl := btL_len (plH R.pages.toNat) (plHd R.budget.toNat) (plJ R.pages.toNat R.budget.toNat) D R
  exact ⟨_,_,_,_,rfl,⟨⟨g4,(hz.boot (b := 20) g1.budget (by omega)).le (by omega),by rw [List.length_append];show _ + (btL _ _ _ D R).length ≤ _;omega⟩⟩,hS2⟩
theorem boot_end {k : Nat} (h1 : 1 ≤ P) (h3 : P ≤ 40) (hc : cC P = c) (hHc : P + c + 1 = H) (hB : Bt P H D2 R2) (hS0 : ({ R2 with version := 1,root := rt } : Rg) = S0) (hs : S0.Wf) (hmk : isDig mk) (hsB : busyR S0 mk = sB) (hA : putsA Im P Tr = A) (hI : Im.length = M) (hM : M ≤ P) (hT : Tr.length = c + 1) (hIr : ∀ r ∈ Im,isRow r) (hTr : ∀ r ∈ Tr,isRow r)
    (htop : Tr[c]? = some top) (hrt : dig (H - 1) top = rt) (h : Wh H (H + 1) (H + 41) (fun k => D2.st.getD k []) A R2 sB dn k D R) (hn : D.On) (hz : SzN (200 + 310 * k) D) (hq : Q.length ≤ 400 + 2 * k) (hk : k ≤ 20) (hK : KTab w0) (hS : Sat w0 ((1,LogV lg Q)::(r,RegC d R)::(d,DevC D)::K) w) :
    Calls Tryd.prog 6 #[.pointer (some ⟨d,0,none⟩),.pointer (some ⟨r,0,none⟩),lg] w fun e w' => ∃ D9 R9 Q9,e = .returned (btRes R9 0) ∧ Bx (EndF P H M Im Tr D2 rt dn D9 R9) ∧
      Sat w0 ((1,LogV lg Q9)::(r,RegC d R9)::(d,DevC D9)::K) w' := by
  subst hc
  obtain ⟨D9,R9,e1,e2,e3,e4,e5⟩ := whEnd h1 h3 hHc hB hS0 hsB hA hI hM hT hIr hTr htop hrt h (by omega) hn
  obtain ⟨g1,g2,g3,g4⟩ := whBoot h1 h3 hHc hB hS0 hs hmk hsB h (by omega)
  refine Calls.mono (boot_full hz.all (by omega) g1.wf (fits40 h1 h3 (by rw [g2];omega) g1) (by omega) hK hS) ?_
  rintro _ w' ⟨rfl,hS2⟩
  rw [g3,e1] at hS2
  rw [g3,e1]
  have hrs : RgN P 20 sB := ⟨by rw [← hsB];exact busyR_wf hs hmk,by rw [← hsB,← hS0];exact hB.rg.pages,by rw [← hsB,← hS0];exact hB.rg.budget⟩
  have e3b : sB.boot = 1 := by rw [← hsB,← hS0];exact hB.boot
  obtain ⟨q1,q2⟩ := g4.rgn hB.rg hrs (by rw [hB.boot];omega) (by rw [e3b];omega)
  have hz9 := hz.boot (hd := H) (hs := 1) (jn := H + 1) (R := R) (b := 20) g1.budget (by omega)
  rw [e1] at q1 hz9
  exact ⟨D9,R9,_,rfl,⟨⟨q1.wf,e2,e3,e4,by have h9 : D9.wt.length ≤ 200 + 310 * k + 310 := hz9.all.1;omega,e5⟩⟩,hS2⟩
/-- Rows that stand anywhere. -/
theorem rrAny {S F : List Chunk} {X : List (Value × List Int)} {g n cap : Nat} {T : TypeId} (h : Sat w0 S w) [Pull S g (slc 1 rowF X cap T) F] (hn : X.length = n) (hX : ∀ y ∈ X,RB w y.2 y.1) : RR w X (.slice (some ⟨g,0,none⟩) n cap) := by
  subst hn
  exact BSl.mono (gd := fun x => x ∈ X) (h.readsSlc (g := g) (n := 1) (f := rowF) (L := X) (cap := cap) (t := T) fun x hx => hx) (Below.refl _ _) fun x hx _ => hX x hx
end
end Go.Proofs.YtdkimdobcacpfaaDoor.BaseWholeDone
