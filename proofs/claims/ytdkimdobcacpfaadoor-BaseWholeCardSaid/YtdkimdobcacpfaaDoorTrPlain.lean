/-
  The tree in plain words: what stands above a row of blocks, by the program's steps and by the document's. No program in sight.
-/
import Derived.Test.YtdkimdobcacpfaaDoorSlB
set_option linter.unusedSimpArgs false
set_option linter.unusedVariables false
namespace Go.Proofs.YtdkimdobcacpfaaDoor.Tr
open Go.Proofs.YtdkimdobcacpfaaDoor.Sl

abbrev Row := List Int
def z256 : Row := List.replicate 256 0
def putAt (A : Row) (o : Nat) (D : Row) : Row := A.take o ++ D ++ A.drop (o + D.length)
theorem putAt_len {A D : Row} {o : Nat} (h : o + D.length ≤ A.length) : (putAt A o D).length = A.length := by simp [putAt];omega
theorem putAt_all {p : Int → Prop} {A D : Row} {o : Nat} (hA : ∀ x ∈ A,p x) (hD : ∀ x ∈ D,p x) : ∀ x ∈ putAt A o D,p x := fun x hx => by
  unfold putAt at hx
  rcases List.mem_append.1 hx with hx | hx
  · rcases List.mem_append.1 hx with hx | hx
    · exact hA x (List.mem_of_mem_take hx)
    · exact hD x hx
  · exact hA x (List.mem_of_mem_drop hx)

theorem modify_mid {α : Type} {x : α} {f : α → α} {B : List α} : ∀ (A : List α),(A ++ x::B).modify A.length f = A ++ f x::B
  | [] => rfl
  | a::A => by
    show a::(A ++ x::B).modify A.length f = _
    rw [modify_mid A];rfl
theorem modify_left {α : Type} {f : α → α} {B : List α} : ∀ (A : List α) (k : Nat),k < A.length → (A ++ B).modify k f = A.modify k f ++ B
  | a::A,0,_ => rfl
  | a::A,k + 1,h => by
    show a::(A ++ B).modify k f = a::(A.modify k f ++ B)
    rw [modify_left A k (by simpa using h)]
theorem modify_right {α : Type} {f : α → α} {B : List α} : ∀ (A : List α) (k : Nat),(A ++ B).modify (A.length + k) f = A ++ B.modify k f
  | [],k => by simp
  | a::A,k => by
    rw [List.length_cons,Nat.add_right_comm]
    show a::(A ++ B).modify (A.length + k) f = _
    rw [modify_right A k];rfl
theorem modify_set {α : Type} {f : α → α} : ∀ {l : List α} {k : Nat} {x : α},l[k]? = some x → l.modify k f = l.set k (f x)
  | a::l,0,x,h => by simp at h;subst h;rfl
  | a::l,k + 1,x,h => by
    show a::l.modify k f = a::l.set k (f x)
    rw [modify_set (by simpa using h)]

section
variable (d : Nat → Row → Row)
/-- One block more stands under the row above. -/
def abStep (fr : Nat) (out : List Row) (i : Nat) (b : Row) : List Row :=
  (if i % 8 = 0 then out ++ [z256] else out).modify (i / 8) (fun A => putAt A (32 * (i % 8)) (d (fr + i) b))
def ab (fr : Nat) (bs : List Row) : Nat → List Row
  | 0 => []
  | k + 1 => abStep d fr (ab fr bs k) k (bs.getD k [])
/-- What is hashed of the first k blocks of a row. -/
def notes (pre : Nat → Row → Row) (fr : Nat) (bs : List Row) : Nat → List (Row × Row)
  | 0 => []
  | k + 1 => notes pre fr bs k ++ [(pre (fr + k) (bs.getD k []),d (fr + k) (bs.getD k []))]
variable {d}
theorem notes_len (pre : Nat → Row → Row) (fr : Nat) (bs : List Row) : ∀ k,(notes d pre fr bs k).length = k
  | 0 => rfl
  | k + 1 => by rw [notes,List.length_append,notes_len pre fr bs k];rfl
theorem ab_len (fr : Nat) (bs : List Row) : ∀ k,(ab d fr bs k).length = (k + 7) / 8
  | 0 => rfl
  | k + 1 => by
    rw [ab,abStep,List.length_modify]
    have := ab_len fr bs k
    split
    · rw [List.length_append,this];simp;omega
    · rw [this];omega
theorem mem_modify {α : Type} {p : α → Prop} {f : α → α} (hf : ∀ x,p x → p (f x)) : ∀ {l : List α} {k : Nat},(∀ x ∈ l,p x) → ∀ x ∈ l.modify k f,p x
  | [],k,_,x,hx => by cases k <;> simp at hx
  | a::l,0,h,x,hx => by
    rcases List.mem_cons.1 (show x ∈ f a::l from hx) with e | e
    · rw [e];exact hf a (h a (by simp))
    · exact h x (by simp [e])
  | a::l,k + 1,h,x,hx => by
    rcases List.mem_cons.1 (show x ∈ a::l.modify k f from hx) with e | e
    · rw [e];exact h a (by simp)
    · exact mem_modify hf (fun y hy => h y (by simp [hy])) x e
/-- A node: 256 bytes. -/
def isRow (r : Row) : Prop := r.length = 256 ∧ ∀ x ∈ r,okByte x
theorem isRow_z : isRow z256 := ⟨List.length_replicate,fun x hx => by rw [(List.mem_replicate.1 hx).2];unfold okByte;omega⟩
theorem isRow_put {A D : Row} {o : Nat} (hA : isRow A) (hD : D.length = 32) (hb : ∀ x ∈ D,okByte x) (ho : o + 32 ≤ 256) : isRow (putAt A o D) :=
  ⟨by rw [putAt_len (by rw [hD,hA.1];exact ho)];exact hA.1,putAt_all hA.2 hb⟩
theorem ab_rows (hd : ∀ i A,(d i A).length = 32) (hb : ∀ i A,∀ x ∈ d i A,okByte x) (fr : Nat) (bs : List Row) : ∀ k,∀ r ∈ ab d fr bs k,isRow r
  | 0 => fun r hr => by cases hr
  | k + 1 => by
    rw [ab,abStep]
    refine mem_modify (fun A hA => isRow_put hA (hd _ _) (hb _ _) (by omega)) ?_
    have ih := ab_rows hd hb fr bs k
    split
    · intro r hr
      rcases List.mem_append.1 hr with h | h
      · exact ih r h
      · rw [List.mem_singleton.1 h];exact isRow_z
    · exact ih
/-- .. with empty nodes behind it. -/
theorem ab_pad (fr : Nat) (src : List Row) (M i : Nat) (hM : i / 8 < M) :
    (ab d fr src i ++ List.replicate (M - (i + 7) / 8) z256).modify (i / 8) (fun A => putAt A (32 * (i % 8)) (d (fr + i) (src.getD i []))) = ab d fr src (i + 1) ++ List.replicate (M - (i + 8) / 8) z256 := by
  have hl := ab_len (d := d) fr src i
  rw [ab,abStep]
  by_cases h : i % 8 = 0
  · have e1 : (ab d fr src i).length = i / 8 := by rw [hl];omega
    rw [if_pos h,show M - (i + 7) / 8 = (M - (i + 8) / 8) + 1 by omega,List.replicate_succ,← e1,modify_mid,modify_mid]
    simp
  · rw [if_neg h,modify_left _ _ (by rw [hl];omega),show (i + 8) / 8 = (i + 7) / 8 by omega]

/-- Which place the document gives to what stands in block i behind the pages. -/
def par (C n1 N i : Nat) : Option (Nat × Nat) :=
  if i < C then some (C + i / 8,i % 8) else if i < C + n1 ∧ n1 < N then some (C + n1 + (i - C) / 8,(i - C) % 8) else none
variable (d)
def allStep (P C n1 N : Nat) (out : List Row) (i : Nat) : List Row :=
  match par C n1 N i with
  | none => out
  | some (u,t) => out.modify u (fun A => putAt A (32 * t) (d (P + i) (out.getD i [])))
def all (P C n1 N : Nat) (bs : List Row) : Nat → List Row
  | 0 => bs ++ List.replicate N z256
  | k + 1 => allStep d P C n1 N (all P C n1 N bs k) k
/-- The program's levels: where the last one begins, the last one, all nodes. -/
def stB (P : Nat) (bs : List Row) : Nat → Nat × List Row × List Row
  | 0 => (P,bs,[])
  | k + 1 => ((stB P bs k).1 + (stB P bs k).2.1.length,ab d (stB P bs k).1 (stB P bs k).2.1 (stB P bs k).2.1.length,(stB P bs k).2.2 ++ ab d (stB P bs k).1 (stB P bs k).2.1 (stB P bs k).2.1.length)
/-- What is hashed for so many levels. -/
def stN (pre : Nat → Row → Row) (P : Nat) (bs : List Row) : Nat → List (Row × Row)
  | 0 => []
  | k + 1 => stN pre P bs k ++ notes d pre (stB d P bs k).1 (stB d P bs k).2.1 (stB d P bs k).2.1.length
variable {d}
theorem stN_len (pre : Nat → Row → Row) (P : Nat) (bs : List Row) : ∀ k,P + (stN d pre P bs k).length = (stB d P bs k).1
  | 0 => rfl
  | k + 1 => by rw [stN,List.length_append,notes_len,stB,← Nat.add_assoc,stN_len pre P bs k]
theorem getD_left (A B : List Row) (i : Nat) (h : i < A.length) : (A ++ B).getD i [] = A.getD i [] := by
  simp [List.getD,List.getElem?_append_left h]
theorem getD_right (A B : List Row) (j : Nat) : (A ++ B).getD (A.length + j) [] = B.getD j [] := by
  simp [List.getD,List.getElem?_append_right]
theorem all_len (P C n1 N : Nat) (bs : List Row) : ∀ i,(all d P C n1 N bs i).length = bs.length + N
  | 0 => by simp [all]
  | i + 1 => by
    have ih := all_len P C n1 N bs i
    rw [all,allStep]
    split
    · exact ih
    · rw [List.length_modify];exact ih
theorem par_lt {C n1 N i u t : Nat} (h : par C n1 N i = some (u,t)) : t < 16 ∧ (i < C + n1) ∧ u = (if i < C then C + i / 8 else C + n1 + (i - C) / 8) ∧ t < 8 ∧ (C ≤ i → n1 < N) := by
  unfold par at h
  split at h
  · cases h;exact ⟨by omega,by omega,by rw [if_pos (by assumption)],by omega,by omega⟩
  · split at h
    · cases h;exact ⟨by omega,by omega,by rw [if_neg (by omega)],by omega,by omega⟩
    · cases h
theorem all_rows (hd : ∀ i A,(d i A).length = 32) (hb : ∀ i A,∀ x ∈ d i A,okByte x) (P C n1 N : Nat) (bs : List Row) (hbs : ∀ r ∈ bs,isRow r) : ∀ i,∀ r ∈ all d P C n1 N bs i,isRow r
  | 0 => fun r hr => by
    rcases List.mem_append.1 hr with h | h
    · exact hbs r h
    · rw [(List.mem_replicate.1 h).2];exact isRow_z
  | i + 1 => by
    have ih := all_rows hd hb P C n1 N bs hbs i
    rw [all,allStep]
    split
    · exact ih
    · rename_i u t hp
      have := (par_lt hp).2.2.2.1
      exact mem_modify (fun A hA => isRow_put hA (hd _ _) (hb _ _) (by omega)) ih
theorem all_one (P C n1 N : Nat) (bs : List Row) (hC : bs.length = C) (hN : (C + 7) / 8 ≤ N) : ∀ i,i ≤ C → all d P C n1 N bs i = bs ++ (ab d P bs i ++ List.replicate (N - (i + 7) / 8) z256)
  | 0,_ => by simp [all,ab]
  | i + 1,hi => by
    rw [all,all_one P C n1 N bs hC hN i (by omega),allStep]
    have hp : par C n1 N i = some (C + i / 8,i % 8) := by rw [par,if_pos (by omega)]
    rw [hp]
    show List.modify _ (C + i / 8) _ = _
    rw [getD_left _ _ _ (by omega)]
    rw [← ab_pad P bs N i (by omega),← hC,modify_right]
theorem all_two (P C n1 : Nat) (bs : List Row) (hC : bs.length = C) (h1 : n1 = (C + 7) / 8) (h8 : n1 ≤ 8) (h0 : 0 < n1) : ∀ j,j ≤ n1 →
    all d P C n1 (n1 + 1) bs (C + j) = bs ++ (ab d P bs C ++ (ab d (P + C) (ab d P bs C) j ++ List.replicate (1 - (j + 7) / 8) z256))
  | 0,_ => by
    show all d P C n1 (n1 + 1) bs C = _
    rw [all_one P C n1 (n1 + 1) bs hC (by omega) C (by omega),show n1 + 1 - (C + 7) / 8 = 1 by omega]
    rfl
  | j + 1,hj => by
    have hl : (ab d P bs C).length = n1 := by rw [ab_len,h1]
    rw [← Nat.add_assoc,all,all_two P C n1 bs hC h1 h8 h0 j (by omega),allStep]
    have hp : par C n1 (n1 + 1) (C + j) = some (C + n1 + j / 8,j % 8) := by
      rw [par,if_neg (by omega),if_pos (by omega),Nat.add_sub_cancel_left]
    rw [hp]
    show List.modify _ (C + n1 + j / 8) _ = _
    have e1 : (bs ++ (ab d P bs C ++ (ab d (P + C) (ab d P bs C) j ++ List.replicate (1 - (j + 7) / 8) z256))).getD (C + j) [] = (ab d P bs C).getD j [] := by
      rw [← hC,getD_right,getD_left _ _ _ (by rw [hC,hl];omega)]
    rw [e1,← ab_pad (P + C) (ab d P bs C) 1 j (by omega),Nat.add_assoc C,← hC,modify_right,hC,← hl,modify_right,Nat.add_assoc]
theorem all_end (P C n1 N : Nat) (bs : List Row) : ∀ m i,(∀ j,i ≤ j → par C n1 N j = none) → all d P C n1 N bs (i + m) = all d P C n1 N bs i
  | 0,_,_ => rfl
  | m + 1,i,h => by
    rw [← Nat.add_assoc,all,all_end P C n1 N bs m i h,allStep,h _ (by omega)]
/-- The document's nodes are the program's. -/
theorem all_is (P C n1 m : Nat) (bs : List Row) (hC : bs.length = C) (h1 : n1 = (C + 7) / 8) (hm : (m = 1 ∧ n1 = 1) ∨ (m = 2 ∧ 2 ≤ n1 ∧ n1 ≤ 8)) :
    all d P C n1 (n1 + (m - 1)) bs (C + (n1 + (m - 1))) = bs ++ (stB d P bs m).2.2 ∧ (stB d P bs m).2.1.length = 1 ∧ (stB d P bs m).1 = P + C + (if m = 1 then 0 else n1) ∧ (stB d P bs m).2.2.getD (n1 + (m - 1) - 1) [] = (stB d P bs m).2.1.getD 0 [] ∧ (stB d P bs m).2.2.length = n1 + (m - 1) := by
  have hl : (ab d P bs C).length = n1 := by rw [ab_len,h1]
  rcases hm with ⟨rfl,h⟩ | ⟨rfl,h2,h8⟩
  · subst h
    refine ⟨?_,?_,?_,?_,?_⟩
    · show all d P C 1 1 bs (C + 1) = _
      rw [all_end P C 1 1 bs 1 C (fun j hj => by rw [par,if_neg (by omega),if_neg (by omega)]),all_one P C 1 1 bs hC (by omega) C (by omega)]
      simp [stB,hC];omega
    · simp [stB,hC,hl]
    · simp [stB,hC]
    · simp [stB]
    · simp [stB,hC,hl]
  · have hl2 : (ab d (P + C) (ab d P bs C) n1).length = 1 := by rw [ab_len];omega
    refine ⟨?_,?_,?_,?_,?_⟩
    · show all d P C n1 (n1 + 1) bs (C + (n1 + 1)) = _
      rw [← Nat.add_assoc,all_end P C n1 (n1 + 1) bs 1 (C + n1) (fun j hj => by rw [par,if_neg (by omega),if_neg (by omega)]),all_two P C n1 bs hC h1 h8 (by omega) n1 (by omega)]
      simp [stB,hC,hl];omega
    · simp [stB,hC,hl,hl2]
    · simp [stB,hC,hl]
    · show (stB d P bs 2).2.2.getD n1 [] = _
      simp only [stB,hC,hl,List.nil_append]
      have := getD_right (ab d P bs C) (ab d (P + C) (ab d P bs C) n1) 0
      rw [hl] at this
      exact this
    · simp [stB,hC,hl,hl2]
end
end Go.Proofs.YtdkimdobcacpfaaDoor.Tr
