/-
  The plain law of journals: what a head says, and that it is opened as it was laid. No program in sight.
-/
import Derived.WalkKit
set_option linter.unusedSimpArgs false
set_option linter.unusedVariables false
namespace Go.Proofs.YtdkimdobcacpfaaDoor.Jp

/-- n as k bytes, the greatest first. -/
def be : Nat → Nat → List Int
  | 0,_ => []
  | k + 1,n => ((n / 256 ^ k % 256 : Nat) : Int)::be k n
/-- The number that bytes make. -/
def numF (a : Int) (l : List Int) : Int := l.foldl (fun n b => 256 * n + b) a
def num (l : List Int) : Int := numF 0 l
def Byt (l : List Int) : Prop := ∀ b ∈ l,0 ≤ b ∧ b < 256

@[simp] theorem be_length (k n : Nat) : (be k n).length = k := by
  induction k with
  | zero => rfl
  | succ k ih => simp [be,ih]
theorem be_byt (k n : Nat) : Byt (be k n) := by
  induction k with
  | zero => intro b hb;simp [be] at hb
  | succ k ih =>
    intro b hb
    simp only [be,List.mem_cons] at hb
    rcases hb with rfl | hb
    · omega
    · exact ih b hb
theorem numF_be (k n : Nat) (a : Int) : numF a (be k n) = a * 256 ^ k + ((n % 256 ^ k : Nat) : Int) := by
  induction k generalizing a with
  | zero => simp [be,numF,Nat.mod_one]
  | succ k ih =>
    have h1 : numF a (be (k + 1) n) = numF (256 * a + ((n / 256 ^ k % 256 : Nat) : Int)) (be k n) := rfl
    rw [h1,ih]
    have h2 : n % 256 ^ (k + 1) = n % 256 ^ k + 256 ^ k * (n / 256 ^ k % 256) := by rw [Nat.pow_succ,Nat.mod_mul]
    rw [h2,Int.pow_succ]
    generalize n / 256 ^ k % 256 = q
    generalize n % 256 ^ k = r
    rw [Int.natCast_add,Int.natCast_mul,Int.natCast_pow]
    have h3 : ((256 : Nat) : Int) = 256 := rfl
    rw [h3]
    generalize (256 : Int) ^ k = p
    rw [Int.add_mul,Int.mul_comm (q : Int) p,Int.mul_comm 256 a,Int.mul_assoc,Int.mul_comm 256 p]
    omega
theorem num_be {k n : Nat} (h : n < 256 ^ k) : num (be k n) = n := by
  unfold num;rw [numF_be,Nat.mod_eq_of_lt h];simp
theorem numF_lt : ∀ (l : List Int) (a : Int),Byt l → 0 ≤ a → 0 ≤ numF a l ∧ numF a l < (a + 1) * 256 ^ l.length
  | [],a,_,h => by
    show 0 ≤ a ∧ a < (a + 1) * 256 ^ 0
    rw [Int.pow_zero];omega
  | b::l,a,hb,h => by
    have h1 := hb b (by simp)
    have ih := numF_lt l (256 * a + b) (fun x hx => hb x (by simp [hx])) (by omega)
    have h2 : numF a (b::l) = numF (256 * a + b) l := rfl
    rw [h2]
    refine ⟨ih.1,Int.lt_of_lt_of_le ih.2 ?_⟩
    rw [List.length_cons,Int.pow_succ,Int.mul_comm (256 ^ l.length) 256,← Int.mul_assoc]
    exact Int.mul_le_mul_of_nonneg_right (by omega) (by exact Int.le_of_lt (Int.pow_pos (by decide)))
theorem num_lt {l : List Int} (h : Byt l) : 0 ≤ num l ∧ num l < 256 ^ l.length := by
  have := numF_lt l 0 h (by decide);simpa [num] using this

/-- How many blocks a head has. -/
def heads (budget : Int) : Nat := ((12 + 4 * budget.toNat) + 255) / 256
def okB (budget : Int) : Prop := 1 ≤ budget ∧ budget ≤ 256
instance (b : Int) : Decidable (okB b) := by unfold okB;infer_instance
/-- What a head says, before it is filled up. -/
def body (v : Int) (blocks : List Int) : List Int := be 8 v.toNat ++ be 4 blocks.length ++ blocks.flatMap fun b => be 4 b.toNat
theorem flat4_length (blocks : List Int) : (blocks.flatMap fun b => be 4 b.toNat).length = 4 * blocks.length := by
  induction blocks with
  | nil => rfl
  | cons b l ih => rw [List.flatMap_cons,List.length_append,ih];simp;omega
theorem body_length (v : Int) (blocks : List Int) : (body v blocks).length = 12 + 4 * blocks.length := by
  unfold body;rw [List.length_append,List.length_append,flat4_length];simp
def full (v : Int) (blocks : List Int) (budget : Int) : List Int := body v blocks ++ List.replicate (256 * heads budget - (12 + 4 * blocks.length)) 0
def cut (all : List Int) (n : Nat) : List (List Int) := (List.range n).map fun i => (all.drop (256 * i)).take 256
def okL (blocks : List Int) (budget : Int) : Prop := okB budget ∧ (blocks.length : Int) ≤ budget ∧ ∀ b ∈ blocks,0 ≤ b ∧ b < 65536
instance (l : List Int) (b : Int) : Decidable (okL l b) := by unfold okL;infer_instance
/-- P19.1 -/
def headOf (v : Int) (blocks : List Int) (budget : Int) : Option (List (List Int)) :=
  if okL blocks budget then some (cut (full v blocks budget) (heads budget)) else none

theorem full_length {v : Int} {blocks : List Int} {budget : Int} (h : okL blocks budget) : (full v blocks budget).length = 256 * heads budget := by
  obtain ⟨⟨h1,h2⟩,h3,_⟩ := h
  unfold full;rw [List.length_append,body_length,List.length_replicate];unfold heads;omega
theorem cut_length (all : List Int) (n : Nat) : (cut all n).length = n := by simp [cut]
theorem cut_succ (all : List Int) (n : Nat) : cut all (n + 1) = all.take 256::cut (all.drop 256) n := by
  unfold cut
  rw [List.range_succ_eq_map,List.map_cons,List.map_map]
  congr 1
  refine List.map_congr_left fun i _ => ?_
  simp [List.drop_drop,Nat.mul_add,Nat.add_comm]
theorem cut_flatten : ∀ (n : Nat) (all : List Int),all.length = 256 * n → (cut all n).flatten = all
  | 0,all,h => by have : all = [] := List.eq_nil_of_length_eq_zero (by omega);subst this;rfl
  | n + 1,all,h => by
    rw [cut_succ,List.flatten_cons,cut_flatten n _ (by rw [List.length_drop];omega),List.take_append_drop]
theorem cut_mem {all : List Int} {n : Nat} (h : all.length = 256 * n) {l : List Int} (hl : l ∈ cut all n) : l.length = 256 := by
  unfold cut at hl
  obtain ⟨i,hi,rfl⟩ := List.mem_map.1 hl
  have := List.mem_range.1 hi
  rw [List.length_take,List.length_drop];omega

/-- The block numbers that bytes say. -/
def nums4 (all : List Int) (n : Nat) : List Int := (List.range n).map fun i => num ((all.drop (12 + 4 * i)).take 4)
def ver (all : List Int) : Int := num (all.take 8)
def cnt (all : List Int) : Int := num ((all.drop 8).take 4)
/-- P19.2 -/
def openOk (head : List (List Int)) (budget : Int) : Prop :=
  12 + 4 * (cnt head.flatten).toNat ≤ head.flatten.length ∧ headOf (ver head.flatten) (nums4 head.flatten (cnt head.flatten).toNat) budget = some head
def opened (head : List (List Int)) : Int × List Int := (ver head.flatten,nums4 head.flatten (cnt head.flatten).toNat)

/-- What was laid is opened as it was. -/
theorem open_head {v : Int} {blocks : List Int} {budget : Int} {h : List (List Int)} (hv : 0 ≤ v ∧ v < 18446744073709551616) (hh : headOf v blocks budget = some h) : openOk h budget ∧ opened h = (v,blocks) := by
  unfold headOf at hh
  split at hh
  · rename_i hk
    have e := Option.some.inj hh
    have hf : h.flatten = full v blocks budget := by rw [← e,cut_flatten _ _ (full_length hk)]
    obtain ⟨⟨hb1,hb2⟩,hl,hb⟩ := hk
    have hver : ver h.flatten = v := by
      rw [hf];unfold ver full body
      rw [List.append_assoc,List.append_assoc,List.take_left' (by simp),num_be (by omega)];omega
    have hcnt : cnt h.flatten = blocks.length := by
      rw [hf];unfold cnt full body
      rw [List.append_assoc,List.append_assoc,List.drop_left' (by simp),List.take_left' (by simp),num_be (by omega)]
    have hnums : nums4 h.flatten blocks.length = blocks := by
      rw [hf];unfold nums4
      apply List.ext_getElem?
      intro i
      by_cases hi : i < blocks.length
      · rw [List.getElem?_map,List.getElem?_range hi,List.getElem?_eq_getElem hi]
        simp only [Option.map_some]
        congr 1
        have h5 : full v blocks budget = (be 8 v.toNat ++ be 4 blocks.length ++ (blocks.take i).flatMap fun b => be 4 b.toNat) ++ (be 4 (blocks[i]).toNat ++ (((blocks.drop (i + 1)).flatMap fun b => be 4 b.toNat) ++ List.replicate (256 * heads budget - (12 + 4 * blocks.length)) 0)) := by
          have h6 : blocks = blocks.take i ++ blocks[i]::blocks.drop (i + 1) := by rw [← List.drop_eq_getElem_cons hi,List.take_append_drop]
          unfold full body
          conv => lhs;arg 1;arg 2;rw [h6]
          rw [List.flatMap_append,List.flatMap_cons]
          simp only [List.append_assoc]
        rw [h5,List.drop_left' (by rw [List.length_append,flat4_length];simp;omega),List.take_left' (by simp)]
        have := hb blocks[i] (List.getElem_mem hi)
        rw [num_be (by omega)];omega
      · rw [List.getElem?_eq_none (by simpa using hi),List.getElem?_eq_none (by omega)]
    have hk' : okL blocks budget := ⟨⟨hb1,hb2⟩,hl,hb⟩
    refine ⟨⟨?_,?_⟩,?_⟩
    · rw [hcnt,hf,full_length hk'];unfold heads;omega
    · rw [hver,hcnt,Int.toNat_natCast,hnums];unfold headOf;rw [if_pos hk',e]
    · unfold opened;rw [hver,hcnt,Int.toNat_natCast,hnums]
  · cases hh

instance (H : List (List Int)) (b : Int) : Decidable (openOk H b) := by unfold openOk;infer_instance
/-- What opening answers. -/
def openR (H : List (List Int)) (budget : Int) : Int × List Int × Int :=
  if okB budget then (if openOk H budget then (ver H.flatten,nums4 H.flatten (cnt H.flatten).toNat,0) else (0,[],3)) else (0,[],1)
theorem openR_bad {H : List (List Int)} {b : Int} (h : ¬ okB b) : openR H b = (0,[],1) := by unfold openR;rw [if_neg h]
theorem openR_form {H : List (List Int)} {b : Int} (h : okB b) (h2 : ¬ openOk H b) : openR H b = (0,[],3) := by unfold openR;rw [if_pos h,if_neg h2]
theorem openR_ok {H : List (List Int)} {b : Int} (h : okB b) (h2 : openOk H b) : openR H b = (ver H.flatten,nums4 H.flatten (cnt H.flatten).toNat,0) := by unfold openR;rw [if_pos h,if_pos h2]
theorem headOf_none {v : Int} {l : List Int} {b : Int} (h : ¬ okL l b) : headOf v l b = none := by unfold headOf;rw [if_neg h]
theorem headOf_some {v : Int} {l : List Int} {b : Int} (h : okL l b) : headOf v l b = some (cut (full v l b) (heads b)) := by unfold headOf;rw [if_pos h]
theorem full_byt (v : Int) (l : List Int) (b : Int) : Byt (full v l b) := by
  intro x hx
  unfold full body at hx
  simp only [List.mem_append,List.mem_flatMap] at hx
  rcases hx with ((h | h) | ⟨y,_,h⟩) | h
  · exact be_byt _ _ x h
  · exact be_byt _ _ x h
  · exact be_byt _ _ x h
  · rw [(List.mem_replicate.1 h).2];omega
theorem num_take_succ {A : List Int} {k : Nat} {x : Int} (hx : A[k]? = some x) : num (A.take (k + 1)) = 256 * num (A.take k) + x := by
  unfold num numF
  rw [List.take_add_one,hx,List.foldl_append];rfl
end Go.Proofs.YtdkimdobcacpfaaDoor.Jp
