/-
  Words of 32 bits, turned to the right: the two ways in which the program writes it. No program in sight.
  The words of sha and of thimbleref03, turned.
  thimbleref03.Padded.
  thimbleref03.words: the table; sha.New.
  SHA-256 in plain words: the words of a block, the rounds, a block, all blocks. No program in sight.
  SHA-256 of whole texts in plain words: the blocks, the digest. No program in sight.
  Digests in plain words: the bytes that are written out. No program in sight.
-/
import Derived.WalkKit
import Derived.Lib.EndianBits
import Derived.Test.YtdkimdobcacpfaaDoorTab
import Derived.Test.YtdkimdobcacpfaaDoorSlB
import Derived.Test.YtdkimdobcacpfaaDoorJPlain
set_option linter.unusedSimpArgs false
set_option linter.unusedVariables false
namespace Go.Proofs.YtdkimdobcacpfaaDoor.Sha
open Go

/-- A word of 32 bits. -/
def In32 (x : Int) : Prop := 0 ≤ x ∧ x < 4294967296
/-- A word turned to the right by n. -/
def ror (x : Int) (n : Nat) : Int := x / 2 ^ n + (x * 2 ^ (32 - n)) % 4294967296
theorem ror_parts {x : Int} {n : Nat} (h1 : 1 ≤ n) (h2 : n ≤ 31) (hx : 0 ≤ x) (hx2 : x < 4294967296) :
    0 ≤ x / 2 ^ n ∧ x / 2 ^ n < 2 ^ (32 - n) ∧ x / 2 ^ n < 2 ^ 32 ∧ 0 ≤ (x * 2 ^ (32 - n)) % 4294967296 ∧ ((x * 2 ^ (32 - n)) % 4294967296) % 2 ^ (32 - n) = 0 ∧ (x * 2 ^ (32 - n)) % 4294967296 < 2 ^ 32 := by
  have e : (2 : Int) ^ 32 = 2 ^ n * 2 ^ (32 - n) := by rw [← Int.pow_add];congr 1;omega
  have p1 : (0 : Int) < 2 ^ n := Int.pow_pos (by decide)
  have p2 : (0 : Int) < 2 ^ (32 - n) := Int.pow_pos (by decide)
  have e32 : (2 : Int) ^ 32 = 4294967296 := by decide
  refine ⟨Int.ediv_nonneg hx (Int.le_of_lt p1),?_,?_,Int.emod_nonneg _ (by decide),?_,?_⟩
  · rw [Int.ediv_lt_iff_lt_mul p1,Int.mul_comm,← e,e32];exact hx2
  · exact Int.lt_of_le_of_lt (Int.ediv_le_self _ hx) (by rw [e32];exact hx2)
  · rw [← e32,e,Int.mul_comm x,Int.mul_comm (2 ^ n) (2 ^ (32 - n)),Int.mul_emod_mul_of_pos _ _ p2,Int.mul_emod_right]
  · rw [e32];exact Int.emod_lt_of_pos _ (by decide)
theorem ror_low {x : Int} {n : Nat} (h1 : 1 ≤ n) (h2 : n ≤ 31) (hx : 0 ≤ x) (hx2 : x < 4294967296) : bits .or .u32 (x / 2 ^ n) ((x * 2 ^ (32 - n)) % 4294967296) = ror x n := by
  obtain ⟨a,b,c,d,e,f⟩ := ror_parts h1 h2 hx hx2
  exact bits_join_low .u32 32 (by decide) wraps_u32 (32 - n) _ _ a b c d e f
theorem ror_high {x : Int} {n : Nat} (h1 : 1 ≤ n) (h2 : n ≤ 31) (hx : 0 ≤ x) (hx2 : x < 4294967296) : bits .or .u32 ((x * 2 ^ (32 - n)) % 4294967296) (x / 2 ^ n) = ror x n := by
  obtain ⟨a,b,c,d,e,f⟩ := ror_parts h1 h2 hx hx2
  rw [bits_join .u32 32 (by decide) wraps_u32 (32 - n) _ _ d e f a b c]
  unfold ror;omega
/-- A word of four bytes. -/
theorem word_or {a b c d : Int} (ha : 0 ≤ a ∧ a < 256) (hb : 0 ≤ b ∧ b < 256) (hc : 0 ≤ c ∧ c < 256) (hd : 0 ≤ d ∧ d < 256) :
    bits .or .u32 (bits .or .u32 (bits .or .u32 (a * 16777216) (b * 65536)) (c * 256)) d = a * 16777216 + b * 65536 + c * 256 + d := by
  rw [bits_join .u32 32 (by decide) wraps_u32 24 (a * 16777216) (b * 65536) (by omega) (by omega) (by omega) (by omega) (by omega) (by omega),
    bits_join .u32 32 (by decide) wraps_u32 16 _ (c * 256) (by omega) (by omega) (by omega) (by omega) (by omega) (by omega),
    bits_join .u32 32 (by decide) wraps_u32 8 _ d (by omega) (by omega) (by omega) (by omega) (by omega) (by omega)]
end Go.Proofs.YtdkimdobcacpfaaDoor.Sha
namespace Go.Proofs.YtdkimdobcacpfaaDoor
open Go.RowKit Go.Proofs.YtdkimdobcacpfaaDoor.Sl Go.Proofs.YtdkimdobcacpfaaDoor.Sha

section
variable {w0 : World}
theorem rotr_any (x : Int) (n : Nat) (h1 : 1 ≤ n) (h2 : n ≤ 31) (hx : 0 ≤ x) (hx2 : x < 4294967296) : Calls Tryd.prog 83 #[.int .u32 x,.int .u64 (n : Int)] w0 fun e w' => e = .returned (.int .u32 (ror x n)) ∧ Sat w0 [] w' := by
  have e := ror_low h1 h2 hx hx2
  have E : Hid _ := e
  clear e
  go_enter Tryd.func83,Tryd.ntmps83
  go_wp2
  go_ret
  exact ⟨by rw [← E.out];rfl,Sat.refl w0⟩
theorem turn_any (x : Int) (n : Nat) (h1 : 1 ≤ n) (h2 : n ≤ 31) (hx : 0 ≤ x) (hx2 : x < 4294967296) : Calls Tryd.prog 94 #[.int .u32 x,.int .i64 (n : Int)] w0 fun e w' => e = .returned (.int .u32 (ror x n)) ∧ Sat w0 [] w' := by
  have hand : ∀ k : Fin 32,1 ≤ k.val → bits .and .u64 (IntKind.u64.wrap (-(k.val : Int))) 31 = ((32 - k.val : Nat) : Int) := by decide +kernel
  have hm := hand ⟨n,by omega⟩ h1
  simp only at hm
  have e := ror_high h1 h2 hx hx2
  obtain ⟨m,rfl,hm1,hm2⟩ : ∃ m : Nat,n = 32 - m ∧ 1 ≤ m ∧ m ≤ 31 := ⟨32 - n,by omega,by omega,by omega⟩
  rw [show 32 - (32 - m) = m by omega] at hm e
  have E : Hid _ := e
  clear e hand
  go_enter Tryd.func94,Tryd.ntmps94
  go_wp2
  go_ret
  exact ⟨by rw [← E.out];rfl,Sat.refl w0⟩
/-- The same, the number as it stands at a call. -/
theorem rotr_z (x z : Int) (hz : 1 ≤ z ∧ z ≤ 31) (hx : In32 x) : Calls Tryd.prog 83 #[.int .u32 x,.int .u64 z] w0 fun e w' => e = .returned (.int .u32 (ror x z.toNat)) ∧ Sat w0 [] w' := by
  obtain ⟨n,rfl⟩ : ∃ n : Nat,z = n := ⟨z.toNat,by omega⟩
  exact rotr_any x n (by omega) (by omega) hx.1 hx.2
theorem turn_z (x z : Int) (hz : 1 ≤ z ∧ z ≤ 31) (hx : In32 x) : Calls Tryd.prog 94 #[.int .u32 x,.int .i64 z] w0 fun e w' => e = .returned (.int .u32 (ror x z.toNat)) ∧ Sat w0 [] w' := by
  obtain ⟨n,rfl⟩ : ∃ n : Nat,z = n := ⟨z.toNat,by omega⟩
  exact turn_any x n (by omega) (by omega) hx.1 hx.2
end
end Go.Proofs.YtdkimdobcacpfaaDoor
namespace Go.Proofs.YtdkimdobcacpfaaDoor
open Go.RowKit Go.Proofs.YtdkimdobcacpfaaDoor.Sl Go.Proofs.YtdkimdobcacpfaaDoor.Jp

/-- How many zeros fill up. -/
def zc (n : Nat) : Nat := (119 - n % 64) % 64
def pad (A : List Int) : List Int := A ++ [128] ++ List.replicate (zc A.length) 0 ++ be 8 (8 * A.length)
theorem zc_lt {n j : Nat} (h : j ≤ zc n) : (n + 1 + j) % 64 ≠ 56 ↔ j < zc n := by unfold zc at *;omega
theorem zc_le (n : Nat) : zc n ≤ 63 := by unfold zc;omega

theorem byte_down {n k : Nat} (h : k < 8) : 8 * (n : Int) / 2 ^ (56 - 8 * k) % 256 = ((8 * n / 256 ^ (8 - (k + 1)) % 256 : Nat) : Int) := by
  rw [show 56 - 8 * k = 8 * (8 - (k + 1)) by omega,Int.pow_mul,show ((2 : Int) ^ 8) = ((256 : Nat) : Int) from rfl,← Int.natCast_pow]
  rfl

section
variable {w0 : World} {A : List Int} {va : Value}
set_option maxHeartbeats 1000000 in
theorem padded_any (ha : RB w0 A va) (hb : A.length ≤ 100000000) : Calls Tryd.prog 82 #[va] w0 fun e w' => ∃ v,e = .returned v ∧ Sat w0 [(blk v,sl 1 by8 (pad A) 5 v)] w' := by
  have hS := Sat.refl w0
  have hax := ha
  obtain ⟨pa,ca,rfl,hla,hata⟩ := ha.at
  clear ha hata
  have hz := zc_le A.length
  go_enter Tryd.func82,Tryd.ntmps82
  go_wp2_with (guard_target =~ wpList _ _ _ (Oper.mk (some 9) _ _ _ _ _::_) _ _;refine Stopped.out ?_)
  refine ⟨?_⟩
  refine makeLC hS rfl rfl 0 (A.length + 72) rfl rfl 0 ?_ ?_ ?_ ?_
  · omega
  · omega
  · simp [maxLen];omega
  clear hS
  intro mb w hS
  simp only [putW]
  rw [List.replicate_zero] at hS
  replace hS := hS.slOfSlc
  go_wp2_with (first | (refine appendB (f := by8) hS rfl rfl (.slice (some ⟨mb,0,none⟩) 0 (A.length + 72)) rfl rfl A (hax.mono hS.base) ?_ ?_ ?_ ?_;(focus (simp [one,Value.oneCell'];done));(focus (simp [maxLen];omega));(focus (simp [maxLen];omega));clear hS;intro v' w hS;simp only [putW]) | (guard_target =~ wpList _ _ _ (Oper.mk (some 14) _ _ _ _ _::_) _ _;refine Stopped.out ?_))
  refine ⟨?_⟩
  rw [List.nil_append] at hS
  go_wp2_with (first | (refine buildSlice1 (c := #[.int .u8 128]) hS rfl rfl rfl ?_ ?_ ?_ ?_;rfl;rfl;rfl;clear hS;intro mb w hS;simp only [putW]) | (refine append1 (f := by8) hS rfl rfl v' rfl rfl 128 ?_ ?_ ?_ ?_ ?_ ?_;rfl;(focus (simp [by8,one,Value.oneCell'];done));rfl;(focus (simp [maxLen];omega));(focus (omega));clear hS;intro v' w hS;simp only [putW]))
  go_loopw [3] (fun v wr => ∃ j : Nat,Hid (j ≤ zc A.length) ∧ Sat w0 [(blk v,sl 1 by8 (A ++ [128] ++ List.replicate j 0) 5 v)] wr) (fun v _ => A.length + 1 + zc A.length - sLen v)
  case atStart => exact ⟨0,Nat.zero_le _,by rw [List.replicate_zero,List.append_nil];exact hS⟩
  case round =>
    clear hS
    obtain ⟨j,hj,hS⟩ := hrel
    have hj2 := hj.out
    have hjl : (A ++ [128] ++ List.replicate j 0).length = A.length + 1 + j := by simp;omega
    have HJL : Hid _ := hjl
    obtain ⟨ga,ca2,rfl,hS2⟩ := hS.slForm (A.length + 1 + j) hjl (by omega)
    clear hS hjl
    have hS := hS2
    clear hS2
    have hiff := zc_lt hj2
    by_cases hlt : j < zc A.length
    · have hmod := hiff.2 hlt
      have hmI : ¬ (((A.length : Int) + 1 + j) % 64 = 56) := by omega
      clear hiff hmod
      go_wp2_with (first | (refine buildSlice1 (c := #[.int .u8 0]) hS rfl rfl rfl ?_ ?_ ?_ ?_;rfl;rfl;rfl;clear hS;intro mb w hS;simp only [putW]) | (refine append1 (f := by8) hS rfl rfl (.slice (some ⟨ga,0,none⟩) (A.length + 1 + j) ca2) rfl rfl 0 ?_ ?_ ?_ ?_ ?_ ?_;rfl;(focus (simp [by8,one,Value.oneCell'];done));rfl;(focus (simp [maxLen];omega));(focus (simp [maxLen];omega));clear hS;intro v' w hS;simp only [putW]))
      have hll := hS.slLen (α := Int) (v := v')
      have Hll : Hid _ := hll
      clear hll
      rw [show A ++ [128] ++ List.replicate j 0 ++ [0] = A ++ [128] ++ List.replicate (j + 1) 0 by rw [List.append_assoc _ (List.replicate j 0),← List.replicate_succ']] at hS
      go_roundw
      case rel => exact ⟨j + 1,by show _ ≤ _;omega,hS⟩
      case measure =>
        have h7 := Hll.out
        simp at h7
        show A.length + 1 + zc A.length - sLen v' < A.length + 1 + zc A.length - (A.length + 1 + j)
        rw [h7];omega
    · have hmod : ¬ ((A.length + 1 + j) % 64 ≠ 56) := mt hiff.1 hlt
      have hmI : ((A.length : Int) + 1 + j) % 64 = 56 := by omega
      have hjz : j = zc A.length := by omega
      clear hiff hmod
      subst hjz
      go_wp2_with (refine load1 hS rfl rfl rfl rfl ?_;simp only [putW])
      go_loopw [3,5] (fun v i wr => ∃ k : Nat,k ≤ 8 ∧ i = .int .i64 (k : Int) ∧ ∃ L,Hid (L ++ be (8 - k) (8 * A.length) = pad A) ∧ Hid (L.length ≤ A.length + 80) ∧ Sat w0 [(blk v,sl 1 by8 L 5 v)] wr) (fun _ i _ => 8 - (intOf i).toNat)
      case atStart => exact ⟨0,Nat.zero_le _,rfl,_,rfl,by show List.length _ ≤ _;rw [HJL.out];omega,hS⟩
      case round =>
        clear hS
        obtain ⟨k,hk,rfl,L,hL,hLl,hS⟩ := hrel
        have hL2 := hLl.out
        by_cases hlt2 : k < 8
        · go_wp2_with (first | (refine buildSlice1 (c := #[.int .u8 (8 * (A.length : Int) / 2 ^ (56 - 8 * k) % 256)]) hS rfl rfl rfl ?_ ?_ ?_ ?_;rfl;rfl;rfl;clear hS;intro mb w hS;simp only [putW]) | (refine append1 (f := by8) hS rfl rfl u3 rfl rfl (8 * (A.length : Int) / 2 ^ (56 - 8 * k) % 256) ?_ ?_ ?_ ?_ ?_ ?_;rfl;(focus (simp [by8,one,Value.oneCell'];done));rfl;(focus (simp [maxLen];omega));(focus (omega));clear hS;intro v' w hS;simp only [putW]))
          go_roundw
          case rel =>
            refine ⟨k + 1,by omega,by go_num,_,?_,?_,hS⟩
            · show _ = _
              rw [byte_down (by omega),List.append_assoc]
              have h8 := hL.out
              rw [show 8 - k = (8 - (k + 1)) + 1 by omega] at h8
              exact h8
            · have h9 := congrArg List.length hL.out
              show List.length _ ≤ _
              simp [pad] at h9 ⊢
              omega
          case measure => first | (simp [intOf];done) | (simp [intOf];omega)
        · have hk8 : k = 8 := by omega
          subst hk8
          go_wp2_with (refine load1 hS rfl rfl rfl rfl ?_;simp only [putW])
          go_ret
          have e : L = pad A := by have := hL.out;simpa [be] using this
          exact ⟨_,rfl,by rw [← e];exact hS⟩
end
end Go.Proofs.YtdkimdobcacpfaaDoor
namespace Go.Proofs.YtdkimdobcacpfaaDoor
open Go.RowKit Go.Proofs.YtdkimdobcacpfaaDoor.Sl

def kTab : List Int := [0x428a2f98,0x71374491,0xb5c0fbcf,0xe9b5dba5,0x3956c25b,0x59f111f1,0x923f82a4,0xab1c5ed5,
  0xd807aa98,0x12835b01,0x243185be,0x550c7dc3,0x72be5d74,0x80deb1fe,0x9bdc06a7,0xc19bf174,
  0xe49b69c1,0xefbe4786,0x0fc19dc6,0x240ca1cc,0x2de92c6f,0x4a7484aa,0x5cb0a9dc,0x76f988da,
  0x983e5152,0xa831c66d,0xb00327c8,0xbf597fc7,0xc6e00bf3,0xd5a79147,0x06ca6351,0x14292967,
  0x27b70a85,0x2e1b2138,0x4d2c6dfc,0x53380d13,0x650a7354,0x766a0abb,0x81c2c92e,0x92722c85,
  0xa2bfe8a1,0xa81a664b,0xc24b8b70,0xc76c51a3,0xd192e819,0xd6990624,0xf40e3585,0x106aa070,
  0x19a4c116,0x1e376c08,0x2748774c,0x34b0bcb5,0x391c0cb3,0x4ed8aa4a,0x5b9cca4f,0x682e6ff3,
  0x748f82ee,0x78a5636f,0x84c87814,0x8cc70208,0x90befffa,0xa4506ceb,0xbef9a3f7,0xc67178f2]
def hTab : List Int := [0x6a09e667,0xbb67ae85,0x3c6ef372,0xa54ff53a,0x510e527f,0x9b05688c,0x1f83d9ab,0x5be0cd19]
abbrev u32v : Int → Value := Value.int .u32
/-- The table as the model holds it. -/
def kArr : Array Value := (kTab.map u32v).toArray

section
variable {w0 : World}
set_option maxRecDepth 100000 in
set_option maxHeartbeats 1000000 in
theorem shaNew_any : Calls Tryd.prog 88 #[] w0 fun e w' => ∃ b,e = .returned (.pointer (some ⟨b,0,none⟩)) ∧ Sat w0 [(b,cells ((hTab.map u32v) ++ [Value.slice none 0 0,Value.int .u64 0]).toArray 175)] w' := by
  have hS := Sat.refl w0
  go_enter Tryd.func88,Tryd.ntmps88
  go_wp2_with (refine boxN hS rfl rfl rfl ?_;clear hS;intro mb w hS;simp only [putW])
  go_ret
  exact ⟨_,rfl,hS⟩
set_option maxRecDepth 100000 in
set_option maxHeartbeats 1000000 in
theorem words_any : Calls Tryd.prog 81 #[] w0 fun e w' => e = .returned (.agg kArr) ∧ Sat w0 [] w' := by
  have hS := Sat.refl w0
  go_enter Tryd.func81,Tryd.ntmps81
  go_wp2_with (first | (refine storeAll hS rfl rfl rfl rfl ?_ ?_ ?_ ?_;rfl;(focus (simp [Value.oneCell'];done));rfl;clear hS;intro w hS;try simp only [putW]) | (refine alloc hS rfl rfl ?_;clear hS;intro mb w hS;simp only [putW]))
  have hr := run_loadAll (P := Tryd.prog) hS mb 153 rfl
  refine bodyPost_ret (v := .agg kArr) (by simp only [results,Tryd.results81,asAddr];simp [hr];rfl) rfl ⟨rfl,hS.conv⟩
end
end Go.Proofs.YtdkimdobcacpfaaDoor
namespace Go.Proofs.YtdkimdobcacpfaaDoor.Sha
open Go

def xr (x y : Int) : Int := bits .xor .u32 x y
def an (x y : Int) : Int := bits .and .u32 x y
/-- The word of four bytes from place i on. -/
def wd (B : List Int) (i : Nat) : Int := B.getD i 0 * 16777216 + B.getD (i + 1) 0 * 65536 + B.getD (i + 2) 0 * 256 + B.getD (i + 3) 0
def g0 (x : Int) : Int := xr (xr (ror x 7) (ror x 18)) (x / 8)
def g1 (x : Int) : Int := xr (xr (ror x 17) (ror x 19)) (x / 1024)
/-- The word behind the words L. -/
def nxt (B : List Int) (L : List Int) : Int :=
  if L.length < 16 then wd B (4 * L.length) else (L.getD (L.length - 16) 0 + g0 (L.getD (L.length - 15) 0) + L.getD (L.length - 7) 0 + g1 (L.getD (L.length - 2) 0)) % 4294967296
def grow (B : List Int) : Nat → List Int
  | 0 => []
  | t + 1 => grow B t ++ [nxt B (grow B t)]
theorem grow_len (B : List Int) : ∀ t,(grow B t).length = t
  | 0 => rfl
  | t + 1 => by simp [grow,grow_len B t]
theorem grow_get (B : List Int) {i t : Nat} (h : i < t) : ∀ d,(grow B (t + d))[i]? = (grow B t)[i]?
  | 0 => rfl
  | d + 1 => by
    rw [← Nat.add_assoc]
    show (grow B (t + d) ++ [_])[i]? = _
    rw [List.getElem?_append_left (by rw [grow_len];omega),grow_get B h d]
theorem grow_in {B : List Int} (hB : ∀ x ∈ B,0 ≤ x ∧ x < 256) : ∀ t,∀ x ∈ grow B t,In32 x
  | 0,_,h => by cases h
  | t + 1,x,h => by
    rcases List.mem_append.1 h with h | h
    · exact grow_in hB t x h
    · have : x = nxt B (grow B t) := by simpa using h
      subst this
      unfold nxt
      split
      · have hb : ∀ i,0 ≤ B.getD i 0 ∧ B.getD i 0 < 256 := fun i => by
          rcases Nat.lt_or_ge i B.length with hi | hi
          · have e : B.getD i 0 = B[i] := by simp [hi]
            rw [e];exact hB _ (List.getElem_mem hi)
          · have e : B.getD i 0 = 0 := by simp [hi]
            rw [e];omega
        unfold wd In32
        have h1 := hb (4 * (grow B t).length)
        have h2 := hb (4 * (grow B t).length + 1)
        have h3 := hb (4 * (grow B t).length + 2)
        have h4 := hb (4 * (grow B t).length + 3)
        omega
      · unfold In32;omega
theorem nxt_late (B : List Int) {t : Nat} (h : 16 ≤ t) : nxt B (grow B t) = ((grow B t).getD (t - 16) 0 + g0 ((grow B t).getD (t - 15) 0) + (grow B t).getD (t - 7) 0 + g1 ((grow B t).getD (t - 2) 0)) % 4294967296 := by
  unfold nxt
  rw [if_neg (by rw [grow_len];omega),grow_len]
/-- The array of the words, t of them known. -/
def wArr (B : List Int) (t : Nat) : List Int := grow B t ++ List.replicate (64 - t) 0
theorem wArr_len (B : List Int) {t : Nat} (h : t ≤ 64) : (wArr B t).length = 64 := by simp [wArr,grow_len];omega
theorem wArr_get (B : List Int) {i t : Nat} (h : i < t) : (wArr B t)[i]? = some ((grow B t).getD i 0) := by
  unfold wArr
  rw [List.getElem?_append_left (by rw [grow_len];omega)]
  simp [grow_len,h]
theorem wArr_set (B : List Int) {t : Nat} (h : t < 64) : (wArr B t).set t (nxt B (grow B t)) = wArr B (t + 1) := by
  unfold wArr
  rw [List.set_append_right _ _ (by rw [grow_len];omega),grow_len,Nat.sub_self,show 64 - t = (64 - (t + 1)) + 1 by omega,List.replicate_succ,List.set_cons_zero]
  simp [grow]
theorem wArr_set_get (B : List Int) {i t : Nat} (h : i < t) (ht : t < 64) : (wArr B (t + 1))[i]? = some ((grow B t).getD i 0) := by
  rw [wArr_get B (by omega)]
  congr 1
  have := grow_get B h 1
  simp [List.getD,this]

/-- The eight words that a block turns. -/
structure St where
  a : Int
  b : Int
  c : Int
  d : Int
  e : Int
  f : Int
  g : Int
  h : Int
def St.l (s : St) : List Int := [s.a,s.b,s.c,s.d,s.e,s.f,s.g,s.h]
def St.ok (s : St) : Prop := In32 s.a ∧ In32 s.b ∧ In32 s.c ∧ In32 s.d ∧ In32 s.e ∧ In32 s.f ∧ In32 s.g ∧ In32 s.h
def e1 (x : Int) : Int := xr (xr (ror x 6) (ror x 11)) (ror x 25)
def e0 (x : Int) : Int := xr (xr (ror x 2) (ror x 13)) (ror x 22)
def ch (e f g : Int) : Int := xr (an e f) (an (bits .xor .u32 IntKind.u32.max e) g)
def mj (a b c : Int) : Int := xr (xr (an a b) (an a c)) (an b c)
def tt1 (k w : Int) (s : St) : Int := (s.h + e1 s.e + ch s.e s.f s.g + k + w) % 4294967296
def tt2 (s : St) : Int := (e0 s.a + mj s.a s.b s.c) % 4294967296
def rnd (k w : Int) (s : St) : St := ⟨(tt1 k w s + tt2 s) % 4294967296,s.a,s.b,s.c,(s.d + tt1 k w s) % 4294967296,s.e,s.f,s.g⟩
theorem mod_add (x y : Int) : (x % 4294967296 + y % 4294967296) % 4294967296 = (x + y) % 4294967296 := by omega
theorem mod_add1 (x y : Int) : (x % 4294967296 + y) % 4294967296 = (x + y) % 4294967296 := by omega
theorem mod_add2 (x y : Int) : (x + y % 4294967296) % 4294967296 = (x + y) % 4294967296 := by omega
theorem rnd_l (k w a b c d e f g h : Int) : (rnd k w ⟨a,b,c,d,e,f,g,h⟩).l = [(h + e1 e + ch e f g + k + w + (e0 a + mj a b c)) % 4294967296,a,b,c,(d + (h + e1 e + ch e f g + k + w)) % 4294967296,e,f,g] := by
  simp only [rnd,St.l,tt1,tt2,mod_add,mod_add2,mod_add1]
theorem rnd_ok {k w : Int} {s : St} (h : s.ok) : (rnd k w s).ok := by
  obtain ⟨h1,h2,h3,h4,h5,h6,h7,h8⟩ := h
  refine ⟨?_,h1,h2,h3,?_,h5,h6,h7⟩
  · unfold rnd In32;simp only;omega
  · unfold rnd In32;simp only;omega
def rnds (B : List Int) (s : St) : Nat → St
  | 0 => s
  | t + 1 => rnd (kTab.getD t 0) ((grow B 64).getD t 0) (rnds B s t)
theorem rnds_succ {B : List Int} {s0 s : St} {t : Nat} {kt wt : Int} (h : rnds B s0 t = s) (hk : kTab.getD t 0 = kt) (hw : (grow B 64).getD t 0 = wt) : rnds B s0 (t + 1) = rnd kt wt s := by
  rw [← h,← hk,← hw];rfl
theorem rnds_ok {B : List Int} {s : St} (h : s.ok) : ∀ t,(rnds B s t).ok
  | 0 => h
  | t + 1 => rnd_ok (rnds_ok h t)
def toSt (l : List Int) : St := ⟨l.getD 0 0,l.getD 1 0,l.getD 2 0,l.getD 3 0,l.getD 4 0,l.getD 5 0,l.getD 6 0,l.getD 7 0⟩
theorem toSt_l {l : List Int} (h : l.length = 8) : (toSt l).l = l := by
  match l,h with
  | [a,b,c,d,e,f,g,i],_ => rfl
def addw (x y : Int) : Int := (x + y) % 4294967296
/-- What a block makes of eight words. -/
def blkF (B : List Int) (s : List Int) : List Int := List.zipWith addw s (rnds B (toSt s) 64).l
theorem blkF_len {B s : List Int} (h : s.length = 8) : (blkF B s).length = 8 := by simp [blkF,h,St.l]
def Ok8 (s : List Int) : Prop := s.length = 8 ∧ ∀ x ∈ s,In32 x
theorem Ok8.st {s : List Int} (h : Ok8 s) : (toSt s).ok := by
  obtain ⟨h1,h2⟩ := h
  match s,h1 with
  | [a,b,c,d,e,f,g,i],_ =>
    refine ⟨?_,?_,?_,?_,?_,?_,?_,?_⟩ <;> exact h2 _ (by simp [toSt])
theorem zip_in : ∀ {s v : List Int} {x : Int},x ∈ List.zipWith addw s v → In32 x
  | [],_,_,h => by simp at h
  | _::_,[],_,h => by simp at h
  | a::s,b::v,x,h => by
    rcases List.mem_cons.1 (by simpa using h : x ∈ addw a b::List.zipWith addw s v) with h | h
    · subst h;unfold addw In32;omega
    · exact zip_in h
theorem Ok8.blk {B s : List Int} (h : Ok8 s) : Ok8 (blkF B s) := ⟨blkF_len h.1,fun _ hx => zip_in hx⟩
/-- The sums, i of them made. -/
def mix (s v : List Int) (i : Nat) : List Int := (List.zipWith addw s v).take i ++ s.drop i
theorem mix_zero (s v : List Int) : mix s v 0 = s := by simp [mix]
theorem mix_all {s v : List Int} (h : s.length = 8) : mix s v 8 = List.zipWith addw s v := by
  unfold mix
  rw [List.drop_eq_nil_of_le (by omega),List.append_nil,List.take_of_length_le (by simp;omega)]
theorem mix_len {s v : List Int} (h : s.length = 8) (hv : v.length = 8) {i : Nat} (hi : i ≤ 8) : (mix s v i).length = 8 := by simp [mix,h,hv];omega
theorem mix_get {s v : List Int} (h : s.length = 8) (hv : v.length = 8) {i : Nat} (hi : i < 8) : (mix s v i)[i]? = some (s.getD i 0) := by
  unfold mix
  rw [List.getElem?_append_right (by simp;omega)]
  simp [h,hv,Nat.min_eq_left (show i ≤ 8 by omega),hi]
theorem mix_set {s v : List Int} (h : s.length = 8) (hv : v.length = 8) {i : Nat} (hi : i < 8) : (mix s v i).set i (addw (s.getD i 0) (v.getD i 0)) = mix s v (i + 1) := by
  unfold mix
  have hl : (List.take i (List.zipWith addw s v)).length = i := by simp [h,hv];omega
  rw [List.set_append_right _ _ (by omega),hl,Nat.sub_self,List.drop_eq_getElem_cons (by omega),List.set_cons_zero]
  rw [List.take_succ_eq_append_getElem (by simp [h,hv];omega),List.append_assoc]
  simp [h,hv,hi,addw]
theorem u32v_take {hs : List Int} (h : hs.length = 8) (r n : Value) : (((hs.map u32v ++ [r,n]).toArray.toList).drop 0).take 8 = hs.map u32v := by
  rw [List.drop_zero]
  show (hs.map u32v ++ [r,n]).take 8 = _
  rw [List.take_left' (by simpa using h)]
end Go.Proofs.YtdkimdobcacpfaaDoor.Sha
namespace Go.Proofs.YtdkimdobcacpfaaDoor.Sha
open Go
/-- The eight words behind the first j blocks. -/
def blks (M : List Int) : Nat → List Int
  | 0 => hTab
  | j + 1 => blkF ((M.drop (64 * j)).take 64) (blks M j)
theorem blks_app (M A : List Int) : ∀ j,64 * j ≤ M.length → blks (M ++ A) j = blks M j
  | 0,_ => rfl
  | j + 1,h => by
    show blkF _ (blks (M ++ A) j) = blkF _ (blks M j)
    rw [blks_app M A j (by omega),List.drop_append_of_le_length (by omega),List.take_append_of_le_length (by simp;omega)]
theorem hTab_ok : Ok8 hTab := ⟨rfl,fun x hx => by
  unfold hTab at hx
  simp only [List.mem_cons,List.not_mem_nil,or_false] at hx
  unfold In32
  omega⟩
theorem blks_ok (M : List Int) : ∀ j,Ok8 (blks M j)
  | 0 => hTab_ok
  | j + 1 => (blks_ok M j).blk
/-- The words behind a text's whole blocks; what is left over. -/
def stOf (M : List Int) : List Int := blks M (M.length / 64)
def lft (M : List Int) : List Int := M.drop (64 * (M.length / 64))
theorem lft_len (M : List Int) : (lft M).length = M.length % 64 := by unfold lft;rw [List.length_drop];omega
theorem lft_app {M A : List Int} (h : M.length % 64 + A.length < 64) : lft (M ++ A) = lft M ++ A := by
  unfold lft
  rw [List.length_append,show (M.length + A.length) / 64 = M.length / 64 by omega,List.drop_append_of_le_length (by omega)]
theorem stOf_app {M A : List Int} (h : M.length % 64 + A.length < 64) : stOf (M ++ A) = stOf M := by
  unfold stOf
  rw [List.length_append,show (M.length + A.length) / 64 = M.length / 64 by omega,blks_app _ _ _ (by omega)]
theorem lft_full {M A : List Int} (h : M.length % 64 + A.length = 64) : lft (M ++ A) = [] := by
  unfold lft
  rw [List.length_append]
  exact List.drop_eq_nil_of_le (by simp;omega)
theorem stOf_full {M A : List Int} (h : M.length % 64 + A.length = 64) : stOf (M ++ A) = blkF (lft M ++ A) (stOf M) := by
  unfold stOf lft
  rw [List.length_append,show (M.length + A.length) / 64 = M.length / 64 + 1 by omega]
  show blkF _ _ = _
  rw [blks_app _ _ _ (by omega),List.drop_append_of_le_length (by omega),List.take_of_length_le (by simp;omega)]
/-- The bytes of eight words. -/
def byt (s : List Int) (i : Nat) : Int := s.getD (i / 4) 0 / 2 ^ (24 - 8 * (i % 4)) % 256
def dig (s : List Int) : List Int := (List.range 32).map (byt s)
end Go.Proofs.YtdkimdobcacpfaaDoor.Sha
namespace Go.Proofs.YtdkimdobcacpfaaDoor
open Go.RowKit Go.Proofs.YtdkimdobcacpfaaDoor.Sl Go.Proofs.YtdkimdobcacpfaaDoor.Sha Go.Proofs.YtdkimdobcacpfaaDoor.Jp

abbrev u8v : Int → Value := Value.int .u8
/-- The digest of a text. -/
def shaF (M : List Int) : List Int := dig (stOf (pad M))
theorem pad_byte {A : List Int} (h : ∀ x ∈ A,okByte x) : ∀ x ∈ pad A,okByte x := fun x hx => by
  unfold pad at hx
  rcases List.mem_append.1 hx with hx | hx
  · rcases List.mem_append.1 hx with hx | hx
    · rcases List.mem_append.1 hx with hx | hx
      · exact h x hx
      · have : x = 128 := by simpa using hx
        subst this;unfold okByte;omega
    · have := (List.mem_replicate.1 hx).2
      subst this;unfold okByte;omega
  · exact be_byt _ _ x hx
theorem dig_len (s : List Int) : (dig s).length = 32 := by simp [dig]
theorem byt_byte (s : List Int) (i : Nat) : okByte (byt s i) := by unfold byt okByte;omega
theorem dig_byte (s : List Int) : ∀ x ∈ dig s,okByte x := fun x hx => by
  unfold dig at hx
  obtain ⟨i,_,rfl⟩ := List.mem_map.1 hx
  exact byt_byte s i
/-- The digest's bytes, t of them written. -/
def oArr (s : List Int) (t : Nat) : List Int := (dig s).take t ++ List.replicate (32 - t) 0
theorem oArr_len (s : List Int) {t : Nat} (h : t ≤ 32) : (oArr s t).length = 32 := by simp [oArr,dig_len];omega
theorem oArr_set (s : List Int) {t : Nat} (h : t < 32) : (oArr s t).set t (byt s t) = oArr s (t + 1) := by
  unfold oArr
  have hl : ((dig s).take t).length = t := by rw [List.length_take,dig_len];omega
  rw [List.set_append_right _ _ (by omega),hl,Nat.sub_self,show 32 - t = (32 - (t + 1)) + 1 by omega,List.replicate_succ,List.set_cons_zero,
    List.take_succ_eq_append_getElem (by rw [dig_len];omega),List.append_assoc]
  congr 2
  simp [dig]
theorem oArr_all (s : List Int) : oArr s 32 = dig s := by
  unfold oArr
  rw [List.take_of_length_le (by rw [dig_len];omega)]
  simp
theorem oArr_zero (s : List Int) : oArr s 0 = List.replicate 32 0 := by simp [oArr]
theorem zeros64 : (#[.int .u32 0,.int .u32 0,.int .u32 0,.int .u32 0,.int .u32 0,.int .u32 0,.int .u32 0,.int .u32 0,.int .u32 0,.int .u32 0,.int .u32 0,.int .u32 0,.int .u32 0,.int .u32 0,.int .u32 0,.int .u32 0,.int .u32 0,.int .u32 0,.int .u32 0,.int .u32 0,.int .u32 0,.int .u32 0,.int .u32 0,.int .u32 0,.int .u32 0,.int .u32 0,.int .u32 0,.int .u32 0,.int .u32 0,.int .u32 0,.int .u32 0,.int .u32 0,.int .u32 0,.int .u32 0,.int .u32 0,.int .u32 0,.int .u32 0,.int .u32 0,.int .u32 0,.int .u32 0,.int .u32 0,.int .u32 0,.int .u32 0,.int .u32 0,.int .u32 0,.int .u32 0,.int .u32 0,.int .u32 0,.int .u32 0,.int .u32 0,.int .u32 0,.int .u32 0,.int .u32 0,.int .u32 0,.int .u32 0,.int .u32 0,.int .u32 0,.int .u32 0,.int .u32 0,.int .u32 0,.int .u32 0,.int .u32 0,.int .u32 0,.int .u32 0] : Array Value) = ((List.replicate 64 (0 : Int)).map u32v).toArray := by simp [List.replicate,u32v]
theorem zeros32 : (#[.int .u8 0,.int .u8 0,.int .u8 0,.int .u8 0,.int .u8 0,.int .u8 0,.int .u8 0,.int .u8 0,.int .u8 0,.int .u8 0,.int .u8 0,.int .u8 0,.int .u8 0,.int .u8 0,.int .u8 0,.int .u8 0,.int .u8 0,.int .u8 0,.int .u8 0,.int .u8 0,.int .u8 0,.int .u8 0,.int .u8 0,.int .u8 0,.int .u8 0,.int .u8 0,.int .u8 0,.int .u8 0,.int .u8 0,.int .u8 0,.int .u8 0,.int .u8 0] : Array Value) = ((List.replicate 32 (0 : Int)).map u8v).toArray := by simp [List.replicate,u8v]

end Go.Proofs.YtdkimdobcacpfaaDoor
