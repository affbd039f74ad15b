/-
  SHA-256 in plain words: the words of a block, the rounds, a block, all blocks. No program in sight.
-/
import Derived.Test.YtkppoffljkpiaaaDoorSha0
import Derived.Test.YtkppoffljkpiaaaDoorShaK
namespace Go.Proofs.YtkppoffljkpiaaaDoor.Sha
open Go

abbrev M32 : Int := 4294967296
def xr (x y : Int) : Int := bits .xor .u32 x y
def an (x y : Int) : Int := bits .and .u32 x y
/-- The word of four bytes from place i on. -/
def wd (B : List Int) (i : Nat) : Int := B.getD i 0 * 16777216 + B.getD (i + 1) 0 * 65536 + B.getD (i + 2) 0 * 256 + B.getD (i + 3) 0
def g0 (x : Int) : Int := xr (xr (ror x 7) (ror x 18)) (x / 8)
def g1 (x : Int) : Int := xr (xr (ror x 17) (ror x 19)) (x / 1024)
/-- The word behind the words L. -/
def nxt (B : List Int) (L : List Int) : Int :=
  if L.length < 16 then wd B (4 * L.length) else (L.getD (L.length - 16) 0 + g0 (L.getD (L.length - 15) 0) + L.getD (L.length - 7) 0 + g1 (L.getD (L.length - 2) 0)) % 4294967296
def grow (B : List Int) : Nat → List Int
  | 0 => []
  | t + 1 => grow B t ++ [nxt B (grow B t)]
theorem grow_len (B : List Int) : ∀ t, (grow B t).length = t
  | 0 => rfl
  | t + 1 => by simp [grow, grow_len B t]
theorem grow_get (B : List Int) {i t : Nat} (h : i < t) : ∀ d, (grow B (t + d))[i]? = (grow B t)[i]?
  | 0 => rfl
  | d + 1 => by
    rw [← Nat.add_assoc]
    show (grow B (t + d) ++ [_])[i]? = _
    rw [List.getElem?_append_left (by rw [grow_len]; omega), grow_get B h d]
theorem grow_in {B : List Int} (hB : ∀ x ∈ B, 0 ≤ x ∧ x < 256) : ∀ t, ∀ x ∈ grow B t, In32 x
  | 0, _, h => by cases h
  | t + 1, x, h => by
    rcases List.mem_append.1 h with h | h
    · exact grow_in hB t x h
    · have : x = nxt B (grow B t) := by simpa using h
      subst this
      unfold nxt
      split
      · have hb : ∀ i, 0 ≤ B.getD i 0 ∧ B.getD i 0 < 256 := fun i => by
          rcases Nat.lt_or_ge i B.length with hi | hi
          · have e : B.getD i 0 = B[i] := by simp [hi]
            rw [e]; exact hB _ (List.getElem_mem hi)
          · have e : B.getD i 0 = 0 := by simp [hi]
            rw [e]; omega
        unfold wd In32
        have h1 := hb (4 * (grow B t).length)
        have h2 := hb (4 * (grow B t).length + 1)
        have h3 := hb (4 * (grow B t).length + 2)
        have h4 := hb (4 * (grow B t).length + 3)
        omega
      · unfold In32; omega
theorem nxt_late (B : List Int) {t : Nat} (h : 16 ≤ t) : nxt B (grow B t) = ((grow B t).getD (t - 16) 0 + g0 ((grow B t).getD (t - 15) 0) + (grow B t).getD (t - 7) 0 + g1 ((grow B t).getD (t - 2) 0)) % 4294967296 := by
  unfold nxt
  rw [if_neg (by rw [grow_len]; omega), grow_len]
/-- The array of the words, t of them known. -/
def wArr (B : List Int) (t : Nat) : List Int := grow B t ++ List.replicate (64 - t) 0
theorem wArr_len (B : List Int) {t : Nat} (h : t ≤ 64) : (wArr B t).length = 64 := by simp [wArr, grow_len]; omega
theorem wArr_get (B : List Int) {i t : Nat} (h : i < t) : (wArr B t)[i]? = some ((grow B t).getD i 0) := by
  unfold wArr
  rw [List.getElem?_append_left (by rw [grow_len]; omega)]
  simp [grow_len, h]
theorem wArr_set (B : List Int) {t : Nat} (h : t < 64) : (wArr B t).set t (nxt B (grow B t)) = wArr B (t + 1) := by
  unfold wArr
  rw [List.set_append_right _ _ (by rw [grow_len]; omega), grow_len, Nat.sub_self, show 64 - t = (64 - (t + 1)) + 1 by omega, List.replicate_succ, List.set_cons_zero]
  simp [grow]
theorem wArr_zero (B : List Int) : wArr B 0 = List.replicate 64 0 := rfl
theorem wArr_set_get (B : List Int) {i t : Nat} (h : i < t) (ht : t < 64) : (wArr B (t + 1))[i]? = some ((grow B t).getD i 0) := by
  rw [wArr_get B (by omega)]
  congr 1
  have := grow_get B h 1
  simp [List.getD, this]

/-- The eight words that a block turns. -/
structure St where
  a : Int
  b : Int
  c : Int
  d : Int
  e : Int
  f : Int
  g : Int
  h : Int
def St.l (s : St) : List Int := [s.a, s.b, s.c, s.d, s.e, s.f, s.g, s.h]
def St.ok (s : St) : Prop := In32 s.a ∧ In32 s.b ∧ In32 s.c ∧ In32 s.d ∧ In32 s.e ∧ In32 s.f ∧ In32 s.g ∧ In32 s.h
def e1 (x : Int) : Int := xr (xr (ror x 6) (ror x 11)) (ror x 25)
def e0 (x : Int) : Int := xr (xr (ror x 2) (ror x 13)) (ror x 22)
def ch (e f g : Int) : Int := xr (an e f) (an (bits .xor .u32 IntKind.u32.max e) g)
def mj (a b c : Int) : Int := xr (xr (an a b) (an a c)) (an b c)
def tt1 (k w : Int) (s : St) : Int := (s.h + e1 s.e + ch s.e s.f s.g + k + w) % 4294967296
def tt2 (s : St) : Int := (e0 s.a + mj s.a s.b s.c) % 4294967296
def rnd (k w : Int) (s : St) : St := ⟨(tt1 k w s + tt2 s) % 4294967296, s.a, s.b, s.c, (s.d + tt1 k w s) % 4294967296, s.e, s.f, s.g⟩
theorem mod_add (x y : Int) : (x % 4294967296 + y % 4294967296) % 4294967296 = (x + y) % 4294967296 := by omega
theorem mod_add1 (x y : Int) : (x % 4294967296 + y) % 4294967296 = (x + y) % 4294967296 := by omega
theorem mod_add2 (x y : Int) : (x + y % 4294967296) % 4294967296 = (x + y) % 4294967296 := by omega
theorem rnd_l (k w a b c d e f g h : Int) : (rnd k w ⟨a, b, c, d, e, f, g, h⟩).l = [(h + e1 e + ch e f g + k + w + (e0 a + mj a b c)) % 4294967296, a, b, c, (d + (h + e1 e + ch e f g + k + w)) % 4294967296, e, f, g] := by
  simp only [rnd, St.l, tt1, tt2, mod_add, mod_add2, mod_add1]
theorem rnd_ok {k w : Int} {s : St} (h : s.ok) : (rnd k w s).ok := by
  obtain ⟨h1, h2, h3, h4, h5, h6, h7, h8⟩ := h
  refine ⟨?_, h1, h2, h3, ?_, h5, h6, h7⟩
  · unfold rnd In32; simp only; omega
  · unfold rnd In32; simp only; omega
def rnds (B : List Int) (s : St) : Nat → St
  | 0 => s
  | t + 1 => rnd (kTab.getD t 0) ((grow B 64).getD t 0) (rnds B s t)
theorem rnds_succ {B : List Int} {s0 s : St} {t : Nat} {kt wt : Int} (h : rnds B s0 t = s) (hk : kTab.getD t 0 = kt) (hw : (grow B 64).getD t 0 = wt) : rnds B s0 (t + 1) = rnd kt wt s := by
  rw [← h, ← hk, ← hw]; rfl
theorem rnds_ok {B : List Int} {s : St} (h : s.ok) : ∀ t, (rnds B s t).ok
  | 0 => h
  | t + 1 => rnd_ok (rnds_ok h t)
def toSt (l : List Int) : St := ⟨l.getD 0 0, l.getD 1 0, l.getD 2 0, l.getD 3 0, l.getD 4 0, l.getD 5 0, l.getD 6 0, l.getD 7 0⟩
theorem toSt_l {l : List Int} (h : l.length = 8) : (toSt l).l = l := by
  match l, h with
  | [a, b, c, d, e, f, g, i], _ => rfl
theorem toSt_of (s : St) : toSt s.l = s := rfl
def addw (x y : Int) : Int := (x + y) % 4294967296
/-- What a block makes of eight words. -/
def blkF (B : List Int) (s : List Int) : List Int := List.zipWith addw s (rnds B (toSt s) 64).l
theorem blkF_len {B s : List Int} (h : s.length = 8) : (blkF B s).length = 8 := by simp [blkF, h, St.l]
def Ok8 (s : List Int) : Prop := s.length = 8 ∧ ∀ x ∈ s, In32 x
theorem Ok8.st {s : List Int} (h : Ok8 s) : (toSt s).ok := by
  obtain ⟨h1, h2⟩ := h
  match s, h1 with
  | [a, b, c, d, e, f, g, i], _ =>
    refine ⟨?_, ?_, ?_, ?_, ?_, ?_, ?_, ?_⟩ <;> exact h2 _ (by simp [toSt])
theorem zip_in : ∀ {s v : List Int} {x : Int}, x ∈ List.zipWith addw s v → In32 x
  | [], _, _, h => by simp at h
  | _ :: _, [], _, h => by simp at h
  | a :: s, b :: v, x, h => by
    rcases List.mem_cons.1 (by simpa using h : x ∈ addw a b :: List.zipWith addw s v) with h | h
    · subst h; unfold addw In32; omega
    · exact zip_in h
theorem Ok8.blk {B s : List Int} (h : Ok8 s) : Ok8 (blkF B s) := ⟨blkF_len h.1, fun _ hx => zip_in hx⟩
/-- The sums, i of them made. -/
def mix (s v : List Int) (i : Nat) : List Int := (List.zipWith addw s v).take i ++ s.drop i
theorem mix_zero (s v : List Int) : mix s v 0 = s := by simp [mix]
theorem mix_all {s v : List Int} (h : s.length = 8) : mix s v 8 = List.zipWith addw s v := by
  unfold mix
  rw [List.drop_eq_nil_of_le (by omega), List.append_nil, List.take_of_length_le (by simp; omega)]
theorem mix_len {s v : List Int} (h : s.length = 8) (hv : v.length = 8) {i : Nat} (hi : i ≤ 8) : (mix s v i).length = 8 := by simp [mix, h, hv]; omega
theorem mix_get {s v : List Int} (h : s.length = 8) (hv : v.length = 8) {i : Nat} (hi : i < 8) : (mix s v i)[i]? = some (s.getD i 0) := by
  unfold mix
  rw [List.getElem?_append_right (by simp; omega)]
  simp [h, hv, Nat.min_eq_left (show i ≤ 8 by omega), hi]
theorem mix_set {s v : List Int} (h : s.length = 8) (hv : v.length = 8) {i : Nat} (hi : i < 8) : (mix s v i).set i (addw (s.getD i 0) (v.getD i 0)) = mix s v (i + 1) := by
  unfold mix
  have hl : (List.take i (List.zipWith addw s v)).length = i := by simp [h, hv]; omega
  rw [List.set_append_right _ _ (by omega), hl, Nat.sub_self, List.drop_eq_getElem_cons (by omega), List.set_cons_zero]
  rw [List.take_succ_eq_append_getElem (by simp [h, hv]; omega), List.append_assoc]
  simp [h, hv, hi, addw]
theorem u32v_take {hs : List Int} (h : hs.length = 8) (r n : Value) : (((hs.map u32v ++ [r, n]).toArray.toList).drop 0).take 8 = hs.map u32v := by
  rw [List.drop_zero]
  show (hs.map u32v ++ [r, n]).take 8 = _
  rw [List.take_left' (by simpa using h)]
end Go.Proofs.YtkppoffljkpiaaaDoor.Sha
