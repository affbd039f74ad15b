/-
  SpillOnce: the plain law.
-/
import Derived.Test.YthlcjefkhlfkpaaSpKeys
import Derived.Test.YthlcjefkhlfkpaaSpAwake
import Derived.Test.YthlcjefkhlfkpaaSpTie
import Derived.Test.YthlcjefkhlfkpaaSlB
set_option linter.unusedSimpArgs false
set_option linter.unusedVariables false
namespace Go.Proofs.Ythlcjefkhlfkpaa
open Go.RowKit Go.Proofs.Ythlcjefkhlfkpaa.Sl

theorem sub_len {α : Type} [DecidableEq α] : ∀ {l m : List α}, l.Nodup → (∀ x ∈ l, x ∈ m) → l.length ≤ m.length
  | [], _, _, _ => Nat.zero_le _
  | x :: l, m, hn, hs => by
    obtain ⟨a, b, rfl⟩ := List.append_of_mem (hs x (by simp))
    have hn2 := List.nodup_cons.1 hn
    have h1 : ∀ y ∈ l, y ∈ a ++ b := fun y hy => by
      have h2 := hs y (by simp [hy])
      have h3 : y ≠ x := fun e => hn2.1 (e ▸ hy)
      rcases List.mem_append.1 h2 with h | h
      · exact List.mem_append_left _ h
      · rcases List.mem_cons.1 h with h | h
        · exact absurd h h3
        · exact List.mem_append_right _ h
    have h4 := sub_len hn2.2 h1
    simp only [List.length_append, List.length_cons] at h4 ⊢
    omega
theorem keysOf {κ β : Type} {enc : κ → Value} {ve : β → Value} {l : List (κ × β)} {w0 w : World} {b : Nat} {S F : List Chunk} (h : Sat w0 S w) [Pull S b (mapC enc ve l) F] : (mkeys l).Nodup := by
  obtain ⟨_, _, _, _, _, h, _⟩ := Sat.map (enc := enc) (ve := ve) (l := l) (b := b) h
  exact h
theorem keysSlots {w0 w : World} {S : List Chunk} {bs n : Nat} {fl : List Bool} {m : List (Int × (Nat × En))} (h : Sat w0 ((bs, SlotsC n fl m) :: S) w) : (mkeys m).Nodup := by
  obtain ⟨_, bf, bm, hS⟩ := openSlots (bs := bs) h
  exact keysOf (b := bm) (l := m) hS
section
variable {n : Nat} {fl : List Bool} {m : List (Int × (Nat × En))} {R : List Rs}
theorem Tie.one (h : Tie n fl m R) {p q : Int} {i : Nat} {x y : En} (hp : mget m p = some (i, x)) (hq : mget m q = some (i, y)) : p = q := by
  have h1 := (h.has p i x).1 hp
  have h2 := (h.has q i y).1 hq
  rw [h1] at h2
  cases h2
  rfl
theorem mem_get (hn : (mkeys m).Nodup) {p : Int} {q : Nat × En} (hm : (p, q) ∈ m) : mget m p = some q := mget_of_mem hn hm
theorem slots_nodup (h : Tie n fl m R) (hn : (mkeys m).Nodup) : (m.map fun e => e.2.1).Nodup := by
  have hn2 : m.Pairwise fun a b => a.1 ≠ b.1 := List.pairwise_map.1 hn
  refine List.pairwise_map.2 (hn2.imp_of_mem fun {a b} ha hb hne e => hne ?_)
  obtain ⟨p, i, x⟩ := a
  obtain ⟨q, j, y⟩ := b
  have e' : i = j := e
  subst e'
  exact h.one (mem_get hn ha) (mem_get hn hb)
theorem Tie.le (h : Tie n fl m R) (hn : (mkeys m).Nodup) : m.length ≤ n := by
  have h1 := sub_len (m := List.range n) (slots_nodup h hn) fun i hi => by
    obtain ⟨⟨p, j, x⟩, he, rfl⟩ := List.mem_map.1 hi
    exact List.mem_range.2 (h.of_some (mem_get hn he)).2.2
  rw [List.length_map, List.length_range] at h1
  exact h1
theorem Tie.full (h : Tie n fl m R) (hn : (mkeys m).Nodup) (hf : freeFrom R 0 = -1) : m.length = n := by
  refine Nat.le_antisymm (h.le hn) ?_
  have hall : ∀ s ∈ R, s.free = false := by
    unfold freeFrom at hf
    rw [List.drop_zero] at hf
    cases hx : R.findIdx? (fun s => s.free) with
    | some i => rw [hx] at hf; simp at hf
    | none =>
      intro s hs
      have := List.findIdx?_eq_none_iff.1 hx s hs
      simpa using this
  have h1 := sub_len (l := List.range n) (m := m.map fun e => e.2.1) List.nodup_range fun i hi => by
    have hi2 := List.mem_range.1 hi
    obtain ⟨s, hs⟩ : ∃ s, R[i]? = some s := ⟨_, List.getElem?_eq_getElem (by rw [h.len]; exact hi2)⟩
    obtain ⟨fr, pg, y⟩ := s
    have hfr := hall _ (List.mem_of_getElem? hs)
    have hfr2 : fr = false := hfr
    subst hfr2
    have hm := (h.has pg i y).2 hs
    exact List.mem_map.2 ⟨_, mget_mem hm, rfl⟩
  rw [List.length_map, List.length_range] at h1
  exact h1
/-- The sorted keys rise. -/
theorem rising {M : List Int} (hn : M.Nodup) {i j : Nat} {a b : Int} (hij : i < j) (hi : (sortI M)[i]? = some a) (hj : (sortI M)[j]? = some b) : a < b := by
  obtain ⟨h1, e1⟩ := List.getElem?_eq_some_iff.1 hi
  obtain ⟨h2, e2⟩ := List.getElem?_eq_some_iff.1 hj
  have hle := List.pairwise_iff_getElem.1 (sortI_le M) i j h1 h2 hij
  have hne := List.pairwise_iff_getElem.1 ((sortI_perm M).nodup_iff.2 hn) i j h1 h2 hij
  rw [e1, e2] at hle hne
  omega
/-- The slots of the first k pages. -/
def Seen (m : List (Int × (Nat × En))) (l : List Int) (k : Nat) (sn : List Bool) : Prop := ∀ i : Nat, sn[i]? = some true → ∃ j : Nat, j < k ∧ ∃ p x, l[j]? = some p ∧ mget m p = some (i, x)
theorem Seen.start {l : List Int} (n : Nat) : Seen m l 0 (List.replicate n false) := fun i h => by
  rw [List.getElem?_replicate] at h
  split at h <;> simp at h
theorem Seen.fresh {l : List Int} {k i : Nat} {sn : List Bool} {p : Int} {x : En} {b : Bool} (ht : Tie n fl m R) (h : Seen m l k sn) (hr : ∀ j a b, j < k → l[j]? = some a → l[k]? = some b → a < b) (hp : l[k]? = some p) (hm : mget m p = some (i, x)) (hb : sn[i]? = some b) : b = false := by
  cases b with
  | false => rfl
  | true =>
    obtain ⟨j, hj, q, y, hq, hy⟩ := h i hb
    have h1 := hr j q p hj hq hp
    have h2 := ht.one hy hm
    omega
theorem Seen.next {l : List Int} {k i : Nat} {sn : List Bool} {p : Int} {x : En} (h : Seen m l k sn) (hp : l[k]? = some p) (hm : mget m p = some (i, x)) (hi : i < sn.length) : Seen m l (k + 1) (sn.set i true) := fun j hj => by
  rw [List.getElem?_set] at hj
  by_cases e : i = j
  · subst e
    exact ⟨k, by omega, p, x, hp, hm⟩
  · rw [if_neg e] at hj
    obtain ⟨a, ha, q, y, hq, hy⟩ := h j hj
    exact ⟨a, by omega, q, y, hq, hy⟩
end
section
variable {w0 w : World} {S F : List Chunk} {l : List Int} {m b g cap : Nat} {t : TypeId} {v : Value} {q : Option Addr}
theorem shapeI (h : Sat w0 ((b, sl 1 i64 l t v) :: F) w) (hl : l.length = m) : ∃ q c, v = .slice q m c := by
  subst hl
  rcases h.slCases with ⟨h1, h2, _⟩ | ⟨c, h1, _⟩
  · exact ⟨_, _, by rw [h1, h2]; rfl⟩
  · exact ⟨_, _, h1⟩
theorem openI (h : Sat w0 ((b, sl 1 i64 l t (.slice q m cap)) :: F) w) (hl : l.length = m) (h0 : 0 < m) : ∃ g, q = some ⟨g, 0, none⟩ ∧ m ≤ cap ∧ Sat w0 ((g, slc 1 i64 l cap t) :: F) w := by
  subst hl
  rcases h.slCases with ⟨_, h2, _⟩ | ⟨c, h1, h2⟩
  · rw [h2] at h0
    cases h0
  · have h3 := (h2.slcFacts (g := b) (n := 1) (f := i64) (l := l) (cap := c) (t := t)).1
    cases h1
    exact ⟨b, rfl, h3, h2⟩
theorem closeI (h : Sat w0 ((g, slc 1 i64 l cap t) :: F) w) (hl : l.length = m) : Sat w0 ((blk (.slice (some ⟨g, 0, none⟩) m cap), sl 1 i64 l t (.slice (some ⟨g, 0, none⟩) m cap)) :: F) w := by
  subst hl
  exact h.slOfSlc
end
end Go.Proofs.Ythlcjefkhlfkpaa
