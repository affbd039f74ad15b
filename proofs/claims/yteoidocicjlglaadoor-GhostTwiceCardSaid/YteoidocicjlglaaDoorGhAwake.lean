/-
  The laws' example.
-/
import Derived.Test.YteoidocicjlglaaDoorGhFull
import Derived.Test.YteoidocicjlglaaDoorGhSame
set_option linter.unusedSimpArgs false
set_option linter.unusedVariables false
namespace Go.Proofs.YteoidocicjlglaaDoor
open Go.RowKit Go.Proofs.YteoidocicjlglaaDoor.Sl Go.Proofs.YteoidocicjlglaaDoor.Sha Go.Proofs.YteoidocicjlglaaDoor.Jp

abbrev D7 : List Int := [7, 0, 0, 0, 0, 0, 0, 0, 0, 0, 0, 0, 0, 0, 0, 0, 0, 0, 0, 0, 0, 0, 0, 0, 0, 0, 0, 0, 0, 0, 0, 0]
def t3 : Tup := (3, [0, 0, 0, 0, 0, 0, 0, 0, 0, 0, 0, 0], [], [])
theorem t3_ok : TupOk t3 := by
  refine ⟨⟨by decide, by decide⟩, ⟨rfl, fun b hb => ?_⟩, ⟨by decide, fun b hb => by cases hb⟩, by decide, fun b hb => by cases hb⟩
  have : b = 0 := by simpa [t3] using hb
  subst this
  unfold okByte
  omega
section
variable {w0 w : World} {K F S : List Chunk} {m : Nat} {x : Int} {t : TypeId}
theorem litB (h : Sat w0 ((m, cells #[.int .u8 x] t) :: F) w) (hx : okByte x) : RB w [x] (.slice (some ⟨m, 0, none⟩) 1 1) :=
  (h.toSlc (l := [x]) (cap := 1) (n := 1) (f := by8) (by simp) (by simp) (by simp [maxLen]) (by simp [one]) (fun _ _ => rfl)).readsSlc (g := m) (n := 1) (f := by8) (L := [x]) (cap := 1) (t := t) (fun y hy => by rw [List.mem_singleton.1 hy]; exact hx)
theorem litBs (h : Sat w0 S w) [p : Pull S m (cells #[.int .u8 x] t) F] (hx : okByte x) : RB w [x] (.slice (some ⟨m, 0, none⟩) 1 1) := litB (h.perm p.perm) hx
theorem clash12 {i j : Nat} {A B : List Int} (h : ClashAt [([1], D7), ([2], D7)] i j A B) : A = [1] ∧ B = [2] := by
  obtain ⟨hij, -, -, D, h1, h2, -⟩ := h
  have hj := (List.getElem?_eq_some_iff.1 h2).1
  simp only [List.length_cons, List.length_nil] at hj
  have hi0 : i = 0 := by omega
  have hj1 : j = 1 := by omega
  subst hi0 hj1
  simp at h1 h2
  exact ⟨h1.1.symm, h2.1.symm⟩
theorem okNil (w : World) : RB w [] (.slice none 0 0) := .inl ⟨rfl, .inl rfl⟩
set_option maxRecDepth 100000 in
set_option maxHeartbeats 4000000 in
theorem awakeG_any : Calls Tryd.prog 10 #[] w0 fun e w' => e = .returned (.bool true) ∧ Sat w0 [] w' := by
  have hS := Sat.refl w0
  go_enter Tryd.func10, Tryd.ntmps10
  go_wp2_with (first | (go_at_call 18; refine Calls.mono (newF) ?_; rintro _ w2 ⟨l, rfl, h2⟩; replace hS := hS.frame h2; clear h2; (try simp only [List.cons_append, List.nil_append] at hS); simp only [putW]) | (refine buildSlice1 (c := #[.int .u8 1]) hS rfl rfl rfl ?_ ?_ ?_ ?_; rfl; rfl; rfl; clear hS; intro mb w hS; simp only [putW]) | (guard_target =~ Calls _ 25 _ _ _; refine Stopped.out ?_) | (refine load1 hS rfl rfl rfl rfl ?_; simp only [putW]) | (refine loadAll hS rfl rfl rfl ?_ ?_; rfl; simp only [putW]) | (refine loadPart hS rfl rfl rfl ?_ rfl ?_; rfl; simp only [putW]) | (refine store1 hS rfl rfl rfl rfl rfl ?_ ?_; (focus (simp; done)); clear hS; intro w hS; simp only [evW, putW] at hS; try simp only [putW]) | (refine storeAll hS rfl rfl rfl rfl ?_ ?_ ?_ ?_; rfl; (focus (simp [Value.oneCell']; done)); rfl; clear hS; intro w hS; try simp only [putW]) | (refine storeN hS rfl rfl rfl rfl ?_ ?_ ?_ ?_; rfl; (focus (simp [Value.oneCell']; done)); (focus (simp; done)); clear hS; intro w hS; simp at hS; try simp only [putW]) | (refine alloc hS rfl rfl ?_; clear hS; intro mb w hS; simp only [putW]) | (refine box1 hS rfl rfl rfl rfl ?_; clear hS; intro mb w hS; try simp only [evW, putW] at hS; simp only [putW]) | (refine boxN hS rfl rfl rfl ?_; clear hS; intro mb w hS; simp only [putW]))
  refine ⟨?_⟩
  have b1 := litBs (m := mb) hS (by unfold okByte; omega)
  (refine Calls.mono (noteF (D := D7) (hS.pull l (X := LogF [] [] [])) b1 (by decide) (by decide) rfl) ?_; clear hS; rintro _ w ⟨rfl, hS⟩; simp only [putW])
  clear b1
  go_wp2_with (first | (refine buildSlice1 (c := #[.int .u8 2]) hS rfl rfl rfl ?_ ?_ ?_ ?_; rfl; rfl; rfl; clear hS; intro mc w hS; simp only [putW]) | (guard_target =~ Calls _ 25 _ _ _; refine Stopped.out ?_) | (refine load1 hS rfl rfl rfl rfl ?_; simp only [putW]) | (refine loadAll hS rfl rfl rfl ?_ ?_; rfl; simp only [putW]) | (refine loadPart hS rfl rfl rfl ?_ rfl ?_; rfl; simp only [putW]) | (refine store1 hS rfl rfl rfl rfl rfl ?_ ?_; (focus (simp; done)); clear hS; intro w hS; simp only [evW, putW] at hS; try simp only [putW]) | (refine storeAll hS rfl rfl rfl rfl ?_ ?_ ?_ ?_; rfl; (focus (simp [Value.oneCell']; done)); rfl; clear hS; intro w hS; try simp only [putW]) | (refine storeN hS rfl rfl rfl rfl ?_ ?_ ?_ ?_; rfl; (focus (simp [Value.oneCell']; done)); (focus (simp; done)); clear hS; intro w hS; simp at hS; try simp only [putW]) | (refine alloc hS rfl rfl ?_; clear hS; intro mb w hS; simp only [putW]) | (refine box1 hS rfl rfl rfl rfl ?_; clear hS; intro mb w hS; try simp only [evW, putW] at hS; simp only [putW]) | (refine boxN hS rfl rfl rfl ?_; clear hS; intro mb w hS; simp only [putW]))
  refine ⟨?_⟩
  have b2 := litBs (m := mc) hS (by unfold okByte; omega)
  (refine Calls.mono (noteF (D := D7) (hS.pull l (X := LogF ([] ++ [([1], D7)]) [] [])) b2 (by decide) (by decide) rfl) ?_; clear hS; rintro _ w ⟨rfl, hS⟩; simp only [putW])
  clear b2
  have hS2 : Sat w0 [(l, LogF [([1], D7), ([2], D7)] [] [])] w := hS.conv (S' := [(l, LogF ([] ++ [([1], D7)] ++ [([2], D7)]) [] [])])
  clear hS
  have hS := hS2
  clear hS2
  go_wp2_with (first | (guard_target =~ Calls _ 13 _ _ _; refine Stopped.out ?_) | (refine load1 hS rfl rfl rfl rfl ?_; simp only [putW]) | (refine loadAll hS rfl rfl rfl ?_ ?_; rfl; simp only [putW]) | (refine loadPart hS rfl rfl rfl ?_ rfl ?_; rfl; simp only [putW]) | (refine store1 hS rfl rfl rfl rfl rfl ?_ ?_; (focus (simp; done)); clear hS; intro w hS; simp only [evW, putW] at hS; try simp only [putW]) | (refine storeAll hS rfl rfl rfl rfl ?_ ?_ ?_ ?_; rfl; (focus (simp [Value.oneCell']; done)); rfl; clear hS; intro w hS; try simp only [putW]) | (refine storeN hS rfl rfl rfl rfl ?_ ?_ ?_ ?_; rfl; (focus (simp [Value.oneCell']; done)); (focus (simp; done)); clear hS; intro w hS; simp at hS; try simp only [putW]) | (refine alloc hS rfl rfl ?_; clear hS; intro mb w hS; simp only [putW]) | (refine box1 hS rfl rfl rfl rfl ?_; clear hS; intro mb w hS; try simp only [evW, putW] at hS; simp only [putW]) | (refine boxN hS rfl rfl rfl ?_; clear hS; intro mb w hS; simp only [putW]))
  refine ⟨?_⟩
  have hok : ∀ p ∈ [([1], D7), ([2], D7)], (∀ b ∈ p.1, okByte b) ∧ p.1.length ≤ 100000000000 ∧ p.2.length = 32 ∧ ∀ b ∈ p.2, okByte b := fun p hp => by
    have hd : ∀ b ∈ D7, okByte b := fun b hb => by
      have : b = 7 ∨ b = 0 := by simpa [D7] using hb
      unfold okByte; omega
    rcases List.mem_cons.1 hp with rfl | hp
    · exact ⟨fun b hb => by rw [List.mem_singleton.1 hb]; unfold okByte; omega, by decide, rfl, hd⟩
    · rw [List.mem_singleton.1 hp]
      exact ⟨fun b hb => by rw [List.mem_singleton.1 hb]; unfold okByte; omega, by decide, rfl, hd⟩
  refine (clashF hok (by decide) hS).mono ?_
  clear hS hok
  rintro _ w (⟨rfl, hn, hS⟩ | ⟨i, j, A, B, va, vb, hcl, rfl, hS⟩)
  · have := hn 0 1 ([1], D7) ([2], D7) (by omega) (by decide) rfl rfl rfl
    cases this
  obtain ⟨rfl, rfl⟩ := clash12 hcl
  clear hcl
  simp only [putW]
  obtain ⟨pt, hpt⟩ : ∃ pt, tupF (.slice none 0 0, .slice none 0 0, t3) = pt := ⟨_, rfl⟩
  have Hpt : Bx _ := ⟨hpt⟩
  have hpt' : (Value.agg #[.int .u32 3, .int .u8 0, .int .u8 0, .int .u8 0, .int .u8 0, .int .u8 0, .int .u8 0, .int .u8 0, .int .u8 0, .int .u8 0, .int .u8 0, .int .u8 0, .int .u8 0, .slice none 0 0, .slice none 0 0]) = .agg pt.toArray := by rw [← hpt]; rfl
  have HPT : Bx _ := ⟨hpt'⟩
  clear hpt hpt'
  go_wp2_with (first | (guard_target =~ Calls _ 27 _ _ _; refine Stopped.out ?_) | (refine load1 hS rfl rfl rfl rfl ?_; simp only [putW]) | (refine loadAll hS rfl rfl rfl ?_ ?_; rfl; simp only [putW]) | (refine loadPart hS rfl rfl rfl ?_ rfl ?_; rfl; simp only [putW]) | (refine store1 hS rfl rfl rfl rfl rfl ?_ ?_; (focus (simp; done)); clear hS; intro w hS; simp only [evW, putW] at hS; try simp only [putW]) | (refine storeAll hS rfl rfl rfl rfl ?_ ?_ ?_ ?_; rfl; (focus (simp [Value.oneCell']; done)); rfl; clear hS; intro w hS; try simp only [putW]) | (refine storeN hS rfl rfl rfl rfl ?_ ?_ ?_ ?_; rfl; (focus (simp [Value.oneCell']; done)); (focus (simp; done)); clear hS; intro w hS; simp at hS; try simp only [putW]) | (refine alloc hS rfl rfl ?_; clear hS; intro mb w hS; simp only [putW]) | (refine box1 hS rfl rfl rfl rfl ?_; clear hS; intro mb w hS; try simp only [evW, putW] at hS; simp only [putW]) | (refine boxN hS rfl rfl rfl ?_; clear hS; intro mb w hS; simp only [putW]))
  refine ⟨?_⟩
  rw [HPT.out]
  (refine Calls.mono (opened_any (t := t3) (hS.pull l (X := LogF [([1], D7), ([2], D7)] [] [])) Hpt.out rfl (okNil _) (okNil _) (by decide) (by decide) (by decide)) ?_; clear hS; rintro _ w ⟨rfl, hS⟩; simp only [putW])
  go_wp2_with (first | (guard_target =~ Calls _ 16 _ _ _; refine Stopped.out ?_) | (refine load1 hS rfl rfl rfl rfl ?_; simp only [putW]) | (refine loadAll hS rfl rfl rfl ?_ ?_; rfl; simp only [putW]) | (refine loadPart hS rfl rfl rfl ?_ rfl ?_; rfl; simp only [putW]) | (refine store1 hS rfl rfl rfl rfl rfl ?_ ?_; (focus (simp; done)); clear hS; intro w hS; simp only [evW, putW] at hS; try simp only [putW]) | (refine storeAll hS rfl rfl rfl rfl ?_ ?_ ?_ ?_; rfl; (focus (simp [Value.oneCell']; done)); rfl; clear hS; intro w hS; try simp only [putW]) | (refine storeN hS rfl rfl rfl rfl ?_ ?_ ?_ ?_; rfl; (focus (simp [Value.oneCell']; done)); (focus (simp; done)); clear hS; intro w hS; simp at hS; try simp only [putW]) | (refine alloc hS rfl rfl ?_; clear hS; intro mb w hS; simp only [putW]) | (refine box1 hS rfl rfl rfl rfl ?_; clear hS; intro mb w hS; try simp only [evW, putW] at hS; simp only [putW]) | (refine boxN hS rfl rfl rfl ?_; clear hS; intro mb w hS; simp only [putW]))
  refine ⟨?_⟩
  refine (forgedF (Ss := []) (Os := [] ++ [t3]) (fun t ht => by cases ht) (fun t ht => by rw [List.mem_singleton.1 ht]; exact t3_ok) (by decide) (by decide) hS).mono ?_
  clear hS
  rintro _ w (⟨rfl, hn, hS⟩ | ⟨j, t, q1, c1, q2, c2, hf, rfl, hS⟩)
  · have := hn 0 (by decide) t3 rfl
    cases this
  obtain rfl : t = t3 := by
    have h := List.mem_of_getElem? hf.1
    simpa using h
  clear hf
  simp only [putW]
  obtain ⟨pf, hpf⟩ : ∃ pf, tupF (.slice q1 t3.2.2.1.length c1, .slice q2 t3.2.2.2.length c2, t3) = pf := ⟨_, rfl⟩
  have Hpf : Bx _ := ⟨hpf⟩
  have Hpfl : Bx (pf.length = 15) := ⟨by rw [← hpf]; exact tupF_len rfl⟩
  have Hpfc : Bx (∀ u ∈ pf, u.oneCell' = true) := ⟨by rw [← hpf]; exact tupF_cell rfl rfl⟩
  have f0 : Bx (CellIs pf.toArray 0 (.int .u32 3)) := ⟨⟨by rw [← hpf]; rfl⟩⟩
  rw [hpf]
  clear hpf
  go_wp2_with (first | (refine alloc (t := 46) hS rfl rfl ?_; clear hS; intro m5 w hS; simp only [putW]) | (refine storeAll (cs := pf.toArray) hS rfl rfl rfl rfl ?_ ?_ ?_ ?_; (focus exact Hpfl.out); (focus exact Hpfc.out); (focus rfl); clear hS; intro w hS; try simp only [putW]) | (guard_target =~ Calls _ 26 _ _ _; refine Stopped.out ?_) | (refine load1 hS rfl rfl rfl rfl ?_; simp only [putW]) | (refine loadAll hS rfl rfl rfl ?_ ?_; rfl; simp only [putW]) | (refine loadPart hS rfl rfl rfl ?_ rfl ?_; rfl; simp only [putW]) | (refine store1 hS rfl rfl rfl rfl rfl ?_ ?_; (focus (simp; done)); clear hS; intro w hS; simp only [evW, putW] at hS; try simp only [putW]) | (refine storeAll hS rfl rfl rfl rfl ?_ ?_ ?_ ?_; rfl; (focus (simp [Value.oneCell']; done)); rfl; clear hS; intro w hS; try simp only [putW]) | (refine storeN hS rfl rfl rfl rfl ?_ ?_ ?_ ?_; rfl; (focus (simp [Value.oneCell']; done)); (focus (simp; done)); clear hS; intro w hS; simp at hS; try simp only [putW]) | (refine alloc hS rfl rfl ?_; clear hS; intro mb w hS; simp only [putW]) | (refine box1 hS rfl rfl rfl rfl ?_; clear hS; intro mb w hS; try simp only [evW, putW] at hS; simp only [putW]) | (refine boxN hS rfl rfl rfl ?_; clear hS; intro mb w hS; simp only [putW]))
  refine ⟨?_⟩
  rw [HPT.out]
  (refine Calls.mono (sealed_any (t := t3) (hS.pull l (X := LogF [([1], D7), ([2], D7)] [] ([] ++ [t3]))) Hpt.out rfl (okNil _) (okNil _) (by decide) (by decide) (by decide)) ?_; clear hS; rintro _ w ⟨rfl, hS⟩; simp only [putW])
  go_wp2_with (first | (guard_target =~ Calls _ 16 _ _ _; refine Stopped.out ?_) | (refine load1 hS rfl rfl rfl rfl ?_; simp only [putW]) | (refine loadAll hS rfl rfl rfl ?_ ?_; rfl; simp only [putW]) | (refine loadPart hS rfl rfl rfl ?_ rfl ?_; rfl; simp only [putW]) | (refine store1 hS rfl rfl rfl rfl rfl ?_ ?_; (focus (simp; done)); clear hS; intro w hS; simp only [evW, putW] at hS; try simp only [putW]) | (refine storeAll hS rfl rfl rfl rfl ?_ ?_ ?_ ?_; rfl; (focus (simp [Value.oneCell']; done)); rfl; clear hS; intro w hS; try simp only [putW]) | (refine storeN hS rfl rfl rfl rfl ?_ ?_ ?_ ?_; rfl; (focus (simp [Value.oneCell']; done)); (focus (simp; done)); clear hS; intro w hS; simp at hS; try simp only [putW]) | (refine alloc hS rfl rfl ?_; clear hS; intro mb w hS; simp only [putW]) | (refine box1 hS rfl rfl rfl rfl ?_; clear hS; intro mb w hS; try simp only [evW, putW] at hS; simp only [putW]) | (refine boxN hS rfl rfl rfl ?_; clear hS; intro mb w hS; simp only [putW]))
  refine ⟨?_⟩
  refine (forgedF (Ss := [] ++ [t3]) (Os := [] ++ [t3]) (fun t ht => by rw [List.mem_singleton.1 ht]; exact t3_ok) (fun t ht => by rw [List.mem_singleton.1 ht]; exact t3_ok) (by decide) (by decide) hS).mono ?_
  clear hS
  rintro _ w (⟨rfl, hn, hS⟩ | ⟨j, t, q1, c1, q2, c2, hf, rfl, hS⟩)
  case inr => exact absurd (List.mem_of_getElem? hf.1) hf.2.1
  clear hn
  simp only [putW]
  obtain ⟨pz, hpz⟩ : ∃ pz, tupF (.slice none 0 0, .slice none 0 0, zT) = pz := ⟨_, rfl⟩
  have Hpzl : Bx (pz.length = 15) := ⟨by rw [← hpz]; rfl⟩
  have Hpzc : Bx (∀ u ∈ pz, u.oneCell' = true) := ⟨by rw [← hpz]; exact tupF_cell rfl rfl⟩
  rw [hpz]
  clear hpz
  have e1 : okByte 1 := by unfold okByte; omega
  have e2 : okByte 2 := by unfold okByte; omega
  have hb1 : ∀ b ∈ ([1] : List Int), okByte b := fun b hb => by rw [List.mem_singleton.1 hb]; exact e1
  have hb2 : ∀ b ∈ ([2] : List Int), okByte b := fun b hb => by rw [List.mem_singleton.1 hb]; exact e2
  go_wp2_with (first | (refine alloc (t := 46) hS rfl rfl ?_; clear hS; intro m7 w hS; simp only [putW]) | (refine storeAll (cs := pz.toArray) hS rfl rfl rfl rfl ?_ ?_ ?_ ?_; (focus exact Hpzl.out); (focus exact Hpzc.out); (focus rfl); clear hS; intro w hS; try simp only [putW]) | (refine buildSlice1 (c := #[.int .u8 1]) hS rfl rfl rfl ?_ ?_ ?_ ?_; rfl; rfl; rfl; clear hS; intro m1 w hS; simp only [putW]) | (guard_target =~ Calls _ 14 _ _ _; refine Stopped.out ?_) | (refine load1 hS rfl rfl rfl rfl ?_; simp only [putW]) | (refine loadAll hS rfl rfl rfl ?_ ?_; rfl; simp only [putW]) | (refine loadPart hS rfl rfl rfl ?_ rfl ?_; rfl; simp only [putW]) | (refine store1 hS rfl rfl rfl rfl rfl ?_ ?_; (focus (simp; done)); clear hS; intro w hS; simp only [evW, putW] at hS; try simp only [putW]) | (refine storeAll hS rfl rfl rfl rfl ?_ ?_ ?_ ?_; rfl; (focus (simp [Value.oneCell']; done)); rfl; clear hS; intro w hS; try simp only [putW]) | (refine storeN hS rfl rfl rfl rfl ?_ ?_ ?_ ?_; rfl; (focus (simp [Value.oneCell']; done)); (focus (simp; done)); clear hS; intro w hS; simp at hS; try simp only [putW]) | (refine alloc hS rfl rfl ?_; clear hS; intro mb w hS; simp only [putW]) | (refine box1 hS rfl rfl rfl rfl ?_; clear hS; intro mb w hS; try simp only [evW, putW] at hS; simp only [putW]) | (refine boxN hS rfl rfl rfl ?_; clear hS; intro mb w hS; simp only [putW]))
  refine ⟨?_⟩
  (refine Calls.mono (same_any (hS.readsSl (v := va) (L := [1]) hb1) (litBs (m := m1) hS e1)) ?_; rintro _ w2 ⟨rfl, h2⟩; replace hS := hS.frame h2; clear h2; (try simp only [List.cons_append, List.nil_append] at hS); simp only [putW])
  simp only [decide_true]
  go_wp2_with (first | (refine buildSlice1 (c := #[.int .u8 2]) hS rfl rfl rfl ?_ ?_ ?_ ?_; rfl; rfl; rfl; clear hS; intro m2 w hS; simp only [putW]) | (guard_target =~ Calls _ 14 _ _ _; refine Stopped.out ?_) | (refine load1 hS rfl rfl rfl rfl ?_; simp only [putW]) | (refine loadAll hS rfl rfl rfl ?_ ?_; rfl; simp only [putW]) | (refine loadPart hS rfl rfl rfl ?_ rfl ?_; rfl; simp only [putW]) | (refine store1 hS rfl rfl rfl rfl rfl ?_ ?_; (focus (simp; done)); clear hS; intro w hS; simp only [evW, putW] at hS; try simp only [putW]) | (refine storeAll hS rfl rfl rfl rfl ?_ ?_ ?_ ?_; rfl; (focus (simp [Value.oneCell']; done)); rfl; clear hS; intro w hS; try simp only [putW]) | (refine storeN hS rfl rfl rfl rfl ?_ ?_ ?_ ?_; rfl; (focus (simp [Value.oneCell']; done)); (focus (simp; done)); clear hS; intro w hS; simp at hS; try simp only [putW]) | (refine alloc hS rfl rfl ?_; clear hS; intro mb w hS; simp only [putW]) | (refine box1 hS rfl rfl rfl rfl ?_; clear hS; intro mb w hS; try simp only [evW, putW] at hS; simp only [putW]) | (refine boxN hS rfl rfl rfl ?_; clear hS; intro mb w hS; simp only [putW]))
  refine ⟨?_⟩
  (refine Calls.mono (same_any (hS.readsSl (v := vb) (L := [2]) hb2) (litBs (m := m2) hS e2)) ?_; rintro _ w2 ⟨rfl, h2⟩; replace hS := hS.frame h2; clear h2; (try simp only [List.cons_append, List.nil_append] at hS); simp only [putW])
  simp only [decide_true]
  go_wp2_with (first | (refine loadC hS rfl rfl rfl f0.out ?_; simp only [putW]) | (refine load1 hS rfl rfl rfl rfl ?_; simp only [putW]) | (refine loadAll hS rfl rfl rfl ?_ ?_; rfl; simp only [putW]) | (refine loadPart hS rfl rfl rfl ?_ rfl ?_; rfl; simp only [putW]) | (refine store1 hS rfl rfl rfl rfl rfl ?_ ?_; (focus (simp; done)); clear hS; intro w hS; simp only [evW, putW] at hS; try simp only [putW]) | (refine storeAll hS rfl rfl rfl rfl ?_ ?_ ?_ ?_; rfl; (focus (simp [Value.oneCell']; done)); rfl; clear hS; intro w hS; try simp only [putW]) | (refine storeN hS rfl rfl rfl rfl ?_ ?_ ?_ ?_; rfl; (focus (simp [Value.oneCell']; done)); (focus (simp; done)); clear hS; intro w hS; simp at hS; try simp only [putW]) | (refine alloc hS rfl rfl ?_; clear hS; intro mb w hS; simp only [putW]) | (refine box1 hS rfl rfl rfl rfl ?_; clear hS; intro mb w hS; try simp only [evW, putW] at hS; simp only [putW]) | (refine boxN hS rfl rfl rfl ?_; clear hS; intro mb w hS; simp only [putW]))
  go_ret
  exact ⟨rfl, hS.nothing⟩
end
end Go.Proofs.YteoidocicjlglaaDoor
