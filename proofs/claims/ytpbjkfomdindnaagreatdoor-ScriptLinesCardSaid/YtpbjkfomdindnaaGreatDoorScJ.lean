/-
  A list of steps in memory; script.Decode.
-/
import Derived.Test.YtpbjkfomdindnaaGreatDoorScI
import Derived.Test.YtpbjkfomdindnaaGreatDoorScE2
set_option linter.unusedSimpArgs false
set_option linter.unusedVariables false
namespace Go.Proofs.YtpbjkfomdindnaaGreatDoor
open Go.RowKit Go.Shelf Go.Proofs.YtpbjkfomdindnaaGreatDoor.Sl Go.Proofs.YtpbjkfomdindnaaGreatDoor.Jp Go.Proofs.YtpbjkfomdindnaaGreatDoor.Sc

/-- A step, with its slices' values. -/
structure SV where
  s : St
  o : Value
  d : Value
  f : Value
def svF (x : SV) : List Value := (stC x.s x.o x.d x.f).toList
def SV.l (x : SV) : List Chunk := stL x.s x.o x.d x.f
/-- What the steps of a list have of their own. -/
def stepsC (X : List SV) : K := fun _ h => holds (X.flatMap SV.l) h
structure SOk (s : St) : Prop where
  od : ∀ x ∈ s.od, okByte x
  da : ∀ x ∈ s.da, okByte x
  bt : s.bt < 18446744073709551616
section
variable {w0 w : World} {S F K : List Chunk} {X : List SV} {A : List Int} {p b o i : Nat}
theorem steps_nil (hS : Sat w0 F w) : Sat w0 ((77, stepsC []) :: F) w := hS.nilChunk 77 trivial
theorem steps_push {x : SV} (hS : Sat w0 (x.l ++ (77, stepsC X) :: F) w) : Sat w0 ((77, stepsC (X ++ [x])) :: F) w := by
  have h1 : Sat w0 ((77, stepsC X) :: (x.l ++ F)) w := hS.perm List.perm_middle
  have h2 : holds (X.flatMap SV.l ++ (x.l ++ F)) (own w0.heap.size w) := holds_open h1.has fun _ h => h
  refine ⟨hS.base, holds_close (T := (X ++ [x]).flatMap SV.l) ?_ fun _ h => h⟩
  rw [List.flatMap_append, List.flatMap_singleton, List.append_assoc]
  exact h2
theorem steps_push' {s : St} {vo vd vf : Value} (hS : Sat w0 (stL s vo vd vf ++ (77, stepsC X) :: F) w) : Sat w0 ((77, stepsC (X ++ [⟨s, vo, vd, vf⟩])) :: F) w := steps_push (x := ⟨s, vo, vd, vf⟩) hS
theorem oneOf {b : Nat} {Y : Nat → Hp → Prop} {T : List Chunk} {h1 : Hp} (hb : Below w0.heap.size w0 w) (hle : le h1 (own w0.heap.size w)) (hT : holds T h1) (hm : (b, Y) ∈ T) : Sat w0 [(b, Y)] w := by
  obtain ⟨h2, l2, hY⟩ := holds_mem hT hm
  exact ⟨hb, h2, fun _ => none, fun _ => .inr rfl, le_trans l2 hle, fun k o e => by simp at e, hY, trivial⟩
theorem Sl.Sat.readsSteps (hS : Sat w0 S w) [q : Pull S 77 (stepsC X) F] {x : SV} (hx : x ∈ X) (hk : SOk x.s) : RSt w x.s x.o x.d x.f := by
  obtain ⟨h1, h2, d, l1, l2, hX, -⟩ := (hS.perm q.perm).has
  have hm : ∀ {b : Nat} {Y : Nat → Hp → Prop}, (b, Y) ∈ x.l → Sat w0 [(b, Y)] w := fun h => oneOf hS.base l1 hX (List.mem_flatMap.2 ⟨x, hx, h⟩)
  have a1 : Sat w0 [(blk x.o, sl 1 by8 x.s.od 5 x.o)] w := hm (by simp [SV.l])
  have a2 : Sat w0 [(blk x.d, sl 1 by8 x.s.da 5 x.d)] w := hm (by simp [SV.l])
  have a3 : Sat w0 [(blk x.f, sl 1 i64 x.s.fa 3 x.f)] w := hm (by simp [SV.l])
  exact ⟨a1.readsSl hk.od, a2.readsSl hk.da, a3.readsSl fun _ _ => trivial, hk.bt⟩
theorem svF_len (x : SV) : (svF x).length = 9 := rfl
theorem svF_one {x : SV} (h1 : x.o.oneCell' = true) (h2 : x.d.oneCell' = true) (h3 : x.f.oneCell' = true) : ∀ u ∈ svF x, u.oneCell' = true := stC_one h1 h2 h3
/-- A list of steps can be read. -/
def RSs (w : World) (X : List SV) (v : Value) : Prop := BSl w 9 svF (fun x => RSt w x.s x.o x.d x.f) X v
theorem RSs.mono {w w' : World} {v : Value} (h : RSs w X v) (hb : Below w.heap.size w w') : RSs w' X v := BSl.mono h hb fun _ _ h => h.mono hb
theorem Sl.Sat.readsAll {v : Value} (hS : Sat w0 S w) [q : Pull S 77 (stepsC X) F] [q2 : PullSl S v p 9 svF X 29 K] (hk : ∀ x ∈ X, SOk x.s) : RSs w X v :=
  hS.readsSl fun x hx => hS.readsSteps hx (hk x hx)
theorem slFormS {g : Nat} {v : Value} (hS : Sat w0 S w) [q : PullSl S v g 9 svF X 29 F] : ∃ a c, v = .slice a X.length c := by
  rcases (hS.perm q.perm).slCases with ⟨rfl, rfl, _⟩ | ⟨cap, rfl, _⟩ <;> exact ⟨_, _, rfl⟩
theorem askD_ok {s : St} (hA : ∀ x ∈ A, okByte x) (hs : SOk s) : SOk (askD s A i).1 := by
  unfold askD
  split
  · exact ⟨hs.od, hs.da, hs.bt⟩
  · split
    · exact ⟨fun x hx => bytesAt_ok (B := A) hA _ _ x hx, hs.da, hs.bt⟩
    · split
      · exact ⟨hs.od, hs.da, be8_lt (B := A) hA _⟩
      · exact ⟨hs.od, hs.da, hs.bt⟩
theorem stepD_ok (hA : ∀ x ∈ A, okByte x) : SOk (stepD A i).1 := by
  unfold stepD
  repeat' split
  · exact askD_ok hA ⟨fun x hx => (by cases hx), fun x hx => (by cases hx), (by decide : (0 : Nat) < 18446744073709551616)⟩
  · exact ⟨fun x hx => (by cases hx), fun x hx => (by cases hx), (by decide : (0 : Nat) < 18446744073709551616)⟩
  · exact ⟨fun x hx => (by cases hx), fun x hx => (by cases hx), (by decide : (0 : Nat) < 18446744073709551616)⟩
  · exact ⟨fun x hx => (by cases hx), fun x hx => bytesAt_ok (B := A) hA _ _ x hx, (by decide : (0 : Nat) < 18446744073709551616)⟩
  · exact ⟨fun x hx => (by cases hx), fun x hx => (by cases hx), (by decide : (0 : Nat) < 18446744073709551616)⟩
  · exact ⟨fun x hx => (by cases hx), fun x hx => (by cases hx), be8_lt (B := A) hA _⟩
  · exact ⟨fun x hx => (by cases hx), fun x hx => (by cases hx), (by decide : (0 : Nat) < 18446744073709551616)⟩
theorem sstep_p (hA : SrcB w0 A b o) (hS : Sat w0 S w) [q : Pull S p (srcC A b o i) F] :
    Calls Tryz.prog 35 #[.pointer (some ⟨p, 0, none⟩)] w (StepPost2 w0 F A p b o (stepD A i)) := sstep_any hA (hS.perm q.perm)
/-- What a walk over bytes has behind it. -/
structure Half (A : List Int) (X : List SV) (i : Nat) : Prop where
  so : X.map (·.s) ++ decF A (1024 - X.length) i = decodeS A
  len : X.length ≤ 1024
  ok : ∀ x ∈ X, SOk x.s
theorem Half.start (A : List Int) : Half A [] 0 := ⟨rfl, by simp, fun x hx => by cases hx⟩
theorem Half.next (h : Half A X i) (hA : ∀ x ∈ A, okByte x) (hl : X.length < 1024) (hi : i < A.length) (vo vd vf : Value) : Half A (X ++ [⟨(stepD A i).1, vo, vd, vf⟩]) (stepD A i).2 := by
  refine ⟨?_, by simp; omega, fun x hx => ?_⟩
  · rw [← h.so]
    obtain ⟨n, hn⟩ : ∃ n, 1024 - X.length = n + 1 := ⟨1023 - X.length, by omega⟩
    rw [hn, List.length_append, show 1024 - (X.length + [(⟨(stepD A i).1, vo, vd, vf⟩ : SV)].length) = n by simp; omega]
    simp only [decF, if_pos hi, List.map_append, List.map_cons, List.map_nil, List.append_assoc]
    rfl
  · rcases List.mem_append.1 hx with h2 | h2
    · exact h.ok x h2
    · obtain rfl := List.mem_singleton.1 h2
      exact stepD_ok hA
theorem Half.stop (h : Half A X i) (hi : A.length ≤ i ∨ 1024 ≤ X.length) : X.map (·.s) = decodeS A := by
  rw [← h.so]
  have : decF A (1024 - X.length) i = [] := by
    rcases hi with hi | hi
    · cases 1024 - X.length with
      | zero => rfl
      | succ n => simp only [decF, if_neg (by omega : ¬ i < A.length)]
    · rw [show 1024 - X.length = 0 by omega]; rfl
  rw [this, List.append_nil]
set_option maxRecDepth 100000 in
set_option maxHeartbeats 2000000 in
/-- Decode. -/
theorem sdecode_any {v : Value} (hv : RB w0 A v) : Calls Tryz.prog 13 #[v] w0 fun e w' => ∃ X vo, e = .returned vo ∧ X.map (·.s) = decodeS A ∧ (∀ x ∈ X, SOk x.s) ∧ Sat w0 ((blk vo, sl 9 svF X 29 vo) :: (77, stepsC X) :: []) w' := by
  have hS := Sat.refl w0
  have hok := hv.all
  obtain ⟨q, c, b, o, rfl, h1, h2, h3, hB⟩ : ∃ q c b o, v = .slice q A.length c ∧ A.length ≤ c ∧ c ≤ maxLen ∧ (0 < A.length → q = some ⟨b, o, none⟩) ∧ (A ≠ [] → BAt w0 1 by8 okByte A b o) := by
    rcases hv with ⟨rfl, rfl | ⟨ad, cap, hc, rfl⟩⟩ | ⟨b, off, cap, rfl, h1, h2, h⟩
    · exact ⟨none, 0, 0, 0, rfl, by simp, by decide, fun h => by simp at h, fun h => absurd rfl h⟩
    · exact ⟨some ad, cap, 0, 0, rfl, by simp, hc, fun h => by simp at h, fun h => absurd rfl h⟩
    · exact ⟨_, cap, b, off, rfl, h1, h2, fun _ => rfl, fun _ => h⟩
  have HA : Bx (SrcB w0 A b o) := ⟨⟨hB, hok⟩⟩
  have HR : Bx (RestB A b o 0 (.slice q A.length c)) := ⟨⟨q, c, rfl, by omega, h2, fun h => by rw [h3 (by omega)]; rfl⟩⟩
  clear hv hB h3 h1 h2 hok
  go_enter Tryz.func13, Tryz.ntmps13
  go_wp2_with (guard_target =~ wpList _ _ _ (Oper.mk (some 7) _ _ _ _ _ :: _) _ _; refine boxN hS rfl rfl rfl ?_; clear hS; intro p w hS; simp only [putW])
  have hS1 : Sat w0 ((blk nilV, sl 9 svF [] 29 nilV) :: (77, stepsC []) :: (p, srcC A b o 0) :: []) w := (steps_nil (src_close p HR.out hS)).slNil 9 svF 29
  clear hS HR
  have hS := hS1
  clear hS1
  go_loopw [3] (fun vv wr => ∃ (X : List SV) (i : Nat), Bx (Half A X i) ∧ Sat w0 ((blk vv, sl 9 svF X 29 vv) :: (77, stepsC X) :: (p, srcC A b o i) :: []) wr) (fun vv _ => 1024 - sLen vv)
  case atStart => exact ⟨[], 0, ⟨Half.start A⟩, hS⟩
  case round =>
    clear hS
    obtain ⟨X, i, hH, hS⟩ := hrel
    obtain ⟨v, hR, hS1⟩ := src_open hS (p := p) (A := A) (b := b) (o := o) (i := i)
    clear hS
    have HR : Bx (RestB A b o i v) := ⟨hR⟩
    obtain ⟨q, c, rfl, -, hc, -⟩ := hR
    have hS : Sat w0 ((blk u3, sl 9 svF X 29 u3) :: (p, cells #[.slice q (A.length - i) c] 72) :: (77, stepsC X) :: []) wr := hS1.conv
    clear hS1
    have hmx : A.length - i ≤ 9223372036854775807 := by
      obtain ⟨q', c', e, e1, e2, -⟩ := HR.out
      unfold maxLen at e2; omega
    have hX : X.length ≤ 1024 := hH.out.len
    obtain ⟨ua, uc, rfl⟩ := slFormS (v := u3) hS
    by_cases hi : i < A.length
    · by_cases hX2 : X.length < 1024
      · go_wp2_with (first | (guard_target =~ Calls _ 35 _ _ _; refine Stopped.out ?_) | (refine load1 hS rfl rfl rfl rfl ?_; simp only [putW]))
        refine ⟨?_⟩
        refine Calls.mono (sstep_p (p := p) (i := i) HA.out (src_close (F := (blk (.slice ua X.length uc), sl 9 svF X 29 (.slice ua X.length uc)) :: (77, stepsC X) :: []) p HR.out hS.conv)) ?_
        clear hS
        rintro _ w ⟨vo, vd, vf, rfl, hS⟩
        simp only [putW]
        have HN : Bx (Half A (X ++ [⟨(stepD A i).1, vo, vd, vf⟩]) (stepD A i).2) := ⟨hH.out.next HA.out.ok hX2 hi vo vd vf⟩
        obtain ⟨s, hs⟩ : ∃ s, (stepD A i).1 = s := ⟨_, rfl⟩
        obtain ⟨j, hj⟩ : ∃ j, (stepD A i).2 = j := ⟨_, rfl⟩
        rw [hs, hj] at HN
        rw [hj] at hS
        rw [hs] at hS ⊢
        clear hs hj
        simp only [stL, List.cons_append, List.nil_append] at hS
        have HC : Bx (∀ u ∈ svF ⟨s, vo, vd, vf⟩, u.oneCell' = true) := ⟨svF_one (Sat.slCell (α := Int) (v := vo) hS) (Sat.slCell (α := Int) (v := vd) hS) (Sat.slCell (α := Int) (v := vf) hS)⟩
        go_wp2_with (first | (refine buildSlice1 (c := (stC s vo vd vf)) hS rfl rfl rfl ?_ ?_ ?_ ?_; rfl; rfl; rfl; clear hS; intro mb w hS; simp only [putW]) | (refine append1 (f := svF) hS rfl rfl (.slice ua X.length uc) rfl rfl (⟨s, vo, vd, vf⟩ : SV) ?_ ?_ ?_ ?_ ?_ ?_; rfl; (focus (exact HC.out)); rfl; (focus (unfold maxLen; omega)); (focus (omega)); clear hS; intro v' w hS; simp only [putW]))
        have hS2 : Sat w0 ((⟨s, vo, vd, vf⟩ : SV).l ++ (77, stepsC X) :: (blk v', sl 9 svF (X ++ [(⟨s, vo, vd, vf⟩ : SV)]) 29 v') :: (p, srcC A b o j) :: []) w := Sat.conv (S' := (blk vo, sl 1 by8 s.od 5 vo) :: (blk vd, sl 1 by8 s.da 5 vd) :: (blk vf, sl 1 i64 s.fa 3 vf) :: (77, stepsC X) :: (blk v', sl 9 svF (X ++ [(⟨s, vo, vd, vf⟩ : SV)]) 29 v') :: (p, srcC A b o j) :: []) hS
        clear hS
        have hS := steps_push hS2
        clear hS2
        have hl2 : sLen v' = X.length + 1 := by rw [Sat.slLen (α := SV) (v := v') hS]; simp
        go_roundw
        case rel => exact ⟨_, j, HN, hS.conv⟩
        case measure =>
          show 1024 - sLen v' < 1024 - X.length
          omega
      · have HE : Bx (X.map (·.s) = decodeS A) := ⟨hH.out.stop (.inr (by omega))⟩
        have HO : Bx (∀ x ∈ X, SOk x.s) := ⟨hH.out.ok⟩
        go_wp2_with (refine load1 hS rfl rfl rfl rfl ?_; simp only [putW])
        go_ret
        exact ⟨X, .slice ua X.length uc, rfl, HE.out, HO.out, hS.conv⟩
    · have HE : Bx (X.map (·.s) = decodeS A) := ⟨hH.out.stop (.inl (by omega))⟩
      have HO : Bx (∀ x ∈ X, SOk x.s) := ⟨hH.out.ok⟩
      go_wp2_with (refine load1 hS rfl rfl rfl rfl ?_; simp only [putW])
      go_ret
      exact ⟨X, .slice ua X.length uc, rfl, HE.out, HO.out, hS.conv⟩
end
end Go.Proofs.YtpbjkfomdindnaaGreatDoor
