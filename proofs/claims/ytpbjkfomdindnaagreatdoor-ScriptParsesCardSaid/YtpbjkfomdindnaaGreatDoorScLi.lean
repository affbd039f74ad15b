/-
  script.Lines.
-/
import Derived.Test.YtpbjkfomdindnaaGreatDoorScJ
set_option linter.unusedSimpArgs false
set_option linter.unusedVariables false
namespace Go.Proofs.YtpbjkfomdindnaaGreatDoor
open Go.RowKit Go.Shelf Go.Proofs.YtpbjkfomdindnaaGreatDoor.Sl Go.Proofs.YtpbjkfomdindnaaGreatDoor.Jp Go.Proofs.YtpbjkfomdindnaaGreatDoor.Sc

/-! ### In plain words -/
/-- What a line is read as; a line that is none: nothing. -/
def gotL (l : Bs) : St := (parseS l).getD st0
def errL (l : Bs) : Int := if parseS l = none then 3 else 0
/-- The lines that are not empty. -/
def fullL (L : List Bs) : List Bs := L.filter fun l => decide (l ≠ [])
/-- The first of some lines that is none, counted from 1; 0: there is none. -/
def firstK (L : List Bs) : Nat → Nat
  | 0 => 0
  | k + 1 => if firstK L k = 0 then (if L.getD k [] ≠ [] ∧ parseS (L.getD k []) = none then k + 1 else 0) else firstK L k
/-- What a text is read as: its steps, the line that is none, and the code. -/
def linesL (L : List Bs) : List St × Nat × Int :=
  if 1024 < (fullL L).length then ([], 0, 4) else if firstK L L.length = 0 then ((fullL L).map gotL, 0, 0) else ([], firstK L L.length, 3)
def linesS (t : Bs) : List St × Nat × Int := linesL (splitC 10 t)
theorem fullL_take {L : List Bs} {k : Nat} {l : Bs} (h : L[k]? = some l) : fullL (L.take (k + 1)) = fullL (L.take k) ++ (if l = [] then [] else [l]) := by
  unfold fullL
  rw [List.take_add_one, h, List.filter_append]
  congr 1
  by_cases e : l = [] <;> simp [e]
theorem fullL_le (L : List Bs) (k : Nat) : (fullL (L.take k)).length ≤ k := by
  unfold fullL
  exact Nat.le_trans (List.length_filter_le _ _) (List.length_take_le _ _)
theorem gotL_ok (l : Bs) : SOk (gotL l) := by
  unfold gotL
  cases h : parseS l with
  | none => exact ⟨fun x hx => (by cases hx), fun x hx => (by cases hx), (by decide : (0 : Nat) < 18446744073709551616)⟩
  | some s =>
    have := (parseS_back h).1
    exact ⟨this.od, this.da, this.bt⟩
section
variable {w0 w : World} {S F K : List Chunk}
/-- Parse, the two ways in one. -/
theorem parse_two (l : Bs) (hK : KV w0) (hl : l.length ≤ 900000) :
    Calls Tryz.prog 10 #[str l] w0 fun e w' => ∃ vo vd vf, e = .returned (.tuple #[.agg (stC (gotL l) vo vd vf), .int .i64 (errL l)]) ∧ Sat w0 (stL (gotL l) vo vd vf) w' := by
  refine (parse_any l hK hl).mono ?_
  rintro e w' (⟨s, vo, vd, vf, hp, rfl, hS⟩ | ⟨hp, rfl, hS⟩)
  · have h1 : gotL l = s := by unfold gotL; rw [hp]; rfl
    have h2 : errL l = 0 := by unfold errL; rw [hp]; rfl
    rw [h1, h2]
    exact ⟨vo, vd, vf, rfl, hS⟩
  · have h1 : gotL l = st0 := by unfold gotL; rw [hp]; rfl
    have h2 : errL l = 3 := by unfold errL; rw [hp]; rfl
    rw [h1, h2]
    exact ⟨nilV, nilV, nilV, rfl, ((hS.slNil 1 i64 3).slNil 1 by8 5).slNil 1 by8 5⟩
/-- How far the lines are gone through. -/
structure Far (L : List Bs) (k : Nat) (X : List SV) (n at_ er : Int) : Prop where
  xs : X.map (·.s) = (fullL (L.take k)).map gotL
  ok : ∀ x ∈ X, SOk x.s
  nn : n = ((fullL (L.take k)).length : Nat)
  fi : (firstK L k = 0 ∧ at_ = 0 ∧ er = 0) ∨ (firstK L k ≠ 0 ∧ at_ = (firstK L k : Nat) ∧ er = 3)
theorem Far.start (L : List Bs) : Far L 0 [] 0 0 0 := ⟨rfl, fun x hx => (by cases hx), rfl, .inl ⟨rfl, rfl, rfl⟩⟩
theorem Far.empty {L : List Bs} {k : Nat} {X : List SV} {n at_ er : Int} (h : Far L k X n at_ er) (hl : L[k]? = some []) : Far L (k + 1) X n at_ er := by
  have hg : L.getD k [] = [] := by rw [List.getD_eq_getElem?_getD, hl]; rfl
  have hf : firstK L (k + 1) = firstK L k := by
    rw [firstK, hg]
    split
    · rename_i e; rw [e]; simp
    · rfl
  refine ⟨?_, h.ok, ?_, ?_⟩
  · rw [fullL_take hl, if_pos rfl, List.append_nil]; exact h.xs
  · rw [fullL_take hl, if_pos rfl, List.append_nil]; exact h.nn
  · rw [hf]; exact h.fi
theorem Far.more {L : List Bs} {k : Nat} {X : List SV} {n at_ er : Int} (h : Far L k X n at_ er) {l : Bs} (hl : L[k]? = some l) (hne : l ≠ []) (vo vd vf : Value) :
    Far L (k + 1) (X ++ [⟨gotL l, vo, vd, vf⟩]) (n + 1) (if errL l ≠ 0 ∧ er = 0 then (k : Int) + 1 else at_) (if errL l ≠ 0 ∧ er = 0 then errL l else er) := by
  have hg : L.getD k [] = l := by rw [List.getD_eq_getElem?_getD, hl]; rfl
  refine ⟨?_, ?_, ?_, ?_⟩
  · rw [fullL_take hl, if_neg hne, List.map_append, List.map_append, h.xs]; rfl
  · intro x hx
    rcases List.mem_append.1 hx with h2 | h2
    · exact h.ok x h2
    · obtain rfl := List.mem_singleton.1 h2
      exact gotL_ok l
  · rw [fullL_take hl, if_neg hne, List.length_append, h.nn]; simp
  · rw [firstK, hg]
    by_cases hp : parseS l = none
    · have h2 : errL l = 3 := by unfold errL; rw [if_pos hp]
      rcases h.fi with ⟨f1, f2, f3⟩ | ⟨f1, f2, f3⟩
      · right
        rw [if_pos f1, if_pos ⟨hne, hp⟩, if_pos ⟨by rw [h2]; decide, f3⟩, if_pos ⟨by rw [h2]; decide, f3⟩]
        exact ⟨by omega, by simp, h2⟩
      · right
        rw [if_neg f1, if_neg (by rw [f3]; simp), if_neg (by rw [f3]; simp)]
        exact ⟨f1, f2, f3⟩
    · have h2 : errL l = 0 := by unfold errL; rw [if_neg hp]
      rw [if_neg (c := errL l ≠ 0 ∧ er = 0) (by rw [h2]; simp), if_neg (c := errL l ≠ 0 ∧ er = 0) (by rw [h2]; simp), if_neg (c := l ≠ [] ∧ parseS l = none) (fun q => hp q.2)]
      rcases h.fi with ⟨f1, f2, f3⟩ | ⟨f1, f2, f3⟩
      · left
        rw [if_pos f1]
        exact ⟨rfl, f2, f3⟩
      · right
        rw [if_neg f1]
        exact ⟨f1, f2, f3⟩
theorem errL_two (l : Bs) : errL l = 0 ∨ errL l = 3 := by
  unfold errL
  split
  · exact .inr rfl
  · exact .inl rfl
set_option maxRecDepth 100000 in
set_option maxHeartbeats 4000000 in
/-- Lines. -/
theorem lines_any (t : Bs) (hK : KV w0) (hl : t.length ≤ 900000) :
    Calls Tryz.prog 16 #[str t] w0 fun e w' => ∃ X vo, e = .returned (.tuple #[vo, .int .i64 ((linesS t).2.1 : Nat), .int .i64 (linesS t).2.2]) ∧ X.map (·.s) = (linesS t).1 ∧ (∀ x ∈ X, SOk x.s) ∧ Sat w0 ((blk vo, sl 9 svF X 29 vo) :: (77, stepsC X) :: []) w' := by
  have hS := Sat.refl w0
  have HK : Bx (KV w0) := ⟨hK⟩
  clear hK
  go_enter Tryz.func16, Tryz.ntmps16
  go_wp2_with (guard_target =~ Calls _ 21 _ _ _; refine Stopped.out ?_)
  refine ⟨?_⟩
  refine Calls.mono (split_any 10 t HK.out (by omega)) ?_
  clear hS
  rintro _ w ⟨g, rfl, hS⟩
  have HT : Bx (∀ l ∈ splitC 10 t, l.length ≤ 900000) := ⟨fun l h => Nat.le_trans (splitC_len h) hl⟩
  have HC : Bx ((splitC 10 t).length ≤ 900001) := ⟨by rw [splitC_count]; have := List.count_le_length (a := (10 : UInt8)) (l := t); omega⟩
  have HL : Bx (linesS t = linesL (splitC 10 t)) := ⟨rfl⟩
  generalize splitC 10 t = L at hS HT HC HL ⊢
  clear hl
  simp only [putW]
  go_wp2_with (refine load1 hS rfl rfl rfl rfl ?_; simp only [putW])
  have hS1 : Sat w0 ((blk nilV, sl 9 svF [] 29 nilV) :: (77, stepsC []) :: (g, slc 1 strF L L.length 9) :: []) w := (steps_nil hS).slNil 9 svF 29
  clear hS
  have hS := hS1
  clear hS1
  have hmx := HC.out
  go_loopw [5, 6, 7, 8, 16] (fun vv va vn ve vi wr => ∃ (k : Nat) (X : List SV) (n a e : Int), k ≤ L.length ∧ vi = .int .i64 (k : Int) ∧ va = .int .i64 a ∧ vn = .int .i64 n ∧ ve = .int .i64 e ∧ Bx (Far L k X n a e) ∧ Sat w0 ((blk vv, sl 9 svF X 29 vv) :: (77, stepsC X) :: (g, slc 1 strF L L.length 9) :: []) wr) (fun _ _ _ _ vi _ => L.length - (intOf vi).toNat)
  case atStart => exact ⟨0, [], 0, 0, 0, Nat.zero_le _, rfl, rfl, rfl, rfl, ⟨Far.start L⟩, hS⟩
  case round =>
    clear hS
    obtain ⟨k, X, n, a, e, hk, rfl, rfl, rfl, rfl, hF, hS⟩ := hrel
    obtain ⟨ua, uc, rfl⟩ := slFormS (v := u5) hS
    by_cases hlt : k < L.length
    · obtain ⟨l, hx⟩ : ∃ l, L[k]? = some l := ⟨_, List.getElem?_eq_getElem hlt⟩
      by_cases hne : l = []
      · subst hne
        have HN := hF.out.empty hx
        go_wp2_with (refine loadS1 (v1 := str) hS rfl rfl rfl hx ?_; simp only [putW])
        go_roundw
        case rel => exact ⟨k + 1, X, n, a, e, by omega, by go_num, rfl, rfl, rfl, ⟨HN⟩, hS⟩
        case measure => simp only [intOf]; omega
      · have hq : (l == []) = false := by simpa using hne
        have hn2 : n = ((fullL (L.take k)).length : Nat) := hF.out.nn
        have hn3 := fullL_le L k
        have hX : X.length ≤ 900001 := by
          have := congrArg List.length hF.out.xs
          simp only [List.length_map] at this
          omega
        have HLN : Bx (l.length ≤ 900000) := ⟨HT.out l (List.mem_of_getElem? hx)⟩
        have hnb : 0 ≤ n ∧ n ≤ 900001 := by omega
        clear hn2 hn3
        have HN : Bx (∀ vo vd vf, Far L (k + 1) (X ++ [⟨gotL l, vo, vd, vf⟩]) (n + 1) (if errL l ≠ 0 ∧ e = 0 then (k : Int) + 1 else a) (if errL l ≠ 0 ∧ e = 0 then errL l else e)) := ⟨fun vo vd vf => hF.out.more hx hne vo vd vf⟩
        have he2 : e = 0 ∨ e = 3 := by
          rcases hF.out.fi with h | h
          · exact .inl h.2.2
          · exact .inr h.2.2
        clear hne
        go_wp2_with (first | (refine loadS1 (v1 := str) hS rfl rfl rfl hx ?_; simp only [putW]) | (guard_target =~ Calls _ 10 _ _ _; refine Stopped.out ?_))
        refine ⟨?_⟩
        refine Calls.mono (parse_two l (HK.out.mono hS.base) HLN.out) ?_
        rintro _ w ⟨vo, vd, vf, rfl, h2⟩
        replace hS := hS.frame h2
        clear h2
        have HN2 := Bx.mk (HN.out vo vd vf)
        clear HN
        have hee := errL_two l
        generalize gotL l = s at hS HN2 ⊢
        generalize errL l = er at hee HN2 ⊢
        simp only [stL, List.cons_append, List.nil_append] at hS
        simp only [putW]
        have HC2 : Bx (∀ u ∈ svF ⟨s, vo, vd, vf⟩, u.oneCell' = true) := ⟨svF_one (Sat.slCell (α := Int) (v := vo) hS) (Sat.slCell (α := Int) (v := vd) hS) (Sat.slCell (α := Int) (v := vf) hS)⟩
        go_upto_region 10 with (first | (guard_target =~ wpList _ _ _ (Oper.mk (some 11) _ _ _ _ _ :: _) _ _; refine alloc hS rfl rfl ?_; clear hS; intro tb w hS; simp only [putW]) | (refine storeAll hS rfl rfl rfl rfl ?_ ?_ ?_ ?_; rfl; (focus (exact HC2.out)); rfl; clear hS; intro w hS; try simp only [putW]))
        by_cases hw : er ≠ 0 ∧ e = 0
        · rw [if_pos hw, if_pos hw] at HN2
          obtain ⟨e1, rfl⟩ := hw
          obtain rfl : er = 3 := by omega
          clear hee he2 e1
          go_wp2_with (first | (refine buildSlice1 (c := (stC s vo vd vf)) hS rfl rfl rfl ?_ ?_ ?_ ?_; rfl; rfl; rfl; clear hS; intro mb w hS; simp only [putW]) | (refine append1 (f := svF) hS rfl rfl (.slice ua X.length uc) rfl rfl (⟨s, vo, vd, vf⟩ : SV) ?_ ?_ ?_ ?_ ?_ ?_; rfl; (focus (exact HC2.out)); rfl; (focus (unfold maxLen; omega)); (focus (omega)); clear hS; intro v' w hS; simp only [putW]) | (refine loadAll hS rfl rfl rfl ?_ ?_; rfl; simp only [putW]))
          have hS2 : Sat w0 ((⟨s, vo, vd, vf⟩ : SV).l ++ (77, stepsC X) :: (blk v', sl 9 svF (X ++ [(⟨s, vo, vd, vf⟩ : SV)]) 29 v') :: (g, slc 1 strF L L.length 9) :: []) w := Sat.conv (S' := (blk vo, sl 1 by8 s.od 5 vo) :: (blk vd, sl 1 by8 s.da 5 vd) :: (blk vf, sl 1 i64 s.fa 3 vf) :: (77, stepsC X) :: (blk v', sl 9 svF (X ++ [(⟨s, vo, vd, vf⟩ : SV)]) 29 v') :: (g, slc 1 strF L L.length 9) :: []) hS
          clear hS
          have hS := steps_push hS2
          clear hS2
          go_roundw
          case rel => exact ⟨k + 1, _, _, _, _, by omega, by go_num, rfl, by go_num, rfl, HN2, hS.conv⟩
          case measure => simp only [intOf]; omega
        · rw [if_neg hw, if_neg hw] at HN2
          rcases hee with rfl | rfl
          · rcases he2 with rfl | rfl
            · clear hw
              go_wp2_with (first | (refine buildSlice1 (c := (stC s vo vd vf)) hS rfl rfl rfl ?_ ?_ ?_ ?_; rfl; rfl; rfl; clear hS; intro mb w hS; simp only [putW]) | (refine append1 (f := svF) hS rfl rfl (.slice ua X.length uc) rfl rfl (⟨s, vo, vd, vf⟩ : SV) ?_ ?_ ?_ ?_ ?_ ?_; rfl; (focus (exact HC2.out)); rfl; (focus (unfold maxLen; omega)); (focus (omega)); clear hS; intro v' w hS; simp only [putW]) | (refine loadAll hS rfl rfl rfl ?_ ?_; rfl; simp only [putW]))
              have hS2 : Sat w0 ((⟨s, vo, vd, vf⟩ : SV).l ++ (77, stepsC X) :: (blk v', sl 9 svF (X ++ [(⟨s, vo, vd, vf⟩ : SV)]) 29 v') :: (g, slc 1 strF L L.length 9) :: []) w := Sat.conv (S' := (blk vo, sl 1 by8 s.od 5 vo) :: (blk vd, sl 1 by8 s.da 5 vd) :: (blk vf, sl 1 i64 s.fa 3 vf) :: (77, stepsC X) :: (blk v', sl 9 svF (X ++ [(⟨s, vo, vd, vf⟩ : SV)]) 29 v') :: (g, slc 1 strF L L.length 9) :: []) hS
              clear hS
              have hS := steps_push hS2
              clear hS2
              go_roundw
              case rel => exact ⟨k + 1, _, _, _, _, by omega, by go_num, rfl, by go_num, rfl, HN2, hS.conv⟩
              case measure => simp only [intOf]; omega
            · clear hw
              go_wp2_with (first | (refine buildSlice1 (c := (stC s vo vd vf)) hS rfl rfl rfl ?_ ?_ ?_ ?_; rfl; rfl; rfl; clear hS; intro mb w hS; simp only [putW]) | (refine append1 (f := svF) hS rfl rfl (.slice ua X.length uc) rfl rfl (⟨s, vo, vd, vf⟩ : SV) ?_ ?_ ?_ ?_ ?_ ?_; rfl; (focus (exact HC2.out)); rfl; (focus (unfold maxLen; omega)); (focus (omega)); clear hS; intro v' w hS; simp only [putW]) | (refine loadAll hS rfl rfl rfl ?_ ?_; rfl; simp only [putW]))
              have hS2 : Sat w0 ((⟨s, vo, vd, vf⟩ : SV).l ++ (77, stepsC X) :: (blk v', sl 9 svF (X ++ [(⟨s, vo, vd, vf⟩ : SV)]) 29 v') :: (g, slc 1 strF L L.length 9) :: []) w := Sat.conv (S' := (blk vo, sl 1 by8 s.od 5 vo) :: (blk vd, sl 1 by8 s.da 5 vd) :: (blk vf, sl 1 i64 s.fa 3 vf) :: (77, stepsC X) :: (blk v', sl 9 svF (X ++ [(⟨s, vo, vd, vf⟩ : SV)]) 29 v') :: (g, slc 1 strF L L.length 9) :: []) hS
              clear hS
              have hS := steps_push hS2
              clear hS2
              go_roundw
              case rel => exact ⟨k + 1, _, _, _, _, by omega, by go_num, rfl, by go_num, rfl, HN2, hS.conv⟩
              case measure => simp only [intOf]; omega
          · rcases he2 with rfl | rfl
            · exact absurd ⟨by decide, rfl⟩ hw
            · clear hw
              go_wp2_with (first | (refine buildSlice1 (c := (stC s vo vd vf)) hS rfl rfl rfl ?_ ?_ ?_ ?_; rfl; rfl; rfl; clear hS; intro mb w hS; simp only [putW]) | (refine append1 (f := svF) hS rfl rfl (.slice ua X.length uc) rfl rfl (⟨s, vo, vd, vf⟩ : SV) ?_ ?_ ?_ ?_ ?_ ?_; rfl; (focus (exact HC2.out)); rfl; (focus (unfold maxLen; omega)); (focus (omega)); clear hS; intro v' w hS; simp only [putW]) | (refine loadAll hS rfl rfl rfl ?_ ?_; rfl; simp only [putW]))
              have hS2 : Sat w0 ((⟨s, vo, vd, vf⟩ : SV).l ++ (77, stepsC X) :: (blk v', sl 9 svF (X ++ [(⟨s, vo, vd, vf⟩ : SV)]) 29 v') :: (g, slc 1 strF L L.length 9) :: []) w := Sat.conv (S' := (blk vo, sl 1 by8 s.od 5 vo) :: (blk vd, sl 1 by8 s.da 5 vd) :: (blk vf, sl 1 i64 s.fa 3 vf) :: (77, stepsC X) :: (blk v', sl 9 svF (X ++ [(⟨s, vo, vd, vf⟩ : SV)]) 29 v') :: (g, slc 1 strF L L.length 9) :: []) hS
              clear hS
              have hS := steps_push hS2
              clear hS2
              go_roundw
              case rel => exact ⟨k + 1, _, _, _, _, by omega, by go_num, rfl, by go_num, rfl, HN2, hS.conv⟩
              case measure => simp only [intOf]; omega
    · have hke : L.take k = L := List.take_of_length_le (by omega)
      obtain rfl : k = L.length := by omega
      obtain ⟨xs, ok, nn, fi⟩ := hF.out
      rw [hke] at xs nn
      have HX : Bx (X.map (·.s) = (fullL L).map gotL) := ⟨xs⟩
      have HO : Bx (∀ x ∈ X, SOk x.s) := ⟨ok⟩
      clear hF hke xs ok hlt
      by_cases hbig : 1024 < (fullL L).length
      · have HR : Bx (linesS t = ([], 0, 4)) := ⟨by rw [HL.out]; unfold linesL; rw [if_pos hbig]⟩
        have hn1 : 1024 < n := by omega
        clear nn hbig fi HL
        go_wp2_with (refine load1 hS rfl rfl rfl rfl ?_; simp only [putW])
        exact bodyPost_ret (v := .tuple #[nilV, .int .i64 0, .int .i64 4]) (by simp [results, Tryz.results16]) rfl ⟨[], nilV, by rw [HR.out] <;> rfl, by rw [HR.out] <;> rfl, fun x hx => (by cases hx), (steps_nil hS.nothing).slNil 9 svF 29⟩
      · have hn1 : ¬ (1024 < n) := by omega
        rcases fi with ⟨f1, rfl, rfl⟩ | ⟨f1, rfl, rfl⟩
        · have HR : Bx (linesS t = ((fullL L).map gotL, 0, 0)) := ⟨by rw [HL.out]; unfold linesL; rw [if_neg hbig, if_pos f1]⟩
          clear nn hbig f1 HL
          go_wp2_with (refine load1 hS rfl rfl rfl rfl ?_; simp only [putW])
          exact bodyPost_ret (v := .tuple #[.slice ua X.length uc, .int .i64 0, .int .i64 0]) (by simp [results, Tryz.results16]) rfl ⟨X, .slice ua X.length uc, by rw [HR.out] <;> rfl, by rw [HR.out]; exact HX.out, HO.out, hS.conv⟩
        · have HR : Bx (linesS t = ([], firstK L L.length, 3)) := ⟨by rw [HL.out]; unfold linesL; rw [if_neg hbig, if_neg f1]⟩
          clear nn hbig f1 HL
          go_wp2_with (refine load1 hS rfl rfl rfl rfl ?_; simp only [putW])
          exact bodyPost_ret (v := .tuple #[nilV, .int .i64 (firstK L L.length : Nat), .int .i64 3]) (by simp [results, Tryz.results16]) rfl ⟨[], nilV, by rw [HR.out] <;> rfl, by rw [HR.out] <;> rfl, fun x hx => (by cases hx), (steps_nil hS.nothing).slNil 9 svF 29⟩
end
end Go.Proofs.YtpbjkfomdindnaaGreatDoor
