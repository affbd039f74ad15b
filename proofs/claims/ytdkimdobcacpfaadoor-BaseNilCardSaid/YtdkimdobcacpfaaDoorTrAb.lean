/-
  tree.above.
-/
import Derived.Test.YtdkimdobcacpfaaDoorTrV
import Derived.Test.YtdkimdobcacpfaaDoorSlB
set_option linter.unusedSimpArgs false
set_option linter.unusedVariables false
namespace Go.Proofs.YtdkimdobcacpfaaDoor
open Go.RowKit Go.Proofs.YtdkimdobcacpfaaDoor.Sl Go.Proofs.YtdkimdobcacpfaaDoor.Sha Go.Proofs.YtdkimdobcacpfaaDoor.Jp Go.Proofs.YtdkimdobcacpfaaDoor.Tr

section
variable {w0 w : World} {K F S : List Chunk} {l : Nat} {lg : Value} {Ps Qs : List (List Int × List Int)} {A : List Int} {va vb : Value} {X : List (Value × List Int)}
theorem mapGet {X : List (Value × List Int)} {k : Nat} {x : Value × List Int} (h : X[k]? = some x) : (X.map (·.2)).getD k [] = x.2 := by
  simp [List.getD, h]
theorem rrShape {w : World} {v : Value} (h : RR w X v) : ∃ a c, v = .slice a X.length c ∧ X.length ≤ 9223372036854775807 := by
  obtain ⟨a, c, h1, h2, _⟩ := h.at
  exact ⟨a, c, h1, h2⟩
theorem rrAt {w : World} {a : Option Addr} {n c : Nat} (h : RR w X (.slice a n c)) (h0 : X ≠ []) : ∃ b off, a = some ⟨b, off, none⟩ ∧ BAt w 1 rowF (fun x => RB w x.2 x.1) X b off := by
  obtain ⟨a', c', h1, _, h3⟩ := h.at
  injection h1 with e1 e2 e3
  subst e1
  exact h3 h0
theorem digest_vi {b : Nat} {bi : Int} (hb : bi = b) (hS : Sat w0 ((1, LogV lg Ps) :: K) w) (hP : Ps.length ≤ 1000000) (hA : RB w A va) (hK : KTab w0) (hl : A.length ≤ 10000) {D : List Int} (hD : dig b A = D) :
    Calls Tryd.prog 33 #[lg, .int .i64 bi, va] w fun e w' => e = .returned (.agg (D.map u8v).toArray) ∧ Sat w0 ((1, LogV lg (Ps ++ [(pre b A, D)])) :: K) w' := by
  subst hb; subst hD
  exact digest_v hS hP hA hK hl
/-- The row above, when there is room for one block more. -/
def abRoom (fr : Nat) (bs : List Row) (k : Nat) : List Row := if k % 8 = 0 then ab dig fr bs k ++ [z256] else ab dig fr bs k
theorem abRoom_len (fr : Nat) (bs : List Row) (k : Nat) : (abRoom fr bs k).length = k / 8 + 1 := by
  unfold abRoom
  split
  · rw [List.length_append, ab_len]; simp; omega
  · rw [ab_len]; omega
theorem abRoom_row (fr : Nat) (bs : List Row) (k : Nat) : ∀ r ∈ abRoom fr bs k, isRow r := by
  have h := ab_rows dig_len' dig_okB fr bs k
  unfold abRoom
  split
  · intro r hr
    rcases List.mem_append.1 hr with hr | hr
    · exact h r hr
    · rw [List.mem_singleton.1 hr]; exact isRow_z
  · exact h
theorem ab_next (fr : Nat) (bs : List Row) (k : Nat) {A : Row} (h : (abRoom fr bs k)[k / 8]? = some A) : ab dig fr bs (k + 1) = (abRoom fr bs k).set (k / 8) (putAt A (32 * (k % 8)) (dig (fr + k) (bs.getD k []))) := by
  rw [ab, abStep]
  exact modify_set h
/-- A row of rows reads alike, whatever bytes its rows are said to have. -/
theorem slcSetSame {Y : List (Value × List Int)} {i g cap : Nat} {v : Value} {A B : List Int} {t : TypeId} (hy : Y[i]? = some (v, A)) (h : Hp) (hX : slc 1 rowF Y cap t g h) : slc 1 rowF (Y.set i (v, B)) cap t g h := by
  obtain ⟨cur, h1, h2, h3, h4, h5, h6⟩ := hX
  have hm : ∀ L : List (Value × List Int), L.flatMap rowF = L.map (·.1) := fun L => by
    induction L with
    | nil => rfl
    | cons x L ih => rw [List.flatMap_cons, ih]; rfl
  refine ⟨cur, h1, h2, by rw [List.length_set]; exact h3, h4, ?_, fun _ _ => rfl⟩
  rw [List.length_set, h5, hm, hm, List.map_set]
  have hi := (List.getElem?_eq_some_iff.1 hy)
  obtain ⟨hi, he⟩ := hi
  apply List.ext_getElem?
  intro j
  rw [List.getElem?_set]
  split
  · rename_i e; subst e; simp [hi, he]
  · rfl
set_option maxRecDepth 100000 in
set_option maxHeartbeats 4000000 in
theorem above_any {fr : Nat} (hfr : fr ≤ 1000000) (hS : Sat w0 ((1, LogV lg Ps) :: K) w) (hR : ∀ w', Sat w0 K w' → RR w' X vb) (hK : KTab w0) (hX : X.length ≤ 100000) (hl : ∀ x ∈ X, x.2.length ≤ 10000) (hP : Ps.length ≤ 500000) :
    Calls Tryd.prog 63 #[lg, .int .i64 fr, vb] w fun e w' => ∃ v Y, e = .returned v ∧ Y.map (·.2) = ab dig fr (X.map (·.2)) X.length ∧ Sat w0 ((blk v, sl 1 rowF Y 48 v) :: (0, inn Y 5) :: (1, LogV lg (Ps ++ notes dig pre fr (X.map (·.2)) X.length)) :: K) w' := by
  obtain ⟨a0, c0, hvb, hn⟩ := rrShape (hR w hS.tail)
  subst hvb
  obtain ⟨bs, hbs⟩ : ∃ bs, X.map (·.2) = bs := ⟨_, rfl⟩
  have hbl : bs.length = X.length := by rw [← hbs]; simp
  have HR : Bx _ := ⟨hR⟩
  have HL : Bx _ := ⟨hl⟩
  have HB : Bx _ := ⟨hbs⟩
  rw [hbs]
  clear hR hl hbs
  go_enter Tryd.func63, Tryd.ntmps63
  go_wp2_with (first | (refine load1 hS rfl rfl rfl rfl ?_; simp only [putW]) | (refine loadAll hS rfl rfl rfl ?_ ?_; rfl; simp only [putW]) | (refine loadPart hS rfl rfl rfl ?_ rfl ?_; rfl; simp only [putW]) | (refine store1 hS rfl rfl rfl rfl rfl ?_ ?_; (focus (simp; done)); clear hS; intro w hS; simp only [evW, putW] at hS; try simp only [putW]) | (refine storeAll hS rfl rfl rfl rfl ?_ ?_ ?_ ?_; rfl; (focus (simp [Value.oneCell']; done)); rfl; clear hS; intro w hS; try simp only [putW]) | (refine storeN hS rfl rfl rfl rfl ?_ ?_ ?_ ?_; rfl; (focus (simp [Value.oneCell']; done)); (focus (simp; done)); clear hS; intro w hS; simp at hS; try simp only [putW]) | (refine alloc hS rfl rfl ?_; clear hS; intro mb w hS; simp only [putW]) | (refine box1 hS rfl rfl rfl rfl ?_; clear hS; intro mb w hS; try simp only [evW, putW] at hS; simp only [putW]) | (refine boxN hS rfl rfl rfl ?_; clear hS; intro mb w hS; simp only [putW]))
  go_loopw [7, 13] (fun v i wr => ∃ (k : Nat) (Y : List (Value × List Int)), k ≤ X.length ∧ i = .int .i64 k ∧ Bx (Y.map (·.2) = ab dig fr bs k) ∧ Sat w0 ((blk v, sl 1 rowF Y 48 v) :: (0, inn Y 5) :: (1, LogV lg (Ps ++ notes dig pre fr bs k)) :: K) wr) (fun _ i _ => X.length - (intOf i).toNat)
  case atStart =>
    refine ⟨0, [], Nat.zero_le _, rfl, ⟨rfl⟩, ?_⟩
    have h1 := (hS.innNil 0 5).slNil 1 rowF 48
    rw [show Ps ++ notes dig pre fr bs 0 = Ps by simp [notes]]
    exact h1
  case round =>
    clear hS
    obtain ⟨k, Y, hk, rfl, hY, hS⟩ := hrel
    by_cases hlt : k < X.length
    · obtain ⟨⟨xv, xl⟩, hx⟩ : ∃ x, X[k]? = some x := ⟨_, List.getElem?_eq_getElem hlt⟩
      have hKw : ∀ {w' : World} {S0 : List Chunk} [Ent S0 K], Sat w0 S0 w' → RR w' X (.slice a0 X.length c0) := fun h => HR.out _ h.conv
      obtain ⟨bb, ob, rfl, hBb⟩ := rrAt (HR.out _ hS.tail.tail.tail) (by intro e; subst e; simp at hlt)
      have hxl : xl.length ≤ 10000 := HL.out _ (List.mem_of_getElem? hx)
      have hxg : Bx (bs.getD k [] = xl) := ⟨by rw [← HB.out]; exact mapGet hx⟩
      have hk7 : Y.length = (k + 7) / 8 := by have := congrArg List.length hY.out; rw [ab_len] at this; simpa using this
      go_upto_if 20 with (first | (refine loadB (f := rowF) (Sat.refl _) rfl rfl rfl hBb k 0 ?_ hx rfl ?_; omega; simp only [putW]) | (refine load1 hS rfl rfl rfl rfl ?_; simp only [putW]) | (refine loadAll hS rfl rfl rfl ?_ ?_; rfl; simp only [putW]) | (refine loadPart hS rfl rfl rfl ?_ rfl ?_; rfl; simp only [putW]) | (refine store1 hS rfl rfl rfl rfl rfl ?_ ?_; (focus (simp; done)); clear hS; intro w hS; simp only [evW, putW] at hS; try simp only [putW]) | (refine storeAll hS rfl rfl rfl rfl ?_ ?_ ?_ ?_; rfl; (focus (simp [Value.oneCell']; done)); rfl; clear hS; intro w hS; try simp only [putW]) | (refine storeN hS rfl rfl rfl rfl ?_ ?_ ?_ ?_; rfl; (focus (simp [Value.oneCell']; done)); (focus (simp; done)); clear hS; intro w hS; simp at hS; try simp only [putW]) | (refine alloc hS rfl rfl ?_; clear hS; intro mb w hS; simp only [putW]) | (refine box1 hS rfl rfl rfl rfl ?_; clear hS; intro mb w hS; try simp only [evW, putW] at hS; simp only [putW]) | (refine boxN hS rfl rfl rfl ?_; clear hS; intro mb w hS; simp only [putW]))
      go_cut [7] from 21 to 24 (fun v wc => ∃ Y', Bx (Y'.map (·.2) = abRoom fr bs k) ∧ Sat w0 ((blk v, sl 1 rowF Y' 48 v) :: (0, inn Y' 5) :: (1, LogV lg (Ps ++ notes dig pre fr bs k)) :: K) wc)
      case first =>
        by_cases h8 : k % 8 = 0
        · go_wp2_with (first | (guard_target =~ wpList _ _ _ (Oper.mk (some 22) _ _ _ _ _ :: _) _ _; refine Stopped.out ?_) | (refine load1 hS rfl rfl rfl rfl ?_; simp only [putW]) | (refine loadAll hS rfl rfl rfl ?_ ?_; rfl; simp only [putW]) | (refine loadPart hS rfl rfl rfl ?_ rfl ?_; rfl; simp only [putW]) | (refine store1 hS rfl rfl rfl rfl rfl ?_ ?_; (focus (simp; done)); clear hS; intro w hS; simp only [evW, putW] at hS; try simp only [putW]) | (refine storeAll hS rfl rfl rfl rfl ?_ ?_ ?_ ?_; rfl; (focus (simp [Value.oneCell']; done)); rfl; clear hS; intro w hS; try simp only [putW]) | (refine storeN hS rfl rfl rfl rfl ?_ ?_ ?_ ?_; rfl; (focus (simp [Value.oneCell']; done)); (focus (simp; done)); clear hS; intro w hS; simp at hS; try simp only [putW]) | (refine alloc hS rfl rfl ?_; clear hS; intro mb w hS; simp only [putW]) | (refine box1 hS rfl rfl rfl rfl ?_; clear hS; intro mb w hS; try simp only [evW, putW] at hS; simp only [putW]) | (refine boxN hS rfl rfl rfl ?_; clear hS; intro mb w hS; simp only [putW]))
          refine ⟨?_⟩
          refine makeN hS rfl rfl 256 rfl rfl by8 (0 : Int) rfl ?_ ?_ ?_
          · omega
          · simp [maxLen]
          clear hS
          intro m1 w hS
          simp only [putW]
          go_wp2_with (first | (refine buildSlice1 (c := #[.slice (some ⟨m1, 0, none⟩) 256 256]) hS rfl rfl rfl ?_ ?_ ?_ ?_; rfl; rfl; rfl; clear hS; intro mb w hS; simp only [putW]) | (guard_target =~ wpList _ _ _ (Oper.mk (some 24) _ _ _ _ _ :: _) _ _; refine Stopped.out ?_) | (refine load1 hS rfl rfl rfl rfl ?_; simp only [putW]) | (refine loadAll hS rfl rfl rfl ?_ ?_; rfl; simp only [putW]) | (refine loadPart hS rfl rfl rfl ?_ rfl ?_; rfl; simp only [putW]) | (refine store1 hS rfl rfl rfl rfl rfl ?_ ?_; (focus (simp; done)); clear hS; intro w hS; simp only [evW, putW] at hS; try simp only [putW]) | (refine storeAll hS rfl rfl rfl rfl ?_ ?_ ?_ ?_; rfl; (focus (simp [Value.oneCell']; done)); rfl; clear hS; intro w hS; try simp only [putW]) | (refine storeN hS rfl rfl rfl rfl ?_ ?_ ?_ ?_; rfl; (focus (simp [Value.oneCell']; done)); (focus (simp; done)); clear hS; intro w hS; simp at hS; try simp only [putW]) | (refine alloc hS rfl rfl ?_; clear hS; intro mb w hS; simp only [putW]) | (refine box1 hS rfl rfl rfl rfl ?_; clear hS; intro mb w hS; try simp only [evW, putW] at hS; simp only [putW]) | (refine boxN hS rfl rfl rfl ?_; clear hS; intro mb w hS; simp only [putW]))
          refine ⟨?_⟩
          refine append1 (f := rowF) (n := 1) hS rfl rfl u7 rfl rfl ((.slice (some ⟨m1, 0, none⟩) 256 256, z256) : Value × List Int) rfl ?_ rfl ?_ ?_ ?_
          · intro u hu; rw [List.mem_singleton.1 hu]; rfl
          · simp [maxLen]; omega
          · omega
          clear hS
          intro v' w hS
          simp only [putW]
          go_wp2_with (first | (refine load1 hS rfl rfl rfl rfl ?_; simp only [putW]) | (refine loadAll hS rfl rfl rfl ?_ ?_; rfl; simp only [putW]) | (refine loadPart hS rfl rfl rfl ?_ rfl ?_; rfl; simp only [putW]) | (refine store1 hS rfl rfl rfl rfl rfl ?_ ?_; (focus (simp; done)); clear hS; intro w hS; simp only [evW, putW] at hS; try simp only [putW]) | (refine storeAll hS rfl rfl rfl rfl ?_ ?_ ?_ ?_; rfl; (focus (simp [Value.oneCell']; done)); rfl; clear hS; intro w hS; try simp only [putW]) | (refine storeN hS rfl rfl rfl rfl ?_ ?_ ?_ ?_; rfl; (focus (simp [Value.oneCell']; done)); (focus (simp; done)); clear hS; intro w hS; simp at hS; try simp only [putW]) | (refine alloc hS rfl rfl ?_; clear hS; intro mb w hS; simp only [putW]) | (refine box1 hS rfl rfl rfl rfl ?_; clear hS; intro mb w hS; try simp only [evW, putW] at hS; simp only [putW]) | (refine boxN hS rfl rfl rfl ?_; clear hS; intro mb w hS; simp only [putW]))
          go_meet
          case rel =>
            refine ⟨Y ++ [((.slice (some ⟨m1, 0, none⟩) 256 256, z256) : Value × List Int)], ⟨by rw [List.map_append, hY.out, abRoom, if_pos h8]; rfl⟩, ?_⟩
            have h1 := (hS.pull m1).slOfSlc
            rw [show (List.replicate 256 (0 : Int)).length = 256 from List.length_replicate, show List.replicate 256 (0 : Int) = z256 from rfl] at h1
            exact (h1.innAdd (j := 0) (X := Y) (t := 5) (.slice (some ⟨m1, 0, none⟩) 256 256) rfl).conv
        · go_wp2_with (first | (refine load1 hS rfl rfl rfl rfl ?_; simp only [putW]) | (refine loadAll hS rfl rfl rfl ?_ ?_; rfl; simp only [putW]) | (refine loadPart hS rfl rfl rfl ?_ rfl ?_; rfl; simp only [putW]) | (refine store1 hS rfl rfl rfl rfl rfl ?_ ?_; (focus (simp; done)); clear hS; intro w hS; simp only [evW, putW] at hS; try simp only [putW]) | (refine storeAll hS rfl rfl rfl rfl ?_ ?_ ?_ ?_; rfl; (focus (simp [Value.oneCell']; done)); rfl; clear hS; intro w hS; try simp only [putW]) | (refine storeN hS rfl rfl rfl rfl ?_ ?_ ?_ ?_; rfl; (focus (simp [Value.oneCell']; done)); (focus (simp; done)); clear hS; intro w hS; simp at hS; try simp only [putW]) | (refine alloc hS rfl rfl ?_; clear hS; intro mb w hS; simp only [putW]) | (refine box1 hS rfl rfl rfl rfl ?_; clear hS; intro mb w hS; try simp only [evW, putW] at hS; simp only [putW]) | (refine boxN hS rfl rfl rfl ?_; clear hS; intro mb w hS; simp only [putW]))
          go_meet
          case rel => exact ⟨Y, ⟨by rw [hY.out, abRoom, if_neg h8]⟩, hS⟩
      case rest =>
        clear hS hY
        obtain ⟨Y', hY, hS⟩ := hcut
        go_wp2_with (first | (guard_target =~ Calls _ 33 _ _ _; refine Stopped.out ?_) | (refine load1 hS rfl rfl rfl rfl ?_; simp only [putW]) | (refine loadAll hS rfl rfl rfl ?_ ?_; rfl; simp only [putW]) | (refine loadPart hS rfl rfl rfl ?_ rfl ?_; rfl; simp only [putW]) | (refine store1 hS rfl rfl rfl rfl rfl ?_ ?_; (focus (simp; done)); clear hS; intro w hS; simp only [evW, putW] at hS; try simp only [putW]) | (refine storeAll hS rfl rfl rfl rfl ?_ ?_ ?_ ?_; rfl; (focus (simp [Value.oneCell']; done)); rfl; clear hS; intro w hS; try simp only [putW]) | (refine storeN hS rfl rfl rfl rfl ?_ ?_ ?_ ?_; rfl; (focus (simp [Value.oneCell']; done)); (focus (simp; done)); clear hS; intro w hS; simp at hS; try simp only [putW]) | (refine alloc hS rfl rfl ?_; clear hS; intro mb w hS; simp only [putW]) | (refine box1 hS rfl rfl rfl rfl ?_; clear hS; intro mb w hS; try simp only [evW, putW] at hS; simp only [putW]) | (refine boxN hS rfl rfl rfl ?_; clear hS; intro mb w hS; simp only [putW]))
        refine ⟨?_⟩
        have hPl : (Ps ++ notes dig pre fr bs k).length ≤ 1000000 := by rw [List.length_append, notes_len]; omega
        obtain ⟨D, hD⟩ : ∃ D, dig (fr + k) xl = D := ⟨_, rfl⟩
        have hdl : Bx (D.length = 32) := ⟨by rw [← hD]; exact dig_len' _ _⟩
        have hdb : ∀ x ∈ D, okByte x := by rw [← hD]; exact dig_okB _ _
        replace hS := hS.conv (S' := (1, LogV lg (Ps ++ notes dig pre fr bs k)) :: (blk u7, sl 1 rowF Y' 48 u7) :: (0, inn Y' 5) :: K)
        (refine Calls.mono (digest_vi (b := fr + k) (by omega) hS hPl ((HR.out _ hS.tail.tail.tail).all _ (List.mem_of_getElem? hx)) hK hxl hD) ?_; clear hS; rintro _ w ⟨rfl, hS⟩; simp only [putW])
        have hxn : Bx (Ps ++ notes dig pre fr bs k ++ [(pre (fr + k) xl, D)] = Ps ++ notes dig pre fr bs (k + 1)) := ⟨by rw [notes, hxg.out, hD, List.append_assoc]⟩
        rw [hxn.out] at hS
        go_wp2_with (first | (refine allocA (t := 26) (vv := u8v) hS rfl rfl (List.replicate 32 0) zeros32 ?_; clear hS; intro md w hS; simp only [putW]) | (refine storeAllA (vv := u8v) hS rfl rfl rfl D rfl hdl.out (fun _ _ => rfl) (by simp) ?_; clear hS; intro w hS; try simp only [putW]) | (refine load1 hS rfl rfl rfl rfl ?_; simp only [putW]) | (refine loadAll hS rfl rfl rfl ?_ ?_; rfl; simp only [putW]) | (refine loadPart hS rfl rfl rfl ?_ rfl ?_; rfl; simp only [putW]) | (refine store1 hS rfl rfl rfl rfl rfl ?_ ?_; (focus (simp; done)); clear hS; intro w hS; simp only [evW, putW] at hS; try simp only [putW]) | (refine storeAll hS rfl rfl rfl rfl ?_ ?_ ?_ ?_; rfl; (focus (simp [Value.oneCell']; done)); rfl; clear hS; intro w hS; try simp only [putW]) | (refine storeN hS rfl rfl rfl rfl ?_ ?_ ?_ ?_; rfl; (focus (simp [Value.oneCell']; done)); (focus (simp; done)); clear hS; intro w hS; simp at hS; try simp only [putW]) | (refine alloc hS rfl rfl ?_; clear hS; intro mb w hS; simp only [putW]) | (refine box1 hS rfl rfl rfl rfl ?_; clear hS; intro mb w hS; try simp only [evW, putW] at hS; simp only [putW]) | (refine boxN hS rfl rfl rfl ?_; clear hS; intro mb w hS; simp only [putW]))
        have hYl : Y'.length = k / 8 + 1 := by have := congrArg List.length hY.out; rw [abRoom_len] at this; simpa using this
        obtain ⟨⟨rv, A⟩, hy⟩ : ∃ y, Y'[k / 8]? = some y := ⟨_, List.getElem?_eq_getElem (by omega)⟩
        have hA : (abRoom fr bs k)[k / 8]? = some A := by rw [← hY.out]; simp [hy]
        have hAr := abRoom_row fr bs k A (List.mem_of_getElem? hA)
        obtain ⟨gv, cv, hv, hS2⟩ := (hS.pull (blk u7)).slSome (by intro e; rw [e] at hYl; simp at hYl)
        subst hv
        have hS3 := hS2.rowAt (j := 0) hy
        obtain ⟨ga, ca, hrv, hS4⟩ := hS3.slFormC 256 hAr.1 (by omega)
        subst hrv
        have hca := (hS4.slcFacts (g := ga) (n := 1) (f := by8) (l := A) (cap := ca) (t := 5)).1
        have hAl := hAr.1
        rw [hAl] at hca
        have hnext : Bx (ab dig fr bs (k + 1) = (abRoom fr bs k).set (k / 8) (putAt A (32 * (k % 8)) D)) := ⟨by rw [ab_next fr bs k hA, hxg.out, hD]⟩
        have hAx : Bx (A.length = 256) := ⟨hAl⟩
        have hYB : Bx (Y'.map (·.2) = abRoom fr bs k) := hY
        have hdb' : Bx (∀ x ∈ D, okByte x) := ⟨hdb⟩
        have hyB : Bx (Y'[k / 8]? = some (Value.slice (some ⟨ga, 0, none⟩) 256 ca, A)) := ⟨hy⟩
        obtain ⟨B, hB⟩ : ∃ B, putAt A (32 * (k % 8)) D = B := ⟨_, rfl⟩
        have HBx : Bx (A.take (0 + 32 * (k % 8)) ++ D.take 32 ++ A.drop (0 + 32 * (k % 8) + 32) = B) := ⟨by rw [← hB, putAt, Nat.zero_add, hdl.out, show D.take 32 = D from List.take_of_length_le (by rw [hdl.out]; omega)]⟩
        have hl2 : Bx (B.length = 256) := ⟨by rw [← hB, putAt_len (by rw [hdl.out, hAl]; omega)]; exact hAl⟩
        rw [hB] at hnext
        clear hS hS2 hS3 hA hAr hY hdb hAl hD hxg hxn hPl hB
        have hS := hS4
        clear hS4
        go_wp2_with (first | (refine load1 hS rfl rfl rfl rfl ?_; simp only [putW]) | (refine loadAll hS rfl rfl rfl ?_ ?_; rfl; simp only [putW]) | (refine loadPart hS rfl rfl rfl ?_ rfl ?_; rfl; simp only [putW]) | (refine store1 hS rfl rfl rfl rfl rfl ?_ ?_; (focus (simp; done)); clear hS; intro w hS; simp only [evW, putW] at hS; try simp only [putW]) | (refine storeAll hS rfl rfl rfl rfl ?_ ?_ ?_ ?_; rfl; (focus (simp [Value.oneCell']; done)); rfl; clear hS; intro w hS; try simp only [putW]) | (refine storeN hS rfl rfl rfl rfl ?_ ?_ ?_ ?_; rfl; (focus (simp [Value.oneCell']; done)); (focus (simp; done)); clear hS; intro w hS; simp at hS; try simp only [putW]) | (refine alloc hS rfl rfl ?_; clear hS; intro mb w hS; simp only [putW]) | (refine box1 hS rfl rfl rfl rfl ?_; clear hS; intro mb w hS; try simp only [evW, putW] at hS; simp only [putW]) | (refine boxN hS rfl rfl rfl ?_; clear hS; intro mb w hS; simp only [putW]))
        (refine region_upd ga (slc 1 by8 B ca 5) 10 hS (by kernel_rfl) (by kernel_rfl) (by kernel_rfl) (by kernel_rfl) ?_; clear hS; (repeat (first | (apply one_dep rfl; (focus (intro w hS; go_wp2_with (first | (refine loadS (f := rowF) hS rfl rfl rfl (k / 8) 0 ?_ hyB.out rfl ?_ ?_; omega; omega; simp only [putW]) | (refine sliceLo (b := ga) (off := 0) (i := 32 * (k % 8)) rfl rfl rfl rfl ?_ ?_ ?_ ?_; (focus omega); (focus omega); (focus omega); simp only [putW]) | (refine sliceArr rfl rfl Tryd.underlying26 rfl ?_; simp only [putW]) | (refine copyB (g := ga) hS rfl rfl rfl rfl D (hS.readsArrN 32 hdl.out hdb'.out (by simp [maxLen])) ?_ 32 ?_ ?_ ?_; (focus (simp [Value.oneCell']; done)); (focus (rw [hdl.out]; omega)); (focus (rw [hAx.out]; omega)); clear hS; intro w hS; rw [HBx.out] at hS; try simp only [putW]) | (refine load1 hS rfl rfl rfl rfl ?_; simp only [putW]) | (refine loadAll hS rfl rfl rfl ?_ ?_; rfl; simp only [putW]) | (refine loadPart hS rfl rfl rfl ?_ rfl ?_; rfl; simp only [putW])); exact ⟨rfl, rfl, hS⟩)); simp only [putW]) | (apply one_step rfl; (focus (intro w hS; go_wp2_with (first | (refine loadS (f := rowF) hS rfl rfl rfl (k / 8) 0 ?_ hyB.out rfl ?_ ?_; omega; omega; simp only [putW]) | (refine sliceLo (b := ga) (off := 0) (i := 32 * (k % 8)) rfl rfl rfl rfl ?_ ?_ ?_ ?_; (focus omega); (focus omega); (focus omega); simp only [putW]) | (refine sliceArr rfl rfl Tryd.underlying26 rfl ?_; simp only [putW]) | (refine copyB (g := ga) hS rfl rfl rfl rfl D (hS.readsArrN 32 hdl.out hdb'.out (by simp [maxLen])) ?_ 32 ?_ ?_ ?_; (focus (simp [Value.oneCell']; done)); (focus (rw [hdl.out]; omega)); (focus (rw [hAx.out]; omega)); clear hS; intro w hS; rw [HBx.out] at hS; try simp only [putW]) | (refine load1 hS rfl rfl rfl rfl ?_; simp only [putW]) | (refine loadAll hS rfl rfl rfl ?_ ?_; rfl; simp only [putW]) | (refine loadPart hS rfl rfl rfl ?_ rfl ?_; rfl; simp only [putW])); exact ⟨rfl, rfl, hS⟩)); (focus (intro w hS; go_wp2_with (first | (refine loadS (f := rowF) hS rfl rfl rfl (k / 8) 0 ?_ hyB.out rfl ?_ ?_; omega; omega; simp only [putW]) | (refine sliceLo (b := ga) (off := 0) (i := 32 * (k % 8)) rfl rfl rfl rfl ?_ ?_ ?_ ?_; (focus omega); (focus omega); (focus omega); simp only [putW]) | (refine sliceArr rfl rfl Tryd.underlying26 rfl ?_; simp only [putW]) | (refine copyB (g := ga) hS rfl rfl rfl rfl D (hS.readsArrN 32 hdl.out hdb'.out (by simp [maxLen])) ?_ 32 ?_ ?_ ?_; (focus (simp [Value.oneCell']; done)); (focus (rw [hdl.out]; omega)); (focus (rw [hAx.out]; omega)); clear hS; intro w hS; rw [HBx.out] at hS; try simp only [putW]) | (refine load1 hS rfl rfl rfl rfl ?_; simp only [putW]) | (refine loadAll hS rfl rfl rfl ?_ ?_; rfl; simp only [putW]) | (refine loadPart hS rfl rfl rfl ?_ rfl ?_; rfl; simp only [putW])); exact ⟨rfl, rfl, hS⟩)); simp only [putW]) | (refine one_here rfl (v := goInt (32 : Nat)) ?_ ?_; (focus (intro w hS; go_wp2_with (first | (refine loadS (f := rowF) hS rfl rfl rfl (k / 8) 0 ?_ hyB.out rfl ?_ ?_; omega; omega; simp only [putW]) | (refine sliceLo (b := ga) (off := 0) (i := 32 * (k % 8)) rfl rfl rfl rfl ?_ ?_ ?_ ?_; (focus omega); (focus omega); (focus omega); simp only [putW]) | (refine sliceArr rfl rfl Tryd.underlying26 rfl ?_; simp only [putW]) | (refine copyB (g := ga) hS rfl rfl rfl rfl D (hS.readsArrN 32 hdl.out hdb'.out (by simp [maxLen])) ?_ 32 ?_ ?_ ?_; (focus (simp [Value.oneCell']; done)); (focus (rw [hdl.out]; omega)); (focus (rw [hAx.out]; omega)); clear hS; intro w hS; rw [HBx.out] at hS; try simp only [putW]) | (refine load1 hS rfl rfl rfl rfl ?_; simp only [putW]) | (refine loadAll hS rfl rfl rfl ?_ ?_; rfl; simp only [putW]) | (refine loadPart hS rfl rfl rfl ?_ rfl ?_; rfl; simp only [putW]) | (refine store1 hS rfl rfl rfl rfl rfl ?_ ?_; (focus (simp; done)); clear hS; intro w hS; simp only [evW, putW] at hS; try simp only [putW]) | (refine storeAll hS rfl rfl rfl rfl ?_ ?_ ?_ ?_; rfl; (focus (simp [Value.oneCell']; done)); rfl; clear hS; intro w hS; try simp only [putW]) | (refine storeN hS rfl rfl rfl rfl ?_ ?_ ?_ ?_; rfl; (focus (simp [Value.oneCell']; done)); (focus (simp; done)); clear hS; intro w hS; simp at hS; try simp only [putW]) | (refine alloc hS rfl rfl ?_; clear hS; intro mb w hS; simp only [putW]) | (refine box1 hS rfl rfl rfl rfl ?_; clear hS; intro mb w hS; try simp only [evW, putW] at hS; simp only [putW]) | (refine boxN hS rfl rfl rfl ?_; clear hS; intro mb w hS; simp only [putW])); (first | exact ⟨rfl, rfl, hS⟩ | exact ⟨rfl, rfl, hS.conv⟩))); simp only [putW]))); refine one_nil ?_; intro w hS)
        replace hS := hS.slOfSlc
        rw [hl2.out] at hS
        replace hS := (hS.rowBack (v := Value.slice (some ⟨ga, 0, none⟩) 256 ca) (B := B) (j := 0) rfl hyB.out)
        go_wp2_with (first | (refine load1 hS rfl rfl rfl rfl ?_; simp only [putW]) | (refine loadAll hS rfl rfl rfl ?_ ?_; rfl; simp only [putW]) | (refine loadPart hS rfl rfl rfl ?_ rfl ?_; rfl; simp only [putW]) | (refine store1 hS rfl rfl rfl rfl rfl ?_ ?_; (focus (simp; done)); clear hS; intro w hS; simp only [evW, putW] at hS; try simp only [putW]) | (refine storeAll hS rfl rfl rfl rfl ?_ ?_ ?_ ?_; rfl; (focus (simp [Value.oneCell']; done)); rfl; clear hS; intro w hS; try simp only [putW]) | (refine storeN hS rfl rfl rfl rfl ?_ ?_ ?_ ?_; rfl; (focus (simp [Value.oneCell']; done)); (focus (simp; done)); clear hS; intro w hS; simp at hS; try simp only [putW]) | (refine alloc hS rfl rfl ?_; clear hS; intro mb w hS; simp only [putW]) | (refine box1 hS rfl rfl rfl rfl ?_; clear hS; intro mb w hS; try simp only [evW, putW] at hS; simp only [putW]) | (refine boxN hS rfl rfl rfl ?_; clear hS; intro mb w hS; simp only [putW]))
        go_roundw
        case rel =>
          refine ⟨k + 1, Y'.set (k / 8) (Value.slice (some ⟨ga, 0, none⟩) 256 ca, B), by omega, by go_num, ⟨by rw [hnext.out, List.map_set, hYB.out]⟩, ?_⟩
          have h1 := (hS.pull gv).turn (Y := slc 1 rowF (Y'.set (k / 8) (Value.slice (some ⟨ga, 0, none⟩) 256 ca, B)) cv 48) (b' := gv) (slcSetSame hyB.out)
          have h2 := h1.slOfSlc
          rw [List.length_set] at h2
          exact h2.conv
        case measure => simp [intOf]; omega
    · have hkx : k = X.length := by omega
      subst hkx
      go_wp2_with (first | (refine load1 hS rfl rfl rfl rfl ?_; simp only [putW]) | (refine loadAll hS rfl rfl rfl ?_ ?_; rfl; simp only [putW]) | (refine loadPart hS rfl rfl rfl ?_ rfl ?_; rfl; simp only [putW]) | (refine store1 hS rfl rfl rfl rfl rfl ?_ ?_; (focus (simp; done)); clear hS; intro w hS; simp only [evW, putW] at hS; try simp only [putW]) | (refine storeAll hS rfl rfl rfl rfl ?_ ?_ ?_ ?_; rfl; (focus (simp [Value.oneCell']; done)); rfl; clear hS; intro w hS; try simp only [putW]) | (refine storeN hS rfl rfl rfl rfl ?_ ?_ ?_ ?_; rfl; (focus (simp [Value.oneCell']; done)); (focus (simp; done)); clear hS; intro w hS; simp at hS; try simp only [putW]) | (refine alloc hS rfl rfl ?_; clear hS; intro mb w hS; simp only [putW]) | (refine box1 hS rfl rfl rfl rfl ?_; clear hS; intro mb w hS; try simp only [evW, putW] at hS; simp only [putW]) | (refine boxN hS rfl rfl rfl ?_; clear hS; intro mb w hS; simp only [putW]))
      go_ret
      exact ⟨_, Y, rfl, hY.out, hS⟩
end
end Go.Proofs.YtdkimdobcacpfaaDoor
