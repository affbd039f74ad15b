/-
  tree.Kid, thimbleref18.Kid, Fault.
-/
import Derived.Test.YtmhnnppcihoofaaDoorTrAb
import Derived.Test.YtmhnnppcihoofaaDoorTrAwake
set_option linter.unusedSimpArgs false
set_option linter.unusedVariables false
namespace Go.Proofs.YtmhnnppcihoofaaDoor
open Go.RowKit Go.Proofs.YtmhnnppcihoofaaDoor.Sl Go.Proofs.YtmhnnppcihoofaaDoor.Sha Go.Proofs.YtmhnnppcihoofaaDoor.Jp Go.Proofs.YtmhnnppcihoofaaDoor.Tr

def fitsE (n : Nat) (i : Int) : Int := if n ≠ 256 then 3 else if i < 0 ∨ 8 ≤ i then 1 else 0
def kidF (A : List Int) (i : Nat) : List Int := (A.drop (32 * i)).take 32
theorem kid_len {A : List Int} {i : Nat} (hA : A.length = 256) (hi : i < 8) : (kidF A i).length = 32 := by unfold kidF; simp; omega
theorem kid_byte {A : List Int} {i : Nat} (hA : ∀ x ∈ A, okByte x) : ∀ x ∈ kidF A i, okByte x := fun x hx => hA x (List.mem_of_mem_drop (List.mem_of_mem_take hx))
section
variable {P : Program} {ops : Array Oper} {rest : List Oper} {o : Oper} {a : Act} {Q : Exit → Act → World → Prop} {w : World} {t : TypeId} {x : Operand} {z : Array Value} {zv : Value} {b c0 off m : Nat}
/-- An array is read out of bytes that stand anywhere. -/
theorem loadBArr {A D : List Int} (hB : BAt w 1 by8 okByte A b c0) (hw : Region.wanted o (yielded ops a.tmps) = true) (ho : o.op = .load t x) (hx : a.eval x = .pointer (some ⟨b, off, none⟩))
    [ty : Ty P t true m zv z] (i : Nat) (hoff : off = c0 + i) (hD : (A.drop i).take m = D) (hl : D.length = m)
    (k : wpList P ops Q rest (a.put o.dst (.agg (D.map u8v).toArray)) w) : wpList P ops Q (o :: rest) a w := by
  refine wp_value hw ?_ k
  have h1 : (loadVar t ⟨b, off, none⟩).run P w = .ok (.agg (D.map u8v).toArray) w := run_loadN (l := D.map u8v) (by simpa using hl) (fun j v hv => by
    rw [List.getElem?_map] at hv
    obtain ⟨y, hy, rfl⟩ := Option.map_eq_some_iff.1 hv
    have hj : j < m := by have := (List.getElem?_eq_some_iff.1 hy).1; omega
    rw [← hD, List.getElem?_take, if_pos hj, List.getElem?_drop] at hy
    have h2 := (hB.2 (i + j) y hy).2.2 0 (u8v y) rfl
    rw [hoff]
    simpa [Nat.add_assoc] using h2)
  simp [execOp, ho, hx, Instr.loadAt, Instr.sureAddr, h1]
end
section
variable {w0 w : World} {A : List Int} {va : Value}
set_option maxHeartbeats 1000000 in
theorem fits_any (hA : RB w0 A va) (hl : A.length ≤ 9223372036854775807) (i : Int) : Calls Tryd.prog 11 #[va, .int .i64 i] w0 fun e w' => e = .returned (.int .i64 (fitsE A.length i)) ∧ Sat w0 [] w' := by
  have hS := Sat.refl w0
  obtain ⟨a, c, rfl, -, -⟩ := hA.at
  obtain ⟨n, hn⟩ : ∃ n, A.length = n := ⟨_, rfl⟩
  rw [hn] at hl ⊢
  clear hA hn
  by_cases h1 : n = 256
  · subst h1
    by_cases h2 : i < 0
    · have e : fitsE 256 i = 1 := by rw [fitsE, if_neg (by omega), if_pos (.inl h2)]
      have E : Bx _ := ⟨e⟩
      clear e
      go_enter Tryd.func11, Tryd.ntmps11
      go_wp2_with (first | (refine load1 hS rfl rfl rfl rfl ?_; simp only [putW]) | (refine loadAll hS rfl rfl rfl ?_ ?_; rfl; simp only [putW]) | (refine loadPart hS rfl rfl rfl ?_ rfl ?_; rfl; simp only [putW]) | (refine store1 hS rfl rfl rfl rfl rfl ?_ ?_; (focus (simp; done)); clear hS; intro w hS; simp only [evW, putW] at hS; try simp only [putW]) | (refine storeAll hS rfl rfl rfl rfl ?_ ?_ ?_ ?_; rfl; (focus (simp [Value.oneCell']; done)); rfl; clear hS; intro w hS; try simp only [putW]) | (refine storeN hS rfl rfl rfl rfl ?_ ?_ ?_ ?_; rfl; (focus (simp [Value.oneCell']; done)); (focus (simp; done)); clear hS; intro w hS; simp at hS; try simp only [putW]) | (refine alloc hS rfl rfl ?_; clear hS; intro mb w hS; simp only [putW]) | (refine box1 hS rfl rfl rfl rfl ?_; clear hS; intro mb w hS; try simp only [evW, putW] at hS; simp only [putW]) | (refine boxN hS rfl rfl rfl ?_; clear hS; intro mb w hS; simp only [putW]))
      go_ret
      exact ⟨by rw [E.out]; rfl, hS⟩
    · by_cases h3 : 8 ≤ i
      · have e : fitsE 256 i = 1 := by rw [fitsE, if_neg (by omega), if_pos (.inr h3)]
        have E : Bx _ := ⟨e⟩
        clear e
        go_enter Tryd.func11, Tryd.ntmps11
        go_wp2_with (first | (refine load1 hS rfl rfl rfl rfl ?_; simp only [putW]) | (refine loadAll hS rfl rfl rfl ?_ ?_; rfl; simp only [putW]) | (refine loadPart hS rfl rfl rfl ?_ rfl ?_; rfl; simp only [putW]) | (refine store1 hS rfl rfl rfl rfl rfl ?_ ?_; (focus (simp; done)); clear hS; intro w hS; simp only [evW, putW] at hS; try simp only [putW]) | (refine storeAll hS rfl rfl rfl rfl ?_ ?_ ?_ ?_; rfl; (focus (simp [Value.oneCell']; done)); rfl; clear hS; intro w hS; try simp only [putW]) | (refine storeN hS rfl rfl rfl rfl ?_ ?_ ?_ ?_; rfl; (focus (simp [Value.oneCell']; done)); (focus (simp; done)); clear hS; intro w hS; simp at hS; try simp only [putW]) | (refine alloc hS rfl rfl ?_; clear hS; intro mb w hS; simp only [putW]) | (refine box1 hS rfl rfl rfl rfl ?_; clear hS; intro mb w hS; try simp only [evW, putW] at hS; simp only [putW]) | (refine boxN hS rfl rfl rfl ?_; clear hS; intro mb w hS; simp only [putW]))
        go_ret
        exact ⟨by rw [E.out]; rfl, hS⟩
      · have e : fitsE 256 i = 0 := by rw [fitsE, if_neg (by omega), if_neg (by omega)]
        have E : Bx _ := ⟨e⟩
        clear e
        go_enter Tryd.func11, Tryd.ntmps11
        go_wp2_with (first | (refine load1 hS rfl rfl rfl rfl ?_; simp only [putW]) | (refine loadAll hS rfl rfl rfl ?_ ?_; rfl; simp only [putW]) | (refine loadPart hS rfl rfl rfl ?_ rfl ?_; rfl; simp only [putW]) | (refine store1 hS rfl rfl rfl rfl rfl ?_ ?_; (focus (simp; done)); clear hS; intro w hS; simp only [evW, putW] at hS; try simp only [putW]) | (refine storeAll hS rfl rfl rfl rfl ?_ ?_ ?_ ?_; rfl; (focus (simp [Value.oneCell']; done)); rfl; clear hS; intro w hS; try simp only [putW]) | (refine storeN hS rfl rfl rfl rfl ?_ ?_ ?_ ?_; rfl; (focus (simp [Value.oneCell']; done)); (focus (simp; done)); clear hS; intro w hS; simp at hS; try simp only [putW]) | (refine alloc hS rfl rfl ?_; clear hS; intro mb w hS; simp only [putW]) | (refine box1 hS rfl rfl rfl rfl ?_; clear hS; intro mb w hS; try simp only [evW, putW] at hS; simp only [putW]) | (refine boxN hS rfl rfl rfl ?_; clear hS; intro mb w hS; simp only [putW]))
        go_ret
        exact ⟨by rw [E.out]; rfl, hS⟩
  · have e : fitsE n i = 3 := by rw [fitsE, if_pos h1]
    have E : Bx _ := ⟨e⟩
    clear e
    have h1' : (n : Int) ≠ 256 := by omega
    go_enter Tryd.func11, Tryd.ntmps11
    go_wp2_with (first | (refine load1 hS rfl rfl rfl rfl ?_; simp only [putW]) | (refine loadAll hS rfl rfl rfl ?_ ?_; rfl; simp only [putW]) | (refine loadPart hS rfl rfl rfl ?_ rfl ?_; rfl; simp only [putW]) | (refine store1 hS rfl rfl rfl rfl rfl ?_ ?_; (focus (simp; done)); clear hS; intro w hS; simp only [evW, putW] at hS; try simp only [putW]) | (refine storeAll hS rfl rfl rfl rfl ?_ ?_ ?_ ?_; rfl; (focus (simp [Value.oneCell']; done)); rfl; clear hS; intro w hS; try simp only [putW]) | (refine storeN hS rfl rfl rfl rfl ?_ ?_ ?_ ?_; rfl; (focus (simp [Value.oneCell']; done)); (focus (simp; done)); clear hS; intro w hS; simp at hS; try simp only [putW]) | (refine alloc hS rfl rfl ?_; clear hS; intro mb w hS; simp only [putW]) | (refine box1 hS rfl rfl rfl rfl ?_; clear hS; intro mb w hS; try simp only [evW, putW] at hS; simp only [putW]) | (refine boxN hS rfl rfl rfl ?_; clear hS; intro mb w hS; simp only [putW]))
    go_ret
    exact ⟨by rw [E.out]; rfl, hS⟩
set_option maxRecDepth 100000 in
set_option maxHeartbeats 1000000 in
theorem kid_any {i : Nat} {ii : Int} {D : List Int} (hii : ii = (i : Int)) (hA : RB w0 A va) (hl : A.length = 256) (hi : i < 8) (hD : kidF A i = D) :
    Calls Tryd.prog 6 #[va, .int .i64 ii] w0 fun e w' => e = .returned (.tuple #[.agg (D.map u8v).toArray, .int .i64 0]) ∧ Sat w0 [] w' := by
  have hS := Sat.refl w0
  subst hii
  have hdl : Bx (D.length = 32) := ⟨by rw [← hD]; exact kid_len hl hi⟩
  have HD : Bx ((A.drop (32 * i)).take 32 = D) := ⟨hD⟩
  have hf : Bx (fitsE A.length (i : Int) = 0) := ⟨by rw [hl, fitsE, if_neg (by omega), if_neg (by omega)]⟩
  obtain ⟨a, c, rfl, -, hat⟩ := hA.at
  have HA : Bx _ := ⟨hA⟩
  obtain ⟨bb, ob, rfl, hB⟩ := hat (by intro e; subst e; cases hl)
  have hcap := BSl_cap hA (by intro e; subst e; cases hl)
  have hcap1 := hcap.1
  have hal : A.length ≤ 9223372036854775807 := by omega
  have hfc : ∀ w, Sat w0 [] w → Calls Tryd.prog 11 #[.slice (some ⟨bb, ob, none⟩) A.length c, .int .i64 (i : Int)] w fun e w' => e = .returned (.int .i64 0) ∧ Sat w [] w' := fun w h => (fits_any (HA.out.mono h.base) hal (i : Int)).mono fun e w' h2 => ⟨by rw [h2.1, hf.out], h2.2⟩
  rw [hl] at hfc hcap1 ⊢
  clear hD hA hat hcap
  go_enter Tryd.func6, Tryd.ntmps6
  go_wp2_with (first | (refine allocA (t := 23) (vv := u8v) hS rfl rfl (List.replicate 32 0) zeros32 ?_; clear hS; intro mo w hS; simp only [putW]) | (go_at_call 11; refine Calls.mono (hfc _ hS.nothing) ?_; rintro _ w2 ⟨rfl, h2⟩; replace hS := hS.frame h2; clear h2; (try simp only [List.cons_append, List.nil_append] at hS); simp only [putW]) | (refine sliceLo (i := 32 * i) rfl rfl rfl rfl ?_ ?_ ?_ ?_; (focus omega); (focus omega); (focus omega); simp only [putW]) | (refine arrayPtr rfl rfl Tryd.underlying23 rfl ?_ ?_; (focus omega); simp only [putW]) | (refine loadBArr (hB.mono hS.base fun _ _ h => h) rfl rfl rfl (32 * i) ?_ HD.out hdl.out ?_; (focus omega); simp only [putW]) | (refine storeAllA (vv := u8v) hS rfl rfl rfl D rfl hdl.out (fun _ _ => rfl) (by simp) ?_; clear hS; intro w hS; try simp only [putW]) | (refine load1 hS rfl rfl rfl rfl ?_; simp only [putW]) | (refine loadAll hS rfl rfl rfl ?_ ?_; rfl; simp only [putW]) | (refine loadPart hS rfl rfl rfl ?_ rfl ?_; rfl; simp only [putW]) | (refine store1 hS rfl rfl rfl rfl rfl ?_ ?_; (focus (simp; done)); clear hS; intro w hS; simp only [evW, putW] at hS; try simp only [putW]) | (refine storeAll hS rfl rfl rfl rfl ?_ ?_ ?_ ?_; rfl; (focus (simp [Value.oneCell']; done)); rfl; clear hS; intro w hS; try simp only [putW]) | (refine storeN hS rfl rfl rfl rfl ?_ ?_ ?_ ?_; rfl; (focus (simp [Value.oneCell']; done)); (focus (simp; done)); clear hS; intro w hS; simp at hS; try simp only [putW]) | (refine alloc hS rfl rfl ?_; clear hS; intro mb w hS; simp only [putW]) | (refine box1 hS rfl rfl rfl rfl ?_; clear hS; intro mb w hS; try simp only [evW, putW] at hS; simp only [putW]) | (refine boxN hS rfl rfl rfl ?_; clear hS; intro mb w hS; simp only [putW]))
  have hr := run_loadAll (P := Tryd.prog) hS mo 23 (by simpa using hdl.out)
  refine bodyPost_ret (v := .tuple #[.agg (D.map u8v).toArray, .int .i64 0]) (by simp [results, Tryd.results6, asAddr, hr]) rfl ⟨rfl, hS.nothing⟩
theorem kid_set {D : List Int} {k : Nat} {x : Int} (hl : D.length = 32) (hx : D[k]? = some x) : (D.take k ++ List.replicate (32 - k) 0).set k x = D.take (k + 1) ++ List.replicate (32 - (k + 1)) 0 := by
  obtain ⟨hk, -⟩ := List.getElem?_eq_some_iff.1 hx
  have e1 : (D.take k).length = k := by simp; omega
  rw [List.set_append_right _ _ (by omega), e1, Nat.sub_self, List.take_add_one, hx, show 32 - k = (32 - (k + 1)) + 1 by omega, List.replicate_succ]
  simp
set_option maxRecDepth 100000 in
set_option maxHeartbeats 1000000 in
theorem refKid_any {i : Nat} {ii : Int} {D : List Int} (hii : ii = (i : Int)) (hA : RB w0 A va) (hl : A.length = 256) (hi : i < 8) (hD : kidF A i = D) :
    Calls Tryd.prog 10 #[va, .int .i64 ii] w0 fun e w' => e = .returned (.agg (D.map u8v).toArray) ∧ Sat w0 [] w' := by
  have hS := Sat.refl w0
  subst hii
  have hdl : Bx (D.length = 32) := ⟨by rw [← hD]; exact kid_len hl hi⟩
  have HD : Bx ((A.drop (32 * i)).take 32 = D) := ⟨hD⟩
  obtain ⟨a, c, rfl, -, hat⟩ := hA.at
  obtain ⟨bb, ob, rfl, hB⟩ := hat (by intro e; subst e; cases hl)
  have Hl : Bx _ := ⟨hl⟩
  rw [hl]
  clear hD hA hat hl
  go_enter Tryd.func10, Tryd.ntmps10
  have tok : True := trivial
  go_wp2_with (first | (have _t := tok; refine allocA (t := 23) (vv := u8v) hS rfl rfl (List.replicate 32 0) zeros32 ?_; clear hS tok; intro mo w hS; simp only [putW]) | (refine allocA (t := 23) (vv := u8v) hS rfl rfl (List.replicate 32 0) zeros32 ?_; clear hS; intro md w hS; simp only [putW]) | (refine load1 hS rfl rfl rfl rfl ?_; simp only [putW]) | (refine loadAll hS rfl rfl rfl ?_ ?_; rfl; simp only [putW]) | (refine loadPart hS rfl rfl rfl ?_ rfl ?_; rfl; simp only [putW]) | (refine store1 hS rfl rfl rfl rfl rfl ?_ ?_; (focus (simp; done)); clear hS; intro w hS; simp only [evW, putW] at hS; try simp only [putW]) | (refine storeAll hS rfl rfl rfl rfl ?_ ?_ ?_ ?_; rfl; (focus (simp [Value.oneCell']; done)); rfl; clear hS; intro w hS; try simp only [putW]) | (refine storeN hS rfl rfl rfl rfl ?_ ?_ ?_ ?_; rfl; (focus (simp [Value.oneCell']; done)); (focus (simp; done)); clear hS; intro w hS; simp at hS; try simp only [putW]) | (refine alloc hS rfl rfl ?_; clear hS; intro mb w hS; simp only [putW]) | (refine box1 hS rfl rfl rfl rfl ?_; clear hS; intro mb w hS; try simp only [evW, putW] at hS; simp only [putW]) | (refine boxN hS rfl rfl rfl ?_; clear hS; intro mb w hS; simp only [putW]))
  go_loopw [6] (fun k' wr => ∃ k : Nat, k ≤ 32 ∧ k' = .int .i64 k ∧ Sat w0 ((md, cells ((D.take k ++ List.replicate (32 - k) 0).map u8v).toArray 23) :: (mo, cells ((List.replicate 32 (0 : Int)).map u8v).toArray 23) :: []) wr) (fun k' _ => 32 - (intOf k').toNat)
  case atStart => exact ⟨0, Nat.zero_le _, rfl, hS⟩
  case round =>
    clear hS
    obtain ⟨k, hk, rfl, hS⟩ := hrel
    by_cases hlt : k < 32
    · obtain ⟨x, hx⟩ : ∃ x, D[k]? = some x := ⟨_, List.getElem?_eq_getElem (by rw [hdl.out]; exact hlt)⟩
      have hax : A[32 * i + k]? = some x := by rw [← HD.out, List.getElem?_take, if_pos hlt, List.getElem?_drop] at hx; exact hx
      have hset := kid_set hdl.out hx
      obtain ⟨E, hE⟩ : ∃ E, D.take k ++ List.replicate (32 - k) 0 = E := ⟨_, rfl⟩
      obtain ⟨E2, hE2⟩ : ∃ E, D.take (k + 1) ++ List.replicate (32 - (k + 1)) 0 = E := ⟨_, rfl⟩
      rw [hE, hE2] at hset
      rw [hE] at hS
      have HE2 : Bx _ := ⟨hE2⟩
      have Hset : Bx _ := ⟨hset⟩
      have HEl : Bx (E.length = 32) := ⟨by rw [← hE]; simp; rw [hdl.out]; omega⟩
      clear hE hE2 hset hx
      go_wp2_with (first | (refine loadB (f := by8) hS rfl rfl rfl hB (32 * i + k) 0 ?_ hax rfl ?_; omega; simp only [putW]) | (refine storeAi (vv := u8v) hS rfl rfl rfl (k) (x) ?_ rfl ?_ ?_ ?_; (focus (rfl)); (focus (first | omega | rfl)); (focus ((rw [HEl.out]; exact hlt))); clear hS; intro w hS; try simp only [putW]) | (refine load1 hS rfl rfl rfl rfl ?_; simp only [putW]) | (refine loadAll hS rfl rfl rfl ?_ ?_; rfl; simp only [putW]) | (refine loadPart hS rfl rfl rfl ?_ rfl ?_; rfl; simp only [putW]) | (refine store1 hS rfl rfl rfl rfl rfl ?_ ?_; (focus (simp; done)); clear hS; intro w hS; simp only [evW, putW] at hS; try simp only [putW]) | (refine storeAll hS rfl rfl rfl rfl ?_ ?_ ?_ ?_; rfl; (focus (simp [Value.oneCell']; done)); rfl; clear hS; intro w hS; try simp only [putW]) | (refine storeN hS rfl rfl rfl rfl ?_ ?_ ?_ ?_; rfl; (focus (simp [Value.oneCell']; done)); (focus (simp; done)); clear hS; intro w hS; simp at hS; try simp only [putW]) | (refine alloc hS rfl rfl ?_; clear hS; intro mb w hS; simp only [putW]) | (refine box1 hS rfl rfl rfl rfl ?_; clear hS; intro mb w hS; try simp only [evW, putW] at hS; simp only [putW]) | (refine boxN hS rfl rfl rfl ?_; clear hS; intro mb w hS; simp only [putW]))
      go_roundw
      case rel =>
        refine ⟨k + 1, by omega, by go_num, ?_⟩
        rw [HE2.out, ← Hset.out]
        exact hS.conv
      case measure => simp [intOf]; omega
    · have hk32 : k = 32 := by omega
      subst hk32
      have hD32 : D.take 32 ++ List.replicate (32 - 32) 0 = D := by rw [List.take_of_length_le (by rw [hdl.out]; omega)]; simp
      rw [hD32] at hS
      clear hD32
      go_wp2_with (first | (refine loadAllA (l := D) (vv := u8v) hS rfl rfl rfl hdl.out ?_; simp only [putW]) | (refine storeAllA (vv := u8v) hS rfl rfl rfl D rfl hdl.out (fun _ _ => rfl) (by simp) ?_; clear hS; intro w hS; try simp only [putW]) | (refine load1 hS rfl rfl rfl rfl ?_; simp only [putW]) | (refine loadAll hS rfl rfl rfl ?_ ?_; rfl; simp only [putW]) | (refine loadPart hS rfl rfl rfl ?_ rfl ?_; rfl; simp only [putW]) | (refine store1 hS rfl rfl rfl rfl rfl ?_ ?_; (focus (simp; done)); clear hS; intro w hS; simp only [evW, putW] at hS; try simp only [putW]) | (refine storeAll hS rfl rfl rfl rfl ?_ ?_ ?_ ?_; rfl; (focus (simp [Value.oneCell']; done)); rfl; clear hS; intro w hS; try simp only [putW]) | (refine storeN hS rfl rfl rfl rfl ?_ ?_ ?_ ?_; rfl; (focus (simp [Value.oneCell']; done)); (focus (simp; done)); clear hS; intro w hS; simp at hS; try simp only [putW]) | (refine alloc hS rfl rfl ?_; clear hS; intro mb w hS; simp only [putW]) | (refine box1 hS rfl rfl rfl rfl ?_; clear hS; intro mb w hS; try simp only [evW, putW] at hS; simp only [putW]) | (refine boxN hS rfl rfl rfl ?_; clear hS; intro mb w hS; simp only [putW]))
      have hr := run_loadAll (P := Tryd.prog) hS mo 23 (by simpa using hdl.out)
      refine bodyPost_ret (v := .agg (D.map u8v).toArray) (by simp [results, Tryd.results10, asAddr, hr]) rfl ⟨rfl, hS.nothing⟩
end
end Go.Proofs.YtmhnnppcihoofaaDoor
