/-
  An act of a script for the log: in memory, as it comes in; what is too great.
-/
import Derived.Test.YteoidocicjlglaaDoorGhSame2
import Derived.Test.YteoidocicjlglaaDoorSlDecA
import Derived.Test.YteoidocicjlglaaDoorSpPick
set_option linter.unusedSimpArgs false
set_option linter.unusedVariables false
namespace Go.Proofs.YteoidocicjlglaaDoor
open Go.RowKit Go.Proofs.YteoidocicjlglaaDoor.Sl Go.Proofs.YteoidocicjlglaaDoor.Sha Go.Proofs.YteoidocicjlglaaDoor.Jp

/-- An act: its kind, its data, a digest, a tuple. -/
abbrev ActV := Int × (Value × List Int) × List Int × TupV
def actF (a : ActV) : List Value := .int .i64 a.1 :: a.2.1.1 :: (a.2.2.1.map u8v ++ tupF a.2.2.2)
/-- What is right with an act that came in. -/
structure ActIn (w : World) (a : ActV) : Prop where
  dat : RB w a.2.1.2 a.2.1.1
  dig : a.2.2.1.length = 32
  digb : ∀ b ∈ a.2.2.1, okByte b
  ep : 0 ≤ a.2.2.2.2.2.1 ∧ a.2.2.2.2.2.1 < 4294967296
  non : a.2.2.2.2.2.2.1.length = 12
  nonb : ∀ b ∈ a.2.2.2.2.2.2.1, okByte b
  aad : RB w a.2.2.2.2.2.2.2.1 a.2.2.2.1
  sea : RB w a.2.2.2.2.2.2.2.2 a.2.2.2.2.1
/-- What can be read of it. -/
structure ActIs (a : ActV) (c : List Value) : Prop where
  len : c.length = 49
  kin : c[0]? = some (.int .i64 a.1)
  dat : c[1]? = some a.2.1.1
  dig : (c.drop 2).take 32 = a.2.2.1.map u8v
  tup : (c.drop 34).take 15 = tupF a.2.2.2
  aad : c[47]? = some a.2.2.2.1
  sea : c[48]? = some a.2.2.2.2.1
theorem actIs {a : ActV} (h1 : a.2.2.1.length = 32) (h2 : a.2.2.2.2.2.2.1.length = 12) : ActIs a (actF a) := by
  have hd : (actF a).drop 34 = tupF a.2.2.2 := by
    show ((_ :: _ :: (a.2.2.1.map u8v ++ tupF a.2.2.2)) : List Value).drop 34 = _
    rw [List.drop_succ_cons, List.drop_succ_cons]
    exact List.drop_left' (by rw [List.length_map, h1])
  have hg : ∀ i v, (tupF a.2.2.2)[i]? = some v → (actF a)[34 + i]? = some v := fun i v h => by
    rw [← List.getElem?_drop, hd]; exact h
  have hT := tupIn h2
  refine ⟨?_, rfl, rfl, ?_, ?_, hg 13 _ hT.aad, hg 14 _ hT.sea⟩
  · simp [actF, h1, tupF_len h2]
  · show (a.2.2.1.map u8v ++ tupF a.2.2.2).take 32 = _
    exact List.take_left' (by rw [List.length_map, h1])
  · rw [hd]
    exact List.take_of_length_le (by rw [tupF_len h2]; exact Nat.le_refl _)
theorem ActIn.is {w : World} {a : ActV} (h : ActIn w a) : ActIs a (actF a) := actIs h.dig h.non
theorem ActIn.mono {w w' : World} {a : ActV} (h : ActIn w a) (hb : Below w.heap.size w w') : ActIn w' a := ⟨h.dat.mono hb, h.dig, h.digb, h.ep, h.non, h.nonb, h.aad.mono hb, h.sea.mono hb⟩
theorem ActIn.cell {w : World} {a : ActV} (h : ActIn w a) : ∀ u ∈ actF a, u.oneCell' = true := fun u hu => by
  obtain ⟨p0, d0, e0, -, -⟩ := h.dat.at
  obtain ⟨p1, d1, e1, -, -⟩ := h.aad.at
  obtain ⟨p2, d2, e2, -, -⟩ := h.sea.at
  unfold actF at hu
  rcases List.mem_cons.1 hu with rfl | hu
  · rfl
  rcases List.mem_cons.1 hu with rfl | hu
  · rw [e0]; rfl
  rcases List.mem_append.1 hu with hu | hu
  · obtain ⟨y, _, rfl⟩ := List.mem_map.1 hu
    rfl
  · exact tupF_cell (by rw [e1]; rfl) (by rw [e2]; rfl) u hu
/-- A script. -/
abbrev RA (w : World) (L : List ActV) (v : Value) : Prop := BSl w 49 actF (ActIn w) L v
theorem RA.mono {w w' : World} {L : List ActV} {v : Value} (h : RA w L v) (hb : Below w.heap.size w w') : RA w' L v := BSl.mono h hb fun _ _ h => h.mono hb
theorem okSplit {w : World} : ∀ {k1 k2 : List Sc} {us : List Value}, OkL w (k1 ++ k2) us → OkL w k1 (us.take k1.length) ∧ OkL w k2 (us.drop k1.length)
  | [], _, _, h => ⟨trivial, h⟩
  | k :: k1, k2, us, h => by
    match us, h with
    | u :: us, ⟨h1, h2⟩ =>
      obtain ⟨h3, h4⟩ := okSplit (k1 := k1) h2
      exact ⟨⟨h1, h3⟩, h4⟩
theorem decTup {w : World} {us : List Value} (h : OkL w (.int .u32 :: (List.replicate 12 (.int .u8) ++ [.sl [.int .u8], .sl [.int .u8]])) us) : ∃ x : TupV, tupF x = us ∧ (0 ≤ x.2.2.1 ∧ x.2.2.1 < 4294967296) ∧ x.2.2.2.1.length = 12 ∧ (∀ b ∈ x.2.2.2.1, okByte b) ∧ RB w x.2.2.2.2.1 x.1 ∧ RB w x.2.2.2.2.2 x.2.1 := by
  match us, h with
  | u :: us, ⟨h1, h2⟩ =>
    obtain ⟨e, rfl, hwf⟩ := decInt (v := u) ⟨h1, trivial⟩
    have hl := h2.len
    have h3 : OkL w (List.replicate 12 (.int .u8)) (us.take 12) ∧ OkL w [.sl [.int .u8], .sl [.int .u8]] (us.drop 12) := by
      have := okSplit (us := us) (k1 := List.replicate 12 (.int .u8)) (k2 := [.sl [.int .u8], .sl [.int .u8]]) h2
      simpa using this
    obtain ⟨n, hn, hnl, hnb⟩ := decArr 12 h3.1
    match hd : us.drop 12, h3.2 with
    | [a, b], ⟨ha, hb, _⟩ =>
      obtain ⟨A, hA⟩ := decBytes (v := a) ⟨ha, trivial⟩
      obtain ⟨B, hB⟩ := decBytes (v := b) ⟨hb, trivial⟩
      refine ⟨(a, b, e, n, A, B), ?_, ?_, hnl, hnb, hA, hB⟩
      · show .int .u32 e :: (n.map u8v ++ [a, b]) = _
        rw [← hn, ← hd, List.take_append_drop]
      · simp [Lit.wf, IntKind.min, IntKind.max, IntKind.bits, IntKind.signed] at hwf; exact ⟨hwf.1, by show e < 4294967296; omega⟩
theorem decAct {w : World} {us : List Value} (h : OkL w (.int .i64 :: .sl [.int .u8] :: (List.replicate 32 (.int .u8) ++ (.int .u32 :: (List.replicate 12 (.int .u8) ++ [.sl [.int .u8], .sl [.int .u8]])))) us) : ∃ x : ActV, actF x = us ∧ ActIn w x := by
  match us, h with
  | u :: v :: us, ⟨h1, h2, h3⟩ =>
    obtain ⟨k, rfl, hwf⟩ := decInt (v := u) ⟨h1, trivial⟩
    obtain ⟨A, hA⟩ := decBytes (v := v) ⟨h2, trivial⟩
    have h4 := okSplit (us := us) (k1 := List.replicate 32 (.int .u8)) h3
    rw [List.length_replicate] at h4
    obtain ⟨D, hD, hDl, hDb⟩ := decArr 32 h4.1
    obtain ⟨x, hx, g1, g2, g3, g4, g5⟩ := decTup h4.2
    refine ⟨(k, (v, A), D, x), ?_, ⟨hA, hDl, hDb, g1, g2, g3, g4, g5⟩⟩
    show .int .i64 k :: v :: (D.map u8v ++ tupF x) = _
    rw [hx, ← hD, List.take_append_drop]
theorem decScript {w : World} {v : Value} (h : OkL w [.sl (.int .i64 :: .sl [.int .u8] :: (List.replicate 32 (.int .u8) ++ (.int .u32 :: (List.replicate 12 (.int .u8) ++ [.sl [.int .u8], .sl [.int .u8]]))))] [v]) : ∃ L, RA w L v := toBSl (f := actF) (g := ActIn w) h.1 (by decide) fun _ hu => decAct hu
/-- No act is too great. -/
def Small (a : ActV) : Prop := a.2.1.2.length ≤ 10000 ∧ a.2.2.2.2.2.2.2.1.length ≤ 10000 ∧ a.2.2.2.2.2.2.2.2.length ≤ 10000
def Smalls (L : List ActV) : Prop := ∀ (i : Nat) (a : ActV), i < 300 → L[i]? = some a → Small a
section
variable {w0 w : World} {K F S : List Chunk} {va : Value} {L : List ActV}
set_option maxRecDepth 100000 in
set_option maxHeartbeats 4000000 in
theorem greatA_any (hL : RA w0 L va) : Calls Tryd.prog 9 #[va] w0 fun e w' => ∃ r, e = .returned (.bool r) ∧ (r = false → Smalls L) ∧ Sat w0 [] w' := by
  have hS := Sat.refl w0
  obtain ⟨pa, ca, rfl, hla, hata⟩ := hL.at
  clear hL
  go_enter Tryd.func9, Tryd.ntmps9
  go_wp2_with (first | (refine load1 hS rfl rfl rfl rfl ?_; simp only [putW]) | (refine loadAll hS rfl rfl rfl ?_ ?_; rfl; simp only [putW]) | (refine loadPart hS rfl rfl rfl ?_ rfl ?_; rfl; simp only [putW]) | (refine store1 hS rfl rfl rfl rfl rfl ?_ ?_; (focus (simp; done)); clear hS; intro w hS; simp only [evW, putW] at hS; try simp only [putW]) | (refine storeAll hS rfl rfl rfl rfl ?_ ?_ ?_ ?_; rfl; (focus (simp [Value.oneCell']; done)); rfl; clear hS; intro w hS; try simp only [putW]) | (refine storeN hS rfl rfl rfl rfl ?_ ?_ ?_ ?_; rfl; (focus (simp [Value.oneCell']; done)); (focus (simp; done)); clear hS; intro w hS; simp at hS; try simp only [putW]) | (refine alloc hS rfl rfl ?_; clear hS; intro mb w hS; simp only [putW]) | (refine box1 hS rfl rfl rfl rfl ?_; clear hS; intro mb w hS; try simp only [evW, putW] at hS; simp only [putW]) | (refine boxN hS rfl rfl rfl ?_; clear hS; intro mb w hS; simp only [putW]))
  go_loopw [3, 4] (fun n i wr => ∃ k m : Nat, k ≤ L.length ∧ k ≤ 300 ∧ i = .int .i64 k ∧ n = .int .i64 m ∧ m ≤ 30000 * k ∧ Bx (∀ (i : Nat) (a : ActV), i < k → L[i]? = some a → Small a) ∧ Sat w0 [] wr) (fun _ i _ => L.length - (intOf i).toNat)
  case atStart => exact ⟨0, 0, by omega, by omega, rfl, rfl, by omega, ⟨fun i a h => by omega⟩, hS⟩
  case round =>
    clear hS
    obtain ⟨k, m, hk, hk3, rfl, rfl, hm, hsm, hS⟩ := hrel
    by_cases hlt : k < L.length
    · by_cases h300 : k < 300
      · obtain ⟨x, hx⟩ : ∃ x, L[k]? = some x := ⟨_, List.getElem?_eq_getElem hlt⟩
        obtain ⟨bh, oh, rfl, hBh⟩ := hata (by intro e; subst e; simp at hlt)
        have hxi : ActIn w0 x := (hBh.2 k _ hx).1
        have hI := hxi.is
        obtain ⟨q0, c0, e0, hl0, -⟩ := hxi.dat.at
        obtain ⟨q1, c1, e1, hl1, -⟩ := hxi.aad.at
        obtain ⟨q2, c2, e2, hl2, -⟩ := hxi.sea.at
        have i1 := hI.dat
        have i47 := hI.aad
        have i48 := hI.sea
        rw [e0] at i1
        rw [e1] at i47
        rw [e2] at i48
        obtain ⟨n0, hn0⟩ : ∃ n, x.2.1.2.length = n := ⟨_, rfl⟩
        obtain ⟨n1, hn1⟩ : ∃ n, x.2.2.2.2.2.2.2.1.length = n := ⟨_, rfl⟩
        obtain ⟨n2, hn2⟩ : ∃ n, x.2.2.2.2.2.2.2.2.length = n := ⟨_, rfl⟩
        rw [hn0] at i1 hl0
        rw [hn1] at i47 hl1
        rw [hn2] at i48 hl2
        have I1 : Bx _ := ⟨i1⟩
        have I47 : Bx _ := ⟨i47⟩
        have I48 : Bx _ := ⟨i48⟩
        have Hx : Bx _ := ⟨hx⟩
        have Hall : Bx (n0 ≤ 10000 → n1 ≤ 10000 → n2 ≤ 10000 → ∀ (i : Nat) (a : ActV), i < k + 1 → L[i]? = some a → Small a) := ⟨fun g0 g1 g2 i a hi ha => by
          by_cases e : i < k
          · exact hsm.out i a e ha
          · have e2 : i = k := by omega
            subst e2
            rw [hx] at ha
            cases ha
            exact ⟨by omega, by omega, by omega⟩⟩
        clear hxi hI e0 e1 e2 i1 i47 i48 hn0 hn1 hn2
        by_cases g0 : n0 ≤ 10000
        · have d0 : decide ((10000 : Int) < (n0 : Int)) = false := decide_eq_false (by omega)
          by_cases g1 : n1 ≤ 10000
          · have d1 : decide ((10000 : Int) < (n1 : Int)) = false := decide_eq_false (by omega)
            by_cases g2 : n2 ≤ 10000
            · have d2 : decide ((10000 : Int) < (n2 : Int)) = false := decide_eq_false (by omega)
              have hall := Hall.out g0 g1 g2
              have HALL : Bx _ := ⟨hall⟩
              clear hall Hall
              go_upto_region 7 with (first | (refine loadB (f := actF) hS rfl rfl rfl hBh k 1 ?_ Hx.out I1.out ?_; (focus omega); simp only [putW]) | (refine loadB (f := actF) hS rfl rfl rfl hBh k 47 ?_ Hx.out I47.out ?_; (focus omega); simp only [putW]) | (refine loadB (f := actF) hS rfl rfl rfl hBh k 48 ?_ Hx.out I48.out ?_; (focus omega); simp only [putW]) | (refine load1 hS rfl rfl rfl rfl ?_; simp only [putW]) | (refine loadAll hS rfl rfl rfl ?_ ?_; rfl; simp only [putW]) | (refine loadPart hS rfl rfl rfl ?_ rfl ?_; rfl; simp only [putW]) | (refine store1 hS rfl rfl rfl rfl rfl ?_ ?_; (focus (simp; done)); clear hS; intro w hS; simp only [evW, putW] at hS; try simp only [putW]) | (refine storeAll hS rfl rfl rfl rfl ?_ ?_ ?_ ?_; rfl; (focus (simp [Value.oneCell']; done)); rfl; clear hS; intro w hS; try simp only [putW]) | (refine storeN hS rfl rfl rfl rfl ?_ ?_ ?_ ?_; rfl; (focus (simp [Value.oneCell']; done)); (focus (simp; done)); clear hS; intro w hS; simp at hS; try simp only [putW]) | (refine alloc hS rfl rfl ?_; clear hS; intro mb w hS; simp only [putW]) | (refine box1 hS rfl rfl rfl rfl ?_; clear hS; intro mb w hS; try simp only [evW, putW] at hS; simp only [putW]) | (refine boxN hS rfl rfl rfl ?_; clear hS; intro mb w hS; simp only [putW]))
              (refine region_quiet hS (by kernel_rfl) (by kernel_rfl) (by kernel_rfl) ?_; clear hS; (repeat (apply quiet_step; (focus (intro w hS; go_wp2_with (first | (refine loadB (f := actF) hS rfl rfl rfl hBh k 1 ?_ Hx.out I1.out ?_; (focus omega); simp only [putW]) | (refine loadB (f := actF) hS rfl rfl rfl hBh k 47 ?_ Hx.out I47.out ?_; (focus omega); simp only [putW]) | (refine loadB (f := actF) hS rfl rfl rfl hBh k 48 ?_ Hx.out I48.out ?_; (focus omega); simp only [putW]) | (refine load1 hS rfl rfl rfl rfl ?_; simp only [putW]) | (refine loadAll hS rfl rfl rfl ?_ ?_; rfl; simp only [putW]) | (refine loadPart hS rfl rfl rfl ?_ rfl ?_; rfl; simp only [putW])); exact ⟨rfl, rfl, hS⟩)); simp only [putW])); refine quiet_nil ?_; intro w hS)
              go_wp2_with (first | (refine load1 hS rfl rfl rfl rfl ?_; simp only [putW]) | (refine loadAll hS rfl rfl rfl ?_ ?_; rfl; simp only [putW]) | (refine loadPart hS rfl rfl rfl ?_ rfl ?_; rfl; simp only [putW]) | (refine store1 hS rfl rfl rfl rfl rfl ?_ ?_; (focus (simp; done)); clear hS; intro w hS; simp only [evW, putW] at hS; try simp only [putW]) | (refine storeAll hS rfl rfl rfl rfl ?_ ?_ ?_ ?_; rfl; (focus (simp [Value.oneCell']; done)); rfl; clear hS; intro w hS; try simp only [putW]) | (refine storeN hS rfl rfl rfl rfl ?_ ?_ ?_ ?_; rfl; (focus (simp [Value.oneCell']; done)); (focus (simp; done)); clear hS; intro w hS; simp at hS; try simp only [putW]) | (refine alloc hS rfl rfl ?_; clear hS; intro mb w hS; simp only [putW]) | (refine box1 hS rfl rfl rfl rfl ?_; clear hS; intro mb w hS; try simp only [evW, putW] at hS; simp only [putW]) | (refine boxN hS rfl rfl rfl ?_; clear hS; intro mb w hS; simp only [putW]))
              go_roundw
              case rel => exact ⟨k + 1, m + n0 + n1 + n2, by omega, by omega, by go_num, by go_num, by omega, HALL, hS⟩
              case measure => first | (simp [intOf]; done) | (simp [intOf]; omega)
            · have d2 : decide ((10000 : Int) < (n2 : Int)) = true := decide_eq_true (by omega)
              go_wp2_with (first | (refine loadB (f := actF) hS rfl rfl rfl hBh k 1 ?_ Hx.out I1.out ?_; (focus omega); simp only [putW]) | (refine loadB (f := actF) hS rfl rfl rfl hBh k 47 ?_ Hx.out I47.out ?_; (focus omega); simp only [putW]) | (refine loadB (f := actF) hS rfl rfl rfl hBh k 48 ?_ Hx.out I48.out ?_; (focus omega); simp only [putW]) | (refine load1 hS rfl rfl rfl rfl ?_; simp only [putW]) | (refine loadAll hS rfl rfl rfl ?_ ?_; rfl; simp only [putW]) | (refine loadPart hS rfl rfl rfl ?_ rfl ?_; rfl; simp only [putW]) | (refine store1 hS rfl rfl rfl rfl rfl ?_ ?_; (focus (simp; done)); clear hS; intro w hS; simp only [evW, putW] at hS; try simp only [putW]) | (refine storeAll hS rfl rfl rfl rfl ?_ ?_ ?_ ?_; rfl; (focus (simp [Value.oneCell']; done)); rfl; clear hS; intro w hS; try simp only [putW]) | (refine storeN hS rfl rfl rfl rfl ?_ ?_ ?_ ?_; rfl; (focus (simp [Value.oneCell']; done)); (focus (simp; done)); clear hS; intro w hS; simp at hS; try simp only [putW]) | (refine alloc hS rfl rfl ?_; clear hS; intro mb w hS; simp only [putW]) | (refine box1 hS rfl rfl rfl rfl ?_; clear hS; intro mb w hS; try simp only [evW, putW] at hS; simp only [putW]) | (refine boxN hS rfl rfl rfl ?_; clear hS; intro mb w hS; simp only [putW]))
              go_ret
              exact ⟨true, rfl, by simp, hS⟩
          · have d1 : decide ((10000 : Int) < (n1 : Int)) = true := decide_eq_true (by omega)
            go_wp2_with (first | (refine loadB (f := actF) hS rfl rfl rfl hBh k 1 ?_ Hx.out I1.out ?_; (focus omega); simp only [putW]) | (refine loadB (f := actF) hS rfl rfl rfl hBh k 47 ?_ Hx.out I47.out ?_; (focus omega); simp only [putW]) | (refine load1 hS rfl rfl rfl rfl ?_; simp only [putW]) | (refine loadAll hS rfl rfl rfl ?_ ?_; rfl; simp only [putW]) | (refine loadPart hS rfl rfl rfl ?_ rfl ?_; rfl; simp only [putW]) | (refine store1 hS rfl rfl rfl rfl rfl ?_ ?_; (focus (simp; done)); clear hS; intro w hS; simp only [evW, putW] at hS; try simp only [putW]) | (refine storeAll hS rfl rfl rfl rfl ?_ ?_ ?_ ?_; rfl; (focus (simp [Value.oneCell']; done)); rfl; clear hS; intro w hS; try simp only [putW]) | (refine storeN hS rfl rfl rfl rfl ?_ ?_ ?_ ?_; rfl; (focus (simp [Value.oneCell']; done)); (focus (simp; done)); clear hS; intro w hS; simp at hS; try simp only [putW]) | (refine alloc hS rfl rfl ?_; clear hS; intro mb w hS; simp only [putW]) | (refine box1 hS rfl rfl rfl rfl ?_; clear hS; intro mb w hS; try simp only [evW, putW] at hS; simp only [putW]) | (refine boxN hS rfl rfl rfl ?_; clear hS; intro mb w hS; simp only [putW]))
            go_ret
            exact ⟨true, rfl, by simp, hS⟩
        · have d0 : decide ((10000 : Int) < (n0 : Int)) = true := decide_eq_true (by omega)
          go_wp2_with (first | (refine loadB (f := actF) hS rfl rfl rfl hBh k 1 ?_ Hx.out I1.out ?_; (focus omega); simp only [putW]) | (refine load1 hS rfl rfl rfl rfl ?_; simp only [putW]) | (refine loadAll hS rfl rfl rfl ?_ ?_; rfl; simp only [putW]) | (refine loadPart hS rfl rfl rfl ?_ rfl ?_; rfl; simp only [putW]) | (refine store1 hS rfl rfl rfl rfl rfl ?_ ?_; (focus (simp; done)); clear hS; intro w hS; simp only [evW, putW] at hS; try simp only [putW]) | (refine storeAll hS rfl rfl rfl rfl ?_ ?_ ?_ ?_; rfl; (focus (simp [Value.oneCell']; done)); rfl; clear hS; intro w hS; try simp only [putW]) | (refine storeN hS rfl rfl rfl rfl ?_ ?_ ?_ ?_; rfl; (focus (simp [Value.oneCell']; done)); (focus (simp; done)); clear hS; intro w hS; simp at hS; try simp only [putW]) | (refine alloc hS rfl rfl ?_; clear hS; intro mb w hS; simp only [putW]) | (refine box1 hS rfl rfl rfl rfl ?_; clear hS; intro mb w hS; try simp only [evW, putW] at hS; simp only [putW]) | (refine boxN hS rfl rfl rfl ?_; clear hS; intro mb w hS; simp only [putW]))
          go_ret
          exact ⟨true, rfl, by simp, hS⟩
      · have hk300 : k = 300 := by omega
        subst hk300
        by_cases g : m ≤ 40000
        · go_wp2_with (first | (refine load1 hS rfl rfl rfl rfl ?_; simp only [putW]) | (refine loadAll hS rfl rfl rfl ?_ ?_; rfl; simp only [putW]) | (refine loadPart hS rfl rfl rfl ?_ rfl ?_; rfl; simp only [putW]) | (refine store1 hS rfl rfl rfl rfl rfl ?_ ?_; (focus (simp; done)); clear hS; intro w hS; simp only [evW, putW] at hS; try simp only [putW]) | (refine storeAll hS rfl rfl rfl rfl ?_ ?_ ?_ ?_; rfl; (focus (simp [Value.oneCell']; done)); rfl; clear hS; intro w hS; try simp only [putW]) | (refine storeN hS rfl rfl rfl rfl ?_ ?_ ?_ ?_; rfl; (focus (simp [Value.oneCell']; done)); (focus (simp; done)); clear hS; intro w hS; simp at hS; try simp only [putW]) | (refine alloc hS rfl rfl ?_; clear hS; intro mb w hS; simp only [putW]) | (refine box1 hS rfl rfl rfl rfl ?_; clear hS; intro mb w hS; try simp only [evW, putW] at hS; simp only [putW]) | (refine boxN hS rfl rfl rfl ?_; clear hS; intro mb w hS; simp only [putW]))
          go_ret
          exact ⟨false, by first | rfl | (simp; omega), fun _ i a hi ha => hsm.out i a hi ha, hS⟩
        · go_wp2_with (first | (refine load1 hS rfl rfl rfl rfl ?_; simp only [putW]) | (refine loadAll hS rfl rfl rfl ?_ ?_; rfl; simp only [putW]) | (refine loadPart hS rfl rfl rfl ?_ rfl ?_; rfl; simp only [putW]) | (refine store1 hS rfl rfl rfl rfl rfl ?_ ?_; (focus (simp; done)); clear hS; intro w hS; simp only [evW, putW] at hS; try simp only [putW]) | (refine storeAll hS rfl rfl rfl rfl ?_ ?_ ?_ ?_; rfl; (focus (simp [Value.oneCell']; done)); rfl; clear hS; intro w hS; try simp only [putW]) | (refine storeN hS rfl rfl rfl rfl ?_ ?_ ?_ ?_; rfl; (focus (simp [Value.oneCell']; done)); (focus (simp; done)); clear hS; intro w hS; simp at hS; try simp only [putW]) | (refine alloc hS rfl rfl ?_; clear hS; intro mb w hS; simp only [putW]) | (refine box1 hS rfl rfl rfl rfl ?_; clear hS; intro mb w hS; try simp only [evW, putW] at hS; simp only [putW]) | (refine boxN hS rfl rfl rfl ?_; clear hS; intro mb w hS; simp only [putW]))
          go_ret
          exact ⟨true, by first | rfl | (simp; omega), by simp, hS⟩
    · have hkx : k = L.length := by omega
      by_cases g : m ≤ 40000
      · go_wp2_with (first | (refine load1 hS rfl rfl rfl rfl ?_; simp only [putW]) | (refine loadAll hS rfl rfl rfl ?_ ?_; rfl; simp only [putW]) | (refine loadPart hS rfl rfl rfl ?_ rfl ?_; rfl; simp only [putW]) | (refine store1 hS rfl rfl rfl rfl rfl ?_ ?_; (focus (simp; done)); clear hS; intro w hS; simp only [evW, putW] at hS; try simp only [putW]) | (refine storeAll hS rfl rfl rfl rfl ?_ ?_ ?_ ?_; rfl; (focus (simp [Value.oneCell']; done)); rfl; clear hS; intro w hS; try simp only [putW]) | (refine storeN hS rfl rfl rfl rfl ?_ ?_ ?_ ?_; rfl; (focus (simp [Value.oneCell']; done)); (focus (simp; done)); clear hS; intro w hS; simp at hS; try simp only [putW]) | (refine alloc hS rfl rfl ?_; clear hS; intro mb w hS; simp only [putW]) | (refine box1 hS rfl rfl rfl rfl ?_; clear hS; intro mb w hS; try simp only [evW, putW] at hS; simp only [putW]) | (refine boxN hS rfl rfl rfl ?_; clear hS; intro mb w hS; simp only [putW]))
        go_ret
        exact ⟨false, by first | rfl | (simp; omega), fun _ i a hi ha => hsm.out i a (by rw [hkx]; exact (List.getElem?_eq_some_iff.1 ha).1) ha, hS⟩
      · go_wp2_with (first | (refine load1 hS rfl rfl rfl rfl ?_; simp only [putW]) | (refine loadAll hS rfl rfl rfl ?_ ?_; rfl; simp only [putW]) | (refine loadPart hS rfl rfl rfl ?_ rfl ?_; rfl; simp only [putW]) | (refine store1 hS rfl rfl rfl rfl rfl ?_ ?_; (focus (simp; done)); clear hS; intro w hS; simp only [evW, putW] at hS; try simp only [putW]) | (refine storeAll hS rfl rfl rfl rfl ?_ ?_ ?_ ?_; rfl; (focus (simp [Value.oneCell']; done)); rfl; clear hS; intro w hS; try simp only [putW]) | (refine storeN hS rfl rfl rfl rfl ?_ ?_ ?_ ?_; rfl; (focus (simp [Value.oneCell']; done)); (focus (simp; done)); clear hS; intro w hS; simp at hS; try simp only [putW]) | (refine alloc hS rfl rfl ?_; clear hS; intro mb w hS; simp only [putW]) | (refine box1 hS rfl rfl rfl rfl ?_; clear hS; intro mb w hS; try simp only [evW, putW] at hS; simp only [putW]) | (refine boxN hS rfl rfl rfl ?_; clear hS; intro mb w hS; simp only [putW]))
        go_ret
        exact ⟨true, by first | rfl | (simp; omega), by simp, hS⟩
end
end Go.Proofs.YteoidocicjlglaaDoor
