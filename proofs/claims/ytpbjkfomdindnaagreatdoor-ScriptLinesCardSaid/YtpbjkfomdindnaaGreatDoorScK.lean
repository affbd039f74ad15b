/-
  The package-level variables that the library reads, as far as they are asked for; strings; the library's functions on strings, over the world that they are called in.
-/
import Derived.Test.YtpbjkfomdindnaaGreatDoorShelf
import Derived.Test.YtpbjkfomdindnaaGreatDoorScQ
import Derived.Test.YtpbjkfomdindnaaGreatDoorSlQuick
import Derived.Test.YtpbjkfomdindnaaGreatDoorJ02
set_option linter.unusedSimpArgs false
set_option linter.unusedVariables false
namespace Go.Proofs.YtpbjkfomdindnaaGreatDoor
open Go.RowKit Go.Shelf Go.Proofs.YtpbjkfomdindnaaGreatDoor.Sl Go.Proofs.YtpbjkfomdindnaaGreatDoor.Jp Go.Proofs.YtpbjkfomdindnaaGreatDoor.Sc

/-- What stands in the variables. -/
structure KV (w : World) : Prop where
  ml : ∃ m, w.cell? ⟨1, 0, none⟩ = some (.int .i64 m)
  p10 : Lib.TabIs Tryz.prog w "internal/strconv.uint64pow10" .u64 Lib.pow10Tab
  tz : w.cell? ⟨8, 15, none⟩ = some (.int .u8 4)
  es : ∃ tp p, w.var? Tryz.prog "strconv.ErrSyntax" = some #[.iface tp p]
  er : ∃ tp p, w.var? Tryz.prog "strconv.ErrRange" = some #[.iface tp p]
theorem cell_below {w w' : World} (hb : Below w.heap.size w w') {p : Addr} {v : Value} (h : w.cell? p = some v) : w'.cell? p = some v := by
  have hlt : p.block < w.heap.size := by
    rcases Nat.lt_or_ge p.block w.heap.size with h1 | h1
    · exact h1
    · simp [World.cell?, Array.getElem?_eq_none h1] at h
  simpa [World.cell?, hb.block _ hlt] using h
theorem var_below {w w' : World} (hb : Below w.heap.size w w') {n : String} {cs : Array Value} (h : w.var? Tryz.prog n = some cs) : w'.var? Tryz.prog n = some cs := by
  unfold World.var? at h ⊢
  cases hg : Tryz.prog.globalNamed n with
  | none => simp [hg] at h
  | some g =>
    simp only [hg, Option.bind_some] at h ⊢
    have hlt : g < w.heap.size := by
      rcases Nat.lt_or_ge g w.heap.size with h1 | h1
      · exact h1
      · simp [Array.getElem?_eq_none h1] at h
    rw [hb.block _ hlt]
    exact h
theorem KV.mono {w w' : World} (h : KV w) (hb : Below w.heap.size w w') : KV w' := by
  obtain ⟨⟨m, h1⟩, h2, h3, ⟨t1, p1, h4⟩, ⟨t2, p2, h5⟩⟩ := h
  exact ⟨⟨m, cell_below hb h1⟩, var_below hb h2, cell_below hb h3, ⟨t1, p1, var_below hb h4⟩, ⟨t2, p2, var_below hb h5⟩⟩

/-- A string. -/
abbrev str (l : Bs) : Value := .string ⟨l.toArray⟩
theorem str_one (l : Bs) : (str l).oneCell' = true := rfl
abbrev strF : Bs → List Value := one str

section
variable {P : Program} {ops : Array Oper} {rest : List Oper} {o : Oper} {a : Act} {Q : Exit → Act → World → Prop} {w : World} {t : TypeId} {x y : Operand}
/-- 's[i]'. -/
theorem indexL {l : Bs} {kd : IntKind} {i : Int} {n : Nat} {b : UInt8} (hw : Region.wanted o (yielded ops a.tmps) = true) (ho : o.op = .index t x y) (hx : a.eval x = .string ⟨l.toArray⟩) (hy : a.eval y = .int kd i) (ht : P.underlying t = some .string)
    (hi : i = n) (hb : l[n]? = some b) (k : wpList P ops Q rest (a.put o.dst (.int .u8 (b.toNat : Int))) w) : wpList P ops Q (o :: rest) a w := by
  subst hi
  obtain ⟨hlt, he⟩ := List.getElem?_eq_some_iff.1 hb
  have hs : (⟨l.toArray⟩ : ByteArray).size = l.length := rfl
  refine wp_value hw (w' := w) ?_ k
  have hr : (Instr.index t (.string ⟨l.toArray⟩) (.int kd (n : Int))).run P w = .ok (.int .u8 (b.toNat : Int)) w := by
    rw [run_index_string (P := P) w t ⟨l.toArray⟩ kd n ht, dif_pos ⟨by omega, by rw [hs]; omega⟩]
    congr 3
    subst he
    rfl
  simp [execOp, ho, hx, hy, hr]
theorem yIndex {I : World → Prop} {l : Bs} {kd : IntKind} {i : Int} {n : Nat} {b : UInt8} (hw : Region.wanted o (yielded ops a.tmps) = true) (ho : o.op = .index t x y) (hx : a.eval x = .string ⟨l.toArray⟩) (hy : a.eval y = .int kd i) (ht : P.underlying t = some .string)
    (hi : i = n) (hb : l[n]? = some b) : YieldsIf P ops I o (.int .u8 (b.toNat : Int)) a := by
  subst hi
  obtain ⟨hlt, he⟩ := List.getElem?_eq_some_iff.1 hb
  have hs : (⟨l.toArray⟩ : ByteArray).size = l.length := rfl
  refine yRun hw fun w => ?_
  have hr : (Instr.index t (.string ⟨l.toArray⟩) (.int kd (n : Int))).run P w = .ok (.int .u8 (b.toNat : Int)) w := by
    rw [run_index_string (P := P) w t ⟨l.toArray⟩ kd n ht, dif_pos ⟨by omega, by rw [hs]; omega⟩]
    congr 3
    subst he
    rfl
  simp [execOp, ho, hx, hy, hr]
/-- 'a[i:]', a an array. -/
theorem sliceArr {lo : Operand} {b i n : Nat} {q : IntKind} {e : TypeId} {zv : Value} {z : Array Value} (hw : Region.wanted o (yielded ops a.tmps) = true) (ho : o.op = .slice t x (some lo) none none) (hx : a.eval x = .pointer (some ⟨b, 0, none⟩)) {ii : Int} (hlo : a.eval lo = .int q ii)
    (ht : P.underlying t = some (.array n e)) [ty : Ty P e false 1 zv z] (hii : ii = i) (hi : i < n)
    (k : wpList P ops Q rest (a.put o.dst (.slice (some ⟨b, i, none⟩) (n - i) (n - i))) w) : wpList P ops Q (o :: rest) a w := by
  subst hii
  refine wp_value hw (w' := w) ?_ k
  have h1 : ¬ ((i : Int) < 0) := by omega
  have h2 : i ≤ n := by omega
  have h3 : n ≠ i := by omega
  have hadd : (⟨b, 0, none⟩ : Addr).add i = ⟨b, i, none⟩ := by unfold Addr.add; split <;> simp_all
  simp [execOp, ho, hx, hlo, Instr.sliceAt, Instr.sureAddr, run_underlying ht, Instr.sliceBounds, Instr.sliceBound, asIntOf, ty.size, h2, h3, hadd]
/-- Bytes as the numbers that they are. -/
def numsOf (l : Bs) : List Int := l.map fun b => (b.toNat : Int)
theorem numsOf_ok (l : Bs) : ∀ x ∈ numsOf l, okByte x := fun x hx => by
  obtain ⟨b, _, rfl⟩ := List.mem_map.1 hx
  have := b.toNat_lt
  exact ⟨by omega, by omega⟩
theorem str_nums (l : Bs) : strOfNums (numsOf l) = ⟨l.toArray⟩ := by
  have e : (numsOf l).map (fun n => UInt8.ofNat n.toNat) = l := by
    unfold numsOf
    rw [List.map_map]
    refine (List.map_congr_left (g := id) fun b _ => ?_).trans (List.map_id _)
    simp
  unfold strOfNums
  rw [e]
/-- 'string(b)'. -/
theorem convB {src dst e : TypeId} [st : SliceTy P src e] (hw : Region.wanted o (yielded ops a.tmps) = true) (ho : o.op = .convert src dst x) {v : Value} (hx : a.eval x = v) (he : P.underlying e = some (.int .u8)) (hd : P.underlying dst = some .string) (l : Bs) (h : RB w (numsOf l) v)
    (k : wpList P ops Q rest (a.put o.dst (str l)) w) : wpList P ops Q (o :: rest) a w := by
  refine wp_value hw (w' := w) ?_ k
  have hr := run_convertB (P := P) (src := src) (dst := dst) he hd h
  rw [str_nums] at hr
  simp [execOp, ho, hx, hr, str]
end
section
variable {w0 w : World} {S F : List Chunk}
theorem Sl.Sat.readsArrAt {α : Type} {vv : α → Value} {gd : α → Prop} {l : List α} {b : Nat} {t : TypeId} (h : Sat w0 S w) [p : Pull S b (cells (l.map vv).toArray t) F] (hg : ∀ x ∈ l, gd x) : BAt w 1 (one vv) gd l b 0 :=
  ⟨(Array.getElem?_eq_some_iff.1 (h.cellsAt (b := b)).2).1, fun i x hx => ⟨hg x (List.mem_of_getElem? hx), rfl, fun j u hu => by
    rw [h.cell (b := b)]
    cases j with
    | zero => simp [one] at hu; simp [hx, hu]
    | succ j => simp [one] at hu⟩⟩
theorem Sl.Sat.readsArrTail {l : List Int} {b i n : Nat} {t : TypeId} (h : Sat w0 S w) [p : Pull S b (cells (l.map (Value.int .u8)).toArray t) F] {D : List Int} (hD : l.drop i = D) (hl : l.length = n) (hn : n ≤ 1000000) (hg : ∀ x ∈ l, okByte x) : RB w D (.slice (some ⟨b, i, none⟩) (n - i) (n - i)) := by
  have h1 := (h.readsArrAt (vv := Value.int .u8) (gd := okByte) (l := l) (b := b) hg).part i (n - i)
  have e : (l.drop i).take (n - i) = D := by rw [← hD, List.take_of_length_le]; rw [List.length_drop]; omega
  rw [e, Nat.zero_add, Nat.mul_one] at h1
  have hlen : D.length = n - i := by rw [← hD, List.length_drop, hl]
  refine .inr ⟨b, i, n - i, by rw [hlen], by rw [hlen]; exact Nat.le_refl _, by simp [maxLen]; omega, h1⟩
theorem Sl.Sat.below (hS : Sat w0 S w) {w' : World} (hb : Below w.heap.size w w') : Sat w0 S w' := by
  have h := hS.frame (T := []) (w' := w') ⟨hb, trivial⟩
  simpa using h
theorem Sl.Sat.ofBelow {w' : World} (hb : Below w0.heap.size w0 w') : Sat w0 [] w' := ⟨hb, trivial⟩
theorem below_grow (w : World) (k : Nat) (os : Array Obj) : Below w.heap.size w (Go.Sort.grow (w.drewN k) os) :=
  ⟨rfl, rfl, rfl, by simp [World.drewN], fun i hi => by
    show (w.heap ++ os)[i]? = w.heap[i]?
    rw [Array.getElem?_append_left hi]⟩
theorem below_bytes (w : World) (e : TypeId) (s : ByteArray) : Below w.heap.size w (Lib.bytesWorld w e s) := by
  have hfz : ∀ (w : World) (a : Addr) (n : Nat), (w.freeze a n).os = w.os ∧ (w.freeze a n).tape = w.tape ∧ (w.freeze a n).output = w.output := fun w a n => by
    unfold World.freeze
    split <;> exact ⟨rfl, rfl, rfl⟩
  have h := hfz (w.drew.alloc (.cells (Lib.bytesCells w e s) e)) ⟨w.heap.size, (Lib.bytesCells w e s).size, none⟩ 1
  exact ⟨h.1, h.2.1, h.2.2, by rw [Lib.bytesWorld_size]; omega, fun k hk => Lib.bytesWorld_at_old w e s k hk⟩
theorem itoa_any (n : Int) (hK : KV w0) (h0 : -9223372036854775808 ≤ n) (h1 : n ≤ 9223372036854775807) :
    Calls Tryz.prog 41 #[.int .i64 n] w0 fun e w' => e = .returned (str (Lib.itoa n)) ∧ Sat w0 [] w' := by
  refine (Tryz.strconv_Itoa n h0 h1 w0 hK.p10).mono ?_
  rintro e w' ⟨rfl, k, os, rfl⟩
  exact ⟨rfl, Sat.ofBelow (below_grow _ _ _)⟩
/-- strconv.Atoi: a number and no error, or some error. -/
theorem atoi_any (l : Bs) (hK : KV w0) (hl : l.length ≤ 1000000) :
    Calls Tryz.prog 91 #[str l] w0 fun e w' => ((∃ v, Lib.atoiAll l = .ok v ∧ e = .returned (.tuple #[.int .i64 v, .nilIface])) ∨ (∃ v t p, (∀ n, Lib.atoiAll l ≠ .ok n) ∧ e = .returned (.tuple #[.int .i64 v, .iface t p]))) ∧ Sat w0 [] w' := by
  have hsz : (⟨l.toArray⟩ : ByteArray).size = l.length := rfl
  by_cases hok : ∃ v, Lib.atoiAll l = .ok v
  · obtain ⟨v, h⟩ := hok
    refine (Tryz.strconv_Atoi_ok ⟨l.toArray⟩ (by rw [hsz]; omega) v h w0).mono ?_
    rintro e w' ⟨rfl, hw⟩
    refine ⟨.inl ⟨v, h, rfl⟩, ?_⟩
    rcases hw with rfl | ⟨t, rfl⟩
    · exact Sat.refl _
    · exact Sat.ofBelow (below_bytes _ _ _)
  · have hno : ∀ v, Lib.atoiAll l ≠ .ok v := fun v h => hok ⟨v, h⟩
    by_cases hr : Lib.atoiAll l = .range
    · obtain ⟨tp, p, hv⟩ := hK.er
      refine (Tryz.strconv_Atoi_range_var ⟨l.toArray⟩ (by rw [hsz]; omega) hr tp p w0 hv).mono ?_
      rintro e w' ⟨N, rfl, -, -, hb⟩
      exact ⟨.inr ⟨_, _, _, hno, rfl⟩, Sat.ofBelow hb⟩
    · obtain ⟨tp, p, hv⟩ := hK.es
      refine (Tryz.strconv_Atoi_syntax_var ⟨l.toArray⟩ (by rw [hsz]; omega) hno hr tp p w0 hv).mono ?_
      rintro e w' ⟨N, rfl, -, -, hb⟩
      exact ⟨.inr ⟨_, _, _, hno, rfl⟩, Sat.ofBelow hb⟩
theorem str_eq (a b : Bs) : ((⟨a.toArray⟩ : ByteArray).toList == (⟨b.toArray⟩ : ByteArray).toList) = decide (a = b) := by
  have h : ∀ l : Bs, (⟨l.toArray⟩ : ByteArray).toList = l := fun l => by
    have := ByteArray.toList_loop_eq ⟨l.toArray⟩ ((⟨l.toArray⟩ : ByteArray).size - 0) 0 [] rfl (Nat.zero_le _)
    simpa [ByteArray.toList] using this
  rw [h, h]
  by_cases e : a = b <;> simp [e]
theorem str_size (l : Bs) : (⟨l.toArray⟩ : ByteArray).size = l.length := by simp [ByteArray.size]
/-- A slice of strings that can be read. -/
abbrev RS (w : World) (X : List Bs) (v : Value) : Prop := BSl w 1 strF (fun _ => True) X v
/-- strings.Split at one byte. -/
theorem split_any (c : UInt8) (l : Bs) (hK : KV w0) (hl : l.length ≤ 1000000) :
    Calls Tryz.prog 21 #[str l, str [c]] w0 fun e w' => ∃ g, e = .returned (.slice (some ⟨g, 0, none⟩) (splitC c l).length (splitC c l).length) ∧ Sat w0 [(g, slc 1 strF (splitC c l) (splitC c l).length 9)] w' := by
  obtain ⟨m, hm⟩ := hK.ml
  have hsz := str_size l
  have hc : Lib.countB ⟨l.toArray⟩ ⟨[c].toArray⟩ + 1 = (splitC c l).length := by
    rw [splitC_count, ← Lib.count_one]
  have hmap : (Lib.splitB ⟨[c].toArray⟩ 0 (Lib.countB ⟨l.toArray⟩ ⟨[c].toArray⟩) ⟨l.toArray⟩).map Value.string = (splitC c l).map str := by
    have h := Lib.splitB_data ⟨[c].toArray⟩ 0 (Lib.countB ⟨l.toArray⟩ ⟨[c].toArray⟩) ⟨l.toArray⟩
    have h2 : Lib.splitK [c] 0 (Lib.countB ⟨l.toArray⟩ ⟨[c].toArray⟩) l = splitC c l := split_C c l
    simp only at h
    rw [h2] at h
    rw [← h, List.map_map]
    rfl
  have hle : (splitC c l).length ≤ 1000001 := by rw [splitC_count]; have := List.count_le_length (a := c) (l := l); omega
  refine (Tryz.strings_Split ⟨l.toArray⟩ ⟨[c].toArray⟩ m w0 (by rw [hsz]; omega) hm (by rw [str_size]; exact Nat.le_refl _)).mono ?_
  rintro e w' ⟨rfl, rfl⟩
  refine ⟨w0.heap.size, by rw [hc], ?_⟩
  rw [hmap]
  exact ((Sat.refl w0).freshCells _ _).toSlc (by simp) (Nat.le_refl _) (by simp [maxLen]; omega) (by rw [flatMap_one, Nat.mul_one, List.take_of_length_le (by simp)]) (fun _ _ => rfl)
/-- strings.Join at one byte. -/
theorem join_any (c : UInt8) {X : List Bs} {v : Value} (hX : RS w0 X v) (hl : (joinC c X).length ≤ 1000000) (hn : X.length ≤ 1000000) :
    Calls Tryz.prog 38 #[v, str [c]] w0 fun e w' => e = .returned (str (joinC c X)) ∧ Sat w0 [] w' := by
  by_cases h0 : X = []
  · subst h0
    obtain ⟨a, cap, rfl, -⟩ := hX.at
    refine (Tryz.strings_Join_none a cap ⟨[c].toArray⟩ w0).mono ?_
    rintro e w' ⟨rfl, rfl⟩
    exact ⟨rfl, Sat.refl _⟩
  · rcases hX with ⟨h, _⟩ | ⟨b, off, cap, rfl, h1, h2, hb, hat⟩
    · exact absurd h h0
    · have hx : (X.map fun x => (⟨x.toArray⟩ : ByteArray)).map (·.data.toList) = X := by
        rw [List.map_map]
        exact (List.map_congr_left (g := id) fun x _ => rfl).trans (List.map_id _)
      have hj : Lib.join X [c] = joinC c X := join_C c X
      have hlen : (X.map fun x => (⟨x.toArray⟩ : ByteArray)).length = X.length := by simp
      have hcap := h2
      refine Calls.mono (?_ : Calls Tryz.prog 38 #[.slice (some ⟨b, off, none⟩) X.length cap, str [c]] w0 fun e w' => e = .returned (str (joinC c X)) ∧ Below w0.heap.size w0 w') ?_
      · have h := Tryz.strings_Join b off cap (X.map fun x => (⟨x.toArray⟩ : ByteArray)) ⟨[c].toArray⟩ w0 (fun j x hj => by
          rw [List.getElem?_map] at hj
          obtain ⟨y, hy, rfl⟩ := Option.map_eq_some_iff.1 hj
          have := (hat j y hy).2.2 0 (str y) rfl
          rw [Nat.mul_one, Nat.add_zero] at this
          exact this) hb (by rw [hlen]; omega) (by rw [hlen]; exact h1) (by
          rw [hx]
          show (Lib.join X [c]).length ≤ _
          rw [hj]; omega)
        rw [hlen, hx] at h
        refine h.mono ?_
        rintro e w' ⟨rfl, hb⟩
        refine ⟨?_, hb⟩
        show Ending.returned (.string ⟨(Lib.join X [c]).toArray⟩) = _
        rw [hj]
      · rintro e w' ⟨rfl, hb⟩
        exact ⟨rfl, Sat.ofBelow hb⟩
theorem repeatL_one (c : UInt8) : ∀ n, Lib.repeatL [c] n = List.replicate n c
  | 0 => rfl
  | n + 1 => by rw [List.replicate_succ, ← repeatL_one c n]; rfl
theorem repeat_any (c : UInt8) (n : Nat) (hn : n ≤ 1000000) :
    Calls Tryz.prog 80 #[str [c], .int .i64 (n : Int)] w0 fun e w' => e = .returned (str (List.replicate n c)) ∧ Sat w0 [] w' := by
  refine (Tryz.strings_Repeat ⟨[c].toArray⟩ n w0 (by omega) (by rw [str_size]; simp; omega)).mono ?_
  rintro e w' ⟨rfl, hb⟩
  refine ⟨?_, Sat.ofBelow hb⟩
  rw [← repeatL_one]
theorem indexByte_any (l : Bs) (c : UInt8) :
    Calls Tryz.prog 93 #[str l, .int .u8 (c.toNat : Int)] w0 fun e w' => e = .returned (.int .i64 (Lib.indexByte l c)) ∧ Sat w0 [] w' := by
  refine (Tryz.strings_IndexByte ⟨l.toArray⟩ (c.toNat : Int) w0).mono ?_
  rintro e w' ⟨rfl, rfl⟩
  have e : (c.toNat : Int).toNat.toUInt8 = c := by simp
  rw [e]
  exact ⟨rfl, Sat.refl _⟩
end
end Go.Proofs.YtpbjkfomdindnaaGreatDoor
