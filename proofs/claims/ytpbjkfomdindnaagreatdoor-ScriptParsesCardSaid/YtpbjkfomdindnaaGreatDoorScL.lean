/-
  script: want, number, hex, unhex.
-/
import Derived.Test.YtpbjkfomdindnaaGreatDoorScF
set_option linter.unusedSimpArgs false
set_option linter.unusedVariables false
namespace Go.Proofs.YtpbjkfomdindnaaGreatDoor
open Go.RowKit Go.Shelf Go.Proofs.YtpbjkfomdindnaaGreatDoor.Sl Go.Proofs.YtpbjkfomdindnaaGreatDoor.Jp Go.Proofs.YtpbjkfomdindnaaGreatDoor.Sc

/-- What giving up leaves. -/
def badP : List PanicEntry := [{ v := .iface 85 (.agg #[]), recovered := false }]
section
variable {w0 w : World} {S F : List Chunk}
theorem want_ok {b : Bool} (h : b = true) : Calls Tryz.prog 25 #[.bool b] w0 fun e w' => e = .returned (.tuple #[]) ∧ Sat w0 [] w' := by
  subst h
  have hS := Sat.refl w0
  go_enter Tryz.func25, Tryz.ntmps25
  go_wp2_with (refine load1 hS rfl rfl rfl rfl ?_; simp only [putW])
  go_end0
  exact ⟨rfl, hS⟩
theorem want_no {b : Bool} (h : b = false) : Calls Tryz.prog 25 #[.bool b] w0 fun e w' => e = .panicked badP ∧ Sat w0 [] w' := by
  subst h
  have hS := Sat.refl w0
  go_enter Tryz.func25, Tryz.ntmps25
  go_wp2_with (refine load1 hS rfl rfl rfl rfl ?_; simp only [putW])
  exact ⟨rfl, rfl, hS⟩
set_option maxHeartbeats 1000000 in
set_option maxRecDepth 100000 in
theorem number_any {l : Bs} (hK : KV w0) (hl : l.length ≤ 1000000) :
    Calls Tryz.prog 76 #[str l] w0 fun e w' => ((∃ n, numW l = some n ∧ e = .returned (.int .i64 n)) ∨ (numW l = none ∧ e = .panicked badP)) ∧ Sat w0 [] w' := by
  have hS := Sat.refl w0
  have HK : Bx _ := ⟨hK⟩
  clear hK
  go_enter Tryz.func76, Tryz.ntmps76
  go_wp2_with (guard_target =~ Calls _ 91 _ _ _; refine Stopped.out ?_)
  refine ⟨?_⟩
  (refine Calls.mono (atoi_any l (HK.out.mono hS.base) hl) ?_; rintro _ w2 ⟨h, h2⟩; replace hS := hS.frame h2; clear h2; (try simp only [List.cons_append, List.nil_append] at hS))
  rcases h with ⟨v, hv, rfl⟩ | ⟨v, t, p, hv, rfl⟩ <;> simp only [putW]
  · by_cases h0 : 0 ≤ v
    · by_cases h1 : v < 1000000000
      · by_cases hq : Lib.itoa v = l
        · have he : (Lib.itoa v == l) = true := beq_iff_eq.2 hq
          have HN : Bx (numW l = some v) := ⟨by unfold numW; rw [hv]; simp only; rw [if_pos ⟨⟨h0, h1⟩, hq⟩]⟩
          clear hq hv
          go_wp2_with (first | (go_at_call 41; refine Calls.mono (itoa_any v (HK.out.mono hS.base) (by omega) (by omega)) ?_; rintro _ w2 ⟨rfl, h2⟩; replace hS := hS.frame h2; clear h2; (try simp only [List.cons_append, List.nil_append] at hS); simp only [putW]) | (go_at_call 25; refine Calls.mono (want_ok rfl) ?_; rintro _ w2 ⟨rfl, h2⟩; replace hS := hS.frame h2; clear h2; (try simp only [List.cons_append, List.nil_append] at hS); simp only [putW]))
          go_ret
          exact ⟨.inl ⟨v, HN.out, rfl⟩, hS⟩
        · have he : (Lib.itoa v == l) = false := by simpa using hq
          have HN : Bx (numW l = none) := ⟨by unfold numW; rw [hv]; simp only; rw [if_neg fun h => hq h.2]⟩
          clear hq hv
          go_wp2_with (first | (go_at_call 41; refine Calls.mono (itoa_any v (HK.out.mono hS.base) (by omega) (by omega)) ?_; rintro _ w2 ⟨rfl, h2⟩; replace hS := hS.frame h2; clear h2; (try simp only [List.cons_append, List.nil_append] at hS); simp only [putW]) | (go_at_call 25; refine Calls.mono (want_no rfl) ?_; rintro _ w2 ⟨rfl, h2⟩; replace hS := hS.frame h2; clear h2; (try simp only [List.cons_append, List.nil_append] at hS); simp only [putW]))
          exact ⟨rfl, .inr ⟨HN.out, rfl⟩, hS⟩
      · have HN : Bx (numW l = none) := ⟨by unfold numW; rw [hv]; simp only; rw [if_neg fun h => h1 h.1.2]⟩
        clear hv
        go_wp2_with (go_at_call 25; refine Calls.mono (want_no rfl) ?_; rintro _ w2 ⟨rfl, h2⟩; replace hS := hS.frame h2; clear h2; (try simp only [List.cons_append, List.nil_append] at hS); simp only [putW])
        exact ⟨rfl, .inr ⟨HN.out, rfl⟩, hS⟩
    · have HN : Bx (numW l = none) := ⟨by unfold numW; rw [hv]; simp only; rw [if_neg fun h => h0 h.1.1]⟩
      clear hv
      go_wp2_with (go_at_call 25; refine Calls.mono (want_no rfl) ?_; rintro _ w2 ⟨rfl, h2⟩; replace hS := hS.frame h2; clear h2; (try simp only [List.cons_append, List.nil_append] at hS); simp only [putW])
      exact ⟨rfl, .inr ⟨HN.out, rfl⟩, hS⟩
  · have HN : Bx (numW l = none) := ⟨by
      unfold numW
      split
      · rename_i n e
        exact absurd e (hv n)
      · rfl⟩
    clear hv
    go_wp2_with (go_at_call 25; refine Calls.mono (want_no rfl) ?_; rintro _ w2 ⟨rfl, h2⟩; replace hS := hS.frame h2; clear h2; (try simp only [List.cons_append, List.nil_append] at hS); simp only [putW])
    exact ⟨rfl, .inr ⟨HN.out, rfl⟩, hS⟩

theorem number_ok {l : Bs} {n : Int} (hn : numW l = some n) (hK : KV w0) (hl : l.length ≤ 1000000) : Calls Tryz.prog 76 #[str l] w0 fun e w' => e = .returned (.int .i64 n) ∧ Sat w0 [] w' :=
  (number_any hK hl).mono fun e w' h => by
    obtain ⟨⟨m, hm, rfl⟩ | ⟨hm, rfl⟩, hS⟩ := h
    · rw [hn] at hm
      cases hm
      exact ⟨rfl, hS⟩
    · rw [hn] at hm; cases hm
theorem number_no {l : Bs} (hn : numW l = none) (hK : KV w0) (hl : l.length ≤ 1000000) : Calls Tryz.prog 76 #[str l] w0 fun e w' => e = .panicked badP ∧ Sat w0 [] w' :=
  (number_any hK hl).mono fun e w' h => by
    obtain ⟨⟨m, hm, rfl⟩ | ⟨hm, rfl⟩, hS⟩ := h
    · rw [hn] at hm; cases hm
    · exact ⟨rfl, hS⟩
/-! ### hex -/
theorem hexL_take {A : List Int} {k : Nat} {x : Int} (h : A[k]? = some x) : hexL (A.take (k + 1)) = hexL (A.take k) ++ [hexd (x.toNat / 16), hexd (x.toNat % 16)] := by
  obtain ⟨hlt, he⟩ := List.getElem?_eq_some_iff.1 h
  rw [List.take_add_one, h, hexL_append]
  rfl
theorem digS_get {r : Nat} (h : r < 16) : digS[r]? = some (hexd r) := by
  have : ∀ r : Fin 16, digS[r.val]? = some (hexd r.val) := by decide +kernel
  exact this ⟨r, h⟩
theorem and15_u8 {m : Nat} (h : m < 256) : bits .and .u8 (m : Int) 15 = ((m % 16 : Nat) : Int) := by
  have h1 := u8_and_nat m 15 h (by decide)
  have e : m &&& 15 = m % 16 := Nat.and_two_pow_sub_one_eq_mod m 4
  rw [e] at h1
  exact h1
theorem fresh_builder (hS : Sat w0 S w) {b : Nat} [Pull S b (cells #[.pointer none, .slice none 0 0] 107) F] : Lib.IsBuilderF 107 5 w0.heap.size b (Lib.byteCells []) w := by
  obtain ⟨h1, h2⟩ := hS.cellsAt (b := b) (c := #[.pointer none, .slice none 0 0]) (t := 107)
  exact .inl ⟨h1, .slice none 0 0, h2, ⟨rfl, .inl ⟨rfl, rfl⟩⟩, by simp [Value.ownBlock]⟩
abbrev Bld (w0 : World) (b : Nat) (l : Bs) (w : World) : Prop := Bx (Lib.IsBuilderF 107 5 w0.heap.size b (Lib.byteCells l) w)
theorem wb_any {b : Nat} {l : Bs} (c : UInt8) (hI : Bld w0 b l w) (hS : Sat w0 [] w) (hl : l.length ≤ 3000000) :
    Calls Tryz.prog 92 #[.pointer (some ⟨b, 0, none⟩), .int .u8 (c.toNat : Int)] w fun e w' => e = .returned .nilIface ∧ Bld w0 b (l ++ [c]) w' ∧ Sat w0 [] w' := by
  refine (Tryz.Builder_WriteByte_k w0.heap.size b (Lib.byteCells l) (c.toNat : Int) w hI.out (by rw [Lib.byteCells_length]; omega) hS.le).mono ?_
  rintro e w' ⟨rfl, h1, h2, -⟩
  refine ⟨rfl, ⟨.inr ?_⟩, ⟨hS.base.trans h2, trivial⟩⟩
  have e : Lib.byteCells (l ++ [c]) = Lib.byteCells l ++ [.int .u8 (c.toNat : Int)] := by simp [Lib.byteCells]
  rw [e]
  exact h1
theorem bs_any {b : Nat} {l : Bs} (hI : Bld w0 b l w) (hS : Sat w0 [] w) :
    Calls Tryz.prog 66 #[.pointer (some ⟨b, 0, none⟩)] w fun e w' => e = .returned (str l) ∧ Sat w0 [] w' := by
  refine (Tryz.Builder_String_any_k w0.heap.size b l w hI.out hS.le).mono ?_
  rintro e w' ⟨rfl, h1, h2, -⟩
  exact ⟨rfl, ⟨hS.base.trans h2, trivial⟩⟩
set_option maxRecDepth 100000 in
set_option maxHeartbeats 1000000 in
theorem hex_any {A : List Int} {va : Value} (hA : RB w0 A va) (hl : A.length ≤ 1000000) :
    Calls Tryz.prog 77 #[va] w0 fun e w' => e = .returned (str (hexL A)) ∧ Sat w0 [] w' := by
  have hS := Sat.refl w0
  obtain ⟨pa, ca, rfl, hla, hat⟩ := hA.at
  have hAll := hA.all
  have HA : Bx _ := ⟨hAll⟩
  clear hAll hA
  go_enter Tryz.func77, Tryz.ntmps77
  go_wp2_with (refine alloc hS rfl rfl ?_; clear hS; intro mb w hS; simp only [putW])
  have hI0 := fresh_builder hS (b := mb)
  have hS0 := hS.nothing
  clear hS
  have hS := hS0
  clear hS0
  go_loopw [8] (fun i wr => ∃ (k : Nat), k ≤ A.length ∧ i = .int .i64 (k : Int) ∧ Bx (Lib.IsBuilderF 107 5 w0.heap.size mb (Lib.byteCells (hexL (A.take k))) wr) ∧ Sat w0 [] wr) (fun i _ => A.length - (intOf i).toNat)
  case atStart => exact ⟨0, Nat.zero_le _, rfl, ⟨hI0⟩, hS⟩
  case round =>
    clear hS hI0
    obtain ⟨k, hk, rfl, hI, hS⟩ := hrel
    by_cases hlt : k < A.length
    · obtain ⟨x, hx⟩ : ∃ x, A[k]? = some x := ⟨_, List.getElem?_eq_getElem hlt⟩
      obtain ⟨n, hn, hn2⟩ : ∃ n : Nat, x = n ∧ n < 256 := by
        have := HA.out x (List.mem_of_getElem? hx)
        unfold okByte at this
        exact ⟨x.toNat, by omega, by omega⟩
      subst hn
      have ha := and15_u8 hn2
      have h16 : n % 16 < 16 := Nat.mod_lt _ (by decide)
      have hne : A ≠ [] := by intro e; subst e; simp at hlt
      obtain ⟨b, off, rfl, hBA⟩ := hat hne
      have HB : Bx _ := ⟨hBA⟩
      clear hBA hat
      have hlen : (hexL (A.take k)).length ≤ 2000000 := by rw [hexL_len, List.length_take]; omega
      go_wp2_with (first | (refine loadB (f := by8) hS rfl rfl rfl HB.out k 0 ?_ hx rfl ?_; omega; simp only [putW]) | (refine indexL (l := digS) (n := n / 16) (b := hexd (n / 16)) rfl rfl rfl rfl Tryz.underlying9 ?_ ?_ ?_; (focus ((rw [Int.natCast_ediv]; rfl))); (focus (exact digS_get (by omega))); simp only [putW]) | (guard_target =~ Calls _ 92 _ _ _; refine Stopped.out ?_))
      refine ⟨?_⟩
      refine Calls.mono (wb_any _ hI hS (by omega)) ?_
      clear hS hI
      rintro _ w ⟨rfl, hI, hS⟩
      simp only [putW]
      go_wp2_with (first | (refine indexL (l := digS) (n := n % 16) (b := hexd (n % 16)) rfl rfl rfl rfl Tryz.underlying9 ?_ ?_ ?_; (focus (rfl)); (focus (exact digS_get h16)); simp only [putW]) | (guard_target =~ Calls _ 92 _ _ _; refine Stopped.out ?_))
      refine ⟨?_⟩
      refine Calls.mono (wb_any _ hI hS (by simp; omega)) ?_
      clear hS hI
      rintro _ w ⟨rfl, hI, hS⟩
      simp only [putW]
      have hI2 : Bld w0 mb (hexL (A.take (k + 1))) w := by
        rw [hexL_take hx]
        simp only [List.append_assoc, List.cons_append, List.nil_append] at hI
        exact hI
      clear hI
      go_wp2_with (refine load1 hS rfl rfl rfl rfl ?_; simp only [putW])
      go_roundw
      case rel => exact ⟨k + 1, by omega, by go_num, hI2, hS⟩
      case measure => simp only [intOf]; omega
    · have hke : A.take k = A := List.take_of_length_le (by omega)
      rw [hke] at hI
      go_wp2_with (guard_target =~ Calls _ 66 _ _ _; refine Stopped.out ?_)
      refine ⟨?_⟩
      refine Calls.mono (bs_any hI hS) ?_
      clear hS hI
      rintro _ w ⟨rfl, hS⟩
      simp only [putW]
      go_wp2_with (refine load1 hS rfl rfl rfl rfl ?_; simp only [putW])
      go_ret
      exact ⟨rfl, hS⟩

/-! ### unhex -/
theorem unhexW_odd : ∀ (l : Bs), l.length % 2 = 1 → unhexW l = none
  | [], h => by simp at h
  | [_], _ => rfl
  | a :: b :: l, h => by
    rw [unhexW, unhexW_odd l (by simp only [List.length_cons] at h; omega)]
    split <;> rfl
theorem unhexW_drop {l : Bs} {k : Nat} {a b : UInt8} (ha : l[k]? = some a) (hb : l[k + 1]? = some b) : l.drop k = a :: b :: l.drop (k + 2) := by
  obtain ⟨h1, h2⟩ := List.getElem?_eq_some_iff.1 ha
  obtain ⟨h3, h4⟩ := List.getElem?_eq_some_iff.1 hb
  rw [List.drop_eq_getElem_cons h1, List.drop_eq_getElem_cons h3, h2, h4]
theorem hexI_lt (c : UInt8) : -1 ≤ hexI c ∧ hexI c < 16 := by
  refine ⟨Lib.indexByte_ge _ _, ?_⟩
  rcases Int.lt_or_le (hexI c) 0 with h | h
  · omega
  · exact (hexI_back h).1
theorem or16 {a b : Nat} (ha : a < 16) (hb : b < 16) : bits .or .i64 ((a : Int) * 16) (b : Int) = ((a * 16 + b : Nat) : Int) := by
  have h : ∀ a b : Fin 16, bits .or .i64 ((a.val : Int) * 16) (b.val : Int) = ((a.val * 16 + b.val : Nat) : Int) := by decide +kernel
  exact h ⟨a, ha⟩ ⟨b, hb⟩
theorem hexIx_any (b : UInt8) : Calls Tryz.prog 93 #[str digS, .int .u8 (b.toNat : Int)] w0 fun e w' => e = .returned (.int .i64 (hexI b)) ∧ Sat w0 [] w' := indexByte_any digS b
set_option maxRecDepth 100000 in
set_option maxHeartbeats 1000000 in
theorem unhex_any {l : Bs} (hl : l.length ≤ 1000000) :
    Calls Tryz.prog 78 #[str l] w0 fun e w' => (∃ A v, unhexW l = some A ∧ e = .returned v ∧ Sat w0 [(blk v, sl 1 by8 A 5 v)] w') ∨ (unhexW l = none ∧ e = .panicked badP ∧ Sat w0 [] w') := by
  have hS := Sat.refl w0
  by_cases hp : l.length % 2 = 0
  · have hr : (((l.length : Nat) : Int) % 2 == 0) = true := by
      have : ((l.length : Nat) : Int) % 2 = 0 := by omega
      simp [this]
    go_enter Tryz.func78, Tryz.ntmps78
    go_wp2_with (go_at_call 25; refine Calls.mono (want_ok rfl) ?_; rintro _ w2 ⟨rfl, h2⟩; replace hS := hS.frame h2; clear h2; (try simp only [List.cons_append, List.nil_append] at hS); simp only [putW])
    clear hr
    have hS1 := hS.slNil 1 by8 5
    clear hS
    have hS := hS1
    clear hS1
    have H0 : Bx (unhexW l = (unhexW (l.drop (2 * 0))).map fun m => ([] : List Int) ++ m) := ⟨by simp⟩
    go_loopw [3, 4] (fun vv i wr => ∃ (k : Nat) (L : List Int), 2 * k ≤ l.length ∧ L.length ≤ k ∧ i = .int .i64 ((2 * k : Nat) : Int) ∧ Bx (unhexW l = (unhexW (l.drop (2 * k))).map fun m => L ++ m) ∧ Sat w0 [(blk vv, sl 1 by8 L 5 vv)] wr) (fun _ i _ => l.length + 2 - (intOf i).toNat)
    case atStart => exact ⟨0, [], by omega, by simp, rfl, H0, hS⟩
    case round =>
      clear hS H0
      obtain ⟨k, L, hk, hL, rfl, hE, hS⟩ := hrel
      by_cases hlt : 2 * k < l.length
      · obtain ⟨a, ha⟩ : ∃ a, l[2 * k]? = some a := ⟨_, List.getElem?_eq_getElem hlt⟩
        obtain ⟨b, hb⟩ : ∃ b, l[2 * k + 1]? = some b := ⟨_, List.getElem?_eq_getElem (by omega)⟩
        have HD : Bx (l.drop (2 * k) = a :: b :: l.drop (2 * k + 2)) := ⟨unhexW_drop ha hb⟩
        obtain ⟨x, hx⟩ : ∃ x, hexI a = x := ⟨_, rfl⟩
        obtain ⟨y, hy⟩ : ∃ y, hexI b = y := ⟨_, rfl⟩
        have hxl := hexI_lt a
        have hyl := hexI_lt b
        rw [hx] at hxl
        rw [hy] at hyl
        have HX : Bx (hexI a = x ∧ hexI b = y) := ⟨⟨hx, hy⟩⟩
        have ca : ∀ w0 : World, Calls Tryz.prog 93 #[str digS, .int .u8 (a.toNat : Int)] w0 fun e w' => e = .returned (.int .i64 x) ∧ Sat w0 [] w' := fun w0 => by rw [← hx]; exact hexIx_any a
        have cb : ∀ w0 : World, Calls Tryz.prog 93 #[str digS, .int .u8 (b.toNat : Int)] w0 fun e w' => e = .returned (.int .i64 y) ∧ Sat w0 [] w' := fun w0 => by rw [← hy]; exact hexIx_any b
        clear hx hy
        have hwr : IntKind.i64.wrap (2 * (k : Int) + 1) = 2 * k + 1 := by simp [IntKind.wrap, IntKind.bits, IntKind.signed]; omega
        go_upto_region 6 with (refine load1 hS rfl rfl rfl rfl ?_; simp only [putW])
        (refine region_quiet hS (by kernel_rfl) (by kernel_rfl) (by kernel_rfl) ?_; clear hS; (repeat (first | (apply quiet_go rfl Tryz.call93 rfl; (focus (intro w hS; refine Calls.mono (ca _) ?_; rintro _ w2 ⟨rfl, h2⟩; exact ⟨rfl, hS.frame h2⟩)); simp only [putW]) | (apply quiet_go rfl Tryz.call93 rfl; (focus (intro w hS; refine Calls.mono (cb _) ?_; rintro _ w2 ⟨rfl, h2⟩; exact ⟨rfl, hS.frame h2⟩)); simp only [putW]) | (refine quiet_y (yIndex (l := l) (n := 2 * k) (b := a) rfl rfl rfl rfl Tryz.underlying9 (by omega) ha) ?_; simp only [putW]) | (refine quiet_y (yIndex (l := l) (n := 2 * k + 1) (b := b) rfl rfl rfl rfl Tryz.underlying9 (by omega) hb) ?_; simp only [putW]) | (refine quiet_y (yMove rfl rfl rfl) ?_; simp only [evW, putW]) | (apply quiet_y; (focus (apply yRun rfl; intro w; first | (go_simp; done) | (go_simp; rfl))); simp only [putW]))); refine quiet_nil ?_; intro w hS)
        clear ca cb hwr
        by_cases hx0 : 0 ≤ x
        · by_cases hy0 : 0 ≤ y
          · obtain ⟨p, rfl⟩ : ∃ p : Nat, x = p := ⟨x.toNat, by omega⟩
            obtain ⟨q, rfl⟩ : ∃ q : Nat, y = q := ⟨y.toNat, by omega⟩
            have hp16 : p < 16 := by omega
            have hq16 : q < 16 := by omega
            have hor := or16 hp16 hq16
            have HS : Bx (unhexW l = (unhexW (l.drop (2 * k + 2))).map fun m => (L ++ [((p * 16 + q : Nat) : Int)]) ++ m) := ⟨by
              rw [hE.out, HD.out, unhexW, HX.out.1, HX.out.2, if_pos ⟨by omega, by omega⟩, Option.map_map]
              congr 1
              funext m
              simp⟩
            clear hE HD HX
            go_wp2_with (first | (go_at_call 25; refine Calls.mono (want_ok rfl) ?_; rintro _ w2 ⟨rfl, h2⟩; replace hS := hS.frame h2; clear h2; (try simp only [List.cons_append, List.nil_append] at hS); simp only [putW]) | (refine buildSlice1 (c := #[.int .u8 ((p * 16 + q : Nat) : Int)]) hS rfl rfl rfl ?_ ?_ ?_ ?_; rfl; rfl; rfl; clear hS; intro mb w hS; simp only [putW]) | (refine append1 (f := by8) hS rfl rfl u3 rfl rfl ((p * 16 + q : Nat) : Int) ?_ ?_ ?_ ?_ ?_ ?_; rfl; (focus (simp [by8, one, Value.oneCell']; done)); rfl; (focus (simp [maxLen]; omega)); (focus (omega)); clear hS; intro v' w hS; simp only [putW]))
            go_roundw
            case rel => exact ⟨k + 1, L ++ [((p * 16 + q : Nat) : Int)], by omega, by simp; omega, by go_num, HS, hS⟩
            case measure => simp only [intOf]; omega
          · have HN : Bx (unhexW l = none) := ⟨by
              rw [hE.out, HD.out, unhexW, HX.out.1, HX.out.2, if_neg fun h => hy0 h.2]; rfl⟩
            clear hE HD HX
            go_wp2_with (go_at_call 25; refine Calls.mono (want_no rfl) ?_; rintro _ w2 ⟨rfl, h2⟩; replace hS := hS.frame h2; clear h2; (try simp only [List.cons_append, List.nil_append] at hS); simp only [putW])
            exact ⟨rfl, .inr ⟨HN.out, rfl, hS.nothing⟩⟩
        · have HN : Bx (unhexW l = none) := ⟨by
            rw [hE.out, HD.out, unhexW, HX.out.1, HX.out.2, if_neg fun h => hx0 h.1]; rfl⟩
          clear hE HD HX
          go_wp2_with (go_at_call 25; refine Calls.mono (want_no rfl) ?_; rintro _ w2 ⟨rfl, h2⟩; replace hS := hS.frame h2; clear h2; (try simp only [List.cons_append, List.nil_append] at hS); simp only [putW])
          exact ⟨rfl, .inr ⟨HN.out, rfl, hS.nothing⟩⟩
      · have HN : Bx (unhexW l = some L) := ⟨by
          rw [hE.out, List.drop_eq_nil_of_le (by omega)]
          simp [unhexW]⟩
        clear hE
        go_wp2_with (refine load1 hS rfl rfl rfl rfl ?_; simp only [putW])
        go_ret
        exact .inl ⟨L, _, HN.out, rfl, hS⟩
  · have hr : (((l.length : Nat) : Int) % 2 == 0) = false := by
      have : ((l.length : Nat) : Int) % 2 ≠ 0 := by omega
      simp [this]
    go_enter Tryz.func78, Tryz.ntmps78
    go_wp2_with (go_at_call 25; refine Calls.mono (want_no rfl) ?_; rintro _ w2 ⟨rfl, h2⟩; replace hS := hS.frame h2; clear h2; (try simp only [List.cons_append, List.nil_append] at hS); simp only [putW])
    exact ⟨rfl, .inr ⟨unhexW_odd l (by omega), rfl, hS⟩⟩
end
end Go.Proofs.YtpbjkfomdindnaaGreatDoor
