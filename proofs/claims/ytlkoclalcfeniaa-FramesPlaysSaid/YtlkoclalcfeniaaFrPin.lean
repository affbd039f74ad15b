/-
  frames: pins as keys; Warm, Pin.
-/
import Derived.Test.YtlkoclalcfeniaaFrGet
import Derived.Test.YtlkoclalcfeniaaSlKey
import Derived.Test.YtlkoclalcfeniaaSlItDel
set_option linter.unusedSimpArgs false
set_option linter.unusedVariables false
namespace Go.Proofs.Ytlkoclalcfeniaa
open Go.RowKit Go.Proofs.Ytlkoclalcfeniaa.Sl Go.Proofs.Ytlkoclalcfeniaa.Jp

def okI (n : Int) : Prop := -9223372036854775808 ≤ n ∧ n ≤ 9223372036854775807
/-- A pin. -/
abbrev PinW := {x : Int × Int // okI x.1 ∧ okI x.2}
def encW (p : PinW) : Value := encP p.1
abbrev PinsW := List (PinW × Unit)
/-- The same pins without their bounds. -/
def low (PL : PinsW) : Pins := PL.map fun p => (p.1.1, p.2)
theorem encW_inj (x y : PinW) (h : encW x = encW y) : x = y := by
  obtain ⟨⟨a, b⟩, _⟩ := x
  obtain ⟨⟨c, d⟩, _⟩ := y
  have h1 : (#[Value.int .i64 a, .int .i64 b] : Array Value) = #[.int .i64 c, .int .i64 d] := by injection h
  simp at h1
  exact Subtype.ext (Prod.ext h1.1 h1.2)
theorem wfI {n : Int} (h : okI n) : (Lit.int .i64 n).wf = true := by
  obtain ⟨h1, h2⟩ := h
  have h3 : IntKind.i64.min ≤ n := h1
  have h4 : n ≤ IntKind.i64.max := h2
  show (decide (IntKind.i64.min ≤ n) && decide (n ≤ IntKind.i64.max)) = true
  simp [h2, h3, h4]
theorem cellsPin : Try.prog.cellsOf 75 = 2 := by kernel_rfl
theorem cellsInt : Try.prog.cellsOf 3 = 1 := by kernel_rfl
theorem litsP (d : Nat) (x : PinW) : ∃ L, Try.prog.keyLits (d + 2) 75 [.int .i64 x.1.1, .int .i64 x.1.2] = some L := by
  have h1 : ∀ n, okI n → Try.prog.keyLits (d + 1) 3 [.int .i64 n] = some [.int .i64 n] := fun n hn => by
    unfold Program.keyLits
    rw [Try.underlying3]
    simp only [wfI hn, and_self, if_true]
  unfold Program.keyLits
  rw [Try.underlying75]
  simp [cellsPin, cellsInt, h1 _ x.2.1, h1 _ x.2.2]
theorem keyP (x : PinW) : ∃ l, keyOf Try.prog 75 (encW x) = some l := by
  unfold keyOf
  rw [Try.underlying75]
  have h1 : Try.prog.keyType 75 = true := by kernel_rfl
  have h2 : (encW x).formed Try.prog 75 = true := by
    unfold Value.formed encW encP
    rw [Try.underlying75]
    simp [cellsPin]
  obtain ⟨d, hd⟩ : ∃ d, Try.prog.types.size + 1 = d + 2 := ⟨Try.prog.types.size - 1, by have : 1 ≤ Try.prog.types.size := of_decide_eq_true (by kernel_rfl); omega⟩
  obtain ⟨L, hL⟩ := litsP d x
  have h3 : (encW x).cells.toList = [.int .i64 x.1.1, .int .i64 x.1.2] := by simp [encW, encP, Value.cells]
  rw [h1, h2, hd, h3, hL]
  exact ⟨_, rfl⟩
instance keyEncP : KeyEncW Try.prog 75 encW :=
  KeyEncW.of_law (deep_law_gate (by kernel_rfl) (of_decide_eq_true (by kernel_rfl)) (of_decide_eq_true (by kernel_rfl)) (by kernel_rfl) (by kernel_rfl)) keyP encW_inj
theorem mem_low {PL : PinsW} {p : PinK × Unit} (h : p ∈ low PL) : ∃ q : PinW, q ∈ mkeys PL ∧ q.1 = p.1 := by
  obtain ⟨q, h1, rfl⟩ := List.mem_map.1 h
  exact ⟨q.1, List.mem_map.2 ⟨q, h1, rfl⟩, rfl⟩
theorem pinned_low {PL : PinsW} {key : Int} : pinnedB (low PL) key = true ↔ ∃ q : PinW, q ∈ mkeys PL ∧ q.1.2 = key := by
  unfold pinnedB
  rw [List.any_eq_true]
  constructor
  · rintro ⟨p, hp, hk⟩
    obtain ⟨q, h1, h2⟩ := mem_low hp
    exact ⟨q, h1, by rw [h2]; simpa using hk⟩
  · rintro ⟨q, hq, hk⟩
    obtain ⟨r, hr, rfl⟩ := List.mem_map.1 hq
    exact ⟨(r.1.1, r.2), List.mem_map.2 ⟨r, hr, rfl⟩, by simpa using hk⟩
section
variable {w0 w : World} {K F S : List Chunk} {t j b : Nat} {T : Tb} {FL FL1 FL2 : Frs} {PL : PinsW} {SL : Shs} {now : Nat} {sp : Spots} {key task : Int}
theorem map_low (PL : PinsW) : (low PL).map (fun p => (encP p.1, uV p.2)) = PL.map fun p => (encW p.1, uV p.2) := by
  unfold low
  rw [List.map_map]
  rfl
theorem nodup_low {PL : PinsW} : (mkeys (low PL)).Nodup ↔ (mkeys PL).Nodup := by
  have e : mkeys (low PL) = (mkeys PL).map Subtype.val := by
    unfold low mkeys
    rw [List.map_map, List.map_map]
    rfl
  rw [e]
  exact ⟨fun h => (List.pairwise_map.1 h).imp fun h1 h2 => h1 (by rw [h2]), fun h => List.pairwise_map.2 (h.imp fun h1 h2 => h1 (Subtype.ext h2))⟩
theorem toLow (h : Sat w0 S w) [p : Pull S b (mapC encW uV PL) F] : Sat w0 ((b, mapC encP uV (low PL)) :: F) w :=
  (h.perm p.perm).turn fun _ ⟨es, clk, a1, a2, a3, a4⟩ => ⟨es, clk, a1, a2.trans (map_low PL).symm, a3, nodup_low.2 a4⟩
theorem ofLow (h : Sat w0 S w) [p : Pull S b (mapC encP uV (low PL)) F] : Sat w0 ((b, mapC encW uV PL) :: F) w :=
  (h.perm p.perm).turn fun _ ⟨es, clk, a1, a2, a3, a4⟩ => ⟨es, clk, a1, a2.trans (map_low PL), a3, nodup_low.1 a4⟩
set_option maxRecDepth 100000 in
set_option maxHeartbeats 1000000 in
theorem warm_any {bts : Nat} (hx : (mget FL key).isSome = true) (hn : now ≤ 900000) (hsp : SpOk now sp) (hS : Sat w0 ((t, cells (tbC T) 65) :: (T.fm, mapC encInt frV FL) :: (T.hp, HeatC now sp) :: K) w) :
    Calls Try.prog 11 #[.pointer (some ⟨t, 0, none⟩), .int .i64 key, .float .f64 bts] w fun e w' => ∃ r, e = .returned (.tuple #[]) ∧ (((now : Int) + 1 - (spotOf sp key).2 < 16 ∨ NumF (spotOf sp key).1) → r = sumR (rightF (coolF (now + 1) (spotOf sp key))) bts) ∧ Sat w0 ((t, cells (tbC T) 65) :: (T.fm, mapC encInt frV FL) :: (T.hp, HeatC (now + 1) (mput sp key (r, ((now + 1 : Nat) : Int)))) :: K) w' := by
  have HSP : Bx _ := ⟨hsp⟩
  have Hx : Bx _ := ⟨hx⟩
  clear hx hsp
  go_enter Try.func11, Try.ntmps11
  go_wp2_with (first | (guard_target =~ Calls _ 31 _ _ _; refine Stopped.out ?_) | (refine load1 hS rfl rfl rfl rfl ?_; simp only [putW]) | (refine loadAll hS rfl rfl rfl ?_ ?_; rfl; simp only [putW]) | (refine loadPart hS rfl rfl rfl ?_ rfl ?_; rfl; simp only [putW]) | (refine store1 hS rfl rfl rfl rfl rfl ?_ ?_; (focus (simp; done)); clear hS; intro w hS; simp only [evW, putW] at hS; try simp only [putW]) | (refine storeAll hS rfl rfl rfl rfl ?_ ?_ ?_ ?_; rfl; (focus (simp [Value.oneCell']; done)); rfl; clear hS; intro w hS; try simp only [putW]) | (refine storeN hS rfl rfl rfl rfl ?_ ?_ ?_ ?_; rfl; (focus (simp [Value.oneCell']; done)); (focus (simp; done)); clear hS; intro w hS; simp at hS; try simp only [putW]) | (refine alloc hS rfl rfl ?_; clear hS; intro mb w hS; simp only [putW]) | (refine box1 hS rfl rfl rfl rfl ?_; clear hS; intro mb w hS; try simp only [evW, putW] at hS; simp only [putW]) | (refine boxN hS rfl rfl rfl ?_; clear hS; intro mb w hS; simp only [putW]))
  refine ⟨?_⟩
  refine Calls.mono (find_any (key := key) hS) ?_
  clear hS
  rintro _ w ⟨rfl, hS⟩
  rw [Hx.out]
  obtain ⟨fv, hfv⟩ : ∃ v, ((mget FL key).getD fr0).1 = v := ⟨_, rfl⟩
  rw [hfv]
  clear hfv
  simp only [putW, if_true]
  go_wp2_with (first | (guard_target =~ Calls _ 32 _ _ _; refine Stopped.out ?_) | (refine load1 hS rfl rfl rfl rfl ?_; simp only [putW]) | (refine loadAll hS rfl rfl rfl ?_ ?_; rfl; simp only [putW]) | (refine loadPart hS rfl rfl rfl ?_ rfl ?_; rfl; simp only [putW]) | (refine store1 hS rfl rfl rfl rfl rfl ?_ ?_; (focus (simp; done)); clear hS; intro w hS; simp only [evW, putW] at hS; try simp only [putW]) | (refine storeAll hS rfl rfl rfl rfl ?_ ?_ ?_ ?_; rfl; (focus (simp [Value.oneCell']; done)); rfl; clear hS; intro w hS; try simp only [putW]) | (refine storeN hS rfl rfl rfl rfl ?_ ?_ ?_ ?_; rfl; (focus (simp [Value.oneCell']; done)); (focus (simp; done)); clear hS; intro w hS; simp at hS; try simp only [putW]) | (refine alloc hS rfl rfl ?_; clear hS; intro mb w hS; simp only [putW]) | (refine box1 hS rfl rfl rfl rfl ?_; clear hS; intro mb w hS; try simp only [evW, putW] at hS; simp only [putW]) | (refine boxN hS rfl rfl rfl ?_; clear hS; intro mb w hS; simp only [putW]))
  refine ⟨?_⟩
  refine Calls.mono (touch_any (key := key) (hS.conv (S' := (T.hp, HeatC now sp) :: (t, cells (tbC T) 65) :: (T.fm, mapC encInt frV FL) :: K)) hn HSP.out) ?_
  clear hS
  rintro _ w ⟨r, rfl, hr, hS⟩
  have Hr : Bx _ := ⟨hr⟩
  clear hr
  simp only [putW]
  go_wp2_with (first | (refine load1 hS rfl rfl rfl rfl ?_; simp only [putW]) | (refine loadAll hS rfl rfl rfl ?_ ?_; rfl; simp only [putW]) | (refine loadPart hS rfl rfl rfl ?_ rfl ?_; rfl; simp only [putW]) | (refine store1 hS rfl rfl rfl rfl rfl ?_ ?_; (focus (simp; done)); clear hS; intro w hS; simp only [evW, putW] at hS; try simp only [putW]) | (refine storeAll hS rfl rfl rfl rfl ?_ ?_ ?_ ?_; rfl; (focus (simp [Value.oneCell']; done)); rfl; clear hS; intro w hS; try simp only [putW]) | (refine storeN hS rfl rfl rfl rfl ?_ ?_ ?_ ?_; rfl; (focus (simp [Value.oneCell']; done)); (focus (simp; done)); clear hS; intro w hS; simp at hS; try simp only [putW]) | (refine alloc hS rfl rfl ?_; clear hS; intro mb w hS; simp only [putW]) | (refine box1 hS rfl rfl rfl rfl ?_; clear hS; intro mb w hS; try simp only [evW, putW] at hS; simp only [putW]) | (refine boxN hS rfl rfl rfl ?_; clear hS; intro mb w hS; simp only [putW]))
  go_end0
  exact ⟨r, rfl, Hr.out, hS.conv⟩
set_option maxRecDepth 100000 in
set_option maxHeartbeats 1000000 in
theorem pin_any {pk : PinW} (hx : (mget FL pk.1.2).isSome = true) (hS : Sat w0 ((t, cells (tbC T) 65) :: (T.fm, mapC encInt frV FL) :: (T.pm, mapC encW uV PL) :: K) w) :
    Calls Try.prog 12 #[.pointer (some ⟨t, 0, none⟩), .int .i64 pk.1.1, .int .i64 pk.1.2] w fun e w' => e = .returned (.int .i64 0) ∧ Sat w0 ((t, cells (tbC T) 65) :: (T.fm, mapC encInt frV FL) :: (T.pm, mapC encW uV (mput PL pk ())) :: K) w' := by
  have Hx : Bx _ := ⟨hx⟩
  clear hx
  go_enter Try.func12, Try.ntmps12
  go_wp2_with (first | (guard_target =~ Calls _ 31 _ _ _; refine Stopped.out ?_) | (refine load1 hS rfl rfl rfl rfl ?_; simp only [putW]) | (refine loadAll hS rfl rfl rfl ?_ ?_; rfl; simp only [putW]) | (refine loadPart hS rfl rfl rfl ?_ rfl ?_; rfl; simp only [putW]) | (refine store1 hS rfl rfl rfl rfl rfl ?_ ?_; (focus (simp; done)); clear hS; intro w hS; simp only [evW, putW] at hS; try simp only [putW]) | (refine storeAll hS rfl rfl rfl rfl ?_ ?_ ?_ ?_; rfl; (focus (simp [Value.oneCell']; done)); rfl; clear hS; intro w hS; try simp only [putW]) | (refine storeN hS rfl rfl rfl rfl ?_ ?_ ?_ ?_; rfl; (focus (simp [Value.oneCell']; done)); (focus (simp; done)); clear hS; intro w hS; simp at hS; try simp only [putW]) | (refine alloc hS rfl rfl ?_; clear hS; intro mb w hS; simp only [putW]) | (refine box1 hS rfl rfl rfl rfl ?_; clear hS; intro mb w hS; try simp only [evW, putW] at hS; simp only [putW]) | (refine boxN hS rfl rfl rfl ?_; clear hS; intro mb w hS; simp only [putW]))
  refine ⟨?_⟩
  refine Calls.mono (find_any (key := pk.1.2) hS) ?_
  clear hS
  rintro _ w ⟨rfl, hS⟩
  rw [Hx.out]
  obtain ⟨fv, hfv⟩ : ∃ v, ((mget FL pk.1.2).getD fr0).1 = v := ⟨_, rfl⟩
  rw [hfv]
  clear hfv
  simp only [putW, if_true]
  go_wp2_with (first | (refine mapUpdateW (b := T.pm) (enc := encW) (ve := uV) (l := PL) hS rfl rfl pk () rfl rfl rfl ?_; clear hS; intro w hS; try simp only [putW]) | (refine load1 hS rfl rfl rfl rfl ?_; simp only [putW]) | (refine loadAll hS rfl rfl rfl ?_ ?_; rfl; simp only [putW]) | (refine loadPart hS rfl rfl rfl ?_ rfl ?_; rfl; simp only [putW]) | (refine store1 hS rfl rfl rfl rfl rfl ?_ ?_; (focus (simp; done)); clear hS; intro w hS; simp only [evW, putW] at hS; try simp only [putW]) | (refine storeAll hS rfl rfl rfl rfl ?_ ?_ ?_ ?_; rfl; (focus (simp [Value.oneCell']; done)); rfl; clear hS; intro w hS; try simp only [putW]) | (refine storeN hS rfl rfl rfl rfl ?_ ?_ ?_ ?_; rfl; (focus (simp [Value.oneCell']; done)); (focus (simp; done)); clear hS; intro w hS; simp at hS; try simp only [putW]) | (refine alloc hS rfl rfl ?_; clear hS; intro mb w hS; simp only [putW]) | (refine box1 hS rfl rfl rfl rfl ?_; clear hS; intro mb w hS; try simp only [evW, putW] at hS; simp only [putW]) | (refine boxN hS rfl rfl rfl ?_; clear hS; intro mb w hS; simp only [putW]))
  go_ret
  exact ⟨rfl, hS.conv⟩
end
end Go.Proofs.Ytlkoclalcfeniaa
