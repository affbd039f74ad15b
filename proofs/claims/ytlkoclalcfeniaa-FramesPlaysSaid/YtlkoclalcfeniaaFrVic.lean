/-
  frames: Get, Pinned, Victim.
-/
import Derived.Test.YtlkoclalcfeniaaFrTab
set_option linter.unusedSimpArgs false
set_option linter.unusedVariables false
namespace Go.Proofs.Ytlkoclalcfeniaa
open Go.RowKit Go.Proofs.Ytlkoclalcfeniaa.Sl Go.Proofs.Ytlkoclalcfeniaa.Jp

def pinnedB (PL : Pins) (key : Int) : Bool := PL.any fun p => p.1.2 == key
theorem pinnedB_mid (L1 L2 : Pins) (p : PinK × Unit) (key : Int) : pinnedB (L1 ++ p :: L2) key = (p.1.2 == key || pinnedB (L1 ++ L2) key) := by
  unfold pinnedB
  simp only [List.any_append, List.any_cons]
  cases L1.any fun p => p.1.2 == key <;> cases (p.1.2 == key) <;> rfl
/-- The keys that nobody pins. -/
def loose (PL : Pins) (ks : List Int) : List Int := ks.filter fun k => !pinnedB PL k
theorem loose_mid (PL : Pins) (L1 L2 : Frs) (k : Int) (x : FrV) : (loose PL (mkeys (L1 ++ (k, x) :: L2))).Perm ((if pinnedB PL k then [] else [k]) ++ loose PL (mkeys (L1 ++ L2))) := by
  unfold loose mkeys
  simp only [List.map_append, List.map_cons, List.filter_append, List.filter_cons]
  cases pinnedB PL k with
  | true => simp
  | false => simp
section
variable {w0 w : World} {K F S : List Chunk} {t j : Nat} {T : Tb} {FL FL1 FL2 : Frs} {PL : Pins} {SL : Shs} {now : Nat} {sp : Spots} {key : Int}
set_option maxRecDepth 100000 in
set_option maxHeartbeats 1000000 in
theorem pinned_any (hS : Sat w0 ((t, cells (tbC T) 65) :: (T.pm, mapC encP uV PL) :: K) w) : Calls Try.prog 16 #[.pointer (some ⟨t, 0, none⟩), .int .i64 key] w fun e w' => e = .returned (.bool (pinnedB PL key)) ∧ Sat w0 ((t, cells (tbC T) 65) :: (T.pm, mapC encP uV PL) :: K) w' := by
  obtain ⟨n, hn⟩ : ∃ n, PL.length = n := ⟨_, rfl⟩
  have Hn : Bx _ := ⟨hn⟩
  clear hn
  go_enter Try.func16, Try.ntmps16
  go_wp2_with (first | (guard_target =~ wpList _ _ _ (Oper.mk (some 12) _ _ _ _ _ :: _) _ _; refine Stopped.out ?_) | (refine load1 hS rfl rfl rfl rfl ?_; simp only [putW]) | (refine loadAll hS rfl rfl rfl ?_ ?_; rfl; simp only [putW]) | (refine loadPart hS rfl rfl rfl ?_ rfl ?_; rfl; simp only [putW]) | (refine store1 hS rfl rfl rfl rfl rfl ?_ ?_; (focus (simp; done)); clear hS; intro w hS; simp only [evW, putW] at hS; try simp only [putW]) | (refine storeAll hS rfl rfl rfl rfl ?_ ?_ ?_ ?_; rfl; (focus (simp [Value.oneCell']; done)); rfl; clear hS; intro w hS; try simp only [putW]) | (refine storeN hS rfl rfl rfl rfl ?_ ?_ ?_ ?_; rfl; (focus (simp [Value.oneCell']; done)); (focus (simp; done)); clear hS; intro w hS; simp at hS; try simp only [putW]) | (refine alloc hS rfl rfl ?_; clear hS; intro mb w hS; simp only [putW]) | (refine box1 hS rfl rfl rfl rfl ?_; clear hS; intro mb w hS; try simp only [evW, putW] at hS; simp only [putW]) | (refine boxN hS rfl rfl rfl ?_; clear hS; intro mb w hS; simp only [putW]))
  refine ⟨?_⟩
  refine rangeMap (b := T.pm) (enc := encP) (ve := uV) (l := PL) hS rfl rfl rfl ?_
  clear hS
  intro r w hS
  simp only [putW]
  go_wp2_with (first | (refine load1 hS rfl rfl rfl rfl ?_; simp only [putW]) | (refine loadAll hS rfl rfl rfl ?_ ?_; rfl; simp only [putW]) | (refine loadPart hS rfl rfl rfl ?_ rfl ?_; rfl; simp only [putW]) | (refine store1 hS rfl rfl rfl rfl rfl ?_ ?_; (focus (simp; done)); clear hS; intro w hS; simp only [evW, putW] at hS; try simp only [putW]) | (refine storeAll hS rfl rfl rfl rfl ?_ ?_ ?_ ?_; rfl; (focus (simp [Value.oneCell']; done)); rfl; clear hS; intro w hS; try simp only [putW]) | (refine storeN hS rfl rfl rfl rfl ?_ ?_ ?_ ?_; rfl; (focus (simp [Value.oneCell']; done)); (focus (simp; done)); clear hS; intro w hS; simp at hS; try simp only [putW]) | (refine alloc hS rfl rfl ?_; clear hS; intro mb w hS; simp only [putW]) | (refine box1 hS rfl rfl rfl rfl ?_; clear hS; intro mb w hS; try simp only [evW, putW] at hS; simp only [putW]) | (refine boxN hS rfl rfl rfl ?_; clear hS; intro mb w hS; simp only [putW]))
  go_loopg [] n (fun g wr => ∃ left cur, left.length = g ∧ Bx (pinnedB PL key = pinnedB left key) ∧ Sat w0 ((r, itC encP uV T.pm PL left cur) :: (t, cells (tbC T) 65) :: K) wr)
  case atStart => exact ⟨PL, none, Hn.out, ⟨rfl⟩, hS.conv⟩
  case round =>
    clear hS
    obtain ⟨left, cur, hlen, hp, hS⟩ := hrel
    go_wp2_with (first | (guard_target =~ wpList _ _ _ (Oper.mk (some 13) _ _ _ _ _ :: _) _ _; refine Stopped.out ?_) | (refine load1 hS rfl rfl rfl rfl ?_; simp only [putW]) | (refine loadAll hS rfl rfl rfl ?_ ?_; rfl; simp only [putW]) | (refine loadPart hS rfl rfl rfl ?_ rfl ?_; rfl; simp only [putW]) | (refine store1 hS rfl rfl rfl rfl rfl ?_ ?_; (focus (simp; done)); clear hS; intro w hS; simp only [evW, putW] at hS; try simp only [putW]) | (refine storeAll hS rfl rfl rfl rfl ?_ ?_ ?_ ?_; rfl; (focus (simp [Value.oneCell']; done)); rfl; clear hS; intro w hS; try simp only [putW]) | (refine storeN hS rfl rfl rfl rfl ?_ ?_ ?_ ?_; rfl; (focus (simp [Value.oneCell']; done)); (focus (simp; done)); clear hS; intro w hS; simp at hS; try simp only [putW]) | (refine alloc hS rfl rfl ?_; clear hS; intro mb w hS; simp only [putW]) | (refine box1 hS rfl rfl rfl rfl ?_; clear hS; intro mb w hS; try simp only [evW, putW] at hS; simp only [putW]) | (refine boxN hS rfl rfl rfl ?_; clear hS; intro mb w hS; simp only [putW]))
    refine ⟨?_⟩
    refine nextMap (r := r) (b := T.pm) (enc := encP) (ve := uV) (l := PL) (left := left) (cur := cur) hS rfl rfl rfl ?_ ?_
    · intro hnil
      have hres : Bx (pinnedB PL key = false) := ⟨by rw [hp.out, hnil]; rfl⟩
      clear hnil
      simp only [putW]
      go_wp2_with (first | (refine load1 hS rfl rfl rfl rfl ?_; simp only [putW]) | (refine loadAll hS rfl rfl rfl ?_ ?_; rfl; simp only [putW]) | (refine loadPart hS rfl rfl rfl ?_ rfl ?_; rfl; simp only [putW]) | (refine store1 hS rfl rfl rfl rfl rfl ?_ ?_; (focus (simp; done)); clear hS; intro w hS; simp only [evW, putW] at hS; try simp only [putW]) | (refine storeAll hS rfl rfl rfl rfl ?_ ?_ ?_ ?_; rfl; (focus (simp [Value.oneCell']; done)); rfl; clear hS; intro w hS; try simp only [putW]) | (refine storeN hS rfl rfl rfl rfl ?_ ?_ ?_ ?_; rfl; (focus (simp [Value.oneCell']; done)); (focus (simp; done)); clear hS; intro w hS; simp at hS; try simp only [putW]) | (refine alloc hS rfl rfl ?_; clear hS; intro mb w hS; simp only [putW]) | (refine box1 hS rfl rfl rfl rfl ?_; clear hS; intro mb w hS; try simp only [evW, putW] at hS; simp only [putW]) | (refine boxN hS rfl rfl rfl ?_; clear hS; intro mb w hS; simp only [putW]))
      go_ret
      exact ⟨by rw [hres.out]; rfl, (hS.itDone (r := r) (b := T.pm)).conv⟩
    · intro L1 kk u L2 w' hsp hmem hnk hS'
      clear hS
      have hS := hS'
      clear hS' hmem hnk
      obtain ⟨pt, pk⟩ := kk
      have hpk := hp.out
      rw [hsp, pinnedB_mid] at hpk
      have hlen2 : (L1 ++ L2).length + 1 = gk := by rw [← hlen, hsp]; simp; omega
      have HP : Bx _ := ⟨hpk⟩
      clear hsp hpk hlen
      simp only [putW]
      by_cases hk : pk = key
      · have hres : Bx (pinnedB PL key = true) := ⟨by rw [HP.out]; simp [hk]⟩
        go_wp2_with (first | (refine entryMap (r := r) (b := T.pm) (enc := encP) (ve := uV) (l := PL) hS rfl rfl rfl ?_; simp only [putW, encP]) | (refine alloc (t := 75) hS rfl rfl ?_; clear hS; intro mp w hS; simp only [putW]) | (refine storeAll (cs := #[.int .i64 pt, .int .i64 pk]) hS rfl rfl rfl rfl ?_ ?_ ?_ ?_; (focus rfl); (focus (simp [Value.oneCell']; done)); (focus rfl); clear hS; intro w hS; try simp only [putW]) | (refine load1 hS rfl rfl rfl rfl ?_; simp only [putW]) | (refine loadAll hS rfl rfl rfl ?_ ?_; rfl; simp only [putW]) | (refine loadPart hS rfl rfl rfl ?_ rfl ?_; rfl; simp only [putW]) | (refine store1 hS rfl rfl rfl rfl rfl ?_ ?_; (focus (simp; done)); clear hS; intro w hS; simp only [evW, putW] at hS; try simp only [putW]) | (refine storeAll hS rfl rfl rfl rfl ?_ ?_ ?_ ?_; rfl; (focus (simp [Value.oneCell']; done)); rfl; clear hS; intro w hS; try simp only [putW]) | (refine storeN hS rfl rfl rfl rfl ?_ ?_ ?_ ?_; rfl; (focus (simp [Value.oneCell']; done)); (focus (simp; done)); clear hS; intro w hS; simp at hS; try simp only [putW]) | (refine alloc hS rfl rfl ?_; clear hS; intro mb w hS; simp only [putW]) | (refine box1 hS rfl rfl rfl rfl ?_; clear hS; intro mb w hS; try simp only [evW, putW] at hS; simp only [putW]) | (refine boxN hS rfl rfl rfl ?_; clear hS; intro mb w hS; simp only [putW]))
        go_ret
        exact ⟨by rw [hres.out]; rfl, ((hS.pull r (X := itC encP uV T.pm PL (L1 ++ L2) (some ((pt, pk), u)))).itDone (r := r) (b := T.pm)).conv⟩
      · have hres : Bx (pinnedB PL key = pinnedB (L1 ++ L2) key) := ⟨by rw [HP.out]; simp [hk]⟩
        go_wp2_with (first | (refine entryMap (r := r) (b := T.pm) (enc := encP) (ve := uV) (l := PL) hS rfl rfl rfl ?_; simp only [putW, encP]) | (refine alloc (t := 75) hS rfl rfl ?_; clear hS; intro mp w hS; simp only [putW]) | (refine storeAll (cs := #[.int .i64 pt, .int .i64 pk]) hS rfl rfl rfl rfl ?_ ?_ ?_ ?_; (focus rfl); (focus (simp [Value.oneCell']; done)); (focus rfl); clear hS; intro w hS; try simp only [putW]) | (refine load1 hS rfl rfl rfl rfl ?_; simp only [putW]) | (refine loadAll hS rfl rfl rfl ?_ ?_; rfl; simp only [putW]) | (refine loadPart hS rfl rfl rfl ?_ rfl ?_; rfl; simp only [putW]) | (refine store1 hS rfl rfl rfl rfl rfl ?_ ?_; (focus (simp; done)); clear hS; intro w hS; simp only [evW, putW] at hS; try simp only [putW]) | (refine storeAll hS rfl rfl rfl rfl ?_ ?_ ?_ ?_; rfl; (focus (simp [Value.oneCell']; done)); rfl; clear hS; intro w hS; try simp only [putW]) | (refine storeN hS rfl rfl rfl rfl ?_ ?_ ?_ ?_; rfl; (focus (simp [Value.oneCell']; done)); (focus (simp; done)); clear hS; intro w hS; simp at hS; try simp only [putW]) | (refine alloc hS rfl rfl ?_; clear hS; intro mb w hS; simp only [putW]) | (refine box1 hS rfl rfl rfl rfl ?_; clear hS; intro mb w hS; try simp only [evW, putW] at hS; simp only [putW]) | (refine boxN hS rfl rfl rfl ?_; clear hS; intro mb w hS; simp only [putW]))
        go_roundg ((L1 ++ L2).length)
        case measure => omega
        case rel => exact ⟨L1 ++ L2, some ((pt, pk), u), rfl, hres, hS.conv⟩
set_option maxRecDepth 100000 in
set_option maxHeartbeats 4000000 in
theorem victim_any (hF : FL.length ≤ 1024) (hm : ¬ ((FL.length : Int) < T.most)) (hn : now ≤ 1000000) (hsp : SpOk now sp) (hS : Sat w0 ((t, cells (tbC T) 65) :: (T.fm, mapC encInt frV FL) :: (T.pm, mapC encP uV PL) :: (T.hp, HeatC now sp) :: K) w) :
    Calls Try.prog 13 #[.pointer (some ⟨t, 0, none⟩)] w fun e w' => (∃ L, L.Perm (loose PL (mkeys FL)) ∧ ((L = [] ∧ e = .returned (.tuple #[.int .i64 0, .int .i64 12])) ∨ ∃ k bh, L ≠ [] ∧ ColdIs now sp L L.length k bh ∧ e = .returned (.tuple #[.int .i64 k, .int .i64 0]))) ∧ Sat w0 ((t, cells (tbC T) 65) :: (T.fm, mapC encInt frV FL) :: (T.pm, mapC encP uV PL) :: (T.hp, HeatC now sp) :: K) w' := by
  obtain ⟨nF, hnF⟩ : ∃ n, FL.length = n := ⟨_, rfl⟩
  have HnF : Bx _ := ⟨hnF⟩
  rw [hnF] at hm hF
  have hlt : decide ((nF : Int) < T.most) = false := decide_eq_false hm
  have HSP : Bx _ := ⟨hsp⟩
  clear hnF hsp hm
  go_enter Try.func13, Try.ntmps13
  go_upto_region 1 with (first | (refine load1 hS rfl rfl rfl rfl ?_; simp only [putW]) | (refine loadAll hS rfl rfl rfl ?_ ?_; rfl; simp only [putW]) | (refine loadPart hS rfl rfl rfl ?_ rfl ?_; rfl; simp only [putW]) | (refine store1 hS rfl rfl rfl rfl rfl ?_ ?_; (focus (simp; done)); clear hS; intro w hS; simp only [evW, putW] at hS; try simp only [putW]) | (refine storeAll hS rfl rfl rfl rfl ?_ ?_ ?_ ?_; rfl; (focus (simp [Value.oneCell']; done)); rfl; clear hS; intro w hS; try simp only [putW]) | (refine storeN hS rfl rfl rfl rfl ?_ ?_ ?_ ?_; rfl; (focus (simp [Value.oneCell']; done)); (focus (simp; done)); clear hS; intro w hS; simp at hS; try simp only [putW]) | (refine alloc hS rfl rfl ?_; clear hS; intro mb w hS; simp only [putW]) | (refine box1 hS rfl rfl rfl rfl ?_; clear hS; intro mb w hS; try simp only [evW, putW] at hS; simp only [putW]) | (refine boxN hS rfl rfl rfl ?_; clear hS; intro mb w hS; simp only [putW]))
  (refine region_quiet hS (by kernel_rfl) (by kernel_rfl) (by kernel_rfl) ?_; clear hS; (repeat (apply quiet_step; (focus (intro w hS; go_wp2_with (first | (refine lenMap (enc := encInt) (ve := frV) (l := FL) hS rfl rfl rfl ?_; rw [HnF.out]; simp only [putW]) | (refine load1 hS rfl rfl rfl rfl ?_; simp only [putW]) | (refine loadAll hS rfl rfl rfl ?_ ?_; rfl; simp only [putW]) | (refine loadPart hS rfl rfl rfl ?_ rfl ?_; rfl; simp only [putW])); exact ⟨rfl, rfl, hS⟩)); simp only [putW])); refine quiet_nil ?_; intro w hS)
  go_wp2_with (first | (guard_target =~ wpList _ _ _ (Oper.mk (some 26) _ _ _ _ _ :: _) _ _; refine Stopped.out ?_) | (refine load1 hS rfl rfl rfl rfl ?_; simp only [putW]) | (refine loadAll hS rfl rfl rfl ?_ ?_; rfl; simp only [putW]) | (refine loadPart hS rfl rfl rfl ?_ rfl ?_; rfl; simp only [putW]) | (refine store1 hS rfl rfl rfl rfl rfl ?_ ?_; (focus (simp; done)); clear hS; intro w hS; simp only [evW, putW] at hS; try simp only [putW]) | (refine storeAll hS rfl rfl rfl rfl ?_ ?_ ?_ ?_; rfl; (focus (simp [Value.oneCell']; done)); rfl; clear hS; intro w hS; try simp only [putW]) | (refine storeN hS rfl rfl rfl rfl ?_ ?_ ?_ ?_; rfl; (focus (simp [Value.oneCell']; done)); (focus (simp; done)); clear hS; intro w hS; simp at hS; try simp only [putW]) | (refine alloc hS rfl rfl ?_; clear hS; intro mb w hS; simp only [putW]) | (refine box1 hS rfl rfl rfl rfl ?_; clear hS; intro mb w hS; try simp only [evW, putW] at hS; simp only [putW]) | (refine boxN hS rfl rfl rfl ?_; clear hS; intro mb w hS; simp only [putW]))
  refine ⟨?_⟩
  refine rangeMap (b := T.fm) (enc := encInt) (ve := frV) (l := FL) hS rfl rfl rfl ?_
  clear hS
  intro r w hS
  simp only [putW]
  go_wp2_with (first | (refine load1 hS rfl rfl rfl rfl ?_; simp only [putW]) | (refine loadAll hS rfl rfl rfl ?_ ?_; rfl; simp only [putW]) | (refine loadPart hS rfl rfl rfl ?_ rfl ?_; rfl; simp only [putW]) | (refine store1 hS rfl rfl rfl rfl rfl ?_ ?_; (focus (simp; done)); clear hS; intro w hS; simp only [evW, putW] at hS; try simp only [putW]) | (refine storeAll hS rfl rfl rfl rfl ?_ ?_ ?_ ?_; rfl; (focus (simp [Value.oneCell']; done)); rfl; clear hS; intro w hS; try simp only [putW]) | (refine storeN hS rfl rfl rfl rfl ?_ ?_ ?_ ?_; rfl; (focus (simp [Value.oneCell']; done)); (focus (simp; done)); clear hS; intro w hS; simp at hS; try simp only [putW]) | (refine alloc hS rfl rfl ?_; clear hS; intro mb w hS; simp only [putW]) | (refine box1 hS rfl rfl rfl rfl ?_; clear hS; intro mb w hS; try simp only [evW, putW] at hS; simp only [putW]) | (refine boxN hS rfl rfl rfl ?_; clear hS; intro mb w hS; simp only [putW]))
  go_loopg [4] nF (fun g v wr => ∃ left cur L, left.length = g ∧ Bx ((L ++ loose PL (mkeys left)).Perm (loose PL (mkeys FL)) ∧ L.length + g ≤ nF) ∧ Sat w0 ((blk v, sl 1 i64 L 3 v) :: (r, itC encInt frV T.fm FL left cur) :: (t, cells (tbC T) 65) :: (T.pm, mapC encP uV PL) :: (T.hp, HeatC now sp) :: K) wr)
  case atStart => exact ⟨FL, none, [], HnF.out, ⟨by simp, by simp⟩, hS.slNil 1 i64 3⟩
  case round =>
    clear hS
    obtain ⟨left, cur, L, hlen, hp, hS⟩ := hrel
    go_wp2_with (first | (guard_target =~ wpList _ _ _ (Oper.mk (some 27) _ _ _ _ _ :: _) _ _; refine Stopped.out ?_) | (refine load1 hS rfl rfl rfl rfl ?_; simp only [putW]) | (refine loadAll hS rfl rfl rfl ?_ ?_; rfl; simp only [putW]) | (refine loadPart hS rfl rfl rfl ?_ rfl ?_; rfl; simp only [putW]) | (refine store1 hS rfl rfl rfl rfl rfl ?_ ?_; (focus (simp; done)); clear hS; intro w hS; simp only [evW, putW] at hS; try simp only [putW]) | (refine storeAll hS rfl rfl rfl rfl ?_ ?_ ?_ ?_; rfl; (focus (simp [Value.oneCell']; done)); rfl; clear hS; intro w hS; try simp only [putW]) | (refine storeN hS rfl rfl rfl rfl ?_ ?_ ?_ ?_; rfl; (focus (simp [Value.oneCell']; done)); (focus (simp; done)); clear hS; intro w hS; simp at hS; try simp only [putW]) | (refine alloc hS rfl rfl ?_; clear hS; intro mb w hS; simp only [putW]) | (refine box1 hS rfl rfl rfl rfl ?_; clear hS; intro mb w hS; try simp only [evW, putW] at hS; simp only [putW]) | (refine boxN hS rfl rfl rfl ?_; clear hS; intro mb w hS; simp only [putW]))
    refine ⟨?_⟩
    refine nextMap (r := r) (b := T.fm) (enc := encInt) (ve := frV) (l := FL) (left := left) (cur := cur) hS rfl rfl rfl ?_ ?_
    · intro hnil
      have hperm : Bx (L.Perm (loose PL (mkeys FL))) := ⟨by have h := hp.out.1; rw [hnil] at h; simpa [loose, mkeys] using h⟩
      have hLl : L.length ≤ 1000000 := by have := hp.out.2; omega
      obtain ⟨nL, hnL⟩ : ∃ n, L.length = n := ⟨_, rfl⟩
      obtain ⟨qv, cv, e1⟩ : ∃ q c, u4 = .slice q L.length c := by
        rcases hS.slCases with ⟨h1, h2, _⟩ | ⟨c, h1, _⟩
        · exact ⟨_, _, by rw [h1, h2]; rfl⟩
        · exact ⟨_, _, h1⟩
      rw [hnL] at e1 hLl
      subst e1
      have HnL : Bx _ := ⟨hnL⟩
      clear hnil hnL hlen hp
      simp only [putW]
      go_wp2_with (first | (guard_target =~ Calls _ 33 _ _ _; refine Stopped.out ?_) | (refine load1 hS rfl rfl rfl rfl ?_; simp only [putW]) | (refine loadAll hS rfl rfl rfl ?_ ?_; rfl; simp only [putW]) | (refine loadPart hS rfl rfl rfl ?_ rfl ?_; rfl; simp only [putW]) | (refine store1 hS rfl rfl rfl rfl rfl ?_ ?_; (focus (simp; done)); clear hS; intro w hS; simp only [evW, putW] at hS; try simp only [putW]) | (refine storeAll hS rfl rfl rfl rfl ?_ ?_ ?_ ?_; rfl; (focus (simp [Value.oneCell']; done)); rfl; clear hS; intro w hS; try simp only [putW]) | (refine storeN hS rfl rfl rfl rfl ?_ ?_ ?_ ?_; rfl; (focus (simp [Value.oneCell']; done)); (focus (simp; done)); clear hS; intro w hS; simp at hS; try simp only [putW]) | (refine alloc hS rfl rfl ?_; clear hS; intro mb w hS; simp only [putW]) | (refine box1 hS rfl rfl rfl rfl ?_; clear hS; intro mb w hS; try simp only [evW, putW] at hS; simp only [putW]) | (refine boxN hS rfl rfl rfl ?_; clear hS; intro mb w hS; simp only [putW]))
      refine ⟨?_⟩
      refine Calls.mono (coldest_any (q := qv) (c := cv) hn HSP.out HnL.out hLl (hS.conv (S' := (T.hp, HeatC now sp) :: (blk (.slice qv nL cv), sl 1 i64 L 3 (.slice qv nL cv)) :: (r, itC encInt frV T.fm FL left cur) :: (t, cells (tbC T) 65) :: (T.pm, mapC encP uV PL) :: K))) ?_
      clear hS
      rintro _ w ⟨k, bh, rfl, hcold, hS⟩
      have hfin := ((hS.pull r (X := itC encInt frV T.fm FL left cur)).itDone (r := r) (b := T.fm)).conv (S' := (t, cells (tbC T) 65) :: (T.fm, mapC encInt frV FL) :: (T.pm, mapC encP uV PL) :: (T.hp, HeatC now sp) :: K)
      have HC : Bx _ := ⟨hcold⟩
      have HFin : ∀ {w' : World}, Sat w0 ((T.hp, HeatC now sp) :: (blk (.slice qv nL cv), sl 1 i64 L 3 (.slice qv nL cv)) :: (r, itC encInt frV T.fm FL left cur) :: (t, cells (tbC T) 65) :: (T.pm, mapC encP uV PL) :: K) w' → Sat w0 ((t, cells (tbC T) 65) :: (T.fm, mapC encInt frV FL) :: (T.pm, mapC encP uV PL) :: (T.hp, HeatC now sp) :: K) w' := fun hS => ((hS.pull r (X := itC encInt frV T.fm FL left cur)).itDone (r := r) (b := T.fm)).conv
      clear hcold hfin
      simp only [putW]
      by_cases h0 : nL = 0
      · subst h0
        go_wp2_with (first | (refine load1 hS rfl rfl rfl rfl ?_; simp only [putW]) | (refine loadAll hS rfl rfl rfl ?_ ?_; rfl; simp only [putW]) | (refine loadPart hS rfl rfl rfl ?_ rfl ?_; rfl; simp only [putW]) | (refine store1 hS rfl rfl rfl rfl rfl ?_ ?_; (focus (simp; done)); clear hS; intro w hS; simp only [evW, putW] at hS; try simp only [putW]) | (refine storeAll hS rfl rfl rfl rfl ?_ ?_ ?_ ?_; rfl; (focus (simp [Value.oneCell']; done)); rfl; clear hS; intro w hS; try simp only [putW]) | (refine storeN hS rfl rfl rfl rfl ?_ ?_ ?_ ?_; rfl; (focus (simp [Value.oneCell']; done)); (focus (simp; done)); clear hS; intro w hS; simp at hS; try simp only [putW]) | (refine alloc hS rfl rfl ?_; clear hS; intro mb w hS; simp only [putW]) | (refine box1 hS rfl rfl rfl rfl ?_; clear hS; intro mb w hS; try simp only [evW, putW] at hS; simp only [putW]) | (refine boxN hS rfl rfl rfl ?_; clear hS; intro mb w hS; simp only [putW]))
        refine bodyPost_ret (v := .tuple #[.int .i64 0, .int .i64 12]) (by simp [results, Try.results13]) rfl ⟨⟨L, hperm.out, .inl ⟨List.eq_nil_of_length_eq_zero HnL.out, rfl⟩⟩, HFin hS⟩
      · have hpos : decide (0 < nL) = true := decide_eq_true (by omega)
        go_wp2_with (first | (refine load1 hS rfl rfl rfl rfl ?_; simp only [putW]) | (refine loadAll hS rfl rfl rfl ?_ ?_; rfl; simp only [putW]) | (refine loadPart hS rfl rfl rfl ?_ rfl ?_; rfl; simp only [putW]) | (refine store1 hS rfl rfl rfl rfl rfl ?_ ?_; (focus (simp; done)); clear hS; intro w hS; simp only [evW, putW] at hS; try simp only [putW]) | (refine storeAll hS rfl rfl rfl rfl ?_ ?_ ?_ ?_; rfl; (focus (simp [Value.oneCell']; done)); rfl; clear hS; intro w hS; try simp only [putW]) | (refine storeN hS rfl rfl rfl rfl ?_ ?_ ?_ ?_; rfl; (focus (simp [Value.oneCell']; done)); (focus (simp; done)); clear hS; intro w hS; simp at hS; try simp only [putW]) | (refine alloc hS rfl rfl ?_; clear hS; intro mb w hS; simp only [putW]) | (refine box1 hS rfl rfl rfl rfl ?_; clear hS; intro mb w hS; try simp only [evW, putW] at hS; simp only [putW]) | (refine boxN hS rfl rfl rfl ?_; clear hS; intro mb w hS; simp only [putW]))
        refine bodyPost_ret (v := .tuple #[.int .i64 k, .int .i64 0]) (by simp [results, Try.results13]) rfl ⟨⟨L, hperm.out, .inr ⟨k, bh, fun h => h0 (by rw [← HnL.out, h]; rfl), by rw [HnL.out]; exact HC.out, rfl⟩⟩, HFin hS⟩
    · intro L1 kk x L2 w' hsp hmem hnk hS'
      clear hS
      have hS := hS'
      clear hS' hmem hnk
      have hlen2 : (L1 ++ L2).length + 1 = gk := by rw [← hlen, hsp]; simp; omega
      have hlen3 : L1.length + L2.length + 1 = gk := by rw [List.length_append] at hlen2; exact hlen2
      have hperm : Bx ((L ++ ((if pinnedB PL kk then [] else [kk]) ++ loose PL (mkeys (L1 ++ L2)))).Perm (loose PL (mkeys FL))) := ⟨by
        have h := hp.out.1
        rw [hsp] at h
        exact ((loose_mid PL L1 L2 kk x).symm.append_left L).trans h⟩
      have hLl : L.length + gk ≤ nF := hp.out.2
      clear hsp hlen hp
      obtain ⟨pb, hpb⟩ : ∃ b, pinnedB PL kk = b := ⟨_, rfl⟩
      have Hpb : Bx _ := ⟨hpb⟩
      rw [hpb] at hperm
      clear hpb
      simp only [putW]
      go_wp2_with (first | (refine entryMap (r := r) (b := T.fm) (enc := encInt) (ve := frV) (l := FL) hS rfl rfl rfl ?_; simp only [putW, encInt]) | (guard_target =~ Calls _ 16 _ _ _; refine Stopped.out ?_) | (refine load1 hS rfl rfl rfl rfl ?_; simp only [putW]) | (refine loadAll hS rfl rfl rfl ?_ ?_; rfl; simp only [putW]) | (refine loadPart hS rfl rfl rfl ?_ rfl ?_; rfl; simp only [putW]) | (refine store1 hS rfl rfl rfl rfl rfl ?_ ?_; (focus (simp; done)); clear hS; intro w hS; simp only [evW, putW] at hS; try simp only [putW]) | (refine storeAll hS rfl rfl rfl rfl ?_ ?_ ?_ ?_; rfl; (focus (simp [Value.oneCell']; done)); rfl; clear hS; intro w hS; try simp only [putW]) | (refine storeN hS rfl rfl rfl rfl ?_ ?_ ?_ ?_; rfl; (focus (simp [Value.oneCell']; done)); (focus (simp; done)); clear hS; intro w hS; simp at hS; try simp only [putW]) | (refine alloc hS rfl rfl ?_; clear hS; intro mb w hS; simp only [putW]) | (refine box1 hS rfl rfl rfl rfl ?_; clear hS; intro mb w hS; try simp only [evW, putW] at hS; simp only [putW]) | (refine boxN hS rfl rfl rfl ?_; clear hS; intro mb w hS; simp only [putW]))
      refine ⟨?_⟩
      refine Calls.mono (pinned_any (key := kk) (hS.conv (S' := (t, cells (tbC T) 65) :: (T.pm, mapC encP uV PL) :: (blk u4, sl 1 i64 L 3 u4) :: (r, itC encInt frV T.fm FL (L1 ++ L2) (some (kk, x))) :: (T.hp, HeatC now sp) :: K))) ?_
      clear hS
      rintro _ w ⟨rfl, hS⟩
      rw [Hpb.out]
      simp only [putW]
      cases pb with
      | true =>
        go_wp2_with (first | (refine load1 hS rfl rfl rfl rfl ?_; simp only [putW]) | (refine loadAll hS rfl rfl rfl ?_ ?_; rfl; simp only [putW]) | (refine loadPart hS rfl rfl rfl ?_ rfl ?_; rfl; simp only [putW]) | (refine store1 hS rfl rfl rfl rfl rfl ?_ ?_; (focus (simp; done)); clear hS; intro w hS; simp only [evW, putW] at hS; try simp only [putW]) | (refine storeAll hS rfl rfl rfl rfl ?_ ?_ ?_ ?_; rfl; (focus (simp [Value.oneCell']; done)); rfl; clear hS; intro w hS; try simp only [putW]) | (refine storeN hS rfl rfl rfl rfl ?_ ?_ ?_ ?_; rfl; (focus (simp [Value.oneCell']; done)); (focus (simp; done)); clear hS; intro w hS; simp at hS; try simp only [putW]) | (refine alloc hS rfl rfl ?_; clear hS; intro mb w hS; simp only [putW]) | (refine box1 hS rfl rfl rfl rfl ?_; clear hS; intro mb w hS; try simp only [evW, putW] at hS; simp only [putW]) | (refine boxN hS rfl rfl rfl ?_; clear hS; intro mb w hS; simp only [putW]))
        go_roundg ((L1 ++ L2).length)
        case measure => omega
        case rel => exact ⟨L1 ++ L2, some (kk, x), L, rfl, ⟨by simpa using hperm.out, by omega⟩, hS.conv⟩
      | false =>
        have hL2 : L.length + 1 ≤ maxLen := by simp [maxLen]; omega
        go_wp2_with (first | (refine buildSlice1 (c := #[.int .i64 kk]) hS rfl rfl rfl ?_ ?_ ?_ ?_; rfl; rfl; rfl; clear hS; intro mb w hS; simp only [putW]) | (refine append1 (f := i64) hS rfl rfl u4 rfl rfl kk ?_ ?_ ?_ ?_ ?_ ?_; rfl; (focus (simp [i64, one, Value.oneCell']; done)); rfl; (focus (first | omega | (simp [maxLen]; done) | (simp [maxLen]; omega))); (focus (first | omega | (simp [maxLen]; done) | (simp [maxLen]; omega))); clear hS; intro v' w hS; simp only [putW]) | (refine load1 hS rfl rfl rfl rfl ?_; simp only [putW]) | (refine loadAll hS rfl rfl rfl ?_ ?_; rfl; simp only [putW]) | (refine loadPart hS rfl rfl rfl ?_ rfl ?_; rfl; simp only [putW]) | (refine store1 hS rfl rfl rfl rfl rfl ?_ ?_; (focus (simp; done)); clear hS; intro w hS; simp only [evW, putW] at hS; try simp only [putW]) | (refine storeAll hS rfl rfl rfl rfl ?_ ?_ ?_ ?_; rfl; (focus (simp [Value.oneCell']; done)); rfl; clear hS; intro w hS; try simp only [putW]) | (refine storeN hS rfl rfl rfl rfl ?_ ?_ ?_ ?_; rfl; (focus (simp [Value.oneCell']; done)); (focus (simp; done)); clear hS; intro w hS; simp at hS; try simp only [putW]) | (refine alloc hS rfl rfl ?_; clear hS; intro mb w hS; simp only [putW]) | (refine box1 hS rfl rfl rfl rfl ?_; clear hS; intro mb w hS; try simp only [evW, putW] at hS; simp only [putW]) | (refine boxN hS rfl rfl rfl ?_; clear hS; intro mb w hS; simp only [putW]))
        go_roundg ((L1 ++ L2).length)
        case measure => omega
        case rel => exact ⟨L1 ++ L2, some (kk, x), L ++ [kk], rfl, ⟨by simpa [List.append_assoc] using hperm.out, by simp; omega⟩, hS.conv⟩
end
end Go.Proofs.Ytlkoclalcfeniaa
