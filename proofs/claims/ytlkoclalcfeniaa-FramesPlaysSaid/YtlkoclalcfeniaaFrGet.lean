/-
  frames: Get; the laws' example.
-/
import Derived.Test.YtlkoclalcfeniaaFrVic
set_option linter.unusedSimpArgs false
set_option linter.unusedVariables false
namespace Go.Proofs.Ytlkoclalcfeniaa
open Go.RowKit Go.Proofs.Ytlkoclalcfeniaa.Sl Go.Proofs.Ytlkoclalcfeniaa.Jp

section
variable {w0 w : World} {K F S : List Chunk} {t j m : Nat} {T : Tb} {FL FL1 FL2 : Frs} {PL : Pins} {SL : Shs} {now : Nat} {sp : Spots} {key y : Int} {x : FrV} {ty : TypeId}
theorem frBack (key : Int) (h : Sat w0 ((aBlk x.1, cells #[x.2.1, .bool x.2.2.2] 69) :: (blk x.2.1, sl 1 by8 x.2.2.1 5 x.2.1) :: (j, frC (FL1 ++ FL2)) :: F) w) : Sat w0 ((j, frC (FL1 ++ (key, x) :: FL2)) :: F) w := by
  have h1 : Sat w0 ((j, frC (FL1 ++ FL2)) :: (aBlk x.1, cells #[x.2.1, .bool x.2.2.2] 69) :: (blk x.2.1, sl 1 by8 x.2.2.1 5 x.2.1) :: F) w := h.perm ((List.Perm.cons _ (List.Perm.swap _ _ _)).trans (List.Perm.swap _ _ _))
  have h2 := frOpen h1
  have e : frmL (FL1 ++ (key, x) :: FL2) = frmL FL1 ++ ((aBlk x.1, cells #[x.2.1, .bool x.2.2.2] 69) :: (blk x.2.1, sl 1 by8 x.2.2.1 5 x.2.1) :: frmL FL2) := by simp [frmL]
  have e2 : frmL (FL1 ++ FL2) = frmL FL1 ++ frmL FL2 := by simp [frmL]
  refine frShut j (h2.perm ?_)
  rw [e, e2, List.append_assoc, List.append_assoc]
  refine List.Perm.append_left _ ?_
  exact (List.perm_middle.trans (List.Perm.cons _ List.perm_middle)).trans (List.Perm.refl _)
theorem mget_split (h : mget FL key = some x) : ∃ FL1 FL2, FL = FL1 ++ (key, x) :: FL2 := by
  obtain ⟨a, b, h⟩ := List.append_of_mem (mget_mem h)
  exact ⟨a, b, h⟩
set_option maxRecDepth 100000 in
set_option maxHeartbeats 1000000 in
theorem get_any (hx : mget FL key = some x) (hok : FrOk FL) (hn : now ≤ 900000) (hsp : SpOk now sp) (hS : Sat w0 ((t, cells (tbC T) 65) :: (T.fm, mapC encInt frV FL) :: (7, frC FL) :: (T.hp, HeatC now sp) :: K) w) :
    Calls Try.prog 22 #[.pointer (some ⟨t, 0, none⟩), .int .i64 key] w fun e w' => ∃ r v, e = .returned (.tuple #[v, .int .i64 0]) ∧ (((now : Int) + 1 - (spotOf sp key).2 < 16 ∨ NumF (spotOf sp key).1) → r = sumR (rightF (coolF (now + 1) (spotOf sp key))) 4607182418800017408) ∧
      Sat w0 ((blk v, sl 1 by8 x.2.2.1 5 v) :: (t, cells (tbC T) 65) :: (T.fm, mapC encInt frV FL) :: (7, frC FL) :: (T.hp, HeatC (now + 1) (mput sp key (r, ((now + 1 : Nat) : Int)))) :: K) w' := by
  obtain ⟨FL1, FL2, hsplit⟩ := mget_split hx
  obtain ⟨f, hf, hxl, hxb⟩ := hok (key, x) (by rw [hsplit]; simp)
  obtain ⟨xa, xv, xA, xb⟩ := x
  have hf' : xa = some ⟨f, 0, none⟩ := hf
  subst hf'
  have HSP : Bx _ := ⟨hsp⟩
  have Hxl : Bx (xA.length ≤ 1000000) := ⟨hxl⟩
  have Hxb : Bx (∀ b ∈ xA, okByte b) := ⟨hxb⟩
  have Hspl : Bx _ := ⟨hsplit⟩
  have Hg : Bx ((mget FL key).getD fr0 = (some ⟨f, 0, none⟩, xv, xA, xb) ∧ (mget FL key).isSome = true) := ⟨by simp [hx]⟩
  clear hx hok hsp hsplit hf hxl hxb
  go_enter Try.func22, Try.ntmps22
  go_wp2_with (first | (guard_target =~ Calls _ 31 _ _ _; refine Stopped.out ?_) | (refine load1 hS rfl rfl rfl rfl ?_; simp only [putW]) | (refine loadAll hS rfl rfl rfl ?_ ?_; rfl; simp only [putW]) | (refine loadPart hS rfl rfl rfl ?_ rfl ?_; rfl; simp only [putW]) | (refine store1 hS rfl rfl rfl rfl rfl ?_ ?_; (focus (simp; done)); clear hS; intro w hS; simp only [evW, putW] at hS; try simp only [putW]) | (refine storeAll hS rfl rfl rfl rfl ?_ ?_ ?_ ?_; rfl; (focus (simp [Value.oneCell']; done)); rfl; clear hS; intro w hS; try simp only [putW]) | (refine storeN hS rfl rfl rfl rfl ?_ ?_ ?_ ?_; rfl; (focus (simp [Value.oneCell']; done)); (focus (simp; done)); clear hS; intro w hS; simp at hS; try simp only [putW]) | (refine alloc hS rfl rfl ?_; clear hS; intro mb w hS; simp only [putW]) | (refine box1 hS rfl rfl rfl rfl ?_; clear hS; intro mb w hS; try simp only [evW, putW] at hS; simp only [putW]) | (refine boxN hS rfl rfl rfl ?_; clear hS; intro mb w hS; simp only [putW]))
  refine ⟨?_⟩
  refine Calls.mono (find_any (key := key) hS) ?_
  clear hS
  rintro _ w ⟨rfl, hS⟩
  rw [Hg.out.1, Hg.out.2]
  simp only [putW, if_true]
  go_wp2_with (first | (guard_target =~ Calls _ 32 _ _ _; refine Stopped.out ?_) | (refine load1 hS rfl rfl rfl rfl ?_; simp only [putW]) | (refine loadAll hS rfl rfl rfl ?_ ?_; rfl; simp only [putW]) | (refine loadPart hS rfl rfl rfl ?_ rfl ?_; rfl; simp only [putW]) | (refine store1 hS rfl rfl rfl rfl rfl ?_ ?_; (focus (simp; done)); clear hS; intro w hS; simp only [evW, putW] at hS; try simp only [putW]) | (refine storeAll hS rfl rfl rfl rfl ?_ ?_ ?_ ?_; rfl; (focus (simp [Value.oneCell']; done)); rfl; clear hS; intro w hS; try simp only [putW]) | (refine storeN hS rfl rfl rfl rfl ?_ ?_ ?_ ?_; rfl; (focus (simp [Value.oneCell']; done)); (focus (simp; done)); clear hS; intro w hS; simp at hS; try simp only [putW]) | (refine alloc hS rfl rfl ?_; clear hS; intro mb w hS; simp only [putW]) | (refine box1 hS rfl rfl rfl rfl ?_; clear hS; intro mb w hS; try simp only [evW, putW] at hS; simp only [putW]) | (refine boxN hS rfl rfl rfl ?_; clear hS; intro mb w hS; simp only [putW]))
  refine ⟨?_⟩
  refine Calls.mono (touch_any (key := key) (hS.conv (S' := (T.hp, HeatC now sp) :: (t, cells (tbC T) 65) :: (T.fm, mapC encInt frV FL) :: (7, frC FL) :: K)) hn HSP.out) ?_
  clear hS
  rintro _ w ⟨r, rfl, hr, hS⟩
  have Hr : Bx _ := ⟨hr⟩
  clear hr
  have hS1 := hS.pull 7 (X := frC FL)
  rw [Hspl.out] at hS1
  have hS2 := frPull hS1
  rw [← Hspl.out] at hS2
  clear hS hS1
  have hS : Sat w0 ((f, cells #[xv, .bool xb] 69) :: (blk xv, sl 1 by8 xA 5 xv) :: (7, frC (FL1 ++ FL2)) :: (T.hp, HeatC (now + 1) (mput sp key (r, ((now + 1 : Nat) : Int)))) :: (t, cells (tbC T) 65) :: (T.fm, mapC encInt frV FL) :: K) w := hS2
  clear hS2
  have hl2 : xA.length ≤ 140737488355328 := Nat.le_trans Hxl.out (by omega)
  simp only [putW]
  go_wp2_with (first | (guard_target =~ Calls _ 30 _ _ _; refine Stopped.out ?_) | (refine load1 hS rfl rfl rfl rfl ?_; simp only [putW]) | (refine loadAll hS rfl rfl rfl ?_ ?_; rfl; simp only [putW]) | (refine loadPart hS rfl rfl rfl ?_ rfl ?_; rfl; simp only [putW]) | (refine store1 hS rfl rfl rfl rfl rfl ?_ ?_; (focus (simp; done)); clear hS; intro w hS; simp only [evW, putW] at hS; try simp only [putW]) | (refine storeAll hS rfl rfl rfl rfl ?_ ?_ ?_ ?_; rfl; (focus (simp [Value.oneCell']; done)); rfl; clear hS; intro w hS; try simp only [putW]) | (refine storeN hS rfl rfl rfl rfl ?_ ?_ ?_ ?_; rfl; (focus (simp [Value.oneCell']; done)); (focus (simp; done)); clear hS; intro w hS; simp at hS; try simp only [putW]) | (refine alloc hS rfl rfl ?_; clear hS; intro mb w hS; simp only [putW]) | (refine box1 hS rfl rfl rfl rfl ?_; clear hS; intro mb w hS; try simp only [evW, putW] at hS; simp only [putW]) | (refine boxN hS rfl rfl rfl ?_; clear hS; intro mb w hS; simp only [putW]))
  refine ⟨?_⟩
  (refine Calls.mono (clone_any (hS.readsSl (v := xv) (L := xA) Hxb.out) hl2) ?_; rintro _ w2 ⟨vc, rfl, h2⟩; replace hS := hS.frame h2; clear h2; (try simp only [List.cons_append, List.nil_append] at hS); simp only [putW])
  go_wp2_with (first | (refine load1 hS rfl rfl rfl rfl ?_; simp only [putW]) | (refine loadAll hS rfl rfl rfl ?_ ?_; rfl; simp only [putW]) | (refine loadPart hS rfl rfl rfl ?_ rfl ?_; rfl; simp only [putW]) | (refine store1 hS rfl rfl rfl rfl rfl ?_ ?_; (focus (simp; done)); clear hS; intro w hS; simp only [evW, putW] at hS; try simp only [putW]) | (refine storeAll hS rfl rfl rfl rfl ?_ ?_ ?_ ?_; rfl; (focus (simp [Value.oneCell']; done)); rfl; clear hS; intro w hS; try simp only [putW]) | (refine storeN hS rfl rfl rfl rfl ?_ ?_ ?_ ?_; rfl; (focus (simp [Value.oneCell']; done)); (focus (simp; done)); clear hS; intro w hS; simp at hS; try simp only [putW]) | (refine alloc hS rfl rfl ?_; clear hS; intro mb w hS; simp only [putW]) | (refine box1 hS rfl rfl rfl rfl ?_; clear hS; intro mb w hS; try simp only [evW, putW] at hS; simp only [putW]) | (refine boxN hS rfl rfl rfl ?_; clear hS; intro mb w hS; simp only [putW]))
  refine bodyPost_ret (v := .tuple #[vc, .int .i64 0]) (by simp [results, Try.results22]) rfl ⟨r, vc, rfl, Hr.out, ?_⟩
  have h1 := frBack (x := (some ⟨f, 0, none⟩, xv, xA, xb)) key (hS.conv (S' := (f, cells #[xv, .bool xb] 69) :: (blk xv, sl 1 by8 xA 5 xv) :: (7, frC (FL1 ++ FL2)) :: (blk vc, sl 1 by8 xA 5 vc) :: (T.hp, HeatC (now + 1) (mput sp key (r, ((now + 1 : Nat) : Int)))) :: (t, cells (tbC T) 65) :: (T.fm, mapC encInt frV FL) :: K))
  rw [← Hspl.out] at h1
  exact h1.conv
theorem litB (h : Sat w0 ((m, cells #[.int .u8 y] ty) :: F) w) (hx : okByte y) : RB w [y] (.slice (some ⟨m, 0, none⟩) 1 1) :=
  (h.toSlc (l := [y]) (cap := 1) (n := 1) (f := by8) (by simp) (by simp) (by simp [maxLen]) (by simp [one]) (fun _ _ => rfl)).readsSlc (g := m) (n := 1) (f := by8) (L := [y]) (cap := 1) (t := ty) (fun z hz => by rw [List.mem_singleton.1 hz]; exact hx)
theorem litBs (h : Sat w0 S w) [p : Pull S m (cells #[.int .u8 y] ty) F] (hx : okByte y) : RB w [y] (.slice (some ⟨m, 0, none⟩) 1 1) := litB (h.perm p.perm) hx
theorem perm56 {L : List Int} (h : L.Perm [5, 6]) : L = [5, 6] ∨ L = [6, 5] := by
  match L, h.length_eq with
  | [a, b], _ =>
    have ha : a ∈ ([5, 6] : List Int) := h.subset (by simp)
    have hb : b ∈ ([5, 6] : List Int) := h.subset (by simp)
    have hn : ([a, b] : List Int).Nodup := h.nodup_iff.2 (by decide)
    simp at ha hb hn
    rcases ha with rfl | rfl <;> rcases hb with rfl | rfl <;> simp at hn ⊢
def f56 (k : Int) : Nat := if k = 5 then 4607182418800017408 else 0
theorem right0 : rightF 0 = 0 := by decide +kernel
theorem right1 : rightF 4607182418800017408 = 4607182418800017408 := by decide +kernel
theorem add01 : floatBits .add .f64 0 4607182418800017408 = some 4607182418800017408 := by decide +kernel
theorem cold56 : coldF f56 [5, 6] = some (6, 0) ∧ coldF f56 [6, 5] = some (6, 0) := by decide +kernel
end
end Go.Proofs.Ytlkoclalcfeniaa
