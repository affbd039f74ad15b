/-
  thimblelaw25.awake.
-/
import Derived.Test.YtpbjkfomdindnaaGreatDoorScJ
set_option linter.unusedSimpArgs false
set_option linter.unusedVariables false
namespace Go.Proofs.YtpbjkfomdindnaaGreatDoor
open Go.RowKit Go.Shelf Go.Proofs.YtpbjkfomdindnaaGreatDoor.Sl Go.Proofs.YtpbjkfomdindnaaGreatDoor.Jp Go.Proofs.YtpbjkfomdindnaaGreatDoor.Sc

def exL : Bs := [97, 115, 107, 32, 48, 32, 119, 114, 105, 116, 101, 32, 51, 32, 54, 49, 54, 50]
theorem exL_parse : parseS exL = some ⟨1, 0, 0, 2, 3, [97, 98], 0, [], []⟩ := by
  have h : exL = lineS ⟨1, 0, 0, 2, 3, [97, 98], 0, [], []⟩ := by decide +kernel
  rw [h]
  exact (parseS_of (s := ⟨1, 0, 0, 2, 3, [97, 98], 0, [], []⟩) ⟨fun x hx => (by simp at hx; rcases hx with rfl | rfl <;> exact ⟨by decide, by decide⟩), fun x hx => (by cases hx), by decide⟩ (by decide +kernel)).trans (by kernel_rfl)
theorem ex_decode : decodeS [12] = [⟨1, 0, 0, 1, 0, [], 0, [], []⟩] := by kernel_rfl
section
variable {w0 : World}
set_option maxRecDepth 100000 in
set_option maxHeartbeats 2000000 in
theorem awake_any (hK : KV w0) : Calls Tryz.prog 9 #[] w0 fun e w' => e = .returned (.bool true) ∧ Sat w0 [] w' := by
  have hS := Sat.refl w0
  have HK : Bx _ := ⟨hK⟩
  clear hK
  have HP : Bx (∀ {w : World}, KV w → Calls Tryz.prog 10 #[str exL] w fun e w' => ∃ vo vd vf, e = .returned (.tuple #[.agg (stC ⟨1, 0, 0, 2, 3, [97, 98], 0, [], []⟩ vo vd vf), .int .i64 0]) ∧ Sat w (stL ⟨1, 0, 0, 2, 3, [97, 98], 0, [], []⟩ vo vd vf) w') := ⟨fun {w} h => (parse_any exL h (by decide)).mono fun e w' h2 => by
    rcases h2 with ⟨s, vo, vd, vf, h3, h4, h5⟩ | ⟨h3, -⟩
    · rw [exL_parse] at h3; cases h3; exact ⟨vo, vd, vf, h4, h5⟩
    · rw [exL_parse] at h3; cases h3⟩
  have HD : Bx (∀ {w : World} {v : Value}, RB w [12] v → Calls Tryz.prog 13 #[v] w fun e w' => ∃ vo o1 d1 f1, e = .returned vo ∧ Sat w ((blk vo, sl 9 svF [⟨⟨1, 0, 0, 1, 0, [], 0, [], []⟩, o1, d1, f1⟩] 29 vo) :: []) w') := ⟨fun {w v} h => (sdecode_any h).mono fun e w' h2 => by
    obtain ⟨X, vo, rfl, h3, -, h5⟩ := h2
    rw [ex_decode] at h3
    have h1 : X.length = 1 := by have := congrArg List.length h3; simpa using this
    obtain ⟨x, rfl⟩ := List.length_eq_one_iff.1 h1
    obtain ⟨s, o, d, f⟩ := x
    simp only [List.map_cons, List.map_nil, List.cons.injEq, and_true] at h3
    subst h3
    exact ⟨vo, o, d, f, rfl, h5.conv⟩⟩
  go_enter Tryz.func9, Tryz.ntmps9
  go_wp2_with (guard_target =~ Calls _ 10 _ _ _; refine Stopped.out ?_)
  refine ⟨?_⟩
  refine Calls.mono (HP.out (HK.out.mono hS.base)) ?_
  rintro _ w ⟨vo, vd, vf, rfl, hS2⟩
  replace hS := hS.frame hS2
  clear hS2
  simp only [stL, List.cons_append, List.nil_append] at hS
  simp only [putW]
  have HC : Bx (∀ u ∈ (stC ⟨1, 0, 0, 2, 3, [97, 98], 0, [], []⟩ vo vd vf).toList, u.oneCell' = true) := ⟨stC_one (Sat.slCell (α := Int) (v := vo) hS) (Sat.slCell (α := Int) (v := vd) hS) (Sat.slCell (α := Int) (v := vf) hS)⟩
  go_wp2_with (first | (guard_target =~ wpList _ _ _ (Oper.mk (some 1) _ _ _ _ _ :: _) _ _; refine alloc hS rfl rfl ?_; clear hS; intro sb w hS; simp only [putW]) | (refine storeAll hS rfl rfl rfl rfl ?_ ?_ ?_ ?_; rfl; (focus (exact HC.out)); rfl; clear hS; intro w hS; try simp only [putW]) | (refine buildSlice1 (c := #[.int .u8 12]) hS rfl rfl rfl ?_ ?_ ?_ ?_; rfl; rfl; rfl; clear hS; intro mb w hS; simp only [putW]) | (guard_target =~ Calls _ 13 _ _ _; refine Stopped.out ?_))
  refine ⟨?_⟩
  have hR : RB w [12] (.slice (some ⟨mb, 0, none⟩) 1 1) := by
    have hS2 : Sat w0 ((mb, cells ((([12] : List Int).map (Value.int .u8)).toArray) 5) :: []) w := Sat.conv (S' := (mb, cells #[.int .u8 12] 5) :: []) hS
    exact Sat.readsArrN (vv := Value.int .u8) (l := [12]) hS2 1 rfl (fun x hx => by simp at hx; subst hx; exact ⟨by decide, by decide⟩) (by decide)
  refine Calls.mono (HD.out hR) ?_
  clear hR
  rintro _ w ⟨vl, o1, d1, f1, rfl, hS2⟩
  replace hS := hS.frame hS2
  clear hS2
  simp only [List.cons_append, List.nil_append] at hS
  obtain ⟨g, c, rfl, hS2⟩ := hS.slFormC 1 rfl (by decide)
  clear hS
  have hS := hS2
  clear hS2
  have hV : Bx (RB w [97, 98] vo) := ⟨Sat.readsSl (v := vo) (gd := okByte) hS (fun x hx => by simp at hx; rcases hx with rfl | rfl <;> exact ⟨by decide, by decide⟩)⟩
  have hcv : (convert 23 9 vo).run Tryz.prog w = .ok (.string ⟨#[97, 98]⟩) w := run_convertB (P := Tryz.prog) (src := 23) (dst := 9) Tryz.underlying5 Tryz.underlying9 hV.out
  simp only [putW]
  go_wp2_with (first | (refine loadS (f := svF) hS rfl rfl rfl 0 0 ?_ rfl rfl ?_ ?_; omega; omega; simp only [putW]) | (refine loadS (f := svF) hS rfl rfl rfl 0 3 ?_ rfl rfl ?_ ?_; omega; omega; simp only [putW]) | (refine load1 hS rfl rfl rfl rfl ?_; simp only [putW]))
  go_ret
  exact ⟨rfl, hS.nothing⟩
end
end Go.Proofs.YtpbjkfomdindnaaGreatDoor
