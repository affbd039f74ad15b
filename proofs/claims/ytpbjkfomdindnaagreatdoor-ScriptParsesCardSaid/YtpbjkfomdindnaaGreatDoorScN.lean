/-
  script.form.bits of a line.
-/
import Derived.Test.YtpbjkfomdindnaaGreatDoorScM
import Derived.Test.YtpbjkfomdindnaaGreatDoorSlPan
import Derived.Test.YtpbjkfomdindnaaGreatDoorFlA
import Derived.Lib.EndianBits
set_option linter.unusedSimpArgs false
set_option linter.unusedVariables false
namespace Go.Proofs.YtpbjkfomdindnaaGreatDoor
open Go.RowKit Go.Shelf Go.Proofs.YtpbjkfomdindnaaGreatDoor.Sl Go.Proofs.YtpbjkfomdindnaaGreatDoor.Jp Go.Proofs.YtpbjkfomdindnaaGreatDoor.Sc

theorem fbits_run (x : Nat) (w : World) : (callFunc 67 #[.float .f64 x]).run Tryz.prog w = .ok (.value (.int .u64 x)) w := by
  rw [run_callFunc_extern (e := Extern.MathFloatBits.float64bits) Tryz.func67 (by kernel_rfl) (by kernel_rfl) (by kernel_rfl) (by kernel_rfl)]
  rfl
theorem ffrombits_run (y : Nat) (w : World) : (callFunc 30 #[.int .u64 y]).run Tryz.prog w = .ok (.value (.float .f64 y)) w := by
  rw [run_callFunc_extern (e := Extern.MathFloatBits.float64frombits) Tryz.func30 (by kernel_rfl) (by kernel_rfl) (by kernel_rfl) (by kernel_rfl)]
  rfl
theorem self_eq {n : Nat} (h : n < 18446744073709551616) : (FloatKind.f64.format.order n n == some Ordering.eq) = !nanB n := by
  unfold nanB
  by_cases hn : 9218868437227405312 < n % 9223372036854775808
  · rw [order_nan hn, decide_eq_true hn]; rfl
  · rw [order_self ⟨h, by omega⟩, decide_eq_false hn]; rfl
theorem beV_take {A : List Int} {k : Nat} {x : Int} (h : A[k]? = some x) : beV 0 (A.take (k + 1)) = beV 0 (A.take k) * 256 + x.toNat := by
  rw [List.take_add_one, h, beV_append]
  rfl
theorem beV8 {A : List Int} {k : Nat} (hA : ∀ x ∈ A, okByte x) (hk : k ≤ 7) : beV 0 (A.take k) < 72057594037927936 := by
  have h := beV_lt (A.take k) 0 fun x hx => hA x (List.mem_of_mem_take hx)
  have h2 : (256 : Nat) ^ (A.take k).length ≤ 256 ^ 7 := Nat.pow_le_pow_right (by decide) (by rw [List.length_take]; omega)
  have h3 : (256 : Nat) ^ 7 = 72057594037927936 := by decide
  omega
theorem unhex_ok {l : Bs} {A : List Int} (h : unhexW l = some A) : ∀ x ∈ A, okByte x := (hex_unhex l h).2
section
variable {w0 w : World} {S F K : List Chunk} {W : List Bs} {fb sb off : Nat} {c : Array Value} {tb : TypeId}
set_option maxRecDepth 100000 in
set_option maxHeartbeats 2000000 in
theorem fbits_parse (hoff : off < c.size) (hS : Sat w0 ((fb, frm W) :: (sb, cells c tb) :: K) w) :
    Calls Tryz.prog 53 #[.pointer (some ⟨fb, 0, none⟩), .pointer (some ⟨sb, off, none⟩)] w fun e w' =>
      (∃ n W', takeW bitsW W = some (n, W') ∧ e = .returned (.tuple #[]) ∧ Sat w0 ((fb, frm W') :: (sb, cells (c.setIfInBounds off (.float .f64 n)) tb) :: K) w') ∨ (takeW bitsW W = none ∧ e = .panicked badP ∧ Sat w0 K w') := by
  have HO : Bx (off < c.size) := ⟨hoff⟩
  clear hoff
  cases W with
  | nil =>
    go_enter Tryz.func53, Tryz.ntmps53
    go_wp2_with (first | (refine loadFlag [] hS rfl rfl rfl ?_; simp only [putW]) | (guard_target =~ Calls _ 75 _ _ _; refine Stopped.out ?_))
    refine ⟨?_⟩
    refine Calls.mono (next_none hS) ?_
    rintro _ w' ⟨rfl, hS⟩
    exact ⟨rfl, .inr ⟨rfl, rfl, hS.tail⟩⟩
  | cons x W =>
    have hl := (frm_ok hS (fb := fb) (W := x :: W)).2 x (by simp)
    go_enter Tryz.func53, Tryz.ntmps53
    go_wp2_with (first | (refine loadFlag (x :: W) hS rfl rfl rfl ?_; simp only [putW]) | (guard_target =~ Calls _ 75 _ _ _; refine Stopped.out ?_))
    refine ⟨?_⟩
    refine Calls.mono (next_some hS) ?_
    clear hS
    rintro _ w ⟨rfl, hS⟩
    simp only [putW]
    go_wp2_with (guard_target =~ Calls _ 78 _ _ _; refine Stopped.out ?_)
    refine ⟨?_⟩
    refine Calls.mono (unhex_any hl) ?_
    rintro _ w2 (⟨A, v, hA, rfl, h2⟩ | ⟨hA, rfl, h2⟩)
    · replace hS := hS.frame h2
      clear h2
      simp only [List.cons_append, List.nil_append] at hS
      simp only [putW]
      have HA : Bx (unhexW x = some A) := ⟨hA⟩
      have HOk : Bx (∀ x ∈ A, okByte x) := ⟨unhex_ok hA⟩
      clear hA
      by_cases h8 : A.length = 8
      · obtain ⟨g, cap, rfl, hS1⟩ := hS.slSome (by intro e; rw [e] at h8; simp at h8)
        rw [h8]
        clear hS
        have hS := hS1
        clear hS1
        have H8 : Bx (A.length = 8) := ⟨h8⟩
        clear h8
        go_wp2_with (go_at_call 25; refine Calls.mono (want_ok rfl) ?_; rintro _ w2 ⟨rfl, h2⟩; replace hS := hS.frame h2; clear h2; (try simp only [List.cons_append, List.nil_append] at hS); simp only [putW])
        go_loopw [8, 53] (fun nv i wr => ∃ (k m : Nat), k ≤ 8 ∧ m < 18446744073709551616 ∧ nv = .int .u64 (m : Int) ∧ i = .int .i64 (k : Int) ∧ Bx (m = beV 0 (A.take k)) ∧ Sat w0 ((g, slc 1 by8 A cap 5) :: (fb, frm W) :: (sb, cells c tb) :: K) wr) (fun _ i _ => 8 - (intOf i).toNat)
        case atStart => exact ⟨0, 0, by omega, by omega, rfl, rfl, ⟨rfl⟩, hS⟩
        case round =>
          clear hS
          obtain ⟨k, m, hk, hm, rfl, rfl, hB, hS⟩ := hrel
          by_cases hlt : k < 8
          · obtain ⟨y, hy⟩ : ∃ y, A[k]? = some y := ⟨_, List.getElem?_eq_getElem (by rw [H8.out]; exact hlt)⟩
            have hy2 := HOk.out y (List.mem_of_getElem? hy)
            unfold okByte at hy2
            have hm7 : m < 72057594037927936 := by rw [hB.out]; exact beV8 HOk.out (by omega)
            have hor : bits .or .u64 ((m : Int) * 256) y = 256 * m + y := by rw [bits_join .u64 64 (by decide) wraps_u64 8 ((m : Int) * 256) y (by omega) (by omega) (by omega) (by omega) (by omega) (by omega)]; omega
            go_wp2_with (refine loadS1 (v1 := Value.int .u8) hS rfl rfl rfl hy ?_; simp only [putW])
            go_roundw
            case rel =>
              refine ⟨k + 1, m * 256 + y.toNat, by omega, by omega, ?_, by go_num, ⟨?_⟩, hS⟩
              · first | (congr 1; omega) | (rw [hor]; congr 1; omega)
              · rw [beV_take hy, ← hB.out]
            case measure => simp only [intOf]; omega
          · have hke : A.take k = A := List.take_of_length_le (by rw [H8.out]; omega)
            rw [hke] at hB
            have hfr : ∀ w : World, (callFunc 30 #[.int .u64 (m : Int)]).run Tryz.prog w = .ok (.value (.float .f64 m)) w := fun w => ffrombits_run m w
            have hse := self_eq hm
            go_upto_region 16 with (refine store1 (b := sb) (v := .float .f64 m) hS rfl rfl rfl rfl rfl ?_ ?_; (focus (exact HO.out)); clear hS; intro w hS; try simp only [putW])
            clear hfr
            by_cases hn : nanB m = true
            · rw [hn] at hse
              have hse2 : (FloatKind.f64.format.order m m == some Ordering.eq) = false := hse
              by_cases he : m = theNan
              · have hq : ((m : Int) == 9221120237041090561) = true := by rw [he]; rfl
                have HN : Bx (takeW bitsW (x :: W) = some (m, W)) := ⟨by
                  simp only [takeW, bitsW, HA.out]
                  rw [← hB.out, if_pos ⟨H8.out, fun _ => he⟩]; rfl⟩
                clear he hn hse hB
                (refine region_quiet hS (by kernel_rfl) (by kernel_rfl) (by kernel_rfl) ?_; clear hS; (repeat (first | (apply quiet_go rfl Tryz.call25 rfl; (focus (intro w hS; refine Calls.mono (want_ok rfl) ?_; rintro _ w2 ⟨rfl, h2⟩; exact ⟨rfl, hS.frame h2⟩)); simp only [putW]) | (refine quiet_y (yLoad1 (b := sb) (c := c.setIfInBounds off (.float .f64 m)) (v := .float .f64 m) (fun _ h => h) rfl rfl rfl (by simp [HO.out])) ?_; simp only [putW]) | (refine quiet_y (yMove rfl rfl rfl) ?_; simp only [evW, putW]) | (refine quiet_y (yNil rfl rfl rfl) ?_; simp only [putW]) | (apply quiet_y; (focus (apply yRun rfl; intro w; first | (go_simp; done) | (go_simp; rfl))); simp only [putW]))); refine quiet_nil ?_; intro w hS)
                go_wp2_with (refine load1 hS rfl rfl rfl rfl ?_; simp only [putW])
                go_end0
                exact .inl ⟨m, W, HN.out, rfl, hS.conv⟩
              · have hq : ((m : Int) == 9221120237041090561) = false := by
                  have : (m : Int) ≠ 9221120237041090561 := fun e => he (by show m = 9221120237041090561; omega)
                  simp [this]
                have HN : Bx (takeW bitsW (x :: W) = none) := ⟨by
                  simp only [takeW, bitsW, HA.out]
                  rw [← hB.out, if_neg fun h => he (h.2 hn)]; rfl⟩
                clear he hn hse hB
                (refine wp_region_held (S := fun w' => Sat w0 ((g, slc 1 by8 A cap 5) :: (fb, frm W) :: (sb, cells (c.setIfInBounds off (.float .f64 m)) tb) :: K) w') (by kernel_rfl) ?_; replace hS := hS.drew; (refine takeIf (i := 0) rfl (by kernel_rfl) (fun _ _ _ h => h) (yMove rfl rfl rfl) hS.conv ?_; simp only [evW, putW]); (apply takeIf (i := 1) rfl (by kernel_rfl) (fun _ _ _ h => h); (focus (apply yRun rfl; intro w; first | (go_simp; done) | (go_simp; rfl))); (focus (exact hS.conv)); simp only [putW]); (refine takeIf (i := 2) rfl (by kernel_rfl) (fun _ _ _ h => h) (yLoad1 (b := sb) (c := c.setIfInBounds off (.float .f64 m)) (v := .float .f64 m) (fun _ h => h) rfl rfl rfl (by simp [HO.out])) hS.conv ?_; simp only [putW]); (refine takeIf (i := 3) rfl (by kernel_rfl) (fun _ _ _ h => h) (yMove rfl rfl rfl) hS.conv ?_; simp only [evW, putW]); (apply takeIf (i := 4) rfl (by kernel_rfl) (fun _ _ _ h => h); (focus (apply yRun rfl; intro w; first | (go_simp; done) | (go_simp; rfl))); (focus (exact hS.conv)); simp only [putW]); (refine takeIf (i := 5) rfl (by kernel_rfl) (fun _ _ _ h => h) (yLoad1 (b := sb) (c := c.setIfInBounds off (.float .f64 m)) (v := .float .f64 m) (fun _ h => h) rfl rfl rfl (by simp [HO.out])) hS.conv ?_; simp only [putW]); (apply takeIf (i := 6) rfl (by kernel_rfl) (fun _ _ _ h => h); (focus (apply yRun rfl; intro w; first | (go_simp; done) | (go_simp; rfl))); (focus (exact hS.conv)); simp only [putW]); (refine takeIf (i := 7) rfl (by kernel_rfl) (fun _ _ _ h => h) (yMove rfl rfl rfl) hS.conv ?_; simp only [evW, putW]); (refine takeIf (i := 8) rfl (by kernel_rfl) (fun _ _ _ h => h) (yMove rfl rfl rfl) hS.conv ?_; simp only [evW, putW]); (apply takeIf (i := 9) rfl (by kernel_rfl) (fun _ _ _ h => h); (focus (apply yRun rfl; intro w; first | (go_simp; done) | (go_simp; rfl))); (focus (exact hS.conv)); simp only [putW]); (apply takeIf (i := 10) rfl (by kernel_rfl) (fun _ _ _ h => h); (focus (apply yRun rfl; intro w; first | (go_simp; done) | (go_simp; rfl))); (focus (exact hS.conv)); simp only [putW]); refine wpAnyH_all (rs := [11]) (by kernel_rfl) (by simp) ?_; intro i hi; simp only [List.mem_cons, List.not_mem_nil, or_false] at hi; subst hi; refine opPanic rfl rfl Tryz.call25 rfl ?_; refine Calls.mono (want_no rfl) ?_; rintro _ w2 ⟨rfl, h2⟩; refine ⟨_, rfl, ?_⟩; exact ⟨rfl, .inr ⟨HN.out, rfl, (hS.frame h2).tail.tail.tail⟩⟩)
            · have hn2 : nanB m = false := by simpa using hn
              rw [hn2] at hse
              have hse2 : (FloatKind.f64.format.order m m == some Ordering.eq) = true := hse
              have HN : Bx (takeW bitsW (x :: W) = some (m, W)) := ⟨by
                simp only [takeW, bitsW, HA.out]
                rw [← hB.out, if_pos ⟨H8.out, fun h => absurd h hn⟩]; rfl⟩
              clear hn hn2 hse hB
              (refine region_quiet hS (by kernel_rfl) (by kernel_rfl) (by kernel_rfl) ?_; clear hS; (repeat (first | (refine quiet_skip rfl ?_; simp only [putW]) | (apply quiet_go rfl Tryz.call25 rfl; (focus (intro w hS; refine Calls.mono (want_ok rfl) ?_; rintro _ w2 ⟨rfl, h2⟩; exact ⟨rfl, hS.frame h2⟩)); simp only [putW]) | (refine quiet_y (yLoad1 (b := sb) (c := c.setIfInBounds off (.float .f64 m)) (v := .float .f64 m) (fun _ h => h) rfl rfl rfl (by simp [HO.out])) ?_; simp only [putW]) | (refine quiet_y (yMove rfl rfl rfl) ?_; simp only [evW, putW]) | (refine quiet_y (yNil rfl rfl rfl) ?_; simp only [putW]) | (apply quiet_y; (focus (apply yRun rfl; intro w; first | (go_simp; done) | (go_simp; rfl))); simp only [putW]))); refine quiet_nil ?_; intro w hS)
              go_wp2_with (refine load1 hS rfl rfl rfl rfl ?_; simp only [putW])
              go_end0
              exact .inl ⟨m, W, HN.out, rfl, hS.conv⟩
      · have hb : ((A.length : Int) == 8) = false := by
          have : (A.length : Int) ≠ 8 := by omega
          simp [this]
        have hb2 : (A.length == 8) = false := by simp [h8]
        obtain ⟨q, cc, rfl⟩ := slForm2 hS (v := v) (A := A)
        have HN : Bx (takeW bitsW (x :: W) = none) := ⟨by simp [takeW, bitsW, HA.out, h8]⟩
        clear h8
        go_wp2_with (go_at_call 25; refine Calls.mono (want_no rfl) ?_; rintro _ w2 ⟨rfl, h2⟩; replace hS := hS.frame h2; clear h2; (try simp only [List.cons_append, List.nil_append] at hS); simp only [putW])
        exact ⟨rfl, .inr ⟨HN.out, rfl, hS.tail.tail.tail⟩⟩
    · exact ⟨rfl, .inr ⟨by simp [takeW, bitsW, hA], rfl, (hS.frame h2).tail.tail⟩⟩
end
end Go.Proofs.YtpbjkfomdindnaaGreatDoor
