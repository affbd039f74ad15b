/-
  thimbleref18: Input, Digest.
-/
import Derived.Test.YtmhnnppcihoofaaDoorTrDig
import Derived.Test.YtmhnnppcihoofaaDoorShaR
set_option linter.unusedSimpArgs false
set_option linter.unusedVariables false
namespace Go.Proofs.YtmhnnppcihoofaaDoor
open Go.RowKit Go.Proofs.YtmhnnppcihoofaaDoor.Sl Go.Proofs.YtmhnnppcihoofaaDoor.Sha Go.Proofs.YtmhnnppcihoofaaDoor.Jp

section
variable {w0 : World} {A : List Int} {b : Int} {va : Value}
set_option maxHeartbeats 1000000 in
theorem refInput_any (hA : RB w0 A va) (hl : A.length ≤ 10000) :
    Calls Tryd.prog 22 #[.int .i64 b, va] w0 fun e w' => ∃ v, e = .returned v ∧ Sat w0 [(blk v, sl 1 by8 (inp b A) 5 v)] w' := by
  have hS := Sat.refl w0
  obtain ⟨N, hN, hN2⟩ : ∃ N : Nat, b % 4294967296 = (N : Int) ∧ N < 4294967296 := ⟨(b % 4294967296).toNat, by omega, by omega⟩
  have hinp : Bx (inp b A = 1 :: be 4 N ++ A) := ⟨by unfold inp; rw [show (b % 4294967296).toNat = N by omega]⟩
  have HN : Bx _ := ⟨hN⟩
  clear hN
  go_enter Tryd.func22, Tryd.ntmps22
  go_wp2_with (first | (guard_target =~ wpList _ _ _ (Oper.mk (some 20) _ _ _ _ _ :: _) _ _; refine Stopped.out ?_) | (refine load1 hS rfl rfl rfl rfl ?_; simp only [putW]) | (refine loadAll hS rfl rfl rfl ?_ ?_; rfl; simp only [putW]) | (refine loadPart hS rfl rfl rfl ?_ rfl ?_; rfl; simp only [putW]) | (refine store1 hS rfl rfl rfl rfl rfl ?_ ?_; (focus (simp; done)); clear hS; intro w hS; simp only [evW, putW] at hS; try simp only [putW]) | (refine storeAll hS rfl rfl rfl rfl ?_ ?_ ?_ ?_; rfl; (focus (simp [Value.oneCell']; done)); rfl; clear hS; intro w hS; try simp only [putW]) | (refine storeN hS rfl rfl rfl rfl ?_ ?_ ?_ ?_; rfl; (focus (simp [Value.oneCell']; done)); (focus (simp; done)); clear hS; intro w hS; simp at hS; try simp only [putW]) | (refine alloc hS rfl rfl ?_; clear hS; intro mb w hS; simp only [putW]) | (refine box1 hS rfl rfl rfl rfl ?_; clear hS; intro mb w hS; try simp only [evW, putW] at hS; simp only [putW]) | (refine boxN hS rfl rfl rfl ?_; clear hS; intro mb w hS; simp only [putW]))
  refine ⟨?_⟩
  rw [HN.out]
  refine buildSlice5 (u0 := .int .u8 1) (u1 := .int .u8 ((N : Int) / 16777216)) (u2 := .int .u8 ((N : Int) / 65536 % 256)) (u3 := .int .u8 ((N : Int) / 256 % 256)) (u4 := .int .u8 ((N : Int) % 256)) hS rfl rfl rfl rfl rfl rfl rfl ?_
  clear hS
  intro mb w hS
  simp only [putW]
  have hbe : be 4 N = [(N : Int) / 16777216, (N : Int) / 65536 % 256, (N : Int) / 256 % 256, (N : Int) % 256] := by
    show [((N / 256 ^ 3 % 256 : Nat) : Int), ((N / 256 ^ 2 % 256 : Nat) : Int), ((N / 256 ^ 1 % 256 : Nat) : Int), ((N / 256 ^ 0 % 256 : Nat) : Int)] = _
    have e1 : ((N / 256 ^ 3 % 256 : Nat) : Int) = (N : Int) / 16777216 := by omega
    have e2 : ((N / 256 ^ 2 % 256 : Nat) : Int) = (N : Int) / 65536 % 256 := by omega
    have e3 : ((N / 256 ^ 1 % 256 : Nat) : Int) = (N : Int) / 256 % 256 := by omega
    have e4 : ((N / 256 ^ 0 % 256 : Nat) : Int) = (N : Int) % 256 := by omega
    rw [e1, e2, e3, e4]
  have hS2 : Sat w0 ((mb, sl 1 by8 (1 :: be 4 N) 5 (.slice (some ⟨mb, 0, none⟩) 5 5)) :: []) w :=
    (hS.toSlc (l := 1 :: be 4 N) (cap := 5) (n := 1) (f := by8) (by simp) (by simp) (by simp [maxLen]) (by rw [hbe]; rfl) (fun _ _ => rfl)).slOfSlc
  clear hS hbe
  have hS := hS2
  clear hS2
  go_wp2_with (first | (guard_target =~ wpList _ _ _ (Oper.mk (some 23) _ _ _ _ _ :: _) _ _; refine Stopped.out ?_) | (refine load1 hS rfl rfl rfl rfl ?_; simp only [putW]) | (refine loadAll hS rfl rfl rfl ?_ ?_; rfl; simp only [putW]) | (refine loadPart hS rfl rfl rfl ?_ rfl ?_; rfl; simp only [putW]) | (refine store1 hS rfl rfl rfl rfl rfl ?_ ?_; (focus (simp; done)); clear hS; intro w hS; simp only [evW, putW] at hS; try simp only [putW]) | (refine storeAll hS rfl rfl rfl rfl ?_ ?_ ?_ ?_; rfl; (focus (simp [Value.oneCell']; done)); rfl; clear hS; intro w hS; try simp only [putW]) | (refine storeN hS rfl rfl rfl rfl ?_ ?_ ?_ ?_; rfl; (focus (simp [Value.oneCell']; done)); (focus (simp; done)); clear hS; intro w hS; simp at hS; try simp only [putW]) | (refine alloc hS rfl rfl ?_; clear hS; intro mb w hS; simp only [putW]) | (refine box1 hS rfl rfl rfl rfl ?_; clear hS; intro mb w hS; try simp only [evW, putW] at hS; simp only [putW]) | (refine boxN hS rfl rfl rfl ?_; clear hS; intro mb w hS; simp only [putW]))
  refine ⟨?_⟩
  refine appendB (f := by8) hS rfl rfl (.slice (some ⟨mb, 0, none⟩) 5 5) rfl rfl A (hA.mono hS.base) (cell8 A) ?_ ?_ ?_
  · simp [maxLen]; omega
  · simp; omega
  clear hS
  intro v1 w hS
  simp only [putW]
  go_wp2_with (first | (refine load1 hS rfl rfl rfl rfl ?_; simp only [putW]) | (refine loadAll hS rfl rfl rfl ?_ ?_; rfl; simp only [putW]) | (refine loadPart hS rfl rfl rfl ?_ rfl ?_; rfl; simp only [putW]) | (refine store1 hS rfl rfl rfl rfl rfl ?_ ?_; (focus (simp; done)); clear hS; intro w hS; simp only [evW, putW] at hS; try simp only [putW]) | (refine storeAll hS rfl rfl rfl rfl ?_ ?_ ?_ ?_; rfl; (focus (simp [Value.oneCell']; done)); rfl; clear hS; intro w hS; try simp only [putW]) | (refine storeN hS rfl rfl rfl rfl ?_ ?_ ?_ ?_; rfl; (focus (simp [Value.oneCell']; done)); (focus (simp; done)); clear hS; intro w hS; simp at hS; try simp only [putW]) | (refine alloc hS rfl rfl ?_; clear hS; intro mb w hS; simp only [putW]) | (refine box1 hS rfl rfl rfl rfl ?_; clear hS; intro mb w hS; try simp only [evW, putW] at hS; simp only [putW]) | (refine boxN hS rfl rfl rfl ?_; clear hS; intro mb w hS; simp only [putW]))
  go_ret
  exact ⟨_, rfl, by rw [hinp.out]; exact hS⟩
set_option maxRecDepth 100000 in
set_option maxHeartbeats 1000000 in
theorem refDigest_any {D : List Int} (hD : shaF (inp b A) = D) (hA : RB w0 A va) (hl : A.length ≤ 10000) :
    Calls Tryd.prog 16 #[.int .i64 b, va] w0 fun e w' => e = .returned (.agg (D.map u8v).toArray) ∧ Sat w0 [] w' := by
  have hS := Sat.refl w0
  have HD : Bx _ := ⟨hD⟩
  clear hD
  have hdl : Bx (D.length = 32) := ⟨by rw [← HD.out]; exact dig_len _⟩
  have hb : ∀ x ∈ inp b A, okByte x := fun x hx => by
    unfold inp at hx
    rcases List.mem_append.1 hx with hx | hx
    · rcases List.mem_cons.1 hx with hx | hx
      · rw [hx]; unfold okByte; omega
      · exact be_byt _ _ x hx
    · exact hA.all x hx
  have hlen : (inp b A).length ≤ 100000000 := by unfold inp; simp; omega
  go_enter Tryd.func16, Tryd.ntmps16
  go_wp2_with (first | (refine allocA (t := 23) (vv := u8v) hS rfl rfl (List.replicate 32 0) zeros32 ?_; clear hS; intro mo w hS; simp only [putW]) | (guard_target =~ Calls _ 22 _ _ _; refine Stopped.out ?_) | (refine load1 hS rfl rfl rfl rfl ?_; simp only [putW]) | (refine loadAll hS rfl rfl rfl ?_ ?_; rfl; simp only [putW]) | (refine loadPart hS rfl rfl rfl ?_ rfl ?_; rfl; simp only [putW]) | (refine store1 hS rfl rfl rfl rfl rfl ?_ ?_; (focus (simp; done)); clear hS; intro w hS; simp only [evW, putW] at hS; try simp only [putW]) | (refine storeAll hS rfl rfl rfl rfl ?_ ?_ ?_ ?_; rfl; (focus (simp [Value.oneCell']; done)); rfl; clear hS; intro w hS; try simp only [putW]) | (refine storeN hS rfl rfl rfl rfl ?_ ?_ ?_ ?_; rfl; (focus (simp [Value.oneCell']; done)); (focus (simp; done)); clear hS; intro w hS; simp at hS; try simp only [putW]) | (refine alloc hS rfl rfl ?_; clear hS; intro mb w hS; simp only [putW]) | (refine box1 hS rfl rfl rfl rfl ?_; clear hS; intro mb w hS; try simp only [evW, putW] at hS; simp only [putW]) | (refine boxN hS rfl rfl rfl ?_; clear hS; intro mb w hS; simp only [putW]))
  refine ⟨?_⟩
  (refine Calls.mono (refInput_any (hA.mono hS.base) hl) ?_; rintro _ w2 ⟨v, rfl, h2⟩; replace hS := hS.frame h2; clear h2; (try simp only [List.cons_append, List.nil_append] at hS); simp only [putW])
  have hrd := hS.readsSl (v := v) (L := inp b A) hb
  clear hb
  go_wp2_with (first | (guard_target =~ Calls _ 21 _ _ _; refine Stopped.out ?_) | (refine load1 hS rfl rfl rfl rfl ?_; simp only [putW]) | (refine loadAll hS rfl rfl rfl ?_ ?_; rfl; simp only [putW]) | (refine loadPart hS rfl rfl rfl ?_ rfl ?_; rfl; simp only [putW]) | (refine store1 hS rfl rfl rfl rfl rfl ?_ ?_; (focus (simp; done)); clear hS; intro w hS; simp only [evW, putW] at hS; try simp only [putW]) | (refine storeAll hS rfl rfl rfl rfl ?_ ?_ ?_ ?_; rfl; (focus (simp [Value.oneCell']; done)); rfl; clear hS; intro w hS; try simp only [putW]) | (refine storeN hS rfl rfl rfl rfl ?_ ?_ ?_ ?_; rfl; (focus (simp [Value.oneCell']; done)); (focus (simp; done)); clear hS; intro w hS; simp at hS; try simp only [putW]) | (refine alloc hS rfl rfl ?_; clear hS; intro mb w hS; simp only [putW]) | (refine box1 hS rfl rfl rfl rfl ?_; clear hS; intro mb w hS; try simp only [evW, putW] at hS; simp only [putW]) | (refine boxN hS rfl rfl rfl ?_; clear hS; intro mb w hS; simp only [putW]))
  refine ⟨?_⟩
  (refine Calls.mono (refOf_any hrd hlen) ?_; rintro _ w2 ⟨rfl, h2⟩; replace hS := hS.frame h2; clear h2; (try simp only [List.cons_append, List.nil_append] at hS); simp only [putW])
  rw [HD.out]
  clear hrd
  go_wp2_with (first | (refine storeAllA (vv := u8v) hS rfl rfl rfl D rfl hdl.out (fun _ _ => rfl) (by simp) ?_; clear hS; intro w hS; try simp only [putW]) | (refine load1 hS rfl rfl rfl rfl ?_; simp only [putW]) | (refine loadAll hS rfl rfl rfl ?_ ?_; rfl; simp only [putW]) | (refine loadPart hS rfl rfl rfl ?_ rfl ?_; rfl; simp only [putW]) | (refine store1 hS rfl rfl rfl rfl rfl ?_ ?_; (focus (simp; done)); clear hS; intro w hS; simp only [evW, putW] at hS; try simp only [putW]) | (refine storeAll hS rfl rfl rfl rfl ?_ ?_ ?_ ?_; rfl; (focus (simp [Value.oneCell']; done)); rfl; clear hS; intro w hS; try simp only [putW]) | (refine storeN hS rfl rfl rfl rfl ?_ ?_ ?_ ?_; rfl; (focus (simp [Value.oneCell']; done)); (focus (simp; done)); clear hS; intro w hS; simp at hS; try simp only [putW]) | (refine alloc hS rfl rfl ?_; clear hS; intro mb w hS; simp only [putW]) | (refine box1 hS rfl rfl rfl rfl ?_; clear hS; intro mb w hS; try simp only [evW, putW] at hS; simp only [putW]) | (refine boxN hS rfl rfl rfl ?_; clear hS; intro mb w hS; simp only [putW]))
  have hr := run_loadAll (P := Tryd.prog) hS mo 23 (by simpa using hdl.out)
  refine bodyPost_ret (v := .agg (D.map u8v).toArray) (by simp only [results, Tryd.results16, asAddr]; simp [hr]) rfl ⟨rfl, hS.nothing⟩
end
end Go.Proofs.YtmhnnppcihoofaaDoor
