/-
  sha.Of: the digest of parts.
-/
import Derived.Test.YtdkimdobcacpfaaDoorShaQ
set_option linter.unusedSimpArgs false
set_option linter.unusedVariables false
namespace Go.Proofs.YtdkimdobcacpfaaDoor
open Go.RowKit Go.Proofs.YtdkimdobcacpfaaDoor.Sl Go.Proofs.YtdkimdobcacpfaaDoor.Sha Go.Proofs.YtdkimdobcacpfaaDoor.Jp

abbrev rowG : Value × List Int → List Value := fun x => [x.1]
theorem catTake {X : List (Value × List Int)} {k : Nat} {x : Value × List Int} (h : X[k]? = some x) : cat (X.take (k + 1)) = cat (X.take k) ++ x.2 := by
  unfold cat
  rw [List.take_add_one,h]
  simp
theorem catLe {X : List (Value × List Int)} {k : Nat} : (cat (X.take k)).length ≤ (cat X).length := by
  unfold cat
  rw [← List.take_append_drop k X,List.map_append,List.flatten_append,List.length_append,List.take_append_drop]
  omega
section
variable {w0 : World} {X : List (Value × List Int)} {vp : Value}
set_option maxRecDepth 100000 in
set_option maxHeartbeats 4000000 in
theorem shaOf_any (hX : RR w0 X vp) (hK : KTab w0) (hc : (cat X).length ≤ 100000000000) :
    Calls Tryd.prog 77 #[vp] w0 fun e w' => e = .returned (.agg ((shaF (cat X)).map u8v).toArray) ∧ Sat w0 [] w' := by
  have hS := Sat.refl w0
  obtain ⟨pa,cp,rfl,hl,hat⟩ := hX.at
  have hbyt : Bx (∀ y ∈ cat X,okByte y) := ⟨fun y hy => by
    unfold cat at hy
    obtain ⟨l,hl,hy⟩ := List.mem_flatten.1 hy
    obtain ⟨x,hx,rfl⟩ := List.mem_map.1 hl
    exact (hX.all x hx).all y hy⟩
  have hAt : Bx (X ≠ [] → ∃ b off,pa = some ⟨b,off,none⟩ ∧ BAt w0 1 rowG (fun x => RB w0 x.2 x.1) X b off) := ⟨hat⟩
  have HC : Bx _ := ⟨hc⟩
  clear hat hX hc
  go_enter Tryd.func77,Tryd.ntmps77
  go_wp2_with (first | (refine allocA (t := 26) (vv := u8v) hS rfl rfl (List.replicate 32 0) zeros32 ?_;clear hS;intro mo w hS;simp only [putW]) | (go_at_call 88;refine Calls.mono (shaNew_any) ?_;rintro _ w2 ⟨b,rfl,h2⟩;replace hS := hS.frame h2;clear h2;(try simp only [List.cons_append,List.nil_append] at hS);simp only [putW]))
  have hS2 := (hS.slNil 1 by8 (α := Int) 5).perm (List.Perm.swap _ _ _)
  have hS3 : Sat w0 ((b,SumC [] 0)::_) w2 := closeSum (b := b) (n := 0) (M := []) (vr := .slice none 0 0) hS2
  clear hS hS2
  have hS := hS3
  clear hS3
  go_loopw [9] (fun i wr => ∃ k : Nat,k ≤ X.length ∧ i = .int .i64 (k : Int) ∧ Sat w0 [(b,SumC (cat (X.take k)) (cat (X.take k)).length),(mo,cells ((List.replicate 32 (0 : Int)).map u8v).toArray 26)] wr) (fun i _ => X.length - (intOf i).toNat)
  case atStart => exact ⟨0,by omega,rfl,by rw [show cat (X.take 0) = [] from rfl];exact hS⟩
  case round =>
    clear hS
    obtain ⟨k,hk,rfl,hS⟩ := hrel
    by_cases hlt : k < X.length
    · obtain ⟨pb,po,rfl,hB⟩ := hAt.out (by intro e;subst e;simp at hlt)
      obtain ⟨⟨xv,xl⟩,hx⟩ : ∃ x,X[k]? = some x := ⟨_,List.getElem?_eq_getElem hlt⟩
      have hrow := (hB.2 k _ hx).1
      have hct := catTake hx
      have hle2 := catLe (X := X) (k := k + 1)
      have hMB : ∀ y ∈ cat (X.take k),okByte y := fun y hy => hbyt.out y (by
        unfold cat at hy ⊢
        rw [← List.take_append_drop k X,List.map_append,List.flatten_append]
        exact List.mem_append.2 (.inl hy))
      have HX : Bx _ := ⟨hx⟩
      have HCt : Bx _ := ⟨hct⟩
      obtain ⟨N,hN⟩ : ∃ N,cat (X.take k) = N := ⟨_,rfl⟩
      rw [hN] at hS hMB hct
      have hle : N.length + xl.length ≤ 1000000000000 := by
        rw [hct,List.length_append] at hle2
        have := HC.out;simp at hle2;omega
      have HN : Bx _ := ⟨hN⟩
      clear hx hct hle2 hN
      go_wp2_with (first | (refine loadB (f := rowG) hS rfl rfl rfl hB k 0 ?_ HX.out rfl ?_;omega;simp only [putW]) | (guard_target =~ Calls _ 89 _ _ _;refine Stopped.out ?_))
      refine ⟨?_⟩
      (refine Calls.mono (write_any (A := xl) hS (fun w' h => hrow.mono h.base) hK hMB hle) ?_;clear hS;rintro _ w ⟨rfl,hS⟩;simp only [putW])
      go_wp2_with (refine load1 hS rfl rfl rfl rfl ?_;simp only [putW])
      go_roundw
      case rel => exact ⟨k + 1,by omega,by go_num,by rw [HCt.out,HN.out,List.length_append];exact hS⟩
      case measure => simp [intOf];omega
    · have hkX : k = X.length := by omega
      subst hkX
      rw [List.take_length] at hS
      clear hlt hk
      go_wp2_with (guard_target =~ Calls _ 90 _ _ _;refine Stopped.out ?_)
      refine ⟨?_⟩
      (refine Calls.mono (sum_any hS hK hbyt.out HC.out) ?_;clear hS;rintro _ w ⟨rfl,hS⟩;simp only [putW])
      have hdl : Bx ((shaF (cat X)).length = 32) := ⟨dig_len _⟩
      go_wp2_with (refine storeAllA (vv := u8v) hS rfl rfl rfl (shaF (cat X)) rfl hdl.out (fun _ _ => rfl) (by simp) ?_;clear hS;intro w hS;try simp only [putW])
      have hr := run_loadAll (P := Tryd.prog) hS mo 26 (by simpa using hdl.out)
      refine bodyPost_ret (v := .agg ((shaF (cat X)).map u8v).toArray) (by simp only [results,Tryd.results77,asAddr];simp [hr]) rfl ⟨rfl,hS.nothing⟩
end
end Go.Proofs.YtdkimdobcacpfaaDoor
