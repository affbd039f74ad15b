/-
  sha.Sum.Write.
-/
import Derived.Test.YtdkimdobcacpfaaDoorShaB
import Derived.Test.YtdkimdobcacpfaaDoorShA
import Derived.Test.YtdkimdobcacpfaaDoorSlB
set_option linter.unusedSimpArgs false
set_option linter.unusedVariables false
namespace Go.Proofs.YtdkimdobcacpfaaDoor
open Go.RowKit Go.Proofs.YtdkimdobcacpfaaDoor.Sl Go.Proofs.YtdkimdobcacpfaaDoor.Sha

/-- A Sum that has taken in M. -/
def sumL (s R : List Int) (n : Int) (vr : Value) (b : Nat) : List Chunk := [(b,cells (s.map u32v ++ [vr,Value.int .u64 n]).toArray 175),(blk vr,sl 1 by8 R 5 vr)]
/-- A Sum that has taken in M; its count says n. -/
def SumC (M : List Int) (n : Nat) : K := fun b h => ∃ vr,holds (sumL (stOf M) (lft M) (n : Int) vr b) h
/-- The table, as it was laid. -/
abbrev KTab (w : World) : Prop := BAt w 1 (one u32v) (fun _ => True) kTab 1 0

section
variable {w0 w : World} {K F S : List Chunk} {b n : Nat} {M A : List Int} {vp : Value}
theorem cell8 (L : List Int) : ∀ x ∈ L,∀ u ∈ by8 x,u.oneCell' = true := fun x _ u hu => by
  have : u = Value.int .u8 x := by simpa [one] using hu
  subst this;rfl
theorem openSum (hS : Sat w0 ((b,SumC M n)::F) w) : ∃ vr,Sat w0 ((b,cells ((stOf M).map u32v ++ [vr,Value.int .u64 (n : Int)]).toArray 175)::(blk vr,sl 1 by8 (lft M) 5 vr)::F) w := by
  obtain ⟨vr,hS⟩ := hS.ex (Z := fun vr b h => holds (sumL (stOf M) (lft M) (n : Int) vr b) h) fun _ h => h
  exact ⟨vr,hS.open (T := sumL (stOf M) (lft M) (n : Int) vr b) fun _ h => h⟩
theorem closeSum {vr : Value} (hS : Sat w0 ((b,cells ((stOf M).map u32v ++ [vr,Value.int .u64 (n : Int)]).toArray 175)::(blk vr,sl 1 by8 (lft M) 5 vr)::F) w) : Sat w0 ((b,SumC M n)::F) w :=
  Sat.close (T := sumL (stOf M) (lft M) (n : Int) vr b) hS fun _ h => ⟨vr,h⟩

theorem u32_cells {s : List Int} (h : s.length = 8) (a b c : Value) : ((s.map u32v ++ [a,b]).toArray.setIfInBounds 9 c) = (s.map u32v ++ [a,c]).toArray ∧ ((s.map u32v ++ [a,b]).toArray.setIfInBounds 8 c) = (s.map u32v ++ [c,b]).toArray ∧ (s.map u32v ++ [a,b]).toArray[8]? = some a ∧ (s.map u32v ++ [a,b]).toArray[9]? = some b ∧ (s.map u32v ++ [a,b]).toArray.size = 10 := by
  match s,h with
  | [a,b,c,d,e,f,g,i],_ => simp

section
variable {P : Program} {ops : Array Oper} {rest : List Oper} {o : Oper} {a : Act} {Q : Exit → Act → World → Prop} {nn : Nat} {z : Array Value} {zv r nv v : Value} {t tb : TypeId} {agg : Bool} {x y : Operand} {s : List Int}
theorem loadRest (hS : Sat w0 S w) (hw : Region.wanted o (yielded ops a.tmps) = true) (ho : o.op = .load t x) (hx : a.eval x = .pointer (some ⟨b,8,none⟩))
    [ty : Ty P t false nn zv z] [Pull S b (cells (s.map u32v ++ [r,nv]).toArray tb) F] (hs : s.length = 8) (k : wpList P ops Q rest (a.put o.dst r) w) : wpList P ops Q (o::rest) a w :=
  load1 hS hw ho hx (b := b) (c := (s.map u32v ++ [r,nv]).toArray) (tb := tb) (u32_cells hs r nv r).2.2.1 k
theorem loadCnt (hS : Sat w0 S w) (hw : Region.wanted o (yielded ops a.tmps) = true) (ho : o.op = .load t x) (hx : a.eval x = .pointer (some ⟨b,9,none⟩))
    [ty : Ty P t false nn zv z] [Pull S b (cells (s.map u32v ++ [r,nv]).toArray tb) F] (hs : s.length = 8) (k : wpList P ops Q rest (a.put o.dst nv) w) : wpList P ops Q (o::rest) a w :=
  load1 hS hw ho hx (b := b) (c := (s.map u32v ++ [r,nv]).toArray) (tb := tb) (u32_cells hs r nv r).2.2.2.1 k
theorem storeRest (hS : Sat w0 S w) (hw : Region.wanted o (yielded ops a.tmps) = true) (ho : o.op = .store t x y) (hx : a.eval x = .pointer (some ⟨b,8,none⟩)) (hy : a.eval y = v) (hv : v.oneCell' = true)
    [ty : Ty P t agg 1 zv z] [Pull S b (cells (s.map u32v ++ [r,nv]).toArray tb) F] (hs : s.length = 8) (k : ∀ w',Sat w0 ((b,cells (s.map u32v ++ [v,nv]).toArray tb)::F) w' → wpList P ops Q rest (a.put o.dst undef) w') : wpList P ops Q (o::rest) a w :=
  store1 hS hw ho hx hy hv (b := b) (c := (s.map u32v ++ [r,nv]).toArray) (tb := tb) (by rw [(u32_cells hs r nv r).2.2.2.2];omega) fun w' h => k w' (by rw [(u32_cells hs r nv v).2.1] at h;exact h)
theorem storeCnt (hS : Sat w0 S w) (hw : Region.wanted o (yielded ops a.tmps) = true) (ho : o.op = .store t x y) (hx : a.eval x = .pointer (some ⟨b,9,none⟩)) (hy : a.eval y = v) (hv : v.oneCell' = true)
    [ty : Ty P t agg 1 zv z] [Pull S b (cells (s.map u32v ++ [r,nv]).toArray tb) F] (hs : s.length = 8) (k : ∀ w',Sat w0 ((b,cells (s.map u32v ++ [r,v]).toArray tb)::F) w' → wpList P ops Q rest (a.put o.dst undef) w') : wpList P ops Q (o::rest) a w :=
  store1 hS hw ho hx hy hv (b := b) (c := (s.map u32v ++ [r,nv]).toArray) (tb := tb) (by rw [(u32_cells hs r nv r).2.2.2.2];omega) fun w' h => k w' (by rw [(u32_cells hs r nv v).1] at h;exact h)
end

set_option maxRecDepth 100000 in
set_option maxHeartbeats 4000000 in
theorem write_any (hS : Sat w0 ((b,SumC M n)::K) w) (hp : ∀ w',Sat w0 K w' → RB w' A vp) (hK : KTab w0) (hMB : ∀ x ∈ M,okByte x) (hM : n + A.length ≤ 1000000000000) :
    Calls Tryd.prog 89 #[.pointer (some ⟨b,0,none⟩),vp] w fun e w' => e = .returned (.tuple #[]) ∧ Sat w0 ((b,SumC (M ++ A) (n + A.length))::K) w' := by
  have hAB : Bx (∀ x ∈ M ++ A,okByte x) := ⟨fun x hx => (List.mem_append.1 hx).elim (hMB x) ((hp w hS.tail).all x)⟩
  clear hMB
  have H8 : Bx (∀ M,(stOf M).length = 8) := ⟨fun M => (blks_ok M _).1⟩
  have HM : Bx _ := ⟨hM⟩
  have hMl : n ≤ 1000000000000 := by omega
  have hAl : A.length ≤ 1000000000000 := by omega
  obtain ⟨vr,hS⟩ := openSum hS
  rcases hp w hS.tail.tail with ⟨rfl,hvp⟩ | ⟨pb,po,cp,rfl,hl1,hl2,_⟩
  · obtain ⟨ap,cp,rfl⟩ : ∃ ap cp,vp = .slice ap 0 cp := by
      rcases hvp with rfl | ⟨ad,cap,_,rfl⟩ <;> exact ⟨_,_,rfl⟩
    clear hvp hp hM
    go_enter Tryd.func89,Tryd.ntmps89
    go_wp2_with (first | (refine loadCnt hS rfl rfl rfl (H8.out _) ?_;simp only [putW]) | (refine storeCnt hS rfl rfl rfl (v := .int .u64 (n : Int)) rfl rfl (H8.out _) ?_;clear hS;intro w hS;simp only [putW]))
    go_loopw [1] (fun v wr => v = .slice ap 0 cp ∧ Sat w0 ((b,cells ((stOf M).map u32v ++ [vr,Value.int .u64 (n : Int)]).toArray 175)::(blk vr,sl 1 by8 (lft M) 5 vr)::K) wr) (fun v _ => sLen v)
    case atStart => exact ⟨rfl,hS⟩
    case round =>
      clear hS
      obtain ⟨rfl,hS⟩ := hrel
      go_wp2_with (refine load1 hS rfl rfl rfl rfl ?_;simp only [putW])
      go_end0
      exact ⟨rfl,by rw [List.append_nil];exact closeSum (n := n) hS⟩
  · have hat : Bx (A ≠ [] → ∀ w',Sat w0 K w' → BAt w' 1 by8 okByte A pb po) := ⟨fun hne w' h => by
      rcases hp w' h with ⟨e,_⟩ | ⟨pb',po',cp',e,_,_,hb⟩
      · exact absurd e hne
      · cases e;exact hb⟩
    clear hp hM
    go_enter Tryd.func89,Tryd.ntmps89
    go_wp2_with (first | (refine loadCnt hS rfl rfl rfl (H8.out _) ?_;simp only [putW]) | (refine storeCnt hS rfl rfl rfl (v := .int .u64 ((n : Int) + (A.length : Int))) rfl rfl (H8.out _) ?_;clear hS;intro w hS;simp only [putW]))
    go_loopw [1] (fun v wr => ∃ (j : Nat) (vr : Value) (ad : Addr),j ≤ A.length ∧ v = .slice (some ad) (A.length - j) (cp - j) ∧ Bx (j < A.length → ad = ⟨pb,po + j,none⟩) ∧ Sat w0 ((b,cells ((stOf (M ++ A.take j)).map u32v ++ [vr,Value.int .u64 ((n : Int) + (A.length : Int))]).toArray 175)::(blk vr,sl 1 by8 (lft (M ++ A.take j)) 5 vr)::K) wr) (fun v _ => sLen v)
    case atStart => exact ⟨0,vr,⟨pb,po,none⟩,by omega,by simp,⟨fun _ => by simp⟩,by rw [List.take_zero,List.append_nil];exact hS⟩
    case round =>
      clear hS
      obtain ⟨j,vr,ad,hj,rfl,had,hS⟩ := hrel
      by_cases hlt : j < A.length
      · obtain rfl := had.out hlt
        clear had
        have hne : A ≠ [] := by intro e;subst e;simp at hlt
        have hat := hat.out hne
        obtain ⟨N,hN⟩ : ∃ N,M ++ A.take j = N := ⟨_,rfl⟩
        rw [hN] at hS
        obtain ⟨q,c,rfl⟩ : ∃ q c,vr = .slice q (lft N).length c := by
          rcases (hS.perm (List.Perm.swap _ _ _)).slCases with ⟨h1,h,_⟩ | ⟨c,h1,_⟩
          · exact ⟨_,_,by rw [h1,h];rfl⟩
          · exact ⟨_,_,h1⟩
        obtain ⟨r,hr⟩ : ∃ r,(lft N).length = r := ⟨_,rfl⟩
        have hr64 : r < 64 := by rw [← hr,lft_len];omega
        rw [hr] at hS
        have HN : Bx _ := ⟨hN⟩
        have HR : Bx _ := ⟨hr⟩
        have hne' : Bx _ := ⟨hne⟩
        have hat' : Bx _ := ⟨hat⟩
        clear hN hr hne hat
        by_cases hc : 64 - r ≤ A.length - j
        · go_wp2_with (refine loadRest hS rfl rfl rfl (H8.out _) ?_;simp only [putW])
          have hsrc : RB wr.drew ((A.drop j).take (64 - r)) (.slice (some ⟨pb,po + j,none⟩) (64 - r) (cp - j)) := by
            have h1 := (hat'.out wr.drew hS.drew.tail.tail).part j (64 - r)
            rw [Nat.mul_one] at h1
            have h2 : ((A.drop j).take (64 - r)).length = 64 - r := by rw [List.length_take,List.length_drop];omega
            exact .inr ⟨pb,po + j,cp - j,by rw [h2],by omega,by omega,h1⟩
          have h2 : ((A.drop j).take (64 - r)).length = 64 - r := by rw [List.length_take,List.length_drop];omega
          obtain ⟨v',w2,hrun,hS2⟩ := run_appendB (P := Tryd.prog) (t := 48) hS.drew (v := .slice q r c) 48 ((A.drop j).take (64 - r)) hsrc (cell8 _) (by rw [HR.out,h2];simp [maxLen];omega) (by rw [HR.out,h2];omega)
          obtain ⟨g',c',rfl,hS3⟩ := hS2.slFormC 64 (by rw [List.length_append,HR.out,h2];omega) (by omega)
          clear hS2
          have hS2 := hS3
          clear hS3
          obtain ⟨B,hB⟩ : ∃ B,lft N ++ (A.drop j).take (64 - r) = B := ⟨_,rfl⟩
          rw [hB] at hS2
          have hNC : Bx (M ++ A.take (j + (64 - r)) = N ++ (A.drop j).take (64 - r)) := ⟨by rw [← HN.out,List.take_add,List.append_assoc]⟩
          have hfull : N.length % 64 + ((A.drop j).take (64 - r)).length = 64 := by rw [h2,← lft_len,HR.out];omega
          have hst : Bx (blkF B (stOf N) = stOf (N ++ (A.drop j).take (64 - r))) := ⟨by rw [stOf_full hfull,hB]⟩
          have hlf : Bx (lft (N ++ (A.drop j).take (64 - r)) = []) := ⟨lft_full hfull⟩
          have hBl : Bx (B.length = 64) := ⟨by rw [← hB,List.length_append,HR.out,h2];omega⟩
          have hBB : Bx (∀ x ∈ B,okByte x) := ⟨fun x hx => by
            rw [← hB] at hx
            refine hAB.out x ?_
            rcases List.mem_append.1 hx with h | h
            · have h3 : x ∈ N := List.mem_of_mem_drop h
              rw [← HN.out] at h3
              rcases List.mem_append.1 h3 with h4 | h4
              · exact List.mem_append.2 (.inl h4)
              · exact List.mem_append.2 (.inr (List.mem_of_mem_take h4))
            · exact List.mem_append.2 (.inr (List.mem_of_mem_drop (List.mem_of_mem_take h)))⟩
          clear hB hfull
          have HRun : Bx _ := ⟨hrun⟩
          have HS2 : Bx _ := ⟨hS2⟩
          have H2 : Bx _ := ⟨h2⟩
          clear hrun hS2 hsrc h2
          (refine region_seq [8,11] (fun s w => match s with | 0 => Bx (w = wr.drew) ∧ Sat w0 ((b,cells ((stOf N).map u32v ++ [Value.slice q r c,Value.int .u64 ((n : Int) + (A.length : Int))]).toArray 175)::(blk (.slice q r c),sl 1 by8 (lft N) 5 (.slice q r c))::K) w | 1 => Bx (w = w2) ∧ Sat w0 ((g',slc 1 by8 B c' 5)::(b,cells ((stOf N).map u32v ++ [Value.slice q r c,Value.int .u64 ((n : Int) + (A.length : Int))]).toArray 175)::K) w | _ => AnyW w ∧ Sat w0 ((b,cells ((stOf N).map u32v ++ [Value.slice (some ⟨g',0,none⟩) 64 c',Value.int .u64 ((n : Int) + (A.length : Int))]).toArray 175)::(g',slc 1 by8 B c' 5)::K) w) ⟨⟨rfl⟩,hS.drew⟩ (by kernel_rfl) (by kernel_rfl) (by kernel_rfl) rfl ?_;clear hS;(repeat (first | (apply seq_writeN rfl rfl;(focus (rintro w ⟨hE,hS⟩;go_wp2_with (refine storeRest (v := .slice (some ⟨g',0,none⟩) 64 c') hS rfl rfl rfl rfl rfl (H8.out _) ?_;clear hS;intro w hS;simp only [putW]);refine ⟨rfl,rfl,?_⟩;first | exact ⟨⟨rfl⟩,HS2.out⟩ | exact ⟨⟨trivial⟩,hS.conv⟩));simp only [putW]) | (apply seq_write rfl;(focus (rintro w ⟨hE,hS⟩;go_wp2_with (obtain ⟨hE⟩ := hE;subst hE;refine appendR rfl rfl rfl rfl HRun.out ?_;simp only [putW]);refine ⟨rfl,rfl,?_⟩;first | exact ⟨⟨rfl⟩,HS2.out⟩ | exact ⟨⟨trivial⟩,hS.conv⟩));simp only [putW]) | (apply seq_read1 rfl rfl;(focus (rintro w ⟨hE,hS⟩;go_wp2_with (refine loadRest hS rfl rfl rfl (H8.out _) ?_;simp only [putW]);exact ⟨rfl,rfl,hE,hS⟩));simp only [putW]) | (apply seq_read2 rfl rfl;(focus (rintro w ⟨hE,hS⟩;go_wp2_with (refine loadRest hS rfl rfl rfl (H8.out _) ?_;simp only [putW]);exact ⟨rfl,rfl,hE,hS⟩));(focus (rintro w ⟨hE,hS⟩;go_wp2_with (refine loadRest hS rfl rfl rfl (H8.out _) ?_;simp only [putW]);exact ⟨rfl,rfl,hE,hS⟩));simp only [putW])));refine seq_nil ?_;rintro w ⟨hE,hS⟩;clear hE)
          go_wp2_with (first | (refine sliceTail (zv := .int .u8 0) (z := #[.int .u8 0]) (b := pb) (off := po + j) (i := 64 - r) rfl rfl rfl (by first | rfl | exact congrArg (Value.int IntKind.i64) (by omega)) (fun _ => rfl) ?_ ?_ ?_;omega;omega;intro ad' had';have HAd : Bx _ := ⟨had'⟩;clear had';simp only [putW]) | (refine arrayPtr rfl rfl Tryd.underlying177 rfl (Nat.le_refl _) ?_;simp only [putW]) | (refine loadRest hS rfl rfl rfl (H8.out _) ?_;simp only [putW]) | (refine loadSA (vv := Value.int .u8) (g := g') hS rfl rfl rfl hBl.out ?_;simp only [putW]) | (guard_target =~ Calls _ 93 _ _ _;refine Stopped.out ?_))
          refine ⟨?_⟩
          (refine Calls.mono (block_any (b := b) (hs := stOf N) (B := B) (r := .slice (some ⟨g',0,none⟩) 64 c') (n := .int .u64 ((n : Int) + (A.length : Int))) hS (blks_ok _ _) hBl.out hBB.out hK) ?_;clear hS;rintro _ w ⟨rfl,hS⟩;simp only [putW])
          rw [hst.out] at hS
          go_wp2_with (first | (refine loadRest hS rfl rfl rfl (H8.out _) ?_;simp only [putW]) | (refine storeRest (v := .slice (some ⟨g',0,none⟩) 0 c') hS rfl rfl rfl rfl rfl (H8.out _) ?_;clear hS;intro w hS;simp only [putW]))
          go_roundw
          case rel =>
            refine ⟨j + (64 - r),.slice (some ⟨g',0,none⟩) 0 c',ad',by omega,by rw [show A.length - (j + (64 - r)) = A.length - j - (64 - r) by omega,show cp - (j + (64 - r)) = cp - j - (64 - r) by omega],⟨fun h => by rw [HAd.out (by omega),Nat.add_assoc]⟩,?_⟩
            rw [hNC.out,hlf.out]
            have h5 := ((hS.perm (List.Perm.swap _ _ _)).slcCut 0 (Nat.zero_le _)).slOfSlc
            rw [List.take_zero] at h5
            exact h5.perm (List.Perm.swap _ _ _)
          case measure => simp [sLen];omega
        · go_wp2_with (refine loadRest hS rfl rfl rfl (H8.out _) ?_;simp only [putW])
          have hsrc : RB wr.drew ((A.drop j).take (A.length - j)) (.slice (some ⟨pb,po + j,none⟩) (A.length - j) (cp - j)) := by
            have h1 := (hat'.out wr.drew hS.drew.tail.tail).part j (A.length - j)
            rw [Nat.mul_one] at h1
            have h2 : ((A.drop j).take (A.length - j)).length = A.length - j := by rw [List.length_take,List.length_drop];omega
            exact .inr ⟨pb,po + j,cp - j,by rw [h2],by omega,by omega,h1⟩
          have h2 : ((A.drop j).take (A.length - j)).length = A.length - j := by rw [List.length_take,List.length_drop];omega
          obtain ⟨v',w2,hrun,hS2⟩ := run_appendB (P := Tryd.prog) (t := 48) hS.drew (v := .slice q r c) 48 ((A.drop j).take (A.length - j)) hsrc (cell8 _) (by rw [HR.out,h2];simp [maxLen];omega) (by rw [HR.out,h2];omega)
          obtain ⟨g',c',rfl,hS3⟩ := hS2.slFormC (r + (A.length - j)) (by rw [List.length_append,HR.out,h2]) (by omega)
          clear hS2
          have hS2 := hS3
          clear hS3
          obtain ⟨B,hB⟩ : ∃ B,lft N ++ (A.drop j).take (A.length - j) = B := ⟨_,rfl⟩
          rw [hB] at hS2
          have hNC : Bx (M ++ A.take (j + (A.length - j)) = N ++ (A.drop j).take (A.length - j)) := ⟨by rw [← HN.out,List.take_add,List.append_assoc]⟩
          have hle : N.length % 64 + ((A.drop j).take (A.length - j)).length < 64 := by rw [h2,← lft_len,HR.out];omega
          have hst : Bx (stOf (N ++ (A.drop j).take (A.length - j)) = stOf N) := ⟨stOf_app hle⟩
          have hlf : Bx (lft (N ++ (A.drop j).take (A.length - j)) = B) := ⟨by rw [lft_app hle,hB]⟩
          have hBl : Bx (B.length = r + (A.length - j)) := ⟨by rw [← hB,List.length_append,HR.out,h2]⟩
          clear hB hle
          have HRun : Bx _ := ⟨hrun⟩
          have HS2 : Bx _ := ⟨hS2⟩
          have H2 : Bx _ := ⟨h2⟩
          clear hrun hS2 hsrc h2
          (refine region_seq [8,11] (fun s w => match s with | 0 => Bx (w = wr.drew) ∧ Sat w0 ((b,cells ((stOf N).map u32v ++ [Value.slice q r c,Value.int .u64 ((n : Int) + (A.length : Int))]).toArray 175)::(blk (.slice q r c),sl 1 by8 (lft N) 5 (.slice q r c))::K) w | 1 => Bx (w = w2) ∧ Sat w0 ((g',slc 1 by8 B c' 5)::(b,cells ((stOf N).map u32v ++ [Value.slice q r c,Value.int .u64 ((n : Int) + (A.length : Int))]).toArray 175)::K) w | _ => AnyW w ∧ Sat w0 ((b,cells ((stOf N).map u32v ++ [Value.slice (some ⟨g',0,none⟩) (r + (A.length - j)) c',Value.int .u64 ((n : Int) + (A.length : Int))]).toArray 175)::(g',slc 1 by8 B c' 5)::K) w) ⟨⟨rfl⟩,hS.drew⟩ (by kernel_rfl) (by kernel_rfl) (by kernel_rfl) rfl ?_;clear hS;(repeat (first | (apply seq_writeN rfl rfl;(focus (rintro w ⟨hE,hS⟩;go_wp2_with (refine storeRest (v := .slice (some ⟨g',0,none⟩) (r + (A.length - j)) c') hS rfl rfl rfl rfl rfl (H8.out _) ?_;clear hS;intro w hS;simp only [putW]);refine ⟨rfl,rfl,?_⟩;first | exact ⟨⟨rfl⟩,HS2.out⟩ | exact ⟨⟨trivial⟩,hS.conv⟩));simp only [putW]) | (apply seq_write rfl;(focus (rintro w ⟨hE,hS⟩;go_wp2_with (obtain ⟨hE⟩ := hE;subst hE;refine appendR rfl rfl rfl rfl HRun.out ?_;simp only [putW]);refine ⟨rfl,rfl,?_⟩;first | exact ⟨⟨rfl⟩,HS2.out⟩ | exact ⟨⟨trivial⟩,hS.conv⟩));simp only [putW]) | (apply seq_read1 rfl rfl;(focus (rintro w ⟨hE,hS⟩;go_wp2_with (refine loadRest hS rfl rfl rfl (H8.out _) ?_;simp only [putW]);exact ⟨rfl,rfl,hE,hS⟩));simp only [putW]) | (apply seq_read2 rfl rfl;(focus (rintro w ⟨hE,hS⟩;go_wp2_with (refine loadRest hS rfl rfl rfl (H8.out _) ?_;simp only [putW]);exact ⟨rfl,rfl,hE,hS⟩));(focus (rintro w ⟨hE,hS⟩;go_wp2_with (refine loadRest hS rfl rfl rfl (H8.out _) ?_;simp only [putW]);exact ⟨rfl,rfl,hE,hS⟩));simp only [putW])));refine seq_nil ?_;rintro w ⟨hE,hS⟩;clear hE)
          go_wp2_with (first | (refine sliceTail (zv := .int .u8 0) (z := #[.int .u8 0]) (b := pb) (off := po + j) (i := A.length - j) rfl rfl rfl (by first | rfl | exact congrArg (Value.int IntKind.i64) (by omega)) (fun _ => rfl) ?_ ?_ ?_;omega;omega;intro ad' had';have HAd : Bx _ := ⟨had'⟩;clear had';simp only [putW]) | (refine loadRest hS rfl rfl rfl (H8.out _) ?_;simp only [putW]))
          go_roundw
          case rel =>
            refine ⟨j + (A.length - j),.slice (some ⟨g',0,none⟩) (r + (A.length - j)) c',ad',by omega,by rw [show A.length - (j + (A.length - j)) = A.length - j - (A.length - j) by omega,show cp - (j + (A.length - j)) = cp - j - (A.length - j) by omega],⟨fun h => by omega⟩,?_⟩
            rw [hNC.out,hst.out,hlf.out]
            have h5 := (hS.perm (List.Perm.swap _ _ _)).slOfSlc
            rw [hBl.out] at h5
            exact h5.perm (List.Perm.swap _ _ _)
          case measure => simp [sLen];omega
      · have hjA : j = A.length := by omega
        subst hjA
        rw [List.take_length] at hS
        go_wp2_with (refine load1 hS rfl rfl rfl rfl ?_;simp only [putW])
        go_end0
        exact ⟨rfl,closeSum (by rw [Int.natCast_add];exact hS)⟩
end
end Go.Proofs.YtdkimdobcacpfaaDoor
