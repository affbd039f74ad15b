/-
  dev: Arm.
  dev: On.
-/
import Derived.Test.YtdkimdobcacpfaaDoorDvPl
import Derived.Test.YtdkimdobcacpfaaDoorDvA
import Derived.Test.YtdkimdobcacpfaaDoorSlS
set_option linter.unusedSimpArgs false
set_option linter.unusedVariables false
namespace Go.Proofs.YtdkimdobcacpfaaDoor
open Go.RowKit Go.Proofs.YtdkimdobcacpfaaDoor.Sl Go.Proofs.YtdkimdobcacpfaaDoor.Sha Go.Proofs.YtdkimdobcacpfaaDoor.Jp Go.Proofs.YtdkimdobcacpfaaDoor.Tr Go.Proofs.YtdkimdobcacpfaaDoor.Dv

section
variable {w0 w : World} {K F S : List Chunk} {d : Nat} {D : Dev} {cv : Value}
set_option maxRecDepth 100000 in
set_option maxHeartbeats 4000000 in
theorem devArm_any {n : Int} (hn : n ≤ 9223372036854775807) (hS : Sat w0 ((d,DevG cv D)::K) w) : Calls Tryd.prog 19 #[.pointer (some ⟨d,0,none⟩),.int .i64 n] w fun e w' => e = .returned (.tuple #[]) ∧ Sat w0 ((d,DevG cv (D.arm n))::K) w' := by
  have hO := (devOk hS).arm n
  obtain ⟨X,vS,vW,vR,hX,hS2⟩ := openDev hS
  clear hS
  have hS := hS2
  clear hS2
  obtain ⟨st,wt,off,armed,count,wr⟩ := D
  have HX : Bx _ := ⟨hX⟩
  have HO : Bx _ := ⟨hO⟩
  have e1 : max n 0 = ((n.toNat : Nat) : Int) := by omega
  clear hX hO
  cases off with
  | true =>
    go_enter Tryd.func19,Tryd.ntmps19
    go_wp2_with (refine load1 hS rfl rfl rfl rfl ?_;simp only [putW])
    go_end0
    exact ⟨rfl,closeDev HX.out hS⟩
  | false =>
    go_enter Tryd.func19,Tryd.ntmps19
    go_wp2_with (first | (refine load1 hS rfl rfl rfl rfl ?_;simp only [putW]) | (refine store1 hS rfl rfl rfl rfl rfl ?_ ?_;(focus (simp;done));clear hS;intro w hS;simp only [evW,putW] at hS;try simp only [putW]))
    all_goals
      go_end0
      first
        | (have e2 : (if n < 0 then (0 : Int) else n) = ((n.toNat : Nat) : Int) := by split <;> omega
           rw [e2] at hS
           exact ⟨rfl,closeDv (X := X) (vS := vS) (vW := vW) (vR := vR) ⟨HX.out.1,HO.out⟩ hS⟩)
        | (have e2 : (if n ≤ 0 then (0 : Int) else n) = ((n.toNat : Nat) : Int) := by split <;> omega
           rw [e2] at hS
           exact ⟨rfl,closeDv (X := X) (vS := vS) (vW := vW) (vR := vR) ⟨HX.out.1,HO.out⟩ hS⟩)
end
end Go.Proofs.YtdkimdobcacpfaaDoor
namespace Go.Proofs.YtdkimdobcacpfaaDoor
open Go.RowKit Go.Proofs.YtdkimdobcacpfaaDoor.Sl Go.Proofs.YtdkimdobcacpfaaDoor.Sha Go.Proofs.YtdkimdobcacpfaaDoor.Jp Go.Proofs.YtdkimdobcacpfaaDoor.Tr Go.Proofs.YtdkimdobcacpfaaDoor.Dv

section
variable {w0 w : World} {K F S : List Chunk} {d : Nat} {D : Dev} {cv vf : Value} {Fa : List Int}
set_option maxRecDepth 100000 in
set_option maxHeartbeats 4000000 in
theorem devOn_on (ho : D.off = false) (hS : Sat w0 ((d,DevG cv D)::K) w) : Calls Tryd.prog 22 #[.pointer (some ⟨d,0,none⟩),vf] w fun e w' => e = .returned (.tuple #[]) ∧ Sat w0 ((d,DevG cv D)::K) w' := by
  obtain ⟨X,vS,vW,vR,hX,hS2⟩ := openDev hS
  clear hS
  have HX : Bx _ := ⟨hX⟩
  have HO : Bx _ := ⟨ho⟩
  rw [devA,ho] at hS2
  clear ho hX
  have hS := hS2
  clear hS2
  go_enter Tryd.func22,Tryd.ntmps22
  go_wp2_with (refine load1 hS rfl rfl rfl rfl ?_;simp only [putW])
  refine bodyPost_ret (results_none rfl _ _ _) rfl ?_
  exact ⟨rfl,closeDev HX.out (by rw [devA,HO.out];exact hS)⟩
theorem yArrHi {P : Program} {ops : Array Oper} {o : Oper} {a : Act} {I : World → Prop} {t e : TypeId} {x hi : Operand} {m i n : Nat} {ad : Addr} {q : IntKind} {li : Int} {agg : Bool} {zv : Value} {z : Array Value} (hw : Region.wanted o (yielded ops a.tmps) = true) (ho : o.op = .slice t x none (some hi) none) (hu : P.underlying t = some (.array m e)) [ty : Ty P e agg n zv z] (hx : a.eval x = .pointer (some ad)) (hhi : a.eval hi = .int q li) (hli : li = (i : Int)) (hi : i ≤ m) : YieldsIf P ops I o (.slice (some ad) i m) a := by
  subst hli
  refine yRun hw fun w => ?_
  have h2 : (i : Int) ≤ m := by omega
  simp [execOp,ho,hx,hhi,Instr.sliceAt,run_underlying hu,Instr.sureAddr,Instr.slice,Instr.sliceBounds,Instr.sliceBound,asIntOf,ty.size,hi,add_zero]
theorem fate_ne {L : List Int} {k n : Nat} {f : Int} (hn : L.length = n) (h0 : 0 < n) (hf : L[k % n]? = some f) : fateOf L k = (f % 257).toNat := by
  subst hn
  unfold fateOf
  rw [if_neg (by omega),List.getD_eq_getElem?_getD,hf]
  rfl
set_option maxRecDepth 100000 in
set_option maxHeartbeats 8000000 in
theorem devOn_off (ho : D.off = true) (hz : D.wt.length ≤ 1000000) (hl : Fa.length ≤ 1000000) (hF : ∀ w',Sat w0 K w' → RI w' Fa vf) (hS : Sat w0 ((d,DevG cv D)::K) w) : Calls Tryd.prog 22 #[.pointer (some ⟨d,0,none⟩),vf] w fun e w' => e = .returned (.tuple #[]) ∧ Sat w0 ((d,DevG cv (D.on Fa))::K) w' := by
  have hOk := (devOk hS).on Fa
  obtain ⟨X,vS,vW,vR,hX,hS2⟩ := openDev hS
  obtain ⟨fa,fc,hv,hfl,hfat⟩ := BSl.at (hF w hS.tail)
  subst hv
  clear hS
  obtain ⟨n,hn⟩ : ∃ n,D.wt.length = n := ⟨_,rfl⟩
  obtain ⟨m,hm⟩ : ∃ m,D.st.length = m := ⟨_,rfl⟩
  obtain ⟨fn,hfn⟩ : ∃ fn,Fa.length = fn := ⟨_,rfl⟩
  obtain ⟨q,c,hv⟩ := shapeN (hS2.pull (blk vW) (X := sl 257 wtF D.wt 111 vW)) hn
  subst hv
  obtain ⟨q2,c2,hv⟩ := shapeN (hS2.pull (blk vS) (X := sl 256 rowA D.st 109 vS)) hm
  subst hv
  have h1m : 1 ≤ m := by rw [← hm];exact hX.2.n1
  have hn6 : n ≤ 1000000 := by omega
  have HX : Bx _ := ⟨hX⟩
  have HOk : Bx _ := ⟨hOk⟩
  have HO : Bx _ := ⟨ho⟩
  have HN : Bx _ := ⟨hn⟩
  have HM : Bx _ := ⟨hm⟩
  have HF : Bx _ := ⟨hF⟩
  rw [devA,ho] at hS2
  rw [hfn] at hl
  have hS := hS2
  clear hS2
  have hfat2 : 0 < fn → ∃ b off,fa = some ⟨b,off,none⟩ := fun h0 => by
    obtain ⟨b,off,h1,-⟩ := hfat (by intro e;rw [e] at hfn;simp at hfn;omega)
    exact ⟨b,off,h1⟩
  have HFn : Bx _ := ⟨hfn⟩
  rw [hfn] at HF ⊢
  clear ho hX hOk hn hm hF hfat hz hfl hfn
  go_enter Tryd.func22,Tryd.ntmps22
  go_wp2_with (refine load1 hS rfl rfl rfl rfl ?_;simp only [putW])
  go_loopg [21] n (fun g i wr => ∃ k : Nat,k + g = n ∧ i = .int .i64 k ∧ Sat w0 ((d,cells #[Value.slice q2 m c2,Value.slice q n c,.bool true,.int .i64 (D.armed : Nat),.int .i64 (D.count : Nat),cv,vR] 102)::(blk (Value.slice q2 m c2),sl 256 rowA (layP Fa D.st 0 (D.wt.take k)) 109 (Value.slice q2 m c2))::(blk (Value.slice q n c),sl 257 wtF D.wt 111 (Value.slice q n c))::(blk vR,sl 2 wrF X 137 vR)::(0,inn (wrRows X) 5)::K) wr)
  case atStart => exact ⟨0,by omega,rfl,hS⟩
  case round =>
    clear hS
    obtain ⟨k,hkg,rfl,hS⟩ := hrel
    cases gk with
    | zero =>
      have hkn : k = n := by omega
      subst hkn
      have HT : Bx (D.wt.take k = D.wt) := ⟨by rw [← HN.out,List.take_length]⟩
      rw [HT.out] at hS
      go_wp2_with (refine store1 hS rfl rfl rfl rfl rfl ?_ ?_;(focus (simp;done));clear hS;intro w hS;simp only [evW,putW] at hS;try simp only [putW])
      go_end0
      refine ⟨rfl,?_⟩
      have e : D.on Fa = ⟨layP Fa D.st 0 D.wt,[],false,0,D.count,D.wr⟩ := by unfold Dev.on;rw [if_pos HO.out]
      have hok := HOk.out
      rw [e] at hok ⊢
      refine closeDv (X := X) (st := layP Fa D.st 0 D.wt) (wt := []) (off := false) (armed := 0) (count := D.count) (wr := D.wr) (vS := .slice q2 m c2) (vW := .slice none 0 0) (vR := vR) ⟨HX.out.1,hok⟩ ?_
      have h8 : Sat w0 ((d,cells #[Value.slice q2 m c2,.slice none 0 0,.bool false,.int .i64 (0 : Nat),.int .i64 (D.count : Nat),cv,vR] 102)::(blk (Value.slice q2 m c2),sl 256 rowA (layP Fa D.st 0 D.wt) 109 (Value.slice q2 m c2))::(0,sl 257 wtF [] 111 (.slice none 0 0))::(blk vR,sl 2 wrF X 137 vR)::(0,inn (wrRows X) 5)::K) w := (hS.slNil 257 wtF 111).conv
      exact h8
    | succ g =>
      have hkn : k < n := by omega
      obtain ⟨⟨a,b⟩,hb⟩ : ∃ b,D.wt[k]? = some b := ⟨_,List.getElem?_eq_getElem (by rw [HN.out];omega)⟩
      have hrow := HX.out.2.wt (a,b) (List.mem_of_getElem? hb)
      have hll : (layP Fa D.st 0 (D.wt.take k)).length = m := by rw [layP_length];exact HM.out
      have HLL : Bx _ := ⟨hll⟩
      have ham : a < m := by rw [← HM.out];exact hrow.1
      have HB : Bx _ := ⟨hb⟩
      have HR : Bx (isRow b) := ⟨hrow.2⟩
      have HV : Bx (((wtF (a,b)).drop 0).take 257 = wtF (a,b)) := ⟨by rw [List.drop_zero,List.take_of_length_le (by rw [wtF_len hrow.2];exact Nat.le_refl _)]⟩
      have HC : Bx ((wtF (a,b)).toArray.size = 257) := ⟨by simp [wtF_len hrow.2]⟩
      have HC0 : Bx ((wtF (0,z256)).toArray.size = 257) := ⟨by simp [wtF_len (x := (0,z256)) isRow_z]⟩
      have HC1 : Bx (∀ u ∈ (wtF (a,b)).toArray.toList,u.oneCell' = true) := ⟨by
        intro u hu
        rcases List.mem_cons.1 hu with h | h
        · rw [h];rfl
        · obtain ⟨y,_,rfl⟩ := List.mem_map.1 h
          rfl⟩
      have HCa : Bx (CellIs (wtF (a,b)).toArray 0 (.int .i64 a)) := ⟨⟨by simp [wtF]⟩⟩
      obtain ⟨old,hold⟩ : ∃ old,(layP Fa D.st 0 (D.wt.take k))[a]? = some old := ⟨_,List.getElem?_eq_getElem (by rw [hll];exact ham)⟩
      have HOld : Bx _ := ⟨hold⟩
      clear hb hrow hll hold
      obtain ⟨gw,hqq,hcq,hS2⟩ := openS (hS.pull (blk (Value.slice q n c)) (X := sl 257 wtF D.wt 111 (Value.slice q n c))) HN.out (by omega)
      subst hqq
      clear hS
      obtain ⟨gs,hqq,hcs,hS⟩ := openS (hS2.pull (blk (Value.slice q2 m c2)) (X := sl 256 rowA (layP Fa D.st 0 (D.wt.take k)) 109 (Value.slice q2 m c2))) HLL.out (by omega)
      subst hqq
      clear hS2
      have hfin : ∀ {mw f : Nat} {w4 : World},Bx (fateOf Fa k = f) → Sat w0 ((gs,slc 256 (fun r => r.map u8v) ((layP Fa D.st 0 (D.wt.take k)).set a (b.take f ++ old.drop f)) c2 109)::(mw,cells (wtF (a,b)).toArray 111)::(gw,slc 257 wtF D.wt c 111)::(d,cells #[Value.slice (some ⟨gs,0,none⟩) m c2,Value.slice (some ⟨gw,0,none⟩) n c,.bool true,.int .i64 (D.armed : Nat),.int .i64 (D.count : Nat),cv,vR] 102)::(blk vR,sl 2 wrF X 137 vR)::(0,inn (wrRows X) 5)::K) w4 →
          Sat w0 ((d,cells #[Value.slice (some ⟨gs,0,none⟩) m c2,Value.slice (some ⟨gw,0,none⟩) n c,.bool true,.int .i64 (D.armed : Nat),.int .i64 (D.count : Nat),cv,vR] 102)::(blk (Value.slice (some ⟨gs,0,none⟩) m c2),sl 256 rowA (layP Fa D.st 0 (D.wt.take (k + 1))) 109 (Value.slice (some ⟨gs,0,none⟩) m c2))::(blk (Value.slice (some ⟨gw,0,none⟩) n c),sl 257 wtF D.wt 111 (Value.slice (some ⟨gw,0,none⟩) n c))::(blk vR,sl 2 wrF X 137 vR)::(0,inn (wrRows X) 5)::K) w4 := fun {mw f w4} hf h => by
        have e2 : layP Fa D.st 0 (D.wt.take (k + 1)) = (layP Fa D.st 0 (D.wt.take k)).set a (b.take f ++ old.drop f) := by
          rw [layP_take Fa D.wt D.st 0 k a b HB.out,List.getD_eq_getElem?_getD,HOld.out,Nat.zero_add,hf.out]
          rfl
        rw [e2]
        have h1 := closeSlN (m := m) (f := rowA) h (by rw [List.length_set];exact HLL.out)
        have h2 := closeSlN (m := n) (h1.pull gw (X := slc 257 wtF D.wt c 111)) HN.out
        exact h2.conv
      go_upto_region 4 with (first | (refine loadSN (f := wtF) (vs := wtF (a,b)) hS rfl rfl rfl k 0 ?_ HB.out ?_ HV.out ?_;omega;omega;simp only [putW]) | (refine allocS (t := 111) hS rfl rfl (wtF (0,z256)).toArray (by kernel_rfl) ?_;clear hS;intro mw w hS;simp only [putW]) | (refine storeAll (cs := (wtF (a,b)).toArray) hS rfl rfl rfl rfl HC.out HC1.out HC0.out ?_;clear hS;intro w hS;try simp only [putW]))
      have HBk : Bx (∀ x ∈ b,okByte x) := ⟨HR.out.2⟩
      by_cases hf0 : fn = 0
      · subst hf0
        have hft : Bx (fateOf Fa k = 0) := ⟨by unfold fateOf;rw [if_pos HFn.out]⟩
        have hbl : b.length = 256 := HR.out.1
        have HT2 : Bx ((b.take 0).take 0 = b.take 0) := ⟨by rw [List.take_take,Nat.min_self]⟩
        have HTl : Bx (0 ≤ b.length ∧ 0 ≤ 256 ∧ 256 ≤ maxLen) := ⟨by omega,by omega,by simp [maxLen]⟩
        have HMn : Bx (0 = min (b.take 0).length 0) := ⟨by rw [List.length_take];omega⟩
        clear hbl
        replace hS := hS.conv (S' := (gs,slc 256 rowA (layP Fa D.st 0 (D.wt.take k)) c2 109)::(mw,cells (wtF (a,b)).toArray 111)::(gw,slc 257 wtF D.wt c 111)::(d,cells #[Value.slice (some ⟨gs,0,none⟩) m c2,Value.slice (some ⟨gw,0,none⟩) n c,.bool true,.int .i64 (D.armed : Nat),.int .i64 (D.count : Nat),cv,vR] 102)::(blk vR,sl 2 wrF X 137 vR)::(0,inn (wrRows X) 5)::K)
        replace hS : Sat w0 ((gs,slc 256 (fun r => r.map u8v) (layP Fa D.st 0 (D.wt.take k)) c2 109)::(mw,cells (wtF (a,b)).toArray 111)::(gw,slc 257 wtF D.wt c 111)::(d,cells #[Value.slice (some ⟨gs,0,none⟩) m c2,Value.slice (some ⟨gw,0,none⟩) n c,.bool true,.int .i64 (D.armed : Nat),.int .i64 (D.count : Nat),cv,vR] 102)::(blk vR,sl 2 wrF X 137 vR)::(0,inn (wrRows X) 5)::K) w := hS
        go_upto_region 9 with (refine load1 hS rfl rfl rfl rfl ?_;simp only [putW])
        (refine wp_region_held (S := fun w' => Sat w0 ((mw,cells (wtF (a,b)).toArray 111)::(gw,slc 257 wtF D.wt c 111)::(d,cells #[Value.slice (some ⟨gs,0,none⟩) m c2,Value.slice (some ⟨gw,0,none⟩) n c,.bool true,.int .i64 (D.armed : Nat),.int .i64 (D.count : Nat),cv,vR] 102)::(blk vR,sl 2 wrF X 137 vR)::(0,inn (wrRows X) 5)::K) w') (by kernel_rfl) ?_;replace hS := hS.drew;(refine takeIf (i := 0) rfl (by kernel_rfl) (fun _ _ _ h => h) (yMove rfl rfl rfl) hS.conv ?_;simp only [evW,putW]);(apply takeIf (i := 1) rfl (by kernel_rfl) (fun _ _ _ h => h);(focus (apply yRun rfl;intro w;first | (go_simp;done) | (go_simp;rfl)));(focus (exact hS.conv));simp only [putW]);(apply takeIf (i := 2) rfl (by kernel_rfl) (fun _ _ _ h => h);(focus (apply yRun rfl;intro w;first | (go_simp;done) | (go_simp;rfl)));(focus (exact hS.conv));simp only [putW]);(refine takeIf (i := 3) rfl (by kernel_rfl) (fun _ _ _ h => h) (yLoad1 (fun _ h => h) rfl rfl rfl rfl) hS.conv ?_;simp only [putW]);(apply takeIf (i := 4) rfl (by kernel_rfl) (fun _ _ _ h => h);(focus (apply yRun rfl;intro w;first | (go_simp;done) | (go_simp;rfl)));(focus (exact hS.conv));simp only [putW]);(refine takeIf (i := 5) rfl (by kernel_rfl) (fun _ _ _ h => h) (yLoadC (b := mw) (fun _ h => h) rfl rfl rfl HCa.out) hS.conv ?_;simp only [putW]);(apply takeIf (i := 6) rfl (by kernel_rfl) (fun _ _ _ h => h);(focus (apply yRun rfl;intro w;first | (go_simp;done) | (go_simp;rfl)));(focus (exact hS.conv));simp only [putW]);(refine takeIf (i := 7) rfl (by kernel_rfl) (fun _ _ _ h => h) (yMove rfl rfl rfl) hS.conv ?_;simp only [evW,putW]);(refine takeIf (i := 8) rfl (by kernel_rfl) (fun _ _ _ h => h) (yArrHi (m := 256) (i := 0) rfl rfl Tryd.underlying109 rfl rfl rfl HTl.out.2.1) hS.conv ?_;simp only [putW]);(apply takeIf (i := 9) rfl (by kernel_rfl) (fun _ _ _ h => h);(focus (apply yRun rfl;intro w;first | (go_simp;done) | (go_simp;rfl)));(focus (exact hS.conv));simp only [putW]);(refine takeIf (i := 10) rfl (by kernel_rfl) (fun _ _ _ h => h) (yMove rfl rfl rfl) hS.conv ?_;simp only [evW,putW]);(refine takeIf (i := 11) rfl (by kernel_rfl) (fun _ _ _ h => h) (yArrHi (m := 256) (i := 0) rfl rfl Tryd.underlying109 rfl rfl rfl HTl.out.2.1) hS.conv ?_;simp only [putW]);refine wpAnyH_all (rs := [12]) (by kernel_rfl) (by simp) ?_;intro i hi;simp only [List.mem_cons,List.not_mem_nil,or_false] at hi;subst hi;refine wpOp_of_list rfl ?_;go_wp2_with (refine copyE (g := gs) (n := 256) (vv := u8v) hS rfl rfl a rfl rfl (b.take 0) (Sat.readsTail (b := mw) (A := b) hS 0 256 HTl.out.1 HTl.out.2.1 HTl.out.2.2 HBk.out) (fun _ _ => rfl) 0 HMn.out HTl.out.2.1 HOld.out ?_;clear hS;intro w hS;rw [HT2.out] at hS;simp only [putW]);refine ⟨rfl,hS.conv,?_⟩;refine wpAnyH_done (by kernel_rfl) ?_ _;go_wp2_with (refine load1 hS rfl rfl rfl rfl ?_;simp only [putW]);go_roundg g;(case measure => omega);(case rel => exact ⟨k + 1,by omega,by go_num,hfin hft hS⟩))
      · obtain ⟨fb,fo,rfl⟩ := hfat2 (by omega)
        obtain ⟨j,hj⟩ : ∃ j,k % fn = j := ⟨_,rfl⟩
        have hjl : j < fn := by rw [← hj];exact Nat.mod_lt _ (by omega)
        obtain ⟨f,hf⟩ : ∃ f,Fa[j]? = some f := ⟨_,List.getElem?_eq_getElem (by rw [HFn.out];exact hjl)⟩
        have hft0 : Bx (fateOf Fa k = (f % 257).toNat) := ⟨fate_ne HFn.out (by omega) (by rw [hj];exact hf)⟩
        have e1 : (k : Int).tmod (fn : Int) = (j : Int) := by rw [← hj];rfl
        have e1b : (k : Int) % (fn : Int) = (j : Int) := by rw [← hj];rfl
        have HFj : Bx _ := ⟨hf⟩
        obtain ⟨r,hr⟩ : ∃ r,f.tmod 257 = r := ⟨_,rfl⟩
        have d0 : decide ((0 : Int) < (fn : Int)) = true := decide_eq_true (by omega)
        have d0b : decide (0 < fn) = true := decide_eq_true (by omega)
        have hte := Int.tmod_eq_emod (a := f) (b := 257)
        rw [hr] at hte
        have hrb : -257 < r ∧ r < 257 := by split at hte <;> omega
        have HRv : Bx ((r < 0 → f % 257 = r + 257) ∧ (¬ r < 0 → f % 257 = r)) := ⟨by split at hte <;> omega⟩
        clear hj hf hte
        obtain ⟨hr1,hr2⟩ := hrb
        have HRd : ∀ {w1 : World},Sat w0 ((gs,slc 256 (fun r => r.map u8v) (layP Fa D.st 0 (D.wt.take k)) c2 109)::(mw,cells (wtF (a,b)).toArray 111)::(gw,slc 257 wtF D.wt c 111)::(d,cells #[Value.slice (some ⟨gs,0,none⟩) m c2,Value.slice (some ⟨gw,0,none⟩) n c,.bool true,.int .i64 (D.armed : Nat),.int .i64 (D.count : Nat),cv,vR] 102)::(blk vR,sl 2 wrF X 137 vR)::(0,inn (wrRows X) 5)::K) w1 → BAt w1 1 i64 (fun _ => True) Fa fb fo := fun {w1} h => by
          obtain ⟨fa',fc',hv',-,h3⟩ := BSl.at (HF.out w1 h.conv)
          obtain ⟨b',o',h4,h5⟩ := h3 (by intro e;have h6 := HFn.out;rw [e] at h6;simp at h6;omega)
          injection hv' with e1 e2 e3
          rw [← e1] at h4
          injection h4 with h4
          injection h4 with e5 e6 e7
          subst e5;subst e6
          exact h5
        by_cases hneg : r < 0
        · have d1 : decide (r < 0) = true := decide_eq_true hneg
          obtain ⟨ff,hff⟩ : ∃ ff : Nat,r + 257 = ff := ⟨(r + 257).toNat,by omega⟩
          have hf2 : ff ≤ 256 := by omega
          have hft : Bx (fateOf Fa k = ff) := ⟨by have := HRv.out.1 hneg;rw [hft0.out,this,hff];rfl⟩
          have hbl : b.length = 256 := HR.out.1
          have HT2 : Bx ((b.take ff).take ff = b.take ff) := ⟨by rw [List.take_take,Nat.min_self]⟩
          have HTl : Bx (ff ≤ b.length ∧ ff ≤ 256 ∧ 256 ≤ maxLen) := ⟨by omega,by omega,by simp [maxLen]⟩
          have HMn : Bx (ff = min (b.take ff).length ff) := ⟨by rw [List.length_take];omega⟩
          clear hbl
          replace hS := hS.conv (S' := (gs,slc 256 rowA (layP Fa D.st 0 (D.wt.take k)) c2 109)::(mw,cells (wtF (a,b)).toArray 111)::(gw,slc 257 wtF D.wt c 111)::(d,cells #[Value.slice (some ⟨gs,0,none⟩) m c2,Value.slice (some ⟨gw,0,none⟩) n c,.bool true,.int .i64 (D.armed : Nat),.int .i64 (D.count : Nat),cv,vR] 102)::(blk vR,sl 2 wrF X 137 vR)::(0,inn (wrRows X) 5)::K)
          replace hS : Sat w0 ((gs,slc 256 (fun r => r.map u8v) (layP Fa D.st 0 (D.wt.take k)) c2 109)::(mw,cells (wtF (a,b)).toArray 111)::(gw,slc 257 wtF D.wt c 111)::(d,cells #[Value.slice (some ⟨gs,0,none⟩) m c2,Value.slice (some ⟨gw,0,none⟩) n c,.bool true,.int .i64 (D.armed : Nat),.int .i64 (D.count : Nat),cv,vR] 102)::(blk vR,sl 2 wrF X 137 vR)::(0,inn (wrRows X) 5)::K) w := hS
          go_upto_region 9 with (refine loadB (f := i64) (Sat.refl _) rfl rfl rfl (HRd hS) j 0 ?_ HFj.out rfl ?_;omega;simp only [putW])
          (refine wp_region_held (S := fun w' => Sat w0 ((mw,cells (wtF (a,b)).toArray 111)::(gw,slc 257 wtF D.wt c 111)::(d,cells #[Value.slice (some ⟨gs,0,none⟩) m c2,Value.slice (some ⟨gw,0,none⟩) n c,.bool true,.int .i64 (D.armed : Nat),.int .i64 (D.count : Nat),cv,vR] 102)::(blk vR,sl 2 wrF X 137 vR)::(0,inn (wrRows X) 5)::K) w') (by kernel_rfl) ?_;replace hS := hS.drew;(refine takeIf (i := 0) rfl (by kernel_rfl) (fun _ _ _ h => h) (yMove rfl rfl rfl) hS.conv ?_;simp only [evW,putW]);(apply takeIf (i := 1) rfl (by kernel_rfl) (fun _ _ _ h => h);(focus (apply yRun rfl;intro w;first | (go_simp;done) | (go_simp;rfl)));(focus (exact hS.conv));simp only [putW]);(apply takeIf (i := 2) rfl (by kernel_rfl) (fun _ _ _ h => h);(focus (apply yRun rfl;intro w;first | (go_simp;done) | (go_simp;rfl)));(focus (exact hS.conv));simp only [putW]);(refine takeIf (i := 3) rfl (by kernel_rfl) (fun _ _ _ h => h) (yLoad1 (fun _ h => h) rfl rfl rfl rfl) hS.conv ?_;simp only [putW]);(apply takeIf (i := 4) rfl (by kernel_rfl) (fun _ _ _ h => h);(focus (apply yRun rfl;intro w;first | (go_simp;done) | (go_simp;rfl)));(focus (exact hS.conv));simp only [putW]);(refine takeIf (i := 5) rfl (by kernel_rfl) (fun _ _ _ h => h) (yLoadC (b := mw) (fun _ h => h) rfl rfl rfl HCa.out) hS.conv ?_;simp only [putW]);(apply takeIf (i := 6) rfl (by kernel_rfl) (fun _ _ _ h => h);(focus (apply yRun rfl;intro w;first | (go_simp;done) | (go_simp;rfl)));(focus (exact hS.conv));simp only [putW]);(refine takeIf (i := 7) rfl (by kernel_rfl) (fun _ _ _ h => h) (yMove rfl rfl rfl) hS.conv ?_;simp only [evW,putW]);(refine takeIf (i := 8) rfl (by kernel_rfl) (fun _ _ _ h => h) (yArrHi (m := 256) (i := ff) rfl rfl Tryd.underlying109 rfl rfl rfl HTl.out.2.1) hS.conv ?_;simp only [putW]);(apply takeIf (i := 9) rfl (by kernel_rfl) (fun _ _ _ h => h);(focus (apply yRun rfl;intro w;first | (go_simp;done) | (go_simp;rfl)));(focus (exact hS.conv));simp only [putW]);(refine takeIf (i := 10) rfl (by kernel_rfl) (fun _ _ _ h => h) (yMove rfl rfl rfl) hS.conv ?_;simp only [evW,putW]);(refine takeIf (i := 11) rfl (by kernel_rfl) (fun _ _ _ h => h) (yArrHi (m := 256) (i := ff) rfl rfl Tryd.underlying109 rfl rfl rfl HTl.out.2.1) hS.conv ?_;simp only [putW]);refine wpAnyH_all (rs := [12]) (by kernel_rfl) (by simp) ?_;intro i hi;simp only [List.mem_cons,List.not_mem_nil,or_false] at hi;subst hi;refine wpOp_of_list rfl ?_;go_wp2_with (refine copyE (g := gs) (n := 256) (vv := u8v) hS rfl rfl a rfl rfl (b.take ff) (Sat.readsTail (b := mw) (A := b) hS ff 256 HTl.out.1 HTl.out.2.1 HTl.out.2.2 HBk.out) (fun _ _ => rfl) ff HMn.out HTl.out.2.1 HOld.out ?_;clear hS;intro w hS;rw [HT2.out] at hS;simp only [putW]);refine ⟨rfl,hS.conv,?_⟩;refine wpAnyH_done (by kernel_rfl) ?_ _;go_wp2_with (refine load1 hS rfl rfl rfl rfl ?_;simp only [putW]);go_roundg g;(case measure => omega);(case rel => exact ⟨k + 1,by omega,by go_num,hfin hft hS⟩))
        · have d1 : decide (r < 0) = false := decide_eq_false hneg
          obtain ⟨ff,hff⟩ : ∃ ff : Nat,r = ff := ⟨r.toNat,by omega⟩
          have hf2 : ff ≤ 256 := by omega
          have hft : Bx (fateOf Fa k = ff) := ⟨by have := HRv.out.2 hneg;rw [hft0.out,this,hff];rfl⟩
          have hbl : b.length = 256 := HR.out.1
          have HT2 : Bx ((b.take ff).take ff = b.take ff) := ⟨by rw [List.take_take,Nat.min_self]⟩
          have HTl : Bx (ff ≤ b.length ∧ ff ≤ 256 ∧ 256 ≤ maxLen) := ⟨by omega,by omega,by simp [maxLen]⟩
          have HMn : Bx (ff = min (b.take ff).length ff) := ⟨by rw [List.length_take];omega⟩
          clear hbl
          replace hS := hS.conv (S' := (gs,slc 256 rowA (layP Fa D.st 0 (D.wt.take k)) c2 109)::(mw,cells (wtF (a,b)).toArray 111)::(gw,slc 257 wtF D.wt c 111)::(d,cells #[Value.slice (some ⟨gs,0,none⟩) m c2,Value.slice (some ⟨gw,0,none⟩) n c,.bool true,.int .i64 (D.armed : Nat),.int .i64 (D.count : Nat),cv,vR] 102)::(blk vR,sl 2 wrF X 137 vR)::(0,inn (wrRows X) 5)::K)
          replace hS : Sat w0 ((gs,slc 256 (fun r => r.map u8v) (layP Fa D.st 0 (D.wt.take k)) c2 109)::(mw,cells (wtF (a,b)).toArray 111)::(gw,slc 257 wtF D.wt c 111)::(d,cells #[Value.slice (some ⟨gs,0,none⟩) m c2,Value.slice (some ⟨gw,0,none⟩) n c,.bool true,.int .i64 (D.armed : Nat),.int .i64 (D.count : Nat),cv,vR] 102)::(blk vR,sl 2 wrF X 137 vR)::(0,inn (wrRows X) 5)::K) w := hS
          go_upto_region 9 with (refine loadB (f := i64) (Sat.refl _) rfl rfl rfl (HRd hS) j 0 ?_ HFj.out rfl ?_;omega;simp only [putW])
          (refine wp_region_held (S := fun w' => Sat w0 ((mw,cells (wtF (a,b)).toArray 111)::(gw,slc 257 wtF D.wt c 111)::(d,cells #[Value.slice (some ⟨gs,0,none⟩) m c2,Value.slice (some ⟨gw,0,none⟩) n c,.bool true,.int .i64 (D.armed : Nat),.int .i64 (D.count : Nat),cv,vR] 102)::(blk vR,sl 2 wrF X 137 vR)::(0,inn (wrRows X) 5)::K) w') (by kernel_rfl) ?_;replace hS := hS.drew;(refine takeIf (i := 0) rfl (by kernel_rfl) (fun _ _ _ h => h) (yMove rfl rfl rfl) hS.conv ?_;simp only [evW,putW]);(apply takeIf (i := 1) rfl (by kernel_rfl) (fun _ _ _ h => h);(focus (apply yRun rfl;intro w;first | (go_simp;done) | (go_simp;rfl)));(focus (exact hS.conv));simp only [putW]);(apply takeIf (i := 2) rfl (by kernel_rfl) (fun _ _ _ h => h);(focus (apply yRun rfl;intro w;first | (go_simp;done) | (go_simp;rfl)));(focus (exact hS.conv));simp only [putW]);(refine takeIf (i := 3) rfl (by kernel_rfl) (fun _ _ _ h => h) (yLoad1 (fun _ h => h) rfl rfl rfl rfl) hS.conv ?_;simp only [putW]);(apply takeIf (i := 4) rfl (by kernel_rfl) (fun _ _ _ h => h);(focus (apply yRun rfl;intro w;first | (go_simp;done) | (go_simp;rfl)));(focus (exact hS.conv));simp only [putW]);(refine takeIf (i := 5) rfl (by kernel_rfl) (fun _ _ _ h => h) (yLoadC (b := mw) (fun _ h => h) rfl rfl rfl HCa.out) hS.conv ?_;simp only [putW]);(apply takeIf (i := 6) rfl (by kernel_rfl) (fun _ _ _ h => h);(focus (apply yRun rfl;intro w;first | (go_simp;done) | (go_simp;rfl)));(focus (exact hS.conv));simp only [putW]);(refine takeIf (i := 7) rfl (by kernel_rfl) (fun _ _ _ h => h) (yMove rfl rfl rfl) hS.conv ?_;simp only [evW,putW]);(refine takeIf (i := 8) rfl (by kernel_rfl) (fun _ _ _ h => h) (yArrHi (m := 256) (i := ff) rfl rfl Tryd.underlying109 rfl rfl rfl HTl.out.2.1) hS.conv ?_;simp only [putW]);(apply takeIf (i := 9) rfl (by kernel_rfl) (fun _ _ _ h => h);(focus (apply yRun rfl;intro w;first | (go_simp;done) | (go_simp;rfl)));(focus (exact hS.conv));simp only [putW]);(refine takeIf (i := 10) rfl (by kernel_rfl) (fun _ _ _ h => h) (yMove rfl rfl rfl) hS.conv ?_;simp only [evW,putW]);(refine takeIf (i := 11) rfl (by kernel_rfl) (fun _ _ _ h => h) (yArrHi (m := 256) (i := ff) rfl rfl Tryd.underlying109 rfl rfl rfl HTl.out.2.1) hS.conv ?_;simp only [putW]);refine wpAnyH_all (rs := [12]) (by kernel_rfl) (by simp) ?_;intro i hi;simp only [List.mem_cons,List.not_mem_nil,or_false] at hi;subst hi;refine wpOp_of_list rfl ?_;go_wp2_with (refine copyE (g := gs) (n := 256) (vv := u8v) hS rfl rfl a rfl rfl (b.take ff) (Sat.readsTail (b := mw) (A := b) hS ff 256 HTl.out.1 HTl.out.2.1 HTl.out.2.2 HBk.out) (fun _ _ => rfl) ff HMn.out HTl.out.2.1 HOld.out ?_;clear hS;intro w hS;rw [HT2.out] at hS;simp only [putW]);refine ⟨rfl,hS.conv,?_⟩;refine wpAnyH_done (by kernel_rfl) ?_ _;go_wp2_with (refine load1 hS rfl rfl rfl rfl ?_;simp only [putW]);go_roundg g;(case measure => omega);(case rel => exact ⟨k + 1,by omega,by go_num,hfin hft hS⟩))
theorem devOn_any (hz : D.wt.length ≤ 1000000) (hl : Fa.length ≤ 1000000) (hF : ∀ w',Sat w0 K w' → RI w' Fa vf) (hS : Sat w0 ((d,DevG cv D)::K) w) : Calls Tryd.prog 22 #[.pointer (some ⟨d,0,none⟩),vf] w fun e w' => e = .returned (.tuple #[]) ∧ Sat w0 ((d,DevG cv (D.on Fa))::K) w' := by
  cases ho : D.off with
  | true => exact devOn_off ho hz hl hF hS
  | false =>
    have h := devOn_on (vf := vf) ho hS
    have e : D.on Fa = D := by unfold Dev.on;rw [if_neg (by rw [ho];simp)]
    rw [e]
    exact h
end
end Go.Proofs.YtdkimdobcacpfaaDoor
