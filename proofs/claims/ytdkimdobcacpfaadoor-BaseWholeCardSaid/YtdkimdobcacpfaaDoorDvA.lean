/-
  dev: the device in memory; New, Up, Count, Blocks, ready, now, Read.
  dev: Read, spend, Spend, Crash, Write.
  dev: Spend, Write.
  dev: Flush.
  dev: Write and Flush, whatever they answer; many writes in a row.
-/
import Derived.Test.YtdkimdobcacpfaaDoorDvPl
import Derived.Test.YtdkimdobcacpfaaDoorSlS
import Derived.Test.YtdkimdobcacpfaaDoorTab
import Derived.Test.YtdkimdobcacpfaaDoorJRow
import Derived.Test.YtdkimdobcacpfaaDoorShA
set_option linter.unusedSimpArgs false
set_option linter.unusedVariables false
namespace Go.Proofs.YtdkimdobcacpfaaDoor
open Go.RowKit Go.Proofs.YtdkimdobcacpfaaDoor.Sl Go.Proofs.YtdkimdobcacpfaaDoor.Sha Go.Proofs.YtdkimdobcacpfaaDoor.Jp Go.Proofs.YtdkimdobcacpfaaDoor.Tr Go.Proofs.YtdkimdobcacpfaaDoor.Dv

def rowA (r : Row) : List Value := r.map u8v
def wtF (x : Nat × Row) : List Value := .int .i64 x.1::x.2.map u8v
/-- A write that was noted: its bytes' slice, its block, its bytes. -/
abbrev WrV := Value × Nat × Row
def wrF (x : WrV) : List Value := [.int .i64 x.2.1,x.1]
def wrRows (X : List WrV) : List (Value × List Int) := X.map fun x => (x.1,x.2.2)
abbrev devA (D : Dev) (cv vS vW vR : Value) : Array Value := #[vS,vW,.bool D.off,.int .i64 (D.armed : Nat),.int .i64 (D.count : Nat),cv,vR]
def devL (D : Dev) (X : List WrV) (cv vS vW vR : Value) (d : Nat) : List Chunk :=
  [(d,cells (devA D cv vS vW vR) 102),(blk vS,sl 256 rowA D.st 109 vS),(blk vW,sl 257 wtF D.wt 111 vW),(blk vR,sl 2 wrF X 137 vR),(0,inn (wrRows X) 5)]
/-- A device. -/
def DevG (cv : Value) (D : Dev) : K := fun d h => ∃ X vS vW vR,(X.map (·.2) = D.wr ∧ D.Ok) ∧ holds (devL D X cv vS vW vR d) h
abbrev DevC : Dev → K := DevG (.slice none 0 0)
theorem zeros256 : (List.replicate 256 (Value.int .u8 0)).toArray = ((z256).map u8v).toArray := by rw [z256,List.map_replicate]
theorem rowA_len {r : Row} (h : isRow r) : (rowA r).length = 256 := by simp [rowA,h.1]

section
variable {w0 w : World} {K F S : List Chunk} {d : Nat} {D : Dev} {cv : Value} {at' : Int}
theorem openDev (hS : Sat w0 ((d,DevG cv D)::F) w) : ∃ X vS vW vR,(X.map (·.2) = D.wr ∧ D.Ok) ∧ Sat w0 ((d,cells (devA D cv vS vW vR) 102)::(blk vS,sl 256 rowA D.st 109 vS)::(blk vW,sl 257 wtF D.wt 111 vW)::(blk vR,sl 2 wrF X 137 vR)::(0,inn (wrRows X) 5)::F) w := by
  obtain ⟨X,hS⟩ := hS.ex (Z := fun (X : List WrV) d h => ∃ vS vW vR,(X.map (·.2) = D.wr ∧ D.Ok) ∧ holds (devL D X cv vS vW vR d) h) fun _ h => h
  obtain ⟨vS,hS⟩ := hS.ex (Z := fun vS d h => ∃ vW vR,(X.map (·.2) = D.wr ∧ D.Ok) ∧ holds (devL D X cv vS vW vR d) h) fun _ h => h
  obtain ⟨vW,hS⟩ := hS.ex (Z := fun vW d h => ∃ vR,(X.map (·.2) = D.wr ∧ D.Ok) ∧ holds (devL D X cv vS vW vR d) h) fun _ h => h
  obtain ⟨vR,hS⟩ := hS.ex (Z := fun vR d h => (X.map (·.2) = D.wr ∧ D.Ok) ∧ holds (devL D X cv vS vW vR d) h) fun _ h => h
  obtain ⟨h1,hS⟩ := hS.and (Y := fun d h => holds (devL D X cv vS vW vR d) h) fun _ h => h
  exact ⟨X,vS,vW,vR,h1,hS.open (T := devL D X cv vS vW vR d) fun _ h => h⟩
theorem closeDev {X : List WrV} {vS vW vR : Value} (hX : X.map (·.2) = D.wr ∧ D.Ok) (hS : Sat w0 ((d,cells (devA D cv vS vW vR) 102)::(blk vS,sl 256 rowA D.st 109 vS)::(blk vW,sl 257 wtF D.wt 111 vW)::(blk vR,sl 2 wrF X 137 vR)::(0,inn (wrRows X) 5)::F) w) : Sat w0 ((d,DevG cv D)::F) w :=
  Sat.close (T := devL D X cv vS vW vR d) hS fun _ h => ⟨X,vS,vW,vR,hX,h⟩
theorem closeDv {st : List Row} {wt wr : List (Nat × Row)} {off : Bool} {armed count : Nat} {X : List WrV} {vS vW vR : Value} (hX : X.map (·.2) = wr ∧ (⟨st,wt,off,armed,count,wr⟩ : Dev).Ok) (hS : Sat w0 ((d,cells #[vS,vW,.bool off,.int .i64 (armed : Nat),.int .i64 (count : Nat),cv,vR] 102)::(blk vS,sl 256 rowA st 109 vS)::(blk vW,sl 257 wtF wt 111 vW)::(blk vR,sl 2 wrF X 137 vR)::(0,inn (wrRows X) 5)::F) w) : Sat w0 ((d,DevG cv ⟨st,wt,off,armed,count,wr⟩)::F) w :=
  Sat.close (T := devL ⟨st,wt,off,armed,count,wr⟩ X cv vS vW vR d) hS fun _ h => ⟨X,vS,vW,vR,hX,h⟩
theorem devOk (hS : Sat w0 ((d,DevG cv D)::F) w) : D.Ok := by
  obtain ⟨X,vS,vW,vR,h,-⟩ := openDev hS
  exact h.2
theorem closeSlN {α : Type} {g n m cap : Nat} {f : α → List Value} {l : List α} {t : TypeId} (h : Sat w0 ((g,slc n f l cap t)::F) w) (hl : l.length = m) : Sat w0 ((blk (.slice (some ⟨g,0,none⟩) m cap),sl n f l t (.slice (some ⟨g,0,none⟩) m cap))::F) w := by
  subst hl
  exact h.slOfSlc
set_option maxRecDepth 100000 in
set_option maxHeartbeats 4000000 in
theorem devNew_any {n : Nat} (h1 : 1 ≤ n) (h2 : n ≤ 65536) : Calls Tryd.prog 24 #[.int .i64 n] w0 fun e w' => ∃ d,e = .returned (.tuple #[.pointer (some ⟨d,0,none⟩),.int .i64 0]) ∧ Sat w0 [(d,DevC (fresh n))] w' := by
  have hS := Sat.refl w0
  have d1 : decide ((n : Int) < 1) = false := decide_eq_false (by omega)
  have d2 : decide ((65536 : Int) < (n : Int)) = false := decide_eq_false (by omega)
  have d3 : decide (65536 < n) = false := decide_eq_false (by omega)
  have hz : (List.replicate 256 (Value.int .u8 0)).toArray.toList = rowA z256 := by rw [zeros256];rfl
  go_enter Tryd.func24,Tryd.ntmps24
  go_wp2_with (first | (refine makeN hS rfl rfl n rfl rfl rowA z256 rfl ?_ ?_ ?_;(focus (omega));(focus (simp [maxLen];omega));clear hS;intro mb w hS;simp only [putW]) | (refine boxN hS rfl rfl rfl ?_;clear hS;intro mb w hS;simp only [putW]))
  rename_i g wx
  have h7 := (hS.perm (List.Perm.swap _ _ _)).slOfSlc
  rw [List.length_replicate] at h7
  have h8 : Sat w0 ((mb,cells #[.slice (some ⟨g,0,none⟩) n n,.slice none 0 0,.bool false,.int .i64 0,.int .i64 0,.slice none 0 0,.slice none 0 0] 102)::(g,sl 256 rowA (List.replicate n z256) 109 (.slice (some ⟨g,0,none⟩) n n))::(0,sl 257 wtF [] 111 (.slice none 0 0))::(0,sl 2 wrF [] 137 (.slice none 0 0))::(0,inn [] 5)::[]) w := (((h7.slNil 257 wtF 111).slNil 2 wrF 137).innNil 0 5).conv
  refine bodyPost_ret (v := .tuple #[.pointer (some ⟨mb,0,none⟩),.int .i64 0]) (by simp [results,Tryd.results24]) rfl ?_
  exact ⟨mb,rfl,closeDev (D := fresh n) (X := []) (vR := .slice none 0 0) (vW := .slice none 0 0) ⟨rfl,fresh_ok h1 h2⟩ h8⟩
set_option maxRecDepth 100000 in
theorem devUp_any (hS : Sat w0 ((d,DevG cv D)::K) w) : Calls Tryd.prog 20 #[.pointer (some ⟨d,0,none⟩)] w fun e w' => e = .returned (.bool (!D.off)) ∧ Sat w0 ((d,DevG cv D)::K) w' := by
  obtain ⟨X,vS,vW,vR,hX,hS2⟩ := openDev hS
  clear hS
  have hS := hS2
  clear hS2
  have HX : Bx _ := ⟨hX⟩
  clear hX
  go_enter Tryd.func20,Tryd.ntmps20
  go_wp2_with (refine load1 hS rfl rfl rfl rfl ?_;simp only [putW])
  go_ret
  exact ⟨by simp,closeDev HX.out hS⟩
set_option maxRecDepth 100000 in
theorem devCount_any (hS : Sat w0 ((d,DevG cv D)::K) w) : Calls Tryd.prog 12 #[.pointer (some ⟨d,0,none⟩)] w fun e w' => e = .returned (.int .i64 (D.count : Nat)) ∧ Sat w0 ((d,DevG cv D)::K) w' := by
  obtain ⟨X,vS,vW,vR,hX,hS2⟩ := openDev hS
  clear hS
  have hS := hS2
  clear hS2
  have HX : Bx _ := ⟨hX⟩
  clear hX
  go_enter Tryd.func12,Tryd.ntmps12
  go_wp2_with (refine load1 hS rfl rfl rfl rfl ?_;simp only [putW])
  go_ret
  exact ⟨rfl,closeDev HX.out hS⟩
set_option maxRecDepth 100000 in
theorem devBlocks_any (hS : Sat w0 ((d,DevG cv D)::K) w) : Calls Tryd.prog 62 #[.pointer (some ⟨d,0,none⟩)] w fun e w' => e = .returned (.int .i64 (D.st.length : Nat)) ∧ Sat w0 ((d,DevG cv D)::K) w' := by
  obtain ⟨X,vS,vW,vR,hX,hS2⟩ := openDev hS
  clear hS
  obtain ⟨n,hn⟩ : ∃ n,D.st.length = n := ⟨_,rfl⟩
  obtain ⟨q,c,hv⟩ := shapeN (hS2.pull (blk vS) (X := sl 256 rowA D.st 109 vS)) hn
  subst hv
  have hS := hS2
  clear hS2
  have HX : Bx _ := ⟨hX⟩
  rw [hn]
  clear hX hn
  go_enter Tryd.func62,Tryd.ntmps62
  go_wp2_with (refine load1 hS rfl rfl rfl rfl ?_;simp only [putW])
  go_ret
  exact ⟨rfl,closeDev HX.out hS⟩
set_option maxRecDepth 100000 in
theorem devReady_any (hS : Sat w0 ((d,DevG cv D)::K) w) : Calls Tryd.prog 50 #[.pointer (some ⟨d,0,none⟩),.int .i64 at'] w fun e w' => e = .returned (.int .i64 (D.ready at')) ∧ Sat w0 ((d,DevG cv D)::K) w' := by
  obtain ⟨X,vS,vW,vR,hX,hS2⟩ := openDev hS
  clear hS
  obtain ⟨n,hn⟩ : ∃ n,D.st.length = n := ⟨_,rfl⟩
  obtain ⟨q,c,hv⟩ := shapeN (hS2.pull (blk vS) (X := sl 256 rowA D.st 109 vS)) hn
  subst hv
  have hS := hS2
  clear hS2
  have HX : Bx _ := ⟨hX⟩
  obtain ⟨r,hr⟩ : ∃ r,D.ready at' = r := ⟨_,rfl⟩
  rw [hr]
  unfold Dev.ready at hr
  rw [hn] at hr
  clear hX hn
  obtain ⟨o,ho⟩ : ∃ o,D.off = o := ⟨_,rfl⟩
  have HO : Bx _ := ⟨ho⟩
  rw [ho] at hr
  rw [devA,ho] at hS
  clear ho
  cases o with
  | true =>
    have hr : r = 7 := by simpa using hr.symm
    subst hr
    go_enter Tryd.func50,Tryd.ntmps50
    go_wp2_with (refine load1 hS rfl rfl rfl rfl ?_;simp only [putW])
    go_ret
    exact ⟨rfl,closeDev HX.out (by rw [devA,HO.out];exact hS)⟩
  | false =>
    by_cases h0 : at' < 0
    · have hr : r = 1 := by rw [← hr];simp [h0]
      subst hr
      have d1 : decide (at' < 0) = true := decide_eq_true h0
      go_enter Tryd.func50,Tryd.ntmps50
      go_wp2_with (refine load1 hS rfl rfl rfl rfl ?_;simp only [putW])
      go_ret
      exact ⟨rfl,closeDev HX.out (by rw [devA,HO.out];exact hS)⟩
    · have d1 : decide (at' < 0) = false := decide_eq_false h0
      by_cases h2 : (n : Int) ≤ at'
      · have hr : r = 1 := by rw [← hr];simp [h2]
        subst hr
        have d2 : decide ((n : Int) ≤ at') = true := decide_eq_true h2
        go_enter Tryd.func50,Tryd.ntmps50
        go_wp2_with (refine load1 hS rfl rfl rfl rfl ?_;simp only [putW])
        go_ret
        exact ⟨rfl,closeDev HX.out (by rw [devA,HO.out];exact hS)⟩
      · have hr : r = 0 := by rw [← hr];simp [h0,h2]
        subst hr
        have d2 : decide ((n : Int) ≤ at') = false := decide_eq_false h2
        go_enter Tryd.func50,Tryd.ntmps50
        go_wp2_with (refine load1 hS rfl rfl rfl rfl ?_;simp only [putW])
        go_ret
        exact ⟨rfl,closeDev HX.out (by rw [devA,HO.out];exact hS)⟩
set_option maxRecDepth 100000 in
set_option maxHeartbeats 4000000 in
theorem devNow_any {k : Nat} (hk : k < D.st.length) (hz : D.wt.length ≤ 1000000) (hS : Sat w0 ((d,DevG cv D)::K) w) : Calls Tryd.prog 51 #[.pointer (some ⟨d,0,none⟩),.int .i64 k] w fun e w' => e = .returned (.agg (rowA (D.now k)).toArray) ∧ Sat w0 ((d,DevG cv D)::K) w' := by
  obtain ⟨X,vS,vW,vR,hX,hS2⟩ := openDev hS
  clear hS
  obtain ⟨n,hn⟩ : ∃ n,D.wt.length = n := ⟨_,rfl⟩
  obtain ⟨m,hm⟩ : ∃ m,D.st.length = m := ⟨_,rfl⟩
  obtain ⟨q,c,hv⟩ := shapeN (hS2.pull (blk vW) (X := sl 257 wtF D.wt 111 vW)) hn
  subst hv
  obtain ⟨q2,c2,hv⟩ := shapeN (hS2.pull (blk vS) (X := sl 256 rowA D.st 109 vS)) hm
  subst hv
  have hS := hS2
  clear hS2
  have HX : Bx _ := ⟨hX⟩
  have HN : Bx _ := ⟨hn⟩
  have HM : Bx _ := ⟨hm⟩
  have hkm : k < m := by omega
  have hnz : n ≤ 1000000 := by omega
  clear hX hn hm hk hz
  go_enter Tryd.func51,Tryd.ntmps51
  go_wp2_with (first | (refine allocA (t := 109) (vv := u8v) hS rfl rfl z256 zeros256 ?_;clear hS;intro mo w hS;simp only [putW]) | (refine load1 hS rfl rfl rfl rfl ?_;simp only [putW]))
  go_loopg [5] n (fun g i wr => g ≤ n ∧ i = .int .i64 ((g : Int) - 1) ∧ Bx (lastW (D.wt.drop g) k = none) ∧ Sat w0 ((mo,cells (z256.map u8v).toArray 109)::(d,cells (devA D cv (Value.slice q2 m c2) (Value.slice q n c) vR) 102)::(blk (Value.slice q2 m c2),sl 256 rowA D.st 109 (Value.slice q2 m c2))::(blk (Value.slice q n c),sl 257 wtF D.wt 111 (Value.slice q n c))::(blk vR,sl 2 wrF X 137 vR)::(0,inn (wrRows X) 5)::K) wr)
  case atStart => exact ⟨Nat.le_refl _,rfl,⟨by rw [← HN.out,List.drop_length];rfl⟩,hS⟩
  case round =>
    clear hS
    obtain ⟨hgn,rfl,HG,hS⟩ := hrel
    cases gk with
    | zero =>
      obtain ⟨b,hb⟩ : ∃ b,D.st[k]? = some b := ⟨_,List.getElem?_eq_getElem (by rw [HM.out];exact hkm)⟩
      have HBv : Bx (D.now k = b) := ⟨by
        have h1 : lastW D.wt k = none := HG.out
        unfold Dev.now
        rw [h1,List.getD_eq_getElem?_getD,hb]
        rfl⟩
      have hrow := HX.out.2.st b (List.mem_of_getElem? hb)
      have HB : Bx _ := ⟨hb⟩
      have HR : Bx _ := ⟨hrow⟩
      clear hb hrow
      obtain ⟨gq,hqq,hcq,hS2⟩ := openS (hS.pull (blk (Value.slice q2 m c2)) (X := sl 256 rowA D.st 109 (Value.slice q2 m c2))) HM.out (by omega)
      subst hqq
      clear hS
      have hS := hS2
      clear hS2

      have HV : Bx (((rowA b).drop 0).take 256 = rowA b) := ⟨by rw [List.drop_zero,List.take_of_length_le (by rw [rowA_len HR.out];exact Nat.le_refl _)]⟩
      go_wp2_with (first | (refine loadSN (f := rowA) (vs := rowA b) hS rfl rfl rfl k 0 ?_ HB.out ?_ HV.out ?_;omega;omega;simp only [putW]) | (refine storeAllA (vv := u8v) hS rfl rfl rfl b rfl HR.out.1 (fun _ _ => rfl) (by simp [z256]) ?_;clear hS;intro w hS;try simp only [putW]) | (refine load1 hS rfl rfl rfl rfl ?_;simp only [putW]))
      refine bodyPost_ret (v := .agg (rowA b).toArray) (by simp [results,Tryd.results51,asAddr,run_loadAll (P := Tryd.prog) hS mo 109 (show ((b.map u8v).toArray).size = 256 by simp [HR.out.1]),rowA]) rfl ⟨by rw [HBv.out],closeDev (vS := .slice (some ⟨gq,0,none⟩) m c2) (vW := .slice q n c) (vR := vR) HX.out (closeSlN (hS.pull gq (X := slc 256 rowA D.st c2 109)) HM.out).conv⟩
    | succ g =>
      obtain ⟨⟨a,b⟩,hb⟩ : ∃ b,D.wt[g]? = some b := ⟨_,List.getElem?_eq_getElem (by rw [HN.out];omega)⟩
      have hrow := HX.out.2.wt (a,b) (List.mem_of_getElem? hb)
      have HB : Bx _ := ⟨hb⟩
      have HR : Bx (isRow b) := ⟨hrow.2⟩
      clear hb hrow
      obtain ⟨gq,hqq,hcq,hS2⟩ := openS (hS.pull (blk (Value.slice q n c)) (X := sl 257 wtF D.wt 111 (Value.slice q n c))) HN.out (by omega)
      subst hqq
      clear hS
      have hS := hS2
      clear hS2
      have e1 : decide (0 ≤ (((g + 1 : Nat) : Int) - 1)) = true := decide_eq_true (by omega)
      have e2 : (((g + 1 : Nat) : Int) - 1) = (g : Int) := by omega
      rw [e2]
      rw [e2] at e1
      clear e2
      by_cases hak : a = k
      · have d1 : decide ((a : Int) = (k : Int)) = true := decide_eq_true (by omega)
        have HV : Bx (((wtF (a,b)).drop 1).take 256 = rowA b) := ⟨by
          show (rowA b).take 256 = rowA b
          rw [List.take_of_length_le (by rw [rowA_len HR.out];exact Nat.le_refl _)]⟩
        go_wp2_with (first | (refine loadS (f := wtF) hS rfl rfl rfl g 0 ?_ HB.out rfl ?_ ?_;omega;omega;simp only [putW]) | (refine loadSN (f := wtF) (vs := rowA b) hS rfl rfl rfl g 1 ?_ HB.out ?_ HV.out ?_;omega;omega;simp only [putW]) | (refine storeAllA (vv := u8v) hS rfl rfl rfl b rfl HR.out.1 (fun _ _ => rfl) (by simp [z256]) ?_;clear hS;intro w hS;try simp only [putW]) | (refine load1 hS rfl rfl rfl rfl ?_;simp only [putW]))
        have HBv : Bx (D.now k = b) := ⟨by
          unfold Dev.now
          subst hak
          rw [lastW_hit HB.out HG.out]
          rfl⟩
        refine bodyPost_ret (v := .agg (rowA b).toArray) (by simp [results,Tryd.results51,asAddr,run_loadAll (P := Tryd.prog) hS mo 109 (show ((b.map u8v).toArray).size = 256 by simp [HR.out.1]),rowA]) rfl ⟨by rw [HBv.out],closeDev (vS := .slice q2 m c2) (vW := .slice (some ⟨gq,0,none⟩) n c) (vR := vR) HX.out (closeSlN (hS.pull gq (X := slc 257 wtF D.wt c 111)) HN.out).conv⟩
      · have d1 : decide ((a : Int) = (k : Int)) = false := decide_eq_false (by omega)
        go_wp2_with (first | (refine loadS (f := wtF) hS rfl rfl rfl g 0 ?_ HB.out rfl ?_ ?_;omega;omega;simp only [putW]) | (refine load1 hS rfl rfl rfl rfl ?_;simp only [putW]))
        go_roundg g
        case measure => omega
        case rel => exact ⟨by omega,by go_num,⟨lastW_miss HB.out hak HG.out⟩,(closeSlN (hS.pull gq (X := slc 257 wtF D.wt c 111)) HN.out).conv⟩
end
end Go.Proofs.YtdkimdobcacpfaaDoor
namespace Go.Proofs.YtdkimdobcacpfaaDoor
open Go.RowKit Go.Proofs.YtdkimdobcacpfaaDoor.Sl Go.Proofs.YtdkimdobcacpfaaDoor.Sha Go.Proofs.YtdkimdobcacpfaaDoor.Jp Go.Proofs.YtdkimdobcacpfaaDoor.Tr Go.Proofs.YtdkimdobcacpfaaDoor.Dv

section
variable {P : Program} {ops : Array Oper} {o : Oper} {a : Act} {I : World → Prop} {x : Operand} {t : TypeId} {z : Array Value} {zv : Value}
theorem yArrayPtr {arr e' : TypeId} {m len cap : Nat} {ad : Addr} (hw : Region.wanted o (yielded ops a.tmps) = true) (ho : o.op = .sliceToArrayPointer arr x) (hu : P.underlying arr = some (.array m e')) (hx : a.eval x = .slice (some ad) len cap) (hm : m ≤ len) : YieldsIf P ops I o (.pointer (some ad)) a :=
  .inl ⟨hw,fun w _ => by
    have hlt : ¬ len < m := by omega
    simp [execOp,ho,hx,Instr.arrayAt,run_underlying hu,hlt]⟩
theorem yLoadBA {A : List Int} {q len cap b p : Nat} [ty : Ty P t true q zv z] (hR : ∀ w,I w → RB w A (.slice (some ⟨b,p,none⟩) len cap)) (hw : Region.wanted o (yielded ops a.tmps) = true) (ho : o.op = .load t x) (i : Nat) (hx : a.eval x = .pointer (some ⟨b,p + i,none⟩)) (hi : i + q ≤ A.length) (hl : A.length = len) {vs : List Value} (hv : ((A.drop i).take q).map (Value.int .u8) = vs) : YieldsIf P ops I o (.agg vs.toArray) a :=
  .inl ⟨hw,fun w h => by
    have h1 := run_loadBA (P := P) (t := t) (hR w h) b p i (.inr rfl) hi hl
    rw [hv] at h1
    simp [execOp,ho,hx,Instr.loadAt,Instr.sureAddr,h1]⟩
end
section
variable {w0 w : World} {K F S : List Chunk} {d : Nat} {D : Dev} {cv : Value} {at' : Int}
theorem boxRow {m : Nat} {r : Row} {t : TypeId} (h : isRow r) (hS : Sat w0 ((m,cells (r.map u8v).toArray t)::F) w) : Sat w0 ((m,sl 1 by8 r t (.slice (some ⟨m,0,none⟩) 256 256))::F) w := by
  have h1 := hS.toSlc (l := r) (cap := 256) (n := 1) (f := by8) (by simp [h.1]) (by rw [h.1];exact Nat.le_refl _) (by simp [maxLen]) (by
    rw [flatMap_one,List.take_of_length_le (by simp)]) (fun x _ => rfl)
  have h2 := h1.slOfSlc
  rw [h.1] at h2
  exact h2
set_option maxRecDepth 100000 in
set_option maxHeartbeats 4000000 in
/-- A block that may be read. -/
theorem devRead_ok {k : Nat} (hoff : D.off = false) (hk : k < D.st.length) (hz : D.wt.length ≤ 1000000) (hS : Sat w0 ((d,DevG cv D)::K) w) : Calls Tryd.prog 31 #[.pointer (some ⟨d,0,none⟩),.int .i64 k] w fun e w' => ∃ v,e = .returned (.tuple #[v,.int .i64 0]) ∧ Sat w0 ((blk v,sl 1 by8 (D.now k) 109 v)::(d,DevG cv D)::K) w' := by
  have hr : D.ready k = 0 := by
    unfold Dev.ready
    rw [if_neg (by simp [hoff]),if_neg (by omega)]
  have hrow := (devOk hS).now hk
  have HR : Bx _ := ⟨hrow⟩
  have HZ : Bx _ := ⟨hr⟩
  obtain ⟨r,hr2⟩ : ∃ r,D.now k = r := ⟨_,rfl⟩
  rw [hr2] at HR
  have HN : Bx _ := ⟨hr2⟩
  rw [hr2]
  clear hrow hr hr2
  go_enter Tryd.func31,Tryd.ntmps31
  go_wp2_with (first | (go_at_call 50;refine Calls.mono (devReady_any hS) ?_;rw [HZ.out];clear hS;rintro _ w ⟨rfl,hS⟩;simp only [putW]) | (go_at_call 51;refine Calls.mono (devNow_any hk hz hS) ?_;rw [HN.out];clear hS;rintro _ w ⟨rfl,hS⟩;simp only [putW]) | (refine allocA (t := 109) (vv := u8v) hS rfl rfl z256 zeros256 ?_;clear hS;intro mo w hS;simp only [putW]) | (refine storeAllA (vv := u8v) hS rfl rfl rfl r rfl HR.out.1 (fun _ _ => rfl) (by simp [z256]) ?_;clear hS;intro w hS;try simp only [putW]) | (refine sliceArr rfl rfl Tryd.underlying109 rfl ?_;simp only [putW]))
  refine bodyPost_ret (v := .tuple #[.slice (some ⟨mo,0,none⟩) 256 256,.int .i64 0]) (by simp [results,Tryd.results31]) rfl ⟨_,rfl,boxRow HR.out hS⟩
set_option maxRecDepth 100000 in
/-- .. one that may not. -/
theorem devRead_no (hr : D.ready at' ≠ 0) (hS : Sat w0 ((d,DevG cv D)::K) w) : Calls Tryd.prog 31 #[.pointer (some ⟨d,0,none⟩),.int .i64 at'] w fun e w' => e = .returned (.tuple #[.slice none 0 0,.int .i64 (D.ready at')]) ∧ Sat w0 ((d,DevG cv D)::K) w' := by
  obtain ⟨r,hr2⟩ : ∃ r,D.ready at' = r := ⟨_,rfl⟩
  rw [hr2] at hr ⊢
  have HZ : Bx _ := ⟨hr2⟩
  have d1 : decide (r = 0) = false := decide_eq_false hr
  clear hr2
  go_enter Tryd.func31,Tryd.ntmps31
  go_wp2_with (go_at_call 50;refine Calls.mono (devReady_any hS) ?_;rw [HZ.out];clear hS;rintro _ w ⟨rfl,hS⟩;simp only [putW])
  refine bodyPost_ret (v := .tuple #[.slice none 0 0,.int .i64 r]) (by simp [results,Tryd.results31]) rfl ⟨rfl,hS⟩
set_option maxRecDepth 100000 in
theorem devCrash_any (hS : Sat w0 ((d,DevG cv D)::K) w) : Calls Tryd.prog 21 #[.pointer (some ⟨d,0,none⟩)] w fun e w' => e = .returned (.tuple #[]) ∧ Sat w0 ((d,DevG cv D.crash)::K) w' := by
  obtain ⟨X,vS,vW,vR,hX,hS2⟩ := openDev hS
  clear hS
  have hS := hS2
  clear hS2
  have HX : Bx _ := ⟨hX⟩
  clear hX
  go_enter Tryd.func21,Tryd.ntmps21
  go_wp2_with (refine store1 hS rfl rfl rfl rfl rfl ?_ ?_;(focus (simp;done));clear hS;intro w hS;simp only [evW,putW] at hS;try simp only [putW])
  go_end0
  exact ⟨rfl,closeDev (D := D.crash) ⟨HX.out.1,HX.out.2.crash⟩ hS⟩
set_option maxRecDepth 100000 in
set_option maxHeartbeats 4000000 in
theorem devSpend_any (hz : D.Sz) (hS : Sat w0 ((d,DevG cv D)::K) w) : Calls Tryd.prog 65 #[.pointer (some ⟨d,0,none⟩)] w fun e w' => e = .returned (.bool (!D.spend.off)) ∧ Sat w0 ((d,DevG cv D.spend)::K) w' := by
  obtain ⟨X,vS,vW,vR,hX,hS2⟩ := openDev hS
  clear hS
  have hS := hS2
  clear hS2
  have HX : Bx _ := ⟨hX⟩
  clear hX
  obtain ⟨st,wt,off,armed,count,wr⟩ := D
  have hc : count ≤ 1000000000000 := hz.count
  have ha : armed ≤ 9223372036854775807 := hz.armed
  clear hz
  replace hS : Sat w0 ((d,cells #[vS,vW,.bool off,.int .i64 (armed : Nat),.int .i64 (count : Nat),cv,vR] 102)::(blk vS,sl 256 rowA st 109 vS)::(blk vW,sl 257 wtF wt 111 vW)::(blk vR,sl 2 wrF X 137 vR)::(0,inn (wrRows X) 5)::K) w := hS
  cases armed with
  | zero =>
    go_enter Tryd.func65,Tryd.ntmps65
    go_wp2_with (first | (refine load1 hS rfl rfl rfl rfl ?_;simp only [putW]) | (refine store1 hS rfl rfl rfl rfl rfl ?_ ?_;(focus (simp;done));clear hS;intro w hS;simp only [evW,putW] at hS;try simp only [putW]))
    go_ret
    refine ⟨by simp [Dev.spend],closeDev (D := Dev.spend ⟨st,wt,off,0,count,wr⟩) (X := X) (vS := vS) (vW := vW) (vR := vR) ⟨HX.out.1,HX.out.2.spend⟩ ?_⟩
    simpa [Dev.spend,devA] using hS
  | succ m =>
    cases m with
    | zero =>
      go_enter Tryd.func65,Tryd.ntmps65
      go_wp2_with (first | (guard_target =~ Calls _ 21 _ _ _;refine Stopped.out ?_) | (refine load1 hS rfl rfl rfl rfl ?_;simp only [putW]) | (refine store1 hS rfl rfl rfl rfl rfl ?_ ?_;(focus (simp;done));clear hS;intro w hS;simp only [evW,putW] at hS;try simp only [putW]))
      refine ⟨?_⟩
      have h8 : Sat w0 ((d,DevG cv ⟨st,wt,off,0,count + 1,wr⟩)::K) w := closeDev (D := ⟨st,wt,off,0,count + 1,wr⟩) (X := X) (vS := vS) (vW := vW) (vR := vR) ⟨HX.out.1,⟨HX.out.2.n1,HX.out.2.n2,HX.out.2.st,HX.out.2.wt,HX.out.2.wr⟩⟩ hS
      refine Calls.mono (devCrash_any h8) ?_
      clear hS h8
      rintro _ w ⟨rfl,hS⟩
      simp only [putW]
      obtain ⟨X2,vS2,vW2,vR2,hX2,hS2⟩ := openDev hS
      clear hS
      have hS := hS2
      clear hS2
      have HX2 : Bx _ := ⟨hX2⟩
      clear hX2
      go_wp2_with (refine load1 hS rfl rfl rfl rfl ?_;simp only [putW])
      go_ret
      refine ⟨by simp [Dev.spend,Dev.crash],closeDev (D := Dev.spend ⟨st,wt,off,1,count,wr⟩) (X := X2) (vS := vS2) (vW := vW2) (vR := vR2) ⟨HX2.out.1,HX.out.2.spend⟩ ?_⟩
      simpa [Dev.spend,Dev.crash,devA] using hS
    | succ m =>
      have d1 : decide (0 < (((m + 1 + 1 : Nat)) : Int)) = true := decide_eq_true (by omega)
      have d2 : decide ((((m + 1 + 1 : Nat)) : Int) - 1 = 0) = false := decide_eq_false (by omega)
      go_enter Tryd.func65,Tryd.ntmps65
      go_wp2_with (first | (refine load1 hS rfl rfl rfl rfl ?_;simp only [putW]) | (refine store1 hS rfl rfl rfl rfl rfl ?_ ?_;(focus (simp;done));clear hS;intro w hS;simp only [evW,putW] at hS;try simp only [putW]))
      go_ret
      refine ⟨by simp [Dev.spend],closeDev (D := Dev.spend ⟨st,wt,off,m + 1 + 1,count,wr⟩) (X := X) (vS := vS) (vW := vW) (vR := vR) ⟨HX.out.1,HX.out.2.spend⟩ ?_⟩
      have e : (((m + 1 + 1 : Nat) : Int) - 1) = ((m + 1 : Nat) : Int) := by omega
      simp [Dev.spend,devA,e] at hS ⊢
      exact hS
end
end Go.Proofs.YtdkimdobcacpfaaDoor
namespace Go.Proofs.YtdkimdobcacpfaaDoor
open Go.RowKit Go.Proofs.YtdkimdobcacpfaaDoor.Sl Go.Proofs.YtdkimdobcacpfaaDoor.Sha Go.Proofs.YtdkimdobcacpfaaDoor.Jp Go.Proofs.YtdkimdobcacpfaaDoor.Tr Go.Proofs.YtdkimdobcacpfaaDoor.Dv

instance : StrT Tryd.prog 111 [[.int .i64 0],rowA z256] := StrT.mk' Tryd.underlying111 (by kernel_rfl) (pl := #[(0,1),(1,256)]) (fun w => by go_simp) (by kernel_rfl)
section
variable {w0 w : World} {K F S : List Chunk} {d : Nat} {D : Dev} {cv vb : Value} {at' : Int} {B : Row}
theorem wt_out (k : Int) (B : Row) : (setSegs [[.int .i64 0],rowA z256] ([(0,Value.int .i64 k),(1,Value.agg (rowA B).toArray)].map fun p => (p.1,p.2.cells.toList))).flatten = .int .i64 k::rowA B := by
  simp [setSegs,Value.cells]
theorem wt_fit (k : Int) (hB : isRow B) : ∀ p ∈ [(0,Value.int .i64 k),(1,Value.agg (rowA B).toArray)],(lens [[.int .i64 0],rowA z256])[p.1]? = some p.2.cells.size := by
  intro p hp
  simp only [List.mem_cons,List.not_mem_nil,or_false] at hp
  rcases hp with rfl | rfl
  · rfl
  · simp [lens,Value.cells,rowA_len hB,rowA_len isRow_z]
set_option maxRecDepth 100000 in
theorem devSpend2_any (hz : D.Sz) (hS : Sat w0 ((d,DevG cv D)::K) w) : Calls Tryd.prog 46 #[.pointer (some ⟨d,0,none⟩)] w fun e w' => e = .returned (.bool (!D.off && !D.spend.off)) ∧ Sat w0 ((d,DevG cv (if D.off then D else D.spend))::K) w' := by
  obtain ⟨X,vS,vW,vR,hX,hS2⟩ := openDev hS
  clear hS
  obtain ⟨o,ho⟩ : ∃ o,D.off = o := ⟨_,rfl⟩
  have HX : Bx _ := ⟨hX⟩
  have HO : Bx _ := ⟨ho⟩
  rw [devA,ho] at hS2
  rw [ho]
  clear ho hX
  have hS := hS2
  clear hS2
  cases o with
  | true =>
    go_enter Tryd.func46,Tryd.ntmps46
    go_wp2_with (refine load1 hS rfl rfl rfl rfl ?_;simp only [putW])
    go_ret
    exact ⟨by simp,closeDev HX.out (by rw [devA,HO.out];exact hS)⟩
  | false =>
    go_enter Tryd.func46,Tryd.ntmps46
    go_wp2_with (first | (guard_target =~ Calls _ 65 _ _ _;refine Stopped.out ?_) | (refine load1 hS rfl rfl rfl rfl ?_;simp only [putW]))
    refine ⟨?_⟩
    refine Calls.mono (devSpend_any hz (closeDev HX.out (by rw [devA,HO.out];exact hS))) ?_
    clear hS
    rintro _ w ⟨rfl,hS⟩
    simp only [putW]
    go_wp2_with (refine load1 hS rfl rfl rfl rfl ?_;simp only [putW])
    go_ret
    exact ⟨by simp,by simpa using hS⟩
set_option maxRecDepth 100000 in
set_option maxHeartbeats 4000000 in
theorem devWrite_no (hr : D.ready at' ≠ 0) (hR : ∀ w',Sat w0 K w' → RB w' B vb) (hS : Sat w0 ((d,DevG cv D)::K) w) : Calls Tryd.prog 38 #[.pointer (some ⟨d,0,none⟩),.int .i64 at',vb] w fun e w' => e = .returned (.int .i64 (D.ready at')) ∧ Sat w0 ((d,DevG cv D)::K) w' := by
  obtain ⟨r,hr2⟩ : ∃ r,D.ready at' = r := ⟨_,rfl⟩
  rw [hr2] at hr ⊢
  have HZ : Bx _ := ⟨hr2⟩
  have d1 : decide (r = 0) = false := decide_eq_false hr
  obtain ⟨q,c,hv,-⟩ := BSl.at (hR w hS.tail)
  subst hv
  clear hr2 hR
  go_enter Tryd.func38,Tryd.ntmps38
  go_wp2_with (go_at_call 50;refine Calls.mono (devReady_any hS) ?_;rw [HZ.out];clear hS;rintro _ w ⟨rfl,hS⟩;simp only [putW])
  go_ret
  exact ⟨rfl,hS⟩
set_option maxRecDepth 100000 in
set_option maxHeartbeats 4000000 in
theorem devWrite_len (hr : D.ready at' = 0) (hl : B.length ≠ 256) (hR : ∀ w',Sat w0 K w' → RB w' B vb) (hS : Sat w0 ((d,DevG cv D)::K) w) : Calls Tryd.prog 38 #[.pointer (some ⟨d,0,none⟩),.int .i64 at',vb] w fun e w' => e = .returned (.int .i64 1) ∧ Sat w0 ((d,DevG cv D)::K) w' := by
  have HZ : Bx _ := ⟨hr⟩
  obtain ⟨n,hn⟩ : ∃ n,B.length = n := ⟨_,rfl⟩
  obtain ⟨q,c,hv,-⟩ := BSl.at (hR w hS.tail)
  rw [hn] at hv hl
  subst hv
  have d1 : decide ((n : Int) = 256) = false := decide_eq_false (by omega)
  clear hr hR
  go_enter Tryd.func38,Tryd.ntmps38
  go_wp2_with (go_at_call 50;refine Calls.mono (devReady_any hS) ?_;rw [HZ.out];clear hS;rintro _ w ⟨rfl,hS⟩;simp only [putW])
  go_ret
  exact ⟨rfl,hS⟩
set_option maxRecDepth 100000 in
set_option maxHeartbeats 8000000 in
theorem devWrite_ok {k : Nat} (hoff : D.off = false) (hk : k < D.st.length) (hB : isRow B) (hz : D.Sz) (hz3 : D.wt.length + 1 ≤ 1000000 ∧ D.wr.length + 1 ≤ 1000000) (hR : ∀ w',Sat w0 K w' → RB w' B vb) (hS : Sat w0 ((d,DevG cv D)::K) w) : Calls Tryd.prog 38 #[.pointer (some ⟨d,0,none⟩),.int .i64 k,vb] w fun e w' => e = .returned (.int .i64 (if (D.put k B).spend.off then 7 else 0)) ∧ Sat w0 ((d,DevG cv (D.put k B).spend)::K) w' := by
  have hr : D.ready k = 0 := by
    unfold Dev.ready
    rw [if_neg (by simp [hoff]),if_neg (by omega)]
  obtain ⟨r,hrr⟩ : ∃ r,(D.put k B).spend.off = r := ⟨_,rfl⟩
  have HRo : Bx _ := ⟨hrr⟩
  rw [hrr]
  clear hrr
  have HZ : Bx _ := ⟨hr⟩
  have HR : Bx _ := ⟨hR⟩
  have HB : Bx _ := ⟨hB⟩
  have hz2 : Bx _ := ⟨hz3⟩
  clear hz3
  obtain ⟨q,c,hv,hq⟩ := BSl.at (hR w hS.tail)
  rw [hB.1] at hv
  subst hv
  obtain ⟨g,off,hga⟩ : ∃ g off,q = some ⟨g,off,none⟩ := by
    obtain ⟨b,off,h1,-⟩ := hq.2 (by intro e;rw [e] at hB;cases hB.1)
    exact ⟨b,off,h1⟩
  subst hga
  clear hr hR hq
  go_enter Tryd.func38,Tryd.ntmps38
  go_wp2_with (guard_target =~ Calls _ 50 _ _ _;refine Stopped.out ?_)
  refine ⟨?_⟩
  refine Calls.mono (devReady_any hS) ?_
  rw [HZ.out]
  clear hS
  rintro _ w ⟨rfl,hS⟩
  simp only [putW]
  go_upto_region 6 with (refine load1 hS rfl rfl rfl rfl ?_;simp only [putW])
  obtain ⟨X,vS,vW,vR,hX,hS2⟩ := openDev hS
  clear hS
  have hS := hS2
  clear hS2
  have HX : Bx _ := ⟨hX⟩
  clear hX
  have HO : Bx (((setSegs [[.int .i64 0],rowA z256] ([(0,Value.int .i64 k),(1,Value.agg (rowA B).toArray)].map fun p => (p.1,p.2.cells.toList))).flatten = wtF (k,B))) := ⟨wt_out k B⟩
  have HF : Bx _ := ⟨wt_fit k hB⟩
  have HV : Bx (((B.drop 0).take 256).map (Value.int .u8) = rowA B) := ⟨by rw [List.drop_zero,List.take_of_length_le (by rw [hB.1];exact Nat.le_refl _)];rfl⟩
  have HL : Bx (0 + 256 ≤ B.length ∧ B.length = 256) := ⟨by rw [hB.1];omega,hB.1⟩
  have HC : Bx ((wtF (k,B)).toArray.size = 257) := ⟨by simp [wtF,hB.1]⟩
  have HC2 : Bx ((wtF (k,B)).length = 257) := ⟨by simp [wtF,hB.1]⟩
  have HC1 : Bx (∀ u ∈ wtF (k,B),u.oneCell' = true) := ⟨by
    intro u hu
    rcases List.mem_cons.1 hu with h | h
    · rw [h];rfl
    · obtain ⟨y,_,rfl⟩ := List.mem_map.1 h
      rfl⟩
  have HM : Bx (D.wt.length + 1 ≤ maxLen ∧ (D.wt.length + 1) * 264 ≤ 140737488355328) := ⟨by simp [maxLen];have := hz.wt;omega,by have := hz.wt;omega⟩
  go_cut [] from 21 to 34 (fun wc => Sat w0 ((d,DevG cv (D.wait k B))::K) wc)
  case first =>
    (refine wp_region_held (S := fun w' => Sat w0 (K) w') (by kernel_rfl) ?_;replace hS := hS.drew;(refine takeIf (i := 0) rfl (by kernel_rfl) (fun _ _ _ h => h) (yMove rfl rfl rfl) hS.conv ?_;simp only [evW,putW]);(refine takeIf (i := 1) rfl (by kernel_rfl) (fun _ _ _ h => h) (yMove rfl rfl rfl) hS.conv ?_;simp only [evW,putW]);(apply takeIf (i := 2) rfl (by kernel_rfl) (fun _ _ _ h => h);(focus (apply yRun rfl;intro w;first | (go_simp;done) | (go_simp;rfl)));(focus (exact hS.conv));simp only [putW]);(apply takeIf (i := 3) rfl (by kernel_rfl) (fun _ _ _ h => h);(focus (apply yRun rfl;intro w;first | (go_simp;done) | (go_simp;rfl)));(focus (exact hS.conv));simp only [putW]);(refine takeIf (i := 5) rfl (by kernel_rfl) (fun _ _ _ h => h) (yMove rfl rfl rfl) hS.conv ?_;simp only [evW,putW]);(refine takeIf (i := 6) rfl (by kernel_rfl) (fun _ _ _ h => h) (yMove rfl rfl rfl) hS.conv ?_;simp only [evW,putW]);(refine takeIf (i := 7) rfl (by kernel_rfl) (fun _ _ _ h => h) (yArrayPtr (m := 256) rfl rfl Tryd.underlying109 rfl (Nat.le_refl _)) hS.conv ?_;simp only [putW]);(refine takeIf (i := 8) rfl (by kernel_rfl) (fun _ _ _ h => h) (yLoadBA (A := B) (fun w' h => HR.out w' h) rfl rfl 0 rfl HL.out.1 HL.out.2 HV.out) hS.conv ?_;simp only [putW]);(refine takeIf (i := 9) rfl (by kernel_rfl) (fun _ _ _ h => h) (yBuildS (segs := [[.int .i64 0],rowA z256]) rfl rfl [(0,Value.int .i64 k),(1,Value.agg (rowA B).toArray)] rfl HF.out HO.out) hS.conv ?_;simp only [putW]);refine wpAnyH_all (rs := [4,10]) (by kernel_rfl) (by simp) ?_;intro i hi;simp only [List.mem_cons,List.not_mem_nil,or_false] at hi;rcases hi with rfl | rfl;(focus (refine wpOp_of_list rfl ?_;go_wp2_with (refine load1 hS rfl rfl rfl rfl ?_;simp only [putW]);refine ⟨rfl,hS.conv,?_⟩;refine wpAnyH_all (rs := [10]) (by kernel_rfl) (by simp) ?_;intro i hi;simp only [List.mem_cons,List.not_mem_nil,or_false] at hi;subst hi;refine wpOp_of_list rfl ?_;go_wp2_with (refine buildSlice1 (c := (wtF (k,B)).toArray) hS rfl rfl rfl HC.out rfl rfl ?_;clear hS;intro mb w hS;simp only [putW]);refine ⟨rfl,hS.conv,?_⟩;refine wpAnyH_all (rs := [11]) (by kernel_rfl) (by simp) ?_;intro i hi;simp only [List.mem_cons,List.not_mem_nil,or_false] at hi;subst hi;refine wpOp_of_list rfl ?_;go_wp2_with (refine append1 (f := wtF) hS rfl rfl vW rfl rfl (k,B) rfl HC1.out HC2.out HM.out.1 HM.out.2 ?_;clear hS;intro v' w hS;obtain ⟨gw,cw,hv',hS3⟩ := hS.slSome (by simp);clear hS;subst hv';have hS := hS3;clear hS3;simp only [putW]);refine ⟨rfl,hS.conv,?_⟩;(apply takeIf (i := 12) rfl (by kernel_rfl) (fun _ _ _ h => h);(focus (apply yRun rfl;intro w;first | (go_simp;done) | (go_simp;rfl)));(focus (exact hS.conv));simp only [putW]);(apply takeIf (i := 13) rfl (by kernel_rfl) (fun _ _ _ h => h);(focus (apply yRun rfl;intro w;first | (go_simp;done) | (go_simp;rfl)));(focus (exact hS.conv));simp only [putW]);refine wpAnyH_all (rs := [14]) (by kernel_rfl) (by simp) ?_;intro i hi;simp only [List.mem_cons,List.not_mem_nil,or_false] at hi;subst hi;refine wpOp_of_list rfl ?_;go_wp2_with (refine store1 hS rfl rfl rfl rfl rfl ?_ ?_;(focus (simp;done));clear hS;intro w hS;simp only [evW,putW] at hS;try simp only [putW]);refine ⟨rfl,hS.conv,?_⟩;refine wpAnyH_done (by kernel_rfl) ?_ _;go_wp2_with (refine load1 hS rfl rfl rfl rfl ?_;simp only [putW]);go_meet;(case rel => exact closeDv (X := X) (st := D.st) (wt := D.wt ++ [(k,B)]) (off := D.off) (armed := D.armed) (count := D.count) (wr := D.wr) (vS := vS) (vW := .slice (some ⟨gw,0,none⟩) (D.wt ++ [(k,B)]).length cw) (vR := vR) ⟨HX.out.1,HX.out.2.wait hk HB.out⟩ (closeSlN (hS.pull gw (X := slc 257 wtF (D.wt ++ [(k,B)]) cw 111)) rfl).conv)));(focus (refine wpOp_of_list rfl ?_;go_wp2_with (refine buildSlice1 (c := (wtF (k,B)).toArray) hS rfl rfl rfl HC.out rfl rfl ?_;clear hS;intro mb w hS;simp only [putW]);refine ⟨rfl,hS.conv,?_⟩;refine wpAnyH_all (rs := [4]) (by kernel_rfl) (by simp) ?_;intro i hi;simp only [List.mem_cons,List.not_mem_nil,or_false] at hi;subst hi;refine wpOp_of_list rfl ?_;go_wp2_with (refine load1 hS rfl rfl rfl rfl ?_;simp only [putW]);refine ⟨rfl,hS.conv,?_⟩;refine wpAnyH_all (rs := [11]) (by kernel_rfl) (by simp) ?_;intro i hi;simp only [List.mem_cons,List.not_mem_nil,or_false] at hi;subst hi;refine wpOp_of_list rfl ?_;go_wp2_with (refine append1 (f := wtF) hS rfl rfl vW rfl rfl (k,B) rfl HC1.out HC2.out HM.out.1 HM.out.2 ?_;clear hS;intro v' w hS;obtain ⟨gw,cw,hv',hS3⟩ := hS.slSome (by simp);clear hS;subst hv';have hS := hS3;clear hS3;simp only [putW]);refine ⟨rfl,hS.conv,?_⟩;(apply takeIf (i := 12) rfl (by kernel_rfl) (fun _ _ _ h => h);(focus (apply yRun rfl;intro w;first | (go_simp;done) | (go_simp;rfl)));(focus (exact hS.conv));simp only [putW]);(apply takeIf (i := 13) rfl (by kernel_rfl) (fun _ _ _ h => h);(focus (apply yRun rfl;intro w;first | (go_simp;done) | (go_simp;rfl)));(focus (exact hS.conv));simp only [putW]);refine wpAnyH_all (rs := [14]) (by kernel_rfl) (by simp) ?_;intro i hi;simp only [List.mem_cons,List.not_mem_nil,or_false] at hi;subst hi;refine wpOp_of_list rfl ?_;go_wp2_with (refine store1 hS rfl rfl rfl rfl rfl ?_ ?_;(focus (simp;done));clear hS;intro w hS;simp only [evW,putW] at hS;try simp only [putW]);refine ⟨rfl,hS.conv,?_⟩;refine wpAnyH_done (by kernel_rfl) ?_ _;go_wp2_with (refine load1 hS rfl rfl rfl rfl ?_;simp only [putW]);go_meet;(case rel => exact closeDv (X := X) (st := D.st) (wt := D.wt ++ [(k,B)]) (off := D.off) (armed := D.armed) (count := D.count) (wr := D.wr) (vS := vS) (vW := .slice (some ⟨gw,0,none⟩) (D.wt ++ [(k,B)]).length cw) (vR := vR) ⟨HX.out.1,HX.out.2.wait hk HB.out⟩ (closeSlN (hS.pull gw (X := slc 257 wtF (D.wt ++ [(k,B)]) cw 111)) rfl).conv))))
  case rest =>
    clear hS HX
    have hS := hcut
    clear hcut
    obtain ⟨X,vS,vW,vR,hX,hS2⟩ := openDev hS
    clear hS
    have hS := hS2
    clear hS2
    have HX : Bx _ := ⟨hX⟩
    clear hX
    have hl : Bx (X.length ≤ 1000000) := ⟨by have h1 := congrArg List.length HX.out.1;rw [List.length_map] at h1;have h3 : X.length = D.wr.length := h1;rw [h3];exact hz.wr⟩
    have HM : Bx (X.length + 1 ≤ maxLen ∧ (X.length + 1) * 32 ≤ 140737488355328) := ⟨by have := hl.out;simp [maxLen];omega,by have := hl.out;omega⟩
    have hok : Bx (D.put k B).Ok := ⟨by
      have h1 := HX.out.2
      have h2 : isRow B := HB.out
      exact ⟨h1.n1,h1.n2,h1.st,h1.wt,fun x hx => by
        rcases List.mem_append.1 hx with h3 | h3
        · exact h1.wr x h3
        · rw [List.mem_singleton.1 h3];exact h2⟩⟩
    have hfin : ∀ {gw cw cc : Nat} {qc : Option Addr} {w4 : World},Sat w0 ((d,cells #[vS,vW,.bool D.off,.int .i64 (D.armed : Nat),.int .i64 (D.count : Nat),cv,.slice (some ⟨gw,0,none⟩) (X ++ [((.slice qc 256 cc,k,B) : WrV)]).length cw] 102)::(gw,slc 2 wrF (X ++ [((.slice qc 256 cc,k,B) : WrV)]) cw 137)::(blk (.slice qc 256 cc),sl 1 by8 B 5 (.slice qc 256 cc))::(blk vS,sl 256 rowA D.st 109 vS)::(blk vW,sl 257 wtF (D.wt ++ [(k,B)]) 111 vW)::(0,inn (wrRows X) 5)::K) w4 →
        Sat w0 ((d,cells #[vS,vW,.bool D.off,.int .i64 (D.armed : Nat),.int .i64 (D.count : Nat),cv,.slice (some ⟨gw,0,none⟩) (X ++ [((.slice qc 256 cc,k,B) : WrV)]).length cw] 102)::(blk vS,sl 256 rowA D.st 109 vS)::(blk vW,sl 257 wtF (D.wt ++ [(k,B)]) 111 vW)::(blk (.slice (some ⟨gw,0,none⟩) (X ++ [((.slice qc 256 cc,k,B) : WrV)]).length cw),sl 2 wrF (X ++ [((.slice qc 256 cc,k,B) : WrV)]) 137 (.slice (some ⟨gw,0,none⟩) (X ++ [((.slice qc 256 cc,k,B) : WrV)]).length cw))::(0,inn (wrRows (X ++ [((.slice qc 256 cc,k,B) : WrV)])) 5)::K) w4 := fun {gw cw cc qc w4} h => by
      have h1 := closeSlN (h.pull gw (X := slc 2 wrF (X ++ [((.slice qc 256 cc,k,B) : WrV)]) cw 137)) rfl
      have h3 := h1.innAdd (.slice qc 256 cc) (j := 0) (X := wrRows X) (t := 5) rfl
      rw [show wrRows X ++ [(.slice qc 256 cc,B)] = wrRows (X ++ [((.slice qc 256 cc,k,B) : WrV)]) by simp [wrRows]] at h3
      exact h3.conv
    have HCl : Bx (B.length ≤ 140737488355328) := ⟨by rw [HL.out.2];omega⟩
    go_upto_region 7 with (refine load1 hS rfl rfl rfl rfl ?_;simp only [putW])
    go_cut [] from 35 to 47 (fun wc => Sat w0 ((d,DevG cv (D.put k B))::K) wc)
    case first =>
      (refine wp_region_held (S := fun w' => Sat w0 (K) w') (by kernel_rfl) ?_;replace hS := hS.drew;(refine takeIf (i := 0) rfl (by kernel_rfl) (fun _ _ _ h => h) (yMove rfl rfl rfl) hS.conv ?_;simp only [evW,putW]);(refine takeIf (i := 1) rfl (by kernel_rfl) (fun _ _ _ h => h) (yMove rfl rfl rfl) hS.conv ?_;simp only [evW,putW]);(apply takeIf (i := 2) rfl (by kernel_rfl) (fun _ _ _ h => h);(focus (apply yRun rfl;intro w;first | (go_simp;done) | (go_simp;rfl)));(focus (exact hS.conv));simp only [putW]);(apply takeIf (i := 3) rfl (by kernel_rfl) (fun _ _ _ h => h);(focus (apply yRun rfl;intro w;first | (go_simp;done) | (go_simp;rfl)));(focus (exact hS.conv));simp only [putW]);(refine takeIf (i := 5) rfl (by kernel_rfl) (fun _ _ _ h => h) (yMove rfl rfl rfl) hS.conv ?_;simp only [evW,putW]);(refine takeIf (i := 6) rfl (by kernel_rfl) (fun _ _ _ h => h) (yMove rfl rfl rfl) hS.conv ?_;simp only [evW,putW]);refine wpAnyH_all (rs := [4,7]) (by kernel_rfl) (by simp) ?_;intro i hi;simp only [List.mem_cons,List.not_mem_nil,or_false] at hi;rcases hi with rfl | rfl;(focus (refine wpOp_of_list rfl ?_;go_wp2_with (refine load1 hS rfl rfl rfl rfl ?_;simp only [putW]);refine ⟨rfl,hS.conv,?_⟩;refine wpAnyH_all (rs := [7]) (by kernel_rfl) (by simp) ?_;intro i hi;simp only [List.mem_cons,List.not_mem_nil,or_false] at hi;subst hi;refine wpOp_of_list rfl ?_;go_wp2_with ((go_at_call 64;refine Calls.mono (clone_any (HR.out _ hS.conv) HCl.out) ?_;rintro _ w2 ⟨vc,rfl,h2⟩;replace hS := hS.frame h2;clear h2;(try simp only [List.cons_append,List.nil_append] at hS);simp only [putW]);obtain ⟨qc,cc,hvc⟩ := shapeN hS HL.out.2;subst hvc);refine ⟨rfl,hS.conv,?_⟩;(apply takeIf (i := 8) rfl (by kernel_rfl) (fun _ _ _ h => h);(focus (apply yRun rfl;intro w;first | (go_simp;done) | (go_simp;rfl)));(focus (exact hS.conv));simp only [putW]);refine wpAnyH_all (rs := [9]) (by kernel_rfl) (by simp) ?_;intro i hi;simp only [List.mem_cons,List.not_mem_nil,or_false] at hi;subst hi;refine wpOp_of_list rfl ?_;go_wp2_with (refine buildSlice1 (c := #[.int .i64 (k : Nat),.slice qc 256 cc]) hS rfl rfl rfl ?_ ?_ ?_ ?_;rfl;rfl;rfl;clear hS;intro mb w hS;simp only [putW]);refine ⟨rfl,hS.conv,?_⟩;refine wpAnyH_all (rs := [10]) (by kernel_rfl) (by simp) ?_;intro i hi;simp only [List.mem_cons,List.not_mem_nil,or_false] at hi;subst hi;refine wpOp_of_list rfl ?_;go_wp2_with (refine append1 (n := 2) (f := wrF) hS rfl rfl vR rfl rfl ((.slice qc 256 cc),k,B) rfl (by simp [wrF,Value.oneCell']) rfl HM.out.1 HM.out.2 ?_;clear hS;intro v' w hS;obtain ⟨gw,cw,hv',hS3⟩ := hS.slSome (by simp);clear hS;subst hv';have hS := hS3;clear hS3;simp only [putW]);refine ⟨rfl,hS.conv,?_⟩;(apply takeIf (i := 11) rfl (by kernel_rfl) (fun _ _ _ h => h);(focus (apply yRun rfl;intro w;first | (go_simp;done) | (go_simp;rfl)));(focus (exact hS.conv));simp only [putW]);(apply takeIf (i := 12) rfl (by kernel_rfl) (fun _ _ _ h => h);(focus (apply yRun rfl;intro w;first | (go_simp;done) | (go_simp;rfl)));(focus (exact hS.conv));simp only [putW]);refine wpAnyH_all (rs := [13]) (by kernel_rfl) (by simp) ?_;intro i hi;simp only [List.mem_cons,List.not_mem_nil,or_false] at hi;subst hi;refine wpOp_of_list rfl ?_;go_wp2_with (refine store1 hS rfl rfl rfl rfl rfl ?_ ?_;(focus (simp;done));clear hS;intro w hS;simp only [evW,putW] at hS;try simp only [putW]);refine ⟨rfl,hS.conv,?_⟩;refine wpAnyH_done (by kernel_rfl) ?_ _;go_wp2_with (refine load1 hS rfl rfl rfl rfl ?_;simp only [putW]);go_meet;(case rel => exact closeDv (X := X ++ [(.slice qc 256 cc,k,B)]) (st := D.st) (wt := D.wt ++ [(k,B)]) (off := D.off) (armed := D.armed) (count := D.count) (wr := D.wr ++ [(k,B)]) (vS := vS) (vW := vW) (vR := .slice (some ⟨gw,0,none⟩) (X ++ [((.slice qc 256 cc,k,B) : WrV)]).length cw) ⟨by rw [List.map_append,HX.out.1];rfl,hok.out⟩ (hfin hS))));(focus (refine wpOp_of_list rfl ?_;go_wp2_with ((go_at_call 64;refine Calls.mono (clone_any (HR.out _ hS.conv) HCl.out) ?_;rintro _ w2 ⟨vc,rfl,h2⟩;replace hS := hS.frame h2;clear h2;(try simp only [List.cons_append,List.nil_append] at hS);simp only [putW]);obtain ⟨qc,cc,hvc⟩ := shapeN hS HL.out.2;subst hvc);refine ⟨rfl,hS.conv,?_⟩;(apply takeIf (i := 8) rfl (by kernel_rfl) (fun _ _ _ h => h);(focus (apply yRun rfl;intro w;first | (go_simp;done) | (go_simp;rfl)));(focus (exact hS.conv));simp only [putW]);refine wpAnyH_all (rs := [4,9]) (by kernel_rfl) (by simp) ?_;intro i hi;simp only [List.mem_cons,List.not_mem_nil,or_false] at hi;rcases hi with rfl | rfl;(focus (refine wpOp_of_list rfl ?_;go_wp2_with (refine load1 hS rfl rfl rfl rfl ?_;simp only [putW]);refine ⟨rfl,hS.conv,?_⟩;refine wpAnyH_all (rs := [9]) (by kernel_rfl) (by simp) ?_;intro i hi;simp only [List.mem_cons,List.not_mem_nil,or_false] at hi;subst hi;refine wpOp_of_list rfl ?_;go_wp2_with (refine buildSlice1 (c := #[.int .i64 (k : Nat),.slice qc 256 cc]) hS rfl rfl rfl ?_ ?_ ?_ ?_;rfl;rfl;rfl;clear hS;intro mb w hS;simp only [putW]);refine ⟨rfl,hS.conv,?_⟩;refine wpAnyH_all (rs := [10]) (by kernel_rfl) (by simp) ?_;intro i hi;simp only [List.mem_cons,List.not_mem_nil,or_false] at hi;subst hi;refine wpOp_of_list rfl ?_;go_wp2_with (refine append1 (n := 2) (f := wrF) hS rfl rfl vR rfl rfl ((.slice qc 256 cc),k,B) rfl (by simp [wrF,Value.oneCell']) rfl HM.out.1 HM.out.2 ?_;clear hS;intro v' w hS;obtain ⟨gw,cw,hv',hS3⟩ := hS.slSome (by simp);clear hS;subst hv';have hS := hS3;clear hS3;simp only [putW]);refine ⟨rfl,hS.conv,?_⟩;(apply takeIf (i := 11) rfl (by kernel_rfl) (fun _ _ _ h => h);(focus (apply yRun rfl;intro w;first | (go_simp;done) | (go_simp;rfl)));(focus (exact hS.conv));simp only [putW]);(apply takeIf (i := 12) rfl (by kernel_rfl) (fun _ _ _ h => h);(focus (apply yRun rfl;intro w;first | (go_simp;done) | (go_simp;rfl)));(focus (exact hS.conv));simp only [putW]);refine wpAnyH_all (rs := [13]) (by kernel_rfl) (by simp) ?_;intro i hi;simp only [List.mem_cons,List.not_mem_nil,or_false] at hi;subst hi;refine wpOp_of_list rfl ?_;go_wp2_with (refine store1 hS rfl rfl rfl rfl rfl ?_ ?_;(focus (simp;done));clear hS;intro w hS;simp only [evW,putW] at hS;try simp only [putW]);refine ⟨rfl,hS.conv,?_⟩;refine wpAnyH_done (by kernel_rfl) ?_ _;go_wp2_with (refine load1 hS rfl rfl rfl rfl ?_;simp only [putW]);go_meet;(case rel => exact closeDv (X := X ++ [(.slice qc 256 cc,k,B)]) (st := D.st) (wt := D.wt ++ [(k,B)]) (off := D.off) (armed := D.armed) (count := D.count) (wr := D.wr ++ [(k,B)]) (vS := vS) (vW := vW) (vR := .slice (some ⟨gw,0,none⟩) (X ++ [((.slice qc 256 cc,k,B) : WrV)]).length cw) ⟨by rw [List.map_append,HX.out.1];rfl,hok.out⟩ (hfin hS))));(focus (refine wpOp_of_list rfl ?_;go_wp2_with (refine buildSlice1 (c := #[.int .i64 (k : Nat),.slice qc 256 cc]) hS rfl rfl rfl ?_ ?_ ?_ ?_;rfl;rfl;rfl;clear hS;intro mb w hS;simp only [putW]);refine ⟨rfl,hS.conv,?_⟩;refine wpAnyH_all (rs := [4]) (by kernel_rfl) (by simp) ?_;intro i hi;simp only [List.mem_cons,List.not_mem_nil,or_false] at hi;subst hi;refine wpOp_of_list rfl ?_;go_wp2_with (refine load1 hS rfl rfl rfl rfl ?_;simp only [putW]);refine ⟨rfl,hS.conv,?_⟩;refine wpAnyH_all (rs := [10]) (by kernel_rfl) (by simp) ?_;intro i hi;simp only [List.mem_cons,List.not_mem_nil,or_false] at hi;subst hi;refine wpOp_of_list rfl ?_;go_wp2_with (refine append1 (n := 2) (f := wrF) hS rfl rfl vR rfl rfl ((.slice qc 256 cc),k,B) rfl (by simp [wrF,Value.oneCell']) rfl HM.out.1 HM.out.2 ?_;clear hS;intro v' w hS;obtain ⟨gw,cw,hv',hS3⟩ := hS.slSome (by simp);clear hS;subst hv';have hS := hS3;clear hS3;simp only [putW]);refine ⟨rfl,hS.conv,?_⟩;(apply takeIf (i := 11) rfl (by kernel_rfl) (fun _ _ _ h => h);(focus (apply yRun rfl;intro w;first | (go_simp;done) | (go_simp;rfl)));(focus (exact hS.conv));simp only [putW]);(apply takeIf (i := 12) rfl (by kernel_rfl) (fun _ _ _ h => h);(focus (apply yRun rfl;intro w;first | (go_simp;done) | (go_simp;rfl)));(focus (exact hS.conv));simp only [putW]);refine wpAnyH_all (rs := [13]) (by kernel_rfl) (by simp) ?_;intro i hi;simp only [List.mem_cons,List.not_mem_nil,or_false] at hi;subst hi;refine wpOp_of_list rfl ?_;go_wp2_with (refine store1 hS rfl rfl rfl rfl rfl ?_ ?_;(focus (simp;done));clear hS;intro w hS;simp only [evW,putW] at hS;try simp only [putW]);refine ⟨rfl,hS.conv,?_⟩;refine wpAnyH_done (by kernel_rfl) ?_ _;go_wp2_with (refine load1 hS rfl rfl rfl rfl ?_;simp only [putW]);go_meet;(case rel => exact closeDv (X := X ++ [(.slice qc 256 cc,k,B)]) (st := D.st) (wt := D.wt ++ [(k,B)]) (off := D.off) (armed := D.armed) (count := D.count) (wr := D.wr ++ [(k,B)]) (vS := vS) (vW := vW) (vR := .slice (some ⟨gw,0,none⟩) (X ++ [((.slice qc 256 cc,k,B) : WrV)]).length cw) ⟨by rw [List.map_append,HX.out.1];rfl,hok.out⟩ (hfin hS)))))))
    case rest =>
      clear hS HX hfin hok hl
      have hS := hcut
      clear hcut
      have hsz : Bx (D.put k B).Sz := ⟨⟨by simp [Dev.put];have := hz2.out.1;omega,by simp [Dev.put];have := hz2.out.2;omega,hz.count,hz.armed⟩⟩
      go_wp2_with (guard_target =~ Calls _ 65 _ _ _;refine Stopped.out ?_)
      refine ⟨?_⟩
      refine Calls.mono (devSpend_any hsz.out hS) ?_
      rw [HRo.out]
      clear hS
      rintro _ w ⟨rfl,hS⟩
      simp only [putW]
      cases r with
      | true =>
        go_wp2_with (refine load1 hS rfl rfl rfl rfl ?_;simp only [putW])
        go_ret
        exact ⟨rfl,hS⟩
      | false =>
        go_wp2_with (refine load1 hS rfl rfl rfl rfl ?_;simp only [putW])
        go_ret
        exact ⟨rfl,hS⟩
end
end Go.Proofs.YtdkimdobcacpfaaDoor
namespace Go.Proofs.YtdkimdobcacpfaaDoor
open Go.RowKit Go.Proofs.YtdkimdobcacpfaaDoor.Sl Go.Proofs.YtdkimdobcacpfaaDoor.Sha Go.Proofs.YtdkimdobcacpfaaDoor.Jp Go.Proofs.YtdkimdobcacpfaaDoor.Tr Go.Proofs.YtdkimdobcacpfaaDoor.Dv

section
variable {w0 w : World} {K F S : List Chunk} {d : Nat} {D : Dev} {cv vb : Value} {at' : Int} {B : Row}
theorem lay_take {l : List (Nat × Row)} {st : List Row} {k a : Nat} {b : Row} (h : l[k]? = some (a,b)) : lay st (l.take (k + 1)) = (lay st (l.take k)).set a b := by
  rw [List.take_add_one,h]
  exact lay_append _ _ _ _
theorem wtF_len {x : Nat × Row} (h : isRow x.2) : (wtF x).length = 257 := by simp [wtF,h.1]
set_option maxRecDepth 100000 in
set_option maxHeartbeats 4000000 in
theorem devFlush_no (hr : D.ready 0 ≠ 0) (hS : Sat w0 ((d,DevG cv D)::K) w) : Calls Tryd.prog 39 #[.pointer (some ⟨d,0,none⟩)] w fun e w' => e = .returned (.int .i64 (D.ready 0)) ∧ Sat w0 ((d,DevG cv D)::K) w' := by
  obtain ⟨r,hr2⟩ : ∃ r,D.ready 0 = r := ⟨_,rfl⟩
  rw [hr2] at hr ⊢
  have HZ : Bx _ := ⟨hr2⟩
  have d1 : decide (r = 0) = false := decide_eq_false hr
  clear hr2
  go_enter Tryd.func39,Tryd.ntmps39
  go_wp2_with (go_at_call 50;refine Calls.mono (devReady_any hS) ?_;rw [HZ.out];clear hS;rintro _ w ⟨rfl,hS⟩;simp only [putW])
  go_ret
  exact ⟨rfl,hS⟩
set_option maxRecDepth 100000 in
set_option maxHeartbeats 8000000 in
theorem devFlush_ok (hr : D.ready 0 = 0) (hz : D.Sz) (hS : Sat w0 ((d,DevG cv D)::K) w) : Calls Tryd.prog 39 #[.pointer (some ⟨d,0,none⟩)] w fun e w' => e = .returned (.int .i64 (if D.spend.off then 7 else 0)) ∧ Sat w0 ((d,DevG cv (if D.spend.off then D.spend else D.spend.stored))::K) w' := by
  have HZ : Bx _ := ⟨hr⟩
  obtain ⟨E,hE⟩ : ∃ E,D.spend = E := ⟨_,rfl⟩
  have HE : Bx _ := ⟨hE⟩
  rw [hE]
  obtain ⟨o,ho⟩ : ∃ o,E.off = o := ⟨_,rfl⟩
  have HO : Bx _ := ⟨ho⟩
  rw [ho]
  clear hE ho hr
  go_enter Tryd.func39,Tryd.ntmps39
  go_wp2_with (guard_target =~ Calls _ 50 _ _ _;refine Stopped.out ?_)
  refine ⟨?_⟩
  refine Calls.mono (devReady_any hS) ?_
  rw [HZ.out]
  clear hS
  rintro _ w ⟨rfl,hS⟩
  simp only [putW]
  go_wp2_with (guard_target =~ Calls _ 65 _ _ _;refine Stopped.out ?_)
  refine ⟨?_⟩
  refine Calls.mono (devSpend_any hz hS) ?_
  rw [HE.out,HO.out]
  clear hS
  rintro _ w ⟨rfl,hS⟩
  simp only [putW]
  cases o with
  | true =>
    go_wp2_with (refine load1 hS rfl rfl rfl rfl ?_;simp only [putW])
    go_ret
    exact ⟨rfl,hS⟩
  | false =>
    obtain ⟨X,vS,vW,vR,hX,hS2⟩ := openDev hS
    clear hS
    obtain ⟨n,hn⟩ : ∃ n,E.wt.length = n := ⟨_,rfl⟩
    obtain ⟨m,hm⟩ : ∃ m,E.st.length = m := ⟨_,rfl⟩
    obtain ⟨q,c,hv⟩ := shapeN (hS2.pull (blk vW) (X := sl 257 wtF E.wt 111 vW)) hn
    subst hv
    obtain ⟨q2,c2,hv⟩ := shapeN (hS2.pull (blk vS) (X := sl 256 rowA E.st 109 vS)) hm
    subst hv
    have hn6 : n ≤ 1000000 := by rw [← hn,← HE.out];exact hz.wt
    have h1m : 1 ≤ m := by rw [← hm];exact hX.2.n1
    have hS := hS2
    clear hS2
    have HX : Bx _ := ⟨hX⟩
    have HN : Bx _ := ⟨hn⟩
    have HM : Bx _ := ⟨hm⟩
    clear hX hn hm
    go_wp2_with (refine load1 hS rfl rfl rfl rfl ?_;simp only [putW])
    go_loopg [19] n (fun g i wr => ∃ k : Nat,k + g = n ∧ i = .int .i64 k ∧ Sat w0 ((d,cells (devA E cv (Value.slice q2 m c2) (Value.slice q n c) vR) 102)::(blk (Value.slice q2 m c2),sl 256 rowA (lay E.st (E.wt.take k)) 109 (Value.slice q2 m c2))::(blk (Value.slice q n c),sl 257 wtF E.wt 111 (Value.slice q n c))::(blk vR,sl 2 wrF X 137 vR)::(0,inn (wrRows X) 5)::K) wr)
    case atStart => exact ⟨0,by omega,rfl,hS⟩
    case round =>
      clear hS
      obtain ⟨k,hkg,rfl,hS⟩ := hrel
      cases gk with
      | zero =>
        have hkn : k = n := by omega
        subst hkn
        have HT : Bx (E.wt.take k = E.wt) := ⟨by rw [← HN.out,List.take_length]⟩
        rw [HT.out] at hS
        go_wp2_with (refine store1 hS rfl rfl rfl rfl rfl ?_ ?_;(focus (simp;done));clear hS;intro w hS;simp only [evW,putW] at hS;try simp only [putW])
        go_ret
        refine ⟨rfl,closeDv (X := X) (st := lay E.st E.wt) (wt := []) (off := E.off) (armed := E.armed) (count := E.count) (wr := E.wr) (vS := .slice q2 m c2) (vW := .slice none 0 0) (vR := vR) ⟨HX.out.1,HX.out.2.stored⟩ ?_⟩
        have h8 : Sat w0 ((d,cells #[Value.slice q2 m c2,.slice none 0 0,.bool E.off,.int .i64 (E.armed : Nat),.int .i64 (E.count : Nat),cv,vR] 102)::(blk (Value.slice q2 m c2),sl 256 rowA (lay E.st E.wt) 109 (Value.slice q2 m c2))::(0,sl 257 wtF [] 111 (.slice none 0 0))::(blk vR,sl 2 wrF X 137 vR)::(0,inn (wrRows X) 5)::K) w := (hS.slNil 257 wtF 111).conv
        exact h8
      | succ g =>
        have hkn : k < n := by omega
        obtain ⟨⟨a,b⟩,hb⟩ : ∃ b,E.wt[k]? = some b := ⟨_,List.getElem?_eq_getElem (by rw [HN.out];omega)⟩
        have hrow := HX.out.2.wt (a,b) (List.mem_of_getElem? hb)
        have hll : (lay E.st (E.wt.take k)).length = m := by rw [lay_length];exact HM.out
        have HLL : Bx _ := ⟨hll⟩
        have ham : a < m := by rw [← HM.out];exact hrow.1
        have HB : Bx _ := ⟨hb⟩
        have HR : Bx (isRow b) := ⟨hrow.2⟩
        have HV : Bx (((wtF (a,b)).drop 0).take 257 = wtF (a,b)) := ⟨by rw [List.drop_zero,List.take_of_length_le (by rw [wtF_len hrow.2];exact Nat.le_refl _)]⟩
        have HC : Bx ((wtF (a,b)).toArray.size = 257) := ⟨by simp [wtF_len hrow.2]⟩
        have HC0 : Bx ((wtF (0,z256)).toArray.size = 257) := ⟨by simp [wtF_len (x := (0,z256)) isRow_z]⟩
        have HC1 : Bx (∀ u ∈ (wtF (a,b)).toArray.toList,u.oneCell' = true) := ⟨by
          intro u hu
          rcases List.mem_cons.1 hu with h | h
          · rw [h];rfl
          · obtain ⟨y,_,rfl⟩ := List.mem_map.1 h
            rfl⟩
        have HCa : Bx (CellIs (wtF (a,b)).toArray 0 (.int .i64 a)) := ⟨⟨by simp [wtF]⟩⟩
        have HPa : Bx (PartIs (wtF (a,b)).toArray 1 256 (rowA b)) := ⟨⟨rowA_len hrow.2,by
          show (rowA b).take 256 = rowA b
          rw [List.take_of_length_le (by rw [rowA_len hrow.2];exact Nat.le_refl _)]⟩⟩
        have HRc : Bx (∀ u ∈ rowA b,u.oneCell' = true) := ⟨fun u hu => by obtain ⟨y,_,rfl⟩ := List.mem_map.1 hu;rfl⟩
        clear hb hrow hll
        obtain ⟨gw,hqq,hcq,hS2⟩ := openS (hS.pull (blk (Value.slice q n c)) (X := sl 257 wtF E.wt 111 (Value.slice q n c))) HN.out (by omega)
        subst hqq
        clear hS
        obtain ⟨gs,hqq,hcs,hS⟩ := openS (hS2.pull (blk (Value.slice q2 m c2)) (X := sl 256 rowA (lay E.st (E.wt.take k)) 109 (Value.slice q2 m c2))) HLL.out (by omega)
        subst hqq
        clear hS2
        have hfin : ∀ {mw : Nat} {w4 : World},Sat w0 ((gs,slc 256 rowA ((lay E.st (E.wt.take k)).set a b) c2 109)::(mw,cells (wtF (a,b)).toArray 111)::(gw,slc 257 wtF E.wt c 111)::(d,cells (devA E cv (Value.slice (some ⟨gs,0,none⟩) m c2) (Value.slice (some ⟨gw,0,none⟩) n c) vR) 102)::(blk vR,sl 2 wrF X 137 vR)::(0,inn (wrRows X) 5)::K) w4 →
            Sat w0 ((d,cells (devA E cv (Value.slice (some ⟨gs,0,none⟩) m c2) (Value.slice (some ⟨gw,0,none⟩) n c) vR) 102)::(blk (Value.slice (some ⟨gs,0,none⟩) m c2),sl 256 rowA (lay E.st (E.wt.take (k + 1))) 109 (Value.slice (some ⟨gs,0,none⟩) m c2))::(blk (Value.slice (some ⟨gw,0,none⟩) n c),sl 257 wtF E.wt 111 (Value.slice (some ⟨gw,0,none⟩) n c))::(blk vR,sl 2 wrF X 137 vR)::(0,inn (wrRows X) 5)::K) w4 := fun {mw w4} h => by
          rw [lay_take HB.out]
          have h1 := closeSlN (m := m) h (by rw [List.length_set];exact HLL.out)
          have h2 := closeSlN (m := n) (h1.pull gw (X := slc 257 wtF E.wt c 111)) HN.out
          exact h2.conv
        go_upto_region 9 with (first | (refine loadSN (f := wtF) (vs := wtF (a,b)) hS rfl rfl rfl k 0 ?_ HB.out ?_ HV.out ?_;omega;omega;simp only [putW]) | (refine allocS (t := 111) hS rfl rfl (wtF (0,z256)).toArray (by kernel_rfl) ?_;clear hS;intro mw w hS;simp only [putW]) | (refine storeAll (cs := (wtF (a,b)).toArray) hS rfl rfl rfl rfl HC.out HC1.out HC0.out ?_;clear hS;intro w hS;try simp only [putW]))
        (refine wp_region_held (S := fun w' => Sat w0 ((mw,cells (wtF (a,b)).toArray 111)::(d,cells (devA E cv (Value.slice (some ⟨gs,0,none⟩) m c2) (Value.slice (some ⟨gw,0,none⟩) n c) vR) 102)::(gw,slc 257 wtF E.wt c 111)::(blk vR,sl 2 wrF X 137 vR)::(0,inn (wrRows X) 5)::K) w') (by kernel_rfl) ?_;replace hS := hS.drew;(refine takeIf (i := 0) rfl (by kernel_rfl) (fun _ _ _ h => h) (yMove rfl rfl rfl) hS.conv ?_;simp only [evW,putW]);(apply takeIf (i := 1) rfl (by kernel_rfl) (fun _ _ _ h => h);(focus (apply yRun rfl;intro w;first | (go_simp;done) | (go_simp;rfl)));(focus (exact hS.conv));simp only [putW]);(apply takeIf (i := 2) rfl (by kernel_rfl) (fun _ _ _ h => h);(focus (apply yRun rfl;intro w;first | (go_simp;done) | (go_simp;rfl)));(focus (exact hS.conv));simp only [putW]);(refine takeIf (i := 3) rfl (by kernel_rfl) (fun _ _ _ h => h) (yLoad1 (fun _ h => h) rfl rfl rfl rfl) hS.conv ?_;simp only [putW]);(apply takeIf (i := 4) rfl (by kernel_rfl) (fun _ _ _ h => h);(focus (apply yRun rfl;intro w;first | (go_simp;done) | (go_simp;rfl)));(focus (exact hS.conv));simp only [putW]);(refine takeIf (i := 5) rfl (by kernel_rfl) (fun _ _ _ h => h) (yLoadC (b := mw) (fun _ h => h) rfl rfl rfl HCa.out) hS.conv ?_;simp only [putW]);(apply takeIf (i := 6) rfl (by kernel_rfl) (fun _ _ _ h => h);(focus (apply yRun rfl;intro w;first | (go_simp;done) | (go_simp;rfl)));(focus (exact hS.conv));simp only [putW]);(refine takeIf (i := 7) rfl (by kernel_rfl) (fun _ _ _ h => h) (yLoadP (b := mw) (fun _ h => h) rfl rfl rfl HPa.out) hS.conv ?_;simp only [putW]);(apply takeIf (i := 8) rfl (by kernel_rfl) (fun _ _ _ h => h);(focus (apply yRun rfl;intro w;first | (go_simp;done) | (go_simp;rfl)));(focus (exact hS.conv));simp only [putW]);refine wpAnyH_all (rs := [9]) (by kernel_rfl) (by simp) ?_;intro i hi;simp only [List.mem_cons,List.not_mem_nil,or_false] at hi;subst hi;refine wpOp_of_list rfl ?_;go_wp2_with (refine storeS (f := rowA) hS rfl rfl rfl a ?_ b rfl rfl HRc.out (rowA_len HR.out) ?_ ?_;omega;(focus (rw [HLL.out];exact ham));clear hS;intro w hS;try simp only [putW]);refine ⟨rfl,hS.conv,?_⟩;refine wpAnyH_done (by kernel_rfl) ?_ _;go_wp2_with (refine load1 hS rfl rfl rfl rfl ?_;simp only [putW]);go_roundg g;(case measure => omega);(case rel => exact ⟨k + 1,by omega,by go_num,hfin hS⟩))
end
end Go.Proofs.YtdkimdobcacpfaaDoor
namespace Go.Proofs.YtdkimdobcacpfaaDoor.Dv
open Go.Proofs.YtdkimdobcacpfaaDoor.Sl Go.Proofs.YtdkimdobcacpfaaDoor.Tr
/-- Blocks written one behind the other, till one is refused. -/
def wrAll : Dev → Nat → List Row → Dev × Int
  | D,_,[] => (D,0)
  | D,k,r::l => if (D.write k r).2 = 0 then wrAll (D.write k r).1 (k + 1) l else D.write k r
end Go.Proofs.YtdkimdobcacpfaaDoor.Dv
namespace Go.Proofs.YtdkimdobcacpfaaDoor
open Go.RowKit Go.Proofs.YtdkimdobcacpfaaDoor.Sl Go.Proofs.YtdkimdobcacpfaaDoor.Sha Go.Proofs.YtdkimdobcacpfaaDoor.Jp Go.Proofs.YtdkimdobcacpfaaDoor.Tr Go.Proofs.YtdkimdobcacpfaaDoor.Dv

section
variable {w0 w : World} {K F S : List Chunk} {d : Nat} {D : Dev} {cv vb : Value} {at' : Int} {B : Row}
theorem ready0 {at' : Int} (h : D.ready at' = 0) : D.off = false ∧ 0 ≤ at' ∧ at' < D.st.length := by
  unfold Dev.ready at h
  split at h
  · cases h
  · rename_i ho
    split at h
    · cases h
    · exact ⟨by simpa using ho,by omega,by omega⟩
theorem devWrite_any (hb : ∀ x ∈ B,okByte x) (hz : D.Sz) (hz3 : D.wt.length + 1 ≤ 1000000 ∧ D.wr.length + 1 ≤ 1000000) (hR : ∀ w',Sat w0 K w' → RB w' B vb) (hS : Sat w0 ((d,DevG cv D)::K) w) : Calls Tryd.prog 38 #[.pointer (some ⟨d,0,none⟩),.int .i64 at',vb] w fun e w' => e = .returned (.int .i64 (D.write at' B).2) ∧ Sat w0 ((d,DevG cv (D.write at' B).1)::K) w' := by
  unfold Dev.write
  by_cases hr : D.ready at' = 0
  · rw [if_neg (by simpa using hr)]
    by_cases hl : B.length = 256
    · rw [if_neg (by simpa using hl)]
      obtain ⟨ho,h0,h1⟩ := ready0 hr
      obtain ⟨k,hk⟩ : ∃ k : Nat,at' = k := ⟨at'.toNat,by omega⟩
      subst hk
      have h2 := devWrite_ok (k := k) ho (by omega) ⟨hl,hb⟩ hz hz3 hR hS
      simpa using h2
    · rw [if_pos hl]
      exact devWrite_len hr hl hR hS
  · rw [if_pos hr]
    exact devWrite_no hr hR hS
theorem devFlush_any (hz : D.Sz) (hS : Sat w0 ((d,DevG cv D)::K) w) : Calls Tryd.prog 39 #[.pointer (some ⟨d,0,none⟩)] w fun e w' => e = .returned (.int .i64 D.flush.2) ∧ Sat w0 ((d,DevG cv D.flush.1)::K) w' := by
  have hn := (devOk hS).n1
  unfold Dev.flush
  cases ho : D.off with
  | true =>
    have hr : D.ready 0 = 7 := by unfold Dev.ready;rw [if_pos ho]
    have h2 := devFlush_no (by rw [hr];omega) hS
    rw [hr] at h2
    simpa using h2
  | false =>
    have hr : D.ready 0 = 0 := by unfold Dev.ready;rw [if_neg (by simp [ho]),if_neg (by omega)]
    have h2 := devFlush_ok hr hz hS
    refine h2.mono fun e w' h => ?_
    cases hp : D.spend.off
    · rw [hp] at h
      simpa using h
    · rw [hp] at h
      simpa using h
end
theorem write_st {D : Dev} {k : Int} {r : Row} : (D.write k r).1.st = D.st := by
  unfold Dev.write
  split
  · rfl
  · split <;> rfl
theorem write_sz {D : Dev} {k : Int} {r : Row} {n : Nat} (h : D.wt.length ≤ n ∧ D.wr.length ≤ n ∧ D.count ≤ n ∧ D.armed ≤ 9223372036854775807) : (D.write k r).1.wt.length ≤ n + 1 ∧ (D.write k r).1.wr.length ≤ n + 1 ∧ (D.write k r).1.count ≤ n + 1 ∧ (D.write k r).1.armed ≤ 9223372036854775807 := by
  unfold Dev.write
  split
  · show D.wt.length ≤ n + 1 ∧ D.wr.length ≤ n + 1 ∧ D.count ≤ n + 1 ∧ _
    exact ⟨by omega,by omega,by omega,h.2.2.2⟩
  · split
    · show D.wt.length ≤ n + 1 ∧ D.wr.length ≤ n + 1 ∧ D.count ≤ n + 1 ∧ _
      exact ⟨by omega,by omega,by omega,h.2.2.2⟩
    · simp only [Dev.spend,Dev.put,List.length_append,List.length_cons,List.length_nil]
      exact ⟨by omega,by omega,by omega,by omega⟩
end Go.Proofs.YtdkimdobcacpfaaDoor
