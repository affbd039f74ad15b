/-
  base.Format.
  thimblelaw22.begun, with thimbleref10.New.
  The law's example in plain words: one page, a budget of three, ten blocks.
  The law's example: awake of package thimblelaw22.
-/
import Derived.Test.YtdkimdobcacpfaaDoorBsA
import Derived.Test.YtdkimdobcacpfaaDoorDvA
import Derived.Test.YtdkimdobcacpfaaDoorTrBu
set_option linter.unusedSimpArgs false
set_option linter.unusedVariables false
namespace Go.Proofs.YtdkimdobcacpfaaDoor
open Go.RowKit Go.Proofs.YtdkimdobcacpfaaDoor.Sl Go.Proofs.YtdkimdobcacpfaaDoor.Sha Go.Proofs.YtdkimdobcacpfaaDoor.Jp Go.Proofs.YtdkimdobcacpfaaDoor.Tr Go.Proofs.YtdkimdobcacpfaaDoor.Dv

/-- How a pool is laid out. -/
structure Cf where
  pages : Int
  budget : Int
  frames : Int
  sessions : Int
  wide : Bool
  boot : Int
  seq : Int
abbrev cfV (c : Cf) : Array Value := #[.int .i64 c.pages,.int .i64 c.budget,.int .i64 c.frames,.int .i64 c.sessions,.bool c.wide,.int .u32 c.boot,.int .u64 c.seq]
/-- The blocks of a new tree, from the counters on. -/
def newBs (P : Nat) : List Row := List.replicate (plC P) z256
def newNd (P : Nat) : List Row := (stB dig P (newBs P) (plM P)).2.2
def newRoot (P : Nat) : List Int := dig (stB dig P (newBs P) (plM P)).1 ((stB dig P (newBs P) (plM P)).2.1.getD 0 [])
/-- What is noted as it is built. -/
def newL (P : Nat) : List (List Int × List Int) := stN dig pre P (newBs P) (plM P) ++ [(pre (stB dig P (newBs P) (plM P)).1 ((stB dig P (newBs P) (plM P)).2.1.getD 0 []),newRoot P)]
def newSt (c : Cf) : Rg := ⟨c.pages,c.budget,c.wide,c.boot,0,1,c.pages,false,newRoot c.pages.toNat,zero32⟩
theorem newSt_wf {c : Cf} (h : 1 ≤ c.pages ∧ c.pages ≤ 4096) (hb : 1 ≤ c.budget ∧ c.budget ≤ 256) (hbt : 0 ≤ c.boot ∧ c.boot < 4294967296) : (newSt c).Wf :=
  ⟨by show -9223372036854775808 ≤ c.pages ∧ c.pages < _;omega,by show -9223372036854775808 ≤ c.budget ∧ c.budget < _;omega,hbt,by show (0 : Int) ≤ 0 ∧ (0 : Int) < _;omega,by show (0 : Int) ≤ 1 ∧ (1 : Int) < _;omega,by show -9223372036854775808 ≤ c.pages ∧ c.pages < _;omega,⟨dig_len' _ _,dig_okB _ _⟩,isDig_zero⟩
theorem flush_sz {D : Dev} (h : D.wt.length ≤ 900500 ∧ D.wr.length ≤ 900500 ∧ D.count ≤ 900500 ∧ D.armed ≤ 9223372036854775807) : D.flush.1.Sz := by
  unfold Dev.flush
  split
  · exact ⟨by show D.wt.length ≤ _;omega,by show D.wr.length ≤ _;omega,by show D.count ≤ _;omega,h.2.2.2⟩
  · split
    · exact ⟨by show D.wt.length ≤ _;omega,by show D.wr.length ≤ _;omega,by show D.count + 1 ≤ _;omega,by show D.armed - 1 ≤ _;omega⟩
    · exact ⟨by show 0 ≤ _;omega,by show D.wr.length ≤ _;omega,by show D.count + 1 ≤ _;omega,by show D.armed - 1 ≤ _;omega⟩
theorem new_out (P b : Nat) (cf cs : Int) (cw : Bool) (cbt csq : Int) : (setSegs (stSeg st0) ([(0,Value.int .i64 P),(1,Value.int .i64 b),(2,Value.bool cw),(3,Value.int .u32 cbt),(5,Value.int .u32 1),(6,Value.int .i64 P),(8,Value.agg ((newRoot P).map u8v).toArray)].map fun p => (p.1,p.2.cells.toList))).flatten = stV (newSt ⟨P,b,cf,cs,cw,cbt,csq⟩) :=
  (stSeg_flat (newSt ⟨P,b,cf,cs,cw,cbt,csq⟩))
theorem new_fit (P b : Nat) (cw : Bool) (cbt : Int) : ∀ p ∈ [(0,Value.int .i64 P),(1,Value.int .i64 b),(2,Value.bool cw),(3,Value.int .u32 cbt),(5,Value.int .u32 1),(6,Value.int .i64 P),(8,Value.agg ((newRoot P).map u8v).toArray)],(lens (stSeg st0))[p.1]? = some p.2.cells.size := by
  intro p hp
  simp only [List.mem_cons,List.not_mem_nil,or_false] at hp
  rcases hp with rfl | rfl | rfl | rfl | rfl | rfl | rfl
  any_goals rfl
/-- What is so behind a Format that came to write. -/
def FmtPost (w0 : World) (K : List Chunk) (lg : Value) (Ps : List (List Int × List Int)) (cv : Value) (d r : Nat) (c : Cf) (W : Dev × Int) (e : Ending) (w' : World) : Prop :=
  (W.2 ≠ 0 ∧ e = .returned (.int .i64 W.2) ∧ Sat w0 ((1,LogV lg (Ps ++ newL c.pages.toNat))::(r,RegC d st0)::(d,DevG cv W.1)::K) w') ∨
  (W.2 = 0 ∧ W.1.flush.2 ≠ 0 ∧ e = .returned (.int .i64 W.1.flush.2) ∧ Sat w0 ((1,LogV lg (Ps ++ newL c.pages.toNat))::(r,RegC d st0)::(d,DevG cv W.1.flush.1)::K) w') ∨
  (W.2 = 0 ∧ W.1.flush.2 = 0 ∧ e = .returned (.int .i64 (regWrite W.1.flush.1 st0 (newSt c)).2.2) ∧ Sat w0 ((1,LogV lg (Ps ++ newL c.pages.toNat))::(r,RegC d (regWrite W.1.flush.1 st0 (newSt c)).2.1)::(d,DevG cv (regWrite W.1.flush.1 st0 (newSt c)).1)::K) w')
section
variable {w0 w : World} {K F S : List Chunk} {d r : Nat} {D : Dev} {cv lg : Value} {R : Rg} {Ps : List (List Int × List Int)} {c : Cf}
set_option maxRecDepth 100000 in
set_option maxHeartbeats 8000000 in
/-- A blank register, a plan that fits, the power on: all blocks are written, till one is refused. -/
theorem format_go {n0 : Nat} (hsm : D.wt.length ≤ n0 ∧ D.wr.length ≤ n0 ∧ D.count ≤ n0 ∧ D.armed ≤ 9223372036854775807) (hn0 : n0 ≤ 900000) (hfit : fits D.st.length c.pages c.budget) (hC8 : plC c.pages.toNat ≤ 8) (hoff : D.off = false) (hbt : 0 ≤ c.boot ∧ c.boot < 4294967296) (hP : Ps.length ≤ 1000) (hK : KTab w0) (hS : Sat w0 ((1,LogV lg Ps)::(r,RegC d st0)::(d,DevG cv D)::K) w) :
    Calls Tryd.prog 9 #[.pointer (some ⟨d,0,none⟩),.pointer (some ⟨r,0,none⟩),.agg (cfV c),lg] w fun e w' => FmtPost w0 K lg Ps cv d r c (wrAll D c.pages.toNat (newBs c.pages.toNat ++ newNd c.pages.toNat)) e w' := by
  obtain ⟨cp,cb,cf,cs,cw,cbt,csq⟩ := c
  have hfit' := hfit
  obtain ⟨⟨hp1,hp2,hb1,hb2⟩,hneed,htot⟩ := hfit'
  have hp1 : 1 ≤ cp := hp1
  have hp2 : cp ≤ 4096 := hp2
  have hb1 : 1 ≤ cb := hb1
  have hb2 : cb ≤ 256 := hb2
  obtain ⟨P,hPn⟩ : ∃ P : Nat,cp = P := ⟨cp.toNat,by omega⟩
  obtain ⟨b,hbn⟩ : ∃ b : Nat,cb = b := ⟨cb.toNat,by omega⟩
  subst hPn
  subst hbn
  have hneed : (plM ((P : Int).toNat) : Int) + 2 ≤ (b : Int) := hneed
  have htot : plT ((P : Int).toNat) ((b : Int).toNat) ≤ D.st.length := htot
  have hC8 : plC ((P : Int).toNat) ≤ 8 := hC8
  rw [Int.toNat_natCast] at hneed htot hC8
  rw [Int.toNat_natCast] at htot
  show Calls _ _ _ _ fun e w' => FmtPost w0 K lg Ps cv d r _ (wrAll D ((P : Int).toNat) (newBs ((P : Int).toNat) ++ newNd ((P : Int).toNat))) e w'
  rw [Int.toNat_natCast]
  obtain ⟨C,hC⟩ : ∃ C,plC P = C := ⟨_,rfl⟩
  rw [hC] at hC8
  have hC1 : 1 ≤ C := by rw [← hC];exact plC_pos (by omega)
  have HC : Bx _ := ⟨hC⟩
  clear hfit
  have hEq := eqSt st0_wf st0_wf
  have d0 : decide (st0 = st0) = true := decide_eq_true rfl
  rw [d0] at hEq
  clear d0 hC
  have HL0 : Bx ((stV st0).toArray.size = 72) := ⟨st0_len⟩
  go_enter Tryd.func9,Tryd.ntmps9
  go_wp2_with (first | (refine boxN (cs := cfV ⟨P,b,cf,cs,cw,cbt,csq⟩) hS rfl rfl rfl ?_;clear hS;intro mc w hS;simp only [putW]) | (guard_target =~ Calls _ 35 _ _ _;refine Stopped.out ?_))
  refine ⟨?_⟩
  refine Calls.mono (regRead_any st0_wf (hS.pull r (X := RegC d st0))) ?_
  clear hS
  rintro _ w ⟨rfl,hS⟩
  simp only [putW]
  go_wp2_with (first | (refine buildS (segs := stSeg st0) (out := stV st0) rfl rfl [] rfl (fun p hp => by cases hp) (stSeg_flat _) ?_;simp only [putW]) | (guard_target =~ Calls _ 36 _ _ _;refine Stopped.out ?_) | (refine load1 hS rfl rfl rfl rfl ?_;simp only [putW]))
  refine ⟨?_⟩
  refine Calls.mono (fit_any (P := P) (b := b) (by omega) (by omega) (by omega) (by omega) (hS.pull d (X := DevG cv D))) ?_
  clear hS hEq
  rintro _ w (⟨-,hno,-⟩ | ⟨lv,rfl,-,hS⟩)
  · exact absurd ⟨by omega,htot⟩ hno
  obtain ⟨ql,cl,hlv⟩ := restI hS
  subst hlv
  simp only [putW]
  have HOff : Bx _ := ⟨hoff⟩
  have HPn : Bx ((planV P b (.slice ql (nI (plLv P)).length cl)).toArray = #[.int .i64 P,.int .i64 b,.int .i64 C,.slice ql (nI (plLv P)).length cl,.int .i64 (plN P : Nat),.int .i64 (plH P : Nat),.int .i64 (plHd b : Nat),.int .i64 (plJ P b : Nat),.int .i64 ((plJ P b + b : Nat)),.int .i64 (plT P b : Nat)]) := ⟨by unfold planV;rw [HC.out]⟩
  clear hoff
  go_wp2_with (first | (refine alloc hS rfl rfl ?_;clear hS;intro m9 w hS;simp only [putW]) | (guard_target =~ Calls _ 20 _ _ _;refine Stopped.out ?_) | (refine storeAll hS rfl rfl rfl rfl ?_ ?_ ?_ ?_;rfl;(focus (simp [Value.oneCell'];done));rfl;clear hS;intro w hS;try simp only [putW]))
  refine ⟨?_⟩
  refine Calls.mono (devUp_any (hS.pull d (X := DevG cv D))) ?_
  rw [HOff.out]
  clear hS
  rintro _ w ⟨rfl,hS⟩
  simp only [putW]
  rw [HPn.out] at hS
  go_wp2_with (first | (refine makeN hS rfl rfl C rfl rfl rowF ((.slice none 0 0,[]) : Value × List Int) rfl ?_ ?_ ?_;(focus (omega));(focus (simp [maxLen];omega));clear hS;intro mb w hS;simp only [putW]) | (refine load1 hS rfl rfl rfl rfl ?_;simp only [putW]))
  obtain ⟨gc,rfl⟩ : ∃ gc,gc = mb := ⟨_,rfl⟩
  replace hS := hS.innNil 0 5
  go_loopg [12,52] C (fun g i' iv wr => ∃ (k : Nat) (X : List (Value × List Int)),k + g = C ∧ iv = .int .i64 k ∧ Bx (X.length = k ∧ ∀ x ∈ X,x.2 = z256) ∧ Sat w0 ((gc,slc 1 rowF (X ++ List.replicate g ((.slice none 0 0,[]) : Value × List Int)) C 48)::(0,inn X 5)::(m9,cells #[.int .i64 P,.int .i64 b,.int .i64 C,.slice ql (nI (plLv P)).length cl,.int .i64 (plN P : Nat),.int .i64 (plH P : Nat),.int .i64 (plHd b : Nat),.int .i64 (plJ P b : Nat),.int .i64 ((plJ P b + b : Nat)),.int .i64 (plT P b : Nat)] 60)::(blk (.slice ql (nI (plLv P)).length cl),sl 1 i64 (nI (plLv P)) 3 (.slice ql (nI (plLv P)).length cl))::(mc,cells (cfV ⟨P,b,cf,cs,cw,cbt,csq⟩) 25)::(r,RegC d st0)::(d,DevG cv D)::(1,LogV lg Ps)::K) wr)
  case atStart => exact ⟨0,[],by omega,rfl,⟨rfl,fun x hx => by cases hx⟩,by rw [List.nil_append];exact hS.conv⟩
  case round =>
    clear hS
    obtain ⟨k,X,hkg,rfl,HX,hS⟩ := hrel
    cases gk with
    | succ g =>
      have hkC : k < C := by omega
      have hXl : X.length = k := HX.out.1
      have hXl2 : k < (X ++ List.replicate (g + 1) ((.slice none 0 0,[]) : Value × List Int)).length := by simp;omega
      have hfin : ∀ {gr : Nat} {w4 : World},Sat w0 ((gc,slc 1 rowF ((X ++ List.replicate (g + 1) ((.slice none 0 0,[]) : Value × List Int)).set k (.slice (some ⟨gr,0,none⟩) 256 256,z256)) C 48)::(gr,slc 1 by8 (List.replicate 256 0) 256 5)::(0,inn X 5)::(m9,cells #[.int .i64 P,.int .i64 b,.int .i64 C,.slice ql (nI (plLv P)).length cl,.int .i64 (plN P : Nat),.int .i64 (plH P : Nat),.int .i64 (plHd b : Nat),.int .i64 (plJ P b : Nat),.int .i64 ((plJ P b + b : Nat)),.int .i64 (plT P b : Nat)] 60)::(blk (.slice ql (nI (plLv P)).length cl),sl 1 i64 (nI (plLv P)) 3 (.slice ql (nI (plLv P)).length cl))::(mc,cells (cfV ⟨P,b,cf,cs,cw,cbt,csq⟩) 25)::(r,RegC d st0)::(d,DevG cv D)::(1,LogV lg Ps)::K) w4 → Sat w0 ((gc,slc 1 rowF ((X ++ [(.slice (some ⟨gr,0,none⟩) 256 256,z256)]) ++ List.replicate g ((.slice none 0 0,[]) : Value × List Int)) C 48)::(0,inn (X ++ [(.slice (some ⟨gr,0,none⟩) 256 256,z256)]) 5)::(m9,cells #[.int .i64 P,.int .i64 b,.int .i64 C,.slice ql (nI (plLv P)).length cl,.int .i64 (plN P : Nat),.int .i64 (plH P : Nat),.int .i64 (plHd b : Nat),.int .i64 (plJ P b : Nat),.int .i64 ((plJ P b + b : Nat)),.int .i64 (plT P b : Nat)] 60)::(blk (.slice ql (nI (plLv P)).length cl),sl 1 i64 (nI (plLv P)) 3 (.slice ql (nI (plLv P)).length cl))::(mc,cells (cfV ⟨P,b,cf,cs,cw,cbt,csq⟩) 25)::(r,RegC d st0)::(d,DevG cv D)::(1,LogV lg Ps)::K) w4 := fun {gr w4} h => by
        have h1 := (h.pull gr (X := slc 1 by8 (List.replicate 256 0) 256 5)).slOfSlc
        rw [List.length_replicate,show List.replicate 256 (0 : Int) = z256 from rfl] at h1
        have h2 := h1.innAdd (.slice (some ⟨gr,0,none⟩) 256 256) (j := 0) (X := X) (t := 5) (A := z256) rfl
        have e : (X ++ List.replicate (g + 1) ((.slice none 0 0,[]) : Value × List Int)).set k ((.slice (some ⟨gr,0,none⟩) 256 256,z256) : Value × List Int) = (X ++ [(.slice (some ⟨gr,0,none⟩) 256 256,z256)]) ++ List.replicate g ((.slice none 0 0,[]) : Value × List Int) := by
          rw [List.set_append_right _ _ (by omega),hXl,Nat.sub_self,List.replicate_succ,List.set_cons_zero]
          simp
        rw [e] at h2
        exact h2.conv
      go_wp2_with (first | (refine makeN hS rfl rfl 256 rfl rfl by8 0 rfl ?_ ?_ ?_;(focus (omega));(focus (simp [maxLen];done));clear hS;intro mb w hS;simp only [putW]) | (refine storeS (f := rowF) (g := gc) hS rfl rfl rfl k ?_ ((.slice (some ⟨mb,0,none⟩) 256 256,z256) : Value × List Int) rfl rfl ?_ ?_ hXl2 ?_;omega;(focus (simp [Value.oneCell'];done));(focus rfl);clear hS;intro w hS;try simp only [putW]))
      trace_state
      go_roundg g
      case measure => omega
      case rel => exact ⟨k + 1,X ++ [(.slice (some ⟨mb,0,none⟩) 256 256,z256)],by omega,by go_num,⟨by simp [hXl],fun x hx => by
        rcases List.mem_append.1 hx with h | h
        · exact HX.out.2 x h
        · rw [List.mem_singleton.1 h]⟩,hfin hS.conv⟩
    | zero =>
      have hkC : k = C := by omega
      subst hkC
      clear hkg
      rw [List.replicate_zero,List.append_nil] at hS
      have h7 := hS.slOfSlc
      rw [HX.out.1] at h7
      clear hS
      have hS := h7.conv (S' := (1,LogV lg Ps)::(gc,sl 1 rowF X 48 (.slice (some ⟨gc,0,none⟩) k k))::(0,inn X 5)::(m9,cells #[.int .i64 P,.int .i64 b,.int .i64 k,.slice ql (nI (plLv P)).length cl,.int .i64 (plN P : Nat),.int .i64 (plH P : Nat),.int .i64 (plHd b : Nat),.int .i64 (plJ P b : Nat),.int .i64 ((plJ P b + b : Nat)),.int .i64 (plT P b : Nat)] 60)::(blk (.slice ql (nI (plLv P)).length cl),sl 1 i64 (nI (plLv P)) 3 (.slice ql (nI (plLv P)).length cl))::(mc,cells (cfV ⟨P,b,cf,cs,cw,cbt,csq⟩) 25)::(r,RegC d st0)::(d,DevG cv D)::K)
      clear h7
      obtain ⟨bs,hbs⟩ : ∃ bs,X.map (·.2) = bs := ⟨_,rfl⟩
      have hbs2 : bs = newBs P := by
        rw [← hbs]
        unfold newBs
        rw [HC.out]
        exact List.eq_replicate_iff.2 ⟨by rw [List.length_map];exact HX.out.1,fun x hx => by obtain ⟨y,hy,rfl⟩ := List.mem_map.1 hx;exact HX.out.2 y hy⟩
      have hbl : bs.length = k := by rw [← hbs,List.length_map];exact HX.out.1
      have hlv : plLv P = [1] := by
        unfold plLv
        rw [HC.out]
        have e : ceil k 8 = 1 := by unfold ceil;omega
        simp [lvGo,e]
      have hM : plM P = 1 := by unfold plM;rw [hlv];rfl
      have hab : (ab dig P bs k).length = 1 := by rw [ab_len];omega
      have hst : stB dig P bs 1 = (P + bs.length,ab dig P bs bs.length,[] ++ ab dig P bs bs.length) := rfl
      have HXr : ∀ x ∈ X,x.2.length = 256 := fun x hx => by rw [HX.out.2 x hx];rfl
      have HXo : ∀ x ∈ X,∀ y ∈ x.2,okByte y := fun x hx y hy => by rw [HX.out.2 x hx] at hy;exact isRow_z.2 y hy
      have HXO : Bx _ := ⟨HXo⟩
      have hnn : newNd P = ab dig P bs k := by unfold newNd;rw [hM,← hbs2,hst,hbl];rfl
      have HNN : Bx _ := ⟨hnn⟩
      have hB2 : (X.map (·.2)) = newBs P := by rw [hbs,hbs2]
      have hcall := build_any (m := 1) (P := P) (C := k) (Ps := Ps) (X := X) (L := nI (plLv P)) (b := (b : Int)) (N := (plN P : Nat)) (H := (plH P : Nat)) (hd := (plHd b : Nat)) (J := (plJ P b : Nat)) (s := ((plJ P b + b : Nat))) (t := (plT P b : Nat)) (vb := .slice (some ⟨gc,0,none⟩) k k) (lv := .slice ql (nI (plLv P)).length cl) hS (fun w' h => h.rowsRead (vo := .slice (some ⟨gc,0,none⟩) k k) (X := X) (j := 0) (t := 5) (T := 48) HXO.out) (fun w' h => h.readsSl (v := .slice ql (nI (plLv P)).length cl) (L := nI (plLv P)) fun _ _ => trivial) hK HX.out.1 HXr (by rw [hlv];rfl) (by omega)
        (fun q hq => by
          rw [hbs]
          match q,hq with
          | 0,_ => exact ⟨by show P ≤ 400000;omega,by show bs.length ≤ 1000;omega,by show 0 ≤ 100000;omega⟩
          | 1,_ =>
            rw [hst,hbl]
            exact ⟨by show P + k ≤ 400000;omega,by show (ab dig P bs k).length ≤ 1000;omega,by show ([] ++ ab dig P bs k).length ≤ 100000;rw [List.nil_append];omega⟩
          | q + 2,h => omega) (by rw [hbs,hst,hbl];exact hab) hP
      rw [hB2] at hcall
      have e1 : newNd P = (stB dig P (newBs P) 1).2.2 := by unfold newNd;rw [hM]
      have e2 : newRoot P = dig (stB dig P (newBs P) 1).1 ((stB dig P (newBs P) 1).2.1.getD 0 []) := by unfold newRoot;rw [hM]
      have e3 : newL P = stN dig pre P (newBs P) 1 ++ [(pre (stB dig P (newBs P) 1).1 ((stB dig P (newBs P) 1).2.1.getD 0 []),newRoot P)] := by unfold newL;rw [hM]
      have hcall2 := hcall.mono (R' := fun e w' => ∃ v Y,e = .returned (.tuple #[v,.agg ((newRoot P).map u8v).toArray,.int .i64 0]) ∧ Y.map (·.2) = newNd P ∧ Sat w0 ((blk v,sl 1 rowF Y 48 v)::(0,inn Y 5)::(1,LogV lg (Ps ++ newL P))::(gc,sl 1 rowF X 48 (.slice (some ⟨gc,0,none⟩) k k))::(0,inn X 5)::(m9,cells #[.int .i64 P,.int .i64 b,.int .i64 k,.slice ql (nI (plLv P)).length cl,.int .i64 (plN P : Nat),.int .i64 (plH P : Nat),.int .i64 (plHd b : Nat),.int .i64 (plJ P b : Nat),.int .i64 ((plJ P b + b : Nat)),.int .i64 (plT P b : Nat)] 60)::(blk (.slice ql (nI (plLv P)).length cl),sl 1 i64 (nI (plLv P)) 3 (.slice ql (nI (plLv P)).length cl))::(mc,cells (cfV ⟨P,b,cf,cs,cw,cbt,csq⟩) 25)::(r,RegC d st0)::(d,DevG cv D)::K) w') (by
        rintro e w' ⟨v,Y,h1,h2,h3⟩
        refine ⟨v,Y,by rw [e2];exact h1,by rw [e1];exact h2,?_⟩
        rw [e3,e2,← List.append_assoc]
        exact h3)
      have hndl : (newNd P).length = 1 := by rw [HNN.out];exact hab
      have hrows : ∀ rw ∈ newNd P,isRow rw := by rw [HNN.out];exact ab_rows dig_len' dig_okB P bs k
      have HND : Bx ((newNd P).length = 1 ∧ ∀ rw ∈ newNd P,isRow rw) := ⟨hndl,hrows⟩
      have hrl : (newRoot P).length = 32 := dig_len' _ _
      have hrb : ∀ y ∈ newRoot P,okByte y := dig_okB _ _
      have HRl : Bx _ := ⟨hrl⟩
      have HRb : Bx _ := ⟨hrb⟩
      have HX2 : Bx (X.map (·.2) = newBs P) := ⟨hB2⟩
      clear hcall e1 e2 e3 hndl hrows hnn hst hbs2 hbl hlv hM hab HXr hB2 hrl hrb HXo hbs
      go_wp2_with (first | (guard_target =~ Calls _ 37 _ _ _;refine Stopped.out ?_) | (refine loadAll hS rfl rfl rfl ?_ ?_;rfl;simp only [putW]))
      refine ⟨?_⟩
      refine Calls.mono hcall2 ?_
      clear hS hcall2
      rintro _ w ⟨v,Y,rfl,hY,hS⟩
      have HY : Bx _ := ⟨hY⟩
      have hYl : Y.length = 1 := by have h := congrArg List.length hY;rw [List.length_map,HND.out.1] at h;exact h
      clear hY
      simp only [putW]
      obtain ⟨qv,cv2,hv⟩ := shapeN hS hYl
      subst hv
      have hYr : RR w Y (.slice qv 1 cv2) := hS.rowsRead (vo := .slice qv 1 cv2) (X := Y) (j := 0) (t := 5) (T := 48) (fun x hx => (HND.out.2 x.2 (by rw [← HY.out];exact List.mem_map_of_mem hx)).2)
      have HY1 : Bx (∀ x ∈ Y,∀ u ∈ rowF x,u.oneCell' = true) := ⟨fun x hx u hu => by
        obtain ⟨a1,c1,h1,-⟩ := (BSl.all hYr x hx).at
        rw [List.mem_singleton.1 hu,h1]
        rfl⟩
      have HYl : Bx _ := ⟨hYl⟩
      have HXl : Bx _ := ⟨HX.out.1⟩
      have hxl9 : X.length ≤ 8 := by rw [HX.out.1];omega
      have hyl9 : Y.length ≤ 1 := by rw [hYl];omega
      clear hYr hYl
      go_wp2_with (first | (refine allocA (t := 26) (vv := u8v) hS rfl rfl (List.replicate 32 0) zeros32 ?_;clear hS;intro md w hS;simp only [putW]) | (refine storeAllA (vv := u8v) hS rfl rfl rfl (newRoot P) rfl HRl.out (fun _ _ => rfl) (by simp) ?_;clear hS;intro w hS;try simp only [putW]) | (refine appendB (f := rowF) hS rfl rfl (.slice (some ⟨gc,0,none⟩) k k) rfl rfl Y (hS.readsSl (gd := fun _ => True) (v := .slice qv 1 cv2) (L := Y) (fun _ _ => trivial)) HY1.out ?_ ?_ ?_;(focus (simp [maxLen];omega));(focus (omega));clear hS;intro v' w hS;obtain ⟨gw,cw2,hv',hS3⟩ := hS.slFormC (k + 1) (by rw [List.length_append,HXl.out,HYl.out]) (by omega);clear hS;subst hv';have hS := hS3;clear hS3;simp only [putW]))
      have h7 := innMerge (hS.conv (S' := (0,inn X 5)::(0,inn Y 5)::(gw,slc 1 rowF (X ++ Y) cw2 48)::(md,cells ((newRoot P).map u8v).toArray 26)::(1,LogV lg (Ps ++ newL P))::(m9,cells #[.int .i64 P,.int .i64 b,.int .i64 k,.slice ql (nI (plLv P)).length cl,.int .i64 (plN P : Nat),.int .i64 (plH P : Nat),.int .i64 (plHd b : Nat),.int .i64 (plJ P b : Nat),.int .i64 ((plJ P b + b : Nat)),.int .i64 (plT P b : Nat)] 60)::(mc,cells (cfV ⟨P,b,cf,cs,cw,cbt,csq⟩) 25)::(r,RegC d st0)::(d,DevG cv D)::K))
      clear hS
      have hS := h7
      clear h7
      obtain ⟨all,hall⟩ : ∃ all,newBs P ++ newNd P = all := ⟨_,rfl⟩
      have HALL : Bx _ := ⟨hall⟩
      have HA : Bx ((X ++ Y).map (·.2) = all) := ⟨by rw [List.map_append,HX2.out,HY.out,hall]⟩
      have HAl : Bx ((X ++ Y).length = k + 1 ∧ all.length = k + 1) := ⟨by rw [List.length_append,HXl.out,HYl.out],by rw [← HA.out,List.length_map,List.length_append,HXl.out,HYl.out]⟩
      have HAr : Bx (∀ rw ∈ all,isRow rw) := ⟨by
        intro rw hrw
        rw [← hall] at hrw
        rcases List.mem_append.1 hrw with h | h
        · rw [(List.mem_replicate.1 h).2];exact isRow_z
        · exact HND.out.2 rw h⟩
      clear hall
      go_loopg [16,17,18,72] (k + 1) (fun g i' b' e' iv wr => ∃ (j : Nat) (E : Dev),j + g = k + 1 ∧ iv = .int .i64 j ∧ Bx (wrAll D P all = wrAll E (P + j) (all.drop j)) ∧ Bx (E.wt.length ≤ n0 + j ∧ E.wr.length ≤ n0 + j ∧ E.count ≤ n0 + j ∧ E.armed ≤ 9223372036854775807) ∧ Sat w0 ((gw,slc 1 rowF (X ++ Y) cw2 48)::(0,inn (X ++ Y) 5)::(md,cells ((newRoot P).map u8v).toArray 26)::(1,LogV lg (Ps ++ newL P))::(m9,cells #[.int .i64 P,.int .i64 b,.int .i64 k,.slice ql (nI (plLv P)).length cl,.int .i64 (plN P : Nat),.int .i64 (plH P : Nat),.int .i64 (plHd b : Nat),.int .i64 (plJ P b : Nat),.int .i64 ((plJ P b + b : Nat)),.int .i64 (plT P b : Nat)] 60)::(mc,cells (cfV ⟨P,b,cf,cs,cw,cbt,csq⟩) 25)::(r,RegC d st0)::(d,DevG cv E)::K) wr)
      case atStart => exact ⟨0,D,by omega,rfl,⟨rfl⟩,⟨hsm⟩,hS.conv⟩
      case round =>
        clear hS
        obtain ⟨j,E,hjg,rfl,HW,HE,hS⟩ := hrel
        have hEz : Bx E.Sz := ⟨⟨by have := HE.out.1;omega,by have := HE.out.2.1;omega,by have := HE.out.2.2.1;omega,HE.out.2.2.2⟩⟩
        cases gk with
        | succ g =>
          have hjk : j < k + 1 := by omega
          obtain ⟨⟨vb,rw1⟩,hx⟩ : ∃ y,(X ++ Y)[j]? = some y := ⟨_,List.getElem?_eq_getElem (by rw [HAl.out.1];exact hjk)⟩
          have hal : all[j]? = some rw1 := by rw [← HA.out,List.getElem?_map,hx];rfl
          have hrow : isRow rw1 := HAr.out rw1 (List.mem_of_getElem? hal)
          have HRo : Bx _ := ⟨hrow⟩
          have HXx : Bx _ := ⟨hx⟩
          have hmem : Bx ((vb,rw1) ∈ X ++ Y) := ⟨List.mem_of_getElem? hx⟩
          have hdr : Bx (all.drop j = rw1::all.drop (j + 1)) := ⟨drop_at hal⟩
          have hgr : j < (X ++ Y).length := by rw [HAl.out.1];exact hjk
          obtain ⟨W1,hW1⟩ : ∃ W1,E.write ((P : Int) + j) rw1 = W1 := ⟨_,rfl⟩
          have HW1 : Bx _ := ⟨hW1⟩
          have hstep : Bx (wrAll E (P + j) (all.drop j) = if W1.2 = 0 then wrAll W1.1 (P + (j + 1)) (all.drop (j + 1)) else W1) := ⟨by
            have e : ((P + j : Nat) : Int) = (P : Int) + j := by omega
            rw [hdr.out,wrAll,e,hW1]
            rfl⟩
          have hsz : Bx (W1.1.wt.length ≤ n0 + j + 1 ∧ W1.1.wr.length ≤ n0 + j + 1 ∧ W1.1.count ≤ n0 + j + 1 ∧ W1.1.armed ≤ 9223372036854775807) := ⟨by rw [← hW1];exact write_sz HE.out⟩
          clear hx hal hrow hW1
          go_wp2_with (first | (refine loadS (f := rowF) hS rfl rfl rfl j 0 ?_ HXx.out rfl ?_ ?_;omega;omega;simp only [putW]) | (guard_target =~ Calls _ 38 _ _ _;refine Stopped.out ?_) | (refine load1 hS rfl rfl rfl rfl ?_;simp only [putW]))
          refine ⟨?_⟩
          refine Calls.mono (devWrite_any (B := rw1) (at' := (P : Int) + j) HRo.out.2 hEz.out ⟨by have := HE.out.1;omega,by have := HE.out.2.1;omega⟩ (fun w' h => h.innReads (j := 0) (X := X ++ Y) (v := vb) (A := rw1) (t := 5) hmem.out HRo.out.2) (hS.conv (S' := (d,DevG cv E)::(0,inn (X ++ Y) 5)::(md,cells ((newRoot P).map u8v).toArray 26)::(1,LogV lg (Ps ++ newL P))::(m9,cells #[.int .i64 P,.int .i64 b,.int .i64 k,.slice ql (nI (plLv P)).length cl,.int .i64 (plN P : Nat),.int .i64 (plH P : Nat),.int .i64 (plHd b : Nat),.int .i64 (plJ P b : Nat),.int .i64 ((plJ P b + b : Nat)),.int .i64 (plT P b : Nat)] 60)::(mc,cells (cfV ⟨P,b,cf,cs,cw,cbt,csq⟩) 25)::(r,RegC d st0)::(gw,slc 1 rowF (X ++ Y) cw2 48)::K))) ?_
          rw [HW1.out]
          obtain ⟨E1,c1⟩ := W1
          clear hS
          rintro _ w ⟨rfl,hS⟩
          simp only [putW]
          replace hS : Sat w0 ((d,DevG cv E1)::(0,inn (X ++ Y) 5)::(md,cells ((newRoot P).map u8v).toArray 26)::(1,LogV lg (Ps ++ newL P))::(m9,cells #[.int .i64 P,.int .i64 b,.int .i64 k,.slice ql (nI (plLv P)).length cl,.int .i64 (plN P : Nat),.int .i64 (plH P : Nat),.int .i64 (plHd b : Nat),.int .i64 (plJ P b : Nat),.int .i64 ((plJ P b + b : Nat)),.int .i64 (plT P b : Nat)] 60)::(mc,cells (cfV ⟨P,b,cf,cs,cw,cbt,csq⟩) 25)::(r,RegC d st0)::(gw,slc 1 rowF (X ++ Y) cw2 48)::K) w := hS
          by_cases hc1 : c1 = 0
          · subst hc1
            have hW2 : Bx (wrAll D P all = wrAll E1 (P + (j + 1)) (all.drop (j + 1))) := ⟨by rw [HW.out,hstep.out];rfl⟩
            go_wp2_with (refine load1 hS rfl rfl rfl rfl ?_;simp only [putW])
            go_roundg g
            case measure => omega
            case rel => exact ⟨j + 1,E1,by omega,by go_num,hW2,⟨hsz.out⟩,hS.conv⟩
          · have d9 : decide (c1 = 0) = false := decide_eq_false hc1
            have d9b : (c1 == 0) = false := by simpa using hc1
            have d9c : (c1 != 0) = true := by simpa using hc1
            have hW2 : Bx (wrAll D P all = (E1,c1) ∧ c1 ≠ 0) := ⟨by rw [HW.out,hstep.out,if_neg hc1],hc1⟩
            clear hc1
            go_wp2_with (refine load1 hS rfl rfl rfl rfl ?_;simp only [putW])
            go_ret
            rw [HALL.out,hW2.out.1]
            have h9 := hS.conv (S' := (1,LogV lg (Ps ++ newL P))::(r,RegC d st0)::(d,DevG cv E1)::K)
            exact .inl ⟨hW2.out.2,rfl,h9⟩
        | zero =>
          have hjk : j = k + 1 := by omega
          subst hjk
          have hW2 : Bx (wrAll D P all = (E,0)) := ⟨by rw [HW.out,List.drop_of_length_le (by rw [HAl.out.2];exact Nat.le_refl _)];rfl⟩
          have hdd : decide (((k + 1 : Nat) : Int) < ((k + 1 : Nat) : Int)) = false := decide_eq_false (by omega)
          obtain ⟨FL,hFL⟩ : ∃ FL,E.flush = FL := ⟨_,rfl⟩
          have HFL : Bx _ := ⟨hFL⟩
          have hfz : Bx FL.1.Sz := ⟨by rw [← hFL];exact flush_sz ⟨by have := HE.out.1;omega,by have := HE.out.2.1;omega,by have := HE.out.2.2.1;omega,HE.out.2.2.2⟩⟩
          clear hFL hjg
          go_wp2_with (guard_target =~ Calls _ 39 _ _ _;refine Stopped.out ?_)
          refine ⟨?_⟩
          refine Calls.mono (devFlush_any hEz.out (hS.conv (S' := (d,DevG cv E)::(0,inn (X ++ Y) 5)::(md,cells ((newRoot P).map u8v).toArray 26)::(1,LogV lg (Ps ++ newL P))::(m9,cells #[.int .i64 P,.int .i64 b,.int .i64 k,.slice ql (nI (plLv P)).length cl,.int .i64 (plN P : Nat),.int .i64 (plH P : Nat),.int .i64 (plHd b : Nat),.int .i64 (plJ P b : Nat),.int .i64 ((plJ P b + b : Nat)),.int .i64 (plT P b : Nat)] 60)::(mc,cells (cfV ⟨P,b,cf,cs,cw,cbt,csq⟩) 25)::(r,RegC d st0)::K))) ?_
          rw [HFL.out]
          obtain ⟨E1,c1⟩ := FL
          clear hS
          rintro _ w ⟨rfl,hS⟩
          simp only [putW]
          replace hS : Sat w0 ((d,DevG cv E1)::(0,inn (X ++ Y) 5)::(md,cells ((newRoot P).map u8v).toArray 26)::(1,LogV lg (Ps ++ newL P))::(m9,cells #[.int .i64 P,.int .i64 b,.int .i64 k,.slice ql (nI (plLv P)).length cl,.int .i64 (plN P : Nat),.int .i64 (plH P : Nat),.int .i64 (plHd b : Nat),.int .i64 (plJ P b : Nat),.int .i64 ((plJ P b + b : Nat)),.int .i64 (plT P b : Nat)] 60)::(mc,cells (cfV ⟨P,b,cf,cs,cw,cbt,csq⟩) 25)::(r,RegC d st0)::K) w := hS
          by_cases hc1 : c1 = 0
          · subst hc1
            have HNw : Bx (newSt ⟨(P : Int),(b : Int),cf,cs,cw,cbt,csq⟩).Wf := ⟨newSt_wf ⟨hp1,hp2⟩ ⟨hb1,hb2⟩ hbt⟩
            have HOt : Bx _ := ⟨new_out P b cf cs cw cbt csq⟩
            have HFt : Bx _ := ⟨new_fit P b cw cbt⟩
            go_wp2_with (first | (refine loadAllA (b := md) (l := newRoot P) (vv := u8v) hS rfl rfl rfl HRl.out ?_;simp only [putW]) | (refine buildS (segs := stSeg st0) rfl rfl [(0,Value.int .i64 P),(1,Value.int .i64 b),(2,Value.bool cw),(3,Value.int .u32 cbt),(5,Value.int .u32 1),(6,Value.int .i64 P),(8,Value.agg ((newRoot P).map u8v).toArray)] rfl HFt.out HOt.out ?_;simp only [putW]) | (guard_target =~ Calls _ 29 _ _ _;refine Stopped.out ?_) | (refine load1 hS rfl rfl rfl rfl ?_;simp only [putW]))
            refine ⟨?_⟩
            refine Calls.mono (regWrite_any hfz.out st0_wf HNw.out (hS.conv (S' := (r,RegC d st0)::(d,DevG cv E1)::(0,inn (X ++ Y) 5)::(md,cells ((newRoot P).map u8v).toArray 26)::(1,LogV lg (Ps ++ newL P))::(m9,cells #[.int .i64 P,.int .i64 b,.int .i64 k,.slice ql (nI (plLv P)).length cl,.int .i64 (plN P : Nat),.int .i64 (plH P : Nat),.int .i64 (plHd b : Nat),.int .i64 (plJ P b : Nat),.int .i64 ((plJ P b + b : Nat)),.int .i64 (plT P b : Nat)] 60)::(mc,cells (cfV ⟨P,b,cf,cs,cw,cbt,csq⟩) 25)::K))) ?_
            clear hS
            rintro _ w ⟨rfl,hS⟩
            simp only [putW]
            go_wp2_with (refine load1 hS rfl rfl rfl rfl ?_;simp only [putW])
            go_ret
            rw [HALL.out,hW2.out]
            refine .inr (.inr ?_)
            rw [HFL.out]
            have h9 := hS.conv (S' := (1,LogV lg (Ps ++ newL P))::(r,RegC d (regWrite E1 st0 (newSt ⟨(P : Int),(b : Int),cf,cs,cw,cbt,csq⟩)).2.1)::(d,DevG cv (regWrite E1 st0 (newSt ⟨(P : Int),(b : Int),cf,cs,cw,cbt,csq⟩)).1)::K)
            exact ⟨rfl,rfl,rfl,h9⟩
          · have d9 : decide (c1 = 0) = false := decide_eq_false hc1
            have d9b : (c1 == 0) = false := by simpa using hc1
            have d9c : (c1 != 0) = true := by simpa using hc1
            have Hc1 : Bx _ := ⟨hc1⟩
            clear hc1
            go_wp2_with (refine load1 hS rfl rfl rfl rfl ?_;simp only [putW])
            go_ret
            rw [HALL.out,hW2.out]
            refine .inr (.inl ?_)
            rw [HFL.out]
            have h9 := hS.conv (S' := (1,LogV lg (Ps ++ newL P))::(r,RegC d st0)::(d,DevG cv E1)::K)
            exact ⟨rfl,Hc1.out,rfl,h9⟩
end
end Go.Proofs.YtdkimdobcacpfaaDoor
namespace Go.Proofs.YtdkimdobcacpfaaDoor
open Go.RowKit Go.Proofs.YtdkimdobcacpfaaDoor.Sl Go.Proofs.YtdkimdobcacpfaaDoor.Sha Go.Proofs.YtdkimdobcacpfaaDoor.Jp Go.Proofs.YtdkimdobcacpfaaDoor.Tr Go.Proofs.YtdkimdobcacpfaaDoor.Dv

set_option maxRecDepth 100000 in
instance : StrT Tryd.prog 78 [[.pointer none],stV st0] := StrT.mk' Tryd.underlying78 (by kernel_rfl) (pl := #[(0,1),(1,72)]) (fun w => by go_simp) (by kernel_rfl)
section
variable {w0 w : World} {K F S : List Chunk} {d r : Nat} {D : Dev} {cv lg : Value}
set_option maxRecDepth 100000 in
set_option maxHeartbeats 4000000 in
theorem refDevNew {n : Nat} (h1 : 1 ≤ n) (h2 : n ≤ 65536) : Calls Tryd.prog 27 #[.int .i64 n] w0 fun e w' => ∃ x,e = .returned (.pointer (some ⟨x,0,none⟩)) ∧ ∃ X v,(X : List (Value × List Int)).map (·.2) = List.replicate n z256 ∧ Sat w0 [(x,cells #[v,.slice none 0 0,.bool false,.int .i64 0,.int .i64 0,.slice none 0 0,.slice none 0 0] 121),(blk v,sl 1 rowF X 48 v),(0,inn X 5)] w' := by
  have hS := Sat.refl w0
  have d1 : decide ((n : Int) < 1) = false := decide_eq_false (by omega)
  have d2 : decide ((65536 : Int) < (n : Int)) = false := decide_eq_false (by omega)
  have d2n : decide (65536 < n) = false := decide_eq_false (by omega)
  go_enter Tryd.func27,Tryd.ntmps27
  go_wp2_with (refine boxN hS rfl rfl rfl ?_;clear hS;intro mb w hS;simp only [putW])
  replace hS := (hS.slNil 1 rowF 48).innNil 0 5
  obtain ⟨x,rfl⟩ : ∃ x,x = mb := ⟨_,rfl⟩
  go_loopg [4] n (fun g iv wr => ∃ (k : Nat) (X : List (Value × List Int)) (v : Value),k + g = n ∧ iv = .int .i64 k ∧ Bx (X.map (·.2) = List.replicate k z256) ∧ Sat w0 [(x,cells #[v,.slice none 0 0,.bool false,.int .i64 0,.int .i64 0,.slice none 0 0,.slice none 0 0] 121),(blk v,sl 1 rowF X 48 v),(0,inn X 5)] wr)
  case atStart =>
    have h8 : Sat w0 [(x,cells #[.slice none 0 0,.slice none 0 0,.bool false,.int .i64 0,.int .i64 0,.slice none 0 0,.slice none 0 0] 121),(0,sl 1 rowF [] 48 (.slice none 0 0)),(0,inn [] 5)] w := hS.conv
    exact ⟨0,[],.slice none 0 0,by omega,rfl,⟨rfl⟩,h8⟩
  case round =>
    clear hS
    obtain ⟨k,X,v,hkg,rfl,HX,hS⟩ := hrel
    have hxl : X.length = k := by have h := congrArg List.length HX.out;rw [List.length_map,List.length_replicate] at h;exact h
    cases gk with
    | zero =>
      have hk : k = n := by omega
      subst hk
      go_wp2_with (refine load1 hS rfl rfl rfl rfl ?_;simp only [putW])
      go_ret
      exact ⟨x,rfl,X,v,HX.out,hS⟩
    | succ g =>
      have hkn : k < n := by omega
      have e1 : decide ((k : Int) < (n : Int)) = true := decide_eq_true (by omega)
      have HXl : Bx _ := ⟨hxl⟩
      have HM : Bx (X.length + 1 ≤ maxLen ∧ (X.length + 1) * 24 ≤ 140737488355328) := ⟨by rw [hxl];simp [maxLen];omega,by rw [hxl];omega⟩
      have hfin : ∀ {gw cw gr : Nat} {w4 : World},Sat w0 ((x,cells #[.slice (some ⟨gw,0,none⟩) (X ++ [((.slice (some ⟨gr,0,none⟩) 256 256,z256) : Value × List Int)]).length cw,.slice none 0 0,.bool false,.int .i64 0,.int .i64 0,.slice none 0 0,.slice none 0 0] 121)::(gw,slc 1 rowF (X ++ [((.slice (some ⟨gr,0,none⟩) 256 256,z256) : Value × List Int)]) cw 48)::(gr,slc 1 by8 (List.replicate 256 0) 256 5)::(0,inn X 5)::[]) w4 →
          Sat w0 [(x,cells #[.slice (some ⟨gw,0,none⟩) (X ++ [((.slice (some ⟨gr,0,none⟩) 256 256,z256) : Value × List Int)]).length cw,.slice none 0 0,.bool false,.int .i64 0,.int .i64 0,.slice none 0 0,.slice none 0 0] 121),(blk (.slice (some ⟨gw,0,none⟩) (X ++ [((.slice (some ⟨gr,0,none⟩) 256 256,z256) : Value × List Int)]).length cw),sl 1 rowF (X ++ [((.slice (some ⟨gr,0,none⟩) 256 256,z256) : Value × List Int)]) 48 (.slice (some ⟨gw,0,none⟩) (X ++ [((.slice (some ⟨gr,0,none⟩) 256 256,z256) : Value × List Int)]).length cw)),(0,inn (X ++ [((.slice (some ⟨gr,0,none⟩) 256 256,z256) : Value × List Int)]) 5)] w4 := fun {gw cw gr w4} h => by
        have h1 := (h.pull gr (X := slc 1 by8 (List.replicate 256 0) 256 5)).slOfSlc
        rw [List.length_replicate,show List.replicate 256 (0 : Int) = z256 from rfl] at h1
        have h2 := h1.innAdd (.slice (some ⟨gr,0,none⟩) 256 256) (j := 0) (X := X) (t := 5) (A := z256) rfl
        have h3 := (h2.pull gw (X := slc 1 rowF (X ++ [((.slice (some ⟨gr,0,none⟩) 256 256,z256) : Value × List Int)]) cw 48)).slOfSlc
        exact h3.conv
      have hnext : ∀ {gr : Nat},Bx ((X ++ [((.slice (some ⟨gr,0,none⟩) 256 256,z256) : Value × List Int)]).map (·.2) = List.replicate (k + 1) z256) := ⟨by rw [List.map_append,HX.out,List.replicate_succ'];rfl⟩
      clear hxl
      go_upto_region 7 with (refine load1 hS rfl rfl rfl rfl ?_;simp only [putW])
      (refine wp_region_held (S := fun w' => Sat w0 ((0,inn X 5)::[]) w') (by kernel_rfl) ?_;replace hS := hS.drew;(refine takeIf (i := 0) rfl (by kernel_rfl) (fun _ _ _ h => h) (yMove rfl rfl rfl) hS.conv ?_;simp only [evW,putW]);(refine takeIf (i := 1) rfl (by kernel_rfl) (fun _ _ _ h => h) (yMove rfl rfl rfl) hS.conv ?_;simp only [evW,putW]);(apply takeIf (i := 2) rfl (by kernel_rfl) (fun _ _ _ h => h);(focus (apply yRun rfl;intro w;first | (go_simp;done) | (go_simp;rfl)));(focus (exact hS.conv));simp only [putW]);(apply takeIf (i := 3) rfl (by kernel_rfl) (fun _ _ _ h => h);(focus (apply yRun rfl;intro w;first | (go_simp;done) | (go_simp;rfl)));(focus (exact hS.conv));simp only [putW]);refine wpAnyH_all (rs := [4,5]) (by kernel_rfl) (by simp) ?_;intro i hi;simp only [List.mem_cons,List.not_mem_nil,or_false] at hi;rcases hi with rfl | rfl;(focus (refine wpOp_of_list rfl ?_;go_wp2_with (refine load1 hS rfl rfl rfl rfl ?_;simp only [putW]);refine ⟨rfl,hS.conv,?_⟩;refine wpAnyH_all (rs := [5]) (by kernel_rfl) (by simp) ?_;intro i hi;simp only [List.mem_cons,List.not_mem_nil,or_false] at hi;subst hi;refine wpOp_of_list rfl ?_;go_wp2_with (refine makeN hS rfl rfl 256 rfl rfl by8 0 rfl ?_ ?_ ?_;(focus (omega));(focus (simp [maxLen];done));clear hS;intro gr w hS;simp only [putW]);refine ⟨rfl,hS.conv,?_⟩;refine wpAnyH_all (rs := [6]) (by kernel_rfl) (by simp) ?_;intro i hi;simp only [List.mem_cons,List.not_mem_nil,or_false] at hi;subst hi;refine wpOp_of_list rfl ?_;go_wp2_with (refine buildSlice1 (c := #[.slice (some ⟨gr,0,none⟩) 256 256]) hS rfl rfl rfl ?_ ?_ ?_ ?_;rfl;rfl;rfl;clear hS;intro mb w hS;simp only [putW]);refine ⟨rfl,hS.conv,?_⟩;refine wpAnyH_all (rs := [7]) (by kernel_rfl) (by simp) ?_;intro i hi;simp only [List.mem_cons,List.not_mem_nil,or_false] at hi;subst hi;refine wpOp_of_list rfl ?_;go_wp2_with (refine append1 (n := 1) (f := rowF) hS rfl rfl v rfl rfl ((.slice (some ⟨gr,0,none⟩) 256 256,z256) : Value × List Int) rfl (by simp [rowF,Value.oneCell']) rfl HM.out.1 HM.out.2 ?_;clear hS;intro v' w hS;obtain ⟨gw,cw,hv',hS3⟩ := hS.slSome (by simp);clear hS;subst hv';have hS := hS3;clear hS3;simp only [putW]);refine ⟨rfl,hS.conv,?_⟩;(apply takeIf (i := 8) rfl (by kernel_rfl) (fun _ _ _ h => h);(focus (apply yRun rfl;intro w;first | (go_simp;done) | (go_simp;rfl)));(focus (exact hS.conv));simp only [putW]);(apply takeIf (i := 9) rfl (by kernel_rfl) (fun _ _ _ h => h);(focus (apply yRun rfl;intro w;first | (go_simp;done) | (go_simp;rfl)));(focus (exact hS.conv));simp only [putW]);refine wpAnyH_all (rs := [10]) (by kernel_rfl) (by simp) ?_;intro i hi;simp only [List.mem_cons,List.not_mem_nil,or_false] at hi;subst hi;refine wpOp_of_list rfl ?_;go_wp2_with (refine store1 hS rfl rfl rfl rfl rfl ?_ ?_;(focus (simp;done));clear hS;intro w hS;simp only [evW,putW] at hS;try simp only [putW]);refine ⟨rfl,hS.conv,?_⟩;refine wpAnyH_done (by kernel_rfl) ?_ _;(go_wp2_with (refine load1 hS rfl rfl rfl rfl ?_;simp only [putW]);go_roundg g;(case measure => omega);(case rel => exact ⟨k + 1,_,_,by omega,by go_num,hnext,hfin (gw := gw) (cw := cw) (gr := gr) hS.conv⟩))));(focus (refine wpOp_of_list rfl ?_;go_wp2_with (refine makeN hS rfl rfl 256 rfl rfl by8 0 rfl ?_ ?_ ?_;(focus (omega));(focus (simp [maxLen];done));clear hS;intro gr w hS;simp only [putW]);refine ⟨rfl,hS.conv,?_⟩;refine wpAnyH_all (rs := [4,6]) (by kernel_rfl) (by simp) ?_;intro i hi;simp only [List.mem_cons,List.not_mem_nil,or_false] at hi;rcases hi with rfl | rfl;(focus (refine wpOp_of_list rfl ?_;go_wp2_with (refine load1 hS rfl rfl rfl rfl ?_;simp only [putW]);refine ⟨rfl,hS.conv,?_⟩;refine wpAnyH_all (rs := [6]) (by kernel_rfl) (by simp) ?_;intro i hi;simp only [List.mem_cons,List.not_mem_nil,or_false] at hi;subst hi;refine wpOp_of_list rfl ?_;go_wp2_with (refine buildSlice1 (c := #[.slice (some ⟨gr,0,none⟩) 256 256]) hS rfl rfl rfl ?_ ?_ ?_ ?_;rfl;rfl;rfl;clear hS;intro mb w hS;simp only [putW]);refine ⟨rfl,hS.conv,?_⟩;refine wpAnyH_all (rs := [7]) (by kernel_rfl) (by simp) ?_;intro i hi;simp only [List.mem_cons,List.not_mem_nil,or_false] at hi;subst hi;refine wpOp_of_list rfl ?_;go_wp2_with (refine append1 (n := 1) (f := rowF) hS rfl rfl v rfl rfl ((.slice (some ⟨gr,0,none⟩) 256 256,z256) : Value × List Int) rfl (by simp [rowF,Value.oneCell']) rfl HM.out.1 HM.out.2 ?_;clear hS;intro v' w hS;obtain ⟨gw,cw,hv',hS3⟩ := hS.slSome (by simp);clear hS;subst hv';have hS := hS3;clear hS3;simp only [putW]);refine ⟨rfl,hS.conv,?_⟩;(apply takeIf (i := 8) rfl (by kernel_rfl) (fun _ _ _ h => h);(focus (apply yRun rfl;intro w;first | (go_simp;done) | (go_simp;rfl)));(focus (exact hS.conv));simp only [putW]);(apply takeIf (i := 9) rfl (by kernel_rfl) (fun _ _ _ h => h);(focus (apply yRun rfl;intro w;first | (go_simp;done) | (go_simp;rfl)));(focus (exact hS.conv));simp only [putW]);refine wpAnyH_all (rs := [10]) (by kernel_rfl) (by simp) ?_;intro i hi;simp only [List.mem_cons,List.not_mem_nil,or_false] at hi;subst hi;refine wpOp_of_list rfl ?_;go_wp2_with (refine store1 hS rfl rfl rfl rfl rfl ?_ ?_;(focus (simp;done));clear hS;intro w hS;simp only [evW,putW] at hS;try simp only [putW]);refine ⟨rfl,hS.conv,?_⟩;refine wpAnyH_done (by kernel_rfl) ?_ _;(go_wp2_with (refine load1 hS rfl rfl rfl rfl ?_;simp only [putW]);go_roundg g;(case measure => omega);(case rel => exact ⟨k + 1,_,_,by omega,by go_num,hnext,hfin (gw := gw) (cw := cw) (gr := gr) hS.conv⟩))));(focus (refine wpOp_of_list rfl ?_;go_wp2_with (refine buildSlice1 (c := #[.slice (some ⟨gr,0,none⟩) 256 256]) hS rfl rfl rfl ?_ ?_ ?_ ?_;rfl;rfl;rfl;clear hS;intro mb w hS;simp only [putW]);refine ⟨rfl,hS.conv,?_⟩;refine wpAnyH_all (rs := [4]) (by kernel_rfl) (by simp) ?_;intro i hi;simp only [List.mem_cons,List.not_mem_nil,or_false] at hi;subst hi;refine wpOp_of_list rfl ?_;go_wp2_with (refine load1 hS rfl rfl rfl rfl ?_;simp only [putW]);refine ⟨rfl,hS.conv,?_⟩;refine wpAnyH_all (rs := [7]) (by kernel_rfl) (by simp) ?_;intro i hi;simp only [List.mem_cons,List.not_mem_nil,or_false] at hi;subst hi;refine wpOp_of_list rfl ?_;go_wp2_with (refine append1 (n := 1) (f := rowF) hS rfl rfl v rfl rfl ((.slice (some ⟨gr,0,none⟩) 256 256,z256) : Value × List Int) rfl (by simp [rowF,Value.oneCell']) rfl HM.out.1 HM.out.2 ?_;clear hS;intro v' w hS;obtain ⟨gw,cw,hv',hS3⟩ := hS.slSome (by simp);clear hS;subst hv';have hS := hS3;clear hS3;simp only [putW]);refine ⟨rfl,hS.conv,?_⟩;(apply takeIf (i := 8) rfl (by kernel_rfl) (fun _ _ _ h => h);(focus (apply yRun rfl;intro w;first | (go_simp;done) | (go_simp;rfl)));(focus (exact hS.conv));simp only [putW]);(apply takeIf (i := 9) rfl (by kernel_rfl) (fun _ _ _ h => h);(focus (apply yRun rfl;intro w;first | (go_simp;done) | (go_simp;rfl)));(focus (exact hS.conv));simp only [putW]);refine wpAnyH_all (rs := [10]) (by kernel_rfl) (by simp) ?_;intro i hi;simp only [List.mem_cons,List.not_mem_nil,or_false] at hi;subst hi;refine wpOp_of_list rfl ?_;go_wp2_with (refine store1 hS rfl rfl rfl rfl rfl ?_ ?_;(focus (simp;done));clear hS;intro w hS;simp only [evW,putW] at hS;try simp only [putW]);refine ⟨rfl,hS.conv,?_⟩;refine wpAnyH_done (by kernel_rfl) ?_ _;(go_wp2_with (refine load1 hS rfl rfl rfl rfl ?_;simp only [putW]);go_roundg g;(case measure => omega);(case rel => exact ⟨k + 1,_,_,by omega,by go_num,hnext,hfin (gw := gw) (cw := cw) (gr := gr) hS.conv⟩)))))))
abbrev pairP (d r l x : Nat) (vj vk : Value) : Array Value := #[.pointer (some ⟨d,0,none⟩),.pointer (some ⟨r,0,none⟩),.pointer (some ⟨l,0,none⟩),.pointer (some ⟨x,0,none⟩),vj,vk]
set_option maxRecDepth 100000 in
set_option maxHeartbeats 4000000 in
theorem begun22 {n : Nat} (hn1 : 1 ≤ n) (hn2 : n ≤ 65536) : Calls Tryd.prog 5 #[.int .i64 n] w0 fun e w' => ∃ p d r l x,e = .returned (.pointer (some ⟨p,0,none⟩)) ∧ Sat w0 [(p,cells (pairP d r l x (.pointer none) (.pointer none)) 41),(1,LogV (.pointer (some ⟨l,0,none⟩)) []),(r,RegC d st0),(d,DevC (fresh n))] w' := by
  have hS := Sat.refl w0
  go_enter Tryd.func5,Tryd.ntmps5
  go_wp2_with (guard_target =~ Calls _ 24 _ _ _;refine Stopped.out ?_)
  refine ⟨?_⟩
  (refine Calls.mono (devNew_any hn1 hn2) ?_;rintro _ w2 ⟨d,rfl,h2⟩;replace hS := hS.frame h2;clear h2;(try simp only [List.cons_append,List.nil_append] at hS);simp only [putW])
  go_wp2_with (guard_target =~ Calls _ 25 _ _ _;refine Stopped.out ?_)
  refine ⟨?_⟩
  (refine Calls.mono (regNew_any (d := d)) ?_;rintro _ w2 ⟨r,rfl,h2⟩;replace hS := hS.frame h2;clear h2;(try simp only [List.cons_append,List.nil_append] at hS);simp only [putW])
  go_wp2_with (guard_target =~ Calls _ 26 _ _ _;refine Stopped.out ?_)
  refine ⟨?_⟩
  (refine Calls.mono (ghostNew_any) ?_;rintro _ w2 ⟨l,rfl,h2⟩;replace hS := hS.frame h2;clear h2;(try simp only [List.cons_append,List.nil_append] at hS);simp only [putW])
  go_wp2_with (guard_target =~ Calls _ 27 _ _ _;refine Stopped.out ?_)
  refine ⟨?_⟩
  (refine Calls.mono (refDevNew hn1 hn2) ?_;rintro _ w2 ⟨x,rfl,X,v,-,h2⟩;replace hS := hS.frame h2;clear h2;(try simp only [List.cons_append,List.nil_append] at hS);simp only [putW])
  go_wp2_with (first | (refine buildS (segs := [[.pointer none],stV st0]) (out := .pointer (some ⟨x,0,none⟩)::stV st0) rfl rfl [(0,.pointer (some ⟨x,0,none⟩))] rfl (fun p hp => by rw [List.mem_singleton.1 hp];rfl) (by simp [setSegs,Value.cells]) ?_;simp only [putW]) | (refine boxN (cs := (.pointer (some ⟨x,0,none⟩)::stV st0).toArray) hS rfl rfl rfl ?_;clear hS;intro mx w hS;simp only [putW]) | (refine boxN (cs := pairP d r l mx (.pointer none) (.pointer none)) hS rfl rfl rfl ?_;clear hS;intro mp w hS;simp only [putW]))
  go_ret
  have h7 := logSome (hS.pull l (X := LogC []))
  exact ⟨mp,d,r,l,mx,rfl,h7.conv⟩
end
end Go.Proofs.YtdkimdobcacpfaaDoor
namespace Go.Proofs.YtdkimdobcacpfaaDoor
open Go.RowKit Go.Proofs.YtdkimdobcacpfaaDoor.Sl Go.Proofs.YtdkimdobcacpfaaDoor.Sha Go.Proofs.YtdkimdobcacpfaaDoor.Jp Go.Proofs.YtdkimdobcacpfaaDoor.Tr Go.Proofs.YtdkimdobcacpfaaDoor.Dv

def cf1 : Cf := ⟨1,3,0,0,false,6,0⟩
theorem one_new : ∃ nd,newNd 1 = [nd] ∧ newRoot 1 = dig 2 nd ∧ isRow nd ∧ newBs 1 = [z256] := by
  have h1 : newNd 1 = ab dig 1 [z256] 1 := rfl
  have h2 : (ab dig 1 [z256] 1).length = 1 := by rw [ab_len]
  have h3 := ab_rows dig_len' dig_okB 1 [z256] 1
  match hm : ab dig 1 [z256] 1,h2 with
  | [nd],_ =>
    refine ⟨nd,by rw [h1,hm],?_,h3 nd (by rw [hm];simp),rfl⟩
    show dig (1 + 1) ((ab dig 1 [z256] 1).getD 0 []) = _
    rw [hm]
    rfl
/-- The device behind the writes, behind the flush, behind the register, behind the boot. -/
theorem one_wr {nd : Row} (h : isRow nd) : wrAll (fresh 10) 1 ([z256] ++ [nd]) = (⟨List.replicate 10 z256,[(1,z256),(2,nd)],false,0,2,[(1,z256),(2,nd)]⟩,0) := by
  have hz : z256.length = 256 := isRow_z.1
  simp [wrAll,Dev.write,Dev.ready,fresh,Dev.put,Dev.spend,hz,h.1]
theorem one_fl (nd : Row) : (⟨List.replicate 10 z256,[(1,z256),(2,nd)],false,0,2,[(1,z256),(2,nd)]⟩ : Dev).flush = (⟨((List.replicate 10 z256).set 1 z256).set 2 nd,[],false,0,3,[(1,z256),(2,nd)]⟩,0) := rfl
theorem one_rg (D : Dev) (ho : D.off = false) (ha : D.armed = 0) : regWrite D st0 (newSt cf1) = (D.spend,newSt cf1,0) := by
  have hf : st0.follows (newSt cf1) = true := by
    unfold Rg.follows
    simp [Rg.right,newSt,cf1]
  unfold regWrite
  simp [ho,hf,Dev.spend,ha]
theorem one_boot (D : Dev) (hn : D.st.length = 10) (ho : D.off = false) (ha : D.armed = 0) (hr : dig 2 (D.now 2) = newRoot 1) : bootN D (newSt cf1) = (D.spend,bump (newSt cf1),bump (newSt cf1),0) := by
  have hfit : fits D.st.length (newSt cf1).pages (newSt cf1).budget := by
    rw [hn]
    exact ⟨by decide,by decide,by decide⟩
  have hf : (newSt cf1).follows (bump (newSt cf1)) = true := by
    unfold Rg.follows
    simp [Rg.right,newSt,cf1,bump]
  have hw : regWrite D (newSt cf1) (bump (newSt cf1)) = (D.spend,bump (newSt cf1),0) := by
    unfold regWrite
    simp [ho,hf,Dev.spend,ha]
  have hp : ¬ (newSt cf1).pages = 0 := by show ¬ (1 : Int) = 0;omega
  have hb : ¬ (newSt cf1).boot = 4294967295 := by show ¬ (6 : Int) = 4294967295;omega
  unfold bootN
  rw [if_neg (by rw [ho];simp),if_neg hp,if_neg (not_not_intro hfit),if_neg hb,hw,if_neg (fun h => h rfl)]
  have ht : plTop (bump (newSt cf1)) = 2 := by decide
  unfold bootEnd
  rw [ht,show D.spend.now 2 = D.now 2 from rfl,hr,if_pos (by rfl)]
end Go.Proofs.YtdkimdobcacpfaaDoor
namespace Go.Proofs.YtdkimdobcacpfaaDoor
open Go.RowKit Go.Proofs.YtdkimdobcacpfaaDoor.Sl Go.Proofs.YtdkimdobcacpfaaDoor.Sha Go.Proofs.YtdkimdobcacpfaaDoor.Jp Go.Proofs.YtdkimdobcacpfaaDoor.Tr Go.Proofs.YtdkimdobcacpfaaDoor.Dv

section
variable {w0 w : World} {K F S : List Chunk} {d r l p x : Nat} {D : Dev} {cv lg : Value}
theorem format_one (hK : KTab w0) (hS : Sat w0 ((1,LogV lg [])::(r,RegC d st0)::(d,DevC (fresh 10))::K) w) :
    Calls Tryd.prog 9 #[.pointer (some ⟨d,0,none⟩),.pointer (some ⟨r,0,none⟩),.agg (cfV cf1),lg] w fun e w' => e = .returned (.int .i64 0) ∧ ∃ D4 D5 L,Bx (D4.Sz ∧ bootN D4 (newSt cf1) = (D5,bump (newSt cf1),bump (newSt cf1),0) ∧ D5.count = 5 ∧ List.length L ≤ 1000) ∧ Sat w0 ((1,LogV lg L)::(r,RegC d (newSt cf1))::(d,DevC D4)::K) w' := by
  obtain ⟨nd,h1,h2,h3,h4⟩ := one_new
  have hfit : fits (fresh 10).st.length cf1.pages cf1.budget := by
    rw [show (fresh 10).st.length = 10 from rfl]
    exact ⟨by decide,by decide,by decide⟩
  have hf := format_go (c := cf1) (Ps := []) (n0 := 0) ⟨Nat.le_refl _,Nat.le_refl _,Nat.le_refl _,by decide⟩ (by omega) hfit (by decide) rfl ⟨by decide,by decide⟩ (by simp) hK hS
  refine hf.mono fun e w' hp => ?_
  have hw : wrAll (fresh 10) cf1.pages.toNat (newBs cf1.pages.toNat ++ newNd cf1.pages.toNat) = (⟨List.replicate 10 z256,[(1,z256),(2,nd)],false,0,2,[(1,z256),(2,nd)]⟩,0) := by
    show wrAll (fresh 10) 1 (newBs 1 ++ newNd 1) = _
    rw [h4,h1]
    exact one_wr h3
  rw [hw] at hp
  rcases hp with ⟨hn,-⟩ | ⟨-,hn,-⟩ | ⟨-,-,he,hs⟩
  · exact absurd rfl hn
  · rw [one_fl] at hn;exact absurd rfl hn
  · rw [one_fl] at he hs
    have hr := one_rg (⟨((List.replicate 10 z256).set 1 z256).set 2 nd,[],false,0,3,[(1,z256),(2,nd)]⟩ : Dev) rfl rfl
    rw [hr] at he hs
    refine ⟨he,_,_,_,⟨⟨?_,one_boot _ rfl rfl rfl ?_,rfl,?_⟩⟩,hs⟩
    · exact ⟨(by omega : 0 ≤ 1000000),(by omega : 2 ≤ 1000000),(by omega : 4 ≤ 1000000000000),(by omega : 0 ≤ 9223372036854775807)⟩
    · rw [h2];rfl
    · show ([] ++ newL 1).length ≤ 1000
      decide
set_option maxRecDepth 100000 in
set_option maxHeartbeats 8000000 in
theorem awake22 (hK : KTab w0) : Calls Tryd.prog 13 #[] w0 fun e w' => e = .returned (.bool true) ∧ Sat w0 [] w' := by
  have hS := Sat.refl w0
  have HK : Bx _ := ⟨hK⟩
  go_enter Tryd.func13,Tryd.ntmps13
  go_wp2_with (guard_target =~ Calls _ 5 _ _ _;refine Stopped.out ?_)
  refine ⟨?_⟩
  (refine Calls.mono (begun22 (n := 10) (by omega) (by omega)) ?_;rintro _ w2 ⟨p,d,r,l,x,rfl,h2⟩;replace hS := hS.frame h2;clear h2;(try simp only [List.cons_append,List.nil_append] at hS);simp only [putW])
  go_upto_region 2 with (refine load1 hS rfl rfl rfl rfl ?_;simp only [putW])
  (refine wp_region_held (S := fun w' => Sat w0 ((p,cells (pairP d r l x (.pointer none) (.pointer none)) 41)::[]) w') (by kernel_rfl) ?_;replace hS := hS.drew;(refine takeIf (i := 0) rfl (by kernel_rfl) (fun _ _ _ h => h) (yMove rfl rfl rfl) hS.conv ?_;simp only [evW,putW]);(apply takeIf (i := 1) rfl (by kernel_rfl) (fun _ _ _ h => h);(focus (apply yRun rfl;intro w;first | (go_simp;done) | (go_simp;rfl)));(focus (exact hS.conv));simp only [putW]);(apply takeIf (i := 2) rfl (by kernel_rfl) (fun _ _ _ h => h);(focus (apply yRun rfl;intro w;first | (go_simp;done) | (go_simp;rfl)));(focus (exact hS.conv));simp only [putW]);(refine takeIf (i := 3) rfl (by kernel_rfl) (fun _ _ _ h => h) (yLoad1 (fun _ h => h) rfl rfl rfl rfl) hS.conv ?_;simp only [putW]);(refine takeIf (i := 4) rfl (by kernel_rfl) (fun _ _ _ h => h) (yMove rfl rfl rfl) hS.conv ?_;simp only [evW,putW]);(apply takeIf (i := 5) rfl (by kernel_rfl) (fun _ _ _ h => h);(focus (apply yRun rfl;intro w;first | (go_simp;done) | (go_simp;rfl)));(focus (exact hS.conv));simp only [putW]);(apply takeIf (i := 6) rfl (by kernel_rfl) (fun _ _ _ h => h);(focus (apply yRun rfl;intro w;first | (go_simp;done) | (go_simp;rfl)));(focus (exact hS.conv));simp only [putW]);(refine takeIf (i := 7) rfl (by kernel_rfl) (fun _ _ _ h => h) (yLoad1 (fun _ h => h) rfl rfl rfl rfl) hS.conv ?_;simp only [putW]);(apply takeIf (i := 8) rfl (by kernel_rfl) (fun _ _ _ h => h);(focus (apply yRun rfl;intro w;first | (go_simp;done) | (go_simp;rfl)));(focus (exact hS.conv));simp only [putW]);(refine takeIf (i := 9) rfl (by kernel_rfl) (fun _ _ _ h => h) (yMove rfl rfl rfl) hS.conv ?_;simp only [evW,putW]);(apply takeIf (i := 10) rfl (by kernel_rfl) (fun _ _ _ h => h);(focus (apply yRun rfl;intro w;first | (go_simp;done) | (go_simp;rfl)));(focus (exact hS.conv));simp only [putW]);(apply takeIf (i := 11) rfl (by kernel_rfl) (fun _ _ _ h => h);(focus (apply yRun rfl;intro w;first | (go_simp;done) | (go_simp;rfl)));(focus (exact hS.conv));simp only [putW]);(refine takeIf (i := 12) rfl (by kernel_rfl) (fun _ _ _ h => h) (yLoad1 (fun _ h => h) rfl rfl rfl rfl) hS.conv ?_;simp only [putW]);refine wpAnyH_all (rs := [13]) (by kernel_rfl) (by simp) ?_;intro i hi;simp only [List.mem_cons,List.not_mem_nil,or_false] at hi;subst hi;refine wpOp_of_list rfl ?_;go_wp2_with (go_at_call 9;refine Calls.mono (format_one HK.out (hS.conv (S' := (1,LogV (.pointer (some ⟨l,0,none⟩)) [])::(r,RegC d st0)::(d,DevC (fresh 10))::(p,cells (pairP d r l x (.pointer none) (.pointer none)) 41)::[]))) ?_;clear hS;rintro _ w ⟨rfl,D4,D5,L,hD,hS⟩;simp only [putW]);refine ⟨rfl,hS.conv,?_⟩;(apply takeIf (i := 14) rfl (by kernel_rfl) (fun _ _ _ h => h);(focus (apply yRun rfl;intro w;first | (go_simp;done) | (go_simp;rfl)));(focus (exact hS.conv));simp only [putW]);refine wpAnyH_done (by kernel_rfl) ?_ _;skip)
  obtain ⟨B,hB⟩ : ∃ B,bump (newSt cf1) = B := ⟨_,rfl⟩
  have hbw : B.Wf := by rw [← hB];exact bump_wf (newSt_wf ⟨by decide,by decide⟩ ⟨by decide,by decide⟩ ⟨by decide,by decide⟩) (by decide)
  have HC3 : Bx (CellIs (stV B).toArray 3 (.int .u32 7)) := ⟨by rw [← hB];exact stCell3 _⟩
  have HBl : Bx ((stV B).toArray.size = 72) := ⟨by rw [List.size_toArray];exact stV_len hbw⟩
  have hbt := hD.out.2.1
  rw [hB] at hbt
  have HBt : Bx _ := ⟨hbt⟩
  clear hbt hbw hB
  go_upto_region 3 with (refine load1 hS rfl rfl rfl rfl ?_;simp only [putW])
  have hbo : ∀ {K : List Chunk} {w : World},Sat w0 ((1,LogV (.pointer (some ⟨l,0,none⟩)) L)::(r,RegC d (newSt cf1))::(d,DevC D4)::K) w → Calls Tryd.prog 6 #[.pointer (some ⟨d,0,none⟩),.pointer (some ⟨r,0,none⟩),.pointer (some ⟨l,0,none⟩)] w fun e w' => e = .returned (btRes B 0) ∧ Sat w0 ((1,LogV (.pointer (some ⟨l,0,none⟩)) (L ++ bootL D4 (newSt cf1)))::(r,RegC d B)::(d,DevC D5)::K) w' := fun {K w} h => by
    have h1 := boot_any (D := D4) (R := newSt cf1) hD.out.1 (newSt_wf ⟨by decide,by decide⟩ ⟨by decide,by decide⟩ ⟨by decide,by decide⟩) rfl (by have := hD.out.2.2.2;omega) HK.out h
    rw [HBt.out] at h1
    exact h1
  have hct := hD.out.2.2.1
  have HCt : Bx _ := ⟨hct⟩
  clear hct hK
  (refine wp_region_held (S := fun w' => Sat w0 ((p,cells (pairP d r l x (.pointer none) (.pointer none)) 41)::[]) w') (by kernel_rfl) ?_;replace hS := hS.drew;(refine takeIf (i := 0) rfl (by kernel_rfl) (fun _ _ _ h => h) (yMove rfl rfl rfl) hS.conv ?_;simp only [evW,putW]);(apply takeIf (i := 1) rfl (by kernel_rfl) (fun _ _ _ h => h);(focus (apply yRun rfl;intro w;first | (go_simp;done) | (go_simp;rfl)));(focus (exact hS.conv));simp only [putW]);(apply takeIf (i := 2) rfl (by kernel_rfl) (fun _ _ _ h => h);(focus (apply yRun rfl;intro w;first | (go_simp;done) | (go_simp;rfl)));(focus (exact hS.conv));simp only [putW]);(refine takeIf (i := 3) rfl (by kernel_rfl) (fun _ _ _ h => h) (yLoad1 (fun _ h => h) rfl rfl rfl rfl) hS.conv ?_;simp only [putW]);(refine takeIf (i := 4) rfl (by kernel_rfl) (fun _ _ _ h => h) (yMove rfl rfl rfl) hS.conv ?_;simp only [evW,putW]);(apply takeIf (i := 5) rfl (by kernel_rfl) (fun _ _ _ h => h);(focus (apply yRun rfl;intro w;first | (go_simp;done) | (go_simp;rfl)));(focus (exact hS.conv));simp only [putW]);(apply takeIf (i := 6) rfl (by kernel_rfl) (fun _ _ _ h => h);(focus (apply yRun rfl;intro w;first | (go_simp;done) | (go_simp;rfl)));(focus (exact hS.conv));simp only [putW]);(refine takeIf (i := 7) rfl (by kernel_rfl) (fun _ _ _ h => h) (yLoad1 (fun _ h => h) rfl rfl rfl rfl) hS.conv ?_;simp only [putW]);(refine takeIf (i := 8) rfl (by kernel_rfl) (fun _ _ _ h => h) (yMove rfl rfl rfl) hS.conv ?_;simp only [evW,putW]);(apply takeIf (i := 9) rfl (by kernel_rfl) (fun _ _ _ h => h);(focus (apply yRun rfl;intro w;first | (go_simp;done) | (go_simp;rfl)));(focus (exact hS.conv));simp only [putW]);(apply takeIf (i := 10) rfl (by kernel_rfl) (fun _ _ _ h => h);(focus (apply yRun rfl;intro w;first | (go_simp;done) | (go_simp;rfl)));(focus (exact hS.conv));simp only [putW]);(refine takeIf (i := 11) rfl (by kernel_rfl) (fun _ _ _ h => h) (yLoad1 (fun _ h => h) rfl rfl rfl rfl) hS.conv ?_;simp only [putW]);refine wpAnyH_all (rs := [12,16]) (by kernel_rfl) (by simp) ?_;intro i hi;simp only [List.mem_cons,List.not_mem_nil,or_false] at hi;rcases hi with rfl | rfl;(focus (refine wpOp_of_list rfl ?_;go_wp2_with (go_at_call 6;refine Calls.mono (hbo (((hS.pull d (X := DevC D4)).pull r (X := RegC d (newSt cf1))).pull 1 (X := LogV (.pointer (some ⟨l,0,none⟩)) L))) ?_;clear hS;rintro _ w ⟨rfl,hS⟩;simp only [putW]);refine ⟨rfl,hS.conv,?_⟩;(refine takeIf (i := 13) rfl (by kernel_rfl) (fun _ _ _ h => h) (yMove rfl rfl rfl) hS.conv ?_;simp only [evW,putW]);(apply takeIf (i := 14) rfl (by kernel_rfl) (fun _ _ _ h => h);(focus (apply yRun rfl;intro w;first | (go_simp;done) | (go_simp;rfl)));(focus (exact hS.conv));simp only [putW]);(apply takeIf (i := 15) rfl (by kernel_rfl) (fun _ _ _ h => h);(focus (apply yRun rfl;intro w;first | (go_simp;done) | (go_simp;rfl)));(focus (exact hS.conv));simp only [putW]);refine wpAnyH_all (rs := [16]) (by kernel_rfl) (by simp) ?_;intro i hi;simp only [List.mem_cons,List.not_mem_nil,or_false] at hi;subst hi;refine wpOp_of_list rfl ?_;go_wp2_with (refine allocS (t := 28) hS rfl rfl (stV st0).toArray st0_cells ?_;clear hS;intro m3 w hS;simp only [putW]);refine ⟨rfl,hS.conv,?_⟩;refine wpAnyH_all (rs := [17]) (by kernel_rfl) (by simp) ?_;intro i hi;simp only [List.mem_cons,List.not_mem_nil,or_false] at hi;subst hi;refine wpOp_of_list rfl ?_;go_wp2_with (refine storeAll (b := m3) (cs := (stV B).toArray) hS rfl rfl rfl rfl HBl.out (stOne B) st0_len ?_;clear hS;intro w hS;try simp only [putW]);refine ⟨rfl,hS.conv,?_⟩;(apply takeIf (i := 18) rfl (by kernel_rfl) (fun _ _ _ h => h);(focus (apply yRun rfl;intro w;first | (go_simp;done) | (go_simp;rfl)));(focus (exact hS.conv));simp only [putW]);refine wpAnyH_done (by kernel_rfl) ?_ _;(go_wp2_with (first | (refine loadC (b := m3) (c := (stV B).toArray) hS rfl rfl rfl HC3.out ?_;simp only [putW]) | (go_at_call 12;refine Calls.mono (devCount_any (hS.conv (S' := (d,DevC D5)::[]))) ?_;rw [HCt.out];clear hS;rintro _ w ⟨rfl,hS⟩;simp only [putW]) | (refine load1 hS rfl rfl rfl rfl ?_;simp only [putW]));go_ret;exact ⟨rfl,hS.nothing⟩)));(focus (refine wpOp_of_list rfl ?_;go_wp2_with (refine allocS (t := 28) hS rfl rfl (stV st0).toArray st0_cells ?_;clear hS;intro m3 w hS;simp only [putW]);refine ⟨rfl,hS.conv,?_⟩;refine wpAnyH_all (rs := [12]) (by kernel_rfl) (by simp) ?_;intro i hi;simp only [List.mem_cons,List.not_mem_nil,or_false] at hi;subst hi;refine wpOp_of_list rfl ?_;go_wp2_with (go_at_call 6;refine Calls.mono (hbo (((hS.pull d (X := DevC D4)).pull r (X := RegC d (newSt cf1))).pull 1 (X := LogV (.pointer (some ⟨l,0,none⟩)) L))) ?_;clear hS;rintro _ w ⟨rfl,hS⟩;simp only [putW]);refine ⟨rfl,hS.conv,?_⟩;(refine takeIf (i := 13) rfl (by kernel_rfl) (fun _ _ _ h => h) (yMove rfl rfl rfl) hS.conv ?_;simp only [evW,putW]);(apply takeIf (i := 14) rfl (by kernel_rfl) (fun _ _ _ h => h);(focus (apply yRun rfl;intro w;first | (go_simp;done) | (go_simp;rfl)));(focus (exact hS.conv));simp only [putW]);(apply takeIf (i := 15) rfl (by kernel_rfl) (fun _ _ _ h => h);(focus (apply yRun rfl;intro w;first | (go_simp;done) | (go_simp;rfl)));(focus (exact hS.conv));simp only [putW]);refine wpAnyH_all (rs := [17]) (by kernel_rfl) (by simp) ?_;intro i hi;simp only [List.mem_cons,List.not_mem_nil,or_false] at hi;subst hi;refine wpOp_of_list rfl ?_;go_wp2_with (refine storeAll (b := m3) (cs := (stV B).toArray) hS rfl rfl rfl rfl HBl.out (stOne B) st0_len ?_;clear hS;intro w hS;try simp only [putW]);refine ⟨rfl,hS.conv,?_⟩;(apply takeIf (i := 18) rfl (by kernel_rfl) (fun _ _ _ h => h);(focus (apply yRun rfl;intro w;first | (go_simp;done) | (go_simp;rfl)));(focus (exact hS.conv));simp only [putW]);refine wpAnyH_done (by kernel_rfl) ?_ _;(go_wp2_with (first | (refine loadC (b := m3) (c := (stV B).toArray) hS rfl rfl rfl HC3.out ?_;simp only [putW]) | (go_at_call 12;refine Calls.mono (devCount_any (hS.conv (S' := (d,DevC D5)::[]))) ?_;rw [HCt.out];clear hS;rintro _ w ⟨rfl,hS⟩;simp only [putW]) | (refine load1 hS rfl rfl rfl rfl ?_;simp only [putW]));go_ret;exact ⟨rfl,hS.nothing⟩))))
end
end Go.Proofs.YtdkimdobcacpfaaDoor
