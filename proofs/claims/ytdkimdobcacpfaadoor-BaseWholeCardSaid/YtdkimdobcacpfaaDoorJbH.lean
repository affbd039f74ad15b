/-
  base.Job: the row of what is to be done is laid (plan).
-/
import Derived.Test.YtdkimdobcacpfaaDoorJbA
import Derived.Test.YtdkimdobcacpfaaDoorJbV
set_option linter.unusedSimpArgs false
set_option linter.unusedVariables false
namespace Go.Proofs.YtdkimdobcacpfaaDoor
open Go.RowKit Go.Proofs.YtdkimdobcacpfaaDoor.Sl Go.Proofs.YtdkimdobcacpfaaDoor.Sha Go.Proofs.YtdkimdobcacpfaaDoor.Jp Go.Proofs.YtdkimdobcacpfaaDoor.Tr Go.Proofs.YtdkimdobcacpfaaDoor.Dv

/-- What a register is told while images go home. -/
def busyR (s : Rg) (m : List Int) : Rg := { s with busy := true,mark := m }
theorem busyR_wf {s : Rg} {m : List Int} (h : s.Wf) (hm : isDig m) : (busyR s m).Wf := ⟨h.pages,h.budget,h.boot,h.version,h.epoch,h.cursor,h.root,hm⟩
theorem stSet7t (s : Rg) : (stV s).toArray.setIfInBounds 7 (.bool true) = (stV { s with busy := true }).toArray := by
  rw [List.setIfInBounds_toArray]
  rfl
theorem stSet40m {s : Rg} (h : s.Wf) {m : List Int} (hm : m.length = 32) : ((stV s).toArray.toList.take 40 ++ ((m.map u8v).toArray).toList ++ (stV s).toArray.toList.drop (40 + 32)).toArray = (stV { s with mark := m }).toArray := by
  have e : stV s = (.int .i64 s.pages::.int .i64 s.budget::.bool s.wide::.int .u32 s.boot::.int .u64 s.version::.int .u32 s.epoch::.int .i64 s.cursor::.bool s.busy::s.root.map u8v) ++ s.mark.map u8v := rfl
  have hl : (Value.int .i64 s.pages::.int .i64 s.budget::.bool s.wide::.int .u32 s.boot::.int .u64 s.version::.int .u32 s.epoch::.int .i64 s.cursor::.bool s.busy::s.root.map u8v).length = 40 := by simp [h.root.1]
  have hd : (stV s).drop (40 + 32) = [] := List.drop_eq_nil_of_le (by rw [stV_len h];exact Nat.le_refl _)
  show ((stV s).take 40 ++ m.map u8v ++ (stV s).drop (40 + 32)).toArray = _
  rw [hd,List.append_nil,e,List.take_left' hl]
  rfl
/-- The head that a version, homes and a budget make. -/
def headR (v : Int) (L : List (Nat × Row)) (b : Nat) : List Row := cut (full v (jobBs L) b) (heads b)
/-- The steps that the head makes, so many of them. -/
def wrK (H : List Row) (k : Nat) : List StK := ((H.zipIdx 0).take k).map fun x => .wr x.2 x.1
theorem wrK_succ {H : List Row} {k : Nat} {r : Row} (h : H[k]? = some r) : wrK H (k + 1) = wrK H k ++ [.wr k r] := by
  unfold wrK
  have h1 : (H.zipIdx 0)[k]? = some (r,k) := by rw [List.getElem?_zipIdx,h];simp
  rw [List.take_add_one,h1,List.map_append]
  rfl
theorem wrK_len {H : List Row} {k : Nat} (h : k ≤ H.length) : (wrK H k).length = k := by
  unfold wrK
  rw [List.length_map,List.length_take,List.length_zipIdx]
  omega
def hmK (k : Nat) : List StK := (List.range k).map .hm
theorem hmK_succ (k : Nat) : hmK (k + 1) = hmK k ++ [.hm k] := by
  unfold hmK
  rw [List.range_succ,List.map_append]
  rfl
abbrev stF (d bj bn : Nat) (x : StM) : List Value := [stVal d bj bn x]
theorem stF_one (d bj bn : Nat) (x : StM) : ∀ u ∈ stF d bj bn x,u.oneCell' = true := by
  intro u hu
  rw [List.mem_singleton.1 hu]
  unfold stVal
  split <;> rfl
section
variable {w0 w : World} {K F S : List Chunk} {n d r j bj bn : Nat} {D : Dev} {cv lg : Value} {pl : Pl} {Ps : List (List Int × List Int)} {L : List (Nat × Row)} {s : Rg}
/-- A mark is set. -/
theorem storeMark2 {ops : Array Oper} {rest : List Oper} {o : Oper} {a : Act} {Q : Exit → Act → World → Prop} {x y : Operand} {b : Nat} {tb : TypeId} {m : List Int} (hS : Sat w0 S w) (hw : Region.wanted o (yielded ops a.tmps) = true) (ho : o.op = .store 26 x y) (hx : a.eval x = .pointer (some ⟨b,40,none⟩)) (hy : a.eval y = .agg (m.map u8v).toArray) (hs : s.Wf) (hm : m.length = 32)
    [Pull S b (cells (stV s).toArray tb) F] (k : ∀ w',Sat w0 ((b,cells (stV { s with mark := m }).toArray tb)::F) w' → wpList Tryd.prog ops Q rest (a.put o.dst undef) w') : wpList Tryd.prog ops Q (o::rest) a w := by
  refine storeN hS hw ho hx hy (by simpa using hm) (fun u hu => by obtain ⟨y,_,rfl⟩ := List.mem_map.1 hu;rfl) (b := b) (c := (stV s).toArray) (tb := tb) (by rw [List.size_toArray,stV_len hs];omega) fun w' h => ?_
  rw [stSet40m hs hm] at h
  exact k w' h
/-- Two steps of a literal, read. -/
theorem litStM {mb : Nat} {y1 y2 : StM} {u1 u2 : Value} {T : TypeId} (h1 : stVal d bj bn y1 = u1) (h2 : stVal d bj bn y2 = u2) (h : Sat w0 S w) [p : Pull S mb (cells #[u1,u2] T) F] : BSl w 1 (stF d bj bn) (fun _ => True) [y1,y2] (.slice (some ⟨mb,0,none⟩) 2 2) := by
  subst h1;subst h2
  have h3 := (h.pull mb (X := cells #[stVal d bj bn y1,stVal d bj bn y2] T)).toSlc (l := [y1,y2]) (cap := 2) (n := 1) (f := stF d bj bn) rfl (by simp) (by simp [maxLen]) rfl (fun _ _ => rfl)
  exact h3.readsSlc (g := mb) (L := [y1,y2]) (cap := 2) (t := T) fun _ _ => trivial
theorem stEnv_snoc0 {x : StM} {X : List StM} (hx : stChunks x = []) (h : Sat w0 ((77,stEnv X)::F) w) : Sat w0 ((77,stEnv (X ++ [x]))::F) w := stEnv_snoc (by rw [hx];exact h)
/-- The rows that the steps hold, read. -/
theorem stEnv_reads {X : List StM} {x : StM} {i : Nat} {B : Row} (h : Sat w0 ((77,stEnv X)::F) w) (hx : x ∈ X) (hk : x.k = .wr i B) (hB : ∀ b ∈ B,okByte b) : RB w B x.v := by
  obtain ⟨A1,A2,rfl⟩ := List.append_of_mem hx
  have h1 := h.open (T := (A1 ++ x::A2).flatMap stChunks) fun _ h => h
  rw [List.flatMap_append,List.flatMap_cons] at h1
  have hp : ∀ (A B C : List Chunk),(A ++ (B ++ C)).Perm (B ++ (A ++ C)) := fun A B C => by
    rw [← List.append_assoc,← List.append_assoc]
    exact List.Perm.append_right C List.perm_append_comm
  simp only [List.append_assoc] at h1
  have h2 : Sat w0 (stChunks x ++ (A1.flatMap stChunks ++ (A2.flatMap stChunks ++ F))) w := h1.perm (hp _ _ _)
  have e : stChunks x = [(x.m1,cells #[.int .i64 i] 3),(x.m2,cells #[x.v] 48),(blk x.v,sl 1 by8 B 5 x.v)] := by unfold stChunks;rw [hk]
  rw [e] at h2
  simp only [List.cons_append,List.nil_append] at h2
  exact h2.readsSl (v := x.v) (L := B) hB
set_option maxRecDepth 100000 in
set_option maxHeartbeats 16000000 in
theorem plan_any {vB vD vI : Value} {XI : List (Value × List Int)} (hf : XI.map (·.2) = L.map (·.2) ∧ (∀ x ∈ L,x.1 < pl.hd ∧ isRow x.2) ∧ L.length ≤ pl.b) (hs : s.Wf) (hb : 1 ≤ pl.b ∧ pl.b ≤ 256) (hhd : pl.hd ≤ 65536) (hP : Ps.length ≤ 900000) (hK : KTab w0)
    (hS : Sat w0 ((1,LogV lg Ps)::(j,cells (jobA d r lg pl vB vD vI (.slice none 0 0) true 0) 90)::(blk vB,sl 1 i64 (jobBs L) 3 vB)::(blk vD,sl 32 digF (jobDs L) 26 vD)::(blk vI,sl 1 rowF XI 48 vI)::(79,inn XI 5)::K) w) :
    Calls Tryd.prog 34 #[.pointer (some ⟨j,0,none⟩),.agg (stV s).toArray] w fun e w' => ∃ vS bj bn St,e = .returned (.int .i64 0) ∧ Bx (St.map (·.k) = wrK (headR s.version L pl.b) (heads pl.b) ++ [.fl,.rg1] ++ hmK L.length ++ [.fl,.rg2]) ∧
      Sat w0 ((1,LogV lg (Ps ++ [(mkM (headR s.version L pl.b) (L.map (·.2)),mkF (headR s.version L pl.b) (L.map (·.2)))]))::(j,cells (jobA d r lg pl vB vD (.slice none 0 0) vS true 0) 90)::(blk vB,sl 1 i64 (jobBs L) 3 vB)::(blk vD,sl 32 digF (jobDs L) 26 vD)::(bj,cells #[.pointer (some ⟨j,0,none⟩)] 38)::(bn,cells (stV (busyR s (mkF (headR s.version L pl.b) (L.map (·.2))))).toArray 28)::(blk vS,sl 1 (stF d bj bn) St 91 vS)::(77,stEnv St)::K) w' := by
  obtain ⟨vn,hvn⟩ : ∃ vn : Nat,s.version = vn := ⟨s.version.toNat,by have := hs.version.1;omega⟩
  have hv64 : vn < 18446744073709551616 := by have := hs.version.2;omega
  obtain ⟨m,hm⟩ : ∃ m,L.length = m := ⟨_,rfl⟩
  have hmB : (jobBs L).length = m := by rw [← hm];exact List.length_map _
  have hokL : okL (jobBs L) pl.b := ⟨⟨by omega,by omega⟩,by rw [hmB];have := hf.2.2;omega,fun x hx => by
    obtain ⟨y,hy,rfl⟩ := List.mem_map.1 hx
    have := (hf.2.1 y hy).1
    omega⟩
  obtain ⟨H,hH⟩ : ∃ H,headR s.version L pl.b = H := ⟨_,rfl⟩
  obtain ⟨hn,hhn⟩ : ∃ hn,heads pl.b = hn := ⟨_,rfl⟩
  have hH2 : cut (full vn (jobBs L) pl.b) hn = H := by rw [← hH,← hhn,← hvn];rfl
  have hHl : H.length = hn := by rw [← hH2];exact cut_length _ _
  have hHr : ∀ r ∈ H,isRow r := fun r hr => by
    rw [← hH2,← hhn] at hr
    exact ⟨cut_mem (full_length hokL) hr,cut_byt (full_byt _ _ _) hr⟩
  have hn5 : 1 ≤ hn ∧ hn ≤ 5 := by rw [← hhn];unfold heads;omega
  obtain ⟨mk,hmk⟩ : ∃ mk,mkF H (L.map (·.2)) = mk := ⟨_,rfl⟩
  have hmkd : isDig mk := by rw [← hmk];exact mkF_dig _ _
  rw [hH,hhn,hmk,hm]
  have HL : Bx ((stV s).toArray.size = 72) := ⟨by rw [List.size_toArray];exact stV_len hs⟩
  have HC4 : Bx (CellIs (stV s).toArray 4 (.int .u64 vn)) := ⟨by rw [← hvn];exact stCell4 s⟩
  obtain ⟨qB,cB,hv⟩ := shapeN (hS.pull (blk vB) (X := sl 1 i64 (jobBs L) 3 vB)) hmB
  subst hv
  have HF : Bx _ := ⟨hf⟩
  have HS0 : Bx _ := ⟨hs⟩
  have HM : Bx (L.length = m ∧ (jobBs L).length = m) := ⟨hm,hmB⟩
  have HOk : Bx _ := ⟨hokL⟩
  have HH2 : Bx _ := ⟨hH2⟩
  have HHl : Bx _ := ⟨hHl⟩
  have HHr : Bx _ := ⟨hHr⟩
  have HHn : Bx _ := ⟨hhn⟩
  have HMk : Bx _ := ⟨hmk⟩
  have HMd : Bx _ := ⟨hmkd⟩
  have hmb : m ≤ 256 := by have := hf.2.2;omega
  clear hf hs hm hmB hokL hH hH2 hHl hHr hhn hmk hmkd hvn
  go_enter Tryd.func34,Tryd.ntmps34
  go_upto_region 1 with (first | (refine boxN (cs := (stV s).toArray) hS rfl rfl rfl ?_;clear hS;intro bn w hS;simp only [putW]) | (refine box1 (v := .pointer (some ⟨j,0,none⟩)) hS rfl rfl rfl rfl ?_;clear hS;intro bj w hS;simp only [putW]))
  replace hS := hS.slNil 1 (stF d bj bn) 91
  (refine wp_region_held (S := fun w' => Sat w0 ((1,LogV lg Ps)::(j,cells (jobA d r lg pl (.slice qB m cB) vD vI (.slice none 0 0) true 0) 90)::(blk (.slice qB m cB),sl 1 i64 (jobBs L) 3 (.slice qB m cB))::(blk vD,sl 32 digF (jobDs L) 26 vD)::(blk vI,sl 1 rowF XI 48 vI)::(79,inn XI 5)::(bj,cells #[.pointer (some ⟨j,0,none⟩)] 38)::(bn,cells (stV s).toArray 28)::(0,sl 1 (stF d bj bn) ([] : List StM) 91 (.slice none 0 0))::K) w') (by kernel_rfl) ?_;replace hS := hS.drew;(apply takeIf (i := 0) rfl (by kernel_rfl) (fun _ _ _ h => h);(focus (apply yRun rfl;intro w;first | (go_simp;done) | (go_simp;rfl)));(focus (exact hS.conv));simp only [putW]);(refine takeIf (i := 1) rfl (by kernel_rfl) (fun _ _ _ h => h) (yLoadC (b := bn) (fun _ h => h) rfl rfl rfl HC4.out) hS.conv ?_;simp only [putW]);(refine takeIf (i := 2) rfl (by kernel_rfl) (fun _ _ _ h => h) (yLoad1 (fun _ h => h) rfl rfl rfl rfl) hS.conv ?_;simp only [putW]);(apply takeIf (i := 3) rfl (by kernel_rfl) (fun _ _ _ h => h);(focus (apply yRun rfl;intro w;first | (go_simp;done) | (go_simp;rfl)));(focus (exact hS.conv));simp only [putW]);(apply takeIf (i := 4) rfl (by kernel_rfl) (fun _ _ _ h => h);(focus (apply yRun rfl;intro w;first | (go_simp;done) | (go_simp;rfl)));(focus (exact hS.conv));simp only [putW]);(refine takeIf (i := 5) rfl (by kernel_rfl) (fun _ _ _ h => h) (yLoad1 (fun _ h => h) rfl rfl rfl rfl) hS.conv ?_;simp only [putW]);(refine takeIf (i := 6) rfl (by kernel_rfl) (fun _ _ _ h => h) (yLoad1 (fun _ h => h) rfl rfl rfl rfl) hS.conv ?_;simp only [putW]);(apply takeIf (i := 7) rfl (by kernel_rfl) (fun _ _ _ h => h);(focus (apply yRun rfl;intro w;first | (go_simp;done) | (go_simp;rfl)));(focus (exact hS.conv));simp only [putW]);(apply takeIf (i := 8) rfl (by kernel_rfl) (fun _ _ _ h => h);(focus (apply yRun rfl;intro w;first | (go_simp;done) | (go_simp;rfl)));(focus (exact hS.conv));simp only [putW]);(apply takeIf (i := 9) rfl (by kernel_rfl) (fun _ _ _ h => h);(focus (apply yRun rfl;intro w;first | (go_simp;done) | (go_simp;rfl)));(focus (exact hS.conv));simp only [putW]);(refine takeIf (i := 10) rfl (by kernel_rfl) (fun _ _ _ h => h) (yLoad1 (fun _ h => h) rfl rfl rfl rfl) hS.conv ?_;simp only [putW]);refine wpAnyH_all (rs := [11]) (by kernel_rfl) (by simp) ?_;intro i hi;simp only [List.mem_cons,List.not_mem_nil,or_false] at hi;subst hi;refine wpOp_of_list rfl ?_;go_wp2_with (go_at_call 54;refine Calls.mono (head_some vn pl.b hv64 (hS.readsSl (v := .slice qB m cB) (L := jobBs L) fun _ _ => trivial) HOk.out) ?_;rw [HHn.out,HH2.out];rintro _ w2 ⟨XH,vo,g,hXH,rfl,h2⟩;replace hS := hS.frame h2;clear h2;simp only [List.cons_append,List.nil_append] at hS;simp only [putW]);refine ⟨rfl,hS.conv,?_⟩;(refine takeIf (i := 12) rfl (by kernel_rfl) (fun _ _ _ h => h) (yMove rfl rfl rfl) hS.conv ?_;simp only [evW,putW]);(apply takeIf (i := 13) rfl (by kernel_rfl) (fun _ _ _ h => h);(focus (apply yRun rfl;intro w;first | (go_simp;done) | (go_simp;rfl)));(focus (exact hS.conv));simp only [putW]);(apply takeIf (i := 14) rfl (by kernel_rfl) (fun _ _ _ h => h);(focus (apply yRun rfl;intro w;first | (go_simp;done) | (go_simp;rfl)));(focus (exact hS.conv));simp only [putW]);(apply takeIf (i := 15) rfl (by kernel_rfl) (fun _ _ _ h => h);(focus (apply yRun rfl;intro w;first | (go_simp;done) | (go_simp;rfl)));(focus (exact hS.conv));simp only [putW]);(apply takeIf (i := 16) rfl (by kernel_rfl) (fun _ _ _ h => h);(focus (apply yRun rfl;intro w;first | (go_simp;done) | (go_simp;rfl)));(focus (exact hS.conv));simp only [putW]);refine wpAnyH_done (by kernel_rfl) ?_ _;skip)
  obtain ⟨qh,ch,hvo⟩ := shapeN (hS.pull g (X := sl 1 rowF XH 48 vo)) (show XH.length = hn by have := congrArg List.length hXH;rw [List.length_map,HHl.out] at this;exact this)
  subst hvo
  have hXl : XH.length = hn := by have := congrArg List.length hXH;rw [List.length_map,HHl.out] at this;exact this
  have HXH : Bx _ := ⟨hXH⟩
  have HXl : Bx _ := ⟨hXl⟩
  obtain ⟨gh,hqh,hch,hS9⟩ := openS (hS.pull g (X := sl 1 rowF XH 48 (.slice qh hn ch))) hXl (by omega)
  subst hqh
  replace hS := (hS9.pull 0 (X := inn XH 5)).turn (b' := 80) (Y := inn XH 5) fun _ h => h
  clear hS9 hXH hXl
  have hS8 : Sat w0 ((0,sl 1 (stF d bj bn) ([] : List StM) 91 (.slice none 0 0))::(77,stEnv [])::(80,inn XH 5)::(gh,slc 1 rowF XH ch 48)::(1,LogV lg Ps)::(j,cells (jobA d r lg pl (.slice qB m cB) vD vI (.slice none 0 0) true 0) 90)::(blk (.slice qB m cB),sl 1 i64 (jobBs L) 3 (.slice qB m cB))::(blk vD,sl 32 digF (jobDs L) 26 vD)::(blk vI,sl 1 rowF XI 48 vI)::(79,inn XI 5)::(bj,cells #[.pointer (some ⟨j,0,none⟩)] 38)::(bn,cells (stV s).toArray 28)::K) w2 := (hS.nilChunk 77 (X := stEnv []) trivial).conv
  clear hS
  have hS : Sat w0 ((blk (.slice none 0 0),sl 1 (stF d bj bn) ([] : List StM) 91 (.slice none 0 0))::(77,stEnv [])::(80,inn XH 5)::(gh,slc 1 rowF XH ch 48)::(1,LogV lg Ps)::(j,cells (jobA d r lg pl (.slice qB m cB) vD vI (.slice none 0 0) true 0) 90)::(blk (.slice qB m cB),sl 1 i64 (jobBs L) 3 (.slice qB m cB))::(blk vD,sl 32 digF (jobDs L) 26 vD)::(blk vI,sl 1 rowF XI 48 vI)::(79,inn XI 5)::(bj,cells #[.pointer (some ⟨j,0,none⟩)] 38)::(bn,cells (stV s).toArray 28)::K) w2 := hS8
  clear hS8
  go_wp2_with (refine load1 hS rfl rfl rfl rfl ?_;simp only [putW])
  go_loopg [30] hn (fun gg i wr => ∃ (k : Nat) (St : List StM) (vS : Value),k + gg = hn ∧ i = .int .i64 k ∧ Bx (St.map (·.k) = wrK H k ∧ ∀ x ∈ St,∀ (i : Nat) (B : Row),x.k = .wr i B → XH[i]? = some (x.v,B)) ∧ Sat w0 ((blk vS,sl 1 (stF d bj bn) St 91 vS)::(77,stEnv St)::(80,inn (XH.drop k) 5)::(gh,slc 1 rowF XH ch 48)::(1,LogV lg Ps)::(j,cells (jobA d r lg pl (.slice qB m cB) vD vI vS true 0) 90)::(blk (.slice qB m cB),sl 1 i64 (jobBs L) 3 (.slice qB m cB))::(blk vD,sl 32 digF (jobDs L) 26 vD)::(blk vI,sl 1 rowF XI 48 vI)::(79,inn XI 5)::(bj,cells #[.pointer (some ⟨j,0,none⟩)] 38)::(bn,cells (stV s).toArray 28)::K) wr)
  case atStart => exact ⟨0,[],.slice none 0 0,by omega,rfl,⟨rfl,fun x hx => by cases hx⟩,by rw [List.drop_zero];exact hS⟩
  case round =>
    clear hS
    obtain ⟨k,St,vS,hkg,rfl,HSt,hS⟩ := hrel
    cases gk with
    | succ gg =>
      have hkn : k < hn := by omega
      obtain ⟨⟨vk,rk⟩,hrk⟩ : ∃ y,XH[k]? = some y := ⟨_,List.getElem?_eq_getElem (by rw [HXl.out];exact hkn)⟩
      have hHk : H[k]? = some rk := by rw [← HXH.out,List.getElem?_map,hrk];rfl
      have hrr := HHr.out rk (List.mem_of_getElem? hHk)
      have hStl : St.length = k := by have := congrArg List.length HSt.out.1;rw [List.length_map,wrK_len (by rw [HHl.out];omega)] at this;exact this
      have HXk : Bx _ := ⟨hrk⟩
      have HHk : Bx _ := ⟨hHk⟩
      have HStl : Bx (St.length = k ∧ St.length + 1 ≤ maxLen ∧ (St.length + 1) * 8 ≤ 140737488355328) := ⟨hStl,by rw [hStl];simp [maxLen];omega,by rw [hStl];omega⟩
      have hdr : XH.drop k = [] ++ (vk,rk)::XH.drop (k + 1) := drop_at hrk
      rw [hdr] at hS
      have hS7 := Sat.innPull (hS.pull 80 (X := inn ([] ++ (vk,rk)::XH.drop (k + 1)) 5))
      clear hS
      have hS := hS7
      clear hS7 hrk hHk hStl hdr
      simp only [List.nil_append] at hS
      obtain ⟨qk,ck,hvk⟩ := shapeN hS hrr.1
      subst hvk
      go_upto_region 7 with (first | (refine loadS (f := rowF) hS rfl rfl rfl k 0 ?_ HXk.out rfl ?_ ?_;omega;omega;simp only [putW]) | (refine alloc (t := 3) hS rfl rfl ?_;clear hS;intro mi w hS;simp only [putW]) | (refine alloc (t := 48) hS rfl rfl ?_;clear hS;intro mv w hS;simp only [putW]) | (refine store1 hS rfl rfl rfl rfl rfl ?_ ?_;(focus (simp;done));clear hS;intro w hS;simp only [evW,putW] at hS;try simp only [putW]))
      obtain ⟨y,hy⟩ : ∃ y : StM,y = ⟨.wr k rk,mi,mv,.slice qk 256 ck⟩ := ⟨_,rfl⟩
      have hyv : stVal d bj bn y = .func (.func 55) #[] #[.pointer (some ⟨bj,0,none⟩),.pointer (some ⟨mi,0,none⟩),.pointer (some ⟨mv,0,none⟩)] := by rw [hy];rfl
      have HYv : Bx _ := ⟨hyv⟩
      have HY : Bx _ := ⟨hy⟩
      have HYc : Bx ((stF d bj bn y).toArray = #[.func (.func 55) #[] #[.pointer (some ⟨bj,0,none⟩),.pointer (some ⟨mi,0,none⟩),.pointer (some ⟨mv,0,none⟩)]]) := ⟨by show #[stVal d bj bn y] = _;rw [hyv]⟩
      have hfin : ∀ {v' : Value} {w4 : World},Sat w0 ((blk v',sl 1 (stF d bj bn) (St ++ [y]) 91 v')::(mi,cells #[.int .i64 k] 3)::(mv,cells #[.slice qk 256 ck] 48)::(blk (.slice qk 256 ck),sl 1 by8 rk 5 (.slice qk 256 ck))::(77,stEnv St)::(80,inn (XH.drop (k + 1)) 5)::(gh,slc 1 rowF XH ch 48)::(1,LogV lg Ps)::(j,cells (jobA d r lg pl (.slice qB m cB) vD vI v' true 0) 90)::(blk (.slice qB m cB),sl 1 i64 (jobBs L) 3 (.slice qB m cB))::(blk vD,sl 32 digF (jobDs L) 26 vD)::(blk vI,sl 1 rowF XI 48 vI)::(79,inn XI 5)::(bj,cells #[.pointer (some ⟨j,0,none⟩)] 38)::(bn,cells (stV s).toArray 28)::K) w4 →
          Sat w0 ((blk v',sl 1 (stF d bj bn) (St ++ [y]) 91 v')::(77,stEnv (St ++ [y]))::(80,inn (XH.drop (k + 1)) 5)::(gh,slc 1 rowF XH ch 48)::(1,LogV lg Ps)::(j,cells (jobA d r lg pl (.slice qB m cB) vD vI v' true 0) 90)::(blk (.slice qB m cB),sl 1 i64 (jobBs L) 3 (.slice qB m cB))::(blk vD,sl 32 digF (jobDs L) 26 vD)::(blk vI,sl 1 rowF XI 48 vI)::(79,inn XI 5)::(bj,cells #[.pointer (some ⟨j,0,none⟩)] 38)::(bn,cells (stV s).toArray 28)::K) w4 := fun {v' w4} h => by
        have h1 : Sat w0 (stChunks y ++ (77,stEnv St)::(blk v',sl 1 (stF d bj bn) (St ++ [y]) 91 v')::(80,inn (XH.drop (k + 1)) 5)::(gh,slc 1 rowF XH ch 48)::(1,LogV lg Ps)::(j,cells (jobA d r lg pl (.slice qB m cB) vD vI v' true 0) 90)::(blk (.slice qB m cB),sl 1 i64 (jobBs L) 3 (.slice qB m cB))::(blk vD,sl 32 digF (jobDs L) 26 vD)::(blk vI,sl 1 rowF XI 48 vI)::(79,inn XI 5)::(bj,cells #[.pointer (some ⟨j,0,none⟩)] 38)::(bn,cells (stV s).toArray 28)::K) w4 := by
          have h0 := h.conv (S' := (mi,cells #[.int .i64 k] 3)::(mv,cells #[.slice qk 256 ck] 48)::(blk (.slice qk 256 ck),sl 1 by8 rk 5 (.slice qk 256 ck))::(77,stEnv St)::(blk v',sl 1 (stF d bj bn) (St ++ [y]) 91 v')::(80,inn (XH.drop (k + 1)) 5)::(gh,slc 1 rowF XH ch 48)::(1,LogV lg Ps)::(j,cells (jobA d r lg pl (.slice qB m cB) vD vI v' true 0) 90)::(blk (.slice qB m cB),sl 1 i64 (jobBs L) 3 (.slice qB m cB))::(blk vD,sl 32 digF (jobDs L) 26 vD)::(blk vI,sl 1 rowF XI 48 vI)::(79,inn XI 5)::(bj,cells #[.pointer (some ⟨j,0,none⟩)] 38)::(bn,cells (stV s).toArray 28)::K)
          have hyc : stChunks y = [(mi,cells #[.int .i64 k] 3),(mv,cells #[.slice qk 256 ck] 48),(blk (.slice qk 256 ck),sl 1 by8 rk 5 (.slice qk 256 ck))] := by rw [HY.out];rfl
          rw [hyc]
          exact h0
        exact (stEnv_snoc h1).conv
      have HNx : Bx ((St ++ [y]).map (·.k) = wrK H (k + 1) ∧ ∀ x ∈ St ++ [y],∀ (i : Nat) (B : Row),x.k = .wr i B → XH[i]? = some (x.v,B)) := ⟨by
        refine ⟨?_,fun x hx i B hk => ?_⟩
        · rw [List.map_append,HSt.out.1,wrK_succ HHk.out,HY.out];rfl
        · rcases List.mem_append.1 hx with h | h
          · exact HSt.out.2 x h i B hk
          · rw [List.mem_singleton.1 h,HY.out] at hk
            rw [List.mem_singleton.1 h,HY.out]
            injection hk with e1 e2
            subst e1;subst e2
            exact HXk.out⟩
      clear hy hyv
      (refine wp_region_held (S := fun w' => Sat w0 ((mi,cells #[.int .i64 k] 3)::(mv,cells #[.slice qk 256 ck] 48)::(blk (.slice qk 256 ck),sl 1 by8 rk 5 (.slice qk 256 ck))::(77,stEnv St)::(80,inn (XH.drop (k + 1)) 5)::(gh,slc 1 rowF XH ch 48)::(1,LogV lg Ps)::(blk (.slice qB m cB),sl 1 i64 (jobBs L) 3 (.slice qB m cB))::(blk vD,sl 32 digF (jobDs L) 26 vD)::(blk vI,sl 1 rowF XI 48 vI)::(79,inn XI 5)::(bj,cells #[.pointer (some ⟨j,0,none⟩)] 38)::(bn,cells (stV s).toArray 28)::K) w') (by kernel_rfl) ?_;replace hS := hS.drew;(refine takeIf (i := 0) rfl (by kernel_rfl) (fun _ _ _ h => h) (yLoad1 (fun _ h => h) rfl rfl rfl rfl) hS.conv ?_;simp only [putW]);(refine takeIf (i := 1) rfl (by kernel_rfl) (fun _ _ _ h => h) (yLoad1 (fun _ h => h) rfl rfl rfl rfl) hS.conv ?_;simp only [putW]);(apply takeIf (i := 2) rfl (by kernel_rfl) (fun _ _ _ h => h);(focus (apply yRun rfl;intro w;first | (go_simp;done) | (go_simp;rfl)));(focus (exact hS.conv));simp only [putW]);(apply takeIf (i := 3) rfl (by kernel_rfl) (fun _ _ _ h => h);(focus (apply yRun rfl;intro w;first | (go_simp;done) | (go_simp;rfl)));(focus (exact hS.conv));simp only [putW]);(apply takeIf (i := 5) rfl (by kernel_rfl) (fun _ _ _ h => h);(focus (apply yRun rfl;intro w;first | (go_simp;done) | (go_simp;rfl)));(focus (exact hS.conv));simp only [putW]);refine wpAnyH_all (rs := [4,6]) (by kernel_rfl) (by simp) ?_;intro i hi;simp only [List.mem_cons,List.not_mem_nil,or_false] at hi;rcases hi with rfl | rfl;(focus (refine wpOp_of_list rfl ?_;go_wp2_with (refine load1 hS rfl rfl rfl rfl ?_;simp only [putW]);refine ⟨rfl,hS.conv,?_⟩;refine wpAnyH_all (rs := [6]) (by kernel_rfl) (by simp) ?_;intro i hi;simp only [List.mem_cons,List.not_mem_nil,or_false] at hi;subst hi;refine wpOp_of_list rfl ?_;go_wp2_with (refine buildSlice1 (c := (stF d bj bn y).toArray) hS rfl rfl HYc.out.symm rfl rfl rfl ?_;clear hS;intro mb w hS;simp only [putW]);refine ⟨rfl,hS.conv,?_⟩;refine wpAnyH_all (rs := [7]) (by kernel_rfl) (by simp) ?_;intro i hi;simp only [List.mem_cons,List.not_mem_nil,or_false] at hi;subst hi;refine wpOp_of_list rfl ?_;go_wp2_with (refine append1 (n := 1) (f := stF d bj bn) hS rfl rfl vS rfl rfl y rfl (stF_one d bj bn y) rfl HStl.out.2.1 HStl.out.2.2 ?_;clear hS;intro v' w hS;have hvc := hS.slCell (α := StM) (v := v');simp only [putW]);refine ⟨rfl,hS.conv,?_⟩;(apply takeIf (i := 8) rfl (by kernel_rfl) (fun _ _ _ h => h);(focus (apply yRun rfl;intro w;first | (go_simp;done) | (go_simp;rfl)));(focus (exact hS.conv));simp only [putW]);(apply takeIf (i := 9) rfl (by kernel_rfl) (fun _ _ _ h => h);(focus (apply yRun rfl;intro w;first | (go_simp;done) | (go_simp;rfl)));(focus (exact hS.conv));simp only [putW]);refine wpAnyH_all (rs := [10]) (by kernel_rfl) (by simp) ?_;intro i hi;simp only [List.mem_cons,List.not_mem_nil,or_false] at hi;subst hi;refine wpOp_of_list rfl ?_;go_wp2_with (refine store1 (b := j) (v := v') hS rfl rfl rfl rfl hvc ?_ ?_;(focus (simp;done));clear hS;intro w hS;simp only [evW,putW] at hS;try simp only [putW]);refine ⟨rfl,hS.conv,?_⟩;refine wpAnyH_done (by kernel_rfl) ?_ _;go_wp2_with (refine load1 hS rfl rfl rfl rfl ?_;simp only [putW]);go_roundg gg;(case measure => omega);(case rel => exact ⟨k + 1,St ++ [y],v',by omega,by go_num,HNx,hfin hS.conv⟩)));(focus (refine wpOp_of_list rfl ?_;go_wp2_with (refine buildSlice1 (c := (stF d bj bn y).toArray) hS rfl rfl HYc.out.symm rfl rfl rfl ?_;clear hS;intro mb w hS;simp only [putW]);refine ⟨rfl,hS.conv,?_⟩;refine wpAnyH_all (rs := [4]) (by kernel_rfl) (by simp) ?_;intro i hi;simp only [List.mem_cons,List.not_mem_nil,or_false] at hi;subst hi;refine wpOp_of_list rfl ?_;go_wp2_with (refine load1 hS rfl rfl rfl rfl ?_;simp only [putW]);refine ⟨rfl,hS.conv,?_⟩;refine wpAnyH_all (rs := [7]) (by kernel_rfl) (by simp) ?_;intro i hi;simp only [List.mem_cons,List.not_mem_nil,or_false] at hi;subst hi;refine wpOp_of_list rfl ?_;go_wp2_with (refine append1 (n := 1) (f := stF d bj bn) hS rfl rfl vS rfl rfl y rfl (stF_one d bj bn y) rfl HStl.out.2.1 HStl.out.2.2 ?_;clear hS;intro v' w hS;have hvc := hS.slCell (α := StM) (v := v');simp only [putW]);refine ⟨rfl,hS.conv,?_⟩;(apply takeIf (i := 8) rfl (by kernel_rfl) (fun _ _ _ h => h);(focus (apply yRun rfl;intro w;first | (go_simp;done) | (go_simp;rfl)));(focus (exact hS.conv));simp only [putW]);(apply takeIf (i := 9) rfl (by kernel_rfl) (fun _ _ _ h => h);(focus (apply yRun rfl;intro w;first | (go_simp;done) | (go_simp;rfl)));(focus (exact hS.conv));simp only [putW]);refine wpAnyH_all (rs := [10]) (by kernel_rfl) (by simp) ?_;intro i hi;simp only [List.mem_cons,List.not_mem_nil,or_false] at hi;subst hi;refine wpOp_of_list rfl ?_;go_wp2_with (refine store1 (b := j) (v := v') hS rfl rfl rfl rfl hvc ?_ ?_;(focus (simp;done));clear hS;intro w hS;simp only [evW,putW] at hS;try simp only [putW]);refine ⟨rfl,hS.conv,?_⟩;refine wpAnyH_done (by kernel_rfl) ?_ _;go_wp2_with (refine load1 hS rfl rfl rfl rfl ?_;simp only [putW]);go_roundg gg;(case measure => omega);(case rel => exact ⟨k + 1,St ++ [y],v',by omega,by go_num,HNx,hfin hS.conv⟩))))
    | zero =>
      have hkn : k = hn := by omega
      subst hkn
      have hXIl : XI.length = m := by have := congrArg List.length HF.out.1;rw [List.length_map,List.length_map,HM.out.1] at this;exact this
      have hXIr : ∀ x ∈ XI,isRow x.2 := fun x hx => by
        have h1 : x.2 ∈ L.map (·.2) := by rw [← HF.out.1];exact List.mem_map_of_mem hx
        obtain ⟨y,hy,he⟩ := List.mem_map.1 h1
        rw [← he]
        exact (HF.out.2.1 y hy).2
      obtain ⟨qI,cI,hvI⟩ := shapeN (hS.pull (blk vI) (X := sl 1 rowF XI 48 vI)) hXIl
      subst hvI
      have HXIb : Bx (∀ x ∈ XI,∀ b ∈ x.2,okByte b) := ⟨fun x hx => (hXIr x hx).2⟩
      have HcH : Bx (cat XH = H.flatten) := ⟨by unfold cat;rw [HXH.out]⟩
      have HcI : Bx (cat XI = (L.map (·.2)).flatten) := ⟨by unfold cat;rw [HF.out.1]⟩
      have HMM : Bx (2::cat XH ++ cat XI = mkM H (L.map (·.2))) := ⟨by rw [HcH.out,HcI.out];rfl⟩
      have HLn : Bx ((cat XH).length ≤ 1000000 ∧ (cat XI).length ≤ 1000000 ∧ XH.length ≤ 10000 ∧ XI.length ≤ 10000) := ⟨by
        refine ⟨?_,?_,by rw [HXl.out];omega,by rw [hXIl];omega⟩
        · rw [HcH.out,flat_256 HHr.out,HHl.out];omega
        · rw [HcI.out,flat_256 (fun r hr => by obtain ⟨y,hy,rfl⟩ := List.mem_map.1 hr;exact (HF.out.2.1 y hy).2),List.length_map,HM.out.1];omega⟩
      have HRH : Bx (∀ w1,Sat w0 ((77,stEnv St)::(gh,slc 1 rowF XH ch 48)::[]) w1 → RR w1 XH (.slice (some ⟨gh,0,none⟩) k ch)) := ⟨fun w1 h => by
        have h1 := (h.pull gh (X := slc 1 rowF XH ch 48)).readsSlc (g := gh) (n := 1) (f := rowF) (L := XH) (cap := ch) (t := 48) (gd := fun x => x ∈ XH) fun x hx => hx
        rw [HXl.out] at h1
        refine BSl.mono h1 (Below.refl _ _) fun x hx _ => ?_
        obtain ⟨i,hi⟩ := List.mem_iff_getElem?.1 hx
        have hik : i < k := by have := (List.getElem?_eq_some_iff.1 hi).1;rw [HXl.out] at this;exact this
        have hHi : H[i]? = some x.2 := by rw [← HXH.out,List.getElem?_map,hi];rfl
        have hSi : (St.map (·.k))[i]? = some (.wr i x.2) := by
          rw [HSt.out.1]
          unfold wrK
          rw [List.getElem?_map,List.getElem?_take,if_pos hik,List.getElem?_zipIdx,hHi]
          simp
        rw [List.getElem?_map] at hSi
        obtain ⟨y,hy,hyk⟩ := Option.map_eq_some_iff.1 hSi
        have hym := List.mem_of_getElem? hy
        have hxy := HSt.out.2 y hym i x.2 hyk
        rw [hi] at hxy
        have e := Option.some.inj hxy
        have h2 := stEnv_reads h hym hyk (HHr.out x.2 (List.mem_of_getElem? hHi)).2
        have e2 : x.1 = y.v := congrArg Prod.fst e
        rw [e2]
        exact h2⟩
      have HS7 : Bx _ := ⟨stSet7t s⟩
      have hs7w : ({ s with busy := true } : Rg).Wf := ⟨HS0.out.pages,HS0.out.budget,HS0.out.boot,HS0.out.version,HS0.out.epoch,HS0.out.cursor,HS0.out.root,HS0.out.mark⟩
      have HS7w : Bx _ := ⟨hs7w⟩
      clear hXIl hXIr hs7w
      go_upto_region 9 with (refine load1 hS rfl rfl rfl rfl ?_;simp only [putW])
      (refine wp_region_held (S := fun w' => Sat w0 ((77,stEnv St)::(80,inn (XH.drop k) 5)::(gh,slc 1 rowF XH ch 48)::(blk vS,sl 1 (stF d bj bn) St 91 vS)::(j,cells (jobA d r lg pl (.slice qB m cB) vD (.slice qI m cI) vS true 0) 90)::(blk (.slice qB m cB),sl 1 i64 (jobBs L) 3 (.slice qB m cB))::(blk vD,sl 32 digF (jobDs L) 26 vD)::(blk (.slice qI m cI),sl 1 rowF XI 48 (.slice qI m cI))::(79,inn XI 5)::(bj,cells #[.pointer (some ⟨j,0,none⟩)] 38)::K) w') (by kernel_rfl) ?_;replace hS := hS.drew;(refine takeIf (i := 0) rfl (by kernel_rfl) (fun _ _ _ h => h) (yLoad1 (fun _ h => h) rfl rfl rfl rfl) hS.conv ?_;simp only [putW]);(apply takeIf (i := 1) rfl (by kernel_rfl) (fun _ _ _ h => h);(focus (apply yRun rfl;intro w;first | (go_simp;done) | (go_simp;rfl)));(focus (exact hS.conv));simp only [putW]);(apply takeIf (i := 2) rfl (by kernel_rfl) (fun _ _ _ h => h);(focus (apply yRun rfl;intro w;first | (go_simp;done) | (go_simp;rfl)));(focus (exact hS.conv));simp only [putW]);(refine takeIf (i := 3) rfl (by kernel_rfl) (fun _ _ _ h => h) (yLoad1 (fun _ h => h) rfl rfl rfl rfl) hS.conv ?_;simp only [putW]);(refine takeIf (i := 4) rfl (by kernel_rfl) (fun _ _ _ h => h) (yMove rfl rfl rfl) hS.conv ?_;simp only [evW,putW]);(refine takeIf (i := 5) rfl (by kernel_rfl) (fun _ _ _ h => h) (yLoad1 (fun _ h => h) rfl rfl rfl rfl) hS.conv ?_;simp only [putW]);(apply takeIf (i := 6) rfl (by kernel_rfl) (fun _ _ _ h => h);(focus (apply yRun rfl;intro w;first | (go_simp;done) | (go_simp;rfl)));(focus (exact hS.conv));simp only [putW]);(apply takeIf (i := 7) rfl (by kernel_rfl) (fun _ _ _ h => h);(focus (apply yRun rfl;intro w;first | (go_simp;done) | (go_simp;rfl)));(focus (exact hS.conv));simp only [putW]);(refine takeIf (i := 8) rfl (by kernel_rfl) (fun _ _ _ h => h) (yLoad1 (fun _ h => h) rfl rfl rfl rfl) hS.conv ?_;simp only [putW]);(apply takeIf (i := 10) rfl (by kernel_rfl) (fun _ _ _ h => h);(focus (apply yRun rfl;intro w;first | (go_simp;done) | (go_simp;rfl)));(focus (exact hS.conv));simp only [putW]);refine wpAnyH_all (rs := [9]) (by kernel_rfl) (by simp) ?_;intro i hi;simp only [List.mem_cons,List.not_mem_nil,or_false] at hi;subst hi;refine wpOp_of_list rfl ?_;go_wp2_with (go_at_call 49;have q1 := hS.pull 1 (X := LogV lg Ps);have q2 : shaF (mkM H (L.map (·.2))) = mk := HMk.out;have q3 := HRH.out _ (hS.conv);have q4 := (hS.rowsRead (j := 79) (X := XI) (t := 5) (T := 48) (vo := .slice qI m cI) HXIb.out);have q5 := mark_v (H := XH) (I := XI) HMM.out q2 q1 (by omega) q3 q4 hK HLn.out.1 HLn.out.2.1 HLn.out.2.2.1 HLn.out.2.2.2;refine Calls.mono q5 ?_;clear hS q1 q2 q3 q4 q5;rintro _ w ⟨rfl,hS⟩;simp only [putW]);refine ⟨rfl,hS.conv,?_⟩;refine wpAnyH_all (rs := [11]) (by kernel_rfl) (by simp) ?_;intro i hi;simp only [List.mem_cons,List.not_mem_nil,or_false] at hi;subst hi;refine wpOp_of_list rfl ?_;go_wp2_with (refine store1 (v := .bool true) (b := bn) (c := (stV s).toArray) hS rfl rfl rfl rfl rfl ?_ ?_;(focus (rw [HL.out];decide));clear hS;intro w hS;rw [HS7.out] at hS;try simp only [putW]);refine ⟨rfl,hS.conv,?_⟩;(apply takeIf (i := 12) rfl (by kernel_rfl) (fun _ _ _ h => h);(focus (apply yRun rfl;intro w;first | (go_simp;done) | (go_simp;rfl)));(focus (exact hS.conv));simp only [putW]);refine wpAnyH_all (rs := [13]) (by kernel_rfl) (by simp) ?_;intro i hi;simp only [List.mem_cons,List.not_mem_nil,or_false] at hi;subst hi;refine wpOp_of_list rfl ?_;go_wp2_with (refine storeMark2 (b := bn) (m := mk) hS rfl rfl rfl rfl HS7w.out HMd.out.1 ?_;clear hS;intro w hS;try simp only [putW]);refine ⟨rfl,hS.conv,?_⟩;refine wpAnyH_done (by kernel_rfl) ?_ _;skip)
      have hSb : Sat w0 ((1,LogV lg (Ps ++ [(mkM H (L.map (·.2)),mk)]))::(blk vS,sl 1 (stF d bj bn) St 91 vS)::(77,stEnv St)::(j,cells (jobA d r lg pl (.slice qB m cB) vD (.slice qI m cI) vS true 0) 90)::(blk (.slice qB m cB),sl 1 i64 (jobBs L) 3 (.slice qB m cB))::(blk vD,sl 32 digF (jobDs L) 26 vD)::(blk (.slice qI m cI),sl 1 rowF XI 48 (.slice qI m cI))::(79,inn XI 5)::(bj,cells #[.pointer (some ⟨j,0,none⟩)] 38)::(bn,cells (stV (busyR s mk)).toArray 28)::K) w := hS.conv (S' := (1,LogV lg (Ps ++ [(mkM H (L.map (·.2)),mk)]))::(blk vS,sl 1 (stF d bj bn) St 91 vS)::(77,stEnv St)::(j,cells (jobA d r lg pl (.slice qB m cB) vD (.slice qI m cI) vS true 0) 90)::(blk (.slice qB m cB),sl 1 i64 (jobBs L) 3 (.slice qB m cB))::(blk vD,sl 32 digF (jobDs L) 26 vD)::(blk (.slice qI m cI),sl 1 rowF XI 48 (.slice qI m cI))::(79,inn XI 5)::(bj,cells #[.pointer (some ⟨j,0,none⟩)] 38)::(bn,cells (stV { ({ s with busy := true } : Rg) with mark := mk }).toArray 28)::K)
      clear hS
      have hS := hSb
      clear hSb HRH HLn HMM HcH HcI HS7 HS7w
      obtain ⟨nb,hnb⟩ : ∃ nb,busyR s mk = nb := ⟨_,rfl⟩
      have HNb : Bx _ := ⟨hnb⟩
      rw [hnb] at hS
      obtain ⟨PQ,hPQ⟩ : ∃ PQ,Ps ++ [(mkM H (L.map (·.2)),mk)] = PQ := ⟨_,rfl⟩
      have HPQ : Bx _ := ⟨hPQ⟩
      rw [hPQ] at hS
      clear hnb hPQ
      have hSl : St.length = k := by have := congrArg List.length HSt.out.1;rw [List.length_map,wrK_len (by rw [HHl.out];exact Nat.le_refl _)] at this;exact this
      have HSl : Bx _ := ⟨hSl⟩
      clear hSl
      go_upto_region 10 with (refine load1 hS rfl rfl rfl rfl ?_;simp only [putW])
      have hA1 : stVal d bj bn (⟨.fl,0,0,.nilFunc⟩ : StM) = .func (.func 39) #[.pointer (some ⟨d,0,none⟩)] #[] := rfl
      have hA2 : stVal d bj bn (⟨.rg1,0,0,.nilFunc⟩ : StM) = .func (.func 56) #[] #[.pointer (some ⟨bj,0,none⟩),.pointer (some ⟨bn,0,none⟩)] := rfl
      have hAL : Bx (St.length + 2 ≤ maxLen ∧ (St.length + 2) * 8 ≤ 140737488355328) := ⟨by rw [HSl.out];simp [maxLen];omega,by rw [HSl.out];omega⟩
      go_cut [] from 58 to 72 (fun wc => ∃ v',Sat w0 ((blk v',sl 1 (stF d bj bn) (St ++ [(⟨.fl,0,0,.nilFunc⟩ : StM),(⟨.rg1,0,0,.nilFunc⟩ : StM)]) 91 v')::(77,stEnv St)::(j,cells (jobA d r lg pl (.slice qB m cB) vD (.slice qI m cI) v' true 0) 90)::(1,LogV lg PQ)::(blk (.slice qB m cB),sl 1 i64 (jobBs L) 3 (.slice qB m cB))::(blk vD,sl 32 digF (jobDs L) 26 vD)::(blk (.slice qI m cI),sl 1 rowF XI 48 (.slice qI m cI))::(79,inn XI 5)::(bj,cells #[.pointer (some ⟨j,0,none⟩)] 38)::(bn,cells (stV nb).toArray 28)::K) wc)
      case first =>
        (refine wp_region_held (S := fun w' => Sat w0 ((77,stEnv St)::(1,LogV lg PQ)::(blk (.slice qB m cB),sl 1 i64 (jobBs L) 3 (.slice qB m cB))::(blk vD,sl 32 digF (jobDs L) 26 vD)::(blk (.slice qI m cI),sl 1 rowF XI 48 (.slice qI m cI))::(79,inn XI 5)::(bj,cells #[.pointer (some ⟨j,0,none⟩)] 38)::(bn,cells (stV nb).toArray 28)::K) w') (by kernel_rfl) ?_;replace hS := hS.drew;(refine takeIf (i := 0) rfl (by kernel_rfl) (fun _ _ _ h => h) (yLoad1 (fun _ h => h) rfl rfl rfl rfl) hS.conv ?_;simp only [putW]);(refine takeIf (i := 1) rfl (by kernel_rfl) (fun _ _ _ h => h) (yLoad1 (fun _ h => h) rfl rfl rfl rfl) hS.conv ?_;simp only [putW]);(apply takeIf (i := 2) rfl (by kernel_rfl) (fun _ _ _ h => h);(focus (apply yRun rfl;intro w;first | (go_simp;done) | (go_simp;rfl)));(focus (exact hS.conv));simp only [putW]);(apply takeIf (i := 3) rfl (by kernel_rfl) (fun _ _ _ h => h);(focus (apply yRun rfl;intro w;first | (go_simp;done) | (go_simp;rfl)));(focus (exact hS.conv));simp only [putW]);(refine takeIf (i := 5) rfl (by kernel_rfl) (fun _ _ _ h => h) (yLoad1 (fun _ h => h) rfl rfl rfl rfl) hS.conv ?_;simp only [putW]);(apply takeIf (i := 6) rfl (by kernel_rfl) (fun _ _ _ h => h);(focus (apply yRun rfl;intro w;first | (go_simp;done) | (go_simp;rfl)));(focus (exact hS.conv));simp only [putW]);(apply takeIf (i := 7) rfl (by kernel_rfl) (fun _ _ _ h => h);(focus (apply yRun rfl;intro w;first | (go_simp;done) | (go_simp;rfl)));(focus (exact hS.conv));simp only [putW]);(apply takeIf (i := 10) rfl (by kernel_rfl) (fun _ _ _ h => h);(focus (apply yRun rfl;intro w;first | (go_simp;done) | (go_simp;rfl)));(focus (exact hS.conv));simp only [putW]);refine wpAnyH_all (rs := [4,8]) (by kernel_rfl) (by simp) ?_;intro i hi;simp only [List.mem_cons,List.not_mem_nil,or_false] at hi;rcases hi with rfl | rfl;(focus (refine wpOp_of_list rfl ?_;go_wp2_with (refine load1 hS rfl rfl rfl rfl ?_;simp only [putW]);refine ⟨rfl,hS.conv,?_⟩;refine wpAnyH_all (rs := [8]) (by kernel_rfl) (by simp) ?_;intro i hi;simp only [List.mem_cons,List.not_mem_nil,or_false] at hi;subst hi;refine wpOp_of_list rfl ?_;go_wp2_with (refine load1 hS rfl rfl rfl rfl ?_;simp only [putW]);refine ⟨rfl,hS.conv,?_⟩;(apply takeIf (i := 9) rfl (by kernel_rfl) (fun _ _ _ h => h);(focus (apply yRun rfl;intro w;first | (go_simp;done) | (go_simp;rfl)));(focus (exact hS.conv));simp only [putW]);refine wpAnyH_all (rs := [11]) (by kernel_rfl) (by simp) ?_;intro i hi;simp only [List.mem_cons,List.not_mem_nil,or_false] at hi;subst hi;refine wpOp_of_list rfl ?_;go_wp2_with (refine buildSlice2 (u0 := .func (.func 39) #[.pointer (some ⟨d,0,none⟩)] #[]) (u1 := .func (.func 56) #[] #[.pointer (some ⟨bj,0,none⟩),.pointer (some ⟨bn,0,none⟩)]) hS rfl rfl rfl rfl ?_;clear hS;intro mb w hS;simp only [putW]);refine ⟨rfl,hS.conv,?_⟩;refine wpAnyH_all (rs := [12]) (by kernel_rfl) (by simp) ?_;intro i hi;simp only [List.mem_cons,List.not_mem_nil,or_false] at hi;subst hi;refine wpOp_of_list rfl ?_;go_wp2_with (refine appendB (n := 1) (f := stF d bj bn) hS rfl rfl vS rfl rfl [(⟨.fl,0,0,.nilFunc⟩ : StM),(⟨.rg1,0,0,.nilFunc⟩ : StM)] (litStM (mb := mb) hA1 hA2 hS) (fun x _ => stF_one d bj bn x) hAL.out.1 hAL.out.2 ?_;clear hS;intro v' w hS;have hvc := hS.slCell (α := StM) (v := v');simp only [putW]);refine ⟨rfl,hS.conv,?_⟩;(apply takeIf (i := 13) rfl (by kernel_rfl) (fun _ _ _ h => h);(focus (apply yRun rfl;intro w;first | (go_simp;done) | (go_simp;rfl)));(focus (exact hS.conv));simp only [putW]);(apply takeIf (i := 14) rfl (by kernel_rfl) (fun _ _ _ h => h);(focus (apply yRun rfl;intro w;first | (go_simp;done) | (go_simp;rfl)));(focus (exact hS.conv));simp only [putW]);refine wpAnyH_all (rs := [15]) (by kernel_rfl) (by simp) ?_;intro i hi;simp only [List.mem_cons,List.not_mem_nil,or_false] at hi;subst hi;refine wpOp_of_list rfl ?_;go_wp2_with (refine store1 (b := j) (v := v') hS rfl rfl rfl rfl hvc ?_ ?_;(focus (simp;done));clear hS;intro w hS;simp only [evW,putW] at hS;try simp only [putW]);refine ⟨rfl,hS.conv,?_⟩;refine wpAnyH_done (by kernel_rfl) ?_ _;go_wp2_with (refine load1 hS rfl rfl rfl rfl ?_;simp only [putW]);go_meet;(case rel => exact ⟨v',hS.conv⟩)));(focus (refine wpOp_of_list rfl ?_;go_wp2_with (refine load1 hS rfl rfl rfl rfl ?_;simp only [putW]);refine ⟨rfl,hS.conv,?_⟩;(apply takeIf (i := 9) rfl (by kernel_rfl) (fun _ _ _ h => h);(focus (apply yRun rfl;intro w;first | (go_simp;done) | (go_simp;rfl)));(focus (exact hS.conv));simp only [putW]);refine wpAnyH_all (rs := [4,11]) (by kernel_rfl) (by simp) ?_;intro i hi;simp only [List.mem_cons,List.not_mem_nil,or_false] at hi;rcases hi with rfl | rfl;(focus (refine wpOp_of_list rfl ?_;go_wp2_with (refine load1 hS rfl rfl rfl rfl ?_;simp only [putW]);refine ⟨rfl,hS.conv,?_⟩;refine wpAnyH_all (rs := [11]) (by kernel_rfl) (by simp) ?_;intro i hi;simp only [List.mem_cons,List.not_mem_nil,or_false] at hi;subst hi;refine wpOp_of_list rfl ?_;go_wp2_with (refine buildSlice2 (u0 := .func (.func 39) #[.pointer (some ⟨d,0,none⟩)] #[]) (u1 := .func (.func 56) #[] #[.pointer (some ⟨bj,0,none⟩),.pointer (some ⟨bn,0,none⟩)]) hS rfl rfl rfl rfl ?_;clear hS;intro mb w hS;simp only [putW]);refine ⟨rfl,hS.conv,?_⟩;refine wpAnyH_all (rs := [12]) (by kernel_rfl) (by simp) ?_;intro i hi;simp only [List.mem_cons,List.not_mem_nil,or_false] at hi;subst hi;refine wpOp_of_list rfl ?_;go_wp2_with (refine appendB (n := 1) (f := stF d bj bn) hS rfl rfl vS rfl rfl [(⟨.fl,0,0,.nilFunc⟩ : StM),(⟨.rg1,0,0,.nilFunc⟩ : StM)] (litStM (mb := mb) hA1 hA2 hS) (fun x _ => stF_one d bj bn x) hAL.out.1 hAL.out.2 ?_;clear hS;intro v' w hS;have hvc := hS.slCell (α := StM) (v := v');simp only [putW]);refine ⟨rfl,hS.conv,?_⟩;(apply takeIf (i := 13) rfl (by kernel_rfl) (fun _ _ _ h => h);(focus (apply yRun rfl;intro w;first | (go_simp;done) | (go_simp;rfl)));(focus (exact hS.conv));simp only [putW]);(apply takeIf (i := 14) rfl (by kernel_rfl) (fun _ _ _ h => h);(focus (apply yRun rfl;intro w;first | (go_simp;done) | (go_simp;rfl)));(focus (exact hS.conv));simp only [putW]);refine wpAnyH_all (rs := [15]) (by kernel_rfl) (by simp) ?_;intro i hi;simp only [List.mem_cons,List.not_mem_nil,or_false] at hi;subst hi;refine wpOp_of_list rfl ?_;go_wp2_with (refine store1 (b := j) (v := v') hS rfl rfl rfl rfl hvc ?_ ?_;(focus (simp;done));clear hS;intro w hS;simp only [evW,putW] at hS;try simp only [putW]);refine ⟨rfl,hS.conv,?_⟩;refine wpAnyH_done (by kernel_rfl) ?_ _;go_wp2_with (refine load1 hS rfl rfl rfl rfl ?_;simp only [putW]);go_meet;(case rel => exact ⟨v',hS.conv⟩)));(focus (refine wpOp_of_list rfl ?_;go_wp2_with (refine buildSlice2 (u0 := .func (.func 39) #[.pointer (some ⟨d,0,none⟩)] #[]) (u1 := .func (.func 56) #[] #[.pointer (some ⟨bj,0,none⟩),.pointer (some ⟨bn,0,none⟩)]) hS rfl rfl rfl rfl ?_;clear hS;intro mb w hS;simp only [putW]);refine ⟨rfl,hS.conv,?_⟩;refine wpAnyH_all (rs := [4]) (by kernel_rfl) (by simp) ?_;intro i hi;simp only [List.mem_cons,List.not_mem_nil,or_false] at hi;subst hi;refine wpOp_of_list rfl ?_;go_wp2_with (refine load1 hS rfl rfl rfl rfl ?_;simp only [putW]);refine ⟨rfl,hS.conv,?_⟩;refine wpAnyH_all (rs := [12]) (by kernel_rfl) (by simp) ?_;intro i hi;simp only [List.mem_cons,List.not_mem_nil,or_false] at hi;subst hi;refine wpOp_of_list rfl ?_;go_wp2_with (refine appendB (n := 1) (f := stF d bj bn) hS rfl rfl vS rfl rfl [(⟨.fl,0,0,.nilFunc⟩ : StM),(⟨.rg1,0,0,.nilFunc⟩ : StM)] (litStM (mb := mb) hA1 hA2 hS) (fun x _ => stF_one d bj bn x) hAL.out.1 hAL.out.2 ?_;clear hS;intro v' w hS;have hvc := hS.slCell (α := StM) (v := v');simp only [putW]);refine ⟨rfl,hS.conv,?_⟩;(apply takeIf (i := 13) rfl (by kernel_rfl) (fun _ _ _ h => h);(focus (apply yRun rfl;intro w;first | (go_simp;done) | (go_simp;rfl)));(focus (exact hS.conv));simp only [putW]);(apply takeIf (i := 14) rfl (by kernel_rfl) (fun _ _ _ h => h);(focus (apply yRun rfl;intro w;first | (go_simp;done) | (go_simp;rfl)));(focus (exact hS.conv));simp only [putW]);refine wpAnyH_all (rs := [15]) (by kernel_rfl) (by simp) ?_;intro i hi;simp only [List.mem_cons,List.not_mem_nil,or_false] at hi;subst hi;refine wpOp_of_list rfl ?_;go_wp2_with (refine store1 (b := j) (v := v') hS rfl rfl rfl rfl hvc ?_ ?_;(focus (simp;done));clear hS;intro w hS;simp only [evW,putW] at hS;try simp only [putW]);refine ⟨rfl,hS.conv,?_⟩;refine wpAnyH_done (by kernel_rfl) ?_ _;go_wp2_with (refine load1 hS rfl rfl rfl rfl ?_;simp only [putW]);go_meet;(case rel => exact ⟨v',hS.conv⟩))))))
      case rest =>
        clear hS hA1 hA2
        obtain ⟨vS2,hS⟩ := hcut
        have hS6 := stEnv_snoc0 (x := (⟨.fl,0,0,.nilFunc⟩ : StM)) rfl (hS.pull 77 (X := stEnv St))
        have hS5 := stEnv_snoc0 (x := (⟨.rg1,0,0,.nilFunc⟩ : StM)) rfl hS6
        have hS4 := hS5.conv (S' := (blk vS2,sl 1 (stF d bj bn) (St ++ [(⟨.fl,0,0,.nilFunc⟩ : StM),(⟨.rg1,0,0,.nilFunc⟩ : StM)]) 91 vS2)::(77,stEnv (St ++ [(⟨.fl,0,0,.nilFunc⟩ : StM)] ++ [(⟨.rg1,0,0,.nilFunc⟩ : StM)]))::(j,cells (jobA d r lg pl (.slice qB m cB) vD (.slice qI m cI) vS2 true 0) 90)::(1,LogV lg PQ)::(blk (.slice qB m cB),sl 1 i64 (jobBs L) 3 (.slice qB m cB))::(blk vD,sl 32 digF (jobDs L) 26 vD)::(blk (.slice qI m cI),sl 1 rowF XI 48 (.slice qI m cI))::(79,inn XI 5)::(bj,cells #[.pointer (some ⟨j,0,none⟩)] 38)::(bn,cells (stV nb).toArray 28)::K)
        obtain ⟨St2,hSt2⟩ : ∃ St2,St ++ [(⟨.fl,0,0,.nilFunc⟩ : StM),(⟨.rg1,0,0,.nilFunc⟩ : StM)] = St2 := ⟨_,rfl⟩
        have hSt2b : St ++ [(⟨.fl,0,0,.nilFunc⟩ : StM)] ++ [(⟨.rg1,0,0,.nilFunc⟩ : StM)] = St2 := by rw [← hSt2];simp
        rw [hSt2,hSt2b] at hS4
        clear hS hS5 hS6
        have hS := hS4
        clear hS4
        have HK2 : Bx (St2.map (·.k) = wrK H k ++ [.fl,.rg1] ∧ St2.length = k + 2) := ⟨by
          rw [← hSt2]
          exact ⟨by rw [List.map_append,HSt.out.1];rfl,by rw [List.length_append,HSl.out];rfl⟩⟩
        clear hSt2 hSt2b
        go_wp2_with (refine load1 hS rfl rfl rfl rfl ?_;simp only [putW])
        go_loopg [78] m (fun gg i wr => ∃ (n : Nat) (St3 : List StM) (vS3 : Value),n + gg = m ∧ i = .int .i64 n ∧ Bx (St3.map (·.k) = wrK H k ++ [.fl,.rg1] ++ hmK n ∧ St3.length = k + 2 + n) ∧ Sat w0 ((blk vS3,sl 1 (stF d bj bn) St3 91 vS3)::(77,stEnv St3)::(j,cells (jobA d r lg pl (.slice qB m cB) vD (.slice qI m cI) vS3 true 0) 90)::(1,LogV lg PQ)::(blk (.slice qB m cB),sl 1 i64 (jobBs L) 3 (.slice qB m cB))::(blk vD,sl 32 digF (jobDs L) 26 vD)::(blk (.slice qI m cI),sl 1 rowF XI 48 (.slice qI m cI))::(79,inn XI 5)::(bj,cells #[.pointer (some ⟨j,0,none⟩)] 38)::(bn,cells (stV nb).toArray 28)::K) wr)
        case atStart => exact ⟨0,St2,vS2,by omega,rfl,⟨by rw [HK2.out.1];simp [hmK],HK2.out.2⟩,hS⟩
        case round =>
          clear hS
          obtain ⟨n,St3,vS3,hng,rfl,HK3,hS⟩ := hrel
          cases gk with
          | succ gg =>
            have hnm : n < m := by omega
            have HL3 : Bx (St3.length + 1 ≤ maxLen ∧ (St3.length + 1) * 8 ≤ 140737488355328) := ⟨by rw [HK3.out.2];simp [maxLen];omega,by rw [HK3.out.2];omega⟩
            go_upto_region 14 with (first | (refine alloc (t := 3) hS rfl rfl ?_;clear hS;intro mi w hS;simp only [putW]) | (refine store1 hS rfl rfl rfl rfl rfl ?_ ?_;(focus (simp;done));clear hS;intro w hS;simp only [evW,putW] at hS;try simp only [putW]))
            obtain ⟨y,hy⟩ : ∃ y : StM,y = ⟨.hm n,mi,0,.nilFunc⟩ := ⟨_,rfl⟩
            have hyv : stVal d bj bn y = .func (.func 57) #[] #[.pointer (some ⟨bj,0,none⟩),.pointer (some ⟨mi,0,none⟩)] := by rw [hy];rfl
            have HY : Bx _ := ⟨hy⟩
            have HYc : Bx ((stF d bj bn y).toArray = #[.func (.func 57) #[] #[.pointer (some ⟨bj,0,none⟩),.pointer (some ⟨mi,0,none⟩)]]) := ⟨by show #[stVal d bj bn y] = _;rw [hyv]⟩
            have hfin : ∀ {v' : Value} {w4 : World},Sat w0 ((blk v',sl 1 (stF d bj bn) (St3 ++ [y]) 91 v')::(mi,cells #[.int .i64 n] 3)::(77,stEnv St3)::(j,cells (jobA d r lg pl (.slice qB m cB) vD (.slice qI m cI) v' true 0) 90)::(1,LogV lg PQ)::(blk (.slice qB m cB),sl 1 i64 (jobBs L) 3 (.slice qB m cB))::(blk vD,sl 32 digF (jobDs L) 26 vD)::(blk (.slice qI m cI),sl 1 rowF XI 48 (.slice qI m cI))::(79,inn XI 5)::(bj,cells #[.pointer (some ⟨j,0,none⟩)] 38)::(bn,cells (stV nb).toArray 28)::K) w4 → Sat w0 ((blk v',sl 1 (stF d bj bn) (St3 ++ [y]) 91 v')::(77,stEnv (St3 ++ [y]))::(j,cells (jobA d r lg pl (.slice qB m cB) vD (.slice qI m cI) v' true 0) 90)::(1,LogV lg PQ)::(blk (.slice qB m cB),sl 1 i64 (jobBs L) 3 (.slice qB m cB))::(blk vD,sl 32 digF (jobDs L) 26 vD)::(blk (.slice qI m cI),sl 1 rowF XI 48 (.slice qI m cI))::(79,inn XI 5)::(bj,cells #[.pointer (some ⟨j,0,none⟩)] 38)::(bn,cells (stV nb).toArray 28)::K) w4 := fun {v' w4} h => by
              have h1 : Sat w0 (stChunks y ++ (77,stEnv St3)::(blk v',sl 1 (stF d bj bn) (St3 ++ [y]) 91 v')::(j,cells (jobA d r lg pl (.slice qB m cB) vD (.slice qI m cI) v' true 0) 90)::(1,LogV lg PQ)::(blk (.slice qB m cB),sl 1 i64 (jobBs L) 3 (.slice qB m cB))::(blk vD,sl 32 digF (jobDs L) 26 vD)::(blk (.slice qI m cI),sl 1 rowF XI 48 (.slice qI m cI))::(79,inn XI 5)::(bj,cells #[.pointer (some ⟨j,0,none⟩)] 38)::(bn,cells (stV nb).toArray 28)::K) w4 := by
                have h0 := h.conv (S' := (mi,cells #[.int .i64 n] 3)::(77,stEnv St3)::(blk v',sl 1 (stF d bj bn) (St3 ++ [y]) 91 v')::(j,cells (jobA d r lg pl (.slice qB m cB) vD (.slice qI m cI) v' true 0) 90)::(1,LogV lg PQ)::(blk (.slice qB m cB),sl 1 i64 (jobBs L) 3 (.slice qB m cB))::(blk vD,sl 32 digF (jobDs L) 26 vD)::(blk (.slice qI m cI),sl 1 rowF XI 48 (.slice qI m cI))::(79,inn XI 5)::(bj,cells #[.pointer (some ⟨j,0,none⟩)] 38)::(bn,cells (stV nb).toArray 28)::K)
                have hyc : stChunks y = [(mi,cells #[.int .i64 n] 3)] := by rw [HY.out];rfl
                rw [hyc]
                exact h0
              exact (stEnv_snoc h1).conv
            have HNx : Bx ((St3 ++ [y]).map (·.k) = wrK H k ++ [.fl,.rg1] ++ hmK (n + 1) ∧ (St3 ++ [y]).length = k + 2 + (n + 1)) := ⟨by
              refine ⟨?_,by rw [List.length_append,HK3.out.2];rfl⟩
              rw [List.map_append,HK3.out.1,hmK_succ,HY.out]
              simp⟩
            clear hy hyv
            (refine wp_region_held (S := fun w' => Sat w0 ((mi,cells #[.int .i64 n] 3)::(77,stEnv St3)::(1,LogV lg PQ)::(blk (.slice qB m cB),sl 1 i64 (jobBs L) 3 (.slice qB m cB))::(blk vD,sl 32 digF (jobDs L) 26 vD)::(blk (.slice qI m cI),sl 1 rowF XI 48 (.slice qI m cI))::(79,inn XI 5)::(bj,cells #[.pointer (some ⟨j,0,none⟩)] 38)::(bn,cells (stV nb).toArray 28)::K) w') (by kernel_rfl) ?_;replace hS := hS.drew;(refine takeIf (i := 0) rfl (by kernel_rfl) (fun _ _ _ h => h) (yLoad1 (fun _ h => h) rfl rfl rfl rfl) hS.conv ?_;simp only [putW]);(refine takeIf (i := 1) rfl (by kernel_rfl) (fun _ _ _ h => h) (yLoad1 (fun _ h => h) rfl rfl rfl rfl) hS.conv ?_;simp only [putW]);(apply takeIf (i := 2) rfl (by kernel_rfl) (fun _ _ _ h => h);(focus (apply yRun rfl;intro w;first | (go_simp;done) | (go_simp;rfl)));(focus (exact hS.conv));simp only [putW]);(apply takeIf (i := 3) rfl (by kernel_rfl) (fun _ _ _ h => h);(focus (apply yRun rfl;intro w;first | (go_simp;done) | (go_simp;rfl)));(focus (exact hS.conv));simp only [putW]);(apply takeIf (i := 5) rfl (by kernel_rfl) (fun _ _ _ h => h);(focus (apply yRun rfl;intro w;first | (go_simp;done) | (go_simp;rfl)));(focus (exact hS.conv));simp only [putW]);refine wpAnyH_all (rs := [4,6]) (by kernel_rfl) (by simp) ?_;intro i hi;simp only [List.mem_cons,List.not_mem_nil,or_false] at hi;rcases hi with rfl | rfl;(focus (refine wpOp_of_list rfl ?_;go_wp2_with (refine load1 hS rfl rfl rfl rfl ?_;simp only [putW]);refine ⟨rfl,hS.conv,?_⟩;refine wpAnyH_all (rs := [6]) (by kernel_rfl) (by simp) ?_;intro i hi;simp only [List.mem_cons,List.not_mem_nil,or_false] at hi;subst hi;refine wpOp_of_list rfl ?_;go_wp2_with (refine buildSlice1 (c := (stF d bj bn y).toArray) hS rfl rfl HYc.out.symm rfl rfl rfl ?_;clear hS;intro mb w hS;simp only [putW]);refine ⟨rfl,hS.conv,?_⟩;refine wpAnyH_all (rs := [7]) (by kernel_rfl) (by simp) ?_;intro i hi;simp only [List.mem_cons,List.not_mem_nil,or_false] at hi;subst hi;refine wpOp_of_list rfl ?_;go_wp2_with (refine append1 (n := 1) (f := stF d bj bn) hS rfl rfl vS3 rfl rfl y rfl (stF_one d bj bn y) rfl HL3.out.1 HL3.out.2 ?_;clear hS;intro v' w hS;have hvc := hS.slCell (α := StM) (v := v');simp only [putW]);refine ⟨rfl,hS.conv,?_⟩;(apply takeIf (i := 8) rfl (by kernel_rfl) (fun _ _ _ h => h);(focus (apply yRun rfl;intro w;first | (go_simp;done) | (go_simp;rfl)));(focus (exact hS.conv));simp only [putW]);(apply takeIf (i := 9) rfl (by kernel_rfl) (fun _ _ _ h => h);(focus (apply yRun rfl;intro w;first | (go_simp;done) | (go_simp;rfl)));(focus (exact hS.conv));simp only [putW]);refine wpAnyH_all (rs := [10]) (by kernel_rfl) (by simp) ?_;intro i hi;simp only [List.mem_cons,List.not_mem_nil,or_false] at hi;subst hi;refine wpOp_of_list rfl ?_;go_wp2_with (refine store1 (b := j) (v := v') hS rfl rfl rfl rfl hvc ?_ ?_;(focus (simp;done));clear hS;intro w hS;simp only [evW,putW] at hS;try simp only [putW]);refine ⟨rfl,hS.conv,?_⟩;refine wpAnyH_done (by kernel_rfl) ?_ _;go_wp2_with (refine load1 hS rfl rfl rfl rfl ?_;simp only [putW]);go_roundg gg;(case measure => omega);(case rel => exact ⟨n + 1,St3 ++ [y],v',by omega,by go_num,HNx,hfin hS.conv⟩)));(focus (refine wpOp_of_list rfl ?_;go_wp2_with (refine buildSlice1 (c := (stF d bj bn y).toArray) hS rfl rfl HYc.out.symm rfl rfl rfl ?_;clear hS;intro mb w hS;simp only [putW]);refine ⟨rfl,hS.conv,?_⟩;refine wpAnyH_all (rs := [4]) (by kernel_rfl) (by simp) ?_;intro i hi;simp only [List.mem_cons,List.not_mem_nil,or_false] at hi;subst hi;refine wpOp_of_list rfl ?_;go_wp2_with (refine load1 hS rfl rfl rfl rfl ?_;simp only [putW]);refine ⟨rfl,hS.conv,?_⟩;refine wpAnyH_all (rs := [7]) (by kernel_rfl) (by simp) ?_;intro i hi;simp only [List.mem_cons,List.not_mem_nil,or_false] at hi;subst hi;refine wpOp_of_list rfl ?_;go_wp2_with (refine append1 (n := 1) (f := stF d bj bn) hS rfl rfl vS3 rfl rfl y rfl (stF_one d bj bn y) rfl HL3.out.1 HL3.out.2 ?_;clear hS;intro v' w hS;have hvc := hS.slCell (α := StM) (v := v');simp only [putW]);refine ⟨rfl,hS.conv,?_⟩;(apply takeIf (i := 8) rfl (by kernel_rfl) (fun _ _ _ h => h);(focus (apply yRun rfl;intro w;first | (go_simp;done) | (go_simp;rfl)));(focus (exact hS.conv));simp only [putW]);(apply takeIf (i := 9) rfl (by kernel_rfl) (fun _ _ _ h => h);(focus (apply yRun rfl;intro w;first | (go_simp;done) | (go_simp;rfl)));(focus (exact hS.conv));simp only [putW]);refine wpAnyH_all (rs := [10]) (by kernel_rfl) (by simp) ?_;intro i hi;simp only [List.mem_cons,List.not_mem_nil,or_false] at hi;subst hi;refine wpOp_of_list rfl ?_;go_wp2_with (refine store1 (b := j) (v := v') hS rfl rfl rfl rfl hvc ?_ ?_;(focus (simp;done));clear hS;intro w hS;simp only [evW,putW] at hS;try simp only [putW]);refine ⟨rfl,hS.conv,?_⟩;refine wpAnyH_done (by kernel_rfl) ?_ _;go_wp2_with (refine load1 hS rfl rfl rfl rfl ?_;simp only [putW]);go_roundg gg;(case measure => omega);(case rel => exact ⟨n + 1,St3 ++ [y],v',by omega,by go_num,HNx,hfin hS.conv⟩))))
          | zero =>
            have hnm : m = n := by omega
            subst hnm
            go_upto_region 16 with (refine load1 hS rfl rfl rfl rfl ?_;simp only [putW])
            have hB1 : stVal d bj bn (⟨.fl,0,0,.nilFunc⟩ : StM) = .func (.func 39) #[.pointer (some ⟨d,0,none⟩)] #[] := rfl
            have hB2 : stVal d bj bn (⟨.rg2,0,0,.nilFunc⟩ : StM) = .func (.func 59) #[] #[.pointer (some ⟨bn,0,none⟩),.pointer (some ⟨bj,0,none⟩)] := rfl
            have hBL : Bx (St3.length + 2 ≤ maxLen ∧ (St3.length + 2) * 8 ≤ 140737488355328) := ⟨by rw [HK3.out.2];simp [maxLen];omega,by rw [HK3.out.2];omega⟩
            go_cut [] from 92 to 106 (fun wc => ∃ v',Sat w0 ((blk v',sl 1 (stF d bj bn) (St3 ++ [(⟨.fl,0,0,.nilFunc⟩ : StM),(⟨.rg2,0,0,.nilFunc⟩ : StM)]) 91 v')::(77,stEnv St3)::(j,cells (jobA d r lg pl (.slice qB m cB) vD (.slice qI m cI) v' true 0) 90)::(1,LogV lg PQ)::(blk (.slice qB m cB),sl 1 i64 (jobBs L) 3 (.slice qB m cB))::(blk vD,sl 32 digF (jobDs L) 26 vD)::(blk (.slice qI m cI),sl 1 rowF XI 48 (.slice qI m cI))::(79,inn XI 5)::(bj,cells #[.pointer (some ⟨j,0,none⟩)] 38)::(bn,cells (stV nb).toArray 28)::K) wc)
            case first =>
              (refine wp_region_held (S := fun w' => Sat w0 ((77,stEnv St3)::(1,LogV lg PQ)::(blk (.slice qB m cB),sl 1 i64 (jobBs L) 3 (.slice qB m cB))::(blk vD,sl 32 digF (jobDs L) 26 vD)::(blk (.slice qI m cI),sl 1 rowF XI 48 (.slice qI m cI))::(79,inn XI 5)::(bj,cells #[.pointer (some ⟨j,0,none⟩)] 38)::(bn,cells (stV nb).toArray 28)::K) w') (by kernel_rfl) ?_;replace hS := hS.drew;(refine takeIf (i := 0) rfl (by kernel_rfl) (fun _ _ _ h => h) (yLoad1 (fun _ h => h) rfl rfl rfl rfl) hS.conv ?_;simp only [putW]);(refine takeIf (i := 1) rfl (by kernel_rfl) (fun _ _ _ h => h) (yLoad1 (fun _ h => h) rfl rfl rfl rfl) hS.conv ?_;simp only [putW]);(apply takeIf (i := 2) rfl (by kernel_rfl) (fun _ _ _ h => h);(focus (apply yRun rfl;intro w;first | (go_simp;done) | (go_simp;rfl)));(focus (exact hS.conv));simp only [putW]);(apply takeIf (i := 3) rfl (by kernel_rfl) (fun _ _ _ h => h);(focus (apply yRun rfl;intro w;first | (go_simp;done) | (go_simp;rfl)));(focus (exact hS.conv));simp only [putW]);(refine takeIf (i := 5) rfl (by kernel_rfl) (fun _ _ _ h => h) (yLoad1 (fun _ h => h) rfl rfl rfl rfl) hS.conv ?_;simp only [putW]);(apply takeIf (i := 6) rfl (by kernel_rfl) (fun _ _ _ h => h);(focus (apply yRun rfl;intro w;first | (go_simp;done) | (go_simp;rfl)));(focus (exact hS.conv));simp only [putW]);(apply takeIf (i := 7) rfl (by kernel_rfl) (fun _ _ _ h => h);(focus (apply yRun rfl;intro w;first | (go_simp;done) | (go_simp;rfl)));(focus (exact hS.conv));simp only [putW]);(apply takeIf (i := 10) rfl (by kernel_rfl) (fun _ _ _ h => h);(focus (apply yRun rfl;intro w;first | (go_simp;done) | (go_simp;rfl)));(focus (exact hS.conv));simp only [putW]);refine wpAnyH_all (rs := [4,8]) (by kernel_rfl) (by simp) ?_;intro i hi;simp only [List.mem_cons,List.not_mem_nil,or_false] at hi;rcases hi with rfl | rfl;(focus (refine wpOp_of_list rfl ?_;go_wp2_with (refine load1 hS rfl rfl rfl rfl ?_;simp only [putW]);refine ⟨rfl,hS.conv,?_⟩;refine wpAnyH_all (rs := [8]) (by kernel_rfl) (by simp) ?_;intro i hi;simp only [List.mem_cons,List.not_mem_nil,or_false] at hi;subst hi;refine wpOp_of_list rfl ?_;go_wp2_with (refine load1 hS rfl rfl rfl rfl ?_;simp only [putW]);refine ⟨rfl,hS.conv,?_⟩;(apply takeIf (i := 9) rfl (by kernel_rfl) (fun _ _ _ h => h);(focus (apply yRun rfl;intro w;first | (go_simp;done) | (go_simp;rfl)));(focus (exact hS.conv));simp only [putW]);refine wpAnyH_all (rs := [11]) (by kernel_rfl) (by simp) ?_;intro i hi;simp only [List.mem_cons,List.not_mem_nil,or_false] at hi;subst hi;refine wpOp_of_list rfl ?_;go_wp2_with (refine buildSlice2 (u0 := .func (.func 39) #[.pointer (some ⟨d,0,none⟩)] #[]) (u1 := .func (.func 59) #[] #[.pointer (some ⟨bn,0,none⟩),.pointer (some ⟨bj,0,none⟩)]) hS rfl rfl rfl rfl ?_;clear hS;intro mb w hS;simp only [putW]);refine ⟨rfl,hS.conv,?_⟩;refine wpAnyH_all (rs := [12]) (by kernel_rfl) (by simp) ?_;intro i hi;simp only [List.mem_cons,List.not_mem_nil,or_false] at hi;subst hi;refine wpOp_of_list rfl ?_;go_wp2_with (refine appendB (n := 1) (f := stF d bj bn) hS rfl rfl vS3 rfl rfl [(⟨.fl,0,0,.nilFunc⟩ : StM),(⟨.rg2,0,0,.nilFunc⟩ : StM)] (litStM (mb := mb) hB1 hB2 hS) (fun x _ => stF_one d bj bn x) hBL.out.1 hBL.out.2 ?_;clear hS;intro v' w hS;have hvc := hS.slCell (α := StM) (v := v');simp only [putW]);refine ⟨rfl,hS.conv,?_⟩;(apply takeIf (i := 13) rfl (by kernel_rfl) (fun _ _ _ h => h);(focus (apply yRun rfl;intro w;first | (go_simp;done) | (go_simp;rfl)));(focus (exact hS.conv));simp only [putW]);(apply takeIf (i := 14) rfl (by kernel_rfl) (fun _ _ _ h => h);(focus (apply yRun rfl;intro w;first | (go_simp;done) | (go_simp;rfl)));(focus (exact hS.conv));simp only [putW]);refine wpAnyH_all (rs := [15]) (by kernel_rfl) (by simp) ?_;intro i hi;simp only [List.mem_cons,List.not_mem_nil,or_false] at hi;subst hi;refine wpOp_of_list rfl ?_;go_wp2_with (refine store1 (b := j) (v := v') hS rfl rfl rfl rfl hvc ?_ ?_;(focus (simp;done));clear hS;intro w hS;simp only [evW,putW] at hS;try simp only [putW]);refine ⟨rfl,hS.conv,?_⟩;refine wpAnyH_done (by kernel_rfl) ?_ _;go_wp2_with (refine load1 hS rfl rfl rfl rfl ?_;simp only [putW]);go_meet;(case rel => exact ⟨v',hS.conv⟩)));(focus (refine wpOp_of_list rfl ?_;go_wp2_with (refine load1 hS rfl rfl rfl rfl ?_;simp only [putW]);refine ⟨rfl,hS.conv,?_⟩;(apply takeIf (i := 9) rfl (by kernel_rfl) (fun _ _ _ h => h);(focus (apply yRun rfl;intro w;first | (go_simp;done) | (go_simp;rfl)));(focus (exact hS.conv));simp only [putW]);refine wpAnyH_all (rs := [4,11]) (by kernel_rfl) (by simp) ?_;intro i hi;simp only [List.mem_cons,List.not_mem_nil,or_false] at hi;rcases hi with rfl | rfl;(focus (refine wpOp_of_list rfl ?_;go_wp2_with (refine load1 hS rfl rfl rfl rfl ?_;simp only [putW]);refine ⟨rfl,hS.conv,?_⟩;refine wpAnyH_all (rs := [11]) (by kernel_rfl) (by simp) ?_;intro i hi;simp only [List.mem_cons,List.not_mem_nil,or_false] at hi;subst hi;refine wpOp_of_list rfl ?_;go_wp2_with (refine buildSlice2 (u0 := .func (.func 39) #[.pointer (some ⟨d,0,none⟩)] #[]) (u1 := .func (.func 59) #[] #[.pointer (some ⟨bn,0,none⟩),.pointer (some ⟨bj,0,none⟩)]) hS rfl rfl rfl rfl ?_;clear hS;intro mb w hS;simp only [putW]);refine ⟨rfl,hS.conv,?_⟩;refine wpAnyH_all (rs := [12]) (by kernel_rfl) (by simp) ?_;intro i hi;simp only [List.mem_cons,List.not_mem_nil,or_false] at hi;subst hi;refine wpOp_of_list rfl ?_;go_wp2_with (refine appendB (n := 1) (f := stF d bj bn) hS rfl rfl vS3 rfl rfl [(⟨.fl,0,0,.nilFunc⟩ : StM),(⟨.rg2,0,0,.nilFunc⟩ : StM)] (litStM (mb := mb) hB1 hB2 hS) (fun x _ => stF_one d bj bn x) hBL.out.1 hBL.out.2 ?_;clear hS;intro v' w hS;have hvc := hS.slCell (α := StM) (v := v');simp only [putW]);refine ⟨rfl,hS.conv,?_⟩;(apply takeIf (i := 13) rfl (by kernel_rfl) (fun _ _ _ h => h);(focus (apply yRun rfl;intro w;first | (go_simp;done) | (go_simp;rfl)));(focus (exact hS.conv));simp only [putW]);(apply takeIf (i := 14) rfl (by kernel_rfl) (fun _ _ _ h => h);(focus (apply yRun rfl;intro w;first | (go_simp;done) | (go_simp;rfl)));(focus (exact hS.conv));simp only [putW]);refine wpAnyH_all (rs := [15]) (by kernel_rfl) (by simp) ?_;intro i hi;simp only [List.mem_cons,List.not_mem_nil,or_false] at hi;subst hi;refine wpOp_of_list rfl ?_;go_wp2_with (refine store1 (b := j) (v := v') hS rfl rfl rfl rfl hvc ?_ ?_;(focus (simp;done));clear hS;intro w hS;simp only [evW,putW] at hS;try simp only [putW]);refine ⟨rfl,hS.conv,?_⟩;refine wpAnyH_done (by kernel_rfl) ?_ _;go_wp2_with (refine load1 hS rfl rfl rfl rfl ?_;simp only [putW]);go_meet;(case rel => exact ⟨v',hS.conv⟩)));(focus (refine wpOp_of_list rfl ?_;go_wp2_with (refine buildSlice2 (u0 := .func (.func 39) #[.pointer (some ⟨d,0,none⟩)] #[]) (u1 := .func (.func 59) #[] #[.pointer (some ⟨bn,0,none⟩),.pointer (some ⟨bj,0,none⟩)]) hS rfl rfl rfl rfl ?_;clear hS;intro mb w hS;simp only [putW]);refine ⟨rfl,hS.conv,?_⟩;refine wpAnyH_all (rs := [4]) (by kernel_rfl) (by simp) ?_;intro i hi;simp only [List.mem_cons,List.not_mem_nil,or_false] at hi;subst hi;refine wpOp_of_list rfl ?_;go_wp2_with (refine load1 hS rfl rfl rfl rfl ?_;simp only [putW]);refine ⟨rfl,hS.conv,?_⟩;refine wpAnyH_all (rs := [12]) (by kernel_rfl) (by simp) ?_;intro i hi;simp only [List.mem_cons,List.not_mem_nil,or_false] at hi;subst hi;refine wpOp_of_list rfl ?_;go_wp2_with (refine appendB (n := 1) (f := stF d bj bn) hS rfl rfl vS3 rfl rfl [(⟨.fl,0,0,.nilFunc⟩ : StM),(⟨.rg2,0,0,.nilFunc⟩ : StM)] (litStM (mb := mb) hB1 hB2 hS) (fun x _ => stF_one d bj bn x) hBL.out.1 hBL.out.2 ?_;clear hS;intro v' w hS;have hvc := hS.slCell (α := StM) (v := v');simp only [putW]);refine ⟨rfl,hS.conv,?_⟩;(apply takeIf (i := 13) rfl (by kernel_rfl) (fun _ _ _ h => h);(focus (apply yRun rfl;intro w;first | (go_simp;done) | (go_simp;rfl)));(focus (exact hS.conv));simp only [putW]);(apply takeIf (i := 14) rfl (by kernel_rfl) (fun _ _ _ h => h);(focus (apply yRun rfl;intro w;first | (go_simp;done) | (go_simp;rfl)));(focus (exact hS.conv));simp only [putW]);refine wpAnyH_all (rs := [15]) (by kernel_rfl) (by simp) ?_;intro i hi;simp only [List.mem_cons,List.not_mem_nil,or_false] at hi;subst hi;refine wpOp_of_list rfl ?_;go_wp2_with (refine store1 (b := j) (v := v') hS rfl rfl rfl rfl hvc ?_ ?_;(focus (simp;done));clear hS;intro w hS;simp only [evW,putW] at hS;try simp only [putW]);refine ⟨rfl,hS.conv,?_⟩;refine wpAnyH_done (by kernel_rfl) ?_ _;go_wp2_with (refine load1 hS rfl rfl rfl rfl ?_;simp only [putW]);go_meet;(case rel => exact ⟨v',hS.conv⟩))))))
            case rest =>
              clear hS hB1 hB2
              obtain ⟨vS4,hS⟩ := hcut
              have hS6 := stEnv_snoc0 (x := (⟨.fl,0,0,.nilFunc⟩ : StM)) rfl (hS.pull 77 (X := stEnv St3))
              have hS5 := stEnv_snoc0 (x := (⟨.rg2,0,0,.nilFunc⟩ : StM)) rfl hS6
              have hS4 := hS5.conv (S' := (blk vS4,sl 1 (stF d bj bn) (St3 ++ [(⟨.fl,0,0,.nilFunc⟩ : StM),(⟨.rg2,0,0,.nilFunc⟩ : StM)]) 91 vS4)::(77,stEnv (St3 ++ [(⟨.fl,0,0,.nilFunc⟩ : StM)] ++ [(⟨.rg2,0,0,.nilFunc⟩ : StM)]))::(j,cells (jobA d r lg pl (.slice qB m cB) vD (.slice qI m cI) vS4 true 0) 90)::(1,LogV lg PQ)::(blk (.slice qB m cB),sl 1 i64 (jobBs L) 3 (.slice qB m cB))::(blk vD,sl 32 digF (jobDs L) 26 vD)::(blk (.slice qI m cI),sl 1 rowF XI 48 (.slice qI m cI))::(79,inn XI 5)::(bj,cells #[.pointer (some ⟨j,0,none⟩)] 38)::(bn,cells (stV nb).toArray 28)::K)
              obtain ⟨St4,hSt4⟩ : ∃ St4,St3 ++ [(⟨.fl,0,0,.nilFunc⟩ : StM),(⟨.rg2,0,0,.nilFunc⟩ : StM)] = St4 := ⟨_,rfl⟩
              have hSt4b : St3 ++ [(⟨.fl,0,0,.nilFunc⟩ : StM)] ++ [(⟨.rg2,0,0,.nilFunc⟩ : StM)] = St4 := by rw [← hSt4];simp
              rw [hSt4,hSt4b] at hS4
              clear hS hS5 hS6
              have hS := hS4
              clear hS4
              have HK4 : Bx (St4.map (·.k) = wrK H k ++ [.fl,.rg1] ++ hmK m ++ [.fl,.rg2]) := ⟨by
                rw [← hSt4,List.map_append,HK3.out.1];rfl⟩
              clear hSt4 hSt4b
              go_wp2_with (first | (refine load1 hS rfl rfl rfl rfl ?_;simp only [putW]) | (refine store1 hS rfl rfl rfl rfl rfl ?_ ?_;(focus (simp;done));clear hS;intro w hS;simp only [evW,putW] at hS;try simp only [putW]))
              go_ret
              exact ⟨vS4,bj,bn,St4,rfl,HK4,by rw [HPQ.out,HNb.out];exact hS.conv⟩
end
end Go.Proofs.YtdkimdobcacpfaaDoor
