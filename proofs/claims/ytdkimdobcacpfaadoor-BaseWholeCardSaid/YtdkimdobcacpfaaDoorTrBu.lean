/-
  tree.Digest with a log, or without.
  tree.above.
  tree.Build.
  tree.Build, refused.
-/
import Derived.Test.YtdkimdobcacpfaaDoorTrDi
import Derived.Test.YtdkimdobcacpfaaDoorTrPlain
import Derived.Test.YtdkimdobcacpfaaDoorSlB
import Derived.Test.YtdkimdobcacpfaaDoorTrSt
set_option linter.unusedSimpArgs false
set_option linter.unusedVariables false
namespace Go.Proofs.YtdkimdobcacpfaaDoor
open Go.RowKit Go.Proofs.YtdkimdobcacpfaaDoor.Sl Go.Proofs.YtdkimdobcacpfaaDoor.Sha Go.Proofs.YtdkimdobcacpfaaDoor.Jp

/-- A log, or none. -/
def LogV (v : Value) (Ps : List (List Int × List Int)) : K := fun _ h => v = .pointer none ∨ ∃ l,v = .pointer (some ⟨l,0,none⟩) ∧ LogC Ps l h
def dig (b : Nat) (A : List Int) : List Int := shaF (inp b A)
def pre (b : Nat) (A : List Int) : List Int := inp b A
theorem dig_len' (b : Nat) (A : List Int) : (dig b A).length = 32 := dig_len _
theorem dig_okB (b : Nat) (A : List Int) : ∀ x ∈ dig b A,okByte x := dig_byte _
section
variable {w0 w : World} {K F S : List Chunk} {l : Nat} {lg : Value} {Ps Qs : List (List Int × List Int)} {A : List Int} {va : Value}
theorem logOpen (hS : Sat w0 ((1,LogV lg Ps)::K) w) : lg = .pointer none ∨ ∃ l,lg = .pointer (some ⟨l,0,none⟩) ∧ Sat w0 ((l,LogC Ps)::K) w := by
  obtain ⟨h1,h2,d,l1,l2,hx,r⟩ := hS.has
  rcases hx with hx | ⟨l,h3,h4⟩
  · exact .inl hx
  · exact .inr ⟨l,h3,hS.base,h1,h2,d,l1,l2,h4,r⟩
theorem logNil (hS : Sat w0 K w) (Ps : List (List Int × List Int)) : Sat w0 ((1,LogV (.pointer none) Ps)::K) w := hS.nilChunk 1 (.inl rfl)
theorem logSome (hS : Sat w0 ((l,LogC Ps)::K) w) : Sat w0 ((1,LogV (.pointer (some ⟨l,0,none⟩)) Ps)::K) w := hS.turn fun _ h => .inr ⟨l,rfl,h⟩
theorem digest_v {b : Nat} (hS : Sat w0 ((1,LogV lg Ps)::K) w) (hP : Ps.length ≤ 1000000) (hA : RB w A va) (hK : KTab w0) (hl : A.length ≤ 10000) :
    Calls Tryd.prog 33 #[lg,.int .i64 b,va] w fun e w' => e = .returned (.agg ((dig b A).map u8v).toArray) ∧ Sat w0 ((1,LogV lg (Ps ++ [(pre b A,dig b A)]))::K) w' := by
  have hKw := hK.mono hS.base
  rcases logOpen hS with rfl | ⟨l,rfl,hS2⟩
  · refine (digest_nil (b := (b : Int)) (D := dig b A) rfl hA hKw hl).mono fun e w' h => ⟨h.1,?_⟩
    exact logNil (hS.frame h.2).tail _
  · refine (digest_any (b := (b : Int)) (D := dig b A) rfl hS2 hP hA hKw hl).mono fun e w' h => ⟨h.1,?_⟩
    exact logSome h.2
end
end Go.Proofs.YtdkimdobcacpfaaDoor
namespace Go.Proofs.YtdkimdobcacpfaaDoor
open Go.RowKit Go.Proofs.YtdkimdobcacpfaaDoor.Sl Go.Proofs.YtdkimdobcacpfaaDoor.Sha Go.Proofs.YtdkimdobcacpfaaDoor.Jp Go.Proofs.YtdkimdobcacpfaaDoor.Tr

section
variable {w0 w : World} {K F S : List Chunk} {l : Nat} {lg : Value} {Ps Qs : List (List Int × List Int)} {A : List Int} {va vb : Value} {X : List (Value × List Int)}
theorem mapGet {X : List (Value × List Int)} {k : Nat} {x : Value × List Int} (h : X[k]? = some x) : (X.map (·.2)).getD k [] = x.2 := by
  simp [List.getD,h]
theorem rrShape {w : World} {v : Value} (h : RR w X v) : ∃ a c,v = .slice a X.length c ∧ X.length ≤ 9223372036854775807 := by
  obtain ⟨a,c,h1,h2,_⟩ := h.at
  exact ⟨a,c,h1,h2⟩
theorem rrAt {w : World} {a : Option Addr} {n c : Nat} (h : RR w X (.slice a n c)) (h0 : X ≠ []) : ∃ b off,a = some ⟨b,off,none⟩ ∧ BAt w 1 rowF (fun x => RB w x.2 x.1) X b off := by
  obtain ⟨a',c',h1,_,h3⟩ := h.at
  injection h1 with e1 e2 e3
  subst e1
  exact h3 h0
theorem digest_vi {b : Nat} {bi : Int} (hb : bi = b) (hS : Sat w0 ((1,LogV lg Ps)::K) w) (hP : Ps.length ≤ 1000000) (hA : RB w A va) (hK : KTab w0) (hl : A.length ≤ 10000) {D : List Int} (hD : dig b A = D) :
    Calls Tryd.prog 33 #[lg,.int .i64 bi,va] w fun e w' => e = .returned (.agg (D.map u8v).toArray) ∧ Sat w0 ((1,LogV lg (Ps ++ [(pre b A,D)]))::K) w' := by
  subst hb;subst hD
  exact digest_v hS hP hA hK hl
/-- The row above, when there is room for one block more. -/
def abRoom (fr : Nat) (bs : List Row) (k : Nat) : List Row := if k % 8 = 0 then ab dig fr bs k ++ [z256] else ab dig fr bs k
theorem abRoom_len (fr : Nat) (bs : List Row) (k : Nat) : (abRoom fr bs k).length = k / 8 + 1 := by
  unfold abRoom
  split
  · rw [List.length_append,ab_len];simp;omega
  · rw [ab_len];omega
theorem abRoom_row (fr : Nat) (bs : List Row) (k : Nat) : ∀ r ∈ abRoom fr bs k,isRow r := by
  have h := ab_rows dig_len' dig_okB fr bs k
  unfold abRoom
  split
  · intro r hr
    rcases List.mem_append.1 hr with hr | hr
    · exact h r hr
    · rw [List.mem_singleton.1 hr];exact isRow_z
  · exact h
theorem ab_next (fr : Nat) (bs : List Row) (k : Nat) {A : Row} (h : (abRoom fr bs k)[k / 8]? = some A) : ab dig fr bs (k + 1) = (abRoom fr bs k).set (k / 8) (putAt A (32 * (k % 8)) (dig (fr + k) (bs.getD k []))) := by
  rw [ab,abStep]
  exact modify_set h
/-- A row of rows reads alike, whatever bytes its rows are said to have. -/
theorem slcSetSame {Y : List (Value × List Int)} {i g cap : Nat} {v : Value} {A B : List Int} {t : TypeId} (hy : Y[i]? = some (v,A)) (h : Hp) (hX : slc 1 rowF Y cap t g h) : slc 1 rowF (Y.set i (v,B)) cap t g h := by
  obtain ⟨cur,h1,h2,h3,h4,h5,h6⟩ := hX
  have hm : ∀ L : List (Value × List Int),L.flatMap rowF = L.map (·.1) := fun L => by
    induction L with
    | nil => rfl
    | cons x L ih => rw [List.flatMap_cons,ih];rfl
  refine ⟨cur,h1,h2,by rw [List.length_set];exact h3,h4,?_,fun _ _ => rfl⟩
  rw [List.length_set,h5,hm,hm,List.map_set]
  have hi := (List.getElem?_eq_some_iff.1 hy)
  obtain ⟨hi,he⟩ := hi
  apply List.ext_getElem?
  intro j
  rw [List.getElem?_set]
  split
  · rename_i e;subst e;simp [hi,he]
  · rfl
set_option maxRecDepth 100000 in
set_option maxHeartbeats 4000000 in
theorem above_any {fr : Nat} (hfr : fr ≤ 1000000) (hS : Sat w0 ((1,LogV lg Ps)::K) w) (hR : ∀ w',Sat w0 K w' → RR w' X vb) (hK : KTab w0) (hX : X.length ≤ 100000) (hl : ∀ x ∈ X,x.2.length ≤ 10000) (hP : Ps.length ≤ 500000) :
    Calls Tryd.prog 63 #[lg,.int .i64 fr,vb] w fun e w' => ∃ v Y,e = .returned v ∧ Y.map (·.2) = ab dig fr (X.map (·.2)) X.length ∧ Sat w0 ((blk v,sl 1 rowF Y 48 v)::(0,inn Y 5)::(1,LogV lg (Ps ++ notes dig pre fr (X.map (·.2)) X.length))::K) w' := by
  obtain ⟨a0,c0,hvb,hn⟩ := rrShape (hR w hS.tail)
  subst hvb
  obtain ⟨bs,hbs⟩ : ∃ bs,X.map (·.2) = bs := ⟨_,rfl⟩
  have hbl : bs.length = X.length := by rw [← hbs];simp
  have HR : Bx _ := ⟨hR⟩
  have HL : Bx _ := ⟨hl⟩
  have HB : Bx _ := ⟨hbs⟩
  rw [hbs]
  clear hR hl hbs
  go_enter Tryd.func63,Tryd.ntmps63
  go_wp2_with (refine load1 hS rfl rfl rfl rfl ?_;simp only [putW])
  go_loopw [7,13] (fun v i wr => ∃ (k : Nat) (Y : List (Value × List Int)),k ≤ X.length ∧ i = .int .i64 k ∧ Bx (Y.map (·.2) = ab dig fr bs k) ∧ Sat w0 ((blk v,sl 1 rowF Y 48 v)::(0,inn Y 5)::(1,LogV lg (Ps ++ notes dig pre fr bs k))::K) wr) (fun _ i _ => X.length - (intOf i).toNat)
  case atStart =>
    refine ⟨0,[],Nat.zero_le _,rfl,⟨rfl⟩,?_⟩
    have h1 := (hS.innNil 0 5).slNil 1 rowF 48
    rw [show Ps ++ notes dig pre fr bs 0 = Ps by simp [notes]]
    exact h1
  case round =>
    clear hS
    obtain ⟨k,Y,hk,rfl,hY,hS⟩ := hrel
    by_cases hlt : k < X.length
    · obtain ⟨⟨xv,xl⟩,hx⟩ : ∃ x,X[k]? = some x := ⟨_,List.getElem?_eq_getElem hlt⟩
      have hKw : ∀ {w' : World} {S0 : List Chunk} [Ent S0 K],Sat w0 S0 w' → RR w' X (.slice a0 X.length c0) := fun h => HR.out _ h.conv
      obtain ⟨bb,ob,rfl,hBb⟩ := rrAt (HR.out _ hS.tail.tail.tail) (by intro e;subst e;simp at hlt)
      have hxl : xl.length ≤ 10000 := HL.out _ (List.mem_of_getElem? hx)
      have hxg : Bx (bs.getD k [] = xl) := ⟨by rw [← HB.out];exact mapGet hx⟩
      have hk7 : Y.length = (k + 7) / 8 := by have := congrArg List.length hY.out;rw [ab_len] at this;simpa using this
      go_upto_if 20 with (refine loadB (f := rowF) (Sat.refl _) rfl rfl rfl hBb k 0 ?_ hx rfl ?_;omega;simp only [putW])
      go_cut [7] from 21 to 24 (fun v wc => ∃ Y',Bx (Y'.map (·.2) = abRoom fr bs k) ∧ Sat w0 ((blk v,sl 1 rowF Y' 48 v)::(0,inn Y' 5)::(1,LogV lg (Ps ++ notes dig pre fr bs k))::K) wc)
      case first =>
        by_cases h8 : k % 8 = 0
        · go_wp2_with (guard_target =~ wpList _ _ _ (Oper.mk (some 22) _ _ _ _ _::_) _ _;refine Stopped.out ?_)
          refine ⟨?_⟩
          refine makeN hS rfl rfl 256 rfl rfl by8 (0 : Int) rfl ?_ ?_ ?_
          · omega
          · simp [maxLen]
          clear hS
          intro m1 w hS
          simp only [putW]
          go_wp2_with (first | (refine buildSlice1 (c := #[.slice (some ⟨m1,0,none⟩) 256 256]) hS rfl rfl rfl ?_ ?_ ?_ ?_;rfl;rfl;rfl;clear hS;intro mb w hS;simp only [putW]) | (guard_target =~ wpList _ _ _ (Oper.mk (some 24) _ _ _ _ _::_) _ _;refine Stopped.out ?_))
          refine ⟨?_⟩
          refine append1 (f := rowF) (n := 1) hS rfl rfl u7 rfl rfl ((.slice (some ⟨m1,0,none⟩) 256 256,z256) : Value × List Int) rfl ?_ rfl ?_ ?_ ?_
          · intro u hu;rw [List.mem_singleton.1 hu];rfl
          · simp [maxLen];omega
          · omega
          clear hS
          intro v' w hS
          simp only [putW]
          go_wp2_with (refine load1 hS rfl rfl rfl rfl ?_;simp only [putW])
          go_meet
          case rel =>
            refine ⟨Y ++ [((.slice (some ⟨m1,0,none⟩) 256 256,z256) : Value × List Int)],⟨by rw [List.map_append,hY.out,abRoom,if_pos h8];rfl⟩,?_⟩
            have h1 := (hS.pull m1).slOfSlc
            rw [show (List.replicate 256 (0 : Int)).length = 256 from List.length_replicate,show List.replicate 256 (0 : Int) = z256 from rfl] at h1
            exact (h1.innAdd (j := 0) (X := Y) (t := 5) (.slice (some ⟨m1,0,none⟩) 256 256) rfl).conv
        · go_wp2_with (refine load1 hS rfl rfl rfl rfl ?_;simp only [putW])
          go_meet
          case rel => exact ⟨Y,⟨by rw [hY.out,abRoom,if_neg h8]⟩,hS⟩
      case rest =>
        clear hS hY
        obtain ⟨Y',hY,hS⟩ := hcut
        go_wp2_with (guard_target =~ Calls _ 33 _ _ _;refine Stopped.out ?_)
        refine ⟨?_⟩
        have hPl : (Ps ++ notes dig pre fr bs k).length ≤ 1000000 := by rw [List.length_append,notes_len];omega
        obtain ⟨D,hD⟩ : ∃ D,dig (fr + k) xl = D := ⟨_,rfl⟩
        have hdl : Bx (D.length = 32) := ⟨by rw [← hD];exact dig_len' _ _⟩
        have hdb : ∀ x ∈ D,okByte x := by rw [← hD];exact dig_okB _ _
        replace hS := hS.conv (S' := (1,LogV lg (Ps ++ notes dig pre fr bs k))::(blk u7,sl 1 rowF Y' 48 u7)::(0,inn Y' 5)::K)
        (refine Calls.mono (digest_vi (b := fr + k) (by omega) hS hPl ((HR.out _ hS.tail.tail.tail).all _ (List.mem_of_getElem? hx)) hK hxl hD) ?_;clear hS;rintro _ w ⟨rfl,hS⟩;simp only [putW])
        have hxn : Bx (Ps ++ notes dig pre fr bs k ++ [(pre (fr + k) xl,D)] = Ps ++ notes dig pre fr bs (k + 1)) := ⟨by rw [notes,hxg.out,hD,List.append_assoc]⟩
        rw [hxn.out] at hS
        go_wp2_with (first | (refine allocA (t := 26) (vv := u8v) hS rfl rfl (List.replicate 32 0) zeros32 ?_;clear hS;intro md w hS;simp only [putW]) | (refine storeAllA (vv := u8v) hS rfl rfl rfl D rfl hdl.out (fun _ _ => rfl) (by simp) ?_;clear hS;intro w hS;try simp only [putW]))
        have hYl : Y'.length = k / 8 + 1 := by have := congrArg List.length hY.out;rw [abRoom_len] at this;simpa using this
        obtain ⟨⟨rv,A⟩,hy⟩ : ∃ y,Y'[k / 8]? = some y := ⟨_,List.getElem?_eq_getElem (by omega)⟩
        have hA : (abRoom fr bs k)[k / 8]? = some A := by rw [← hY.out];simp [hy]
        have hAr := abRoom_row fr bs k A (List.mem_of_getElem? hA)
        obtain ⟨gv,cv,hv,hS2⟩ := (hS.pull (blk u7)).slSome (by intro e;rw [e] at hYl;simp at hYl)
        subst hv
        have hS3 := hS2.rowAt (j := 0) hy
        obtain ⟨ga,ca,hrv,hS4⟩ := hS3.slFormC 256 hAr.1 (by omega)
        subst hrv
        have hca := (hS4.slcFacts (g := ga) (n := 1) (f := by8) (l := A) (cap := ca) (t := 5)).1
        have hAl := hAr.1
        rw [hAl] at hca
        have hnext : Bx (ab dig fr bs (k + 1) = (abRoom fr bs k).set (k / 8) (putAt A (32 * (k % 8)) D)) := ⟨by rw [ab_next fr bs k hA,hxg.out,hD]⟩
        have hAx : Bx (A.length = 256) := ⟨hAl⟩
        have hYB : Bx (Y'.map (·.2) = abRoom fr bs k) := hY
        have hdb' : Bx (∀ x ∈ D,okByte x) := ⟨hdb⟩
        have hyB : Bx (Y'[k / 8]? = some (Value.slice (some ⟨ga,0,none⟩) 256 ca,A)) := ⟨hy⟩
        obtain ⟨B,hB⟩ : ∃ B,putAt A (32 * (k % 8)) D = B := ⟨_,rfl⟩
        have HBx : Bx (A.take (0 + 32 * (k % 8)) ++ D.take 32 ++ A.drop (0 + 32 * (k % 8) + 32) = B) := ⟨by rw [← hB,putAt,Nat.zero_add,hdl.out,show D.take 32 = D from List.take_of_length_le (by rw [hdl.out];omega)]⟩
        have hl2 : Bx (B.length = 256) := ⟨by rw [← hB,putAt_len (by rw [hdl.out,hAl];omega)];exact hAl⟩
        rw [hB] at hnext
        clear hS hS2 hS3 hA hAr hY hdb hAl hD hxg hxn hPl hB
        have hS := hS4
        clear hS4
        go_wp2_with (refine load1 hS rfl rfl rfl rfl ?_;simp only [putW])
        (refine region_upd ga (slc 1 by8 B ca 5) 10 hS (by kernel_rfl) (by kernel_rfl) (by kernel_rfl) (by kernel_rfl) ?_;clear hS;(repeat (first | (apply one_dep rfl;(focus (intro w hS;go_wp2_with (first | (refine sliceLo (b := ga) (off := 0) (i := 32 * (k % 8)) rfl rfl rfl rfl ?_ ?_ ?_ ?_;(focus omega);(focus omega);(focus omega);simp only [putW]) | (refine sliceArr rfl rfl Tryd.underlying26 rfl ?_;simp only [putW]));exact ⟨rfl,rfl,hS⟩));simp only [putW]) | (apply one_step rfl;(focus (intro w hS;go_wp2_with (refine loadS (f := rowF) hS rfl rfl rfl (k / 8) 0 ?_ hyB.out rfl ?_ ?_;omega;omega;simp only [putW]);exact ⟨rfl,rfl,hS⟩));(focus (intro w hS;go_wp2_with (refine loadS (f := rowF) hS rfl rfl rfl (k / 8) 0 ?_ hyB.out rfl ?_ ?_;omega;omega;simp only [putW]);exact ⟨rfl,rfl,hS⟩));simp only [putW]) | (refine one_here rfl (v := goInt (32 : Nat)) ?_ ?_;(focus (intro w hS;go_wp2_with (refine copyB (g := ga) hS rfl rfl rfl rfl D (hS.readsArrN 32 hdl.out hdb'.out (by simp [maxLen])) ?_ 32 ?_ ?_ ?_;(focus (simp [Value.oneCell'];done));(focus (rw [hdl.out];omega));(focus (rw [hAx.out];omega));clear hS;intro w hS;rw [HBx.out] at hS;try simp only [putW]);(exact ⟨rfl,rfl,hS⟩)));simp only [putW])));refine one_nil ?_;intro w hS)
        replace hS := hS.slOfSlc
        rw [hl2.out] at hS
        replace hS := (hS.rowBack (v := Value.slice (some ⟨ga,0,none⟩) 256 ca) (B := B) (j := 0) rfl hyB.out)
        go_wp2_with (refine load1 hS rfl rfl rfl rfl ?_;simp only [putW])
        go_roundw
        case rel =>
          refine ⟨k + 1,Y'.set (k / 8) (Value.slice (some ⟨ga,0,none⟩) 256 ca,B),by omega,by go_num,⟨by rw [hnext.out,List.map_set,hYB.out]⟩,?_⟩
          have h1 := (hS.pull gv).turn (Y := slc 1 rowF (Y'.set (k / 8) (Value.slice (some ⟨ga,0,none⟩) 256 ca,B)) cv 48) (b' := gv) (slcSetSame hyB.out)
          have h2 := h1.slOfSlc
          rw [List.length_set] at h2
          exact h2.conv
        case measure => simp [intOf];omega
    · have hkx : k = X.length := by omega
      subst hkx
      go_wp2_with (refine load1 hS rfl rfl rfl rfl ?_;simp only [putW])
      go_ret
      exact ⟨_,Y,rfl,hY.out,hS⟩
end
end Go.Proofs.YtdkimdobcacpfaaDoor
namespace Go.Proofs.YtdkimdobcacpfaaDoor
open Go.RowKit Go.Proofs.YtdkimdobcacpfaaDoor.Sl Go.Proofs.YtdkimdobcacpfaaDoor.Sha Go.Proofs.YtdkimdobcacpfaaDoor.Jp Go.Proofs.YtdkimdobcacpfaaDoor.Tr

section
variable {w0 w : World} {K F S : List Chunk} {l : Nat} {lg : Value} {Ps Qs : List (List Int × List Int)} {va vb lv : Value} {X : List (Value × List Int)}
/-- Two rows of rows are one. -/
theorem innMerge {X Y : List (Value × List Int)} {t : TypeId} {j j' : Nat} (h : Sat w0 ((j,inn X t)::(j',inn Y t)::F) w) : Sat w0 ((j,inn (X ++ Y) t)::F) w := by
  refine Sat.close (T := [(j,inn X t),(j',inn Y t)]) h fun h1 ⟨ha,hb,d,l1,l2,hx,hc,hd,d',l3,l4,hy,_⟩ => ?_
  show holds (rowsL (X ++ Y) t) h1
  unfold rowsL
  rw [List.map_append]
  refine holds_join (h1 := ha) (h2 := hc) (fun k => ?_) l1 (le_trans l3 l2) hx hy
  rcases d k with e | e
  · exact .inl e
  · right
    cases ec : hc k with
    | none => rfl
    | some o => have := l3 k o ec;rw [e] at this;cases this
/-- A row of rows reads, its rows standing among others. -/
theorem rowsReadSub {X X' : List (Value × List Int)} {t T : TypeId} {gv j : Nat} {vo : Value} {F' : List Chunk} (h : Sat w0 S w) [p : PullSl S vo gv 1 rowF X T F] [q : Pull F j (inn X' t) F'] (hs : ∀ x ∈ X,x ∈ X') (hX : ∀ x ∈ X,∀ b ∈ x.2,okByte b) : RR w X vo := by
  refine BSl.mono (gd := fun x => x ∈ X) (h.readsSl (g := gv) (n := 1) (f := rowF) (L := X) (t := T) fun x hx => hx) (Below.refl _ _) fun x hx _ => ?_
  have h1 := (h.perm p.perm).tail
  exact (h1.pull j).innReads (v := x.1) (A := x.2) (hs x hx) (hX x hx)
set_option maxRecDepth 100000 in
set_option maxHeartbeats 4000000 in
theorem build_any {L : List Int} {P C m : Nat} {b N H hd J s t : Int} (hS : Sat w0 ((1,LogV lg Ps)::K) w) (hR : ∀ w',Sat w0 K w' → RR w' X vb) (hLv : ∀ w',Sat w0 K w' → RI w' L lv) (hK : KTab w0) (hC : X.length = C) (hrow : ∀ x ∈ X,x.2.length = 256) (hm : L.length = m) (hm0 : 0 < m)
    (hb : ∀ k,k ≤ m → (stB dig P (X.map (·.2)) k).1 ≤ 400000 ∧ (stB dig P (X.map (·.2)) k).2.1.length ≤ 1000 ∧ (stB dig P (X.map (·.2)) k).2.2.length ≤ 100000) (hone : (stB dig P (X.map (·.2)) m).2.1.length = 1) (hP : Ps.length ≤ 1000) :
    Calls Tryd.prog 37 #[lg,.agg (plL P b C lv N H hd J s t).toArray,vb] w fun e w' => ∃ v Y,e = .returned (.tuple #[v,.agg ((dig (stB dig P (X.map (·.2)) m).1 ((stB dig P (X.map (·.2)) m).2.1.getD 0 [])).map u8v).toArray,.int .i64 0]) ∧ Y.map (·.2) = (stB dig P (X.map (·.2)) m).2.2 ∧
      Sat w0 ((blk v,sl 1 rowF Y 48 v)::(0,inn Y 5)::(1,LogV lg (Ps ++ stN dig pre P (X.map (·.2)) m ++ [(pre (stB dig P (X.map (·.2)) m).1 ((stB dig P (X.map (·.2)) m).2.1.getD 0 []),dig (stB dig P (X.map (·.2)) m).1 ((stB dig P (X.map (·.2)) m).2.1.getD 0 []))]))::K) w' := by
  obtain ⟨a0,c0,hvb,hn⟩ := rrShape (hR w hS.tail)
  subst hvb
  obtain ⟨a1,c1,hlv,hn1,_⟩ := (hLv w hS.tail).at
  subst hlv
  obtain ⟨bs,hbs⟩ : ∃ bs,X.map (·.2) = bs := ⟨_,rfl⟩
  rw [hbs] at hb hone ⊢
  have HB : Bx _ := ⟨hbs⟩
  have HR : Bx _ := ⟨hR⟩
  have HW : Bx _ := ⟨hrow⟩
  have Hb : Bx _ := ⟨hb⟩
  have Ho : Bx _ := ⟨hone⟩
  have hP4 : P ≤ 400000 := (hb 0 (Nat.zero_le _)).1
  obtain ⟨D,hD⟩ : ∃ D,dig (stB dig P bs m).1 ((stB dig P bs m).2.1.getD 0 []) = D := ⟨_,rfl⟩
  obtain ⟨E,hE⟩ : ∃ E,pre (stB dig P bs m).1 ((stB dig P bs m).2.1.getD 0 []) = E := ⟨_,rfl⟩
  rw [hD,hE]
  have HD : Bx _ := ⟨hD⟩
  have HE : Bx _ := ⟨hE⟩
  have hdl : Bx (D.length = 32) := ⟨by rw [← hD];exact dig_len' _ _⟩
  clear hD hE
  rw [hC,hm]
  rw [hC] at hn
  have hX1 : C ≤ 1000 := by have := (hb 0 (Nat.zero_le _)).2.1;rw [← hbs] at this;simpa [stB,hC] using this
  clear hbs hR hrow hb hone hLv
  go_enter Tryd.func37,Tryd.ntmps37
  go_wp2_with (first | (refine allocA (t := 26) (vv := u8v) hS rfl rfl (List.replicate 32 0) zeros32 ?_;clear hS;intro mo w hS;simp only [putW]) | (refine load1 hS rfl rfl rfl rfl ?_;simp only [putW]) | (refine boxN hS rfl rfl rfl ?_;clear hS;intro mb w hS;simp only [putW]))
  go_loopw [29] (fun i wr => ∃ k : Nat,k ≤ C ∧ i = .int .i64 k ∧ Sat w0 _ wr) (fun i _ => C - (intOf i).toNat)
  case atStart => exact ⟨0,Nat.zero_le _,rfl,hS⟩
  case round =>
    clear hS
    obtain ⟨k,hk,rfl,hS⟩ := hrel
    by_cases hlt : k < C
    · obtain ⟨⟨xv,xl⟩,hx⟩ : ∃ x,X[k]? = some x := ⟨_,List.getElem?_eq_getElem (by omega)⟩
      have hRw := HR.out _ (hS.conv : Sat w0 K wr)
      obtain ⟨bb,ob,ha0,hBb⟩ := rrAt hRw (by intro e;subst e;simp at hx)
      subst ha0
      obtain ⟨px,cx,hxv⟩ : ∃ px cx,xv = .slice px 256 cx := by
        obtain ⟨px,cx,e,_⟩ := (hBb.2 k _ hx).1.at
        have h256 : xl.length = 256 := HW.out _ (List.mem_of_getElem? hx)
        rw [h256] at e
        exact ⟨px,cx,e⟩
      subst hxv
      clear hRw
      go_wp2_with (refine loadB (f := rowF) (Sat.refl _) rfl rfl rfl hBb k 0 ?_ hx rfl ?_;omega;simp only [putW])
      go_roundw
      case rel => exact ⟨k + 1,by omega,by go_num,hS⟩
      case measure => simp [intOf];omega
    · have hkC : k = C := by omega
      subst hkC
      go_wp2_with (refine load1 hS rfl rfl rfl rfl ?_;simp only [putW])
      go_loopw [11,12,13,44] (fun nd at' lv' i wr => ∃ (q : Nat) (Nd Lk : List (Value × List Int)) (T : List Chunk),q ≤ m ∧ i = .int .i64 q ∧ at' = .int .i64 ((stB dig P bs q).1 : Nat) ∧ Bx (Nd.map (·.2) = (stB dig P bs q).2.2) ∧ Bx (Lk.map (·.2) = (stB dig P bs q).2.1) ∧ Bx (∀ x ∈ Lk,x.2.length ≤ 10000) ∧ Bx (∀ w',Sat w0 ((0,inn Nd 5)::(T ++ K)) w' → RR w' Lk lv') ∧
        Sat w0 ((blk nd,sl 1 rowF Nd 48 nd)::(0,inn Nd 5)::(1,LogV lg (Ps ++ stN dig pre P bs q))::(mo,cells ((List.replicate 32 (0 : Int)).map u8v).toArray 26)::(mb,cells (plL P b k (.slice a1 m c1) N H hd J s t).toArray 60)::(T ++ K)) wr) (fun _ _ _ i _ => m - (intOf i).toNat)
      case atStart =>
        refine ⟨0,[],X,[],Nat.zero_le _,rfl,rfl,⟨rfl⟩,HB,⟨fun x hx => by rw [HW.out x hx];omega⟩,⟨fun w' h => ?_⟩,?_⟩
        · have h1 : Sat w0 K w' := (show Sat w0 ((0,inn [] 5)::K) w' from h).conv
          have h2 := HR.out _ h1
          rw [hC] at h2
          exact h2
        · have h1 := (hS.innNil 0 5).slNil 1 rowF 48
          rw [show Ps ++ stN dig pre P bs 0 = Ps by simp [stN]]
          exact (h1.conv : Sat w0 ((0,sl 1 rowF [] 48 (.slice none 0 0))::(0,inn [] 5)::(1,LogV lg Ps)::(mo,cells ((List.replicate 32 (0 : Int)).map u8v).toArray 26)::(mb,cells (plL P b k (.slice a1 m c1) N H hd J s t).toArray 60)::K) wr)
      case round =>
        clear hS
        obtain ⟨q,Nd,Lk,T,hq,rfl,rfl,hNd,hLk,hLr,hRd,hS⟩ := hrel
        obtain ⟨a2,c2,hv2,_⟩ := rrShape (hRd.out wr hS.conv)
        subst hv2
        have hbq := Hb.out q hq
        have hlk : Lk.length = (stB dig P bs q).2.1.length := by rw [← hLk.out];simp
        have hnd : Nd.length = (stB dig P bs q).2.2.length := by rw [← hNd.out];simp
        have hnt := stN_len (d := dig) pre P bs q
        have hstep : Bx (stB dig P bs (q + 1) = ((stB dig P bs q).1 + Lk.length,ab dig (stB dig P bs q).1 (stB dig P bs q).2.1 Lk.length,(stB dig P bs q).2.2 ++ ab dig (stB dig P bs q).1 (stB dig P bs q).2.1 Lk.length)) := ⟨by rw [hlk];rfl⟩
        have hnstep : Bx (stN dig pre P bs (q + 1) = stN dig pre P bs q ++ notes dig pre (stB dig P bs q).1 (stB dig P bs q).2.1 Lk.length) := ⟨by rw [hlk];rfl⟩
        obtain ⟨at0,hat0⟩ : ∃ n,(stB dig P bs q).1 = n := ⟨_,rfl⟩
        rw [hat0] at hstep hnstep hnt hbq ⊢
        have hlk1 : Lk.length ≤ 1000 := by omega
        have hnd1 : Nd.length ≤ 100000 := by omega
        have hnt1 : (stN dig pre P bs q).length ≤ 400000 := by omega
        have hat1 : at0 ≤ 400000 := by omega
        have HLK : Bx _ := ⟨hlk⟩
        have HAT : Bx _ := ⟨hat0⟩
        clear hbq hlk hnd hnt hat0
        by_cases hqm : q < m
        · go_wp2_with (guard_target =~ Calls _ 63 _ _ _;refine Stopped.out ?_)
          refine ⟨?_⟩
          replace hS := hS.conv (S' := (1,LogV lg (Ps ++ stN dig pre P bs q))::(blk u11,sl 1 rowF Nd 48 u11)::(0,inn Nd 5)::(mo,cells ((List.replicate 32 (0 : Int)).map u8v).toArray 26)::(mb,cells (plL P b k (.slice a1 m c1) N H hd J s t).toArray 60)::(T ++ K))
          have hPl : (Ps ++ stN dig pre P bs q).length ≤ 500000 := by rw [List.length_append];omega
          (refine Calls.mono (above_any (fr := at0) (X := Lk) (by omega) hS (fun w' h => hRd.out w' h.conv) hK (by omega) hLr.out hPl) ?_;clear hS;rintro _ w ⟨v,Y,rfl,hY,hS⟩;simp only [putW])
          rw [hLk.out] at hY hS
          have hYr := ab_rows dig_len' dig_okB at0 (stB dig P bs q).2.1 Lk.length
          rw [← hY] at hYr
          have hYl : Y.length ≤ 1000 := by have := congrArg List.length hY;rw [ab_len] at this;simp at this;omega
          have HY : Bx _ := ⟨hY⟩
          have HYr : Bx (∀ x ∈ Y,isRow x.2) := ⟨fun x hx => hYr _ (List.mem_map_of_mem hx)⟩
          clear hY hYr
          have hc : ∀ x ∈ Y,x.1.oneCell' = true := fun x hx => by
            have h1 := (hS.pull 0).innReads (v := x.1) (A := x.2) hx (HYr.out x hx).2
            obtain ⟨a,c,e,_⟩ := h1.at
            rw [e];rfl
          have hS2 := (hS.pull 0).turn (b' := 2) (Y := inn Y 5) fun _ h => h
          clear hS
          have hS := hS2
          clear hS2
          go_wp2_with (guard_target =~ wpList _ _ _ (Oper.mk (some 57) _ _ _ _ _::_) _ _;refine Stopped.out ?_)
          refine ⟨?_⟩
          refine appendB (f := rowF) (n := 1) hS rfl rfl u11 rfl rfl Y (hS.readsSl (v := v) (L := Y) (gd := fun _ => True) fun _ _ => trivial) (fun x hx u hu => by rw [List.mem_singleton.1 hu];exact hc x hx) ?_ ?_ ?_
          · simp [maxLen];omega
          · omega
          clear hS hc
          intro v2 w hS
          simp only [putW]
          have hS2 : Sat w0 ((0,inn (Nd ++ Y) 5)::(blk v2,sl 1 rowF (Nd ++ Y) 48 v2)::(1,LogV lg (Ps ++ stN dig pre P bs q ++ notes dig pre at0 (stB dig P bs q).2.1 Lk.length))::(mo,cells ((List.replicate 32 (0 : Int)).map u8v).toArray 26)::(mb,cells (plL P b k (.slice a1 m c1) N H hd J s t).toArray 60)::(blk v,sl 1 rowF Y 48 v)::(T ++ K)) w := innMerge (j := 0) (j' := 2) hS.conv
          clear hS
          have hS := hS2
          clear hS2
          rw [List.append_assoc,← hnstep.out] at hS
          go_wp2_with (refine load1 hS rfl rfl rfl rfl ?_;simp only [putW])
          go_roundw
          case rel =>
            refine ⟨q + 1,Nd ++ Y,Y,[(blk v,sl 1 rowF Y 48 v)],by omega,by go_num,?_,⟨by rw [List.map_append,hNd.out,HY.out,hstep.out]⟩,⟨by rw [HY.out,hstep.out]⟩,⟨fun x hx => by rw [(HYr.out x hx).1];omega⟩,⟨fun w' h => ?_⟩,?_⟩
            · rw [hstep.out];go_num
            · have h1 : Sat w0 ((0,inn (Nd ++ Y) 5)::(blk v,sl 1 rowF Y 48 v)::K) w' := h
              exact rowsReadSub (j := 0) (X' := Nd ++ Y) h1 (fun x hx => List.mem_append_right _ hx) fun x hx => (HYr.out x hx).2
            · exact (hS.conv : Sat w0 ((blk v2,sl 1 rowF (Nd ++ Y) 48 v2)::(0,inn (Nd ++ Y) 5)::(1,LogV lg (Ps ++ stN dig pre P bs (q + 1)))::(mo,cells ((List.replicate 32 (0 : Int)).map u8v).toArray 26)::(mb,cells (plL P b k (.slice a1 m c1) N H hd J s t).toArray 60)::(blk v,sl 1 rowF Y 48 v)::K) w)
          case measure => simp [intOf];omega
        · have hqe : q = m := by omega
          subst hqe
          have hl1 : Lk.length = 1 := by rw [HLK.out];exact Ho.out
          obtain ⟨⟨xv,xl⟩,hx⟩ : ∃ x,Lk[0]? = some x := ⟨_,List.getElem?_eq_getElem (by omega)⟩
          have hxl : xl.length ≤ 10000 := hLr.out _ (List.mem_of_getElem? hx)
          have hxg : Bx ((stB dig P bs q).2.1.getD 0 [] = xl) := ⟨by rw [← hLk.out];exact mapGet hx⟩
          have hRw := hRd.out wr hS.conv
          obtain ⟨bb,ob,ha0,hBb⟩ := rrAt hRw (by intro e;subst e;simp at hx)
          subst ha0
          rw [hl1]
          have HL1 : Bx (Lk.length = 1) := ⟨hl1⟩
          have HD2 : Bx (dig at0 xl = D) := ⟨by rw [← HD.out,hxg.out,HAT.out]⟩
          have HE2 : Bx (pre at0 xl = E) := ⟨by rw [← HE.out,hxg.out,HAT.out]⟩
          clear hl1 hRw
          go_wp2_with (first | (refine loadB (f := rowF) (Sat.refl _) rfl rfl rfl hBb 0 0 ?_ hx rfl ?_;omega;simp only [putW]) | (guard_target =~ Calls _ 33 _ _ _;refine Stopped.out ?_))
          refine ⟨?_⟩
          replace hS := hS.conv (S' := (1,LogV lg (Ps ++ stN dig pre P bs q))::(blk u11,sl 1 rowF Nd 48 u11)::(0,inn Nd 5)::(mo,cells ((List.replicate 32 (0 : Int)).map u8v).toArray 26)::K)
          have hPl : (Ps ++ stN dig pre P bs q).length ≤ 1000000 := by rw [List.length_append];omega
          (refine Calls.mono (digest_vi (b := at0) rfl hS hPl ((hBb.2 0 _ hx).1) hK hxl HD2.out) ?_;clear hS;rintro _ w ⟨rfl,hS⟩;simp only [putW])
          rw [HE2.out] at hS
          go_wp2_with (refine storeAllA (vv := u8v) hS rfl rfl rfl D rfl hdl.out (fun _ _ => rfl) (by simp) ?_;clear hS;intro w hS;try simp only [putW])
          have hr := run_loadAll (P := Tryd.prog) hS mo 26 (by simpa using hdl.out)
          refine bodyPost_ret (v := .tuple #[u11,.agg (D.map u8v).toArray,.int .i64 0]) (by simp [results,Tryd.results37,asAddr,hr]) rfl ⟨u11,Nd,rfl,hNd.out,hS.conv⟩
end
end Go.Proofs.YtdkimdobcacpfaaDoor
namespace Go.Proofs.YtdkimdobcacpfaaDoor
open Go.RowKit Go.Proofs.YtdkimdobcacpfaaDoor.Sl Go.Proofs.YtdkimdobcacpfaaDoor.Sha Go.Proofs.YtdkimdobcacpfaaDoor.Jp Go.Proofs.YtdkimdobcacpfaaDoor.Tr

section
variable {w0 w : World} {lg va vb lv : Value} {X : List (Value × List Int)}
end
end Go.Proofs.YtdkimdobcacpfaaDoor
