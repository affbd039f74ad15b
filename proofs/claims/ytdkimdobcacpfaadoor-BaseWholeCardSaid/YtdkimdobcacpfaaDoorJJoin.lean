/-
  bytes.Join with nothing between the parts.
-/
import Derived.Test.YtdkimdobcacpfaaDoorSlB
import Derived.Test.YtdkimdobcacpfaaDoorJPlain
import Derived.Test.YtdkimdobcacpfaaDoorTab
import Derived.Lib.MakeNoZero
import Derived.Laws.Externs
set_option linter.unusedSimpArgs false
set_option linter.unusedVariables false
namespace Go.Proofs.YtdkimdobcacpfaaDoor
open Go.RowKit Go.Proofs.YtdkimdobcacpfaaDoor.Sl Go.Proofs.YtdkimdobcacpfaaDoor.Jp

set_option maxRecDepth 100000 in
theorem mnz_any {w : World} (n : Nat) (hn : n ≤ 281474976710656) : ∃ cs : Array Value,(callFunc 84 #[.int .i64 n]).run Tryd.prog w = .ok (.value (.slice (some ⟨w.heap.size,0,none⟩) n cs.size)) (w.drew.drew.alloc (.cells cs 5)) ∧ n ≤ cs.size ∧ (n ≤ maxLen → cs.size ≤ maxLen) := by
  obtain ⟨cs,hrun,h1,h2⟩ := Lib.run_makeNoZero (P := Tryd.prog) w #[3] 48 5 Tryd.underlying48 n hn
  refine ⟨cs,?_,h1,h2⟩
  rw [run_callFunc_extern (fn := Tryd.f84) rfl (by kernel_rfl) (by kernel_rfl) (by kernel_rfl) (e := Extern.BytealgMakeNoZero.makeNoZero #[3] #[48]) (by kernel_rfl),hrun]
  rfl

abbrev raw : Value → List Value := one (fun v : Value => v)
abbrev rawv (A : List Int) : List Value := A.map (Value.int .u8)
theorem BAt.vals {w : World} {A : List Int} {b off : Nat} (h : BAt w 1 by8 okByte A b off) : BAt w 1 raw (fun _ => True) (rawv A) b off :=
  ⟨h.1,fun i x hx => by
    rw [List.getElem?_map] at hx
    obtain ⟨a,ha,rfl⟩ := Option.map_eq_some_iff.1 hx
    exact ⟨trivial,rfl,(h.2 i a ha).2.2⟩⟩
theorem RB.vals {w : World} {A : List Int} {v : Value} (h : RB w A v) : BSl w 1 raw (fun _ => True) (rawv A) v := by
  rcases h with ⟨rfl,h⟩ | ⟨b,off,cap,rfl,h1,h2,h⟩
  · exact .inl ⟨rfl,h⟩
  · exact .inr ⟨b,off,cap,by simp,by simpa using h1,h2,BAt.vals h⟩
theorem BAt.unvals {w : World} {A : List Int} {b off : Nat} (h : BAt w 1 raw (fun _ => True) (rawv A) b off) (hA : ∀ x ∈ A,okByte x) : BAt w 1 by8 okByte A b off :=
  ⟨h.1,fun i x hx => ⟨hA x (List.mem_of_getElem? hx),rfl,(h.2 i (.int .u8 x) (by rw [List.getElem?_map,hx];rfl)).2.2⟩⟩

section
variable {w0 : World} {X : List (Value × List Int)} {va : Value}
theorem cat_byt {w : World} {b off : Nat} (h : BAt w 1 (fun x : Value × List Int => [x.1]) (fun x => RB w x.2 x.1) X b off) : ∀ y ∈ cat X,okByte y := by
  intro y hy
  unfold cat at hy
  rw [List.mem_flatten] at hy
  obtain ⟨l,hl,hy⟩ := hy
  obtain ⟨x,hx,rfl⟩ := List.mem_map.1 hl
  obtain ⟨i,hi,rfl⟩ := List.mem_iff_getElem.1 hx
  exact (h.2 i _ (List.getElem?_eq_getElem hi)).1.all y hy
theorem splice_eq (A B : List Int) (J : List Value) : (rawv A ++ J.drop A.length).take A.length ++ (rawv B).take B.length ++ (rawv A ++ J.drop A.length).drop (A.length + B.length) = rawv (A ++ B) ++ J.drop (A ++ B).length := by
  rw [List.take_left' (by simp),List.take_of_length_le (by simp),List.drop_append,List.drop_eq_nil_of_le (by simp),List.nil_append,List.drop_drop,show rawv (A ++ B) = rawv A ++ rawv B from List.map_append ..,List.length_append,show (rawv A).length = A.length from List.length_map ..]
  congr 2
  omega
theorem BSl_cap {α : Type} {w : World} {n m c : Nat} {f : α → List Value} {gd : α → Prop} {L : List α} {a : Option Addr} (h : BSl w n f gd L (.slice a m c)) (h0 : L ≠ []) : L.length ≤ c ∧ c ≤ maxLen := by
  rcases h with ⟨h,_⟩ | ⟨b,off,cap,he,h1,h2,_⟩
  · exact absurd h h0
  · simp only [Value.slice.injEq] at he
    obtain ⟨_,_,rfl⟩ := he
    exact ⟨h1,h2⟩
set_option maxRecDepth 100000 in
set_option maxHeartbeats 4000000 in
theorem join_any (ha : RR w0 X va) (hb : (cat X).length ≤ 100000000000) : Calls Tryd.prog 73 #[va,.slice none 0 0] w0 fun e w' => ∃ v,e = .returned v ∧ Sat w0 [] w' ∧ RB w' (cat X) v := by
  have hS := Sat.refl w0
  have hax := ha
  obtain ⟨pa,ca,rfl,hla,hata⟩ := ha.at
  clear ha
  match X with
  | [] =>
    go_enter Tryd.func73,Tryd.ntmps73
    go_wp2_with (refine buildSlice0 hS rfl rfl by8 ?_;clear hS;intro mb w hS;simp only [putW])
    go_ret
    exact ⟨_,rfl,hS.conv,.inl ⟨rfl,.inr ⟨_,0,by simp,rfl⟩⟩⟩
  | [x] =>
    obtain ⟨ba,oa,rfl,hBa⟩ := hata (by simp)
    have hx : [x][0]? = some x := rfl
    have hrx := (hBa.2 0 x hx).1
    have hxl : x.2.length ≤ 100000000000 := by simpa [cat] using hb
    replace hS := hS.slNil 1 by8 5
    go_enter Tryd.func73,Tryd.ntmps73
    go_wp2_with (first | (refine loadB (f := rowF) hS rfl rfl rfl hBa 0 0 ?_ hx rfl ?_;omega;simp only [putW]) | (refine appendB (f := by8) hS rfl rfl (.slice none 0 0) rfl rfl x.2 (hrx.mono hS.base) ?_ ?_ ?_ ?_;(focus (simp [one,Value.oneCell'];done));(focus (simp [maxLen];omega));(focus (simp [maxLen];omega));clear hS;intro v' w hS;simp only [putW]))
    go_ret
    exact ⟨v',rfl,hS.conv,by simpa [cat] using hS.readsSl (α := Int) (v := v') hrx.all⟩
  | x0::x1::X' =>
    obtain ⟨ba,oa,rfl,hBa⟩ := hata (by simp)
    have hall := cat_byt hBa
    have hcap := (BSl_cap hax (by simp)).1
    generalize hXX : x0::x1::X' = X at *
    have hX2 : 2 ≤ X.length := by rw [← hXX];simp
    obtain ⟨x,hx⟩ : ∃ x,X[0]? = some x := ⟨_,List.getElem?_eq_getElem (by omega)⟩
    have hrx := (hBa.2 0 x hx).1
    clear hXX hata
    go_enter Tryd.func73,Tryd.ntmps73
    go_wp2_with (refine load1 hS rfl rfl rfl rfl ?_;simp only [putW])
    go_loopw [5,44] (fun n i wr => ∃ k : Nat,k ≤ X.length ∧ i = .int .i64 k ∧ n = .int .i64 ((cat (X.take k)).length : Nat) ∧ Sat w0 [] wr) (fun _ i _ => X.length - (intOf i).toNat)
    case atStart => exact ⟨0,Nat.zero_le _,rfl,rfl,hS⟩
    case round =>
      clear hS
      obtain ⟨k,hk,rfl,rfl,hS⟩ := hrel
      by_cases hlt : k < X.length
      · obtain ⟨⟨yv,yl⟩,hy⟩ : ∃ y,X[k]? = some y := ⟨_,List.getElem?_eq_getElem hlt⟩
        have hry : RB w0 yl yv := (hBa.2 k _ hy).1
        obtain ⟨py,cy,rfl,hly,_⟩ := hry.at
        have hle := cat_take_le X (k + 1)
        have hct := cat_take hy
        rw [hct,List.length_append] at hle
        replace hle : (cat (X.take k)).length + yl.length ≤ (cat X).length := hle
        have Hct : Hid _ := hct
        clear hct
        go_wp2_with (refine loadB (f := rowF) hS rfl rfl rfl hBa k 0 ?_ hy rfl ?_;omega;simp only [putW])
        go_roundw
        case rel => exact ⟨k + 1,by omega,by go_num,by rw [Hct.out,List.length_append];go_num,hS⟩
        case measure => simp [intOf];omega
      · have hkx : k = X.length := by omega
        subst hkx
        rw [List.take_of_length_le (Nat.le_refl _)]
        have hcl := cat_take_le X 0
        go_wp2_with (guard_target =~ wpList _ _ _ (Oper.mk (some 60) _ _ _ _ _::_) _ _;refine Stopped.out ?_)
        refine ⟨?_⟩
        obtain ⟨cs,hcall,hc1,hc2⟩ := mnz_any (w := wr) (cat X).length (by omega)
        refine wp_value rfl (v := .slice (some ⟨wr.heap.size,0,none⟩) (cat X).length cs.size) (w' := wr.drew.drew.alloc (.cells cs 5)) (by simp [execOp,resolve,invoke,Deferred.ofValue,Act.eval,hcall]) ?_
        replace hS := hS.drew.drew.freshCells cs 5
        have hc3 := hc2 (by simp [maxLen];omega)
        rw [show wr.drew.drew.heap.size = wr.heap.size from rfl] at hS
        clear hcall
        generalize wr.heap.size = g at hS ⊢
        generalize wr.drew.drew.alloc (.cells cs 5) = w at hS ⊢
        replace hS : Sat w0 ((g,slc 1 raw (cs.toList.take (cat X).length) cs.size 5)::[]) w := hS.toSlc (by simp) (by simp;omega) hc3 (by rw [flatMap_one];simp) (fun _ _ => rfl)
        have hcl2 : (cs.toList.take (cat X).length).length = (cat X).length := by simp;omega
        generalize hJ : cs.toList.take (cat X).length = J at hS hcl2
        clear hJ hc2
        have hx0 : cat (X.take 1) = x.2 := by rw [cat_take hx];simp [cat]
        have hxle := cat_take_le X 1
        rw [hx0] at hxle
        simp only [putW]
        go_wp2_with (first | (refine loadB (f := rowF) hS rfl rfl rfl hBa 0 0 ?_ hx rfl ?_;omega;simp only [putW]) | (guard_target =~ wpList _ _ _ (Oper.mk (some 68) _ _ _ _ _::_) _ _;refine Stopped.out ?_))
        refine ⟨?_⟩
        refine copyB hS rfl rfl rfl rfl (rawv x.2) (RB.vals (hrx.mono hS.base)) ?_ x.2.length ?_ ?_ ?_
        · simp [Value.oneCell']
        · simp;omega
        · simp;omega
        clear hS;intro w hS;simp only [putW]
        rw [show J.take 0 ++ (rawv x.2).take x.2.length ++ J.drop (0 + x.2.length) = rawv (cat (X.take 1)) ++ J.drop (cat (X.take 1)).length by rw [hx0];simp [List.take_of_length_le]] at hS
        go_wp2_with (refine load1 hS rfl rfl rfl rfl ?_;simp only [putW])
        simp only [goInt]
        go_loopw [9,72] (fun bp i wr => ∃ k : Nat,k ≤ X.length - 1 ∧ i = .int .i64 k ∧ bp = .int .i64 ((cat (X.take (k + 1))).length : Nat) ∧ Sat w0 [(g,slc 1 raw (rawv (cat (X.take (k + 1))) ++ J.drop (cat (X.take (k + 1))).length) cs.size 5)] wr) (fun _ i _ => X.length - (intOf i).toNat)
        case atStart => exact ⟨0,Nat.zero_le _,rfl,by rw [hx0],hS⟩
        case round =>
          clear hS
          obtain ⟨k,hk2,rfl,rfl,hS⟩ := hrel
          by_cases hlt2 : k < X.length - 1
          · obtain ⟨⟨yv,yl⟩,hy⟩ : ∃ y,X[k + 1]? = some y := ⟨_,List.getElem?_eq_getElem (by omega)⟩
            have hry : RB w0 yl yv := (hBa.2 (k + 1) _ hy).1
            have hle := cat_take_le X (k + 1 + 1)
            have hct := cat_take hy
            rw [hct,List.length_append] at hle
            replace hle : (cat (X.take (k + 1))).length + yl.length ≤ (cat X).length := hle
            have Hct : Hid _ := hct
            clear hct
            obtain ⟨py,cy,rfl,hly,_⟩ := hry.at
            have hlb : Hid ((rawv (cat (X.take (k + 1))) ++ J.drop (cat (X.take (k + 1))).length).length = (cat X).length) := by
              show List.length _ = _
              rw [List.length_append,List.length_map,List.length_drop,hcl2];omega
            by_cases hfull : (cat (X.take (k + 1))).length = (cat X).length
            · obtain rfl : yl = [] := List.eq_nil_of_length_eq_zero (by omega)
              rw [List.length_nil] at hry
              go_wp2_with (first | (refine loadB (f := rowF) hS rfl rfl rfl hBa (k + 1) 0 ?_ hy rfl ?_;omega;simp only [putW]) | (guard_target =~ wpList _ _ _ (Oper.mk (some 81) _ _ _ _ _::_) _ _;refine Stopped.out ?_))
              refine ⟨?_⟩
              refine copyB (e := 5) hS rfl rfl rfl rfl ([] : List Value) (gd := fun _ => True) (.inl ⟨rfl,.inl rfl⟩) ?_ 0 ?_ ?_ ?_
              · simp
              · simp
              · rw [hlb.out];omega
              clear hS;intro w hS;simp only [putW]
              simp only [List.take_zero,List.nil_append,List.append_nil,Nat.add_zero,List.drop_zero,List.take_nil,List.take_append_drop,List.map_nil] at hS
              go_wp2_with (guard_target =~ wpList _ _ _ (Oper.mk (some 88) _ _ _ _ _::_) _ _;refine Stopped.out ?_)
              refine ⟨?_⟩
              refine copyB hS rfl rfl rfl rfl (rawv []) (RB.vals (hry.mono hS.base)) ?_ 0 ?_ ?_ ?_
              · simp [Value.oneCell']
              · simp
              · rw [hlb.out];omega
              clear hS;intro w hS;simp only [putW]
              simp only [List.take_zero,List.nil_append,List.append_nil,Nat.add_zero,List.drop_zero,List.take_nil,List.take_append_drop,List.map_nil] at hS
              go_wp2_with (refine load1 hS rfl rfl rfl rfl ?_;simp only [putW])
              go_roundw
              case rel =>
                exact ⟨k + 1,by omega,by go_num,by rw [Hct.out,List.length_append];go_num,by rw [Hct.out];simpa using hS⟩
              case measure => simp [intOf];omega
            · have hfull2 : (cat (X.take (k + 1))).length < (cat X).length := by omega
              go_wp2_with (first | (refine loadB (f := rowF) hS rfl rfl rfl hBa (k + 1) 0 ?_ hy rfl ?_;omega;simp only [putW]) | (guard_target =~ wpList _ _ _ (Oper.mk (some 81) _ _ _ _ _::_) _ _;refine Stopped.out ?_))
              refine ⟨?_⟩
              refine copyB (e := 5) hS rfl rfl rfl rfl ([] : List Value) (gd := fun _ => True) (.inl ⟨rfl,.inl rfl⟩) ?_ 0 ?_ ?_ ?_
              · simp
              · simp
              · rw [hlb.out];omega
              clear hS;intro w hS;simp only [putW]
              simp only [List.take_zero,List.nil_append,List.append_nil,Nat.add_zero,List.drop_zero,List.take_nil,List.take_append_drop,List.map_nil] at hS
              go_wp2_with (guard_target =~ wpList _ _ _ (Oper.mk (some 88) _ _ _ _ _::_) _ _;refine Stopped.out ?_)
              refine ⟨?_⟩
              refine copyB hS rfl rfl rfl rfl (rawv yl) (RB.vals (hry.mono hS.base)) ?_ yl.length ?_ ?_ ?_
              · simp [Value.oneCell']
              · simp;omega
              · rw [hlb.out];omega
              clear hS;intro w hS;simp only [putW]
              go_wp2_with (refine load1 hS rfl rfl rfl rfl ?_;simp only [putW])
              go_roundw
              case rel =>
                refine ⟨k + 1,by omega,by go_num,by rw [Hct.out,List.length_append];go_num,?_⟩
                rw [Hct.out]
                show Sat w0 [(g,slc 1 raw (rawv (cat (X.take (k + 1)) ++ yl) ++ J.drop (cat (X.take (k + 1)) ++ yl).length) cs.size 5)] _
                rw [← splice_eq];exact hS
              case measure => simp [intOf];omega
          · have hkx : k + 1 = X.length := by omega
            rw [hkx,List.take_of_length_le (Nat.le_refl _)] at hS
            rw [List.drop_of_length_le (by omega),List.append_nil] at hS
            go_wp2_with (refine load1 hS rfl rfl rfl rfl ?_;simp only [putW])
            go_ret
            refine ⟨_,rfl,hS.conv,.inr ⟨g,0,(cat X).length,rfl,Nat.le_refl _,by simp [maxLen];omega,?_⟩⟩
            exact BAt.unvals (A := cat X) (hS.reads (g := g) (n := 1) (f := raw) (L := rawv (cat X)) (cap := cs.size) (t := 5) (gd := fun _ => True) fun _ _ => trivial) hall
end
end Go.Proofs.YtdkimdobcacpfaaDoor
