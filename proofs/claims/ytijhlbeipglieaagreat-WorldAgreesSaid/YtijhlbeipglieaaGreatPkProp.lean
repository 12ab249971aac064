/- Merged: Prop2, PlainBest, Prop3, Prop4, SiteU. -/
import Derived.Test.YtijhlbeipglieaaGreatPkSiteV
set_option linter.all false
set_option maxRecDepth 100000
set_option maxHeartbeats 4000000
namespace Go.Proofs.YtijhlbeipglieaaGreat
open Go.RowKit Agio Go.Maps
def _root_.Agio.PmV.val (x:PmV):Value:=.agg #[.int .i64 x.f,.bool x.so,.int .i64 x.at_.r,.int .i64 x.at_.s,.slice x.s.A x.s.n x.s.c]
theorem propAt (w:World) (g:Nat) (n:Int) (hg:Blk w g 3 #[.int .i64 n]) (x:PmV) :
  Calls Tryz.prog 280 #[x.val,.pointer (some ⟨g,0,none⟩)] w fun e w'=>e= .returned (.tuple #[.agg #[.int .i64 x.at_.r,.int .i64 x.at_.s],.bool (x.so && isSite x.f n)])∧Upd [] [] w w':=by
 obtain ⟨xf,so,xa,xs⟩:=x
 unfold PmV.val isSite
 dsimp only
 obtain ⟨W,H,G,eW,hH,hG,hB1,hB2,U0⟩:=boxes2 w 340 30 #[.int .i64 xf,.bool so,.int .i64 xa.r,.int .i64 xa.s,.slice xs.A xs.n xs.c] #[.int .i64 0,.int .i64 0]
 have hg1:W.cell? ⟨g,0,none⟩=some (.int .i64 n):=(hg.upd U0 (by simp)).cell 0
 have K:=blk_set2 hB2 (.int .i64 xa.r) (.int .i64 xa.s)
 have u:=upd_set2 W G (.int .i64 xa.r) (.int .i64 xa.s)
 have U:=(U0.gives (b':=[]) (by simp)).own (g:=G) (by omega) u
 obtain ⟨⟨a0,a1,a2,a3,a4⟩,-⟩:=hB1.c5
 obtain ⟨⟨b0,b1⟩,f0,f1⟩:=hB2.c2
 have hk1:=(hB1.upd u (by simp only [List.mem_singleton];omega))
 have hgg:=((hg.upd U0 (by simp)).upd u (by simp only [List.mem_singleton];have:=hg.lt;omega)).cell 0
 go_enter Tryz.func280,Tryz.ntmps280
 repeat' (first|go_values|go_skip|go_guarded|go_step|go_upon|(simp only [];go_at_K))
 obtain ⟨Wn,hWn⟩:∃X,(W.setCell ⟨G,0,none⟩ (.int .i64 xa.r)).setCell ⟨G,1,none⟩ (.int .i64 xa.s)=X:=⟨_,rfl⟩
 rw [hWn] at K U hk1 hgg
 obtain ⟨⟨c0,c1,c2,c3,c4⟩,-⟩:=hk1.c5
 obtain ⟨⟨z0,z1⟩,-⟩:=K.c2
 change Wn.cell? ⟨g,0,none⟩=some (.int .i64 n) at hgg
 have FIN:=Lib.hid (show Upd [] [] w Wn.drew from U.drew)
 clear U
 cases so with
 | false=>
  go_region
  all_goals (repeat' (first | go_values | go_skip | go_guarded | go_step | go_upon | (simp only [];go_at_K)))
  all_goals exact bodyPost_ret (v:=.tuple #[.agg #[.int .i64 xa.r,.int .i64 xa.s],.bool false]) (by simp [results,Tryz.results280,go_sem,z0,z1]) rfl ⟨by simp,FIN.out⟩
 | true=>
  by_cases h1:0≤xf
  ·have d1:decide (0≤xf)=true:=decide_eq_true h1
   by_cases h2:xf < n
   ·have d2:decide (xf < n)=true:=decide_eq_true h2
    go_region
    all_goals (repeat' (first | go_values | go_skip | go_guarded | go_step | go_upon | (simp only [];go_at_K)))
    all_goals exact bodyPost_ret (v:=.tuple #[.agg #[.int .i64 xa.r,.int .i64 xa.s],.bool true]) (by simp [results,Tryz.results280,go_sem,z0,z1]) rfl ⟨by simp [d1,d2],FIN.out⟩
   ·have d2:decide (xf < n)=false:=decide_eq_false h2
    go_region
    all_goals (repeat' (first | go_values | go_skip | go_guarded | go_step | go_upon | (simp only [];go_at_K)))
    all_goals exact bodyPost_ret (v:=.tuple #[.agg #[.int .i64 xa.r,.int .i64 xa.s],.bool false]) (by simp [results,Tryz.results280,go_sem,z0,z1]) rfl ⟨by simp [d1,d2],FIN.out⟩
  ·have d1:decide (0≤xf)=false:=decide_eq_false h1
   go_region
   all_goals (repeat' (first | go_values | go_skip | go_guarded | go_step | go_upon | (simp only [];go_at_K)))
   all_goals exact bodyPost_ret (v:=.tuple #[.agg #[.int .i64 xa.r,.int .i64 xa.s],.bool false]) (by simp [results,Tryz.results280,go_sem,z0,z1]) rfl ⟨by simp [d1],FIN.out⟩
end Go.Proofs.YtijhlbeipglieaaGreat
namespace Agio
open Go Go.Proofs.YtijhlbeipglieaaGreat
def Pm.ok (n:Int) (p:Pm):Bool:=p.so && isSite p.f n
def grP (n:Int) (l:List Pm):Nat→Option Nat
 | 0=>none
 | i + 1=>match l[i]? with
  | none=>grP n l i
  | some p=>match grP n l i with
   | none=>if p.ok n then some i else none
   | some j=>if p.ok n && decide (0 < cmpB p.at_ ((l[j]?.map Pm.at_).getD ⟨0,0⟩)) then some i else some j
theorem grP_lt (n:Int) (l:List Pm):∀(i j:Nat),grP n l i=some j→j < i∧j < l.length
 | 0,j,h=>by cases h
 | i + 1,j,h=>by
  unfold grP at h
  cases hp:l[i]? with
  | none=>
   simp only [hp] at h
   have:=grP_lt n l i j h
   exact ⟨by omega,this.2⟩
  | some p=>
   have hi:i < l.length:=(List.getElem?_eq_some_iff.1 hp).1
   simp only [hp] at h
   cases hg:grP n l i with
   | none=>
    simp only [hg] at h
    split at h
    ·injection h with h;subst h;exact ⟨by omega,hi⟩
    ·cases h
   | some k=>
    have:=grP_lt n l i k hg
    simp only [hg] at h
    split at h
    ·injection h with h;subst h;exact ⟨by omega,hi⟩
    ·injection h with h;subst h;exact ⟨by omega,this.2⟩
theorem grP_some (n:Int) (l:List Pm) (i:Nat) (p:Pm) (h:l[i]? =some p):grP n l (i + 1)=match grP n l i with
  | none=>if p.ok n then some i else none
  | some j=>if p.ok n && decide (0 < cmpB p.at_ ((l[j]?.map Pm.at_).getD ⟨0,0⟩)) then some i else some j:=by
 conv=>lhs;unfold grP
 simp only [h]
theorem bestP_take (n:Int) (l:List Pm):∀i,i≤l.length→bestP n (l.take i)=(grP n l i).bind (fun j=>l[j]?)
 | 0,_=>rfl
 | i + 1,h=>by
  have hi:i < l.length:=by omega
  have ih:=bestP_take n l i (by omega)
  have e1:bestP n (l.take (i + 1))=(if l[i].so && isSite l[i].f n && (match bestP n (l.take i) with | none=>true | some q=>decide (0 < cmpB l[i].at_ q.at_)) then some l[i] else bestP n (l.take i)):=by
   unfold bestP
   rw [List.take_succ_eq_append_getElem hi,List.foldl_append]
   rfl
  rw [e1,ih,grP_some n l i _ (List.getElem?_eq_getElem hi)]
  cases hg:grP n l i with
  | none=>
   simp only [Option.bind_none,Bool.and_true]
   unfold Pm.ok
   cases hc:(l[i].so && isSite l[i].f n)
   ·rfl
   ·simp only [if_true,Option.bind_some];exact (List.getElem?_eq_getElem hi).symm
  | some j=>
   have hj:=grP_lt n l i j hg
   simp only [Option.bind_some,List.getElem?_eq_getElem hj.2,Option.map_some,Option.getD_some]
   unfold Pm.ok
   cases hc:(l[i].so && isSite l[i].f n && decide (0 < cmpB l[i].at_ l[j].at_))
   ·simp only [Bool.false_eq_true,if_false,Option.bind_some];exact (List.getElem?_eq_getElem hj.2).symm
   ·simp only [if_true,Option.bind_some];exact (List.getElem?_eq_getElem hi).symm
theorem bestP_gr (n:Int) (l:List Pm):bestP n l=(grP n l l.length).bind (fun j=>l[j]?):=by
 have:=bestP_take n l l.length (Nat.le_refl _)
 rwa [List.take_length] at this
end Agio
namespace Go.Proofs.YtijhlbeipglieaaGreat
open Go.RowKit Agio Go.Maps
def placeV:Option Nat→Int
 | none=>-1
 | some j=>(j:Int)
theorem pm_len:∀x:PmV,(PmV.cells x).length=5:=fun _=>rfl
theorem propGreatest (w:World) (g:Nat) (n:Int) (hg:Blk w g 3 #[.int .i64 n]) (A:Option Addr) (c:Nat) (l:List PmV) (hl:RdS PmV.cells 5 w A l.length l) (hlen:l.length≤1000000000) (hA:∀k∈ablk A,k < w.heap.size) :
  Calls Tryz.prog 279 #[.slice A l.length c,.func (.func 280) #[] #[.pointer (some ⟨g,0,none⟩)]] w fun e w'=>e= .returned (.int .i64 (placeV (grP n (l.map PmV.pl) l.length)))∧Upd [] [] w w':=by
 obtain ⟨W,T,eW,hT,hB,U0⟩:=boxes1 w 30 #[.int .i64 0,.int .i64 0]
 have hl1:=hl.upd0 U0
 have hg1:=hg.upd U0 (by simp)
 have U0':=U0.gives (b':=[]) (by simp)
 have hTl:=hB.lt
 have hTA:T∉ablk A:=fun hk=>by have:=hA T hk;omega
 have hgT:g≠T:=by have:=hg.lt;omega
 obtain ⟨L,hL⟩:∃L,l.map PmV.pl=L:=⟨_,rfl⟩
 rw [hL]
 have hLi:∀i (h:i < l.length),L[i]? =some l[i].pl:=fun i h=>by rw [←hL];simp [h]
 clear hL
 go_enter Tryz.func279,Tryz.ntmps279
 repeat' (first|go_values|go_skip|go_guarded|go_step|go_upon|(simp only [];go_at_K))
 go_loopw [5,13] (fun v5 v13 wr=>∃(i:Nat) (b:Bl),i≤l.length∧v13= .int .i64 (i:Int)∧v5= .int .i64 (placeV (grP n L i))∧Blk wr T 30 #[.int .i64 b.r,.int .i64 b.s]∧(∀j,grP n L i=some j→(L[j]?.map Pm.at_).getD ⟨0,0⟩=b)∧Upd [T] [T] W wr) (fun _ v13 _=>l.length - (intOf v13).toNat)
 case atStart=>exact ⟨0,⟨0,0⟩,by omega,rfl,rfl,hB,(fun j h=>by cases h),Upd.refl _ _⟩
 case round=>
  obtain ⟨i,b,hi,rfl,rfl,hBr,hbj,U⟩:=hrel
  by_cases hlt:i < l.length
  ·have hil:(i:Int) < (l.length:Int):=by omega
   have hw1:IntKind.i64.wrap ((i:Int) + 1)=(i:Int) + 1:=by rw [IntKind.wrap_i64];omega
   have hvr:=hl1.upd U (fun k hk=>by
    have:=hl1.rd
    simp only [List.mem_singleton]
    rintro rfl
    exact hTA hk)
   obtain ⟨ad,rfl,h0,hj⟩:=RdS.at_ (f:=PmV.cells) (s:=5) pm_len hvr hlt
   have hLx:=hLi i hlt
   generalize l[i]=x at *
   have c0:=h0 _ rfl
   have c1:=hj 1 _ (by omega) rfl
   have c2:=hj 2 _ (by omega) rfl
   have c3:=hj 3 _ (by omega) rfl
   have c4:=hj 4 _ (by omega) rfl
   simp only [Bsl.val] at c4
   have C:=fun (wx:World) (b:List Nat) (u:Upd [T] b W wx)=>propAt wx g n (hg1.upd u (by simpa using hgT)) x
   rw [PmV.val] at C
   clear h0 hj hvr hLi hl hl1
   obtain ⟨ok,hok⟩:∃ok,(x.so && isSite x.f n)=ok:=⟨_,rfl⟩
   simp only [hok] at C
   have hG:=grP_some n L i _ hLx
   rw [show Pm.ok n x.pl=ok from hok] at hG
   have HG:=Lib.hid hG
   clear hok hG
   repeat' (first|go_values|go_skip|go_guarded|go_step|go_upon|(simp only [];go_at_K))
   ((with_reducible refine (C _ _ (U.alloc _)).mono ?_);rintro e w2 ⟨rfl,u2⟩)
   have U2:=(U.alloc (.cells #[.int .i64 x.f,.bool x.so,.int .i64 x.at_.r,.int .i64 x.at_.s,.slice x.s.A x.s.n x.s.c] 340)).trans (u2.up [T])
   have B2:=(hBr.alloc (.cells #[.int .i64 x.f,.bool x.so,.int .i64 x.at_.r,.int .i64 x.at_.s,.slice x.s.A x.s.n x.s.c] 340)).upd u2 (by simp)
   clear C c0 c1 c2 c3 c4 hBr U u2
   obtain ⟨W3,G,eW3,hGs,hBG,U3⟩:=boxes1 w2 30 #[.int .i64 x.at_.r,.int .i64 x.at_.s]
   have B3:=B2.upd U3 (by simp)
   have U3':=U2.trans ((U3.gives (b':=[]) (by simp)).up [T])
   have hTG:T≠G:=by have:=B2.lt;omega
   obtain ⟨⟨g0,g1⟩,-⟩:=hBG.c2
   obtain ⟨⟨t0,t1⟩,f0,f1⟩:=B3.c2
   cases ok with
   | false=>
    have hG2:grP n L (i + 1)=grP n L i:=by
     rw [HG.out]
     cases grP n L i <;> rfl
    have HG2:=Lib.hid hG2
    clear hG2 HG
    repeat' (first|go_values|go_skip|go_guarded|go_step|go_upon|(simp only [];go_at_K))
    exact ⟨⟨i + 1,b,by omega,by simp,by rw [HG2.out],B3,(fun j h=>hbj j (by rw [←HG2.out];exact h)),U3'⟩,by simp [intOf];omega⟩
   | true=>
    cases hgr:grP n L i with
    | none=>
     have hG2:grP n L (i + 1)=some i:=by rw [HG.out,hgr];rfl
     have HG2:=Lib.hid hG2
     have K:=Lib.hid (blk_set2 B3 (.int .i64 x.at_.r) (.int .i64 x.at_.s))
     have UK:=Lib.hid (U3'.trans (upd_set2 W3 T (.int .i64 x.at_.r) (.int .i64 x.at_.s)))
     have HLx:=Lib.hid hLx
     have hpv:placeV none= -1:=rfl
     rw [hpv]
     clear hG2 HG hgr hbj hLx B3 U3' hpv
     repeat' (first|go_values|go_skip|go_guarded|go_step|go_upon|(simp only [];go_at_K))
     go_region
     all_goals (repeat' (first | go_values | go_skip | go_guarded | go_step | go_upon | (simp only [];go_at_K)))
     all_goals exact ⟨⟨i + 1,x.at_,by omega,by simp,by rw [HG2.out];rfl,K.out,(fun j h=>by rw [HG2.out] at h;injection h with h;subst h;rw [HLx.out];rfl),UK.out.drew⟩,by simp [intOf];omega⟩
    | some j=>
     have hb:=hbj j hgr
     have CC:=ballotCompare W3 x.at_ b
     simp only [Bl.val] at CC
     have hpv:placeV (some j)=(j:Int):=rfl
     have hG2:grP n L (i + 1)=if decide (0 < cmpB x.at_ b)=true then some i else some j:=by
      rw [HG.out,hgr]
      simp only [Bool.true_and]
      rw [hb]
      rfl
     have HG2:=Lib.hid hG2
     have HB:=Lib.hid hb
     have HLx:=Lib.hid hLx
     have hj0:decide ((j:Int) < 0)=false:=decide_eq_false (by omega)
     rw [hpv]
     clear hG2 HG hgr hbj hb hpv hLx
     repeat' (first|go_values|go_skip|go_guarded|go_step|go_upon|(simp only [];go_at_K))
     ((with_reducible refine CC.mono ?_);rintro e w4 ⟨rfl,u4⟩)
     have B4:=B3.upd u4 (by simp)
     have U4:=U3'.trans (u4.up [T])
     have hBG4:=hBG.upd u4 (by simp)
     clear CC g0 g1 t0 t1 f0 f1 B3 U3' hBG
     obtain ⟨⟨g0,g1⟩,-⟩:=hBG4.c2
     obtain ⟨⟨t0,t1⟩,f0,f1⟩:=B4.c2
     by_cases hc:0 < cmpB x.at_ b
     ·have dc:decide (0 < cmpB x.at_ b)=true:=decide_eq_true hc
      have K:=Lib.hid (blk_set2 B4 (.int .i64 x.at_.r) (.int .i64 x.at_.s))
      have UK:=Lib.hid (U4.trans (upd_set2 w4 T (.int .i64 x.at_.r) (.int .i64 x.at_.s)))
      have hG3:grP n L (i + 1)=some i:=by rw [HG2.out,if_pos dc]
      have HG3:=Lib.hid hG3
      clear hG3 hc B4 U4
      repeat' (first|go_values|go_skip|go_guarded|go_step|go_upon|(simp only [];go_at_K))
      go_region
      all_goals (repeat' (first | go_values | go_skip | go_guarded | go_step | go_upon | (simp only [];go_at_K)))
      all_goals exact ⟨⟨i + 1,x.at_,by omega,by simp,by rw [HG3.out];rfl,K.out,(fun j h=>by rw [HG3.out] at h;injection h with h;subst h;rw [HLx.out];rfl),UK.out.drew⟩,by simp [intOf];omega⟩
     ·have dc:decide (0 < cmpB x.at_ b)=false:=decide_eq_false hc
      have hG3:grP n L (i + 1)=some j:=by rw [HG2.out,if_neg (by rw [dc];simp)]
      have HG3:=Lib.hid hG3
      clear hG3 hc
      repeat' (first|go_values|go_skip|go_guarded|go_step|go_upon|(simp only [];go_at_K))
      exact ⟨⟨i + 1,b,by omega,by simp,by rw [HG3.out];rfl,B4,(fun j' h=>by rw [HG3.out] at h;injection h with h;subst h;exact HB.out),U4⟩,by simp [intOf];omega⟩
  ·obtain rfl:i=l.length:=by omega
   have hil:¬ ((l.length:Int) < (l.length:Int)):=by omega
   repeat' (first|go_values|go_skip|go_guarded|go_step|go_upon|(simp only [];go_at_K))
   go_ret
   exact ⟨rfl,(U0'.own (by omega) U)⟩
end Go.Proofs.YtijhlbeipglieaaGreat
namespace Go.Proofs.YtijhlbeipglieaaGreat
open Go.RowKit Agio Go.Maps
theorem propChoose (w:World) (A:Option Addr) (c:Nat) (l:List PmV) (hl:RdS PmV.cells 5 w A l.length l) (hlen:l.length≤1000000000) (hA:∀k∈ablk A,k < w.heap.size) (hb:∀x∈l,RdB w x.s.A x.s.n x.s.b∧x.s.b.length≤2048) (n:Nat) (hn:n≤7) :
  Calls Tryz.prog 249 #[.slice A l.length c,.int .i64 (n:Int)] w fun e w'=>∃A' k c',e= .returned (.tuple #[.slice A' k c',.bool (chooseP (l.map PmV.pl) n).isSome])∧OwnB 5 w' A' k c' ((chooseP (l.map PmV.pl) n).getD [])∧Upd [] (ablk A') w w':=by
 obtain ⟨W,g,eW,hg,hB,U0⟩:=boxes1 w 3 #[.int .i64 (n:Int)]
 have hl1:=hl.upd0 U0
 have U0':=U0.gives (b':=[]) (by simp)
 have HM:=Lib.hid (show chooseP (l.map PmV.pl) n=if mostI (l.map PmV.f) n then some (((bestP n (l.map PmV.pl)).map Pm.b).getD []) else none by
  unfold chooseP;rw [List.map_map];rfl)
 obtain ⟨R,hR⟩:∃R,chooseP (l.map PmV.pl) n=R:=⟨_,rfl⟩
 rw [hR] at HM ⊢
 clear hR
 go_enter Tryz.func249,Tryz.ntmps249
 repeat' (first|go_values|go_skip|go_guarded|go_step|go_upon|(simp only [];go_at_K))
 go_loopw [6,12] (fun v6 v12 wr=>∃(i:Nat) (A1:Option Addr) (c1:Nat),i≤l.length∧v12= .int .i64 (i:Int)∧v6= .slice A1 i c1∧Agio.Own 3 1 wr A1 i c1 (((l.take i).map PmV.f).map (Value.int .i64))∧Upd [] (ablk A1) W wr)
  (fun _ v12 _=>l.length - (intOf v12).toNat)
 case atStart=>exact ⟨0,none,0,by omega,rfl,rfl,Own.nil _ _ _,Upd.refl _ _⟩
 case round=>
  obtain ⟨i,A1,c1,hi,rfl,rfl,ho,U⟩:=hrel
  by_cases hlt:i < l.length
  ·have hil:(i:Int) < (l.length:Int):=by omega
   have hw1:IntKind.i64.wrap ((i:Int) + 1)=(i:Int) + 1:=by rw [IntKind.wrap_i64];omega
   have hvr:=hl1.upd0 U
   obtain ⟨ad,rfl,h0,hj⟩:=RdS.at_ (f:=PmV.cells) (s:=5) pm_len hvr hlt
   have hT:((l.take (i + 1)).map PmV.f).map (Value.int .i64)=((l.take i).map PmV.f).map (Value.int .i64) ++ [.int .i64 l[i].f]:=by rw [List.take_succ_eq_append_getElem hlt,List.map_append,List.map_append];rfl
   generalize l[i]=x at *
   have c0:=h0 _ rfl
   have c1:=hj 1 _ (by omega) rfl
   have c2:=hj 2 _ (by omega) rfl
   have c3:=hj 3 _ (by omega) rfl
   have c4:=hj 4 _ (by omega) rfl
   simp only [Bsl.val] at c4
   obtain ⟨W2,G,eW2,hGs,hBG,U2⟩:=boxes1 wr 340 #[.int .i64 x.f,.bool x.so,.int .i64 x.at_.r,.int .i64 x.at_.s,.slice x.s.A x.s.n x.s.c]
   have ho2:=ho.upd U2 (by simp)
   have U02:=U.trans (U2.up _)
   obtain ⟨⟨g0,g1,g2,g3,g4⟩,-⟩:=hBG.c5
   have HT:=Lib.hid hT
   clear hT h0 hj hvr hb hl hl1 ho U U2 HM
   repeat' ((fail_if_success (with_reducible refine stop_append rfl ?_));first|go_values|go_skip|go_guarded|go_step|go_upon|(simp only [];go_at_K))
   refine wpList_push rfl _ _ 168 rfl 3 Tryz.underlying168 infoI64 rfl (by decide) ho2 rfl W2.heap.size rfl rfl rfl rfl (by unfold maxLen;omega) (by omega) ?_
   intro A3 c3' w3 ho3 hu3
   have U3:=U02.trans hu3
   clear ho2 U02 hu3 g0 g1 g2 g3 g4 hBG c0 c1 c2 c3 c4
   repeat' (first|go_values|go_skip|go_guarded|go_step|go_upon|(simp only [];go_at_K))
   exact ⟨⟨i + 1,A3,c3',by omega,by simp,rfl,by rw [HT.out];exact ho3,U3⟩,by simp [intOf];omega⟩
  ·obtain rfl:i=l.length:=by omega
   have hil:¬ ((l.length:Int) < (l.length:Int)):=by omega
   rw [List.take_length] at ho
   have C:=ballotMost wr A1 c1 (l.map PmV.f) n (by omega) (by rw [List.length_map];exact ho.rd) (by rw [List.length_map];omega)
   rw [List.length_map] at C
   have UU:=U0'.trans (U.gives (b':=[]) (by simp))
   have hBw:=hB.upd U (by simp)
   obtain ⟨b0,-⟩:=hBw.c1
   have hl3:=hl.upd0 UU
   have hAw:∀k∈ablk A,k < wr.heap.size:=fun k hk=>by have h1:=hA k hk;have h2:=UU.size;omega
   obtain ⟨mo,hmo⟩:∃mo,mostI (l.map PmV.f) n=mo:=⟨_,rfl⟩
   rw [hmo] at C HM
   clear hmo ho U hl1 hB
   cases mo with
   | false=>
    have hRN:R=none:=HM.out
    subst hRN
    repeat' (first|go_values|go_skip|go_guarded|go_step|go_upon|(simp only [];go_at_K))
    ((with_reducible refine C.mono ?_);rintro e w2 ⟨rfl,hu2⟩)
    repeat' (first|go_values|go_skip|go_guarded|go_step|go_upon|(simp only [];go_at_K))
    go_ret2
    exact ⟨none,0,0,rfl,OwnB.nil _ _,(UU.trans hu2).gives (by simp [ablk])⟩
   | true=>
    have HRS:=Lib.hid (show R=some (((bestP n (l.map PmV.pl)).map Pm.b).getD []) from HM.out)
    repeat' (first|go_values|go_skip|go_guarded|go_step|go_upon|(simp only [];go_at_K))
    ((with_reducible refine C.mono ?_);rintro e w2 ⟨rfl,hu2⟩)
    have U2:=UU.trans hu2
    have C2:=propGreatest w2 g n (hBw.upd hu2 (by simp)) A c l (hl3.upd0 hu2) hlen (fun k hk=>by have h1:=hAw k hk;have h2:=hu2.size;omega)
    have HBG:=Lib.hid (bestP_gr n (l.map PmV.pl))
    rw [List.length_map] at HBG
    clear C
    repeat' (first|go_values|go_skip|go_guarded|go_step|go_upon|(simp only [];go_at_K))
    ((with_reducible refine C2.mono ?_);rintro e w3 ⟨rfl,hu3⟩)
    have U3:=U2.trans hu3
    clear C2
    cases hgr:grP n (l.map PmV.pl) l.length with
    | none=>
     have hRN:R=some []:=by rw [HRS.out,HBG.out,hgr];rfl
     subst hRN
     have hpv:placeV none= -1:=rfl
     rw [hpv]
     clear hgr
     repeat' (first|go_values|go_skip|go_guarded|go_step|go_upon|(simp only [];go_at_K))
     go_ret2
     exact ⟨none,0,0,rfl,OwnB.nil _ _,U3.gives (by simp [ablk])⟩
    | some j=>
     have hj:=(grP_lt n _ _ j hgr).1
     have hjl:(j:Int) < (l.length:Int):=by omega
     have hpv:placeV (some j)=(j:Int):=rfl
     have hRN:R=some l[j].s.b:=by
      rw [HRS.out,HBG.out,hgr]
      simp only [Option.bind_some,List.getElem?_map,List.getElem?_eq_getElem hj,Option.map_some,Option.getD_some]
      rfl
     have hj0:decide ((j:Int) < 0)=false:=decide_eq_false (by omega)
     have hvr:=hl.upd0 U3
     obtain ⟨ad,rfl,h0,hjj⟩:=RdS.at_ (f:=PmV.cells) (s:=5) pm_len hvr hj
     have hbx:=hb _ (List.getElem_mem hj)
     generalize l[j]=x at *
     have c4:=hjj 4 _ (by omega) rfl
     simp only [Bsl.val] at c4
     have CC:=bytesClone w3 x.s.A x.s.n x.s.c x.s.b (hbx.1.upd U3 (by simp)) (by omega)
     rw [hpv]
     subst hRN
     clear hgr hpv h0 hjj hvr hbx hb HRS HBG HM
     repeat' (first|go_values|go_skip|go_guarded|go_step|go_upon|(simp only [];go_at_K))
     ((with_reducible refine CC.mono ?_);rintro e w4 ⟨A4,k4,c4',rfl,ho4,hu4⟩)
     repeat' (first|go_values|go_skip|go_guarded|go_step|go_upon|(simp only [];go_at_K))
     go_ret2
     exact ⟨A4,k4,c4',rfl,ho4,U3.trans hu4⟩
end Go.Proofs.YtijhlbeipglieaaGreat
namespace Agio
open Go
theorem frontG_map {α β:Type} (f:α→β) (L:AL α):∀k s,frontG (mapG f L) k s=frontG L k s
 | 0,_=>rfl
 | k + 1,s=>by
  unfold frontG
  rw [lookG_map,Option.isSome_map,frontG_map f L k (s + 1)]
theorem topG_map {α β:Type} (f:α→β) (L:AL α):topG (mapG f L)=topG L:=by
 unfold topG mapG
 rw [List.foldl_map]
end Agio
namespace Go.Proofs.YtijhlbeipglieaaGreat
open Go.RowKit Agio Go.Maps
theorem SiteV.front_pl (M:SiteV):M.pl.front=frontG M.lv (4096 - M.taken) M.taken:=frontG_map Bsl.b M.lv _ _
theorem SiteV.top_pl (M:SiteV):M.pl.topA=max M.top (topG M.lv):=by
 unfold Site.topA
 show max M.top (topG (mapG Bsl.b M.lv))=_
 rw [topG_map]
variable [Ban]
theorem siteFrontier (w:World) (M:SiteV) (h:SiteS w M):Calls Tryz.prog 28 #[M.ptr] w fun e w'=>e= .returned (.int .i64 (M.pl.front:Int))∧w=w':=by
 have C:=learnFrontier w M.gl M.bl M.lv M.taken h.lrn
 rw [←SiteV.front_pl] at C
 have q7:w.cell? ⟨M.gs,7,none⟩=some (.pointer (some ⟨M.gl,0,none⟩)):=h.blk.cell 7
 rw [SiteV.ptr]
 clear h
 go_enter Tryz.func28,Tryz.ntmps28
 repeat' (first|go_values|go_skip|go_guarded|go_step|go_upon|(simp only [];go_at_K))
 ((with_reducible refine C.mono ?_);rintro e w1 ⟨rfl,rfl⟩)
 repeat' (first|go_values|go_skip|go_guarded|go_step|go_upon|(simp only [];go_at_K))
 go_ret
 exact ⟨rfl,rfl⟩
theorem siteHeld (w:World) (M:SiteV) (h:SiteS w M):Calls Tryz.prog 22 #[M.ptr] w fun e w'=>e= .returned (.int .i64 (M.pl.held.length:Int))∧w=w':=by
 have q11:w.cell? ⟨M.gs,11,none⟩=some (.slice M.Ah M.held.length M.ch):=h.blk.cell 11
 rw [SiteV.ptr,SiteV.held_len]
 clear h
 go_enter Tryz.func22,Tryz.ntmps22
 repeat' (first|go_values|go_skip|go_guarded|go_step|go_upon|(simp only [];go_at_K))
 go_ret
 exact ⟨rfl,rfl⟩
theorem siteTop (w:World) (M:SiteV) (h:SiteS w M):Calls Tryz.prog 36 #[M.ptr] w fun e w'=>e= .returned (.int .i64 M.pl.topA)∧Upd [] [] w w':=by
 have C:=learnTop w.drew M.gl M.bl M.lv M.taken (h.drew.lrn)
 rw [SiteV.top_pl]
 have q7:w.drew.cell? ⟨M.gs,7,none⟩=some (.pointer (some ⟨M.gl,0,none⟩)):=h.blk.cell 7
 have q6:w.drew.cell? ⟨M.gs,6,none⟩=some (.int .i64 M.top):=h.blk.cell 6
 have u0:Upd [] [] w w.drew:=(Upd.refl [] w).drew
 rw [SiteV.ptr]
 clear h
 go_enter Tryz.func36,Tryz.ntmps36
 repeat' (first|go_values|go_skip|go_guarded|go_step|go_upon|(simp only [];go_at_K))
 go_region_with (first | (go_at_call 100;(with_reducible refine C.mono ?_);rintro e w1 ⟨rfl,u1⟩;have q6b:=u1.cell q6 (by simp)))
 all_goals (repeat' (first | go_values | go_skip | go_guarded | go_step | go_upon | (simp only [];go_at_K)))
 all_goals go_ret
 all_goals exact ⟨by rw [←show (if M.top < topG M.lv then topG M.lv else M.top)=max M.top (topG M.lv) by split <;> omega];rfl,u0.trans u1⟩
theorem siteDisk (w:World) (M:SiteV) (h:SiteS w M):Calls Tryz.prog 26 #[M.ptr] w fun e w'=>e= .returned (.tuple #[.int .i64 (M.db.length:Int),.int .i64 (M.dn:Int)])∧Upd [] [] w w':=by
 have q4:w.drew.cell? ⟨M.gs,4,none⟩=some (.pointer (some ⟨M.gd,0,none⟩)):=h.blk.cell 4
 have hN:=Lib.hid (fun (wx:World) (b:List Nat) (u:Upd [] b w wx)=>(h.upd0 u).dsk)
 have hC:=Lib.hid (fun (wx:World) (b:List Nat) (u:Upd [] b w wx)=>show wx.cell? ⟨M.gs,4,none⟩=some (.pointer (some ⟨M.gd,0,none⟩)) from (h.upd0 u).blk.cell 4)
 have u0:Upd [] [] w w.drew:=(Upd.refl [] w).drew
 rw [SiteV.ptr]
 clear h
 go_enter Tryz.func26,Tryz.ntmps26
 repeat' (first|go_values|go_skip|go_guarded|go_step|go_upon|(simp only [];go_at_K))
 go_region_with (first
  | (go_at_call 73;(with_reducible refine (diskBytes _ M.gd M.Ad M.db.length M.cd M.db M.dn (hN.out _ _ (by first | exact u0 | assumption))).mono ?_);rintro e w1 ⟨A,n,c,rfl,ho,u1⟩;have hnn:n=M.db.length:=ho.len;have v1:=Upd.trans (by first | exact u0 | assumption:Upd [] [] w _) (u1.gives (b':=[]) (by simp));have q4b:=hC.out _ _ v1)
  | (go_at_call 76;(with_reducible refine (diskSynced _ M.gd M.Ad M.db.length M.cd M.db M.dn (hN.out _ _ (by first | assumption | exact u0))).mono ?_);rintro e w2 ⟨rfl,rfl⟩))
 all_goals (repeat' (first | go_values | go_skip | go_guarded | go_step | go_upon | (simp only [];go_at_K)))
 all_goals go_ret2
 all_goals exact ⟨rfl,v1⟩
end Go.Proofs.YtijhlbeipglieaaGreat
