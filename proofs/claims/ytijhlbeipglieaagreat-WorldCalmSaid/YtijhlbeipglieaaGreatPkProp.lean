/- For WorldCalm. -/
import Derived.Test.YtijhlbeipglieaaGreatPkSiteV
set_option linter.all false
set_option maxRecDepth 100000
set_option maxHeartbeats 4000000
namespace aL
open Go List
theorem zT{α β:Type}(f:α→β)(L:AL α):∀k s,cN (cD f L) k s=cN L k s
 |0,_=>rfl
 |k+1,s=>by
  unfold cN
  rw[eB,Option.isSome_map,zT f L k (s+1)]
theorem EZ{α β:Type}(f:α→β)(L:AL α):eT (cD f L)=eT L:=by
 unfold eT cD
 rw[foldl_map]
end aL
namespace Go.Proofs.YtijhlbeipglieaaGreat
open Go.RowKit aL Go.Maps Tryz List
theorem ae.qR(M:ae):M.pl.front=cN M.lv (4096-M.taken) M.taken:=zT bO.b M.lv _ _
theorem ae.Ns(M:ae):M.pl.bF=max M.top (eT M.lv):=by
 unfold Site.bF
 show max M.top (eT (cD bO.b M.lv))=_
 rw[EZ]
section
variable [eA]
theorem FH(w:World)(M:ae)(h:aJ w M):Calls prog 28 #[M.ptr] w fun e w'=>e=.returned (.int .i64 (M.pl.front:Int))∧w=w':=by
 have C:=my w M.gl M.bl M.lv M.taken h.iH
 rw[←ae.qR]at C
 have q7:w.cell? ⟨M.gs,7,none⟩=some (.pointer (some ⟨M.gl,0,none⟩)):=h.aO.cell 7
 rw[ae.ptr]
 clear h
 go_enter func28,ntmps28
 repeat' go_step
 refine C.mono ?_;rintro e w1 ⟨rfl,rfl⟩
 refine wk ?_
 go_ret
 exact⟨rfl,rfl⟩
theorem AR(w:World)(M:ae)(h:aJ w M):Calls prog 36 #[M.ptr] w fun e w'=>e=.returned (.int .i64 M.pl.bF)∧ab [] [] w w':=by
 have C:=EY w.drew M.gl M.bl M.lv M.taken (h.drew.iH)
 rw[ae.Ns]
 have q7:w.drew.cell? ⟨M.gs,7,none⟩=some (.pointer (some ⟨M.gl,0,none⟩)):=h.aO.cell 7
 have q6:w.drew.cell? ⟨M.gs,6,none⟩=some (.int .i64 M.top):=h.aO.cell 6
 have u0:ab [] [] w w.drew:=(ab.refl [] w).drew
 rw[ae.ptr]
 clear h
 go_enter func36,ntmps36
 repeat' go_step
 go_region_with (first|(go_at_call 100;(with_reducible refine C.mono ?_);rintro e w1 ⟨rfl,u1⟩;have q6b:=u1.cell q6 (by simp)))
 all_goals (refine wk ?_)
 all_goals go_ret
 all_goals exact⟨by rw[←show(if M.top<eT M.lv then eT M.lv else M.top)=max M.top (eT M.lv) by split<;>omega];rfl,u0.trans u1⟩
end
def _root_.aL.fo.val(x:fo):Value:=.agg #[.int .i64 x.f,.bool x.so,.int .i64 x.at_.r,.int .i64 x.at_.s,.slice x.s.A x.s.n x.s.c]
theorem XW(w:World)(g:Nat)(n:Int)(hg:aQ w g 3 #[.int .i64 n])(x:fo) :
  Calls prog 280 #[x.val,.pointer (some ⟨g,0,none⟩)] w fun e w'=>e=.returned (.tuple #[.agg #[.int .i64 x.at_.r,.int .i64 x.at_.s],.bool (x.so&&dd x.f n)])∧ab [] [] w w':=by
 obtain⟨xf,so,xa,xs⟩:=x
 unfold fo.val dd
 dsimp only
 obtain⟨W,H,G,eW,hH,hG,gh,cX,U0⟩:=DG w 340 30 #[.int .i64 xf,.bool so,.int .i64 xa.r,.int .i64 xa.s,.slice xs.A xs.n xs.c] #[.int .i64 0,.int .i64 0]
 have hg1:W.cell? ⟨g,0,none⟩=some (.int .i64 n):=(hg.aq U0 (by simp)).cell 0
 have K:=qW cX (.int .i64 xa.r) (.int .i64 xa.s)
 have u:=qX W G (.int .i64 xa.r) (.int .i64 xa.s)
 have U:=(U0.gives (b':=[]) (by simp)).own (g:=G) (by omega) u
 obtain⟨⟨a0,a1,a2,a3,a4⟩,-⟩:=gh.c5
 obtain⟨⟨b0,b1⟩,f0,f1⟩:=cX.c2
 have oq:=(gh.aq u (by simp only[mem_singleton];omega))
 have LZ:=((hg.aq U0 (by simp)).aq u (by simp only[mem_singleton];have:=hg.lt;omega)).cell 0
 go_enter func280,ntmps280
 repeat' go_step
 obtain⟨Wn,hWn⟩:∃X,(W.setCell ⟨G,0,none⟩ (.int .i64 xa.r)).setCell ⟨G,1,none⟩ (.int .i64 xa.s)=X:=⟨_,rfl⟩
 rw[hWn]at K U oq LZ
 obtain⟨⟨c0,c1,c2,c3,c4⟩,-⟩:=oq.c5
 obtain⟨⟨z0,z1⟩,-⟩:=K.c2
 change Wn.cell? ⟨g,0,none⟩=some (.int .i64 n)at LZ
 have kD:=aA (show ab [] [] w Wn.drew from U.drew)
 clear U
 cases so with
 |false=>
  go_region
  all_goals (refine wk ?_)
  all_goals exact bodyPost_ret (v:=.tuple #[.agg #[.int .i64 xa.r,.int .i64 xa.s],.bool false]) (by simp[results,results280,go_sem,z0,z1]) rfl ⟨by simp,kD.out⟩
 |true=>
  by_cases h1:0≤xf
  ·have d1:decide (0≤xf)=true:=dJ h1
   by_cases h2:xf<n
   ·have d2:decide (xf<n)=true:=dJ h2
    go_region
    all_goals (refine wk ?_)
    all_goals exact bodyPost_ret (v:=.tuple #[.agg #[.int .i64 xa.r,.int .i64 xa.s],.bool true]) (by simp[results,results280,go_sem,z0,z1]) rfl ⟨by simp[d1,d2],kD.out⟩
   ·have d2:decide (xf<n)=false:=eE h2
    go_region
    all_goals (refine wk ?_)
    all_goals exact bodyPost_ret (v:=.tuple #[.agg #[.int .i64 xa.r,.int .i64 xa.s],.bool false]) (by simp[results,results280,go_sem,z0,z1]) rfl ⟨by simp[d1,d2],kD.out⟩
  ·have d1:decide (0≤xf)=false:=eE h1
   go_region
   all_goals (refine wk ?_)
   all_goals exact bodyPost_ret (v:=.tuple #[.agg #[.int .i64 xa.r,.int .i64 xa.s],.bool false]) (by simp[results,results280,go_sem,z0,z1]) rfl ⟨by simp[d1],kD.out⟩
end Go.Proofs.YtijhlbeipglieaaGreat
namespace aL
open Go Go.Proofs.YtijhlbeipglieaaGreat List
def Pm.ok(n:Int)(p:Pm):Bool:=p.so&&dd p.f n
def kY(n:Int)(l:List Pm):Nat→Option Nat
 |0=>none
 |i+1=>match l[i]? with
  |none=>kY n l i
  |some p=>match kY n l i with
   |none=>if p.ok n then some i else none
   |some j=>if p.ok n&&decide (0<dr p.at_ ((l[j]?.map Pm.at_).getD ⟨0,0⟩))then some i else some j
theorem zU(n:Int)(l:List Pm):∀(i j:Nat),kY n l i=some j→j<i∧j<l.length
 |0,j,h=>by cases h
 |i+1,j,h=>by
  unfold kY at h
  cases hp:l[i]? with
  |none=>
   simp only[hp]at h
   have:=zU n l i j h
   exact⟨by omega,this.2⟩
  |some p=>
   have hi:i<l.length:=(List.getElem?_eq_some_iff.1 hp).1
   simp only[hp]at h
   cases hg:kY n l i with
   |none=>
    simp only[hg]at h
    split at h
    ·injection h with h;subst h;exact⟨by omega,hi⟩
    ·cases h
   |some k=>
    have:=zU n l i k hg
    simp only[hg]at h
    split at h
    ·injection h with h;subst h;exact⟨by omega,hi⟩
    ·injection h with h;subst h;exact⟨by omega,this.2⟩
theorem FI(n:Int)(l:List Pm)(i:Nat)(p:Pm)(h:l[i]? =some p):kY n l (i+1)=match kY n l i with
  |none=>if p.ok n then some i else none
  |some j=>if p.ok n&&decide (0<dr p.at_ ((l[j]?.map Pm.at_).getD ⟨0,0⟩))then some i else some j:=by
 conv=>lhs;unfold kY
 simp only[h]
theorem zV(n:Int)(l:List Pm):∀i,i≤l.length→gE n (l.take i)=(kY n l i).bind (fun j=>l[j]?)
 |0,_=>rfl
 |i+1,h=>by
  have hi:i<l.length:=by omega
  have ih:=zV n l i (by omega)
  have e1:gE n (l.take (i+1))=(if l[i].so&&dd l[i].f n&&(match gE n (l.take i) with|none=>true|some q=>decide (0<dr l[i].at_ q.at_))then some l[i]else gE n (l.take i)):=by
   unfold gE
   rw[take_succ_eq_append_getElem hi,foldl_append]
   rfl
  rw[e1,ih,FI n l i _ (List.getElem?_eq_getElem hi)]
  cases hg:kY n l i with
  |none=>
   simp only[Option.bind_none,Bool.and_true]
   unfold Pm.ok
   cases hc:(l[i].so&&dd l[i].f n)
   ·rfl
   ·simp only[if_true,Option.bind_some];exact(List.getElem?_eq_getElem hi).symm
  |some j=>
   have hj:=zU n l i j hg
   simp only[Option.bind_some,List.getElem?_eq_getElem hj.2,Option.map_some,Option.getD_some]
   unfold Pm.ok
   cases hc:(l[i].so&&dd l[i].f n&&decide (0<dr l[i].at_ l[j].at_))
   ·simp only[Bool.false_eq_true,if_false,Option.bind_some];exact(List.getElem?_eq_getElem hj.2).symm
   ·simp only[if_true,Option.bind_some];exact(List.getElem?_eq_getElem hi).symm
theorem EN(n:Int)(l:List Pm):gE n l=(kY n l l.length).bind (fun j=>l[j]?):=by
 have:=zV n l l.length (Nat.le_refl _)
 rwa [take_length]at this
end aL
namespace Go.Proofs.YtijhlbeipglieaaGreat
open Go.RowKit aL Go.Maps Tryz List
def sT:Option Nat→Int
 |none=>-1
 |some j=>(j:Int)
theorem FJ:∀x:fo,(fo.cells x).length=5:=fun _=>rfl
theorem FK(w:World)(g:Nat)(n:Int)(hg:aQ w g 3 #[.int .i64 n])(A:Option Addr)(c:Nat)(l:List fo)(hl:jq fo.cells 5 w A l.length l)(hlen:l.length≤1000000000)(hA:∀k∈ak A,k<w.heap.size) :
  Calls prog 279 #[.slice A l.length c,.func (.func 280) #[] #[.pointer (some ⟨g,0,none⟩)]] w fun e w'=>e=.returned (.int .i64 (sT (kY n (l.map fo.pl) l.length)))∧ab [] [] w w':=by
 obtain⟨W,T,eW,hT,hB,U0⟩:=cb w 30 #[.int .i64 0,.int .i64 0]
 have fR:=hl.aN U0
 have hg1:=hg.aq U0 (by simp)
 have cv:=U0.gives (b':=[]) (by simp)
 have hTl:=hB.lt
 have hTA:T∉ak A:=fun hk=>by have:=hA T hk;omega
 have sG:g≠T:=by have:=hg.lt;omega
 obtain⟨L,hL⟩:=bk (l.map fo.pl)
 rw[hL]
 have Bm:∀i (h:i<l.length),L[i]? =some l[i].pl:=fun i h=>by rw[←hL];simp[h]
 clear hL
 go_enter func279,ntmps279
 repeat' go_step
 go_loopw [5,13] (fun v5 mX wr=>∃(i:Nat)(b:Bl),i≤l.length∧mX=.int .i64 (i:Int)∧v5=.int .i64 (sT (kY n L i))∧aQ wr T 30 #[.int .i64 b.r,.int .i64 b.s]∧(∀j,kY n L i=some j→(L[j]?.map Pm.at_).getD ⟨0,0⟩=b)∧ab [T] [T] W wr) (fun _ mX _=>l.length-(intOf mX).toNat)
 case atStart=>exact⟨0,⟨0,0⟩,by omega,rfl,rfl,hB,(fun j h=>by cases h),ab.refl _ _⟩
 case round=>
  obtain⟨i,b,hi,rfl,rfl,Cs,SM,U⟩:=hrel
  by_cases hlt:i<l.length
  ·have dK:(i:Int)<(l.length:Int):=by omega
   have dC:=aL.wr ((i:Int)+1)
   have mS:=fR.aq U (fun k hk=>by
    have:=fR.rd
    simp only[mem_singleton]
    rintro rfl
    exact hTA hk)
   obtain⟨ad,rfl,h0,hj⟩:=jq.at_ (f:=fo.cells) (s:=5) FJ mS hlt
   have NW:=Bm i hlt
   generalize l[i]=x at *
   have c0:=h0 _ rfl
   have c1:=hj 1 _ (by omega) rfl
   have c2:=hj 2 _ (by omega) rfl
   have c3:=hj 3 _ (by omega) rfl
   have c4:=hj 4 _ (by omega) rfl
   simp only[bO.val]at c4
   have C:=fun(wx:World)(b:List Nat)(u:ab [T] b W wx)=>XW wx g n (hg1.aq u (by simpa using sG)) x
   rw[fo.val]at C
   clear h0 hj mS Bm hl fR
   obtain⟨ok,ef⟩:=bk ((x.so&&dd x.f n))
   simp only[ef]at C
   have hG:=FI n L i _ NW
   rw[show Pm.ok n x.pl=ok from ef]at hG
   have HG:=aA hG
   clear ef hG
   repeat' go_step
   refine(C _ _ (U.alloc _)).mono ?_;rintro e w2 ⟨rfl,u2⟩
   have U2:=(U.alloc (.cells #[.int .i64 x.f,.bool x.so,.int .i64 x.at_.r,.int .i64 x.at_.s,.slice x.s.A x.s.n x.s.c] 340)).trans (u2.up [T])
   have B2:=(Cs.alloc (.cells #[.int .i64 x.f,.bool x.so,.int .i64 x.at_.r,.int .i64 x.at_.s,.slice x.s.A x.s.n x.s.c] 340)).aq u2 (by simp)
   clear C c0 c1 c2 c3 c4 Cs U u2
   obtain⟨W3,G,eW3,XX,nW,U3⟩:=cb w2 30 #[.int .i64 x.at_.r,.int .i64 x.at_.s]
   have B3:=B2.aq U3 (by simp)
   have NX:=U2.trans ((U3.gives (b':=[]) (by simp)).up [T])
   have hTG:T≠G:=by have:=B2.lt;omega
   obtain⟨⟨g0,g1⟩,-⟩:=nW.c2
   obtain⟨⟨t0,t1⟩,f0,f1⟩:=B3.c2
   cases ok with
   |false=>
    have ni:kY n L (i+1)=kY n L i:=by
     rw[HG.out]
     cases kY n L i<;>rfl
    have Ct:=aA ni
    clear ni HG
    refine wk ?_
    exact⟨⟨i+1,b,by omega,by simp,by rw[Ct.out],B3,(fun j h=>SM j (by rw[←Ct.out];exact h)),NX⟩,by simp[intOf];omega⟩
   |true=>
    cases hgr:kY n L i with
    |none=>
     have ni:kY n L (i+1)=some i:=by rw[HG.out,hgr];rfl
     have Ct:=aA ni
     have K:=aA (qW B3 (.int .i64 x.at_.r) (.int .i64 x.at_.s))
     have UK:=aA (NX.trans (qX W3 T (.int .i64 x.at_.r) (.int .i64 x.at_.s)))
     have XY:=aA NW
     have xP:sT none= -1:=rfl
     rw[xP]
     clear ni HG hgr SM NW B3 NX xP
     refine wk ?_
     go_region
     all_goals (refine wk ?_)
     all_goals exact⟨⟨i+1,x.at_,by omega,by simp,by rw[Ct.out];rfl,K.out,(fun j h=>by rw[Ct.out]at h;injection h with h;subst h;rw[XY.out];rfl),UK.out.drew⟩,by simp[intOf];omega⟩
    |some j=>
     have hb:=SM j hgr
     have CC:=mv W3 x.at_ b
     simp only[Bl.val]at CC
     have xP:sT (some j)=(j:Int):=rfl
     have ni:kY n L (i+1)=if decide (0<dr x.at_ b)=true then some i else some j:=by
      rw[HG.out,hgr]
      simp only[Bool.true_and]
      rw[hb]
      rfl
     have Ct:=aA ni
     have HB:=aA hb
     have XY:=aA NW
     have hj0:decide ((j:Int)<0)=false:=iO
     rw[xP]
     clear ni HG hgr SM hb xP NW
     repeat' first|go_guarded|go_step|simp only[];go_at_K
     refine CC.mono ?_;rintro e w4 ⟨rfl,u4⟩
     have B4:=B3.aq u4 (by simp)
     have U4:=NX.trans (u4.up [T])
     have adP:=nW.aq u4 (by simp)
     clear CC g0 g1 t0 t1 f0 f1 B3 NX nW
     obtain⟨⟨g0,g1⟩,-⟩:=adP.c2
     obtain⟨⟨t0,t1⟩,f0,f1⟩:=B4.c2
     by_cases hc:0<dr x.at_ b
     ·have dc:decide (0<dr x.at_ b)=true:=dJ hc
      have K:=aA (qW B4 (.int .i64 x.at_.r) (.int .i64 x.at_.s))
      have UK:=aA (U4.trans (qX w4 T (.int .i64 x.at_.r) (.int .i64 x.at_.s)))
      have FL:kY n L (i+1)=some i:=by rw[Ct.out,if_pos dc]
      have I2:=aA FL
      clear FL hc B4 U4
      refine wk ?_
      go_region
      all_goals (refine wk ?_)
      all_goals exact⟨⟨i+1,x.at_,by omega,by simp,by rw[I2.out];rfl,K.out,(fun j h=>by rw[I2.out]at h;injection h with h;subst h;rw[XY.out];rfl),UK.out.drew⟩,by simp[intOf];omega⟩
     ·have dc:decide (0<dr x.at_ b)=false:=eE hc
      have FL:kY n L (i+1)=some j:=by rw[Ct.out,if_neg (by rw[dc];simp)]
      have I2:=aA FL
      clear FL hc
      refine wk ?_
      exact⟨⟨i+1,b,by omega,by simp,by rw[I2.out];rfl,B4,(fun j' h=>by rw[I2.out]at h;injection h with h;subst h;exact HB.out),U4⟩,by simp[intOf];omega⟩
  ·obtain rfl:i=l.length:=by omega
   have dK:¬ ((l.length:Int)<(l.length:Int)):=by omega
   refine wk ?_
   go_ret
   exact⟨rfl,(cv.own (by omega) U)⟩
theorem Ka(w:World)(A:Option Addr)(c:Nat)(l:List fo)(hl:jq fo.cells 5 w A l.length l)(hlen:l.length≤1000000000)(hA:∀k∈ak A,k<w.heap.size)(hb:∀x∈l,bE w x.s.A x.s.n x.s.b∧x.s.b.length≤2048)(n:Nat)(hn:n≤7) :
  Calls prog 249 #[.slice A l.length c,.int .i64 (n:Int)] w fun e w'=>∃A' k c',e=.returned (.tuple #[.slice A' k c',.bool (dM (l.map fo.pl) n).isSome])∧bW 5 w' A' k c' ((dM (l.map fo.pl) n).getD [])∧ab [] (ak A') w w':=by
 obtain⟨W,g,eW,hg,hB,U0⟩:=cb w 3 #[.int .i64 (n:Int)]
 have fR:=hl.aN U0
 have cv:=U0.gives (b':=[]) (by simp)
 have HM:=aA (show dM (l.map fo.pl) n=if fN (l.map fo.f) n then some (((gE n (l.map fo.pl)).map Pm.b).getD [])else none by
  unfold dM;rw[map_map];rfl)
 obtain⟨R,hR⟩:=bk (dM (l.map fo.pl) n)
 rw[hR]at HM ⊢
 clear hR
 go_enter func249,ntmps249
 repeat' go_step
 go_loopw [6,12] (fun v6 uZ wr=>∃(i:Nat)(A1:Option Addr)(c1:Nat),i≤l.length∧uZ=.int .i64 (i:Int)∧v6=.slice A1 i c1∧aL.Own 3 1 wr A1 i c1 (((l.take i).map fo.f).map (Value.int .i64))∧ab [] (ak A1) W wr)
  (fun _ uZ _=>l.length-(intOf uZ).toNat)
 case atStart=>exact⟨0,none,0,by omega,rfl,rfl,Own.nil _ _ _,ab.refl _ _⟩
 case round=>
  obtain⟨i,A1,c1,hi,rfl,rfl,ho,U⟩:=hrel
  by_cases hlt:i<l.length
  ·have dK:(i:Int)<(l.length:Int):=by omega
   have dC:=aL.wr ((i:Int)+1)
   have mS:=fR.aN U
   obtain⟨ad,rfl,h0,hj⟩:=jq.at_ (f:=fo.cells) (s:=5) FJ mS hlt
   have hT:((l.take (i+1)).map fo.f).map (Value.int .i64)=((l.take i).map fo.f).map (Value.int .i64)++[.int .i64 l[i].f]:=by rw[take_succ_eq_append_getElem hlt,map_append,map_append];rfl
   generalize l[i]=x at *
   have c0:=h0 _ rfl
   have c1:=hj 1 _ (by omega) rfl
   have c2:=hj 2 _ (by omega) rfl
   have c3:=hj 3 _ (by omega) rfl
   have c4:=hj 4 _ (by omega) rfl
   simp only[bO.val]at c4
   obtain⟨W2,G,zW,XX,nW,U2⟩:=cb wr 340 #[.int .i64 x.f,.bool x.so,.int .i64 x.at_.r,.int .i64 x.at_.s,.slice x.s.A x.s.n x.s.c]
   have eN:=ho.aq U2 (by simp)
   have nX:=U.trans (U2.up _)
   obtain⟨⟨g0,g1,g2,g3,g4⟩,-⟩:=nW.c5
   have HT:=aA hT
   clear hT h0 hj mS hb hl fR ho U U2 HM
   repeat' (fail_if_success with_reducible refine ba rfl ?_);go_step
   refine gV rfl _ _ 168 rfl 3 underlying168 I3 rfl (by decide) eN rfl W2.heap.size rfl rfl rfl rfl (by unfold maxLen;omega) (by omega) ?_
   intro A3 c3' w3 iD cQ
   have U3:=nX.trans cQ
   clear eN nX cQ g0 g1 g2 g3 g4 nW c0 c1 c2 c3 c4
   refine wk ?_
   exact⟨⟨i+1,A3,c3',by omega,by simp,rfl,by rw[HT.out];exact iD,U3⟩,by simp[intOf];omega⟩
  ·obtain rfl:i=l.length:=by omega
   have dK:¬ ((l.length:Int)<(l.length:Int)):=by omega
   rw[take_length]at ho
   have C:=yQ wr A1 c1 (l.map fo.f) n (by omega) (by rw[length_map];exact ho.rd) (by rw[length_map];omega)
   rw[length_map]at C
   have UU:=cv.trans (U.gives (b':=[]) (by simp))
   have uN:=hB.aq U (by simp)
   obtain⟨b0,-⟩:=uN.c1
   have uR:=hl.aN UU
   have LM:∀k∈ak A,k<wr.heap.size:=fun k hk=>by have h1:=hA k hk;have h2:=UU.size;omega
   obtain⟨mo,Br⟩:=bk (fN (l.map fo.f) n)
   rw[Br]at C HM
   clear Br ho U fR hB
   cases mo with
   |false=>
    have NY:R=none:=HM.out
    subst NY
    repeat' go_step
    refine C.mono ?_;rintro e w2 ⟨rfl,bh⟩
    refine wk ?_
    go_ret2
    exact⟨none,0,0,rfl,bW.nil _ _,(UU.trans bh).gives (by simp[ak])⟩
   |true=>
    have Nk:=aA (show R=some (((gE n (l.map fo.pl)).map Pm.b).getD [])from HM.out)
    repeat' go_step
    refine C.mono ?_;rintro e w2 ⟨rfl,bh⟩
    have U2:=UU.trans bh
    have C2:=FK w2 g n (uN.aq bh (by simp)) A c l (uR.aN bh) hlen (fun k hk=>by have h1:=LM k hk;have h2:=bh.size;omega)
    have SN:=aA (EN n (l.map fo.pl))
    rw[length_map]at SN
    clear C
    repeat' first|go_step|simp only[];go_at_K
    refine C2.mono ?_;rintro e w3 ⟨rfl,cQ⟩
    have U3:=U2.trans cQ
    clear C2
    cases hgr:kY n (l.map fo.pl) l.length with
    |none=>
     have NY:R=some []:=by rw[Nk.out,SN.out,hgr];rfl
     subst NY
     have xP:sT none= -1:=rfl
     rw[xP]
     clear hgr
     refine wk ?_
     go_ret2
     exact⟨none,0,0,rfl,bW.nil _ _,U3.gives (by simp[ak])⟩
    |some j=>
     have hj:=(zU n _ _ j hgr).1
     have EE:(j:Int)<(l.length:Int):=by omega
     have xP:sT (some j)=(j:Int):=rfl
     have NY:R=some l[j].s.b:=by
      rw[Nk.out,SN.out,hgr]
      simp only[Option.bind_some,List.getElem?_map,List.getElem?_eq_getElem hj,Option.map_some,Option.getD_some]
      rfl
     have hj0:decide ((j:Int)<0)=false:=iO
     have mS:=hl.aN U3
     obtain⟨ad,rfl,h0,sU⟩:=jq.at_ (f:=fo.cells) (s:=5) FJ mS hj
     have BD:=hb _ (getElem_mem hj)
     generalize l[j]=x at *
     have c4:=sU 4 _ (by omega) rfl
     simp only[bO.val]at c4
     have CC:=di w3 x.s.A x.s.n x.s.c x.s.b (BD.1.aq U3 (by simp)) (by omega)
     rw[xP]
     subst NY
     clear hgr xP h0 sU mS BD hb Nk SN HM
     repeat' first|go_step|simp only[];go_at_K
     refine CC.mono ?_;rintro e w4 ⟨A4,k4,Cu,rfl,dW,de⟩
     refine wk ?_
     go_ret2
     exact⟨A4,k4,Cu,rfl,dW,U3.trans de⟩
