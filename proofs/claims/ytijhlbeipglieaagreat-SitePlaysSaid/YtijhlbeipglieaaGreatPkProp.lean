/- For SitePlays. -/
import Derived.Test.YtijhlbeipglieaaGreatPkSiteV
set_option linter.all false
set_option maxRecDepth 100000
set_option maxHeartbeats 4000000
namespace Go.Proofs.YtijhlbeipglieaaGreat
open Go.RowKit aA Go.Maps Tryz List
def _root_.aA.bq.val(x:bq):Value:=.agg #[.int .i64 x.f,.bool x.so,.int .i64 x.at_.r,.int .i64 x.at_.s,.slice x.s.A x.s.n x.s.c]
theorem Zz(w:World)(g:Nat)(n:Int)(hg:ak w g 3 #[.int .i64 n])(x:bq) :
  Calls prog 280 #[x.val,.pointer (some ⟨g,0,none⟩)] w fun e w'=>e=.returned (.tuple #[.agg #[.int .i64 x.at_.r,.int .i64 x.at_.s],.bool (x.so&&bz x.f n)])∧aa [] [] w w':=by
 obtain⟨xf,so,xa,xs⟩:=x
 unfold bq.val bz
 dsimp only
 obtain⟨W,H,G,eW,hH,hG,hB1,hB2,U0⟩:=vY w 340 30 #[.int .i64 xf,.bool so,.int .i64 xa.r,.int .i64 xa.s,.slice xs.A xs.n xs.c] #[.int .i64 0,.int .i64 0]
 have hg1:W.cell? ⟨g,0,none⟩=some (.int .i64 n):=(hg.upd U0).cell 0
 have K:=oJ hB2 (.int .i64 xa.r) (.int .i64 xa.s)
 have u:=oK W G (.int .i64 xa.r) (.int .i64 xa.s)
 have U:=U0.g0.own (g:=G) (by omega) u
 obtain⟨⟨a0,a1,a2,a3,a4⟩,-⟩:=hB1.c5
 obtain⟨⟨b0,b1⟩,f0,f1⟩:=hB2.c2
 have hk1:=(hB1.upd u (by simp only[mem_singleton];omega))
 have hgg:=((hg.upd U0).upd u (by simp only[mem_singleton];have:=hg.lt;omega)).cell 0
 go_enter func280,ntmps280
 repeat' go_step
 obtain⟨Wn,ZA⟩:∃X,(W.setCell ⟨G,0,none⟩ (.int .i64 xa.r)).setCell ⟨G,1,none⟩ (.int .i64 xa.s)=X:=⟨_,rfl⟩
 rw[ZA]at K U hk1 hgg
 obtain⟨⟨c0,c1,c2,c3,c4⟩,-⟩:=hk1.c5
 obtain⟨⟨z0,z1⟩,-⟩:=K.c2
 change Wn.cell? ⟨g,0,none⟩=some (.int .i64 n)at hgg
 have FIN:=hdn (show aa [] [] w Wn.drew from U.drew)
 clear U
 cases so with
 |false=>
  go_region
  all_goals (refine wk ?_)
  all_goals exact bodyPost_ret (v:=.tuple #[.agg #[.int .i64 xa.r,.int .i64 xa.s],.bool false]) (by simp[results,results280,go_sem,z0,z1]) rfl ⟨by simp,FIN.out⟩
 |true=>
  by_cases h1:0≤xf
  ·have d1:decide (0≤xf)=true:=dTx h1
   by_cases h2:xf<n
   ·have d2:decide (xf<n)=true:=dTx h2
    go_region
    all_goals (refine wk ?_)
    all_goals exact bodyPost_ret (v:=.tuple #[.agg #[.int .i64 xa.r,.int .i64 xa.s],.bool true]) (by simp[results,results280,go_sem,z0,z1]) rfl ⟨by simp[d1,d2],FIN.out⟩
   ·have d2:decide (xf<n)=false:=dFx h2
    go_region
    all_goals (refine wk ?_)
    all_goals exact bodyPost_ret (v:=.tuple #[.agg #[.int .i64 xa.r,.int .i64 xa.s],.bool false]) (by simp[results,results280,go_sem,z0,z1]) rfl ⟨by simp[d1,d2],FIN.out⟩
  ·have d1:decide (0≤xf)=false:=dFx h1
   go_region
   all_goals (refine wk ?_)
   all_goals exact bodyPost_ret (v:=.tuple #[.agg #[.int .i64 xa.r,.int .i64 xa.s],.bool false]) (by simp[results,results280,go_sem,z0,z1]) rfl ⟨by simp[d1],FIN.out⟩
end Go.Proofs.YtijhlbeipglieaaGreat
namespace aA
open Go Go.Proofs.YtijhlbeipglieaaGreat List
def Pm.ok(n:Int)(p:Pm):Bool:=p.so&&bz p.f n
def ma(n:Int)(l:List Pm):Nat→Option Nat
 |0=>none
 |i+1=>match l[i]? with
  |none=>ma n l i
  |some p=>match ma n l i with
   |none=>if p.ok n then some i else none
   |some j=>if p.ok n&&decide (0<bg p.at_ ((l[j]?.map Pm.at_).getD ⟨0,0⟩))then some i else some j
theorem Da(n:Int)(l:List Pm):∀(i j:Nat),ma n l i=some j→j<i∧j<l.length
 |0,j,h=>by cases h
 |i+1,j,h=>by
  unfold ma at h
  cases hp:l[i]? with
  |none=>
   simp only[hp]at h
   have:=Da n l i j h
   exact⟨by omega,this.2⟩
  |some p=>
   have hi:i<l.length:=(List.getElem?_eq_some_iff.1 hp).1
   simp only[hp]at h
   cases hg:ma n l i with
   |none=>
    simp only[hg]at h
    split at h
    ·injection h with h;subst h;exact⟨by omega,hi⟩
    ·cases h
   |some k=>
    have:=Da n l i k hg
    simp only[hg]at h
    split at h
    ·injection h with h;subst h;exact⟨by omega,hi⟩
    ·injection h with h;subst h;exact⟨by omega,this.2⟩
theorem IY(n:Int)(l:List Pm)(i:Nat)(p:Pm)(h:l[i]? =some p):ma n l (i+1)=match ma n l i with
  |none=>if p.ok n then some i else none
  |some j=>if p.ok n&&decide (0<bg p.at_ ((l[j]?.map Pm.at_).getD ⟨0,0⟩))then some i else some j:=by
 conv=>lhs;unfold ma
 simp only[h]
theorem Db(n:Int)(l:List Pm):∀i,i≤l.length→pz n (l.take i)=(ma n l i).bind (fun j=>l[j]?)
 |0,_=>rfl
 |i+1,h=>by
  have hi:i<l.length:=by omega
  have ih:=Db n l i (by omega)
  have e1:pz n (l.take (i+1))=(if l[i].so&&bz l[i].f n&&(match pz n (l.take i) with|none=>true|some q=>decide (0<bg l[i].at_ q.at_))then some l[i]else pz n (l.take i)):=by
   unfold pz
   rw[take_succ_eq_append_getElem hi,foldl_append]
   rfl
  rw[e1,ih,IY n l i _ (List.getElem?_eq_getElem hi)]
  cases hg:ma n l i with
  |none=>
   simp only[Option.bind_none,Bool.and_true]
   unfold Pm.ok
   cases hc:(l[i].so&&bz l[i].f n)
   ·rfl
   ·simp only[if_true,Option.bind_some];exact(List.getElem?_eq_getElem hi).symm
  |some j=>
   have hj:=Da n l i j hg
   simp only[Option.bind_some,List.getElem?_eq_getElem hj.2,Option.map_some,Option.getD_some]
   unfold Pm.ok
   cases hc:(l[i].so&&bz l[i].f n&&decide (0<bg l[i].at_ l[j].at_))
   ·simp only[Bool.false_eq_true,if_false,Option.bind_some];exact(List.getElem?_eq_getElem hj.2).symm
   ·simp only[if_true,Option.bind_some];exact(List.getElem?_eq_getElem hi).symm
theorem Ic(n:Int)(l:List Pm):pz n l=(ma n l l.length).bind (fun j=>l[j]?):=by
 have:=Db n l l.length (Nat.le_refl _)
 rwa [take_length]at this
end aA
namespace Go.Proofs.YtijhlbeipglieaaGreat
open Go.RowKit aA Go.Maps Tryz List
def wE:Option Nat→Int
 |none=>-1
 |some j=>(j:Int)
theorem IZ:∀x:bq,(bq.cells x).length=5:=fun _=>rfl
theorem I1(w:World)(g:Nat)(n:Int)(hg:ak w g 3 #[.int .i64 n])(A:Option Addr)(c:Nat)(l:List bq)(hl:bR bq.cells 5 w A l.length l)(hlen:l.length≤1000000000)(hA:∀k∈ah A,k<w.heap.size) :
  Calls prog 279 #[.slice A l.length c,.func (.func 280) #[] #[.pointer (some ⟨g,0,none⟩)]] w fun e w'=>e=.returned (.int .i64 (wE (ma n (l.map bq.pl) l.length)))∧aa [] [] w w':=by
 obtain⟨W,T,eW,hT,hB,U0⟩:=az w 30 #[.int .i64 0,.int .i64 0]
 have hl1:=hl.au U0
 have hg1:=hg.upd U0
 have dm:=U0.g0
 have hTl:=hB.lt
 have hTA:T∉ah A:=fun hk=>by have:=hA T hk;omega
 have hgT:g≠T:=by have:=hg.lt;omega
 obtain⟨L,hL⟩:=ex1 (l.map bq.pl)
 rw[hL]
 have hLi:∀i (h:i<l.length),L[i]? =some l[i].pl:=fun i h=>by rw[←hL];simp[h]
 clear hL
 go_enter func279,ntmps279
 repeat' go_step
 go_loopw [5,13] (fun v5 v13 wr=>∃(i:Nat)(b:Bl),i≤l.length∧v13=.int .i64 (i:Int)∧v5=.int .i64 (wE (ma n L i))∧ak wr T 30 #[.int .i64 b.r,.int .i64 b.s]∧(∀j,ma n L i=some j→(L[j]?.map Pm.at_).getD ⟨0,0⟩=b)∧aa [T] [T] W wr) (fun _ v13 _=>l.length-(intOf v13).toNat)
 case atStart=>exact⟨0,⟨0,0⟩,by omega,rfl,rfl,hB,(fun j h=>by cases h),aa.refl _ _⟩
 case round=>
  obtain⟨i,b,hi,rfl,rfl,hBr,hbj,U⟩:=hrel
  by_cases hlt:i<l.length
  ·have hil:(i:Int)<(l.length:Int):=by omega
   have hw1:=aA.wr ((i:Int)+1)
   have lY:=hl1.upd U (fun k hk=>by
    have:=hl1.rd
    simp only[mem_singleton]
    rintro rfl
    exact hTA hk)
   obtain⟨ad,rfl,h0,hj⟩:=bR.at_ (f:=bq.cells) (s:=5) IZ lY hlt
   have QB:=hLi i hlt
   generalize l[i]=x at *
   have c0:=h0 _ rfl
   have c1:=hj 1 _ (by omega) rfl
   have c2:=hj 2 _ (by omega) rfl
   have c3:=hj 3 _ (by omega) rfl
   have c4:=hj 4 _ (by omega) rfl
   simp only[aM.val]at c4
   have C:=fun(wx:World)(b:List Nat)(u:aa [T] b W wx)=>Zz wx g n (hg1.upd u (by simpa using hgT)) x
   rw[bq.val]at C
   clear h0 hj lY hLi hl hl1
   obtain⟨ok,hok⟩:=ex1 ((x.so&&bz x.f n))
   simp only[hok]at C
   have hG:=IY n L i _ QB
   rw[show Pm.ok n x.pl=ok from hok]at hG
   have HG:=hdn hG
   clear hok hG
   repeat' go_step
   refine(C _ _ (U.alloc _)).mono ?_;rintro e w2 ⟨rfl,u2⟩
   have U2:=(U.alloc (.cells #[.int .i64 x.f,.bool x.so,.int .i64 x.at_.r,.int .i64 x.at_.s,.slice x.s.A x.s.n x.s.c] 340)).trans (u2.up [T])
   have B2:=(hBr.alloc (.cells #[.int .i64 x.f,.bool x.so,.int .i64 x.at_.r,.int .i64 x.at_.s,.slice x.s.A x.s.n x.s.c] 340)).upd u2
   clear C c0 c1 c2 c3 c4 hBr U u2
   obtain⟨W3,G,ME,I4,hBG,U3⟩:=az w2 30 #[.int .i64 x.at_.r,.int .i64 x.at_.s]
   have B3:=B2.upd U3
   have QC:=U2.trans (U3.g0.up [T])
   have rJ:T≠G:=by have:=B2.lt;omega
   obtain⟨⟨g0,g1⟩,-⟩:=hBG.c2
   obtain⟨⟨t0,t1⟩,f0,f1⟩:=B3.c2
   cases ok with
   |false=>
    have hG2:ma n L (i+1)=ma n L i:=by
     rw[HG.out]
     cases ma n L i<;>rfl
    have HG2:=hdn hG2
    clear hG2 HG
    refine wk ?_
    exact⟨⟨i+1,b,by omega,by simp,by rw[HG2.out],B3,(fun j h=>hbj j (by rw[←HG2.out];exact h)),QC⟩,by simp[intOf];omega⟩
   |true=>
    cases hgr:ma n L i with
    |none=>
     have hG2:ma n L (i+1)=some i:=by rw[HG.out,hgr];rfl
     have HG2:=hdn hG2
     have K:=hdn (oJ B3 (.int .i64 x.at_.r) (.int .i64 x.at_.s))
     have UK:=hdn (QC.trans (oK W3 T (.int .i64 x.at_.r) (.int .i64 x.at_.s)))
     have ZB:=hdn QB
     have hpv:wE none= -1:=rfl
     rw[hpv]
     clear hG2 HG hgr hbj QB B3 QC hpv
     refine wk ?_
     go_region
     all_goals (refine wk ?_)
     all_goals exact⟨⟨i+1,x.at_,by omega,by simp,by rw[HG2.out];rfl,K.out,(fun j h=>by rw[HG2.out]at h;injection h with h;subst h;rw[ZB.out];rfl),UK.out.drew⟩,by simp[intOf];omega⟩
    |some j=>
     have hb:=hbj j hgr
     have CC:=om W3 x.at_ b
     simp only[Bl.val]at CC
     have hpv:wE (some j)=(j:Int):=rfl
     have hG2:ma n L (i+1)=if decide (0<bg x.at_ b)=true then some i else some j:=by
      rw[HG.out,hgr]
      simp only[Bool.true_and]
      rw[hb]
      rfl
     have HG2:=hdn hG2
     have HB:=hdn hb
     have ZB:=hdn QB
     have hj0:decide ((j:Int)<0)=false:=dFo
     rw[hpv]
     clear hG2 HG hgr hbj hb hpv QB
     repeat' first|go_guarded|go_step|simp only[];go_at_K
     refine CC.mono ?_;rintro e w4 ⟨rfl,u4⟩
     have B4:=B3.upd u4
     have U4:=QC.trans (u4.up [T])
     have aeO:=hBG.upd u4
     clear CC g0 g1 t0 t1 f0 f1 B3 QC hBG
     obtain⟨⟨g0,g1⟩,-⟩:=aeO.c2
     obtain⟨⟨t0,t1⟩,f0,f1⟩:=B4.c2
     by_cases hc:0<bg x.at_ b
     ·have dc:decide (0<bg x.at_ b)=true:=dTx hc
      have K:=hdn (oJ B4 (.int .i64 x.at_.r) (.int .i64 x.at_.s))
      have UK:=hdn (U4.trans (oK w4 T (.int .i64 x.at_.r) (.int .i64 x.at_.s)))
      have hG3:ma n L (i+1)=some i:=by rw[HG2.out,if_pos dc]
      have QD:=hdn hG3
      clear hG3 hc B4 U4
      refine wk ?_
      go_region
      all_goals (refine wk ?_)
      all_goals exact⟨⟨i+1,x.at_,by omega,by simp,by rw[QD.out];rfl,K.out,(fun j h=>by rw[QD.out]at h;injection h with h;subst h;rw[ZB.out];rfl),UK.out.drew⟩,by simp[intOf];omega⟩
     ·have dc:decide (0<bg x.at_ b)=false:=dFx hc
      have hG3:ma n L (i+1)=some j:=by rw[HG2.out,if_neg (by rw[dc];simp)]
      have QD:=hdn hG3
      clear hG3 hc
      refine wk ?_
      exact⟨⟨i+1,b,by omega,by simp,by rw[QD.out];rfl,B4,(fun j' h=>by rw[QD.out]at h;injection h with h;subst h;exact HB.out),U4⟩,by simp[intOf];omega⟩
  ·obtain rfl:i=l.length:=by omega
   have hil:¬ ((l.length:Int)<(l.length:Int)):=by omega
   refine wk ?_
   go_ret
   exact⟨rfl,(dm.own (by omega) U)⟩
theorem Oa(w:World)(A:Option Addr)(c:Nat)(l:List bq)(hl:bR bq.cells 5 w A l.length l)(hlen:l.length≤1000000000)(hA:∀k∈ah A,k<w.heap.size)(hb:∀x∈l,aD w x.s.A x.s.n x.s.b∧x.s.b.length≤2048)(n:Nat)(hn:n≤7) :
  Calls prog 249 #[.slice A l.length c,.int .i64 (n:Int)] w fun e w'=>∃A' k c',e=.returned (.tuple #[.slice A' k c',.bool (gZ (l.map bq.pl) n).isSome])∧aT 5 w' A' k c' ((gZ (l.map bq.pl) n).getD [])∧aa [] (ah A') w w':=by
 obtain⟨W,g,eW,hg,hB,U0⟩:=az w 3 #[.int .i64 (n:Int)]
 have hl1:=hl.au U0
 have dm:=U0.g0
 have HM:=hdn (show gZ (l.map bq.pl) n=if fU (l.map bq.f) n then some (((pz n (l.map bq.pl)).map Pm.b).getD [])else none by
  unfold gZ;rw[map_map];rfl)
 obtain⟨R,hR⟩:=ex1 (gZ (l.map bq.pl) n)
 rw[hR]at HM ⊢
 clear hR
 go_enter func249,ntmps249
 repeat' go_step
 go_loopw [6,12] (fun v6 v12 wr=>∃(i:Nat)(A1:Option Addr)(c1:Nat),i≤l.length∧v12=.int .i64 (i:Int)∧v6=.slice A1 i c1∧Own 3 1 wr A1 i c1 (((l.take i).map bq.f).map (Value.int .i64))∧aa [] (ah A1) W wr)
  (fun _ v12 _=>l.length-(intOf v12).toNat)
 case atStart=>exact⟨0,none,0,by omega,rfl,rfl,Own.nil _ _ _,aa.refl _ _⟩
 case round=>
  obtain⟨i,A1,c1,hi,rfl,rfl,ho,U⟩:=hrel
  by_cases hlt:i<l.length
  ·have hil:(i:Int)<(l.length:Int):=by omega
   have hw1:=aA.wr ((i:Int)+1)
   have lY:=hl1.au U
   obtain⟨ad,rfl,h0,hj⟩:=bR.at_ (f:=bq.cells) (s:=5) IZ lY hlt
   have hT:((l.take (i+1)).map bq.f).map (Value.int .i64)=((l.take i).map bq.f).map (Value.int .i64)++[.int .i64 l[i].f]:=by rw[take_succ_eq_append_getElem hlt,map_append,map_append];rfl
   generalize l[i]=x at *
   have c0:=h0 _ rfl
   have c1:=hj 1 _ (by omega) rfl
   have c2:=hj 2 _ (by omega) rfl
   have c3:=hj 3 _ (by omega) rfl
   have c4:=hj 4 _ (by omega) rfl
   simp only[aM.val]at c4
   obtain⟨W2,G,fu,I4,hBG,U2⟩:=az wr 340 #[.int .i64 x.f,.bool x.so,.int .i64 x.at_.r,.int .i64 x.at_.s,.slice x.s.A x.s.n x.s.c]
   have ho2:=ho.upd U2
   have aK:=U.trans (U2.up _)
   obtain⟨⟨g0,g1,g2,g3,g4⟩,-⟩:=hBG.c5
   have HT:=hdn hT
   clear hT h0 hj lY hb hl hl1 ho U U2 HM
   repeat' (fail_if_success with_reducible refine Ag rfl ?_);go_step
   refine bQ rfl _ _ 168 rfl 3 underlying168 MF rfl (by decide) ho2 rfl W2.heap.size rfl rfl rfl rfl (by unfold maxLen;omega) (by omega) ?_
   intro A3 c3' w3 ho3 hu3
   have U3:=aK.trans hu3
   clear ho2 aK hu3 g0 g1 g2 g3 g4 hBG c0 c1 c2 c3 c4
   refine wk ?_
   exact⟨⟨i+1,A3,c3',by omega,by simp,rfl,by rw[HT.out];exact ho3,U3⟩,by simp[intOf];omega⟩
  ·obtain rfl:i=l.length:=by omega
   have hil:¬ ((l.length:Int)<(l.length:Int)):=by omega
   rw[take_length]at ho
   have C:=BX wr A1 c1 (l.map bq.f) n (by omega) (by rw[length_map];exact ho.rd) (by rw[length_map];omega)
   rw[length_map]at C
   have UU:=dm.trans U.g0
   have hBw:=hB.upd U
   obtain⟨b0,-⟩:=hBw.c1
   have hl3:=hl.au UU
   have Ca:∀k∈ah A,k<wr.heap.size:=fun k hk=>by have h1:=hA k hk;have h2:=UU.size;omega
   obtain⟨mo,hmo⟩:=ex1 (fU (l.map bq.f) n)
   rw[hmo]at C HM
   clear hmo ho U hl1 hB
   cases mo with
   |false=>
    have QE:R=none:=HM.out
    subst QE
    repeat' go_step
    refine C.mono ?_;rintro e w2 ⟨rfl,hu2⟩
    refine wk ?_
    go_ret2
    exact⟨none,0,0,rfl,aT.nil _ _,(UU.trans hu2).gives (by simp[ah])⟩
   |true=>
    have P7:=hdn (show R=some (((pz n (l.map bq.pl)).map Pm.b).getD [])from HM.out)
    repeat' go_step
    refine C.mono ?_;rintro e w2 ⟨rfl,hu2⟩
    have U2:=UU.trans hu2
    have C2:=I1 w2 g n (hBw.upd hu2) A c l (hl3.au hu2) hlen (fun k hk=>by have h1:=Ca k hk;have h2:=hu2.size;omega)
    have WS:=hdn (Ic n (l.map bq.pl))
    rw[length_map]at WS
    clear C
    repeat' first|go_step|simp only[];go_at_K
    refine C2.mono ?_;rintro e w3 ⟨rfl,hu3⟩
    have U3:=U2.trans hu3
    clear C2
    cases hgr:ma n (l.map bq.pl) l.length with
    |none=>
     have QE:R=some []:=by rw[P7.out,WS.out,hgr];rfl
     subst QE
     have hpv:wE none= -1:=rfl
     rw[hpv]
     clear hgr
     refine wk ?_
     go_ret2
     exact⟨none,0,0,rfl,aT.nil _ _,U3.gives (by simp[ah])⟩
    |some j=>
     have hj:=(Da n _ _ j hgr).1
     have hjl:(j:Int)<(l.length:Int):=by omega
     have hpv:wE (some j)=(j:Int):=rfl
     have QE:R=some l[j].s.b:=by
      rw[P7.out,WS.out,hgr]
      simp only[Option.bind_some,List.getElem?_map,List.getElem?_eq_getElem hj,Option.map_some,Option.getD_some]
      rfl
     have hj0:decide ((j:Int)<0)=false:=dFo
     have lY:=hl.au U3
     obtain⟨ad,rfl,h0,hjj⟩:=bR.at_ (f:=bq.cells) (s:=5) IZ lY hj
     have hbx:=hb _ (getElem_mem hj)
     generalize l[j]=x at *
     have c4:=hjj 4 _ (by omega) rfl
     simp only[aM.val]at c4
     have CC:=dS w3 x.s.A x.s.n x.s.c x.s.b (hbx.1.upd U3) (by omega)
     rw[hpv]
     subst QE
     clear hgr hpv h0 hjj lY hbx hb P7 WS HM
     repeat' first|go_step|simp only[];go_at_K
     refine CC.mono ?_;rintro e w4 ⟨A4,k4,c4',rfl,bY,bM⟩
     refine wk ?_
     go_ret2
     exact⟨A4,k4,c4',rfl,bY,U3.trans bM⟩
end Go.Proofs.YtijhlbeipglieaaGreat
namespace aA
open Go List
theorem Dc{α β:Type}(f:α→β)(L:AL α):∀k s,fe (bS f L) k s=fe L k s
 |0,_=>rfl
 |k+1,s=>by
  unfold fe
  rw[fH,Option.isSome_map,Dc f L k (s+1)]
theorem Iq{α β:Type}(f:α→β)(L:AL α):fQ (bS f L)=fQ L:=by
 unfold fQ bS
 rw[foldl_map]
end aA
namespace Go.Proofs.YtijhlbeipglieaaGreat
open Go.RowKit aA Go.Maps Tryz List
theorem af.xx(M:af):M.pl.front=fe M.lv (4096-M.taken) M.taken:=Dc aM.b M.lv _ _
theorem af.Qb(M:af):M.pl.bJ=max M.top (fQ M.lv):=by
 unfold Site.bJ
 show max M.top (fQ (bS aM.b M.lv))=_
 rw[Iq]
variable [eU]
theorem IA(w:World)(M:af)(h:ay w M):Calls prog 28 #[M.ptr] w fun e w'=>e=.returned (.int .i64 (M.pl.front:Int))∧w=w':=by
 have C:=oo w M.gl M.bl M.lv M.taken h.jm
 rw[←af.xx]at C
 have q7:w.cell? ⟨M.gs,7,none⟩=some (.pointer (some ⟨M.gl,0,none⟩)):=h.blk.cell 7
 rw[af.ptr]
 clear h
 go_enter func28,ntmps28
 repeat' go_step
 refine C.mono ?_;rintro e w1 ⟨rfl,rfl⟩
 refine wk ?_
 go_ret
 exact⟨rfl,rfl⟩
theorem Tx(w:World)(M:af)(h:ay w M):Calls prog 22 #[M.ptr] w fun e w'=>e=.returned (.int .i64 (M.pl.held.length:Int))∧w=w':=by
 have BR:w.cell? ⟨M.gs,11,none⟩=some (.slice M.Ah M.held.length M.ch):=h.blk.cell 11
 rw[af.ptr,af.bf]
 clear h
 go_enter func22,ntmps22
 refine wk ?_
 go_ret
 exact⟨rfl,rfl⟩
theorem Ej(w:World)(M:af)(h:ay w M):Calls prog 36 #[M.ptr] w fun e w'=>e=.returned (.int .i64 M.pl.bJ)∧aa [] [] w w':=by
 have C:=Ip w.drew M.gl M.bl M.lv M.taken (h.drew.jm)
 rw[af.Qb]
 have q7:w.drew.cell? ⟨M.gs,7,none⟩=some (.pointer (some ⟨M.gl,0,none⟩)):=h.blk.cell 7
 have q6:w.drew.cell? ⟨M.gs,6,none⟩=some (.int .i64 M.top):=h.blk.cell 6
 have u0:aa [] [] w w.drew:=(aa.refl [] w).drew
 rw[af.ptr]
 clear h
 go_enter func36,ntmps36
 repeat' go_step
 go_region_with (first|(go_at_call 100;(with_reducible refine C.mono ?_);rintro e w1 ⟨rfl,u1⟩;have q6b:=u1.cell q6 (by simp)))
 all_goals (refine wk ?_)
 all_goals go_ret
 all_goals exact⟨by rw[←show(if M.top<fQ M.lv then fQ M.lv else M.top)=max M.top (fQ M.lv) by split<;>omega];rfl,u0.trans u1⟩
theorem Tw(w:World)(M:af)(h:ay w M):Calls prog 26 #[M.ptr] w fun e w'=>e=.returned (.tuple #[.int .i64 (M.db.length:Int),.int .i64 (M.dn:Int)])∧aa [] [] w w':=by
 have q4:w.drew.cell? ⟨M.gs,4,none⟩=some (.pointer (some ⟨M.gd,0,none⟩)):=h.blk.cell 4
 have hN:=hdn (fun(wx:World)(b:List Nat)(u:aa [] b w wx)=>(h.au u).nV)
 have hC:=hdn (fun(wx:World)(b:List Nat)(u:aa [] b w wx)=>show wx.cell? ⟨M.gs,4,none⟩=some (.pointer (some ⟨M.gd,0,none⟩)) from(h.au u).blk.cell 4)
 have u0:aa [] [] w w.drew:=(aa.refl [] w).drew
 rw[af.ptr]
 clear h
 go_enter func26,ntmps26
 repeat' go_step
 go_region_with (first
  |(go_at_call 73;(with_reducible refine(EP _ M.gd M.Ad M.db.length M.cd M.db M.dn (hN.out _ _ (by first|exact u0|assumption))).mono ?_);rintro e w1 ⟨A,n,c,rfl,ho,u1⟩;have hnn:n=M.db.length:=ho.len;have v1:=aa.trans (by first|exact u0|assumption:aa [] [] w _) u1.g0;have q4b:=hC.out _ _ v1)
  |(go_at_call 76;(with_reducible refine(NV _ M.gd M.Ad M.db.length M.cd M.db M.dn (hN.out _ _ (by first|assumption|exact u0))).mono ?_);rintro e w2 ⟨rfl,rfl⟩))
 all_goals (refine wk ?_)
 all_goals go_ret2
 all_goals exact⟨rfl,v1⟩
