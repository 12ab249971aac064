/- For WorldCalm. -/
import Derived.Deep.Cut
import Derived.Test.YtijhlbeipglieaaGreatPkSiteE
set_option linter.all false
set_option maxRecDepth 100000
set_option maxHeartbeats 4000000
namespace aL
open Go List
theorem ug{α:Type}{P:List α→Prop}(h0:P [])(h1:∀l x,P l→P (l++[x]))(l:List α):P l:=by
 rw[←l.reverse_reverse]
 induction l.reverse with
 |nil=>exact h0
 |cons x l ih=>rw[reverse_cons];exact h1 _ _ ih
theorem Kz{x:Int}{v:Value}{M:KV}(h:(M.map Prod.fst).Nodup):((gb x v M).map Prod.fst).Nodup:=by
 unfold gb
 rw[((Bi (x,v) (jx x M)).map Prod.fst).nodup_iff,map_cons,nodup_cons]
 refine⟨fun hm=>?_,List.Nodup.sublist ((filter_sublist (p:=fun p:Int × Value=>!decide (p.1=x)) (l:=M)).map Prod.fst) h⟩
 obtain⟨p,hp,e⟩:=mem_map.1 hm
 exact(Ff.1 hp).2 e
theorem lq(l:List Int)(n:Int):((dE l n).map Prod.fst).Nodup:=by
 refine ug (P:=fun l=>((dE l n).map Prod.fst).Nodup) (by simp[dE]) (fun l x ih=>?_) l
 rw[oL]
 split
 ·exact Kz ih
 ·exact ih
theorem rV(l:List Int)(n x:Int):(dX x (dE l n)).isSome=(decide (x∈l)&&dd x n):=by
 refine ug (P:=fun l=>(dX x (dE l n)).isSome=(decide (x∈l)&&dd x n)) (by simp[dE,dX]) (fun l y ih=>?_) l
 rw[oL]
 by_cases hs:dd y n=true
 ·rw[if_pos hs,Nw]
  by_cases e:y=x
  ·subst e;simp[hs]
  ·rw[if_neg e,ih]
   simp[show ¬ x=y from fun h=>e h.symm]
 ·rw[if_neg hs,ih]
  by_cases e:x=y
  ·subst e;simp[hs]
  ·simp[e]
end aL
namespace Go.Proofs.YtijhlbeipglieaaGreat
open Go.RowKit aL Go.Maps Tryz List
theorem I3:(prog.info? 3).map (fun i=>(i.zero,i.size,i.bytes))=some (some (.int .i64 0),1,8):=by kernel_rfl
def uV(vt:List (Int × Bl))(b:Bl):List Int:=(vt.filter fun v=>decide (v.2=b)).map Prod.fst
theorem QS{vt:List (Int × Bl)}{b:Bl}{i:Nat}(h:i<vt.length):uV (vt.take (i+1)) b=uV (vt.take i) b++(if vt[i].2=b then[vt[i].1] else[]):=by
 unfold uV
 rw[take_succ_eq_append_getElem h,filter_append,map_append]
 congr 1
 by_cases e:vt[i].2=b<;>simp[e]
theorem I7(vt:List (Int × Bl))(b:Bl):(uV vt b).length≤vt.length:=by
 unfold uV;rw[length_map];exact length_filter_le _ _
theorem Ha(w:World)(A:Option Addr)(c:Nat)(vt:List (Int × Bl))(hv:jq qk 3 w A vt.length vt)(b:Bl)(n:Nat)(hn:n≤7)(hl:vt.length≤1000000000) :
  Calls prog 250 #[.slice A vt.length c,b.val,.int .i64 (n:Int)] w fun e w'=>e=.returned (.bool (Site.most vt b n))∧ab [] [] w w':=by
 obtain⟨W,H,eW,hH,hB,U0⟩:=cb w 30 #[.int .i64 b.r,.int .i64 b.s]
 have pJ:=hv.aN U0
 have NZ:=U0.gives (b':=[]) (by simp)
 have HM:=aA (show Site.most vt b n=fN (uV vt b) n from rfl)
 obtain⟨R,hR⟩:=bk (Site.most vt b n)
 rw[hR]at HM ⊢
 clear hR
 have Ya:w.heap.size≤H:=by omega
 have xF:=hB.lt
 rw[Bl.val]
 go_enter func250,ntmps250
 repeat' go_step
 go_loopw [7,12] (fun v7 uZ wr=>∃(i:Nat)(A1:Option Addr)(c1:Nat),i≤vt.length∧uZ=.int .i64 (i:Int)∧v7=.slice A1 (uV (vt.take i) b).length c1∧aL.Own 3 1 wr A1 (uV (vt.take i) b).length c1 ((uV (vt.take i) b).map (Value.int .i64))∧ab [] (ak A1) W wr)
  (fun _ uZ _=>vt.length-(intOf uZ).toNat)
 case atStart=>exact⟨0,none,0,by omega,rfl,rfl,Own.nil _ _ _,ab.refl _ _⟩
 case round=>
  obtain⟨i,A1,c1,hi,rfl,rfl,ho,U⟩:=hrel
  by_cases hlt:i<vt.length
  ·have dK:(i:Int)<(vt.length:Int):=by omega
   have dC:=aL.wr ((i:Int)+1)
   have mS:=pJ.aN U
   obtain⟨ad,rfl,h0,hj⟩:=jq.at_ (f:=qk) (s:=3) (fun _=>rfl) mS hlt
   have c0:=h0 _ rfl
   have c1':=hj 1 _ (by omega) rfl
   have c2:=hj 2 _ (by omega) rfl
   have HT:=aA (QS (b:=b) hlt)
   have qm:=I7 (vt.take i) b
   rw[length_take]at qm
   have kB:=hB.aq U (by simp)
   obtain⟨⟨b0,b1⟩,-⟩:=kB.c2
   clear h0 hj mS hv pJ
   generalize vt[i]=y at *
   obtain⟨yf,yr,ys⟩:=y
   have E1:=wG yr ys b.r b.s
   have u0:=ab.refl [] wr
   obtain⟨W2,G,zW,hG,cX,U2⟩:=cb wr 343 #[.int .i64 yf,.int .i64 yr,.int .i64 ys]
   have KX:=hB.aq U (by simp) |>.aq U2 (by simp)
   obtain⟨⟨d0,d1⟩,-⟩:=KX.c2
   obtain⟨⟨g0,g1,g2⟩,-⟩:=cX.c3
   have eN:=ho.aq U2 (by simp)
   have nX:=U.trans (U2.up _)
   by_cases he:(⟨yr,ys⟩:Bl)=b
   ·have Oa:((yr==b.r)&&(ys==b.s))=true:=by subst he;simp
    rw[Oa]at E1
    have FU:=HT.out
    rw[if_pos he]at FU
    have FV:=aA FU
    clear HT FU he Oa
    obtain⟨X,hX⟩:=bk (uV (vt.take i) b)
    rw[hX]at eN qm FV ⊢
    repeat' (fail_if_success with_reducible refine ba rfl ?_);go_step
    refine gV rfl _ _ 168 rfl 3 underlying168 I3 rfl (by decide) eN rfl W2.heap.size rfl rfl rfl rfl (by unfold maxLen;omega) (by omega) ?_
    intro A3 c3 w3 iD cQ
    have U3:=nX.trans cQ
    clear ho eN U nX u0 U2 hB cX kB KX
    refine wk ?_
    exact⟨⟨i+1,A3,c3,by omega,by simp,by rw[FV.out];simp,by rw[FV.out];simpa using iD,U3⟩,by simp[intOf];omega⟩
   ·have Oa:((yr==b.r)&&(ys==b.s))=false:=by
     obtain⟨br,bs⟩:=b
     simp only[Bl.mk.injEq,not_and]at he
     by_cases h1:yr=br
     ·simp[h1,he h1]
     ·simp[h1]
    rw[Oa]at E1
    have FU:=HT.out
    rw[if_neg he,append_nil]at FU
    have FV:=aA FU
    clear HT FU he Oa
    obtain⟨X,hX⟩:=bk (uV (vt.take i) b)
    rw[hX]at eN qm FV ⊢
    refine wk ?_
    exact⟨⟨i+1,A1,c1,by omega,by simp,by rw[FV.out],by rw[FV.out];exact eN,nX⟩,by simp[intOf];omega⟩
  ·obtain rfl:i=vt.length:=by omega
   have dK:¬ ((vt.length:Int)<(vt.length:Int)):=by omega
   rw[take_length]at ho
   have qm:=I7 vt b
   have C:=yQ wr A1 c1 (uV vt b) n (by omega) ho.rd (by omega)
   rw[←HM.out]at C
   have UU:=(NZ.trans (U.up [] |>.gives (b':=[]) (by simp)))
   clear hv pJ hB U U0 NZ ho HM
   rw[take_length]
   repeat' go_step
   refine C.mono ?_;rintro e w2 ⟨rfl,bh⟩
   refine wk ?_
   go_ret
   exact⟨rfl,UU.trans bh⟩
theorem QT:(prog.info? 343).map (fun i=>(i.zero,i.size,i.bytes))=some (some (.agg #[.int .i64 0,.int .i64 0,.int .i64 0]),3,24):=by kernel_rfl
theorem J8(a b c d:Int)(w:World):(binOp .neq 30 (.agg #[.int .i64 a,.int .i64 b]) (.agg #[.int .i64 c,.int .i64 d])).run prog w=.ok (.bool (!((a==c)&&(b==d)))) w:=by
 rw[run_neq_struct,show(10000:Nat)=9999+1 from rfl]
 rw[run_equalIn_struct w _ _ _ _ (by kernel_rfl) (by kernel_rfl)]
 rw[show prog.fieldsOf 30=_ from by unfold Program.fieldsOf;rw[underlying30]]
 have p0:=fun(x y:Int)(w:World)=>show(part 3 #[.int .i64 x,.int .i64 y] 0).run prog w=.ok (.int .i64 x) w by kernel_rfl
 have p1:=fun(x y:Int)(w:World)=>show(part 3 #[.int .i64 x,.int .i64 y] 1).run prog w=.ok (.int .i64 y) w by kernel_rfl
 have e0:=fun(a b:Int)(w:World)=>show(Op.equalIn 9999 3 (.int .i64 a) (.int .i64 b)).run prog w=.ok (a==b) w by kernel_rfl
 simp only[Op.eqFields,Sem.run_bind,p0,p1,e0,Result.andThen_ok,ne_eq,String.reduceEq,not_false_eq_true,if_true,Sem.run_ite,Sem.run_pure]
 cases a==c
 ·rfl
 cases b==d<;>rfl
section
variable [eA]
theorem aJ.Kq{w:World}{M:ae}(h:aJ w M){x:Int}{r:bS}(hl:aD x M.rs=some r)(f:Int)(b:Bl)(hv:r.vt.length≤1000000000) :
  ∃A' c' w3,(Builtin.append_ #[130,130] 130 #[.slice r.VA r.vt.length r.vc,.slice (some ⟨w.heap.size,0,none⟩) 1 1]).run prog (w.alloc (.cells #[.int .i64 f,.int .i64 b.r,.int .i64 b.s] 343))=.ok (.slice A' (r.vt.length+1) c') w3∧
   w3.cell? ⟨r.g,5,none⟩=some (.slice r.VA r.vt.length r.vc)∧w3.frozen? ⟨r.g,5,none⟩=false∧
   aJ (w3.setCell ⟨r.g,5,none⟩ (.slice A' (r.vt.length+1) c')) {M with rs:=aT x {r with VA:=A',vc:=c',vt:=r.vt++[(f,b)]} M.rs}∧
   ab M.fp ({M with rs:=aT x {r with VA:=A',vc:=c',vt:=r.vt++[(f,b)]} M.rs} :ae).fp w (w3.setCell ⟨r.g,5,none⟩ (.slice A' (r.vt.length+1) c')):=by
 have cL:=bG hl
 have h1:=h.aN ((ab.refl [] w).alloc (.cells #[.int .i64 f,.int .i64 b.r,.int .i64 b.s] 343))
 have hR:=h.cI _ cL
 have gT:=h1.cI _ cL
 obtain⟨A',c',w3,hrun,ho,hu⟩:=lL (P:=prog) _ 130 130 343 underlying130 QT rfl (by decide) r.VA r.vt.length r.vc _ gT.DJ (some ⟨w.heap.size,0,none⟩) 1 1 (qk (f,b)) (Rd.aO (aQ.new _ _ _) rfl)
  (by intro u hu;simp only[qk,mem_cons,not_mem_nil,or_false]at hu;rcases hu with rfl|rfl|rfl<;>rfl) (by unfold maxLen;omega) (by omega)
 have hg:r.g∉ak r.VA:=cp gT.tg gT.tV (by decide)
 have hb3:=gT.aO.aq hu hg
 have U:ab (ak r.VA) (ak A') w w3:=((ab.refl (ak r.VA) w).alloc _).trans hu
 have u4:ab [r.g] [r.g] w3 (w3.setCell ⟨r.g,5,none⟩ (.slice A' (r.vt.length+1) c')):=(ab.refl [r.g] w3).setCell (p:=⟨r.g,5,none⟩) (.inl (by simp)) _
 have U4:ab (r.g::ak r.VA) (r.g::ak A') w (w3.setCell ⟨r.g,5,none⟩ (.slice A' (r.vt.length+1) c')):=
  (
   U.mono (a':=r.g::ak r.VA) (b':=r.g::ak A') (fun k hk=>mem_cons_of_mem _ hk) (fun k hk=>by
   rcases mem_cons.1 hk with rfl|hk
   ·exact .inr (.inl (by simp))
   ·exact .inl hk)).trans (u4.mono (a':=r.g::ak A') (b':=r.g::ak A') (by simp) (fun k hk=>.inr (.inl hk)))
 have na:aL.Own 343 3 w3 A' (r.vt.length+1) c' ((r.vt++[(f,b)]).flatMap qk):=by rw[flatMap_append,flatMap_cons,flatMap_nil,append_nil];exact ho
 have yu:∀k∈ak A',k∉[r.g]:=fun k hk hm=>by
  rw[mem_singleton]at hm;subst hm
  exact bx (na.tag _ hk) hb3.tag (by decide) rfl
 refine⟨A',c',w3,hrun,hb3.cell 5,hb3.frozen 5,?_⟩
 refine h.Jz hl {r with VA:=A',vc:=c',vt:=r.vt++[(f,b)]} rfl (X:=r.g::ak r.VA) (fun k hk=>?_) U4 ⟨?_,?_,?_⟩ (fun k hk=>.inl hk) (fun k hk=>?_) (fun y hy=>h.mZ cL hy) ?_
 ·simp only[bS.fp,mem_cons,mem_append]at hk ⊢
  rcases hk with h1|h1
  ·exact .inl h1
  ·exact .inr (.inr h1)
 ·have:=hb3.cc 5 (.slice A' (r.vt.length+1) c')
  simpa using this
 ·refine(hR.gB.aq U (cY hR.tP hR.tV (by decide))).aq u4 (fun k hk hm=>?_)
  rw[mem_singleton]at hm;subst hm
  exact bx (hR.tP _ hk) hR.tg (by decide) rfl
 ·have:=na.aq u4 yu
  simpa using this
 ·rcases U.fresh k hk with h1|h1
  ·exact .inl h1
  ·exact .inr h1
 ·have:=h.ok.rs (x,r.pl) (mem_map.2 ⟨_,cL,rfl⟩)
  exact this.2.2
theorem E4(w:World)(M:ae)(h:aJ w M)(m:Mv)(hm:m.ms.bL)(hl:M.held.length≤900000000)(mh:∀p∈M.rs,p.2.vt.length≤900000000) :
  Calls prog 196 #[M.ptr,m.val] w fun e w'=>e=.returned (.tuple #[])∧dZ w w' M (M.pl.accepted m.ms):=by
 have AP:=h.ok
 have lP:0≤m.s∧m.s≤4095:=hm.slot
 have eO:(Lit.int .i64 m.s).wf=true:=kt (by omega) (by omega)
 obtain⟨W,H,eW,hH,hB,U0⟩:=cb w 32 #[.int .i64 m.k,.int .i64 m.f,.int .i64 m.t,.int .i64 m.s,.int .i64 m.br,.int .i64 m.bs,.int .i64 m.hr,.int .i64 m.hs,.bool m.so,.slice m.A m.n m.c]
 have h1:=h.aN U0
 have gU:H∉M.fp:=fun hk=>by have:=h.lt H hk;omega
 have q8:W.cell? ⟨M.gs,8,none⟩=some (.map (some M.br)):=h1.aO.cell 8
 have WQ:∀N,(W.drewN N).cell? ⟨M.gs,8,none⟩=some (.map (some M.br)):=fun N=>q8
 have WR:∀N,(W.drewN N).cell? ⟨H,1,none⟩=some (.int .i64 m.f):=fun N=>hB.cell 1
 have IE:∀N,(W.drewN N).cell? ⟨H,3,none⟩=some (.int .i64 m.s):=fun N=>hB.cell 3
 have WT:∀N,(W.drewN N).cell? ⟨H,4,none⟩=some (.int .i64 m.br):=fun N=>hB.cell 4
 have WU:∀N,(W.drewN N).cell? ⟨H,5,none⟩=some (.int .i64 m.bs):=fun N=>hB.cell 5
 have hlk:=fun N=>(h1.drewN N).Dm eO
 have hpl:aD m.ms.slot M.pl.rs=(aD m.s M.rs).map bS.pl:=eB _ _ _
 obtain⟨R,hR⟩:=bk (M.pl.accepted m.ms)
 have HR:=aA hR
 rw[hR]
 clear hR
 rw[Mv.bJ,ae.ptr]
 have cv:=(U0.gives (b':=[]) (by simp))
 have jD:∀W2,ab [] [] W W2→R=M.pl→dZ w W2 M R:=fun W2 u e=>⟨M,h.aN (cv.trans u),e.symm,rfl,(cv.trans u).up M.fp⟩
 cases hq:aD m.s M.rs with
 |none=>
  rw[hq]at hpl
  simp only[hq]at hlk
  have eQ:R=M.pl:=by rw[←HR.out];unfold Site.accepted;rw[hpl];rfl
  have K:=aA (fun N N'=>jD ((W.drewN N).drewN N') (((ab.refl [] W).drewN N).drewN N') eQ)
  simp only[Option.map_none,Option.getD_none,Option.isSome_none]at hlk
  clear jD hpl
  go_enter func196,ntmps196
  repeat' go_step
  go_quiet (fail)
  repeat' go_step
  go_quiet (fail)
  refine wk ?_
  exact bodyPost_ret (v:=.tuple #[]) (results_none rfl _ _ _) rfl ⟨rfl,K.out _ _⟩
 |some r=>
  rw[hq]at hpl
  simp only[hq,Option.map_some,Option.getD_some,Option.isSome_some,bS.ptr]at hlk
  have cL:=bG hq
  have pT:=(h1.cI _ cL)
  have WW:∀N,(W.drewN N).cell? ⟨r.g,0,none⟩=some (.int .i64 r.aC.r):=fun N=>pT.aO.cell 0
  have WX:∀N,(W.drewN N).cell? ⟨r.g,1,none⟩=some (.int .i64 r.aC.s):=fun N=>pT.aO.cell 1
  have EP:∀N,(W.drewN N).cell? ⟨r.g,3,none⟩=some (.bool r.so):=fun N=>pT.aO.cell 3
  have E1:=J8 r.aC.r r.aC.s m.br m.bs
  by_cases hb:r.aC=⟨m.br,m.bs⟩
  ·have e2:((r.aC.r==m.br)&&(r.aC.s==m.bs))=true:=by rw[hb];simp
   rw[e2]at E1
   simp only[Bool.not_true]at E1
   have WY:=aA hb
   cases gC:r.so with
   |false=>
    have eQ:R=M.pl:=by
     rw[←HR.out];unfold Site.accepted;rw[hpl]
     exact if_neg (fun hc=>by have:=hc.2;rw[show r.pl.so=r.so from rfl,gC]at this;cases this)
    have K:=aA (fun N N'=>jD ((W.drewN N).drewN N') (((ab.refl [] W).drewN N).drewN N') eQ)
    simp only[gC]at EP
    clear jD hpl hb
    go_enter func196,ntmps196
    repeat' go_step
    go_quiet (fail)
    repeat' go_step
    go_quiet (fail)
    refine wk ?_
    exact bodyPost_ret (v:=.tuple #[]) (results_none rfl _ _ _) rfl ⟨rfl,K.out _ _⟩
   |true=>
    simp only[gC]at EP
    clear jD hb
    go_enter func196,ntmps196
    repeat' go_step
    go_quiet (fail)
    repeat' go_step
    obtain⟨n1,jX⟩:∃n,n=nq:=⟨_,rfl⟩
    rw[←jX]
    go_quiet (fail)
    repeat' go_step
    obtain⟨X,hX⟩:=bk ((W.drewN n1).drewN nq)
    rw[hX]
    have UX:ab [] [] W X:=by rw[←hX];exact((ab.refl [] W).drewN _).drewN _
    clear hX jX
    have hx:=h1.aN UX
    have fh:=hB.aq UX (by simp)
    clear WR IE WT WU WQ WW WX EP hlk pT E1 e2 q8
    obtain⟨A3,c3,w3,hrun,g5,f5,P1,P2⟩:=hx.drew.Kq hq m.f ⟨m.br,m.bs⟩ (by have:=mh _ cL;simp only at this;omega)
    have ER:=(hx.cI _ cL)
    have s5:X.drew.cell? ⟨r.g,5,none⟩=some (.slice r.VA r.vt.length r.vc):=ER.aO.cell 5
    have WZ:(X.alloc (.cells #[.int .i64 m.f,.int .i64 m.br,.int .i64 m.bs] 343)).cell? ⟨r.g,5,none⟩=some (.slice r.VA r.vt.length r.vc):=(ER.aO.alloc _).cell 5
    obtain⟨⟨a0,a1,a2,a3,a4,a5,a6,a7,a8,a9⟩,-⟩:=fh.drew.cJ
    clear ER
    go_cut [4]from 35 (fun s4 wc=>s4=.pointer (some ⟨r.g,0,none⟩)∧wc=w3.setCell ⟨r.g,5,none⟩ (.slice A3 (r.vt.length+1) c3))
    case first=>
     clear P1 P2 h hx
     go_region_law (first
      |(refine jz rfl (.tmp 39) (.tmp 45) 130 rfl (.slice r.VA r.vt.length r.vc) (.slice (some ⟨X.drew.heap.size,0,none⟩) 1 1) _ w3 rfl rfl hrun ?_))
     all_goals (refine eH ?_)
     all_goals go_meet
     all_goals exact⟨rfl,rfl⟩
    case rest=>
     obtain⟨rfl,hwc⟩:=hcut
     rw[←hwc]at P1 P2
     obtain⟨r2,hr2⟩:∃r2:bS,{r with VA:=A3,vc:=c3,vt:=r.vt++[(m.f,(⟨m.br,m.bs⟩:Bl))]} =r2:=⟨_,rfl⟩
     obtain⟨M2,gg⟩:∃M2:ae,{M with rs:=aT m.s r2 M.rs} =M2:=⟨_,rfl⟩
     rw[hr2,gg]at P1 P2
     have ES:M2.pl= {M.pl with rs:=aT m.s r2.pl M.pl.rs}:=by rw[←gg];unfold ae.pl;simp only[fi]
     have rE:M2.gs=M.gs:=by rw[←gg]
     have kW:M2.n=M.n:=by rw[←gg]
     have ahM:M2.bl=M.bl∧M2.br=M.br:=by rw[←gg];exact⟨rfl,rfl⟩
     have BV:M2.held=M.held:=by rw[←gg]
     have ir:(m.s,r2)∈M2.rs:=by rw[←gg];exact ec.2 (.inl rfl)
     have dS:=P1.cI _ ir
     have hg2:r2.g=r.g:=by rw[←hr2]
     have hv2:r2.v=r.v:=by rw[←hr2]
     have hb2:r2.aC=r.aC:=by rw[←hr2]
     have QU:r2.vt=r.vt++[(m.f,(⟨m.br,m.bs⟩:Bl))]:=by rw[←hr2]
     have P5:r2.vt.length≤1000000000:=by rw[QU,length_append];have:=mh _ cL;simp only[length_cons,length_nil]at this ⊢;omega
     have uN:aQ wc H 32 #[.int .i64 m.k,.int .i64 m.f,.int .i64 m.t,.int .i64 m.s,.int .i64 m.br,.int .i64 m.bs,.int .i64 m.hr,.int .i64 m.hs,.bool m.so,.slice m.A m.n m.c]:=fh.drew.aq P2 gU
     have UW:ab M.fp M2.fp w wc:=((cv.trans UX).drew.up M.fp).trans P2
     have uO:=aA (show R=if Site.most r2.vt r2.aC M.n=true then(M2.pl.aX m.s r2.v.b).others (Site.bD m.s r2.v.b) M.n else M2.pl by
      rw[←HR.out,ES];unfold Site.accepted;rw[hpl]
      simp only[Option.map_some]
      rw[if_pos ⟨WY.out,gC⟩]
      rw[←hr2]
      rfl)
     have xF:=uN.lt
     have DD:H∉M2.fp:=P2.gu gU fh.lt
     have HVT:=aA QU
     clear hpl HR hrun g5 f5 s5 WZ hr2 gg hx fh UX P2 h1 h QU a0 a1 a2 a3 a4 a5 a6 a7 a8 a9 hwc ES
     obtain⟨⟨g0,g1,g2,g3,g4,g5,g6⟩,-⟩:=dS.aO.c7
     rw[hb2]at uO g0 g1
     rw[hg2]at g0 g1 g2 g3 g4 g5 g6
     clear hv2
     have C4:=Ha wc.drew r2.VA r2.vc r2.vt ⟨rfl,dS.DJ.rd⟩ r.aC M.n AP.n7 P5
     obtain⟨T,hT⟩:=bk (Site.most r2.vt r.aC M.n)
     rw[hT]at uO C4
     have q1:wc.cell? ⟨M.gs,1,none⟩=some (.int .i64 (M.n:Int)):=by have:=P1.aO.cell 1;rw[rE]at this;rw[this,←kW];rfl
     simp only[Bl.val]at C4
     repeat' go_step
     go_still_tail 12,(by kernel_rfl)
     change wpList _ _ _ _ _ wc.drew
     repeat' go_step
     refine C4.mono ?_;rintro e w4 ⟨rfl,de⟩
     have km:=(ab.refl [] wc).drew.trans de
     have h4:=P1.aN km
     have jF:=dS.aq km (by simp)
     have fb:=uN.aq km (by simp)
     have U4:ab M.fp M2.fp w w4:=UW.trans (km.up M2.fp)
     clear C4 de km P1 UW uN dS g0 g1 g2 g3 g4 g5 g6 q1
     cases T with
     |false=>
      refine wk ?_
      refine bodyPost_end (results_none rfl _ _ _) rfl ⟨rfl,M2,h4,?_,rE,U4⟩
      rw[uO.out];rfl
     |true=>
      have Ob:0≤m.s∧m.s<4096:=by omega
      have FW:=h4.mZ ir (x:=r2.v) (by simp[bS.bytes])
      have hvf:∀k∈ak r2.v.A,k∉M2.fp:=h4.DK (x:=r2.v) (by simp only[ae.bytes,mem_append,mem_flatMap];exact .inr (.inr (.inl ⟨_,ir,by simp[bS.bytes]⟩)))
      have adW:=h4.ok.rs (m.s,r2.pl) (mem_map.2 ⟨_,ir,rfl⟩)
      have gi:r2.v.b.length≤2048:=adW.2.2.1
      have C5:=tX w4.drew M2 h4.drew m.s Ob r2.v.A r2.v.n r2.v.c r2.v.b FW.1.rd gi
      obtain⟨⟨g0,g1,g2,g3,g4,g5,g6⟩,-⟩:=jF.aO.c7
      obtain⟨⟨b0,b1,b2,b3,b4,b5,b6,b7,b8,b9⟩,-⟩:=fb.cJ
      simp only[ae.ptr,rE]at C5
      simp only[bO.val,hg2]at g4
      repeat' first|go_step|simp only[];go_at_K
      go_still_tail 7,(by kernel_rfl)
      change wpList _ _ _ _ _ w4.drew
      repeat' go_step
      refine C5.mono ?_;rintro e w5 ⟨rfl,⟨M3,h5,fO,hg3,LK⟩,cF⟩
      have KA:∀k∈[M2.bl,M2.br],cl w4.drew k=some none:=by
       intro k hk
       simp only[mem_cons,not_mem_nil,or_false]at hk
       rcases hk with rfl|rfl
       ·exact h4.drew.tb
       ·exact h4.drew.tr
      have nT:=jF.aO.drew.aq cF (cp jF.aO.drew.tag KA (by decide))
      have kZ:=fb.drew.aq cF (cp fb.drew.tag KA (by decide))
      have adX:=(FW.1.aN (ab.refl [] w4).drew).aq cF (cY (FW.1.aN (ab.refl [] w4).drew).tag KA (by decide))
      have adY:∀k∈ak r2.v.A,k∉M3.fp:=fun k hk=>LK.gu (hvf k hk) (fJ (FW.1.tag k hk))
      have Yd:M3.gs=M.gs:=hg3.trans rE
      have uC:M3.n=M.n:=by
       have:=congrArg Site.n fO
       have e2:(M2.pl.aX m.s r2.v.b).n=M2.n:=by unfold Site.aX;split<;>rfl
       rw[e2,kW]at this;exact this
      have jf:M3.held.length≤900000000:=by
       have:=congrArg (fun t:Site=>t.held.length) fO
       have e2:(M2.pl.aX m.s r2.v.b).held=M2.pl.held:=by unfold Site.aX;split<;>rfl
       simp only[e2]at this
       rw[ae.cE,ae.cE,BV]at this
       omega
      have C6:=vM w5.drew m.s r2.v.A r2.v.n r2.v.c r2.v.b
      have C7:=fun(w6:World)(dN:ab [] [] w5.drew w6)=>ke w6 M3 (h5.drew.aN dN) ⟨7,0,0,m.s,0,0,0,0,true,r2.v.A,r2.v.n,r2.v.c,r2.v.b⟩ (Site.j7 Ob gi) ((adX.aN (ab.refl [] w5).drew).aN dN).rd adY jf
      obtain⟨⟨p0,p1,p2,p3,p4,p5,p6⟩,-⟩:=nT.c7
      obtain⟨⟨d0,d1,d2,d3,d4,d5,d6,d7,d8,d9⟩,-⟩:=kZ.cJ
      rw[hg2]at p0 p1 p2 p3 p4 p5 p6
      simp only[bO.val]at p4
      obtain⟨tv,vN⟩:=bk (Mv.val ⟨7,0,0,m.s,0,0,0,0,true,r2.v.A,r2.v.n,r2.v.c,r2.v.b⟩)
      rw[vN]at C6
      simp only[vN,ae.ptr,Yd]at C7
      clear C5 g0 g1 g2 g3 g4 g5 g6 b0 b1 b2 b3 b4 b5 b6 b7 b8 b9 jF fb nT kZ vN KA
      refine wk ?_
      go_region_with (first
       |(go_at_call 118;(with_reducible refine C6.mono ?_);rintro e w6 ⟨rfl,dN⟩;have t0:=dN.cell d3 (by simp);have t1:=dN.cell p4 (by simp))
       |(go_at_call 62;(with_reducible refine(C7 w6 dN).mono ?_);rintro e w7 ⟨rfl,M4,h7,rG,xK,-,U7⟩))
      all_goals (refine eH ?_)
      all_goals refine bodyPost_end (results_none rfl _ _ _) rfl ⟨rfl,M4,h7,?_,xK.trans Yd,?_⟩
      all_goals first
       |(rw[rG,uO.out,fO,uC];rfl)
       |exact(((U4.trans ((ab.refl M2.fp w4).drew)).trans LK).trans ((((ab.refl [] w5).drew.trans dN)).up M3.fp)).trans U7
  ·have e2:((r.aC.r==m.br)&&(r.aC.s==m.bs))=false:=by
    rw[Bool.and_eq_false_iff]
    by_cases h1:r.aC.r=m.br
    ·right
     have:r.aC.s≠m.bs:=fun h2=>hb (by rw[←h1,←h2])
     simp[this]
    ·left;simp[h1]
   rw[e2]at E1
   simp only[Bool.not_false]at E1
   have eQ:R=M.pl:=by
    rw[←HR.out];unfold Site.accepted;rw[hpl]
    exact if_neg (fun hc=>hb hc.1)
   have K:=aA (fun N N'=>jD ((W.drewN N).drewN N') (((ab.refl [] W).drewN N).drewN N') eQ)
   clear jD hpl hb e2
   go_enter func196,ntmps196
   repeat' go_step
   go_quiet (fail)
   repeat' go_step
   go_quiet (fail)
   refine wk ?_
   exact bodyPost_ret (v:=.tuple #[]) (results_none rfl _ _ _) rfl ⟨rfl,K.out _ _⟩
end
def Dp:KV:=[(1,(.func (.func 191) #[] #[])),(2,(.func (.func 192) #[] #[])),(3,(.func (.func 193) #[] #[])),(4,(.func (.func 194) #[] #[])),(5,(.func (.func 195) #[] #[])),(6,(.func (.func 196) #[] #[])),(7,(.func (.func 197) #[] #[])),(8,(.func (.func 198) #[] #[]))]
theorem vO(w:World):Calls prog 119 #[] w fun e w'=>∃b,e=.returned (.map (some b))∧cz prog 3 w' b Dp∧ab [] [b] w w':=by
 have si:=@run_makeMap prog
 have m0:=cz.made prog 3 w
 have U0:ab [] [w.heap.size] w (w.alloc (.map #[] 0)):=((ab.refl [] w).alloc _).gives (by simp)
 obtain⟨w1,r1,Ma,u1⟩:=m0.store underlying3 underlying200 (by simp[maxLen]) (x:=1) (by decide) (.func (.func 191) #[] #[])
 have m1:cz prog 3 w1 w.heap.size [(1,(.func (.func 191) #[] #[]))]:=by have e:gb 1 (.func (.func 191) #[] #[]) []= [(1,(.func (.func 191) #[] #[]))]:=(by simp[gb,jx,jM]);rw[←e];exact Ma
 have U1:=U0.trans u1
 clear m0 Ma U0 u1
 obtain⟨w2,r2,N4,u2⟩:=m1.store underlying3 underlying200 (by simp[maxLen]) (x:=2) (by decide) (.func (.func 192) #[] #[])
 have m2:cz prog 3 w2 w.heap.size [(1,(.func (.func 191) #[] #[])),(2,(.func (.func 192) #[] #[]))]:=by have e:gb 2 (.func (.func 192) #[] #[]) [(1,(.func (.func 191) #[] #[]))]= [(1,(.func (.func 191) #[] #[])),(2,(.func (.func 192) #[] #[]))]:=(by simp[gb,jx,jM]);rw[←e];exact N4
 have U2:=U1.trans u2
 clear m1 N4 U1 u2
 obtain⟨w3,r3,N5,u3⟩:=m2.store underlying3 underlying200 (by simp[maxLen]) (x:=3) (by decide) (.func (.func 193) #[] #[])
 have m3:cz prog 3 w3 w.heap.size [(1,(.func (.func 191) #[] #[])),(2,(.func (.func 192) #[] #[])),(3,(.func (.func 193) #[] #[]))]:=by have e:gb 3 (.func (.func 193) #[] #[]) [(1,(.func (.func 191) #[] #[])),(2,(.func (.func 192) #[] #[]))]= [(1,(.func (.func 191) #[] #[])),(2,(.func (.func 192) #[] #[])),(3,(.func (.func 193) #[] #[]))]:=(by simp[gb,jx,jM]);rw[←e];exact N5
 have U3:=U2.trans u3
 clear m2 N5 U2 u3
 obtain⟨w4,r4,Qc,u4⟩:=m3.store underlying3 underlying200 (by simp[maxLen]) (x:=4) (by decide) (.func (.func 194) #[] #[])
 have m4:cz prog 3 w4 w.heap.size [(1,(.func (.func 191) #[] #[])),(2,(.func (.func 192) #[] #[])),(3,(.func (.func 193) #[] #[])),(4,(.func (.func 194) #[] #[]))]:=by have e:gb 4 (.func (.func 194) #[] #[]) [(1,(.func (.func 191) #[] #[])),(2,(.func (.func 192) #[] #[])),(3,(.func (.func 193) #[] #[]))]= [(1,(.func (.func 191) #[] #[])),(2,(.func (.func 192) #[] #[])),(3,(.func (.func 193) #[] #[])),(4,(.func (.func 194) #[] #[]))]:=(by simp[gb,jx,jM]);rw[←e];exact Qc
 have U4:=U3.trans u4
 clear m3 Qc U3 u4
 obtain⟨w5,r5,Rq,u5⟩:=m4.store underlying3 underlying200 (by simp[maxLen]) (x:=5) (by decide) (.func (.func 195) #[] #[])
 have m5:cz prog 3 w5 w.heap.size [(1,(.func (.func 191) #[] #[])),(2,(.func (.func 192) #[] #[])),(3,(.func (.func 193) #[] #[])),(4,(.func (.func 194) #[] #[])),(5,(.func (.func 195) #[] #[]))]:=by have e:gb 5 (.func (.func 195) #[] #[]) [(1,(.func (.func 191) #[] #[])),(2,(.func (.func 192) #[] #[])),(3,(.func (.func 193) #[] #[])),(4,(.func (.func 194) #[] #[]))]= [(1,(.func (.func 191) #[] #[])),(2,(.func (.func 192) #[] #[])),(3,(.func (.func 193) #[] #[])),(4,(.func (.func 194) #[] #[])),(5,(.func (.func 195) #[] #[]))]:=(by simp[gb,jx,jM]);rw[←e];exact Rq
 have U5:=U4.trans u5
 clear m4 Rq U4 u5
 obtain⟨w6,r6,RA,u6⟩:=m5.store underlying3 underlying200 (by simp[maxLen]) (x:=6) (by decide) (.func (.func 196) #[] #[])
 have m6:cz prog 3 w6 w.heap.size [(1,(.func (.func 191) #[] #[])),(2,(.func (.func 192) #[] #[])),(3,(.func (.func 193) #[] #[])),(4,(.func (.func 194) #[] #[])),(5,(.func (.func 195) #[] #[])),(6,(.func (.func 196) #[] #[]))]:=by have e:gb 6 (.func (.func 196) #[] #[]) [(1,(.func (.func 191) #[] #[])),(2,(.func (.func 192) #[] #[])),(3,(.func (.func 193) #[] #[])),(4,(.func (.func 194) #[] #[])),(5,(.func (.func 195) #[] #[]))]= [(1,(.func (.func 191) #[] #[])),(2,(.func (.func 192) #[] #[])),(3,(.func (.func 193) #[] #[])),(4,(.func (.func 194) #[] #[])),(5,(.func (.func 195) #[] #[])),(6,(.func (.func 196) #[] #[]))]:=(by simp[gb,jx,jM]);rw[←e];exact RA
 have U6:=U5.trans u6
 clear m5 RA U5 u6
 obtain⟨w7,r7,RN,u7⟩:=m6.store underlying3 underlying200 (by simp[maxLen]) (x:=7) (by decide) (.func (.func 197) #[] #[])
 have m7:cz prog 3 w7 w.heap.size [(1,(.func (.func 191) #[] #[])),(2,(.func (.func 192) #[] #[])),(3,(.func (.func 193) #[] #[])),(4,(.func (.func 194) #[] #[])),(5,(.func (.func 195) #[] #[])),(6,(.func (.func 196) #[] #[])),(7,(.func (.func 197) #[] #[]))]:=by have e:gb 7 (.func (.func 197) #[] #[]) [(1,(.func (.func 191) #[] #[])),(2,(.func (.func 192) #[] #[])),(3,(.func (.func 193) #[] #[])),(4,(.func (.func 194) #[] #[])),(5,(.func (.func 195) #[] #[])),(6,(.func (.func 196) #[] #[]))]= [(1,(.func (.func 191) #[] #[])),(2,(.func (.func 192) #[] #[])),(3,(.func (.func 193) #[] #[])),(4,(.func (.func 194) #[] #[])),(5,(.func (.func 195) #[] #[])),(6,(.func (.func 196) #[] #[])),(7,(.func (.func 197) #[] #[]))]:=(by simp[gb,jx,jM]);rw[←e];exact RN
 have U7:=U6.trans u7
 clear m6 RN U6 u7
 obtain⟨w8,r8,RT,u8⟩:=m7.store underlying3 underlying200 (by simp[maxLen]) (x:=8) (by decide) (.func (.func 198) #[] #[])
 have m8:cz prog 3 w8 w.heap.size [(1,(.func (.func 191) #[] #[])),(2,(.func (.func 192) #[] #[])),(3,(.func (.func 193) #[] #[])),(4,(.func (.func 194) #[] #[])),(5,(.func (.func 195) #[] #[])),(6,(.func (.func 196) #[] #[])),(7,(.func (.func 197) #[] #[])),(8,(.func (.func 198) #[] #[]))]:=by have e:gb 8 (.func (.func 198) #[] #[]) [(1,(.func (.func 191) #[] #[])),(2,(.func (.func 192) #[] #[])),(3,(.func (.func 193) #[] #[])),(4,(.func (.func 194) #[] #[])),(5,(.func (.func 195) #[] #[])),(6,(.func (.func 196) #[] #[])),(7,(.func (.func 197) #[] #[]))]= [(1,(.func (.func 191) #[] #[])),(2,(.func (.func 192) #[] #[])),(3,(.func (.func 193) #[] #[])),(4,(.func (.func 194) #[] #[])),(5,(.func (.func 195) #[] #[])),(6,(.func (.func 196) #[] #[])),(7,(.func (.func 197) #[] #[])),(8,(.func (.func 198) #[] #[]))]:=(by simp[gb,jx,jM]);rw[←e];exact RT
 have U8:=U7.trans u8
 clear m7 RT U7 u8
 have M:=aA m8
 clear m8
 go_enter func119,ntmps119
 refine wk ?_
 go_ret
 exact⟨_,rfl,M.out,U8⟩
theorem Ni(w:World):(zeroValue 199).run prog w=.ok .nilFunc w:=zeroValue199 w
variable [eA]
