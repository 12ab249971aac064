/- For SitePlays. -/
import Derived.Deep.Cut
import Derived.Test.YtijhlbeipglieaaGreatPkSiteE
set_option linter.all false
set_option maxRecDepth 100000
set_option maxHeartbeats 4000000
namespace aA
open Go List
theorem J7{α:Type}{P:List α→Prop}(h0:P [])(h1:∀l x,P l→P (l++[x]))(l:List α):P l:=by
 rw[←l.reverse_reverse]
 induction l.reverse with
 |nil=>exact h0
 |cons x l ih=>rw[reverse_cons];exact h1 _ _ ih
theorem J8(x:Int):∀(M:KV),(M.map Prod.fst).Nodup→(iR x M).length+(if(eH x M).isSome then 1 else 0)=M.length
 |[],_=>by simp[iR,eH]
 |p::M,h=>by
  rw[map_cons,nodup_cons]at h
  have ih:=J8 x M h.2
  by_cases e:p.1=x
  ·have hno:eH x M=none:=Oh.2 fun q hq he=>h.1 (by rw[e,←he];exact mem_map_of_mem hq)
   rw[hno]at ih
   unfold iR eH at *
   simp[e]at ih ⊢
   omega
  ·unfold iR eH at *
   simp only[filter_cons,List.find?_cons,e,decide_false,Bool.not_false,if_true,length_cons]at ih ⊢
   omega
theorem OP{x:Int}{v:Value}{M:KV}(h:(M.map Prod.fst).Nodup):((gm x v M).map Prod.fst).Nodup:=by
 unfold gm
 rw[((EA (x,v) (iR x M)).map Prod.fst).nodup_iff,map_cons,nodup_cons]
 refine⟨fun hm=>?_,List.Nodup.sublist ((filter_sublist (p:=fun p:Int × Value=>!decide (p.1=x)) (l:=M)).map Prod.fst) h⟩
 obtain⟨p,hp,e⟩:=mem_map.1 hm
 exact(IE.1 hp).2 e
theorem AZ{x:Int}{v:Value}{M:KV}(h:(M.map Prod.fst).Nodup):(gm x v M).length=M.length+(if(eH x M).isSome then 0 else 1):=by
 have:=J8 x M h
 unfold gm
 rw[GY]
 split at this<;>simp_all
theorem zA(l:List Int)(n:Int):((eX l n).map Prod.fst).Nodup:=by
 refine J7 (P:=fun l=>((eX l n).map Prod.fst).Nodup) (by simp[eX]) (fun l x ih=>?_) l
 rw[nM]
 split
 ·exact OP ih
 ·exact ih
theorem LF(l:List Int)(n x:Int):(eH x (eX l n)).isSome=(decide (x∈l)&&bz x n):=by
 refine J7 (P:=fun l=>(eH x (eX l n)).isSome=(decide (x∈l)&&bz x n)) (by simp[eX,eH]) (fun l y ih=>?_) l
 rw[nM]
 by_cases hs:bz y n=true
 ·rw[if_pos hs,Qi]
  by_cases e:y=x
  ·subst e;simp[hs]
  ·rw[if_neg e,ih]
   simp[show ¬ x=y from fun h=>e h.symm]
 ·rw[if_neg hs,ih]
  by_cases e:x=y
  ·subst e;simp[hs]
  ·simp[e]
def lJ(l:List Int)(n:Int):Nat→Nat
 |0=>0
 |i+1=>lJ l n i+(if bz (l.getD i 0) n && !decide (l.getD i 0∈l.take i)then 1 else 0)
theorem ym(l:List Int)(n:Int):∀i,i≤l.length→lJ l n i=(eX (l.take i) n).length
 |0,_=>by simp[lJ,eX]
 |i+1,h=>by
  have ih:=ym l n i (by omega)
  have hlt:i<l.length:=by omega
  have e:l.getD i 0=l[i]:=by rw[List.getD_eq_getElem?_getD,List.getElem?_eq_getElem hlt];rfl
  unfold lJ
  rw[take_succ_eq_append_getElem hlt,nM,ih,e]
  by_cases hs:bz l[i] n=true
  ·rw[if_pos hs,AZ (zA _ _),LF,hs]
   by_cases hm:l[i]∈l.take i<;>simp[hm]
  ·simp[hs]
theorem LG(l:List Int)(x n:Int):(eX l n).length≤(eX (l++[x]) n).length:=by
 rw[nM]
 split
 ·rw[AZ (zA _ _)];omega
 ·omega
theorem OQ{l:List Int}{n:Int}(x:Int)(h:fU l n=true):fU (l++[x]) n=true:=by
 have:=LG l x n
 unfold fU at *
 split at h
 ·cases h
 ·rename_i hn
  rw[if_neg hn]
  simp only[decide_eq_true_eq]at *
  omega
end aA
namespace Go.Proofs.YtijhlbeipglieaaGreat
open Go.RowKit aA Go.Maps Tryz List
theorem MF:(prog.info? 3).map (fun i=>(i.zero,i.size,i.bytes))=some (some (.int .i64 0),1,8):=by kernel_rfl
def yn(vt:List (Int × Bl))(b:Bl):List Int:=(vt.filter fun v=>decide (v.2=b)).map Prod.fst
theorem Vz{vt:List (Int × Bl)}{b:Bl}{i:Nat}(h:i<vt.length):yn (vt.take (i+1)) b=yn (vt.take i) b++(if vt[i].2=b then[vt[i].1] else[]):=by
 unfold yn
 rw[take_succ_eq_append_getElem h,filter_append,map_append]
 congr 1
 by_cases e:vt[i].2=b<;>simp[e]
theorem Nl(vt:List (Int × Bl))(b:Bl):(yn vt b).length≤vt.length:=by
 unfold yn;rw[length_map];exact length_filter_le _ _
theorem LH(w:World)(A:Option Addr)(c:Nat)(vt:List (Int × Bl))(hv:bR jg 3 w A vt.length vt)(b:Bl)(n:Nat)(hn:n≤7)(hl:vt.length≤1000000000) :
  Calls prog 250 #[.slice A vt.length c,b.val,.int .i64 (n:Int)] w fun e w'=>e=.returned (.bool (Site.most vt b n))∧aa [] [] w w':=by
 obtain⟨W,H,eW,hH,hB,U0⟩:=az w 30 #[.int .i64 b.r,.int .i64 b.s]
 have hv1:=hv.au U0
 have QF:=U0.g0
 have HM:=hdn (show Site.most vt b n=fU (yn vt b) n from rfl)
 obtain⟨R,hR⟩:=ex1 (Site.most vt b n)
 rw[hR]at HM ⊢
 clear hR
 have hHs:w.heap.size≤H:=by omega
 have uO:=hB.lt
 rw[Bl.val]
 go_enter func250,ntmps250
 repeat' go_step
 go_loopw [7,12] (fun v7 v12 wr=>∃(i:Nat)(A1:Option Addr)(c1:Nat),i≤vt.length∧v12=.int .i64 (i:Int)∧v7=.slice A1 (yn (vt.take i) b).length c1∧Own 3 1 wr A1 (yn (vt.take i) b).length c1 ((yn (vt.take i) b).map (Value.int .i64))∧aa [] (ah A1) W wr)
  (fun _ v12 _=>vt.length-(intOf v12).toNat)
 case atStart=>exact⟨0,none,0,by omega,rfl,rfl,Own.nil _ _ _,aa.refl _ _⟩
 case round=>
  obtain⟨i,A1,c1,hi,rfl,rfl,ho,U⟩:=hrel
  by_cases hlt:i<vt.length
  ·have hil:(i:Int)<(vt.length:Int):=by omega
   have hw1:=aA.wr ((i:Int)+1)
   have lY:=hv1.au U
   obtain⟨ad,rfl,h0,hj⟩:=bR.at_ (f:=jg) (s:=3) (fun _=>rfl) lY hlt
   have c0:=h0 _ rfl
   have c1':=hj 1 _ (by omega) rfl
   have c2:=hj 2 _ (by omega) rfl
   have HT:=hdn (Vz (b:=b) hlt)
   have hln:=Nl (vt.take i) b
   rw[length_take]at hln
   have kB:=hB.upd U
   obtain⟨⟨b0,b1⟩,-⟩:=kB.c2
   clear h0 hj lY hv hv1
   generalize vt[i]=y at *
   obtain⟨yf,yr,ys⟩:=y
   have E1:=mR yr ys b.r b.s
   have u0:=aa.refl [] wr
   obtain⟨W2,G,fu,hG,hB2,U2⟩:=az wr 343 #[.int .i64 yf,.int .i64 yr,.int .i64 ys]
   have kB2:=hB.upd U (by simp) |>.upd U2
   obtain⟨⟨d0,d1⟩,-⟩:=kB2.c2
   obtain⟨⟨g0,g1,g2⟩,-⟩:=hB2.c3
   have ho2:=ho.upd U2
   have aK:=U.trans (U2.up _)
   by_cases he:(⟨yr,ys⟩:Bl)=b
   ·have he2:((yr==b.r)&&(ys==b.s))=true:=by subst he;simp
    rw[he2]at E1
    have HT2:=HT.out
    rw[if_pos he]at HT2
    have J9:=hdn HT2
    clear HT HT2 he he2
    obtain⟨X,hX⟩:=ex1 (yn (vt.take i) b)
    rw[hX]at ho2 hln J9 ⊢
    repeat' (fail_if_success with_reducible refine Ag rfl ?_);go_step
    refine bQ rfl _ _ 168 rfl 3 underlying168 MF rfl (by decide) ho2 rfl W2.heap.size rfl rfl rfl rfl (by unfold maxLen;omega) (by omega) ?_
    intro A3 c3 w3 ho3 hu3
    have U3:=aK.trans hu3
    clear ho ho2 U aK u0 U2 hB hB2 kB kB2
    refine wk ?_
    exact⟨⟨i+1,A3,c3,by omega,by simp,by rw[J9.out];simp,by rw[J9.out];simpa using ho3,U3⟩,by simp[intOf];omega⟩
   ·have he2:((yr==b.r)&&(ys==b.s))=false:=by
     obtain⟨br,bs⟩:=b
     simp only[Bl.mk.injEq,not_and]at he
     by_cases h1:yr=br
     ·simp[h1,he h1]
     ·simp[h1]
    rw[he2]at E1
    have HT2:=HT.out
    rw[if_neg he,append_nil]at HT2
    have J9:=hdn HT2
    clear HT HT2 he he2
    obtain⟨X,hX⟩:=ex1 (yn (vt.take i) b)
    rw[hX]at ho2 hln J9 ⊢
    refine wk ?_
    exact⟨⟨i+1,A1,c1,by omega,by simp,by rw[J9.out],by rw[J9.out];exact ho2,aK⟩,by simp[intOf];omega⟩
  ·obtain rfl:i=vt.length:=by omega
   have hil:¬ ((vt.length:Int)<(vt.length:Int)):=by omega
   rw[take_length]at ho
   have hln:=Nl vt b
   have C:=BX wr A1 c1 (yn vt b) n (by omega) ho.rd (by omega)
   rw[←HM.out]at C
   have UU:=(QF.trans (U.up [] |>.gives (b':=[]) (by simp)))
   clear hv hv1 hB U U0 QF ho HM
   rw[take_length]
   repeat' go_step
   refine C.mono ?_;rintro e w2 ⟨rfl,hu2⟩
   refine wk ?_
   go_ret
   exact⟨rfl,UU.trans hu2⟩
theorem VB:(prog.info? 343).map (fun i=>(i.zero,i.size,i.bytes))=some (some (.agg #[.int .i64 0,.int .i64 0,.int .i64 0]),3,24):=by kernel_rfl
theorem Co(a b c d:Int)(w:World):(binOp .neq 30 (.agg #[.int .i64 a,.int .i64 b]) (.agg #[.int .i64 c,.int .i64 d])).run prog w=.ok (.bool (!((a==c)&&(b==d)))) w:=by
 rw[run_neq_struct,show(10000:Nat)=9999+1 from rfl]
 rw[run_equalIn_struct w _ _ _ _ (by kernel_rfl) (by kernel_rfl)]
 rw[show prog.fieldsOf 30=_ from by unfold Program.fieldsOf;rw[underlying30]]
 have p0:=fun(x y:Int)(w:World)=>show(part 3 #[.int .i64 x,.int .i64 y] 0).run prog w=.ok (.int .i64 x) w by kernel_rfl
 have p1:=fun(x y:Int)(w:World)=>show(part 3 #[.int .i64 x,.int .i64 y] 1).run prog w=.ok (.int .i64 y) w by kernel_rfl
 have e0:=fun(a b:Int)(w:World)=>show(Op.equalIn 9999 3 (.int .i64 a) (.int .i64 b)).run prog w=.ok (a==b) w by kernel_rfl
 simp only[Op.eqFields,Sem.run_bind,p0,p1,e0,Result.andThen_ok,ne_eq,String.reduceEq,not_false_eq_true,if_true,Sem.run_ite,Sem.run_pure]
 cases a==c
 ·rfl
 cases b==d<;>rfl
section
variable [eU]
theorem ay.afc{w:World}{M:af}(h:ay w M){x:Int}{r:aS}(hl:aC x M.rs=some r)(f:Int)(b:Bl)(hv:r.vt.length≤1000000000) :
  ∃A' c' w3,(Builtin.append_ #[130,130] 130 #[.slice r.VA r.vt.length r.vc,.slice (some ⟨w.heap.size,0,none⟩) 1 1]).run prog (w.alloc (.cells #[.int .i64 f,.int .i64 b.r,.int .i64 b.s] 343))=.ok (.slice A' (r.vt.length+1) c') w3∧
   w3.cell? ⟨r.g,5,none⟩=some (.slice r.VA r.vt.length r.vc)∧w3.frozen? ⟨r.g,5,none⟩=false∧
   ay (w3.setCell ⟨r.g,5,none⟩ (.slice A' (r.vt.length+1) c')) {M with rs:=aG x {r with VA:=A',vc:=c',vt:=r.vt++[(f,b)]} M.rs}∧
   aa M.fp ({M with rs:=aG x {r with VA:=A',vc:=c',vt:=r.vt++[(f,b)]} M.rs} :af).fp w (w3.setCell ⟨r.g,5,none⟩ (.slice A' (r.vt.length+1) c')):=by
 have acm:=aY hl
 have h1:=h.au ((aa.refl [] w).alloc (.cells #[.int .i64 f,.int .i64 b.r,.int .i64 b.s] 343))
 have hR:=h.bV _ acm
 have fI:=h1.bV _ acm
 obtain⟨A',c',w3,abS,ho,hu⟩:=oQ (P:=prog) _ 130 130 343 underlying130 VB rfl (by decide) r.VA r.vt.length r.vc _ fI.G8 (some ⟨w.heap.size,0,none⟩) 1 1 (jg (f,b)) (Rd.blk (ak.new _ _ _) rfl)
  (by intro u hu;simp only[jg,mem_cons,not_mem_nil,or_false]at hu;rcases hu with rfl|rfl|rfl<;>rfl) (by unfold maxLen;omega) (by omega)
 have hg:r.g∉ah r.VA:=bA fI.tg fI.tV (by decide)
 have hb3:=fI.blk.upd hu hg
 have U:aa (ah r.VA) (ah A') w w3:=((aa.refl (ah r.VA) w).alloc _).trans hu
 have u4:aa [r.g] [r.g] w3 (w3.setCell ⟨r.g,5,none⟩ (.slice A' (r.vt.length+1) c')):=(aa.refl [r.g] w3).setCell (p:=⟨r.g,5,none⟩) (.inl (by simp)) _
 have U4:aa (r.g::ah r.VA) (r.g::ah A') w (w3.setCell ⟨r.g,5,none⟩ (.slice A' (r.vt.length+1) c')):=
  (
   U.mono (a':=r.g::ah r.VA) (b':=r.g::ah A') (fun k hk=>mem_cons_of_mem _ hk) (fun k hk=>by
   rcases mem_cons.1 hk with rfl|hk
   ·exact .inr (.inl (by simp))
   ·exact .inl hk)).trans (u4.mono (a':=r.g::ah A') (b':=r.g::ah A') (by simp) (fun k hk=>.inr (.inl hk)))
 have ho':Own 343 3 w3 A' (r.vt.length+1) c' ((r.vt++[(f,b)]).flatMap jg):=by rw[flatMap_append,flatMap_cons,flatMap_nil,append_nil];exact ho
 have Ta:∀k∈ah A',k∉[r.g]:=fun k hk hm=>by
  rw[mem_singleton]at hm;subst hm
  exact aU (ho'.tag _ hk) hb3.tag (by decide) rfl
 refine⟨A',c',w3,abS,hb3.cell 5,hb3.frozen 5,?_⟩
 refine h.NJ hl {r with VA:=A',vc:=c',vt:=r.vt++[(f,b)]} rfl (X:=r.g::ah r.VA) (fun k hk=>?_) U4 ⟨?_,?_,?_⟩ (fun k hk=>.inl hk) (fun k hk=>?_) (fun y hy=>h.o8 acm hy) ?_
 ·simp only[aS.fp,mem_cons,mem_append]at hk ⊢
  rcases hk with h1|h1
  ·exact .inl h1
  ·exact .inr (.inr h1)
 ·have:=hb3.aO 5 (.slice A' (r.vt.length+1) c')
  simpa using this
 ·refine(hR.EE.upd U (bX hR.tP hR.tV (by decide))).upd u4 (fun k hk hm=>?_)
  rw[mem_singleton]at hm;subst hm
  exact aU (hR.tP _ hk) hR.tg (by decide) rfl
 ·have:=ho'.upd u4 Ta
  simpa using this
 ·rcases U.fresh k hk with h1|h1
  ·exact .inl h1
  ·exact .inr h1
 ·have:=h.ok.rs (x,r.pl) (mem_map.2 ⟨_,acm,rfl⟩)
  exact this.2.2
theorem yM(w:World)(M:af)(h:ay w M)(m:Mv)(hm:m.ms.May)(hl:M.held.length≤900000000)(pE:∀p∈M.rs,p.2.vt.length≤900000000) :
  Calls prog 196 #[M.ptr,m.val] w fun e w'=>e=.returned (.tuple #[])∧Gone w w' M (M.pl.accepted m.ms):=by
 have Eg:=h.ok
 have qK:0≤m.s∧m.s≤4095:=hm.slot
 have hwf:(Lit.int .i64 m.s).wf=true:=jV (by omega) (by omega)
 obtain⟨W,H,eW,hH,hB,U0⟩:=az w 32 (MC m)
 have h1:=h.au U0
 have ik:H∉M.fp:=fun hk=>by have:=h.lt H hk;omega
 have q8:W.cell? ⟨M.gs,8,none⟩=some (.map (some M.br)):=h1.blk.cell 8
 have YW:∀N,(W.drewN N).cell? ⟨M.gs,8,none⟩=some (.map (some M.br)):=fun N=>q8
 have YX:∀N,(W.drewN N).cell? ⟨H,1,none⟩=some (.int .i64 m.f):=fun N=>hB.cell 1
 have Ma:∀N,(W.drewN N).cell? ⟨H,3,none⟩=some (.int .i64 m.s):=fun N=>hB.cell 3
 have YY:∀N,(W.drewN N).cell? ⟨H,4,none⟩=some (.int .i64 m.br):=fun N=>hB.cell 4
 have YZ:∀N,(W.drewN N).cell? ⟨H,5,none⟩=some (.int .i64 m.bs):=fun N=>hB.cell 5
 have hlk:=fun N=>(h1.drewN N).GI hwf
 have hpl:aC m.ms.slot M.pl.rs=(aC m.s M.rs).map aS.pl:=fH _ _ _
 obtain⟨R,hR⟩:=ex1 (M.pl.accepted m.ms)
 have HR:=hdn hR
 rw[hR]
 clear hR
 rw[Mv.aH,af.ptr]
 have dm:=U0.g0
 have ado:∀W2,aa [] [] W W2→R=M.pl→Gone w W2 M R:=fun W2 u e=>⟨M,h.au (dm.trans u),e.symm,rfl,(dm.trans u).up M.fp⟩
 cases hq:aC m.s M.rs with
 |none=>
  rw[hq]at hpl
  simp only[hq]at hlk
  have dN:R=M.pl:=by rw[←HR.out];unfold Site.accepted;rw[hpl];rfl
  have K:=hdn (fun N N'=>ado ((W.drewN N).drewN N') (((aa.refl [] W).drewN N).drewN N') dN)
  simp only[Option.map_none,Option.getD_none,Option.isSome_none]at hlk
  clear ado hpl
  go_enter func196,ntmps196
  repeat' go_step
  go_quiet (fail)
  repeat' go_step
  go_quiet (fail)
  refine wk ?_
  exact enT ⟨rfl,K.out _ _⟩
 |some r=>
  rw[hq]at hpl
  simp only[hq,Option.map_some,Option.getD_some,Option.isSome_some,aS.ptr]at hlk
  have acm:=aY hq
  have hRr:=(h1.bV _ acm)
  have Y0:∀N,(W.drewN N).cell? ⟨r.g,0,none⟩=some (.int .i64 r.ax.r):=fun N=>hRr.blk.cell 0
  have Y1:∀N,(W.drewN N).cell? ⟨r.g,1,none⟩=some (.int .i64 r.ax.s):=fun N=>hRr.blk.cell 1
  have Ig:∀N,(W.drewN N).cell? ⟨r.g,3,none⟩=some (.bool r.so):=fun N=>hRr.blk.cell 3
  have E1:=Co r.ax.r r.ax.s m.br m.bs
  by_cases hb:r.ax=⟨m.br,m.bs⟩
  ·have e2:((r.ax.r==m.br)&&(r.ax.s==m.bs))=true:=by rw[hb];simp
   rw[e2]at E1
   simp only[Bool.not_true]at E1
   have Mc:=hdn hb
   cases hso:r.so with
   |false=>
    have dN:R=M.pl:=by
     rw[←HR.out];unfold Site.accepted;rw[hpl]
     exact if_neg (fun hc=>by have:=hc.2;rw[show r.pl.so=r.so from rfl,hso]at this;cases this)
    have K:=hdn (fun N N'=>ado ((W.drewN N).drewN N') (((aa.refl [] W).drewN N).drewN N') dN)
    simp only[hso]at Ig
    clear ado hpl hb
    go_enter func196,ntmps196
    repeat' go_step
    go_quiet (fail)
    repeat' go_step
    go_quiet (fail)
    refine wk ?_
    exact enT ⟨rfl,K.out _ _⟩
   |true=>
    simp only[hso]at Ig
    clear ado hb
    go_enter func196,ntmps196
    repeat' go_step
    go_quiet (fail)
    repeat' go_step
    obtain⟨n1,hn1⟩:∃n,n=nq:=⟨_,rfl⟩
    rw[←hn1]
    go_quiet (fail)
    repeat' go_step
    obtain⟨X,hX⟩:=ex1 ((W.drewN n1).drewN nq)
    rw[hX]
    have UX:aa [] [] W X:=by rw[←hX];exact((aa.refl [] W).drewN _).drewN _
    clear hX hn1
    have hx:=h1.au UX
    have hBx:=hB.upd UX
    clear YX Ma YY YZ YW Y0 Y1 Ig hlk hRr E1 e2 q8
    obtain⟨A3,c3,w3,abS,g5,f5,P1,P2⟩:=hx.drew.afc hq m.f ⟨m.br,m.bs⟩ (by have:=pE _ acm;simp only at this;omega)
    have Ih:=(hx.bV _ acm)
    have s5:X.drew.cell? ⟨r.g,5,none⟩=some (.slice r.VA r.vt.length r.vc):=Ih.blk.cell 5
    have Y2:(X.alloc (.cells #[.int .i64 m.f,.int .i64 m.br,.int .i64 m.bs] 343)).cell? ⟨r.g,5,none⟩=some (.slice r.VA r.vt.length r.vc):=(Ih.blk.alloc _).cell 5
    obtain⟨⟨a0,a1,a2,a3,a4,a5,a6,a7,a8,a9⟩,-⟩:=hBx.drew.c10
    clear Ih
    go_cut [4]from 35 (fun s4 wc=>s4=.pointer (some ⟨r.g,0,none⟩)∧wc=w3.setCell ⟨r.g,5,none⟩ (.slice A3 (r.vt.length+1) c3))
    case first=>
     clear P1 P2 h hx
     go_region_law (first
      |(refine qo rfl (.tmp 39) (.tmp 45) 130 rfl (.slice r.VA r.vt.length r.vc) (.slice (some ⟨X.drew.heap.size,0,none⟩) 1 1) _ w3 rfl rfl abS ?_))
     all_goals (refine bN ?_)
     all_goals go_meet
     all_goals exact⟨rfl,rfl⟩
    case rest=>
     obtain⟨rfl,hwc⟩:=hcut
     rw[←hwc]at P1 P2
     obtain⟨r2,hr2⟩:∃r2:aS,{r with VA:=A3,vc:=c3,vt:=r.vt++[(m.f,(⟨m.br,m.bs⟩:Bl))]} =r2:=⟨_,rfl⟩
     obtain⟨M2,hM2⟩:∃M2:af,{M with rs:=aG m.s r2 M.rs} =M2:=⟨_,rfl⟩
     rw[hr2,hM2]at P1 P2
     have Ii:M2.pl= {M.pl with rs:=aG m.s r2.pl M.pl.rs}:=by rw[←hM2];unfold af.pl;simp only[fE]
     have hgs:M2.gs=M.gs:=by rw[←hM2]
     have hn2:M2.n=M.n:=by rw[←hM2]
     have aiz:M2.bl=M.bl∧M2.br=M.br:=by rw[←hM2];exact⟨rfl,rfl⟩
     have Ww:M2.held=M.held:=by rw[←hM2]
     have hm2:(m.s,r2)∈M2.rs:=by rw[←hM2];exact eY.2 (.inl rfl)
     have hR2:=P1.bV _ hm2
     have hg2:r2.g=r.g:=by rw[←hr2]
     have hv2:r2.v=r.v:=by rw[←hr2]
     have hb2:r2.ax=r.ax:=by rw[←hr2]
     have VC:r2.vt=r.vt++[(m.f,(⟨m.br,m.bs⟩:Bl))]:=by rw[←hr2]
     have tK:r2.vt.length≤1000000000:=by rw[VC,length_append];have:=pE _ acm;simp only[length_cons,length_nil]at this ⊢;omega
     have hBw:ak wc H 32 #[.int .i64 m.k,.int .i64 m.f,.int .i64 m.t,.int .i64 m.s,.int .i64 m.br,.int .i64 m.bs,.int .i64 m.hr,.int .i64 m.hs,.bool m.so,.slice m.A m.n m.c]:=hBx.drew.upd P2 ik
     have UW:aa M.fp M2.fp w wc:=((dm.trans UX).drew.up M.fp).trans P2
     have xU:=hdn (show R=if Site.most r2.vt r2.ax M.n=true then(M2.pl.bE m.s r2.v.b).others (Site.tells m.s r2.v.b) M.n else M2.pl by
      rw[←HR.out,Ii];unfold Site.accepted;rw[hpl]
      simp only[Option.map_some]
      rw[if_pos ⟨Mc.out,hso⟩]
      rw[←hr2]
      rfl)
     have uO:=hBw.lt
     have hH2:H∉M2.fp:=P2.eQ ik hBx.lt
     have HVT:=hdn VC
     clear hpl HR abS g5 f5 s5 Y2 hr2 hM2 hx hBx UX P2 h1 h VC a0 a1 a2 a3 a4 a5 a6 a7 a8 a9 hwc Ii
     obtain⟨⟨g0,g1,g2,g3,g4,g5,g6⟩,-⟩:=hR2.blk.c7
     rw[hb2]at xU g0 g1
     rw[hg2]at g0 g1 g2 g3 g4 g5 g6
     clear hv2
     have C4:=LH wc.drew r2.VA r2.vc r2.vt ⟨rfl,hR2.G8.rd⟩ r.ax M.n Eg.n7 tK
     obtain⟨T,hT⟩:=ex1 (Site.most r2.vt r.ax M.n)
     rw[hT]at xU C4
     have q1:wc.cell? ⟨M.gs,1,none⟩=some (.int .i64 (M.n:Int)):=by have:=P1.blk.cell 1;rw[hgs]at this;rw[this,←hn2];rfl
     simp only[Bl.val]at C4
     repeat' go_step
     go_still_tail 12,(by kernel_rfl)
     change wpList _ _ _ _ _ wc.drew
     repeat' go_step
     refine C4.mono ?_;rintro e w4 ⟨rfl,bM⟩
     have nI:=(aa.refl [] wc).drew.trans bM
     have h4:=P1.au nI
     have nO:=hR2.upd nI (by simp)
     have hB4:=hBw.upd nI (by simp)
     have U4:aa M.fp M2.fp w w4:=UW.trans (nI.up M2.fp)
     clear C4 bM nI P1 UW hBw hR2 g0 g1 g2 g3 g4 g5 g6 q1
     cases T with
     |false=>
      refine wk ?_
      refine bodyPost_end (results_none rfl _ _ _) rfl ⟨rfl,M2,h4,?_,hgs,U4⟩
      rw[xU.out];rfl
     |true=>
      have Ru:0≤m.s∧m.s<4096:=by omega
      have hbv:=h4.o8 hm2 (x:=r2.v) (by simp[aS.bytes])
      have hvf:∀k∈ah r2.v.A,k∉M2.fp:=h4.G9 (x:=r2.v) (by simp only[af.bytes,mem_append,mem_flatMap];exact .inr (.inr (.inl ⟨_,hm2,by simp[aS.bytes]⟩)))
      have afd:=h4.ok.rs (m.s,r2.pl) (mem_map.2 ⟨_,hm2,rfl⟩)
      have hvl:r2.v.b.length≤2048:=afd.2.2.1
      have C5:=xk w4.drew M2 h4.drew m.s Ru r2.v.A r2.v.n r2.v.c r2.v.b hbv.1.rd hvl
      obtain⟨⟨g0,g1,g2,g3,g4,g5,g6⟩,-⟩:=nO.blk.c7
      obtain⟨⟨b0,b1,b2,b3,b4,b5,b6,b7,b8,b9⟩,-⟩:=hB4.c10
      simp only[af.ptr,hgs]at C5
      simp only[aM.val,hg2]at g4
      repeat' first|go_step|simp only[];go_at_K
      go_still_tail 7,(by kernel_rfl)
      change wpList _ _ _ _ _ w4.drew
      repeat' go_step
      refine C5.mono ?_;rintro e w5 ⟨rfl,⟨M3,h5,hp3,hg3,FR⟩,bD⟩
      have OT:∀k∈[M2.bl,M2.br],bW w4.drew k=some none:=by
       intro k hk
       simp only[mem_cons,not_mem_nil,or_false]at hk
       rcases hk with rfl|rfl
       ·exact h4.drew.tb
       ·exact h4.drew.tr
      have tL:=nO.blk.drew.upd bD (bA nO.blk.drew.tag OT (by decide))
      have fw:=hB4.drew.upd bD (bA hB4.drew.tag OT (by decide))
      have afe:=(hbv.1.au (aa.refl [] w4).drew).upd bD (bX (hbv.1.au (aa.refl [] w4).drew).tag OT (by decide))
      have aff:∀k∈ah r2.v.A,k∉M3.fp:=fun k hk=>FR.eQ (hvf k hk) (iI (hbv.1.tag k hk))
      have amq:M3.gs=M.gs:=hg3.trans hgs
      have EF:M3.n=M.n:=by
       have:=congrArg Site.n hp3
       have e2:(M2.pl.bE m.s r2.v.b).n=M2.n:=by unfold Site.bE;split<;>rfl
       rw[e2,hn2]at this;exact this
      have VU:M3.held.length≤900000000:=by
       have:=congrArg (fun t:Site=>t.held.length) hp3
       have e2:(M2.pl.bE m.s r2.v.b).held=M2.pl.held:=by unfold Site.bE;split<;>rfl
       simp only[e2]at this
       rw[af.bf,af.bf,Ww]at this
       omega
      have C6:=yK w5.drew m.s r2.v.A r2.v.n r2.v.c r2.v.b
      have C7:=fun(w6:World)(eP:aa [] [] w5.drew w6)=>kL w6 M3 (h5.drew.au eP) ⟨7,0,0,m.s,0,0,0,0,true,r2.v.A,r2.v.n,r2.v.c,r2.v.b⟩ (Site.kD Ru hvl) ((afe.au (aa.refl [] w5).drew).au eP).rd aff VU
      obtain⟨⟨p0,p1,p2,p3,p4,p5,p6⟩,-⟩:=tL.c7
      obtain⟨⟨d0,d1,d2,d3,d4,d5,d6,d7,d8,d9⟩,-⟩:=fw.c10
      rw[hg2]at p0 p1 p2 p3 p4 p5 p6
      simp only[aM.val]at p4
      obtain⟨tv,yL⟩:=ex1 (Mv.val ⟨7,0,0,m.s,0,0,0,0,true,r2.v.A,r2.v.n,r2.v.c,r2.v.b⟩)
      rw[yL]at C6
      simp only[yL,af.ptr,amq]at C7
      clear C5 g0 g1 g2 g3 g4 g5 g6 b0 b1 b2 b3 b4 b5 b6 b7 b8 b9 nO hB4 tL fw yL OT
      refine wk ?_
      go_region_with (first
       |(go_at_call 118;(with_reducible refine C6.mono ?_);rintro e w6 ⟨rfl,eP⟩;have t0:=eP.cell d3 (by simp);have t1:=eP.cell p4 (by simp))
       |(go_at_call 62;(with_reducible refine(C7 w6 eP).mono ?_);rintro e w7 ⟨rfl,M4,h7,rO,xV,-,U7⟩))
      all_goals (refine bN ?_)
      all_goals refine bodyPost_end (results_none rfl _ _ _) rfl ⟨rfl,M4,h7,?_,xV.trans amq,?_⟩
      all_goals first
       |(rw[rO,xU.out,hp3,EF];rfl)
       |exact(((U4.trans ((aa.refl M2.fp w4).drew)).trans FR).trans ((((aa.refl [] w5).drew.trans eP)).up M3.fp)).trans U7
  ·have e2:((r.ax.r==m.br)&&(r.ax.s==m.bs))=false:=by
    rw[Bool.and_eq_false_iff]
    by_cases h1:r.ax.r=m.br
    ·right
     have:r.ax.s≠m.bs:=fun h2=>hb (by rw[←h1,←h2])
     simp[this]
    ·left;simp[h1]
   rw[e2]at E1
   simp only[Bool.not_false]at E1
   have dN:R=M.pl:=by
    rw[←HR.out];unfold Site.accepted;rw[hpl]
    exact if_neg (fun hc=>hb hc.1)
   have K:=hdn (fun N N'=>ado ((W.drewN N).drewN N') (((aa.refl [] W).drewN N).drewN N') dN)
   clear ado hpl hb e2
   go_enter func196,ntmps196
   repeat' go_step
   go_quiet (fail)
   repeat' go_step
   go_quiet (fail)
   refine wk ?_
   exact enT ⟨rfl,K.out _ _⟩
end
def Cv:KV:=[(1,(.func (.func 191) #[] #[])),(2,(.func (.func 192) #[] #[])),(3,(.func (.func 193) #[] #[])),(4,(.func (.func 194) #[] #[])),(5,(.func (.func 195) #[] #[])),(6,(.func (.func 196) #[] #[])),(7,(.func (.func 197) #[] #[])),(8,(.func (.func 198) #[] #[]))]
theorem tO(w:World):Calls prog 119 #[] w fun e w'=>∃b,e=.returned (.map (some b))∧bP prog 3 w' b Cv∧aa [] [b] w w':=by
 have hmm:=@run_makeMap prog
 have m0:=bP.made prog 3 w
 have U0:aa [] [w.heap.size] w (w.alloc (.map #[] 0)):=((aa.refl [] w).alloc _).gives
 obtain⟨w1,r1,m1',u1⟩:=m0.store underlying3 underlying200 (by simp[maxLen]) (x:=1) (by decide) (.func (.func 191) #[] #[])
 have m1:bP prog 3 w1 w.heap.size [(1,(.func (.func 191) #[] #[]))]:=by have e:gm 1 (.func (.func 191) #[] #[]) []= [(1,(.func (.func 191) #[] #[]))]:=(by simp[gm,iR,jU]);rw[←e];exact m1'
 have U1:=U0.trans u1
 clear m0 m1' U0 u1
 obtain⟨w2,r2,m2',u2⟩:=m1.store underlying3 underlying200 (by simp[maxLen]) (x:=2) (by decide) (.func (.func 192) #[] #[])
 have m2:bP prog 3 w2 w.heap.size [(1,(.func (.func 191) #[] #[])),(2,(.func (.func 192) #[] #[]))]:=by have e:gm 2 (.func (.func 192) #[] #[]) [(1,(.func (.func 191) #[] #[]))]= [(1,(.func (.func 191) #[] #[])),(2,(.func (.func 192) #[] #[]))]:=(by simp[gm,iR,jU]);rw[←e];exact m2'
 have U2:=U1.trans u2
 clear m1 m2' U1 u2
 obtain⟨w3,r3,m3',u3⟩:=m2.store underlying3 underlying200 (by simp[maxLen]) (x:=3) (by decide) (.func (.func 193) #[] #[])
 have m3:bP prog 3 w3 w.heap.size [(1,(.func (.func 191) #[] #[])),(2,(.func (.func 192) #[] #[])),(3,(.func (.func 193) #[] #[]))]:=by have e:gm 3 (.func (.func 193) #[] #[]) [(1,(.func (.func 191) #[] #[])),(2,(.func (.func 192) #[] #[]))]= [(1,(.func (.func 191) #[] #[])),(2,(.func (.func 192) #[] #[])),(3,(.func (.func 193) #[] #[]))]:=(by simp[gm,iR,jU]);rw[←e];exact m3'
 have U3:=U2.trans u3
 clear m2 m3' U2 u3
 obtain⟨w4,r4,m4',u4⟩:=m3.store underlying3 underlying200 (by simp[maxLen]) (x:=4) (by decide) (.func (.func 194) #[] #[])
 have m4:bP prog 3 w4 w.heap.size [(1,(.func (.func 191) #[] #[])),(2,(.func (.func 192) #[] #[])),(3,(.func (.func 193) #[] #[])),(4,(.func (.func 194) #[] #[]))]:=by have e:gm 4 (.func (.func 194) #[] #[]) [(1,(.func (.func 191) #[] #[])),(2,(.func (.func 192) #[] #[])),(3,(.func (.func 193) #[] #[]))]= [(1,(.func (.func 191) #[] #[])),(2,(.func (.func 192) #[] #[])),(3,(.func (.func 193) #[] #[])),(4,(.func (.func 194) #[] #[]))]:=(by simp[gm,iR,jU]);rw[←e];exact m4'
 have U4:=U3.trans u4
 clear m3 m4' U3 u4
 obtain⟨w5,r5,m5',u5⟩:=m4.store underlying3 underlying200 (by simp[maxLen]) (x:=5) (by decide) (.func (.func 195) #[] #[])
 have m5:bP prog 3 w5 w.heap.size [(1,(.func (.func 191) #[] #[])),(2,(.func (.func 192) #[] #[])),(3,(.func (.func 193) #[] #[])),(4,(.func (.func 194) #[] #[])),(5,(.func (.func 195) #[] #[]))]:=by have e:gm 5 (.func (.func 195) #[] #[]) [(1,(.func (.func 191) #[] #[])),(2,(.func (.func 192) #[] #[])),(3,(.func (.func 193) #[] #[])),(4,(.func (.func 194) #[] #[]))]= [(1,(.func (.func 191) #[] #[])),(2,(.func (.func 192) #[] #[])),(3,(.func (.func 193) #[] #[])),(4,(.func (.func 194) #[] #[])),(5,(.func (.func 195) #[] #[]))]:=(by simp[gm,iR,jU]);rw[←e];exact m5'
 have U5:=U4.trans u5
 clear m4 m5' U4 u5
 obtain⟨w6,r6,m6',u6⟩:=m5.store underlying3 underlying200 (by simp[maxLen]) (x:=6) (by decide) (.func (.func 196) #[] #[])
 have m6:bP prog 3 w6 w.heap.size [(1,(.func (.func 191) #[] #[])),(2,(.func (.func 192) #[] #[])),(3,(.func (.func 193) #[] #[])),(4,(.func (.func 194) #[] #[])),(5,(.func (.func 195) #[] #[])),(6,(.func (.func 196) #[] #[]))]:=by have e:gm 6 (.func (.func 196) #[] #[]) [(1,(.func (.func 191) #[] #[])),(2,(.func (.func 192) #[] #[])),(3,(.func (.func 193) #[] #[])),(4,(.func (.func 194) #[] #[])),(5,(.func (.func 195) #[] #[]))]= [(1,(.func (.func 191) #[] #[])),(2,(.func (.func 192) #[] #[])),(3,(.func (.func 193) #[] #[])),(4,(.func (.func 194) #[] #[])),(5,(.func (.func 195) #[] #[])),(6,(.func (.func 196) #[] #[]))]:=(by simp[gm,iR,jU]);rw[←e];exact m6'
 have U6:=U5.trans u6
 clear m5 m6' U5 u6
 obtain⟨w7,r7,m7',u7⟩:=m6.store underlying3 underlying200 (by simp[maxLen]) (x:=7) (by decide) (.func (.func 197) #[] #[])
 have m7:bP prog 3 w7 w.heap.size [(1,(.func (.func 191) #[] #[])),(2,(.func (.func 192) #[] #[])),(3,(.func (.func 193) #[] #[])),(4,(.func (.func 194) #[] #[])),(5,(.func (.func 195) #[] #[])),(6,(.func (.func 196) #[] #[])),(7,(.func (.func 197) #[] #[]))]:=by have e:gm 7 (.func (.func 197) #[] #[]) [(1,(.func (.func 191) #[] #[])),(2,(.func (.func 192) #[] #[])),(3,(.func (.func 193) #[] #[])),(4,(.func (.func 194) #[] #[])),(5,(.func (.func 195) #[] #[])),(6,(.func (.func 196) #[] #[]))]= [(1,(.func (.func 191) #[] #[])),(2,(.func (.func 192) #[] #[])),(3,(.func (.func 193) #[] #[])),(4,(.func (.func 194) #[] #[])),(5,(.func (.func 195) #[] #[])),(6,(.func (.func 196) #[] #[])),(7,(.func (.func 197) #[] #[]))]:=(by simp[gm,iR,jU]);rw[←e];exact m7'
 have U7:=U6.trans u7
 clear m6 m7' U6 u7
 obtain⟨w8,r8,m8',u8⟩:=m7.store underlying3 underlying200 (by simp[maxLen]) (x:=8) (by decide) (.func (.func 198) #[] #[])
 have m8:bP prog 3 w8 w.heap.size [(1,(.func (.func 191) #[] #[])),(2,(.func (.func 192) #[] #[])),(3,(.func (.func 193) #[] #[])),(4,(.func (.func 194) #[] #[])),(5,(.func (.func 195) #[] #[])),(6,(.func (.func 196) #[] #[])),(7,(.func (.func 197) #[] #[])),(8,(.func (.func 198) #[] #[]))]:=by have e:gm 8 (.func (.func 198) #[] #[]) [(1,(.func (.func 191) #[] #[])),(2,(.func (.func 192) #[] #[])),(3,(.func (.func 193) #[] #[])),(4,(.func (.func 194) #[] #[])),(5,(.func (.func 195) #[] #[])),(6,(.func (.func 196) #[] #[])),(7,(.func (.func 197) #[] #[]))]= [(1,(.func (.func 191) #[] #[])),(2,(.func (.func 192) #[] #[])),(3,(.func (.func 193) #[] #[])),(4,(.func (.func 194) #[] #[])),(5,(.func (.func 195) #[] #[])),(6,(.func (.func 196) #[] #[])),(7,(.func (.func 197) #[] #[])),(8,(.func (.func 198) #[] #[]))]:=(by simp[gm,iR,jU]);rw[←e];exact m8'
 have U8:=U7.trans u8
 clear m7 m8' U7 u8
 have M:=hdn m8
 clear m8
 go_enter func119,ntmps119
 refine wk ?_
 go_ret
 exact⟨_,rfl,M.out,U8⟩
theorem Iu(w:World):(zeroValue 199).run prog w=.ok .nilFunc w:=zeroValue199 w
variable [eU]
theorem Rw(w:World)(M:af)(h:ay w M)(m:Mv)(hk:m.k=6)(hm:m.ms.May)(hl:M.held.length≤900000000)(pE:∀p∈M.rs,p.2.vt.length≤900000000) :
  Calls prog 66 #[M.ptr,m.val] w fun e w'=>e=.returned (.tuple #[])∧Gone w w' M (M.pl.accepted m.ms):=by
 obtain⟨W,H,eW,hH,hB,U0⟩:=az w 32 (MC m)
 have C:=tO W.drew
 have FIN:=fun(Wx:World)(hU:aa [] [] W Wx)=>yM Wx M ((h.au U0).au hU) m hm hl pE
 have dm:=U0.g0
 have d1:((m.k:Int)==1)=false:=by rw[hk];decide
 have d3:((m.k:Int)==3)=false:=by rw[hk];decide
 have d5:((m.k:Int)==5)=false:=by rw[hk];decide
 have look:∀w1 b,bP prog 3 w1 b Cv→(Instr.lookup 200 (.map (some b)) (.int .i64 m.k) false).run prog w1=.ok (.func (.func 196) #[] #[]) w1:=fun w1 b hm=>by
  rw[hm.look underlying3 underlying200 (Iu w1) (x:=m.k) (by rw[hk];decide),hk]
  rfl
 have HL:=hdn look
 have WC:∀w1:World,(binOp .neq 199 (.func (.func 196) #[] #[]) .nilFunc).run prog w1=.ok (.bool true) w1:=fun w1=>by kernel_rfl
 obtain⟨⟨a0,a1,a2,a3,a4,a5,a6,a7,a8,a9⟩,-⟩:=hB.c10
 clear hk look hm hl pE
 obtain⟨S,hS⟩:=ex1 (M.pl.accepted m.ms)
 rw[Mv.aH,af.ptr]
 simp only[Mv.aH,af.ptr,hS]at FIN ⊢
 go_enter func66,ntmps66
 repeat' go_step
 go_region_with (first|(go_at_call 119;(with_reducible refine C.mono ?_);rintro e w1 ⟨b,rfl,agk,hu⟩;have hk1:=HL.out w1 b agk;have b0:=hu.cell (show W.drew.cell? ⟨H,0,none⟩=some (.int .i64 m.k)from a0) (by simp)))
 all_goals
  have KB:=hB.drew.upd hu
  have E8:aa [] [] W w1:=((aa.refl [] W).drew.trans hu).gives (b':=[]) (by simp)
  obtain⟨⟨c0,c1,c2,c3,c4,c5,c6,c7,c8,c9⟩,-⟩:=KB.c10
  repeat' go_step
  refine(FIN w1 E8).mono ?_;rintro e w7 ⟨rfl,M4,h7,rO,xV,U7⟩
  refine wk ?_
  exact enR ⟨rfl,M4,h7,rO,xV,((dm.trans E8).up M.fp).trans U7⟩
