/- For WorldCalm. -/
import Derived.Test.YtijhlbeipglieaaGreatPkCalmD
set_option linter.all false
namespace aL
open Go Go.Proofs.YtijhlbeipglieaaGreat List
def iv(f:Nat→Site→Nat):Nat→List Site→Nat
 |_,[]=>0
 |k,s::l=>f k s+iv f (k+1) l
theorem tE(f:Nat→Site→Nat):∀(l:List Site)(k i:Nat)(s t:Site),l[i]? =some s→iv f k (l.set i t)+f (k+i) s=iv f k l+f (k+i) t
 |[],k,i,s,t,h=>by simp at h
 |x::l,k,0,s,t,h=>by
  simp only[List.getElem?_cons_zero,Option.some.injEq]at h
  subst h
  simp only[set_cons_zero,iv,Nat.add_zero];omega
 |x::l,k,i+1,s,t,h=>by
  simp only[List.getElem?_cons_succ]at h
  have:=tE f l (k+1) i s t h
  simp only[set_cons_succ,iv]
  rw[show k+(i+1)=k+1+i by omega];omega
theorem sB(f g:Nat→Site→Nat):∀(l:List Site)(k:Nat),(∀(i:Nat) s,l[i]? =some s→f (k+i) s≤g (k+i) s)→iv f k l≤iv g k l
 |[],_,_=>Nat.le_refl _
 |x::l,k,h=>by
  have h1:=h 0 x rfl
  have h2:=sB f g l (k+1) fun i s hs=>by
   have:=h (i+1) s (by simpa using hs)
   rwa [show k+(i+1)=k+1+i by omega]at this
  simp only[iv]
  rw[Nat.add_zero]at h1;omega
theorem tG(c:Nat):∀(l:List Site)(k:Nat),iv (fun _ _=>c) k l=c*l.length
 |[],_=>rfl
 |x::l,k=>by
  simp only[iv,length_cons]
  rw[tG c l (k+1),Nat.mul_succ];omega
theorem Site.Ij(s:Site):s.sync.1.wt=s.wt∧s.sync.1.pat=s.pat∧s.sync.1.taken=s.taken:=by
 unfold Site.sync
 split
 ·exact⟨rfl,rfl,rfl⟩
 ·have k:=Site.rl (s.held.filter fun m=>decide (m.to=(s.me:Int))) {s with dn:=s.db.length,held:=[]}
  exact⟨k.wt,k.pat,k.taken⟩
theorem Sm.Ik{n T E i:Nat}{s:Site}{m:Ms}(h:Sm n T E i s)(hh:s.held= [])(hroom:s.db.length+2000≤1048576)(hm:m.bL)(hs:cj T E m)(hg:m.eS n i) :
  ∃t out k,(s.handle m).1.sync=(t,out)∧Dl n T E i s t m out k∧Dg n i s t m out∧t.wt=s.wt.set m.aR.toNat 0∧t.taken=s.taken:=by
 have zf:s.handle m=(({s with wt:=s.wt.set m.aR.toNat 0} :Site).take m,0):=by
  obtain⟨h1,c,h2,h3,h4⟩:=hg
  unfold Site.handle
  rw[if_neg (by rw[h.up];simp),if_neg (fun hn=>hn hm),if_neg (by rw[h.me,h.nn];omega)]
 have hw:=h.Vp (l:=s.wt.set m.aR.toNat 0) (by rw[length_set];exact h.pM)
 obtain⟨t,out,k,h1,h2,h3⟩:=hw.ZS hh hroom hm hs hg
 have hk:=Site.qz ({s with wt:=s.wt.set m.aR.toNat 0} :Site) m
 have hy:=Site.Ij (({s with wt:=s.wt.set m.aR.toNat 0} :Site).take m)
 rw[h1]at hy
 rw[zf]
 exact⟨t,out,k,h1,⟨h2.sm,h2.held,h2.outs,h2.D4,h2.a46,h2.a8,h2.a27,h2.a7,h2.uF,h2.db,h2.dec,h2.quiet,h2.mb,h2.fr,h2.nf,h2.Ps,h2.Vq⟩,⟨h3.k7,h3.k8,h3.VB,h3.k3,h3.k5,h3.k4,h3.VC,h3.k6,h3.VD⟩,hy.1.trans hk.wt,hy.2.2.trans hk.taken⟩
structure Fw(n:Nat) where
 w:Ms→Nat
 P:(i:Nat)→Pw n i
 hw:∀i,(P i).w=w
def Fw.ws{n:Nat}(F:Fw n)(l:List Ms):Nat:=(l.map F.w).sum
theorem Fw.ff{n:Nat}(F:Fw n)(a b:List Ms):F.ws (a++b)=F.ws a+F.ws b:=by simp[Fw.ws]
theorem Fw.Pu{n:Nat}(F:Fw n)(i:Nat)(l:List Ms):(F.P i).ws l=F.ws l:=by unfold Pw.ws Fw.ws;rw[F.hw]
def Fw.ji{n:Nat}(F:Fw n)(T:Nat)(w:Wd):Nat:=F.ws w.aI+iv (fun i s=>(F.P i).pt T s) 0 w.ss
structure Cl(n T E:Nat)(A:Nat→Int→Bool)(w:Wd):Prop where
 len:w.ss.length=n
 site:∀(i:Nat) s,w.ss[i]? =some s→Sm n T E i s∧s.held= []∧s.db.length+2000≤1048576
 aI:∀m∈w.aI,m.bL∧cj T E m∧∃i:Nat,i<n∧m.eS n i
 act:∀m∈w.aI,(m.kind=1∨m.kind=3∨m.kind=5→∀c:Nat,m.aR=(c:Int)→A c m.slot=true)∧(m.kind=4∨m.kind=6→∀c:Nat,m.to=(c:Int)→A c m.slot=true)
structure Dv(n T E:Nat)(w w':Wd)(m:Ms)(l:List Ms)(i:Nat)(s t:Site)(out:List Ms)(k:Nat):Prop where
 aI:w.aI=m::l
 eS:m.eS n i
 hi:i<n
 hs:w.ss[i]? =some s
 ss:w'.ss=w.ss.set i t
 net':∃p,w'.aI=l++p∧(∀x∈p,x∈out)∧(l.length+out.length≤4096→p=out)
 dl:Dl n T E i s t m out k
 dg:Sm.Dg n i s t m out
 wt:t.wt=s.wt.set m.aR.toNat 0
 taken:t.taken=s.taken
theorem o9:∀(l aI:List Ms),∃p,fW aI l=aI++p∧(∀x∈p,x∈l)∧p.length≤l.length∧∀F:Ms→Nat,(p.map F).sum≤(l.map F).sum
 |[],aI=>⟨[],by simp[fW],by simp,by simp,fun F=>by simp⟩
 |x::l,aI=>by
  unfold fW
  rw[foldl_cons]
  split
  ·obtain⟨p,h1,h2,h3,h4⟩:=o9 l (aI++[x])
   refine⟨x::p,?_,fun y hy=>?_,by simp;omega,fun F=>by have:=h4 F;simp;omega⟩
   ·unfold fW at h1
    rw[h1];simp
   ·rcases mem_cons.1 hy with rfl|hy
    ·simp
    ·simp[h2 y hy]
  ·obtain⟨p,h1,h2,h3,h4⟩:=o9 l aI
   exact⟨p,h1,fun y hy=>by simp[h2 y hy],by simp;omega,fun F=>by have:=h4 F;simp;omega⟩
namespace Cl
variable {n T E:Nat} {A:Nat→Int→Bool} {w:Wd}
theorem fa(h:Cl n T E A w){m:Ms}{l:List Ms}(hn:w.aI=m::l)(dL:∀x∈(w.fa m).aI,x.bL):∃i s t out k,Dv n T E w (w.fa m) m l i s t out k∧(∀F:Fw n,(∀i:Nat,m.kind=4∨m.kind=6→m.to=(i:Int)→(F.P i).A m.slot=true)→F.ji T (w.fa m)+(F.P i).ρ*k+(F.P i).δ≤F.ji T w)∧
  (∀j u,(w.fa m).ss[j]? =some u→j≠i→w.ss[j]? =some u):=by
 have lz:m∈w.aI:=by rw[hn];simp
 obtain⟨hm,eF,i,hi,hg⟩:=h.aI m lz
 have Ec:i<w.ss.length:=by rw[h.len];exact hi
 obtain⟨s,hs⟩:∃s,w.ss[i]? =some s:=⟨_,List.getElem?_eq_getElem Ec⟩
 obtain⟨hS,hh,hr⟩:=h.site i s hs
 obtain⟨t,out,k,h1,h2,h3,h4,h5⟩:=hS.Ik hh hr hm eF hg
 obtain⟨p,p1,p2,p3,p4⟩:=o9 out l
 have e:w.fa m= {w with ss:=w.ss.set i t,aI:=l++p}:=by
  have et:m.to.toNat=i:=by have:=hg.1;omega
  unfold Wd.fa Wd.du Wd.tell
  rw[hn]
  dsimp only[List.getElem?_cons_zero]
  rw[et,hs]
  dsimp only[eraseIdx_cons_zero]
  rw[List.getElem?_set_self Ec]
  dsimp only
  rw[h1,set_set]
  dsimp only
  rw[p1]
 rw[e]
 refine⟨i,s,t,out,k,⟨hn,hg,hi,hs,rfl,⟨p,rfl,p2,fun hl=>?_⟩,h2,h3,h4,h5⟩,fun F hA=>?_,fun j u hu hj=>?_⟩
 ·have:=vi out l hl
  rw[p1]at this
  exact append_cancel_left this
 ·have q1:=h2.uF (F.P i) (fun hk=>hA i hk hg.1)
  rw[F.Pu,F.hw]at q1
  have q2:=tE (fun i s=>(F.P i).pt T s) w.ss 0 i s t hs
  rw[Nat.zero_add]at q2
  unfold Fw.ji
  dsimp only
  have q3:F.ws w.aI=F.w m+F.ws l:=by rw[hn];simp[Fw.ws]
  have q4:F.ws p≤F.ws out:=p4 F.w
  rw[F.ff,q3]
  omega
 ·have hu:(w.ss.set i t)[j]? =some u:=hu
  rwa [List.getElem?_set_ne (fun e=>hj e.symm)]at hu
end Cl
theorem tI(w:Ms→Nat)(s:Site)(m:Ms)(n:Nat)(c:Nat)(h:∀j:Nat,w (m.ad (s.me:Int) (j:Int))≤c):(((s.tell m n).map w).sum)≤c*((List.range n).filter fun j=>decide (j≠s.me)).length:=by
 unfold Site.tell
 rw[map_map]
 generalize (List.range n).filter _=l
 induction l with
 |nil=>simp
 |cons a l ih=>
  have:=h a
  rw[map_cons,sum_cons,length_cons,Nat.mul_succ]
  have e:((w ∘ fun(j:Nat)=>m.ad (s.me:Int) (j:Int)) a)≤c:=this
  have ih:((l.map (w ∘ fun(j:Nat)=>m.ad (s.me:Int) (j:Int))).sum)≤c*l.length:=ih
  show(w ∘ fun(j:Nat)=>m.ad (s.me:Int) (j:Int)) a+((l.map (w ∘ fun(j:Nat)=>m.ad (s.me:Int) (j:Int))).sum)≤_
  omega
theorem vp(n i:Nat)(h:i<n):((List.range n).filter fun j=>decide (j≠i)).length+1=n:=by
 have h1:=(nodup_range (n:=n))
 have h2:((List.range n).filter fun j=>decide (j≠i)).length+1≤n:=by
  have:=iZ (a:=i::(List.range n).filter fun j=>decide (j≠i)) (b:=List.range n) (nodup_cons.2 ⟨fun hm=>by simp at hm,h1.sublist filter_sublist⟩) fun x hx=>by
   rcases mem_cons.1 hx with rfl|hx
   ·exact mem_range.2 h
   ·exact(mem_filter.1 hx).1
  simpa using this
 have h3:n≤((List.range n).filter fun j=>decide (j≠i)).length+1:=by
  have:=iZ (a:=List.range n) (b:=i::(List.range n).filter fun j=>decide (j≠i)) h1 fun x hx=>by
   by_cases c:x=i
   ·simp[c]
   ·exact mem_cons.2 (.inr (mem_filter.2 ⟨hx,by simpa using c⟩))
  simpa using this
 omega
def wa(a:Nat)(m:Ms):Nat:=if m.kind=8 then 17 else if m.kind=1∨m.kind=3∨m.kind=5 then a else 1
theorem JQ(a:Nat)(ha:1≤a∧a≤2)(m:Ms):1≤wa a m∧a-1≤wa a m:=by
 unfold wa
 split
 ·omega
 split<;>omega
def Pa(a:Nat)(ha:1≤a∧a≤2)(n i:Nat)(A:Int→Bool):Pw n i where
 w:=wa a
 A:=A
 tF:=6*a+6
 tT:=6
 φ:=6
 ρ:=0
 δ:=a-1
 c1:=1
 c5:=6*a
 nv:=fun m h=>by unfold wa;rw[if_neg (by omega),if_neg (by omega)];omega
 fresh:=by omega
 low:=fun m _=>(JQ a ha m).2
 Ia:=fun m _ h=>by unfold wa;rw[if_neg (by omega),if_pos h];omega
 DZ:=fun s m hi lA hn hk=>by
  have h1:=tI (wa a) s m n a (fun j=>by
   unfold wa
   rw[if_neg (by show ¬ m.kind=8;omega),if_pos (by show m.kind=1∨m.kind=3∨m.kind=5;omega)];omega)
  have h2:=vp n s.me (by omega)
  have h3:=Nat.mul_le_mul_left a (show((List.range n).filter fun j=>decide (j≠s.me)).length≤6 by omega)
  omega
 D0:=by omega
 JK:=by omega
 JL:=fun m _ h=>by unfold wa;rw[if_pos h];omega
def Fa(a:Nat)(ha:1≤a∧a≤2)(n:Nat)(A:Nat→Int→Bool):Fw n:=⟨wa a,fun i=>Pa a ha n i (A i),fun _=>rfl⟩
def wd(j:Nat)(m:Ms):Nat:=if m.to=(j:Int)∧(m.kind=1∨m.kind=3∨m.kind=5)then 1 else 0
def Pd(j n i:Nat):Pw n i where
 w:=wd j
 A:=fun _=>true
 tF:=1
 tT:=0
 φ:=if i=j then 1 else 0
 ρ:=if i=j then 1 else 0
 δ:=0
 c1:=0
 c5:=if i=j then 0 else 1
 nv:=fun m h=>by unfold wd;rw[if_neg (by omega)];omega
 fresh:=by omega
 low:=fun m _=>by omega
 Ia:=fun m ht hk=>by
  unfold wd
  by_cases c:i=j
  ·rw[if_pos c,if_pos ⟨by rw[ht,c],hk⟩];omega
  ·rw[if_neg c];omega
 DZ:=fun s m hi lA hn hk=>by
  unfold Site.tell
  rw[map_map]
  have key:∀l:List Nat,l.Nodup→((l.map (wd j ∘ fun(k:Nat)=>m.ad (s.me:Int) (k:Int))).sum)≤if j∈l then 1 else 0:=by
   intro l
   induction l with
   |nil=>intro _;simp
   |cons a l ih=>
    intro hd
    obtain⟨d1,d2⟩:=nodup_cons.1 hd
    have i1:=ih d2
    rw[map_cons,sum_cons]
    have e:(wd j ∘ fun(k:Nat)=>m.ad (s.me:Int) (k:Int)) a≤if a=j then 1 else 0:=by
     show wd j (m.ad (s.me:Int) (a:Int))≤_
     unfold wd
     by_cases c:a=j
     ·rw[if_pos c];split<;>omega
     ·rw[if_neg c,if_neg (by show ¬ ((a:Int)=(j:Int)∧_);omega)];omega
    by_cases c:a=j
    ·subst c
     rw[if_neg d1]at i1
     rw[if_pos rfl]at e
     rw[if_pos (by simp)];omega
    ·rw[if_neg c]at e
     by_cases c2:j∈l
     ·rw[if_pos c2]at i1
      rw[if_pos (by simp[c2])];omega
     ·rw[if_neg c2]at i1
      rw[if_neg (by simp[c2];omega)];omega
  have h1:=key _ ((nodup_range (n:=n)).sublist (filter_sublist (p:=fun j=>decide (j≠s.me))))
  refine Nat.le_trans h1 ?_
  by_cases c:i=j
  ·rw[if_pos c,if_neg (by
    intro hm
    have:=(mem_filter.1 hm).2
    rw[decide_eq_true_eq]at this;omega)];omega
  ·rw[if_neg c];split<;>omega
 D0:=by split<;>omega
 JK:=by omega
 JL:=fun m _ h=>by omega
def Fd(j n:Nat):Fw n:=⟨wd j,fun i=>Pd j n i,fun _=>rfl⟩
theorem zg(a:Nat)(ha:1≤a∧a≤2)(n:Nat)(A:Nat→Int→Bool)(l:List Ms):l.length≤(Fa a ha n A).ws l:=by
 unfold Fw.ws
 induction l with
 |nil=>simp
 |cons m l ih=>
  have:=(JQ a ha m).1
  rw[map_cons,sum_cons,length_cons]
  show _≤wa a m+_
  omega
theorem Il(f:Nat→Site→Nat):∀(l:List Site)(k i:Nat)(s:Site),l[i]? =some s→f (k+i) s≤iv f k l
 |[],k,i,s,h=>by simp at h
 |x::l,k,0,s,h=>by
  simp only[List.getElem?_cons_zero,Option.some.injEq]at h
  subst h
  simp only[iv,Nat.add_zero];omega
 |x::l,k,i+1,s,h=>by
  simp only[List.getElem?_cons_succ]at h
  have:=Il f l (k+1) i s h
  rw[show k+1+i=k+(i+1) by omega]at this
  simp only[iv];omega
structure iC(n T:Nat)(A:Nat→Int→Bool)(w:Wd)(K:Nat):Prop where
 aI:(Fa 1 (by decide) n A).ji T w≤4096
 many:(Fa 2 (by decide) n A).ji T w≤K
 cZ:∀(j:Nat) s,w.ss[j]? =some s→s.db.length+16*(Fd j n).ji T w+2000≤1048576
namespace Dv
variable {n T E:Nat} {A:Nat→Int→Bool} {w w':Wd} {m:Ms} {l:List Ms} {i:Nat} {s t:Site} {out:List Ms} {k:Nat}
theorem all(h:Dv n T E w w' m l i s t out k)(hc:Cl n T E A w)(hl:(Fa 1 (by decide) n A).ji T w≤4096):w'.aI=l++out:=by
 obtain⟨p,p1,p2,p3⟩:=h.net'
 have lz:m∈w.aI:=by rw[h.aI];simp
 have q1:=h.dl.uF ((Fa 1 (by decide) n A).P i) (fun hk=>(hc.act m lz).2 hk i h.eS.1)
 rw[(Fa 1 (by decide) n A).Pu,(Fa 1 (by decide) n A).hw]at q1
 have q2:=Il (fun i s=>((Fa 1 (by decide) n A).P i).pt T s) w.ss 0 i s h.hs
 rw[Nat.zero_add]at q2
 have q3:(Fa 1 (by decide) n A).ws w.aI=(Fa 1 (by decide) n A).w m+(Fa 1 (by decide) n A).ws l:=by rw[h.aI];simp[Fw.ws]
 have q4:=zg 1 (by decide) n A l
 have q5:=zg 1 (by decide) n A out
 unfold Fw.ji at hl
 rw[p1,p3 (by omega)]
theorem other(h:Dv n T E w w' m l i s t out k){j:Nat}{u:Site}(hu:w'.ss[j]? =some u):j=i∧u=t∨j≠i∧w.ss[j]? =some u:=by
 rw[h.ss]at hu
 by_cases c:j=i
 ·subst c
  rw[List.getElem?_set_self (by
   have:=(List.getElem?_eq_some_iff.1 h.hs).1;omega)]at hu
  exact .inl ⟨rfl,by injection hu with hu;exact hu.symm⟩
 ·rw[List.getElem?_set_ne (fun e=>c e.symm)]at hu
  exact .inr ⟨c,hu⟩
theorem at_(h:Dv n T E w w' m l i s t out k):w'.ss[i]? =some t:=by
 rw[h.ss,List.getElem?_set_self (by have:=(List.getElem?_eq_some_iff.1 h.hs).1;omega)]
theorem off(h:Dv n T E w w' m l i s t out k){j:Nat}(hj:j≠i):w'.ss[j]? =w.ss[j]?:=by
 rw[h.ss,List.getElem?_set_ne (fun e=>hj e.symm)]
theorem next(h:Dv n T E w w' m l i s t out k)(hc:Cl n T E A w)(dL:∀x∈w'.aI,x.bL)(pO:t.db.length+2000≤1048576):Cl n T E A w':=by
 obtain⟨p,p1,p2,p3⟩:=h.net'
 have lz:m∈w.aI:=by rw[h.aI];simp
 refine⟨by rw[h.ss,length_set];exact hc.len,fun j u hu=>?_,fun x hx=>⟨dL x hx,?_⟩,fun x hx=>?_⟩
 ·rcases h.other hu with⟨e1,e2⟩|⟨-,e2⟩
  ·subst e1 e2
   exact⟨h.dl.sm,h.dl.held,pO⟩
  ·exact hc.site j u e2
 ·rw[p1]at hx
  rcases mem_append.1 hx with hx|hx
  ·exact(hc.aI x (by rw[h.aI];simp[hx])).2
  ·obtain⟨o1,o2,c,o3,o4,o5⟩:=h.dl.outs x (p2 x hx)
   exact⟨o1,c,o3,o5,i,h.hi,fun e=>o4 e.symm,o2⟩
 ·rw[p1]at hx
  rcases mem_append.1 hx with hx|hx
  ·exact hc.act x (by rw[h.aI];simp[hx])
  ·have sC:=p2 x hx
   refine⟨fun hk c hf=>?_,fun hk c ht=>?_⟩
   ·obtain⟨-,o2,-⟩:=h.dl.outs x sC
    obtain⟨k1,k2,k3,-⟩:=h.dl.D4 x sC hk
    rw[k3,show c=i by omega]
    exact(hc.act m lz).2 (.inl k2) i h.eS.1
   ·obtain⟨k1,k2,k3⟩:=h.dl.a46 x sC hk
    rw[k1]
    exact(hc.act m lz).1 k3 c (by rw[←k2];exact ht)
end Dv
theorem Cl.run{n T E:Nat}{A:Nat→Int→Bool}{J:Wd→Prop}(hJ:∀(w w':Wd) m l i s t out k,Cl n T E A w→J w→Dv n T E w w' m l i s t out k→w'.aI=l++out→Cl n T E A w'→J w') :
  ∀(K:Nat)(w:Wd),Cl n T E A w→J w→iC n T A w K→(∀k,k≤K→∀x∈(Wd.drain k w).1.aI,x.bL)→
   ∃d w',d≤K∧(∀r,d≤r→Wd.drain r w=(w',d))∧w'.aI= []∧Cl n T E A w'∧J w'∧∀(j:Nat) s t,w.ss[j]? =some s→w'.ss[j]? =some t→t.db.length+16*(Fd j n).ji T w'≤s.db.length+16*(Fd j n).ji T w
 |K,w,h,hj,hl,hm=>by
  cases hn:w.aI with
  |nil=>exact⟨0,w,by omega,fun r _=>Wd.jY r hn,hn,h,hj,fun j s t hs ht=>by rw[hs]at ht;injection ht with ht;subst ht;omega⟩
  |cons m l=>
   have qn:∀x∈(w.fa m).aI,x.bL:=by
    have hK:1≤K:=by
     have q1:=hl.many
     have q2:=zg 2 (by decide) n A w.aI
     unfold Fw.ji at q1
     rw[hn,length_cons]at q2
     rw[hn]at q1
     omega
    have:=hm 1 hK
    rw[Wd.fX 0 hn]at this
    exact this
   obtain⟨i,s,t,out,k,hv,hp,ho⟩:=h.fa hn qn
   have lz:m∈w.aI:=by rw[hn];simp
   have hA:∀i:Nat,m.kind=4∨m.kind=6→m.to=(i:Int)→A i m.slot=true:=fun i hk ht=>(h.act m lz).2 hk i ht
   have t1:=hp (Fa 1 (by decide) n A) hA
   have t2:=hp (Fa 2 (by decide) n A) hA
   have t2':(Fa 2 (by decide) n A).ji T (w.fa m)+1≤(Fa 2 (by decide) n A).ji T w:=by
    have e1:((Fa 2 (by decide) n A).P i).ρ=0:=rfl
    have e2:((Fa 2 (by decide) n A).P i).δ=1:=rfl
    rw[e1,e2]at t2;omega
   have td:∀j,(Fd j n).ji T (w.fa m)+((Fd j n).P i).ρ*k≤(Fd j n).ji T w:=fun j=>by
    have:=hp (Fd j n) (fun _ _ _=>rfl);omega
   have wJ:∀(j:Nat) u u',w.ss[j]? =some u→(w.fa m).ss[j]? =some u'→u'.db.length+16*(Fd j n).ji T (w.fa m)≤u.db.length+16*(Fd j n).ji T w:=fun j u u' hu eC=>by
    have t3:=td j
    rcases hv.other eC with⟨e1,e2⟩|⟨-,e2⟩
    ·subst e1 e2
     have e4:((Fd j n).P j).ρ=1:=by show(if j=j then 1 else 0)=1;rw[if_pos rfl]
     rw[e4]at t3
     have e3:=hv.hs
     rw[hu]at e3;injection e3 with e3;subst e3
     have:=hv.dl.db;omega
    ·rw[hu]at e2;injection e2 with e2;subst e2;omega
   have fR:=hl.aI
   have hl2:=hl.many
   obtain⟨K',rfl⟩:∃K',K=K'+1:=⟨K - 1,by omega⟩
   have BF:=hv.next h qn (by
    have:=wJ i s t hv.hs hv.at_
    have:=hl.cZ i s hv.hs
    omega)
   have hj':=hJ w (w.fa m) m l i s t out k h hj hv (hv.all h fR) BF
   obtain⟨d,w',d1,d2,d3,d4,d5,d6⟩:=Cl.run hJ K' (w.fa m) BF hj' ⟨by omega,by omega,fun j u hu=>by
    obtain⟨u0,lB⟩:∃u0,w.ss[j]? =some u0:=⟨_,List.getElem?_eq_getElem (by
     have h1:=(List.getElem?_eq_some_iff.1 hu).1
     have h2:(w.fa m).ss.length=w.ss.length:=by rw[hv.ss,length_set]
     omega)⟩
    have:=wJ j u0 u lB hu
    have:=hl.cZ j u0 lB
    omega⟩ (fun k hk x hx=>hm (k+1) (by omega) x (by rw[Wd.fX k hn];exact hx))
   refine⟨d+1,w',by omega,fun r hr=>?_,d3,d4,d5,fun j a b ha hb=>?_⟩
   ·obtain⟨r',rfl⟩:∃r',r=r'+1:=⟨r - 1,by omega⟩
    rw[Wd.fX r' hn,d2 r' (by omega)]
   ·obtain⟨a',vj⟩:∃a',(w.fa m).ss[j]? =some a':=⟨_,List.getElem?_eq_getElem (by
     have h1:=(List.getElem?_eq_some_iff.1 ha).1
     rw[hv.ss,length_set];exact h1)⟩
    have:=wJ j a a' ha vj
    have:=d6 j a' b vj hb
    omega
theorem iJ.pd{n T E E':Nat}{s:Site}{x:Int}{r:Rn}(h:iJ n T E s x r)(hE:E≤E'):iJ n T E' s x r:=
 ⟨h.x0,h.dec,h.nz,h.bs,by have:=h.br;omega,h.low,h.b,h.pr,h.no,h.yes⟩
theorem Sm.pd{n T E E' i:Nat}{s:Site}(h:Sm n T E i s)(hE:E≤E')(VE:E'≤126):Sm n T E' i s:=
 ⟨h.me,h.nn,h.lt,h.n3,h.n7,h.T6,VE,h.pat,h.up,h.nx,h.pM,fun x=>by obtain⟨a,b,c,d⟩:=h.st x;exact⟨by omega,by omega,c,d⟩,h.lv,fun x r hr=>(h.rs x r hr).pd hE,h.mb,h.kz,h.used,h.top,fun m hm=>(h.held m hm).mono (Nat.le_refl _) hE⟩
theorem pY{α β:Type}{f g:α→List β} :∀{l:List α},(∀x∈l,f x=g x)→l.flatMap f=l.flatMap g
 |[],_=>rfl
 |x::l,h=>by rw[flatMap_cons,flatMap_cons,h x (by simp),pY fun y hy=>h y (by simp[hy])]
theorem xo{α:Type}(f:Int→α→Nat)(x:Int)(r:α)(M:AL α):ja f (aT x r M)≤f x r+ja f M:=by
 rw[lx]
 have:=kI f x M
 omega
namespace Site
def nb(s:Site)(x:Int):Bl:=⟨(s.low x).r+1,s.me⟩
def gF(x:Int)(b:Bl):Ms:=⟨3,0,0,x,b.r,b.s,0,0,false,[]⟩
theorem sD(s:Site)(x:Int):¬ (s.low x).lt (s.stat x).p∧((s.low x)=(s.stat x).p∨∃r,aD x s.rs=some r∧s.low x=r.aC):=by
 unfold low
 cases hr:aD x s.rs with
 |none=>exact⟨Bl.lt_irrefl _,.inl rfl⟩
 |some r=>
  dsimp only
  by_cases hc:0<dr r.aC (s.stat x).p
  ·rw[if_pos hc]
   refine⟨fun hl=>?_,.inr ⟨r,rfl,rfl⟩⟩
   have:=(gp _ _).2 hl;omega
  ·rw[if_neg hc]
   exact⟨Bl.lt_irrefl _,.inl rfl⟩
theorem TD(s:Site)(x:Int){r:Rn}(hr:aD x s.rs=some r):¬ (s.low x).lt r.aC:=by
 unfold low
 rw[hr]
 dsimp only
 by_cases hc:0<dr r.aC (s.stat x).p
 ·rw[if_pos hc];exact Bl.lt_irrefl _
 ·rw[if_neg hc]
  intro hl
  exact hc ((qh _ _).2 hl)
end Site
structure iG(n i:Nat)(s t:Site)(zs:List Int):Prop where
 held:t.held=s.held++zs.flatMap fun z=>s.tell (Site.gF z (s.nb z)) n++[(s.answer z (s.nb z)).ad i i]
 st:∀x,t.stat x=if x∈zs then {s.stat x with p:=s.nb x}else s.stat x
 rs:∀x,aD x t.rs=if x∈zs then some ⟨s.nb x,[],false,[],[],0⟩else aD x s.rs
 lv:t.lv=s.lv
 nx:t.nx=s.nx
 top:s.top≤t.top∧∀q:Int,s.top≤q→(∀z∈zs,z+1≤q)→t.top≤q
 gj:Site.dq s t
 db:t.db.length≤s.db.length+16*zs.length
 tok:∀P:Pw n i,P.tok t≤P.tok s+(zs.map fun z=>if P.A z then P.tF else 0).sum
namespace Sm
variable {n T E i:Nat} {s t u:Site}
theorem VF(h:Sm n T E i s)(hroom:s.db.length+1000≤1048576){x:Int}(sA:0≤x∧x<(T:Int))(hd:s.dec x=none)(hl:0≤(s.low x).r∧(s.low x).r+1≤E):Sm n T E i (s.cK x)∧iG n i s (s.cK x) [x]:=by
 have hT:=h.T6;have h7:=h.n7;have h3:=h.n3;have hE:=h.E1;have ca:=h.me;have hn:=h.nn;have hlt:=h.lt;have rX:=h.top
 obtain⟨b,hb⟩:=bk (s.nb x)
 have hb2:(s.low x).next (s.me:Int)=b:=by
  rw[←hb];unfold Bl.next Site.nb
  rw[if_neg (by omega),if_pos (by omega)]
 have br:b.r=(s.low x).r+1:=by rw[←hb];rfl
 have bs:b.s=(i:Int):=by rw[←hb,←ca];rfl
 have pK:(s.low x).lt b:=by unfold Bl.lt;omega
 have oV:¬ b.lt (s.stat x).p:=by
  have:=(s.sD x).1
  unfold Bl.lt at this pK ⊢;omega
 obtain⟨r,hr⟩:=h.lr (by omega) sA (b:=b) ⟨by omega,by omega⟩ ⟨by omega,by omega⟩ oV
 obtain⟨p1,p2,p3,p4,p5,p6,p7,p8,p9⟩:=h.promise sA (b:=b) (by omega) ⟨by omega,by omega⟩ hr
 obtain⟨R,hR⟩:∃R:Rn,R=⟨b,[],false,[],[],0⟩:=⟨_,rfl⟩
 have VG:=(Site.lr hr).2
 have ZT:r.top=max s.top (x+1):=by rw[VG];rfl
 have eF:fN ([]:List Int) n=false:=by
  unfold fN
  rw[if_neg (by omega)]
  refine decide_eq_false ?_
  unfold mW
  rw[if_neg (by omega)]
  show ¬ ((n:Int) / 2+1≤((0:Nat):Int))
  omega
 have Mk:iJ n T E r x R:=by
  rw[hR]
  refine⟨sA,by unfold Site.dec at hd ⊢;rw[p5];exact hd,?_,?_,⟨by show 0≤b.r;omega,by show b.r≤E;omega⟩,?_,by simp,fun q hq=>(by cases hq),fun _=>⟨p9,rfl,eF⟩,fun e=>(by cases e)⟩
  ·rw[p8,if_pos rfl]
   intro e
   have:=congrArg (fun z:Sp=>z.p.r) e
   simp[Sp.zero]at this;omega
  ·show b.s=(r.me:Int)
   rw[p1.me];exact bs
  ·rw[p8,if_pos rfl];exact Bl.lt_irrefl _
 have hS1:=p1.fH Mk
 have ZU:Site.asks R x=Site.gF x b:=by rw[hR];rfl
 have D6:(({r with rs:=aT x R r.rs} :Site).others (Site.asks R x) s.n).answer x b=s.answer x b:=by
  rw[Site.bH,hR]
  unfold Site.answer
  have:∀l:List Ms,({({r with rs:=aT x (⟨b,[],false,[],[],0⟩:Rn) r.rs} :Site)with held:=l} :Site).stat x= {s.stat x with p:=b}:=fun l=>by
   show r.stat x=_
   rw[p8,if_pos rfl]
  rw[this]
 have pR:cj T E (Site.gF x b):=⟨fun _=>sA.2,by show b.r≤E;omega,by simp[Site.gF],by simp[Site.gF]⟩
 have ham:cj T E (s.answer x b):=⟨fun _=>sA.2,by show b.r≤E;omega,(h.st x).2.1,(h.st x).2.2.1⟩
 have gz:=(hS1.others (m:=Site.gF x b) pR s.n).send (m:=s.answer x b) ham (i:Int)
 have e:s.cK x=((({r with rs:=aT x R r.rs} :Site).others (Site.gF x b) s.n).send (i:Int) (s.answer x b)):=by
  unfold Site.cK
  rw[hb2,if_neg (by have:=(qh b (s.low x)).2 pK;omega),hr]
  dsimp only
  rw[←hR,D6,ZU]
  rw[Site.bH]
  rw[show(r.me:Int)=(i:Int) by rw[p1.me]]
 rw[e]
 have htl:({r with rs:=aT x R r.rs} :Site).tell (Site.gF x b) s.n=s.tell (Site.gF x b) n:=by
  unfold Site.tell
  rw[hn]
  show List.map _ (filter (fun j=>decide (j≠r.me)) _)=_
  rw[p1.me,ca]
 refine⟨gz,?_,fun z=>?_,fun z=>?_,?_,?_,?_,?_,?_,fun P=>?_⟩
 ·rw[Site.jO,Site.bH]
  show r.held++_++_=_
  rw[htl,p3]
  simp only[flatMap_cons,flatMap_nil,append_nil]
  rw[hb,append_assoc]
  show s.held++(_++[(s.answer x b).ad (r.me:Int) i])=_
  rw[p1.me]
 ·rw[Site.bH]
  show r.stat z=_
  rw[p8]
  simp only[mem_singleton]
  by_cases c:x=z
  ·subst c;rw[if_pos rfl,if_pos rfl,hb]
  ·rw[if_neg c,if_neg (fun e=>c e.symm)]
 ·rw[Site.bH]
  show aD z (aT x R r.rs)=_
  rw[cO,p4]
  simp only[mem_singleton]
  by_cases c:x=z
  ·subst c;rw[if_pos rfl,if_pos rfl,hb,hR]
  ·rw[if_neg c,if_neg (fun e=>c e.symm)]
 ·rw[Site.bH];exact p5
 ·rw[Site.bH];exact p6
 ·rw[Site.bH]
  show s.top≤r.top∧∀q:Int,s.top≤q→(∀z∈[x],z+1≤q)→r.top≤q
  rw[ZT]
  exact⟨by omega,fun q h1 h2=>by have:=h2 x (by simp);omega⟩
 ·rw[Site.bH];exact⟨p7.me,p7.n,p7.pat,p7.down,p7.wt,p7.dn,p7.taken⟩
 ·rw[Site.bH]
  show r.db.length≤_
  rw[length_singleton];omega
 ·rw[Site.bH]
  show ja _ (aT x R r.rs)≤_
  rw[p4]
  have:=xo (fun x (r:Rn)=>if P.A x then(if r.so then P.tT else P.tF)else 0) x R s.rs
  rw[show R.so=false by rw[hR]]at this
  simp only[map_cons,map_nil,sum_cons,sum_nil]
  unfold Pw.tok
  simpa[Nat.add_comm]using this
theorem nC(h:Sm n T E i s):∀zs:List Int,zs.Nodup→(∀z∈zs,(0≤z∧z<(T:Int))∧s.dec z=none∧0≤(s.low z).r∧(s.low z).r+1≤E)→s.db.length+16*zs.length+1000≤1048576→Sm n T E i (zs.foldl Site.cK s)∧iG n i s (zs.foldl Site.cK s) zs:=by
 intro zs
 induction zs generalizing s with
 |nil=>exact fun _ _ _=>⟨h,by simp,fun x=>by simp,fun x=>by simp,rfl,rfl,⟨Int.le_refl _,fun q h _=>h⟩,Site.dq.refl s,by simp,fun P=>by simp⟩
 |cons z zs ih=>
  intro om hz hroom
  obtain⟨d1,d2⟩:=nodup_cons.1 om
  obtain⟨z1,z3,z4⟩:=hz z (by simp)
  rw[length_cons]at hroom
  obtain⟨a1,a2⟩:=h.VF (by omega) z1 z3 z4
  obtain⟨u,hu⟩:=bk (s.cK z)
  rw[foldl_cons,hu]
  rw[hu]at a1 a2
  have hne:∀y∈zs,y≠z:=fun y hy e=>d1 (e▸hy)
  have hst:∀y∈zs,u.stat y=s.stat y:=fun y hy=>by rw[a2.st,if_neg (by simpa using hne y hy)]
  have bZ:∀y∈zs,aD y u.rs=aD y s.rs:=fun y hy=>by rw[a2.rs,if_neg (by simpa using hne y hy)]
  have jP:∀y∈zs,u.low y=s.low y:=fun y hy=>by unfold Site.low;rw[bZ y hy,hst y hy]
  have ca:u.me=s.me:=a2.gj.me
  have VH:∀y∈zs,u.nb y=s.nb y:=fun y hy=>by unfold Site.nb;rw[jP y hy,ca]
  have pO:=a2.db
  rw[length_singleton]at pO
  obtain⟨b1,b2⟩:=ih a1 d2 (fun y hy=>by
   obtain⟨y1,y3,y4⟩:=hz y (by simp[hy])
   rw[jP y hy]
   exact⟨y1,by unfold Site.dec at y3 ⊢;rw[a2.lv];exact y3,y4⟩) (by omega)
  refine⟨b1,?_,fun x=>?_,fun x=>?_,b2.lv.trans a2.lv,b2.nx.trans a2.nx,⟨by have:=a2.top.1;have:=b2.top.1;omega,fun q h1 h2=>b2.top.2 q (a2.top.2 q h1 fun y hy=>h2 y (by simp at hy;simp[hy])) fun y hy=>h2 y (by simp[hy])⟩,a2.gj.trans b2.gj,by have:=b2.db;rw[length_cons];omega,fun P=>?_⟩
  ·rw[b2.held,a2.held]
   simp only[flatMap_cons,flatMap_nil,append_nil]
   rw[append_assoc]
   congr 2
   refine pY fun y hy=>?_
   rw[VH y hy]
   have e1:u.tell (Site.gF y (s.nb y)) n=s.tell (Site.gF y (s.nb y)) n:=by unfold Site.tell;rw[ca]
   have e2:u.answer y (s.nb y)=s.answer y (s.nb y):=by unfold Site.answer;rw[hst y hy]
   rw[e1,e2]
  ·rw[b2.st,a2.st]
   by_cases c:x∈zs
   ·rw[if_pos c,if_neg (by simpa using hne x c),if_pos (by simp[c]),VH x c]
   ·rw[if_neg c]
    by_cases c2:x=z
    ·subst c2
     rw[if_pos (by simp),if_pos (by simp)]
    ·rw[if_neg (by simpa using c2),if_neg (by simp[c,c2])]
  ·rw[b2.rs,a2.rs]
   by_cases c:x∈zs
   ·rw[if_pos c,if_pos (by simp[c]),VH x c]
   ·rw[if_neg c]
    by_cases c2:x=z
    ·subst c2
     rw[if_pos (by simp),if_pos (by simp)]
    ·rw[if_neg (by simpa using c2),if_neg (by simp[c,c2])]
  ·have q1:=a2.tok P
   have q2:=b2.tok P
   simp only[map_cons,map_nil,sum_cons,sum_nil]at q1 ⊢
   omega
end Sm
theorem yh{n:Nat}(h3:3≤n)(h7:n≤7)(x:Int):fN [x] n=false:=by
 unfold fN
 rw[if_neg (by omega)]
 refine decide_eq_false ?_
 have h1:(dE [x] (n:Int)).length≤1:=by
  rw[show([x]:List Int)= []++[x]from rfl,oL]
  split
  ·show(gb x (.agg #[]) (dE [] (n:Int))).length≤1
   exact Nat.le_refl _
  ·exact Nat.zero_le _
 unfold mW
 rw[if_neg (by omega)]
 omega
theorem Pw.BG{n i:Nat}(P:Pw n i):∀(ys:List Nat)(v:Site),P.tok (v.fl ys)≤P.tok v
 |[],v=>Nat.le_refl _
 |y::ys,v=>by
  have e:v.fl (y::ys)=(v.aX (y:Int) []).fl ys:=by unfold Site.fl;rw[foldl_cons]
  rw[e]
  refine Nat.le_trans (Pw.BG P ys _) ?_
  unfold Site.aX
  split
  ·exact kI _ _ _
  ·exact Nat.le_refl _
def Site.BH(s:Site)(z:Int):Pm:=⟨(s.me:Int),(s.stat z).so,(s.stat z).at_,(s.stat z).b⟩
structure iQ(n T E i:Nat)(s v w:Site)(zs:List Int):Prop where
 sm:Sm n T E i w
 rs:∀x,aD x w.rs=if x∈zs∧aD x v.rs≠none then some ⟨s.nb x,[s.BH x],false,[],[],0⟩else aD x v.rs
 same:w= {v with rs:=w.rs}
 tok:∀P:Pw n i,P.tok w≤P.tok v
namespace Sm
variable {n T E i:Nat} {s t u v:Site}
theorem Pv(h:Sm n T E i v){z:Int}(hz:0≤z∧z<T)(hsb:(s.stat z).b.length≤3)(ca:s.me=i)(hv:aD z v.rs=none∨aD z v.rs=some ⟨s.nb z,[],false,[],[],0⟩)(h1:1≤(s.nb z).r) :
  iQ n T E i s v (v.take ((s.answer z (s.nb z)).ad i i)) [z]:=by
 have h3:=h.n3;have h7:=h.n7;have hn:=h.nn
 have e0:v.take ((s.answer z (s.nb z)).ad i i)=v.bT ((s.answer z (s.nb z)).ad i i):=by
  unfold Site.take
  rw[if_neg (by simp[Site.answer,Ms.ad])]
  unfold Site.ct
  simp[Site.answer,Ms.ad]
 rw[e0]
 rcases hv with hv|hv
 ·have e:v.bT ((s.answer z (s.nb z)).ad i i)=v:=by
   unfold Site.bT
   rw[show((s.answer z (s.nb z)).ad i i).slot=z from rfl,hv]
  rw[e]
  refine⟨h,fun x=>?_,rfl,fun P=>Nat.le_refl _⟩
  by_cases c:x=z
  ·subst c;rw[if_neg (by simp[hv])]
  ·rw[if_neg (by simp[c])]
 ·obtain⟨R,hR⟩:∃R:Rn,R=⟨s.nb z,[s.BH z],false,[],[],0⟩:=⟨_,rfl⟩
  have hch:dM [s.BH z] v.n=none:=by
   unfold dM
   rw[hn]
   have:fN ([s.BH z].map Pm.f) (n:Int)=false:=yh h3 h7 _
   rw[this];rfl
  have e:v.bT ((s.answer z (s.nb z)).ad i i)= {v with rs:=aT z R v.rs}:=by
   unfold Site.bT
   rw[show((s.answer z (s.nb z)).ad i i).slot=z from rfl,hv]
   dsimp only
   rw[if_pos ⟨rfl,rfl⟩,nil_append]
   have pR:(⟨((s.answer z (s.nb z)).ad i i).aR,((s.answer z (s.nb z)).ad i i).some_,((s.answer z (s.nb z)).ad i i).had,((s.answer z (s.nb z)).ad i i).val⟩:Pm)=s.BH z:=by
    unfold Site.BH
    rw[ca];rfl
   rw[pR,hch]
   dsimp only
   rw[hR]
  rw[e]
  have hr:=h.rs z _ hv
  have Mk:iJ n T E v z R:=by
   rw[hR]
   refine⟨hr.x0,hr.dec,hr.nz,hr.bs,hr.br,hr.low,by simp,fun q hq=>?_,fun _=>⟨h1,rfl,yh h3 h7 _⟩,fun e=>(by cases e)⟩
   have hq:q∈[s.BH z]:=hq
   rw[mem_singleton]at hq;subst hq;exact hsb
  refine⟨h.fH Mk,fun x=>?_,rfl,fun P=>?_⟩
  ·show aD x (aT z R v.rs)=_
   rw[cO]
   by_cases c:z=x
   ·subst c;rw[if_pos rfl,if_pos (by simp[hv]),hR]
   ·rw[if_neg c,if_neg (by simp;intro e;exact absurd e.symm c)]
  ·unfold Pw.tok
   show ja _ (aT z R v.rs)≤_
   rw[lx,ly _ h.kz hv,hR]
   exact Nat.le_refl _
theorem BI:∀(zs:List Int)(v:Site),Sm n T E i v→s.me=i→zs.Nodup→(∀z∈zs,(0≤z∧z<T)∧(s.stat z).b.length≤3∧(aD z v.rs=none∨aD z v.rs=some ⟨s.nb z,[],false,[],[],0⟩)∧1≤(s.nb z).r)→
  iQ n T E i s v ((zs.map fun z=>(s.answer z (s.nb z)).ad i i).foldl Site.take v) zs
 |[],v,h,_,_,_=>⟨h,fun x=>by simp,rfl,fun P=>Nat.le_refl _⟩
 |z::zs,v,h,ca,om,hz=>by
  obtain⟨d1,d2⟩:=nodup_cons.1 om
  obtain⟨z1,z2,z3,z4⟩:=hz z (by simp)
  have a:=h.Pv (s:=s) z1 z2 ca z3 z4
  rw[map_cons,foldl_cons]
  obtain⟨u,hu⟩:=bk (v.take ((s.answer z (s.nb z)).ad i i))
  rw[hu]at a ⊢
  have hne:∀y∈zs,y≠z:=fun y hy e=>d1 (e▸hy)
  have bZ:∀y∈zs,aD y u.rs=aD y v.rs:=fun y hy=>by rw[a.rs,if_neg (by simp[hne y hy])]
  have b:=BI zs u a.sm ca d2 fun y hy=>by rw[bZ y hy];exact hz y (by simp[hy])
  refine⟨b.sm,fun x=>?_,?_,fun P=>Nat.le_trans (b.tok P) (a.tok P)⟩
  ·rw[b.rs]
   by_cases c:x∈zs
   ·rw[bZ x c]
    by_cases c2:aD x v.rs=none
    ·rw[if_neg (by simp[c2]),if_neg (by simp[c2])]
    ·rw[if_pos ⟨c,c2⟩,if_pos ⟨by simp[c],c2⟩]
   ·rw[if_neg (by simp[c]),a.rs]
    by_cases c2:x=z
    ·subst c2
     by_cases c3:aD x v.rs=none
     ·rw[if_neg (by simp[c3]),if_neg (by simp[c3])]
     ·rw[if_pos ⟨by simp,c3⟩,if_pos ⟨by simp,c3⟩]
    ·rw[if_neg (by simp[c2]),if_neg (by simp[c,c2])]
  ·have e1:=a.same;have e2:=b.same
   obtain⟨w,hw⟩:=bk ((zs.map fun z=>(s.answer z (s.nb z)).ad i i).foldl Site.take u)
   rw[hw]at e2 ⊢
   obtain⟨X,hX⟩:=bk w.rs
   rw[hX]at e2 ⊢
   exact e2.trans (by rw[e1])
end Sm
def Rn.ie(r:Rn):Rn:={r with cV:=r.cV+1}
theorem Im{α:Type}(f:α→α)(M:AL α)(h:M.Pairwise fun a b=>a.1<b.1):(cD f M).Pairwise fun a b=>a.1<b.1:=by
 unfold cD
 exact pairwise_map.2 (h.imp fun h=>h)
theorem Pw.Io{n i:Nat}(P:Pw n i)(s t:Site)(h:t.rs=cD Rn.ie s.rs):P.tok t=P.tok s:=by
 unfold Pw.tok
 rw[h]
 unfold ja cD
 rw[map_map]
 rfl
def Site.base(s:Site)(i:Nat)(ys:List Nat)(x:Int):Sp:=if ∃y∈ys,(y:Int)=x then⟨⟨0,(i:Int)⟩,true,⟨0,(i:Int)⟩,[]⟩else s.stat x
structure Tk(n T E i:Nat)(s t:Site)(out:List Ms)(ys:List Nat)(zs:List Int)(b:Int→Bl)(f:Nat):Prop where
 sm:Sm n T E i t
 held:t.held= []
 ynd:ys.Nodup
 iR:∀y∈ys,(y:Int)<s.bF∧y % n=i∧s.fresh (y:Int)=true
 iW:zs.Nodup
 zl:zs.length≤8
 BJ:∀z∈zs,0≤z∧z<s.bF∧s.dec z=none∧(b z).s=(i:Int)∧1≤(b z).r
 zb:∀z∈zs,((b z).r=(s.base i ys z).p.r+1∨∃r,aD z s.rs=some r∧(b z).r=r.aC.r+1)∧(s.base i ys z).p.r<(b z).r∧∀r,aD z s.rs=some r→r.aC.r<(b z).r
 outs:out=((s.rs.take 8).flatMap fun e=>s.tell (Site.asks e.2 e.1) n)++(ys.flatMap fun(y:Nat)=>s.tell (Site.bt y ⟨0,(i:Int)⟩) n)++(zs.flatMap fun z=>s.tell (Site.gF z (b z)) n)++(if f<4096 then s.tell (Site.dT f (decide ((f:Int)<s.bF))) n else[])
 VI:f=s.front
 late:zs=s.ck.late s.ck.bF
 fry:jh n T i t+ys.length≤jh n T i s
 tJ:(∀c:Nat,c<n→(cC s.me s.wt s.n).getD c 0≤2)→∀z∈zs,bK z n=(i:Int)∧(s.fresh z=false∨∃y∈ys,(y:Int)=z)
 adn:(∀c:Nat,c<n→(cC s.me s.wt s.n).getD c 0≤2)→∀x:Int,bK x n=(i:Int)→s.dec x=none→s.fresh x=false→(s.front:Int)≤x→x<s.bF→(∀r,aD x s.rs=some r→2≤r.cV)→x∈zs
 dec:∀x,t.dec x=if ∃y∈ys,(y:Int)=x then some []else s.dec x
 st:∀x,t.stat x=if x∈zs then {s.base i ys x with p:=b x}else s.base i ys x
 rs:∀x,aD x t.rs=if ∃y∈ys,(y:Int)=x then none else if x∈zs then some ⟨b x,[⟨(i:Int),(s.stat x).so,(s.stat x).at_,(s.stat x).b⟩],false,[],[],0⟩ else(aD x s.rs).map Rn.ie
 own:∀k:Nat,k % n=i→(k:Int)<s.bF→t.fresh (k:Int)=false
 fr:∀x,s.fresh x=false→t.fresh x=false
 gj:t.wt=cC s.me s.wt s.n∧t.taken=s.taken
 top:s.top≤t.top∧t.bF=s.bF
 db:t.db.length≤s.db.length+16*(ys.length+zs.length)
 tok:∀P:Pw n i,P.pt T t+P.φ*ys.length≤P.pt T s+(zs.map fun z=>if P.A z then P.tF else 0).sum
namespace Sm
variable {n T E i:Nat} {s t u v:Site}
theorem lO(h:Sm n T E i s):0≤s.bF∧s.bF≤T:=by
 have h1:=h.top
 have h2:=(ov s.lv).2 T (by omega) fun p hp=>by
  obtain⟨w,hw⟩:=fG (fun hn:aD p.1 s.lv=none=>kb.1 hn p hp rfl)
  have:=(h.lv p.1 w hw).2.1;omega
 unfold Site.bF
 omega
theorem VJ(h:Sm n T E i s)(w:List Int)(hw:w.length=7)(hh:s.held= []):Sm n T E i {s with wt:=w,rs:=cD Rn.ie s.rs,held:=(s.rs.take 8).flatMap fun e=>s.tell (Site.asks e.2 e.1) n}:=by
 have hs:=Im Rn.ie s.rs h.kz
 refine⟨h.me,h.nn,h.lt,h.n3,h.n7,h.T6,h.E1,h.pat,h.up,h.nx,hw,h.st,h.lv,fun x r hr=>?_,qy hs,hs,h.used,h.top,fun m hm=>?_⟩
 ·have hr:aD x (cD Rn.ie s.rs)=some r:=hr
  rw[eB]at hr
  obtain⟨r0,h0,rfl⟩:=Option.map_eq_some_iff.1 hr
  obtain⟨a1,a2,a3,a4,a5,a6,a7,a8,a9,VK⟩:=h.rs x r0 h0
  exact⟨a1,a2,a3,a4,a5,a6,a7,a8,a9,VK⟩
 ·obtain⟨e,he,hm⟩:=mem_flatMap.1 hm
  obtain⟨c,c1,c2,rfl⟩:=Site.dH.1 hm
  have hr:=h.rs e.1 e.2 (h.mb e (mem_of_mem_take he))
  refine cj.ad ?_ _ _
  have h1:=hr.x0;have h2:=hr.br;have h3:=hr.b
  unfold Site.asks
  split
  ·exact⟨fun _=>h1.2,h2.2,h2.2,h3⟩
  ·exact⟨fun _=>h1.2,h2.2,by show(0:Int)≤E;omega,by simp⟩
theorem yi(s:Site)(i n:Nat)(ca:s.me=i)(g:Int→Ms)(a:Int→Ms):∀zs:List Int,
  ((zs.flatMap fun z=>s.tell (g z) n++[(a z).ad i i]).filter fun m=>decide (m.to=(i:Int)))=zs.map (fun z=>(a z).ad i i)∧
  ((zs.flatMap fun z=>s.tell (g z) n++[(a z).ad i i]).filter fun m=>decide (m.to≠(i:Int)))=zs.flatMap fun z=>s.tell (g z) n
 |[]=>⟨rfl,rfl⟩
 |z::zs=>by
  obtain⟨a1,a2⟩:=yi s i n ca g a zs
  have ht:∀m∈s.tell (g z) n,m.to≠(i:Int):=fun m hm=>by
   obtain⟨c,c1,c2,rfl⟩:=Site.dH.1 hm
   show(c:Int)≠_;omega
  constructor
  ·rw[flatMap_cons,filter_append,filter_append,a1,filter_eq_nil_iff.2 fun m hm hd=>ht m hm (of_decide_eq_true hd)]
   simp[Ms.ad]
  ·rw[flatMap_cons,filter_append,filter_append,a2,filter_eq_self.2 fun m hm=>dJ (ht m hm)]
   simp[Ms.ad]
theorem kK{l:List Ms}{i:Nat}(h:∀m∈l,m.to≠(i:Int)):(l.filter fun m=>decide (m.to=(i:Int)))= []∧(l.filter fun m=>decide (m.to≠(i:Int)))=l:=
 ⟨filter_eq_nil_iff.2 fun m hm hd=>h m hm (of_decide_eq_true hd),filter_eq_self.2 fun m hm=>dJ (h m hm)⟩
theorem BK{s:Site}{i n:Nat}(ca:s.me=i){m m':Ms}(h:m'∈s.tell m n):m'.to≠(i:Int):=by
 obtain⟨c,c1,c2,rfl⟩:=Site.dH.1 h
 show(c:Int)≠_;omega
theorem tick(h:Sm n T E i s){E':Nat}(eI:E≤E')(hh:s.held= [])(hE:E'≤126)(xp:∀x,0≤(s.stat x).p.r)(dF:∀x∈s.ck.late s.ck.bF,(s.stat x).p.r+1≤E')(hroom:s.db.length+2000≤1048576) :
  ∃t out ys zs b f,s.tick.sync=(t,out)∧Tk n T E' i s t out ys zs b f:=by
 have hT:=h.T6;have h7:=h.n7;have h3:=h.n3;have hlt:=h.lt;have hn:=h.nn;have ca:=h.me;have uG:=h.nx
 obtain⟨A0,A1⟩:=h.lO
 obtain⟨tg,sw⟩:∃tg:Nat,s.bF=(tg:Int):=⟨s.bF.toNat,by omega⟩
 obtain⟨w1,dC⟩:∃w1,w1=cC s.me s.wt s.n:=⟨_,rfl⟩
 obtain⟨A,hA⟩:∃A,A=(s.rs.take 8).flatMap fun e=>s.tell (Site.asks e.2 e.1) n:=⟨_,rfl⟩
 obtain⟨s1,hs1⟩:∃s1,s1=({s with wt:=w1,rs:=cD Rn.ie s.rs,held:=A} :Site):=⟨_,rfl⟩
 have VL:s.ju=s1:=by
  unfold Site.ju Site.again
  rw[Site.rW]
  subst dC hA hs1
  show({s with wt:=cC s.me s.wt s.n,rs:=cD Rn.ie s.rs,held:=s.held++(s.rs.take 8).flatMap fun e=>s.tell (Site.asks e.2 e.1) s.n} :Site)=_
  rw[hh,nil_append,←hn]
 have h1:Sm n T E i s1:=by
  rw[hs1,hA]
  exact h.VJ w1 (by rw[dC,rm];exact h.pM) hh
 have xq:∀x,s1.dec x=s.dec x:=fun x=>by rw[hs1];rfl
 have Ed:∀x,s1.stat x=s.stat x:=fun x=>by rw[hs1];rfl
 have qA:∀x,s1.fresh x=s.fresh x:=fun x=>by rw[hs1];rfl
 have fR:∀x,aD x s1.rs=(aD x s.rs).map Rn.ie:=fun x=>by rw[hs1];exact eB _ _ _
 have Px:s1.bF=(tg:Int):=by rw[←sw,hs1];rfl
 have jX:=h1.nn;have pC:=h1.me;have ado:=h1.nx
 have yj:s1.db=s.db:=by rw[hs1]
 obtain⟨ys,hs,hlen⟩:=Site.mI tg (by omega) 4098 0 s1 (by omega) (by omega) (by omega) (by omega) (by omega) (by omega) (by rw[yj];omega) (fun y _ _=>by omega)
 have nF:=(cG 4098 0 s1 (tg:Int) h1 (by omega)).pd (E':=E') eI hE
 have xr:s.ck=Site.cG 4098 0 s1 (tg:Int):=by
  show s.ju.skip s.ju.bF=_
  rw[VL,Px];rfl
 obtain⟨s3,hs3⟩:=bk (Site.cG 4098 0 s1 (tg:Int))
 rw[hs3]at hs nF xr
 have oj:s1.bQ=⟨0,(i:Int)⟩:=by unfold Site.bQ;rw[pC]
 have jf:=hs.held
 rw[oj,jX,pC]at jf
 have hbase:∀x,s3.stat x=s.base i ys x:=fun x=>by
  rw[hs.st]
  unfold Site.base Site.ou
  rw[oj,Ed]
 have pe:∀x,s3.dec x=s.dec x:=fun x=>by rw[←xq];unfold Site.dec;rw[hs.lv]
 have pD:s3.me=i:=nF.me
 have Ee:s3.lv=s.lv:=by rw[hs.lv,hs1]
 have rn:s.top≤s3.top∧s3.bF=(tg:Int):=by
  have q1:=hs.top
  have q2:s1.top=s.top:=by rw[hs1]
  rw[q2]at q1
  refine⟨q1.1,?_⟩
  unfold Site.bF at sw ⊢
  rw[Ee]
  omega
 have hown:∀y∈ys,y<tg∧y % n=i∧s.fresh (y:Int)=true:=fun y hy=>by
  obtain⟨k1,k2,k3,k4,k5⟩:=hs.own y hy
  rw[jX,pC]at k1
  rw[qA]at k5
  exact⟨k3,k1,k5⟩
 obtain⟨zs,hzs⟩:=bk (s3.late s3.bF)
 have Ml:zs.length≤8:=by rw[←hzs];unfold Site.late;rw[length_take];omega
 have AG:zs.Nodup:=by
  rw[←hzs]
  unfold Site.late
  have om:((range' s3.front (s3.bF.toNat-s3.front)).map fun(i:Nat)=>(i:Int)).Nodup:=pairwise_map.2 ((nodup_range' (s:=s3.front) (n:=s3.bF.toNat-s3.front)).imp fun pP he=>pP (by omega))
  exact om.sublist ((take_sublist _ _).trans filter_sublist)
 have yk:∀z∈zs,0≤z∧z<(tg:Int)∧s.dec z=none:=fun z hz=>by
  have mc:=hz
  rw[←hzs]at hz
  have q1:=Site.sE _ hz
  rw[rn.2]at q1
  refine⟨q1.1,q1.2,?_⟩
  have q2:=(mem_filter.1 (mem_of_mem_take hz)).2
  unfold Site.due at q2
  rw[Bool.and_eq_true,Bool.and_eq_true]at q2
  have q3:=q2.1.1
  rw[pe]at q3
  cases hc:s.dec z with
  |none=>rfl
  |some w=>rw[hc]at q3;cases q3
 have jP:∀z,0≤(s3.low z).r∧(z∈zs→(s3.low z).r+1≤E'):=fun z=>by
  have ee:=xp z
  have hb1:0≤(s3.stat z).p.r∧(s3.stat z).p.r≤(s.stat z).p.r:=by
   rw[hbase]
   unfold Site.base
   split
   ·show(0:Int)≤0∧(0:Int)≤_;omega
   ·omega
  rcases(s3.sD z).2 with e|⟨r,hr,e⟩
  ·rw[e]
   exact⟨hb1.1,fun hd=>by have:=dF z (by rw[xr,hzs];exact hd);omega⟩
  ·rw[e]
   rw[hs.rs]at hr
   have q1:=h1.rs z r hr
   have q2:=q1.low
   rw[Ed]at q2
   have q3:¬ (s.stat z).p.r<r.aC.r:=fun hl=>q2 (by unfold Bl.lt;omega)
   exact⟨q1.br.1,fun hd=>by have:=dF z (by rw[xr,hzs];exact hd);omega⟩
 have adp:s3.db.length≤s.db.length+16*ys.length:=by rw[←yj];exact hs.db
 obtain⟨jQ,fb⟩:=nF.nC zs AG (fun z hz=>by
  obtain⟨q1,q2,q3⟩:=yk z hz
  exact⟨⟨q1,by omega⟩,by rw[pe];exact q3,(jP z).1,(jP z).2 hz⟩) (by omega)
 have BL:s.gX=zs.foldl Site.cK s3:=by
  show(s.ck.late s.ck.bF).foldl Site.cK s.ck=_
  rw[xr,hzs]
 obtain⟨s4,yR⟩:=bk (zs.foldl Site.cK s3)
 rw[yR]at jQ fb BL
 have Ef:s4.me=i:=jQ.me
 have VM:s4.n=n:=jQ.nn
 have adq:s4.front=s.front:=by
  unfold Site.front
  rw[fb.lv,Ee,fb.gj.taken,hs.gj.taken,hs1]
 obtain⟨K,hK⟩:∃K,K=(if s.front<4096 then s.tell (Site.dT s.front (decide ((s.front:Int)<s.bF))) n else[]):=⟨_,rfl⟩
 have Eg:∀(u:Site)(m:Ms),u.me=i→u.tell m n=s.tell m n:=fun u m hu=>by unfold Site.tell;rw[hu,ca]
 have JR:s.tick= {s4 with held:=s4.held++K}:=by
  rw[Site.qi _ h.up,BL,adq,xr,rn.2,hK]
  by_cases c:s.front<4096
  ·rw[if_pos c,if_pos c,Site.bH,VM,Eg s4 _ Ef,sw]
  ·rw[if_neg c,if_neg c,append_nil]
 have jb:∀m∈K,m.to≠(i:Int):=fun m hm=>by
  rw[hK]at hm
  split at hm
  ·exact BK ca hm
  ·cases hm
 have jc:∀m∈A,m.to≠(i:Int):=fun m hm=>by
  rw[hA]at hm
  obtain⟨e,he,hm⟩:=mem_flatMap.1 hm
  exact BK ca hm
 obtain⟨S,BM⟩:∃S,S=(ys.flatMap fun(y:Nat)=>s1.tell (Site.bt y ⟨0,(i:Int)⟩) n++[(Site.bt y ⟨0,(i:Int)⟩).ad i i]):=⟨_,rfl⟩
 obtain⟨B,Eh⟩:∃B,B=(zs.flatMap fun z=>s3.tell (Site.gF z (s3.nb z)) n++[(s3.answer z (s3.nb z)).ad i i]):=⟨_,rfl⟩
 have zh:s4.held=A++S++B:=by
  rw[fb.held,jf,BM,Eh]
  congr 2
  rw[hs1]
 obtain⟨b1,b2⟩:=yi s3 i n pD (fun z=>Site.gF z (s3.nb z)) (fun z=>s3.answer z (s3.nb z)) zs
 rw[←Eh]at b1 b2
 obtain⟨v0,hv0⟩:∃v0,v0=({s4 with dn:=s4.db.length,held:=[]} :Site):=⟨_,rfl⟩
 have yl:Sm n T E' i v0:=by rw[hv0];exact jQ.hold (fun m hm=>by cases hm) _
 obtain⟨c1,c2⟩:=Site.tz ys s1 v0 ⟨0,(i:Int)⟩ (fun y hy=>by obtain⟨k1,k2,k3⟩:=hown y hy;rw[yl.nn,yl.me];exact⟨by omega,k2⟩) (by rw[pC,yl.me]) (by rw[jX,yl.nn]) (by rw[yl.nn];omega) (by rw[yl.nn];exact h7)
 rw[jX,pC,←BM]at c1 c2
 obtain⟨v1,pJ⟩:=bk (v0.fl ys)
 have ads:Sm n T E' i v1:=by rw[←pJ];exact fl ys v0 yl (fun y hy=>by have:=(hown y hy).1;omega)
 have VN:∀x,v0.dec x=s.dec x:=fun x=>by rw[←pe];unfold Site.dec;rw[hv0];show aD x s4.lv=_;rw[fb.lv]
 have hD:=Site.vg ys v0 (fun y hy=>⟨by have:=(hown y hy).1;omega,.inl (by rw[VN];exact(Site.bo.1 (hown y hy).2.2).1)⟩)
 rw[pJ]at hD
 have VO:∀x,aD x v0.rs=if x∈zs then some ⟨s3.nb x,[],false,[],[],0⟩ else(aD x s.rs).map Rn.ie:=fun x=>by
  rw[hv0]
  show aD x s4.rs=_
  rw[fb.rs,hs.rs,fR]
 have Py:∀z,1≤(s3.nb z).r:=fun z=>by
  have:=(jP z).1
  show 1≤(s3.low z).r+1
  omega
 have qB:=BI (s:=s3) zs v1 ads pD AG (fun z hz=>by
  obtain⟨q1,q2,q3⟩:=yk z hz
  refine⟨⟨q1,by omega⟩,(nF.st z).2.2.1,?_,Py z⟩
  by_cases c:∃y∈ys,(y:Int)=z
  ·exact .inl (hD.at_ z c).2
  ·right
   rw[(hD.off z c).2,VO,if_pos hz])
 obtain⟨t,ht⟩:=bk ((zs.map fun z=>(s3.answer z (s3.nb z)).ad i i).foldl Site.take v1)
 rw[ht]at qB
 have JP:s.tick.sync=(t,A++(ys.flatMap fun(y:Nat)=>s1.tell (Site.bt y ⟨0,(i:Int)⟩) n)++(zs.flatMap fun z=>s3.tell (Site.gF z (s3.nb z)) n)++K):=by
  rw[JR]
  unfold Site.sync
  rw[if_neg (by show ¬ s4.down=true;rw[jQ.up];simp)]
  show(((s4.held++K).filter fun m=>decide (m.to=(s4.me:Int))).foldl Site.take ({({s4 with held:=s4.held++K} :Site)with dn:=s4.db.length,held:=[]}),(s4.held++K).filter fun m=>decide (m.to≠(s4.me:Int)))=_
  have e0:({({s4 with held:=s4.held++K} :Site)with dn:=s4.db.length,held:=[]} :Site)=v0:=by rw[hv0]
  rw[e0,Ef,zh]
  have f1:(A++S++B++K).filter (fun m=>decide (m.to=(i:Int)))=S.filter (fun m=>decide (m.to=(i:Int)))++zs.map (fun z=>(s3.answer z (s3.nb z)).ad i i):=by
   rw[filter_append,filter_append,filter_append,(kK jc).1,(kK jb).1,b1,nil_append,append_nil]
  have f2:(A++S++B++K).filter (fun m=>decide (m.to≠(i:Int)))=A++(ys.flatMap fun(y:Nat)=>s1.tell (Site.bt y ⟨0,(i:Int)⟩) n)++(zs.flatMap fun z=>s3.tell (Site.gF z (s3.nb z)) n)++K:=by
   rw[filter_append,filter_append,filter_append,(kK jc).2,(kK jb).2,b2,c2]
  rw[f1,f2,foldl_append,c1,pJ,ht]
 have Ei:∀x,t.dec x=v1.dec x:=fun x=>by rw[qB.same];rfl
 have VP:∀x,t.stat x=s4.stat x:=fun x=>by
  have e1:t.stat x=v1.stat x:=by rw[qB.same];rfl
  rw[e1]
  unfold Site.stat
  rw[hD.st,hv0]
 have hdec:∀x,t.dec x=if ∃y∈ys,(y:Int)=x then some []else s.dec x:=fun x=>by
  rw[Ei]
  by_cases c:∃y∈ys,(y:Int)=x
  ·rw[if_pos c];exact(hD.at_ x c).1
  ·rw[if_neg c,(hD.off x c).1,VN]
 have hst:∀x,t.stat x=if x∈zs then {s.base i ys x with p:=s3.nb x}else s.base i ys x:=fun x=>by
  rw[VP,fb.st,hbase]
 have ij:∀x,s3.fresh x=false→t.fresh x=false:=fun x hx=>by
  cases hf:t.fresh x with
  |false=>rfl
  |true=>
   obtain⟨f1,f2⟩:=Site.bo.1 hf
   rw[hdec]at f1
   rw[VP,fb.st]at f2
   by_cases c:∃y∈ys,(y:Int)=x
   ·rw[if_pos c]at f1;cases f1
   ·rw[if_neg c]at f1
    by_cases c2:x∈zs
    ·rw[if_pos c2]at f2
     have:=Site.js f2
     have:=congrArg (fun z:Sp=>z.p.r) this
     have h1:=Py x
     simp[Sp.zero]at this;omega
    ·rw[if_neg c2]at f2
     rw[Site.bo.2 ⟨by rw[pe];exact f1,f2⟩]at hx;cases hx
 have hf3:∀x,s.fresh x=false→s3.fresh x=false:=fun x hx=>by
  cases hf:s3.fresh x with
  |false=>rfl
  |true=>
   obtain⟨f1,f2⟩:=Site.bo.1 hf
   rw[pe]at f1
   rw[hbase]at f2
   unfold Site.base at f2
   split at f2
   ·have:=Site.js f2
    have:=congrArg Sp.so this;simp[Sp.zero]at this
   ·rw[Site.bo.2 ⟨f1,f2⟩]at hx;cases hx
 have Iq:∀y∈ys,t.fresh (y:Int)=false:=fun y hy=>fx (by rw[hdec,if_pos ⟨y,hy,rfl⟩];simp)
 have RV:s3.pat=2:=nF.pat
 have adt:s3.wt=cC s.me s.wt s.n:=by rw[hs.gj.wt,hs1,dC]
 have uC:s3.n=n:=nF.nn
 have adu:(∀c:Nat,c<n→(cC s.me s.wt s.n).getD c 0≤2)→s3.tK= []:=fun hw=>by
  unfold Site.tK
  rw[map_eq_nil_iff,filter_eq_nil_iff]
  intro c hc hd
  have hc:=mem_range.1 hc
  have hd:=of_decide_eq_true hd
  rw[adt,RV]at hd
  have:=hw c (by omega)
  omega
 have VQ:(∀c:Nat,c<n→(cC s.me s.wt s.n).getD c 0≤2)→∀z,s3.due z=true→bK z n=(i:Int)∧s3.fresh z=false:=fun hw z hz=>by
  unfold Site.due at hz
  rw[Bool.and_eq_true,adu hw]at hz
  have h2:=hz.2
  simp only[contains_nil,Bool.and_false,Bool.or_false,Bool.and_eq_true,beq_iff_eq,Bool.not_eq_true']at h2
  rw[uC,pD]at h2
  exact h2
 have ZV:(∀c:Nat,c<n→(cC s.me s.wt s.n).getD c 0≤2)→∀z∈zs,bK z n=(i:Int)∧(s.fresh z=false∨∃y∈ys,(y:Int)=z):=fun hw z hz=>by
  have hz0:=hz
  rw[←hzs]at hz
  have q2:=(mem_filter.1 (mem_of_mem_take hz)).2
  obtain⟨q3,q4⟩:=VQ hw z q2
  refine⟨q3,?_⟩
  by_cases c:∃y∈ys,(y:Int)=z
  ·exact .inr c
  ·left
   cases hf:s.fresh z with
   |false=>rfl
   |true=>
    obtain⟨f1,f2⟩:=Site.bo.1 hf
    have e1:s3.stat z=s.stat z:=by rw[hbase];unfold Site.base;rw[if_neg c]
    rw[Site.bo.2 ⟨by rw[pe];exact f1,by rw[e1];exact f2⟩]at q4;cases q4
 have ZW:(∀c:Nat,c<n→(cC s.me s.wt s.n).getD c 0≤2)→∀x:Int,bK x n=(i:Int)→s.dec x=none→s.fresh x=false→(s.front:Int)≤x→x<s.bF→(∀r,aD x s.rs=some r→2≤r.cV)→x∈zs:=fun hw x ho hd hf h1 h2 hr=>by
  have adv:s3.front=s.front:=by unfold Site.front;rw[Ee,hs.gj.taken,hs1]
  obtain⟨F,hF⟩:=bk ((((range' s3.front (s3.bF.toNat - s3.front)).map fun(i:Nat)=>(i:Int)).filter s3.due))
  have adw:F.Nodup:=by
   rw[←hF]
   have om:((range' s3.front (s3.bF.toNat-s3.front)).map fun(i:Nat)=>(i:Int)).Nodup:=pairwise_map.2 ((nodup_range' (s:=s3.front) (n:=s3.bF.toNat-s3.front)).imp fun pP he=>pP (by omega))
   exact om.sublist filter_sublist
  have hF8:F.length≤6:=by
   have h6:F.length≤((List.range 6).map fun j=>((i+n*j:Nat):Int)).length:=by
    refine iZ adw fun y hy=>?_
    rw[←hF]at hy
    obtain⟨y1,y2⟩:=mem_filter.1 hy
    obtain⟨a,ha,rfl⟩:=mem_map.1 y1
    have ha:=mem_range'_1.1 ha
    rw[rn.2]at ha
    have q1:=(VQ hw _ y2).1
    rw[gW (by omega) (by omega) h7]at q1
    have q2:=Nat.mod_add_div a n
    have q3:a / n<6:=Nat.div_lt_of_lt_mul (by rw[Nat.mul_comm];omega)
    exact mem_map.2 ⟨a / n,mem_range.2 q3,by omega⟩
   simpa using h6
  have hz:zs=F:=by
   rw[←hzs]
   unfold Site.late
   rw[hF]
   exact take_of_length_le (by omega)
  rw[hz,←hF]
  refine mem_filter.2 ⟨mem_map.2 ⟨x.toNat,mem_range'_1.2 ?_,by omega⟩,?_⟩
  ·rw[adv,rn.2];omega
  ·have q4:s3.fresh x=false:=hf3 x hf
   have q5:s3.dec x=none:=by rw[pe];exact hd
   unfold Site.due
   rw[q5,q4,uC,pD,ho,RV,hs.rs,fR]
   cases hc:aD x s.rs with
   |none=>simp
   |some r=>
    have:=hr r hc
    have e:¬ ((Rn.ie r).cV≤2):=by show ¬ (r.cV+1≤2);omega
    simp[e]
 have VR:jh n T i t+ys.length≤jh n T i s:=mf (n:=n) (T:=T) (i:=i) (s:=s) (t:=t) (ys:=ys) (fun k hk=>by
  cases hf:s.fresh (k:Int) with
  |true=>rfl
  |false=>rw[ij _ (hf3 _ hf)]at hk;cases hk) hs.nodup (fun y hy=>⟨by have:=(hown y hy).1;omega,(hown y hy).2.1,(hown y hy).2.2,Iq y hy⟩)
 refine⟨t,_,ys,zs,s3.nb,s.front,JP,qB.sm,?_,hs.nodup,fun y hy=>?_,AG,Ml,fun z hz=>?_,fun z hz=>?_,?_,rfl,by rw[xr,hzs],VR,ZV,ZW,hdec,hst,fun x=>?_,fun k hk fZ=>?_,fun x hx=>ij x (hf3 x hx),?_,?_,?_,fun P=>?_⟩
 ·rw[qB.same]
  show v1.held= []
  rw[hD.held,hv0]
 ·obtain⟨k1,k2,k3⟩:=hown y hy
  exact⟨by rw[sw];omega,k2,k3⟩
 ·obtain⟨q1,q2,q3⟩:=yk z hz
  exact⟨q1,by rw[sw];exact q2,q3,by show(s3.me:Int)=_;rw[pD],Py z⟩
 ·have q1:=s3.sD z
  have q2:(s3.nb z).r=(s3.low z).r+1:=rfl
  rw[hbase]at q1
  have q3:¬ (s3.low z).r<(s.base i ys z).p.r:=fun hl=>q1.1 (by unfold Bl.lt;omega)
  have q4:∀r,aD z s.rs=some r→aD z s3.rs=some (Rn.ie r):=fun r hr=>by rw[hs.rs,fR,hr];rfl
  refine⟨?_,by omega,fun r hr=>?_⟩
  ·rcases q1.2 with e|⟨r,hr,e⟩
   ·left;rw[q2,e]
   ·right
    rw[hs.rs,fR]at hr
    obtain⟨r0,h0,rfl⟩:=Option.map_eq_some_iff.1 hr
    exact⟨r0,h0,by rw[q2,e];rfl⟩
  ·have q5:=s3.TD z (q4 r hr)
   have q6:¬ (s3.low z).r<(Rn.ie r).aC.r:=fun hl=>q5 (by unfold Bl.lt;omega)
   have q7:(Rn.ie r).aC.r=r.aC.r:=rfl
   omega
 ·rw[←hA,←hK]
  congr 2
  ·congr 1
   exact pY fun y _=>Eg s1 _ pC
  ·exact pY fun z _=>Eg s3 _ pD
 ·rw[qB.rs]
  by_cases c:∃y∈ys,(y:Int)=x
  ·rw[if_pos c,if_neg (by rw[(hD.at_ x c).2];simp),(hD.at_ x c).2]
  ·rw[if_neg c,(hD.off x c).2,VO]
   by_cases c2:x∈zs
   ·rw[if_pos c2,if_pos ⟨c2,by simp⟩,if_pos c2]
    have e1:s3.stat x=s.stat x:=by rw[hbase];unfold Site.base;rw[if_neg c]
    unfold Site.BH
    rw[e1,pD]
   ·rw[if_neg c2,if_neg (by simp[c2]),if_neg c2]
 ·refine ij _ ?_
  by_cases c:k<s1.nx
  ·exact hf3 _ (by rw[←qA];exact h1.used k hk c)
  ·exact hs.all k (by rw[jX,pC];exact hk) (by omega) (by omega) (by omega)
 ·have e1:t.wt=v1.wt∧t.taken=v1.taken:=by rw[qB.same];exact⟨rfl,rfl⟩
  have e2:v0.wt=s4.wt∧v0.taken=s4.taken:=by rw[hv0];exact⟨rfl,rfl⟩
  have e3:s1.wt=w1∧s1.taken=s.taken:=by rw[hs1];exact⟨rfl,rfl⟩
  rw[e1.1,e1.2,hD.gj.wt,hD.gj.taken,e2.1,e2.2,fb.gj.wt,fb.gj.taken,hs.gj.wt,hs.gj.taken,e3.1,e3.2,dC]
  exact⟨rfl,rfl⟩
 ·have e1:t.top=s4.top:=by
   have e1:t.top=v1.top:=by rw[qB.same]
   rw[e1,hD.top];subst hv0;rfl
  have e2:=fb.top
  have e3:=rn
  have hle:t.top≤(tg:Int):=by
   rw[e1]
   refine e2.2 _ ?_ fun z hz=>by have:=(yk z hz).2.1;omega
   have:=e3.2
   unfold Site.bF at this;omega
  refine⟨by rw[e1];omega,?_⟩
  have q1:eT t.lv≤(tg:Int):=by
   refine(ov t.lv).2 _ (by omega) fun p hp=>?_
   obtain⟨w,hw⟩:=fG (fun hn:aD p.1 t.lv=none=>kb.1 hn p hp rfl)
   have hw:t.dec p.1=some w:=hw
   rw[hdec]at hw
   by_cases c:∃y∈ys,(y:Int)=p.1
   ·obtain⟨y,hy,e⟩:=c
    have:=(hown y hy).1;omega
   ·rw[if_neg c]at hw
    obtain⟨e,he,e4⟩:=Site.AB (s:=s) (x:=p.1) (by rw[hw];simp)
    have:=(ov s.lv).1 e he
    unfold Site.bF at sw;omega
  have q2:eT s.lv≤max t.top (eT t.lv):=by
   refine(ov s.lv).2 _ (by have:=qB.sm.top;omega) fun p hp=>?_
   obtain⟨w,hw⟩:=fG (fun hn:aD p.1 s.lv=none=>kb.1 hn p hp rfl)
   have hw:s.dec p.1=some w:=hw
   have hw2:t.dec p.1≠none:=by
    rw[hdec];split
    ·simp
    ·rw[hw];simp
   obtain⟨e,he,e4⟩:=Site.AB hw2
   have:=(ov t.lv).1 e he
   omega
  unfold Site.bF at sw ⊢
  omega
 ·have e1:t.db=s4.db:=by
   have e1:t.db=v1.db:=by rw[qB.same]
   rw[e1,hD.db];subst hv0;rfl
  rw[e1]
  have:=fb.db
  omega
 ·have q1:=qB.tok P
  have q2:=P.BG ys v0
  rw[pJ]at q2
  have q3:P.tok v0=P.tok s4:=P.vn (by rw[hv0])
  have q4:=fb.tok P
  have q5:P.tok s3=P.tok s1:=P.vn hs.rs
  have q6:P.tok s1=P.tok s:=P.Io s s1 (by rw[hs1])
  have q8:=Nat.mul_le_mul_left P.φ VR
  rw[Nat.mul_add]at q8
  unfold Pw.pt
  omega
end Sm
def Wd.told(w:Wd)(i:Nat):List Ms:=match w.ss[i]? with
 |some s=>s.tick.sync.2
 |none=>[]
def Wd.outs(w:Wd)(j:Nat):List Ms:=(List.range j).flatMap w.told
theorem Wd.BN(w:Wd)(j:Nat):w.outs (j+1)=w.outs j++w.told j:=by
 unfold Wd.outs
 rw[range_succ,flatMap_append,flatMap_cons,flatMap_nil,append_nil]
theorem Wd.qC(w:Wd):∀j,j≤w.ss.length→(w.aU j).ss.length=w.ss.length∧(∀i,(w.aU j).ss[i]? =if i<j then(w.ss[i]?).map (fun s=>s.tick.sync.1)else w.ss[i]?)∧
  ∃p,(w.aU j).aI=w.aI++p∧(∀x∈p,x∈w.outs j)∧(∀F:Ms→Nat,(p.map F).sum≤((w.outs j).map F).sum)∧p.length≤(w.outs j).length∧(w.aI.length+(w.outs j).length≤4096→p=w.outs j)
 |0,_=>⟨rfl,fun i=>by rw[if_neg (by omega)];rfl,[],by simp[Wd.aU],by simp,fun F=>by simp,by simp,fun _=>rfl⟩
 |j+1,hj=>by
  obtain⟨h1,h2,p,p1,p2,p3,p4,p5⟩:=Wd.qC w j (by omega)
  have hlt:j<(w.aU j).ss.length:=by omega
  obtain⟨s,hs⟩:∃s,w.ss[j]? =some s:=⟨_,List.getElem?_eq_getElem (by omega)⟩
  have ru:(w.aU j).ss[j]? =some s:=by rw[h2,if_neg (by omega)];exact hs
  have ht:w.told j=s.tick.sync.2:=by unfold Wd.told;rw[hs]
  obtain⟨q,q1,q2,q3,q4⟩:=o9 s.tick.sync.2 (w.aU j).aI
  have e:w.aU (j+1)= {w.aU j with ss:=(w.aU j).ss.set j s.tick.sync.1,aI:=(w.aU j).aI++q}:=by
   show((w.aU j).eJ j Site.tick).tell j=_
   unfold Wd.eJ
   rw[ru]
   dsimp only
   unfold Wd.tell
   dsimp only
   rw[List.getElem?_set_self hlt]
   dsimp only
   rw[set_set,q1]
  rw[Wd.BN,ht]
  refine⟨by rw[e];simp[h1],fun i=>?_,p++q,by rw[e];show _++q=_;rw[p1,append_assoc],fun x hx=>?_,fun F=>?_,?_,fun hl=>?_⟩
  ·rw[e]
   show((w.aU j).ss.set j s.tick.sync.1)[i]? =_
   by_cases c:i=j
   ·subst c
    rw[List.getElem?_set_self hlt,if_pos (by omega),hs];rfl
   ·rw[List.getElem?_set_ne (fun e=>c e.symm),h2]
    by_cases c2:i<j
    ·rw[if_pos c2,if_pos (by omega)]
    ·rw[if_neg c2,if_neg (by omega)]
  ·rcases mem_append.1 hx with hx|hx
   ·exact mem_append_left _ (p2 x hx)
   ·exact mem_append_right _ (q2 x hx)
  ·rw[map_append,map_append,sum_append_nat,sum_append_nat]
   have:=p3 F;have:=q4 F;omega
  ·rw[length_append,length_append];omega
  ·rw[length_append]at hl
   have e1:=p5 (by omega)
   subst e1
   have:=vi s.tick.sync.2 (w.aU j).aI (by rw[p1,length_append];omega)
   rw[q1]at this
   rw[append_cancel_left this]
theorem Tk.rY{n T E i:Nat}{s t:Site}{out:List Ms}{ys:List Nat}{zs:List Int}{b:Int→Bl}{f:Nat}{E0:Nat}(h0:Sm n T E0 i s)(h:Tk n T E i s t out ys zs b f)(hE:E0≤E){m:Ms}(hm:m∈out) :
  cj T E m∧m.aR=(i:Int)∧(∃c:Nat,c<n∧c≠i∧m.to=c)∧((∃e∈s.rs.take 8,∃c:Nat,m=(Site.asks e.2 e.1).ad i c)∨(m.kind=2∧∃y∈ys,m.slot=(y:Int))∨(∃z∈zs,∃c:Nat,m=(Site.gF z (b z)).ad i c)∨(m.kind=8∧m.slot=(f:Int)∧m.some_=decide ((f:Int)<s.bF))):=by
 have ca:=h0.me
 obtain⟨A0,A1⟩:=h0.lO
 have key:∀{m0:Ms},cj T E m0→m∈s.tell m0 n→(cj T E m∧m.aR=(i:Int)∧∃c:Nat,c<n∧c≠i∧m.to=c)∧∃c:Nat,m=m0.ad i c:=fun hs hm=>by
  obtain⟨c,c1,c2,rfl⟩:=Site.dH.1 hm
  rw[ca]at c2 ⊢
  exact⟨⟨hs.ad _ _,rfl,c,c1,c2,rfl⟩,c,rfl⟩
 rw[h.outs]at hm
 rcases mem_append.1 hm with hm|hm
 rcases mem_append.1 hm with hm|hm
 rcases mem_append.1 hm with hm|hm
 ·obtain⟨e,he,hm⟩:=mem_flatMap.1 hm
  have hr:=h0.rs e.1 e.2 (h0.mb e (mem_of_mem_take he))
  have hs:cj T E (Site.asks e.2 e.1):=by
   have h1:=hr.x0;have h2:=hr.br;have h3:=hr.b
   unfold Site.asks
   split
   ·exact⟨fun _=>h1.2,by show e.2.aC.r≤E;omega,by show e.2.aC.r≤E;omega,h3⟩
   ·exact⟨fun _=>h1.2,by show e.2.aC.r≤E;omega,by show(0:Int)≤E;omega,by simp⟩
  obtain⟨⟨a1,a2,a3⟩,c,a4⟩:=key hs hm
  exact⟨a1,a2,a3,.inl ⟨e,he,c,a4⟩⟩
 ·obtain⟨y,hy,hm⟩:=mem_flatMap.1 hm
  have xk:=(h.iR y hy).1
  obtain⟨⟨a1,a2,a3⟩,c,a4⟩:=key (ye (E:=E) (me:=i) (by omega)) hm
  exact⟨a1,a2,a3,.inr (.inl ⟨by rw[a4];rfl,y,hy,by rw[a4];rfl⟩)⟩
 ·obtain⟨z,hz,hm⟩:=mem_flatMap.1 hm
  have hzz:=h.BJ z hz
  have hb:=(h.sm.st z).1
  rw[h.st,if_pos hz]at hb
  have hs:cj T E (Site.gF z (b z)):=⟨fun _=>by show z<(T:Int);omega,hb,by show(0:Int)≤E;omega,by simp[Site.gF]⟩
  obtain⟨⟨a1,a2,a3⟩,c,a4⟩:=key hs hm
  exact⟨a1,a2,a3,.inr (.inr (.inl ⟨z,hz,c,a4⟩))⟩
 ·split at hm
  ·have hs:cj T E (Site.dT f (decide ((f:Int)<s.bF))):=⟨fun hk=>by
    rcases hk with hk|hk
    ·exact absurd rfl hk
    ·have hk:decide ((f:Int)<s.bF)=true:=hk
     have:=of_decide_eq_true hk
     show(f:Int)<T;omega,by show(0:Int)≤E;omega,by show(0:Int)≤E;omega,by simp[Site.dT]⟩
   obtain⟨⟨a1,a2,a3⟩,c,a4⟩:=key hs hm
   exact⟨a1,a2,a3,.inr (.inr (.inr ⟨by rw[a4];rfl,by rw[a4];rfl,by rw[a4];rfl⟩))⟩
  ·cases hm
theorem Di{n T i:Nat}{s:Site}(hT:T≤6*n)(hn:3≤n):jh n T i s≤6:=by
 unfold jh
 have h1:((List.range T).filter fun(k:Nat)=>decide (k % n=i)&&s.fresh (k:Int)).length≤((List.range 6).map fun j=>i+n*j).length:=by
  refine iZ (List.nodup_range.sublist filter_sublist) fun x hx=>?_
  obtain⟨h1,h2⟩:=mem_filter.1 hx
  rw[Bool.and_eq_true]at h2
  have h3:=of_decide_eq_true h2.1
  have h4:=mem_range.1 h1
  have h5:=Nat.mod_add_div x n
  have h6:x / n<6:=Nat.div_lt_of_lt_mul (by rw[Nat.mul_comm];omega)
  exact mem_map.2 ⟨x / n,mem_range.2 h6,by omega⟩
 simpa using h1
theorem vq(r:Rn)(x:Int):(Site.asks r x).kind=1∨(Site.asks r x).kind=3∨(Site.asks r x).kind=5:=by
 unfold Site.asks
 split
 ·dsimp only
  split
  ·exact .inl rfl
  ·exact .inr (.inr rfl)
 ·exact .inr (.inl rfl)
theorem Pw.Mm{n i:Nat}(P:Pw n i){s:Site}(hs:s.rs.Pairwise fun a b=>a.1<b.1){L:List Int}(hL:∀x,aD x s.rs≠none→P.A x=true→x∈L):P.tok s≤P.tF*L.length:=by
 have h1:P.tok s≤P.tF*(s.rs.filter fun e=>P.A e.1).length:=by
  unfold Pw.tok ja
  clear hL hs
  induction s.rs with
  |nil=>simp
  |cons e M ih=>
   have ht:=P.D0
   rw[map_cons,sum_cons]
   by_cases hc:P.A e.1=true
   ·have e1:((e::M).filter fun e=>P.A e.1).length=(M.filter fun e=>P.A e.1).length+1:=by rw[filter_cons,if_pos hc,length_cons]
    have e2:(if P.A e.1 then(if e.2.so then P.tT else P.tF)else 0)≤P.tF:=by
     rw[if_pos hc];split<;>omega
    rw[e1,Nat.mul_succ]
    show(if P.A e.1 then(if e.2.so then P.tT else P.tF)else 0)+_≤_
    omega
   ·have e1:((e::M).filter fun e=>P.A e.1)=M.filter fun e=>P.A e.1:=by rw[filter_cons,if_neg hc]
    have e2:(if P.A e.1 then(if e.2.so then P.tT else P.tF)else 0)=0:=by rw[if_neg hc]
    rw[e1]
    show(if P.A e.1 then(if e.2.so then P.tT else P.tF)else 0)+_≤_
    omega
 have h2:(s.rs.filter fun e=>P.A e.1).length≤L.length:=by
  have h3:((s.rs.filter fun e=>P.A e.1).map Prod.fst).length≤L.length:=by
   refine iZ ?_ fun x hx=>?_
   ·exact pairwise_map.2 ((hs.sublist filter_sublist).imp fun h e=>by omega)
   ·obtain⟨e,he,rfl⟩:=mem_map.1 hx
    obtain⟨e1,e2⟩:=mem_filter.1 he
    refine hL e.1 (fun hn=>kb.1 hn e e1 rfl) e2
  rwa [length_map]at h3
 exact Nat.le_trans h1 (Nat.mul_le_mul_left _ h2)
theorem Fw.oz{n:Nat}(F:Fw n){α:Type}(g:α→List Ms)(c:Nat):∀l:List α,(∀x∈l,F.ws (g x)≤c)→F.ws (l.flatMap g)≤c*l.length
 |[],_=>by simp[Fw.ws]
 |x::l,h=>by
  have h1:=h x (by simp)
  have h2:=Fw.oz F g c l fun y hy=>h y (by simp[hy])
  rw[flatMap_cons,F.ff,length_cons,Nat.mul_succ];omega
def Wd.act(w:Wd)(i:Nat)(x:Int):Bool:=match w.ss[i]? with
 |some s=>((s.rs.take 8).map Prod.fst++s.ck.late s.ck.bF).contains x
 |none=>false
namespace Tk
variable {n T E i:Nat} {s t:Site} {out:List Ms} {ys:List Nat} {zs:List Int} {b:Int→Bl} {f E0:Nat}
theorem Mn(h:Tk n T E i s t out ys zs b f)(F:Fw n):F.ws out=F.ws ((s.rs.take 8).flatMap fun e=>s.tell (Site.asks e.2 e.1) n)+F.ws (ys.flatMap fun(y:Nat)=>s.tell (Site.bt y ⟨0,(i:Int)⟩) n)+F.ws (zs.flatMap fun z=>s.tell (Site.gF z (b z)) n)+F.ws (if f<4096 then s.tell (Site.dT f (decide ((f:Int)<s.bF))) n else[]):=by
 rw[h.outs,F.ff,F.ff,F.ff]
theorem VT(h0:Sm n T E0 i s)(h:Tk n T E i s t out ys zs b f)(a:Nat)(ha:1≤a∧a≤2)(A:Nat→Int→Bool)(hA:∀x,A i x=true→x∈(s.rs.take 8).map Prod.fst++zs):(Fa a ha n A).ws out+((Fa a ha n A).P i).pt T t≤48*a+48*a+138+(6*a+6)*16:=by
 have ca:=h0.me;have hlt:=h0.lt;have h7:=h0.n7;have h3:=h0.n3;have hT:=h0.T6
 have RW:∀(m:Ms)(c:Nat),(∀j:Nat,wa a (m.ad (s.me:Int) (j:Int))≤c)→(Fa a ha n A).ws (s.tell m n)≤c*6:=fun m c hc=>by
  have q1:=tI (wa a) s m n c hc
  have q2:=vp n s.me (by omega)
  have q3:=Nat.mul_le_mul_left c (show((List.range n).filter fun j=>decide (j≠s.me)).length≤6 by omega)
  exact Nat.le_trans q1 q3
 have hk:∀(m:Ms),m.kind≠8→∀j:Nat,wa a (m.ad (s.me:Int) (j:Int))≤a:=fun m hm j=>by
  unfold wa
  rw[if_neg (by show ¬ m.kind=8;exact hm)]
  split<;>omega
 have q1:=(Fa a ha n A).oz (fun e:Int × Rn=>s.tell (Site.asks e.2 e.1) n) (a*6) (s.rs.take 8) fun e _=>RW _ a (hk _ (by have:=vq e.2 e.1;omega))
 have q2:=(Fa a ha n A).oz (fun y:Nat=>s.tell (Site.bt y ⟨0,(i:Int)⟩) n) (1*6) ys fun y _=>RW _ 1 (fun j=>by
  unfold wa
  rw[if_neg (by simp[Site.bt,Ms.ad]),if_neg (by simp[Site.bt,Ms.ad])];omega)
 have q3:=(Fa a ha n A).oz (fun z:Int=>s.tell (Site.gF z (b z)) n) (a*6) zs fun z _=>RW _ a (hk _ (by simp[Site.gF]))
 have q4:(Fa a ha n A).ws (if f<4096 then s.tell (Site.dT f (decide ((f:Int)<s.bF))) n else[])≤102:=by
  split
  ·exact Nat.le_trans (RW _ 17 fun j=>by unfold wa;rw[if_pos (by simp[Site.dT,Ms.ad])];omega) (by omega)
  ·simp[Fw.ws]
 have q5:=h.Mn (Fa a ha n A)
 have q6:=((Fa a ha n A).P i).Mm (s:=t) h.sm.kz (L:=(s.rs.take 8).map Prod.fst++zs) fun x _ hx=>hA x hx
 have q7:((s.rs.take 8).map Prod.fst++zs).length≤16:=by
  rw[length_append,length_map,length_take]
  have:=h.zl;omega
 have q8:((Fa a ha n A).P i).tF=6*a+6:=rfl
 have q9:((Fa a ha n A).P i).φ=6:=rfl
 have vr:=h.fry
 have Ir:=Di (n:=n) (T:=T) (i:=i) (s:=s) hT h3
 have VU:(s.rs.take 8).length≤8:=by rw[length_take];omega
 have jd:=h.zl
 unfold Pw.pt
 rw[q8]at q6
 rw[q9]
 have r1:=Nat.mul_le_mul_left (6*a+6) q7
 have r2:=Nat.mul_le_mul_left (a*6) VU
 have r3:=Nat.mul_le_mul_left (a*6) jd
 omega
theorem AH(h0:Sm n T E0 i s)(h:Tk n T E i s t out ys zs b f)(j:Nat):(Fd j n).ws out+((Fd j n).P i).pt T t+((Fd j n).P i).ρ*ys.length≤((Fd j n).P i).pt T s+(if i=j then zs.length else 8+2*zs.length):=by
 have ca:=h0.me;have hlt:=h0.lt;have h7:=h0.n7;have h3:=h0.n3;have hT:=h0.T6
 have one:∀m:Ms,(Fd j n).ws (s.tell m n)≤if i=j then 0 else 1:=fun m=>by
  by_cases hk:m.kind=1∨m.kind=3∨m.kind=5
  ·have:=((Fd j n).P i).DZ s {m with kind:=5} ca hlt h7 rfl
   have e1:((s.tell {m with kind:=5} n).map ((Fd j n).P i).w).sum=(Fd j n).ws (s.tell m n):=by
    unfold Fw.ws Site.tell
    rw[map_map,map_map]
    refine congrArg List.sum (map_congr_left fun c _=>?_)
    show wd j _=wd j _
    unfold wd
    by_cases hc:(c:Int)=(j:Int)
    ·rw[if_pos ⟨hc,.inr (.inr rfl)⟩,if_pos ⟨hc,hk⟩]
    ·rw[if_neg (fun h=>hc h.1),if_neg (fun h=>hc h.1)]
   rw[e1]at this
   exact this
  ·have:(Fd j n).ws (s.tell m n)≤0*_:=tI (wd j) s m n 0 fun c=>by
    unfold wd
    rw[if_neg (fun h=>hk h.2)];omega
   omega
 have q1:=(Fd j n).oz (fun e:Int × Rn=>s.tell (Site.asks e.2 e.1) n) (if i=j then 0 else 1) (s.rs.take 8) fun e _=>one _
 have zero:∀m:Ms,¬ (m.kind=1∨m.kind=3∨m.kind=5)→(Fd j n).ws (s.tell m n)≤0:=fun m hk=>by
  have:(Fd j n).ws (s.tell m n)≤0*_:=tI (wd j) s m n 0 fun c=>by
    unfold wd
    rw[if_neg (fun h=>hk h.2)];omega
  omega
 have q2:=(Fd j n).oz (fun y:Nat=>s.tell (Site.bt y ⟨0,(i:Int)⟩) n) 0 ys fun y _=>zero _ (by simp[Site.bt])
 have q3:=(Fd j n).oz (fun z:Int=>s.tell (Site.gF z (b z)) n) (if i=j then 0 else 1) zs fun z _=>one _
 have q4:(Fd j n).ws (if f<4096 then s.tell (Site.dT f (decide ((f:Int)<s.bF))) n else[])≤0:=by
  split
  ·exact zero _ (by simp[Site.dT])
  ·simp[Fw.ws]
 have q5:=h.Mn (Fd j n)
 have q6:=h.tok ((Fd j n).P i)
 have q7:(zs.map fun z=>if((Fd j n).P i).A z then((Fd j n).P i).tF else 0).sum=zs.length:=by
  have:∀l:List Int,(l.map fun z=>if((Fd j n).P i).A z then((Fd j n).P i).tF else 0).sum=l.length:=by
   intro l
   induction l with
   |nil=>rfl
   |cons z l ih=>
    rw[map_cons,sum_cons,ih,length_cons]
    show(1:Nat)+_=_;omega
  exact this zs
 have q8:((Fd j n).P i).ρ=((Fd j n).P i).φ:=rfl
 have VU:(s.rs.take 8).length≤8:=by rw[length_take];omega
 rw[q7]at q6
 rw[q8]
 by_cases c:i=j
 ·rw[if_pos c]at q1 q3 ⊢;omega
 ·rw[if_neg c]at q1 q3 ⊢;omega
end Tk
