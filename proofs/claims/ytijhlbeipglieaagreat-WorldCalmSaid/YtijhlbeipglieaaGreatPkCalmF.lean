/- For WorldCalm. -/
import Derived.Test.YtijhlbeipglieaaGreatPkCalmE
set_option linter.all false
namespace aL
open Go Go.Proofs.YtijhlbeipglieaaGreat List
def ft(g:Nat→Nat):Nat→Nat
 |0=>0
 |k+1=>ft g k+g k
theorem kL{g h:Nat→Nat} :∀{k:Nat},(∀i,i<k→g i≤h i)→ft g k≤ft h k
 |0,_=>Nat.le_refl _
 |k+1,hh=>by
  have h1:=kL (k:=k) fun i hi=>hh i (by omega)
  have h2:=hh k (by omega)
  show ft g k+g k≤ft h k+h k;omega
theorem ki(g h:Nat→Nat):∀k,ft (fun i=>g i+h i) k=ft g k+ft h k
 |0=>rfl
 |k+1=>by
  have:=ki g h k
  show ft (fun i=>g i+h i) k+(g k+h k)=ft g k+g k+(ft h k+h k);omega
theorem qD(c:Nat)(g:Nat→Nat):∀k,ft (fun i=>c*g i) k=c*ft g k
 |0=>rfl
 |k+1=>by
  have:=qD c g k
  show ft (fun i=>c*g i) k+c*g k=c*(ft g k+g k)
  rw[Nat.mul_add];omega
theorem nG(c:Nat):∀k,ft (fun _=>c) k=c*k
 |0=>rfl
 |k+1=>by
  have:=nG c k
  show ft (fun _=>c) k+c=c*(k+1)
  rw[Nat.mul_succ];omega
theorem ym(j:Nat)(c:Nat→Nat):∀k,ft (fun i=>if i=j then c i else 0) k=if j<k then c j else 0
 |0=>by rw[if_neg (by omega)];rfl
 |k+1=>by
  have:=ym j c k
  show ft (fun i=>if i=j then c i else 0) k+(if k=j then c k else 0)=_
  rw[this]
  by_cases h1:k=j
  ·subst h1;rw[if_neg (by omega),if_pos rfl,if_pos (by omega)];omega
  ·rw[if_neg h1]
   by_cases h2:j<k
   ·rw[if_pos h2,if_pos (by omega),Nat.add_zero]
   ·rw[if_neg h2,if_neg (by omega)]
theorem zi(g:Nat→Nat):∀k,ft g (k+1)=g 0+ft (fun i=>g (i+1)) k
 |0=>by show 0+g 0=g 0+0;omega
 |k+1=>by
  have:=zi g k
  show ft g (k+1)+g (k+1)=g 0+(ft (fun i=>g (i+1)) k+g (k+1))
  omega
def nH(f:Nat→Site→Nat)(l:List Site)(i:Nat):Nat:=match l[i]? with
 |some s=>f i s
 |none=>0
theorem eU{f:Nat→Site→Nat}{l:List Site}{i:Nat}{s:Site}(h:l[i]? =some s):nH f l i=f i s:=by unfold nH;rw[h]
theorem Mp(f:Nat→Site→Nat):∀(l:List Site)(k:Nat),iv f k l=ft (fun i=>match l[i]? with
 |some s=>f (k+i) s
 |none=>0) l.length
 |[],k=>rfl
 |x::l,k=>by
  have:=Mp f l (k+1)
  rw[length_cons,zi]
  simp only[iv]
  rw[this]
  simp only[List.getElem?_cons_zero,List.getElem?_cons_succ,Nat.add_zero]
  congr 2
  refine funext fun i=>?_
  rw[show k+1+i=k+(i+1) by omega]
theorem oA(f:Nat→Site→Nat)(l:List Site):iv f 0 l=ft (nH f l) l.length:=by
 rw[Mp]
 congr 1
 refine funext fun i=>?_
 unfold nH
 simp only[Nat.zero_add]
theorem Fw.AI{n:Nat}(F:Fw n)(w:Wd):∀j,F.ws (w.outs j)=ft (fun i=>F.ws (w.told i)) j
 |0=>rfl
 |j+1=>by rw[Wd.BN,F.ff,Fw.AI F w j];rfl
def Wd.begun(w:Wd):Nat:=ft (nH (fun _ s=>(s.ck.late s.ck.bF).length) w.ss) w.ss.length
structure Qt(n T E:Nat)(w:Wd):Prop where
 len:w.ss.length=n
 site:∀(i:Nat) s,w.ss[i]? =some s→Sm n T E i s∧s.held= []∧(∀x,0≤(s.stat x).p.r)∧s.db.length+4000≤1048576
 aI:w.aI= []
def Lo(E:Nat)(w:Wd):Prop:=∀(i:Nat) s,w.ss[i]? =some s→∀x∈s.ck.late s.ck.bF,(s.stat x).p.r+1≤E
namespace Qt
variable {n T E E':Nat} {w:Wd}
theorem tk(h:Qt n T E w)(hl:Lo E' w)(eI:E≤E')(hE:E'≤126){i:Nat}{s:Site}(hs:w.ss[i]? =some s):∃ys zs b f,Tk n T E' i s s.tick.sync.1 s.tick.sync.2 ys zs b f:=by
 obtain⟨h1,h2,h3,h4⟩:=h.site i s hs
 obtain⟨t,out,ys,zs,b,f,e,k⟩:=h1.tick eI h2 hE h3 (hl i s hs) (by omega)
 rw[e]
 exact⟨ys,zs,b,f,k⟩
theorem some_(h:Qt n T E w){i:Nat}(hi:i<n):∃s,w.ss[i]? =some s:=⟨_,List.getElem?_eq_getElem (by rw[h.len];exact hi)⟩
theorem Pz(h:Qt n T E w)(dF:Lo E' w)(eI:E≤E')(hE:E'≤126){i:Nat}(hi:i<n)(a:Nat)(ha:1≤a∧a≤2):(Fa a ha n w.act).ws (w.told i)+nH (fun i s=>((Fa a ha n w.act).P i).pt T s) (w.aU n).ss i≤48*a+48*a+138+(6*a+6)*16:=by
 obtain⟨s,hs⟩:=h.some_ hi
 obtain⟨ys,zs,b,f,k⟩:=h.tk dF eI hE hs
 obtain⟨-,t2,-⟩:=w.qC n (by rw[h.len];exact Nat.le_refl _)
 have ru:(w.aU n).ss[i]? =some s.tick.sync.1:=by rw[t2,if_pos hi,hs];rfl
 rw[eU ru]
 have e:w.told i=s.tick.sync.2:=by unfold Wd.told;rw[hs]
 rw[e]
 refine Tk.VT (h.site i s hs).1 k a ha w.act fun x hx=>?_
 unfold Wd.act at hx
 rw[hs]at hx
 rw[k.late]
 simpa using hx
theorem Mq(h:Qt n T E w)(dF:Lo E' w)(eI:E≤E')(hE:E'≤126)(a:Nat)(ha:1≤a∧a≤2):(Fa a ha n w.act).ws (w.outs n)+iv (fun i s=>((Fa a ha n w.act).P i).pt T s) 0 (w.aU n).ss≤(48*a+48*a+138+(6*a+6)*16)*n:=by
 have hl:(w.aU n).ss.length=n:=by rw[Wd.gZ,h.len]
 rw[Fw.AI,oA,hl,←ki,←nG]
 exact kL fun i hi=>h.Pz dF eI hE hi a ha
theorem PB(h:Qt n T E w)(dF:Lo E' w)(eI:E≤E')(hE:E'≤126)(j:Nat){i:Nat}(hi:i<n):16*((Fd j n).ws (w.told i)+nH (fun i s=>((Fd j n).P i).pt T s) (w.aU n).ss i)+(if i=j then nH (fun _ s=>s.db.length) (w.aU n).ss i else 0)≤
  16*nH (fun i s=>((Fd j n).P i).pt T s) w.ss i+(if i=j then nH (fun _ s=>s.db.length) w.ss i else 0)+(128+32*nH (fun _ s=>(s.ck.late s.ck.bF).length) w.ss i):=by
 obtain⟨s,hs⟩:=h.some_ hi
 obtain⟨ys,zs,b,f,k⟩:=h.tk dF eI hE hs
 obtain⟨-,t2,-⟩:=w.qC n (by rw[h.len];exact Nat.le_refl _)
 have ru:(w.aU n).ss[i]? =some s.tick.sync.1:=by rw[t2,if_pos hi,hs];rfl
 rw[eU ru,eU hs,eU ru,eU hs,eU hs]
 have e:w.told i=s.tick.sync.2:=by unfold Wd.told;rw[hs]
 rw[e,←k.late]
 have q1:=Tk.AH (h.site i s hs).1 k j
 have q2:=k.db
 have q3:((Fd j n).P i).ρ=if i=j then 1 else 0:=rfl
 rw[q3]at q1
 by_cases c:i=j
 ·rw[if_pos c]at q1 ⊢
  rw[if_pos c]at q1
  rw[if_pos c];omega
 ·rw[if_neg c]at q1 ⊢
  rw[if_neg c]at q1
  rw[if_neg c];omega
def cZ(n T:Nat)(w:Wd)(j:Nat):Nat:=nH (fun _ s=>s.db.length) w.ss j+16*(Fd j n).ji T w
theorem AH(h:Qt n T E w)(dF:Lo E' w)(eI:E≤E')(hE:E'≤126){j:Nat}(hj:j<n):nH (fun _ s=>s.db.length) (w.aU n).ss j+16*((Fd j n).ws (w.outs n)+iv (fun i s=>((Fd j n).P i).pt T s) 0 (w.aU n).ss)≤cZ n T w j+128*n+32*w.begun:=by
 have hl:(w.aU n).ss.length=n:=by rw[Wd.gZ,h.len]
 have k:=kL (k:=n) fun i hi=>h.PB dF eI hE j hi
 rw[ki,ki,ki,ki,qD,qD,qD,ki,ym,ym,if_pos hj,if_pos hj,nG]at k
 unfold cZ Fw.ji Wd.begun
 rw[Fw.AI,oA,oA,hl,h.len,h.aI]
 have e:(Fd j n).ws []=0:=rfl
 rw[e]
 omega
theorem aU(h:Qt n T E w)(h3:3≤n)(h7:n≤7)(dF:Lo E' w)(eI:E≤E')(hE:E'≤126)(hd:∀j,j<n→cZ n T w j+128*n+32*w.begun+2000≤1048576)(dL:∀x∈(w.aU n).aI,x.bL) :
  (w.aU n).aI=w.outs n∧Cl n T E' w.act (w.aU n)∧iC n T w.act (w.aU n) 4326∧(∀j,j<n→cZ n T (w.aU n) j≤cZ n T w j+128*n+32*w.begun)∧
   ∀(i:Nat) t,(w.aU n).ss[i]? =some t→∃s ys zs b f,w.ss[i]? =some s∧Tk n T E' i s t s.tick.sync.2 ys zs b f∧w.told i=s.tick.sync.2:=by
 have hl:(w.aU n).ss.length=n:=by rw[Wd.gZ,h.len]
 obtain⟨-,t2,p,p1,-,-,-,p5⟩:=w.qC n (by rw[h.len];exact Nat.le_refl _)
 have t1:=h.Mq dF eI hE 1 (by decide)
 have t3:=h.Mq dF eI hE 2 (by decide)
 have t4:=zg 1 (by decide) n w.act (w.outs n)
 have dm:(w.aU n).aI=w.outs n:=by
  rw[p1,h.aI,nil_append]
  refine p5 ?_
  rw[h.aI,length_nil]
  omega
 have hback:∀(i:Nat) t,(w.aU n).ss[i]? =some t→∃s ys zs b f,w.ss[i]? =some s∧Tk n T E' i s t s.tick.sync.2 ys zs b f∧w.told i=s.tick.sync.2:=fun i t ht=>by
  have hi:i<n:=by rw[←hl];exact(List.getElem?_eq_some_iff.1 ht).1
  obtain⟨s,hs⟩:=h.some_ hi
  obtain⟨ys,zs,b,f,k⟩:=h.tk dF eI hE hs
  have ru:(w.aU n).ss[i]? =some s.tick.sync.1:=by rw[t2,if_pos hi,hs];rfl
  rw[ht]at ru;injection ru with e
  rw[e]
  exact⟨s,ys,zs,b,f,hs,k,by unfold Wd.told;rw[hs]⟩
 have Is:∀j,j<n→cZ n T (w.aU n) j≤cZ n T w j+128*n+32*w.begun:=fun j hj=>by
  have:=h.AH dF eI hE hj
  have e:cZ n T (w.aU n) j=nH (fun _ s=>s.db.length) (w.aU n).ss j+16*((Fd j n).ws (w.outs n)+iv (fun i s=>((Fd j n).P i).pt T s) 0 (w.aU n).ss):=by
   unfold cZ Fw.ji
   rw[dm]
  rw[e];exact this
 refine⟨dm,⟨hl,fun i t ht=>?_,fun m hm=>⟨dL m hm,?_⟩,fun m hm=>?_⟩,⟨?_,?_,fun j t ht=>?_⟩,Is,hback⟩
 ·obtain⟨s,ys,zs,b,f,hs,k,-⟩:=hback i t ht
  have hi:i<n:=by rw[←hl];exact(List.getElem?_eq_some_iff.1 ht).1
  have q1:=Is i hi
  have q2:=hd i hi
  have q3:cZ n T (w.aU n) i=t.db.length+16*(Fd i n).ji T (w.aU n):=by unfold cZ;rw[eU ht]
  exact⟨k.sm,k.held,by omega⟩
 ·rw[dm]at hm
  obtain⟨i,hi,hm⟩:=mem_flatMap.1 hm
  obtain⟨s,hs⟩:=h.some_ (mem_range.1 hi)
  obtain⟨ys,zs,b,f,k⟩:=h.tk dF eI hE hs
  have e:w.told i=s.tick.sync.2:=by unfold Wd.told;rw[hs]
  rw[e]at hm
  obtain⟨a1,a2,⟨c,c1,c2,c3⟩,-⟩:=k.rY (h.site i s hs).1 eI hm
  exact⟨a1,c,c1,c3,i,mem_range.1 hi,fun e=>c2 e.symm,a2⟩
 ·rw[dm]at hm
  obtain⟨i,hi,hm⟩:=mem_flatMap.1 hm
  obtain⟨s,hs⟩:=h.some_ (mem_range.1 hi)
  obtain⟨ys,zs,b,f,k⟩:=h.tk dF eI hE hs
  have e:w.told i=s.tick.sync.2:=by unfold Wd.told;rw[hs]
  rw[e]at hm
  obtain⟨a1,a2,a3,a4⟩:=k.rY (h.site i s hs).1 eI hm
  have VW:∀x,x∈(s.rs.take 8).map Prod.fst++zs→w.act i x=true:=fun x hx=>by
   unfold Wd.act
   rw[hs]
   show(((s.rs.take 8).map Prod.fst++s.ck.late s.ck.bF).contains x)=true
   rw[←k.late]
   simpa using hx
  refine⟨fun hk c hc=>?_,fun hk=>?_⟩
  ·have:c=i:=by omega
   subst this
   rcases a4 with⟨e,he,c',rfl⟩|⟨k2,-⟩|⟨z,hz,c',rfl⟩|⟨k8,-⟩
   ·refine VW _ (mem_append_left _ (mem_map.2 ⟨e,he,?_⟩))
    show e.1=(Site.asks e.2 e.1).slot
    unfold Site.asks;split<;>rfl
   ·omega
   ·exact VW _ (mem_append_right _ hz)
   ·omega
  ·exfalso
   rcases a4 with⟨e,he,c',rfl⟩|⟨k2,-⟩|⟨z,hz,c',rfl⟩|⟨k8,-⟩
   ·have:=vq e.2 e.1
    have e1:((Site.asks e.2 e.1).ad i c').kind=(Site.asks e.2 e.1).kind:=rfl
    omega
   ·omega
   ·have e1:((Site.gF z (b z)).ad i c').kind=3:=rfl
    omega
   ·omega
 ·unfold Fw.ji;rw[dm];omega
 ·unfold Fw.ji;rw[dm];omega
 ·have hj:j<n:=by rw[←hl];exact(List.getElem?_eq_some_iff.1 ht).1
  have q1:=Is j hj
  have q2:=hd j hj
  have q3:cZ n T (w.aU n) j=t.db.length+16*(Fd j n).ji T (w.aU n):=by unfold cZ;rw[eU ht]
  omega
end Qt
structure Mo(s t:Site):Prop where
 dec:∀(x:Int) w,s.dec x=some w→t.dec x=some w
 nf:∀x:Int,s.fresh x=false→t.fresh x=false
 rs:∀x r',aD x t.rs=some r'→∃r,aD x s.rs=some r∧r'.cV=r.cV∧r'.aC=r.aC
 p:∀x:Int,¬ (t.stat x).p.lt (s.stat x).p
 taken:t.taken=s.taken
theorem Mo.refl(s:Site):Mo s s:=⟨fun _ _ h=>h,fun _ h=>h,fun _ r h=>⟨r,h,rfl,rfl⟩,fun _=>Bl.lt_irrefl _,rfl⟩
theorem Mo.trans{s t u:Site}(h:Mo s t)(k:Mo t u):Mo s u:=
 ⟨fun x w e=>k.dec x w (h.dec x w e),fun x e=>k.nf x (h.nf x e),fun x r e=>by
  obtain⟨r1,e1,e2,e3⟩:=k.rs x r e
  obtain⟨r2,f1,f2,f3⟩:=h.rs x r1 e1
  exact⟨r2,f1,e2.trans f2,e3.trans f3⟩,fun x=>Bl.le_trans (h.p x) (k.p x),k.taken.trans h.taken⟩
def mL(w w':Wd):Prop:=w'.ss.length=w.ss.length∧∀(i:Nat) s t,w.ss[i]? =some s→w'.ss[i]? =some t→Mo s t
theorem mL.refl(w:Wd):mL w w:=⟨rfl,fun i s t h k=>by rw[h]at k;injection k with k;rw[k];exact Mo.refl _⟩
theorem mL.at_{w w':Wd}(h:mL w w'){i:Nat}{t:Site}(ht:w'.ss[i]? =some t):∃s,w.ss[i]? =some s∧Mo s t:=by
 obtain⟨s,hs⟩:∃s,w.ss[i]? =some s:=⟨_,List.getElem?_eq_getElem (by
  have:=(List.getElem?_eq_some_iff.1 ht).1
  have:=h.1;omega)⟩
 exact⟨s,hs,h.2 i s t hs ht⟩
theorem mL.trans{w w' yX:Wd}(h:mL w w')(k:mL w' yX):mL w yX:=
 ⟨k.1.trans h.1,fun i s u hs hu=>by
  obtain⟨t,ht,h2⟩:=k.at_ hu
  exact(h.2 i s t hs ht).trans h2⟩
theorem Dv.mo{n T E:Nat}{w w':Wd}{m:Ms}{l:List Ms}{i:Nat}{s t:Site}{out:List Ms}{k:Nat}(h:Dv n T E w w' m l i s t out k):mL w w':=
 ⟨by rw[h.ss,length_set],fun j a b ha hb=>by
  rcases h.other hb with⟨e1,e2⟩|⟨-,e2⟩
  ·subst e1 e2
   have:=h.hs
   rw[ha]at this;injection this with this;subst this
   exact⟨h.dl.dec,h.dl.nf,h.dl.quiet,h.dl.Vq,h.taken⟩
  ·rw[ha]at e2;injection e2 with e2;rw[e2];exact Mo.refl _⟩
theorem Qt.round{n T E E':Nat}{w:Wd}{J:Wd→Prop}(h:Qt n T E w)(h3:3≤n)(h7:n≤7)(dF:Lo E' w)(eI:E≤E')(hE:E'≤126)(hd:∀j,j<n→Qt.cZ n T w j+128*n+32*w.begun+4000≤1048576)(dL:∀k,k≤4326→∀x∈(Wd.drain k (w.aU n)).1.aI,x.bL)(VX:J (w.aU n))(hJ:∀(v v':Wd) m l i s t out k,Cl n T E' w.act v→mL (w.aU n) v→J v→Dv n T E' v v' m l i s t out k→v'.aI=l++out→Cl n T E' w.act v'→J v') :
  ∃d w',d≤4326∧w.round=(w',d)∧Qt n T E' w'∧mL (w.aU n) w'∧J w'∧∀j,j<n→Qt.cZ n T w' j≤Qt.cZ n T w j+128*n+32*w.begun:=by
 obtain⟨h1,h2,h4,h5,h6⟩:=h.aU h3 h7 dF eI hE (fun j hj=>by have:=hd j hj;omega) (fun x hx=>dL 0 (by omega) x hx)
 have xp:∀(i:Nat) t,(w.aU n).ss[i]? =some t→∀x,0≤(t.stat x).p.r:=fun i t ht x=>by
  obtain⟨s,ys,zs,b,f,hs,k,-⟩:=h6 i t ht
  rw[k.st]
  have hb:0≤(s.base i ys x).p.r:=by
   unfold Site.base
   split
   ·show(0:Int)≤0;omega
   ·exact(h.site i s hs).2.2.1 x
  split
  ·rename_i hz
   have:=(k.BJ x hz).2.2.2.2
   show 0≤(b x).r;omega
  ·exact hb
 obtain⟨d,w',d1,d2,d3,d4,⟨d5,d6⟩,d7⟩:=Cl.run (J:=fun v=>mL (w.aU n) v∧J v) (fun v v' m l i s t out k c j dv hn c'=>⟨j.1.trans dv.mo,hJ v v' m l i s t out k c j.1 j.2 dv hn c'⟩) 4326 (w.aU n) h2 ⟨mL.refl _,VX⟩ h4 dL
 have VY:w'.ss.length=n:=d4.len
 have wJ:∀j,j<n→Qt.cZ n T w' j≤Qt.cZ n T w j+128*n+32*w.begun:=fun j hj=>by
  obtain⟨a,ha⟩:∃a,(w.aU n).ss[j]? =some a:=⟨_,List.getElem?_eq_getElem (by rw[h2.len];exact hj)⟩
  obtain⟨b,hb⟩:∃b,w'.ss[j]? =some b:=⟨_,List.getElem?_eq_getElem (by rw[VY];exact hj)⟩
  have q1:=d7 j a b ha hb
  have q2:=h5 j hj
  have q3:Qt.cZ n T (w.aU n) j=a.db.length+16*(Fd j n).ji T (w.aU n):=by unfold Qt.cZ;rw[eU ha]
  have q4:Qt.cZ n T w' j=b.db.length+16*(Fd j n).ji T w':=by unfold Qt.cZ;rw[eU hb]
  omega
 refine⟨d,w',d1,?_,⟨VY,fun i t ht=>?_,d3⟩,d5,d6,wJ⟩
 ·unfold Wd.round
  rw[h.len]
  exact d2 20000 (by omega)
 ·obtain⟨c1,c2,c3⟩:=d4.site i t ht
  have hi:i<n:=by rw[←VY];exact(List.getElem?_eq_some_iff.1 ht).1
  refine⟨c1,c2,fun x=>?_,?_⟩
  ·obtain⟨s,hs,k⟩:=d5.at_ ht
   have q1:=k.p x
   have q2:=xp i s hs x
   unfold Bl.lt at q1;omega
  ·have q1:=wJ i hi
   have q2:=hd i hi
   have q4:Qt.cZ n T w' i=t.db.length+16*(Fd i n).ji T w':=by unfold Qt.cZ;rw[eU ht]
   omega
theorem Dv.msg{n T E:Nat}{w w':Wd}{m:Ms}{l:List Ms}{i:Nat}{s t:Site}{out:List Ms}{k:Nat}(h:Dv n T E w w' m l i s t out k)(hn:w'.aI=l++out){P:Ms→Prop}(hm:∃x∈w.aI,P x):P m∨∃x∈w'.aI,P x:=by
 obtain⟨x,hx,hp⟩:=hm
 rw[h.aI]at hx
 rcases mem_cons.1 hx with rfl|hx
 ·exact .inl hp
 ·exact .inr ⟨x,by rw[hn];exact mem_append_left _ hx,hp⟩
theorem Dv.out{n T E:Nat}{w w':Wd}{m:Ms}{l:List Ms}{i:Nat}{s t:Site}{out:List Ms}{k:Nat}(_:Dv n T E w w' m l i s t out k)(hn:w'.aI=l++out){P:Ms→Prop}(hm:∃x∈out,P x):∃x∈w'.aI,P x:=by
 obtain⟨x,hx,hp⟩:=hm
 exact⟨x,by rw[hn];exact mem_append_right _ hx,hp⟩
def Wd.cf(w:Wd)(d:Nat)(g:Int):Prop:=∃s,w.ss[d]? =some s∧s.dec g≠none
def Wd.used(w:Wd)(o:Nat)(g:Int):Prop:=∃s,w.ss[o]? =some s∧s.fresh g=false
theorem mL.cf{w w':Wd}(h:mL w w'){d:Nat}{g:Int}(hk:w.cf d g):w'.cf d g:=by
 obtain⟨s,hs,hd⟩:=hk
 obtain⟨t,ht⟩:∃t,w'.ss[d]? =some t:=⟨_,List.getElem?_eq_getElem (by
  have:=(List.getElem?_eq_some_iff.1 hs).1
  have:=h.1;omega)⟩
 obtain⟨v,hv⟩:=fG hd
 exact⟨t,ht,by rw[(h.2 d s t hs ht).dec g v hv];simp⟩
theorem mL.used{w w':Wd}(h:mL w w'){o:Nat}{g:Int}(hk:w.used o g):w'.used o g:=by
 obtain⟨s,hs,hd⟩:=hk
 obtain⟨t,ht⟩:∃t,w'.ss[o]? =some t:=⟨_,List.getElem?_eq_getElem (by
  have:=(List.getElem?_eq_some_iff.1 hs).1
  have:=h.1;omega)⟩
 exact⟨t,ht,(h.2 o s t hs ht).nf g hd⟩
section
variable {n T E:Nat} {w w':Wd} {m:Ms} {l:List Ms} {i:Nat} {s t:Site} {out:List Ms} {k:Nat}
def Ej(c d:Nat)(g:Int)(w:Wd):Prop:=w.cf d g∧(w.cf c g∨(∃m∈w.aI,m.kind=8∧m.slot=g∧m.aR=(c:Int)∧m.to=(d:Int))∨∃m∈w.aI,m.kind=7∧m.some_=true∧m.slot=g∧m.to=(c:Int))
theorem Ej.step{c d:Nat}{g:Int}(h:Ej c d g w)(v:Dv n T E w w' m l i s t out k)(hn:w'.aI=l++out):Ej c d g w':=by
 obtain⟨h1,h2⟩:=h
 refine⟨v.mo.cf h1,?_⟩
 have hi:=v.eS.1
 rcases h2 with h2|h2|h2
 ·exact .inl (v.mo.cf h2)
 ·rcases v.msg hn h2 with⟨a1,a2,a3,a4⟩|h2
  ·obtain⟨u,hu,hd⟩:=h1
   have:d=i:=by omega
   subst this
   rw[v.hs]at hu;injection hu with hu;subst hu
   obtain⟨x,hx,b1,b2,b3,b4⟩:=v.dg.k8 a1 (by rw[a2];exact hd)
   exact .inr (.inr (v.out hn ⟨x,hx,b1,b2,b3.trans a2,b4.trans a3⟩))
  ·exact .inr (.inl h2)
 ·rcases v.msg hn h2 with⟨a1,a2,a3,a4⟩|h2
  ·have:c=i:=by omega
   subst this
   exact .inl ⟨t,v.at_,by rw[←a3];exact v.dg.k7 a1 a2⟩
  ·exact .inr (.inr h2)
theorem Ej.done{c d:Nat}{g:Int}(h:Ej c d g w)(hn:w.aI= []):w.cf c g:=by
 rcases h.2 with h|⟨m,hm,-⟩|⟨m,hm,-⟩
 ·exact h
 ·rw[hn]at hm;cases hm
 ·rw[hn]at hm;cases hm
def zj(o:Nat)(g:Int)(w:Wd):Prop:=w.used o g∨∃m∈w.aI,m.kind=8∧m.slot=g∧m.some_=true∧m.to=(o:Int)
theorem zj.step{o:Nat}{g:Int}(ho:bK g n=(o:Int))(h:zj o g w)(v:Dv n T E w w' m l i s t out k)(hn:w'.aI=l++out):zj o g w':=by
 have hi:=v.eS.1
 rcases h with h|h
 ·exact .inl (v.mo.used h)
 ·rcases v.msg hn h with⟨a1,a2,a3,a4⟩|h
  ·have:o=i:=by omega
   subst this
   have:=(v.dg.VB a1 a3 (by rw[a2];exact ho)).1
   rw[a2]at this
   exact .inl ⟨t,v.at_,this⟩
  ·exact .inr h
theorem zj.done{o:Nat}{g:Int}(h:zj o g w)(hn:w.aI= []):w.used o g:=by
 rcases h with h|⟨m,hm,-⟩
 ·exact h
 ·rw[hn]at hm;cases hm
def uI(o:Nat)(g:Int)(b:Bool)(w:Wd):Prop:=w.cf o g∨(∃s,w.ss[o]? =some s∧s.fresh g=true)∧(∀(i:Nat) s,w.ss[i]? =some s→aD g s.rs=none)∧(∀m∈w.aI,m.slot=g→¬ (m.kind=1∨m.kind=3∨m.kind=5))∧(b=true→∃m∈w.aI,m.kind=8∧m.slot=g∧m.some_=true∧m.to=(o:Int))
theorem uI.step{o:Nat}{g:Int}{b:Bool}(ho:bK g n=(o:Int))(h:uI o g b w)(v:Dv n T E w w' m l i s t out k)(hn:w'.aI=l++out):uI o g b w':=by
 have hi:=v.eS.1
 have lz:m∈w.aI:=by rw[v.aI];simp
 rcases h with h|⟨⟨u,hu,hf⟩,h2,h3,h4⟩
 ·exact .inl (v.mo.cf h)
 have hr:∀(i:Nat) s,w'.ss[i]? =some s→aD g s.rs=none:=fun j a ha=>by
  rcases v.other ha with⟨e1,e2⟩|⟨-,e2⟩
  ·subst e1 e2
   cases hc:aD g a.rs with
   |none=>rfl
   |some r=>
    obtain⟨r0,h0,-⟩:=v.dl.quiet g r hc
    rw[h2 j s v.hs]at h0;cases h0
  ·exact h2 j a e2
 have dm:∀x∈w'.aI,x.slot=g→¬ (x.kind=1∨x.kind=3∨x.kind=5):=fun x hx hg hk=>by
  rw[hn]at hx
  rcases mem_append.1 hx with hx|hx
  ·exact h3 x (by rw[v.aI];simp[hx]) hg hk
  ·obtain⟨k1,k2,k3,r,k4,-⟩:=v.dl.D4 x hx hk
   rw[←k3,hg,h2 i s v.hs]at k4;cases k4
 by_cases c:o=i
 ·subst c
  have:=v.hs
  rw[hu]at this;injection this with this;subst this
  by_cases hk:t.dec g=none
  ·right
   have qE:t.fresh g=true:=by
    rcases v.dl.fr g hf with q|q|⟨q1,q2⟩
    ·exact q
    ·exact absurd hk q
    ·exact absurd q2 (h3 m lz q1)
   refine⟨⟨t,v.at_,qE⟩,hr,dm,fun hb=>?_⟩
   rcases v.msg hn (h4 hb) with⟨a1,a2,a3,a4⟩|q
   ·have:=(v.dg.VB a1 a3 (by rw[a2];exact ho)).1
    rw[a2,qE]at this;cases this
   ·exact q
  ·exact .inl ⟨t,v.at_,hk⟩
 ·right
  refine⟨⟨u,by rw[v.off c];exact hu,hf⟩,hr,dm,fun hb=>?_⟩
  rcases v.msg hn (h4 hb) with⟨a1,a2,a3,a4⟩|q
  ·exact absurd (by omega) c
  ·exact q
theorem uI.done{o:Nat}{g:Int}(h:uI o g true w)(hn:w.aI= []):w.cf o g:=by
 rcases h with h|⟨-,-,-,h⟩
 ·exact h
 ·obtain⟨m,hm,-⟩:=h rfl
  rw[hn]at hm;cases hm
def zk(o:Nat)(g:Int)(w:Wd):Prop:=w.used o g∨∃m∈w.aI,m.slot=g∧m.to=(o:Int)∧1≤m.bU∧m.cu=m.aR∧(m.kind=3∨m.kind=5∧m.some_=true)
theorem zk.step{o:Nat}{g:Int}(h:zk o g w)(v:Dv n T E w w' m l i s t out k)(hn:w'.aI=l++out):zk o g w':=by
 have hi:=v.eS.1
 rcases h with h|h
 ·exact .inl (v.mo.used h)
 ·rcases v.msg hn h with⟨a1,a2,a3,a4,a5⟩|h
  ·have:o=i:=by omega
   subst this
   have hf:t.fresh m.slot=false:=by
    rcases a5 with a5|⟨a5,a6⟩
    ·exact(v.dg.k3 a5 a3 a4).1
    ·exact(v.dg.k5 a5 a6 a3 a4).1
   rw[a1]at hf
   exact .inl ⟨t,v.at_,hf⟩
  ·exact .inr h
theorem zk.done{o:Nat}{g:Int}(h:zk o g w)(hn:w.aI= []):w.used o g:=by
 rcases h with h|⟨m,hm,-⟩
 ·exact h
 ·rw[hn]at hm;cases hm
def xu(o c:Nat)(w:Wd):Prop:=(∃s,w.ss[o]? =some s∧s.wt.getD c 0=0)∨∃m∈w.aI,m.aR=(c:Int)∧m.to=(o:Int)
theorem vu(l:List Int)(a c:Nat)(h:l.getD c 0=0∨a=c):(l.set a 0).getD c 0=0:=by
 rw[List.getD_eq_getElem?_getD]
 by_cases e:a=c
 ·subst e
  by_cases hl:a<l.length
  ·rw[List.getElem?_set_self hl];rfl
  ·rw[List.getElem?_eq_none (by rw[length_set];omega)];rfl
 ·rw[List.getElem?_set_ne e,←List.getD_eq_getElem?_getD]
  rcases h with h|h
  ·exact h
  ·exact absurd h e
theorem xu.step{o c:Nat}(h:xu o c w)(v:Dv n T E w w' m l i s t out k)(hn:w'.aI=l++out):xu o c w':=by
 have hi:=v.eS.1
 rcases h with⟨u,hu,h⟩|h
 ·by_cases e:o=i
  ·subst e
   have:=v.hs
   rw[hu]at this;injection this with this;subst this
   exact .inl ⟨t,v.at_,by rw[v.wt];exact vu _ _ _ (.inl h)⟩
  ·exact .inl ⟨u,by rw[v.off e];exact hu,h⟩
 ·rcases v.msg hn h with⟨a1,a2⟩|h
  ·have:o=i:=by omega
   subst this
   exact .inl ⟨t,v.at_,by rw[v.wt];exact vu _ _ _ (.inr (by omega))⟩
  ·exact .inr h
theorem xu.done{o c:Nat}(h:xu o c w)(hn:w.aI= []):∃s,w.ss[o]? =some s∧s.wt.getD c 0=0:=by
 rcases h with h|⟨m,hm,-⟩
 ·exact h
 ·rw[hn]at hm;cases hm
end
def JS(o c:Nat)(x:Int)(b:Bl)(r:Rn)(aI:List Ms):Prop:=
 (c:Int)∈r.pr.map Pm.f∨(∃m∈aI,m.kind=3∧m.slot=x∧m.aR=(o:Int)∧m.to=(c:Int)∧m.aC=b)∨(∃m∈aI,m.kind=4∧m.slot=x∧m.aR=(c:Int)∧m.to=(o:Int)∧m.aC=b)∨
  ∃m∈aI,m.kind=7∧m.some_=true∧m.slot=x∧m.to=(o:Int)
def JT(o c:Nat)(x:Int)(b:Bl)(r:Rn)(aI:List Ms):Prop:=
 ((c:Int),b)∈r.vt∨(∃m∈aI,m.kind=5∧m.some_=true∧m.slot=x∧m.aR=(o:Int)∧m.to=(c:Int)∧m.aC=b)∨(∃m∈aI,m.kind=6∧m.slot=x∧m.aR=(c:Int)∧m.to=(o:Int)∧m.aC=b)∨
  ∃m∈aI,m.kind=7∧m.some_=true∧m.slot=x∧m.to=(o:Int)
def Ek(n o:Nat)(x:Int)(b:Bl)(w:Wd):Prop:=w.cf o x∨
 (∀(j:Nat) s,w.ss[j]? =some s→¬ b.lt (s.stat x).p)∧(∀m∈w.aI,m.slot=x→(m.kind=1∨m.kind=3∨m.kind=5)→¬ b.lt m.aC)∧
 ∃s r,w.ss[o]? =some s∧aD x s.rs=some r∧r.aC=b∧
  (r.so=false∧(∀c:Nat,c<n→c≠o→JS o c x b r w.aI)∨r.so=true∧((o:Int),b)∈r.vt∧∀c:Nat,c<n→c≠o→JT o c x b r w.aI)
section
variable {n T E:Nat} {w w':Wd} {m:Ms} {l:List Ms} {i:Nat} {s t:Site} {out:List Ms} {k:Nat}
theorem JS.step{o c:Nat}{x:Int}{b:Bl}{r r':Rn}(hb:b.s=(o:Int))(hb1:1≤b.r)(pR:∀(j:Nat) s,w.ss[j]? =some s→¬ b.lt (s.stat x).p)(v:Dv n T E w w' m l i s t out k)(hn:w'.aI=l++out)(h:JS o c x b r w.aI)(hr:∀f∈r.pr.map Pm.f,f∈r'.pr.map Pm.f)(h4:m.kind=4→m.slot=x→m.aR=(c:Int)→m.to=(o:Int)→m.aC=b→w'.cf o x∨m.aR∈r'.pr.map Pm.f):w'.cf o x∨JS o c x b r' w'.aI:=by
 have hi:=v.eS.1
 rcases h with h|h|h|h
 ·exact .inr (.inl (hr _ h))
 ·rcases v.msg hn h with⟨a1,a2,a3,a4,a5⟩|h
  ·right
   have e1:m.bU=b.r:=by rw[←a5];rfl
   have e2:m.cu=b.s:=by rw[←a5];rfl
   have hp:=pR i s v.hs
   obtain⟨-,q⟩:=v.dg.k3 a1 (by omega) (by omega)
   rcases q (by rw[a5,a2];exact hp) with⟨y,hy,b1,b2,b3,b4⟩|⟨y,hy,b1,b2,b3,b4⟩
   ·exact .inr (.inr (.inr (v.out hn ⟨y,hy,b1,b2,b3.trans a2,b4.trans a3⟩)))
   ·obtain⟨-,o2,-⟩:=v.dl.outs y hy
    exact .inr (.inr (.inl (v.out hn ⟨y,hy,b1,b2.trans a2,by omega,b3.trans a3,b4.trans a5⟩)))
  ·exact .inr (.inr (.inl h))
 ·rcases v.msg hn h with⟨a1,a2,a3,a4,a5⟩|h
  ·rcases h4 a1 a2 a3 a4 a5 with q|q
   ·exact .inl q
   ·rw[a3]at q;exact .inr (.inl q)
  ·exact .inr (.inr (.inr (.inl h)))
 ·rcases v.msg hn h with⟨a1,a2,a3,a4⟩|h
  ·left
   have:o=i:=by omega
   subst this
   exact⟨t,v.at_,by rw[←a3];exact v.dg.k7 a1 a2⟩
  ·exact .inr (.inr (.inr (.inr h)))
theorem JT.step{o c:Nat}{x:Int}{b:Bl}{r r':Rn}(hb:b.s=(o:Int))(hb1:1≤b.r)(pR:∀(j:Nat) s,w.ss[j]? =some s→¬ b.lt (s.stat x).p)(v:Dv n T E w w' m l i s t out k)(hn:w'.aI=l++out)(h:JT o c x b r w.aI)(hr:∀f∈r.vt,f∈r'.vt)(h6:m.kind=6→m.slot=x→m.aR=(c:Int)→m.to=(o:Int)→m.aC=b→w'.cf o x∨(m.aR,b)∈r'.vt):w'.cf o x∨JT o c x b r' w'.aI:=by
 have hi:=v.eS.1
 rcases h with h|h|h|h
 ·exact .inr (.inl (hr _ h))
 ·rcases v.msg hn h with⟨a1,a0,a2,a3,a4,a5⟩|h
  ·right
   have e1:m.bU=b.r:=by rw[←a5];rfl
   have e2:m.cu=b.s:=by rw[←a5];rfl
   have hp:=pR i s v.hs
   obtain⟨-,q⟩:=v.dg.k5 a1 a0 (by omega) (by omega)
   rcases q (by rw[a5,a2];exact hp) with⟨y,hy,b1,b2,b3,b4⟩|⟨y,hy,b1,b2,b3,b4⟩
   ·exact .inr (.inr (.inr (v.out hn ⟨y,hy,b1,b2,b3.trans a2,b4.trans a3⟩)))
   ·obtain⟨-,o2,-⟩:=v.dl.outs y hy
    exact .inr (.inr (.inl (v.out hn ⟨y,hy,b1,b2.trans a2,by omega,b3.trans a3,b4.trans a5⟩)))
  ·exact .inr (.inr (.inl h))
 ·rcases v.msg hn h with⟨a1,a2,a3,a4,a5⟩|h
  ·rcases h6 a1 a2 a3 a4 a5 with q|q
   ·exact .inl q
   ·rw[a3]at q;exact .inr (.inl q)
  ·exact .inr (.inr (.inr (.inl h)))
 ·rcases v.msg hn h with⟨a1,a2,a3,a4⟩|h
  ·left
   have:o=i:=by omega
   subst this
   exact⟨t,v.at_,by rw[←a3];exact v.dg.k7 a1 a2⟩
  ·exact .inr (.inr (.inr (.inr h)))
theorem Ek.step{o:Nat}{x:Int}{b:Bl}{A:Nat→Int→Bool}(hb:b.s=(o:Int))(hb1:1≤b.r)(hc:Cl n T E A w)(h:Ek n o x b w)(v:Dv n T E w w' m l i s t out k)(hn:w'.aI=l++out):Ek n o x b w':=by
 have hi:=v.eS.1
 have lz:m∈w.aI:=by rw[v.aI];simp
 rcases h with h|⟨h1,h2,u,r,hu,hr,nA,h3⟩
 ·exact .inl (v.mo.cf h)
 have p1:∀(j:Nat) s,w'.ss[j]? =some s→¬ b.lt (s.stat x).p:=fun j a ha=>by
  rcases v.other ha with⟨e1,e2⟩|⟨-,e2⟩
  ·subst e1 e2
   exact v.dl.Ps x b hb1 (h1 j s v.hs) (fun e hk=>h2 m lz e hk)
  ·exact h1 j a e2
 have p2:∀y∈w'.aI,y.slot=x→(y.kind=1∨y.kind=3∨y.kind=5)→¬ b.lt y.aC:=fun y hy hg hk=>by
  rw[hn]at hy
  rcases mem_append.1 hy with hy|hy
  ·exact h2 y (by rw[v.aI];simp[hy]) hg hk
  ·obtain⟨k1,k2,k3,q,k4,k5,-⟩:=v.dl.D4 y hy hk
   rw[k5]
   have q1:=((hc.site i s v.hs).1.rs _ q k4).low
   rw[←k3,hg]at q1
   exact Bl.le_trans q1 (h1 i s v.hs)
 by_cases c:o=i
 ·subst c
  have:=v.hs
  rw[hu]at this;injection this with this;subst this
  by_cases hd:t.dec x=none
  ·right
   have jP:¬ r.aC.lt (u.stat x).p:=by rw[nA];exact h1 o u hu
   refine⟨p1,p2,?_⟩
   rcases h3 with⟨so,h3⟩|⟨so,hv,h3⟩
   ·by_cases BO:m.kind=4∧m.slot=x
    ·obtain⟨m4,mx⟩:=BO
     by_cases nI:r.aC=m.aC
     ·obtain⟨r',a1,a2,a3⟩:=v.dg.k4 m4 r (by rw[mx];exact hr) so nI (by rw[mx];exact jP)
      rw[mx]at a1
      refine⟨t,r',v.at_,a1,a2.trans nA,?_⟩
      rcases a3 with⟨b1,b2,b3⟩|⟨b1,b2,b3⟩
      ·left
       refine⟨b1,fun c c1 c2=>?_⟩
       rcases(h3 c c1 c2).step hb hb1 h1 v hn b2 (fun _ _ _ _ _=>.inr b3) with⟨a,ha,had⟩|q
       ·rw[v.at_]at ha;injection ha with ha;subst ha;exact absurd hd had
       ·exact q
      ·right
       refine⟨b1,by rw[←nA];exact b2,fun c c1 c2=>?_⟩
       obtain⟨y,hy,d1,d2,d3,d4,d5⟩:=b3 c c1 c2
       obtain⟨-,o2,-⟩:=v.dl.outs y hy
       exact .inr (.inl (v.out hn ⟨y,hy,d1,d5,d2.trans mx,o2,d3,d4.trans nA⟩))
     ·have a1:=v.dg.VC m4 r (by rw[mx];exact hr) (.inr nI)
      rw[mx]at a1
      refine⟨t,r,v.at_,a1,nA,.inl ⟨so,fun c c1 c2=>?_⟩⟩
      rcases(h3 c c1 c2).step hb hb1 h1 v hn (fun _ h=>h) (fun _ _ _ _ e=>absurd (nA.trans e.symm) nI) with⟨a,ha,had⟩|q
      ·rw[v.at_]at ha;injection ha with ha;subst ha;exact absurd hd had
      ·exact q
    ·have a1:aD x t.rs=some r:=by
      by_cases qF:m.kind=6∧m.slot=x
      ·have a1:=v.dg.VD qF.1 r (by rw[qF.2];exact hr) (.inl so)
       rw[qF.2]at a1;exact a1
      ·rcases v.dl.mb x r hr (by
        by_cases e:x=m.slot
        ·right
         exact⟨fun e4=>BO ⟨e4,e.symm⟩,fun e6=>qF ⟨e6,e.symm⟩⟩
        ·exact .inl e)with q|q
       ·exact absurd hd q
       ·exact q
     refine⟨t,r,v.at_,a1,nA,.inl ⟨so,fun c c1 c2=>?_⟩⟩
     rcases(h3 c c1 c2).step hb hb1 h1 v hn (fun _ h=>h) (fun e4 e _ _ _=>absurd ⟨e4,e⟩ BO) with⟨a,ha,had⟩|q
     ·rw[v.at_]at ha;injection ha with ha;subst ha;exact absurd hd had
     ·exact q
   ·by_cases qF:m.kind=6∧m.slot=x
    ·obtain⟨m6,mx⟩:=qF
     by_cases nI:r.aC=m.aC
     ·rcases v.dg.k6 m6 r (by rw[mx];exact hr) so nI with q|⟨r',a1,a2,a3,a4,a5⟩
      ·rw[mx]at q;exact absurd hd q
      ·rw[mx]at a1
       refine⟨t,r',v.at_,a1,a2.trans nA,.inr ⟨a3,a4 _ hv,fun c c1 c2=>?_⟩⟩
       rcases(h3 c c1 c2).step hb hb1 h1 v hn a4 (fun _ _ _ _ _=>.inr (by rw[←nA];exact a5)) with⟨a,ha,had⟩|q
       ·rw[v.at_]at ha;injection ha with ha;subst ha;exact absurd hd had
       ·exact q
     ·have a1:=v.dg.VD m6 r (by rw[mx];exact hr) (.inr nI)
      rw[mx]at a1
      refine⟨t,r,v.at_,a1,nA,.inr ⟨so,hv,fun c c1 c2=>?_⟩⟩
      rcases(h3 c c1 c2).step hb hb1 h1 v hn (fun _ h=>h) (fun _ _ _ _ e=>absurd (nA.trans e.symm) nI) with⟨a,ha,had⟩|q
      ·rw[v.at_]at ha;injection ha with ha;subst ha;exact absurd hd had
      ·exact q
    ·have a1:aD x t.rs=some r:=by
      by_cases BO:m.kind=4∧m.slot=x
      ·have a1:=v.dg.VC BO.1 r (by rw[BO.2];exact hr) (.inl so)
       rw[BO.2]at a1;exact a1
      ·rcases v.dl.mb x r hr (by
        by_cases e:x=m.slot
        ·right
         exact⟨fun e4=>BO ⟨e4,e.symm⟩,fun e6=>qF ⟨e6,e.symm⟩⟩
        ·exact .inl e)with q|q
       ·exact absurd hd q
       ·exact q
     refine⟨t,r,v.at_,a1,nA,.inr ⟨so,hv,fun c c1 c2=>?_⟩⟩
     rcases(h3 c c1 c2).step hb hb1 h1 v hn (fun _ h=>h) (fun e6 e _ _ _=>absurd ⟨e6,e⟩ qF) with⟨a,ha,had⟩|q
     ·rw[v.at_]at ha;injection ha with ha;subst ha;exact absurd hd had
     ·exact q
  ·exact .inl ⟨t,v.at_,hd⟩
 ·by_cases xv:w'.cf o x
  ·exact .inl xv
  right
  refine⟨p1,p2,u,r,by rw[v.off c];exact hu,hr,nA,?_⟩
  rcases h3 with⟨so,h3⟩|⟨so,hv,h3⟩
  ·left
   refine⟨so,fun d d1 d2=>?_⟩
   rcases(h3 d d1 d2).step hb hb1 h1 v hn (fun _ h=>h) (fun _ _ _ e _=>absurd (by omega) c)with q|q
   ·exact absurd q xv
   ·exact q
  ·right
   refine⟨so,hv,fun d d1 d2=>?_⟩
   rcases(h3 d d1 d2).step hb hb1 h1 v hn (fun _ h=>h) (fun _ _ _ e _=>absurd (by omega) c)with q|q
   ·exact absurd q xv
   ·exact q
theorem PC{n o:Nat}(h3:3≤n)(ho:o<n){l:List Int}(h:∀c:Nat,c<n→c≠o→(c:Int)∈l):fN l n=true:=by
 unfold fN
 rw[if_neg (by omega)]
 refine decide_eq_true ?_
 have hn:=lq l (n:Int)
 have hl:(((List.range n).filter fun j=>decide (j≠o)).map fun(c:Nat)=>(c:Int)).length≤((dE l (n:Int)).map Prod.fst).length:=by
  refine iZ ?_ fun x hx=>?_
  ·exact pairwise_map.2 (((nodup_range (n:=n)).sublist filter_sublist).imp fun h e=>h (by omega))
  ·obtain⟨c,hc,rfl⟩:=mem_map.1 hx
   obtain⟨hc,hne⟩:=mem_filter.1 hc
   have hc:=mem_range.1 hc
   have hne:=of_decide_eq_true hne
   have h2:(dX (c:Int) (dE l (n:Int))).isSome=true:=by
    rw[rV,Bool.and_eq_true,decide_eq_true_eq]
    refine⟨h c hc hne,?_⟩
    unfold dd;simp;omega
   obtain⟨u,hu⟩:=Option.isSome_iff_exists.1 h2
   rw[lK]at hu
   exact mem_map.2 ⟨_,bG hu,rfl⟩
 rw[length_map,length_map]at hl
 have:=vp n o ho
 unfold mW
 rw[if_neg (by omega)]
 omega
theorem Ek.done{o:Nat}{x:Int}{b:Bl}{A:Nat→Int→Bool}(ho:o<n)(hc:Cl n T E A w)(h:Ek n o x b w)(hn:w.aI= []):w.cf o x:=by
 rcases h with h|⟨-,-,u,r,hu,hr,nA,h3⟩
 ·exact h
 ·exfalso
  have hS:=(hc.site o u hu).1
  have hR:=hS.rs x r hr
  have no:∀{P:Ms→Prop},¬ ∃m∈w.aI,P m:=fun⟨m,hm,_⟩=>by rw[hn]at hm;cases hm
  rcases h3 with⟨so,h3⟩|⟨so,hv,h3⟩
  ·have q1:=(hR.no so).2.2
   rw[PC hS.n3 ho fun c c1 c2=>?_]at q1
   ·cases q1
   ·rcases h3 c c1 c2 with q|q|q|q
    ·exact q
    ·exact absurd q no
    ·exact absurd q no
    ·exact absurd q no
  ·have q1:=(hR.yes so).2
   rw[nA,Pp (by omega) fun c c1=>?_]at q1
   ·cases q1
   ·by_cases c2:c=o
    ·subst c2;exact hv
    ·rcases h3 c c1 c2 with q|q|q|q
     ·exact q
     ·exact absurd q no
     ·exact absurd q no
     ·exact absurd q no
end
namespace Qt
variable {n T E E':Nat} {w:Wd}
theorem rY(_:Qt n T E w)(dm:(w.aU n).aI=w.outs n){i:Nat}(hi:i<n){m:Ms}(hm:m∈w.told i):m∈(w.aU n).aI:=by
 rw[dm]
 exact mem_flatMap.2 ⟨i,mem_range.2 hi,hm⟩
theorem mi(h:Qt n T E w)(dF:Lo E' w)(eI:E≤E')(hE:E'≤126){i:Nat}{s:Site}(hs:w.ss[i]? =some s):∃t ys zs b f,(w.aU n).ss[i]? =some t∧Tk n T E' i s t (w.told i) ys zs b f:=by
 obtain⟨ys,zs,b,f,k⟩:=h.tk dF eI hE hs
 obtain⟨-,t2,-⟩:=w.qC n (by rw[h.len];exact Nat.le_refl _)
 have hi:i<n:=by rw[←h.len];exact(List.getElem?_eq_some_iff.1 hs).1
 have e:w.told i=s.tick.sync.2:=by unfold Wd.told;rw[hs]
 exact⟨s.tick.sync.1,ys,zs,b,f,by rw[t2,if_pos hi,hs];rfl,by rw[e];exact k⟩
theorem pZ(h:Qt n T E w)(dF:Lo E' w)(eI:E≤E')(hE:E'≤126){d:Nat}{g:Int}(hk:w.cf d g):(w.aU n).cf d g:=by
 obtain⟨s,hs,hd⟩:=hk
 obtain⟨t,ys,zs,b,f,ht,k⟩:=h.mi dF eI hE hs
 refine⟨t,ht,?_⟩
 rw[k.dec];split
 ·simp
 ·exact hd
theorem BP(h:Qt n T E w)(dF:Lo E' w)(eI:E≤E')(hE:E'≤126){d:Nat}{g:Int}(hk:w.used d g):(w.aU n).used d g:=by
 obtain⟨s,hs,hd⟩:=hk
 obtain⟨t,ys,zs,b,f,ht,k⟩:=h.mi dF eI hE hs
 exact⟨t,ht,k.fr g hd⟩
theorem yn(h:Qt n T E w)(dF:Lo E' w)(eI:E≤E')(hE:E'≤126)(dm:(w.aU n).aI=w.outs n){c d:Nat}{s:Site}(hs:w.ss[c]? =some s)(hd:d<n)(hne:d≠c)(h4:s.front<4096) :
  ∃m∈(w.aU n).aI,m.kind=8∧m.slot=(s.front:Int)∧m.some_=decide ((s.front:Int)<s.bF)∧m.aR=(c:Int)∧m.to=(d:Int):=by
 obtain⟨t,ys,zs,b,f,ht,k⟩:=h.mi dF eI hE hs
 have hc:c<n:=by rw[←h.len];exact(List.getElem?_eq_some_iff.1 hs).1
 have ca:=(h.site c s hs).1.me
 refine⟨(Site.dT f (decide ((f:Int)<s.bF))).ad c d,h.rY dm hc ?_,rfl,?_,?_,rfl,rfl⟩
 ·rw[k.outs,if_pos (by rw[k.VI];exact h4)]
  exact mem_append_right _ (Site.dH.2 ⟨d,hd,by rw[ca];exact hne,by rw[ca]⟩)
 ·rw[k.VI];rfl
 ·rw[k.VI];rfl
theorem VZ(h:Qt n T E w)(dF:Lo E' w)(eI:E≤E')(hE:E'≤126)(dm:(w.aU n).aI=w.outs n){c d:Nat}{s:Site}(hs:w.ss[c]? =some s)(hd:d<n)(hne:d≠c)(h4:s.front<4096)(hk:w.cf d (s.front:Int)):Ej c d (s.front:Int) (w.aU n):=by
 obtain⟨m,hm,m1,m2,-,m4,m5⟩:=h.yn dF eI hE dm hs hd hne h4
 exact⟨h.pZ dF eI hE hk,.inr (.inl ⟨m,hm,m1,m2,m4,m5⟩)⟩
theorem Mr(h:Qt n T E w)(dF:Lo E' w)(eI:E≤E')(hE:E'≤126)(dm:(w.aU n).aI=w.outs n){c o:Nat}{s:Site}(hs:w.ss[c]? =some s)(ho:o<n)(hne:o≠c)(h4:s.front<4096):xu o c (w.aU n):=by
 obtain⟨m,hm,-,-,-,m4,m5⟩:=h.yn dF eI hE dm hs ho hne h4
 exact .inr ⟨m,hm,m4,m5⟩
theorem V0(h:Qt n T E w)(dF:Lo E' w)(eI:E≤E')(hE:E'≤126)(dm:(w.aU n).aI=w.outs n){d o:Nat}{s:Site}(hs:w.ss[d]? =some s)(ho:o<n){e:Int × Rn}(he:e∈s.rs.take 8)(hx:bK e.1 n=(o:Int)):zk o e.1 (w.aU n):=by
 obtain⟨hS,-⟩:=h.site d s hs
 have hr:=hS.rs e.1 e.2 (hS.mb e (mem_of_mem_take he))
 have hd:d<n:=by rw[←h.len];exact(List.getElem?_eq_some_iff.1 hs).1
 have ca:=hS.me
 by_cases c:d=o
 ·subst c
  exact .inl (h.BP dF eI hE ⟨s,hs,fM hr.nz⟩)
 ·obtain⟨t,ys,zs,b,f,ht,k⟩:=h.mi dF eI hE hs
  have hm:(Site.asks e.2 e.1).ad d o∈w.told d:=by
   rw[k.outs]
   refine mem_append_left _ (mem_append_left _ (mem_append_left _ (mem_flatMap.2 ⟨e,he,Site.dH.2 ⟨o,ho,by rw[ca];exact fun e=>c e.symm,by rw[ca]⟩⟩)))
  refine .inr ⟨_,h.rY dm hd hm,?_⟩
  have oo:=hr.bs
  rw[ca]at oo
  have hbr:=hr.br
  unfold Site.asks
  by_cases so:e.2.so=true
  ·have h0:e.2.aC.r≠0:=fun h0=>by
    have:=(hr.yes so).1 h0
    rw[hx,ca]at this
    exact c (by omega)
   rw[if_pos so,if_neg h0]
   exact⟨rfl,rfl,by show 1≤e.2.aC.r;omega,oo,.inr ⟨rfl,rfl⟩⟩
  ·have so':e.2.so=false:=by simpa using so
   rw[if_neg so]
   exact⟨rfl,rfl,(hr.no so').1,oo,.inl rfl⟩
theorem Wa(h:Qt n T E w)(dF:Lo E' w)(eI:E≤E')(hE:E'≤126)(dm:(w.aU n).aI=w.outs n)(hw:∀(i:Nat) s,w.ss[i]? =some s→∀c:Nat,c<n→(cC s.me s.wt s.n).getD c 0≤2){o:Nat}{s t:Site}{ys:List Nat}{zs:List Int}{b:Int→Bl}{f:Nat}(hs:w.ss[o]? =some s)(ht:(w.aU n).ss[o]? =some t)(k:Tk n T E' o s t (w.told o) ys zs b f){z:Int}(hz:z∈zs)(Wc:∀(j:Nat) u,w.ss[j]? =some u→j≠o→(u.stat z).p.r<(b z).r):Ek n o z (b z) (w.aU n):=by
 obtain⟨hS,-⟩:=h.site o s hs
 have ho:o<n:=by rw[←h.len];exact(List.getElem?_eq_some_iff.1 hs).1
 have jg:=(k.tJ (hw o s hs) z hz).1
 have hzp:=k.BJ z hz
 by_cases cy:∃y∈ys,(y:Int)=z
 ·exact .inl ⟨t,ht,by rw[k.dec,if_pos cy];simp⟩
 have jP:∀(j:Nat) u r,w.ss[j]? =some u→aD z u.rs=some r→r.aC.r<(b z).r:=fun j u r hu hr=>by
  by_cases c:j=o
  ·subst c
   rw[hs]at hu;injection hu with hu;subst hu
   exact(k.zb z hz).2.2 r hr
  ·have q1:=((h.site j u hu).1.rs z r hr).low
   have q2:=Wc j u hu c
   unfold Bl.lt at q1;omega
 refine .inr ⟨fun j u hu=>?_,fun m hm eF hk=>?_,t,⟨b z,[⟨(o:Int),(s.stat z).so,(s.stat z).at_,(s.stat z).b⟩],false,[],[],0⟩,ht,?_,rfl,.inl ⟨rfl,fun c c1 c2=>.inr (.inl ?_)⟩⟩
 ·by_cases c:j=o
  ·subst c
   rw[ht]at hu;injection hu with hu;subst hu
   rw[k.st,if_pos hz]
   exact Bl.lt_irrefl _
  ·have hj:j<n:=by
    have q:=(List.getElem?_eq_some_iff.1 hu).1
    rw[Wd.gZ,h.len]at q;exact q
   obtain⟨v,hv⟩:=h.some_ hj
   obtain⟨u',lV,jZ,b',f',eC,k'⟩:=h.mi dF eI hE hv
   rw[hu]at eC;injection eC with eC;subst eC
   have q1:z∉jZ:=fun mc=>by
    have:=(k'.tJ (hw j v hv) z mc).1
    rw[jg]at this;exact c (by omega)
   rw[k'.st,if_neg q1]
   unfold Site.base
   split
   ·show ¬ (b z).lt ⟨0,(j:Int)⟩
    unfold Bl.lt;dsimp only;omega
   ·have:=Wc j v hv c
    unfold Bl.lt;omega
 ·rw[dm]at hm
  obtain⟨j,hj,hm⟩:=mem_flatMap.1 hm
  obtain⟨v,hv⟩:=h.some_ (mem_range.1 hj)
  obtain⟨u',lV,jZ,b',f',eC,k'⟩:=h.mi dF eI hE hv
  obtain⟨-,-,-,a4⟩:=k'.rY (h.site j v hv).1 eI hm
  rcases a4 with⟨e,he,c,rfl⟩|⟨k2,-⟩|⟨z',mc,c,rfl⟩|⟨k8,-⟩
  ·have q0:e.1=z:=by
    rw[←eF]
    show e.1=(Site.asks e.2 e.1).slot
    unfold Site.asks;split<;>rfl
   have q1:=jP j v e.2 hv (by rw[←q0];exact(h.site j v hv).1.mb e (mem_of_mem_take he))
   have q2:((Site.asks e.2 e.1).ad j c).aC=e.2.aC:=by
    show(Site.asks e.2 e.1).aC=_
    unfold Site.asks;split<;>rfl
   rw[q2]
   unfold Bl.lt;omega
  ·omega
  ·have q0:z'=z:=eF
   subst q0
   have q1:=(k'.tJ (hw j v hv) z' mc).1
   rw[jg]at q1
   have q2:j=o:=by omega
   subst q2
   rw[ht]at eC;injection eC with eC;subst eC
   have q3:=k'.rs z'
   have q4:=k.rs z'
   have q5:=k'.st z'
   have q6:=k.st z'
   rw[if_pos mc]at q5
   rw[if_pos hz]at q6
   have q7:b' z'=b z':=by
    have:=q5.symm.trans q6
    exact congrArg Sp.p this
   show ¬ (b z').lt (b' z')
   rw[q7];exact Bl.lt_irrefl _
  ·omega
 ·rw[k.rs,if_neg cy,if_pos hz]
 ·have ca:=hS.me
  refine⟨(Site.gF z (b z)).ad o c,h.rY dm ho ?_,rfl,rfl,rfl,rfl,rfl⟩
  rw[k.outs]
  exact mem_append_left _ (mem_append_right _ (mem_flatMap.2 ⟨z,hz,Site.dH.2 ⟨c,c1,by rw[ca];exact c2,by rw[ca]⟩⟩))
end Qt
namespace Qt
variable {n T E E':Nat} {w:Wd}
theorem We(h:Qt n T E w)(dF:Lo E' w)(eI:E≤E')(hE:E'≤126)(dm:(w.aU n).aI=w.outs n)(hw:∀(i:Nat) s,w.ss[i]? =some s→∀c:Nat,c<n→(cC s.me s.wt s.n).getD c 0≤2)(h3:1≤n)(h7:n≤7){d o g:Nat}{s u:Site}(hs:w.ss[d]? =some s)(ho:o<n)(hg:g % n=o)(hf:s.front=g)(h4:g<4096)(hA:(g:Int)<s.bF)(hu:w.ss[o]? =some u)(eP:u.fresh (g:Int)=true)(hno:∀(i:Nat) v,w.ss[i]? =some v→aD (g:Int) v.rs=none):uI o (g:Int) true (w.aU n):=by
 have hown:bK (g:Int) n=(o:Int):=by rw[gW h4 h3 h7,hg]
 obtain⟨t,ys,zs,b,f,ht,k⟩:=h.mi dF eI hE hu
 by_cases cy:∃y∈ys,(y:Int)=(g:Int)
 ·exact .inl ⟨t,ht,by rw[k.dec,if_pos cy];simp⟩
 have hnz:∀(j:Nat) v t' lV jZ b' f',w.ss[j]? =some v→(w.aU n).ss[j]? =some t'→Tk n T E' j v t' (w.told j) lV jZ b' f'→(g:Int)∉jZ:=fun j v t' lV jZ b' f' hv fy k' hz=>by
  obtain⟨q1,q2⟩:=k'.tJ (hw j v hv) _ hz
  rw[hown]at q1
  have:j=o:=by omega
  subst this
  rw[hu]at hv;injection hv with hv;subst hv
  rcases q2 with q2|⟨y,hy,e⟩
  ·rw[eP]at q2;cases q2
  ·have e':y=g:=by omega
   subst e'
   have q3:=(k'.dec (y:Int))
   rw[ht]at fy;injection fy with fy;subst fy
   rw[if_pos ⟨y,hy,rfl⟩,k.dec,if_neg cy]at q3
   have q4:=(Site.bo.1 eP).1
   rw[q4]at q3;cases q3
 obtain⟨f1,f2⟩:=Site.bo.1 eP
 have qE:t.fresh (g:Int)=true:=by
  refine Site.bo.2 ⟨by rw[k.dec,if_neg cy];exact f1,?_⟩
  rw[k.st,if_neg (hnz o u t ys zs b f hu ht k)]
  unfold Site.base
  rw[if_neg cy];exact f2
 refine .inr ⟨⟨t,ht,qE⟩,fun j v hv=>?_,fun m hm eF hk=>?_,fun _=>?_⟩
 ·have hj:j<n:=by
   have q:=(List.getElem?_eq_some_iff.1 hv).1
   rw[Wd.gZ,h.len]at q;exact q
  obtain⟨v0,hv0⟩:=h.some_ hj
  obtain⟨u',lV,jZ,b',f',eC,k'⟩:=h.mi dF eI hE hv0
  rw[hv]at eC;injection eC with eC;subst eC
  rw[k'.rs,if_neg (hnz j v0 v lV jZ b' f' hv0 hv k'),hno j v0 hv0]
  split<;>rfl
 ·rw[dm]at hm
  obtain⟨j,hj,hm⟩:=mem_flatMap.1 hm
  obtain⟨v,hv⟩:=h.some_ (mem_range.1 hj)
  obtain⟨u',lV,jZ,b',f',eC,k'⟩:=h.mi dF eI hE hv
  obtain⟨-,-,-,a4⟩:=k'.rY (h.site j v hv).1 eI hm
  rcases a4 with⟨e,he,c,rfl⟩|⟨k2,-⟩|⟨z,hz,c,rfl⟩|⟨k8,-⟩
  ·have q0:e.1=(g:Int):=by
    rw[←eF]
    show e.1=(Site.asks e.2 e.1).slot
    unfold Site.asks;split<;>rfl
   have q1:=(h.site j v hv).1.mb e (mem_of_mem_take he)
   rw[q0,hno j v hv]at q1;cases q1
  ·omega
  ·have q0:z=(g:Int):=eF
   subst q0
   exact hnz j v u' lV jZ b' f' hv eC k' hz
  ·omega
 ·by_cases e:d=o
  ·subst e
   rw[hs]at hu;injection hu with hu;subst hu
   rw[k.own g hg hA]at qE;cases qE
  ·obtain⟨m,hm,m1,m2,m3,m4,m5⟩:=h.yn dF eI hE dm hs ho (fun e'=>e e'.symm) (by omega)
   exact⟨m,hm,m1,by rw[m2,hf],by rw[m3,hf];exact dJ hA,m5⟩
end Qt
theorem BQ{α:Type}(L:AL α)(g:Nat)(hg:aD (g:Int) L=none):∀k s:Nat,s≤g→g<s+k→(∀x:Nat,s≤x→x<g→aD (x:Int) L≠none)→cN L k s=g
 |0,s,h1,h2,_=>by omega
 |k+1,s,h1,h2,h=>by
  unfold cN
  by_cases e:s=g
  ·subst e
   rw[hg];rfl
  ·obtain⟨v,hv⟩:=fG (h s (Nat.le_refl _) (by omega))
   rw[hv]
   exact BQ L g hg k (s+1) (by omega) (by omega) fun x hx hx2=>h x (by omega) hx2
theorem En{s:Site}{g:Nat}(hg:s.dec (g:Int)=none)(ht:s.taken≤g)(h4:g<4096)(h:∀x:Nat,x<g→s.dec (x:Int)≠none):s.front=g:=
 BQ s.lv g hg _ _ ht (by omega) fun x _ hx=>h x hx
theorem Eo(me:Int)(l:List Int)(c:Nat):∀n:Nat,(cC me l n).getD c 0≤l.getD c 0+1
 |0=>by unfold cC;omega
 |n+1=>by
  have ih:=Eo me l c n
  unfold cC
  split
  ·by_cases e:n=c
   ·subst e
    have hlen:=rm me l n
    rw[List.getD_eq_getElem?_getD]
    by_cases hl:n<(cC me l n).length
    ·rw[List.getElem?_set_self hl]
     exact Int.le_refl _
    ·rw[List.getElem?_eq_none (by rw[length_set];omega)]
     rw[List.getD_eq_getElem?_getD,List.getElem?_eq_none (by omega)]
     decide
   ·rw[List.getD_eq_getElem?_getD,List.getElem?_set_ne e,←List.getD_eq_getElem?_getD]
    exact ih
  ·exact ih
namespace Qt
variable {n T E:Nat} {w:Wd}
def RY(n:Nat)(w:Wd):Prop:=∀(i:Nat) s,w.ss[i]? =some s→∀c:Nat,c<n→c≠i→s.wt.getD c 0≤1
def vw(w:Wd):Prop:=∀(i:Nat) s,w.ss[i]? =some s→s.wt.getD i 0≤1
theorem Mt(h:Qt n T E w)(hc:RY n w)(ho:vw w):∀(i:Nat) s,w.ss[i]? =some s→∀c:Nat,c<n→(cC s.me s.wt s.n).getD c 0≤2:=fun i s hs c BR=>by
 have h1:=Eo s.me s.wt c s.n
 by_cases e:c=i
 ·subst e
  have:=ho c s hs;omega
 ·have:=hc i s hs c BR e;omega
end Qt
def It(o:Nat)(x:Int)(F:Nat)(w:Wd):Prop:=w.cf o x∨(∀(j:Nat) s,w.ss[j]? =some s→(s.stat x).p.r+1≤F)∧∀m∈w.aI,m.slot=x→(m.kind=1∨m.kind=3∨m.kind=5)→m.bU+1≤F
theorem It.step{n T E:Nat}{w w':Wd}{m:Ms}{l:List Ms}{i:Nat}{s t:Site}{out:List Ms}{k:Nat}{o F:Nat}{x:Int}{A:Nat→Int→Bool}(hF:2≤F)(hc:Cl n T E A w)(h:It o x F w)(v:Dv n T E w w' m l i s t out k)(hn:w'.aI=l++out):It o x F w':=by
 have lz:m∈w.aI:=by rw[v.aI];simp
 rcases h with h|⟨h1,h2⟩
 ·exact .inl (v.mo.cf h)
 refine .inr ⟨fun j a ha=>?_,fun y hy hg hk=>?_⟩
 ·rcases v.other ha with⟨e1,e2⟩|⟨-,e2⟩
  ·subst e1 e2
   have q1:=h1 j s v.hs
   obtain⟨S,hS⟩:∃S:Int,(s.stat x).p.s≤S∧m.cu≤S∧(a.stat x).p.s≤S:=⟨max (max (s.stat x).p.s m.cu) (a.stat x).p.s,by omega,by omega,by omega⟩
   have q2:=v.dl.Ps x ⟨(F:Int)-1,S⟩ (by show 1≤(F:Int)-1;omega) (by unfold Bl.lt;dsimp only;omega) (fun e hk=>by
    have q3:=h2 m lz e hk
    show ¬ (⟨(F:Int)-1,S⟩:Bl).lt ⟨m.bU,m.cu⟩
    unfold Bl.lt;dsimp only;omega)
   unfold Bl.lt at q2
   dsimp only at q2
   omega
  ·exact h1 j a e2
 ·rw[hn]at hy
  rcases mem_append.1 hy with hy|hy
  ·exact h2 y (by rw[v.aI];simp[hy]) hg hk
  ·obtain⟨k1,k2,k3,q,k4,k5,-⟩:=v.dl.D4 y hy hk
   have q1:=((hc.site i s v.hs).1.rs _ q k4).low
   rw[←k3,hg]at q1
   have q2:=h1 i s v.hs
   have q3:y.bU=q.aC.r:=congrArg Bl.r k5
   unfold Bl.lt at q1;omega
theorem It.done{o F:Nat}{x:Int}{w:Wd}(h:It o x F w)(hk:¬ w.cf o x):∀(j:Nat) s,w.ss[j]? =some s→(s.stat x).p.r+1≤F:=by
 rcases h with h|h
 ·exact absurd h hk
 ·exact h.1
structure Cw(n T F:Nat)(w:Wd):Prop where
 qt:Qt n T F w
 n3:3≤n
 n7:n≤7
 F2:2≤F
 Wf:F≤126
 calm:Qt.RY n w
 PF:Qt.vw w
 taken:∀(i:Nat) s,w.ss[i]? =some s→∀x:Nat,x<s.taken→s.dec (x:Int)≠none
 aC:∀(x:Int)(o:Nat),bK x n=(o:Int)→¬ w.cf o x→∀(j:Nat) s,w.ss[j]? =some s→(s.stat x).p.r+1≤F
namespace Cw
variable {n T F:Nat} {w:Wd}
theorem rv(h:Cw n T F w):∀(i:Nat) s,w.ss[i]? =some s→∀c:Nat,c<n→(cC s.me s.wt s.n).getD c 0≤2:=h.qt.Mt h.calm h.PF
theorem tk0(h:Cw n T F w){i:Nat}{s:Site}(hs:w.ss[i]? =some s)(hF:F+1≤126):∃ys zs b f,Tk n T (F+1) i s s.tick.sync.1 s.tick.sync.2 ys zs b f:=by
 obtain⟨h1,h2,h3,h4⟩:=h.qt.site i s hs
 obtain⟨t,out,ys,zs,b,f,e,k⟩:=h1.tick (E':=F+1) (by omega) h2 hF h3 (fun x _=>by have:=(h1.st x).1;omega) (by omega)
 rw[e]
 exact⟨ys,zs,b,f,k⟩
theorem lo(h:Cw n T F w)(hF:F+1≤126):Lo F w:=fun i s hs x hx=>by
 obtain⟨ys,zs,b,f,k⟩:=h.tk0 hs hF
 rw[←k.late]at hx
 have q1:=(k.tJ (h.rv i s hs) x hx).1
 have q2:=(k.BJ x hx).2.2.1
 exact h.aC x i q1 (fun⟨u,hu,hd⟩=>by
  rw[hs]at hu;injection hu with hu;subst hu;exact hd q2) i s hs
end Cw
def Iu(n F:Nat)(w:Wd):Prop:=∀(x:Int)(o:Nat),bK x n=(o:Int)→(∃b:Bl,b.s=(o:Int)∧1≤b.r∧Ek n o x b w)∨It o x F w
theorem Iu.step{n T E:Nat}{w w':Wd}{m:Ms}{l:List Ms}{i:Nat}{s t:Site}{out:List Ms}{k:Nat}{F:Nat}{A:Nat→Int→Bool}(hF:2≤F)(hc:Cl n T E A w)(h:Iu n F w)(v:Dv n T E w w' m l i s t out k)(hn:w'.aI=l++out):Iu n F w':=fun x o ho=>by
 rcases h x o ho with⟨b,b1,b2,g⟩|g
 ·exact .inl ⟨b,b1,b2,g.step b1 b2 hc v hn⟩
 ·exact .inr (g.step hF hc v hn)
theorem pf{x:Int}{n o:Nat}(h3:1≤n)(h7:n≤7)(h:bK x n=(o:Int)):o<n:=by
 by_cases hx:0≤x∧x<4096
 ·obtain⟨y,rfl⟩:∃y:Nat,x=(y:Int):=⟨x.toNat,by omega⟩
  rw[gW (by omega) h3 h7]at h
  have:=Nat.mod_lt y (show 0<n by omega)
  omega
 ·unfold bK at h
  rw[if_pos (by omega)]at h
  omega
namespace Cw
variable {n T F:Nat} {w:Wd}
theorem TE(h:Cw n T F w)(hF:F+1≤126)(dm:(w.aU n).aI=w.outs n):Iu n F (w.aU n):=fun x o ho=>by
 have dF:=h.lo hF
 have hq:=h.qt
 have hlt:=pf (by have:=h.n3;omega) h.n7 ho
 obtain⟨s,hs⟩:=hq.some_ hlt
 obtain⟨t,ys,zs,b,f,ht,k⟩:=hq.mi dF (Nat.le_refl F) (by omega) hs
 by_cases xv:w.cf o x
 ·exact .inr (.inl (hq.pZ dF (Nat.le_refl F) (by omega) xv))
 have nI:=h.aC x o ho xv
 by_cases hz:x∈zs∧(b x).r=F
 ·left
  refine⟨b x,(k.BJ x hz.1).2.2.2.1,(k.BJ x hz.1).2.2.2.2,hq.Wa dF (Nat.le_refl F) (by omega) dm h.rv hs ht k hz.1 fun j u hu _=>?_⟩
  have:=nI j u hu
  omega
 ·right
  right
  have hb:∀(j:Nat) u t' lV jZ b' f',w.ss[j]? =some u→(w.aU n).ss[j]? =some t'→Tk n T F j u t' (w.told j) lV jZ b' f'→x∈jZ→(b' x).r+1≤F:=fun j u t' lV jZ b' f' hu fy k' mc=>by
   have q1:=(k'.tJ (h.rv j u hu) x mc).1
   rw[ho]at q1
   have:j=o:=by omega
   subst this
   rw[ht]at fy;injection fy with fy;subst fy
   rw[hs]at hu;injection hu with hu;subst hu
   have q2:=k.late
   have q3:=k'.late
   have hzz:x∈zs:=by rw[q2,←q3];exact mc
   have q5:=k'.st x
   have q6:=k.st x
   rw[if_pos mc]at q5
   rw[if_pos hzz]at q6
   have q7:b' x=b x:=congrArg Sp.p (q5.symm.trans q6)
   have q8:(b x).r≠F:=fun e=>hz ⟨hzz,e⟩
   have q9:=(k.sm.st x).1
   rw[q6]at q9
   have vr:(b x).r≤F:=q9
   rw[q7];omega
  refine⟨fun j u hu=>?_,fun m hm eF hk=>?_⟩
  ·have hj:j<n:=by
    have q:=(List.getElem?_eq_some_iff.1 hu).1
    rw[Wd.gZ,hq.len]at q;exact q
   obtain⟨v,hv⟩:=hq.some_ hj
   obtain⟨u',lV,jZ,b',f',eC,k'⟩:=hq.mi dF (Nat.le_refl F) (by omega) hv
   rw[hu]at eC;injection eC with eC;subst eC
   rw[k'.st]
   split
   ·rename_i mc
    exact hb j v u lV jZ b' f' hv hu k' mc
   ·unfold Site.base
    split
    ·show(0:Int)+1≤F
     have:=h.F2;omega
    ·exact nI j v hv
  ·rw[dm]at hm
   obtain⟨j,hj,hm⟩:=mem_flatMap.1 hm
   obtain⟨v,hv⟩:=hq.some_ (mem_range.1 hj)
   obtain⟨u',lV,jZ,b',f',eC,k'⟩:=hq.mi dF (Nat.le_refl F) (by omega) hv
   obtain⟨-,-,-,a4⟩:=k'.rY (hq.site j v hv).1 (Nat.le_refl F) hm
   rcases a4 with⟨e,he,c,rfl⟩|⟨k2,-⟩|⟨z,mc,c,rfl⟩|⟨k8,-⟩
   ·have q0:e.1=x:=by
     rw[←eF]
     show e.1=(Site.asks e.2 e.1).slot
     unfold Site.asks;split<;>rfl
    have q1:=((hq.site j v hv).1.rs x e.2 (by rw[←q0];exact(hq.site j v hv).1.mb e (mem_of_mem_take he))).low
    have q2:((Site.asks e.2 e.1).ad j c).bU=e.2.aC.r:=by
     show(Site.asks e.2 e.1).bU=_
     unfold Site.asks;split<;>rfl
    have q3:=nI j v hv
    rw[q2]
    unfold Bl.lt at q1;omega
   ·omega
   ·have q0:z=x:=eF
    subst q0
    exact hb j v u' lV jZ b' f' hv eC k' mc
   ·omega
end Cw
theorem oN{α:Type}(L:AL α)(g:Nat)(hg:aD (g:Int) L=none):∀k s:Nat,s≤g→cN L k s≤g
 |0,s,h=>h
 |k+1,s,h=>by
  unfold cN
  by_cases e:s=g
  ·subst e;rw[hg];exact Nat.le_refl _
  ·split
   ·exact oN L g hg k (s+1) (by omega)
   ·exact h
theorem yo(l:List Int)(a c:Nat):(l.set a 0).getD c 0=0∨(l.set a 0).getD c 0=l.getD c 0:=by
 by_cases e:a=c
 ·exact .inl (vu l a c (.inr e))
 ·right
  rw[List.getD_eq_getElem?_getD,List.getElem?_set_ne e,←List.getD_eq_getElem?_getD]
theorem pg(me:Nat)(l:List Int):∀i,(cC (me:Int) l i).getD me 0=l.getD me 0
 |0=>rfl
 |i+1=>by
  unfold cC
  split
  ·rename_i h
   have hne:i≠me:=fun e=>h.1 (by rw[e])
   rw[List.getD_eq_getElem?_getD,List.getElem?_set_ne hne,←List.getD_eq_getElem?_getD]
   exact pg me l i
  ·exact pg me l i
namespace Cw
variable {n T F:Nat} {w:Wd}
theorem iw(h:Cw n T F w){i:Nat}{s:Site}(hs:w.ss[i]? =some s):s.taken≤T∧s.front≤T∧T<4096:=by
 obtain⟨hS,-⟩:=h.qt.site i s hs
 have hT:s.dec (T:Int)=none:=by
  cases hc:s.dec (T:Int) with
  |none=>rfl
  |some v=>have:=(hS.lv _ v hc).2.1;omega
 have h1:s.taken≤T:=by
  apply Classical.byContradiction;intro hc
  exact h.taken i s hs T (by omega) hT
 refine⟨h1,oN s.lv T hT _ _ h1,?_⟩
 have:=hS.T6;have:=hS.n7;omega
theorem round(h:Cw n T F w)(hF:F+1≤126)(hd:∀j,j<n→Qt.cZ n T w j+128*n+32*w.begun+4000≤1048576)(dL:∀k,k≤4326→∀x∈(Wd.drain k (w.aU n)).1.aI,x.bL){J:Wd→Prop}(VX:(w.aU n).aI=w.outs n→J (w.aU n))(hJ:∀(v v':Wd) m l i s t out k,Cl n T F w.act v→mL (w.aU n) v→J v→Dv n T F v v' m l i s t out k→v'.aI=l++out→Cl n T F w.act v'→J v') :
  ∃d w',d≤4326∧w.round=(w',d)∧Cw n T F w'∧mL (w.aU n) w'∧J w'∧Iu n F w'∧Cl n T F w.act w'∧∀j,j<n→Qt.cZ n T w' j≤Qt.cZ n T w j+128*n+32*w.begun:=by
 have dF:=h.lo hF
 have hq:=h.qt
 have dm:=(hq.aU h.n3 h.n7 dF (Nat.le_refl F) (by omega) (fun j hj=>by have:=hd j hj;omega) (fun x hx=>dL 0 (by omega) x hx)).1
 have Mu:=(hq.aU h.n3 h.n7 dF (Nat.le_refl F) (by omega) (fun j hj=>by have:=hd j hj;omega) (fun x hx=>dL 0 (by omega) x hx)).2.1
 have hW0:∀o c:Nat,o<n→c<n→o≠c→xu o c (w.aU n):=fun o c ho hc hne=>by
  obtain⟨s,hs⟩:=hq.some_ hc
  have:=h.iw hs
  exact hq.Mr dF (Nat.le_refl F) (by omega) dm hs ho hne (by omega)
 have Wg:Qt.vw (w.aU n):=fun i t ht=>by
  have hi:i<n:=by
   have q:=(List.getElem?_eq_some_iff.1 ht).1
   rw[Wd.gZ,hq.len]at q;exact q
  obtain⟨s,hs⟩:=hq.some_ hi
  obtain⟨t',ys,zs,b,f,fy,k⟩:=hq.mi dF (Nat.le_refl F) (by omega) hs
  rw[ht]at fy;injection fy with fy;subst fy
  have ca:=(hq.site i s hs).1.me
  rw[k.gj.1]
  have:=pg s.me s.wt s.n
  rw[ca]at this ⊢
  rw[this]
  exact h.PF i s hs
 obtain⟨d,w',d1,d2,d3,d4,⟨j1,j2,j3,j4,j5⟩,d6⟩:=hq.round (J:=fun v=>J v∧Iu n F v∧(∀o c:Nat,o<n→c<n→o≠c→xu o c v)∧Qt.vw v∧Cl n T F w.act v) h.n3 h.n7 dF (Nat.le_refl F) (by omega) hd dL ⟨VX dm,h.TE hF dm,hW0,Wg,Mu⟩
  (
   fun v v' m l i s t out k c mo ⟨a1,a2,a3,a4,_⟩ dv hn c'=>⟨hJ v v' m l i s t out k c mo a1 dv hn c',a2.step h.F2 c dv hn,fun o c ho hc hne=>(a3 o c ho hc hne).step dv hn,fun j u hu=>by
   rcases dv.other hu with⟨e1,e2⟩|⟨-,e2⟩
   ·subst e1 e2
    rw[dv.wt]
    rcases yo s.wt m.aR.toNat j with q|q
    ·rw[q];decide
    ·rw[q];exact a4 j s dv.hs
   ·exact a4 j u e2,c'⟩)
 refine⟨d,w',d1,d2,⟨d3,h.n3,h.n7,h.F2,h.Wf,fun i s hs c hc hne=>?_,j4,fun i t ht x hx=>?_,fun x o ho hk=>?_⟩,d4,j1,j2,j5,d6⟩
 ·have hi:i<n:=by rw[←d3.len];exact(List.getElem?_eq_some_iff.1 hs).1
  obtain⟨u,hu,hz⟩:=(j3 i c hi hc (fun e=>hne e.symm)).done d3.aI
  rw[hs]at hu;injection hu with hu;subst hu
  omega
 ·obtain⟨u,hu,mo⟩:=d4.at_ ht
  have hi:i<n:=by
   have q:=(List.getElem?_eq_some_iff.1 hu).1
   rw[Wd.gZ,hq.len]at q;exact q
  obtain⟨s,hs⟩:=hq.some_ hi
  obtain⟨u',ys,zs,b,f,eC,k⟩:=hq.mi dF (Nat.le_refl F) (by omega) hs
  rw[hu]at eC;injection eC with eC;subst eC
  rw[mo.taken,k.gj.2]at hx
  have q1:=h.taken i s hs x hx
  have q2:u.dec (x:Int)≠none:=by
   rw[k.dec];split
   ·simp
   ·exact q1
  obtain⟨v,hv⟩:=fG q2
  rw[mo.dec _ v hv];simp
 ·rcases j2 x o ho with⟨b,b1,b2,g⟩|g
  ·exact absurd (g.done (pf (by have:=h.n3;omega) h.n7 ho) j5 d3.aI) hk
  ·exact g.done hk
end Cw
def Below(n:Nat)(w:Wd)(g:Nat):Prop:=∀(x:Nat),x<g→∀i,i<n→w.cf i (x:Int)
def zm(n d:Nat)(g:Int)(v:Wd):Prop:=∀c:Nat,c<n→v.cf c g∨Ej c d g v
theorem zm.step{n T E:Nat}{w w':Wd}{m:Ms}{l:List Ms}{i:Nat}{s t:Site}{out:List Ms}{k d:Nat}{g:Int}(h:zm n d g w)(v:Dv n T E w w' m l i s t out k)(hn:w'.aI=l++out):zm n d g w':=fun c hc=>by
 rcases h c hc with q|q
 ·exact .inl (v.mo.cf q)
 ·exact .inr (q.step v hn)
theorem zm.done{n d:Nat}{g:Int}{w:Wd}(h:zm n d g w)(hn:w.aI= []):∀c:Nat,c<n→w.cf c g:=fun c hc=>by
 rcases h c hc with q|q
 ·exact q
 ·exact q.done hn
namespace Cw
variable {n T F:Nat} {w:Wd}
theorem front_eq(h:Cw n T F w){g:Nat}(hb:Below n w g)(sG:g<T){i:Nat}{s:Site}(hs:w.ss[i]? =some s)(hk:¬ w.cf i (g:Int)):s.front=g:=by
 have hi:i<n:=by rw[←h.qt.len];exact(List.getElem?_eq_some_iff.1 hs).1
 have hd:s.dec (g:Int)=none:=by
  apply Classical.byContradiction;intro hc
  exact hk ⟨s,hs,hc⟩
 have qE:=h.iw hs
 refine En hd ?_ (by omega) fun x hx=>?_
 ·apply Classical.byContradiction;intro hc
  exact h.taken i s hs g (by omega) hd
 ·obtain⟨u,hu,hk⟩:=hb x hx i hi
  rw[hs]at hu;injection hu with hu;subst hu;exact hk
theorem TF(h:Cw n T F w)(hF:F+1≤126)(dm:(w.aU n).aI=w.outs n){g d:Nat}(hb:Below n w g)(sG:g<T)(hd:d<n)(hk:w.cf d (g:Int)):zm n d (g:Int) (w.aU n):=fun c hc=>by
 have hq:=h.qt
 by_cases Wh:w.cf c (g:Int)
 ·exact .inl (hq.pZ (h.lo hF) (Nat.le_refl F) (by omega) Wh)
 ·obtain⟨s,hs⟩:=hq.some_ hc
  have hf:=h.front_eq hb sG hs Wh
  have hne:d≠c:=fun e=>Wh (e▸hk)
  have qE:=h.iw hs
  have:=hq.VZ (h.lo hF) (Nat.le_refl F) (by omega) dm hs hd hne (by omega) (by rw[hf];exact hk)
  rw[hf]at this
  exact .inr this
theorem PG(h:Cw n T F w)(hF:F+1≤126)(dm:(w.aU n).aI=w.outs n){g d o:Nat}(hb:Below n w g)(sG:g<T)(ho:g % n=o){s u:Site}(hs:w.ss[d]? =some s)(hk:¬ w.cf d (g:Int))(hA:(g:Int)<s.bF)(hu:w.ss[o]? =some u)(eP:u.fresh (g:Int)=true)(hno:∀(i:Nat) v,w.ss[i]? =some v→aD (g:Int) v.rs=none):uI o (g:Int) true (w.aU n):=by
 have hq:=h.qt
 have qE:=h.iw hs
 exact hq.We (h.lo hF) (Nat.le_refl F) (by omega) dm h.rv (by have:=h.n3;omega) h.n7 hs (by have:=Nat.mod_lt g (show 0<n by have:=h.n3;omega);omega) ho (h.front_eq hb sG hs hk) (by omega) hA hu eP hno
end Cw
