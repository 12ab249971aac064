/- For WorldCalm. -/
import Derived.Test.YtijhlbeipglieaaGreatPkCalmF
set_option linter.all false
namespace aL
open Go Go.Proofs.YtijhlbeipglieaaGreat List
structure mM(n T F:Nat)(w w':Wd):Prop where
 aI:(w.aU n).aI=w.outs n
 cw:Cw n T F w'
 mo:mL (w.aU n) w'
 gk:∀(d:Nat) g,zm n d g (w.aU n)→∀c:Nat,c<n→w'.cf c g
 gs:∀(o:Nat) g,bK g n=(o:Int)→zj o g (w.aU n)→w'.used o g
 gq:∀(o:Nat) g b,bK g n=(o:Int)→uI o g b (w.aU n)→uI o g b w'
 gn:∀(o:Nat) g,zk o g (w.aU n)→w'.used o g
theorem Cw.eY{n T F:Nat}{w:Wd}(h:Cw n T F w)(hF:F+1≤126)(hd:∀j,j<n→Qt.cZ n T w j+128*n+32*w.begun+4000≤1048576)(dL:∀k,k≤4326→∀x∈(Wd.drain k (w.aU n)).1.aI,x.bL) :
  ∃d w',d≤4326∧w.round=(w',d)∧mM n T F w w'∧∀j,j<n→Qt.cZ n T w' j≤Qt.cZ n T w j+128*n+32*w.begun:=by
 have dm:=(h.qt.aU h.n3 h.n7 (h.lo hF) (Nat.le_refl F) (by omega) (fun j hj=>by have:=hd j hj;omega) (fun x hx=>dL 0 (by omega) x hx)).1
 obtain⟨d,w',d1,d2,d3,d4,⟨j1,j2,j3,j4⟩,-,-,d5⟩:=h.round (J:=fun v=>(∀(d:Nat) g,zm n d g (w.aU n)→zm n d g v)∧(∀(o:Nat) g,bK g n=(o:Int)→zj o g (w.aU n)→zj o g v)∧(∀(o:Nat) g b,bK g n=(o:Int)→uI o g b (w.aU n)→uI o g b v)∧∀(o:Nat) g,zk o g (w.aU n)→zk o g v) hF hd dL
  (fun _=>⟨fun _ _ h=>h,fun _ _ _ h=>h,fun _ _ _ _ h=>h,fun _ _ h=>h⟩)
  (fun v v' m l i s t out k c mo ⟨a1,a2,a3,a4⟩ dv hn c'=>⟨fun d g h=>(a1 d g h).step dv hn,fun o g ho h=>(a2 o g ho h).step ho dv hn,fun o g b ho h=>(a3 o g b ho h).step ho dv hn,fun o g h=>(a4 o g h).step dv hn⟩)
 exact⟨d,w',d1,d2,⟨dm,d3,d4,fun d g k=>(j1 d g k).done d3.qt.aI,fun o g ho k=>(j2 o g ho k).done d3.qt.aI,j3,fun o g k=>(j4 o g k).done d3.qt.aI⟩,d5⟩
def Wd.quiet(w:Wd)(o:Nat)(g:Int):Prop:=(∃s,w.ss[o]? =some s∧s.fresh g=true)∧∀(i:Nat) s,w.ss[i]? =some s→aD g s.rs=none
theorem Qt.Wi{n T E E':Nat}{w:Wd}(h:Qt n T E w)(dF:Lo E' w)(eI:E≤E')(hE:E'≤126)(dm:(w.aU n).aI=w.outs n)(hw:∀(i:Nat) s,w.ss[i]? =some s→∀c:Nat,c<n→(cC s.me s.wt s.n).getD c 0≤2){o g:Nat}(hown:bK (g:Int) n=(o:Int))(hq:w.quiet o (g:Int)):uI o (g:Int) false (w.aU n):=by
 obtain⟨⟨u,hu,eP⟩,hno⟩:=hq
 obtain⟨t,ys,zs,b,f,ht,k⟩:=h.mi dF eI hE hu
 by_cases cy:∃y∈ys,(y:Int)=(g:Int)
 ·exact .inl ⟨t,ht,by rw[k.dec,if_pos cy];simp⟩
 have hnz:∀(j:Nat) v t' lV jZ b' f',w.ss[j]? =some v→(w.aU n).ss[j]? =some t'→Tk n T E' j v t' (w.told j) lV jZ b' f'→(g:Int)∉jZ:=fun j v t' lV jZ b' f' hv fy k' hz=>by
  obtain⟨q1,q2⟩:=k'.tJ (hw j v hv) _ hz
  rw[hown]at q1
  have:j=o:=by omega
  subst this
  rw[hu]at hv;injection hv with hv;subst hv
  rcases q2 with q2|⟨y,hy,e⟩
  ·rw[eP]at q2;cases q2
  ·have e':y=g:=by omega
   subst e'
   have q3:=(k'.dec (y:Int))
   rw[ht]at fy;injection fy with fy;subst fy
   rw[if_pos ⟨y,hy,rfl⟩,k.dec,if_neg cy]at q3
   have q4:=(Site.bo.1 eP).1
   rw[q4]at q3;cases q3
 obtain⟨f1,f2⟩:=Site.bo.1 eP
 have qE:t.fresh (g:Int)=true:=by
  refine Site.bo.2 ⟨by rw[k.dec,if_neg cy];exact f1,?_⟩
  rw[k.st,if_neg (hnz o u t ys zs b f hu ht k)]
  unfold Site.base
  rw[if_neg cy];exact f2
 refine .inr ⟨⟨t,ht,qE⟩,fun j v hv=>?_,fun m hm eF hk=>?_,fun e=>(by cases e)⟩
 ·have hj:j<n:=by
   have q:=(List.getElem?_eq_some_iff.1 hv).1
   rw[Wd.gZ,h.len]at q;exact q
  obtain⟨v0,hv0⟩:=h.some_ hj
  obtain⟨u',lV,jZ,b',f',eC,k'⟩:=h.mi dF eI hE hv0
  rw[hv]at eC;injection eC with eC;subst eC
  rw[k'.rs,if_neg (hnz j v0 v lV jZ b' f' hv0 hv k'),hno j v0 hv0]
  split<;>rfl
 ·rw[dm]at hm
  obtain⟨j,hj,hm⟩:=mem_flatMap.1 hm
  obtain⟨v,hv⟩:=h.some_ (mem_range.1 hj)
  obtain⟨u',lV,jZ,b',f',eC,k'⟩:=h.mi dF eI hE hv
  obtain⟨-,-,-,a4⟩:=k'.rY (h.site j v hv).1 eI hm
  rcases a4 with⟨e,he,c,rfl⟩|⟨k2,-⟩|⟨z,hz,c,rfl⟩|⟨k8,-⟩
  ·have q0:e.1=(g:Int):=by
    rw[←eF]
    show e.1=(Site.asks e.2 e.1).slot
    unfold Site.asks;split<;>rfl
   have q1:=(h.site j v hv).1.mb e (mem_of_mem_take he)
   rw[q0,hno j v hv]at q1;cases q1
  ·omega
  ·have q0:z=(g:Int):=eF
   subst q0
   exact hnz j v u' lV jZ b' f' hv eC k' hz
  ·omega
theorem Wd.cf.used{w:Wd}{o:Nat}{g:Int}(h:w.cf o g):w.used o g:=by
 obtain⟨s,hs,hd⟩:=h
 exact⟨s,hs,fx hd⟩
theorem Ep{α:Type} :∀(m:Nat)(l:AL α)(a:Int),l.Pairwise (fun a b=>a.1<b.1)→(∀p∈l,a≤p.1)→∀e∈l,e.1<a+m→e∈l.take m
 |0,l,a,_,h2,e,he,hl=>by have:=h2 e he;omega
 |m+1,[],a,_,_,e,he,_=>by cases he
 |m+1,x::l,a,h1,h2,e,he,hl=>by
  obtain⟨q1,q2⟩:=pairwise_cons.1 h1
  rw[take_succ_cons]
  rcases mem_cons.1 he with e1|e1
  ·exact mem_cons.2 (.inl e1)
  ·refine mem_cons.2 (.inr (Ep m l (a+1) q2 (fun p hp=>?_) e e1 (by omega)))
   have:=q1 p hp
   have:=h2 x (by simp);omega
namespace mM
variable {n T F:Nat} {w w':Wd}
theorem cf(r:mM n T F w w')(h:Cw n T F w)(hF:F+1≤126){d:Nat}{g:Int}(hk:w.cf d g):w'.cf d g:=r.mo.cf (h.qt.pZ (h.lo hF) (Nat.le_refl F) (by omega) hk)
theorem used(r:mM n T F w w')(h:Cw n T F w)(hF:F+1≤126){d:Nat}{g:Int}(hk:w.used d g):w'.used d g:=r.mo.used (h.qt.BP (h.lo hF) (Nat.le_refl F) (by omega) hk)
theorem below(r:mM n T F w w')(h:Cw n T F w)(hF:F+1≤126){g:Nat}(hb:Below n w g):Below n w' g:=fun x hx i hi=>r.cf h hF (hb x hx i hi)
theorem ZX(r:mM n T F w w')(h:Cw n T F w)(hF:F+1≤126){g d:Nat}(hb:Below n w g)(sG:g<T)(hd:d<n)(hk:w.cf d (g:Int)):Below n w' (g+1):=fun x hx i hi=>by
 by_cases e:x=g
 ·subst e
  exact r.gk d _ (h.TF hF r.aI hb sG hd hk) i hi
 ·exact r.below h hF hb x (by omega) i hi
theorem quiet(r:mM n T F w w')(h:Cw n T F w)(hF:F+1≤126){o g:Nat}(hown:bK (g:Int) n=(o:Int))(hq:w.quiet o (g:Int)):w'.cf o (g:Int)∨w'.quiet o (g:Int):=by
 rcases r.gq o _ false hown (h.qt.Wi (h.lo hF) (Nat.le_refl F) (by omega) r.aI h.rv hown hq)with k|⟨k1,k2,-⟩
 ·exact .inl k
 ·exact .inr ⟨k1,k2⟩
theorem want(r:mM n T F w w')(h:Cw n T F w)(hF:F+1≤126){d o g:Nat}{s:Site}(hb:Below n w g)(sG:g<T)(ho:g % n=o)(hq:w.quiet o (g:Int))(hs:w.ss[d]? =some s)(hk:¬ w.cf d (g:Int))(hA:(g:Int)<s.bF):w'.cf o (g:Int):=by
 obtain⟨⟨u,hu,eP⟩,hno⟩:=hq
 have hown:bK (g:Int) n=(o:Int):=by
  have:=h.iw hs
  rw[gW (by omega) (by have:=h.n3;omega) h.n7,ho]
 exact(r.gq o _ true hown (h.PG hF r.aI hb sG ho hs hk hA hu eP hno)).done r.cw.qt.aI
theorem Wj(r:mM n T F w w')(h:Cw n T F w)(hF:F+1≤126){a o x:Nat}(hb:Below n w a)(hx:a≤x∧x<a+8)(hown:bK (x:Int) n=(o:Int)):w'.used o (x:Int)∨w'.quiet o (x:Int):=by
 have ho:=pf (by have:=h.n3;omega) h.n7 hown
 obtain⟨u,hu⟩:=h.qt.some_ ho
 cases hf:u.fresh (x:Int) with
 |false=>exact .inl (r.used h hF ⟨u,hu,hf⟩)
 |true=>
  by_cases hn:∀(i:Nat) s,w.ss[i]? =some s→aD (x:Int) s.rs=none
  ·rcases r.quiet h hF hown ⟨⟨u,hu,hf⟩,hn⟩with k|k
   ·exact .inl k.used
   ·exact .inr k
  ·left
   obtain⟨i,hn⟩:=Classical.not_forall.1 hn
   obtain⟨s,hn⟩:=Classical.not_forall.1 hn
   obtain⟨hs,hn⟩:=Classical.not_imp.1 hn
   obtain⟨q,hq⟩:=fG hn
   obtain⟨hS,-⟩:=h.qt.site i s hs
   have hi:i<n:=by rw[←h.qt.len];exact(List.getElem?_eq_some_iff.1 hs).1
   have he:=bG hq
   have jP:∀p∈s.rs,(a:Int)≤p.1:=fun p hp=>by
    have hr:=hS.rs p.1 p.2 (hS.mb p hp)
    apply Classical.byContradiction;intro hc
    have h0:=hr.x0.1
    obtain⟨t,ht,hd⟩:=hb p.1.toNat (by omega) i hi
    rw[hs]at ht;injection ht with ht;subst ht
    rw[show((p.1.toNat:Nat):Int)=p.1 by omega]at hd
    exact hd hr.dec
   have ht8:=Ep 8 s.rs (a:Int) hS.kz jP _ he (by show(x:Int)<_;omega)
   exact r.gn o _ (h.qt.V0 (h.lo hF) (Nat.le_refl F) (by omega) r.aI hs ho ht8 hown)
end mM
def tL(s:Site)(x:Int):Nat:=match aD x s.rs with
 |some r=>2-r.cV
 |none=>0
def Site.kP(s:Site)(F:Nat)(x:Int):Nat:=3*((F:Int)-(s.stat x).p.r).toNat+tL s x
def Wd.kP(w:Wd)(F o:Nat)(x:Int):Nat:=match w.ss[o]? with
 |some s=>s.kP F x
 |none=>0
theorem Wd.AJ{w:Wd}{F o:Nat}{x:Int}{s:Site}(h:w.ss[o]? =some s):w.kP F o x=s.kP F x:=by unfold Wd.kP;rw[h]
theorem Er(s:Site)(x:Int):tL s x≤2:=by unfold tL;split<;>omega
namespace Cw
variable {n T F:Nat} {w:Wd}
theorem TG(h:Cw n T F w)(o:Nat)(x:Int):w.kP F o x≤3*F+2:=by
 unfold Wd.kP
 split
 ·rename_i s hs
  have h1:=(h.qt.site o s hs).2.2.1 x
  have h2:=Er s x
  unfold Site.kP;omega
 ·omega
theorem TH(h:Cw n T F w){o:Nat}{x:Int}(ho:bK x n=(o:Int))(hk:¬ w.cf o x):3≤w.kP F o x:=by
 obtain⟨s,hs⟩:=h.qt.some_ (pf (by have:=h.n3;omega) h.n7 ho)
 rw[Wd.AJ hs]
 have:=h.aC x o ho hk o s hs
 unfold Site.kP;omega
end Cw
theorem mM.ZY{n T F:Nat}{w w':Wd}(r:mM n T F w w')(h:Cw n T F w)(hF:F+1≤126){o:Nat}{x:Int}(ho:bK x n=(o:Int))(hu:w.used o x)(hk:¬ w'.cf o x):w'.kP F o x+1≤w.kP F o x:=by
 have hkw:¬ w.cf o x:=fun c=>hk (r.cf h hF c)
 obtain⟨s,hs,hf⟩:=hu
 obtain⟨hS,-,-,-⟩:=h.qt.site o s hs
 obtain⟨t,ys,zs,b,f,ht,k⟩:=h.qt.mi (h.lo hF) (Nat.le_refl F) (by omega) hs
 obtain⟨u,hu⟩:=r.cw.qt.some_ (pf (by have:=h.n3;omega) h.n7 ho)
 obtain⟨t',fy,mo⟩:=r.mo.at_ hu
 rw[ht]at fy;injection fy with fy;subst fy
 rw[Wd.AJ hs,Wd.AJ hu]
 have RZ:s.dec x=none:=by
  apply Classical.byContradiction;intro c
  exact hkw ⟨s,hs,c⟩
 have Ei:t.dec x=none:=by
  apply Classical.byContradiction;intro c
  obtain⟨v,hv⟩:=fG c
  exact hk ⟨u,hu,by rw[mo.dec x v hv];simp⟩
 have cy:¬ ∃y∈ys,(y:Int)=x:=fun c=>by
  rw[k.dec,if_pos c]at Ei;cases Ei
 have hz:s.stat x≠Sp.zero:=fun e=>by
  have:s.fresh x=true:=Site.bo.2 ⟨RZ,by rw[e];decide⟩
  rw[hf]at this;cases this
 obtain⟨-,-,-,q4⟩:=hS.st x
 obtain⟨x0,xT,xt⟩:=q4 hz
 have hA:x<s.bF:=by unfold Site.bF;omega
 have eP:(s.front:Int)≤x:=by
  obtain⟨g,rfl⟩:∃g:Nat,x=(g:Int):=⟨x.toNat,by omega⟩
  have h1:s.taken≤g:=by
   apply Classical.byContradiction;intro c
   exact h.taken o s hs g (by omega) RZ
  have:=oN s.lv g RZ (4096-s.taken) s.taken h1
  unfold Site.front
  omega
 have Mw:(t.stat x).p.r≤(u.stat x).p.r:=by
  have:=mo.p x
  unfold Bl.lt at this;omega
 have hbu:=r.cw.aC x o ho hk o u hu
 have bZ:=mo.rs x
 by_cases hzs:x∈zs
 ·have e1:=k.st x
  rw[if_pos hzs]at e1
  have e2:(t.stat x).p=b x:=by rw[e1]
  obtain⟨-,b2,-⟩:=k.zb x hzs
  have e3:(s.base o ys x).p=(s.stat x).p:=by unfold Site.base;rw[if_neg cy]
  rw[e3]at b2
  rw[e2]at Mw
  have:=Er u x
  unfold Site.kP
  omega
 ·have e1:=k.st x
  rw[if_neg hzs]at e1
  have e3:(s.base o ys x).p=(s.stat x).p:=by unfold Site.base;rw[if_neg cy]
  rw[e1,e3]at Mw
  have hex:∃q,aD x s.rs=some q∧q.cV<2:=by
   apply Classical.byContradiction;intro c
   refine hzs (k.adn (h.rv o s hs) x ho RZ hf eP hA fun q hq=>?_)
   apply Classical.byContradiction;intro c2
   exact c ⟨q,hq,by omega⟩
  obtain⟨q,hq,UY⟩:=hex
  have e4:=k.rs x
  rw[if_neg cy,if_neg hzs,hq]at e4
  have h1:tL s x=2-q.cV:=by unfold tL;rw[hq]
  have h2:tL u x≤2-(q.cV+1):=by
   unfold tL
   cases hc:aD x u.rs with
   |none=>dsimp only;omega
   |some q'=>
    obtain⟨q0,a1,a2,-⟩:=bZ q' hc
    rw[e4]at a1
    have:q.ie=q0:=Option.some.inj a1
    have e5:q0.cV=q.cV+1:=by rw[←this];rfl
    dsimp only;omega
  unfold Site.kP
  omega
def nJ(n T:Nat)(w:Wd)(g:Nat):Prop:=∀x:Nat,x<g→x<T→∀i,i<n→w.cf i (x:Int)
theorem nJ.below{n T:Nat}{w:Wd}{g:Nat}(h:nJ n T w g)(hg:g≤T):Below n w g:=fun x hx i hi=>h x hx (by omega) i hi
theorem nJ.top{n T:Nat}{w:Wd}{g:Nat}(h:nJ n T w g)(hg:T≤g):Below n w T:=fun x hx i hi=>h x (by omega) hx i hi
def ry(n:Nat)(w:Wd):Prop:=∃g,Below n w g∧∀(i:Nat) s,w.ss[i]? =some s→s.bF≤(g:Int)
def Wk(n T F:Nat)(w:Wd)(a m:Nat):Prop:=∀x:Nat,a≤x→x<a+8→x<T→∀o:Nat,bK (x:Int) n=(o:Int)→w.quiet o (x:Int)∨w.cf o (x:Int)∨w.used o (x:Int)∧w.kP F o (x:Int)≤m+2
inductive xw (n T F q N:Nat) (w:Wd):Prop
 |a (k j:Nat) (h1:k+j=q) (h2:nJ n T w (8*k)) (h3:j*(3*F+17)≤N)
 |b (k j m:Nat) (h1:k+j+1=q) (h2:nJ n T w (8*k)) (h3:Wk n T F w (8*k) m) (h4:m+16+j*(3*F+17)≤N)
 |c (k j g:Nat) (b:Bool) (h1:k+j+1=q) (h2:nJ n T w g) (h3:8*k≤g∧g≤8*k+8) (h4:∀x:Nat,8*k≤x→x<8*k+8→x<T→∀o:Nat,bK (x:Int) n=(o:Int)→w.quiet o (x:Int)∨w.cf o (x:Int))
  (h5:b=true→g<8*k+8∧∃d,d<n∧w.cf d (g:Int)) (h6:2*(8*k+8-g)+j*(3*F+17)≤N+if b then 1 else 0)
namespace xw
variable {n T F q N:Nat} {w:Wd}
theorem PH{w':Wd}(r:mM n T F w w')(h:Cw n T F w)(hF:F+1≤126){g:Nat}(hb:nJ n T w g):nJ n T w' g:=fun x hx hT i hi=>r.cf h hF (hb x hx hT i hi)
theorem jl(h:Cw n T F w)(hb:Below n w T):ry n w:=⟨T,hb,fun i s hs=>(h.qt.site i s hs).1.lO.2⟩
theorem Mx(h:Cw n T F w)(hF:F+1≤126)(hq:T≤8*q)(hl:¬ ry n w){k j:Nat}(h1:k+j=q)(h2:nJ n T w (8*k))(h3:j*(3*F+17)≤N):∃N',N=N'+1∧∀w',mM n T F w w'→xw n T F q N' w':=by
 by_cases hT:T≤8*k
 ·exact absurd (jl h (h2.top hT)) hl
 obtain⟨j',rfl⟩:∃j',j=j'+1:=⟨j - 1,by omega⟩
 rw[Nat.succ_mul]at h3
 refine⟨N-1,by omega,fun w' r=>.b k j' (3*F) (by omega) (PH r h hF h2) (fun x x1 x2 x3 o ho=>?_) (by omega)⟩
 rcases r.Wj h hF (h2.below (by omega)) ⟨x1,x2⟩ ho with u|u
 ·exact .inr (.inr ⟨u,r.cw.TG o _⟩)
 ·exact .inl u
theorem My(h:Cw n T F w)(hF:F+1≤126)(hq:T≤8*q)(hl:¬ ry n w){k j g:Nat}{b:Bool}(h1:k+j+1=q)(h2:nJ n T w g)(h3:8*k≤g∧g≤8*k+8)(h4:∀x:Nat,8*k≤x→x<8*k+8→x<T→∀o:Nat,bK (x:Int) n=(o:Int)→w.quiet o (x:Int)∨w.cf o (x:Int))(h5:b=true→g<8*k+8∧∃d,d<n∧w.cf d (g:Int))(h6:2*(8*k+8-g)+j*(3*F+17)≤N+if b then 1 else 0):∃N',N=N'+1∧∀w',mM n T F w w'→xw n T F q N' w':=by
 by_cases hT:T≤g
 ·exact absurd (jl h (h2.top hT)) hl
 have hbl:=h2.below (show g≤T by omega)
 by_cases hg:g=8*k+8
 ·have hb:b=false:=by
   cases b with
   |false=>rfl
   |true=>have:=(h5 rfl).1;omega
  subst hb
  exact Mx (k:=k+1) (j:=j) h hF hq hl (by omega) (by rw[show 8*(k+1)=g by omega];exact h2) (by rw[if_neg (by decide)]at h6;omega)
 have cU:2*(8*k+8-g)+j*(3*F+17)≤N+1:=by
  split at h6<;>omega
 have ln:∀w',mM n T F w w'→∀x:Nat,8*k≤x→x<8*k+8→x<T→∀o:Nat,bK (x:Int) n=(o:Int)→w'.quiet o (x:Int)∨w'.cf o (x:Int):=fun w' r x x1 x2 x3 o ho=>by
  rcases h4 x x1 x2 x3 o ho with u|u
  ·exact(r.quiet h hF ho u).symm
  ·exact .inr (r.cf h hF u)
 by_cases hk:∃d,d<n∧w.cf d (g:Int)
 ·obtain⟨d,hd,hk⟩:=hk
  refine⟨N-1,by omega,fun w' r=>.c k j (g+1) false h1 (fun x hx sA i hi=>r.ZX h hF hbl (by omega) hd hk x hx i hi) (by omega) (ln w' r) (fun e=>(by cases e)) ?_⟩
  rw[if_neg (by decide)]
  omega
 ·have hb:b=false:=by
   cases b with
   |false=>rfl
   |true=>exact absurd (h5 rfl).2 hk
  subst hb
  rw[if_neg (by decide)]at h6
  have hex:∃(i:Nat)(s:Site),w.ss[i]? =some s∧(g:Int)<s.bF:=by
   apply Classical.byContradiction;intro c
   refine hl ⟨g,hbl,fun i s hs=>?_⟩
   apply Classical.byContradiction;intro c2
   exact c ⟨i,s,hs,by omega⟩
  obtain⟨i,s,hs,hA⟩:=hex
  have hi:i<n:=by rw[←h.qt.len];exact(List.getElem?_eq_some_iff.1 hs).1
  have hn:=h.n3
  have jo:g % n<n:=Nat.mod_lt _ (by omega)
  have ho:bK (g:Int) n=((g % n:Nat):Int):=by
   have:=h.iw hs
   exact gW (by omega) (by omega) h.n7
  have hqt:w.quiet (g % n) (g:Int):=by
   rcases h4 g h3.1 (by omega) (by omega) _ ho with u|u
   ·exact u
   ·exact absurd ⟨_,jo,u⟩ hk
  refine⟨N-1,by omega,fun w' r=>.c k j g true h1 (PH r h hF h2) h3 (ln w' r) (fun _=>⟨by omega,g % n,jo,r.want h hF hbl (by omega) rfl hqt hs (fun c=>hk ⟨i,hi,c⟩) hA⟩) ?_⟩
  rw[if_pos rfl]
  omega
theorem round(st:xw n T F q N w)(h:Cw n T F w)(hF:F+1≤126)(hq:T≤8*q)(hl:¬ ry n w):∃N',N=N'+1∧∀w',mM n T F w w'→xw n T F q N' w':=by
 cases st with
 |a k j h1 h2 h3=>exact Mx h hF hq hl h1 h2 h3
 |b k j m h1 h2 h3 h4=>
  cases m with
  |zero=>
   refine My (b:=false) h hF hq hl h1 h2 (by omega) (fun x x1 x2 x3 o ho=>?_) (fun e=>(by cases e)) (by rw[if_neg (by decide)];omega)
   rcases h3 x x1 x2 x3 o ho with u|u|⟨u1,u2⟩
   ·exact .inl u
   ·exact .inr u
   ·right
    apply Classical.byContradiction;intro c
    have:=h.TH ho c
    omega
  |succ m=>
   refine⟨N-1,by omega,fun w' r=>.b k j m h1 (PH r h hF h2) (fun x x1 x2 x3 o ho=>?_) (by omega)⟩
   rcases h3 x x1 x2 x3 o ho with u|u|⟨u1,u2⟩
   ·rcases r.quiet h hF ho u with u|u
    ·exact .inr (.inl u)
    ·exact .inl u
   ·exact .inr (.inl (r.cf h hF u))
   ·by_cases hk:w'.cf o (x:Int)
    ·exact .inr (.inl hk)
    ·have:=r.ZY h hF ho u1 hk
     exact .inr (.inr ⟨r.used h hF u1,by omega⟩)
 |c k j g b h1 h2 h3 h4 h5 h6=>exact My h hF hq hl h1 h2 h3 h4 h5 h6
end xw
theorem rZ(p:Nat→Bool):∀T:Nat,((List.range T).filter p).length=ft (fun x=>if p x=true then 1 else 0) T
 |0=>rfl
 |T+1=>by
  rw[range_succ,filter_append,length_append,rZ p T]
  show _=ft (fun x=>if p x=true then 1 else 0) T+(if p T=true then 1 else 0)
  congr 1
  rw[filter_cons]
  split<;>rfl
theorem Es{T:Nat}{zs:List Int}(hn:zs.Nodup)(h:∀z∈zs,0≤z∧z<(T:Int)):zs.length≤ft (fun x:Nat=>if decide ((x:Int)∈zs)=true then 1 else 0) T:=by
 rw[←rZ (fun x:Nat=>decide ((x:Int)∈zs))]
 have:=iZ (a:=zs) (b:=((List.range T).filter fun x:Nat=>decide ((x:Int)∈zs)).map fun x:Nat=>(x:Int)) hn fun z hz=>by
  have:=h z hz
  exact mem_map.2 ⟨z.toNat,mem_filter.2 ⟨mem_range.2 (by omega),by rw[show((z.toNat:Nat):Int)=z by omega];exact dJ hz⟩,by omega⟩
 rwa [length_map]at this
def Site.jA(s:Site)(n T F i:Nat):Nat:=ft (fun x:Nat=>if x % n=i then((F:Int)-(s.stat (x:Int)).p.r).toNat else 0) T
def Wd.jA(w:Wd)(n T F:Nat):Nat:=ft (nH (fun i s=>s.jA n T F i) w.ss) n
theorem mM.jA{n T F:Nat}{w w':Wd}(r:mM n T F w w')(h:Cw n T F w)(hF:F+1≤126):w'.jA n T F+w.begun≤w.jA n T F:=by
 unfold Wd.jA Wd.begun
 rw[h.qt.len,←ki]
 refine kL fun i hi=>?_
 obtain⟨s,hs⟩:=h.qt.some_ hi
 obtain⟨u,hu⟩:=r.cw.qt.some_ hi
 obtain⟨t,ys,zs,b,f,ht,k⟩:=h.qt.mi (h.lo hF) (Nat.le_refl F) (by omega) hs
 obtain⟨t',fy,mo⟩:=r.mo.at_ hu
 rw[ht]at fy;injection fy with fy;subst fy
 rw[eU hs,eU hs,eU hu,←k.late]
 have hz:=Es (T:=T) k.iW fun z hz=>by
  have h1:=k.BJ z hz
  have h2:=(h.qt.site i s hs).1.lO
  omega
 refine Nat.le_trans (Nat.add_le_add_left hz _) ?_
 unfold Site.jA
 rw[←ki]
 refine kL fun x hx=>?_
 have Mw:(t.stat (x:Int)).p.r≤(u.stat (x:Int)).p.r:=by
  have:=mo.p (x:Int)
  unfold Bl.lt at this;omega
 have hbase:(s.base i ys (x:Int)).p.r=(s.stat (x:Int)).p.r:=by
  unfold Site.base
  split
  ·rename_i hc
   obtain⟨y,hy,e⟩:=hc
   have q:=(k.iR y hy).2.2
   rw[e]at q
   rw[Site.js (Site.bo.1 q).2];rfl
  ·rfl
 have e1:=k.st (x:Int)
 by_cases ph:(x:Int)∈zs
 ·rw[if_pos (dJ ph)]
  rw[if_pos ph]at e1
  have e2:(t.stat (x:Int)).p=b (x:Int):=by rw[e1]
  obtain⟨-,b2,-⟩:=k.zb _ ph
  have hown:=(k.tJ (h.rv i s hs) _ ph).1
  have R0:x % n=i:=by
   have:=h.iw hs
   rw[gW (by omega) (by have:=h.n3;omega) h.n7]at hown
   omega
  have dF:=h.lo hF i s hs (x:Int) (by rw[←k.late];exact ph)
  rw[if_pos R0,if_pos R0]
  rw[e2]at Mw
  omega
 ·rw[show(if decide ((x:Int)∈zs)=true then(1:Nat)else 0)=0 from if_neg (by rw[decide_eq_true_eq];exact ph)]
  rw[if_neg ph]at e1
  rw[e1,hbase]at Mw
  split<;>omega
def Dsk(n T F N:Nat)(w:Wd):Prop:=∀j,j<n→Qt.cZ n T w j+32*w.jA n T F+128*n*N+4000≤1048576
structure sa(n T F q N:Nat)(w:Wd):Prop where
 cw:Cw n T F w
 kh:xw n T F q N w
 kX:Dsk n T F N w
theorem sa.round{n T F q N:Nat}{w:Wd}(f:sa n T F q N w)(hF:F+1≤126)(hq:T≤8*q)(hl:¬ ry n w)(dL:∀k,k≤4326→∀x∈(Wd.drain k (w.aU n)).1.aI,x.bL) :
  ∃N' d w',N=N'+1∧d≤4326∧w.round=(w',d)∧sa n T F q N' w':=by
 obtain⟨N',rfl,hst⟩:=f.kh.round f.cw hF hq hl
 have hb:∀w',mM n T F w w'→w'.jA n T F+w.begun≤w.jA n T F:=fun w' r=>r.jA f.cw hF
 have ahB:w.begun≤w.jA n T F:=by
  unfold Wd.jA Wd.begun
  rw[f.cw.qt.len]
  refine kL fun i hi=>?_
  obtain⟨s,hs⟩:=f.cw.qt.some_ hi
  obtain⟨t,ys,zs,b,g,ht,k⟩:=f.cw.qt.mi (f.cw.lo hF) (Nat.le_refl F) (by omega) hs
  rw[eU hs,eU hs,←k.late]
  refine Nat.le_trans (Es (T:=T) k.iW fun z hz=>?_) ?_
  ·have h1:=k.BJ z hz
   have h2:=(f.cw.qt.site i s hs).1.lO
   omega
  ·refine kL fun x hx=>?_
   by_cases ph:(x:Int)∈zs
   ·have hown:=(k.tJ (f.cw.rv i s hs) _ ph).1
    have R0:x % n=i:=by
     have:=f.cw.iw hs
     rw[gW (by omega) (by have:=f.cw.n3;omega) f.cw.n7]at hown
     omega
    have dF:=f.cw.lo hF i s hs (x:Int) (by rw[←k.late];exact ph)
    rw[if_pos (dJ ph),if_pos R0]
    omega
   ·rw[show(if decide ((x:Int)∈zs)=true then(1:Nat)else 0)=0 from if_neg (by rw[decide_eq_true_eq];exact ph)]
    exact Nat.zero_le _
 obtain⟨d,w',d1,d2,r,d4⟩:=f.cw.eY hF (fun j hj=>by
  have:=f.kX j hj
  rw[Nat.mul_succ]at this;omega) dL
 refine⟨N',d,w',rfl,d1,d2,⟨r.cw,hst w' r,fun j hj=>?_⟩⟩
 have q1:=d4 j hj
 have q2:=hb w' r
 have q3:=f.kX j hj
 rw[Nat.mul_succ]at q3
 omega
namespace Wd
variable (w:Wd) (i:Nat)
theorem iS{j:Nat}{t:Site}(h:(w.take i).ss[j]? =some t):∃s,w.ss[j]? =some s∧(t=s∨t= {s with taken:=s.front}):=by
 rw[qg]at h
 split at h
 ·obtain⟨s,hs,e⟩:=Option.map_eq_some_iff.1 h
  exact⟨s,hs,.inr e.symm⟩
 ·exact⟨t,h,.inl rfl⟩
theorem Iv{j:Nat}{s:Site}(h:w.ss[j]? =some s):∃t,(w.take i).ss[j]? =some t∧(t=s∨t= {s with taken:=s.front}):=by
 rw[qg,h]
 split
 ·exact⟨_,rfl,.inr rfl⟩
 ·exact⟨_,rfl,.inl rfl⟩
theorem AK(d:Nat)(P:Site→Prop)(hP:∀s c,P {s with taken:=c} ↔ P s):(∃s,(w.take i).ss[d]? =some s∧P s) ↔ ∃s,w.ss[d]? =some s∧P s:=by
 constructor
 ·rintro⟨t,ht,hp⟩
  obtain⟨s,hs,e⟩:=w.iS i ht
  refine⟨s,hs,?_⟩
  rcases e with rfl|rfl
  ·exact hp
  ·exact(hP _ _).1 hp
 ·rintro⟨s,hs,hp⟩
  obtain⟨t,ht,e⟩:=w.Iv i hs
  refine⟨t,ht,?_⟩
  rcases e with rfl|rfl
  ·exact hp
  ·exact(hP _ _).2 hp
theorem Et(P:Site→Prop)(hP:∀s c,P {s with taken:=c} ↔ P s):(∀(j:Nat) s,(w.take i).ss[j]? =some s→P s) ↔ ∀(j:Nat) s,w.ss[j]? =some s→P s:=by
 constructor
 ·intro h j s hs
  obtain⟨t,ht,e⟩:=w.Iv i hs
  have:=h j t ht
  rcases e with rfl|rfl
  ·exact this
  ·exact(hP _ _).1 this
 ·intro h j t ht
  obtain⟨s,hs,e⟩:=w.iS i ht
  have:=h j s hs
  rcases e with rfl|rfl
  ·exact this
  ·exact(hP _ _).2 this
theorem jv:(w.take i).cf=w.cf:=by
 funext d g
 exact propext (w.AK i d (fun s=>s.dec g≠none) fun s c=>Iff.rfl)
theorem Mz:(w.take i).used=w.used:=by
 funext d g
 exact propext (w.AK i d (fun s=>s.fresh g=false) fun s c=>Iff.rfl)
theorem zn:(w.take i).quiet=w.quiet:=by
 funext d g
 exact propext (and_congr (w.AK i d (fun s=>s.fresh g=true) fun s c=>Iff.rfl) (w.Et i (fun s=>aD g s.rs=none) fun s c=>Iff.rfl))
theorem MA:(w.take i).kP=w.kP:=by
 funext F o x
 unfold kP
 rw[qg]
 by_cases c:i=o
 ·rw[if_pos c]
  cases w.ss[o]? <;> rfl
 ·rw[if_neg c]
theorem tM(f:Nat→Site→Nat)(hf:∀i s c,f i {s with taken:=c} =f i s):nH f (w.take i).ss=nH f w.ss:=by
 funext j
 unfold nH
 rw[qg]
 by_cases c:i=j
 ·rw[if_pos c]
  cases w.ss[j]? with
  |none=>rfl
  |some s=>exact hf j s _
 ·rw[if_neg c]
theorem MB(n T F:Nat):(w.take i).jA n T F=w.jA n T F:=by
 unfold jA
 rw[w.tM i _ fun _ _ _=>rfl]
theorem MC(n T j:Nat):Qt.cZ n T (w.take i) j=Qt.cZ n T w j:=by
 unfold Qt.cZ Fw.ji
 rw[w.tM i _ fun _ _ _=>rfl,oA,oA,take_len,ow,w.tM i _ fun _ _ _=>rfl]
theorem TI{n:Nat}(h:ry n (w.take i)):ry n w:=by
 obtain⟨g,h1,h2⟩:=h
 refine⟨g,fun x hx j hj=>?_,(w.Et i (fun s=>s.bF≤(g:Int)) fun s c=>Iff.rfl).1 h2⟩
 have:=h1 x hx j hj
 rwa [jv]at this
end Wd
theorem Sm.kv{n T E i:Nat}{s:Site}(h:Sm n T E i s)(c:Nat):Sm n T E i {s with taken:=c}:=
 ⟨h.me,h.nn,h.lt,h.n3,h.n7,h.T6,h.E1,h.pat,h.up,h.nx,h.pM,h.st,h.lv,fun x r hr=>(h.rs x r hr).mono rfl (h.rs x r hr).dec (h.rs x r hr).nz (Bl.lt_irrefl _),h.mb,h.kz,h.used,h.top,h.held⟩
theorem Cw.take{n T F:Nat}{w:Wd}(h:Cw n T F w)(i:Nat):Cw n T F (w.take i):=by
 refine⟨⟨(w.take_len i).trans h.qt.len,fun j t ht=>?_,(w.ow i).trans h.qt.aI⟩,h.n3,h.n7,h.F2,h.Wf,fun j t ht=>?_,fun j t ht=>?_,fun j t ht x hx=>?_,fun x o ho hk j t ht=>?_⟩
 ·obtain⟨s,hs,e⟩:=w.iS i ht
  obtain⟨a1,a2,a3,a4⟩:=h.qt.site j s hs
  rcases e with rfl|rfl
  ·exact⟨a1,a2,a3,a4⟩
  ·exact⟨a1.kv _,a2,a3,a4⟩
 ·obtain⟨s,hs,e⟩:=w.iS i ht
  have:=h.calm j s hs
  rcases e with rfl|rfl<;>exact this
 ·obtain⟨s,hs,e⟩:=w.iS i ht
  have:=h.PF j s hs
  rcases e with rfl|rfl<;>exact this
 ·obtain⟨s,hs,e⟩:=w.iS i ht
  have:=h.taken j s hs
  rcases e with rfl|rfl
  ·exact this x hx
  ·have hx:x<s.front:=hx
   show s.dec (x:Int)≠none
   by_cases c:x<s.taken
   ·exact this x c
   ·obtain⟨v,hv⟩:=tN s.lv _ _ x (by omega) hx
    unfold Site.dec;rw[hv];simp
 ·rw[Wd.jv]at hk
  obtain⟨s,hs,e⟩:=w.iS i ht
  have:=h.aC x o ho hk j s hs
  rcases e with rfl|rfl<;>exact this
theorem xw.take{n T F q N:Nat}{w:Wd}(h:xw n T F q N w)(i:Nat):xw n T F q N (w.take i):=by
 cases h with
 |a k j h1 h2 h3=>exact .a k j h1 (by unfold nJ at h2 ⊢;rwa [Wd.jv]) h3
 |b k j m h1 h2 h3 h4=>exact .b k j m h1 (by unfold nJ at h2 ⊢;rwa [Wd.jv]) (by unfold Wk at h3 ⊢;rwa [Wd.jv,Wd.zn,Wd.Mz,Wd.MA]) h4
 |c k j g b h1 h2 h3 h4 h5 h6=>exact .c k j g b h1 (by unfold nJ at h2 ⊢;rwa [Wd.jv]) h3 (by rwa [Wd.jv,Wd.zn]) (by rwa [Wd.jv]) h6
theorem sa.take{n T F q N:Nat}{w:Wd}(h:sa n T F q N w)(i:Nat):sa n T F q N (w.take i):=
 ⟨h.cw.take i,h.kh.take i,fun j hj=>by rw[Wd.MC,Wd.MB];exact h.kX j hj⟩
theorem ry.level{n T F c:Nat}{w:Wd}{P:Int→List UInt8→Prop}{G:Int→List Rc}(hl:ry n w)(h:Cw n T F w)(hI:bR w n P c G):w.level=true:=by
 obtain⟨g,hb,rX⟩:=hl
 have h3:=h.n3
 have hdec:∀(i:Nat) s,w.ss[i]? =some s→∀x:Nat,s.dec (x:Int)≠none→x<g:=fun i s hs x hx=>by
  have h1:=(ov s.lv).1
  obtain⟨v,hv⟩:=fG hx
  have:=h1 _ (bG hv)
  have h2:=rX i s hs
  unfold Site.bF at h2
  have h3:(x:Int)+1≤eT s.lv:=this
  omega
 have eP:∀(i:Nat) s,w.ss[i]? =some s→s.front=g:=fun i s hs=>by
  have hi:i<n:=by rw[←h.qt.len];exact(List.getElem?_eq_some_iff.1 hs).1
  have qE:=h.iw hs
  have hn:s.dec (g:Int)=none:=by
   apply Classical.byContradiction;intro c
   have:=hdec i s hs g c;omega
  have L5:s.taken≤g:=by
   apply Classical.byContradiction;intro c
   exact h.taken i s hs g (by omega) hn
  have sG:g≤T:=by
   apply Classical.byContradiction;intro c
   obtain⟨u,hu,hd⟩:=hb T (by omega) i hi
   obtain⟨v,hv⟩:=fG hd
   have:=((h.qt.site i u hu).1.lv _ v hv).2.1
   omega
  refine En hn L5 (by omega) fun x hx=>?_
  obtain⟨u,hu,hd⟩:=hb x hx i hi
  rw[hs]at hu;injection hu with hu;subst hu
  exact hd
 have ZZ:∀(i j:Nat) s u,w.ss[i]? =some s→w.ss[j]? =some u→s.kg=u.kg:=fun i j s u hs hu=>by
  unfold Site.kg
  rw[eP i s hs,eP j u hu]
  refine xx fun x hx=>?_
  have hi:i<n:=by rw[←h.qt.len];exact(List.getElem?_eq_some_iff.1 hs).1
  have hj:j<n:=by rw[←h.qt.len];exact(List.getElem?_eq_some_iff.1 hu).1
  obtain⟨s',ru,hd⟩:=hb x hx i hi
  obtain⟨u',eC,he⟩:=hb x hx j hj
  rw[hs]at ru;injection ru with ru;subst ru
  rw[hu]at eC;injection eC with eC;subst eC
  obtain⟨v,hv⟩:=fG hd
  obtain⟨v',oS⟩:=fG he
  have:=hI.qG.agree (hI.dec hs hv) (hI.dec hu oS)
  unfold Site.val
  rw[hv,oS,this]
 have htm:=Wd.Hz (w:=w) (T:=(g:Int)) (by omega) rX w.ss.length
 unfold Wd.level
 rw[all_eq_true]
 intro i hi
 have hi:=mem_range.1 hi
 have hs:=List.getElem?_eq_getElem hi
 have h0:0<w.ss.length:=by rw[h.qt.len];omega
 have ho:=List.getElem?_eq_getElem h0
 unfold Wd.tD
 rw[hs,ho]
 dsimp only
 rw[eP _ _ hs,(h.qt.site i _ hs).1.up,dJ htm,dJ (ZZ _ _ _ _ hs ho)]
 rfl
