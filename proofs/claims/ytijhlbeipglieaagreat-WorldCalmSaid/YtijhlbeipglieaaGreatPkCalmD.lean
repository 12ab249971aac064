/- For WorldCalm. -/
import Derived.Test.YtijhlbeipglieaaGreatPkCalmB
set_option linter.all false
namespace aL
open Go Go.Proofs.YtijhlbeipglieaaGreat List
structure cj(T E:Nat)(m:Ms):Prop where
 slot:m.kind≠8∨m.some_=true→m.slot<T
 br:m.bU≤E
 hr:m.dw≤E
 val:m.val.length≤3
theorem cj.ad{T E:Nat}{m:Ms}(h:cj T E m)(a b:Int):cj T E (m.ad a b):=⟨h.slot,h.br,h.hr,h.val⟩
theorem cj.mono{T E T' E':Nat}{m:Ms}(h:cj T E m)(hT:T≤T')(hE:E≤E'):cj T' E' m:=
 ⟨fun k=>by have:=h.slot k;omega,by have:=h.br;omega,by have:=h.hr;omega,h.val⟩
structure iJ(n T E:Nat)(s:Site)(x:Int)(r:Rn):Prop where
 x0:0≤x∧x<T
 dec:s.dec x=none
 nz:s.stat x≠Sp.zero
 bs:r.aC.s=s.me
 br:0≤r.aC.r∧r.aC.r≤E
 low:¬ (s.stat x).p.lt r.aC
 b:r.b.length≤3
 pr:∀q∈r.pr,q.b.length≤3
 no:r.so=false→1≤r.aC.r∧r.vt= []∧fN (r.pr.map Pm.f) n=false
 yes:r.so=true→(r.aC.r=0→bK x n=s.me)∧Site.most r.vt r.aC n=false
structure Sm(n T E i:Nat)(s:Site):Prop where
 me:s.me=i
 nn:s.n=n
 lt:i<n
 n3:3≤n
 n7:n≤7
 T6:T≤6*n
 E1:E≤126
 pat:s.pat=2
 up:s.down=false
 nx:s.nx≤T
 pM:s.wt.length=7
 st:∀x:Int,(s.stat x).p.r≤E∧(s.stat x).at_.r≤E∧(s.stat x).b.length≤3∧(s.stat x≠Sp.zero→0≤x∧x<T∧x+1≤s.top)
 lv:∀(x:Int) w,s.dec x=some w→0≤x∧x<T∧w.length≤3
 rs:∀x r,aD x s.rs=some r→iJ n T E s x r
 mb:∀e∈s.rs,aD e.1 s.rs=some e.2
 kz:s.rs.Pairwise fun a b=>a.1<b.1
 used:∀k:Nat,k % n=i→k<s.nx→s.fresh (k:Int)=false
 top:0≤s.top∧s.top≤T
 held:∀m∈s.held,cj T E m
theorem HJ{α:Type}(e:Int × α):∀(M:AL α),M.Pairwise (fun a b=>a.1<b.1)→(∀p∈M,p.1≠e.1)→(gK e M).Pairwise fun a b=>a.1<b.1
 |[],_,_=>by unfold gK;simp
 |y::M,h,hn=>by
  obtain⟨h1,h2⟩:=pairwise_cons.1 h
  unfold gK
  split
  ·rename_i hc
   refine pairwise_cons.2 ⟨fun p hp=>?_,h⟩
   rcases mem_cons.1 hp with rfl|hp
   ·exact hc
   ·have:=h1 p hp;omega
  ·rename_i hc
   refine pairwise_cons.2 ⟨fun p hp=>?_,HJ e M h2 fun p hp=>hn p (by simp[hp])⟩
   rcases DW.1 hp with rfl|hp
   ·have:=hn y (by simp);omega
   ·exact h1 p hp
theorem AD{α:Type}(x:Int)(M:AL α)(h:M.Pairwise fun a b=>a.1<b.1):(bY x M).Pairwise fun a b=>a.1<b.1:=h.sublist filter_sublist
theorem TB{α:Type}(x:Int)(v:α)(M:AL α)(h:M.Pairwise fun a b=>a.1<b.1):(aT x v M).Pairwise fun a b=>a.1<b.1:=
 HJ _ _ (AD x M h) fun _ hp=>(fK.1 hp).2
theorem qy{α:Type}{M:AL α}(h:M.Pairwise fun a b=>a.1<b.1):∀e∈M,aD e.1 M=some e.2:=fun e he=>by
 obtain⟨v,hv⟩:=fG (fun hn:aD e.1 M=none=>kb.1 hn e he rfl)
 have hm:=bG hv
 rw[hv]
 congr 1
 apply Classical.byContradiction;intro hne
 have key:∀{M:AL α},M.Pairwise (fun a b=>a.1<b.1)→∀a∈M,∀b∈M,a.1=b.1→a=b:=by
  intro M
  induction M with
  |nil=>intro _ a ha;cases ha
  |cons y M ih=>
   intro h a ha b hb e
   obtain⟨h1,h2⟩:=pairwise_cons.1 h
   rcases mem_cons.1 ha with ea|vj<;>rcases mem_cons.1 hb with eb|qv
   ·rw[ea,eb]
   ·have:=h1 b qv;rw[ea]at e;omega
   ·have:=h1 a vj;rw[eb]at e;omega
   ·exact ih h2 a vj b qv e
 have:=key h _ he _ hm rfl
 rw[this]at hne
 exact hne rfl
theorem iJ.mono{n T E:Nat}{s t:Site}{x:Int}{r:Rn}(h:iJ n T E s x r)(ca:t.me=s.me)(hd:t.dec x=none)(hz:t.stat x≠Sp.zero)(hp:¬ (t.stat x).p.lt (s.stat x).p):iJ n T E t x r:=
 ⟨h.x0,hd,hz,by rw[ca];exact h.bs,h.br,Bl.le_trans h.low hp,h.b,h.pr,h.no,fun e=>⟨fun e0=>by rw[ca];exact(h.yes e).1 e0,(h.yes e).2⟩⟩
theorem fM{s:Site}{x:Int}(h:s.stat x≠Sp.zero):s.fresh x=false:=by
 cases hf:s.fresh x with
 |false=>rfl
 |true=>exact absurd (Site.js (Site.bo.1 hf).2) h
theorem fx{s:Site}{x:Int}(h:s.dec x≠none):s.fresh x=false:=by
 cases hf:s.fresh x with
 |false=>rfl
 |true=>exact absurd (Site.bo.1 hf).1 h
namespace Sm
variable {n T E i:Nat} {s t:Site}
theorem hold(h:Sm n T E i s){l:List Ms}(hl:∀m∈l,cj T E m)(d:Nat):Sm n T E i {s with dn:=d,held:=l}:=
 ⟨h.me,h.nn,h.lt,h.n3,h.n7,h.T6,h.E1,h.pat,h.up,h.nx,h.pM,h.st,h.lv,fun x r hr=>(h.rs x r hr).mono rfl (h.rs x r hr).dec (h.rs x r hr).nz (Bl.lt_irrefl _),h.mb,h.kz,h.used,h.top,hl⟩
theorem ln(h:Sm n T E i s){l:List Ms}(hl:∀m∈l,cj T E m):Sm n T E i {s with held:=l}:=h.hold hl s.dn
theorem Vp(h:Sm n T E i s){l:List Int}(hl:l.length=7):Sm n T E i {s with wt:=l}:=
 ⟨h.me,h.nn,h.lt,h.n3,h.n7,h.T6,h.E1,h.pat,h.up,h.nx,hl,h.st,h.lv,fun x r hr=>(h.rs x r hr).mono rfl (h.rs x r hr).dec (h.rs x r hr).nz (Bl.lt_irrefl _),h.mb,h.kz,h.used,h.top,h.held⟩
theorem send(h:Sm n T E i s){m:Ms}(hm:cj T E m)(DX:Int):Sm n T E i (s.send DX m):=by
 rw[Site.jO]
 refine h.ln fun x hx=>?_
 rcases mem_append.1 hx with hx|hx
 ·exact h.held x hx
 ·rw[mem_singleton]at hx;subst hx;exact hm.ad _ _
theorem others(h:Sm n T E i s){m:Ms}(hm:cj T E m)(k:Nat):Sm n T E i (s.others m k):=by
 rw[Site.bH]
 refine h.ln fun x hx=>?_
 rcases mem_append.1 hx with hx|hx
 ·exact h.held x hx
 ·obtain⟨c,-,-,rfl⟩:=Site.dH.1 hx;exact hm.ad _ _
theorem turn(h:Sm n T E i s){x:Int}(hx:0≤x∧x<T){y:Sp}(hy:y.p.r≤E∧y.at_.r≤E∧y.b.length≤3)(hz:y≠Sp.zero)(hp:¬ y.p.lt (s.stat x).p)(db:List UInt8):Sm n T E i (({s with db:=db} :Site).turn x y):=by
 have hst:∀z,(({s with db:=db} :Site).turn x y).stat z=if x=z then y else s.stat z:=fun z=>Site.oY _ _ _ _
 have mc:∀z,s.stat z≠Sp.zero→(({s with db:=db} :Site).turn x y).stat z≠Sp.zero:=fun z hn=>by
  rw[hst];split
  ·exact hz
  ·exact hn
 have pN:∀z,¬ ((({s with db:=db} :Site).turn x y).stat z).p.lt (s.stat z).p:=fun z=>by
  rw[hst];split
  ·rename_i e;subst e;exact hp
  ·exact Bl.lt_irrefl _
 have rX:=h.top
 refine⟨h.me,h.nn,h.lt,h.n3,h.n7,h.T6,h.E1,h.pat,h.up,h.nx,h.pM,fun z=>?_,h.lv,fun z r hr=>?_,h.mb,h.kz,fun k hk hk2=>?_,?_,h.held⟩
 ·rw[hst]
  split
  ·rename_i e
   subst e
   exact⟨hy.1,hy.2.1,hy.2.2,fun _=>⟨hx.1,hx.2,by show _≤max s.top (x+1);omega⟩⟩
  ·obtain⟨a1,a2,a3,a4⟩:=h.st z
   exact⟨a1,a2,a3,fun hn=>⟨(a4 hn).1,(a4 hn).2.1,by have:=(a4 hn).2.2;show _≤max s.top (x+1);omega⟩⟩
 ·have fP:=h.rs z r hr
  exact fP.mono rfl fP.dec (mc z fP.nz) (pN z)
 ·have:=h.used k hk hk2
  by_cases c:s.dec (k:Int)=none
  ·have hn:s.stat (k:Int)≠Sp.zero:=fun e=>by
    rw[Site.bo.2 ⟨c,by rw[e];decide⟩]at this;cases this
   exact fM (mc _ hn)
  ·exact fx (s:=({s with db:=db} :Site).turn x y) c
 ·show 0≤max s.top (x+1)∧max s.top (x+1)≤T
  omega
theorem bytes(h:Sm n T E i s){x:Int}(hx:0≤x∧x<T){k:Int}(hk:k=1∨k=2){b:Bl}(hb:0≤b.r∧b.r≤E)(hs:0≤b.s∧b.s≤6){v:List UInt8}(hv:v.length≤3):(bX [⟨k,x,b.r,b.s,v⟩]).length≤16:=by
 have h1:=h.T6;have h2:=h.n7;have h3:=h.E1
 exact BA _ (by dsimp only;omega) (by dsimp only;omega) (by dsimp only;omega) (by dsimp only;omega) hv
theorem accept(h:Sm n T E i s){x:Int}(hx:0≤x∧x<T){b:Bl}(hb:0≤b.r∧b.r≤E)(hs:0≤b.s∧b.s≤6){v:List UInt8}(hv:v.length≤3)(ha:s.accept x b v=some t):Sm n T E i t∧t.db.length≤s.db.length+16∧t.held=s.held∧t.rs=s.rs∧t.lv=s.lv∧t.nx=s.nx∧Site.dq s t∧(∀z,t.stat z=if x=z then⟨b,true,b,v⟩else s.stat z):=by
 have hc:¬ b.lt (s.stat x).p:=fun hl=>by
  unfold Site.accept at ha
  rw[if_pos ((gp _ _).2 hl)]at ha;cases ha
 have ht:=Site.oM ha
 have hl:=h.bytes hx (.inr rfl) hb hs hv
 subst ht
 refine⟨h.turn hx ⟨hb.2,hb.2,hv⟩ (by intro e;have:=congrArg Sp.so e;simp[Sp.zero]at this) hc _,?_,rfl,rfl,rfl,rfl,⟨rfl,rfl,rfl,rfl,rfl,rfl,rfl⟩,fun z=>Site.oY _ _ _ _⟩
 show(s.db++bX _).length≤_
 rw[length_append];omega
theorem promise(h:Sm n T E i s){x:Int}(hx:0≤x∧x<T){b:Bl}(hb:b.r≤E)(hs:0≤b.s∧b.s≤6)(ha:s.promise x b=some t):Sm n T E i t∧t.db.length≤s.db.length+16∧t.held=s.held∧t.rs=s.rs∧t.lv=s.lv∧t.nx=s.nx∧Site.dq s t∧(∀z,t.stat z=if x=z then {s.stat x with p:=b}else s.stat z)∧1≤b.r:=by
 obtain⟨h1,ht⟩:=Site.lr ha
 have hc:¬ b.lt (s.stat x).p:=fun hl=>by
  unfold Site.promise at ha
  rw[if_pos (.inr ((gp _ _).2 hl))]at ha;cases ha
 have hl:=h.bytes hx (.inl rfl) (b:=b) ⟨by omega,hb⟩ hs (v:=[]) (by simp)
 subst ht
 refine⟨h.turn hx (y:={s.stat x with p:=b}) ⟨hb,(h.st x).2.1,(h.st x).2.2.1⟩ (by intro e;have:=congrArg (fun z:Sp=>z.p.r) e;simp[Sp.zero]at this;omega) hc _,?_,rfl,rfl,rfl,rfl,⟨rfl,rfl,rfl,rfl,rfl,rfl,rfl⟩,fun z=>Site.oY _ _ _ _,h1⟩
 show(s.db++bX _).length≤_
 rw[length_append];omega
theorem fH(h:Sm n T E i s){x:Int}{r:Rn}(hr:iJ n T E s x r):Sm n T E i {s with rs:=aT x r s.rs}:=by
 have hs:=TB x r s.rs h.kz
 refine⟨h.me,h.nn,h.lt,h.n3,h.n7,h.T6,h.E1,h.pat,h.up,h.nx,h.pM,h.st,h.lv,fun z q hq=>?_,qy hs,hs,h.used,h.top,h.held⟩
 have hq:aD z (aT x r s.rs)=some q:=hq
 rw[cO]at hq
 split at hq
 ·rename_i e
  injection hq with hq
  subst hq e
  exact hr.mono rfl hr.dec hr.nz (Bl.lt_irrefl _)
 ·have:=h.rs z q hq
  exact this.mono rfl this.dec this.nz (Bl.lt_irrefl _)
theorem nu(h:Sm n T E i s)(x:Int):Sm n T E i {s with rs:=bY x s.rs}:=by
 have hs:=AD x s.rs h.kz
 refine⟨h.me,h.nn,h.lt,h.n3,h.n7,h.T6,h.E1,h.pat,h.up,h.nx,h.pM,h.st,h.lv,fun z q hq=>?_,qy hs,hs,h.used,h.top,h.held⟩
 have hq:aD z (bY x s.rs)=some q:=hq
 rw[gm]at hq
 split at hq
 ·cases hq
 ·have:=h.rs z q hq
  exact this.mono rfl this.dec this.nz (Bl.lt_irrefl _)
theorem jI(h:Sm n T E i s){k:Nat}(hk:k≤T)(hu:∀z:Nat,z % n=i→z<k→s.fresh (z:Int)=false):Sm n T E i {s with nx:=k}:=
 ⟨h.me,h.nn,h.lt,h.n3,h.n7,h.T6,h.E1,h.pat,h.up,hk,h.pM,h.st,h.lv,fun x r hr=>(h.rs x r hr).mono rfl (h.rs x r hr).dec (h.rs x r hr).nz (Bl.lt_irrefl _),h.mb,h.kz,hu,h.top,h.held⟩
theorem aX(h:Sm n T E i s){x:Int}(hx:0≤x∧x<T){v:List UInt8}(hv:v.length≤3):Sm n T E i (s.aX x v):=by
 have lg:=Site.mJ s x v
 have bZ:∀z q,aD z (s.aX x v).rs=some q→aD z s.rs=some q∧(s.aX x v).dec z=s.dec z:=fun z q hq=>by
  unfold Site.aX at hq ⊢
  split at hq
  ·rename_i hc
   rw[if_pos hc]
   have hq:aD z (bY x s.rs)=some q:=hq
   rw[gm]at hq
   split at hq
   ·cases hq
   ·rename_i hne
    refine⟨hq,?_⟩
    unfold Site.dec
    dsimp only
    split
    ·rfl
    ·rw[cO,if_neg (fun e=>hne e.symm)]
  ·rename_i hc
   rw[if_neg hc]
   exact⟨hq,rfl⟩
 have ZL:(s.aX x v).st=s.st∧(s.aX x v).top=s.top∧(s.aX x v).nx=s.nx∧(s.aX x v).held=s.held:=by
  unfold Site.aX;split<;>exact⟨rfl,rfl,rfl,rfl⟩
 obtain⟨e1,e2,e3,e4⟩:=ZL
 have hst:∀z,(s.aX x v).stat z=s.stat z:=fun z=>by unfold Site.stat;rw[e1]
 have k:=Site.jt s x v
 have hs:(s.aX x v).rs.Pairwise fun a b=>a.1<b.1:=by
  unfold Site.aX;split
  ·exact AD x s.rs h.kz
  ·exact h.kz
 refine⟨k.me.trans h.me,k.n.trans h.nn,h.lt,h.n3,h.n7,h.T6,h.E1,k.pat.trans h.pat,k.down.trans h.up,by rw[e3];exact h.nx,by rw[k.wt];exact h.pM,fun z=>by rw[hst,e2];exact h.st z,fun z w hw=>?_,fun z q hq=>?_,qy hs,hs,fun z hz hz2=>?_,by rw[e2];exact h.top,by rw[e4];exact h.held⟩
 ·unfold Site.aX at hw
  split at hw
  ·unfold Site.dec at hw
   dsimp only at hw
   split at hw
   ·exact h.lv z w hw
   ·rw[cO]at hw
    split at hw
    ·rename_i e
     injection hw with hw
     subst hw e
     exact⟨hx.1,hx.2,hv⟩
    ·exact h.lv z w hw
  ·exact h.lv z w hw
 ·obtain⟨q1,q2⟩:=bZ z q hq
  have:=h.rs z q q1
  exact this.mono k.me (by rw[q2];exact this.dec) (by rw[hst];exact this.nz) (by rw[hst];exact Bl.lt_irrefl _)
 ·rw[e3]at hz2
  exact ky hst lg.dec (h.used z hz hz2)
end Sm
theorem DY{α:Type}{x:Int}{r:α} :∀{M:AL α},M.Pairwise (fun a b=>a.1<b.1)→aD x M=some r→aT x r M=M
 |[],_,h=>by cases h
 |y::M,hs,h=>by
  obtain⟨h1,h2⟩:=pairwise_cons.1 hs
  by_cases c:y.1=x
  ·have hy:y=(x,r):=by
    unfold aD at h
    rw[List.find?_cons,dJ c]at h
    have:=Option.some.inj h
    exact Prod.ext c this
   subst hy
   have hd:bY x ((x,r)::M)=M:=by
    unfold bY
    rw[filter_cons,if_neg (by simp)]
    exact filter_eq_self.2 fun p hp=>by have:=h1 p hp;simp;omega
   unfold aT
   rw[hd]
   cases M with
   |nil=>rfl
   |cons z M=>
    unfold gK
    rw[if_pos (h1 z (by simp))]
  ·have h':aD x M=some r:=by
    unfold aD at h ⊢
    rw[List.find?_cons,eE c]at h
    exact h
   have hm:=bG h'
   have hlt:=h1 _ hm
   have ih:=DY h2 h'
   unfold aT at ih ⊢
   have hd:bY x (y::M)=y::bY x M:=by
    unfold bY
    rw[filter_cons,if_pos (by simp[c])]
   rw[hd]
   unfold gK
   rw[if_neg (by dsimp only at hlt ⊢;omega),ih]
def ja{α:Type}(f:Int→α→Nat)(M:AL α):Nat:=(M.map fun e=>f e.1 e.2).sum
theorem Pr{α:Type}(f:Int→α→Nat)(e:Int × α)(M:AL α):ja f (gK e M)=f e.1 e.2+ja f M:=by
 unfold ja
 have:=((vk e M).map fun e=>f e.1 e.2).sum_nat
 rw[this];rfl
theorem lx{α:Type}(f:Int→α→Nat)(x:Int)(r:α)(M:AL α):ja f (aT x r M)=f x r+ja f (bY x M):=Pr f (x,r) _
theorem ly{α:Type}(f:Int→α→Nat){x:Int}{r:α}{M:AL α}(hs:M.Pairwise fun a b=>a.1<b.1)(h:aD x M=some r):ja f M=f x r+ja f (bY x M):=by
 have:=lx f x r M
 rwa [DY hs h]at this
theorem kI{α:Type}(f:Int→α→Nat)(x:Int)(M:AL α):ja f (bY x M)≤ja f M:=by
 unfold ja bY
 induction M with
 |nil=>simp
 |cons e M ih=>
  rw[filter_cons]
  split
  ·simp only[map_cons,sum_cons];omega
  ·simp only[map_cons,sum_cons];omega
structure Pw(n i:Nat) where
 w:Ms→Nat
 A:Int→Bool
 tF:Nat
 tT:Nat
 φ:Nat
 ρ:Nat
 δ:Nat
 c1:Nat
 c5:Nat
 nv:∀m:Ms,m.kind=2∨m.kind=4∨m.kind=6∨m.kind=7→w m≤c1
 fresh:6*c1+ρ≤φ
 low:∀m:Ms,m.to=i→δ≤w m
 Ia:∀m:Ms,m.to=i→m.kind=1∨m.kind=3∨m.kind=5→c1+ρ+δ≤w m
 DZ:∀(s:Site)(m:Ms),s.me=i→i<n→n≤7→m.kind=5→(((s.tell m n).map w).sum)≤c5
 D0:c5+tT+ρ≤tF
 JK:6*c1≤tT
 JL:∀m:Ms,m.to=i→m.kind=8→16*c1+δ≤w m
namespace Pw
variable {n i:Nat} (P:Pw n i)
def ws(l:List Ms):Nat:=(l.map P.w).sum
def tok(s:Site):Nat:=ja (fun x (r:Rn)=>if P.A x then(if r.so then P.tT else P.tF)else 0) s.rs
theorem ff(a b:List Ms):P.ws (a++b)=P.ws a+P.ws b:=by simp[ws]
theorem vm:P.ws []=0:=rfl
theorem D3(m:Ms):P.ws [m]=P.w m:=by simp[ws]
theorem wI{l:List Ms}{c:Nat}(h:∀m∈l,P.w m≤c):P.ws l≤c*l.length:=by
 induction l with
 |nil=>simp[ws]
 |cons m l ih=>
  have h1:=h m (by simp)
  have h2:=ih fun x hx=>h x (by simp[hx])
  have h3:P.ws (m::l)=P.w m+P.ws l:=by simp[ws]
  rw[h3,length_cons,Nat.mul_succ];omega
end Pw
def jh(n T i:Nat)(s:Site):Nat:=((List.range T).filter fun(k:Nat)=>decide (k % n=i)&&s.fresh (k:Int)).length
theorem mf{n T i:Nat}{s t:Site}{ys:List Nat}(h:∀k:Nat,t.fresh (k:Int)=true→s.fresh (k:Int)=true)(hn:ys.Nodup)(hy:∀y∈ys,y<T∧y % n=i∧s.fresh (y:Int)=true∧t.fresh (y:Int)=false):jh n T i t+ys.length≤jh n T i s:=by
 unfold jh
 rw[←length_append]
 refine iZ (nodup_append.2 ⟨List.Nodup.sublist filter_sublist nodup_range,hn,fun a h1 b h2 e=>?_⟩) fun x hx=>?_
 ·subst e
  have h3:=(mem_filter.1 h1).2
  have h4:=(hy a h2).2.2.2
  rw[h4]at h3;simp at h3
 ·rcases mem_append.1 hx with hx|hx
  ·obtain⟨h1,h2⟩:=mem_filter.1 hx
   rw[Bool.and_eq_true]at h2
   exact mem_filter.2 ⟨h1,by rw[h2.1,h x h2.2];rfl⟩
  ·obtain⟨h1,h2,h3,-⟩:=hy x hx
   exact mem_filter.2 ⟨mem_range.2 h1,by rw[dJ h2,h3];rfl⟩
def Pw.pt{n i:Nat}(P:Pw n i)(T:Nat)(s:Site):Nat:=P.tok s+P.φ*jh n T i s
structure Dl(n T E i:Nat)(s t:Site)(m:Ms)(out:List Ms)(k:Nat):Prop where
 sm:Sm n T E i t
 held:t.held= []
 outs:∀m'∈out,cj T E m'∧m'.aR=(i:Int)∧∃c:Nat,c<n∧c≠i∧m'.to=c
 D4:∀m'∈out,m'.kind=1∨m'.kind=3∨m'.kind=5→m'.kind=5∧m.kind=4∧m'.slot=m.slot∧∃r,aD m.slot s.rs=some r∧m'.aC=r.aC∧r.so=false
 a46:∀m'∈out,m'.kind=4∨m'.kind=6→m'.slot=m.slot∧m'.to=m.aR∧(m.kind=1∨m.kind=3∨m.kind=5)
 a8:∀m'∈out,m'.kind≠8
 a27:∀m'∈out,m'.kind=2∨m'.kind=7→t.dec m'.slot≠none
 a7:∀m'∈out,m'.kind=7→m'.some_=true
 uF:∀P:Pw n i,(m.kind=4∨m.kind=6→P.A m.slot=true)→P.ws out+P.pt T t+P.ρ*k+P.δ≤P.w m+P.pt T s
 db:t.db.length≤s.db.length+16*k
 dec:∀(x:Int) w,s.dec x=some w→t.dec x=some w
 quiet:∀x r',aD x t.rs=some r'→∃r,aD x s.rs=some r∧r'.cV=r.cV∧r'.aC=r.aC
 mb:∀x r,aD x s.rs=some r→(x≠m.slot∨m.kind≠4∧m.kind≠6)→t.dec x≠none∨aD x t.rs=some r
 fr:∀x:Int,s.fresh x=true→t.fresh x=true∨t.dec x≠none∨(m.slot=x∧(m.kind=1∨m.kind=3∨m.kind=5))
 nf:∀x:Int,s.fresh x=false→t.fresh x=false
 Ps:∀(x:Int)(b:Bl),1≤b.r→¬ b.lt (s.stat x).p→(m.slot=x→m.kind=1∨m.kind=3∨m.kind=5→¬ b.lt m.aC)→¬ b.lt (t.stat x).p
 Vq:∀x:Int,¬ (t.stat x).p.lt (s.stat x).p
theorem ye{T E:Nat}{y:Nat}(hy:y<T){me:Nat} :cj T E (Site.bt (y:Int) ⟨0,(me:Int)⟩):=
 ⟨fun _=>by simp[Site.bt];omega,by simp[Site.bt],by simp[Site.bt],by simp[Site.bt]⟩
theorem mD{T E:Nat}{x:Int}(hx:x<T){v:List UInt8}(hv:v.length≤3):cj T E (Site.bD x v):=
 ⟨fun _=>hx,by simp[Site.bD],by simp[Site.bD],hv⟩
namespace Sm
variable {n T E i:Nat} {s t:Site}
theorem cG:∀(f c:Nat)(s:Site)(tg:Int),Sm n T E i s→tg≤T→Sm n T E i (Site.cG f c s tg)
 |0,_,s,_,h,_=>h
 |f+1,c,s,tg,h,ht=>by
  have hT:=h.T6;have h7:=h.n7;have hlt:=h.lt;have ca:=h.me;have hn:=h.nn;have uG:=h.nx
  by_cases hc:8≤c∨bV s.me s.nx s.n<0∨tg≤bV s.me s.nx s.n
  ·rw[Site.nl _ _ _ _ hc];exact h
  rcases rh (me:=s.me) (n:=s.n) (f:=s.nx) (by omega) (by omega) (by omega) with⟨e,-⟩|⟨y,e,y1,y2,y3,y4⟩
  ·exact absurd (.inr (.inl (by omega))) hc
  have xk:y<T:=by omega
  rw[hn,ca]at y3 y4
  have Vr:∀{u:Site},(∀x:Int,u.fresh x=true→s.fresh x=true)→u.fresh (y:Int)=false→∀z:Nat,z % n=i→z<y+1→u.fresh (z:Int)=false:=fun {u} hu hy z hz hz2=>by
   by_cases c1:z<s.nx
   ·cases hf:u.fresh (z:Int) with
    |false=>rfl
    |true=>have:=h.used z hz c1;rw[hu _ hf]at this;cases this
   ·by_cases c2:z=y
    ·rw[c2];exact hy
    ·exact absurd hz (y4 z (by omega) (by omega))
  have et:((y:Int)+1).toNat=y+1:=by omega
  cases hf:s.fresh (y:Int) with
  |false=>
   rw[Site.tu _ _ _ _ (by omega) (by omega) (by rw[e];exact hf),e,et]
   exact cG f c _ tg (h.jI (by omega) (Vr (fun _ h=>h) hf)) ht
  |true=>
   cases ha:s.accept (y:Int) s.bQ [] with
   |none=>
    unfold Site.cG
    rw[if_neg (by omega),if_neg (by omega),e,if_pos hf,ha]
    exact h
   |some t=>
    rw[Site.tx _ _ s t _ (by omega) (by omega) (by rw[e];exact hf) (by rw[e];exact ha),e]
    have hB:s.bQ=⟨0,(i:Int)⟩:=by unfold Site.bQ;rw[ca]
    rw[hB]at ha ⊢
    obtain⟨h1,-,-,-,h5,h6,h8,h9⟩:=h.accept (by omega) (by dsimp only;omega) (by dsimp only;omega) (by simp) ha
    refine cG f (c+1) _ tg ?_ ht
    unfold Site.iI
    rw[et]
    have hsk:=ye (E:=E) xk (me:=i)
    have mK:=(h1.others hsk t.n).send hsk (t.me:Int)
    have hst:∀x:Int,((t.others (Site.bt (y:Int) ⟨0,(i:Int)⟩) t.n).send (t.me:Int) (Site.bt (y:Int) ⟨0,(i:Int)⟩)).fresh x=t.fresh x:=fun x=>by rw[Site.bH];rfl
    refine mK.jI (by omega) (Vr (fun x hx=>?_) ?_)
    ·rw[hst]at hx
     obtain⟨f1,f2⟩:=Site.bo.1 hx
     have f1:s.dec x=none:=by unfold Site.dec at f1 ⊢;rwa [h5]at f1
     rw[h9]at f2
     split at f2
     ·have:=Site.js f2
      have:=congrArg Sp.so this;simp[Sp.zero]at this
     ·exact Site.bo.2 ⟨f1,f2⟩
    ·rw[hst]
     exact fM (by rw[h9,if_pos rfl];intro e;have:=congrArg Sp.so e;simp[Sp.zero]at this)
theorem fl:∀(ys:List Nat)(s:Site),Sm n T E i s→(∀y∈ys,y<T)→Sm n T E i (s.fl ys)
 |[],s,h,_=>h
 |y::ys,s,h,hy=>by
  have e:s.fl (y::ys)=(s.aX (y:Int) []).fl ys:=by unfold Site.fl;rw[foldl_cons]
  rw[e]
  exact fl ys _ (h.aX (by have:=hy y (by simp);omega) (by simp)) fun z hz=>hy z (by simp[hz])
theorem flush(h:Sm n T E i s){tg:Nat}(sw:tg≤T)(pO:s.db.length+1000≤1048576)(hA:∀m∈s.held,m.to≠(i:Int)){B:List Ms}(hB:∀m∈B,m.to≠(i:Int))(Ib:∀m∈B,cj T E m) :
  ∃(ys:List Nat)(t:Site),({s.skip tg with held:=(s.skip tg).held++B} :Site).sync=(t,s.held++(ys.flatMap fun(y:Nat)=>s.tell (Site.bt y ⟨0,(i:Int)⟩) n)++B)∧Sm n T E i t∧t.held= []∧t.db.length≤s.db.length+16*ys.length∧(s.skip tg).lv=s.lv∧(s.skip tg).me=i∧
   ys.Nodup∧(∀y∈ys,y<tg∧y % n=i∧s.fresh (y:Int)=true)∧(∀x:Int,t.stat x=if ∃y∈ys,(y:Int)=x then⟨⟨0,(i:Int)⟩,true,⟨0,(i:Int)⟩,[]⟩else s.stat x)∧
   (∀x:Int,(∃y∈ys,(y:Int)=x)→t.dec x=some []∧aD x t.rs=none)∧(∀x:Int,(¬ ∃y∈ys,(y:Int)=x)→t.dec x=s.dec x∧aD x t.rs=aD x s.rs)∧
   (∀k:Nat,k % n=i→k<tg→t.fresh (k:Int)=false)∧Site.dq s {t with dn:=s.dn}∧ja (fun _ (_:Rn)=>1) t.rs≤ja (fun _ (_:Rn)=>1) s.rs∧t.rs=s.rs.filter (fun e=>!decide (∃y∈ys,(y:Int)=e.1)):=by
 have hT:=h.T6;have h7:=h.n7;have h3:=h.n3;have hlt:=h.lt;have hn:=h.nn;have ca:=h.me;have uG:=h.nx
 obtain⟨ys,hs,hlen⟩:=Site.mI tg (by omega) 4098 0 s (by omega) (by omega) (by omega) (by omega) (by omega) (by omega) (by omega) (fun y _ _=>by omega)
 have gz:=cG 4098 0 s (tg:Int) h (by omega)
 rw[show Site.cG 4098 0 s (tg:Int)=s.skip (tg:Int)from rfl]at hs gz
 have oj:s.bQ=⟨0,(i:Int)⟩:=by unfold Site.bQ;rw[ca]
 have jf:=hs.held
 rw[oj]at jf
 obtain⟨s2,hs2⟩:=bk (s.skip (tg:Int))
 rw[hs2]at hs jf gz ⊢
 rw[hn,ca]at jf
 have hk:=hs.gj
 obtain⟨u,hu⟩:∃u,u=({s2 with held:=s2.held++B} :Site):=⟨_,rfl⟩
 have u1:u.me=i:=by rw[hu];exact hk.me.trans ca
 have u2:u.n=n:=by rw[hu];exact hk.n.trans hn
 have u3:u.held=s2.held++B:=by rw[hu]
 have u4:u.down=false:=by rw[hu];exact hk.down.trans h.up
 have RO:∀m,u.tell m n=s.tell m n:=fun m=>by unfold Site.tell;rw[u1,ca]
 have hown:∀y∈ys,y<tg∧y % n=i∧s.fresh (y:Int)=true∧y<4096:=fun y hy=>by
  obtain⟨k1,k2,k3,k4,k5⟩:=hs.own y hy
  rw[hn,ca]at k1
  exact⟨k3,k1,k5,k4⟩
 have sx:=Site.y9 (u:=u) (A:=s.held) (B:=B) (ys:=ys) (b:=⟨0,(i:Int)⟩) u4 (by rw[u1];exact hA) (by rw[u1];exact hB)
  (
   by
   rw[u1,u2,u3,jf]
   congr 2
   refine congrArg (fun g=>flatMap g ys) (funext fun y=>?_)
   rw[RO]) (fun y hy=>by obtain⟨k1,k2,k3,k4⟩:=hown y hy;rw[u1,u2];exact⟨k4,k2⟩) (by rw[u2];omega) (by rw[u2];exact h7)
 have sx:u.sync=(({u with dn:=u.db.length,held:=[]} :Site).fl ys,s.held++(ys.flatMap fun(y:Nat)=>u.tell (Site.bt y ⟨0,(i:Int)⟩) n)++B):=by rw[←u2];exact sx
 have e2:(ys.flatMap fun(y:Nat)=>u.tell (Site.bt y ⟨0,(i:Int)⟩) n)=ys.flatMap fun(y:Nat)=>s.tell (Site.bt y ⟨0,(i:Int)⟩) n:=congrArg (fun g=>flatMap g ys) (funext fun y=>RO _)
 rw[e2]at sx
 obtain⟨v,hv⟩:∃v,v=({u with dn:=u.db.length,held:=[]} :Site):=⟨_,rfl⟩
 rw[←hv]at sx
 have hvS:Sm n T E i v:=by
  rw[hv,hu]
  exact gz.hold (fun m hm=>by cases hm) _
 have v1:v.lv=s.lv∧v.rs=s.rs∧v.db=s2.db∧(∀x,v.stat x=s2.stat x):=by
  rw[hv,hu]
  exact⟨hs.lv,hs.rs,rfl,fun _=>rfl⟩
 obtain⟨v1,v2,v3,v4⟩:=v1
 have RP:∀x,v.dec x=s.dec x:=fun x=>by unfold Site.dec;rw[v1]
 have hd:=Site.vg ys v (fun y hy=>⟨(hown y hy).2.2.2,.inl (by rw[RP];exact(Site.bo.1 (hown y hy).2.2.1).1)⟩)
 have adk:∀(ys:List Nat)(v:Site),(∀y∈ys,v.mw (y:Int) []=true)→ys.Nodup→(v.fl ys).rs=v.rs.filter (fun e=>!decide (∃y∈ys,(y:Int)=e.1)):=by
  intro ys
  induction ys with
  |nil=>intro v _ _;exact(filter_eq_self.2 (by simp)).symm
  |cons y ys ih=>
   intro v hp om
   obtain⟨n1,n2⟩:=nodup_cons.1 om
   have e:v.fl (y::ys)=(v.aX (y:Int) []).fl ys:=by unfold Site.fl;rw[foldl_cons]
   have hd:v.aX (y:Int) []= {v with lv:=(if(v.dec (y:Int)).isSome then v.lv else aT (y:Int) [] v.lv),rs:=bY (y:Int) v.rs}:=by unfold Site.aX;rw[if_pos (hp y (by simp))]
   rw[e,ih _ (fun z hz=>?_) n2]
   ·rw[hd]
    dsimp only
    unfold bY
    rw[filter_filter]
    refine filter_congr fun e he=>?_
    by_cases c:e.1=(y:Int)
    ·have:∃z∈y::ys,(z:Int)=e.1:=⟨y,by simp,c.symm⟩
     simp[c]
    ·by_cases c2:∃z∈ys,(z:Int)=e.1
     ·obtain⟨z,z1,z2⟩:=c2
      have h1:∃z∈y::ys,(z:Int)=e.1:=⟨z,by simp[z1],z2⟩
      have h2:∃z∈ys,(z:Int)=e.1:=⟨z,z1,z2⟩
      rw[dJ h1,dJ h2];simp
     ·have h1:¬ ∃z∈y::ys,(z:Int)=e.1:=fun⟨z,z1,z2⟩=>by
       rcases mem_cons.1 z1 with rfl|z1
       ·exact c z2.symm
       ·exact c2 ⟨z,z1,z2⟩
      rw[eE h1,eE c2,eE c];rfl
   ·have hz1:=hp z (by simp[hz])
    have hne:¬ ((y:Int)=(z:Int)):=fun e=>n1 (by rw[show y=z by omega];exact hz)
    have hdz:(v.aX (y:Int) []).dec (z:Int)=v.dec (z:Int):=by
     rw[hd]
     unfold Site.dec
     dsimp only
     split
     ·rfl
     ·rw[cO,if_neg hne]
    unfold Site.mw at hz1 ⊢
    rw[hdz];exact hz1
 have hpo:∀y∈ys,v.mw (y:Int) []=true:=fun y hy=>by
  obtain⟨k1,k2,k3,k4⟩:=hown y hy
  unfold Site.mw
  rw[RP,(Site.bo.1 k3).1]
  simp;omega
 obtain⟨t,ht⟩:=bk (v.fl ys)
 have bZ:=adk ys v hpo hs.nodup
 rw[ht]at sx hd bZ
 have RQ:∀x,t.stat x=s2.stat x:=fun x=>by rw[←v4];unfold Site.stat;rw[hd.st]
 refine⟨ys,t,by rw[←hu];exact sx,by rw[←ht];exact fl ys v hvS (fun y hy=>by have:=(hown y hy).1;omega),?_,?_,hs.lv,hk.me.trans ca,hs.nodup,fun y hy=>⟨(hown y hy).1,(hown y hy).2.1,(hown y hy).2.2.1⟩,fun x=>?_,fun x hx=>hd.at_ x hx,fun x hx=>?_,fun k hk2 fZ=>?_,?_,?_,by rw[bZ,v2]⟩
 ·rw[hd.held,hv]
 ·rw[hd.db,v3];exact hs.db
 ·rw[RQ,hs.st]
  unfold Site.ou;rw[oj]
 ·obtain⟨a1,a2⟩:=hd.off x hx
  rw[a1,a2,RP,v2];exact⟨rfl,rfl⟩
 ·have eP:s2.fresh (k:Int)=false:=by
   by_cases c:k<s.nx
   ·have:=h.used k hk2 c
    exact Site.Df _ _ hs k this
   ·exact hs.all k (by rw[hn,ca];exact hk2) (by omega) fZ (by omega)
  by_cases c:∃y∈ys,(y:Int)=(k:Int)
  ·exact fx (by rw[(hd.at_ _ c).1];simp)
  ·cases hf:t.fresh (k:Int) with
   |false=>rfl
   |true=>
    obtain⟨f1,f2⟩:=Site.bo.1 hf
    rw[(hd.off _ c).1,RP]at f1
    rw[RQ]at f2
    rw[Site.bo.2 ⟨by unfold Site.dec at f1 ⊢;rw[hs.lv];exact f1,f2⟩]at eP;cases eP
 ·have k1:Site.dq s2 {t with dn:=s2.dn}:=by
   have:=hd.gj
   rw[hv,hu]at this
   exact⟨this.me,this.n,this.pat,this.down,this.wt,rfl,this.taken⟩
  exact⟨k1.me.trans hk.me,k1.n.trans hk.n,k1.pat.trans hk.pat,k1.down.trans hk.down,k1.wt.trans hk.wt,rfl,k1.taken.trans hk.taken⟩
 ·rw[bZ,v2]
  unfold ja
  simp only[map_const',sum_replicate_nat,Nat.mul_one]
  exact length_filter_le _ _
end Sm
theorem Pw.vn{n i:Nat}(P:Pw n i){s t:Site}(h:t.rs=s.rs):P.tok t=P.tok s:=by unfold Pw.tok;rw[h]
theorem Pw.JM{n i T:Nat}(P:Pw n i){s t:Site}(h:P.tok t≤P.tok s)(hf:∀k:Nat,t.fresh (k:Int)=true→s.fresh (k:Int)=true):P.pt T t≤P.pt T s:=by
 have h1:=mf (n:=n) (T:=T) (i:=i) (ys:=[]) hf nodup_nil (fun y hy=>by cases hy)
 rw[length_nil,Nat.add_zero]at h1
 unfold Pw.pt
 have:=Nat.mul_le_mul_left P.φ h1
 omega
namespace Sm
variable {n T E i:Nat} {s t u:Site} {m:Ms}
theorem nr(h:Sm n T E i u)(hH:∀m'∈u.held,m'.to≠(i:Int)):u.sync=({u with dn:=u.db.length,held:=[]},u.held):=
 Calm.nr h.up (by rw[h.nn];have:=h.n3;omega) (by rw[h.nn];exact h.n7) (A:=u.held) (by rw[h.me];exact hH) rfl
theorem Mb(hg:m.eS n i)(P:Pw n i):P.δ≤P.w m:=P.low m hg.1
theorem vo(hg:m.eS n i):m.aR≠(i:Int):=by
 obtain⟨-,c,h2,h3,h4⟩:=hg;rw[h4];omega
theorem TC(h:Sm n T E i s)(hg:m.eS n i)(d:Nat):Dl n T E i s {s with dn:=d,held:=[]} m [] 0:=by
 refine⟨h.hold (fun m hm=>by cases hm) d,rfl,fun m' hm=>(by cases hm),fun m' hm=>(by cases hm),fun m' hm=>(by cases hm),fun m' hm=>(by cases hm),fun m' hm=>(by cases hm),fun m' hm=>(by cases hm),fun P _=>?_,by simp,fun _ _ h=>h,fun _ r h=>⟨r,h,rfl,rfl⟩,fun _ _ h _=>.inr h,fun _ h=>.inl h,fun _ h=>h,fun _ _ _ h _=>h,fun _=>Bl.lt_irrefl _⟩
 have h1:=Mb hg P
 have h2:P.pt T {s with dn:=d,held:=[]} =P.pt T s:=rfl
 rw[h2,P.vm];omega
theorem nw(h:Sm n T E i s)(hh:s.held= [])(hg:m.eS n i)(e:s.take m=s):∃t out k,(s.take m).sync=(t,out)∧Dl n T E i s t m out k∧k=0∧out= []∧t= {s with dn:=s.db.length,held:=[]}:=by
 rw[e,nr h (by rw[hh];intro m hm;cases hm),hh]
 exact⟨_,[],0,rfl,h.TC hg _,rfl,rfl,rfl⟩
theorem JN(h:Sm n T E i s)(hh:s.held= [])(hm:m.bL)(hg:m.eS n i)(hk:m.kind=1∨m.kind=3∨m.kind=5){v:List UInt8}(hd:s.dec m.slot=some v) :
  ∃t out k,(s.take m).sync=(t,out)∧Dl n T E i s t m out k∧out= [(Site.bD m.slot v).ad i m.aR]:=by
 have ca:=h.me
 obtain⟨l1,l2,l3⟩:=h.lv _ _ hd
 have e:s.take m= {s with held:=[(Site.bD m.slot v).ad i m.aR]}:=by
  unfold Site.take
  rw[if_pos hk,hd]
  dsimp only
  rw[Site.jO,hh,ca];rfl
 have hS:=h.ln (l:=[(Site.bD m.slot v).ad i m.aR]) fun m' bw=>by
  rw[mem_singleton]at bw;subst bw;exact(mD l2 l3).ad _ _
 rw[e,nr hS (fun m' bw=>by
  have bw:m'∈[(Site.bD m.slot v).ad i m.aR]:=bw
  rw[mem_singleton]at bw;subst bw;exact vo hg)]
 refine⟨_,_,0,rfl,⟨hS.hold (fun m hm=>by cases hm) _,rfl,fun m' bw=>?_,fun m' bw k=>?_,fun m' bw k=>?_,fun m' bw=>?_,fun m' bw k=>?_,fun m' bw k=>?_,fun P _=>?_,by simp,fun _ _ h=>h,fun _ r h=>⟨r,h,rfl,rfl⟩,fun _ _ h _=>.inr h,fun _ h=>.inl h,fun _ h=>h,fun _ _ _ h _=>h,fun _=>Bl.lt_irrefl _⟩,rfl⟩
 ·rw[mem_singleton]at bw;subst bw
  exact⟨(mD l2 l3).ad _ _,rfl,by obtain⟨-,c,c1,c2,c3⟩:=hg;exact⟨c,c1,c2,c3⟩⟩
 ·rw[mem_singleton]at bw;subst bw;simp[Ms.ad,Site.bD]at k
 ·rw[mem_singleton]at bw;subst bw;simp[Ms.ad,Site.bD]at k
 ·rw[mem_singleton]at bw;subst bw;simp[Ms.ad,Site.bD]
 ·rw[mem_singleton]at bw;subst bw
  show s.dec m.slot≠none
  rw[hd];simp
 ·rw[mem_singleton]at bw;subst bw;rfl
 ·have h1:=P.Ia m hg.1 hk
  have h2:=P.nv ((Site.bD m.slot v).ad i m.aR) (by simp[Ms.ad,Site.bD])
  have h3:P.pt T ({({s with held:=[(Site.bD m.slot v).ad i m.aR]} :Site)with dn:=s.db.length,held:=[]} :Site)=P.pt T s:=rfl
  have h4:P.ws ({s with held:=[(Site.bD m.slot v).ad i m.aR]} :Site).held=P.w ((Site.bD m.slot v).ad i m.aR):=P.D3 _
  rw[h4]
  show _+P.pt T ({({s with held:=[(Site.bD m.slot v).ad i m.aR]} :Site)with dn:=s.db.length,held:=[]} :Site)+_+_≤_
  rw[h3];omega
theorem Mc(h:Sm n T E i s)(hh:s.held= [])(hg:m.eS n i){x:Int}(hx:0≤x∧x<T){v:List UInt8}(hv:v.length≤3)(e:s.take m=s.aX x v)(hk:m.kind=2∨m.kind=7) :
  ∃t out k,(s.take m).sync=(t,out)∧Dl n T E i s t m out k∧out= []∧t.dec x≠none:=by
 have hT:=h.T6;have h7:=h.n7
 have hS:=h.aX hx hv
 have lg:=Site.mJ s x v
 have hf:(s.aX x v).st=s.st∧(s.aX x v).held=s.held∧(s.aX x v).db=s.db∧((s.aX x v).rs=s.rs∨(s.aX x v).rs=bY x s.rs)∧(s.aX x v).dec x≠none∧∀z,aD z s.rs≠none→(s.aX x v).dec z≠none∨aD z (s.aX x v).rs=aD z s.rs:=by
  unfold Site.aX
  by_cases hp:s.mw x v=true
  ·rw[if_pos hp]
   refine⟨rfl,rfl,rfl,.inr rfl,?_,fun z _=>?_⟩
   ·unfold Site.dec
    dsimp only
    split
    ·rename_i hc
     obtain⟨w,hw⟩:=Option.isSome_iff_exists.1 hc
     rw[hw];simp
    ·rw[cO,if_pos rfl];simp
   ·by_cases c:z=x
    ·left
     subst c
     unfold Site.dec
     dsimp only
     split
     ·rename_i hc
      obtain⟨w,hw⟩:=Option.isSome_iff_exists.1 hc
      rw[hw];simp
     ·rw[cO,if_pos rfl];simp
    ·right
     dsimp only
     rw[gm,if_neg c]
  ·rw[if_neg hp]
   refine⟨rfl,rfl,rfl,.inl rfl,fun hn=>hp ?_,fun z _=>.inr rfl⟩
   unfold Site.mw
   rw[hn]
   simp;omega
 obtain⟨u,hu⟩:=bk (s.aX x v)
 rw[e]
 rw[hu]at hS lg hf ⊢
 obtain⟨f1,f2,f3,f4,f5,f6⟩:=hf
 have np:∀z,u.stat z=s.stat z:=fun z=>by unfold Site.stat;rw[f1]
 rw[nr hS (by rw[f2,hh];intro m hm;cases hm),f2,hh]
 have ij:∀z,s.fresh z=false→u.fresh z=false:=fun z hz=>ky np lg.dec hz
 refine⟨_,[],0,rfl,⟨hS.hold (fun m hm=>by cases hm) _,rfl,fun m' hm=>(by cases hm),fun m' hm=>(by cases hm),fun m' hm=>(by cases hm),fun m' hm=>(by cases hm),fun m' hm=>(by cases hm),fun m' hm=>(by cases hm),fun P _=>?_,by show u.db.length≤_;rw[f3];omega,lg.dec,fun z q hz=>?_,fun z r hr _=>?_,fun z hz=>?_,fun z hz=>ij z hz,fun z b _ hb _=>?_,fun z=>?_⟩,rfl,f5⟩
 ·have h1:=Mb hg P
  have h2:P.pt T u≤P.pt T s:=P.JM (by
   unfold Pw.tok
   rcases f4 with f4|f4
   ·rw[f4];exact Nat.le_refl _
   ·rw[f4];exact kI _ _ _) (fun k hk=>by
    cases hf:s.fresh (k:Int) with
    |true=>rfl
    |false=>rw[ij _ hf]at hk;cases hk)
  have h3:P.pt T {u with dn:=u.db.length,held:=[]} =P.pt T u:=rfl
  rw[h3,P.vm];omega
 ·have hz:aD z u.rs=some q:=hz
  refine⟨q,?_,rfl,rfl⟩
  rcases f4 with f4|f4
  ·rw[f4]at hz;exact hz
  ·rw[f4,gm]at hz
   split at hz
   ·cases hz
   ·exact hz
 ·rcases f6 z (by rw[hr];simp)with q|q
  ·exact .inl q
  ·exact .inr (q.trans hr)
 ·by_cases c:u.dec z=none
  ·left
   refine Site.bo.2 ⟨c,?_⟩
   have:=(Site.bo.1 hz).2
   show(u.stat z).same Sp.zero=true
   rw[np];exact this
  ·exact .inr (.inl c)
 ·show ¬ b.lt (u.stat z).p
  rw[np];exact hb
 ·show ¬ (u.stat z).p.lt _
  rw[np];exact Bl.lt_irrefl _
theorem RR(h:Sm n T E i s)(hh:s.held= [])(hg:m.eS n i)(hk:m.kind=3∨m.kind=5){y:Sp}{r:Site}(hS:Sm n T E i r)(pO:r.db.length≤s.db.length+16)(hrh:r.held=s.held)(kV:r.rs=s.rs)(Vs:r.lv=s.lv)(mg:r.me=i)(hst:∀z,r.stat z=if m.slot=z then y else s.stat z)(hy:y≠Sp.zero)(hyp:y.p=m.aC)(oV:¬ y.p.lt (s.stat m.slot).p){o:Ms}(ga:cj T E o)(ef:o.kind=4∨o.kind=6)(za:o.slot=m.slot)(e:s.take m=r.send m.aR o) :
  ∃t out k,(s.take m).sync=(t,out)∧Dl n T E i s t m out k∧out= [o.ad i m.aR]∧t.fresh m.slot=false∧∀z,t.stat z=if m.slot=z then y else s.stat z:=by
 have es:r.send m.aR o=({r with held:=[o.ad i m.aR]} :Site):=by
  rw[Site.jO]
  exact congrArg (fun l=>({r with held:=l} :Site)) (by rw[mg,hrh,hh];rfl)
 rw[e,es]
 have gz:=hS.ln (l:=[o.ad i m.aR]) fun m' bw=>by
  rw[mem_singleton]at bw;subst bw;exact ga.ad _ _
 rw[nr gz (fun m' bw=>by
  have bw:m'∈[o.ad i m.aR]:=bw
  rw[mem_singleton]at bw;subst bw;exact vo hg)]
 have hdec:∀z,r.dec z=s.dec z:=fun z=>by unfold Site.dec;rw[Vs]
 have ij:∀z,s.fresh z=false→r.fresh z=false:=fun z hz=>by
  by_cases c:s.dec z=none
  ·refine fM ?_
   rw[hst]
   split
   ·exact hy
   ·intro hz0
    rw[Site.bo.2 ⟨c,by rw[hz0];decide⟩]at hz;cases hz
  ·exact fx (by rw[hdec];exact c)
 have RS:r.fresh m.slot=false:=fM (by rw[hst,if_pos rfl];exact hy)
 refine⟨_,_,1,rfl,⟨gz.hold (fun m hm=>by cases hm) _,rfl,fun m' bw=>?_,fun m' bw k=>?_,fun m' bw k=>?_,fun m' bw=>?_,fun m' bw k=>?_,fun m' bw k=>?_,fun P _=>?_,pO,fun z w hz=>by show r.dec z=_;rw[hdec];exact hz,fun z q hz=>⟨q,by have hz:aD z r.rs=some q:=hz;rw[kV]at hz;exact hz,rfl,rfl⟩,fun z q hq _=>.inr (by show aD z r.rs=_;rw[kV];exact hq),fun z hz=>?_,fun z hz=>ij z hz,fun z b _ hb hb2=>?_,fun z=>?_⟩,rfl,RS,hst⟩
 ·have bw:m'∈[o.ad i m.aR]:=bw
  rw[mem_singleton]at bw;subst bw
  exact⟨ga.ad _ _,rfl,by obtain⟨-,c,c1,c2,c3⟩:=hg;exact⟨c,c1,c2,c3⟩⟩
 ·have bw:m'∈[o.ad i m.aR]:=bw
  rw[mem_singleton]at bw;subst bw
  have k:o.kind=1∨o.kind=3∨o.kind=5:=k
  omega
 ·have bw:m'∈[o.ad i m.aR]:=bw
  rw[mem_singleton]at bw;subst bw
  exact⟨za,rfl,by omega⟩
 ·have bw:m'∈[o.ad i m.aR]:=bw
  rw[mem_singleton]at bw;subst bw
  show o.kind≠8
  omega
 ·have bw:m'∈[o.ad i m.aR]:=bw
  rw[mem_singleton]at bw;subst bw
  have k:o.kind=2∨o.kind=7:=k
  omega
 ·have bw:m'∈[o.ad i m.aR]:=bw
  rw[mem_singleton]at bw;subst bw
  have k:o.kind=7:=k
  omega
 ·have h1:=P.Ia m hg.1 (by omega)
  have h2:=P.nv (o.ad i m.aR) (by show o.kind=2∨o.kind=4∨o.kind=6∨o.kind=7;omega)
  have h3:P.pt T r≤P.pt T s:=P.JM (by rw[P.vn kV];exact Nat.le_refl _) (fun k hk=>by
    cases hf:s.fresh (k:Int) with
    |true=>rfl
    |false=>rw[ij _ hf]at hk;cases hk)
  have h4:P.ws ({r with held:=[o.ad i m.aR]} :Site).held=P.w (o.ad i m.aR):=P.D3 _
  rw[h4]
  have h5:P.pt T ({({r with held:=[o.ad i m.aR]} :Site)with dn:=r.db.length,held:=[]} :Site)=P.pt T r:=rfl
  show _+P.pt T ({({r with held:=[o.ad i m.aR]} :Site)with dn:=r.db.length,held:=[]} :Site)+_+_≤_
  rw[h5,Nat.mul_one];omega
 ·by_cases c:m.slot=z
  ·exact .inr (.inr ⟨c,by omega⟩)
  ·left
   obtain⟨f1,f2⟩:=Site.bo.1 hz
   refine Site.bo.2 ⟨by show r.dec z=none;rw[hdec];exact f1,?_⟩
   show(r.stat z).same Sp.zero=true
   rw[hst,if_neg c];exact f2
 ·show ¬ b.lt (r.stat z).p
  rw[hst]
  split
  ·rename_i c
   rw[hyp];exact hb2 c (by omega)
  ·exact hb
 ·show ¬ (r.stat z).p.lt _
  rw[hst]
  split
  ·rename_i c;subst c;exact oV
  ·exact Bl.lt_irrefl _
end Sm
theorem GN{α:Type}(f:Int→α→Nat)(p:Int × α→Bool)(M:AL α):ja f (M.filter p)≤ja f M:=by
 unfold ja
 induction M with
 |nil=>simp
 |cons e M ih=>
  rw[filter_cons]
  split
  ·simp only[map_cons,sum_cons];omega
  ·simp only[map_cons,sum_cons];omega
namespace Sm
variable {n T E i:Nat} {s t u:Site} {m:Ms}
theorem rj(hm:m.bL):0≤m.aC.s∧m.aC.s≤6:=hm.cu
theorem zc(hm:m.bL)(hs:cj T E m):0≤m.aC.r∧m.aC.r≤E:=⟨hm.bU.1,hs.br⟩
theorem kJ(hm:m.bL)(hs:cj T E m)(hk:m.kind≠8∨m.some_=true):0≤m.slot∧m.slot<T:=⟨hm.slot.1,hs.slot hk⟩
theorem room(h:Sm n T E i s)(hroom:s.db.length+1000≤1048576){x:Int}(hx:0≤x∧x<T){k:Int}(hk:k=1∨k=2){b:Bl}(hb:0≤b.r∧b.r≤E)(hs:0≤b.s∧b.s≤6){v:List UInt8}(hv:v.length≤3):s.room ⟨k,x,b.r,b.s,v⟩=true:=by
 have:=h.bytes hx hk hb hs hv
 unfold Site.room
 exact oT
theorem lr(h:Sm n T E i s)(hroom:s.db.length+1000≤1048576){x:Int}(hx:0≤x∧x<T){b:Bl}(hb:1≤b.r∧b.r≤E)(hs:0≤b.s∧b.s≤6)(hc:¬ b.lt (s.stat x).p):∃t,s.promise x b=some t:=by
 have h1:¬ dr b (s.stat x).p<0:=fun e=>hc ((gp _ _).1 e)
 have h2:=h.room hroom hx (.inl rfl) (b:=b) (by omega) hs (v:=[]) (by simp)
 unfold Site.promise Site.note
 rw[if_neg (by omega),if_pos h2]
 exact⟨_,rfl⟩
theorem oM(h:Sm n T E i s)(hroom:s.db.length+1000≤1048576){x:Int}(hx:0≤x∧x<T){b:Bl}(hb:0≤b.r∧b.r≤E)(hs:0≤b.s∧b.s≤6){v:List UInt8}(hv:v.length≤3)(hc:¬ b.lt (s.stat x).p):∃t,s.accept x b v=some t:=by
 have h1:¬ dr b (s.stat x).p<0:=fun e=>hc ((gp _ _).1 e)
 have h2:=h.room hroom hx (.inr rfl) hb hs hv
 unfold Site.accept Site.note
 rw[if_neg h1,if_pos h2]
 exact⟨_,rfl⟩
theorem D5{b p:Bl}{y:Sp}(hb:1≤b.r)(h:b.lt p)(hy:y.p=p):y≠Sp.zero:=fun e=>by
 rw[e]at hy
 rw[←hy]at h
 unfold Bl.lt Sp.zero at h
 dsimp only at h
 omega
theorem ZM(h:Sm n T E i s)(hh:s.held= [])(hroom:s.db.length+1000≤1048576)(hm:m.bL)(hs:cj T E m)(hg:m.eS n i)(hk:m.kind=3) :
  ∃t out k,(s.take m).sync=(t,out)∧Dl n T E i s t m out k∧(1≤m.bU→m.cu=m.aR→t.fresh m.slot=false∧(¬ m.aC.lt (s.stat m.slot).p→(∃m'∈out,m'.kind=7∧m'.some_=true∧m'.slot=m.slot∧m'.to=m.aR)∨∃m'∈out,m'.kind=4∧m'.slot=m.slot∧m'.to=m.aR∧m'.aC=m.aC)):=by
 have hx:=kJ hm hs (.inl (by omega))
 cases hd:s.dec m.slot with
 |some v=>
  obtain⟨t,out,k,h1,h2,h3⟩:=h.JN hh hm hg (.inr (.inl hk)) hd
  refine⟨t,out,k,h1,h2,fun _ _=>⟨fx (by rw[h2.dec _ v hd];simp),fun _=>.inl ⟨(Site.bD m.slot v).ad i m.aR,by rw[h3];simp,rfl,rfl,rfl,rfl⟩⟩⟩
 |none=>
  have e0:s.take m=s.ed m:=by
   unfold Site.take
   rw[if_pos (.inr (.inl hk)),hd]
   dsimp only
   unfold Site.ct
   rw[if_neg (by omega),if_neg (by omega),if_pos hk]
  by_cases hc:1≤m.bU∧m.cu=m.aR
  ·cases hp:s.promise m.slot m.aC with
   |none=>
    have e:s.take m=s:=by rw[e0];unfold Site.ed;rw[if_pos hc,hp]
    obtain⟨t,out,k,h1,h2,-,-,h5⟩:=h.nw hh hg e
    have hlt:m.aC.lt (s.stat m.slot).p:=by
     apply Classical.byContradiction;intro hn
     obtain⟨t,ht⟩:=h.lr hroom hx (b:=m.aC) ⟨hc.1,hs.br⟩ (rj hm) hn
     rw[hp]at ht;cases ht
    refine⟨t,out,k,h1,h2,fun _ _=>⟨?_,fun hn=>absurd hlt hn⟩⟩
    subst h5
    exact fM (s:={s with dn:=s.db.length,held:=[]}) (D5 (b:=m.aC) hc.1 hlt rfl)
   |some r=>
    obtain⟨p1,p2,p3,p4,p5,p6,p7,p8,p9⟩:=h.promise hx hs.br (rj hm) hp
    have oV:¬ m.aC.lt (s.stat m.slot).p:=fun hl=>by
     unfold Site.promise at hp
     rw[if_pos (.inr ((gp _ _).2 hl))]at hp;cases hp
    have e:s.take m=r.send m.aR (r.answer m.slot m.aC):=by rw[e0];unfold Site.ed;rw[if_pos hc,hp]
    have hst:=p1.st m.slot
    have D6:cj T E (r.answer m.slot m.aC):=⟨fun _=>hx.2,hs.br,hst.2.1,hst.2.2.1⟩
    obtain⟨t,out,k,h1,h2,h3,h4,h5⟩:=h.RR hh hg (.inl hk) p1 p2 p3 p4 p5 p1.me p8 (by intro e;have:=congrArg (fun z:Sp=>z.p.r) e;simp[Sp.zero]at this;omega) rfl oV (o:=r.answer m.slot m.aC) D6 (.inl rfl) rfl e
    exact⟨t,out,k,h1,h2,fun _ _=>⟨h4,fun _=>.inr ⟨(r.answer m.slot m.aC).ad i m.aR,by rw[h3];simp,rfl,rfl,rfl,rfl⟩⟩⟩
  ·have e:s.take m=s:=by rw[e0];unfold Site.ed;rw[if_neg hc]
   obtain⟨t,out,k,h1,h2,-⟩:=h.nw hh hg e
   exact⟨t,out,k,h1,h2,fun q1 q2=>absurd ⟨q1,q2⟩ hc⟩
theorem ZN(h:Sm n T E i s)(hh:s.held= [])(hroom:s.db.length+1000≤1048576)(hm:m.bL)(hs:cj T E m)(hg:m.eS n i)(hk:m.kind=5) :
  ∃t out k,(s.take m).sync=(t,out)∧Dl n T E i s t m out k∧(m.some_=true→1≤m.bU→m.cu=m.aR→t.fresh m.slot=false∧(¬ m.aC.lt (s.stat m.slot).p→(∃m'∈out,m'.kind=7∧m'.some_=true∧m'.slot=m.slot∧m'.to=m.aR)∨∃m'∈out,m'.kind=6∧m'.slot=m.slot∧m'.to=m.aR∧m'.aC=m.aC)):=by
 have hx:=kJ hm hs (.inl (by omega))
 cases hd:s.dec m.slot with
 |some v=>
  obtain⟨t,out,k,h1,h2,h3⟩:=h.JN hh hm hg (.inr (.inr hk)) hd
  refine⟨t,out,k,h1,h2,fun _ _ _=>⟨fx (by rw[h2.dec _ v hd];simp),fun _=>.inl ⟨(Site.bD m.slot v).ad i m.aR,by rw[h3];simp,rfl,rfl,rfl,rfl⟩⟩⟩
 |none=>
  have e0:s.take m=s.asked m:=by
   unfold Site.take
   rw[if_pos (.inr (.inr hk)),hd]
   dsimp only
   unfold Site.ct
   rw[if_neg (by omega),if_neg (by omega),if_neg (by omega),if_neg (by omega),if_pos hk]
  by_cases hc:m.some_=true∧1≤m.bU∧m.cu=m.aR
  ·cases hp:s.accept m.slot m.aC m.val with
   |none=>
    have e:s.take m=s:=by rw[e0];unfold Site.asked;rw[if_pos hc,hp]
    obtain⟨t,out,k,h1,h2,-,-,h5⟩:=h.nw hh hg e
    have hlt:m.aC.lt (s.stat m.slot).p:=by
     apply Classical.byContradiction;intro hn
     obtain⟨t,ht⟩:=h.oM hroom hx (b:=m.aC) (zc hm hs) (rj hm) hs.val hn
     rw[hp]at ht;cases ht
    refine⟨t,out,k,h1,h2,fun _ _ _=>⟨?_,fun hn=>absurd hlt hn⟩⟩
    subst h5
    exact fM (s:={s with dn:=s.db.length,held:=[]}) (D5 (b:=m.aC) hc.2.1 hlt rfl)
   |some r=>
    obtain⟨p1,p2,p3,p4,p5,p6,p7,p8⟩:=h.accept hx (zc hm hs) (rj hm) hs.val hp
    have oV:¬ m.aC.lt (s.stat m.slot).p:=fun hl=>by
     unfold Site.accept at hp
     rw[if_pos ((gp _ _).2 hl)]at hp;cases hp
    have e:s.take m=r.send m.aR (Site.bB m.slot m.aC):=by rw[e0];unfold Site.asked;rw[if_pos hc,hp]
    have hv:cj T E (Site.bB m.slot m.aC):=⟨fun _=>hx.2,hs.br,by simp[Site.bB],by simp[Site.bB]⟩
    obtain⟨t,out,k,h1,h2,h3,h4,h5⟩:=h.RR hh hg (.inr hk) p1 p2 p3 p4 p5 p1.me p8 (by intro e;have:=congrArg Sp.so e;simp[Sp.zero]at this) rfl oV (o:=Site.bB m.slot m.aC) hv (.inr rfl) rfl e
    exact⟨t,out,k,h1,h2,fun _ _ _=>⟨h4,fun _=>.inr ⟨(Site.bB m.slot m.aC).ad i m.aR,by rw[h3];simp,rfl,rfl,rfl,rfl⟩⟩⟩
  ·have e:s.take m=s:=by rw[e0];unfold Site.asked;rw[if_neg hc]
   obtain⟨t,out,k,h1,h2,-⟩:=h.nw hh hg e
   exact⟨t,out,k,h1,h2,fun q1 q2 q3=>absurd ⟨q1,q2,q3⟩ hc⟩
theorem D7(h:Sm n T E i s)(P:Pw n i)(b:Bl)(ys:List Nat):P.ws (ys.flatMap fun(y:Nat)=>s.tell (Site.bt y b) n)≤6*P.c1*ys.length:=by
 induction ys with
 |nil=>simp[Pw.ws]
 |cons y ys ih=>
  rw[flatMap_cons,P.ff,length_cons,Nat.mul_succ]
  have h1:=P.wI (l:=s.tell (Site.bt (y:Int) b) n) (c:=P.c1) fun m hm=>P.nv m (by
   obtain⟨c,-,-,rfl⟩:=Site.dH.1 hm;exact .inl rfl)
  have h2:=Site.tB (s:=s) (m:=Site.bt (y:Int) b) (n:=n) (by rw[h.me];exact h.lt) h.n7
  have h3:P.c1*(s.tell (Site.bt (y:Int) b) n).length≤P.c1*6:=Nat.mul_le_mul_left _ h2
  have h4:P.c1*6=6*P.c1:=Nat.mul_comm _ _
  omega
theorem ox(h:Sm n T E i s){ys:List Nat}(hy:∀y∈ys,y<T){m':Ms}(hm:m'∈ys.flatMap fun(y:Nat)=>s.tell (Site.bt y ⟨0,(i:Int)⟩) n):cj T E m'∧m'.aR=(i:Int)∧(∃c:Nat,c<n∧c≠i∧m'.to=c)∧m'.kind=2∧∃y∈ys,(y:Int)=m'.slot:=by
 obtain⟨y,kx,hm⟩:=mem_flatMap.1 hm
 obtain⟨c,c1,c2,rfl⟩:=Site.dH.1 hm
 exact⟨(ye (hy y kx)).ad _ _,by show(s.me:Int)=_;rw[h.me],⟨c,c1,by rw[←h.me];exact c2,rfl⟩,rfl,y,kx,rfl⟩
theorem AE(h:Sm n T E i s)(hg:m.eS n i){r:Site}{A B:List Ms}{k:Nat}(hr:Sm n T E i r)(Vs:r.lv=s.lv)(kV:r.rs=s.rs)(pO:r.db.length≤s.db.length+16*k)(hA:∀m'∈A++B,cj T E m'∧m'.aR=(i:Int)∧(∃c:Nat,c<n∧c≠i∧m'.to=c)∧(m'.kind=6∧m'.slot=m.slot∧m'.to=m.aR∧m.kind=1∨m'.kind=7∧m'.some_=true∧s.dec m'.slot≠none))(hst:∀z,r.stat z=s.stat z∨(m.slot=z∧m.kind=1∧r.stat z≠Sp.zero∧(r.stat z).p=m.aC∧¬ (r.stat z).p.lt (s.stat z).p))(hw:∀P:Pw n i,P.ws (A++B)+P.ρ*k+P.δ≤P.w m){ys:List Nat}{t:Site}(h2:Sm n T E i t)(h3:t.held= [])(h4:t.db.length≤r.db.length+16*ys.length)(h7:ys.Nodup){tg:Nat}(sw:tg≤T)(h8:∀y∈ys,y<tg∧y % n=i∧r.fresh (y:Int)=true)(h9:∀x:Int,t.stat x=if ∃y∈ys,(y:Int)=x then⟨⟨0,(i:Int)⟩,true,⟨0,(i:Int)⟩,[]⟩else r.stat x)(mK:∀x:Int,(∃y∈ys,(y:Int)=x)→t.dec x=some []∧aD x t.rs=none)(ny:∀x:Int,(¬ ∃y∈ys,(y:Int)=x)→t.dec x=r.dec x∧aD x t.rs=aD x r.rs)(Md:t.rs=r.rs.filter (fun e=>!decide (∃y∈ys,(y:Int)=e.1))):Dl n T E i s t m (A++(ys.flatMap fun(y:Nat)=>r.tell (Site.bt y ⟨0,(i:Int)⟩) n)++B) (k+ys.length):=by
 have hdr:∀x,r.dec x=s.dec x:=fun x=>by unfold Site.dec;rw[Vs]
 have xk:∀y∈ys,y<T:=fun y hy=>by have:=(h8 y hy).1;omega
 have hsk:∀x:Int,(⟨⟨0,(i:Int)⟩,true,⟨0,(i:Int)⟩,[]⟩:Sp)≠Sp.zero:=fun x e=>by have:=congrArg Sp.so e;simp[Sp.zero]at this
 have Ic:∀x:Int,r.fresh x=true→s.fresh x=true:=fun x hx=>by
  obtain⟨f1,f2⟩:=Site.bo.1 hx
  rcases hst x with e|⟨-,-,e,-⟩
  ·exact Site.bo.2 ⟨by rw[←hdr];exact f1,by rw[←e];exact f2⟩
  ·exact absurd (Site.js f2) e
 have RU:∀x:Int,t.fresh x=true→r.fresh x=true:=fun x hx=>by
  obtain⟨f1,f2⟩:=Site.bo.1 hx
  by_cases c:∃y∈ys,(y:Int)=x
  ·rw[(mK x c).1]at f1;cases f1
  ·rw[(ny x c).1]at f1
   rw[h9,if_neg c]at f2
   exact Site.bo.2 ⟨f1,f2⟩
 have hout:∀m'∈A++(ys.flatMap fun(y:Nat)=>r.tell (Site.bt y ⟨0,(i:Int)⟩) n)++B,m'∈A++B∨m'∈ys.flatMap fun(y:Nat)=>r.tell (Site.bt y ⟨0,(i:Int)⟩) n:=fun m' bw=>by
  simp only[mem_append]at bw ⊢
  rcases bw with(q|q)|q
  ·exact .inl (.inl q)
  ·exact .inr q
  ·exact .inl (.inr q)
 have hdec:∀(x:Int) w,s.dec x=some w→t.dec x=some w:=fun x w hx=>by
  by_cases c:∃y∈ys,(y:Int)=x
  ·obtain⟨y,hy,rfl⟩:=c
   have:=(Site.bo.1 (h8 y hy).2.2).1
   rw[hdr,hx]at this;cases this
  ·rw[(ny x c).1,hdr];exact hx
 refine⟨h2,h3,fun m' bw=>?_,fun m' bw q=>?_,fun m' bw q=>?_,fun m' bw=>?_,fun m' bw q=>?_,fun m' bw q=>?_,fun P _=>?_,by omega,hdec,fun x q hx=>?_,fun x q hq _=>?_,fun x hx=>?_,fun x hx=>?_,fun x b hb1 hb hb2=>?_,fun x=>?_⟩
 ·rcases hout m' bw with q|q
  ·obtain⟨a1,a2,a3,-⟩:=hA m' q;exact⟨a1,a2,a3⟩
  ·obtain⟨a1,a2,a3,-⟩:=hr.ox xk q;exact⟨a1,a2,a3⟩
 ·rcases hout m' bw with z|z
  ·obtain⟨-,-,-,⟨a,-⟩|⟨a,-⟩⟩:=hA m' z<;>omega
  ·obtain⟨-,-,-,a,-⟩:=hr.ox xk z;omega
 ·rcases hout m' bw with z|z
  ·obtain⟨-,-,-,⟨a,b,c,d⟩|⟨a,-⟩⟩:=hA m' z
   ·exact⟨b,c,.inl d⟩
   ·omega
  ·obtain⟨-,-,-,a,-⟩:=hr.ox xk z;omega
 ·rcases hout m' bw with z|z
  ·obtain⟨-,-,-,⟨a,-⟩|⟨a,-⟩⟩:=hA m' z<;>omega
  ·obtain⟨-,-,-,a,-⟩:=hr.ox xk z;omega
 ·rcases hout m' bw with z|z
  ·obtain⟨-,-,-,⟨a,-⟩|⟨a,-,c⟩⟩:=hA m' z
   ·omega
   ·obtain⟨v,hv⟩:=fG c
    rw[hdec _ v hv];simp
  ·obtain⟨-,-,-,-,a⟩:=hr.ox xk z
   rw[(mK _ a).1];simp
 ·rcases hout m' bw with z|z
  ·obtain⟨-,-,-,⟨a,-⟩|⟨-,a,-⟩⟩:=hA m' z
   ·omega
   ·exact a
  ·obtain⟨-,-,-,a,-⟩:=hr.ox xk z;omega
 ·have q1:=hw P
  have q2:=hr.D7 P ⟨0,(i:Int)⟩ ys
  have q3:P.tok t≤P.tok s:=by
   unfold Pw.tok
   rw[Md,kV];exact GN _ _ _
  have q4:=mf (n:=n) (T:=T) (i:=i) (s:=s) (t:=t) (ys:=ys) (fun k hk=>Ic _ (RU _ hk)) h7 (fun y hy=>by
   obtain⟨a1,a2,a3⟩:=h8 y hy
   exact⟨by omega,a2,Ic _ a3,fx (by rw[(mK _ ⟨y,hy,rfl⟩).1];simp)⟩)
  have q5:=Nat.mul_le_mul_left P.φ q4
  rw[Nat.mul_add]at q5
  have q6:=Nat.mul_le_mul_right ys.length P.fresh
  rw[Nat.add_mul]at q6
  have q7:P.ρ*(k+ys.length)=P.ρ*k+P.ρ*ys.length:=Nat.mul_add _ _ _
  rw[P.ff]at q1
  rw[P.ff,P.ff,q7]
  unfold Pw.pt
  omega
 ·by_cases c:∃y∈ys,(y:Int)=x
  ·rw[(mK x c).2]at hx;cases hx
  ·rw[(ny x c).2,kV]at hx;exact⟨q,hx,rfl,rfl⟩
 ·by_cases c:∃y∈ys,(y:Int)=x
  ·left;rw[(mK x c).1];simp
  ·right;rw[(ny x c).2,kV];exact hq
 ·by_cases c:∃y∈ys,(y:Int)=x
  ·right;left;rw[(mK x c).1];simp
  ·rcases hst x with e|⟨e1,e2,-⟩
   ·left
    obtain⟨f1,f2⟩:=Site.bo.1 hx
    exact Site.bo.2 ⟨by rw[(ny x c).1,hdr];exact f1,by rw[h9,if_neg c,e];exact f2⟩
   ·exact .inr (.inr ⟨e1,.inl e2⟩)
 ·cases hf:t.fresh x with
  |false=>rfl
  |true=>rw[Ic _ (RU _ hf)]at hx;cases hx
 ·rw[h9]
  split
  ·unfold Bl.lt;dsimp only;omega
  ·rcases hst x with e|⟨e1,e2,-,e3,-⟩
   ·rw[e];exact hb
   ·rw[e3];exact hb2 e1 (.inl e2)
 ·rw[h9]
  split
  ·rename_i c
   obtain⟨y,hy,rfl⟩:=c
   have:=Site.js (Site.bo.1 (Ic _ (h8 y hy).2.2)).2
   rw[this]
   unfold Bl.lt Sp.zero;dsimp only;omega
  ·rcases hst x with e|⟨-,-,-,-,e⟩
   ·rw[e];exact Bl.lt_irrefl _
   ·exact e
end Sm
namespace Sm
variable {n T E i:Nat} {s t u:Site} {m:Ms}
theorem ZO(h:Sm n T E i s)(hh:s.held= [])(hroom:s.db.length+2000≤1048576)(hm:m.bL)(hs:cj T E m)(hg:m.eS n i)(hk:m.kind=1) :
  ∃t out k,(s.take m).sync=(t,out)∧Dl n T E i s t m out k:=by
 have hx:=kJ hm hs (.inl (by omega))
 obtain⟨x,Me⟩:∃x:Nat,m.slot=(x:Int):=⟨m.slot.toNat,by omega⟩
 cases hd:s.dec m.slot with
 |some v=>
  obtain⟨t,out,k,h1,h2,h3⟩:=h.JN hh hm hg (.inl hk) hd
  exact⟨t,out,k,h1,h2⟩
 |none=>
  have e0:s.take m=s.dI m:=by
   unfold Site.take
   rw[if_pos (.inl hk),hd]
   dsimp only
   unfold Site.ct
   rw[if_pos hk]
  by_cases hc:m.some_=true∧m.aR=bK m.slot s.n∧m.aC=⟨0,m.aR⟩
  ·cases hp:s.accept m.slot m.aC m.val with
   |none=>
    have e:s.take m=s.skip m.slot:=by rw[e0];unfold Site.dI;rw[if_pos hc,hp]
    obtain⟨ys,t,k1,k2,k3,k4,k5,k6,k7,k8,k9,Ie,If,Vu,gv,gN,Mf⟩:=h.flush (tg:=x) (by omega) (by omega) (fun m hm=>by rw[hh]at hm;cases hm) (B:=[]) (fun m hm=>by cases hm) (fun m hm=>by cases hm)
    have e':({s.skip (x:Int)with held:=(s.skip (x:Int)).held++[]} :Site)=s.take m:=by rw[e,Me,append_nil]
    rw[e']at k1
    refine⟨t,_,0+ys.length,k1,?_⟩
    rw[hh]
    exact AE (k:=0) h hg h rfl rfl (by omega) (fun m' bw=>(by cases bw)) (fun z=>.inl rfl) (fun P=>by rw[append_nil,P.vm];have:=P.low m hg.1;omega) k2 k3 k4 k7 (by omega) k8 k9 Ie If Mf
   |some r=>
    obtain⟨p1,p2,p3,p4,p5,p6,p7,p8⟩:=h.accept hx (zc hm hs) (rj hm) hs.val hp
    have oV:¬ m.aC.lt (s.stat m.slot).p:=fun hl=>by
     unfold Site.accept at hp
     rw[if_pos ((gp _ _).2 hl)]at hp;cases hp
    have hv:cj T E (Site.bB m.slot m.aC):=⟨fun _=>hx.2,hs.br,by simp[Site.bB],by simp[Site.bB]⟩
    have hA:∀m'∈[(Site.bB m.slot m.aC).ad i m.aR],m'=(Site.bB m.slot m.aC).ad i m.aR:=fun m' bw=>by simpa using bw
    have fP:=p1.ln (l:=[(Site.bB m.slot m.aC).ad i m.aR]) fun m' bw=>by rw[hA m' bw];exact hv.ad _ _
    have e:s.take m=({r with held:=[(Site.bB m.slot m.aC).ad i m.aR]} :Site).skip m.slot:=by
     rw[e0]
     unfold Site.dI
     rw[if_pos hc,hp]
     dsimp only
     have es:r.send m.aR (Site.bB m.slot m.aC)=({r with held:=[(Site.bB m.slot m.aC).ad i m.aR]} :Site):=by
      rw[Site.jO]
      exact congrArg (fun l=>({r with held:=l} :Site)) (by rw[p1.me,p3,hh];rfl)
     rw[es]
    obtain⟨ys,t,k1,k2,k3,k4,k5,k6,k7,k8,k9,Ie,If,Vu,gv,gN,Mf⟩:=fP.flush (tg:=x) (by omega) (by show r.db.length+1000≤_;omega) (fun m' bw=>by rw[hA m' bw];exact vo hg) (B:=[]) (fun m hm=>by cases hm) (fun m hm=>by cases hm)
    have e':({({r with held:=[(Site.bB m.slot m.aC).ad i m.aR]} :Site).skip (x:Int)with held:=(({r with held:=[(Site.bB m.slot m.aC).ad i m.aR]} :Site).skip (x:Int)).held++[]} :Site)=s.take m:=by rw[e,Me,append_nil]
    rw[e']at k1
    refine⟨t,_,1+ys.length,k1,?_⟩
    refine AE (k:=1) h hg fP p5 p4 (by show r.db.length≤_;omega) (fun m' bw=>?_) (fun z=>?_) (fun P=>?_) k2 k3 k4 k7 (by omega) k8 k9 Ie If Mf
    ·rw[append_nil]at bw
     rw[hA m' bw]
     exact⟨hv.ad _ _,rfl,by obtain⟨-,c,c1,c2,c3⟩:=hg;exact⟨c,c1,c2,c3⟩,.inl ⟨rfl,rfl,rfl,hk⟩⟩
    ·show r.stat z=_∨_∧_∧r.stat z≠_∧(r.stat z).p=_∧¬ (r.stat z).p.lt _
     rw[p8]
     split
     ·rename_i c
      right
      subst c
      exact⟨rfl,hk,by intro e;have:=congrArg Sp.so e;simp[Sp.zero]at this,rfl,oV⟩
     ·exact .inl rfl
    ·rw[append_nil]
     have q1:=P.Ia m hg.1 (.inl hk)
     have q2:=P.nv ((Site.bB m.slot m.aC).ad i m.aR) (.inr (.inr (.inl rfl)))
     have q3:P.ws ({r with held:=[(Site.bB m.slot m.aC).ad i m.aR]} :Site).held=P.w ((Site.bB m.slot m.aC).ad i m.aR):=P.D3 _
     rw[q3];omega
  ·have e:s.take m=s:=by rw[e0];unfold Site.dI;rw[if_neg hc]
   obtain⟨t,out,k,h1,h2,-⟩:=h.nw hh hg e
   exact⟨t,out,k,h1,h2⟩
theorem ZP(h:Sm n T E i s)(hh:s.held= [])(hroom:s.db.length+2000≤1048576)(hm:m.bL)(hs:cj T E m)(hg:m.eS n i)(hk:m.kind=8) :
  ∃t out k,(s.take m).sync=(t,out)∧Dl n T E i s t m out k∧(s.dec m.slot≠none→∃m'∈out,m'.kind=7∧m'.some_=true∧m'.slot=m.slot∧m'.to=m.aR)∧
   (m.some_=true→bK m.slot n=(i:Int)→t.fresh m.slot=false∧(s.fresh m.slot=true→t.dec m.slot≠none)):=by
 have ca:=h.me;have hn:=h.nn;have il:=h.T6;have h7:=h.n7;have h3:=h.n3
 obtain⟨x,Me⟩:∃x:Nat,m.slot=(x:Int):=⟨m.slot.toNat,by have:=hm.slot;omega⟩
 have e0:s.take m=s.wanted m:=by
  have h1:s.take m=s.ct m:=by unfold Site.take;rw[if_neg];omega
  rw[h1]
  unfold Site.ct
  rw[if_neg (by omega),if_neg (by omega),if_neg (by omega),if_neg (by omega),if_neg (by omega),if_neg (by omega),if_neg (by omega),if_pos hk]
 obtain⟨fk,c,Mg,Mh,Mj⟩:=hg
 have hB:∀(t:Site),t.me=i→t.lv=s.lv→∃B:List Ms,(((((range' m.slot.toNat ((eT t.lv).toNat - m.slot.toNat)).map fun(i:Nat)=>(i:Int)).filter fun x=>(t.dec x).isSome).take 16).foldl (fun u x=>u.send m.aR (Site.bD x ((t.dec x).getD []))) t)= {t with held:=t.held++B}∧B.length≤16∧
   (∀m'∈B,cj T E m'∧m'.aR=(i:Int)∧m'.to=m.aR∧m'.kind=7∧m'.some_=true∧s.dec m'.slot≠none)∧(s.dec m.slot≠none→∃m'∈B,m'.slot=m.slot):=by
  intro t ht hl
  have hd:∀x,t.dec x=s.dec x:=fun x=>by unfold Site.dec;rw[hl]
  have cL:s.dec m.slot≠none→m.slot∈((((range' m.slot.toNat ((eT t.lv).toNat-m.slot.toNat)).map fun(i:Nat)=>(i:Int)).filter fun x=>(t.dec x).isSome).take 16):=fun hn=>by
   have oV:m.slot+1≤eT t.lv:=by
    obtain⟨e,he,e1⟩:=Site.AB (s:=s) hn
    have:=(ov s.lv).1 e he
    rw[hl];omega
   have hk:(eT t.lv).toNat-m.slot.toNat=((eT t.lv).toNat-m.slot.toNat-1)+1:=by omega
   rw[hk,range'_succ,map_cons,filter_cons]
   have e1:((m.slot.toNat:Nat):Int)=m.slot:=by omega
   obtain⟨v,hv⟩:=fG hn
   rw[e1,hd,hv]
   simp
  have hL:∀x∈((((range' m.slot.toNat ((eT t.lv).toNat-m.slot.toNat)).map fun(i:Nat)=>(i:Int)).filter fun x=>(t.dec x).isSome).take 16),s.dec x≠none:=fun x hx=>by
   have h1:=(mem_filter.1 (mem_of_mem_take hx)).2
   rw[hd]at h1
   obtain⟨w,hw⟩:=Option.isSome_iff_exists.1 h1
   rw[hw];simp
  have D8:((((range' m.slot.toNat ((eT t.lv).toNat-m.slot.toNat)).map fun(i:Nat)=>(i:Int)).filter fun x=>(t.dec x).isSome).take 16).length≤16:=by rw[length_take];omega
  obtain⟨L,Vv⟩:=bk (((((range' m.slot.toNat ((eT t.lv).toNat - m.slot.toNat)).map fun(i:Nat)=>(i:Int)).filter fun x=>(t.dec x).isSome).take 16))
  rw[Vv]at cL hL D8 ⊢
  refine⟨_,Site.vh m.aR (fun x=>Site.bD x ((t.dec x).getD [])) L t,by rw[length_map];exact D8,fun m' bw=>?_,fun hn=>⟨_,mem_map.2 ⟨m.slot,cL hn,rfl⟩,rfl⟩⟩
  obtain⟨x,hx,rfl⟩:=mem_map.1 bw
  obtain⟨v,hv⟩:=fG (hL x hx)
  obtain⟨l1,l2,l3⟩:=h.lv x v hv
  rw[hd,hv,ht]
  exact⟨(mD l2 l3).ad _ _,rfl,rfl,rfl,rfl,by show s.dec x≠none;rw[hv];simp⟩
 have hg:m.eS n i:=⟨fk,c,Mg,Mh,Mj⟩
 have iB:∀(P:Pw n i){B:List Ms},B.length≤16→(∀m'∈B,m'.kind=7)→P.ws B+P.δ≤P.w m:=fun P B hl hB=>by
  have q1:=P.JL m hg.1 hk
  have q2:=P.wI (l:=B) (c:=P.c1) fun m' bw=>P.nv m' (.inr (.inr (.inr (hB m' bw))))
  have q3:P.c1*B.length≤P.c1*16:=Nat.mul_le_mul_left _ hl
  omega
 by_cases hc:m.some_=true∧s.dec m.slot=none∧bK m.slot s.n=(s.me:Int)
 ·have sA:=hs.slot (.inr hc.1)
  obtain⟨ys0,t0,q1,q2,q3,q4,q5,q6,-⟩:=h.flush (tg:=x+1) (by omega) (by omega) (fun m hm=>by rw[hh]at hm;cases hm) (B:=[]) (fun m hm=>by cases hm) (fun m hm=>by cases hm)
  have ek:(m.slot+1)=((x+1:Nat):Int):=by omega
  obtain⟨B,b1,b2,b3,b4⟩:=hB (s.skip ((x+1:Nat):Int)) q6 q5
  clear q1 q2 q3 q4 q5 q6 ys0 t0
  obtain⟨ys,t,k1,k2,k3,k4,k5,k6,k7,k8,k9,Ie,If,Vu,gv,gN,Mf⟩:=h.flush (tg:=x+1) (by omega) (by omega) (fun m hm=>by rw[hh]at hm;cases hm) (B:=B) (fun m' bw=>by rw[(b3 m' bw).2.2.1];exact vo hg) (fun m' bw=>(b3 m' bw).1)
  have e:s.take m=({s.skip ((x+1:Nat):Int)with held:=(s.skip ((x+1:Nat):Int)).held++B} :Site):=by
   rw[e0]
   unfold Site.wanted
   dsimp only
   rw[if_pos hc,ek,b1]
  rw[←e,hh]at k1
  have eP:t.fresh m.slot=false:=by
   rw[Me]
   refine Vu x ?_ (by omega)
   have:=hc.2.2
   rw[Me,hn,gW (by omega) (by omega) h7,ca]at this
   omega
  refine⟨t,_,_,k1,AE (k:=0) h hg h rfl rfl (by omega) (A:=[]) (fun m' bw=>?_) (fun z=>.inl rfl) (fun P=>?_) k2 k3 k4 k7 (by omega) k8 k9 Ie If Mf,fun hn=>absurd hc.2.1 hn,fun _ _=>⟨eP,fun hf=>?_⟩⟩
  ·rw[nil_append]at bw
   obtain⟨a1,a2,a3,a4,a5,a6⟩:=b3 m' bw
   exact⟨a1,a2,⟨c,Mg,Mh,a3.trans Mj⟩,.inr ⟨a4,a5,a6⟩⟩
  ·rw[nil_append]
   have:=iB P b2 fun m' bw=>(b3 m' bw).2.2.2.1
   omega
  ·by_cases c2:∃y∈ys,(y:Int)=m.slot
   ·rw[(Ie _ c2).1];simp
   ·exfalso
    obtain⟨f1,f2⟩:=Site.bo.1 hf
    rw[Site.bo.2 ⟨by rw[(If _ c2).1];exact f1,by rw[k9,if_neg c2];exact f2⟩]at eP
    cases eP
 ·obtain⟨B,b1,b2,b3,b4⟩:=hB s ca rfl
  have e:s.take m=({s with held:=B} :Site):=by
   rw[e0]
   unfold Site.wanted
   dsimp only
   rw[if_neg hc,b1,hh,nil_append]
  have hS:=h.ln (l:=B) fun m' bw=>(b3 m' bw).1
  rw[e,nr hS (fun m' bw=>by rw[(b3 m' bw).2.2.1];exact vo hg)]
  refine⟨_,_,0,rfl,⟨hS.hold (fun m hm=>by cases hm) _,rfl,fun m' bw=>?_,fun m' bw k=>?_,fun m' bw k=>?_,fun m' bw=>?_,fun m' bw k=>?_,fun m' bw k=>?_,fun P _=>?_,by simp,fun _ _ h=>h,fun _ r h=>⟨r,h,rfl,rfl⟩,fun _ _ h _=>.inr h,fun _ h=>.inl h,fun _ h=>h,fun _ _ _ h _=>h,fun _=>Bl.lt_irrefl _⟩,fun hn=>?_,fun gC ho=>?_⟩
  ·obtain⟨a1,a2,a3,a4,a5,a6⟩:=b3 m' bw
   exact⟨a1,a2,⟨c,Mg,Mh,a3.trans Mj⟩⟩
  ·have:=(b3 m' bw).2.2.2.1;omega
  ·have:=(b3 m' bw).2.2.2.1;omega
  ·have:=(b3 m' bw).2.2.2.1;omega
  ·exact(b3 m' bw).2.2.2.2.2
  ·exact(b3 m' bw).2.2.2.2.1
  ·have q1:=iB P b2 fun m' bw=>(b3 m' bw).2.2.2.1
   have h2:P.pt T ({({s with held:=B} :Site)with dn:=s.db.length,held:=[]} :Site)=P.pt T s:=rfl
   show P.ws B+P.pt T ({({s with held:=B} :Site)with dn:=s.db.length,held:=[]} :Site)+_+_≤_
   rw[h2];omega
  ·obtain⟨m',a1,a2⟩:=b4 hn
   obtain⟨-,-,a3,a4,a5,-⟩:=b3 m' a1
   exact⟨m',a1,a4,a5,a2,a3⟩
  ·have lT:s.dec m.slot≠none:=fun hd=>hc ⟨gC,hd,by rw[hn,ca];exact ho⟩
   exact⟨fx (s:={s with dn:=s.db.length,held:=[]}) lT,fun hf=>absurd (Site.bo.1 hf).1 lT⟩
end Sm
theorem Ig{α:Type}{x:Int}{r:α} :∀M:AL α,bY x (gK (x,r) M)=bY x M
 |[]=>by unfold gK bY;simp
 |y::M=>by
  unfold gK
  split
  ·unfold bY
   rw[filter_cons,if_neg (by simp)]
  ·have ih:=Ig (r:=r) (x:=x) M
   unfold bY at ih ⊢
   rw[filter_cons,filter_cons,ih]
theorem oy{α:Type}(x:Int)(r:α)(M:AL α):bY x (aT x r M)=bY x M:=by
 unfold aT;rw[Ig]
 unfold bY;rw[filter_filter];simp
theorem BC{l:List Pm}{n:Int}{v:List UInt8}(hl:∀p∈l,p.b.length≤3)(h:dM l n=some v):v.length≤3:=by
 unfold dM at h
 split at h
 ·injection h with h
  subst h
  have key:∀(l:List Pm)(b0:Option Pm),(∀p∈l,p.b.length≤3)→(∀p,b0=some p→p.b.length≤3)→∀p,l.foldl (fun b p=>if p.so&&dd p.f n&&(match b with|none=>true|some q=>decide (0<dr p.at_ q.at_))then some p else b) b0=some p→p.b.length≤3:=by
   intro l
   induction l with
   |nil=>exact fun b0 _ h p hp=>h p hp
   |cons q l ih=>
    intro b0 hl h0 p hp
    rw[foldl_cons]at hp
    refine ih _ (fun x hx=>hl x (by simp[hx])) (fun x hx=>?_) p hp
    cases b0 with
    |none=>
     dsimp only at hx
     split at hx
     ·injection hx with hx;subst hx;exact hl _ (by simp)
     ·cases hx
    |some q0=>
     dsimp only at hx
     split at hx
     ·injection hx with hx;subst hx;exact hl _ (by simp)
     ·exact h0 x hx
  unfold gE
  cases hb:l.foldl (fun b p=>if p.so&&dd p.f n&&(match b with|none=>true|some q=>decide (0<dr p.at_ q.at_))then some p else b) none with
  |none=>simp
  |some p=>simpa using key l none hl (fun p h=>by cases h) p hb
 ·cases h
theorem xl{l:List Pm}{n:Int}(h:dM l n=none):fN (l.map Pm.f) n=false:=by
 unfold dM at h
 split at h
 ·cases h
 ·rename_i hc;simpa using hc
namespace Sm
variable {n T E i:Nat} {s t u:Site} {m:Ms}
theorem D9(h:Sm n T E i s)(hg:m.eS n i){r r':Rn}(hr:aD m.slot s.rs=some r)(fP:iJ n T E s m.slot r')(gC:r'.so=r.so)(pP:r'.cV=r.cV∧r'.aC=r.aC)(hk:m.kind=4∨m.kind=6){d:Nat} :Dl n T E i s {s with rs:=aT m.slot r' s.rs,dn:=d,held:=[]} m [] 0:=by
 have h1:=(h.fH fP).hold (l:=[]) (fun m hm=>by cases hm) d
 refine⟨h1,rfl,fun m' hm=>(by cases hm),fun m' hm=>(by cases hm),fun m' hm=>(by cases hm),fun m' hm=>(by cases hm),fun m' hm=>(by cases hm),fun m' hm=>(by cases hm),fun P _=>?_,by simp,fun _ _ h=>h,fun x q hx=>?_,fun x q hq hne=>.inr ?_,fun _ h=>.inl h,fun _ h=>h,fun _ _ _ h _=>h,fun _=>Bl.lt_irrefl _⟩
 ·have q1:=P.low m hg.1
  have q2:P.tok {s with rs:=aT m.slot r' s.rs,dn:=d,held:=[]} =P.tok s:=by
   unfold Pw.tok
   dsimp only
   rw[lx,ly _ h.kz hr,gC]
  have q3:jh n T i {s with rs:=aT m.slot r' s.rs,dn:=d,held:=[]} =jh n T i s:=rfl
  unfold Pw.pt
  rw[q2,q3,P.vm];omega
 ·have hx:aD x (aT m.slot r' s.rs)=some q:=hx
  rw[cO]at hx
  split at hx
  ·rename_i e
   injection hx with hx
   subst hx e
   exact⟨r,hr,pP.1,pP.2⟩
  ·exact⟨q,hx,rfl,rfl⟩
 ·show aD x (aT m.slot r' s.rs)=some q
  rw[cO,if_neg]
  ·exact hq
  ·rcases hne with e|e
   ·exact fun e'=>e e'.symm
   ·omega
theorem ZQ(h:Sm n T E i s)(hh:s.held= [])(hroom:s.db.length+2000≤1048576)(hm:m.bL)(hs:cj T E m)(hg:m.eS n i)(hk:m.kind=4) :
  ∃t out k,(s.take m).sync=(t,out)∧Dl n T E i s t m out k∧(∀r,aD m.slot s.rs=some r→r.so=false→r.aC=m.aC→¬ r.aC.lt (s.stat m.slot).p→
   ∃r',aD m.slot t.rs=some r'∧r'.aC=r.aC∧(r'.so=false∧(∀f∈r.pr.map Pm.f,f∈r'.pr.map Pm.f)∧m.aR∈r'.pr.map Pm.f∨
    r'.so=true∧((i:Int),r.aC)∈r'.vt∧∀c:Nat,c<n→c≠i→∃m'∈out,m'.kind=5∧m'.slot=m.slot∧m'.to=c∧m'.aC=r.aC∧m'.some_=true))∧
   (∀r,aD m.slot s.rs=some r→(r.so=true∨r.aC≠m.aC)→aD m.slot t.rs=some r):=by
 have ca:=h.me;have hn:=h.nn;have h3:=h.n3
 have hx:=kJ hm hs (.inl (by omega))
 have e0:s.take m=s.bT m:=by
  have h1:s.take m=s.ct m:=by unfold Site.take;rw[if_neg];omega
  rw[h1]
  unfold Site.ct
  rw[if_neg (by omega),if_neg (by omega),if_neg (by omega),if_pos hk]
 cases hr:aD m.slot s.rs with
 |none=>
  have e:s.take m=s:=by rw[e0];unfold Site.bT;rw[hr]
  obtain⟨t,out,k,h1,h2,-⟩:=h.nw hh hg e
  exact⟨t,out,k,h1,h2,fun r q=>(by cases q),fun r q=>(by cases q)⟩
 |some r=>
  have bZ:=h.rs _ r hr
  by_cases hc:r.aC=m.aC∧r.so=false
  ·obtain⟨jX,kW,uC⟩:=bZ.no hc.2
   obtain⟨pr,o0⟩:∃pr,pr=r.pr++[(⟨m.aR,m.some_,m.had,m.val⟩:Pm)]:=⟨_,rfl⟩
   have yg:∀q∈pr,q.b.length≤3:=fun q hq=>by
    rw[o0]at hq
    rcases mem_append.1 hq with hq|hq
    ·exact bZ.pr q hq
    ·rw[mem_singleton]at hq;subst hq;exact hs.val
   cases hch:dM pr s.n with
   |none=>
    have e:s.take m= {s with rs:=aT m.slot {r with pr:=pr} s.rs}:=by
     rw[e0];unfold Site.bT;rw[hr]
     dsimp only
     rw[if_pos hc,←o0,hch]
    have fP:iJ n T E s m.slot {r with pr:=pr}:=⟨bZ.x0,bZ.dec,bZ.nz,bZ.bs,bZ.br,bZ.low,bZ.b,yg,fun _=>⟨jX,kW,by rw[←hn];exact xl hch⟩,fun q=>by have q:r.so=true:=q;rw[hc.2]at q;cases q⟩
    have hS:=h.fH fP
    rw[e,nr hS (by show ∀m'∈s.held,_;rw[hh];intro m hm;cases hm)]
    refine⟨_,_,0,rfl,?_,fun q hq _ _ _=>?_,fun q hq hne=>?_⟩
    ·show Dl n T E i s {s with rs:=aT m.slot {r with pr:=pr} s.rs,dn:=s.db.length,held:=[]} m s.held 0
     rw[hh];exact h.D9 hg hr fP rfl ⟨rfl,rfl⟩ (.inl hk)
    ·injection hq with hq;subst hq
     refine⟨{r with pr:=pr},?_,rfl,.inl ⟨hc.2,fun f hf=>?_,?_⟩⟩
     ·show aD m.slot (aT _ _ _)=_;rw[cO,if_pos rfl]
     ·show f∈pr.map Pm.f
      rw[o0,map_append];exact mem_append_left _ hf
     ·show m.aR∈pr.map Pm.f
      rw[o0,map_append];simp
    ·injection hq with hq;subst hq
     rcases hne with q|q
     ·rw[hc.2]at q;cases q
     ·exact absurd hc.1 q
   |some v=>
    have gi:=BC yg hch
    have hb0:0≤r.aC.r∧r.aC.r≤E:=bZ.br
    have oo:0≤r.aC.s∧r.aC.s≤6:=by have:=bZ.bs;have:=h.lt;have:=h.n7;omega
    have Ea:({s with rs:=aT m.slot {r with pr:=pr} s.rs} :Site).accept m.slot r.aC v=(s.accept m.slot r.aC v).map fun t=>{t with rs:=aT m.slot {r with pr:=pr} s.rs}:=PA.rk s _ _ _ _
    cases ha:s.accept m.slot r.aC v with
    |none=>
     have e:s.take m= {s with rs:=bY m.slot s.rs}:=by
      rw[e0];unfold Site.bT;rw[hr]
      dsimp only
      rw[if_pos hc,←o0,hch]
      dsimp only
      rw[Ea,ha]
      dsimp only[Option.map_none]
      rw[oy]
     have hS:=h.nu m.slot
     rw[e,nr hS (by show ∀m'∈s.held,_;rw[hh];intro m hm;cases hm)]
     have hlt:r.aC.lt (s.stat m.slot).p:=by
      apply Classical.byContradiction;intro ng
      obtain⟨t,ht⟩:=h.oM (by omega) hx hb0 oo gi ng
      rw[ha]at ht;cases ht
     refine⟨_,_,0,rfl,?_,fun q hq _ _ ng=>?_,fun q hq hne=>?_⟩
     ·show Dl n T E i s {s with rs:=bY m.slot s.rs,dn:=s.db.length,held:=[]} m s.held 0
      rw[hh]
      refine⟨hS.hold (l:=[]) (fun m hm=>by cases hm) _,rfl,fun m' hm=>(by cases hm),fun m' hm=>(by cases hm),fun m' hm=>(by cases hm),fun m' hm=>(by cases hm),fun m' hm=>(by cases hm),fun m' hm=>(by cases hm),fun P _=>?_,by simp,fun _ _ h=>h,fun x q hx=>?_,fun x q hq hne=>.inr ?_,fun _ h=>.inl h,fun _ h=>h,fun _ _ _ h _=>h,fun _=>Bl.lt_irrefl _⟩
      ·have q1:=P.low m hg.1
       have q2:P.tok {s with rs:=bY m.slot s.rs,dn:=s.db.length,held:=[]}≤P.tok s:=kI _ _ _
       have q3:jh n T i {s with rs:=bY m.slot s.rs,dn:=s.db.length,held:=[]} =jh n T i s:=rfl
       unfold Pw.pt
       rw[q3,P.vm];omega
      ·have hx:aD x (bY m.slot s.rs)=some q:=hx
       rw[gm]at hx
       split at hx
       ·cases hx
       ·exact⟨q,hx,rfl,rfl⟩
      ·show aD x (bY m.slot s.rs)=some q
       rw[gm,if_neg]
       ·exact hq
       ·rcases hne with e|e
        ·exact e
        ·omega
     ·injection hq with hq;subst hq;exact absurd hlt ng
     ·injection hq with hq;subst hq
      rcases hne with q|q
      ·rw[hc.2]at q;cases q
      ·exact absurd hc.1 q
    |some a=>
     obtain⟨p1,p2,p3,p4,p5,p6,p7,p8⟩:=h.accept hx hb0 oo gi ha
     have oV:¬ r.aC.lt (s.stat m.slot).p:=fun hl=>by
      unfold Site.accept at ha
      rw[if_pos ((gp _ _).2 hl)]at ha;cases ha
     obtain⟨r1,hr1⟩:∃r1:Rn,r1= {r with pr:=pr,so:=true,b:=v}:=⟨_,rfl⟩
     obtain⟨r2,hr2⟩:∃r2:Rn,r2= {r1 with vt:=[((i:Int),r.aC)]}:=⟨_,rfl⟩
     obtain⟨q,hq⟩:∃q:Site,q= {a with rs:=aT m.slot r1 s.rs}:=⟨_,rfl⟩
     have Eb:a.stat m.slot=⟨r.aC,true,r.aC,v⟩:=by rw[p8,if_pos rfl]
     have JO:a.stat m.slot≠Sp.zero:=by rw[Eb];intro e;have:=congrArg Sp.so e;simp[Sp.zero]at this
     have ze:∀z,a.dec z=s.dec z:=fun z=>by unfold Site.dec;rw[p5]
     have Vw:∀vt,Site.most vt r.aC n=false→iJ n T E a m.slot {r1 with vt:=vt}:=fun vt hv=>by
      subst hr1
      exact⟨bZ.x0,by rw[ze];exact bZ.dec,JO,by rw[p1.me,←ca];exact bZ.bs,bZ.br,by rw[Eb];exact Bl.lt_irrefl _,gi,yg,fun q=>(by cases q),fun _=>⟨fun e=>by have e:r.aC.r=0:=e;omega,hv⟩⟩
     have Vx:Site.most r.vt r.aC n=false:=by rw[kW];exact Site.tC (me:=(i:Int)) h3 (fun z hz=>by cases hz)
     have jW:Site.most [((i:Int),r.aC)] r.aC n=false:=Site.tC (me:=(i:Int)) h3 (fun z hz=>by simpa using hz)
     have Vy:iJ n T E a m.slot r1:=by
      have:=Vw r.vt Vx
      subst hr1;exact this
     have nA:iJ n T E a m.slot r2:=by rw[hr2];exact Vw _ jW
     have xm:Sm n T E i q:=by
      have:=p1.fH Vy
      rw[p4]at this
      rw[hq];exact this
     have o7:q.held= []∧q.me=i∧q.n=n:=by subst hq;exact⟨by show a.held= [];rw[p3,hh],p1.me,p1.nn⟩
     have nB:Site.asks r1 m.slot=⟨5,0,0,m.slot,r.aC.r,r.aC.s,r.aC.r,r.aC.s,true,v⟩:=by
      subst hr1
      unfold Site.asks
      dsimp only
      rw[if_pos rfl,if_neg (by omega)]
     have Pt:cj T E (Site.asks r1 m.slot):=by
      rw[nB];exact⟨fun _=>hx.2,bZ.br.2,bZ.br.2,gi⟩
     have Vz:cj T E (Site.bB m.slot r.aC):=⟨fun _=>hx.2,bZ.br.2,by simp[Site.bB],by simp[Site.bB]⟩
     have e:s.take m= {q with held:=q.tell (Site.asks r1 m.slot) n++[(Site.bB m.slot r.aC).ad i i]}:=by
      rw[e0];unfold Site.bT;rw[hr]
      dsimp only
      rw[if_pos hc,←o0,hch]
      dsimp only
      rw[Ea,ha]
      dsimp only[Option.map_some]
      have e1:({({a with rs:=aT m.slot {r with pr:=pr} s.rs} :Site)with rs:=aT m.slot {r with pr:=pr,so:=true,b:=v} ({a with rs:=aT m.slot {r with pr:=pr} s.rs} :Site).rs} :Site)=q:=by
       rw[hq,hr1]
       show({a with rs:=aT m.slot _ (aT m.slot _ s.rs)} :Site)=_
       congr 1
       unfold aT
       rw[show bY m.slot (gK (m.slot,({r with pr:=pr} :Rn)) (bY m.slot s.rs))=bY m.slot s.rs from oy m.slot _ s.rs]
      rw[e1,←hr1,Site.bH,Site.jO,hn,o7.1,ca]
      show({q with held:=[]++q.tell (Site.asks r1 m.slot) n++[(Site.bB m.slot r.aC).ad q.me i]} :Site)=_
      rw[o7.2.1,nil_append]
     have JP:(s.take m).sync=({q with rs:=aT m.slot r2 q.rs,dn:=q.db.length,held:=[]},q.tell (Site.asks r1 m.slot) n):=by
      rw[e]
      unfold Site.sync
      rw[if_neg (by show ¬ q.down=true;rw[xm.up];simp)]
      dsimp only
      have f1:(q.tell (Site.asks r1 m.slot) n++[(Site.bB m.slot r.aC).ad i i]).filter (fun m=>decide (m.to=(q.me:Int)))= [(Site.bB m.slot r.aC).ad i i]:=by
       rw[filter_append,filter_eq_nil_iff.2,nil_append]
       ·rw[o7.2.1];simp[Ms.ad]
       ·intro z hz
        obtain⟨c,c1,c2,rfl⟩:=Site.dH.1 hz
        rw[decide_eq_true_eq]
        show ¬ (c:Int)=_
        omega
      have f2:(q.tell (Site.asks r1 m.slot) n++[(Site.bB m.slot r.aC).ad i i]).filter (fun m=>decide (m.to≠(q.me:Int)))=q.tell (Site.asks r1 m.slot) n:=by
       rw[filter_append,filter_eq_self.2,filter_eq_nil_iff.2,append_nil]
       ·intro z hz
        rw[mem_singleton]at hz;subst hz
        rw[o7.2.1];simp[Ms.ad]
       ·intro z hz
        obtain⟨c,c1,c2,rfl⟩:=Site.dH.1 hz
        rw[decide_eq_true_eq]
        show(c:Int)≠_
        omega
      rw[f1,f2,foldl_cons,foldl_nil]
      congr 1
      have g1:({q with dn:=q.db.length,held:=[]} :Site).take ((Site.bB m.slot r.aC).ad i i)=({q with dn:=q.db.length,held:=[]} :Site).accepted ((Site.bB m.slot r.aC).ad i i):=by
       unfold Site.take Site.ct;simp[Ms.ad,Site.bB]
      rw[g1]
      unfold Site.accepted
      have g2:aD m.slot ({q with dn:=q.db.length,held:=[]} :Site).rs=some r1:=by
       show aD m.slot q.rs=_
       rw[hq]
       show aD m.slot (aT _ _ _)=_
       rw[cO,if_pos rfl]
      have g3:((Site.bB m.slot r.aC).ad i i).slot=m.slot:=rfl
      rw[g3,g2]
      have g4:r1.aC=⟨((Site.bB m.slot r.aC).ad i i).bU,((Site.bB m.slot r.aC).ad i i).cu⟩∧r1.so=true:=by subst hr1;exact⟨rfl,rfl⟩
      dsimp only
      rw[if_pos g4]
      have g5:r1.vt++[(((Site.bB m.slot r.aC).ad i i).aR,(⟨((Site.bB m.slot r.aC).ad i i).bU,((Site.bB m.slot r.aC).ad i i).cu⟩:Bl))]= [((i:Int),r.aC)]:=by
       subst hr1
       show r.vt++[((i:Int),(⟨r.aC.r,r.aC.s⟩:Bl))]=_
       rw[kW];rfl
      have g6:r1.aC=r.aC:=by subst hr1;rfl
      rw[g5,g6,o7.2.2,jW,if_neg (by simp),hr2,←g6]
     rw[JP]
     have Dh:∀z,q.dec z=s.dec z:=fun z=>by rw[←ze];subst hq;rfl
     have AF:∀z,q.stat z=a.stat z:=fun z=>by subst hq;rfl
     have adl:q.rs=aT m.slot r1 s.rs:=by subst hq;rfl
     have adm:q.db=a.db:=by subst hq;rfl
     have gz:Sm n T E i {q with rs:=aT m.slot r2 q.rs,dn:=q.db.length,held:=[]}:=by
      have h1:iJ n T E q m.slot r2:=nA.mono (by rw[o7.2.1,p1.me]) (by rw[Dh];exact bZ.dec) (by rw[AF];exact JO) (by rw[AF];exact Bl.lt_irrefl _)
      exact(xm.fH h1).hold (l:=[]) (fun m hm=>by cases hm) _
     have hput:aT m.slot r2 q.rs=aT m.slot r2 s.rs:=by
      rw[adl]
      unfold aT
      rw[show bY m.slot (gK (m.slot,r1) (bY m.slot s.rs))=bY m.slot s.rs from oy m.slot _ s.rs]
     have hout:∀m'∈q.tell (Site.asks r1 m.slot) n,∃c:Nat,c<n∧c≠i∧m'=(Site.asks r1 m.slot).ad i c:=fun m' bw=>by
      obtain⟨c,c1,c2,rfl⟩:=Site.dH.1 bw
      rw[o7.2.1]at c2
      exact⟨c,c1,c2,by rw[o7.2.1]⟩
     have ij:∀z,s.fresh z=false→q.fresh z=false:=fun z hz=>by
      by_cases c:s.dec z=none
      ·refine fM ?_
       rw[AF,p8]
       split
       ·intro e;have:=congrArg Sp.so e;simp[Sp.zero]at this
       ·intro hz0
        rw[Site.bo.2 ⟨c,by rw[hz0];decide⟩]at hz;cases hz
      ·exact fx (by rw[Dh];exact c)
     refine⟨_,_,1,rfl,⟨gz,rfl,fun m' bw=>?_,fun m' bw _=>?_,fun m' bw z=>?_,fun m' bw=>?_,fun m' bw z=>?_,fun m' bw z=>?_,fun P hA=>?_,?_,fun z w hz=>?_,fun z w hz=>?_,fun z w hz hne=>.inr ?_,fun z hz=>?_,fun z hz=>ij z hz,fun z b _ hb _=>?_,fun z=>?_⟩,fun w hw _ _ _=>?_,fun w hw hne=>?_⟩
     ·obtain⟨c,c1,c2,rfl⟩:=hout m' bw
      exact⟨Pt.ad _ _,rfl,c,c1,c2,rfl⟩
     ·obtain⟨c,c1,c2,rfl⟩:=hout m' bw
      rw[nB]
      exact⟨rfl,hk,rfl,r,hr,rfl,hc.2⟩
     ·obtain⟨c,c1,c2,rfl⟩:=hout m' bw
      rw[nB]at z;simp[Ms.ad]at z
     ·obtain⟨c,c1,c2,rfl⟩:=hout m' bw
      rw[nB];simp[Ms.ad]
     ·obtain⟨c,c1,c2,rfl⟩:=hout m' bw
      rw[nB]at z;simp[Ms.ad]at z
     ·obtain⟨c,c1,c2,rfl⟩:=hout m' bw
      rw[nB]at z;simp[Ms.ad]at z
     ·have q1:=P.low m hg.1
      have q2:P.ws (q.tell (Site.asks r1 m.slot) n)≤P.c5:=P.DZ q _ o7.2.1 h.lt h.n7 (by rw[nB])
      have q3:=P.D0
      have q4:P.tok {q with rs:=aT m.slot r2 q.rs,dn:=q.db.length,held:=[]}+P.tF=P.tok s+P.tT:=by
       unfold Pw.tok
       dsimp only
       rw[hput,lx,ly _ h.kz hr,hA (.inl hk),hc.2]
       have:r2.so=true:=by subst hr2;subst hr1;rfl
       rw[this]
       simp only[if_true,Bool.false_eq_true,if_false]
       omega
      have q5:=mf (n:=n) (T:=T) (i:=i) (s:=s) (t:={q with rs:=aT m.slot r2 q.rs,dn:=q.db.length,held:=[]}) (ys:=[]) (fun k hk=>by
       cases hf:s.fresh (k:Int) with
       |true=>rfl
       |false=>
        have hk:q.fresh (k:Int)=true:=hk
        rw[ij _ hf]at hk;cases hk) nodup_nil (fun y hy=>by cases hy)
      rw[length_nil,Nat.add_zero]at q5
      have q6:=Nat.mul_le_mul_left P.φ q5
      unfold Pw.pt
      rw[Nat.mul_one]
      omega
     ·show q.db.length≤_
      rw[adm];omega
     ·show q.dec z=_
      rw[Dh];exact hz
     ·have hz:aD z (aT m.slot r2 q.rs)=some w:=hz
      rw[hput,cO]at hz
      split at hz
      ·rename_i e
       injection hz with hz
       subst hz e
       exact⟨r,hr,by subst hr2;subst hr1;rfl,by subst hr2;subst hr1;rfl⟩
      ·exact⟨w,hz,rfl,rfl⟩
     ·show aD z (aT m.slot r2 q.rs)=some w
      rw[hput,cO,if_neg]
      ·exact hz
      ·rcases hne with e|e
       ·exact fun e'=>e e'.symm
       ·omega
     ·by_cases c:m.slot=z
      ·subst c
       rw[fM bZ.nz]at hz;cases hz
      ·left
       obtain⟨f1,f2⟩:=Site.bo.1 hz
       refine Site.bo.2 ⟨by show q.dec z=none;rw[Dh];exact f1,?_⟩
       show(q.stat z).same Sp.zero=true
       rw[AF,p8,if_neg c];exact f2
     ·show ¬ b.lt (q.stat z).p
      rw[AF,p8]
      split
      ·rename_i c;subst c;exact Bl.le_trans bZ.low hb
      ·exact hb
     ·show ¬ (q.stat z).p.lt _
      rw[AF,p8]
      split
      ·rename_i c;subst c;exact oV
      ·exact Bl.lt_irrefl _
     ·injection hw with hw;subst hw
      refine⟨r2,?_,by subst hr2;subst hr1;rfl,.inr ⟨by subst hr2;subst hr1;rfl,by subst hr2;simp,fun c c1 c2=>?_⟩⟩
      ·show aD m.slot (aT m.slot r2 q.rs)=_
       rw[cO,if_pos rfl]
      ·refine⟨(Site.asks r1 m.slot).ad i c,Site.dH.2 ⟨c,c1,by rw[o7.2.1];exact c2,by rw[o7.2.1]⟩,?_⟩
       rw[nB]
       exact⟨rfl,rfl,rfl,rfl,rfl⟩
     ·injection hw with hw;subst hw
      rcases hne with q|q
      ·rw[hc.2]at q;cases q
      ·exact absurd hc.1 q
  ·have e:s.take m=s:=by
    rw[e0];unfold Site.bT;rw[hr]
    dsimp only
    rw[if_neg hc]
   obtain⟨t,out,k,h1,h2,-,-,h5⟩:=h.nw hh hg e
   refine⟨t,out,k,h1,h2,fun q hq q2 q3=>?_,fun q hq _=>?_⟩
   ·injection hq with hq;subst hq
    exact absurd ⟨q3,q2⟩ hc
   ·injection hq with hq;subst hq h5;exact hr
end Sm
namespace Sm
variable {n T E i:Nat} {s t u:Site} {m:Ms}
theorem ZR(h:Sm n T E i s)(hh:s.held= [])(hm:m.bL)(hs:cj T E m)(hg:m.eS n i)(hk:m.kind=6) :
  ∃t out k,(s.take m).sync=(t,out)∧Dl n T E i s t m out k∧(∀r,aD m.slot s.rs=some r→r.so=true→r.aC=m.aC→t.dec m.slot≠none∨
   ∃r',aD m.slot t.rs=some r'∧r'.aC=r.aC∧r'.so=true∧(∀z∈r.vt,z∈r'.vt)∧(m.aR,r.aC)∈r'.vt)∧
   (∀r,aD m.slot s.rs=some r→(r.so=false∨r.aC≠m.aC)→aD m.slot t.rs=some r):=by
 have ca:=h.me;have hn:=h.nn;have h3:=h.n3;have h7:=h.n7;have il:=h.T6
 have hx:=kJ hm hs (.inl (by omega))
 have e0:s.take m=s.accepted m:=by
  have h1:s.take m=s.ct m:=by unfold Site.take;rw[if_neg];omega
  rw[h1]
  unfold Site.ct
  rw[if_neg (by omega),if_neg (by omega),if_neg (by omega),if_neg (by omega),if_neg (by omega),if_pos hk]
 cases hr:aD m.slot s.rs with
 |none=>
  have e:s.take m=s:=by rw[e0];unfold Site.accepted;rw[hr]
  obtain⟨t,out,k,h1,h2,-⟩:=h.nw hh hg e
  exact⟨t,out,k,h1,h2,fun r q=>(by cases q),fun r q=>(by cases q)⟩
 |some r=>
  have bZ:=h.rs _ r hr
  have ik:(⟨m.bU,m.cu⟩:Bl)=m.aC:=rfl
  by_cases hc:r.aC=m.aC∧r.so=true
  ·obtain⟨vt,mh⟩:∃vt,vt=r.vt++[(m.aR,m.aC)]:=⟨_,rfl⟩
   by_cases hM:Site.most vt r.aC n=true
   ·have o8:=Site.oZ (s:=({s with rs:=aT m.slot {r with vt:=vt} s.rs} :Site)) (x:=m.slot) (v:=r.b) (by omega) (by have:=bZ.b;omega) (.inl bZ.dec)
    obtain⟨q,hq⟩:∃q:Site,q= {s with lv:=aT m.slot r.b s.lv,rs:=bY m.slot s.rs}:=⟨_,rfl⟩
    have uY:({s with rs:=aT m.slot {r with vt:=vt} s.rs} :Site).aX m.slot r.b=q:=by
     rw[o8,hq]
     have e1:(({s with rs:=aT m.slot {r with vt:=vt} s.rs} :Site).dec m.slot).isSome=false:=by
      show(s.dec m.slot).isSome=false
      rw[bZ.dec];rfl
     rw[e1]
     dsimp only
     rw[oy];rfl
    have e:s.take m= {q with held:=q.tell (Site.bD m.slot r.b) n}:=by
     rw[e0];unfold Site.accepted;rw[hr]
     dsimp only
     rw[ik,if_pos hc,←mh,hn,if_pos hM]
     have e2:(({s with n:=n,rs:=aT m.slot {r with vt:=vt} s.rs} :Site).aX m.slot r.b)=q:=by rw[←uY];rw[←hn]
     rw[e2,Site.bH]
     have:q.held= []:=by rw[hq];exact hh
     rw[this,nil_append]
    have xm:Sm n T E i q:=by
     have h1:=h.aX (x:=m.slot) hx (v:=r.b) bZ.b
     have h2:s.aX m.slot r.b=q:=by
      rw[Site.oZ (by omega) (by have:=bZ.b;omega) (.inl bZ.dec),hq,bZ.dec];rfl
     rw[h2]at h1;exact h1
    have uH:q.me=i:=xm.me
    have BE:∀z,q.dec z=if m.slot=z then some r.b else s.dec z:=fun z=>by
     subst hq
     show aD z (aT m.slot r.b s.lv)=_
     rw[cO];rfl
    have hst:∀z,q.stat z=s.stat z:=fun z=>by subst hq;rfl
    have hout:∀m'∈q.tell (Site.bD m.slot r.b) n,∃c:Nat,c<n∧c≠i∧m'=(Site.bD m.slot r.b).ad i c:=fun m' bw=>by
     obtain⟨c,c1,c2,rfl⟩:=Site.dH.1 bw
     rw[uH]at c2
     exact⟨c,c1,c2,by rw[uH]⟩
    have Ih:=mD (E:=E) hx.2 bZ.b
    have hS:=xm.ln (l:=q.tell (Site.bD m.slot r.b) n) fun m' bw=>by obtain⟨c,-,-,rfl⟩:=hout m' bw;exact Ih.ad _ _
    have lg:∀(z:Int) w,s.dec z=some w→q.dec z=some w:=fun z w hz=>by
     rw[BE]
     split
     ·rename_i c;subst c;rw[bZ.dec]at hz;cases hz
     ·exact hz
    have ij:∀z,s.fresh z=false→q.fresh z=false:=fun z hz=>ky hst lg hz
    rw[e,nr hS (fun m' bw=>by obtain⟨c,c1,c2,rfl⟩:=hout m' bw;show(c:Int)≠_;omega)]
    refine⟨_,_,0,rfl,⟨hS.hold (l:=[]) (fun m hm=>by cases hm) _,rfl,fun m' bw=>?_,fun m' bw z=>?_,fun m' bw z=>?_,fun m' bw=>?_,fun m' bw z=>?_,fun m' bw z=>?_,fun P hA=>?_,?_,lg,fun z w hz=>?_,fun z w hz hne=>?_,fun z hz=>?_,ij,fun z b _ hb _=>?_,fun z=>?_⟩,fun w hw _ _=>.inl ?_,fun w hw hne=>?_⟩
    ·obtain⟨c,c1,c2,rfl⟩:=hout m' bw
     exact⟨Ih.ad _ _,rfl,c,c1,c2,rfl⟩
    ·obtain⟨c,c1,c2,rfl⟩:=hout m' bw;simp[Ms.ad,Site.bD]at z
    ·obtain⟨c,c1,c2,rfl⟩:=hout m' bw;simp[Ms.ad,Site.bD]at z
    ·obtain⟨c,c1,c2,rfl⟩:=hout m' bw;simp[Ms.ad,Site.bD]
    ·obtain⟨c,c1,c2,rfl⟩:=hout m' bw
     show q.dec m.slot≠none
     rw[BE,if_pos rfl];simp
    ·obtain⟨c,c1,c2,rfl⟩:=hout m' bw;rfl
    ·have q1:=P.low m hg.1
     have q2:=P.wI (l:=q.tell (Site.bD m.slot r.b) n) (c:=P.c1) fun m' bw=>P.nv m' (by obtain⟨c,c1,c2,rfl⟩:=hout m' bw;exact .inr (.inr (.inr rfl)))
     have q3:=Site.tB (s:=q) (m:=Site.bD m.slot r.b) (n:=n) (by rw[uH];exact h.lt) h7
     have q4:P.c1*(q.tell (Site.bD m.slot r.b) n).length≤P.c1*6:=Nat.mul_le_mul_left _ q3
     have q5:=P.JK
     have q6:P.tok {({q with held:=q.tell (Site.bD m.slot r.b) n} :Site)with dn:=q.db.length,held:=[]}+P.tT=P.tok s:=by
      have:P.tok q+P.tT=P.tok s:=by
       unfold Pw.tok
       rw[ly _ h.kz hr,hA (.inr hk),hc.2,hq]
       simp only[if_true]
       omega
      exact this
     have q7:=mf (n:=n) (T:=T) (i:=i) (s:=s) (t:=q) (ys:=[]) (fun k hk=>by
      cases hf:s.fresh (k:Int) with
      |true=>rfl
      |false=>rw[ij _ hf]at hk;cases hk) nodup_nil (fun y hy=>by cases hy)
     rw[length_nil,Nat.add_zero]at q7
     have q8:=Nat.mul_le_mul_left P.φ q7
     have q9:jh n T i {({q with held:=q.tell (Site.bD m.slot r.b) n} :Site)with dn:=q.db.length,held:=[]} =jh n T i q:=rfl
     unfold Pw.pt
     rw[Nat.mul_zero]
     show P.ws (q.tell (Site.bD m.slot r.b) n)+(P.tok {({q with held:=q.tell (Site.bD m.slot r.b) n} :Site)with dn:=q.db.length,held:=[]}+P.φ*jh n T i {({q with held:=q.tell (Site.bD m.slot r.b) n} :Site)with dn:=q.db.length,held:=[]})+0+P.δ≤_
     rw[q9];omega
    ·show q.db.length≤_
     have:q.db=s.db:=by subst hq;rfl
     rw[this];omega
    ·have hz:aD z q.rs=some w:=hz
     have:q.rs=bY m.slot s.rs:=by subst hq;rfl
     rw[this,gm]at hz
     split at hz
     ·cases hz
     ·exact⟨w,hz,rfl,rfl⟩
    ·by_cases c:z=m.slot
     ·left
      show q.dec z≠none
      rw[BE,if_pos c.symm];simp
     ·right
      show aD z q.rs=some w
      have:q.rs=bY m.slot s.rs:=by subst hq;rfl
      rw[this,gm,if_neg c];exact hz
    ·by_cases c:m.slot=z
     ·right;left
      show q.dec z≠none
      rw[BE,if_pos c];simp
     ·left
      obtain⟨f1,f2⟩:=Site.bo.1 hz
      refine Site.bo.2 ⟨?_,?_⟩
      ·show q.dec z=none
       rw[BE,if_neg c];exact f1
      ·show(q.stat z).same Sp.zero=true
       rw[hst];exact f2
    ·show ¬ b.lt (q.stat z).p
     rw[hst];exact hb
    ·show ¬ (q.stat z).p.lt _
     rw[hst];exact Bl.lt_irrefl _
    ·show q.dec m.slot≠none
     rw[BE,if_pos rfl];simp
    ·injection hw with hw;subst hw
     rcases hne with q|q
     ·rw[hc.2]at q;cases q
     ·exact absurd hc.1 q
   ·have hM:Site.most vt r.aC n=false:=by simpa using hM
    have e:s.take m= {s with rs:=aT m.slot {r with vt:=vt} s.rs}:=by
     rw[e0];unfold Site.accepted;rw[hr]
     dsimp only
     have Ii:Site.most (r.vt++[(m.aR,m.aC)]) r.aC s.n=false:=by rw[←mh,hn];exact hM
     rw[ik,if_pos hc,Ii,if_neg (by simp),←mh]
    have fP:iJ n T E s m.slot {r with vt:=vt}:=⟨bZ.x0,bZ.dec,bZ.nz,bZ.bs,bZ.br,bZ.low,bZ.b,bZ.pr,fun q=>(by have q:r.so=false:=q;rw[hc.2]at q;cases q),fun q=>⟨(bZ.yes hc.2).1,hM⟩⟩
    have hS:=h.fH fP
    rw[e,nr hS (by show ∀m'∈s.held,_;rw[hh];intro m hm;cases hm)]
    refine⟨_,_,0,rfl,?_,fun q hq _ _=>.inr ?_,fun q hq hne=>?_⟩
    ·show Dl n T E i s {s with rs:=aT m.slot {r with vt:=vt} s.rs,dn:=s.db.length,held:=[]} m s.held 0
     rw[hh];exact h.D9 hg hr fP rfl ⟨rfl,rfl⟩ (.inr hk)
    ·injection hq with hq;subst hq
     refine⟨{r with vt:=vt},?_,rfl,hc.2,fun z hz=>?_,?_⟩
     ·show aD m.slot (aT _ _ _)=_;rw[cO,if_pos rfl]
     ·show z∈vt
      rw[mh];exact mem_append_left _ hz
     ·show(m.aR,r.aC)∈vt
      rw[mh,hc.1];simp
    ·injection hq with hq;subst hq
     rcases hne with q|q
     ·rw[hc.2]at q;cases q
     ·exact absurd hc.1 q
  ·have e:s.take m=s:=by
    rw[e0];unfold Site.accepted;rw[hr]
    dsimp only
    rw[ik,if_neg hc]
   obtain⟨t,out,k,h1,h2,-,-,h5⟩:=h.nw hh hg e
   refine⟨t,out,k,h1,h2,fun q hq q2 q3=>?_,fun q hq _=>?_⟩
   ·injection hq with hq;subst hq
    exact absurd ⟨q3,q2⟩ hc
   ·injection hq with hq;subst hq h5;exact hr
structure Dg(n i:Nat)(s t:Site)(m:Ms)(out:List Ms):Prop where
 k7:m.kind=7→m.some_=true→t.dec m.slot≠none
 k8:m.kind=8→s.dec m.slot≠none→∃m'∈out,m'.kind=7∧m'.some_=true∧m'.slot=m.slot∧m'.to=m.aR
 VB:m.kind=8→m.some_=true→bK m.slot n=(i:Int)→t.fresh m.slot=false∧(s.fresh m.slot=true→t.dec m.slot≠none)
 k3:m.kind=3→1≤m.bU→m.cu=m.aR→t.fresh m.slot=false∧(¬ m.aC.lt (s.stat m.slot).p→(∃m'∈out,m'.kind=7∧m'.some_=true∧m'.slot=m.slot∧m'.to=m.aR)∨∃m'∈out,m'.kind=4∧m'.slot=m.slot∧m'.to=m.aR∧m'.aC=m.aC)
 k5:m.kind=5→m.some_=true→1≤m.bU→m.cu=m.aR→t.fresh m.slot=false∧(¬ m.aC.lt (s.stat m.slot).p→(∃m'∈out,m'.kind=7∧m'.some_=true∧m'.slot=m.slot∧m'.to=m.aR)∨∃m'∈out,m'.kind=6∧m'.slot=m.slot∧m'.to=m.aR∧m'.aC=m.aC)
 k4:m.kind=4→∀r,aD m.slot s.rs=some r→r.so=false→r.aC=m.aC→¬ r.aC.lt (s.stat m.slot).p→
   ∃r',aD m.slot t.rs=some r'∧r'.aC=r.aC∧(r'.so=false∧(∀f∈r.pr.map Pm.f,f∈r'.pr.map Pm.f)∧m.aR∈r'.pr.map Pm.f∨
    r'.so=true∧((i:Int),r.aC)∈r'.vt∧∀c:Nat,c<n→c≠i→∃m'∈out,m'.kind=5∧m'.slot=m.slot∧m'.to=c∧m'.aC=r.aC∧m'.some_=true)
 VC:m.kind=4→∀r,aD m.slot s.rs=some r→(r.so=true∨r.aC≠m.aC)→aD m.slot t.rs=some r
 k6:m.kind=6→∀r,aD m.slot s.rs=some r→r.so=true→r.aC=m.aC→t.dec m.slot≠none∨
   ∃r',aD m.slot t.rs=some r'∧r'.aC=r.aC∧r'.so=true∧(∀z∈r.vt,z∈r'.vt)∧(m.aR,r.aC)∈r'.vt
 VD:m.kind=6→∀r,aD m.slot s.rs=some r→(r.so=false∨r.aC≠m.aC)→aD m.slot t.rs=some r
theorem ZS(h:Sm n T E i s)(hh:s.held= [])(hroom:s.db.length+2000≤1048576)(hm:m.bL)(hs:cj T E m)(hg:m.eS n i):∃t out k,(s.take m).sync=(t,out)∧Dl n T E i s t m out k∧Dg n i s t m out:=by
 have xn:=hm.kind
 have hne:∀{a b:Int},m.kind=a→m.kind=b→a≠b→False:=fun h1 h2 h3=>h3 (h1.symm.trans h2)
 have h8:m.kind=1∨m.kind=2∨m.kind=3∨m.kind=4∨m.kind=5∨m.kind=6∨m.kind=7∨m.kind=8:=by omega
 have hn:=h.nn
 rcases h8 with k|k|k|k|k|k|k|k
 ·obtain⟨t,out,j,h1,h2⟩:=h.ZO hh hroom hm hs hg k
  exact⟨t,out,j,h1,h2,fun e=>(hne k e (by decide)).elim,fun e=>(hne k e (by decide)).elim,fun e=>(hne k e (by decide)).elim,fun e=>(hne k e (by decide)).elim,fun e=>(hne k e (by decide)).elim,fun e=>(hne k e (by decide)).elim,fun e=>(hne k e (by decide)).elim,fun e=>(hne k e (by decide)).elim,fun e=>(hne k e (by decide)).elim⟩
 ·have hx:=kJ hm hs (.inl (by omega))
  have e0:s.take m=s.eR m:=by
   have h1:s.take m=s.ct m:=by unfold Site.take;rw[if_neg];omega
   rw[h1];unfold Site.ct;rw[if_neg (by omega),if_pos k]
  by_cases hc:m.aR=bK m.slot s.n
  ·obtain⟨t,out,j,h1,h2,-⟩:=h.Mc hh hg hx (v:=[]) (by simp) (by rw[e0];unfold Site.eR;rw[if_pos hc]) (.inl k)
   exact⟨t,out,j,h1,h2,fun e=>(hne k e (by decide)).elim,fun e=>(hne k e (by decide)).elim,fun e=>(hne k e (by decide)).elim,fun e=>(hne k e (by decide)).elim,fun e=>(hne k e (by decide)).elim,fun e=>(hne k e (by decide)).elim,fun e=>(hne k e (by decide)).elim,fun e=>(hne k e (by decide)).elim,fun e=>(hne k e (by decide)).elim⟩
  ·obtain⟨t,out,j,h1,h2,-⟩:=h.nw hh hg (by rw[e0];unfold Site.eR;rw[if_neg hc])
   exact⟨t,out,j,h1,h2,fun e=>(hne k e (by decide)).elim,fun e=>(hne k e (by decide)).elim,fun e=>(hne k e (by decide)).elim,fun e=>(hne k e (by decide)).elim,fun e=>(hne k e (by decide)).elim,fun e=>(hne k e (by decide)).elim,fun e=>(hne k e (by decide)).elim,fun e=>(hne k e (by decide)).elim,fun e=>(hne k e (by decide)).elim⟩
 ·obtain⟨t,out,j,h1,h2,h3⟩:=h.ZM hh (by omega) hm hs hg k
  exact⟨t,out,j,h1,h2,fun e=>(hne k e (by decide)).elim,fun e=>(hne k e (by decide)).elim,fun e=>(hne k e (by decide)).elim,fun _=>h3,fun e=>(hne k e (by decide)).elim,fun e=>(hne k e (by decide)).elim,fun e=>(hne k e (by decide)).elim,fun e=>(hne k e (by decide)).elim,fun e=>(hne k e (by decide)).elim⟩
 ·obtain⟨t,out,j,h1,h2,h3,h4⟩:=h.ZQ hh hroom hm hs hg k
  exact⟨t,out,j,h1,h2,fun e=>(hne k e (by decide)).elim,fun e=>(hne k e (by decide)).elim,fun e=>(hne k e (by decide)).elim,fun e=>(hne k e (by decide)).elim,fun e=>(hne k e (by decide)).elim,fun _=>h3,fun _=>h4,fun e=>(hne k e (by decide)).elim,fun e=>(hne k e (by decide)).elim⟩
 ·obtain⟨t,out,j,h1,h2,h3⟩:=h.ZN hh (by omega) hm hs hg k
  exact⟨t,out,j,h1,h2,fun e=>(hne k e (by decide)).elim,fun e=>(hne k e (by decide)).elim,fun e=>(hne k e (by decide)).elim,fun e=>(hne k e (by decide)).elim,fun _=>h3,fun e=>(hne k e (by decide)).elim,fun e=>(hne k e (by decide)).elim,fun e=>(hne k e (by decide)).elim,fun e=>(hne k e (by decide)).elim⟩
 ·obtain⟨t,out,j,h1,h2,h3,h4⟩:=h.ZR hh hm hs hg k
  exact⟨t,out,j,h1,h2,fun e=>(hne k e (by decide)).elim,fun e=>(hne k e (by decide)).elim,fun e=>(hne k e (by decide)).elim,fun e=>(hne k e (by decide)).elim,fun e=>(hne k e (by decide)).elim,fun e=>(hne k e (by decide)).elim,fun e=>(hne k e (by decide)).elim,fun _=>h3,fun _=>h4⟩
 ·have hx:=kJ hm hs (.inl (by omega))
  have e0:s.take m=s.gr m:=by
   have h1:s.take m=s.ct m:=by unfold Site.take;rw[if_neg];omega
   rw[h1];unfold Site.ct;rw[if_neg (by omega),if_neg (by omega),if_neg (by omega),if_neg (by omega),if_neg (by omega),if_neg (by omega),if_pos k]
  by_cases hc:m.some_=true
  ·obtain⟨t,out,j,h1,h2,-,h4⟩:=h.Mc hh hg hx (v:=m.val) hs.val (by rw[e0];unfold Site.gr;rw[if_pos hc]) (.inr k)
   exact⟨t,out,j,h1,h2,fun _ _=>h4,fun e=>(hne k e (by decide)).elim,fun e=>(hne k e (by decide)).elim,fun e=>(hne k e (by decide)).elim,fun e=>(hne k e (by decide)).elim,fun e=>(hne k e (by decide)).elim,fun e=>(hne k e (by decide)).elim,fun e=>(hne k e (by decide)).elim,fun e=>(hne k e (by decide)).elim⟩
  ·obtain⟨t,out,j,h1,h2,-⟩:=h.nw hh hg (by rw[e0];unfold Site.gr;rw[if_neg hc])
   exact⟨t,out,j,h1,h2,fun _ e=>absurd e hc,fun e=>(hne k e (by decide)).elim,fun e=>(hne k e (by decide)).elim,fun e=>(hne k e (by decide)).elim,fun e=>(hne k e (by decide)).elim,fun e=>(hne k e (by decide)).elim,fun e=>(hne k e (by decide)).elim,fun e=>(hne k e (by decide)).elim,fun e=>(hne k e (by decide)).elim⟩
 ·obtain⟨t,out,j,h1,h2,h3,h4⟩:=h.ZP hh hroom hm hs hg k
  exact⟨t,out,j,h1,h2,fun e=>(hne k e (by decide)).elim,fun _=>h3,fun _=>h4,fun e=>(hne k e (by decide)).elim,fun e=>(hne k e (by decide)).elim,fun e=>(hne k e (by decide)).elim,fun e=>(hne k e (by decide)).elim,fun e=>(hne k e (by decide)).elim,fun e=>(hne k e (by decide)).elim⟩
end Sm
