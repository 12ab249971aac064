/- For WorldCalm. -/
import Derived.Test.YtijhlbeipglieaaGreatPkCalmE
set_option linter.all false
namespace aL
open Go Go.Proofs.YtijhlbeipglieaaGreat List
section
variable {n i:Nat} (P:Pw n i)
def Pw.hw(m:Ms):Nat:=if m.to=(i:Int)then 0 else P.w m
def Pw.hs(l:List Ms):Nat:=(l.map P.hw).sum
theorem Pw.fg(a b:List Ms):P.hs (a++b)=P.hs a+P.hs b:=by simp[Pw.hs]
theorem Pw.qH:P.hs []=0:=rfl
theorem Pw.vy(m:Ms):P.hs [m]=P.hw m:=by simp[Pw.hs]
theorem Pw.R6(m:Ms):P.hw m≤P.w m:=by unfold Pw.hw;split<;>omega
theorem Pw.zo(l:List Ms):P.hs l≤P.ws l:=by
 induction l with
 |nil=>exact Nat.le_refl _
 |cons m l ih=>
  have h1:P.hs (m::l)=P.hw m+P.hs l:=by simp[Pw.hs]
  have h2:P.ws (m::l)=P.w m+P.ws l:=by simp[Pw.ws]
  have:=P.R6 m
  omega
def Pw.V(T:Nat)(s:Site):Nat:=P.pt T s+P.hs s.held
def Pw.sH(x:Ms):Nat:=if x.aR=(i:Int)then 0 else P.w x
def Pw.ind(x:Ms):Nat:=if x.aR=(i:Int)then 0 else P.δ
theorem Pw.pj{x:Ms}(h:x.to=(i:Int)):P.ind x≤P.sH x:=by
 unfold Pw.ind Pw.sH
 have:=P.low x h
 split<;>omega
theorem Pw.vz{T:Nat}{s u:Site}{l:List Ms}(h1:P.tok u≤P.tok s)(h2:∀z:Int,s.fresh z=false→u.fresh z=false)(h3:u.held=s.held++l):P.V T u≤P.V T s+P.hs l:=by
 have q:=P.JM (T:=T) h1 fun k hk=>by
  cases hf:s.fresh (k:Int) with
  |true=>rfl
  |false=>rw[h2 _ hf]at hk;cases hk
 unfold Pw.V
 rw[h3,P.fg];omega
end
structure Tq(n T E i:Nat)(s u:Site)(x:Ms):Prop where
 sm:Sm n T E i u
 zq:∀m∈u.held,m∈s.held∨m.aR=(i:Int)∧∃c:Nat,c<n∧m.to=(c:Int)∧(c=i→0≤m.slot∧(m.kind=2∧(x.kind=1∨x.kind=8)∨m.kind=6∧x.kind=4))
 uF:∃k,u.db.length≤s.db.length+16*k∧k≤9∧∀P:Pw n i,(∀z,P.A z=true)→P.V T u+P.ρ*k+P.ind x≤P.V T s+P.sH x
structure Sq(n T E i:Nat)(s u:Site):Prop where
 sm:Sm n T E i u
 zq:∀m∈u.held,m∈s.held∨m.aR=(i:Int)∧m.kind=2∧0≤m.slot∧∃c:Nat,c<n∧m.to=(c:Int)
 uF:∃k,u.db.length≤s.db.length+16*k∧k≤8∧∀P:Pw n i,P.V T u+P.ρ*k≤P.V T s
 lv:u.lv=s.lv∧u.me=s.me∧u.n=s.n
theorem Sq.refl{n T E i:Nat}{s:Site}(h:Sm n T E i s):Sq n T E i s s:=⟨h,fun _ hm=>.inl hm,⟨0,by omega,by omega,fun P=>by omega⟩,rfl,rfl,rfl⟩
theorem Tq.skip{n T E i:Nat}{s u v:Site}{x:Ms}(h:Tq n T E i s u x)(k1:∃k,u.db.length≤s.db.length+16*k∧k≤1∧∀P:Pw n i,(∀z,P.A z=true)→P.V T u+P.ρ*k+P.ind x≤P.V T s+P.sH x)(hx:x.kind=1∨x.kind=8)(k:Sq n T E i u v):Tq n T E i s v x:=by
 refine⟨k.sm,fun m hm=>?_,?_⟩
 ·rcases k.zq m hm with q|⟨q1,q2,q0,c,q3,q4⟩
  ·exact h.zq m q
  ·exact .inr ⟨q1,c,q3,q4,fun _=>⟨q0,.inl ⟨q2,hx⟩⟩⟩
 ·obtain⟨a,a1,a2,a3⟩:=k1
  obtain⟨b,b1,b2,b3⟩:=k.uF
  refine⟨a+b,by omega,by omega,fun P hA=>?_⟩
  have q1:=a3 P hA
  have q2:=b3 P
  have q3:P.ρ*(a+b)=P.ρ*a+P.ρ*b:=Nat.mul_add _ _ _
  omega
namespace Sm
variable {n T E i:Nat} {s t u:Site} {x:Ms}
theorem kA(h:Sm n T E i s)(fk:x.to=(i:Int)):Tq n T E i s s x:=
 ⟨h,fun _ hm=>.inl hm,0,by omega,by omega,fun P _=>by have:=P.pj fk;omega⟩
theorem q_skip(h:Sm n T E i s){tg:Nat}(sw:tg≤T)(pO:s.db.length+640≤1048576):Sq n T E i s (s.skip (tg:Int)):=by
 have hT:=h.T6;have h7:=h.n7;have h3:=h.n3;have hlt:=h.lt;have hn:=h.nn;have ca:=h.me;have uG:=h.nx
 obtain⟨ys,hs,hlen⟩:=Site.mI tg (by omega) 4098 0 s (by omega) (by omega) (by omega) (by omega) (by omega) (by omega) (by omega) (fun y _ _=>by omega)
 have gz:=cG 4098 0 s (tg:Int) h (by omega)
 rw[show Site.cG 4098 0 s (tg:Int)=s.skip (tg:Int)from rfl]at hs gz
 have oj:s.bQ=⟨0,(i:Int)⟩:=by unfold Site.bQ;rw[ca]
 have hown:∀y∈ys,y<tg∧y % n=i∧s.fresh (y:Int)=true:=fun y hy=>by
  obtain⟨k1,k2,k3,k4,k5⟩:=hs.own y hy
  rw[hn,ca]at k1
  exact⟨k3,k1,k5⟩
 have Bt:∀y∈ys,(s.skip (tg:Int)).fresh (y:Int)=false:=fun y hy=>fM (by
  rw[hs.st,if_pos ⟨y,hy,rfl⟩]
  intro e;have:=congrArg Sp.so e;simp[Sp.zero,Site.ou]at this)
 have MD:∀k:Nat,(s.skip (tg:Int)).fresh (k:Int)=true→s.fresh (k:Int)=true:=fun k hk=>by
  cases hf:s.fresh (k:Int) with
  |true=>rfl
  |false=>rw[Site.Df _ _ hs k hf]at hk;cases hk
 refine⟨gz,fun m hm=>?_,⟨ys.length,hs.db,by omega,fun P=>?_⟩,hs.lv,hs.gj.me,hs.gj.n⟩
 ·rw[hs.held]at hm
  rcases mem_append.1 hm with hm|hm
  ·exact .inl hm
  ·right
   obtain⟨y,hy,hm⟩:=mem_flatMap.1 hm
   rcases mem_append.1 hm with hm|hm
   ·obtain⟨c,c1,c2,rfl⟩:=Site.dH.1 hm
    exact⟨by show(s.me:Int)=_;rw[ca],rfl,by show(0:Int)≤(y:Int);omega,c,by rw[←hn];exact c1,rfl⟩
   ·rw[mem_singleton]at hm;subst hm
    exact⟨by show(s.me:Int)=_;rw[ca],rfl,by show(0:Int)≤(y:Int);omega,i,h.lt,by show(s.me:Int)=_;rw[ca]⟩
 ·have q1:P.tok (s.skip (tg:Int))=P.tok s:=P.vn hs.rs
  have q2:=mf (n:=n) (T:=T) (i:=i) (s:=s) (t:=s.skip (tg:Int)) (ys:=ys) MD hs.nodup fun y hy=>⟨by have:=(hown y hy).1;omega,(hown y hy).2.1,(hown y hy).2.2,Bt y hy⟩
  have q3:=Nat.mul_le_mul_left P.φ q2
  rw[Nat.mul_add]at q3
  have q4:=Nat.mul_le_mul_right ys.length P.fresh
  rw[Nat.add_mul]at q4
  have q5:P.hs (ys.flatMap fun(y:Nat)=>s.tell (Site.bt y s.bQ) s.n++[(Site.bt y s.bQ).ad s.me s.me])≤6*P.c1*ys.length:=by
   have hsk:=h.D7 P s.bQ ys
   rw[hn]
   refine Nat.le_trans ?_ hsk
   clear hsk q2 q3 q4 hs gz hown Bt MD hlen
   induction ys with
   |nil=>exact Nat.le_refl _
   |cons y ys ih=>
    rw[flatMap_cons,flatMap_cons,P.fg,P.fg,P.ff,P.vy]
    have e1:P.hw ((Site.bt (y:Int) s.bQ).ad s.me s.me)=0:=by
     unfold Pw.hw
     rw[if_pos (by show(s.me:Int)=_;rw[ca])]
    have e2:=P.zo (s.tell (Site.bt (y:Int) s.bQ) n)
    omega
  unfold Pw.V Pw.pt
  rw[hs.held,P.fg,q1]
  omega
theorem zr{r:Site}{o:Ms}{k:Nat}(hg:x.eS n i)(hx:x.kind=1∨x.kind=3∨x.kind=5)(hr:Sm n T E i r)(hh:r.held=s.held)(bZ:r.rs=s.rs)(ij:∀z:Int,s.fresh z=false→r.fresh z=false)(pO:r.db.length≤s.db.length+16*k)(hk:k≤1)(ho:cj T E o)(ef:o.kind=2∨o.kind=4∨o.kind=6∨o.kind=7):Tq n T E i s (r.send x.aR o) x∧∃k,(r.send x.aR o).db.length≤s.db.length+16*k∧k≤1∧∀P:Pw n i,(∀z,P.A z=true)→P.V T (r.send x.aR o)+P.ρ*k+P.ind x≤P.V T s+P.sH x:=by
 obtain⟨fk,c,c1,c2,c3⟩:=hg
 have Wl:∀P:Pw n i,(∀z,P.A z=true)→P.V T (r.send x.aR o)+P.ρ*k+P.ind x≤P.V T s+P.sH x:=fun P _=>by
  have q1:=P.Ia x fk hx
  have q2:=P.nv (o.ad r.me x.aR) ef
  have q3:=P.vz (T:=T) (s:=s) (u:=r.send x.aR o) (l:=[o.ad r.me x.aR]) (Nat.le_of_eq (P.vn (s:=s) (t:=r.send x.aR o) bZ)) (fun z hz=>ij z hz) (by rw[Site.jO];show r.held++_=_;rw[hh])
  rw[P.vy]at q3
  have q4:=P.R6 (o.ad r.me x.aR)
  have q5:P.ρ*k≤P.ρ*1:=Nat.mul_le_mul_left _ hk
  have hne:¬ x.aR=(i:Int):=by omega
  have q6:P.ind x=P.δ:=by unfold Pw.ind;rw[if_neg hne]
  have q7:P.sH x=P.w x:=by unfold Pw.sH;rw[if_neg hne]
  omega
 refine⟨⟨hr.send ho _,fun m hm=>?_,k,pO,by omega,Wl⟩,k,pO,hk,Wl⟩
 rw[Site.jO]at hm
 have hm:m∈r.held++[o.ad r.me x.aR]:=hm
 rcases mem_append.1 hm with hm|hm
 ·exact .inl (by rw[←hh];exact hm)
 ·rw[mem_singleton]at hm;subst hm
  exact .inr ⟨by show(r.me:Int)=_;rw[hr.me],c,c1,c3,fun e=>absurd e c2⟩
theorem Eu(h:Sm n T E i s)(fk:x.to=(i:Int)){z:Int}(hz:0≤z∧z<T){v:List UInt8}(hv:v.length≤3):Tq n T E i s (s.aX z v) x:=by
 have lg:=Site.mJ s z v
 have hf:(s.aX z v).st=s.st∧(s.aX z v).held=s.held∧(s.aX z v).db=s.db∧((s.aX z v).rs=s.rs∨(s.aX z v).rs=bY z s.rs):=by
  unfold Site.aX
  split
  ·exact⟨rfl,rfl,rfl,.inr rfl⟩
  ·exact⟨rfl,rfl,rfl,.inl rfl⟩
 obtain⟨f1,f2,f3,f4⟩:=hf
 refine⟨h.aX hz hv,fun m hm=>.inl (by rw[←f2];exact hm),0,by rw[f3];omega,by omega,fun P _=>?_⟩
 have q1:=P.pj fk
 have q2:=P.vz (T:=T) (s:=s) (u:=s.aX z v) (l:=[]) (by
  unfold Pw.tok
  rcases f4 with f4|f4
  ·rw[f4];exact Nat.le_refl _
  ·rw[f4];exact kI _ _ _) (fun y hy=>ky (fun y=>by unfold Site.stat;rw[f1]) lg.dec hy) (by rw[f2,append_nil])
 rw[P.qH]at q2
 omega
end Sm
namespace Sm
variable {n T E i:Nat} {s t u:Site} {x:Ms}
theorem Wm(h:Sm n T E i s)(hx:0≤x.slot∧x.slot<T)(hs:cj T E x)(fk:x.to=(i:Int))(hk:x.kind=4):Tq n T E i s (s.bT x) x:=by
 have ca:=h.me;have hn:=h.nn;have h3:=h.n3
 cases hr:aD x.slot s.rs with
 |none=>
  have e:s.bT x=s:=by unfold Site.bT;rw[hr]
  rw[e];exact h.kA fk
 |some r=>
  have bZ:=h.rs _ r hr
  by_cases hc:r.aC=x.aC∧r.so=false
  case neg=>
   have e:s.bT x=s:=by
    unfold Site.bT;rw[hr]
    dsimp only
    rw[if_neg hc]
   rw[e];exact h.kA fk
  obtain⟨jX,kW,uC⟩:=bZ.no hc.2
  obtain⟨pr,o0⟩:∃pr,pr=r.pr++[(⟨x.aR,x.some_,x.had,x.val⟩:Pm)]:=⟨_,rfl⟩
  have yg:∀q∈pr,q.b.length≤3:=fun q hq=>by
   rw[o0]at hq
   rcases mem_append.1 hq with hq|hq
   ·exact bZ.pr q hq
   ·rw[mem_singleton]at hq;subst hq;exact hs.val
  cases hch:dM pr s.n with
  |none=>
   have e:s.bT x= {s with rs:=aT x.slot {r with pr:=pr} s.rs}:=by
    unfold Site.bT;rw[hr]
    dsimp only
    rw[if_pos hc,←o0,hch]
   have fP:iJ n T E s x.slot {r with pr:=pr}:=⟨bZ.x0,bZ.dec,bZ.nz,bZ.bs,bZ.br,bZ.low,bZ.b,yg,fun _=>⟨jX,kW,by rw[←hn];exact xl hch⟩,fun q=>by have q:r.so=true:=q;rw[hc.2]at q;cases q⟩
   rw[e]
   refine⟨h.fH fP,fun m hm=>.inl hm,0,by show s.db.length≤_;omega,by omega,fun P _=>?_⟩
   have q1:=P.pj fk
   have q2:P.tok {s with rs:=aT x.slot {r with pr:=pr} s.rs} =P.tok s:=by
    unfold Pw.tok
    dsimp only
    rw[lx,ly _ h.kz hr]
   have q3:=P.vz (T:=T) (s:=s) (u:={s with rs:=aT x.slot {r with pr:=pr} s.rs}) (l:=[]) (Nat.le_of_eq q2) (fun z hz=>hz) (append_nil _).symm
   rw[P.qH]at q3
   omega
  |some v=>
   have gi:=BC yg hch
   have hb0:0≤r.aC.r∧r.aC.r≤E:=bZ.br
   have oo:0≤r.aC.s∧r.aC.s≤6:=by have:=bZ.bs;have:=h.lt;have:=h.n7;omega
   have Ea:({s with rs:=aT x.slot {r with pr:=pr} s.rs} :Site).accept x.slot r.aC v=(s.accept x.slot r.aC v).map fun t=>{t with rs:=aT x.slot {r with pr:=pr} s.rs}:=PA.rk s _ _ _ _
   cases ha:s.accept x.slot r.aC v with
   |none=>
    have e:s.bT x= {s with rs:=bY x.slot s.rs}:=by
     unfold Site.bT;rw[hr]
     dsimp only
     rw[if_pos hc,←o0,hch]
     dsimp only
     rw[Ea,ha]
     dsimp only[Option.map_none]
     rw[oy]
    rw[e]
    refine⟨h.nu x.slot,fun m hm=>.inl hm,0,by show s.db.length≤_;omega,by omega,fun P _=>?_⟩
    have q1:=P.pj fk
    have q2:P.tok {s with rs:=bY x.slot s.rs}≤P.tok s:=kI _ _ _
    have q3:=P.vz (T:=T) (s:=s) (u:={s with rs:=bY x.slot s.rs}) (l:=[]) q2 (fun z hz=>hz) (append_nil _).symm
    rw[P.qH]at q3
    omega
   |some a=>
    obtain⟨p1,p2,p3,p4,p5,p6,p7,p8⟩:=h.accept hx hb0 oo gi ha
    obtain⟨r1,hr1⟩:∃r1:Rn,r1= {r with pr:=pr,so:=true,b:=v}:=⟨_,rfl⟩
    obtain⟨q,hq⟩:∃q:Site,q= {a with rs:=aT x.slot r1 s.rs}:=⟨_,rfl⟩
    have Eb:a.stat x.slot=⟨r.aC,true,r.aC,v⟩:=by rw[p8,if_pos rfl]
    have JO:a.stat x.slot≠Sp.zero:=by rw[Eb];intro e;have:=congrArg Sp.so e;simp[Sp.zero]at this
    have ze:∀z,a.dec z=s.dec z:=fun z=>by unfold Site.dec;rw[p5]
    have Vx:Site.most r.vt r.aC n=false:=by rw[kW];exact Site.tC (me:=(i:Int)) h3 (fun z hz=>by cases hz)
    have Vy:iJ n T E a x.slot r1:=by
     subst hr1
     exact⟨bZ.x0,by rw[ze];exact bZ.dec,JO,by rw[p1.me,←ca];exact bZ.bs,bZ.br,by rw[Eb];exact Bl.lt_irrefl _,gi,yg,fun q=>(by cases q),fun _=>⟨fun e=>by have e:r.aC.r=0:=e;omega,Vx⟩⟩
    have xm:Sm n T E i q:=by
     have:=p1.fH Vy
     rw[p4]at this
     rw[hq];exact this
    have o7:q.held=s.held∧q.me=i∧q.n=n:=by subst hq;exact⟨p3,p1.me,p1.nn⟩
    have nB:Site.asks r1 x.slot=⟨5,0,0,x.slot,r.aC.r,r.aC.s,r.aC.r,r.aC.s,true,v⟩:=by
     subst hr1
     unfold Site.asks
     dsimp only
     rw[if_pos rfl,if_neg (by omega)]
    have Pt:cj T E (Site.asks r1 x.slot):=by
     rw[nB];exact⟨fun _=>hx.2,bZ.br.2,bZ.br.2,gi⟩
    have Vz:cj T E (Site.bB x.slot r.aC):=⟨fun _=>hx.2,bZ.br.2,by simp[Site.bB],by simp[Site.bB]⟩
    have e:s.bT x= {q with held:=s.held++(q.tell (Site.asks r1 x.slot) n++[(Site.bB x.slot r.aC).ad i i])}:=by
     unfold Site.bT;rw[hr]
     dsimp only
     rw[if_pos hc,←o0,hch]
     dsimp only
     rw[Ea,ha]
     dsimp only[Option.map_some]
     have e1:({({a with rs:=aT x.slot {r with pr:=pr} s.rs} :Site)with rs:=aT x.slot {r with pr:=pr,so:=true,b:=v} ({a with rs:=aT x.slot {r with pr:=pr} s.rs} :Site).rs} :Site)=q:=by
      rw[hq,hr1]
      show({a with rs:=aT x.slot _ (aT x.slot _ s.rs)} :Site)=_
      congr 1
      unfold aT
      rw[show bY x.slot (gK (x.slot,({r with pr:=pr} :Rn)) (bY x.slot s.rs))=bY x.slot s.rs from oy x.slot _ s.rs]
     rw[e1,←hr1,Site.bH,Site.jO,hn,o7.1,ca]
     show({q with held:=s.held++q.tell (Site.asks r1 x.slot) n++[(Site.bB x.slot r.aC).ad q.me i]} :Site)=_
     rw[o7.2.1,append_assoc]
    have hout:∀m'∈q.tell (Site.asks r1 x.slot) n,∃c:Nat,c<n∧c≠i∧m'=(Site.asks r1 x.slot).ad i c:=fun m' bw=>by
     obtain⟨c,c1,c2,rfl⟩:=Site.dH.1 bw
     rw[o7.2.1]at c2
     exact⟨c,c1,c2,by rw[o7.2.1]⟩
    have ij:∀z,s.fresh z=false→a.fresh z=false:=fun z hz=>by
     by_cases c:s.dec z=none
     ·refine fM ?_
      rw[p8]
      split
      ·intro e;have:=congrArg Sp.so e;simp[Sp.zero]at this
      ·intro hz0
       rw[Site.bo.2 ⟨c,by rw[hz0];decide⟩]at hz;cases hz
     ·exact fx (by rw[ze];exact c)
    rw[e]
    refine⟨xm.ln fun m hm=>?_,fun m hm=>?_,1,by show q.db.length≤_;subst hq;exact p2,by omega,fun P hA=>?_⟩
    ·rcases mem_append.1 hm with hm|hm
     ·exact h.held m hm
     rcases mem_append.1 hm with hm|hm
     ·obtain⟨c,-,-,rfl⟩:=hout m hm
      exact Pt.ad _ _
     ·rw[mem_singleton]at hm;subst hm;exact Vz.ad _ _
    ·rcases mem_append.1 hm with hm|hm
     ·exact .inl hm
     right
     rcases mem_append.1 hm with hm|hm
     ·obtain⟨c,c1,c2,rfl⟩:=hout m hm
      exact⟨rfl,c,c1,rfl,fun e=>absurd e c2⟩
     ·rw[mem_singleton]at hm;subst hm
      exact⟨rfl,i,h.lt,rfl,fun _=>⟨hx.1,.inr ⟨rfl,hk⟩⟩⟩
    ·have q1:=P.pj fk
     have q2:P.tok q+P.tF=P.tok s+P.tT:=by
      unfold Pw.tok
      rw[ly _ h.kz hr,hq]
      dsimp only
      rw[lx,hA,hc.2,hr1]
      simp only[if_true]
      rw[if_neg (by decide)]
      omega
     have q3:=P.D0
     have hc5:P.ws (q.tell (Site.asks r1 x.slot) n)≤P.c5:=P.DZ q _ o7.2.1 h.lt h.n7 (by rw[nB])
     have q4:=P.zo (q.tell (Site.asks r1 x.slot) n)
     have q5:P.hw ((Site.bB x.slot r.aC).ad i i)=0:=if_pos rfl
     have q6:=mf (n:=n) (T:=T) (i:=i) (s:=s) (t:=q) (ys:=[]) (fun k hk=>by
      cases hf:s.fresh (k:Int) with
      |true=>rfl
      |false=>
       have e1:q.fresh (k:Int)=a.fresh (k:Int):=by subst hq;rfl
       rw[e1,ij _ hf]at hk;cases hk) nodup_nil (fun y hy=>by cases hy)
     rw[length_nil,Nat.add_zero]at q6
     have q7:=Nat.mul_le_mul_left P.φ q6
     have q8:P.V T ({q with held:=s.held++(q.tell (Site.asks r1 x.slot) n++[(Site.bB x.slot r.aC).ad i i])} :Site)=P.tok q+P.φ*jh n T i q+(P.hs s.held+(P.hs (q.tell (Site.asks r1 x.slot) n)+0)):=by
      unfold Pw.V
      rw[←q5,←P.vy,←P.fg,←P.fg];rfl
     rw[q8]
     unfold Pw.V Pw.pt
     omega
theorem Wo(h:Sm n T E i s)(hx:0≤x.slot∧x.slot<T)(fk:x.to=(i:Int)):Tq n T E i s (s.accepted x) x:=by
 have ca:=h.me;have hn:=h.nn;have h3:=h.n3;have h7:=h.n7;have il:=h.T6
 have ik:(⟨x.bU,x.cu⟩:Bl)=x.aC:=rfl
 cases hr:aD x.slot s.rs with
 |none=>
  have e:s.accepted x=s:=by unfold Site.accepted;rw[hr]
  rw[e];exact h.kA fk
 |some r=>
  have bZ:=h.rs _ r hr
  by_cases hc:r.aC=x.aC∧r.so=true
  case neg=>
   have e:s.accepted x=s:=by
    unfold Site.accepted;rw[hr]
    dsimp only
    rw[ik,if_neg hc]
   rw[e];exact h.kA fk
  obtain⟨vt,mh⟩:∃vt,vt=r.vt++[(x.aR,x.aC)]:=⟨_,rfl⟩
  by_cases hM:Site.most vt r.aC n=true
  ·have o8:=Site.oZ (s:=({s with rs:=aT x.slot {r with vt:=vt} s.rs} :Site)) (x:=x.slot) (v:=r.b) (by omega) (by have:=bZ.b;omega) (.inl bZ.dec)
   obtain⟨q,hq⟩:∃q:Site,q= {s with lv:=aT x.slot r.b s.lv,rs:=bY x.slot s.rs}:=⟨_,rfl⟩
   have uY:({s with rs:=aT x.slot {r with vt:=vt} s.rs} :Site).aX x.slot r.b=q:=by
    rw[o8,hq]
    have e1:(({s with rs:=aT x.slot {r with vt:=vt} s.rs} :Site).dec x.slot).isSome=false:=by
     show(s.dec x.slot).isSome=false
     rw[bZ.dec];rfl
    rw[e1]
    dsimp only
    rw[oy];rfl
   have hqh:q.held=s.held:=by rw[hq]
   have e:s.accepted x= {q with held:=s.held++q.tell (Site.bD x.slot r.b) n}:=by
    unfold Site.accepted;rw[hr]
    dsimp only
    rw[ik,if_pos hc,←mh,hn,if_pos hM]
    have e2:(({s with n:=n,rs:=aT x.slot {r with vt:=vt} s.rs} :Site).aX x.slot r.b)=q:=by rw[←uY];rw[←hn]
    rw[e2,Site.bH,hqh]
   have xm:Sm n T E i q:=by
    have h1:=h.aX (x:=x.slot) hx (v:=r.b) bZ.b
    have h2:s.aX x.slot r.b=q:=by
     rw[Site.oZ (by omega) (by have:=bZ.b;omega) (.inl bZ.dec),hq,bZ.dec];rfl
    rw[h2]at h1;exact h1
   have uH:q.me=i:=xm.me
   have BE:∀z,q.dec z=if x.slot=z then some r.b else s.dec z:=fun z=>by
    subst hq
    show aD z (aT x.slot r.b s.lv)=_
    rw[cO];rfl
   have hst:∀z,q.stat z=s.stat z:=fun z=>by subst hq;rfl
   have Ih:=mD (E:=E) hx.2 bZ.b
   have lg:∀(z:Int) w,s.dec z=some w→q.dec z=some w:=fun z w hz=>by
    rw[BE]
    split
    ·rename_i c;subst c;rw[bZ.dec]at hz;cases hz
    ·exact hz
   have ij:∀z,s.fresh z=false→q.fresh z=false:=fun z hz=>ky hst lg hz
   have hout:∀m'∈q.tell (Site.bD x.slot r.b) n,∃c:Nat,c<n∧c≠i∧m'=(Site.bD x.slot r.b).ad i c:=fun m' bw=>by
    obtain⟨c,c1,c2,rfl⟩:=Site.dH.1 bw
    rw[uH]at c2
    exact⟨c,c1,c2,by rw[uH]⟩
   rw[e]
   refine⟨xm.ln fun m hm=>?_,fun m hm=>?_,0,by show q.db.length≤_;subst hq;exact Nat.le_refl _,by omega,fun P hA=>?_⟩
   ·rcases mem_append.1 hm with hm|hm
    ·exact h.held m hm
    ·obtain⟨c,-,-,rfl⟩:=hout m hm;exact Ih.ad _ _
   ·rcases mem_append.1 hm with hm|hm
    ·exact .inl hm
    ·obtain⟨c,c1,c2,rfl⟩:=hout m hm
     exact .inr ⟨rfl,c,c1,rfl,fun e=>absurd e c2⟩
   ·have q1:=P.pj fk
    have q2:=P.wI (l:=q.tell (Site.bD x.slot r.b) n) (c:=P.c1) fun m' bw=>P.nv m' (by obtain⟨c,c1,c2,rfl⟩:=hout m' bw;exact .inr (.inr (.inr rfl)))
    have q3:=Site.tB (s:=q) (m:=Site.bD x.slot r.b) (n:=n) (by rw[uH];exact h.lt) h7
    have q4:P.c1*(q.tell (Site.bD x.slot r.b) n).length≤P.c1*6:=Nat.mul_le_mul_left _ q3
    have q5:=P.JK
    have q6:P.tok q+P.tT=P.tok s:=by
     unfold Pw.tok
     rw[ly _ h.kz hr,hA,hc.2,hq]
     simp only[if_true]
     omega
    have q7:=mf (n:=n) (T:=T) (i:=i) (s:=s) (t:=q) (ys:=[]) (fun k hk=>by
     cases hf:s.fresh (k:Int) with
     |true=>rfl
     |false=>rw[ij _ hf]at hk;cases hk) nodup_nil (fun y hy=>by cases hy)
    rw[length_nil,Nat.add_zero]at q7
    have q8:=Nat.mul_le_mul_left P.φ q7
    have q9:=P.zo (q.tell (Site.bD x.slot r.b) n)
    have vr:P.V T ({q with held:=s.held++q.tell (Site.bD x.slot r.b) n} :Site)=P.tok q+P.φ*jh n T i q+(P.hs s.held+P.hs (q.tell (Site.bD x.slot r.b) n)):=by
     unfold Pw.V
     rw[←P.fg];rfl
    rw[vr]
    unfold Pw.V Pw.pt
    omega
  ·have hM:Site.most vt r.aC n=false:=by simpa using hM
   have e:s.accepted x= {s with rs:=aT x.slot {r with vt:=vt} s.rs}:=by
    unfold Site.accepted;rw[hr]
    dsimp only
    have Ii:Site.most (r.vt++[(x.aR,x.aC)]) r.aC s.n=false:=by rw[←mh,hn];exact hM
    rw[ik,if_pos hc,Ii,if_neg (by simp),←mh]
   have fP:iJ n T E s x.slot {r with vt:=vt}:=⟨bZ.x0,bZ.dec,bZ.nz,bZ.bs,bZ.br,bZ.low,bZ.b,bZ.pr,fun q=>(by have q:r.so=false:=q;rw[hc.2]at q;cases q),fun q=>⟨(bZ.yes hc.2).1,hM⟩⟩
   rw[e]
   refine⟨h.fH fP,fun m hm=>.inl hm,0,by show s.db.length≤_;omega,by omega,fun P _=>?_⟩
   have q1:=P.pj fk
   have q2:P.tok {s with rs:=aT x.slot {r with vt:=vt} s.rs} =P.tok s:=by
    unfold Pw.tok
    dsimp only
    rw[lx,ly _ h.kz hr]
   have q3:=P.vz (T:=T) (s:=s) (u:={s with rs:=aT x.slot {r with vt:=vt} s.rs}) (l:=[]) (Nat.le_of_eq q2) (fun z hz=>hz) (append_nil _).symm
   rw[P.qH]at q3
   omega
theorem Wp(h:Sm n T E i s)(hroom:s.db.length+1000≤1048576)(hm:x.bL)(hs:cj T E x)(hg:x.eS n i)(hk:x.kind=8):Tq n T E i s (s.wanted x) x:=by
 have ca:=h.me;have hn:=h.nn
 obtain⟨fk,c,Mg,Mh,Mj⟩:=hg
 obtain⟨w,hw⟩:∃w,(if x.some_=true∧s.dec x.slot=none∧bK x.slot s.n=(s.me:Int)then s.skip (x.slot+1)else s)=w:=⟨_,rfl⟩
 have hS:Sq n T E i s w:=by
  rw[←hw]
  split
  ·rename_i hc
   have sA:=hs.slot (.inr hc.1)
   have ek:(x.slot+1)=(((x.slot.toNat+1:Nat)):Int):=by have:=hm.slot;omega
   rw[ek]
   exact h.q_skip (by have:=hm.slot;omega) (by omega)
  ·exact Sq.refl h
 have e:s.wanted x=((((range' x.slot.toNat ((eT w.lv).toNat-x.slot.toNat)).map fun(i:Nat)=>(i:Int)).filter fun x=>(w.dec x).isSome).take 16).foldl (fun u z=>u.send x.aR (Site.bD z ((w.dec z).getD []))) w:=by
  unfold Site.wanted
  dsimp only
  rw[hw]
 have hL:∀z∈((((range' x.slot.toNat ((eT w.lv).toNat-x.slot.toNat)).map fun(i:Nat)=>(i:Int)).filter fun x=>(w.dec x).isSome).take 16),w.dec z≠none:=fun z hz=>by
  have h1:=(mem_filter.1 (mem_of_mem_take hz)).2
  obtain⟨y,hy⟩:=Option.isSome_iff_exists.1 h1
  rw[hy];simp
 have D8:((((range' x.slot.toNat ((eT w.lv).toNat-x.slot.toNat)).map fun(i:Nat)=>(i:Int)).filter fun x=>(w.dec x).isSome).take 16).length≤16:=by rw[length_take];omega
 generalize ((((range' x.slot.toNat ((eT w.lv).toNat-x.slot.toNat)).map fun(i:Nat)=>(i:Int)).filter fun x=>(w.dec x).isSome).take 16)=L at e hL D8
 rw[Site.vh]at e
 have hwm:w.me=i:=hS.sm.me
 have hB:∀m∈(L.map fun z=>(Site.bD z ((w.dec z).getD [])).ad w.me x.aR),cj T E m∧m.aR=(i:Int)∧m.to=(c:Int)∧m.kind=7:=fun m hm=>by
  obtain⟨z,hz,rfl⟩:=mem_map.1 hm
  obtain⟨v,hv⟩:=fG (hL z hz)
  obtain⟨l1,l2,l3⟩:=hS.sm.lv z v hv
  rw[hv]
  exact⟨(mD l2 l3).ad _ _,by show(w.me:Int)=_;rw[hwm],Mj,rfl⟩
 rw[e]
 refine⟨hS.sm.ln fun m hm=>?_,fun m hm=>?_,?_⟩
 ·rcases mem_append.1 hm with hm|hm
  ·exact hS.sm.held m hm
  ·exact(hB m hm).1
 ·rcases mem_append.1 hm with hm|hm
  ·rcases hS.zq m hm with q|⟨q1,q2,q0,d,q3,q4⟩
   ·exact .inl q
   ·exact .inr ⟨q1,d,q3,q4,fun _=>⟨q0,.inl ⟨q2,.inr hk⟩⟩⟩
  ·obtain⟨-,b1,b2,b3⟩:=hB m hm
   exact .inr ⟨b1,c,Mg,b2,fun e=>absurd e Mh⟩
 ·obtain⟨k,k1,k2,k3⟩:=hS.uF
  refine⟨k,k1,by omega,fun P _=>?_⟩
  have q1:=P.JL x fk hk
  have q2:=P.wI (l:=L.map fun z=>(Site.bD z ((w.dec z).getD [])).ad w.me x.aR) (c:=P.c1) fun m' bw=>P.nv m' (.inr (.inr (.inr (hB m' bw).2.2.2)))
  rw[length_map]at q2
  have q3:P.c1*L.length≤P.c1*16:=Nat.mul_le_mul_left _ D8
  have q4:=P.zo (L.map fun z=>(Site.bD z ((w.dec z).getD [])).ad w.me x.aR)
  have hne:¬ x.aR=(i:Int):=by omega
  have q6:P.ind x=P.δ:=by unfold Pw.ind;rw[if_neg hne]
  have q7:P.sH x=P.w x:=by unfold Pw.sH;rw[if_neg hne]
  have q8:=k3 P
  have q9:P.V T ({w with held:=w.held++L.map fun z=>(Site.bD z ((w.dec z).getD [])).ad w.me x.aR} :Site)=P.V T w+P.hs (L.map fun z=>(Site.bD z ((w.dec z).getD [])).ad w.me x.aR):=by
   unfold Pw.V
   show P.pt T w+P.hs (w.held++_)=_
   rw[P.fg];omega
  rw[q9]
  omega
theorem Dj(h:Sm n T E i s)(hx:0≤x.slot∧x.slot<T)(hs:cj T E x)(fk:x.to=(i:Int))(hk:x.kind=2∨x.kind=4∨x.kind=6):Tq n T E i s (s.take x) x:=by
 have e0:s.take x=s.ct x:=by unfold Site.take;rw[if_neg (by omega)]
 rw[e0]
 rcases hk with hk|hk|hk
 ·have e1:s.ct x=s.eR x:=by unfold Site.ct;rw[if_neg (by omega),if_pos hk]
  rw[e1]
  unfold Site.eR
  split
  ·exact h.Eu fk hx (by simp)
  ·exact h.kA fk
 ·have e1:s.ct x=s.bT x:=by unfold Site.ct;rw[if_neg (by omega),if_neg (by omega),if_neg (by omega),if_pos hk]
  rw[e1];exact h.Wm hx hs fk hk
 ·have e1:s.ct x=s.accepted x:=by unfold Site.ct;rw[if_neg (by omega),if_neg (by omega),if_neg (by omega),if_neg (by omega),if_neg (by omega),if_pos hk]
  rw[e1];exact h.Wo hx fk
theorem ME(h:Sm n T E i s)(hroom:s.db.length+1000≤1048576)(hm:x.bL)(hs:cj T E x)(hg:x.eS n i):Tq n T E i s (s.take x) x:=by
 have fk:x.to=(i:Int):=hg.1
 by_cases Ew:x.kind=1∨x.kind=3∨x.kind=5
 ·have hx:=kJ hm hs (.inl (by omega))
  cases hd:s.dec x.slot with
  |some v=>
   have e:s.take x=s.send x.aR (Site.bD x.slot v):=by
    unfold Site.take
    rw[if_pos Ew,hd]
   obtain⟨l1,l2,l3⟩:=h.lv _ _ hd
   rw[e]
   exact(zr (k:=0) hg Ew h rfl rfl (fun _ h=>h) (by omega) (by omega) (mD l2 l3) (.inr (.inr (.inr rfl)))).1
  |none=>
   have e0:s.take x=s.ct x:=by
    unfold Site.take
    rw[if_pos Ew,hd]
   rw[e0]
   rcases Ew with hk|hk|hk
   ·have e1:s.ct x=s.dI x:=by unfold Site.ct;rw[if_pos hk]
    rw[e1]
    unfold Site.dI
    split
    case isFalse=>exact h.kA fk
    have ek:x.slot=((x.slot.toNat:Nat):Int):=by omega
    have hv:cj T E (Site.bB x.slot x.aC):=⟨fun _=>hx.2,hs.br,by simp[Site.bB],by simp[Site.bB]⟩
    cases hp:s.accept x.slot x.aC x.val with
    |none=>
     dsimp only
     rw[ek]
     exact(h.kA fk).skip ⟨0,by omega,by omega,fun P _=>by have:=P.pj fk;omega⟩ (.inl hk) (h.q_skip (by omega) (by omega))
    |some r=>
     dsimp only
     obtain⟨p1,p2,p3,p4,p5,p6,p7,p8⟩:=h.accept hx (zc hm hs) (rj hm) hs.val hp
     have ij:∀z,s.fresh z=false→r.fresh z=false:=fun z hz=>by
      by_cases c:s.dec z=none
      ·refine fM ?_
       rw[p8]
       split
       ·intro e;have:=congrArg Sp.so e;simp[Sp.zero]at this
       ·intro hz0
        rw[Site.bo.2 ⟨c,by rw[hz0];decide⟩]at hz;cases hz
      ·exact fx (by unfold Site.dec at c ⊢;rw[p5];exact c)
     obtain⟨b1,b2⟩:=zr (k:=1) hg (.inl hk) p1 p3 p4 ij p2 (Nat.le_refl _) hv (.inr (.inr (.inl rfl)))
     have b3:=b1.sm
     have b4:(r.send x.aR (Site.bB x.slot x.aC)).db.length≤s.db.length+16:=p2
     refine b1.skip b2 (.inl hk) ?_
     have:=b3.q_skip (tg:=x.slot.toNat) (by omega) (by omega)
     rw[←ek]at this
     exact this
   ·have e1:s.ct x=s.ed x:=by unfold Site.ct;rw[if_neg (by omega),if_neg (by omega),if_pos hk]
    rw[e1]
    unfold Site.ed
    split
    case isFalse=>exact h.kA fk
    cases hp:s.promise x.slot x.aC with
    |none=>exact h.kA fk
    |some r=>
     dsimp only
     obtain⟨p1,p2,p3,p4,p5,p6,p7,p8,p9⟩:=h.promise hx hs.br (rj hm) hp
     have hst:=p1.st x.slot
     have D6:cj T E (r.answer x.slot x.aC):=⟨fun _=>hx.2,hs.br,hst.2.1,hst.2.2.1⟩
     have ij:∀z,s.fresh z=false→r.fresh z=false:=fun z hz=>by
      by_cases c:s.dec z=none
      ·refine fM ?_
       rw[p8]
       split
       ·intro e;have:=congrArg (fun z:Sp=>z.p.r) e;simp[Sp.zero]at this;omega
       ·intro hz0
        rw[Site.bo.2 ⟨c,by rw[hz0];decide⟩]at hz;cases hz
      ·exact fx (by unfold Site.dec at c ⊢;rw[p5];exact c)
     exact(zr (k:=1) hg (.inr (.inl hk)) p1 p3 p4 ij p2 (Nat.le_refl _) D6 (.inr (.inl rfl))).1
   ·have e1:s.ct x=s.asked x:=by unfold Site.ct;rw[if_neg (by omega),if_neg (by omega),if_neg (by omega),if_neg (by omega),if_pos hk]
    rw[e1]
    unfold Site.asked
    split
    case isFalse=>exact h.kA fk
    have hv:cj T E (Site.bB x.slot x.aC):=⟨fun _=>hx.2,hs.br,by simp[Site.bB],by simp[Site.bB]⟩
    cases hp:s.accept x.slot x.aC x.val with
    |none=>exact h.kA fk
    |some r=>
     dsimp only
     obtain⟨p1,p2,p3,p4,p5,p6,p7,p8⟩:=h.accept hx (zc hm hs) (rj hm) hs.val hp
     have ij:∀z,s.fresh z=false→r.fresh z=false:=fun z hz=>by
      by_cases c:s.dec z=none
      ·refine fM ?_
       rw[p8]
       split
       ·intro e;have:=congrArg Sp.so e;simp[Sp.zero]at this
       ·intro hz0
        rw[Site.bo.2 ⟨c,by rw[hz0];decide⟩]at hz;cases hz
      ·exact fx (by unfold Site.dec at c ⊢;rw[p5];exact c)
     exact(zr (k:=1) hg (.inr (.inr hk)) p1 p3 p4 ij p2 (Nat.le_refl _) hv (.inr (.inr (.inl rfl)))).1
 ·have e0:s.take x=s.ct x:=by unfold Site.take;rw[if_neg Ew]
  rw[e0]
  have xn:=hm.kind
  by_cases ady:x.kind=2∨x.kind=4∨x.kind=6
  ·rw[←e0]
   exact h.Dj (kJ hm hs (.inl (by omega))) hs fk ady
  by_cases h7:x.kind=7
  ·have e1:s.ct x=s.gr x:=by unfold Site.ct;rw[if_neg (by omega),if_neg (by omega),if_neg (by omega),if_neg (by omega),if_neg (by omega),if_neg (by omega),if_pos h7]
   rw[e1]
   unfold Site.gr
   split
   ·exact h.Eu fk (kJ hm hs (.inl (by omega))) hs.val
   ·exact h.kA fk
  ·have h8:x.kind=8:=by omega
   have e1:s.ct x=s.wanted x:=by unfold Site.ct;rw[if_neg (by omega),if_neg (by omega),if_neg (by omega),if_neg (by omega),if_neg (by omega),if_neg (by omega),if_neg (by omega),if_pos h8]
   rw[e1];exact h.Wp hroom hm hs hg h8
end Sm
def HK(n i:Nat)(K:Int→Prop)(l:List Ms):Prop:=∀m∈l,m.aR=(i:Int)∧∃c:Nat,c<n∧m.to=(c:Int)∧(c=i→0≤m.slot∧K m.kind)
def ia(k:Int):Prop:=k=2∨k=4∨k=6
theorem HK.mono{n i:Nat}{K K':Int→Prop}{l:List Ms}(h:HK n i K l)(hk:∀m∈l,m.to=(i:Int)→K m.kind→K' m.kind):HK n i K' l:=fun m hm=>by
 obtain⟨a,c,c1,c2,c3⟩:=h m hm
 exact⟨a,c,c1,c2,fun e=>⟨(c3 e).1,hk m hm (by rw[c2,e]) (c3 e).2⟩⟩
theorem HK.own{n i:Nat}{K:Int→Prop}{l:List Ms}(h:HK n i K l){m:Ms}(hm:m∈l)(ht:m.to=(i:Int)):m.aR=(i:Int)∧0≤m.slot∧K m.kind:=by
 obtain⟨a,c,c1,c2,c3⟩:=h m hm
 have:=c3 (by omega)
 exact⟨a,this⟩
theorem HK.fB{n i:Nat}{K:Int→Prop}{l:List Ms}(h:HK n i K l){m:Ms}(hm:m∈l)(ht:m.to≠(i:Int))(hi:i<n):∃c:Nat,c<n∧m.eS n c:=by
 obtain⟨a,c,c1,c2,-⟩:=h m hm
 exact⟨c,c1,c2,i,hi,fun e=>ht (by rw[c2,e]),a⟩
theorem Pw.MF{n i:Nat}(P:Pw n i)(l:List Ms):P.ws (l.filter fun m=>decide (m.to≠(i:Int)))=P.hs l:=by
 induction l with
 |nil=>rfl
 |cons m l ih=>
  have h1:P.hs (m::l)=P.hw m+P.hs l:=by simp[Pw.hs]
  rw[h1,filter_cons]
  by_cases c:m.to=(i:Int)
  ·rw[if_neg (by simp[c]),ih]
   unfold Pw.hw;rw[if_pos c];omega
  ·rw[if_pos (by simp[c])]
   have h2:P.ws (m::l.filter fun m=>decide (m.to≠(i:Int)))=P.w m+P.ws (l.filter fun m=>decide (m.to≠(i:Int))):=by simp[Pw.ws]
   rw[h2,ih]
   unfold Pw.hw;rw[if_neg c]
namespace Sm
variable {n T E i:Nat} {s t u:Site} {x:Ms}
theorem MG:∀(l:List Ms){s:Site},Sm n T E i s→(∀x∈l,cj T E x∧x.to=(i:Int)∧x.aR=(i:Int)∧0≤x.slot∧ia x.kind)→
  Sm n T E i (l.foldl Site.take s)∧(∀m∈(l.foldl Site.take s).held,m∈s.held∨m.aR=(i:Int)∧∃c:Nat,c<n∧m.to=(c:Int)∧(c=i→0≤m.slot∧m.kind=6∧∃x∈l,x.kind=4))∧
   ∃k,(l.foldl Site.take s).db.length≤s.db.length+16*k∧∀P:Pw n i,(∀z,P.A z=true)→P.V T (l.foldl Site.take s)+P.ρ*k≤P.V T s
 |[],s,h,_=>⟨h,fun m hm=>.inl hm,0,by simp,fun P _=>by simp⟩
 |x::l,s,h,hl=>by
  obtain⟨x1,x2,x3,x4,x5⟩:=hl x (by simp)
  have hx:0≤x.slot∧x.slot<T:=⟨x4,x1.slot (.inl (by unfold ia at x5;omega))⟩
  have q:=h.Dj hx x1 x2 x5
  obtain⟨r1,r2,k,r3,r4⟩:=MG l q.sm fun y hy=>hl y (by simp[hy])
  obtain⟨k0,p1,-,p2⟩:=q.uF
  rw[foldl_cons]
  refine⟨r1,fun m hm=>?_,k0+k,by omega,fun P hA=>?_⟩
  ·rcases r2 m hm with hm|⟨a,c,c1,c2,c3⟩
   ·rcases q.zq m hm with hm|⟨a,c,c1,c2,c3⟩
    ·exact .inl hm
    ·refine .inr ⟨a,c,c1,c2,fun e=>?_⟩
     obtain⟨d1,d2⟩:=c3 e
     unfold ia at x5
     rcases d2 with⟨-,d2⟩|⟨d2,d3⟩
     ·omega
     ·exact⟨d1,d2,x,by simp,d3⟩
   ·refine .inr ⟨a,c,c1,c2,fun e=>?_⟩
    obtain⟨d1,d2,y,d3,d4⟩:=c3 e
    exact⟨d1,d2,y,by simp[d3],d4⟩
  ·have e1:=p2 P hA
   have e2:=r4 P hA
   have e3:P.ind x=0:=by unfold Pw.ind;rw[if_pos x3]
   have e4:P.sH x=0:=by unfold Pw.sH;rw[if_pos x3]
   have e5:P.ρ*(k0+k)=P.ρ*k0+P.ρ*k:=Nat.mul_add _ _ _
   omega
theorem Ex(h:Sm n T E i s){K:Int→Prop}(hk:HK n i K s.held)(hK:∀m∈s.held,m.to=(i:Int)→ia m.kind) :
  Sm n T E i s.sync.1∧HK n i (fun k=>k=6∧∃m∈s.held,m.to=(i:Int)∧m.kind=4) s.sync.1.held∧((∀m∈s.held,m.to≠(i:Int))→s.sync.1.held= [])∧(s.sync.2=s.held.filter fun m=>decide (m.to≠(i:Int)))∧
   (s.sync.1.wt=s.wt∧s.sync.1.taken=s.taken)∧∃k,s.sync.1.db.length≤s.db.length+16*k∧∀P:Pw n i,(∀z,P.A z=true)→P.V T s.sync.1+P.ws s.sync.2+P.ρ*k≤P.V T s:=by
 have hwt:=Site.Ij s
 obtain⟨s0,hs0⟩:∃s0,s0=({s with dn:=s.db.length,held:=[]} :Site):=⟨_,rfl⟩
 have h0:Sm n T E i s0:=by rw[hs0];exact h.hold (fun m hm=>by cases hm) _
 have e:s.sync=((s.held.filter fun m=>decide (m.to=(i:Int))).foldl Site.take s0,s.held.filter fun m=>decide (m.to≠(i:Int))):=by
  unfold Site.sync
  rw[if_neg (by rw[h.up];simp),←hs0,h.me]
 obtain⟨r1,r2,k,r3,r4⟩:=MG (s.held.filter fun m=>decide (m.to=(i:Int))) h0 fun y hy=>by
  obtain⟨y1,y2⟩:=mem_filter.1 hy
  have y2:=of_decide_eq_true y2
  obtain⟨a,b,c⟩:=hk.own y1 y2
  exact⟨h.held y y1,y2,a,b,hK y y1 y2⟩
 rw[e]at hwt ⊢
 dsimp only at hwt ⊢
 refine⟨r1,fun m hm=>?_,fun hn=>?_,rfl,⟨hwt.1,hwt.2.2⟩,k,by
  have e4:s0.db=s.db:=by rw[hs0]
  rw[e4]at r3;exact r3,fun P hA=>?_⟩
 ·rcases r2 m hm with hm|⟨a,c,c1,c2,c3⟩
  ·rw[hs0]at hm;cases hm
  ·refine⟨a,c,c1,c2,fun e=>?_⟩
   obtain⟨d1,d2,y,d3,d4⟩:=c3 e
   obtain⟨y1,y2⟩:=mem_filter.1 d3
   exact⟨d1,d2,y,y1,of_decide_eq_true y2,d4⟩
 ·have:(s.held.filter fun m=>decide (m.to=(i:Int)))= []:=filter_eq_nil_iff.2 fun m hm hd=>hn m hm (of_decide_eq_true hd)
  rw[this,hs0];rfl
 ·have q1:=r4 P hA
  rw[P.MF]
  have q2:P.V T s0=P.pt T s:=by rw[hs0];exact Nat.add_zero _
  unfold Pw.V at q1 q2 ⊢
  omega
end Sm
structure Wq(n T E i:Nat)(s t:Site)(N:List Ms):Prop where
 sm:Sm n T E i t
 held:t.held=s.held++N
 hk:HK n i (fun k=>k=2∨k=4) N
 four:∀m∈N,m.to=(i:Int)→m.kind=4→∀r,aD m.slot t.rs=some r→r.pr= []
 nd:(((N.filter fun m=>decide (m.to=(i:Int))).filter fun m=>decide (m.kind=4)).map Ms.slot).Nodup
 wt:t.wt=cC s.me s.wt s.n∧t.taken=s.taken
 uF:∃k,t.db.length≤s.db.length+16*k∧k≤16∧∀(P:Pw n i)(a b:Nat),(∀m:Ms,m.kind=1∨m.kind=3∨m.kind=5→P.w m≤a)→(∀m:Ms,m.kind=8→P.w m≤b)→P.V T t+P.ρ*k≤P.V T s+(96*a+6*b+8*(P.tF+P.ρ))
theorem Pw.wK{n i:Nat}(P:Pw n i){s:Site}{m:Ms}{a:Nat}(ca:s.me=i)(hi:i<n)(h7:n≤7)(h:∀c:Int,P.w (m.ad s.me c)≤a):P.hs (s.tell m n)≤6*a:=by
 have h1:=P.zo (s.tell m n)
 have h2:=P.wI (l:=s.tell m n) (c:=a) fun m' hm=>by
  obtain⟨c,-,-,rfl⟩:=Site.dH.1 hm
  exact h _
 have h3:=Site.tB (s:=s) (m:=m) (n:=n) (by omega) h7
 have h4:a*(s.tell m n).length≤a*6:=Nat.mul_le_mul_left _ h3
 omega
namespace Sm
variable {n T E i:Nat} {s t u v:Site}
theorem TJ(h:Sm n T E i s)(w:List Int)(hw:w.length=7):Sm n T E i {s with wt:=w,rs:=cD Rn.ie s.rs,held:=s.held++(s.rs.take 8).flatMap fun e=>s.tell (Site.asks e.2 e.1) n}:=by
 have hs:=Im Rn.ie s.rs h.kz
 refine⟨h.me,h.nn,h.lt,h.n3,h.n7,h.T6,h.E1,h.pat,h.up,h.nx,hw,h.st,h.lv,fun x r hr=>?_,qy hs,hs,h.used,h.top,fun m hm=>?_⟩
 ·have hr:aD x (cD Rn.ie s.rs)=some r:=hr
  rw[eB]at hr
  obtain⟨r0,h0,rfl⟩:=Option.map_eq_some_iff.1 hr
  obtain⟨a1,a2,a3,a4,a5,a6,a7,a8,a9,VK⟩:=h.rs x r0 h0
  exact⟨a1,a2,a3,a4,a5,a6,a7,a8,a9,VK⟩
 rcases mem_append.1 hm with hm|hm
 ·exact h.held m hm
 ·obtain⟨e,he,hm⟩:=mem_flatMap.1 hm
  obtain⟨c,c1,c2,rfl⟩:=Site.dH.1 hm
  have hr:=h.rs e.1 e.2 (h.mb e (mem_of_mem_take he))
  refine cj.ad ?_ _ _
  have h1:=hr.x0;have h2:=hr.br;have h3:=hr.b
  unfold Site.asks
  split
  ·exact⟨fun _=>h1.2,h2.2,h2.2,h3⟩
  ·exact⟨fun _=>h1.2,h2.2,by show(0:Int)≤E;omega,by simp⟩
theorem zt{α:Type}(p:α→Bool)(c:Nat):∀l:List α,(l.map fun z=>if p z then c else 0).sum≤c*l.length
 |[]=>by simp
 |z::l=>by
  have:=zt p c l
  rw[map_cons,sum_cons,length_cons,Nat.mul_succ]
  split<;>omega
theorem MH(h:Sm n T E i s){E':Nat}(eI:E≤E')(hE:E'≤126)(xp:∀x,0≤(s.stat x).p.r)(dF:∀x,(s.stat x).p.r+1≤E')(hroom:s.db.length+2000≤1048576):∃N,Wq n T E' i s s.tick N:=by
 have hT:=h.T6;have h7:=h.n7;have h3:=h.n3;have hlt:=h.lt;have hn:=h.nn;have ca:=h.me;have uG:=h.nx
 obtain⟨A0,A1⟩:=h.lO
 obtain⟨tg,sw⟩:∃tg:Nat,s.bF=(tg:Int):=⟨s.bF.toNat,by omega⟩
 obtain⟨w1,dC⟩:∃w1,w1=cC s.me s.wt s.n:=⟨_,rfl⟩
 obtain⟨A,hA⟩:∃A,A=(s.rs.take 8).flatMap fun e=>s.tell (Site.asks e.2 e.1) n:=⟨_,rfl⟩
 obtain⟨s1,hs1⟩:∃s1,s1=({s with wt:=w1,rs:=cD Rn.ie s.rs,held:=s.held++A} :Site):=⟨_,rfl⟩
 have VL:s.ju=s1:=by
  unfold Site.ju Site.again
  rw[Site.rW]
  subst dC hA hs1
  show({s with wt:=cC s.me s.wt s.n,rs:=cD Rn.ie s.rs,held:=s.held++(s.rs.take 8).flatMap fun e=>s.tell (Site.asks e.2 e.1) s.n} :Site)=_
  rw[←hn]
 have h1:Sm n T E i s1:=by
  rw[hs1,hA]
  exact h.TJ w1 (by rw[dC,rm];exact h.pM)
 have xq:∀x,s1.dec x=s.dec x:=fun x=>by rw[hs1];rfl
 have Ed:∀x,s1.stat x=s.stat x:=fun x=>by rw[hs1];rfl
 have Px:s1.bF=(tg:Int):=by rw[←sw,hs1];rfl
 have jX:=h1.nn;have pC:=h1.me;have ado:=h1.nx
 have yj:s1.db=s.db:=by rw[hs1]
 obtain⟨ys,hs,hlen⟩:=Site.mI tg (by omega) 4098 0 s1 (by omega) (by omega) (by omega) (by omega) (by omega) (by omega) (by rw[yj];omega) (fun y _ _=>by omega)
 have Ws:=h1.q_skip (tg:=tg) (by omega) (by rw[yj];omega)
 have nF:=(cG 4098 0 s1 (tg:Int) h1 (by omega)).pd (E':=E') eI hE
 have xr:s.ck=Site.cG 4098 0 s1 (tg:Int):=by
  show s.ju.skip s.ju.bF=_
  rw[VL,Px];rfl
 rw[show s1.skip (tg:Int)=Site.cG 4098 0 s1 (tg:Int)from rfl]at Ws
 obtain⟨s3,hs3⟩:=bk (Site.cG 4098 0 s1 (tg:Int))
 rw[hs3]at hs nF xr Ws
 have oj:s1.bQ=⟨0,(i:Int)⟩:=by unfold Site.bQ;rw[pC]
 have jf:=hs.held
 rw[oj,jX,pC]at jf
 have pe:∀x,s3.dec x=s.dec x:=fun x=>by rw[←xq];unfold Site.dec;rw[hs.lv]
 have pD:s3.me=i:=nF.me
 have Ee:s3.lv=s.lv:=by rw[hs.lv,hs1]
 have rn:s3.bF=(tg:Int):=by
  have q1:=hs.top
  have q2:s1.top=s.top:=by rw[hs1]
  rw[q2]at q1
  unfold Site.bF at sw ⊢
  rw[Ee]
  omega
 obtain⟨zs,hzs⟩:=bk (s3.late s3.bF)
 have Ml:zs.length≤8:=by rw[←hzs];unfold Site.late;rw[length_take];omega
 have AG:zs.Nodup:=by
  rw[←hzs]
  unfold Site.late
  have om:((range' s3.front (s3.bF.toNat-s3.front)).map fun(i:Nat)=>(i:Int)).Nodup:=pairwise_map.2 ((nodup_range' (s:=s3.front) (n:=s3.bF.toNat-s3.front)).imp fun pP he=>pP (by omega))
  exact om.sublist ((take_sublist _ _).trans filter_sublist)
 have yk:∀z∈zs,0≤z∧z<(tg:Int)∧s.dec z=none:=fun z hz=>by
  rw[←hzs]at hz
  have q1:=Site.sE _ hz
  rw[rn]at q1
  refine⟨q1.1,q1.2,?_⟩
  have q2:=(mem_filter.1 (mem_of_mem_take hz)).2
  unfold Site.due at q2
  rw[Bool.and_eq_true,Bool.and_eq_true]at q2
  have q3:=q2.1.1
  rw[pe]at q3
  cases hc:s.dec z with
  |none=>rfl
  |some w=>rw[hc]at q3;cases q3
 have jP:∀z,0≤(s3.low z).r∧(s3.low z).r+1≤E':=fun z=>by
  have ee:=xp z
  have fR:=dF z
  have hb1:0≤(s3.stat z).p.r∧(s3.stat z).p.r+1≤E':=by
   rw[hs.st]
   split
   ·unfold Site.ou
    rw[oj]
    show(0:Int)≤0∧(0:Int)+1≤_
    omega
   ·rw[Ed];omega
  rcases(s3.sD z).2 with e|⟨r,hr,e⟩
  ·rw[e];exact hb1
  ·rw[e]
   rw[hs.rs]at hr
   have q1:=h1.rs z r hr
   have q2:=q1.low
   rw[Ed]at q2
   have q3:¬ (s.stat z).p.r<r.aC.r:=fun hl=>q2 (by unfold Bl.lt;omega)
   have:=q1.br.1
   omega
 have adp:s3.db.length≤s.db.length+16*ys.length:=by rw[←yj];exact hs.db
 obtain⟨jQ,fb⟩:=nF.nC zs AG (fun z hz=>by
  obtain⟨q1,q2,q3⟩:=yk z hz
  exact⟨⟨q1,by omega⟩,by rw[pe];exact q3,(jP z).1,(jP z).2⟩) (by omega)
 have BL:s.gX=zs.foldl Site.cK s3:=by
  show(s.ck.late s.ck.bF).foldl Site.cK s.ck=_
  rw[xr,hzs]
 obtain⟨s4,yR⟩:=bk (zs.foldl Site.cK s3)
 rw[yR]at jQ fb BL
 have Ef:s4.me=i:=jQ.me
 have VM:s4.n=n:=jQ.nn
 obtain⟨K,hK⟩:∃K,K=(if s4.front<4096 then s4.tell (Site.dT s4.front (decide ((s4.front:Int)<s3.bF))) n else[]):=⟨_,rfl⟩
 have JR:s.tick= {s4 with held:=s4.held++K}:=by
  rw[Site.qi _ h.up,BL,xr,hK]
  by_cases c:s4.front<4096
  ·rw[if_pos c,if_pos c,Site.bH,VM]
  ·rw[if_neg c,if_neg c,append_nil]
 have R7:∀m∈K,∃c:Nat,c<n∧c≠i∧m=(Site.dT s4.front (decide ((s4.front:Int)<s3.bF))).ad i c:=fun m hm=>by
  rw[hK]at hm
  split at hm
  ·obtain⟨c,c1,c2,rfl⟩:=Site.dH.1 hm
   rw[Ef]at c2 ⊢
   exact⟨c,c1,c2,rfl⟩
  ·cases hm
 obtain⟨S,BM⟩:∃S,S=(ys.flatMap fun(y:Nat)=>s1.tell (Site.bt y ⟨0,(i:Int)⟩) n++[(Site.bt y ⟨0,(i:Int)⟩).ad i i]):=⟨_,rfl⟩
 obtain⟨B,Eh⟩:∃B,B=(zs.flatMap fun z=>s3.tell (Site.gF z (s3.nb z)) n++[(s3.answer z (s3.nb z)).ad i i]):=⟨_,rfl⟩
 have MI:s3.held=s.held++A++S:=by
  rw[jf,BM]
  congr 1
  rw[hs1]
 have zh:s4.held=s.held++A++S++B:=by
  rw[fb.held,MI,Eh]
 obtain⟨b1,-⟩:=yi s3 i n pD (fun z=>Site.gF z (s3.nb z)) (fun z=>s3.answer z (s3.nb z)) zs
 rw[←Eh]at b1
 have Wt:∀m∈A,m.aR=(i:Int)∧∃c:Nat,c<n∧c≠i∧m.to=(c:Int):=fun m hm=>by
  rw[hA]at hm
  obtain⟨e,he,hm⟩:=mem_flatMap.1 hm
  obtain⟨c,c1,c2,rfl⟩:=Site.dH.1 hm
  exact⟨by show(s.me:Int)=_;rw[ca],c,c1,by rw[←ca];exact c2,rfl⟩
 have Wu:∀m∈S,m.aR=(i:Int)∧m.kind=2∧0≤m.slot∧∃c:Nat,c<n∧m.to=(c:Int):=fun m hm=>by
  rw[BM]at hm
  obtain⟨y,hy,hm⟩:=mem_flatMap.1 hm
  rcases mem_append.1 hm with hm|hm
  ·obtain⟨c,c1,c2,rfl⟩:=Site.dH.1 hm
   exact⟨by show(s1.me:Int)=_;rw[pC],rfl,by show(0:Int)≤(y:Int);omega,c,c1,rfl⟩
  ·rw[mem_singleton]at hm;subst hm
   exact⟨rfl,rfl,by show(0:Int)≤(y:Int);omega,i,hlt,rfl⟩
 have hBm:∀m∈B,m.aR=(i:Int)∧∃c:Nat,c<n∧m.to=(c:Int)∧(c=i→m.kind=4∧m.slot∈zs):=fun m hm=>by
  rw[Eh]at hm
  obtain⟨z,hz,hm⟩:=mem_flatMap.1 hm
  rcases mem_append.1 hm with hm|hm
  ·obtain⟨c,c1,c2,rfl⟩:=Site.dH.1 hm
   exact⟨by show(s3.me:Int)=_;rw[pD],c,c1,rfl,fun e=>absurd e (by rw[←pD];exact c2)⟩
  ·rw[mem_singleton]at hm;subst hm
   exact⟨rfl,i,hlt,rfl,fun _=>⟨rfl,hz⟩⟩
 rw[JR]
 refine⟨A++S++B++K,⟨jQ.ln fun m hm=>?_,by rw[zh];simp only[append_assoc],fun m hm=>?_,fun m hm ht hk r hr=>?_,?_,?_,?_⟩⟩
 ·rcases mem_append.1 hm with hm|hm
  ·exact jQ.held m hm
  ·obtain⟨c,c1,c2,rfl⟩:=R7 m hm
   have qE:=jQ.lO
   refine cj.ad ⟨fun hk=>?_,?_,?_,by simp[Site.dT]⟩ _ _
   ·rcases hk with hk|hk
    ·exact absurd rfl hk
    ·have hk:=of_decide_eq_true hk
     rw[rn]at hk
     show(s4.front:Int)<T
     omega
   ·show(0:Int)≤E';omega
   ·show(0:Int)≤E';omega
 ·simp only[mem_append]at hm
  rcases hm with((hm|hm)|hm)|hm
  ·obtain⟨a,c,c1,c2,c3⟩:=Wt m hm
   exact⟨a,c,c1,c3,fun e=>absurd e c2⟩
  ·obtain⟨a,k2,k3,c,c1,c3⟩:=Wu m hm
   exact⟨a,c,c1,c3,fun _=>⟨k3,.inl k2⟩⟩
  ·obtain⟨a,c,c1,c3,c4⟩:=hBm m hm
   exact⟨a,c,c1,c3,fun e=>⟨(yk _ (c4 e).2).1,.inr (c4 e).1⟩⟩
  ·obtain⟨c,c1,c2,rfl⟩:=R7 m hm
   exact⟨rfl,c,c1,rfl,fun e=>absurd e c2⟩
 ·have hz:m.slot∈zs:=by
   simp only[mem_append]at hm
   rcases hm with((hm|hm)|hm)|hm
   ·obtain⟨a,c,c1,c2,c3⟩:=Wt m hm;omega
   ·have:=(Wu m hm).2.1;omega
   ·obtain⟨a,c,c1,c3,c4⟩:=hBm m hm
    exact(c4 (by omega)).2
   ·obtain⟨c,c1,c2,rfl⟩:=R7 m hm
    have ht:(c:Int)=(i:Int):=ht
    omega
  have hr:aD m.slot s4.rs=some r:=hr
  rw[fb.rs,if_pos hz]at hr
  injection hr with hr
  rw[←hr]
 ·have f1:(A++S++B++K).filter (fun m=>decide (m.to=(i:Int)))=S.filter (fun m=>decide (m.to=(i:Int)))++zs.map (fun z=>(s3.answer z (s3.nb z)).ad i i):=by
   rw[filter_append,filter_append,filter_append,(kK (l:=A) fun m hm=>by obtain⟨a,c,c1,c2,c3⟩:=Wt m hm;omega).1,(kK (l:=K) fun m hm=>by obtain⟨c,c1,c2,rfl⟩:=R7 m hm;show(c:Int)≠_;omega).1,b1,nil_append,append_nil]
  rw[f1,filter_append,filter_eq_nil_iff.2 fun m hm hd=>by
   have h2:=(Wu m (mem_filter.1 hm).1).2.1
   have hd:=of_decide_eq_true hd
   omega,nil_append,filter_eq_self.2 fun m hm=>by
   obtain⟨z,-,rfl⟩:=mem_map.1 hm
   exact dJ rfl,map_map]
  have e:zs.map (Ms.slot ∘ fun z=>(s3.answer z (s3.nb z)).ad i i)=zs:=by
   have:(Ms.slot ∘ fun z=>(s3.answer z (s3.nb z)).ad i i)=id:=rfl
   rw[this,map_id]
  rw[e];exact AG
 ·have k1:=hs.gj
  have k2:=fb.gj
  refine⟨?_,?_⟩
  ·show s4.wt=_
   rw[k2.wt,k1.wt,hs1,dC]
  ·show s4.taken=_
   rw[k2.taken,k1.taken,hs1]
 ·obtain⟨k,k1,k2,k3⟩:=Ws.uF
  have ahC:=fb.db
  rw[yj]at k1
  refine⟨k+zs.length,by show s4.db.length≤_;omega,by omega,fun P a b ha hb=>?_⟩
  have q1:=k3 P
  have q2:P.V T s1≤P.V T s+48*a:=by
   have e1:P.tok s1=P.tok s:=P.Io s s1 (by rw[hs1])
   have e2:jh n T i s1=jh n T i s:=by rw[hs1];rfl
   have e3:P.hs A≤48*a:=by
    rw[hA]
    have h8:(s.rs.take 8).length≤8:=by rw[length_take];omega
    have key:∀l:List (Int × Rn),P.hs (l.flatMap fun e=>s.tell (Site.asks e.2 e.1) n)≤6*a*l.length:=by
     intro l
     induction l with
     |nil=>exact Nat.le_refl _
     |cons e l ih=>
      rw[flatMap_cons,P.fg,length_cons,Nat.mul_succ]
      have:=P.wK (s:=s) (m:=Site.asks e.2 e.1) (a:=a) ca hlt h7 fun c=>ha _ (by
       have:=vq e.2 e.1
       show(Site.asks e.2 e.1).kind=1∨(Site.asks e.2 e.1).kind=3∨(Site.asks e.2 e.1).kind=5
       omega)
      omega
    have:=key (s.rs.take 8)
    have h9:6*a*(s.rs.take 8).length≤6*a*8:=Nat.mul_le_mul_left _ h8
    omega
   have e4:s1.held=s.held++A:=by rw[hs1]
   unfold Pw.V Pw.pt
   rw[e1,e2,e4,P.fg]
   omega
  have q3:P.hs B≤48*a:=by
   rw[Eh]
   have key:∀l:List Int,P.hs (l.flatMap fun z=>s3.tell (Site.gF z (s3.nb z)) n++[(s3.answer z (s3.nb z)).ad i i])≤6*a*l.length:=by
    intro l
    induction l with
    |nil=>exact Nat.le_refl _
    |cons z l ih=>
     rw[flatMap_cons,P.fg,P.fg,P.vy,length_cons,Nat.mul_succ]
     have h1:=P.wK (s:=s3) (m:=Site.gF z (s3.nb z)) (a:=a) pD hlt h7 fun c=>ha _ (.inr (.inl rfl))
     have h2:P.hw ((s3.answer z (s3.nb z)).ad i i)=0:=if_pos rfl
     omega
   have:=key zs
   have h9:6*a*zs.length≤6*a*8:=Nat.mul_le_mul_left _ Ml
   omega
  have q4:P.hs K≤6*b:=by
   rw[hK]
   split
   ·exact P.wK Ef hlt h7 fun c=>hb _ rfl
   ·rw[P.qH];omega
  have q5:=fb.tok P
  have q6:(zs.map fun z=>if P.A z then P.tF else 0).sum≤P.tF*zs.length:=zt P.A P.tF zs
  have q7:P.tF*zs.length≤P.tF*8:=Nat.mul_le_mul_left _ Ml
  have q8:=mf (n:=n) (T:=T) (i:=i) (s:=s3) (t:=s4) (ys:=[]) (fun k hk=>by
   obtain⟨f1,f2⟩:=Site.bo.1 hk
   refine Site.bo.2 ⟨by unfold Site.dec at f1 ⊢;rw[←fb.lv];exact f1,?_⟩
   rw[fb.st]at f2
   split at f2
   ·have:=congrArg (fun z:Sp=>z.p.r) (Site.js f2)
    have h1:=(jP (k:Int)).1
    have h2:(s3.nb (k:Int)).r=(s3.low (k:Int)).r+1:=rfl
    simp[Sp.zero]at this;omega
   ·exact f2) nodup_nil (fun y hy=>by cases hy)
  rw[length_nil,Nat.add_zero]at q8
  have q9:=Nat.mul_le_mul_left P.φ q8
  have vr:P.V T ({s4 with held:=s4.held++K} :Site)=P.tok s4+P.φ*jh n T i s4+(P.hs s3.held+P.hs B+P.hs K):=by
   unfold Pw.V
   show P.pt T s4+P.hs (s4.held++K)=_
   rw[P.fg,zh,P.fg,MI]
   unfold Pw.pt;omega
  have Ir:P.ρ*(k+zs.length)=P.ρ*k+P.ρ*zs.length:=Nat.mul_add _ _ _
  have VU:P.ρ*zs.length≤P.ρ*8:=Nat.mul_le_mul_left _ Ml
  have jd:P.V T s3=P.tok s3+P.φ*jh n T i s3+P.hs s3.held:=rfl
  have q14:8*(P.tF+P.ρ)=P.tF*8+P.ρ*8:=by rw[Nat.mul_add,Nat.mul_comm 8,Nat.mul_comm 8]
  rw[vr,q14]
  omega
end Sm
namespace Sm
variable {n T E i:Nat} {s t u v:Site} {x:Ms}
theorem PI(h:Sm n T E i u)(hx:0≤x.slot∧x.slot<T)(hs:cj T E x)(fk:x.to=(i:Int))(hk:ia x.kind)(h4:x.kind=4→∀r,aD x.slot u.rs=some r→r.pr= []) :
  (∀m∈(u.take x).held,m∈u.held∨m.to≠(i:Int))∧(x.kind≠6→(u.take x).held=u.held)∧∀z r',aD z (u.take x).rs=some r'→x.kind=4∧z=x.slot∨∃r0,aD z u.rs=some r0∧r'.pr=r0.pr:=by
 have h3:=h.n3;have h7:=h.n7;have hn:=h.nn
 have q:=h.Dj hx hs fk hk
 have e0:u.take x=u.ct x:=by unfold Site.take;unfold ia at hk;rw[if_neg (by omega)]
 have Wv:x.kind≠4→∀m∈(u.take x).held,m∈u.held∨m.to≠(i:Int):=fun hne m hm=>by
  rcases q.zq m hm with hm|⟨a,c,c1,c2,c3⟩
  ·exact .inl hm
  ·right
   intro e
   have:=(c3 (by omega)).2
   unfold ia at hk
   omega
 rcases hk with hk|hk|hk
 ·have e1:u.ct x=u.eR x:=by unfold Site.ct;rw[if_neg (by omega),if_pos hk]
  have hd:∀v:List UInt8,(u.aX x.slot v).held=u.held∧∀z r',aD z (u.aX x.slot v).rs=some r'→aD z u.rs=some r':=fun v=>by
   unfold Site.aX
   split
   ·refine⟨rfl,fun z r' hr=>?_⟩
    have hr:aD z (bY x.slot u.rs)=some r':=hr
    rw[gm]at hr
    split at hr
    ·cases hr
    ·exact hr
   ·exact⟨rfl,fun z r' hr=>hr⟩
  refine⟨Wv (by omega),fun _=>?_,fun z r' hr=>?_⟩
  ·rw[e0,e1]
   unfold Site.eR
   split
   ·exact(hd _).1
   ·rfl
  ·rw[e0,e1]at hr
   unfold Site.eR at hr
   split at hr
   ·exact .inr ⟨r',(hd _).2 z r' hr,rfl⟩
   ·exact .inr ⟨r',hr,rfl⟩
 ·have e1:u.ct x=u.bT x:=by unfold Site.ct;rw[if_neg (by omega),if_neg (by omega),if_neg (by omega),if_pos hk]
  have key:(u.bT x).held=u.held∧∀z r',aD z (u.bT x).rs=some r'→z=x.slot∨∃r0,aD z u.rs=some r0∧r'.pr=r0.pr:=by
   unfold Site.bT
   cases hr:aD x.slot u.rs with
   |none=>exact⟨rfl,fun z r' hr=>.inr ⟨r',hr,rfl⟩⟩
   |some r=>
    dsimp only
    split
    ·have o0:=h4 hk r hr
     have hch:dM (r.pr++[(⟨x.aR,x.some_,x.had,x.val⟩:Pm)]) u.n=none:=by
      unfold dM
      rw[o0,hn]
      have:fN (([]++[(⟨x.aR,x.some_,x.had,x.val⟩:Pm)]).map Pm.f) n=false:=yh h3 h7 x.aR
      rw[this];rfl
     rw[hch]
     dsimp only
     refine⟨rfl,fun z r' hz=>?_⟩
     have hz:aD z (aT x.slot _ u.rs)=some r':=hz
     rw[cO]at hz
     split at hz
     ·rename_i e;exact .inl e.symm
     ·exact .inr ⟨r',hz,rfl⟩
    ·exact⟨rfl,fun z r' hr=>.inr ⟨r',hr,rfl⟩⟩
  rw[e0,e1]
  exact⟨fun m hm=>.inl (by rw[←key.1];exact hm),fun _=>key.1,fun z r' hr=>(key.2 z r' hr).imp (fun e=>⟨hk,e⟩) id⟩
 ·have e1:u.ct x=u.accepted x:=by unfold Site.ct;rw[if_neg (by omega),if_neg (by omega),if_neg (by omega),if_neg (by omega),if_neg (by omega),if_pos hk]
  refine⟨Wv (by omega),fun hne=>absurd hk hne,fun z r' hr=>.inr ?_⟩
  rw[e0,e1]at hr
  unfold Site.accepted at hr
  cases hl:aD x.slot u.rs with
  |none=>rw[hl]at hr;exact⟨r',hr,rfl⟩
  |some r=>
   rw[hl]at hr
   dsimp only at hr
   split at hr
   ·have hput:∀vt z r',aD z (aT x.slot ({r with vt:=vt} :Rn) u.rs)=some r'→∃r0,aD z u.rs=some r0∧r'.pr=r0.pr:=fun vt z r' hz=>by
     rw[cO]at hz
     split at hz
     ·rename_i e
      injection hz with hz
      subst hz e
      exact⟨r,hl,rfl⟩
     ·exact⟨r',hz,rfl⟩
    split at hr
    ·rw[Site.bH]at hr
     unfold Site.aX at hr
     split at hr
     ·have hr:aD z (bY x.slot (aT x.slot _ u.rs))=some r':=hr
      rw[gm]at hr
      split at hr
      ·cases hr
      ·exact hput _ z r' hr
     ·exact hput _ z r' hr
    ·exact hput _ z r' hr
   ·exact⟨r',hr,rfl⟩
theorem Ey:∀(l:List Ms){u:Site},Sm n T E i u→(∀x∈l,cj T E x∧x.to=(i:Int)∧x.aR=(i:Int)∧0≤x.slot∧ia x.kind)→((l.filter fun m=>decide (m.kind=4)).map Ms.slot).Nodup→
  (∀x∈l,x.kind=4→∀r,aD x.slot u.rs=some r→r.pr= [])→(∀m∈(l.foldl Site.take u).held,m∈u.held∨m.to≠(i:Int))∧((∀x∈l,x.kind≠6)→(l.foldl Site.take u).held=u.held)
 |[],u,_,_,_,_=>⟨fun m hm=>.inl hm,fun _=>rfl⟩
 |x::l,u,h,hl,om,h4=>by
  obtain⟨x1,x2,x3,x4,x5⟩:=hl x (by simp)
  have hx:0≤x.slot∧x.slot<T:=⟨x4,x1.slot (.inl (by unfold ia at x5;omega))⟩
  obtain⟨a1,a2,a3⟩:=h.PI hx x1 x2 x5 (h4 x (by simp))
  have Ww:((l.filter fun m=>decide (m.kind=4)).map Ms.slot).Nodup∧(x.kind=4→∀y∈l,y.kind=4→y.slot≠x.slot):=by
   by_cases c:x.kind=4
   ·rw[filter_cons,if_pos (by simpa using c),map_cons,nodup_cons]at om
    exact⟨om.2,fun _ y hy hk e=>om.1 (mem_map.2 ⟨y,mem_filter.2 ⟨hy,dJ hk⟩,e⟩)⟩
   ·rw[filter_cons,if_neg (by simpa using c)]at om
    exact⟨om,fun e=>absurd e c⟩
  obtain⟨b1,b2⟩:=Ey l (h.Dj hx x1 x2 x5).sm (fun y hy=>hl y (by simp[hy])) Ww.1 fun y hy hk r hr=>by
   rcases a3 _ r hr with⟨e1,e2⟩|⟨r0,e1,e2⟩
   ·exact absurd e2 (Ww.2 e1 y hy hk)
   ·rw[e2];exact h4 y (by simp[hy]) hk r0 e1
  rw[foldl_cons]
  refine⟨fun m hm=>?_,fun hn=>?_⟩
  ·rcases b1 m hm with hm|hm
   ·exact a1 m hm
   ·exact .inr hm
  ·rw[b2 fun y hy=>hn y (by simp[hy])]
   exact a2 (hn x (by simp))
theorem Ez(h:Sm n T E i s){E':Nat}{N:List Ms}(k:Wq n T E' i s s.tick N){K:Int→Prop}(hk:HK n i K s.held)(hK:∀c,K c→c=6) :
  (∀m∈s.tick.sync.1.held,m.to≠(i:Int))∧((∀m∈s.held,m.to≠(i:Int))→s.tick.sync.1.held= []):=by
 obtain⟨u0,lB⟩:∃u0,u0=({s.tick with dn:=s.tick.db.length,held:=[]} :Site):=⟨_,rfl⟩
 have h0:Sm n T E' i u0:=by rw[lB];exact k.sm.hold (fun m hm=>by cases hm) _
 have e:s.tick.sync=((s.tick.held.filter fun m=>decide (m.to=(i:Int))).foldl Site.take u0,s.tick.held.filter fun m=>decide (m.to≠(i:Int))):=by
  unfold Site.sync
  rw[if_neg (by rw[k.sm.up];simp),←lB,k.sm.me]
 obtain⟨l,hl⟩:∃l,l=s.tick.held.filter fun m=>decide (m.to=(i:Int)):=⟨_,rfl⟩
 have qI:l=(s.held.filter fun m=>decide (m.to=(i:Int)))++N.filter fun m=>decide (m.to=(i:Int)):=by rw[hl,k.held,filter_append]
 have cL:∀x∈l,x.to=(i:Int)∧(x∈s.held∧x.kind=6∨x∈N∧(x.kind=2∨x.kind=4))∧x.aR=(i:Int)∧0≤x.slot:=fun x hx=>by
  rw[qI]at hx
  rcases mem_append.1 hx with hx|hx
  ·obtain⟨y1,y2⟩:=mem_filter.1 hx
   have y2:=of_decide_eq_true y2
   obtain⟨a,b,c⟩:=hk.own y1 y2
   exact⟨y2,.inl ⟨y1,hK _ c⟩,a,b⟩
  ·obtain⟨y1,y2⟩:=mem_filter.1 hx
   have y2:=of_decide_eq_true y2
   obtain⟨a,b,c⟩:=k.hk.own y1 y2
   exact⟨y2,.inr ⟨y1,c⟩,a,b⟩
 obtain⟨r1,r2⟩:=Ey l h0 (fun x hx=>by
  obtain⟨a,b,c,d⟩:=cL x hx
  refine⟨k.sm.held x (by rw[hl]at hx;exact(mem_filter.1 hx).1),a,c,d,?_⟩
  unfold ia
  omega) (by
  rw[qI,filter_append,filter_eq_nil_iff.2 fun x hx hd=>by
   obtain⟨y1,y2⟩:=mem_filter.1 hx
   have:=hK _ (hk.own y1 (of_decide_eq_true y2)).2.2
   have:=of_decide_eq_true hd
   omega,nil_append]
  exact k.nd) fun x hx h4 r hr=>by
  obtain⟨a,b,c,d⟩:=cL x hx
  rcases b with b|b
  ·omega
  ·exact k.four x b.1 a h4 r (by rw[lB]at hr;exact hr)
 rw[e,←hl]
 dsimp only
 refine⟨fun m hm=>?_,fun hn=>?_⟩
 ·rcases r1 m hm with q|q
  ·rw[lB]at q;cases q
  ·exact q
 ·rw[r2 fun x hx=>?_,lB]
  obtain⟨a,b,c,d⟩:=cL x hx
  rcases b with b|b
  ·exact absurd a (hn x b.1)
  ·omega
end Sm
theorem iJ.Iw{n T T' E:Nat}{s:Site}{x:Int}{r:Rn}(h:iJ n T E s x r)(hT:T≤T'):iJ n T' E s x r:=
 ⟨by have:=h.x0;omega,h.dec,h.nz,h.bs,h.br,h.low,h.b,h.pr,h.no,h.yes⟩
theorem Sm.Iw{n T T' E i:Nat}{s:Site}(h:Sm n T E i s)(hT:T≤T')(h6:T'≤6*n):Sm n T' E i s:=
 ⟨h.me,h.nn,h.lt,h.n3,h.n7,h6,h.E1,h.pat,h.up,by have:=h.nx;omega,h.pM,fun x=>by obtain⟨a,b,c,d⟩:=h.st x;exact⟨a,b,c,fun e=>by have:=d e;omega⟩,fun x w hw=>by have:=h.lv x w hw;exact⟨this.1,by omega,this.2.2⟩,fun x r hr=>(h.rs x r hr).Iw hT,h.mb,h.kz,h.used,by have:=h.top;omega,fun m hm=>(h.held m hm).mono hT (Nat.le_refl _)⟩
theorem EA(n i:Nat)(s:Site)(hn:3≤n)(h7:n≤7)(T:Nat):jh n (T+n) i s≤jh n T i s+1:=by
 unfold jh
 rw[range_add,filter_append,length_append,filter_map,length_map]
 have key:∀L:List Nat,L.Nodup→(∀k∈L,k<n∧(T+k) % n=i)→L.length≤1:=by
  intro L hL hk
  match L with
  |[]=>exact Nat.zero_le _
  |[_]=>exact Nat.le_refl _
  |a::b::L=>
   exfalso
   have h1:=hk a (by simp)
   have h2:=hk b (by simp)
   have hne:a≠b:=fun e=>by rw[e]at hL;simp at hL
   have:n=3∨n=4∨n=5∨n=6∨n=7:=by omega
   rcases this with rfl|rfl|rfl|rfl|rfl<;>omega
 have:=key ((List.range n).filter ((fun(k:Nat)=>decide (k % n=i)&&s.fresh (k:Int)) ∘ fun x=>T+x)) (List.Nodup.sublist filter_sublist nodup_range) fun k hk=>by
  obtain⟨h1,h2⟩:=mem_filter.1 hk
  have h2:(decide ((T+k) % n=i)&&s.fresh ((T+k:Nat):Int))=true:=h2
  rw[Bool.and_eq_true]at h2
  exact⟨mem_range.1 h1,of_decide_eq_true h2.1⟩
 omega
theorem Ix(s:Site)(hm:s.me<s.n)(h7:s.n≤7):∀(k f:Nat),f≤4096→s.nx≤f→(∀z:Nat,z % s.n=s.me→s.nx≤z→z<f→s.fresh (z:Int)=false)→
  s.free k (bV s.me f s.n)<0∨∃y:Nat,s.free k (bV s.me f s.n)=(y:Int)∧y % s.n=s.me∧s.nx≤y∧y<4096∧(∀z:Nat,z % s.n=s.me→s.nx≤z→z<y→s.fresh (z:Int)=false)∧(s.fresh (y:Int)=true∨f+k≤y)
 |0,f,hf,hx,hz=>by
  unfold Site.free
  rcases rh hm h7 hf with⟨e,-⟩|⟨y,e,kx,oh,qw,sr⟩
  ·rw[e];exact .inl (by decide)
  ·rw[e]
   refine .inr ⟨y,rfl,qw,by omega,oh,fun z z1 z2 z3=>?_,.inr (by omega)⟩
   by_cases c:z<f
   ·exact hz z z1 z2 c
   ·exact absurd z1 (sr z (by omega) z3)
 |k+1,f,hf,hx,hz=>by
  unfold Site.free
  rcases rh hm h7 hf with⟨e,-⟩|⟨y,e,kx,oh,qw,sr⟩
  ·rw[e,if_neg (by omega)];exact .inl (by decide)
  ·rw[e]
   have Wy:∀z:Nat,z % s.n=s.me→s.nx≤z→z<y→s.fresh (z:Int)=false:=fun z z1 z2 z3=>by
    by_cases c:z<f
    ·exact hz z z1 z2 c
    ·exact absurd z1 (sr z (by omega) z3)
   cases R9:s.fresh (y:Int) with
   |true=>
    rw[if_neg (by simp)]
    exact .inr ⟨y,rfl,qw,by omega,oh,Wy,.inl R9⟩
   |false=>
    rw[if_pos ⟨by omega,rfl⟩]
    have e2:((y:Int)+1).toNat=y+1:=by omega
    rw[e2]
    rcases Ix s hm h7 k (y+1) (by omega) (by omega) (fun z z1 z2 z3=>by
     by_cases c:z=y
     ·rw[c];exact R9
     ·exact Wy z z1 z2 (by omega))with q|⟨y',q1,q2,q3,q4,q5,q6⟩
    ·exact .inl q
    ·exact .inr ⟨y',q1,q2,q3,q4,q5,q6.imp id (by omega)⟩
namespace Sm
variable {n T E i:Nat} {s t u v:Site}
theorem Wz(h:Sm n T E i s){z:Nat}(hz:T≤z):s.fresh (z:Int)=true:=by
 refine Site.bo.2 ⟨?_,?_⟩
 ·cases hc:s.dec (z:Int) with
  |none=>rfl
  |some v=>have:=(h.lv _ v hc).2.1;omega
 ·by_cases c:s.stat (z:Int)=Sp.zero
  ·rw[c];decide
  ·have:=((h.st (z:Int)).2.2.2 c).2.1;omega
theorem PJ(h:Sm n T E i s)(h6:T+n≤6*n){vl:List UInt8}(hv:vl.length≤3):((s.cm vl).2.2≠0∧(s.cm vl).1=s)∨
  (s.cm vl).2.2=0∧Sm n (T+n) E i (s.cm vl).1∧(∃N,(s.cm vl).1.held=s.held++N∧HK n i (fun k=>k=6) N)∧(s.cm vl).1.wt=s.wt∧(s.cm vl).1.taken=s.taken∧
   (s.cm vl).1.db.length≤s.db.length+16∧∀(P:Pw n i)(a:Nat),(∀m:Ms,m.kind=1∨m.kind=3∨m.kind=5→P.w m≤a)→P.V (T+n) (s.cm vl).1≤P.V T s+(P.φ+6*a+P.tT):=by
 have hT:=h.T6;have h7:=h.n7;have h3:=h.n3;have hlt:=h.lt;have hn:=h.nn;have ca:=h.me;have uG:=h.nx
 unfold Site.cm
 rw[if_neg (by rw[h.up];simp)]
 by_cases gi:vl.length=0∨2048<vl.length
 ·rw[if_pos gi];exact .inl ⟨by show(1:Int)≠0;decide,rfl⟩
 rw[if_neg gi]
 obtain⟨x,hx⟩:=bk (s.free 4096 (bV s.me s.nx s.n))
 have eP:=Ix s (by omega) (by omega) 4096 s.nx (by omega) (Nat.le_refl _) (fun z _ h1 h2=>by omega)
 rw[hx]at eP ⊢
 dsimp only
 by_cases hx0:x<0
 ·rw[if_pos hx0];exact .inl ⟨by show(5:Int)≠0;decide,rfl⟩
 rw[if_neg hx0]
 rcases eP with eP|⟨y,rfl,kx,oh,qw,sr,hy5⟩
 ·omega
 have Iq:s.fresh (y:Int)=true:=by
  rcases hy5 with q|q
  ·exact q
  ·omega
 rw[hn,ca]at kx sr
 have xk:y<T+n:=by
  apply Classical.byContradiction;intro c
  have hz:∃z:Nat,T≤z∧z<T+n∧z % n=i:=by
   have:n=3∨n=4∨n=5∨n=6∨n=7:=by omega
   rcases this with rfl|rfl|rfl|rfl|rfl
   ·exact⟨T+(i+3-T % 3) % 3,by omega,by omega,by omega⟩
   ·exact⟨T+(i+4-T % 4) % 4,by omega,by omega,by omega⟩
   ·exact⟨T+(i+5-T % 5) % 5,by omega,by omega,by omega⟩
   ·exact⟨T+(i+6-T % 6) % 6,by omega,by omega,by omega⟩
   ·exact⟨T+(i+7-T % 7) % 7,by omega,by omega,by omega⟩
  obtain⟨z,z1,z2,z3⟩:=hz
  have:=sr z z3 (by omega) (by omega)
  rw[h.Wz z1]at this;cases this
 have oj:s.bQ=⟨0,(i:Int)⟩:=by unfold Site.bQ;rw[ca]
 have hU:=h.Iw (T':=T+n) (by omega) h6
 have sA:0≤(y:Int)∧(y:Int)<((T+n:Nat):Int):=by omega
 cases ha:s.accept (y:Int) s.bQ vl with
 |none=>exact .inl ⟨by show(5:Int)≠0;decide,rfl⟩
 |some t=>
  right
  dsimp only
  obtain⟨f1,f2⟩:=Site.bo.1 Iq
  obtain⟨p1,p2,p3,p4,p5,p6,p7,p8⟩:=hU.accept sA (b:=s.bQ) (by rw[oj];exact⟨Int.le_refl _,by show(0:Int)≤E;omega⟩) (by rw[oj];exact⟨by show(0:Int)≤i;omega,by show(i:Int)≤6;omega⟩) hv ha
  rw[oj]at p8 ⊢
  obtain⟨r,hr⟩:∃r:Rn,r=⟨⟨0,(i:Int)⟩,[],true,vl,[],0⟩:=⟨_,rfl⟩
  rw[←hr]
  have kU:t.stat (y:Int)≠Sp.zero:=by
   rw[p8,if_pos rfl];intro e;have:=congrArg Sp.so e;simp[Sp.zero]at this
  have Ei:∀z,t.dec z=s.dec z:=fun z=>by unfold Site.dec;rw[p5]
  have ij:∀z,s.fresh z=false→t.fresh z=false:=fun z hz=>by
   by_cases c:s.dec z=none
   ·refine fM ?_
    rw[p8]
    split
    ·intro e;have:=congrArg Sp.so e;simp[Sp.zero]at this
    ·intro hz0
     rw[Site.bo.2 ⟨c,by rw[hz0];decide⟩]at hz;cases hz
   ·exact fx (by rw[Ei];exact c)
  have e1:((y:Int)+1).toNat=y+1:=by omega
  rw[e1]
  have hS1:=p1.jI (k:=y+1) (by omega) fun z hz1 hz2=>by
   by_cases c:z=y
   ·subst c;exact fM kU
   ·by_cases c2:z<s.nx
    ·exact ij _ (h.used z hz1 c2)
    ·exact ij _ (sr z hz1 (by omega) (by omega))
  have Mk:iJ n (T+n) E ({t with nx:=y+1} :Site) (y:Int) r:=by
   rw[hr]
   refine⟨sA,by show t.dec (y:Int)=none;rw[Ei];exact f1,kU,by show(i:Int)=(t.me:Int);rw[p1.me],⟨Int.le_refl _,by show(0:Int)≤E;omega⟩,?_,hv,fun q hq=>(by cases hq),fun e=>(by cases e),fun _=>⟨fun _=>?_,Site.tC (me:=(i:Int)) h3 (fun z hz=>by cases hz)⟩⟩
   ·show ¬ (t.stat (y:Int)).p.lt _
    rw[p8,if_pos rfl];exact Bl.lt_irrefl _
   ·show bK (y:Int) n=(t.me:Int)
    rw[gW qw (by omega) h7,p1.me,kx]
  have gz:=hS1.fH Mk
  have nB:Site.asks r (y:Int)=⟨1,0,0,(y:Int),0,(i:Int),0,(i:Int),true,vl⟩:=by
   rw[hr];unfold Site.asks;rw[if_pos rfl];rfl
  have hsm:cj (T+n) E (Site.asks r (y:Int)):=by
   rw[nB];exact⟨fun _=>sA.2,by show(0:Int)≤E;omega,by show(0:Int)≤E;omega,hv⟩
  have hsv:cj (T+n) E (Site.bB (y:Int) ⟨0,(i:Int)⟩):=⟨fun _=>sA.2,by show(0:Int)≤E;omega,by simp[Site.bB],by simp[Site.bB]⟩
  have nF:=(gz.others (m:=Site.asks r (y:Int)) hsm t.n).send (m:=Site.bB (y:Int) ⟨0,(i:Int)⟩) hsv (t.me:Int)
  obtain⟨q,hq⟩:∃q:Site,q= {t with nx:=y+1,rs:=aT (y:Int) r t.rs}:=⟨_,rfl⟩
  have uH:q.me=i:=by rw[hq];exact p1.me
  have hqn:q.n=n:=by rw[hq];exact p1.nn
  have jf:(((({t with nx:=y+1,rs:=aT (y:Int) r t.rs} :Site).others (Site.asks r (y:Int)) t.n)).send (t.me:Int) (Site.bB (y:Int) ⟨0,(i:Int)⟩))= {q with held:=s.held++(q.tell (Site.asks r (y:Int)) n++[(Site.bB (y:Int) ⟨0,(i:Int)⟩).ad i i])}:=by
   rw[←hq,Site.bH,Site.jO]
   show({q with held:=q.held++q.tell (Site.asks r (y:Int)) t.n++[(Site.bB (y:Int) ⟨0,(i:Int)⟩).ad q.me t.me]} :Site)=_
   rw[uH,p1.me,p1.nn,append_assoc]
   have:q.held=s.held:=by rw[hq];exact p3
   rw[this]
  refine⟨rfl,nF,⟨q.tell (Site.asks r (y:Int)) n++[(Site.bB (y:Int) ⟨0,(i:Int)⟩).ad i i],?_,fun m hm=>?_⟩,?_,?_,?_,fun P a ha2=>?_⟩
  ·exact congrArg Site.held jf
  ·rcases mem_append.1 hm with hm|hm
   ·obtain⟨c,c1,c2,rfl⟩:=Site.dH.1 hm
    rw[uH]at c2
    exact⟨by show(q.me:Int)=_;rw[uH],c,c1,rfl,fun e=>absurd e c2⟩
   ·rw[mem_singleton]at hm;subst hm
    exact⟨rfl,i,hlt,rfl,fun _=>⟨by show(0:Int)≤(y:Int);omega,rfl⟩⟩
  ·refine(congrArg Site.wt jf).trans ?_
   show q.wt=_
   rw[hq];exact p7.wt
  ·refine(congrArg Site.taken jf).trans ?_
   show q.taken=_
   rw[hq];exact p7.taken
  ·have e:((((({t with nx:=y+1,rs:=aT (y:Int) r t.rs} :Site).others (Site.asks r (y:Int)) t.n)).send (t.me:Int) (Site.bB (y:Int) ⟨0,(i:Int)⟩)):Site).db=t.db:=(congrArg Site.db jf).trans (by show q.db=_;rw[hq])
   exact Nat.le_trans (Nat.le_of_eq (congrArg length e)) p2
  ·have e:P.V (T+n) ({q with held:=s.held++(q.tell (Site.asks r (y:Int)) n++[(Site.bB (y:Int) ⟨0,(i:Int)⟩).ad i i])} :Site)=P.pt (T+n) q+(P.hs s.held+(P.hs (q.tell (Site.asks r (y:Int)) n)+0)):=by
    have q5:P.hw ((Site.bB (y:Int) ⟨0,(i:Int)⟩).ad i i)=0:=if_pos rfl
    unfold Pw.V
    rw[←q5,←P.vy,←P.fg,←P.fg];rfl
   have q1:=P.wK (s:=q) (m:=Site.asks r (y:Int)) (a:=a) uH hlt h7 fun c=>ha2 _ (by rw[nB];exact .inl rfl)
   have q2:P.tok q≤P.tok s+P.tT:=by
    have:=xo (fun x (r:Rn)=>if P.A x then(if r.so then P.tT else P.tF)else 0) (y:Int) r s.rs
    have h2:(if P.A (y:Int) then(if r.so then P.tT else P.tF)else 0)≤P.tT:=by
     rw[hr];split
     ·exact Nat.le_refl _
     ·exact Nat.zero_le _
    have h3:q.rs=aT (y:Int) r s.rs:=by rw[hq,←p4]
    unfold Pw.tok
    rw[h3]
    omega
   have q3:=mf (n:=n) (T:=T+n) (i:=i) (s:=s) (t:=q) (ys:=[]) (fun k hk=>by
    cases hf:s.fresh (k:Int) with
    |true=>rfl
    |false=>
     have h1:q.fresh (k:Int)=t.fresh (k:Int):=by rw[hq];rfl
     rw[h1,ij _ hf]at hk;cases hk) nodup_nil (fun y hy=>by cases hy)
   rw[length_nil,Nat.add_zero]at q3
   have q4:=Nat.le_trans q3 (EA n i s h3 h7 T)
   have q6:=Nat.mul_le_mul_left P.φ q4
   rw[Nat.mul_add,Nat.mul_one]at q6
   have hV:=congrArg (P.V (T+n)) jf
   refine Nat.le_trans (Nat.le_of_eq (hV.trans e)) ?_
   unfold Pw.V Pw.pt
   omega
end Sm
theorem xy(T:Nat):∀(l:List Rc)(u:Site),(∀r∈l,0≤r.slot∧r.slot+1≤(T:Int))→(0≤u.top∧u.top≤(T:Int)∧∀x,u.stat x≠Sp.zero→x+1≤u.top)→
  0≤(l.foldl Site.eh u).top∧(l.foldl Site.eh u).top≤(T:Int)∧∀x,(l.foldl Site.eh u).stat x≠Sp.zero→x+1≤(l.foldl Site.eh u).top
 |[],u,_,h=>h
 |r::l,u,hr,h=>by
  rw[foldl_cons]
  obtain⟨r1,r2⟩:=hr r (by simp)
  obtain⟨h1,h2,h3⟩:=h
  refine xy T l _ (fun q hq=>hr q (by simp[hq])) ?_
  have turn:∀y:Sp,0≤(u.turn r.slot y).top∧(u.turn r.slot y).top≤(T:Int)∧∀x,(u.turn r.slot y).stat x≠Sp.zero→x+1≤(u.turn r.slot y).top:=fun y=>by
   have e:(u.turn r.slot y).top=max u.top (r.slot+1):=rfl
   rw[e]
   refine⟨by omega,by omega,fun x hx=>?_⟩
   rw[Site.oY]at hx
   split at hx
   ·rename_i c;omega
   ·have:=h3 x hx;omega
  unfold Site.eh
  split
  ·exact turn _
  split
  ·exact⟨h1,h2,h3⟩
  ·exact turn _
theorem PK{l:List Rc}{x:Int}(h:dU l x≠Sp.zero):∃r∈l,r.slot=x:=by
 apply Classical.byContradiction;intro c
 apply h
 unfold dU
 rw[filter_eq_nil_iff.2 fun r hr hd=>c ⟨r,hr,of_decide_eq_true hd⟩]
 rfl
theorem Good.nz{l m:List Rc}(h:Good m)(hp:l <+:m)(hm:∀r∈l,r.bL){r:Rc}(hr:r∈l):dU m r.slot≠Sp.zero:=by
 obtain⟨l1,l2,e⟩:=append_of_mem hr
 have qJ:l1++[r] <+:m:=by
  obtain⟨k,hk⟩:=hp
  exact⟨l2++k,by rw[←hk,e];simp⟩
 obtain⟨g1,g2⟩:=h.WA qJ l1 r [] rfl
 have hle:=h.lp qJ r.slot
 rw[gI,if_pos rfl]at hle
 intro ez
 rw[ez]at hle
 have hk:=(hm r hr).EB
 by_cases k1:r.kind=1
 ·have h1:=hle.p
  unfold gQ at h1
  rw[if_pos k1]at h1
  have h2:=g2 k1
  have e1:r.aC.r=r.round:=rfl
  unfold Bl.lt Sp.zero at h1
  dsimp only at h1
  omega
 ·have h1:=hle.so
  unfold gQ at h1
  rw[if_neg k1,if_neg (fun e=>g1 ((gp _ _).1 e))]at h1
  have:=(h1 rfl).1
  simp[Sp.zero]at this
namespace Sm
variable {n T E i:Nat} {s t u v:Site}
theorem MJ(h:Sm n T E i {s with down:=false}){G:Int→List Rc}{P:Int→List UInt8→Prop}(hG:gx G s.n P)(hP:∀x v,P x v→v.length≤3)(hI:PD G P s){R:List Rc}(h1:(cg s.db).1 <+:R)(h2:Good R)(h3:∀x,s.stat x=dU R x) :
  Sm n T E i s.bC∧s.bC.held= []∧s.bC.rs= []∧s.bC.wt= [0,0,0,0,0,0,0]∧s.bC.taken=0∧s.bC.db.length≤s.db.length:=by
 obtain⟨zu,Iy,-,ca,hn⟩:=hI.bC hG
 obtain⟨k1,k2,k3⟩:=oB s.db
 have h0:({Site.new s.me s.n s.pat with db:=s.db.take (cg s.db).2,dn:=min s.dn (cg s.db).2} :Site).Ok:=(Go.Proofs.YtijhlbeipglieaaGreat.Site.zv hI.dn.ok.im).cZ _ _
 have hr:=tO (cg s.db).1 [] _ h0 k3 (fun x=>rfl)
 rw[nil_append]at hr
 have lT:=hI.dn.down
 have e:s.bC=(cg s.db).1.foldl Site.eh {Site.new s.me s.n s.pat with db:=s.db.take (cg s.db).2,dn:=min s.dn (cg s.db).2}:=by
  unfold Site.bC
  rw[if_pos lT]
 have lP:∀r∈(cg s.db).1,0≤r.slot∧r.slot+1≤(T:Int):=fun r hr=>by
  have hz:=h2.nz h1 k3 hr
  rw[←h3]at hz
  have:=(h.st r.slot).2.2.2 hz
  omega
 have rX:=xy T (cg s.db).1 {Site.new s.me s.n s.pat with db:=s.db.take (cg s.db).2,dn:=min s.dn (cg s.db).2} lP ⟨Int.le_refl _,by show(0:Int)≤T;omega,fun x hx=>absurd rfl hx⟩
 rw[←e]at hr rX
 have hst:=hr.st
 have adz:=h.pat
 have hlv:∀x,s.bC.dec x=none:=fun x=>by unfold Site.dec;rw[hr.lv];rfl
 have bZ:s.bC.rs= []:=hr.rs
 refine⟨⟨ca.trans h.me,hn.trans h.nn,h.lt,h.n3,h.n7,h.T6,h.E1,hr.pat.trans adz,hr.down,by rw[hr.nx];exact Nat.zero_le _,by rw[hr.wt];rfl,fun x=>?_,fun x w hw=>?_,fun x r hx=>?_,?_,?_,fun k _ hk=>?_,⟨rX.1,rX.2.1⟩,?_⟩,hr.held,bZ,hr.wt,hr.taken,?_⟩
 ·have hle:=h2.lp h1 x
  have Z0:=(h2.WA h1).PL x
  have mB:=EC (cg s.db).1 x
  have hb:=(h.st x).1
  have o0:(dU (cg s.db).1 x).p.r≤E:=by
   have q:=hle.p
   rw[←h3]at q
   have q2:(s.stat x).p.r≤E:=hb
   unfold Bl.lt at q;omega
  rw[hst]
  refine⟨o0,?_,?_,fun hz=>?_⟩
  ·rcases mB with q|q
   ·have:=Z0 q
    unfold Bl.lt at this;omega
   ·rw[q.1];show(0:Int)≤E;omega
  ·rcases mB with q|q
   ·have hh:=ED (cg s.db).1 (fun r hr=>(k3 r hr).EB) x q
    have Sa:has (ix G s.me (cg s.db).1 s.me) x (dU (cg s.db).1 x).at_ (dU (cg s.db).1 x).b:=by rw[mN];exact hh
    rcases zu.valid _ _ _ (Nat.lt_succ_self _) (zu.back _ _ _ _ Sa)with q2|q2
    ·rw[q2];exact Nat.zero_le _
    ·exact hP _ _ q2
   ·rw[q.2];exact Nat.zero_le _
  ·obtain⟨r,hr,e⟩:=PK hz
   have:=lP r hr
   rw[←hst]at hz
   have:=rX.2.2 x hz
   omega
 ·rw[hlv]at hw;cases hw
 ·rw[bZ]at hx;cases hx
 ·rw[bZ];intro e he;cases he
 ·rw[bZ];exact List.Pairwise.nil
 ·rw[hr.nx]at hk;exact absurd hk (Nat.not_lt_zero _)
 ·rw[hr.held];intro m hm;cases hm
 ·rw[hr.db]
  show(s.db.take _).length≤_
  rw[length_take];omega
end Sm
theorem bj.back{s:Site}{S R:List Rc}{z:Nat}(h:bj s S R z)(k:Int):(cg (s.dB k).db).1 <+:R∧Good R∧∀x,(s.dB k).stat x=dU R x:=by
 have hle:s.kept k≤(bX R).length:=by
  have qJ:=tQ h.pre
  unfold Site.kept
  rw[h.dn,h.db]
  omega
 obtain⟨m,h1,h2,-⟩:=tR h.may (s.kept k) hle
 have e:s.dB k= {s with db:=s.db.take (s.kept k),dn:=s.kept k,down:=true}:=by
  unfold Site.dB
  rw[if_neg (by rw[h.up];simp)]
 rw[e]
 refine⟨?_,h.gR,fun x=>h.st x⟩
 show(cg (s.db.take (s.kept k))).1 <+:R
 rw[h.db,h2]
 exact take_prefix _ _
