/- For WorldCalm. -/
import Derived.Test.YtijhlbeipglieaaGreatPkKeep
import Derived.Test.YtijhlbeipglieaaGreatPkHandC
import Derived.Test.YtijhlbeipglieaaGreatPkLate
set_option linter.all false
namespace aL
open Go Go.Proofs.YtijhlbeipglieaaGreat List
namespace bj
variable {s t:Site} {S R:List Rc} {z:Nat}
theorem oJ(h:bj s S R z):s.held.length+z≤400000000:=by have:=h.lim;have:=TT s.me s.held;omega
theorem qt(h:bj s S R z)(m:Ms):Qt s m:=⟨fun x=>h.fit x,by have:=h.oJ;omega,fun p hp=>by have:=h.kn p hp;omega⟩
theorem bF(h:bj s S R z):s.bF≤4096:=by
 have h1:=h.ok.top.2
 have h2:=(uf s.lv fun p hp=>⟨(h.lv p hp).1,(h.lv p hp).2.1⟩).2
 unfold Site.bF
 omega
theorem wR(h:bj s S R z){x:Int}{v:List UInt8}(hv:s.dec x=some v):v.length≤2048:=(h.lv _ (bG hv)).2.2
theorem xH(h:bj s S R z):0≤(s.me:Int)∧(s.me:Int)≤6:=by have:=h.ok.me;have:=h.ok.n7;omega
theorem aaa{s:Site}{m:Ms}{tg:Int}{c:Nat}(hc:cT m.kind≤c):pE s.me (Ms.mk m.kind (s.me:Int) tg m.slot m.bU m.cu m.dw m.dR m.some_ m.val)≤c:=Nat.le_trans (TQ _ _) hc
theorem sR(h:bj s S R z){m:Ms}(hf:m.Fit){tg:Int}(ht:0≤tg∧tg≤6)(hk:lh (s.stat m.slot) m){y:Nat}(hz:cT m.kind+y≤z):bj (s.send tg m) S R y:=
 h.send hf ht hk (aaa (Nat.le_refl _)) hz
theorem oP(h:bj s S R z){x:Int}(hx:0≤x∧x<4096){b:Bl}(hb:b.may 7=true){v:List UInt8}(hv:v.length≤2048)(hn:s.accept x b v=some t):∃R',R <+:R'∧bj t S R' z∧eV (t.stat x) 1 b:=by
 obtain⟨⟨r,h1⟩,h2⟩:=h.accept hx hb hv hn
 exact⟨_,prefix_append _ _,h1,h2⟩
theorem iI(h:bj t S R z){b:Bl}(hb:b.may 7=true){x:Int}(hx:0≤x∧x<4096)(hk:eV (t.stat x) 1 b){y:Nat}(hy:7+y≤z):bj (t.iI b x) S R y:=by
 have hf:=Site.vX hx hb
 have NN:∀t':Site,t'.stat x=t.stat x→lh (t'.stat (Site.bt x b).slot) (Site.bt x b):=fun t' e _=>by
  show eV (t'.stat x) 2 b
  rw[e];exact hk.kind (by decide)
 have h1:=h.oD hf (NN t rfl) (y:=1+y) (by omega)
 have e1:(t.others (Site.bt x b) t.n).stat x=t.stat x:=by rw[Site.bH];rfl
 have h2:=h1.sR hf (tg:=(t.me:Int)) h.xH (NN _ e1) (y:=y) (by simp[Site.bt,cT])
 exact h2.jI (by omega)
theorem cG:∀(f c:Nat)(s:Site)(R:List Rc)(z:Nat),bj s S R z→∀(tg:Int)(y:Nat),7*(8-c)+y≤z→kR s (Site.cG f c s tg) S R y
 |0,_,s,R,z,h,_,y,hy=>(h.less (by omega)).grow
 |f+1,c,s,R,z,h,tg,y,hy=>by
  unfold Site.cG
  split
  ·exact(h.less (by omega)).grow
  rename_i hc
  split
  ·exact(h.less (by omega)).grow
  rename_i hx
  have hr:=fU (s.me:Int) s.nx s.n
  have hx2:0≤bV s.me s.nx s.n∧bV s.me s.nx s.n<4096:=by omega
  split
  ·split
   ·exact(h.less (by omega)).grow
   ·rename_i t ha
    obtain⟨R',h1,h2,h3⟩:=h.oP hx2 h.ok.own (by simp) ha
    have h4:=h2.iI h.ok.own hx2 h3 (y:=7*(8-(c+1))+y) (by omega)
    obtain⟨R2,h5,h6⟩:=cG f (c+1) _ R' _ h4 tg y (Nat.le_refl _)
    exact⟨R2,h1.trans h5,h6⟩
  ·exact cG f c _ R z (h.jI (by omega)) tg y hy
theorem skip(h:bj s S R z)(tg:Int){y:Nat}(hy:56+y≤z):kR s (s.skip tg) S R y:=cG _ _ s R z h tg y (by omega)
theorem AW(h:bj s S R z)(x:Int):(s.low x).may 7=true:=by
 unfold Site.low
 split
 ·rename_i r hr
  split
  ·exact(h.ok.rs _ (bG hr)).2.2.2.1
  ·exact(h.ok.stat x).2.1
 ·exact(h.ok.stat x).2.1
theorem cK(h:bj s S R z){x:Int}(hx:0≤x∧x<4096){y:Nat}(hy:22+y≤z):kR s (s.cK x) S R y:=by
 have hb:=Bl.yA (h.AW x) (me:=s.me) (by have:=h.xH;omega)
 unfold Site.cK
 split
 ·exact(h.less (by omega)).grow
 split
 ·exact(h.less (by omega)).grow
 ·rename_i t ha
  obtain⟨⟨rc,h1⟩,h2⟩:=h.promise hx hb ha
  have h3:bj {t with rs:=aT x (⟨(s.low x).next s.me,[],false,[],[],0⟩:Rn) t.rs} S (R++[rc]) z:=h1.fH hx (by exact⟨by simp,hb,by simp⟩) (by intro e;cases e) (Nat.le_refl _) (by have:=h1.lim;simp;omega)
  have hn:t.n=s.n:=(Site.tZ ha).2.1
  have h4:=h3.oD (m:=Site.asks (⟨(s.low x).next s.me,[],false,[],[],0⟩:Rn) x) (Site.iX hx hb (by simp)) (by intro e;revert e;simp[Site.asks,Ms.la]) (y:=16+y) (by omega)
  have h4:bj (({t with rs:=aT x (⟨(s.low x).next s.me,[],false,[],[],0⟩:Rn) t.rs} :Site).others (Site.asks (⟨(s.low x).next s.me,[],false,[],[],0⟩:Rn) x) s.n) S (R++[rc]) (16+y):=by rw[←hn];exact h4
  have e1:(({t with rs:=aT x (⟨(s.low x).next s.me,[],false,[],[],0⟩:Rn) t.rs} :Site).others (Site.asks (⟨(s.low x).next s.me,[],false,[],[],0⟩:Rn) x) s.n).stat x=t.stat x:=by rw[Site.bH];rfl
  refine(⟨_,prefix_append _ _,h4.sR (Site.lQ h4.ok hx hb (h4.fit x)) h4.xH ?_ ?_⟩:kR _ _ _ _ _)
  ·intro _
   show eV (Site.stat _ x) 4 _
   rw[e1];exact h2
  ·show cT 4+y≤_
   simp[cT]
theorem mR(h:bj s S R z){x:Int}(hx:0≤x∧x<4096){b:Bl}(hb:b.may 7=true)(hk:eV (s.stat x) 1 b){tg:Int}(ht:0≤tg∧tg≤6){y:Nat}(hy:8+y≤z):bj (s.send tg (Site.bB x b)) S R y:=
 h.sR (Site.mO hx hb) ht (fun _=>by show eV (s.stat x) 6 b;exact hk.kind (by decide)) (by show cT 6+y≤z;simp[cT];omega)
theorem zQ{r:Rn}{x:Int}{t:Sp}(hk:r.so=true→eV t 1 r.aC):lh t (Site.asks r x):=by
 intro ht
 unfold Site.asks at ht ⊢
 split
 ·rename_i e
  rw[if_pos e]at ht
  show eV t _ r.aC
  dsimp only
  split
  ·exact hk e
  ·rename_i e2
   rw[if_neg e2]at ht
   revert ht
   simp[Ms.la]
 ·rename_i e
  rw[if_neg e]at ht
  revert ht
  simp[Ms.la]
theorem jT{m:Ms}(hm:m.bL):m.aC.may 7=true:=Bl.jk.2 ⟨hm.bU,hm.cu⟩
theorem dP{m:Ms}(hm:m.bL):0≤m.slot∧m.slot<4096:=by have:=hm.slot;omega
theorem dI(h:bj s S R z){m:Ms}(hm:m.bL){y:Nat}(hy:100+y≤z):kR s (s.dI m) S R y:=by
 unfold Site.dI
 split
 ·split
  ·rename_i t ha
   obtain⟨R',h1,h2,h3⟩:=h.oP (dP hm) (jT hm) hm.val ha
   have h4:=h2.mR (dP hm) (jT hm) h3 hm.aR (y:=56+y) (by omega)
   obtain⟨R2,h5,h6⟩:=h4.skip m.slot (y:=y) (Nat.le_refl _)
   exact⟨R2,h1.trans h5,h6⟩
  ·exact h.skip _ (by omega)
 ·exact(h.less (by omega)).grow
theorem ed(h:bj s S R z){m:Ms}(hm:m.bL){y:Nat}(hy:100+y≤z):kR s (s.ed m) S R y:=by
 unfold Site.ed
 split
 ·split
  ·rename_i t ha
   obtain⟨⟨rc,h1⟩,h2⟩:=h.promise (dP hm) (jT hm) ha
   exact⟨_,prefix_append _ _,h1.sR (Site.lQ h1.ok (dP hm) (jT hm) (h1.fit _)) hm.aR (fun _=>h2) (by show cT 4+y≤_;simp[cT];omega)⟩
  ·exact(h.less (by omega)).grow
 ·exact(h.less (by omega)).grow
theorem asked(h:bj s S R z){m:Ms}(hm:m.bL){y:Nat}(hy:100+y≤z):kR s (s.asked m) S R y:=by
 unfold Site.asked
 split
 ·split
  ·rename_i t ha
   obtain⟨R',h1,h2,h3⟩:=h.oP (dP hm) (jT hm) hm.val ha
   exact⟨R',h1,h2.mR (dP hm) (jT hm) h3 hm.aR (by omega)⟩
  ·exact(h.less (by omega)).grow
 ·exact(h.less (by omega)).grow
theorem bT(h:bj s S R z){m:Ms}(hm:m.bL){y:Nat}(hy:16+y≤z):kR s (s.bT m) S R y:=by
 unfold Site.bT
 split
 ·exact(h.less (by omega)).grow
 rename_i r hr
 have mg:=bG hr
 have hro:=h.ok.rs _ mg
 have mQ:=h.kn _ mg
 split
 ·rename_i oo
  have hpl:∀q∈r.pr++[(⟨m.aR,m.some_,m.had,m.val⟩:Pm)],q.b.length≤2048:=fun q hq=>by
   rcases mem_append.1 hq with hq|hq
   ·exact hro.2.2.2.2 q hq
   ·rw[mem_singleton]at hq;subst hq;exact hm.val
  have h1:bj {s with rs:=aT m.slot {r with pr:=r.pr++[(⟨m.aR,m.some_,m.had,m.val⟩:Pm)]} s.rs} S R (z - 1):=
   h.fH (r:={r with pr:=r.pr++[(⟨m.aR,m.some_,m.had,m.val⟩:Pm)]}) (dP hm) ⟨hro.2.2.1,hro.2.2.2.1,hpl⟩ (by intro e;have e':r.so=true:=e;rw[oo.2]at e';cases e') (by omega) (by simp only[length_append,length_singleton];dsimp only at mQ;omega)
  simp only
  split
  ·exact(h1.less (by omega)).grow
  ·rename_i v hv
   have gi:=ud hpl hv
   split
   ·exact((h1.nu _).less (by omega)).grow
   ·rename_i u hu
    obtain⟨R',h2,h3,h4⟩:=h1.oP (dP hm) hro.2.2.2.1 gi hu
    have eP:=Site.j6 hu
    have zP:u.held=s.held∧u.me=s.me∧u.n=s.n:=⟨eP.2.2.1,eP.1,eP.2.1⟩
    have h5:bj {u with rs:=aT m.slot {r with pr:=r.pr++[(⟨m.aR,m.some_,m.had,m.val⟩:Pm)],so:=true,b:=v} u.rs} S R' (z - 1):=
     h3.fH (r:={r with pr:=r.pr++[(⟨m.aR,m.some_,m.had,m.val⟩:Pm)],so:=true,b:=v}) (dP hm) ⟨gi,hro.2.2.2.1,hpl⟩ (fun _=>h4) (Nat.le_refl _) (by rw[zP.1,zP.2.1];simp only[length_append,length_singleton];dsimp only at mQ;omega)
    have h6:=h5.oD (m:=Site.asks {r with pr:=r.pr++[(⟨m.aR,m.some_,m.had,m.val⟩:Pm)],so:=true,b:=v} m.slot) (Site.iX (dP hm) hro.2.2.2.1 gi) (zQ (x:=m.slot) fun _=>by
     have:(Site.asks {r with pr:=r.pr++[(⟨m.aR,m.some_,m.had,m.val⟩:Pm)],so:=true,b:=v} m.slot).slot=m.slot:=by unfold Site.asks;split<;>rfl
     rw[this];exact h4) (y:=8+y) (by omega)
    have h6:bj (({u with rs:=aT m.slot {r with pr:=r.pr++[(⟨m.aR,m.some_,m.had,m.val⟩:Pm)],so:=true,b:=v} u.rs} :Site).others (Site.asks {r with pr:=r.pr++[(⟨m.aR,m.some_,m.had,m.val⟩:Pm)],so:=true,b:=v} m.slot) s.n) S R' (8+y):=by rw[←zP.2.2];exact h6
    refine⟨R',h2,h6.mR (dP hm) hro.2.2.2.1 ?_ h.xH (Nat.le_refl _)⟩
    rw[Site.bH]
    exact h4
 ·exact(h.less (by omega)).grow
theorem YH(h:bj s S R z){x:Int}(hx:0≤x∧x<4096){v:List UInt8}(hv:v.length≤2048){y:Nat}(hy:6+y≤z):bj (s.others (Site.bD x v) s.n) S R y:=
 h.oD (Site.j7 hx hv) (by intro e;revert e;simp[Site.bD,Ms.la]) hy
theorem kM(h:bj s S R z){x:Int}(hx:0≤x∧x<4096){v:List UInt8}(hv:v.length≤2048){tg:Int}(ht:0≤tg∧tg≤6){y:Nat}(hy:1+y≤z):bj (s.send tg (Site.bD x v)) S R y:=
 h.sR (Site.j7 hx hv) ht (by intro e;revert e;simp[Site.bD,Ms.la]) (by show cT 7+y≤z;simp[cT];omega)
theorem accepted(h:bj s S R z){m:Ms}(hm:m.bL){y:Nat}(hy:8+y≤z):kR s (s.accepted m) S R y:=by
 unfold Site.accepted
 split
 ·exact(h.less (by omega)).grow
 rename_i r hr
 have mg:=bG hr
 have hro:=h.ok.rs _ mg
 have mQ:=h.kn _ mg
 split
 ·rename_i oo
  have h1:bj {s with rs:=aT m.slot {r with vt:=r.vt++[(m.aR,(⟨m.bU,m.cu⟩:Bl))]} s.rs} S R (z - 1):=
   h.fH (r:={r with vt:=r.vt++[(m.aR,(⟨m.bU,m.cu⟩:Bl))]}) (dP hm) hro.2.2 (fun e=>h.cI _ mg e) (by omega) (by simp only[length_append,length_singleton];dsimp only at mQ;omega)
  simp only
  split
  ·have h2:=h1.aX m.slot r.b
   have hn:=(Site.jt ({s with rs:=aT m.slot {r with vt:=r.vt++[(m.aR,(⟨m.bU,m.cu⟩:Bl))]} s.rs}) m.slot r.b).n
   have h3:=h2.YH (dP hm) hro.2.2.1 (y:=y) (by omega)
   rw[hn]at h3
   exact h3.grow
  ·exact(h1.less (by omega)).grow
 ·exact(h.less (by omega)).grow
theorem fW(tg:Int)(ht:0≤tg∧tg≤6)(D:Int→Option (List UInt8))(hD:∀x v,D x=some v→v.length≤2048):∀(l:List Int)(s:Site)(z:Nat),bj s S R z→(∀x∈l,0≤x∧x<4096)→∀y,l.length+y≤z→
  bj (l.foldl (fun u x=>u.send tg (Site.bD x ((D x).getD []))) s) S R y
 |[],s,z,h,_,y,hy=>h.less (by simpa using hy)
 |x::l,s,z,h,hl,y,hy=>by
  have hv:((D x).getD []).length≤2048:=by
   cases e:D x with
   |none=>simp
   |some v=>exact hD x v e
  rw[length_cons]at hy
  exact fW tg ht D hD l _ _ (h.kM (hl x (by simp)) hv ht (y:=l.length+y) (by omega)) (fun q hq=>hl q (by simp[hq])) y (Nat.le_refl _)
theorem wanted(h:bj s S R z){m:Ms}(hm:m.bL){y:Nat}(hy:100+y≤z):kR s (s.wanted m) S R y:=by
 have key:∀{t:Site}{R':List Rc},bj t S R' (16+y)→bj ((((range' m.slot.toNat ((eT t.lv).toNat-m.slot.toNat)).map fun(i:Nat)=>(i:Int)).filter fun x=>(t.dec x).isSome).take 16 |>.foldl (fun u x=>u.send m.aR (Site.bD x ((t.dec x).getD []))) t) S R' y:=by
  intro t R' ht
  refine fW m.aR hm.aR t.dec (fun x v=>ht.wR) _ t _ ht (fun x hx=>?_) y ?_
  ·have h1:=mem_of_mem_take hx
   obtain⟨h2,h3⟩:=mem_filter.1 h1
   cases e:t.dec x with
   |none=>rw[e]at h3;cases h3
   |some v=>exact⟨(ht.lv _ (bG e)).1,(ht.lv _ (bG e)).2.1⟩
  ·rw[length_take];omega
 unfold Site.wanted
 simp only
 split
 ·obtain⟨R',h1,h2⟩:=h.skip (m.slot+1) (y:=16+y) (by omega)
  exact⟨R',h1,key h2⟩
 ·exact⟨R,prefix_refl _,key (h.less (by omega))⟩
theorem ct(h:bj s S R z){m:Ms}(hm:m.bL){y:Nat}(hy:cT m.kind+y≤z):kR s (s.ct m) S R y:=by
 have hk:=hm.kind
 unfold Site.ct
 split
 ·rename_i e;exact h.dI hm (by rw[e]at hy;simpa[cT]using hy)
 split
 ·unfold Site.eR
  split
  ·exact((h.aX _ _).less (by omega)).grow
  ·exact(h.less (by omega)).grow
 split
 ·rename_i e;exact h.ed hm (by rw[e]at hy;simpa[cT]using hy)
 split
 ·rename_i e;exact h.bT hm (by rw[e]at hy;simpa[cT]using hy)
 split
 ·rename_i e;exact h.asked hm (by rw[e]at hy;simpa[cT]using hy)
 split
 ·rename_i e;exact h.accepted hm (by rw[e]at hy;simpa[cT]using hy)
 split
 ·unfold Site.gr
  split
  ·exact((h.aX _ _).less (by omega)).grow
  ·exact(h.less (by omega)).grow
 split
 ·rename_i e;exact h.wanted hm (by rw[e]at hy;simpa[cT]using hy)
 ·exact(h.less (by omega)).grow
theorem take(h:bj s S R z){m:Ms}(hm:m.bL){y:Nat}(hy:cT m.kind+y≤z):kR s (s.take m) S R y:=by
 unfold Site.take
 split
 ·split
  ·rename_i v hv
   have:=rH m.kind
   exact(h.kM (dP hm) (h.wR hv) hm.aR (by omega)).grow
  ·exact h.ct hm hy
 ·exact h.ct hm hy
theorem ey:∀(l:List Ms)(s:Site)(R:List Rc)(z:Nat),bj s S R z→(∀m∈l,m.bL)→∀y,(l.map fun m=>cT m.kind).sum+y≤z→oO Qt s l∧kR s (l.foldl Site.take s) S R y
 |[],s,R,z,h,_,y,hy=>⟨trivial,(h.less (by simpa using hy)).grow⟩
 |m::l,s,R,z,h,hl,y,hy=>by
  rw[map_cons,sum_cons]at hy
  obtain⟨R',h1,h2⟩:=h.take (hl m (by simp)) (y:=(l.map fun m=>cT m.kind).sum+y) (by omega)
  obtain⟨h3,R2,h4,h5⟩:=ey l _ R' _ h2 (fun x hx=>hl x (by simp[hx])) y (Nat.le_refl _)
  exact⟨⟨h.qt m,h3⟩,R2,h1.trans h4,h5⟩
end bj
theorem Site.IV(s:Site):∀(k:Nat)(x:Int),x<4096→s.free k x<4096
 |0,x,h=>by unfold Site.free;exact h
 |k+1,x,h=>by
  unfold Site.free
  split
  ·exact Site.IV s k _ (by have:=fU (s.me:Int) (x+1).toNat s.n;omega)
  ·exact h
theorem NQ(me n pat:Nat):∀x∈(Site.new me n pat).wt,0≤x:=by intro x hx;simp[Site.new]at hx;omega
namespace bj
variable {s t:Site} {S R:List Rc} {z:Nat}
theorem new{me n pat:Nat}(h:im me n pat=true):bj (Site.new me n pat) [] [] 400000000:=
 ⟨Go.Proofs.YtijhlbeipglieaaGreat.Site.zv h,rfl,by simp,rfl,.nil,prefix_refl _,rfl,fun x=>rfl,by simp[Site.new],by simp[Site.new],by simp[Site.new,gD],by simp[Site.new],NQ _ _ _,by simp[Site.new]⟩
theorem sync(h:bj s S R z):oO Qt {s with dn:=s.db.length,held:=[]} (s.held.filter fun m=>decide (m.to=(s.me:Int)))∧
  (∃R',R <+:R'∧bj s.sync.1 R R' z)∧∀m∈s.sync.2,lh (dU R m.slot) m:=by
 have h1:bj {s with dn:=s.db.length,held:=[]} R R (gD s.me s.held+z):=by
  refine⟨h.ok.put (l:=[]) (by simp) |>.cZ s.db s.db.length,h.up,h.may,h.db,h.gR,prefix_refl _,by show s.db.length=_;rw[h.db],h.st,by simp,h.cI,by have:=h.lim;simp[gD];simp[gD]at this;omega,fun p hp=>?_,h.wt,h.lv⟩
  have:=h.kn p hp
  show _+gD s.me []+_≤_
  rw[IJ]
  omega
 have h2:=ey (s.held.filter fun m=>decide (m.to=(s.me:Int))) _ R _ h1 (fun m hm=>h.ok.held m (mem_filter.1 hm).1) z (by have:=IL s.me s.held;omega)
 refine⟨h2.1,?_,fun m hm=>?_⟩
 ·unfold Site.sync
  rw[if_neg (by rw[h.up];simp)]
  exact h2.2
 ·unfold Site.sync at hm
  rw[if_neg (by rw[h.up];simp)]at hm
  rw[←h.st]
  exact h.held m (mem_filter.1 hm).1
theorem Kr(h:bj s S R z){y:Nat}(hy:1+y≤z):bj {s with rs:=cD (fun r=>{r with cV:=r.cV+1}) s.rs} S R y:=by
 have hm:∀p∈cD (fun r:Rn=>{r with cV:=r.cV+1}) s.rs,∃q∈s.rs,p=(q.1,{q.2 with cV:=q.2.cV+1}):=fun p hp=>by
  obtain⟨q,hq,rfl⟩:=mem_map.1 hp
  exact⟨q,hq,rfl⟩
 refine⟨⟨h.ok.me,h.ok.n3,h.ok.n7,h.ok.pat,h.ok.st,fun p hp=>?_,h.ok.top,h.ok.nx,h.ok.held⟩,h.up,h.may,h.db,h.gR,h.pre,h.dn,h.st,h.held,fun p hp=>?_,by have:=h.lim;show gD s.me s.held+y≤_;omega,fun p hp=>?_,h.wt,h.lv⟩
 ·obtain⟨q,hq,rfl⟩:=hm p hp
  exact h.ok.rs q hq
 ·obtain⟨q,hq,rfl⟩:=hm p hp
  exact h.cI q hq
 ·obtain⟨q,hq,rfl⟩:=hm p hp
  have:=h.kn q hq
  show q.2.vt.length+q.2.pr.length+(q.2.cV+1)+gD s.me s.held+y≤_
  omega
theorem zS:∀(l:List (Int × Rn))(s:Site)(z:Nat),bj s S R z→(∀p∈l,(0≤p.1∧p.1<4096∧p.2.b.length≤2048∧p.2.aC.may 7=true)∧(p.2.so=true→eV (s.stat p.1) 1 p.2.aC))→∀y,6*l.length+y≤z→
  bj (l.foldl (fun u p=>u.others (Site.asks p.2 p.1) u.n) s) S R y
 |[],s,z,h,_,y,hy=>h.less (by simpa using hy)
 |p::l,s,z,h,hl,y,hy=>by
  rw[length_cons]at hy
  obtain⟨⟨h1,h2,h3,h4⟩,h5⟩:=hl p (by simp)
  have e:(Site.asks p.2 p.1).slot=p.1:=by unfold Site.asks;split<;>rfl
  have h6:=h.oD (m:=Site.asks p.2 p.1) (Site.iX ⟨h1,h2⟩ h4 h3) (by rw[e];exact zQ h5) (y:=6*l.length+y) (by omega)
  refine zS l _ _ h6 (fun q hq=>⟨(hl q (by simp[hq])).1,?_⟩) y (Nat.le_refl _)
  rw[Site.bH]
  exact(hl q (by simp[hq])).2
theorem again(h:bj s S R z){y:Nat}(hy:49+y≤z):bj s.again S R y:=by
 unfold Site.again
 refine zS _ _ _ (h.Kr (y:=48+y) (by omega)) (fun p hp=>?_) y (by rw[length_take];omega)
 have pN:=mem_of_mem_take hp
 have:=h.ok.rs p pN
 exact⟨⟨this.1,this.2.1,this.2.2.1,this.2.2.2.1⟩,h.cI p pN⟩
theorem nC:∀(l:List Int)(s:Site)(R:List Rc)(z:Nat),bj s S R z→(∀x∈l,0≤x∧x<4096)→∀y,22*l.length+y≤z→kR s (l.foldl Site.cK s) S R y
 |[],s,R,z,h,_,y,hy=>(h.less (by simpa using hy)).grow
 |x::l,s,R,z,h,hl,y,hy=>by
  rw[length_cons]at hy
  obtain⟨R',h1,h2⟩:=h.cK (hl x (by simp)) (y:=22*l.length+y) (by omega)
  obtain⟨R2,h3,h4⟩:=nC l _ R' _ h2 (fun q hq=>hl q (by simp[hq])) y (Nat.le_refl _)
  exact⟨R2,h1.trans h3,h4⟩
theorem tick(h:bj s S R z){y:Nat}(hy:300+y≤z):s.Fb∧kR s s.tick S R y:=by
 have h0:=h.zG (l:=cC s.me s.wt s.n) (tU _ h.wt _)
 have h1:bj s.ju S R (250+y):=h0.again (by omega)
 obtain⟨R3,p3,h3⟩:kR s.ju s.ck S R (190+y):=h1.skip _ (by omega)
 have MY:(s.ck.late s.ck.bF).length≤8:=by unfold Site.late;rw[length_take];omega
 have mQ:∀x∈s.ck.late s.ck.bF,0≤x∧x<4096:=fun x hx=>by have:=Site.sE _ hx;have:=h3.bF;omega
 obtain⟨R4,p4,h4⟩:kR s.ck s.gX S R3 (6+y):=nC _ _ _ _ h3 mQ (6+y) (by omega)
 refine⟨⟨by have:=h.oJ;omega,h.wt,fun p hp=>by have:=h.kn p hp;omega,by have:=h1.oJ;omega,fun j x hj=>?_,by have:=h4.oJ;omega⟩,R4,p3.trans p4,?_⟩
 ·obtain⟨R5,p5,h5⟩:=nC ((s.ck.late s.ck.bF).take j) s.ck R3 _ h3 (fun q hq=>mQ q (mem_of_mem_take hq)) 0 (by rw[length_take];omega)
  exact⟨by have:=h5.oJ;omega,h5.AW x,h5.fit x⟩
 ·rw[Site.qi _ h.up]
  split
  ·rename_i hf
   refine h4.oD (m:=Site.dT s.gX.front (decide ((s.gX.front:Int)<s.ck.bF))) ?_ (by intro e;revert e;simp[Site.dT,Ms.la]) (by omega)
   refine⟨by simp[Site.dT],by simp,by simp,by simp[Site.dT];omega,by simp[Site.dT],by simp[Site.dT],by simp[Site.dT],by simp[Site.dT],by simp[Site.dT],by simp[Site.dT]⟩
  ·exact h4.less (by omega)
end bj
structure Dn(s:Site)(S:List Rc):Prop where
 ok:s.Ok
 down:s.down=true
 pre:S <+:(cg s.db).1
 gR:Good (cg s.db).1
 dn:s.dn=s.db.length
 held:s.held.length≤400000000
theorem tQ{S R:List Rc}(h:S <+:R):(bX S).length≤(bX R).length:=by
 obtain⟨k,rfl⟩:=h
 rw[jy,length_append];omega
theorem Db{R S:List Rc}{m:Nat}(hS:S <+:R)(hm:m≤R.length)(hk:∀h:m<R.length,(bX S).length<(bX (R.take m)).length+(put R[m].bytes).length):S <+:R.take m:=by
 obtain⟨k,rfl⟩:=hS
 rcases Nat.lt_or_ge m S.length with h|h
 ·exfalso
  have h1:=hk (by simp;omega)
  rw[←length_append,←NU (by simp;omega)]at h1
  have h2:(S++k).take (m+1) <+:S:=by
   rw[take_append_of_le_length (by omega)]
   exact take_prefix _ _
  have:=tQ h2
  omega
 ·rw[take_append,take_of_length_le h]
  exact prefix_append _ _
theorem bj.dB{s:Site}{S R:List Rc}{z:Nat}(h:bj s S R z)(k:Int):Dn (s.dB k) S:=by
 have qJ:=tQ h.pre
 have hle:(bX S).length≤s.kept k∧s.kept k≤(bX R).length:=by
  unfold Site.kept
  rw[h.dn,h.db]
  omega
 obtain⟨m,h1,h2,h3,h4,h5⟩:=tR h.may (s.kept k) hle.2
 unfold Site.dB
 rw[if_neg (by rw[h.up];simp)]
 have e:s.db.take (s.kept k)=(bX R).take (s.kept k):=by rw[h.db]
 refine⟨⟨h.ok.me,h.ok.n3,h.ok.n7,h.ok.pat,h.ok.st,h.ok.rs,h.ok.top,h.ok.nx,h.ok.held⟩,rfl,?_,?_,?_,?_⟩
 ·show S <+:(cg (s.db.take (s.kept k))).1
  rw[e,h2]
  exact Db h.pre h1 fun hm=>Nat.lt_of_le_of_lt hle.1 (h5 hm)
 ·show Good (cg (s.db.take (s.kept k))).1
  rw[e,h2]
  exact h.gR.WA (take_prefix _ _)
 ·show s.kept k=(s.db.take (s.kept k)).length
  rw[e,length_take]
  omega
 ·have:=h.oJ
  show s.held.length≤_
  omega
structure mF(s t:Site)(R:List Rc):Prop where
 me:t.me=s.me
 n:t.n=s.n
 pat:t.pat=s.pat
 down:t.down=s.down
 db:t.db=s.db
 dn:t.dn=s.dn
 rs:t.rs=s.rs
 held:t.held=s.held
 lv:t.lv=s.lv
 wt:t.wt=s.wt
 nx:t.nx=s.nx
 taken:t.taken=s.taken
 ok:t.Ok
 st:∀x,t.stat x=dU R x
theorem KT{s:Site}(ef:s.Ok){r:Rc}(hr:r.bL){R:List Rc}(hst:∀x,s.stat x=dU R x):mF s (s.eh r) (R++[r]):=by
 have hb:r.aC.may 7=true:=Bl.jk.2 ⟨hr.round,hr.site⟩
 have hx:0≤r.slot∧r.slot<4096:=by have:=hr.slot;omega
 have hs:=ef.stat r.slot
 have turn:∀y:Sp,y=gQ (s.stat r.slot) r→(y.b.length≤2048∧y.p.may 7=true∧y.at_.may 7=true)→mF s (s.turn r.slot y) (R++[r]):=fun y hy hk=>
  ⟨rfl,rfl,rfl,rfl,rfl,rfl,rfl,rfl,rfl,rfl,rfl,rfl,ef.turn hx hk,fun x=>by
   rw[gI]
   show((aD x (aT r.slot y s.st)).getD Sp.zero)=_
   rw[cO]
   by_cases e:r.slot=x
   ·rw[if_pos e,if_pos e,←hst,←e,hy];rfl
   ·rw[if_neg e,if_neg e,←hst];rfl⟩
 unfold Site.eh
 split
 ·rename_i e
  refine turn _ ?_ ⟨hs.1,hb,hs.2.2⟩
  unfold gQ;rw[if_pos e];rfl
 ·rename_i e
  split
  ·rename_i e2
   refine⟨rfl,rfl,rfl,rfl,rfl,rfl,rfl,rfl,rfl,rfl,rfl,rfl,ef,fun x=>?_⟩
   rw[gI]
   split
   ·rename_i e3
    unfold gQ
    rw[if_neg e,←e3,←hst,if_pos (by exact e2)]
   ·exact hst x
  ·rename_i e2
   refine turn _ ?_ ⟨hr.val,hb,hb⟩
   unfold gQ;rw[if_neg e,if_neg (by exact e2)];rfl
theorem mF.trans{s t u:Site}{R R':List Rc}(h:mF s t R)(k:mF t u R'):mF s u R':=
 ⟨k.me.trans h.me,k.n.trans h.n,k.pat.trans h.pat,k.down.trans h.down,k.db.trans h.db,k.dn.trans h.dn,k.rs.trans h.rs,k.held.trans h.held,k.lv.trans h.lv,k.wt.trans h.wt,k.nx.trans h.nx,k.taken.trans h.taken,k.ok,k.st⟩
theorem tO:∀(l R:List Rc)(s:Site),s.Ok→(∀r∈l,r.bL)→(∀x,s.stat x=dU R x)→mF s (l.foldl Site.eh s) (R++l)
 |[],R,s,ef,_,hst=>by rw[append_nil];exact⟨rfl,rfl,rfl,rfl,rfl,rfl,rfl,rfl,rfl,rfl,rfl,rfl,ef,hst⟩
 |r::l,R,s,ef,hm,hst=>by
  have h1:=KT ef (hm r (by simp)) hst
  have h2:=tO l (R++[r]) (s.eh r) h1.ok (fun x hx=>hm x (by simp[hx])) h1.st
  have e:R++r::l=(R++[r])++l:=by simp
  rw[e]
  exact h1.trans h2
theorem Site.Ok.im{s:Site}(h:s.Ok):im s.me s.n s.pat=true:=by
 have:=h.me;have:=h.n3;have:=h.n7;have:=h.pat
 unfold aL.im
 simp only[Bool.and_eq_true,decide_eq_true_eq]
 omega
