/- For SitePlays. -/
import Derived.Test.YtijhlbeipglieaaGreatPkKeep
import Derived.Test.YtijhlbeipglieaaGreatPkHandC
import Derived.Test.YtijhlbeipglieaaGreatPkLate
set_option linter.all false
namespace aA
open Go Go.Proofs.YtijhlbeipglieaaGreat List
namespace aI
variable {s t:Site} {S R:List Rc} {z:Nat}
theorem jT(h:aI s S R z):s.held.length+z≤400000000:=by have:=h.lim;have:=X0 s.me s.held;omega
theorem qt(h:aI s S R z)(m:Ms):Qt s m:=⟨fun x=>h.fit x,by have:=h.jT;omega,fun p hp=>by have:=h.mh p hp;omega⟩
theorem bJ(h:aI s S R z):s.bJ≤4096:=by
 have h1:=h.ok.top.2
 have h2:=(xw s.lv fun p hp=>⟨(h.lv p hp).1,(h.lv p hp).2.1⟩).2
 unfold Site.bJ
 omega
theorem Er(h:aI s S R z){x:Int}{v:List UInt8}(hv:s.dec x=some v):v.length≤2048:=(h.lv _ (aY hv)).2.2
theorem Me(h:aI s S R z):0≤(s.me:Int)∧(s.me:Int)≤6:=by have:=h.ok.me;have:=h.ok.n7;omega
theorem acb{s:Site}{m:Ms}{tg:Int}{c:Nat}(hc:fA m.kind≤c):rC s.me (Ms.mk m.kind s.me tg m.slot m.dz m.ed m.fO m.ig m.some_ m.val)≤c:=Nat.le_trans (XY _ _) hc
theorem zG(h:aI s S R z){m:Ms}(hf:m.Fit){tg:Int}(ht:0≤tg∧tg≤6)(hk:kP (s.stat m.slot) m){y:Nat}(hz:fA m.kind+y≤z):aI (s.send tg m) S R y:=
 h.send hf ht hk (acb (Nat.le_refl _)) hz
theorem nZ(h:aI s S R z){x:Int}(hx:0≤x∧x<4096){b:Bl}(hb:b.may 7=true){v:List UInt8}(hv:v.length≤2048)(hn:s.accept x b v=some t):∃R',R <+:R'∧aI t S R' z∧iD (t.stat x) 1 b:=by
 obtain⟨⟨r,h1⟩,h2⟩:=h.accept hx hb hv hn
 exact⟨_,prefix_append _ _,h1,h2⟩
theorem jv(h:aI t S R z){b:Bl}(hb:b.may 7=true){x:Int}(hx:0≤x∧x<4096)(hk:iD (t.stat x) 1 b){y:Nat}(hy:7+y≤z):aI (t.jv b x) S R y:=by
 have hf:=Site.zk hx hb
 have hkm:∀t':Site,t'.stat x=t.stat x→kP (t'.stat (Site.fV x b).slot) (Site.fV x b):=fun t' e _=>by
  show iD (t'.stat x) 2 b
  rw[e];exact hk.kind (by decide)
 have h1:=h.qz hf (hkm t rfl) (y:=1+y) (by omega)
 have e1:(t.others (Site.fV x b) t.n).stat x=t.stat x:=by rw[Site.bH];rfl
 have h2:=h1.zG hf (tg:=(t.me:Int)) h.Me (hkm _ e1) (y:=y) (by simp[Site.fV,fA])
 exact h2.kQ (by omega)
theorem eG:∀(f c:Nat)(s:Site)(R:List Rc)(z:Nat),aI s S R z→∀(tg:Int)(y:Nat),7*(8-c)+y≤z→Grow s (Site.eG f c s tg) S R y
 |0,_,s,R,z,h,_,y,hy=>(h.less (by omega)).grow
 |f+1,c,s,R,z,h,tg,y,hy=>by
  unfold Site.eG
  split
  ·exact(h.less (by omega)).grow
  rename_i hc
  split
  ·exact(h.less (by omega)).grow
  rename_i hx
  have hr:=gz (s.me:Int) s.nx s.n
  have hx2:0≤aZ s.me s.nx s.n∧aZ s.me s.nx s.n<4096:=by omega
  split
  ·split
   ·exact(h.less (by omega)).grow
   ·rename_i t ha
    obtain⟨R',h1,h2,h3⟩:=h.nZ hx2 h.ok.own (by simp) ha
    have h4:=h2.jv h.ok.own hx2 h3 (y:=7*(8-(c+1))+y) (by omega)
    obtain⟨R2,h5,h6⟩:=eG f (c+1) _ R' _ h4 tg y (Nat.le_refl _)
    exact⟨R2,h1.trans h5,h6⟩
  ·exact eG f c _ R z (h.kQ (by omega)) tg y hy
theorem skip(h:aI s S R z)(tg:Int){y:Nat}(hy:56+y≤z):Grow s (s.skip tg) S R y:=eG _ _ s R z h tg y (by omega)
theorem Nq(h:aI s S R z)(x:Int):(s.low x).may 7=true:=by
 unfold Site.low
 split
 ·rename_i r hr
  split
  ·exact(h.ok.rs _ (aY hr)).2.2.2.1
  ·exact(h.ok.stat x).2.1
 ·exact(h.ok.stat x).2.1
theorem dw(h:aI s S R z){x:Int}(hx:0≤x∧x<4096){y:Nat}(hy:22+y≤z):Grow s (s.dw x) S R y:=by
 have hb:=Bl.BB (h.Nq x) (me:=s.me) (by have:=h.Me;omega)
 unfold Site.dw
 split
 ·exact(h.less (by omega)).grow
 split
 ·exact(h.less (by omega)).grow
 ·rename_i t ha
  obtain⟨⟨rc,h1⟩,h2⟩:=h.promise hx hb ha
  have h3:aI {t with rs:=aG x (⟨(s.low x).next s.me,[],false,[],[],0⟩:Rn) t.rs} S (R++[rc]) z:=h1.qM hx (by exact⟨by simp,hb,by simp⟩) (by intro e;cases e) (Nat.le_refl _) (by have:=h1.lim;simp;omega)
  have hn:t.n=s.n:=(Site.pq ha).2.1
  have h4:=h3.qz (m:=Site.asks (⟨(s.low x).next s.me,[],false,[],[],0⟩:Rn) x) (Site.iT hx hb (by simp)) (by intro e;revert e;simp[Site.asks,Ms.sF]) (y:=16+y) (by omega)
  have h4:aI (({t with rs:=aG x (⟨(s.low x).next s.me,[],false,[],[],0⟩:Rn) t.rs} :Site).others (Site.asks (⟨(s.low x).next s.me,[],false,[],[],0⟩:Rn) x) s.n) S (R++[rc]) (16+y):=by rw[←hn];exact h4
  have e1:(({t with rs:=aG x (⟨(s.low x).next s.me,[],false,[],[],0⟩:Rn) t.rs} :Site).others (Site.asks (⟨(s.low x).next s.me,[],false,[],[],0⟩:Rn) x) s.n).stat x=t.stat x:=by rw[Site.bH];rfl
  refine(⟨_,prefix_append _ _,h4.zG (Site.mX h4.ok hx hb (h4.fit x)) h4.Me ?_ ?_⟩:Grow _ _ _ _ _)
  ·intro _
   show iD (Site.stat _ x) 4 _
   rw[e1];exact h2
  ·show fA 4+y≤_
   simp[fA]
theorem zR(h:aI s S R z){x:Int}(hx:0≤x∧x<4096){b:Bl}(hb:b.may 7=true)(hk:iD (s.stat x) 1 b){tg:Int}(ht:0≤tg∧tg≤6){y:Nat}(hy:8+y≤z):aI (s.send tg (Site.dW x b)) S R y:=
 h.zG (Site.kz hx hb) ht (fun _=>by show iD (s.stat x) 6 b;exact hk.kind (by decide)) (by show fA 6+y≤z;simp[fA];omega)
theorem O7{r:Rn}{x:Int}{t:Sp}(hk:r.so=true→iD t 1 r.ax):kP t (Site.asks r x):=by
 intro ht
 unfold Site.asks at ht ⊢
 split
 ·rename_i e
  rw[if_pos e]at ht
  show iD t _ r.ax
  dsimp only
  split
  ·exact hk e
  ·rename_i e2
   rw[if_neg e2]at ht
   revert ht
   simp[Ms.sF]
 ·rename_i e
  rw[if_neg e]at ht
  revert ht
  simp[Ms.sF]
theorem sQ{m:Ms}(hm:m.May):m.ax.may 7=true:=Bl.jb.2 ⟨hm.dz,hm.ed⟩
theorem gY{m:Ms}(hm:m.May):0≤m.slot∧m.slot<4096:=by have:=hm.slot;omega
theorem iK(h:aI s S R z){m:Ms}(hm:m.May){y:Nat}(hy:100+y≤z):Grow s (s.iK m) S R y:=by
 unfold Site.iK
 split
 ·split
  ·rename_i t ha
   obtain⟨R',h1,h2,h3⟩:=h.nZ (gY hm) (sQ hm) hm.val ha
   have h4:=h2.zR (gY hm) (sQ hm) h3 hm.bO (y:=56+y) (by omega)
   obtain⟨R2,h5,h6⟩:=h4.skip m.slot (y:=y) (Nat.le_refl _)
   exact⟨R2,h1.trans h5,h6⟩
  ·exact h.skip _ (by omega)
 ·exact(h.less (by omega)).grow
theorem jl(h:aI s S R z){m:Ms}(hm:m.May){y:Nat}(hy:100+y≤z):Grow s (s.jl m) S R y:=by
 unfold Site.jl
 split
 ·split
  ·rename_i t ha
   obtain⟨⟨rc,h1⟩,h2⟩:=h.promise (gY hm) (sQ hm) ha
   exact⟨_,prefix_append _ _,h1.zG (Site.mX h1.ok (gY hm) (sQ hm) (h1.fit _)) hm.bO (fun _=>h2) (by show fA 4+y≤_;simp[fA];omega)⟩
  ·exact(h.less (by omega)).grow
 ·exact(h.less (by omega)).grow
theorem asked(h:aI s S R z){m:Ms}(hm:m.May){y:Nat}(hy:100+y≤z):Grow s (s.asked m) S R y:=by
 unfold Site.asked
 split
 ·split
  ·rename_i t ha
   obtain⟨R',h1,h2,h3⟩:=h.nZ (gY hm) (sQ hm) hm.val ha
   exact⟨R',h1,h2.zR (gY hm) (sQ hm) h3 hm.bO (by omega)⟩
  ·exact(h.less (by omega)).grow
 ·exact(h.less (by omega)).grow
theorem promised(h:aI s S R z){m:Ms}(hm:m.May){y:Nat}(hy:16+y≤z):Grow s (s.promised m) S R y:=by
 unfold Site.promised
 split
 ·exact(h.less (by omega)).grow
 rename_i r hr
 have hrm:=aY hr
 have hro:=h.ok.rs _ hrm
 have hlr:=h.mh _ hrm
 split
 ·rename_i hbs
  have hpl:∀q∈r.pr++[(⟨m.bO,m.some_,m.had,m.val⟩:Pm)],q.b.length≤2048:=fun q hq=>by
   rcases mem_append.1 hq with hq|hq
   ·exact hro.2.2.2.2 q hq
   ·rw[mem_singleton]at hq;subst hq;exact hm.val
  have h1:aI {s with rs:=aG m.slot {r with pr:=r.pr++[(⟨m.bO,m.some_,m.had,m.val⟩:Pm)]} s.rs} S R (z - 1):=
   h.qM (r:={r with pr:=r.pr++[(⟨m.bO,m.some_,m.had,m.val⟩:Pm)]}) (gY hm) ⟨hro.2.2.1,hro.2.2.2.1,hpl⟩ (by intro e;have e':r.so=true:=e;rw[hbs.2]at e';cases e') (by omega) (by simp only[length_append,length_singleton];dsimp only at hlr;omega)
  simp only
  split
  ·exact(h1.less (by omega)).grow
  ·rename_i v hv
   have hvl:=Cq hpl hv
   split
   ·exact((h1.Cx _).less (by omega)).grow
   ·rename_i u hu
    obtain⟨R',h2,h3,h4⟩:=h1.nZ (gY hm) hro.2.2.2.1 hvl hu
    have hfr:=Site.gD hu
    have hlu:u.held=s.held∧u.me=s.me∧u.n=s.n:=⟨hfr.2.2.1,hfr.1,hfr.2.1⟩
    have h5:aI {u with rs:=aG m.slot {r with pr:=r.pr++[(⟨m.bO,m.some_,m.had,m.val⟩:Pm)],so:=true,b:=v} u.rs} S R' (z - 1):=
     h3.qM (r:={r with pr:=r.pr++[(⟨m.bO,m.some_,m.had,m.val⟩:Pm)],so:=true,b:=v}) (gY hm) ⟨hvl,hro.2.2.2.1,hpl⟩ (fun _=>h4) (Nat.le_refl _) (by rw[hlu.1,hlu.2.1];simp only[length_append,length_singleton];dsimp only at hlr;omega)
    have h6:=h5.qz (m:=Site.asks {r with pr:=r.pr++[(⟨m.bO,m.some_,m.had,m.val⟩:Pm)],so:=true,b:=v} m.slot) (Site.iT (gY hm) hro.2.2.2.1 hvl) (O7 (x:=m.slot) fun _=>by
     have:(Site.asks {r with pr:=r.pr++[(⟨m.bO,m.some_,m.had,m.val⟩:Pm)],so:=true,b:=v} m.slot).slot=m.slot:=by unfold Site.asks;split<;>rfl
     rw[this];exact h4) (y:=8+y) (by omega)
    have h6:aI (({u with rs:=aG m.slot {r with pr:=r.pr++[(⟨m.bO,m.some_,m.had,m.val⟩:Pm)],so:=true,b:=v} u.rs} :Site).others (Site.asks {r with pr:=r.pr++[(⟨m.bO,m.some_,m.had,m.val⟩:Pm)],so:=true,b:=v} m.slot) s.n) S R' (8+y):=by rw[←hlu.2.2];exact h6
    refine⟨R',h2,h6.zR (gY hm) hro.2.2.2.1 ?_ h.Me (Nat.le_refl _)⟩
    rw[Site.bH]
    exact h4
 ·exact(h.less (by omega)).grow
theorem aby(h:aI s S R z){x:Int}(hx:0≤x∧x<4096){v:List UInt8}(hv:v.length≤2048){y:Nat}(hy:6+y≤z):aI (s.others (Site.tells x v) s.n) S R y:=
 h.qz (Site.kD hx hv) (by intro e;revert e;simp[Site.tells,Ms.sF]) hy
theorem lN(h:aI s S R z){x:Int}(hx:0≤x∧x<4096){v:List UInt8}(hv:v.length≤2048){tg:Int}(ht:0≤tg∧tg≤6){y:Nat}(hy:1+y≤z):aI (s.send tg (Site.tells x v)) S R y:=
 h.zG (Site.kD hx hv) ht (by intro e;revert e;simp[Site.tells,Ms.sF]) (by show fA 7+y≤z;simp[fA];omega)
theorem accepted(h:aI s S R z){m:Ms}(hm:m.May){y:Nat}(hy:8+y≤z):Grow s (s.accepted m) S R y:=by
 unfold Site.accepted
 split
 ·exact(h.less (by omega)).grow
 rename_i r hr
 have hrm:=aY hr
 have hro:=h.ok.rs _ hrm
 have hlr:=h.mh _ hrm
 split
 ·rename_i hbs
  have h1:aI {s with rs:=aG m.slot {r with vt:=r.vt++[(m.bO,(⟨m.dz,m.ed⟩:Bl))]} s.rs} S R (z - 1):=
   h.qM (r:={r with vt:=r.vt++[(m.bO,(⟨m.dz,m.ed⟩:Bl))]}) (gY hm) hro.2.2 (fun e=>h.bV _ hrm e) (by omega) (by simp only[length_append,length_singleton];dsimp only at hlr;omega)
  simp only
  split
  ·have h2:=h1.bE m.slot r.b
   have hn:=(Site.sN ({s with rs:=aG m.slot {r with vt:=r.vt++[(m.bO,(⟨m.dz,m.ed⟩:Bl))]} s.rs}) m.slot r.b).n
   have h3:=h2.aby (gY hm) hro.2.2.1 (y:=y) (by omega)
   rw[hn]at h3
   exact h3.grow
  ·exact(h1.less (by omega)).grow
 ·exact(h.less (by omega)).grow
theorem sends(tg:Int)(ht:0≤tg∧tg≤6)(D:Int→Option (List UInt8))(hD:∀x v,D x=some v→v.length≤2048):∀(l:List Int)(s:Site)(z:Nat),aI s S R z→(∀x∈l,0≤x∧x<4096)→∀y,l.length+y≤z→
  aI (l.foldl (fun u x=>u.send tg (Site.tells x ((D x).getD []))) s) S R y
 |[],s,z,h,_,y,hy=>h.less (by simpa using hy)
 |x::l,s,z,h,hl,y,hy=>by
  have hv:((D x).getD []).length≤2048:=by
   cases e:D x with
   |none=>simp
   |some v=>exact hD x v e
  rw[length_cons]at hy
  exact sends tg ht D hD l _ _ (h.lN (hl x (by simp)) hv ht (y:=l.length+y) (by omega)) (fun q hq=>hl q (by simp[hq])) y (Nat.le_refl _)
theorem wanted(h:aI s S R z){m:Ms}(hm:m.May){y:Nat}(hy:100+y≤z):Grow s (s.wanted m) S R y:=by
 have key:∀{t:Site}{R':List Rc},aI t S R' (16+y)→aI ((((range' m.slot.toNat ((fQ t.lv).toNat-m.slot.toNat)).map fun(i:Nat)=>(i:Int)).filter fun x=>(t.dec x).isSome).take 16 |>.foldl (fun u x=>u.send m.bO (Site.tells x ((t.dec x).getD []))) t) S R' y:=by
  intro t R' ht
  refine sends m.bO hm.bO t.dec (fun x v=>ht.Er) _ t _ ht (fun x hx=>?_) y ?_
  ·have h1:=mem_of_mem_take hx
   obtain⟨h2,h3⟩:=mem_filter.1 h1
   cases e:t.dec x with
   |none=>rw[e]at h3;cases h3
   |some v=>exact⟨(ht.lv _ (aY e)).1,(ht.lv _ (aY e)).2.1⟩
  ·rw[length_take];omega
 unfold Site.wanted
 simp only
 split
 ·obtain⟨R',h1,h2⟩:=h.skip (m.slot+1) (y:=16+y) (by omega)
  exact⟨R',h1,key h2⟩
 ·exact⟨R,prefix_refl _,key (h.less (by omega))⟩
theorem does(h:aI s S R z){m:Ms}(hm:m.May){y:Nat}(hy:fA m.kind+y≤z):Grow s (s.does m) S R y:=by
 have hk:=hm.kind
 unfold Site.does
 split
 ·rename_i e;exact h.iK hm (by rw[e]at hy;simpa[fA]using hy)
 split
 ·unfold Site.skipped
  split
  ·exact((h.bE _ _).less (by omega)).grow
  ·exact(h.less (by omega)).grow
 split
 ·rename_i e;exact h.jl hm (by rw[e]at hy;simpa[fA]using hy)
 split
 ·rename_i e;exact h.promised hm (by rw[e]at hy;simpa[fA]using hy)
 split
 ·rename_i e;exact h.asked hm (by rw[e]at hy;simpa[fA]using hy)
 split
 ·rename_i e;exact h.accepted hm (by rw[e]at hy;simpa[fA]using hy)
 split
 ·unfold Site.lM
  split
  ·exact((h.bE _ _).less (by omega)).grow
  ·exact(h.less (by omega)).grow
 split
 ·rename_i e;exact h.wanted hm (by rw[e]at hy;simpa[fA]using hy)
 ·exact(h.less (by omega)).grow
theorem take(h:aI s S R z){m:Ms}(hm:m.May){y:Nat}(hy:fA m.kind+y≤z):Grow s (s.take m) S R y:=by
 unfold Site.take
 split
 ·split
  ·rename_i v hv
   have:=yN m.kind
   exact(h.lN (gY hm) (h.Er hv) hm.bO (by omega)).grow
  ·exact h.does hm hy
 ·exact h.does hm hy
theorem takes:∀(l:List Ms)(s:Site)(R:List Rc)(z:Nat),aI s S R z→(∀m∈l,m.May)→∀y,(l.map fun m=>fA m.kind).sum+y≤z→Folds Qt s l∧Grow s (l.foldl Site.take s) S R y
 |[],s,R,z,h,_,y,hy=>⟨trivial,(h.less (by simpa using hy)).grow⟩
 |m::l,s,R,z,h,hl,y,hy=>by
  rw[map_cons,sum_cons]at hy
  obtain⟨R',h1,h2⟩:=h.take (hl m (by simp)) (y:=(l.map fun m=>fA m.kind).sum+y) (by omega)
  obtain⟨h3,R2,h4,h5⟩:=takes l _ R' _ h2 (fun x hx=>hl x (by simp[hx])) y (Nat.le_refl _)
  exact⟨⟨h.qt m,h3⟩,R2,h1.trans h4,h5⟩
end aI
theorem Site.Nr(s:Site):∀(k:Nat)(x:Int),x<4096→s.free k x<4096
 |0,x,h=>by unfold Site.free;exact h
 |k+1,x,h=>by
  unfold Site.free
  split
  ·exact Site.Nr s k _ (by have:=gz (s.me:Int) (x+1).toNat s.n;omega)
  ·exact h
theorem RP(me n pat:Nat):∀x∈(Site.new me n pat).wt,0≤x:=by intro x hx;simp[Site.new]at hx;omega
namespace aI
variable {s t:Site} {S R:List Rc} {z:Nat}
theorem new{me n pat:Nat}(h:iC me n pat=true):aI (Site.new me n pat) [] [] 400000000:=
 ⟨Go.Proofs.YtijhlbeipglieaaGreat.Site.Kb h,rfl,by simp,rfl,.nil,prefix_refl _,rfl,fun x=>rfl,by simp[Site.new],by simp[Site.new],by simp[Site.new,il],by simp[Site.new],RP _ _ _,by simp[Site.new]⟩
theorem cZ(h:aI s S R z)(v:List UInt8){y:Nat}(hy:20+y≤z):Grow s (s.cZ v).1 S R y:=by
 by_cases hv:v.length=0∨2048<v.length
 ·unfold Site.cZ
  rw[if_neg (by rw[h.up];simp),if_pos hv]
  exact(h.less (by omega)).grow
 ·rw[Site.zy s v h.up (by omega) (by omega)]
  have hx:=s.Nr 4096 (aZ s.me s.nx s.n) (by have:=gz (s.me:Int) s.nx s.n;omega)
  generalize s.free 4096 (aZ s.me s.nx s.n)=x at *
  unfold Site.vE
  split
  ·exact(h.less (by omega)).grow
  split
  ·exact(h.less (by omega)).grow
  ·rename_i t ha
   obtain⟨R',h1,h2,h3⟩:=h.nZ (by omega) h.ok.own (by omega) ha
   have h4:aI {t with nx:=(x+1).toNat,rs:=aG x (⟨s.ownB,[],true,v,[],0⟩:Rn) t.rs} S R' z:=
    (h2.kQ (k:=(x+1).toNat) (by omega)).qM (r:=(⟨s.ownB,[],true,v,[],0⟩:Rn)) (by omega) ⟨by show v.length≤2048;omega,h.ok.own,by simp⟩ (fun _=>h3) (Nat.le_refl _) (by have:=h2.lim;simp;omega)
   have h5:=h4.qz (m:=Site.asks ⟨s.ownB,[],true,v,[],0⟩ x) (Site.iT (by omega) h.ok.own (by show v.length≤2048;omega)) (by
    have e:(Site.asks ⟨s.ownB,[],true,v,[],0⟩ x).slot=x:=by unfold Site.asks;split<;>rfl
    rw[e]
    exact O7 (x:=x) (t:=t.stat x) fun _=>h3) (y:=8+y) (by omega)
   have hme:=(Site.gD ha).1
   refine⟨R',h1,h5.zR (by omega) h.ok.own ?_ h2.Me (Nat.le_refl _)⟩
   rw[Site.bH]
   exact h3
theorem handle(h:aI s S R z)(m:Ms){y:Nat}(hy:100+y≤z):Grow s (s.handle m).1 S R y:=by
 unfold Site.handle
 rw[if_neg (by rw[h.up];simp)]
 split
 ·exact(h.less (by omega)).grow
 rename_i hm
 split
 ·exact(h.less (by omega)).grow
 ·refine(h.uQ (l:=s.wt.set m.bO.toNat 0) fun x hx=>?_).take (by simpa using hm) (by have:=Tn m.kind;omega)
  rcases mem_or_eq_of_mem_set hx with hx|rfl
  ·exact h.wt x hx
  ·omega
theorem sync(h:aI s S R z):Folds Qt {s with dn:=s.db.length,held:=[]} (s.held.filter fun m=>decide (m.to=(s.me:Int)))∧
  (∃R',R <+:R'∧aI s.sync.1 R R' z)∧∀m∈s.sync.2,kP (gu R m.slot) m:=by
 have h1:aI {s with dn:=s.db.length,held:=[]} R R (il s.me s.held+z):=by
  refine⟨h.ok.put (l:=[]) (by simp) |>.disk s.db s.db.length,h.up,h.may,h.db,h.good,prefix_refl _,by show s.db.length=_;rw[h.db],h.st,by simp,h.bV,by have:=h.lim;simp[il];simp[il]at this;omega,fun p hp=>?_,h.wt,h.lv⟩
  have:=h.mh p hp
  show _+il s.me []+_≤_
  rw[Mj]
  omega
 have h2:=takes (s.held.filter fun m=>decide (m.to=(s.me:Int))) _ R _ h1 (fun m hm=>h.ok.held m (mem_filter.1 hm).1) z (by have:=Ml s.me s.held;omega)
 refine⟨h2.1,?_,fun m hm=>?_⟩
 ·unfold Site.sync
  rw[if_neg (by rw[h.up];simp)]
  exact h2.2
 ·unfold Site.sync at hm
  rw[if_neg (by rw[h.up];simp)]at hm
  rw[←h.st]
  exact h.held m (mem_filter.1 hm).1
theorem apU(h:aI s S R z){y:Nat}(hy:1+y≤z):aI {s with rs:=bS (fun r=>{r with bG:=r.bG+1}) s.rs} S R y:=by
 have hm:∀p∈bS (fun r:Rn=>{r with bG:=r.bG+1}) s.rs,∃q∈s.rs,p=(q.1,{q.2 with bG:=q.2.bG+1}):=fun p hp=>by
  obtain⟨q,hq,rfl⟩:=mem_map.1 hp
  exact⟨q,hq,rfl⟩
 refine⟨⟨h.ok.me,h.ok.n3,h.ok.n7,h.ok.pat,h.ok.st,fun p hp=>?_,h.ok.top,h.ok.nx,h.ok.held⟩,h.up,h.may,h.db,h.good,h.pre,h.dn,h.st,h.held,fun p hp=>?_,by have:=h.lim;show il s.me s.held+y≤_;omega,fun p hp=>?_,h.wt,h.lv⟩
 ·obtain⟨q,hq,rfl⟩:=hm p hp
  exact h.ok.rs q hq
 ·obtain⟨q,hq,rfl⟩:=hm p hp
  exact h.bV q hq
 ·obtain⟨q,hq,rfl⟩:=hm p hp
  have:=h.mh q hq
  show q.2.vt.length+q.2.pr.length+(q.2.bG+1)+il s.me s.held+y≤_
  omega
theorem Xr:∀(l:List (Int × Rn))(s:Site)(z:Nat),aI s S R z→(∀p∈l,(0≤p.1∧p.1<4096∧p.2.b.length≤2048∧p.2.ax.may 7=true)∧(p.2.so=true→iD (s.stat p.1) 1 p.2.ax))→∀y,6*l.length+y≤z→
  aI (l.foldl (fun u p=>u.others (Site.asks p.2 p.1) u.n) s) S R y
 |[],s,z,h,_,y,hy=>h.less (by simpa using hy)
 |p::l,s,z,h,hl,y,hy=>by
  rw[length_cons]at hy
  obtain⟨⟨h1,h2,h3,h4⟩,h5⟩:=hl p (by simp)
  have e:(Site.asks p.2 p.1).slot=p.1:=by unfold Site.asks;split<;>rfl
  have h6:=h.qz (m:=Site.asks p.2 p.1) (Site.iT ⟨h1,h2⟩ h4 h3) (by rw[e];exact O7 h5) (y:=6*l.length+y) (by omega)
  refine Xr l _ _ h6 (fun q hq=>⟨(hl q (by simp[hq])).1,?_⟩) y (Nat.le_refl _)
  rw[Site.bH]
  exact(hl q (by simp[hq])).2
theorem again(h:aI s S R z){y:Nat}(hy:49+y≤z):aI s.again S R y:=by
 unfold Site.again
 refine Xr _ _ _ (h.apU (y:=48+y) (by omega)) (fun p hp=>?_) y (by rw[length_take];omega)
 have hp':=mem_of_mem_take hp
 have:=h.ok.rs p hp'
 exact⟨⟨this.1,this.2.1,this.2.2.1,this.2.2.2.1⟩,h.bV p hp'⟩
theorem begins:∀(l:List Int)(s:Site)(R:List Rc)(z:Nat),aI s S R z→(∀x∈l,0≤x∧x<4096)→∀y,22*l.length+y≤z→Grow s (l.foldl Site.dw s) S R y
 |[],s,R,z,h,_,y,hy=>(h.less (by simpa using hy)).grow
 |x::l,s,R,z,h,hl,y,hy=>by
  rw[length_cons]at hy
  obtain⟨R',h1,h2⟩:=h.dw (hl x (by simp)) (y:=22*l.length+y) (by omega)
  obtain⟨R2,h3,h4⟩:=begins l _ R' _ h2 (fun q hq=>hl q (by simp[hq])) y (Nat.le_refl _)
  exact⟨R2,h1.trans h3,h4⟩
theorem tick(h:aI s S R z){y:Nat}(hy:300+y≤z):s.BU∧Grow s s.tick S R y:=by
 have h0:=h.uQ (l:=bu s.me s.wt s.n) (wZ _ h.wt _)
 have h1:aI s.kT S R (250+y):=h0.again (by omega)
 obtain⟨R3,p3,h3⟩:Grow s.kT s.dA S R (190+y):=h1.skip _ (by omega)
 have PR:(s.dA.late s.dA.bJ).length≤8:=by unfold Site.late;rw[length_take];omega
 have hlr:∀x∈s.dA.late s.dA.bJ,0≤x∧x<4096:=fun x hx=>by have:=Site.zL _ hx;have:=h3.bJ;omega
 obtain⟨R4,p4,h4⟩:Grow s.dA s.eF S R3 (6+y):=begins _ _ _ _ h3 hlr (6+y) (by omega)
 refine⟨⟨by have:=h.jT;omega,h.wt,fun p hp=>by have:=h.mh p hp;omega,by have:=h1.jT;omega,fun j x hj=>?_,by have:=h4.jT;omega⟩,R4,p3.trans p4,?_⟩
 ·obtain⟨R5,p5,h5⟩:=begins ((s.dA.late s.dA.bJ).take j) s.dA R3 _ h3 (fun q hq=>hlr q (mem_of_mem_take hq)) 0 (by rw[length_take];omega)
  exact⟨by have:=h5.jT;omega,h5.Nq x,h5.fit x⟩
 ·rw[Site.zK _ h.up]
  split
  ·rename_i hf
   refine h4.qz (m:=Site.iW s.eF.front (decide ((s.eF.front:Int)<s.dA.bJ))) ?_ (by intro e;revert e;simp[Site.iW,Ms.sF]) (by omega)
   refine⟨by simp[Site.iW],by simp,by simp,by simp[Site.iW];omega,by simp[Site.iW],by simp[Site.iW],by simp[Site.iW],by simp[Site.iW],by simp[Site.iW],by simp[Site.iW]⟩
  ·exact h4.less (by omega)
end aI
structure Dn(s:Site)(S:List Rc):Prop where
 ok:s.Ok
 down:s.down=true
 pre:S <+:(bU s.db).1
 good:Good (bU s.db).1
 dn:s.dn=s.db.length
 held:s.held.length≤400000000
theorem Ku{S R:List Rc}(h:S <+:R):(bn S).length≤(bn R).length:=by
 obtain⟨k,rfl⟩:=h
 rw[jJ,length_append];omega
theorem GD{R S:List Rc}{m:Nat}(hS:S <+:R)(hm:m≤R.length)(hk:∀h:m<R.length,(bn S).length<(bn (R.take m)).length+(put R[m].bytes).length):S <+:R.take m:=by
 obtain⟨k,rfl⟩:=hS
 rcases Nat.lt_or_ge m S.length with h|h
 ·exfalso
  have h1:=hk (by simp;omega)
  rw[←length_append,←Qz (by simp;omega)]at h1
  have h2:(S++k).take (m+1) <+:S:=by
   rw[take_append_of_le_length (by omega)]
   exact take_prefix _ _
  have:=Ku h2
  omega
 ·rw[take_append,take_of_length_le h]
  exact prefix_append _ _
theorem aI.jq{s:Site}{S R:List Rc}{z:Nat}(h:aI s S R z)(k:Int):Dn (s.jq k) S:=by
 have afZ:=Ku h.pre
 have hle:(bn S).length≤s.kept k∧s.kept k≤(bn R).length:=by
  unfold Site.kept
  rw[h.dn,h.db]
  omega
 obtain⟨m,h1,h2,h3,h4,h5⟩:=Om h.may (s.kept k) hle.2
 unfold Site.jq
 rw[if_neg (by rw[h.up];simp)]
 have e:s.db.take (s.kept k)=(bn R).take (s.kept k):=by rw[h.db]
 refine⟨⟨h.ok.me,h.ok.n3,h.ok.n7,h.ok.pat,h.ok.st,h.ok.rs,h.ok.top,h.ok.nx,h.ok.held⟩,rfl,?_,?_,?_,?_⟩
 ·show S <+:(bU (s.db.take (s.kept k))).1
  rw[e,h2]
  exact GD h.pre h1 fun hm=>Nat.lt_of_le_of_lt hle.1 (h5 hm)
 ·show Good (bU (s.db.take (s.kept k))).1
  rw[e,h2]
  exact h.good.pfx (take_prefix _ _)
 ·show s.kept k=(s.db.take (s.kept k)).length
  rw[e,length_take]
  omega
 ·have:=h.jT
  show s.held.length≤_
  omega
structure oM(s t:Site)(R:List Rc):Prop where
 me:t.me=s.me
 n:t.n=s.n
 pat:t.pat=s.pat
 down:t.down=s.down
 db:t.db=s.db
 dn:t.dn=s.dn
 rs:t.rs=s.rs
 held:t.held=s.held
 lv:t.lv=s.lv
 wt:t.wt=s.wt
 nx:t.nx=s.nx
 taken:t.taken=s.taken
 ok:t.Ok
 st:∀x,t.stat x=gu R x
theorem D6{s:Site}(hok:s.Ok){r:Rc}(hr:r.May){R:List Rc}(hst:∀x,s.stat x=gu R x):oM s (s.dR r) (R++[r]):=by
 have hb:r.ax.may 7=true:=Bl.jb.2 ⟨hr.round,hr.site⟩
 have hx:0≤r.slot∧r.slot<4096:=by have:=hr.slot;omega
 have hs:=hok.stat r.slot
 have turn:∀y:Sp,y=mJ (s.stat r.slot) r→(y.b.length≤2048∧y.p.may 7=true∧y.at_.may 7=true)→oM s (s.turn r.slot y) (R++[r]):=fun y hy hk=>
  ⟨rfl,rfl,rfl,rfl,rfl,rfl,rfl,rfl,rfl,rfl,rfl,rfl,hok.turn hx hk,fun x=>by
   rw[mK]
   show((aC x (aG r.slot y s.st)).getD Sp.zero)=_
   rw[kC]
   by_cases e:r.slot=x
   ·rw[if_pos e,if_pos e,←hst,←e,hy];rfl
   ·rw[if_neg e,if_neg e,←hst];rfl⟩
 unfold Site.dR
 split
 ·rename_i e
  refine turn _ ?_ ⟨hs.1,hb,hs.2.2⟩
  unfold mJ;rw[if_pos e];rfl
 ·rename_i e
  split
  ·rename_i e2
   refine⟨rfl,rfl,rfl,rfl,rfl,rfl,rfl,rfl,rfl,rfl,rfl,rfl,hok,fun x=>?_⟩
   rw[mK]
   split
   ·rename_i e3
    unfold mJ
    rw[if_neg e,←e3,←hst,if_pos (by exact e2)]
   ·exact hst x
  ·rename_i e2
   refine turn _ ?_ ⟨hr.val,hb,hb⟩
   unfold mJ;rw[if_neg e,if_neg (by exact e2)];rfl
theorem oM.trans{s t u:Site}{R R':List Rc}(h:oM s t R)(k:oM t u R'):oM s u R':=
 ⟨k.me.trans h.me,k.n.trans h.n,k.pat.trans h.pat,k.down.trans h.down,k.db.trans h.db,k.dn.trans h.dn,k.rs.trans h.rs,k.held.trans h.held,k.lv.trans h.lv,k.wt.trans h.wt,k.nx.trans h.nx,k.taken.trans h.taken,k.ok,k.st⟩
theorem D8:∀(l R:List Rc)(s:Site),s.Ok→(∀r∈l,r.May)→(∀x,s.stat x=gu R x)→oM s (l.foldl Site.dR s) (R++l)
 |[],R,s,hok,_,hst=>by rw[append_nil];exact⟨rfl,rfl,rfl,rfl,rfl,rfl,rfl,rfl,rfl,rfl,rfl,rfl,hok,hst⟩
 |r::l,R,s,hok,hm,hst=>by
  have h1:=D6 hok (hm r (by simp)) hst
  have h2:=D8 l (R++[r]) (s.dR r) h1.ok (fun x hx=>hm x (by simp[hx])) h1.st
  have e:R++r::l=(R++[r])++l:=by simp
  rw[e]
  exact h1.trans h2
theorem Site.Ok.iC{s:Site}(h:s.Ok):iC s.me s.n s.pat=true:=by
 have:=h.me;have:=h.n3;have:=h.n7;have:=h.pat
 unfold aA.iC
 simp only[Bool.and_eq_true,decide_eq_true_eq]
 omega
theorem Dn.dE{s:Site}{S:List Rc}(h:Dn s S):∃R,S <+:R∧aI s.dE R R 400000000∧s.dE.dn=s.dE.db.length∧s.dE.held= []∧s.dE.lv= []∧s.dE.taken=0:=by
 obtain⟨k1,k2,k3⟩:=oH s.db
 have h0:({Site.new s.me s.n s.pat with db:=s.db.take (bU s.db).2,dn:=min s.dn (bU s.db).2} :Site).Ok:=(Go.Proofs.YtijhlbeipglieaaGreat.Site.Kb h.ok.iC).disk _ _
 have h1:=D8 (bU s.db).1 [] _ h0 k3 (fun x=>rfl)
 rw[nil_append]at h1
 have hd:min s.dn (bU s.db).2=(s.db.take (bU s.db).2).length:=by rw[h.dn,length_take];omega
 have e:s.dE=(bU s.db).1.foldl Site.dR {Site.new s.me s.n s.pat with db:=s.db.take (bU s.db).2,dn:=min s.dn (bU s.db).2}:=by
  unfold Site.dE
  rw[if_pos h.down]
 rw[e]
 refine⟨(bU s.db).1,h.pre,⟨h1.ok,h1.down,k3,by rw[h1.db];exact k2.symm,h.good,prefix_refl _,?_,h1.st,?_,?_,?_,?_,?_,?_⟩,?_,h1.held,h1.lv,h1.taken⟩
 ·rw[h1.dn,k2];exact hd
 ·rw[h1.held];intro m hm;cases hm
 ·rw[h1.rs];intro p hp;cases hp
 ·rw[h1.held];simp[Site.new,il]
 ·rw[h1.rs];intro p hp;cases hp
 ·rw[h1.wt];exact RP s.me s.n s.pat
 ·rw[h1.lv];intro p hp;cases hp
 ·rw[h1.dn,h1.db];exact hd
namespace Site
noncomputable def act (s:Site) (k n:Int) (v:List UInt8) (m:Ms):Site × List Ms:=
 if k=0 then((s.cZ v).1,[])else if k=1 then((s.handle m).1,[])else if k=2 then(s.tick,[])else if k=3 then s.sync
 else if k=4 then(s.jq n,[])else if k=5 then(s.dE,[]) else(s,[])
variable {s:Site}
theorem LP(h:s.down=true)(v:List UInt8):(s.cZ v)=(s,0,14):=by unfold cZ;rw[if_pos h]
theorem LQ(h:s.down=true)(m:Ms):(s.handle m)=(s,14):=by unfold handle;rw[if_pos h]
theorem RQ(h:s.down=true):s.tick=s:=by unfold tick;rw[if_pos h]
theorem RS(h:s.down=true):s.sync=(s,[]):=by unfold sync;rw[if_pos h]
theorem O8(h:s.down=true)(k:Int):s.jq k=s:=by unfold jq;rw[if_pos h]
theorem O9(h:s.down=false):s.dE=s:=by unfold dE;rw[if_neg (by rw[h];simp)]
end Site
def Inv(s:Site)(told:List Ms)(c:Nat):Prop:=
 c≤1000000∧∃S,(∀m∈told,kP (gu S m.slot) m)∧((∃R z,aI s S R z∧300*c≤z)∨Dn s S)
theorem Inv.down{s:Site}{told:List Ms}{c:Nat}(h:Inv s told c)(hd:s.down=true):∃S,Dn s S∧∀m∈told,kP (gu S m.slot) m:=by
 obtain⟨-,S,h1,⟨R,z,h2,-⟩|h2⟩:=h
 ·have:=h2.up;rw[hd]at this;cases this
 ·exact⟨S,h2,h1⟩
theorem Inv.up{s:Site}{told:List Ms}{c:Nat}(h:Inv s told c)(hd:s.down=false):∃S R z,aI s S R z∧300*c≤z∧∀m∈told,kP (gu S m.slot) m:=by
 obtain⟨-,S,h1,⟨R,z,h2,h3⟩|h2⟩:=h
 ·exact⟨S,R,z,h2,h3,h1⟩
 ·have:=h2.down;rw[hd]at this;cases this
theorem Inv.ok{s:Site}{told:List Ms}{c:Nat}(h:Inv s told c):s.Ok:=by
 obtain⟨-,S,h1,⟨R,z,h2,h3⟩|h2⟩:=h
 ·exact h2.ok
 ·exact h2.ok
theorem Inv.less{s:Site}{told:List Ms}{c d:Nat}(h:Inv s told c)(hd:d≤c):Inv s told d:=by
 obtain⟨h0,S,h1,h2⟩:=h
 exact⟨by omega,S,h1,h2.imp (fun⟨R,z,h3,h4⟩=>⟨R,z,h3,by omega⟩) id⟩
theorem Inv.new{me n pat:Nat}(h:iC me n pat=true):Inv (Site.new me n pat) [] 1000000:=
 ⟨Nat.le_refl _,[],by simp,.inl ⟨[],400000000,aI.new h,by omega⟩⟩
theorem Inv.jT{s:Site}{told:List Ms}{c:Nat}(h:Inv s told c):s.held.length≤400000000:=by
 obtain⟨-,S,h1,⟨R,z,h2,h3⟩|h2⟩:=h
 ·have:=h2.jT;omega
 ·exact h2.held
theorem Inv.grow{s t:Site}{told:List Ms}{S R:List Rc}{z c:Nat}(h:Grow s t S R z)(hc:c≤1000000)(ht:∀m∈told,kP (gu S m.slot) m)(hz:300*c≤z):Inv t told c:=by
 obtain⟨R',-,h2⟩:=h
 exact⟨hc,S,ht,.inl ⟨R',z,h2,hz⟩⟩
theorem Inv.act{s:Site}{told:List Ms}{c:Nat}(h:Inv s told (c+1))(k n:Int)(v:List UInt8)(m:Ms):Inv (s.act k n v m).1 (told++(s.act k n v m).2) c:=by
 have hc:=h.1
 cases hd:s.down with
 |true=>
  have same:Inv s (told++[]) c:=by rw[append_nil];exact h.less (by omega)
  unfold Site.act
  split
  ·rw[Site.LP hd];exact same
  split
  ·rw[Site.LQ hd];exact same
  split
  ·rw[Site.RQ hd];exact same
  split
  ·rw[Site.RS hd];exact same
  split
  ·rw[Site.O8 hd];exact same
  split
  ·obtain⟨S,h1,h2⟩:=h.down hd
   obtain⟨R,h3,h4,-⟩:=h1.dE
   rw[append_nil]
   exact⟨by omega,R,fun m hm=>(h2 m hm).mono (h4.good.leP h3 _),.inl ⟨R,_,h4,by omega⟩⟩
  ·exact same
 |false=>
  obtain⟨S,R,z,h1,h2,h3⟩:=h.up hd
  unfold Site.act
  split
  ·rw[append_nil];exact Inv.grow (h1.cZ v (y:=300*c) (by omega)) (by omega) h3 (Nat.le_refl _)
  split
  ·rw[append_nil];exact Inv.grow (h1.handle m (y:=300*c) (by omega)) (by omega) h3 (Nat.le_refl _)
  split
  ·rw[append_nil];exact Inv.grow (h1.tick (y:=300*c) (by omega)).2 (by omega) h3 (Nat.le_refl _)
  split
  ·obtain⟨-,⟨R',h4,h5⟩,h6⟩:=h1.sync
   refine⟨by omega,R,fun m hm=>?_,.inl ⟨R',z,h5,by omega⟩⟩
   rcases mem_append.1 hm with hm|hm
   ·exact(h3 m hm).mono (h1.good.leP h1.pre _)
   ·exact h6 m hm
  split
  ·rw[append_nil];exact⟨by omega,S,h3,.inr (h1.jq n)⟩
  split
  ·rw[Site.O9 hd,append_nil];exact h.less (by omega)
  ·rw[append_nil];exact h.less (by omega)
