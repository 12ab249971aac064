/- For WorldCalm. -/
import Derived.Test.YtijhlbeipglieaaGreatPkWorld
set_option linter.all false
namespace aL
open Go Go.Proofs.YtijhlbeipglieaaGreat List
theorem DT(me n:Nat):∀(k s:Nat),(kO me n k s= -1∧∀z,s≤z→z<s+k→z % n≠me)∨
  ∃y:Nat,kO me n k s=y∧s≤y∧y<s+k∧y % n=me∧∀z,s≤z→z<y→z % n≠me
 |0,s=>.inl ⟨rfl,fun z h1 h2=>by omega⟩
 |k+1,s=>by
  have e:((s:Int).tmod n=(me:Int)) ↔ s % n=me:=by
   rw[show((s:Int).tmod n)=((s % n:Nat):Int)from rfl];omega
  unfold kO
  by_cases h:s % n=me
  ·rw[if_pos (e.2 h)]
   exact .inr ⟨s,rfl,Nat.le_refl _,by omega,h,fun z h1 h2=>by omega⟩
  ·rw[if_neg (fun h'=>h (e.1 h'))]
   rcases DT me n k (s+1) with⟨h1,h2⟩|⟨y,h1,h2,h3,h4,h5⟩
   ·refine .inl ⟨h1,fun z h3 h4=>?_⟩
    by_cases hz:z=s
    ·subst hz;exact h
    ·exact h2 z (by omega) (by omega)
   ·refine .inr ⟨y,h1,by omega,by omega,h4,fun z h6 h7=>?_⟩
    by_cases hz:z=s
    ·subst hz;exact h
    ·exact h5 z (by omega) h7
theorem rh{me n f:Nat}(h:me<n)(h7:n≤7)(hf:f≤4096):(bV me f n= -1∧∀z,f≤z→z<4096→z % n≠me)∨
  ∃y:Nat,bV me f n=y∧f≤y∧y<4096∧y % n=me∧∀z,f≤z→z<y→z % n≠me:=by
 have e:bV me f n=kO me n (4096-f) f:=by unfold bV;rw[if_neg (by omega)]
 rw[e]
 rcases DT me n (4096 - f) f with⟨h1,h2⟩|⟨y,h1,h2,h3,h4,h5⟩
 ·exact .inl ⟨h1,fun z h3 h4=>h2 z h3 (by omega)⟩
 ·exact .inr ⟨y,h1,h2,by omega,h4,h5⟩
theorem gW{z n:Nat}(hz:z<4096)(h1:1≤n)(h7:n≤7):bK (z:Int) (n:Int)=((z % n:Nat):Int):=by
 unfold bK;rw[if_neg (by omega)];rfl
theorem Pn{n y z:Nat}(h:y % n=z % n)(hl:y<z):y+n≤z:=by
 obtain⟨q,hq⟩:∃q,z=y+q:=⟨z - y,by omega⟩
 have h0:(z-y) % n=0:=Nat.sub_mod_eq_zero_of_mod_eq h.symm
 have:=Nat.le_of_dvd (by omega) (Nat.dvd_of_mod_eq_zero h0)
 omega
def Ms.ad(m:Ms)(f t:Int):Ms:=⟨m.kind,f,t,m.slot,m.bU,m.cu,m.dw,m.dR,m.some_,m.val⟩
theorem y8(r:Rc)(h:r.bL)(hv:r.val.length≤2):(bX [r]).length≤80:=by
 have hp:(bX [r]).length=8+r.bytes.length:=by simp[bX,fF]
 rw[hp]
 have hb:=vf (l:=r.ns) (v:=r.val) h.U h.val
 have h4:r.ns.length=4:=rfl
 unfold Rc.bytes
 omega
theorem sq{n:Nat}(h:n<128):(eG n).length=1:=by rw[qu h];rfl
theorem BA(r:Rc)(hk:0≤r.kind∧r.kind<128)(hs:0≤r.slot∧r.slot<128)(hr:0≤r.round∧r.round<128)(hi:0≤r.site∧r.site<128)(hv:r.val.length≤3):(bX [r]).length≤16:=by
 have hp:(bX [r]).length=8+r.bytes.length:=by simp[bX,fF]
 rw[hp]
 unfold Rc.bytes je Rc.ns
 simp only[flatMap_cons,flatMap_nil,length_append,length_nil]
 rw[sq (by omega),sq (by omega),sq (by omega),sq (by omega),sq (by omega)]
 omega
namespace Site
theorem oY(s:Site)(x y:Int)(z:Sp):(s.turn x z).stat y=if x=y then z else s.stat y:=by
 unfold stat turn
 rw[cO]
 split<;>rfl
theorem JH{s:Site}{r:Rc}(h:r.bL)(hv:r.val.length≤2)(hd:s.db.length+80≤1048576):s.room r=true:=by
 unfold room
 have:=y8 r h hv
 exact oT
theorem L6{s:Site}{x:Int}{b:Bl}{v:List UInt8}(hx:0≤x∧x<4096)(hb:b.may 7=true)(hv:v.length≤2)(hd:s.db.length+80≤1048576)(hc:¬ dr b (s.stat x).p<0) :
  s.accept x b v=some ({s with db:=s.db++bX [⟨2,x,b.r,b.s,v⟩]}.turn x ⟨b,true,b,v⟩)∧(bX [⟨2,x,b.r,b.s,v⟩]).length≤80:=by
 have qv:=Bl.jk.1 hb
 have hm:Rc.bL ⟨2,x,b.r,b.s,v⟩:=⟨.inr rfl,by dsimp only;omega,by dsimp only;omega,by dsimp only;omega,by dsimp only;omega⟩
 refine⟨?_,y8 _ hm hv⟩
 unfold accept note
 rw[if_neg hc,if_pos (JH hm hv hd)]
theorem TA{s:Site}(h:s.me<s.n)(h7:s.n≤7):s.bQ.may 7=true:=Bl.jk.2 (by unfold bQ;simp;omega)
def ou(s:Site):Sp:=⟨s.bQ,true,s.bQ,[]⟩
theorem BB(s:Site):(ou s).same Sp.zero=false:=by simp[ou,Sp.same,Sp.zero]
theorem bo{s:Site}{x:Int} :s.fresh x=true ↔ s.dec x=none∧(s.stat x).same Sp.zero=true:=by
 unfold fresh;rw[Bool.and_eq_true,Option.isNone_iff_eq_none]
theorem js{p:Sp}(h:p.same Sp.zero=true):p=Sp.zero:=by
 obtain⟨⟨a,b⟩,c,⟨d,e⟩,f⟩:=p
 simp only[Sp.same,Sp.zero,Bool.and_eq_true,beq_iff_eq]at h
 obtain⟨⟨⟨⟨rfl,rfl⟩,rfl⟩,rfl,rfl⟩,rfl⟩:=h
 rfl
structure Hy(s t:Site)(tg:Nat)(ys:List Nat):Prop where
 own:∀y∈ys,y % s.n=s.me∧s.nx≤y∧y<tg∧y<4096∧s.fresh y=true
 nodup:ys.Nodup
 held:t.held=s.held++ys.flatMap fun(y:Nat)=>s.tell (bt y s.bQ) s.n++[(bt y s.bQ).ad s.me s.me]
 st:∀x:Int,t.stat x=if ∃y∈ys,(y:Int)=x then s.ou else s.stat x
 lv:t.lv=s.lv
 rs:t.rs=s.rs
 gj:dq s t
 db:t.db.length≤s.db.length+16*ys.length
 Vl:s.nx≤t.nx
 all:∀y,y % s.n=s.me→s.nx≤y→y<tg→y<4096→t.fresh y=false
 nx:∀y,y % s.n=s.me→s.nx≤y→y<t.nx→t.fresh y=false
 top:s.top≤t.top∧(t.top≤s.top∨t.top≤tg)
theorem Hy.nil(s:Site){tg:Nat}(h:∀y,y % s.n=s.me→s.nx≤y→y<tg→y<4096→s.fresh y=false):Hy s s tg []:=
 ⟨fun y hy=>(by cases hy),nodup_nil,by simp,fun x=>by simp,rfl,rfl,dq.refl s,by simp,Nat.le_refl _,h,fun y _ h1 h2=>by omega,Int.le_refl _,.inl (Int.le_refl _)⟩
theorem Df(s t:Site){tg:Nat}{ys:List Nat}(h:Hy s t tg ys)(z:Nat)(hz:s.fresh z=false):t.fresh z=false:=by
 cases hf:t.fresh z with
 |false=>rfl
 |true=>
  obtain⟨h1,h2⟩:=bo.1 hf
  rw[h.st]at h2
  split at h2
  ·rw[BB]at h2;cases h2
  ·have:s.dec z=none:=by unfold dec at h1 ⊢;rwa [h.lv]at h1
   rw[bo.2 ⟨this,h2⟩]at hz;cases hz
theorem mI(tg:Nat)(h4:tg≤128):∀(f c:Nat)(s:Site),s.me<s.n→s.n≤7→s.nx≤4096→4097≤f+s.nx→c*s.n+tg≤6*s.n+s.nx+s.n→c≤7→s.db.length+80*(8-c)≤1048576→
  (∀y,y % s.n=s.me→s.nx≤y→c*s.n+tg≤6*s.n+y)→∃ys,Hy s (cG f c s tg) tg ys∧c+ys.length≤7
 |0,c,s,_,_,hn,hf,_,_,_,_=>by omega
 |f+1,c,s,hm,h7,hn,hf,h0,hc,hd,hq=>by
  rcases rh hm h7 hn with⟨e,hz⟩|⟨y,e,kx,oh,qw,sr⟩
  ·rw[nl _ _ _ _ (.inr (.inl (by rw[e];omega)))]
   exact⟨[],Hy.nil s (fun y h1 h2 h3 h4=>absurd h1 (hz y h2 h4)),by simpa using hc⟩
  by_cases fk:tg≤y
  ·rw[nl _ _ _ _ (.inr (.inr (by rw[e];omega)))]
   exact⟨[],Hy.nil s (fun z h1 h2 h3 h4=>absurd h1 (sr z h2 (by omega))),by simpa using hc⟩
  have L7:=hq y qw kx
  have hc6:c<6:=by
   apply Classical.byContradiction;intro hh
   have:6*s.n≤c*s.n:=Nat.mul_le_mul_right _ (by omega)
   omega
  have hx:¬ (bV s.me s.nx s.n<0∨(tg:Int)≤bV s.me s.nx s.n):=by rw[e];omega
  have hstep:∀z,z % s.n=s.me→y+1≤z→y+s.n≤z:=fun z h1 h2=>Pn (qw.trans h1.symm) (by omega)
  cases eP:s.fresh y with
  |false=>
   rw[tu _ _ _ _ (by omega) hx (by rw[e];exact eP),e]
   have et:((y:Int)+1).toNat=y+1:=by omega
   rw[et]
   obtain⟨ys,h1,h2⟩:=mI tg h4 f c {s with nx:=y+1} hm h7 (by dsimp only;omega) (by dsimp only;omega) (by dsimp only;omega) hc hd (fun z h1 h2=>hq z h1 (by dsimp only at h2;omega))
   refine⟨ys,⟨fun z hz=>?_,h1.nodup,h1.held,h1.st,h1.lv,h1.rs,⟨h1.gj.me,h1.gj.n,h1.gj.pat,h1.gj.down,h1.gj.wt,h1.gj.dn,h1.gj.taken⟩,h1.db,?_,fun z k1 k2 k3 k4=>?_,fun z k1 k2 k3=>?_,h1.top⟩,h2⟩
   ·obtain⟨k1,k2,k3,k4,k5⟩:=h1.own z hz
    exact⟨k1,by dsimp only at k2;omega,k3,k4,k5⟩
   ·have:=h1.Vl;dsimp only at this;omega
   ·by_cases DU:y+1≤z
    ·exact h1.all z k1 DU k3 k4
    ·have hz:z=y:=by
      by_cases hlt:z<y
      ·exact absurd k1 (sr z k2 hlt)
      ·omega
     subst hz
     exact Df _ _ h1 z eP
   ·by_cases DU:y+1≤z
    ·exact h1.nx z k1 DU k3
    ·have hz:z=y:=by
      by_cases hlt:z<y
      ·exact absurd k1 (sr z k2 hlt)
      ·omega
     subst hz
     exact Df _ _ h1 z eP
  |true=>
   have Bt:=bo.1 eP
   have hz0:=js Bt.2
   obtain⟨ha,hl⟩:=L6 (s:=s) (x:=(y:Int)) (b:=s.bQ) (v:=[]) (by omega) (TA hm h7) (by simp) (by omega) (by rw[hz0];exact Po s.me)
   have hl:(bX [⟨2,(y:Int),s.bQ.r,s.bQ.s,[]⟩]).length≤16:=BA _ (by dsimp only;omega) (by dsimp only;omega) (by unfold bQ;dsimp only;omega) (by unfold bQ;dsimp only;omega) (by simp)
   rw[tx _ _ _ _ _ (by omega) hx (by rw[e];exact eP) (by rw[e];exact ha),e]
   generalize hu:({s with db:=s.db++bX [⟨2,(y:Int),s.bQ.r,s.bQ.s,[]⟩]} :Site).turn (y:Int) ⟨s.bQ,true,s.bQ,[]⟩=u
   have DC:u.me=s.me∧u.n=s.n∧u.lv=s.lv∧u.rs=s.rs∧u.held=s.held∧u.nx=s.nx∧u.db.length≤s.db.length+16∧dq s u∧u.top=max s.top ((y:Int)+1):=by
    subst hu
    refine⟨rfl,rfl,rfl,rfl,rfl,rfl,?_,⟨rfl,rfl,rfl,rfl,rfl,rfl,rfl⟩,rfl⟩
    simp only[turn,length_append];omega
   have fY:∀x:Int,u.stat x=if(y:Int)=x then s.ou else s.stat x:=by
    subst hu;intro x;rw[oY];rfl
   obtain⟨u1,u2,u3,u4,u5,u6,u7,u8,u9⟩:=DC
   have et:((y:Int)+1).toNat=y+1:=by omega
   have e1:u.iI s.bQ (y:Int)= {u with held:=s.held++(s.tell (bt y s.bQ) s.n++[(bt y s.bQ).ad s.me s.me]),nx:=y+1}:=by
    unfold iI
    rw[bH,et]
    have JI:∀(v:Site)(a:Int)(m:Ms),v.send a m= {v with held:=v.held++[m.ad v.me a]}:=fun _ _ _=>rfl
    rw[JI]
    simp only[u1,u2,u5]
    have:u.tell (bt (y:Int) s.bQ) s.n=s.tell (bt y s.bQ) s.n:=by unfold tell;rw[u1]
    rw[this,append_assoc]
   rw[e1]
   have hmul:(c+1)*s.n=c*s.n+s.n:=Nat.succ_mul _ _
   obtain⟨ys,h1,h2⟩:=mI tg h4 f (c+1) {u with held:=s.held++(s.tell (bt y s.bQ) s.n++[(bt y s.bQ).ad s.me s.me]),nx:=y+1} (by dsimp only;omega) (by dsimp only;omega) (by dsimp only;omega) (by dsimp only;omega)
    (by dsimp only;rw[u2];omega) (by omega) (by dsimp only;omega) (fun z k1 k2=>by
     dsimp only at k1 k2 ⊢
     rw[u1,u2]at k1
     rw[u2]
     have:=hstep z k1 k2
     omega)
   have hown:=h1.own
   have hst:=h1.st
   dsimp only at hown
   rw[u1,u2]at hown
   have hsk:∀w:Site,w.me=s.me→w.ou=s.ou:=fun w hw=>by unfold ou bQ;rw[hw]
   have ZK:y∉ys:=fun hy=>by have:=(hown y hy).2.1;omega
   have np:∀x:Int,(cG f (c+1) {u with held:=s.held++(s.tell (bt y s.bQ) s.n++[(bt y s.bQ).ad s.me s.me]),nx:=y+1} tg).stat x=if ∃z∈y::ys,(z:Int)=x then s.ou else s.stat x:=fun x=>by
    rw[hst x]
    have hux:({u with held:=s.held++(s.tell (bt y s.bQ) s.n++[(bt y s.bQ).ad s.me s.me]),nx:=y+1} :Site).stat x=if(y:Int)=x then s.ou else s.stat x:=fY x
    rw[hux,hsk _ (by exact u1)]
    by_cases c1:∃z∈ys,(z:Int)=x
    ·obtain⟨z,k1,k2⟩:=c1
     rw[if_pos ⟨z,k1,k2⟩,if_pos ⟨z,by simp[k1],k2⟩]
    ·rw[if_neg c1]
     by_cases c2:(y:Int)=x
     ·rw[if_pos c2,if_pos ⟨y,by simp,c2⟩]
     ·rw[if_neg c2,if_neg]
      rintro⟨z,k1,k2⟩
      rcases mem_cons.1 k1 with rfl|k1
      ·exact c2 k2
      ·exact c1 ⟨z,k1,k2⟩
   have ij:∀z:Nat,z∈y::ys→(cG f (c+1) {u with held:=s.held++(s.tell (bt y s.bQ) s.n++[(bt y s.bQ).ad s.me s.me]),nx:=y+1} tg).fresh z=false:=fun z hz=>by
    have h3:=np z
    rw[if_pos ⟨z,hz,rfl⟩]at h3
    unfold fresh
    rw[h3,BB,Bool.and_false]
   refine⟨y::ys,⟨fun z hz=>?_,nodup_cons.2 ⟨ZK,h1.nodup⟩,?_,np,h1.lv.trans u3,h1.rs.trans u4,u8.trans ⟨h1.gj.me,h1.gj.n,h1.gj.pat,h1.gj.down,h1.gj.wt,h1.gj.dn,h1.gj.taken⟩,?_,?_,fun z k1 k2 k3 k4=>?_,fun z k1 k2 k3=>?_,?_⟩,by rw[length_cons];omega⟩
   ·rcases mem_cons.1 hz with rfl|hz
    ·exact⟨qw,kx,by omega,oh,eP⟩
    ·obtain⟨k1,k2,k3,k4,k5⟩:=hown z hz
     refine⟨k1,by omega,k3,k4,?_⟩
     have k6:=bo.1 k5
     refine bo.2 ⟨?_,?_⟩
     ·have:u.dec z=none:=k6.1
      unfold dec at this ⊢;rwa [u3]at this
     ·have:(u.stat z).same Sp.zero=true:=k6.2
      rwa [fY,if_neg (by omega)]at this
   ·rw[h1.held]
    have hB:u.bQ=s.bQ:=by unfold bQ;rw[u1]
    have hT:∀m,u.tell m u.n=s.tell m s.n:=fun m=>by unfold tell;rw[u1,u2]
    simp only[flatMap_cons,append_assoc]
    congr 1
    congr 1
    congr 1
    refine congrArg (fun g=>flatMap g ys) (funext fun z=>?_)
    exact congr (congrArg _ (by rw[show({u with held:=s.held++(s.tell (bt y s.bQ) s.n++[(bt y s.bQ).ad s.me s.me]),nx:=y+1} :Site).bQ=s.bQ from hB];exact hT _)) (by rw[show({u with held:=s.held++(s.tell (bt y s.bQ) s.n++[(bt y s.bQ).ad s.me s.me]),nx:=y+1} :Site).bQ=s.bQ from hB];simp only[u1])
   ·have:=h1.db;dsimp only at this;rw[length_cons];omega
   ·have:=h1.Vl;dsimp only at this;omega
   ·by_cases DU:y+1≤z
    ·exact h1.all z (by dsimp only;rw[u1,u2];exact k1) DU k3 k4
    ·have hz:z=y:=by
      by_cases hlt:z<y
      ·exact absurd k1 (sr z k2 hlt)
      ·omega
     subst hz
     exact ij z (by simp)
   ·by_cases DU:y+1≤z
    ·exact h1.nx z (by dsimp only;rw[u1,u2];exact k1) DU k3
    ·have hz:z=y:=by
      by_cases hlt:z<y
      ·exact absurd k1 (sr z k2 hlt)
      ·omega
     subst hz
     exact ij z (by simp)
   ·have:=h1.top;dsimp only at this;omega
end Site
namespace Site
def fl(u:Site)(ys:List Nat):Site:=ys.foldl (fun v (y:Nat)=>v.aX (y:Int) []) u
theorem oZ{s:Site}{x:Int}{v:List UInt8}(hx:0≤x∧x<4096)(hv:v.length≤2048)(hd:s.dec x=none∨s.dec x=some v) :
  s.aX x v= {s with lv:=if(s.dec x).isSome then s.lv else aT x v s.lv,rs:=bY x s.rs}:=by
 unfold aX
 rw[if_pos]
 unfold mw
 rcases hd with h|h<;>rw[h]<;>simp<;>omega
structure RM(s t:Site)(p:Int→Prop)(v:List UInt8):Prop where
 at_:∀x,p x→t.dec x=some v∧aD x t.rs=none
 off:∀x,¬ p x→t.dec x=s.dec x∧aD x t.rs=aD x s.rs
 gj:dq s t
 st:t.st=s.st
 nx:t.nx=s.nx
 held:t.held=s.held
 db:t.db=s.db
 top:t.top=s.top
theorem RM.one{s:Site}{x:Int}{v:List UInt8}(hx:0≤x∧x<4096)(hv:v.length≤2048)(hd:s.dec x=none∨s.dec x=some v):RM s (s.aX x v) (fun y=>y=x) v:=by
 rw[oZ hx hv hd]
 refine⟨fun y hy=>?_,fun y hy=>?_,⟨rfl,rfl,rfl,rfl,rfl,rfl,rfl⟩,rfl,rfl,rfl,rfl,rfl⟩
 ·subst hy
  refine⟨?_,by simp[gm]⟩
  unfold dec at hd ⊢
  rcases hd with h|h
  ·rw[h];simp[cO]
  ·simp only[h,Option.isSome_some,if_true]
 ·refine⟨?_,by simp only[gm];exact if_neg hy⟩
  unfold dec
  dsimp only
  split
  ·rfl
  ·rw[cO,if_neg (fun e=>hy e.symm)]
theorem vg:∀(ys:List Nat)(u:Site),(∀y∈ys,y<4096∧(u.dec (y:Int)=none∨u.dec (y:Int)=some []))→RM u (u.fl ys) (fun x=>∃y∈ys,(y:Int)=x) []
 |[],u,_=>⟨fun x ⟨y,hy,_⟩=>(by cases hy),fun x _=>⟨rfl,rfl⟩,dq.refl u,rfl,rfl,rfl,rfl,rfl⟩
 |y::ys,u,h=>by
  have h1:=RM.one (s:=u) (x:=(y:Int)) (v:=[]) (by have:=(h y (by simp)).1;omega) (by simp) (h y (by simp)).2
  have h2:=vg ys (u.aX (y:Int) []) (fun z hz=>⟨(h z (by simp[hz])).1,by
   by_cases e:(z:Int)=(y:Int)
   ·obtain rfl:z=y:=by omega
    exact .inr (h1.at_ _ rfl).1
   ·have a:=(h1.off (z:Int) e).1;rw[a];exact(h z (by simp[hz])).2⟩)
  have e:u.fl (y::ys)=(u.aX (y:Int) []).fl ys:=by unfold fl;rw[foldl_cons]
  rw[e]
  refine⟨fun x hx=>?_,fun x hx=>?_,h1.gj.trans h2.gj,h2.st.trans h1.st,h2.nx.trans h1.nx,h2.held.trans h1.held,h2.db.trans h1.db,h2.top.trans h1.top⟩
  ·by_cases c:∃z∈ys,(z:Int)=x
   ·exact h2.at_ x c
   ·obtain⟨z,hz,rfl⟩:=hx
    rcases mem_cons.1 hz with rfl|hz
    ·rw[(h2.off _ c).1,(h2.off _ c).2];exact h1.at_ _ rfl
    ·exact absurd ⟨z,hz,rfl⟩ c
  ·have c:¬ ∃z∈ys,(z:Int)=x:=fun⟨z,hz,e⟩=>hx ⟨z,by simp[hz],e⟩
   rw[(h2.off _ c).1,(h2.off _ c).2]
   exact h1.off x (fun e=>hx ⟨y,by simp,e.symm⟩)
theorem L8{s:Site}{y:Nat}(h4:y<4096)(h1:1≤s.n)(h7:s.n≤7)(ho:y % s.n=s.me)(b:Bl):s.take ((bt (y:Int) b).ad s.me s.me)=s.aX (y:Int) []:=by
 unfold take ct eR
 simp only[Ms.ad,bt]
 simp[gW h4 h1 h7,ho]
theorem tz:∀(ys:List Nat)(u v:Site)(b:Bl),(∀y∈ys,y<4096∧y % v.n=v.me)→u.me=v.me→u.n=v.n→1≤v.n→v.n≤7→
  ((ys.flatMap fun(y:Nat)=>u.tell (bt y b) u.n++[(bt y b).ad u.me u.me]).filter fun m=>decide (m.to=(u.me:Int))).foldl take v=v.fl ys∧
  ((ys.flatMap fun(y:Nat)=>u.tell (bt y b) u.n++[(bt y b).ad u.me u.me]).filter fun m=>decide (m.to≠(u.me:Int)))=ys.flatMap fun(y:Nat)=>u.tell (bt y b) u.n
 |[],u,v,_,_,_,_,_,_=>⟨rfl,rfl⟩
 |y::ys,u,v,b,h,e1,e2,h1,h7=>by
  have ht:∀m∈u.tell (bt (y:Int) b) u.n,m.to≠(u.me:Int):=fun m hm=>by
   unfold tell at hm
   obtain⟨j,hj,rfl⟩:=mem_map.1 hm
   have:=of_decide_eq_true (mem_filter.1 hj).2
   show((j:Nat):Int)≠_
   omega
  have hy:=h y (by simp)
  have k:=jt v (y:Int) []
  obtain⟨a1,a2⟩:=tz ys u (v.aX (y:Int) []) b (fun z hz=>by rw[k.n,k.me];exact h z (by simp[hz])) (e1.trans k.me.symm) (e2.trans k.n.symm) (by rw[k.n];exact h1) (by rw[k.n];exact h7)
  constructor
  ·rw[flatMap_cons,filter_append,filter_append,foldl_append]
   have f0:(u.tell (bt (y:Int) b) u.n).filter (fun m=>decide (m.to=(u.me:Int)))= []:=filter_eq_nil_iff.2 fun m hm hd=>ht m hm (of_decide_eq_true hd)
   have f1: [(bt (y:Int) b).ad u.me u.me].filter (fun m=>decide (m.to=(u.me:Int)))= [(bt (y:Int) b).ad u.me u.me]:=by simp[Ms.ad]
   rw[f0,f1,nil_append,foldl_cons,foldl_nil,e1,L8 hy.1 h1 h7 hy.2]
   rw[e1]at a1
   have e:v.fl (y::ys)=(v.aX (y:Int) []).fl ys:=by unfold fl;rw[foldl_cons]
   rw[e,←a1]
  ·rw[flatMap_cons,filter_append,filter_append,flatMap_cons,a2]
   have f0:(u.tell (bt (y:Int) b) u.n).filter (fun m=>decide (m.to≠(u.me:Int)))=u.tell (bt (y:Int) b) u.n:=filter_eq_self.2 fun m hm=>dJ (ht m hm)
   have f1: [(bt (y:Int) b).ad u.me u.me].filter (fun m=>decide (m.to≠(u.me:Int)))= []:=by simp[Ms.ad]
   rw[f0,f1,append_nil]
theorem y9{u:Site}{A B:List Ms}{ys:List Nat}{b:Bl}(LQ:u.down=false)(hA:∀m∈A,m.to≠(u.me:Int))(hB:∀m∈B,m.to≠(u.me:Int))(hh:u.held=A++(ys.flatMap fun(y:Nat)=>u.tell (bt y b) u.n++[(bt y b).ad u.me u.me])++B)(hy:∀y∈ys,y<4096∧y % u.n=u.me)(h1:1≤u.n)(h7:u.n≤7):u.sync=(({u with dn:=u.db.length,held:=[]} :Site).fl ys,A++(ys.flatMap fun(y:Nat)=>u.tell (bt y b) u.n)++B):=by
 obtain⟨a1,a2⟩:=tz ys u {u with dn:=u.db.length,held:=[]} b hy rfl rfl h1 h7
 have f0:∀{A:List Ms},(∀m∈A,m.to≠(u.me:Int))→A.filter (fun m=>decide (m.to=(u.me:Int)))= []:=fun hA=>filter_eq_nil_iff.2 fun m hm hd=>hA m hm (of_decide_eq_true hd)
 have f1:∀{A:List Ms},(∀m∈A,m.to≠(u.me:Int))→A.filter (fun m=>decide (m.to≠(u.me:Int)))=A:=fun hA=>filter_eq_self.2 fun m hm=>dJ (hA m hm)
 unfold sync
 rw[if_neg (by rw[LQ];simp),hh,filter_append,filter_append,filter_append,filter_append,a2,f0 hA,f0 hB,f1 hA,f1 hB,nil_append,append_nil,a1]
theorem jO(s:Site)(a:Int)(m:Ms):s.send a m= {s with held:=s.held++[m.ad s.me a]}:=rfl
theorem vh{α:Type}(f:Int)(g:α→Ms):∀(l:List α)(t:Site),l.foldl (fun u x=>u.send f (g x)) t= {t with held:=t.held++l.map fun x=>(g x).ad t.me f}
 |[],t=>by simp
 |x::l,t=>by
  rw[foldl_cons,vh f g l,jO]
  simp
theorem dH{s:Site}{m m':Ms}{n:Nat} :m'∈s.tell m n ↔ ∃c:Nat,c<n∧c≠s.me∧m'=m.ad s.me c:=by
 unfold tell
 rw[mem_map]
 constructor
 ·rintro⟨j,hj,rfl⟩
  obtain⟨h1,h2⟩:=mem_filter.1 hj
  exact⟨j,mem_range.1 h1,of_decide_eq_true h2,rfl⟩
 ·rintro⟨c,h1,h2,rfl⟩
  exact⟨c,mem_filter.2 ⟨mem_range.2 h1,dJ h2⟩,rfl⟩
theorem tB{s:Site}{m:Ms}{n:Nat}(h:s.me<n)(h7:n≤7):(s.tell m n).length≤6:=by
 unfold tell
 rw[length_map]
 have h1:((List.range n).filter fun j=>decide (j≠s.me)).length<(List.range n).length:=by
  rw[length_filter_lt_length_iff_exists]
  exact⟨s.me,mem_range.2 h,by simp⟩
 rw[length_range]at h1
 omega
end Site
theorem ky{s t:Site}(hst:∀x,t.stat x=s.stat x)(hd:∀(x:Int) w,s.dec x=some w→t.dec x=some w){x:Int}(h:s.fresh x=false):t.fresh x=false:=by
 cases hf:t.fresh x with
 |false=>rfl
 |true=>
  obtain⟨h1,h2⟩:=Site.bo.1 hf
  rw[hst]at h2
  cases hs:s.dec x with
  |none=>rw[Site.bo.2 ⟨hs,h2⟩]at h;cases h
  |some w=>rw[hd x w hs]at h1;cases h1
def Ms.eS(m:Ms)(n i:Nat):Prop:=m.to=i∧∃c:Nat,c<n∧c≠i∧m.aR=c
namespace Calm
variable {i:Nat} {s:Site} {m:Ms} {k:Nat}
theorem nr{u:Site}(LQ:u.down=false)(h1:1≤u.n)(h7:u.n≤7){A:List Ms}(hA:∀m∈A,m.to≠(u.me:Int))(hh:u.held=A):u.sync=({u with dn:=u.db.length,held:=[]},A):=by
 have:=Site.y9 (u:=u) (A:=A) (B:=[]) (ys:=[]) (b:=⟨0,0⟩) LQ hA (fun m hm=>by cases hm) (by simpa using hh) (fun y hy=>by cases hy) h1 h7
 rw[this]
 simp[Site.fl]
end Calm
namespace Calm
variable {i:Nat} {s:Site} {m:Ms} {k:Nat}
end Calm
theorem iZ{α:Type}[DecidableEq α]:∀{a b:List α},a.Nodup→(∀x∈a,x∈b)→a.length≤b.length
 |[],_,_,_=>Nat.zero_le _
 |x::a,b,h,hs=>by
  have hx:=hs x (by simp)
  have h1:=iZ (a:=a) (b:=b.erase x) (nodup_cons.1 h).2 fun y hy=>(mem_erase_of_ne (fun e=>(nodup_cons.1 h).1 (by rw[←e];exact hy))).2 (hs y (by simp[hy]))
  rw[length_erase_of_mem hx]at h1
  have:=length_pos_of_mem hx
  rw[length_cons];omega
theorem Pp{n:Nat}(h1:1≤n){vt:List (Int × Bl)}{b:Bl}(h:∀c:Nat,c<n→((c:Int),b)∈vt):Site.most vt b n=true:=by
 unfold Site.most fN
 rw[if_neg (by omega)]
 refine decide_eq_true ?_
 have hn:=lq ((vt.filter fun v=>decide (v.2=b)).map Prod.fst) (n:Int)
 have hl:((List.range n).map fun(c:Nat)=>(c:Int)).length≤((dE ((vt.filter fun v=>decide (v.2=b)).map Prod.fst) (n:Int)).map Prod.fst).length:=by
  refine iZ ?_ fun x hx=>?_
  ·rw[Nodup,pairwise_map]
   exact List.Pairwise.imp (fun h e=>h (by omega)) nodup_range
  ·obtain⟨c,hc,rfl⟩:=mem_map.1 hx
   have hc:=mem_range.1 hc
   have h2:(dX (c:Int) (dE ((vt.filter fun v=>decide (v.2=b)).map Prod.fst) (n:Int))).isSome=true:=by
    rw[rV,Bool.and_eq_true,decide_eq_true_eq]
    refine⟨mem_map.2 ⟨((c:Int),b),mem_filter.2 ⟨h c hc,by simp⟩,rfl⟩,?_⟩
    unfold dd;simp;omega
   obtain⟨u,hu⟩:=Option.isSome_iff_exists.1 h2
   rw[lK]at hu
   exact mem_map.2 ⟨_,bG hu,rfl⟩
 rw[length_map,length_map,length_range]at hl
 unfold mW
 rw[if_neg (by omega)]
 omega
theorem vi:∀(l aI:List Ms),aI.length+l.length≤4096→fW aI l=aI++l
 |[],aI,_=>by simp[fW]
 |m::l,aI,h=>by
  rw[length_cons]at h
  unfold fW
  rw[foldl_cons,if_pos (by omega)]
  have:=vi l (aI++[m]) (by rw[length_append,length_singleton];omega)
  unfold fW at this
  rw[this,append_assoc];rfl
theorem fG{α:Type}{o:Option α}(h:o≠none):∃v,o=some v:=by
 cases o with
 |none=>exact absurd rfl h
 |some v=>exact⟨v,rfl⟩
namespace CW
variable {w:Wd} {A B:List Ms}
end CW
