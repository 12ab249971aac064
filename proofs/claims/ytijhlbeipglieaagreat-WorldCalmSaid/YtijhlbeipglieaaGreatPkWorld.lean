/- For WorldCalm. -/
import Derived.KernelRfl
import Derived.Test.YtijhlbeipglieaaGreatPkPax
set_option linter.all false
namespace aL
open Go Go.Proofs.YtijhlbeipglieaaGreat List
structure Wd where
 ss:List Site
 aI:List Ms
 done:List (List (List UInt8))
def fW(aI l:List Ms):List Ms:=l.foldl (fun aI m=>if aI.length<4096 then aI++[m]else aI) aI
theorem CE:∀(l aI:List Ms){m:Ms},m∈fW aI l→m∈aI∨m∈l
 |[],aI,m,h=>.inl h
 |x::l,aI,m,h=>by
  unfold fW at h
  rw[foldl_cons]at h
  rcases CE l _ h with h|h
  ·split at h
   ·rcases mem_append.1 h with h|h
    ·exact .inl h
    ·rw[mem_singleton]at h;subst h;exact .inr (by simp)
   ·exact .inl h
  ·exact .inr (by simp[h])
namespace Wd
def new(n pat:Nat):Wd:=⟨(List.range n).map fun i=>Site.new i n pat,[],replicate n []⟩
variable (w:Wd)
def tell(i:Nat):Wd:=match w.ss[i]? with
 |none=>w
 |some s=>{w with ss:=w.ss.set i s.sync.1,aI:=fW w.aI s.sync.2}
def du(k:Nat):Wd:=match w.aI[k]? with
 |none=>w
 |some m=>match w.ss[m.to.toNat]? with
  |none=>{w with aI:=w.aI.eraseIdx k}
  |some s=>{w with aI:=w.aI.eraseIdx k,ss:=w.ss.set m.to.toNat (s.handle m).1}
def double(k:Nat):Wd:=match w.aI[k]? with
 |none=>w
 |some m=>if w.aI.length<4096 then {w with aI:=w.aI++[m]}else w
def eJ(i:Nat)(f:Site→Site):Wd:=match w.ss[i]? with
 |none=>w
 |some s=>{w with ss:=w.ss.set i (f s)}
noncomputable def bC (i:Nat):Wd:=match w.ss[i]? with
 |none=>w
 |some s=>{w with ss:=w.ss.set i s.bC,done:=if s.down then w.done.set i []else w.done}
def take(i:Nat):Wd:=match w.ss[i]? with
 |none=>w
 |some s=>{w with ss:=w.ss.set i s.ey.1,done:=w.done.set i ((w.done.getD i [])++s.ey.2.filter fun v=>decide (v≠[]))}
end Wd
structure bR(w:Wd)(n:Nat)(P:Int→List UInt8→Prop)(c:Nat)(G:Int→List Rc):Prop where
 qG:gx G n P
 len:w.ss.length=n
 site:∀i s,w.ss[i]? =some s→s.me=i∧s.n=n∧((∃R z,PA G P s R z∧c≤z)∨PD G P s)
 aI:∀m∈w.aI,m.bL∧eX G n (G m.aR) m
theorem gx.Dy{G:Int→List Rc}{n:Nat}{P P':Int→List UInt8→Prop}(h:gx G n P)(hp:∀x v,P x v→P' x v):gx G n P':=
 ⟨h.may,h.gR,h.back,h.one,fun x b v hv hb=>⟨(h.low x b v hv hb).1,(h.low x b v hv hb).2.imp id (hp _ _)⟩,h.high⟩
theorem gx.nil(n:Nat)(P:Int→List UInt8→Prop):gx (fun _=>[]) n P:=
 ⟨fun _ r h=>(by cases h),fun _=>Good.nil,fun _ _ _ _ h=>(by cases h),fun _ _ _ _ h _=>(by cases h),fun _ _ _ h _=>(by cases h),fun _ _ _ h _=>(by cases h)⟩
namespace bR
variable {w:Wd} {n:Nat} {P P':Int→List UInt8→Prop} {c:Nat} {G G':Int→List Rc}
theorem new{n pat:Nat}(h:im 0 n pat=true)(P:Int→List UInt8→Prop):bR (Wd.new n pat) n P 400000000 (fun _=>[]):=by
 refine⟨gx.nil n P,by simp[Wd.new],fun i s hs=>?_,by simp[Wd.new]⟩
 unfold Wd.new at hs
 simp only at hs
 obtain⟨hi,he⟩:=List.getElem?_eq_some_iff.1 hs
 rw[length_map,length_range]at hi
 rw[getElem_map,getElem_range]at he
 subst he
 refine⟨rfl,rfl,.inl ⟨[],400000000,PA.new _ _ ?_ rfl,Nat.le_refl _⟩⟩
 simp only[im,Bool.and_eq_true,decide_eq_true_eq]at h ⊢
 omega
theorem less(h:bR w n P c G){d:Nat}(hd:d≤c):bR w n P d G:=
 ⟨h.qG,h.len,fun i s hs=>⟨(h.site i s hs).1,(h.site i s hs).2.1,(h.site i s hs).2.2.imp (fun⟨R,z,h1,h2⟩=>⟨R,z,h1,by omega⟩) id⟩,h.aI⟩
theorem put(h:bR w n P c G){i:Nat}{s t:Site}(hs:w.ss[i]? =some s)(hle:fq G G')(hp:∀x v,P x v→P' x v)(aed:∀f,f≠(i:Int)→G' f=G f)(zu:gx G' n P'){d:Nat}(hd:d≤c)(ht:t.me=i∧t.n=n∧((∃R z,PA G' P' t R z∧d≤z)∨PD G' P' t)){net':List Ms}(hn:∀m∈net',m∈w.aI∨m.bL∧eX G' n (G' m.aR) m)(rA:List (List (List UInt8))) :
  bR {w with ss:=w.ss.set i t,aI:=net',done:=rA} n P' d G':=by
 refine⟨zu,by simp[h.len],fun j u hu=>?_,fun m hm=>?_⟩
 ·simp only at hu
  by_cases e:i=j
  ·subst e
   have hi:i<w.ss.length:=(List.getElem?_eq_some_iff.1 hs).1
   rw[List.getElem?_set_self hi]at hu
   injection hu with hu
   subst hu
   exact ht
  ·rw[List.getElem?_set_ne e]at hu
   obtain⟨h1,h2,h3⟩:=h.site j u hu
   have hne:G' u.me=G u.me:=aed _ (by rw[h1];omega)
   exact⟨h1,h2,h3.imp (fun⟨R,z,h4,h5⟩=>⟨R,z,h4.mono hle hp hne,by omega⟩) (fun h4=>h4.mono hle hp hne)⟩
 ·rcases hn m hm with hm|hm
  ·obtain⟨h1,h2⟩:=h.aI m hm
   exact⟨h1,h2.mono hle (hle _)⟩
  ·exact hm
theorem same(h:bR w n P c G){net':List Ms}(hn:∀m∈net',m∈w.aI)(rA:List (List (List UInt8))):bR {w with aI:=net',done:=rA} n P c G:=
 ⟨h.qG,h.len,h.site,fun m hm=>h.aI m (hn m hm)⟩
theorem oc(h:bR w n P c G){i:Nat}{s t:Site}(hs:w.ss[i]? =some s)(hk:t.me=s.me∧t.n=s.n){d:Nat}(hd:d≤c)(hp:∀x v,P x v→P' x v)(hu:∀R z,PA G P' s R z→c≤z→(∃R' z',PA G P' t R' z'∧d≤z')∨PD G P' t)(lT:PD G P' s→PD G P' t∨∃R' z',PA G P' t R' z'∧d≤z'){net':List Ms}(hn:∀m∈net',m∈w.aI)(rA:List (List (List UInt8))) :
  bR {w with ss:=w.ss.set i t,aI:=net',done:=rA} n P' d G:=by
 obtain⟨h1,h2,h3⟩:=h.site i s hs
 refine h.put hs (fq.refl G) hp (fun _ _=>rfl) (h.qG.Dy hp) hd ⟨hk.1.trans h1,hk.2.trans h2,?_⟩ (fun m hm=>.inl (hn m hm)) rA
 rcases h3 with⟨R,z,h4,h5⟩|h4
 ·exact hu R z (h4.mono (fq.refl G) hp rfl) h5
 ·exact(lT (h4.mono (fq.refl G) hp rfl)).symm.imp id id
theorem K0(s:Site)(m:Ms):(s.handle m).1.me=s.me∧(s.handle m).1.n=s.n:=by
 unfold Site.handle
 split
 ·exact⟨rfl,rfl⟩
 split
 ·exact⟨rfl,rfl⟩
 split
 ·exact⟨rfl,rfl⟩
 ·have k:=Site.qz {s with wt:=s.wt.set m.aR.toNat 0} m
  exact⟨k.me,k.n⟩
theorem QX(s:Site):s.tick.me=s.me∧s.tick.n=s.n:=by
 cases hd:s.down with
 |true=>unfold Site.tick;rw[if_pos hd];exact⟨rfl,rfl⟩
 |false=>
  have k1:Site.dq {s with wt:=cC s.me s.wt s.n} s.ju:=Site.Oq _
  have k3:Site.dq s.ju s.ck:=Site.uh _ _
  have k4:Site.dq s.ck s.gX:=Site.Af _ _
  have k:=(k1.trans k3).trans k4
  rw[Site.qi s hd]
  split
  ·have k5:=k.trans (Site.kq s.gX (Site.dT s.gX.front (decide ((s.gX.front:Int)<s.ck.bF))) s.gX.n)
   exact⟨k5.me,k5.n⟩
  ·exact⟨k.me,k.n⟩
theorem Ge(s:Site):s.sync.1.me=s.me∧s.sync.1.n=s.n:=by
 unfold Site.sync
 split
 ·exact⟨rfl,rfl⟩
 ·have k:=Site.rl (s.held.filter fun m=>decide (m.to=(s.me:Int))) {s with dn:=s.db.length,held:=[]}
  exact⟨k.me,k.n⟩
theorem La(s:Site)(v:List UInt8):(s.cm v).1.me=s.me∧(s.cm v).1.n=s.n:=by
 by_cases hd:s.down=true
 ·rw[Site.cm];rw[if_pos hd];exact⟨rfl,rfl⟩
 by_cases hv:v.length=0∨2048<v.length
 ·rw[Site.cm,if_neg hd,if_pos hv];exact⟨rfl,rfl⟩
 rw[Site.vY s v (by simpa using hd) (by omega) (by omega)]
 unfold Site.rK
 split
 ·exact⟨rfl,rfl⟩
 split
 ·exact⟨rfl,rfl⟩
 ·rename_i t ha
  have h1:=PA.vW ha
  have k:=(Site.kq ({t with nx:=(s.free 4096 (bV s.me s.nx s.n)+1).toNat,rs:=aT (s.free 4096 (bV s.me s.nx s.n)) ⟨s.bQ,[],true,v,[],0⟩ t.rs}) (Site.asks ⟨s.bQ,[],true,v,[],0⟩ (s.free 4096 (bV s.me s.nx s.n))) t.n).trans (Site.kp _ t.me (Site.bB (s.free 4096 (bV s.me s.nx s.n)) s.bQ))
  exact⟨k.me.trans h1.1,k.n.trans h1.2.1⟩
theorem du(h:bR w n P (100+c) G)(k:Nat):bR (w.du k) n P c G:=by
 unfold Wd.du
 split
 ·exact h.less (by omega)
 rename_i m hm
 have lz:=mem_of_getElem? hm
 have Ov:∀x∈w.aI.eraseIdx k,x∈w.aI:=fun x hx=>mem_of_mem_eraseIdx hx
 split
 ·exact(h.less (d:=c) (by omega)).same Ov w.done
 ·rename_i s hs
  have hn:=(h.site _ s hs).2.1
  refine h.oc (P':=P) hs (K0 s m) (d:=c) (by omega) (fun _ _ h=>h) (fun R z h1 h2=>?_) (fun h1=>?_) Ov w.done
  ·obtain⟨R',-,h3⟩:=PA.handle (by rw[hn];exact h.qG) h1 (m:=m) (by rw[hn];exact(h.aI m lz).2) (y:=c) (by omega)
   exact .inl ⟨R',_,h3,Nat.le_refl _⟩
  ·left
   have:s.handle m=(s,14):=by unfold Site.handle;rw[if_pos h1.dn.down]
   rw[this];exact h1
theorem double(h:bR w n P c G)(k:Nat):bR (w.double k) n P c G:=by
 unfold Wd.double
 split
 ·exact h
 rename_i m hm
 split
 ·refine h.same (fun x hx=>?_) w.done
  rcases mem_append.1 hx with hx|hx
  ·exact hx
  ·rw[mem_singleton]at hx;subst hx;exact mem_of_getElem? hm
 ·exact h
theorem tick(h:bR w n P (300+c) G)(i:Nat):bR (w.eJ i Site.tick) n P c G:=by
 unfold Wd.eJ
 split
 ·exact h.less (by omega)
 rename_i s hs
 refine h.oc (P':=P) hs (QX s) (d:=c) (by omega) (fun _ _ h=>h) (fun R z h1 h2=>?_) (fun h1=>?_) (fun _ h=>h) w.done
 ·obtain⟨R',-,h3⟩:=h1.tick (y:=c) (by omega)
  exact .inl ⟨R',_,h3,Nat.le_refl _⟩
 ·left
  have:s.tick=s:=by unfold Site.tick;rw[if_pos h1.dn.down]
  rw[this];exact h1
theorem dB(h:bR w n P c G)(i:Nat)(k:Int):bR (w.eJ i fun s=>s.dB k) n P c G:=by
 unfold Wd.eJ
 split
 ·exact h
 rename_i s hs
 refine h.oc (P':=P) hs (by unfold Site.dB;split<;>exact⟨rfl,rfl⟩) (d:=c) (Nat.le_refl _) (fun _ _ h=>h) (fun R z h1 h2=>.inr (h1.dB k)) (fun h1=>?_) (fun _ h=>h) w.done
 left
 have:s.dB k=s:=by unfold Site.dB;rw[if_pos h1.dn.down]
 rw[this];exact h1
theorem cm(h:bR w n P (100+c) G){i:Nat}(v:List UInt8){s:Site}(hs:w.ss[i]? =some s)(hp:∀x v,P x v→P' x v)(hP:(s.cm v).2.2=0→P' (s.cm v).2.1 v):bR (w.eJ i fun s=>(s.cm v).1) n P' c G:=by
 unfold Wd.eJ
 rw[hs]
 refine h.oc (P':=P') hs (La s v) (d:=c) (by omega) hp (fun R z h1 h2=>?_) (fun h1=>?_) (fun _ h=>h) w.done
 ·obtain⟨R',-,h3⟩:=h1.cm v hP (y:=c) (by omega)
  exact .inl ⟨R',_,h3,Nat.le_refl _⟩
 ·left
  have:s.cm v=(s,0,14):=by unfold Site.cm;rw[if_pos h1.dn.down]
  rw[this];exact h1
theorem tell(h:bR w n P c G)(i:Nat):∃G',fq G G'∧bR (w.tell i) n P c G':=by
 unfold Wd.tell
 split
 ·exact⟨G,fq.refl G,h⟩
 rename_i s hs
 obtain⟨h1,h2,h3⟩:=h.site i s hs
 rcases h3 with⟨R,z,h4,h5⟩|h4
 ·obtain⟨k1,⟨R',-,k2⟩,k3⟩:=PA.sync (by rw[h2];exact h.qG) h4
  rw[h2]at k1
  refine⟨ix G s.me R,sS h4.al.pre,h.put hs (sS h4.al.pre) (fun _ _ h=>h) (fun f hf=>?_) k1 (Nat.le_refl _) ⟨(Ge s).1.trans h1,(Ge s).2.trans h2,.inl ⟨R',z,k2,h5⟩⟩ (fun m hm=>?_) w.done⟩
  ·unfold ix;rw[if_neg (by rw[h1];exact hf)]
  ·rcases CE _ _ hm with hm|hm
   ·exact .inl hm
   ·obtain⟨j1,j2,j3,j4⟩:=k3 m hm
    rw[h2]at j4
    exact .inr ⟨j1,j4⟩
 ·have e:s.sync=(s,[]):=by unfold Site.sync;rw[if_pos h4.dn.down]
  refine⟨G,fq.refl G,?_⟩
  rw[e]
  exact h.put hs (fq.refl G) (fun _ _ h=>h) (fun _ _=>rfl) h.qG (Nat.le_refl _) ⟨h1,h2,.inr h4⟩ (fun m hm=>.inl hm) w.done
theorem bC(h:bR w n P c G)(hc:c≤400000000)(i:Nat):∃G',fq G G'∧bR (w.bC i) n P c G':=by
 unfold Wd.bC
 split
 ·exact⟨G,fq.refl G,h⟩
 rename_i s hs
 obtain⟨h1,h2,h3⟩:=h.site i s hs
 rcases h3 with⟨R,z,h4,h5⟩|h4
 ·have e:s.bC=s:=by unfold Site.bC;rw[if_neg (by rw[h4.al.up];simp)]
  rw[e]
  exact⟨G,fq.refl G,h.put hs (fq.refl G) (fun _ _ h=>h) (fun _ _=>rfl) h.qG (Nat.le_refl _) ⟨h1,h2,.inl ⟨R,z,h4,h5⟩⟩ (fun m hm=>.inl hm) _⟩
 ·obtain⟨k1,k2,k3,k4,k5⟩:=h4.bC (by rw[h2];exact h.qG)
  rw[h2]at k1
  refine⟨_,k3,h.put hs k3 (fun _ _ h=>h) (fun f hf=>?_) k1 (Nat.le_refl _) ⟨k4.trans h1,k5.trans h2,.inl ⟨_,_,k2,hc⟩⟩ (fun m hm=>.inl hm) _⟩
  unfold ix;rw[if_neg (by rw[h1];exact hf)]
theorem drop(h:bR w n P c G)(k:Nat):bR {w with aI:=w.aI.eraseIdx k} n P c G:=h.same (fun _x hx=>mem_of_mem_eraseIdx hx) w.done
theorem dec(h:bR w n P c G){i:Nat}{s:Site}(hs:w.ss[i]? =some s){x:Int}{v:List UInt8}(hv:s.dec x=some v):sP G n x v:=by
 obtain⟨-,h2,h3⟩:=h.site i s hs
 have hm:=bG hv
 rw[←h2]
 rcases h3 with⟨R,z,h4,-⟩|h4
 ·exact h4.dec _ hm
 ·exact h4.dec _ hm
end bR
def Lv(s:Site)(y:Nat):Prop:=∃S,(∃R z,bj s S R z∧y≤z)∨Dn s S
namespace Lv
variable {s:Site} {y:Nat}
theorem held(h:Lv s y):s.held.length≤400000000:=by
 obtain⟨S,⟨R,z,h1,-⟩|h1⟩:=h
 ·have:=h1.oJ;omega
 ·exact h1.held
theorem up(h:Lv s y)(hd:s.down=false):∃S R z,bj s S R z∧y≤z:=by
 obtain⟨S,⟨R,z,h1,h2⟩|h1⟩:=h
 ·exact⟨S,R,z,h1,h2⟩
 ·rw[h1.down]at hd;cases hd
theorem sync(h:Lv s y)(hd:s.down=false):oO Qt {s with dn:=s.db.length,held:=[]} (s.held.filter fun m=>decide (m.to=(s.me:Int))):=by
 obtain⟨S,R,z,h1,-⟩:=h.up hd
 exact h1.sync.1
theorem handle(h:Lv s y)(hd:s.down=false)(m:Ms):s.Fit∧s.Sn:=by
 obtain⟨S,R,z,h1,-⟩:=h.up hd
 exact h1.qt m
theorem tick(h:Lv s (300+y))(hd:s.down=false):s.Fb:=by
 obtain⟨S,R,z,h1,h2⟩:=h.up hd
 exact(h1.tick (y:=0) (by omega)).1
end Lv
namespace Wd
def synced(w:Wd)(i:Nat):Wd × List Ms:=match w.ss[i]? with
 |none=>(w,[])
 |some s=>({w with ss:=w.ss.set i s.sync.1},s.sync.2)
theorem Ul(w:Wd)(i:Nat):w.tell i= {(w.synced i).1 with aI:=fW (w.synced i).1.aI (w.synced i).2}:=by
 unfold tell synced
 cases w.ss[i]? with
 |none=>rfl
 |some s=>rfl
end Wd
theorem bR.lv{w:Wd}{n c:Nat}{P:Int→List UInt8→Prop}{G:Int→List Rc}(h:bR w n P c G):∀(i:Nat) s,w.ss[i]? =some s→Lv s c:=fun i s hs=>by
 rcases(h.site i s hs).2.2 with⟨R,z,h1,h2⟩|h1
 ·exact⟨_,.inl ⟨R,z,h1.al,h2⟩⟩
 ·exact⟨_,.inr h1.dn⟩
theorem Lb(aI l:List Ms)(m:Ms):fW aI (l++[m])=if(fW aI l).length<4096 then fW aI l++[m]else fW aI l:=by
 unfold fW;rw[foldl_append];rfl
structure Site.Lg(s t:Site):Prop where
 dec:∀(x:Int)(v:List UInt8),s.dec x=some v→t.dec x=some v
 taken:t.taken=s.taken
namespace Site
variable {s t u:Site}
theorem Lg.refl(s:Site):Lg s s:=⟨fun _ _ h=>h,rfl⟩
theorem Lg.trans(h:Lg s t)(k:Lg t u):Lg s u:=⟨fun x v e=>k.dec x v (h.dec x v e),k.taken.trans h.taken⟩
theorem Lg.of(h:t.lv=s.lv)(k:t.taken=s.taken):Lg s t:=⟨fun x v e=>by unfold Site.dec at *;rw[h];exact e,k⟩
theorem mU(s:Site)(tg:Int)(m:Ms):Lg s (s.send tg m):=Lg.of rfl rfl
theorem mV(s:Site)(m:Ms)(i:Nat):Lg s (s.others m i):=by rw[bH];exact Lg.of rfl rfl
theorem Ji{y:Sp}{r:Rc}(h:s.note y r=some t):Lg s t:=by
 unfold note at h
 split at h
 ·injection h with h;subst h;exact Lg.of rfl rfl
 ·cases h
theorem pz{x:Int}{b:Bl}{v:List UInt8}(h:s.accept x b v=some t):Lg s t:=by
 unfold accept at h
 split at h
 ·cases h
 ·exact Ji h
theorem Ai{x:Int}{b:Bl}(h:s.promise x b=some t):Lg s t:=by
 unfold promise at h
 split at h
 ·cases h
 ·exact Ji h
theorem mJ(s:Site)(x:Int)(v:List UInt8):Lg s (s.aX x v):=by
 refine⟨fun y u h=>?_,(jt s x v).taken⟩
 unfold aX
 split
 ·show aD y (if(s.dec x).isSome then s.lv else aT x v s.lv)=some u
  split
  ·exact h
  ·rename_i hn
   rw[cO]
   split
   ·rename_i e;subst e;rw[h]at hn;exact absurd rfl hn
   ·exact h
 ·exact h
theorem qe(s:Site)(l:AL Rn):Lg s {s with rs:=l}:=Lg.of rfl rfl
theorem S6(s:Site)(x:Nat):Lg s {s with nx:=x}:=Lg.of rfl rfl
theorem Lc(s:Site)(l:List Int):Lg s {s with wt:=l}:=Lg.of rfl rfl
theorem Um(s:Site)(l:List Ms)(k:Nat):Lg s {s with dn:=k,held:=l}:=Lg.of rfl rfl
theorem QY(t:Site)(b:Bl)(x:Int):Lg t (t.iI b x):=((mV t (bt x b) t.n).trans (mU _ _ _)).trans (S6 _ _)
theorem yG:∀(f c:Nat)(s:Site)(tg:Int),Lg s (cG f c s tg)
 |0,_,s,_=>Lg.refl s
 |f+1,c,s,tg=>by
  unfold cG
  split
  ·exact Lg.refl s
  split
  ·exact Lg.refl s
  split
  ·split
   ·exact Lg.refl s
   ·exact((pz (by assumption)).trans (QY _ _ _)).trans (yG f _ _ _)
  ·exact(S6 _ _).trans (yG f _ _ _)
theorem wT(s:Site)(tg:Int):Lg s (s.skip tg):=yG _ _ _ _
theorem QZ(s:Site)(x:Int):Lg s (s.cK x):=by
 unfold cK
 split
 ·exact Lg.refl s
 split
 ·exact Lg.refl s
 ·exact(((Ai (by assumption)).trans (qe _ _)).trans (mV _ _ _)).trans (mU _ _ _)
theorem Gf(s:Site)(m:Ms):Lg s (s.dI m):=by
 unfold dI
 split
 ·refine Lg.trans ?_ (wT _ _)
  split
  ·exact(pz (by assumption)).trans (mU _ _ _)
  ·exact Lg.refl s
 ·exact Lg.refl s
theorem Ld(s:Site)(m:Ms):Lg s (s.eR m):=by
 unfold eR
 split
 ·exact mJ _ _ _
 ·exact Lg.refl s
theorem Hi(s:Site)(m:Ms):Lg s (s.ed m):=by
 unfold ed
 split
 ·split
  ·exact(Ai (by assumption)).trans (mU _ _ _)
  ·exact Lg.refl s
 ·exact Lg.refl s
theorem Hj(s:Site)(m:Ms):Lg s (s.bT m):=by
 unfold bT
 split
 ·exact Lg.refl s
 split
 ·simp only
  split
  ·exact qe _ _
  ·split
   ·exact(qe _ _).trans (qe _ _)
   ·exact((((qe _ _).trans (pz (by assumption))).trans (qe _ _)).trans (mV _ _ _)).trans (mU _ _ _)
 ·exact Lg.refl s
theorem Q0(s:Site)(m:Ms):Lg s (s.asked m):=by
 unfold asked
 split
 ·split
  ·exact(pz (by assumption)).trans (mU _ _ _)
  ·exact Lg.refl s
 ·exact Lg.refl s
theorem Hk(s:Site)(m:Ms):Lg s (s.accepted m):=by
 unfold accepted
 split
 ·exact Lg.refl s
 split
 ·simp only
  split
  ·exact((qe _ _).trans (mJ _ _ _)).trans (mV _ _ _)
  ·exact qe _ _
 ·exact Lg.refl s
theorem Lf(s:Site)(m:Ms):Lg s (s.gr m):=by
 unfold gr
 split
 ·exact mJ _ _ _
 ·exact Lg.refl s
theorem Gg(tg:Int)(f:Int→Ms):∀(l:List Int)(s:Site),Lg s (l.foldl (fun u x=>u.send tg (f x)) s)
 |[],s=>Lg.refl s
 |x::l,s=>(mU s tg (f x)).trans (Gg tg f l _)
theorem Ow(s:Site)(m:Ms):Lg s (s.wanted m):=by
 unfold wanted
 simp only
 refine Lg.trans ?_ (Gg _ _ _ _)
 split
 ·exact wT _ _
 ·exact Lg.refl s
theorem Jj(s:Site)(m:Ms):Lg s (s.ct m):=by
 unfold ct
 split
 ·exact Gf _ _
 split
 ·exact Ld _ _
 split
 ·exact Hi _ _
 split
 ·exact Hj _ _
 split
 ·exact Q0 _ _
 split
 ·exact Hk _ _
 split
 ·exact Lf _ _
 split
 ·exact Ow _ _
 ·exact Lg.refl s
theorem Jk(s:Site)(m:Ms):Lg s (s.take m):=by
 unfold take
 split
 ·split
  ·exact mU _ _ _
  ·exact Jj _ _
 ·exact Jj _ _
theorem Gh:∀(l:List Ms)(s:Site),Lg s (l.foldl Site.take s)
 |[],s=>Lg.refl s
 |m::l,s=>(Jk s m).trans (Gh l _)
theorem Gi(s:Site):Lg s s.again:=by
 unfold again
 have:∀(l:List (Int × Rn))(u:Site),Lg u (l.foldl (fun u p=>u.others (asks p.2 p.1) u.n) u):=by
  intro l
  induction l with
  |nil=>exact fun u=>Lg.refl u
  |cons p l ih=>exact fun u=>(mV _ _ _).trans (ih _)
 exact(qe s _).trans (this _ _)
theorem wz:∀(l:List Int)(s:Site),Lg s (l.foldl cK s)
 |[],s=>Lg.refl s
 |x::l,s=>(QZ s x).trans (wz l _)
theorem Ox(s:Site)(m:Ms):Lg s (s.handle m).1:=by
 unfold handle
 split
 ·exact Lg.refl s
 split
 ·exact Lg.refl s
 split
 ·exact Lg.refl s
 ·exact(Lc s _).trans (Jk _ _)
theorem Jl(s:Site):Lg s s.tick:=by
 cases hd:s.down with
 |true=>unfold tick;rw[if_pos hd];exact Lg.refl s
 |false=>
  unfold tick
  rw[if_neg (by rw[hd];simp)]
  dsimp only
  split
  ·exact((Lc s _).trans ((Gi _).trans ((wT _ _).trans (wz _ _)))).trans (mV _ _ _)
  ·exact(Lc s _).trans ((Gi _).trans ((wT _ _).trans (wz _ _)))
theorem Un(s:Site):Lg s s.sync.1:=by
 unfold sync
 split
 ·exact Lg.refl s
 ·exact(Um s _ _).trans (Gh _ _)
theorem Oy(s:Site)(v:List UInt8):Lg s (s.cm v).1:=by
 unfold cm
 split
 ·exact Lg.refl s
 split
 ·exact Lg.refl s
 dsimp only
 split
 ·exact Lg.refl s
 split
 ·exact Lg.refl s
 ·rename_i t ht
  rw[bH]
  exact(pz ht).trans (Lg.of rfl rfl)
theorem Q1(s:Site)(k:Int):Lg s (s.dB k):=by
 unfold dB
 split<;>exact Lg.of rfl rfl
end Site
namespace Wd
def has(w:Wd)(i:Int):Bool:=decide (0≤i)&&decide (i<(w.aI.length:Int))
def place(w:Wd)(s:Int):Option Nat:=if 0≤s∧s<(w.ss.length:Int)then some s.toNat else none
def fc(w:Wd)(s:Int)(f:Nat→Wd × Int × Int):Wd × Int × Int:=match w.place s with
 |none=>(w,0,1)
 |some i=>f i
def oC(w:Wd)(v:List UInt8)(i:Nat):Wd × Int × Int:=match w.ss[i]? with
 |none=>(w,0,1)
 |some t=>({w with ss:=w.ss.set i (t.cm v).1},(t.cm v).2.1,(t.cm v).2.2)
noncomputable def fC (w:Wd) (k s a n:Int) (v:List UInt8):Wd × Int × Int:=
 if k=1 then w.fc s (w.oC v)
 else if k=2 then(if w.has a then w.du a.toNat else w,0,if w.has a then 0 else 6)
 else if k=3 then(if w.has a then {w with aI:=w.aI.eraseIdx a.toNat}else w,0,if w.has a then 0 else 6)
 else if k=4 then(if w.has a then w.double a.toNat else w,0,if w.has a then(if w.aI.length<4096 then 0 else 5)else 6)
 else if k=5 then w.fc s fun i=>(w.eJ i Site.tick,0,0)
 else if k=6 then w.fc s fun i=>(w.tell i,0,0)
 else if k=7 then w.fc s fun i=>(w.eJ i fun t=>t.dB n,0,0)
 else if k=8 then w.fc s fun i=>(w.bC i,0,0)
 else(w,0,1)
end Wd
def lN(f:Nat→List UInt8)(t:Nat):List (List UInt8):=((List.range t).map f).filter fun v=>decide (v≠[])
theorem Oz(f:Nat→List UInt8)(t k:Nat):lN f (t+k)=lN f t++(((range' t k).map f).filter fun v=>decide (v≠[])):=by
 unfold lN
 rw[range_eq_range',range_eq_range',←filter_append,←map_append]
 have:=range'_append (s:=0) (m:=t) (n:=k) (step:=1)
 rw[←this]
 simp
theorem xx{f g:Nat→List UInt8}{t:Nat}(h:∀x,x<t→f x=g x):lN f t=lN g t:=by
 unfold lN
 congr 1
 exact map_congr_left fun x hx=>h x (mem_range.1 hx)
def Site.val(s:Site)(x:Nat):List UInt8:=(s.dec (x:Int)).getD []
structure lj(s:Site)(d:List (List UInt8)):Prop where
 all:∀x:Nat,x<s.taken→∃v,s.dec (x:Int)=some v
 eq:d=lN s.val s.taken
theorem lj.lg{s t:Site}{d:List (List UInt8)}(h:lj s d)(k:Site.Lg s t):lj t d:=by
 refine⟨fun x hx=>?_,?_⟩
 ·rw[k.taken]at hx
  obtain⟨v,hv⟩:=h.all x hx
  exact⟨v,k.dec _ _ hv⟩
 ·rw[h.eq,k.taken]
  refine xx fun x hx=>?_
  obtain⟨v,hv⟩:=h.all x hx
  unfold Site.val
  rw[hv,k.dec _ _ hv]
theorem ri{α:Type}(L:AL α):∀(k s:Nat),s≤cN L k s
 |0,s=>Nat.le_refl _
 |k+1,s=>by
  unfold cN
  split
  ·have:=ri L k (s+1);omega
  ·exact Nat.le_refl _
theorem tN{α:Type}(L:AL α):∀(k s x:Nat),s≤x→x<cN L k s→∃v,aD (x:Int) L=some v
 |0,s,x,h1,h2=>by unfold cN at h2;omega
 |k+1,s,x,h1,h2=>by
  unfold cN at h2
  split at h2
  ·rename_i e
   by_cases hx:x=s
   ·subst hx;exact Option.isSome_iff_exists.1 e
   ·exact tN L k (s+1) x (by omega) h2
  ·omega
theorem Site.Q2(s:Site):s.taken≤s.front:=ri _ _ _
theorem lj.ey{s:Site}{d:List (List UInt8)}(h:lj s d):lj s.ey.1 (d++s.ey.2.filter fun v=>decide (v≠[])):=by
 have hg:=s.Q2
 refine⟨fun x hx=>?_,?_⟩
 ·show ∃v,s.dec (x:Int)=some v
  have hx:x<s.front:=hx
  by_cases hl:x<s.taken
  ·exact h.all x hl
  ·exact tN _ _ _ x (by omega) hx
 ·have e:s.front=s.taken+(s.front-s.taken):=by omega
  show _=lN s.val s.front
  rw[e,Oz,h.eq]
  rfl
theorem lj.new(me n pat:Nat):lj (Site.new me n pat) []:=⟨fun x hx=>by simp[Site.new]at hx,rfl⟩
structure da(w:Wd):Prop where
 len:w.done.length=w.ss.length
 one:∀(i:Nat) s,w.ss[i]? =some s→∃d,w.done[i]? =some d∧lj s d
namespace da
variable {w:Wd}
theorem new(n pat:Nat):da (Wd.new n pat):=by
 refine⟨by simp[Wd.new],fun i s hs=>?_⟩
 unfold Wd.new at hs ⊢
 simp only at hs ⊢
 obtain⟨hi,he⟩:=List.getElem?_eq_some_iff.1 hs
 rw[length_map,length_range]at hi
 rw[getElem_map,getElem_range]at he
 subst he
 exact⟨[],by rw[List.getElem?_replicate,if_pos hi],lj.new _ _ _⟩
theorem oc(h:da w){i:Nat}{s t:Site}(hs:w.ss[i]? =some s)(k:Site.Lg s t)(aI:List Ms):da {w with ss:=w.ss.set i t,aI:=aI}:=by
 refine⟨by simp[h.len],fun j u hu=>?_⟩
 simp only at hu
 by_cases e:i=j
 ·subst e
  rw[List.getElem?_set_self (List.getElem?_eq_some_iff.1 hs).1]at hu
  injection hu with hu;subst hu
  obtain⟨d,h1,h2⟩:=h.one i s hs
  exact⟨d,h1,h2.lg k⟩
 ·rw[List.getElem?_set_ne e]at hu
  exact h.one j u hu
theorem Q3(h:da w)(aI:List Ms):da {w with aI:=aI}:=⟨h.len,h.one⟩
theorem eJ(h:da w)(i:Nat){f:Site→Site}(k:∀s,Site.Lg s (f s)):da (w.eJ i f):=by
 unfold Wd.eJ
 split
 ·exact h
 ·exact h.oc (by assumption) (k _) w.aI
theorem tell(h:da w)(i:Nat):da (w.tell i):=by
 unfold Wd.tell
 split
 ·exact h
 ·exact h.oc (by assumption) (Site.Un _) _
theorem du(h:da w)(k:Nat):da (w.du k):=by
 unfold Wd.du
 split
 ·exact h
 split
 ·exact h.Q3 _
 ·exact h.oc (by assumption) (Site.Ox _ _) _
theorem double(h:da w)(k:Nat):da (w.double k):=by
 unfold Wd.double
 split
 ·exact h
 split
 ·exact h.Q3 _
 ·exact h
theorem YK(h:da w){i:Nat}{s t:Site}(hs:w.ss[i]? =some s){d:List (List UInt8)}(hd:lj t d):da {w with ss:=w.ss.set i t,done:=w.done.set i d}:=by
 have hi:=(List.getElem?_eq_some_iff.1 hs).1
 refine⟨by simp[h.len],fun j u hu=>?_⟩
 simp only at hu ⊢
 by_cases e:i=j
 ·subst e
  rw[List.getElem?_set_self hi]at hu
  injection hu with hu;subst hu
  exact⟨d,by rw[List.getElem?_set_self (by rw[h.len];exact hi)],hd⟩
 ·rw[List.getElem?_set_ne e]at hu ⊢
  exact h.one j u hu
theorem take(h:da w)(i:Nat):da (w.take i):=by
 unfold Wd.take
 split
 ·exact h
 ·rename_i s hs
  obtain⟨d,h1,h2⟩:=h.one i s hs
  refine h.YK hs ?_
  rw[List.getD_eq_getElem?_getD,h1]
  exact h2.ey
theorem _root_.aL.Site.Gj(s:Site)(r:Rc):(s.eh r).taken=s.taken:=by
 unfold Site.eh
 split
 ·rfl
 split<;>rfl
theorem _root_.aL.Site.uW:∀(l:List Rc)(s:Site),(l.foldl Site.eh s).taken=s.taken
 |[],_=>rfl
 |r::l,s=>(Site.uW l (s.eh r)).trans (Site.Gj s r)
theorem bC(h:da w)(i:Nat):da (w.bC i):=by
 unfold Wd.bC
 split
 ·exact h
 ·rename_i s hs
  obtain⟨d,h1,h2⟩:=h.one i s hs
  cases hd:s.down with
  |false=>
   have e:s.bC=s:=by unfold Site.bC;rw[if_neg (by rw[hd];simp)]
   rw[e]
   have k:=h.oc hs (Site.Lg.refl s) w.aI
   simpa using k
  |true=>
   refine h.YK hs ?_
   have e:s.bC.taken=0:=by
    unfold Site.bC
    rw[if_pos hd]
    exact Site.uW _ _
   exact⟨fun x hx=>by omega,by rw[e];rfl⟩
theorem fC(h:da w)(k s a n:Int)(v:List UInt8):da (w.fC k s a n v).1:=by
 have at_:∀(f:Nat→Wd × Int × Int),(∀i,da (f i).1)→da (w.fc s f).1:=fun f hf=>by
  unfold Wd.fc
  split
  ·exact h
  ·exact hf _
 unfold Wd.fC
 split
 ·refine at_ _ fun i=>?_
  unfold Wd.oC
  split
  ·exact h
  ·exact h.oc (by assumption) (Site.Oy _ v) w.aI
 split
 ·dsimp only;split
  ·exact h.du _
  ·exact h
 split
 ·dsimp only;split
  ·exact h.Q3 _
  ·exact h
 split
 ·dsimp only;split
  ·exact h.double _
  ·exact h
 split
 ·exact at_ _ fun i=>h.eJ i Site.Jl
 split
 ·exact at_ _ fun i=>h.tell i
 split
 ·exact at_ _ fun i=>h.eJ i fun s=>Site.Q1 s n
 split
 ·exact at_ _ fun i=>h.bC i
 ·exact h
end da
theorem OA{f:Nat→List UInt8}{t:Nat}{v:List UInt8}(h:v∈lN f t):v≠[]∧∃x,x<t∧f x=v:=by
 unfold lN at h
 obtain⟨h1,h2⟩:=mem_filter.1 h
 obtain⟨x,hx,e⟩:=mem_map.1 h1
 exact⟨by simpa using h2,x,mem_range.1 hx,e⟩
def Aj(w:Wd)(y:Nat):Prop:=∀(i:Nat) s,w.ss[i]? =some s→Lv s y
theorem Lv.less{s:Site}{y z:Nat}(h:Lv s y)(hz:z≤y):Lv s z:=by
 obtain⟨S,⟨R,c,h1,h2⟩|h1⟩:=h
 ·exact⟨S,.inl ⟨R,c,h1,by omega⟩⟩
 ·exact⟨S,.inr h1⟩
namespace Wd
def aU(w:Wd):Nat→Wd
 |0=>w
 |i+1=>((w.aU i).eJ i Site.tick).tell i
def fa(w:Wd)(m:Ms):Wd:=(w.du 0).tell m.to.toNat
def drain:Nat→Wd→Wd × Nat
 |0,w=>(w,0)
 |k+1,w=>match w.aI with
  |[]=>(w,0)
  |m::_=>((drain k (w.fa m)).1,(drain k (w.fa m)).2+1)
def round(w:Wd):Wd × Nat:=drain 20000 (w.aU w.ss.length)
theorem jY(k:Nat){w:Wd}(h:w.aI= []):drain k w=(w,0):=by
 cases k with
 |zero=>rfl
 |succ k=>unfold drain;rw[h]
theorem fX(k:Nat){w:Wd}{m:Ms}{l:List Ms}(h:w.aI=m::l):drain (k+1) w=((drain k (w.fa m)).1,(drain k (w.fa m)).2+1):=by
 rw[drain,h]
theorem Q4(w:Wd)(i:Nat)(f:Site→Site):(w.eJ i f).ss.length=w.ss.length:=by unfold eJ;split<;>simp
theorem kd(w:Wd)(i:Nat):(w.tell i).ss.length=w.ss.length:=by unfold tell;split<;>simp
theorem gZ(w:Wd):∀i,(w.aU i).ss.length=w.ss.length
 |0=>rfl
 |i+1=>by rw[aU,kd,Q4,gZ w i]
structure Jm(w:Wd):Prop where
 tick:∀i,i<w.ss.length→Aj (w.aU i) 300∧Aj ((w.aU i).eJ i Site.tick) 0
 fa:∀k,k<20000→Aj (drain k (w.aU w.ss.length)).1 0∧∀m l,(drain k (w.aU w.ss.length)).1.aI=m::l→Aj ((drain k (w.aU w.ss.length)).1.du 0) 0
end Wd
section
variable {w:Wd} {n c:Nat} {P:Int→List UInt8→Prop} {G:Int→List Rc}
theorem bR.aU:∀(i c:Nat),bR w n P (300*i+c) G→∃G',fq G G'∧bR (w.aU i) n P c G'
 |0,c,h=>⟨G,fq.refl G,h.less (by omega)⟩
 |i+1,c,h=>by
  obtain⟨G1,g1,h1⟩:=bR.aU i (300+c) (h.less (by omega))
  have h2:=h1.tick i
  obtain⟨G2,g2,h3⟩:=h2.tell i
  exact⟨G2,fun f=>(g1 f).trans (g2 f),h3⟩
theorem bR.fa(h:bR w n P (100+c) G)(m:Ms):∃G',fq G G'∧bR (w.fa m) n P c G':=(h.du 0).tell _
theorem bR.drain:∀(k:Nat){w:Wd}{G:Int→List Rc},bR w n P (100*k+c) G→∃G',fq G G'∧bR (Wd.drain k w).1 n P c G'
 |0,w,G,h=>⟨G,fq.refl G,h.less (by omega)⟩
 |k+1,w,G,h=>by
  cases hn:w.aI with
  |nil=>rw[Wd.jY _ hn];exact⟨G,fq.refl G,h.less (by omega)⟩
  |cons m l=>
   rw[Wd.fX _ hn]
   obtain⟨G1,g1,h1⟩:=bR.fa (c:=100*k+c) (h.less (by omega)) m
   obtain⟨G2,g2,h2⟩:=bR.drain k h1
   exact⟨G2,fun f=>(g1 f).trans (g2 f),h2⟩
theorem bR.round_eq(h:bR w n P c G):w.round=Wd.drain 20000 (w.aU n):=by rw[Wd.round,h.len]
theorem bR.round(h:bR w n P (300*n+2000000+c) G):∃G',fq G G'∧bR w.round.1 n P c G':=by
 obtain⟨G1,g1,h1⟩:=bR.aU n (2000000+c) (h.less (by omega))
 obtain⟨G2,g2,h2⟩:=bR.drain (c:=c) 20000 (h1.less (by omega))
 exact⟨G2,fun f=>(g1 f).trans (g2 f),by rw[h.round_eq];exact h2⟩
theorem bR.AZ(h:bR w n P (300*n+2000000) G):Wd.Jm w:=by
 refine⟨fun i hi=>?_,fun k hk=>?_⟩
 ·rw[h.len]at hi
  obtain⟨G1,-,h1⟩:=bR.aU i 300 (h.less (by omega))
  exact⟨h1.lv,(bR.tick (c:=0) h1 i).lv⟩
 ·rw[h.len]
  obtain⟨G1,-,h1⟩:=bR.aU n 2000000 (h.less (by omega))
  obtain⟨G2,-,h2⟩:=bR.drain (c:=100) k (h1.less (by omega))
  exact⟨fun i s hs=>(h2.lv i s hs).less (by omega),fun m l _=>(bR.du (c:=0) h2 0).lv⟩
end
theorem da.aU{w:Wd}(h:da w):∀i,da (w.aU i)
 |0=>h
 |i+1=>((da.aU h i).eJ i Site.Jl).tell i
theorem da.drain:∀(k:Nat){w:Wd},da w→da (Wd.drain k w).1
 |0,_,h=>h
 |k+1,w,h=>by
  cases hn:w.aI with
  |nil=>rw[Wd.jY _ hn];exact h
  |cons m l=>rw[Wd.fX _ hn];exact da.drain k ((h.du 0).tell _)
theorem da.round{w:Wd}(h:da w):da w.round.1:=da.drain _ (h.aU _)
section
variable {w:Wd} {n c:Nat} {P P':Int→List UInt8→Prop} {G:Int→List Rc}
theorem bR.Dy(h:bR w n P c G)(hp:∀x v,P x v→P' x v):bR w n P' c G:=
 ⟨h.qG.Dy hp,h.len,fun i s hs=>by
  obtain⟨h1,h2,h3⟩:=h.site i s hs
  exact⟨h1,h2,h3.imp (fun⟨R,z,h4,h5⟩=>⟨R,z,h4.mono (fq.refl G) hp rfl,h5⟩) fun h4=>h4.mono (fq.refl G) hp rfl⟩,h.aI⟩
theorem Wd.tS{s:Int}{i:Nat}(h:w.place s=some i):s=(i:Int)∧∃t,w.ss[i]? =some t:=by
 unfold Wd.place at h
 split at h
 ·rename_i hs
  injection h with h
  subst h
  exact⟨by omega,w.ss[s.toNat]'(by omega),List.getElem?_eq_getElem (by omega)⟩
 ·cases h
theorem bR.fC(h:bR w n P (300+c) G)(hc:c≤400000000)(k s a m:Int)(v:List UInt8)(hp:∀x v,P x v→P' x v)(hs:k=1→(w.fC k s a m v).2.2=0→P' (w.fC k s a m v).2.1 v) :
  ∃G',fq G G'∧bR (w.fC k s a m v).1 n P' c G':=by
 have h':=h.Dy hp
 have at_:∀(f:Nat→Wd × Int × Int),(∀i,∃G',fq G G'∧bR (f i).1 n P' c G')→∃G',fq G G'∧bR (w.fc s f).1 n P' c G':=fun f hf=>by
  unfold Wd.fc
  split
  ·exact⟨G,fq.refl G,h'.less (by omega)⟩
  ·exact hf _
 unfold Wd.fC at hs ⊢
 split
 ·rename_i k1
  rw[if_pos k1]at hs
  have hs:=hs k1
  unfold Wd.fc at hs ⊢
  split
  ·exact⟨G,fq.refl G,h'.less (by omega)⟩
  ·rename_i i hpl
   rw[hpl]at hs
   dsimp only at hs
   obtain⟨-,t,ht⟩:=Wd.tS hpl
   unfold Wd.oC at hs ⊢
   rw[ht]at hs ⊢
   have:=(h.less (d:=100+c) (by omega)).cm (P':=P') v ht hp hs
   unfold Wd.eJ at this
   rw[ht]at this
   exact⟨G,fq.refl G,this⟩
 split
 ·dsimp only;split
  ·exact⟨G,fq.refl G,(h'.less (d:=100+c) (by omega)).du _⟩
  ·exact⟨G,fq.refl G,h'.less (by omega)⟩
 split
 ·dsimp only;split
  ·exact⟨G,fq.refl G,(h'.less (by omega)).drop _⟩
  ·exact⟨G,fq.refl G,h'.less (by omega)⟩
 split
 ·dsimp only;split
  ·exact⟨G,fq.refl G,(h'.less (by omega)).double _⟩
  ·exact⟨G,fq.refl G,h'.less (by omega)⟩
 split
 ·exact at_ _ fun i=>⟨G,fq.refl G,h'.tick i⟩
 split
 ·exact at_ _ fun i=>(h'.less (by omega)).tell i
 split
 ·exact at_ _ fun i=>⟨G,fq.refl G,(h'.less (by omega)).dB i m⟩
 split
 ·exact at_ _ fun i=>(h'.less (by omega)).bC hc i
 ·exact⟨G,fq.refl G,h'.less (by omega)⟩
theorem bR.take(h:bR w n P c G)(i:Nat):bR (w.take i) n P c G:=by
 unfold Wd.take
 split
 ·exact h
 ·rename_i s hs
  have hA:∀{R z},PA G P s R z→PA G P s.ey.1 R z:=fun {R z} h1=>
   ⟨⟨⟨h1.al.ok.me,h1.al.ok.n3,h1.al.ok.n7,h1.al.ok.pat,h1.al.ok.st,h1.al.ok.rs,h1.al.ok.top,h1.al.ok.nx,h1.al.ok.held⟩,h1.al.up,h1.al.may,h1.al.db,h1.al.gR,h1.al.pre,h1.al.dn,h1.al.st,h1.al.held,h1.al.cI,h1.al.lim,h1.al.kn,h1.al.wt,h1.al.lv⟩,h1.msg,h1.eY,h1.dec,h1.jE,h1.one⟩
  have hD:PD G P s→PD G P s.ey.1:=fun h1=>
   ⟨⟨⟨h1.dn.ok.me,h1.dn.ok.n3,h1.dn.ok.n7,h1.dn.ok.pat,h1.dn.ok.st,h1.dn.ok.rs,h1.dn.ok.top,h1.dn.ok.nx,h1.dn.ok.held⟩,h1.dn.down,h1.dn.pre,h1.dn.gR,h1.dn.dn,h1.dn.held⟩,h1.dec,h1.jE,h1.one⟩
  exact h.oc (P':=P) (t:=s.ey.1) hs ⟨rfl,rfl⟩ (Nat.le_refl _) (fun _ _ h=>h) (fun R z h1 h2=>.inl ⟨R,z,hA h1,h2⟩) (fun h1=>.inl (hD h1)) (fun _ h=>h) _
end
noncomputable def Gk:Wd:=((Wd.new 3 4).fC 1 1 0 0 [120]).1
noncomputable def Q5:Wd:=Gk.round.1
noncomputable def pI:Nat→Wd
 |0=>Q5.round.1
 |i+1=>(pI i).take i
theorem Uo:((Wd.new 3 4).fC 1 1 0 0 [120]).2=(1,0):=by kernel_rfl
theorem Q6:∀i,(pI i).ss.length=3:=by
 have h:(pI 0).ss.length=3:=by kernel_rfl
 intro i
 induction i with
 |zero=>exact h
 |succ i ih=>
  show((pI i).take i).ss.length=3
  unfold Wd.take
  split
  ·exact ih
  ·simpa using ih
theorem Uq:∀i,i<3→(pI (i+1)).done.getD i []= [[120]]∧((pI (i+1)).ss[i]?.map Site.front).getD 0=2:=by
 intro i hi
 have:i=0∨i=1∨i=2:=by omega
 rcases this with rfl|rfl|rfl
 ·exact⟨by kernel_rfl,by kernel_rfl⟩
 ·exact⟨by kernel_rfl,by kernel_rfl⟩
 ·exact⟨by kernel_rfl,by kernel_rfl⟩
theorem A9:im ((0:Nat):Int) ((3:Nat):Int) ((4:Nat):Int)=true:=by decide
theorem Gl:∃G,bR Gk 3 (fun _ _=>True) 300000000 G:=by
 have h:=bR.new A9 (fun _ _=>True)
 obtain⟨G,-,h2⟩:=(h.less (d:=300+300000000) (by omega)).fC (P':=fun _ _=>True) (by omega) 1 1 0 0 [120] (fun _ _ h=>h) (fun _ _=>trivial)
 exact⟨G,h2⟩
theorem Q7:∃G,bR Q5 3 (fun _ _=>True) 200000000 G:=by
 obtain⟨G,h⟩:=Gl
 obtain⟨G2,-,h2⟩:=bR.round (c:=200000000) (h.less (by omega))
 exact⟨G2,h2⟩
theorem OB:da Gk:=(da.new 3 4).fC 1 1 0 0 [120]
theorem CG:∀i,da (pI i)
 |0=>OB.round.round
 |i+1=>(CG i).take i
