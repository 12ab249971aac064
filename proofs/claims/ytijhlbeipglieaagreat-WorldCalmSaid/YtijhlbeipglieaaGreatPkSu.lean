/- For WorldCalm. -/
import Derived.Test.YtijhlbeipglieaaGreatPkSiteI
set_option linter.all false
namespace aL
open Go Go.Proofs.YtijhlbeipglieaaGreat List
def gE(n:Int)(l:List Pm):Option Pm:=
 l.foldl (fun b p=>if p.so&&dd p.f n&&(match b with|none=>true|some q=>decide (0<dr p.at_ q.at_))then some p else b) none
def dM(l:List Pm)(n:Int):Option (List UInt8):=if fN (l.map Pm.f) n then some (((gE n l).map Pm.b).getD [])else none
instance (m:Ms):Decidable m.bL:=decidable_of_iff ((1≤m.kind∧m.kind≤8)∧(0≤m.aR∧m.aR≤6)∧(0≤m.to∧m.to≤6)∧(0≤m.slot∧m.slot≤4095)∧(0≤m.bU∧m.bU≤1099511627776)∧(0≤m.cu∧m.cu≤6)∧
  (0≤m.dw∧m.dw≤1099511627776)∧(0≤m.dR∧m.dR≤6)∧m.val.length≤2048∧(m.some_=true∨(m.dw=0∧m.dR=0)∧m.val.length=0))
 ⟨fun⟨a,b,c,d,e,f,g,h,i,j⟩=>⟨a,b,c,d,e,f,g,h,i,j⟩,fun⟨a,b,c,d,e,f,g,h,i,j⟩=>⟨a,b,c,d,e,f,g,h,i,j⟩⟩
def Ms.aC(m:Ms):Bl:=⟨m.bU,m.cu⟩
def Ms.had(m:Ms):Bl:=⟨m.dw,m.dR⟩
namespace Site
variable (s:Site)
def front:Nat:=cN s.lv (4096-s.taken) s.taken
def bF:Int:=max s.top (eT s.lv)
def answer(s:Site)(slot:Int)(b:Bl):Ms:=⟨4,0,0,slot,b.r,b.s,(s.stat slot).at_.r,(s.stat slot).at_.s,(s.stat slot).so,(s.stat slot).b⟩
def bt(slot:Int)(b:Bl):Ms:=⟨2,0,0,slot,b.r,b.s,0,0,false,[]⟩
def iI(t:Site)(b:Bl)(x:Int):Site:={(t.others (bt x b) t.n).send t.me (bt x b)with nx:=(x+1).toNat}
def cG:Nat→Nat→Site→Int→Site
 |0,_,s,_=>s
 |f+1,c,s,to=>
  if 8≤c then s else
  if bV s.me s.nx s.n<0∨to≤bV s.me s.nx s.n then s else
  if s.fresh (bV s.me s.nx s.n)then match s.accept (bV s.me s.nx s.n) s.bQ [] with
   |none=>s
   |some t=>cG f (c+1) (t.iI s.bQ (bV s.me s.nx s.n)) to
  else cG f c {s with nx:=(bV s.me s.nx s.n+1).toNat} to
def skip(to:Int):Site:=cG 4098 0 s to
def low(slot:Int):Bl:=
 match aD slot s.rs with
 |some r=>if 0<dr r.aC (s.stat slot).p then r.aC else(s.stat slot).p
 |none=>(s.stat slot).p
def cK(slot:Int):Site:=
 if dr ((s.low slot).next s.me) (s.low slot)≤0 then s else match s.promise slot ((s.low slot).next s.me) with
 |none=>s
 |some t=>
  let r:Rn:=⟨(s.low slot).next s.me,[],false,[],[],0⟩
  let u:=({t with rs:=aT slot r t.rs} :Site).others (asks r slot) s.n
  u.send u.me (u.answer slot r.aC)
def again:Site:=(s.rs.take 8).foldl (fun u p=>u.others (asks p.2 p.1) u.n) {s with rs:=cD (fun r=>{r with cV:=r.cV+1}) s.rs}
def tK:List Int:=((List.range s.n).filter fun i=>decide ((s.pat:Int)<s.wt.getD i 0)).map fun(i:Nat)=>(i:Int)
def leads:Bool:=nM s.pat (s.wt.take s.n) 0==(s.me:Int)
def due(slot:Int):Bool:=
 (s.dec slot).isNone && !(match aD slot s.rs with|some r=>decide (r.cV≤s.pat)|none=>false) &&
  ((bK slot s.n==(s.me:Int) && !s.fresh slot)||(s.leads&&s.tK.contains (bK slot s.n)))
def late(top:Int):List Int:=(((range' s.front (top.toNat-s.front)).map fun(i:Nat)=>(i:Int)).filter s.due).take 8
def dT(f:Int)(b:Bool):Ms:=⟨8,0,0,f,0,0,0,0,b,[]⟩
def tick:Site:=
 if s.down then s else
 let s2:=({s with wt:=cC s.me s.wt s.n} :Site).again
 let s3:=s2.skip s2.bF
 let s4:=(s3.late s3.bF).foldl cK s3
 if s4.front<4096 then s4.others (dT s4.front (decide ((s4.front:Int)<s3.bF))) s4.n else s4
def dI(m:Ms):Site:=
 if m.some_=true∧m.aR=bK m.slot s.n∧m.aC=⟨0,m.aR⟩ then
  (match s.accept m.slot m.aC m.val with|some t=>t.send m.aR (bB m.slot m.aC)|none=>s).skip m.slot
 else s
def eR(m:Ms):Site:=if m.aR=bK m.slot s.n then s.aX m.slot []else s
def ed(m:Ms):Site:=
 if 1≤m.bU∧m.cu=m.aR then
  (match s.promise m.slot m.aC with|some t=>t.send m.aR (t.answer m.slot m.aC)|none=>s)
 else s
def bT(m:Ms):Site:=
 match aD m.slot s.rs with
 |none=>s
 |some r=>
  if r.aC=m.aC∧r.so=false then
   let pr:=r.pr++[(⟨m.aR,m.some_,m.had,m.val⟩:Pm)]
   let t:={s with rs:=aT m.slot {r with pr:=pr} s.rs}
   match dM pr s.n with
   |none=>t
   |some v=>match t.accept m.slot r.aC v with
    |none=>{t with rs:=bY m.slot t.rs}
    |some u=>
     let r':={r with pr:=pr,so:=true,b:=v}
     (({u with rs:=aT m.slot r' u.rs} :Site).others (asks r' m.slot) s.n).send s.me (bB m.slot r.aC)
  else s
def asked(m:Ms):Site:=
 if m.some_=true∧1≤m.bU∧m.cu=m.aR then
  (match s.accept m.slot m.aC m.val with|some t=>t.send m.aR (bB m.slot m.aC)|none=>s)
 else s
def gr(m:Ms):Site:=if m.some_=true then s.aX m.slot m.val else s
def wanted(m:Ms):Site:=
 let t:=if m.some_=true∧s.dec m.slot=none∧bK m.slot s.n=s.me then s.skip (m.slot+1)else s
 ((((range' m.slot.toNat ((eT t.lv).toNat-m.slot.toNat)).map fun(i:Nat)=>(i:Int)).filter fun x=>(t.dec x).isSome).take 16).foldl (fun u x=>u.send m.aR (bD x ((t.dec x).getD []))) t
def ct(m:Ms):Site:=
 if m.kind=1 then s.dI m else if m.kind=2 then s.eR m else if m.kind=3 then s.ed m else if m.kind=4 then s.bT m
 else if m.kind=5 then s.asked m else if m.kind=6 then s.accepted m else if m.kind=7 then s.gr m else if m.kind=8 then s.wanted m else s
def take(m:Ms):Site:=
 if m.kind=1∨m.kind=3∨m.kind=5 then match s.dec m.slot with|some v=>s.send m.aR (bD m.slot v)|none=>s.ct m
 else s.ct m
def handle(m:Ms):Site × Int:=
 if s.down then(s,14)else if ¬ m.bL then(s,1)else if m.to≠s.me∨m.aR=s.me∨(s.n:Int)≤m.aR then(s,1) else
 (({s with wt:=s.wt.set m.aR.toNat 0} :Site).take m,0)
def sync:Site × List Ms:=
 if s.down then(s,[]) else
 ((s.held.filter fun m=>decide (m.to=(s.me:Int))).foldl take {s with dn:=s.db.length,held:=[]},s.held.filter fun m=>decide (m.to≠(s.me:Int)))
def kept(k:Int):Nat:=s.dn+(max 0 (min k ((s.db.length:Int)-s.dn))).toNat
def dB(k:Int):Site:=if s.down then s else {s with db:=s.db.take (s.kept k),dn:=s.kept k,down:=true}
def eh(r:Rc):Site:=
 if r.kind=1 then s.turn r.slot {s.stat r.slot with p:=⟨r.round,r.site⟩}
 else if dr ⟨r.round,r.site⟩ (s.stat r.slot).p<0 then s else s.turn r.slot ⟨⟨r.round,r.site⟩,true,⟨r.round,r.site⟩,r.val⟩
noncomputable def bC:Site:=
 if s.down then
  let p:=cg s.db
  p.1.foldl eh {Site.new s.me s.n s.pat with db:=s.db.take p.2,dn:=min s.dn p.2}
 else s
def ey:Site × List (List UInt8):=
 ({s with taken:=s.front},(range' s.taken (s.front - s.taken)).map fun(i:Nat)=>(s.dec i).getD [])
end Site
structure Site.dq(s t:Site):Prop where
 me:t.me=s.me
 n:t.n=s.n
 pat:t.pat=s.pat
 down:t.down=s.down
 wt:t.wt=s.wt
 dn:t.dn=s.dn
 taken:t.taken=s.taken
namespace Site
variable {s t u:Site}
theorem dq.refl(s:Site):dq s s:=⟨rfl,rfl,rfl,rfl,rfl,rfl,rfl⟩
theorem dq.trans(h:dq s t)(k:dq t u):dq s u:=⟨k.me.trans h.me,k.n.trans h.n,k.pat.trans h.pat,k.down.trans h.down,k.wt.trans h.wt,k.dn.trans h.dn,k.taken.trans h.taken⟩
theorem kp(s:Site)(to:Int)(m:Ms):dq s (s.send to m):=⟨rfl,rfl,rfl,rfl,rfl,rfl,rfl⟩
theorem kq(s:Site)(m:Ms)(i:Nat):dq s (s.others m i):=by rw[bH];exact⟨rfl,rfl,rfl,rfl,rfl,rfl,rfl⟩
theorem F9{y:Sp}{r:Rc}(h:s.note y r=some t):dq s t:=by
 unfold note at h
 split at h
 ·injection h with h;subst h;exact⟨rfl,rfl,rfl,rfl,rfl,rfl,rfl⟩
 ·cases h
theorem nU{x:Int}{b:Bl}{v:List UInt8}(h:s.accept x b v=some t):dq s t:=by
 unfold accept at h
 split at h
 ·cases h
 ·exact F9 h
theorem xV{x:Int}{b:Bl}(h:s.promise x b=some t):dq s t:=by
 unfold promise at h
 split at h
 ·cases h
 ·exact F9 h
theorem jt(s:Site)(x:Int)(v:List UInt8):dq s (s.aX x v):=by
 unfold aX;split<;>exact⟨rfl,rfl,rfl,rfl,rfl,rfl,rfl⟩
theorem oa(s:Site)(l:AL Rn):dq s {s with rs:=l}:=⟨rfl,rfl,rfl,rfl,rfl,rfl,rfl⟩
theorem Om(s:Site)(x:Nat):dq s {s with nx:=x}:=⟨rfl,rfl,rfl,rfl,rfl,rfl,rfl⟩
theorem B1(t:Site)(b:Bl)(x:Int):dq t (t.iI b x):=((kq t (bt x b) t.n).trans (kp _ _ _)).trans (Om _ _)
theorem wy:∀(f c:Nat)(s:Site)(to:Int),dq s (cG f c s to)
 |0,_,s,_=>dq.refl s
 |f+1,c,s,to=>by
  unfold cG
  split
  ·exact dq.refl s
  split
  ·exact dq.refl s
  split
  ·split
   ·exact dq.refl s
   ·exact((nU (by assumption)).trans (B1 _ _ _)).trans (wy f _ _ _)
  ·exact(Om _ _).trans (wy f _ _ _)
theorem uh(s:Site)(to:Int):dq s (s.skip to):=wy _ _ _ _
theorem On(s:Site)(x:Int):dq s (s.cK x):=by
 unfold cK
 split
 ·exact dq.refl s
 split
 ·exact dq.refl s
 ·exact(((xV (by assumption)).trans (oa _ _)).trans (kq _ _ _)).trans (kp _ _ _)
theorem Da(s:Site)(m:Ms):dq s (s.dI m):=by
 unfold dI
 split
 ·refine dq.trans ?_ (uh _ _)
  split
  ·exact(nU (by assumption)).trans (kp _ _ _)
  ·exact dq.refl s
 ·exact dq.refl s
theorem Hg(s:Site)(m:Ms):dq s (s.eR m):=by
 unfold eR
 split
 ·exact jt _ _ _
 ·exact dq.refl s
theorem Ga(s:Site)(m:Ms):dq s (s.ed m):=by
 unfold ed
 split
 ·split
  ·exact(xV (by assumption)).trans (kp _ _ _)
  ·exact dq.refl s
 ·exact dq.refl s
theorem Gb(s:Site)(m:Ms):dq s (s.bT m):=by
 unfold bT
 split
 ·exact dq.refl s
 split
 ·simp only
  split
  ·exact oa _ _
  ·split
   ·exact(oa _ _).trans (oa _ _)
   ·exact((((oa _ _).trans (nU (by assumption))).trans (oa _ _)).trans (kq _ _ _)).trans (kp _ _ _)
 ·exact dq.refl s
theorem Oo(s:Site)(m:Ms):dq s (s.asked m):=by
 unfold asked
 split
 ·split
  ·exact(nU (by assumption)).trans (kp _ _ _)
  ·exact dq.refl s
 ·exact dq.refl s
theorem Gc(s:Site)(m:Ms):dq s (s.accepted m):=by
 unfold accepted
 split
 ·exact dq.refl s
 split
 ·simp only
  split
  ·exact((oa _ _).trans (jt _ _ _)).trans (kq _ _ _)
  ·exact oa _ _
 ·exact dq.refl s
theorem Hh(s:Site)(m:Ms):dq s (s.gr m):=by
 unfold gr
 split
 ·exact jt _ _ _
 ·exact dq.refl s
theorem CB(to:Int)(f:Int→Ms):∀(l:List Int)(s:Site),dq s (l.foldl (fun u x=>u.send to (f x)) s)
 |[],s=>dq.refl s
 |x::l,s=>(kp s to (f x)).trans (CB to f l _)
theorem KR(s:Site)(m:Ms):dq s (s.wanted m):=by
 unfold wanted
 simp only
 refine dq.trans ?_ (CB _ _ _ _)
 split
 ·exact uh _ _
 ·exact dq.refl s
theorem Gd(s:Site)(m:Ms):dq s (s.ct m):=by
 unfold ct
 split
 ·exact Da _ _
 split
 ·exact Hg _ _
 split
 ·exact Ga _ _
 split
 ·exact Gb _ _
 split
 ·exact Oo _ _
 split
 ·exact Gc _ _
 split
 ·exact Hh _ _
 split
 ·exact KR _ _
 ·exact dq.refl s
theorem qz(s:Site)(m:Ms):dq s (s.take m):=by
 unfold take
 split
 ·split
  ·exact kp _ _ _
  ·exact Gd _ _
 ·exact Gd _ _
theorem rl:∀(l:List Ms)(s:Site),dq s (l.foldl Site.take s)
 |[],s=>dq.refl s
 |m::l,s=>(qz s m).trans (rl l _)
theorem Oq(s:Site):dq s s.again:=by
 unfold again
 have:∀(l:List (Int × Rn))(u:Site),dq u (l.foldl (fun u p=>u.others (asks p.2 p.1) u.n) u):=by
  intro l
  induction l with
  |nil=>exact fun u=>dq.refl u
  |cons p l ih=>exact fun u=>(kq _ _ _).trans (ih _)
 exact(oa s _).trans (this _ _)
theorem Af:∀(l:List Int)(s:Site),dq s (l.foldl cK s)
 |[],s=>dq.refl s
 |x::l,s=>(On s x).trans (Af l _)
end Site
theorem Po(me:Nat):¬ dr ⟨0,me⟩ ⟨0,0⟩<0:=by
 rw[gp];unfold Bl.lt;simp
namespace Site
end Site
