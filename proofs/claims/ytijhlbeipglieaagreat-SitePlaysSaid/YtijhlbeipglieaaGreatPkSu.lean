/- For SitePlays. -/
import Derived.Test.YtijhlbeipglieaaGreatPkSiteI
set_option linter.all false
namespace aA
open Go Go.Proofs.YtijhlbeipglieaaGreat List
def pz(n:Int)(l:List Pm):Option Pm:=
 l.foldl (fun b p=>if p.so&&bz p.f n&&(match b with|none=>true|some q=>decide (0<bg p.at_ q.at_))then some p else b) none
def gZ(l:List Pm)(n:Int):Option (List UInt8):=if fU (l.map Pm.f) n then some (((pz n l).map Pm.b).getD [])else none
instance (m:Ms):Decidable m.May:=decidable_of_iff ((1≤m.kind∧m.kind≤8)∧(0≤m.bO∧m.bO≤6)∧(0≤m.to∧m.to≤6)∧(0≤m.slot∧m.slot≤4095)∧(0≤m.dz∧m.dz≤1099511627776)∧(0≤m.ed∧m.ed≤6)∧
  (0≤m.fO∧m.fO≤1099511627776)∧(0≤m.ig∧m.ig≤6)∧m.val.length≤2048∧(m.some_=true∨(m.fO=0∧m.ig=0)∧m.val.length=0))
 ⟨fun⟨a,b,c,d,e,f,g,h,i,j⟩=>⟨a,b,c,d,e,f,g,h,i,j⟩,fun⟨a,b,c,d,e,f,g,h,i,j⟩=>⟨a,b,c,d,e,f,g,h,i,j⟩⟩
def Ms.ax(m:Ms):Bl:=⟨m.dz,m.ed⟩
def Ms.had(m:Ms):Bl:=⟨m.fO,m.ig⟩
namespace Site
variable (s:Site)
def front:Nat:=fe s.lv (4096-s.taken) s.taken
def bJ:Int:=max s.top (fQ s.lv)
def answer(s:Site)(slot:Int)(b:Bl):Ms:=⟨4,0,0,slot,b.r,b.s,(s.stat slot).at_.r,(s.stat slot).at_.s,(s.stat slot).so,(s.stat slot).b⟩
def fV(slot:Int)(b:Bl):Ms:=⟨2,0,0,slot,b.r,b.s,0,0,false,[]⟩
def jv(t:Site)(b:Bl)(x:Int):Site:={(t.others (fV x b) t.n).send t.me (fV x b)with nx:=(x+1).toNat}
def eG:Nat→Nat→Site→Int→Site
 |0,_,s,_=>s
 |f+1,c,s,to=>
  if 8≤c then s else
  if aZ s.me s.nx s.n<0∨to≤aZ s.me s.nx s.n then s else
  if s.fresh (aZ s.me s.nx s.n)then match s.accept (aZ s.me s.nx s.n) s.ownB [] with
   |none=>s
   |some t=>eG f (c+1) (t.jv s.ownB (aZ s.me s.nx s.n)) to
  else eG f c {s with nx:=(aZ s.me s.nx s.n+1).toNat} to
def skip(to:Int):Site:=eG 4098 0 s to
def low(slot:Int):Bl:=
 match aC slot s.rs with
 |some r=>if 0<bg r.ax (s.stat slot).p then r.ax else(s.stat slot).p
 |none=>(s.stat slot).p
def dw(slot:Int):Site:=
 if bg ((s.low slot).next s.me) (s.low slot)≤0 then s else match s.promise slot ((s.low slot).next s.me) with
 |none=>s
 |some t=>
  let r:Rn:=⟨(s.low slot).next s.me,[],false,[],[],0⟩
  let u:=({t with rs:=aG slot r t.rs} :Site).others (asks r slot) s.n
  u.send u.me (u.answer slot r.ax)
def again:Site:=(s.rs.take 8).foldl (fun u p=>u.others (asks p.2 p.1) u.n) {s with rs:=bS (fun r=>{r with bG:=r.bG+1}) s.rs}
def qA:List Int:=((List.range s.n).filter fun i=>decide ((s.pat:Int)<s.wt.getD i 0)).map fun(i:Nat)=>(i:Int)
def leads:Bool:=iP s.pat (s.wt.take s.n) 0==(s.me:Int)
def due(slot:Int):Bool:=
 (s.dec slot).isNone && !(match aC slot s.rs with|some r=>decide (r.bG≤s.pat)|none=>false) &&
  ((aV slot s.n==(s.me:Int) && !s.fresh slot)||(s.leads&&s.qA.contains (aV slot s.n)))
def late(top:Int):List Int:=(((range' s.front (top.toNat-s.front)).map fun(i:Nat)=>(i:Int)).filter s.due).take 8
def iW(f:Int)(b:Bool):Ms:=⟨8,0,0,f,0,0,0,0,b,[]⟩
def tick:Site:=
 if s.down then s else
 let s2:=({s with wt:=bu s.me s.wt s.n} :Site).again
 let s3:=s2.skip s2.bJ
 let s4:=(s3.late s3.bJ).foldl dw s3
 if s4.front<4096 then s4.others (iW s4.front (decide ((s4.front:Int)<s3.bJ))) s4.n else s4
def iK(m:Ms):Site:=
 if m.some_=true∧m.bO=aV m.slot s.n∧m.ax=⟨0,m.bO⟩ then
  (match s.accept m.slot m.ax m.val with|some t=>t.send m.bO (dW m.slot m.ax)|none=>s).skip m.slot
 else s
def skipped(m:Ms):Site:=if m.bO=aV m.slot s.n then s.bE m.slot []else s
def jl(m:Ms):Site:=
 if 1≤m.dz∧m.ed=m.bO then
  (match s.promise m.slot m.ax with|some t=>t.send m.bO (t.answer m.slot m.ax)|none=>s)
 else s
def promised(m:Ms):Site:=
 match aC m.slot s.rs with
 |none=>s
 |some r=>
  if r.ax=m.ax∧r.so=false then
   let pr:=r.pr++[(⟨m.bO,m.some_,m.had,m.val⟩:Pm)]
   let t:={s with rs:=aG m.slot {r with pr:=pr} s.rs}
   match gZ pr s.n with
   |none=>t
   |some v=>match t.accept m.slot r.ax v with
    |none=>{t with rs:=dD m.slot t.rs}
    |some u=>
     let r':={r with pr:=pr,so:=true,b:=v}
     (({u with rs:=aG m.slot r' u.rs} :Site).others (asks r' m.slot) s.n).send s.me (dW m.slot r.ax)
  else s
def asked(m:Ms):Site:=
 if m.some_=true∧1≤m.dz∧m.ed=m.bO then
  (match s.accept m.slot m.ax m.val with|some t=>t.send m.bO (dW m.slot m.ax)|none=>s)
 else s
def lM(m:Ms):Site:=if m.some_=true then s.bE m.slot m.val else s
def wanted(m:Ms):Site:=
 let t:=if m.some_=true∧s.dec m.slot=none∧aV m.slot s.n=s.me then s.skip (m.slot+1)else s
 ((((range' m.slot.toNat ((fQ t.lv).toNat-m.slot.toNat)).map fun(i:Nat)=>(i:Int)).filter fun x=>(t.dec x).isSome).take 16).foldl (fun u x=>u.send m.bO (tells x ((t.dec x).getD []))) t
def does(m:Ms):Site:=
 if m.kind=1 then s.iK m else if m.kind=2 then s.skipped m else if m.kind=3 then s.jl m else if m.kind=4 then s.promised m
 else if m.kind=5 then s.asked m else if m.kind=6 then s.accepted m else if m.kind=7 then s.lM m else if m.kind=8 then s.wanted m else s
def take(m:Ms):Site:=
 if m.kind=1∨m.kind=3∨m.kind=5 then match s.dec m.slot with|some v=>s.send m.bO (tells m.slot v)|none=>s.does m
 else s.does m
def handle(m:Ms):Site × Int:=
 if s.down then(s,14)else if ¬ m.May then(s,1)else if m.to≠s.me∨m.bO=s.me∨(s.n:Int)≤m.bO then(s,1) else
 (({s with wt:=s.wt.set m.bO.toNat 0} :Site).take m,0)
def sync:Site × List Ms:=
 if s.down then(s,[]) else
 ((s.held.filter fun m=>decide (m.to=(s.me:Int))).foldl take {s with dn:=s.db.length,held:=[]},s.held.filter fun m=>decide (m.to≠(s.me:Int)))
def kept(k:Int):Nat:=s.dn+(max 0 (min k ((s.db.length:Int)-s.dn))).toNat
def jq(k:Int):Site:=if s.down then s else {s with db:=s.db.take (s.kept k),dn:=s.kept k,down:=true}
def dR(r:Rc):Site:=
 if r.kind=1 then s.turn r.slot {s.stat r.slot with p:=⟨r.round,r.site⟩}
 else if bg ⟨r.round,r.site⟩ (s.stat r.slot).p<0 then s else s.turn r.slot ⟨⟨r.round,r.site⟩,true,⟨r.round,r.site⟩,r.val⟩
noncomputable def dE:Site:=
 if s.down then
  let p:=bU s.db
  p.1.foldl dR {Site.new s.me s.n s.pat with db:=s.db.take p.2,dn:=min s.dn p.2}
 else s
def takes:Site × List (List UInt8):=
 ({s with taken:=s.front},(range' s.taken (s.front - s.taken)).map fun(i:Nat)=>(s.dec i).getD [])
end Site
structure Site.dC(s t:Site):Prop where
 me:t.me=s.me
 n:t.n=s.n
 pat:t.pat=s.pat
 down:t.down=s.down
 wt:t.wt=s.wt
 dn:t.dn=s.dn
 taken:t.taken=s.taken
namespace Site
variable {s t u:Site}
theorem dC.refl(s:Site):dC s s:=⟨rfl,rfl,rfl,rfl,rfl,rfl,rfl⟩
theorem dC.trans(h:dC s t)(k:dC t u):dC s u:=⟨k.me.trans h.me,k.n.trans h.n,k.pat.trans h.pat,k.down.trans h.down,k.wt.trans h.wt,k.dn.trans h.dn,k.taken.trans h.taken⟩
theorem lq(s:Site)(to:Int)(m:Ms):dC s (s.send to m):=⟨rfl,rfl,rfl,rfl,rfl,rfl,rfl⟩
theorem lh(s:Site)(m:Ms)(i:Nat):dC s (s.others m i):=by rw[bH];exact⟨rfl,rfl,rfl,rfl,rfl,rfl,rfl⟩
theorem JX(s:Site)(x:Int)(y:Sp):dC s (s.turn x y):=⟨rfl,rfl,rfl,rfl,rfl,rfl,rfl⟩
theorem Km{y:Sp}{r:Rc}(h:s.note y r=some t):dC s t:=by
 unfold note at h
 split at h
 ·injection h with h;subst h;exact⟨rfl,rfl,rfl,rfl,rfl,rfl,rfl⟩
 ·cases h
theorem mY{x:Int}{b:Bl}{v:List UInt8}(h:s.accept x b v=some t):dC s t:=by
 unfold accept at h
 split at h
 ·cases h
 ·exact Km h
theorem Bd{x:Int}{b:Bl}(h:s.promise x b=some t):dC s t:=by
 unfold promise at h
 split at h
 ·cases h
 ·exact Km h
theorem sN(s:Site)(x:Int)(v:List UInt8):dC s (s.bE x v):=by
 unfold bE;split<;>exact⟨rfl,rfl,rfl,rfl,rfl,rfl,rfl⟩
theorem pW(s:Site)(l:AL Rn):dC s {s with rs:=l}:=⟨rfl,rfl,rfl,rfl,rfl,rfl,rfl⟩
theorem RD(s:Site)(x:Nat):dC s {s with nx:=x}:=⟨rfl,rfl,rfl,rfl,rfl,rfl,rfl⟩
theorem EZ(t:Site)(b:Bl)(x:Int):dC t (t.jv b x):=((lh t (fV x b) t.n).trans (lq _ _ _)).trans (RD _ _)
theorem zF:∀(f c:Nat)(s:Site)(to:Int),dC s (eG f c s to)
 |0,_,s,_=>dC.refl s
 |f+1,c,s,to=>by
  unfold eG
  split
  ·exact dC.refl s
  split
  ·exact dC.refl s
  split
  ·split
   ·exact dC.refl s
   ·exact((mY (by assumption)).trans (EZ _ _ _)).trans (zF f _ _ _)
  ·exact(RD _ _).trans (zF f _ _ _)
theorem xN(s:Site)(to:Int):dC s (s.skip to):=zF _ _ _ _
theorem RF(s:Site)(x:Int):dC s (s.dw x):=by
 unfold dw
 split
 ·exact dC.refl s
 split
 ·exact dC.refl s
 ·exact(((Bd (by assumption)).trans (pW _ _)).trans (lh _ _ _)).trans (lq _ _ _)
theorem GA(s:Site)(m:Ms):dC s (s.iK m):=by
 unfold iK
 split
 ·refine dC.trans ?_ (xN _ _)
  split
  ·exact(mY (by assumption)).trans (lq _ _ _)
  ·exact dC.refl s
 ·exact dC.refl s
theorem LK(s:Site)(m:Ms):dC s (s.skipped m):=by
 unfold skipped
 split
 ·exact sN _ _ _
 ·exact dC.refl s
theorem Kn(s:Site)(m:Ms):dC s (s.jl m):=by
 unfold jl
 split
 ·split
  ·exact(Bd (by assumption)).trans (lq _ _ _)
  ·exact dC.refl s
 ·exact dC.refl s
theorem Ko(s:Site)(m:Ms):dC s (s.promised m):=by
 unfold promised
 split
 ·exact dC.refl s
 split
 ·simp only
  split
  ·exact pW _ _
  ·split
   ·exact(pW _ _).trans (pW _ _)
   ·exact((((pW _ _).trans (mY (by assumption))).trans (pW _ _)).trans (lh _ _ _)).trans (lq _ _ _)
 ·exact dC.refl s
theorem RG(s:Site)(m:Ms):dC s (s.asked m):=by
 unfold asked
 split
 ·split
  ·exact(mY (by assumption)).trans (lq _ _ _)
  ·exact dC.refl s
 ·exact dC.refl s
theorem Kq(s:Site)(m:Ms):dC s (s.accepted m):=by
 unfold accepted
 split
 ·exact dC.refl s
 split
 ·simp only
  split
  ·exact((pW _ _).trans (sN _ _ _)).trans (lh _ _ _)
  ·exact pW _ _
 ·exact dC.refl s
theorem LM(s:Site)(m:Ms):dC s (s.lM m):=by
 unfold lM
 split
 ·exact sN _ _ _
 ·exact dC.refl s
theorem Gj(to:Int)(f:Int→Ms):∀(l:List Int)(s:Site),dC s (l.foldl (fun u x=>u.send to (f x)) s)
 |[],s=>dC.refl s
 |x::l,s=>(lq s to (f x)).trans (Gj to f l _)
theorem O6(s:Site)(m:Ms):dC s (s.wanted m):=by
 unfold wanted
 simp only
 refine dC.trans ?_ (Gj _ _ _ _)
 split
 ·exact xN _ _
 ·exact dC.refl s
theorem Kr(s:Site)(m:Ms):dC s (s.does m):=by
 unfold does
 split
 ·exact GA _ _
 split
 ·exact LK _ _
 split
 ·exact Kn _ _
 split
 ·exact Ko _ _
 split
 ·exact RG _ _
 split
 ·exact Kq _ _
 split
 ·exact LM _ _
 split
 ·exact O6 _ _
 ·exact dC.refl s
theorem JY(s:Site)(m:Ms):dC s (s.take m):=by
 unfold take
 split
 ·split
  ·exact lq _ _ _
  ·exact Kr _ _
 ·exact Kr _ _
theorem vF:∀(l:List Ms)(s:Site),dC s (l.foldl Site.take s)
 |[],s=>dC.refl s
 |m::l,s=>(JY s m).trans (vF l _)
theorem Gg(s:Site):dC s s.again:=by
 unfold again
 have:∀(l:List (Int × Rn))(u:Site),dC u (l.foldl (fun u p=>u.others (asks p.2 p.1) u.n) u):=by
  intro l
  induction l with
  |nil=>exact fun u=>dC.refl u
  |cons p l ih=>exact fun u=>(lh _ _ _).trans (ih _)
 exact(pW s _).trans (this _ _)
theorem xO:∀(l:List Int)(s:Site),dC s (l.foldl dw s)
 |[],s=>dC.refl s
 |x::l,s=>(RF s x).trans (xO l _)
end Site
theorem Kt(site n:Int)(h:site<n):∀(k s:Nat),(s:Int)≤site→site<(s:Int)+k→oI site n k s=site
 |0,s,h1,h2=>by omega
 |k+1,s,h1,h2=>by
  unfold oI
  have e:(s:Int).tmod n=s:=Int.tmod_eq_of_lt (by omega) (by omega)
  rw[e]
  split
  ·assumption
  ·exact Kt site n h k (s+1) (by omega) (by omega)
theorem RH{me n:Nat}(h:me<n)(h7:n≤7):aZ me 0 n=me:=by
 unfold aZ
 rw[if_neg (by omega)]
 exact Kt _ _ (by omega) _ _ (by omega) (by omega)
theorem Jm(r:Rc)(h:r.May):(bn [r]).length≤2108:=by
 have:=IX (l:=[r]) (fun x hx=>by rw[mem_singleton]at hx;subst hx;exact h)
 simpa using this
theorem VI(me:Nat):¬ bg ⟨0,me⟩ ⟨0,0⟩<0:=by
 rw[wy];unfold Bl.lt;simp
namespace Site
def xP(me:Nat)(v:List UInt8):Rc:=⟨2,me,0,me,v⟩
def rz(me:Nat)(v:List UInt8)(vt:List (Int × Bl)):Rn:=⟨⟨0,me⟩,[],true,v,vt,0⟩
def rG(me n pat:Nat)(v:List UInt8)(dn:Nat)(lv:AL (List UInt8))(rs:AL Rn)(wt:List Int)(held:List Ms):Site:=
 ⟨me,n,pat,false,bn [xP me v],dn,[((me:Int),⟨⟨0,me⟩,true,⟨0,me⟩,v⟩)],(me:Int)+1,lv,0,rs,me+1,wt,held⟩
def DX:List Int:=[0,0,0,0,0,0,0]
def jS(me n:Nat)(m:Ms):List Ms:=((List.range n).filter fun j=>decide (j≠me)).map fun(j:Nat)=>{m with bO:=(me:Int),to:=(j:Int)}
theorem RI(me n pat:Nat)(x:Int):(Site.new me n pat).fresh x=true:=by
 unfold Site.fresh Site.dec Site.stat Site.new;rfl
theorem VJ{me n:Nat}(h:me<n)(h7:n≤7){v:List UInt8}(hv:v.length≤2048):(xP me v).May:=
 ⟨.inr rfl,by simp[xP];omega,by simp[xP],by simp[xP];omega,hv⟩
def dG(me:Nat)(to:Int)(f:Int):Ms:=⟨6,f,to,me,0,me,0,0,false,[]⟩
theorem OZ{me n:Nat}(pat:Nat)(h:me<n)(h7:n≤7){v:List UInt8}(hv0:v.length≠0)(hv:v.length≤2048) :
  (Site.new me n pat).cZ v=(rG me n pat v 0 [] [((me:Int),rz me v [])] DX (jS me n (asks (rz me v []) me)++[dG me me me]),(me:Int),0):=by
 have hx:(Site.new me n pat).free 4096 (aZ (Site.new me n pat).me (Site.new me n pat).nx (Site.new me n pat).n)=me:=by
  have e:aZ (Site.new me n pat).me (Site.new me n pat).nx (Site.new me n pat).n=me:=RH h h7
  rw[e]
  show Site.free _ (4095+1) _=_
  unfold Site.free
  rw[if_neg (by rw[RI];simp)]
 have abU:(Site.new me n pat).accept me (Site.new me n pat).ownB v=some ({Site.new me n pat with db:=bn [xP me v],st:=[((me:Int),⟨⟨0,me⟩,true,⟨0,me⟩,v⟩)],top:=(me:Int)+1}):=by
  unfold Site.accept
  rw[if_neg (by exact VI me)]
  unfold Site.note Site.room
  have hl:=Jm _ (VJ h h7 hv)
  rw[if_pos (by
   rw[decide_eq_true_eq]
   show 0+(bn [xP me v]).length≤_
   omega)]
  unfold Site.turn
  congr 1
 unfold Site.cZ
 rw[if_neg (by simp[Site.new]),if_neg (by omega)]
 simp only[hx,abU]
 rw[if_neg (by omega)]
 rw[bH]
 unfold Site.send
 rfl
def doneD(me n pat:Nat)(v:List UInt8)(dn:Nat)(wt:List Int)(fs:List Int):Site:=
 if fU fs n=true then rG me n pat v dn [((me:Int),v)] [] wt (jS me n (tells me v))else rG me n pat v dn [] [((me:Int),rz me v (fs.map fun f=>(f,(⟨0,me⟩:Bl))))] wt []
theorem Gl{α:Type}(x:Int)(a:α):aC x [(x,a)]=some a:=by simp[aC]
theorem abw(fs:List Int)(b:Bl)(n:Int):most (fs.map fun f=>(f,b)) b n=fU fs n:=by
 unfold most
 congr 1
 induction fs with
 |nil=>rfl
 |cons f fs ih=>simpa using ih
theorem RL(me n pat:Nat){v:List UInt8}(hv:v.length≤2048)(h:me<n)(h7:n≤7)(dn:Nat)(wt fs:List Int)(to f:Int):(doneD me n pat v dn wt fs).accepted (dG me to f)=doneD me n pat v dn wt (fs++[f]):=by
 by_cases hm:fU fs n=true
 ·have hm2:=OQ f hm
  unfold doneD
  rw[if_pos hm,if_pos hm2]
  rfl
 ·unfold doneD
  rw[if_neg hm]
  unfold accepted
  show(match aC (me:Int) [((me:Int),rz me v _)] with|none=>_|some r=>_)=_
  rw[Gl]
  simp only
  rw[if_pos ⟨rfl,rfl⟩]
  have e1:(rz me v (fs.map fun f=>(f,(⟨0,me⟩:Bl)))).vt++[((dG me to f).bO,(⟨(dG me to f).dz,(dG me to f).ed⟩:Bl))]=(fs++[f]).map fun f=>(f,(⟨0,me⟩:Bl)):=by
   rw[map_append];rfl
  rw[e1]
  show(if most _ (⟨0,me⟩:Bl) (n:Int)=true then _ else _)=_
  rw[abw]
  have e2:∀r:Rn,aG (me:Int) r [((me:Int),rz me v (fs.map fun f=>(f,(⟨0,me⟩:Bl))))]= [((me:Int),r)]:=fun r=>by simp[aG,dD,jM]
  by_cases hm2:fU (fs++[f]) n=true
  ·rw[if_pos hm2,if_pos hm2]
   show others (bE _ (me:Int) v) (tells (me:Int) v) n=_
   have e3:∀t:Site,t.dec (me:Int)=none→t.bE (me:Int) v= {t with lv:=aG (me:Int) v t.lv,rs:=dD (me:Int) t.rs}:=fun t ht=>by
    unfold bE sG
    rw[ht,if_pos (by simp;omega)]
    rfl
   rw[e3 _ rfl,bH]
   have e4:∀r:Rn,dD (me:Int) (aG (me:Int) r [((me:Int),rz me v (fs.map fun f=>(f,(⟨0,me⟩:Bl))))])= []:=fun r=>by rw[e2];simp[dD]
   exact congrArg (fun z=>rG me n pat v dn [((me:Int),v)] z wt (jS me n (tells me v))) (e4 _)
  ·rw[if_neg hm2,if_neg hm2]
   exact congrArg (fun z=>rG me n pat v dn [] z wt []) (e2 _)
theorem RB(me n pat:Nat)(v:List UInt8)(dn:Nat)(wt fs:List Int):(doneD me n pat v dn wt fs).dec me=if fU fs n=true then some v else none:=by
 unfold doneD
 split
 ·exact Gl _ _
 ·rfl
theorem D5(s:Site)(me:Nat)(to f:Int):s.take (dG me to f)=s.accepted (dG me to f):=rfl
theorem uI{me n:Nat}{m x:Ms}(h:x∈jS me n m):x.to≠(me:Int):=by
 unfold jS at h
 obtain⟨j,hj,rfl⟩:=mem_map.1 h
 have:=(mem_filter.1 hj).2
 simp at this ⊢
 omega
def jo(me n:Nat)(v:List UInt8):List Ms:=jS me n (asks (rz me v []) me)
def Es(me:Nat)(v:List UInt8):Nat:=(bn [xP me v]).length
theorem VF(me n pat:Nat){v:List UInt8}(hv:v.length≤2048)(h:me<n)(h3:3≤n)(h7:n≤7) :
  (rG me n pat v 0 [] [((me:Int),rz me v [])] DX (jo me n v++[dG me me me])).sync=(doneD me n pat v (Es me v) DX [(me:Int)],jo me n v):=by
 unfold sync
 rw[if_neg (by simp[rG])]
 have e1:(jo me n v++[dG me me me]).filter (fun m=>decide (m.to=(me:Int)))= [dG me me me]:=by
  rw[filter_append,filter_eq_nil_iff.2 (fun x hx=>by simpa using uI hx)]
  simp[dG]
 have e2:(jo me n v++[dG me me me]).filter (fun m=>decide (m.to≠(me:Int)))=jo me n v:=by
  rw[filter_append,filter_eq_self.2 (fun x hx=>by simpa using uI hx)]
  simp[dG]
 show(foldl _ _ ((jo me n v++[dG me me me]).filter (fun m=>decide (m.to=(me:Int)))),(jo me n v++[dG me me me]).filter (fun m=>decide (m.to≠(me:Int))))=_
 rw[e1,e2]
 show(take _ (dG me me me),_)=_
 have e3:({rG me n pat v 0 [] [((me:Int),rz me v [])] DX (jo me n v++[dG me me me])with dn:=(bn [xP me v]).length,held:=[]} :Site)=doneD me n pat v (Es me v) DX []:=by
  unfold doneD
  have:fU [] n=false:=by
   unfold fU eX sU
   rw[if_neg (by omega),if_neg (by omega)]
   rw[decide_eq_false_iff_not]
   simp only[foldl_nil,length_nil]
   omega
  rw[if_neg (by rw[this];simp)]
  rfl
 have e4:=RL me n pat hv h h7 (Es me v) DX [] me me
 rw[←e3]at e4
 rw[D5]
 exact congrArg (·,_) e4
theorem RO{me n:Nat}(h:me<n)(h7:n≤7){f:Int}(hf:0≤f)(hfn:f<n):(dG me me f).May:=
 ⟨by simp[dG],by simp[dG];omega,by simp[dG];omega,by simp[dG];omega,by simp[dG],by simp[dG];omega,by simp[dG],by simp[dG],by simp[dG],.inr (by simp[dG])⟩
theorem Kj(me n pat:Nat)(v:List UInt8)(dn:Nat)(wt fs:List Int)(x:List Int):({doneD me n pat v dn wt fs with wt:=x} :Site)=doneD me n pat v dn x fs:=by
 unfold doneD;split<;>rfl
theorem VH(me n pat:Nat){v:List UInt8}(hv:v.length≤2048)(h:me<n)(h7:n≤7)(dn:Nat)(wt fs:List Int){f:Int}(hf:0≤f)(hfn:f<n)(hne:f≠me) :
  (doneD me n pat v dn wt fs).handle (dG me me f)=(doneD me n pat v dn (wt.set f.toNat 0) (fs++[f]),0):=by
 have hd:(doneD me n pat v dn wt fs).down=false∧(doneD me n pat v dn wt fs).me=me∧(doneD me n pat v dn wt fs).n=n∧(doneD me n pat v dn wt fs).wt=wt:=by unfold doneD;split<;>exact⟨rfl,rfl,rfl,rfl⟩
 unfold handle
 rw[hd.1,hd.2.1,hd.2.2.1,hd.2.2.2,if_neg (by simp),if_neg (by simpa using RO h h7 hf hfn),if_neg (by simp[dG];omega),D5]
 have e1:=Kj me n pat v dn wt fs (wt.set (dG me me f).bO.toNat 0)
 have e2:=RL me n pat hv h h7 dn (wt.set (dG me me f).bO.toNat 0) fs me f
 rw[←e1]at e2
 obtain⟨h1,h2,h3,h4⟩:=hd
 simp only[h2,h3,h1]at e2
 exact congrArg (·,_) e2
theorem abm(me n pat:Nat)(v:List UInt8)(dn:Nat)(wt fs:List Int):(doneD me n pat v dn wt fs).sync.2=if fU fs n=true then jS me n (tells me v) else[]:=by
 unfold doneD
 split
 ·unfold sync
  rw[if_neg (by simp[rG])]
  show(jS me n (tells me v)).filter (fun m=>decide (m.to≠(me:Int)))=_
  exact filter_eq_self.2 fun x hx=>by simpa using uI hx
 ·rfl
end Site
