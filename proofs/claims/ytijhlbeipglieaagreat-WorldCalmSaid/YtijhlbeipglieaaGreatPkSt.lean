/- For WorldCalm. -/
import Derived.Test.YtijhlbeipglieaaGreatPkAcc
set_option linter.all false
namespace aL
open Go List
structure Sp where
 p:Bl
 so:Bool
 at_:Bl
 b:List UInt8
def Sp.zero:Sp:=⟨⟨0,0⟩,false,⟨0,0⟩,[]⟩
def Sp.same(x y:Sp):Bool:=((x.p.r==y.p.r)&&(x.p.s==y.p.s))&&(x.so==y.so)&&((x.at_.r==y.at_.r)&&(x.at_.s==y.at_.s))&&(x.b==y.b)
structure Pm where
 f:Int
 so:Bool
 at_:Bl
 b:List UInt8
structure Rn where
 aC:Bl
 pr:List Pm
 so:Bool
 b:List UInt8
 vt:List (Int × Bl)
 cV:Nat
structure Site where
 me:Nat
 n:Nat
 pat:Nat
 down:Bool
 db:List UInt8
 dn:Nat
 st:AL Sp
 top:Int
 lv:AL (List UInt8)
 taken:Nat
 rs:AL Rn
 nx:Nat
 wt:List Int
 held:List Ms
def im(me n pat:Int):Bool:=decide (3≤n)&&decide (n≤7)&&decide (0≤me)&&decide (me<n)&&decide (1≤pat)&&decide (pat≤1000)
def Site.new(me n pat:Nat):Site:=⟨me,n,pat,false,[],0,[],0,[],0,[],0,[0,0,0,0,0,0,0],[]⟩
namespace Site
variable (s:Site)
def stat(slot:Int):Sp:=(aD slot s.st).getD Sp.zero
def dec(slot:Int):Option (List UInt8):=aD slot s.lv
def fresh(slot:Int):Bool:=(s.dec slot).isNone&&(s.stat slot).same Sp.zero
def send(to:Int)(m:Ms):Site:={s with held:=s.held++[{m with aR:=(s.me:Int),to:=to}]}
def others(s:Site)(m:Ms):Nat→Site
 |0=>s
 |i+1=>if i=s.me then others s m i else(others s m i).send (i:Int) m
def room(r:Rc):Bool:=decide (s.db.length+(bX [r]).length≤1048576)
def turn(slot:Int)(x:Sp):Site:={s with st:=aT slot x s.st,top:=max s.top (slot+1)}
def note(x:Sp)(r:Rc):Option Site:=if s.room r then some ({s with db:=s.db++bX [r]}.turn r.slot x)else none
def accept(slot:Int)(b:Bl)(v:List UInt8):Option Site:=
 if dr b (s.stat slot).p<0 then none else s.note ⟨b,true,b,v⟩ ⟨2,slot,b.r,b.s,v⟩
def promise(slot:Int)(b:Bl):Option Site:=
 if b.r<1∨dr b (s.stat slot).p<0 then none else s.note {s.stat slot with p:=b} ⟨1,slot,b.r,b.s,[]⟩
def asks(r:Rn)(slot:Int):Ms:=
 if r.so then⟨if r.aC.r=0 then 1 else 5,0,0,slot,r.aC.r,r.aC.s,r.aC.r,r.aC.s,true,r.b⟩ else⟨3,0,0,slot,r.aC.r,r.aC.s,0,0,false,[]⟩
def bD(slot:Int)(v:List UInt8):Ms:=⟨7,0,0,slot,0,0,0,0,true,v⟩
def bB(slot:Int)(b:Bl):Ms:=⟨6,0,0,slot,b.r,b.s,0,0,false,[]⟩
def mw(slot:Int)(v:List UInt8):Bool:=decide (0≤slot)&&decide (slot<4096)&&decide (v.length≤2048)&&(match s.dec slot with|some y=>y==v|none=>true)
def aX(slot:Int)(v:List UInt8):Site:=
 if s.mw slot v then {s with lv:=(if(s.dec slot).isSome then s.lv else aT slot v s.lv),rs:=bY slot s.rs}else s
def free(s:Site):Nat→Int→Int
 |0,x=>x
 |k+1,x=>if 0≤x∧s.fresh x=false then free s k (bV s.me (x+1).toNat s.n)else x
def bQ:Bl:=⟨0,s.me⟩
def cm(v:List UInt8):Site × Int × Int:=
 if s.down then(s,0,14)else if v.length=0∨2048<v.length then(s,0,1) else
 let x:=s.free 4096 (bV s.me s.nx s.n)
 if x<0 then(s,0,5)else match s.accept x s.bQ v with
 |none=>(s,0,5)
 |some t=>
  let r:Rn:=⟨s.bQ,[],true,v,[],0⟩
  let u:={t with nx:=(x+1).toNat,rs:=aT x r t.rs}
  ((u.others (asks r x) u.n).send u.me (bB x s.bQ),x,0)
def most(vt:List (Int × Bl))(b:Bl)(n:Int):Bool:=fN ((vt.filter fun v=>decide (v.2=b)).map Prod.fst) n
def accepted(m:Ms):Site:=
 match aD m.slot s.rs with
 |none=>s
 |some r=>
  if r.aC=⟨m.bU,m.cu⟩∧r.so=true then
   let vt:=r.vt++[(m.aR,(⟨m.bU,m.cu⟩:Bl))]
   let t:={s with rs:=aT m.slot {r with vt:=vt} s.rs}
   if most vt r.aC s.n then(t.aX m.slot r.b).others (bD m.slot r.b) s.n else t
  else s
end Site
structure Site.Ok(s:Site):Prop where
 me:s.me<s.n
 n3:3≤s.n
 n7:s.n≤7
 pat:1≤s.pat∧s.pat≤1000
 st:∀p∈s.st,0≤p.1∧p.1<4096∧p.2.b.length≤2048∧p.2.p.may 7=true∧p.2.at_.may 7=true
 rs:∀p∈s.rs,0≤p.1∧p.1<4096∧p.2.b.length≤2048∧p.2.aC.may 7=true∧∀q∈p.2.pr,q.b.length≤2048
 top:0≤s.top∧s.top≤4096
 nx:s.nx≤4096
 held:∀m∈s.held,m.bL
def Ms.Fit(m:Ms):Prop:=({m with aR:=0,to:=0} :Ms).bL
theorem Ms.Fit.may{m:Ms}(h:m.Fit){a b:Int}(ha:0≤a∧a≤6)(hb:0≤b∧b≤6):({m with aR:=a,to:=b} :Ms).bL:=
 ⟨h.kind,ha,hb,h.slot,h.bU,h.cu,h.dw,h.dR,h.val,h.some_⟩
theorem Bl.jk{b:Bl} :b.may 7=true ↔ (0≤b.r∧b.r≤1099511627776)∧0≤b.s∧b.s≤6:=by
 unfold Bl.may dd
 simp only[Bool.and_eq_true,decide_eq_true_eq]
 omega
namespace Site
theorem mO{x:Int}{b:Bl}(hx:0≤x∧x<4096)(hb:b.may 7=true):(bB x b).Fit:=by
 have:=Bl.jk.1 hb
 exact⟨by simp[bB],by simp,by simp,by simp[bB];omega,by simpa[bB]using this.1,by simpa[bB]using this.2,by simp[bB],by simp[bB],by simp[bB],by simp[bB]⟩
theorem j7{x:Int}{v:List UInt8}(hx:0≤x∧x<4096)(hv:v.length≤2048):(bD x v).Fit:=
 ⟨by simp[bD],by simp,by simp,by simp[bD];omega,by simp[bD],by simp[bD],by simp[bD],by simp[bD],by simpa[bD]using hv,by simp[bD]⟩
theorem iX{r:Rn}{x:Int}(hx:0≤x∧x<4096)(hb:r.aC.may 7=true)(hv:r.b.length≤2048):(asks r x).Fit:=by
 have:=Bl.jk.1 hb
 unfold asks
 split
 ·refine⟨?_,by simp,by simp,by simp;omega,by simpa using this.1,by simpa using this.2,by simpa using this.1,by simpa using this.2,by simpa using hv,by simp⟩
  dsimp only;split<;>omega
 ·exact⟨by simp,by simp,by simp,by simp;omega,by simpa using this.1,by simpa using this.2,by simp,by simp,by simp,by simp⟩
variable {s t:Site}
theorem Ok.put(h:s.Ok){l:List Ms}(hl:∀m∈l,m.bL):({s with held:=l} :Site).Ok:=⟨h.me,h.n3,h.n7,h.pat,h.st,h.rs,h.top,h.nx,hl⟩
theorem Ok.send(h:s.Ok){m:Ms}(hm:m.Fit){to:Int}(ht:0≤to∧to≤6):(s.send to m).Ok:=by
 refine h.put fun x hx=>?_
 rcases mem_append.1 hx with hx|hx
 ·exact h.held x hx
 ·rw[mem_singleton]at hx
  subst hx
  exact hm.may (by have:=h.me;have:=h.n7;omega) ht
theorem ib(m:Ms):∀i,(s.others m i).me=s.me∧(s.others m i).n=s.n
 |0=>⟨rfl,rfl⟩
 |i+1=>by
  unfold others
  split
  ·exact ib m i
  ·exact ib m i
theorem Ok.others(h:s.Ok){m:Ms}(hm:m.Fit):∀i,i≤7→(s.others m i).Ok
 |0,_=>h
 |i+1,hi=>by
  unfold Site.others
  split
  ·exact Ok.others h hm i (by omega)
  ·exact(Ok.others h hm i (by omega)).send hm (by omega)
def tell(s:Site)(m:Ms)(i:Nat):List Ms:=((List.range i).filter fun j=>decide (j≠s.me)).map fun(j:Nat)=>{m with aR:=(s.me:Int),to:=(j:Int)}
theorem bH(m:Ms):∀i,s.others m i= {s with held:=s.held++s.tell m i}
 |0=>by simp[others,tell]
 |i+1=>by
  have ih:=bH m i
  have e1:s.tell m (i+1)=s.tell m i++(if i=s.me then[] else[{m with aR:=(s.me:Int),to:=(i:Int)}]):=by
   unfold tell
   rw[range_succ,filter_append,map_append]
   congr 1
   by_cases e:i=s.me<;>simp[e]
  unfold others
  rw[e1,ih]
  split
  ·simp
  ·simp[Site.send]
theorem kd(s:Site)(m:Ms)(i:Nat):(s.tell m i).length≤i:=by
 unfold tell
 rw[length_map]
 exact Nat.le_trans (length_filter_le _ _) (by simp)
theorem Ok.turn(h:s.Ok){x:Int}(hx:0≤x∧x<4096){y:Sp}(hy:y.b.length≤2048∧y.p.may 7=true∧y.at_.may 7=true):(s.turn x y).Ok:=by
 refine⟨h.me,h.n3,h.n7,h.pat,fun p hp=>?_,h.rs,?_,h.nx,h.held⟩
 ·rcases ec.1 hp with rfl|⟨hp,-⟩
  ·exact⟨hx.1,hx.2,hy⟩
  ·exact h.st p hp
 ·have:=h.top
  unfold Site.turn
  dsimp only
  omega
theorem Ok.cZ(h:s.Ok)(b:List UInt8)(k:Nat):({s with db:=b,dn:=k} :Site).Ok:=⟨h.me,h.n3,h.n7,h.pat,h.st,h.rs,h.top,h.nx,h.held⟩
theorem Ok.note(h:s.Ok){y:Sp}{r:Rc}(hx:0≤r.slot∧r.slot<4096)(hy:y.b.length≤2048∧y.p.may 7=true∧y.at_.may 7=true)(hn:s.note y r=some t):t.Ok:=by
 unfold Site.note at hn
 split at hn
 ·injection hn with hn
  rw[←hn]
  exact Ok.turn (s:={s with db:=_}) (h.cZ _ _) hx hy
 ·cases hn
theorem Ok.stat(h:s.Ok)(x:Int):(s.stat x).b.length≤2048∧(s.stat x).p.may 7=true∧(s.stat x).at_.may 7=true:=by
 unfold Site.stat
 cases hl:aD x s.st with
 |none=>exact⟨by simp[Sp.zero],by decide,by decide⟩
 |some y=>exact(h.st _ (bG hl)).2.2
theorem Ok.accept(h:s.Ok){x:Int}(hx:0≤x∧x<4096){b:Bl}(hb:b.may 7=true){v:List UInt8}(hv:v.length≤2048)(hn:s.accept x b v=some t):t.Ok:=by
 unfold Site.accept at hn
 split at hn
 ·cases hn
 ·refine Ok.note h ?_ ?_ hn
  ·exact hx
  ·exact⟨hv,hb,hb⟩
theorem Ok.promise(h:s.Ok){x:Int}(hx:0≤x∧x<4096){b:Bl}(hb:b.may 7=true)(hn:s.promise x b=some t):t.Ok:=by
 unfold Site.promise at hn
 split at hn
 ·cases hn
 ·refine Ok.note h ?_ ?_ hn
  ·exact hx
  ·exact⟨(h.stat x).1,hb,(h.stat x).2.2⟩
theorem Ok.fH(h:s.Ok){x:Int}(hx:0≤x∧x<4096){r:Rn}(hr:r.b.length≤2048∧r.aC.may 7=true∧∀q∈r.pr,q.b.length≤2048):({s with rs:=aT x r s.rs} :Site).Ok:=by
 refine⟨h.me,h.n3,h.n7,h.pat,h.st,fun p hp=>?_,h.top,h.nx,h.held⟩
 rcases ec.1 hp with rfl|⟨hp,-⟩
 ·exact⟨hx.1,hx.2,hr⟩
 ·exact h.rs p hp
theorem Ok.nu(h:s.Ok)(x:Int):({s with rs:=bY x s.rs} :Site).Ok:=⟨h.me,h.n3,h.n7,h.pat,h.st,fun p hp=>h.rs p (fK.1 hp).1,h.top,h.nx,h.held⟩
theorem Ok.lv(h:s.Ok)(l:AL (List UInt8)):({s with lv:=l} :Site).Ok:=⟨h.me,h.n3,h.n7,h.pat,h.st,h.rs,h.top,h.nx,h.held⟩
theorem Ok.jI(h:s.Ok){k:Nat}(hk:k≤4096):({s with nx:=k} :Site).Ok:=⟨h.me,h.n3,h.n7,h.pat,h.st,h.rs,h.top,hk,h.held⟩
theorem Ok.aX(h:s.Ok)(x:Int)(v:List UInt8):(s.aX x v).Ok:=by
 unfold Site.aX
 split
 ·exact⟨h.me,h.n3,h.n7,h.pat,h.st,fun p hp=>h.rs p (fK.1 hp).1,h.top,h.nx,h.held⟩
 ·exact h
theorem Ok.own(h:s.Ok):s.bQ.may 7=true:=Bl.jk.2 (by have:=h.me;have:=h.n7;unfold bQ;simp;omega)
end Site
