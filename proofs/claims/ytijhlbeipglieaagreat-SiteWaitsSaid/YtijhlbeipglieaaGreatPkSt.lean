/- Merged: PlainSt, PlainSt2. -/
import Derived.Test.YtijhlbeipglieaaGreatPkAcc
set_option linter.all false
namespace Agio
open Go
structure Sp where
 p:Bl
 so:Bool
 at_:Bl
 b:List UInt8
def Sp.zero:Sp:=⟨⟨0,0⟩,false,⟨0,0⟩,[]⟩
def Sp.same (x y:Sp):Bool:=((x.p.r == y.p.r) && (x.p.s == y.p.s)) && (x.so == y.so) && ((x.at_.r == y.at_.r) && (x.at_.s == y.at_.s)) && (x.b == y.b)
structure Pm where
 f:Int
 so:Bool
 at_:Bl
 b:List UInt8
structure Rn where
 bal:Bl
 pr:List Pm
 so:Bool
 b:List UInt8
 vt:List (Int × Bl)
 age:Nat
structure Site where
 me:Nat
 n:Nat
 pat:Nat
 down:Bool
 db:List UInt8
 dn:Nat
 st:AL Sp
 top:Int
 lv:AL (List UInt8)
 taken:Nat
 rs:AL Rn
 nx:Nat
 wt:List Int
 held:List Ms
def newOk (me n pat:Int):Bool:=decide (3≤n) && decide (n≤7) && decide (0≤me) && decide (me < n) && decide (1≤pat) && decide (pat≤1000)
def Site.new (me n pat:Nat):Site:=⟨me,n,pat,false,[],0,[],0,[],0,[],0,[0,0,0,0,0,0,0],[]⟩
namespace Site
variable (s:Site)
def stat (slot:Int):Sp:=(lookG slot s.st).getD Sp.zero
def dec (slot:Int):Option (List UInt8):=lookG slot s.lv
def fresh (slot:Int):Bool:=(s.dec slot).isNone && (s.stat slot).same Sp.zero
def send (to:Int) (m:Ms):Site:={s with held:=s.held ++ [{m with frm:=(s.me:Int),to:=to}]}
def others (s:Site) (m:Ms):Nat→Site
 | 0=>s
 | i + 1=>if i=s.me then others s m i else (others s m i).send (i:Int) m
def room (r:Rc):Bool:=decide (s.db.length + (layB [r]).length≤1048576)
def turn (slot:Int) (x:Sp):Site:={s with st:=putG slot x s.st,top:=max s.top (slot + 1)}
def note (x:Sp) (r:Rc):Option Site:=if s.room r then some ({s with db:=s.db ++ layB [r]}.turn r.slot x) else none
def accept (slot:Int) (b:Bl) (v:List UInt8):Option Site:=
 if cmpB b (s.stat slot).p < 0 then none else s.note ⟨b,true,b,v⟩ ⟨2,slot,b.r,b.s,v⟩
def promise (slot:Int) (b:Bl):Option Site:=
 if b.r < 1∨cmpB b (s.stat slot).p < 0 then none else s.note {s.stat slot with p:=b} ⟨1,slot,b.r,b.s,[]⟩
def asks (r:Rn) (slot:Int):Ms:=
 if r.so then ⟨if r.bal.r=0 then 1 else 5,0,0,slot,r.bal.r,r.bal.s,r.bal.r,r.bal.s,true,r.b⟩ else ⟨3,0,0,slot,r.bal.r,r.bal.s,0,0,false,[]⟩
def tells (slot:Int) (v:List UInt8):Ms:=⟨7,0,0,slot,0,0,0,0,true,v⟩
def votes (slot:Int) (b:Bl):Ms:=⟨6,0,0,slot,b.r,b.s,0,0,false,[]⟩
def putOk (slot:Int) (v:List UInt8):Bool:=decide (0≤slot) && decide (slot < 4096) && decide (v.length≤2048) && (match s.dec slot with | some y=>y == v | none=>true)
def decide_ (slot:Int) (v:List UInt8):Site:=
 if s.putOk slot v then {s with lv:=(if (s.dec slot).isSome then s.lv else putG slot v s.lv),rs:=delG slot s.rs} else s
def free (s:Site):Nat→Int→Int
 | 0,x=>x
 | k + 1,x=>if 0≤x∧s.fresh x=false then free s k (nextI s.me (x + 1).toNat s.n) else x
def ownB:Bl:=⟨0,s.me⟩
def submit (v:List UInt8):Site × Int × Int:=
 if s.down then (s,0,14) else if v.length=0∨2048 < v.length then (s,0,1) else
 let x:=s.free 4096 (nextI s.me s.nx s.n)
 if x < 0 then (s,0,5) else match s.accept x s.ownB v with
 | none=>(s,0,5)
 | some t=>
  let r:Rn:=⟨s.ownB,[],true,v,[],0⟩
  let u:={t with nx:=(x + 1).toNat,rs:=putG x r t.rs}
  ((u.others (asks r x) u.n).send u.me (votes x s.ownB),x,0)
def most (vt:List (Int × Bl)) (b:Bl) (n:Int):Bool:=mostI ((vt.filter fun v=>decide (v.2=b)).map Prod.fst) n
def accepted (m:Ms):Site:=
 match lookG m.slot s.rs with
 | none=>s
 | some r=>
  if r.bal=⟨m.bround,m.bsite⟩∧r.so=true then
   let vt:=r.vt ++ [(m.frm,(⟨m.bround,m.bsite⟩:Bl))]
   let t:={s with rs:=putG m.slot {r with vt:=vt} s.rs}
   if most vt r.bal s.n then (t.decide_ m.slot r.b).others (tells m.slot r.b) s.n else t
  else s
end Site
structure Site.Ok (s:Site):Prop where
 me:s.me < s.n
 n3:3≤s.n
 n7:s.n≤7
 pat:1≤s.pat∧s.pat≤1000
 st:∀p∈s.st,0≤p.1∧p.1 < 4096∧p.2.b.length≤2048∧p.2.p.may 7=true∧p.2.at_.may 7=true
 rs:∀p∈s.rs,0≤p.1∧p.1 < 4096∧p.2.b.length≤2048∧p.2.bal.may 7=true∧∀q∈p.2.pr,q.b.length≤2048
 top:0≤s.top∧s.top≤4096
 nx:s.nx≤4096
 held:∀m∈s.held,m.May
end Agio
namespace Agio
open Go
def Ms.Fit (m:Ms):Prop:=({m with frm:=0,to:=0} :Ms).May
theorem Ms.Fit.may {m:Ms} (h:m.Fit) {a b:Int} (ha:0≤a∧a≤6) (hb:0≤b∧b≤6):({m with frm:=a,to:=b} :Ms).May:=
 ⟨h.kind,ha,hb,h.slot,h.bround,h.bsite,h.hround,h.hsite,h.val,h.some_⟩
theorem Bl.may7 {b:Bl} :b.may 7=true ↔ (0≤b.r∧b.r≤1099511627776)∧0≤b.s∧b.s≤6:=by
 unfold Bl.may isSite
 simp only [Bool.and_eq_true,decide_eq_true_eq]
 omega
namespace Site
theorem votes_fit {x:Int} {b:Bl} (hx:0≤x∧x < 4096) (hb:b.may 7=true):(votes x b).Fit:=by
 have:=Bl.may7.1 hb
 exact ⟨by simp [votes],by simp,by simp,by simp [votes];omega,by simpa [votes] using this.1,by simpa [votes] using this.2,by simp [votes],by simp [votes],by simp [votes],by simp [votes]⟩
theorem tells_fit {x:Int} {v:List UInt8} (hx:0≤x∧x < 4096) (hv:v.length≤2048):(tells x v).Fit:=
 ⟨by simp [tells],by simp,by simp,by simp [tells];omega,by simp [tells],by simp [tells],by simp [tells],by simp [tells],by simpa [tells] using hv,by simp [tells]⟩
theorem asks_fit {r:Rn} {x:Int} (hx:0≤x∧x < 4096) (hb:r.bal.may 7=true) (hv:r.b.length≤2048):(asks r x).Fit:=by
 have:=Bl.may7.1 hb
 unfold asks
 split
 ·refine ⟨?_,by simp,by simp,by simp;omega,by simpa using this.1,by simpa using this.2,by simpa using this.1,by simpa using this.2,by simpa using hv,by simp⟩
  dsimp only;split <;> omega
 ·exact ⟨by simp,by simp,by simp,by simp;omega,by simpa using this.1,by simpa using this.2,by simp,by simp,by simp,by simp⟩
variable {s t:Site}
theorem Ok.put (h:s.Ok) {l:List Ms} (hl:∀m∈l,m.May):({s with held:=l} :Site).Ok:=⟨h.me,h.n3,h.n7,h.pat,h.st,h.rs,h.top,h.nx,hl⟩
theorem Ok.send (h:s.Ok) {m:Ms} (hm:m.Fit) {to:Int} (ht:0≤to∧to≤6):(s.send to m).Ok:=by
 refine h.put fun x hx=>?_
 rcases List.mem_append.1 hx with hx | hx
 ·exact h.held x hx
 ·rw [List.mem_singleton] at hx
  subst hx
  exact hm.may (by have:=h.me;have:=h.n7;omega) ht
theorem others_me (m:Ms):∀i,(s.others m i).me=s.me∧(s.others m i).n=s.n
 | 0=>⟨rfl,rfl⟩
 | i + 1=>by
  unfold others
  split
  ·exact others_me m i
  ·exact others_me m i
theorem Ok.others (h:s.Ok) {m:Ms} (hm:m.Fit):∀i,i≤7→(s.others m i).Ok
 | 0,_=>h
 | i + 1,hi=>by
  unfold Site.others
  split
  ·exact Ok.others h hm i (by omega)
  ·exact (Ok.others h hm i (by omega)).send hm (by omega)
def tell (s:Site) (m:Ms) (i:Nat):List Ms:=((List.range i).filter fun j=>decide (j≠s.me)).map fun (j:Nat)=>{m with frm:=(s.me:Int),to:=(j:Int)}
theorem others_eq (m:Ms):∀i,s.others m i= {s with held:=s.held ++ s.tell m i}
 | 0=>by simp [others,tell]
 | i + 1=>by
  have ih:=others_eq m i
  have e1:s.tell m (i + 1)=s.tell m i ++ (if i=s.me then [] else [{m with frm:=(s.me:Int),to:=(i:Int)}]):=by
   unfold tell
   rw [List.range_succ,List.filter_append,List.map_append]
   congr 1
   by_cases e:i=s.me <;> simp [e]
  unfold others
  rw [e1,ih]
  split
  ·simp
  ·simp [Site.send]
theorem tell_len (s:Site) (m:Ms) (i:Nat):(s.tell m i).length≤i:=by
 unfold tell
 rw [List.length_map]
 exact Nat.le_trans (List.length_filter_le _ _) (by simp)
theorem Ok.turn (h:s.Ok) {x:Int} (hx:0≤x∧x < 4096) {y:Sp} (hy:y.b.length≤2048∧y.p.may 7=true∧y.at_.may 7=true):(s.turn x y).Ok:=by
 refine ⟨h.me,h.n3,h.n7,h.pat,fun p hp=>?_,h.rs,?_,h.nx,h.held⟩
 ·rcases mem_putG.1 hp with rfl | ⟨hp,-⟩
  ·exact ⟨hx.1,hx.2,hy⟩
  ·exact h.st p hp
 ·have:=h.top
  unfold Site.turn
  dsimp only
  omega
theorem Ok.disk (h:s.Ok) (b:List UInt8) (k:Nat):({s with db:=b,dn:=k} :Site).Ok:=⟨h.me,h.n3,h.n7,h.pat,h.st,h.rs,h.top,h.nx,h.held⟩
theorem Ok.note (h:s.Ok) {y:Sp} {r:Rc} (hx:0≤r.slot∧r.slot < 4096) (hy:y.b.length≤2048∧y.p.may 7=true∧y.at_.may 7=true) (hn:s.note y r=some t):t.Ok:=by
 unfold Site.note at hn
 split at hn
 ·injection hn with hn
  rw [←hn]
  exact Ok.turn (s:={s with db:=_}) (h.disk _ _) hx hy
 ·cases hn
theorem Ok.stat (h:s.Ok) (x:Int):(s.stat x).b.length≤2048∧(s.stat x).p.may 7=true∧(s.stat x).at_.may 7=true:=by
 unfold Site.stat
 cases hl:lookG x s.st with
 | none=>exact ⟨by simp [Sp.zero],by decide,by decide⟩
 | some y=>exact (h.st _ (lookG_some hl)).2.2
theorem Ok.accept (h:s.Ok) {x:Int} (hx:0≤x∧x < 4096) {b:Bl} (hb:b.may 7=true) {v:List UInt8} (hv:v.length≤2048) (hn:s.accept x b v=some t):t.Ok:=by
 unfold Site.accept at hn
 split at hn
 ·cases hn
 ·refine Ok.note h ?_ ?_ hn
  ·exact hx
  ·exact ⟨hv,hb,hb⟩
theorem Ok.promise (h:s.Ok) {x:Int} (hx:0≤x∧x < 4096) {b:Bl} (hb:b.may 7=true) (hn:s.promise x b=some t):t.Ok:=by
 unfold Site.promise at hn
 split at hn
 ·cases hn
 ·refine Ok.note h ?_ ?_ hn
  ·exact hx
  ·exact ⟨(h.stat x).1,hb,(h.stat x).2.2⟩
theorem Ok.setRs (h:s.Ok) {x:Int} (hx:0≤x∧x < 4096) {r:Rn} (hr:r.b.length≤2048∧r.bal.may 7=true∧∀q∈r.pr,q.b.length≤2048):({s with rs:=putG x r s.rs} :Site).Ok:=by
 refine ⟨h.me,h.n3,h.n7,h.pat,h.st,fun p hp=>?_,h.top,h.nx,h.held⟩
 rcases mem_putG.1 hp with rfl | ⟨hp,-⟩
 ·exact ⟨hx.1,hx.2,hr⟩
 ·exact h.rs p hp
theorem Ok.delRs (h:s.Ok) (x:Int):({s with rs:=delG x s.rs} :Site).Ok:=⟨h.me,h.n3,h.n7,h.pat,h.st,fun p hp=>h.rs p (delG_mem.1 hp).1,h.top,h.nx,h.held⟩
theorem Ok.lv (h:s.Ok) (l:AL (List UInt8)):({s with lv:=l} :Site).Ok:=⟨h.me,h.n3,h.n7,h.pat,h.st,h.rs,h.top,h.nx,h.held⟩
theorem Ok.setNx (h:s.Ok) {k:Nat} (hk:k≤4096):({s with nx:=k} :Site).Ok:=⟨h.me,h.n3,h.n7,h.pat,h.st,h.rs,h.top,hk,h.held⟩
theorem Ok.decide_ (h:s.Ok) (x:Int) (v:List UInt8):(s.decide_ x v).Ok:=by
 unfold Site.decide_
 split
 ·exact ⟨h.me,h.n3,h.n7,h.pat,h.st,fun p hp=>h.rs p (delG_mem.1 hp).1,h.top,h.nx,h.held⟩
 ·exact h
theorem Ok.own (h:s.Ok):s.ownB.may 7=true:=Bl.may7.2 (by have:=h.me;have:=h.n7;unfold ownB;simp;omega)
end Site
end Agio
