/- For SitePlays. -/
import Derived.Test.YtijhlbeipglieaaGreatPkSt
import Derived.Test.YtijhlbeipglieaaGreatPkDisk
import Derived.Test.YtijhlbeipglieaaGreatPkAlog
set_option linter.all false
namespace aA
open Go Go.RowKit Go.Maps List
def aN.sl(x:aN):aM:=⟨x.A,x.n,x.c,x.b⟩
def aN.pl(x:aN):Sp:=⟨x.p,x.so,x.at_,x.b⟩
structure bq where
 f:Int
 so:Bool
 at_:Bl
 s:aM
def bq.cells(x:bq):List Value:=[.int .i64 x.f,.bool x.so,.int .i64 x.at_.r,.int .i64 x.at_.s,x.s.val]
def bq.pl(x:bq):Pm:=⟨x.f,x.so,x.at_,x.s.b⟩
def jg(x:Int × Bl):List Value:=[.int .i64 x.1,.int .i64 x.2.r,.int .i64 x.2.s]
structure aS where
 g:Nat
 ax:Bl
 PA:Option Addr
 pc:Nat
 pr:List bq
 so:Bool
 v:aM
 VA:Option Addr
 vc:Nat
 vt:List (Int × Bl)
 bG:Nat
def aS.pl(r:aS):Rn:=⟨r.ax,r.pr.map bq.pl,r.so,r.v.b,r.vt,r.bG⟩
def aS.ptr(r:aS):Value:=.pointer (some ⟨r.g,0,none⟩)
def aS.fp(r:aS):List Nat:=r.g::(ah r.PA++ah r.VA)
def aS.bytes(r:aS):List aM:=r.v::r.pr.map bq.s
end aA
namespace Go.Proofs.YtijhlbeipglieaaGreat
open Go.RowKit aA Go.Maps List
def Mv.sl(x:Mv):aM:=⟨x.A,x.n,x.c,x.b⟩
structure af where
 gs:Nat
 me:Nat
 n:Nat
 pat:Nat
 down:Bool
 gd:Nat
 Ad:Option Addr
 cd:Nat
 db:List UInt8
 dn:Nat
 bs:Nat
 st:AL aN
 top:Int
 gl:Nat
 bl:Nat
 lv:AL aM
 taken:Nat
 br:Nat
 rs:AL aS
 nx:Nat
 gw:Nat
 wt:List Int
 Ah:Option Addr
 ch:Nat
 held:List Mv
namespace af
variable (M:af)
def ptr:Value:=.pointer (some ⟨M.gs,0,none⟩)
def cells:List Value:=[.int .i64 (M.me:Int),.int .i64 (M.n:Int),.int .i64 (M.pat:Int),.bool M.down,.pointer (some ⟨M.gd,0,none⟩),.map (some M.bs),.int .i64 M.top,
 .pointer (some ⟨M.gl,0,none⟩),.map (some M.br),.int .i64 (M.nx:Int),.pointer (some ⟨M.gw,0,none⟩),.slice M.Ah M.held.length M.ch]
def pl:Site:=⟨M.me,M.n,M.pat,M.down,M.db,M.dn,bS aN.pl M.st,M.top,bS aM.b M.lv,M.taken,bS aS.pl M.rs,M.nx,M.wt,M.held.map Mv.ms⟩
def bytes:List aM:=M.st.map (fun p=>p.2.sl)++(M.lv.map Prod.snd++(M.rs.flatMap (fun p=>p.2.bytes)++M.held.map Mv.sl))
def fp:List Nat:=[M.gs,M.gd,M.bs,M.gl,M.bl,M.br,M.gw]++(ah M.Ad++(ah M.Ah++M.rs.flatMap fun p=>p.2.fp))
end af
structure o6(w:World)(r:aS):Prop where
 blk:ak w r.g 132 #[.int .i64 r.ax.r,.int .i64 r.ax.s,.slice r.PA r.pr.length r.pc,.bool r.so,r.v.val,.slice r.VA r.vt.length r.vc,.int .i64 (r.bG:Int)]
 EE:Own 340 5 w r.PA r.pr.length r.pc (r.pr.flatMap bq.cells)
 G8:Own 343 3 w r.VA r.vt.length r.vc (r.vt.flatMap jg)
theorem o6.upd{w w':World}{r:aS}{a b:List Nat}(h:o6 w r)(hu:aa a b w w')(hd:∀k∈r.fp,k∉a:=by simp):o6 w' r:=
 ⟨h.blk.upd hu (hd _ (by simp[aS.fp])),h.EE.upd hu (fun k hk=>hd k (by simp[aS.fp,hk])),h.G8.upd hu (fun k hk=>hd k (by simp[aS.fp,hk]))⟩
structure dF(w:World)(x:aM):Prop where
 rd:x.rd w
 tag:∀k∈ah x.A,bW w k=some (some 5)
theorem dF.upd{w w':World}{x:aM}{a b:List Nat}(h:dF w x)(hu:aa a b w w')(hd:∀k∈ah x.A,k∉a:=by simp):dF w' x:=
 ⟨aD.upd h.rd hu hd,fun k hk=>Ed hu (hd k hk) (h.tag k hk)⟩
theorem dF.au{w w':World}{x:aM}{b:List Nat}(h:dF w x)(hu:aa [] b w w'):dF w' x:=h.upd hu
class eU where
 X:List Nat
def af.iV[eU](M:af):List Nat:=ah M.Ad++eU.X
theorem o6.tg{w:World}{r:aS}(h:o6 w r):bW w r.g=some (some 132):=h.blk.tag
theorem o6.tP{w:World}{r:aS}(h:o6 w r):∀k∈ah r.PA,bW w k=some (some 340):=h.EE.tag
theorem o6.tV{w:World}{r:aS}(h:o6 w r):∀k∈ah r.VA,bW w k=some (some 343):=h.G8.tag
section
variable [eU]
structure ay(w:World)(M:af):Prop where
 blk:ak w M.gs 124 M.cells.toArray
 nV:iJ w M.gd M.Ad M.db.length M.cd M.db M.dn
 vG:bP Tryz.prog 3 w M.bs (bS aN.val M.st)
 jm:gI w M.gl M.bl M.lv M.taken
 nN:bP Tryz.prog 3 w M.br (bS aS.ptr M.rs)
 bV:∀p∈M.rs,o6 w p.2
 nT:lC w M.gw M.me M.n M.pat M.wt
 hld:Own 32 10 w M.Ah M.held.length M.ch (M.held.flatMap Mv.cells)
 gB:∀x∈M.bytes,dF w x
 bad:∀x∈M.bytes,∀k∈ah x.A,k∉M.iV
 maps:M.bs≠M.bl∧M.bs≠M.br∧M.bl≠M.br
 far:M.rs.Pairwise fun p q=>p.2.g≠q.2.g∧(∀k∈ah p.2.PA,k∉ah q.2.PA)∧∀k∈ah p.2.VA,k∉ah q.2.VA
 ok:M.pl.Ok
 qW:∀k∈(eU.X:List Nat),k<w.heap.size
section
variable {w w':World} {M:af}
theorem af.Rx{k:Nat}(h:k∈ah M.Ad):k∈M.iV:=mem_append.2 (.inl h)
theorem af.Xm{k:Nat}(h:k∈(eU.X:List Nat)):k∈M.iV:=mem_append.2 (.inr h)
theorem ay.tg(h:ay w M):bW w M.gs=some (some 124):=h.blk.tag
theorem ay.td(h:ay w M):bW w M.gd=some (some 197):=h.nV.blk.tag
theorem ay.tA(h:ay w M):∀k∈ah M.Ad,bW w k=some (some 5):=h.nV.tag
theorem ay.ts(h:ay w M):bW w M.bs=some none:=h.vG.tag
theorem ay.tl(h:ay w M):bW w M.gl=some (some 222):=h.jm.blk.tag
theorem ay.tb(h:ay w M):bW w M.bl=some none:=h.jm.map.tag
theorem ay.tr(h:ay w M):bW w M.br=some none:=h.nN.tag
theorem ay.tw(h:ay w M):bW w M.gw=some (some 214):=h.nT.1.tag
theorem ay.tH(h:ay w M):∀k∈ah M.Ah,bW w k=some (some 32):=h.hld.tag
theorem ay.kinds(h:ay w M):∀k∈M.fp,∃t,bW w k=some t:=by
 intro k hk
 simp only[af.fp,aS.fp,mem_append,mem_cons,not_mem_nil,or_false,mem_flatMap]at hk
 rcases hk with(rfl|rfl|rfl|rfl|rfl|rfl|rfl)|hk|hk|⟨p,hp,rfl|hk|hk⟩
 ·exact⟨_,h.tg⟩
 ·exact⟨_,h.td⟩
 ·exact⟨_,h.ts⟩
 ·exact⟨_,h.tl⟩
 ·exact⟨_,h.tb⟩
 ·exact⟨_,h.tr⟩
 ·exact⟨_,h.tw⟩
 ·exact⟨_,h.tA k hk⟩
 ·exact⟨_,h.tH k hk⟩
 ·exact⟨_,(h.bV p hp).tg⟩
 ·exact⟨_,(h.bV p hp).tP k hk⟩
 ·exact⟨_,(h.bV p hp).tV k hk⟩
theorem ay.lt(h:ay w M):∀k∈M.fp,k<w.heap.size:=fun k hk=>by
 obtain⟨t,ht⟩:=h.kinds k hk
 exact iI ht
theorem ay.JZ(h:ay w M):∀k∈M.iV,k<w.heap.size:=fun k hk=>by
 rcases mem_append.1 hk with hk|hk
 ·exact iI (h.tA k hk)
 ·exact h.qW k hk
theorem ay.G9(h:ay w M){x:aM}(hx:x∈M.bytes):∀k∈ah x.A,k∉M.fp:=by
 intro k hk hm
 have ht:=(h.gB x hx).tag k hk
 simp only[af.fp,aS.fp,mem_append,mem_cons,not_mem_nil,or_false,mem_flatMap]at hm
 rcases hm with(rfl|rfl|rfl|rfl|rfl|rfl|rfl)|hm|hm|⟨p,hp,rfl|hm|hm⟩
 ·exact aU ht h.tg (by decide) rfl
 ·exact aU ht h.td (by decide) rfl
 ·exact aU ht h.ts (by decide) rfl
 ·exact aU ht h.tl (by decide) rfl
 ·exact aU ht h.tb (by decide) rfl
 ·exact aU ht h.tr (by decide) rfl
 ·exact aU ht h.tw (by decide) rfl
 ·exact h.bad x hx k hk (af.Rx hm)
 ·exact aU ht (h.tH k hm) (by decide) rfl
 ·exact aU ht (h.bV p hp).tg (by decide) rfl
 ·exact aU ht ((h.bV p hp).tP k hm) (by decide) rfl
 ·exact aU ht ((h.bV p hp).tV k hm) (by decide) rfl
theorem ay.upd{a b:List Nat}(h:ay w M)(hu:aa a b w w')(hd:∀k∈M.fp,k∉a:=by simp)(hb:∀x∈M.bytes,∀k∈ah x.A,k∉a:=by simp):ay w' M:=by
 have hr:∀p∈M.rs,∀k∈p.2.fp,k∉a:=fun p hp k hk=>hd k (by
  simp only[af.fp,mem_append,mem_flatMap];exact .inr (.inr (.inr ⟨p,hp,hk⟩)))
 exact⟨h.blk.upd hu (hd _ (by simp[af.fp])),h.nV.upd hu (hd _ (by simp[af.fp])) (fun k hk=>hd k (by simp[af.fp,hk])),h.vG.upd hu (hd _ (by simp[af.fp])),
  h.jm.upd hu (hd _ (by simp[af.fp])) (hd _ (by simp[af.fp])),h.nN.upd hu (hd _ (by simp[af.fp])),fun p hp=>(h.bV p hp).upd hu (hr p hp),
  ⟨h.nT.1.upd hu (hd _ (by simp[af.fp])),h.nT.2⟩,h.hld.upd hu (fun k hk=>hd k (by simp[af.fp,hk])),fun x hx=>(h.gB x hx).upd hu (hb x hx),h.bad,h.maps,h.far,h.ok,fun k hk=>Nat.lt_of_lt_of_le (h.qW k hk) hu.size⟩
theorem ay.au{b:List Nat}(h:ay w M)(hu:aa [] b w w'):ay w' M:=h.upd hu
theorem ay.drew(h:ay w M):ay w.drew M:=h.au (b:=[]) ((aa.refl [] w).drew)
theorem ay.drewN(h:ay w M)(n:Nat):ay (w.drewN n) M:=h.au (b:=[]) ((aa.refl [] w).drewN n)
theorem ay.set{g:Nat}{t:TypeId}{cs:Array Value}(h:ay w M)(hB:ak w g t cs)(ht:(some t:Option TypeId)≠some 5)(hg:g∉M.fp){b:List Nat}{w':World}(hu:aa [g] b w w'):ay w' M:=
 h.upd hu (fun k hk=>by simp only[mem_singleton];rintro rfl;exact hg hk) (fun x hx k hk=>by simp only[mem_singleton];exact aU ((h.gB x hx).tag k hk) hB.tag ht.symm)
end
end
theorem o6.BN{w:World}{r:aS}(h:o6 w r){X:List Nat}{t:Option TypeId}(hX:∀k∈X,bW w k=some t)(h1:(some 132:Option TypeId)≠t)(h2:(some 340:Option TypeId)≠t)(h3:(some 343:Option TypeId)≠t):∀k∈r.fp,k∉X:=by
 intro k hk
 simp only[aS.fp,mem_cons,mem_append]at hk
 rcases hk with rfl|hk|hk
 ·exact bA h.tg hX h1
 ·exact bX h.tP hX h2 k hk
 ·exact bX h.tV hX h3 k hk
variable [eU]
section
variable {w w' w1 w2:World} {M:af}
theorem ay.Y3(_:ay w M){p:Int × aS}(hp:p∈M.rs):∀k∈p.2.fp,k∈M.fp:=fun k hk=>by
 simp only[af.fp,mem_append,mem_flatMap];exact .inr (.inr (.inr ⟨p,hp,hk⟩))
theorem ay.BM(h:ay w M)(d:Bool)(t:Int)(x:Nat){b:List Nat}(hu:aa [M.gs] b w w')(hB:ak w' M.gs 124 ({M with down:=d,top:=t,nx:=x} :af).cells.toArray)(ok:({M with down:=d,top:=t,nx:=x} :af).pl.Ok):ay w' {M with down:=d,top:=t,nx:=x}:=by
 have hX:∀k∈[M.gs],bW w k=some (some 124):=by simp only[mem_singleton];rintro k rfl;exact h.tg
 exact⟨hB,h.nV.upd hu (bA h.td hX (by decide)) (bX h.tA hX (by decide)),h.vG.upd hu (bA h.ts hX (by decide)),
  h.jm.upd hu (bA h.tl hX (by decide)) (bA h.tb hX (by decide)),h.nN.upd hu (bA h.tr hX (by decide)),fun p hp=>(h.bV p hp).upd hu ((h.bV p hp).BN hX (by decide) (by decide) (by decide)),
  ⟨h.nT.1.upd hu (bA h.tw hX (by decide)),h.nT.2⟩,h.hld.upd hu (bX h.tH hX (by decide)),fun y hy=>(h.gB y hy).upd hu (bX (h.gB y hy).tag hX (by decide)),h.bad,h.maps,h.far,ok,fun k hk=>Nat.lt_of_lt_of_le (h.qW k hk) hu.size⟩
theorem ay.hold(h:ay w M){A':Option Addr}{c':Nat}{l':List Mv}(hu1:aa (ah M.Ah) (ah A') w w1)(ho:Own 32 10 w1 A' l'.length c' (l'.flatMap Mv.cells))(hb:∀x∈l',dF w x.sl∧∀k∈ah x.A,k∉M.iV)(hu2:aa [M.gs] [M.gs] w1 w2)(hB:ak w2 M.gs 124 ({M with Ah:=A',ch:=c',held:=l'} :af).cells.toArray)(ok:({M with Ah:=A',ch:=c',held:=l'} :af).pl.Ok) :
  ay w2 {M with Ah:=A',ch:=c',held:=l'}∧aa M.fp ({M with Ah:=A',ch:=c',held:=l'} :af).fp w w2:=by
 have hX:∀k∈ah M.Ah,bW w k=some (some 32):=h.tH
 have hX1:∀k∈[M.gs],bW w1 k=some (some 124):=by simp only[mem_singleton];rintro k rfl;exact Ed hu1 (bA h.tg hX (by decide)) h.tg
 have k1:∀k t,bW w k=some t→t≠some 32→bW w1 k=some t:=fun k t hk hne=>Ed hu1 (bA hk hX hne) hk
 have n1:∀k t,bW w k=some t→t≠some 32→t≠some 124→k∉[M.gs]:=fun k t hk hne h2=>bA (k1 k t hk hne) hX1 h2
 have hr:∀p∈M.rs,o6 w2 p.2:=fun p hp=>by
  have h1:=(h.bV p hp).upd hu1 ((h.bV p hp).BN hX (by decide) (by decide) (by decide))
  exact h1.upd hu2 (h1.BN hX1 (by decide) (by decide) (by decide))
 have hy:∀x,dF w x→dF w2 x:=fun x hx=>by
  have h1:=hx.upd hu1 (bX hx.tag hX (by decide))
  exact h1.upd hu2 (bX h1.tag hX1 (by decide))
 have hby:∀x∈({M with Ah:=A',ch:=c',held:=l'} :af).bytes,dF w x∧∀k∈ah x.A,k∉M.iV:=by
  intro x hx
  simp only[af.bytes,mem_append]at hx
  rcases hx with hx|hx|hx|hx
  ·exact⟨h.gB x (by simp only[af.bytes,mem_append];exact .inl hx),h.bad x (by simp only[af.bytes,mem_append];exact .inl hx)⟩
  ·exact⟨h.gB x (by simp only[af.bytes,mem_append];exact .inr (.inl hx)),h.bad x (by simp only[af.bytes,mem_append];exact .inr (.inl hx))⟩
  ·exact⟨h.gB x (by simp only[af.bytes,mem_append];exact .inr (.inr (.inl hx))),h.bad x (by simp only[af.bytes,mem_append];exact .inr (.inr (.inl hx)))⟩
  ·obtain⟨m,hm,rfl⟩:=mem_map.1 hx
   exact hb m hm
 refine⟨⟨hB,(h.nV.upd hu1 (bA h.td hX (by decide)) (bX h.tA hX (by decide))).upd hu2 (n1 _ _ h.td (by decide) (by decide)) (fun k hk=>n1 _ _ (h.tA k hk) (by decide) (by decide)),
  (h.vG.upd hu1 (bA h.ts hX (by decide))).upd hu2 (n1 _ _ h.ts (by decide) (by decide)),
  (h.jm.upd hu1 (bA h.tl hX (by decide)) (bA h.tb hX (by decide))).upd hu2 (n1 _ _ h.tl (by decide) (by decide)) (n1 _ _ h.tb (by decide) (by decide)),
  (h.nN.upd hu1 (bA h.tr hX (by decide))).upd hu2 (n1 _ _ h.tr (by decide) (by decide)),hr,
  ⟨(h.nT.1.upd hu1 (bA h.tw hX (by decide))).upd hu2 (n1 _ _ h.tw (by decide) (by decide)),h.nT.2⟩,ho.upd hu2 (bX ho.tag hX1 (by decide)),fun x hx=>hy x (hby x hx).1,fun x hx=>(hby x hx).2,h.maps,h.far,ok,fun k hk=>Nat.lt_of_lt_of_le (h.qW k hk) (Nat.le_trans hu1.size hu2.size)⟩,?_⟩
 refine(hu1.mono (a':=M.fp) (b':=({M with Ah:=A',ch:=c',held:=l'} :af).fp) (fun k hk=>by simp[af.fp,hk]) ?_).trans (hu2.mono (a':=({M with Ah:=A',ch:=c',held:=l'} :af).fp) (b':=({M with Ah:=A',ch:=c',held:=l'} :af).fp) (fun k hk=>?_) (fun k hk=>.inr (.inl hk)))
 ·intro k hk
  simp only[af.fp,mem_append]at hk ⊢
  rcases hk with hk|hk|hk|hk
  ·exact .inr (.inl (.inl hk))
  ·exact .inr (.inl (.inr (.inl hk)))
  ·exact .inl hk
  ·exact .inr (.inl (.inr (.inr (.inr hk))))
 ·simp only[mem_singleton]at hk
  subst hk
  simp[af.fp]
theorem ay.disk(h:ay w M){A':Option Addr}{c':Nat}{db':List UInt8}{dn':Nat}(hu:aa (M.gd::ah M.Ad) (M.gd::ah A') w w')(hd:iJ w' M.gd A' db'.length c' db' dn')(ok:({M with Ad:=A',cd:=c',db:=db',dn:=dn'} :af).pl.Ok) :
  ay w' {M with Ad:=A',cd:=c',db:=db',dn:=dn'}∧aa M.fp ({M with Ad:=A',cd:=c',db:=db',dn:=dn'} :af).fp w w':=by
 have n1:∀k t,bW w k=some t→t≠some 197→t≠some 5→k∉M.gd::ah M.Ad:=fun k t hk h1 h2=>by
  rw[mem_cons];rintro(rfl|hm)
  ·exact aU hk h.td h1 rfl
  ·exact bA hk h.tA h2 hm
 have hb:∀x∈M.bytes,∀k∈ah x.A,k∉M.gd::ah M.Ad:=fun x hx k hk=>by
  rw[mem_cons];rintro(rfl|hm)
  ·exact aU ((h.gB x hx).tag _ hk) h.td (by decide) rfl
  ·exact h.bad x hx k hk (af.Rx hm)
 refine⟨⟨h.blk.upd hu (n1 _ _ h.tg (by decide) (by decide)),hd,h.vG.upd hu (n1 _ _ h.ts (by decide) (by decide)),h.jm.upd hu (n1 _ _ h.tl (by decide) (by decide)) (n1 _ _ h.tb (by decide) (by decide)),
  h.nN.upd hu (n1 _ _ h.tr (by decide) (by decide)),fun p hp=>(h.bV p hp).upd hu (fun k hk=>?_),⟨h.nT.1.upd hu (n1 _ _ h.tw (by decide) (by decide)),h.nT.2⟩,
  h.hld.upd hu (fun k hk=>n1 _ _ (h.tH k hk) (by decide) (by decide)),fun x hx=>(h.gB x hx).upd hu (hb x hx),fun x hx k hk hm=>?_,h.maps,h.far,ok,fun k hk=>Nat.lt_of_lt_of_le (h.qW k hk) hu.size⟩,?_⟩
 ·simp only[aS.fp,mem_cons,mem_append]at hk
  rcases hk with rfl|hk|hk
  ·exact n1 _ _ (h.bV p hp).tg (by decide) (by decide)
  ·exact n1 _ _ ((h.bV p hp).tP k hk) (by decide) (by decide)
  ·exact n1 _ _ ((h.bV p hp).tV k hk) (by decide) (by decide)
 ·rcases mem_append.1 hm with hm|hm
  ·rcases hu.fresh k (mem_cons_of_mem _ hm)with h1|h1
   ·exact hb x hx k hk h1
   ·have:=iI ((h.gB x hx).tag k hk);omega
  ·exact h.bad x hx k hk (af.Xm hm)
 ·refine hu.mono (fun k hk=>?_) (fun k hk=>?_)
  ·rcases mem_cons.1 hk with rfl|hk
   ·simp[af.fp]
   ·simp[af.fp,hk]
  ·simp only[af.fp,mem_append]at hk ⊢
   rcases hk with hk|hk|hk|hk
   ·exact .inr (.inl (.inl hk))
   ·exact .inl (mem_cons_of_mem _ hk)
   ·exact .inr (.inl (.inr (.inr (.inl hk))))
   ·exact .inr (.inl (.inr (.inr (.inr hk))))
theorem ay.stats(h:ay w M){st':AL aN}{b:List Nat}(hu:aa [M.bs] b w w')(hm:bP Tryz.prog 3 w' M.bs (bS aN.val st'))(hb:∀p∈st',dF w p.2.sl∧∀k∈ah p.2.A,k∉M.iV)(ok:({M with st:=st'} :af).pl.Ok):ay w' {M with st:=st'}∧aa M.fp M.fp w w':=by
 have hX:∀k∈[M.bs],bW w k=some none:=by simp only[mem_singleton];rintro k rfl;exact h.ts
 have hby:∀x∈({M with st:=st'} :af).bytes,dF w x∧∀k∈ah x.A,k∉M.iV:=by
  intro x hx
  simp only[af.bytes,mem_append]at hx
  rcases hx with hx|hx
  ·obtain⟨p,hp,rfl⟩:=mem_map.1 hx
   exact hb p hp
  ·have:x∈M.bytes:=by simp only[af.bytes,mem_append];exact .inr hx
   exact⟨h.gB x this,h.bad x this⟩
 refine⟨⟨h.blk.upd hu (bA h.tg hX (by decide)),h.nV.upd hu (bA h.td hX (by decide)) (bX h.tA hX (by decide)),hm,
  h.jm.upd hu (bA h.tl hX (by decide)) (by simp only[mem_singleton];exact h.maps.1.symm),h.nN.upd hu (by simp only[mem_singleton];exact h.maps.2.1.symm),fun p hp=>(h.bV p hp).upd hu ((h.bV p hp).BN hX (by decide) (by decide) (by decide)),
  ⟨h.nT.1.upd hu (bA h.tw hX (by decide)),h.nT.2⟩,h.hld.upd hu (bX h.tH hX (by decide)),fun x hx=>(hby x hx).1.upd hu (bX (hby x hx).1.tag hX (by decide)),fun x hx=>(hby x hx).2,h.maps,h.far,ok,fun k hk=>Nat.lt_of_lt_of_le (h.qW k hk) hu.size⟩,?_⟩
 exact hu.mono (fun k hk=>by simp only[mem_singleton]at hk;subst hk;simp[af.fp]) (fun k hk=>.inr (.inl hk))
theorem ay.ajQ(h:ay w M){lv':AL aM}{t':Nat}{X b:List Nat}(hu:aa X b w w')(hX:∀k∈X,k=M.gl∨k=M.bl)(hl:gI w' M.gl M.bl lv' t')(hb:∀p∈lv',dF w' p.2∧∀k∈ah p.2.A,k∉M.iV)(ok:({M with lv:=lv',taken:=t'} :af).pl.Ok):ay w' {M with lv:=lv',taken:=t'}∧aa M.fp M.fp w w':=by
 have n1:∀k t,bW w k=some t→t≠some 222→t≠none→k∉X:=fun k t hk h1 h2 hm=>by
  rcases hX k hm with rfl|rfl
  ·exact aU hk h.tl h1 rfl
  ·exact aU hk h.tb h2 rfl
 have n2:∀k,bW w k=some none→k≠M.bl→k∉X:=fun k hk h1 hm=>by
  rcases hX k hm with rfl|rfl
  ·exact aU hk h.tl (by decide) rfl
  ·exact h1 rfl
 have hby:∀x∈({M with lv:=lv',taken:=t'} :af).bytes,dF w' x∧∀k∈ah x.A,k∉M.iV:=by
  intro x hx
  simp only[af.bytes,mem_append]at hx
  have old:x∈M.bytes→dF w' x∧∀k∈ah x.A,k∉M.iV:=fun hm=>⟨(h.gB x hm).upd hu (fun k hk=>n1 _ _ ((h.gB x hm).tag k hk) (by decide) (by decide)),h.bad x hm⟩
  rcases hx with hx|hx|hx|hx
  ·exact old (by simp only[af.bytes,mem_append];exact .inl hx)
  ·obtain⟨p,hp,rfl⟩:=mem_map.1 hx
   exact hb p hp
  ·exact old (by simp only[af.bytes,mem_append];exact .inr (.inr (.inl hx)))
  ·exact old (by simp only[af.bytes,mem_append];exact .inr (.inr (.inr hx)))
 refine⟨⟨h.blk.upd hu (n1 _ _ h.tg (by decide) (by decide)),h.nV.upd hu (n1 _ _ h.td (by decide) (by decide)) (fun k hk=>n1 _ _ (h.tA k hk) (by decide) (by decide)),h.vG.upd hu (n2 _ h.ts h.maps.1),hl,
  h.nN.upd hu (n2 _ h.tr h.maps.2.2.symm),fun p hp=>(h.bV p hp).upd hu (fun k hk=>?_),⟨h.nT.1.upd hu (n1 _ _ h.tw (by decide) (by decide)),h.nT.2⟩,h.hld.upd hu (fun k hk=>n1 _ _ (h.tH k hk) (by decide) (by decide)),
  fun x hx=>(hby x hx).1,fun x hx=>(hby x hx).2,h.maps,h.far,ok,fun k hk=>Nat.lt_of_lt_of_le (h.qW k hk) hu.size⟩,?_⟩
 ·simp only[aS.fp,mem_cons,mem_append]at hk
  rcases hk with rfl|hk|hk
  ·exact n1 _ _ (h.bV p hp).tg (by decide) (by decide)
  ·exact n1 _ _ ((h.bV p hp).tP k hk) (by decide) (by decide)
  ·exact n1 _ _ ((h.bV p hp).tV k hk) (by decide) (by decide)
 ·exact hu.mono (fun k hk=>by rcases hX k hk with rfl|rfl<;>simp[af.fp]) (fun k hk=>.inr (.inl hk))
theorem ay.watch(h:ay w M){l':List Int}{b:List Nat}(hu:aa [M.gw] b w w')(hw:lC w' M.gw M.me M.n M.pat l'):ay w' {M with wt:=l'}∧aa M.fp M.fp w w':=by
 have hX:∀k∈[M.gw],bW w k=some (some 214):=by simp only[mem_singleton];rintro k rfl;exact h.tw
 refine⟨⟨h.blk.upd hu (bA h.tg hX (by decide)),h.nV.upd hu (bA h.td hX (by decide)) (bX h.tA hX (by decide)),h.vG.upd hu (bA h.ts hX (by decide)),
  h.jm.upd hu (bA h.tl hX (by decide)) (bA h.tb hX (by decide)),h.nN.upd hu (bA h.tr hX (by decide)),fun p hp=>(h.bV p hp).upd hu ((h.bV p hp).BN hX (by decide) (by decide) (by decide)),hw,
  h.hld.upd hu (bX h.tH hX (by decide)),fun y hy=>(h.gB y hy).upd hu (bX (h.gB y hy).tag hX (by decide)),h.bad,h.maps,h.far,⟨h.ok.me,h.ok.n3,h.ok.n7,h.ok.pat,h.ok.st,h.ok.rs,h.ok.top,h.ok.nx,h.ok.held⟩,fun k hk=>Nat.lt_of_lt_of_le (h.qW k hk) hu.size⟩,?_⟩
 exact hu.mono (fun k hk=>by simp only[mem_singleton]at hk;subst hk;simp[af.fp]) (fun k hk=>.inr (.inl hk))
theorem ay.rounds(h:ay w M){rs':AL aS}{X b:List Nat}(hu:aa X b w w')(hX:∀k∈X,k=M.br∨∃p∈M.rs,k∈p.2.fp)(hm:bP Tryz.prog 3 w' M.br (bS aS.ptr rs'))(hr:∀p∈rs',o6 w' p.2)(hn:∀p∈rs',∀k∈p.2.fp,w.heap.size≤k∨∃p∈M.rs,k∈p.2.fp)(hf:rs'.Pairwise fun p q=>p.2.g≠q.2.g∧(∀k∈ah p.2.PA,k∉ah q.2.PA)∧∀k∈ah p.2.VA,k∉ah q.2.VA)(hb:∀p∈rs',∀x∈p.2.bytes,dF w x∧∀k∈ah x.A,k∉M.iV)(ok:({M with rs:=rs'} :af).pl.Ok) :
  ay w' {M with rs:=rs'}∧aa M.fp ({M with rs:=rs'} :af).fp w w':=by
 have n1:∀k t,bW w k=some t→t≠none→t≠some 132→t≠some 340→t≠some 343→k∉X:=fun k t hk h0 h1 h2 h3 hm=>by
  rcases hX k hm with rfl|⟨p,hp,hkp⟩
  ·exact aU hk h.tr h0 rfl
  ·simp only[aS.fp,mem_cons,mem_append]at hkp
   rcases hkp with rfl|hkp|hkp
   ·exact aU hk (h.bV p hp).tg h1 rfl
   ·exact aU hk ((h.bV p hp).tP _ hkp) h2 rfl
   ·exact aU hk ((h.bV p hp).tV _ hkp) h3 rfl
 have n2:∀k,bW w k=some none→k≠M.br→k∉X:=fun k hk h1 hm=>by
  rcases hX k hm with rfl|⟨p,hp,hkp⟩
  ·exact h1 rfl
  ·simp only[aS.fp,mem_cons,mem_append]at hkp
   rcases hkp with rfl|hkp|hkp
   ·exact aU hk (h.bV p hp).tg (by decide) rfl
   ·exact aU hk ((h.bV p hp).tP _ hkp) (by decide) rfl
   ·exact aU hk ((h.bV p hp).tV _ hkp) (by decide) rfl
 have hby:∀x∈({M with rs:=rs'} :af).bytes,dF w x∧∀k∈ah x.A,k∉M.iV:=by
  intro x hx
  simp only[af.bytes,mem_append]at hx
  have old:x∈M.bytes→dF w x∧∀k∈ah x.A,k∉M.iV:=fun hm=>⟨h.gB x hm,h.bad x hm⟩
  rcases hx with hx|hx|hx|hx
  ·exact old (by simp only[af.bytes,mem_append];exact .inl hx)
  ·exact old (by simp only[af.bytes,mem_append];exact .inr (.inl hx))
  ·obtain⟨p,hp,hx⟩:=mem_flatMap.1 hx
   exact hb p hp x hx
  ·exact old (by simp only[af.bytes,mem_append];exact .inr (.inr (.inr hx)))
 refine⟨⟨h.blk.upd hu (n1 _ _ h.tg (by decide) (by decide) (by decide) (by decide)),h.nV.upd hu (n1 _ _ h.td (by decide) (by decide) (by decide) (by decide)) (fun k hk=>n1 _ _ (h.tA k hk) (by decide) (by decide) (by decide) (by decide)),
  h.vG.upd hu (n2 _ h.ts h.maps.2.1),h.jm.upd hu (n1 _ _ h.tl (by decide) (by decide) (by decide) (by decide)) (n2 _ h.tb h.maps.2.2),hm,hr,
  ⟨h.nT.1.upd hu (n1 _ _ h.tw (by decide) (by decide) (by decide) (by decide)),h.nT.2⟩,h.hld.upd hu (fun k hk=>n1 _ _ (h.tH k hk) (by decide) (by decide) (by decide) (by decide)),
  fun x hx=>(hby x hx).1.upd hu (fun k hk=>n1 _ _ ((hby x hx).1.tag k hk) (by decide) (by decide) (by decide) (by decide)),fun x hx=>(hby x hx).2,h.maps,hf,ok,fun k hk=>Nat.lt_of_lt_of_le (h.qW k hk) hu.size⟩,?_⟩
 refine hu.mono (fun k hk=>?_) (fun k hk=>?_)
 ·rcases hX k hk with rfl|⟨p,hp,hkp⟩
  ·simp[af.fp]
  ·exact h.Y3 hp k hkp
 ·simp only[af.fp,mem_append,mem_flatMap]at hk ⊢
  rcases hk with hk|hk|hk|⟨p,hp,hk⟩
  ·exact .inr (.inl (.inl hk))
  ·exact .inr (.inl (.inr (.inl hk)))
  ·exact .inr (.inl (.inr (.inr (.inl hk))))
  ·rcases hn p hp k hk with h1|h1
   ·exact .inr (.inr h1)
   ·exact .inr (.inl (.inr (.inr (.inr h1))))
end
