/- For WorldCalm. -/
import Derived.Test.YtijhlbeipglieaaGreatPkSt
import Derived.Test.YtijhlbeipglieaaGreatPkDisk
import Derived.Test.YtijhlbeipglieaaGreatPkAlog
set_option linter.all false
namespace aL
open Go Go.RowKit Go.Maps List
def cP.sl(x:cP):bO:=⟨x.A,x.n,x.c,x.b⟩
def cP.pl(x:cP):Sp:=⟨x.p,x.so,x.at_,x.b⟩
structure fo where
 f:Int
 so:Bool
 at_:Bl
 s:bO
def fo.cells(x:fo):List Value:=[.int .i64 x.f,.bool x.so,.int .i64 x.at_.r,.int .i64 x.at_.s,x.s.val]
def fo.pl(x:fo):Pm:=⟨x.f,x.so,x.at_,x.s.b⟩
def qk(x:Int × Bl):List Value:=[.int .i64 x.1,.int .i64 x.2.r,.int .i64 x.2.s]
structure bS where
 g:Nat
 aC:Bl
 PA:Option Addr
 pc:Nat
 pr:List fo
 so:Bool
 v:bO
 VA:Option Addr
 vc:Nat
 vt:List (Int × Bl)
 cV:Nat
def bS.pl(r:bS):Rn:=⟨r.aC,r.pr.map fo.pl,r.so,r.v.b,r.vt,r.cV⟩
def bS.ptr(r:bS):Value:=.pointer (some ⟨r.g,0,none⟩)
def bS.fp(r:bS):List Nat:=r.g::(ak r.PA++ak r.VA)
def bS.bytes(r:bS):List bO:=r.v::r.pr.map fo.s
end aL
namespace Go.Proofs.YtijhlbeipglieaaGreat
open Go.RowKit aL Go.Maps List
def Mv.sl(x:Mv):bO:=⟨x.A,x.n,x.c,x.b⟩
structure ae where
 gs:Nat
 me:Nat
 n:Nat
 pat:Nat
 down:Bool
 gd:Nat
 Ad:Option Addr
 cd:Nat
 db:List UInt8
 dn:Nat
 bs:Nat
 st:AL cP
 top:Int
 gl:Nat
 bl:Nat
 lv:AL bO
 taken:Nat
 br:Nat
 rs:AL bS
 nx:Nat
 gw:Nat
 wt:List Int
 Ah:Option Addr
 ch:Nat
 held:List Mv
namespace ae
variable (M:ae)
def ptr:Value:=.pointer (some ⟨M.gs,0,none⟩)
def cells:List Value:=[.int .i64 (M.me:Int),.int .i64 (M.n:Int),.int .i64 (M.pat:Int),.bool M.down,.pointer (some ⟨M.gd,0,none⟩),.map (some M.bs),.int .i64 M.top,
 .pointer (some ⟨M.gl,0,none⟩),.map (some M.br),.int .i64 (M.nx:Int),.pointer (some ⟨M.gw,0,none⟩),.slice M.Ah M.held.length M.ch]
def pl:Site:=⟨M.me,M.n,M.pat,M.down,M.db,M.dn,cD cP.pl M.st,M.top,cD bO.b M.lv,M.taken,cD bS.pl M.rs,M.nx,M.wt,M.held.map Mv.ms⟩
def bytes:List bO:=M.st.map (fun p=>p.2.sl)++(M.lv.map Prod.snd++(M.rs.flatMap (fun p=>p.2.bytes)++M.held.map Mv.sl))
def fp:List Nat:=[M.gs,M.gd,M.bs,M.gl,M.bl,M.br,M.gw]++(ak M.Ad++(ak M.Ah++M.rs.flatMap fun p=>p.2.fp))
end ae
structure mT(w:World)(r:bS):Prop where
 aO:aQ w r.g 132 #[.int .i64 r.aC.r,.int .i64 r.aC.s,.slice r.PA r.pr.length r.pc,.bool r.so,r.v.val,.slice r.VA r.vt.length r.vc,.int .i64 (r.cV:Int)]
 gB:aL.Own 340 5 w r.PA r.pr.length r.pc (r.pr.flatMap fo.cells)
 DJ:aL.Own 343 3 w r.VA r.vt.length r.vc (r.vt.flatMap qk)
theorem mT.aq{w w':World}{r:bS}{a b:List Nat}(h:mT w r)(hu:ab a b w w')(hd:∀k∈r.fp,k∉a):mT w' r:=
 ⟨h.aO.aq hu (hd _ (by simp[bS.fp])),h.gB.aq hu (fun k hk=>hd k (by simp[bS.fp,hk])),h.DJ.aq hu (fun k hk=>hd k (by simp[bS.fp,hk]))⟩
structure dj(w:World)(x:bO):Prop where
 rd:x.rd w
 tag:∀k∈ak x.A,cl w k=some (some 5)
theorem dj.aq{w w':World}{x:bO}{a b:List Nat}(h:dj w x)(hu:ab a b w w')(hd:∀k∈ak x.A,k∉a):dj w' x:=
 ⟨bE.aq h.rd hu hd,fun k hk=>sJ hu (hd k hk) (h.tag k hk)⟩
theorem dj.aN{w w':World}{x:bO}{b:List Nat}(h:dj w x)(hu:ab [] b w w'):dj w' x:=h.aq hu (by simp)
class eA where
 X:List Nat
def ae.iz[eA](M:ae):List Nat:=ak M.Ad++eA.X
theorem mT.tg{w:World}{r:bS}(h:mT w r):cl w r.g=some (some 132):=h.aO.tag
theorem mT.tP{w:World}{r:bS}(h:mT w r):∀k∈ak r.PA,cl w k=some (some 340):=h.gB.tag
theorem mT.tV{w:World}{r:bS}(h:mT w r):∀k∈ak r.VA,cl w k=some (some 343):=h.DJ.tag
section
variable [eA]
structure aJ(w:World)(M:ae):Prop where
 aO:aQ w M.gs 124 M.cells.toArray
 kX:iy w M.gd M.Ad M.db.length M.cd M.db M.dn
 rN:cz Tryz.prog 3 w M.bs (cD cP.val M.st)
 iH:gy w M.gl M.bl M.lv M.taken
 eY:cz Tryz.prog 3 w M.br (cD bS.ptr M.rs)
 cI:∀p∈M.rs,mT w p.2
 mm:kC w M.gw M.me M.n M.pat M.wt
 pv:aL.Own 32 10 w M.Ah M.held.length M.ch (M.held.flatMap Mv.cells)
 fu:∀x∈M.bytes,dj w x
 bad:∀x∈M.bytes,∀k∈ak x.A,k∉M.iz
 maps:M.bs≠M.bl∧M.bs≠M.br∧M.bl≠M.br
 fB:M.rs.Pairwise fun p q=>p.2.g≠q.2.g∧(∀k∈ak p.2.PA,k∉ak q.2.PA)∧∀k∈ak p.2.VA,k∉ak q.2.VA
 ok:M.pl.Ok
 po:∀k∈(eA.X:List Nat),k<w.heap.size
section
variable {w w':World} {M:ae}
theorem ae.Oc{k:Nat}(h:k∈ak M.Ad):k∈M.iz:=mem_append.2 (.inl h)
theorem ae.SV{k:Nat}(h:k∈(eA.X:List Nat)):k∈M.iz:=mem_append.2 (.inr h)
theorem aJ.tg(h:aJ w M):cl w M.gs=some (some 124):=h.aO.tag
theorem aJ.td(h:aJ w M):cl w M.gd=some (some 197):=h.kX.aO.tag
theorem aJ.tA(h:aJ w M):∀k∈ak M.Ad,cl w k=some (some 5):=h.kX.tag
theorem aJ.ts(h:aJ w M):cl w M.bs=some none:=h.rN.tag
theorem aJ.tl(h:aJ w M):cl w M.gl=some (some 222):=h.iH.aO.tag
theorem aJ.tb(h:aJ w M):cl w M.bl=some none:=h.iH.map.tag
theorem aJ.tr(h:aJ w M):cl w M.br=some none:=h.eY.tag
theorem aJ.tw(h:aJ w M):cl w M.gw=some (some 214):=h.mm.1.tag
theorem aJ.tH(h:aJ w M):∀k∈ak M.Ah,cl w k=some (some 32):=h.pv.tag
theorem aJ.kinds(h:aJ w M):∀k∈M.fp,∃t,cl w k=some t:=by
 intro k hk
 simp only[ae.fp,bS.fp,mem_append,mem_cons,not_mem_nil,or_false,mem_flatMap]at hk
 rcases hk with(rfl|rfl|rfl|rfl|rfl|rfl|rfl)|hk|hk|⟨p,hp,rfl|hk|hk⟩
 ·exact⟨_,h.tg⟩
 ·exact⟨_,h.td⟩
 ·exact⟨_,h.ts⟩
 ·exact⟨_,h.tl⟩
 ·exact⟨_,h.tb⟩
 ·exact⟨_,h.tr⟩
 ·exact⟨_,h.tw⟩
 ·exact⟨_,h.tA k hk⟩
 ·exact⟨_,h.tH k hk⟩
 ·exact⟨_,(h.cI p hp).tg⟩
 ·exact⟨_,(h.cI p hp).tP k hk⟩
 ·exact⟨_,(h.cI p hp).tV k hk⟩
theorem aJ.lt(h:aJ w M):∀k∈M.fp,k<w.heap.size:=fun k hk=>by
 obtain⟨t,ht⟩:=h.kinds k hk
 exact fJ ht
theorem aJ.FO(h:aJ w M):∀k∈M.iz,k<w.heap.size:=fun k hk=>by
 rcases mem_append.1 hk with hk|hk
 ·exact fJ (h.tA k hk)
 ·exact h.po k hk
theorem aJ.DK(h:aJ w M){x:bO}(hx:x∈M.bytes):∀k∈ak x.A,k∉M.fp:=by
 intro k hk hm
 have ht:=(h.fu x hx).tag k hk
 simp only[ae.fp,bS.fp,mem_append,mem_cons,not_mem_nil,or_false,mem_flatMap]at hm
 rcases hm with(rfl|rfl|rfl|rfl|rfl|rfl|rfl)|hm|hm|⟨p,hp,rfl|hm|hm⟩
 ·exact bx ht h.tg (by decide) rfl
 ·exact bx ht h.td (by decide) rfl
 ·exact bx ht h.ts (by decide) rfl
 ·exact bx ht h.tl (by decide) rfl
 ·exact bx ht h.tb (by decide) rfl
 ·exact bx ht h.tr (by decide) rfl
 ·exact bx ht h.tw (by decide) rfl
 ·exact h.bad x hx k hk (ae.Oc hm)
 ·exact bx ht (h.tH k hm) (by decide) rfl
 ·exact bx ht (h.cI p hp).tg (by decide) rfl
 ·exact bx ht ((h.cI p hp).tP k hm) (by decide) rfl
 ·exact bx ht ((h.cI p hp).tV k hm) (by decide) rfl
theorem aJ.aq{a b:List Nat}(h:aJ w M)(hu:ab a b w w')(hd:∀k∈M.fp,k∉a)(hb:∀x∈M.bytes,∀k∈ak x.A,k∉a):aJ w' M:=by
 have hr:∀p∈M.rs,∀k∈p.2.fp,k∉a:=fun p hp k hk=>hd k (by
  simp only[ae.fp,mem_append,mem_flatMap];exact .inr (.inr (.inr ⟨p,hp,hk⟩)))
 exact⟨h.aO.aq hu (hd _ (by simp[ae.fp])),h.kX.aq hu (hd _ (by simp[ae.fp])) (fun k hk=>hd k (by simp[ae.fp,hk])),h.rN.aq hu (hd _ (by simp[ae.fp])),
  h.iH.aq hu (hd _ (by simp[ae.fp])) (hd _ (by simp[ae.fp])),h.eY.aq hu (hd _ (by simp[ae.fp])),fun p hp=>(h.cI p hp).aq hu (hr p hp),
  ⟨h.mm.1.aq hu (hd _ (by simp[ae.fp])),h.mm.2⟩,h.pv.aq hu (fun k hk=>hd k (by simp[ae.fp,hk])),fun x hx=>(h.fu x hx).aq hu (hb x hx),h.bad,h.maps,h.fB,h.ok,fun k hk=>Nat.lt_of_lt_of_le (h.po k hk) hu.size⟩
theorem aJ.aN{b:List Nat}(h:aJ w M)(hu:ab [] b w w'):aJ w' M:=h.aq hu (by simp) (by simp)
theorem aJ.drew(h:aJ w M):aJ w.drew M:=h.aN (b:=[]) ((ab.refl [] w).drew)
theorem aJ.drewN(h:aJ w M)(n:Nat):aJ (w.drewN n) M:=h.aN (b:=[]) ((ab.refl [] w).drewN n)
theorem aJ.set{g:Nat}{t:TypeId}{cs:Array Value}(h:aJ w M)(hB:aQ w g t cs)(ht:(some t:Option TypeId)≠some 5)(hg:g∉M.fp){b:List Nat}{w':World}(hu:ab [g] b w w'):aJ w' M:=
 h.aq hu (fun k hk=>by simp only[mem_singleton];rintro rfl;exact hg hk) (fun x hx k hk=>by simp only[mem_singleton];exact bx ((h.fu x hx).tag k hk) hB.tag ht.symm)
end
end
theorem mT.yE{w:World}{r:bS}(h:mT w r){X:List Nat}{t:Option TypeId}(hX:∀k∈X,cl w k=some t)(h1:(some 132:Option TypeId)≠t)(h2:(some 340:Option TypeId)≠t)(h3:(some 343:Option TypeId)≠t):∀k∈r.fp,k∉X:=by
 intro k hk
 simp only[bS.fp,mem_cons,mem_append]at hk
 rcases hk with rfl|hk|hk
 ·exact cp h.tg hX h1
 ·exact cY h.tP hX h2 k hk
 ·exact cY h.tV hX h3 k hk
variable [eA]
section
variable {w w' w1 w2:World} {M:ae}
theorem aJ.W9(_:aJ w M){p:Int × bS}(hp:p∈M.rs):∀k∈p.2.fp,k∈M.fp:=fun k hk=>by
 simp only[ae.fp,mem_append,mem_flatMap];exact .inr (.inr (.inr ⟨p,hp,hk⟩))
theorem aJ.yD(h:aJ w M)(d:Bool)(t:Int)(x:Nat){b:List Nat}(hu:ab [M.gs] b w w')(hB:aQ w' M.gs 124 ({M with down:=d,top:=t,nx:=x} :ae).cells.toArray)(ok:({M with down:=d,top:=t,nx:=x} :ae).pl.Ok):aJ w' {M with down:=d,top:=t,nx:=x}:=by
 have hX:∀k∈[M.gs],cl w k=some (some 124):=by simp only[mem_singleton];rintro k rfl;exact h.tg
 exact⟨hB,h.kX.aq hu (cp h.td hX (by decide)) (cY h.tA hX (by decide)),h.rN.aq hu (cp h.ts hX (by decide)),
  h.iH.aq hu (cp h.tl hX (by decide)) (cp h.tb hX (by decide)),h.eY.aq hu (cp h.tr hX (by decide)),fun p hp=>(h.cI p hp).aq hu ((h.cI p hp).yE hX (by decide) (by decide) (by decide)),
  ⟨h.mm.1.aq hu (cp h.tw hX (by decide)),h.mm.2⟩,h.pv.aq hu (cY h.tH hX (by decide)),fun y hy=>(h.fu y hy).aq hu (cY (h.fu y hy).tag hX (by decide)),h.bad,h.maps,h.fB,ok,fun k hk=>Nat.lt_of_lt_of_le (h.po k hk) hu.size⟩
theorem aJ.hold(h:aJ w M){A':Option Addr}{c':Nat}{l':List Mv}(bn:ab (ak M.Ah) (ak A') w w1)(ho:aL.Own 32 10 w1 A' l'.length c' (l'.flatMap Mv.cells))(hb:∀x∈l',dj w x.sl∧∀k∈ak x.A,k∉M.iz)(bh:ab [M.gs] [M.gs] w1 w2)(hB:aQ w2 M.gs 124 ({M with Ah:=A',ch:=c',held:=l'} :ae).cells.toArray)(ok:({M with Ah:=A',ch:=c',held:=l'} :ae).pl.Ok) :
  aJ w2 {M with Ah:=A',ch:=c',held:=l'}∧ab M.fp ({M with Ah:=A',ch:=c',held:=l'} :ae).fp w w2:=by
 have hX:∀k∈ak M.Ah,cl w k=some (some 32):=h.tH
 have mn:∀k∈[M.gs],cl w1 k=some (some 124):=by simp only[mem_singleton];rintro k rfl;exact sJ bn (cp h.tg hX (by decide)) h.tg
 have k1:∀k t,cl w k=some t→t≠some 32→cl w1 k=some t:=fun k t hk hne=>sJ bn (cp hk hX hne) hk
 have n1:∀k t,cl w k=some t→t≠some 32→t≠some 124→k∉[M.gs]:=fun k t hk hne h2=>cp (k1 k t hk hne) mn h2
 have hr:∀p∈M.rs,mT w2 p.2:=fun p hp=>by
  have h1:=(h.cI p hp).aq bn ((h.cI p hp).yE hX (by decide) (by decide) (by decide))
  exact h1.aq bh (h1.yE mn (by decide) (by decide) (by decide))
 have hy:∀x,dj w x→dj w2 x:=fun x hx=>by
  have h1:=hx.aq bn (cY hx.tag hX (by decide))
  exact h1.aq bh (cY h1.tag mn (by decide))
 have hby:∀x∈({M with Ah:=A',ch:=c',held:=l'} :ae).bytes,dj w x∧∀k∈ak x.A,k∉M.iz:=by
  intro x hx
  simp only[ae.bytes,mem_append]at hx
  rcases hx with hx|hx|hx|hx
  ·exact⟨h.fu x (by simp only[ae.bytes,mem_append];exact .inl hx),h.bad x (by simp only[ae.bytes,mem_append];exact .inl hx)⟩
  ·exact⟨h.fu x (by simp only[ae.bytes,mem_append];exact .inr (.inl hx)),h.bad x (by simp only[ae.bytes,mem_append];exact .inr (.inl hx))⟩
  ·exact⟨h.fu x (by simp only[ae.bytes,mem_append];exact .inr (.inr (.inl hx))),h.bad x (by simp only[ae.bytes,mem_append];exact .inr (.inr (.inl hx)))⟩
  ·obtain⟨m,hm,rfl⟩:=mem_map.1 hx
   exact hb m hm
 refine⟨⟨hB,(h.kX.aq bn (cp h.td hX (by decide)) (cY h.tA hX (by decide))).aq bh (n1 _ _ h.td (by decide) (by decide)) (fun k hk=>n1 _ _ (h.tA k hk) (by decide) (by decide)),
  (h.rN.aq bn (cp h.ts hX (by decide))).aq bh (n1 _ _ h.ts (by decide) (by decide)),
  (h.iH.aq bn (cp h.tl hX (by decide)) (cp h.tb hX (by decide))).aq bh (n1 _ _ h.tl (by decide) (by decide)) (n1 _ _ h.tb (by decide) (by decide)),
  (h.eY.aq bn (cp h.tr hX (by decide))).aq bh (n1 _ _ h.tr (by decide) (by decide)),hr,
  ⟨(h.mm.1.aq bn (cp h.tw hX (by decide))).aq bh (n1 _ _ h.tw (by decide) (by decide)),h.mm.2⟩,ho.aq bh (cY ho.tag mn (by decide)),fun x hx=>hy x (hby x hx).1,fun x hx=>(hby x hx).2,h.maps,h.fB,ok,fun k hk=>Nat.lt_of_lt_of_le (h.po k hk) (Nat.le_trans bn.size bh.size)⟩,?_⟩
 refine(bn.mono (a':=M.fp) (b':=({M with Ah:=A',ch:=c',held:=l'} :ae).fp) (fun k hk=>by simp[ae.fp,hk]) ?_).trans (bh.mono (a':=({M with Ah:=A',ch:=c',held:=l'} :ae).fp) (b':=({M with Ah:=A',ch:=c',held:=l'} :ae).fp) (fun k hk=>?_) (fun k hk=>.inr (.inl hk)))
 ·intro k hk
  simp only[ae.fp,mem_append]at hk ⊢
  rcases hk with hk|hk|hk|hk
  ·exact .inr (.inl (.inl hk))
  ·exact .inr (.inl (.inr (.inl hk)))
  ·exact .inl hk
  ·exact .inr (.inl (.inr (.inr (.inr hk))))
 ·simp only[mem_singleton]at hk
  subst hk
  simp[ae.fp]
theorem aJ.cZ(h:aJ w M){A':Option Addr}{c':Nat}{db':List UInt8}{dn':Nat}(hu:ab (M.gd::ak M.Ad) (M.gd::ak A') w w')(hd:iy w' M.gd A' db'.length c' db' dn')(ok:({M with Ad:=A',cd:=c',db:=db',dn:=dn'} :ae).pl.Ok) :
  aJ w' {M with Ad:=A',cd:=c',db:=db',dn:=dn'}∧ab M.fp ({M with Ad:=A',cd:=c',db:=db',dn:=dn'} :ae).fp w w':=by
 have n1:∀k t,cl w k=some t→t≠some 197→t≠some 5→k∉M.gd::ak M.Ad:=fun k t hk h1 h2=>by
  rw[mem_cons];rintro(rfl|hm)
  ·exact bx hk h.td h1 rfl
  ·exact cp hk h.tA h2 hm
 have hb:∀x∈M.bytes,∀k∈ak x.A,k∉M.gd::ak M.Ad:=fun x hx k hk=>by
  rw[mem_cons];rintro(rfl|hm)
  ·exact bx ((h.fu x hx).tag _ hk) h.td (by decide) rfl
  ·exact h.bad x hx k hk (ae.Oc hm)
 refine⟨⟨h.aO.aq hu (n1 _ _ h.tg (by decide) (by decide)),hd,h.rN.aq hu (n1 _ _ h.ts (by decide) (by decide)),h.iH.aq hu (n1 _ _ h.tl (by decide) (by decide)) (n1 _ _ h.tb (by decide) (by decide)),
  h.eY.aq hu (n1 _ _ h.tr (by decide) (by decide)),fun p hp=>(h.cI p hp).aq hu (fun k hk=>?_),⟨h.mm.1.aq hu (n1 _ _ h.tw (by decide) (by decide)),h.mm.2⟩,
  h.pv.aq hu (fun k hk=>n1 _ _ (h.tH k hk) (by decide) (by decide)),fun x hx=>(h.fu x hx).aq hu (hb x hx),fun x hx k hk hm=>?_,h.maps,h.fB,ok,fun k hk=>Nat.lt_of_lt_of_le (h.po k hk) hu.size⟩,?_⟩
 ·simp only[bS.fp,mem_cons,mem_append]at hk
  rcases hk with rfl|hk|hk
  ·exact n1 _ _ (h.cI p hp).tg (by decide) (by decide)
  ·exact n1 _ _ ((h.cI p hp).tP k hk) (by decide) (by decide)
  ·exact n1 _ _ ((h.cI p hp).tV k hk) (by decide) (by decide)
 ·rcases mem_append.1 hm with hm|hm
  ·rcases hu.fresh k (mem_cons_of_mem _ hm)with h1|h1
   ·exact hb x hx k hk h1
   ·have:=fJ ((h.fu x hx).tag k hk);omega
  ·exact h.bad x hx k hk (ae.SV hm)
 ·refine hu.mono (fun k hk=>?_) (fun k hk=>?_)
  ·rcases mem_cons.1 hk with rfl|hk
   ·simp[ae.fp]
   ·simp[ae.fp,hk]
  ·simp only[ae.fp,mem_append]at hk ⊢
   rcases hk with hk|hk|hk|hk
   ·exact .inr (.inl (.inl hk))
   ·exact .inl (mem_cons_of_mem _ hk)
   ·exact .inr (.inl (.inr (.inr (.inl hk))))
   ·exact .inr (.inl (.inr (.inr (.inr hk))))
theorem aJ.stats(h:aJ w M){Od:AL cP}{b:List Nat}(hu:ab [M.bs] b w w')(hm:cz Tryz.prog 3 w' M.bs (cD cP.val Od))(hb:∀p∈Od,dj w p.2.sl∧∀k∈ak p.2.A,k∉M.iz)(ok:({M with st:=Od} :ae).pl.Ok):aJ w' {M with st:=Od}∧ab M.fp M.fp w w':=by
 have hX:∀k∈[M.bs],cl w k=some none:=by simp only[mem_singleton];rintro k rfl;exact h.ts
 have hby:∀x∈({M with st:=Od} :ae).bytes,dj w x∧∀k∈ak x.A,k∉M.iz:=by
  intro x hx
  simp only[ae.bytes,mem_append]at hx
  rcases hx with hx|hx
  ·obtain⟨p,hp,rfl⟩:=mem_map.1 hx
   exact hb p hp
  ·have:x∈M.bytes:=by simp only[ae.bytes,mem_append];exact .inr hx
   exact⟨h.fu x this,h.bad x this⟩
 refine⟨⟨h.aO.aq hu (cp h.tg hX (by decide)),h.kX.aq hu (cp h.td hX (by decide)) (cY h.tA hX (by decide)),hm,
  h.iH.aq hu (cp h.tl hX (by decide)) (by simp only[mem_singleton];exact h.maps.1.symm),h.eY.aq hu (by simp only[mem_singleton];exact h.maps.2.1.symm),fun p hp=>(h.cI p hp).aq hu ((h.cI p hp).yE hX (by decide) (by decide) (by decide)),
  ⟨h.mm.1.aq hu (cp h.tw hX (by decide)),h.mm.2⟩,h.pv.aq hu (cY h.tH hX (by decide)),fun x hx=>(hby x hx).1.aq hu (cY (hby x hx).1.tag hX (by decide)),fun x hx=>(hby x hx).2,h.maps,h.fB,ok,fun k hk=>Nat.lt_of_lt_of_le (h.po k hk) hu.size⟩,?_⟩
 exact hu.mono (fun k hk=>by simp only[mem_singleton]at hk;subst hk;simp[ae.fp]) (fun k hk=>.inr (.inl hk))
theorem aJ.N8(h:aJ w M){lv':AL bO}{t':Nat}{X b:List Nat}(hu:ab X b w w')(hX:∀k∈X,k=M.gl∨k=M.bl)(hl:gy w' M.gl M.bl lv' t')(hb:∀p∈lv',dj w' p.2∧∀k∈ak p.2.A,k∉M.iz)(ok:({M with lv:=lv',taken:=t'} :ae).pl.Ok):aJ w' {M with lv:=lv',taken:=t'}∧ab M.fp M.fp w w':=by
 have n1:∀k t,cl w k=some t→t≠some 222→t≠none→k∉X:=fun k t hk h1 h2 hm=>by
  rcases hX k hm with rfl|rfl
  ·exact bx hk h.tl h1 rfl
  ·exact bx hk h.tb h2 rfl
 have n2:∀k,cl w k=some none→k≠M.bl→k∉X:=fun k hk h1 hm=>by
  rcases hX k hm with rfl|rfl
  ·exact bx hk h.tl (by decide) rfl
  ·exact h1 rfl
 have hby:∀x∈({M with lv:=lv',taken:=t'} :ae).bytes,dj w' x∧∀k∈ak x.A,k∉M.iz:=by
  intro x hx
  simp only[ae.bytes,mem_append]at hx
  have ie:x∈M.bytes→dj w' x∧∀k∈ak x.A,k∉M.iz:=fun hm=>⟨(h.fu x hm).aq hu (fun k hk=>n1 _ _ ((h.fu x hm).tag k hk) (by decide) (by decide)),h.bad x hm⟩
  rcases hx with hx|hx|hx|hx
  ·exact ie (by simp only[ae.bytes,mem_append];exact .inl hx)
  ·obtain⟨p,hp,rfl⟩:=mem_map.1 hx
   exact hb p hp
  ·exact ie (by simp only[ae.bytes,mem_append];exact .inr (.inr (.inl hx)))
  ·exact ie (by simp only[ae.bytes,mem_append];exact .inr (.inr (.inr hx)))
 refine⟨⟨h.aO.aq hu (n1 _ _ h.tg (by decide) (by decide)),h.kX.aq hu (n1 _ _ h.td (by decide) (by decide)) (fun k hk=>n1 _ _ (h.tA k hk) (by decide) (by decide)),h.rN.aq hu (n2 _ h.ts h.maps.1),hl,
  h.eY.aq hu (n2 _ h.tr h.maps.2.2.symm),fun p hp=>(h.cI p hp).aq hu (fun k hk=>?_),⟨h.mm.1.aq hu (n1 _ _ h.tw (by decide) (by decide)),h.mm.2⟩,h.pv.aq hu (fun k hk=>n1 _ _ (h.tH k hk) (by decide) (by decide)),
  fun x hx=>(hby x hx).1,fun x hx=>(hby x hx).2,h.maps,h.fB,ok,fun k hk=>Nat.lt_of_lt_of_le (h.po k hk) hu.size⟩,?_⟩
 ·simp only[bS.fp,mem_cons,mem_append]at hk
  rcases hk with rfl|hk|hk
  ·exact n1 _ _ (h.cI p hp).tg (by decide) (by decide)
  ·exact n1 _ _ ((h.cI p hp).tP k hk) (by decide) (by decide)
  ·exact n1 _ _ ((h.cI p hp).tV k hk) (by decide) (by decide)
 ·exact hu.mono (fun k hk=>by rcases hX k hk with rfl|rfl<;>simp[ae.fp]) (fun k hk=>.inr (.inl hk))
theorem aJ.watch(h:aJ w M){l':List Int}{b:List Nat}(hu:ab [M.gw] b w w')(hw:kC w' M.gw M.me M.n M.pat l'):aJ w' {M with wt:=l'}∧ab M.fp M.fp w w':=by
 have hX:∀k∈[M.gw],cl w k=some (some 214):=by simp only[mem_singleton];rintro k rfl;exact h.tw
 refine⟨⟨h.aO.aq hu (cp h.tg hX (by decide)),h.kX.aq hu (cp h.td hX (by decide)) (cY h.tA hX (by decide)),h.rN.aq hu (cp h.ts hX (by decide)),
  h.iH.aq hu (cp h.tl hX (by decide)) (cp h.tb hX (by decide)),h.eY.aq hu (cp h.tr hX (by decide)),fun p hp=>(h.cI p hp).aq hu ((h.cI p hp).yE hX (by decide) (by decide) (by decide)),hw,
  h.pv.aq hu (cY h.tH hX (by decide)),fun y hy=>(h.fu y hy).aq hu (cY (h.fu y hy).tag hX (by decide)),h.bad,h.maps,h.fB,⟨h.ok.me,h.ok.n3,h.ok.n7,h.ok.pat,h.ok.st,h.ok.rs,h.ok.top,h.ok.nx,h.ok.held⟩,fun k hk=>Nat.lt_of_lt_of_le (h.po k hk) hu.size⟩,?_⟩
 exact hu.mono (fun k hk=>by simp only[mem_singleton]at hk;subst hk;simp[ae.fp]) (fun k hk=>.inr (.inl hk))
theorem aJ.rounds(h:aJ w M){Ab:AL bS}{X b:List Nat}(hu:ab X b w w')(hX:∀k∈X,k=M.br∨∃p∈M.rs,k∈p.2.fp)(hm:cz Tryz.prog 3 w' M.br (cD bS.ptr Ab))(hr:∀p∈Ab,mT w' p.2)(hn:∀p∈Ab,∀k∈p.2.fp,w.heap.size≤k∨∃p∈M.rs,k∈p.2.fp)(hf:Ab.Pairwise fun p q=>p.2.g≠q.2.g∧(∀k∈ak p.2.PA,k∉ak q.2.PA)∧∀k∈ak p.2.VA,k∉ak q.2.VA)(hb:∀p∈Ab,∀x∈p.2.bytes,dj w x∧∀k∈ak x.A,k∉M.iz)(ok:({M with rs:=Ab} :ae).pl.Ok) :
  aJ w' {M with rs:=Ab}∧ab M.fp ({M with rs:=Ab} :ae).fp w w':=by
 have n1:∀k t,cl w k=some t→t≠none→t≠some 132→t≠some 340→t≠some 343→k∉X:=fun k t hk h0 h1 h2 h3 hm=>by
  rcases hX k hm with rfl|⟨p,hp,jH⟩
  ·exact bx hk h.tr h0 rfl
  ·simp only[bS.fp,mem_cons,mem_append]at jH
   rcases jH with rfl|jH|jH
   ·exact bx hk (h.cI p hp).tg h1 rfl
   ·exact bx hk ((h.cI p hp).tP _ jH) h2 rfl
   ·exact bx hk ((h.cI p hp).tV _ jH) h3 rfl
 have n2:∀k,cl w k=some none→k≠M.br→k∉X:=fun k hk h1 hm=>by
  rcases hX k hm with rfl|⟨p,hp,jH⟩
  ·exact h1 rfl
  ·simp only[bS.fp,mem_cons,mem_append]at jH
   rcases jH with rfl|jH|jH
   ·exact bx hk (h.cI p hp).tg (by decide) rfl
   ·exact bx hk ((h.cI p hp).tP _ jH) (by decide) rfl
   ·exact bx hk ((h.cI p hp).tV _ jH) (by decide) rfl
 have hby:∀x∈({M with rs:=Ab} :ae).bytes,dj w x∧∀k∈ak x.A,k∉M.iz:=by
  intro x hx
  simp only[ae.bytes,mem_append]at hx
  have ie:x∈M.bytes→dj w x∧∀k∈ak x.A,k∉M.iz:=fun hm=>⟨h.fu x hm,h.bad x hm⟩
  rcases hx with hx|hx|hx|hx
  ·exact ie (by simp only[ae.bytes,mem_append];exact .inl hx)
  ·exact ie (by simp only[ae.bytes,mem_append];exact .inr (.inl hx))
  ·obtain⟨p,hp,hx⟩:=mem_flatMap.1 hx
   exact hb p hp x hx
  ·exact ie (by simp only[ae.bytes,mem_append];exact .inr (.inr (.inr hx)))
 refine⟨⟨h.aO.aq hu (n1 _ _ h.tg (by decide) (by decide) (by decide) (by decide)),h.kX.aq hu (n1 _ _ h.td (by decide) (by decide) (by decide) (by decide)) (fun k hk=>n1 _ _ (h.tA k hk) (by decide) (by decide) (by decide) (by decide)),
  h.rN.aq hu (n2 _ h.ts h.maps.2.1),h.iH.aq hu (n1 _ _ h.tl (by decide) (by decide) (by decide) (by decide)) (n2 _ h.tb h.maps.2.2),hm,hr,
  ⟨h.mm.1.aq hu (n1 _ _ h.tw (by decide) (by decide) (by decide) (by decide)),h.mm.2⟩,h.pv.aq hu (fun k hk=>n1 _ _ (h.tH k hk) (by decide) (by decide) (by decide) (by decide)),
  fun x hx=>(hby x hx).1.aq hu (fun k hk=>n1 _ _ ((hby x hx).1.tag k hk) (by decide) (by decide) (by decide) (by decide)),fun x hx=>(hby x hx).2,h.maps,hf,ok,fun k hk=>Nat.lt_of_lt_of_le (h.po k hk) hu.size⟩,?_⟩
 refine hu.mono (fun k hk=>?_) (fun k hk=>?_)
 ·rcases hX k hk with rfl|⟨p,hp,jH⟩
  ·simp[ae.fp]
  ·exact h.W9 hp k jH
 ·simp only[ae.fp,mem_append,mem_flatMap]at hk ⊢
  rcases hk with hk|hk|hk|⟨p,hp,hk⟩
  ·exact .inr (.inl (.inl hk))
  ·exact .inr (.inl (.inr (.inl hk)))
  ·exact .inr (.inl (.inr (.inr (.inl hk))))
  ·rcases hn p hp k hk with h1|h1
   ·exact .inr (.inr h1)
   ·exact .inr (.inl (.inr (.inr (.inr h1))))
end
