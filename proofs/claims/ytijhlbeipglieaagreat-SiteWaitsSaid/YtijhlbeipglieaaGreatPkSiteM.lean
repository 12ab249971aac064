/- Merged: SiteM, SiteN. -/
import Derived.Test.YtijhlbeipglieaaGreatPkSt
import Derived.Test.YtijhlbeipglieaaGreatPkDisk
import Derived.Test.YtijhlbeipglieaaGreatPkAlog
set_option linter.all false
namespace Agio
open Go Go.RowKit Go.Maps
def Sta.sl (x:Sta):Bsl:=⟨x.A,x.n,x.c,x.b⟩
def Sta.pl (x:Sta):Sp:=⟨x.p,x.so,x.at_,x.b⟩
structure PmV where
 f:Int
 so:Bool
 at_:Bl
 s:Bsl
def PmV.cells (x:PmV):List Value:=[.int .i64 x.f,.bool x.so,.int .i64 x.at_.r,.int .i64 x.at_.s,x.s.val]
def PmV.pl (x:PmV):Pm:=⟨x.f,x.so,x.at_,x.s.b⟩
def vtCells (x:Int × Bl):List Value:=[.int .i64 x.1,.int .i64 x.2.r,.int .i64 x.2.s]
structure RnV where
 g:Nat
 bal:Bl
 PA:Option Addr
 pc:Nat
 pr:List PmV
 so:Bool
 v:Bsl
 VA:Option Addr
 vc:Nat
 vt:List (Int × Bl)
 age:Nat
def RnV.pl (r:RnV):Rn:=⟨r.bal,r.pr.map PmV.pl,r.so,r.v.b,r.vt,r.age⟩
def RnV.ptr (r:RnV):Value:=.pointer (some ⟨r.g,0,none⟩)
def RnV.fp (r:RnV):List Nat:=r.g :: (ablk r.PA ++ ablk r.VA)
def RnV.bytes (r:RnV):List Bsl:=r.v :: r.pr.map PmV.s
end Agio
namespace Go.Proofs.YtijhlbeipglieaaGreat
open Go.RowKit Agio Go.Maps
def Mv.sl (x:Mv):Bsl:=⟨x.A,x.n,x.c,x.b⟩
structure SiteV where
 gs:Nat
 me:Nat
 n:Nat
 pat:Nat
 down:Bool
 gd:Nat
 Ad:Option Addr
 cd:Nat
 db:List UInt8
 dn:Nat
 bs:Nat
 st:AL Sta
 top:Int
 gl:Nat
 bl:Nat
 lv:AL Bsl
 taken:Nat
 br:Nat
 rs:AL RnV
 nx:Nat
 gw:Nat
 wt:List Int
 Ah:Option Addr
 ch:Nat
 held:List Mv
namespace SiteV
variable (M:SiteV)
def ptr:Value:=.pointer (some ⟨M.gs,0,none⟩)
def cells:List Value:=[.int .i64 (M.me:Int),.int .i64 (M.n:Int),.int .i64 (M.pat:Int),.bool M.down,.pointer (some ⟨M.gd,0,none⟩),.map (some M.bs),.int .i64 M.top,
 .pointer (some ⟨M.gl,0,none⟩),.map (some M.br),.int .i64 (M.nx:Int),.pointer (some ⟨M.gw,0,none⟩),.slice M.Ah M.held.length M.ch]
def pl:Site:=⟨M.me,M.n,M.pat,M.down,M.db,M.dn,mapG Sta.pl M.st,M.top,mapG Bsl.b M.lv,M.taken,mapG RnV.pl M.rs,M.nx,M.wt,M.held.map Mv.ms⟩
def bytes:List Bsl:=M.st.map (fun p=>p.2.sl) ++ (M.lv.map Prod.snd ++ (M.rs.flatMap (fun p=>p.2.bytes) ++ M.held.map Mv.sl))
def fp:List Nat:=[M.gs,M.gd,M.bs,M.gl,M.bl,M.br,M.gw] ++ (ablk M.Ad ++ (ablk M.Ah ++ M.rs.flatMap fun p=>p.2.fp))
end SiteV
structure RnS (w:World) (r:RnV):Prop where
 blk:Blk w r.g 132 #[.int .i64 r.bal.r,.int .i64 r.bal.s,.slice r.PA r.pr.length r.pc,.bool r.so,r.v.val,.slice r.VA r.vt.length r.vc,.int .i64 (r.age:Int)]
 prs:Agio.Own 340 5 w r.PA r.pr.length r.pc (r.pr.flatMap PmV.cells)
 vts:Agio.Own 343 3 w r.VA r.vt.length r.vc (r.vt.flatMap vtCells)
theorem RnS.upd {w w':World} {r:RnV} {a b:List Nat} (h:RnS w r) (hu:Upd a b w w') (hd:∀k∈r.fp,k∉a):RnS w' r:=
 ⟨h.blk.upd hu (hd _ (by simp [RnV.fp])),h.prs.upd hu (fun k hk=>hd k (by simp [RnV.fp,hk])),h.vts.upd hu (fun k hk=>hd k (by simp [RnV.fp,hk]))⟩
structure BytS (w:World) (x:Bsl):Prop where
 rd:x.rd w
 tag:∀k∈ablk x.A,tagW w k=some (some 5)
theorem BytS.upd {w w':World} {x:Bsl} {a b:List Nat} (h:BytS w x) (hu:Upd a b w w') (hd:∀k∈ablk x.A,k∉a):BytS w' x:=
 ⟨RdB.upd h.rd hu hd,fun k hk=>tag_upd hu (hd k hk) (h.tag k hk)⟩
theorem BytS.upd0 {w w':World} {x:Bsl} {b:List Nat} (h:BytS w x) (hu:Upd [] b w w'):BytS w' x:=h.upd hu (by simp)
class Ban where
 X:List Nat
def SiteV.bans [Ban] (M:SiteV):List Nat:=ablk M.Ad ++ Ban.X
theorem RnS.tg {w:World} {r:RnV} (h:RnS w r):tagW w r.g=some (some 132):=h.blk.tag
theorem RnS.tP {w:World} {r:RnV} (h:RnS w r):∀k∈ablk r.PA,tagW w k=some (some 340):=h.prs.tag
theorem RnS.tV {w:World} {r:RnV} (h:RnS w r):∀k∈ablk r.VA,tagW w k=some (some 343):=h.vts.tag
variable [Ban]
structure SiteS (w:World) (M:SiteV):Prop where
 blk:Blk w M.gs 124 M.cells.toArray
 dsk:DskS w M.gd M.Ad M.db.length M.cd M.db M.dn
 sts:MapI Tryz.prog 3 w M.bs (mapG Sta.val M.st)
 lrn:LrnS w M.gl M.bl M.lv M.taken
 rnd:MapI Tryz.prog 3 w M.br (mapG RnV.ptr M.rs)
 rds:∀p∈M.rs,RnS w p.2
 wat:WtS w M.gw M.me M.n M.pat M.wt
 hld:Agio.Own 32 10 w M.Ah M.held.length M.ch (M.held.flatMap Mv.cells)
 byt:∀x∈M.bytes,BytS w x
 bad:∀x∈M.bytes,∀k∈ablk x.A,k∉M.bans
 maps:M.bs≠M.bl∧M.bs≠M.br∧M.bl≠M.br
 far:M.rs.Pairwise fun p q=>p.2.g≠q.2.g∧(∀k∈ablk p.2.PA,k∉ablk q.2.PA)∧∀k∈ablk p.2.VA,k∉ablk q.2.VA
 ok:M.pl.Ok
 ban:∀k∈(Ban.X:List Nat),k < w.heap.size
section
variable {w w':World} {M:SiteV}
theorem SiteV.inBans {k:Nat} (h:k∈ablk M.Ad):k∈M.bans:=List.mem_append.2 (.inl h)
theorem SiteV.isBan {k:Nat} (h:k∈(Ban.X:List Nat)):k∈M.bans:=List.mem_append.2 (.inr h)
theorem SiteS.tg (h:SiteS w M):tagW w M.gs=some (some 124):=h.blk.tag
theorem SiteS.td (h:SiteS w M):tagW w M.gd=some (some 197):=h.dsk.blk.tag
theorem SiteS.tA (h:SiteS w M):∀k∈ablk M.Ad,tagW w k=some (some 5):=h.dsk.tag
theorem SiteS.ts (h:SiteS w M):tagW w M.bs=some none:=h.sts.tag
theorem SiteS.tl (h:SiteS w M):tagW w M.gl=some (some 222):=h.lrn.blk.tag
theorem SiteS.tb (h:SiteS w M):tagW w M.bl=some none:=h.lrn.map.tag
theorem SiteS.tr (h:SiteS w M):tagW w M.br=some none:=h.rnd.tag
theorem SiteS.tw (h:SiteS w M):tagW w M.gw=some (some 214):=h.wat.1.tag
theorem SiteS.tH (h:SiteS w M):∀k∈ablk M.Ah,tagW w k=some (some 32):=h.hld.tag
theorem SiteS.kinds (h:SiteS w M):∀k∈M.fp,∃t,tagW w k=some t:=by
 intro k hk
 simp only [SiteV.fp,RnV.fp,List.mem_append,List.mem_cons,List.not_mem_nil,or_false,List.mem_flatMap] at hk
 rcases hk with (rfl | rfl | rfl | rfl | rfl | rfl | rfl) | hk | hk | ⟨p,hp,rfl | hk | hk⟩
 ·exact ⟨_,h.tg⟩
 ·exact ⟨_,h.td⟩
 ·exact ⟨_,h.ts⟩
 ·exact ⟨_,h.tl⟩
 ·exact ⟨_,h.tb⟩
 ·exact ⟨_,h.tr⟩
 ·exact ⟨_,h.tw⟩
 ·exact ⟨_,h.tA k hk⟩
 ·exact ⟨_,h.tH k hk⟩
 ·exact ⟨_,(h.rds p hp).tg⟩
 ·exact ⟨_,(h.rds p hp).tP k hk⟩
 ·exact ⟨_,(h.rds p hp).tV k hk⟩
theorem SiteS.lt (h:SiteS w M):∀k∈M.fp,k < w.heap.size:=fun k hk=>by
 obtain ⟨t,ht⟩:=h.kinds k hk
 exact tag_lt ht
theorem SiteS.bansLt (h:SiteS w M):∀k∈M.bans,k < w.heap.size:=fun k hk=>by
 rcases List.mem_append.1 hk with hk | hk
 ·exact tag_lt (h.tA k hk)
 ·exact h.ban k hk
theorem SiteS.bytFar (h:SiteS w M) {x:Bsl} (hx:x∈M.bytes):∀k∈ablk x.A,k∉M.fp:=by
 intro k hk hm
 have ht:=(h.byt x hx).tag k hk
 simp only [SiteV.fp,RnV.fp,List.mem_append,List.mem_cons,List.not_mem_nil,or_false,List.mem_flatMap] at hm
 rcases hm with (rfl | rfl | rfl | rfl | rfl | rfl | rfl) | hm | hm | ⟨p,hp,rfl | hm | hm⟩
 ·exact tag_ne ht h.tg (by decide) rfl
 ·exact tag_ne ht h.td (by decide) rfl
 ·exact tag_ne ht h.ts (by decide) rfl
 ·exact tag_ne ht h.tl (by decide) rfl
 ·exact tag_ne ht h.tb (by decide) rfl
 ·exact tag_ne ht h.tr (by decide) rfl
 ·exact tag_ne ht h.tw (by decide) rfl
 ·exact h.bad x hx k hk (SiteV.inBans hm)
 ·exact tag_ne ht (h.tH k hm) (by decide) rfl
 ·exact tag_ne ht (h.rds p hp).tg (by decide) rfl
 ·exact tag_ne ht ((h.rds p hp).tP k hm) (by decide) rfl
 ·exact tag_ne ht ((h.rds p hp).tV k hm) (by decide) rfl
theorem SiteS.upd {a b:List Nat} (h:SiteS w M) (hu:Upd a b w w') (hd:∀k∈M.fp,k∉a) (hb:∀x∈M.bytes,∀k∈ablk x.A,k∉a):SiteS w' M:=by
 have hr:∀p∈M.rs,∀k∈p.2.fp,k∉a:=fun p hp k hk=>hd k (by
  simp only [SiteV.fp,List.mem_append,List.mem_flatMap];exact .inr (.inr (.inr ⟨p,hp,hk⟩)))
 exact ⟨h.blk.upd hu (hd _ (by simp [SiteV.fp])),h.dsk.upd hu (hd _ (by simp [SiteV.fp])) (fun k hk=>hd k (by simp [SiteV.fp,hk])),h.sts.upd hu (hd _ (by simp [SiteV.fp])),
  h.lrn.upd hu (hd _ (by simp [SiteV.fp])) (hd _ (by simp [SiteV.fp])),h.rnd.upd hu (hd _ (by simp [SiteV.fp])),fun p hp=>(h.rds p hp).upd hu (hr p hp),
  ⟨h.wat.1.upd hu (hd _ (by simp [SiteV.fp])),h.wat.2⟩,h.hld.upd hu (fun k hk=>hd k (by simp [SiteV.fp,hk])),fun x hx=>(h.byt x hx).upd hu (hb x hx),h.bad,h.maps,h.far,h.ok,fun k hk=>Nat.lt_of_lt_of_le (h.ban k hk) hu.size⟩
theorem SiteS.upd0 {b:List Nat} (h:SiteS w M) (hu:Upd [] b w w'):SiteS w' M:=h.upd hu (by simp) (by simp)
theorem SiteS.drew (h:SiteS w M):SiteS w.drew M:=h.upd0 (b:=[]) ((Upd.refl [] w).drew)
theorem SiteS.drewN (h:SiteS w M) (n:Nat):SiteS (w.drewN n) M:=h.upd0 (b:=[]) ((Upd.refl [] w).drewN n)
theorem SiteS.set {g:Nat} {t:TypeId} {cs:Array Value} (h:SiteS w M) (hB:Blk w g t cs) (ht:(some t:Option TypeId)≠some 5) (hg:g∉M.fp) {b:List Nat} {w':World} (hu:Upd [g] b w w'):SiteS w' M:=
 h.upd hu (fun k hk=>by simp only [List.mem_singleton];rintro rfl;exact hg hk) (fun x hx k hk=>by simp only [List.mem_singleton];exact tag_ne ((h.byt x hx).tag k hk) hB.tag ht.symm)
end
end Go.Proofs.YtijhlbeipglieaaGreat
namespace Go.Proofs.YtijhlbeipglieaaGreat
open Go.RowKit Agio Go.Maps
theorem RnS.offs {w:World} {r:RnV} (h:RnS w r) {X:List Nat} {t:Option TypeId} (hX:∀k∈X,tagW w k=some t) (h1:(some 132:Option TypeId)≠t) (h2:(some 340:Option TypeId)≠t) (h3:(some 343:Option TypeId)≠t):∀k∈r.fp,k∉X:=by
 intro k hk
 simp only [RnV.fp,List.mem_cons,List.mem_append] at hk
 rcases hk with rfl | hk | hk
 ·exact tag_off h.tg hX h1
 ·exact tag_offs h.tP hX h2 k hk
 ·exact tag_offs h.tV hX h3 k hk
variable [Ban]
section
variable {w w' w1 w2:World} {M:SiteV}
theorem SiteS.rfp (_:SiteS w M) {p:Int × RnV} (hp:p∈M.rs):∀k∈p.2.fp,k∈M.fp:=fun k hk=>by
 simp only [SiteV.fp,List.mem_append,List.mem_flatMap];exact .inr (.inr (.inr ⟨p,hp,hk⟩))
theorem SiteS.scal (h:SiteS w M) (d:Bool) (t:Int) (x:Nat) {b:List Nat} (hu:Upd [M.gs] b w w')
  (hB:Blk w' M.gs 124 ({M with down:=d,top:=t,nx:=x} :SiteV).cells.toArray) (ok:({M with down:=d,top:=t,nx:=x} :SiteV).pl.Ok):SiteS w' {M with down:=d,top:=t,nx:=x}:=by
 have hX:∀k∈[M.gs],tagW w k=some (some 124):=by simp only [List.mem_singleton];rintro k rfl;exact h.tg
 exact ⟨hB,h.dsk.upd hu (tag_off h.td hX (by decide)) (tag_offs h.tA hX (by decide)),h.sts.upd hu (tag_off h.ts hX (by decide)),
  h.lrn.upd hu (tag_off h.tl hX (by decide)) (tag_off h.tb hX (by decide)),h.rnd.upd hu (tag_off h.tr hX (by decide)),fun p hp=>(h.rds p hp).upd hu ((h.rds p hp).offs hX (by decide) (by decide) (by decide)),
  ⟨h.wat.1.upd hu (tag_off h.tw hX (by decide)),h.wat.2⟩,h.hld.upd hu (tag_offs h.tH hX (by decide)),fun y hy=>(h.byt y hy).upd hu (tag_offs (h.byt y hy).tag hX (by decide)),h.bad,h.maps,h.far,ok,fun k hk=>Nat.lt_of_lt_of_le (h.ban k hk) hu.size⟩
theorem SiteS.hold (h:SiteS w M) {A':Option Addr} {c':Nat} {l':List Mv} (hu1:Upd (ablk M.Ah) (ablk A') w w1)
  (ho:Agio.Own 32 10 w1 A' l'.length c' (l'.flatMap Mv.cells)) (hb:∀x∈l',BytS w x.sl∧∀k∈ablk x.A,k∉M.bans)
  (hu2:Upd [M.gs] [M.gs] w1 w2) (hB:Blk w2 M.gs 124 ({M with Ah:=A',ch:=c',held:=l'} :SiteV).cells.toArray) (ok:({M with Ah:=A',ch:=c',held:=l'} :SiteV).pl.Ok) :
  SiteS w2 {M with Ah:=A',ch:=c',held:=l'}∧Upd M.fp ({M with Ah:=A',ch:=c',held:=l'} :SiteV).fp w w2:=by
 have hX:∀k∈ablk M.Ah,tagW w k=some (some 32):=h.tH
 have hX1:∀k∈[M.gs],tagW w1 k=some (some 124):=by simp only [List.mem_singleton];rintro k rfl;exact tag_upd hu1 (tag_off h.tg hX (by decide)) h.tg
 have k1:∀k t,tagW w k=some t→t≠some 32→tagW w1 k=some t:=fun k t hk hne=>tag_upd hu1 (tag_off hk hX hne) hk
 have n1:∀k t,tagW w k=some t→t≠some 32→t≠some 124→k∉[M.gs]:=fun k t hk hne h2=>tag_off (k1 k t hk hne) hX1 h2
 have hr:∀p∈M.rs,RnS w2 p.2:=fun p hp=>by
  have h1:=(h.rds p hp).upd hu1 ((h.rds p hp).offs hX (by decide) (by decide) (by decide))
  exact h1.upd hu2 (h1.offs hX1 (by decide) (by decide) (by decide))
 have hy:∀x,BytS w x→BytS w2 x:=fun x hx=>by
  have h1:=hx.upd hu1 (tag_offs hx.tag hX (by decide))
  exact h1.upd hu2 (tag_offs h1.tag hX1 (by decide))
 have hby:∀x∈({M with Ah:=A',ch:=c',held:=l'} :SiteV).bytes,BytS w x∧∀k∈ablk x.A,k∉M.bans:=by
  intro x hx
  simp only [SiteV.bytes,List.mem_append] at hx
  rcases hx with hx | hx | hx | hx
  ·exact ⟨h.byt x (by simp only [SiteV.bytes,List.mem_append];exact .inl hx),h.bad x (by simp only [SiteV.bytes,List.mem_append];exact .inl hx)⟩
  ·exact ⟨h.byt x (by simp only [SiteV.bytes,List.mem_append];exact .inr (.inl hx)),h.bad x (by simp only [SiteV.bytes,List.mem_append];exact .inr (.inl hx))⟩
  ·exact ⟨h.byt x (by simp only [SiteV.bytes,List.mem_append];exact .inr (.inr (.inl hx))),h.bad x (by simp only [SiteV.bytes,List.mem_append];exact .inr (.inr (.inl hx)))⟩
  ·obtain ⟨m,hm,rfl⟩:=List.mem_map.1 hx
   exact hb m hm
 refine ⟨⟨hB,(h.dsk.upd hu1 (tag_off h.td hX (by decide)) (tag_offs h.tA hX (by decide))).upd hu2 (n1 _ _ h.td (by decide) (by decide)) (fun k hk=>n1 _ _ (h.tA k hk) (by decide) (by decide)),
  (h.sts.upd hu1 (tag_off h.ts hX (by decide))).upd hu2 (n1 _ _ h.ts (by decide) (by decide)),
  (h.lrn.upd hu1 (tag_off h.tl hX (by decide)) (tag_off h.tb hX (by decide))).upd hu2 (n1 _ _ h.tl (by decide) (by decide)) (n1 _ _ h.tb (by decide) (by decide)),
  (h.rnd.upd hu1 (tag_off h.tr hX (by decide))).upd hu2 (n1 _ _ h.tr (by decide) (by decide)),hr,
  ⟨(h.wat.1.upd hu1 (tag_off h.tw hX (by decide))).upd hu2 (n1 _ _ h.tw (by decide) (by decide)),h.wat.2⟩,ho.upd hu2 (tag_offs ho.tag hX1 (by decide)),fun x hx=>hy x (hby x hx).1,fun x hx=>(hby x hx).2,h.maps,h.far,ok,fun k hk=>Nat.lt_of_lt_of_le (h.ban k hk) (Nat.le_trans hu1.size hu2.size)⟩,?_⟩
 refine (hu1.mono (a':=M.fp) (b':=({M with Ah:=A',ch:=c',held:=l'} :SiteV).fp) (fun k hk=>by simp [SiteV.fp,hk]) ?_).trans (hu2.mono (a':=({M with Ah:=A',ch:=c',held:=l'} :SiteV).fp) (b':=({M with Ah:=A',ch:=c',held:=l'} :SiteV).fp) (fun k hk=>?_) (fun k hk=>.inr (.inl hk)))
 ·intro k hk
  simp only [SiteV.fp,List.mem_append] at hk ⊢
  rcases hk with hk | hk | hk | hk
  ·exact .inr (.inl (.inl hk))
  ·exact .inr (.inl (.inr (.inl hk)))
  ·exact .inl hk
  ·exact .inr (.inl (.inr (.inr (.inr hk))))
 ·simp only [List.mem_singleton] at hk
  subst hk
  simp [SiteV.fp]
theorem SiteS.disk (h:SiteS w M) {A':Option Addr} {c':Nat} {db':List UInt8} {dn':Nat} (hu:Upd (M.gd :: ablk M.Ad) (M.gd :: ablk A') w w') (hd:DskS w' M.gd A' db'.length c' db' dn')
  (ok:({M with Ad:=A',cd:=c',db:=db',dn:=dn'} :SiteV).pl.Ok) :
  SiteS w' {M with Ad:=A',cd:=c',db:=db',dn:=dn'}∧Upd M.fp ({M with Ad:=A',cd:=c',db:=db',dn:=dn'} :SiteV).fp w w':=by
 have n1:∀k t,tagW w k=some t→t≠some 197→t≠some 5→k∉M.gd :: ablk M.Ad:=fun k t hk h1 h2=>by
  rw [List.mem_cons];rintro (rfl | hm)
  ·exact tag_ne hk h.td h1 rfl
  ·exact tag_off hk h.tA h2 hm
 have hb:∀x∈M.bytes,∀k∈ablk x.A,k∉M.gd :: ablk M.Ad:=fun x hx k hk=>by
  rw [List.mem_cons];rintro (rfl | hm)
  ·exact tag_ne ((h.byt x hx).tag _ hk) h.td (by decide) rfl
  ·exact h.bad x hx k hk (SiteV.inBans hm)
 refine ⟨⟨h.blk.upd hu (n1 _ _ h.tg (by decide) (by decide)),hd,h.sts.upd hu (n1 _ _ h.ts (by decide) (by decide)),h.lrn.upd hu (n1 _ _ h.tl (by decide) (by decide)) (n1 _ _ h.tb (by decide) (by decide)),
  h.rnd.upd hu (n1 _ _ h.tr (by decide) (by decide)),fun p hp=>(h.rds p hp).upd hu (fun k hk=>?_),⟨h.wat.1.upd hu (n1 _ _ h.tw (by decide) (by decide)),h.wat.2⟩,
  h.hld.upd hu (fun k hk=>n1 _ _ (h.tH k hk) (by decide) (by decide)),fun x hx=>(h.byt x hx).upd hu (hb x hx),fun x hx k hk hm=>?_,h.maps,h.far,ok,fun k hk=>Nat.lt_of_lt_of_le (h.ban k hk) hu.size⟩,?_⟩
 ·simp only [RnV.fp,List.mem_cons,List.mem_append] at hk
  rcases hk with rfl | hk | hk
  ·exact n1 _ _ (h.rds p hp).tg (by decide) (by decide)
  ·exact n1 _ _ ((h.rds p hp).tP k hk) (by decide) (by decide)
  ·exact n1 _ _ ((h.rds p hp).tV k hk) (by decide) (by decide)
 ·rcases List.mem_append.1 hm with hm | hm
  ·rcases hu.fresh k (List.mem_cons_of_mem _ hm) with h1 | h1
   ·exact hb x hx k hk h1
   ·have:=tag_lt ((h.byt x hx).tag k hk);omega
  ·exact h.bad x hx k hk (SiteV.isBan hm)
 ·refine hu.mono (fun k hk=>?_) (fun k hk=>?_)
  ·rcases List.mem_cons.1 hk with rfl | hk
   ·simp [SiteV.fp]
   ·simp [SiteV.fp,hk]
  ·simp only [SiteV.fp,List.mem_append] at hk ⊢
   rcases hk with hk | hk | hk | hk
   ·exact .inr (.inl (.inl hk))
   ·exact .inl (List.mem_cons_of_mem _ hk)
   ·exact .inr (.inl (.inr (.inr (.inl hk))))
   ·exact .inr (.inl (.inr (.inr (.inr hk))))
theorem SiteS.stats (h:SiteS w M) {st':AL Sta} {b:List Nat} (hu:Upd [M.bs] b w w') (hm:MapI Tryz.prog 3 w' M.bs (mapG Sta.val st')) (hb:∀p∈st',BytS w p.2.sl∧∀k∈ablk p.2.A,k∉M.bans)
  (ok:({M with st:=st'} :SiteV).pl.Ok):SiteS w' {M with st:=st'}∧Upd M.fp M.fp w w':=by
 have hX:∀k∈[M.bs],tagW w k=some none:=by simp only [List.mem_singleton];rintro k rfl;exact h.ts
 have hby:∀x∈({M with st:=st'} :SiteV).bytes,BytS w x∧∀k∈ablk x.A,k∉M.bans:=by
  intro x hx
  simp only [SiteV.bytes,List.mem_append] at hx
  rcases hx with hx | hx
  ·obtain ⟨p,hp,rfl⟩:=List.mem_map.1 hx
   exact hb p hp
  ·have:x∈M.bytes:=by simp only [SiteV.bytes,List.mem_append];exact .inr hx
   exact ⟨h.byt x this,h.bad x this⟩
 refine ⟨⟨h.blk.upd hu (tag_off h.tg hX (by decide)),h.dsk.upd hu (tag_off h.td hX (by decide)) (tag_offs h.tA hX (by decide)),hm,
  h.lrn.upd hu (tag_off h.tl hX (by decide)) (by simp only [List.mem_singleton];exact h.maps.1.symm),h.rnd.upd hu (by simp only [List.mem_singleton];exact h.maps.2.1.symm),fun p hp=>(h.rds p hp).upd hu ((h.rds p hp).offs hX (by decide) (by decide) (by decide)),
  ⟨h.wat.1.upd hu (tag_off h.tw hX (by decide)),h.wat.2⟩,h.hld.upd hu (tag_offs h.tH hX (by decide)),fun x hx=>(hby x hx).1.upd hu (tag_offs (hby x hx).1.tag hX (by decide)),fun x hx=>(hby x hx).2,h.maps,h.far,ok,fun k hk=>Nat.lt_of_lt_of_le (h.ban k hk) hu.size⟩,?_⟩
 exact hu.mono (fun k hk=>by simp only [List.mem_singleton] at hk;subst hk;simp [SiteV.fp]) (fun k hk=>.inr (.inl hk))
theorem SiteS.learns (h:SiteS w M) {lv':AL Bsl} {t':Nat} {X b:List Nat} (hu:Upd X b w w') (hX:∀k∈X,k=M.gl∨k=M.bl) (hl:LrnS w' M.gl M.bl lv' t') (hb:∀p∈lv',BytS w' p.2∧∀k∈ablk p.2.A,k∉M.bans)
  (ok:({M with lv:=lv',taken:=t'} :SiteV).pl.Ok):SiteS w' {M with lv:=lv',taken:=t'}∧Upd M.fp M.fp w w':=by
 have n1:∀k t,tagW w k=some t→t≠some 222→t≠none→k∉X:=fun k t hk h1 h2 hm=>by
  rcases hX k hm with rfl | rfl
  ·exact tag_ne hk h.tl h1 rfl
  ·exact tag_ne hk h.tb h2 rfl
 have n2:∀k,tagW w k=some none→k≠M.bl→k∉X:=fun k hk h1 hm=>by
  rcases hX k hm with rfl | rfl
  ·exact tag_ne hk h.tl (by decide) rfl
  ·exact h1 rfl
 have hby:∀x∈({M with lv:=lv',taken:=t'} :SiteV).bytes,BytS w' x∧∀k∈ablk x.A,k∉M.bans:=by
  intro x hx
  simp only [SiteV.bytes,List.mem_append] at hx
  have old:x∈M.bytes→BytS w' x∧∀k∈ablk x.A,k∉M.bans:=fun hm=>⟨(h.byt x hm).upd hu (fun k hk=>n1 _ _ ((h.byt x hm).tag k hk) (by decide) (by decide)),h.bad x hm⟩
  rcases hx with hx | hx | hx | hx
  ·exact old (by simp only [SiteV.bytes,List.mem_append];exact .inl hx)
  ·obtain ⟨p,hp,rfl⟩:=List.mem_map.1 hx
   exact hb p hp
  ·exact old (by simp only [SiteV.bytes,List.mem_append];exact .inr (.inr (.inl hx)))
  ·exact old (by simp only [SiteV.bytes,List.mem_append];exact .inr (.inr (.inr hx)))
 refine ⟨⟨h.blk.upd hu (n1 _ _ h.tg (by decide) (by decide)),h.dsk.upd hu (n1 _ _ h.td (by decide) (by decide)) (fun k hk=>n1 _ _ (h.tA k hk) (by decide) (by decide)),h.sts.upd hu (n2 _ h.ts h.maps.1),hl,
  h.rnd.upd hu (n2 _ h.tr h.maps.2.2.symm),fun p hp=>(h.rds p hp).upd hu (fun k hk=>?_),⟨h.wat.1.upd hu (n1 _ _ h.tw (by decide) (by decide)),h.wat.2⟩,h.hld.upd hu (fun k hk=>n1 _ _ (h.tH k hk) (by decide) (by decide)),
  fun x hx=>(hby x hx).1,fun x hx=>(hby x hx).2,h.maps,h.far,ok,fun k hk=>Nat.lt_of_lt_of_le (h.ban k hk) hu.size⟩,?_⟩
 ·simp only [RnV.fp,List.mem_cons,List.mem_append] at hk
  rcases hk with rfl | hk | hk
  ·exact n1 _ _ (h.rds p hp).tg (by decide) (by decide)
  ·exact n1 _ _ ((h.rds p hp).tP k hk) (by decide) (by decide)
  ·exact n1 _ _ ((h.rds p hp).tV k hk) (by decide) (by decide)
 ·exact hu.mono (fun k hk=>by rcases hX k hk with rfl | rfl <;> simp [SiteV.fp]) (fun k hk=>.inr (.inl hk))
theorem SiteS.watch (h:SiteS w M) {l':List Int} {b:List Nat} (hu:Upd [M.gw] b w w') (hw:WtS w' M.gw M.me M.n M.pat l'):SiteS w' {M with wt:=l'}∧Upd M.fp M.fp w w':=by
 have hX:∀k∈[M.gw],tagW w k=some (some 214):=by simp only [List.mem_singleton];rintro k rfl;exact h.tw
 refine ⟨⟨h.blk.upd hu (tag_off h.tg hX (by decide)),h.dsk.upd hu (tag_off h.td hX (by decide)) (tag_offs h.tA hX (by decide)),h.sts.upd hu (tag_off h.ts hX (by decide)),
  h.lrn.upd hu (tag_off h.tl hX (by decide)) (tag_off h.tb hX (by decide)),h.rnd.upd hu (tag_off h.tr hX (by decide)),fun p hp=>(h.rds p hp).upd hu ((h.rds p hp).offs hX (by decide) (by decide) (by decide)),hw,
  h.hld.upd hu (tag_offs h.tH hX (by decide)),fun y hy=>(h.byt y hy).upd hu (tag_offs (h.byt y hy).tag hX (by decide)),h.bad,h.maps,h.far,⟨h.ok.me,h.ok.n3,h.ok.n7,h.ok.pat,h.ok.st,h.ok.rs,h.ok.top,h.ok.nx,h.ok.held⟩,fun k hk=>Nat.lt_of_lt_of_le (h.ban k hk) hu.size⟩,?_⟩
 exact hu.mono (fun k hk=>by simp only [List.mem_singleton] at hk;subst hk;simp [SiteV.fp]) (fun k hk=>.inr (.inl hk))
theorem SiteS.rounds (h:SiteS w M) {rs':AL RnV} {X b:List Nat} (hu:Upd X b w w') (hX:∀k∈X,k=M.br∨∃p∈M.rs,k∈p.2.fp) (hm:MapI Tryz.prog 3 w' M.br (mapG RnV.ptr rs')) (hr:∀p∈rs',RnS w' p.2)
  (hn:∀p∈rs',∀k∈p.2.fp,w.heap.size≤k∨∃p∈M.rs,k∈p.2.fp)
  (hf:rs'.Pairwise fun p q=>p.2.g≠q.2.g∧(∀k∈ablk p.2.PA,k∉ablk q.2.PA)∧∀k∈ablk p.2.VA,k∉ablk q.2.VA)
  (hb:∀p∈rs',∀x∈p.2.bytes,BytS w x∧∀k∈ablk x.A,k∉M.bans) (ok:({M with rs:=rs'} :SiteV).pl.Ok) :
  SiteS w' {M with rs:=rs'}∧Upd M.fp ({M with rs:=rs'} :SiteV).fp w w':=by
 have n1:∀k t,tagW w k=some t→t≠none→t≠some 132→t≠some 340→t≠some 343→k∉X:=fun k t hk h0 h1 h2 h3 hm=>by
  rcases hX k hm with rfl | ⟨p,hp,hkp⟩
  ·exact tag_ne hk h.tr h0 rfl
  ·simp only [RnV.fp,List.mem_cons,List.mem_append] at hkp
   rcases hkp with rfl | hkp | hkp
   ·exact tag_ne hk (h.rds p hp).tg h1 rfl
   ·exact tag_ne hk ((h.rds p hp).tP _ hkp) h2 rfl
   ·exact tag_ne hk ((h.rds p hp).tV _ hkp) h3 rfl
 have n2:∀k,tagW w k=some none→k≠M.br→k∉X:=fun k hk h1 hm=>by
  rcases hX k hm with rfl | ⟨p,hp,hkp⟩
  ·exact h1 rfl
  ·simp only [RnV.fp,List.mem_cons,List.mem_append] at hkp
   rcases hkp with rfl | hkp | hkp
   ·exact tag_ne hk (h.rds p hp).tg (by decide) rfl
   ·exact tag_ne hk ((h.rds p hp).tP _ hkp) (by decide) rfl
   ·exact tag_ne hk ((h.rds p hp).tV _ hkp) (by decide) rfl
 have hby:∀x∈({M with rs:=rs'} :SiteV).bytes,BytS w x∧∀k∈ablk x.A,k∉M.bans:=by
  intro x hx
  simp only [SiteV.bytes,List.mem_append] at hx
  have old:x∈M.bytes→BytS w x∧∀k∈ablk x.A,k∉M.bans:=fun hm=>⟨h.byt x hm,h.bad x hm⟩
  rcases hx with hx | hx | hx | hx
  ·exact old (by simp only [SiteV.bytes,List.mem_append];exact .inl hx)
  ·exact old (by simp only [SiteV.bytes,List.mem_append];exact .inr (.inl hx))
  ·obtain ⟨p,hp,hx⟩:=List.mem_flatMap.1 hx
   exact hb p hp x hx
  ·exact old (by simp only [SiteV.bytes,List.mem_append];exact .inr (.inr (.inr hx)))
 refine ⟨⟨h.blk.upd hu (n1 _ _ h.tg (by decide) (by decide) (by decide) (by decide)),h.dsk.upd hu (n1 _ _ h.td (by decide) (by decide) (by decide) (by decide)) (fun k hk=>n1 _ _ (h.tA k hk) (by decide) (by decide) (by decide) (by decide)),
  h.sts.upd hu (n2 _ h.ts h.maps.2.1),h.lrn.upd hu (n1 _ _ h.tl (by decide) (by decide) (by decide) (by decide)) (n2 _ h.tb h.maps.2.2),hm,hr,
  ⟨h.wat.1.upd hu (n1 _ _ h.tw (by decide) (by decide) (by decide) (by decide)),h.wat.2⟩,h.hld.upd hu (fun k hk=>n1 _ _ (h.tH k hk) (by decide) (by decide) (by decide) (by decide)),
  fun x hx=>(hby x hx).1.upd hu (fun k hk=>n1 _ _ ((hby x hx).1.tag k hk) (by decide) (by decide) (by decide) (by decide)),fun x hx=>(hby x hx).2,h.maps,hf,ok,fun k hk=>Nat.lt_of_lt_of_le (h.ban k hk) hu.size⟩,?_⟩
 refine hu.mono (fun k hk=>?_) (fun k hk=>?_)
 ·rcases hX k hk with rfl | ⟨p,hp,hkp⟩
  ·simp [SiteV.fp]
  ·exact h.rfp hp k hkp
 ·simp only [SiteV.fp,List.mem_append,List.mem_flatMap] at hk ⊢
  rcases hk with hk | hk | hk | ⟨p,hp,hk⟩
  ·exact .inr (.inl (.inl hk))
  ·exact .inr (.inl (.inr (.inl hk)))
  ·exact .inr (.inl (.inr (.inr (.inl hk))))
  ·rcases hn p hp k hk with h1 | h1
   ·exact .inr (.inr h1)
   ·exact .inr (.inl (.inr (.inr (.inr h1))))
end
end Go.Proofs.YtijhlbeipglieaaGreat
