/- For SitePlays. -/
import Derived.Test.YtijhlbeipglieaaGreatPkLaw
import Derived.Test.YtijhlbeipglieaaGreatRef23B
import Derived.Test.YtijhlbeipglieaaGreatRef23C
import Derived.Test.YtijhlbeipglieaaGreatRef23D
set_option linter.all false
set_option maxRecDepth 100000
set_option maxHeartbeats 32000000
namespace aA
open Go Go.Proofs.YtijhlbeipglieaaGreat List
namespace Site
noncomputable def deed (s:Site) (k n:Int) (v:List UInt8) (m:Ms):Site:=if 0≤k∧k≤5 then(s.act k n v m).1 else s.takes.1
end Site
theorem Inv.takes{s:Site}{told:List Ms}{c:Nat}(h:Inv s told c):Inv s.takes.1 told c:=by
 obtain⟨h0,S,h1,h2⟩:=h
 refine⟨h0,S,h1,h2.imp (fun⟨R,z,h3,h4⟩=>⟨R,z,?_,h4⟩) fun h3=>?_⟩
 ·exact⟨⟨h3.ok.me,h3.ok.n3,h3.ok.n7,h3.ok.pat,h3.ok.st,h3.ok.rs,h3.ok.top,h3.ok.nx,h3.ok.held⟩,h3.down,h3.pre,h3.good,h3.dn,h3.held⟩
 ·exact⟨⟨h3.ok.me,h3.ok.n3,h3.ok.n7,h3.ok.pat,h3.ok.st,h3.ok.rs,h3.ok.top,h3.ok.nx,h3.ok.held⟩,h3.up,h3.may,h3.db,h3.good,h3.pre,h3.dn,h3.st,h3.held,h3.bV,h3.lim,h3.mh,h3.wt,h3.lv⟩
theorem Inv.deed{s:Site}{told:List Ms}{c:Nat}(h:Inv s told (c+1))(k n:Int)(v:List UInt8)(m:Ms):∃ai5,Inv (s.deed k n v m) ai5 c:=by
 unfold Site.deed
 split
 ·exact⟨_,h.act k n v m⟩
 ·exact⟨told,(h.less (by omega)).takes⟩
theorem Inv.small{s:Site}{told:List Ms}{c:Nat}(h:Inv s told c):s.down=false→s.Small:=fun hd=>by
 obtain⟨S,R,z,h1,-⟩:=h.up hd
 exact h1.small
theorem Inv.lean{s:Site}{told:List Ms}{c:Nat}(h:Inv s told c):s.down=false→s.Fit∧s.GH:=fun hd=>by
 obtain⟨S,R,z,h1,-⟩:=h.up hd
 exact⟨h1.fit,(h1.qt ⟨0,0,0,0,0,0,0,0,false,[]⟩).2⟩
theorem Site.dH.deed{s:Site}(h:s.dH)(k n:Int)(v:List UInt8)(m:Ms):(s.deed k n v m).dH:=by
 unfold Site.deed
 split
 ·exact h.act k n v m
 ·exact h
open Go.RowKit
theorem jk{P:Program}{fn:Func}{tmps:Array Value}{s u:Nat}{t tt:TypeId}{G:Nat}{w:World}{i:TypeInfo}(hf:fn.results=#[.tmp u,.cell s t])(hs:tmps.getD s undef=.pointer (some ⟨G,0,none⟩))(hi:P.info? t=some i)(hagg:∀w,(isAgg t).run P w=.ok true w)(vs:List Value)(hsz:i.size=vs.length)(hB:ak w G tt vs.toArray) :
  (results fn tmps).run P w=.ok (.tuple #[tmps.getD u undef,.agg vs.toArray]) w:=by
 have h1:=lL hi hagg vs hsz hB
 unfold results
 rw[hf]
 rw[Array.getD_eq_getD_getElem?]at hs
 simp[asAddr,hs,h1]
end aA
namespace Go.Proofs.YtijhlbeipglieaaGreat
open Go.RowKit aA Go.Maps Go.Proofs.Tryz List
theorem Sk{w:World}{J:Nat}{d:Dt}(h:ak w J 34 d.cells.toArray):w.cell? ⟨J,3,none⟩=some (.int .i64 d.m.k)∧w.cell? ⟨J,4,none⟩=some (.int .i64 d.m.f)∧w.cell? ⟨J,5,none⟩=some (.int .i64 d.m.t)∧w.cell? ⟨J,6,none⟩=some (.int .i64 d.m.s)∧w.cell? ⟨J,7,none⟩=some (.int .i64 d.m.br)∧
  w.cell? ⟨J,8,none⟩=some (.int .i64 d.m.bs)∧w.cell? ⟨J,9,none⟩=some (.int .i64 d.m.hr)∧w.cell? ⟨J,10,none⟩=some (.int .i64 d.m.hs)∧w.cell? ⟨J,11,none⟩=some (.bool d.m.so)∧w.cell? ⟨J,12,none⟩=some (.slice d.m.A d.m.n d.m.c):=
 ⟨h.cell 3,h.cell 4,h.cell 5,h.cell 6,h.cell 7,h.cell 8,h.cell 9,h.cell 10,h.cell 11,h.cell 12⟩
variable [eU]
theorem VT(X:List Nat)(w:World)(M:af)(hS:ay w M)(r:ai)(hR:Ref (M.fp++X) w r M.pl)(hX:∀k∈X,k<w.heap.size)(d:Dt)(hr:Dt.o7 w d)(hf:0<d.m.n→∀k∈ah d.m.A,k∉M.fp)(hbX:∀k∈dV d.A d.l,k∉M.fp++X)(zU:∀k∈dV d.m.A d.m.n,k∉M.fp++X)(hk: -9223372036854775808≤d.n∧d.n<9223372036854775808){told:List Ms}{c:Nat}(hI:Inv M.pl told (c+1))(hO:M.pl.dH) :
  Calls prog 31 #[M.ptr,r.val,d.val] w fun e w'=>∃M' r',e=.returned (.tuple #[.bool true,.agg (ai.cells r').toArray])∧ay w' M'∧M'.pl=M.pl.deed d.k d.n d.b d.m.ms∧M'.gs=M.gs∧Ref (M'.fp++X) w' r' M'.pl∧aa M.fp M'.fp w w':=by
 obtain⟨ii,hii,abx⟩:=fP
 obtain⟨W,H,eW,hH,hB,U0⟩:=az w 63 r.cells.toArray
 obtain⟨W1,J,nK,hJ,fT,U1⟩:=az W 34 #[.int .i64 d.k,.int .i64 d.n,.slice d.A d.l d.c,.int .i64 d.m.k,.int .i64 d.m.f,.int .i64 d.m.t,.int .i64 d.m.s,.int .i64 d.m.br,.int .i64 d.m.bs,.int .i64 d.m.hr,.int .i64 d.m.hs,.bool d.m.so,.slice d.m.A d.m.n d.m.c]
 obtain⟨W2,G,fu,hG,hG2,U2⟩:=az W1 63 cz
 have hB2:=(hB.upd U1).upd U2
 have hJ2:=fT.upd U2
 have aK:aa [] [] w W2:=(U0.g0.trans U1.g0).trans U2.g0
 have hs0:=U0.size
 have hs1:=U1.size
 have hfl:=hS.lt
 have ik:H∉M.fp:=fun hm=>by have:=hfl H hm;omega
 have GQ:J∉M.fp:=fun hm=>by have:=hfl J hm;omega
 have rH:G∉M.fp:=fun hm=>by have:=hfl G hm;omega
 have aR:∀k∈[G],w.heap.size≤k:=ge1
 have mid:∀k∈M.fp++([G]++X),k∈[G]++(M.fp++X):=fun k hk=>by
  rcases mem_append.1 hk with hk|hk
  ·exact mem_append.2 (.inr (mem_append.2 (.inl hk)))
  rcases mem_append.1 hk with hk|hk
  ·exact mem_append.2 (.inl hk)
  ·exact mem_append.2 (.inr (mem_append.2 (.inr hk)))
 have hS2:=hS.au aK
 have hR2:Ref (M.fp++([G]++X)) W2 r M.pl:=((hR.more aR).grow aK).less mid
 have hb2:dU (M.fp++([G]++X)) W2 d.A d.l d.b:=(((dU.mk hr.v hbX).more aR).grow aK).less mid
 have hm2:dU (M.fp++([G]++X)) W2 d.m.A d.m.n d.m.b:=(((dU.mk hr.m zU).more aR).grow aK).less mid
 have hX2:∀k∈[G]++X,k<W2.heap.size:=fun k hk=>by
  rcases mem_append.1 hk with hk|hk
  ·have:=hG2.lt;simp only[mem_singleton]at hk;omega
  ·have:=hX k hk;have:=aK.size;omega
 have VU:M.held.length≤400000000:=by rw[←af.bf];exact hI.jT
 have Yw:M.pl.held.length≤400000000:=hI.jT
 have q0:W2.cell? ⟨J,0,none⟩=some (.int .i64 d.k):=hJ2.cell 0
 have q1:W2.cell? ⟨J,1,none⟩=some (.int .i64 d.n):=hJ2.cell 1
 have q2:W2.cell? ⟨J,2,none⟩=some (.slice d.A d.l d.c):=hJ2.cell 2
 have q3:W2.cell? ⟨J,3,none⟩=some (.int .i64 d.m.k):=hJ2.cell 3
 have q4:W2.cell? ⟨J,4,none⟩=some (.int .i64 d.m.f):=hJ2.cell 4
 have q5:W2.cell? ⟨J,5,none⟩=some (.int .i64 d.m.t):=hJ2.cell 5
 have q6:W2.cell? ⟨J,6,none⟩=some (.int .i64 d.m.s):=hJ2.cell 6
 have q7:W2.cell? ⟨J,7,none⟩=some (.int .i64 d.m.br):=hJ2.cell 7
 have q8:W2.cell? ⟨J,8,none⟩=some (.int .i64 d.m.bs):=hJ2.cell 8
 have q9:W2.cell? ⟨J,9,none⟩=some (.int .i64 d.m.hr):=hJ2.cell 9
 have Eu:W2.cell? ⟨J,10,none⟩=some (.int .i64 d.m.hs):=hJ2.cell 10
 have BR:W2.cell? ⟨J,11,none⟩=some (.bool d.m.so):=hJ2.cell 11
 have Yx:W2.cell? ⟨J,12,none⟩=some (.slice d.m.A d.m.n d.m.c):=hJ2.cell 12
 rw[ai.arr,Dt.aH]
 by_cases k0:d.k=0
 ·have d0:(d.k==0)=true:=by simpa using k0
  have C:=BS W2 M hS2 d.A d.l d.c d.b hb2.rd (by have:=hr.len;omega) (by omega)
  have yt:M.pl.held.length≤600000000:=by omega
  obtain⟨F2,hF2⟩:=ex1 ((M.pl.cZ d.b).2.1)
  obtain⟨F3,yu⟩:=ex1 ((M.pl.cZ d.b).2.2)
  rw[hF2,yu]at C
  rw[show M.pl.deed d.k d.n d.b d.m.ms=(M.pl.cZ d.b).1 by unfold Site.deed Site.act;rw[if_pos (by omega),if_pos k0]]
  rw[af.ptr]at C ⊢
  have t2:(F2==F2)=true:=by simp
  have t3:(F3==F3)=true:=by simp
  clear hS hR hr hf hbX zU hI k0
  go_enter func31,ntmps31
  repeat' go_step
  refine C.mono ?_;rintro e w1 ⟨rfl,M1,h1,hp1,hg1,V1⟩
  have hH1:=hB2.upd V1 ik
  have zV:=hJ2.upd V1 GQ
  have qh:=hG2.upd V1 rH
  have kR:=hR2.swap V1
  have kb:=hb2.swap V1
  have km:=hm2.swap V1
  have hX1:∀k∈(M1.fp++([G]++X)),k<w1.heap.size:=fun k hk=>by
   rcases mem_append.1 hk with hk|hk
   ·exact h1.lt k hk
   ·have:=hX2 k hk;have:=V1.size;omega
  have hG1:G∉M1.fp:=V1.eQ rH hG2.lt
  have vV:∀k∈[G],k∈(M1.fp++([G]++X)):=by simp
  have adJ:∀k∈M1.fp++X,k∈(M1.fp++([G]++X)):=fun k hk=>by
   rcases mem_append.1 hk with hk|hk
   ·exact mem_append.2 (.inl hk)
   ·exact mem_append.2 (.inr (mem_append.2 (.inr hk)))
  have V2:=(aK.up M.fp).trans V1
  have HP:=hdn hp1
  have vW:=hdn hp1
  clear hp1
  have C2:=Ph (M1.fp++([G]++X)) w1 r M.pl kR hX1 d.A d.l d.c d.b kb yt
  rw[hF2,yu,ai.arr]at C2
  have j2:w1.cell? ⟨J,2,none⟩=some (.slice d.A d.l d.c):=zV.cell 2
  have p4:=hH1
  repeat' (fail_if_success with_reducible refine ek (t:=63) rfl ?_);first|go_step|simp only[];go_at_K
  refine bF hii hH1 abx ?_
  repeat' go_step
  refine C2.mono ?_;rintro e w3 ⟨v,rfl,r2,rfl,n3,u3⟩
  clear C2 kR kb km hH1
  have hG3:=qh.upd u3
  have h3:=h1.au u3
  have V3:=V2.trans (u3.up M1.fp)
  clear j2
  have kj:=zV.upd u3
  obtain⟨W5,T,Ev,hT,nk,U5⟩:=az w3 63 cz
  have u5:=U5.g0
  rw[ai.arr]
  refine bK ?_
  refine bL r2.cells hii abx nk ?_
  intro Wz oN u6
  have u36:aa [] [] w3 Wz:=u5.aB (by simp only[mem_singleton];rintro k rfl;omega) u6
  have iF:=hG3.upd u36
  have nz:=n3.grow u36
  have h1:=h3.au u36
  have VZ:=V3.trans (u36.up M1.fp)
  have rJ:T∉[G]:=by have:=hG3.lt;simp only[mem_singleton];omega
  have LT:∀w',aa [G] [G] Wz w'→ak w' T 63 r2.cells.toArray:=fun w' u=>oN.upd u rJ
  repeat' go_step
  refine wp_region_held_drew (S:=fun w'=>aa [G] [G] Wz w') (by kernel_rfl) (aa.refl [G] Wz).drew fun _=>?_
  refine aF 0 ?_
  refine aF 1 ?_
  refine aF 2 ?_
  refine aF 3 ?_
  refine aF 4 ?_
  refine aF 5 ?_
  refine aF 6 ?_
  refine aF 7 ?_
  refine mi 8 hii (r2).cells abx LT ?_
  refine aF 9 ?_
  refine aW 10 (fun K hK=>?_)
  refine cu rfl _ _ 63 rfl hii rfl r2.cells rfl abx iF.drew rfl rfl ?_
  intro We qP ue
  have UE:aa [G] [G] Wz We:=(‹aa [G] [G] Wz _›).trans ue
  refine aP hK (UE) fun _=>?_
  clear hK K
  refine dnH ?_ _
  refine wk ?_
  exact bodyPost_ret (jk (s:=7) (u:=6) (t:=63) (by rw[results31]) rfl hii (fun _=>rfl) r2.cells abx qP) rfl ⟨M1,r2,rfl,(h1.set iF (by decide) hG1 UE),HP.out,hg1,by rw[vW.out];exact(nz.upd UE vV).less adJ,VZ.aB aR UE⟩
 have d0:(d.k==0)=false:=by simpa using k0
 by_cases k1:d.k=1
 ·have d1:(d.k==1)=true:=by simpa using k1
  have C:=zW Qt takeC W2 M hS2 d.m hm2.rd hf (fun _ hd _=>by
   obtain⟨S,R',z,h2,-⟩:=hI.up (show M.pl.down=false from hd)
   obtain⟨q1,q2⟩:=h2.qt d.m.ms
   exact⟨q1,q2⟩)
  have yt:M.pl.held.length≤500000000:=by omega
  obtain⟨F3,yu⟩:=ex1 ((M.pl.handle d.m.ms).2)
  rw[yu]at C
  rw[show M.pl.deed d.k d.n d.b d.m.ms=(M.pl.handle d.m.ms).1 by unfold Site.deed Site.act;rw[if_pos (by omega),if_neg k0,if_pos k1]]
  rw[af.ptr]at C ⊢
  rw[Mv.aH]at C
  have hsl:M.pl.down=false→M.pl.Small∧M.pl.Fit∧M.pl.GH:=fun hd=>⟨hI.small hd,(hI.lean hd).1,(hI.lean hd).2⟩
  have t3:(F3==F3)=true:=by simp
  clear hS hR hr hf hbX zU hI k0 k1
  go_enter func31,ntmps31
  repeat' go_step
  refine C.mono ?_;rintro e w1 ⟨rfl,M1,h1,hp1,hg1,V1⟩
  have hH1:=hB2.upd V1 ik
  have zV:=hJ2.upd V1 GQ
  have qh:=hG2.upd V1 rH
  have kR:=hR2.swap V1
  have kb:=hb2.swap V1
  have km:=hm2.swap V1
  have hX1:∀k∈(M1.fp++([G]++X)),k<w1.heap.size:=fun k hk=>by
   rcases mem_append.1 hk with hk|hk
   ·exact h1.lt k hk
   ·have:=hX2 k hk;have:=V1.size;omega
  have hG1:G∉M1.fp:=V1.eQ rH hG2.lt
  have vV:∀k∈[G],k∈(M1.fp++([G]++X)):=by simp
  have adJ:∀k∈M1.fp++X,k∈(M1.fp++([G]++X)):=fun k hk=>by
   rcases mem_append.1 hk with hk|hk
   ·exact mem_append.2 (.inl hk)
   ·exact mem_append.2 (.inr (mem_append.2 (.inr hk)))
  have V2:=(aK.up M.fp).trans V1
  have HP:=hdn hp1
  have vW:=hdn hp1
  clear hp1
  have C2:=Nw (M1.fp++([G]++X)) w1 r M.pl kR hX1 d.m km yt hsl
  rw[yu,ai.arr,Mv.aH]at C2
  obtain⟨j3,j4,j5,j6,j7,j8,j9,j10,j11,j12⟩:=Sk zV
  have p4:=hH1
  repeat' (fail_if_success with_reducible refine ek (t:=63) rfl ?_);first|go_step|simp only[];go_at_K
  refine bF hii hH1 abx ?_
  repeat' go_step
  refine C2.mono ?_;rintro e w3 ⟨v,rfl,r2,rfl,n3,u3⟩
  clear C2 kR kb km hH1
  have hG3:=qh.upd u3
  have h3:=h1.au u3
  have V3:=V2.trans (u3.up M1.fp)
  clear j3 j4 j5 j6 j7 j8 j9 j10 j11 j12
  obtain⟨W5,T,Ev,hT,nk,U5⟩:=az w3 63 cz
  have u5:=U5.g0
  rw[ai.arr]
  refine bK ?_
  refine bL r2.cells hii abx nk ?_
  intro Wz oN u6
  have u36:aa [] [] w3 Wz:=u5.aB (by simp only[mem_singleton];rintro k rfl;omega) u6
  have iF:=hG3.upd u36
  have nz:=n3.grow u36
  have h1:=h3.au u36
  have VZ:=V3.trans (u36.up M1.fp)
  have rJ:T∉[G]:=by have:=hG3.lt;simp only[mem_singleton];omega
  have LT:∀w',aa [G] [G] Wz w'→ak w' T 63 r2.cells.toArray:=fun w' u=>oN.upd u rJ
  repeat' go_step
  refine wp_region_held_drew (S:=fun w'=>aa [G] [G] Wz w') (by kernel_rfl) (aa.refl [G] Wz).drew fun _=>?_
  refine aF 0 ?_
  refine aF 1 ?_
  refine aF 2 ?_
  refine mi 3 hii (r2).cells abx LT ?_
  refine aF 4 ?_
  refine aW 5 (fun K hK=>?_)
  refine cu rfl _ _ 63 rfl hii rfl r2.cells rfl abx iF.drew rfl rfl ?_
  intro We qP ue
  have UE:aa [G] [G] Wz We:=(‹aa [G] [G] Wz _›).trans ue
  refine aP hK (UE) fun _=>?_
  clear hK K
  refine dnH ?_ _
  refine wk ?_
  exact bodyPost_ret (jk (s:=7) (u:=6) (t:=63) (by rw[results31]) rfl hii (fun _=>rfl) r2.cells abx qP) rfl ⟨M1,r2,rfl,(h1.set iF (by decide) hG1 UE),HP.out,hg1,by rw[vW.out];exact(nz.upd UE vV).less adJ,VZ.aB aR UE⟩
 have d1:(d.k==1)=false:=by simpa using k1
 by_cases k2:d.k=2
 ·have d2:(d.k==2)=true:=by simpa using k2
  have C:=Sm W2 M hS2 (fun hd=>by
   obtain⟨S,R',z,h2,h3,-⟩:=hI.up hd
   exact(h2.tick (y:=0) (by omega)).1)
  have hTk:M.pl.down=false→M.pl.BU∧M.pl.eF.held.length≤800000000:=fun hd=>by
   obtain⟨S,R',z,h2,h3,-⟩:=hI.up hd
   exact⟨(h2.tick (y:=0) (by omega)).1,by have:=h2.eF (by omega);omega⟩
  rw[show M.pl.deed d.k d.n d.b d.m.ms=M.pl.tick by unfold Site.deed Site.act;rw[if_pos (by omega),if_neg k0,if_neg k1,if_pos k2]]
  rw[af.ptr]at C ⊢
  clear hS hR hr hf hbX zU hI k0 k1 k2
  go_enter func31,ntmps31
  repeat' go_step
  refine C.mono ?_;rintro e w1 ⟨rfl,M1,h1,hp1,hg1,V1⟩
  have hH1:=hB2.upd V1 ik
  have zV:=hJ2.upd V1 GQ
  have qh:=hG2.upd V1 rH
  have kR:=hR2.swap V1
  have kb:=hb2.swap V1
  have km:=hm2.swap V1
  have hX1:∀k∈(M1.fp++([G]++X)),k<w1.heap.size:=fun k hk=>by
   rcases mem_append.1 hk with hk|hk
   ·exact h1.lt k hk
   ·have:=hX2 k hk;have:=V1.size;omega
  have hG1:G∉M1.fp:=V1.eQ rH hG2.lt
  have vV:∀k∈[G],k∈(M1.fp++([G]++X)):=by simp
  have adJ:∀k∈M1.fp++X,k∈(M1.fp++([G]++X)):=fun k hk=>by
   rcases mem_append.1 hk with hk|hk
   ·exact mem_append.2 (.inl hk)
   ·exact mem_append.2 (.inr (mem_append.2 (.inr hk)))
  have V2:=(aK.up M.fp).trans V1
  have HP:=hdn hp1
  have vW:=hdn hp1
  clear hp1
  have C2:=XH (M1.fp++([G]++X)) w1 r M.pl kR hX1 hTk hO
  rw[ai.arr]at C2
  have p4:=hH1
  repeat' (fail_if_success with_reducible refine ek (t:=63) rfl ?_);first|go_step|simp only[];go_at_K
  refine bF hii hH1 abx ?_
  repeat' go_step
  refine C2.mono ?_;rintro e w3 ⟨v,rfl,r2,rfl,n3,u3⟩
  clear C2 kR kb km hH1
  have hG3:=qh.upd u3
  have h3:=h1.au u3
  have V3:=V2.trans (u3.up M1.fp)
  rw[ai.arr]
  have iF:=hG3
  obtain⟨Wz,yw⟩:=ex1 w3
  rw[yw]at iF n3 h3 V3 ⊢
  refine bK ?_
  refine bL r2.cells hii abx iF ?_
  intro We qP UE
  refine wk ?_
  exact bodyPost_ret (jk (s:=7) (u:=6) (t:=63) (by rw[results31]) rfl hii (fun _=>rfl) r2.cells abx qP) rfl ⟨M1,r2,rfl,(h3.set iF (by decide) hG1 UE),HP.out,hg1,by rw[vW.out];exact(n3.upd UE vV).less adJ,V3.aB aR UE⟩
 have d2:(d.k==2)=false:=by simpa using k2
 by_cases k3:d.k=3
 ·have d3:(d.k==3)=true:=by simpa using k3
  have C:=Kw Qt takeC W2 M hS2 (by omega) (fun hd=>by
   obtain⟨S,R',z,h2,-⟩:=hI.up (show M.pl.down=false from hd)
   exact h2.sync.1)
  have yt:M.pl.held.length≤500000000:=by omega
  have hQr:M.pl.down=false→Folds Qr {M.pl with dn:=M.pl.db.length,held:=[]} (M.pl.held.filter fun m=>decide (m.to=(M.pl.me:Int))):=fun hd=>by
   obtain⟨S,R',z,h2,-⟩:=hI.up hd
   exact h2.abV
  rw[show M.pl.deed d.k d.n d.b d.m.ms=M.pl.sync.1 by unfold Site.deed Site.act;rw[if_pos (by omega),if_neg k0,if_neg k1,if_neg k2,if_pos k3]]
  rw[af.ptr]at C ⊢
  clear hS hR hr hf hbX zU hI k0 k1 k2 k3
  go_enter func31,ntmps31
  repeat' go_step
  refine C.mono ?_;rintro e w1 ⟨A1,c1,jo,M1,rfl,g1,g2,g3,g4,h1,hp1,hg1,V1⟩
  have hH1:=hB2.upd V1 ik
  have zV:=hJ2.upd V1 GQ
  have qh:=hG2.upd V1 rH
  have kR:=hR2.swap V1
  have kb:=hb2.swap V1
  have km:=hm2.swap V1
  have hX1:∀k∈(M1.fp++([G]++X)),k<w1.heap.size:=fun k hk=>by
   rcases mem_append.1 hk with hk|hk
   ·exact h1.lt k hk
   ·have:=hX2 k hk;have:=V1.size;omega
  have hG1:G∉M1.fp:=V1.eQ rH hG2.lt
  have vV:∀k∈[G],k∈(M1.fp++([G]++X)):=by simp
  have adJ:∀k∈M1.fp++X,k∈(M1.fp++([G]++X)):=fun k hk=>by
   rcases mem_append.1 hk with hk|hk
   ·exact mem_append.2 (.inl hk)
   ·exact mem_append.2 (.inr (mem_append.2 (.inr hk)))
  have V2:=(aK.up M.fp).trans V1
  have HP:=hdn hp1
  have vW:=hdn hp1
  clear hp1
  have C2:=XI (M1.fp++([G]++X)) w1 r M.pl kR hX1 yt hQr
  rw[ai.arr]at C2
  have p4:=hH1
  repeat' (fail_if_success with_reducible refine ek (t:=63) rfl ?_);first|go_step|simp only[];go_at_K
  refine bF hii hH1 abx ?_
  repeat' go_step
  refine C2.mono ?_;rintro e w3 ⟨v,A2,c2,VW,rfl,g5,g6,r2,rfl,n3,u3⟩
  clear C2 kR kb km hH1
  have hG3:=qh.upd u3
  have h3:=h1.au u3
  have V3:=V2.trans (u3.up M1.fp)
  have htl:jo.length≤1000000000:=by
   have h9:=congrArg length g1
   rw[length_map]at h9
   rw[h9]
   have:=M.pl.Sn
   omega
  obtain⟨W5,T,Ev,hT,nk,U5⟩:=az w3 63 cz
  have u5:=U5.g0
  rw[ai.arr]
  refine bK ?_
  refine bL r2.cells hii abx nk ?_
  intro Wz oN u6
  have u36:aa [] [] w3 Wz:=u5.aB (by simp only[mem_singleton];rintro k rfl;omega) u6
  have iF:=hG3.upd u36
  have nz:=n3.grow u36
  have h1:=h3.au u36
  have VZ:=V3.trans (u36.up M1.fp)
  have rJ:T∉[G]:=by have:=hG3.lt;simp only[mem_singleton];omega
  have LT:∀w',aa [G] [G] Wz w'→ak w' T 63 r2.cells.toArray:=fun w' u=>oN.upd u rJ
  have g7:=g6.grow u36
  have hu1:=u3.trans u36
  have CM:∀w',aa [] [] Wz w'→Calls prog 84 #[.slice A1 jo.length c1,.slice A2 VW.length c2] w' fun e w''=>e=.returned (.bool true)∧aa [] [] w' w'':=fun w' u=>
   XJ w' A1 c1 jo A2 c2 VW (bR.au ⟨rfl,(g2.upd hu1).rd⟩ u) (fun x hx=>((g4 x hx).1.rd.upd hu1).upd u) (g7.grow u).rd (fun x hx=>((g7.grow u).gB x hx).rd) (g1.trans g5.symm) htl
  repeat' go_step
  refine wp_region_held_drew (S:=fun w'=>aa [G] [G] Wz w') (by kernel_rfl) (aa.refl [G] Wz).drew fun _=>?_
  refine aF 0 ?_
  refine aF 1 ?_
  refine mi 3 hii (r2).cells abx LT ?_
  refine aW 2 (fun K hK=>?_)
  go_simp
  refine(CM _ (aa.refl [] Wz).drew).mono ?_;rintro e wa ⟨rfl,ua⟩
  simp only[]
  have UA:aa [G] [G] Wz wa:=(‹aa [G] [G] Wz _›).trans (ua.up _)
  have dh:aa [] [] Wz wa:=(aa.refl [] Wz).drew.trans ua
  refine aP hK (UA) fun _=>?_
  clear hK K
  refine aF 4 ?_
  refine aW 5 (fun K hK=>?_)
  refine cu rfl _ _ 63 rfl hii rfl r2.cells rfl abx (iF.upd (dh)) rfl rfl ?_
  intro We qP ue
  have UE:aa [G] [G] Wz We:=(UA).trans ue
  refine aP hK (UE) fun _=>?_
  clear hK K
  refine dnH ?_ _
  refine wk ?_
  exact bodyPost_ret (jk (s:=7) (u:=6) (t:=63) (by rw[results31]) rfl hii (fun _=>rfl) r2.cells abx qP) rfl ⟨M1,r2,rfl,(h1.set iF (by decide) hG1 UE),HP.out,hg1,by rw[vW.out];exact(nz.upd UE vV).less adJ,VZ.aB aR UE⟩
 have d3:(d.k==3)=false:=by simpa using k3
 by_cases k4:d.k=4
 ·have d4:(d.k==4)=true:=by simpa using k4
  have C:=Pj W2 M hS2 d.n
  rw[show M.pl.deed d.k d.n d.b d.m.ms=M.pl.jq d.n by unfold Site.deed Site.act;rw[if_pos (by omega),if_neg k0,if_neg k1,if_neg k2,if_neg k3,if_pos k4]]
  rw[af.ptr]at C ⊢
  clear hS hR hr hf hbX zU hI k0 k1 k2 k3 k4
  go_enter func31,ntmps31
  repeat' go_step
  refine C.mono ?_;rintro e w1 ⟨rfl,M1,h1,hp1,hg1,V1⟩
  have hH1:=hB2.upd V1 ik
  have zV:=hJ2.upd V1 GQ
  have qh:=hG2.upd V1 rH
  have kR:=hR2.swap V1
  have kb:=hb2.swap V1
  have km:=hm2.swap V1
  have hX1:∀k∈(M1.fp++([G]++X)),k<w1.heap.size:=fun k hk=>by
   rcases mem_append.1 hk with hk|hk
   ·exact h1.lt k hk
   ·have:=hX2 k hk;have:=V1.size;omega
  have hG1:G∉M1.fp:=V1.eQ rH hG2.lt
  have vV:∀k∈[G],k∈(M1.fp++([G]++X)):=by simp
  have adJ:∀k∈M1.fp++X,k∈(M1.fp++([G]++X)):=fun k hk=>by
   rcases mem_append.1 hk with hk|hk
   ·exact mem_append.2 (.inl hk)
   ·exact mem_append.2 (.inr (mem_append.2 (.inr hk)))
  have V2:=(aK.up M.fp).trans V1
  have HP:=hdn hp1
  have vW:=hdn hp1
  clear hp1
  have C2:=Sq (M1.fp++([G]++X)) w1 r M.pl kR hX1 d.n hk
  rw[ai.arr]at C2
  have j1:w1.cell? ⟨J,1,none⟩=some (.int .i64 d.n):=zV.cell 1
  have p4:=hH1
  repeat' (fail_if_success with_reducible refine ek (t:=63) rfl ?_);first|go_step|simp only[];go_at_K
  refine bF hii hH1 abx ?_
  repeat' go_step
  refine C2.mono ?_;rintro e w3 ⟨v,rfl,r2,rfl,n3,u3⟩
  clear C2 kR kb km hH1
  have hG3:=qh.upd u3
  have h3:=h1.au u3
  have V3:=V2.trans (u3.up M1.fp)
  clear j1
  rw[ai.arr]
  have iF:=hG3
  obtain⟨Wz,yw⟩:=ex1 w3
  rw[yw]at iF n3 h3 V3 ⊢
  refine bK ?_
  refine bL r2.cells hii abx iF ?_
  intro We qP UE
  refine wk ?_
  exact bodyPost_ret (jk (s:=7) (u:=6) (t:=63) (by rw[results31]) rfl hii (fun _=>rfl) r2.cells abx qP) rfl ⟨M1,r2,rfl,(h3.set iF (by decide) hG1 UE),HP.out,hg1,by rw[vW.out];exact(n3.upd UE vV).less adJ,V3.aB aR UE⟩
 have d4:(d.k==4)=false:=by simpa using k4
 by_cases k5:d.k=5
 ·have d5:(d.k==5)=true:=by simpa using k5
  have C:=Ky W2 M hS2
  have hgd:M.pl.down=true→aA.Good (bU M.pl.db).1:=fun hd=>by
   obtain⟨S,h2,-⟩:=hI.down hd
   exact h2.good
  rw[show M.pl.deed d.k d.n d.b d.m.ms=M.pl.dE by unfold Site.deed Site.act;rw[if_pos (by omega),if_neg k0,if_neg k1,if_neg k2,if_neg k3,if_neg k4,if_pos k5]]
  rw[af.ptr]at C ⊢
  clear hS hR hr hf hbX zU hI k0 k1 k2 k3 k4 k5
  go_enter func31,ntmps31
  repeat' go_step
  refine C.mono ?_;rintro e w1 ⟨rfl,M1,h1,hp1,hg1,V1⟩
  have hH1:=hB2.upd V1 ik
  have zV:=hJ2.upd V1 GQ
  have qh:=hG2.upd V1 rH
  have kR:=hR2.swap V1
  have kb:=hb2.swap V1
  have km:=hm2.swap V1
  have hX1:∀k∈(M1.fp++([G]++X)),k<w1.heap.size:=fun k hk=>by
   rcases mem_append.1 hk with hk|hk
   ·exact h1.lt k hk
   ·have:=hX2 k hk;have:=V1.size;omega
  have hG1:G∉M1.fp:=V1.eQ rH hG2.lt
  have vV:∀k∈[G],k∈(M1.fp++([G]++X)):=by simp
  have adJ:∀k∈M1.fp++X,k∈(M1.fp++([G]++X)):=fun k hk=>by
   rcases mem_append.1 hk with hk|hk
   ·exact mem_append.2 (.inl hk)
   ·exact mem_append.2 (.inr (mem_append.2 (.inr hk)))
  have V2:=(aK.up M.fp).trans V1
  have HP:=hdn hp1
  have vW:=hdn hp1
  clear hp1
  have C2:=Ny (M1.fp++([G]++X)) w1 r M.pl kR hX1 hgd
  rw[ai.arr]at C2
  have p4:=hH1
  repeat' (fail_if_success with_reducible refine ek (t:=63) rfl ?_);first|go_step|simp only[];go_at_K
  refine bF hii hH1 abx ?_
  repeat' go_step
  refine C2.mono ?_;rintro e w3 ⟨v,rfl,r2,rfl,n3,u3⟩
  clear C2 kR kb km hH1
  have hG3:=qh.upd u3
  have h3:=h1.au u3
  have V3:=V2.trans (u3.up M1.fp)
  rw[ai.arr]
  have iF:=hG3
  obtain⟨Wz,yw⟩:=ex1 w3
  rw[yw]at iF n3 h3 V3 ⊢
  refine bK ?_
  refine bL r2.cells hii abx iF ?_
  intro We qP UE
  refine wk ?_
  exact bodyPost_ret (jk (s:=7) (u:=6) (t:=63) (by rw[results31]) rfl hii (fun _=>rfl) r2.cells abx qP) rfl ⟨M1,r2,rfl,(h3.set iF (by decide) hG1 UE),HP.out,hg1,by rw[vW.out];exact(n3.upd UE vV).less adJ,V3.aB aR UE⟩
 have d5:(d.k==5)=false:=by simpa using k5
 have C:=Sr W2 M hS2
 rw[show M.pl.deed d.k d.n d.b d.m.ms=M.pl.takes.1 by unfold Site.deed;rw[if_neg (by omega)]]
 have hLV:=hR.aJ.lv
 rw[af.ptr]at C ⊢
 clear hS hR hr hf hbX zU hI k0 k1 k2 k3 k4 k5
 go_enter func31,ntmps31
 repeat' go_step
 refine C.mono ?_;rintro e w1 ⟨A1,c1,l1,rfl,g1,g2,g3,g4,M1,h1,hp1,hg1,-,-,-,V1⟩
 have hH1:=hB2.upd V1 ik
 have zV:=hJ2.upd V1 GQ
 have qh:=hG2.upd V1 rH
 have kR:=hR2.swap V1
 have kb:=hb2.swap V1
 have km:=hm2.swap V1
 have hX1:∀k∈(M1.fp++([G]++X)),k<w1.heap.size:=fun k hk=>by
  rcases mem_append.1 hk with hk|hk
  ·exact h1.lt k hk
  ·have:=hX2 k hk;have:=V1.size;omega
 have hG1:G∉M1.fp:=V1.eQ rH hG2.lt
 have vV:∀k∈[G],k∈(M1.fp++([G]++X)):=by simp
 have adJ:∀k∈M1.fp++X,k∈(M1.fp++([G]++X)):=fun k hk=>by
  rcases mem_append.1 hk with hk|hk
  ·exact mem_append.2 (.inl hk)
  ·exact mem_append.2 (.inr (mem_append.2 (.inr hk)))
 have V2:=(aK.up M.fp).trans V1
 have HP:=hdn hp1
 have vW:=hdn hp1
 clear hp1
 have C2:=Su (M1.fp++([G]++X)) w1 r M.pl kR hX1
 rw[ai.arr]at C2
 have p4:=hH1
 repeat' (fail_if_success with_reducible refine ek (t:=63) rfl ?_);first|go_step|simp only[];go_at_K
 refine bF hii hH1 abx ?_
 repeat' go_step
 refine C2.mono ?_;rintro e w3 ⟨v,A2,c2,rfl,⟨r2,rfl,n3,u3⟩,g5⟩
 clear C2 kR kb km hH1
 have hG3:=qh.upd u3
 have h3:=h1.au u3
 have V3:=V2.trans (u3.up M1.fp)
 obtain⟨l2,hl2⟩:=ex1 ((range' M.pl.taken (M.pl.front - M.pl.taken)).map (sS r.L))
 have aex:M.pl.front-M.pl.taken=l2.length:=by rw[←hl2];simp
 have aey:l2.map aM.b=M.pl.takes.2:=by
  rw[←hl2,map_map]
  unfold Site.takes
  refine map_congr_left fun i _=>?_
  have:=hLV (i:Int)
  show(sS r.L i).b=_
  unfold sS
  rw[←this]
  cases dX r.L (i:Int)<;>rfl
 have hsb:(l1.map aM.b==l2.map aM.b)=true:=by rw[g1,aey];simp
 have aik:l1.length≤5000:=by
  have h9:=congrArg length g1
  rw[length_map]at h9
  rw[h9]
  unfold Site.takes
  rw[length_map,length_range']
  have:=n3.aJ.tk.1
  have e:M.pl.takes.1.taken=M.pl.front:=rfl
  omega
 rw[hl2]at g5
 rw[aex]
 obtain⟨W5,T,Ev,hT,nk,U5⟩:=az w3 63 cz
 have u5:=U5.g0
 rw[ai.arr]
 refine bK ?_
 refine bL r2.cells hii abx nk ?_
 intro Wz oN u6
 have u36:aa [] [] w3 Wz:=u5.aB (by simp only[mem_singleton];rintro k rfl;omega) u6
 have iF:=hG3.upd u36
 have nz:=n3.grow u36
 have h1:=h3.au u36
 have VZ:=V3.trans (u36.up M1.fp)
 have rJ:T∉[G]:=by have:=hG3.lt;simp only[mem_singleton];omega
 have LT:∀w',aa [G] [G] Wz w'→ak w' T 63 r2.cells.toArray:=fun w' u=>oN.upd u rJ
 have hu1:=u3.trans u36
 have CM:∀w',aa [] [] Wz w'→Calls prog 42 #[.slice A1 l1.length c1,.slice A2 l2.length c2] w' fun e w''=>e=.returned (.bool true)∧aa [] [] w' w'':=fun w' u=>by
  have:=Pk w' A1 A2 c1 c2 l1 l2 ((g2.upd hu1).upd u).rdr ((g5.au u36).au u) (by omega)
  rw[hsb]at this
  exact this
 repeat' go_step
 refine wp_region_held_drew (S:=fun w'=>aa [G] [G] Wz w') (by kernel_rfl) (aa.refl [G] Wz).drew fun _=>?_
 refine aF 0 ?_
 refine aF 1 ?_
 refine mi 3 hii (r2).cells abx LT ?_
 refine aW 2 (fun K hK=>?_)
 go_simp
 refine(CM _ (aa.refl [] Wz).drew).mono ?_;rintro e wa ⟨rfl,ua⟩
 simp only[]
 have UA:aa [G] [G] Wz wa:=(‹aa [G] [G] Wz _›).trans (ua.up _)
 have dh:aa [] [] Wz wa:=(aa.refl [] Wz).drew.trans ua
 refine aP hK (UA) fun _=>?_
 clear hK K
 refine aF 4 ?_
 refine aW 5 (fun K hK=>?_)
 refine cu rfl _ _ 63 rfl hii rfl r2.cells rfl abx (iF.upd (dh)) rfl rfl ?_
 intro We qP ue
 have UE:aa [G] [G] Wz We:=(UA).trans ue
 refine aP hK (UE) fun _=>?_
 clear hK K
 refine dnH ?_ _
 refine wk ?_
 exact bodyPost_ret (jk (s:=7) (u:=6) (t:=63) (by rw[results31]) rfl hii (fun _=>rfl) r2.cells abx qP) rfl ⟨M1,r2,rfl,(h1.set iF (by decide) hG1 UE),HP.out,hg1,by rw[vW.out];exact(nz.upd UE vV).less adJ,VZ.aB aR UE⟩
