/- For SitePlays. -/
import Derived.Test.YtijhlbeipglieaaGreatPkRefK
import Derived.Test.YtijhlbeipglieaaGreatPkRefJ
set_option linter.all false
set_option maxRecDepth 100000
set_option maxHeartbeats 16000000
namespace aA
open Go Go.Proofs.YtijhlbeipglieaaGreat List
end aA
namespace Go.Proofs.YtijhlbeipglieaaGreat
open Go.RowKit aA Go.Maps Go.Proofs.Tryz List
structure RowK(X:List Nat)(w:World)(A:Option Addr)(l:List Rv):Prop where
 rd:bR Rv.cells 5 w A l.length l
 gB:∀x∈l,dU X w x.A x.n x.b
 off:∀k∈dV A l.length,k∉X
theorem RowK.upd{X a b:List Nat}{w w':World}{A:Option Addr}{l:List Rv}(h:RowK X w A l)(hu:aa a b w w')(ha:∀k∈a,k∈X:=by simp):RowK X w' A l:=
 ⟨h.rd.iN hu fun k hk hm=>h.off k hk (ha k hm),fun x hx=>(h.gB x hx).upd hu ha,h.off⟩
theorem RowK.grow{X b:List Nat}{w w':World}{A:Option Addr}{l:List Rv}(h:RowK X w A l)(hu:aa [] b w w'):RowK X w' A l:=h.upd hu
theorem Ref.afy{X:List Nat}{w:World}{r:ai}{s:Site}(h:Ref X w r s){D:aM}{dn:Nat}(hD:aD w D.A D.n D.b)(hc:D.n≤D.c∧D.c≤maxLen)(ho:∀k∈dV D.A D.n,k∉X)(hl:D.b.length≤1048576∧dn≤D.b.length):Ref X w {r with D:=D,dn:=dn} {s with db:=D.b,dn:=dn}:=by
 have S:=h.aJ
 refine⟨⟨hD,hc,h.mem.K,h.mem.kb,h.mem.L,h.mem.lb,h.mem.R,h.mem.rc,h.mem.rb,h.mem.held,h.mem.hb,h.mem.big⟩,
  ⟨S.me,S.n,S.pat,S.down,rfl,rfl,S.st,S.kn,S.kr,S.top,S.lv,S.ln,S.lr,S.taken,S.tk,S.rs,S.rn,S.nx,S.wt,S.held,S.ok.disk _ _,hl⟩,fun k hk=>?_⟩
 rcases ai.sub.1 hk with hk|hk
 ·exact ho k hk
 ·exact h.off k (ai.sub.2 (.inr hk))
theorem Ny(X:List Nat)(w:World)(r:ai)(s:Site)(h:Ref X w r s)(hX:∀k∈X,k<w.heap.size)(hg:s.down=true→aA.Good (bU s.db).1) :
  Calls prog 86 #[r.val] w fun e w'=>∃v,e=.returned v∧Came X w w' v s.dE:=by
 obtain⟨ii,hii,abx⟩:=fP
 obtain⟨ij,pO,pQ⟩:=Bu
 obtain⟨W,H,eW,hH,hB,U0⟩:=az w 63 r.cells.toArray
 obtain⟨W2,G,fu,hG,hBG,U2⟩:=az W 63 cz
 have hB2:=hB.upd U2
 have dY:G≠H:=by have:=hB.lt;omega
 have aK:aa [] [] w W2:=U0.g0.trans U2.g0
 have hs0:=U0.size
 have hs2:=U2.size
 have aR:∀k∈[G],w.heap.size≤k:=ge1
 have hok:=h.aJ.ok
 have h2:Ref ([G]++X) W2 r s:=(h.more aR).grow aK
 have hX2:∀k∈[G]++X,k<W2.heap.size:=fun k hk=>by
  rcases mem_append.1 hk with hk|hk
  ·have:=hBG.lt;simp only[mem_singleton]at hk;omega
  ·have:=hX k hk;have:=aK.size;omega
 have c3:W2.cell? ⟨H,3,none⟩=some (.bool s.down):=by rw[hB2.cell 3];show some (Value.bool r.down)=_;rw[h.aJ.down]
 obtain⟨dn,hdU⟩:=ex1 s.down
 rw[hdU]at c3
 obtain⟨F,hF⟩:=ex1 s.dE
 rw[hF,ai.arr]
 have HF:=hdn hF
 clear hF
 cases dn with
 |false=>
  have bC:=hdn (show F=s by rw[←HF.out];unfold Site.dE;rw[if_neg (by rw[hdU];simp)])
  clear hdU hg
  go_enter func86,ntmps86
  repeat' (fail_if_success with_reducible refine ek (t:=63) rfl ?_);go_step
  refine bF hii hB2 abx ?_
  refine bK ?_
  refine bL r.cells hii abx hBG ?_
  intro W8 aX u8
  refine wk ?_
  exact fG results86 hii aX abx ⟨_,rfl,r,rfl,by rw[bC.out];exact(h2.upd u8).less,aK.aB aR u8⟩
 |true=>
  have hgd:=hg hdU
  have hDn:=h2.mem.db.len
  have hdk:=h.aJ.dk
  have Jf:=h.aJ.db
  have abK:=h.aJ.dn
  obtain⟨kq,hkq⟩:=ex1 ((bU s.db).2)
  obtain⟨q1,q2,q3⟩:=oH s.db
  have hrl:(bU s.db).1.length≤1048576:=by
   have h1:=MH (bU s.db).1
   rw[q2,length_take]at h1
   omega
  obtain⟨t0,ht0⟩:∃t0:Site,{Site.new s.me s.n s.pat with db:=s.db.take kq,dn:=min s.dn kq} =t0:=⟨_,rfl⟩
  have pG:=hdn (show F=(bU s.db).1.foldl Site.dR t0 by rw[←HF.out,←ht0,←hkq];unfold Site.dE;rw[if_pos hdU])
  have CR:=Ro W2 r.D.A r.D.n r.D.c r.D.b h2.mem.db h2.mem.dc.1 h2.mem.dc.2 (by rw[Jf];omega)
  rw[Jf,hkq]at CR
  rw[hkq]at q1
  have c4:W2.cell? ⟨H,4,none⟩=some (.slice r.D.A r.D.n r.D.c):=hB2.cell 4
  have HDn:=hdn hDn
  have Sd:=hdn Jf
  have HSD:=hdn abK
  clear HF hg hdU q2 hkq hDn Jf abK
  go_enter func86,ntmps86
  repeat' go_step
  refine CR.mono ?_;rintro e w3 ⟨RA,rk,rc,xs,rfl,hxs,acy,u3,acI,hRf⟩
  obtain rfl:=acy.len
  rw[←hxs]at hgd q3 hrl pG
  clear CR c3 c4 hxs
  have hB3:=hB2.upd u3
  have hG3:=hBG.upd u3
  have h3:=h2.grow u3
  have U3:=aK.trans u3
  have hxl:xs.length≤1048576:=by unfold cK at hrl;rw[length_map]at hrl;exact hrl
  have b0:w3.cell? ⟨H,0,none⟩=some (.int .i64 (s.me:Int)):=by rw[hB3.cell 0];show some (Value.int .i64 (r.me:Int))=_;rw[h.aJ.me]
  have b1:w3.cell? ⟨H,1,none⟩=some (.int .i64 (s.n:Int)):=by rw[hB3.cell 1];show some (Value.int .i64 (r.n:Int))=_;rw[h.aJ.n]
  have b2:w3.cell? ⟨H,2,none⟩=some (.int .i64 (s.pat:Int)):=by rw[hB3.cell 2];show some (Value.int .i64 (r.pat:Int))=_;rw[h.aJ.pat]
  have CN:=Pp w3 s.me s.n s.pat hok.n3 hok.n7 (by
   have h1:=hok.me;have h2:=hok.n3;have h3:=hok.n7;have h4:=hok.pat
   simp only[fB,Bool.and_eq_true,decide_eq_true_eq];omega)
  rw[ai.arr]at CN
  repeat' first|go_step|simp only[];go_at_K
  refine CN.mono ?_;rintro e w4 ⟨rfl,u4⟩
  clear CN b0 b1 b2
  obtain⟨W5,Z,Ev,hZ,DZ,U5⟩:=az w4 63 cz
  have u5:=U5.g0
  refine bK ?_
  refine bL (ai.new s.me s.n s.pat).cells hii abx DZ ?_
  intro W6 hZ6 u6
  have u46:aa [] [] w3 W6:=(u4.trans u5).aB (by simp only[mem_singleton];rintro k rfl;have:=u4.size;omega) u6
  have dK:=hB3.upd u46
  have gK:=hG3.upd u46
  have h6:=h3.grow u46
  have U6:=U3.trans u46
  have hZ3:w3.heap.size≤Z:=by have:=u4.size;omega
  have hGZ:G∉[Z]:=by have:=hG3.lt;simp only[mem_singleton];omega
  have hZG:Z∉[G]:=by have:=hG3.lt;simp only[mem_singleton];omega
  have hHZ:H∉[Z]:=by have:=hB3.lt;simp only[mem_singleton];omega
  have hZw:∀k∈[Z],w.heap.size≤k:=by simp only[mem_singleton];rintro k rfl;have:=U3.size;omega
  have aj3:∀k,W2.heap.size≤k→k<w3.heap.size→k∉([Z,G]++X):=fun k h1 h2 hm=>by
   rcases mem_append.1 hm with hm|hm
   ·simp only[mem_cons,not_mem_nil,or_false]at hm
    rcases hm with rfl|rfl
    ·omega
    ·have:=hX2 k (by simp);omega
   ·have:=hX2 k (by simp[hm]);omega
  have BP:RowK ([Z,G]++X) W6 RA xs:=by
   refine⟨acy.rd.iN u46 (by simp),fun x hx=>⟨(acy.each x hx).upd u46,fun k hk=>aj3 k (acI x hx k (ji k hk)) (Rd.pY (acy.each x hx) (by omega) k hk)⟩,fun k hk=>aj3 k (hRf k (ji k hk)) (Rd.pY acy.rd.rd (by omega) k hk)⟩
  have hDo:∀k∈dV r.D.A kq,k∉([Z,G]++X):=fun k hk hm=>by
   have hk2:k∈dV r.D.A r.D.n:=by
    unfold dV at hk ⊢
    split at hk
    ·cases hk
    ·rw[if_neg (by rw[←Sd.out]at q1;have:=HDn.out;omega)];exact hk
   have hf:k∈r.fp:=ai.sub.2 (.inl hk2)
   rcases mem_append.1 hm with hm|hm
   ·simp only[mem_cons,not_mem_nil,or_false]at hm
    rcases hm with rfl|rfl
    ·have:=h3.mem.lt _ hf;omega
    ·exact h3.off _ hf (by simp)
   ·exact h3.off _ hf (by simp[hm])
  clear u4 u5 u6 u46 Ev DZ U5 hRf acy acI hB3 hG3 h3 U3 u3 aj3
  have c4:W6.cell? ⟨H,4,none⟩=some (.slice r.D.A r.D.n r.D.c):=dK.cell 4
  have c5:W6.cell? ⟨H,5,none⟩=some (.int .i64 (r.dn:Int)):=dK.cell 5
  have hkD:kq≤r.D.n:=by rw[HDn.out,Sd.out];exact q1
  have CC:=Ur W6 r.D r.dn kq ⟨h6.mem.dc.1,by rw[HDn.out,Sd.out];omega,hkD⟩
  simp only[mO]at CC
  repeat' go_step
  refine CC.mono ?_;rintro e w7 ⟨rfl,u7⟩
  clear CC c4 c5
  obtain⟨W8,Q,JO,hQ,hBQ,U8⟩:=az w7 55 #[.slice r.D.A kq r.D.c,.int .i64 ((min r.dn kq:Nat):Int)]
  have Nu:aa [] [] W6 W8:=u7.trans U8.g0
  have Nv:=hZ6.upd Nu
  have aX:=gK.upd Nu
  have abP:=BP.grow Nu
  have h8:=h6.grow Nu
  have U68:=U6.trans Nu
  obtain⟨⟨d0,d1⟩,-⟩:=hBQ.c2
  have f4:=Nv.frozen 4
  have f5:=Nv.frozen 5
  have e4:W8.cell? ⟨Z,4,none⟩=some (.slice none 0 0):=Nv.cell 4
  have e5:W8.cell? ⟨Z,5,none⟩=some (.int .i64 0):=Nv.cell 5
  obtain⟨W9,zo⟩:=ex1 ((W8.setCell ⟨Z,4,none⟩ (.slice r.D.A kq r.D.c)).setCell ⟨Z,5,none⟩ (.int .i64 ((min r.dn kq:Nat):Int)))
  obtain⟨r1,hr1⟩:∃r1:ai,{ai.new s.me s.n s.pat with D:=⟨r.D.A,kq,r.D.c,r.D.b.take kq⟩,dn:=min r.dn kq} =r1:=⟨_,rfl⟩
  have u9:aa [Z] [Z] W8 W9:=by rw[←zo];exact((aa.refl [Z] W8).setCell (p:=⟨Z,4,none⟩) (.inl (by simp)) _).setCell (p:=⟨Z,5,none⟩) (.inl (by simp)) _
  have hZ9:ak W9 Z 63 r1.cells.toArray:=by rw[←zo,←hr1];exact(Nv.aO 4 _).aO 5 _
  have oZ:=aX.upd u9 hGZ
  have abR:=abP.upd u9
  have U9:=U68.aB hZw u9
  have AQ:Ref ([Z,G]++X) W9 r1 t0:=by
   have hd9:aD W9 r.D.A kq (r.D.b.take kq):=(aD.takeB h8.mem.db hkD).iN u9 (fun k hk hm=>hDo k hk (by rw[mem_singleton]at hm;simp[hm]))
   rw[←hr1,←ht0,←Sd.out,←HSD.out]
   exact(Ref.new ([Z,G]++X) W9 s.me s.n s.pat hok.me hok.n3 hok.n7 hok.pat).afy (D:=⟨r.D.A,kq,r.D.c,r.D.b.take kq⟩) (dn:=min r.dn kq) hd9 ⟨Nat.le_trans hkD h6.mem.dc.1,h6.mem.dc.2⟩ hDo (by
    show(r.D.b.take kq).length≤_∧min r.dn kq≤(r.D.b.take kq).length
    rw[length_take,←HDn.out]
    have:=hdk.1
    rw[←Sd.out,←HDn.out]at this
    omega)
  have afz:∀x,t0.stat x=gu ([]:List Rc) x:=fun x=>by rw[←ht0];rfl
  have rV:∀k∈([Z,G]++X),k<W9.heap.size:=fun k hk=>by
   rcases mem_append.1 hk with hk|hk
   ·simp only[mem_cons,not_mem_nil,or_false]at hk
    rcases hk with rfl|rfl
    ·exact hZ9.lt
    ·exact oZ.lt
   ·have:=hX k hk;have:=U9.size;omega
  clear u9 h8 Nu Nv aX abP U68 U8 u7 hBQ hr1 ht0 hZ6 dK gK h6 U6 BP hDo h2 hB2 hBG aK U0 U2 hB
  repeat' first|go_step|simp only[];go_at_K
  clear d0 d1 f4 f5 e4 e5 zo JO eW fu
  go_loopw [9] (fun v9 wr=>aQ (∃(i:Nat)(ri:ai)(si:Site),i≤xs.length∧v9=.int .i64 (i:Int)∧ak wr Z 63 ri.cells.toArray∧ak wr G 63 cz∧Ref ([Z,G]++X) wr ri si∧RowK ([Z,G]++X) wr RA xs∧si=((cK xs).take i).foldl Site.dR t0∧(∀x,si.stat x=gu ((cK xs).take i) x)∧aa [] [] w wr)) (fun v9 _=>xs.length-(intOf v9).toNat)
  case atStart=>exact aQ.mk ⟨0,r1,t0,by omega,rfl,hZ9,oZ,AQ,abR,by simp,by simpa using afz,U9⟩
  case round=>
   obtain⟨i,ri,si,hi,rfl,kZ,kG,kR,row,hsi,hst,U⟩:=hrel.out
   clear hrel hZ9 oZ AQ abR U9
   by_cases hlt:i<xs.length
   ·have hil:(i:Int)<(xs.length:Int):=by omega
    have hw1:=aA.wr ((i:Int)+1)
    have hlr:i<(cK xs).length:=by unfold cK;rw[length_map];exact hlt
    have jw:(cK xs)[i]=xs[i].rc:=getElem_map ..
    have hsp:cK xs=(cK xs).take i++xs[i].rc::(cK xs).drop (i+1):=by rw[←jw,←drop_eq_getElem_cons hlr,take_append_drop]
    have htk:(cK xs).take (i+1)=(cK xs).take i++[xs[i].rc]:=by rw[take_succ_eq_append_getElem hlr,jw]
    have hm:=q3 _ (jw▸getElem_mem hlr)
    have hg1:=hgd
    rw[hsp]at hg1
    obtain⟨g1,g2,g3⟩:=LD hg1 hst hm
    have hrc:=D6 kR.aJ.ok hm hst
    have hxb:=row.gB _ (getElem_mem hlt)
    have hyl:=hm.val
    obtain⟨ad,rfl,h0,hj⟩:=bR.at_ (f:=Rv.cells) (s:=5) (fun _=>rfl) row.rd hlt
    have XF:=hdn (show si.dR xs[i].rc=((cK xs).take (i+1)).foldl Site.dR t0∧∀x,(si.dR xs[i].rc).stat x=gu ((cK xs).take (i+1)) x from by
     rw[htk,foldl_append,←hsi];exact⟨rfl,hrc.st⟩)
    clear hsp hg1 hrc hsi jw hlr htk
    generalize xs[i]=y at *
    have hys:0≤y.s∧y.s≤4095:=hm.slot
    have ib:(⟨y.r,y.t⟩:Bl).may 7=true:=Bl.jb.2 ⟨hm.round,hm.site⟩
    rw[g1]at XF
    have e0:=h0 _ rfl
    have e1:=hj 1 _ (by omega) rfl
    have e2:=hj 2 _ (by omega) rfl
    have e3:=hj 3 _ (by omega) rfl
    have e4:=hj 4 _ (by omega) rfl
    have Et:=kR.state y.s
    have hpl:=kR.aJ.st y.s
    have VR:=kR.aJ.ok.stat y.s
    obtain⟨Wr,hWr⟩:=ex1 wr
    rw[hWr]at kZ kG kR row hxb e0 e1 e2 e3 e4 Et U ⊢
    have LZ:∀w',aa [] [] Wr w'→ak w' Z 63 ri.cells.toArray:=fun w' u=>kZ.upd u
    have p1:∀w',aa [] [] Wr w'→w'.cell? ⟨(ad.add (i*5)).block,(ad.add (i*5)).off+1,none⟩=some (.int .i64 y.s):=fun w' u=>u.cell e1 (by simp)
    have CS:∀w',aa [] [] Wr w'→Calls prog 92 #[.agg ri.cells.toArray,.int .i64 y.s] w' fun e w''=>e=.returned (ri.state y.s).val∧aa [] [] w' w'':=fun w' u=>kV w' ri ((kR.grow u).mem) y.s
    obtain⟨T,hT⟩:=ex1 (ri.state y.s)
    rw[hT]at CS Et hpl
    have Ik:T.pl=si.stat y.rc.slot:=hpl
    rw[←hpl]at VR
    rw[←Ik]at XF g2 g3
    have ve:∀k∈([Z,G]++X),k<Wr.heap.size:=fun k hk=>by
     rcases mem_append.1 hk with hk|hk
     ·simp only[mem_cons,not_mem_nil,or_false]at hk
      rcases hk with rfl|rfl
      ·exact kZ.lt
      ·exact kG.lt
     ·have:=hX k hk;have:=U.size;omega
    have atN:(ad.add (i*5)).block<Wr.heap.size:=World.block_lt_of_cell? Wr _ e0
    clear h0 hj g1 hT hpl Ik hWr
    repeat' go_step
    go_cut [10]from 43 to 92 (fun s10 wc=>aQ (∃K:Nat,s10=.pointer (some ⟨K,0,none⟩)∧ak wc K 166 T.cells.toArray∧Wr.heap.size≤K∧aa [] [] Wr wc))
    case first=>
     refine wp_region_held_drew (S:=fun w'=>aa [] [] Wr w') (by kernel_rfl) (aa.refl [] Wr).drew fun _=>?_
     refine mi 0 hii (ri).cells abx LZ ?_
     refine aF 1 ?_
     refine aF 2 ?_
     refine aF 3 ?_
     refine aF 4 ?_
     refine aF 5 ?_
     refine wpAnyH_ready (rs:=[6,7]) (by kernel_rfl) (by simp) ?_
     refine AllReadyH.cons rfl (fun K hK=>?_) (.cons rfl (fun K hK=>?_) .nil)
     ·skip
      go_simp
      refine(CS _ ‹aa [] [] Wr _›).mono ?_;rintro e wa ⟨rfl,ua⟩
      simp only[]
      have UA:=(‹aa [] [] Wr _›).trans ua
      refine aP hK (UA) fun _=>?_
      clear hK K
      refine aW 7 (fun K hK=>?_)
      obtain⟨Wm,M,vX,hM,fD,UM⟩:=az wa 166 #[.int .i64 0,.int .i64 0,.bool false,.int .i64 0,.int .i64 0,.slice none 0 0]
      have UC:=(UA).trans UM.g0
      have mQ:∀k∈[M],Wr.heap.size≤k:=by have:=(UA).size;simp only[mem_singleton];rintro k rfl;omega
      have oC:=fD
      go_simp
      refine aP hK (UC) fun _=>?_
      clear hK K
      refine aW 8 (fun K hK=>?_)
      refine cu rfl _ _ 166 rfl pO rfl T.cells rfl pQ oC rfl rfl ?_
      intro Wn eu un
      have UN:=(UC).aB mQ un
      refine aP hK (UN) fun _=>?_
      clear hK K
      refine dnH ?_ _
      refine wk ?_
      go_meet
      exact aQ.mk ⟨M,rfl,eu,by have:=mQ M (by simp);omega,UN⟩
     ·skip
      obtain⟨Wm,M,vX,hM,fD,UM⟩:=az Wr.drew 166 #[.int .i64 0,.int .i64 0,.bool false,.int .i64 0,.int .i64 0,.slice none 0 0]
      have UC:=((aa.refl [] Wr).drew).trans UM.g0
      have mQ:∀k∈[M],Wr.heap.size≤k:=by have:=((aa.refl [] Wr).drew).size;simp only[mem_singleton];rintro k rfl;omega
      have oC:=fD
      go_simp
      refine aP hK (UC) fun _=>?_
      clear hK K
      refine aW 6 (fun K hK=>?_)
      go_simp
      refine(CS _ ‹aa [] [] Wr _›).mono ?_;rintro e wa ⟨rfl,ua⟩
      simp only[]
      have UA:=UC.trans ua
      have oC:=fD.upd ua
      refine aP hK (UA) fun _=>?_
      clear hK K
      refine aW 8 (fun K hK=>?_)
      refine cu rfl _ _ 166 rfl pO rfl T.cells rfl pQ oC rfl rfl ?_
      intro Wn eu un
      have UN:=(UA).aB mQ un
      refine aP hK (UN) fun _=>?_
      clear hK K
      refine dnH ?_ _
      refine wk ?_
      go_meet
      exact aQ.mk ⟨M,rfl,eu,by have:=mQ M (by simp);omega,UN⟩
    case rest=>
     obtain⟨K,rfl,kK,hKr,uc⟩:=hcut.out
     obtain⟨Wc,hWc⟩:=ex1 wc
     rw[hWc]at kK uc ⊢
     have kZc:=kZ.upd uc
     have kGc:=kG.upd uc
     have nc:=kR.grow uc
     have Kv:=row.grow uc
     have uF:=Et.grow uc
     have Gc:=hxb.grow uc
     have Uc:=U.trans uc
     have gM:∀k∈([Z,G]++X),k<Wc.heap.size:=fun k hk=>by have h1:=ve k hk;have h2:=uc.size;omega
     have yo:K∉[Z]:=by have:=ve Z (by simp);simp only[mem_singleton];omega
     have hKw:∀k∈[K],w.heap.size≤k:=by simp only[mem_singleton];rintro k rfl;have:=U.size;omega
     have hKf:∀{g:Nat}{t:TypeId}{cs:Array Value},ak Wr g t cs→g∉[K]:=fun hb=>by have:=hb.lt;simp only[mem_singleton];omega
     replace e0:=uc.cell e0 (by simp)
     replace e1:=uc.cell e1 (by simp)
     replace e2:=uc.cell e2 (by simp)
     replace e3:=uc.cell e3 (by simp)
     replace e4:=uc.cell e4 (by simp)
     clear hcut hWc LZ p1 CS
     by_cases hk:y.k=1
     ·have dk:(y.k==1)=true:=by simpa using hk
      have HN:=hdn (show si.turn y.s {T.pl with p:=⟨y.r,y.t⟩} =_∧∀x,(si.turn y.s {T.pl with p:=⟨y.r,y.t⟩}).stat x=_ from by have:=XF.out;rw[if_pos (show y.rc.kind=1 from hk)]at this;exact this)
      have hz0:({T.pl with p:=⟨y.r,y.t⟩} :Sp).same Sp.zero=false:=by rw[if_pos (show y.rc.kind=1 from hk)]at g3;exact g3
      have hz1:({T.pl with p:=⟨y.r,y.t⟩} :Sp).b.length≤2048∧({T.pl with p:=⟨y.r,y.t⟩} :Sp).p.may 7=true∧({T.pl with p:=⟨y.r,y.t⟩} :Sp).at_.may 7=true:=⟨VR.1,ib,VR.2.2⟩
      obtain⟨T1,hT1⟩:∃T1:aN,{T with p:=⟨y.r,y.t⟩} =T1:=⟨_,rfl⟩
      have k0:Wc.cell? ⟨K,0,none⟩=some (.int .i64 T.p.r):=kK.cell 0
      have f0:=kK.frozen 0
      have XG:=kK.aO 0 (.int .i64 y.r)
      have k1:(Wc.setCell ⟨K,0,none⟩ (.int .i64 y.r)).cell? ⟨K,1,none⟩=some (.int .i64 T.p.s):=XG.cell 1
      have k1':Wc.cell? ⟨K,1,none⟩=some (.int .i64 T.p.s):=kK.cell 1
      have f1:=XG.frozen 1
      have f1':=kK.frozen 1
      obtain⟨Wq,zH⟩:=ex1 ((Wc.setCell ⟨K,0,none⟩ (.int .i64 y.r)).setCell ⟨K,1,none⟩ (.int .i64 y.t))
      have uq:aa [K] [K] Wc Wq:=by rw[←zH];exact((aa.refl [K] Wc).setCell (p:=⟨K,0,none⟩) (.inl (by simp)) _).setCell (p:=⟨K,1,none⟩) (.inl (by simp)) _
      have uJ:ak Wq K 166 T1.cells.toArray:=by rw[←zH,←hT1];exact XG.aO 1 (.int .i64 y.t)
      have rA:aa [] [] Wr Wq:=uc.aB (by simp only[mem_singleton];rintro k rfl;exact hKr) uq
      have Sg:=kZ.upd rA
      have Gq:=kG.upd rA
      have nq:=kR.grow rA
      have vU:=row.grow rA
      have rR:dU ([Z,G]++X) Wq T1.A T1.n T1.b:=by rw[←hT1];exact Et.grow rA
      have Uq:=U.trans rA
      have qa:∀k∈([Z,G]++X),k<Wq.heap.size:=fun k hk=>by have h1:=ve k hk;have h2:=rA.size;omega
      have hbK:(ad.add (i*5)).block∉[K]:=by simp only[mem_singleton];omega
      have P1:=uq.cell e1 hbK
      clear uq rA XG kK kZc kGc nc Kv uF Gc Uc gM kZ kG kR row Et hxb U
      refine wk ?_
      clear k0 f0 k1 k1' f1 f1' zH e0 e1 e2 e3 e4
      have hT1:T1.pl= {T.pl with p:=⟨y.r,y.t⟩}:=by rw[←hT1];rfl
      have Si:=hdn (show si.turn y.s T1.pl=((cK xs).take (i+1)).foldl Site.dR t0∧∀x,(si.turn y.s T1.pl).stat x=gu ((cK xs).take (i+1)) x from by rw[hT1];exact HN.out)
      have iy:∀k,k∈[Z]→(ad.add (i*5)).block≠k:=fun k hk e=>by
       rw[gq]at e
       rw[mem_singleton]at hk
       exact vU.off Z (by unfold dV;rw[if_neg (by omega)];simp[ah,e,hk]) (by simp)
      have p1:∀w',aa [Z] [Z] Wq w'→w'.cell? ⟨(ad.add (i*5)).block,(ad.add (i*5)).off+1,none⟩=some (.int .i64 y.s):=fun w' u=>u.cell P1 (by simpa using iy Z (by simp))
      have t0:∀w',aa [Z] [Z] Wq w'→w'.cell? ⟨K,0,none⟩=some (.int .i64 T1.p.r):=fun w' u=>(uJ.upd u (by simpa using yo)).cell 0
      have t1:∀w',aa [Z] [Z] Wq w'→w'.cell? ⟨K,1,none⟩=some (.int .i64 T1.p.s):=fun w' u=>(uJ.upd u (by simpa using yo)).cell 1
      have t2:∀w',aa [Z] [Z] Wq w'→w'.cell? ⟨K,2,none⟩=some (.bool T1.so):=fun w' u=>(uJ.upd u (by simpa using yo)).cell 2
      have t3:∀w',aa [Z] [Z] Wq w'→w'.cell? ⟨K,3,none⟩=some (.int .i64 T1.at_.r):=fun w' u=>(uJ.upd u (by simpa using yo)).cell 3
      have t4:∀w',aa [Z] [Z] Wq w'→w'.cell? ⟨K,4,none⟩=some (.int .i64 T1.at_.s):=fun w' u=>(uJ.upd u (by simpa using yo)).cell 4
      have t5:∀w',aa [Z] [Z] Wq w'→w'.cell? ⟨K,5,none⟩=some (.slice T1.A T1.n T1.c):=fun w' u=>(uJ.upd u (by simpa using yo)).cell 5
      have VS:∀w',aa [Z] [Z] Wq w'→Calls prog 154 #[.agg ri.cells.toArray,.int .i64 y.s,.agg #[.int .i64 T1.p.r,.int .i64 T1.p.s,.bool T1.so,.int .i64 T1.at_.r,.int .i64 T1.at_.s,.slice T1.A T1.n T1.c]] w' fun e w''=>∃v,e=.returned v∧Came ([Z,G]++X) w' w'' v (si.turn y.s T1.pl):=fun w' u=>by
       have:=Ja ([Z,G]++X) w' ri si (nq.upd u) (fun k hk=>by have h1:=qa k hk;have h2:=u.size;omega) y.s (by omega) T1 (rR.upd u) (by rw[hT1];exact hz0) (by rw[hT1];exact hz1)
       rw[ai.arr]at this
       exact this
      clear P1 uJ
      refine wk ?_
      refine wp_region_held_drew (S:=fun w'=>aa [Z] [Z] Wq w') (by kernel_rfl) (aa.refl [Z] Wq).drew fun _=>?_
      refine aF 1 ?_
      refine aF 2 ?_
      refine aF 3 ?_
      refine aF 4 ?_
      refine aF 5 ?_
      refine aF 6 ?_
      refine aW 0 (fun K hK=>?_)
      refine ku rfl _ _ rfl hii (fun _=>rfl) rfl ri.cells abx Sg.drew ?_
      refine aP hK ((aa.refl [Z] Wq).drew) fun _=>?_
      clear hK K
      refine aW 7 (fun K hK=>?_)
      go_simp
      refine(VS _ (‹aa [Z] [Z] Wq _›)).mono ?_;rintro e wa ⟨v,rfl,ra,rfl,na,ua⟩
      simp only[]
      rw[ai.arr]
      have UA:aa [Z] [Z] Wq wa:=(‹aa [Z] [Z] Wq _›).trans (ua.up _)
      have dh:aa [] [] Wq wa:=(aa.refl [] Wq).drew.trans ua
      have Sj:ak wa Z 63 ri.cells.toArray:=Sg.upd dh
      refine aP hK (UA) fun _=>?_
      clear hK K
      refine aW 8 (fun K hK=>?_)
      refine mf ra.cells hii abx Sj ?_
      intro Wn hZn un
      have UN:aa [Z] [Z] Wq Wn:=UA.trans un
      refine aP hK (UN) fun _=>?_
      clear hK K
      refine dnH ?_ _
      have nn:Ref ([Z,G]++X) Wn ra (si.turn y.s T1.pl):=na.upd un
      have oh:=Gq.upd UN hGZ
      have xQ:=vU.upd UN
      have lI:aa [] [] w Wn:=Uq.aB hZw UN
      clear un na ua dh UA UN Sj
      refine wk ?_
      exact⟨aQ.mk ⟨i+1,ra,si.turn y.s T1.pl,by omega,by simp,hZn,oh,nn,xQ,Si.out.1,Si.out.2,lI⟩,by simp[intOf];omega⟩
     ·have dk:(y.k==1)=false:=beq_false_of_ne hk
      have hac:¬ bg ⟨y.r,y.t⟩ T.p<0:=g2 hk
      have HN:=hdn (show si.turn y.s ⟨⟨y.r,y.t⟩,true,⟨y.r,y.t⟩,y.b⟩=_∧∀x,(si.turn y.s ⟨⟨y.r,y.t⟩,true,⟨y.r,y.t⟩,y.b⟩).stat x=_ from by have:=XF.out;rw[if_neg (show ¬ y.rc.kind=1 from hk)]at this;exact this)
      have hz0:(⟨⟨y.r,y.t⟩,true,⟨y.r,y.t⟩,y.b⟩:Sp).same Sp.zero=false:=by rw[if_neg (show ¬ y.rc.kind=1 from hk)]at g3;exact g3
      have hz1:(⟨⟨y.r,y.t⟩,true,⟨y.r,y.t⟩,y.b⟩:Sp).b.length≤2048∧(⟨⟨y.r,y.t⟩,true,⟨y.r,y.t⟩,y.b⟩:Sp).p.may 7=true∧(⟨⟨y.r,y.t⟩,true,⟨y.r,y.t⟩,y.b⟩:Sp).at_.may 7=true:=⟨hyl,ib,ib⟩
      obtain⟨T2,oP⟩:∃T2:aN,⟨⟨y.r,y.t⟩,true,⟨y.r,y.t⟩,y.A,y.n,y.c,y.b⟩=T2:=⟨_,rfl⟩
      have CA:∀w',aa [] [] Wc w'→Calls prog 153 #[.agg #[.int .i64 T.p.r,.int .i64 T.p.s,.bool T.so,.int .i64 T.at_.r,.int .i64 T.at_.s,.slice T.A T.n T.c],.agg #[.int .i64 y.r,.int .i64 y.t],.slice y.A y.n y.c] w' fun e w''=>e=.returned (.tuple #[.agg T2.cells.toArray,.bool true])∧aa [] [] w' w'':=fun w' _=>by
       refine(Av w' T ⟨y.r,y.t⟩ y.A y.n y.c).mono ?_
       rintro e w'' ⟨he,hu⟩
       rw[if_neg hac,dFx hac]at he
       exact⟨by rw[he,←oP];rfl,hu⟩
      have j0:∀w',aa [] [] Wc w'→w'.cell? ⟨K,0,none⟩=some (.int .i64 T.p.r):=fun w' u=>(kK.upd u).cell 0
      have j1:∀w',aa [] [] Wc w'→w'.cell? ⟨K,1,none⟩=some (.int .i64 T.p.s):=fun w' u=>(kK.upd u).cell 1
      have j2:∀w',aa [] [] Wc w'→w'.cell? ⟨K,2,none⟩=some (.bool T.so):=fun w' u=>(kK.upd u).cell 2
      have j3:∀w',aa [] [] Wc w'→w'.cell? ⟨K,3,none⟩=some (.int .i64 T.at_.r):=fun w' u=>(kK.upd u).cell 3
      have j4:∀w',aa [] [] Wc w'→w'.cell? ⟨K,4,none⟩=some (.int .i64 T.at_.s):=fun w' u=>(kK.upd u).cell 4
      have j5:∀w',aa [] [] Wc w'→w'.cell? ⟨K,5,none⟩=some (.slice T.A T.n T.c):=fun w' u=>(kK.upd u).cell 5
      have x2:∀w',aa [] [] Wc w'→w'.cell? ⟨(ad.add (i*5)).block,(ad.add (i*5)).off+2,none⟩=some (.int .i64 y.r):=fun w' u=>u.cell e2 (by simp)
      have x3:∀w',aa [] [] Wc w'→w'.cell? ⟨(ad.add (i*5)).block,(ad.add (i*5)).off+3,none⟩=some (.int .i64 y.t):=fun w' u=>u.cell e3 (by simp)
      have x4:∀w',aa [] [] Wc w'→w'.cell? ⟨(ad.add (i*5)).block,(ad.add (i*5)).off+4,none⟩=some (.slice y.A y.n y.c):=fun w' u=>u.cell e4 (by simp)
      repeat' go_step
      go_cut [11,12]from 43 to 92 (fun s11 s12 wc=>aQ (∃M:Nat,s11=.pointer (some ⟨M,0,none⟩)∧s12=.bool true∧ak wc M 166 T2.cells.toArray∧Wc.heap.size≤M∧aa [] [] Wc wc))
      case first=>
       refine wp_region_held_drew (S:=fun w'=>aa [] [] Wc w') (by kernel_rfl) (aa.refl [] Wc).drew fun _=>?_
       refine aF 0 ?_
       refine aF 1 ?_
       refine aF 2 ?_
       refine aF 3 ?_
       refine aF 4 ?_
       refine aF 5 ?_
       refine aF 6 ?_
       refine aF 7 ?_
       refine aF 8 ?_
       refine aF 9 ?_
       refine aF 10 ?_
       refine wpAnyH_ready (rs:=[11,15]) (by kernel_rfl) (by simp) ?_
       refine AllReadyH.cons rfl (fun K hK=>?_) (.cons rfl (fun K hK=>?_) .nil)
       ·skip
        go_simp
        refine(CA _ ‹aa [] [] Wc _›).mono ?_;rintro e wa ⟨rfl,ua⟩
        simp only[]
        have UA:=(‹aa [] [] Wc _›).trans ua
        refine aP hK (UA) fun _=>?_
        clear hK K
        refine aF 12 ?_
        refine aF 13 ?_
        refine aF 14 ?_
        refine aW 15 (fun K hK=>?_)
        obtain⟨Wm,M,vX,hM,fD,UM⟩:=az wa 166 #[.int .i64 0,.int .i64 0,.bool false,.int .i64 0,.int .i64 0,.slice none 0 0]
        have UC:=(UA).trans UM.g0
        have mQ:∀k∈[M],Wc.heap.size≤k:=by have:=(UA).size;simp only[mem_singleton];rintro k rfl;omega
        have oC:=fD
        go_simp
        refine aP hK (UC) fun _=>?_
        clear hK K
        refine aW 16 (fun K hK=>?_)
        refine cu rfl _ _ 166 rfl pO rfl T2.cells rfl pQ oC rfl rfl ?_
        intro Wn eu un
        have UN:=(UC).aB mQ un
        refine aP hK (UN) fun _=>?_
        clear hK K
        refine aF 17 ?_
        refine dnH ?_ _
        refine wk ?_
        go_meet
        exact aQ.mk ⟨M,rfl,rfl,eu,by have:=mQ M (by simp);omega,UN⟩
       ·skip
        obtain⟨Wm,M,vX,hM,fD,UM⟩:=az Wc.drew 166 #[.int .i64 0,.int .i64 0,.bool false,.int .i64 0,.int .i64 0,.slice none 0 0]
        have UC:=((aa.refl [] Wc).drew).trans UM.g0
        have mQ:∀k∈[M],Wc.heap.size≤k:=by have:=((aa.refl [] Wc).drew).size;simp only[mem_singleton];rintro k rfl;omega
        have oC:=fD
        go_simp
        refine aP hK (UC) fun _=>?_
        clear hK K
        refine aW 11 (fun K hK=>?_)
        go_simp
        refine(CA _ ‹aa [] [] Wc _›).mono ?_;rintro e wa ⟨rfl,ua⟩
        simp only[]
        have UA:=UC.trans ua
        have oC:=fD.upd ua
        refine aP hK (UA) fun _=>?_
        clear hK K
        refine aF 12 ?_
        refine aF 13 ?_
        refine aF 14 ?_
        refine aW 16 (fun K hK=>?_)
        refine cu rfl _ _ 166 rfl pO rfl T2.cells rfl pQ oC rfl rfl ?_
        intro Wn eu un
        have UN:=(UA).aB mQ un
        refine aP hK (UN) fun _=>?_
        clear hK K
        refine aF 17 ?_
        refine dnH ?_ _
        refine wk ?_
        go_meet
        exact aQ.mk ⟨M,rfl,rfl,eu,by have:=mQ M (by simp);omega,UN⟩
      case rest=>
       obtain⟨M,rfl,rfl,kM,hMr,ud⟩:=hcut.out
       obtain⟨Wd,hWd⟩:=ex1 wc
       clear hcut CA j0 j1 j2 j3 j4 j5 x2 x3 x4
       rw[hWd]at kM ud ⊢
       have kKd:=kK.upd ud
       clear hWd
       repeat' (fail_if_success with_reducible refine ek (t:=166) rfl ?_);first|go_values|go_skip|go_guarded|go_step|go_upon|simp only[];go_at_K
       refine eZ rfl _ 166 rfl pO (fun _=>rfl) rfl T2.cells pQ kM ?_
       repeat' (fail_if_success with_reducible refine eT (t:=166) rfl ?_);first|go_values|go_skip|go_guarded|go_step|go_upon|simp only[];go_at_K
       refine di rfl _ _ 166 rfl pO rfl T2.cells rfl pQ kKd rfl rfl ?_
       intro Wq uJ uq
       have rA:aa [] [] Wr Wq:=(uc.trans ud).aB (by simp only[mem_singleton];rintro k rfl;exact hKr) uq
       have Sg:=kZ.upd rA
       have Gq:=kG.upd rA
       have nq:=kR.grow rA
       have vU:=row.grow rA
       have rR:dU ([Z,G]++X) Wq T2.A T2.n T2.b:=by rw[←oP];exact hxb.grow rA
       have Uq:=U.trans rA
       have qa:∀k∈([Z,G]++X),k<Wq.heap.size:=fun k hk=>by have h1:=ve k hk;have h2:=rA.size;omega
       have hbK:(ad.add (i*5)).block∉[K]:=by simp only[mem_singleton];omega
       have P1:=uq.cell (ud.cell e1 (by simp)) hbK
       clear uq rA ud kKd kM kK kZc kGc nc Kv uF Gc Uc gM kZ kG kR row Et hxb U e0 e1 e2 e3 e4
       have oP:T2.pl=⟨⟨y.r,y.t⟩,true,⟨y.r,y.t⟩,y.b⟩:=by rw[←oP];rfl
       have Si:=hdn (show si.turn y.s T2.pl=((cK xs).take (i+1)).foldl Site.dR t0∧∀x,(si.turn y.s T2.pl).stat x=gu ((cK xs).take (i+1)) x from by rw[oP];exact HN.out)
       have iy:∀k,k∈[Z]→(ad.add (i*5)).block≠k:=fun k hk e=>by
        rw[gq]at e
        rw[mem_singleton]at hk
        exact vU.off Z (by unfold dV;rw[if_neg (by omega)];simp[ah,e,hk]) (by simp)
       have p1:∀w',aa [Z] [Z] Wq w'→w'.cell? ⟨(ad.add (i*5)).block,(ad.add (i*5)).off+1,none⟩=some (.int .i64 y.s):=fun w' u=>u.cell P1 (by simpa using iy Z (by simp))
       have t0:∀w',aa [Z] [Z] Wq w'→w'.cell? ⟨K,0,none⟩=some (.int .i64 T2.p.r):=fun w' u=>(uJ.upd u (by simpa using yo)).cell 0
       have t1:∀w',aa [Z] [Z] Wq w'→w'.cell? ⟨K,1,none⟩=some (.int .i64 T2.p.s):=fun w' u=>(uJ.upd u (by simpa using yo)).cell 1
       have t2:∀w',aa [Z] [Z] Wq w'→w'.cell? ⟨K,2,none⟩=some (.bool T2.so):=fun w' u=>(uJ.upd u (by simpa using yo)).cell 2
       have t3:∀w',aa [Z] [Z] Wq w'→w'.cell? ⟨K,3,none⟩=some (.int .i64 T2.at_.r):=fun w' u=>(uJ.upd u (by simpa using yo)).cell 3
       have t4:∀w',aa [Z] [Z] Wq w'→w'.cell? ⟨K,4,none⟩=some (.int .i64 T2.at_.s):=fun w' u=>(uJ.upd u (by simpa using yo)).cell 4
       have t5:∀w',aa [Z] [Z] Wq w'→w'.cell? ⟨K,5,none⟩=some (.slice T2.A T2.n T2.c):=fun w' u=>(uJ.upd u (by simpa using yo)).cell 5
       have VS:∀w',aa [Z] [Z] Wq w'→Calls prog 154 #[.agg ri.cells.toArray,.int .i64 y.s,.agg #[.int .i64 T2.p.r,.int .i64 T2.p.s,.bool T2.so,.int .i64 T2.at_.r,.int .i64 T2.at_.s,.slice T2.A T2.n T2.c]] w' fun e w''=>∃v,e=.returned v∧Came ([Z,G]++X) w' w'' v (si.turn y.s T2.pl):=fun w' u=>by
        have:=Ja ([Z,G]++X) w' ri si (nq.upd u) (fun k hk=>by have h1:=qa k hk;have h2:=u.size;omega) y.s (by omega) T2 (rR.upd u) (by rw[oP];exact hz0) (by rw[oP];exact hz1)
        rw[ai.arr]at this
        exact this
       clear P1 uJ
       refine wk ?_
       refine wp_region_held_drew (S:=fun w'=>aa [Z] [Z] Wq w') (by kernel_rfl) (aa.refl [Z] Wq).drew fun _=>?_
       refine aF 1 ?_
       refine aF 2 ?_
       refine aF 3 ?_
       refine aF 4 ?_
       refine aF 5 ?_
       refine aF 6 ?_
       refine aW 0 (fun K hK=>?_)
       refine ku rfl _ _ rfl hii (fun _=>rfl) rfl ri.cells abx Sg.drew ?_
       refine aP hK ((aa.refl [Z] Wq).drew) fun _=>?_
       clear hK K
       refine aW 7 (fun K hK=>?_)
       go_simp
       refine(VS _ (‹aa [Z] [Z] Wq _›)).mono ?_;rintro e wa ⟨v,rfl,ra,rfl,na,ua⟩
       simp only[]
       rw[ai.arr]
       have UA:aa [Z] [Z] Wq wa:=(‹aa [Z] [Z] Wq _›).trans (ua.up _)
       have dh:aa [] [] Wq wa:=(aa.refl [] Wq).drew.trans ua
       have Sj:ak wa Z 63 ri.cells.toArray:=Sg.upd dh
       refine aP hK (UA) fun _=>?_
       clear hK K
       refine aW 8 (fun K hK=>?_)
       refine mf ra.cells hii abx Sj ?_
       intro Wn hZn un
       have UN:aa [Z] [Z] Wq Wn:=UA.trans un
       refine aP hK (UN) fun _=>?_
       clear hK K
       refine dnH ?_ _
       have nn:Ref ([Z,G]++X) Wn ra (si.turn y.s T2.pl):=na.upd un
       have oh:=Gq.upd UN hGZ
       have xQ:=vU.upd UN
       have lI:aa [] [] w Wn:=Uq.aB hZw UN
       clear un na ua dh UA UN Sj
       refine wk ?_
       exact⟨aQ.mk ⟨i+1,ra,si.turn y.s T2.pl,by omega,by simp,hZn,oh,nn,xQ,Si.out.1,Si.out.2,lI⟩,by simp[intOf];omega⟩
   ·obtain rfl:i=xs.length:=by omega
    have hil:¬ ((xs.length:Int)<(xs.length:Int)):=by omega
    have Q8:=hdn (show F=si by rw[pG.out,hsi,take_of_length_le (by unfold cK;rw[length_map];exact Nat.le_refl _)])
    clear hsi hst
    repeat' (fail_if_success with_reducible refine ek (t:=63) rfl ?_);go_step
    refine bF hii kZ abx ?_
    refine bK ?_
    refine bL ri.cells hii abx kG ?_
    intro W8 aX u8
    refine wk ?_
    exact fG results86 hii aX abx ⟨_,rfl,ri,rfl,by rw[Q8.out];exact(kR.upd u8).less,U.aB aR u8⟩
