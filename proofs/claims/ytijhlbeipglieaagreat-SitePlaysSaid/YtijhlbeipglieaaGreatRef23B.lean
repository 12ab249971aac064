/- For SitePlays. -/
import Derived.Test.YtijhlbeipglieaaGreatPkRefK
set_option linter.all false
set_option maxRecDepth 100000
set_option maxHeartbeats 16000000
namespace Go.Proofs.YtijhlbeipglieaaGreat
open Go.RowKit aA Go.Maps Go.Proofs.Tryz List
theorem XI(X:List Nat)(w:World)(r:ai)(s:Site)(h:Ref X w r s)(hX:∀k∈X,k<w.heap.size)(hl:s.held.length≤500000000)(hQ:s.down=false→Folds Qr {s with dn:=s.db.length,held:=[]} (s.held.filter fun m=>decide (m.to=(s.me:Int)))) :
  Calls prog 83 #[r.val] w fun e w'=>∃v A c told,e=.returned (.tuple #[v,.slice A (told:List Mv).length c])∧told.map Mv.ms=s.sync.2∧pV X w' A told∧Came X w w' v s.sync.1:=by
 obtain⟨ii,hii,abx,W,H,eW,hH,hB,U0,W2,G,fu,hG,hBG,U2,hB2,dY,aK,hs0,hs2,hY,hHw,aR,nY,gV,h2,hX2,qG⟩:=yY h hX 63 cz
 have hok:=h.aJ.ok
 have c3:W2.cell? ⟨H,3,none⟩=some (.bool s.down):=by rw[hB2.cell 3];show some (Value.bool r.down)=_;rw[h.aJ.down]
 obtain⟨dn,hdU⟩:=ex1 s.down
 rw[hdU]at c3
 obtain⟨F1,hF1⟩:=ex1 s.sync.1
 obtain⟨F2,hF2⟩:=ex1 s.sync.2
 have HF:=hdn (show s.sync=(F1,F2) by rw[←hF1,←hF2])
 rw[hF1,hF2,ai.arr]
 clear hF1 hF2
 cases dn with
 |true=>
  have bC:=hdn (show F1=s∧F2= [] by
   have:=HF.out;unfold Site.sync at this;rw[if_pos hdU]at this
   injection this with e1 e2;exact⟨e1.symm,e2.symm⟩)
  clear hdU hQ
  go_enter func83,ntmps83
  repeat' (fail_if_success with_reducible refine ek (t:=63) rfl ?_);go_step
  refine bF hii hB2 abx ?_
  refine bK ?_
  refine bL r.cells hii abx hBG ?_
  intro W8 aX u8
  refine wk ?_
  exact ug results83 hii aX abx ⟨_,none,0,[],rfl,by rw[bC.out.2];rfl,⟨⟨rfl,Rd.none_⟩,by simp,by simp[dV]⟩,r,rfl,by rw[bC.out.1];exact(h2.upd u8).less,aK.aB aR u8⟩
 |false=>
  have hq:=hQ hdU
  have hsh:=h.aJ.held
  have Kg:∀x∈r.held,x.ms.May:=fun x hx=>hok.held _ (by rw[←hsh];exact mem_map_of_mem hx)
  have bC:F1=((s.held.filter fun m=>decide (m.to=(s.me:Int))).foldl Site.take {s with dn:=s.db.length,held:=[]})∧F2=s.held.filter fun m=>decide (m.to≠(s.me:Int)):=by
   have:=HF.out;unfold Site.sync at this;rw[if_neg (by rw[hdU];simp)]at this
   injection this with e1 e2;exact⟨e1.symm,e2.symm⟩
  obtain⟨s1,hs1⟩:∃s1:Site,{s with dn:=s.db.length,held:=[]} =s1:=⟨_,rfl⟩
  have aa9:s1.me=s.me:=by rw[←hs1]
  rw[hs1]at hq bC
  have e1:s.held.filter (fun m=>decide (m.to=(s.me:Int)))=(r.held.filter (fun m=>decide (m.t=(s.me:Int)))).map Mv.ms:=by rw[←hsh,filter_map];rfl
  have e2:s.held.filter (fun m=>decide (m.to≠(s.me:Int)))=(r.held.filter (fun m=>decide (m.t≠(s.me:Int)))).map Mv.ms:=by rw[←hsh,filter_map];rfl
  rw[e1]at hq bC
  rw[e2]at bC
  have hll:r.held.length≤500000000:=by rw[h.aJ.hl];exact hl
  have ajg:=h2.ae5
  have c4:W2.cell? ⟨H,4,none⟩=some (.slice r.D.A r.D.n r.D.c):=hB2.cell 4
  have c5:W2.cell? ⟨H,5,none⟩=some (.int .i64 (r.dn:Int)):=hB2.cell 5
  have CC:=QN W2 r.D r.dn
  simp only[mO]at CC
  obtain⟨HA,Gp⟩:=ex1 r.HA
  obtain⟨l,hl0⟩:=ex1 r.held
  rw[hl0]at hq bC hll ajg Kg
  rw[Gp]at ajg
  have HQ:=hdn hq
  have HF1:=hdn bC.1
  have uA:=hdn bC.2
  clear hQ hq bC hsh e1 e2 HF hdU
  go_enter func83,ntmps83
  repeat' go_step
  refine CC.mono ?_;rintro e w3 ⟨rfl,u3⟩
  clear CC c3 c4 c5
  have hB3:=hB2.upd u3
  have hG3:=hBG.upd u3
  have h3:=h2.grow u3
  have BP:=ajg.grow u3
  have U3:=aK.trans u3
  obtain⟨Wa,hWa⟩:=ex1 (w3.setCell ⟨H,4,none⟩ (.slice r.D.A r.D.n r.D.c))
  obtain⟨Wb,Nh⟩:=ex1 (Wa.setCell ⟨H,5,none⟩ (.int .i64 (r.D.n:Int)))
  obtain⟨Wc,hWc⟩:=ex1 (Wb.setCell ⟨H,21,none⟩ (.slice none 0 0))
  have c4:w3.cell? ⟨H,4,none⟩=some (.slice r.D.A r.D.n r.D.c):=hB3.cell 4
  have f4:=hB3.frozen 4
  have ua:aa [H] [H] w3 Wa:=by rw[←hWa];exact(aa.refl [H] w3).setCell (p:=⟨H,4,none⟩) (.inl (by simp)) _
  have hBa:=hB3.aO 4 (.slice r.D.A r.D.n r.D.c)
  rw[hWa]at hBa
  have c5:Wa.cell? ⟨H,5,none⟩=some (.int .i64 (r.dn:Int)):=hBa.cell 5
  have c5':w3.cell? ⟨H,5,none⟩=some (.int .i64 (r.dn:Int)):=hB3.cell 5
  have f5:=hBa.frozen 5
  have f5':=hB3.frozen 5
  have ub:aa [H] [H] Wa Wb:=by rw[←Nh];exact(aa.refl [H] Wa).setCell (p:=⟨H,5,none⟩) (.inl (by simp)) _
  have hBb:=hBa.aO 5 (.int .i64 (r.D.n:Int))
  rw[Nh]at hBb
  have c21:Wb.cell? ⟨H,21,none⟩=some (.slice HA l.length r.hc):=by rw[←Gp,←hl0];exact hBb.cell 21
  have f21:=hBb.frozen 21
  have uc:aa [H] [H] Wb Wc:=by rw[←hWc];exact(aa.refl [H] Wb).setCell (p:=⟨H,21,none⟩) (.inl (by simp)) _
  obtain⟨r1,hr1⟩:∃r1:ai,{r with dn:=r.D.n,HA:=none,hc:=0,held:=[]} =r1:=⟨_,rfl⟩
  have fM:ak Wc H 63 r1.cells.toArray:=by
   have:=hBb.aO 21 (.slice none 0 0)
   rw[hWc]at this
   rw[←hr1]
   exact this
  have kR:Ref ([H,G]++X) Wc r1 s1:=by rw[←hr1,←hs1];exact(((h3.upd ua).upd ub).upd uc).JS
  have Kv:=((BP.upd ua).upd ub).upd uc
  have eO:=((hG3.upd ua gV).upd ub gV).upd uc gV
  have Uc:=((U3.aB hHw ua).aB hHw ub).aB hHw uc
  have gM:∀k∈[H,G]++X,k<Wc.heap.size:=fun k hk=>by have h1:=hX2 k hk;have h4:=u3.size;have h5:=ua.size;have h6:=ub.size;have h7:=uc.size;omega
  have hwc:=Uc.size
  clear ua ub uc hBa hBb hr1 h3 hs1 ajg BP hB3 hG3 U3 Gp hl0
  repeat' first|go_step|simp only[];go_at_K
  clear c4 f4 c5 c5' f5 f5' c21 f21 hWa Nh hWc
  go_loopw [5,6] (fun v5 v6 wr=>aQ (∃(i:Nat)(A1:Option Addr)(c1:Nat)(ri:ai)(si:Site),i≤l.length∧v6=.int .i64 (i:Int)∧v5=.slice A1 ((l.take i).filter (fun m=>decide (m.t≠(s.me:Int)))).length c1∧
   aA.Own 32 10 wr A1 ((l.take i).filter (fun m=>decide (m.t≠(s.me:Int)))).length c1 (((l.take i).filter (fun m=>decide (m.t≠(s.me:Int)))).flatMap Mv.cells)∧(∀k∈ah A1,Wc.heap.size≤k)∧ak wr H 63 ri.cells.toArray∧ak wr G 63 cz∧
   Ref (ah A1++([H,G]++X)) wr ri si∧pV (ah A1++([H,G]++X)) wr HA l∧si=(((l.take i).filter (fun m=>decide (m.t=(s.me:Int)))).map Mv.ms).foldl Site.take s1∧Wc.heap.size≤wr.heap.size∧aa [] [] w wr)) (fun _ v6 _=>l.length-(intOf v6).toNat)
  case atStart=>exact aQ.mk ⟨0,none,0,r1,s1,by omega,rfl,rfl,aA.Own.nil _ _ _,by simp[ah],fM,eO,kR,Kv,rfl,Nat.le_refl _,Uc⟩
  case round=>
   obtain⟨i,A1,c1,ri,si,hi,rfl,rfl,ho,hA1,kB,kG,kR,row,hsi,hwr,U⟩:=hrel.out
   clear hrel Kv fM eO Uc
   have wP:=hdn hsi
   clear hsi
   have Gp:H∉ah A1:=fun hm=>by have h1:=hA1 _ hm;have h2:=gM H (by simp);omega
   have FH:G∉ah A1:=fun hm=>by have h1:=hA1 _ hm;have h2:=gM G (by simp);omega
   have zb:∀k∈ah A1,k∉[H]:=fun k hk hm=>by rw[mem_singleton]at hm;exact Gp (hm▸hk)
   have hAG:∀k∈ah A1,k∉[G]:=fun k hk hm=>by rw[mem_singleton]at hm;exact FH (hm▸hk)
   have Ca:∀k∈ah A1,w.heap.size≤k:=fun k hk=>by have h1:=hA1 k hk;omega
   obtain⟨FN,Eb⟩:=ex1 ((l.take i).filter (fun m=>decide (m.t≠(s.me:Int))))
   by_cases hlt:i<l.length
   ·have hil:(i:Int)<(l.length:Int):=by omega
    have hw1:=aA.wr ((i:Int)+1)
    obtain⟨ad,rfl,h0,hj⟩:=bR.at_ (f:=Mv.cells) (s:=10) (fun _=>rfl) row.rd hlt
    have pX:(ad.add (i*10)).block≠H:=fun e=>by
     rw[gq]at e
     exact row.off H (by unfold dV;rw[if_neg (by omega)];simp[ah,e]) (by simp)
    have HTN:=hdn (vI (p:=fun m=>decide (m.t≠(s.me:Int))) hlt)
    have Ns:=hdn (vI (p:=fun m=>decide (m.t=(s.me:Int))) hlt)
    rw[Eb]at HTN ho
    obtain⟨FE,hFE⟩:=ex1 ((l.take i).filter (fun m=>decide (m.t=(s.me:Int))))
    rw[hFE]at Ns wP
    have hln:FN.length≤i:=by rw[←Eb];exact Nat.le_trans (length_filter_le _ _) (by rw[length_take];omega)
    have hyl:=getElem_mem hlt
    have hqq:l[i].t=(s.me:Int)→Qr si l[i].ms:=fun he=>by
     have aiK:l.filter (fun m=>decide (m.t=(s.me:Int)))=FE++l[i]::(l.drop (i+1)).filter (fun m=>decide (m.t=(s.me:Int))):=by
      conv=>lhs;rw[←take_append_drop i l,drop_eq_getElem_cons hlt]
      rw[filter_append,filter_cons,if_pos (by simpa using he),hFE]
     have hq:=HQ.out
     rw[aiK,map_append,map_cons]at hq
     rw[wP.out]
     exact hq.at_
    have hby:=row.gB _ hyl
    have hmy:=Kg _ hyl
    have hme:ri.me=s.me:=by rw[kR.aJ.me,wP.out,(Site.vF _ _).me,aa9]
    rw[Eb]
    clear hFE Eb
    generalize l[i]=y at *
    have d0:=h0 _ rfl
    have d1:=hj 1 _ (by omega) rfl
    have d2:=hj 2 _ (by omega) rfl
    have d3:=hj 3 _ (by omega) rfl
    have d4:=hj 4 _ (by omega) rfl
    have d5:=hj 5 _ (by omega) rfl
    have d6:=hj 6 _ (by omega) rfl
    have d7:=hj 7 _ (by omega) rfl
    have d8:=hj 8 _ (by omega) rfl
    have d9:=hj 9 _ (by omega) rfl
    have p0:∀N,(wr.drewN N).cell? ⟨H,0,none⟩=some (.int .i64 (s.me:Int)):=fun N=>by rw[(kB.drewN N).cell 0];show some (Value.int .i64 (ri.me:Int))=_;rw[hme]
    have p2:∀N,(wr.drewN N).cell? ⟨(ad.add (i*10)).block,(ad.add (i*10)).off+2,none⟩=some (.int .i64 y.t):=fun N=>((aa.refl [] wr).drewN N).cell d2 (by simp)
    clear h0 hj hyl
    by_cases he:y.t=(s.me:Int)
    ·have dt:(y.t==(s.me:Int))=true:=by rw[he];exact beq_self_eq_true _
     have hq:=hqq he
     have HE:=hdn he
     clear he hqq
     repeat' go_step
     go_quiet (fail)
     obtain⟨Wq,zH⟩:=ex1 (wr.drewN nq)
     have uq:aa [] [] wr Wq:=by rw[←zH];exact(aa.refl [] wr).drewN nq
     rw[zH]
     have RY:=kB.upd uq
     have Gq:=kG.upd uq
     have Xv:=kR.grow uq
     have vU:=row.grow uq
     have hoq:=ho.upd uq
     have aft:=hby.grow uq
     have Xw:=U.trans uq
     have hxq:∀k∈(ah A1++([H,G]++X)),k<Wq.heap.size:=fun k hk=>by
      have h1:=uq.size
      rcases mem_append.1 hk with hk|hk
      ·have:=ho.lt k hk;omega
      ·have:=gM k hk;omega
     have afu:=uq.size
     have q0:∀w',aa [H] [H] Wq w'→w'.cell? (ad.add (i*10))=some (.int .i64 y.k):=fun w' u=>u.cell (uq.cell d0 (by simp)) (by simpa using pX)
     have q1:∀w',aa [H] [H] Wq w'→w'.cell? ⟨(ad.add (i*10)).block,(ad.add (i*10)).off+1,none⟩=some (.int .i64 y.f):=fun w' u=>u.cell (uq.cell d1 (by simp)) (by simpa using pX)
     have q2:∀w',aa [H] [H] Wq w'→w'.cell? ⟨(ad.add (i*10)).block,(ad.add (i*10)).off+2,none⟩=some (.int .i64 y.t):=fun w' u=>u.cell (uq.cell d2 (by simp)) (by simpa using pX)
     have q3:∀w',aa [H] [H] Wq w'→w'.cell? ⟨(ad.add (i*10)).block,(ad.add (i*10)).off+3,none⟩=some (.int .i64 y.s):=fun w' u=>u.cell (uq.cell d3 (by simp)) (by simpa using pX)
     have q4:∀w',aa [H] [H] Wq w'→w'.cell? ⟨(ad.add (i*10)).block,(ad.add (i*10)).off+4,none⟩=some (.int .i64 y.br):=fun w' u=>u.cell (uq.cell d4 (by simp)) (by simpa using pX)
     have q5:∀w',aa [H] [H] Wq w'→w'.cell? ⟨(ad.add (i*10)).block,(ad.add (i*10)).off+5,none⟩=some (.int .i64 y.bs):=fun w' u=>u.cell (uq.cell d5 (by simp)) (by simpa using pX)
     have q6:∀w',aa [H] [H] Wq w'→w'.cell? ⟨(ad.add (i*10)).block,(ad.add (i*10)).off+6,none⟩=some (.int .i64 y.hr):=fun w' u=>u.cell (uq.cell d6 (by simp)) (by simpa using pX)
     have q7:∀w',aa [H] [H] Wq w'→w'.cell? ⟨(ad.add (i*10)).block,(ad.add (i*10)).off+7,none⟩=some (.int .i64 y.hs):=fun w' u=>u.cell (uq.cell d7 (by simp)) (by simpa using pX)
     have q8:∀w',aa [H] [H] Wq w'→w'.cell? ⟨(ad.add (i*10)).block,(ad.add (i*10)).off+8,none⟩=some (.bool y.so):=fun w' u=>u.cell (uq.cell d8 (by simp)) (by simpa using pX)
     have q9:∀w',aa [H] [H] Wq w'→w'.cell? ⟨(ad.add (i*10)).block,(ad.add (i*10)).off+9,none⟩=some (.slice y.A y.n y.c):=fun w' u=>u.cell (uq.cell d9 (by simp)) (by simpa using pX)
     have CT:∀w',aa [H] [H] Wq w'→Calls prog 143 #[.agg ri.cells.toArray,.agg #[.int .i64 y.k,.int .i64 y.f,.int .i64 y.t,.int .i64 y.s,.int .i64 y.br,.int .i64 y.bs,.int .i64 y.hr,.int .i64 y.hs,.bool y.so,.slice y.A y.n y.c]] w' fun e w''=>∃v,e=.returned v∧Came (ah A1++([H,G]++X)) w' w'' v (si.take y.ms):=fun w' u=>by
      have:=JL (ah A1++([H,G]++X)) w' ri si (Xv.upd u) (fun k hk=>by have h1:=hxq k hk;have h2:=u.size;omega) y hmy (aft.upd u) hq.1.2.1 hq.2 (fun p hp=>(hq.1.2.2 p hp).1) (fun p hp=>(hq.1.2.2 p hp).2) (hq.1.1 y.s)
      rw[ai.arr,Mv.aH]at this
      exact this
     clear d0 d1 d2 d3 d4 d5 d6 d7 d8 d9 p0 p2 zH kB kG kR row ho hby uq U hq
     refine wk ?_
     refine wp_region_held_drew (S:=fun w'=>aa [H] [H] Wq w') (by kernel_rfl) (aa.refl [H] Wq).drew fun _=>?_
     refine aF 1 ?_
     refine aF 2 ?_
     refine aF 3 ?_
     refine aF 4 ?_
     refine aW 0 (fun K hK=>?_)
     refine ku rfl _ _ rfl hii (fun _=>rfl) rfl ri.cells abx RY.drew ?_
     refine aP hK ((aa.refl [H] Wq).drew) fun _=>?_
     clear hK K
     refine aW 5 (fun K hK=>?_)
     go_simp
     refine(CT _ (‹aa [H] [H] Wq _›)).mono ?_;rintro e wa ⟨v,rfl,ra,rfl,na,ua⟩
     simp only[]
     rw[ai.arr]
     have UA:aa [H] [H] Wq wa:=(‹aa [H] [H] Wq _›).trans (ua.up _)
     have dh:aa [] [] Wq wa:=(aa.refl [] Wq).drew.trans ua
     have hHa:ak wa H 63 ri.cells.toArray:=RY.upd dh
     refine aP hK (UA) fun _=>?_
     clear hK K
     refine aW 6 (fun K hK=>?_)
     refine mf ra.cells hii abx hHa ?_
     intro Wn Ra un
     have UN:aa [H] [H] Wq Wn:=UA.trans un
     refine aP hK (UN) fun _=>?_
     clear hK K
     refine dnH ?_ _
     have nn:Ref (ah A1++([H,G]++X)) Wn ra (si.take y.ms):=na.upd un
     have xQ:=vU.upd UN
     have hon:=hoq.upd UN zb
     have oh:=Gq.upd UN gV
     have lI:aa [] [] w Wn:=Xw.aB hHw UN
     have afv:=UN.size
     clear un na ua dh UA UN hHa
     refine wk ?_
     have hF1:(l.take (i+1)).filter (fun m=>decide (m.t≠(s.me:Int)))=FN:=by rw[HTN.out,if_neg (by simpa using HE.out),append_nil]
     have hF2:(l.take (i+1)).filter (fun m=>decide (m.t=(s.me:Int)))=FE++[y]:=by rw[Ns.out,if_pos (by simpa using HE.out)]
     exact⟨aQ.mk ⟨i+1,A1,c1,ra,si.take y.ms,by omega,by simp,by rw[hF1],by rw[hF1];exact hon,hA1,Ra,oh,nn,xQ,by rw[hF2,wP.out];simp,by omega,lI⟩,by simp[intOf];omega⟩
    ·have dt:(y.t==(s.me:Int))=false:=beq_false_of_ne he
     have HE:=hdn he
     clear he hqq
     repeat' go_step
     go_quiet (fail)
     obtain⟨Wq,zH⟩:=ex1 (wr.drewN nq)
     have uq:aa [] [] wr Wq:=by rw[←zH];exact(aa.refl [] wr).drewN nq
     rw[zH]
     have RY:=kB.upd uq
     have Gq:=kG.upd uq
     have Xv:=kR.grow uq
     have vU:=row.grow uq
     have hoq:=ho.upd uq
     have Xw:=U.trans uq
     have afu:=uq.size
     replace d0:=uq.cell d0 (by simp)
     replace d1:=uq.cell d1 (by simp)
     replace d2:=uq.cell d2 (by simp)
     replace d3:=uq.cell d3 (by simp)
     replace d4:=uq.cell d4 (by simp)
     replace d5:=uq.cell d5 (by simp)
     replace d6:=uq.cell d6 (by simp)
     replace d7:=uq.cell d7 (by simp)
     replace d8:=uq.cell d8 (by simp)
     replace d9:=uq.cell d9 (by simp)
     clear p0 p2 zH kB kG kR row ho hby uq U
     refine bN ?_
     refine bQ rfl _ _ 26 rfl 32 underlying26 wF rfl (by decide) hoq rfl Wq.heap.size rfl rfl (news:=y.cells) rfl rfl (by unfold maxLen;omega) (by omega) ?_
     intro A3 c3 w3 bY bM
     have kB3:=RY.upd bM Gp
     have mP:=Gq.upd bM FH
     have kI:=Xv.swap bM
     have BP:=vU.swap bM
     have hA3:∀k∈ah A3,Wc.heap.size≤k:=fun k hk=>by
      rcases bM.fresh k hk with hh|hh
      ·exact hA1 k hh
      ·omega
     have U3:=Xw.aB Ca bM
     have afv:=bM.size
     clear d0 d1 d2 d3 d4 d5 d6 d7 d8 d9 hoq RY Gq Xv vU Xw bM
     refine wk ?_
     have hF1:(l.take (i+1)).filter (fun m=>decide (m.t≠(s.me:Int)))=FN++[y]:=by rw[HTN.out,if_pos (by simpa using HE.out)]
     have hF2:(l.take (i+1)).filter (fun m=>decide (m.t=(s.me:Int)))=FE:=by rw[Ns.out,if_neg (by simpa using HE.out),append_nil]
     exact⟨aQ.mk ⟨i+1,A3,c3,ri,si,by omega,by simp,by rw[hF1];simp,by rw[hF1];simpa using bY,hA3,kB3,mP,kI,BP,by rw[hF2];exact wP.out,by omega,U3⟩,by simp[intOf];omega⟩
   ·obtain rfl:i=l.length:=by omega
    have hil:¬ ((l.length:Int)<(l.length:Int)):=by omega
    rw[take_length]at Eb wP ho
    rw[take_length,Eb]
    rw[Eb]at uA ho
    rw[←wP.out]at HF1
    have hin:∀x∈FN,x∈l:=fun x hx=>by rw[←Eb]at hx;exact(mem_filter.1 hx).1
    clear Eb wP
    repeat' (fail_if_success with_reducible refine ek (t:=63) rfl ?_);go_step
    refine bF hii kB abx ?_
    refine bK ?_
    refine bL ri.cells hii abx kG ?_
    intro W8 aX u8
    refine wk ?_
    exact ug results83 hii aX abx ⟨_,A1,c1,FN,rfl,uA.out.symm,⟨⟨rfl,(ho.upd u8 hAG).rd⟩,fun x hx=>((row.gB x (hin x hx)).upd u8).less,fun k hk hm=>by have h1:=hA1 k (ji k hk);have h2:=gM k (by simp[hm]);omega⟩,ri,rfl,by rw[HF1.out];exact(kR.upd u8).less,U.aB aR u8⟩
