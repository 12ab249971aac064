/- For SitePlays. -/
import Derived.Test.YtijhlbeipglieaaGreatPkRefK
set_option linter.all false
set_option maxRecDepth 100000
set_option maxHeartbeats 16000000
namespace Go.Proofs.YtijhlbeipglieaaGreat
open Go.RowKit aA Go.Maps Go.Proofs.Tryz List
theorem XH(X:List Nat)(w:World)(r:ai)(s:Site)(h:Ref X w r s)(hX:∀k∈X,k<w.heap.size)(hT:s.down=false→s.BU∧s.eF.held.length≤800000000)(hO:s.dH) :
  Calls prog 82 #[r.val] w fun e w'=>∃v,e=.returned v∧Came X w w' v s.tick:=by
 obtain⟨ii,hii,abx,W,H,eW,hH,hB,U0,W2,G,fu,hG,hBG,U2,hB2,dY,aK,hs0,hs2,hY,hHw,aR,nY,gV,h2,hX2,qG⟩:=yY h hX 63 cz
 have hok:=h.aJ.ok
 obtain⟨iw,Rf,OG⟩:=JQ
 have c3:W2.cell? ⟨H,3,none⟩=some (.bool s.down):=by rw[hB2.cell 3];show some (Value.bool r.down)=_;rw[h.aJ.down]
 obtain⟨dn,hdU⟩:=ex1 s.down
 rw[hdU]at c3 hT
 obtain⟨F,hF⟩:=ex1 s.tick
 rw[hF,ai.arr]
 have HF:=hdn hF
 clear hF
 cases dn with
 |true=>
  have bC:=hdn (show F=s by rw[←HF.out];unfold Site.tick;rw[if_pos hdU])
  clear hdU hT
  go_enter func82,ntmps82
  repeat' (fail_if_success with_reducible refine ek (t:=63) rfl ?_);go_step
  refine bF hii hB2 abx ?_
  refine bK ?_
  refine bL r.cells hii abx hBG ?_
  intro W8 aX u8
  refine wk ?_
  exact fG results82 hii aX abx ⟨_,rfl,r,rfl,by rw[bC.out];exact(h2.upd u8).less,aK.aB aR u8⟩
 |false=>
  obtain⟨hT,hT4⟩:=hT rfl
  have Ns:=hdn (show F=if s.eF.front<4096 then s.eF.others (Site.iW s.eF.front (decide ((s.eF.front:Int)<s.dA.bJ))) s.eF.n else s.eF by rw[←HF.out];exact Site.zK s hdU)
  have hwl:r.wt.length=7:=rfl
  have hwz:∀l:List Int,l.length=7→iw.size=(dI r.me r.n r.pat l).length:=fun l h7=>by rw[iB h7];exact OG
  have Xx:=QP W2 r.me r.n (r.pat:Int) r.wt rfl (by rw[h.aJ.n];exact hok.n7) (by rw[h.aJ.wt];exact hT.wt)
  obtain⟨l,hl2⟩:=ex1 (bu (r.me:Int) r.wt r.n)
  have DK:l.length=7:=by rw[←hl2,yC];exact hwl
  rw[hl2]at Xx
  have hl3:bu (s.me:Int) s.wt s.n=l:=by rw[←hl2,h.aJ.me,h.aJ.wt,h.aJ.n]
  simp only[iA]at Xx
  clear hl2 HF hdU
  have hRl:r.R.length≤4096:=h.aJ.rl
  have hRs:=h.aJ.rs
  go_enter func82,ntmps82
  repeat' (fail_if_success with_reducible refine ek (t:=61) rfl ?_);first|go_values|go_skip|go_guarded|go_step|go_upon|simp only[];go_at_K
  refine oz rfl _ 61 rfl Rf (fun _=>rfl) rfl (dI r.me r.n r.pat r.wt) (hwz _ hwl) (fun u hu=>r.xM hB2 hu) (fun j u _ hu=>r.xM hB2 hu) ?_
  repeat' go_step
  refine Xx.mono ?_;rintro e w8 ⟨rfl,u8⟩
  clear Xx c3
  have AJ:=hB2.upd u8
  repeat' (fail_if_success with_reducible refine eT (t:=61) rfl ?_);first|go_values|go_skip|go_guarded|go_step|go_upon|simp only[];go_at_K
  refine vC rfl _ _ 61 rfl Rf (k:=11) rfl r.pre (dI r.me r.n r.pat r.wt) [.slice r.HA r.held.length r.hc] (dI r.me r.n r.pat l) rfl rfl (hwz l DK) (by rw[←r.vT];exact AJ) (by rw[iB DK,iB hwl]) (uj _ _ _ _) ?_
  intro W9 ru u9
  rw[←r.DI DK]at ru
  have AQ:=((h2.grow u8).upd u9).uQ DK
  have oZ:=(hBG.upd u8).upd u9 gV
  have rV:∀k∈[H,G]++X,k<W9.heap.size:=fun k hk=>by have h1:=hX2 k hk;have h2:=u8.size;have h3:=u9.size;omega
  have U9:=(aK.trans u8).aB hHw u9
  obtain⟨r1,hr1⟩:=ex1 (r.ag6 l)
  obtain⟨s1,hs1⟩:∃s1:Site,{s with wt:=l} =s1:=⟨_,rfl⟩
  have fI:r1.R=r.R:=by rw[←hr1];rfl
  have VL:=hdn (show s1.rs=s.rs∧s1.held=s.held∧s1.n=s.n from by rw[←hs1];exact⟨rfl,rfl,rfl⟩)
  have hO1:s1.dH:=by rw[←hs1,←hl3];exact hO.bu
  have ht1:s.kT=s1.again:=by unfold Site.kT;rw[hl3,hs1]
  rw[hr1]at ru
  rw[hr1,hs1]at AQ
  clear AJ u8 u9 hr1 hs1 hB2 hBG h2 hX2 aK hl3
  obtain⟨m,hm⟩:=ex1 r1.R.length
  have hm4:m≤4096:=by rw[←hm,fI];exact hRl
  have NK:∀x∈r1.R,(x.bG:Int)≤4000000000000000000:=fun x hx=>by
   have:=hT.bG x.pl (by rw[←hRs,←fI];exact mem_map_of_mem hx)
   have e:x.pl.2.bG=x.bG:=rfl
   omega
  have q9:W9.cell? ⟨H,9,none⟩=some (.slice r1.RA m r1.rc):=by rw[←hm];exact ru.cell 9
  have QR:=((aa.refl [] W9).alloc (.cells #[] 230)).cell q9 (by simp)
  have hr0:=AQ.mem.R.rd.alloc (.cells #[] 230)
  rw[hm]at hr0
  have F4:aa [] (ah (some ⟨W9.heap.size,0,none⟩)) W9 (W9.alloc (.cells #[] 230)):=((aa.refl [] W9).alloc _).gives (by intro k hk;simp[ah]at hk;subst hk;exact .inr (Nat.le_refl _))
  have adu:∀u∈r1.R.flatMap aL.cells,u.oneCell'=true:=fun u hu=>by
   obtain⟨z,-,hu⟩:=mem_flatMap.1 hu
   simp only[aL.cells,mem_cons,not_mem_nil,or_false]at hu
   rcases hu with rfl|rfl|rfl|rfl|rfl|rfl|rfl|rfl<;>rfl
  repeat' (fail_if_success with_reducible refine Ag rfl ?_);go_step
  refine gT _ rfl _ _ 58 rfl 230 underlying58 rf rfl (by decide) (Own.made 230 8 W9) rfl hr0 rfl adu (by unfold maxLen;omega) (by omega) ?_
  intro A7 c7 w7 jW gJ
  have U7:=F4.trans gJ
  rw[Nat.zero_add,nil_append]at jW
  have nu:∀k∈ah A7,W9.heap.size≤k:=fun k hk=>by
   rcases U7.fresh k hk with hh|hh
   ·cases hh
   ·exact hh
  have yg:aa [] [] W9 w7:=U7.g0
  have Jr:Ref (ah A7++([H,G]++X)) w7 r1 s1:=(AQ.more nu).grow yg
  have oW:=ru.upd yg
  have xZ:=oZ.upd yg
  have Gp:H∉ah A7:=fun mg=>by have h1:=nu _ mg;have h2:=rV H (by simp);omega
  have FH:G∉ah A7:=fun mg=>by have h1:=nu _ mg;have h2:=rV G (by simp);omega
  have Rh:∀k∈ah A7,k∉[H,G]++X:=fun k hk mg=>by have h1:=nu _ hk;have h2:=rV k mg;omega
  have Ca:∀k∈ah A7,w.heap.size≤k:=fun k hk=>by have h1:=nu k hk;have h2:=U9.size;omega
  have U97:=U9.trans yg
  have hX7:∀k∈[H,G]++X,k<w7.heap.size:=fun k hk=>by have h1:=rV k hk;have h2:=yg.size;omega
  clear hr0 QR q9 F4 gJ U7 yg adu AQ ru oZ rV U9 nu
  repeat' go_step
  go_loopw [4] (fun v4 wr=>aQ (∃(i:Nat),i≤m∧v4=.int .i64 (i:Int)∧aA.Own 230 8 wr A7 m c7 ((jR r1.R i).flatMap aL.cells)∧aa (ah A7) (ah A7) w7 wr)) (fun v4 _=>m-(intOf v4).toNat)
  case atStart=>exact aQ.mk ⟨0,by omega,rfl,by rw[OH];exact jW,aa.refl _ _⟩
  case round=>
   obtain⟨i,hi,rfl,ho,UR⟩:=hrel.out
   clear hrel
   by_cases hlt:i<m
   ·have hil:(i:Int)<(m:Int):=by omega
    have Xy:i<r1.R.length:=by omega
    have hw1:=aA.wr ((i:Int)+1)
    have hag:=NK _ (getElem_mem Xy)
    have hw2:=aA.wr ((r1.R[i].bG:Int)+1)
    obtain⟨gA,hA,hf,how,hu⟩:=ho.write (k:=i*8+7) (by omega) (.int .i64 ((r1.R[i].bG:Int)+1))
    have Mq:bR aL.cells 8 wr A7 m (jR r1.R i):=⟨by rw[zu,hm],ho.rd⟩
    obtain⟨ad,hA',p0',p1'⟩:=bR.at_ (f:=aL.cells) (s:=8) (fun _=>rfl) Mq (i:=i) (by rw[zu];exact Xy)
    rw[Vk r1.R Xy]at p1'
    rw[hA]at hA'
    injection hA' with had
    have p1:=p1' 7 _ (by omega) rfl
    have hp:(⟨(ad.add (i*8)).block,(ad.add (i*8)).off+7,none⟩:Addr)=⟨gA,i*8+7,none⟩:=by rw[←had,add0]
    rw[Rk r1.R Xy]at how
    rw[←hp]at hf how hu
    rw[had]at hA
    obtain⟨ag,abC⟩:=ex1 (r1.R[i].bG)
    rw[abC]at hw2 hu how p1
    have HA7:=hdn hA
    have UN:=UR.trans hu
    obtain⟨Wn,ZA⟩:=ex1 (wr.setCell ⟨(ad.add (i*8)).block,(ad.add (i*8)).off+7,none⟩ (.int .i64 ((ag:Int)+1)))
    rw[ZA]at how UN hu
    clear p0' p1' hp had Mq hag abC ho UR hA
    have hA:=HA7.out
    clear HA7
    refine wk ?_
    exact⟨aQ.mk ⟨i+1,by omega,by simp,how,UN⟩,by simp[intOf];omega⟩
   ·obtain rfl:i=m:=by omega
    have hil:¬ ((i:Int)<(i:Int)):=by omega
    have ho2:=ho
    rw[←hm,Rj,hm]at ho2
    have Xz:=oW.upd UR Gp
    have kGx:=xZ.upd UR FH
    have kRx:Ref ([H,G]++X) wr r1 s1:=(Jr.upd UR (by simp +contextual)).less
    have hXx:∀k∈[H,G]++X,k<wr.heap.size:=fun k hk=>by have h1:=hX7 k hk;have h2:=UR.size;omega
    have Ux:=U97.aB Ca UR
    obtain⟨L,hL⟩:=ex1 (r1.R.map aL.older)
    have Rp:L.length=i:=by rw[←hL,length_map,hm]
    rw[hL]at ho2
    obtain⟨Wa,hWa⟩:=ex1 (wr.setCell ⟨H,9,none⟩ (.slice A7 i c7))
    obtain⟨r2,hr2⟩:∃r2:ai,{r1 with RA:=A7,rc:=c7,R:=r1.R.map aL.older} =r2:=⟨_,rfl⟩
    obtain⟨s2,hs2⟩:∃s2:Site,{s1 with rs:=bS (fun r=>{r with bG:=r.bG+1}) s1.rs} =s2:=⟨_,rfl⟩
    have c9:wr.cell? ⟨H,9,none⟩=some (.slice r1.RA r1.R.length r1.rc):=Xz.cell 9
    have f9:=Xz.frozen 9
    have ua:aa [H] [H] wr Wa:=by rw[←hWa];exact(aa.refl [H] wr).setCell (p:=⟨H,9,none⟩) (.inl (by simp)) _
    have gW:ak Wa H 63 r2.cells.toArray:=by
     rw[←hWa,←hr2,hL]
     have:=Xz.aO 9 (.slice A7 i c7)
     rw[←Rp]at this ⊢
     exact this
    have Nk:=kGx.upd ua gV
    have hoa:=ho2.upd ua (fun k hk mg=>Rh k hk (by rw[mem_singleton]at mg;simp[mg]))
    have RZ:Ref ([H,G]++X) Wa r2 s2:=by
     rw[←hr2,←hs2]
     exact(kRx.upd ua).ae7 (by rw[hL,hm];exact⟨Rp.symm,hoa.rd⟩) (by rw[hm];exact hoa.cap) (fun k hk=>Rh k (ji k hk))
    have abD:zw ([H,G]++X) Wa A7 L:=by
     have:=RZ.ae6
     rw[←hr2,hL]at this
     exact this
    have R7:L.map aL.pl=s2.rs:=by
     have:=RZ.aJ.rs
     rw[←hr2,hL]at this
     exact this
    have hXa:∀k∈[H,G]++X,k<Wa.heap.size:=fun k hk=>by have h1:=hXx k hk;have h2:=ua.size;omega
    have Ua:=Ux.aB hHw ua
    have ace:s2.Ok:=RZ.aJ.ok
    have R9:=hdn (show s2.held=s.held∧s2.n=s.n∧s.kT=(s2.rs.take 8).foldl (fun u p=>u.others (Site.asks p.2 p.1) u.n) s2 from by
     rw[ht1,Ri,←hs2];exact⟨VL.out.2.1,VL.out.2.2,rfl⟩)
    have hOt:s.kT.dH:=by rw[ht1];exact hO1.kin (Site.Gg _)
    clear ua Xz kGx kRx hXx Ux ho2 hoa hr2 hs2 VL hO1 ht1 oW xZ Jr hX7 U97 jW ho UR NK fI hm hL
    repeat' go_step
    clear c9 f9 hWa
    go_loopw [5] (fun v5 wr=>aQ (∃(j:Nat)(ri:ai)(si:Site),j≤i∧j≤8∧v5=.int .i64 (j:Int)∧ak wr H 63 ri.cells.toArray∧ak wr G 63 cz∧Ref ([H,G]++X) wr ri si∧zw ([H,G]++X) wr A7 L∧si=(s2.rs.take j).foldl (fun u p=>u.others (Site.asks p.2 p.1) u.n) s2∧aa [] [] w wr)) (fun v5 _=>i-(intOf v5).toNat)
    case atStart=>exact aQ.mk ⟨0,r2,s2,by omega,by omega,rfl,gW,Nk,RZ,abD,by simp,Ua⟩
    case round=>
     obtain⟨j,ri,si,hji,hj8,rfl,kB,kG,kR,row,hsi,U⟩:=hrel.out
     clear hrel gW Nk RZ abD Ua
     obtain⟨D,hD⟩:=ex1 ((decide (j<i)&&decide (j<8)))
     have HD:=hdn hD
     clear hD
     have hsn:=Vj s2.rs j s2 (by rw[R9.out.2.1];exact hok.n7)
     rw[←hsi,R9.out.1,R9.out.2.1]at hsn
     have hsl:si.held.length≤600000100:=by have:=hT.held;have:=hsn.1;omega
     have qa:∀k∈[H,G]++X,k<wr.heap.size:=fun k hk=>by
      have h1:=kB.lt
      have h3:=kG.lt
      simp only[cons_append,nil_append,mem_cons]at hk
      rcases hk with rfl|rfl|hk
      ·omega
      ·omega
      ·have:=hX k hk;have:=U.size;omega
     have gG:=kB.drew
     go_upto_region 11 with fail
     go_cut [46]from 39 to 55 (fun s46 wc=>s46=.bool D∧wr=wc)
     case first=>
      by_cases h1:j<i
      ·have hd1:decide (j<i)=true:=dTx h1
       have hi1:(j:Int)<(i:Int):=by omega
       by_cases h2:j<8
       ·have hd2:decide ((j:Int)<8)=true:=dTo
        clear gG
        refine wk ?_
        go_meet
        exact⟨by rw[←HD.out,hd1,dTx h2];rfl,rfl⟩
       ·have hd2:decide ((j:Int)<8)=false:=dFo
        clear gG
        refine wk ?_
        go_meet
        exact⟨by rw[←HD.out,dFx h2,Bool.and_false],rfl⟩
      ·have hd1:decide (j<i)=false:=dFx h1
       have hi1:¬ (j:Int)<(i:Int):=by omega
       clear gG
       refine wk ?_
       go_meet
       exact⟨by rw[←HD.out,hd1];rfl,rfl⟩
     case rest=>
      obtain⟨rfl,hwc⟩:=hcut
      subst hwc
      cases D with
      |true=>
       have hj:j<i∧j<8:=by have:=HD.out;simpa using this
       have hil:(j:Int)<(i:Int):=by omega
       have hjl:j<L.length:=by omega
       have hw1:=aA.wr ((j:Int)+1)
       obtain⟨ad,rfl,h0,hjc⟩:=bR.at_ (f:=aL.cells) (s:=8) (fun _=>rfl) row.rd hjl
       have hyb:=row.rb _ (getElem_mem hjl)
       have XA:=ace.rs L[j].pl (by rw[←R7];exact mem_map_of_mem (getElem_mem hjl))
       have hjs:j<s2.rs.length:=by rw[←R7,length_map];exact hjl
       have hgs:s2.rs[j]=L[j].pl:=by simp only[←R7,getElem_map]
       have afw:=hdn (show si.others (Site.asks L[j].pl.2 L[j].pl.1) si.n=(s2.rs.take (j+1)).foldl (fun u p=>u.others (Site.asks p.2 p.1) u.n) s2 by
        rw[take_succ_eq_append_getElem hjs,foldl_append,←hsi,hgs];rfl)
       clear hgs hjs hsi
       generalize L[j]=y at *
       have yl:dU ([H,G]++X) wr (ni y).A (ni y).n (ni y).b:=by
        unfold ni
        split
        ·exact hyb.v
        ·exact dU.nil _ _ _
       obtain⟨mA,lF⟩:∃mA:Mv,ni y=mA:=⟨_,rfl⟩
       have F7:=hdn (show mA.ms=Site.asks y.pl.2 y.pl.1 by rw[←lF,Bv])
       have hfA:mA.ms.Fit:=by rw[F7.out];exact Site.iT ⟨XA.1,XA.2.1⟩ XA.2.2.2.1 XA.2.2.1
       have XB:=hdn (show si.others mA.ms si.n=(s2.rs.take (j+1)).foldl (fun u p=>u.others (Site.asks p.2 p.1) u.n) s2 by rw[F7.out];exact afw.out)
       have Nf:∀w',aa [H] [H] wr w'→Calls prog 138 #[.agg #[.int .i64 y.slot,.int .i64 y.ax.r,.int .i64 y.ax.s,.slice y.PA y.pr.length y.pc,.bool y.so,.slice y.v.A y.v.n y.v.c,.slice y.VA y.vt.length y.vc,.int .i64 (y.bG:Int)]] w' fun e w''=>e=.returned mA.val∧aa [] [] w' w'':=fun w' _=>by
        have:=uX w' y
        rw[lF]at this
        exact this
       rw[lF]at yl
       have pX:(ad.add (j*8)).block≠H:=fun e=>by
        rw[gq]at e
        exact row.off H (by unfold dV;rw[if_neg (by omega)];simp[ah,e]) (by simp)
       have e0:=h0 _ rfl
       have q0:∀w',aa [H] [H] wr w'→w'.cell? (ad.add (j*8))=some (.int .i64 y.slot):=fun w' u=>u.cell e0 (by simpa using pX)
       have q1:∀w',aa [H] [H] wr w'→w'.cell? ⟨(ad.add (j*8)).block,(ad.add (j*8)).off+1,none⟩=some (.int .i64 y.ax.r):=fun w' u=>u.cell (hjc 1 _ (by omega) rfl) (by simpa using pX)
       have q2:∀w',aa [H] [H] wr w'→w'.cell? ⟨(ad.add (j*8)).block,(ad.add (j*8)).off+2,none⟩=some (.int .i64 y.ax.s):=fun w' u=>u.cell (hjc 2 _ (by omega) rfl) (by simpa using pX)
       have q3:∀w',aa [H] [H] wr w'→w'.cell? ⟨(ad.add (j*8)).block,(ad.add (j*8)).off+3,none⟩=some (.slice y.PA y.pr.length y.pc):=fun w' u=>u.cell (hjc 3 _ (by omega) rfl) (by simpa using pX)
       have q4:∀w',aa [H] [H] wr w'→w'.cell? ⟨(ad.add (j*8)).block,(ad.add (j*8)).off+4,none⟩=some (.bool y.so):=fun w' u=>u.cell (hjc 4 _ (by omega) rfl) (by simpa using pX)
       have q5:∀w',aa [H] [H] wr w'→w'.cell? ⟨(ad.add (j*8)).block,(ad.add (j*8)).off+5,none⟩=some (.slice y.v.A y.v.n y.v.c):=fun w' u=>u.cell (hjc 5 _ (by omega) rfl) (by simpa using pX)
       have q6:∀w',aa [H] [H] wr w'→w'.cell? ⟨(ad.add (j*8)).block,(ad.add (j*8)).off+6,none⟩=some (.slice y.VA y.vt.length y.vc):=fun w' u=>u.cell (hjc 6 _ (by omega) rfl) (by simpa using pX)
       have q7:∀w',aa [H] [H] wr w'→w'.cell? ⟨(ad.add (j*8)).block,(ad.add (j*8)).off+7,none⟩=some (.int .i64 (y.bG:Int)):=fun w' u=>u.cell (hjc 7 _ (by omega) rfl) (by simpa using pX)
       clear h0 hjc lF hyb e0
       repeat' go_step
       refine wp_region_held_drew (S:=fun w'=>aa [H] [H] wr w') (by kernel_rfl) (aa.refl [H] wr).drew fun _=>?_
       refine aF 1 ?_
       refine aF 2 ?_
       refine aF 3 ?_
       refine aF 4 ?_
       refine wpAnyH_ready (rs:=[0,5]) (by kernel_rfl) (by simp) ?_
       refine AllReadyH.cons rfl (fun K hK=>?_) (.cons rfl (fun K hK=>?_) .nil)
       ·skip
        refine uT hii gG abx ?_
        refine aP hK ((aa.refl [H] wr).drew) fun _=>?_
        clear hK K
        refine aW 5 (fun K hK=>?_)
        go_simp
        refine(Nf _ (‹aa [H] [H] wr _›)).mono ?_;rintro e wa ⟨rfl,ua⟩
        simp only[]
        have UA:aa [H] [H] wr wa:=(‹aa [H] [H] wr _›).trans (ua.up _)
        have dh:aa [] [] wr wa:=(aa.refl [] wr).drew.trans ua
        have gW:ak wa H 63 ri.cells.toArray:=gG.upd ua
        refine aP hK (UA) fun _=>?_
        clear hK K
        refine aW 6 (fun K hK=>?_)
        have CO:=jf ([H,G]++X) wa ri si (kR.grow dh) (fun k hk=>by have h1:=qa k hk;have h2:=dh.size;omega) (by omega) mA (yl.grow dh) hfA
        rw[ai.arr]at CO
        go_simp
        refine CO.mono ?_;rintro e wd ⟨v,rfl,rd,rfl,nd,ud⟩
        simp only[]
        rw[ai.arr]
        have UD:aa [H] [H] wr wd:=UA.trans (ud.up _)
        have lG:aa [] [] wr wd:=dh.trans ud
        have jI:ak wd H 63 ri.cells.toArray:=gW.upd ud
        refine aP hK (UD) fun _=>?_
        clear hK K
        refine aW 7 (fun K hK=>?_)
        refine mf rd.cells hii abx jI ?_
        intro Wn eu un
        have UN:aa [H] [H] wr Wn:=UD.trans un
        refine aP hK (UN) fun _=>?_
        clear hK K
        refine dnH ?_ _
        have nn:Ref ([H,G]++X) Wn rd (si.others mA.ms si.n):=nd.upd un
        have oh:ak Wn G 63 cz:=kG.upd UN gV
        have lI:aa [] [] w Wn:=U.aB hHw UN
        have xQ:zw ([H,G]++X) Wn (some ad) L:=row.upd UN
        clear un nd ud lG ua dh UA UD UN gW jI gG
        refine wk ?_
        exact⟨aQ.mk ⟨j+1,rd,_,by omega,by omega,by simp,eu,oh,nn,xQ,by rw[XB.out],lI⟩,by simp[intOf];omega⟩
       ·skip
        go_simp
        refine(Nf _ (‹aa [H] [H] wr _›)).mono ?_;rintro e wa ⟨rfl,ua⟩
        simp only[]
        have UA:aa [H] [H] wr wa:=(‹aa [H] [H] wr _›).trans (ua.up _)
        have dh:aa [] [] wr wa:=(aa.refl [] wr).drew.trans ua
        have gW:ak wa H 63 ri.cells.toArray:=gG.upd ua
        refine aP hK (UA) fun _=>?_
        clear hK K
        refine aW 0 (fun K hK=>?_)
        refine uT hii gW abx ?_
        refine aP hK (UA) fun _=>?_
        clear hK K
        refine aW 6 (fun K hK=>?_)
        have CO:=jf ([H,G]++X) wa ri si (kR.grow dh) (fun k hk=>by have h1:=qa k hk;have h2:=dh.size;omega) (by omega) mA (yl.grow dh) hfA
        rw[ai.arr]at CO
        go_simp
        refine CO.mono ?_;rintro e wd ⟨v,rfl,rd,rfl,nd,ud⟩
        simp only[]
        rw[ai.arr]
        have UD:aa [H] [H] wr wd:=UA.trans (ud.up _)
        have lG:aa [] [] wr wd:=dh.trans ud
        have jI:ak wd H 63 ri.cells.toArray:=gW.upd ud
        refine aP hK (UD) fun _=>?_
        clear hK K
        refine aW 7 (fun K hK=>?_)
        refine mf rd.cells hii abx jI ?_
        intro Wn eu un
        have UN:aa [H] [H] wr Wn:=UD.trans un
        refine aP hK (UN) fun _=>?_
        clear hK K
        refine dnH ?_ _
        have nn:Ref ([H,G]++X) Wn rd (si.others mA.ms si.n):=nd.upd un
        have oh:ak Wn G 63 cz:=kG.upd UN gV
        have lI:aa [] [] w Wn:=U.aB hHw UN
        have xQ:zw ([H,G]++X) Wn (some ad) L:=row.upd UN
        clear un nd ud lG ua dh UA UD UN gW jI gG
        refine wk ?_
        exact⟨aQ.mk ⟨j+1,rd,_,by omega,by omega,by simp,eu,oh,nn,xQ,by rw[XB.out],lI⟩,by simp[intOf];omega⟩
      |false=>
       have XC:j=8∨j=i:=by have:=HD.out;simp at this;omega
       have VM:si=s.kT:=by
        rw[hsi,R9.out.2.2]
        rcases XC with e|e
        ·rw[e]
        ·have Nt:s2.rs.length=i:=by rw[←R7,length_map,Rp]
         rw[take_of_length_le (by omega),take_of_length_le (by omega)]
       have hO3:si.dH:=by rw[VM];exact hOt
       have HT1:=hdn VM
       have xW:∀w',aa [H] [H] wr w'→Calls prog 88 #[.agg ri.cells.toArray] w' fun e w''=>e=.returned (.int .i64 si.bJ)∧aa [] [] w' w'':=fun w' u=>yP ([H,G]++X) w' ri si (kR.upd u)
       clear hsi VM XC row R7 Rp R9 hOt
       repeat' go_step
       go_cut []from 56 (fun wc=>aQ (∃rd,ak wc H 63 (ai.cells rd).toArray∧ak wc G 63 cz∧Ref ([H,G]++X) wc rd (si.skip si.bJ)∧aa [] [] w wc))
       case first=>
        refine wp_region_held_drew (S:=fun w'=>aa [H] [H] wr w') (by kernel_rfl) (aa.refl [H] wr).drew fun _=>?_
        refine wpAnyH_ready (rs:=[0,1]) (by kernel_rfl) (by simp) ?_
        refine AllReadyH.cons rfl (fun K hK=>?_) (.cons rfl (fun K hK=>?_) .nil)
        ·skip
         refine uT hii gG abx ?_
         refine aP hK ((aa.refl [H] wr).drew) fun _=>?_
         clear hK K
         refine aW 1 (fun K hK=>?_)
         refine uT hii gG abx ?_
         refine aP hK ((aa.refl [H] wr).drew) fun _=>?_
         clear hK K
         refine aW 2 (fun K hK=>?_)
         go_simp
         refine(xW _ (‹aa [H] [H] wr _›)).mono ?_;rintro e wa ⟨rfl,ua⟩
         simp only[]
         have UA:aa [H] [H] wr wa:=(‹aa [H] [H] wr _›).trans (ua.up _)
         have dh:aa [] [] wr wa:=(aa.refl [] wr).drew.trans ua
         have gW:ak wa H 63 ri.cells.toArray:=gG.upd ua
         refine aP hK (UA) fun _=>?_
         clear hK K
         refine aW 3 (fun K hK=>?_)
         have CO:=wM ([H,G]++X) wa ri si (kR.grow dh) (fun k hk=>by have h1:=qa k hk;have h2:=dh.size;omega) si.bJ (by omega)
         rw[ai.arr]at CO
         go_simp
         refine CO.mono ?_;rintro e wd ⟨v,rfl,rd,rfl,nd,ud⟩
         simp only[]
         rw[ai.arr]
         have UD:aa [H] [H] wr wd:=UA.trans (ud.up _)
         have lG:aa [] [] wr wd:=dh.trans ud
         have jI:ak wd H 63 ri.cells.toArray:=gW.upd ud
         refine aP hK (UD) fun _=>?_
         clear hK K
         refine aW 4 (fun K hK=>?_)
         refine mf rd.cells hii abx jI ?_
         intro Wn eu un
         have UN:aa [H] [H] wr Wn:=UD.trans un
         refine aP hK (UN) fun _=>?_
         clear hK K
         refine dnH ?_ _
         have nn:Ref ([H,G]++X) Wn rd (si.skip si.bJ):=nd.upd un
         have oh:ak Wn G 63 cz:=kG.upd UN gV
         have lI:aa [] [] w Wn:=U.aB hHw UN
         clear un nd ud lG ua dh UA UD UN gW jI gG
         refine wk ?_
         go_meet
         exact aQ.mk ⟨rd,eu,oh,nn,lI⟩
        ·skip
         refine uT hii gG abx ?_
         refine aP hK ((aa.refl [H] wr).drew) fun _=>?_
         clear hK K
         refine wpAnyH_ready (rs:=[0,2]) (by kernel_rfl) (by simp) ?_
         refine AllReadyH.cons rfl (fun K hK=>?_) (.cons rfl (fun K hK=>?_) .nil)
         ·skip
          refine uT hii gG abx ?_
          refine aP hK ((aa.refl [H] wr).drew) fun _=>?_
          clear hK K
          refine aW 2 (fun K hK=>?_)
          go_simp
          refine(xW _ (‹aa [H] [H] wr _›)).mono ?_;rintro e wa ⟨rfl,ua⟩
          simp only[]
          have UA:aa [H] [H] wr wa:=(‹aa [H] [H] wr _›).trans (ua.up _)
          have dh:aa [] [] wr wa:=(aa.refl [] wr).drew.trans ua
          have gW:ak wa H 63 ri.cells.toArray:=gG.upd ua
          refine aP hK (UA) fun _=>?_
          clear hK K
          refine aW 3 (fun K hK=>?_)
          have CO:=wM ([H,G]++X) wa ri si (kR.grow dh) (fun k hk=>by have h1:=qa k hk;have h2:=dh.size;omega) si.bJ (by omega)
          rw[ai.arr]at CO
          go_simp
          refine CO.mono ?_;rintro e wd ⟨v,rfl,rd,rfl,nd,ud⟩
          simp only[]
          rw[ai.arr]
          have UD:aa [H] [H] wr wd:=UA.trans (ud.up _)
          have lG:aa [] [] wr wd:=dh.trans ud
          have jI:ak wd H 63 ri.cells.toArray:=gW.upd ud
          refine aP hK (UD) fun _=>?_
          clear hK K
          refine aW 4 (fun K hK=>?_)
          refine mf rd.cells hii abx jI ?_
          intro Wn eu un
          have UN:aa [H] [H] wr Wn:=UD.trans un
          refine aP hK (UN) fun _=>?_
          clear hK K
          refine dnH ?_ _
          have nn:Ref ([H,G]++X) Wn rd (si.skip si.bJ):=nd.upd un
          have oh:ak Wn G 63 cz:=kG.upd UN gV
          have lI:aa [] [] w Wn:=U.aB hHw UN
          clear un nd ud lG ua dh UA UD UN gW jI gG
          refine wk ?_
          go_meet
          exact aQ.mk ⟨rd,eu,oh,nn,lI⟩
         ·skip
          go_simp
          refine(xW _ (‹aa [H] [H] wr _›)).mono ?_;rintro e wa ⟨rfl,ua⟩
          simp only[]
          have UA:aa [H] [H] wr wa:=(‹aa [H] [H] wr _›).trans (ua.up _)
          have dh:aa [] [] wr wa:=(aa.refl [] wr).drew.trans ua
          have gW:ak wa H 63 ri.cells.toArray:=gG.upd ua
          refine aP hK (UA) fun _=>?_
          clear hK K
          refine aW 0 (fun K hK=>?_)
          refine uT hii gW abx ?_
          refine aP hK (UA) fun _=>?_
          clear hK K
          refine aW 3 (fun K hK=>?_)
          have CO:=wM ([H,G]++X) wa ri si (kR.grow dh) (fun k hk=>by have h1:=qa k hk;have h2:=dh.size;omega) si.bJ (by omega)
          rw[ai.arr]at CO
          go_simp
          refine CO.mono ?_;rintro e wd ⟨v,rfl,rd,rfl,nd,ud⟩
          simp only[]
          rw[ai.arr]
          have UD:aa [H] [H] wr wd:=UA.trans (ud.up _)
          have lG:aa [] [] wr wd:=dh.trans ud
          have jI:ak wd H 63 ri.cells.toArray:=gW.upd ud
          refine aP hK (UD) fun _=>?_
          clear hK K
          refine aW 4 (fun K hK=>?_)
          refine mf rd.cells hii abx jI ?_
          intro Wn eu un
          have UN:aa [H] [H] wr Wn:=UD.trans un
          refine aP hK (UN) fun _=>?_
          clear hK K
          refine dnH ?_ _
          have nn:Ref ([H,G]++X) Wn rd (si.skip si.bJ):=nd.upd un
          have oh:ak Wn G 63 cz:=kG.upd UN gV
          have lI:aa [] [] w Wn:=U.aB hHw UN
          clear un nd ud lG ua dh UA UD UN gW jI gG
          refine wk ?_
          go_meet
          exact aQ.mk ⟨rd,eu,oh,nn,lI⟩
       case rest=>
        obtain⟨r3,kB3,mP,kI,U3⟩:=hcut.out
        obtain⟨W3,hW3⟩:=ex1 wc
        rw[hW3]at kB3 mP kI U3 ⊢
        obtain⟨s3,hs3⟩:=ex1 s.dA
        have e3:si.skip si.bJ=s3:=by rw[HT1.out,←hs3];rfl
        have hO4:s3.dH:=by rw[←e3];exact hO3.kin (Site.xN _ _)
        rw[e3]at kI
        have VN:=hT.beg
        have H4E:=hdn (show s.eF=(s3.late s3.bJ).foldl Site.dw s3 by rw[←hs3];rfl)
        rw[hs3]at VN
        have abF:=hdn (show F=if s.eF.front<4096 then s.eF.others (Site.iW s.eF.front (decide ((s.eF.front:Int)<s3.bJ))) s.eF.n else s.eF by rw[Ns.out,hs3])
        have aiH:=kI.aJ.ok
        have acf:s3.bJ≤4096:=by
         have h1:=kI.aJ.ok.top.2
         have h2:=kI.aJ.Og
         have h3:=wz r3.L 0 4096 (by omega) (fun p hp=>by have:=kI.aJ.lr p hp;omega)
         unfold Site.bJ
         omega
        have XD:=yP ([H,G]++X) W3 r3 s3 kI
        rw[ai.arr]at XD
        obtain⟨tp,htp⟩:=ex1 s3.bJ
        rw[htp]at XD VN abF H4E acf
        have WB:=hdn htp
        clear hcut hW3 e3 hs3 kB kG kR U hT HT1 Ns xW gG hO3 htp hsl hsn qa
        repeat' (fail_if_success with_reducible refine ek (t:=63) rfl ?_);go_step
        refine bF hii kB3 abx ?_
        repeat' go_step
        refine XD.mono ?_;rintro e w15 ⟨rfl,ry⟩
        have VO:=kB3.upd ry
        have abG:=mP.upd ry
        have n15:=kI.grow ry
        have Xj:=U3.trans ry
        have c7:w15.cell? ⟨H,7,none⟩=some (.slice r3.LA r3.L.length r3.lc):=VO.cell 7
        have CF:=oq w15 r3.LA r3.lc r3.L n15.mem.L n15.mem.big.2.1
        rw[n15.aJ.front]at CF
        obtain⟨fr,hfr⟩:=ex1 s3.front
        rw[hfr]at CF
        have pG:=hdn hfr
        clear kB3 mP kI U3 ry XD hfr
        repeat' first|go_step|simp only[];go_at_K
        refine CF.mono ?_;rintro e w16 ⟨rfl,rfl⟩
        clear CF c7
        refine wk ?_
        go_loopw [7,8] (fun v7 v8 wr=>aQ (∃(i:Nat)(c:Nat)(ri:ai)(si:Site),i≤tp.toNat-fr∧v8=.int .i64 ((fr:Int)+(i:Int))∧v7=.int .i64 (c:Int)∧c=(s3.dJ i).length∧c≤8∧ak wr H 63 ri.cells.toArray∧ak wr G 63 cz∧Ref ([H,G]++X) wr ri si∧si=(s3.dJ i).foldl Site.dw s3∧aa [] [] w wr)) (fun _ v8 _=>tp.toNat-(intOf v8).toNat)
        case atStart=>exact aQ.mk ⟨0,0,r3,s3,by omega,by simp,rfl,rfl,by omega,VO,abG,n15,rfl,Xj⟩
        case round=>
         obtain⟨q,c,ri,si,hq,rfl,rfl,hc,hc8,kB,kG,kR,hsi,U⟩:=hrel.out
         clear hrel VO abG n15 Xj
         have HC:=hdn hc
         clear hc
         obtain⟨D,hD⟩:=ex1 ((decide ((fr:Int)+(q:Int)<tp)&&decide (c<8)))
         have HD:=hdn hD
         clear hD
         have gG:=kB.drew
         have qa:∀k∈[H,G]++X,k<wr.heap.size:=fun k hk=>by
          have h1:=kB.lt
          have h3:=kG.lt
          simp only[cons_append,nil_append,mem_cons]at hk
          rcases hk with rfl|rfl|hk
          ·omega
          ·omega
          ·have:=hX k hk;have:=U.size;omega
         go_upto_region 18 with fail
         go_cut [71]from 65 to 81 (fun s71 wc=>s71=.bool D∧wr=wc)
         case first=>
          by_cases h1:(fr:Int)+(q:Int)<tp
          ·have hd1:decide ((fr:Int)+(q:Int)<tp)=true:=dTx h1
           by_cases h2:c<8
           ·have hd2:decide ((c:Int)<8)=true:=dTo
            clear gG
            refine wk ?_
            go_meet
            exact⟨by rw[←HD.out,hd1,dTx h2];rfl,rfl⟩
           ·have hd2:decide ((c:Int)<8)=false:=dFo
            clear gG
            refine wk ?_
            go_meet
            exact⟨by rw[←HD.out,dFx h2,Bool.and_false],rfl⟩
          ·have hd1:decide ((fr:Int)+(q:Int)<tp)=false:=dFx h1
           clear gG
           refine wk ?_
           go_meet
           exact⟨by rw[←HD.out,hd1];rfl,rfl⟩
         case rest=>
          obtain⟨rfl,hwc⟩:=hcut
          subst hwc
          cases D with
          |true=>
           have hj:(fr:Int)+(q:Int)<tp∧c<8:=by have:=HD.out;simpa using this
           have jw:0≤(fr:Int)+(q:Int)∧(fr:Int)+(q:Int)<4096:=by omega
           have hw1:=aA.wr ((fr:Int)+(q:Int)+1)
           have hw2:=aA.wr ((c:Int)+1)
           have abH:Site.dC s3 si:=by rw[hsi];exact Site.xO _ _
           have VP:si.due ((fr:Int)+(q:Int))=s3.due ((fr:Int)+(q:Int)):=by rw[hsi,←pG.out];exact s3.Vt q
           have CD:=aaQ ([H,G]++X) wr ri si kR ((fr:Int)+(q:Int)) (hO4.kin abH) (Site.Vv kR.aJ.ok jw)
           obtain⟨du,hdu⟩:=ex1 (si.due ((fr:Int)+(q:Int)))
           rw[hdu,ai.arr]at CD
           rw[hdu]at VP
           have tQ:=hdn VP
           obtain⟨x,hx⟩:=ex1 ((fr:Int)+(q:Int))
           have HX:=hdn hx
           have wP:=hdn hsi
           have VQ:=hdn (s3.sH q)
           rw[pG.out,hx]at VQ
           rw[hx]at CD hw1 jw tQ ⊢
           clear abH VP hdu hsi hx gG
           repeat' (fail_if_success with_reducible refine ek (t:=63) rfl ?_);go_step
           refine bF hii kB abx ?_
           repeat' go_step
           refine CD.mono ?_;rintro e w5 ⟨rfl,u5⟩
           clear CD
           have Jn:=kB.upd u5
           have kG5:=kG.upd u5
           have n5:=kR.grow u5
           have U5:=U.trans u5
           have hX5:∀k∈[H,G]++X,k<w5.heap.size:=fun k hk=>by have h1:=qa k hk;have h2:=u5.size;omega
           clear kB kG kR U u5
           cases du with
           |false=>
            have Nt:s3.dJ (q+1)=s3.dJ q:=by rw[VQ.out,←tQ.out];simp
            refine wk ?_
            exact⟨aQ.mk ⟨q+1,c,ri,si,by omega,by rw[←HX.out];simp;omega,rfl,by rw[Nt];exact HC.out,hc8,Jn,kG5,n5,by rw[Nt];exact wP.out,U5⟩,by have:=HX.out;simp[intOf];omega⟩
           |true=>
            have Nt:s3.dJ (q+1)=s3.dJ q++[x]:=by rw[VQ.out,←tQ.out];simp
            have hq9:q<tp.toNat-s3.front:=by rw[pG.out];omega
            have afx:(s3.dJ q).length<8:=by rw[←HC.out];exact hj.2
            have hgt:=Site.Vu (s:=s3) (top:=tp) hq9 afx (by rw[pG.out,HX.out];exact tQ.out.symm)
            rw[pG.out,HX.out]at hgt
            have Sa:=VN _ _ hgt
            rw[←Site.Gf (s:=s3) (top:=tp) (i:=q) (by omega) (by omega),←wP.out]at Sa
            have CB:=UH ([H,G]++X) w5 ri si n5 hX5 x jw Sa.1 Sa.2.1 Sa.2.2
            rw[ai.arr]at CB
            clear hgt Sa
            repeat' (fail_if_success with_reducible refine ek (t:=63) rfl ?_);first|go_step|simp only[];go_at_K
            refine bF hii Jn abx ?_
            repeat' go_step
            refine CB.mono ?_;rintro e w6 ⟨v,rfl,r6,rfl,n6,u6⟩
            clear CB
            have zh:=Jn.upd u6
            have FT:=kG5.upd u6
            rw[ai.arr]
            refine bK ?_
            refine bL r6.cells hii abx zh ?_
            intro W7 oW u7
            have xZ:=FT.upd u7 gV
            have n7:=n6.upd u7
            have U7:=(U5.trans u6).aB hHw u7
            clear Jn kG5 n5 U5 hX5 n6 zh FT u6 u7
            refine bN ?_
            exact⟨aQ.mk ⟨q+1,c+1,r6,si.dw x,by omega,by rw[←HX.out];simp;omega,by simp,by rw[Nt,length_append,←HC.out];rfl,by omega,oW,xZ,n7,by rw[Nt,foldl_append,←wP.out];rfl,U7⟩,by have:=HX.out;simp[intOf];omega⟩
          |false=>
           have XC:¬ (fr:Int)+(q:Int)<tp∨c=8:=by have:=HD.out;simp at this;omega
           have ajh:si=s.eF:=by
            rw[H4E.out,hsi]
            have hc:=HC.out
            congr 1
            by_cases e8:c=8
            ·exact(Site.Fb (s:=s3) (top:=tp) (i:=q) (by rw[pG.out];exact hq) (by omega)).symm
            ·exact(Site.Iy (s:=s3) (top:=tp) (i:=q) (by rw[pG.out];omega) (by omega)).symm
           have hft:fr≤tp.toNat∨tp.toNat<fr:=by omega
           have XE:si.bJ=tp:=by
            rw[ajh,H4E.out,Site.AX]
            ·exact WB.out
            ·intro y hy
             rw[WB.out]
             exact(Site.zL s3 hy).2
           have Sb:=hdn (show F=if si.front<4096 then si.others (Site.iW si.front (decide ((si.front:Int)<tp))) si.n else si by rw[ajh];exact abF.out)
           have hsl:si.held.length≤800000000:=by rw[ajh];exact hT4
           have xW:∀w',aa [H] [H] wr w'→Calls prog 88 #[.agg ri.cells.toArray] w' fun e w''=>e=.returned (.int .i64 tp)∧aa [] [] w' w'':=fun w' u=>by
            have:=yP ([H,G]++X) w' ri si (kR.upd u)
            rw[XE]at this
            exact this
           have c7:wr.cell? ⟨H,7,none⟩=some (.slice ri.LA ri.L.length ri.lc):=kB.cell 7
           have CF:=oq wr ri.LA ri.lc ri.L kR.mem.L kR.mem.big.2.1
           rw[kR.aJ.front]at CF
           obtain⟨g,hgf⟩:=ex1 si.front
           rw[hgf]at CF Sb
           clear ajh hft XE XC hsi hgf
           repeat' go_step
           refine CF.mono ?_;rintro e w9 ⟨rfl,rfl⟩
           clear CF c7
           by_cases hg4:g<4096
           ·have dg:decide ((g:Int)<4096)=true:=dTo
            obtain⟨B,Wi⟩:=ex1 (decide ((g:Int)<tp))
            obtain⟨mA,lF⟩:∃mA:Mv,(⟨8,0,0,(g:Int),0,0,0,0,B,none,0,0,[]⟩:Mv)=mA:=⟨_,rfl⟩
            have Sc:=hdn (show F=si.others mA.ms si.n by rw[Sb.out,if_pos hg4,Wi,←lF];rfl)
            have hfA:mA.ms.Fit:=by
             rw[←lF]
             exact⟨by simp[Mv.ms],by simp[Mv.ms],by simp[Mv.ms],by simp[Mv.ms];omega,by simp[Mv.ms],by simp[Mv.ms],by simp[Mv.ms],by simp[Mv.ms],by simp[Mv.ms],by simp[Mv.ms]⟩
            have jN:mA.A=none∧mA.n=0∧mA.b= []:=by rw[←lF];exact⟨rfl,rfl,rfl⟩
            have hmv:Mv.val mA=.agg #[.int .i64 8,.int .i64 0,.int .i64 0,.int .i64 (g:Int),.int .i64 0,.int .i64 0,.int .i64 0,.int .i64 0,.bool B,.slice none 0 0]:=by rw[←lF];rfl
            clear Sb lF hg4
            repeat' first|go_step|simp only[];go_at_K
            refine wp_region_held_drew (S:=fun w'=>aa [H] [H] wr w') (by kernel_rfl) (aa.refl [H] wr).drew fun _=>?_
            refine aF 1 ?_
            refine aF 2 ?_
            refine wpAnyH_ready (rs:=[0,3]) (by kernel_rfl) (by simp) ?_
            refine AllReadyH.cons rfl (fun K hK=>?_) (.cons rfl (fun K hK=>?_) .nil)
            ·skip
             refine uT hii gG abx ?_
             refine aP hK ((aa.refl [H] wr).drew) fun _=>?_
             clear hK K
             refine aW 3 (fun K hK=>?_)
             refine uT hii gG abx ?_
             refine aP hK ((aa.refl [H] wr).drew) fun _=>?_
             clear hK K
             refine aW 4 (fun K hK=>?_)
             go_simp
             refine(xW _ (‹aa [H] [H] wr _›)).mono ?_;rintro e wa ⟨rfl,ua⟩
             simp only[]
             have UA:aa [H] [H] wr wa:=(‹aa [H] [H] wr _›).trans (ua.up _)
             have dh:aa [] [] wr wa:=(aa.refl [] wr).drew.trans ua
             have gW:ak wa H 63 ri.cells.toArray:=gG.upd ua
             refine aP hK (UA) fun _=>?_
             clear hK K
             refine aF 5 ?_
             refine aF 6 ?_
             refine aW 7 (fun K hK=>?_)
             have CO:=jf ([H,G]++X) wa ri si (kR.grow dh) (fun k hk=>by have h1:=qa k hk;have h2:=dh.size;omega) (by omega) mA (by rw[jN.1,jN.2.1,jN.2.2];exact dU.nil _ _ _) hfA
             rw[hmv]at CO
             rw[ai.arr]at CO
             go_simp
             refine CO.mono ?_;rintro e wd ⟨v,rfl,rd,rfl,nd,ud⟩
             simp only[]
             rw[ai.arr]
             have UD:aa [H] [H] wr wd:=UA.trans (ud.up _)
             have lG:aa [] [] wr wd:=dh.trans ud
             have jI:ak wd H 63 ri.cells.toArray:=gW.upd ud
             refine aP hK (UD) fun _=>?_
             clear hK K
             refine aW 8 (fun K hK=>?_)
             refine mf rd.cells hii abx jI ?_
             intro Wn eu un
             have UN:aa [H] [H] wr Wn:=UD.trans un
             refine aP hK (UN) fun _=>?_
             clear hK K
             refine dnH ?_ _
             have nn:Ref ([H,G]++X) Wn rd (si.others mA.ms si.n):=nd.upd un
             have oh:ak Wn G 63 cz:=kG.upd UN gV
             have lI:aa [] [] w Wn:=U.aB hHw UN
             clear un nd ud lG ua dh UA UD UN gW jI gG
             repeat' (fail_if_success with_reducible refine ek (t:=63) rfl ?_);go_step
             refine bF hii eu abx ?_
             refine bK ?_
             refine bL rd.cells hii abx oh ?_
             intro W8 aX u8
             refine wk ?_
             exact fG results82 hii aX abx ⟨_,rfl,rd,rfl,by rw[Sc.out];exact(nn.upd u8).less,lI.aB aR u8⟩
            ·skip
             refine uT hii gG abx ?_
             refine aP hK ((aa.refl [H] wr).drew) fun _=>?_
             clear hK K
             refine wpAnyH_ready (rs:=[0,4]) (by kernel_rfl) (by simp) ?_
             refine AllReadyH.cons rfl (fun K hK=>?_) (.cons rfl (fun K hK=>?_) .nil)
             ·skip
              refine uT hii gG abx ?_
              refine aP hK ((aa.refl [H] wr).drew) fun _=>?_
              clear hK K
              refine aW 4 (fun K hK=>?_)
              go_simp
              refine(xW _ (‹aa [H] [H] wr _›)).mono ?_;rintro e wa ⟨rfl,ua⟩
              simp only[]
              have UA:aa [H] [H] wr wa:=(‹aa [H] [H] wr _›).trans (ua.up _)
              have dh:aa [] [] wr wa:=(aa.refl [] wr).drew.trans ua
              have gW:ak wa H 63 ri.cells.toArray:=gG.upd ua
              refine aP hK (UA) fun _=>?_
              clear hK K
              refine aF 5 ?_
              refine aF 6 ?_
              refine aW 7 (fun K hK=>?_)
              have CO:=jf ([H,G]++X) wa ri si (kR.grow dh) (fun k hk=>by have h1:=qa k hk;have h2:=dh.size;omega) (by omega) mA (by rw[jN.1,jN.2.1,jN.2.2];exact dU.nil _ _ _) hfA
              rw[hmv]at CO
              rw[ai.arr]at CO
              go_simp
              refine CO.mono ?_;rintro e wd ⟨v,rfl,rd,rfl,nd,ud⟩
              simp only[]
              rw[ai.arr]
              have UD:aa [H] [H] wr wd:=UA.trans (ud.up _)
              have lG:aa [] [] wr wd:=dh.trans ud
              have jI:ak wd H 63 ri.cells.toArray:=gW.upd ud
              refine aP hK (UD) fun _=>?_
              clear hK K
              refine aW 8 (fun K hK=>?_)
              refine mf rd.cells hii abx jI ?_
              intro Wn eu un
              have UN:aa [H] [H] wr Wn:=UD.trans un
              refine aP hK (UN) fun _=>?_
              clear hK K
              refine dnH ?_ _
              have nn:Ref ([H,G]++X) Wn rd (si.others mA.ms si.n):=nd.upd un
              have oh:ak Wn G 63 cz:=kG.upd UN gV
              have lI:aa [] [] w Wn:=U.aB hHw UN
              clear un nd ud lG ua dh UA UD UN gW jI gG
              repeat' (fail_if_success with_reducible refine ek (t:=63) rfl ?_);go_step
              refine bF hii eu abx ?_
              refine bK ?_
              refine bL rd.cells hii abx oh ?_
              intro W8 aX u8
              refine wk ?_
              exact fG results82 hii aX abx ⟨_,rfl,rd,rfl,by rw[Sc.out];exact(nn.upd u8).less,lI.aB aR u8⟩
             ·skip
              go_simp
              refine(xW _ (‹aa [H] [H] wr _›)).mono ?_;rintro e wa ⟨rfl,ua⟩
              simp only[]
              have UA:aa [H] [H] wr wa:=(‹aa [H] [H] wr _›).trans (ua.up _)
              have dh:aa [] [] wr wa:=(aa.refl [] wr).drew.trans ua
              have gW:ak wa H 63 ri.cells.toArray:=gG.upd ua
              refine aP hK (UA) fun _=>?_
              clear hK K
              refine aF 5 ?_
              refine aF 6 ?_
              refine aW 0 (fun K hK=>?_)
              refine uT hii gW abx ?_
              refine aP hK (UA) fun _=>?_
              clear hK K
              refine aW 7 (fun K hK=>?_)
              have CO:=jf ([H,G]++X) wa ri si (kR.grow dh) (fun k hk=>by have h1:=qa k hk;have h2:=dh.size;omega) (by omega) mA (by rw[jN.1,jN.2.1,jN.2.2];exact dU.nil _ _ _) hfA
              rw[hmv]at CO
              rw[ai.arr]at CO
              go_simp
              refine CO.mono ?_;rintro e wd ⟨v,rfl,rd,rfl,nd,ud⟩
              simp only[]
              rw[ai.arr]
              have UD:aa [H] [H] wr wd:=UA.trans (ud.up _)
              have lG:aa [] [] wr wd:=dh.trans ud
              have jI:ak wd H 63 ri.cells.toArray:=gW.upd ud
              refine aP hK (UD) fun _=>?_
              clear hK K
              refine aW 8 (fun K hK=>?_)
              refine mf rd.cells hii abx jI ?_
              intro Wn eu un
              have UN:aa [H] [H] wr Wn:=UD.trans un
              refine aP hK (UN) fun _=>?_
              clear hK K
              refine dnH ?_ _
              have nn:Ref ([H,G]++X) Wn rd (si.others mA.ms si.n):=nd.upd un
              have oh:ak Wn G 63 cz:=kG.upd UN gV
              have lI:aa [] [] w Wn:=U.aB hHw UN
              clear un nd ud lG ua dh UA UD UN gW jI gG
              repeat' (fail_if_success with_reducible refine ek (t:=63) rfl ?_);go_step
              refine bF hii eu abx ?_
              refine bK ?_
              refine bL rd.cells hii abx oh ?_
              intro W8 aX u8
              refine wk ?_
              exact fG results82 hii aX abx ⟨_,rfl,rd,rfl,by rw[Sc.out];exact(nn.upd u8).less,lI.aB aR u8⟩
           ·have dg:decide ((g:Int)<4096)=false:=dFo
            have Sc:=hdn (show F=si by rw[Sb.out,if_neg hg4])
            clear Sb hg4 gG xW
            repeat' (fail_if_success with_reducible refine ek (t:=63) rfl ?_);first|go_step|simp only[];go_at_K
            refine bF hii kB abx ?_
            refine bK ?_
            refine bL ri.cells hii abx kG ?_
            intro W8 aX u8
            refine wk ?_
            exact fG results82 hii aX abx ⟨_,rfl,ri,rfl,by rw[Sc.out];exact(kR.upd u8).less,U.aB aR u8⟩
