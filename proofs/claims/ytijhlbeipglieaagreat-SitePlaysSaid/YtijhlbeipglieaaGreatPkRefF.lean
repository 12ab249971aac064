/- For SitePlays. -/
import Derived.Test.YtijhlbeipglieaaGreatPkRefE
set_option linter.all false
set_option maxRecDepth 100000
set_option maxHeartbeats 16000000
namespace Go.Proofs.YtijhlbeipglieaaGreat
open Go.RowKit aA Go.Maps Go.Proofs.Tryz List
def Bz(w:World)(g:Nat):Nat:=match w.cell? ⟨g,10,none⟩ with|some (.int _ x)=>(4098 - x).toNat|_=>0
theorem BA{w:World}{g:Nat}{r:ai}(h:ak w g 63 r.cells.toArray):Bz w g=4098-r.nx:=by
 have:w.cell? ⟨g,10,none⟩=some (.int .i64 (r.nx:Int)):=h.cell 10
 unfold Bz
 rw[this]
 show(4098-(r.nx:Int)).toNat=_
 omega
theorem iM.kQ{r:ai}{s:Site}(h:iM r s){k:Nat}(hk:k≤4096):iM {r with nx:=k} {s with nx:=k}:=
 ⟨h.me,h.n,h.pat,h.down,h.db,h.dn,h.st,h.kn,h.kr,h.top,h.lv,h.ln,h.lr,h.taken,h.tk,h.rs,h.rn,rfl,h.wt,h.held,h.ok.kQ hk,h.dk⟩
theorem Ref.kQ{X:List Nat}{w:World}{r:ai}{s:Site}(h:Ref X w r s){k:Nat}(hk:k≤4096):Ref X w {r with nx:=k} {s with nx:=k}:=
 ⟨⟨h.mem.db,h.mem.dc,h.mem.K,h.mem.kb,h.mem.L,h.mem.lb,h.mem.R,h.mem.rc,h.mem.rb,h.mem.held,h.mem.hb,h.mem.big⟩,h.aJ.kQ hk,h.off⟩
theorem wM(X:List Nat)(w:World)(r:ai)(s:Site)(h:Ref X w r s)(hX:∀k∈X,k<w.heap.size)(wN:Int)(hl:s.held.length≤700000000) :
  Calls prog 145 #[r.val,.int .i64 wN] w fun e w'=>∃v,e=.returned v∧Came X w w' v (s.skip wN):=by
 obtain⟨ii,hii,abx,W,H,eW,hH,hB,U0,W2,G,fu,hG,hBG,U2,hB2,dY,aK,hs0,hs2,hY,hHw,aR,-,-,h2,-,qG⟩:=yY h hX 63 cz
 have hok:=h.aJ.ok
 have AA:(⟨0,s.me⟩:Bl).may 7=true:=hok.own
 obtain⟨R,hR⟩:=ex1 (s.skip wN)
 have HR:=hdn (show Site.eG 4098 0 s wN=R from hR)
 rw[hR]
 clear hR
 rw[ai.arr]
 go_enter func145,ntmps145
 repeat' go_step
 go_loopw [5] (fun v5 wr=>aQ (∃(c f:Nat)(r1:ai)(s1:Site),v5=.int .i64 (c:Int)∧c≤8∧ak wr H 63 r1.cells.toArray∧ak wr G 63 cz∧Ref ([H,G]++X) wr r1 s1∧Site.eG f c s1 wN=R∧4098≤f+s1.nx∧
  s1.me=s.me∧s1.n=s.n∧s1.held.length≤s.held.length+10*c∧aa [] [] w wr)) (fun _ wr=>Bz wr H)
 case atStart=>exact aQ.mk ⟨0,4098,r,s,rfl,by omega,hB2,hBG,h2,HR.out,by omega,rfl,rfl,by omega,aK⟩
 case round=>
  obtain⟨c,f,r1,s1,rfl,hc8,kB,kG,kR,hsk,hfn,hme,hn,Fh,U⟩:=hrel.out
  clear hrel
  have hnx:s1.nx≤4096:=kR.aJ.ok.nx
  have HX0:=BA kB
  rw[kR.aJ.nx]at HX0
  obtain⟨f',rfl⟩:∃f',f=f'+1:=⟨f - 1,by omega⟩
  have rT:=hdn hsk
  clear hsk HR
  have HMR:=hdn (show some (Value.int .i64 (r1.me:Int))=some (.int .i64 (s.me:Int)) by rw[kR.aJ.me,hme])
  have ve:∀k∈[H,G]++X,k<wr.heap.size:=fun k hk=>by
   have h1:=kB.lt
   have h3:=kG.lt
   simp only[cons_append,nil_append,mem_cons]at hk
   rcases hk with rfl|rfl|hk
   ·omega
   ·omega
   ·have:=hX k hk;have:=U.size;omega
  by_cases hc:c<8
  ·have hci:(c:Int)<8:=by omega
   have aeW:decide (c<8)=true:=dTx hc
   have hcw:=aA.wr ((c:Int)+1)
   have r0:wr.cell? ⟨H,0,none⟩=some (.int .i64 (s.me:Int)):=by rw[kB.cell 0];show some (Value.int .i64 (r1.me:Int))=_;rw[kR.aJ.me,hme]
   have r1':wr.cell? ⟨H,1,none⟩=some (.int .i64 (s.n:Int)):=by rw[kB.cell 1];show some (Value.int .i64 (r1.n:Int))=_;rw[kR.aJ.n,hn]
   have r10:wr.cell? ⟨H,10,none⟩=some (.int .i64 (s1.nx:Int)):=by rw[kB.cell 10];show some (Value.int .i64 (r1.nx:Int))=_;rw[kR.aJ.nx]
   have C1:=za wr (s.me:Int) s1.nx (s.n:Int) (by omega)
   obtain⟨x,hx⟩:=ex1 (aZ (s.me:Int) s1.nx (s.n:Int))
   have jw:=gz (s.me:Int) s1.nx (s.n:Int)
   rw[hx]at C1 jw
   have HX:=hdn (show aZ s1.me s1.nx s1.n=x by rw[hme,hn];exact hx)
   clear hx
   repeat' go_step
   refine C1.mono ?_;rintro e w1 ⟨rfl,u1⟩
   clear C1 r0 r1' r10
   have kB1:=kB.upd u1
   have MU:=kG.upd u1
   have Jp:=kR.grow u1
   have U1:=U.trans u1
   clear kB kG kR U
   by_cases af0:x<0∨wN≤x
   ·have dN:R=s1:=by rw[←rT.out,Site.sM _ _ _ _ (.inr (by rw[HX.out];exact af0))]
    subst dN
    by_cases hx0:x<0
    ·have d0:decide (x<0)=true:=dTx hx0
     repeat' (fail_if_success with_reducible refine ek (t:=63) rfl ?_);first|go_guarded|go_step|simp only[];go_at_K
     refine bF hii kB1 abx ?_
     refine bK ?_
     refine bL r1.cells hii abx MU ?_
     intro W8 aX u8
     refine wk ?_
     exact fG results145 hii aX abx ⟨_,rfl,r1,rfl,(Jp.upd u8).less,U1.aB aR u8⟩
    ·have d0:decide (x<0)=false:=dFx hx0
     have d1:decide (wN≤x)=true:=dTo
     repeat' (fail_if_success with_reducible refine ek (t:=63) rfl ?_);first|go_guarded|go_step|simp only[];go_at_K
     refine bF hii kB1 abx ?_
     refine bK ?_
     refine bL r1.cells hii abx MU ?_
     intro W8 aX u8
     refine wk ?_
     exact fG results145 hii aX abx ⟨_,rfl,r1,rfl,(Jp.upd u8).less,U1.aB aR u8⟩
   have d0:decide (x<0)=false:=dFo
   have d1:decide (wN≤x)=false:=dFo
   have hxb:(s1.nx:Int)≤x∧x<4096:=by rcases jw with h9|h9<;>omega
   have hw7:=aA.wr (x+1)
   have hyn:(((x+1).toNat:Nat):Int)=x+1:=by omega
   have C2:=Bw ([H,G]++X) w1 r1 s1 Jp x
   have Jq:=hdn (show ¬ (aZ s1.me s1.nx s1.n<0∨wN≤aZ s1.me s1.nx s1.n) by rw[HX.out];exact af0)
   obtain⟨F,hF⟩:=ex1 (s1.fresh x)
   have HF:=hdn (show s1.fresh (aZ s1.me s1.nx s1.n)=F by rw[HX.out];exact hF)
   rw[hF,ai.arr]at C2
   clear hF jw af0
   repeat' (fail_if_success with_reducible refine ek (t:=63) rfl ?_);first|go_guarded|go_step|simp only[];go_at_K
   refine bF hii kB1 abx ?_
   repeat' go_step
   refine C2.mono ?_;rintro e w3 ⟨rfl,u3⟩
   clear C2
   have kB3:=kB1.upd u3
   have mP:=MU.upd u3
   have kI:=Jp.grow u3
   have U3:=U1.trans u3
   clear kB1 MU Jp U1
   cases F with
   |false=>
    have c10:w3.cell? ⟨H,10,none⟩=some (.int .i64 (r1.nx:Int)):=kB3.cell 10
    have f10:=kB3.frozen 10
    obtain⟨W4,kv⟩:=ex1 (w3.setCell ⟨H,10,none⟩ (.int .i64 (x+1)))
    obtain⟨r2,hr2⟩:∃r2:ai,{r1 with nx:=(x+1).toNat} =r2:=⟨_,rfl⟩
    have u4:aa [H] [H] w3 W4:=by rw[←kv];exact(aa.refl [H] w3).setCell (p:=⟨H,10,none⟩) (.inl (by simp)) _
    have wK:ak W4 H 63 r2.cells.toArray:=by
     rw[←kv,←hr2]
     have:=kB3.aO 10 (.int .i64 (x+1))
     rw[←hyn]at this ⊢
     exact this
    have Az:=mP.upd u4 (by simpa using dY)
    have AB:Ref ([H,G]++X) W4 r2 {s1 with nx:=(x+1).toNat}:=by rw[←hr2];exact(kI.upd u4).kQ (by omega)
    have hS:=Site.Dk f' c s1 wN (by omega) Jq.out HF.out
    rw[rT.out,HX.out]at hS
    have KEY:=hdn (show ∃(c' f:Nat)(r':ai)(s':Site),Value.int .i64 (c:Int)=.int .i64 (c':Int)∧c'≤8∧ak W4 H 63 r'.cells.toArray∧ak W4 G 63 cz∧Ref ([H,G]++X) W4 r' s'∧Site.eG f c' s' wN=R∧4098≤f+s'.nx∧
      s'.me=s.me∧s'.n=s.n∧s'.held.length≤s.held.length+10*c'∧aa [] [] w W4 from⟨c,f',r2,_,rfl,hc8,wK,Az,AB,hS.symm,by simp only;omega,hme,hn,Fh,U3.aB hHw u4⟩)
    have KM:=hdn (show Bz W4 H<Bz wr H by
     rw[BA wK,HX0,←hr2]
     show 4098-(x+1).toNat<_
     omega)
    clear wK Az AB u4 hS kB3 mP kI
    refine wk ?_
    exact⟨aQ.mk KEY.out,KM.out⟩
   |true=>
    have r0:w3.cell? ⟨H,0,none⟩=some (.int .i64 (s.me:Int)):=by rw[kB3.cell 0];show some (Value.int .i64 (r1.me:Int))=_;rw[kI.aJ.me,hme]
    obtain⟨Wb,Hb,ZZ,Z0,Uz,Ub⟩:=az w3 30 #[.int .i64 0,.int .i64 (s.me:Int)]
    have Ub':=Ub.g0
    have wK:=kB3.upd Ub
    have Az:=mP.upd Ub
    have AB:=kI.grow Ub
    have U4:=U3.trans Ub'
    have C6:=uZ ([H,G]++X) Wb r1 s1 AB (fun k hk=>by have h1:=ve k hk;have h2:=u1.size;have h3:=u3.size;have h4:=Ub.size;omega) x (by omega) ⟨0,s.me⟩ AA ⟨none,0,0,[]⟩ (dU.nil _ _ _) (by simp)
    have acI:s1.ownB=(⟨0,s.me⟩:Bl):=by unfold Site.ownB;rw[hme]
    rw[ai.arr,Bl.val]at C6
    obtain⟨⟨b0,b1⟩,-⟩:=Uz.c2
    clear kB3 mP kI U3
    obtain⟨o,ho⟩:=ex1 (s1.accept x ⟨0,s.me⟩ [])
    have HO:=hdn ho
    rw[show s1.accept x ⟨0,s.me⟩ (⟨none,0,0,[]⟩:aM).b=o from ho]at C6
    clear ho
    repeat' (fail_if_success with_reducible refine ek (t:=63) rfl ?_);first|go_step|simp only[];go_at_K
    refine bF hii wK abx ?_
    repeat' go_step
    refine C6.mono ?_;rintro e w6 ⟨v,rfl,r2,rfl,n2,u6⟩
    clear C6 b0 b1
    obtain⟨W7,T8,wL,Dl,nk,U7⟩:=az w6 63 cz
    have u7:=U7.g0
    have oW:=(wK.upd u6).upd u7
    have xZ:=(Az.upd u6).upd u7
    have Jr:=(AB.grow u6).grow u7
    have n7:=n2.grow u7
    have Z4:=(Uz.upd u6).upd u7
    have Df:=(U4.trans u6).trans u7
    have zY:∀k∈[T8],w.heap.size≤k:=by have:=U4.size;have:=u6.size;simp only[mem_singleton];rintro k rfl;omega
    have Z5:T8∉[H,G]++X:=fun hk=>by have h1:=ve T8 hk;have h2:=u1.size;have h3:=u3.size;have h4:=Ub.size;have h5:=u6.size;omega
    have hTb:Hb≠T8:=by have h1:=Uz.lt;have h5:=u6.size;omega
    have yz:∀k∈r2.fp,k∉[T8]:=fun k hk hm=>by have h1:=n2.mem.lt k hk;simp only[mem_singleton]at hm;omega
    have aeX:∀k∈r1.fp,k∉[T8]:=fun k hk hm=>by have h1:=(AB.grow u6).mem.lt k hk;simp only[mem_singleton]at hm;omega
    rw[ai.arr]
    refine bK ?_
    refine bL r2.cells hii abx nk ?_
    intro W8 Z6 u8
    have Ay:=oW.upd u8 (by simp only[mem_singleton];rintro rfl;exact Z5 (by simp))
    have Z7:=xZ.upd u8 (by simp only[mem_singleton];rintro rfl;exact Z5 (by simp))
    have kR8:Ref ([H,G]++X) W8 r1 s1:=⟨Jr.mem.vP u8 aeX,Jr.aJ,Jr.off⟩
    have n8:Ref ([H,G]++X) W8 r2 (o.getD s1):=⟨n7.mem.vP u8 yz,n7.aJ,n7.off⟩
    have Z8:=Z4.upd u8 (by simpa using hTb)
    have U8:=Df.aB zY u8
    clear oW xZ Jr n7 Z4 Df n2 wK Az AB
    cases o with
    |none=>
     have dN:R=s1:=by rw[←rT.out,Site.Dm _ _ _ _ (by omega) Jq.out HF.out (by rw[HX.out,acI];exact HO.out)]
     subst dN
     simp only[Option.isSome_none]
     repeat' (fail_if_success with_reducible refine ek (t:=63) rfl ?_);go_step
     refine bF hii Ay abx ?_
     refine bK ?_
     refine bL r1.cells hii abx Z7 ?_
     intro W9 oZ u9
     refine wk ?_
     exact fG results145 hii oZ abx ⟨_,rfl,r1,rfl,(kR8.upd u9).less,U8.aB aR u9⟩
    |some t=>
     have hS:=Site.Dp f' c s1 t wN (by omega) Jq.out HF.out (by rw[HX.out,acI];exact HO.out)
     rw[rT.out,HX.out,acI]at hS
     have HS:=hdn hS
     obtain⟨tm,tn,th,-,-,-,-⟩:=Site.gD HO.out
     have hmt:t.me=s.me:=tm.trans hme
     have hnt:t.n=s.n:=tn.trans hn
     have hht:t.held.length≤700000100:=by rw[th];omega
     clear hS kR8
     simp only[Option.isSome_some]
     have n8:Ref ([H,G]++X) W8 r2 t:=n8
     obtain⟨⟨b0,b1⟩,-⟩:=Z8.c2
     clear wL Dl
     repeat' go_step
     obtain⟨Wm,M,vX,hM,Z9,Um⟩:=az W8 32 #[.int .i64 2,.int .i64 0,.int .i64 0,.int .i64 x,.int .i64 0,.int .i64 (s.me:Int),.int .i64 0,.int .i64 0,.bool false,.slice none 0 0]
     rw[vX,hM]
     have um:=Um.g0
     have hBm:=Ay.upd um
     have kGm:=Z7.upd um
     have nm:=n8.grow um
     have aaa:=Z6.upd um
     have UM:=U8.trans um
     have Wh:∀k∈[H,G]++X,k<Wm.heap.size:=fun k hk=>by have h1:=ve k hk;have h2:=u1.size;have h3:=u3.size;have h4:=Ub.size;have h5:=u6.size;have h6:=u7.size;have h7:=u8.size;have h8:=um.size;omega
     have adn:(Mv.ms ⟨2,0,0,x,0,s.me,0,0,false,none,0,0,[]⟩).Fit:=Site.zk (x:=x) (b:=⟨0,s.me⟩) (by omega) AA
     have CO:∀w',aa [H] [H] Wm w'→Calls prog 136 #[.agg r2.cells.toArray,(Mv.val ⟨2,0,0,x,0,s.me,0,0,false,none,0,0,[]⟩)] w' fun e w''=>∃v,e=.returned v∧Came ([H,G]++X) w' w'' v (t.others (Site.fV x ⟨0,s.me⟩) t.n):=fun w' u=>
      jf ([H,G]++X) w' r2 t (nm.upd u) (fun k hk=>by have h1:=Wh k hk;have h2:=u.size;omega) (by omega) ⟨2,0,0,x,0,s.me,0,0,false,none,0,0,[]⟩ (dU.nil _ _ _) adn
     simp only[Mv.aH]at CO
     have hHM:M≠H:=by have:=Ay.lt;omega
     have MV:T8≠H:=fun e=>Z5 (by rw[e];simp)
     have LT:∀w',(aa [H] [H] Wm w'∧w'.cell? ⟨H,0,none⟩=some (.int .i64 (s.me:Int)))→ak w' T8 63 r2.cells.toArray:=fun w' u=>aaa.upd u.1 (by simpa using MV)
     have kM:∀w',(aa [H] [H] Wm w'∧w'.cell? ⟨H,0,none⟩=some (.int .i64 (s.me:Int)))→ak w' M 32 #[.int .i64 2,.int .i64 0,.int .i64 0,.int .i64 x,.int .i64 0,.int .i64 (s.me:Int),.int .i64 0,.int .i64 0,.bool false,.slice none 0 0]:=fun w' u=>Z9.upd u.1 (by simpa using hHM)
     have k0:=fun w' u=>(kM w' u).cell 0
     have k1:=fun w' u=>(kM w' u).cell 1
     have k2:=fun w' u=>(kM w' u).cell 2
     have k3:=fun w' u=>(kM w' u).cell 3
     have k4:=fun w' u=>(kM w' u).cell 4
     have k5:=fun w' u=>(kM w' u).cell 5
     have k6:=fun w' u=>(kM w' u).cell 6
     have k7:=fun w' u=>(kM w' u).cell 7
     have k8:=fun w' u=>(kM w' u).cell 8
     have k9:=fun w' u=>(kM w' u).cell 9
     simp only[List.getElem?_toArray,List.getElem?_cons_zero,List.getElem?_cons_succ]at k0 k1 k2 k3 k4 k5 k6 k7 k8 k9
     have cH:Wm.cell? ⟨H,0,none⟩=some (.int .i64 (s.me:Int)):=by rw[hBm.cell 0];show some (Value.int .i64 (r1.me:Int))=_;exact HMR.out
     clear kM n8 Z6 Z9 Um Ay Z7 Z8 nk U7
     refine wp_region_held_drew (S:=fun w'=>aa [H] [H] Wm w'∧w'.cell? ⟨H,0,none⟩=some (.int .i64 (s.me:Int))) (by kernel_rfl) ⟨(aa.refl [H] Wm).drew,cH⟩ fun _=>?_
     refine mi 0 hii (r2).cells abx LT ?_
     refine aF 1 ?_
     refine aF 3 ?_
     refine aF 4 ?_
     refine aF 5 ?_
     refine aW 2 (fun K hK=>?_)
     go_simp
     refine(CO _ ‹_∧_›.1).mono ?_;rintro e wa ⟨v,rfl,ra,rfl,na,ua⟩
     simp only[]
     rw[ai.arr]
     have UA:aa [H] [H] Wm wa:=(‹aa [H] [H] Wm _∧_›.1).trans (ua.up _)
     have cA:wa.cell? ⟨H,0,none⟩=some (.int .i64 (s.me:Int)):=ua.cell (‹aa [H] [H] Wm _∧_›.2) (by simp)
     have hXA:∀k∈[H,G]++X,k<wa.heap.size:=fun k hk=>by have h1:=Wh k hk;have h2:=UA.size;omega
     have ky:=lU ([H,G]++X) wa ra _ na hXA (by rw[Site.bH];show(t.held++t.tell _ _).length<_;have:=t.gQ (Site.fV x ⟨0,s.me⟩) t.n;have:=hok.n7;rw[length_append];omega) (s.me:Int) (by omega) ⟨2,0,0,x,0,s.me,0,0,false,none,0,0,[]⟩ (dU.nil _ _ _) adn
     rw[ai.arr]at ky
     simp only[Mv.aH]at ky
     refine aP hK (⟨UA,cA⟩) fun _=>?_
     clear hK K
     refine aW 6 (fun K hK=>?_)
     go_simp
     refine ky.mono ?_;rintro e wb ⟨v,rfl,rb,rfl,nb,ub⟩
     simp only[]
     rw[ai.arr]
     have UB:aa [H] [H] Wm wb:=UA.trans (ub.up _)
     have cB:wb.cell? ⟨H,0,none⟩=some (.int .i64 (s.me:Int)):=ub.cell cA (by simp)
     have hBb:ak wb H 63 r1.cells.toArray:=(hBm.upd ((aa.refl [] Wm).drew.trans ua) (by simp)).upd ub
     refine aP hK (⟨UB,cB⟩) fun _=>?_
     clear hK K
     refine aW 7 (fun K hK=>?_)
     refine mf rb.cells hii abx hBb ?_
     intro Wn eu un
     have UN:aa [H] [H] Wm Wn:=UB.trans un
     have mB:rb.me=s.me:=by
      have:=nb.aJ.me
      rw[this]
      show(t.others (Site.fV x ⟨0,s.me⟩) t.n).me=s.me
      rw[(Site.fJ _ _).1];exact hmt
     have cN:Wn.cell? ⟨H,0,none⟩=some (.int .i64 (s.me:Int)):=by rw[eu.cell 0];show some (Value.int .i64 (rb.me:Int))=_;rw[mB]
     refine aP hK (⟨UN,cN⟩) fun _=>?_
     clear hK K
     refine dnH ?_ _
     have c10:Wn.cell? ⟨H,10,none⟩=some (.int .i64 (rb.nx:Int)):=eu.cell 10
     have f10:=eu.frozen 10
     obtain⟨W4,kv⟩:=ex1 (Wn.setCell ⟨H,10,none⟩ (.int .i64 (x+1)))
     obtain⟨r9,QV⟩:∃r9:ai,{rb with nx:=(x+1).toNat} =r9:=⟨_,rfl⟩
     have u4:aa [H] [H] Wn W4:=by rw[←kv];exact(aa.refl [H] Wn).setCell (p:=⟨H,10,none⟩) (.inl (by simp)) _
     have wK:ak W4 H 63 r9.cells.toArray:=by
      rw[←kv,←QV]
      have:=eu.aO 10 (.int .i64 (x+1))
      rw[←hyn]at this ⊢
      exact this
     have Az:=(kGm.upd UN (by simpa using dY)).upd u4 (by simpa using dY)
     have Dq:t.jv ⟨0,s.me⟩ x= {(t.others (Site.fV x ⟨0,s.me⟩) t.n).send (s.me:Int) (Site.fV x ⟨0,s.me⟩)with nx:=(x+1).toNat}:=by unfold Site.jv;rw[hmt]
     have AB:Ref ([H,G]++X) W4 r9 (t.jv ⟨0,s.me⟩ x):=by
      rw[←QV,Dq];exact(((nb.upd un).upd u4).kQ (by omega))
     have hlen:(t.jv ⟨0,s.me⟩ x).held.length≤s.held.length+10*(c+1):=by
      rw[Dq]
      simp only[Site.send,Site.bH,length_append,length_cons,length_nil]
      have:=t.gQ (Site.fV x ⟨0,s.me⟩) t.n
      have h7:=hok.n7
      rw[th];omega
     have UF:(t.jv ⟨0,s.me⟩ x).me=s.me∧(t.jv ⟨0,s.me⟩ x).n=s.n:=by
      rw[Dq]
      have:=Site.fJ (s:=t) (Site.fV x ⟨0,s.me⟩) t.n
      exact⟨this.1.trans hmt,this.2.trans hnt⟩
     have KEY:=hdn (show ∃(c' f:Nat)(r':ai)(s':Site),Value.int .i64 ((c:Int)+1)=.int .i64 (c':Int)∧c'≤8∧ak W4 H 63 r'.cells.toArray∧ak W4 G 63 cz∧Ref ([H,G]++X) W4 r' s'∧Site.eG f c' s' wN=R∧4098≤f+s'.nx∧
       s'.me=s.me∧s'.n=s.n∧s'.held.length≤s.held.length+10*c'∧aa [] [] w W4 from⟨c+1,f',r9,_,by simp,by omega,wK,Az,AB,HS.out.symm,by rw[Dq];simp only;omega,UF.1,UF.2,hlen,(UM.aB hHw UN).aB hHw u4⟩)
     have KM:=hdn (show Bz W4 H<Bz wr H by
      rw[BA wK,HX0,←QV]
      show 4098-(x+1).toNat<_
      omega)
     clear wK Az AB u4 hlen UF Dq eu UN nb na ua ub UA UB kGm nm aaa hBm k0 k1 k2 k3 k4 k5 k6 k7 k8 k9 LT CO
     refine wk ?_
     exact⟨aQ.mk KEY.out,KM.out⟩
  ·have dN:R=s1:=by rw[←rT.out,Site.sM _ _ _ _ (.inl (by omega))]
   have hci:¬ (c:Int)<8:=by omega
   have aeW:decide (c<8)=false:=dFx hc
   subst dN
   repeat' (fail_if_success with_reducible refine ek (t:=63) rfl ?_);go_step
   refine bF hii kB abx ?_
   refine bK ?_
   refine bL r1.cells hii abx kG ?_
   intro W8 aX u8
   refine wk ?_
   exact fG results145 hii aX abx ⟨_,rfl,r1,rfl,(kR.upd u8).less,U.aB aR u8⟩
theorem iM.find{r:ai}{s:Site}(h:iM r s){x k:Int}(hk:WT r.R x k):(k= -1∧aC x s.rs=none)∨∃(i:Nat)(hi:i<r.R.length),k=(i:Int)∧r.R[i].slot=x∧aC x s.rs=some r.R[i].pl.2:=by
 rcases hk with⟨rfl,hk⟩|⟨i,hi,rfl,hk⟩
 ·left
  refine⟨rfl,rX.2 fun p hp=>?_⟩
  rw[←h.rs]at hp
  obtain⟨q,hq,rfl⟩:=mem_map.1 hp
  exact hk q hq
 ·right
  refine⟨i,hi,rfl,hk,?_⟩
  have hd:=h.rn
  rw[←h.rs]at hd ⊢
  rw[←hk]
  have hm:r.R[i].pl∈r.R.map aL.pl:=mem_map_of_mem (getElem_mem hi)
  show aC r.R[i].pl.1 _=_
  generalize r.R[i].pl=q at hm
  generalize r.R.map aL.pl=L at hm hd
  induction L with
  |nil=>cases hm
  |cons y L ih=>
   rw[map_cons,nodup_cons]at hd
   unfold aC
   rw[List.find?_cons]
   rcases mem_cons.1 hm with rfl|hm
   ·simp
   ·have hne:y.1≠q.1:=fun e=>hd.1 (e▸mem_map_of_mem hm)
    rw[dFx hne]
    exact ih hm hd.2
theorem UH(X:List Nat)(w:World)(r:ai)(s:Site)(h:Ref X w r s)(hX:∀k∈X,k<w.heap.size)(x:Int)(hx:0≤x∧x<4096)(hl:s.held.length≤800000000)(agJ:(s.low x).may 7=true)(adn:(s.stat x).so=true∨(s.stat x).at_=⟨0,0⟩∧(s.stat x).b= []) :
  Calls prog 147 #[r.val,.int .i64 x] w fun e w'=>∃v,e=.returned v∧Came X w w' v (s.dw x):=by
 obtain⟨ii,hii,abx,W,H,eW,hH,hB,U0,W2,G,fu,hG,hBG,U2,hB2,dY,aK,hs0,hs2,hY,hHw,aR,-,-,h2,hX2,qG⟩:=yY h hX 63 cz
 have hok:=h.aJ.ok
 have CS:=kV W2 r h2.mem x
 have rR:=h2.state x
 have hst:=h.aJ.st x
 obtain⟨T,hT⟩:=ex1 (r.state x)
 rw[hT]at CS rR hst
 clear hT
 obtain⟨F,hF⟩:=ex1 (s.dw x)
 have HF:=hdn (show(if bg ((s.low x).next s.me) (s.low x)≤0 then s else match s.promise x ((s.low x).next s.me) with
  |none=>s
  |some t=>(({t with rs:=aG x (⟨(s.low x).next s.me,[],false,[],[],0⟩:Rn) t.rs} :Site).others (Site.asks ⟨(s.low x).next s.me,[],false,[],[],0⟩ x) s.n).send
    (({t with rs:=aG x (⟨(s.low x).next s.me,[],false,[],[],0⟩:Rn) t.rs} :Site).others (Site.asks ⟨(s.low x).next s.me,[],false,[],[],0⟩ x) s.n).me
    ((({t with rs:=aG x (⟨(s.low x).next s.me,[],false,[],[],0⟩:Rn) t.rs} :Site).others (Site.asks ⟨(s.low x).next s.me,[],false,[],[],0⟩ x) s.n).answer x ((s.low x).next s.me)))=F from hF)
 rw[hF]
 clear hF
 have uu:=hdn (show s.low x=match aC x s.rs with|some r=>(if 0<bg r.ax T.p then r.ax else T.p)|none=>T.p by
  unfold Site.low;rw[←hst];rfl)
 obtain⟨L,hL⟩:=ex1 (s.low x)
 rw[hL]at HF uu agJ
 clear hL
 have r0:W2.cell? ⟨H,0,none⟩=some (.int .i64 (s.me:Int)):=by rw[hB2.cell 0];show some (Value.int .i64 (r.me:Int))=_;rw[h.aJ.me]
 rw[ai.arr]at CS ⊢
 go_enter func147,ntmps147
 repeat' (fail_if_success with_reducible refine ek (t:=63) rfl ?_);go_step
 refine bF hii hB2 abx ?_
 repeat' go_step
 refine CS.mono ?_;rintro e w3 ⟨rfl,u3⟩
 clear CS
 obtain⟨W4,K,eW4,hK,rQ,U4⟩:=az w3 166 #[.int .i64 T.p.r,.int .i64 T.p.s,.bool T.so,.int .i64 T.at_.r,.int .i64 T.at_.s,.slice T.A T.n T.c]
 obtain⟨W5,B,Ev,hBe,zX,U5⟩:=az W4 30 #[.int .i64 T.p.r,.int .i64 T.p.s]
 have U25:aa [] [] W2 W5:=(u3.trans U4.g0).trans U5.g0
 have fw:=hB2.upd U25
 have hK5:=rQ.upd U5
 have h5:=h2.grow U25
 have hKB:K≠B:=by have:=rQ.lt;omega
 have hHB:H≠B:=by have h1:=hB2.lt;have h2:=u3.size;have h3:=U4.size;omega
 have hGB:G≠B:=by have h1:=hBG.lt;have h2:=u3.size;have h3:=U4.size;omega
 have Ib:∀k∈[B],W2.heap.size≤k:=by have h2:=u3.size;have h3:=U4.size;simp only[mem_singleton];rintro k rfl;omega
 obtain⟨⟨k0,k1,k2,k3,k4,k5⟩,-⟩:=rQ.c6
 have CF:=uY W5 r h5.mem x
 rw[ai.arr]at CF
 rw[aN.val]
 repeat' (fail_if_success with_reducible refine ek (t:=63) rfl ?_);first|go_step|simp only[];go_at_K
 refine bF hii fw abx ?_
 repeat' go_step
 refine CF.mono ?_;rintro e w6 ⟨k,rfl,adG,u6⟩
 clear CF k0 k1 k2 k3 k4 k5
 have yc:=h.aJ.find adG
 have U26:=U25.trans u6
 have dK:=fw.upd u6
 have UI:=zX.upd u6
 have h6:=h5.grow u6
 have q9:w6.cell? ⟨H,9,none⟩=some (.slice r.RA r.R.length r.rc):=dK.cell 9
 obtain⟨D,hD⟩:=ex1 ((match aC x s.rs with|some r=>decide (0<bg r.ax T.p)|none=>false))
 have HD:=hdn hD
 clear hD
 repeat' first|go_step|simp only[];go_at_K
 go_cut [32]from 20 (fun s32 wc=>s32=.bool D∧aa [] [] w6 wc)
 case first=>
  rcases yc with⟨rfl,hlk⟩|⟨i,hi,rfl,hsl,hlk⟩
  ·have dO:D=false:=by have:=HD.out;rw[hlk]at this;exact this.symm
   subst dO
   clear hlk adG uu
   refine dx (by kernel_rfl) (by kernel_rfl) ?_
   repeat (go_big_quiet_step (fail))
   refine wpQuiet_nil ?_
   rintro _ ⟨p,rfl⟩
   refine wk ?_
   go_meet
   exact⟨rfl,p.u⟩
  ·obtain⟨ad,gL,h0,hj⟩:=bR.at_ (f:=aL.cells) (s:=8) (fun _=>rfl) h6.mem.R hi
   obtain⟨y,hlk,hj⟩:∃y:aL,aC x s.rs=some y.pl.2∧∀k u,0<k→(aL.cells y)[k]? =some u→w6.cell? ⟨(ad.add (i*8)).block,(ad.add (i*8)).off+k,none⟩=some u:=⟨_,hlk,hj⟩
   have dO:decide (0<bg y.ax T.p)=D:=by have:=HD.out;rw[hlk]at this;exact this
   have hil:(i:Int)<(r.R.length:Int):=by omega
   have t0:decide (0≤(i:Int))=true:=dTo
   have c9:∀p:GU w6,p.w.cell? ⟨H,9,none⟩=some (.slice (some ad) r.R.length r.rc):=fun p=>p.u.cell (by rw[q9,gL]) (by simp)
   have c1:∀p:GU w6,p.w.cell? ⟨(ad.add (i*8)).block,(ad.add (i*8)).off+1,none⟩=some (.int .i64 y.ax.r):=fun p=>p.u.cell (hj 1 _ (by omega) rfl) (by simp)
   have c2:∀p:GU w6,p.w.cell? ⟨(ad.add (i*8)).block,(ad.add (i*8)).off+2,none⟩=some (.int .i64 y.ax.s):=fun p=>p.u.cell (hj 2 _ (by omega) rfl) (by simp)
   have d0:∀p:GU w6,p.w.cell? ⟨B,0,none⟩=some (.int .i64 T.p.r):=fun p=>p.u.cell (UI.cell 0) (by simp)
   have d1:∀p:GU w6,p.w.cell? ⟨B,1,none⟩=some (.int .i64 T.p.s):=fun p=>p.u.cell (UI.cell 1) (by simp)
   have CW:∀p:GU w6,Calls prog 27 #[.agg #[.int .i64 y.ax.r,.int .i64 y.ax.s],.agg #[.int .i64 T.p.r,.int .i64 T.p.s]] p.w fun e w'=>e=.returned (.int .i64 (bg y.ax T.p))∧∃q:GU w6,w'=q.w:=
    fun p=>p.call (mD _ y.ax T.p)
   generalize bg y.ax T.p=cm at *
   obtain⟨m,hm⟩:=ex1 r.R.length
   rw[hm]at c9 hil
   clear hm hlk adG hj h0 gL uu q9
   refine dx (by kernel_rfl) (by kernel_rfl) ?_
   repeat (go_big_quiet_step (exact CW _))
   refine wpQuiet_nil ?_
   rintro _ ⟨p,rfl⟩
   clear c9 c1 c2 d0 d1 CW
   refine wk ?_
   go_meet
   exact⟨by rw[←dO],p.u⟩
 case rest=>
  obtain⟨rfl,UD⟩:=hcut
  have fM:=UI.upd UD
  have hHc:=dK.upd UD
  have hc:=h6.grow UD
  have q9c:wc.cell? ⟨H,9,none⟩=some (.slice r.RA r.R.length r.rc):=hHc.cell 9
  go_upto_if 32 with fail
  go_cut [6]from 20 (fun s6 wd=>s6=.pointer (some ⟨B,0,none⟩)∧ak wd B 30 #[.int .i64 L.r,.int .i64 L.s]∧aa [B] [B] wc wd)
  case first=>
   cases D with
   |false=>
    have Js:L=T.p:=by
     have h1:=uu.out
     have h2:=HD.out
     cases hq:aC x s.rs with
     |none=>rw[hq]at h1;exact h1
     |some y=>
      have h3:L=if 0<bg y.ax T.p then y.ax else T.p:=by rw[hq]at h1;exact h1
      have h4:decide (0<bg y.ax T.p)=false:=by rw[hq]at h2;exact h2
      rw[h3,if_neg (of_decide_eq_false h4)]
    have KEY:=hdn (show ak wc B 30 #[.int .i64 L.r,.int .i64 L.s] by rw[Js];exact fM)
    clear Js fM
    refine wk ?_
    go_meet
    exact⟨rfl,KEY.out,aa.refl _ _⟩
   |true=>
    rcases yc with⟨rfl,hlk⟩|⟨i,hi,rfl,hsl,hlk⟩
    ·exfalso
     have h2:=HD.out
     rw[hlk]at h2
     cases h2
    ·obtain⟨ad,gL,h0,hj⟩:=bR.at_ (f:=aL.cells) (s:=8) (fun _=>rfl) hc.mem.R hi
     obtain⟨y,hlk,hj⟩:∃y:aL,aC x s.rs=some y.pl.2∧∀k u,0<k→(aL.cells y)[k]? =some u→wc.cell? ⟨(ad.add (i*8)).block,(ad.add (i*8)).off+k,none⟩=some u:=⟨_,hlk,hj⟩
     have hLy:L=y.ax:=by
      have h1:=uu.out
      have h2:=HD.out
      have h3:L=if 0<bg y.ax T.p then y.ax else T.p:=by rw[hlk]at h1;exact h1
      have h4:decide (0<bg y.ax T.p)=true:=by rw[hlk]at h2;exact h2
      rw[h3,if_pos (of_decide_eq_true h4)]
     have hil:(i:Int)<(r.R.length:Int):=by omega
     have d1:=hj 1 _ (by omega) rfl
     have d2:=hj 2 _ (by omega) rfl
     rw[gL]at q9c
     obtain⟨⟨b0,b1⟩,l0,l1⟩:=fM.c2
     have KEY:=hdn (show ak ((wc.setCell ⟨B,0,none⟩ (.int .i64 y.ax.r)).setCell ⟨B,1,none⟩ (.int .i64 y.ax.s)) B 30 #[.int .i64 L.r,.int .i64 L.s] by rw[hLy];exact oJ fM _ _)
     have KU:=hdn (oK wc B (.int .i64 y.ax.r) (.int .i64 y.ax.s))
     obtain⟨m,hm⟩:=ex1 r.R.length
     rw[hm]at q9c hil
     clear hm hlk hj h0 gL adG hLy fM
     refine wk ?_
     go_meet
     exact⟨rfl,KEY.out,KU.out⟩
  case rest=>
   obtain⟨rfl,hBd,UB⟩:=hcut
   have hKd:=(hK5.upd (u6.trans UD)).upd UB (by simpa using hKB)
   have hHd:=hHc.upd UB (by simpa using hHB)
   have U2d:aa [] [] W2 wc:=(U26.trans UD).aB Ib UB
   have vg:=hBG.upd U2d
   have hd:=h2.grow U2d
   obtain⟨N,hN⟩:=ex1 (L.next s.me)
   have WU:N.may 7=true:=by rw[←hN];exact Bl.BB agJ (by have h1:=hok.me;have h2:=hok.n7;omega)
   obtain⟨Wl,Lb,eWl,FD,hBL,Ul⟩:=az wc 30 #[.int .i64 L.r,.int .i64 L.s]
   have C7:=QO Wl L (s.me:Int)
   rw[hN]at C7 HF
   clear hN agJ uu HD yc adG
   have ul:=Ul.g0
   have hLB:Lb≠B:=by have:=hBd.lt;omega
   have uO:=hHd.upd ul
   have hBl:=hBd.upd ul
   have hKl:=hKd.upd ul
   have hGl:=vg.upd ul
   have r0l:Wl.cell? ⟨H,0,none⟩=some (.int .i64 (s.me:Int)):=by rw[uO.cell 0];show some (Value.int .i64 (r.me:Int))=_;rw[h.aJ.me]
   obtain⟨⟨b0,b1⟩,-⟩:=hBd.c2
   obtain⟨⟨b2,b3⟩,-⟩:=hBl.c2
   rw[Bl.val,Bl.val]at C7
   repeat' go_step
   refine C7.mono ?_;rintro e w7 ⟨rfl,u7⟩
   clear C7 b0 b1 b2 b3 r0l
   have pF:=hBl.upd u7
   obtain⟨⟨b0,b1⟩,l0,l1⟩:=pF.c2
   obtain⟨W8,Ez⟩:=ex1 ((w7.setCell ⟨B,0,none⟩ (.int .i64 N.r)).setCell ⟨B,1,none⟩ (.int .i64 N.s))
   have u8:aa [B] [B] w7 W8:=by rw[←Ez];exact oK _ _ _ _
   have yx:ak W8 B 30 #[.int .i64 N.r,.int .i64 N.s]:=by rw[←Ez];exact oJ pF _ _
   have AJ:=(uO.upd u7).upd u8 (by simpa using hHB)
   have MS:=(hKl.upd u7).upd u8 (by simpa using hKB)
   have aX:=(hGl.upd u7).upd u8 (by simpa using hGB)
   have hL8:=((hBL.upd u7).upd u8 (by simpa using hLB))
   have WV:aa [] [] W2 W8:=((U2d.trans ul).trans u7).aB Ib u8
   have hX8:∀k∈[H,G]++X,k<W8.heap.size:=fun k hk=>by have h1:=hX2 k hk;have h2:=WV.size;omega
   have C8:=Dh ([H,G]++X) W8 r s (h2.grow WV) hX8 x hx N WU
   obtain⟨o,ho⟩:=ex1 (s.promise x N)
   have HO:=hdn ho
   rw[ho]at C8 HF
   rw[ai.arr,Bl.val]at C8
   obtain⟨⟨e0,e1⟩,-⟩:=yx.c2
   clear ho
   repeat' (fail_if_success with_reducible refine ek (t:=63) rfl ?_);first|go_step|simp only[];go_at_K
   refine bF hii AJ abx ?_
   repeat' go_step
   refine C8.mono ?_;rintro e w9 ⟨v,rfl,r2,rfl,n2,u9⟩
   clear C8 e0 e1 b0 b1 l0 l1
   obtain⟨ZX,P9,aeY,hP9,hBP,Mf⟩:=az w9 63 cz
   have iQ:=Mf.g0
   have hP2:∀k∈[P9],W2.heap.size≤k:=by have h1:=WV.size;have h2:=u9.size;simp only[mem_singleton];rintro k rfl;omega
   have hPf:∀k∈r2.fp,k∉[P9]:=fun k hk hm=>by have h1:=n2.mem.lt k hk;simp only[mem_singleton]at hm;omega
   have Jt:∀{g:Nat}{t:TypeId}{cs:Array Value},ak W8 g t cs→g≠P9:=fun hb=>by have h1:=hb.lt;have h2:=u9.size;omega
   have hHP:=Jt AJ
   have hKP:=Jt MS
   have hGP:=Jt aX
   have Js:=Jt hL8
   have aeZ:=Jt yx
   rw[ai.arr]
   refine bK ?_
   refine bL r2.cells hii abx hBP ?_
   intro rU aaf lD
   have uw:=((AJ.upd u9).upd iQ).upd lD (by simpa using hHP)
   have aag:=((MS.upd u9).upd iQ).upd lD (by simpa using hKP)
   have UJ:=((aX.upd u9).upd iQ).upd lD (by simpa using hGP)
   have aah:=((hL8.upd u9).upd iQ).upd lD (by simpa using Js)
   have UO:=((yx.upd u9).upd iQ).upd lD (by simpa using aeZ)
   have UQ:aa [] [] W2 rU:=((WV.trans u9).trans iQ).aB hP2 lD
   have n11:Ref ([H,G]++X) rU r2 (o.getD s):=by have hn:=n2.grow iQ;exact⟨hn.mem.vP lD hPf,hn.aJ,hn.off⟩
   have h11:=h2.grow UQ
   clear AJ MS aX hL8 yx n2 hHd hBd hKd vg hd uO hBl hKl hGl pF hBL
   clear aeY hP9
   cases o with
   |none=>
    have dQ:F=s:=by
     rw[←HF.out]
     split<;>rfl
    subst dQ
    simp only[Option.isSome_none]
    repeat' (fail_if_success with_reducible refine ek (t:=63) rfl ?_);first|go_guarded|go_step
    refine bF hii uw abx ?_
    refine bK ?_
    refine bL r.cells hii abx UJ ?_
    intro Dr vR lZ
    refine wk ?_
    exact fG results147 hii vR abx ⟨_,rfl,r,rfl,(h11.upd lZ).less,(aK.trans UQ).aB aR lZ⟩
   |some t=>
    have n11:Ref ([H,G]++X) rU r2 t:=n11
    simp only[Option.isSome_some]
    have CC:=mD rU N L
    rw[Bl.val,Bl.val]at CC
    obtain⟨⟨b0,b1⟩,-⟩:=UO.c2
    obtain⟨⟨l0,l1⟩,-⟩:=aah.c2
    obtain⟨cm,hcm⟩:=ex1 (bg N L)
    rw[hcm]at CC HF
    clear hcm
    repeat' first|go_guarded|go_step
    refine CC.mono ?_;rintro e xS ⟨rfl,lZ⟩
    clear CC b0 b1 l0 l1
    have vS:=uw.upd lZ
    have aai:=aag.upd lZ
    have vR:=UJ.upd lZ
    have UT:=UO.upd lZ
    have aaj:=aaf.upd lZ
    have n12:=n11.grow lZ
    have h12:=h11.grow lZ
    have Ju:=UQ.trans lZ
    clear uw aag UJ UO aaf n11 h11 aah
    by_cases ah0:cm≤0
    ·have t0:decide (cm≤0)=true:=dTx ah0
     have dQ:F=s:=by rw[←HF.out,if_pos ah0]
     subst dQ
     repeat' (fail_if_success with_reducible refine ek (t:=63) rfl ?_);first|go_guarded|go_step|simp only[];go_at_K
     refine bF hii vS abx ?_
     refine bK ?_
     refine bL r.cells hii abx vR ?_
     intro W13 ae0 rM
     refine wk ?_
     exact fG results147 hii ae0 abx ⟨_,rfl,r,rfl,(h12.upd rM).less,(aK.trans Ju).aB aR rM⟩
    ·have t0:decide (cm≤0)=false:=dFx ah0
     obtain⟨tm,tn,th,PW,tst⟩:=Site.pq HO.out
     have UY:=HF.out
     rw[if_neg ah0]at UY
     have uA:=hdn UY
     clear UY HF
     obtain⟨⟨b0,b1⟩,-⟩:=UT.c2
     repeat' (fail_if_success with_reducible refine ek (t:=63) rfl ?_);first|go_guarded|go_step|simp only[];go_at_K
     obtain⟨W13,M,aal,hM,fD,PT⟩:=az xS 230 #[.int .i64 x,.int .i64 N.r,.int .i64 N.s,.slice none 0 0,.bool false,.slice none 0 0,.slice none 0 0,.int .i64 0]
     rw[aal,hM]
     have rM:=PT.g0
     have aam:=aaj.upd rM
     have n13:=n12.grow rM
     have aan:∀k∈[H,G]++X,k<W13.heap.size:=fun k hk=>by have h1:=hX2 k hk;have h2:=Ju.size;have h3:=rM.size;omega
     have C9:=wH ([H,G]++X) W13 r2 t n13 aan ⟨x,N,none,0,[],false,⟨none,0,0,[]⟩,none,0,[],0⟩ ⟨⟨⟨rfl,Rd.none_⟩,by simp,⟨rfl,Rd.none_⟩,aD.nil _ _⟩,by simp[aL.fp,dV]⟩ hx ⟨by simp[aL.pl],WU,by simp[aL.pl]⟩
     rw[ai.arr,aL.val]at C9
     simp only[aL.cells,length_nil]at C9
     rw[show((0:Nat):Int)=0 from rfl]at C9
     obtain⟨⟨m0,m1,m2,m3,m4,m5,m6,m7⟩,-⟩:=ak.c8 fD
     refine bF hii aam abx ?_
     repeat' go_step
     refine C9.mono ?_;rintro e w14 ⟨v,rfl,r3,rfl,n3,FU⟩
     clear C9 m0 m1 m2 m3 m4 m5 m6 m7 b0 b1
     have En:=(vS.upd rM).upd FU
     rw[ai.arr]
     refine bK ?_
     refine bL r3.cells hii abx En ?_
     intro Wz AO uz
     have MW:=((aai.upd rM).upd FU).upd uz (by have h1:=rQ.lt;have h2:=hB2.lt;have h3:=u3.size;simp only[mem_singleton];omega)
     have uB:=((UT.upd rM).upd FU).upd uz (by simpa using hHB.symm)
     have iF:=((vR.upd rM).upd FU).upd uz (by simpa using dY)
     have FV:=(fD.upd FU).upd uz (by have h1:=vS.lt;simp only[mem_singleton];omega)
     have nz:=n3.upd uz
     have zl:aa [] [] w Wz:=(((aK.trans Ju).trans rM).trans FU).aB hHw uz
     have uC:∀k∈[H,G]++X,k<Wz.heap.size:=fun k hk=>by have h1:=aan k hk;have h2:=FU.size;have h3:=uz.size;omega
     clear vS aai vR UT aaj n12 h12 aam n13 fD En n3 aal
     obtain⟨ro,hro⟩:∃ro:aL,(⟨x,N,none,0,[],false,⟨none,0,0,[]⟩,none,0,[],0⟩:aL)=ro:=⟨_,rfl⟩
     obtain⟨mA,lF⟩:∃mA:Mv,(⟨3,0,0,x,N.r,N.s,0,0,false,none,0,0,[]⟩:Mv)=mA:=⟨_,rfl⟩
     obtain⟨mN,Du⟩:∃mN:Mv,(⟨4,0,0,x,N.r,N.s,T.at_.r,T.at_.s,T.so,T.A,T.n,T.c,T.b⟩:Mv)=mN:=⟨_,rfl⟩
     have akq:ni ro=mA:=by rw[←hro,←lF];rfl
     have Va:mA.ms=Site.asks ⟨N,[],false,[],[],0⟩ x:=by rw[←lF];rfl
     have BC:mN.ms=s.answer x N:=by rw[←Du];unfold Site.answer;rw[←hst];rfl
     have hfA:mA.ms.Fit:=by rw[Va];exact Site.iT hx WU (by simp)
     have hfN:mN.ms.Fit:=by rw[BC];exact Site.mX hok hx WU adn
     have CA:∀w',Calls prog 138 #[.agg #[.int .i64 x,.int .i64 N.r,.int .i64 N.s,.slice none 0 0,.bool false,.slice none 0 0,.slice none 0 0,.int .i64 0]] w' fun e w''=>e=.returned mA.val∧aa [] [] w' w'':=fun w'=>by
      have:=uX w' ro
      rw[akq,←hro]at this
      exact this
     have CN:∀w',Calls prog 215 #[.int .i64 x,.agg #[.int .i64 N.r,.int .i64 N.s],.agg #[.int .i64 T.p.r,.int .i64 T.p.s,.bool T.so,.int .i64 T.at_.r,.int .i64 T.at_.s,.slice T.A T.n T.c]] w' fun e w''=>e=.returned mN.val∧aa [] [] w' w'':=fun w'=>by
      have:=Aw w' x N T
      rw[Du]at this
      exact this
     have oN:dU ([H,G]++X) Wz T.A T.n T.b:=(((rR.grow Ju).grow rM).grow FU).upd uz
     have BD:mN.A=T.A∧mN.n=T.n∧mN.b=T.b:=by rw[←Du];exact⟨rfl,rfl,rfl⟩
     have jN:mA.A=none∧mA.n=0∧mA.b= []:=by rw[←lF];exact⟨rfl,rfl,rfl⟩
     obtain⟨t',ht'⟩:∃t':Site,{t with rs:=aG x (⟨N,[],false,[],[],0⟩:Rn) t.rs} =t':=⟨_,rfl⟩
     have nz:Ref ([H,G]++X) Wz r3 t':=by rw[←ht'];exact nz
     have htn:t'.n=s.n∧t'.me=s.me∧t'.held=s.held∧t'.stat x= {s.stat x with p:=N}:=by rw[←ht'];exact⟨tn,tm,th,tst⟩
     have dQ:F=(t'.others mA.ms t'.n).send (s.me:Int) mN.ms:=by
      rw[←uA.out]
      show((({t with rs:=aG x (⟨N,[],false,[],[],0⟩:Rn) t.rs} :Site).others (Site.asks ⟨N,[],false,[],[],0⟩ x) s.n).send
       (({t with rs:=aG x (⟨N,[],false,[],[],0⟩:Rn) t.rs} :Site).others (Site.asks ⟨N,[],false,[],[],0⟩ x) s.n).me
       ((({t with rs:=aG x (⟨N,[],false,[],[],0⟩:Rn) t.rs} :Site).others (Site.asks ⟨N,[],false,[],[],0⟩ x) s.n).answer x N))=_
      rw[ht',Va,htn.1,(Site.fJ _ _).1,htn.2.1,BC]
      congr 1
      unfold Site.answer
      have e:(t'.others (Site.asks ⟨N,[],false,[],[],0⟩ x) s.n).stat x=t'.stat x:=by rw[Site.bH];rfl
      rw[e,htn.2.2.2]
     have ab4:(t'.others mA.ms t'.n).held.length<1000000000:=by
      rw[Site.bH]
      show(t'.held++t'.tell mA.ms t'.n).length<_
      have:=t'.gQ mA.ms t'.n
      have h7:=hok.n7
      rw[length_append,htn.2.2.1]
      rw[htn.1]at this ⊢
      omega
     have ab5:t'.held.length<900000000:=by rw[htn.2.2.1];omega
     have nY:H∉[G]:=by simpa using dY.symm
     have FW:M∉[G]:=by have h1:=hBG.lt;have h2:=Ju.size;simp only[mem_singleton];omega
     have aap:B∉[G]:=by simpa using hGB.symm
     have wO:K∉[G]:=by have h1:=hBG.lt;have h2:=u3.size;simp only[mem_singleton];omega
     have LT:∀w',aa [G] [G] Wz w'→ak w' H 63 r3.cells.toArray:=fun w' u=>AO.upd u nY
     have mme:r3.me=s.me:=nz.aJ.me.trans htn.2.1
     have c0:∀w',aa [G] [G] Wz w'→w'.cell? ⟨H,0,none⟩=some (.int .i64 (s.me:Int)):=fun w' u=>by rw[(LT w' u).cell 0];show some (Value.int .i64 (r3.me:Int))=_;rw[mme]
     have m0:∀w',aa [G] [G] Wz w'→w'.cell? ⟨M,0,none⟩=some (.int .i64 x):=fun w' u=>(FV.upd u FW).cell 0
     have m1:∀w',aa [G] [G] Wz w'→w'.cell? ⟨M,1,none⟩=some (.int .i64 N.r):=fun w' u=>(FV.upd u FW).cell 1
     have m2:∀w',aa [G] [G] Wz w'→w'.cell? ⟨M,2,none⟩=some (.int .i64 N.s):=fun w' u=>(FV.upd u FW).cell 2
     have m3:∀w',aa [G] [G] Wz w'→w'.cell? ⟨M,3,none⟩=some (.slice none 0 0):=fun w' u=>(FV.upd u FW).cell 3
     have m4:∀w',aa [G] [G] Wz w'→w'.cell? ⟨M,4,none⟩=some (.bool false):=fun w' u=>(FV.upd u FW).cell 4
     have m5:∀w',aa [G] [G] Wz w'→w'.cell? ⟨M,5,none⟩=some (.slice none 0 0):=fun w' u=>(FV.upd u FW).cell 5
     have m6:∀w',aa [G] [G] Wz w'→w'.cell? ⟨M,6,none⟩=some (.slice none 0 0):=fun w' u=>(FV.upd u FW).cell 6
     have m7:∀w',aa [G] [G] Wz w'→w'.cell? ⟨M,7,none⟩=some (.int .i64 0):=fun w' u=>(FV.upd u FW).cell 7
     have e0:∀w',aa [G] [G] Wz w'→w'.cell? ⟨B,0,none⟩=some (.int .i64 N.r):=fun w' u=>(uB.upd u aap).cell 0
     have e1:∀w',aa [G] [G] Wz w'→w'.cell? ⟨B,1,none⟩=some (.int .i64 N.s):=fun w' u=>(uB.upd u aap).cell 1
     have k0:∀w',aa [G] [G] Wz w'→w'.cell? ⟨K,0,none⟩=some (.int .i64 T.p.r):=fun w' u=>(MW.upd u wO).cell 0
     have k1:∀w',aa [G] [G] Wz w'→w'.cell? ⟨K,1,none⟩=some (.int .i64 T.p.s):=fun w' u=>(MW.upd u wO).cell 1
     have k2:∀w',aa [G] [G] Wz w'→w'.cell? ⟨K,2,none⟩=some (.bool T.so):=fun w' u=>(MW.upd u wO).cell 2
     have k3:∀w',aa [G] [G] Wz w'→w'.cell? ⟨K,3,none⟩=some (.int .i64 T.at_.r):=fun w' u=>(MW.upd u wO).cell 3
     have k4:∀w',aa [G] [G] Wz w'→w'.cell? ⟨K,4,none⟩=some (.int .i64 T.at_.s):=fun w' u=>(MW.upd u wO).cell 4
     have k5:∀w',aa [G] [G] Wz w'→w'.cell? ⟨K,5,none⟩=some (.slice T.A T.n T.c):=fun w' u=>(MW.upd u wO).cell 5
     have xY:=hdn dQ
     clear dQ hro lF Du akq Va BC ht' tm tn th PW tst uA hst mme ah0
     repeat' go_step
     refine wp_region_held_drew (S:=fun w'=>aa [G] [G] Wz w') (by kernel_rfl) (aa.refl [G] Wz).drew fun _=>?_
     refine mi 0 hii (r3).cells abx LT ?_
     refine aF 1 ?_
     refine aF 4 ?_
     refine aF 5 ?_
     refine aF 6 ?_
     refine aF 7 ?_
     refine aF 8 ?_
     refine aW 2 (fun K hK=>?_)
     go_simp
     refine(CA _).mono ?_;rintro e wa ⟨rfl,ua⟩
     simp only[]
     have UA:aa [G] [G] Wz wa:=(‹aa [G] [G] Wz _›).trans (ua.up _)
     refine aP hK (UA) fun _=>?_
     clear hK K
     refine aW 3 (fun K hK=>?_)
     have CO:=jf ([H,G]++X) wa r3 t' (nz.upd UA) (fun k hk=>by have h1:=uC k hk;have h2:=UA.size;omega) ab5 mA (by rw[jN.1,jN.2.1,jN.2.2];exact dU.nil _ _ _) hfA
     rw[ai.arr]at CO
     go_simp
     refine CO.mono ?_;rintro e wb ⟨v,rfl,rb,rfl,nb,ub⟩
     simp only[]
     rw[ai.arr]
     have UB:aa [G] [G] Wz wb:=UA.trans (ub.up _)
     refine aP hK (UB) fun _=>?_
     clear hK K
     refine aW 9 (fun K hK=>?_)
     go_simp
     refine(CN _).mono ?_;rintro e wc ⟨rfl,uc⟩
     simp only[]
     have UC:aa [G] [G] Wz wc:=UB.trans (uc.up _)
     refine aP hK (UC) fun _=>?_
     clear hK K
     refine aW 10 (fun K hK=>?_)
     have ky:=lU ([H,G]++X) wc rb _ (nb.grow uc) (fun k hk=>by have h1:=uC k hk;have h2:=UC.size;omega) ab4 (s.me:Int) (by omega) mN (by rw[BD.1,BD.2.1,BD.2.2];exact oN.upd UC) hfN
     rw[ai.arr]at ky
     go_simp
     refine ky.mono ?_;rintro e wd ⟨v,rfl,rd,rfl,nd,ud⟩
     simp only[]
     rw[ai.arr]
     have UD:aa [G] [G] Wz wd:=UC.trans (ud.up _)
     have vg:ak wd G 63 cz:=(((iF.upd ((aa.refl [] Wz).drew.trans ua) (by simp)).upd ub).upd uc).upd ud
     refine aP hK (UD) fun _=>?_
     clear hK K
     refine aW 11 (fun K hK=>?_)
     refine mf rd.cells hii abx vg ?_
     intro Wn hGn un
     have UN:aa [G] [G] Wz Wn:=UD.trans un
     refine aP hK (UN) fun _=>?_
     clear hK K
     refine dnH ?_ _
     refine wk ?_
     exact fG results147 hii hGn abx ⟨_,rfl,rd,rfl,by rw[xY.out];exact(nd.upd un).less,zl.aB aR UN⟩
end Go.Proofs.YtijhlbeipglieaaGreat
namespace aA
open Go List
def Site.put(s:Site)(m:Ms):Site:=match s.accept m.slot m.ax m.val with|some t=>t.send m.bO (Site.dW m.slot m.ax)|none=>s
end aA
namespace Go.Proofs.YtijhlbeipglieaaGreat
open Go.RowKit aA Go.Maps Go.Proofs.Tryz List
theorem QW(X:List Nat)(w:World)(r:ai)(s:Site)(h:Ref X w r s)(hX:∀k∈X,k<w.heap.size)(m:Mv)(hm:m.ms.May)(hb:dU X w m.A m.n m.b)(hl:s.held.length≤800000000) :
  Calls prog 212 #[r.val,m.val] w fun e w'=>∃v,e=.returned v∧Came X w w' v (s.put m.ms):=by
 obtain⟨ii,hii,abx,W,H,eW,hH,hB,U0,W1,J,nK,hJ,fT,U1,W2,G,fu,hG,hBG,U2,hB2,hJ2,hs1,uh,uU,dY,aK,hs0,hs2,hY,hHw,aR,nY,gV,h2,hX2,qG⟩:=Bt h hX 32 #[.int .i64 m.k,.int .i64 m.f,.int .i64 m.t,.int .i64 m.s,.int .i64 m.br,.int .i64 m.bs,.int .i64 m.hr,.int .i64 m.hs,.bool m.so,.slice m.A m.n m.c] 63 cz
 have hok:=h.aJ.ok
 have zm:0≤m.f∧m.f≤6:=hm.bO
 have hms:0≤m.s∧m.s≤4095:=hm.slot
 have hmb:(⟨m.br,m.bs⟩:Bl).may 7=true:=Bl.jb.2 ⟨hm.dz,hm.ed⟩
 have hb2:=(hb.more hY).grow aK
 have CA:=uZ ([H,G]++X) W2 r s h2 hX2 m.s (by omega) ⟨m.br,m.bs⟩ hmb ⟨m.A,m.n,m.c,m.b⟩ hb2 hm.val
 obtain⟨o,ho⟩:=ex1 (s.accept m.s ⟨m.br,m.bs⟩ m.b)
 have HO:=hdn ho
 have HF:=hdn (show s.put m.ms=(match (generalizing:=false) o with|some t=>t.send m.f (Site.dW m.s ⟨m.br,m.bs⟩)|none=>s) by rw[←ho];rfl)
 obtain⟨F,hF⟩:=ex1 (s.put m.ms)
 rw[hF]at HF ⊢
 rw[show s.accept m.s ⟨m.br,m.bs⟩ (⟨m.A,m.n,m.c,m.b⟩:aM).b=o from ho]at CA
 obtain⟨⟨j0,j1,j2,j3,j4,j5,j6,j7,j8,j9⟩,-⟩:=hJ2.c10
 rw[ai.arr,Bl.val]at CA
 rw[ai.arr,Mv.aH]
 clear hF ho
 go_enter func212,ntmps212
 repeat' (fail_if_success with_reducible refine ek (t:=63) rfl ?_);go_step
 refine bF hii hB2 abx ?_
 repeat' go_step
 refine CA.mono ?_;rintro e w6 ⟨v,rfl,r2,rfl,n2,u6⟩
 clear CA j0 j1 j2 j3 j4 j5 j6 j7 j8 j9
 obtain⟨W7,T8,wL,Dl,nk,U7⟩:=az w6 63 cz
 have u7:=U7.g0
 have oP:∀k∈[T8],W2.heap.size≤k:=by have:=u6.size;simp only[mem_singleton];rintro k rfl;omega
 have yz:∀k∈r2.fp,k∉[T8]:=fun k hk hm=>by have h1:=n2.mem.lt k hk;simp only[mem_singleton]at hm;omega
 have lu:∀{g:Nat}{t:TypeId}{cs:Array Value},ak W2 g t cs→g∉[T8]:=fun hb=>by have h1:=hb.lt;have h2:=u6.size;simp only[mem_singleton];omega
 rw[ai.arr]
 refine bK ?_
 refine bL r2.cells hii abx nk ?_
 intro Wz oN u8
 have U2z:aa [] [] W2 Wz:=(u6.trans u7).aB oP u8
 have AO:=((hB2.upd u6).upd u7).upd u8 (lu hB2)
 have iF:=((hBG.upd u6).upd u7).upd u8 (lu hBG)
 have FX:=((hJ2.upd u6).upd u7).upd u8 (lu hJ2)
 have nz:Ref ([H,G]++X) Wz r2 (o.getD s):=by have hn:=n2.grow u7;exact⟨hn.mem.vP u8 yz,hn.aJ,hn.off⟩
 have hz:=h2.grow U2z
 have rJ:T8∉[G]:=by have h1:=hBG.lt;have h2:=u6.size;simp only[mem_singleton];omega
 have zl:aa [] [] w Wz:=aK.trans U2z
 have uC:∀k∈[H,G]++X,k<Wz.heap.size:=fun k hk=>by have h1:=hX2 k hk;have h2:=U2z.size;omega
 clear n2 wL Dl nk
 cases o with
 |none=>
  have dQ:F=s:=HF.out
  subst dQ
  simp only[Option.isSome_none]
  repeat' (fail_if_success with_reducible refine ek (t:=63) rfl ?_);go_step
  refine bF hii AO abx ?_
  refine bK ?_
  refine bL r.cells hii abx iF ?_
  intro W9 oZ u9
  refine wk ?_
  exact fG results212 hii oZ abx ⟨_,rfl,r,rfl,(hz.upd u9).less,zl.aB aR u9⟩
 |some t=>
  have nz:Ref ([H,G]++X) Wz r2 t:=nz
  simp only[Option.isSome_some]
  obtain⟨tm,tn,th,-⟩:=Site.gD HO.out
  obtain⟨mV,vk⟩:∃mV:Mv,(⟨6,0,0,m.s,m.br,m.bs,0,0,false,none,0,0,[]⟩:Mv)=mV:=⟨_,rfl⟩
  have Vb:mV.ms=Site.dW m.s ⟨m.br,m.bs⟩:=by rw[←vk];rfl
  have QX:mV.ms.Fit:=by rw[Vb];exact Site.kz (by omega) hmb
  have xY:=hdn (show F=t.send m.f mV.ms by rw[Vb];exact HF.out)
  have uD:mV.A=none∧mV.n=0∧mV.b= []:=by rw[←vk];exact⟨rfl,rfl,rfl⟩
  have hlen:t.held.length<1000000000:=by rw[th];omega
  have CV:∀w',Calls prog 140 #[.int .i64 m.s,.agg #[.int .i64 m.br,.int .i64 m.bs]] w' fun e w''=>e=.returned mV.val∧aa [] [] w' w'':=fun w'=>by
   have:=xH w' m.s ⟨m.br,m.bs⟩
   rw[vk]at this
   exact this
  have pR:J∉[G]:=by simpa using uU
  have LT:∀w',aa [G] [G] Wz w'→ak w' T8 63 r2.cells.toArray:=fun w' u=>oN.upd u rJ
  have j1:∀w',aa [G] [G] Wz w'→w'.cell? ⟨J,1,none⟩=some (.int .i64 m.f):=fun w' u=>(FX.upd u pR).cell 1
  have j3:∀w',aa [G] [G] Wz w'→w'.cell? ⟨J,3,none⟩=some (.int .i64 m.s):=fun w' u=>(FX.upd u pR).cell 3
  have j4:∀w',aa [G] [G] Wz w'→w'.cell? ⟨J,4,none⟩=some (.int .i64 m.br):=fun w' u=>(FX.upd u pR).cell 4
  have j5:∀w',aa [G] [G] Wz w'→w'.cell? ⟨J,5,none⟩=some (.int .i64 m.bs):=fun w' u=>(FX.upd u pR).cell 5
  clear vk Vb tm tn th HF
  repeat' go_step
  refine wp_region_held_drew (S:=fun w'=>aa [G] [G] Wz w') (by kernel_rfl) (aa.refl [G] Wz).drew fun _=>?_
  refine mi 0 hii (r2).cells abx LT ?_
  refine aF 1 ?_
  refine aF 2 ?_
  refine aF 3 ?_
  refine aF 4 ?_
  refine aF 5 ?_
  refine aF 6 ?_
  refine aW 7 (fun K hK=>?_)
  go_simp
  refine(CV _).mono ?_;rintro e wa ⟨rfl,ua⟩
  simp only[]
  have UA:aa [G] [G] Wz wa:=(‹aa [G] [G] Wz _›).trans (ua.up _)
  refine aP hK (UA) fun _=>?_
  clear hK K
  refine aW 8 (fun K hK=>?_)
  have ky:=lU ([H,G]++X) wa r2 t (nz.upd UA) (fun k hk=>by have h1:=uC k hk;have h2:=UA.size;omega) hlen m.f zm mV (by rw[uD.1,uD.2.1,uD.2.2];exact dU.nil _ _ _) QX
  rw[ai.arr]at ky
  go_simp
  refine ky.mono ?_;rintro e wd ⟨v,rfl,rd,rfl,nd,ud⟩
  simp only[]
  rw[ai.arr]
  have UD:aa [G] [G] Wz wd:=UA.trans (ud.up _)
  have vg:ak wd G 63 cz:=(iF.upd ((aa.refl [] Wz).drew.trans ua) (by simp)).upd ud
  refine aP hK (UD) fun _=>?_
  clear hK K
  refine aW 9 (fun K hK=>?_)
  refine mf rd.cells hii abx vg ?_
  intro Wn hGn un
  have UN:aa [G] [G] Wz Wn:=UD.trans un
  refine aP hK (UN) fun _=>?_
  clear hK K
  refine dnH ?_ _
  refine wk ?_
  exact fG results212 hii hGn abx ⟨_,rfl,rd,rfl,by rw[xY.out];exact(nd.upd un).less,zl.aB aR UN⟩
