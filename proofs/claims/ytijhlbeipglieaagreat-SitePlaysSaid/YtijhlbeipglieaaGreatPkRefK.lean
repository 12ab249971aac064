/- For SitePlays. -/
import Derived.Test.YtijhlbeipglieaaGreatPkRefI
set_option linter.all false
set_option maxRecDepth 100000
set_option maxHeartbeats 16000000
namespace Go.Proofs.YtijhlbeipglieaaGreat
open Go.RowKit aA Go.Maps Go.Proofs.Tryz List
theorem iO.made{X:List Nat}{w:World}{x:Int}{bl:Bl}{so:Bool}{V:aM}{bG:Nat}(hV:dU X w V.A V.n V.b):iO X w ⟨x,bl,none,0,[],so,V,none,0,[],bG⟩:=
 ⟨⟨⟨rfl,Rd.none_⟩,by simp,⟨rfl,Rd.none_⟩,hV.rd⟩,fun k hk=>hV.off k hk⟩
theorem Ph(X:List Nat)(w:World)(r:ai)(s:Site)(h:Ref X w r s)(hX:∀k∈X,k<w.heap.size)(A:Option Addr)(n c:Nat)(b:List UInt8)(hb:dU X w A n b)(hl:s.held.length≤600000000) :
  Calls prog 80 #[r.val,.slice A n c] w fun e w'=>∃v,e=.returned (.tuple #[v,.int .i64 (s.cZ b).2.1,.int .i64 (s.cZ b).2.2])∧Came X w w' v (s.cZ b).1:=by
 obtain⟨ii,hii,abx,W,H,eW,hH,hB,U0,W2,G,fu,hG,hBG,U2,hB2,dY,aK,hs0,hs2,hY,hHw,aR,nY,gV,h2,hX2,qG⟩:=yY h hX 63 cz
 have hok:=h.aJ.ok
 have hb2:=(hb.more hY).grow aK
 have hbn:=hb.rd.len
 obtain⟨ir,hir,rF⟩:=Eo
 have c3:W2.cell? ⟨H,3,none⟩=some (.bool s.down):=by rw[hB2.cell 3];show some (Value.bool r.down)=_;rw[h.aJ.down]
 have c0:W2.cell? ⟨H,0,none⟩=some (.int .i64 (s.me:Int)):=by rw[hB2.cell 0];show some (Value.int .i64 (r.me:Int))=_;rw[h.aJ.me]
 have c1:W2.cell? ⟨H,1,none⟩=some (.int .i64 (s.n:Int)):=by rw[hB2.cell 1];show some (Value.int .i64 (r.n:Int))=_;rw[h.aJ.n]
 have c10:W2.cell? ⟨H,10,none⟩=some (.int .i64 (s.nx:Int)):=by rw[hB2.cell 10];show some (Value.int .i64 (r.nx:Int))=_;rw[h.aJ.nx]
 obtain⟨dn,hdU⟩:=ex1 s.down
 rw[hdU]at c3
 obtain⟨F1,hF1⟩:=ex1 ((s.cZ b).1)
 obtain⟨F2,hF2⟩:=ex1 ((s.cZ b).2.1)
 obtain⟨F3,yu⟩:=ex1 ((s.cZ b).2.2)
 have HF:=hdn (show s.cZ b=(F1,F2,F3) by rw[←hF1,←hF2,←yu])
 have HN:=hdn hbn
 rw[hF1,hF2,yu,ai.arr]
 clear hF1 hF2 yu hbn
 have kB:=hB2
 have kG:=hBG
 have kR:=h2
 have U:=aK
 go_enter func80,ntmps80
 cases dn with
 |true=>
  have bC:=hdn (show F1=s∧F2=0∧F3=14 by
   have:=HF.out;unfold Site.cZ at this;rw[if_pos hdU]at this
   injection this with e1 e2;injection e2 with e2 e3;exact⟨e1.symm,e2.symm,e3.symm⟩)
  clear hdU
  repeat' (fail_if_success with_reducible refine ek (t:=63) rfl ?_);go_step
  refine bF hii kB abx ?_
  refine bK ?_
  refine bL r.cells hii abx kG ?_
  intro W8 aX u8
  refine wk ?_
  exact MK results80 hii aX abx ⟨_,by rw[bC.out.2.1,bC.out.2.2];rfl,r,rfl,by rw[bC.out.1];exact(kR.upd u8).less,U.aB aR u8⟩
 |false=>
  have uP:=hdn hdU
  clear hdU
  by_cases hn0:n=0
  ·have b0:((n:Int)==0)=true:=by rw[hn0];rfl
   have bC:=hdn (show F1=s∧F2=0∧F3=1 by
    have:=HF.out;unfold Site.cZ at this;rw[if_neg (by rw[uP.out];simp),if_pos (.inl (by rw[←HN.out];exact hn0))]at this
    injection this with e1 e2;injection e2 with e2 e3;exact⟨e1.symm,e2.symm,e3.symm⟩)
   clear hn0
   repeat' (fail_if_success with_reducible refine ek (t:=63) rfl ?_);first|go_skip|go_step
   refine bF hii kB abx ?_
   refine bK ?_
   refine bL r.cells hii abx kG ?_
   intro W8 aX u8
   refine wk ?_
   exact MK results80 hii aX abx ⟨_,by rw[bC.out.2.1,bC.out.2.2];rfl,r,rfl,by rw[bC.out.1];exact(kR.upd u8).less,U.aB aR u8⟩
  have b0:((n:Int)==0)=false:=by simpa using hn0
  by_cases hn2:2048<n
  ·have d0:decide ((2048:Int)<(n:Int))=true:=dTo
   have bC:=hdn (show F1=s∧F2=0∧F3=1 by
    have:=HF.out;unfold Site.cZ at this;rw[if_neg (by rw[uP.out];simp),if_pos (.inr (by rw[←HN.out];exact hn2))]at this
    injection this with e1 e2;injection e2 with e2 e3;exact⟨e1.symm,e2.symm,e3.symm⟩)
   clear hn0 hn2
   repeat' (fail_if_success with_reducible refine ek (t:=63) rfl ?_);first|go_guarded|go_step
   refine bF hii kB abx ?_
   refine bK ?_
   refine bL r.cells hii abx kG ?_
   intro W8 aX u8
   refine wk ?_
   exact MK results80 hii aX abx ⟨_,by rw[bC.out.2.1,bC.out.2.2];rfl,r,rfl,by rw[bC.out.1];exact(kR.upd u8).less,U.aB aR u8⟩
  have d0:decide ((2048:Int)<(n:Int))=false:=dFo
  have hbl:b.length≤2048:=by rw[←HN.out];omega
  have C1:=za W2 (s.me:Int) s.nx (s.n:Int) (by have:=h.aJ.ok.nx;omega)
  have hy0:=gz (s.me:Int) s.nx (s.n:Int)
  obtain⟨x,hx⟩:=ex1 (s.free 4096 (aZ s.me s.nx s.n))
  obtain⟨y0,hy⟩:=ex1 (aZ (s.me:Int) s.nx (s.n:Int))
  rw[hy]at C1 hy0 hx
  have HX:=hdn hx
  have yE:=hdn (show(if x<0 then(s,(0:Int),(5:Int))else match (generalizing:=false) s.accept x s.ownB b with
    |none=>(s,0,5)
    |some t=>(((({t with nx:=(x+1).toNat,rs:=aG x (⟨s.ownB,[],true,b,[],0⟩:Rn) t.rs} :Site).others (Site.asks ⟨s.ownB,[],true,b,[],0⟩ x) t.n).send t.me (Site.dW x s.ownB)),x,0))=(F1,F2,F3) by
   have h9:=HF.out
   unfold Site.cZ at h9
   rw[if_neg (by rw[uP.out];simp),if_neg (by rw[←HN.out];omega),hy]at h9
   simp only[hx]at h9
   cases hq:s.accept x s.ownB b with
   |none=>simp only[hq]at h9;exact h9
   |some t=>simp only[hq]at h9;exact h9)
  clear hx hy hn0 hn2
  repeat' first|go_guarded|go_step
  refine C1.mono ?_;rintro e w3 ⟨rfl,u3⟩
  clear C1 c0 c1 c3 c10
  have kB:=kB.upd u3
  have kG:=kG.upd u3
  have kR:=kR.grow u3
  have hb3:=hb2.grow u3
  have U:=U.trans u3
  repeat' first|go_step|simp only[];go_at_K
  go_loopw [7] (fun v7 wr=>aQ (∃(k:Nat)(y:Int),v7=.int .i64 y∧-1≤y∧y<4096∧(0≤y→4096-y≤(k:Int))∧s.free k y=x∧aa [] [] w3 wr)) (fun v7 _=>if intOf v7<0 then 0 else(4096-intOf v7).toNat)
  case atStart=>exact aQ.mk ⟨4096,y0,rfl,by omega,by omega,fun _=>by omega,HX.out,aa.refl _ _⟩
  case round=>
   obtain⟨k,y,rfl,hy1,hy2,hyk,hfx,u4⟩:=hrel.out
   clear hrel
   have HFX:=hdn hfx
   clear hfx
   replace kB:=kB.upd u4
   replace kG:=kG.upd u4
   replace kR:=kR.grow u4
   replace hb3:=hb3.grow u4
   replace U:=U.trans u4
   by_cases hy:0≤y
   ·have d1:decide (0≤y)=true:=dTx hy
    have C2:=Bw ([H,G]++X) wr r s kR y
    obtain⟨fr,hfr⟩:=ex1 (s.fresh y)
    rw[hfr,ai.arr]at C2
    have pG:=hdn hfr
    clear hfr
    repeat' (fail_if_success with_reducible refine ek (t:=63) rfl ?_);go_step
    refine pJ (by rfl) _ 63 rfl hii (fun _=>rfl) rfl r.cells abx kB ?_
    repeat' first|go_guarded|go_step
    refine C2.mono ?_;rintro e w5 ⟨rfl,u5⟩
    clear C2
    replace kB:=kB.upd u5
    replace kG:=kG.upd u5
    replace kR:=kR.grow u5
    replace hb3:=hb3.grow u5
    replace U:=U.trans u5
    have u35:=u4.trans u5
    cases fr with
    |false=>
     obtain⟨k',rfl⟩:∃k',k=k'+1:=⟨k - 1,by have:=hyk hy;omega⟩
     have hx2:s.free k' (aZ s.me (y+1).toNat s.n)=x:=by
      have:=HFX.out
      unfold Site.free at this
      rw[if_pos ⟨hy,pG.out⟩]at this
      exact this
     obtain⟨y',hy'⟩:∃j:Nat,y+1=(j:Int):=⟨(y+1).toNat,by omega⟩
     have hw1:IntKind.i64.wrap (y+1)=(y':Int):=by rw[IntKind.wrap_i64];omega
     have et:(y+1).toNat=y':=by omega
     rw[et]at hx2
     have C3:=za w5 (s.me:Int) y' (s.n:Int) (by omega)
     have c0:w5.cell? ⟨H,0,none⟩=some (.int .i64 (s.me:Int)):=by rw[kB.cell 0];show some (Value.int .i64 (r.me:Int))=_;rw[h.aJ.me]
     have c1:w5.cell? ⟨H,1,none⟩=some (.int .i64 (s.n:Int)):=by rw[kB.cell 1];show some (Value.int .i64 (r.n:Int))=_;rw[h.aJ.n]
     have HHx:=hdn hx2
     have HY:=hdn hy'
     clear hx2 hy' et
     repeat' first|go_guarded|go_step|simp only[];go_at_K
     refine C3.mono ?_;rintro e w7 ⟨rfl,u7⟩
     clear c0 c1
     refine wk ?_
     have hye:=HY.out
     have hrg:=gz (s.me:Int) y' (s.n:Int)
     refine⟨aQ.mk ⟨k',_,rfl,by rcases hrg with hh|hh<;>omega,by rcases hrg with hh|hh<;>omega,fun h9=>by have:=hyk hy;rcases hrg with hh|hh<;>omega,HHx.out,u35.trans u7⟩,?_⟩
     show(if aZ s.me y' s.n<0 then 0 else(4096-aZ s.me y' s.n).toNat)<(if y<0 then 0 else(4096-y).toNat)
     rw[if_neg (show ¬ y<0 by omega)]
     split
     ·omega
     ·rcases hrg with hh|hh<;>omega
    |true=>
     have hyx:y=x:=by
      have:=HFX.out
      cases k with
      |zero=>exact this
      |succ k=>unfold Site.free at this;rw[if_neg (by rw[pG.out];simp)]at this;exact this
     have d2:decide (y<0)=false:=dFo
     obtain⟨o,ho⟩:=ex1 (s.accept y s.ownB b)
     have HO:=hdn ho
     have HS2:=hdn (show(match (generalizing:=false) o with
       |none=>(s,(0:Int),(5:Int))
       |some t=>(((({t with nx:=(y+1).toNat,rs:=aG y (⟨s.ownB,[],true,b,[],0⟩:Rn) t.rs} :Site).others (Site.asks ⟨s.ownB,[],true,b,[],0⟩ y) t.n).send t.me (Site.dW y s.ownB)),y,0))=(F1,F2,F3) by
      have h9:=yE.out
      rw[if_neg (by omega),←hyx]at h9
      rw[←ho];exact h9)
     clear hyx ho
     have c0:w5.cell? ⟨H,0,none⟩=some (.int .i64 (s.me:Int)):=by rw[kB.cell 0];show some (Value.int .i64 (r.me:Int))=_;rw[h.aJ.me]
     obtain⟨W6,E,eW6,hE,Xh,U6⟩:=az w5 30 #[.int .i64 0,.int .i64 (s.me:Int)]
     have u6:=U6.g0
     have aih:=kG.lt
     have zh:=kB.upd u6
     have FT:=kG.upd u6
     have kR6:=kR.grow u6
     have hb6:=hb3.grow u6
     have U6n:=U.trans u6
     have FY:∀k∈[H,G]++X,k<W6.heap.size:=fun k hk=>by have h1:=hX2 k hk;have h2:=u3.size;have h3:=u4.size;have h4:=u5.size;have h5:=u6.size;omega
     have e0:W6.cell? ⟨E,0,none⟩=some (.int .i64 0):=Xh.cell 0
     have e1:W6.cell? ⟨E,1,none⟩=some (.int .i64 (s.me:Int)):=Xh.cell 1
     have CA:=uZ ([H,G]++X) W6 r s kR6 FY y (by omega) s.ownB h.aJ.ok.own ⟨A,n,c,b⟩ hb6 hbl
     rw[HO.out,ai.arr,Bl.val]at CA
     simp only[Site.ownB]at CA
     repeat' (fail_if_success with_reducible refine ek (t:=63) rfl ?_);first|go_guarded|go_step|simp only[];go_at_K
     refine bF hii zh abx ?_
     repeat' go_step
     refine CA.mono ?_;rintro e w7 ⟨v,rfl,r4,rfl,n4,u7⟩
     clear CA e0 e1 c0
     obtain⟨W8,T8,JO,Dl,nk,U8⟩:=az w7 63 cz
     have u8:=U8.g0
     have Nc:∀k∈[T8],W6.heap.size≤k:=by have:=u7.size;simp only[mem_singleton];rintro k rfl;omega
     have hT7:∀k∈[T8],w7.heap.size≤k:=ge1
     have lu:∀{g:Nat}{t:TypeId}{cs:Array Value},ak W6 g t cs→g∉[T8]:=fun hb=>by have h1:=hb.lt;have h2:=u7.size;simp only[mem_singleton];omega
     have zY:∀k∈[T8],w.heap.size≤k:=fun k hk=>by have h1:=Nc k hk;have h2:=U6n.size;omega
     rw[ai.arr]
     refine bK ?_
     refine bL r4.cells hii abx nk ?_
     intro nG zt u9
     have u69:aa [] [] W6 nG:=(u7.trans u8).aB Nc u9
     have kB:=zh.upd u69
     have kG:=FT.upd u69
     have kR:=kR6.grow u69
     have hE:=Xh.upd u69
     have U:=U6n.trans u69
     have n14:Ref ([T8]++([H,G]++X)) nG r4 (o.getD s):=((n4.more hT7).grow u8).upd u9
     have aa0:dU ([T8]++([H,G]++X)) nG A n b:=(((hb6.grow u7).more hT7).grow u8).upd u9
     have JJ:∀k∈[T8]++([H,G]++X),k<nG.heap.size:=fun k hk=>by
      have h1:=zt.lt;have h2:=u69.size
      rcases mem_append.1 hk with hk|hk
      ·simp only[mem_singleton]at hk;omega
      ·have:=FY k hk;omega
     have uF:T8≠H∧T8≠G∧T8≠E:=by have h1:=lu zh;have h2:=lu FT;have h3:=lu Xh;simp only[mem_singleton]at h1 h2 h3;exact⟨fun e=>h1 e.symm,fun e=>h2 e.symm,fun e=>h3 e.symm⟩
     have hEG:E≠G:=by omega
     clear u7 u8 u9 n4 JO nk U8 Dl zh FT kR6 hb6
     cases o with
     |none=>
      have bC:=hdn (show F1=s∧F2=0∧F3=5 by
       have:=HS2.out
       injection this with e1 e2;injection e2 with e2 e3;exact⟨e1.symm,e2.symm,e3.symm⟩)
      simp only[Option.isSome_none]
      repeat' (fail_if_success with_reducible refine ek (t:=63) rfl ?_);go_step
      refine bF hii kB abx ?_
      refine bK ?_
      refine bL r.cells hii abx kG ?_
      intro W8 aX u8
      refine wk ?_
      exact MK results80 hii aX abx ⟨_,by rw[bC.out.2.1,bC.out.2.2];rfl,r,rfl,by rw[bC.out.1];exact(kR.upd u8).less,U.aB aR u8⟩
     |some t=>
      have n14:Ref ([T8]++([H,G]++X)) nG r4 t:=n14
      obtain⟨tm,tn,th,-⟩:=Site.gD HO.out
      have uA:=hdn (show F1=(({t with nx:=(y+1).toNat,rs:=aG y (⟨s.ownB,[],true,b,[],0⟩:Rn) t.rs} :Site).others (Site.asks ⟨s.ownB,[],true,b,[],0⟩ y) t.n).send t.me (Site.dW y s.ownB)∧F2=y∧F3=0 by
       have:=HS2.out
       injection this with e1 e2;injection e2 with e2 e3;exact⟨e1.symm,e2.symm,e3.symm⟩)
      have hyn:(((y+1).toNat:Nat):Int)=y+1:=by omega
      have hw1:=aA.wr (y+1)
      obtain⟨Wa,hWa⟩:=ex1 (nG.setCell ⟨T8,10,none⟩ (.int .i64 (y+1)))
      obtain⟨r5,PX⟩:∃r5:ai,{r4 with nx:=(y+1).toNat} =r5:=⟨_,rfl⟩
      obtain⟨t5,Xi⟩:∃t5:Site,{t with nx:=(y+1).toNat} =t5:=⟨_,rfl⟩
      have c10:nG.cell? ⟨T8,10,none⟩=some (.int .i64 (r4.nx:Int)):=zt.cell 10
      have f10:=zt.frozen 10
      have ua:aa [T8] [T8] nG Wa:=by rw[←hWa];exact(aa.refl [T8] nG).setCell (p:=⟨T8,10,none⟩) (.inl (by simp)) _
      have hTa:ak Wa T8 63 r5.cells.toArray:=by
       rw[←hWa,←PX]
       have:=zt.aO 10 (.int .i64 (y+1))
       rw[←hyn]at this ⊢
       exact this
      have MV:H∉[T8]:=by simpa using uF.1.symm
      have WZ:G∉[T8]:=by simpa using uF.2.1.symm
      have hET:E∉[T8]:=by simpa using uF.2.2.symm
      have rJ:T8∉[G]:=by simpa using uF.2.1
      have gW:=kB.upd ua MV
      have Nk:=kG.upd ua WZ
      have hEa:=hE.upd ua hET
      have na:Ref ([T8]++([H,G]++X)) Wa r5 t5:=by rw[←PX,←Xi];exact(n14.upd ua).kQ (by omega)
      have hVa:=aa0.upd ua
      have Ua:=U.aB zY ua
      have hXa:∀k∈[T8]++([H,G]++X),k<Wa.heap.size:=fun k hk=>by have h1:=JJ k hk;have h2:=ua.size;omega
      have Vr:=h.aJ.ok.own
      have t5s:=hdn (show t5.n=s.n∧t5.held=s.held∧t5.me=s.me∧t5.rs=t.rs from by rw[←Xi];exact⟨tn,th,tm,rfl⟩)
      have e0:Wa.cell? ⟨E,0,none⟩=some (.int .i64 0):=hEa.cell 0
      have e1:Wa.cell? ⟨E,1,none⟩=some (.int .i64 (s.me:Int)):=hEa.cell 1
      clear n14 aa0 JJ kB kG hE U zt ua kR
      simp only[Option.isSome_some]
      repeat' go_step
      obtain⟨Wz,Y,eWz,Dy,FZ,Xj⟩:=az Wa 230 #[.int .i64 y,.int .i64 0,.int .i64 (s.me:Int),.slice none 0 0,.bool true,.slice A n c,.slice none 0 0,.int .i64 0]
      rw[eWz,Dy]
      clear c10 f10 e0 e1
      have ry:=Xj.g0
      obtain⟨y3,hy3⟩:∃y3:aL,(⟨y,⟨0,s.me⟩,none,0,[],true,⟨A,n,c,b⟩,none,0,[],0⟩:aL)=y3:=⟨_,rfl⟩
      have uG:=hdn (show y3.slot=y∧y3.ax=⟨0,s.me⟩∧y3.v=⟨A,n,c,b⟩∧y3.pl.2=(⟨s.ownB,[],true,b,[],0⟩:Rn)∧y3.so=true from by rw[←hy3];exact⟨rfl,rfl,rfl,rfl,rfl⟩)
      have hYT:Y∉[T8]:=by have h1:=hTa.lt;simp only[mem_singleton];omega
      have hYG:Y∉[G]:=by have h1:=Nk.lt;simp only[mem_singleton];omega
      have Na:ak Wz Y 230 y3.cells.toArray:=by rw[←hy3];exact FZ
      have AO:=gW.upd ry
      have iF:=Nk.upd ry
      have hEz:=hEa.upd ry
      have oN:=hTa.upd ry
      have nz:=na.grow ry
      have yl:=hVa.grow ry
      have zl:=Ua.trans ry
      have uC:∀k∈[T8]++([H,G]++X),k<Wz.heap.size:=fun k hk=>by have h1:=hXa k hk;have h2:=ry.size;omega
      have JG:iO ([T8]++([H,G]++X)) Wz y3:=by rw[←hy3];exact iO.made yl
      obtain⟨t9,DC⟩:∃t9:Site,{t5 with rs:=aG y3.slot y3.pl.2 t5.rs} =t9:=⟨_,rfl⟩
      have DD:t9.n=s.n∧t9.held=s.held∧t9.me=s.me:=by rw[←DC];exact⟨t5s.out.1,t5s.out.2.1,t5s.out.2.2.1⟩
      obtain⟨mA,lF⟩:∃mA:Mv,ni y3=mA:=⟨_,rfl⟩
      have F7:=hdn (show mA.ms=Site.asks ⟨s.ownB,[],true,b,[],0⟩ y by rw[←lF,Bv];show Site.asks y3.pl.2 y3.slot=_;rw[uG.out.1,uG.out.2.2.2.1])
      have hfA:mA.ms.Fit:=by rw[F7.out];exact Site.iT ⟨by omega,by omega⟩ Vr hbl
      have jN:mA.A=A∧mA.n=n∧mA.b=b:=by rw[←lF,←hy3];exact⟨rfl,rfl,rfl⟩
      have HTL:=hdn (show t9.held.length<900000000 by rw[DD.2.1];omega)
      obtain⟨t8,DF⟩:=ex1 (t9.others mA.ms t9.n)
      have HT8:=hdn DF
      have HSL:=hdn (show t8.held.length<1000000000 by
       rw[←DF,Site.bH]
       show(t9.held++t9.tell mA.ms t9.n).length<_
       have:=t9.gQ mA.ms t9.n
       have h7:=hok.n7
       rw[length_append,DD.2.1]
       rw[DD.1]at this ⊢
       omega)
      obtain⟨mV,vk⟩:∃mV:Mv,(⟨6,0,0,y,0,(s.me:Int),0,0,false,none,0,0,[]⟩:Mv)=mV:=⟨_,rfl⟩
      have Q7:=hdn (show mV.ms=Site.dW y s.ownB by rw[←vk];rfl)
      have QX:mV.ms.Fit:=by rw[Q7.out];exact Site.kz ⟨by omega,by omega⟩ Vr
      have uD:mV.A=none∧mV.n=0∧mV.b= []:=by rw[←vk];exact⟨rfl,rfl,rfl⟩
      have CV:∀w',Calls prog 140 #[.int .i64 y,.agg #[.int .i64 0,.int .i64 (s.me:Int)]] w' fun e w''=>e=.returned mV.val∧aa [] [] w' w'':=fun w'=>by
       have:=xH w' y ⟨0,s.me⟩
       rw[vk]at this
       exact this
      have Q8:=hdn (show F1=t8.send (s.me:Int) mV.ms by
       rw[uA.out.1,Q7.out,←DF,F7.out,DD.1,←DC,uG.out.1,uG.out.2.2.2.1,←Xi,tn,tm])
      have HME:=hdn (show r.me=s.me from h.aJ.me)
      have CWw:∀w',aa [T8] [T8] Wz w'→Calls prog 137 #[.agg r5.cells.toArray,.agg y3.cells.toArray] w' fun e w''=>∃v,e=.returned v∧Came ([T8]++([H,G]++X)) w' w'' v t9:=fun w' u9=>by
       have:=wH ([T8]++([H,G]++X)) w' r5 t5 (nz.upd u9) (fun k hk=>by have h1:=uC k hk;have h2:=u9.size;omega) y3 (JG.upd u9) (by rw[uG.out.1];exact⟨by omega,by omega⟩)
        (by rw[uG.out.2.2.2.1];exact⟨hbl,Vr,by simp⟩)
       rw[ai.arr,DC]at this
       exact this
      have Nf:∀w',Calls prog 138 #[.agg y3.cells.toArray] w' fun e w''=>e=.returned mA.val∧aa [] [] w' w'':=fun w'=>by
       have:=uX w' y3
       rw[lF]at this
       exact this
      have LY:∀w',aa [T8] [T8] Wz w'→ak w' Y 230 y3.cells.toArray:=fun w' u9=>Na.upd u9 hYT
      clear lF DC DF vk hy3 na hVa Ua hXa gW Nk hEa hTa FZ hWa PX Xi eWz
      refine wp_region_held_drew (S:=fun w'=>aa [T8] [T8] Wz w') (by kernel_rfl) (aa.refl [T8] Wz).drew fun _=>?_
      refine mi 1 hir (y3).cells rF LY ?_
      refine mi 3 hir (y3).cells rF LY ?_
      refine aW 0 (fun K hK=>?_)
      refine ku rfl _ _ rfl hii (fun _=>rfl) rfl r5.cells abx oN.drew ?_
      refine aP hK ((aa.refl [T8] Wz).drew) fun _=>?_
      clear hK K
      refine aW 2 (fun K hK=>?_)
      go_simp
      refine(CWw _ (‹aa [T8] [T8] Wz _›)).mono ?_;rintro e wa ⟨v,rfl,ra,rfl,na,ua⟩
      simp only[]
      rw[ai.arr]
      have UA:aa [T8] [T8] Wz wa:=(‹aa [T8] [T8] Wz _›).trans (ua.up _)
      have dh:aa [] [] Wz wa:=(aa.refl [] Wz).drew.trans ua
      refine aP hK (UA) fun _=>?_
      clear hK K
      refine aW 4 (fun K hK=>?_)
      go_simp
      refine(Nf _).mono ?_;rintro e wb ⟨rfl,ub⟩
      simp only[]
      have UB:aa [T8] [T8] Wz wb:=UA.trans (ub.up _)
      have AP:aa [] [] Wz wb:=dh.trans ub
      refine aP hK (UB) fun _=>?_
      clear hK K
      refine aW 5 (fun K hK=>?_)
      have CO:=jf ([T8]++([H,G]++X)) wb ra t9 (na.grow ub) (fun k hk=>by have h1:=uC k hk;have h2:=UB.size;omega) HTL.out mA (by rw[jN.1,jN.2.1,jN.2.2];exact yl.grow AP) hfA
      rw[ai.arr]at CO
      go_simp
      refine CO.mono ?_;rintro e wd ⟨v,rfl,rd,rfl,nd,ud⟩
      simp only[]
      rw[ai.arr]
      have UD:aa [T8] [T8] Wz wd:=UB.trans (ud.up _)
      have Q9:ak wd T8 63 r5.cells.toArray:=oN.upd (AP.trans ud)
      refine aP hK (UD) fun _=>?_
      clear hK K
      refine aW 6 (fun K hK=>?_)
      refine mf rd.cells hii abx Q9 ?_
      intro Wn lu un
      have UN:aa [T8] [T8] Wz Wn:=UD.trans un
      refine aP hK (UN) fun _=>?_
      clear hK K
      refine dnH ?_ _
      have ndn:Ref ([T8]++([H,G]++X)) Wn rd t8:=by rw[←HT8.out];exact nd.upd un
      have lI:aa [] [] w Wn:=zl.aB zY UN
      have hXn:∀k∈[T8]++([H,G]++X),k<Wn.heap.size:=fun k hk=>by have h1:=uC k hk;have h2:=UN.size;omega
      have Ra:=AO.upd UN MV
      have hGn:=iF.upd UN WZ
      have hEn:=hEz.upd UN hET
      have LT:∀w',aa [G] [G] Wn w'→ak w' T8 63 rd.cells.toArray:=fun w' u=>lu.upd u rJ
      have h0:∀w',aa [G] [G] Wn w'→w'.cell? ⟨H,0,none⟩=some (.int .i64 (s.me:Int)):=fun w' u=>by rw[(Ra.upd u nY).cell 0];show some (Value.int .i64 (r.me:Int))=_;rw[HME.out]
      have h1':∀w',aa [G] [G] Wn w'→w'.cell? ⟨E,0,none⟩=some (.int .i64 0):=fun w' u=>(hEn.upd u (by simpa using hEG)).cell 0
      have h2':∀w',aa [G] [G] Wn w'→w'.cell? ⟨E,1,none⟩=some (.int .i64 (s.me:Int)):=fun w' u=>(hEn.upd u (by simpa using hEG)).cell 1
      clear nd un UD ud ub UB UA ua na dh AP Q9
      repeat' go_step
      refine wp_region_held_drew (S:=fun w'=>aa [G] [G] Wn w') (by kernel_rfl) (aa.refl [G] Wn).drew fun _=>?_
      refine mi 0 hii (rd).cells abx LT ?_
      refine aF 1 ?_
      refine aF 2 ?_
      refine aF 3 ?_
      refine aF 4 ?_
      refine aF 7 ?_
      refine aW 5 (fun K hK=>?_)
      go_simp
      refine(CV _).mono ?_;rintro e wp ⟨rfl,up⟩
      simp only[]
      have UP:aa [G] [G] Wn wp:=(‹aa [G] [G] Wn _›).trans (up.up _)
      refine aP hK (UP) fun _=>?_
      clear hK K
      refine aW 6 (fun K hK=>?_)
      have ky:=lU ([T8]++([H,G]++X)) wp rd t8 (ndn.upd UP) (fun k hk=>by have h1:=hXn k hk;have h2:=UP.size;omega) HSL.out (s.me:Int) (by omega) mV (by rw[uD.1,uD.2.1,uD.2.2];exact dU.nil _ _ _) QX
      rw[ai.arr]at ky
      go_simp
      refine ky.mono ?_;rintro e ws ⟨v,rfl,rs,rfl,ns,us⟩
      simp only[]
      rw[ai.arr]
      have US:aa [G] [G] Wn ws:=UP.trans (us.up _)
      have I4:ak ws G 63 cz:=(hGn.upd ((aa.refl [] Wn).drew.trans up) (by simp)).upd us
      refine aP hK (US) fun _=>?_
      clear hK K
      refine aW 8 (fun K hK=>?_)
      refine mf rs.cells hii abx I4 ?_
      intro We qP ue
      have UE:aa [G] [G] Wn We:=US.trans ue
      refine aP hK (UE) fun _=>?_
      clear hK K
      refine aF 9 ?_
      refine aF 10 ?_
      refine dnH ?_ _
      refine wk ?_
      exact MK results80 hii qP abx ⟨_,by rw[uA.out.2.1,uA.out.2.2];rfl,rs,rfl,by rw[Q8.out];exact(ns.upd ue).less,lI.aB aR UE⟩
   ·have d1:decide (0≤y)=false:=dFx hy
    have d2:decide (y<0)=true:=dTo
    have hyx:y=x:=by
     have:=HFX.out
     cases k with
     |zero=>exact this
     |succ k=>unfold Site.free at this;rw[if_neg (by omega)]at this;exact this
    have bC:=hdn (show F1=s∧F2=0∧F3=5 by
     have:=yE.out;rw[if_pos (by omega)]at this
     injection this with e1 e2;injection e2 with e2 e3;exact⟨e1.symm,e2.symm,e3.symm⟩)
    clear hyx hy
    repeat' (fail_if_success with_reducible refine Ag rfl ?_);(fail_if_success with_reducible refine eT (t:=63) rfl ?_);(fail_if_success with_reducible refine ek (t:=63) rfl ?_);first|go_values|go_skip|go_guarded|go_step|go_upon|simp only[];go_at_K
    (first|go_values|go_skip|go_guarded|go_step)
    repeat' (fail_if_success with_reducible refine ek (t:=63) rfl ?_);go_step
    refine bF hii kB abx ?_
    refine bK ?_
    refine bL r.cells hii abx kG ?_
    intro W8 aX u8
    refine wk ?_
    exact MK results80 hii aX abx ⟨_,by rw[bC.out.2.1,bC.out.2.2];rfl,r,rfl,by rw[bC.out.1];exact(kR.upd u8).less,U.aB aR u8⟩
end Go.Proofs.YtijhlbeipglieaaGreat
namespace aA
open Go Go.Proofs.YtijhlbeipglieaaGreat List
def Site.Small(s:Site):Prop:=∀x v,s.dec x=some v→v.length≤2048
def Qr(s:Site)(m:Ms):Prop:=Qt s m∧s.Small
namespace aI
variable {s t:Site} {S R:List Rc} {z:Nat}
theorem small(h:aI s S R z):s.Small:=fun _ _ hv=>h.Er hv
theorem Rs:∀(l:List Ms)(s:Site)(R:List Rc)(z:Nat),aI s S R z→(∀m∈l,m.May)→∀y,(l.map fun m=>fA m.kind).sum+y≤z→Folds Qr s l
 |[],_,_,_,_,_,_,_=>trivial
 |m::l,s,R,z,h,hl,y,hy=>by
  rw[map_cons,sum_cons]at hy
  obtain⟨R',h1,h2⟩:=h.take (hl m (by simp)) (y:=(l.map fun m=>fA m.kind).sum+y) (by omega)
  exact⟨⟨h.qt m,h.small⟩,Rs l _ R' _ h2 (fun x hx=>hl x (by simp[hx])) y (Nat.le_refl _)⟩
theorem abV(h:aI s S R z):Folds Qr {s with dn:=s.db.length,held:=[]} (s.held.filter fun m=>decide (m.to=(s.me:Int))):=by
 have h1:aI {s with dn:=s.db.length,held:=[]} R R (il s.me s.held+z):=by
  refine⟨h.ok.put (l:=[]) (by simp) |>.disk s.db s.db.length,h.up,h.may,h.db,h.good,prefix_refl _,by show s.db.length=_;rw[h.db],h.st,by simp,h.bV,by have:=h.lim;simp[il];simp[il]at this;omega,fun p hp=>?_,h.wt,h.lv⟩
  have:=h.mh p hp
  show _+il s.me []+_≤_
  rw[Mj]
  omega
 exact Rs (s.held.filter fun m=>decide (m.to=(s.me:Int))) _ R _ h1 (fun m hm=>h.ok.held m (mem_filter.1 hm).1) z (by have:=Ml s.me s.held;omega)
theorem eF(h:aI s S R z)(hy:300≤z):s.eF.held.length≤400000000:=by
 have h0:=h.uQ (l:=bu s.me s.wt s.n) (wZ _ h.wt _)
 have h1:aI s.kT S R 250:=h0.again (by omega)
 obtain⟨R3,p3,h3⟩:Grow s.kT s.dA S R 190:=h1.skip _ (by omega)
 have PR:(s.dA.late s.dA.bJ).length≤8:=by unfold Site.late;rw[length_take];omega
 have hlr:∀x∈s.dA.late s.dA.bJ,0≤x∧x<4096:=fun x hx=>by have:=Site.zL _ hx;have:=h3.bJ;omega
 obtain⟨R4,p4,h4⟩:Grow s.dA s.eF S R3 6:=begins _ _ _ _ h3 hlr 6 (by omega)
 have:=h4.jT
 omega
end aI
def Site.dH(s:Site):Prop:=s.wt.getD s.me 0≤s.pat
theorem BK(me:Nat)(l:List Int):∀i,(bu (me:Int) l i).getD me 0=l.getD me 0
 |0=>rfl
 |i+1=>by
  unfold bu
  split
  ·rename_i h
   have hne:i≠me:=fun e=>h.1 (by rw[e])
   rw[List.getD_eq_getElem?_getD,List.getElem?_set_ne hne,←List.getD_eq_getElem?_getD]
   exact BK me l i
  ·exact BK me l i
namespace Site
variable {s t:Site}
theorem dH.kin(h:s.dH)(k:dC s t):t.dH:=by unfold dH at h ⊢;rw[k.wt,k.me,k.pat];exact h
theorem dH.bu(h:s.dH):({s with wt:=bu s.me s.wt s.n} :Site).dH:=by unfold dH at h ⊢;simp only;rw[BK];exact h
theorem JW(s:Site)(x:Int):s.dw x=s∨∃d p b h,s.dw x= {s with db:=d,st:=aG x p s.st,top:=max s.top (x+1),rs:=aG x b s.rs,held:=h}:=by
 unfold dw
 split
 ·exact .inl rfl
 split
 ·exact .inl rfl
 ·rename_i t ht
  unfold promise at ht
  split at ht
  ·cases ht
  unfold note at ht
  split at ht
  ·injection ht with ht
   subst ht
   simp only[bH,send,turn]
   exact .inr ⟨_,_,_,_,rfl⟩
  ·cases ht
theorem Rt(s:Site){x y:Int}(h:y≠x):(s.dw x).due y=s.due y:=by
 rcases s.JW x with e|⟨d,p,b,h',e⟩
 ·rw[e]
 ·rw[e]
  unfold due fresh stat dec leads qA
  simp only[kC]
  rw[if_neg (fun e=>h e.symm),if_neg (fun e=>h e.symm)]
theorem DR:∀(l:List Int)(s:Site){y:Int},y∉l→(l.foldl dw s).due y=s.due y
 |[],_,_,_=>rfl
 |x::l,s,y,h=>by
  rw[foldl_cons,DR l _ (fun hm=>h (by simp[hm])),Rt s (fun e=>h (by simp[e]))]
theorem OJ(s:Site){x:Int}(h:x<s.bJ):(s.dw x).bJ=s.bJ:=by
 rcases s.JW x with e|⟨d,p,b,h',e⟩
 ·rw[e]
 ·rw[e]
  unfold bJ at h ⊢
  simp only
  omega
theorem AX:∀(l:List Int)(s:Site),(∀x∈l,x<s.bJ)→(l.foldl dw s).bJ=s.bJ
 |[],_,_=>rfl
 |x::l,s,h=>by
  have h1:=OJ s (h x (by simp))
  rw[foldl_cons,AX l _ (fun y hy=>by rw[h1];exact h y (by simp[hy])),h1]
theorem Vs(s:Site)(i:Nat):∀x∈s.dJ i,x<(s.front:Int)+i:=fun x hx=>by
 obtain⟨h2,-⟩:=mem_filter.1 hx
 obtain⟨j,hj,rfl⟩:=mem_map.1 h2
 rw[mem_range'_1]at hj
 omega
theorem Vt(s:Site)(i:Nat):((s.dJ i).foldl dw s).due ((s.front:Int)+i)=s.due ((s.front:Int)+i):=
 DR _ _ fun hm=>by have:=s.Vs i _ hm;omega
theorem Gf{top:Int}{i:Nat}(h:i≤top.toNat-s.front)(hl:(s.dJ i).length≤8):s.dJ i=(s.late top).take (s.dJ i).length:=by
 obtain⟨L,hL⟩:=s.Fa i (top.toNat - s.front - i)
 rw[Nat.add_sub_cancel' h]at hL
 unfold late
 show s.dJ i=((s.dJ (top.toNat-s.front)).take 8).take _
 rw[take_take,Nat.min_eq_left hl,hL,take_left]
theorem Vu{top:Int}{i:Nat}(h:i<top.toNat-s.front)(hl:(s.dJ i).length<8)(hd:s.due ((s.front:Int)+i)=true):(s.late top)[(s.dJ i).length]? =some ((s.front:Int)+i):=by
 have h1:=s.sH i
 rw[if_pos hd]at h1
 have h2:=Gf (s:=s) (top:=top) (i:=i+1) (by omega) (by rw[h1,length_append];simp;omega)
 have h3:(s.dJ (i+1))[(s.dJ i).length]? =some ((s.front:Int)+i):=by rw[h1];simp
 rw[h2]at h3
 rw[List.getElem?_take_of_lt (by rw[h1,length_append];simp)]at h3
 exact h3
theorem Vv{s:Site}(hok:s.Ok){x:Int}(hx:0≤x∧x<4096):0≤aV x s.n∧aV x s.n<s.n:=by
 have h3:=hok.n3
 have h7:=hok.n7
 unfold aV
 rw[if_neg (by omega),Int.tmod_eq_emod_of_nonneg hx.1]
 exact⟨Int.emod_nonneg _ (by omega),Int.emod_lt_of_pos _ (by omega)⟩
end Site
theorem LD{s:Site}{l1 l2:List Rc}{r:Rc}(hg:Good (l1++r::l2))(hst:∀x,s.stat x=gu l1 x)(hm:r.May) :
  s.dR r=s.turn r.slot (if r.kind=1 then {s.stat r.slot with p:=⟨r.round,r.site⟩} else⟨⟨r.round,r.site⟩,true,⟨r.round,r.site⟩,r.val⟩)∧(r.kind≠1→¬ bg ⟨r.round,r.site⟩ (s.stat r.slot).p<0)∧
   (if r.kind=1 then {s.stat r.slot with p:=⟨r.round,r.site⟩} else⟨⟨r.round,r.site⟩,true,⟨r.round,r.site⟩,r.val⟩:Sp).same Sp.zero=false:=by
 obtain⟨h1,h2⟩:=hg l1 r l2 rfl
 rw[←hst]at h1
 have h3:¬ bg ⟨r.round,r.site⟩ (s.stat r.slot).p<0:=fun e=>h1 ((wy _ _).1 e)
 refine⟨?_,fun _=>h3,?_⟩
 ·unfold Site.dR
  by_cases e:r.kind=1
  ·rw[if_pos e,if_pos e]
  ·rw[if_neg e,if_neg h3,if_neg e]
 ·split
  ·rename_i e
   have h4:=h2 e
   unfold Sp.same Sp.zero
   have:(r.round==0)=false:=beq_false_of_ne (by omega)
   simp[this]
  ·unfold Sp.same Sp.zero
   simp
namespace Site
variable {s t:Site}
theorem AY:∀(l:List Rc)(s:Site),dC s (l.foldl dR s)
 |[],s=>dC.refl s
 |r::l,s=>by
  refine dC.trans ?_ (AY l (s.dR r))
  unfold dR
  split
  ·exact JX _ _ _
  split
  ·exact dC.refl s
  ·exact JX _ _ _
theorem dH.cZ(h:s.dH)(v:List UInt8):(s.cZ v).1.dH:=by
 by_cases hd:s.down=true
 ·rw[Site.cZ,if_pos hd];exact h
 by_cases hv:v.length=0∨2048<v.length
 ·rw[Site.cZ,if_neg hd,if_pos hv];exact h
 rw[Site.zy s v (by simpa using hd) (by omega) (by omega)]
 unfold Site.vE
 split
 ·exact h
 split
 ·exact h
 ·rename_i t ha
  refine h.kin ((mY ha).trans (dC.trans ?_ ((lh _ _ _).trans (lq _ _ _))))
  exact⟨rfl,rfl,rfl,rfl,rfl,rfl,rfl⟩
theorem dH.handle(h:s.dH)(m:Ms):(s.handle m).1.dH:=by
 unfold Site.handle
 split
 ·exact h
 split
 ·exact h
 split
 ·exact h
 ·refine dH.kin (s:={s with wt:=s.wt.set m.bO.toNat 0}) ?_ (JY _ m)
  unfold dH at h ⊢
  simp only
  rw[List.getD_eq_getElem?_getD,List.getElem?_set]
  split
  ·split<;>simp
  ·rw[←List.getD_eq_getElem?_getD];exact h
theorem dH.tick(h:s.dH):s.tick.dH:=by
 cases hd:s.down with
 |true=>unfold Site.tick;rw[if_pos hd];exact h
 |false=>
  have k1:=Site.Gg {s with wt:=Go.Proofs.YtijhlbeipglieaaGreat.bu s.me s.wt s.n}
  rw[show({s with wt:=Go.Proofs.YtijhlbeipglieaaGreat.bu s.me s.wt s.n} :Site).again=s.kT from rfl]at k1
  have k3:Site.dC s.kT s.dA:=Site.xN _ _
  have k4:Site.dC s.dA s.eF:=Site.xO _ _
  have k:=(k1.trans k3).trans k4
  rw[Site.zK s hd]
  split
  ·exact h.bu.kin (k.trans (Site.lh s.eF _ s.eF.n))
  ·exact h.bu.kin k
theorem dH.sync(h:s.dH):s.sync.1.dH:=by
 unfold Site.sync
 split
 ·exact h
 ·exact dH.kin (s:={s with dn:=s.db.length,held:=[]}) h (Site.vF _ _)
theorem dH.jq(h:s.dH)(k:Int):(s.jq k).dH:=by
 unfold Site.jq
 split
 ·exact h
 ·exact h
theorem aa4(a b c j:Nat):(Site.new a b c).wt.getD j 0=0:=by
 show([0,0,0,0,0,0,0]:List Int).getD j 0=0
 match j with
 |0=>rfl
 |1=>rfl
 |2=>rfl
 |3=>rfl
 |4=>rfl
 |5=>rfl
 |6=>rfl
 |n+7=>rfl
theorem dH.new(a b c:Nat):(Site.new a b c).dH:=by
 unfold dH
 rw[aa4]
 omega
theorem dH.dE(h:s.dH):s.dE.dH:=by
 unfold Site.dE
 split
 ·exact dH.kin (s:={Site.new s.me s.n s.pat with db:=s.db.take (bU s.db).2,dn:=min s.dn (bU s.db).2}) (dH.new s.me s.n s.pat) (AY _ _)
 ·exact h
theorem dH.act(h:s.dH)(k n:Int)(v:List UInt8)(m:Ms):(s.act k n v m).1.dH:=by
 unfold Site.act
 split
 ·exact h.cZ v
 split
 ·exact h.handle m
 split
 ·exact h.tick
 split
 ·exact h.sync
 split
 ·exact h.jq n
 split
 ·exact h.dE
 ·exact h
theorem Sn(s:Site):s.sync.2.length≤s.held.length:=by
 unfold Site.sync
 split
 ·exact Nat.zero_le _
 ·exact length_filter_le _ _
end Site
end aA
namespace Go.Proofs.YtijhlbeipglieaaGreat
open Go.RowKit aA Go.Maps Go.Proofs.Tryz List
theorem Nw(X:List Nat)(w:World)(r:ai)(s:Site)(h:Ref X w r s)(hX:∀k∈X,k<w.heap.size)(m:Mv)(hb:dU X w m.A m.n m.b)(hl:s.held.length≤500000000)(hq:s.down=false→s.Small∧s.Fit∧s.GH) :
  Calls prog 81 #[r.val,m.val] w fun e w'=>∃v,e=.returned (.tuple #[v,.int .i64 (s.handle m.ms).2])∧Came X w w' v (s.handle m.ms).1:=by
 refine(Bool.eq_false_or_eq_true s.down).elim (fun hd=>?_) (fun hd=>?_)
 rotate_left 1
 ·obtain⟨q1,q2,q3⟩:=hq hd
  exact Re X w r s h hX m hb hl q1 (fun p hp=>(q3.2 p hp).1) (fun p hp=>(q3.2 p hp).2) q2
 obtain⟨ii,hii,abx,W,H,eW,hH,hB,U0,W1,J,nK,hJ,fT,U1,W2,G,fu,hG,hBG,U2,hB2,hJ2,hs1,uh,uU,dY,aK,hs0,hs2,hY,hHw,aR,nY,gV,h2,hX2,qG⟩:=Bt h hX 32 #[.int .i64 m.k,.int .i64 m.f,.int .i64 m.t,.int .i64 m.s,.int .i64 m.br,.int .i64 m.bs,.int .i64 m.hr,.int .i64 m.hs,.bool m.so,.slice m.A m.n m.c] 63 cz
 have hok:=h.aJ.ok
 have kR:=h2
 have hHc:=hB2
 have eO:=hBG
 have Uc:=aK
 have c3:W2.cell? ⟨H,3,none⟩=some (.bool true):=by rw[hHc.cell 3];show some (Value.bool r.down)=_;rw[h.aJ.down,hd]
 rw[show s.handle m.ms=(s,14) by unfold Site.handle;rw[if_pos hd]]
 rw[ai.arr,Mv.aH]
 clear hq hd
 go_enter func81,ntmps81
 repeat' (fail_if_success with_reducible refine ek (t:=63) rfl ?_);go_step
 refine bF hii hHc abx ?_
 refine bK ?_
 refine bL r.cells hii abx eO ?_
 intro W8 aX u8
 refine wk ?_
 exact ug results81 hii aX abx ⟨_,rfl,r,rfl,(kR.upd u8).less,Uc.aB aR u8⟩
