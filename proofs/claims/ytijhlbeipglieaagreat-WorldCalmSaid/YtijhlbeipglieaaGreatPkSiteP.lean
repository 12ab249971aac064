/- For WorldCalm. -/
import Derived.Test.YtijhlbeipglieaaGreatPkSiteI
import Derived.Test.YtijhlbeipglieaaGreatPkSiteF
set_option linter.all false
set_option maxRecDepth 100000
set_option maxHeartbeats 4000000
namespace Go.Proofs.YtijhlbeipglieaaGreat
open Go.RowKit aL Tryz List
theorem qa(w:World)(s n:Int):Calls prog 162 #[.int .i64 s,.int .i64 n] w fun e w'=>e=.returned (.int .i64 (bK s n))∧w=w':=by
 have HA:=aA (bK.eq_def s n)
 go_enter func162,ntmps162
 by_cases h1:s<0
 ·have d1:decide (s<0)=true:=dJ h1
  refine wk ?_
  go_ret
  exact⟨by rw[HA.out,if_pos (by omega)];rfl,rfl⟩
 have d1:decide (s<0)=false:=eE h1
 by_cases h2:4096≤s
 ·have d2:decide (4096≤s)=true:=dJ h2
  refine wk ?_
  go_ret
  exact⟨by rw[HA.out,if_pos (by omega)];rfl,rfl⟩
 have d2:decide (4096≤s)=false:=eE h2
 by_cases h3:n<1
 ·have d3:decide (n<1)=true:=dJ h3
  refine wk ?_
  go_ret
  exact⟨by rw[HA.out,if_pos (by omega)];rfl,rfl⟩
 have d3:decide (n<1)=false:=eE h3
 by_cases h4:64<n
 ·have d4:decide (64<n)=true:=dJ h4
  refine wk ?_
  go_ret
  exact⟨by rw[HA.out,if_pos (by omega)];rfl,rfl⟩
 have d4:decide (64<n)=false:=eE h4
 have hn0:(n==0)=false:=beq_false_of_ne (by omega)
 have wZ:¬ n=0:=by omega
 have hx:s.tmod n=s % n:=Int.tmod_eq_emod_of_nonneg (by omega)
 rw[hx]at HA
 refine wk ?_
 go_ret
 exact⟨by rw[HA.out,if_neg (by omega)];rfl,rfl⟩
theorem wm(w:World)(site:Int)(f:Nat)(n:Int)(hf:f≤1099511627776):Calls prog 59 #[.int .i64 site,.int .i64 (f:Int),.int .i64 n] w fun e w'=>e=.returned (.int .i64 (bV site f n))∧w=w':=by
 have HA:=aA (bV.eq_def site f n)
 go_enter func59,ntmps59
 by_cases h1:n<1
 ·have d1:decide (n<1)=true:=dJ h1
  refine wk ?_
  go_ret
  exact⟨by rw[HA.out,if_pos (by omega)];rfl,rfl⟩
 have d1:decide (n<1)=false:=eE h1
 by_cases h2:64<n
 ·have d2:decide (64<n)=true:=dJ h2
  refine wk ?_
  go_ret
  exact⟨by rw[HA.out,if_pos (by omega)];rfl,rfl⟩
 have d2:decide (64<n)=false:=eE h2
 by_cases h3:site<0
 ·have d3:decide (site<0)=true:=dJ h3
  refine wk ?_
  go_ret
  exact⟨by rw[HA.out,if_pos (by omega)];rfl,rfl⟩
 have d3:decide (site<0)=false:=eE h3
 by_cases h4:n≤site
 ·have d4:decide (n≤site)=true:=dJ h4
  refine wk ?_
  go_ret
  exact⟨by rw[HA.out,if_pos (by omega)];rfl,rfl⟩
 have d4:decide (n≤site)=false:=eE h4
 have hn0:(n==0)=false:=beq_false_of_ne (by omega)
 have hR:bV site f n=kO site n (4096-f) f:=by rw[HA.out,if_neg (by omega)]
 clear HA
 have HR:=aA hR
 clear hR
 generalize bV site f n=R at *
 have sQ:(0:Int)≤(f:Int):=by omega
 repeat' first|go_guarded|go_step
 go_loopw [7] (fun v7 wr=>∃i:Nat,i≤1099511627776∧v7=.int .i64 (i:Int)∧R=kO site n (4096-i) i∧wr=w) (fun v7 _=>4096-(intOf v7).toNat)
 case atStart=>exact⟨f,by omega,rfl,HR.out,rfl⟩
 case round=>
  obtain⟨i,hi,rfl,hr,rfl⟩:=hrel
  have H:=aA hr
  clear hr HR sQ
  by_cases hlt:i<4096
  ·have dK:(i:Int)<4096:=by omega
   have hx:(i:Int).tmod n=(i:Int) % n:=Int.tmod_eq_emod_of_nonneg (by omega)
   have dC:=aL.wr ((i:Int)+1)
   have NH:(0:Int)≤(i:Int):=by omega
   have hstep:R=if(i:Int) % n=site then(i:Int)else kO site n (4096-(i+1)) (i+1):=by
    rw[H.out,show 4096-i=(4096-(i+1))+1 from by omega,kO,hx]
   have HT:=aA hstep
   clear hstep H
   by_cases he:(i:Int) % n=site
   ·have d5:((i:Int) % n==site)=true:=by rw[he];exact beq_self_eq_true _
    have HE:=aA he
    clear he
    have d6:((i:Int).tmod n==site)=true:=by rw[hx];exact d5
    refine wk ?_
    go_ret
    exact⟨by rw[HT.out,if_pos HE.out];rfl,rfl⟩
   ·have d5:((i:Int) % n==site)=false:=beq_false_of_ne he
    have HE:=aA he
    clear he
    have d6:((i:Int).tmod n==site)=false:=by rw[hx];exact d5
    refine wk ?_
    exact⟨⟨i+1,by omega,rfl,by rw[HT.out,if_neg HE.out],trivial⟩,by simp[intOf];omega⟩
  ·have dK:¬ ((i:Int)<4096):=by omega
   have HR:R= -1:=by rw[H.out,show 4096-i=0 from by omega,kO]
   have HS:=aA HR
   clear HR H
   refine wk ?_
   go_ret
   exact⟨by rw[HS.out];rfl,rfl⟩
end Go.Proofs.YtijhlbeipglieaaGreat
namespace aL
open Go List
theorem Ac(site n:Int):∀(k s:Nat),kO site n k s= -1∨((s:Int)≤kO site n k s∧kO site n k s<(s:Int)+k)
 |0,_=>.inl rfl
 |k+1,s=>by
  unfold kO
  split
  ·exact .inr ⟨Int.le_refl _,by omega⟩
  ·rcases Ac site n k (s+1)with h|h
   ·exact .inl h
   ·right;omega
theorem fU(site:Int)(f:Nat)(n:Int):bV site f n= -1∨((f:Int)≤bV site f n∧bV site f n<4096):=by
 unfold bV
 split
 ·exact .inl rfl
 ·rcases Ac site n (4096 - f) f with h|h
  ·exact .inl h
  ·right
   refine⟨h.1,?_⟩
   have:=h.2
   omega
def Site.rK(s:Site)(v:List UInt8)(x:Int):Site × Int × Int:=
 if x<0 then(s,0,5)else match s.accept x s.bQ v with
 |none=>(s,0,5)
 |some t=>((({t with nx:=(x+1).toNat,rs:=aT x ⟨s.bQ,[],true,v,[],0⟩ t.rs} :Site).others (Site.asks ⟨s.bQ,[],true,v,[],0⟩ x) t.n).send t.me (Site.bB x s.bQ),x,0)
theorem Site.vY(s:Site)(v:List UInt8)(hd:s.down=false)(h0:v.length≠0)(h1:v.length≤2048):s.cm v=s.rK v (s.free 4096 (bV s.me s.nx s.n)):=by
 unfold Site.cm Site.rK
 rw[if_neg (by rw[hd];simp),if_neg (by omega)]
 rfl
theorem Site.j6{s t:Site}{x:Int}{b:Bl}{v:List UInt8}(h:s.accept x b v=some t):t.me=s.me∧t.n=s.n∧t.held=s.held∧t.rs=s.rs∧t.lv=s.lv∧t.down=s.down∧t.wt=s.wt:=by
 unfold Site.accept Site.note at h
 split at h
 ·cases h
 ·split at h
  ·injection h with h
   rw[←h]
   exact⟨rfl,rfl,rfl,rfl,rfl,rfl,rfl⟩
  ·cases h
end aL
namespace Go.Proofs.YtijhlbeipglieaaGreat
open Go.RowKit aL Go.Maps Tryz List
section
variable [eA]
theorem KC(w:World)(M:ae)(h:aJ w M)(B:Option Addr)(m d:Nat)(v:List UInt8)(hv:bE w B m v)(RX:v.length≤140737488355328)(hl:M.held.length≤800000000) :
  Calls prog 20 #[M.ptr,.slice B m d] w fun e w'=>e=.returned (.tuple #[.int .i64 (M.pl.cm v).2.1,.int .i64 (M.pl.cm v).2.2])∧dZ w w' M (M.pl.cm v).1:=by
 obtain⟨R,hR⟩:=bk (M.pl.cm v)
 have HR:=aA hR
 rw[hR]
 clear hR
 have C0:=lE w M h
 have hm:=hv.len
 rw[ae.ptr]at C0 ⊢
 cases hd:M.pl.down with
 |true=>
  have hr:R=(M.pl,0,14):=by rw[←HR.out];unfold Site.cm;rw[if_pos hd]
  subst hr
  rw[hd]at C0
  clear HR
  go_enter func20,ntmps20
  repeat' go_step
  refine C0.mono ?_;rintro e w1 ⟨rfl,rfl⟩
  refine wk ?_
  go_ret2
  exact⟨rfl,M,h,rfl,rfl,ab.refl _ _⟩
 |false=>
  rw[hd]at C0
  by_cases h0:v.length=0
  ·have hr:R=(M.pl,0,1):=by rw[←HR.out];unfold Site.cm;rw[if_neg (by rw[hd];simp),if_pos (.inl h0)]
   subst hr
   have e0:((m:Int)==0)=true:=by rw[hm,h0];rfl
   have HM:=aA hm
   clear HR hm h0
   go_enter func20,ntmps20
   repeat' go_step
   refine C0.mono ?_;rintro e w1 ⟨rfl,rfl⟩
   refine wk ?_
   go_ret2
   exact⟨rfl,M,h,rfl,rfl,ab.refl _ _⟩
  have e0:((m:Int)==0)=false:=beq_false_of_ne (by omega)
  by_cases h1:2048<v.length
  ·have hr:R=(M.pl,0,1):=by rw[←HR.out];unfold Site.cm;rw[if_neg (by rw[hd];simp),if_pos (.inr h1)]
   subst hr
   have e1:decide (2048<(m:Int))=true:=oT
   have HM:=aA hm
   clear HR hm h0 h1
   go_enter func20,ntmps20
   repeat' go_step
   refine C0.mono ?_;rintro e w1 ⟨rfl,rfl⟩
   refine wk ?_
   go_ret2
   exact⟨rfl,M,h,rfl,rfl,ab.refl _ _⟩
  have e1:decide (2048<(m:Int))=false:=iO
  have gi:v.length≤2048:=by omega
  obtain⟨x,hx⟩:=bk (M.pl.free 4096 (bV M.me M.nx M.n))
  have hr:R=M.pl.rK v x:=by rw[←HR.out,←hx];exact Site.vY _ _ hd h0 gi
  have pn:=aA hr
  have HX:=aA hx
  have HM:=aA hm
  clear HR hm h0 h1 hr hx
  have q0:∀W2:World,ab [] [] w W2→W2.cell? ⟨M.gs,0,none⟩=some (.int .i64 (M.me:Int)):=fun W2 u=>(h.aN u).aO.cell 0
  have q1:∀W2:World,ab [] [] w W2→W2.cell? ⟨M.gs,1,none⟩=some (.int .i64 (M.n:Int)):=fun W2 u=>(h.aN u).aO.cell 1
  have r0:w.cell? ⟨M.gs,0,none⟩=some (.int .i64 (M.me:Int)):=h.aO.cell 0
  have r1:w.cell? ⟨M.gs,1,none⟩=some (.int .i64 (M.n:Int)):=h.aO.cell 1
  have r9:w.cell? ⟨M.gs,9,none⟩=some (.int .i64 (M.nx:Int)):=h.aO.cell 9
  have uG:M.nx≤4096:=h.ok.nx
  have lz:M.me<M.n:=h.ok.me
  have vC:M.n≤7:=h.ok.n7
  have C1:=wm w.drew M.me M.nx M.n (by omega)
  go_enter func20,ntmps20
  repeat' go_step
  refine C0.mono ?_;rintro e w1 ⟨rfl,rfl⟩
  repeat' first|go_guarded|go_step|simp only[];go_at_K
  go_still_tail 13,(by kernel_rfl)
  change wpList _ _ _ _ _ w.drew
  repeat' go_step
  refine C1.mono ?_;rintro e w1 ⟨rfl,rfl⟩
  clear C0 C1
  repeat' first|go_step|simp only[];go_at_K
  go_loopw [6] (fun v6 wr=>∃(k:Nat)(y:Int),v6=.int .i64 y∧-1≤y∧y<4096∧(0≤y→4096-y≤(k:Int))∧M.pl.free k y=x∧ab [] [] w wr) (fun v6 _=>if intOf v6<0 then 0 else(4096-intOf v6).toNat)
  case atStart=>
   refine⟨4096,_,rfl,?_,?_,?_,HX.out,(ab.refl [] w).drew⟩
   ·rcases fU M.me M.nx M.n with hh|hh<;>omega
   ·rcases fU M.me M.nx M.n with hh|hh<;>omega
   ·intro _;rcases fU M.me M.nx M.n with hh|hh<;>omega
  case round=>
   obtain⟨k,y,rfl,kx,oh,Sw,Bt,U⟩:=hrel
   have HF:=aA Bt
   clear Bt HX
   by_cases hy:0≤y
   ·have C2:=vP wr M (h.aN U) y (kt (by omega) (by omega))
    obtain⟨k',rfl⟩:∃k',k=k'+1:=⟨k - 1,by have:=Sw hy;omega⟩
    obtain⟨F,hF⟩:=bk (M.pl.fresh y)
    have Ye:=aA hF
    rw[hF,ae.ptr]at C2
    clear hF
    repeat' first|go_guarded|go_step
    refine C2.mono ?_;rintro e w2 ⟨rfl,bh⟩
    have U2:=U.trans bh
    clear C2
    cases F with
    |true=>
     have hx:y=x:=by
      have:=HF.out
      unfold Site.free at this
      rw[if_neg (by rw[Ye.out];simp)]at this
      exact this
     subst hx
     have hv2:=hv.aq U2 (by simp)
     have p0:=q0 w2 U2
     have HH:=h.aN U2
     clear HF Ye
     obtain⟨Wb,Hb,SO,SP,nY,Ub⟩:=cb w2 30 #[.int .i64 0,.int .i64 (M.me:Int)]
     have CC:=di Wb B m d v (hv2.aq Ub (by simp)) RX
     have H4:=HH.aN Ub
     have I8:ab [] [] w Wb:=U2.trans (Ub.gives (b':=[]) (by simp))
     have dy:decide (y<0)=false:=iO
     have Ya:w.heap.size≤Hb:=by have:=U2.size;omega
     clear hv2 hv HH Ub
     repeat' first|go_guarded|go_step|simp only[];go_at_K
     refine CC.mono ?_;rintro e w4 ⟨A,n,c,rfl,ho,de⟩
     have H5:=H4.aN de
     have K5:=nY.aq de (by simp)
     have Yf:=I8.new de
     have U5:ab [] [] w w4:=(I8.trans (de.gives (b':=[]) (by simp)))
     have Oe:=ho.own.lt
     have pS:=h.lt
     obtain⟨⟨k0,k1⟩,-⟩:=K5.c2
     have FX:(⟨0,M.me⟩:Bl).may 7=true:=h.ok.own
     have C6:=nQ w4 M H5 y (by omega) ⟨0,M.me⟩ FX A n c v ho.rd (fun k hk hm=>by have:=Yf k hk;have:=pS k hm;omega) gi
     simp only[ae.ptr,Bl.val]at C6
     clear CC de nY H4 p0 I8
     cases cM:M.pl.accept y ⟨0,M.me⟩ v with
     |none=>
      rw[cM]at C6
      have kV:R=(M.pl,0,5):=by rw[pn.out];unfold Site.rK;rw[if_neg (by omega),show M.pl.bQ=⟨0,M.me⟩from rfl,cM]
      subst kV
      clear pn
      repeat' first|go_guarded|go_step|simp only[];go_at_K
      refine C6.mono ?_;rintro e w6 ⟨rfl,M1,H6,gO,jG,-,U6⟩
      refine wk ?_
      go_ret2
      exact⟨rfl,M1,H6,gO,jG,(U5.up M.fp).trans U6⟩
     |some t=>
      rw[cM]at C6
      have kV:R=((({t with nx:=(y+1).toNat,rs:=aT y ⟨⟨0,M.me⟩,[],true,v,[],0⟩ t.rs} :Site).others (Site.asks ⟨⟨0,M.me⟩,[],true,v,[],0⟩ y) t.n).send t.me (Site.bB y ⟨0,M.me⟩),y,0):=by rw[pn.out];unfold Site.rK;rw[if_neg (by omega),show M.pl.bQ=⟨0,M.me⟩from rfl,cM]
      subst kV
      clear pn
      repeat' first|go_guarded|go_step|simp only[];go_at_K
      refine C6.mono ?_;rintro e w6 ⟨rfl,M1,H6,gO,jG,xB,U6⟩
      have hgx:M1.gs=M.gs:=jG
      replace gO:M1.pl=t:=gO
      have t9:w6.cell? ⟨M.gs,9,none⟩=some (.int .i64 (M1.nx:Int)):=by rw[←jG];exact H6.aO.cell 9
      have f9:w6.frozen? ⟨M.gs,9,none⟩=false:=by rw[←jG];exact H6.aO.frozen 9
      obtain⟨tm,tn,th,-,-,-,-⟩:=Site.j6 cM
      have pC:M1.me=M.me:=by have:=congrArg Site.me gO;exact this.trans tm
      have jX:M1.n=M.n:=by have:=congrArg Site.n gO;exact this.trans tn
      have ago:M1.held.length=M.held.length:=by have:=congrArg (fun z:Site=>z.held.length) gO;simp only[ae.cE,th]at this;exact this
      have Uw:=aL.wr (y+1)
      have SW:(((y+1).toNat:Nat):Int)=y+1:=by omega
      have adZ:(y+1).toNat≤4096:=by omega
      have u7:ab [M1.gs] [M1.gs] w6 (w6.setCell ⟨M1.gs,9,none⟩ (.int .i64 (y+1))):=(ab.refl [M1.gs] w6).setCell (p:=⟨M1.gs,9,none⟩) (.inl (by simp)) _
      have sN:=H6.aO.cc 9 (.int .i64 (y+1))
      obtain⟨M2,gg⟩:∃M2:ae,{M1 with down:=M1.down,top:=M1.top,nx:=(y+1).toNat} =M2:=⟨_,rfl⟩
      have gS:M2.pl= {t with nx:=(y+1).toNat}:=by rw[←gg,←gO];rfl
      have H7:=H6.yD M1.down M1.top (y+1).toNat u7 (by simpa[ae.cells,SW]using sN) (by
       have:=H6.ok.jI adZ
       exact this)
      rw[gg]at H7
      have hg2:M2.gs=M.gs:=by rw[←gg];exact hgx
      have Yg:M2.fp=M1.fp:=by rw[←gg];rfl
      have FY:M2.Ad=M1.Ad:=by rw[←gg]
      have V7:ab M1.fp M2.fp w6 (w6.setCell ⟨M1.gs,9,none⟩ (.int .i64 (y+1))):=by
       rw[Yg]
       exact u7.mono (fun k hk=>by simp only[mem_singleton]at hk;subst hk;simp[ae.fp]) (fun k hk=>.inr (.inl hk))
      have Yh:Hb∉M.fp:=fun hk=>by have:=pS Hb hk;omega
      have ad0:=K5.lt
      have QV:=U6.gu Yh ad0
      have K6:=K5.aq U6 Yh
      have ad1:=K6.lt
      have K7:=K6.aq V7 QV
      have Yi:=V7.gu QV ad1
      have Yj:∀k∈ak A,k∉M.fp:=fun k hk hm=>by have:=Yf k hk;have:=pS k hm;omega
      have T4:dj w4 ⟨A,n,c,v⟩:=⟨ho.rd,ho.own.tag⟩
      have T6:=T4.aq U6 Yj
      have KD:∀k∈ak A,k∉M1.fp:=fun k hk=>U6.gu (Yj k hk) (Oe k hk)
      have T7:=T6.aq V7 KD
      rw[hgx]at u7 V7 H7 T7 K7
      obtain⟨w7,ad3⟩:∃X,w6.setCell ⟨M.gs,9,none⟩ (.int .i64 (y+1))=X:=⟨_,rfl⟩
      rw[ad3]at u7 V7 H7 T7 K7
      have S9:=T6.tag
      clear gg sN u7 K5 K6 T4 T6 ho C6 H5
      obtain⟨⟨j0,j1⟩,-⟩:=K7.c2
      obtain⟨W8,G,eW8,hG,nW,U8⟩:=cb w7 132 #[.int .i64 0,.int .i64 (M.me:Int),.slice none 0 0,.bool true,.slice A n c,.slice none 0 0,.int .i64 0]
      have R8:mT W8 ⟨G,⟨0,M.me⟩,none,0,[],true,⟨A,n,c,v⟩,none,0,[],0⟩:=⟨nW,Own.nil _ _ _,Own.nil _ _ _⟩
      have H8:=H7.aN U8
      obtain⟨w9,KF,FZ,u9⟩:=H8.eY.store underlying3 underlying119 (by rw[lk];have:=H8.JA;unfold maxLen;omega) (x:=y) (kt (by omega) (by omega)) (bS.ptr ⟨G,⟨0,M.me⟩,none,0,[],true,⟨A,n,c,v⟩,none,0,[],0⟩)
      rw[vQ,←fi]at FZ
      obtain⟨H9,V9⟩:=H7.X9 (x:=y) (by omega) ⟨G,⟨0,M.me⟩,none,0,[],true,⟨A,n,c,v⟩,none,0,[],0⟩ (w1:=W8) (by simpa[bS.fp,ak]using U8) R8 u9 FZ (fun z hz=>by
       simp only[bS.bytes,map_nil,mem_singleton]at hz
       subst hz
       exact⟨T7,fun k hk hm=>(by
        rcases mem_append.1 hm with hm|hm
        ·exact KD k hk (by rw[←Yg];simp[ae.fp,hm])
        ·have h7:=Yf k hk;have h8:=h.po k hm;omega)⟩) ⟨gi,FX,by simp[bS.pl]⟩
      have q8:W8.cell? ⟨M.gs,8,none⟩=some (.map (some M2.br)):=by rw[←hg2];exact H8.aO.cell 8
      simp only[bS.ptr]at KF
      obtain⟨M3,iN⟩:∃M3:ae,{M2 with rs:=aT y ⟨G,⟨0,M.me⟩,none,0,[],true,⟨A,n,c,v⟩,none,0,[],0⟩ M2.rs} =M3:=⟨_,rfl⟩
      rw[iN]at H9 V9
      have fO:M3.pl= {t with nx:=(y+1).toNat,rs:=aT y ⟨⟨0,M.me⟩,[],true,v,[],0⟩ t.rs}:=by
       rw[←iN,show({M2 with rs:=aT y ⟨G,⟨0,M.me⟩,none,0,[],true,⟨A,n,c,v⟩,none,0,[],0⟩ M2.rs} :ae).pl= {M2.pl with rs:=aT y (bS.pl ⟨G,⟨0,M.me⟩,none,0,[],true,⟨A,n,c,v⟩,none,0,[],0⟩) M2.pl.rs}from by unfold ae.pl;simp only[fi],gS]
       rfl
      have hg3:M3.gs=M.gs:=by rw[←iN];exact hg2
      have cL:(y,(⟨G,⟨0,M.me⟩,none,0,[],true,⟨A,n,c,v⟩,none,0,[],0⟩:bS))∈M3.rs:=by rw[←iN];exact ec.2 (.inl rfl)
      have uC:M3.n=M.n:=by have:=congrArg Site.n fO;exact this.trans tn
      have LU:M3.held.length≤900000000:=by have:=congrArg (fun z:Site=>z.held.length) fO;simp only[ae.cE,th]at this;omega
      have K9:=K7.aq V9 Yi
      have ad4:=K7.lt
      have ad5:=V9.gu Yi ad4
      have ad6:∀k∈ak A,k∉M3.fp:=fun k hk=>V9.gu (V7.gu (KD k hk) (fJ (S9 k hk))) (fJ (T7.tag k hk))
      have T9:=T7.aq V9 (fun k hk=>V7.gu (KD k hk) (fJ (S9 k hk)))
      have qP:=te w9 _ (H9.cI _ cL) y
      rw[show gJ ⟨G,⟨0,M.me⟩,none,0,[],true,⟨A,n,c,v⟩,none,0,[],0⟩ y=⟨1,0,0,y,0,M.me,0,M.me,true,A,n,c,v⟩from by simp[gJ]]at qP
      have eF:Mv.ms ⟨1,0,0,y,0,M.me,0,M.me,true,A,n,c,v⟩=Site.asks ⟨⟨0,M.me⟩,[],true,v,[],0⟩ y:=by simp[Site.asks,Mv.ms]
      have mB:(Mv.ms ⟨1,0,0,y,0,M.me,0,M.me,true,A,n,c,v⟩).Fit:=by rw[eF];exact Site.iX (by omega) FX gi
      have xR:=fun(Ae:World)(hu:ab [] [] w9 Ae)=>ke Ae M3 (H9.aN hu) ⟨1,0,0,y,0,M.me,0,M.me,true,A,n,c,v⟩ mB (T9.aN hu).rd ad6 LU
      simp only[eF,fO,uC]at xR
      simp only[ae.ptr,hg3,bS.ptr]at qP xR
      obtain⟨av,og⟩:∃z,Mv.val ⟨1,0,0,y,0,M.me,0,M.me,true,A,n,c,v⟩=z:=⟨_,rfl⟩
      simp only[og]at qP xR
      clear iN R8 nW H8 FZ u9 H7 T7 K7 cL H9 T9 og mB eF
      repeat' first|go_guarded|go_step|simp only[];go_at_K
      refine qP.mono ?_;rintro e Ae ⟨rfl,wq⟩
      repeat' first|go_step|simp only[];go_at_K
      refine(xR Ae wq).mono ?_;rintro e F0 ⟨rfl,M4,ny,xS,Yk,-,I9⟩
      have SX:=(K9.aq wq (by simp)).aq I9 ad5
      obtain⟨⟨i0,i1⟩,-⟩:=SX.c2
      have g4:M4.gs=M.gs:=Yk.trans hg3
      have SY:M4.me=M.me:=by
       have:=congrArg Site.me xS
       rw[(Site.ib _ _).1]at this
       exact this.trans tm
      have z0:F0.cell? ⟨M.gs,0,none⟩=some (.int .i64 (M.me:Int)):=by rw[←g4,←SY];exact ny.aO.cell 0
      have Yl:M4.held.length≤1000000000:=by
       have h1:M4.held.length=M.held.length+(({t with nx:=(y+1).toNat,rs:=aT y ⟨⟨0,M.me⟩,[],true,v,[],0⟩ t.rs} :Site).tell (Site.asks ⟨⟨0,M.me⟩,[],true,v,[],0⟩ y) M.n).length:=by
        rw[←ae.cE,xS,Site.bH]
        show(t.held++_).length=_
        rw[length_append,th,ae.cE]
       have:=Site.kd ({t with nx:=(y+1).toNat,rs:=aT y ⟨⟨0,M.me⟩,[],true,v,[],0⟩ t.rs} :Site) (Site.asks ⟨⟨0,M.me⟩,[],true,v,[],0⟩ y) M.n
       omega
      have rC:=jC F0.drew M4 ny.drew (M.me:Int) ⟨6,0,0,y,0,M.me,0,0,false,none,0,0,[]⟩ (Site.mO (x:=y) (b:=⟨0,M.me⟩) (by omega) FX) (by omega) (bE.nil _ _) Yl
      simp only[ae.ptr,Mv.bJ,g4]at rC
      clear qP xR
      repeat' first|go_step|simp only[];go_at_K
      go_still_tail 8,(by kernel_rfl)
      change wpList _ _ _ _ _ F0.drew
      repeat' go_step
      refine rC.mono ?_;rintro e xD ⟨rfl,M5,Md,p12,g12,-,U12⟩
      refine wk ?_
      go_ret2
      refine⟨rfl,M5,Md,?_,g12.trans g4,?_⟩
      ·rw[p12,xS,tn,tm];rfl
      ·exact(((((((U5.up M.fp).trans U6).trans V7).trans V9).trans (wq.up M3.fp)).trans I9).drew).trans U12
    |false=>
     have hx:M.pl.free k' (bV M.me (y+1).toNat M.n)=x:=by
      have:=HF.out
      unfold Site.free at this
      rw[if_pos ⟨hy,Ye.out⟩]at this
      exact this
     obtain⟨y',UQ⟩:∃j:Nat,y+1=(j:Int):=⟨(y+1).toNat,by omega⟩
     have dC:IntKind.i64.wrap (y+1)=(y':Int):=by rw[IntKind.wrap_i64];omega
     have et:(y+1).toNat=y':=by omega
     rw[et]at hx
     have C3:=wm w2.drew M.me y' M.n (by omega)
     have p0:=q0 w2 U2
     have p1:=q1 w2 U2
     have HHx:=aA hx
     have HY:=aA UQ
     clear hx UQ et
     refine wk ?_
     go_still_tail 10,(by kernel_rfl)
     change wpList _ _ _ _ _ w2.drew
     repeat' go_step
     refine C3.mono ?_;rintro e w3 ⟨rfl,rfl⟩
     refine wk ?_
     have hye:=HY.out
     have hrg:=fU M.me y' M.n
     refine⟨⟨k',_,rfl,?_,?_,?_,HHx.out,U2.drew⟩,?_⟩
     ·rcases hrg with hh|hh<;>omega
     ·rcases hrg with hh|hh<;>omega
     ·intro h9;have:=Sw hy;rcases hrg with hh|hh<;>omega
     ·show(if bV M.me y' M.n<0 then 0 else(4096-bV M.me y' M.n).toNat)<(if y<0 then 0 else(4096-y).toNat)
      rw[if_neg (show ¬ y<0 by omega)]
      split
      ·omega
      ·rcases hrg with hh|hh<;>omega
   ·have hx:y=x:=by
     have:=HF.out
     cases k with
     |zero=>exact this
     |succ k=>unfold Site.free at this;rw[if_neg (by omega)]at this;exact this
    subst hx
    have kV:R=(M.pl,0,5):=by rw[pn.out];unfold Site.rK;rw[if_pos (by omega)]
    subst kV
    have hv2:=hv.aq U (by simp)
    have p0:=q0 wr U
    have HH:=h.aN U
    clear HF
    obtain⟨Wb,Hb,SO,SP,nY,Ub⟩:=cb wr 30 #[.int .i64 0,.int .i64 (M.me:Int)]
    have CC:=di Wb B m d v (hv2.aq Ub (by simp)) RX
    have H4:=HH.aN Ub
    have I8:ab [] [] w Wb:=U.trans (Ub.gives (b':=[]) (by simp))
    have dy:decide (y<0)=true:=oT
    clear hv2 hv HH Ub
    repeat' first|go_guarded|go_step
    refine CC.mono ?_;rintro e w4 ⟨A,n,c,rfl,ho,de⟩
    have H5:=H4.aN de
    have U5:ab [] [] w w4:=(I8.trans (de.gives (b':=[]) (by simp)))
    clear CC de nY H4 p0 I8
    refine wk ?_
    go_ret2
    exact⟨rfl,M,H5,rfl,rfl,U5.up M.fp⟩
end
theorem F1(w:World)(gw:Nat) :
  Calls prog 71 #[.pointer (some ⟨gw,0,none⟩)] w fun e w'=>∃bs gl bl br,e=.returned (.agg #[.map (some bs),.int .i64 0,.pointer (some ⟨gl,0,none⟩),.map (some br),.int .i64 0,.pointer (some ⟨gw,0,none⟩),.slice none 0 0])∧
   cz prog 3 w' bs []∧gy w' gl bl [] 0∧cz prog 3 w' br []∧(bs≠bl∧bs≠br∧bl≠br)∧ab [] [bs,gl,bl,br] w w':=by
 have si:=@run_makeMap prog
 obtain⟨W,H,eW,hH,hB,U0⟩:=cb w 122 #[.map none,.int .i64 0,.pointer none,.map none,.int .i64 0,.pointer none,.slice none 0 0]
 have m0:=cz.made prog 3 W
 obtain⟨W1,hW1⟩:∃X,W.alloc (.map #[] 0)=X:=⟨_,rfl⟩
 have U1:ab [] [W.heap.size] W W1:=by rw[←hW1];exact((ab.refl [] W).alloc _).gives (by simp)
 rw[hW1]at m0
 have C:=Ql W1
 go_enter func71,ntmps71
 repeat' go_step
 refine C.mono ?_;rintro e w2 ⟨gl,bl,rfl,hL,bh⟩
 have m2:=m0.aq bh (by simp)
 have K2:=(hB.aq U1 (by simp)).aq bh (by simp)
 have l2:=(ab.refl [] W1).new bh
 obtain⟨W3,hW3⟩:∃X,w2.alloc (.map #[] 0)=X:=⟨_,rfl⟩
 have U3:ab [] [w2.heap.size] w2 W3:=by rw[←hW3];exact((ab.refl [] w2).alloc _).gives (by simp)
 have m3:=cz.made prog 3 w2
 rw[hW3]at m3
 have K3:=K2.aq U3 (by simp)
 have L3:=hL.aq U3 (by simp) (by simp)
 have n3:=m2.aq U3 (by simp)
 have ll:=hL.aO.lt
 have lb:=hL.map.lt
 have lm:=m2.lt
 have s1:=U1.size
 have s2:=bh.size
 have lH:=hB.lt
 have Hw:=l2 gl (by simp)
 have hbl:=l2 bl (by simp)
 have lm0:=m0.lt
 have u4:=Pg W3 H (.map (some W.heap.size)) (.int .i64 0) (.pointer (some ⟨gl,0,none⟩)) (.map (some w2.heap.size)) (.int .i64 0) (.pointer (some ⟨gw,0,none⟩)) (.slice none 0 0)
 have K4:=Pj K3 (.map (some W.heap.size)) (.int .i64 0) (.pointer (some ⟨gl,0,none⟩)) (.map (some w2.heap.size)) (.int .i64 0) (.pointer (some ⟨gw,0,none⟩)) (.slice none 0 0)
 have a1:=n3.aq u4 (by simp;omega)
 have a2:=L3.aq u4 (by simp;omega) (by simp;omega)
 have a3:=m3.aq u4 (by simp;omega)
 have UU:ab [] [W.heap.size,gl,bl,w2.heap.size] w (DS W3 H (.map (some W.heap.size)) (.int .i64 0) (.pointer (some ⟨gl,0,none⟩)) (.map (some w2.heap.size)) (.int .i64 0) (.pointer (some ⟨gw,0,none⟩)) (.slice none 0 0)):=by
  have s0:=U0.size
  have t1:=((U0.add U1).add bh).add U3
  refine((t1.gives (b':=[]) (by simp)).own (by omega) u4).gives (fun k hk=>.inr ?_)
  simp only[mem_cons,not_mem_nil,or_false]at hk
  rcases hk with rfl|rfl|rfl|rfl<;>omega
 obtain⟨⟨z0,z1,z2,z3,z4,z5,z6⟩,f0,f1,f2,f3,f4,f5,f6⟩:=K3.c7
 have bN:=aA (And.intro a1 (And.intro a2 (And.intro a3 (And.intro (show W.heap.size≠bl∧W.heap.size≠w2.heap.size∧bl≠w2.heap.size from⟨by omega,by omega,by omega⟩) UU))))
 clear a1 a2 a3 UU hL L3 n3 m3 m2 m0 K2 K3 hB bh U0 U1 U3 u4 C ll lb lm s1 s2 Hw hbl l2
 refine wk ?_
 generalize hW:World.setCell _ _ _=W4
 rw[DS,hW]at K4
 have KE:=bN.out
 rw[DS,hW]at KE
 obtain⟨⟨y0,y1,y2,y3,y4,y5,y6⟩,-⟩:=K4.c7
 exact bodyPost_ret (v:=.agg #[.map (some W.heap.size),.int .i64 0,.pointer (some ⟨gl,0,none⟩),.map (some w2.heap.size),.int .i64 0,.pointer (some ⟨gw,0,none⟩),.slice none 0 0]) (by simp[results,results71,go_sem,y0,y1,y2,y3,y4,y5,y6]) rfl ⟨_,gl,bl,_,rfl,KE⟩
theorem Site.zv{me n pat:Nat}(h:im me n pat=true):(Site.new me n pat).Ok:=by
 simp only[im,Bool.and_eq_true,decide_eq_true_eq]at h
 refine⟨?_,?_,?_,?_,?_,?_,?_,?_,?_⟩<;>simp[Site.new]<;>omega
variable [eA]
theorem Ja(w:World)(me n pat:Nat)(h:im me n pat=true)(ad7:∀k∈(eA.X:List Nat),k<w.heap.size) :
  Calls prog 29 #[.int .i64 (me:Int),.int .i64 (n:Int),.int .i64 (pat:Int)] w fun e w'=>∃M:ae,e=.returned (.tuple #[M.ptr,.int .i64 0])∧aJ w' M∧M.pl=Site.new me n pat∧ab [] M.fp w w':=by
 have ef:=Site.zv h
 have h':=h
 simp only[im,Bool.and_eq_true,decide_eq_true_eq]at h'
 have ht:qj me n pat=true:=by simp only[qj,Bool.and_eq_true,decide_eq_true_eq];omega
 have d1:decide ((n:Int)<3)=false:=iO
 have d2:decide (7<(n:Int))=false:=iO
 clear h h'
 have C:=EF w me n pat ht
 go_enter func29,ntmps29
 repeat' first|go_guarded|go_step
 refine C.mono ?_;rintro e w1 ⟨gw,rfl,dC,bn⟩
 repeat' first|go_step|simp only[];go_at_K
 refine(TN w1).mono ?_;rintro e w2 ⟨gd,rfl,lF,bh⟩
 have hw2:kC w2 gw me n pat [0,0,0,0,0,0,0]:=⟨dC.1.aq bh (by simp),dC.2⟩
 obtain⟨W,H,eW,hH,hB,U0⟩:=cb w2 124 #[.int .i64 (me:Int),.int .i64 (n:Int),.int .i64 (pat:Int),.bool false,.pointer (some ⟨gd,0,none⟩),.map none,.int .i64 0,.pointer none,.map none,.int .i64 0,.pointer none,.slice none 0 0]
 have hw3:kC W gw me n pat [0,0,0,0,0,0,0]:=⟨hw2.1.aq U0 (by simp),hw2.2⟩
 have pe:=lF.aq U0 (by simp) (by simp)
 clear C dC hw2 lF
 repeat' first|go_step|simp only[];go_at_K
 refine(F1 W gw).mono ?_;rintro e w3 ⟨bs,gl,bl,br,rfl,qn,hL,ir,hne,cQ⟩
 have hw4:kC w3 gw me n pat [0,0,0,0,0,0,0]:=⟨hw3.1.aq cQ (by simp),hw3.2⟩
 have I5:=pe.aq cQ (by simp) (by simp)
 have K3:=hB.aq cQ (by simp)
 obtain⟨⟨z0,z1,z2,z3,z4,z5,z6,z7,z8,z9,US,Vk⟩,f0,f1,f2,f3,f4,f5,f6,f7,f8,f9,f10,f11⟩:=K3.fm
 have u4:=By w3 H (.map (some bs)) (.int .i64 0) (.pointer (some ⟨gl,0,none⟩)) (.map (some br)) (.int .i64 0) (.pointer (some ⟨gw,0,none⟩)) (.slice none 0 0)
 have K4:=Bz K3 (.map (some bs)) (.int .i64 0) (.pointer (some ⟨gl,0,none⟩)) (.map (some br)) (.int .i64 0) (.pointer (some ⟨gw,0,none⟩)) (.slice none 0 0)
 have hX:∀k∈[H],cl w3 k=some (some 124):=by simp only[mem_singleton];rintro k rfl;exact K3.tag
 have bN:=aA (show aJ (pX w3 H (.map (some bs)) (.int .i64 0) (.pointer (some ⟨gl,0,none⟩)) (.map (some br)) (.int .i64 0) (.pointer (some ⟨gw,0,none⟩)) (.slice none 0 0))
   {gs:=H,me:=me,n:=n,pat:=pat,down:=false,gd:=gd,Ad:=none,cd:=0,db:=[],dn:=0,bs:=bs,st:=[],top:=0,gl:=gl,bl:=bl,lv:=[],taken:=0,br:=br,rs:=[],nx:=0,gw:=gw,wt:=[0,0,0,0,0,0,0],Ah:=none,ch:=0,held:=[]} from
  {aO:=K4,kX:=I5.aq u4 (cp I5.aO.tag hX (by decide)) (by simp[ak]),rN:=qn.aq u4 (cp qn.tag hX (by decide)),iH:=hL.aq u4 (cp hL.aO.tag hX (by decide)) (cp hL.map.tag hX (by decide)),
   eY:=ir.aq u4 (cp ir.tag hX (by decide)),cI:=by simp,mm:=⟨hw4.1.aq u4 (cp hw4.1.tag hX (by decide)),hw4.2⟩,pv:=Own.nil _ _ _,fu:=by simp[ae.bytes],bad:=by simp[ae.bytes],maps:=hne,fB:=.nil,ok:=ef,po:=fun k hk=>(by have h1:=ad7 k hk;have h2:=bn.size;have h3:=bh.size;have h4:=U0.size;have h5:=cQ.size;have h6:=u4.size;omega)})
 have s1:=bn.size
 have s2:=bh.size
 have s3:=U0.size
 have s4:=cQ.size
 have UU:=aA (show ab [] [H,gd,bs,gl,bl,br,gw] w (pX w3 H (.map (some bs)) (.int .i64 0) (.pointer (some ⟨gl,0,none⟩)) (.map (some br)) (.int .i64 0) (.pointer (some ⟨gw,0,none⟩)) (.slice none 0 0))from by
  have t1:=((bn.add bh).add U0).add cQ
  refine((t1.gives (b':=[]) (by simp)).own (by omega) u4).gives (fun k hk=>.inr ?_)
  have e1:=(ab.refl [] w).new bn
  have e2:=(ab.refl [] w1).new bh
  have e3:=(ab.refl [] W).new cQ
  simp only[mem_cons,not_mem_nil,or_false]at hk
  have g1:=e1 gw (by simp)
  have g2:=e2 gd (by simp)
  rcases hk with rfl|rfl|rfl|rfl|rfl|rfl|rfl
  ·omega
  ·omega
  ·have:=e3 k (by simp);omega
  ·have:=e3 k (by simp);omega
  ·have:=e3 k (by simp);omega
  ·have:=e3 k (by simp);omega
  ·omega)
 clear hw3 pe qn hL ir hw4 I5 K3 K4 hB bn bh U0 cQ u4 hX s1 s2 s3 s4
 refine wk ?_
 generalize hW:World.setCell _ _ _=W4
 have KE:=bN.out
 have UE:=UU.out
 rw[pX,hW]at KE UE
 go_ret2
 exact⟨_,rfl,KE,rfl,UE⟩
