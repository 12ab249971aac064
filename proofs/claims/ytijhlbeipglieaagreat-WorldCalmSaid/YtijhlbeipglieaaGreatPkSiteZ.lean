/- For WorldCalm. -/
import Derived.Test.YtijhlbeipglieaaGreatPkSiteF
import Derived.Test.YtijhlbeipglieaaGreatPkSu
set_option linter.all false
set_option maxRecDepth 100000
set_option maxHeartbeats 4000000
namespace Go.Proofs.YtijhlbeipglieaaGreat
open Go.RowKit aL Go.Maps Tryz List
variable [eA]
theorem Ol(w:World)(M:ae)(h:aJ w M)(k:Int) :
  Calls prog 23 #[M.ptr,.int .i64 k] w fun e w'=>e=.returned (.tuple #[])∧dZ w w' M (M.pl.dB k):=by
 have C0:=lE w M h
 have C1:=MR w M.gd M.Ad M.db.length M.cd M.db M.dn h.kX k
 have q4:w.cell? ⟨M.gs,4,none⟩=some (.pointer (some ⟨M.gd,0,none⟩)):=h.aO.cell 4
 obtain⟨R,hR⟩:=bk (M.pl.dB k)
 have HR:=aA (show R=if M.down=true then M.pl else {M.pl with db:=M.db.take (kj M.db.length M.dn k),dn:=kj M.db.length M.dn k,down:=true}from hR.symm)
 rw[hR]
 clear hR
 rw[ae.ptr]
 rw[show M.pl.down=M.down from rfl,ae.ptr]at C0
 cases hd:M.down with
 |true=>
  rw[hd]at C0
  have bN:=aA (show dZ w w M R from⟨M,h,by rw[HR.out,if_pos hd],rfl,ab.refl _ _⟩)
  clear h C1
  go_enter func23,ntmps23
  repeat' go_step
  refine C0.mono ?_;rintro e w1 ⟨rfl,rfl⟩
  refine wk ?_
  exact bodyPost_ret (v:=.tuple #[]) (results_none rfl _ _ _) rfl ⟨rfl,bN.out⟩
 |false=>
  rw[hd]at C0
  go_enter func23,ntmps23
  repeat' go_step
  refine C0.mono ?_;rintro e w1 ⟨rfl,rfl⟩
  repeat' first|go_step|simp only[];go_at_K
  refine C1.mono ?_;rintro e w1 ⟨rfl,fD,bn⟩
  have hlen:(M.db.take (kj M.db.length M.dn k)).length=kj M.db.length M.dn k:=by
   rw[length_take]
   have h1:=h.kX.s
   unfold kj
   omega
  obtain⟨K,hK⟩:=bk (kj M.db.length M.dn k)
  rw[hK]at fD hlen
  have Jg:=aA (show R= {M.pl with db:=M.db.take K,dn:=K,down:=true} by rw[HR.out,if_neg (by rw[hd];simp),hK])
  obtain⟨h1,V1⟩:=h.cZ (A':=M.Ad) (c':=K) (db':=M.db.take K) (dn':=K) (bn.mono (by simp) (fun k hk=>.inr (.inl hk))) (by rw[hlen];exact fD) (h.ok.cZ _ _)
  obtain⟨M1,jW⟩:∃M1:ae,{M with Ad:=M.Ad,cd:=K,db:=M.db.take K,dn:=K} =M1:=⟨_,rfl⟩
  rw[jW]at h1 V1
  have hg1:M1.gs=M.gs:=by rw[←jW]
  have f3:w1.frozen? ⟨M.gs,3,none⟩=false:=by rw[←hg1];exact h1.aO.frozen 3
  have t3:w1.cell? ⟨M.gs,3,none⟩=some (.bool M1.down):=by rw[←hg1];exact h1.aO.cell 3
  have u2:ab [M1.gs] [M1.gs] w1 (w1.setCell ⟨M1.gs,3,none⟩ (.bool true)):=(ab.refl [M1.gs] w1).setCell (p:=⟨M1.gs,3,none⟩) (.inl (by simp)) _
  have cX:=h1.aO.cc 3 (.bool true)
  have h2:=h1.yD true M1.top M1.nx u2 (by simpa[ae.cells]using cX) ⟨h1.ok.me,h1.ok.n3,h1.ok.n7,h1.ok.pat,h1.ok.st,h1.ok.rs,h1.ok.top,h1.ok.nx,h1.ok.held⟩
  obtain⟨M3,iN⟩:∃M3:ae,{M1 with down:=true,top:=M1.top,nx:=M1.nx} =M3:=⟨_,rfl⟩
  rw[iN]at h2
  have fO:M3.pl= {M.pl with db:=M.db.take K,dn:=K,down:=true}:=by rw[←iN,←jW];rfl
  have hg3:M3.gs=M1.gs∧M3.fp=M1.fp:=by rw[←iN];exact⟨rfl,rfl⟩
  have U2:=V1.trans (u2.mono (a':=M1.fp) (b':=M1.fp) (fun k hk=>by simp only[mem_singleton]at hk;subst hk;simp[ae.fp]) (fun k hk=>.inr (.inl hk)))
  have bN:=aA (show dZ w (w1.setCell ⟨M.gs,3,none⟩ (.bool true)) M R from⟨M3,by rw[←hg1];exact h2,by rw[Jg.out,fO],hg3.1.trans hg1,by rw[←hg1,hg3.2];exact U2⟩)
  clear h h1 h2 V1 U2 u2 cX C0 C1 fD bn jW iN fO hg3
  refine wk ?_
  exact bodyPost_end (results_none rfl _ _ _) rfl ⟨rfl,bN.out⟩
theorem Cz(w:World)(M:ae)(h:aJ w M)(x:Int)(hx:0≤x∧x<4096)(y:cP)(hy:dj w y.sl)(gY:∀k∈ak y.A,k∉M.iz)(hp:y.b.length≤2048∧y.p.may 7=true∧y.at_.may 7=true) :
  Calls prog 131 #[M.ptr,.int .i64 x,y.val] w fun e w'=>e=.returned (.tuple #[])∧lY w w' M (M.pl.turn x y.pl)∧ab [M.gs,M.bs] [M.gs,M.bs] w w':=by
 have eO:(Lit.int .i64 x).wf=true:=kt (by omega) (by omega)
 obtain⟨W,H,eW,hH,hB,U0⟩:=cb w 37 #[.int .i64 y.p.r,.int .i64 y.p.s,.bool y.so,.int .i64 y.at_.r,.int .i64 y.at_.s,.slice y.A y.n y.c]
 have h1:=h.aN U0
 have kx:=hy.aN U0
 obtain⟨w3,hrun,l7,U3⟩:=h1.drew.rN.store underlying3 underlying117 (by rw[lk];have:=h.SQ;unfold maxLen;omega) eO y.val
 rw[vQ,←fi]at l7
 have yC:=h.ok.turn hx (y:=y.pl) hp
 have FP:({M with st:=aT x y M.st} :ae).pl.Ok:=by
  refine⟨h.ok.me,h.ok.n3,h.ok.n7,h.ok.pat,?_,h.ok.rs,h.ok.top,h.ok.nx,h.ok.held⟩
  have:=yC.st
  simp only[Site.turn]at this
  rw[show(({M with st:=aT x y M.st} :ae).pl.st)=aT x y.pl (cD cP.pl M.st)from fi cP.pl x y M.st]
  exact this
 obtain⟨h3,V3⟩:=h1.drew.stats U3 l7 (fun p hp=>by
  rcases ec.1 hp with rfl|⟨hp,-⟩
  ·exact⟨kx.aN (ab.refl [] W).drew,gY⟩
  ·have:p.2.sl∈M.bytes:=by simp only[ae.bytes,mem_append];exact .inl (mem_map.2 ⟨_,hp,rfl⟩)
   exact⟨h1.drew.fu _ this,h1.bad _ this⟩) FP
 have kZ:=h3.aO.cc 6 (.int .i64 (max M.top (x+1)))
 have u5:ab [M.gs] [M.gs] w3 (w3.setCell ⟨M.gs,6,none⟩ (.int .i64 (max M.top (x+1)))):=(ab.refl [M.gs] w3).setCell (p:=⟨M.gs,6,none⟩) (.inl (by simp)) _
 have hpl:({M with st:=aT x y M.st,top:=max M.top (x+1)} :ae).pl=M.pl.turn x y.pl:=by
  unfold ae.pl Site.turn
  simp only[fi]
 have h6:=h3.yD M.down (max M.top (x+1)) M.nx u5 (by simpa[ae.cells]using kZ) (by rw[show({({M with st:=aT x y M.st} :ae)with down:=M.down,top:=max M.top (x+1),nx:=M.nx} :ae).pl=M.pl.turn x y.pl from hpl];exact yC)
 have V6:ab M.fp M.fp w (w3.setCell ⟨M.gs,6,none⟩ (.int .i64 (max M.top (x+1)))):=(((U0.up M.fp).drew.trans V3).gives (fun k hk=>.inl hk)).trans (u5.mono (fun k hk=>by simp only[mem_singleton]at hk;subst hk;simp[ae.fp]) (fun k hk=>.inr (.inl hk)))
 have V7:ab [M.gs,M.bs] [M.gs,M.bs] w (w3.setCell ⟨M.gs,6,none⟩ (.int .i64 (max M.top (x+1)))):=((U0.up [M.gs,M.bs]).drew.trans (U3.mono (fun k hk=>by simp only[mem_singleton]at hk;subst hk;simp) (fun k hk=>.inr (.inl hk)))).trans (u5.mono (fun k hk=>by simp only[mem_singleton]at hk;subst hk;simp) (fun k hk=>.inr (.inl hk))) |>.gives (fun k hk=>.inl hk)
 have bN:=aA (show lY w (w3.setCell ⟨M.gs,6,none⟩ (.int .i64 (max M.top (x+1)))) M (M.pl.turn x y.pl)∧ab [M.gs,M.bs] [M.gs,M.bs] w (w3.setCell ⟨M.gs,6,none⟩ (.int .i64 (max M.top (x+1)))) from⟨⟨_,h6,hpl,rfl,rfl,V6⟩,V7⟩)
 have q5:W.drew.cell? ⟨M.gs,5,none⟩=some (.map (some M.bs)):=h1.aO.cell 5
 have q6:w3.cell? ⟨M.gs,6,none⟩=some (.int .i64 M.top):=h3.aO.cell 6
 have f6:w3.frozen? ⟨M.gs,6,none⟩=false:=h3.aO.frozen 6
 have dC:=aL.wr (x+1)
 obtain⟨⟨a0,a1,a2,a3,a4,a5⟩,-⟩:=hB.drew.c6
 rw[ae.ptr]
 simp only[cP.val]at hrun ⊢
 clear yC FP h3 V3 h6 hpl V6 V7 kZ u5 l7 U3 hp gY hy kx h h1 U0
 go_enter func131,ntmps131
 repeat' go_step
 go_region_law (first
  |(refine Cc rfl (.tmp 10) (.tmp 11) (.tmp 12) 117 rfl (.map (some M.bs)) (.int .i64 x) _ w3 rfl rfl rfl hrun ?_))
 all_goals (refine eH ?_)
 all_goals
  rw[show(if M.top<x+1 then x+1 else M.top)=max M.top (x+1) by split<;>omega]
  exact bodyPost_end (results_none rfl _ _ _) rfl ⟨rfl,bN.out⟩
theorem KN(w:World)(M:ae)(h:aJ w M)(r:Rv)(hr:bE w r.A r.n r.b)(hm:r.rc.bL) :
  Calls prog 75 #[M.ptr,r.val] w fun e w'=>e=.returned (.tuple #[])∧lY w w' M (M.pl.eh r.rc)∧ab [M.gs,M.bs] [M.gs,M.bs] w w':=by
 have lP:0≤r.s∧r.s≤4095:=hm.slot
 have eO:(Lit.int .i64 r.s).wf=true:=kt (by omega) (by omega)
 have iq:(⟨r.r,r.t⟩:Bl).may 7=true:=Bl.jk.2 ⟨hm.round,hm.site⟩
 obtain⟨W,H,eW,hH,hB,U0⟩:=cb w 147 #[.int .i64 r.k,.int .i64 r.s,.int .i64 r.r,.int .i64 r.t,.slice r.A r.n r.c]
 have h1:=h.aN U0
 have cv:=U0.gives (b':=[]) (by simp)
 obtain⟨hb1,hb2,hb3⟩:=h1.sK r.s
 have hst:=h.ok.stat r.s
 rw[←ae.nZ]at hst
 obtain⟨R,hR⟩:=bk (M.pl.eh r.rc)
 have HR:=aA (show R=if r.k=1 then M.pl.turn r.s {(M.dA r.s).pl with p:=⟨r.r,r.t⟩}else if dr ⟨r.r,r.t⟩ (M.dA r.s).p<0 then M.pl else M.pl.turn r.s ⟨⟨r.r,r.t⟩,true,⟨r.r,r.t⟩,r.b⟩ by
  rw[←hR];unfold Site.eh;rw[←ae.nZ];rfl)
 rw[hR]
 clear hR
 have fR:(Instr.lookup 117 (.map (some M.bs)) (.int .i64 r.s) false).run prog W.drew=.ok (M.dA r.s).val W.drew:=h1.drew.look eO
 have hl0:(Instr.lookup 117 (.map (some M.bs)) (.int .i64 r.s) false).run prog W=.ok (M.dA r.s).val W:=h1.look eO
 obtain⟨Z,hZ⟩:∃Z:World,W.alloc (.cells #[.int .i64 0,.int .i64 0,.bool false,.int .i64 0,.int .i64 0,.slice none 0 0] 37)=Z:=⟨_,rfl⟩
 have UZ:ab [] [] W Z:=by rw[←hZ];exact(ab.refl [] W).alloc _
 have hl2:(Instr.lookup 117 (.map (some M.bs)) (.int .i64 r.s) false).run prog Z.drew=.ok (M.dA r.s).val Z.drew:=(h1.aN UZ).drew.look eO
 have uR:(Instr.lookup 117 (.map (some M.bs)) (.int .i64 r.s) false).run prog (W.drew.alloc (.cells #[.int .i64 0,.int .i64 0,.bool false,.int .i64 0,.int .i64 0,.slice none 0 0] 37))=.ok (M.dA r.s).val (W.drew.alloc (.cells #[.int .i64 0,.int .i64 0,.bool false,.int .i64 0,.int .i64 0,.slice none 0 0] 37)):=(h1.drew.aN ((ab.refl [] W.drew).alloc _)).look eO
 have hl4:(Instr.lookup 117 (.map (some M.bs)) (.int .i64 r.s) false).run prog (W.alloc (.cells #[.int .i64 0,.int .i64 0,.bool false,.int .i64 0,.int .i64 0,.slice none 0 0] 37)).drew=.ok (M.dA r.s).val (W.alloc (.cells #[.int .i64 0,.int .i64 0,.bool false,.int .i64 0,.int .i64 0,.slice none 0 0] 37)).drew:=(h1.aN ((ab.refl [] W).alloc _)).drew.look eO
 have xG:(Instr.lookup 117 (.map (some M.bs)) (.int .i64 r.s) false).run prog (W.alloc (.cells #[.int .i64 0,.int .i64 0,.bool false,.int .i64 0,.int .i64 0,.slice none 0 0] 37))=.ok (M.dA r.s).val (W.alloc (.cells #[.int .i64 0,.int .i64 0,.bool false,.int .i64 0,.int .i64 0,.slice none 0 0] 37)):=(h1.aN ((ab.refl [] W).alloc _)).look eO
 have BZ:aQ Z W.heap.size 37 #[.int .i64 0,.int .i64 0,.bool false,.int .i64 0,.int .i64 0,.slice none 0 0]:=by rw[←hZ];exact aQ.new _ _ _
 have q5:W.cell? ⟨M.gs,5,none⟩=some (.map (some M.bs)):=h1.aO.cell 5
 have s5:Z.cell? ⟨M.gs,5,none⟩=some (.map (some M.bs)):=(h1.aN UZ).aO.cell 5
 have Je:=hB.aq UZ (by simp)
 obtain⟨⟨a0,a1,a2,a3,a4⟩,-⟩:=hB.c5
 obtain⟨⟨b0,b1,b2,b3,b4⟩,-⟩:=Je.c5
 have aea:=hb1
 have y1:(W.alloc (.cells #[.int .i64 0,.int .i64 0,.bool false,.int .i64 0,.int .i64 0,.slice none 0 0] 37)).cell? ⟨H,1,none⟩=some (.int .i64 r.s):=(hB.alloc _).cell 1
 have y5:(W.alloc (.cells #[.int .i64 0,.int .i64 0,.bool false,.int .i64 0,.int .i64 0,.slice none 0 0] 37)).cell? ⟨M.gs,5,none⟩=some (.map (some M.bs)):=(h1.aN ((ab.refl [] W).alloc _)).aO.cell 5
 obtain⟨⟨k0,k1,k2,k3,k4,k5⟩,e0,e1,e2,e3,e4,e5⟩:=BZ.drew.c6
 generalize M.dA r.s=y at *
 simp only[cP.val]at hl0 fR hl2 uR hl4 xG
 clear hl2 Je BZ UZ b0 b1 b2 b3 b4 k0 k1 k2 k3 k4 k5 e0 e1 e2 e3 e4 e5 s5 hZ
 rw[ae.ptr,Rv.bJ]
 go_enter func75,ntmps75
 repeat' go_step
 go_cut [4]from 7 (fun s4 wc=>∃g:Nat,s4=.pointer (some ⟨g,0,none⟩)∧aQ wc g 37 #[.int .i64 y.p.r,.int .i64 y.p.s,.bool y.so,.int .i64 y.at_.r,.int .i64 y.at_.s,.slice y.A y.n y.c]∧W.heap.size≤g∧ab [] [] W wc)
 case first=>
  go_region_law (fail)
  all_goals (refine wk ?_)
  all_goals go_meet
  all_goals exact⟨W.heap.size,rfl,(aQ.new W _ _).drew,Nat.le_refl _,((ab.refl [] W).alloc _).drew⟩
 case rest=>
  obtain⟨g,rfl,uU,rE,U1⟩:=hcut
  have h2:=h1.aN U1
  have Cs:=hB.aq U1 (by simp)
  have oh:=aea.aN U1
  have UX:=cv.trans U1
  have pS:=h.lt
  have hs0:=U0.size
  have hgf:g∉M.fp:=fun hk=>by have:=pS g hk;omega
  have Ru:H≠g:=by have:=hB.lt;omega
  clear a0 a1 a2 a3 a4 y1 y5 q5 hl0 fR uR hl4 xG
  obtain⟨⟨a0,a1,a2,a3,a4⟩,-⟩:=Cs.c5
  obtain⟨⟨z0,z1,z2,z3,z4,z5⟩,f0,f1,f2,f3,f4,f5⟩:=uU.c6
  by_cases hk:r.k=1
  ·have d1:(r.k==1)=true:=by rw[hk];rfl
   have Jg:=aA (show R=M.pl.turn r.s {y.pl with p:=⟨r.r,r.t⟩} by rw[HR.out,if_pos hk])
   have K:=(uU.cc 0 (.int .i64 r.r)).cc 1 (.int .i64 r.t)
   have u3:ab [g] [g] wc ((wc.setCell ⟨g,0,none⟩ (.int .i64 r.r)).setCell ⟨g,1,none⟩ (.int .i64 r.t)):=((ab.refl [g] wc).setCell (p:=⟨g,0,none⟩) (.inl (by simp)) _).setCell (p:=⟨g,1,none⟩) (.inl (by simp)) _
   have h3:=h2.set uU (by decide) hgf u3
   have KB:=Cs.aq u3 (by simpa using Ru)
   have hX:∀k∈[g],cl wc k=some (some 37):=by simp only[mem_singleton];rintro k rfl;exact uU.tag
   have qw:=oh.aq u3 (cY oh.tag hX (by decide))
   obtain⟨w3,hw3⟩:∃X,(wc.setCell ⟨g,0,none⟩ (.int .i64 r.r)).setCell ⟨g,1,none⟩ (.int .i64 r.t)=X:=⟨_,rfl⟩
   rw[hw3]at K u3 h3 KB qw
   have C:=Cz w3 M h3 r.s (by omega) {y with p:=⟨r.r,r.t⟩} qw hb2 ⟨hb3,iq,hst.2.2⟩
   have K6:aQ w3 g 37 #[.int .i64 r.r,.int .i64 r.t,.bool y.so,.int .i64 y.at_.r,.int .i64 y.at_.s,.slice y.A y.n y.c]:=K
   obtain⟨⟨x0,x1,x2,x3,x4,x5⟩,-⟩:=K6.c6
   obtain⟨⟨c0,c1,c2,c3,c4⟩,-⟩:=KB.c5
   simp only[ae.ptr,cP.val]at C
   have U3:=UX.own (g:=g) (by omega) u3
   have HK:=aA hk
   clear hk HR K K6 KB h3 h2 uU Cs u3
   repeat' go_step
   refine C.mono ?_;rintro e w4 ⟨rfl,⟨M4,h4,jj,hg4,hr4,U4⟩,V4⟩
   refine wk ?_
   exact bodyPost_ret (v:=.tuple #[]) (results_none rfl _ _ _) rfl ⟨rfl,⟨M4,h4,jj.trans Jg.out.symm,hg4,hr4,(U3.up M.fp).trans U4⟩,(U3.up _).trans V4⟩
  ·have d1:(r.k==1)=false:=beq_false_of_ne hk
   have Jg:=aA (show R=if dr ⟨r.r,r.t⟩ y.p<0 then M.pl else M.pl.turn r.s ⟨⟨r.r,r.t⟩,true,⟨r.r,r.t⟩,r.b⟩ by rw[HR.out,if_neg hk])
   have nA:r.b.length≤2048:=hm.val
   have C:=Bk wc y ⟨r.r,r.t⟩ r.A r.n r.c r.b oh.rd (by omega) ((hr.aq U0 (by simp)).aq U1 (by simp)) (by omega)
   have wi:=aA (show jn y ⟨r.r,r.t⟩=!decide (dr ⟨r.r,r.t⟩ y.p<0)from rfl)
   obtain⟨ac,zZ⟩:∃z,jn y ⟨r.r,r.t⟩=z:=⟨_,rfl⟩
   rw[zZ]at C wi
   simp only[cP.val,Bl.val]at C
   clear zZ hk HR
   cases ac with
   |false=>
    have ml:=aA (show R=M.pl by rw[Jg.out,if_pos (by have:=wi.out;simpa using this.symm)])
    simp only[Bool.false_eq_true,if_false]at C
    repeat' go_step
    refine C.mono ?_;rintro e w4 ⟨A4,n4,c4,dW,u4,rfl⟩
    refine wk ?_
    exact bodyPost_end (results_none rfl _ _ _) rfl ⟨rfl,⟨M,(h2.aN u4).aN ((ab.refl [] w4).alloc _),ml.out.symm,rfl,rfl,(((UX.trans (u4.gives (b':=[]) (by simp))).alloc _)).up M.fp⟩,(((UX.trans (u4.gives (b':=[]) (by simp))).alloc _)).up _⟩
   |true=>
    have ml:=aA (show R=M.pl.turn r.s ⟨⟨r.r,r.t⟩,true,⟨r.r,r.t⟩,r.b⟩ by rw[Jg.out,if_neg (by have:=wi.out;simpa using this.symm)])
    simp only[if_true]at C
    repeat' go_step
    refine C.mono ?_;rintro e w4 ⟨A4,n4,c4,dW,u4,rfl⟩
    have fb:=Cs.aq u4 (by simp)
    have BX:=(ab.refl [] wc).new u4
    have h4:=(h2.aN u4).aN ((ab.refl [] w4).alloc (.cells #[.int .i64 r.r,.int .i64 r.t,.bool true,.int .i64 r.r,.int .i64 r.t,.slice A4 n4 c4] 37))
    have U4:=(UX.trans (u4.gives (b':=[]) (by simp))).alloc (.cells #[.int .i64 r.r,.int .i64 r.t,.bool true,.int .i64 r.r,.int .i64 r.t,.slice A4 n4 c4] 37)
    have T4:dj _ ⟨A4,n4,c4,r.b⟩:=dj.aN (w:=w4) ⟨dW.rd,dW.own.tag⟩ ((ab.refl [] w4).alloc (.cells #[.int .i64 r.r,.int .i64 r.t,.bool true,.int .i64 r.r,.int .i64 r.t,.slice A4 n4 c4] 37))
    have C5:=Cz _ M h4 r.s (by omega) ⟨⟨r.r,r.t⟩,true,⟨r.r,r.t⟩,A4,n4,c4,r.b⟩ T4 (fun k hk hm=>by have e1:=BX k hk;have e2:=h.FO k hm;have e3:=UX.size;omega) ⟨nA,iq,iq⟩
    have e5:(⟨⟨r.r,r.t⟩,true,⟨r.r,r.t⟩,A4,n4,c4,r.b⟩:cP).pl=⟨⟨r.r,r.t⟩,true,⟨r.r,r.t⟩,r.b⟩:=rfl
    rw[e5]at C5
    simp only[ae.ptr,cP.val]at C5
    obtain⟨⟨c0,c1,c2,c3,Cu⟩,-⟩:=fb.c5
    have k1:=((ab.refl [] w4).alloc (.cells #[.int .i64 r.r,.int .i64 r.t,.bool true,.int .i64 r.r,.int .i64 r.t,.slice A4 n4 c4] 37)).cell c1 (by simp)
    clear h4 h2 T4 C dW u4 uU Cs fb e5
    repeat' first|go_step|simp only[];go_at_K
    refine C5.mono ?_;rintro e w6 ⟨rfl,⟨M6,h6,gO,jG,xB,U6⟩,V6⟩
    refine wk ?_
    exact bodyPost_end (results_none rfl _ _ _) rfl ⟨rfl,⟨M6,h6,gO.trans ml.out.symm,jG,xB,(U4.up M.fp).trans U6⟩,(U4.up _).trans V6⟩
