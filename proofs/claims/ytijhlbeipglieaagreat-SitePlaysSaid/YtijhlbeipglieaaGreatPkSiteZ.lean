/- For SitePlays. -/
import Derived.Test.YtijhlbeipglieaaGreatPkSiteF
import Derived.Test.YtijhlbeipglieaaGreatPkSu
set_option linter.all false
set_option maxRecDepth 100000
set_option maxHeartbeats 4000000
namespace Go.Proofs.YtijhlbeipglieaaGreat
open Go.RowKit aA Go.Maps Tryz List
variable [eU]
theorem Pj(w:World)(M:af)(h:ay w M)(k:Int) :
  Calls prog 23 #[M.ptr,.int .i64 k] w fun e w'=>e=.returned (.tuple #[])∧Gone w w' M (M.pl.jq k):=by
 have C0:=oF w M h
 have C1:=PI w M.gd M.Ad M.db.length M.cd M.db M.dn h.nV k
 have q4:w.cell? ⟨M.gs,4,none⟩=some (.pointer (some ⟨M.gd,0,none⟩)):=h.blk.cell 4
 obtain⟨R,hR⟩:=ex1 (M.pl.jq k)
 have HR:=hdn (show R=if M.down=true then M.pl else {M.pl with db:=M.db.take (kN M.db.length M.dn k),dn:=kN M.db.length M.dn k,down:=true}from hR.symm)
 rw[hR]
 clear hR
 rw[af.ptr]
 rw[show M.pl.down=M.down from rfl,af.ptr]at C0
 cases hd:M.down with
 |true=>
  rw[hd]at C0
  have KEY:=hdn (show Gone w w M R from⟨M,h,by rw[HR.out,if_pos hd],rfl,aa.refl _ _⟩)
  clear h C1
  go_enter func23,ntmps23
  repeat' go_step
  refine C0.mono ?_;rintro e w1 ⟨rfl,rfl⟩
  refine wk ?_
  exact enT ⟨rfl,KEY.out⟩
 |false=>
  rw[hd]at C0
  go_enter func23,ntmps23
  repeat' go_step
  refine C0.mono ?_;rintro e w1 ⟨rfl,rfl⟩
  repeat' first|go_step|simp only[];go_at_K
  refine C1.mono ?_;rintro e w1 ⟨rfl,hD1,hu1⟩
  have hlen:(M.db.take (kN M.db.length M.dn k)).length=kN M.db.length M.dn k:=by
   rw[length_take]
   have h1:=h.nV.s
   unfold kN
   omega
  obtain⟨K,hK⟩:=ex1 (kN M.db.length M.dn k)
  rw[hK]at hD1 hlen
  have Np:=hdn (show R= {M.pl with db:=M.db.take K,dn:=K,down:=true} by rw[HR.out,if_neg (by rw[hd];simp),hK])
  obtain⟨h1,V1⟩:=h.disk (A':=M.Ad) (c':=K) (db':=M.db.take K) (dn':=K) (hu1.mono (by simp) (fun k hk=>.inr (.inl hk))) (by rw[hlen];exact hD1) (h.ok.disk _ _)
  obtain⟨M1,hM1⟩:∃M1:af,{M with Ad:=M.Ad,cd:=K,db:=M.db.take K,dn:=K} =M1:=⟨_,rfl⟩
  rw[hM1]at h1 V1
  have hg1:M1.gs=M.gs:=by rw[←hM1]
  have f3:w1.frozen? ⟨M.gs,3,none⟩=false:=by rw[←hg1];exact h1.blk.frozen 3
  have t3:w1.cell? ⟨M.gs,3,none⟩=some (.bool M1.down):=by rw[←hg1];exact h1.blk.cell 3
  have u2:aa [M1.gs] [M1.gs] w1 (w1.setCell ⟨M1.gs,3,none⟩ (.bool true)):=(aa.refl [M1.gs] w1).setCell (p:=⟨M1.gs,3,none⟩) (.inl (by simp)) _
  have hB2:=h1.blk.aO 3 (.bool true)
  have h2:=h1.BM true M1.top M1.nx u2 (by simpa[af.cells]using hB2) ⟨h1.ok.me,h1.ok.n3,h1.ok.n7,h1.ok.pat,h1.ok.st,h1.ok.rs,h1.ok.top,h1.ok.nx,h1.ok.held⟩
  obtain⟨M3,jP⟩:∃M3:af,{M1 with down:=true,top:=M1.top,nx:=M1.nx} =M3:=⟨_,rfl⟩
  rw[jP]at h2
  have hp3:M3.pl= {M.pl with db:=M.db.take K,dn:=K,down:=true}:=by rw[←jP,←hM1];rfl
  have hg3:M3.gs=M1.gs∧M3.fp=M1.fp:=by rw[←jP];exact⟨rfl,rfl⟩
  have U2:=V1.trans (u2.mono (a':=M1.fp) (b':=M1.fp) (fun k hk=>by simp only[mem_singleton]at hk;subst hk;simp[af.fp]) (fun k hk=>.inr (.inl hk)))
  have KEY:=hdn (show Gone w (w1.setCell ⟨M.gs,3,none⟩ (.bool true)) M R from⟨M3,by rw[←hg1];exact h2,by rw[Np.out,hp3],hg3.1.trans hg1,by rw[←hg1,hg3.2];exact U2⟩)
  clear h h1 h2 V1 U2 u2 hB2 C0 C1 hD1 hu1 hM1 jP hp3 hg3
  refine wk ?_
  exact enR ⟨rfl,KEY.out⟩
theorem Gi(w:World)(M:af)(h:ay w M)(x:Int)(hx:0≤x∧x<4096)(y:aN)(hy:dF w y.sl)(adk:∀k∈ah y.A,k∉M.iV)(hp:y.b.length≤2048∧y.p.may 7=true∧y.at_.may 7=true) :
  Calls prog 131 #[M.ptr,.int .i64 x,y.val] w fun e w'=>e=.returned (.tuple #[])∧Goes w w' M (M.pl.turn x y.pl)∧aa [M.gs,M.bs] [M.gs,M.bs] w w':=by
 have hwf:(Lit.int .i64 x).wf=true:=jV (by omega) (by omega)
 obtain⟨W,H,eW,hH,hB,U0⟩:=az w 37 #[.int .i64 y.p.r,.int .i64 y.p.s,.bool y.so,.int .i64 y.at_.r,.int .i64 y.at_.s,.slice y.A y.n y.c]
 have h1:=h.au U0
 have hy1:=hy.au U0
 obtain⟨w3,abS,qb,U3⟩:=h1.drew.vG.store underlying3 underlying117 (by rw[mE];have:=h.Xk;unfold maxLen;omega) hwf y.val
 rw[yR,←fE]at qb
 have BL:=h.ok.turn hx (y:=y.pl) hp
 have ah9:({M with st:=aG x y M.st} :af).pl.Ok:=by
  refine⟨h.ok.me,h.ok.n3,h.ok.n7,h.ok.pat,?_,h.ok.rs,h.ok.top,h.ok.nx,h.ok.held⟩
  have:=BL.st
  simp only[Site.turn]at this
  rw[show(({M with st:=aG x y M.st} :af).pl.st)=aG x y.pl (bS aN.pl M.st)from fE aN.pl x y M.st]
  exact this
 obtain⟨h3,V3⟩:=h1.drew.stats U3 qb (fun p hp=>by
  rcases eY.1 hp with rfl|⟨hp,-⟩
  ·exact⟨hy1.au (aa.refl [] W).drew,adk⟩
  ·have:p.2.sl∈M.bytes:=by simp only[af.bytes,mem_append];exact .inl (mem_map.2 ⟨_,hp,rfl⟩)
   exact⟨h1.drew.gB _ this,h1.bad _ this⟩) ah9
 have fw:=h3.blk.aO 6 (.int .i64 (max M.top (x+1)))
 have u5:aa [M.gs] [M.gs] w3 (w3.setCell ⟨M.gs,6,none⟩ (.int .i64 (max M.top (x+1)))):=(aa.refl [M.gs] w3).setCell (p:=⟨M.gs,6,none⟩) (.inl (by simp)) _
 have hpl:({M with st:=aG x y M.st,top:=max M.top (x+1)} :af).pl=M.pl.turn x y.pl:=by
  unfold af.pl Site.turn
  simp only[fE]
 have h6:=h3.BM M.down (max M.top (x+1)) M.nx u5 (by simpa[af.cells]using fw) (by rw[show({({M with st:=aG x y M.st} :af)with down:=M.down,top:=max M.top (x+1),nx:=M.nx} :af).pl=M.pl.turn x y.pl from hpl];exact BL)
 have V6:aa M.fp M.fp w (w3.setCell ⟨M.gs,6,none⟩ (.int .i64 (max M.top (x+1)))):=(((U0.up M.fp).drew.trans V3).gives (fun k hk=>.inl hk)).trans (u5.mono (fun k hk=>by simp only[mem_singleton]at hk;subst hk;simp[af.fp]) (fun k hk=>.inr (.inl hk)))
 have V7:aa [M.gs,M.bs] [M.gs,M.bs] w (w3.setCell ⟨M.gs,6,none⟩ (.int .i64 (max M.top (x+1)))):=((U0.up [M.gs,M.bs]).drew.trans (U3.mono (fun k hk=>by simp only[mem_singleton]at hk;subst hk;simp) (fun k hk=>.inr (.inl hk)))).trans (u5.mono (fun k hk=>by simp only[mem_singleton]at hk;subst hk;simp) (fun k hk=>.inr (.inl hk))) |>.gives (fun k hk=>.inl hk)
 have KEY:=hdn (show Goes w (w3.setCell ⟨M.gs,6,none⟩ (.int .i64 (max M.top (x+1)))) M (M.pl.turn x y.pl)∧aa [M.gs,M.bs] [M.gs,M.bs] w (w3.setCell ⟨M.gs,6,none⟩ (.int .i64 (max M.top (x+1)))) from⟨⟨_,h6,hpl,rfl,rfl,V6⟩,V7⟩)
 have q5:W.drew.cell? ⟨M.gs,5,none⟩=some (.map (some M.bs)):=h1.blk.cell 5
 have q6:w3.cell? ⟨M.gs,6,none⟩=some (.int .i64 M.top):=h3.blk.cell 6
 have f6:w3.frozen? ⟨M.gs,6,none⟩=false:=h3.blk.frozen 6
 have hw1:=aA.wr (x+1)
 obtain⟨⟨a0,a1,a2,a3,a4,a5⟩,-⟩:=hB.drew.c6
 rw[af.ptr]
 simp only[aN.val]at abS ⊢
 clear BL ah9 h3 V3 h6 hpl V6 V7 fw u5 qb U3 hp adk hy hy1 h h1 U0
 go_enter func131,ntmps131
 repeat' go_step
 go_region_law (first
  |(refine yQ rfl (.tmp 10) (.tmp 11) (.tmp 12) 117 rfl (.map (some M.bs)) (.int .i64 x) _ w3 rfl rfl rfl abS ?_))
 all_goals (refine bN ?_)
 all_goals
  rw[show(if M.top<x+1 then x+1 else M.top)=max M.top (x+1) by split<;>omega]
  exact enR ⟨rfl,KEY.out⟩
theorem O3(w:World)(M:af)(h:ay w M)(r:Rv)(hr:aD w r.A r.n r.b)(hm:r.rc.May) :
  Calls prog 75 #[M.ptr,r.val] w fun e w'=>e=.returned (.tuple #[])∧Goes w w' M (M.pl.dR r.rc)∧aa [M.gs,M.bs] [M.gs,M.bs] w w':=by
 have qK:0≤r.s∧r.s≤4095:=hm.slot
 have hwf:(Lit.int .i64 r.s).wf=true:=jV (by omega) (by omega)
 have ib:(⟨r.r,r.t⟩:Bl).may 7=true:=Bl.jb.2 ⟨hm.round,hm.site⟩
 obtain⟨W,H,eW,hH,hB,U0⟩:=az w 147 #[.int .i64 r.k,.int .i64 r.s,.int .i64 r.r,.int .i64 r.t,.slice r.A r.n r.c]
 have h1:=h.au U0
 have dm:=U0.g0
 obtain⟨hb1,hb2,hb3⟩:=h1.tJ r.s
 have hst:=h.ok.stat r.s
 rw[←af.nU]at hst
 obtain⟨R,hR⟩:=ex1 (M.pl.dR r.rc)
 have HR:=hdn (show R=if r.k=1 then M.pl.turn r.s {(M.bZ r.s).pl with p:=⟨r.r,r.t⟩}else if bg ⟨r.r,r.t⟩ (M.bZ r.s).p<0 then M.pl else M.pl.turn r.s ⟨⟨r.r,r.t⟩,true,⟨r.r,r.t⟩,r.b⟩ by
  rw[←hR];unfold Site.dR;rw[←af.nU];rfl)
 rw[hR]
 clear hR
 have hl1:(Instr.lookup 117 (.map (some M.bs)) (.int .i64 r.s) false).run prog W.drew=.ok (M.bZ r.s).val W.drew:=h1.drew.look hwf
 have hl0:(Instr.lookup 117 (.map (some M.bs)) (.int .i64 r.s) false).run prog W=.ok (M.bZ r.s).val W:=h1.look hwf
 obtain⟨Z,hZ⟩:∃Z:World,W.alloc (.cells #[.int .i64 0,.int .i64 0,.bool false,.int .i64 0,.int .i64 0,.slice none 0 0] 37)=Z:=⟨_,rfl⟩
 have UZ:aa [] [] W Z:=by rw[←hZ];exact(aa.refl [] W).alloc _
 have hl2:(Instr.lookup 117 (.map (some M.bs)) (.int .i64 r.s) false).run prog Z.drew=.ok (M.bZ r.s).val Z.drew:=(h1.au UZ).drew.look hwf
 have hl3:(Instr.lookup 117 (.map (some M.bs)) (.int .i64 r.s) false).run prog (W.drew.alloc (.cells #[.int .i64 0,.int .i64 0,.bool false,.int .i64 0,.int .i64 0,.slice none 0 0] 37))=.ok (M.bZ r.s).val (W.drew.alloc (.cells #[.int .i64 0,.int .i64 0,.bool false,.int .i64 0,.int .i64 0,.slice none 0 0] 37)):=(h1.drew.au ((aa.refl [] W.drew).alloc _)).look hwf
 have hl4:(Instr.lookup 117 (.map (some M.bs)) (.int .i64 r.s) false).run prog (W.alloc (.cells #[.int .i64 0,.int .i64 0,.bool false,.int .i64 0,.int .i64 0,.slice none 0 0] 37)).drew=.ok (M.bZ r.s).val (W.alloc (.cells #[.int .i64 0,.int .i64 0,.bool false,.int .i64 0,.int .i64 0,.slice none 0 0] 37)).drew:=(h1.au ((aa.refl [] W).alloc _)).drew.look hwf
 have hl5:(Instr.lookup 117 (.map (some M.bs)) (.int .i64 r.s) false).run prog (W.alloc (.cells #[.int .i64 0,.int .i64 0,.bool false,.int .i64 0,.int .i64 0,.slice none 0 0] 37))=.ok (M.bZ r.s).val (W.alloc (.cells #[.int .i64 0,.int .i64 0,.bool false,.int .i64 0,.int .i64 0,.slice none 0 0] 37)):=(h1.au ((aa.refl [] W).alloc _)).look hwf
 have BZ:ak Z W.heap.size 37 #[.int .i64 0,.int .i64 0,.bool false,.int .i64 0,.int .i64 0,.slice none 0 0]:=by rw[←hZ];exact ak.new _ _ _
 have q5:W.cell? ⟨M.gs,5,none⟩=some (.map (some M.bs)):=h1.blk.cell 5
 have s5:Z.cell? ⟨M.gs,5,none⟩=some (.map (some M.bs)):=(h1.au UZ).blk.cell 5
 have DZ:=hB.upd UZ
 obtain⟨⟨a0,a1,a2,a3,a4⟩,-⟩:=hB.c5
 obtain⟨⟨b0,b1,b2,b3,b4⟩,-⟩:=DZ.c5
 have afq:=hb1
 have y1:(W.alloc (.cells #[.int .i64 0,.int .i64 0,.bool false,.int .i64 0,.int .i64 0,.slice none 0 0] 37)).cell? ⟨H,1,none⟩=some (.int .i64 r.s):=(hB.alloc _).cell 1
 have y5:(W.alloc (.cells #[.int .i64 0,.int .i64 0,.bool false,.int .i64 0,.int .i64 0,.slice none 0 0] 37)).cell? ⟨M.gs,5,none⟩=some (.map (some M.bs)):=(h1.au ((aa.refl [] W).alloc _)).blk.cell 5
 obtain⟨⟨k0,k1,k2,k3,k4,k5⟩,e0,e1,e2,e3,e4,e5⟩:=BZ.drew.c6
 generalize M.bZ r.s=y at *
 simp only[aN.val]at hl0 hl1 hl2 hl3 hl4 hl5
 clear hl2 DZ BZ UZ b0 b1 b2 b3 b4 k0 k1 k2 k3 k4 k5 e0 e1 e2 e3 e4 e5 s5 hZ
 rw[af.ptr,Rv.aH]
 go_enter func75,ntmps75
 repeat' go_step
 go_cut [4]from 7 (fun s4 wc=>∃g:Nat,s4=.pointer (some ⟨g,0,none⟩)∧ak wc g 37 #[.int .i64 y.p.r,.int .i64 y.p.s,.bool y.so,.int .i64 y.at_.r,.int .i64 y.at_.s,.slice y.A y.n y.c]∧W.heap.size≤g∧aa [] [] W wc)
 case first=>
  go_region_law (fail)
  all_goals (refine wk ?_)
  all_goals go_meet
  all_goals exact⟨W.heap.size,rfl,(ak.new W _ _).drew,Nat.le_refl _,((aa.refl [] W).alloc _).drew⟩
 case rest=>
  obtain⟨g,rfl,uB,hgs,U1⟩:=hcut
  have h2:=h1.au U1
  have hBr:=hB.upd U1
  have hy2:=afq.au U1
  have UX:=dm.trans U1
  have hfl:=h.lt
  have hs0:=U0.size
  have hgf:g∉M.fp:=fun hk=>by have:=hfl g hk;omega
  have hgH:H≠g:=by have:=hB.lt;omega
  clear a0 a1 a2 a3 a4 y1 y5 q5 hl0 hl1 hl3 hl4 hl5
  obtain⟨⟨a0,a1,a2,a3,a4⟩,-⟩:=hBr.c5
  obtain⟨⟨z0,z1,z2,z3,z4,z5⟩,f0,f1,f2,f3,f4,f5⟩:=uB.c6
  by_cases hk:r.k=1
  ·have d1:(r.k==1)=true:=by rw[hk];rfl
   have Np:=hdn (show R=M.pl.turn r.s {y.pl with p:=⟨r.r,r.t⟩} by rw[HR.out,if_pos hk])
   have K:=(uB.aO 0 (.int .i64 r.r)).aO 1 (.int .i64 r.t)
   have u3:aa [g] [g] wc ((wc.setCell ⟨g,0,none⟩ (.int .i64 r.r)).setCell ⟨g,1,none⟩ (.int .i64 r.t)):=((aa.refl [g] wc).setCell (p:=⟨g,0,none⟩) (.inl (by simp)) _).setCell (p:=⟨g,1,none⟩) (.inl (by simp)) _
   have h3:=h2.set uB (by decide) hgf u3
   have KB:=hBr.upd u3 (by simpa using hgH)
   have hX:∀k∈[g],bW wc k=some (some 37):=by simp only[mem_singleton];rintro k rfl;exact uB.tag
   have hy3:=hy2.upd u3 (bX hy2.tag hX (by decide))
   obtain⟨w3,hw3⟩:∃X,(wc.setCell ⟨g,0,none⟩ (.int .i64 r.r)).setCell ⟨g,1,none⟩ (.int .i64 r.t)=X:=⟨_,rfl⟩
   rw[hw3]at K u3 h3 KB hy3
   have C:=Gi w3 M h3 r.s (by omega) {y with p:=⟨r.r,r.t⟩} hy3 hb2 ⟨hb3,ib,hst.2.2⟩
   have K6:ak w3 g 37 #[.int .i64 r.r,.int .i64 r.t,.bool y.so,.int .i64 y.at_.r,.int .i64 y.at_.s,.slice y.A y.n y.c]:=K
   obtain⟨⟨x0,x1,x2,x3,x4,x5⟩,-⟩:=K6.c6
   obtain⟨⟨c0,c1,c2,c3,c4⟩,-⟩:=KB.c5
   simp only[af.ptr,aN.val]at C
   have U3:=UX.own (g:=g) (by omega) u3
   have HK:=hdn hk
   clear hk HR K K6 KB h3 h2 uB hBr u3
   repeat' go_step
   refine C.mono ?_;rintro e w4 ⟨rfl,⟨M4,h4,jY,hg4,hr4,U4⟩,V4⟩
   refine wk ?_
   exact enT ⟨rfl,⟨M4,h4,jY.trans Np.out.symm,hg4,hr4,(U3.up M.fp).trans U4⟩,(U3.up _).trans V4⟩
  ·have d1:(r.k==1)=false:=beq_false_of_ne hk
   have Np:=hdn (show R=if bg ⟨r.r,r.t⟩ y.p<0 then M.pl else M.pl.turn r.s ⟨⟨r.r,r.t⟩,true,⟨r.r,r.t⟩,r.b⟩ by rw[HR.out,if_neg hk])
   have hrb:r.b.length≤2048:=hm.val
   have C:=EC wc y ⟨r.r,r.t⟩ r.A r.n r.c r.b hy2.rd (by omega) ((hr.upd U0).upd U1) (by omega)
   have zz:=hdn (show jD y ⟨r.r,r.t⟩=!decide (bg ⟨r.r,r.t⟩ y.p<0)from rfl)
   obtain⟨ac,hac⟩:∃z,jD y ⟨r.r,r.t⟩=z:=⟨_,rfl⟩
   rw[hac]at C zz
   simp only[aN.val,Bl.val]at C
   clear hac hk HR
   cases ac with
   |false=>
    have nQ:=hdn (show R=M.pl by rw[Np.out,if_pos (by have:=zz.out;simpa using this.symm)])
    simp only[Bool.false_eq_true,if_false]at C
    repeat' go_step
    refine C.mono ?_;rintro e w4 ⟨A4,n4,c4,bY,u4,rfl⟩
    refine wk ?_
    exact enR ⟨rfl,⟨M,(h2.au u4).au ((aa.refl [] w4).alloc _),nQ.out.symm,rfl,rfl,(((UX.trans u4.g0).alloc _)).up M.fp⟩,(((UX.trans u4.g0).alloc _)).up _⟩
   |true=>
    have nQ:=hdn (show R=M.pl.turn r.s ⟨⟨r.r,r.t⟩,true,⟨r.r,r.t⟩,r.b⟩ by rw[Np.out,if_neg (by have:=zz.out;simpa using this.symm)])
    simp only[if_true]at C
    repeat' go_step
    refine C.mono ?_;rintro e w4 ⟨A4,n4,c4,bY,u4,rfl⟩
    have hB4:=hBr.upd u4
    have qf:=(aa.refl [] wc).new u4
    have h4:=(h2.au u4).au ((aa.refl [] w4).alloc (.cells #[.int .i64 r.r,.int .i64 r.t,.bool true,.int .i64 r.r,.int .i64 r.t,.slice A4 n4 c4] 37))
    have U4:=(UX.trans u4.g0).alloc (.cells #[.int .i64 r.r,.int .i64 r.t,.bool true,.int .i64 r.r,.int .i64 r.t,.slice A4 n4 c4] 37)
    have T4:dF _ ⟨A4,n4,c4,r.b⟩:=dF.au (w:=w4) ⟨bY.rd,bY.own.tag⟩ ((aa.refl [] w4).alloc (.cells #[.int .i64 r.r,.int .i64 r.t,.bool true,.int .i64 r.r,.int .i64 r.t,.slice A4 n4 c4] 37))
    have C5:=Gi _ M h4 r.s (by omega) ⟨⟨r.r,r.t⟩,true,⟨r.r,r.t⟩,A4,n4,c4,r.b⟩ T4 (fun k hk hm=>by have e1:=qf k hk;have e2:=h.JZ k hm;have e3:=UX.size;omega) ⟨hrb,ib,ib⟩
    have e5:(⟨⟨r.r,r.t⟩,true,⟨r.r,r.t⟩,A4,n4,c4,r.b⟩:aN).pl=⟨⟨r.r,r.t⟩,true,⟨r.r,r.t⟩,r.b⟩:=rfl
    rw[e5]at C5
    simp only[af.ptr,aN.val]at C5
    obtain⟨⟨c0,c1,c2,c3,c4'⟩,-⟩:=hB4.c5
    have k1:=((aa.refl [] w4).alloc (.cells #[.int .i64 r.r,.int .i64 r.t,.bool true,.int .i64 r.r,.int .i64 r.t,.slice A4 n4 c4] 37)).cell c1 (by simp)
    clear h4 h2 T4 C bY u4 uB hBr hB4 e5
    repeat' first|go_step|simp only[];go_at_K
    refine C5.mono ?_;rintro e w6 ⟨rfl,⟨M6,h6,iY,jy,Ai,U6⟩,V6⟩
    refine wk ?_
    exact enR ⟨rfl,⟨M6,h6,iY.trans nQ.out.symm,jy,Ai,(U4.up M.fp).trans U6⟩,(U4.up _).trans V6⟩
