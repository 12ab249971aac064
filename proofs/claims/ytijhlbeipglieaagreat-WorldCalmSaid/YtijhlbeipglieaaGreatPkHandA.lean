/- For WorldCalm. -/
import Derived.Test.YtijhlbeipglieaaGreatPkSiteV
set_option linter.all false
set_option maxRecDepth 100000
set_option maxHeartbeats 4000000
namespace Go.Proofs.YtijhlbeipglieaaGreat
open Go.RowKit aL Go.Maps Tryz List
theorem AN(m:Mv)(hm:m.ms.bL):m.ms.aC.may 7=true:=Bl.jk.2 ⟨hm.bU,hm.cu⟩
variable [eA]
theorem GQ(w:World)(M:ae)(h:aJ w M)(m:Mv)(hm:m.ms.bL)(hb:dj w m.sl) :
  Calls prog 197 #[M.ptr,m.val] w fun e w'=>e=.returned (.tuple #[])∧dZ w w' M (M.pl.gr m.ms):=by
 obtain⟨W,H,eW,hH,hB,U0⟩:=cb w 32 #[.int .i64 m.k,.int .i64 m.f,.int .i64 m.t,.int .i64 m.s,.int .i64 m.br,.int .i64 m.bs,.int .i64 m.hr,.int .i64 m.hs,.bool m.so,.slice m.A m.n m.c]
 have h1:=h.aN U0
 have cv:=U0.gives (b':=[]) (by simp)
 have lP:0≤m.s∧m.s≤4095:=hm.slot
 have C:=tX W M h1 m.s (by omega) m.A m.n m.c m.b (hb.aN U0).rd hm.val
 obtain⟨R,hR⟩:=bk (M.pl.gr m.ms)
 have HR:=aA hR
 rw[hR]
 clear hR
 obtain⟨⟨a0,a1,a2,a3,a4,a5,a6,a7,a8,a9⟩,-⟩:=hB.cJ
 rw[ae.ptr,Mv.bJ]
 rw[ae.ptr]at C
 cases gC:m.so with
 |false=>
  have eQ:R=M.pl:=by rw[←HR.out];unfold Site.gr;rw[if_neg (by show ¬ m.so=true;rw[gC];simp)]
  have bN:=aA (show dZ w W M R from⟨M,h1,eQ.symm,rfl,cv.up M.fp⟩)
  rw[gC]at a8
  simp only[gC]at eW
  clear eQ h1 C
  go_enter func197,ntmps197
  refine wk ?_
  exact bodyPost_end (results_none rfl _ _ _) rfl ⟨rfl,bN.out⟩
 |true=>
  have eQ:R=M.pl.aX m.s m.b:=by rw[←HR.out];unfold Site.gr;exact if_pos (show m.ms.some_=true from gC)
  have ot:=aA eQ
  rw[gC]at a8
  simp only[gC]at eW
  clear eQ h1
  go_enter func197,ntmps197
  repeat' go_step
  refine C.mono ?_;rintro e w1 ⟨rfl,⟨M1,H1,ee,hg1,u1⟩,-⟩
  refine wk ?_
  exact bodyPost_end (results_none rfl _ _ _) rfl ⟨rfl,M1,H1,ee.trans ot.out.symm,hg1,(cv.up M.fp).trans u1⟩
theorem GR(w:World)(M:ae)(h:aJ w M)(m:Mv)(hm:m.ms.bL) :
  Calls prog 192 #[M.ptr,m.val] w fun e w'=>e=.returned (.tuple #[])∧dZ w w' M (M.pl.eR m.ms):=by
 obtain⟨W,H,eW,hH,hB,U0⟩:=cb w 32 #[.int .i64 m.k,.int .i64 m.f,.int .i64 m.t,.int .i64 m.s,.int .i64 m.br,.int .i64 m.bs,.int .i64 m.hr,.int .i64 m.hs,.bool m.so,.slice m.A m.n m.c]
 have h1:=h.aN U0
 have cv:=U0.gives (b':=[]) (by simp)
 have lP:0≤m.s∧m.s≤4095:=hm.slot
 obtain⟨R,hR⟩:=bk (M.pl.eR m.ms)
 have HR:=aA (show R=if m.f=bK m.s M.n then M.pl.aX m.s []else M.pl from hR.symm)
 rw[hR]
 clear hR
 have a1:∀N,(W.drewN N).cell? ⟨H,1,none⟩=some (.int .i64 m.f):=fun N=>hB.cell 1
 have a3:∀N,(W.drewN N).cell? ⟨H,3,none⟩=some (.int .i64 m.s):=fun N=>hB.cell 3
 have g1:∀N,(W.drewN N).cell? ⟨M.gs,1,none⟩=some (.int .i64 (M.n:Int)):=fun N=>h1.aO.cell 1
 have C:=fun N=>qa (W.drewN N) m.s M.n
 obtain⟨o,ho⟩:=bk (bK m.s M.n)
 rw[ho]at HR
 simp only[ho]at C
 clear ho
 rw[ae.ptr,Mv.bJ]
 go_enter func192,ntmps192
 repeat' go_step
 by_cases hf:m.f=o
 ·have d1:(m.f==o)=true:=by rw[hf];exact beq_self_eq_true _
  have ot:=aA (show R=M.pl.aX m.s [] by rw[HR.out,if_pos hf])
  clear hf
  go_quiet (with_reducible exact kf (C _))
  have u2:=(ab.refl [] W).drewN nq
  have h2:=h1.aN u2
  have C2:=tX (W.drewN nq) M h2 m.s (by omega) none 0 0 [] (bE.nil _ _) (by simp)
  rw[ae.ptr]at C2
  have b3:=a3 nq
  repeat' go_step
  refine C2.mono ?_;rintro e w1 ⟨rfl,⟨M1,H1,ee,hg1,u1⟩,-⟩
  refine wk ?_
  exact bodyPost_end (results_none rfl _ _ _) rfl ⟨rfl,M1,H1,ee.trans ot.out.symm,hg1,((cv.trans u2).up M.fp).trans u1⟩
 ·have d1:(m.f==o)=false:=beq_false_of_ne hf
  have ot:=aA (show R=M.pl by rw[HR.out,if_neg hf])
  clear hf
  go_quiet (with_reducible exact kf (C _))
  have u2:=(ab.refl [] W).drewN nq
  refine wk ?_
  exact bodyPost_end (results_none rfl _ _ _) rfl ⟨rfl,M,h1.aN u2,ot.out.symm,rfl,(cv.trans u2).up M.fp⟩
theorem MZ(w:World)(M:ae)(h:aJ w M)(m:Mv)(hm:m.ms.bL)(hb:dj w m.sl)(gL:∀k∈ak m.A,k∉M.fp)(hl:M.held.length≤900000000) :
  Calls prog 195 #[M.ptr,m.val] w fun e w'=>e=.returned (.tuple #[])∧dZ w w' M (M.pl.asked m.ms):=by
 obtain⟨W,H,eW,hH,hB,U0⟩:=cb w 32 #[.int .i64 m.k,.int .i64 m.f,.int .i64 m.t,.int .i64 m.s,.int .i64 m.br,.int .i64 m.bs,.int .i64 m.hr,.int .i64 m.hs,.bool m.so,.slice m.A m.n m.c]
 have h1:=h.aN U0
 have cv:=U0.gives (b':=[]) (by simp)
 have lP:0≤m.s∧m.s≤4095:=hm.slot
 have tY:0≤m.f∧m.f≤6:=hm.aR
 have gU:H∉M.fp:=fun hk=>by have:=h.lt H hk;omega
 have iq:=AN m hm
 obtain⟨R,hR⟩:=bk (M.pl.asked m.ms)
 have HR:=aA (show R=if m.so=true∧1≤m.br∧m.bs=m.f then(match M.pl.accept m.s ⟨m.br,m.bs⟩ m.b with|some t=>t.send m.f (Site.bB m.s ⟨m.br,m.bs⟩)|none=>M.pl)else M.pl from hR.symm)
 rw[hR]
 clear hR
 obtain⟨⟨a0,a1,a2,a3,a4,a5,a6,a7,a8,a9⟩,-⟩:=hB.cJ
 have C:=nQ W M h1 m.s (by omega) ⟨m.br,m.bs⟩ iq m.A m.n m.c m.b (hb.aN U0).rd gL hm.val
 have qN:=aA (show R=M.pl→dZ w W M R from fun e=>⟨M,h1,e.symm,rfl,cv.up M.fp⟩)
 simp only[ae.ptr,Bl.val]at C
 rw[ae.ptr,Mv.bJ]
 obtain⟨so,vI⟩:=bk m.so
 rw[vI]at a8 HR hB eW ⊢
 clear vI
 by_cases gC:so=true
 ·subst gC
  have gC:True:=trivial
  by_cases hr1:1≤m.br
  ·have d1:decide (1≤m.br)=true:=dJ hr1
   by_cases hs:m.bs=m.f
   ·have d2:(m.bs==m.f)=true:=by rw[hs];exact beq_self_eq_true _
    have pn:=HR.out
    rw[if_pos ⟨rfl,hr1,hs⟩]at pn
    have ot:=aA pn
    have HS:=aA hs
    clear hs pn h1
    go_enter func195,ntmps195
    cases cM:M.pl.accept m.s ⟨m.br,m.bs⟩ m.b with
    |none=>
     rw[cM]at C
     have eQ:=ot.out
     rw[cM]at eQ
     have ml:=aA eQ
     clear eQ cM
     repeat' first|go_guarded|go_step
     refine C.mono ?_;rintro e w1 ⟨rfl,M1,H1,ee,hg1,-,u1⟩
     refine wk ?_
     exact bodyPost_end (results_none rfl _ _ _) rfl ⟨rfl,M1,H1,ee.trans ml.out.symm,hg1,(cv.up M.fp).trans u1⟩
    |some t=>
     rw[cM]at C
     have eQ:=ot.out
     rw[cM]at eQ
     have ml:=aA eQ
     obtain⟨tm,tn,th,-⟩:=Site.j6 cM
     clear eQ cM
     repeat' first|go_guarded|go_step
     refine C.mono ?_;rintro e w1 ⟨rfl,M1,H1,ee,hg1,-,u1⟩
     replace ee:M1.pl=t:=ee
     have K1:=hB.aq u1 gU
     clear a0 a1 a2 a3 a4 a5 a6 a7 a8 a9 C
     obtain⟨⟨a0,a1,a2,a3,a4,a5,a6,a7,a8,a9⟩,-⟩:=K1.cJ
     have l1:M1.held.length≤1000000000:=by have:=congrArg (fun z:Site=>z.held.length) ee;simp only[ae.cE,th]at this;omega
     have C2:=jC w1 M1 H1 m.f ⟨6,0,0,m.s,m.br,m.bs,0,0,false,none,0,0,[]⟩ (Site.mO (x:=m.s) (b:=⟨m.br,m.bs⟩) (by omega) iq) tY (bE.nil _ _) l1
     rw[ee]at C2
     simp only[ae.ptr,Mv.bJ,hg1]at C2
     repeat' first|go_step|simp only[];go_at_K
     refine C2.mono ?_;rintro e w2 ⟨rfl,M2,H2,gS,hg2,-,u2⟩
     refine wk ?_
     exact bodyPost_end (results_none rfl _ _ _) rfl ⟨rfl,M2,H2,gS.trans ml.out.symm,hg2.trans hg1,((cv.up M.fp).trans u1).trans u2⟩
   ·have d2:(m.bs==m.f)=false:=beq_false_of_ne hs
    have bN:=aA (qN.out (by rw[HR.out,if_neg (fun hh=>hs hh.2.2)]))
    clear h1 C
    go_enter func195,ntmps195
    refine wk ?_
    exact bodyPost_end (results_none rfl _ _ _) rfl ⟨rfl,bN.out⟩
  ·have d1:decide (1≤m.br)=false:=eE hr1
   have bN:=aA (qN.out (by rw[HR.out,if_neg (fun hh=>hr1 hh.2.1)]))
   clear h1 C
   go_enter func195,ntmps195
   refine wk ?_
   exact bodyPost_end (results_none rfl _ _ _) rfl ⟨rfl,bN.out⟩
 ·have Ic:so=false:=by simpa using gC
  subst Ic
  have bN:=aA (qN.out (by rw[HR.out,if_neg (fun hh=>gC hh.1)]))
  clear h1 C
  go_enter func195,ntmps195
  refine wk ?_
  exact bodyPost_end (results_none rfl _ _ _) rfl ⟨rfl,bN.out⟩
theorem EL(w:World)(M:ae)(h:aJ w M)(m:Mv)(hm:m.ms.bL)(hl:M.held.length≤900000000)(mB:(M.pl.stat m.s).so=true∨(M.pl.stat m.s).at_=⟨0,0⟩∧(M.pl.stat m.s).b= []) :
  Calls prog 193 #[M.ptr,m.val] w fun e w'=>e=.returned (.tuple #[])∧dZ w w' M (M.pl.ed m.ms):=by
 obtain⟨W,H,eW,hH,hB,U0⟩:=cb w 32 #[.int .i64 m.k,.int .i64 m.f,.int .i64 m.t,.int .i64 m.s,.int .i64 m.br,.int .i64 m.bs,.int .i64 m.hr,.int .i64 m.hs,.bool m.so,.slice m.A m.n m.c]
 have h1:=h.aN U0
 have cv:=U0.gives (b':=[]) (by simp)
 have lP:0≤m.s∧m.s≤4095:=hm.slot
 have tY:0≤m.f∧m.f≤6:=hm.aR
 have gU:H∉M.fp:=fun hk=>by have:=h.lt H hk;omega
 have eO:(Lit.int .i64 m.s).wf=true:=kt (by omega) (by omega)
 have iq:(⟨m.br,m.bs⟩:Bl).may 7=true:=AN m hm
 obtain⟨R,hR⟩:=bk (M.pl.ed m.ms)
 have HR:=aA (show R=if 1≤m.br∧m.bs=m.f then(match M.pl.promise m.s ⟨m.br,m.bs⟩ with|some t=>t.send m.f (t.answer m.s ⟨m.br,m.bs⟩)|none=>M.pl)else M.pl from hR.symm)
 rw[hR]
 clear hR
 obtain⟨⟨a0,a1,a2,a3,a4,a5,a6,a7,a8,a9⟩,-⟩:=hB.cJ
 have C:=xC W M h1 m.s (by omega) ⟨m.br,m.bs⟩ iq
 have qN:=aA (show R=M.pl→dZ w W M R from fun e=>⟨M,h1,e.symm,rfl,cv.up M.fp⟩)
 simp only[ae.ptr,Bl.val]at C
 rw[ae.ptr,Mv.bJ]
 by_cases hr1:1≤m.br
 ·have d1:decide (1≤m.br)=true:=dJ hr1
  by_cases hs:m.bs=m.f
  ·have d2:(m.bs==m.f)=true:=by rw[hs];exact beq_self_eq_true _
   have pn:=HR.out
   rw[if_pos ⟨hr1,hs⟩]at pn
   have ot:=aA pn
   clear hs pn h1
   go_enter func193,ntmps193
   cases cM:M.pl.promise m.s ⟨m.br,m.bs⟩ with
   |none=>
    rw[cM]at C
    have eQ:=ot.out
    rw[cM]at eQ
    have ml:=aA eQ
    clear eQ cM
    repeat' first|go_guarded|go_step
    refine C.mono ?_;rintro e w1 ⟨rfl,M1,H1,ee,hg1,-,u1⟩
    refine wk ?_
    exact bodyPost_end (results_none rfl _ _ _) rfl ⟨rfl,M1,H1,ee.trans ml.out.symm,hg1,(cv.up M.fp).trans u1⟩
   |some t=>
    rw[cM]at C
    have eQ:=ot.out
    rw[cM]at eQ
    have ml:=aA eQ
    obtain⟨tm,tn,th,-,WL⟩:=Site.tZ cM
    clear eQ cM
    repeat' first|go_guarded|go_step
    refine C.mono ?_;rintro e w1 ⟨rfl,M1,H1,ee,hg1,-,u1⟩
    replace ee:M1.pl=t:=ee
    have K1:=hB.aq u1 gU
    clear a0 a1 a2 a3 a4 a5 a6 a7 a8 a9 C
    have l1:M1.held.length≤1000000000:=by have:=congrArg (fun z:Site=>z.held.length) ee;simp only[ae.cE,th]at this;omega
    have zz:(M1.ub m.s ⟨m.br,m.bs⟩).ms.Fit:=by rw[ae.wN];exact Site.lQ H1.ok (by omega) iq (by rw[ee,WL];exact mB)
    have rC:=zA w1.drew M1 H1.drew m.s eO ⟨m.br,m.bs⟩
    have EM:=fun(xD:World)(hu:ab [] [] w1.drew xD)=>jC xD M1 (H1.drew.aN hu) m.f (M1.ub m.s ⟨m.br,m.bs⟩) zz tY (((H1.drew.aN hu).sK m.s).1.rd) l1
    have WM:=((cv.up M.fp).trans u1).drew
    rw[ae.wN]at EM
    obtain⟨av,og⟩:∃z,(M1.ub m.s ⟨m.br,m.bs⟩).val=z:=⟨_,rfl⟩
    rw[og]at rC
    simp only[og,ae.ptr,hg1,ee]at EM
    simp only[ae.ptr,hg1,Bl.val]at rC
    obtain⟨⟨a0,a1,a2,a3,a4,a5,a6,a7,a8,a9⟩,-⟩:=K1.drew.cJ
    clear og zz H1 K1 u1
    refine wk ?_
    go_region_with (first
     |(go_at_call 167;(with_reducible refine rC.mono ?_);rintro e xD ⟨rfl,uM⟩;have b1:=uM.cell a1 (by simp);have b3:=uM.cell a3 (by simp);have b4:=uM.cell a4 (by simp);have b5:=uM.cell a5 (by simp))
     |(go_at_call 64;(with_reducible refine(EM xD uM).mono ?_);rintro e w13 ⟨rfl,M5,WN,PZ,P0,-,WO⟩))
    all_goals (refine wk ?_)
    all_goals exact bodyPost_end (results_none rfl _ _ _) rfl ⟨rfl,M5,WN,PZ.trans ml.out.symm,P0.trans hg1,(WM.trans (uM.up M1.fp)).trans WO⟩
  ·have d2:(m.bs==m.f)=false:=beq_false_of_ne hs
   have bN:=aA (qN.out (by rw[HR.out,if_neg (fun hh=>hs hh.2)]))
   clear h1 C
   go_enter func193,ntmps193
   refine wk ?_
   exact bodyPost_end (results_none rfl _ _ _) rfl ⟨rfl,bN.out⟩
 ·have d1:decide (1≤m.br)=false:=eE hr1
  have bN:=aA (qN.out (by rw[HR.out,if_neg (fun hh=>hr1 hh.1)]))
  clear h1 C
  go_enter func193,ntmps193
  refine wk ?_
  exact bodyPost_end (results_none rfl _ _ _) rfl ⟨rfl,bN.out⟩
theorem CU(w:World)(M:ae)(h:aJ w M)(m:Mv)(hm:m.ms.bL)(hb:dj w m.sl)(gL:∀k∈ak m.A,k∉M.fp)(hl:M.held.length≤600000000) :
  Calls prog 191 #[M.ptr,m.val] w fun e w'=>e=.returned (.tuple #[])∧dZ w w' M (M.pl.dI m.ms):=by
 obtain⟨W,H,eW,hH,hB,U0⟩:=cb w 32 #[.int .i64 m.k,.int .i64 m.f,.int .i64 m.t,.int .i64 m.s,.int .i64 m.br,.int .i64 m.bs,.int .i64 m.hr,.int .i64 m.hs,.bool m.so,.slice m.A m.n m.c]
 have h1:=h.aN U0
 have cv:=U0.gives (b':=[]) (by simp)
 have lP:0≤m.s∧m.s≤4095:=hm.slot
 have tY:0≤m.f∧m.f≤6:=hm.aR
 have gU:H∉M.fp:=fun hk=>by have:=h.lt H hk;omega
 have iq:(⟨m.br,m.bs⟩:Bl).may 7=true:=AN m hm
 obtain⟨R,hR⟩:=bk (M.pl.dI m.ms)
 have HR:=aA (show R=if m.so=true∧m.f=bK m.s M.n∧(⟨m.br,m.bs⟩:Bl)=⟨0,m.f⟩then Site.skip (match M.pl.accept m.s ⟨m.br,m.bs⟩ m.b with|some t=>t.send m.f (Site.bB m.s ⟨m.br,m.bs⟩)|none=>M.pl) m.s else M.pl from hR.symm)
 rw[hR]
 clear hR
 have a1:∀N,(W.drewN N).cell? ⟨H,1,none⟩=some (.int .i64 m.f):=fun N=>hB.cell 1
 have a3:∀N,(W.drewN N).cell? ⟨H,3,none⟩=some (.int .i64 m.s):=fun N=>hB.cell 3
 have a4:∀N,(W.drewN N).cell? ⟨H,4,none⟩=some (.int .i64 m.br):=fun N=>hB.cell 4
 have a5:∀N,(W.drewN N).cell? ⟨H,5,none⟩=some (.int .i64 m.bs):=fun N=>hB.cell 5
 have a8:∀N,(W.drewN N).cell? ⟨H,8,none⟩=some (.bool m.so):=fun N=>hB.cell 8
 have g1:∀N,(W.drewN N).cell? ⟨M.gs,1,none⟩=some (.int .i64 (M.n:Int)):=fun N=>h1.aO.cell 1
 have CO:=fun N=>qa (W.drewN N) m.s M.n
 obtain⟨o,ho⟩:=bk (bK m.s M.n)
 rw[ho]at HR
 simp only[ho]at CO
 clear ho
 have E1:=J8 m.br m.bs 0 m.f
 obtain⟨E,hE⟩:=bk ((!((m.br==0)&&(m.bs==m.f))))
 simp only[hE]at E1
 have HE:=aA hE
 clear hE
 have qN:=aA (show ∀N,R=M.pl→dZ w (W.drewN N) M R from fun N e=>⟨M,h1.aN ((ab.refl [] W).drewN N),e.symm,rfl,(cv.drewN N).up M.fp⟩)
 rw[ae.ptr,Mv.bJ]
 obtain⟨so,vI⟩:=bk m.so
 simp only[vI]at a8
 rw[vI]at HR hB eW ⊢
 clear vI
 go_enter func191,ntmps191
 repeat' go_step
 cases so with
 |false=>
  have bN:=aA (fun N=>qN.out N (by rw[HR.out,if_neg (fun hh=>by cases hh.1)]))
  clear h1
  go_quiet (with_reducible exact kf (CO _))
  refine wk ?_
  exact bodyPost_ret (v:=.tuple #[]) (results_none rfl _ _ _) rfl ⟨rfl,bN.out _⟩
 |true=>
  by_cases hf:m.f=o
  ·have d1:(m.f != o)=false:=by rw[hf];exact bne_self_eq_false _
   cases E with
   |true=>
    have bN:=aA (fun N=>qN.out N (by
     rw[HR.out,if_neg (fun hh=>by
      have:=HE.out
      have h2:=hh.2.2
      injection h2 with h3 h4
      rw[h3,h4]at this
      simp at this)]))
    clear h1 hf
    go_quiet (with_reducible exact kf (CO _))
    refine wk ?_
    exact bodyPost_ret (v:=.tuple #[]) (results_none rfl _ _ _) rfl ⟨rfl,bN.out _⟩
   |false=>
    have nI:(⟨m.br,m.bs⟩:Bl)=⟨0,m.f⟩:=by
     have:=HE.out
     simp at this
     rw[this.1,this.2]
    have ot:=aA (show R=Site.skip (match M.pl.accept m.s ⟨m.br,m.bs⟩ m.b with|some t=>t.send m.f (Site.bB m.s ⟨m.br,m.bs⟩)|none=>M.pl) m.s by rw[HR.out,if_pos ⟨rfl,hf,nI⟩])
    clear nI hf
    go_quiet (with_reducible exact kf (CO _))
    obtain⟨X,hX⟩:=bk (W.drewN nq)
    have UX:ab [] [] W X:=by rw[←hX];exact(ab.refl [] W).drewN _
    rw[hX]
    clear hX a1 a3 a4 a5 a8 g1 CO E1 qN
    have h2:=h1.aN UX
    have Sg:=hB.aq UX (by simp)
    have C:=nQ X M h2 m.s (by omega) ⟨m.br,m.bs⟩ iq m.A m.n m.c m.b ((hb.aN U0).aN UX).rd gL hm.val
    simp only[ae.ptr,Bl.val]at C
    obtain⟨⟨a0,a1,a2,a3,a4,a5,a6,a7,a8,a9⟩,-⟩:=Sg.cJ
    cases cM:M.pl.accept m.s ⟨m.br,m.bs⟩ m.b with
    |none=>
     rw[cM]at C
     have eQ:=ot.out
     rw[cM]at eQ
     have ml:=aA (show R=M.pl.skip m.s from eQ)
     clear eQ cM h1 h2
     repeat' go_step
     refine C.mono ?_;rintro e w1 ⟨rfl,M1,H1,ee,hg1,-,u1⟩
     replace ee:M1.pl=M.pl:=ee
     have K1:=Sg.aq u1 gU
     clear a0 a1 a2 a3 a4 a5 a6 a7 a8 a9 C
     obtain⟨⟨a0,a1,a2,a3,a4,a5,a6,a7,a8,a9⟩,-⟩:=K1.cJ
     have l1:M1.held.length≤700000000:=by have:=congrArg (fun z:Site=>z.held.length) ee;simp only[ae.cE]at this;omega
     have C2:=uc w1 M1 H1 m.s l1
     rw[ee]at C2
     simp only[ae.ptr,hg1]at C2
     repeat' first|go_step|simp only[];go_at_K
     refine C2.mono ?_;rintro e w2 ⟨rfl,M2,H2,gS,hg2,-,u2⟩
     refine wk ?_
     exact bodyPost_end (results_none rfl _ _ _) rfl ⟨rfl,M2,H2,gS.trans ml.out.symm,hg2.trans hg1,(((cv.trans UX).up M.fp).trans u1).trans u2⟩
    |some t=>
     rw[cM]at C
     have eQ:=ot.out
     rw[cM]at eQ
     have ml:=aA (show R=(t.send m.f (Site.bB m.s ⟨m.br,m.bs⟩)).skip m.s from eQ)
     obtain⟨tm,tn,th,-⟩:=Site.j6 cM
     clear eQ cM h1 h2
     repeat' go_step
     refine C.mono ?_;rintro e w1 ⟨rfl,M1,H1,ee,hg1,-,u1⟩
     replace ee:M1.pl=t:=ee
     have K1:=Sg.aq u1 gU
     have Rw:=u1.gu gU Sg.lt
     clear a0 a1 a2 a3 a4 a5 a6 a7 a8 a9 C
     obtain⟨⟨a0,a1,a2,a3,a4,a5,a6,a7,a8,a9⟩,-⟩:=K1.cJ
     have l1:M1.held.length=M.held.length:=by have:=congrArg (fun z:Site=>z.held.length) ee;simp only[ae.cE,th]at this;exact this
     have C2:=jC w1 M1 H1 m.f ⟨6,0,0,m.s,m.br,m.bs,0,0,false,none,0,0,[]⟩ (Site.mO (x:=m.s) (b:=⟨m.br,m.bs⟩) (by omega) iq) tY (bE.nil _ _) (by omega)
     rw[ee]at C2
     simp only[ae.ptr,Mv.bJ,hg1]at C2
     repeat' first|go_step|simp only[];go_at_K
     refine C2.mono ?_;rintro e w2 ⟨rfl,M2,H2,gS,hg2,-,u2⟩
     have K2:=K1.aq u2 Rw
     clear a0 a1 a2 a3 a4 a5 a6 a7 a8 a9 C2
     obtain⟨⟨a0,a1,a2,a3,a4,a5,a6,a7,a8,a9⟩,-⟩:=K2.cJ
     have l2:M2.held.length≤700000000:=by
      have:=congrArg (fun z:Site=>z.held.length) gS
      rw[←ee]at this
      simp only[ae.cE,Site.send,length_append,length_cons,length_nil]at this
      omega
     have C3:=uc w2 M2 H2 m.s l2
     rw[gS]at C3
     simp only[ae.ptr,hg2,hg1]at C3
     repeat' first|go_step|simp only[];go_at_K
     refine C3.mono ?_;rintro e w3 ⟨rfl,M3,H3,fO,hg3,-,u3⟩
     refine wk ?_
     exact bodyPost_end (results_none rfl _ _ _) rfl ⟨rfl,M3,H3,fO.trans ml.out.symm,hg3.trans (hg2.trans hg1),((((cv.trans UX).up M.fp).trans u1).trans u2).trans u3⟩
  ·have d1:(m.f != o)=true:=bne_iff_ne.2 hf
   have bN:=aA (fun N=>qN.out N (by rw[HR.out,if_neg (fun hh=>hf hh.2.1)]))
   clear h1 hf
   go_quiet (with_reducible exact kf (CO _))
   refine wk ?_
   exact bodyPost_ret (v:=.tuple #[]) (results_none rfl _ _ _) rfl ⟨rfl,bN.out _⟩
