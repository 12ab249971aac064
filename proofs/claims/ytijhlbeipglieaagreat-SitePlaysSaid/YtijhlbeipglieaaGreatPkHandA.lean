/- For SitePlays. -/
import Derived.Test.YtijhlbeipglieaaGreatPkSiteV
set_option linter.all false
set_option maxRecDepth 100000
set_option maxHeartbeats 4000000
namespace Go.Proofs.YtijhlbeipglieaaGreat
open Go.RowKit aA Go.Maps Tryz List
theorem Ef(m:Mv)(hm:m.ms.May):m.ms.ax.may 7=true:=Bl.jb.2 ⟨hm.dz,hm.ed⟩
variable [eU]
theorem KN(w:World)(M:af)(h:ay w M)(m:Mv)(hm:m.ms.May)(hb:dF w m.sl) :
  Calls prog 197 #[M.ptr,m.val] w fun e w'=>e=.returned (.tuple #[])∧Gone w w' M (M.pl.lM m.ms):=by
 obtain⟨W,H,eW,hH,hB,U0⟩:=az w 32 #[.int .i64 m.k,.int .i64 m.f,.int .i64 m.t,.int .i64 m.s,.int .i64 m.br,.int .i64 m.bs,.int .i64 m.hr,.int .i64 m.hs,.bool m.so,.slice m.A m.n m.c]
 have h1:=h.au U0
 have dm:=U0.g0
 have qK:0≤m.s∧m.s≤4095:=hm.slot
 have C:=xk W M h1 m.s (by omega) m.A m.n m.c m.b (hb.au U0).rd hm.val
 obtain⟨R,hR⟩:=ex1 (M.pl.lM m.ms)
 have HR:=hdn hR
 rw[hR]
 clear hR
 obtain⟨⟨a0,a1,a2,a3,a4,a5,a6,a7,a8,a9⟩,-⟩:=hB.c10
 rw[af.ptr,Mv.aH]
 rw[af.ptr]at C
 cases hso:m.so with
 |false=>
  have dN:R=M.pl:=by rw[←HR.out];unfold Site.lM;rw[if_neg (by show ¬ m.so=true;rw[hso];simp)]
  have KEY:=hdn (show Gone w W M R from⟨M,h1,dN.symm,rfl,dm.up M.fp⟩)
  rw[hso]at a8
  simp only[hso]at eW
  clear dN h1 C
  go_enter func197,ntmps197
  refine wk ?_
  exact enR ⟨rfl,KEY.out⟩
 |true=>
  have dN:R=M.pl.bE m.s m.b:=by rw[←HR.out];unfold Site.lM;exact if_pos (show m.ms.some_=true from hso)
  have nP:=hdn dN
  rw[hso]at a8
  simp only[hso]at eW
  clear dN h1
  go_enter func197,ntmps197
  repeat' go_step
  refine C.mono ?_;rintro e w1 ⟨rfl,⟨M1,H1,hp1,hg1,u1⟩,-⟩
  refine wk ?_
  exact enR ⟨rfl,M1,H1,hp1.trans nP.out.symm,hg1,(dm.up M.fp).trans u1⟩
theorem KP(w:World)(M:af)(h:ay w M)(m:Mv)(hm:m.ms.May) :
  Calls prog 192 #[M.ptr,m.val] w fun e w'=>e=.returned (.tuple #[])∧Gone w w' M (M.pl.skipped m.ms):=by
 obtain⟨W,H,eW,hH,hB,U0⟩:=az w 32 #[.int .i64 m.k,.int .i64 m.f,.int .i64 m.t,.int .i64 m.s,.int .i64 m.br,.int .i64 m.bs,.int .i64 m.hr,.int .i64 m.hs,.bool m.so,.slice m.A m.n m.c]
 have h1:=h.au U0
 have dm:=U0.g0
 have qK:0≤m.s∧m.s≤4095:=hm.slot
 obtain⟨R,hR⟩:=ex1 (M.pl.skipped m.ms)
 have HR:=hdn (show R=if m.f=aV m.s M.n then M.pl.bE m.s []else M.pl from hR.symm)
 rw[hR]
 clear hR
 have a1:∀N,(W.drewN N).cell? ⟨H,1,none⟩=some (.int .i64 m.f):=fun N=>hB.cell 1
 have a3:∀N,(W.drewN N).cell? ⟨H,3,none⟩=some (.int .i64 m.s):=fun N=>hB.cell 3
 have g1:∀N,(W.drewN N).cell? ⟨M.gs,1,none⟩=some (.int .i64 (M.n:Int)):=fun N=>h1.blk.cell 1
 have C:=fun N=>sD (W.drewN N) m.s M.n
 obtain⟨o,ho⟩:=ex1 (aV m.s M.n)
 rw[ho]at HR
 simp only[ho]at C
 clear ho
 rw[af.ptr,Mv.aH]
 go_enter func192,ntmps192
 repeat' go_step
 by_cases hf:m.f=o
 ·have d1:(m.f==o)=true:=by rw[hf];exact beq_self_eq_true _
  have nP:=hdn (show R=M.pl.bE m.s [] by rw[HR.out,if_pos hf])
  clear hf
  go_quiet (with_reducible exact iU (C _))
  have u2:=(aa.refl [] W).drewN nq
  have h2:=h1.au u2
  have C2:=xk (W.drewN nq) M h2 m.s (by omega) none 0 0 [] (aD.nil _ _) (by simp)
  rw[af.ptr]at C2
  have b3:=a3 nq
  repeat' go_step
  refine C2.mono ?_;rintro e w1 ⟨rfl,⟨M1,H1,hp1,hg1,u1⟩,-⟩
  refine wk ?_
  exact enR ⟨rfl,M1,H1,hp1.trans nP.out.symm,hg1,((dm.trans u2).up M.fp).trans u1⟩
 ·have d1:(m.f==o)=false:=beq_false_of_ne hf
  have nP:=hdn (show R=M.pl by rw[HR.out,if_neg hf])
  clear hf
  go_quiet (with_reducible exact iU (C _))
  have u2:=(aa.refl [] W).drewN nq
  refine wk ?_
  exact enR ⟨rfl,M,h1.au u2,nP.out.symm,rfl,(dm.trans u2).up M.fp⟩
theorem PS(w:World)(M:af)(h:ay w M)(m:Mv)(hm:m.ms.May)(hb:dF w m.sl)(iy:∀k∈ah m.A,k∉M.fp)(hl:M.held.length≤900000000) :
  Calls prog 195 #[M.ptr,m.val] w fun e w'=>e=.returned (.tuple #[])∧Gone w w' M (M.pl.asked m.ms):=by
 obtain⟨W,H,eW,hH,hB,U0⟩:=az w 32 #[.int .i64 m.k,.int .i64 m.f,.int .i64 m.t,.int .i64 m.s,.int .i64 m.br,.int .i64 m.bs,.int .i64 m.hr,.int .i64 m.hs,.bool m.so,.slice m.A m.n m.c]
 have h1:=h.au U0
 have dm:=U0.g0
 have qK:0≤m.s∧m.s≤4095:=hm.slot
 have xm:0≤m.f∧m.f≤6:=hm.bO
 have ik:H∉M.fp:=fun hk=>by have:=h.lt H hk;omega
 have ib:=Ef m hm
 obtain⟨R,hR⟩:=ex1 (M.pl.asked m.ms)
 have HR:=hdn (show R=if m.so=true∧1≤m.br∧m.bs=m.f then(match M.pl.accept m.s ⟨m.br,m.bs⟩ m.b with|some t=>t.send m.f (Site.dW m.s ⟨m.br,m.bs⟩)|none=>M.pl)else M.pl from hR.symm)
 rw[hR]
 clear hR
 obtain⟨⟨a0,a1,a2,a3,a4,a5,a6,a7,a8,a9⟩,-⟩:=hB.c10
 have C:=pg W M h1 m.s (by omega) ⟨m.br,m.bs⟩ ib m.A m.n m.c m.b (hb.au U0).rd iy hm.val
 have adP:=hdn (show R=M.pl→Gone w W M R from fun e=>⟨M,h1,e.symm,rfl,dm.up M.fp⟩)
 simp only[af.ptr,Bl.val]at C
 rw[af.ptr,Mv.aH]
 obtain⟨so,hse⟩:=ex1 m.so
 rw[hse]at a8 HR hB eW ⊢
 clear hse
 by_cases hso:so=true
 ·subst hso
  have hso:True:=trivial
  by_cases hr1:1≤m.br
  ·have d1:decide (1≤m.br)=true:=dTx hr1
   by_cases hs:m.bs=m.f
   ·have d2:(m.bs==m.f)=true:=by rw[hs];exact beq_self_eq_true _
    have HR2:=HR.out
    rw[if_pos ⟨rfl,hr1,hs⟩]at HR2
    have nP:=hdn HR2
    have HS:=hdn hs
    clear hs HR2 h1
    go_enter func195,ntmps195
    cases abU:M.pl.accept m.s ⟨m.br,m.bs⟩ m.b with
    |none=>
     rw[abU]at C
     have dN:=nP.out
     rw[abU]at dN
     have nQ:=hdn dN
     clear dN abU
     repeat' first|go_guarded|go_step
     refine C.mono ?_;rintro e w1 ⟨rfl,M1,H1,hp1,hg1,-,u1⟩
     refine wk ?_
     exact enR ⟨rfl,M1,H1,hp1.trans nQ.out.symm,hg1,(dm.up M.fp).trans u1⟩
    |some t=>
     rw[abU]at C
     have dN:=nP.out
     rw[abU]at dN
     have nQ:=hdn dN
     obtain⟨tm,tn,th,-⟩:=Site.gD abU
     clear dN abU
     repeat' first|go_guarded|go_step
     refine C.mono ?_;rintro e w1 ⟨rfl,M1,H1,hp1,hg1,-,u1⟩
     replace hp1:M1.pl=t:=hp1
     have K1:=hB.upd u1 ik
     clear a0 a1 a2 a3 a4 a5 a6 a7 a8 a9 C
     obtain⟨⟨a0,a1,a2,a3,a4,a5,a6,a7,a8,a9⟩,-⟩:=K1.c10
     have l1:M1.held.length≤1000000000:=by have:=congrArg (fun z:Site=>z.held.length) hp1;simp only[af.bf,th]at this;omega
     have C2:=jL w1 M1 H1 m.f ⟨6,0,0,m.s,m.br,m.bs,0,0,false,none,0,0,[]⟩ (Site.kz (x:=m.s) (b:=⟨m.br,m.bs⟩) (by omega) ib) xm (aD.nil _ _) l1
     rw[hp1]at C2
     simp only[af.ptr,Mv.aH,hg1]at C2
     repeat' first|go_step|simp only[];go_at_K
     refine C2.mono ?_;rintro e w2 ⟨rfl,M2,H2,hp2,hg2,-,u2⟩
     refine wk ?_
     exact enR ⟨rfl,M2,H2,hp2.trans nQ.out.symm,hg2.trans hg1,((dm.up M.fp).trans u1).trans u2⟩
   ·have d2:(m.bs==m.f)=false:=beq_false_of_ne hs
    have KEY:=hdn (adP.out (by rw[HR.out,if_neg (fun hh=>hs hh.2.2)]))
    clear h1 C
    go_enter func195,ntmps195
    refine wk ?_
    exact enR ⟨rfl,KEY.out⟩
  ·have d1:decide (1≤m.br)=false:=dFx hr1
   have KEY:=hdn (adP.out (by rw[HR.out,if_neg (fun hh=>hr1 hh.2.1)]))
   clear h1 C
   go_enter func195,ntmps195
   refine wk ?_
   exact enR ⟨rfl,KEY.out⟩
 ·have hsf:so=false:=by simpa using hso
  subst hsf
  have KEY:=hdn (adP.out (by rw[HR.out,if_neg (fun hh=>hso hh.1)]))
  clear h1 C
  go_enter func195,ntmps195
  refine wk ?_
  exact enR ⟨rfl,KEY.out⟩
theorem Hz(w:World)(M:af)(h:ay w M)(m:Mv)(hm:m.ms.May)(hl:M.held.length≤900000000)(adn:(M.pl.stat m.s).so=true∨(M.pl.stat m.s).at_=⟨0,0⟩∧(M.pl.stat m.s).b= []) :
  Calls prog 193 #[M.ptr,m.val] w fun e w'=>e=.returned (.tuple #[])∧Gone w w' M (M.pl.jl m.ms):=by
 obtain⟨W,H,eW,hH,hB,U0⟩:=az w 32 #[.int .i64 m.k,.int .i64 m.f,.int .i64 m.t,.int .i64 m.s,.int .i64 m.br,.int .i64 m.bs,.int .i64 m.hr,.int .i64 m.hs,.bool m.so,.slice m.A m.n m.c]
 have h1:=h.au U0
 have dm:=U0.g0
 have qK:0≤m.s∧m.s≤4095:=hm.slot
 have xm:0≤m.f∧m.f≤6:=hm.bO
 have ik:H∉M.fp:=fun hk=>by have:=h.lt H hk;omega
 have hwf:(Lit.int .i64 m.s).wf=true:=jV (by omega) (by omega)
 have ib:(⟨m.br,m.bs⟩:Bl).may 7=true:=Ef m hm
 obtain⟨R,hR⟩:=ex1 (M.pl.jl m.ms)
 have HR:=hdn (show R=if 1≤m.br∧m.bs=m.f then(match M.pl.promise m.s ⟨m.br,m.bs⟩ with|some t=>t.send m.f (t.answer m.s ⟨m.br,m.bs⟩)|none=>M.pl)else M.pl from hR.symm)
 rw[hR]
 clear hR
 obtain⟨⟨a0,a1,a2,a3,a4,a5,a6,a7,a8,a9⟩,-⟩:=hB.c10
 have C:=Aj W M h1 m.s (by omega) ⟨m.br,m.bs⟩ ib
 have adP:=hdn (show R=M.pl→Gone w W M R from fun e=>⟨M,h1,e.symm,rfl,dm.up M.fp⟩)
 simp only[af.ptr,Bl.val]at C
 rw[af.ptr,Mv.aH]
 by_cases hr1:1≤m.br
 ·have d1:decide (1≤m.br)=true:=dTx hr1
  by_cases hs:m.bs=m.f
  ·have d2:(m.bs==m.f)=true:=by rw[hs];exact beq_self_eq_true _
   have HR2:=HR.out
   rw[if_pos ⟨hr1,hs⟩]at HR2
   have nP:=hdn HR2
   clear hs HR2 h1
   go_enter func193,ntmps193
   cases abU:M.pl.promise m.s ⟨m.br,m.bs⟩ with
   |none=>
    rw[abU]at C
    have dN:=nP.out
    rw[abU]at dN
    have nQ:=hdn dN
    clear dN abU
    repeat' first|go_guarded|go_step
    refine C.mono ?_;rintro e w1 ⟨rfl,M1,H1,hp1,hg1,-,u1⟩
    refine wk ?_
    exact enR ⟨rfl,M1,H1,hp1.trans nQ.out.symm,hg1,(dm.up M.fp).trans u1⟩
   |some t=>
    rw[abU]at C
    have dN:=nP.out
    rw[abU]at dN
    have nQ:=hdn dN
    obtain⟨tm,tn,th,-,tst⟩:=Site.pq abU
    clear dN abU
    repeat' first|go_guarded|go_step
    refine C.mono ?_;rintro e w1 ⟨rfl,M1,H1,hp1,hg1,-,u1⟩
    replace hp1:M1.pl=t:=hp1
    have K1:=hB.upd u1 ik
    clear a0 a1 a2 a3 a4 a5 a6 a7 a8 a9 C
    have l1:M1.held.length≤1000000000:=by have:=congrArg (fun z:Site=>z.held.length) hp1;simp only[af.bf,th]at this;omega
    have Cm:(M1.xn m.s ⟨m.br,m.bs⟩).ms.Fit:=by rw[af.zI];exact Site.mX H1.ok (by omega) ib (by rw[hp1,tst];exact adn)
    have uN:=Cn w1.drew M1 H1.drew m.s hwf ⟨m.br,m.bs⟩
    have Ia:=fun(xS:World)(hu:aa [] [] w1.drew xS)=>jL xS M1 (H1.drew.au hu) m.f (M1.xn m.s ⟨m.br,m.bs⟩) Cm xm (((H1.drew.au hu).tJ m.s).1.rd) l1
    have PT:=((dm.up M.fp).trans u1).drew
    rw[af.zI]at Ia
    obtain⟨av,qd⟩:∃z,(M1.xn m.s ⟨m.br,m.bs⟩).val=z:=⟨_,rfl⟩
    rw[qd]at uN
    simp only[qd,af.ptr,hg1,hp1]at Ia
    simp only[af.ptr,hg1,Bl.val]at uN
    obtain⟨⟨a0,a1,a2,a3,a4,a5,a6,a7,a8,a9⟩,-⟩:=K1.drew.c10
    clear qd Cm H1 K1 u1
    refine wk ?_
    go_region_with (first
     |(go_at_call 167;(with_reducible refine uN.mono ?_);rintro e xS ⟨rfl,lZ⟩;have b1:=lZ.cell a1 (by simp);have b3:=lZ.cell a3 (by simp);have b4:=lZ.cell a4 (by simp);have b5:=lZ.cell a5 (by simp))
     |(go_at_call 64;(with_reducible refine(Ia xS lZ).mono ?_);rintro e w13 ⟨rfl,M5,YU,SX,SY,-,rM⟩))
    all_goals (refine wk ?_)
    all_goals exact enR ⟨rfl,M5,YU,SX.trans nQ.out.symm,SY.trans hg1,(PT.trans (lZ.up M1.fp)).trans rM⟩
  ·have d2:(m.bs==m.f)=false:=beq_false_of_ne hs
   have KEY:=hdn (adP.out (by rw[HR.out,if_neg (fun hh=>hs hh.2)]))
   clear h1 C
   go_enter func193,ntmps193
   refine wk ?_
   exact enR ⟨rfl,KEY.out⟩
 ·have d1:decide (1≤m.br)=false:=dFx hr1
  have KEY:=hdn (adP.out (by rw[HR.out,if_neg (fun hh=>hr1 hh.1)]))
  clear h1 C
  go_enter func193,ntmps193
  refine wk ?_
  exact enR ⟨rfl,KEY.out⟩
theorem Gv(w:World)(M:af)(h:ay w M)(m:Mv)(hm:m.ms.May)(hb:dF w m.sl)(iy:∀k∈ah m.A,k∉M.fp)(hl:M.held.length≤600000000) :
  Calls prog 191 #[M.ptr,m.val] w fun e w'=>e=.returned (.tuple #[])∧Gone w w' M (M.pl.iK m.ms):=by
 obtain⟨W,H,eW,hH,hB,U0⟩:=az w 32 #[.int .i64 m.k,.int .i64 m.f,.int .i64 m.t,.int .i64 m.s,.int .i64 m.br,.int .i64 m.bs,.int .i64 m.hr,.int .i64 m.hs,.bool m.so,.slice m.A m.n m.c]
 have h1:=h.au U0
 have dm:=U0.g0
 have qK:0≤m.s∧m.s≤4095:=hm.slot
 have xm:0≤m.f∧m.f≤6:=hm.bO
 have ik:H∉M.fp:=fun hk=>by have:=h.lt H hk;omega
 have ib:(⟨m.br,m.bs⟩:Bl).may 7=true:=Ef m hm
 obtain⟨R,hR⟩:=ex1 (M.pl.iK m.ms)
 have HR:=hdn (show R=if m.so=true∧m.f=aV m.s M.n∧(⟨m.br,m.bs⟩:Bl)=⟨0,m.f⟩then Site.skip (match M.pl.accept m.s ⟨m.br,m.bs⟩ m.b with|some t=>t.send m.f (Site.dW m.s ⟨m.br,m.bs⟩)|none=>M.pl) m.s else M.pl from hR.symm)
 rw[hR]
 clear hR
 have a1:∀N,(W.drewN N).cell? ⟨H,1,none⟩=some (.int .i64 m.f):=fun N=>hB.cell 1
 have a3:∀N,(W.drewN N).cell? ⟨H,3,none⟩=some (.int .i64 m.s):=fun N=>hB.cell 3
 have a4:∀N,(W.drewN N).cell? ⟨H,4,none⟩=some (.int .i64 m.br):=fun N=>hB.cell 4
 have a5:∀N,(W.drewN N).cell? ⟨H,5,none⟩=some (.int .i64 m.bs):=fun N=>hB.cell 5
 have a8:∀N,(W.drewN N).cell? ⟨H,8,none⟩=some (.bool m.so):=fun N=>hB.cell 8
 have g1:∀N,(W.drewN N).cell? ⟨M.gs,1,none⟩=some (.int .i64 (M.n:Int)):=fun N=>h1.blk.cell 1
 have CO:=fun N=>sD (W.drewN N) m.s M.n
 obtain⟨o,ho⟩:=ex1 (aV m.s M.n)
 rw[ho]at HR
 simp only[ho]at CO
 clear ho
 have E1:=Co m.br m.bs 0 m.f
 obtain⟨E,hE⟩:=ex1 ((!((m.br==0)&&(m.bs==m.f))))
 simp only[hE]at E1
 have HE:=hdn hE
 clear hE
 have adP:=hdn (show ∀N,R=M.pl→Gone w (W.drewN N) M R from fun N e=>⟨M,h1.au ((aa.refl [] W).drewN N),e.symm,rfl,(dm.drewN N).up M.fp⟩)
 rw[af.ptr,Mv.aH]
 obtain⟨so,hse⟩:=ex1 m.so
 simp only[hse]at a8
 rw[hse]at HR hB eW ⊢
 clear hse
 go_enter func191,ntmps191
 repeat' go_step
 cases so with
 |false=>
  have KEY:=hdn (fun N=>adP.out N (by rw[HR.out,if_neg (fun hh=>by cases hh.1)]))
  clear h1
  go_quiet (with_reducible exact iU (CO _))
  refine wk ?_
  exact enT ⟨rfl,KEY.out _⟩
 |true=>
  by_cases hf:m.f=o
  ·have d1:(m.f != o)=false:=by rw[hf];exact bne_self_eq_false _
   cases E with
   |true=>
    have KEY:=hdn (fun N=>adP.out N (by
     rw[HR.out,if_neg (fun hh=>by
      have:=HE.out
      have h2:=hh.2.2
      injection h2 with h3 h4
      rw[h3,h4]at this
      simp at this)]))
    clear h1 hf
    go_quiet (with_reducible exact iU (CO _))
    refine wk ?_
    exact enT ⟨rfl,KEY.out _⟩
   |false=>
    have YV:(⟨m.br,m.bs⟩:Bl)=⟨0,m.f⟩:=by
     have:=HE.out
     simp at this
     rw[this.1,this.2]
    have nP:=hdn (show R=Site.skip (match M.pl.accept m.s ⟨m.br,m.bs⟩ m.b with|some t=>t.send m.f (Site.dW m.s ⟨m.br,m.bs⟩)|none=>M.pl) m.s by rw[HR.out,if_pos ⟨rfl,hf,YV⟩])
    clear YV hf
    go_quiet (with_reducible exact iU (CO _))
    obtain⟨X,hX⟩:=ex1 (W.drewN nq)
    have UX:aa [] [] W X:=by rw[←hX];exact(aa.refl [] W).drewN _
    rw[hX]
    clear hX a1 a3 a4 a5 a8 g1 CO E1 adP
    have h2:=h1.au UX
    have Ib:=hB.upd UX
    have C:=pg X M h2 m.s (by omega) ⟨m.br,m.bs⟩ ib m.A m.n m.c m.b ((hb.au U0).au UX).rd iy hm.val
    simp only[af.ptr,Bl.val]at C
    obtain⟨⟨a0,a1,a2,a3,a4,a5,a6,a7,a8,a9⟩,-⟩:=Ib.c10
    cases abU:M.pl.accept m.s ⟨m.br,m.bs⟩ m.b with
    |none=>
     rw[abU]at C
     have dN:=nP.out
     rw[abU]at dN
     have nQ:=hdn (show R=M.pl.skip m.s from dN)
     clear dN abU h1 h2
     repeat' go_step
     refine C.mono ?_;rintro e w1 ⟨rfl,M1,H1,hp1,hg1,-,u1⟩
     replace hp1:M1.pl=M.pl:=hp1
     have K1:=Ib.upd u1 ik
     clear a0 a1 a2 a3 a4 a5 a6 a7 a8 a9 C
     obtain⟨⟨a0,a1,a2,a3,a4,a5,a6,a7,a8,a9⟩,-⟩:=K1.c10
     have l1:M1.held.length≤700000000:=by have:=congrArg (fun z:Site=>z.held.length) hp1;simp only[af.bf]at this;omega
     have C2:=xq w1 M1 H1 m.s l1
     rw[hp1]at C2
     simp only[af.ptr,hg1]at C2
     repeat' first|go_step|simp only[];go_at_K
     refine C2.mono ?_;rintro e w2 ⟨rfl,M2,H2,hp2,hg2,-,u2⟩
     refine wk ?_
     exact enR ⟨rfl,M2,H2,hp2.trans nQ.out.symm,hg2.trans hg1,(((dm.trans UX).up M.fp).trans u1).trans u2⟩
    |some t=>
     rw[abU]at C
     have dN:=nP.out
     rw[abU]at dN
     have nQ:=hdn (show R=(t.send m.f (Site.dW m.s ⟨m.br,m.bs⟩)).skip m.s from dN)
     obtain⟨tm,tn,th,-⟩:=Site.gD abU
     clear dN abU h1 h2
     repeat' go_step
     refine C.mono ?_;rintro e w1 ⟨rfl,M1,H1,hp1,hg1,-,u1⟩
     replace hp1:M1.pl=t:=hp1
     have K1:=Ib.upd u1 ik
     have hH1:=u1.eQ ik Ib.lt
     clear a0 a1 a2 a3 a4 a5 a6 a7 a8 a9 C
     obtain⟨⟨a0,a1,a2,a3,a4,a5,a6,a7,a8,a9⟩,-⟩:=K1.c10
     have l1:M1.held.length=M.held.length:=by have:=congrArg (fun z:Site=>z.held.length) hp1;simp only[af.bf,th]at this;exact this
     have C2:=jL w1 M1 H1 m.f ⟨6,0,0,m.s,m.br,m.bs,0,0,false,none,0,0,[]⟩ (Site.kz (x:=m.s) (b:=⟨m.br,m.bs⟩) (by omega) ib) xm (aD.nil _ _) (by omega)
     rw[hp1]at C2
     simp only[af.ptr,Mv.aH,hg1]at C2
     repeat' first|go_step|simp only[];go_at_K
     refine C2.mono ?_;rintro e w2 ⟨rfl,M2,H2,hp2,hg2,-,u2⟩
     have K2:=K1.upd u2 hH1
     clear a0 a1 a2 a3 a4 a5 a6 a7 a8 a9 C2
     obtain⟨⟨a0,a1,a2,a3,a4,a5,a6,a7,a8,a9⟩,-⟩:=K2.c10
     have l2:M2.held.length≤700000000:=by
      have:=congrArg (fun z:Site=>z.held.length) hp2
      rw[←hp1]at this
      simp only[af.bf,Site.send,length_append,length_cons,length_nil]at this
      omega
     have C3:=xq w2 M2 H2 m.s l2
     rw[hp2]at C3
     simp only[af.ptr,hg2,hg1]at C3
     repeat' first|go_step|simp only[];go_at_K
     refine C3.mono ?_;rintro e w3 ⟨rfl,M3,H3,hp3,hg3,-,u3⟩
     refine wk ?_
     exact enR ⟨rfl,M3,H3,hp3.trans nQ.out.symm,hg3.trans (hg2.trans hg1),((((dm.trans UX).up M.fp).trans u1).trans u2).trans u3⟩
  ·have d1:(m.f != o)=true:=bne_iff_ne.2 hf
   have KEY:=hdn (fun N=>adP.out N (by rw[HR.out,if_neg (fun hh=>hf hh.2.1)]))
   clear h1 hf
   go_quiet (with_reducible exact iU (CO _))
   refine wk ?_
   exact enT ⟨rfl,KEY.out _⟩
