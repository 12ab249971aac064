/- For SitePlays. -/
import Derived.Test.YtijhlbeipglieaaGreatPkRefG
set_option linter.all false
set_option maxRecDepth 100000
set_option maxHeartbeats 16000000
namespace Go.Proofs.YtijhlbeipglieaaGreat
open Go.RowKit aA Go.Maps Go.Proofs.Tryz List
theorem JK(w:World)(r:ai)(m:Mv):Calls prog 211 #[r.val,m.val] w fun e w'=>e=.returned (.bool (aV m.s (r.n:Int)==m.f))∧aa [] [] w w':=by
 obtain⟨W,H,eW,hH,hB,U0⟩:=az w 63 r.cells.toArray
 obtain⟨W1,J,nK,hJ,fT,U1⟩:=az W 32 #[.int .i64 m.k,.int .i64 m.f,.int .i64 m.t,.int .i64 m.s,.int .i64 m.br,.int .i64 m.bs,.int .i64 m.hr,.int .i64 m.hs,.bool m.so,.slice m.A m.n m.c]
 have hB1:=hB.upd U1
 have U01:aa [] [] w W1:=U0.g0.trans U1.g0
 have d1:∀p:GU W1,p.w.cell? ⟨J,1,none⟩=some (.int .i64 m.f):=fun p=>p.u.cell (fT.cell 1) (by simp)
 have d3:∀p:GU W1,p.w.cell? ⟨J,3,none⟩=some (.int .i64 m.s):=fun p=>p.u.cell (fT.cell 3) (by simp)
 have c1:∀p:GU W1,p.w.cell? ⟨H,1,none⟩=some (.int .i64 (r.n:Int)):=fun p=>p.u.cell (hB1.cell 1) (by simp)
 have CW:∀p:GU W1,Calls prog 46 #[.int .i64 m.s,.int .i64 (r.n:Int)] p.w fun e w'=>e=.returned (.int .i64 (aV m.s (r.n:Int)))∧∃q:GU W1,w'=q.w:=
  fun p=>p.call ((sK _ m.s (r.n:Int)).mono fun _ _ ⟨h1,h2⟩=>⟨h1,h2▸aa.refl _ _⟩)
 generalize aV m.s (r.n:Int)=ow at *
 rw[ai.arr,Mv.aH]
 go_enter func211,ntmps211
 repeat' go_step
 refine dx (by kernel_rfl) (by kernel_rfl) ?_
 repeat (go_big_quiet_step (exact CW _))
 refine wpQuiet_nil ?_
 rintro _ ⟨p,rfl⟩
 refine wk ?_
 exact bodyPost_ret (v:=.bool (ow==m.f)) (by simp[results,results211]) rfl ⟨rfl,U01.trans p.u⟩
theorem JL(X:List Nat)(w:World)(r:ai)(s:Site)(h:Ref X w r s)(hX:∀k∈X,k<w.heap.size)(m:Mv)(hm:m.ms.May)(hb:dU X w m.A m.n m.b)(hl:s.held.length≤500000000)(hv:∀x v,s.dec x=some v→v.length≤2048)(pE:∀p∈s.rs,p.2.vt.length≤900000000)(hpr:∀p∈s.rs,p.2.pr.length≤900000000)(adn:(s.stat m.s).so=true∨(s.stat m.s).at_=⟨0,0⟩∧(s.stat m.s).b= []) :
  Calls prog 143 #[r.val,m.val] w fun e w'=>∃v,e=.returned v∧Came X w w' v (s.take m.ms):=by
 obtain⟨ii,hii,abx,W,H,eW,hH,hB,U0,W1,J,nK,hJ,fT,U1,W2,G,fu,hG,hBG,U2,hB2,hJ2,hs1,uh,uU,dY,aK,hs0,hs2,hY,hHw,aR,nY,gV,h2,hX2,qG⟩:=Bt h hX 32 #[.int .i64 m.k,.int .i64 m.f,.int .i64 m.t,.int .i64 m.s,.int .i64 m.br,.int .i64 m.bs,.int .i64 m.hr,.int .i64 m.hs,.bool m.so,.slice m.A m.n m.c] 63 cz
 have hok:=h.aJ.ok
 have zm:0≤m.f∧m.f≤6:=hm.bO
 have hms:0≤m.s∧m.s≤4095:=hm.slot
 have hmk:1≤m.k∧m.k≤8:=hm.kind
 have hmb:(⟨m.br,m.bs⟩:Bl).may 7=true:=Bl.jb.2 ⟨hm.dz,hm.ed⟩
 have hb2:=(hb.more hY).grow aK
 have CD:=mZ W2 r h2.mem m.s
 have jA:=h2.got m.s
 have aei:=fun y (hy:dX r.L m.s=some y)=>h2.get hy
 obtain⟨g,hg⟩:=ex1 (dX r.L m.s)
 rw[hg]at CD jA
 simp only[hg]at aei
 obtain⟨og,hog⟩:=ex1 (pI g)
 rw[hog]at CD
 have HOG:=hdn hog
 obtain⟨gs,hgs⟩:=ex1 g.isSome
 rw[hgs]at CD
 have HGS:=hdn hgs
 rw[hgs]at jA
 have aaL:=hdn jA
 obtain⟨D,hD⟩:=ex1 ((gs&&(m.k==1||m.k==3||m.k==5)))
 have HD:=hdn hD
 obtain⟨F,hF⟩:=ex1 (s.take m.ms)
 have HF:=hdn hF
 rw[hF]
 clear hD hF hg hog hgs jA
 obtain⟨⟨j0,j1,j2,j3,j4,j5,j6,j7,j8,j9⟩,-⟩:=hJ2.c10
 rw[ai.arr]at CD
 rw[ai.arr,Mv.aH]
 go_enter func143,ntmps143
 repeat' (fail_if_success with_reducible refine ek (t:=63) rfl ?_);go_step
 refine bF hii hB2 abx ?_
 repeat' go_step
 refine CD.mono ?_;rintro e w3 ⟨rfl,u3⟩
 clear CD j0 j1 j2 j3 j4 j5 j6 j7 j8 j9
 have hB3:=hB2.upd u3
 have hG3:=hBG.upd u3
 have hJ3:=hJ2.upd u3
 have h3:=h2.grow u3
 have hb3:=hb2.grow u3
 have yA:∀k∈[H,G]++X,k<w3.heap.size:=fun k hk=>by have h1:=hX2 k hk;have h2:=u3.size;omega
 have U3:=aK.trans u3
 have j0:w3.cell? ⟨J,0,none⟩=some (.int .i64 m.k):=hJ3.cell 0
 have j1:w3.cell? ⟨J,1,none⟩=some (.int .i64 m.f):=hJ3.cell 1
 have j4:w3.cell? ⟨J,4,none⟩=some (.int .i64 m.br):=hJ3.cell 4
 have j5:w3.cell? ⟨J,5,none⟩=some (.int .i64 m.bs):=hJ3.cell 5
 (simp only[];go_at_K)
 iterate 21 (first|go_values|go_skip|go_guarded|go_step)
 go_cut [6,33]from 18 (fun s6 Dw wc=>s6=.bool gs∧Dw=.bool D∧wc=w3)
 case first=>
  cases gs with
  |false=>
   have dO:D=false:=HD.out.symm
   subst dO
   refine wk ?_
   go_meet
   exact⟨rfl,rfl,rfl⟩
  |true=>
   have dO:(m.k==1||m.k==3||m.k==5)=D:=HD.out
   rcases(show m.k=1∨m.k=3∨m.k=5∨(m.k≠1∧m.k≠3∧m.k≠5) by omega)with hk|hk|hk|⟨n1,n3,n5⟩
   ·have b1:(m.k==1)=true:=by rw[hk];rfl
    clear hk
    refine wk ?_
    go_meet
    exact⟨rfl,by rw[←dO,b1];rfl,rfl⟩
   ·have b1:(m.k==1)=false:=by rw[hk];rfl
    have b3:(m.k==3)=true:=by rw[hk];rfl
    clear hk
    refine wk ?_
    go_meet
    exact⟨rfl,by rw[←dO,b1,b3];rfl,rfl⟩
   ·have b1:(m.k==1)=false:=by rw[hk];rfl
    have b3:(m.k==3)=false:=by rw[hk];rfl
    have b5:(m.k==5)=true:=by rw[hk];rfl
    clear hk
    refine wk ?_
    go_meet
    exact⟨rfl,by rw[←dO,b1,b3,b5];rfl,rfl⟩
   ·have b1:(m.k==1)=false:=by simpa using n1
    have b3:(m.k==3)=false:=by simpa using n3
    have b5:(m.k==5)=false:=by simpa using n5
    clear n1 n3 n5
    refine wk ?_
    go_meet
    exact⟨rfl,by rw[←dO,b1,b3,b5];rfl,rfl⟩
 case rest=>
 obtain⟨rfl,rfl,rfl⟩:=hcut
 have kR:=h3
 have hHc:=hB3
 have eO:=hG3
 have gN:=hJ3
 have hbc:=hb3
 have gM:=yA
 have Uc:=U3
 have U33:=u3
 clear h3 hB3 hG3 hJ3 hb3 yA U3 hB2 hBG hJ2 h2 hb2 hX2 aK
 cases D with
 |true=>
  have hgt:gs=true∧(m.k=1∨m.k=3∨m.k=5):=by have:=HD.out;simp at this;exact⟨this.1,by omega⟩
  obtain⟨y,hgy⟩:∃y,g=some y:=by
   have:=HGS.out
   rw[hgt.1]at this
   exact Option.isSome_iff_exists.1 this
  obtain⟨vo,Jv⟩:=aei y hgy
  have hyl:y.b.length≤2048:=hv _ _ Jv
  have JM:=hdn (show F=s.send m.f (Site.tells m.s y.b) by
   rw[←HF.out]
   refine(if_pos (show m.ms.kind=1∨m.ms.kind=3∨m.ms.kind=5 from hgt.2)).trans ?_
   rw[show s.dec m.ms.slot=some y.b from Jv]
   rfl)
  have ae3:og=.slice y.A y.n y.c:=by rw[←HOG.out,hgy];rfl
  subst ae3
  have vo:=vo.grow U33
  obtain⟨mL,vw⟩:∃mL:Mv,(⟨7,0,0,m.s,0,0,0,0,true,y.A,y.n,y.c,y.b⟩:Mv)=mL:=⟨_,rfl⟩
  have vz:mL.ms=Site.tells m.s y.b:=by rw[←vw];rfl
  have bC:=hdn (show F=s.send m.f mL.ms by rw[JM.out,vz])
  have MX:mL.ms.Fit:=by rw[vz];exact Site.kD (by omega) hyl
  have pU:mL.A=y.A∧mL.n=y.n∧mL.b=y.b:=by rw[←vw];exact⟨rfl,rfl,rfl⟩
  have CL:∀w',Calls prog 210 #[.int .i64 m.s,.slice y.A y.n y.c] w' fun e w''=>e=.returned mL.val∧aa [] [] w' w'':=fun w'=>by
   have:=uk w' m.s y
   rw[vw]at this
   exact this
  have pR:J∉[G]:=by simpa using uU
  have LT:∀w',aa [G] [G] wc w'→ak w' H 63 r.cells.toArray:=fun w' u=>hHc.upd u nY
  have q1:∀w',aa [G] [G] wc w'→w'.cell? ⟨J,1,none⟩=some (.int .i64 m.f):=fun w' u=>(gN.upd u pR).cell 1
  have q3:∀w',aa [G] [G] wc w'→w'.cell? ⟨J,3,none⟩=some (.int .i64 m.s):=fun w' u=>(gN.upd u pR).cell 3
  clear vw vz hgt hgy Jv aei JM j0 j1 j4 j5
  repeat' go_step
  refine wp_region_held_drew (S:=fun w'=>aa [G] [G] wc w') (by kernel_rfl) (aa.refl [G] wc).drew fun _=>?_
  refine mi 0 hii (r).cells abx LT ?_
  refine aF 1 ?_
  refine aF 2 ?_
  refine aF 3 ?_
  refine aF 4 ?_
  refine aF 5 ?_
  refine aW 6 (fun K hK=>?_)
  go_simp
  refine(CL _).mono ?_;rintro e wa ⟨rfl,ua⟩
  simp only[]
  have UA:aa [G] [G] wc wa:=(‹aa [G] [G] wc _›).trans (ua.up _)
  refine aP hK (UA) fun _=>?_
  clear hK K
  refine aW 7 (fun K hK=>?_)
  have ky:=lU ([H,G]++X) wa r s (kR.upd UA) (fun k hk=>by have h1:=gM k hk;have h2:=UA.size;omega) (by omega) m.f zm mL (by rw[pU.1,pU.2.1,pU.2.2];exact vo.upd UA) MX
  rw[ai.arr]at ky
  go_simp
  refine ky.mono ?_;rintro e wd ⟨v,rfl,rd,rfl,nd,ud⟩
  simp only[]
  rw[ai.arr]
  have UD:aa [G] [G] wc wd:=UA.trans (ud.up _)
  have vg:ak wd G 63 cz:=(eO.upd ((aa.refl [] wc).drew.trans ua) (by simp)).upd ud
  refine aP hK (UD) fun _=>?_
  clear hK K
  refine aW 8 (fun K hK=>?_)
  refine mf rd.cells hii abx vg ?_
  intro Wn hGn un
  have UN:aa [G] [G] wc Wn:=UD.trans un
  refine aP hK (UN) fun _=>?_
  clear hK K
  refine dnH ?_ _
  refine wk ?_
  exact fG results143 hii hGn abx ⟨_,rfl,rd,rfl,by rw[bC.out];exact(nd.upd un).less,Uc.aB aR UN⟩
 |false=>
  have F8:=hdn (show F=s.does m.ms by
   rw[←HF.out]
   have h1:=HD.out
   have h2:=aaL.out
   unfold Site.take
   by_cases hk:m.k=1∨m.k=3∨m.k=5
   ·have hg0:gs=false:=by
     cases gs with
     |false=>rfl
     |true=>rcases hk with hk|hk|hk<;>(rw[hk]at h1;cases h1)
    rw[hg0]at h2
    have h3:s.dec m.ms.slot=none:=by
     cases hq:s.dec m.s with
     |none=>exact hq
     |some v=>rw[hq]at h2;cases h2
    refine(if_pos (show m.ms.kind=1∨m.ms.kind=3∨m.ms.kind=5 from hk)).trans ?_
    rw[h3]
   ·exact if_neg hk)
  obtain⟨D7,hD7⟩:=ex1 ((decide (1≤m.br)&&(m.bs==m.f)))
  have HD7:=hdn hD7
  clear hD7
  iterate 6 (first|go_values|go_skip|go_guarded|go_step)
  go_cut [7]from 42 (fun s7 wd=>s7=.bool D7∧wd=wc)
  case first=>
   by_cases h1:1≤m.br
   ·have d1:decide (1≤m.br)=true:=dTx h1
    clear h1
    refine wk ?_
    go_meet
    exact⟨by rw[←HD7.out,d1,Bool.true_and],rfl⟩
   ·have d1:decide (1≤m.br)=false:=dFx h1
    clear h1
    refine wk ?_
    go_meet
    exact⟨by rw[←HD7.out,d1,Bool.false_and],rfl⟩
  case rest=>
   obtain⟨rfl,rfl⟩:=hcut
   clear j0 j1 j4 j5 HD aaL HGS HOG aei
   obtain⟨⟨j0,j1,j2,j3,j4,j5,j6,j7,j8,j9⟩,-⟩:=gN.c10
   rcases(show m.k=1∨m.k=2∨m.k=3∨m.k=4∨m.k=5∨m.k=6∨m.k=7∨m.k=8 by omega)with hk|hk|hk|hk|hk|hk|hk|hk
   ·have hF1:=hdn (show F=s.iK m.ms by rw[F8.out];unfold Site.does;rw[show m.ms.kind=1 from hk];rfl)
    have JN:(m.k==1)=true:=by rw[hk];rfl
    clear hk
    obtain⟨so,hso⟩:=ex1 m.so
    rw[hso]at j8
    cases so with
    |false=>
     have bC:=hdn (show F=s by rw[hF1.out];exact if_neg (fun hh=>by have:=hh.1;rw[show m.ms.some_=m.so from rfl,hso]at this;cases this))
     clear hso
     repeat' (fail_if_success with_reducible refine Ag rfl ?_);(fail_if_success with_reducible refine eT (t:=63) rfl ?_);(fail_if_success with_reducible refine ek (t:=63) rfl ?_);first|go_values|go_skip|go_guarded|go_step|go_upon|simp only[];go_at_K
     (first|go_values|go_skip|go_guarded|go_step)
     repeat' (fail_if_success with_reducible refine ek (t:=63) rfl ?_);first|go_guarded|go_step
     refine bF hii hHc abx ?_
     refine bK ?_
     refine bL r.cells hii abx eO ?_
     intro W8 aX u8
     refine wk ?_
     exact fG results143 hii aX abx ⟨_,rfl,r,rfl,by rw[bC.out];exact(kR.upd u8).less,Uc.aB aR u8⟩
    |true=>
     have CO:=JK wc r m
     rw[ai.arr,Mv.aH,hso,kR.aJ.n]at CO
     obtain⟨ow,how⟩:=ex1 ((aV m.s (s.n:Int)==m.f))
     rw[how]at CO
     have qg:=hdn (show F=if ow=true∧(⟨m.br,m.bs⟩:Bl)=⟨0,m.f⟩ then(s.put m.ms).skip m.s else s by
      rw[hF1.out]
      show(if m.so=true∧m.f=aV m.s s.n∧(⟨m.br,m.bs⟩:Bl)=⟨0,m.f⟩ then(s.put m.ms).skip m.s else s)=_
      rw[hso,←how]
      by_cases h1:aV m.s s.n=m.f
      ·simp[h1]
      ·have h2:¬ m.f=aV m.s s.n:=fun e=>h1 e.symm
       simp[h1,h2])
     have PZ:=hdn hso
     clear hso how
     repeat' (fail_if_success with_reducible refine ek (t:=63) rfl ?_);go_step
     refine pJ (by rfl) _ 63 rfl hii (fun _=>rfl) rfl r.cells abx hHc ?_
     repeat' first|go_guarded|go_step
     refine CO.mono ?_;rintro e w7 ⟨rfl,u7⟩
     have hHc:=hHc.upd u7
     have eO:=eO.upd u7
     have gN:=gN.upd u7
     have kR:=kR.grow u7
     have hbc:=hbc.grow u7
     have gM:∀k∈[H,G]++X,k<w7.heap.size:=fun k hk=>by have h1:=gM k hk;have h2:=u7.size;omega
     have Uc:=Uc.trans u7
     clear CO j0 j1 j2 j3 j4 j5 j6 j7 j8 j9 u7
     have j1:w7.cell? ⟨J,1,none⟩=some (.int .i64 m.f):=gN.cell 1
     have j4:w7.cell? ⟨J,4,none⟩=some (.int .i64 m.br):=gN.cell 4
     have j5:w7.cell? ⟨J,5,none⟩=some (.int .i64 m.bs):=gN.cell 5
     have E1:=mR m.br m.bs 0 m.f
     obtain⟨E,hE⟩:=ex1 (((m.br==0)&&(m.bs==m.f)))
     have HE:=hdn (show E=decide ((⟨m.br,m.bs⟩:Bl)=⟨0,m.f⟩) by
      rw[←hE]
      by_cases h1:m.br=0<;>by_cases h2:m.bs=m.f<;>simp[h1,h2])
     rw[hE]at E1
     clear hE
     by_cases hgo:(ow&&E)=true
     ·obtain⟨rfl,rfl⟩:ow=true∧E=true:=by simpa using hgo
      have JM:=hdn (show F=(s.put m.ms).skip m.s by rw[qg.out];exact if_pos ⟨rfl,of_decide_eq_true HE.out.symm⟩)
      obtain⟨p1,hp1⟩:=ex1 (s.put m.ms)
      have bC:=hdn (show F=p1.skip m.s by rw[JM.out,hp1])
      have hpl:p1.held.length≤600000000:=by
       rw[←hp1];unfold Site.put
       cases hq:s.accept m.ms.slot m.ms.ax m.ms.val with
       |none=>show s.held.length≤_;omega
       |some t=>
        obtain⟨-,-,th,-⟩:=Site.gD hq
        show(t.held++[_]).length≤_
        rw[length_append,th,length_singleton];omega
      have CP:∀w',aa [G] [G] w7 w'→Calls prog 212 #[.agg r.cells.toArray,.agg #[.int .i64 m.k,.int .i64 m.f,.int .i64 m.t,.int .i64 m.s,.int .i64 m.br,.int .i64 m.bs,.int .i64 m.hr,.int .i64 m.hs,.bool true,.slice m.A m.n m.c]] w' fun e w''=>∃v,e=.returned v∧Came ([H,G]++X) w' w'' v p1:=fun w' u=>by
       have:=QW ([H,G]++X) w' r s (kR.upd u) (fun k hk=>by have h1:=gM k hk;have h2:=u.size;omega) m hm (hbc.upd u) (by omega)
       rw[ai.arr,Mv.aH,PZ.out,hp1]at this
       exact this
      have LT:∀w',aa [G] [G] w7 w'→ak w' H 63 r.cells.toArray:=fun w' u=>hHc.upd u nY
      have pR:J∉[G]:=by simpa using uU
      have kJ:∀w',aa [G] [G] w7 w'→ak w' J 32 #[.int .i64 m.k,.int .i64 m.f,.int .i64 m.t,.int .i64 m.s,.int .i64 m.br,.int .i64 m.bs,.int .i64 m.hr,.int .i64 m.hs,.bool true,.slice m.A m.n m.c]:=fun w' u=>by have:=gN.upd u pR;rw[PZ.out]at this;exact this
      have q0:=fun w' u=>(kJ w' u).cell 0
      have q1:=fun w' u=>(kJ w' u).cell 1
      have q2:=fun w' u=>(kJ w' u).cell 2
      have q3:=fun w' u=>(kJ w' u).cell 3
      have q4:=fun w' u=>(kJ w' u).cell 4
      have q5:=fun w' u=>(kJ w' u).cell 5
      have q6:=fun w' u=>(kJ w' u).cell 6
      have q7:=fun w' u=>(kJ w' u).cell 7
      have q8:=fun w' u=>(kJ w' u).cell 8
      have q9:=fun w' u=>(kJ w' u).cell 9
      simp only[List.getElem?_toArray,List.getElem?_cons_zero,List.getElem?_cons_succ]at q0 q1 q2 q3 q4 q5 q6 q7 q8 q9
      clear kJ hp1 hgo JM
      repeat' first|go_guarded|go_step|simp only[];go_at_K
      refine wp_region_held_drew (S:=fun w'=>aa [G] [G] w7 w') (by kernel_rfl) (aa.refl [G] w7).drew fun _=>?_
      refine mi 0 hii (r).cells abx LT ?_
      refine aF 1 ?_
      refine aF 3 ?_
      refine aF 4 ?_
      refine aW 2 (fun K hK=>?_)
      go_simp
      refine(CP _ (‹aa [G] [G] w7 _›)).mono ?_;rintro e wa ⟨v,rfl,ra,rfl,na,ua⟩
      simp only[]
      rw[ai.arr]
      have UA:aa [G] [G] w7 wa:=(‹aa [G] [G] w7 _›).trans (ua.up _)
      refine aP hK (UA) fun _=>?_
      clear hK K
      refine aW 5 (fun K hK=>?_)
      have CK:=wM ([H,G]++X) wa ra p1 na (fun k hk=>by have h1:=gM k hk;have h2:=UA.size;omega) m.s (by omega)
      rw[ai.arr]at CK
      go_simp
      refine CK.mono ?_;rintro e wd ⟨v,rfl,rd,rfl,nd,ud⟩
      simp only[]
      rw[ai.arr]
      have UD:aa [G] [G] w7 wd:=UA.trans (ud.up _)
      have vg:ak wd G 63 cz:=(eO.upd ((aa.refl [] w7).drew.trans ua) (by simp)).upd ud
      refine aP hK (UD) fun _=>?_
      clear hK K
      refine aW 6 (fun K hK=>?_)
      refine mf rd.cells hii abx vg ?_
      intro Wn hGn un
      have UN:aa [G] [G] w7 Wn:=UD.trans un
      refine aP hK (UN) fun _=>?_
      clear hK K
      refine dnH ?_ _
      refine wk ?_
      exact fG results143 hii hGn abx ⟨_,rfl,rd,rfl,by rw[bC.out];exact(nd.upd un).less,Uc.aB aR UN⟩
     ·have bC:=hdn (show F=s by rw[qg.out];exact if_neg (fun hh=>hgo (by rw[hh.1,HE.out,dTx hh.2];rfl)))
      cases ow with
      |false=>
       repeat' (fail_if_success with_reducible refine ek (t:=63) rfl ?_);first|go_guarded|go_step|simp only[];go_at_K
       refine bF hii hHc abx ?_
       refine bK ?_
       refine bL r.cells hii abx eO ?_
       intro W8 aX u8
       refine wk ?_
       exact fG results143 hii aX abx ⟨_,rfl,r,rfl,by rw[bC.out];exact(kR.upd u8).less,Uc.aB aR u8⟩
      |true=>
       cases E with
       |true=>exact absurd rfl hgo
       |false=>
        repeat' (fail_if_success with_reducible refine ek (t:=63) rfl ?_);first|go_guarded|go_step|simp only[];go_at_K
        refine bF hii hHc abx ?_
        refine bK ?_
        refine bL r.cells hii abx eO ?_
        intro W8 aX u8
        refine wk ?_
        exact fG results143 hii aX abx ⟨_,rfl,r,rfl,by rw[bC.out];exact(kR.upd u8).less,Uc.aB aR u8⟩
   ·have hF2:=hdn (show F=s.skipped m.ms by rw[F8.out];unfold Site.does;rw[show m.ms.kind=2 from hk];rfl)
    have JN:(m.k==1)=false:=by rw[hk];rfl
    have Ng:(m.k==2)=true:=by rw[hk];rfl
    clear hk
    have CO:=JK wc r m
    rw[ai.arr,Mv.aH,kR.aJ.n]at CO
    obtain⟨ow,how⟩:=ex1 ((aV m.s (s.n:Int)==m.f))
    rw[how]at CO
    have qg:=hdn (show F=if ow=true then s.bE m.s []else s by
     rw[hF2.out,←how]
     show(if m.f=aV m.s s.n then s.bE m.s []else s)=_
     by_cases h1:aV m.s s.n=m.f
     ·simp[h1]
     ·have h2:¬ m.f=aV m.s s.n:=fun e=>h1 e.symm
      simp[h1,h2])
    clear how
    repeat' (fail_if_success with_reducible refine ek (t:=63) rfl ?_);go_step
    refine bF hii hHc abx ?_
    repeat' go_step
    refine CO.mono ?_;rintro e w7 ⟨rfl,u7⟩
    have hHc:=hHc.upd u7
    have eO:=eO.upd u7
    have gN:=gN.upd u7
    have kR:=kR.grow u7
    have gM:∀k∈[H,G]++X,k<w7.heap.size:=fun k hk=>by have h1:=gM k hk;have h2:=u7.size;omega
    have Uc:=Uc.trans u7
    clear CO j0 j1 j2 j3 j4 j5 j6 j7 j8 j9 u7
    have j3:w7.cell? ⟨J,3,none⟩=some (.int .i64 m.s):=gN.cell 3
    cases ow with
    |false=>
     have bC:=hdn (show F=s from qg.out)
     repeat' (fail_if_success with_reducible refine ek (t:=63) rfl ?_);first|go_step|simp only[];go_at_K
     refine bF hii hHc abx ?_
     refine bK ?_
     refine bL r.cells hii abx eO ?_
     intro W8 aX u8
     refine wk ?_
     exact fG results143 hii aX abx ⟨_,rfl,r,rfl,by rw[bC.out];exact(kR.upd u8).less,Uc.aB aR u8⟩
    |true=>
     have bC:=hdn (show F=s.bE m.s []from qg.out)
     have C:=zg ([H,G]++X) w7 r s kR gM m.s ⟨none,0,0,[]⟩ (dU.nil _ _ _)
     rw[ai.arr]at C
     repeat' (fail_if_success with_reducible refine ek (t:=63) rfl ?_);first|go_step|simp only[];go_at_K
     refine bF hii hHc abx ?_
     repeat' go_step
     refine C.mono ?_;rintro e w6 ⟨v,rfl,r2,rfl,n2,u6⟩
     have gK:=eO.upd u6
     clear C j3
     rw[ai.arr]
     refine bK ?_
     refine bL r2.cells hii abx gK ?_
     intro W8 aX u8
     refine wk ?_
     exact fG results143 hii aX abx ⟨_,rfl,r2,rfl,by rw[bC.out];exact(n2.upd u8).less,(Uc.trans u6).aB aR u8⟩
   ·have yu:=hdn (show F=s.jl m.ms by rw[F8.out];unfold Site.does;rw[show m.ms.kind=3 from hk];rfl)
    have JN:(m.k==1)=false:=by rw[hk];rfl
    have Ng:(m.k==2)=false:=by rw[hk];rfl
    have Rb:(m.k==3)=true:=by rw[hk];rfl
    clear hk
    have CS:=kV wc r kR.mem m.s
    have rR:=kR.state m.s
    have hst:=kR.aJ.st m.s
    obtain⟨T,hT⟩:=ex1 (r.state m.s)
    rw[hT]at CS rR hst
    rw[ai.arr]at CS
    obtain⟨o,ho⟩:=ex1 (s.promise m.s ⟨m.br,m.bs⟩)
    have HO:=hdn ho
    have qg:=hdn (show F=if D7=true then(match (generalizing:=false) o with|some t=>t.send m.f (t.answer m.s ⟨m.br,m.bs⟩)|none=>s)else s by
     rw[yu.out,←HD7.out,←ho]
     show(if 1≤m.br∧m.bs=m.f then(match s.promise m.s ⟨m.br,m.bs⟩ with|some t=>t.send m.f (t.answer m.s ⟨m.br,m.bs⟩)|none=>s)else s)=_
     by_cases h2:1≤m.br<;>by_cases h3:m.bs=m.f<;>simp[h2,h3])
    clear hT ho
    repeat' (fail_if_success with_reducible refine ek (t:=63) rfl ?_);go_step
    refine bF hii hHc abx ?_
    repeat' go_step
    refine CS.mono ?_;rintro e w5 ⟨rfl,u5⟩
    clear CS j0 j1 j2 j3 j4 j5 j6 j7 j8 j9
    obtain⟨W6,K,eW6,hK,rQ,U6⟩:=az w5 166 #[.int .i64 T.p.r,.int .i64 T.p.s,.bool T.so,.int .i64 T.at_.r,.int .i64 T.at_.s,.slice T.A T.n T.c]
    have F9:aa [] [] wc W6:=u5.trans U6.g0
    have hHc:=hHc.upd F9
    have wO:K∉[G]:=by have h1:=eO.lt;have h2:=u5.size;simp only[mem_singleton];omega
    have eO:=eO.upd F9
    have gN:=gN.upd F9
    have kR:=kR.grow F9
    have rR:=rR.grow F9
    have gM:∀k∈[H,G]++X,k<W6.heap.size:=fun k hk=>by have h1:=gM k hk;have h2:=F9.size;omega
    have Uc:=Uc.trans F9
    clear u5 F9 hbc
    have j3:W6.cell? ⟨J,3,none⟩=some (.int .i64 m.s):=gN.cell 3
    have j4:W6.cell? ⟨J,4,none⟩=some (.int .i64 m.br):=gN.cell 4
    have j5:W6.cell? ⟨J,5,none⟩=some (.int .i64 m.bs):=gN.cell 5
    have CP:=Dh ([H,G]++X) W6 r s kR gM m.s (by omega) ⟨m.br,m.bs⟩ hmb
    rw[HO.out,ai.arr,Bl.val]at CP
    rw[aN.val]
    repeat' (fail_if_success with_reducible refine ek (t:=63) rfl ?_);first|go_step|simp only[];go_at_K
    refine bF hii hHc abx ?_
    repeat' go_step
    refine CP.mono ?_;rintro e w7 ⟨v,rfl,r4,rfl,n4,u7⟩
    clear CP j3 j4 j5
    obtain⟨W8,T8,JO,Dl,nk,U8⟩:=az w7 63 cz
    have u8:=U8.g0
    have oP:∀k∈[T8],W6.heap.size≤k:=by have:=u7.size;simp only[mem_singleton];rintro k rfl;omega
    have yz:∀k∈r4.fp,k∉[T8]:=fun k hk hm=>by have h1:=n4.mem.lt k hk;simp only[mem_singleton]at hm;omega
    have rJ:T8∉[G]:=by have h1:=eO.lt;have h2:=u7.size;simp only[mem_singleton];omega
    rw[ai.arr]
    refine bK ?_
    refine bL r4.cells hii abx nk ?_
    intro Wz oN u9
    have u69:aa [] [] W6 Wz:=(u7.trans u8).aB oP u9
    have n9:Ref ([H,G]++X) Wz r4 (o.getD s):=by have hn:=n4.grow u8;exact⟨hn.mem.vP u9 yz,hn.aJ,hn.off⟩
    have rQ:=rQ.upd u69
    have hHc:=hHc.upd u69
    have eO:=eO.upd u69
    have gN:=gN.upd u69
    have kR:=kR.grow u69
    have rR:=rR.grow u69
    have gM:∀k∈[H,G]++X,k<Wz.heap.size:=fun k hk=>by have h1:=gM k hk;have h2:=u69.size;omega
    have Uc:=Uc.trans u69
    clear u7 u8 u9 u69 n4 JO Dl nk U8 eW6 U6
    cases D7 with
    |false=>
     have bC:=hdn (show F=s from qg.out)
     repeat' (fail_if_success with_reducible refine ek (t:=63) rfl ?_);first|go_guarded|go_step
     refine bF hii hHc abx ?_
     refine bK ?_
     refine bL r.cells hii abx eO ?_
     intro W8 aX u8
     refine wk ?_
     exact fG results143 hii aX abx ⟨_,rfl,r,rfl,by rw[bC.out];exact(kR.upd u8).less,Uc.aB aR u8⟩
    |true=>
     cases o with
     |none=>
      have bC:=hdn (show F=s from qg.out)
      simp only[Option.isSome_none]
      repeat' (fail_if_success with_reducible refine ek (t:=63) rfl ?_);first|go_guarded|go_step
      refine bF hii hHc abx ?_
      refine bK ?_
      refine bL r.cells hii abx eO ?_
      intro W8 aX u8
      refine wk ?_
      exact fG results143 hii aX abx ⟨_,rfl,r,rfl,by rw[bC.out];exact(kR.upd u8).less,Uc.aB aR u8⟩
     |some t=>
      have nz:Ref ([H,G]++X) Wz r4 t:=n9
      obtain⟨tm,tn,th,PW,tst⟩:=Site.pq HO.out
      obtain⟨mN,Du⟩:∃mN:Mv,(⟨4,0,0,m.s,m.br,m.bs,T.at_.r,T.at_.s,T.so,T.A,T.n,T.c,T.b⟩:Mv)=mN:=⟨_,rfl⟩
      have BC:mN.ms=s.answer m.s ⟨m.br,m.bs⟩:=by rw[←Du];unfold Site.answer;rw[←hst];rfl
      have hfN:mN.ms.Fit:=by rw[BC];exact Site.mX hok (by omega) hmb adn
      have bC:=hdn (show F=t.send m.f mN.ms by
       rw[qg.out,BC]
       show t.send m.f (t.answer m.s ⟨m.br,m.bs⟩)=_
       congr 1
       unfold Site.answer
       rw[tst])
      have BD:mN.A=T.A∧mN.n=T.n∧mN.b=T.b:=by rw[←Du];exact⟨rfl,rfl,rfl⟩
      have htl:t.held.length<1000000000:=by rw[th];omega
      have CN:∀w',Calls prog 215 #[.int .i64 m.s,.agg #[.int .i64 m.br,.int .i64 m.bs],.agg #[.int .i64 T.p.r,.int .i64 T.p.s,.bool T.so,.int .i64 T.at_.r,.int .i64 T.at_.s,.slice T.A T.n T.c]] w' fun e w''=>e=.returned mN.val∧aa [] [] w' w'':=fun w'=>by
       have:=Aw w' m.s ⟨m.br,m.bs⟩ T
       rw[Du]at this
       exact this
      have LT:∀w',aa [G] [G] Wz w'→ak w' T8 63 r4.cells.toArray:=fun w' u=>oN.upd u rJ
      have pR:J∉[G]:=by simpa using uU
      have j1:∀w',aa [G] [G] Wz w'→w'.cell? ⟨J,1,none⟩=some (.int .i64 m.f):=fun w' u=>(gN.upd u pR).cell 1
      have j3:∀w',aa [G] [G] Wz w'→w'.cell? ⟨J,3,none⟩=some (.int .i64 m.s):=fun w' u=>(gN.upd u pR).cell 3
      have j4:∀w',aa [G] [G] Wz w'→w'.cell? ⟨J,4,none⟩=some (.int .i64 m.br):=fun w' u=>(gN.upd u pR).cell 4
      have j5:∀w',aa [G] [G] Wz w'→w'.cell? ⟨J,5,none⟩=some (.int .i64 m.bs):=fun w' u=>(gN.upd u pR).cell 5
      have k0:∀w',aa [G] [G] Wz w'→w'.cell? ⟨K,0,none⟩=some (.int .i64 T.p.r):=fun w' u=>(rQ.upd u wO).cell 0
      have k1:∀w',aa [G] [G] Wz w'→w'.cell? ⟨K,1,none⟩=some (.int .i64 T.p.s):=fun w' u=>(rQ.upd u wO).cell 1
      have k2:∀w',aa [G] [G] Wz w'→w'.cell? ⟨K,2,none⟩=some (.bool T.so):=fun w' u=>(rQ.upd u wO).cell 2
      have k3:∀w',aa [G] [G] Wz w'→w'.cell? ⟨K,3,none⟩=some (.int .i64 T.at_.r):=fun w' u=>(rQ.upd u wO).cell 3
      have k4:∀w',aa [G] [G] Wz w'→w'.cell? ⟨K,4,none⟩=some (.int .i64 T.at_.s):=fun w' u=>(rQ.upd u wO).cell 4
      have k5:∀w',aa [G] [G] Wz w'→w'.cell? ⟨K,5,none⟩=some (.slice T.A T.n T.c):=fun w' u=>(rQ.upd u wO).cell 5
      clear Du BC tm tn th PW tst n9 hst
      simp only[Option.isSome_some]
      repeat' first|go_guarded|go_step
      refine wp_region_held_drew (S:=fun w'=>aa [G] [G] Wz w') (by kernel_rfl) (aa.refl [G] Wz).drew fun _=>?_
      refine mi 0 hii (r4).cells abx LT ?_
      refine aF 1 ?_
      refine aF 2 ?_
      refine aF 3 ?_
      refine aF 4 ?_
      refine aF 5 ?_
      refine aF 6 ?_
      refine aF 7 ?_
      refine aW 8 (fun K hK=>?_)
      go_simp
      refine(CN _).mono ?_;rintro e wa ⟨rfl,ua⟩
      simp only[]
      have UA:aa [G] [G] Wz wa:=(‹aa [G] [G] Wz _›).trans (ua.up _)
      refine aP hK (UA) fun _=>?_
      clear hK K
      refine aW 9 (fun K hK=>?_)
      have ky:=lU ([H,G]++X) wa r4 t (nz.upd UA) (fun k hk=>by have h1:=gM k hk;have h2:=UA.size;omega) htl m.f zm mN (by rw[BD.1,BD.2.1,BD.2.2];exact rR.upd UA) hfN
      rw[ai.arr]at ky
      go_simp
      refine ky.mono ?_;rintro e wd ⟨v,rfl,rd,rfl,nd,ud⟩
      simp only[]
      rw[ai.arr]
      have UD:aa [G] [G] Wz wd:=UA.trans (ud.up _)
      have vg:ak wd G 63 cz:=(eO.upd ((aa.refl [] Wz).drew.trans ua) (by simp)).upd ud
      refine aP hK (UD) fun _=>?_
      clear hK K
      refine aW 10 (fun K hK=>?_)
      refine mf rd.cells hii abx vg ?_
      intro Wn hGn un
      have UN:aa [G] [G] Wz Wn:=UD.trans un
      refine aP hK (UN) fun _=>?_
      clear hK K
      refine dnH ?_ _
      refine wk ?_
      exact fG results143 hii hGn abx ⟨_,rfl,rd,rfl,by rw[bC.out];exact(nd.upd un).less,Uc.aB aR UN⟩
   ·have hF4:=hdn (show F=s.promised m.ms by rw[F8.out];unfold Site.does;rw[show m.ms.kind=4 from hk];rfl)
    have JN:(m.k==1)=false:=by rw[hk];rfl
    have Ng:(m.k==2)=false:=by rw[hk];rfl
    have Rb:(m.k==3)=false:=by rw[hk];rfl
    have Xa:(m.k==4)=true:=by rw[hk];rfl
    clear hk
    have bC:=hdn hF4.out
    have C:=Lx ([H,G]++X) wc r s kR gM m hm (by omega) hpr hbc
    rw[ai.arr,Mv.aH]at C
    repeat' (fail_if_success with_reducible refine ek (t:=63) rfl ?_);go_step
    refine bF hii hHc abx ?_
    repeat' go_step
    refine C.mono ?_;rintro e w6 ⟨v,rfl,r2,rfl,n2,u6⟩
    have gK:=eO.upd u6
    clear C j0 j1 j2 j3 j4 j5 j6 j7 j8 j9
    rw[ai.arr]
    refine bK ?_
    refine bL r2.cells hii abx gK ?_
    intro W8 aX u8
    refine wk ?_
    exact fG results143 hii aX abx ⟨_,rfl,r2,rfl,by rw[bC.out];exact(n2.upd u8).less,(Uc.trans u6).aB aR u8⟩
   ·have hF5:=hdn (show F=s.asked m.ms by rw[F8.out];unfold Site.does;rw[show m.ms.kind=5 from hk];rfl)
    have JN:(m.k==1)=false:=by rw[hk];rfl
    have Ng:(m.k==2)=false:=by rw[hk];rfl
    have Rb:(m.k==3)=false:=by rw[hk];rfl
    have Xa:(m.k==4)=false:=by rw[hk];rfl
    have kb5:(m.k==5)=true:=by rw[hk];rfl
    clear hk
    obtain⟨so,hso⟩:=ex1 m.so
    have qg:=hdn (show F=if(D7&&so)=true then s.put m.ms else s by
     rw[hF5.out,←HD7.out,←hso]
     show(if m.so=true∧1≤m.br∧m.bs=m.f then s.put m.ms else s)=_
     by_cases h1:m.so=true<;>by_cases h2:1≤m.br<;>by_cases h3:m.bs=m.f<;>simp[h1,h2,h3])
    rw[hso]at j8
    cases D7 with
    |false=>
     have bC:=hdn (show F=s from qg.out)
     clear hso
     repeat' (fail_if_success with_reducible refine ek (t:=63) rfl ?_);first|go_guarded|go_step
     refine bF hii hHc abx ?_
     refine bK ?_
     refine bL r.cells hii abx eO ?_
     intro W8 aX u8
     refine wk ?_
     exact fG results143 hii aX abx ⟨_,rfl,r,rfl,by rw[bC.out];exact(kR.upd u8).less,Uc.aB aR u8⟩
    |true=>
     cases so with
     |false=>
      have bC:=hdn (show F=s from qg.out)
      clear hso
      repeat' (fail_if_success with_reducible refine ek (t:=63) rfl ?_);first|go_guarded|go_step
      refine bF hii hHc abx ?_
      refine bK ?_
      refine bL r.cells hii abx eO ?_
      intro W8 aX u8
      refine wk ?_
      exact fG results143 hii aX abx ⟨_,rfl,r,rfl,by rw[bC.out];exact(kR.upd u8).less,Uc.aB aR u8⟩
     |true=>
      have bC:=hdn (show F=s.put m.ms from qg.out)
      have C:=QW ([H,G]++X) wc r s kR gM m hm hbc (by omega)
      rw[ai.arr,Mv.aH,hso]at C
      clear hso
      repeat' (fail_if_success with_reducible refine ek (t:=63) rfl ?_);first|go_guarded|go_step
      refine bF hii hHc abx ?_
      repeat' go_step
      refine C.mono ?_;rintro e w6 ⟨v,rfl,r2,rfl,n2,u6⟩
      have gK:=eO.upd u6
      clear C j0 j1 j2 j3 j4 j5 j6 j7 j8 j9
      rw[ai.arr]
      refine bK ?_
      refine bL r2.cells hii abx gK ?_
      intro W8 aX u8
      refine wk ?_
      exact fG results143 hii aX abx ⟨_,rfl,r2,rfl,by rw[bC.out];exact(n2.upd u8).less,(Uc.trans u6).aB aR u8⟩
   ·have hF6:=hdn (show F=s.accepted m.ms by rw[F8.out];unfold Site.does;rw[show m.ms.kind=6 from hk];rfl)
    have JN:(m.k==1)=false:=by rw[hk];rfl
    have Ng:(m.k==2)=false:=by rw[hk];rfl
    have Rb:(m.k==3)=false:=by rw[hk];rfl
    have Xa:(m.k==4)=false:=by rw[hk];rfl
    have kb5:(m.k==5)=false:=by rw[hk];rfl
    have kb6:(m.k==6)=true:=by rw[hk];rfl
    clear hk
    have bC:=hdn hF6.out
    have C:=Lu ([H,G]++X) wc r s kR gM m hm (by omega) pE
    rw[ai.arr,Mv.aH]at C
    repeat' (fail_if_success with_reducible refine ek (t:=63) rfl ?_);go_step
    refine bF hii hHc abx ?_
    repeat' go_step
    refine C.mono ?_;rintro e w6 ⟨v,rfl,r2,rfl,n2,u6⟩
    have gK:=eO.upd u6
    clear C j0 j1 j2 j3 j4 j5 j6 j7 j8 j9
    rw[ai.arr]
    refine bK ?_
    refine bL r2.cells hii abx gK ?_
    intro W8 aX u8
    refine wk ?_
    exact fG results143 hii aX abx ⟨_,rfl,r2,rfl,by rw[bC.out];exact(n2.upd u8).less,(Uc.trans u6).aB aR u8⟩
   ·have hF7:=hdn (show F=s.lM m.ms by rw[F8.out];unfold Site.does;rw[show m.ms.kind=7 from hk];rfl)
    have JN:(m.k==1)=false:=by rw[hk];rfl
    have Ng:(m.k==2)=false:=by rw[hk];rfl
    have Rb:(m.k==3)=false:=by rw[hk];rfl
    have Xa:(m.k==4)=false:=by rw[hk];rfl
    have kb5:(m.k==5)=false:=by rw[hk];rfl
    have kb6:(m.k==6)=false:=by rw[hk];rfl
    have kb7:(m.k==7)=true:=by rw[hk];rfl
    clear hk
    obtain⟨so,hso⟩:=ex1 m.so
    rw[hso]at j8
    cases so with
    |false=>
     have bC:=hdn (show F=s by rw[hF7.out];exact if_neg (fun hh=>by rw[show m.ms.some_=m.so from rfl,hso]at hh;cases hh))
     clear hso
     repeat' (fail_if_success with_reducible refine ek (t:=63) rfl ?_);go_step
     refine bF hii hHc abx ?_
     refine bK ?_
     refine bL r.cells hii abx eO ?_
     intro W8 aX u8
     refine wk ?_
     exact fG results143 hii aX abx ⟨_,rfl,r,rfl,by rw[bC.out];exact(kR.upd u8).less,Uc.aB aR u8⟩
    |true=>
     have bC:=hdn (show F=s.bE m.s m.b by rw[hF7.out];exact if_pos hso)
     have C:=zg ([H,G]++X) wc r s kR gM m.s ⟨m.A,m.n,m.c,m.b⟩ hbc
     rw[ai.arr]at C
     clear hso
     repeat' (fail_if_success with_reducible refine ek (t:=63) rfl ?_);go_step
     refine bF hii hHc abx ?_
     repeat' go_step
     refine C.mono ?_;rintro e w6 ⟨v,rfl,r2,rfl,n2,u6⟩
     have gK:=eO.upd u6
     clear C j0 j1 j2 j3 j4 j5 j6 j7 j8 j9
     rw[ai.arr]
     refine bK ?_
     refine bL r2.cells hii abx gK ?_
     intro W8 aX u8
     refine wk ?_
     exact fG results143 hii aX abx ⟨_,rfl,r2,rfl,by rw[bC.out];exact(n2.upd u8).less,(Uc.trans u6).aB aR u8⟩
   ·have hF8:=hdn (show F=s.wanted m.ms by rw[F8.out];unfold Site.does;rw[show m.ms.kind=8 from hk];rfl)
    have JN:(m.k==1)=false:=by rw[hk];rfl
    have Ng:(m.k==2)=false:=by rw[hk];rfl
    have Rb:(m.k==3)=false:=by rw[hk];rfl
    have Xa:(m.k==4)=false:=by rw[hk];rfl
    have kb5:(m.k==5)=false:=by rw[hk];rfl
    have kb6:(m.k==6)=false:=by rw[hk];rfl
    have kb7:(m.k==7)=false:=by rw[hk];rfl
    have kb8:(m.k==8)=true:=by rw[hk];rfl
    clear hk
    have bC:=hdn hF8.out
    have C:=Yi ([H,G]++X) wc r s kR gM m hm (by omega) hv
    rw[ai.arr,Mv.aH]at C
    repeat' (fail_if_success with_reducible refine ek (t:=63) rfl ?_);go_step
    refine bF hii hHc abx ?_
    repeat' go_step
    refine C.mono ?_;rintro e w6 ⟨v,rfl,r2,rfl,n2,u6⟩
    have gK:=eO.upd u6
    clear C j0 j1 j2 j3 j4 j5 j6 j7 j8 j9
    rw[ai.arr]
    refine bK ?_
    refine bL r2.cells hii abx gK ?_
    intro W8 aX u8
    refine wk ?_
    exact fG results143 hii aX abx ⟨_,rfl,r2,rfl,by rw[bC.out];exact(n2.upd u8).less,(Uc.trans u6).aB aR u8⟩
end Go.Proofs.YtijhlbeipglieaaGreat
namespace aA
open Go Go.RowKit List
theorem JP{P:Program}{w:World}{G:Nat}{tt:TypeId}(pre old post vs:List Value)(hB:ak w G tt (pre++old++post).toArray)(hl:old.length=vs.length)(h1:∀u∈vs,u.oneCell'=true) :
  ∃w',(storeCells ⟨G,pre.length,none⟩ vs 0).run P w=.ok () w'∧ak w' G tt (pre++vs++post).toArray∧aa [G] [G] w w':=by
 have hc:∀k,k<vs.length→(w.cell? ⟨G,pre.length+k,none⟩).isSome=true:=fun k hk=>by
  rw[hB.cell,List.getElem?_toArray,List.getElem?_eq_getElem (by rw[length_append,length_append];omega)];rfl
 have hr:=run_storeCells_cells (P:=P) G pre.length vs 0 w (fun j hj=>by rw[Nat.add_zero];exact hc j hj) (fun j _=>hB.frozen _) h1
 have hb:=ak.tC G tt vs pre.length w pre old post hB rfl hl
 exact⟨_,hr,hb,mH G vs pre.length w (aa.refl [G] w) (.inl (by simp))⟩
theorem vC{P:Program}{w:World}{G:Nat}{tt:TypeId}{ops:Array Oper}{rest:List Oper}{o:Oper}{a:Act}{Q:Exit→Act→World→Prop}(hgd:o.guard=none)(p v:Operand)(t:TypeId)(ho:o.op=.store t p v){i:TypeInfo}(hi:P.info? t=some i){k:Nat}(hp:a.eval p=.pointer (some ⟨G,k,none⟩))(pre old post vs:List Value)(hk:pre.length=k)(hv:a.eval v=.agg vs.toArray)(hsz:i.size=vs.length)(hB:ak w G tt (pre++old++post).toArray)(hl:old.length=vs.length)(h1:vs.all (·.oneCell')=true)(h:∀w',ak w' G tt (pre++vs++post).toArray→aa [G] [G] w w'→wpList P ops Q rest (a.put o.dst undef) w'):wpList P ops Q (o::rest) a w:=by
 subst hk
 obtain⟨w',abS,h2,h3⟩:=JP (P:=P) pre old post vs hB hl (by simpa using h1)
 refine wpList_plain hgd fun K hK=>?_
 unfold Oper.wp execOp
 have hc:(Value.agg vs.toArray).cells=vs.toArray:=rfl
 simp[ho,Instr.storeAt,Instr.sureAddr,storeVar,hp,hv,hc,Go.sizeOf,typeInfo,hi,hsz,abS,Result.andThen]
 exact hK _ _ (h w' h2 h3)
end aA
namespace Go.Proofs.YtijhlbeipglieaaGreat
open Go.RowKit aA Go.Maps Go.Proofs.Tryz List
def ai.pre(r:ai):List Value:=r.cells.take 11
def ai.ag6(r:ai)(l:List Int):ai:={r with w0:=l.getD 0 0,w1:=l.getD 1 0,w2:=l.getD 2 0,w3:=l.getD 3 0,w4:=l.getD 4 0,w5:=l.getD 5 0,w6:=l.getD 6 0}
theorem ai.vT(r:ai):r.cells=r.pre++dI r.me r.n r.pat r.wt++[.slice r.HA r.held.length r.hc]:=rfl
theorem ai.DI(r:ai){l:List Int}(hl:l.length=7):(r.ag6 l).cells=r.pre++dI r.me r.n r.pat l++[.slice r.HA r.held.length r.hc]:=by
 match l,hl with
 |[a,b,c,d,e,f,g],_=>rfl
theorem ai.Yj(r:ai){l:List Int}(hl:l.length=7):(r.ag6 l).wt=l:=by
 match l,hl with
 |[a,b,c,d,e,f,g],_=>rfl
theorem iM.uQ{r:ai}{s:Site}(h:iM r s){l:List Int}(hl:l.length=7):iM (r.ag6 l) {s with wt:=l}:=
 ⟨h.me,h.n,h.pat,h.down,h.db,h.dn,h.st,h.kn,h.kr,h.top,h.lv,h.ln,h.lr,h.taken,h.tk,h.rs,h.rn,h.nx,ai.Yj r hl,h.held,⟨h.ok.me,h.ok.n3,h.ok.n7,h.ok.pat,h.ok.st,h.ok.rs,h.ok.top,h.ok.nx,h.ok.held⟩,h.dk⟩
theorem Ref.uQ{X:List Nat}{w:World}{r:ai}{s:Site}(h:Ref X w r s){l:List Int}(hl:l.length=7):Ref X w (r.ag6 l) {s with wt:=l}:=
 ⟨⟨h.mem.db,h.mem.dc,h.mem.K,h.mem.kb,h.mem.L,h.mem.lb,h.mem.R,h.mem.rc,h.mem.rb,h.mem.held,h.mem.hb,h.mem.big⟩,h.aJ.uQ hl,h.off⟩
theorem JQ:∃i,prog.info? 61=some i∧i.size=10:=zQ
theorem ai.xM{w:World}{H:Nat}(r:ai)(hB:ak w H 63 r.cells.toArray){j:Nat}{u:Value}(hu:(dI r.me r.n r.pat r.wt)[j]? =some u):w.cell? ⟨H,11+j,none⟩=some u:=by
 have hp:r.pre.length=11:=rfl
 have hj:j<(dI r.me r.n r.pat r.wt).length:=by
  rcases Nat.lt_or_ge j (dI r.me r.n r.pat r.wt).length with h9|h9
  ·exact h9
  ·rw[List.getElem?_eq_none h9]at hu;cases hu
 rw[hB.cell,List.getElem?_toArray,r.vT,append_assoc,List.getElem?_append_right (by omega),hp,show 11+j-11=j by omega,List.getElem?_append_left hj]
 exact hu
theorem Re(X:List Nat)(w:World)(r:ai)(s:Site)(h:Ref X w r s)(hX:∀k∈X,k<w.heap.size)(m:Mv)(hb:dU X w m.A m.n m.b)(hl:s.held.length≤500000000)(hv:∀x v,s.dec x=some v→v.length≤2048)(pE:∀p∈s.rs,p.2.vt.length≤900000000)(hpr:∀p∈s.rs,p.2.pr.length≤900000000)(adn:∀x,(s.stat x).so=true∨(s.stat x).at_=⟨0,0⟩∧(s.stat x).b= []) :
  Calls prog 81 #[r.val,m.val] w fun e w'=>∃v,e=.returned (.tuple #[v,.int .i64 (s.handle m.ms).2])∧Came X w w' v (s.handle m.ms).1:=by
 obtain⟨ii,hii,abx,W,H,eW,hH,hB,U0,W1,J,nK,hJ,fT,U1,W2,G,fu,hG,hBG,U2,hB2,hJ2,hs1,uh,uU,dY,aK,hs0,hs2,hY,hHw,aR,nY,gV,h2,hX2,qG⟩:=Bt h hX 32 #[.int .i64 m.k,.int .i64 m.f,.int .i64 m.t,.int .i64 m.s,.int .i64 m.br,.int .i64 m.bs,.int .i64 m.hr,.int .i64 m.hs,.bool m.so,.slice m.A m.n m.c] 63 cz
 have hok:=h.aJ.ok
 obtain⟨iw,Rf,OG⟩:=JQ
 have hb2:=(hb.more hY).grow aK
 obtain⟨F1,hF1⟩:=ex1 ((s.handle m.ms).1)
 obtain⟨F2,hF2⟩:=ex1 ((s.handle m.ms).2)
 have HF:=hdn (show s.handle m.ms=(F1,F2) by rw[←hF1,←hF2])
 rw[hF1,hF2]
 clear hF1 hF2
 have kR:=h2
 have hHc:=hB2
 have eO:=hBG
 have gN:=hJ2
 have hbc:=hb2
 have gM:=hX2
 have Uc:=aK
 clear h2 hB2 hBG hJ2 hb2 hX2 aK
 have c3:W2.cell? ⟨H,3,none⟩=some (.bool s.down):=by rw[hHc.cell 3];show some (Value.bool r.down)=_;rw[h.aJ.down]
 have c0:W2.cell? ⟨H,0,none⟩=some (.int .i64 (s.me:Int)):=by rw[hHc.cell 0];show some (Value.int .i64 (r.me:Int))=_;rw[h.aJ.me]
 have c1:W2.cell? ⟨H,1,none⟩=some (.int .i64 (s.n:Int)):=by rw[hHc.cell 1];show some (Value.int .i64 (r.n:Int))=_;rw[h.aJ.n]
 obtain⟨⟨j0,j1,j2,j3,j4,j5,j6,j7,j8,j9⟩,-⟩:=gN.c10
 have CM:=Us m W2 hbc.rd
 obtain⟨dn,hdU⟩:=ex1 s.down
 rw[hdU]at c3
 rw[Mv.aH]at CM
 rw[ai.arr,Mv.aH]
 go_enter func81,ntmps81
 cases dn with
 |true=>
  have DJ:F1=s∧F2=14:=by
   have:=HF.out;unfold Site.handle at this;rw[if_pos hdU]at this
   injection this with e1 e2;exact⟨e1.symm,e2.symm⟩
  clear hdU
  have bC:=hdn (show(F1=s∧F2=14)from DJ)
  repeat' (fail_if_success with_reducible refine ek (t:=63) rfl ?_);go_step
  refine bF hii hHc abx ?_
  refine bK ?_
  refine bL r.cells hii abx eO ?_
  intro W8 aX u8
  refine wk ?_
  exact ug results81 hii aX abx ⟨_,by rw[bC.out.2];rfl,r,rfl,by rw[bC.out.1];exact(kR.upd u8).less,Uc.aB aR u8⟩
 |false=>
  have uA:=hdn (show(if ¬ m.ms.May then(s,1)else if m.t≠s.me∨m.f=s.me∨(s.n:Int)≤m.f then(s,1) else(({s with wt:=s.wt.set m.f.toNat 0} :Site).take m.ms,0))=(F1,F2) by
   have:=HF.out;unfold Site.handle at this;rw[if_neg (by rw[hdU];simp)]at this;exact this)
  clear hdU
  repeat' go_step
  refine CM.mono ?_;rintro e w7 ⟨⟨mb,rfl,aaO⟩,u7⟩
  have HMB:=hdn aaO
  clear CM aaO
  replace hHc:=hHc.upd u7
  replace eO:=eO.upd u7
  replace gN:=gN.upd u7
  replace kR:=kR.grow u7
  replace hbc:=hbc.grow u7
  replace gM:∀k∈[H,G]++X,k<w7.heap.size:=fun k hk=>by have h1:=gM k hk;have h2:=u7.size;omega
  replace Uc:=Uc.trans u7
  clear j0 j1 j2 j3 j4 j5 j6 j7 j8 j9 c0 c1 c3 u7
  have c0:w7.cell? ⟨H,0,none⟩=some (.int .i64 (s.me:Int)):=by rw[hHc.cell 0];show some (Value.int .i64 (r.me:Int))=_;rw[h.aJ.me]
  have c1:w7.cell? ⟨H,1,none⟩=some (.int .i64 (s.n:Int)):=by rw[hHc.cell 1];show some (Value.int .i64 (r.n:Int))=_;rw[h.aJ.n]
  obtain⟨⟨j0,j1,j2,j3,j4,j5,j6,j7,j8,j9⟩,-⟩:=gN.c10
  have CI:=oU w7 m.f (s.n:Int)
  cases mb with
  |false=>
   have DJ:F1=s∧F2=1:=by
    have hno:¬ m.ms.May:=fun hh=>by have:=HMB.out.2 hh;cases this
    have:=uA.out;rw[if_pos hno]at this
    injection this with e1 e2;exact⟨e1.symm,e2.symm⟩
   have bC:=hdn (show(F1=s∧F2=1)from DJ)
   repeat' (fail_if_success with_reducible refine ek (t:=63) rfl ?_);first|go_skip|go_step|simp only[];go_at_K
   refine bF hii hHc abx ?_
   refine bK ?_
   refine bL r.cells hii abx eO ?_
   intro W8 aX u8
   refine wk ?_
   exact ug results81 hii aX abx ⟨_,by rw[bC.out.2];rfl,r,rfl,by rw[bC.out.1];exact(kR.upd u8).less,Uc.aB aR u8⟩
  |true=>
   have hm:m.ms.May:=HMB.out.1 rfl
   have HF3:=hdn (show(if m.t≠s.me∨m.f=s.me∨(s.n:Int)≤m.f then(s,(1:Int)) else(({s with wt:=s.wt.set m.f.toNat 0} :Site).take m.ms,0))=(F1,F2) by
    have:=uA.out;rw[if_neg (by simpa using hm)]at this;exact this)
   have zm:0≤m.f∧m.f≤6:=hm.bO
   have Au:=fun(hh:m.t≠s.me∨m.f=s.me∨(s.n:Int)≤m.f)=>hdn (show F1=s∧F2=1 by
    have:=HF3.out;rw[if_pos hh]at this
    injection this with e1 e2;exact⟨e1.symm,e2.symm⟩)
   by_cases e1:m.t=(s.me:Int)
   ·have b1:(m.t==(s.me:Int))=true:=by simpa using e1
    have b1n:(m.t != (s.me:Int))=false:=by simpa using e1
    by_cases e2:m.f=(s.me:Int)
    ·have b2:(m.f==(s.me:Int))=true:=by simpa using e2
     have DJ:=(Au (.inr (.inl e2))).out
     clear e1 e2
     have bC:=hdn (show(F1=s∧F2=1)from DJ)
     repeat' (fail_if_success with_reducible refine ek (t:=63) rfl ?_);first|go_skip|go_guarded|go_step|simp only[];go_at_K
     refine bF hii hHc abx ?_
     refine bK ?_
     refine bL r.cells hii abx eO ?_
     intro W8 aX u8
     refine wk ?_
     exact ug results81 hii aX abx ⟨_,by rw[bC.out.2];rfl,r,rfl,by rw[bC.out.1];exact(kR.upd u8).less,Uc.aB aR u8⟩
    ·have b2:(m.f==(s.me:Int))=false:=by simpa using e2
     by_cases e3:(s.n:Int)≤m.f
     ·have b3:bz m.f (s.n:Int)=false:=by unfold bz;simp;omega
      have DJ:=(Au (.inr (.inr e3))).out
      rw[b3]at CI
      clear e1 e2 e3
      repeat' first|go_guarded|go_step|simp only[];go_at_K
      refine CI.mono ?_;rintro e w8 ⟨rfl,rfl⟩
      have bC:=hdn (show(F1=s∧F2=1)from DJ)
      repeat' (fail_if_success with_reducible refine ek (t:=63) rfl ?_);first|go_guarded|go_step|simp only[];go_at_K
      refine bF hii hHc abx ?_
      refine bK ?_
      refine bL r.cells hii abx eO ?_
      intro W8 aX u8
      refine wk ?_
      exact ug results81 hii aX abx ⟨_,by rw[bC.out.2];rfl,r,rfl,by rw[bC.out.1];exact(kR.upd u8).less,Uc.aB aR u8⟩
     ·have b3:bz m.f (s.n:Int)=true:=by unfold bz;simp;omega
      have bC:=hdn (show F1=({s with wt:=s.wt.set m.f.toNat 0} :Site).take m.ms∧F2=0 by
       have:=HF3.out;rw[if_neg (by omega)]at this
       injection this with e1 e2;exact⟨e1.symm,e2.symm⟩)
      have HB3:=hdn b3
      rw[b3]at CI
      clear e1 e2 e3 b3
      have aiv:=zm
      repeat' first|go_guarded|go_step|simp only[];go_at_K
      refine CI.mono ?_;rintro e w8 ⟨rfl,rfl⟩
      have hwl:r.wt.length=7:=rfl
      have hwz:∀l:List Int,l.length=7→iw.size=(dI r.me r.n r.pat l).length:=fun l h7=>by rw[iB h7];exact OG
      have Fj:=Oy w7 (r.me:Int) (r.n:Int) (r.pat:Int) r.wt rfl (by rw[kR.aJ.n];have:=hok.n7;omega) m.f
      rw[if_pos (by rw[kR.aJ.n];exact HB3.out)]at Fj
      obtain⟨l,hl2⟩:=ex1 (r.wt.set m.f.toNat 0)
      have DK:l.length=7:=by rw[←hl2,length_set];exact hwl
      rw[hl2]at Fj
      have HL2:=hdn (show s.wt.set m.f.toNat 0=l by rw[←kR.aJ.wt];exact hl2)
      simp only[iA]at Fj
      clear CI hl2
      repeat' (fail_if_success with_reducible refine ek (t:=61) rfl ?_);first|go_values|go_skip|go_guarded|go_step|go_upon|simp only[];go_at_K
      refine oz rfl _ 61 rfl Rf (fun _=>rfl) rfl (dI r.me r.n r.pat r.wt) (hwz _ hwl) (fun u hu=>r.xM hHc hu) (fun j u _ hu=>r.xM hHc hu) ?_
      repeat' go_step
      refine Fj.mono ?_;rintro e w8 ⟨rfl,u8⟩
      clear Fj c0 c1 j0 j1 j2 j3 j4 j5 j6 j7 j8 j9
      have AJ:=hHc.upd u8
      repeat' (fail_if_success with_reducible refine eT (t:=61) rfl ?_);first|go_values|go_skip|go_guarded|go_step|go_upon|simp only[];go_at_K
      refine vC rfl _ _ 61 rfl Rf (k:=11) rfl r.pre (dI r.me r.n r.pat r.wt) [.slice r.HA r.held.length r.hc] (dI r.me r.n r.pat l) rfl rfl (hwz l DK) (by rw[←r.vT];exact AJ) (by rw[iB DK,iB hwl]) (uj _ _ _ _) ?_
      intro W9 ru u9
      rw[←r.DI DK]at ru
      have AQ:=((kR.grow u8).upd u9).uQ DK
      have ae4:=(hbc.grow u8).upd u9
      have JC:=(gN.upd u8).upd u9 (by simpa using uh)
      have oZ:=(eO.upd u8).upd u9 gV
      have rV:∀k∈[H,G]++X,k<W9.heap.size:=fun k hk=>by have h1:=gM k hk;have h2:=u8.size;have h3:=u9.size;omega
      have U9:=(Uc.trans u8).aB hHw u9
      obtain⟨r1,hr1⟩:=ex1 (r.ag6 l)
      rw[hr1]at ru AQ
      clear AJ u8 u9 hr1 hHc eO gN kR hbc gM Uc
      have C:=JL ([H,G]++X) W9 r1 {s with wt:=l} AQ rV m hm ae4 hl hv pE hpr (adn m.s)
      have F5:=hdn (show F1=({s with wt:=l} :Site).take m.ms∧F2=0 by rw[←HL2.out];exact bC.out)
      rw[ai.arr,Mv.aH]at C
      obtain⟨⟨j0,j1,j2,j3,j4,j5,j6,j7,j8,j9⟩,-⟩:=JC.c10
      repeat' (fail_if_success with_reducible refine ek (t:=63) rfl ?_);go_step
      refine bF hii ru abx ?_
      repeat' go_step
      refine C.mono ?_;rintro e w6 ⟨v,rfl,r2,rfl,n2,u6⟩
      have gK:=oZ.upd u6
      clear C j0 j1 j2 j3 j4 j5 j6 j7 j8 j9
      rw[ai.arr]
      refine bK ?_
      refine bL r2.cells hii abx gK ?_
      intro W8 aX u8
      refine wk ?_
      exact ug results81 hii aX abx ⟨_,by rw[F5.out.2];rfl,r2,rfl,by rw[F5.out.1];exact(n2.upd u8).less,(U9.trans u6).aB aR u8⟩
   ·have b1:(m.t==(s.me:Int))=false:=by simpa using e1
    have b1n:(m.t != (s.me:Int))=true:=by simpa using e1
    have DJ:=(Au (.inl e1)).out
    clear e1
    have bC:=hdn (show(F1=s∧F2=1)from DJ)
    repeat' (fail_if_success with_reducible refine ek (t:=63) rfl ?_);first|go_skip|go_guarded|go_step|simp only[];go_at_K
    refine bF hii hHc abx ?_
    refine bK ?_
    refine bL r.cells hii abx eO ?_
    intro W8 aX u8
    refine wk ?_
    exact ug results81 hii aX abx ⟨_,by rw[bC.out.2];rfl,r,rfl,by rw[bC.out.1];exact(kR.upd u8).less,Uc.aB aR u8⟩
