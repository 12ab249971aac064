/- For SitePlays. -/
import Derived.Deep.RegionHeldLaw
import Derived.Deep.RegionHeld3
import Derived.Test.YtijhlbeipglieaaGreatPkProp
import Derived.Test.YtijhlbeipglieaaGreatPkHandA
set_option linter.all false
set_option maxRecDepth 100000
set_option maxHeartbeats 4000000
namespace Go.Proofs.YtijhlbeipglieaaGreat
open Go.RowKit aA Go.Maps Tryz List
theorem S9:(prog.info? 340).map (fun i=>(i.zero,i.size,i.bytes))=some (some (.agg #[.int .i64 0,.bool false,.int .i64 0,.int .i64 0,.slice none 0 0]),5,56):=by kernel_rfl
variable [eU]
theorem ay.prom{w:World}{M:af}(h:ay w M){x:Int}{r:aS}(hl:aC x M.rs=some r)(q:bq)(hq:dF w q.s∧∀k∈ah q.s.A,k∉M.iV)(hql:q.s.b.length≤2048)(hv:r.pr.length≤1000000000) :
  ∃A' c' w3,(Builtin.append_ #[129,129] 129 #[.slice r.PA r.pr.length r.pc,.slice (some ⟨w.heap.size,0,none⟩) 1 1]).run prog (w.alloc (.cells #[.int .i64 q.f,.bool q.so,.int .i64 q.at_.r,.int .i64 q.at_.s,.slice q.s.A q.s.n q.s.c] 340))=.ok (.slice A' (r.pr.length+1) c') w3∧
   aa (ah r.PA) (ah A') w w3∧w3.cell? ⟨r.g,2,none⟩=some (.slice r.PA r.pr.length r.pc)∧w3.frozen? ⟨r.g,2,none⟩=false∧
   ay (w3.setCell ⟨r.g,2,none⟩ (.slice A' (r.pr.length+1) c')) {M with rs:=aG x {r with PA:=A',pc:=c',pr:=r.pr++[q]} M.rs}∧
   aa M.fp ({M with rs:=aG x {r with PA:=A',pc:=c',pr:=r.pr++[q]} M.rs} :af).fp w (w3.setCell ⟨r.g,2,none⟩ (.slice A' (r.pr.length+1) c')):=by
 have acm:=aY hl
 have h1:=h.au ((aa.refl [] w).alloc (.cells #[.int .i64 q.f,.bool q.so,.int .i64 q.at_.r,.int .i64 q.at_.s,.slice q.s.A q.s.n q.s.c] 340))
 have hR:=h.bV _ acm
 have fI:=h1.bV _ acm
 obtain⟨A',c',w3,abS,ho,hu⟩:=oQ (P:=prog) _ 129 129 340 underlying129 S9 rfl (by decide) r.PA r.pr.length r.pc _ fI.EE (some ⟨w.heap.size,0,none⟩) 1 1 (bq.cells q) (Rd.blk (ak.new _ _ _) rfl)
  (by intro u hu;simp only[bq.cells,mem_cons,not_mem_nil,or_false]at hu;rcases hu with rfl|rfl|rfl|rfl|rfl<;>rfl) (by unfold maxLen;omega) (by omega)
 have hg:r.g∉ah r.PA:=bA fI.tg fI.tP (by decide)
 have hb3:=fI.blk.upd hu hg
 have U:aa (ah r.PA) (ah A') w w3:=((aa.refl (ah r.PA) w).alloc _).trans hu
 have u4:aa [r.g] [r.g] w3 (w3.setCell ⟨r.g,2,none⟩ (.slice A' (r.pr.length+1) c')):=(aa.refl [r.g] w3).setCell (p:=⟨r.g,2,none⟩) (.inl (by simp)) _
 have U4:aa (r.g::ah r.PA) (r.g::ah A') w (w3.setCell ⟨r.g,2,none⟩ (.slice A' (r.pr.length+1) c')):=
  (
   U.mono (a':=r.g::ah r.PA) (b':=r.g::ah A') (fun k hk=>mem_cons_of_mem _ hk) (fun k hk=>by
   rcases mem_cons.1 hk with rfl|hk
   ·exact .inr (.inl (by simp))
   ·exact .inl hk)).trans (u4.mono (a':=r.g::ah A') (b':=r.g::ah A') (by simp) (fun k hk=>.inr (.inl hk)))
 have ho':Own 340 5 w3 A' (r.pr.length+1) c' ((r.pr++[q]).flatMap bq.cells):=by rw[flatMap_append,flatMap_cons,flatMap_nil,append_nil];exact ho
 have Ta:∀k∈ah A',k∉[r.g]:=fun k hk hm=>by
  rw[mem_singleton]at hm;subst hm
  exact aU (ho'.tag _ hk) hb3.tag (by decide) rfl
 refine⟨A',c',w3,abS,U,hb3.cell 2,hb3.frozen 2,?_⟩
 refine h.NJ hl {r with PA:=A',pc:=c',pr:=r.pr++[q]} rfl (X:=r.g::ah r.PA) (fun k hk=>?_) U4 ⟨?_,?_,?_⟩ (fun k hk=>?_) (fun k hk=>.inl hk) (fun y hy=>?_) ?_
 ·simp only[aS.fp,mem_cons,mem_append]at hk ⊢
  rcases hk with h1|h1
  ·exact .inl h1
  ·exact .inr (.inl h1)
 ·have:=hb3.aO 2 (.slice A' (r.pr.length+1) c')
  simpa using this
 ·have:=ho'.upd u4 Ta
  simpa using this
 ·refine(hR.G8.upd U (bX hR.tV hR.tP (by decide))).upd u4 (fun k hk hm=>?_)
  rw[mem_singleton]at hm;subst hm
  exact aU (hR.tV _ hk) hR.tg (by decide) rfl
 ·rcases U.fresh k hk with h1|h1
  ·exact .inl h1
  ·exact .inr h1
 ·simp only[aS.bytes,map_append,map_cons,map_nil,mem_cons,mem_append,not_mem_nil,or_false]at hy
  rcases hy with rfl|hy|rfl
  ·exact h.o8 acm (by simp[aS.bytes])
  ·exact h.o8 acm (by simp only[aS.bytes,mem_cons];exact .inr hy)
  ·exact hq
 ·have:=(h.ok.rs (x,r.pl) (mem_map.2 ⟨_,acm,rfl⟩)).2.2
  refine⟨this.1,this.2.1,fun p hp=>?_⟩
  simp only[aS.pl,map_append,map_cons,map_nil,mem_append,mem_singleton]at hp
  rcases hp with hp|rfl
  ·exact this.2.2 p hp
  ·exact hql
end Go.Proofs.YtijhlbeipglieaaGreat
namespace aA
open Go Go.Proofs.YtijhlbeipglieaaGreat List
theorem Cq{l:List Pm}{n:Int}{v:List UInt8}(hl:∀p∈l,p.b.length≤2048)(h:gZ l n=some v):v.length≤2048:=by
 unfold gZ at h
 split at h
 ·injection h with h
  subst h
  cases hb:pz n l with
  |none=>simp
  |some q=>
   rw[Ic]at hb
   cases hg:ma n l l.length with
   |none=>rw[hg]at hb;cases hb
   |some j=>
    rw[hg]at hb
    exact hl q (mem_of_getElem? hb)
 ·cases h
end aA
namespace Go.Proofs.YtijhlbeipglieaaGreat
open Go.RowKit aA Go.Maps Tryz List
variable [eU]
theorem Ie(w:World)(M:af)(h:ay w M)(m:Mv)(hm:m.ms.May)(ib:dF w m.sl)(iy:∀k∈ah m.A,k∉M.fp)(hbn:∀k∈ah m.A,k∉(eU.X:List Nat))(hl:M.held.length≤900000000)(pE:∀p∈M.rs,p.2.pr.length≤900000000) :
  Calls prog 194 #[M.ptr,m.val] w fun e w'=>e=.returned (.tuple #[])∧Gone w w' M (M.pl.promised m.ms):=by
 have Eg:=h.ok
 have qK:0≤m.s∧m.s≤4095:=hm.slot
 have hwf:(Lit.int .i64 m.s).wf=true:=jV (by omega) (by omega)
 obtain⟨W,H,eW,hH,hB,U0⟩:=az w 32 #[.int .i64 m.k,.int .i64 m.f,.int .i64 m.t,.int .i64 m.s,.int .i64 m.br,.int .i64 m.bs,.int .i64 m.hr,.int .i64 m.hs,.bool m.so,.slice m.A m.n m.c]
 have h1:=h.au U0
 have ik:H∉M.fp:=fun hk=>by have:=h.lt H hk;omega
 have q8:W.cell? ⟨M.gs,8,none⟩=some (.map (some M.br)):=h1.blk.cell 8
 have YW:∀N,(W.drewN N).cell? ⟨M.gs,8,none⟩=some (.map (some M.br)):=fun N=>q8
 have YX:∀N,(W.drewN N).cell? ⟨H,1,none⟩=some (.int .i64 m.f):=fun N=>hB.cell 1
 have Ma:∀N,(W.drewN N).cell? ⟨H,3,none⟩=some (.int .i64 m.s):=fun N=>hB.cell 3
 have YY:∀N,(W.drewN N).cell? ⟨H,4,none⟩=some (.int .i64 m.br):=fun N=>hB.cell 4
 have YZ:∀N,(W.drewN N).cell? ⟨H,5,none⟩=some (.int .i64 m.bs):=fun N=>hB.cell 5
 have hlk:=fun N=>(h1.drewN N).GI hwf
 have hpl:aC m.ms.slot M.pl.rs=(aC m.s M.rs).map aS.pl:=fH _ _ _
 obtain⟨R,hR⟩:=ex1 (M.pl.promised m.ms)
 have HR:=hdn hR
 rw[hR]
 clear hR
 rw[Mv.aH,af.ptr]
 have dm:=U0.g0
 have ado:∀W2,aa [] [] W W2→R=M.pl→Gone w W2 M R:=fun W2 u e=>⟨M,h.au (dm.trans u),e.symm,rfl,(dm.trans u).up M.fp⟩
 cases hq:aC m.s M.rs with
 |none=>
  rw[hq]at hpl
  simp only[hq]at hlk
  have dN:R=M.pl:=by rw[←HR.out];unfold Site.promised;rw[hpl];rfl
  have K:=hdn (fun N N'=>ado ((W.drewN N).drewN N') (((aa.refl [] W).drewN N).drewN N') dN)
  simp only[Option.map_none,Option.getD_none,Option.isSome_none]at hlk
  clear ado hpl
  go_enter func194,ntmps194
  repeat' go_step
  go_quiet (fail)
  repeat' go_step
  go_quiet (fail)
  refine wk ?_
  exact enT ⟨rfl,K.out _ _⟩
 |some r=>
  rw[hq]at hpl
  simp only[hq,Option.map_some,Option.getD_some,Option.isSome_some,aS.ptr]at hlk
  have acm:=aY hq
  have hRr:=(h1.bV _ acm)
  have Y0:∀N,(W.drewN N).cell? ⟨r.g,0,none⟩=some (.int .i64 r.ax.r):=fun N=>hRr.blk.cell 0
  have Y1:∀N,(W.drewN N).cell? ⟨r.g,1,none⟩=some (.int .i64 r.ax.s):=fun N=>hRr.blk.cell 1
  have Ig:∀N,(W.drewN N).cell? ⟨r.g,3,none⟩=some (.bool r.so):=fun N=>hRr.blk.cell 3
  have E1:=Co r.ax.r r.ax.s m.br m.bs
  by_cases hb:r.ax=⟨m.br,m.bs⟩
  ·have e2:((r.ax.r==m.br)&&(r.ax.s==m.bs))=true:=by rw[hb];simp
   rw[e2]at E1
   simp only[Bool.not_true]at E1
   have Mc:=hdn hb
   cases hso:r.so with
   |true=>
    have dN:R=M.pl:=by
     rw[←HR.out];unfold Site.promised;rw[hpl]
     exact if_neg (fun hc=>by have:=hc.2;rw[show r.pl.so=r.so from rfl,hso]at this;cases this)
    have K:=hdn (fun N N'=>ado ((W.drewN N).drewN N') (((aa.refl [] W).drewN N).drewN N') dN)
    simp only[hso]at Ig
    clear ado hpl hb
    go_enter func194,ntmps194
    repeat' go_step
    go_quiet (fail)
    repeat' go_step
    go_quiet (fail)
    refine wk ?_
    exact enT ⟨rfl,K.out _ _⟩
   |false=>
    simp only[hso]at Ig
    clear ado hb
    go_enter func194,ntmps194
    repeat' go_step
    go_quiet (fail)
    repeat' go_step
    obtain⟨n1,hn1⟩:∃n,n=nq:=⟨_,rfl⟩
    rw[←hn1]
    go_quiet (fail)
    repeat' go_step
    obtain⟨X,hX⟩:=ex1 ((W.drewN n1).drewN nq)
    rw[hX]
    have UX:aa [] [] W X:=by rw[←hX];exact((aa.refl [] W).drewN _).drewN _
    clear hX hn1
    have hx:=h1.au UX
    have hBx:=hB.upd UX
    clear YX Ma YY YZ YW Y0 Y1 Ig hlk hRr E1 e2 q8
    obtain⟨pm,hpm⟩:∃pm:bq,(⟨m.f,m.so,⟨m.hr,m.hs⟩,m.sl⟩:bq)=pm:=⟨_,rfl⟩
    have hfx:∀k∈ah m.A,k∉M.iV:=fun k hk hm=>(by rcases mem_append.1 hm with hm|hm;exact iy k hk (by simp[af.fp,hm]);exact hbn k hk hm)
    obtain⟨A3,c3,w3,abS,uap,g5,f5,P1,P2⟩:=hx.drew.prom hq pm (by rw[←hpm];exact⟨(((ib.au U0).au UX).au (aa.refl [] X).drew),hfx⟩) (by rw[←hpm];exact hm.val) (by have:=pE _ acm;simp only at this;omega)
    have ai7:(Builtin.append_ #[129,129] 129 #[.slice r.PA r.pr.length r.pc,.slice (some ⟨X.drew.heap.size,0,none⟩) 1 1]).run prog (X.drew.alloc (.cells #[.int .i64 m.f,.bool m.so,.int .i64 m.hr,.int .i64 m.hs,.slice m.A m.n m.c] 340))=.ok (.slice A3 (r.pr.length+1) c3) w3:=by rw[←hpm]at abS;exact abS
    have Ih:=(hx.bV _ acm)
    have s5:X.drew.cell? ⟨r.g,2,none⟩=some (.slice r.PA r.pr.length r.pc):=Ih.blk.cell 2
    have Y2:(X.alloc (.cells #[.int .i64 m.f,.bool m.so,.int .i64 m.hr,.int .i64 m.hs,.slice m.A m.n m.c] 340)).cell? ⟨r.g,2,none⟩=some (.slice r.PA r.pr.length r.pc):=(Ih.blk.alloc _).cell 2
    obtain⟨⟨a0,a1,a2,a3,a4,a5,a6,a7,a8,a9⟩,-⟩:=hBx.drew.c10
    clear Ih abS
    go_cut [4]from 36 (fun s4 wc=>s4=.pointer (some ⟨r.g,0,none⟩)∧wc=w3.setCell ⟨r.g,2,none⟩ (.slice A3 (r.pr.length+1) c3))
    case first=>
     have hPA:H∉ah r.PA:=fun hk=>ik (h.Y3 acm H (by simp[aS.fp,hk]))
     have K1:=hBx.drew.alloc (.cells #[.int .i64 m.f,.bool m.so,.int .i64 m.hr,.int .i64 m.hs,.slice m.A m.n m.c] 340)
     have K3:=hBx.drew.upd uap hPA
     obtain⟨⟨b0,b1,b2,b3,b4,b5,b6,b7,b8,b9⟩,-⟩:=K1.c10
     obtain⟨⟨d0,d1,d2,d3,d4,d5,d6,d7,d8,d9⟩,-⟩:=K3.c10
     have hHr:H≠r.g:=fun e=>ik (by rw[e];exact h.Y3 acm r.g (by simp[aS.fp]))
     obtain⟨⟨k0,k1,k2,k3,k4,k5,k6,k7,k8,k9⟩,-⟩:=(K3.far (p:=⟨r.g,2,none⟩) hHr (.slice A3 (r.pr.length+1) c3)).c10
     clear P1 P2 h hx HR hpl ib iy pE hl
     refine wp_region_held_drew (S:=(fun w':World=>w'.cell? ⟨H,1,none⟩=some (.int .i64 m.f)∧w'.cell? ⟨H,8,none⟩=some (.bool m.so)∧w'.cell? ⟨H,6,none⟩=some (.int .i64 m.hr)∧w'.cell? ⟨H,7,none⟩=some (.int .i64 m.hs)∧w'.cell? ⟨H,9,none⟩=some (.slice m.A m.n m.c))) (by kernel_rfl) ⟨a1,a8,a6,a7,a9⟩ fun _=>?_
     refine aF 0 ?_
     refine aF 1 ?_
     refine aF 2 ?_
     refine aF 3 ?_
     refine aF 5 ?_
     refine aF 6 ?_
     refine aF 7 ?_
     refine aF 8 ?_
     refine aF 9 ?_
     refine aF 10 ?_
     refine aF 11 ?_
     refine aF 12 ?_
     refine aF 13 ?_
     refine wpAnyH_ready (rs:=[4,14]) (by kernel_rfl) (by simp) ?_
     refine AllReadyH.cons rfl (fun K hK=>?_) (.cons rfl (fun K hK=>?_) AllReadyH.nil)
     ·skip
      go_simp
      refine hK.out _ _ ?_ fun _=>?_
      ·(try dsimp only);(first|exact⟨a1,a8,a6,a7,a9⟩|exact⟨b1,b8,b6,b7,b9⟩|exact⟨d1,d8,d6,d7,d9⟩|exact⟨k1,k8,k6,k7,k9⟩)
      clear hK K
      try simp only[Act.put,setIfInBounds_toArray,set_cons_zero,set_cons_succ]
      refine wpAnyH_ready (rs:=[14]) (by kernel_rfl) (by simp) ?_
      refine AllReadyH.cons rfl (fun K hK=>?_) AllReadyH.nil
      go_simp
      refine hK.out _ _ ?_ fun _=>?_
      ·(try dsimp only);(first|exact⟨a1,a8,a6,a7,a9⟩|exact⟨b1,b8,b6,b7,b9⟩|exact⟨d1,d8,d6,d7,d9⟩|exact⟨k1,k8,k6,k7,k9⟩)
      clear hK K
      try simp only[Act.put,setIfInBounds_toArray,set_cons_zero,set_cons_succ]
      refine wpAnyH_ready (rs:=[15]) (by kernel_rfl) (by simp) ?_
      refine AllReadyH.cons rfl (fun K hK=>?_) AllReadyH.nil
      refine qo rfl (.tmp 40) (.tmp 50) 129 rfl (.slice r.PA r.pr.length r.pc) (.slice (some ⟨X.drew.heap.size,0,none⟩) 1 1) _ w3 rfl rfl ai7 ?_
      refine hK.out _ _ ?_ fun _=>?_
      ·(try dsimp only);(first|exact⟨a1,a8,a6,a7,a9⟩|exact⟨b1,b8,b6,b7,b9⟩|exact⟨d1,d8,d6,d7,d9⟩|exact⟨k1,k8,k6,k7,k9⟩)
      clear hK K
      try simp only[Act.put,setIfInBounds_toArray,set_cons_zero]
      refine aF 16 ?_
      refine aF 17 ?_
      refine wpAnyH_ready (rs:=[18]) (by kernel_rfl) (by simp) ?_
      refine AllReadyH.cons rfl (fun K hK=>?_) AllReadyH.nil
      go_simp
      refine hK.out _ _ ?_ fun _=>?_
      ·(try dsimp only);(first|exact⟨a1,a8,a6,a7,a9⟩|exact⟨b1,b8,b6,b7,b9⟩|exact⟨d1,d8,d6,d7,d9⟩|exact⟨k1,k8,k6,k7,k9⟩)
      clear hK K
      try simp only[Act.put,setIfInBounds_toArray,set_cons_zero,set_cons_succ]
      refine dnH ?_ _
      refine wk ?_
      go_meet
      exact⟨rfl,rfl⟩
     ·skip
      go_simp
      refine hK.out _ _ ?_ fun _=>?_
      ·(try dsimp only);(first|exact⟨a1,a8,a6,a7,a9⟩|exact⟨b1,b8,b6,b7,b9⟩|exact⟨d1,d8,d6,d7,d9⟩|exact⟨k1,k8,k6,k7,k9⟩)
      clear hK K
      try simp only[Act.put,setIfInBounds_toArray,set_cons_zero,set_cons_succ]
      refine wpAnyH_ready (rs:=[4]) (by kernel_rfl) (by simp) ?_
      refine AllReadyH.cons rfl (fun K hK=>?_) AllReadyH.nil
      go_simp
      refine hK.out _ _ ?_ fun _=>?_
      ·(try dsimp only);(first|exact⟨a1,a8,a6,a7,a9⟩|exact⟨b1,b8,b6,b7,b9⟩|exact⟨d1,d8,d6,d7,d9⟩|exact⟨k1,k8,k6,k7,k9⟩)
      clear hK K
      try simp only[Act.put,setIfInBounds_toArray,set_cons_zero,set_cons_succ]
      refine wpAnyH_ready (rs:=[15]) (by kernel_rfl) (by simp) ?_
      refine AllReadyH.cons rfl (fun K hK=>?_) AllReadyH.nil
      refine qo rfl (.tmp 40) (.tmp 50) 129 rfl (.slice r.PA r.pr.length r.pc) (.slice (some ⟨X.drew.heap.size,0,none⟩) 1 1) _ w3 rfl rfl ai7 ?_
      refine hK.out _ _ ?_ fun _=>?_
      ·(try dsimp only);(first|exact⟨a1,a8,a6,a7,a9⟩|exact⟨b1,b8,b6,b7,b9⟩|exact⟨d1,d8,d6,d7,d9⟩|exact⟨k1,k8,k6,k7,k9⟩)
      clear hK K
      try simp only[Act.put,setIfInBounds_toArray,set_cons_zero]
      refine aF 16 ?_
      refine aF 17 ?_
      refine wpAnyH_ready (rs:=[18]) (by kernel_rfl) (by simp) ?_
      refine AllReadyH.cons rfl (fun K hK=>?_) AllReadyH.nil
      go_simp
      refine hK.out _ _ ?_ fun _=>?_
      ·(try dsimp only);(first|exact⟨a1,a8,a6,a7,a9⟩|exact⟨b1,b8,b6,b7,b9⟩|exact⟨d1,d8,d6,d7,d9⟩|exact⟨k1,k8,k6,k7,k9⟩)
      clear hK K
      try simp only[Act.put,setIfInBounds_toArray,set_cons_zero,set_cons_succ]
      refine dnH ?_ _
      refine wk ?_
      go_meet
      exact⟨rfl,rfl⟩
    case rest=>
     obtain⟨rfl,hwc⟩:=hcut
     rw[←hwc]at P1 P2
     obtain⟨r2,hr2⟩:∃r2:aS,{r with PA:=A3,pc:=c3,pr:=r.pr++[pm]} =r2:=⟨_,rfl⟩
     obtain⟨M2,hM2⟩:∃M2:af,{M with rs:=aG m.s r2 M.rs} =M2:=⟨_,rfl⟩
     rw[hr2,hM2]at P1 P2
     have Ii:M2.pl= {M.pl with rs:=aG m.s r2.pl M.pl.rs}:=by rw[←hM2];unfold af.pl;simp only[fE]
     have hgs:M2.gs=M.gs:=by rw[←hM2]
     have hn2:M2.n=M.n:=by rw[←hM2]
     have Ij:M2.me=M.me:=by rw[←hM2]
     have Ww:M2.held=M.held:=by rw[←hM2]
     have hl2:aC m.s M2.rs=some r2:=by rw[←hM2,kC,if_pos rfl]
     have hm2:(m.s,r2)∈M2.rs:=aY hl2
     have hR2:=P1.bV _ hm2
     have hg2:r2.g=r.g:=by rw[←hr2]
     have hb2:r2.ax=r.ax:=by rw[←hr2]
     have aio:r2.so=false:=by rw[←hr2];exact hso
     have Ik:r2.pl= {r.pl with pr:=r.pl.pr++[pm.pl]}:=by rw[←hr2];simp[aS.pl]
     have tK:r2.pr.length≤1000000000:=by rw[←hr2,length_append];have:=pE _ acm;simp only[length_cons,length_nil]at this ⊢;omega
     have hBw:ak wc H 32 #[.int .i64 m.k,.int .i64 m.f,.int .i64 m.t,.int .i64 m.s,.int .i64 m.br,.int .i64 m.bs,.int .i64 m.hr,.int .i64 m.hs,.bool m.so,.slice m.A m.n m.c]:=hBx.drew.upd P2 ik
     have UW:aa M.fp M2.fp w wc:=((dm.trans UX).drew.up M.fp).trans P2
     have Tc:pm.pl=⟨m.ms.bO,m.ms.some_,m.ms.had,m.ms.val⟩:=by rw[←hpm];rfl
     have xU:=hdn (show R=match gZ (r2.pr.map bq.pl) M.n with
       |none=>M2.pl
       |some v=>match M2.pl.accept m.s r.ax v with
        |none=>{M2.pl with rs:=dD m.s M2.pl.rs}
        |some u=>(({u with rs:=aG m.s {r2.pl with so:=true,b:=v} u.rs} :Site).others (Site.asks {r2.pl with so:=true,b:=v} m.s) M.n).send M.me (Site.dW m.s r.ax) by
      rw[←HR.out,Ii];unfold Site.promised;rw[hpl]
      simp only[Option.map_some]
      rw[if_pos ⟨Mc.out,hso⟩]
      rw[show r2.pr.map bq.pl=r.pl.pr++[⟨m.ms.bO,m.ms.some_,m.ms.had,m.ms.val⟩]from by rw[show r2.pr.map bq.pl=r2.pl.pr from rfl,Ik,Tc]]
      rw[Ik,Tc]
      rfl)
     have uO:=hBw.lt
     have hH2:H∉M2.fp:=P2.eQ ik hBx.lt
     have hbb:r.ax.may 7=true:=by have:=(h.ok.rs (m.s,r.pl) (mem_map.2 ⟨_,acm,rfl⟩)).2.2.2.1;exact this
     have hq2:∀y∈r2.pr,aD wc y.s.A y.s.n y.s.b∧y.s.b.length≤2048:=fun y hy=>by
      have h1:=P1.o8 hm2 (x:=y.s) (by simp only[aS.bytes,mem_cons];exact .inr (mem_map_of_mem hy))
      have h2:=(P1.ok.rs (m.s,r2.pl) (mem_map.2 ⟨_,hm2,rfl⟩)).2.2.2.2 y.pl (mem_map_of_mem hy)
      exact⟨h1.1.rd,h2⟩
     clear hpl HR ai7 g5 f5 s5 Y2 hr2 hM2 hx hBx UX P2 h1 h a0 a1 a2 a3 a4 a5 a6 a7 a8 a9 hwc Ii Tc hpm hfx
     obtain⟨⟨g0,g1,g2,g3,g4,g5,g6⟩,-⟩:=hR2.blk.c7
     rw[hg2]at g0 g1 g2 g3 g4 g5 g6
     have C4:=Oa wc.drew r2.PA r2.pc r2.pr ⟨rfl,hR2.EE.rd⟩ tK (fun k hk=>hR2.EE.lt k hk) (fun y hy=>⟨((hq2 y hy).1).upd (aa.refl [] wc).drew (by simp),(hq2 y hy).2⟩) M.n Eg.n7
     have q1:wc.cell? ⟨M.gs,1,none⟩=some (.int .i64 (M.n:Int)):=by have:=P1.blk.cell 1;rw[hgs]at this;rw[this,←hn2];rfl
     have Td:∀v,gZ (r2.pr.map bq.pl) M.n=some v→v.length≤2048:=fun v hv=>Cq (fun p hp=>by
      obtain⟨y,hy,rfl⟩:=mem_map.1 hp
      exact(hq2 y hy).2) hv
     obtain⟨CH,hCH⟩:=ex1 (gZ (r2.pr.map bq.pl) M.n)
     rw[hCH]at C4 xU
     simp only[hCH]at Td
     clear hCH hq2
     obtain⟨wo,hwo⟩:∃x,wc=x:=⟨_,rfl⟩
     rw[hwo]at C4 g2 q1 P1 UW hBw hR2 ⊢
     clear g0 g1 g3 g4 g5 g6 hwo
     have Y4:wo.drew.cell? ⟨r.g,2,none⟩=some (.slice r2.PA r2.pr.length r2.pc):=g2
     have EW:wo.drew.cell? ⟨M.gs,1,none⟩=some (.int .i64 (M.n:Int)):=q1
     go_upto_region 4 with fail
     go_cut [6,7]from 54 (fun s6 s7 wc=>∃(A4:Option Addr)(k4 c4:Nat),s6=.slice A4 k4 c4∧s7=.bool CH.isSome∧aT 5 wc A4 k4 c4 (CH.getD [])∧(∀k∈ah A4,wo.heap.size≤k)∧aa [] [] wo wc)
     case first=>
      clear P1 UW hBw hR2 xU Td
      go_region_held3 (fun w'=>w'.cell? ⟨r.g,2,none⟩=some (.slice r2.PA r2.pr.length r2.pc)∧w'.cell? ⟨M.gs,1,none⟩=some (.int .i64 (M.n:Int))) (first|exact⟨Y4,EW⟩|exact⟨g2e,q1e⟩)
       (
        first
        |(go_at_call 249;(with_reducible refine C4.mono ?_);rintro e w4 ⟨A4,k4,c4,rfl,bY,bM⟩;have g2e:=bM.cell Y4 (by simp);have q1e:=bM.cell EW (by simp)))
      all_goals (refine bN ?_)
      all_goals go_meet
      all_goals exact⟨A4,k4,c4,rfl,rfl,bY,(aa.refl [] wo).drew.new bM,((aa.refl [] wo).drew.trans bM).gives⟩
     case rest=>
     obtain⟨A4,k4,c4,rfl,rfl,bY,qf,nI⟩:=hcut
     obtain⟨w4,hw4⟩:∃x,wc=x:=⟨_,rfl⟩
     rw[hw4]at bY nI ⊢
     clear hw4
     have h4:=P1.au nI
     have nO:=hR2.upd nI (by simp)
     have hB4:=hBw.upd nI (by simp)
     have U4:aa M.fp M2.fp w w4:=UW.trans (nI.up M2.fp)
     clear C4 nI UW hBw hR2 g2 q1 Y4 EW
     cases CH with
     |none=>
      refine wk ?_
      exact enT ⟨rfl,M2,h4,xU.out.symm,hgs,U4⟩
     |some v=>
      have hvv:=Td v rfl
      have hv4:aD w4 A4 k4 v:=bY.rd
      have Ob:∀k∈ah A4,k∉M2.fp:=fun k hk hm=>by have h7:=qf k hk;have h8:=P1.lt k hm;omega
      have aeG:∀k∈ah A4,k∉(eU.X:List Nat):=fun k hk hm=>by have h7:=qf k hk;have h8:=P1.qW k hm;omega
      have C5:=pg w4.drew M2 h4.drew m.s (by omega) r.ax hbb A4 k4 c4 v (hv4.upd (aa.refl [] w4).drew (by simp)) Ob hvv
      obtain⟨⟨g0,g1,g2,g3,g4,g5,g6⟩,-⟩:=nO.blk.c7
      obtain⟨⟨b0,b1,b2,b3,b4,b5,b6,b7,b8,b9⟩,-⟩:=hB4.c10
      rw[hg2,hb2]at g0 g1
      simp only[af.ptr,hgs,Bl.val]at C5
      have T4:dF w4 ⟨A4,k4,c4,v⟩:=⟨bY.rd,bY.own.tag⟩
      clear P1
      cases abU:M2.pl.accept m.s r.ax v with
      |none=>
       rw[abU]at C5
       have nQ:=hdn (show R= {M2.pl with rs:=dD m.s M2.pl.rs} by rw[xU.out];simp only[abU])
       clear xU abU qf
       repeat' go_step
       go_still_tail 8,(by kernel_rfl)
       change wpList _ _ _ _ _ w4.drew
       repeat' go_step
       refine C5.mono ?_;rintro e w5 ⟨rfl,M5,h5,sW,hg5,-,U5⟩
       replace sW:M5.pl=M2.pl:=sW
       have fw:=hB4.drew.upd U5 hH2
       clear g0 g1 g2 g3 g4 g5 g6 b0 b1 b2 b3 b4 b5 b6 b7 b8 b9 C5
       obtain⟨⟨b0,b1,b2,b3,b4,b5,b6,b7,b8,b9⟩,-⟩:=fw.drew.c10
       have q8:w5.drew.cell? ⟨M.gs,8,none⟩=some (.map (some M5.br)):=by rw[←hgs,←hg5];exact h5.blk.cell 8
       obtain⟨w6,WA,Md,eP⟩:=h5.drew.nN.drop underlying3 underlying119 (jV (by omega) (by omega):(Lit.int .i64 m.s).wf=true) 0
       rw[Cr,←mI]at Md
       obtain⟨h6,V6⟩:=h5.drew.qx m.s eP Md
       have KEY:=hdn (show Gone w w6 M R from⟨_,h6,by
        rw[nQ.out,←sW]
        unfold af.pl
        simp only[mI],hg5.trans hgs,((U4.drew.trans U5).drew).trans V6⟩)
       clear h6 V6 Md eP U5 U4 h5 h4 fw hB4 nO
       repeat' first|go_step|simp only[];go_at_K
       go_still_tail 7,(by kernel_rfl)
       change wpList _ _ _ _ _ w5.drew
       refine bN ?_
       first
        |exact enT ⟨rfl,KEY.out⟩
        |exact enR ⟨rfl,KEY.out⟩
      |some t=>
       rw[abU]at C5
       have nQ:=hdn (show R=(({t with rs:=aG m.s {r2.pl with so:=true,b:=v} t.rs} :Site).others (Site.asks {r2.pl with so:=true,b:=v} m.s) M.n).send M.me (Site.dW m.s r.ax) by rw[xU.out];simp only[abU])
       obtain⟨tm,tn,PV,PW,-⟩:=Site.gD abU
       clear xU abU qf
       repeat' go_step
       go_still_tail 8,(by kernel_rfl)
       change wpList _ _ _ _ _ w4.drew
       repeat' go_step
       refine C5.mono ?_;rintro e w5 ⟨rfl,M5,h5,sW,hg5,PX,U5⟩
       replace sW:M5.pl=t:=sW
       have aeH:M5.gs=M.gs:=hg5.trans hgs
       have hl5:aC m.s M5.rs=some r2:=by rw[PX];exact hl2
       have tL:=h5.bV _ (aY hl5)
       have fw:=hB4.drew.upd U5 hH2
       have hH5:H∉M5.fp:=U5.eQ hH2 (by have:=hB4.lt;exact this)
       have T5:=(T4.au (aa.refl [] w4).drew).upd U5 Ob
       have Te:∀k∈ah A4,k∉M5.fp:=fun k hk=>U5.eQ (Ob k hk) (iI (T4.tag k hk))
       have n5:M5.n=M.n:=(congrArg Site.n sW).trans (tn.trans hn2)
       have Y5:M5.me=M.me:=(congrArg Site.me sW).trans (tm.trans Ij)
       have l5:M5.held.length=M.held.length:=by have:=congrArg (fun z:Site=>z.held.length) sW;simp only[af.bf,PV]at this;rw[this,Ww]
       clear g0 g1 g2 g3 g4 g5 g6 b0 b1 b2 b3 b4 b5 b6 b7 b8 b9 C5 nO hB4 T4
       obtain⟨⟨g0,g1,g2,g3,g4,g5,g6⟩,f0,f1,f2,f3,f4,f5,f6⟩:=tL.blk.c7
       have KB:=((tL.blk.aO 3 (.bool true)).aO 4 (.slice A4 k4 c4))
       rw[hg2]at g0 g1 g2 g3 g4 g5 g6 f0 f1 f2 f3 f4 f5 f6 KB
       have u6:aa [r.g] [r.g] w5 ((w5.setCell ⟨r.g,3,none⟩ (.bool true)).setCell ⟨r.g,4,none⟩ (.slice A4 k4 c4)):=(((aa.refl [r.g] w5).setCell (p:=⟨r.g,3,none⟩) (.inl (by simp)) _).setCell (p:=⟨r.g,4,none⟩) (.inl (by simp)) _)
       obtain⟨r3,hr3⟩:∃r3:aS,{r2 with so:=true,v:=⟨A4,k4,c4,v⟩} =r3:=⟨_,rfl⟩
       have hX:∀k∈[r.g],bW w5 k=some (some 132):=by simp only[mem_singleton];rintro k rfl;have:=tL.tg;rw[hg2]at this;exact this
       obtain⟨h6,V6⟩:=h5.NJ hl5 r3 (by rw[←hr3]) (X:=[r.g]) (fun k hk=>by rw[mem_singleton.1 hk];simp[aS.fp,hg2]) u6
        ⟨by rw[←hr3];show ak _ r2.g _ #[.int .i64 r2.ax.r,.int .i64 r2.ax.s,.slice r2.PA r2.pr.length r2.pc,.bool true,.slice A4 k4 c4,.slice r2.VA r2.vt.length r2.vc,.int .i64 (r2.bG:Int)];rw[hg2];simpa using KB,by rw[←hr3];exact tL.EE.upd u6 (bX tL.tP hX (by decide)),by rw[←hr3];exact tL.G8.upd u6 (bX tL.tV hX (by decide))⟩
        (fun k hk=>by rw[←hr3]at hk;exact .inl hk) (fun k hk=>by rw[←hr3]at hk;exact .inl hk)
        (
         fun y hy=>by
         rw[←hr3]at hy
         simp only[aS.bytes,mem_cons]at hy
         rcases hy with rfl|hy
         ·exact⟨T5,fun k hk hm=>(by rcases mem_append.1 hm with hm|hm;exact Te k hk (by simp[af.fp,hm]);exact aeG k hk hm)⟩
         ·exact h5.o8 (aY hl5) (by simp only[aS.bytes,mem_cons];exact .inr hy))
        (
         by
         have:=(h5.ok.rs (m.s,r2.pl) (mem_map.2 ⟨_,aY hl5,rfl⟩)).2.2
         rw[←hr3]
         exact⟨hvv,this.2.1,this.2.2⟩)
       obtain⟨M6,EX⟩:∃M6:af,{M5 with rs:=aG m.s r3 M5.rs} =M6:=⟨_,rfl⟩
       rw[EX]at h6 V6
       have iY:M6.pl= {t with rs:=aG m.s {r2.pl with so:=true,b:=v} t.rs}:=by
        rw[←EX,show({M5 with rs:=aG m.s r3 M5.rs} :af).pl= {M5.pl with rs:=aG m.s r3.pl M5.pl.rs}from by unfold af.pl;simp only[fE],sW,←hr3]
        rfl
       have jy:M6.gs=M.gs:=by rw[←EX];exact aeH
       have n6:M6.n=M.n:=by rw[←EX];exact n5
       have Me:M6.me=M.me:=by rw[←EX];exact Y5
       have l6:M6.held.length≤900000000:=by rw[←EX];show M5.held.length≤_;omega
       have Md:(m.s,r3)∈M6.rs:=by rw[←EX];exact eY.2 (.inl rfl)
       have qd:ic r3 m.s=⟨if r.ax.r=0 then 1 else 5,0,0,m.s,r.ax.r,r.ax.s,r.ax.r,r.ax.s,true,A4,k4,c4,v⟩:=by rw[←hr3];simp[ic,hb2]
       have Y6:r3.pl= {r2.pl with so:=true,b:=v}:=by rw[←hr3];rfl
       have hms:(ic r3 m.s).ms=Site.asks {r2.pl with so:=true,b:=v} m.s:=by rw[LW,Y6]
       have Cs:(ic r3 m.s).ms.Fit:=by rw[hms];exact Site.iT (by omega) (by show r2.ax.may 7=true;rw[hb2];exact hbb) hvv
       obtain⟨w6,YT⟩:∃X,(w5.setCell ⟨r.g,3,none⟩ (.bool true)).setCell ⟨r.g,4,none⟩ (.slice A4 k4 c4)=X:=⟨_,rfl⟩
       rw[YT]at h6 V6 u6 KB
       have T6:=T5.upd u6 (bX T5.tag hX (by decide))
       have aeI:∀k∈ah A4,k∉M6.fp:=fun k hk=>V6.eQ (Te k hk) (iI (T5.tag k hk))
       have dK:=fw.upd V6 hH5
       have hH6:H∉M6.fp:=V6.eQ hH5 (by have:=fw.lt;exact this)
       have C9:=wR w6 r3 (h6.bV _ Md) m.s
       have tN:=fun(w7:World)(hu:aa [] [] w6 w7)=>kL w7 M6 (h6.au hu) (ic r3 m.s) Cs (by rw[qd];exact(T6.au hu).rd) (by rw[qd];exact aeI) l6
       have xR:r3.ptr=.pointer (some ⟨r.g,0,none⟩):=by rw[←hr3,←hg2];rfl
       simp only[hms,iY,n6,af.ptr,jy]at tN
       rw[xR]at C9
       obtain⟨av,Tf⟩:∃z,(ic r3 m.s).val=z:=⟨_,rfl⟩
       rw[Tf]at C9
       simp only[Tf]at tN
       have U6:=(U4.drew.trans U5).trans V6
       obtain⟨⟨b0,b1,b2,b3,b4,b5,b6,b7,b8,b9⟩,-⟩:=dK.c10
       have HW6:=hdn YT
       have Y7:r3.ax=r.ax:=by rw[←hr3];exact hb2
       have Y8:r3.g=r.g:=by rw[←hr3];exact hg2
       clear hr3 EX KB u6 h5 V6 T5 tL fw hX qd hms Cs Tf U4 U5 h4 Y6 xR Ob Te bY hv4
       repeat' first|go_step|simp only[];go_at_K
       refine C9.mono ?_;rintro e w7 ⟨rfl,gJ⟩
       repeat' first|go_step|simp only[];go_at_K
       refine(tN w7 gJ).mono ?_;rintro e w8 ⟨rfl,M8,h8,yF,Il,yG,U8⟩
       have g8:M8.gs=M.gs:=Il.trans jy
       have me8:M8.me=M.me:=by
        have:=congrArg Site.me yF
        rw[(Site.fJ _ _).1]at this
        exact this.trans (tm.trans Ij)
       have PY:=h8.bV (m.s,r3) (by rw[yG];exact Md)
       have yx:=(dK.upd gJ).upd U8 hH6
       have hh8:M8.held.length≤1000000000:=by
        have h1:M8.held.length=M.held.length+(({t with rs:=aG m.s {r2.pl with so:=true,b:=v} t.rs} :Site).tell (Site.asks {r2.pl with so:=true,b:=v} m.s) M.n).length:=by
         rw[←af.bf,yF,Site.bH]
         show(t.held++_).length=_
         rw[length_append,PV,af.bf,Ww]
        have h7:M.n≤7:=Eg.n7
        have:=Site.gQ ({t with rs:=aG m.s {r2.pl with so:=true,b:=v} t.rs} :Site) (Site.asks {r2.pl with so:=true,b:=v} m.s) M.n
        omega
       have z0:w8.drew.cell? ⟨M.gs,0,none⟩=some (.int .i64 (M.me:Int)):=by rw[←g8,←me8];exact h8.blk.cell 0
       have z1:w8.drew.cell? ⟨r.g,0,none⟩=some (.int .i64 r.ax.r):=by rw[←Y8,←Y7];exact PY.blk.cell 0
       have z2:w8.drew.cell? ⟨r.g,1,none⟩=some (.int .i64 r.ax.s):=by rw[←Y8,←Y7];exact PY.blk.cell 1
       have z3:w8.drew.cell? ⟨H,3,none⟩=some (.int .i64 m.s):=yx.cell 3
       have uN:=jL w8.drew M8 h8.drew (M.me:Int) ⟨6,0,0,m.s,r.ax.r,r.ax.s,0,0,false,none,0,0,[]⟩ (Site.kz (x:=m.s) (b:=r.ax) (by omega) hbb) (by have h3:=Eg.me;have h4:=Eg.n7;have e3:M.pl.me=M.me:=rfl;have e4:M.pl.n=M.n:=rfl;omega) (aD.nil _ _) hh8
       rw[yF]at uN
       simp only[af.ptr,Mv.aH,g8]at uN
       have U9:=(((U6.trans (gJ.up M6.fp)).trans U8).drew)
       clear C9 tN h6 h8 PY dK yx b0 b1 b2 b3 b4 b5 b6 b7 b8 b9 T6 U6 U8 gJ
       refine wk ?_
       go_still_tail 12,(by kernel_rfl)
       change wpList _ _ _ _ _ w8.drew
       repeat' go_step
       refine uN.mono ?_;rintro e w9 ⟨rfl,M9,h9,yH,Im,-,Mf⟩
       refine wk ?_
       exact enR ⟨rfl,M9,h9,yH.trans nQ.out.symm,Im.trans g8,U9.trans Mf⟩
  ·have e2:((r.ax.r==m.br)&&(r.ax.s==m.bs))=false:=by
    rw[Bool.and_eq_false_iff]
    by_cases h1:r.ax.r=m.br
    ·right
     have:r.ax.s≠m.bs:=fun h2=>hb (by rw[←h1,←h2])
     simp[this]
    ·left;simp[h1]
   rw[e2]at E1
   simp only[Bool.not_false]at E1
   have dN:R=M.pl:=by
    rw[←HR.out];unfold Site.promised;rw[hpl]
    exact if_neg (fun hc=>hb hc.1)
   have K:=hdn (fun N N'=>ado ((W.drewN N).drewN N') (((aa.refl [] W).drewN N).drewN N') dN)
   clear ado hpl hb e2
   go_enter func194,ntmps194
   repeat' go_step
   go_quiet (fail)
   repeat' go_step
   go_quiet (fail)
   refine wk ?_
   exact enT ⟨rfl,K.out _ _⟩
end Go.Proofs.YtijhlbeipglieaaGreat
namespace aA
open Go Go.Proofs.YtijhlbeipglieaaGreat List
def oD(D:Int→Option (List UInt8))(s n:Nat):List Int:=((range' s n).map fun(i:Nat)=>(i:Int)).filter fun x=>(D x).isSome
theorem yI(D:Int→Option (List UInt8))(s n:Nat):oD D s (n+1)=oD D s n++(if(D ((s+n:Nat):Int)).isSome then[((s+n:Nat):Int)] else[]):=by
 unfold oD
 rw[range'_concat,map_append,filter_append]
 congr 1
 simp only[Nat.one_mul,map_cons,map_nil,filter_cons,filter_nil]
theorem Tg(D:Int→Option (List UInt8))(s n m:Nat):oD D s (n+m)=oD D s n++oD D (s+n) m:=by
 induction m with
 |zero=>simp[oD]
 |succ m ih=>rw[←Nat.add_assoc,yI,ih,yI,append_assoc,Nat.add_assoc]
theorem EY(D:Int→Option (List UInt8))(s n N:Nat)(h:n≤N)(hl:(oD D s n).length≤16)(he:n=N∨(oD D s n).length=16):(oD D s N).take 16=oD D s n:=by
 rcases he with rfl|he
 ·exact take_of_length_le hl
 ·obtain⟨m,rfl⟩:∃m,N=n+m:=⟨N - n,by omega⟩
  rw[Tg,take_append_of_le_length (by omega),take_of_length_le hl]
def Site.lN(D:Int→Option (List UInt8))(to:Int)(s:Site)(l:List Int):Site:=l.foldl (fun u x=>u.send to (Site.tells x ((D x).getD []))) s
theorem Site.Io(D:Int→Option (List UInt8))(to:Int)(s:Site)(l:List Int)(x:Int):Site.lN D to s (l++[x])=(Site.lN D to s l).send to (Site.tells x ((D x).getD [])):=by
 unfold Site.lN;rw[foldl_append];rfl
theorem Site.xu:∀(f c:Nat)(s:Site)(to:Int),c≤8→(Site.eG f c s to).held.length≤s.held.length+(s.n+1)*(8-c)
 |0,_,_,_,_=>by unfold Site.eG;omega
 |f+1,c,s,to,hc=>by
  unfold Site.eG
  split
  ·omega
  split
  ·omega
  split
  ·split
   ·omega
   ·rename_i t ha
    have k:=Site.mY ha
    have h0:t.held=s.held:=(Site.gD ha).2.2.1
    have:=Site.xu f (c+1) (t.jv s.ownB (aZ s.me s.nx s.n)) to (by omega)
    have h1:(t.jv s.ownB (aZ s.me s.nx s.n)).held.length≤s.held.length+s.n+1:=by
     unfold Site.jv Site.send
     rw[Site.bH]
     have h2:=Site.gQ t (Site.fV (aZ s.me s.nx s.n) s.ownB) t.n
     have h3:=k.n
     simp only[length_append,length_cons,length_nil,h0]
     omega
    have h4:(t.jv s.ownB (aZ s.me s.nx s.n)).n=s.n:=(Site.EZ _ _ _).n.trans k.n
    rw[h4]at this
    have h5:(s.n+1)*(8-c)=(s.n+1)*(8-(c+1))+(s.n+1):=by
     have:8-c=(8-(c+1))+1:=by omega
     rw[this,Nat.mul_add,Nat.mul_one]
    omega
  ·exact Site.xu f c {s with nx:=(aZ s.me s.nx s.n+1).toNat} to hc
theorem Site.Ct(s:Site)(to:Int)(h7:s.n≤7):(s.skip to).held.length≤s.held.length+64:=by
 have:=Site.xu 4098 0 s to (by omega)
 unfold Site.skip
 have h2:(s.n+1)*(8-0)≤64:=by have:8-0=8:=rfl;rw[this];omega
 omega
theorem Site.Ak(D:Int→Option (List UInt8))(to:Int):∀(l:List Int)(s:Site)(x:Int),(Site.lN D to s l).dec x=s.dec x
 |[],_,_=>rfl
 |y::l,s,x=>Site.Ak D to l (s.send to (Site.tells y ((D y).getD []))) x
theorem xw{α:Type}(L:AL α)(h:∀p∈L,0≤p.1∧p.1<4096):0≤fQ L∧fQ L≤4096:=by
 unfold fQ
 have:∀(L:AL α)(m:Int),(∀p∈L,0≤p.1∧p.1<4096)→0≤m→m≤4096→0≤L.foldl (fun m p=>max m (p.1+1)) m∧L.foldl (fun m p=>max m (p.1+1)) m≤4096:=by
  intro L
  induction L with
  |nil=>exact fun m _ h0 h1=>⟨h0,h1⟩
  |cons p L ih=>
   intro m hp h0 h1
   have:=hp p (by simp)
   exact ih _ (fun q hq=>hp q (mem_cons_of_mem _ hq)) (by show 0≤max m (p.1+1);omega) (by show max m (p.1+1)≤4096;omega)
 exact this L 0 h (by omega) (by omega)
end aA
namespace Go.Proofs.YtijhlbeipglieaaGreat
open Go.RowKit aA Go.Maps Tryz List
variable [eU]
theorem Oc(w:World)(M:af)(h:ay w M)(m:Mv)(hm:m.ms.May)(hl:M.held.length≤600000000) :
  Calls prog 198 #[M.ptr,m.val] w fun e w'=>e=.returned (.tuple #[])∧Gone w w' M (M.pl.wanted m.ms):=by
 obtain⟨W,H,eW,hH,hB,U0⟩:=az w 32 #[.int .i64 m.k,.int .i64 m.f,.int .i64 m.t,.int .i64 m.s,.int .i64 m.br,.int .i64 m.bs,.int .i64 m.hr,.int .i64 m.hs,.bool m.so,.slice m.A m.n m.c]
 have h1:=h.au U0
 have dm:=U0.g0
 have qK:0≤m.s∧m.s≤4095:=hm.slot
 have xm:0≤m.f∧m.f≤6:=hm.bO
 have ik:H∉M.fp:=fun hk=>by have:=h.lt H hk;omega
 have hwf:(Lit.int .i64 m.s).wf=true:=jV (by omega) (by omega)
 obtain⟨T,hT⟩:∃T,(if m.so=true∧M.pl.dec m.s=none∧aV m.s M.n=M.me then M.pl.skip (m.s+1)else M.pl)=T:=⟨_,rfl⟩
 have HT:=hdn hT
 obtain⟨R,hR⟩:=ex1 (M.pl.wanted m.ms)
 have HR:=hdn (show R=Site.lN T.dec m.f T ((oD T.dec m.s.toNat ((fQ T.lv).toNat-m.s.toNat)).take 16) by rw[←hR,←hT];rfl)
 rw[hR]
 clear hR hT
 obtain⟨dn,hdU⟩:∃d,(M.pl.dec m.s).isSome=d:=⟨_,rfl⟩
 have C1:=qy W.drew M.gl M.bl M.lv M.taken h1.drew.jm h1.drew.yJ m.s hwf
 have hdl:(aC m.s M.lv).isSome=dn:=by rw[←hdU,af.qX,Option.isSome_map]
 rw[hdl]at C1
 have uP:=hdn hdU
 have q7:W.drew.cell? ⟨M.gs,7,none⟩=some (.pointer (some ⟨M.gl,0,none⟩)):=h1.blk.cell 7
 have a3:W.drew.cell? ⟨H,3,none⟩=some (.int .i64 m.s):=hB.cell 3
 rw[af.ptr,Mv.aH]
 clear hdU hdl
 go_enter func198,ntmps198
 repeat' go_step
 go_upto_region 1 with fail
 go_cut [5]from 11 (fun s5 wc=>s5=.bool dn∧aa [] [] W wc)
 case first=>
  go_region_held3 (fun w'=>w'.cell? ⟨M.gs,7,none⟩=some (.pointer (some ⟨M.gl,0,none⟩))∧w'.cell? ⟨H,3,none⟩=some (.int .i64 m.s)) (first|exact⟨q7,a3⟩|exact⟨Y9,Za⟩)
   (
    first
    |(go_at_call 93;(with_reducible refine C1.mono ?_);rintro e w1 ⟨A1,n1,c1,rfl,ho1,hu1⟩;have Y9:=hu1.cell q7 (by simp);have Za:=hu1.cell a3 (by simp)))
  all_goals (refine bN ?_)
  all_goals go_meet
  all_goals exact⟨rfl,((aa.refl [] W).drew.trans hu1).gives⟩
 case rest=>
  obtain⟨rfl,U1⟩:=hcut
  have h2:=h1.au U1
  have hB2:=hB.upd U1
  have UW:=dm.trans U1
  have Zb:∀N,(wc.drewN N).cell? ⟨H,8,none⟩=some (.bool m.so):=fun N=>hB2.cell 8
  have Ma:∀N,(wc.drewN N).cell? ⟨H,3,none⟩=some (.int .i64 m.s):=fun N=>hB2.cell 3
  have g0N:∀N,(wc.drewN N).cell? ⟨M.gs,0,none⟩=some (.int .i64 (M.me:Int)):=fun N=>h2.blk.cell 0
  have g1N:∀N,(wc.drewN N).cell? ⟨M.gs,1,none⟩=some (.int .i64 (M.n:Int)):=fun N=>h2.blk.cell 1
  obtain⟨wo,hwo⟩:∃x,wc=x:=⟨_,rfl⟩
  simp only[hwo]at h2 hB2 UW Zb Ma g0N g1N
  rw[hwo]
  clear hwo U1 C1 q7 a3 h1
  have CO:=fun N=>sD (wo.drewN N) m.s M.n
  obtain⟨D,hD⟩:=ex1 ((m.so&&(!dn&&(aV m.s M.n==(M.me:Int)))))
  have HD:=hdn hD
  obtain⟨so,hse⟩:=ex1 m.so
  obtain⟨o,ho⟩:=ex1 (aV m.s M.n)
  have PZ:=hdn hse
  have HO:=hdn ho
  simp only[hse]at Zb
  simp only[ho]at CO
  rw[hse,ho]at HD
  clear hD hse ho
  go_upto_region 2 with fail
  go_cut [41]from 22 (fun s41 wc=>s41=.bool D∧aa [] [] wo wc)
  case first=>
   clear h2 hB2 UW HR HT
   cases so with
   |false=>
    have dO:=HD.out
    simp only[Bool.false_and]at dO
    subst dO
    go_quiet (with_reducible exact iU (CO _))
    refine wk ?_
    go_meet
    exact⟨rfl,(aa.refl [] wo).drewN _⟩
   |true=>
    cases dn with
    |true=>
     have dO:=HD.out
     simp only[Bool.not_true,Bool.false_and,Bool.and_false]at dO
     subst dO
     go_quiet (with_reducible exact iU (CO _))
     refine wk ?_
     go_meet
     exact⟨rfl,(aa.refl [] wo).drewN _⟩
    |false=>
     have dO:=HD.out
     simp only[Bool.not_false,Bool.true_and]at dO
     have HDF:=hdn dO
     clear dO
     go_quiet (with_reducible exact iU (CO _))
     refine wk ?_
     go_meet
     exact⟨by rw[HDF.out],(aa.refl [] wo).drewN _⟩
  case rest=>
   obtain⟨rfl,U2⟩:=hcut
   have h3:=h2.au U2
   have hB3:=hB2.upd U2
   have UX:=UW.trans U2
   obtain⟨wx,hwx⟩:∃x,wc=x:=⟨_,rfl⟩
   rw[hwx]at h3 hB3 UX ⊢
   clear hwx U2 Zb Ma g0N g1N CO h2 hB2 UW
   have Zc:=hdn (show T=if D=true then M.pl.skip (m.s+1)else M.pl by
    rw[←HT.out]
    have h1:=HD.out
    have h2:=uP.out
    rw[←PZ.out,←HO.out]at h1
    by_cases hc:m.so=true∧M.pl.dec m.s=none∧aV m.s M.n=M.me
    ·rw[if_pos hc,if_pos]
     rw[←h1,hc.1,←h2,hc.2.1,hc.2.2];simp
    ·rw[if_neg hc,if_neg]
     intro hd
     rw[←h1]at hd
     simp only[Bool.and_eq_true,Bool.not_eq_true',beq_iff_eq]at hd
     refine hc ⟨hd.1,?_,hd.2.2⟩
     have h9:=hd.2.1
     rw[←h2]at h9
     cases hq:M.pl.dec m.s with
     |none=>rfl
     |some _=>rw[hq]at h9;cases h9)
   go_upto_if 41 with fail
   go_cut [3]from 11 (fun s3 wc=>s3=.pointer (some ⟨H,0,none⟩)∧∃M1,ay wc M1∧M1.pl=T∧M1.gs=M.gs∧M1.held.length≤700000000∧aa M.fp M1.fp w wc∧ak wc H 32 #[.int .i64 m.k,.int .i64 m.f,.int .i64 m.t,.int .i64 m.s,.int .i64 m.br,.int .i64 m.bs,.int .i64 m.hr,.int .i64 m.hs,.bool m.so,.slice m.A m.n m.c]∧H∉M1.fp)
   case first=>
    cases D with
    |false=>
     have KEY:=hdn (show ∃M1,ay wx M1∧M1.pl=T∧M1.gs=M.gs∧M1.held.length≤700000000∧aa M.fp M1.fp w wx∧ak wx H 32 #[.int .i64 m.k,.int .i64 m.f,.int .i64 m.t,.int .i64 m.s,.int .i64 m.br,.int .i64 m.bs,.int .i64 m.hr,.int .i64 m.hs,.bool m.so,.slice m.A m.n m.c]∧H∉M1.fp from
      ⟨M,h3,by rw[Zc.out];rfl,rfl,by omega,UX.up M.fp,hB3,ik⟩)
     clear h3 hB3
     refine wk ?_
     go_meet
     exact⟨rfl,KEY.out⟩
    |true=>
     have C3:=xq wx M h3 (m.s+1) (by omega)
     obtain⟨⟨b0,b1,b2,b3,b4,b5,b6,b7,b8,b9⟩,-⟩:=hB3.c10
     have hw1:=aA.wr (m.s+1)
     rw[af.ptr]at C3
     repeat' go_step
     refine C3.mono ?_;rintro e w4 ⟨rfl,M1,H1,hp1,hg1,-,u1⟩
     have KEY:=hdn (show ∃M1,ay w4 M1∧M1.pl=T∧M1.gs=M.gs∧M1.held.length≤700000000∧aa M.fp M1.fp w w4∧ak w4 H 32 #[.int .i64 m.k,.int .i64 m.f,.int .i64 m.t,.int .i64 m.s,.int .i64 m.br,.int .i64 m.bs,.int .i64 m.hr,.int .i64 m.hs,.bool m.so,.slice m.A m.n m.c]∧H∉M1.fp from
      ⟨M1,H1,by rw[Zc.out,if_pos rfl];exact hp1,hg1,by
       have h1:=congrArg (fun z:Site=>z.held.length) hp1
       simp only[af.bf]at h1
       have h2:=Site.Ct M.pl (m.s+1) h.ok.n7
       rw[af.bf]at h2
       omega,(UX.up M.fp).trans u1,hB3.upd u1 ik,u1.eQ ik hB3.lt⟩)
     clear C3 H1 u1 hp1 h3 hB3 b0 b1 b2 b3 b4 b5 b6 b7 b8 b9
     refine wk ?_
     go_meet
     exact⟨rfl,KEY.out⟩
   case rest=>
    obtain⟨rfl,M1,h4,jY,hg4,hl4,U4,hB4,hH4⟩:=hcut
    have q7:wc.cell? ⟨M.gs,7,none⟩=some (.pointer (some ⟨M1.gl,0,none⟩)):=by rw[←hg4];exact h4.blk.cell 7
    have C5:=Ip wc M1.gl M1.bl M1.lv M1.taken h4.jm
    obtain⟨tp,htp⟩:=ex1 (fQ M1.lv)
    rw[htp]at C5
    have Zd:fQ T.lv=tp:=by rw[←jY,←htp];exact Iq aM.b M1.lv
    have htr:0≤tp∧tp≤4096:=by rw[←htp];exact xw M1.lv (fun p hp=>by have:=h4.jm.keys p hp;omega)
    have WB:=hdn Zd
    clear htp Zd h3 hB3 UX HD uP PZ HO Zc HT
    repeat' go_step
    refine C5.mono ?_;rintro e w5 ⟨rfl,bD⟩
    have h5:=h4.au bD
    have fw:=hB4.upd bD
    have U5:=U4.trans (bD.up M1.fp)
    clear C5 h4 hB4 U4 bD q7
    obtain⟨⟨b0,b1,b2,b3,b4,b5,b6,b7,b8,b9⟩,-⟩:=fw.c10
    obtain⟨s0,hs0⟩:∃s0:Nat,m.s=(s0:Int):=⟨m.s.toNat,by omega⟩
    have Ze:m.s.toNat=s0:=by omega
    have HR2:=HR.out
    rw[Ze,WB.out]at HR2
    have HR3:=hdn HR2
    have HS0:=hdn hs0
    rw[hs0]at b3
    clear HR2 Ze hs0
    refine wk ?_
    go_loopw [6,8] (fun v6 v8 wr=>∃(k y:Nat)(M2:af),v6=.int .i64 (k:Int)∧v8=.int .i64 ((s0+y:Nat):Int)∧k≤16∧(y=0∨((s0+y:Nat):Int)≤tp)∧(oD T.dec s0 y).length=k∧ay wr M2∧M2.pl=Site.lN T.dec m.f T (oD T.dec s0 y)∧M2.gs=M.gs∧M2.held.length≤700000000+k∧aa M.fp M2.fp w wr∧ak wr H 32 #[.int .i64 m.k,.int .i64 m.f,.int .i64 m.t,.int .i64 m.s,.int .i64 m.br,.int .i64 m.bs,.int .i64 m.hr,.int .i64 m.hs,.bool m.so,.slice m.A m.n m.c]∧H∉M2.fp) (fun _ v8 _=>(4096-intOf v8).toNat)
    case atStart=>exact⟨0,0,M1,rfl,rfl,by omega,.inl rfl,rfl,h5,jY,hg4,by omega,U5,fw,hH4⟩
    case round=>
     obtain⟨k,y,M2,rfl,rfl,hk,hy,hdk,h6,iY,jy,Mg,U6,dK,hH6⟩:=hrel
     have P5:=hdn iY
     have HDK:=hdn hdk
     clear iY hdk h5 fw U5 b0 b1 b2 b3 b4 b5 b6 b7 b8 b9
     by_cases Ir:((s0+y:Nat):Int)<tp
     ·have Zf:decide (((s0+y:Nat):Int)<tp)=true:=dTx Ir
      by_cases aeJ:k<16
      ·have dk:decide ((k:Int)<16)=true:=dTo
       have hki:(k:Int)<16:=by omega
       have hw1:IntKind.i64.wrap (((s0+y:Nat):Int)+1)=((s0+(y+1):Nat):Int):=by rw[IntKind.wrap_i64];omega
       have hw2:IntKind.i64.wrap ((k:Int)+1)=((k+1:Nat):Int):=by rw[IntKind.wrap_i64];omega
       have q7:wr.cell? ⟨M.gs,7,none⟩=some (.pointer (some ⟨M2.gl,0,none⟩)):=by rw[←jy];exact h6.blk.cell 7
       have ai8:(aC ((s0+y:Nat):Int) M2.lv).map aM.b=T.dec ((s0+y:Nat):Int):=by
        rw[←af.qX,P5.out]
        exact Site.Ak _ _ _ _ _
       have C7:=qy wr M2.gl M2.bl M2.lv M2.taken h6.jm h6.yJ ((s0+y:Nat):Int) (jV (by omega) (by omega))
       rw[show(aC ((s0+y:Nat):Int) M2.lv).isSome=(T.dec ((s0+y:Nat):Int)).isSome by rw[←ai8,Option.isSome_map],ai8]at C7
       have hS:=yI T.dec s0 y
       obtain⟨DV,Cu⟩:=ex1 (T.dec ((s0+y:Nat):Int))
       have hlen:∀v,DV=some v→v.length≤2048:=fun v hv=>by
        rw[←Cu,←ai8]at hv
        cases hq:aC ((s0+y:Nat):Int) M2.lv with
        |none=>rw[hq]at hv;cases hv
        |some z=>
         rw[hq]at hv
         injection hv with hv
         rw[←hv]
         exact(h6.jm.keys _ (aY hq)).2.2
       have HDV:=hdn Cu
       rw[Cu]at C7 hS
       have HS:=hdn hS
       clear ai8 Cu hS
       obtain⟨sy,hsy⟩:∃sy:Int,((s0+y:Nat):Int)=sy:=⟨_,rfl⟩
       rw[hsy]at Zf Ir hw1 C7 HS HDV hy ⊢
       have P6:=hdn hsy
       clear hsy
       repeat' first|go_guarded|go_step
       refine C7.mono ?_;rintro e w7 ⟨A7,n7,c7,rfl,jW,gJ⟩
       have h7:=h6.au gJ
       have nu:=(aa.refl [] wr).new gJ
       have pF:=dK.upd gJ
       have U7:=U6.trans (gJ.up M2.fp)
       clear C7 q7
       cases DV with
       |none=>
        have hS2:=HS.out
        simp only[Option.isSome_none,Bool.false_eq_true,if_false,append_nil]at hS2
        have HS2:=hdn hS2
        clear hS2 h6 dK U6 gJ
        refine wk ?_
        refine⟨⟨k,y+1,M2,rfl,rfl,hk,.inr ?_,by rw[HS2.out];exact HDK.out,h7,by rw[HS2.out];exact P5.out,jy,Mg,U7,pF,hH6⟩,?_⟩
        ·have:=P6.out;omega
        ·have:=P6.out;simp only[intOf];omega
       |some v=>
        have hvl:=hlen v rfl
        have hS2:=HS.out
        simp only[Option.isSome_some,if_true]at hS2
        have HS2:=hdn hS2
        have aip:∀x∈ah A7,x∉M2.fp:=fun x hx hm=>by have h1:=nu x hx;have h2:=h6.lt x hm;omega
        have C8:=yK w7.drew sy A7 n7 c7 v
        have C9:=fun(w8:World)(hu:aa [] [] w7.drew w8)=>jL w8 M2 (h7.drew.au hu) m.f ⟨7,0,0,sy,0,0,0,0,true,A7,n7,c7,v⟩ (Site.kD (x:=sy) (v:=v) (by have:=P6.out;omega) hvl) xm ((aD.upd (show aD w7.drew A7 n7 v from jW.rd) hu (by simp))) (by omega)
        obtain⟨⟨e0,e1,e2,e3,e4,e5,e6,e7,e8,e9⟩,-⟩:=pF.drew.c10
        have hms:Mv.ms ⟨7,0,0,sy,0,0,0,0,true,A7,n7,c7,v⟩=Site.tells sy v:=rfl
        obtain⟨tv,yL⟩:=ex1 (Mv.val ⟨7,0,0,sy,0,0,0,0,true,A7,n7,c7,v⟩)
        rw[yL]at C8
        simp only[hms,yL,af.ptr,jy]at C9
        clear hS2 h6 dK U6 gJ yL hms hlen
        repeat' first|go_step|simp only[];go_at_K
        go_region_with (first
         |(go_at_call 118;(with_reducible refine C8.mono ?_);rintro e w8 ⟨rfl,jF⟩;have e1b:=jF.cell e1 (by simp))
         |(go_at_call 64;(with_reducible refine(C9 w8 jF).mono ?_);rintro e w9 ⟨rfl,M9,h9,yH,Im,-,U9⟩))
        all_goals (refine bN ?_)
        all_goals
         have U79:aa M.fp M9.fp w w9:=((U7.drew.trans (jF.up M2.fp)).trans U9)
         have B9:=((pF.drew.upd jF).upd U9 hH6)
         have l9:M9.held.length≤700000000+(k+1):=by
          have h1:=congrArg (fun z:Site=>z.held.length) yH
          simp only[af.bf,Site.send,length_append,length_cons,length_nil]at h1
          omega
         have p9:M9.pl=Site.lN T.dec m.f T (oD T.dec s0 (y+1)):=by
          rw[HS2.out,Site.Io,yH,P5.out,HDV.out];rfl
         refine⟨⟨k+1,y+1,M9,rfl,rfl,by omega,.inr ?_,by rw[HS2.out,length_append,HDK.out];rfl,h9,p9,Im.trans jy,l9,U79,B9,U9.eQ hH6 (by have:=(pF.drew.upd jF).lt;exact this)⟩,?_⟩
         ·have:=P6.out;omega
         ·have:=P6.out;simp only[intOf];omega
      ·have dk:decide ((k:Int)<16)=false:=dFo
       have hk2:decide (k<16)=false:=dFx aeJ
       have hkk:k=16:=by omega
       have hRR:R=M2.pl:=by
        rw[HR3.out,P5.out,EY T.dec s0 y (tp.toNat-s0) (by omega) (by rw[HDK.out];exact hk) (.inr (by rw[HDK.out];exact hkk))]
       have KEY:=hdn (show Gone w wr M R from⟨M2,h6,hRR.symm,jy,U6⟩)
       have HKK:=hdn hkk
       clear hRR h6 U6 dK hkk
       repeat' first|go_guarded|go_step
       exact enR ⟨rfl,KEY.out⟩
     ·have Zf:decide (((s0+y:Nat):Int)<tp)=false:=dFx Ir
      have hRR:R=M2.pl:=by
       have hN:y=tp.toNat - s0:=by rcases hy with h1|h1<;>omega
       rw[HR3.out,P5.out,EY T.dec s0 y (tp.toNat-s0) (by omega) (by rw[HDK.out];exact hk) (.inl hN)]
      have KEY:=hdn (show Gone w wr M R from⟨M2,h6,hRR.symm,jy,U6⟩)
      obtain⟨sy,hsy⟩:∃sy:Int,((s0+y:Nat):Int)=sy:=⟨_,rfl⟩
      rw[hsy]at Zf Ir ⊢
      clear hRR h6 U6 dK hsy
      refine wk ?_
      exact enR ⟨rfl,KEY.out⟩
