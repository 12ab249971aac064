/- For WorldCalm. -/
import Derived.Deep.RegionHeldLaw
import Derived.Deep.RegionHeld3
import Derived.Test.YtijhlbeipglieaaGreatPkProp
import Derived.Test.YtijhlbeipglieaaGreatPkHandA
set_option linter.all false
set_option maxRecDepth 100000
set_option maxHeartbeats 4000000
namespace Go.Proofs.YtijhlbeipglieaaGreat
open Go.RowKit aL Go.Maps Tryz List
theorem P4:(prog.info? 340).map (fun i=>(i.zero,i.size,i.bytes))=some (some (.agg #[.int .i64 0,.bool false,.int .i64 0,.int .i64 0,.slice none 0 0]),5,56):=by kernel_rfl
variable [eA]
theorem aJ.AO{w:World}{M:ae}(h:aJ w M){x:Int}{r:bS}(hl:aD x M.rs=some r)(q:fo)(hq:dj w q.s∧∀k∈ak q.s.A,k∉M.iz)(hql:q.s.b.length≤2048)(hv:r.pr.length≤1000000000) :
  ∃A' c' w3,(Builtin.append_ #[129,129] 129 #[.slice r.PA r.pr.length r.pc,.slice (some ⟨w.heap.size,0,none⟩) 1 1]).run prog (w.alloc (.cells #[.int .i64 q.f,.bool q.so,.int .i64 q.at_.r,.int .i64 q.at_.s,.slice q.s.A q.s.n q.s.c] 340))=.ok (.slice A' (r.pr.length+1) c') w3∧
   ab (ak r.PA) (ak A') w w3∧w3.cell? ⟨r.g,2,none⟩=some (.slice r.PA r.pr.length r.pc)∧w3.frozen? ⟨r.g,2,none⟩=false∧
   aJ (w3.setCell ⟨r.g,2,none⟩ (.slice A' (r.pr.length+1) c')) {M with rs:=aT x {r with PA:=A',pc:=c',pr:=r.pr++[q]} M.rs}∧
   ab M.fp ({M with rs:=aT x {r with PA:=A',pc:=c',pr:=r.pr++[q]} M.rs} :ae).fp w (w3.setCell ⟨r.g,2,none⟩ (.slice A' (r.pr.length+1) c')):=by
 have cL:=bG hl
 have h1:=h.aN ((ab.refl [] w).alloc (.cells #[.int .i64 q.f,.bool q.so,.int .i64 q.at_.r,.int .i64 q.at_.s,.slice q.s.A q.s.n q.s.c] 340))
 have hR:=h.cI _ cL
 have gT:=h1.cI _ cL
 obtain⟨A',c',w3,hrun,ho,hu⟩:=lL (P:=prog) _ 129 129 340 underlying129 P4 rfl (by decide) r.PA r.pr.length r.pc _ gT.gB (some ⟨w.heap.size,0,none⟩) 1 1 (fo.cells q) (Rd.aO (aQ.new _ _ _) rfl)
  (by intro u hu;simp only[fo.cells,mem_cons,not_mem_nil,or_false]at hu;rcases hu with rfl|rfl|rfl|rfl|rfl<;>rfl) (by unfold maxLen;omega) (by omega)
 have hg:r.g∉ak r.PA:=cp gT.tg gT.tP (by decide)
 have hb3:=gT.aO.aq hu hg
 have U:ab (ak r.PA) (ak A') w w3:=((ab.refl (ak r.PA) w).alloc _).trans hu
 have u4:ab [r.g] [r.g] w3 (w3.setCell ⟨r.g,2,none⟩ (.slice A' (r.pr.length+1) c')):=(ab.refl [r.g] w3).setCell (p:=⟨r.g,2,none⟩) (.inl (by simp)) _
 have U4:ab (r.g::ak r.PA) (r.g::ak A') w (w3.setCell ⟨r.g,2,none⟩ (.slice A' (r.pr.length+1) c')):=
  (
   U.mono (a':=r.g::ak r.PA) (b':=r.g::ak A') (fun k hk=>mem_cons_of_mem _ hk) (fun k hk=>by
   rcases mem_cons.1 hk with rfl|hk
   ·exact .inr (.inl (by simp))
   ·exact .inl hk)).trans (u4.mono (a':=r.g::ak A') (b':=r.g::ak A') (by simp) (fun k hk=>.inr (.inl hk)))
 have na:aL.Own 340 5 w3 A' (r.pr.length+1) c' ((r.pr++[q]).flatMap fo.cells):=by rw[flatMap_append,flatMap_cons,flatMap_nil,append_nil];exact ho
 have yu:∀k∈ak A',k∉[r.g]:=fun k hk hm=>by
  rw[mem_singleton]at hm;subst hm
  exact bx (na.tag _ hk) hb3.tag (by decide) rfl
 refine⟨A',c',w3,hrun,U,hb3.cell 2,hb3.frozen 2,?_⟩
 refine h.Jz hl {r with PA:=A',pc:=c',pr:=r.pr++[q]} rfl (X:=r.g::ak r.PA) (fun k hk=>?_) U4 ⟨?_,?_,?_⟩ (fun k hk=>?_) (fun k hk=>.inl hk) (fun y hy=>?_) ?_
 ·simp only[bS.fp,mem_cons,mem_append]at hk ⊢
  rcases hk with h1|h1
  ·exact .inl h1
  ·exact .inr (.inl h1)
 ·have:=hb3.cc 2 (.slice A' (r.pr.length+1) c')
  simpa using this
 ·have:=na.aq u4 yu
  simpa using this
 ·refine(hR.DJ.aq U (cY hR.tV hR.tP (by decide))).aq u4 (fun k hk hm=>?_)
  rw[mem_singleton]at hm;subst hm
  exact bx (hR.tV _ hk) hR.tg (by decide) rfl
 ·rcases U.fresh k hk with h1|h1
  ·exact .inl h1
  ·exact .inr h1
 ·simp only[bS.bytes,map_append,map_cons,map_nil,mem_cons,mem_append,not_mem_nil,or_false]at hy
  rcases hy with rfl|hy|rfl
  ·exact h.mZ cL (by simp[bS.bytes])
  ·exact h.mZ cL (by simp only[bS.bytes,mem_cons];exact .inr hy)
  ·exact hq
 ·have:=(h.ok.rs (x,r.pl) (mem_map.2 ⟨_,cL,rfl⟩)).2.2
  refine⟨this.1,this.2.1,fun p hp=>?_⟩
  simp only[bS.pl,map_append,map_cons,map_nil,mem_append,mem_singleton]at hp
  rcases hp with hp|rfl
  ·exact this.2.2 p hp
  ·exact hql
end Go.Proofs.YtijhlbeipglieaaGreat
namespace aL
open Go Go.Proofs.YtijhlbeipglieaaGreat List
theorem ud{l:List Pm}{n:Int}{v:List UInt8}(hl:∀p∈l,p.b.length≤2048)(h:dM l n=some v):v.length≤2048:=by
 unfold dM at h
 split at h
 ·injection h with h
  subst h
  cases hb:gE n l with
  |none=>simp
  |some q=>
   rw[EN]at hb
   cases hg:kY n l l.length with
   |none=>rw[hg]at hb;cases hb
   |some j=>
    rw[hg]at hb
    exact hl q (mem_of_getElem? hb)
 ·cases h
end aL
namespace Go.Proofs.YtijhlbeipglieaaGreat
open Go.RowKit aL Go.Maps Tryz List
variable [eA]
theorem EO(w:World)(M:ae)(h:aJ w M)(m:Mv)(hm:m.ms.bL)(iq:dj w m.sl)(gL:∀k∈ak m.A,k∉M.fp)(xE:∀k∈ak m.A,k∉(eA.X:List Nat))(hl:M.held.length≤900000000)(mh:∀p∈M.rs,p.2.pr.length≤900000000) :
  Calls prog 194 #[M.ptr,m.val] w fun e w'=>e=.returned (.tuple #[])∧dZ w w' M (M.pl.bT m.ms):=by
 have AP:=h.ok
 have lP:0≤m.s∧m.s≤4095:=hm.slot
 have eO:(Lit.int .i64 m.s).wf=true:=kt (by omega) (by omega)
 obtain⟨W,H,eW,hH,hB,U0⟩:=cb w 32 #[.int .i64 m.k,.int .i64 m.f,.int .i64 m.t,.int .i64 m.s,.int .i64 m.br,.int .i64 m.bs,.int .i64 m.hr,.int .i64 m.hs,.bool m.so,.slice m.A m.n m.c]
 have h1:=h.aN U0
 have gU:H∉M.fp:=fun hk=>by have:=h.lt H hk;omega
 have q8:W.cell? ⟨M.gs,8,none⟩=some (.map (some M.br)):=h1.aO.cell 8
 have WQ:∀N,(W.drewN N).cell? ⟨M.gs,8,none⟩=some (.map (some M.br)):=fun N=>q8
 have WR:∀N,(W.drewN N).cell? ⟨H,1,none⟩=some (.int .i64 m.f):=fun N=>hB.cell 1
 have IE:∀N,(W.drewN N).cell? ⟨H,3,none⟩=some (.int .i64 m.s):=fun N=>hB.cell 3
 have WT:∀N,(W.drewN N).cell? ⟨H,4,none⟩=some (.int .i64 m.br):=fun N=>hB.cell 4
 have WU:∀N,(W.drewN N).cell? ⟨H,5,none⟩=some (.int .i64 m.bs):=fun N=>hB.cell 5
 have hlk:=fun N=>(h1.drewN N).Dm eO
 have hpl:aD m.ms.slot M.pl.rs=(aD m.s M.rs).map bS.pl:=eB _ _ _
 obtain⟨R,hR⟩:=bk (M.pl.bT m.ms)
 have HR:=aA hR
 rw[hR]
 clear hR
 rw[Mv.bJ,ae.ptr]
 have cv:=(U0.gives (b':=[]) (by simp))
 have jD:∀W2,ab [] [] W W2→R=M.pl→dZ w W2 M R:=fun W2 u e=>⟨M,h.aN (cv.trans u),e.symm,rfl,(cv.trans u).up M.fp⟩
 cases hq:aD m.s M.rs with
 |none=>
  rw[hq]at hpl
  simp only[hq]at hlk
  have eQ:R=M.pl:=by rw[←HR.out];unfold Site.bT;rw[hpl];rfl
  have K:=aA (fun N N'=>jD ((W.drewN N).drewN N') (((ab.refl [] W).drewN N).drewN N') eQ)
  simp only[Option.map_none,Option.getD_none,Option.isSome_none]at hlk
  clear jD hpl
  go_enter func194,ntmps194
  repeat' go_step
  go_quiet (fail)
  repeat' go_step
  go_quiet (fail)
  refine wk ?_
  exact bodyPost_ret (v:=.tuple #[]) (results_none rfl _ _ _) rfl ⟨rfl,K.out _ _⟩
 |some r=>
  rw[hq]at hpl
  simp only[hq,Option.map_some,Option.getD_some,Option.isSome_some,bS.ptr]at hlk
  have cL:=bG hq
  have pT:=(h1.cI _ cL)
  have WW:∀N,(W.drewN N).cell? ⟨r.g,0,none⟩=some (.int .i64 r.aC.r):=fun N=>pT.aO.cell 0
  have WX:∀N,(W.drewN N).cell? ⟨r.g,1,none⟩=some (.int .i64 r.aC.s):=fun N=>pT.aO.cell 1
  have EP:∀N,(W.drewN N).cell? ⟨r.g,3,none⟩=some (.bool r.so):=fun N=>pT.aO.cell 3
  have E1:=J8 r.aC.r r.aC.s m.br m.bs
  by_cases hb:r.aC=⟨m.br,m.bs⟩
  ·have e2:((r.aC.r==m.br)&&(r.aC.s==m.bs))=true:=by rw[hb];simp
   rw[e2]at E1
   simp only[Bool.not_true]at E1
   have WY:=aA hb
   cases gC:r.so with
   |true=>
    have eQ:R=M.pl:=by
     rw[←HR.out];unfold Site.bT;rw[hpl]
     exact if_neg (fun hc=>by have:=hc.2;rw[show r.pl.so=r.so from rfl,gC]at this;cases this)
    have K:=aA (fun N N'=>jD ((W.drewN N).drewN N') (((ab.refl [] W).drewN N).drewN N') eQ)
    simp only[gC]at EP
    clear jD hpl hb
    go_enter func194,ntmps194
    repeat' go_step
    go_quiet (fail)
    repeat' go_step
    go_quiet (fail)
    refine wk ?_
    exact bodyPost_ret (v:=.tuple #[]) (results_none rfl _ _ _) rfl ⟨rfl,K.out _ _⟩
   |false=>
    simp only[gC]at EP
    clear jD hb
    go_enter func194,ntmps194
    repeat' go_step
    go_quiet (fail)
    repeat' go_step
    obtain⟨n1,jX⟩:∃n,n=nq:=⟨_,rfl⟩
    rw[←jX]
    go_quiet (fail)
    repeat' go_step
    obtain⟨X,hX⟩:=bk ((W.drewN n1).drewN nq)
    rw[hX]
    have UX:ab [] [] W X:=by rw[←hX];exact((ab.refl [] W).drewN _).drewN _
    clear hX jX
    have hx:=h1.aN UX
    have fh:=hB.aq UX (by simp)
    clear WR IE WT WU WQ WW WX EP hlk pT E1 e2 q8
    obtain⟨pm,pR⟩:∃pm:fo,(⟨m.f,m.so,⟨m.hr,m.hs⟩,m.sl⟩:fo)=pm:=⟨_,rfl⟩
    have RS:∀k∈ak m.A,k∉M.iz:=fun k hk hm=>(by rcases mem_append.1 hm with hm|hm;exact gL k hk (by simp[ae.fp,hm]);exact xE k hk hm)
    obtain⟨A3,c3,w3,hrun,uap,g5,f5,P1,P2⟩:=hx.drew.AO hq pm (by rw[←pR];exact⟨(((iq.aN U0).aN UX).aN (ab.refl [] X).drew),RS⟩) (by rw[←pR];exact hm.val) (by have:=mh _ cL;simp only at this;omega)
    have J9:(Builtin.append_ #[129,129] 129 #[.slice r.PA r.pr.length r.pc,.slice (some ⟨X.drew.heap.size,0,none⟩) 1 1]).run prog (X.drew.alloc (.cells #[.int .i64 m.f,.bool m.so,.int .i64 m.hr,.int .i64 m.hs,.slice m.A m.n m.c] 340))=.ok (.slice A3 (r.pr.length+1) c3) w3:=by rw[←pR]at hrun;exact hrun
    have ER:=(hx.cI _ cL)
    have s5:X.drew.cell? ⟨r.g,2,none⟩=some (.slice r.PA r.pr.length r.pc):=ER.aO.cell 2
    have WZ:(X.alloc (.cells #[.int .i64 m.f,.bool m.so,.int .i64 m.hr,.int .i64 m.hs,.slice m.A m.n m.c] 340)).cell? ⟨r.g,2,none⟩=some (.slice r.PA r.pr.length r.pc):=(ER.aO.alloc _).cell 2
    obtain⟨⟨a0,a1,a2,a3,a4,a5,a6,a7,a8,a9⟩,-⟩:=fh.drew.cJ
    clear ER hrun
    go_cut [4]from 36 (fun s4 wc=>s4=.pointer (some ⟨r.g,0,none⟩)∧wc=w3.setCell ⟨r.g,2,none⟩ (.slice A3 (r.pr.length+1) c3))
    case first=>
     have Iy:H∉ak r.PA:=fun hk=>gU (h.W9 cL H (by simp[bS.fp,hk]))
     have K1:=fh.drew.alloc (.cells #[.int .i64 m.f,.bool m.so,.int .i64 m.hr,.int .i64 m.hs,.slice m.A m.n m.c] 340)
     have K3:=fh.drew.aq uap Iy
     obtain⟨⟨b0,b1,b2,b3,b4,b5,b6,b7,b8,b9⟩,-⟩:=K1.cJ
     obtain⟨⟨d0,d1,d2,d3,d4,d5,d6,d7,d8,d9⟩,-⟩:=K3.cJ
     have hHr:H≠r.g:=fun e=>gU (by rw[e];exact h.W9 cL r.g (by simp[bS.fp]))
     obtain⟨⟨k0,k1,k2,k3,k4,k5,k6,k7,k8,k9⟩,-⟩:=(K3.fB (p:=⟨r.g,2,none⟩) hHr (.slice A3 (r.pr.length+1) c3)).cJ
     clear P1 P2 h hx HR hpl iq gL mh hl
     refine wp_region_held_drew (S:=(fun w':World=>w'.cell? ⟨H,1,none⟩=some (.int .i64 m.f)∧w'.cell? ⟨H,8,none⟩=some (.bool m.so)∧w'.cell? ⟨H,6,none⟩=some (.int .i64 m.hr)∧w'.cell? ⟨H,7,none⟩=some (.int .i64 m.hs)∧w'.cell? ⟨H,9,none⟩=some (.slice m.A m.n m.c))) (by kernel_rfl) ⟨a1,a8,a6,a7,a9⟩ (fun hHeld=>?_)
     refine wpAnyH_take (i:=0) (oi:=_) (v:=?_) rfl (by kernel_rfl) (by kernel_rfl) (by kernel_rfl) (fun _ _ _ h=>h) (Or.inl ⟨by rfl,?_⟩) (by assumption) ?_
     rotate_left 1
     ·intro w hSw;(try dsimp only at hSw);go_simp;(try (with_reducible rfl))
     try simp only[Act.put,setIfInBounds_toArray,set_cons_zero]
     refine wpAnyH_take (i:=1) (oi:=_) (v:=?_) rfl (by kernel_rfl) (by kernel_rfl) (by kernel_rfl) (fun _ _ _ h=>h) (Or.inl ⟨by rfl,?_⟩) (by assumption) ?_
     rotate_left 1
     ·intro w hSw;(try dsimp only at hSw);go_simp;(try (with_reducible rfl))
     try simp only[Act.put,setIfInBounds_toArray,set_cons_zero]
     refine wpAnyH_take (i:=2) (oi:=_) (v:=?_) rfl (by kernel_rfl) (by kernel_rfl) (by kernel_rfl) (fun _ _ _ h=>h) (Or.inl ⟨by rfl,?_⟩) (by assumption) ?_
     rotate_left 1
     ·intro w hSw;(try dsimp only at hSw);go_simp;(try (with_reducible rfl))
     try simp only[Act.put,setIfInBounds_toArray,set_cons_zero]
     refine wpAnyH_take (i:=3) (oi:=_) (v:=?_) rfl (by kernel_rfl) (by kernel_rfl) (by kernel_rfl) (fun _ _ _ h=>h) (Or.inl ⟨by rfl,?_⟩) (by assumption) ?_
     rotate_left 1
     ·intro w hSw;(try dsimp only at hSw);go_simp;(try (with_reducible rfl))
     try simp only[Act.put,setIfInBounds_toArray,set_cons_zero]
     refine wpAnyH_take (i:=5) (oi:=_) (v:=?_) rfl (by kernel_rfl) (by kernel_rfl) (by kernel_rfl) (fun _ _ _ h=>h) (Or.inl ⟨by rfl,?_⟩) (by assumption) ?_
     rotate_left 1
     ·intro w hSw;(try dsimp only at hSw);go_simp;(try (with_reducible rfl))
     try simp only[Act.put,setIfInBounds_toArray,set_cons_zero]
     refine wpAnyH_take (i:=6) (oi:=_) (v:=?_) rfl (by kernel_rfl) (by kernel_rfl) (by kernel_rfl) (fun _ _ _ h=>h) (Or.inl ⟨by rfl,?_⟩) (by assumption) ?_
     rotate_left 1
     ·intro w hSw;(try dsimp only at hSw);go_simp;(try (with_reducible rfl))
     try simp only[Act.put,setIfInBounds_toArray,set_cons_zero]
     refine wpAnyH_take (i:=7) (oi:=_) (v:=?_) rfl (by kernel_rfl) (by kernel_rfl) (by kernel_rfl) (fun _ _ _ h=>h) (Or.inl ⟨by rfl,?_⟩) (by assumption) ?_
     rotate_left 1
     ·intro w hSw;(try dsimp only at hSw);go_simp;(try (with_reducible rfl))
     try simp only[Act.put,setIfInBounds_toArray,set_cons_zero]
     refine wpAnyH_take (i:=8) (oi:=_) (v:=?_) rfl (by kernel_rfl) (by kernel_rfl) (by kernel_rfl) (fun _ _ _ h=>h) (Or.inl ⟨by rfl,?_⟩) (by assumption) ?_
     rotate_left 1
     ·intro w hSw;(try dsimp only at hSw);go_simp;(try (with_reducible rfl))
     try simp only[Act.put,setIfInBounds_toArray,set_cons_zero]
     refine wpAnyH_take (i:=9) (oi:=_) (v:=?_) rfl (by kernel_rfl) (by kernel_rfl) (by kernel_rfl) (fun _ _ _ h=>h) (Or.inl ⟨by rfl,?_⟩) (by assumption) ?_
     rotate_left 1
     ·intro w hSw;(try dsimp only at hSw);go_simp;(try (with_reducible rfl))
     try simp only[Act.put,setIfInBounds_toArray,set_cons_zero]
     refine wpAnyH_take (i:=10) (oi:=_) (v:=?_) rfl (by kernel_rfl) (by kernel_rfl) (by kernel_rfl) (fun _ _ _ h=>h) (Or.inl ⟨by rfl,?_⟩) (by assumption) ?_
     rotate_left 1
     ·intro w hSw;(try dsimp only at hSw);go_simp;(try (with_reducible rfl))
     try simp only[Act.put,setIfInBounds_toArray,set_cons_zero]
     refine wpAnyH_take (i:=11) (oi:=_) (v:=?_) rfl (by kernel_rfl) (by kernel_rfl) (by kernel_rfl) (fun _ _ _ h=>h) (Or.inl ⟨by rfl,?_⟩) (by assumption) ?_
     rotate_left 1
     ·intro w hSw;(try dsimp only at hSw);go_simp;(try (with_reducible rfl))
     try simp only[Act.put,setIfInBounds_toArray,set_cons_zero]
     refine wpAnyH_take (i:=12) (oi:=_) (v:=?_) rfl (by kernel_rfl) (by kernel_rfl) (by kernel_rfl) (fun _ _ _ h=>h) (Or.inl ⟨by rfl,?_⟩) (by assumption) ?_
     rotate_left 1
     ·intro w hSw;(try dsimp only at hSw);go_simp;(try (with_reducible rfl))
     try simp only[Act.put,setIfInBounds_toArray,set_cons_zero]
     refine wpAnyH_take (i:=13) (oi:=_) (v:=?_) rfl (by kernel_rfl) (by kernel_rfl) (by kernel_rfl) (fun _ _ _ h=>h) (Or.inl ⟨by rfl,?_⟩) (by assumption) ?_
     rotate_left 1
     ·intro w hSw;(try dsimp only at hSw);go_simp;(try (with_reducible rfl))
     try simp only[Act.put,setIfInBounds_toArray,set_cons_zero]
     refine wpAnyH_ready (rs:=[4,14]) (by kernel_rfl) (by simp) ?_
     refine AllReadyH.cons rfl (fun K hK=>?_) (.cons rfl (fun K hK=>?_) AllReadyH.nil)
     ·skip
      go_simp
      refine hK.out _ _ ?_ (fun hHeld=>?_)
      ·(try dsimp only);(first|exact⟨a1,a8,a6,a7,a9⟩|exact⟨b1,b8,b6,b7,b9⟩|exact⟨d1,d8,d6,d7,d9⟩|exact⟨k1,k8,k6,k7,k9⟩)
      clear hK K
      try simp only[Act.put,setIfInBounds_toArray,set_cons_zero,set_cons_succ]
      refine wpAnyH_ready (rs:=[14]) (by kernel_rfl) (by simp) ?_
      refine AllReadyH.cons rfl (fun K hK=>?_) AllReadyH.nil
      go_simp
      refine hK.out _ _ ?_ (fun hHeld=>?_)
      ·(try dsimp only);(first|exact⟨a1,a8,a6,a7,a9⟩|exact⟨b1,b8,b6,b7,b9⟩|exact⟨d1,d8,d6,d7,d9⟩|exact⟨k1,k8,k6,k7,k9⟩)
      clear hK K
      try simp only[Act.put,setIfInBounds_toArray,set_cons_zero,set_cons_succ]
      refine wpAnyH_ready (rs:=[15]) (by kernel_rfl) (by simp) ?_
      refine AllReadyH.cons rfl (fun K hK=>?_) AllReadyH.nil
      refine jz rfl (.tmp 40) (.tmp 50) 129 rfl (.slice r.PA r.pr.length r.pc) (.slice (some ⟨X.drew.heap.size,0,none⟩) 1 1) _ w3 rfl rfl J9 ?_
      refine hK.out _ _ ?_ (fun hHeld=>?_)
      ·(try dsimp only);(first|exact⟨a1,a8,a6,a7,a9⟩|exact⟨b1,b8,b6,b7,b9⟩|exact⟨d1,d8,d6,d7,d9⟩|exact⟨k1,k8,k6,k7,k9⟩)
      clear hK K
      try simp only[Act.put,setIfInBounds_toArray,set_cons_zero]
      refine wpAnyH_take (i:=16) (oi:=_) (v:=?_) rfl (by kernel_rfl) (by kernel_rfl) (by kernel_rfl) (fun _ _ _ h=>h) (Or.inl ⟨by rfl,?_⟩) (by assumption) ?_
      rotate_left 1
      ·intro w hSw;(try dsimp only at hSw);go_simp;(try (with_reducible rfl))
      try simp only[Act.put,setIfInBounds_toArray,set_cons_zero]
      refine wpAnyH_take (i:=17) (oi:=_) (v:=?_) rfl (by kernel_rfl) (by kernel_rfl) (by kernel_rfl) (fun _ _ _ h=>h) (Or.inl ⟨by rfl,?_⟩) (by assumption) ?_
      rotate_left 1
      ·intro w hSw;(try dsimp only at hSw);go_simp;(try (with_reducible rfl))
      try simp only[Act.put,setIfInBounds_toArray,set_cons_zero]
      refine wpAnyH_ready (rs:=[18]) (by kernel_rfl) (by simp) ?_
      refine AllReadyH.cons rfl (fun K hK=>?_) AllReadyH.nil
      go_simp
      refine hK.out _ _ ?_ (fun hHeld=>?_)
      ·(try dsimp only);(first|exact⟨a1,a8,a6,a7,a9⟩|exact⟨b1,b8,b6,b7,b9⟩|exact⟨d1,d8,d6,d7,d9⟩|exact⟨k1,k8,k6,k7,k9⟩)
      clear hK K
      try simp only[Act.put,setIfInBounds_toArray,set_cons_zero,set_cons_succ]
      refine wpAnyH_done (by kernel_rfl) ?_ _
      refine wk ?_
      go_meet
      exact⟨rfl,rfl⟩
     ·skip
      go_simp
      refine hK.out _ _ ?_ (fun hHeld=>?_)
      ·(try dsimp only);(first|exact⟨a1,a8,a6,a7,a9⟩|exact⟨b1,b8,b6,b7,b9⟩|exact⟨d1,d8,d6,d7,d9⟩|exact⟨k1,k8,k6,k7,k9⟩)
      clear hK K
      try simp only[Act.put,setIfInBounds_toArray,set_cons_zero,set_cons_succ]
      refine wpAnyH_ready (rs:=[4]) (by kernel_rfl) (by simp) ?_
      refine AllReadyH.cons rfl (fun K hK=>?_) AllReadyH.nil
      go_simp
      refine hK.out _ _ ?_ (fun hHeld=>?_)
      ·(try dsimp only);(first|exact⟨a1,a8,a6,a7,a9⟩|exact⟨b1,b8,b6,b7,b9⟩|exact⟨d1,d8,d6,d7,d9⟩|exact⟨k1,k8,k6,k7,k9⟩)
      clear hK K
      try simp only[Act.put,setIfInBounds_toArray,set_cons_zero,set_cons_succ]
      refine wpAnyH_ready (rs:=[15]) (by kernel_rfl) (by simp) ?_
      refine AllReadyH.cons rfl (fun K hK=>?_) AllReadyH.nil
      refine jz rfl (.tmp 40) (.tmp 50) 129 rfl (.slice r.PA r.pr.length r.pc) (.slice (some ⟨X.drew.heap.size,0,none⟩) 1 1) _ w3 rfl rfl J9 ?_
      refine hK.out _ _ ?_ (fun hHeld=>?_)
      ·(try dsimp only);(first|exact⟨a1,a8,a6,a7,a9⟩|exact⟨b1,b8,b6,b7,b9⟩|exact⟨d1,d8,d6,d7,d9⟩|exact⟨k1,k8,k6,k7,k9⟩)
      clear hK K
      try simp only[Act.put,setIfInBounds_toArray,set_cons_zero]
      refine wpAnyH_take (i:=16) (oi:=_) (v:=?_) rfl (by kernel_rfl) (by kernel_rfl) (by kernel_rfl) (fun _ _ _ h=>h) (Or.inl ⟨by rfl,?_⟩) (by assumption) ?_
      rotate_left 1
      ·intro w hSw;(try dsimp only at hSw);go_simp;(try (with_reducible rfl))
      try simp only[Act.put,setIfInBounds_toArray,set_cons_zero]
      refine wpAnyH_take (i:=17) (oi:=_) (v:=?_) rfl (by kernel_rfl) (by kernel_rfl) (by kernel_rfl) (fun _ _ _ h=>h) (Or.inl ⟨by rfl,?_⟩) (by assumption) ?_
      rotate_left 1
      ·intro w hSw;(try dsimp only at hSw);go_simp;(try (with_reducible rfl))
      try simp only[Act.put,setIfInBounds_toArray,set_cons_zero]
      refine wpAnyH_ready (rs:=[18]) (by kernel_rfl) (by simp) ?_
      refine AllReadyH.cons rfl (fun K hK=>?_) AllReadyH.nil
      go_simp
      refine hK.out _ _ ?_ (fun hHeld=>?_)
      ·(try dsimp only);(first|exact⟨a1,a8,a6,a7,a9⟩|exact⟨b1,b8,b6,b7,b9⟩|exact⟨d1,d8,d6,d7,d9⟩|exact⟨k1,k8,k6,k7,k9⟩)
      clear hK K
      try simp only[Act.put,setIfInBounds_toArray,set_cons_zero,set_cons_succ]
      refine wpAnyH_done (by kernel_rfl) ?_ _
      refine wk ?_
      go_meet
      exact⟨rfl,rfl⟩
    case rest=>
     obtain⟨rfl,hwc⟩:=hcut
     rw[←hwc]at P1 P2
     obtain⟨r2,hr2⟩:∃r2:bS,{r with PA:=A3,pc:=c3,pr:=r.pr++[pm]} =r2:=⟨_,rfl⟩
     obtain⟨M2,gg⟩:∃M2:ae,{M with rs:=aT m.s r2 M.rs} =M2:=⟨_,rfl⟩
     rw[hr2,gg]at P1 P2
     have ES:M2.pl= {M.pl with rs:=aT m.s r2.pl M.pl.rs}:=by rw[←gg];unfold ae.pl;simp only[fi]
     have rE:M2.gs=M.gs:=by rw[←gg]
     have kW:M2.n=M.n:=by rw[←gg]
     have ET:M2.me=M.me:=by rw[←gg]
     have BV:M2.held=M.held:=by rw[←gg]
     have hl2:aD m.s M2.rs=some r2:=by rw[←gg,cO,if_pos rfl]
     have ir:(m.s,r2)∈M2.rs:=bG hl2
     have dS:=P1.cI _ ir
     have hg2:r2.g=r.g:=by rw[←hr2]
     have hb2:r2.aC=r.aC:=by rw[←hr2]
     have ahG:r2.so=false:=by rw[←hr2];exact gC
     have Xa:r2.pl= {r.pl with pr:=r.pl.pr++[pm.pl]}:=by rw[←hr2];simp[bS.pl]
     have P5:r2.pr.length≤1000000000:=by rw[←hr2,length_append];have:=mh _ cL;simp only[length_cons,length_nil]at this ⊢;omega
     have uN:aQ wc H 32 #[.int .i64 m.k,.int .i64 m.f,.int .i64 m.t,.int .i64 m.s,.int .i64 m.br,.int .i64 m.bs,.int .i64 m.hr,.int .i64 m.hs,.bool m.so,.slice m.A m.n m.c]:=fh.drew.aq P2 gU
     have UW:ab M.fp M2.fp w wc:=((cv.trans UX).drew.up M.fp).trans P2
     have P6:pm.pl=⟨m.ms.aR,m.ms.some_,m.ms.had,m.ms.val⟩:=by rw[←pR];rfl
     have uO:=aA (show R=match dM (r2.pr.map fo.pl) M.n with
       |none=>M2.pl
       |some v=>match M2.pl.accept m.s r.aC v with
        |none=>{M2.pl with rs:=bY m.s M2.pl.rs}
        |some u=>(({u with rs:=aT m.s {r2.pl with so:=true,b:=v} u.rs} :Site).others (Site.asks {r2.pl with so:=true,b:=v} m.s) M.n).send M.me (Site.bB m.s r.aC) by
      rw[←HR.out,ES];unfold Site.bT;rw[hpl]
      simp only[Option.map_some]
      rw[if_pos ⟨WY.out,gC⟩]
      rw[show r2.pr.map fo.pl=r.pl.pr++[⟨m.ms.aR,m.ms.some_,m.ms.had,m.ms.val⟩]from by rw[show r2.pr.map fo.pl=r2.pl.pr from rfl,Xa,P6]]
      rw[Xa,P6]
      rfl)
     have xF:=uN.lt
     have DD:H∉M2.fp:=P2.gu gU fh.lt
     have ik:r.aC.may 7=true:=by have:=(h.ok.rs (m.s,r.pl) (mem_map.2 ⟨_,cL,rfl⟩)).2.2.2.1;exact this
     have uY:∀y∈r2.pr,bE wc y.s.A y.s.n y.s.b∧y.s.b.length≤2048:=fun y hy=>by
      have h1:=P1.mZ ir (x:=y.s) (by simp only[bS.bytes,mem_cons];exact .inr (mem_map_of_mem hy))
      have h2:=(P1.ok.rs (m.s,r2.pl) (mem_map.2 ⟨_,ir,rfl⟩)).2.2.2.2 y.pl (mem_map_of_mem hy)
      exact⟨h1.1.rd,h2⟩
     clear hpl HR J9 g5 f5 s5 WZ hr2 gg hx fh UX P2 h1 h a0 a1 a2 a3 a4 a5 a6 a7 a8 a9 hwc ES P6 pR RS
     obtain⟨⟨g0,g1,g2,g3,g4,g5,g6⟩,-⟩:=dS.aO.c7
     rw[hg2]at g0 g1 g2 g3 g4 g5 g6
     have C4:=Ka wc.drew r2.PA r2.pc r2.pr ⟨rfl,dS.gB.rd⟩ P5 (fun k hk=>dS.gB.lt k hk) (fun y hy=>⟨((uY y hy).1).aq (ab.refl [] wc).drew (by simp),(uY y hy).2⟩) M.n AP.n7
     have q1:wc.cell? ⟨M.gs,1,none⟩=some (.int .i64 (M.n:Int)):=by have:=P1.aO.cell 1;rw[rE]at this;rw[this,←kW];rfl
     have P7:∀v,dM (r2.pr.map fo.pl) M.n=some v→v.length≤2048:=fun v hv=>ud (fun p hp=>by
      obtain⟨y,hy,rfl⟩:=mem_map.1 hp
      exact(uY y hy).2) hv
     obtain⟨CH,Xb⟩:=bk (dM (r2.pr.map fo.pl) M.n)
     rw[Xb]at C4 uO
     simp only[Xb]at P7
     clear Xb uY
     obtain⟨wo,qO⟩:∃x,wc=x:=⟨_,rfl⟩
     rw[qO]at C4 g2 q1 P1 UW uN dS ⊢
     clear g0 g1 g3 g4 g5 g6 qO
     have Xc:wo.drew.cell? ⟨r.g,2,none⟩=some (.slice r2.PA r2.pr.length r2.pc):=g2
     have BW:wo.drew.cell? ⟨M.gs,1,none⟩=some (.int .i64 (M.n:Int)):=q1
     go_upto_region 4 with fail
     go_cut [6,7]from 54 (fun s6 s7 wc=>∃(A4:Option Addr)(k4 c4:Nat),s6=.slice A4 k4 c4∧s7=.bool CH.isSome∧bW 5 wc A4 k4 c4 (CH.getD [])∧(∀k∈ak A4,wo.heap.size≤k)∧ab [] [] wo wc)
     case first=>
      clear P1 UW uN dS uO P7
      go_region_held3 (fun w'=>w'.cell? ⟨r.g,2,none⟩=some (.slice r2.PA r2.pr.length r2.pc)∧w'.cell? ⟨M.gs,1,none⟩=some (.int .i64 (M.n:Int))) (first|exact⟨Xc,BW⟩|exact⟨g2e,q1e⟩)
       (
        first
        |(go_at_call 249;(with_reducible refine C4.mono ?_);rintro e w4 ⟨A4,k4,c4,rfl,dW,de⟩;have g2e:=de.cell Xc (by simp);have q1e:=de.cell BW (by simp)))
      all_goals (refine eH ?_)
      all_goals go_meet
      all_goals exact⟨A4,k4,c4,rfl,rfl,dW,(ab.refl [] wo).drew.new de,((ab.refl [] wo).drew.trans de).gives (by simp)⟩
     case rest=>
     obtain⟨A4,k4,c4,rfl,rfl,dW,BX,km⟩:=hcut
     obtain⟨w4,hw4⟩:∃x,wc=x:=⟨_,rfl⟩
     rw[hw4]at dW km ⊢
     clear hw4
     have h4:=P1.aN km
     have jF:=dS.aq km (by simp)
     have fb:=uN.aq km (by simp)
     have U4:ab M.fp M2.fp w w4:=UW.trans (km.up M2.fp)
     clear C4 km UW uN dS g2 q1 Xc BW
     cases CH with
     |none=>
      refine wk ?_
      exact bodyPost_ret (v:=.tuple #[]) (results_none rfl _ _ _) rfl ⟨rfl,M2,h4,uO.out.symm,rE,U4⟩
     |some v=>
      have Ht:=P7 v rfl
      have hv4:bE w4 A4 k4 v:=dW.rd
      have Kb:∀k∈ak A4,k∉M2.fp:=fun k hk hm=>by have h7:=BX k hk;have h8:=P1.lt k hm;omega
      have adC:∀k∈ak A4,k∉(eA.X:List Nat):=fun k hk hm=>by have h7:=BX k hk;have h8:=P1.po k hm;omega
      have C5:=nQ w4.drew M2 h4.drew m.s (by omega) r.aC ik A4 k4 c4 v (hv4.aq (ab.refl [] w4).drew (by simp)) Kb Ht
      obtain⟨⟨g0,g1,g2,g3,g4,g5,g6⟩,-⟩:=jF.aO.c7
      obtain⟨⟨b0,b1,b2,b3,b4,b5,b6,b7,b8,b9⟩,-⟩:=fb.cJ
      rw[hg2,hb2]at g0 g1
      simp only[ae.ptr,rE,Bl.val]at C5
      have T4:dj w4 ⟨A4,k4,c4,v⟩:=⟨dW.rd,dW.own.tag⟩
      clear P1
      cases cM:M2.pl.accept m.s r.aC v with
      |none=>
       rw[cM]at C5
       have ml:=aA (show R= {M2.pl with rs:=bY m.s M2.pl.rs} by rw[uO.out];simp only[cM])
       clear uO cM BX
       repeat' go_step
       go_still_tail 8,(by kernel_rfl)
       change wpList _ _ _ _ _ w4.drew
       repeat' go_step
       refine C5.mono ?_;rintro e w5 ⟨rfl,M5,h5,ig,lS,-,U5⟩
       replace ig:M5.pl=M2.pl:=ig
       have kZ:=fb.drew.aq U5 DD
       clear g0 g1 g2 g3 g4 g5 g6 b0 b1 b2 b3 b4 b5 b6 b7 b8 b9 C5
       obtain⟨⟨b0,b1,b2,b3,b4,b5,b6,b7,b8,b9⟩,-⟩:=kZ.drew.cJ
       have q8:w5.drew.cell? ⟨M.gs,8,none⟩=some (.map (some M5.br)):=by rw[←rE,←lS];exact h5.aO.cell 8
       obtain⟨w6,wO,qF,dN⟩:=h5.drew.eY.drop underlying3 underlying119 (kt (by omega) (by omega):(Lit.int .i64 m.s).wf=true) 0
       rw[zC,←lC]at qF
       obtain⟨h6,V6⟩:=h5.drew.P8 m.s dN qF
       have bN:=aA (show dZ w w6 M R from⟨_,h6,by
        rw[ml.out,←ig]
        unfold ae.pl
        simp only[lC],lS.trans rE,((U4.drew.trans U5).drew).trans V6⟩)
       clear h6 V6 qF dN U5 U4 h5 h4 kZ fb jF
       repeat' first|go_step|simp only[];go_at_K
       go_still_tail 7,(by kernel_rfl)
       change wpList _ _ _ _ _ w5.drew
       refine eH ?_
       first
        |exact bodyPost_ret (v:=.tuple #[]) (results_none rfl _ _ _) rfl ⟨rfl,bN.out⟩
        |exact bodyPost_end (results_none rfl _ _ _) rfl ⟨rfl,bN.out⟩
      |some t=>
       rw[cM]at C5
       have ml:=aA (show R=(({t with rs:=aT m.s {r2.pl with so:=true,b:=v} t.rs} :Site).others (Site.asks {r2.pl with so:=true,b:=v} m.s) M.n).send M.me (Site.bB m.s r.aC) by rw[uO.out];simp only[cM])
       obtain⟨tm,tn,Na,trs,-⟩:=Site.j6 cM
       clear uO cM BX
       repeat' go_step
       go_still_tail 8,(by kernel_rfl)
       change wpList _ _ _ _ _ w4.drew
       repeat' go_step
       refine C5.mono ?_;rintro e w5 ⟨rfl,M5,h5,ig,lS,uP,U5⟩
       replace ig:M5.pl=t:=ig
       have adD:M5.gs=M.gs:=lS.trans rE
       have xG:aD m.s M5.rs=some r2:=by rw[uP];exact hl2
       have nT:=h5.cI _ (bG xG)
       have kZ:=fb.drew.aq U5 DD
       have IG:H∉M5.fp:=U5.gu DD (by have:=fb.lt;exact this)
       have T5:=(T4.aN (ab.refl [] w4).drew).aq U5 Kb
       have P9:∀k∈ak A4,k∉M5.fp:=fun k hk=>U5.gu (Kb k hk) (fJ (T4.tag k hk))
       have n5:M5.n=M.n:=(congrArg Site.n ig).trans (tn.trans kW)
       have Xd:M5.me=M.me:=(congrArg Site.me ig).trans (tm.trans ET)
       have l5:M5.held.length=M.held.length:=by have:=congrArg (fun z:Site=>z.held.length) ig;simp only[ae.cE,Na]at this;rw[this,BV]
       clear g0 g1 g2 g3 g4 g5 g6 b0 b1 b2 b3 b4 b5 b6 b7 b8 b9 C5 jF fb T4
       obtain⟨⟨g0,g1,g2,g3,g4,g5,g6⟩,f0,f1,f2,f3,f4,f5,f6⟩:=nT.aO.c7
       have KB:=((nT.aO.cc 3 (.bool true)).cc 4 (.slice A4 k4 c4))
       rw[hg2]at g0 g1 g2 g3 g4 g5 g6 f0 f1 f2 f3 f4 f5 f6 KB
       have u6:ab [r.g] [r.g] w5 ((w5.setCell ⟨r.g,3,none⟩ (.bool true)).setCell ⟨r.g,4,none⟩ (.slice A4 k4 c4)):=(((ab.refl [r.g] w5).setCell (p:=⟨r.g,3,none⟩) (.inl (by simp)) _).setCell (p:=⟨r.g,4,none⟩) (.inl (by simp)) _)
       obtain⟨r3,hr3⟩:∃r3:bS,{r2 with so:=true,v:=⟨A4,k4,c4,v⟩} =r3:=⟨_,rfl⟩
       have hX:∀k∈[r.g],cl w5 k=some (some 132):=by simp only[mem_singleton];rintro k rfl;have:=nT.tg;rw[hg2]at this;exact this
       obtain⟨h6,V6⟩:=h5.Jz xG r3 (by rw[←hr3]) (X:=[r.g]) (fun k hk=>by rw[mem_singleton.1 hk];simp[bS.fp,hg2]) u6
        ⟨by rw[←hr3];show aQ _ r2.g _ #[.int .i64 r2.aC.r,.int .i64 r2.aC.s,.slice r2.PA r2.pr.length r2.pc,.bool true,.slice A4 k4 c4,.slice r2.VA r2.vt.length r2.vc,.int .i64 (r2.cV:Int)];rw[hg2];simpa using KB,by rw[←hr3];exact nT.gB.aq u6 (cY nT.tP hX (by decide)),by rw[←hr3];exact nT.DJ.aq u6 (cY nT.tV hX (by decide))⟩
        (fun k hk=>by rw[←hr3]at hk;exact .inl hk) (fun k hk=>by rw[←hr3]at hk;exact .inl hk)
        (
         fun y hy=>by
         rw[←hr3]at hy
         simp only[bS.bytes,mem_cons]at hy
         rcases hy with rfl|hy
         ·exact⟨T5,fun k hk hm=>(by rcases mem_append.1 hm with hm|hm;exact P9 k hk (by simp[ae.fp,hm]);exact adC k hk hm)⟩
         ·exact h5.mZ (bG xG) (by simp only[bS.bytes,mem_cons];exact .inr hy))
        (
         by
         have:=(h5.ok.rs (m.s,r2.pl) (mem_map.2 ⟨_,bG xG,rfl⟩)).2.2
         rw[←hr3]
         exact⟨Ht,this.2.1,this.2.2⟩)
       obtain⟨M6,uQ⟩:∃M6:ae,{M5 with rs:=aT m.s r3 M5.rs} =M6:=⟨_,rfl⟩
       rw[uQ]at h6 V6
       have gO:M6.pl= {t with rs:=aT m.s {r2.pl with so:=true,b:=v} t.rs}:=by
        rw[←uQ,show({M5 with rs:=aT m.s r3 M5.rs} :ae).pl= {M5.pl with rs:=aT m.s r3.pl M5.pl.rs}from by unfold ae.pl;simp only[fi],ig,←hr3]
        rfl
       have jG:M6.gs=M.gs:=by rw[←uQ];exact adD
       have n6:M6.n=M.n:=by rw[←uQ];exact n5
       have xH:M6.me=M.me:=by rw[←uQ];exact Xd
       have l6:M6.held.length≤900000000:=by rw[←uQ];show M5.held.length≤_;omega
       have qF:(m.s,r3)∈M6.rs:=by rw[←uQ];exact ec.2 (.inl rfl)
       have og:gJ r3 m.s=⟨if r.aC.r=0 then 1 else 5,0,0,m.s,r.aC.r,r.aC.s,r.aC.r,r.aC.s,true,A4,k4,c4,v⟩:=by rw[←hr3];simp[gJ,hb2]
       have Xe:r3.pl= {r2.pl with so:=true,b:=v}:=by rw[←hr3];rfl
       have eF:(gJ r3 m.s).ms=Site.asks {r2.pl with so:=true,b:=v} m.s:=by rw[Hs,Xe]
       have zD:(gJ r3 m.s).ms.Fit:=by rw[eF];exact Site.iX (by omega) (by show r2.aC.may 7=true;rw[hb2];exact ik) Ht
       obtain⟨w6,yN⟩:∃X,(w5.setCell ⟨r.g,3,none⟩ (.bool true)).setCell ⟨r.g,4,none⟩ (.slice A4 k4 c4)=X:=⟨_,rfl⟩
       rw[yN]at h6 V6 u6 KB
       have T6:=T5.aq u6 (cY T5.tag hX (by decide))
       have adE:∀k∈ak A4,k∉M6.fp:=fun k hk=>V6.gu (P9 k hk) (fJ (T5.tag k hk))
       have mP:=kZ.aq V6 IG
       have Nb:H∉M6.fp:=V6.gu IG (by have:=kZ.lt;exact this)
       have C9:=te w6 r3 (h6.cI _ qF) m.s
       have qP:=fun(w7:World)(hu:ab [] [] w6 w7)=>ke w7 M6 (h6.aN hu) (gJ r3 m.s) zD (by rw[og];exact(T6.aN hu).rd) (by rw[og];exact adE) l6
       have iE:r3.ptr=.pointer (some ⟨r.g,0,none⟩):=by rw[←hr3,←hg2];rfl
       simp only[eF,gO,n6,ae.ptr,jG]at qP
       rw[iE]at C9
       obtain⟨av,Qa⟩:∃z,(gJ r3 m.s).val=z:=⟨_,rfl⟩
       rw[Qa]at C9
       simp only[Qa]at qP
       have U6:=(U4.drew.trans U5).trans V6
       obtain⟨⟨b0,b1,b2,b3,b4,b5,b6,b7,b8,b9⟩,-⟩:=mP.cJ
       have HW6:=aA yN
       have Xf:r3.aC=r.aC:=by rw[←hr3];exact hb2
       have Xg:r3.g=r.g:=by rw[←hr3];exact hg2
       clear hr3 uQ KB u6 h5 V6 T5 nT kZ hX og eF zD Qa U4 U5 h4 Xe iE Kb P9 dW hv4
       repeat' first|go_step|simp only[];go_at_K
       refine C9.mono ?_;rintro e w7 ⟨rfl,iT⟩
       repeat' first|go_step|simp only[];go_at_K
       refine(qP w7 iT).mono ?_;rintro e w8 ⟨rfl,M8,h8,vJ,EU,Xh,U8⟩
       have g8:M8.gs=M.gs:=EU.trans jG
       have me8:M8.me=M.me:=by
        have:=congrArg Site.me vJ
        rw[(Site.ib _ _).1]at this
        exact this.trans (tm.trans ET)
       have sL:=h8.cI (m.s,r3) (by rw[Xh];exact qF)
       have od:=(mP.aq iT (by simp)).aq U8 Nb
       have hh8:M8.held.length≤1000000000:=by
        have h1:M8.held.length=M.held.length+(({t with rs:=aT m.s {r2.pl with so:=true,b:=v} t.rs} :Site).tell (Site.asks {r2.pl with so:=true,b:=v} m.s) M.n).length:=by
         rw[←ae.cE,vJ,Site.bH]
         show(t.held++_).length=_
         rw[length_append,Na,ae.cE,BV]
        have h7:M.n≤7:=AP.n7
        have:=Site.kd ({t with rs:=aT m.s {r2.pl with so:=true,b:=v} t.rs} :Site) (Site.asks {r2.pl with so:=true,b:=v} m.s) M.n
        omega
       have z0:w8.drew.cell? ⟨M.gs,0,none⟩=some (.int .i64 (M.me:Int)):=by rw[←g8,←me8];exact h8.aO.cell 0
       have z1:w8.drew.cell? ⟨r.g,0,none⟩=some (.int .i64 r.aC.r):=by rw[←Xg,←Xf];exact sL.aO.cell 0
       have z2:w8.drew.cell? ⟨r.g,1,none⟩=some (.int .i64 r.aC.s):=by rw[←Xg,←Xf];exact sL.aO.cell 1
       have z3:w8.drew.cell? ⟨H,3,none⟩=some (.int .i64 m.s):=od.cell 3
       have rC:=jC w8.drew M8 h8.drew (M.me:Int) ⟨6,0,0,m.s,r.aC.r,r.aC.s,0,0,false,none,0,0,[]⟩ (Site.mO (x:=m.s) (b:=r.aC) (by omega) ik) (by have h3:=AP.me;have h4:=AP.n7;have e3:M.pl.me=M.me:=rfl;have e4:M.pl.n=M.n:=rfl;omega) (bE.nil _ _) hh8
       rw[vJ]at rC
       simp only[ae.ptr,Mv.bJ,g8]at rC
       have U9:=(((U6.trans (iT.up M6.fp)).trans U8).drew)
       clear C9 qP h6 h8 sL mP od b0 b1 b2 b3 b4 b5 b6 b7 b8 b9 T6 U6 U8 iT
       refine wk ?_
       go_still_tail 12,(by kernel_rfl)
       change wpList _ _ _ _ _ w8.drew
       repeat' go_step
       refine rC.mono ?_;rintro e w9 ⟨rfl,M9,h9,vK,EV,-,Sh⟩
       refine wk ?_
       exact bodyPost_end (results_none rfl _ _ _) rfl ⟨rfl,M9,h9,vK.trans ml.out.symm,EV.trans g8,U9.trans Sh⟩
  ·have e2:((r.aC.r==m.br)&&(r.aC.s==m.bs))=false:=by
    rw[Bool.and_eq_false_iff]
    by_cases h1:r.aC.r=m.br
    ·right
     have:r.aC.s≠m.bs:=fun h2=>hb (by rw[←h1,←h2])
     simp[this]
    ·left;simp[h1]
   rw[e2]at E1
   simp only[Bool.not_false]at E1
   have eQ:R=M.pl:=by
    rw[←HR.out];unfold Site.bT;rw[hpl]
    exact if_neg (fun hc=>hb hc.1)
   have K:=aA (fun N N'=>jD ((W.drewN N).drewN N') (((ab.refl [] W).drewN N).drewN N') eQ)
   clear jD hpl hb e2
   go_enter func194,ntmps194
   repeat' go_step
   go_quiet (fail)
   repeat' go_step
   go_quiet (fail)
   refine wk ?_
   exact bodyPost_ret (v:=.tuple #[]) (results_none rfl _ _ _) rfl ⟨rfl,K.out _ _⟩
end Go.Proofs.YtijhlbeipglieaaGreat
namespace aL
open Go Go.Proofs.YtijhlbeipglieaaGreat List
def mE(D:Int→Option (List UInt8))(s n:Nat):List Int:=((range' s n).map fun(i:Nat)=>(i:Int)).filter fun x=>(D x).isSome
theorem vL(D:Int→Option (List UInt8))(s n:Nat):mE D s (n+1)=mE D s n++(if(D ((s+n:Nat):Int)).isSome then[((s+n:Nat):Int)] else[]):=by
 unfold mE
 rw[range'_concat,map_append,filter_append]
 congr 1
 simp only[Nat.one_mul,map_cons,map_nil,filter_cons,filter_nil]
theorem Qb(D:Int→Option (List UInt8))(s n m:Nat):mE D s (n+m)=mE D s n++mE D (s+n) m:=by
 induction m with
 |zero=>simp[mE]
 |succ m ih=>rw[←Nat.add_assoc,vL,ih,vL,append_assoc,Nat.add_assoc]
theorem BY(D:Int→Option (List UInt8))(s n N:Nat)(h:n≤N)(hl:(mE D s n).length≤16)(he:n=N∨(mE D s n).length=16):(mE D s N).take 16=mE D s n:=by
 rcases he with rfl|he
 ·exact take_of_length_le hl
 ·obtain⟨m,rfl⟩:∃m,N=n+m:=⟨N - n,by omega⟩
  rw[Qb,take_append_of_le_length (by omega),take_of_length_le hl]
def Site.kM(D:Int→Option (List UInt8))(to:Int)(s:Site)(l:List Int):Site:=l.foldl (fun u x=>u.send to (Site.bD x ((D x).getD []))) s
theorem Site.EW(D:Int→Option (List UInt8))(to:Int)(s:Site)(l:List Int)(x:Int):Site.kM D to s (l++[x])=(Site.kM D to s l).send to (Site.bD x ((D x).getD [])):=by
 unfold Site.kM;rw[foldl_append];rfl
theorem Site.ue:∀(f c:Nat)(s:Site)(to:Int),c≤8→(Site.cG f c s to).held.length≤s.held.length+(s.n+1)*(8-c)
 |0,_,_,_,_=>by unfold Site.cG;omega
 |f+1,c,s,to,hc=>by
  unfold Site.cG
  split
  ·omega
  split
  ·omega
  split
  ·split
   ·omega
   ·rename_i t ha
    have k:=Site.nU ha
    have h0:t.held=s.held:=(Site.j6 ha).2.2.1
    have:=Site.ue f (c+1) (t.iI s.bQ (bV s.me s.nx s.n)) to (by omega)
    have h1:(t.iI s.bQ (bV s.me s.nx s.n)).held.length≤s.held.length+s.n+1:=by
     unfold Site.iI Site.send
     rw[Site.bH]
     have h2:=Site.kd t (Site.bt (bV s.me s.nx s.n) s.bQ) t.n
     have h3:=k.n
     simp only[length_append,length_cons,length_nil,h0]
     omega
    have h4:(t.iI s.bQ (bV s.me s.nx s.n)).n=s.n:=(Site.B1 _ _ _).n.trans k.n
    rw[h4]at this
    have h5:(s.n+1)*(8-c)=(s.n+1)*(8-(c+1))+(s.n+1):=by
     have:8-c=(8-(c+1))+1:=by omega
     rw[this,Nat.mul_add,Nat.mul_one]
    omega
  ·exact Site.ue f c {s with nx:=(bV s.me s.nx s.n+1).toNat} to hc
theorem Site.Kc(s:Site)(to:Int)(h7:s.n≤7):(s.skip to).held.length≤s.held.length+64:=by
 have:=Site.ue 4098 0 s to (by omega)
 unfold Site.skip
 have h2:(s.n+1)*(8-0)≤64:=by have:8-0=8:=rfl;rw[this];omega
 omega
theorem Site.xI(D:Int→Option (List UInt8))(to:Int):∀(l:List Int)(s:Site)(x:Int),(Site.kM D to s l).dec x=s.dec x
 |[],_,_=>rfl
 |y::l,s,x=>Site.xI D to l (s.send to (Site.bD y ((D y).getD []))) x
theorem uf{α:Type}(L:AL α)(h:∀p∈L,0≤p.1∧p.1<4096):0≤eT L∧eT L≤4096:=by
 unfold eT
 have:∀(L:AL α)(m:Int),(∀p∈L,0≤p.1∧p.1<4096)→0≤m→m≤4096→0≤L.foldl (fun m p=>max m (p.1+1)) m∧L.foldl (fun m p=>max m (p.1+1)) m≤4096:=by
  intro L
  induction L with
  |nil=>exact fun m _ h0 h1=>⟨h0,h1⟩
  |cons p L ih=>
   intro m hp h0 h1
   have:=hp p (by simp)
   exact ih _ (fun q hq=>hp q (mem_cons_of_mem _ hq)) (by show 0≤max m (p.1+1);omega) (by show max m (p.1+1)≤4096;omega)
 exact this L 0 h (by omega) (by omega)
end aL
namespace Go.Proofs.YtijhlbeipglieaaGreat
open Go.RowKit aL Go.Maps Tryz List
variable [eA]
theorem Kd(w:World)(M:ae)(h:aJ w M)(m:Mv)(hm:m.ms.bL)(hl:M.held.length≤600000000) :
  Calls prog 198 #[M.ptr,m.val] w fun e w'=>e=.returned (.tuple #[])∧dZ w w' M (M.pl.wanted m.ms):=by
 obtain⟨W,H,eW,hH,hB,U0⟩:=cb w 32 #[.int .i64 m.k,.int .i64 m.f,.int .i64 m.t,.int .i64 m.s,.int .i64 m.br,.int .i64 m.bs,.int .i64 m.hr,.int .i64 m.hs,.bool m.so,.slice m.A m.n m.c]
 have h1:=h.aN U0
 have cv:=U0.gives (b':=[]) (by simp)
 have lP:0≤m.s∧m.s≤4095:=hm.slot
 have tY:0≤m.f∧m.f≤6:=hm.aR
 have gU:H∉M.fp:=fun hk=>by have:=h.lt H hk;omega
 have eO:(Lit.int .i64 m.s).wf=true:=kt (by omega) (by omega)
 obtain⟨T,hT⟩:∃T,(if m.so=true∧M.pl.dec m.s=none∧bK m.s M.n=M.me then M.pl.skip (m.s+1)else M.pl)=T:=⟨_,rfl⟩
 have HT:=aA hT
 obtain⟨R,hR⟩:=bk (M.pl.wanted m.ms)
 have HR:=aA (show R=Site.kM T.dec m.f T ((mE T.dec m.s.toNat ((eT T.lv).toNat-m.s.toNat)).take 16) by rw[←hR,←hT];rfl)
 rw[hR]
 clear hR hT
 obtain⟨dn,lT⟩:∃d,(M.pl.dec m.s).isSome=d:=⟨_,rfl⟩
 have C1:=qQ W.drew M.gl M.bl M.lv M.taken h1.drew.iH h1.drew.yw m.s eO
 have Nc:(aD m.s M.lv).isSome=dn:=by rw[←lT,ae.pq,Option.isSome_map]
 rw[Nc]at C1
 have IH:=aA lT
 have q7:W.drew.cell? ⟨M.gs,7,none⟩=some (.pointer (some ⟨M.gl,0,none⟩)):=h1.aO.cell 7
 have a3:W.drew.cell? ⟨H,3,none⟩=some (.int .i64 m.s):=hB.cell 3
 rw[ae.ptr,Mv.bJ]
 clear lT Nc
 go_enter func198,ntmps198
 repeat' go_step
 go_upto_region 1 with fail
 go_cut [5]from 11 (fun s5 wc=>s5=.bool dn∧ab [] [] W wc)
 case first=>
  go_region_held3 (fun w'=>w'.cell? ⟨M.gs,7,none⟩=some (.pointer (some ⟨M.gl,0,none⟩))∧w'.cell? ⟨H,3,none⟩=some (.int .i64 m.s)) (first|exact⟨q7,a3⟩|exact⟨Xi,Xj⟩)
   (
    first
    |(go_at_call 93;(with_reducible refine C1.mono ?_);rintro e w1 ⟨A1,n1,c1,rfl,iY,bn⟩;have Xi:=bn.cell q7 (by simp);have Xj:=bn.cell a3 (by simp)))
  all_goals (refine eH ?_)
  all_goals go_meet
  all_goals exact⟨rfl,((ab.refl [] W).drew.trans bn).gives (by simp)⟩
 case rest=>
  obtain⟨rfl,U1⟩:=hcut
  have h2:=h1.aN U1
  have cX:=hB.aq U1 (by simp)
  have UW:=cv.trans U1
  have Xk:∀N,(wc.drewN N).cell? ⟨H,8,none⟩=some (.bool m.so):=fun N=>cX.cell 8
  have IE:∀N,(wc.drewN N).cell? ⟨H,3,none⟩=some (.int .i64 m.s):=fun N=>cX.cell 3
  have oU:∀N,(wc.drewN N).cell? ⟨M.gs,0,none⟩=some (.int .i64 (M.me:Int)):=fun N=>h2.aO.cell 0
  have o6:∀N,(wc.drewN N).cell? ⟨M.gs,1,none⟩=some (.int .i64 (M.n:Int)):=fun N=>h2.aO.cell 1
  obtain⟨wo,qO⟩:∃x,wc=x:=⟨_,rfl⟩
  simp only[qO]at h2 cX UW Xk IE oU o6
  rw[qO]
  clear qO U1 C1 q7 a3 h1
  have CO:=fun N=>qa (wo.drewN N) m.s M.n
  obtain⟨D,hD⟩:=bk ((m.so&&(!dn&&(bK m.s M.n==(M.me:Int)))))
  have HD:=aA hD
  obtain⟨so,vI⟩:=bk m.so
  obtain⟨o,ho⟩:=bk (bK m.s M.n)
  have pA:=aA vI
  have HO:=aA ho
  simp only[vI]at Xk
  simp only[ho]at CO
  rw[vI,ho]at HD
  clear hD vI ho
  go_upto_region 2 with fail
  go_cut [41]from 22 (fun s41 wc=>s41=.bool D∧ab [] [] wo wc)
  case first=>
   clear h2 cX UW HR HT
   cases so with
   |false=>
    have sM:=HD.out
    simp only[Bool.false_and]at sM
    subst sM
    go_quiet (with_reducible exact kf (CO _))
    refine wk ?_
    go_meet
    exact⟨rfl,(ab.refl [] wo).drewN _⟩
   |true=>
    cases dn with
    |true=>
     have sM:=HD.out
     simp only[Bool.not_true,Bool.false_and,Bool.and_false]at sM
     subst sM
     go_quiet (with_reducible exact kf (CO _))
     refine wk ?_
     go_meet
     exact⟨rfl,(ab.refl [] wo).drewN _⟩
    |false=>
     have sM:=HD.out
     simp only[Bool.not_false,Bool.true_and]at sM
     have HDF:=aA sM
     clear sM
     go_quiet (with_reducible exact kf (CO _))
     refine wk ?_
     go_meet
     exact⟨by rw[HDF.out],(ab.refl [] wo).drewN _⟩
  case rest=>
   obtain⟨rfl,U2⟩:=hcut
   have h3:=h2.aN U2
   have iM:=cX.aq U2 (by simp)
   have UX:=UW.trans U2
   obtain⟨wx,hwx⟩:∃x,wc=x:=⟨_,rfl⟩
   rw[hwx]at h3 iM UX ⊢
   clear hwx U2 Xk IE oU o6 CO h2 cX UW
   have Xl:=aA (show T=if D=true then M.pl.skip (m.s+1)else M.pl by
    rw[←HT.out]
    have h1:=HD.out
    have h2:=IH.out
    rw[←pA.out,←HO.out]at h1
    by_cases hc:m.so=true∧M.pl.dec m.s=none∧bK m.s M.n=M.me
    ·rw[if_pos hc,if_pos]
     rw[←h1,hc.1,←h2,hc.2.1,hc.2.2];simp
    ·rw[if_neg hc,if_neg]
     intro hd
     rw[←h1]at hd
     simp only[Bool.and_eq_true,Bool.not_eq_true',beq_iff_eq]at hd
     refine hc ⟨hd.1,?_,hd.2.2⟩
     have h9:=hd.2.1
     rw[←h2]at h9
     cases hq:M.pl.dec m.s with
     |none=>rfl
     |some _=>rw[hq]at h9;cases h9)
   go_upto_if 41 with fail
   go_cut [3]from 11 (fun s3 wc=>s3=.pointer (some ⟨H,0,none⟩)∧∃M1,aJ wc M1∧M1.pl=T∧M1.gs=M.gs∧M1.held.length≤700000000∧ab M.fp M1.fp w wc∧aQ wc H 32 #[.int .i64 m.k,.int .i64 m.f,.int .i64 m.t,.int .i64 m.s,.int .i64 m.br,.int .i64 m.bs,.int .i64 m.hr,.int .i64 m.hs,.bool m.so,.slice m.A m.n m.c]∧H∉M1.fp)
   case first=>
    cases D with
    |false=>
     have bN:=aA (show ∃M1,aJ wx M1∧M1.pl=T∧M1.gs=M.gs∧M1.held.length≤700000000∧ab M.fp M1.fp w wx∧aQ wx H 32 #[.int .i64 m.k,.int .i64 m.f,.int .i64 m.t,.int .i64 m.s,.int .i64 m.br,.int .i64 m.bs,.int .i64 m.hr,.int .i64 m.hs,.bool m.so,.slice m.A m.n m.c]∧H∉M1.fp from
      ⟨M,h3,by rw[Xl.out];rfl,rfl,by omega,UX.up M.fp,iM,gU⟩)
     clear h3 iM
     refine wk ?_
     go_meet
     exact⟨rfl,bN.out⟩
    |true=>
     have C3:=uc wx M h3 (m.s+1) (by omega)
     obtain⟨⟨b0,b1,b2,b3,b4,b5,b6,b7,b8,b9⟩,-⟩:=iM.cJ
     have dC:=aL.wr (m.s+1)
     rw[ae.ptr]at C3
     repeat' go_step
     refine C3.mono ?_;rintro e w4 ⟨rfl,M1,H1,ee,hg1,-,u1⟩
     have bN:=aA (show ∃M1,aJ w4 M1∧M1.pl=T∧M1.gs=M.gs∧M1.held.length≤700000000∧ab M.fp M1.fp w w4∧aQ w4 H 32 #[.int .i64 m.k,.int .i64 m.f,.int .i64 m.t,.int .i64 m.s,.int .i64 m.br,.int .i64 m.bs,.int .i64 m.hr,.int .i64 m.hs,.bool m.so,.slice m.A m.n m.c]∧H∉M1.fp from
      ⟨M1,H1,by rw[Xl.out,if_pos rfl];exact ee,hg1,by
       have h1:=congrArg (fun z:Site=>z.held.length) ee
       simp only[ae.cE]at h1
       have h2:=Site.Kc M.pl (m.s+1) h.ok.n7
       rw[ae.cE]at h2
       omega,(UX.up M.fp).trans u1,iM.aq u1 gU,u1.gu gU iM.lt⟩)
     clear C3 H1 u1 ee h3 iM b0 b1 b2 b3 b4 b5 b6 b7 b8 b9
     refine wk ?_
     go_meet
     exact⟨rfl,bN.out⟩
   case rest=>
    obtain⟨rfl,M1,h4,jj,hg4,hl4,U4,fb,EX⟩:=hcut
    have q7:wc.cell? ⟨M.gs,7,none⟩=some (.pointer (some ⟨M1.gl,0,none⟩)):=by rw[←hg4];exact h4.aO.cell 7
    have C5:=EY wc M1.gl M1.bl M1.lv M1.taken h4.iH
    obtain⟨tp,xJ⟩:=bk (eT M1.lv)
    rw[xJ]at C5
    have Xm:eT T.lv=tp:=by rw[←jj,←xJ];exact EZ bO.b M1.lv
    have htr:0≤tp∧tp≤4096:=by rw[←xJ];exact uf M1.lv (fun p hp=>by have:=h4.iH.keys p hp;omega)
    have Si:=aA Xm
    clear xJ Xm h3 iM UX HD IH pA HO Xl HT
    repeat' go_step
    refine C5.mono ?_;rintro e w5 ⟨rfl,cF⟩
    have h5:=h4.aN cF
    have kZ:=fb.aq cF (by simp)
    have U5:=U4.trans (cF.up M1.fp)
    clear C5 h4 fb U4 cF q7
    obtain⟨⟨b0,b1,b2,b3,b4,b5,b6,b7,b8,b9⟩,-⟩:=kZ.cJ
    obtain⟨s0,hs0⟩:∃s0:Nat,m.s=(s0:Int):=⟨m.s.toNat,by omega⟩
    have Xn:m.s.toNat=s0:=by omega
    have pn:=HR.out
    rw[Xn,Si.out]at pn
    have Sj:=aA pn
    have HS0:=aA hs0
    rw[hs0]at b3
    clear pn Xn hs0
    refine wk ?_
    go_loopw [6,8] (fun v6 v8 wr=>∃(k y:Nat)(M2:ae),v6=.int .i64 (k:Int)∧v8=.int .i64 ((s0+y:Nat):Int)∧k≤16∧(y=0∨((s0+y:Nat):Int)≤tp)∧(mE T.dec s0 y).length=k∧aJ wr M2∧M2.pl=Site.kM T.dec m.f T (mE T.dec s0 y)∧M2.gs=M.gs∧M2.held.length≤700000000+k∧ab M.fp M2.fp w wr∧aQ wr H 32 #[.int .i64 m.k,.int .i64 m.f,.int .i64 m.t,.int .i64 m.s,.int .i64 m.br,.int .i64 m.bs,.int .i64 m.hr,.int .i64 m.hs,.bool m.so,.slice m.A m.n m.c]∧H∉M2.fp) (fun _ v8 _=>(4096-intOf v8).toNat)
    case atStart=>exact⟨0,0,M1,rfl,rfl,by omega,.inl rfl,rfl,h5,jj,hg4,by omega,U5,kZ,EX⟩
    case round=>
     obtain⟨k,y,M2,rfl,rfl,hk,hy,Is,h6,gO,jG,E3,U6,mP,Nb⟩:=hrel
     have Nd:=aA gO
     have Nf:=aA Is
     clear gO Is h5 kZ U5 b0 b1 b2 b3 b4 b5 b6 b7 b8 b9
     by_cases Sk:((s0+y:Nat):Int)<tp
     ·have Xo:decide (((s0+y:Nat):Int)<tp)=true:=dJ Sk
      by_cases adF:k<16
      ·have dk:decide ((k:Int)<16)=true:=oT
       have hki:(k:Int)<16:=by omega
       have dC:IntKind.i64.wrap (((s0+y:Nat):Int)+1)=((s0+(y+1):Nat):Int):=by rw[IntKind.wrap_i64];omega
       have hw2:IntKind.i64.wrap ((k:Int)+1)=((k+1:Nat):Int):=by rw[IntKind.wrap_i64];omega
       have q7:wr.cell? ⟨M.gs,7,none⟩=some (.pointer (some ⟨M2.gl,0,none⟩)):=by rw[←jG];exact h6.aO.cell 7
       have hdec:(aD ((s0+y:Nat):Int) M2.lv).map bO.b=T.dec ((s0+y:Nat):Int):=by
        rw[←ae.pq,Nd.out]
        exact Site.xI _ _ _ _ _
       have C7:=qQ wr M2.gl M2.bl M2.lv M2.taken h6.iH h6.yw ((s0+y:Nat):Int) (kt (by omega) (by omega))
       rw[show(aD ((s0+y:Nat):Int) M2.lv).isSome=(T.dec ((s0+y:Nat):Int)).isSome by rw[←hdec,Option.isSome_map],hdec]at C7
       have hS:=vL T.dec s0 y
       obtain⟨DV,zE⟩:=bk (T.dec ((s0+y:Nat):Int))
       have hlen:∀v,DV=some v→v.length≤2048:=fun v hv=>by
        rw[←zE,←hdec]at hv
        cases hq:aD ((s0+y:Nat):Int) M2.lv with
        |none=>rw[hq]at hv;cases hv
        |some z=>
         rw[hq]at hv
         injection hv with hv
         rw[←hv]
         exact(h6.iH.keys _ (bG hq)).2.2
       have pQ:=aA zE
       rw[zE]at C7 hS
       have HS:=aA hS
       clear hdec zE hS
       obtain⟨sy,sx⟩:∃sy:Int,((s0+y:Nat):Int)=sy:=⟨_,rfl⟩
       rw[sx]at Xo Sk dC C7 HS pQ hy ⊢
       have Ng:=aA sx
       clear sx
       repeat' first|go_guarded|go_step
       refine C7.mono ?_;rintro e w7 ⟨A7,n7,c7,rfl,sj,iT⟩
       have h7:=h6.aN iT
       have hA7:=(ab.refl [] wr).new iT
       have sN:=mP.aq iT (by simp)
       have U7:=U6.trans (iT.up M2.fp)
       clear C7 q7
       cases DV with
       |none=>
        have gz:=HS.out
        simp only[Option.isSome_none,Bool.false_eq_true,if_false,append_nil]at gz
        have rF:=aA gz
        clear gz h6 mP U6 iT
        refine wk ?_
        refine⟨⟨k,y+1,M2,rfl,rfl,hk,.inr ?_,by rw[rF.out];exact Nf.out,h7,by rw[rF.out];exact Nd.out,jG,E3,U7,sN,Nb⟩,?_⟩
        ·have:=Ng.out;omega
        ·have:=Ng.out;simp only[intOf];omega
       |some v=>
        have gi:=hlen v rfl
        have gz:=HS.out
        simp only[Option.isSome_some,if_true]at gz
        have rF:=aA gz
        have ahH:∀x∈ak A7,x∉M2.fp:=fun x hx hm=>by have h1:=hA7 x hx;have h2:=h6.lt x hm;omega
        have C8:=vM w7.drew sy A7 n7 c7 v
        have C9:=fun(w8:World)(hu:ab [] [] w7.drew w8)=>jC w8 M2 (h7.drew.aN hu) m.f ⟨7,0,0,sy,0,0,0,0,true,A7,n7,c7,v⟩ (Site.j7 (x:=sy) (v:=v) (by have:=Ng.out;omega) gi) tY ((bE.aq (show bE w7.drew A7 n7 v from sj.rd) hu (by simp))) (by omega)
        obtain⟨⟨e0,e1,e2,e3,e4,e5,e6,e7,e8,e9⟩,-⟩:=sN.drew.cJ
        have eF:Mv.ms ⟨7,0,0,sy,0,0,0,0,true,A7,n7,c7,v⟩=Site.bD sy v:=rfl
        obtain⟨tv,vN⟩:=bk (Mv.val ⟨7,0,0,sy,0,0,0,0,true,A7,n7,c7,v⟩)
        rw[vN]at C8
        simp only[eF,vN,ae.ptr,jG]at C9
        clear gz h6 mP U6 iT vN eF hlen
        repeat' first|go_step|simp only[];go_at_K
        go_region_with (first
         |(go_at_call 118;(with_reducible refine C8.mono ?_);rintro e w8 ⟨rfl,lD⟩;have e1b:=lD.cell e1 (by simp))
         |(go_at_call 64;(with_reducible refine(C9 w8 lD).mono ?_);rintro e w9 ⟨rfl,M9,h9,vK,EV,-,U9⟩))
        all_goals (refine eH ?_)
        all_goals
         have U79:ab M.fp M9.fp w w9:=((U7.drew.trans (lD.up M2.fp)).trans U9)
         have B9:=((sN.drew.aq lD (by simp)).aq U9 Nb)
         have l9:M9.held.length≤700000000+(k+1):=by
          have h1:=congrArg (fun z:Site=>z.held.length) vK
          simp only[ae.cE,Site.send,length_append,length_cons,length_nil]at h1
          omega
         have p9:M9.pl=Site.kM T.dec m.f T (mE T.dec s0 (y+1)):=by
          rw[rF.out,Site.EW,vK,Nd.out,pQ.out];rfl
         refine⟨⟨k+1,y+1,M9,rfl,rfl,by omega,.inr ?_,by rw[rF.out,length_append,Nf.out];rfl,h9,p9,EV.trans jG,l9,U79,B9,U9.gu Nb (by have:=(sN.drew.aq lD (by simp)).lt;exact this)⟩,?_⟩
         ·have:=Ng.out;omega
         ·have:=Ng.out;simp only[intOf];omega
      ·have dk:decide ((k:Int)<16)=false:=iO
       have hk2:decide (k<16)=false:=eE adF
       have xn:k=16:=by omega
       have Nh:R=M2.pl:=by
        rw[Sj.out,Nd.out,BY T.dec s0 y (tp.toNat-s0) (by omega) (by rw[Nf.out];exact hk) (.inr (by rw[Nf.out];exact xn))]
       have bN:=aA (show dZ w wr M R from⟨M2,h6,Nh.symm,jG,U6⟩)
       have HKK:=aA xn
       clear Nh h6 U6 mP xn
       repeat' first|go_guarded|go_step
       exact bodyPost_end (results_none rfl _ _ _) rfl ⟨rfl,bN.out⟩
     ·have Xo:decide (((s0+y:Nat):Int)<tp)=false:=eE Sk
      have Nh:R=M2.pl:=by
       have hN:y=tp.toNat - s0:=by rcases hy with h1|h1<;>omega
       rw[Sj.out,Nd.out,BY T.dec s0 y (tp.toNat-s0) (by omega) (by rw[Nf.out];exact hk) (.inl hN)]
      have bN:=aA (show dZ w wr M R from⟨M2,h6,Nh.symm,jG,U6⟩)
      obtain⟨sy,sx⟩:∃sy:Int,((s0+y:Nat):Int)=sy:=⟨_,rfl⟩
      rw[sx]at Xo Sk ⊢
      clear Nh h6 U6 mP sx
      refine wk ?_
      exact bodyPost_end (results_none rfl _ _ _) rfl ⟨rfl,bN.out⟩
