/- Merged: Hand4, Hand5, Hand6. -/
import Derived.Deep.RegionHeldLaw
import Derived.Deep.RegionHeld3
import Derived.Test.YtijhlbeipglieaaGreatPkProp
import Derived.Test.YtijhlbeipglieaaGreatPkHandA
set_option linter.all false
set_option maxRecDepth 100000
set_option maxHeartbeats 4000000
namespace Go.Proofs.YtijhlbeipglieaaGreat
open Go.RowKit Agio Go.Maps
theorem infoProm:(Tryz.prog.info? 340).map (fun i=>(i.zero,i.size,i.bytes))=some (some (.agg #[.int .i64 0,.bool false,.int .i64 0,.int .i64 0,.slice none 0 0]),5,56):=by kernel_rfl
variable [Ban]
theorem SiteS.prom {w:World} {M:SiteV} (h:SiteS w M) {x:Int} {r:RnV} (hl:lookG x M.rs=some r) (q:PmV) (hq:BytS w q.s∧∀k∈ablk q.s.A,k∉M.bans) (hql:q.s.b.length≤2048) (hv:r.pr.length≤1000000000) :
  ∃A' c' w3,(Builtin.append_ #[129,129] 129 #[.slice r.PA r.pr.length r.pc,.slice (some ⟨w.heap.size,0,none⟩) 1 1]).run Tryz.prog (w.alloc (.cells #[.int .i64 q.f,.bool q.so,.int .i64 q.at_.r,.int .i64 q.at_.s,.slice q.s.A q.s.n q.s.c] 340))= .ok (.slice A' (r.pr.length + 1) c') w3∧
   Upd (ablk r.PA) (ablk A') w w3∧w3.cell? ⟨r.g,2,none⟩=some (.slice r.PA r.pr.length r.pc)∧w3.frozen? ⟨r.g,2,none⟩=false∧
   SiteS (w3.setCell ⟨r.g,2,none⟩ (.slice A' (r.pr.length + 1) c')) {M with rs:=putG x {r with PA:=A',pc:=c',pr:=r.pr ++ [q]} M.rs}∧
   Upd M.fp ({M with rs:=putG x {r with PA:=A',pc:=c',pr:=r.pr ++ [q]} M.rs} :SiteV).fp w (w3.setCell ⟨r.g,2,none⟩ (.slice A' (r.pr.length + 1) c')):=by
 have hmem:=lookG_some hl
 have h1:=h.upd0 ((Upd.refl [] w).alloc (.cells #[.int .i64 q.f,.bool q.so,.int .i64 q.at_.r,.int .i64 q.at_.s,.slice q.s.A q.s.n q.s.c] 340))
 have hR:=h.rds _ hmem
 have hR1:=h1.rds _ hmem
 obtain ⟨A',c',w3,hrun,ho,hu⟩:=run_app (P:=Tryz.prog) _ 129 129 340 Tryz.underlying129 infoProm rfl (by decide) r.PA r.pr.length r.pc _ hR1.prs (some ⟨w.heap.size,0,none⟩) 1 1 (PmV.cells q) (Rd.blk (Blk.new _ _ _) rfl)
  (by intro u hu;simp only [PmV.cells,List.mem_cons,List.not_mem_nil,or_false] at hu;rcases hu with rfl | rfl | rfl | rfl | rfl <;> rfl) (by unfold maxLen;omega) (by omega)
 have hg:r.g∉ablk r.PA:=tag_off hR1.tg hR1.tP (by decide)
 have hb3:=hR1.blk.upd hu hg
 have U:Upd (ablk r.PA) (ablk A') w w3:=((Upd.refl (ablk r.PA) w).alloc _).trans hu
 have u4:Upd [r.g] [r.g] w3 (w3.setCell ⟨r.g,2,none⟩ (.slice A' (r.pr.length + 1) c')):=(Upd.refl [r.g] w3).setCell (p:=⟨r.g,2,none⟩) (.inl (by simp)) _
 have U4:Upd (r.g :: ablk r.PA) (r.g :: ablk A') w (w3.setCell ⟨r.g,2,none⟩ (.slice A' (r.pr.length + 1) c')):=
  (U.mono (a':=r.g :: ablk r.PA) (b':=r.g :: ablk A') (fun k hk=>List.mem_cons_of_mem _ hk) (fun k hk=>by
   rcases List.mem_cons.1 hk with rfl | hk
   ·exact .inr (.inl (by simp))
   ·exact .inl hk)).trans (u4.mono (a':=r.g :: ablk A') (b':=r.g :: ablk A') (by simp) (fun k hk=>.inr (.inl hk)))
 have ho':Agio.Own 340 5 w3 A' (r.pr.length + 1) c' ((r.pr ++ [q]).flatMap PmV.cells):=by rw [List.flatMap_append,List.flatMap_cons,List.flatMap_nil,List.append_nil];exact ho
 have hgA':∀k∈ablk A',k∉[r.g]:=fun k hk hm=>by
  rw [List.mem_singleton] at hm;subst hm
  exact tag_ne (ho'.tag _ hk) hb3.tag (by decide) rfl
 refine ⟨A',c',w3,hrun,U,hb3.cell 2,hb3.frozen 2,?_⟩
 refine h.setR hl {r with PA:=A',pc:=c',pr:=r.pr ++ [q]} rfl (X:=r.g :: ablk r.PA) (fun k hk=>?_) U4 ⟨?_,?_,?_⟩ (fun k hk=>?_) (fun k hk=>.inl hk) (fun y hy=>?_) ?_
 ·simp only [RnV.fp,List.mem_cons,List.mem_append] at hk ⊢
  rcases hk with h1 | h1
  ·exact .inl h1
  ·exact .inr (.inl h1)
 ·have:=hb3.set_ 2 (.slice A' (r.pr.length + 1) c')
  simpa using this
 ·have:=ho'.upd u4 hgA'
  simpa using this
 ·refine (hR.vts.upd U (tag_offs hR.tV hR.tP (by decide))).upd u4 (fun k hk hm=>?_)
  rw [List.mem_singleton] at hm;subst hm
  exact tag_ne (hR.tV _ hk) hR.tg (by decide) rfl
 ·rcases U.fresh k hk with h1 | h1
  ·exact .inl h1
  ·exact .inr h1
 ·simp only [RnV.bytes,List.map_append,List.map_cons,List.map_nil,List.mem_cons,List.mem_append,List.not_mem_nil,or_false] at hy
  rcases hy with rfl | hy | rfl
  ·exact h.rsByt hmem (by simp [RnV.bytes])
  ·exact h.rsByt hmem (by simp only [RnV.bytes,List.mem_cons];exact .inr hy)
  ·exact hq
 ·have:=(h.ok.rs (x,r.pl) (List.mem_map.2 ⟨_,hmem,rfl⟩)).2.2
  refine ⟨this.1,this.2.1,fun p hp=>?_⟩
  simp only [RnV.pl,List.map_append,List.map_cons,List.map_nil,List.mem_append,List.mem_singleton] at hp
  rcases hp with hp | rfl
  ·exact this.2.2 p hp
  ·exact hql
end Go.Proofs.YtijhlbeipglieaaGreat
namespace Agio
open Go Go.Proofs.YtijhlbeipglieaaGreat
theorem choose_len {l:List Pm} {n:Int} {v:List UInt8} (hl:∀p∈l,p.b.length≤2048) (h:chooseP l n=some v):v.length≤2048:=by
 unfold chooseP at h
 split at h
 ·injection h with h
  subst h
  cases hb:bestP n l with
  | none=>simp
  | some q=>
   rw [bestP_gr] at hb
   cases hg:grP n l l.length with
   | none=>rw [hg] at hb;cases hb
   | some j=>
    rw [hg] at hb
    exact hl q (List.mem_of_getElem? hb)
 ·cases h
end Agio
namespace Go.Proofs.YtijhlbeipglieaaGreat
open Go.RowKit Agio Go.Maps
variable [Ban]
theorem sitePromised (w:World) (M:SiteV) (h:SiteS w M) (m:Mv) (hm:m.ms.May) (hbm:BytS w m.sl) (hfar:∀k∈ablk m.A,k∉M.fp) (hbn:∀k∈ablk m.A,k∉(Ban.X:List Nat)) (hl:M.held.length≤900000000) (hvt:∀p∈M.rs,p.2.pr.length≤900000000) :
  Calls Tryz.prog 194 #[M.ptr,m.val] w fun e w'=>e= .returned (.tuple #[])∧Gone w w' M (M.pl.promised m.ms):=by
 have h0ok:=h.ok
 have hslot:0≤m.s∧m.s≤4095:=hm.slot
 have hwf:(Lit.int .i64 m.s).wf=true:=wfI (by omega) (by omega)
 obtain ⟨W,H,eW,hH,hB,U0⟩:=boxes1 w 32 #[.int .i64 m.k,.int .i64 m.f,.int .i64 m.t,.int .i64 m.s,.int .i64 m.br,.int .i64 m.bs,.int .i64 m.hr,.int .i64 m.hs,.bool m.so,.slice m.A m.n m.c]
 have h1:=h.upd0 U0
 have hHf:H∉M.fp:=fun hk=>by have:=h.lt H hk;omega
 have q8:W.cell? ⟨M.gs,8,none⟩=some (.map (some M.br)):=h1.blk.cell 8
 have q8N:∀N,(W.drewN N).cell? ⟨M.gs,8,none⟩=some (.map (some M.br)):=fun N=>q8
 have a1N:∀N,(W.drewN N).cell? ⟨H,1,none⟩=some (.int .i64 m.f):=fun N=>hB.cell 1
 have a3N:∀N,(W.drewN N).cell? ⟨H,3,none⟩=some (.int .i64 m.s):=fun N=>hB.cell 3
 have a4N:∀N,(W.drewN N).cell? ⟨H,4,none⟩=some (.int .i64 m.br):=fun N=>hB.cell 4
 have a5N:∀N,(W.drewN N).cell? ⟨H,5,none⟩=some (.int .i64 m.bs):=fun N=>hB.cell 5
 have hlk:=fun N=>(h1.drewN N).lookR hwf
 have hpl:lookG m.ms.slot M.pl.rs=(lookG m.s M.rs).map RnV.pl:=lookG_map _ _ _
 obtain ⟨R,hR⟩:∃R,M.pl.promised m.ms=R:=⟨_,rfl⟩
 have HR:=Lib.hid hR
 rw [hR]
 clear hR
 rw [Mv.val_eq,SiteV.ptr]
 have U0':=(U0.gives (b':=[]) (by simp))
 have STAY:∀W2,Upd [] [] W W2→R=M.pl→Gone w W2 M R:=fun W2 u e=>⟨M,h.upd0 (U0'.trans u),e.symm,rfl,(U0'.trans u).up M.fp⟩
 cases hq:lookG m.s M.rs with
 | none=>
  rw [hq] at hpl
  simp only [hq] at hlk
  have hRM:R=M.pl:=by rw [←HR.out];unfold Site.promised;rw [hpl];rfl
  have K:=Lib.hid (fun N N'=>STAY ((W.drewN N).drewN N') (((Upd.refl [] W).drewN N).drewN N') hRM)
  simp only [Option.map_none,Option.getD_none,Option.isSome_none] at hlk
  clear STAY hpl
  go_enter Tryz.func194,Tryz.ntmps194
  repeat' (first|go_values|go_skip|go_guarded|go_step|go_upon|(simp only [];go_at_K))
  go_quiet (fail)
  repeat' (first|go_values|go_skip|go_guarded|go_step|go_upon|(simp only [];go_at_K))
  go_quiet (fail)
  repeat' (first|go_values|go_skip|go_guarded|go_step|go_upon|(simp only [];go_at_K))
  exact bodyPost_ret (v:=.tuple #[]) (results_none rfl _ _ _) rfl ⟨rfl,K.out _ _⟩
 | some r=>
  rw [hq] at hpl
  simp only [hq,Option.map_some,Option.getD_some,Option.isSome_some,RnV.ptr] at hlk
  have hmem:=lookG_some hq
  have hRr:=(h1.rds _ hmem)
  have c0N:∀N,(W.drewN N).cell? ⟨r.g,0,none⟩=some (.int .i64 r.bal.r):=fun N=>hRr.blk.cell 0
  have c1N:∀N,(W.drewN N).cell? ⟨r.g,1,none⟩=some (.int .i64 r.bal.s):=fun N=>hRr.blk.cell 1
  have c3N:∀N,(W.drewN N).cell? ⟨r.g,3,none⟩=some (.bool r.so):=fun N=>hRr.blk.cell 3
  have E1:=neBal r.bal.r r.bal.s m.br m.bs
  by_cases hb:r.bal=⟨m.br,m.bs⟩
  ·have e2:((r.bal.r == m.br) && (r.bal.s == m.bs))=true:=by rw [hb];simp
   rw [e2] at E1
   simp only [Bool.not_true] at E1
   have HBB:=Lib.hid hb
   cases hso:r.so with
   | true=>
    have hRM:R=M.pl:=by
     rw [←HR.out];unfold Site.promised;rw [hpl]
     exact if_neg (fun hc=>by have:=hc.2;rw [show r.pl.so=r.so from rfl,hso] at this;cases this)
    have K:=Lib.hid (fun N N'=>STAY ((W.drewN N).drewN N') (((Upd.refl [] W).drewN N).drewN N') hRM)
    simp only [hso] at c3N
    clear STAY hpl hb
    go_enter Tryz.func194,Tryz.ntmps194
    repeat' (first|go_values|go_skip|go_guarded|go_step|go_upon|(simp only [];go_at_K))
    go_quiet (fail)
    repeat' (first|go_values|go_skip|go_guarded|go_step|go_upon|(simp only [];go_at_K))
    go_quiet (fail)
    repeat' (first|go_values|go_skip|go_guarded|go_step|go_upon|(simp only [];go_at_K))
    exact bodyPost_ret (v:=.tuple #[]) (results_none rfl _ _ _) rfl ⟨rfl,K.out _ _⟩
   | false=>
    simp only [hso] at c3N
    clear STAY hb
    go_enter Tryz.func194,Tryz.ntmps194
    repeat' (first|go_values|go_skip|go_guarded|go_step|go_upon|(simp only [];go_at_K))
    go_quiet (fail)
    repeat' (first|go_values|go_skip|go_guarded|go_step|go_upon|(simp only [];go_at_K))
    obtain ⟨n1,hn1⟩:∃n,n=nq:=⟨_,rfl⟩
    rw [←hn1]
    go_quiet (fail)
    repeat' (first|go_values|go_skip|go_guarded|go_step|go_upon|(simp only [];go_at_K))
    obtain ⟨X,hX⟩:∃X,(W.drewN n1).drewN nq=X:=⟨_,rfl⟩
    rw [hX]
    have UX:Upd [] [] W X:=by rw [←hX];exact ((Upd.refl [] W).drewN _).drewN _
    clear hX hn1
    have hx:=h1.upd0 UX
    have hBx:=hB.upd UX (by simp)
    clear a1N a3N a4N a5N q8N c0N c1N c3N hlk hRr E1 e2 q8
    obtain ⟨pm,hpm⟩:∃pm:PmV,(⟨m.f,m.so,⟨m.hr,m.hs⟩,m.sl⟩:PmV)=pm:=⟨_,rfl⟩
    have hfx:∀k∈ablk m.A,k∉M.bans:=fun k hk hm=>(by rcases List.mem_append.1 hm with hm | hm;exact hfar k hk (by simp [SiteV.fp,hm]);exact hbn k hk hm)
    obtain ⟨A3,c3,w3,hrun,uap,g5,f5,P1,P2⟩:=hx.drew.prom hq pm (by rw [←hpm];exact ⟨(((hbm.upd0 U0).upd0 UX).upd0 (Upd.refl [] X).drew),hfx⟩) (by rw [←hpm];exact hm.val) (by have:=hvt _ hmem;simp only at this;omega)
    have hrun':(Builtin.append_ #[129,129] 129 #[.slice r.PA r.pr.length r.pc,.slice (some ⟨X.drew.heap.size,0,none⟩) 1 1]).run Tryz.prog (X.drew.alloc (.cells #[.int .i64 m.f,.bool m.so,.int .i64 m.hr,.int .i64 m.hs,.slice m.A m.n m.c] 340))= .ok (.slice A3 (r.pr.length + 1) c3) w3:=by rw [←hpm] at hrun;exact hrun
    have hRx:=(hx.rds _ hmem)
    have s5:X.drew.cell? ⟨r.g,2,none⟩=some (.slice r.PA r.pr.length r.pc):=hRx.blk.cell 2
    have s5':(X.alloc (.cells #[.int .i64 m.f,.bool m.so,.int .i64 m.hr,.int .i64 m.hs,.slice m.A m.n m.c] 340)).cell? ⟨r.g,2,none⟩=some (.slice r.PA r.pr.length r.pc):=(hRx.blk.alloc _).cell 2
    obtain ⟨⟨a0,a1,a2,a3,a4,a5,a6,a7,a8,a9⟩,-⟩:=hBx.drew.c10
    clear hRx hrun
    go_cut [4] from 36 (fun s4 wc=>s4= .pointer (some ⟨r.g,0,none⟩)∧wc=w3.setCell ⟨r.g,2,none⟩ (.slice A3 (r.pr.length + 1) c3))
    case first=>
     have hPA:H∉ablk r.PA:=fun hk=>hHf (h.rfp hmem H (by simp [RnV.fp,hk]))
     have K1:=hBx.drew.alloc (.cells #[.int .i64 m.f,.bool m.so,.int .i64 m.hr,.int .i64 m.hs,.slice m.A m.n m.c] 340)
     have K3:=hBx.drew.upd uap hPA
     obtain ⟨⟨b0,b1,b2,b3,b4,b5,b6,b7,b8,b9⟩,-⟩:=K1.c10
     obtain ⟨⟨d0,d1,d2,d3,d4,d5,d6,d7,d8,d9⟩,-⟩:=K3.c10
     have hHr:H≠r.g:=fun e=>hHf (by rw [e];exact h.rfp hmem r.g (by simp [RnV.fp]))
     obtain ⟨⟨k0,k1,k2,k3,k4,k5,k6,k7,k8,k9⟩,-⟩:=(K3.far (p:=⟨r.g,2,none⟩) hHr (.slice A3 (r.pr.length + 1) c3)).c10
     clear P1 P2 h hx HR hpl hbm hfar hvt hl
     refine wp_region_held_drew (S:=(fun w':World=>w'.cell? ⟨H,1,none⟩=some (.int .i64 m.f)∧w'.cell? ⟨H,8,none⟩=some (.bool m.so)∧w'.cell? ⟨H,6,none⟩=some (.int .i64 m.hr)∧w'.cell? ⟨H,7,none⟩=some (.int .i64 m.hs)∧w'.cell? ⟨H,9,none⟩=some (.slice m.A m.n m.c))) (by kernel_rfl) ⟨a1,a8,a6,a7,a9⟩ (fun hHeld=>?_)
     refine wpAnyH_take (i:=0) (oi:=_) (v:=?_) rfl (by kernel_rfl) (by kernel_rfl) (by kernel_rfl) (fun _ _ _ h=>h) (Or.inl ⟨by rfl,?_⟩) (by assumption) ?_
     rotate_left 1
     ·intro w hSw;(try dsimp only at hSw);go_simp;(try (with_reducible rfl))
     try simp only [Act.put,List.setIfInBounds_toArray,List.set_cons_zero]
     refine wpAnyH_take (i:=1) (oi:=_) (v:=?_) rfl (by kernel_rfl) (by kernel_rfl) (by kernel_rfl) (fun _ _ _ h=>h) (Or.inl ⟨by rfl,?_⟩) (by assumption) ?_
     rotate_left 1
     ·intro w hSw;(try dsimp only at hSw);go_simp;(try (with_reducible rfl))
     try simp only [Act.put,List.setIfInBounds_toArray,List.set_cons_zero]
     refine wpAnyH_take (i:=2) (oi:=_) (v:=?_) rfl (by kernel_rfl) (by kernel_rfl) (by kernel_rfl) (fun _ _ _ h=>h) (Or.inl ⟨by rfl,?_⟩) (by assumption) ?_
     rotate_left 1
     ·intro w hSw;(try dsimp only at hSw);go_simp;(try (with_reducible rfl))
     try simp only [Act.put,List.setIfInBounds_toArray,List.set_cons_zero]
     refine wpAnyH_take (i:=3) (oi:=_) (v:=?_) rfl (by kernel_rfl) (by kernel_rfl) (by kernel_rfl) (fun _ _ _ h=>h) (Or.inl ⟨by rfl,?_⟩) (by assumption) ?_
     rotate_left 1
     ·intro w hSw;(try dsimp only at hSw);go_simp;(try (with_reducible rfl))
     try simp only [Act.put,List.setIfInBounds_toArray,List.set_cons_zero]
     refine wpAnyH_take (i:=5) (oi:=_) (v:=?_) rfl (by kernel_rfl) (by kernel_rfl) (by kernel_rfl) (fun _ _ _ h=>h) (Or.inl ⟨by rfl,?_⟩) (by assumption) ?_
     rotate_left 1
     ·intro w hSw;(try dsimp only at hSw);go_simp;(try (with_reducible rfl))
     try simp only [Act.put,List.setIfInBounds_toArray,List.set_cons_zero]
     refine wpAnyH_take (i:=6) (oi:=_) (v:=?_) rfl (by kernel_rfl) (by kernel_rfl) (by kernel_rfl) (fun _ _ _ h=>h) (Or.inl ⟨by rfl,?_⟩) (by assumption) ?_
     rotate_left 1
     ·intro w hSw;(try dsimp only at hSw);go_simp;(try (with_reducible rfl))
     try simp only [Act.put,List.setIfInBounds_toArray,List.set_cons_zero]
     refine wpAnyH_take (i:=7) (oi:=_) (v:=?_) rfl (by kernel_rfl) (by kernel_rfl) (by kernel_rfl) (fun _ _ _ h=>h) (Or.inl ⟨by rfl,?_⟩) (by assumption) ?_
     rotate_left 1
     ·intro w hSw;(try dsimp only at hSw);go_simp;(try (with_reducible rfl))
     try simp only [Act.put,List.setIfInBounds_toArray,List.set_cons_zero]
     refine wpAnyH_take (i:=8) (oi:=_) (v:=?_) rfl (by kernel_rfl) (by kernel_rfl) (by kernel_rfl) (fun _ _ _ h=>h) (Or.inl ⟨by rfl,?_⟩) (by assumption) ?_
     rotate_left 1
     ·intro w hSw;(try dsimp only at hSw);go_simp;(try (with_reducible rfl))
     try simp only [Act.put,List.setIfInBounds_toArray,List.set_cons_zero]
     refine wpAnyH_take (i:=9) (oi:=_) (v:=?_) rfl (by kernel_rfl) (by kernel_rfl) (by kernel_rfl) (fun _ _ _ h=>h) (Or.inl ⟨by rfl,?_⟩) (by assumption) ?_
     rotate_left 1
     ·intro w hSw;(try dsimp only at hSw);go_simp;(try (with_reducible rfl))
     try simp only [Act.put,List.setIfInBounds_toArray,List.set_cons_zero]
     refine wpAnyH_take (i:=10) (oi:=_) (v:=?_) rfl (by kernel_rfl) (by kernel_rfl) (by kernel_rfl) (fun _ _ _ h=>h) (Or.inl ⟨by rfl,?_⟩) (by assumption) ?_
     rotate_left 1
     ·intro w hSw;(try dsimp only at hSw);go_simp;(try (with_reducible rfl))
     try simp only [Act.put,List.setIfInBounds_toArray,List.set_cons_zero]
     refine wpAnyH_take (i:=11) (oi:=_) (v:=?_) rfl (by kernel_rfl) (by kernel_rfl) (by kernel_rfl) (fun _ _ _ h=>h) (Or.inl ⟨by rfl,?_⟩) (by assumption) ?_
     rotate_left 1
     ·intro w hSw;(try dsimp only at hSw);go_simp;(try (with_reducible rfl))
     try simp only [Act.put,List.setIfInBounds_toArray,List.set_cons_zero]
     refine wpAnyH_take (i:=12) (oi:=_) (v:=?_) rfl (by kernel_rfl) (by kernel_rfl) (by kernel_rfl) (fun _ _ _ h=>h) (Or.inl ⟨by rfl,?_⟩) (by assumption) ?_
     rotate_left 1
     ·intro w hSw;(try dsimp only at hSw);go_simp;(try (with_reducible rfl))
     try simp only [Act.put,List.setIfInBounds_toArray,List.set_cons_zero]
     refine wpAnyH_take (i:=13) (oi:=_) (v:=?_) rfl (by kernel_rfl) (by kernel_rfl) (by kernel_rfl) (fun _ _ _ h=>h) (Or.inl ⟨by rfl,?_⟩) (by assumption) ?_
     rotate_left 1
     ·intro w hSw;(try dsimp only at hSw);go_simp;(try (with_reducible rfl))
     try simp only [Act.put,List.setIfInBounds_toArray,List.set_cons_zero]
     refine wpAnyH_ready (rs:=[4,14]) (by kernel_rfl) (by simp) ?_
     refine AllReadyH.cons rfl (fun K hK=>?_) (AllReadyH.cons rfl (fun K hK=>?_) AllReadyH.nil)
     ·skip
      go_simp
      refine hK.out _ _ ?_ (fun hHeld=>?_)
      ·(try dsimp only);(first | exact ⟨a1,a8,a6,a7,a9⟩ | exact ⟨b1,b8,b6,b7,b9⟩ | exact ⟨d1,d8,d6,d7,d9⟩ | exact ⟨k1,k8,k6,k7,k9⟩)
      clear hK K
      try simp only [Act.put,List.setIfInBounds_toArray,List.set_cons_zero,List.set_cons_succ]
      refine wpAnyH_ready (rs:=[14]) (by kernel_rfl) (by simp) ?_
      refine AllReadyH.cons rfl (fun K hK=>?_) AllReadyH.nil
      go_simp
      refine hK.out _ _ ?_ (fun hHeld=>?_)
      ·(try dsimp only);(first | exact ⟨a1,a8,a6,a7,a9⟩ | exact ⟨b1,b8,b6,b7,b9⟩ | exact ⟨d1,d8,d6,d7,d9⟩ | exact ⟨k1,k8,k6,k7,k9⟩)
      clear hK K
      try simp only [Act.put,List.setIfInBounds_toArray,List.set_cons_zero,List.set_cons_succ]
      refine wpAnyH_ready (rs:=[15]) (by kernel_rfl) (by simp) ?_
      refine AllReadyH.cons rfl (fun K hK=>?_) AllReadyH.nil
      refine step_run rfl (.tmp 40) (.tmp 50) 129 rfl (.slice r.PA r.pr.length r.pc) (.slice (some ⟨X.drew.heap.size,0,none⟩) 1 1) _ w3 rfl rfl hrun' ?_
      refine hK.out _ _ ?_ (fun hHeld=>?_)
      ·(try dsimp only);(first | exact ⟨a1,a8,a6,a7,a9⟩ | exact ⟨b1,b8,b6,b7,b9⟩ | exact ⟨d1,d8,d6,d7,d9⟩ | exact ⟨k1,k8,k6,k7,k9⟩)
      clear hK K
      try simp only [Act.put,List.setIfInBounds_toArray,List.set_cons_zero]
      refine wpAnyH_take (i:=16) (oi:=_) (v:=?_) rfl (by kernel_rfl) (by kernel_rfl) (by kernel_rfl) (fun _ _ _ h=>h) (Or.inl ⟨by rfl,?_⟩) (by assumption) ?_
      rotate_left 1
      ·intro w hSw;(try dsimp only at hSw);go_simp;(try (with_reducible rfl))
      try simp only [Act.put,List.setIfInBounds_toArray,List.set_cons_zero]
      refine wpAnyH_take (i:=17) (oi:=_) (v:=?_) rfl (by kernel_rfl) (by kernel_rfl) (by kernel_rfl) (fun _ _ _ h=>h) (Or.inl ⟨by rfl,?_⟩) (by assumption) ?_
      rotate_left 1
      ·intro w hSw;(try dsimp only at hSw);go_simp;(try (with_reducible rfl))
      try simp only [Act.put,List.setIfInBounds_toArray,List.set_cons_zero]
      refine wpAnyH_ready (rs:=[18]) (by kernel_rfl) (by simp) ?_
      refine AllReadyH.cons rfl (fun K hK=>?_) AllReadyH.nil
      go_simp
      refine hK.out _ _ ?_ (fun hHeld=>?_)
      ·(try dsimp only);(first | exact ⟨a1,a8,a6,a7,a9⟩ | exact ⟨b1,b8,b6,b7,b9⟩ | exact ⟨d1,d8,d6,d7,d9⟩ | exact ⟨k1,k8,k6,k7,k9⟩)
      clear hK K
      try simp only [Act.put,List.setIfInBounds_toArray,List.set_cons_zero,List.set_cons_succ]
      refine wpAnyH_done (by kernel_rfl) ?_ _
      repeat' (first|go_values|go_skip|go_guarded|go_step|go_upon|(simp only [];go_at_K))
      go_meet
      exact ⟨rfl,rfl⟩
     ·skip
      go_simp
      refine hK.out _ _ ?_ (fun hHeld=>?_)
      ·(try dsimp only);(first | exact ⟨a1,a8,a6,a7,a9⟩ | exact ⟨b1,b8,b6,b7,b9⟩ | exact ⟨d1,d8,d6,d7,d9⟩ | exact ⟨k1,k8,k6,k7,k9⟩)
      clear hK K
      try simp only [Act.put,List.setIfInBounds_toArray,List.set_cons_zero,List.set_cons_succ]
      refine wpAnyH_ready (rs:=[4]) (by kernel_rfl) (by simp) ?_
      refine AllReadyH.cons rfl (fun K hK=>?_) AllReadyH.nil
      go_simp
      refine hK.out _ _ ?_ (fun hHeld=>?_)
      ·(try dsimp only);(first | exact ⟨a1,a8,a6,a7,a9⟩ | exact ⟨b1,b8,b6,b7,b9⟩ | exact ⟨d1,d8,d6,d7,d9⟩ | exact ⟨k1,k8,k6,k7,k9⟩)
      clear hK K
      try simp only [Act.put,List.setIfInBounds_toArray,List.set_cons_zero,List.set_cons_succ]
      refine wpAnyH_ready (rs:=[15]) (by kernel_rfl) (by simp) ?_
      refine AllReadyH.cons rfl (fun K hK=>?_) AllReadyH.nil
      refine step_run rfl (.tmp 40) (.tmp 50) 129 rfl (.slice r.PA r.pr.length r.pc) (.slice (some ⟨X.drew.heap.size,0,none⟩) 1 1) _ w3 rfl rfl hrun' ?_
      refine hK.out _ _ ?_ (fun hHeld=>?_)
      ·(try dsimp only);(first | exact ⟨a1,a8,a6,a7,a9⟩ | exact ⟨b1,b8,b6,b7,b9⟩ | exact ⟨d1,d8,d6,d7,d9⟩ | exact ⟨k1,k8,k6,k7,k9⟩)
      clear hK K
      try simp only [Act.put,List.setIfInBounds_toArray,List.set_cons_zero]
      refine wpAnyH_take (i:=16) (oi:=_) (v:=?_) rfl (by kernel_rfl) (by kernel_rfl) (by kernel_rfl) (fun _ _ _ h=>h) (Or.inl ⟨by rfl,?_⟩) (by assumption) ?_
      rotate_left 1
      ·intro w hSw;(try dsimp only at hSw);go_simp;(try (with_reducible rfl))
      try simp only [Act.put,List.setIfInBounds_toArray,List.set_cons_zero]
      refine wpAnyH_take (i:=17) (oi:=_) (v:=?_) rfl (by kernel_rfl) (by kernel_rfl) (by kernel_rfl) (fun _ _ _ h=>h) (Or.inl ⟨by rfl,?_⟩) (by assumption) ?_
      rotate_left 1
      ·intro w hSw;(try dsimp only at hSw);go_simp;(try (with_reducible rfl))
      try simp only [Act.put,List.setIfInBounds_toArray,List.set_cons_zero]
      refine wpAnyH_ready (rs:=[18]) (by kernel_rfl) (by simp) ?_
      refine AllReadyH.cons rfl (fun K hK=>?_) AllReadyH.nil
      go_simp
      refine hK.out _ _ ?_ (fun hHeld=>?_)
      ·(try dsimp only);(first | exact ⟨a1,a8,a6,a7,a9⟩ | exact ⟨b1,b8,b6,b7,b9⟩ | exact ⟨d1,d8,d6,d7,d9⟩ | exact ⟨k1,k8,k6,k7,k9⟩)
      clear hK K
      try simp only [Act.put,List.setIfInBounds_toArray,List.set_cons_zero,List.set_cons_succ]
      refine wpAnyH_done (by kernel_rfl) ?_ _
      repeat' (first|go_values|go_skip|go_guarded|go_step|go_upon|(simp only [];go_at_K))
      go_meet
      exact ⟨rfl,rfl⟩
    case rest=>
     obtain ⟨rfl,hwc⟩:=hcut
     rw [←hwc] at P1 P2
     obtain ⟨r2,hr2⟩:∃r2:RnV,{r with PA:=A3,pc:=c3,pr:=r.pr ++ [pm]} =r2:=⟨_,rfl⟩
     obtain ⟨M2,hM2⟩:∃M2:SiteV,{M with rs:=putG m.s r2 M.rs} =M2:=⟨_,rfl⟩
     rw [hr2,hM2] at P1 P2
     have hM2p:M2.pl= {M.pl with rs:=putG m.s r2.pl M.pl.rs}:=by rw [←hM2];unfold SiteV.pl;simp only [putG_map]
     have hgs:M2.gs=M.gs:=by rw [←hM2]
     have hn2:M2.n=M.n:=by rw [←hM2]
     have hme2:M2.me=M.me:=by rw [←hM2]
     have hh2:M2.held=M.held:=by rw [←hM2]
     have hl2:lookG m.s M2.rs=some r2:=by rw [←hM2,lookG_put,if_pos rfl]
     have hm2:(m.s,r2)∈M2.rs:=lookG_some hl2
     have hR2:=P1.rds _ hm2
     have hg2:r2.g=r.g:=by rw [←hr2]
     have hb2:r2.bal=r.bal:=by rw [←hr2]
     have hso2:r2.so=false:=by rw [←hr2];exact hso
     have hpl2:r2.pl= {r.pl with pr:=r.pl.pr ++ [pm.pl]}:=by rw [←hr2];simp [RnV.pl]
     have hvl2:r2.pr.length≤1000000000:=by rw [←hr2,List.length_append];have:=hvt _ hmem;simp only [List.length_cons,List.length_nil] at this ⊢;omega
     have hBw:Blk wc H 32 #[.int .i64 m.k,.int .i64 m.f,.int .i64 m.t,.int .i64 m.s,.int .i64 m.br,.int .i64 m.bs,.int .i64 m.hr,.int .i64 m.hs,.bool m.so,.slice m.A m.n m.c]:=hBx.drew.upd P2 hHf
     have UW:Upd M.fp M2.fp w wc:=((U0'.trans UX).drew.up M.fp).trans P2
     have hpmp:pm.pl=⟨m.ms.frm,m.ms.some_,m.ms.had,m.ms.val⟩:=by rw [←hpm];rfl
     have HRp:=Lib.hid (show R=match chooseP (r2.pr.map PmV.pl) M.n with
       | none=>M2.pl
       | some v=>match M2.pl.accept m.s r.bal v with
        | none=>{M2.pl with rs:=delG m.s M2.pl.rs}
        | some u=>(({u with rs:=putG m.s {r2.pl with so:=true,b:=v} u.rs} :Site).others (Site.asks {r2.pl with so:=true,b:=v} m.s) M.n).send M.me (Site.votes m.s r.bal) by
      rw [←HR.out,hM2p];unfold Site.promised;rw [hpl]
      simp only [Option.map_some]
      rw [if_pos ⟨HBB.out,hso⟩]
      rw [show r2.pr.map PmV.pl=r.pl.pr ++ [⟨m.ms.frm,m.ms.some_,m.ms.had,m.ms.val⟩] from by rw [show r2.pr.map PmV.pl=r2.pl.pr from rfl,hpl2,hpmp]]
      rw [hpl2,hpmp]
      rfl)
     have hHl:=hBw.lt
     have hH2:H∉M2.fp:=P2.notin hHf hBx.lt
     have hbb:r.bal.may 7=true:=by have:=(h.ok.rs (m.s,r.pl) (List.mem_map.2 ⟨_,hmem,rfl⟩)).2.2.2.1;exact this
     have hq2:∀y∈r2.pr,RdB wc y.s.A y.s.n y.s.b∧y.s.b.length≤2048:=fun y hy=>by
      have h1:=P1.rsByt hm2 (x:=y.s) (by simp only [RnV.bytes,List.mem_cons];exact .inr (List.mem_map_of_mem hy))
      have h2:=(P1.ok.rs (m.s,r2.pl) (List.mem_map.2 ⟨_,hm2,rfl⟩)).2.2.2.2 y.pl (List.mem_map_of_mem hy)
      exact ⟨h1.1.rd,h2⟩
     clear hpl HR hrun' g5 f5 s5 s5' hr2 hM2 hx hBx UX P2 h1 h a0 a1 a2 a3 a4 a5 a6 a7 a8 a9 hwc hM2p hpmp hpm hfx
     obtain ⟨⟨g0,g1,g2,g3,g4,g5,g6⟩,-⟩:=hR2.blk.c7
     rw [hg2] at g0 g1 g2 g3 g4 g5 g6
     have C4:=propChoose wc.drew r2.PA r2.pc r2.pr ⟨rfl,hR2.prs.rd⟩ hvl2 (fun k hk=>hR2.prs.lt k hk) (fun y hy=>⟨((hq2 y hy).1).upd (Upd.refl [] wc).drew (by simp),(hq2 y hy).2⟩) M.n h0ok.n7
     have q1:wc.cell? ⟨M.gs,1,none⟩=some (.int .i64 (M.n:Int)):=by have:=P1.blk.cell 1;rw [hgs] at this;rw [this,←hn2];rfl
     have hchl:∀v,chooseP (r2.pr.map PmV.pl) M.n=some v→v.length≤2048:=fun v hv=>choose_len (fun p hp=>by
      obtain ⟨y,hy,rfl⟩:=List.mem_map.1 hp
      exact (hq2 y hy).2) hv
     obtain ⟨CH,hCH⟩:∃CH,chooseP (r2.pr.map PmV.pl) M.n=CH:=⟨_,rfl⟩
     rw [hCH] at C4 HRp
     simp only [hCH] at hchl
     clear hCH hq2
     obtain ⟨wo,hwo⟩:∃x,wc=x:=⟨_,rfl⟩
     rw [hwo] at C4 g2 q1 P1 UW hBw hR2 ⊢
     clear g0 g1 g3 g4 g5 g6 hwo
     have g2d:wo.drew.cell? ⟨r.g,2,none⟩=some (.slice r2.PA r2.pr.length r2.pc):=g2
     have q1d:wo.drew.cell? ⟨M.gs,1,none⟩=some (.int .i64 (M.n:Int)):=q1
     go_upto_region 4 with fail
     go_cut [6,7] from 54 (fun s6 s7 wc=>∃(A4:Option Addr) (k4 c4:Nat),s6= .slice A4 k4 c4∧s7= .bool CH.isSome∧OwnB 5 wc A4 k4 c4 (CH.getD [])∧(∀k∈ablk A4,wo.heap.size≤k)∧Upd [] [] wo wc)
     case first=>
      clear P1 UW hBw hR2 HRp hchl
      go_region_held3 (fun w'=>w'.cell? ⟨r.g,2,none⟩=some (.slice r2.PA r2.pr.length r2.pc)∧w'.cell? ⟨M.gs,1,none⟩=some (.int .i64 (M.n:Int))) (first | exact ⟨g2d,q1d⟩ | exact ⟨g2e,q1e⟩)
       (first
        | (go_at_call 249;(with_reducible refine C4.mono ?_);rintro e w4 ⟨A4,k4,c4,rfl,ho4,hu4⟩;have g2e:=hu4.cell g2d (by simp);have q1e:=hu4.cell q1d (by simp)))
      all_goals (repeat' ((fail_if_success (with_reducible refine stop_append rfl ?_));first | go_values | go_skip | go_guarded | go_step | go_upon | (simp only [];go_at_K)))
      all_goals go_meet
      all_goals exact ⟨A4,k4,c4,rfl,rfl,ho4,(Upd.refl [] wo).drew.new hu4,((Upd.refl [] wo).drew.trans hu4).gives (by simp)⟩
     case rest=>
     obtain ⟨A4,k4,c4,rfl,rfl,ho4,hA4,hu4'⟩:=hcut
     obtain ⟨w4,hw4⟩:∃x,wc=x:=⟨_,rfl⟩
     rw [hw4] at ho4 hu4' ⊢
     clear hw4
     have h4:=P1.upd0 hu4'
     have hR4:=hR2.upd hu4' (by simp)
     have hB4:=hBw.upd hu4' (by simp)
     have U4:Upd M.fp M2.fp w w4:=UW.trans (hu4'.up M2.fp)
     clear C4 hu4' UW hBw hR2 g2 q1 g2d q1d
     cases CH with
     | none=>
      repeat' (first|go_values|go_skip|go_guarded|go_step|go_upon|(simp only [];go_at_K))
      exact bodyPost_ret (v:=.tuple #[]) (results_none rfl _ _ _) rfl ⟨rfl,M2,h4,HRp.out.symm,hgs,U4⟩
     | some v=>
      have hvv:=hchl v rfl
      have hv4:RdB w4 A4 k4 v:=ho4.rd
      have hA4f:∀k∈ablk A4,k∉M2.fp:=fun k hk hm=>by have h7:=hA4 k hk;have h8:=P1.lt k hm;omega
      have hA4b:∀k∈ablk A4,k∉(Ban.X:List Nat):=fun k hk hm=>by have h7:=hA4 k hk;have h8:=P1.ban k hm;omega
      have C5:=siteAccept w4.drew M2 h4.drew m.s (by omega) r.bal hbb A4 k4 c4 v (hv4.upd (Upd.refl [] w4).drew (by simp)) hA4f hvv
      obtain ⟨⟨g0,g1,g2,g3,g4,g5,g6⟩,-⟩:=hR4.blk.c7
      obtain ⟨⟨b0,b1,b2,b3,b4,b5,b6,b7,b8,b9⟩,-⟩:=hB4.c10
      rw [hg2,hb2] at g0 g1
      simp only [SiteV.ptr,hgs,Bl.val] at C5
      have T4:BytS w4 ⟨A4,k4,c4,v⟩:=⟨ho4.rd,ho4.own.tag⟩
      clear P1
      cases hacc:M2.pl.accept m.s r.bal v with
      | none=>
       rw [hacc] at C5
       have HRN:=Lib.hid (show R= {M2.pl with rs:=delG m.s M2.pl.rs} by rw [HRp.out];simp only [hacc])
       clear HRp hacc hA4
       repeat' (first|go_values|go_skip|go_guarded|go_step|go_upon|(simp only [];go_at_K))
       go_still_tail 8,(by kernel_rfl)
       change wpList _ _ _ _ _ w4.drew
       repeat' (first|go_values|go_skip|go_guarded|go_step|go_upon|(simp only [];go_at_K))
       ((with_reducible refine C5.mono ?_);rintro e w5 ⟨rfl,M5,h5,hp5,hg5,-,U5⟩)
       replace hp5:M5.pl=M2.pl:=hp5
       have hB5:=hB4.drew.upd U5 hH2
       clear g0 g1 g2 g3 g4 g5 g6 b0 b1 b2 b3 b4 b5 b6 b7 b8 b9 C5
       obtain ⟨⟨b0,b1,b2,b3,b4,b5,b6,b7,b8,b9⟩,-⟩:=hB5.drew.c10
       have q8:w5.drew.cell? ⟨M.gs,8,none⟩=some (.map (some M5.br)):=by rw [←hgs,←hg5];exact h5.blk.cell 8
       obtain ⟨w6,hrun6,hm6,hu6⟩:=h5.drew.rnd.drop Tryz.underlying3 Tryz.underlying119 (wfI (by omega) (by omega):(Lit.int .i64 m.s).wf=true) 0
       rw [delK_G,←delG_map] at hm6
       obtain ⟨h6,V6⟩:=h5.drew.delR m.s hu6 hm6
       have KEY:=Lib.hid (show Gone w w6 M R from ⟨_,h6,by
        rw [HRN.out,←hp5]
        unfold SiteV.pl
        simp only [delG_map],hg5.trans hgs,((U4.drew.trans U5).drew).trans V6⟩)
       clear h6 V6 hm6 hu6 U5 U4 h5 h4 hB5 hB4 hR4
       repeat' (first|go_values|go_skip|go_guarded|go_step|go_upon|(simp only [];go_at_K))
       go_still_tail 7,(by kernel_rfl)
       change wpList _ _ _ _ _ w5.drew
       repeat' ((fail_if_success (with_reducible refine stop_append rfl ?_));first|go_values|go_skip|go_guarded|go_step|go_upon|(simp only [];go_at_K))
       first
        | exact bodyPost_ret (v:=.tuple #[]) (results_none rfl _ _ _) rfl ⟨rfl,KEY.out⟩
        | exact bodyPost_end (results_none rfl _ _ _) rfl ⟨rfl,KEY.out⟩
      | some t=>
       rw [hacc] at C5
       have HRN:=Lib.hid (show R=(({t with rs:=putG m.s {r2.pl with so:=true,b:=v} t.rs} :Site).others (Site.asks {r2.pl with so:=true,b:=v} m.s) M.n).send M.me (Site.votes m.s r.bal) by rw [HRp.out];simp only [hacc])
       obtain ⟨tm,tn,th',trs,-⟩:=Site.accept_fr hacc
       clear HRp hacc hA4
       repeat' (first|go_values|go_skip|go_guarded|go_step|go_upon|(simp only [];go_at_K))
       go_still_tail 8,(by kernel_rfl)
       change wpList _ _ _ _ _ w4.drew
       repeat' (first|go_values|go_skip|go_guarded|go_step|go_upon|(simp only [];go_at_K))
       ((with_reducible refine C5.mono ?_);rintro e w5 ⟨rfl,M5,h5,hp5,hg5,hr5,U5⟩)
       replace hp5:M5.pl=t:=hp5
       have hg5':M5.gs=M.gs:=hg5.trans hgs
       have hl5:lookG m.s M5.rs=some r2:=by rw [hr5];exact hl2
       have hR5:=h5.rds _ (lookG_some hl5)
       have hB5:=hB4.drew.upd U5 hH2
       have hH5:H∉M5.fp:=U5.notin hH2 (by have:=hB4.lt;exact this)
       have T5:=(T4.upd0 (Upd.refl [] w4).drew).upd U5 hA4f
       have hA5f:∀k∈ablk A4,k∉M5.fp:=fun k hk=>U5.notin (hA4f k hk) (tag_lt (T4.tag k hk))
       have n5:M5.n=M.n:=(congrArg Site.n hp5).trans (tn.trans hn2)
       have me5:M5.me=M.me:=(congrArg Site.me hp5).trans (tm.trans hme2)
       have l5:M5.held.length=M.held.length:=by have:=congrArg (fun z:Site=>z.held.length) hp5;simp only [SiteV.held_len,th'] at this;rw [this,hh2]
       clear g0 g1 g2 g3 g4 g5 g6 b0 b1 b2 b3 b4 b5 b6 b7 b8 b9 C5 hR4 hB4 T4
       obtain ⟨⟨g0,g1,g2,g3,g4,g5,g6⟩,f0,f1,f2,f3,f4,f5,f6⟩:=hR5.blk.c7
       have KB:=((hR5.blk.set_ 3 (.bool true)).set_ 4 (.slice A4 k4 c4))
       rw [hg2] at g0 g1 g2 g3 g4 g5 g6 f0 f1 f2 f3 f4 f5 f6 KB
       have u6:Upd [r.g] [r.g] w5 ((w5.setCell ⟨r.g,3,none⟩ (.bool true)).setCell ⟨r.g,4,none⟩ (.slice A4 k4 c4)):=(((Upd.refl [r.g] w5).setCell (p:=⟨r.g,3,none⟩) (.inl (by simp)) _).setCell (p:=⟨r.g,4,none⟩) (.inl (by simp)) _)
       obtain ⟨r3,hr3⟩:∃r3:RnV,{r2 with so:=true,v:=⟨A4,k4,c4,v⟩} =r3:=⟨_,rfl⟩
       have hX:∀k∈[r.g],tagW w5 k=some (some 132):=by simp only [List.mem_singleton];rintro k rfl;have:=hR5.tg;rw [hg2] at this;exact this
       obtain ⟨h6,V6⟩:=h5.setR hl5 r3 (by rw [←hr3]) (X:=[r.g]) (fun k hk=>by rw [List.mem_singleton.1 hk];simp [RnV.fp,hg2]) u6
        ⟨by rw [←hr3];show Blk _ r2.g _ #[.int .i64 r2.bal.r,.int .i64 r2.bal.s,.slice r2.PA r2.pr.length r2.pc,.bool true,.slice A4 k4 c4,.slice r2.VA r2.vt.length r2.vc,.int .i64 (r2.age:Int)];rw [hg2];simpa using KB,by rw [←hr3];exact hR5.prs.upd u6 (tag_offs hR5.tP hX (by decide)),by rw [←hr3];exact hR5.vts.upd u6 (tag_offs hR5.tV hX (by decide))⟩
        (fun k hk=>by rw [←hr3] at hk;exact .inl hk) (fun k hk=>by rw [←hr3] at hk;exact .inl hk)
        (fun y hy=>by
         rw [←hr3] at hy
         simp only [RnV.bytes,List.mem_cons] at hy
         rcases hy with rfl | hy
         ·exact ⟨T5,fun k hk hm=>(by rcases List.mem_append.1 hm with hm | hm;exact hA5f k hk (by simp [SiteV.fp,hm]);exact hA4b k hk hm)⟩
         ·exact h5.rsByt (lookG_some hl5) (by simp only [RnV.bytes,List.mem_cons];exact .inr hy))
        (by
         have:=(h5.ok.rs (m.s,r2.pl) (List.mem_map.2 ⟨_,lookG_some hl5,rfl⟩)).2.2
         rw [←hr3]
         exact ⟨hvv,this.2.1,this.2.2⟩)
       obtain ⟨M6,hM6⟩:∃M6:SiteV,{M5 with rs:=putG m.s r3 M5.rs} =M6:=⟨_,rfl⟩
       rw [hM6] at h6 V6
       have hp6:M6.pl= {t with rs:=putG m.s {r2.pl with so:=true,b:=v} t.rs}:=by
        rw [←hM6,show ({M5 with rs:=putG m.s r3 M5.rs} :SiteV).pl= {M5.pl with rs:=putG m.s r3.pl M5.pl.rs} from by unfold SiteV.pl;simp only [putG_map],hp5,←hr3]
        rfl
       have hg6:M6.gs=M.gs:=by rw [←hM6];exact hg5'
       have n6:M6.n=M.n:=by rw [←hM6];exact n5
       have me6:M6.me=M.me:=by rw [←hM6];exact me5
       have l6:M6.held.length≤900000000:=by rw [←hM6];show M5.held.length≤_;omega
       have hm6:(m.s,r3)∈M6.rs:=by rw [←hM6];exact mem_putG.2 (.inl rfl)
       have hav:askV r3 m.s=⟨if r.bal.r=0 then 1 else 5,0,0,m.s,r.bal.r,r.bal.s,r.bal.r,r.bal.s,true,A4,k4,c4,v⟩:=by rw [←hr3];simp [askV,hb2]
       have hr3p:r3.pl= {r2.pl with so:=true,b:=v}:=by rw [←hr3];rfl
       have hms:(askV r3 m.s).ms=Site.asks {r2.pl with so:=true,b:=v} m.s:=by rw [askV_ms,hr3p]
       have hfit3:(askV r3 m.s).ms.Fit:=by rw [hms];exact Site.asks_fit (by omega) (by show r2.bal.may 7=true;rw [hb2];exact hbb) hvv
       obtain ⟨w6,hw6⟩:∃X,(w5.setCell ⟨r.g,3,none⟩ (.bool true)).setCell ⟨r.g,4,none⟩ (.slice A4 k4 c4)=X:=⟨_,rfl⟩
       rw [hw6] at h6 V6 u6 KB
       have T6:=T5.upd u6 (tag_offs T5.tag hX (by decide))
       have hA6f:∀k∈ablk A4,k∉M6.fp:=fun k hk=>V6.notin (hA5f k hk) (tag_lt (T5.tag k hk))
       have hB6:=hB5.upd V6 hH5
       have hH6:H∉M6.fp:=V6.notin hH5 (by have:=hB5.lt;exact this)
       have C9:=siteAsks w6 r3 (h6.rds _ hm6) m.s
       have C10:=fun (w7:World) (hu:Upd [] [] w6 w7)=>siteOthers w7 M6 (h6.upd0 hu) (askV r3 m.s) hfit3 (by rw [hav];exact (T6.upd0 hu).rd) (by rw [hav];exact hA6f) l6
       have hrp:r3.ptr= .pointer (some ⟨r.g,0,none⟩):=by rw [←hr3,←hg2];rfl
       simp only [hms,hp6,n6,SiteV.ptr,hg6] at C10
       rw [hrp] at C9
       obtain ⟨av,hav2⟩:∃z,(askV r3 m.s).val=z:=⟨_,rfl⟩
       rw [hav2] at C9
       simp only [hav2] at C10
       have U6:=(U4.drew.trans U5).trans V6
       obtain ⟨⟨b0,b1,b2,b3,b4,b5,b6,b7,b8,b9⟩,-⟩:=hB6.c10
       have HW6:=Lib.hid hw6
       have hbr6:r3.bal=r.bal:=by rw [←hr3];exact hb2
       have hg36:r3.g=r.g:=by rw [←hr3];exact hg2
       clear hr3 hM6 KB u6 h5 V6 T5 hR5 hB5 hX hav hms hfit3 hav2 U4 U5 h4 hr3p hrp hA4f hA5f ho4 hv4
       repeat' (first|go_values|go_skip|go_guarded|go_step|go_upon|(simp only [];go_at_K))
       ((with_reducible refine C9.mono ?_);rintro e w7 ⟨rfl,hu7⟩)
       repeat' (first|go_values|go_skip|go_guarded|go_step|go_upon|(simp only [];go_at_K))
       ((with_reducible refine (C10 w7 hu7).mono ?_);rintro e w8 ⟨rfl,M8,h8,hp8,hg8,hr8,U8⟩)
       have g8:M8.gs=M.gs:=hg8.trans hg6
       have me8:M8.me=M.me:=by
        have:=congrArg Site.me hp8
        rw [(Site.others_me _ _).1] at this
        exact this.trans (tm.trans hme2)
       have hR8:=h8.rds (m.s,r3) (by rw [hr8];exact hm6)
       have hB8:=(hB6.upd hu7 (by simp)).upd U8 hH6
       have hh8:M8.held.length≤1000000000:=by
        have h1:M8.held.length=M.held.length + (({t with rs:=putG m.s {r2.pl with so:=true,b:=v} t.rs} :Site).tell (Site.asks {r2.pl with so:=true,b:=v} m.s) M.n).length:=by
         rw [←SiteV.held_len,hp8,Site.others_eq]
         show (t.held ++ _).length=_
         rw [List.length_append,th',SiteV.held_len,hh2]
        have h7:M.n≤7:=h0ok.n7
        have:=Site.tell_len ({t with rs:=putG m.s {r2.pl with so:=true,b:=v} t.rs} :Site) (Site.asks {r2.pl with so:=true,b:=v} m.s) M.n
        omega
       have z0:w8.drew.cell? ⟨M.gs,0,none⟩=some (.int .i64 (M.me:Int)):=by rw [←g8,←me8];exact h8.blk.cell 0
       have z1:w8.drew.cell? ⟨r.g,0,none⟩=some (.int .i64 r.bal.r):=by rw [←hg36,←hbr6];exact hR8.blk.cell 0
       have z2:w8.drew.cell? ⟨r.g,1,none⟩=some (.int .i64 r.bal.s):=by rw [←hg36,←hbr6];exact hR8.blk.cell 1
       have z3:w8.drew.cell? ⟨H,3,none⟩=some (.int .i64 m.s):=hB8.cell 3
       have C12:=siteSend w8.drew M8 h8.drew (M.me:Int) ⟨6,0,0,m.s,r.bal.r,r.bal.s,0,0,false,none,0,0,[]⟩ (Site.votes_fit (x:=m.s) (b:=r.bal) (by omega) hbb) (by have h3:=h0ok.me;have h4:=h0ok.n7;have e3:M.pl.me=M.me:=rfl;have e4:M.pl.n=M.n:=rfl;omega) (RdB.nil _ _) hh8
       rw [hp8] at C12
       simp only [SiteV.ptr,Mv.val_eq,g8] at C12
       have U9:=(((U6.trans (hu7.up M6.fp)).trans U8).drew)
       clear C9 C10 h6 h8 hR8 hB6 hB8 b0 b1 b2 b3 b4 b5 b6 b7 b8 b9 T6 U6 U8 hu7
       repeat' (first|go_values|go_skip|go_guarded|go_step|go_upon|(simp only [];go_at_K))
       go_still_tail 12,(by kernel_rfl)
       change wpList _ _ _ _ _ w8.drew
       repeat' (first|go_values|go_skip|go_guarded|go_step|go_upon|(simp only [];go_at_K))
       ((with_reducible refine C12.mono ?_);rintro e w9 ⟨rfl,M9,h9,hp9,hg9,-,U10⟩)
       repeat' (first|go_values|go_skip|go_guarded|go_step|go_upon|(simp only [];go_at_K))
       exact bodyPost_end (results_none rfl _ _ _) rfl ⟨rfl,M9,h9,hp9.trans HRN.out.symm,hg9.trans g8,U9.trans U10⟩
  ·have e2:((r.bal.r == m.br) && (r.bal.s == m.bs))=false:=by
    rw [Bool.and_eq_false_iff]
    by_cases h1:r.bal.r=m.br
    ·right
     have:r.bal.s≠m.bs:=fun h2=>hb (by rw [←h1,←h2])
     simp [this]
    ·left;simp [h1]
   rw [e2] at E1
   simp only [Bool.not_false] at E1
   have hRM:R=M.pl:=by
    rw [←HR.out];unfold Site.promised;rw [hpl]
    exact if_neg (fun hc=>hb hc.1)
   have K:=Lib.hid (fun N N'=>STAY ((W.drewN N).drewN N') (((Upd.refl [] W).drewN N).drewN N') hRM)
   clear STAY hpl hb e2
   go_enter Tryz.func194,Tryz.ntmps194
   repeat' (first|go_values|go_skip|go_guarded|go_step|go_upon|(simp only [];go_at_K))
   go_quiet (fail)
   repeat' (first|go_values|go_skip|go_guarded|go_step|go_upon|(simp only [];go_at_K))
   go_quiet (fail)
   repeat' (first|go_values|go_skip|go_guarded|go_step|go_upon|(simp only [];go_at_K))
   exact bodyPost_ret (v:=.tuple #[]) (results_none rfl _ _ _) rfl ⟨rfl,K.out _ _⟩
end Go.Proofs.YtijhlbeipglieaaGreat
namespace Agio
open Go Go.Proofs.YtijhlbeipglieaaGreat
def decS (D:Int→Option (List UInt8)) (s n:Nat):List Int:=((List.range' s n).map fun (i:Nat)=>(i:Int)).filter fun x=>(D x).isSome
theorem decS_succ (D:Int→Option (List UInt8)) (s n:Nat):decS D s (n + 1)=decS D s n ++ (if (D ((s + n:Nat):Int)).isSome then [((s + n:Nat):Int)] else []):=by
 unfold decS
 rw [List.range'_concat,List.map_append,List.filter_append]
 congr 1
 simp only [Nat.one_mul,List.map_cons,List.map_nil,List.filter_cons,List.filter_nil]
theorem decS_add (D:Int→Option (List UInt8)) (s n m:Nat):decS D s (n + m)=decS D s n ++ decS D (s + n) m:=by
 induction m with
 | zero=>simp [decS]
 | succ m ih=>rw [←Nat.add_assoc,decS_succ,ih,decS_succ,List.append_assoc,Nat.add_assoc]
theorem decS_take (D:Int→Option (List UInt8)) (s n N:Nat) (h:n≤N) (hl:(decS D s n).length≤16) (he:n=N∨(decS D s n).length=16):(decS D s N).take 16=decS D s n:=by
 rcases he with rfl | he
 ·exact List.take_of_length_le hl
 ·obtain ⟨m,rfl⟩:∃m,N=n + m:=⟨N - n,by omega⟩
  rw [decS_add,List.take_append_of_le_length (by omega),List.take_of_length_le hl]
def Site.tellsTo (D:Int→Option (List UInt8)) (to:Int) (s:Site) (l:List Int):Site:=l.foldl (fun u x=>u.send to (Site.tells x ((D x).getD []))) s
theorem Site.tellsTo_snoc (D:Int→Option (List UInt8)) (to:Int) (s:Site) (l:List Int) (x:Int):Site.tellsTo D to s (l ++ [x])=(Site.tellsTo D to s l).send to (Site.tells x ((D x).getD [])):=by
 unfold Site.tellsTo;rw [List.foldl_append];rfl
theorem Site.skipF_held:∀(f c:Nat) (s:Site) (to:Int),c≤8→(Site.skipF f c s to).held.length≤s.held.length + (s.n + 1) * (8 - c)
 | 0,_,_,_,_=>by unfold Site.skipF;omega
 | f + 1,c,s,to,hc=>by
  unfold Site.skipF
  split
  ·omega
  split
  ·omega
  split
  ·split
   ·omega
   ·rename_i t ha
    have k:=Site.kin_accept ha
    have h0:t.held=s.held:=(Site.accept_fr ha).2.2.1
    have:=Site.skipF_held f (c + 1) (t.skip1 s.ownB (nextI s.me s.nx s.n)) to (by omega)
    have h1:(t.skip1 s.ownB (nextI s.me s.nx s.n)).held.length≤s.held.length + s.n + 1:=by
     unfold Site.skip1 Site.send
     rw [Site.others_eq]
     have h2:=Site.tell_len t (Site.skips (nextI s.me s.nx s.n) s.ownB) t.n
     have h3:=k.n
     simp only [List.length_append,List.length_cons,List.length_nil,h0]
     omega
    have h4:(t.skip1 s.ownB (nextI s.me s.nx s.n)).n=s.n:=(Site.kin_skip1 _ _ _).n.trans k.n
    rw [h4] at this
    have h5:(s.n + 1) * (8 - c)=(s.n + 1) * (8 - (c + 1)) + (s.n + 1):=by
     have:8 - c=(8 - (c + 1)) + 1:=by omega
     rw [this,Nat.mul_add,Nat.mul_one]
    omega
  ·exact Site.skipF_held f c {s with nx:=(nextI s.me s.nx s.n + 1).toNat} to hc
theorem Site.skip_held' (s:Site) (to:Int) (h7:s.n≤7):(s.skip to).held.length≤s.held.length + 64:=by
 have:=Site.skipF_held 4098 0 s to (by omega)
 unfold Site.skip
 have h2:(s.n + 1) * (8 - 0)≤64:=by have:8 - 0=8:=rfl;rw [this];omega
 omega
theorem Site.tellsTo_dec (D:Int→Option (List UInt8)) (to:Int):∀(l:List Int) (s:Site) (x:Int),(Site.tellsTo D to s l).dec x=s.dec x
 | [],_,_=>rfl
 | y :: l,s,x=>Site.tellsTo_dec D to l (s.send to (Site.tells y ((D y).getD []))) x
theorem topG_range {α:Type} (L:AL α) (h:∀p∈L,0≤p.1∧p.1 < 4096):0≤topG L∧topG L≤4096:=by
 unfold topG
 have:∀(L:AL α) (m:Int),(∀p∈L,0≤p.1∧p.1 < 4096)→0≤m→m≤4096→0≤L.foldl (fun m p=>max m (p.1 + 1)) m∧L.foldl (fun m p=>max m (p.1 + 1)) m≤4096:=by
  intro L
  induction L with
  | nil=>exact fun m _ h0 h1=>⟨h0,h1⟩
  | cons p L ih=>
   intro m hp h0 h1
   have:=hp p (by simp)
   exact ih _ (fun q hq=>hp q (List.mem_cons_of_mem _ hq)) (by show 0≤max m (p.1 + 1);omega) (by show max m (p.1 + 1)≤4096;omega)
 exact this L 0 h (by omega) (by omega)
end Agio
namespace Go.Proofs.YtijhlbeipglieaaGreat
open Go.RowKit Agio Go.Maps
variable [Ban]
theorem siteWanted (w:World) (M:SiteV) (h:SiteS w M) (m:Mv) (hm:m.ms.May) (hl:M.held.length≤600000000) :
  Calls Tryz.prog 198 #[M.ptr,m.val] w fun e w'=>e= .returned (.tuple #[])∧Gone w w' M (M.pl.wanted m.ms):=by
 obtain ⟨W,H,eW,hH,hB,U0⟩:=boxes1 w 32 #[.int .i64 m.k,.int .i64 m.f,.int .i64 m.t,.int .i64 m.s,.int .i64 m.br,.int .i64 m.bs,.int .i64 m.hr,.int .i64 m.hs,.bool m.so,.slice m.A m.n m.c]
 have h1:=h.upd0 U0
 have U0':=U0.gives (b':=[]) (by simp)
 have hslot:0≤m.s∧m.s≤4095:=hm.slot
 have hfrm:0≤m.f∧m.f≤6:=hm.frm
 have hHf:H∉M.fp:=fun hk=>by have:=h.lt H hk;omega
 have hwf:(Lit.int .i64 m.s).wf=true:=wfI (by omega) (by omega)
 obtain ⟨T,hT⟩:∃T,(if m.so=true∧M.pl.dec m.s=none∧ownerI m.s M.n=M.me then M.pl.skip (m.s + 1) else M.pl)=T:=⟨_,rfl⟩
 have HT:=Lib.hid hT
 obtain ⟨R,hR⟩:∃R,M.pl.wanted m.ms=R:=⟨_,rfl⟩
 have HR:=Lib.hid (show R=Site.tellsTo T.dec m.f T ((decS T.dec m.s.toNat ((topG T.lv).toNat - m.s.toNat)).take 16) by rw [←hR,←hT];rfl)
 rw [hR]
 clear hR hT
 obtain ⟨dn,hdn⟩:∃d,(M.pl.dec m.s).isSome=d:=⟨_,rfl⟩
 have C1:=learnGet W.drew M.gl M.bl M.lv M.taken h1.drew.lrn h1.drew.lvRd m.s hwf
 have hdl:(lookG m.s M.lv).isSome=dn:=by rw [←hdn,SiteV.dec_pl,Option.isSome_map]
 rw [hdl] at C1
 have HDN:=Lib.hid hdn
 have q7:W.drew.cell? ⟨M.gs,7,none⟩=some (.pointer (some ⟨M.gl,0,none⟩)):=h1.blk.cell 7
 have a3:W.drew.cell? ⟨H,3,none⟩=some (.int .i64 m.s):=hB.cell 3
 rw [SiteV.ptr,Mv.val_eq]
 clear hdn hdl
 go_enter Tryz.func198,Tryz.ntmps198
 repeat' (first|go_values|go_skip|go_guarded|go_step|go_upon|(simp only [];go_at_K))
 go_upto_region 1 with fail
 go_cut [5] from 11 (fun s5 wc=>s5= .bool dn∧Upd [] [] W wc)
 case first=>
  go_region_held3 (fun w'=>w'.cell? ⟨M.gs,7,none⟩=some (.pointer (some ⟨M.gl,0,none⟩))∧w'.cell? ⟨H,3,none⟩=some (.int .i64 m.s)) (first | exact ⟨q7,a3⟩ | exact ⟨q7b,a3b⟩)
   (first
    | (go_at_call 93;(with_reducible refine C1.mono ?_);rintro e w1 ⟨A1,n1,c1,rfl,ho1,hu1⟩;have q7b:=hu1.cell q7 (by simp);have a3b:=hu1.cell a3 (by simp)))
  all_goals (repeat' ((fail_if_success (with_reducible refine stop_append rfl ?_));first | go_values | go_skip | go_guarded | go_step | go_upon | (simp only [];go_at_K)))
  all_goals go_meet
  all_goals exact ⟨rfl,((Upd.refl [] W).drew.trans hu1).gives (by simp)⟩
 case rest=>
  obtain ⟨rfl,U1⟩:=hcut
  have h2:=h1.upd0 U1
  have hB2:=hB.upd U1 (by simp)
  have UW:=U0'.trans U1
  have a8N:∀N,(wc.drewN N).cell? ⟨H,8,none⟩=some (.bool m.so):=fun N=>hB2.cell 8
  have a3N:∀N,(wc.drewN N).cell? ⟨H,3,none⟩=some (.int .i64 m.s):=fun N=>hB2.cell 3
  have g0N:∀N,(wc.drewN N).cell? ⟨M.gs,0,none⟩=some (.int .i64 (M.me:Int)):=fun N=>h2.blk.cell 0
  have g1N:∀N,(wc.drewN N).cell? ⟨M.gs,1,none⟩=some (.int .i64 (M.n:Int)):=fun N=>h2.blk.cell 1
  obtain ⟨wo,hwo⟩:∃x,wc=x:=⟨_,rfl⟩
  simp only [hwo] at h2 hB2 UW a8N a3N g0N g1N
  rw [hwo]
  clear hwo U1 C1 q7 a3 h1
  have CO:=fun N=>slotsOwner (wo.drewN N) m.s M.n
  obtain ⟨D,hD⟩:∃D,(m.so && (!dn && (ownerI m.s M.n == (M.me:Int))))=D:=⟨_,rfl⟩
  have HD:=Lib.hid hD
  obtain ⟨so,hse⟩:∃so,m.so=so:=⟨_,rfl⟩
  obtain ⟨o,ho⟩:∃o,ownerI m.s M.n=o:=⟨_,rfl⟩
  have HSO:=Lib.hid hse
  have HO:=Lib.hid ho
  simp only [hse] at a8N
  simp only [ho] at CO
  rw [hse,ho] at HD
  clear hD hse ho
  go_upto_region 2 with fail
  go_cut [41] from 22 (fun s41 wc=>s41= .bool D∧Upd [] [] wo wc)
  case first=>
   clear h2 hB2 UW HR HT
   cases so with
   | false=>
    have hDf:=HD.out
    simp only [Bool.false_and] at hDf
    subst hDf
    go_quiet (with_reducible exact quiet_eq (CO _))
    repeat' (first|go_values|go_skip|go_guarded|go_step|go_upon|(simp only [];go_at_K))
    go_meet
    exact ⟨rfl,(Upd.refl [] wo).drewN _⟩
   | true=>
    cases dn with
    | true=>
     have hDf:=HD.out
     simp only [Bool.not_true,Bool.false_and,Bool.and_false] at hDf
     subst hDf
     go_quiet (with_reducible exact quiet_eq (CO _))
     repeat' (first|go_values|go_skip|go_guarded|go_step|go_upon|(simp only [];go_at_K))
     go_meet
     exact ⟨rfl,(Upd.refl [] wo).drewN _⟩
    | false=>
     have hDf:=HD.out
     simp only [Bool.not_false,Bool.true_and] at hDf
     have HDF:=Lib.hid hDf
     clear hDf
     go_quiet (with_reducible exact quiet_eq (CO _))
     repeat' (first|go_values|go_skip|go_guarded|go_step|go_upon|(simp only [];go_at_K))
     go_meet
     exact ⟨by rw [HDF.out],(Upd.refl [] wo).drewN _⟩
  case rest=>
   obtain ⟨rfl,U2⟩:=hcut
   have h3:=h2.upd0 U2
   have hB3:=hB2.upd U2 (by simp)
   have UX:=UW.trans U2
   obtain ⟨wx,hwx⟩:∃x,wc=x:=⟨_,rfl⟩
   rw [hwx] at h3 hB3 UX ⊢
   clear hwx U2 a8N a3N g0N g1N CO h2 hB2 UW
   have HTD:=Lib.hid (show T=if D=true then M.pl.skip (m.s + 1) else M.pl by
    rw [←HT.out]
    have h1:=HD.out
    have h2:=HDN.out
    rw [←HSO.out,←HO.out] at h1
    by_cases hc:m.so=true∧M.pl.dec m.s=none∧ownerI m.s M.n=M.me
    ·rw [if_pos hc,if_pos]
     rw [←h1,hc.1,←h2,hc.2.1,hc.2.2];simp
    ·rw [if_neg hc,if_neg]
     intro hd
     rw [←h1] at hd
     simp only [Bool.and_eq_true,Bool.not_eq_true',beq_iff_eq] at hd
     refine hc ⟨hd.1,?_,hd.2.2⟩
     have h9:=hd.2.1
     rw [←h2] at h9
     cases hq:M.pl.dec m.s with
     | none=>rfl
     | some _=>rw [hq] at h9;cases h9)
   go_upto_if 41 with fail
   go_cut [3] from 11 (fun s3 wc=>s3= .pointer (some ⟨H,0,none⟩)∧∃M1,SiteS wc M1∧M1.pl=T∧M1.gs=M.gs∧M1.held.length≤700000000∧Upd M.fp M1.fp w wc∧Blk wc H 32 #[.int .i64 m.k,.int .i64 m.f,.int .i64 m.t,.int .i64 m.s,.int .i64 m.br,.int .i64 m.bs,.int .i64 m.hr,.int .i64 m.hs,.bool m.so,.slice m.A m.n m.c]∧H∉M1.fp)
   case first=>
    cases D with
    | false=>
     have KEY:=Lib.hid (show ∃M1,SiteS wx M1∧M1.pl=T∧M1.gs=M.gs∧M1.held.length≤700000000∧Upd M.fp M1.fp w wx∧Blk wx H 32 #[.int .i64 m.k,.int .i64 m.f,.int .i64 m.t,.int .i64 m.s,.int .i64 m.br,.int .i64 m.bs,.int .i64 m.hr,.int .i64 m.hs,.bool m.so,.slice m.A m.n m.c]∧H∉M1.fp from
      ⟨M,h3,by rw [HTD.out];rfl,rfl,by omega,UX.up M.fp,hB3,hHf⟩)
     clear h3 hB3
     repeat' (first|go_values|go_skip|go_guarded|go_step|go_upon|(simp only [];go_at_K))
     go_meet
     exact ⟨rfl,KEY.out⟩
    | true=>
     have C3:=siteSkip wx M h3 (m.s + 1) (by omega)
     obtain ⟨⟨b0,b1,b2,b3,b4,b5,b6,b7,b8,b9⟩,-⟩:=hB3.c10
     have hw1:IntKind.i64.wrap (m.s + 1)=m.s + 1:=by rw [IntKind.wrap_i64];omega
     rw [SiteV.ptr] at C3
     repeat' (first|go_values|go_skip|go_guarded|go_step|go_upon|(simp only [];go_at_K))
     ((with_reducible refine C3.mono ?_);rintro e w4 ⟨rfl,M1,H1,hp1,hg1,-,u1⟩)
     have KEY:=Lib.hid (show ∃M1,SiteS w4 M1∧M1.pl=T∧M1.gs=M.gs∧M1.held.length≤700000000∧Upd M.fp M1.fp w w4∧Blk w4 H 32 #[.int .i64 m.k,.int .i64 m.f,.int .i64 m.t,.int .i64 m.s,.int .i64 m.br,.int .i64 m.bs,.int .i64 m.hr,.int .i64 m.hs,.bool m.so,.slice m.A m.n m.c]∧H∉M1.fp from
      ⟨M1,H1,by rw [HTD.out,if_pos rfl];exact hp1,hg1,by
       have h1:=congrArg (fun z:Site=>z.held.length) hp1
       simp only [SiteV.held_len] at h1
       have h2:=Site.skip_held' M.pl (m.s + 1) h.ok.n7
       rw [SiteV.held_len] at h2
       omega,(UX.up M.fp).trans u1,hB3.upd u1 hHf,u1.notin hHf hB3.lt⟩)
     clear C3 H1 u1 hp1 h3 hB3 b0 b1 b2 b3 b4 b5 b6 b7 b8 b9
     repeat' (first|go_values|go_skip|go_guarded|go_step|go_upon|(simp only [];go_at_K))
     go_meet
     exact ⟨rfl,KEY.out⟩
   case rest=>
    obtain ⟨rfl,M1,h4,hp4,hg4,hl4,U4,hB4,hH4⟩:=hcut
    have q7:wc.cell? ⟨M.gs,7,none⟩=some (.pointer (some ⟨M1.gl,0,none⟩)):=by rw [←hg4];exact h4.blk.cell 7
    have C5:=learnTop wc M1.gl M1.bl M1.lv M1.taken h4.lrn
    obtain ⟨tp,htp⟩:∃tp,topG M1.lv=tp:=⟨_,rfl⟩
    rw [htp] at C5
    have htp2:topG T.lv=tp:=by rw [←hp4,←htp];exact topG_map Bsl.b M1.lv
    have htr:0≤tp∧tp≤4096:=by rw [←htp];exact topG_range M1.lv (fun p hp=>by have:=h4.lrn.keys p hp;omega)
    have HTP:=Lib.hid htp2
    clear htp htp2 h3 hB3 UX HD HDN HSO HO HTD HT
    repeat' (first|go_values|go_skip|go_guarded|go_step|go_upon|(simp only [];go_at_K))
    ((with_reducible refine C5.mono ?_);rintro e w5 ⟨rfl,hu5⟩)
    have h5:=h4.upd0 hu5
    have hB5:=hB4.upd hu5 (by simp)
    have U5:=U4.trans (hu5.up M1.fp)
    clear C5 h4 hB4 U4 hu5 q7
    obtain ⟨⟨b0,b1,b2,b3,b4,b5,b6,b7,b8,b9⟩,-⟩:=hB5.c10
    obtain ⟨s0,hs0⟩:∃s0:Nat,m.s=(s0:Int):=⟨m.s.toNat,by omega⟩
    have hs0n:m.s.toNat=s0:=by omega
    have HR2:=HR.out
    rw [hs0n,HTP.out] at HR2
    have HR3:=Lib.hid HR2
    have HS0:=Lib.hid hs0
    rw [hs0] at b3
    clear HR2 hs0n hs0
    repeat' (first|go_values|go_skip|go_guarded|go_step|go_upon|(simp only [];go_at_K))
    go_loopw [6,8] (fun v6 v8 wr=>∃(k y:Nat) (M2:SiteV),v6= .int .i64 (k:Int)∧v8= .int .i64 ((s0 + y:Nat):Int)∧k≤16∧(y=0∨((s0 + y:Nat):Int)≤tp)∧(decS T.dec s0 y).length=k∧SiteS wr M2∧M2.pl=Site.tellsTo T.dec m.f T (decS T.dec s0 y)∧M2.gs=M.gs∧M2.held.length≤700000000 + k∧Upd M.fp M2.fp w wr∧Blk wr H 32 #[.int .i64 m.k,.int .i64 m.f,.int .i64 m.t,.int .i64 m.s,.int .i64 m.br,.int .i64 m.bs,.int .i64 m.hr,.int .i64 m.hs,.bool m.so,.slice m.A m.n m.c]∧H∉M2.fp) (fun _ v8 _=>(4096 - intOf v8).toNat)
    case atStart=>exact ⟨0,0,M1,rfl,rfl,by omega,.inl rfl,rfl,h5,hp4,hg4,by omega,U5,hB5,hH4⟩
    case round=>
     obtain ⟨k,y,M2,rfl,rfl,hk,hy,hdk,h6,hp6,hg6,hl6,U6,hB6,hH6⟩:=hrel
     have HP6:=Lib.hid hp6
     have HDK:=Lib.hid hdk
     clear hp6 hdk h5 hB5 U5 b0 b1 b2 b3 b4 b5 b6 b7 b8 b9
     by_cases hyt:((s0 + y:Nat):Int) < tp
     ·have dyt:decide (((s0 + y:Nat):Int) < tp)=true:=decide_eq_true hyt
      by_cases hk16:k < 16
      ·have dk:decide ((k:Int) < 16)=true:=decide_eq_true (by omega)
       have hki:(k:Int) < 16:=by omega
       have hw1:IntKind.i64.wrap (((s0 + y:Nat):Int) + 1)=((s0 + (y + 1):Nat):Int):=by rw [IntKind.wrap_i64];omega
       have hw2:IntKind.i64.wrap ((k:Int) + 1)=((k + 1:Nat):Int):=by rw [IntKind.wrap_i64];omega
       have q7:wr.cell? ⟨M.gs,7,none⟩=some (.pointer (some ⟨M2.gl,0,none⟩)):=by rw [←hg6];exact h6.blk.cell 7
       have hdec:(lookG ((s0 + y:Nat):Int) M2.lv).map Bsl.b=T.dec ((s0 + y:Nat):Int):=by
        rw [←SiteV.dec_pl,HP6.out]
        exact Site.tellsTo_dec _ _ _ _ _
       have C7:=learnGet wr M2.gl M2.bl M2.lv M2.taken h6.lrn h6.lvRd ((s0 + y:Nat):Int) (wfI (by omega) (by omega))
       rw [show (lookG ((s0 + y:Nat):Int) M2.lv).isSome=(T.dec ((s0 + y:Nat):Int)).isSome by rw [←hdec,Option.isSome_map],hdec] at C7
       have hS:=decS_succ T.dec s0 y
       obtain ⟨DV,hDV⟩:∃DV,T.dec ((s0 + y:Nat):Int)=DV:=⟨_,rfl⟩
       have hlen:∀v,DV=some v→v.length≤2048:=fun v hv=>by
        rw [←hDV,←hdec] at hv
        cases hq:lookG ((s0 + y:Nat):Int) M2.lv with
        | none=>rw [hq] at hv;cases hv
        | some z=>
         rw [hq] at hv
         injection hv with hv
         rw [←hv]
         exact (h6.lrn.keys _ (lookG_some hq)).2.2
       have HDV:=Lib.hid hDV
       rw [hDV] at C7 hS
       have HS:=Lib.hid hS
       clear hdec hDV hS
       obtain ⟨sy,hsy⟩:∃sy:Int,((s0 + y:Nat):Int)=sy:=⟨_,rfl⟩
       rw [hsy] at dyt hyt hw1 C7 HS HDV hy ⊢
       have HSY:=Lib.hid hsy
       clear hsy
       repeat' (first|go_values|go_skip|go_guarded|go_step|go_upon|(simp only [];go_at_K))
       ((with_reducible refine C7.mono ?_);rintro e w7 ⟨A7,n7,c7,rfl,ho7,hu7⟩)
       have h7:=h6.upd0 hu7
       have hA7:=(Upd.refl [] wr).new hu7
       have hB7:=hB6.upd hu7 (by simp)
       have U7:=U6.trans (hu7.up M2.fp)
       clear C7 q7
       cases DV with
       | none=>
        have hS2:=HS.out
        simp only [Option.isSome_none,Bool.false_eq_true,if_false,List.append_nil] at hS2
        have HS2:=Lib.hid hS2
        clear hS2 h6 hB6 U6 hu7
        repeat' (first|go_values|go_skip|go_guarded|go_step|go_upon|(simp only [];go_at_K))
        refine ⟨⟨k,y + 1,M2,rfl,rfl,hk,.inr ?_,by rw [HS2.out];exact HDK.out,h7,by rw [HS2.out];exact HP6.out,hg6,hl6,U7,hB7,hH6⟩,?_⟩
        ·have:=HSY.out;omega
        ·have:=HSY.out;simp only [intOf];omega
       | some v=>
        have hvl:=hlen v rfl
        have hS2:=HS.out
        simp only [Option.isSome_some,if_true] at hS2
        have HS2:=Lib.hid hS2
        have hA7f:∀x∈ablk A7,x∉M2.fp:=fun x hx hm=>by have h1:=hA7 x hx;have h2:=h6.lt x hm;omega
        have C8:=siteTells w7.drew sy A7 n7 c7 v
        have C9:=fun (w8:World) (hu:Upd [] [] w7.drew w8)=>siteSend w8 M2 (h7.drew.upd0 hu) m.f ⟨7,0,0,sy,0,0,0,0,true,A7,n7,c7,v⟩ (Site.tells_fit (x:=sy) (v:=v) (by have:=HSY.out;omega) hvl) hfrm ((RdB.upd (show RdB w7.drew A7 n7 v from ho7.rd) hu (by simp))) (by omega)
        obtain ⟨⟨e0,e1,e2,e3,e4,e5,e6,e7,e8,e9⟩,-⟩:=hB7.drew.c10
        have hms:Mv.ms ⟨7,0,0,sy,0,0,0,0,true,A7,n7,c7,v⟩=Site.tells sy v:=rfl
        obtain ⟨tv,htv⟩:∃tv,Mv.val ⟨7,0,0,sy,0,0,0,0,true,A7,n7,c7,v⟩=tv:=⟨_,rfl⟩
        rw [htv] at C8
        simp only [hms,htv,SiteV.ptr,hg6] at C9
        clear hS2 h6 hB6 U6 hu7 htv hms hlen
        repeat' (first|go_values|go_skip|go_guarded|go_step|go_upon|(simp only [];go_at_K))
        go_region_with (first
         | (go_at_call 118;(with_reducible refine C8.mono ?_);rintro e w8 ⟨rfl,hu8⟩;have e1b:=hu8.cell e1 (by simp))
         | (go_at_call 64;(with_reducible refine (C9 w8 hu8).mono ?_);rintro e w9 ⟨rfl,M9,h9,hp9,hg9,-,U9⟩))
        all_goals (repeat' ((fail_if_success (with_reducible refine stop_append rfl ?_));first | go_values | go_skip | go_guarded | go_step | go_upon | (simp only [];go_at_K)))
        all_goals
         have U79:Upd M.fp M9.fp w w9:=((U7.drew.trans (hu8.up M2.fp)).trans U9)
         have B9:=((hB7.drew.upd hu8 (by simp)).upd U9 hH6)
         have l9:M9.held.length≤700000000 + (k + 1):=by
          have h1:=congrArg (fun z:Site=>z.held.length) hp9
          simp only [SiteV.held_len,Site.send,List.length_append,List.length_cons,List.length_nil] at h1
          omega
         have p9:M9.pl=Site.tellsTo T.dec m.f T (decS T.dec s0 (y + 1)):=by
          rw [HS2.out,Site.tellsTo_snoc,hp9,HP6.out,HDV.out];rfl
         refine ⟨⟨k + 1,y + 1,M9,rfl,rfl,by omega,.inr ?_,by rw [HS2.out,List.length_append,HDK.out];rfl,h9,p9,hg9.trans hg6,l9,U79,B9,U9.notin hH6 (by have:=(hB7.drew.upd hu8 (by simp)).lt;exact this)⟩,?_⟩
         ·have:=HSY.out;omega
         ·have:=HSY.out;simp only [intOf];omega
      ·have dk:decide ((k:Int) < 16)=false:=decide_eq_false (by omega)
       have hk2:decide (k < 16)=false:=decide_eq_false hk16
       have hkk:k=16:=by omega
       have hRR:R=M2.pl:=by
        rw [HR3.out,HP6.out,decS_take T.dec s0 y (tp.toNat - s0) (by omega) (by rw [HDK.out];exact hk) (.inr (by rw [HDK.out];exact hkk))]
       have KEY:=Lib.hid (show Gone w wr M R from ⟨M2,h6,hRR.symm,hg6,U6⟩)
       have HKK:=Lib.hid hkk
       clear hRR h6 U6 hB6 hkk
       repeat' (first|go_values|go_skip|go_guarded|go_step|go_upon|(simp only [];go_at_K))
       exact bodyPost_end (results_none rfl _ _ _) rfl ⟨rfl,KEY.out⟩
     ·have dyt:decide (((s0 + y:Nat):Int) < tp)=false:=decide_eq_false hyt
      have hRR:R=M2.pl:=by
       have hN:y=tp.toNat - s0:=by rcases hy with h1 | h1 <;> omega
       rw [HR3.out,HP6.out,decS_take T.dec s0 y (tp.toNat - s0) (by omega) (by rw [HDK.out];exact hk) (.inl hN)]
      have KEY:=Lib.hid (show Gone w wr M R from ⟨M2,h6,hRR.symm,hg6,U6⟩)
      obtain ⟨sy,hsy⟩:∃sy:Int,((s0 + y:Nat):Int)=sy:=⟨_,rfl⟩
      rw [hsy] at dyt hyt ⊢
      clear hRR h6 U6 hB6 hsy
      repeat' (first|go_values|go_skip|go_guarded|go_step|go_upon|(simp only [];go_at_K))
      exact bodyPost_end (results_none rfl _ _ _) rfl ⟨rfl,KEY.out⟩
end Go.Proofs.YtijhlbeipglieaaGreat
