/- Merged: Voters, PropD, SiteI, SiteJ. -/
import Derived.Deep.Cut
import Derived.Test.YtijhlbeipglieaaGreatPkSiteE
set_option linter.all false
set_option maxRecDepth 100000
set_option maxHeartbeats 4000000
namespace Agio
open Go
theorem snoc_ind {α:Type} {P:List α→Prop} (h0:P []) (h1:∀l x,P l→P (l ++ [x])) (l:List α):P l:=by
 rw [←l.reverse_reverse]
 induction l.reverse with
 | nil=>exact h0
 | cons x l ih=>rw [List.reverse_cons];exact h1 _ _ ih
theorem delK_len (x:Int):∀(M:KV),(M.map Prod.fst).Nodup→(delK x M).length + (if (lookK x M).isSome then 1 else 0)=M.length
 | [],_=>by simp [delK,lookK]
 | p :: M,h=>by
  rw [List.map_cons,List.nodup_cons] at h
  have ih:=delK_len x M h.2
  by_cases e:p.1=x
  ·have hno:lookK x M=none:=lookK_none.2 fun q hq he=>h.1 (by rw [e,←he];exact List.mem_map_of_mem hq)
   rw [hno] at ih
   unfold delK lookK at *
   simp [e] at ih ⊢
   omega
  ·unfold delK lookK at *
   simp only [List.filter_cons,List.find?_cons,e,decide_false,Bool.not_false,if_true,List.length_cons] at ih ⊢
   omega
theorem putK_nodup {x:Int} {v:Value} {M:KV} (h:(M.map Prod.fst).Nodup):((putK x v M).map Prod.fst).Nodup:=by
 unfold putK
 rw [((insK_perm (x,v) (delK x M)).map Prod.fst).nodup_iff,List.map_cons,List.nodup_cons]
 refine ⟨fun hm=>?_,List.Nodup.sublist ((List.filter_sublist (p:=fun p:Int × Value=>!decide (p.1=x)) (l:=M)).map Prod.fst) h⟩
 obtain ⟨p,hp,e⟩:=List.mem_map.1 hm
 exact (delK_mem.1 hp).2 e
theorem putK_len_eq {x:Int} {v:Value} {M:KV} (h:(M.map Prod.fst).Nodup):(putK x v M).length=M.length + (if (lookK x M).isSome then 0 else 1):=by
 have:=delK_len x M h
 unfold putK
 rw [insK_len]
 split at this <;> simp_all
theorem voters_nodup (l:List Int) (n:Int):((voters l n).map Prod.fst).Nodup:=by
 refine snoc_ind (P:=fun l=>((voters l n).map Prod.fst).Nodup) (by simp [voters]) (fun l x ih=>?_) l
 rw [voters_snoc]
 split
 ·exact putK_nodup ih
 ·exact ih
theorem voters_look (l:List Int) (n x:Int):(lookK x (voters l n)).isSome=(decide (x∈l) && isSite x n):=by
 refine snoc_ind (P:=fun l=>(lookK x (voters l n)).isSome=(decide (x∈l) && isSite x n)) (by simp [voters,lookK]) (fun l y ih=>?_) l
 rw [voters_snoc]
 by_cases hs:isSite y n=true
 ·rw [if_pos hs,lookK_put]
  by_cases e:y=x
  ·subst e;simp [hs]
  ·rw [if_neg e,ih]
   simp [show ¬ x=y from fun h=>e h.symm]
 ·rw [if_neg hs,ih]
  by_cases e:x=y
  ·subst e;simp [hs]
  ·simp [e]
theorem voters_mono (l:List Int) (x n:Int):(voters l n).length≤(voters (l ++ [x]) n).length:=by
 rw [voters_snoc]
 split
 ·rw [putK_len_eq (voters_nodup _ _)];omega
 ·omega
theorem mostI_mono {l:List Int} {n:Int} (x:Int) (h:mostI l n=true):mostI (l ++ [x]) n=true:=by
 have:=voters_mono l x n
 unfold mostI at *
 split at h
 ·cases h
 ·rename_i hn
  rw [if_neg hn]
  simp only [decide_eq_true_eq] at *
  omega
end Agio
namespace Go.Proofs.YtijhlbeipglieaaGreat
open Go.RowKit Agio Go.Maps
theorem infoI64:(Tryz.prog.info? 3).map (fun i=>(i.zero,i.size,i.bytes))=some (some (.int .i64 0),1,8):=by kernel_rfl
def atB (vt:List (Int × Bl)) (b:Bl):List Int:=(vt.filter fun v=>decide (v.2=b)).map Prod.fst
theorem atB_take {vt:List (Int × Bl)} {b:Bl} {i:Nat} (h:i < vt.length):atB (vt.take (i + 1)) b=atB (vt.take i) b ++ (if vt[i].2=b then [vt[i].1] else []):=by
 unfold atB
 rw [List.take_succ_eq_append_getElem h,List.filter_append,List.map_append]
 congr 1
 by_cases e:vt[i].2=b <;> simp [e]
theorem atB_len (vt:List (Int × Bl)) (b:Bl):(atB vt b).length≤vt.length:=by
 unfold atB;rw [List.length_map];exact List.length_filter_le _ _
theorem propDecided (w:World) (A:Option Addr) (c:Nat) (vt:List (Int × Bl)) (hv:RdS vtCells 3 w A vt.length vt) (b:Bl) (n:Nat) (hn:n≤7) (hl:vt.length≤1000000000) :
  Calls Tryz.prog 250 #[.slice A vt.length c,b.val,.int .i64 (n:Int)] w fun e w'=>e= .returned (.bool (Site.most vt b n))∧Upd [] [] w w':=by
 obtain ⟨W,H,eW,hH,hB,U0⟩:=boxes1 w 30 #[.int .i64 b.r,.int .i64 b.s]
 have hv1:=hv.upd0 U0
 have hU0:=U0.gives (b':=[]) (by simp)
 have HM:=Lib.hid (show Site.most vt b n=mostI (atB vt b) n from rfl)
 obtain ⟨R,hR⟩:∃R,Site.most vt b n=R:=⟨_,rfl⟩
 rw [hR] at HM ⊢
 clear hR
 have hHs:w.heap.size≤H:=by omega
 have hHl:=hB.lt
 rw [Bl.val]
 go_enter Tryz.func250,Tryz.ntmps250
 repeat' (first|go_values|go_skip|go_guarded|go_step|go_upon|(simp only [];go_at_K))
 go_loopw [7,12] (fun v7 v12 wr=>∃(i:Nat) (A1:Option Addr) (c1:Nat),i≤vt.length∧v12= .int .i64 (i:Int)∧v7= .slice A1 (atB (vt.take i) b).length c1∧Agio.Own 3 1 wr A1 (atB (vt.take i) b).length c1 ((atB (vt.take i) b).map (Value.int .i64))∧Upd [] (ablk A1) W wr)
  (fun _ v12 _=>vt.length - (intOf v12).toNat)
 case atStart=>exact ⟨0,none,0,by omega,rfl,rfl,Own.nil _ _ _,Upd.refl _ _⟩
 case round=>
  obtain ⟨i,A1,c1,hi,rfl,rfl,ho,U⟩:=hrel
  by_cases hlt:i < vt.length
  ·have hil:(i:Int) < (vt.length:Int):=by omega
   have hw1:IntKind.i64.wrap ((i:Int) + 1)=(i:Int) + 1:=by rw [IntKind.wrap_i64];omega
   have hvr:=hv1.upd0 U
   obtain ⟨ad,rfl,h0,hj⟩:=RdS.at_ (f:=vtCells) (s:=3) (fun _=>rfl) hvr hlt
   have c0:=h0 _ rfl
   have c1':=hj 1 _ (by omega) rfl
   have c2:=hj 2 _ (by omega) rfl
   have HT:=Lib.hid (atB_take (b:=b) hlt)
   have hln:=atB_len (vt.take i) b
   rw [List.length_take] at hln
   have kB:=hB.upd U (by simp)
   obtain ⟨⟨b0,b1⟩,-⟩:=kB.c2
   clear h0 hj hvr hv hv1
   generalize vt[i]=y at *
   obtain ⟨yf,yr,ys⟩:=y
   have E1:=eqBal yr ys b.r b.s
   have u0:=Upd.refl [] wr
   obtain ⟨W2,G,eW2,hG,hB2,U2⟩:=boxes1 wr 343 #[.int .i64 yf,.int .i64 yr,.int .i64 ys]
   have kB2:=hB.upd U (by simp) |>.upd U2 (by simp)
   obtain ⟨⟨d0,d1⟩,-⟩:=kB2.c2
   obtain ⟨⟨g0,g1,g2⟩,-⟩:=hB2.c3
   have ho2:=ho.upd U2 (by simp)
   have U02:=U.trans (U2.up _)
   by_cases he:(⟨yr,ys⟩:Bl)=b
   ·have he2:((yr == b.r) && (ys == b.s))=true:=by subst he;simp
    rw [he2] at E1
    have HT2:=HT.out
    rw [if_pos he] at HT2
    have HTh:=Lib.hid HT2
    clear HT HT2 he he2
    obtain ⟨X,hX⟩:∃X,atB (vt.take i) b=X:=⟨_,rfl⟩
    rw [hX] at ho2 hln HTh ⊢
    repeat' ((fail_if_success (with_reducible refine stop_append rfl ?_));first|go_values|go_skip|go_guarded|go_step|go_upon|(simp only [];go_at_K))
    refine wpList_push rfl _ _ 168 rfl 3 Tryz.underlying168 infoI64 rfl (by decide) ho2 rfl W2.heap.size rfl rfl rfl rfl (by unfold maxLen;omega) (by omega) ?_
    intro A3 c3 w3 ho3 hu3
    have U3:=U02.trans hu3
    clear ho ho2 U U02 u0 U2 hB hB2 kB kB2
    repeat' (first|go_values|go_skip|go_guarded|go_step|go_upon|(simp only [];go_at_K))
    exact ⟨⟨i + 1,A3,c3,by omega,by simp,by rw [HTh.out];simp,by rw [HTh.out];simpa using ho3,U3⟩,by simp [intOf];omega⟩
   ·have he2:((yr == b.r) && (ys == b.s))=false:=by
     obtain ⟨br,bs⟩:=b
     simp only [Bl.mk.injEq,not_and] at he
     by_cases h1:yr=br
     ·simp [h1,he h1]
     ·simp [h1]
    rw [he2] at E1
    have HT2:=HT.out
    rw [if_neg he,List.append_nil] at HT2
    have HTh:=Lib.hid HT2
    clear HT HT2 he he2
    obtain ⟨X,hX⟩:∃X,atB (vt.take i) b=X:=⟨_,rfl⟩
    rw [hX] at ho2 hln HTh ⊢
    repeat' (first|go_values|go_skip|go_guarded|go_step|go_upon|(simp only [];go_at_K))
    exact ⟨⟨i + 1,A1,c1,by omega,by simp,by rw [HTh.out],by rw [HTh.out];exact ho2,U02⟩,by simp [intOf];omega⟩
  ·obtain rfl:i=vt.length:=by omega
   have hil:¬ ((vt.length:Int) < (vt.length:Int)):=by omega
   rw [List.take_length] at ho
   have hln:=atB_len vt b
   have C:=ballotMost wr A1 c1 (atB vt b) n (by omega) ho.rd (by omega)
   rw [←HM.out] at C
   have UU:=(hU0.trans (U.up [] |>.gives (b':=[]) (by simp)))
   clear hv hv1 hB U U0 hU0 ho HM
   rw [List.take_length]
   repeat' (first|go_values|go_skip|go_guarded|go_step|go_upon|(simp only [];go_at_K))
   ((with_reducible refine C.mono ?_);rintro e w2 ⟨rfl,hu2⟩)
   repeat' (first|go_values|go_skip|go_guarded|go_step|go_upon|(simp only [];go_at_K))
   go_ret
   exact ⟨rfl,UU.trans hu2⟩
end Go.Proofs.YtijhlbeipglieaaGreat
namespace Go.Proofs.YtijhlbeipglieaaGreat
open Go.RowKit Agio Go.Maps
theorem infoVote:(Tryz.prog.info? 343).map (fun i=>(i.zero,i.size,i.bytes))=some (some (.agg #[.int .i64 0,.int .i64 0,.int .i64 0]),3,24):=by kernel_rfl
theorem neBal (a b c d:Int) (w:World):(binOp .neq 30 (.agg #[.int .i64 a,.int .i64 b]) (.agg #[.int .i64 c,.int .i64 d])).run Tryz.prog w= .ok (.bool (!((a == c) && (b == d)))) w:=by
 rw [run_neq_struct,show (10000:Nat)=9999 + 1 from rfl]
 rw [run_equalIn_struct w _ _ _ _ (by kernel_rfl) (by kernel_rfl)]
 rw [show Tryz.prog.fieldsOf 30=_ from by unfold Program.fieldsOf;rw [Tryz.underlying30]]
 have p0:=fun (x y:Int) (w:World)=>show (part 3 #[.int .i64 x,.int .i64 y] 0).run Tryz.prog w= .ok (.int .i64 x) w by kernel_rfl
 have p1:=fun (x y:Int) (w:World)=>show (part 3 #[.int .i64 x,.int .i64 y] 1).run Tryz.prog w= .ok (.int .i64 y) w by kernel_rfl
 have e0:=fun (a b:Int) (w:World)=>show (Op.equalIn 9999 3 (.int .i64 a) (.int .i64 b)).run Tryz.prog w= .ok (a == b) w by kernel_rfl
 simp only [Op.eqFields,Sem.run_bind,p0,p1,e0,Result.andThen_ok,ne_eq,String.reduceEq,not_false_eq_true,if_true,Sem.run_ite,Sem.run_pure]
 cases a == c
 ·rfl
 cases b == d <;> rfl
variable [Ban]
theorem SiteS.vote {w:World} {M:SiteV} (h:SiteS w M) {x:Int} {r:RnV} (hl:lookG x M.rs=some r) (f:Int) (b:Bl) (hv:r.vt.length≤1000000000) :
  ∃A' c' w3,(Builtin.append_ #[130,130] 130 #[.slice r.VA r.vt.length r.vc,.slice (some ⟨w.heap.size,0,none⟩) 1 1]).run Tryz.prog (w.alloc (.cells #[.int .i64 f,.int .i64 b.r,.int .i64 b.s] 343))= .ok (.slice A' (r.vt.length + 1) c') w3∧
   w3.cell? ⟨r.g,5,none⟩=some (.slice r.VA r.vt.length r.vc)∧w3.frozen? ⟨r.g,5,none⟩=false∧
   SiteS (w3.setCell ⟨r.g,5,none⟩ (.slice A' (r.vt.length + 1) c')) {M with rs:=putG x {r with VA:=A',vc:=c',vt:=r.vt ++ [(f,b)]} M.rs}∧
   Upd M.fp ({M with rs:=putG x {r with VA:=A',vc:=c',vt:=r.vt ++ [(f,b)]} M.rs} :SiteV).fp w (w3.setCell ⟨r.g,5,none⟩ (.slice A' (r.vt.length + 1) c')):=by
 have hmem:=lookG_some hl
 have h1:=h.upd0 ((Upd.refl [] w).alloc (.cells #[.int .i64 f,.int .i64 b.r,.int .i64 b.s] 343))
 have hR:=h.rds _ hmem
 have hR1:=h1.rds _ hmem
 obtain ⟨A',c',w3,hrun,ho,hu⟩:=run_app (P:=Tryz.prog) _ 130 130 343 Tryz.underlying130 infoVote rfl (by decide) r.VA r.vt.length r.vc _ hR1.vts (some ⟨w.heap.size,0,none⟩) 1 1 (vtCells (f,b)) (Rd.blk (Blk.new _ _ _) rfl)
  (by intro u hu;simp only [vtCells,List.mem_cons,List.not_mem_nil,or_false] at hu;rcases hu with rfl | rfl | rfl <;> rfl) (by unfold maxLen;omega) (by omega)
 have hg:r.g∉ablk r.VA:=tag_off hR1.tg hR1.tV (by decide)
 have hb3:=hR1.blk.upd hu hg
 have U:Upd (ablk r.VA) (ablk A') w w3:=((Upd.refl (ablk r.VA) w).alloc _).trans hu
 have u4:Upd [r.g] [r.g] w3 (w3.setCell ⟨r.g,5,none⟩ (.slice A' (r.vt.length + 1) c')):=(Upd.refl [r.g] w3).setCell (p:=⟨r.g,5,none⟩) (.inl (by simp)) _
 have U4:Upd (r.g :: ablk r.VA) (r.g :: ablk A') w (w3.setCell ⟨r.g,5,none⟩ (.slice A' (r.vt.length + 1) c')):=
  (U.mono (a':=r.g :: ablk r.VA) (b':=r.g :: ablk A') (fun k hk=>List.mem_cons_of_mem _ hk) (fun k hk=>by
   rcases List.mem_cons.1 hk with rfl | hk
   ·exact .inr (.inl (by simp))
   ·exact .inl hk)).trans (u4.mono (a':=r.g :: ablk A') (b':=r.g :: ablk A') (by simp) (fun k hk=>.inr (.inl hk)))
 have ho':Agio.Own 343 3 w3 A' (r.vt.length + 1) c' ((r.vt ++ [(f,b)]).flatMap vtCells):=by rw [List.flatMap_append,List.flatMap_cons,List.flatMap_nil,List.append_nil];exact ho
 have hgA':∀k∈ablk A',k∉[r.g]:=fun k hk hm=>by
  rw [List.mem_singleton] at hm;subst hm
  exact tag_ne (ho'.tag _ hk) hb3.tag (by decide) rfl
 refine ⟨A',c',w3,hrun,hb3.cell 5,hb3.frozen 5,?_⟩
 refine h.setR hl {r with VA:=A',vc:=c',vt:=r.vt ++ [(f,b)]} rfl (X:=r.g :: ablk r.VA) (fun k hk=>?_) U4 ⟨?_,?_,?_⟩ (fun k hk=>.inl hk) (fun k hk=>?_) (fun y hy=>h.rsByt hmem hy) ?_
 ·simp only [RnV.fp,List.mem_cons,List.mem_append] at hk ⊢
  rcases hk with h1 | h1
  ·exact .inl h1
  ·exact .inr (.inr h1)
 ·have:=hb3.set_ 5 (.slice A' (r.vt.length + 1) c')
  simpa using this
 ·refine (hR.prs.upd U (tag_offs hR.tP hR.tV (by decide))).upd u4 (fun k hk hm=>?_)
  rw [List.mem_singleton] at hm;subst hm
  exact tag_ne (hR.tP _ hk) hR.tg (by decide) rfl
 ·have:=ho'.upd u4 hgA'
  simpa using this
 ·rcases U.fresh k hk with h1 | h1
  ·exact .inl h1
  ·exact .inr h1
 ·have:=h.ok.rs (x,r.pl) (List.mem_map.2 ⟨_,hmem,rfl⟩)
  exact this.2.2
theorem siteAccepted (w:World) (M:SiteV) (h:SiteS w M) (m:Mv) (hm:m.ms.May) (hl:M.held.length≤900000000) (hvt:∀p∈M.rs,p.2.vt.length≤900000000) :
  Calls Tryz.prog 196 #[M.ptr,m.val] w fun e w'=>e= .returned (.tuple #[])∧Gone w w' M (M.pl.accepted m.ms):=by
 have h0ok:=h.ok
 have hslot:0≤m.s∧m.s≤4095:=hm.slot
 have hwf:(Lit.int .i64 m.s).wf=true:=wfI (by omega) (by omega)
 obtain ⟨W,H,eW,hH,hB,U0⟩:=boxes1 w 32 #[.int .i64 m.k,.int .i64 m.f,.int .i64 m.t,.int .i64 m.s,.int .i64 m.br,.int .i64 m.bs,.int .i64 m.hr,.int .i64 m.hs,.bool m.so,.slice m.A m.n m.c]
 have h1:=h.upd0 U0
 have hHf:H∉M.fp:=fun hk=>by have:=h.lt H hk;omega
 have q8:W.cell? ⟨M.gs,8,none⟩=some (.map (some M.br)):=h1.blk.cell 8
 have q8N:∀N,(W.drewN N).cell? ⟨M.gs,8,none⟩=some (.map (some M.br)):=fun N=>q8
 have a1N:∀N,(W.drewN N).cell? ⟨H,1,none⟩=some (.int .i64 m.f):=fun N=>hB.cell 1
 have a3N:∀N,(W.drewN N).cell? ⟨H,3,none⟩=some (.int .i64 m.s):=fun N=>hB.cell 3
 have a4N:∀N,(W.drewN N).cell? ⟨H,4,none⟩=some (.int .i64 m.br):=fun N=>hB.cell 4
 have a5N:∀N,(W.drewN N).cell? ⟨H,5,none⟩=some (.int .i64 m.bs):=fun N=>hB.cell 5
 have hlk:=fun N=>(h1.drewN N).lookR hwf
 have hpl:lookG m.ms.slot M.pl.rs=(lookG m.s M.rs).map RnV.pl:=lookG_map _ _ _
 obtain ⟨R,hR⟩:∃R,M.pl.accepted m.ms=R:=⟨_,rfl⟩
 have HR:=Lib.hid hR
 rw [hR]
 clear hR
 rw [Mv.val_eq,SiteV.ptr]
 have U0':=(U0.gives (b':=[]) (by simp))
 have STAY:∀W2,Upd [] [] W W2→R=M.pl→Gone w W2 M R:=fun W2 u e=>⟨M,h.upd0 (U0'.trans u),e.symm,rfl,(U0'.trans u).up M.fp⟩
 cases hq:lookG m.s M.rs with
 | none=>
  rw [hq] at hpl
  simp only [hq] at hlk
  have hRM:R=M.pl:=by rw [←HR.out];unfold Site.accepted;rw [hpl];rfl
  have K:=Lib.hid (fun N N'=>STAY ((W.drewN N).drewN N') (((Upd.refl [] W).drewN N).drewN N') hRM)
  simp only [Option.map_none,Option.getD_none,Option.isSome_none] at hlk
  clear STAY hpl
  go_enter Tryz.func196,Tryz.ntmps196
  repeat' (first|go_values|go_skip|go_guarded|go_step|go_upon|(simp only [];go_at_K))
  go_quiet (fail)
  repeat' (first|go_values|go_skip|go_guarded|go_step|go_upon|(simp only [];go_at_K))
  go_quiet (fail)
  repeat' (first|go_values|go_skip|go_guarded|go_step|go_upon|(simp only [];go_at_K))
  exact bodyPost_ret (v:=.tuple #[]) (results_none rfl _ _ _) rfl ⟨rfl,K.out _ _⟩
 | some r=>
  rw [hq] at hpl
  simp only [hq,Option.map_some,Option.getD_some,Option.isSome_some,RnV.ptr] at hlk
  have hmem:=lookG_some hq
  have hRr:=(h1.rds _ hmem)
  have c0N:∀N,(W.drewN N).cell? ⟨r.g,0,none⟩=some (.int .i64 r.bal.r):=fun N=>hRr.blk.cell 0
  have c1N:∀N,(W.drewN N).cell? ⟨r.g,1,none⟩=some (.int .i64 r.bal.s):=fun N=>hRr.blk.cell 1
  have c3N:∀N,(W.drewN N).cell? ⟨r.g,3,none⟩=some (.bool r.so):=fun N=>hRr.blk.cell 3
  have E1:=neBal r.bal.r r.bal.s m.br m.bs
  by_cases hb:r.bal=⟨m.br,m.bs⟩
  ·have e2:((r.bal.r == m.br) && (r.bal.s == m.bs))=true:=by rw [hb];simp
   rw [e2] at E1
   simp only [Bool.not_true] at E1
   have HBB:=Lib.hid hb
   cases hso:r.so with
   | false=>
    have hRM:R=M.pl:=by
     rw [←HR.out];unfold Site.accepted;rw [hpl]
     exact if_neg (fun hc=>by have:=hc.2;rw [show r.pl.so=r.so from rfl,hso] at this;cases this)
    have K:=Lib.hid (fun N N'=>STAY ((W.drewN N).drewN N') (((Upd.refl [] W).drewN N).drewN N') hRM)
    simp only [hso] at c3N
    clear STAY hpl hb
    go_enter Tryz.func196,Tryz.ntmps196
    repeat' (first|go_values|go_skip|go_guarded|go_step|go_upon|(simp only [];go_at_K))
    go_quiet (fail)
    repeat' (first|go_values|go_skip|go_guarded|go_step|go_upon|(simp only [];go_at_K))
    go_quiet (fail)
    repeat' (first|go_values|go_skip|go_guarded|go_step|go_upon|(simp only [];go_at_K))
    exact bodyPost_ret (v:=.tuple #[]) (results_none rfl _ _ _) rfl ⟨rfl,K.out _ _⟩
   | true=>
    simp only [hso] at c3N
    clear STAY hb
    go_enter Tryz.func196,Tryz.ntmps196
    repeat' (first|go_values|go_skip|go_guarded|go_step|go_upon|(simp only [];go_at_K))
    go_quiet (fail)
    repeat' (first|go_values|go_skip|go_guarded|go_step|go_upon|(simp only [];go_at_K))
    obtain ⟨n1,hn1⟩:∃n,n=nq:=⟨_,rfl⟩
    rw [←hn1]
    go_quiet (fail)
    repeat' (first|go_values|go_skip|go_guarded|go_step|go_upon|(simp only [];go_at_K))
    obtain ⟨X,hX⟩:∃X,(W.drewN n1).drewN nq=X:=⟨_,rfl⟩
    rw [hX]
    have UX:Upd [] [] W X:=by rw [←hX];exact ((Upd.refl [] W).drewN _).drewN _
    clear hX hn1
    have hx:=h1.upd0 UX
    have hBx:=hB.upd UX (by simp)
    clear a1N a3N a4N a5N q8N c0N c1N c3N hlk hRr E1 e2 q8
    obtain ⟨A3,c3,w3,hrun,g5,f5,P1,P2⟩:=hx.drew.vote hq m.f ⟨m.br,m.bs⟩ (by have:=hvt _ hmem;simp only at this;omega)
    have hRx:=(hx.rds _ hmem)
    have s5:X.drew.cell? ⟨r.g,5,none⟩=some (.slice r.VA r.vt.length r.vc):=hRx.blk.cell 5
    have s5':(X.alloc (.cells #[.int .i64 m.f,.int .i64 m.br,.int .i64 m.bs] 343)).cell? ⟨r.g,5,none⟩=some (.slice r.VA r.vt.length r.vc):=(hRx.blk.alloc _).cell 5
    obtain ⟨⟨a0,a1,a2,a3,a4,a5,a6,a7,a8,a9⟩,-⟩:=hBx.drew.c10
    clear hRx
    go_cut [4] from 35 (fun s4 wc=>s4= .pointer (some ⟨r.g,0,none⟩)∧wc=w3.setCell ⟨r.g,5,none⟩ (.slice A3 (r.vt.length + 1) c3))
    case first=>
     clear P1 P2 h hx
     go_region_law (first
      | (refine step_run rfl (.tmp 39) (.tmp 45) 130 rfl (.slice r.VA r.vt.length r.vc) (.slice (some ⟨X.drew.heap.size,0,none⟩) 1 1) _ w3 rfl rfl hrun ?_))
     all_goals (repeat' ((fail_if_success (with_reducible refine stop_append rfl ?_));first | go_values | go_skip | go_guarded | go_step | go_upon | (simp only [];go_at_K)))
     all_goals go_meet
     all_goals exact ⟨rfl,rfl⟩
    case rest=>
     obtain ⟨rfl,hwc⟩:=hcut
     rw [←hwc] at P1 P2
     obtain ⟨r2,hr2⟩:∃r2:RnV,{r with VA:=A3,vc:=c3,vt:=r.vt ++ [(m.f,(⟨m.br,m.bs⟩:Bl))]} =r2:=⟨_,rfl⟩
     obtain ⟨M2,hM2⟩:∃M2:SiteV,{M with rs:=putG m.s r2 M.rs} =M2:=⟨_,rfl⟩
     rw [hr2,hM2] at P1 P2
     have hM2p:M2.pl= {M.pl with rs:=putG m.s r2.pl M.pl.rs}:=by rw [←hM2];unfold SiteV.pl;simp only [putG_map]
     have hgs:M2.gs=M.gs:=by rw [←hM2]
     have hn2:M2.n=M.n:=by rw [←hM2]
     have hbl2:M2.bl=M.bl∧M2.br=M.br:=by rw [←hM2];exact ⟨rfl,rfl⟩
     have hh2:M2.held=M.held:=by rw [←hM2]
     have hm2:(m.s,r2)∈M2.rs:=by rw [←hM2];exact mem_putG.2 (.inl rfl)
     have hR2:=P1.rds _ hm2
     have hg2:r2.g=r.g:=by rw [←hr2]
     have hv2:r2.v=r.v:=by rw [←hr2]
     have hb2:r2.bal=r.bal:=by rw [←hr2]
     have hvt2:r2.vt=r.vt ++ [(m.f,(⟨m.br,m.bs⟩:Bl))]:=by rw [←hr2]
     have hvl2:r2.vt.length≤1000000000:=by rw [hvt2,List.length_append];have:=hvt _ hmem;simp only [List.length_cons,List.length_nil] at this ⊢;omega
     have hBw:Blk wc H 32 #[.int .i64 m.k,.int .i64 m.f,.int .i64 m.t,.int .i64 m.s,.int .i64 m.br,.int .i64 m.bs,.int .i64 m.hr,.int .i64 m.hs,.bool m.so,.slice m.A m.n m.c]:=hBx.drew.upd P2 hHf
     have UW:Upd M.fp M2.fp w wc:=((U0'.trans UX).drew.up M.fp).trans P2
     have HRp:=Lib.hid (show R=if Site.most r2.vt r2.bal M.n=true then (M2.pl.decide_ m.s r2.v.b).others (Site.tells m.s r2.v.b) M.n else M2.pl by
      rw [←HR.out,hM2p];unfold Site.accepted;rw [hpl]
      simp only [Option.map_some]
      rw [if_pos ⟨HBB.out,hso⟩]
      rw [←hr2]
      rfl)
     have hHl:=hBw.lt
     have hH2:H∉M2.fp:=P2.notin hHf hBx.lt
     have HVT:=Lib.hid hvt2
     clear hpl HR hrun g5 f5 s5 s5' hr2 hM2 hx hBx UX P2 h1 h hvt2 a0 a1 a2 a3 a4 a5 a6 a7 a8 a9 hwc hM2p
     obtain ⟨⟨g0,g1,g2,g3,g4,g5,g6⟩,-⟩:=hR2.blk.c7
     rw [hb2] at HRp g0 g1
     rw [hg2] at g0 g1 g2 g3 g4 g5 g6
     clear hv2
     have C4:=propDecided wc.drew r2.VA r2.vc r2.vt ⟨rfl,hR2.vts.rd⟩ r.bal M.n h0ok.n7 hvl2
     obtain ⟨T,hT⟩:∃T,Site.most r2.vt r.bal M.n=T:=⟨_,rfl⟩
     rw [hT] at HRp C4
     have q1:wc.cell? ⟨M.gs,1,none⟩=some (.int .i64 (M.n:Int)):=by have:=P1.blk.cell 1;rw [hgs] at this;rw [this,←hn2];rfl
     simp only [Bl.val] at C4
     repeat' (first|go_values|go_skip|go_guarded|go_step|go_upon|(simp only [];go_at_K))
     go_still_tail 12,(by kernel_rfl)
     change wpList _ _ _ _ _ wc.drew
     repeat' (first|go_values|go_skip|go_guarded|go_step|go_upon|(simp only [];go_at_K))
     ((with_reducible refine C4.mono ?_);rintro e w4 ⟨rfl,hu4⟩)
     have hu4':=(Upd.refl [] wc).drew.trans hu4
     have h4:=P1.upd0 hu4'
     have hR4:=hR2.upd hu4' (by simp)
     have hB4:=hBw.upd hu4' (by simp)
     have U4:Upd M.fp M2.fp w w4:=UW.trans (hu4'.up M2.fp)
     clear C4 hu4 hu4' P1 UW hBw hR2 g0 g1 g2 g3 g4 g5 g6 q1
     cases T with
     | false=>
      repeat' (first|go_values|go_skip|go_guarded|go_step|go_upon|(simp only [];go_at_K))
      refine bodyPost_end (results_none rfl _ _ _) rfl ⟨rfl,M2,h4,?_,hgs,U4⟩
      rw [HRp.out];rfl
     | true=>
      have hslot':0≤m.s∧m.s < 4096:=by omega
      have hbv:=h4.rsByt hm2 (x:=r2.v) (by simp [RnV.bytes])
      have hvf:∀k∈ablk r2.v.A,k∉M2.fp:=h4.bytFar (x:=r2.v) (by simp only [SiteV.bytes,List.mem_append,List.mem_flatMap];exact .inr (.inr (.inl ⟨_,hm2,by simp [RnV.bytes]⟩)))
      have hok4:=h4.ok.rs (m.s,r2.pl) (List.mem_map.2 ⟨_,hm2,rfl⟩)
      have hvl:r2.v.b.length≤2048:=hok4.2.2.1
      have C5:=siteDecide w4.drew M2 h4.drew m.s hslot' r2.v.A r2.v.n r2.v.c r2.v.b hbv.1.rd hvl
      obtain ⟨⟨g0,g1,g2,g3,g4,g5,g6⟩,-⟩:=hR4.blk.c7
      obtain ⟨⟨b0,b1,b2,b3,b4,b5,b6,b7,b8,b9⟩,-⟩:=hB4.c10
      simp only [SiteV.ptr,hgs] at C5
      simp only [Bsl.val,hg2] at g4
      repeat' (first|go_values|go_skip|go_guarded|go_step|go_upon|(simp only [];go_at_K))
      go_still_tail 7,(by kernel_rfl)
      change wpList _ _ _ _ _ w4.drew
      repeat' (first|go_values|go_skip|go_guarded|go_step|go_upon|(simp only [];go_at_K))
      ((with_reducible refine C5.mono ?_);rintro e w5 ⟨rfl,⟨M3,h5,hp3,hg3,U35⟩,hu5⟩)
      have hX45:∀k∈[M2.bl,M2.br],tagW w4.drew k=some none:=by
       intro k hk
       simp only [List.mem_cons,List.not_mem_nil,or_false] at hk
       rcases hk with rfl | rfl
       ·exact h4.drew.tb
       ·exact h4.drew.tr
      have hR5:=hR4.blk.drew.upd hu5 (tag_off hR4.blk.drew.tag hX45 (by decide))
      have hB5:=hB4.drew.upd hu5 (tag_off hB4.drew.tag hX45 (by decide))
      have hbv5:=(hbv.1.upd0 (Upd.refl [] w4).drew).upd hu5 (tag_offs (hbv.1.upd0 (Upd.refl [] w4).drew).tag hX45 (by decide))
      have hvf3:∀k∈ablk r2.v.A,k∉M3.fp:=fun k hk=>U35.notin (hvf k hk) (tag_lt (hbv.1.tag k hk))
      have hg3':M3.gs=M.gs:=hg3.trans hgs
      have hn3:M3.n=M.n:=by
       have:=congrArg Site.n hp3
       have e2:(M2.pl.decide_ m.s r2.v.b).n=M2.n:=by unfold Site.decide_;split <;> rfl
       rw [e2,hn2] at this;exact this
      have hheld:M3.held.length≤900000000:=by
       have:=congrArg (fun t:Site=>t.held.length) hp3
       have e2:(M2.pl.decide_ m.s r2.v.b).held=M2.pl.held:=by unfold Site.decide_;split <;> rfl
       simp only [e2] at this
       rw [SiteV.held_len,SiteV.held_len,hh2] at this
       omega
      have C6:=siteTells w5.drew m.s r2.v.A r2.v.n r2.v.c r2.v.b
      have C7:=fun (w6:World) (hu6:Upd [] [] w5.drew w6)=>siteOthers w6 M3 (h5.drew.upd0 hu6) ⟨7,0,0,m.s,0,0,0,0,true,r2.v.A,r2.v.n,r2.v.c,r2.v.b⟩ (Site.tells_fit hslot' hvl) ((hbv5.upd0 (Upd.refl [] w5).drew).upd0 hu6).rd hvf3 hheld
      obtain ⟨⟨p0,p1,p2,p3,p4,p5,p6⟩,-⟩:=hR5.c7
      obtain ⟨⟨d0,d1,d2,d3,d4,d5,d6,d7,d8,d9⟩,-⟩:=hB5.c10
      rw [hg2] at p0 p1 p2 p3 p4 p5 p6
      simp only [Bsl.val] at p4
      obtain ⟨tv,htv⟩:∃tv,Mv.val ⟨7,0,0,m.s,0,0,0,0,true,r2.v.A,r2.v.n,r2.v.c,r2.v.b⟩=tv:=⟨_,rfl⟩
      rw [htv] at C6
      simp only [htv,SiteV.ptr,hg3'] at C7
      clear C5 g0 g1 g2 g3 g4 g5 g6 b0 b1 b2 b3 b4 b5 b6 b7 b8 b9 hR4 hB4 hR5 hB5 htv hX45
      repeat' (first|go_values|go_skip|go_guarded|go_step|go_upon|(simp only [];go_at_K))
      go_region_with (first
       | (go_at_call 118;(with_reducible refine C6.mono ?_);rintro e w6 ⟨rfl,hu6⟩;have t0:=hu6.cell d3 (by simp);have t1:=hu6.cell p4 (by simp))
       | (go_at_call 62;(with_reducible refine (C7 w6 hu6).mono ?_);rintro e w7 ⟨rfl,M4,h7,hp7,hg7,-,U7⟩))
      all_goals (repeat' ((fail_if_success (with_reducible refine stop_append rfl ?_));first | go_values | go_skip | go_guarded | go_step | go_upon | (simp only [];go_at_K)))
      all_goals refine bodyPost_end (results_none rfl _ _ _) rfl ⟨rfl,M4,h7,?_,hg7.trans hg3',?_⟩
      all_goals first
       | (rw [hp7,HRp.out,hp3,hn3];rfl)
       | exact (((U4.trans ((Upd.refl M2.fp w4).drew)).trans U35).trans ((((Upd.refl [] w5).drew.trans hu6)).up M3.fp)).trans U7
  ·have e2:((r.bal.r == m.br) && (r.bal.s == m.bs))=false:=by
    rw [Bool.and_eq_false_iff]
    by_cases h1:r.bal.r=m.br
    ·right
     have:r.bal.s≠m.bs:=fun h2=>hb (by rw [←h1,←h2])
     simp [this]
    ·left;simp [h1]
   rw [e2] at E1
   simp only [Bool.not_false] at E1
   have hRM:R=M.pl:=by
    rw [←HR.out];unfold Site.accepted;rw [hpl]
    exact if_neg (fun hc=>hb hc.1)
   have K:=Lib.hid (fun N N'=>STAY ((W.drewN N).drewN N') (((Upd.refl [] W).drewN N).drewN N') hRM)
   clear STAY hpl hb e2
   go_enter Tryz.func196,Tryz.ntmps196
   repeat' (first|go_values|go_skip|go_guarded|go_step|go_upon|(simp only [];go_at_K))
   go_quiet (fail)
   repeat' (first|go_values|go_skip|go_guarded|go_step|go_upon|(simp only [];go_at_K))
   go_quiet (fail)
   repeat' (first|go_values|go_skip|go_guarded|go_step|go_upon|(simp only [];go_at_K))
   exact bodyPost_ret (v:=.tuple #[]) (results_none rfl _ _ _) rfl ⟨rfl,K.out _ _⟩
end Go.Proofs.YtijhlbeipglieaaGreat
namespace Go.Proofs.YtijhlbeipglieaaGreat
open Go.RowKit Agio Go.Maps
def handK:KV:=[(1,(.func (.func 191) #[] #[])),(2,(.func (.func 192) #[] #[])),(3,(.func (.func 193) #[] #[])),(4,(.func (.func 194) #[] #[])),(5,(.func (.func 195) #[] #[])),(6,(.func (.func 196) #[] #[])),(7,(.func (.func 197) #[] #[])),(8,(.func (.func 198) #[] #[]))]
theorem siteHandlers (w:World):Calls Tryz.prog 119 #[] w fun e w'=>∃b,e= .returned (.map (some b))∧MapI Tryz.prog 3 w' b handK∧Upd [] [b] w w':=by
 have hmm:=@run_makeMap Tryz.prog
 have m0:=MapI.made Tryz.prog 3 w
 have U0:Upd [] [w.heap.size] w (w.alloc (.map #[] 0)):=((Upd.refl [] w).alloc _).gives (by simp)
 obtain ⟨w1,r1,m1',u1⟩:=m0.store Tryz.underlying3 Tryz.underlying200 (by simp [maxLen]) (x:=1) (by decide) (.func (.func 191) #[] #[])
 have m1:MapI Tryz.prog 3 w1 w.heap.size [(1,(.func (.func 191) #[] #[]))]:=by have e:putK 1 (.func (.func 191) #[] #[]) []= [(1,(.func (.func 191) #[] #[]))]:=(by simp [putK,delK,insK]);rw [←e];exact m1'
 have U1:=U0.trans u1
 clear m0 m1' U0 u1
 obtain ⟨w2,r2,m2',u2⟩:=m1.store Tryz.underlying3 Tryz.underlying200 (by simp [maxLen]) (x:=2) (by decide) (.func (.func 192) #[] #[])
 have m2:MapI Tryz.prog 3 w2 w.heap.size [(1,(.func (.func 191) #[] #[])),(2,(.func (.func 192) #[] #[]))]:=by have e:putK 2 (.func (.func 192) #[] #[]) [(1,(.func (.func 191) #[] #[]))]= [(1,(.func (.func 191) #[] #[])),(2,(.func (.func 192) #[] #[]))]:=(by simp [putK,delK,insK]);rw [←e];exact m2'
 have U2:=U1.trans u2
 clear m1 m2' U1 u2
 obtain ⟨w3,r3,m3',u3⟩:=m2.store Tryz.underlying3 Tryz.underlying200 (by simp [maxLen]) (x:=3) (by decide) (.func (.func 193) #[] #[])
 have m3:MapI Tryz.prog 3 w3 w.heap.size [(1,(.func (.func 191) #[] #[])),(2,(.func (.func 192) #[] #[])),(3,(.func (.func 193) #[] #[]))]:=by have e:putK 3 (.func (.func 193) #[] #[]) [(1,(.func (.func 191) #[] #[])),(2,(.func (.func 192) #[] #[]))]= [(1,(.func (.func 191) #[] #[])),(2,(.func (.func 192) #[] #[])),(3,(.func (.func 193) #[] #[]))]:=(by simp [putK,delK,insK]);rw [←e];exact m3'
 have U3:=U2.trans u3
 clear m2 m3' U2 u3
 obtain ⟨w4,r4,m4',u4⟩:=m3.store Tryz.underlying3 Tryz.underlying200 (by simp [maxLen]) (x:=4) (by decide) (.func (.func 194) #[] #[])
 have m4:MapI Tryz.prog 3 w4 w.heap.size [(1,(.func (.func 191) #[] #[])),(2,(.func (.func 192) #[] #[])),(3,(.func (.func 193) #[] #[])),(4,(.func (.func 194) #[] #[]))]:=by have e:putK 4 (.func (.func 194) #[] #[]) [(1,(.func (.func 191) #[] #[])),(2,(.func (.func 192) #[] #[])),(3,(.func (.func 193) #[] #[]))]= [(1,(.func (.func 191) #[] #[])),(2,(.func (.func 192) #[] #[])),(3,(.func (.func 193) #[] #[])),(4,(.func (.func 194) #[] #[]))]:=(by simp [putK,delK,insK]);rw [←e];exact m4'
 have U4:=U3.trans u4
 clear m3 m4' U3 u4
 obtain ⟨w5,r5,m5',u5⟩:=m4.store Tryz.underlying3 Tryz.underlying200 (by simp [maxLen]) (x:=5) (by decide) (.func (.func 195) #[] #[])
 have m5:MapI Tryz.prog 3 w5 w.heap.size [(1,(.func (.func 191) #[] #[])),(2,(.func (.func 192) #[] #[])),(3,(.func (.func 193) #[] #[])),(4,(.func (.func 194) #[] #[])),(5,(.func (.func 195) #[] #[]))]:=by have e:putK 5 (.func (.func 195) #[] #[]) [(1,(.func (.func 191) #[] #[])),(2,(.func (.func 192) #[] #[])),(3,(.func (.func 193) #[] #[])),(4,(.func (.func 194) #[] #[]))]= [(1,(.func (.func 191) #[] #[])),(2,(.func (.func 192) #[] #[])),(3,(.func (.func 193) #[] #[])),(4,(.func (.func 194) #[] #[])),(5,(.func (.func 195) #[] #[]))]:=(by simp [putK,delK,insK]);rw [←e];exact m5'
 have U5:=U4.trans u5
 clear m4 m5' U4 u5
 obtain ⟨w6,r6,m6',u6⟩:=m5.store Tryz.underlying3 Tryz.underlying200 (by simp [maxLen]) (x:=6) (by decide) (.func (.func 196) #[] #[])
 have m6:MapI Tryz.prog 3 w6 w.heap.size [(1,(.func (.func 191) #[] #[])),(2,(.func (.func 192) #[] #[])),(3,(.func (.func 193) #[] #[])),(4,(.func (.func 194) #[] #[])),(5,(.func (.func 195) #[] #[])),(6,(.func (.func 196) #[] #[]))]:=by have e:putK 6 (.func (.func 196) #[] #[]) [(1,(.func (.func 191) #[] #[])),(2,(.func (.func 192) #[] #[])),(3,(.func (.func 193) #[] #[])),(4,(.func (.func 194) #[] #[])),(5,(.func (.func 195) #[] #[]))]= [(1,(.func (.func 191) #[] #[])),(2,(.func (.func 192) #[] #[])),(3,(.func (.func 193) #[] #[])),(4,(.func (.func 194) #[] #[])),(5,(.func (.func 195) #[] #[])),(6,(.func (.func 196) #[] #[]))]:=(by simp [putK,delK,insK]);rw [←e];exact m6'
 have U6:=U5.trans u6
 clear m5 m6' U5 u6
 obtain ⟨w7,r7,m7',u7⟩:=m6.store Tryz.underlying3 Tryz.underlying200 (by simp [maxLen]) (x:=7) (by decide) (.func (.func 197) #[] #[])
 have m7:MapI Tryz.prog 3 w7 w.heap.size [(1,(.func (.func 191) #[] #[])),(2,(.func (.func 192) #[] #[])),(3,(.func (.func 193) #[] #[])),(4,(.func (.func 194) #[] #[])),(5,(.func (.func 195) #[] #[])),(6,(.func (.func 196) #[] #[])),(7,(.func (.func 197) #[] #[]))]:=by have e:putK 7 (.func (.func 197) #[] #[]) [(1,(.func (.func 191) #[] #[])),(2,(.func (.func 192) #[] #[])),(3,(.func (.func 193) #[] #[])),(4,(.func (.func 194) #[] #[])),(5,(.func (.func 195) #[] #[])),(6,(.func (.func 196) #[] #[]))]= [(1,(.func (.func 191) #[] #[])),(2,(.func (.func 192) #[] #[])),(3,(.func (.func 193) #[] #[])),(4,(.func (.func 194) #[] #[])),(5,(.func (.func 195) #[] #[])),(6,(.func (.func 196) #[] #[])),(7,(.func (.func 197) #[] #[]))]:=(by simp [putK,delK,insK]);rw [←e];exact m7'
 have U7:=U6.trans u7
 clear m6 m7' U6 u7
 obtain ⟨w8,r8,m8',u8⟩:=m7.store Tryz.underlying3 Tryz.underlying200 (by simp [maxLen]) (x:=8) (by decide) (.func (.func 198) #[] #[])
 have m8:MapI Tryz.prog 3 w8 w.heap.size [(1,(.func (.func 191) #[] #[])),(2,(.func (.func 192) #[] #[])),(3,(.func (.func 193) #[] #[])),(4,(.func (.func 194) #[] #[])),(5,(.func (.func 195) #[] #[])),(6,(.func (.func 196) #[] #[])),(7,(.func (.func 197) #[] #[])),(8,(.func (.func 198) #[] #[]))]:=by have e:putK 8 (.func (.func 198) #[] #[]) [(1,(.func (.func 191) #[] #[])),(2,(.func (.func 192) #[] #[])),(3,(.func (.func 193) #[] #[])),(4,(.func (.func 194) #[] #[])),(5,(.func (.func 195) #[] #[])),(6,(.func (.func 196) #[] #[])),(7,(.func (.func 197) #[] #[]))]= [(1,(.func (.func 191) #[] #[])),(2,(.func (.func 192) #[] #[])),(3,(.func (.func 193) #[] #[])),(4,(.func (.func 194) #[] #[])),(5,(.func (.func 195) #[] #[])),(6,(.func (.func 196) #[] #[])),(7,(.func (.func 197) #[] #[])),(8,(.func (.func 198) #[] #[]))]:=(by simp [putK,delK,insK]);rw [←e];exact m8'
 have U8:=U7.trans u8
 clear m7 m8' U7 u8
 have M:=Lib.hid m8
 clear m8
 go_enter Tryz.func119,Tryz.ntmps119
 repeat' (first|go_values|go_skip|go_guarded|go_step|go_upon|(simp only [];go_at_K))
 go_ret
 exact ⟨_,rfl,M.out,U8⟩
theorem zeroFn (w:World):(zeroValue 199).run Tryz.prog w= .ok .nilFunc w:=Tryz.zeroValue199 w
variable [Ban]
theorem siteTake6 (w:World) (M:SiteV) (h:SiteS w M) (m:Mv) (hk:m.k=6) (hm:m.ms.May) (hl:M.held.length≤900000000) (hvt:∀p∈M.rs,p.2.vt.length≤900000000) :
  Calls Tryz.prog 66 #[M.ptr,m.val] w fun e w'=>e= .returned (.tuple #[])∧Gone w w' M (M.pl.accepted m.ms):=by
 obtain ⟨W,H,eW,hH,hB,U0⟩:=boxes1 w 32 #[.int .i64 m.k,.int .i64 m.f,.int .i64 m.t,.int .i64 m.s,.int .i64 m.br,.int .i64 m.bs,.int .i64 m.hr,.int .i64 m.hs,.bool m.so,.slice m.A m.n m.c]
 have C:=siteHandlers W.drew
 have FIN:=fun (Wx:World) (hU:Upd [] [] W Wx)=>siteAccepted Wx M ((h.upd0 U0).upd0 hU) m hm hl hvt
 have U0':=U0.gives (b':=[]) (by simp)
 have d1:((m.k:Int) == 1)=false:=by rw [hk];decide
 have d3:((m.k:Int) == 3)=false:=by rw [hk];decide
 have d5:((m.k:Int) == 5)=false:=by rw [hk];decide
 have look:∀w1 b,MapI Tryz.prog 3 w1 b handK→(Instr.lookup 200 (.map (some b)) (.int .i64 m.k) false).run Tryz.prog w1= .ok (.func (.func 196) #[] #[]) w1:=fun w1 b hm=>by
  rw [hm.look Tryz.underlying3 Tryz.underlying200 (zeroFn w1) (x:=m.k) (by rw [hk];decide),hk]
  rfl
 have HL:=Lib.hid look
 have neF:∀w1:World,(binOp .neq 199 (.func (.func 196) #[] #[]) .nilFunc).run Tryz.prog w1= .ok (.bool true) w1:=fun w1=>by kernel_rfl
 obtain ⟨⟨a0,a1,a2,a3,a4,a5,a6,a7,a8,a9⟩,-⟩:=hB.c10
 clear hk look hm hl hvt
 obtain ⟨S,hS⟩:∃S,M.pl.accepted m.ms=S:=⟨_,rfl⟩
 rw [Mv.val_eq,SiteV.ptr]
 simp only [Mv.val_eq,SiteV.ptr,hS] at FIN ⊢
 go_enter Tryz.func66,Tryz.ntmps66
 repeat' (first|go_values|go_skip|go_guarded|go_step|go_upon|(simp only [];go_at_K))
 go_region_with (first | (go_at_call 119;(with_reducible refine C.mono ?_);rintro e w1 ⟨b,rfl,hmap,hu⟩;have hk1:=HL.out w1 b hmap;have b0:=hu.cell (show W.drew.cell? ⟨H,0,none⟩=some (.int .i64 m.k) from a0) (by simp)))
 all_goals
  have KB:=hB.drew.upd hu (by simp)
  have hUx:Upd [] [] W w1:=((Upd.refl [] W).drew.trans hu).gives (b':=[]) (by simp)
  obtain ⟨⟨c0,c1,c2,c3,c4,c5,c6,c7,c8,c9⟩,-⟩:=KB.c10
  repeat' (first|go_values|go_skip|go_guarded|go_step|go_upon|(simp only [];go_at_K))
  ((with_reducible refine (FIN w1 hUx).mono ?_);rintro e w7 ⟨rfl,M4,h7,hp7,hg7,U7⟩)
  repeat' (first|go_values|go_skip|go_guarded|go_step|go_upon|(simp only [];go_at_K))
  exact bodyPost_end (results_none rfl _ _ _) rfl ⟨rfl,M4,h7,hp7,hg7,((U0'.trans hUx).up M.fp).trans U7⟩
end Go.Proofs.YtijhlbeipglieaaGreat
