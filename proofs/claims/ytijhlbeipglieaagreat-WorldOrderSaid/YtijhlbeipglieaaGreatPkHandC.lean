/- Merged: Hand7, Hand8. -/
import Derived.Test.YtijhlbeipglieaaGreatPkHandB
import Derived.Test.YtijhlbeipglieaaGreatPkSiteQ
set_option linter.all false
set_option maxRecDepth 100000
set_option maxHeartbeats 4000000
namespace Agio
open Go
def Site.Fit (s:Site):Prop:=∀x,(s.stat x).so=true∨(s.stat x).at_=⟨0,0⟩∧(s.stat x).b= []
def Site.Lean_ (s:Site):Prop:=s.held.length≤500000000∧∀p∈s.rs,p.2.vt.length≤900000000∧p.2.pr.length≤900000000
end Agio
namespace Go.Proofs.YtijhlbeipglieaaGreat
open Go.RowKit Agio Go.Maps
def Qt (s:Site) (_:Ms):Prop:=s.Fit∧s.Lean_
variable [Ban]
theorem handlerOf (w:World) (M:SiteV) (h:SiteS w M) (m:Mv) (hq:Qt M.pl m.ms) (hm:m.ms.May) (hb:BytS w m.sl) (hfar:∀k∈ablk m.A,k∉M.fp) (hbn:∀k∈ablk m.A,k∉(Ban.X:List Nat)) :
  ∃fid,(fid=191∨fid=192∨fid=193∨fid=194∨fid=195∨fid=196∨fid=197∨fid=198)∧lookK m.k handK=some (.func (.func fid) #[] #[])∧∀(Wx:World),Upd [] [] w Wx→Calls Tryz.prog fid #[M.ptr,m.val] Wx fun e w'=>e= .returned (.tuple #[])∧Gone Wx w' M (M.pl.does m.ms):=by
 obtain ⟨hf,hl,hrs⟩:=hq
 have hl2:M.held.length≤500000000:=by rw [←SiteV.held_len];exact hl
 have hvt:∀p∈M.rs,p.2.vt.length≤900000000:=fun p hp=>(hrs (p.1,p.2.pl) (List.mem_map.2 ⟨p,hp,rfl⟩)).1
 have hpr:∀p∈M.rs,p.2.pr.length≤900000000:=fun p hp=>by
  have:=(hrs (p.1,p.2.pl) (List.mem_map.2 ⟨p,hp,rfl⟩)).2
  simpa [RnV.pl] using this
 have hkind:1≤m.k∧m.k≤8:=hm.kind
 have hd:∀k:Int,m.k=k→m.ms.kind=k:=fun k e=>e
 rcases (show m.k=1∨m.k=2∨m.k=3∨m.k=4∨m.k=5∨m.k=6∨m.k=7∨m.k=8 by omega) with e | e | e | e | e | e | e | e
 ·refine ⟨191,by simp,by rw [e];rfl,fun Wx hu=>?_⟩
  rw [show M.pl.does m.ms=M.pl.suggested m.ms by unfold Site.does;rw [hd _ e];rfl]
  exact siteSuggested Wx M (h.upd0 hu) m hm (hb.upd0 hu) hfar (by omega)
 ·refine ⟨192,by simp,by rw [e];rfl,fun Wx hu=>?_⟩
  rw [show M.pl.does m.ms=M.pl.skipped m.ms by unfold Site.does;rw [hd _ e];rfl]
  exact siteSkipped Wx M (h.upd0 hu) m hm
 ·refine ⟨193,by simp,by rw [e];rfl,fun Wx hu=>?_⟩
  rw [show M.pl.does m.ms=M.pl.prepared m.ms by unfold Site.does;rw [hd _ e];rfl]
  exact sitePrepared Wx M (h.upd0 hu) m hm (by omega) (hf _)
 ·refine ⟨194,by simp,by rw [e];rfl,fun Wx hu=>?_⟩
  rw [show M.pl.does m.ms=M.pl.promised m.ms by unfold Site.does;rw [hd _ e];rfl]
  exact sitePromised Wx M (h.upd0 hu) m hm (hb.upd0 hu) hfar hbn (by omega) hpr
 ·refine ⟨195,by simp,by rw [e];rfl,fun Wx hu=>?_⟩
  rw [show M.pl.does m.ms=M.pl.asked m.ms by unfold Site.does;rw [hd _ e];rfl]
  exact siteAsked Wx M (h.upd0 hu) m hm (hb.upd0 hu) hfar (by omega)
 ·refine ⟨196,by simp,by rw [e];rfl,fun Wx hu=>?_⟩
  rw [show M.pl.does m.ms=M.pl.accepted m.ms by unfold Site.does;rw [hd _ e];rfl]
  exact siteAccepted Wx M (h.upd0 hu) m hm (by omega) hvt
 ·refine ⟨197,by simp,by rw [e];rfl,fun Wx hu=>?_⟩
  rw [show M.pl.does m.ms=M.pl.learned m.ms by unfold Site.does;rw [hd _ e];rfl]
  exact siteLearned Wx M (h.upd0 hu) m hm (hb.upd0 hu)
 ·refine ⟨198,by simp,by rw [e];rfl,fun Wx hu=>?_⟩
  rw [show M.pl.does m.ms=M.pl.wanted m.ms by unfold Site.does;rw [hd _ e];rfl]
  exact siteWanted Wx M (h.upd0 hu) m hm (by omega)
theorem takeA (w:World) (M:SiteV) (h:SiteS w M) (m:Mv) (hq:Qt M.pl m.ms) (hm:m.ms.May) (hb:BytS w m.sl) (hfar:∀k∈ablk m.A,k∉M.fp) (hbn:∀k∈ablk m.A,k∉(Ban.X:List Nat)) (h1:m.k≠1) (h3:m.k≠3) (h5:m.k≠5) :
  Calls Tryz.prog 66 #[M.ptr,m.val] w fun e w'=>e= .returned (.tuple #[])∧Gone w w' M (M.pl.take m.ms):=by
 obtain ⟨W,H,eW,hH,hB,U0⟩:=boxes1 w 32 #[.int .i64 m.k,.int .i64 m.f,.int .i64 m.t,.int .i64 m.s,.int .i64 m.br,.int .i64 m.bs,.int .i64 m.hr,.int .i64 m.hs,.bool m.so,.slice m.A m.n m.c]
 have C:=siteHandlers W.drew
 have U0':=U0.gives (b':=[]) (by simp)
 obtain ⟨fid,hfid,hlk,FIN⟩:=handlerOf W M (h.upd0 U0) m hq hm (hb.upd0 U0) hfar hbn
 have d1:((m.k:Int) == 1)=false:=beq_false_of_ne h1
 have d3:((m.k:Int) == 3)=false:=beq_false_of_ne h3
 have d5:((m.k:Int) == 5)=false:=beq_false_of_ne h5
 have hkr:1≤m.k∧m.k≤8:=hm.kind
 have look:∀w1 b,MapI Tryz.prog 3 w1 b handK→(Instr.lookup 200 (.map (some b)) (.int .i64 m.k) false).run Tryz.prog w1= .ok (.func (.func fid) #[] #[]) w1:=fun w1 b hm=>by
  rw [hm.look Tryz.underlying3 Tryz.underlying200 (zeroFn w1) (x:=m.k) (wfI (by omega) (by omega)),hlk]
  rfl
 have HL:=Lib.hid look
 have neF:∀w1:World,(binOp .neq 199 (.func (.func fid) #[] #[]) .nilFunc).run Tryz.prog w1= .ok (.bool true) w1:=fun w1=>by kernel_rfl
 obtain ⟨⟨a0,a1,a2,a3,a4,a5,a6,a7,a8,a9⟩,-⟩:=hB.c10
 have hS:M.pl.take m.ms=M.pl.does m.ms:=by
  unfold Site.take
  rw [if_neg]
  rintro (e | e | e)
  ·exact h1 e
  ·exact h3 e
  ·exact h5 e
 rw [hS]
 clear hS look hm hq hlk h1 h3 h5 hkr hb hfar
 obtain ⟨S,hS⟩:∃S,M.pl.does m.ms=S:=⟨_,rfl⟩
 rw [Mv.val_eq,SiteV.ptr]
 simp only [Mv.val_eq,SiteV.ptr,hS] at FIN ⊢
 rcases hfid with rfl | rfl | rfl | rfl | rfl | rfl | rfl | rfl
 all_goals
  go_enter Tryz.func66,Tryz.ntmps66
  repeat' (first|go_values|go_skip|go_guarded|go_step|go_upon|(simp only [];go_at_K))
  go_region_with (first | (go_at_call 119;(with_reducible refine C.mono ?_);rintro e w1 ⟨b,rfl,hmap,hu⟩;have hk1:=HL.out w1 b hmap;have b0:=hu.cell (show W.drew.cell? ⟨H,0,none⟩=some (.int .i64 m.k) from a0) (by simp)))
  all_goals
   have KB:=hB.drew.upd hu (by simp)
   have hUx:Upd [] [] W w1:=((Upd.refl [] W).drew.trans hu).gives (b':=[]) (by simp)
   obtain ⟨⟨c0,c1,c2,c3,c4,c5,c6,c7,c8,c9⟩,-⟩:=KB.c10
   repeat' (first|go_values|go_skip|go_guarded|go_step|go_upon|(simp only [];go_at_K))
   ((with_reducible refine (FIN w1 hUx).mono ?_);rintro e w7 ⟨rfl,M4,h7,hp7,hg7,U7⟩)
   repeat' (first|go_values|go_skip|go_guarded|go_step|go_upon|(simp only [];go_at_K))
   exact bodyPost_end (results_none rfl _ _ _) rfl ⟨rfl,M4,h7,hp7,hg7,((U0'.trans hUx).up M.fp).trans U7⟩
end Go.Proofs.YtijhlbeipglieaaGreat
namespace Go.Proofs.YtijhlbeipglieaaGreat
open Go.RowKit Agio Go.Maps
def takeR (DV:Option (List UInt8)) (a:List UInt8→Site) (b:Site):Site:=match DV with | some v=>a v | none=>b
variable [Ban]
theorem takeB (w:World) (M:SiteV) (h:SiteS w M) (m:Mv) (hq:Qt M.pl m.ms) (hm:m.ms.May) (hb:BytS w m.sl) (hfar:∀k∈ablk m.A,k∉M.fp) (hbn:∀k∈ablk m.A,k∉(Ban.X:List Nat)) (hk:m.k=1∨m.k=3∨m.k=5) :
  Calls Tryz.prog 66 #[M.ptr,m.val] w fun e w'=>e= .returned (.tuple #[])∧Gone w w' M (M.pl.take m.ms):=by
 obtain ⟨W,H,eW,hH,hB,U0⟩:=boxes1 w 32 #[.int .i64 m.k,.int .i64 m.f,.int .i64 m.t,.int .i64 m.s,.int .i64 m.br,.int .i64 m.bs,.int .i64 m.hr,.int .i64 m.hs,.bool m.so,.slice m.A m.n m.c]
 have hW:=h.upd0 U0
 have U0':=U0.gives (b':=[]) (by simp)
 have hslot:0≤m.s∧m.s≤4095:=hm.slot
 have hfrm:0≤m.f∧m.f≤6:=hm.frm
 have hwf:(Lit.int .i64 m.s).wf=true:=wfI (by omega) (by omega)
 have hkr:1≤m.k∧m.k≤8:=hm.kind
 have hl:M.held.length≤500000000:=by rw [←SiteV.held_len];exact hq.2.1
 have C1:=learnGet W.drew M.gl M.bl M.lv M.taken hW.drew.lrn hW.drew.lvRd m.s hwf
 have hdp:=SiteV.dec_pl M m.s
 rw [←hdp,show (lookG m.s M.lv).isSome=(M.pl.dec m.s).isSome by rw [hdp,Option.isSome_map]] at C1
 obtain ⟨DV,hDV⟩:∃DV,M.pl.dec m.s=DV:=⟨_,rfl⟩
 have hlen:∀v,DV=some v→v.length≤2048:=fun v hv=>by
  rw [←hDV,hdp] at hv
  cases hq:lookG m.s M.lv with
  | none=>rw [hq] at hv;cases hv
  | some z=>
   rw [hq] at hv
   injection hv with hv
   rw [←hv]
   exact (h.lrn.keys _ (lookG_some hq)).2.2
 rw [hDV] at C1
 obtain ⟨fid,-,hlk,FIN⟩:=handlerOf W M hW m hq hm (hb.upd0 U0) hfar hbn
 have q7:W.drew.cell? ⟨M.gs,7,none⟩=some (.pointer (some ⟨M.gl,0,none⟩)):=hW.blk.cell 7
 have a3d:W.drew.cell? ⟨H,3,none⟩=some (.int .i64 m.s):=hB.cell 3
 have hfl:=h.lt
 obtain ⟨R,hR⟩:∃R,M.pl.take m.ms=R:=⟨_,rfl⟩
 have HR:=Lib.hid (show R=takeR DV (fun v=>M.pl.send m.f (Site.tells m.s v)) (M.pl.does m.ms) by
  rw [←hR]
  unfold Site.take takeR
  rw [if_pos (show m.ms.kind=1∨m.ms.kind=3∨m.ms.kind=5 from hk),show M.pl.dec m.ms.slot=DV from hDV]
  cases DV <;> rfl)
 rw [hR]
 clear hR hdp hDV hq hm hb hfar
 obtain ⟨S,hS⟩:∃S,M.pl.does m.ms=S:=⟨_,rfl⟩
 rw [hS] at HR
 simp only [Mv.val_eq,SiteV.ptr,hS] at FIN
 rw [Mv.val_eq,SiteV.ptr]
 clear hS
 obtain ⟨⟨a0,a1,a2,a3,a4,a5,a6,a7,a8,a9⟩,-⟩:=hB.c10
 have look:∀w1 b,MapI Tryz.prog 3 w1 b handK→(Instr.lookup 200 (.map (some b)) (.int .i64 m.k) false).run Tryz.prog w1= .ok (.func (.func fid) #[] #[]) w1:=fun w1 b hm=>by
  rw [hm.look Tryz.underlying3 Tryz.underlying200 (zeroFn w1) (x:=m.k) (wfI (by omega) (by omega)),hlk]
  rfl
 have HL:=Lib.hid look
 have neF:∀w1:World,(binOp .neq 199 (.func (.func fid) #[] #[]) .nilFunc).run Tryz.prog w1= .ok (.bool true) w1:=fun w1=>by kernel_rfl
 clear look
 have hfid:(m.k=1∧fid=191)∨(m.k=3∧fid=193)∨(m.k=5∧fid=195):=by
  rcases hk with e | e | e
  ·rw [e] at hlk
   have h2:some (Value.func (.func 191) #[] #[])=some (Value.func (.func fid) #[] #[]):=hlk
   injection h2 with h2;injection h2 with h2;injection h2 with h2
   exact .inl ⟨e,h2.symm⟩
  ·rw [e] at hlk
   have h2:some (Value.func (.func 193) #[] #[])=some (Value.func (.func fid) #[] #[]):=hlk
   injection h2 with h2;injection h2 with h2;injection h2 with h2
   exact .inr (.inl ⟨e,h2.symm⟩)
  ·rw [e] at hlk
   have h2:some (Value.func (.func 195) #[] #[])=some (Value.func (.func fid) #[] #[]):=hlk
   injection h2 with h2;injection h2 with h2;injection h2 with h2
   exact .inr (.inr ⟨e,h2.symm⟩)
 clear hk hlk hkr
 obtain ⟨kk,hkk⟩:∃kk,m.k=kk:=⟨_,rfl⟩
 rw [hkk] at hfid a0 hB eW
 simp only [hkk] at FIN HL
 rw [hkk]
 clear hkk
 rcases hfid with ⟨rfl,rfl⟩ | ⟨rfl,rfl⟩ | ⟨rfl,rfl⟩
 all_goals
  go_enter Tryz.func66,Tryz.ntmps66
  repeat' (first|go_values|go_skip|go_guarded|go_step|go_upon|(simp only [];go_at_K))
  go_cut [4,5] from 15 (fun s4 s5 wc=>∃(A n:_) (c:Nat),s4= .slice A n c∧s5= .bool DV.isSome∧OwnB 5 wc A n c (DV.getD [])∧(∀x∈ablk A,W.heap.size≤x)∧Upd [] [] W wc)
  case first=>
   clear HR FIN HL neF hlen
   go_region_held3 (fun w'=>w'.cell? ⟨M.gs,7,none⟩=some (.pointer (some ⟨M.gl,0,none⟩))∧w'.cell? ⟨H,3,none⟩=some (.int .i64 m.s)) (first | exact ⟨q7,a3d⟩ | exact ⟨q7b,a3b⟩)
    (first
     | (go_at_call 93;(with_reducible refine C1.mono ?_);rintro e w1 ⟨A1,n1,c1,rfl,ho1,hu1⟩;have q7b:=hu1.cell q7 (by simp);have a3b:=hu1.cell a3d (by simp)))
   all_goals (repeat' (first | go_values | go_skip | go_guarded | go_step | go_upon | (simp only [];go_at_K)))
   all_goals go_meet
   all_goals exact ⟨A1,n1,c1,rfl,rfl,ho1,(Upd.refl [] W).drew.new hu1,((Upd.refl [] W).drew.trans hu1).gives (by simp)⟩
  case rest=>
   obtain ⟨A1,n1,c1,rfl,rfl,ho1,hA1,U1⟩:=hcut
   have h2:=hW.upd0 U1
   have hB2:=hB.upd U1 (by simp)
   have UX:=U0'.trans U1
   clear C1 q7 a3d a0 a1 a2 a3 a4 a5 a6 a7 a8 a9
   cases DV with
   | some v=>
    have HRS:=Lib.hid (show R=M.pl.send m.f (Site.tells m.s v) from HR.out)
    have hvl:=hlen v rfl
    obtain ⟨⟨a0,a1,a2,a3,a4,a5,a6,a7,a8,a9⟩,-⟩:=hB2.drew.c10
    have C8:=siteTells wc.drew m.s A1 n1 c1 v
    have C9:=fun (w8:World) (hu:Upd [] [] wc.drew w8)=>siteSend w8 M (h2.drew.upd0 hu) m.f ⟨7,0,0,m.s,0,0,0,0,true,A1,n1,c1,v⟩ (Site.tells_fit (x:=m.s) (v:=v) (by omega) hvl) hfrm ((RdB.upd (show RdB wc.drew A1 n1 v from ho1.rd) hu (by simp))) (by omega)
    have hms:Mv.ms ⟨7,0,0,m.s,0,0,0,0,true,A1,n1,c1,v⟩=Site.tells m.s v:=rfl
    obtain ⟨tv,htv⟩:∃tv,Mv.val ⟨7,0,0,m.s,0,0,0,0,true,A1,n1,c1,v⟩=tv:=⟨_,rfl⟩
    rw [htv] at C8
    simp only [hms,htv,SiteV.ptr] at C9
    clear hms htv FIN HL neF HR
    repeat' (first|go_values|go_skip|go_guarded|go_step|go_upon|(simp only [];go_at_K))
    go_region_with (first
     | (go_at_call 118;(with_reducible refine C8.mono ?_);rintro e w8 ⟨rfl,hu8⟩;have e1b:=hu8.cell a1 (by simp))
     | (go_at_call 64;(with_reducible refine (C9 w8 hu8).mono ?_);rintro e w9 ⟨rfl,M9,h9,hp9,hg9,-,U9⟩))
    all_goals (repeat' (first | go_values | go_skip | go_guarded | go_step | go_upon | (simp only [];go_at_K)))
    all_goals exact bodyPost_ret (v:=.tuple #[]) (results_none rfl _ _ _) rfl ⟨rfl,M9,h9,hp9.trans HRS.out.symm,hg9,((UX.drew.trans hu8).up M.fp).trans U9⟩
   | none=>
    have HRN:=Lib.hid (show R=S from HR.out)
    have C:=siteHandlers wc.drew
    obtain ⟨⟨a0,a1,a2,a3,a4,a5,a6,a7,a8,a9⟩,-⟩:=hB2.c10
    have a0d:=hB2.drew.cell 0
    clear HR hlen
    repeat' (first|go_values|go_skip|go_guarded|go_step|go_upon|(simp only [];go_at_K))
    go_region_with (first | (go_at_call 119;(with_reducible refine C.mono ?_);rintro e w1 ⟨b,rfl,hmap,hu⟩;have hk1:=HL.out w1 b hmap;have b0:=hu.cell a0d (by simp)))
    all_goals
     have KB:=hB2.drew.upd hu (by simp)
     have hUx:Upd [] [] W w1:=(U1.drew.trans hu).gives (b':=[]) (by simp)
     obtain ⟨⟨c0,c1',c2,c3,c4,c5,c6,c7,c8,c9⟩,-⟩:=KB.c10
     repeat' (first|go_values|go_skip|go_guarded|go_step|go_upon|(simp only [];go_at_K))
     ((with_reducible refine (FIN w1 hUx).mono ?_);rintro e w7 ⟨rfl,M4,h7,hp7,hg7,U7⟩)
     repeat' (first|go_values|go_skip|go_guarded|go_step|go_upon|(simp only [];go_at_K))
     exact bodyPost_end (results_none rfl _ _ _) rfl ⟨rfl,M4,h7,hp7.trans HRN.out.symm,hg7,((U0'.trans hUx).up M.fp).trans U7⟩
theorem takeC:TakeC Qt:=fun w M m h hq hm hb hfar hbn=>by
 by_cases hk:m.k=1∨m.k=3∨m.k=5
 ·exact takeB w M h m hq hm hb hfar hbn hk
 ·exact takeA w M h m hq hm hb hfar hbn (fun e=>hk (.inl e)) (fun e=>hk (.inr (.inl e))) (fun e=>hk (.inr (.inr e)))
end Go.Proofs.YtijhlbeipglieaaGreat
