/- Merged: Hand1, Hand2, Hand3. -/
import Derived.Test.YtijhlbeipglieaaGreatPkSiteV
set_option linter.all false
set_option maxRecDepth 100000
set_option maxHeartbeats 4000000
namespace Go.Proofs.YtijhlbeipglieaaGreat
open Go.RowKit Agio Go.Maps
theorem wrapBal (m:Mv) (hm:m.ms.May):m.ms.bal.may 7=true:=Bl.may7.2 ⟨hm.bround,hm.bsite⟩
variable [Ban]
theorem siteLearned (w:World) (M:SiteV) (h:SiteS w M) (m:Mv) (hm:m.ms.May) (hb:BytS w m.sl) :
  Calls Tryz.prog 197 #[M.ptr,m.val] w fun e w'=>e= .returned (.tuple #[])∧Gone w w' M (M.pl.learned m.ms):=by
 obtain ⟨W,H,eW,hH,hB,U0⟩:=boxes1 w 32 #[.int .i64 m.k,.int .i64 m.f,.int .i64 m.t,.int .i64 m.s,.int .i64 m.br,.int .i64 m.bs,.int .i64 m.hr,.int .i64 m.hs,.bool m.so,.slice m.A m.n m.c]
 have h1:=h.upd0 U0
 have U0':=U0.gives (b':=[]) (by simp)
 have hslot:0≤m.s∧m.s≤4095:=hm.slot
 have C:=siteDecide W M h1 m.s (by omega) m.A m.n m.c m.b (hb.upd0 U0).rd hm.val
 obtain ⟨R,hR⟩:∃R,M.pl.learned m.ms=R:=⟨_,rfl⟩
 have HR:=Lib.hid hR
 rw [hR]
 clear hR
 obtain ⟨⟨a0,a1,a2,a3,a4,a5,a6,a7,a8,a9⟩,-⟩:=hB.c10
 rw [SiteV.ptr,Mv.val_eq]
 rw [SiteV.ptr] at C
 cases hso:m.so with
 | false=>
  have hRM:R=M.pl:=by rw [←HR.out];unfold Site.learned;rw [if_neg (by show ¬ m.so=true;rw [hso];simp)]
  have KEY:=Lib.hid (show Gone w W M R from ⟨M,h1,hRM.symm,rfl,U0'.up M.fp⟩)
  rw [hso] at a8
  simp only [hso] at eW
  clear hRM h1 C
  go_enter Tryz.func197,Tryz.ntmps197
  repeat' (first|go_values|go_skip|go_guarded|go_step|go_upon|(simp only [];go_at_K))
  exact bodyPost_end (results_none rfl _ _ _) rfl ⟨rfl,KEY.out⟩
 | true=>
  have hRM:R=M.pl.decide_ m.s m.b:=by rw [←HR.out];unfold Site.learned;exact if_pos (show m.ms.some_=true from hso)
  have HRM:=Lib.hid hRM
  rw [hso] at a8
  simp only [hso] at eW
  clear hRM h1
  go_enter Tryz.func197,Tryz.ntmps197
  repeat' (first|go_values|go_skip|go_guarded|go_step|go_upon|(simp only [];go_at_K))
  ((with_reducible refine C.mono ?_);rintro e w1 ⟨rfl,⟨M1,H1,hp1,hg1,u1⟩,-⟩)
  repeat' (first|go_values|go_skip|go_guarded|go_step|go_upon|(simp only [];go_at_K))
  exact bodyPost_end (results_none rfl _ _ _) rfl ⟨rfl,M1,H1,hp1.trans HRM.out.symm,hg1,(U0'.up M.fp).trans u1⟩
theorem siteSkipped (w:World) (M:SiteV) (h:SiteS w M) (m:Mv) (hm:m.ms.May) :
  Calls Tryz.prog 192 #[M.ptr,m.val] w fun e w'=>e= .returned (.tuple #[])∧Gone w w' M (M.pl.skipped m.ms):=by
 obtain ⟨W,H,eW,hH,hB,U0⟩:=boxes1 w 32 #[.int .i64 m.k,.int .i64 m.f,.int .i64 m.t,.int .i64 m.s,.int .i64 m.br,.int .i64 m.bs,.int .i64 m.hr,.int .i64 m.hs,.bool m.so,.slice m.A m.n m.c]
 have h1:=h.upd0 U0
 have U0':=U0.gives (b':=[]) (by simp)
 have hslot:0≤m.s∧m.s≤4095:=hm.slot
 obtain ⟨R,hR⟩:∃R,M.pl.skipped m.ms=R:=⟨_,rfl⟩
 have HR:=Lib.hid (show R=if m.f=ownerI m.s M.n then M.pl.decide_ m.s [] else M.pl from hR.symm)
 rw [hR]
 clear hR
 have a1:∀N,(W.drewN N).cell? ⟨H,1,none⟩=some (.int .i64 m.f):=fun N=>hB.cell 1
 have a3:∀N,(W.drewN N).cell? ⟨H,3,none⟩=some (.int .i64 m.s):=fun N=>hB.cell 3
 have g1:∀N,(W.drewN N).cell? ⟨M.gs,1,none⟩=some (.int .i64 (M.n:Int)):=fun N=>h1.blk.cell 1
 have C:=fun N=>slotsOwner (W.drewN N) m.s M.n
 obtain ⟨o,ho⟩:∃o,ownerI m.s M.n=o:=⟨_,rfl⟩
 rw [ho] at HR
 simp only [ho] at C
 clear ho
 rw [SiteV.ptr,Mv.val_eq]
 go_enter Tryz.func192,Tryz.ntmps192
 repeat' (first|go_values|go_skip|go_guarded|go_step|go_upon|(simp only [];go_at_K))
 by_cases hf:m.f=o
 ·have d1:(m.f == o)=true:=by rw [hf];exact beq_self_eq_true _
  have HRM:=Lib.hid (show R=M.pl.decide_ m.s [] by rw [HR.out,if_pos hf])
  clear hf
  go_quiet (with_reducible exact quiet_eq (C _))
  have u2:=(Upd.refl [] W).drewN nq
  have h2:=h1.upd0 u2
  have C2:=siteDecide (W.drewN nq) M h2 m.s (by omega) none 0 0 [] (RdB.nil _ _) (by simp)
  rw [SiteV.ptr] at C2
  have b3:=a3 nq
  repeat' (first|go_values|go_skip|go_guarded|go_step|go_upon|(simp only [];go_at_K))
  ((with_reducible refine C2.mono ?_);rintro e w1 ⟨rfl,⟨M1,H1,hp1,hg1,u1⟩,-⟩)
  repeat' (first|go_values|go_skip|go_guarded|go_step|go_upon|(simp only [];go_at_K))
  exact bodyPost_end (results_none rfl _ _ _) rfl ⟨rfl,M1,H1,hp1.trans HRM.out.symm,hg1,((U0'.trans u2).up M.fp).trans u1⟩
 ·have d1:(m.f == o)=false:=beq_false_of_ne hf
  have HRM:=Lib.hid (show R=M.pl by rw [HR.out,if_neg hf])
  clear hf
  go_quiet (with_reducible exact quiet_eq (C _))
  have u2:=(Upd.refl [] W).drewN nq
  repeat' (first|go_values|go_skip|go_guarded|go_step|go_upon|(simp only [];go_at_K))
  exact bodyPost_end (results_none rfl _ _ _) rfl ⟨rfl,M,h1.upd0 u2,HRM.out.symm,rfl,(U0'.trans u2).up M.fp⟩
theorem siteAsked (w:World) (M:SiteV) (h:SiteS w M) (m:Mv) (hm:m.ms.May) (hb:BytS w m.sl) (hfar:∀k∈ablk m.A,k∉M.fp) (hl:M.held.length≤900000000) :
  Calls Tryz.prog 195 #[M.ptr,m.val] w fun e w'=>e= .returned (.tuple #[])∧Gone w w' M (M.pl.asked m.ms):=by
 obtain ⟨W,H,eW,hH,hB,U0⟩:=boxes1 w 32 #[.int .i64 m.k,.int .i64 m.f,.int .i64 m.t,.int .i64 m.s,.int .i64 m.br,.int .i64 m.bs,.int .i64 m.hr,.int .i64 m.hs,.bool m.so,.slice m.A m.n m.c]
 have h1:=h.upd0 U0
 have U0':=U0.gives (b':=[]) (by simp)
 have hslot:0≤m.s∧m.s≤4095:=hm.slot
 have hfrm:0≤m.f∧m.f≤6:=hm.frm
 have hHf:H∉M.fp:=fun hk=>by have:=h.lt H hk;omega
 have hbm:=wrapBal m hm
 obtain ⟨R,hR⟩:∃R,M.pl.asked m.ms=R:=⟨_,rfl⟩
 have HR:=Lib.hid (show R=if m.so=true∧1≤m.br∧m.bs=m.f then (match M.pl.accept m.s ⟨m.br,m.bs⟩ m.b with | some t=>t.send m.f (Site.votes m.s ⟨m.br,m.bs⟩) | none=>M.pl) else M.pl from hR.symm)
 rw [hR]
 clear hR
 obtain ⟨⟨a0,a1,a2,a3,a4,a5,a6,a7,a8,a9⟩,-⟩:=hB.c10
 have C:=siteAccept W M h1 m.s (by omega) ⟨m.br,m.bs⟩ hbm m.A m.n m.c m.b (hb.upd0 U0).rd hfar hm.val
 have KEEP:=Lib.hid (show R=M.pl→Gone w W M R from fun e=>⟨M,h1,e.symm,rfl,U0'.up M.fp⟩)
 simp only [SiteV.ptr,Bl.val] at C
 rw [SiteV.ptr,Mv.val_eq]
 obtain ⟨so,hse⟩:∃so,m.so=so:=⟨_,rfl⟩
 rw [hse] at a8 HR hB eW ⊢
 clear hse
 by_cases hso:so=true
 ·subst hso
  have hso:True:=trivial
  by_cases hr1:1≤m.br
  ·have d1:decide (1≤m.br)=true:=decide_eq_true hr1
   by_cases hs:m.bs=m.f
   ·have d2:(m.bs == m.f)=true:=by rw [hs];exact beq_self_eq_true _
    have HR2:=HR.out
    rw [if_pos ⟨rfl,hr1,hs⟩] at HR2
    have HRM:=Lib.hid HR2
    have HS:=Lib.hid hs
    clear hs HR2 h1
    go_enter Tryz.func195,Tryz.ntmps195
    cases hacc:M.pl.accept m.s ⟨m.br,m.bs⟩ m.b with
    | none=>
     rw [hacc] at C
     have hRM:=HRM.out
     rw [hacc] at hRM
     have HRN:=Lib.hid hRM
     clear hRM hacc
     repeat' (first|go_values|go_skip|go_guarded|go_step|go_upon|(simp only [];go_at_K))
     ((with_reducible refine C.mono ?_);rintro e w1 ⟨rfl,M1,H1,hp1,hg1,-,u1⟩)
     repeat' (first|go_values|go_skip|go_guarded|go_step|go_upon|(simp only [];go_at_K))
     exact bodyPost_end (results_none rfl _ _ _) rfl ⟨rfl,M1,H1,hp1.trans HRN.out.symm,hg1,(U0'.up M.fp).trans u1⟩
    | some t=>
     rw [hacc] at C
     have hRM:=HRM.out
     rw [hacc] at hRM
     have HRN:=Lib.hid hRM
     obtain ⟨tm,tn,th,-⟩:=Site.accept_fr hacc
     clear hRM hacc
     repeat' (first|go_values|go_skip|go_guarded|go_step|go_upon|(simp only [];go_at_K))
     ((with_reducible refine C.mono ?_);rintro e w1 ⟨rfl,M1,H1,hp1,hg1,-,u1⟩)
     replace hp1:M1.pl=t:=hp1
     have K1:=hB.upd u1 hHf
     clear a0 a1 a2 a3 a4 a5 a6 a7 a8 a9 C
     obtain ⟨⟨a0,a1,a2,a3,a4,a5,a6,a7,a8,a9⟩,-⟩:=K1.c10
     have l1:M1.held.length≤1000000000:=by have:=congrArg (fun z:Site=>z.held.length) hp1;simp only [SiteV.held_len,th] at this;omega
     have C2:=siteSend w1 M1 H1 m.f ⟨6,0,0,m.s,m.br,m.bs,0,0,false,none,0,0,[]⟩ (Site.votes_fit (x:=m.s) (b:=⟨m.br,m.bs⟩) (by omega) hbm) hfrm (RdB.nil _ _) l1
     rw [hp1] at C2
     simp only [SiteV.ptr,Mv.val_eq,hg1] at C2
     repeat' (first|go_values|go_skip|go_guarded|go_step|go_upon|(simp only [];go_at_K))
     ((with_reducible refine C2.mono ?_);rintro e w2 ⟨rfl,M2,H2,hp2,hg2,-,u2⟩)
     repeat' (first|go_values|go_skip|go_guarded|go_step|go_upon|(simp only [];go_at_K))
     exact bodyPost_end (results_none rfl _ _ _) rfl ⟨rfl,M2,H2,hp2.trans HRN.out.symm,hg2.trans hg1,((U0'.up M.fp).trans u1).trans u2⟩
   ·have d2:(m.bs == m.f)=false:=beq_false_of_ne hs
    have KEY:=Lib.hid (KEEP.out (by rw [HR.out,if_neg (fun hh=>hs hh.2.2)]))
    clear h1 C
    go_enter Tryz.func195,Tryz.ntmps195
    repeat' (first|go_values|go_skip|go_guarded|go_step|go_upon|(simp only [];go_at_K))
    exact bodyPost_end (results_none rfl _ _ _) rfl ⟨rfl,KEY.out⟩
  ·have d1:decide (1≤m.br)=false:=decide_eq_false hr1
   have KEY:=Lib.hid (KEEP.out (by rw [HR.out,if_neg (fun hh=>hr1 hh.2.1)]))
   clear h1 C
   go_enter Tryz.func195,Tryz.ntmps195
   repeat' (first|go_values|go_skip|go_guarded|go_step|go_upon|(simp only [];go_at_K))
   exact bodyPost_end (results_none rfl _ _ _) rfl ⟨rfl,KEY.out⟩
 ·have hsf:so=false:=by simpa using hso
  subst hsf
  have KEY:=Lib.hid (KEEP.out (by rw [HR.out,if_neg (fun hh=>hso hh.1)]))
  clear h1 C
  go_enter Tryz.func195,Tryz.ntmps195
  repeat' (first|go_values|go_skip|go_guarded|go_step|go_upon|(simp only [];go_at_K))
  exact bodyPost_end (results_none rfl _ _ _) rfl ⟨rfl,KEY.out⟩
end Go.Proofs.YtijhlbeipglieaaGreat
namespace Go.Proofs.YtijhlbeipglieaaGreat
open Go.RowKit Agio Go.Maps
variable [Ban]
theorem sitePrepared (w:World) (M:SiteV) (h:SiteS w M) (m:Mv) (hm:m.ms.May) (hl:M.held.length≤900000000)
  (hfit:(M.pl.stat m.s).so=true∨(M.pl.stat m.s).at_=⟨0,0⟩∧(M.pl.stat m.s).b= []) :
  Calls Tryz.prog 193 #[M.ptr,m.val] w fun e w'=>e= .returned (.tuple #[])∧Gone w w' M (M.pl.prepared m.ms):=by
 obtain ⟨W,H,eW,hH,hB,U0⟩:=boxes1 w 32 #[.int .i64 m.k,.int .i64 m.f,.int .i64 m.t,.int .i64 m.s,.int .i64 m.br,.int .i64 m.bs,.int .i64 m.hr,.int .i64 m.hs,.bool m.so,.slice m.A m.n m.c]
 have h1:=h.upd0 U0
 have U0':=U0.gives (b':=[]) (by simp)
 have hslot:0≤m.s∧m.s≤4095:=hm.slot
 have hfrm:0≤m.f∧m.f≤6:=hm.frm
 have hHf:H∉M.fp:=fun hk=>by have:=h.lt H hk;omega
 have hwf:(Lit.int .i64 m.s).wf=true:=wfI (by omega) (by omega)
 have hbm:(⟨m.br,m.bs⟩:Bl).may 7=true:=wrapBal m hm
 obtain ⟨R,hR⟩:∃R,M.pl.prepared m.ms=R:=⟨_,rfl⟩
 have HR:=Lib.hid (show R=if 1≤m.br∧m.bs=m.f then (match M.pl.promise m.s ⟨m.br,m.bs⟩ with | some t=>t.send m.f (t.answer m.s ⟨m.br,m.bs⟩) | none=>M.pl) else M.pl from hR.symm)
 rw [hR]
 clear hR
 obtain ⟨⟨a0,a1,a2,a3,a4,a5,a6,a7,a8,a9⟩,-⟩:=hB.c10
 have C:=sitePromise W M h1 m.s (by omega) ⟨m.br,m.bs⟩ hbm
 have KEEP:=Lib.hid (show R=M.pl→Gone w W M R from fun e=>⟨M,h1,e.symm,rfl,U0'.up M.fp⟩)
 simp only [SiteV.ptr,Bl.val] at C
 rw [SiteV.ptr,Mv.val_eq]
 by_cases hr1:1≤m.br
 ·have d1:decide (1≤m.br)=true:=decide_eq_true hr1
  by_cases hs:m.bs=m.f
  ·have d2:(m.bs == m.f)=true:=by rw [hs];exact beq_self_eq_true _
   have HR2:=HR.out
   rw [if_pos ⟨hr1,hs⟩] at HR2
   have HRM:=Lib.hid HR2
   clear hs HR2 h1
   go_enter Tryz.func193,Tryz.ntmps193
   cases hacc:M.pl.promise m.s ⟨m.br,m.bs⟩ with
   | none=>
    rw [hacc] at C
    have hRM:=HRM.out
    rw [hacc] at hRM
    have HRN:=Lib.hid hRM
    clear hRM hacc
    repeat' (first|go_values|go_skip|go_guarded|go_step|go_upon|(simp only [];go_at_K))
    ((with_reducible refine C.mono ?_);rintro e w1 ⟨rfl,M1,H1,hp1,hg1,-,u1⟩)
    repeat' (first|go_values|go_skip|go_guarded|go_step|go_upon|(simp only [];go_at_K))
    exact bodyPost_end (results_none rfl _ _ _) rfl ⟨rfl,M1,H1,hp1.trans HRN.out.symm,hg1,(U0'.up M.fp).trans u1⟩
   | some t=>
    rw [hacc] at C
    have hRM:=HRM.out
    rw [hacc] at hRM
    have HRN:=Lib.hid hRM
    obtain ⟨tm,tn,th,-,tst⟩:=Site.promise_fr hacc
    clear hRM hacc
    repeat' (first|go_values|go_skip|go_guarded|go_step|go_upon|(simp only [];go_at_K))
    ((with_reducible refine C.mono ?_);rintro e w1 ⟨rfl,M1,H1,hp1,hg1,-,u1⟩)
    replace hp1:M1.pl=t:=hp1
    have K1:=hB.upd u1 hHf
    clear a0 a1 a2 a3 a4 a5 a6 a7 a8 a9 C
    have l1:M1.held.length≤1000000000:=by have:=congrArg (fun z:Site=>z.held.length) hp1;simp only [SiteV.held_len,th] at this;omega
    have hfit4:(M1.ansV m.s ⟨m.br,m.bs⟩).ms.Fit:=by rw [SiteV.ansV_ms];exact Site.answer_fit H1.ok (by omega) hbm (by rw [hp1,tst];exact hfit)
    have C12:=siteAnswer w1.drew M1 H1.drew m.s hwf ⟨m.br,m.bs⟩
    have C13:=fun (w12:World) (hu:Upd [] [] w1.drew w12)=>siteSend w12 M1 (H1.drew.upd0 hu) m.f (M1.ansV m.s ⟨m.br,m.bs⟩) hfit4 hfrm (((H1.drew.upd0 hu).sta_in m.s).1.rd) l1
    have U13:=((U0'.up M.fp).trans u1).drew
    rw [SiteV.ansV_ms] at C13
    obtain ⟨av,hav⟩:∃z,(M1.ansV m.s ⟨m.br,m.bs⟩).val=z:=⟨_,rfl⟩
    rw [hav] at C12
    simp only [hav,SiteV.ptr,hg1,hp1] at C13
    simp only [SiteV.ptr,hg1,Bl.val] at C12
    obtain ⟨⟨a0,a1,a2,a3,a4,a5,a6,a7,a8,a9⟩,-⟩:=K1.drew.c10
    clear hav hfit4 H1 K1 u1
    repeat' (first|go_values|go_skip|go_guarded|go_step|go_upon|(simp only [];go_at_K))
    go_region_with (first
     | (go_at_call 167;(with_reducible refine C12.mono ?_);rintro e w12 ⟨rfl,u12⟩;have b1:=u12.cell a1 (by simp);have b3:=u12.cell a3 (by simp);have b4:=u12.cell a4 (by simp);have b5:=u12.cell a5 (by simp))
     | (go_at_call 64;(with_reducible refine (C13 w12 u12).mono ?_);rintro e w13 ⟨rfl,M5,h13,hp13,hg13,-,u13⟩))
    all_goals (repeat' (first | go_values | go_skip | go_guarded | go_step | go_upon | (simp only [];go_at_K)))
    all_goals exact bodyPost_end (results_none rfl _ _ _) rfl ⟨rfl,M5,h13,hp13.trans HRN.out.symm,hg13.trans hg1,(U13.trans (u12.up M1.fp)).trans u13⟩
  ·have d2:(m.bs == m.f)=false:=beq_false_of_ne hs
   have KEY:=Lib.hid (KEEP.out (by rw [HR.out,if_neg (fun hh=>hs hh.2)]))
   clear h1 C
   go_enter Tryz.func193,Tryz.ntmps193
   repeat' (first|go_values|go_skip|go_guarded|go_step|go_upon|(simp only [];go_at_K))
   exact bodyPost_end (results_none rfl _ _ _) rfl ⟨rfl,KEY.out⟩
 ·have d1:decide (1≤m.br)=false:=decide_eq_false hr1
  have KEY:=Lib.hid (KEEP.out (by rw [HR.out,if_neg (fun hh=>hr1 hh.1)]))
  clear h1 C
  go_enter Tryz.func193,Tryz.ntmps193
  repeat' (first|go_values|go_skip|go_guarded|go_step|go_upon|(simp only [];go_at_K))
  exact bodyPost_end (results_none rfl _ _ _) rfl ⟨rfl,KEY.out⟩
end Go.Proofs.YtijhlbeipglieaaGreat
namespace Go.Proofs.YtijhlbeipglieaaGreat
open Go.RowKit Agio Go.Maps
variable [Ban]
theorem siteSuggested (w:World) (M:SiteV) (h:SiteS w M) (m:Mv) (hm:m.ms.May) (hb:BytS w m.sl) (hfar:∀k∈ablk m.A,k∉M.fp) (hl:M.held.length≤600000000) :
  Calls Tryz.prog 191 #[M.ptr,m.val] w fun e w'=>e= .returned (.tuple #[])∧Gone w w' M (M.pl.suggested m.ms):=by
 obtain ⟨W,H,eW,hH,hB,U0⟩:=boxes1 w 32 #[.int .i64 m.k,.int .i64 m.f,.int .i64 m.t,.int .i64 m.s,.int .i64 m.br,.int .i64 m.bs,.int .i64 m.hr,.int .i64 m.hs,.bool m.so,.slice m.A m.n m.c]
 have h1:=h.upd0 U0
 have U0':=U0.gives (b':=[]) (by simp)
 have hslot:0≤m.s∧m.s≤4095:=hm.slot
 have hfrm:0≤m.f∧m.f≤6:=hm.frm
 have hHf:H∉M.fp:=fun hk=>by have:=h.lt H hk;omega
 have hbm:(⟨m.br,m.bs⟩:Bl).may 7=true:=wrapBal m hm
 obtain ⟨R,hR⟩:∃R,M.pl.suggested m.ms=R:=⟨_,rfl⟩
 have HR:=Lib.hid (show R=if m.so=true∧m.f=ownerI m.s M.n∧(⟨m.br,m.bs⟩:Bl)=⟨0,m.f⟩ then Site.skip (match M.pl.accept m.s ⟨m.br,m.bs⟩ m.b with | some t=>t.send m.f (Site.votes m.s ⟨m.br,m.bs⟩) | none=>M.pl) m.s else M.pl from hR.symm)
 rw [hR]
 clear hR
 have a1:∀N,(W.drewN N).cell? ⟨H,1,none⟩=some (.int .i64 m.f):=fun N=>hB.cell 1
 have a3:∀N,(W.drewN N).cell? ⟨H,3,none⟩=some (.int .i64 m.s):=fun N=>hB.cell 3
 have a4:∀N,(W.drewN N).cell? ⟨H,4,none⟩=some (.int .i64 m.br):=fun N=>hB.cell 4
 have a5:∀N,(W.drewN N).cell? ⟨H,5,none⟩=some (.int .i64 m.bs):=fun N=>hB.cell 5
 have a8:∀N,(W.drewN N).cell? ⟨H,8,none⟩=some (.bool m.so):=fun N=>hB.cell 8
 have g1:∀N,(W.drewN N).cell? ⟨M.gs,1,none⟩=some (.int .i64 (M.n:Int)):=fun N=>h1.blk.cell 1
 have CO:=fun N=>slotsOwner (W.drewN N) m.s M.n
 obtain ⟨o,ho⟩:∃o,ownerI m.s M.n=o:=⟨_,rfl⟩
 rw [ho] at HR
 simp only [ho] at CO
 clear ho
 have E1:=neBal m.br m.bs 0 m.f
 obtain ⟨E,hE⟩:∃E,(!((m.br == 0) && (m.bs == m.f)))=E:=⟨_,rfl⟩
 simp only [hE] at E1
 have HE:=Lib.hid hE
 clear hE
 have KEEP:=Lib.hid (show ∀N,R=M.pl→Gone w (W.drewN N) M R from fun N e=>⟨M,h1.upd0 ((Upd.refl [] W).drewN N),e.symm,rfl,(U0'.drewN N).up M.fp⟩)
 rw [SiteV.ptr,Mv.val_eq]
 obtain ⟨so,hse⟩:∃so,m.so=so:=⟨_,rfl⟩
 simp only [hse] at a8
 rw [hse] at HR hB eW ⊢
 clear hse
 go_enter Tryz.func191,Tryz.ntmps191
 repeat' (first|go_values|go_skip|go_guarded|go_step|go_upon|(simp only [];go_at_K))
 cases so with
 | false=>
  have KEY:=Lib.hid (fun N=>KEEP.out N (by rw [HR.out,if_neg (fun hh=>by cases hh.1)]))
  clear h1
  go_quiet (with_reducible exact quiet_eq (CO _))
  repeat' (first|go_values|go_skip|go_guarded|go_step|go_upon|(simp only [];go_at_K))
  exact bodyPost_ret (v:=.tuple #[]) (results_none rfl _ _ _) rfl ⟨rfl,KEY.out _⟩
 | true=>
  by_cases hf:m.f=o
  ·have d1:(m.f != o)=false:=by rw [hf];exact bne_self_eq_false _
   cases E with
   | true=>
    have KEY:=Lib.hid (fun N=>KEEP.out N (by
     rw [HR.out,if_neg (fun hh=>by
      have:=HE.out
      have h2:=hh.2.2
      injection h2 with h3 h4
      rw [h3,h4] at this
      simp at this)]))
    clear h1 hf
    go_quiet (with_reducible exact quiet_eq (CO _))
    repeat' (first|go_values|go_skip|go_guarded|go_step|go_upon|(simp only [];go_at_K))
    exact bodyPost_ret (v:=.tuple #[]) (results_none rfl _ _ _) rfl ⟨rfl,KEY.out _⟩
   | false=>
    have hbal:(⟨m.br,m.bs⟩:Bl)=⟨0,m.f⟩:=by
     have:=HE.out
     simp at this
     rw [this.1,this.2]
    have HRM:=Lib.hid (show R=Site.skip (match M.pl.accept m.s ⟨m.br,m.bs⟩ m.b with | some t=>t.send m.f (Site.votes m.s ⟨m.br,m.bs⟩) | none=>M.pl) m.s by rw [HR.out,if_pos ⟨rfl,hf,hbal⟩])
    clear hbal hf
    go_quiet (with_reducible exact quiet_eq (CO _))
    obtain ⟨X,hX⟩:∃X,W.drewN nq=X:=⟨_,rfl⟩
    have UX:Upd [] [] W X:=by rw [←hX];exact (Upd.refl [] W).drewN _
    rw [hX]
    clear hX a1 a3 a4 a5 a8 g1 CO E1 KEEP
    have h2:=h1.upd0 UX
    have hBX:=hB.upd UX (by simp)
    have C:=siteAccept X M h2 m.s (by omega) ⟨m.br,m.bs⟩ hbm m.A m.n m.c m.b ((hb.upd0 U0).upd0 UX).rd hfar hm.val
    simp only [SiteV.ptr,Bl.val] at C
    obtain ⟨⟨a0,a1,a2,a3,a4,a5,a6,a7,a8,a9⟩,-⟩:=hBX.c10
    cases hacc:M.pl.accept m.s ⟨m.br,m.bs⟩ m.b with
    | none=>
     rw [hacc] at C
     have hRM:=HRM.out
     rw [hacc] at hRM
     have HRN:=Lib.hid (show R=M.pl.skip m.s from hRM)
     clear hRM hacc h1 h2
     repeat' (first|go_values|go_skip|go_guarded|go_step|go_upon|(simp only [];go_at_K))
     ((with_reducible refine C.mono ?_);rintro e w1 ⟨rfl,M1,H1,hp1,hg1,-,u1⟩)
     replace hp1:M1.pl=M.pl:=hp1
     have K1:=hBX.upd u1 hHf
     clear a0 a1 a2 a3 a4 a5 a6 a7 a8 a9 C
     obtain ⟨⟨a0,a1,a2,a3,a4,a5,a6,a7,a8,a9⟩,-⟩:=K1.c10
     have l1:M1.held.length≤700000000:=by have:=congrArg (fun z:Site=>z.held.length) hp1;simp only [SiteV.held_len] at this;omega
     have C2:=siteSkip w1 M1 H1 m.s l1
     rw [hp1] at C2
     simp only [SiteV.ptr,hg1] at C2
     repeat' (first|go_values|go_skip|go_guarded|go_step|go_upon|(simp only [];go_at_K))
     ((with_reducible refine C2.mono ?_);rintro e w2 ⟨rfl,M2,H2,hp2,hg2,-,u2⟩)
     repeat' (first|go_values|go_skip|go_guarded|go_step|go_upon|(simp only [];go_at_K))
     exact bodyPost_end (results_none rfl _ _ _) rfl ⟨rfl,M2,H2,hp2.trans HRN.out.symm,hg2.trans hg1,(((U0'.trans UX).up M.fp).trans u1).trans u2⟩
    | some t=>
     rw [hacc] at C
     have hRM:=HRM.out
     rw [hacc] at hRM
     have HRN:=Lib.hid (show R=(t.send m.f (Site.votes m.s ⟨m.br,m.bs⟩)).skip m.s from hRM)
     obtain ⟨tm,tn,th,-⟩:=Site.accept_fr hacc
     clear hRM hacc h1 h2
     repeat' (first|go_values|go_skip|go_guarded|go_step|go_upon|(simp only [];go_at_K))
     ((with_reducible refine C.mono ?_);rintro e w1 ⟨rfl,M1,H1,hp1,hg1,-,u1⟩)
     replace hp1:M1.pl=t:=hp1
     have K1:=hBX.upd u1 hHf
     have hH1:=u1.notin hHf hBX.lt
     clear a0 a1 a2 a3 a4 a5 a6 a7 a8 a9 C
     obtain ⟨⟨a0,a1,a2,a3,a4,a5,a6,a7,a8,a9⟩,-⟩:=K1.c10
     have l1:M1.held.length=M.held.length:=by have:=congrArg (fun z:Site=>z.held.length) hp1;simp only [SiteV.held_len,th] at this;exact this
     have C2:=siteSend w1 M1 H1 m.f ⟨6,0,0,m.s,m.br,m.bs,0,0,false,none,0,0,[]⟩ (Site.votes_fit (x:=m.s) (b:=⟨m.br,m.bs⟩) (by omega) hbm) hfrm (RdB.nil _ _) (by omega)
     rw [hp1] at C2
     simp only [SiteV.ptr,Mv.val_eq,hg1] at C2
     repeat' (first|go_values|go_skip|go_guarded|go_step|go_upon|(simp only [];go_at_K))
     ((with_reducible refine C2.mono ?_);rintro e w2 ⟨rfl,M2,H2,hp2,hg2,-,u2⟩)
     have K2:=K1.upd u2 hH1
     clear a0 a1 a2 a3 a4 a5 a6 a7 a8 a9 C2
     obtain ⟨⟨a0,a1,a2,a3,a4,a5,a6,a7,a8,a9⟩,-⟩:=K2.c10
     have l2:M2.held.length≤700000000:=by
      have:=congrArg (fun z:Site=>z.held.length) hp2
      rw [←hp1] at this
      simp only [SiteV.held_len,Site.send,List.length_append,List.length_cons,List.length_nil] at this
      omega
     have C3:=siteSkip w2 M2 H2 m.s l2
     rw [hp2] at C3
     simp only [SiteV.ptr,hg2,hg1] at C3
     repeat' (first|go_values|go_skip|go_guarded|go_step|go_upon|(simp only [];go_at_K))
     ((with_reducible refine C3.mono ?_);rintro e w3 ⟨rfl,M3,H3,hp3,hg3,-,u3⟩)
     repeat' (first|go_values|go_skip|go_guarded|go_step|go_upon|(simp only [];go_at_K))
     exact bodyPost_end (results_none rfl _ _ _) rfl ⟨rfl,M3,H3,hp3.trans HRN.out.symm,hg3.trans (hg2.trans hg1),((((U0'.trans UX).up M.fp).trans u1).trans u2).trans u3⟩
  ·have d1:(m.f != o)=true:=bne_iff_ne.2 hf
   have KEY:=Lib.hid (fun N=>KEEP.out N (by rw [HR.out,if_neg (fun hh=>hf hh.2.1)]))
   clear h1 hf
   go_quiet (with_reducible exact quiet_eq (CO _))
   repeat' (first|go_values|go_skip|go_guarded|go_step|go_upon|(simp only [];go_at_K))
   exact bodyPost_ret (v:=.tuple #[]) (results_none rfl _ _ _) rfl ⟨rfl,KEY.out _⟩
end Go.Proofs.YtijhlbeipglieaaGreat
