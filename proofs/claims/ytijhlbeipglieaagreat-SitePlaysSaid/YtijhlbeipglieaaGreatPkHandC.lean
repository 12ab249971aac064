/- For SitePlays. -/
import Derived.Test.YtijhlbeipglieaaGreatPkHandB
import Derived.Test.YtijhlbeipglieaaGreatPkSiteQ
set_option linter.all false
set_option maxRecDepth 100000
set_option maxHeartbeats 4000000
namespace aA
open Go List
def Site.Fit(s:Site):Prop:=∀x,(s.stat x).so=true∨(s.stat x).at_=⟨0,0⟩∧(s.stat x).b= []
def Site.GH(s:Site):Prop:=s.held.length≤500000000∧∀p∈s.rs,p.2.vt.length≤900000000∧p.2.pr.length≤900000000
end aA
namespace Go.Proofs.YtijhlbeipglieaaGreat
open Go.RowKit aA Go.Maps Tryz List
def Qt(s:Site)(_:Ms):Prop:=s.Fit∧s.GH
section
variable [eU]
theorem E5(w:World)(M:af)(h:ay w M)(m:Mv)(hq:Qt M.pl m.ms)(hm:m.ms.May)(hb:dF w m.sl)(iy:∀k∈ah m.A,k∉M.fp)(hbn:∀k∈ah m.A,k∉(eU.X:List Nat)) :
  ∃ny,(ny=191∨ny=192∨ny=193∨ny=194∨ny=195∨ny=196∨ny=197∨ny=198)∧eH m.k Cv=some (.func (.func ny) #[] #[])∧∀(Wx:World),aa [] [] w Wx→Calls prog ny #[M.ptr,m.val] Wx fun e w'=>e=.returned (.tuple #[])∧Gone Wx w' M (M.pl.does m.ms):=by
 obtain⟨hf,hl,hrs⟩:=hq
 have hl2:M.held.length≤500000000:=by rw[←af.bf];exact hl
 have pE:∀p∈M.rs,p.2.vt.length≤900000000:=fun p hp=>(hrs (p.1,p.2.pl) (mem_map.2 ⟨p,hp,rfl⟩)).1
 have hpr:∀p∈M.rs,p.2.pr.length≤900000000:=fun p hp=>by
  have:=(hrs (p.1,p.2.pl) (mem_map.2 ⟨p,hp,rfl⟩)).2
  simpa[aS.pl]using this
 have atF:1≤m.k∧m.k≤8:=hm.kind
 have hd:∀k:Int,m.k=k→m.ms.kind=k:=fun k e=>e
 rcases(show m.k=1∨m.k=2∨m.k=3∨m.k=4∨m.k=5∨m.k=6∨m.k=7∨m.k=8 by omega)with e|e|e|e|e|e|e|e
 ·refine⟨191,by simp,by rw[e];rfl,fun Wx hu=>?_⟩
  rw[show M.pl.does m.ms=M.pl.iK m.ms by unfold Site.does;rw[hd _ e];rfl]
  exact Gv Wx M (h.au hu) m hm (hb.au hu) iy (by omega)
 ·refine⟨192,by simp,by rw[e];rfl,fun Wx hu=>?_⟩
  rw[show M.pl.does m.ms=M.pl.skipped m.ms by unfold Site.does;rw[hd _ e];rfl]
  exact KP Wx M (h.au hu) m hm
 ·refine⟨193,by simp,by rw[e];rfl,fun Wx hu=>?_⟩
  rw[show M.pl.does m.ms=M.pl.jl m.ms by unfold Site.does;rw[hd _ e];rfl]
  exact Hz Wx M (h.au hu) m hm (by omega) (hf _)
 ·refine⟨194,by simp,by rw[e];rfl,fun Wx hu=>?_⟩
  rw[show M.pl.does m.ms=M.pl.promised m.ms by unfold Site.does;rw[hd _ e];rfl]
  exact Ie Wx M (h.au hu) m hm (hb.au hu) iy hbn (by omega) hpr
 ·refine⟨195,by simp,by rw[e];rfl,fun Wx hu=>?_⟩
  rw[show M.pl.does m.ms=M.pl.asked m.ms by unfold Site.does;rw[hd _ e];rfl]
  exact PS Wx M (h.au hu) m hm (hb.au hu) iy (by omega)
 ·refine⟨196,by simp,by rw[e];rfl,fun Wx hu=>?_⟩
  rw[show M.pl.does m.ms=M.pl.accepted m.ms by unfold Site.does;rw[hd _ e];rfl]
  exact yM Wx M (h.au hu) m hm (by omega) pE
 ·refine⟨197,by simp,by rw[e];rfl,fun Wx hu=>?_⟩
  rw[show M.pl.does m.ms=M.pl.lM m.ms by unfold Site.does;rw[hd _ e];rfl]
  exact KN Wx M (h.au hu) m hm (hb.au hu)
 ·refine⟨198,by simp,by rw[e];rfl,fun Wx hu=>?_⟩
  rw[show M.pl.does m.ms=M.pl.wanted m.ms by unfold Site.does;rw[hd _ e];rfl]
  exact Oc Wx M (h.au hu) m hm (by omega)
theorem takeA(w:World)(M:af)(h:ay w M)(m:Mv)(hq:Qt M.pl m.ms)(hm:m.ms.May)(hb:dF w m.sl)(iy:∀k∈ah m.A,k∉M.fp)(hbn:∀k∈ah m.A,k∉(eU.X:List Nat))(h1:m.k≠1)(h3:m.k≠3)(h5:m.k≠5) :
  Calls prog 66 #[M.ptr,m.val] w fun e w'=>e=.returned (.tuple #[])∧Gone w w' M (M.pl.take m.ms):=by
 obtain⟨W,H,eW,hH,hB,U0⟩:=az w 32 #[.int .i64 m.k,.int .i64 m.f,.int .i64 m.t,.int .i64 m.s,.int .i64 m.br,.int .i64 m.bs,.int .i64 m.hr,.int .i64 m.hs,.bool m.so,.slice m.A m.n m.c]
 have C:=tO W.drew
 have dm:=U0.g0
 obtain⟨ny,Od,hlk,FIN⟩:=E5 W M (h.au U0) m hq hm (hb.au U0) iy hbn
 have d1:((m.k:Int)==1)=false:=beq_false_of_ne h1
 have d3:((m.k:Int)==3)=false:=beq_false_of_ne h3
 have d5:((m.k:Int)==5)=false:=beq_false_of_ne h5
 have hkr:1≤m.k∧m.k≤8:=hm.kind
 have look:∀w1 b,bP prog 3 w1 b Cv→(Instr.lookup 200 (.map (some b)) (.int .i64 m.k) false).run prog w1=.ok (.func (.func ny) #[] #[]) w1:=fun w1 b hm=>by
  rw[hm.look underlying3 underlying200 (Iu w1) (x:=m.k) (jV (by omega) (by omega)),hlk]
  rfl
 have HL:=hdn look
 have WC:∀w1:World,(binOp .neq 199 (.func (.func ny) #[] #[]) .nilFunc).run prog w1=.ok (.bool true) w1:=fun w1=>by kernel_rfl
 obtain⟨⟨a0,a1,a2,a3,a4,a5,a6,a7,a8,a9⟩,-⟩:=hB.c10
 have hS:M.pl.take m.ms=M.pl.does m.ms:=by
  unfold Site.take
  rw[if_neg]
  rintro(e|e|e)
  ·exact h1 e
  ·exact h3 e
  ·exact h5 e
 rw[hS]
 clear hS look hm hq hlk h1 h3 h5 hkr hb iy
 obtain⟨S,hS⟩:=ex1 (M.pl.does m.ms)
 rw[Mv.aH,af.ptr]
 simp only[Mv.aH,af.ptr,hS]at FIN ⊢
 rcases Od with rfl|rfl|rfl|rfl|rfl|rfl|rfl|rfl
 all_goals
  go_enter func66,ntmps66
  repeat' go_step
  go_region_with (first|(go_at_call 119;(with_reducible refine C.mono ?_);rintro e w1 ⟨b,rfl,agk,hu⟩;have hk1:=HL.out w1 b agk;have b0:=hu.cell (show W.drew.cell? ⟨H,0,none⟩=some (.int .i64 m.k)from a0) (by simp)))
  all_goals
   have KB:=hB.drew.upd hu
   have E8:aa [] [] W w1:=((aa.refl [] W).drew.trans hu).gives (b':=[]) (by simp)
   obtain⟨⟨c0,c1,c2,c3,c4,c5,c6,c7,c8,c9⟩,-⟩:=KB.c10
   repeat' go_step
   refine(FIN w1 E8).mono ?_;rintro e w7 ⟨rfl,M4,h7,rO,xV,U7⟩
   refine wk ?_
   exact enR ⟨rfl,M4,h7,rO,xV,((dm.trans E8).up M.fp).trans U7⟩
end
def WE(DV:Option (List UInt8))(a:List UInt8→Site)(b:Site):Site:=match DV with|some v=>a v|none=>b
variable [eU]
theorem takeB(w:World)(M:af)(h:ay w M)(m:Mv)(hq:Qt M.pl m.ms)(hm:m.ms.May)(hb:dF w m.sl)(iy:∀k∈ah m.A,k∉M.fp)(hbn:∀k∈ah m.A,k∉(eU.X:List Nat))(hk:m.k=1∨m.k=3∨m.k=5) :
  Calls prog 66 #[M.ptr,m.val] w fun e w'=>e=.returned (.tuple #[])∧Gone w w' M (M.pl.take m.ms):=by
 obtain⟨W,H,eW,hH,hB,U0⟩:=az w 32 #[.int .i64 m.k,.int .i64 m.f,.int .i64 m.t,.int .i64 m.s,.int .i64 m.br,.int .i64 m.bs,.int .i64 m.hr,.int .i64 m.hs,.bool m.so,.slice m.A m.n m.c]
 have hW:=h.au U0
 have dm:=U0.g0
 have qK:0≤m.s∧m.s≤4095:=hm.slot
 have xm:0≤m.f∧m.f≤6:=hm.bO
 have hwf:(Lit.int .i64 m.s).wf=true:=jV (by omega) (by omega)
 have hkr:1≤m.k∧m.k≤8:=hm.kind
 have hl:M.held.length≤500000000:=by rw[←af.bf];exact hq.2.1
 have C1:=qy W.drew M.gl M.bl M.lv M.taken hW.drew.jm hW.drew.yJ m.s hwf
 have hdp:=af.qX M m.s
 rw[←hdp,show(aC m.s M.lv).isSome=(M.pl.dec m.s).isSome by rw[hdp,Option.isSome_map]]at C1
 obtain⟨DV,Cu⟩:=ex1 (M.pl.dec m.s)
 have hlen:∀v,DV=some v→v.length≤2048:=fun v hv=>by
  rw[←Cu,hdp]at hv
  cases hq:aC m.s M.lv with
  |none=>rw[hq]at hv;cases hv
  |some z=>
   rw[hq]at hv
   injection hv with hv
   rw[←hv]
   exact(h.jm.keys _ (aY hq)).2.2
 rw[Cu]at C1
 obtain⟨ny,-,hlk,FIN⟩:=E5 W M hW m hq hm (hb.au U0) iy hbn
 have q7:W.drew.cell? ⟨M.gs,7,none⟩=some (.pointer (some ⟨M.gl,0,none⟩)):=hW.blk.cell 7
 have Zg:W.drew.cell? ⟨H,3,none⟩=some (.int .i64 m.s):=hB.cell 3
 have hfl:=h.lt
 obtain⟨R,hR⟩:=ex1 (M.pl.take m.ms)
 have HR:=hdn (show R=WE DV (fun v=>M.pl.send m.f (Site.tells m.s v)) (M.pl.does m.ms) by
  rw[←hR]
  unfold Site.take WE
  rw[if_pos (show m.ms.kind=1∨m.ms.kind=3∨m.ms.kind=5 from hk),show M.pl.dec m.ms.slot=DV from Cu]
  cases DV<;>rfl)
 rw[hR]
 clear hR hdp Cu hq hm hb iy
 obtain⟨S,hS⟩:=ex1 (M.pl.does m.ms)
 rw[hS]at HR
 simp only[Mv.aH,af.ptr,hS]at FIN
 rw[Mv.aH,af.ptr]
 clear hS
 obtain⟨⟨a0,a1,a2,a3,a4,a5,a6,a7,a8,a9⟩,-⟩:=hB.c10
 have look:∀w1 b,bP prog 3 w1 b Cv→(Instr.lookup 200 (.map (some b)) (.int .i64 m.k) false).run prog w1=.ok (.func (.func ny) #[] #[]) w1:=fun w1 b hm=>by
  rw[hm.look underlying3 underlying200 (Iu w1) (x:=m.k) (jV (by omega) (by omega)),hlk]
  rfl
 have HL:=hdn look
 have WC:∀w1:World,(binOp .neq 199 (.func (.func ny) #[] #[]) .nilFunc).run prog w1=.ok (.bool true) w1:=fun w1=>by kernel_rfl
 clear look
 have Od:(m.k=1∧ny=191)∨(m.k=3∧ny=193)∨(m.k=5∧ny=195):=by
  rcases hk with e|e|e
  ·rw[e]at hlk
   have h2:some (Value.func (.func 191) #[] #[])=some (Value.func (.func ny) #[] #[]):=hlk
   injection h2 with h2;injection h2 with h2;injection h2 with h2
   exact .inl ⟨e,h2.symm⟩
  ·rw[e]at hlk
   have h2:some (Value.func (.func 193) #[] #[])=some (Value.func (.func ny) #[] #[]):=hlk
   injection h2 with h2;injection h2 with h2;injection h2 with h2
   exact .inr (.inl ⟨e,h2.symm⟩)
  ·rw[e]at hlk
   have h2:some (Value.func (.func 195) #[] #[])=some (Value.func (.func ny) #[] #[]):=hlk
   injection h2 with h2;injection h2 with h2;injection h2 with h2
   exact .inr (.inr ⟨e,h2.symm⟩)
 clear hk hlk hkr
 obtain⟨kk,hkk⟩:=ex1 m.k
 rw[hkk]at Od a0 hB eW
 simp only[hkk]at FIN HL
 rw[hkk]
 clear hkk
 rcases Od with⟨rfl,rfl⟩|⟨rfl,rfl⟩|⟨rfl,rfl⟩
 all_goals
  go_enter func66,ntmps66
  repeat' go_step
  go_cut [4,5]from 15 (fun s4 s5 wc=>∃(A n:_)(c:Nat),s4=.slice A n c∧s5=.bool DV.isSome∧aT 5 wc A n c (DV.getD [])∧(∀x∈ah A,W.heap.size≤x)∧aa [] [] W wc)
  case first=>
   clear HR FIN HL WC hlen
   go_region_held3 (fun w'=>w'.cell? ⟨M.gs,7,none⟩=some (.pointer (some ⟨M.gl,0,none⟩))∧w'.cell? ⟨H,3,none⟩=some (.int .i64 m.s)) (first|exact⟨q7,Zg⟩|exact⟨Y9,Za⟩)
    (
     first
     |(go_at_call 93;(with_reducible refine C1.mono ?_);rintro e w1 ⟨A1,n1,c1,rfl,ho1,hu1⟩;have Y9:=hu1.cell q7 (by simp);have Za:=hu1.cell Zg (by simp)))
   all_goals (refine wk ?_)
   all_goals go_meet
   all_goals exact⟨A1,n1,c1,rfl,rfl,ho1,(aa.refl [] W).drew.new hu1,((aa.refl [] W).drew.trans hu1).gives⟩
  case rest=>
   obtain⟨A1,n1,c1,rfl,rfl,ho1,hA1,U1⟩:=hcut
   have h2:=hW.au U1
   have hB2:=hB.upd U1
   have UX:=dm.trans U1
   clear C1 q7 Zg a0 a1 a2 a3 a4 a5 a6 a7 a8 a9
   cases DV with
   |some v=>
    have P7:=hdn (show R=M.pl.send m.f (Site.tells m.s v)from HR.out)
    have hvl:=hlen v rfl
    obtain⟨⟨a0,a1,a2,a3,a4,a5,a6,a7,a8,a9⟩,-⟩:=hB2.drew.c10
    have C8:=yK wc.drew m.s A1 n1 c1 v
    have C9:=fun(w8:World)(hu:aa [] [] wc.drew w8)=>jL w8 M (h2.drew.au hu) m.f ⟨7,0,0,m.s,0,0,0,0,true,A1,n1,c1,v⟩ (Site.kD (x:=m.s) (v:=v) (by omega) hvl) xm ((aD.upd (show aD wc.drew A1 n1 v from ho1.rd) hu (by simp))) (by omega)
    have hms:Mv.ms ⟨7,0,0,m.s,0,0,0,0,true,A1,n1,c1,v⟩=Site.tells m.s v:=rfl
    obtain⟨tv,yL⟩:=ex1 (Mv.val ⟨7,0,0,m.s,0,0,0,0,true,A1,n1,c1,v⟩)
    rw[yL]at C8
    simp only[hms,yL,af.ptr]at C9
    clear hms yL FIN HL WC HR
    repeat' go_step
    go_region_with (first
     |(go_at_call 118;(with_reducible refine C8.mono ?_);rintro e w8 ⟨rfl,jF⟩;have e1b:=jF.cell a1 (by simp))
     |(go_at_call 64;(with_reducible refine(C9 w8 jF).mono ?_);rintro e w9 ⟨rfl,M9,h9,yH,Im,-,U9⟩))
    all_goals (refine wk ?_)
    all_goals exact enT ⟨rfl,M9,h9,yH.trans P7.out.symm,Im,((UX.drew.trans jF).up M.fp).trans U9⟩
   |none=>
    have nQ:=hdn (show R=S from HR.out)
    have C:=tO wc.drew
    obtain⟨⟨a0,a1,a2,a3,a4,a5,a6,a7,a8,a9⟩,-⟩:=hB2.c10
    have a0d:=hB2.drew.cell 0
    clear HR hlen
    repeat' go_step
    go_region_with (first|(go_at_call 119;(with_reducible refine C.mono ?_);rintro e w1 ⟨b,rfl,agk,hu⟩;have hk1:=HL.out w1 b agk;have b0:=hu.cell a0d (by simp)))
    all_goals
     have KB:=hB2.drew.upd hu
     have E8:aa [] [] W w1:=(U1.drew.trans hu).gives (b':=[]) (by simp)
     obtain⟨⟨c0,c1',c2,c3,c4,c5,c6,c7,c8,c9⟩,-⟩:=KB.c10
     repeat' go_step
     refine(FIN w1 E8).mono ?_;rintro e w7 ⟨rfl,M4,h7,rO,xV,U7⟩
     refine wk ?_
     exact enR ⟨rfl,M4,h7,rO.trans nQ.out.symm,xV,((dm.trans E8).up M.fp).trans U7⟩
theorem takeC:zJ Qt:=fun w M m h hq hm hb iy hbn=>by
 by_cases hk:m.k=1∨m.k=3∨m.k=5
 ·exact takeB w M h m hq hm hb iy hbn hk
 ·exact takeA w M h m hq hm hb iy hbn (fun e=>hk (.inl e)) (fun e=>hk (.inr (.inl e))) (fun e=>hk (.inr (.inr e)))
