/- For WorldCalm. -/
import Derived.Test.YtijhlbeipglieaaGreatPkHandB
import Derived.Test.YtijhlbeipglieaaGreatPkSiteQ
set_option linter.all false
set_option maxRecDepth 100000
set_option maxHeartbeats 4000000
namespace aL
open Go List
def Site.Fit(s:Site):Prop:=∀x,(s.stat x).so=true∨(s.stat x).at_=⟨0,0⟩∧(s.stat x).b= []
def Site.Sn(s:Site):Prop:=s.held.length≤500000000∧∀p∈s.rs,p.2.vt.length≤900000000∧p.2.pr.length≤900000000
end aL
namespace Go.Proofs.YtijhlbeipglieaaGreat
open Go.RowKit aL Go.Maps Tryz List
def Qt(s:Site)(_:Ms):Prop:=s.Fit∧s.Sn
section
variable [eA]
theorem B5(w:World)(M:ae)(h:aJ w M)(m:Mv)(hq:Qt M.pl m.ms)(hm:m.ms.bL)(hb:dj w m.sl)(gL:∀k∈ak m.A,k∉M.fp)(xE:∀k∈ak m.A,k∉(eA.X:List Nat)) :
  ∃lW,(lW=191∨lW=192∨lW=193∨lW=194∨lW=195∨lW=196∨lW=197∨lW=198)∧dX m.k Dp=some (.func (.func lW) #[] #[])∧∀(Wx:World),ab [] [] w Wx→Calls prog lW #[M.ptr,m.val] Wx fun e w'=>e=.returned (.tuple #[])∧dZ Wx w' M (M.pl.ct m.ms):=by
 obtain⟨hf,hl,bZ⟩:=hq
 have hl2:M.held.length≤500000000:=by rw[←ae.cE];exact hl
 have mh:∀p∈M.rs,p.2.vt.length≤900000000:=fun p hp=>(bZ (p.1,p.2.pl) (mem_map.2 ⟨p,hp,rfl⟩)).1
 have o0:∀p∈M.rs,p.2.pr.length≤900000000:=fun p hp=>by
  have:=(bZ (p.1,p.2.pl) (mem_map.2 ⟨p,hp,rfl⟩)).2
  simpa[bS.pl]using this
 have ahr:1≤m.k∧m.k≤8:=hm.kind
 have hd:∀k:Int,m.k=k→m.ms.kind=k:=fun k e=>e
 rcases(show m.k=1∨m.k=2∨m.k=3∨m.k=4∨m.k=5∨m.k=6∨m.k=7∨m.k=8 by omega)with e|e|e|e|e|e|e|e
 ·refine⟨191,by simp,by rw[e];rfl,fun Wx hu=>?_⟩
  rw[show M.pl.ct m.ms=M.pl.dI m.ms by unfold Site.ct;rw[hd _ e];rfl]
  exact CU Wx M (h.aN hu) m hm (hb.aN hu) gL (by omega)
 ·refine⟨192,by simp,by rw[e];rfl,fun Wx hu=>?_⟩
  rw[show M.pl.ct m.ms=M.pl.eR m.ms by unfold Site.ct;rw[hd _ e];rfl]
  exact GR Wx M (h.aN hu) m hm
 ·refine⟨193,by simp,by rw[e];rfl,fun Wx hu=>?_⟩
  rw[show M.pl.ct m.ms=M.pl.ed m.ms by unfold Site.ct;rw[hd _ e];rfl]
  exact EL Wx M (h.aN hu) m hm (by omega) (hf _)
 ·refine⟨194,by simp,by rw[e];rfl,fun Wx hu=>?_⟩
  rw[show M.pl.ct m.ms=M.pl.bT m.ms by unfold Site.ct;rw[hd _ e];rfl]
  exact EO Wx M (h.aN hu) m hm (hb.aN hu) gL xE (by omega) o0
 ·refine⟨195,by simp,by rw[e];rfl,fun Wx hu=>?_⟩
  rw[show M.pl.ct m.ms=M.pl.asked m.ms by unfold Site.ct;rw[hd _ e];rfl]
  exact MZ Wx M (h.aN hu) m hm (hb.aN hu) gL (by omega)
 ·refine⟨196,by simp,by rw[e];rfl,fun Wx hu=>?_⟩
  rw[show M.pl.ct m.ms=M.pl.accepted m.ms by unfold Site.ct;rw[hd _ e];rfl]
  exact E4 Wx M (h.aN hu) m hm (by omega) mh
 ·refine⟨197,by simp,by rw[e];rfl,fun Wx hu=>?_⟩
  rw[show M.pl.ct m.ms=M.pl.gr m.ms by unfold Site.ct;rw[hd _ e];rfl]
  exact GQ Wx M (h.aN hu) m hm (hb.aN hu)
 ·refine⟨198,by simp,by rw[e];rfl,fun Wx hu=>?_⟩
  rw[show M.pl.ct m.ms=M.pl.wanted m.ms by unfold Site.ct;rw[hd _ e];rfl]
  exact Kd Wx M (h.aN hu) m hm (by omega)
theorem Z2(w:World)(M:ae)(h:aJ w M)(m:Mv)(hq:Qt M.pl m.ms)(hm:m.ms.bL)(hb:dj w m.sl)(gL:∀k∈ak m.A,k∉M.fp)(xE:∀k∈ak m.A,k∉(eA.X:List Nat))(h1:m.k≠1)(h3:m.k≠3)(h5:m.k≠5) :
  Calls prog 66 #[M.ptr,m.val] w fun e w'=>e=.returned (.tuple #[])∧dZ w w' M (M.pl.take m.ms):=by
 obtain⟨W,H,eW,hH,hB,U0⟩:=cb w 32 #[.int .i64 m.k,.int .i64 m.f,.int .i64 m.t,.int .i64 m.s,.int .i64 m.br,.int .i64 m.bs,.int .i64 m.hr,.int .i64 m.hs,.bool m.so,.slice m.A m.n m.c]
 have C:=vO W.drew
 have cv:=U0.gives (b':=[]) (by simp)
 obtain⟨lW,Ke,hlk,kD⟩:=B5 W M (h.aN U0) m hq hm (hb.aN U0) gL xE
 have d1:((m.k:Int)==1)=false:=beq_false_of_ne h1
 have d3:((m.k:Int)==3)=false:=beq_false_of_ne h3
 have d5:((m.k:Int)==5)=false:=beq_false_of_ne h5
 have Xp:1≤m.k∧m.k≤8:=hm.kind
 have look:∀w1 b,cz prog 3 w1 b Dp→(Instr.lookup 200 (.map (some b)) (.int .i64 m.k) false).run prog w1=.ok (.func (.func lW) #[] #[]) w1:=fun w1 b hm=>by
  rw[hm.look underlying3 underlying200 (Ni w1) (x:=m.k) (kt (by omega) (by omega)),hlk]
  rfl
 have HL:=aA look
 have Sr:∀w1:World,(binOp .neq 199 (.func (.func lW) #[] #[]) .nilFunc).run prog w1=.ok (.bool true) w1:=fun w1=>by kernel_rfl
 obtain⟨⟨a0,a1,a2,a3,a4,a5,a6,a7,a8,a9⟩,-⟩:=hB.cJ
 have hS:M.pl.take m.ms=M.pl.ct m.ms:=by
  unfold Site.take
  rw[if_neg]
  rintro(e|e|e)
  ·exact h1 e
  ·exact h3 e
  ·exact h5 e
 rw[hS]
 clear hS look hm hq hlk h1 h3 h5 Xp hb gL
 obtain⟨S,hS⟩:=bk (M.pl.ct m.ms)
 rw[Mv.bJ,ae.ptr]
 simp only[Mv.bJ,ae.ptr,hS]at kD ⊢
 rcases Ke with rfl|rfl|rfl|rfl|rfl|rfl|rfl|rfl
 all_goals
  go_enter func66,ntmps66
  repeat' first|go_values|go_skip|go_guarded|go_step|go_upon|simp only[];go_at_K
  go_region_with (first|(go_at_call 119;(with_reducible refine C.mono ?_);rintro e w1 ⟨b,rfl,hmap,hu⟩;have oq:=HL.out w1 b hmap;have b0:=hu.cell (show W.drew.cell? ⟨H,0,none⟩=some (.int .i64 m.k)from a0) (by simp)))
  all_goals
   have KB:=hB.drew.aq hu (by simp)
   have Nj:ab [] [] W w1:=((ab.refl [] W).drew.trans hu).gives (b':=[]) (by simp)
   obtain⟨⟨c0,c1,c2,c3,c4,c5,c6,c7,c8,c9⟩,-⟩:=KB.cJ
   repeat' first|go_values|go_skip|go_guarded|go_step|go_upon|simp only[];go_at_K
   refine(kD w1 Nj).mono ?_;rintro e w7 ⟨rfl,M4,h7,rG,xK,U7⟩
   repeat' first|go_values|go_skip|go_guarded|go_step|go_upon|simp only[];go_at_K
   exact bodyPost_end (results_none rfl _ _ _) rfl ⟨rfl,M4,h7,rG,xK,((cv.trans Nj).up M.fp).trans U7⟩
end
def Ss(DV:Option (List UInt8))(a:List UInt8→Site)(b:Site):Site:=match DV with|some v=>a v|none=>b
variable [eA]
theorem Z3(w:World)(M:ae)(h:aJ w M)(m:Mv)(hq:Qt M.pl m.ms)(hm:m.ms.bL)(hb:dj w m.sl)(gL:∀k∈ak m.A,k∉M.fp)(xE:∀k∈ak m.A,k∉(eA.X:List Nat))(hk:m.k=1∨m.k=3∨m.k=5) :
  Calls prog 66 #[M.ptr,m.val] w fun e w'=>e=.returned (.tuple #[])∧dZ w w' M (M.pl.take m.ms):=by
 obtain⟨W,H,eW,hH,hB,U0⟩:=cb w 32 #[.int .i64 m.k,.int .i64 m.f,.int .i64 m.t,.int .i64 m.s,.int .i64 m.br,.int .i64 m.bs,.int .i64 m.hr,.int .i64 m.hs,.bool m.so,.slice m.A m.n m.c]
 have hW:=h.aN U0
 have cv:=U0.gives (b':=[]) (by simp)
 have lP:0≤m.s∧m.s≤4095:=hm.slot
 have tY:0≤m.f∧m.f≤6:=hm.aR
 have eO:(Lit.int .i64 m.s).wf=true:=kt (by omega) (by omega)
 have Xp:1≤m.k∧m.k≤8:=hm.kind
 have hl:M.held.length≤500000000:=by rw[←ae.cE];exact hq.2.1
 have C1:=qQ W.drew M.gl M.bl M.lv M.taken hW.drew.iH hW.drew.yw m.s eO
 have E5:=ae.pq M m.s
 rw[←E5,show(aD m.s M.lv).isSome=(M.pl.dec m.s).isSome by rw[E5,Option.isSome_map]]at C1
 obtain⟨DV,zE⟩:=bk (M.pl.dec m.s)
 have hlen:∀v,DV=some v→v.length≤2048:=fun v hv=>by
  rw[←zE,E5]at hv
  cases hq:aD m.s M.lv with
  |none=>rw[hq]at hv;cases hv
  |some z=>
   rw[hq]at hv
   injection hv with hv
   rw[←hv]
   exact(h.iH.keys _ (bG hq)).2.2
 rw[zE]at C1
 obtain⟨lW,-,hlk,kD⟩:=B5 W M hW m hq hm (hb.aN U0) gL xE
 have q7:W.drew.cell? ⟨M.gs,7,none⟩=some (.pointer (some ⟨M.gl,0,none⟩)):=hW.aO.cell 7
 have Xq:W.drew.cell? ⟨H,3,none⟩=some (.int .i64 m.s):=hB.cell 3
 have pS:=h.lt
 obtain⟨R,hR⟩:=bk (M.pl.take m.ms)
 have HR:=aA (show R=Ss DV (fun v=>M.pl.send m.f (Site.bD m.s v)) (M.pl.ct m.ms) by
  rw[←hR]
  unfold Site.take Ss
  rw[if_pos (show m.ms.kind=1∨m.ms.kind=3∨m.ms.kind=5 from hk),show M.pl.dec m.ms.slot=DV from zE]
  cases DV<;>rfl)
 rw[hR]
 clear hR E5 zE hq hm hb gL
 obtain⟨S,hS⟩:=bk (M.pl.ct m.ms)
 rw[hS]at HR
 simp only[Mv.bJ,ae.ptr,hS]at kD
 rw[Mv.bJ,ae.ptr]
 clear hS
 obtain⟨⟨a0,a1,a2,a3,a4,a5,a6,a7,a8,a9⟩,-⟩:=hB.cJ
 have look:∀w1 b,cz prog 3 w1 b Dp→(Instr.lookup 200 (.map (some b)) (.int .i64 m.k) false).run prog w1=.ok (.func (.func lW) #[] #[]) w1:=fun w1 b hm=>by
  rw[hm.look underlying3 underlying200 (Ni w1) (x:=m.k) (kt (by omega) (by omega)),hlk]
  rfl
 have HL:=aA look
 have Sr:∀w1:World,(binOp .neq 199 (.func (.func lW) #[] #[]) .nilFunc).run prog w1=.ok (.bool true) w1:=fun w1=>by kernel_rfl
 clear look
 have Ke:(m.k=1∧lW=191)∨(m.k=3∧lW=193)∨(m.k=5∧lW=195):=by
  rcases hk with e|e|e
  ·rw[e]at hlk
   have h2:some (Value.func (.func 191) #[] #[])=some (Value.func (.func lW) #[] #[]):=hlk
   injection h2 with h2;injection h2 with h2;injection h2 with h2
   exact .inl ⟨e,h2.symm⟩
  ·rw[e]at hlk
   have h2:some (Value.func (.func 193) #[] #[])=some (Value.func (.func lW) #[] #[]):=hlk
   injection h2 with h2;injection h2 with h2;injection h2 with h2
   exact .inr (.inl ⟨e,h2.symm⟩)
  ·rw[e]at hlk
   have h2:some (Value.func (.func 195) #[] #[])=some (Value.func (.func lW) #[] #[]):=hlk
   injection h2 with h2;injection h2 with h2;injection h2 with h2
   exact .inr (.inr ⟨e,h2.symm⟩)
 clear hk hlk Xp
 obtain⟨kk,xn⟩:=bk m.k
 rw[xn]at Ke a0 hB eW
 simp only[xn]at kD HL
 rw[xn]
 clear xn
 rcases Ke with⟨rfl,rfl⟩|⟨rfl,rfl⟩|⟨rfl,rfl⟩
 all_goals
  go_enter func66,ntmps66
  repeat' first|go_values|go_skip|go_guarded|go_step|go_upon|simp only[];go_at_K
  go_cut [4,5]from 15 (fun s4 s5 wc=>∃(A n:_)(c:Nat),s4=.slice A n c∧s5=.bool DV.isSome∧bW 5 wc A n c (DV.getD [])∧(∀x∈ak A,W.heap.size≤x)∧ab [] [] W wc)
  case first=>
   clear HR kD HL Sr hlen
   go_region_held3 (fun w'=>w'.cell? ⟨M.gs,7,none⟩=some (.pointer (some ⟨M.gl,0,none⟩))∧w'.cell? ⟨H,3,none⟩=some (.int .i64 m.s)) (first|exact⟨q7,Xq⟩|exact⟨Xi,Xj⟩)
    (
     first
     |(go_at_call 93;(with_reducible refine C1.mono ?_);rintro e w1 ⟨A1,n1,c1,rfl,iY,bn⟩;have Xi:=bn.cell q7 (by simp);have Xj:=bn.cell Xq (by simp)))
   all_goals (repeat' (first|go_values|go_skip|go_guarded|go_step|go_upon|simp only[];go_at_K))
   all_goals go_meet
   all_goals exact⟨A1,n1,c1,rfl,rfl,iY,(ab.refl [] W).drew.new bn,((ab.refl [] W).drew.trans bn).gives (by simp)⟩
  case rest=>
   obtain⟨A1,n1,c1,rfl,rfl,iY,uJ,U1⟩:=hcut
   have h2:=hW.aN U1
   have cX:=hB.aq U1 (by simp)
   have UX:=cv.trans U1
   clear C1 q7 Xq a0 a1 a2 a3 a4 a5 a6 a7 a8 a9
   cases DV with
   |some v=>
    have Nk:=aA (show R=M.pl.send m.f (Site.bD m.s v)from HR.out)
    have gi:=hlen v rfl
    obtain⟨⟨a0,a1,a2,a3,a4,a5,a6,a7,a8,a9⟩,-⟩:=cX.drew.cJ
    have C8:=vM wc.drew m.s A1 n1 c1 v
    have C9:=fun(w8:World)(hu:ab [] [] wc.drew w8)=>jC w8 M (h2.drew.aN hu) m.f ⟨7,0,0,m.s,0,0,0,0,true,A1,n1,c1,v⟩ (Site.j7 (x:=m.s) (v:=v) (by omega) gi) tY ((bE.aq (show bE wc.drew A1 n1 v from iY.rd) hu (by simp))) (by omega)
    have eF:Mv.ms ⟨7,0,0,m.s,0,0,0,0,true,A1,n1,c1,v⟩=Site.bD m.s v:=rfl
    obtain⟨tv,vN⟩:=bk (Mv.val ⟨7,0,0,m.s,0,0,0,0,true,A1,n1,c1,v⟩)
    rw[vN]at C8
    simp only[eF,vN,ae.ptr]at C9
    clear eF vN kD HL Sr HR
    repeat' first|go_values|go_skip|go_guarded|go_step|go_upon|simp only[];go_at_K
    go_region_with (first
     |(go_at_call 118;(with_reducible refine C8.mono ?_);rintro e w8 ⟨rfl,lD⟩;have e1b:=lD.cell a1 (by simp))
     |(go_at_call 64;(with_reducible refine(C9 w8 lD).mono ?_);rintro e w9 ⟨rfl,M9,h9,vK,EV,-,U9⟩))
    all_goals (repeat' (first|go_values|go_skip|go_guarded|go_step|go_upon|simp only[];go_at_K))
    all_goals exact bodyPost_ret (v:=.tuple #[]) (results_none rfl _ _ _) rfl ⟨rfl,M9,h9,vK.trans Nk.out.symm,EV,((UX.drew.trans lD).up M.fp).trans U9⟩
   |none=>
    have ml:=aA (show R=S from HR.out)
    have C:=vO wc.drew
    obtain⟨⟨a0,a1,a2,a3,a4,a5,a6,a7,a8,a9⟩,-⟩:=cX.cJ
    have a0d:=cX.drew.cell 0
    clear HR hlen
    repeat' first|go_values|go_skip|go_guarded|go_step|go_upon|simp only[];go_at_K
    go_region_with (first|(go_at_call 119;(with_reducible refine C.mono ?_);rintro e w1 ⟨b,rfl,hmap,hu⟩;have oq:=HL.out w1 b hmap;have b0:=hu.cell a0d (by simp)))
    all_goals
     have KB:=cX.drew.aq hu (by simp)
     have Nj:ab [] [] W w1:=(U1.drew.trans hu).gives (b':=[]) (by simp)
     obtain⟨⟨c0,c1',c2,c3,c4,c5,c6,c7,c8,c9⟩,-⟩:=KB.cJ
     repeat' first|go_values|go_skip|go_guarded|go_step|go_upon|simp only[];go_at_K
     refine(kD w1 Nj).mono ?_;rintro e w7 ⟨rfl,M4,h7,rG,xK,U7⟩
     repeat' first|go_values|go_skip|go_guarded|go_step|go_upon|simp only[];go_at_K
     exact bodyPost_end (results_none rfl _ _ _) rfl ⟨rfl,M4,h7,rG.trans ml.out.symm,xK,((cv.trans Nj).up M.fp).trans U7⟩
theorem St:Dq Qt:=fun w M m h hq hm hb gL xE=>by
 by_cases hk:m.k=1∨m.k=3∨m.k=5
 ·exact Z3 w M h m hq hm hb gL xE hk
 ·exact Z2 w M h m hq hm hb gL xE (fun e=>hk (.inl e)) (fun e=>hk (.inr (.inl e))) (fun e=>hk (.inr (.inr e)))
