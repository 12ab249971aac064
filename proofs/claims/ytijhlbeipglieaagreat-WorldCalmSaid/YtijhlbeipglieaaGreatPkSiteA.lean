/- For WorldCalm. -/
import Derived.Test.YtijhlbeipglieaaGreatPkSiteM
set_option linter.all false
set_option maxRecDepth 100000
set_option maxHeartbeats 4000000
namespace Go.Proofs.YtijhlbeipglieaaGreat
open Go.RowKit aL Go.Maps Tryz List
theorem I6:(prog.info? 32).map (fun i=>(i.zero,i.size,i.bytes))=some (some (.agg #[.int .i64 0,.int .i64 0,.int .i64 0,.int .i64 0,.int .i64 0,.int .i64 0,.int .i64 0,.int .i64 0,.bool false,.slice none 0 0]),10,96):=by kernel_rfl
section
variable [eA]
def lY(w w':World)(M:ae)(s:Site):Prop:=∃M',aJ w' M'∧M'.pl=s∧M'.gs=M.gs∧M'.rs=M.rs∧ab M.fp M'.fp w w'
theorem aJ.push{w:World}{M:ae}(h:aJ w M)(x:Mv)(hx:dj w x.sl)(gY:∀k∈ak x.A,k∉M.iz)(hm:x.ms.bL)(hl:M.held.length≤1000000000) :
  ∃A' c' w3,(Builtin.append_ #[26,26] 26 #[.slice M.Ah M.held.length M.ch,.slice (some ⟨w.heap.size,0,none⟩) 1 1]).run prog (w.alloc (.cells x.cells.toArray 32))=.ok (.slice A' (M.held.length+1) c') w3∧
   w3.cell? ⟨M.gs,11,none⟩=some (.slice M.Ah M.held.length M.ch)∧w3.frozen? ⟨M.gs,11,none⟩=false∧
   aJ (w3.setCell ⟨M.gs,11,none⟩ (.slice A' (M.held.length+1) c')) {M with Ah:=A',ch:=c',held:=M.held++[x]}∧
   ab M.fp ({M with Ah:=A',ch:=c',held:=M.held++[x]} :ae).fp w (w3.setCell ⟨M.gs,11,none⟩ (.slice A' (M.held.length+1) c')):=by
 have h1:=h.aN ((ab.refl [] w).alloc (.cells x.cells.toArray 32))
 obtain⟨A',c',w3,hrun,ho,hu⟩:=lL (P:=prog) _ 26 26 32 underlying26 I6 rfl (by decide) M.Ah M.held.length M.ch _ h1.pv (some ⟨w.heap.size,0,none⟩) 1 1 x.cells (Rd.aO (aQ.new _ _ _) rfl)
  (by intro u hu;simp only[Mv.cells,mem_cons,not_mem_nil,or_false]at hu;rcases hu with rfl|rfl|rfl|rfl|rfl|rfl|rfl|rfl|rfl|rfl<;>rfl) (by unfold maxLen;omega) (by omega)
 have hg:M.gs∉ak M.Ah:=cp h1.tg h1.tH (by decide)
 have hb3:=h1.aO.aq hu hg
 have U:ab (ak M.Ah) (ak A') w w3:=((ab.refl (ak M.Ah) w).alloc _).trans hu
 refine⟨A',c',w3,hrun,hb3.cell 11,hb3.frozen 11,?_⟩
 refine h.hold U ?_ ?_ ((ab.refl [M.gs] w3).setCell (p:=⟨M.gs,11,none⟩) (.inl (by simp)) _) ?_ ?_
 ·rw[length_append,flatMap_append,flatMap_cons,flatMap_nil,append_nil];exact ho
 ·intro y hy
  rcases mem_append.1 hy with hy|hy
  ·have:y.sl∈M.bytes:=by simp only[ae.bytes,mem_append];exact .inr (.inr (.inr (mem_map_of_mem hy)))
   exact⟨h.fu _ this,h.bad _ this⟩
  ·obtain rfl:=mem_singleton.1 hy
   exact⟨hx,gY⟩
 ·have:=hb3.cc 11 (.slice A' (M.held.length+1) c')
  simpa[ae.cells]using this
 ·have e:({M with Ah:=A',ch:=c',held:=M.held++[x]} :ae).pl= {M.pl with held:=M.pl.held++[x.ms]}:=by simp[ae.pl]
  rw[e]
  refine h.ok.put fun m bw=>?_
  rcases mem_append.1 bw with h'|h'
  ·exact h.ok.held m h'
  ·obtain rfl:=mem_singleton.1 h'
   exact hm
theorem jC(w:World)(M:ae)(h:aJ w M)(to:Int)(m:Mv)(hm:m.ms.Fit)(ht:0≤to∧to≤6)(hr:bE w m.A m.n m.b)(hl:M.held.length≤1000000000) :
  Calls prog 64 #[M.ptr,.int .i64 to,m.val] w fun e w'=>e=.returned (.tuple #[])∧lY w w' M (M.pl.send to m.ms):=by
 obtain⟨W,H,eW,hH,hB,U0⟩:=cb w 32 #[.int .i64 m.k,.int .i64 m.f,.int .i64 m.t,.int .i64 m.s,.int .i64 m.br,.int .i64 m.bs,.int .i64 m.hr,.int .i64 m.hs,.bool m.so,.slice m.A m.n m.c]
 have hs1:=h.aN U0
 have hr1:=hr.aq U0 (by simp)
 have X7:m.b.length≤2048:=hm.val
 have C:=di W.drew m.A m.n m.c m.b hr1 (by omega)
 have q0:W.drew.cell? ⟨M.gs,0,none⟩=some (.int .i64 (M.me:Int)):=hs1.aO.cell 0
 rw[Mv.bJ,ae.ptr]
 go_enter func64,ntmps64
 repeat' go_step
 obtain⟨⟨a0,a1,a2,a3,a4,a5,a6,a7,a8,a9⟩,f0,f1,f2,f3,f4,f5,f6,f7,f8,f9⟩:=hB.drew.cJ
 go_region_with (first|(go_at_call 58;(with_reducible refine C.mono ?_);rintro e W1 ⟨A,n,c,rfl,ho,bn⟩;have K1:=hB.drew.aq bn (by simp);have p0:=bn.cell q0 (by simp);clear a0 a1 a2 a3 a4 a5 a6 a7 a8 a9 f0 f1 f2 f3 f4 f5 f6 f7 f8 f9;obtain⟨⟨a0,a1,a2,a3,a4,a5,a6,a7,a8,a9⟩,f0,f1,f2,f3,f4,f5,f6,f7,f8,f9⟩:=K1.cJ))
 all_goals
  have hsz:W.heap.size≤W1.heap.size:=bn.size
  have xF:=hB.lt
  have u2:ab [H] [H] W1 (((W1.setCell ⟨H,1,none⟩ (.int .i64 (M.me:Int))).setCell ⟨H,2,none⟩ (.int .i64 to)).setCell ⟨H,9,none⟩ (.slice A n c)):=(((ab.refl [H] W1).setCell (p:=⟨H,1,none⟩) (.inl (by simp)) _).setCell (p:=⟨H,2,none⟩) (.inl (by simp)) _).setCell (p:=⟨H,9,none⟩) (.inl (by simp)) _
  have K2:=((K1.cc 1 (.int .i64 (M.me:Int))).cc 2 (.int .i64 to)).cc 9 (.slice A n c)
  have n1:=hs1.drew.aN bn
  have gU:H∉M.fp:=fun hk=>by have:=h.lt H hk;omega
  have n2:=n1.set K1 (by decide) gU u2
  have uJ:∀k∈ak A,W.heap.size≤k:=(ab.refl [] W.drew).new bn
  have eN:=ho.aq u2 (fun k hk=>by have:=uJ k hk;simp;omega)
  have U2:=((U0.drew.trans (bn.up _)).gives (b':=[]) (by simp)).own (by omega) u2
  clear bn u2 K1 p0 a0 a1 a2 a3 a4 a5 a6 a7 a8 a9 f0 f1 f2 f3 f4 f5 f6 f7 f8 f9 n1 ho
  refine wk ?_
  generalize hW:World.setCell _ _ _=W2
  rw[hW]at K2 n2 eN U2
  clear hW
  have T2:dj W2 ⟨A,n,c,m.b⟩:=⟨eN.rd,eN.own.tag⟩
  have N7:∀k∈ak A,k∉M.iz:=fun k hk hm=>by have h1:=uJ k hk;have h2:=h.FO k hm;have h3:=U0.size;omega
  have dL:({m.ms with aR:=(M.me:Int),to:=to} :Ms).bL:=hm.may (by have h1:=h.ok.me;have h2:=h.ok.n7;have e1:M.pl.me=M.me:=rfl;have e2:M.pl.n=M.n:=rfl;omega) ht
  obtain⟨A3,c3,w3,hrun,q3,f3,P1,P2⟩:=n2.drew.push ⟨m.k,M.me,to,m.s,m.br,m.bs,m.hr,m.hs,m.so,A,n,c,m.b⟩ (T2.aN (ab.refl [] W2).drew) N7 dL hl
  have ahL:(W2.alloc (.cells #[.int .i64 m.k,.int .i64 (M.me:Int),.int .i64 to,.int .i64 m.s,.int .i64 m.br,.int .i64 m.bs,.int .i64 m.hr,.int .i64 m.hs,.bool m.so,.slice A n c] 32)).cell? ⟨M.gs,11,none⟩=some (.slice M.Ah M.held.length M.ch):=(n2.aO.alloc _).cell 11
  have Ir:W2.drew.cell? ⟨M.gs,11,none⟩=some (.slice M.Ah M.held.length M.ch):=n2.aO.cell 11
  simp only[Mv.cells]at hrun
  obtain⟨⟨a0,a1,a2,a3,a4,a5,a6,a7,a8,a9⟩,-⟩:=K2.drew.cJ
  have PU:=(U2.up M.fp).drew.trans P2
  have PE:({M with Ah:=A3,ch:=c3,held:=M.held++[⟨m.k,M.me,to,m.s,m.br,m.bs,m.hr,m.hs,m.so,A,n,c,m.b⟩]} :ae).pl=M.pl.send to m.ms:=by simp[ae.pl,Site.send,Mv.ms]
  have bN:=aA (show lY w _ M (M.pl.send to m.ms) from⟨_,P1,PE,rfl,rfl,PU⟩)
  clear P1 P2 PU PE h hs1 n2 K2 T2 N7 dL uJ eN U2 hr hr1 hm
  go_region_law (first
   |(refine jz rfl (.tmp 22) (.tmp 24) 26 rfl (.slice M.Ah M.held.length M.ch) (.slice (some ⟨W2.drew.heap.size,0,none⟩) 1 1) _ w3 rfl rfl hrun ?_))
  all_goals (refine eH ?_)
  all_goals exact bodyPost_end (results_none rfl _ _ _) rfl ⟨rfl,bN.out⟩
end
theorem ae.cE(M:ae):M.pl.held.length=M.held.length:=by simp[ae.pl]
section
variable [eA]
theorem ae.q0{w:World}{M M':ae}(h:aJ w M')(hg:M'.gs=M.gs)(hm:M'.me=M.me):w.cell? ⟨M.gs,0,none⟩=some (.int .i64 (M.me:Int)):=by
 have:=h.aO.cell 0
 rw[←hg,this,←hm];rfl
theorem ke(w:World)(M:ae)(h:aJ w M)(m:Mv)(hm:m.ms.Fit)(hr:bE w m.A m.n m.b)(hf:∀k∈ak m.A,k∉M.fp)(hl:M.held.length≤900000000) :
  Calls prog 62 #[M.ptr,m.val] w fun e w'=>e=.returned (.tuple #[])∧lY w w' M (M.pl.others m.ms M.n):=by
 obtain⟨W,H,eW,hH,hB,U0⟩:=cb w 32 #[.int .i64 m.k,.int .i64 m.f,.int .i64 m.t,.int .i64 m.s,.int .i64 m.br,.int .i64 m.bs,.int .i64 m.hr,.int .i64 m.hs,.bool m.so,.slice m.A m.n m.c]
 have hs1:=h.aN U0
 have hr1:=hr.aq U0 (by simp)
 have gU:H∉M.fp:=fun hk=>by have:=h.lt H hk;omega
 have q1:W.cell? ⟨M.gs,1,none⟩=some (.int .i64 (M.n:Int)):=hs1.aO.cell 1
 have vC:M.n≤7:=h.ok.n7
 have lz:M.me<M.n:=h.ok.me
 rw[Mv.bJ,ae.ptr]
 go_enter func62,ntmps62
 refine wk ?_
 go_loopw [9] (fun v9 wr=>∃(i:Nat)(M':ae),i≤M.n∧v9=.int .i64 (i:Int)∧aJ wr M'∧M'.pl=M.pl.others m.ms i∧M'.gs=M.gs∧M'.rs=M.rs∧ab M.fp M'.fp W wr) (fun v9 _=>M.n-(intOf v9).toNat)
 case atStart=>exact⟨0,M,by omega,rfl,hs1,rfl,rfl,rfl,ab.refl _ _⟩
 case round=>
  obtain⟨i,M',hi,rfl,h',hp,hg,bZ,U⟩:=hrel
  have ca:M'.me=M.me:=by have:=congrArg Site.me hp;rw[(Site.ib _ _).1]at this;exact this
  by_cases hlt:i<M.n
  ·have dK:(i:Int)<(M.n:Int):=by omega
   have dC:=aL.wr ((i:Int)+1)
   have p0:=ae.q0 h' hg ca
   have K:=hB.aq U gU
   obtain⟨⟨a0,a1,a2,a3,a4,a5,a6,a7,a8,a9⟩,-⟩:=K.cJ
   by_cases he:i=M.me
   ·have d1:((i:Int)==(M.me:Int))=true:=by rw[he];exact beq_self_eq_true _
    have ee:M'.pl=M.pl.others m.ms (i+1):=by rw[hp];conv=>rhs;unfold Site.others;rw[if_pos (show i=M.pl.me from he)]
    have bN:=aA (show ∃(j:Nat)(M2:ae),j≤M.n∧Value.int .i64 ((i:Int)+1)=.int .i64 (j:Int)∧aJ wr M2∧M2.pl=M.pl.others m.ms j∧M2.gs=M.gs∧M2.rs=M.rs∧ab M.fp M2.fp W wr from⟨i+1,M',by omega,by simp,h',ee,hg,bZ,U⟩)
    clear he hp ee
    repeat' go_step
    exact⟨bN.out,by simp[intOf];omega⟩
   ·have d1:((i:Int)==(M.me:Int))=false:=beq_false_of_ne (by omega)
    have hlen:M'.held.length≤1000000000:=by
     rw[←ae.cE,hp,Site.bH]
     have:=Site.kd M.pl m.ms i
     simp only[length_append]
     rw[ae.cE];omega
    have C:=jC wr M' h' (i:Int) m hm (by omega) (hr1.aq U hf) hlen
    rw[Mv.bJ,ae.ptr,hg]at C
    have HP:=aA (show(M'.pl.send (i:Int) m.ms)=M.pl.others m.ms (i+1) by rw[hp];conv=>rhs;unfold Site.others;rw[if_neg (show ¬ i=M.pl.me from he)])
    clear he hp
    repeat' go_step
    refine C.mono ?_;rintro e w2 ⟨rfl,M2,h2,gS,hg2,adT,U2⟩
    have bN:=aA (show ∃(j:Nat)(M2:ae),j≤M.n∧Value.int .i64 ((i:Int)+1)=.int .i64 (j:Int)∧aJ w2 M2∧M2.pl=M.pl.others m.ms j∧M2.gs=M.gs∧M2.rs=M.rs∧ab M.fp M2.fp W w2 from⟨i+1,M2,by omega,by simp,h2,gS.trans HP.out,hg2.trans hg,adT.trans bZ,U.trans U2⟩)
    clear C h2 U2 gS a0 a1 a2 a3 a4 a5 a6 a7 a8 a9 K p0 h' U
    refine wk ?_
    exact⟨bN.out,by simp[intOf];omega⟩
  ·obtain rfl:i=M.n:=by omega
   have dK:¬ ((M.n:Int)<(M.n:Int)):=by omega
   have bN:=aA (show lY w wr M (M.pl.others m.ms M.n) from⟨M',h',hp,hg,bZ,(U0.up M.fp |>.trans (U.mono (fun k hk=>hk) (fun k hk=>.inl hk))) |>.gives (fun k hk=>by
    rcases U.fresh k hk with h1|h1
    ·exact .inl h1
    ·right;have:=U0.size;omega)⟩)
   clear h' U hp
   refine wk ?_
   exact bodyPost_end (results_none rfl _ _ _) rfl ⟨rfl,bN.out⟩
end
theorem vM(w:World)(x:Int)(A:Option Addr)(n c:Nat)(b:List UInt8) :
  Calls prog 118 #[.int .i64 x,.slice A n c] w fun e w'=>e=.returned (Mv.val ⟨7,0,0,x,0,0,0,0,true,A,n,c,b⟩)∧ab [] [] w w':=by
 obtain⟨W,H,eW,hH,hB,U0⟩:=cb w 32 #[.int .i64 0,.int .i64 0,.int .i64 0,.int .i64 0,.int .i64 0,.int .i64 0,.int .i64 0,.int .i64 0,.bool false,.slice none 0 0]
 have u:=oW W H (.int .i64 7) (.int .i64 0) (.int .i64 0) (.int .i64 x) (.int .i64 0) (.int .i64 0) (.int .i64 0) (.int .i64 0) (.bool true) (.slice A n c)
 have K:=oX hB (.int .i64 7) (.int .i64 0) (.int .i64 0) (.int .i64 x) (.int .i64 0) (.int .i64 0) (.int .i64 0) (.int .i64 0) (.bool true) (.slice A n c)
 have U:=(U0.gives (b':=[]) (by simp)).own (by omega) u
 obtain⟨-,f0,f1,f2,f3,f4,f5,f6,f7,f8,f9⟩:=hB.cJ
 obtain⟨⟨a0,a1,a2,a3,a4,a5,a6,a7,a8,a9⟩,-⟩:=hB.cJ
 rw[Mv.bJ]
 go_enter func118,ntmps118
 refine wk ?_
 generalize hW:World.setCell _ _ _=W4
 rw[tq,hW]at K U
 obtain⟨⟨z0,z1,z2,z3,z4,z5,z6,z7,z8,z9⟩,-⟩:=K.cJ
 exact bodyPost_ret (v:=.agg #[.int .i64 7,.int .i64 0,.int .i64 0,.int .i64 x,.int .i64 0,.int .i64 0,.int .i64 0,.int .i64 0,.bool true,.slice A n c]) (by simp[results,results118,go_sem,z0,z1,z2,z3,z4,z5,z6,z7,z8,z9]) rfl ⟨rfl,U⟩
def gJ(r:bS)(x:Int):Mv:=
 if r.so then⟨if r.aC.r=0 then 1 else 5,0,0,x,r.aC.r,r.aC.s,r.aC.r,r.aC.s,true,r.v.A,r.v.n,r.v.c,r.v.b⟩ else⟨3,0,0,x,r.aC.r,r.aC.s,0,0,false,none,0,0,[]⟩
theorem Hs(r:bS)(x:Int):(gJ r x).ms=Site.asks r.pl x:=by
 unfold gJ Site.asks bS.pl
 cases r.so<;>simp[Mv.ms]
theorem te(w:World)(r:bS)(h:mT w r)(x:Int) :
  Calls prog 63 #[r.ptr,.int .i64 x] w fun e w'=>e=.returned (gJ r x).val∧ab [] [] w w':=by
 obtain⟨W,H,eW,hH,hB,U0⟩:=cb w 32 #[.int .i64 0,.int .i64 0,.int .i64 0,.int .i64 0,.int .i64 0,.int .i64 0,.int .i64 0,.int .i64 0,.bool false,.slice none 0 0]
 have hb:=h.aO.aq U0 (by simp)
 have Ru:r.g≠H:=by have:=h.aO.lt;omega
 obtain⟨⟨q0,q1,q2,q3,q4,q5,q6⟩,-⟩:=hb.c7
 rw[bS.ptr]
 cases gC:r.so with
 |false=>
  rw[gC]at q3
  have u:=oW W H (.int .i64 3) (.int .i64 0) (.int .i64 0) (.int .i64 x) (.int .i64 r.aC.r) (.int .i64 r.aC.s) (.int .i64 0) (.int .i64 0) (.bool false) (.slice none 0 0)
  have K:=oX hB (.int .i64 3) (.int .i64 0) (.int .i64 0) (.int .i64 x) (.int .i64 r.aC.r) (.int .i64 r.aC.s) (.int .i64 0) (.int .i64 0) (.bool false) (.slice none 0 0)
  have U:=(U0.gives (b':=[]) (by simp)).own (by omega) u
  obtain⟨-,f0,f1,f2,f3,f4,f5,f6,f7,f8,f9⟩:=hB.cJ
  obtain⟨⟨a0,a1,a2,a3,a4,a5,a6,a7,a8,a9⟩,-⟩:=hB.cJ
  rw[show gJ r x=⟨3,0,0,x,r.aC.r,r.aC.s,0,0,false,none,0,0,[]⟩ by unfold gJ;rw[gC];rfl,Mv.bJ]
  go_enter func63,ntmps63
  refine wk ?_
  generalize hW:World.setCell _ _ _=W4
  rw[tq,hW]at K U
  obtain⟨⟨z0,z1,z2,z3,z4,z5,z6,z7,z8,z9⟩,-⟩:=K.cJ
  exact bodyPost_ret (v:=.agg #[.int .i64 3,.int .i64 0,.int .i64 0,.int .i64 x,.int .i64 r.aC.r,.int .i64 r.aC.s,.int .i64 0,.int .i64 0,.bool false,.slice none 0 0]) (by simp[results,results63,go_sem,z0,z1,z2,z3,z4,z5,z6,z7,z8,z9]) rfl ⟨rfl,U⟩
 |true=>
  rw[gC]at q3
  simp only[bO.val]at q4
  have IQ:W.drew.cell? ⟨r.g,0,none⟩=some (.int .i64 r.aC.r):=q0
  have BW:W.drew.cell? ⟨r.g,1,none⟩=some (.int .i64 r.aC.s):=q1
  have q4d:W.drew.cell? ⟨r.g,4,none⟩=some (.slice r.v.A r.v.n r.v.c):=q4
  have IF:=hb.alloc (.cells #[.int .i64 0,.int .i64 0,.int .i64 0,.int .i64 0,.int .i64 0,.int .i64 0,.int .i64 0,.int .i64 0,.bool false,.slice none 0 0] 32)
  obtain⟨⟨s0,s1,s2,s3,s4,s5,s6⟩,-⟩:=IF.c7
  simp only[bO.val]at s4
  go_enter func63,ntmps63
  repeat' go_step
  go_region
  all_goals
   clear q0 q1 q2 q3 q4 q5 q6 IQ BW q4d s0 s1 s2 s3 s4 s5 s6 IF
   obtain⟨W2,G,zW,hG,cX,U2⟩:=cb W 32 #[.int .i64 5,.int .i64 0,.int .i64 0,.int .i64 x,.int .i64 r.aC.r,.int .i64 r.aC.s,.int .i64 r.aC.r,.int .i64 r.aC.s,.bool true,.slice r.v.A r.v.n r.v.c]
   rw[zW,hG]
   have kr:=hb.aq U2 (by simp)
   have kB:=hB.aq U2 (by simp)
   have kG:=cX
   have U4:=(U0.gives (b':=[]) (by simp)).trans (U2.gives (b':=[]) (by simp))
   have xF:=hB.lt
   have hGH:G≠H:=by omega
   clear zW cX U2 hb
   obtain⟨⟨q0,-⟩,-⟩:=kr.c7
  by_cases hz:r.aC.r=0
  ·have d1:(r.aC.r==0)=true:=beq_iff_eq.2 hz
   have HZ:=aA hz
   clear hz
   obtain⟨⟨g0,-⟩,gf0,-⟩:=kG.cJ
   have u1:ab [G] [G] W2 (W2.setCell ⟨G,0,none⟩ (.int .i64 1)):=(ab.refl [G] W2).setCell (p:=⟨G,0,none⟩) (.inl (by simp)) _
   replace kB:=kB.aq u1 (by simp;omega)
   replace kG:=kG.cc 0 (.int .i64 1)
   replace U4:=U4.own (by omega) u1
   have u:=oW (W2.setCell ⟨G,0,none⟩ (.int .i64 1)) H (.int .i64 1) (.int .i64 0) (.int .i64 0) (.int .i64 x) (.int .i64 r.aC.r) (.int .i64 r.aC.s) (.int .i64 r.aC.r) (.int .i64 r.aC.s) (.bool true) (.slice r.v.A r.v.n r.v.c)
   have K:=oX kB (.int .i64 1) (.int .i64 0) (.int .i64 0) (.int .i64 x) (.int .i64 r.aC.r) (.int .i64 r.aC.s) (.int .i64 r.aC.r) (.int .i64 r.aC.s) (.bool true) (.slice r.v.A r.v.n r.v.c)
   have U:=U4.own (by omega) u
   obtain⟨⟨b0,b1,b2,b3,b4,b5,b6,b7,b8,b9⟩,-⟩:=kG.cJ
   obtain⟨⟨a0,a1,a2,a3,a4,a5,a6,a7,a8,a9⟩,f0,f1,f2,f3,f4,f5,f6,f7,f8,f9⟩:=kB.cJ
   refine wk ?_
   generalize hW:World.setCell _ _ _=W4
   rw[tq,hW]at K U
   obtain⟨⟨z0,z1,z2,z3,z4,z5,z6,z7,z8,z9⟩,-⟩:=K.cJ
   rw[show gJ r x=⟨1,0,0,x,r.aC.r,r.aC.s,r.aC.r,r.aC.s,true,r.v.A,r.v.n,r.v.c,r.v.b⟩ by unfold gJ;rw[if_pos gC];simp[HZ.out],Mv.bJ]
   exact bodyPost_ret (v:=.agg #[.int .i64 1,.int .i64 0,.int .i64 0,.int .i64 x,.int .i64 r.aC.r,.int .i64 r.aC.s,.int .i64 r.aC.r,.int .i64 r.aC.s,.bool true,.slice r.v.A r.v.n r.v.c]) (by simp[results,results63,go_sem,z0,z1,z2,z3,z4,z5,z6,z7,z8,z9]) rfl ⟨rfl,U.drew⟩
  ·have d1:(r.aC.r==0)=false:=beq_false_of_ne hz
   have u:=oW W2 H (.int .i64 5) (.int .i64 0) (.int .i64 0) (.int .i64 x) (.int .i64 r.aC.r) (.int .i64 r.aC.s) (.int .i64 r.aC.r) (.int .i64 r.aC.s) (.bool true) (.slice r.v.A r.v.n r.v.c)
   have K:=oX kB (.int .i64 5) (.int .i64 0) (.int .i64 0) (.int .i64 x) (.int .i64 r.aC.r) (.int .i64 r.aC.s) (.int .i64 r.aC.r) (.int .i64 r.aC.s) (.bool true) (.slice r.v.A r.v.n r.v.c)
   have U:=U4.own (by omega) u
   obtain⟨⟨b0,b1,b2,b3,b4,b5,b6,b7,b8,b9⟩,-⟩:=kG.cJ
   obtain⟨⟨a0,a1,a2,a3,a4,a5,a6,a7,a8,a9⟩,f0,f1,f2,f3,f4,f5,f6,f7,f8,f9⟩:=kB.cJ
   refine wk ?_
   generalize hW:World.setCell _ _ _=W4
   rw[tq,hW]at K U
   obtain⟨⟨z0,z1,z2,z3,z4,z5,z6,z7,z8,z9⟩,-⟩:=K.cJ
   rw[show gJ r x=⟨5,0,0,x,r.aC.r,r.aC.s,r.aC.r,r.aC.s,true,r.v.A,r.v.n,r.v.c,r.v.b⟩ by unfold gJ;rw[if_pos gC];simp[hz],Mv.bJ]
   exact bodyPost_ret (v:=.agg #[.int .i64 5,.int .i64 0,.int .i64 0,.int .i64 x,.int .i64 r.aC.r,.int .i64 r.aC.s,.int .i64 r.aC.r,.int .i64 r.aC.s,.bool true,.slice r.v.A r.v.n r.v.c]) (by simp[results,results63,go_sem,z0,z1,z2,z3,z4,z5,z6,z7,z8,z9]) rfl ⟨rfl,U.drew⟩
