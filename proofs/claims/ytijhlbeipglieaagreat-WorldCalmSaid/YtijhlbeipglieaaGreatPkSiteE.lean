/- For WorldCalm. -/
import Derived.Test.YtijhlbeipglieaaGreatPkSiteA
set_option linter.all false
set_option maxRecDepth 100000
set_option maxHeartbeats 2000000
namespace aL
open Go List
def cP.zero:cP:=⟨⟨0,0⟩,false,⟨0,0⟩,none,0,0,[]⟩
theorem cP.Ug:cP.zero.pl=Sp.zero:=rfl
theorem cP.Uh(x y:cP):x.same y=x.pl.same y.pl:=rfl
end aL
namespace Go.Proofs.YtijhlbeipglieaaGreat
open Go.RowKit aL Go.Maps Tryz List
def ae.dA(M:ae)(x:Int):cP:=(aD x M.st).getD cP.zero
theorem ae.nZ(M:ae)(x:Int):(M.dA x).pl=M.pl.stat x:=by
 unfold ae.dA Site.stat
 show _=(aD x (cD cP.pl M.st)).getD Sp.zero
 rw[eB]
 cases aD x M.st<;>rfl
theorem ae.pq(M:ae)(x:Int):M.pl.dec x=(aD x M.lv).map bO.b:=by
 unfold Site.dec
 show aD x (cD bO.b M.lv)=_
 rw[eB]
theorem Ui(w:World):(zeroValue 37).run prog w=.ok cP.zero.val w:=zeroValue37 w
section
variable [eA]
section
variable {w:World} {M:ae}
theorem aJ.look(h:aJ w M){x:Int}(hx:(Lit.int .i64 x).wf=true) :
  (Instr.lookup 117 (.map (some M.bs)) (.int .i64 x) false).run prog w=.ok (M.dA x).val w:=by
 have:=h.rN.look underlying3 underlying117 (Ui w) hx
 rw[lK,eB]at this
 rw[this]
 unfold ae.dA
 cases aD x M.st<;>rfl
theorem aJ.sK(h:aJ w M)(x:Int):dj w (M.dA x).sl∧(∀k∈ak (M.dA x).A,k∉M.iz)∧(M.dA x).b.length≤2048:=by
 unfold ae.dA
 cases hl:aD x M.st with
 |none=>exact⟨⟨bE.nil _ _,by simp[cP.zero,cP.sl,ak]⟩,by simp[cP.zero,ak],by simp[cP.zero]⟩
 |some y=>
  have hm:=bG hl
  have:y.sl∈M.bytes:=by simp only[ae.bytes,mem_append];exact .inl (mem_map.2 ⟨_,hm,rfl⟩)
  exact⟨h.fu _ this,h.bad _ this,(h.ok.st (x,y.pl) (mem_map.2 ⟨_,hm,rfl⟩)).2.2.1⟩
theorem aJ.yw(h:aJ w M):∀p∈M.lv,p.2.rd w:=fun p hp=>
 (h.fu p.2 (by simp only[ae.bytes,mem_append];exact .inr (.inl (mem_map_of_mem hp)))).rd
theorem aJ.SQ(h:aJ w M):M.st.length≤4096:=by
 have hs:=h.rN.sorted (int_keyed underlying3)
 have:=qb (M.st.map Prod.fst) 0 4096 (by
  unfold cD at hs
  rw[pairwise_map]at hs ⊢
  exact hs) (fun x hx=>by
  obtain⟨p,hp,rfl⟩:=mem_map.1 hx
  have:=h.ok.st (p.1,p.2.pl) (mem_map.2 ⟨_,hp,rfl⟩)
  exact⟨this.1,this.2.1⟩) (by omega)
 simp at this
 omega
theorem aJ.JA(h:aJ w M):M.rs.length≤4096:=by
 have hs:=h.eY.sorted (int_keyed underlying3)
 have:=qb (M.rs.map Prod.fst) 0 4096 (by
  unfold cD at hs
  rw[pairwise_map]at hs ⊢
  exact hs) (fun x hx=>by
  obtain⟨p,hp,rfl⟩:=mem_map.1 hx
  have:=h.ok.rs (p.1,p.2.pl) (mem_map.2 ⟨_,hp,rfl⟩)
  exact⟨this.1,this.2.1⟩) (by omega)
 simp at this
 omega
end
theorem vP(w:World)(M:ae)(h:aJ w M)(x:Int)(hx:(Lit.int .i64 x).wf=true) :
  Calls prog 60 #[M.ptr,.int .i64 x] w fun e w'=>e=.returned (.bool (M.pl.fresh x))∧ab [] [] w w':=by
 have C:=qQ w M.gl M.bl M.lv M.taken h.iH h.yw x hx
 have q7:w.cell? ⟨M.gs,7,none⟩=some (.pointer (some ⟨M.gl,0,none⟩)):=h.aO.cell 7
 have HF:=aA (show M.pl.fresh x=((aD x M.lv).isNone&&(M.dA x).same cP.zero) by
  unfold Site.fresh;rw[ae.pq,←ae.nZ,cP.Uh,cP.Ug];simp)
 obtain⟨R,hR⟩:=bk (M.pl.fresh x)
 rw[hR]at HF ⊢
 rw[ae.ptr]
 go_enter func60,ntmps60
 repeat' go_step
 refine C.mono ?_;rintro e w1 ⟨A,n,c,rfl,ho,hu⟩
 have U1:=hu.gives (b':=[]) (by simp)
 have h1:=h.aN hu
 have hl:=h1.look hx
 have q5:w1.cell? ⟨M.gs,5,none⟩=some (.map (some M.bs)):=h1.aO.cell 5
 obtain⟨hb,-,-⟩:=h1.sK x
 have C2:=Tu w1 (M.dA x) cP.zero hb.rd (bE.nil _ _)
 clear C h h1 q7 ho hu hb
 cases hq:aD x M.lv with
 |some y=>
  rw[hq]at HF
  refine wk ?_
  go_ret
  exact⟨by rw[HF.out];rfl,U1⟩
 |none=>
  rw[hq]at HF
  generalize M.dA x=y at *
  obtain⟨S,hS⟩:=bk (y.same cP.zero)
  rw[hS]at HF C2
  obtain⟨v,hv⟩:=bk y.val
  rw[hv]at hl C2
  simp only[cP.val,cP.zero]at C2
  repeat' first|go_guarded|go_step|simp only[];go_at_K
  refine C2.mono ?_;rintro e w2 ⟨rfl,bh⟩
  have U2:=U1.trans bh
  refine wk ?_
  go_ret
  exact⟨by rw[HF.out];rfl,U2⟩
theorem QQ(w:World)(M:ae)(h:aJ w M)(x:Int)(hx:0≤x∧x<4096)(y:cP)(hy:dj w y.sl)(gY:∀k∈ak y.A,k∉M.iz)(hp:y.b.length≤2048∧y.p.may 7=true∧y.at_.may 7=true) :
  Calls prog 131 #[M.ptr,.int .i64 x,y.val] w fun e w'=>e=.returned (.tuple #[])∧lY w w' M (M.pl.turn x y.pl):=by
 have eO:(Lit.int .i64 x).wf=true:=kt (by omega) (by omega)
 obtain⟨W,H,eW,hH,hB,U0⟩:=cb w 37 #[.int .i64 y.p.r,.int .i64 y.p.s,.bool y.so,.int .i64 y.at_.r,.int .i64 y.at_.s,.slice y.A y.n y.c]
 have h1:=h.aN U0
 have kx:=hy.aN U0
 obtain⟨w3,hrun,l7,U3⟩:=h1.drew.rN.store underlying3 underlying117 (by rw[lk];have:=h.SQ;unfold maxLen;omega) eO y.val
 rw[vQ,←fi]at l7
 have yC:=h.ok.turn hx (y:=y.pl) hp
 have FP:({M with st:=aT x y M.st} :ae).pl.Ok:=by
  refine⟨h.ok.me,h.ok.n3,h.ok.n7,h.ok.pat,?_,h.ok.rs,h.ok.top,h.ok.nx,h.ok.held⟩
  have:=yC.st
  simp only[Site.turn]at this
  rw[show(({M with st:=aT x y M.st} :ae).pl.st)=aT x y.pl (cD cP.pl M.st)from fi cP.pl x y M.st]
  exact this
 obtain⟨h3,V3⟩:=h1.drew.stats U3 l7 (fun p hp=>by
  rcases ec.1 hp with rfl|⟨hp,-⟩
  ·exact⟨kx.aN (ab.refl [] W).drew,gY⟩
  ·have:p.2.sl∈M.bytes:=by simp only[ae.bytes,mem_append];exact .inl (mem_map.2 ⟨_,hp,rfl⟩)
   exact⟨h1.drew.fu _ this,h1.bad _ this⟩) FP
 have kZ:=h3.aO.cc 6 (.int .i64 (max M.top (x+1)))
 have u5:ab [M.gs] [M.gs] w3 (w3.setCell ⟨M.gs,6,none⟩ (.int .i64 (max M.top (x+1)))):=(ab.refl [M.gs] w3).setCell (p:=⟨M.gs,6,none⟩) (.inl (by simp)) _
 have hpl:({M with st:=aT x y M.st,top:=max M.top (x+1)} :ae).pl=M.pl.turn x y.pl:=by
  unfold ae.pl Site.turn
  simp only[fi]
 have h6:=h3.yD M.down (max M.top (x+1)) M.nx u5 (by simpa[ae.cells]using kZ) (by rw[show({({M with st:=aT x y M.st} :ae)with down:=M.down,top:=max M.top (x+1),nx:=M.nx} :ae).pl=M.pl.turn x y.pl from hpl];exact yC)
 have V6:ab M.fp M.fp w (w3.setCell ⟨M.gs,6,none⟩ (.int .i64 (max M.top (x+1)))):=(((U0.up M.fp).drew.trans V3).gives (fun k hk=>.inl hk)).trans (u5.mono (fun k hk=>by simp only[mem_singleton]at hk;subst hk;simp[ae.fp]) (fun k hk=>.inr (.inl hk)))
 have bN:=aA (show lY w (w3.setCell ⟨M.gs,6,none⟩ (.int .i64 (max M.top (x+1)))) M (M.pl.turn x y.pl) from⟨_,h6,hpl,rfl,rfl,V6⟩)
 have q5:W.drew.cell? ⟨M.gs,5,none⟩=some (.map (some M.bs)):=h1.aO.cell 5
 have q6:w3.cell? ⟨M.gs,6,none⟩=some (.int .i64 M.top):=h3.aO.cell 6
 have f6:w3.frozen? ⟨M.gs,6,none⟩=false:=h3.aO.frozen 6
 have dC:=aL.wr (x+1)
 obtain⟨⟨a0,a1,a2,a3,a4,a5⟩,-⟩:=hB.drew.c6
 rw[ae.ptr]
 simp only[cP.val]at hrun ⊢
 clear yC FP h3 V3 h6 hpl V6 kZ u5 l7 U3 hp gY hy kx h h1 U0
 go_enter func131,ntmps131
 repeat' go_step
 go_region_law (first
  |(refine Cc rfl (.tmp 10) (.tmp 11) (.tmp 12) 117 rfl (.map (some M.bs)) (.int .i64 x) _ w3 rfl rfl rfl hrun ?_))
 all_goals (refine eH ?_)
 all_goals
  rw[show(if M.top<x+1 then x+1 else M.top)=max M.top (x+1) by split<;>omega]
  exact bodyPost_end (results_none rfl _ _ _) rfl ⟨rfl,bN.out⟩
end
theorem _root_.aL.ab.gu{a b:List Nat}{w w':World}(h:ab a b w w'){k:Nat}(hk:k∉a)(hl:k<w.heap.size):k∉b:=fun hm=>by
 rcases h.fresh k hm with h1|h1
 ·exact hk h1
 ·omega
section
variable [eA]
section
variable {w w':World} {M:ae}
theorem aJ.mZ(h:aJ w M){p:Int × bS}(hp:p∈M.rs){x:bO}(hx:x∈p.2.bytes):dj w x∧∀k∈ak x.A,k∉M.iz:=by
 have:x∈M.bytes:=by simp only[ae.bytes,mem_append,mem_flatMap];exact .inr (.inr (.inl ⟨p,hp,hx⟩))
 exact⟨h.fu x this,h.bad x this⟩
theorem aJ.SR(h:aJ w M)(hu:ab [M.br] [M.br] w w'){p:Int × bS}(hp:p∈M.rs):mT w' p.2:=by
 have hX:∀k∈[M.br],cl w k=some none:=by simp only[mem_singleton];rintro k rfl;exact h.tr
 exact(h.cI p hp).aq hu ((h.cI p hp).yE hX (by decide) (by decide) (by decide))
theorem aJ.P8(h:aJ w M)(x:Int)(hu:ab [M.br] [M.br] w w')(hm:cz prog 3 w' M.br (cD bS.ptr (bY x M.rs))) :
  aJ w' {M with rs:=bY x M.rs}∧ab M.fp ({M with rs:=bY x M.rs} :ae).fp w w':=by
 refine h.rounds hu (by simp) hm (fun p hp=>h.SR hu (fK.1 hp).1) (fun p hp k hk=>.inr ⟨p,(fK.1 hp).1,hk⟩) (h.fB.sublist filter_sublist) (fun p hp y hy=>h.mZ (fK.1 hp).1 hy) ?_
 have e:({M with rs:=bY x M.rs} :ae).pl= {M.pl with rs:=bY x M.pl.rs}:=by unfold ae.pl;simp only[lC]
 rw[e]
 exact h.ok.nu x
end
def dZ(w w':World)(M:ae)(s:Site):Prop:=∃M',aJ w' M'∧M'.pl=s∧M'.gs=M.gs∧ab M.fp M'.fp w w'
theorem tX(w:World)(M:ae)(h:aJ w M)(x:Int)(hx:0≤x∧x<4096)(B:Option Addr)(m d:Nat)(v:List UInt8)(hv:bE w B m v)(gi:v.length≤2048) :
  Calls prog 248 #[M.ptr,.int .i64 x,.slice B m d] w fun e w'=>e=.returned (.tuple #[])∧dZ w w' M (M.pl.aX x v)∧ab [M.bl,M.br] [M.bl,M.br] w w':=by
 have eO:(Lit.int .i64 x).wf=true:=kt (by omega) (by omega)
 have q7:w.cell? ⟨M.gs,7,none⟩=some (.pointer (some ⟨M.gl,0,none⟩)):=h.aO.cell 7
 have q8:w.cell? ⟨M.gs,8,none⟩=some (.map (some M.br)):=h.aO.cell 8
 have hpl:=ae.pq M x
 obtain⟨R,hR⟩:=bk (M.pl.aX x v)
 have zJ:=aA hR
 rw[hR]
 clear hR
 rw[ae.ptr]
 cases hl:aD x M.lv with
 |none=>
  rw[hl]at hpl
  have X8:pw M.lv x v=true:=by unfold pw;rw[hl];simp;omega
  have HR:R= {M.pl with lv:=aT x v M.pl.lv,rs:=bY x M.pl.rs}:=by
   rw[←zJ.out];unfold Site.aX Site.mw;rw[hpl];simp[hx,gi]
  have C:=GW w M.gl M.bl M.lv M.taken h.iH x B m d v hv X8
  have rO:=aA HR
  clear HR zJ hpl
  go_enter func248,ntmps248
  repeat' go_step
  refine C.mono ?_;rintro e w1 ⟨A,n,c,rfl,hL,ho,hA,hu⟩
  obtain⟨h1,V1⟩:=h.N8 (lv':=aT x ⟨A,n,c,v⟩ M.lv) (t':=M.taken) hu (fun k hk=>.inr (mem_singleton.1 hk)) hL (fun p hp=>by
   rcases ec.1 hp with rfl|⟨hp,-⟩
   ·exact⟨⟨ho.rd,ho.own.tag⟩,fun k hk hm=>by have h7:=hA k hk;have h8:=h.FO k hm;omega⟩
   ·have:p.2∈M.bytes:=by simp only[ae.bytes,mem_append];exact .inr (.inl (mem_map_of_mem hp))
    exact⟨(h.fu _ this).aq hu (fun k hk hm=>by
     rw[mem_singleton]at hm;subst hm
     exact bx ((h.fu _ this).tag _ hk) h.tb (by decide) rfl),h.bad _ this⟩) (h.ok.lv _)
  have r8:w1.cell? ⟨M.gs,8,none⟩=some (.map (some M.br)):=h1.aO.cell 8
  obtain⟨w2,hrun,ir,bh⟩:=h1.eY.drop underlying3 underlying119 eO 0
  rw[zC,←lC]at ir
  obtain⟨h2,V2⟩:=h1.P8 x bh ir
  have UU:ab [M.bl,M.br] [M.bl,M.br] w w2:=(hu.mono (by simp) (fun k hk=>.inr (.inl hk))).trans (bh.mono (by simp) (fun k hk=>.inr (.inl hk)))
  clear C hu hL
  clear ir bh
  refine wk ?_
  refine bodyPost_end (results_none rfl _ _ _) rfl ⟨rfl,⟨_,h2,?_,rfl,V1.trans V2⟩,UU⟩
  rw[rO.out]
  unfold ae.pl
  simp only[fi,lC]
 |some y=>
  rw[hl]at hpl
  have X8:pw M.lv x v=false:=by unfold pw;rw[hl];simp
  have C:=GV w M.gl M.bl M.lv M.taken h.iH h.yw x eO B m d v hv X8
  by_cases hy:y.b=v
  ·have HR:R= {M.pl with rs:=bY x M.pl.rs}:=by
    rw[←zJ.out];unfold Site.aX Site.mw;rw[hpl];simp[hx,gi,hy]
   have hc:jR M.lv x v=0:=by unfold jR;rw[if_neg (by omega),hl];simp[hy]
   rw[hc]at C
   have rO:=aA HR
   clear HR zJ hpl hc hy
   go_enter func248,ntmps248
   repeat' go_step
   refine C.mono ?_;rintro e w1 ⟨rfl,rfl⟩
   obtain⟨w2,hrun,ir,bh⟩:=h.eY.drop underlying3 underlying119 eO 0
   rw[zC,←lC]at ir
   obtain⟨h2,V2⟩:=h.P8 x bh ir
   have UU:ab [M.bl,M.br] [M.bl,M.br] w w2:=bh.mono (by simp) (fun k hk=>.inr (.inl hk))
   clear ir bh
   refine wk ?_
   refine bodyPost_end (results_none rfl _ _ _) rfl ⟨rfl,⟨_,h2,?_,rfl,V2⟩,UU⟩
   rw[rO.out]
   unfold ae.pl
   simp only[lC]
  ·have HR:R=M.pl:=by
    rw[←zJ.out];unfold Site.aX Site.mw;rw[hpl];simp[hx,gi,hy]
   have hc:jR M.lv x v=7:=by unfold jR;rw[if_neg (by omega),hl];simp[hy]
   rw[hc]at C
   have rO:=aA HR
   clear HR zJ hpl hc hy
   go_enter func248,ntmps248
   repeat' go_step
   refine C.mono ?_;rintro e w1 ⟨rfl,rfl⟩
   refine wk ?_
   exact bodyPost_end (results_none rfl _ _ _) rfl ⟨rfl,⟨M,h,rO.out.symm,rfl,ab.refl _ _⟩,ab.refl _ _⟩
end
theorem qY(w:World):Calls prog 17 #[.pointer none] w fun e w'=>e=.returned (.bool true)∧w=w':=by
 go_enter func17,ntmps17
 refine wk ?_
 go_ret
 exact⟨rfl,rfl⟩
variable [eA]
theorem lE(w:World)(M:ae)(h:aJ w M):Calls prog 17 #[M.ptr] w fun e w'=>e=.returned (.bool M.pl.down)∧w=w':=by
 have q3:w.cell? ⟨M.gs,3,none⟩=some (.bool M.down):=h.aO.cell 3
 have e1:M.pl.down=M.down:=rfl
 rw[e1,ae.ptr]
 clear h
 go_enter func17,ntmps17
 refine wk ?_
 go_ret
 exact⟨rfl,rfl⟩
end Go.Proofs.YtijhlbeipglieaaGreat
namespace aL
open Go List
section
variable {α:Type}
theorem Ky{e:Int × α} :∀{L:AL α},(∀p∈L,e.1<p.1)→gK e L=e::L
 |[],_=>rfl
 |y::r,h=>by unfold gK;rw[if_pos (h y (by simp))]
theorem ya{x:Int}{v:α} :∀{L:AL α},L.Pairwise (fun p q=>p.1<q.1)→(∃r,(x,r)∈L)→aT x v L=L.map fun p=>if p.1=x then(p.1,v)else p
 |[],_,h=>by obtain⟨r,h⟩:=h;cases h
 |y::r,hp,h=>by
  rw[pairwise_cons]at hp
  by_cases e:y.1=x
  ·have hd:bY x (y::r)=r:=by
    unfold bY
    rw[filter_cons,if_neg (by simp[e]),filter_eq_self]
    intro p hq
    have:=hp.1 p hq
    simp;omega
   unfold aT
   rw[hd,Ky (fun p hq=>by have:=hp.1 p hq;show x<p.1;omega),map_cons,if_pos e,e]
   congr 1
   symm
   refine(map_congr_left fun p hq=>?_).trans (map_id r)
   have:=hp.1 p hq
   rw[if_neg (by omega)];rfl
  ·have h':∃z,(x,z)∈r:=by
    obtain⟨z,hz⟩:=h
    rcases mem_cons.1 hz with rfl|hz
    ·exact absurd rfl e
    ·exact⟨z,hz⟩
   obtain⟨z,hz⟩:=h'
   have hlt:=hp.1 _ hz
   have ih:=ya (v:=v) hp.2 ⟨z,hz⟩
   unfold aT at ih ⊢
   have hd:bY x (y::r)=y::bY x r:=by
    unfold bY
    rw[filter_cons,if_pos (by simp[e])]
   rw[hd,map_cons,if_neg e,←ih]
   conv=>lhs;unfold gK
   rw[if_neg (by show ¬ x<y.1;simp only at hlt;omega)]
theorem pV{L:AL α}(h:L.Pairwise fun p q=>p.1<q.1){x:Int}{a b:α}(ha:(x,a)∈L)(hb:(x,b)∈L):a=b:=by
 induction L with
 |nil=>cases ha
 |cons y r ih=>
  rw[pairwise_cons]at h
  rcases mem_cons.1 ha with rfl|vj<;>rcases mem_cons.1 hb with qv|qv
  ·injection qv with _ e;exact e.symm
  ·have:=h.1 _ qv;simp at this
  ·subst qv;have:=h.1 _ vj;simp at this
  ·exact ih h.2 vj qv
theorem FQ{R:α→α→Prop}{L:List α}(h:L.Pairwise R){a b:α}(ha:a∈L)(hb:b∈L):a=b∨R a b∨R b a:=by
 induction L with
 |nil=>cases ha
 |cons y r ih=>
  rw[pairwise_cons]at h
  rcases mem_cons.1 ha with rfl|vj<;>rcases mem_cons.1 hb with rfl|qv
  ·exact .inl rfl
  ·exact .inr (.inl (h.1 _ qv))
  ·exact .inr (.inr (h.1 _ vj))
  ·exact ih h.2 vj qv
end
def oG(p q:Int × bS):Prop:=p.2.g≠q.2.g∧(∀k∈ak p.2.PA,k∉ak q.2.PA)∧∀k∈ak p.2.VA,k∉ak q.2.VA
theorem oG.symm{p q:Int × bS}(h:oG p q):oG q p:=⟨h.1.symm,fun k hk hm=>h.2.1 k hm hk,fun k hk hm=>h.2.2 k hm hk⟩
end aL
namespace Go.Proofs.YtijhlbeipglieaaGreat
open Go.RowKit aL Go.Maps Tryz List
theorem LR(w:World):(zeroValue 128).run prog w=.ok (.pointer none) w:=zeroValue128 w
variable [eA]
section
variable {w w':World} {M:ae}
theorem aJ.DL(h:aJ w M):M.rs.Pairwise fun p q=>p.1<q.1:=by
 have hs:=h.eY.sorted (int_keyed underlying3)
 unfold cD at hs
 rw[pairwise_map]at hs
 exact hs
theorem aJ.apart(h:aJ w M){p q:Int × bS}(hp:p∈M.rs)(hq:q∈M.rs)(hne:p.1≠q.1):oG p q:=by
 rcases FQ (R:=oG) h.fB hp hq with e|e|e
 ·exact absurd (by rw[e]) hne
 ·exact e
 ·exact e.symm
theorem aJ.Jz(h:aJ w M){x:Int}{r:bS}(hl:aD x M.rs=some r)(r':bS)(hg:r'.g=r.g){X b:List Nat}(hX:∀k∈X,k∈r.fp)(hu:ab X b w w')(fP:mT w' r')(hP:∀k∈ak r'.PA,k∈ak r.PA∨w.heap.size≤k)(hV:∀k∈ak r'.VA,k∈ak r.VA∨w.heap.size≤k)(hb:∀y∈r'.bytes,dj w y∧∀k∈ak y.A,k∉M.iz)(ef:r'.pl.b.length≤2048∧r'.pl.aC.may 7=true∧∀q∈r'.pl.pr,q.b.length≤2048) :
  aJ w' {M with rs:=aT x r' M.rs}∧ab M.fp ({M with rs:=aT x r' M.rs} :ae).fp w w':=by
 have cL:=bG hl
 have hs:=h.DL
 have hput:=ya (v:=r') hs ⟨r,cL⟩
 have hk:∀k∈r'.fp,w.heap.size≤k∨k∈r.fp:=fun k hk=>by
  simp only[bS.fp,mem_cons,mem_append]at hk ⊢
  rcases hk with rfl|hk|hk
  ·exact .inr (.inl hg)
  ·rcases hP k hk with h1|h1
   ·exact .inr (.inr (.inl h1))
   ·exact .inl h1
  ·rcases hV k hk with h1|h1
   ·exact .inr (.inr (.inr h1))
   ·exact .inl h1
 have hx:0≤x∧x<4096:=by
  have:=h.ok.rs (x,r.pl) (mem_map.2 ⟨_,cL,rfl⟩)
  exact⟨this.1,this.2.1⟩
 refine h.rounds hu (fun k hk=>.inr ⟨_,cL,hX k hk⟩) ?_ ?_ ?_ ?_ ?_ ?_
 ·have hm:=h.eY.aq hu (fun hm=>by
   have:=hX _ hm
   simp only[bS.fp,mem_cons,mem_append]at this
   rcases this with e|e|e
   ·exact bx h.tr (h.cI _ cL).tg (by decide) e
   ·exact bx h.tr ((h.cI _ cL).tP _ e) (by decide) rfl
   ·exact bx h.tr ((h.cI _ cL).tV _ e) (by decide) rfl)
  have e:cD bS.ptr (aT x r' M.rs)=cD bS.ptr M.rs:=by
   rw[hput]
   unfold cD
   rw[map_map]
   refine map_congr_left fun p hp=>?_
   simp only[Function.comp]
   split
   ·rename_i e1
    have:p.2=r:=pV hs (x:=x) (by rw[←e1];exact hp) cL
    rw[this]
    unfold bS.ptr
    rw[hg]
   ·rfl
  rw[e];exact hm
 ·intro p hp
  rcases ec.1 hp with rfl|⟨hp,hne⟩
  ·exact fP
  ·have hf:=h.apart hp cL hne
   have rp:=h.cI p hp
   have rr:=h.cI _ cL
   refine rp.aq hu (fun k hk hm=>?_)
   have hm:=hX k hm
   simp only[bS.fp,mem_cons,mem_append]at hk hm
   rcases hk with rfl|hk|hk<;>rcases hm with e|e|e
   ·exact hf.1 e
   ·exact bx rp.tg (rr.tP _ e) (by decide) rfl
   ·exact bx rp.tg (rr.tV _ e) (by decide) rfl
   ·subst e;exact bx (rp.tP _ hk) rr.tg (by decide) rfl
   ·exact hf.2.1 k hk e
   ·exact bx (rp.tP _ hk) (rr.tV _ e) (by decide) rfl
   ·subst e;exact bx (rp.tV _ hk) rr.tg (by decide) rfl
   ·exact bx (rp.tV _ hk) (rr.tP _ e) (by decide) rfl
   ·exact hf.2.2 k hk e
 ·intro p hp k jH
  rcases ec.1 hp with rfl|⟨hp,-⟩
  ·rcases hk k jH with h1|h1
   ·exact .inl h1
   ·exact .inr ⟨_,cL,h1⟩
  ·exact .inr ⟨p,hp,jH⟩
 ·rw[hput,pairwise_map]
  refine(hs.and (h.fB:M.rs.Pairwise oG)).imp_of_mem fun {p q} hp hq XQ=>?_
  obtain⟨hlt,hf⟩:=XQ
  have new:∀{z:Int × bS},z∈M.rs→oG (x,r) z→oG (x,r') z:=fun {z} hz hf=>by
   refine⟨by show r'.g≠z.2.g;rw[hg];exact hf.1,fun k oq hm=>?_,fun k oq hm=>?_⟩
   ·rcases hP k oq with h1|h1
    ·exact hf.2.1 k h1 hm
    ·have:=fJ ((h.cI z hz).tP k hm);omega
   ·rcases hV k oq with h1|h1
    ·exact hf.2.2 k h1 hm
    ·have:=fJ ((h.cI z hz).tV k hm);omega
  show oG (if p.1=x then(p.1,r')else p) (if q.1=x then(q.1,r')else q)
  by_cases e1:p.1=x
  ·have ep:p=(x,r):=by
    have:p.2=r:=pV hs (x:=x) (by rw[←e1];exact hp) cL
    rw[←e1,←this]
   rw[if_pos e1,if_neg (by omega),e1]
   exact new hq (ep▸hf)
  ·rw[if_neg e1]
   by_cases e2:q.1=x
   ·have eq_:q=(x,r):=by
     have:q.2=r:=pV hs (x:=x) (by rw[←e2];exact hq) cL
     rw[←e2,←this]
    rw[if_pos e2,e2]
    exact oG.symm (new hp (eq_▸oG.symm hf))
   ·rw[if_neg e2];exact hf
 ·intro p hp y hy
  rcases ec.1 hp with rfl|⟨hp,-⟩
  ·exact hb y hy
  ·exact h.mZ hp hy
 ·have e:({M with rs:=aT x r' M.rs} :ae).pl= {M.pl with rs:=aT x r'.pl M.pl.rs}:=by unfold ae.pl;simp only[fi]
  rw[e]
  exact h.ok.fH hx ef
theorem aJ.X9(h:aJ w M){x:Int}(hx:0≤x∧x<4096)(r':bS){w1:World}(bn:ab [] r'.fp w w1)(hr1:mT w1 r')(hu:ab [M.br] [M.br] w1 w')(hm:cz prog 3 w' M.br (cD bS.ptr (aT x r' M.rs)))(hb:∀y∈r'.bytes,dj w y∧∀k∈ak y.A,k∉M.iz)(ef:r'.pl.b.length≤2048∧r'.pl.aC.may 7=true∧∀q∈r'.pl.pr,q.b.length≤2048) :
  aJ w' {M with rs:=aT x r' M.rs}∧ab M.fp ({M with rs:=aT x r' M.rs} :ae).fp w w':=by
 have h1:=h.aN bn
 have oE:∀k∈r'.fp,w.heap.size≤k:=fun k hk=>by
  rcases bn.fresh k hk with h1|h1
  ·cases h1
  ·exact h1
 have hU:ab [M.br] (M.br::r'.fp) w w':=(bn.mono (a':=[M.br]) (b':=M.br::r'.fp) (by simp) (fun k hk=>by
  rcases mem_cons.1 hk with rfl|hk
  ·exact .inr (.inl (by simp))
  ·exact .inl hk)).trans (hu.mono (a':=M.br::r'.fp) (b':=M.br::r'.fp) (by simp) (fun k hk=>.inr (.inl hk)))
 have hX:∀k∈[M.br],cl w1 k=some none:=by simp only[mem_singleton];rintro k rfl;exact h1.tr
 refine h.rounds hU (by simp) hm ?_ ?_ ?_ ?_ ?_
 ·intro p hp
  rcases ec.1 hp with rfl|⟨hp,-⟩
  ·exact hr1.aq hu (hr1.yE hX (by decide) (by decide) (by decide))
  ·exact h1.SR hu hp
 ·intro p hp k jH
  rcases ec.1 hp with rfl|⟨hp,-⟩
  ·exact .inl (oE k jH)
  ·exact .inr ⟨p,hp,jH⟩
 ·show(aT x r' M.rs).Pairwise oG
  unfold aT
  rw[(vk (x,r') (bY x M.rs)).pairwise_iff (fun {a b} pP=>oG.symm pP),pairwise_cons]
  refine⟨fun q hq=>?_,h.fB.sublist filter_sublist⟩
  have hq:=(fK.1 hq).1
  have rq:=h.cI q hq
  refine⟨fun e=>?_,fun k hk hm=>?_,fun k hk hm=>?_⟩
  ·have h7:=oE r'.g (by simp[bS.fp]);have h8:=fJ rq.tg;simp only at e;omega
  ·have h7:=oE k (by simp[bS.fp,hk]);have h8:=fJ (rq.tP k hm);omega
  ·have h7:=oE k (by simp[bS.fp,hk]);have h8:=fJ (rq.tV k hm);omega
 ·intro p hp y hy
  rcases ec.1 hp with rfl|⟨hp,-⟩
  ·exact hb y hy
  ·exact h.mZ hp hy
 ·have e:({M with rs:=aT x r' M.rs} :ae).pl= {M.pl with rs:=aT x r'.pl M.pl.rs}:=by unfold ae.pl;simp only[fi]
  rw[e]
  exact h.ok.fH hx ef
theorem aJ.Dm(h:aJ w M){x:Int}(hx:(Lit.int .i64 x).wf=true) :
  (Instr.lookup 119 (.map (some M.br)) (.int .i64 x) true).run prog w=.ok (.tuple #[((aD x M.rs).map bS.ptr).getD (.pointer none),.bool (aD x M.rs).isSome]) w:=by
 have:=h.eY.look_ok underlying3 underlying119 (LR w) hx
 rw[lK,eB]at this
 simpa using this
end
