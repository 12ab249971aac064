/- For SitePlays. -/
import Derived.Test.YtijhlbeipglieaaGreatPkSiteA
set_option linter.all false
set_option maxRecDepth 100000
set_option maxHeartbeats 2000000
namespace aA
open Go List
def aN.zero:aN:=⟨⟨0,0⟩,false,⟨0,0⟩,none,0,0,[]⟩
theorem aN.Yo:aN.zero.pl=Sp.zero:=rfl
theorem aN.Mr(x y:aN):x.same y=x.pl.same y.pl:=rfl
end aA
namespace Go.Proofs.YtijhlbeipglieaaGreat
open Go.RowKit aA Go.Maps Tryz List
def af.bZ(M:af)(x:Int):aN:=(aC x M.st).getD aN.zero
theorem af.nU(M:af)(x:Int):(M.bZ x).pl=M.pl.stat x:=by
 unfold af.bZ Site.stat
 show _=(aC x (bS aN.pl M.st)).getD Sp.zero
 rw[fH]
 cases aC x M.st<;>rfl
theorem af.qX(M:af)(x:Int):M.pl.dec x=(aC x M.lv).map aM.b:=by
 unfold Site.dec
 show aC x (bS aM.b M.lv)=_
 rw[fH]
theorem Yp(w:World):(zeroValue 37).run prog w=.ok aN.zero.val w:=zeroValue37 w
section
variable [eU]
section
variable {w:World} {M:af}
theorem ay.look(h:ay w M){x:Int}(hx:(Lit.int .i64 x).wf=true) :
  (Instr.lookup 117 (.map (some M.bs)) (.int .i64 x) false).run prog w=.ok (M.bZ x).val w:=by
 have:=h.vG.look underlying3 underlying117 (Yp w) hx
 rw[qj,fH]at this
 rw[this]
 unfold af.bZ
 cases aC x M.st<;>rfl
theorem ay.tJ(h:ay w M)(x:Int):dF w (M.bZ x).sl∧(∀k∈ah (M.bZ x).A,k∉M.iV)∧(M.bZ x).b.length≤2048:=by
 unfold af.bZ
 cases hl:aC x M.st with
 |none=>exact⟨⟨aD.nil _ _,by simp[aN.zero,aN.sl,ah]⟩,by simp[aN.zero,ah],by simp[aN.zero]⟩
 |some y=>
  have hm:=aY hl
  have:y.sl∈M.bytes:=by simp only[af.bytes,mem_append];exact .inl (mem_map.2 ⟨_,hm,rfl⟩)
  exact⟨h.gB _ this,h.bad _ this,(h.ok.st (x,y.pl) (mem_map.2 ⟨_,hm,rfl⟩)).2.2.1⟩
theorem ay.yJ(h:ay w M):∀p∈M.lv,p.2.rd w:=fun p hp=>
 (h.gB p.2 (by simp only[af.bytes,mem_append];exact .inr (.inl (mem_map_of_mem hp)))).rd
theorem ay.Xk(h:ay w M):M.st.length≤4096:=by
 have hs:=h.vG.sorted (int_keyed underlying3)
 have:=sI (M.st.map Prod.fst) 0 4096 (by
  unfold bS at hs
  rw[pairwise_map]at hs ⊢
  exact hs) (fun x hx=>by
  obtain⟨p,hp,rfl⟩:=mem_map.1 hx
  have:=h.ok.st (p.1,p.2.pl) (mem_map.2 ⟨_,hp,rfl⟩)
  exact⟨this.1,this.2.1⟩) (by omega)
 simp at this
 omega
theorem ay.NL(h:ay w M):M.rs.length≤4096:=by
 have hs:=h.nN.sorted (int_keyed underlying3)
 have:=sI (M.rs.map Prod.fst) 0 4096 (by
  unfold bS at hs
  rw[pairwise_map]at hs ⊢
  exact hs) (fun x hx=>by
  obtain⟨p,hp,rfl⟩:=mem_map.1 hx
  have:=h.ok.rs (p.1,p.2.pl) (mem_map.2 ⟨_,hp,rfl⟩)
  exact⟨this.1,this.2.1⟩) (by omega)
 simp at this
 omega
end
theorem yO(w:World)(M:af)(h:ay w M)(x:Int)(hx:(Lit.int .i64 x).wf=true) :
  Calls prog 60 #[M.ptr,.int .i64 x] w fun e w'=>e=.returned (.bool (M.pl.fresh x))∧aa [] [] w w':=by
 have C:=qy w M.gl M.bl M.lv M.taken h.jm h.yJ x hx
 have q7:w.cell? ⟨M.gs,7,none⟩=some (.pointer (some ⟨M.gl,0,none⟩)):=h.blk.cell 7
 have HF:=hdn (show M.pl.fresh x=((aC x M.lv).isNone&&(M.bZ x).same aN.zero) by
  unfold Site.fresh;rw[af.qX,←af.nU,aN.Mr,aN.Yo];simp)
 obtain⟨R,hR⟩:=ex1 (M.pl.fresh x)
 rw[hR]at HF ⊢
 rw[af.ptr]
 go_enter func60,ntmps60
 repeat' go_step
 refine C.mono ?_;rintro e w1 ⟨A,n,c,rfl,ho,hu⟩
 have U1:=hu.g0
 have h1:=h.au hu
 have hl:=h1.look hx
 have q5:w1.cell? ⟨M.gs,5,none⟩=some (.map (some M.bs)):=h1.blk.cell 5
 obtain⟨hb,-,-⟩:=h1.tJ x
 have C2:=XL w1 (M.bZ x) aN.zero hb.rd (aD.nil _ _)
 clear C h h1 q7 ho hu hb
 cases hq:aC x M.lv with
 |some y=>
  rw[hq]at HF
  refine wk ?_
  go_ret
  exact⟨by rw[HF.out];rfl,U1⟩
 |none=>
  rw[hq]at HF
  generalize M.bZ x=y at *
  obtain⟨S,hS⟩:=ex1 (y.same aN.zero)
  rw[hS]at HF C2
  obtain⟨v,hv⟩:=ex1 y.val
  rw[hv]at hl C2
  simp only[aN.val,aN.zero]at C2
  repeat' first|go_guarded|go_step|simp only[];go_at_K
  refine C2.mono ?_;rintro e w2 ⟨rfl,hu2⟩
  have U2:=U1.trans hu2
  refine wk ?_
  go_ret
  exact⟨by rw[HF.out];rfl,U2⟩
theorem Vx(w:World)(M:af)(h:ay w M)(x:Int)(hx:0≤x∧x<4096)(y:aN)(hy:dF w y.sl)(adk:∀k∈ah y.A,k∉M.iV)(hp:y.b.length≤2048∧y.p.may 7=true∧y.at_.may 7=true) :
  Calls prog 131 #[M.ptr,.int .i64 x,y.val] w fun e w'=>e=.returned (.tuple #[])∧Goes w w' M (M.pl.turn x y.pl):=by
 have hwf:(Lit.int .i64 x).wf=true:=jV (by omega) (by omega)
 obtain⟨W,H,eW,hH,hB,U0⟩:=az w 37 #[.int .i64 y.p.r,.int .i64 y.p.s,.bool y.so,.int .i64 y.at_.r,.int .i64 y.at_.s,.slice y.A y.n y.c]
 have h1:=h.au U0
 have hy1:=hy.au U0
 obtain⟨w3,abS,qb,U3⟩:=h1.drew.vG.store underlying3 underlying117 (by rw[mE];have:=h.Xk;unfold maxLen;omega) hwf y.val
 rw[yR,←fE]at qb
 have BL:=h.ok.turn hx (y:=y.pl) hp
 have ah9:({M with st:=aG x y M.st} :af).pl.Ok:=by
  refine⟨h.ok.me,h.ok.n3,h.ok.n7,h.ok.pat,?_,h.ok.rs,h.ok.top,h.ok.nx,h.ok.held⟩
  have:=BL.st
  simp only[Site.turn]at this
  rw[show(({M with st:=aG x y M.st} :af).pl.st)=aG x y.pl (bS aN.pl M.st)from fE aN.pl x y M.st]
  exact this
 obtain⟨h3,V3⟩:=h1.drew.stats U3 qb (fun p hp=>by
  rcases eY.1 hp with rfl|⟨hp,-⟩
  ·exact⟨hy1.au (aa.refl [] W).drew,adk⟩
  ·have:p.2.sl∈M.bytes:=by simp only[af.bytes,mem_append];exact .inl (mem_map.2 ⟨_,hp,rfl⟩)
   exact⟨h1.drew.gB _ this,h1.bad _ this⟩) ah9
 have fw:=h3.blk.aO 6 (.int .i64 (max M.top (x+1)))
 have u5:aa [M.gs] [M.gs] w3 (w3.setCell ⟨M.gs,6,none⟩ (.int .i64 (max M.top (x+1)))):=(aa.refl [M.gs] w3).setCell (p:=⟨M.gs,6,none⟩) (.inl (by simp)) _
 have hpl:({M with st:=aG x y M.st,top:=max M.top (x+1)} :af).pl=M.pl.turn x y.pl:=by
  unfold af.pl Site.turn
  simp only[fE]
 have h6:=h3.BM M.down (max M.top (x+1)) M.nx u5 (by simpa[af.cells]using fw) (by rw[show({({M with st:=aG x y M.st} :af)with down:=M.down,top:=max M.top (x+1),nx:=M.nx} :af).pl=M.pl.turn x y.pl from hpl];exact BL)
 have V6:aa M.fp M.fp w (w3.setCell ⟨M.gs,6,none⟩ (.int .i64 (max M.top (x+1)))):=(((U0.up M.fp).drew.trans V3).gives (fun k hk=>.inl hk)).trans (u5.mono (fun k hk=>by simp only[mem_singleton]at hk;subst hk;simp[af.fp]) (fun k hk=>.inr (.inl hk)))
 have KEY:=hdn (show Goes w (w3.setCell ⟨M.gs,6,none⟩ (.int .i64 (max M.top (x+1)))) M (M.pl.turn x y.pl) from⟨_,h6,hpl,rfl,rfl,V6⟩)
 have q5:W.drew.cell? ⟨M.gs,5,none⟩=some (.map (some M.bs)):=h1.blk.cell 5
 have q6:w3.cell? ⟨M.gs,6,none⟩=some (.int .i64 M.top):=h3.blk.cell 6
 have f6:w3.frozen? ⟨M.gs,6,none⟩=false:=h3.blk.frozen 6
 have hw1:=aA.wr (x+1)
 obtain⟨⟨a0,a1,a2,a3,a4,a5⟩,-⟩:=hB.drew.c6
 rw[af.ptr]
 simp only[aN.val]at abS ⊢
 clear BL ah9 h3 V3 h6 hpl V6 fw u5 qb U3 hp adk hy hy1 h h1 U0
 go_enter func131,ntmps131
 repeat' go_step
 go_region_law (first
  |(refine yQ rfl (.tmp 10) (.tmp 11) (.tmp 12) 117 rfl (.map (some M.bs)) (.int .i64 x) _ w3 rfl rfl rfl abS ?_))
 all_goals (refine bN ?_)
 all_goals
  rw[show(if M.top<x+1 then x+1 else M.top)=max M.top (x+1) by split<;>omega]
  exact enR ⟨rfl,KEY.out⟩
theorem oF(w:World)(M:af)(h:ay w M):Calls prog 17 #[M.ptr] w fun e w'=>e=.returned (.bool M.pl.down)∧w=w':=by
 have q3:w.cell? ⟨M.gs,3,none⟩=some (.bool M.down):=h.blk.cell 3
 have e1:M.pl.down=M.down:=rfl
 rw[e1,af.ptr]
 clear h
 go_enter func17,ntmps17
 refine wk ?_
 go_ret
 exact⟨rfl,rfl⟩
theorem Ao(w:World)(M:af)(h:ay w M)(x:Int)(hx:(Lit.int .i64 x).wf=true) :
  Calls prog 33 #[M.ptr,.int .i64 x] w fun e w'=>∃A n c,e=.returned (.tuple #[.slice A n c,.bool (M.pl.dec x).isSome])∧aT 5 w' A n c ((M.pl.dec x).getD [])∧aa [] (ah A) w w':=by
 have C:=qy w M.gl M.bl M.lv M.taken h.jm h.yJ x hx
 have q7:w.cell? ⟨M.gs,7,none⟩=some (.pointer (some ⟨M.gl,0,none⟩)):=h.blk.cell 7
 rw[af.qX,Option.isSome_map]
 rw[af.ptr]
 go_enter func33,ntmps33
 repeat' go_step
 refine C.mono ?_;rintro e w1 ⟨A,n,c,rfl,ho,hu⟩
 clear C
 refine wk ?_
 go_ret2
 exact⟨A,n,c,rfl,ho,hu⟩
end
theorem _root_.aA.aa.eQ{a b:List Nat}{w w':World}(h:aa a b w w'){k:Nat}(hk:k∉a)(hl:k<w.heap.size):k∉b:=fun hm=>by
 rcases h.fresh k hm with h1|h1
 ·exact hk h1
 ·omega
variable [eU]
section
variable {w w':World} {M:af}
theorem ay.o8(h:ay w M){p:Int × aS}(hp:p∈M.rs){x:aM}(hx:x∈p.2.bytes):dF w x∧∀k∈ah x.A,k∉M.iV:=by
 have:x∈M.bytes:=by simp only[af.bytes,mem_append,mem_flatMap];exact .inr (.inr (.inl ⟨p,hp,hx⟩))
 exact⟨h.gB x this,h.bad x this⟩
theorem ay.Xl(h:ay w M)(hu:aa [M.br] [M.br] w w'){p:Int × aS}(hp:p∈M.rs):o6 w' p.2:=by
 have hX:∀k∈[M.br],bW w k=some none:=by simp only[mem_singleton];rintro k rfl;exact h.tr
 exact(h.bV p hp).upd hu ((h.bV p hp).BN hX (by decide) (by decide) (by decide))
theorem ay.qx(h:ay w M)(x:Int)(hu:aa [M.br] [M.br] w w')(hm:bP prog 3 w' M.br (bS aS.ptr (dD x M.rs))) :
  ay w' {M with rs:=dD x M.rs}∧aa M.fp ({M with rs:=dD x M.rs} :af).fp w w':=by
 refine h.rounds hu (by simp) hm (fun p hp=>h.Xl hu (gU.1 hp).1) (fun p hp k hk=>.inr ⟨p,(gU.1 hp).1,hk⟩) (h.far.sublist filter_sublist) (fun p hp y hy=>h.o8 (gU.1 hp).1 hy) ?_
 have e:({M with rs:=dD x M.rs} :af).pl= {M.pl with rs:=dD x M.pl.rs}:=by unfold af.pl;simp only[mI]
 rw[e]
 exact h.ok.Cx x
end
def Gone(w w':World)(M:af)(s:Site):Prop:=∃M',ay w' M'∧M'.pl=s∧M'.gs=M.gs∧aa M.fp M'.fp w w'
theorem xk(w:World)(M:af)(h:ay w M)(x:Int)(hx:0≤x∧x<4096)(B:Option Addr)(m d:Nat)(v:List UInt8)(hv:aD w B m v)(hvl:v.length≤2048) :
  Calls prog 248 #[M.ptr,.int .i64 x,.slice B m d] w fun e w'=>e=.returned (.tuple #[])∧Gone w w' M (M.pl.bE x v)∧aa [M.bl,M.br] [M.bl,M.br] w w':=by
 have hwf:(Lit.int .i64 x).wf=true:=jV (by omega) (by omega)
 have q7:w.cell? ⟨M.gs,7,none⟩=some (.pointer (some ⟨M.gl,0,none⟩)):=h.blk.cell 7
 have q8:w.cell? ⟨M.gs,8,none⟩=some (.map (some M.br)):=h.blk.cell 8
 have hpl:=af.qX M x
 obtain⟨R,hR⟩:=ex1 (M.pl.bE x v)
 have CX:=hdn hR
 rw[hR]
 clear hR
 rw[af.ptr]
 cases hl:aC x M.lv with
 |none=>
  rw[hl]at hpl
  have hpi:qY M.lv x v=true:=by unfold qY;rw[hl];simp;omega
  have HR:R= {M.pl with lv:=aG x v M.pl.lv,rs:=dD x M.pl.rs}:=by
   rw[←CX.out];unfold Site.bE Site.sG;rw[hpl];simp[hx,hvl]
  have C:=KW w M.gl M.bl M.lv M.taken h.jm x B m d v hv hpi
  have vH:=hdn HR
  clear HR CX hpl
  go_enter func248,ntmps248
  repeat' go_step
  refine C.mono ?_;rintro e w1 ⟨A,n,c,rfl,hL,ho,hA,hu⟩
  obtain⟨h1,V1⟩:=h.ajQ (lv':=aG x ⟨A,n,c,v⟩ M.lv) (t':=M.taken) hu (fun k hk=>.inr (mem_singleton.1 hk)) hL (fun p hp=>by
   rcases eY.1 hp with rfl|⟨hp,-⟩
   ·exact⟨⟨ho.rd,ho.own.tag⟩,fun k hk hm=>by have h7:=hA k hk;have h8:=h.JZ k hm;omega⟩
   ·have:p.2∈M.bytes:=by simp only[af.bytes,mem_append];exact .inr (.inl (mem_map_of_mem hp))
    exact⟨(h.gB _ this).upd hu (fun k hk hm=>by
     rw[mem_singleton]at hm;subst hm
     exact aU ((h.gB _ this).tag _ hk) h.tb (by decide) rfl),h.bad _ this⟩) (h.ok.lv _)
  have r8:w1.cell? ⟨M.gs,8,none⟩=some (.map (some M.br)):=h1.blk.cell 8
  obtain⟨w2,abS,hm2,hu2⟩:=h1.nN.drop underlying3 underlying119 hwf 0
  rw[Cr,←mI]at hm2
  obtain⟨h2,V2⟩:=h1.qx x hu2 hm2
  have UU:aa [M.bl,M.br] [M.bl,M.br] w w2:=(hu.mono (by simp) (fun k hk=>.inr (.inl hk))).trans (hu2.mono (by simp) (fun k hk=>.inr (.inl hk)))
  clear C hu hL
  clear hm2 hu2
  refine wk ?_
  refine bodyPost_end (results_none rfl _ _ _) rfl ⟨rfl,⟨_,h2,?_,rfl,V1.trans V2⟩,UU⟩
  rw[vH.out]
  unfold af.pl
  simp only[fE,mI]
 |some y=>
  rw[hl]at hpl
  have hpi:qY M.lv x v=false:=by unfold qY;rw[hl];simp
  have C:=KT w M.gl M.bl M.lv M.taken h.jm h.yJ x hwf B m d v hv hpi
  by_cases hy:y.b=v
  ·have HR:R= {M.pl with rs:=dD x M.pl.rs}:=by
    rw[←CX.out];unfold Site.bE Site.sG;rw[hpl];simp[hx,hvl,hy]
   have hc:kg M.lv x v=0:=by unfold kg;rw[if_neg (by omega),hl];simp[hy]
   rw[hc]at C
   have vH:=hdn HR
   clear HR CX hpl hc hy
   go_enter func248,ntmps248
   repeat' go_step
   refine C.mono ?_;rintro e w1 ⟨rfl,rfl⟩
   obtain⟨w2,abS,hm2,hu2⟩:=h.nN.drop underlying3 underlying119 hwf 0
   rw[Cr,←mI]at hm2
   obtain⟨h2,V2⟩:=h.qx x hu2 hm2
   have UU:aa [M.bl,M.br] [M.bl,M.br] w w2:=hu2.mono (by simp) (fun k hk=>.inr (.inl hk))
   clear hm2 hu2
   refine wk ?_
   refine bodyPost_end (results_none rfl _ _ _) rfl ⟨rfl,⟨_,h2,?_,rfl,V2⟩,UU⟩
   rw[vH.out]
   unfold af.pl
   simp only[mI]
  ·have HR:R=M.pl:=by
    rw[←CX.out];unfold Site.bE Site.sG;rw[hpl];simp[hx,hvl,hy]
   have hc:kg M.lv x v=7:=by unfold kg;rw[if_neg (by omega),hl];simp[hy]
   rw[hc]at C
   have vH:=hdn HR
   clear HR CX hpl hc hy
   go_enter func248,ntmps248
   repeat' go_step
   refine C.mono ?_;rintro e w1 ⟨rfl,rfl⟩
   refine wk ?_
   exact enR ⟨rfl,⟨M,h,vH.out.symm,rfl,aa.refl _ _⟩,aa.refl _ _⟩
end Go.Proofs.YtijhlbeipglieaaGreat
namespace aA
open Go List
section
variable {α:Type}
theorem OO{e:Int × α} :∀{L:AL α},(∀p∈L,e.1<p.1)→jM e L=e::L
 |[],_=>rfl
 |y::r,h=>by unfold jM;rw[if_pos (h y (by simp))]
theorem Be{x:Int}{v:α} :∀{L:AL α},L.Pairwise (fun p q=>p.1<q.1)→(∃r,(x,r)∈L)→aG x v L=L.map fun p=>if p.1=x then(p.1,v)else p
 |[],_,h=>by obtain⟨r,h⟩:=h;cases h
 |y::r,hp,h=>by
  rw[pairwise_cons]at hp
  by_cases e:y.1=x
  ·have hd:dD x (y::r)=r:=by
    unfold dD
    rw[filter_cons,if_neg (by simp[e]),filter_eq_self]
    intro p hq
    have:=hp.1 p hq
    simp;omega
   unfold aG
   rw[hd,OO (fun p hq=>by have:=hp.1 p hq;show x<p.1;omega),map_cons,if_pos e,e]
   congr 1
   symm
   refine(map_congr_left fun p hq=>?_).trans (map_id r)
   have:=hp.1 p hq
   rw[if_neg (by omega)];rfl
  ·have h':∃z,(x,z)∈r:=by
    obtain⟨z,hz⟩:=h
    rcases mem_cons.1 hz with rfl|hz
    ·exact absurd rfl e
    ·exact⟨z,hz⟩
   obtain⟨z,hz⟩:=h'
   have hlt:=hp.1 _ hz
   have ih:=Be (v:=v) hp.2 ⟨z,hz⟩
   unfold aG at ih ⊢
   have hd:dD x (y::r)=y::dD x r:=by
    unfold dD
    rw[filter_cons,if_pos (by simp[e])]
   rw[hd,map_cons,if_neg e,←ih]
   conv=>lhs;unfold jM
   rw[if_neg (by show ¬ x<y.1;simp only at hlt;omega)]
theorem rY{L:AL α}(h:L.Pairwise fun p q=>p.1<q.1){x:Int}{a b:α}(ha:(x,a)∈L)(hb:(x,b)∈L):a=b:=by
 induction L with
 |nil=>cases ha
 |cons y r ih=>
  rw[pairwise_cons]at h
  rcases mem_cons.1 ha with rfl|ha'<;>rcases mem_cons.1 hb with hb'|hb'
  ·injection hb' with _ e;exact e.symm
  ·have:=h.1 _ hb';simp at this
  ·subst hb';have:=h.1 _ ha';simp at this
  ·exact ih h.2 ha' hb'
theorem J4{R:α→α→Prop}{L:List α}(h:L.Pairwise R){a b:α}(ha:a∈L)(hb:b∈L):a=b∨R a b∨R b a:=by
 induction L with
 |nil=>cases ha
 |cons y r ih=>
  rw[pairwise_cons]at h
  rcases mem_cons.1 ha with rfl|ha'<;>rcases mem_cons.1 hb with rfl|hb'
  ·exact .inl rfl
  ·exact .inr (.inl (h.1 _ hb'))
  ·exact .inr (.inr (h.1 _ ha'))
  ·exact ih h.2 ha' hb'
end
def qH(p q:Int × aS):Prop:=p.2.g≠q.2.g∧(∀k∈ah p.2.PA,k∉ah q.2.PA)∧∀k∈ah p.2.VA,k∉ah q.2.VA
theorem qH.symm{p q:Int × aS}(h:qH p q):qH q p:=⟨h.1.symm,fun k hk hm=>h.2.1 k hm hk,fun k hk hm=>h.2.2 k hm hk⟩
end aA
namespace Go.Proofs.YtijhlbeipglieaaGreat
open Go.RowKit aA Go.Maps Tryz List
theorem Px(w:World):(zeroValue 128).run prog w=.ok (.pointer none) w:=zeroValue128 w
variable [eU]
section
variable {w w':World} {M:af}
theorem ay.Ha(h:ay w M):M.rs.Pairwise fun p q=>p.1<q.1:=by
 have hs:=h.nN.sorted (int_keyed underlying3)
 unfold bS at hs
 rw[pairwise_map]at hs
 exact hs
theorem ay.apart(h:ay w M){p q:Int × aS}(hp:p∈M.rs)(hq:q∈M.rs)(hne:p.1≠q.1):qH p q:=by
 rcases J4 (R:=qH) h.far hp hq with e|e|e
 ·exact absurd (by rw[e]) hne
 ·exact e
 ·exact e.symm
theorem ay.NJ(h:ay w M){x:Int}{r:aS}(hl:aC x M.rs=some r)(r':aS)(hg:r'.g=r.g){X b:List Nat}(hX:∀k∈X,k∈r.fp)(hu:aa X b w w')(hr':o6 w' r')(hP:∀k∈ah r'.PA,k∈ah r.PA∨w.heap.size≤k)(hV:∀k∈ah r'.VA,k∈ah r.VA∨w.heap.size≤k)(hb:∀y∈r'.bytes,dF w y∧∀k∈ah y.A,k∉M.iV)(hok:r'.pl.b.length≤2048∧r'.pl.ax.may 7=true∧∀q∈r'.pl.pr,q.b.length≤2048) :
  ay w' {M with rs:=aG x r' M.rs}∧aa M.fp ({M with rs:=aG x r' M.rs} :af).fp w w':=by
 have acm:=aY hl
 have hs:=h.Ha
 have ag4:=Be (v:=r') hs ⟨r,acm⟩
 have hk:∀k∈r'.fp,w.heap.size≤k∨k∈r.fp:=fun k hk=>by
  simp only[aS.fp,mem_cons,mem_append]at hk ⊢
  rcases hk with rfl|hk|hk
  ·exact .inr (.inl hg)
  ·rcases hP k hk with h1|h1
   ·exact .inr (.inr (.inl h1))
   ·exact .inl h1
  ·rcases hV k hk with h1|h1
   ·exact .inr (.inr (.inr h1))
   ·exact .inl h1
 have hx:0≤x∧x<4096:=by
  have:=h.ok.rs (x,r.pl) (mem_map.2 ⟨_,acm,rfl⟩)
  exact⟨this.1,this.2.1⟩
 refine h.rounds hu (fun k hk=>.inr ⟨_,acm,hX k hk⟩) ?_ ?_ ?_ ?_ ?_ ?_
 ·have hm:=h.nN.upd hu (fun hm=>by
   have:=hX _ hm
   simp only[aS.fp,mem_cons,mem_append]at this
   rcases this with e|e|e
   ·exact aU h.tr (h.bV _ acm).tg (by decide) e
   ·exact aU h.tr ((h.bV _ acm).tP _ e) (by decide) rfl
   ·exact aU h.tr ((h.bV _ acm).tV _ e) (by decide) rfl)
  have e:bS aS.ptr (aG x r' M.rs)=bS aS.ptr M.rs:=by
   rw[ag4]
   unfold bS
   rw[map_map]
   refine map_congr_left fun p hp=>?_
   simp only[Function.comp]
   split
   ·rename_i e1
    have:p.2=r:=rY hs (x:=x) (by rw[←e1];exact hp) acm
    rw[this]
    unfold aS.ptr
    rw[hg]
   ·rfl
  rw[e];exact hm
 ·intro p hp
  rcases eY.1 hp with rfl|⟨hp,hne⟩
  ·exact hr'
  ·have hf:=h.apart hp acm hne
   have rp:=h.bV p hp
   have rr:=h.bV _ acm
   refine rp.upd hu (fun k hk hm=>?_)
   have hm:=hX k hm
   simp only[aS.fp,mem_cons,mem_append]at hk hm
   rcases hk with rfl|hk|hk<;>rcases hm with e|e|e
   ·exact hf.1 e
   ·exact aU rp.tg (rr.tP _ e) (by decide) rfl
   ·exact aU rp.tg (rr.tV _ e) (by decide) rfl
   ·subst e;exact aU (rp.tP _ hk) rr.tg (by decide) rfl
   ·exact hf.2.1 k hk e
   ·exact aU (rp.tP _ hk) (rr.tV _ e) (by decide) rfl
   ·subst e;exact aU (rp.tV _ hk) rr.tg (by decide) rfl
   ·exact aU (rp.tV _ hk) (rr.tP _ e) (by decide) rfl
   ·exact hf.2.2 k hk e
 ·intro p hp k hkp
  rcases eY.1 hp with rfl|⟨hp,-⟩
  ·rcases hk k hkp with h1|h1
   ·exact .inl h1
   ·exact .inr ⟨_,acm,h1⟩
  ·exact .inr ⟨p,hp,hkp⟩
 ·rw[ag4,pairwise_map]
  refine(hs.and (h.far:M.rs.Pairwise qH)).imp_of_mem fun {p q} hp hq hpq=>?_
  obtain⟨hlt,hf⟩:=hpq
  have new:∀{z:Int × aS},z∈M.rs→qH (x,r) z→qH (x,r') z:=fun {z} hz hf=>by
   refine⟨by show r'.g≠z.2.g;rw[hg];exact hf.1,fun k hk1 hm=>?_,fun k hk1 hm=>?_⟩
   ·rcases hP k hk1 with h1|h1
    ·exact hf.2.1 k h1 hm
    ·have:=iI ((h.bV z hz).tP k hm);omega
   ·rcases hV k hk1 with h1|h1
    ·exact hf.2.2 k h1 hm
    ·have:=iI ((h.bV z hz).tV k hm);omega
  show qH (if p.1=x then(p.1,r')else p) (if q.1=x then(q.1,r')else q)
  by_cases e1:p.1=x
  ·have ep:p=(x,r):=by
    have:p.2=r:=rY hs (x:=x) (by rw[←e1];exact hp) acm
    rw[←e1,←this]
   rw[if_pos e1,if_neg (by omega),e1]
   exact new hq (ep▸hf)
  ·rw[if_neg e1]
   by_cases e2:q.1=x
   ·have eq_:q=(x,r):=by
     have:q.2=r:=rY hs (x:=x) (by rw[←e2];exact hq) acm
     rw[←e2,←this]
    rw[if_pos e2,e2]
    exact qH.symm (new hp (eq_▸qH.symm hf))
   ·rw[if_neg e2];exact hf
 ·intro p hp y hy
  rcases eY.1 hp with rfl|⟨hp,-⟩
  ·exact hb y hy
  ·exact h.o8 hp hy
 ·have e:({M with rs:=aG x r' M.rs} :af).pl= {M.pl with rs:=aG x r'.pl M.pl.rs}:=by unfold af.pl;simp only[fE]
  rw[e]
  exact h.ok.qM hx hok
theorem ay.aa6(h:ay w M){x:Int}(hx:0≤x∧x<4096)(r':aS){w1:World}(hu1:aa [] r'.fp w w1)(hr1:o6 w1 r')(hu:aa [M.br] [M.br] w1 w')(hm:bP prog 3 w' M.br (bS aS.ptr (aG x r' M.rs)))(hb:∀y∈r'.bytes,dF w y∧∀k∈ah y.A,k∉M.iV)(hok:r'.pl.b.length≤2048∧r'.pl.ax.may 7=true∧∀q∈r'.pl.pr,q.b.length≤2048) :
  ay w' {M with rs:=aG x r' M.rs}∧aa M.fp ({M with rs:=aG x r' M.rs} :af).fp w w':=by
 have h1:=h.au hu1
 have aec:∀k∈r'.fp,w.heap.size≤k:=fun k hk=>by
  rcases hu1.fresh k hk with h1|h1
  ·cases h1
  ·exact h1
 have hU:aa [M.br] (M.br::r'.fp) w w':=(hu1.mono (a':=[M.br]) (b':=M.br::r'.fp) (by simp) (fun k hk=>by
  rcases mem_cons.1 hk with rfl|hk
  ·exact .inr (.inl (by simp))
  ·exact .inl hk)).trans (hu.mono (a':=M.br::r'.fp) (b':=M.br::r'.fp) (by simp) (fun k hk=>.inr (.inl hk)))
 have hX:∀k∈[M.br],bW w1 k=some none:=by simp only[mem_singleton];rintro k rfl;exact h1.tr
 refine h.rounds hU (by simp) hm ?_ ?_ ?_ ?_ ?_
 ·intro p hp
  rcases eY.1 hp with rfl|⟨hp,-⟩
  ·exact hr1.upd hu (hr1.BN hX (by decide) (by decide) (by decide))
  ·exact h1.Xl hu hp
 ·intro p hp k hkp
  rcases eY.1 hp with rfl|⟨hp,-⟩
  ·exact .inl (aec k hkp)
  ·exact .inr ⟨p,hp,hkp⟩
 ·show(aG x r' M.rs).Pairwise qH
  unfold aG
  rw[(yS (x,r') (dD x M.rs)).pairwise_iff (fun {a b} hab=>qH.symm hab),pairwise_cons]
  refine⟨fun q hq=>?_,h.far.sublist filter_sublist⟩
  have hq:=(gU.1 hq).1
  have rq:=h.bV q hq
  refine⟨fun e=>?_,fun k hk hm=>?_,fun k hk hm=>?_⟩
  ·have h7:=aec r'.g (by simp[aS.fp]);have h8:=iI rq.tg;simp only at e;omega
  ·have h7:=aec k (by simp[aS.fp,hk]);have h8:=iI (rq.tP k hm);omega
  ·have h7:=aec k (by simp[aS.fp,hk]);have h8:=iI (rq.tV k hm);omega
 ·intro p hp y hy
  rcases eY.1 hp with rfl|⟨hp,-⟩
  ·exact hb y hy
  ·exact h.o8 hp hy
 ·have e:({M with rs:=aG x r' M.rs} :af).pl= {M.pl with rs:=aG x r'.pl M.pl.rs}:=by unfold af.pl;simp only[fE]
  rw[e]
  exact h.ok.qM hx hok
theorem ay.GI(h:ay w M){x:Int}(hx:(Lit.int .i64 x).wf=true) :
  (Instr.lookup 119 (.map (some M.br)) (.int .i64 x) true).run prog w=.ok (.tuple #[((aC x M.rs).map aS.ptr).getD (.pointer none),.bool (aC x M.rs).isSome]) w:=by
 have:=h.nN.look_ok underlying3 underlying119 (Px w) hx
 rw[qj,fH]at this
 simpa using this
end
