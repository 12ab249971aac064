/- For WorldCalm. -/
import Derived.Deep.RegionHeld3
import Derived.Test.YtijhlbeipglieaaGreatPkSiteZ
import Derived.Test.YtijhlbeipglieaaGreatPkSiteP
import Derived.Test.YtijhlbeipglieaaGreatPkRead
set_option linter.all false
set_option maxRecDepth 100000
set_option maxHeartbeats 4000000
namespace Go.Proofs.YtijhlbeipglieaaGreat
open Go.RowKit aL Go.Maps Tryz List
structure KI(p:Prop):Prop where
 out:p
def _root_.aL.Site.oH(s:Site)(l:List Rc):Site:=l.foldl Site.eh s
theorem _root_.aL.Site.Hf(s:Site)(b:Bool)(r:Rc):({s with down:=b} :Site).eh r= {s.eh r with down:=b}:=by
 unfold Site.eh
 have e:({s with down:=b} :Site).stat r.slot=s.stat r.slot:=rfl
 rw[e]
 split
 ·rfl
 split
 ·rfl
 ·rfl
theorem _root_.aL.Site.wu(b:Bool)(l:List Rc):∀(s:Site),({s with down:=b} :Site).oH l= {s.oH l with down:=b}:=by
 induction l with
 |nil=>exact fun _=>rfl
 |cons r l ih=>
  intro s
  show(({s with down:=b} :Site).eh r).oH l=_
  rw[Site.Hf]
  exact ih _
theorem _root_.aL.Site.KJ(s:Site)(l:List Rc)(h:s.down=false):({({s.oH l with down:=true} :Site)with down:=false} :Site)=l.foldl Site.eh s:=by
 show({s.oH l with down:=false} :Site)=s.oH l
 rw[←Site.wu]
 congr 1
 cases s
 simp only at h
 subst h
 rfl
variable [eA]
theorem aJ.Yw{w w1 w3:World}{M:ae}(h:aJ w M){gw bs gl bl br:Nat}(hw:kC w1 gw M.me M.n M.pat [0,0,0,0,0,0,0])(bn:ab [] [gw] w w1)(qn:cz prog 3 w3 bs [])(hL:gy w3 gl bl [] 0)(ir:cz prog 3 w3 br [])(hne:bs≠bl∧bs≠br∧bl≠br)(cQ:ab [] [bs,gl,bl,br] w1 w3) :
  ∃M4:ae,aJ (pX w3 M.gs (.map (some bs)) (.int .i64 0) (.pointer (some ⟨gl,0,none⟩)) (.map (some br)) (.int .i64 0) (.pointer (some ⟨gw,0,none⟩)) (.slice none 0 0)) M4∧
   M4.pl= {Site.new M.me M.n M.pat with down:=M.down,db:=M.db,dn:=M.dn}∧M4.gs=M.gs∧M4.gd=M.gd∧
   ab M.fp M4.fp w (pX w3 M.gs (.map (some bs)) (.int .i64 0) (.pointer (some ⟨gl,0,none⟩)) (.map (some br)) (.int .i64 0) (.pointer (some ⟨gw,0,none⟩)) (.slice none 0 0)):=by
 have h3:=(h.aN bn).aN cQ
 have hw3:kC w3 gw M.me M.n M.pat [0,0,0,0,0,0,0]:=⟨hw.1.aq cQ (by simp),hw.2⟩
 have K3:aQ w3 M.gs 124 #[.int .i64 (M.me:Int),.int .i64 (M.n:Int),.int .i64 (M.pat:Int),.bool M.down,.pointer (some ⟨M.gd,0,none⟩),.map (some M.bs),.int .i64 M.top,
  .pointer (some ⟨M.gl,0,none⟩),.map (some M.br),.int .i64 (M.nx:Int),.pointer (some ⟨M.gw,0,none⟩),.slice M.Ah M.held.length M.ch]:=h3.aO
 have u4:=By w3 M.gs (.map (some bs)) (.int .i64 0) (.pointer (some ⟨gl,0,none⟩)) (.map (some br)) (.int .i64 0) (.pointer (some ⟨gw,0,none⟩)) (.slice none 0 0)
 have K4:=Bz K3 (.map (some bs)) (.int .i64 0) (.pointer (some ⟨gl,0,none⟩)) (.map (some br)) (.int .i64 0) (.pointer (some ⟨gw,0,none⟩)) (.slice none 0 0)
 have hX:∀k∈[M.gs],cl w3 k=some (some 124):=by simp only[mem_singleton];rintro k rfl;exact h3.tg
 generalize pX w3 M.gs (.map (some bs)) (.int .i64 0) (.pointer (some ⟨gl,0,none⟩)) (.map (some br)) (.int .i64 0) (.pointer (some ⟨gw,0,none⟩)) (.slice none 0 0)=w4 at *
 refine⟨{gs:=M.gs,me:=M.me,n:=M.n,pat:=M.pat,down:=M.down,gd:=M.gd,Ad:=M.Ad,cd:=M.cd,db:=M.db,dn:=M.dn,bs:=bs,st:=[],top:=0,gl:=gl,bl:=bl,lv:=[],taken:=0,br:=br,rs:=[],nx:=0,gw:=gw,wt:=[0,0,0,0,0,0,0],Ah:=none,ch:=0,held:=[]},
  {aO:=K4,kX:=h3.kX.aq u4 (cp h3.td hX (by decide)) (cY h3.tA hX (by decide)),rN:=qn.aq u4 (cp qn.tag hX (by decide)),iH:=hL.aq u4 (cp hL.aO.tag hX (by decide)) (cp hL.map.tag hX (by decide)),
   eY:=ir.aq u4 (cp ir.tag hX (by decide)),cI:=by simp,mm:=⟨hw3.1.aq u4 (cp hw3.1.tag hX (by decide)),hw3.2⟩,pv:=Own.nil _ _ _,fu:=by simp[ae.bytes],bad:=by simp[ae.bytes],maps:=hne,fB:=.nil,po:=fun k hk=>Nat.lt_of_lt_of_le (h3.po k hk) u4.size,
   ok:=⟨h.ok.me,h.ok.n3,h.ok.n7,h.ok.pat,by simp[ae.pl,cD],by simp[ae.pl,cD],by simp[ae.pl],by simp[ae.pl],by simp[ae.pl]⟩},rfl,rfl,rfl,?_⟩
 have U:=((bn.up M.fp).trans (cQ.up M.fp)).trans (u4.mono (a':=M.fp) (b':=M.fp) (fun k hk=>by simp only[mem_singleton]at hk;subst hk;simp[ae.fp]) (fun k hk=>.inr (.inl hk)))
 have e1:=(ab.refl [] w).new bn
 have e3:=(ab.refl [] w1).new cQ
 have s1:=bn.size
 refine U.gives fun k hk=>?_
 simp only[ae.fp,mem_append,mem_cons,not_mem_nil,or_false,ak,flatMap_nil]at hk
 rcases hk with(rfl|rfl|rfl|rfl|rfl|rfl|rfl)|hk
 ·exact .inl (by simp[ae.fp])
 ·exact .inl (by simp[ae.fp])
 ·have:=e3 k (by simp);exact .inr (by omega)
 ·have:=e3 k (by simp);exact .inr (by omega)
 ·have:=e3 k (by simp);exact .inr (by omega)
 ·have:=e3 k (by simp);exact .inr (by omega)
 ·exact .inr (e1 k (by simp))
 ·exact .inl (by simp only[ae.fp,mem_append];exact .inr (.inl hk))
theorem xU(w:World)(M:ae)(h:aJ w M) :
  Calls prog 25 #[M.ptr] w fun e w'=>e=.returned (.tuple #[])∧dZ w w' M M.pl.bC:=by
 have q3:w.cell? ⟨M.gs,3,none⟩=some (.bool M.down):=h.aO.cell 3
 cases hd:M.down with
 |false=>
  rw[hd]at q3
  have bN:=aA (show dZ w w M M.pl.bC from⟨M,h,by unfold Site.bC;rw[if_neg (by rw[show M.pl.down=M.down from rfl,hd];simp)],rfl,ab.refl _ _⟩)
  obtain⟨R,hR⟩:=bk M.pl.bC
  rw[hR]at bN ⊢
  rw[ae.ptr]
  clear h hR
  go_enter func25,ntmps25
  refine wk ?_
  exact bodyPost_ret (v:=.tuple #[]) (results_none rfl _ _ _) rfl ⟨rfl,bN.out⟩
 |true=>
  rw[hd]at q3
  obtain⟨R,hR⟩:=bk M.pl.bC
  have HR:=aA (show R=(cg M.db).1.foldl Site.eh {Site.new M.me M.n M.pat with db:=M.db.take (cg M.db).2,dn:=min M.dn (cg M.db).2} by
   rw[←hR];unfold Site.bC;rw[if_pos (show M.pl.down=true from hd)];rfl)
  rw[hR]
  have q0:w.drew.cell? ⟨M.gs,0,none⟩=some (.int .i64 (M.me:Int)):=h.drew.aO.cell 0
  have q1:w.drew.cell? ⟨M.gs,1,none⟩=some (.int .i64 (M.n:Int)):=h.drew.aO.cell 1
  have q2:w.drew.cell? ⟨M.gs,2,none⟩=some (.int .i64 (M.pat:Int)):=h.drew.aO.cell 2
  have ht:qj M.me M.n M.pat=true:=by
   have h1:M.me<M.n:=h.ok.me
   have h2:3≤M.n:=h.ok.n3
   have h3:M.n≤7:=h.ok.n7
   have h4:1≤M.pat∧M.pat≤1000:=h.ok.pat
   simp only[qj,Bool.and_eq_true,decide_eq_true_eq];omega
  have C1:=EF w.drew M.me M.n M.pat ht
  rw[ae.ptr]
  clear hR ht
  go_enter func25,ntmps25
  repeat' first|go_guarded|go_step
  go_cut [2,3]from 8 (fun s2 s3 wc=>∃gw:Nat,s2=.pointer (some ⟨gw,0,none⟩)∧s3=.int .i64 0∧kC wc gw M.me M.n M.pat [0,0,0,0,0,0,0]∧ab [] [gw] w wc)
  case first=>
   go_region_held3 (fun w'=>w'.cell? ⟨M.gs,0,none⟩=some (.int .i64 (M.me:Int))∧w'.cell? ⟨M.gs,1,none⟩=some (.int .i64 (M.n:Int))∧w'.cell? ⟨M.gs,2,none⟩=some (.int .i64 (M.pat:Int))) (first|exact⟨q0,q1,q2⟩|exact⟨q0b,q1b,Yx⟩)
    (
     first
     |(go_at_call 70;(with_reducible refine C1.mono ?_);rintro e w1 ⟨gw,rfl,dC,bn⟩;have q0b:=bn.cell q0 (by simp);have q1b:=bn.cell q1 (by simp);have Yx:=bn.cell q2 (by simp)))
   all_goals (refine eH ?_)
   all_goals go_meet
   all_goals exact⟨gw,rfl,rfl,dC,((ab.refl [] w).drew.trans bn)⟩
  case rest=>
   obtain⟨gw,rfl,rfl,hwt,U1⟩:=hcut
   clear C1 q0 q1 q2 q3
   repeat' go_step
   refine(F1 wc gw).mono ?_;rintro e w3 ⟨bs,gl,bl,br,rfl,qn,hL,ir,hne,cQ⟩
   obtain⟨M4,h4,jj,hg4,F6,U4⟩:=h.Yw hwt U1 qn hL ir hne cQ
   have h3:=(h.aN U1).aN cQ
   have K3:aQ w3 M.gs 124 #[.int .i64 (M.me:Int),.int .i64 (M.n:Int),.int .i64 (M.pat:Int),.bool M.down,.pointer (some ⟨M.gd,0,none⟩),.map (some M.bs),.int .i64 M.top,
    .pointer (some ⟨M.gl,0,none⟩),.map (some M.br),.int .i64 (M.nx:Int),.pointer (some ⟨M.gw,0,none⟩),.slice M.Ah M.held.length M.ch]:=h3.aO
   obtain⟨⟨z0,z1,z2,z3,z4,z5,z6,z7,z8,z9,US,Vk⟩,f0,f1,f2,f3,f4,f5,f6,f7,f8,f9,f10,f11⟩:=K3.fm
   clear hwt U1 qn hL ir hne cQ h h3 K3
   repeat' first|go_step|simp only[];go_at_K
   generalize hW:World.setCell _ _ _=w4
   rw[pX,hW]at h4 U4
   clear hW z0 z1 z2 z3 z4 z5 z6 z7 z8 z9 US Vk f0 f1 f2 f3 f4 f5 f6 f7 f8 f9 f10 f11
   have e5:M4.db=M.db:=congrArg Site.db jj
   have e6:M4.dn=M.dn:=congrArg Site.dn jj
   have C5:=MQ w4 M4.gd M4.Ad M4.db.length M4.cd M4.db M4.dn h4.kX
   rw[F6]at C5
   refine C5.mono ?_;rintro e w5 ⟨A5,n5,c5,rfl,fI,cF⟩
   have h5:=h4.aN cF
   have hlen:=h4.kX.len
   have jU:=fI.own.cap
   rw[e5]at fI hlen
   clear C5 h4
   repeat' first|go_step|simp only[];go_at_K
   refine(FN w5 A5 n5 c5 M.db fI.rd jU.1 jU.2 (by omega)).mono ?_;rintro e w6 ⟨A1,k1,c1,xs,rfl,Cm,vR,dN⟩
   have h6:=h5.aN dN
   have U6:=U4.trans (((cF.gives (b':=[]) (by simp)).trans (dN.gives (b':=[]) (by simp))).up M4.fp)
   obtain⟨Yy,hK2,hK3⟩:=oB M.db
   rw[←Cm]at hK3 HR
   obtain⟨K,hK⟩:=bk ((cg M.db).2)
   rw[hK]at Yy HR ⊢
   have C7:=TO w6 M4.gd M4.Ad M4.db.length M4.cd M4.db M4.dn h6.kX K (by rw[e5];exact Yy)
   rw[F6]at C7
   have q4:w6.cell? ⟨M.gs,4,none⟩=some (.pointer (some ⟨M.gd,0,none⟩)):=by
    have:=h6.aO.cell 4
    rw[hg4]at this
    rw[this,←F6];rfl
   clear h5 cF dN fI hK hK2 Cm jU U4
   repeat' first|go_step|simp only[];go_at_K
   refine C7.mono ?_;rintro e w7 ⟨rfl,wv,iT⟩
   have S4:(M4.db.take K).length=K:=by rw[length_take,e5];omega
   rw[←F6]at wv iT
   obtain⟨h7,V7⟩:=h6.cZ (A':=M4.Ad) (c':=K) (db':=M4.db.take K) (dn':=min M4.dn K) (iT.mono (by simp) (fun k hk=>.inr (.inl hk))) (by rw[S4];exact wv) (h6.ok.cZ _ _)
   have Yz:∀k∈[M4.gd],cl w6 k=some (some 197):=by simp only[mem_singleton];rintro k rfl;exact h6.td
   have Cn:=vR.aq iT (cY vR.own.tag Yz (by decide)) (fun x hx=>cY (vR.each x hx).own.tag Yz (by decide))
   obtain⟨M7,qU⟩:∃M7:ae,{M4 with Ad:=M4.Ad,cd:=K,db:=M4.db.take K,dn:=min M4.dn K} =M7:=⟨_,rfl⟩
   rw[qU]at h7 V7
   have xK:M7.gs=M.gs:=by rw[←qU];exact hg4
   have rG:M7.pl= {({Site.new M.me M.n M.pat with db:=M.db.take K,dn:=min M.dn K} :Site)with down:=true}:=by
    rw[←qU]
    show({M4.pl with db:=M4.db.take K,dn:=min M4.dn K} :Site)=_
    rw[jj,e5,e6,hd]
   have U7:=U6.trans V7
   have hkx:=Cn.len
   obtain⟨N0,YA⟩:∃N0:Site,{Site.new M.me M.n M.pat with db:=M.db.take K,dn:=min M.dn K} =N0:=⟨_,rfl⟩
   have HN:=aA (show N0.down=false by rw[←YA];rfl)
   rw[YA]at HR rG
   clear C7 q4 vR h6 iT wv S4 Yz qU U6 V7 e5 e6 Yy hlen YA jj F6 hg4 hd
   repeat' first|go_step|simp only[];go_at_K
   go_loopw [57] (fun v57 wr=>KI (∃(i:Nat)(Mi:ae),i≤xs.length∧v57=.int .i64 (i:Int)∧aJ wr Mi∧Mi.pl=((eM xs).take i).foldl Site.eh M7.pl∧Mi.gs=M.gs∧pH wr A1 k1 c1 xs∧ab M.fp Mi.fp w wr)) (fun v57 _=>xs.length-(intOf v57).toNat)
   case atStart=>exact KI.mk ⟨0,M7,by omega,rfl,h7,rfl,xK,Cn,U7⟩
   case round=>
    obtain⟨i,Mi,hi,rfl,hS,hp,hg,hR,U⟩:=hrel.out
    clear hrel h7 Cn U7 xK
    by_cases hlt:i<xs.length
    ·have dK:(i:Int)<(k1:Int):=by omega
     have dC:IntKind.i64.wrap ((i:Int)+1)=(i:Int)+1:=by
      have h1:=hR.own.cap
      unfold maxLen at h1
      rw[IntKind.wrap_i64];omega
     obtain⟨ad,rfl,d0,d1,d2,d3,d4⟩:=hR.rvs.at_ hlt
     have HX:=aA (show((eM xs).take (i+1)).foldl Site.eh M7.pl=Mi.pl.eh xs[i].rc by
      rw[hp,take_succ_eq_append_getElem (by unfold eM;simpa using hlt),foldl_append]
      unfold eM;rw[getElem_map];rfl)
     have hMx:xs[i].rc.bL:=hK3 _ (by unfold eM;exact mem_map_of_mem (getElem_mem hlt))
     have hrx:=(hR.each _ (getElem_mem hlt)).rd
     generalize xs[i]=y at *
     obtain⟨W2,G,zW,hG,cX,U2⟩:=cb wr 147 #[.int .i64 y.k,.int .i64 y.s,.int .i64 y.r,.int .i64 y.t,.slice y.A y.n y.c]
     have gz:=hS.aN U2
     have dS:=hR.aN U2
     have C:=KN W2 Mi gz y (hrx.aq U2 (by simp)) hMx
     rw[ae.ptr,hg,Rv.bJ]at C
     obtain⟨⟨b0,b1,b2,b3,b4⟩,-⟩:=cX.c5
     have gL:∀(e:TypeId)(ks:List Nat),(∀k∈ks,cl W2 k=some (some e))→e≠124→∀k∈ks,k∉[Mi.gs,Mi.bs]:=fun e ks ht hne k hk hm=>by
      simp only[mem_cons,not_mem_nil,or_false]at hm
      rcases hm with rfl|rfl
      ·exact bx (ht _ hk) gz.tg (by simpa using hne) rfl
      ·exact bx (ht _ hk) gz.ts (by simp) rfl
     have qA:=gL _ _ dS.own.tag (by decide)
     have hf2:=fun x hx=>gL _ _ ((dS.each x hx).own.tag) (by decide)
     simp only[hg]at qA hf2
     have nX:=U.trans (U2.up Mi.fp)
     clear hS hR U U2 cX hp hrx gL gz
     repeat' go_step
     refine C.mono ?_;rintro e w3 ⟨rfl,⟨M8,h8,vJ,EU,-,U8⟩,V8⟩
     have sL:=dS.aq V8 qA hf2
     clear C dS V8 qA hf2
     refine wk ?_
     exact⟨KI.mk ⟨i+1,M8,by omega,by simp,h8,by rw[vJ,HX.out],EU.trans hg,sL,nX.trans U8⟩,by simp[intOf];omega⟩
    ·obtain rfl:i=xs.length:=by omega
     have dK:¬ ((xs.length:Int)<(k1:Int)):=by omega
     have AS:Mi.pl= {N0 with down:=true}.oH (eM xs):=by
      rw[hp,rG,take_of_length_le (by unfold eM;simp)];rfl
     rw[Site.wu]at AS
     have f3:wr.frozen? ⟨M.gs,3,none⟩=false:=by rw[←hg];exact hS.aO.frozen 3
     have t3:wr.cell? ⟨M.gs,3,none⟩=some (.bool Mi.down):=by rw[←hg];exact hS.aO.cell 3
     have u2:ab [Mi.gs] [Mi.gs] wr (wr.setCell ⟨Mi.gs,3,none⟩ (.bool false)):=(ab.refl [Mi.gs] wr).setCell (p:=⟨Mi.gs,3,none⟩) (.inl (by simp)) _
     have cX:=hS.aO.cc 3 (.bool false)
     have h2:=hS.yD false Mi.top Mi.nx u2 (by simpa[ae.cells]using cX) ⟨hS.ok.me,hS.ok.n3,hS.ok.n7,hS.ok.pat,hS.ok.st,hS.ok.rs,hS.ok.top,hS.ok.nx,hS.ok.held⟩
     obtain⟨M3,iN⟩:∃M3:ae,{Mi with down:=false,top:=Mi.top,nx:=Mi.nx} =M3:=⟨_,rfl⟩
     rw[iN]at h2
     have hN:N0.down=false:=by
      have h1:=congrArg Site.down rG
      exact HN.out
     have fO:M3.pl=R:=by
      rw[HR.out,←iN]
      show({Mi.pl with down:=false} :Site)=_
      rw[AS]
      exact Site.KJ _ _ hN
     have hg3:M3.gs=Mi.gs∧M3.fp=Mi.fp:=by rw[←iN];exact⟨rfl,rfl⟩
     have U2:=U.trans (u2.mono (a':=Mi.fp) (b':=Mi.fp) (fun k hk=>by simp only[mem_singleton]at hk;subst hk;simp[ae.fp]) (fun k hk=>.inr (.inl hk)))
     have bN:=aA (show dZ w (wr.setCell ⟨M.gs,3,none⟩ (.bool false)) M R from⟨M3,by rw[←hg];exact h2,fO,hg3.1.trans hg,by rw[←hg,hg3.2];exact U2⟩)
     clear hS h2 U U2 u2 cX hp AS iN fO hg3 hR hN rG
     refine wk ?_
     exact bodyPost_end (results_none rfl _ _ _) rfl ⟨rfl,bN.out⟩
