/- For SitePlays. -/
import Derived.Deep.RegionHeld3
import Derived.Test.YtijhlbeipglieaaGreatPkSiteZ
import Derived.Test.YtijhlbeipglieaaGreatPkSiteP
import Derived.Test.YtijhlbeipglieaaGreatPkRead
set_option linter.all false
set_option maxRecDepth 100000
set_option maxHeartbeats 4000000
namespace Go.Proofs.YtijhlbeipglieaaGreat
open Go.RowKit aA Go.Maps Tryz List
structure O0(p:Prop):Prop where
 out:p
def _root_.aA.Site.qI(s:Site)(l:List Rc):Site:=l.foldl Site.dR s
theorem _root_.aA.Site.LJ(s:Site)(b:Bool)(r:Rc):({s with down:=b} :Site).dR r= {s.dR r with down:=b}:=by
 unfold Site.dR
 have e:({s with down:=b} :Site).stat r.slot=s.stat r.slot:=rfl
 rw[e]
 split
 ·rfl
 split
 ·rfl
 ·rfl
theorem _root_.aA.Site.zD(b:Bool)(l:List Rc):∀(s:Site),({s with down:=b} :Site).qI l= {s.qI l with down:=b}:=by
 induction l with
 |nil=>exact fun _=>rfl
 |cons r l ih=>
  intro s
  show(({s with down:=b} :Site).dR r).qI l=_
  rw[Site.LJ]
  exact ih _
theorem _root_.aA.Site.O1(s:Site)(l:List Rc)(h:s.down=false):({({s.qI l with down:=true} :Site)with down:=false} :Site)=l.foldl Site.dR s:=by
 show({s.qI l with down:=false} :Site)=s.qI l
 rw[←Site.zD]
 congr 1
 cases s
 simp only at h
 subst h
 rfl
section
variable [eU]
theorem ay.abo{w w1 w3:World}{M:af}(h:ay w M){gw bs gl bl br:Nat}(hw:lC w1 gw M.me M.n M.pat [0,0,0,0,0,0,0])(hu1:aa [] [gw] w w1)(hm1:bP prog 3 w3 bs [])(hL:gI w3 gl bl [] 0)(hm2:bP prog 3 w3 br [])(hne:bs≠bl∧bs≠br∧bl≠br)(hu3:aa [] [bs,gl,bl,br] w1 w3) :
  ∃M4:af,ay (sw w3 M.gs (.map (some bs)) (.int .i64 0) (.pointer (some ⟨gl,0,none⟩)) (.map (some br)) (.int .i64 0) (.pointer (some ⟨gw,0,none⟩)) (.slice none 0 0)) M4∧
   M4.pl= {Site.new M.me M.n M.pat with down:=M.down,db:=M.db,dn:=M.dn}∧M4.gs=M.gs∧M4.gd=M.gd∧
   aa M.fp M4.fp w (sw w3 M.gs (.map (some bs)) (.int .i64 0) (.pointer (some ⟨gl,0,none⟩)) (.map (some br)) (.int .i64 0) (.pointer (some ⟨gw,0,none⟩)) (.slice none 0 0)):=by
 have h3:=(h.au hu1).au hu3
 have hw3:lC w3 gw M.me M.n M.pat [0,0,0,0,0,0,0]:=⟨hw.1.upd hu3,hw.2⟩
 have K3:ak w3 M.gs 124 #[.int .i64 (M.me:Int),.int .i64 (M.n:Int),.int .i64 (M.pat:Int),.bool M.down,.pointer (some ⟨M.gd,0,none⟩),.map (some M.bs),.int .i64 M.top,
  .pointer (some ⟨M.gl,0,none⟩),.map (some M.br),.int .i64 (M.nx:Int),.pointer (some ⟨M.gw,0,none⟩),.slice M.Ah M.held.length M.ch]:=h3.blk
 have u4:=EM w3 M.gs (.map (some bs)) (.int .i64 0) (.pointer (some ⟨gl,0,none⟩)) (.map (some br)) (.int .i64 0) (.pointer (some ⟨gw,0,none⟩)) (.slice none 0 0)
 have K4:=EN K3 (.map (some bs)) (.int .i64 0) (.pointer (some ⟨gl,0,none⟩)) (.map (some br)) (.int .i64 0) (.pointer (some ⟨gw,0,none⟩)) (.slice none 0 0)
 have hX:∀k∈[M.gs],bW w3 k=some (some 124):=by simp only[mem_singleton];rintro k rfl;exact h3.tg
 generalize sw w3 M.gs (.map (some bs)) (.int .i64 0) (.pointer (some ⟨gl,0,none⟩)) (.map (some br)) (.int .i64 0) (.pointer (some ⟨gw,0,none⟩)) (.slice none 0 0)=w4 at *
 refine⟨{gs:=M.gs,me:=M.me,n:=M.n,pat:=M.pat,down:=M.down,gd:=M.gd,Ad:=M.Ad,cd:=M.cd,db:=M.db,dn:=M.dn,bs:=bs,st:=[],top:=0,gl:=gl,bl:=bl,lv:=[],taken:=0,br:=br,rs:=[],nx:=0,gw:=gw,wt:=[0,0,0,0,0,0,0],Ah:=none,ch:=0,held:=[]},
  {blk:=K4,nV:=h3.nV.upd u4 (bA h3.td hX (by decide)) (bX h3.tA hX (by decide)),vG:=hm1.upd u4 (bA hm1.tag hX (by decide)),jm:=hL.upd u4 (bA hL.blk.tag hX (by decide)) (bA hL.map.tag hX (by decide)),
   nN:=hm2.upd u4 (bA hm2.tag hX (by decide)),bV:=by simp,nT:=⟨hw3.1.upd u4 (bA hw3.1.tag hX (by decide)),hw3.2⟩,hld:=Own.nil _ _ _,gB:=by simp[af.bytes],bad:=by simp[af.bytes],maps:=hne,far:=.nil,qW:=fun k hk=>Nat.lt_of_lt_of_le (h3.qW k hk) u4.size,
   ok:=⟨h.ok.me,h.ok.n3,h.ok.n7,h.ok.pat,by simp[af.pl,bS],by simp[af.pl,bS],by simp[af.pl],by simp[af.pl],by simp[af.pl]⟩},rfl,rfl,rfl,?_⟩
 have U:=((hu1.up M.fp).trans (hu3.up M.fp)).trans (u4.mono (a':=M.fp) (b':=M.fp) (fun k hk=>by simp only[mem_singleton]at hk;subst hk;simp[af.fp]) (fun k hk=>.inr (.inl hk)))
 have e1:=(aa.refl [] w).new hu1
 have e3:=(aa.refl [] w1).new hu3
 have s1:=hu1.size
 refine U.gives fun k hk=>?_
 simp only[af.fp,mem_append,mem_cons,not_mem_nil,or_false,ah,flatMap_nil]at hk
 rcases hk with(rfl|rfl|rfl|rfl|rfl|rfl|rfl)|hk
 ·exact .inl (by simp[af.fp])
 ·exact .inl (by simp[af.fp])
 ·have:=e3 k (by simp);exact .inr (by omega)
 ·have:=e3 k (by simp);exact .inr (by omega)
 ·have:=e3 k (by simp);exact .inr (by omega)
 ·have:=e3 k (by simp);exact .inr (by omega)
 ·exact .inr (e1 k (by simp))
 ·exact .inl (by simp only[af.fp,mem_append];exact .inr (.inl hk))
theorem Ky(w:World)(M:af)(h:ay w M) :
  Calls prog 25 #[M.ptr] w fun e w'=>e=.returned (.tuple #[])∧Gone w w' M M.pl.dE:=by
 have q3:w.cell? ⟨M.gs,3,none⟩=some (.bool M.down):=h.blk.cell 3
 cases hd:M.down with
 |false=>
  rw[hd]at q3
  have KEY:=hdn (show Gone w w M M.pl.dE from⟨M,h,by unfold Site.dE;rw[if_neg (by rw[show M.pl.down=M.down from rfl,hd];simp)],rfl,aa.refl _ _⟩)
  obtain⟨R,hR⟩:=ex1 M.pl.dE
  rw[hR]at KEY ⊢
  rw[af.ptr]
  clear h hR
  go_enter func25,ntmps25
  refine wk ?_
  exact enT ⟨rfl,KEY.out⟩
 |true=>
  rw[hd]at q3
  obtain⟨R,hR⟩:=ex1 M.pl.dE
  have HR:=hdn (show R=(bU M.db).1.foldl Site.dR {Site.new M.me M.n M.pat with db:=M.db.take (bU M.db).2,dn:=min M.dn (bU M.db).2} by
   rw[←hR];unfold Site.dE;rw[if_pos (show M.pl.down=true from hd)];rfl)
  rw[hR]
  have q0:w.drew.cell? ⟨M.gs,0,none⟩=some (.int .i64 (M.me:Int)):=h.drew.blk.cell 0
  have q1:w.drew.cell? ⟨M.gs,1,none⟩=some (.int .i64 (M.n:Int)):=h.drew.blk.cell 1
  have q2:w.drew.cell? ⟨M.gs,2,none⟩=some (.int .i64 (M.pat:Int)):=h.drew.blk.cell 2
  have ht:fB M.me M.n M.pat=true:=by
   have h1:M.me<M.n:=h.ok.me
   have h2:3≤M.n:=h.ok.n3
   have h3:M.n≤7:=h.ok.n7
   have h4:1≤M.pat∧M.pat≤1000:=h.ok.pat
   simp only[fB,Bool.and_eq_true,decide_eq_true_eq];omega
  have C1:=Hr w.drew M.me M.n M.pat ht
  rw[af.ptr]
  clear hR ht
  go_enter func25,ntmps25
  repeat' first|go_guarded|go_step
  go_cut [2,3]from 8 (fun s2 s3 wc=>∃gw:Nat,s2=.pointer (some ⟨gw,0,none⟩)∧s3=.int .i64 0∧lC wc gw M.me M.n M.pat [0,0,0,0,0,0,0]∧aa [] [gw] w wc)
  case first=>
   go_region_held3 (fun w'=>w'.cell? ⟨M.gs,0,none⟩=some (.int .i64 (M.me:Int))∧w'.cell? ⟨M.gs,1,none⟩=some (.int .i64 (M.n:Int))∧w'.cell? ⟨M.gs,2,none⟩=some (.int .i64 (M.pat:Int))) (first|exact⟨q0,q1,q2⟩|exact⟨q0b,q1b,q2b⟩)
    (
     first
     |(go_at_call 70;(with_reducible refine C1.mono ?_);rintro e w1 ⟨gw,rfl,hw1,hu1⟩;have q0b:=hu1.cell q0 (by simp);have q1b:=hu1.cell q1 (by simp);have q2b:=hu1.cell q2 (by simp)))
   all_goals (refine bN ?_)
   all_goals go_meet
   all_goals exact⟨gw,rfl,rfl,hw1,((aa.refl [] w).drew.trans hu1)⟩
  case rest=>
   obtain⟨gw,rfl,rfl,hwt,U1⟩:=hcut
   clear C1 q0 q1 q2 q3
   repeat' go_step
   refine(Ka wc gw).mono ?_;rintro e w3 ⟨bs,gl,bl,br,rfl,hm1,hL,hm2,hne,hu3⟩
   obtain⟨M4,h4,jY,hg4,Kk,U4⟩:=h.abo hwt U1 hm1 hL hm2 hne hu3
   have h3:=(h.au U1).au hu3
   have K3:ak w3 M.gs 124 #[.int .i64 (M.me:Int),.int .i64 (M.n:Int),.int .i64 (M.pat:Int),.bool M.down,.pointer (some ⟨M.gd,0,none⟩),.map (some M.bs),.int .i64 M.top,
    .pointer (some ⟨M.gl,0,none⟩),.map (some M.br),.int .i64 (M.nx:Int),.pointer (some ⟨M.gw,0,none⟩),.slice M.Ah M.held.length M.ch]:=h3.blk
   obtain⟨⟨z0,z1,z2,z3,z4,z5,z6,z7,z8,z9,z10,z11⟩,f0,f1,f2,f3,f4,f5,f6,f7,f8,f9,f10,f11⟩:=K3.c12
   clear hwt U1 hm1 hL hm2 hne hu3 h h3 K3
   repeat' first|go_step|simp only[];go_at_K
   generalize hW:World.setCell _ _ _=w4
   rw[sw,hW]at h4 U4
   clear hW z0 z1 z2 z3 z4 z5 z6 z7 z8 z9 z10 z11 f0 f1 f2 f3 f4 f5 f6 f7 f8 f9 f10 f11
   have e5:M4.db=M.db:=congrArg Site.db jY
   have e6:M4.dn=M.dn:=congrArg Site.dn jY
   have C5:=EP w4 M4.gd M4.Ad M4.db.length M4.cd M4.db M4.dn h4.nV
   rw[Kk]at C5
   refine C5.mono ?_;rintro e w5 ⟨A5,n5,c5,rfl,dB,bD⟩
   have h5:=h4.au bD
   have hlen:=h4.nV.len
   have adT:=dB.own.cap
   rw[e5]at dB hlen
   clear C5 h4
   repeat' first|go_step|simp only[];go_at_K
   refine(I6 w5 A5 n5 c5 M.db dB.rd adT.1 adT.2 (by omega)).mono ?_;rintro e w6 ⟨A1,k1,c1,xs,rfl,hxs,wB,eP⟩
   have h6:=h5.au eP
   have U6:=U4.trans ((bD.g0.trans eP.g0).up M4.fp)
   obtain⟨hK1,hK2,hK3⟩:=oH M.db
   rw[←hxs]at hK3 HR
   obtain⟨K,hK⟩:=ex1 ((bU M.db).2)
   rw[hK]at hK1 HR ⊢
   have C7:=XV w6 M4.gd M4.Ad M4.db.length M4.cd M4.db M4.dn h6.nV K (by rw[e5];exact hK1)
   rw[Kk]at C7
   have q4:w6.cell? ⟨M.gs,4,none⟩=some (.pointer (some ⟨M.gd,0,none⟩)):=by
    have:=h6.blk.cell 4
    rw[hg4]at this
    rw[this,←Kk];rfl
   clear h5 bD eP dB hK hK2 hxs adT U4
   repeat' first|go_step|simp only[];go_at_K
   refine C7.mono ?_;rintro e w7 ⟨rfl,hD7,gJ⟩
   have Xq:(M4.db.take K).length=K:=by rw[length_take,e5];omega
   rw[←Kk]at hD7 gJ
   obtain⟨h7,V7⟩:=h6.disk (A':=M4.Ad) (c':=K) (db':=M4.db.take K) (dn':=min M4.dn K) (gJ.mono (by simp) (fun k hk=>.inr (.inl hk))) (by rw[Xq];exact hD7) (h6.ok.disk _ _)
   have hXd:∀k∈[M4.gd],bW w6 k=some (some 197):=by simp only[mem_singleton];rintro k rfl;exact h6.td
   have hR7:=wB.upd gJ (bX wB.own.tag hXd (by decide)) (fun x hx=>bX (wB.each x hx).own.tag hXd (by decide))
   obtain⟨M7,DY⟩:∃M7:af,{M4 with Ad:=M4.Ad,cd:=K,db:=M4.db.take K,dn:=min M4.dn K} =M7:=⟨_,rfl⟩
   rw[DY]at h7 V7
   have xV:M7.gs=M.gs:=by rw[←DY];exact hg4
   have rO:M7.pl= {({Site.new M.me M.n M.pat with db:=M.db.take K,dn:=min M.dn K} :Site)with down:=true}:=by
    rw[←DY]
    show({M4.pl with db:=M4.db.take K,dn:=min M4.dn K} :Site)=_
    rw[jY,e5,e6,hd]
   have U7:=U6.trans V7
   have hkx:=hR7.len
   obtain⟨N0,hN0⟩:∃N0:Site,{Site.new M.me M.n M.pat with db:=M.db.take K,dn:=min M.dn K} =N0:=⟨_,rfl⟩
   have HN:=hdn (show N0.down=false by rw[←hN0];rfl)
   rw[hN0]at HR rO
   clear C7 q4 wB h6 gJ hD7 Xq hXd DY U6 V7 e5 e6 hK1 hlen hN0 jY Kk hg4 hd
   repeat' first|go_step|simp only[];go_at_K
   go_loopw [57] (fun v57 wr=>O0 (∃(i:Nat)(Mi:af),i≤xs.length∧v57=.int .i64 (i:Int)∧ay wr Mi∧Mi.pl=((cK xs).take i).foldl Site.dR M7.pl∧Mi.gs=M.gs∧rE wr A1 k1 c1 xs∧aa M.fp Mi.fp w wr)) (fun v57 _=>xs.length-(intOf v57).toNat)
   case atStart=>exact O0.mk ⟨0,M7,by omega,rfl,h7,rfl,xV,hR7,U7⟩
   case round=>
    obtain⟨i,Mi,hi,rfl,hS,hp,hg,hR,U⟩:=hrel.out
    clear hrel h7 hR7 U7 xV
    by_cases hlt:i<xs.length
    ·have hil:(i:Int)<(k1:Int):=by omega
     have hw1:IntKind.i64.wrap ((i:Int)+1)=(i:Int)+1:=by
      have h1:=hR.own.cap
      unfold maxLen at h1
      rw[IntKind.wrap_i64];omega
     obtain⟨ad,rfl,d0,d1,d2,d3,d4⟩:=hR.rvs.at_ hlt
     have HX:=hdn (show((cK xs).take (i+1)).foldl Site.dR M7.pl=Mi.pl.dR xs[i].rc by
      rw[hp,take_succ_eq_append_getElem (by unfold cK;simpa using hlt),foldl_append]
      unfold cK;rw[getElem_map];rfl)
     have hMx:xs[i].rc.May:=hK3 _ (by unfold cK;exact mem_map_of_mem (getElem_mem hlt))
     have hrx:=(hR.each _ (getElem_mem hlt)).rd
     generalize xs[i]=y at *
     obtain⟨W2,G,fu,hG,hB2,U2⟩:=az wr 147 #[.int .i64 y.k,.int .i64 y.s,.int .i64 y.r,.int .i64 y.t,.slice y.A y.n y.c]
     have hS2:=hS.au U2
     have hR2:=hR.au U2
     have C:=O3 W2 Mi hS2 y (hrx.upd U2) hMx
     rw[af.ptr,hg,Rv.aH]at C
     obtain⟨⟨b0,b1,b2,b3,b4⟩,-⟩:=hB2.c5
     have iy:∀(e:TypeId)(ks:List Nat),(∀k∈ks,bW W2 k=some (some e))→e≠124→∀k∈ks,k∉[Mi.gs,Mi.bs]:=fun e ks ht hne k hk hm=>by
      simp only[mem_cons,not_mem_nil,or_false]at hm
      rcases hm with rfl|rfl
      ·exact aU (ht _ hk) hS2.tg (by simpa using hne) rfl
      ·exact aU (ht _ hk) hS2.ts (by simp) rfl
     have hf1:=iy _ _ hR2.own.tag (by decide)
     have hf2:=fun x hx=>iy _ _ ((hR2.each x hx).own.tag) (by decide)
     simp only[hg]at hf1 hf2
     have aK:=U.trans (U2.up Mi.fp)
     clear hS hR U U2 hB2 hp hrx iy hS2
     repeat' go_step
     refine C.mono ?_;rintro e w3 ⟨rfl,⟨M8,h8,yF,Il,-,U8⟩,V8⟩
     have PY:=hR2.upd V8 hf1 hf2
     clear C hR2 V8 hf1 hf2
     refine wk ?_
     exact⟨O0.mk ⟨i+1,M8,by omega,by simp,h8,by rw[yF,HX.out],Il.trans hg,PY,aK.trans U8⟩,by simp[intOf];omega⟩
    ·obtain rfl:i=xs.length:=by omega
     have hil:¬ ((xs.length:Int)<(k1:Int)):=by omega
     have adp:Mi.pl= {N0 with down:=true}.qI (cK xs):=by
      rw[hp,rO,take_of_length_le (by unfold cK;simp)];rfl
     rw[Site.zD]at adp
     have f3:wr.frozen? ⟨M.gs,3,none⟩=false:=by rw[←hg];exact hS.blk.frozen 3
     have t3:wr.cell? ⟨M.gs,3,none⟩=some (.bool Mi.down):=by rw[←hg];exact hS.blk.cell 3
     have u2:aa [Mi.gs] [Mi.gs] wr (wr.setCell ⟨Mi.gs,3,none⟩ (.bool false)):=(aa.refl [Mi.gs] wr).setCell (p:=⟨Mi.gs,3,none⟩) (.inl (by simp)) _
     have hB2:=hS.blk.aO 3 (.bool false)
     have h2:=hS.BM false Mi.top Mi.nx u2 (by simpa[af.cells]using hB2) ⟨hS.ok.me,hS.ok.n3,hS.ok.n7,hS.ok.pat,hS.ok.st,hS.ok.rs,hS.ok.top,hS.ok.nx,hS.ok.held⟩
     obtain⟨M3,jP⟩:∃M3:af,{Mi with down:=false,top:=Mi.top,nx:=Mi.nx} =M3:=⟨_,rfl⟩
     rw[jP]at h2
     have hN:N0.down=false:=by
      have h1:=congrArg Site.down rO
      exact HN.out
     have hp3:M3.pl=R:=by
      rw[HR.out,←jP]
      show({Mi.pl with down:=false} :Site)=_
      rw[adp]
      exact Site.O1 _ _ hN
     have hg3:M3.gs=Mi.gs∧M3.fp=Mi.fp:=by rw[←jP];exact⟨rfl,rfl⟩
     have U2:=U.trans (u2.mono (a':=Mi.fp) (b':=Mi.fp) (fun k hk=>by simp only[mem_singleton]at hk;subst hk;simp[af.fp]) (fun k hk=>.inr (.inl hk)))
     have KEY:=hdn (show Gone w (wr.setCell ⟨M.gs,3,none⟩ (.bool false)) M R from⟨M3,by rw[←hg];exact h2,hp3,hg3.1.trans hg,by rw[←hg,hg3.2];exact U2⟩)
     clear hS h2 U U2 u2 hB2 hp adp jP hp3 hg3 hR hN rO
     refine wk ?_
     exact enR ⟨rfl,KEY.out⟩
end
instance aij:eU:=⟨[]⟩
theorem GV(n:Nat):∀k∈(eU.X:List Nat),k<n:=fun k hk=>by cases hk
