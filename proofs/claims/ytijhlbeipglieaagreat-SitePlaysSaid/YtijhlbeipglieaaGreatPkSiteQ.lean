/- For SitePlays. -/
import Derived.Lib.SlBytesConst
import Derived.Test.YtijhlbeipglieaaGreatPkSiteRe
set_option linter.all false
set_option maxRecDepth 100000
set_option maxHeartbeats 4000000
namespace Go.Proofs.YtijhlbeipglieaaGreat
open Go.RowKit aA Go.Maps Tryz List
def Folds(Q:Site→Ms→Prop):Site→List Ms→Prop
 |_,[]=>True
 |s,m::l=>Q s m∧Folds Q (s.take m) l
theorem Folds.at_{Q:Site→Ms→Prop} :∀{s:Site}{l1 l2:List Ms}{m:Ms},Folds Q s (l1++m::l2)→Q (l1.foldl Site.take s) m
 |_,[],_,_,h=>h.1
 |_,_::l1,_,_,h=>Folds.at_ (l1:=l1) h.2
theorem vI{p:Mv→Bool}{l:List Mv}{i:Nat}(h:i<l.length):(l.take (i+1)).filter p=(l.take i).filter p++(if p l[i] then[l[i]] else[]):=by
 rw[take_succ_eq_append_getElem h,filter_append]
 congr 1
 by_cases e:p l[i]=true<;>simp[e]
section
variable [eU]
def zJ(Q:Site→Ms→Prop):Prop:=∀(w:World)(M:af)(m:Mv),ay w M→Q M.pl m.ms→m.ms.May→dF w m.sl→(∀k∈ah m.A,k∉M.fp)→(∀k∈ah m.A,k∉(eU.X:List Nat))→
 Calls prog 66 #[M.ptr,m.val] w fun e w'=>e=.returned (.tuple #[])∧Gone w w' M (M.pl.take m.ms)
section
variable {w:World} {M:af}
theorem ay.ab7(h:ay w M):∀k∈ah M.Ah,k∉({M with Ah:=none,ch:=0,held:=[]} :af).fp:=by
 intro k hk hm
 have ht:=h.tH k hk
 simp only[af.fp,aS.fp,ah,mem_append,mem_cons,not_mem_nil,or_false,false_or,mem_flatMap]at hm
 rcases hm with(rfl|rfl|rfl|rfl|rfl|rfl|rfl)|hm|⟨p,hp,rfl|hm|hm⟩
 ·exact aU ht h.tg (by decide) rfl
 ·exact aU ht h.td (by decide) rfl
 ·exact aU ht h.ts (by decide) rfl
 ·exact aU ht h.tl (by decide) rfl
 ·exact aU ht h.tb (by decide) rfl
 ·exact aU ht h.tr (by decide) rfl
 ·exact aU ht h.tw (by decide) rfl
 ·exact aU ht (h.tA k hm) (by decide) rfl
 ·exact aU ht (h.bV p hp).tg (by decide) rfl
 ·exact aU ht ((h.bV p hp).tP k hm) (by decide) rfl
 ·exact aU ht ((h.bV p hp).tV k hm) (by decide) rfl
theorem ay.JS(h:ay w M):ay (w.setCell ⟨M.gs,11,none⟩ (.slice none 0 0)) {M with Ah:=none,ch:=0,held:=[]}∧
  aa M.fp ({M with Ah:=none,ch:=0,held:=[]} :af).fp w (w.setCell ⟨M.gs,11,none⟩ (.slice none 0 0))∧
  bR Mv.cells 10 (w.setCell ⟨M.gs,11,none⟩ (.slice none 0 0)) M.Ah M.held.length M.held∧
  ∀x∈M.held,dF (w.setCell ⟨M.gs,11,none⟩ (.slice none 0 0)) x.sl∧∀k∈ah x.A,k∉({M with Ah:=none,ch:=0,held:=[]} :af).fp:=by
 have u2:aa [M.gs] [M.gs] w (w.setCell ⟨M.gs,11,none⟩ (.slice none 0 0)):=(aa.refl [M.gs] w).setCell (p:=⟨M.gs,11,none⟩) (.inl (by simp)) _
 have hB:=h.blk.aO 11 (.slice none 0 0)
 have hX:∀k∈[M.gs],bW w k=some (some 124):=by simp only[mem_singleton];rintro k rfl;exact h.tg
 obtain⟨h2,U2⟩:=h.hold (A':=none) (c':=0) (l':=[]) (w1:=w) ((aa.refl (ah M.Ah) w).gives (by simp[ah])) (Own.nil _ _ _) (by simp) u2 (by simpa[af.cells]using hB) (h.ok.put (l:=[]) (by simp))
 refine⟨h2,U2,⟨rfl,h.hld.rd.upd u2 (bX h.tH hX (by decide))⟩,fun x hx=>?_⟩
 have hm:x.sl∈M.bytes:=by simp only[af.bytes,mem_append];exact .inr (.inr (.inr (mem_map_of_mem hx)))
 refine⟨(h.gB _ hm).upd u2 (bX (h.gB _ hm).tag hX (by decide)),fun k hk hn=>h.G9 hm k hk ?_⟩
 simp only[af.fp,ah,mem_append]at hn ⊢
 rcases hn with hn|hn|hn|hn
 ·exact .inl hn
 ·exact .inr (.inl hn)
 ·cases hn
 ·exact .inr (.inr (.inr hn))
end
theorem BO(Q:Site→Ms→Prop)(T:zJ Q)(w:World)(M:af)(h:ay w M)(hd:M.down=false)(hl:M.held.length≤1000000000)(hQ:Folds Q {M.pl with dn:=M.db.length,held:=[]} (M.pl.held.filter fun m=>decide (m.to=(M.me:Int)))) :
  Calls prog 21 #[M.ptr] w fun e w'=>∃(A:Option Addr)(c:Nat)(told:List Mv)(M':af),e=.returned (.slice A told.length c)∧told.map Mv.ms=M.pl.sync.2∧aA.Own 32 10 w' A told.length c (told.flatMap Mv.cells)∧
   (∀k∈ah A,w.heap.size≤k∧k∉M'.fp)∧(∀x∈told,dF w' x.sl∧∀k∈ah x.A,k∉M'.fp∧k∉(eU.X:List Nat))∧ay w' M'∧M'.pl=M.pl.sync.1∧M'.gs=M.gs∧aa M.fp M'.fp w w':=by
 have C0:=oF w M h
 rw[show M.pl.down=false from hd,af.ptr]at C0
 have C1:=SL w M.gd M.Ad M.db.length M.cd M.db M.dn h.nV
 have q4:w.cell? ⟨M.gs,4,none⟩=some (.pointer (some ⟨M.gd,0,none⟩)):=h.blk.cell 4
 have HS2:=hdn (show M.pl.sync.2=(M.held.filter fun m=>decide (m.t≠(M.me:Int))).map Mv.ms by
  unfold Site.sync
  rw[if_neg (by rw[show M.pl.down=false from hd];simp)]
  show(M.held.map Mv.ms).filter _=_
  rw[filter_map];rfl)
 have qg:=hdn (show M.pl.sync.1=((M.held.filter fun m=>decide (m.t=(M.me:Int))).map Mv.ms).foldl Site.take {M.pl with dn:=M.db.length,held:=[]} by
  unfold Site.sync
  rw[if_neg (by rw[show M.pl.down=false from hd];simp)]
  show foldl _ _ ((M.held.map Mv.ms).filter _)=_
  rw[filter_map];rfl)
 have HQ:=hdn (show Folds Q {M.pl with dn:=M.db.length,held:=[]} ((M.held.filter fun m=>decide (m.t=(M.me:Int))).map Mv.ms) by
  have:M.pl.held.filter (fun m=>decide (m.to=(M.me:Int)))=(M.held.filter fun m=>decide (m.t=(M.me:Int))).map Mv.ms:=by
   show(M.held.map Mv.ms).filter _=_
   rw[filter_map];rfl
  rw[←this];exact hQ)
 obtain⟨R1,fI⟩:∃R,M.pl.sync.1=R:=⟨_,rfl⟩
 obtain⟨R2,hR2⟩:∃R,M.pl.sync.2=R:=⟨_,rfl⟩
 rw[fI]at qg ⊢
 rw[hR2]at HS2 ⊢
 clear fI hR2 hQ
 rw[af.ptr]
 go_enter func21,ntmps21
 repeat' go_step
 refine C0.mono ?_;rintro e w1 ⟨rfl,rfl⟩
 repeat' first|go_step|simp only[];go_at_K
 refine C1.mono ?_;rintro e w1 ⟨rfl,hD1,hu1⟩
 obtain⟨h1,V1⟩:=h.disk (A':=M.Ad) (c':=M.cd) (db':=M.db) (dn':=M.db.length) (hu1.mono (by simp) (fun k hk=>.inr (.inl hk))) hD1 (h.ok.disk _ _)
 obtain⟨h2,V2,hR,Ke⟩:=h1.JS
 have Ab:=h1.ab7
 have hBN:∀x∈M.held,∀k∈ah x.A,k∉(eU.X:List Nat):=fun x hx k hk hm=>h.bad x.sl (by simp only[af.bytes,mem_append];exact .inr (.inr (.inr (mem_map_of_mem hx)))) k hk (af.Xm hm)
 have BR:w1.cell? ⟨M.gs,11,none⟩=some (.slice M.Ah M.held.length M.ch):=h1.blk.cell 11
 have f11:w1.frozen? ⟨M.gs,11,none⟩=false:=h1.blk.frozen 11
 have Kg:∀x∈M.held,x.ms.May:=fun x hx=>h.ok.held _ (mem_map_of_mem hx)
 obtain⟨M2,hM2⟩:∃M2:af,{M with dn:=M.db.length,Ah:=none,ch:=0,held:=[]} =M2:=⟨_,rfl⟩
 obtain⟨l,hl0⟩:=ex1 M.held
 simp only[hM2,hl0]at h2 V2 Ke Ab hR
 rw[hl0]at hBN
 have hp2:M2.pl= {M.pl with dn:=M.db.length,held:=[]}:=by rw[←hM2];rfl
 have hg2:M2.gs=M.gs:=by rw[←hM2]
 have Ij:M2.me=M.me:=by rw[←hM2]
 rw[←hp2]at qg HQ
 rw[hl0]at qg HS2 HQ BR hl Kg
 have VV:=V1.trans V2
 have abg:=h1.hld.lt
 obtain⟨Ah,hAh⟩:∃A,M.Ah=A:=⟨_,rfl⟩
 simp only[hAh]at abg Ab hR BR
 have s1:=hu1.size
 clear C0 C1 hD1 hu1 h1 V1 V2 h hl0 hM2 hAh q4 hp2 hd
 repeat' first|go_step|simp only[];go_at_K
 have q0':∀(wx:World)(b:List Nat),aa [] b (w1.setCell ⟨M.gs,11,none⟩ (.slice none 0 0)) wx→wx.cell? ⟨M.gs,0,none⟩=some (.int .i64 (M.me:Int)):=fun wx b u=>by
  have:=(h2.au u).blk.cell 0
  rw[hg2]at this;rw[this,←Ij];rfl
 obtain⟨w2,hw2⟩:=ex1 (w1.setCell ⟨M.gs,11,none⟩ (.slice none 0 0))
 rw[hw2]at h2 VV Ke hR q0' ⊢
 have s2:w1.heap.size≤w2.heap.size:=by rw[←hw2];simp[World.setCell]
 clear hw2 BR f11
 go_loopw [4,27] (fun v4 v27 wr=>∃(i:Nat)(A1:Option Addr)(c1:Nat),i≤l.length∧v27=.int .i64 (i:Int)∧v4=.slice A1 ((l.take i).filter fun m=>decide (m.t≠(M.me:Int))).length c1∧
   aA.Own 32 10 wr A1 ((l.take i).filter fun m=>decide (m.t≠(M.me:Int))).length c1 (((l.take i).filter fun m=>decide (m.t≠(M.me:Int))).flatMap Mv.cells)∧aa [] (ah A1) w2 wr)
  (fun _ v27 _=>l.length-(intOf v27).toNat)
 case atStart=>exact⟨0,none,0,by omega,rfl,rfl,Own.nil _ _ _,aa.refl _ _⟩
 case round=>
  obtain⟨i,A1,c1,hi,rfl,rfl,ho,U⟩:=hrel
  by_cases hlt:i<l.length
  ·have hil:(i:Int)<(l.length:Int):=by omega
   have hw1:=aA.wr ((i:Int)+1)
   have lY:=hR.au U
   obtain⟨ad,rfl,h0,hj⟩:=bR.at_ (f:=Mv.cells) (s:=10) (fun _=>rfl) lY hlt
   have HT:=hdn (vI (p:=fun m=>decide (m.t≠(M.me:Int))) hlt)
   have hln:((l.take i).filter fun m=>decide (m.t≠(M.me:Int))).length≤i:=Nat.le_trans (length_filter_le _ _) (by rw[length_take];omega)
   generalize l[i]=y at *
   have d0:=h0 _ rfl
   have d1:=hj 1 _ (by omega) rfl
   have d2:=hj 2 _ (by omega) rfl
   have d3:=hj 3 _ (by omega) rfl
   have d4:=hj 4 _ (by omega) rfl
   have d5:=hj 5 _ (by omega) rfl
   have d6:=hj 6 _ (by omega) rfl
   have d7:=hj 7 _ (by omega) rfl
   have d8:=hj 8 _ (by omega) rfl
   have d9:=hj 9 _ (by omega) rfl
   clear h0 hj lY
   obtain⟨W2,G,fu,hG,hB2,U2⟩:=az wr 32 (MC y)
   have ho2:=ho.upd U2
   have aK:=U.trans (U2.up _)
   have p0:=fun N=>q0' (W2.drewN N) (ah A1) (aK.drewN N)
   have b2:=fun N=>(hB2.drewN N).cell 2
   obtain⟨X,hX⟩:=ex1 ((l.take i).filter (fun m=>decide (m.t≠(M.me:Int))))
   rw[hX]at ho2 hln HT ⊢
   clear ho
   by_cases he:y.t=(M.me:Int)
   ·have dt:(y.t==(M.me:Int))=true:=by rw[he];exact beq_self_eq_true _
    have HE:=hdn he
    clear he
    repeat' go_step
    go_quiet (fail)
    repeat' go_step
    have hF:(l.take (i+1)).filter (fun m=>decide (m.t≠(M.me:Int)))=X:=by rw[HT.out,if_neg (by simpa using HE.out),append_nil]
    exact⟨⟨i+1,A1,c1,by omega,by simp,by rw[hF],by rw[hF];exact ho2.drewN _,aK.drewN _⟩,by simp[intOf];omega⟩
   ·have dt:(y.t==(M.me:Int))=false:=beq_false_of_ne he
    have HE:=hdn he
    clear he
    repeat' go_step
    go_quiet (fail)
    obtain⟨⟨g0,g1,g2,g3,g4,g5,g6,g7,g8,g9⟩,-⟩:=(hB2.drewN nq).c10
    have ho3:=ho2.drewN nq
    repeat' (fail_if_success with_reducible refine Ag rfl ?_);go_step
    refine bQ rfl _ _ 26 rfl 32 underlying26 wF rfl (by decide) ho3 rfl (W2.drewN nq).heap.size rfl (news:=y.cells) rfl rfl rfl (by unfold maxLen;omega) (by omega) ?_
    intro A3 c3 w3 bY bM
    have rP:=(aK.drewN nq).trans bM
    clear ho2 ho3 hB2 U2 aK U bM p0 b2 g0 g1 g2 g3 g4 g5 g6 g7 g8 g9
    refine wk ?_
    have hF:(l.take (i+1)).filter (fun m=>decide (m.t≠(M.me:Int)))=X++[y]:=by rw[HT.out,if_pos (by simpa using HE.out)]
    exact⟨⟨i+1,A3,c3,by omega,by simp,by rw[hF];simp,by rw[hF];simpa using bY,rP⟩,by simp[intOf];omega⟩
  ·obtain rfl:i=l.length:=by omega
   have hil:¬ ((l.length:Int)<(l.length:Int)):=by omega
   rw[take_length]at ho
   obtain⟨told,ahz⟩:∃t,l.filter (fun m=>decide (m.t≠(M.me:Int)))=t:=⟨_,rfl⟩
   rw[take_length,ahz]
   rw[ahz]at ho HS2
   have hin:∀x∈told,x∈l:=fun x hx=>by rw[←ahz]at hx;exact(mem_filter.1 hx).1
   clear ahz
   obtain⟨wa,P8⟩:∃x,wr=x:=⟨_,rfl⟩
   have h3:=h2.au U
   have je:=hR.au U
   have Kh:∀x∈l,dF wr x.sl:=fun x hx=>(Ke x hx).1.au U
   have hA1:∀k∈ah A1,w2.heap.size≤k:=(aa.refl [] w2).new U
   have abh:=ho.lt
   have VV3:=VV.trans (U.up M2.fp)
   have hf2:=h2.lt
   rw[P8]at h3 je Kh ho VV3 abh ⊢
   have hAl:∀k∈ah Ah,k<w2.heap.size:=fun k hk=>by have:=abg k hk;omega
   clear P8 U hR h2
   repeat' go_step
   go_loopw [45] (fun v45 wr=>∃(i:Nat)(M3:af),i≤l.length∧v45=.int .i64 (i:Int)∧ay wr M3∧M3.pl=(((l.take i).filter fun m=>decide (m.t=(M.me:Int))).map Mv.ms).foldl Site.take M2.pl∧M3.gs=M.gs∧aa M2.fp M3.fp wa wr) (fun v45 _=>l.length-(intOf v45).toNat)
   case atStart=>exact⟨0,M2,by omega,rfl,h3,rfl,hg2,aa.refl _ _⟩
   case round=>
    obtain⟨i,M3,hi,rfl,h4,jY,hg4,U4⟩:=hrel
    have HP4:=hdn jY
    by_cases hlt:i<l.length
    ·have hil:(i:Int)<(l.length:Int):=by omega
     have hw1:=aA.wr ((i:Int)+1)
     have lY:=je.upd U4 Ab
     obtain⟨ad,rfl,h0,hj⟩:=bR.at_ (f:=Mv.cells) (s:=10) (fun _=>rfl) lY hlt
     have hyl:l[i]∈l:=getElem_mem hlt
     have HT:=hdn (vI (p:=fun m=>decide (m.t=(M.me:Int))) hlt)
     have hqq:l[i].t=(M.me:Int)→Q M3.pl l[i].ms:=fun he=>by
      have aiK:l.filter (fun m=>decide (m.t=(M.me:Int)))=(l.take i).filter (fun m=>decide (m.t=(M.me:Int)))++l[i]::(l.drop (i+1)).filter (fun m=>decide (m.t=(M.me:Int))):=by
       conv=>lhs;rw[←take_append_drop i l,drop_eq_getElem_cons hlt]
       rw[filter_append,filter_cons,if_pos (by simpa using he)]
      have hq:=HQ.out
      rw[aiK,map_append,map_cons]at hq
      rw[jY]
      exact hq.at_
     have afo:=(Kh _ hyl).upd U4 (Ke _ hyl).2
     have ab8:∀k∈ah l[i].A,k∉(eU.X:List Nat):=hBN _ hyl
     have ab9:∀k∈ah l[i].A,k∉M3.fp:=fun k hk=>U4.eQ ((Ke _ hyl).2 k hk) (iI ((Kh _ hyl).tag k hk))
     have hmy:=Kg _ hyl
     have q0:wr.cell? ⟨M.gs,0,none⟩=some (.int .i64 (M.me:Int)):=by
      have:=h4.blk.cell 0
      rw[hg4]at this
      rw[this]
      have e1:M3.me=M2.me:=by
       have:=congrArg Site.me jY
       rw[(Site.vF _ _).me]at this
       exact this
      rw[←Ij,←e1];rfl
     generalize l[i]=y at *
     have d0:=h0 _ rfl
     have d1:=hj 1 _ (by omega) rfl
     have d2:=hj 2 _ (by omega) rfl
     have d3:=hj 3 _ (by omega) rfl
     have d4:=hj 4 _ (by omega) rfl
     have d5:=hj 5 _ (by omega) rfl
     have d6:=hj 6 _ (by omega) rfl
     have d7:=hj 7 _ (by omega) rfl
     have d8:=hj 8 _ (by omega) rfl
     have d9:=hj 9 _ (by omega) rfl
     clear h0 hj lY jY
     obtain⟨W2,G,fu,hG,hB2,U2⟩:=az wr 32 (MC y)
     have Xp:=U2.g0
     have p0:=fun N=>(Xp.drewN N).cell q0 (by simp)
     have b2:=fun N=>(hB2.drewN N).cell 2
     obtain⟨X,hX⟩:=ex1 ((l.take i).filter (fun m=>decide (m.t=(M.me:Int))))
     rw[hX]at HT HP4
     clear hX
     by_cases he:y.t=(M.me:Int)
     ·have dt:(y.t==(M.me:Int))=true:=by rw[he];exact beq_self_eq_true _
      have hq:=hqq he
      have HE:=hdn he
      clear he hqq
      repeat' go_step
      go_quiet (fail)
      obtain⟨⟨g0,g1,g2,g3,g4,g5,g6,g7,g8,g9⟩,-⟩:=(hB2.drewN nq).c10
      have U5:=Xp.drewN nq
      have C:=T (W2.drewN nq) M3 y (h4.au U5) hq hmy (afo.au U5) ab9 ab8
      rw[Mv.aH,af.ptr,hg4]at C
      repeat' go_step
      refine C.mono ?_;rintro e w6 ⟨rfl,M6,h6,iY,jy,U6⟩
      refine wk ?_
      have hF:(l.take (i+1)).filter (fun m=>decide (m.t=(M.me:Int)))=X++[y]:=by rw[HT.out,if_pos (by simpa using HE.out)]
      exact⟨⟨i+1,M6,by omega,by simp,h6,by rw[hF,iY,HP4.out];simp,jy.trans hg4,(U4.trans (U5.up _)).trans U6⟩,by simp[intOf];omega⟩
     ·have dt:(y.t==(M.me:Int))=false:=beq_false_of_ne he
      have HE:=hdn he
      clear he hqq
      repeat' go_step
      go_quiet (fail)
      refine wk ?_
      have hF:(l.take (i+1)).filter (fun m=>decide (m.t=(M.me:Int)))=X:=by rw[HT.out,if_neg (by simpa using HE.out),append_nil]
      exact⟨⟨i+1,M3,by omega,by simp,h4.au (Xp.drewN _),by rw[hF,HP4.out],hg4,U4.trans ((Xp.drewN _).up _)⟩,by simp[intOf];omega⟩
    ·obtain rfl:i=l.length:=by omega
     have hil:¬ ((l.length:Int)<(l.length:Int)):=by omega
     have KEY:=hdn (show told.map Mv.ms=R2∧aA.Own 32 10 wr A1 told.length c1 (told.flatMap Mv.cells)∧(∀k∈ah A1,w.heap.size≤k∧k∉M3.fp)∧(∀x∈told,dF wr x.sl∧∀k∈ah x.A,k∉M3.fp∧k∉(eU.X:List Nat))∧ay wr M3∧M3.pl=R1∧M3.gs=M.gs∧aa M.fp M3.fp w wr from by
      have abl:∀k∈ah A1,k∉M2.fp:=fun k hk hm=>by have h7:=hA1 k hk;have h8:=hf2 k hm;omega
      refine⟨HS2.out.symm,ho.upd U4 abl,fun k hk=>⟨by have:=hA1 k hk;omega,U4.eQ (abl k hk) (abh k hk)⟩,fun x hx=>⟨(Kh x (hin x hx)).upd U4 (Ke x (hin x hx)).2,fun k hk=>⟨U4.eQ ((Ke x (hin x hx)).2 k hk) (iI ((Kh x (hin x hx)).tag k hk)),hBN x (hin x hx) k hk⟩⟩,h4,?_,hg4,VV3.trans U4⟩
      rw[jY,take_length,qg.out])
     clear jY h4 U4 ho
     refine wk ?_
     go_ret
     obtain⟨z1,z2,z3,z4,z5,z6,z7,z8⟩:=KEY.out
     exact⟨A1,c1,told,M3,rfl,z1,z2,z3,z4,z5,z6,z7,z8⟩
theorem Ry(w:World)(M:af)(h:ay w M)(hd:M.down=true) :
  Calls prog 21 #[M.ptr] w fun e w'=>e=.returned (.slice none 0 0)∧w=w':=by
 have C0:=oF w M h
 rw[show M.pl.down=true from hd,af.ptr]at C0
 rw[af.ptr]
 clear h
 go_enter func21,ntmps21
 repeat' go_step
 refine C0.mono ?_;rintro e w1 ⟨rfl,rfl⟩
 refine wk ?_
 go_ret
 exact⟨rfl,rfl⟩
theorem Kw(Q:Site→Ms→Prop)(T:zJ Q)(w:World)(M:af)(h:ay w M)(hl:M.held.length≤1000000000)(hQ:M.down=false→Folds Q {M.pl with dn:=M.db.length,held:=[]} (M.pl.held.filter fun m=>decide (m.to=(M.me:Int)))) :
  Calls prog 21 #[M.ptr] w fun e w'=>∃(A:Option Addr)(c:Nat)(told:List Mv)(M':af),e=.returned (.slice A told.length c)∧told.map Mv.ms=M.pl.sync.2∧aA.Own 32 10 w' A told.length c (told.flatMap Mv.cells)∧
   (∀k∈ah A,w.heap.size≤k∧k∉M'.fp)∧(∀x∈told,dF w' x.sl∧∀k∈ah x.A,k∉M'.fp∧k∉(eU.X:List Nat))∧ay w' M'∧M'.pl=M.pl.sync.1∧M'.gs=M.gs∧aa M.fp M'.fp w w':=by
 cases hd:M.down with
 |false=>exact BO Q T w M h hd hl (hQ hd)
 |true=>
  refine(Ry w M h hd).mono ?_
  rintro e w' ⟨rfl,rfl⟩
  have e1:M.pl.sync=(M.pl,[]):=by unfold Site.sync;rw[if_pos (show M.pl.down=true from hd)]
  exact⟨none,0,[],M,rfl,by rw[e1];rfl,Own.nil _ _ _,by simp[ah],by simp,h,by rw[e1],rfl,aa.refl _ _⟩
end
theorem _root_.aA.aD.afp{w w':World}{A:Option Addr}{n:Nat}{l:List UInt8}{a b:List Nat}(h:aD w A n l)(hu:aa a b w w')(hd:0<n→∀k∈ah A,k∉a):aD w' A n l:=⟨h.1,fun h0=>(Rd.upd h hu (hd h0)).2 h0⟩
theorem _root_.aA.aD.below{w:World}{A:Option Addr}{n:Nat}{l:List UInt8}(h:aD w A n l)(h0:0<n):∀k∈ah A,k<w.heap.size:=by
 obtain⟨ad,rfl,hc⟩:=h.2 h0
 intro k hk
 simp only[ah,mem_singleton]at hk
 subst hk
 have hl:0<(iH l).length:=by have:=h.1;omega
 have:=World.block_lt_of_cell? w _ (hc 0 _ (List.getElem?_eq_getElem hl))
 simpa[Addr.add]using this
variable [eU]
theorem zW(Q:Site→Ms→Prop)(T:zJ Q)(w:World)(M:af)(h:ay w M)(m:Mv)(hr:aD w m.A m.n m.b)(hrf:0<m.n→∀k∈ah m.A,k∉M.fp)(hQ:m.ms.May→M.down=false→m.t=M.me→Q {M.pl with wt:=M.wt.set m.f.toNat 0} m.ms) :
  Calls prog 24 #[M.ptr,m.val] w fun e w'=>e=.returned (.int .i64 (M.pl.handle m.ms).2)∧Gone w w' M (M.pl.handle m.ms).1:=by
 obtain⟨W,H,eW,hH,hB,U0⟩:=az w 32 (MC m)
 have h1:=h.au U0
 have hr1:aD W m.A m.n m.b:=hr.upd U0
 have dm:=U0.g0
 have C0:=oF W M h1
 obtain⟨R,hR⟩:=ex1 (M.pl.handle m.ms)
 have HR:=hdn hR
 rw[hR]
 clear hR
 have ik:H∉M.fp:=fun hk=>by have:=h.lt H hk;omega
 obtain⟨⟨a0,a1,a2,a3,a4,a5,a6,a7,a8,a9⟩,f0,f1,f2,f3,f4,f5,f6,f7,f8,f9⟩:=hB.c10
 have ado:∀(W2:World)(b:List Nat),aa [] b w W2→R.1=M.pl→Gone w W2 M R.1:=fun W2 b u e=>⟨M,h.au u,e.symm,rfl,u.up M.fp |>.gives (fun k hk=>.inl hk)⟩
 rw[af.ptr,Mv.aH]
 rw[af.ptr]at C0
 cases hd:M.down with
 |true=>
  have hr:R=(M.pl,14):=by rw[←HR.out];unfold Site.handle;rw[if_pos (show M.pl.down=true from hd)]
  subst hr
  rw[show M.pl.down=true from hd]at C0
  go_enter func24,ntmps24
  repeat' go_step
  refine C0.mono ?_;rintro e w1 ⟨rfl,rfl⟩
  refine wk ?_
  go_ret
  exact⟨rfl,ado _ _ U0 rfl⟩
 |false=>
  rw[show M.pl.down=false from hd]at C0
  by_cases hm:m.ms.May
  ·have C1:=Qu m W hr1 hm
   rw[Mv.aH]at C1
   have hx0:∀(Wx:World)(b:List Nat),aa [] b w Wx→Wx.cell? ⟨M.gs,0,none⟩=some (.int .i64 (M.me:Int)):=fun Wx b u=>(h.au u).blk.cell 0
   have hx1:∀(Wx:World)(b:List Nat),aa [] b w Wx→Wx.cell? ⟨M.gs,1,none⟩=some (.int .i64 (M.n:Int)):=fun Wx b u=>(h.au u).blk.cell 1
   have HRm:R=if m.t≠M.me∨m.f=M.me∨(M.n:Int)≤m.f then(M.pl,1) else(({M.pl with wt:=M.wt.set m.f.toNat 0} :Site).take m.ms,0):=by
    rw[←HR.out];unfold Site.handle
    rw[if_neg (by rw[show M.pl.down=false from hd];simp),if_neg (by simpa using hm)]
    rfl
   have vH:=hdn HRm
   clear HRm HR
   go_enter func24,ntmps24
   repeat' go_step
   refine C0.mono ?_;rintro e w1 ⟨rfl,rfl⟩
   repeat' first|go_step|simp only[];go_at_K
   refine C1.mono ?_;rintro e w2 ⟨A1,k1,c1,rfl,-,hu2⟩
   have U2:=(dm.trans hu2)
   have hB2:=hB.upd hu2
   have hr2:=hr1.upd hu2
   clear C0 C1 a0 a1 a2 a3 a4 a5 a6 a7 a8 a9 f0 f1 f2 f3 f4 f5 f6 f7 f8 f9
   have e2:∀N,(w2.drewN N).cell? ⟨H,2,none⟩=some (.int .i64 m.t):=fun N=>hB2.cell 2
   have e1:∀N,(w2.drewN N).cell? ⟨H,1,none⟩=some (.int .i64 m.f):=fun N=>hB2.cell 1
   have g0:∀N,(w2.drewN N).cell? ⟨M.gs,0,none⟩=some (.int .i64 (M.me:Int)):=fun N=>hx0 _ _ (U2.drewN N)
   have g1:∀N,(w2.drewN N).cell? ⟨M.gs,1,none⟩=some (.int .i64 (M.n:Int)):=fun N=>hx1 _ _ (U2.drewN N)
   obtain⟨⟨a0,a1,a2,a3,a4,a5,a6,a7,a8,a9⟩,f0,f1,f2,f3,f4,f5,f6,f7,f8,f9⟩:=hB2.c10
   by_cases ht:m.t=M.me
   ·have dt:(m.t != (M.me:Int))=false:=by rw[ht];exact bne_self_eq_false _
    by_cases hf:m.f=M.me
    ·have df:(m.f==(M.me:Int))=true:=by rw[hf];exact beq_self_eq_true _
     have hr:R=(M.pl,1):=by rw[vH.out,if_pos (.inr (.inl hf))]
     subst hr
     have HT:=hdn ht
     have HF:=hdn hf
     clear vH ht hf hQ
     repeat' first|go_step|simp only[];go_at_K
     go_quiet (fail)
     refine wk ?_
     go_ret
     exact⟨rfl,ado _ _ (U2.drewN _) rfl⟩
    ·have df:(m.f==(M.me:Int))=false:=beq_false_of_ne hf
     by_cases hn:(M.n:Int)≤m.f
     ·have dn:decide ((M.n:Int)≤m.f)=true:=dTx hn
      have hr:R=(M.pl,1):=by rw[vH.out,if_pos (.inr (.inr hn))]
      subst hr
      have HT:=hdn ht
      clear vH ht hf hQ hn
      repeat' first|go_step|simp only[];go_at_K
      go_quiet (fail)
      refine wk ?_
      go_ret
      exact⟨rfl,ado _ _ (U2.drewN _) rfl⟩
     ·have dn:decide ((M.n:Int)≤m.f)=false:=dFx hn
      have hr:R=(({M.pl with wt:=M.wt.set m.f.toNat 0} :Site).take m.ms,0):=by rw[vH.out,if_neg (by omega)]
      have hq:=hQ hm hd ht
      have hf0:0≤m.f:=hm.bO.1
      obtain⟨s,hs⟩:∃s:Nat,m.f=(s:Int):=⟨m.f.toNat,by omega⟩
      have hsn:s<M.n:=by omega
      have HT:=hdn ht
      have HF:=hdn hf
      have HN:=hdn hn
      have HRR:=hdn hr
      have HS:=hdn hs
      have nC:m.b.length≤2048:=hm.val
      clear vH ht hf hQ hn hr hs
      repeat' first|go_step|simp only[];go_at_K
      go_quiet (fail)
      repeat' go_step
      obtain⟨w3,hw3⟩:=ex1 (w2.drewN nq)
      have U3:aa [] [] w w3.drew:=by rw[←hw3];exact((U2.drewN nq).drew).gives
      have hB3:=(hB2.drewN nq).drew
      rw[hw3]at hB3
      have hr3:aD w3.drew m.A m.n m.b:=by rw[←hw3];exact hr2
      rw[hw3]
      clear hw3 e1 e2 g0 g1 a0 a1 a2 a3 a4 a5 a6 a7 a8 a9 f0 f1 f2 f3 f4 f5 f6 f7 f8 f9 hB2 hr2
      have h3:=h.au U3
      have FP:M.n≤7:=h.ok.n7
      have C3:=NY w3.drew M.gw M.me M.n M.pat M.wt h3.nT FP s hsn
      have Eu:w3.drew.cell? ⟨M.gs,10,none⟩=some (.pointer (some ⟨M.gw,0,none⟩)):=h3.blk.cell 10
      obtain⟨⟨a0,a1,a2,a3,a4,a5,a6,a7,a8,a9⟩,-⟩:=hB3.c10
      have hsi:m.f=(s:Int):=HS.out
      rw[hsi]at a1
      have hgw:M.gw∈M.fp:=by simp[af.fp]
      go_still_tail 7,(by kernel_rfl)
      change wpList _ _ _ _ _ w3.drew
      repeat' go_step
      refine C3.mono ?_;rintro e w4 ⟨rfl,kv,bM⟩
      obtain⟨h4,U4⟩:=h3.watch bM kv
      have hB4:=hB3.upd bM (by simp only[mem_singleton];rintro rfl;exact ik hgw)
      have hr4:=hr3.afp bM (fun h0 k hk hm=>hrf h0 k hk (by rw[mem_singleton.1 hm];exact hgw))
      have C5:=dS w4 m.A m.n m.c m.b hr4 (by omega)
      clear a0 a1 a2 a3 a4 a5 a6 a7 a8 a9
      obtain⟨⟨a0,a1,a2,a3,a4,a5,a6,a7,a8,a9⟩,-⟩:=hB4.c10
      have hok:({M with wt:=M.wt.set s 0} :af).pl= {M.pl with wt:=M.wt.set m.f.toNat 0}:=by rw[hsi];rfl
      have hqs:Q ({M with wt:=M.wt.set s 0} :af).pl m.ms:=by rw[hok];exact hq
      obtain⟨M4,DW⟩:∃M4:af,({M with wt:=M.wt.set s 0} :af)=M4:=⟨_,rfl⟩
      rw[DW]at h4 hqs hok
      have hg4:M4.gs=M.gs:=by rw[←DW]
      have OW:M4.fp=M.fp:=by rw[←DW];rfl
      have uO:=h.lt
      have eu:=h.qW
      have aiB:∀k∈ah M4.Ad,k<w.heap.size:=fun k hk=>uO k (by rw[←OW];simp[af.fp,hk])
      have U5:=(U3.up M.fp).trans U4
      have wP:=hdn hsi
      have s5:=U5.size
      have HMm:=hdn hm
      clear DW hq U4 kv bM hB3 hr3 h3 Eu hsi hm
      repeat' first|go_step|simp only[];go_at_K
      refine C5.mono ?_;rintro e w5 ⟨A,n,c,rfl,ho,bD⟩
      have K5:=hB4.upd bD
      have hA:=(aa.refl [] w4).new bD
      have aiC:=hB4.lt
      clear a0 a1 a2 a3 a4 a5 a6 a7 a8 a9 C5 hB4
      obtain⟨⟨a0,a1,a2,a3,a4,a5,a6,a7,a8,a9⟩,f0,f1,f2,f3,f4,f5,f6,f7,f8,f9⟩:=K5.c10
      have u6:aa [H] [H] w5 (w5.setCell ⟨H,9,none⟩ (.slice A n c)):=(aa.refl [H] w5).setCell (p:=⟨H,9,none⟩) (.inl (by simp)) _
      have h6:=(h4.au bD).set K5 (by decide) (by rw[OW];exact ik) u6
      have iX:=ho.upd u6 (fun k hk=>by have:=hA k hk;simp only[mem_singleton];omega)
      have C7:=T _ M4 {m with A:=A,n:=n,c:=c} h6 hqs HMm.out ⟨iX.rd,iX.own.tag⟩ (fun k hk hn=>by have h7:=hA k hk;have h8:=uO k (by rw[←OW];exact hn);omega) (fun k hk hn=>by have h7:=hA k hk;have h8:=eu k hn;omega)
      have U6:=(U5.trans (bD.up M.fp)).own (g:=H) (by omega) u6
      rw[Mv.aH,af.ptr,hg4]at C7
      clear K5 h4 h6 ho iX u6 bD
      repeat' first|go_step|simp only[];go_at_K
      refine C7.mono ?_;rintro e w7 ⟨rfl,M7,h7,rO,xV,U7⟩
      refine wk ?_
      have e7:M7.pl=R.1:=by rw[HRR.out,rO,hok];rfl
      have e8:R.2=0:=by rw[HRR.out]
      go_ret
      exact⟨by rw[e8];rfl,M7,h7,e7,xV.trans hg4,U6.trans (by rw[←OW];exact U7)⟩
   ·have dt:(m.t != (M.me:Int))=true:=bne_iff_ne.2 ht
    have hr:R=(M.pl,1):=by rw[vH.out,if_pos (.inl ht)]
    subst hr
    have HT:=hdn ht
    clear vH ht hQ
    repeat' first|go_step|simp only[];go_at_K
    go_quiet (fail)
    refine wk ?_
    go_ret
    exact⟨rfl,ado _ _ (U2.drewN _) rfl⟩
  ·have C1:=IK m W hr1 hm
   rw[Mv.aH]at C1
   have hr:R=(M.pl,1):=by rw[←HR.out];unfold Site.handle;rw[if_neg (by rw[show M.pl.down=false from hd];simp),if_pos (by simpa using hm)]
   subst hr
   clear HR hQ
   go_enter func24,ntmps24
   repeat' go_step
   refine C0.mono ?_;rintro e w1 ⟨rfl,rfl⟩
   repeat' first|go_step|simp only[];go_at_K
   refine C1.mono ?_;rintro e w2 ⟨rfl,hu2⟩
   refine wk ?_
   go_ret
   exact⟨rfl,ado _ _ (dm.trans hu2) rfl⟩
theorem OX(Q:Site→Ms→Prop)(T:zJ Q)(w:World)(M:af)(h:ay w M)(m:Mv)(hr:aD w m.A m.n m.b)(hrf:∀k∈ah m.A,k∉M.fp)(hQ:m.ms.May→M.down=false→m.t=M.me→Q {M.pl with wt:=M.wt.set m.f.toNat 0} m.ms) :
  Calls prog 24 #[M.ptr,m.val] w fun e w'=>e=.returned (.int .i64 (M.pl.handle m.ms).2)∧Gone w w' M (M.pl.handle m.ms).1:=zW Q T w M h m hr (fun _=>hrf) hQ
end Go.Proofs.YtijhlbeipglieaaGreat
namespace aA
open List
namespace Site
theorem Gh{me n:Nat}(h:me<n)(m:Ms):(jS me n m).length+1=n:=by
 unfold jS
 rw[length_map]
 have:∀k,((List.range k).filter fun j=>decide (j≠me)).length+(if me<k then 1 else 0)=k:=by
  intro k
  induction k with
  |zero=>simp
  |succ k ih=>
   rw[range_succ,filter_append,length_append]
   by_cases e:k=me
   ·subst e;simp at ih ⊢;omega
   ·simp only[filter_cons,filter_nil]
    rw[if_pos (by simpa using e)]
    simp only[length_cons,length_nil]
    by_cases h1:me<k
    ·rw[if_pos h1]at ih;rw[if_pos (by omega)];omega
    ·rw[if_neg h1]at ih;rw[if_neg (by omega)];omega
 have:=this n
 rw[if_pos h]at this
 exact this
end Site
end aA
namespace Go.Proofs.YtijhlbeipglieaaGreat
open Go.RowKit aA Go.Maps aA.Site Tryz List
def Q6(s:Site)(m:Ms):Prop:=m.kind=6∧s.held.length≤900000000∧∀p∈s.rs,p.2.vt.length≤900000000
theorem VE(me n pat:Nat)(v:List UInt8)(dn:Nat)(wt fs:List Int)(h:me<n)(h7:n≤7)(hf:fs.length≤1000)(m:Ms)(hm:m.kind=6):Q6 (doneD me n pat v dn wt fs) m:=by
 refine⟨hm,?_,?_⟩
 ·unfold doneD
  split
  ·show(jS me n _).length≤_
   have:=Gh h (tells me v)
   omega
  ·show([]:List Ms).length≤_
   simp
 ·unfold doneD
  split
  ·intro p hp;cases hp
  ·intro p hp
   rw[show(rG me n pat v dn [] [((me:Int),rz me v (fs.map fun f=>(f,(⟨0,me⟩:Bl))))] wt []).rs= [((me:Int),rz me v (fs.map fun f=>(f,(⟨0,me⟩:Bl))))]from rfl,mem_singleton]at hp
   subst hp
   show(fs.map _).length≤_
   rw[length_map];omega
theorem OY(me n pat:Nat)(v:List UInt8)(dn:Nat)(wt fs:List Int):(doneD me n pat v dn wt fs).down=false∧(doneD me n pat v dn wt fs).me=me∧(doneD me n pat v dn wt fs).held.length≤n:=by
 unfold doneD
 split
 ·refine⟨rfl,rfl,?_⟩
  show(jS me n _).length≤_
  unfold jS
  rw[length_map]
  exact Nat.le_trans (length_filter_le _ _) (by simp)
 ·exact⟨rfl,rfl,by show 0≤n;omega⟩
section
variable [eU]
theorem Ki:zJ Q6:=fun w M m h hq hm _ _ _=>by
 have e:M.pl.take m.ms=M.pl.accepted m.ms:=by unfold Site.take Site.does;rw[hq.1];rfl
 rw[e]
 refine Rw w M h m hq.1 hm ?_ (fun p hp=>hq.2.2 (p.1,p.2.pl) (mem_map.2 ⟨p,hp,rfl⟩))
 rw[←af.bf];exact hq.2.1
theorem Yr(w:World)(M:af)(h:ay w M)(me n pat:Nat)(v:List UInt8)(hv:v.length≤2048)(hme:me<n)(h3:3≤n)(h7:n≤7)(hp:M.pl=rG me n pat v 0 [] [((me:Int),rz me v [])] DX (jo me n v++[dG me me me])) :
  Calls prog 21 #[M.ptr] w fun e w'=>∃(A:Option Addr)(c:Nat)(told:List Mv)(M':af),e=.returned (.slice A told.length c)∧told.map Mv.ms=jo me n v∧aA.Own 32 10 w' A told.length c (told.flatMap Mv.cells)∧
   (∀k∈ah A,w.heap.size≤k∧k∉M'.fp)∧ay w' M'∧M'.pl=doneD me n pat v (Es me v) DX [(me:Int)]∧M'.gs=M.gs∧aa M.fp M'.fp w w':=by
 have hs:=VF me n pat hv hme h3 h7
 rw[←hp]at hs
 have hh:M.held.length≤1000000000:=by
  rw[←af.bf,hp]
  show(jo me n v++[dG me me me]).length≤_
  have:=Gh hme (asks (rz me v []) me)
  rw[length_append]
  unfold jo
  simp only[length_cons,length_nil]
  omega
 have VG:M.me=me:=congrArg Site.me hp
 have hf:M.pl.held.filter (fun m=>decide (m.to=(M.me:Int)))= [dG me me me]:=by
  rw[hp,VG]
  show(jo me n v++[dG me me me]).filter (fun m=>decide (m.to=(me:Int)))=_
  rw[filter_append,filter_eq_nil_iff.2 (fun x hx=>by simpa using uI hx)]
  simp[dG]
 refine(BO Q6 Ki w M h (congrArg Site.down hp) hh ?_).mono ?_
 ·rw[hf]
  refine⟨⟨rfl,by simp,?_⟩,trivial⟩
  intro p hp'
  have hrs:M.pl.rs= [((me:Int),rz me v [])]:=by rw[hp];rfl
  change p∈M.pl.rs at hp'
  rw[hrs,mem_singleton]at hp'
  subst hp'
  exact Nat.zero_le _
 ·rintro e w' ⟨A,c,told,M',e1,e2,e3,e4,-,e6,e7,e8,e9⟩
  rw[hs]at e2 e7
  exact⟨A,c,told,M',e1,e2,e3,e4,e6,e7,e8,e9⟩
theorem aca(w:World)(M:af)(h:ay w M)(me n pat:Nat)(v:List UInt8)(dn:Nat)(wt fs:List Int)(_hme:me<n)(h7:n≤7)(hp:M.pl=doneD me n pat v dn wt fs) :
  Calls prog 21 #[M.ptr] w fun e w'=>∃(A:Option Addr)(c:Nat)(told:List Mv)(M':af),e=.returned (.slice A told.length c)∧told.map Mv.ms=(if fU fs n=true then jS me n (tells me v) else[])∧aA.Own 32 10 w' A told.length c (told.flatMap Mv.cells)∧
   (∀k∈ah A,w.heap.size≤k∧k∉M'.fp)∧(∀x∈told,dF w' x.sl)∧ay w' M'∧M'.gs=M.gs∧aa M.fp M'.fp w w':=by
 obtain⟨d1,d2,d3⟩:=OY me n pat v dn wt fs
 have hh:M.held.length≤1000000000:=by
  rw[←af.bf,hp];omega
 have VG:M.me=me:=(congrArg Site.me hp).trans d2
 have hf:M.pl.held.filter (fun m=>decide (m.to=(M.me:Int)))= []:=by
  rw[hp,VG,filter_eq_nil_iff]
  intro x hx
  unfold doneD at hx
  split at hx
  ·simpa using uI (m:=tells me v) hx
  ·cases hx
 refine(BO Q6 Ki w M h ((congrArg Site.down hp).trans d1) hh ?_).mono ?_
 ·rw[hf];exact trivial
 ·rintro e w' ⟨A,c,told,M',e1,e2,e3,e4,e5,e6,-,e8,e9⟩
  rw[hp,abm]at e2
  exact⟨A,c,told,M',e1,e2,e3,e4,fun x hx=>(e5 x hx).1,e6,e8,e9⟩
theorem Yt(w:World)(M:af)(h:ay w M)(me n pat:Nat)(v:List UInt8)(dn:Nat)(wt fs:List Int)(hme:me<n)(h7:n≤7)(hv:v.length≤2048)(hfs:fs.length≤1000)(hp:M.pl=doneD me n pat v dn wt fs)(f:Int)(hf:0≤f)(hfn:f<n)(hne:f≠me) :
  Calls prog 24 #[M.ptr,Mv.val ⟨6,f,me,me,0,me,0,0,false,none,0,0,[]⟩] w fun e w'=>e=.returned (.int .i64 0)∧Gone w w' M (doneD me n pat v dn (wt.set f.toNat 0) (fs++[f])):=by
 have hh:=VH me n pat hv hme h7 dn wt fs hf hfn hne
 have C:=OX Q6 Ki w M h ⟨6,f,me,me,0,me,0,0,false,none,0,0,[]⟩ (aD.nil _ _) (by simp[ah]) (fun _ _ _=>by
  have e:({M.pl with wt:=M.wt.set f.toNat 0} :Site)=doneD me n pat v dn (M.wt.set f.toNat 0) fs:=by rw[hp,Kj]
  show Q6 ({M.pl with wt:=M.wt.set f.toNat 0} :Site) _
  rw[e]
  exact VE _ _ _ _ _ _ _ hme h7 hfs _ rfl)
 rw[hp]at C
 have e2:Mv.ms ⟨6,f,me,me,0,me,0,0,false,none,0,0,[]⟩=dG me me f:=rfl
 rw[e2,hh]at C
 exact C
end
theorem Rz{α β:Type}{f:α→β}{l:List α}{a b:β}(h:l.map f= [a,b]):∃x y,l= [x,y]∧f x=a∧f y=b:=by
 match l,h with
 |[x,y],h=>
  simp only[map_cons,map_nil,List.cons.injEq,and_true]at h
  exact⟨x,y,rfl,h.1,h.2⟩
theorem Pn(w:World):Calls prog 14 #[] w fun e w'=>e=.returned (.bool true)∧aa [] [] w w':=by
 have C1:Calls prog 29 #[.int .i64 0,.int .i64 3,.int .i64 5] w fun e w'=>∃M:af,e=.returned (.tuple #[.pointer (some ⟨M.gs,0,none⟩),.int .i64 0])∧ay w' M∧M.pl=Site.new 0 3 5∧aa [] M.fp w w':=LU w 0 3 5 (by decide) (GV _)
 have kc:=fun(w:World)(C:Array Value)(n c:Nat)=>Lib.run_convert_bytes_const (P:=prog) w 28 5 C n c underlying28 underlying5
 go_enter func14,ntmps14
 repeat' go_step
 refine C1.mono ?_;rintro e w1 ⟨M1,rfl,h1,hp1,u1⟩
 clear C1
 repeat' first|go_guarded|go_step|simp only[];go_at_K
 clear kc
 obtain⟨W,hW⟩:=ex1 (w1.alloc (.cells #[.int .u8 120] 5 (1,2)))
 obtain⟨H,hH⟩:=ex1 w1.heap.size
 have U0:aa [] [] w1 W:=by rw[←hW];exact(aa.refl [] w1).alloc _
 have hv:aD W (some ⟨H,0,none⟩) 1 [120]:=by rw[←hW,←hH];exact Rd.new _ _ rfl
 have h1':=h1.au U0
 have C2:=BS W M1 h1' (some ⟨H,0,none⟩) 1 1 [120] hv (by simp) (by rw[←af.bf,hp1];simp[Site.new])
 rw[hp1,OZ 5 (by decide) (by decide) (by decide) (by decide),af.ptr]at C2
 have U1:=(u1.gives (b':=M1.fp) (fun k hk=>u1.fresh k hk))
 obtain⟨S,hS⟩:=ex1 (rG 0 3 5 [120] 0 [] [(((0:Nat):Int),rz 0 [120] [])] DX (jS 0 3 (asks (rz 0 [120] []) ((0:Nat):Int))++[dG 0 ((0:Nat):Int) ((0:Nat):Int)]))
 rw[hS]at C2
 rw[show((0:Nat):Int)=0 from rfl]at C2
 rw[hW]
 rw[hH]at *
 refine C2.mono ?_;rintro e w2 ⟨rfl,M2,h2,hp2,hg2,u2⟩
 clear C2
 have C3:=Yr w2 M2 h2 0 3 5 [120] (by decide) (by decide) (by decide) (by decide) (hp2.trans hS.symm)
 rw[af.ptr,hg2]at C3
 repeat' first|go_step|simp only[];go_at_K
 refine C3.mono ?_;rintro e w3 ⟨A,c,told,M3,rfl,ht3,ho3,hA3,h3,hp3,hg3,u3⟩
 clear C3
 have C4:=Yt w3 M3 h3 0 3 5 [120] _ _ _ (by decide) (by decide) (by decide) (by decide) hp3 1 (by decide) (by decide) (by decide)
 rw[af.ptr,hg3,Mv.aH,show((0:Nat):Int)=0 from rfl]at C4
 repeat' first|go_step|simp only[];go_at_K
 refine C4.mono ?_;rintro e w4 ⟨rfl,M4,h4,jY,hg4,u4⟩
 clear C4
 have C5:=Ao w4 M4 h4 0 (jV (by decide) (by decide))
 have hd5:M4.pl.dec 0=some [120]:=by rw[jY];exact(RB 0 3 5 [120] _ _ _).trans (if_pos (by decide))
 rw[hd5,af.ptr,hg4,hg3]at C5
 simp only[Option.isSome_some,Option.getD_some]at C5
 repeat' first|go_step|simp only[];go_at_K
 refine C5.mono ?_;rintro e w5 ⟨A5,n5,c5,rfl,dB,u5⟩
 clear C5
 have h5:=h4.au u5
 have C6:=aca w5 M4 h5 0 3 5 [120] _ _ _ (by decide) (by decide) jY
 rw[if_pos (by decide),af.ptr,hg4,hg3]at C6
 repeat' first|go_step|simp only[];go_at_K
 refine C6.mono ?_;rintro e w6 ⟨A6,c6,aii,M6,rfl,ht6,iX,jH,-,h6,jy,u6⟩
 clear C6
 obtain⟨x,y,rfl,hx,hy⟩:=Rz (ht3.trans (show jo 0 3 [120]= [⟨1,0,1,0,0,0,0,0,true,[120]⟩,⟨1,0,2,0,0,0,0,0,true,[120]⟩]from rfl))
 obtain⟨x6,y6,rfl,hx6,-⟩:=Rz (ht6.trans (show jS 0 3 (tells ((0:Nat):Int) [120])= [⟨7,0,1,0,0,0,0,0,true,[120]⟩,⟨7,0,2,0,0,0,0,0,true,[120]⟩]from rfl))
 have hxk:x.k=1:=congrArg Ms.kind hx
 have Ir:y.t=2:=congrArg Ms.to hy
 have hzk:x6.k=7:=congrArg Ms.kind hx6
 have qf:∀k∈ah A,k∉M4.fp:=fun k hk=>u4.eQ (hA3 k hk).2 (ho3.lt k hk)
 have Bj:=((ho3.upd u4 (fun k hk=>(hA3 k hk).2)).upd u5).upd u6 qf
 obtain⟨g,cur,rfl,hB,-⟩:=Own.block Bj (by simp)
 obtain⟨g6,aiD,rfl,dK,-⟩:=Own.block iX (by simp)
 have xX:=(aa.refl [] w4).new u5
 have Ci:=h4.lt
 have abn:=dB.upd u6 (fun k hk hm=>by have h7:=xX k hk;have h8:=Ci k hm;omega)
 have c0:w6.cell? ⟨g,0,none⟩=some (.int .i64 1):=by rw[hB.cell,←hxk];simp[Mv.cells]
 have c12:w6.cell? ⟨g,12,none⟩=some (.int .i64 2):=by rw[hB.cell,←Ir];simp[Mv.cells]
 have d0:w6.cell? ⟨g6,0,none⟩=some (.int .i64 7):=by rw[dK.cell,←hzk];simp[Mv.cells]
 have hs:=strOf abn.rd c5
 have UU:aa [] [] w w6:=((((((u1.gives (b':=M1.fp) (fun k hk=>u1.fresh k hk)).trans (U0.up _)).trans u2).trans u3).trans u4).trans (u5.up _) |>.trans u6).gives
 clear hx hy hx6 hxk Ir hzk hA3 qf ho3 Bj hB dK dB abn iX jH h4 h5 h6 jY hp3 hp2 h2 h3 ht3 ht6 hd5 u1 u2 u3 u4 u5 u6 xX Ci hg2 hg3 hg4 jy h1 h1' hp1 U0 U1 hv hW hH hS
 refine wk ?_
 go_ret
 exact⟨rfl,UU⟩
