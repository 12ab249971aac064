/- For WorldCalm. -/
import Derived.Lib.SlBytesConst
import Derived.Test.YtijhlbeipglieaaGreatPkSiteRe
set_option linter.all false
set_option maxRecDepth 100000
set_option maxHeartbeats 4000000
namespace Go.Proofs.YtijhlbeipglieaaGreat
open Go.RowKit aL Go.Maps Tryz List
def oO(Q:Site→Ms→Prop):Site→List Ms→Prop
 |_,[]=>True
 |s,m::l=>Q s m∧oO Q (s.take m) l
theorem oO.at_{Q:Site→Ms→Prop} :∀{s:Site}{l1 l2:List Ms}{m:Ms},oO Q s (l1++m::l2)→Q (l1.foldl Site.take s) m
 |_,[],_,_,h=>h.1
 |_,_::l1,_,_,h=>oO.at_ (l1:=l1) h.2
theorem Cy{p:Mv→Bool}{l:List Mv}{i:Nat}(h:i<l.length):(l.take (i+1)).filter p=(l.take i).filter p++(if p l[i] then[l[i]] else[]):=by
 rw[take_succ_eq_append_getElem h,filter_append]
 congr 1
 by_cases e:p l[i]=true<;>simp[e]
section
variable [eA]
def Dq(Q:Site→Ms→Prop):Prop:=∀(w:World)(M:ae)(m:Mv),aJ w M→Q M.pl m.ms→m.ms.bL→dj w m.sl→(∀k∈ak m.A,k∉M.fp)→(∀k∈ak m.A,k∉(eA.X:List Nat))→
 Calls prog 66 #[M.ptr,m.val] w fun e w'=>e=.returned (.tuple #[])∧dZ w w' M (M.pl.take m.ms)
section
variable {w:World} {M:ae}
theorem aJ.Z7(h:aJ w M):∀k∈ak M.Ah,k∉({M with Ah:=none,ch:=0,held:=[]} :ae).fp:=by
 intro k hk hm
 have ht:=h.tH k hk
 simp only[ae.fp,bS.fp,ak,mem_append,mem_cons,not_mem_nil,or_false,false_or,mem_flatMap]at hm
 rcases hm with(rfl|rfl|rfl|rfl|rfl|rfl|rfl)|hm|⟨p,hp,rfl|hm|hm⟩
 ·exact bx ht h.tg (by decide) rfl
 ·exact bx ht h.td (by decide) rfl
 ·exact bx ht h.ts (by decide) rfl
 ·exact bx ht h.tl (by decide) rfl
 ·exact bx ht h.tb (by decide) rfl
 ·exact bx ht h.tr (by decide) rfl
 ·exact bx ht h.tw (by decide) rfl
 ·exact bx ht (h.tA k hm) (by decide) rfl
 ·exact bx ht (h.cI p hp).tg (by decide) rfl
 ·exact bx ht ((h.cI p hp).tP k hm) (by decide) rfl
 ·exact bx ht ((h.cI p hp).tV k hm) (by decide) rfl
theorem aJ.Ym(h:aJ w M):aJ (w.setCell ⟨M.gs,11,none⟩ (.slice none 0 0)) {M with Ah:=none,ch:=0,held:=[]}∧
  ab M.fp ({M with Ah:=none,ch:=0,held:=[]} :ae).fp w (w.setCell ⟨M.gs,11,none⟩ (.slice none 0 0))∧
  jq Mv.cells 10 (w.setCell ⟨M.gs,11,none⟩ (.slice none 0 0)) M.Ah M.held.length M.held∧
  ∀x∈M.held,dj (w.setCell ⟨M.gs,11,none⟩ (.slice none 0 0)) x.sl∧∀k∈ak x.A,k∉({M with Ah:=none,ch:=0,held:=[]} :ae).fp:=by
 have u2:ab [M.gs] [M.gs] w (w.setCell ⟨M.gs,11,none⟩ (.slice none 0 0)):=(ab.refl [M.gs] w).setCell (p:=⟨M.gs,11,none⟩) (.inl (by simp)) _
 have hB:=h.aO.cc 11 (.slice none 0 0)
 have hX:∀k∈[M.gs],cl w k=some (some 124):=by simp only[mem_singleton];rintro k rfl;exact h.tg
 obtain⟨h2,U2⟩:=h.hold (A':=none) (c':=0) (l':=[]) (w1:=w) ((ab.refl (ak M.Ah) w).gives (by simp[ak])) (Own.nil _ _ _) (by simp) u2 (by simpa[ae.cells]using hB) (h.ok.put (l:=[]) (by simp))
 refine⟨h2,U2,⟨rfl,h.pv.rd.aq u2 (cY h.tH hX (by decide))⟩,fun x hx=>?_⟩
 have hm:x.sl∈M.bytes:=by simp only[ae.bytes,mem_append];exact .inr (.inr (.inr (mem_map_of_mem hx)))
 refine⟨(h.fu _ hm).aq u2 (cY (h.fu _ hm).tag hX (by decide)),fun k hk hn=>h.DK hm k hk ?_⟩
 simp only[ae.fp,ak,mem_append]at hn ⊢
 rcases hn with hn|hn|hn|hn
 ·exact .inl hn
 ·exact .inr (.inl hn)
 ·cases hn
 ·exact .inr (.inr (.inr hn))
end
theorem QW(Q:Site→Ms→Prop)(T:Dq Q)(w:World)(M:ae)(h:aJ w M)(hd:M.down=false)(hl:M.held.length≤1000000000)(hQ:oO Q {M.pl with dn:=M.db.length,held:=[]} (M.pl.held.filter fun m=>decide (m.to=(M.me:Int)))) :
  Calls prog 21 #[M.ptr] w fun e w'=>∃(A:Option Addr)(c:Nat)(told:List Mv)(M':ae),e=.returned (.slice A told.length c)∧told.map Mv.ms=M.pl.sync.2∧aL.Own 32 10 w' A told.length c (told.flatMap Mv.cells)∧
   (∀k∈ak A,w.heap.size≤k∧k∉M'.fp)∧(∀x∈told,dj w' x.sl∧∀k∈ak x.A,k∉M'.fp∧k∉(eA.X:List Nat))∧aJ w' M'∧M'.pl=M.pl.sync.1∧M'.gs=M.gs∧ab M.fp M'.fp w w':=by
 have C0:=lE w M h
 rw[show M.pl.down=false from hd,ae.ptr]at C0
 have C1:=PR w M.gd M.Ad M.db.length M.cd M.db M.dn h.kX
 have q4:w.cell? ⟨M.gs,4,none⟩=some (.pointer (some ⟨M.gd,0,none⟩)):=h.aO.cell 4
 have rF:=aA (show M.pl.sync.2=(M.held.filter fun m=>decide (m.t≠(M.me:Int))).map Mv.ms by
  unfold Site.sync
  rw[if_neg (by rw[show M.pl.down=false from hd];simp)]
  show(M.held.map Mv.ms).filter _=_
  rw[filter_map];rfl)
 have Jb:=aA (show M.pl.sync.1=((M.held.filter fun m=>decide (m.t=(M.me:Int))).map Mv.ms).foldl Site.take {M.pl with dn:=M.db.length,held:=[]} by
  unfold Site.sync
  rw[if_neg (by rw[show M.pl.down=false from hd];simp)]
  show foldl _ _ ((M.held.map Mv.ms).filter _)=_
  rw[filter_map];rfl)
 have HQ:=aA (show oO Q {M.pl with dn:=M.db.length,held:=[]} ((M.held.filter fun m=>decide (m.t=(M.me:Int))).map Mv.ms) by
  have:M.pl.held.filter (fun m=>decide (m.to=(M.me:Int)))=(M.held.filter fun m=>decide (m.t=(M.me:Int))).map Mv.ms:=by
   show(M.held.map Mv.ms).filter _=_
   rw[filter_map];rfl
  rw[←this];exact hQ)
 obtain⟨R1,gT⟩:∃R,M.pl.sync.1=R:=⟨_,rfl⟩
 obtain⟨R2,dS⟩:∃R,M.pl.sync.2=R:=⟨_,rfl⟩
 rw[gT]at Jb ⊢
 rw[dS]at rF ⊢
 clear gT dS hQ
 rw[ae.ptr]
 go_enter func21,ntmps21
 repeat' go_step
 refine C0.mono ?_;rintro e w1 ⟨rfl,rfl⟩
 repeat' first|go_step|simp only[];go_at_K
 refine C1.mono ?_;rintro e w1 ⟨rfl,fD,bn⟩
 obtain⟨h1,V1⟩:=h.cZ (A':=M.Ad) (c':=M.cd) (db':=M.db) (dn':=M.db.length) (bn.mono (by simp) (fun k hk=>.inr (.inl hk))) fD (h.ok.cZ _ _)
 obtain⟨h2,V2,hR,F3⟩:=h1.Ym
 have yT:=h1.Z7
 have Yn:∀x∈M.held,∀k∈ak x.A,k∉(eA.X:List Nat):=fun x hx k hk hm=>h.bad x.sl (by simp only[ae.bytes,mem_append];exact .inr (.inr (.inr (mem_map_of_mem hx)))) k hk (ae.SV hm)
 have Ir:w1.cell? ⟨M.gs,11,none⟩=some (.slice M.Ah M.held.length M.ch):=h1.aO.cell 11
 have f11:w1.frozen? ⟨M.gs,11,none⟩=false:=h1.aO.frozen 11
 have Yo:∀x∈M.held,x.ms.bL:=fun x hx=>h.ok.held _ (mem_map_of_mem hx)
 obtain⟨M2,gg⟩:∃M2:ae,{M with dn:=M.db.length,Ah:=none,ch:=0,held:=[]} =M2:=⟨_,rfl⟩
 obtain⟨l,hl0⟩:=bk M.held
 simp only[gg,hl0]at h2 V2 F3 yT hR
 rw[hl0]at Yn
 have gS:M2.pl= {M.pl with dn:=M.db.length,held:=[]}:=by rw[←gg];rfl
 have hg2:M2.gs=M.gs:=by rw[←gg]
 have ET:M2.me=M.me:=by rw[←gg]
 rw[←gS]at Jb HQ
 rw[hl0]at Jb rF HQ Ir hl Yo
 have VV:=V1.trans V2
 have Yp:=h1.pv.lt
 obtain⟨Ah,VS⟩:∃A,M.Ah=A:=⟨_,rfl⟩
 simp only[VS]at Yp yT hR Ir
 have s1:=bn.size
 clear C0 C1 fD bn h1 V1 V2 h hl0 gg VS q4 gS hd
 repeat' first|go_step|simp only[];go_at_K
 have XC:∀(wx:World)(b:List Nat),ab [] b (w1.setCell ⟨M.gs,11,none⟩ (.slice none 0 0)) wx→wx.cell? ⟨M.gs,0,none⟩=some (.int .i64 (M.me:Int)):=fun wx b u=>by
  have:=(h2.aN u).aO.cell 0
  rw[hg2]at this;rw[this,←ET];rfl
 obtain⟨w2,hw2⟩:=bk (w1.setCell ⟨M.gs,11,none⟩ (.slice none 0 0))
 rw[hw2]at h2 VV F3 hR XC ⊢
 have s2:w1.heap.size≤w2.heap.size:=by rw[←hw2];simp[World.setCell]
 clear hw2 Ir f11
 go_loopw [4,27] (fun v4 v27 wr=>∃(i:Nat)(A1:Option Addr)(c1:Nat),i≤l.length∧v27=.int .i64 (i:Int)∧v4=.slice A1 ((l.take i).filter fun m=>decide (m.t≠(M.me:Int))).length c1∧
   aL.Own 32 10 wr A1 ((l.take i).filter fun m=>decide (m.t≠(M.me:Int))).length c1 (((l.take i).filter fun m=>decide (m.t≠(M.me:Int))).flatMap Mv.cells)∧ab [] (ak A1) w2 wr)
  (fun _ v27 _=>l.length-(intOf v27).toNat)
 case atStart=>exact⟨0,none,0,by omega,rfl,rfl,Own.nil _ _ _,ab.refl _ _⟩
 case round=>
  obtain⟨i,A1,c1,hi,rfl,rfl,ho,U⟩:=hrel
  by_cases hlt:i<l.length
  ·have dK:(i:Int)<(l.length:Int):=by omega
   have dC:=aL.wr ((i:Int)+1)
   have mS:=hR.aN U
   obtain⟨ad,rfl,h0,hj⟩:=jq.at_ (f:=Mv.cells) (s:=10) (fun _=>rfl) mS hlt
   have HT:=aA (Cy (p:=fun m=>decide (m.t≠(M.me:Int))) hlt)
   have qm:((l.take i).filter fun m=>decide (m.t≠(M.me:Int))).length≤i:=Nat.le_trans (length_filter_le _ _) (by rw[length_take];omega)
   generalize l[i]=y at *
   have d0:=h0 _ rfl
   have d1:=hj 1 _ (by omega) rfl
   have d2:=hj 2 _ (by omega) rfl
   have d3:=hj 3 _ (by omega) rfl
   have d4:=hj 4 _ (by omega) rfl
   have d5:=hj 5 _ (by omega) rfl
   have d6:=hj 6 _ (by omega) rfl
   have d7:=hj 7 _ (by omega) rfl
   have d8:=hj 8 _ (by omega) rfl
   have d9:=hj 9 _ (by omega) rfl
   clear h0 hj mS
   obtain⟨W2,G,zW,hG,cX,U2⟩:=cb wr 32 #[.int .i64 y.k,.int .i64 y.f,.int .i64 y.t,.int .i64 y.s,.int .i64 y.br,.int .i64 y.bs,.int .i64 y.hr,.int .i64 y.hs,.bool y.so,.slice y.A y.n y.c]
   have eN:=ho.aq U2 (by simp)
   have nX:=U.trans (U2.up _)
   have p0:=fun N=>XC (W2.drewN N) (ak A1) (nX.drewN N)
   have b2:=fun N=>(cX.drewN N).cell 2
   obtain⟨X,hX⟩:=bk ((l.take i).filter (fun m=>decide (m.t≠(M.me:Int))))
   rw[hX]at eN qm HT ⊢
   clear ho
   by_cases he:y.t=(M.me:Int)
   ·have dt:(y.t==(M.me:Int))=true:=by rw[he];exact beq_self_eq_true _
    have HE:=aA he
    clear he
    repeat' go_step
    go_quiet (fail)
    repeat' go_step
    have hF:(l.take (i+1)).filter (fun m=>decide (m.t≠(M.me:Int)))=X:=by rw[HT.out,if_neg (by simpa using HE.out),append_nil]
    exact⟨⟨i+1,A1,c1,by omega,by simp,by rw[hF],by rw[hF];exact eN.drewN _,nX.drewN _⟩,by simp[intOf];omega⟩
   ·have dt:(y.t==(M.me:Int))=false:=beq_false_of_ne he
    have HE:=aA he
    clear he
    repeat' go_step
    go_quiet (fail)
    obtain⟨⟨g0,g1,g2,g3,g4,g5,g6,g7,g8,g9⟩,-⟩:=(cX.drewN nq).cJ
    have iD:=eN.drewN nq
    repeat' (fail_if_success with_reducible refine ba rfl ?_);go_step
    refine gV rfl _ _ 26 rfl 32 underlying26 I6 rfl (by decide) iD rfl (W2.drewN nq).heap.size rfl (news:=y.cells) rfl rfl rfl (by unfold maxLen;omega) (by omega) ?_
    intro A3 c3 w3 dW de
    have Yq:=(nX.drewN nq).trans de
    clear eN iD cX U2 nX U de p0 b2 g0 g1 g2 g3 g4 g5 g6 g7 g8 g9
    refine wk ?_
    have hF:(l.take (i+1)).filter (fun m=>decide (m.t≠(M.me:Int)))=X++[y]:=by rw[HT.out,if_pos (by simpa using HE.out)]
    exact⟨⟨i+1,A3,c3,by omega,by simp,by rw[hF];simp,by rw[hF];simpa using dW,Yq⟩,by simp[intOf];omega⟩
  ·obtain rfl:i=l.length:=by omega
   have dK:¬ ((l.length:Int)<(l.length:Int)):=by omega
   rw[take_length]at ho
   obtain⟨told,Dx⟩:∃t,l.filter (fun m=>decide (m.t≠(M.me:Int)))=t:=⟨_,rfl⟩
   rw[take_length,Dx]
   rw[Dx]at ho rF
   have lA:∀x∈told,x∈l:=fun x hx=>by rw[←Dx]at hx;exact(mem_filter.1 hx).1
   clear Dx
   obtain⟨wa,Nn⟩:∃x,wr=x:=⟨_,rfl⟩
   have h3:=h2.aN U
   have gH:=hR.aN U
   have F4:∀x∈l,dj wr x.sl:=fun x hx=>(F3 x hx).1.aN U
   have uJ:∀k∈ak A1,w2.heap.size≤k:=(ab.refl [] w2).new U
   have Yr:=ho.lt
   have XI:=VV.trans (U.up M2.fp)
   have hf2:=h2.lt
   rw[Nn]at h3 gH F4 ho XI Yr ⊢
   have hAl:∀k∈ak Ah,k<w2.heap.size:=fun k hk=>by have:=Yp k hk;omega
   clear Nn U hR h2
   repeat' go_step
   go_loopw [45] (fun Ys wr=>∃(i:Nat)(M3:ae),i≤l.length∧Ys=.int .i64 (i:Int)∧aJ wr M3∧M3.pl=(((l.take i).filter fun m=>decide (m.t=(M.me:Int))).map Mv.ms).foldl Site.take M2.pl∧M3.gs=M.gs∧ab M2.fp M3.fp wa wr) (fun Ys _=>l.length-(intOf Ys).toNat)
   case atStart=>exact⟨0,M2,by omega,rfl,h3,rfl,hg2,ab.refl _ _⟩
   case round=>
    obtain⟨i,M3,hi,rfl,h4,jj,hg4,U4⟩:=hrel
    have Yt:=aA jj
    by_cases hlt:i<l.length
    ·have dK:(i:Int)<(l.length:Int):=by omega
     have dC:=aL.wr ((i:Int)+1)
     have mS:=gH.aq U4 yT
     obtain⟨ad,rfl,h0,hj⟩:=jq.at_ (f:=Mv.cells) (s:=10) (fun _=>rfl) mS hlt
     have qM:l[i]∈l:=getElem_mem hlt
     have HT:=aA (Cy (p:=fun m=>decide (m.t=(M.me:Int))) hlt)
     have Yu:l[i].t=(M.me:Int)→Q M3.pl l[i].ms:=fun he=>by
      have Yv:l.filter (fun m=>decide (m.t=(M.me:Int)))=(l.take i).filter (fun m=>decide (m.t=(M.me:Int)))++l[i]::(l.drop (i+1)).filter (fun m=>decide (m.t=(M.me:Int))):=by
       conv=>lhs;rw[←take_append_drop i l,drop_eq_getElem_cons hlt]
       rw[filter_append,filter_cons,if_pos (by simpa using he)]
      have hq:=HQ.out
      rw[Yv,map_append,map_cons]at hq
      rw[jj]
      exact hq.at_
     have ad8:=(F4 _ qM).aq U4 (F3 _ qM).2
     have Z8:∀k∈ak l[i].A,k∉(eA.X:List Nat):=Yn _ qM
     have Z9:∀k∈ak l[i].A,k∉M3.fp:=fun k hk=>U4.gu ((F3 _ qM).2 k hk) (fJ ((F4 _ qM).tag k hk))
     have hmy:=Yo _ qM
     have q0:wr.cell? ⟨M.gs,0,none⟩=some (.int .i64 (M.me:Int)):=by
      have:=h4.aO.cell 0
      rw[hg4]at this
      rw[this]
      have e1:M3.me=M2.me:=by
       have:=congrArg Site.me jj
       rw[(Site.rl _ _).me]at this
       exact this
      rw[←ET,←e1];rfl
     generalize l[i]=y at *
     have d0:=h0 _ rfl
     have d1:=hj 1 _ (by omega) rfl
     have d2:=hj 2 _ (by omega) rfl
     have d3:=hj 3 _ (by omega) rfl
     have d4:=hj 4 _ (by omega) rfl
     have d5:=hj 5 _ (by omega) rfl
     have d6:=hj 6 _ (by omega) rfl
     have d7:=hj 7 _ (by omega) rfl
     have d8:=hj 8 _ (by omega) rfl
     have d9:=hj 9 _ (by omega) rfl
     clear h0 hj mS jj
     obtain⟨W2,G,zW,hG,cX,U2⟩:=cb wr 32 #[.int .i64 y.k,.int .i64 y.f,.int .i64 y.t,.int .i64 y.s,.int .i64 y.br,.int .i64 y.bs,.int .i64 y.hr,.int .i64 y.hs,.bool y.so,.slice y.A y.n y.c]
     have SZ:=U2.gives (b':=[]) (by simp)
     have p0:=fun N=>(SZ.drewN N).cell q0 (by simp)
     have b2:=fun N=>(cX.drewN N).cell 2
     obtain⟨X,hX⟩:=bk ((l.take i).filter (fun m=>decide (m.t=(M.me:Int))))
     rw[hX]at HT Yt
     clear hX
     by_cases he:y.t=(M.me:Int)
     ·have dt:(y.t==(M.me:Int))=true:=by rw[he];exact beq_self_eq_true _
      have hq:=Yu he
      have HE:=aA he
      clear he Yu
      repeat' go_step
      go_quiet (fail)
      obtain⟨⟨g0,g1,g2,g3,g4,g5,g6,g7,g8,g9⟩,-⟩:=(cX.drewN nq).cJ
      have U5:=SZ.drewN nq
      have C:=T (W2.drewN nq) M3 y (h4.aN U5) hq hmy (ad8.aN U5) Z9 Z8
      rw[Mv.bJ,ae.ptr,hg4]at C
      repeat' go_step
      refine C.mono ?_;rintro e w6 ⟨rfl,M6,h6,gO,jG,U6⟩
      refine wk ?_
      have hF:(l.take (i+1)).filter (fun m=>decide (m.t=(M.me:Int)))=X++[y]:=by rw[HT.out,if_pos (by simpa using HE.out)]
      exact⟨⟨i+1,M6,by omega,by simp,h6,by rw[hF,gO,Yt.out];simp,jG.trans hg4,(U4.trans (U5.up _)).trans U6⟩,by simp[intOf];omega⟩
     ·have dt:(y.t==(M.me:Int))=false:=beq_false_of_ne he
      have HE:=aA he
      clear he Yu
      repeat' go_step
      go_quiet (fail)
      refine wk ?_
      have hF:(l.take (i+1)).filter (fun m=>decide (m.t=(M.me:Int)))=X:=by rw[HT.out,if_neg (by simpa using HE.out),append_nil]
      exact⟨⟨i+1,M3,by omega,by simp,h4.aN (SZ.drewN _),by rw[hF,Yt.out],hg4,U4.trans ((SZ.drewN _).up _)⟩,by simp[intOf];omega⟩
    ·obtain rfl:i=l.length:=by omega
     have dK:¬ ((l.length:Int)<(l.length:Int)):=by omega
     have bN:=aA (show told.map Mv.ms=R2∧aL.Own 32 10 wr A1 told.length c1 (told.flatMap Mv.cells)∧(∀k∈ak A1,w.heap.size≤k∧k∉M3.fp)∧(∀x∈told,dj wr x.sl∧∀k∈ak x.A,k∉M3.fp∧k∉(eA.X:List Nat))∧aJ wr M3∧M3.pl=R1∧M3.gs=M.gs∧ab M.fp M3.fp w wr from by
      have KG:∀k∈ak A1,k∉M2.fp:=fun k hk hm=>by have h7:=uJ k hk;have h8:=hf2 k hm;omega
      refine⟨rF.out.symm,ho.aq U4 KG,fun k hk=>⟨by have:=uJ k hk;omega,U4.gu (KG k hk) (Yr k hk)⟩,fun x hx=>⟨(F4 x (lA x hx)).aq U4 (F3 x (lA x hx)).2,fun k hk=>⟨U4.gu ((F3 x (lA x hx)).2 k hk) (fJ ((F4 x (lA x hx)).tag k hk)),Yn x (lA x hx) k hk⟩⟩,h4,?_,hg4,XI.trans U4⟩
      rw[jj,take_length,Jb.out])
     clear jj h4 U4 ho
     refine wk ?_
     go_ret
     obtain⟨z1,z2,z3,z4,z5,z6,z7,z8⟩:=bN.out
     exact⟨A1,c1,told,M3,rfl,z1,z2,z3,z4,z5,z6,z7,z8⟩
end
theorem _root_.aL.bE.ad9{w w':World}{A:Option Addr}{n:Nat}{l:List UInt8}{a b:List Nat}(h:bE w A n l)(hu:ab a b w w')(hd:0<n→∀k∈ak A,k∉a):bE w' A n l:=⟨h.1,fun h0=>(Rd.aq h hu (hd h0)).2 h0⟩
theorem _root_.aL.bE.below{w:World}{A:Option Addr}{n:Nat}{l:List UInt8}(h:bE w A n l)(h0:0<n):∀k∈ak A,k<w.heap.size:=by
 obtain⟨ad,rfl,hc⟩:=h.2 h0
 intro k hk
 simp only[ak,mem_singleton]at hk
 subst hk
 have hl:0<(iF l).length:=by have:=h.1;omega
 have:=World.block_lt_of_cell? w _ (hc 0 _ (List.getElem?_eq_getElem hl))
 simpa[Addr.add]using this
variable [eA]
theorem Hc(Q:Site→Ms→Prop)(T:Dq Q)(w:World)(M:ae)(h:aJ w M)(m:Mv)(hr:bE w m.A m.n m.b)(RU:0<m.n→∀k∈ak m.A,k∉M.fp)(hQ:m.ms.bL→M.down=false→m.t=M.me→Q {M.pl with wt:=M.wt.set m.f.toNat 0} m.ms) :
  Calls prog 24 #[M.ptr,m.val] w fun e w'=>e=.returned (.int .i64 (M.pl.handle m.ms).2)∧dZ w w' M (M.pl.handle m.ms).1:=by
 obtain⟨W,H,eW,hH,hB,U0⟩:=cb w 32 #[.int .i64 m.k,.int .i64 m.f,.int .i64 m.t,.int .i64 m.s,.int .i64 m.br,.int .i64 m.bs,.int .i64 m.hr,.int .i64 m.hs,.bool m.so,.slice m.A m.n m.c]
 have h1:=h.aN U0
 have hr1:bE W m.A m.n m.b:=hr.aq U0 (by simp)
 have cv:=U0.gives (b':=[]) (by simp)
 have C0:=lE W M h1
 obtain⟨R,hR⟩:=bk (M.pl.handle m.ms)
 have HR:=aA hR
 rw[hR]
 clear hR
 have gU:H∉M.fp:=fun hk=>by have:=h.lt H hk;omega
 obtain⟨⟨a0,a1,a2,a3,a4,a5,a6,a7,a8,a9⟩,f0,f1,f2,f3,f4,f5,f6,f7,f8,f9⟩:=hB.cJ
 have jD:∀(W2:World)(b:List Nat),ab [] b w W2→R.1=M.pl→dZ w W2 M R.1:=fun W2 b u e=>⟨M,h.aN u,e.symm,rfl,u.up M.fp |>.gives (fun k hk=>.inl hk)⟩
 rw[ae.ptr,Mv.bJ]
 rw[ae.ptr]at C0
 cases hd:M.down with
 |true=>
  have hr:R=(M.pl,14):=by rw[←HR.out];unfold Site.handle;rw[if_pos (show M.pl.down=true from hd)]
  subst hr
  rw[show M.pl.down=true from hd]at C0
  go_enter func24,ntmps24
  repeat' go_step
  refine C0.mono ?_;rintro e w1 ⟨rfl,rfl⟩
  refine wk ?_
  go_ret
  exact⟨rfl,jD _ _ U0 rfl⟩
 |false=>
  rw[show M.pl.down=false from hd]at C0
  by_cases hm:m.ms.bL
  ·have C1:=Cg m W hr1 hm
   rw[Mv.bJ]at C1
   have hx0:∀(Wx:World)(b:List Nat),ab [] b w Wx→Wx.cell? ⟨M.gs,0,none⟩=some (.int .i64 (M.me:Int)):=fun Wx b u=>(h.aN u).aO.cell 0
   have hx1:∀(Wx:World)(b:List Nat),ab [] b w Wx→Wx.cell? ⟨M.gs,1,none⟩=some (.int .i64 (M.n:Int)):=fun Wx b u=>(h.aN u).aO.cell 1
   have X6:R=if m.t≠M.me∨m.f=M.me∨(M.n:Int)≤m.f then(M.pl,1) else(({M.pl with wt:=M.wt.set m.f.toNat 0} :Site).take m.ms,0):=by
    rw[←HR.out];unfold Site.handle
    rw[if_neg (by rw[show M.pl.down=false from hd];simp),if_neg (by simpa using hm)]
    rfl
   have rO:=aA X6
   clear X6 HR
   go_enter func24,ntmps24
   repeat' go_step
   refine C0.mono ?_;rintro e w1 ⟨rfl,rfl⟩
   repeat' first|go_step|simp only[];go_at_K
   refine C1.mono ?_;rintro e w2 ⟨A1,k1,c1,rfl,-,bh⟩
   have U2:=(cv.trans bh)
   have cX:=hB.aq bh (by simp)
   have hr2:=hr1.aq bh (by simp)
   clear C0 C1 a0 a1 a2 a3 a4 a5 a6 a7 a8 a9 f0 f1 f2 f3 f4 f5 f6 f7 f8 f9
   have e2:∀N,(w2.drewN N).cell? ⟨H,2,none⟩=some (.int .i64 m.t):=fun N=>cX.cell 2
   have e1:∀N,(w2.drewN N).cell? ⟨H,1,none⟩=some (.int .i64 m.f):=fun N=>cX.cell 1
   have g0:∀N,(w2.drewN N).cell? ⟨M.gs,0,none⟩=some (.int .i64 (M.me:Int)):=fun N=>hx0 _ _ (U2.drewN N)
   have g1:∀N,(w2.drewN N).cell? ⟨M.gs,1,none⟩=some (.int .i64 (M.n:Int)):=fun N=>hx1 _ _ (U2.drewN N)
   obtain⟨⟨a0,a1,a2,a3,a4,a5,a6,a7,a8,a9⟩,f0,f1,f2,f3,f4,f5,f6,f7,f8,f9⟩:=cX.cJ
   by_cases ht:m.t=M.me
   ·have dt:(m.t != (M.me:Int))=false:=by rw[ht];exact bne_self_eq_false _
    by_cases hf:m.f=M.me
    ·have df:(m.f==(M.me:Int))=true:=by rw[hf];exact beq_self_eq_true _
     have hr:R=(M.pl,1):=by rw[rO.out,if_pos (.inr (.inl hf))]
     subst hr
     have HT:=aA ht
     have HF:=aA hf
     clear rO ht hf hQ
     repeat' first|go_step|simp only[];go_at_K
     go_quiet (fail)
     refine wk ?_
     go_ret
     exact⟨rfl,jD _ _ (U2.drewN _) rfl⟩
    ·have df:(m.f==(M.me:Int))=false:=beq_false_of_ne hf
     by_cases hn:(M.n:Int)≤m.f
     ·have dn:decide ((M.n:Int)≤m.f)=true:=dJ hn
      have hr:R=(M.pl,1):=by rw[rO.out,if_pos (.inr (.inr hn))]
      subst hr
      have HT:=aA ht
      clear rO ht hf hQ hn
      repeat' first|go_step|simp only[];go_at_K
      go_quiet (fail)
      refine wk ?_
      go_ret
      exact⟨rfl,jD _ _ (U2.drewN _) rfl⟩
     ·have dn:decide ((M.n:Int)≤m.f)=false:=eE hn
      have hr:R=(({M.pl with wt:=M.wt.set m.f.toNat 0} :Site).take m.ms,0):=by rw[rO.out,if_neg (by omega)]
      have hq:=hQ hm hd ht
      have sQ:0≤m.f:=hm.aR.1
      obtain⟨s,hs⟩:∃s:Nat,m.f=(s:Int):=⟨m.f.toNat,by omega⟩
      have hsn:s<M.n:=by omega
      have HT:=aA ht
      have HF:=aA hf
      have HN:=aA hn
      have IP:=aA hr
      have HS:=aA hs
      have X7:m.b.length≤2048:=hm.val
      clear rO ht hf hQ hn hr hs
      repeat' first|go_step|simp only[];go_at_K
      go_quiet (fail)
      repeat' go_step
      obtain⟨w3,hw3⟩:=bk (w2.drewN nq)
      have U3:ab [] [] w w3.drew:=by rw[←hw3];exact((U2.drewN nq).drew).gives (by simp)
      have iM:=(cX.drewN nq).drew
      rw[hw3]at iM
      have hr3:bE w3.drew m.A m.n m.b:=by rw[←hw3];exact hr2
      rw[hw3]
      clear hw3 e1 e2 g0 g1 a0 a1 a2 a3 a4 a5 a6 a7 a8 a9 f0 f1 f2 f3 f4 f5 f6 f7 f8 f9 cX hr2
      have h3:=h.aN U3
      have vC:M.n≤7:=h.ok.n7
      have C3:=JX w3.drew M.gw M.me M.n M.pat M.wt h3.mm vC s hsn
      have vr:w3.drew.cell? ⟨M.gs,10,none⟩=some (.pointer (some ⟨M.gw,0,none⟩)):=h3.aO.cell 10
      obtain⟨⟨a0,a1,a2,a3,a4,a5,a6,a7,a8,a9⟩,-⟩:=iM.cJ
      have S0:m.f=(s:Int):=HS.out
      rw[S0]at a1
      have XM:M.gw∈M.fp:=by simp[ae.fp]
      go_still_tail 7,(by kernel_rfl)
      change wpList _ _ _ _ _ w3.drew
      repeat' go_step
      refine C3.mono ?_;rintro e w4 ⟨rfl,Fq,de⟩
      obtain⟨h4,U4⟩:=h3.watch de Fq
      have fb:=iM.aq de (by simp only[mem_singleton];rintro rfl;exact gU XM)
      have hr4:=hr3.ad9 de (fun h0 k hk hm=>RU h0 k hk (by rw[mem_singleton.1 hm];exact XM))
      have C5:=di w4 m.A m.n m.c m.b hr4 (by omega)
      clear a0 a1 a2 a3 a4 a5 a6 a7 a8 a9
      obtain⟨⟨a0,a1,a2,a3,a4,a5,a6,a7,a8,a9⟩,-⟩:=fb.cJ
      have ef:({M with wt:=M.wt.set s 0} :ae).pl= {M.pl with wt:=M.wt.set m.f.toNat 0}:=by rw[S0];rfl
      have Z4:Q ({M with wt:=M.wt.set s 0} :ae).pl m.ms:=by rw[ef];exact hq
      obtain⟨M4,pU⟩:∃M4:ae,({M with wt:=M.wt.set s 0} :ae)=M4:=⟨_,rfl⟩
      rw[pU]at h4 Z4 ef
      have hg4:M4.gs=M.gs:=by rw[←pU]
      have KH:M4.fp=M.fp:=by rw[←pU];rfl
      have xF:=h.lt
      have N9:=h.po
      have ahN:∀k∈ak M4.Ad,k<w.heap.size:=fun k hk=>xF k (by rw[←KH];simp[ae.fp,hk])
      have U5:=(U3.up M.fp).trans U4
      have HSI:=aA S0
      have s5:=U5.size
      have HMm:=aA hm
      clear pU hq U4 Fq de iM hr3 h3 vr S0 hm
      repeat' first|go_step|simp only[];go_at_K
      refine C5.mono ?_;rintro e w5 ⟨A,n,c,rfl,ho,cF⟩
      have K5:=fb.aq cF (by simp)
      have hA:=(ab.refl [] w4).new cF
      have ahO:=fb.lt
      clear a0 a1 a2 a3 a4 a5 a6 a7 a8 a9 C5 fb
      obtain⟨⟨a0,a1,a2,a3,a4,a5,a6,a7,a8,a9⟩,f0,f1,f2,f3,f4,f5,f6,f7,f8,f9⟩:=K5.cJ
      have u6:ab [H] [H] w5 (w5.setCell ⟨H,9,none⟩ (.slice A n c)):=(ab.refl [H] w5).setCell (p:=⟨H,9,none⟩) (.inl (by simp)) _
      have h6:=(h4.aN cF).set K5 (by decide) (by rw[KH];exact gU) u6
      have oe:=ho.aq u6 (fun k hk=>by have:=hA k hk;simp only[mem_singleton];omega)
      have C7:=T _ M4 {m with A:=A,n:=n,c:=c} h6 Z4 HMm.out ⟨oe.rd,oe.own.tag⟩ (fun k hk hn=>by have h7:=hA k hk;have h8:=xF k (by rw[←KH];exact hn);omega) (fun k hk hn=>by have h7:=hA k hk;have h8:=N9 k hn;omega)
      have U6:=(U5.trans (cF.up M.fp)).own (g:=H) (by omega) u6
      rw[Mv.bJ,ae.ptr,hg4]at C7
      clear K5 h4 h6 ho oe u6 cF
      repeat' first|go_step|simp only[];go_at_K
      refine C7.mono ?_;rintro e w7 ⟨rfl,M7,h7,rG,xK,U7⟩
      refine wk ?_
      have e7:M7.pl=R.1:=by rw[IP.out,rG,ef];rfl
      have e8:R.2=0:=by rw[IP.out]
      go_ret
      exact⟨by rw[e8];rfl,M7,h7,e7,xK.trans hg4,U6.trans (by rw[←KH];exact U7)⟩
   ·have dt:(m.t != (M.me:Int))=true:=bne_iff_ne.2 ht
    have hr:R=(M.pl,1):=by rw[rO.out,if_pos (.inl ht)]
    subst hr
    have HT:=aA ht
    clear rO ht hQ
    repeat' first|go_step|simp only[];go_at_K
    go_quiet (fail)
    refine wk ?_
    go_ret
    exact⟨rfl,jD _ _ (U2.drewN _) rfl⟩
  ·have C1:=Fj m W hr1 hm
   rw[Mv.bJ]at C1
   have hr:R=(M.pl,1):=by rw[←HR.out];unfold Site.handle;rw[if_neg (by rw[show M.pl.down=false from hd];simp),if_pos (by simpa using hm)]
   subst hr
   clear HR hQ
   go_enter func24,ntmps24
   repeat' go_step
   refine C0.mono ?_;rintro e w1 ⟨rfl,rfl⟩
   repeat' first|go_step|simp only[];go_at_K
   refine C1.mono ?_;rintro e w2 ⟨rfl,bh⟩
   refine wk ?_
   go_ret
   exact⟨rfl,jD _ _ (cv.trans bh) rfl⟩
end Go.Proofs.YtijhlbeipglieaaGreat
namespace aL
open List
namespace Site
end Site
end aL
namespace Go.Proofs.YtijhlbeipglieaaGreat
open Go.RowKit aL Go.Maps aL.Site Tryz List
section
variable [eA]
end
theorem F5(w:World):Calls prog 21 #[.pointer none] w fun e w'=>e=.returned (.slice none 0 0)∧w=w':=by
 go_enter func21,ntmps21
 repeat' go_step
 refine(qY w).mono ?_;rintro e w1 ⟨rfl,rfl⟩
 refine wk ?_
 go_ret
 exact⟨rfl,rfl⟩
theorem Hd(w:World):Calls prog 36 #[.pointer none] w fun e w'=>e=.returned (.int .i64 0)∧w=w':=by
 go_enter func36,ntmps36
 refine wk ?_
 go_ret
 exact⟨rfl,rfl⟩
theorem yF(w:World):Calls prog 28 #[.pointer none] w fun e w'=>e=.returned (.int .i64 0)∧w=w':=by
 go_enter func28,ntmps28
 refine wk ?_
 go_ret
 exact⟨rfl,rfl⟩
theorem AY(w:World)(m:Mv):Calls prog 24 #[.pointer none,m.val] w fun e w'=>e=.returned (.int .i64 14)∧ab [] [] w w':=by
 have U0:∀o,ab [] [] w (w.alloc o):=fun o=>(ab.refl [] w).alloc o
 have C:=fun w=>qY w
 rw[Mv.bJ]
 go_enter func24,ntmps24
 repeat' go_step
 refine(C _).mono ?_;rintro e w1 ⟨rfl,rfl⟩
 refine wk ?_
 go_ret
 exact⟨rfl,U0 _⟩
variable [eA]
theorem Of(w:World)(M:ae)(h:aJ w M)(hd:M.down=true) :
  Calls prog 21 #[M.ptr] w fun e w'=>e=.returned (.slice none 0 0)∧w=w':=by
 have C0:=lE w M h
 rw[show M.pl.down=true from hd,ae.ptr]at C0
 rw[ae.ptr]
 clear h
 go_enter func21,ntmps21
 repeat' go_step
 refine C0.mono ?_;rintro e w1 ⟨rfl,rfl⟩
 refine wk ?_
 go_ret
 exact⟨rfl,rfl⟩
theorem He(Q:Site→Ms→Prop)(T:Dq Q)(w:World)(M:ae)(h:aJ w M)(hl:M.held.length≤1000000000)(hQ:M.down=false→oO Q {M.pl with dn:=M.db.length,held:=[]} (M.pl.held.filter fun m=>decide (m.to=(M.me:Int)))) :
  Calls prog 21 #[M.ptr] w fun e w'=>∃(A:Option Addr)(c:Nat)(told:List Mv)(M':ae),e=.returned (.slice A told.length c)∧told.map Mv.ms=M.pl.sync.2∧aL.Own 32 10 w' A told.length c (told.flatMap Mv.cells)∧
   (∀k∈ak A,w.heap.size≤k∧k∉M'.fp)∧(∀x∈told,dj w' x.sl∧∀k∈ak x.A,k∉M'.fp∧k∉(eA.X:List Nat))∧aJ w' M'∧M'.pl=M.pl.sync.1∧M'.gs=M.gs∧ab M.fp M'.fp w w':=by
 cases hd:M.down with
 |false=>exact QW Q T w M h hd hl (hQ hd)
 |true=>
  refine(Of w M h hd).mono ?_
  rintro e w' ⟨rfl,rfl⟩
  have e1:M.pl.sync=(M.pl,[]):=by unfold Site.sync;rw[if_pos (show M.pl.down=true from hd)]
  exact⟨none,0,[],M,rfl,by rw[e1];rfl,Own.nil _ _ _,by simp[ak],by simp,h,by rw[e1],rfl,ab.refl _ _⟩
