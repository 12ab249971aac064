/- For WorldCalm. -/
import Derived.Laws.OwnMore
import Derived.Test.YtijhlbeipglieaaGreatPkWrldT
set_option linter.all false
set_option maxRecDepth 100000
set_option maxHeartbeats 8000000
namespace Go.Proofs.YtijhlbeipglieaaGreat
open Go.RowKit aL Go.Maps Go.Proofs.Tryz List
section
variable {w w':World} {V V':WV}
theorem WS.S7(h:WS w V){k:Nat}{t:Option TypeId}(ht:cl w k=some t)(h1:t∉oK)(h2:t≠some 274)(h3:t≠some 315)(h4:t≠some 72)(h5:t≠some 28):k∉V.fp:=by
 intro hm
 simp only[WV.fp,mem_append,mem_flatMap]at hm
 rcases hm with hm|hm|⟨M,hM,hm⟩|⟨d,hd,hm⟩
 ·exact bx ht (h.iA.tag _ hm) h4 rfl
 ·rcases h.uu ht hm with e|e|⟨e,-⟩
  ·exact h2 e
  ·exact h3 e
  ·exact h1 (by rw[e];decide)
 ·exact @aJ.off ⟨[]⟩ _ _ (h.sites M hM) _ _ ht h1 hm
 ·exact bx ht ((h.jV d hd).tag _ hm) h5 rfl
theorem WS.S8(h:WS w V):V.gw∉V.fp:=h.S7 h.aO.tag (by decide) (by decide) (by decide) (by decide) (by decide)
theorem WS.YL(h:WS w V)(h':WS w' V')(hg:V'.gw=V.gw)(hu:ab V.fp V'.fp w w'):V'.As=V.As∧V'.ss.length=V.ss.length∧V'.cs=V.cs∧V'.gn=V.gn:=by
 have q0:w'.cell? ⟨V.gw,0,none⟩=some (.slice V.As V.ss.length V.cs):=hu.cell (h.aO.cell 0) h.S8
 have q1:w'.cell? ⟨V.gw,1,none⟩=some (.pointer (some ⟨V.gn,0,none⟩)):=hu.cell (h.aO.cell 1) h.S8
 have r0:w'.cell? ⟨V.gw,0,none⟩=some (.slice V'.As V'.ss.length V'.cs):=by rw[←hg];exact h'.aO.cell 0
 have r1:w'.cell? ⟨V.gw,1,none⟩=some (.pointer (some ⟨V'.gn,0,none⟩)):=by rw[←hg];exact h'.aO.cell 1
 rw[q0]at r0
 rw[q1]at r1
 simp only[Option.some.injEq,Value.slice.injEq,Value.pointer.injEq,Addr.mk.injEq]at r0 r1
 exact⟨r0.1.symm,r0.2.1.symm,r0.2.2.symm,r1.1.symm⟩
end
theorem Wd.Ur{w:Wd}{i:Nat}{s:Site}(h:w.ss[i]? =some s)(f:Site→Site):w.eJ i f= {w with ss:=w.ss.set i (f s)}:=by unfold Wd.eJ;rw[h]
structure dG(p:Prop):Prop where
 out:p
theorem uw(w:World)(V:WV)(h:WS w V)(hR:V.pl.Jm) :
  Calls prog 43 #[V.ptr] w fun e w'=>e=.returned (.int .i64 (V.pl.round.2:Int))∧fA w w' V V.pl.round.1:=by
 have q0:w.cell? ⟨V.gw,0,none⟩=some (.slice V.As V.ss.length V.cs):=h.aO.cell 0
 have hlen:V.pl.ss.length=V.ss.length:=by unfold WV.pl;simp
 have HT:=aA hR.tick
 have HD:=aA hR.fa
 obtain⟨n,hn⟩:=bk V.ss.length
 have jU:=h.row.cap
 unfold maxLen at jU
 have Lh:=aA hlen
 have HN:=aA hn
 have HS:=aA h
 obtain⟨T,hT⟩:=bk V.pl.round
 have HR:=aA (show Wd.drain 20000 (V.pl.aU n)=T by rw[←hT,←hn,←hlen];rfl)
 rw[hT,WV.ptr]
 rw[hn]at q0 jU
 have aee:=aA (fun(i:Nat)(M:ae)(hM:V.ss[i]? =some M)=>h.Ak hM)
 clear hT hR hlen hn h
 go_enter func43,ntmps43
 repeat' first|go_values|go_skip|go_guarded|go_step|go_upon|simp only[];go_at_K
 go_loopw [15] (fun Gm wr=>dG (∃(i:Nat)(V2:WV),i≤n∧Gm=.int .i64 (i:Int)∧WS wr V2∧V2.pl=V.pl.aU i∧V2.gw=V.gw∧ab V.fp V2.fp w wr)) (fun Gm _=>n-(intOf Gm).toNat)
 case atStart=>exact dG.mk ⟨0,V,by omega,rfl,HS.out,rfl,rfl,ab.refl _ _⟩
 case round=>
  obtain⟨i,V2,hi,rfl,h2,gS,hg2,U2⟩:=hrel.out
  clear hrel
  have xX:=aA gS
  clear gS
  by_cases hlt:i<n
  ·have dK:(i:Int)<(n:Int):=by omega
   have dC:=aL.wr ((i:Int)+1)
   have Gn:i<V.ss.length:=by rw[HN.out];exact hlt
   obtain⟨gs,hA,hc⟩:=aee.out i V.ss[i] (List.getElem?_eq_getElem Gn)
   obtain⟨e1,e2,e3,-⟩:=HS.out.YL h2 hg2 U2
   have xz:i<V2.ss.length:=by rw[e2];exact Gn
   have gg:V2.ss[i]? =some V2.ss[i]:=List.getElem?_eq_getElem xz
   obtain⟨gs2,zN,hc2⟩:=h2.Ak gg
   obtain rfl:gs2=gs:=by rw[e1,hA]at zN;injection zN with e;injection e with e;exact e.symm
   have hwt:=HT.out i (by rw[Lh.out];exact Gn)
   obtain⟨M,hM⟩:=bk (V2.ss[i])
   rw[hM]at gg hc2
   have lX:V2.pl.ss[i]? =some M.pl:=by rw[V2.oR,gg];rfl
   have C0:=@Fc ⟨V2.fE⟩ wr M (h2.site (mem_of_getElem? gg)) (fun hd=>Lv.tick (y:=0) (hwt.1 i M.pl (by rw[←xX.out];exact lX)) hd)
   have HG:=aA (fun w' (hg: @dZ ⟨V2.fE⟩ wr w' M M.pl.tick)=>h2.gone gg hg)
   rw[←Wd.Ur lX Site.tick,xX.out]at HG
   have HW:=aA hwt.2
   rw[ae.ptr]at hc2 C0
   rw[hA]
   clear hwt hM lX gg hc zN xz e1 e2 e3 h2 Gn
   repeat' first|go_values|go_skip|go_guarded|go_step|go_upon|simp only[];go_at_K
   refine C0.mono ?_;rintro e w5 ⟨rfl,hg⟩
   obtain⟨V3,h3,fO,hg3,U3⟩:=HG.out _ hg
   have C1:=wA w5 V3 h3 i (fun s hs=>HW.out i s (by rw[←fO];exact hs))
   rw[WV.ptr,hg3,hg2,fO]at C1
   have UU:=U2.trans U3
   clear hg C0 fO h3 U3 U2
   repeat' first|go_values|go_skip|go_guarded|go_step|go_upon|simp only[];go_at_K
   refine C1.mono ?_;rintro e w6 ⟨rfl,V4,h4,jj,hg4,U4⟩
   repeat' first|go_values|go_skip|go_guarded|go_step|go_upon|simp only[];go_at_K
   exact⟨dG.mk ⟨i+1,V4,by omega,by simp,h4,jj,by rw[hg4,hg3,hg2],UU.trans U4⟩,by simp[intOf];omega⟩
  ·obtain rfl:i=n:=by omega
   have dK:¬ ((i:Int)<(i:Int)):=by omega
   repeat' first|go_values|go_skip|go_guarded|go_step|go_upon|simp only[];go_at_K
   go_loopw [5] (fun v5 wr=>dG (∃(c:Nat)(V3:WV),c≤20000∧v5=.int .i64 (c:Int)∧WS wr V3∧V3.pl=(Wd.drain c (V.pl.aU i)).1∧(Wd.drain (20000-c) V3.pl).1=T.1∧(Wd.drain (20000-c) V3.pl).2+c=T.2∧V3.gw=V.gw∧ab V.fp V3.fp w wr)) (fun v5 _=>20000-(intOf v5).toNat)
   case atStart=>exact dG.mk ⟨0,V2,by omega,rfl,h2,by rw[xX.out];rfl,by rw[xX.out,←HR.out],by rw[xX.out,←HR.out];rfl,hg2,U2⟩
   case round=>
    obtain⟨c,V3,hc,rfl,h3,fO,xq,lF,hg3,U3⟩:=hrel.out
    clear hrel h2 U2
    have HP3:=aA fO
    have YM:=aA xq
    have xY:=aA lF
    clear fO xq lF
    by_cases hc2:c<20000
    ·have Mu:(c:Int)<20000:=by omega
     have dC:=aL.wr ((c:Int)+1)
     obtain⟨hL,hL2⟩:=HD.out c hc2
     cases dm:V3.aI with
     |nil=>
      have C:=rP wr V3 h3 0 (by rw[dm];rfl)
      have hf:Wd.drain (20000-c) V3.pl=(V3.pl,0):=Wd.jY _ dm
      have kD:=aA (show(c:Int)=(T.2:Int)∧fA w wr V T.1 from⟨by have:=xY.out;rw[hf]at this;simp only at this;omega,V3,h3,by have:=YM.out;rw[hf]at this;exact this,hg3,U3⟩)
      rw[WV.ptr,hg3]at C
      clear hf dm hL hL2 h3 U3
      repeat' first|go_values|go_skip|go_guarded|go_step|go_upon|simp only[];go_at_K
      refine C.mono ?_;rintro e w5 ⟨rfl,rfl⟩
      repeat' first|go_values|go_skip|go_guarded|go_step|go_upon|simp only[];go_at_K
      go_ret
      exact⟨by rw[kD.out.1];rfl,kD.out.2⟩
     |cons m l=>
      obtain⟨hmL,YN⟩:Aj V3.pl 0∧Aj (V3.pl.du 0) 0:=by
       have e:=Lh.out
       have e2:=HN.out
       rw[e,e2,←HP3.out]at hL hL2
       exact⟨hL,hL2 m l dm⟩
      have Ot:V3.aI[0]? =some m:=by rw[dm];rfl
      have C:=wB wr V3 h3 0 m Ot hmL
      have dL:=h3.may m (by rw[dm];simp)
      have fk:m.to=((m.to.toNat:Nat):Int):=by have:=dL.to;omega
      have HE:=aA (show ∀k,Wd.drain (k+1) V3.pl=((Wd.drain k (V3.pl.fa m)).1,(Wd.drain k (V3.pl.fa m)).2+1)from fun k=>Wd.fX k dm)
      have HML:=aA YN
      obtain⟨D1,fD⟩:=bk (V3.pl.du 0)
      have Al:=aA (show V3.pl.fa m=D1.tell m.to.toNat by rw[←fD];rfl)
      rw[fD]at C HML
      rw[WV.ptr,hg3,show((0:Nat):Int)=0 from rfl,fk]at C
      have HSN:=aA (show(Wd.drain (c+1) (V.pl.aU i)).1=V3.pl.fa m from by
       have e:∀(k:Nat)(x:Wd),(Wd.drain k x).1=V3.pl→(Wd.drain (k+1) x).1=V3.pl.fa m:=by
        intro k
        induction k with
        |zero=>intro x hx;have Jc:x=V3.pl:=hx;subst Jc;rw[Wd.fX 0 dm];rfl
        |succ k ih=>
         intro x hx
         cases uL:x.aI with
         |nil=>
          rw[Wd.jY _ uL]at hx
          have Jc:x=V3.pl:=hx
          subst Jc
          rw[show V3.pl.aI=V3.aI from rfl,dm]at uL
          cases uL
         |cons y t=>
          rw[Wd.fX _ uL]at hx ⊢
          exact ih _ hx
       exact e c _ HP3.out.symm)
      clear fD Ot dm hL hL2 hmL YN dL h3
      generalize m.to.toNat=tt at *
      repeat' first|go_values|go_skip|go_guarded|go_step|go_upon|simp only[];go_at_K
      refine C.mono ?_;rintro e w5 ⟨rfl,V4,h4,jj,hg4,U4⟩
      have C1:=wA w5 V4 h4 tt (fun s hs=>HML.out tt s (by rw[←jj];exact hs))
      rw[WV.ptr,hg4,hg3,jj]at C1
      have UU:=U3.trans U4
      clear C jj h4 U4 U3
      repeat' first|go_values|go_skip|go_guarded|go_step|go_upon|simp only[];go_at_K
      refine C1.mono ?_;rintro e w6 ⟨rfl,V5,h5,ig,lS,U5⟩
      repeat' first|go_values|go_skip|go_guarded|go_step|go_upon|simp only[];go_at_K
      refine⟨dG.mk ⟨c+1,V5,by omega,by simp,h5,?_,?_,?_,by rw[lS,hg4,hg3],UU.trans U5⟩,by simp[intOf];omega⟩
      ·rw[ig,HSN.out,Al.out]
      ·have e:=HE.out (20000-(c+1))
       rw[show 20000-(c+1)+1=20000-c by omega]at e
       have e1:=YM.out
       rw[e]at e1
       rw[ig,←Al.out]
       exact e1
      ·have e:=HE.out (20000-(c+1))
       rw[show 20000-(c+1)+1=20000-c by omega]at e
       have e1:=xY.out
       rw[e]at e1
       rw[ig,←Al.out]
       simp only at e1
       omega
    ·obtain rfl:c=20000:=by omega
     have Mu:¬ (((20000:Nat):Int)<20000):=by omega
     have kD:=aA (show(((20000:Nat):Int)=(T.2:Int))∧fA w wr V T.1 from⟨by have:=xY.out;simp only[Nat.sub_self,Wd.drain]at this;omega,V3,h3,by have:=YM.out;simp only[Nat.sub_self,Wd.drain]at this;exact this,hg3,U3⟩)
     clear h3 U3
     repeat' first|go_values|go_skip|go_guarded|go_step|go_upon|simp only[];go_at_K
     go_ret
     exact⟨by rw[←kD.out.1];rfl,kD.out.2⟩
theorem aJ.YO[eA]{w:World}{M:ae}(h:aJ w M){x:Int}{v:List UInt8}(hv:M.pl.dec x=some v):v.length≤2048:=by
 rw[ae.pq]at hv
 cases hl:aD x M.lv with
 |none=>rw[hl]at hv;cases hv
 |some z=>
  rw[hl]at hv
  injection hv with hv
  have:=(h.iH.keys _ (bG hl)).2.2
  simp only at this
  rw[←hv];exact this
theorem CI(f:Nat→List UInt8)(t:Nat):(lN f t).length≤t:=by
 unfold lN
 exact Nat.le_trans (length_filter_le _ _) (by simp)
theorem ae.Gp(M:ae)(h:M.taken≤4096):M.pl.front≤4096:=by rw[ae.qR];have:=wC M.lv (4096-M.taken) M.taken;omega
theorem _root_.aL.lj.len{s:Site}{d:List (List UInt8)}(h:lj s d):d.length≤s.taken:=by rw[h.eq];exact CI _ _
theorem OC(w:World)(V:WV)(h:WS w V)(i:Nat)(M:ae)(hM:V.ss[i]? =some M)(D:mr)(hD:V.dn[i]? =some D)(YP:lj M.pl (D.l.map bO.b)) :
  Calls prog 41 #[V.ptr,.int .i64 (i:Int)] w fun e w'=>∃(A:Option Addr)(c:Nat)(l:List bO)(V':WV),e=.returned (.slice A l.length c)∧l.map bO.b=D.l.map bO.b++M.pl.ey.2.filter (fun v=>decide (v≠[]))∧jm w' A c l∧
   (∀k∈ak A,w.heap.size≤k∧k∉V'.fp)∧(∀x∈l,∀k∈ak x.A,w.heap.size≤k∧k∉V'.fp)∧WS w' V'∧V'.pl=V.pl.take i∧V'.gw=V.gw∧ab V.fp V'.fp w w':=by
 have kE:=mem_of_getElem? hM
 have Ta:=h.site kE
 have hmi:i<V.ss.length:=(List.getElem?_eq_some_iff.1 hM).1
 have YQ:i<V.dn.length:=(List.getElem?_eq_some_iff.1 hD).1
 have Tb:=mem_of_getElem? hD
 have C0:=lR w V h (i:Int)
 rw[WV.mu,hM]at C0
 have C1:=@Q8 ⟨V.fE⟩ w M Ta
 have ht:=(@aJ.iH ⟨V.fE⟩ _ _ Ta).t
 have YR:=M.Gp ht
 have Li:=YP.ey
 obtain⟨S,hS⟩:=bk M.pl.ey.2
 have hSl:S.length≤4096:=by
  rw[←hS]
  show((range' _ _).map _).length≤_
  rw[length_map,length_range']
  omega
 have hd0:D.l.length≤4096:=by have:=YP.len;rw[length_map]at this;have:M.pl.taken≤4096:=ht;omega
 have Jn:=aA (show V.pl.take i= {V.pl with ss:=V.pl.ss.set i M.pl.ey.1,done:=V.pl.done.set i (D.l.map bO.b++S.filter fun v=>decide (v≠[]))} by
  unfold Wd.take
  rw[V.oR,hM]
  simp only[Option.map_some]
  rw[List.getD_eq_getElem?_getD,show V.pl.done[i]? =some (D.l.map bO.b) by unfold WV.pl;simp[hD],←hS]
  rfl)
 obtain⟨T,hT⟩:=bk (V.pl.take i)
 rw[hS]at C1 Li ⊢
 rw[hT]at Jn ⊢
 have Lh:=aA (show ∀v∈D.l.map bO.b++S.filter (fun v=>decide (v≠[])),v.length≤2048 from fun v hv=>by
  rw[Li.eq]at hv
  obtain⟨-,x,hx,e⟩:=OA hv
  obtain⟨u,hu⟩:=Li.all x hx
  have eC:M.pl.dec (x:Int)=some u:=hu
  have e2:M.pl.ey.1.val x=u:=by unfold Site.val;rw[hu];rfl
  rw[←e,e2]
  exact @aJ.YO ⟨V.fE⟩ _ _ Ta _ _ eC)
 rw[ae.ptr]at C1
 rw[WV.ptr]at C0 ⊢
 have HST:=aA (fun w' (hg: @Lj ⟨V.fE⟩ w w' M M.pl.ey.1)=>show ∃M',WS w' {V with ss:=V.ss.set i M'}∧M'.pl=M.pl.ey.1∧ab V.fp ({V with ss:=V.ss.set i M'} :WV).fp w w'∧({V with ss:=V.ss.set i M'} :WV).fE=V.fE from by
  obtain⟨M',k1,k2,k3,k4,k5,k6,k7⟩:=hg
  obtain⟨j1,j2⟩:=h.turn hM k1 k3 k7
  refine⟨M',j1,k2,j2,?_⟩
  unfold WV.fE WV.Lk WV.xZ
  congr 1
  show((V.ss.set i M').flatMap fun M=>ak M.Ad)=_
  rw[←flatMap_map (f:=ae.Ad) (g:=fun A=>ak A),←flatMap_map (f:=ae.Ad) (g:=fun A=>ak A),map_set,k5]
  congr 1
  refine ext_getElem? fun j=>?_
  by_cases e:i=j
  ·subst e;rw[List.getElem?_set_self (by simpa using hmi),List.getElem?_map,hM];rfl
  ·rw[List.getElem?_set_ne e])
 have RF:=aA h.lt
 have IH:=aA (fun d hd k hk=>(h.jV d hd).lt k hk)
 have aef:=aA h.Tc
 simp only[kS,ae.ptr]at C0
 clear hS hT Ta h YP Li YR ht hM kE
 go_enter func41,ntmps41
 repeat' first|go_values|go_skip|go_guarded|go_step|go_upon|simp only[];go_at_K
 refine C0.mono ?_;rintro e w1 ⟨rfl,rfl⟩
 repeat' first|go_values|go_skip|go_guarded|go_step|go_upon|simp only[];go_at_K
 refine C1.mono ?_;rintro e w1 ⟨A1,c1,l1,rfl,fR,iY,uJ,hx1,hst⟩
 obtain⟨M',h1,ee,U1,yH⟩:=HST.out w1 hst
 obtain⟨V1,hV1⟩:∃V1:WV,{V with ss:=V.ss.set i M'} =V1:=⟨_,rfl⟩
 rw[hV1]at h1 U1 yH
 have YS:V1.dn=V.dn:=by rw[←hV1]
 have hg1:V1.gw=V.gw:=by rw[←hV1]
 have hp:V1.pl= {V.pl with ss:=V.pl.ss.set i M.pl.ey.1}:=by rw[←hV1];unfold WV.pl;simp only[map_set,ee]
 have aeg:l1.length=S.length:=by rw[←fR,length_map]
 have hl4:l1.length≤4096:=by omega
 have Td:=iY.own.cap
 have fD:V1.dn[i]? =some D:=by rw[YS];exact hD
 have Ba:i<V1.dn.length:=by rw[YS];exact YQ
 clear C0 C1 hst hV1 ee hD
 have HP:=aA hp
 have HL1:=aA fR
 have KG:∀k∈ak A1,k∉ak V1.Ad++ak D.A:=fun k hk hm=>by
  have oq:=uJ k hk
  rcases mem_append.1 hm with hm|hm
  ·exact bx (iY.own.tag k hk) (h1.iA.tag k hm) (by decide) rfl
  ·have:=IH.out D Tb k hm;omega
 clear aeg fR hp
 repeat' first|go_values|go_skip|go_guarded|go_step|go_upon|simp only[];go_at_K
 have e0:V1.dn.set i D=V1.dn:=by
  refine ext_getElem? fun k=>?_
  by_cases e:i=k
  ·subst e;rw[List.getElem?_set_self Ba,fD]
  ·rw[List.getElem?_set_ne e]
 have H0:=aA (show WS w1 {V1 with dn:=V1.dn.set i D}from by rw[e0];exact h1)
 clear e0
 go_loopw [19] (fun YT wr=>dG (∃(j:Nat)(D':mr),j≤l1.length∧YT=.int .i64 (j:Int)∧WS wr {V1 with dn:=V1.dn.set i D'}∧D'.l.map bO.b=D.l.map bO.b++(S.take j).filter (fun v=>decide (v≠[]))∧D'.l.length≤4096+j∧ab (ak V1.Ad++ak D.A) (ak V1.Ad++ak D'.A) w1 wr)) (fun YT _=>l1.length - (intOf YT).toNat)
 case atStart=>exact dG.mk ⟨0,D,by omega,rfl,H0.out,by simp,by omega,ab.refl _ _⟩
 case round=>
  obtain⟨j,D',hj,rfl,h2,hb2,hl2,U2⟩:=hrel.out
  clear hrel
  have Te:=aA hb2
  clear hb2
  obtain⟨V2,hV2⟩:∃V2:WV,{V1 with dn:=V1.dn.set i D'} =V2:=⟨_,rfl⟩
  rw[hV2]at h2
  have hg2:V2.gw=V.gw:=by rw[←hV2];exact hg1
  have lF:V2.dn[i]? =some D':=by rw[←hV2];exact List.getElem?_set_self Ba
  have FY:V2.Ad=V1.Ad:=by rw[←hV2]
  have kW:V2.dn.length=V1.dn.length:=by rw[←hV2];simp
  have BV:V2.fE=V.fE:=by rw[←hV2,←yH];rfl
  have eN:=iY.own.aq U2 KG
  by_cases hlt:j<l1.length
  ·have dK:(j:Int)<(l1.length:Int):=by omega
   have dC:=aL.wr ((j:Int)+1)
   obtain⟨g1,ahR,rfl,gh,-⟩:=eN.block (by omega)
   have c1j:wr.cell? ⟨g1,j,none⟩=some l1[j].val:=by rw[gh.cell,List.getElem?_toArray,List.getElem?_append_left (by simpa using hlt),List.getElem?_map,List.getElem?_eq_getElem hlt];rfl
   have sC:=iY.each _ (getElem_mem hlt)
   have YU:=hx1 _ (getElem_mem hlt)
   have Tf:S[j]? =some l1[j].b:=by rw[←HL1.out,List.getElem?_map,List.getElem?_eq_getElem hlt];rfl
   obtain⟨x,hx⟩:=bk (l1[j])
   rw[hx]at c1j sC YU Tf
   have Gq:dj w1 x:=⟨sC.rd,fun k hk=>sC.own.tag k hk⟩
   have hx2:dj wr x:=Gq.aq U2 (fun k hk hm=>by
    rcases mem_append.1 hm with hm|hm
    ·exact bx (Gq.tag k hk) (h1.iA.tag k hm) (by decide) rfl
    ·exact bx (Gq.tag k hk) ((h1.jV D (mem_of_getElem? fD)).tag k hm) (by decide) rfl)
   have hxh:∀k∈ak x.A,k∉V2.fE:=fun k hk hm=>by rw[BV]at hm;have:=aef.out k hm;have:=YU k hk;omega
   have uL:x.n=x.b.length:=sC.rd.len
   have Tg:=aA (show S.take (j+1)=S.take j++[x.b] by
    have EE:j<S.length:=(List.getElem?_eq_some_iff.1 Tf).1
    rw[take_succ_eq_append_getElem EE]
    have:=(List.getElem?_eq_some_iff.1 Tf).2
    rw[this])
   have HXN:=aA uL
   clear sC Gq hx Tf gh uL
   unfold bO.val at c1j
   by_cases hx0:x.n=0
   ·have F7:=aA hx0
    have dx:decide ((0:Int)<(x.n:Int))=false:=iO
    have dx2:decide (0<x.n)=false:=iO
    clear hx0
    repeat' first|go_values|go_skip|go_guarded|go_step|go_upon|simp only[];go_at_K
    refine⟨dG.mk ⟨j+1,D',by omega,by simp,by rw[hV2];exact h2,?_,by omega,U2⟩,by simp[intOf];omega⟩
    have:x.b= []:=eq_nil_of_length_eq_zero (by rw[←HXN.out];exact F7.out)
    rw[Tg.out,filter_append,Te.out,this]
    simp
   ·have F7:=aA hx0
    have dx:decide ((0:Int)<(x.n:Int))=true:=oT
    have dx2:decide (0<x.n)=true:=oT
    clear hx0
    repeat' (fail_if_success with_reducible refine ba rfl ?_);first|go_values|go_skip|go_guarded|go_step|go_upon|simp only[];go_at_K
    have lA:i<V2.dn.length:=by rw[kW];exact Ba
    have o8:=h2.jV D' (mem_of_getElem? lF)
    have OD:ab [] [] wr (wr.drew.alloc (.cells #[.slice x.A x.n x.c] 28)):=(((ab.refl [] wr).drew).alloc _).gives (by simp)
    obtain⟨A5,c5,w5,Dz,fI,cF⟩:=lL (P:=prog) (wr.drew.alloc (.cells #[.slice x.A x.n x.c] 28)) 72 72 28 underlying72 Bc rfl (by decide) D'.A D'.l.length D'.c _ (o8.aq OD (by simp)) (some ⟨wr.drew.heap.size,0,none⟩) 1 1 [.slice x.A x.n x.c] (Rd.aO (aQ.new _ _ _) rfl) (by intro u hu;simp only[mem_singleton]at hu;subst hu;rfl) (by unfold maxLen;omega) (by omega)
    have wO:(Builtin.append_ #[72,72] 72 #[.slice D'.A D'.l.length D'.c,.slice (some ⟨wr.drew.heap.size,0,none⟩) 1 1]).run prog (wr.drew.alloc (.cells #[.slice x.A x.n x.c] 28))=.ok (.slice A5 (D'.l.length+1) c5) w5:=Dz
    have U5:ab (ak D'.A) (ak A5) wr w5:=(OD.up _).trans cF
    have Ll:∀k∈ak V2.Ad,k∉ak D'.A:=fun k hk hm=>bx (h2.iA.tag k hk) (o8.tag k hm) (by decide) rfl
    obtain⟨gd,hgd,f6,Lm,U6⟩:=(h2.iA.aq U5 Ll).write (k:=i) (by omega) (.slice A5 (D'.l.length+1) c5)
    obtain⟨sY,Q9,qd⟩:=h2.sv lF
    obtain rfl:sY=gd:=by rw[hgd]at Q9;injection Q9 with e;injection e with e;exact e.symm
    have YV:V2.gw∉ak D'.A:=fun hm=>bx h2.aO.tag (o8.tag _ hm) (by decide) rfl
    have YW:sY∉ak D'.A:=Ll sY (by rw[hgd];simp[ak])
    have q2:wr.cell? ⟨V.gw,2,none⟩=some (.slice (some ⟨sY,0,none⟩) V2.dn.length V2.cd):=by rw[←hgd,←hg2];exact h2.aO.cell 2
    have YX:=OD.cell q2 (by simp)
    have Yx:=U5.cell q2 (by rw[←hg2];exact YV)
    have q2c:=((ab.refl [] wr).drew).cell q2 (by simp)
    unfold mr.val at qd
    have YY:=OD.cell qd (by simp)
    have qdb:=U5.cell qd YW
    have qdc:=((ab.refl [] wr).drew).cell qd (by simp)
    have Gr:=h2.iA.cap
    obtain⟨w6,yN⟩:=bk (w5.setCell ⟨sY,i,none⟩ (.slice A5 (D'.l.length+1) c5))
    rw[yN]at Lm U6
    have Th:ab (ak V2.Ad++ak D'.A) (ak V2.Ad++ak A5) wr w6:=by
     have ua:ab (ak V2.Ad++ak D'.A) (ak V2.Ad++ak A5) wr w5:=U5.mono (fun k hk=>mem_append.2 (.inr hk)) (fun k hk=>by
      rcases mem_append.1 hk with hk|hk
      ·exact .inr (.inl (mem_append.2 (.inl hk)))
      ·exact .inl hk)
     refine ua.trans (U6.mono (fun k hk=>mem_append.2 (.inl hk)) (fun k hk=>.inr (.inl hk)))
    obtain⟨Ra,-⟩:=h2.yI (D':=⟨A5,c5,D'.l++[x]⟩) lF (by rw[map_set,show(⟨A5,c5,D'.l++[x]⟩:mr).val=.slice A5 (D'.l.length+1) c5 by simp[mr.val]];exact Lm)
     (
      by
      have:=fI.aq U6 (fun k hk hm=>bx (fI.tag k hk) ((h2.iA.aq U5 Ll).tag k hm) (by decide) rfl)
      simpa[bO.val]using this) (fun y hy=>by
      have Ti:dj wr y∧∀k∈ak y.A,k∉V2.fE:=by
       rcases mem_append.1 hy with hy|hy
       ·exact⟨h2.fu y (V2.OE (mem_of_getElem? lF) hy),h2.ux y (V2.OE (mem_of_getElem? lF) hy)⟩
       ·rw[mem_singleton]at hy;subst hy;exact⟨hx2,hxh⟩
      refine⟨Ti.1.aq Th (fun k hk hm=>?_),Ti.2⟩
      rcases mem_append.1 hm with hm|hm
      ·exact bx (Ti.1.tag k hk) (h2.iA.tag k hm) (by decide) rfl
      ·exact bx (Ti.1.tag k hk) (o8.tag k hm) (by decide) rfl) Th
    have bN:=aA (show dG (∃(j2:Nat)(D2:mr),j2≤l1.length∧Value.int .i64 ((j:Int)+1)=.int .i64 (j2:Int)∧WS w6 {V1 with dn:=V1.dn.set i D2}∧D2.l.map bO.b=D.l.map bO.b++(S.take j2).filter (fun v=>decide (v≠[]))∧D2.l.length≤4096+j2∧ab (ak V1.Ad++ak D.A) (ak V1.Ad++ak D2.A) w1 w6) from
     dG.mk ⟨j+1,⟨A5,c5,D'.l++[x]⟩,by omega,by simp,by
      rw[←hV2]at Ra
      simpa using Ra,by
      rw[map_append,Te.out,Tg.out,filter_append,←append_assoc]
      congr 1
      have:x.b≠[]:=fun e=>F7.out (by rw[HXN.out,e];rfl)
      simp[this],by simp;omega,by rw[←FY];rw[←FY]at U2;exact U2.trans Th⟩)
    obtain⟨nD,OF⟩:=bk V2.dn.length
    obtain⟨dl,Nc⟩:=bk D'.l.length
    rw[OF]at q2 YX Yx q2c lA Gr
    rw[Nc]at qd YY qdb qdc wO yN
    unfold maxLen at Gr
    have aeh:(i:Int)<(nD:Int):=by omega
    clear Ra Th Lm U6 o8 U5 fI cF OD YV YW hgd Q9 Ll hx2 hxh YU h2 U2 kW FY hg2 lF BV hV2 OF Nc hl2 Dz
    rw[←yN]at bN
    have ahS:(wr.alloc (.cells #[.slice x.A x.n x.c] 28)).drew.cell? ⟨V.gw,2,none⟩=some (.slice (some ⟨sY,0,none⟩) nD V2.cd):=YX
    have ahT:(wr.alloc (.cells #[.slice x.A x.n x.c] 28)).drew.cell? ⟨sY,i,none⟩=some (.slice D'.A dl D'.c):=YY
    have aab:(Builtin.append_ #[72,72] 72 #[.slice D'.A dl D'.c,.slice (some ⟨wr.heap.size,0,none⟩) 1 1]).run prog (wr.alloc (.cells #[.slice x.A x.n x.c] 28)).drew=.ok (.slice A5 (dl+1) c5) w5:=wO
    clear yN wO YX YY
    go_region_law (first
     |(refine jz rfl (.tmp 37) (.tmp 39) 72 rfl (.slice D'.A dl D'.c) (.slice (some ⟨wr.heap.size,0,none⟩) 1 1) _ w5 rfl rfl aab ?_))
    all_goals (repeat' ((fail_if_success with_reducible refine ba rfl ?_);first|go_values|go_skip|go_guarded|go_step|go_upon|simp only[];go_at_K))
    all_goals exact⟨bN.out,by simp[intOf];omega⟩
  ·obtain rfl:j=l1.length:=by omega
   have dK:¬ ((l1.length:Int)<(l1.length:Int)):=by omega
   have hSt:S.take l1.length=S:=take_of_length_le (by rw[←HL1.out,length_map];exact Nat.le_refl _)
   have hb2:=Te.out
   rw[hSt]at hb2
   have gS:V2.pl=T:=by
    rw[Jn.out,←hb2]
    have e1:V2.pl= {V1.pl with done:=V1.pl.done.set i (D'.l.map bO.b)}:=by rw[←hV2];unfold WV.pl;simp[map_set]
    rw[e1,HP.out]
   have hU:ab V1.fp V2.fp w1 wr:=by
    rw[←hV2]
    rw[←hV2]at h2
    refine(h1.yI fD (by have:=h2.iA;simpa using this) (h2.jV D' (mem_of_getElem? (List.getElem?_set_self Ba))) (fun y hy=>?_) U2).2
    have hm:=WV.OE (V:={V1 with dn:=V1.dn.set i D'}) (mem_of_getElem? (List.getElem?_set_self Ba)) hy
    exact⟨h2.fu y hm,h2.ux y hm⟩
   have YZ:∀y∈D'.l,dj wr y∧y.b.length≤2048:=fun y hy=>⟨h2.fu y (V2.OE (mem_of_getElem? lF) hy),Lh.out _ (by rw[←hb2];exact mem_map_of_mem hy)⟩
   have Vv:D'.l.length≤8192:=by omega
   have lA:i<V2.dn.length:=by rw[kW];exact Ba
   have o8:=h2.jV D' (mem_of_getElem? lF)
   obtain⟨gd,hgd,qd⟩:=h2.sv lF
   have q2:wr.cell? ⟨V.gw,2,none⟩=some (.slice (some ⟨gd,0,none⟩) V2.dn.length V2.cd):=by rw[←hgd,←hg2];exact h2.aO.cell 2
   have Gr:=h2.iA.cap
   unfold maxLen at Gr
   obtain⟨nD,OF⟩:=bk V2.dn.length
   rw[OF]at q2 lA Gr
   have aeh:(i:Int)<(nD:Int):=by omega
   unfold mr.val at qd
   have kD:=aA (show WS wr V2∧V2.pl=T∧V2.gw=V.gw∧ab V.fp V2.fp w wr∧D'.l.map bO.b=D.l.map bO.b++S.filter (fun v=>decide (v≠[])) from⟨h2,gS,hg2,U1.trans hU,hb2⟩)
   have Rb:=aA h2.lt
   have HSZ:=aA (show w.heap.size≤wr.heap.size from(U1.trans hU).size)
   clear hSt hb2 gS hU OF kW hgd h2 U2 hV2 lF FY BV hl2 Te Jn eN
   obtain⟨wo,qO⟩:∃x,wr=x:=⟨_,rfl⟩
   rw[qO]at YZ o8 qd q2 kD Rb HSZ ⊢
   clear qO
   obtain⟨L,hL⟩:=bk D'.l
   rw[hL]at YZ Vv o8 qd kD
   have ahx:=o8.cap
   repeat' first|go_values|go_skip|go_guarded|go_step|go_upon|simp only[];go_at_K
   go_loopw [51,8] (fun Y0 v8 wr=>dG (∃(j2:Nat)(A:Option Addr)(c:Nat)(l:List bO),j2≤L.length∧Y0=.int .i64 (j2:Int)∧l.length=j2∧v8=.slice A l.length c∧jm wr A c l∧l.map bO.b=(L.take j2).map bO.b∧
    (∀k∈ak A,wo.heap.size≤k)∧(∀x∈l,∀k∈ak x.A,wo.heap.size≤k)∧ab [] [] wo wr)) (fun Y0 _ _=>L.length-(intOf Y0).toNat)
   case atStart=>exact dG.mk ⟨0,none,0,[],by omega,rfl,rfl,rfl,⟨aL.Own.nil _ _ _,by simp⟩,by simp,by simp[ak],by simp,ab.refl _ _⟩
   case round=>
    obtain⟨j2,A,c,l,hj2,rfl,qI,rfl,ho,pK,hA,hx,U⟩:=hrel.out
    clear hrel
    rw[qI]
    have OG:=aA qI
    have HLB:=aA pK
    clear pK
    by_cases vU:j2<L.length
    ·have aei:(j2:Int)<(L.length:Int):=by omega
     have dC:=aL.wr ((j2:Int)+1)
     obtain⟨gA,ahU,Cj,hBA,-⟩:=o8.block (by omega)
     have cA:wr.cell? ⟨gA,j2,none⟩=some L[j2].val:=U.cell (by rw[hBA.cell,List.getElem?_toArray,List.getElem?_append_left (by simpa using vU),List.getElem?_map,List.getElem?_eq_getElem vU];rfl) (by simp)
     obtain⟨I4,qM⟩:=YZ _ (getElem_mem vU)
     have Jn:=aA (show(L.take (j2+1)).map bO.b=(L.take j2).map bO.b++[L[j2].b] by rw[take_succ_eq_append_getElem vU,map_append];rfl)
     obtain⟨y,hy⟩:=bk (L[j2])
     rw[hy]at cA I4 qM Jn
     have CC:=di wr y.A y.n y.c y.b (I4.aN U).rd (by omega)
     unfold bO.val at cA
     rw[Cj]
     clear I4 qM hy hBA qI
     repeat' first|go_values|go_skip|go_guarded|go_step|go_upon|simp only[];go_at_K
     refine CC.mono ?_;rintro e w5 ⟨A4,n4,c4,rfl,dW,de⟩
     have U4:ab [] [] wo w5:=U.trans (de.gives (b':=[]) (by simp))
     have BX:=U.new de
     have za:=ho.aq (de.gives (b':=[]) (by simp))
     have Y1:=za.own
     rw[OG.out]at Y1
     clear CC de ho
     repeat' (fail_if_success with_reducible refine ba rfl ?_);first|go_values|go_skip|go_guarded|go_step|go_upon|simp only[];go_at_K
     refine gV rfl _ _ 72 rfl 28 underlying72 Bc rfl (by decide) Y1 rfl w5.heap.size rfl rfl (news:=[.slice A4 n4 c4]) rfl rfl (by unfold maxLen;omega) (by omega) ?_
     intro A6 c6 w6 oe dN
     have U6:ab [] [] wo w6:=U4.mG hA dN
     have yR:=U4.size
     have uT:∀k∈ak A6,wo.heap.size≤k:=fun k hk=>by
      rcases dN.fresh k hk with hh|hh
      ·exact hA k hh
      ·omega
     have Ki:=za.push (x:=⟨A4,n4,c4,y.b⟩) dW (by rw[OG.out];exact oe) dN
     clear Y1 za dW dN U4 hA oe
     repeat' first|go_values|go_skip|go_guarded|go_step|go_upon|simp only[];go_at_K
     refine⟨dG.mk ⟨j2+1,A6,c6,l++[⟨A4,n4,c4,y.b⟩],by omega,by simp,by simp[OG.out],by simp[OG.out],Ki,?_,uT,fun z hz k hk=>?_,U6⟩,by simp[intOf];omega⟩
     ·rw[Jn.out,map_append,HLB.out];rfl
     ·rcases mem_append.1 hz with hz|hz
      ·exact hx z hz k hk
      ·rw[mem_singleton]at hz;subst hz;exact BX k hk
    ·obtain rfl:j2=L.length:=by omega
     have aei:¬ ((L.length:Int)<(L.length:Int)):=by omega
     have bN:=aA (show ∃(A':Option Addr)(c':Nat)(l':List bO)(V':WV),Value.slice A L.length c=.slice A' l'.length c'∧l'.map bO.b=D.l.map bO.b++S.filter (fun v=>decide (v≠[]))∧jm wr A' c' l'∧
       (∀k∈ak A',w.heap.size≤k∧k∉V'.fp)∧(∀x∈l',∀k∈ak x.A,w.heap.size≤k∧k∉V'.fp)∧WS wr V'∧V'.pl=T∧V'.gw=V.gw∧ab V.fp V'.fp w wr from by
      obtain⟨f1,f2,f3,f4,f5⟩:=kD.out
      have hz:=HSZ.out
      refine⟨A,c,l,V2,by rw[OG.out],?_,ho,fun k hk=>?_,fun x RG k hk=>?_,f1.aN U,f2,f3,f4.trans (U.up _)⟩
      ·rw[HLB.out,take_length,f5]
      ·have:=hA k hk
       exact⟨by omega,fun hm=>by have:=Rb.out k hm;omega⟩
      ·have:=hx x RG k hk
       exact⟨by omega,fun hm=>by have:=Rb.out k hm;omega⟩)
     clear ho hA hx U
     repeat' first|go_values|go_skip|go_guarded|go_step|go_upon|simp only[];go_at_K
     go_ret
     obtain⟨A',c',l',V',k1,k2⟩:=bN.out
     exact⟨A',c',l',V',by rw[←k1];rfl,k2⟩
theorem Y2:(prog.info? 24).map (fun i=>(i.zero,i.size,i.bytes))=some (some (.pointer none),1,8):=by kernel_rfl
theorem Y3:(prog.info? 72).map (fun i=>(i.zero,i.size,i.bytes))=some (some (.slice none 0 0),1,24):=by kernel_rfl
theorem Hl(n:Nat)(hn:n≤7)(w:World):(Instr.makeSlice 102 (.int .i64 (n:Int)) (.int .i64 (n:Int))).run prog w=.ok (.slice (some ⟨w.heap.size,0,none⟩) n n) (w.alloc (.cells (replicate n (.slice none 0 0)).toArray 72)):=by
 obtain⟨i,hi,hz,hs,hb⟩:=info_parts Y3
 have hr:=run_make (P:=prog) w 102 72 i (.slice none 0 0) underlying102 hi hz .i64 .i64 n n (by omega) (by omega) (by rw[hb];omega) (by omega)
 simp only[Int.toNat_natCast,hs,Nat.mul_one]at hr
 rw[hr]
 have e:madeCells (Value.cells (.slice none 0 0)) n=(replicate n (.slice none 0 0)).toArray:=by
  apply Array.ext'
  exact(toList_madeCells_one (.slice none 0 0) n).trans (by simp)
 rw[e]
theorem Gs{w:World}{g n:Nat}{t:TypeId}{z:Value}(hn:n≤7)(h:aQ w g t (Array.replicate n z)):aL.Own t 1 w (some ⟨g,0,none⟩) n n (replicate n z):=
 aL.Own.Pf (cur:=[]) (by simpa using h) (by simp) (by simp) (Nat.le_refl _) (by unfold maxLen;omega)
theorem ae.OH{M:ae}{me n pat:Nat}(h:M.pl=Site.new me n pat):M.bytes= []:=by
 have h1:cD cP.pl M.st= []:=congrArg Site.st h
 have h2:cD bO.b M.lv= []:=congrArg Site.lv h
 have h3:cD bS.pl M.rs= []:=congrArg Site.rs h
 have h4:M.held.map Mv.ms= []:=congrArg Site.held h
 unfold cD at h1 h2 h3
 rw[map_eq_nil_iff]at h1 h2 h3 h4
 unfold ae.bytes
 rw[h1,h2,h3,h4]
 rfl
theorem WS.new{w:World}{gw gn n cs:Nat}{As Ad:Option Addr}{ss:List ae}(hB:aQ w gw 175 #[.slice As n cs,.pointer (some ⟨gn,0,none⟩),.slice Ad n n])(hr:aL.Own 24 1 w As n cs (ss.map ae.ptr))(hn:fz w gn none 0 0 [])(hd:aL.Own 72 1 w Ad n n (replicate n (.slice none 0 0)))(hs:∀M∈ss,@aJ ⟨[]⟩ w M∧M.bytes= [])(hf:ss.Pairwise fun p q=>∀k∈p.fp,k∉q.fp)(hl:ss.length=n) :
  WS w ⟨gw,As,cs,ss,gn,none,0,0,[],[],Ad,n,replicate n ⟨none,0,[]⟩⟩:=by
 subst hl
 have hby:∀x,x∉(⟨gw,As,cs,ss,gn,none,0,0,[],[],Ad,ss.length,replicate ss.length ⟨none,0,[]⟩⟩:WV).bytes:=fun x hx=>by
  rcases mem_append.1 hx with hx|hx
  ·obtain⟨M,hM,hx⟩:=mem_flatMap.1 hx
   rw[(hs M hM).2]at hx;cases hx
  ·obtain⟨d,hd,hx⟩:=mem_flatMap.1 hx
   rw[(mem_replicate.1 hd).2]at hx;cases hx
 exact⟨by simpa[WV.cells]using hB,hr,hn,rfl,by simp,by simpa[mr.val]using hd,by simp,fun M hM=>(hs M hM).1,hf,fun d hd=>by rw[(mem_replicate.1 hd).2];exact aL.Own.nil _ _ _,
  pairwise_replicate.2 (.inr (by simp[ak])),fun x hx=>absurd hx (hby x),fun x hx=>absurd hx (hby x),by simp[WV.xZ]⟩
theorem Gt(w:World)(n pat:Nat)(h:im 0 n pat=true) :
  Calls prog 49 #[.int .i64 (n:Int),.int .i64 (pat:Int)] w fun e w'=>∃V:WV,e=.returned (.tuple #[V.ptr,.int .i64 0])∧WS w' V∧V.pl=Wd.new n pat∧(∀k∈V.fp,w.heap.size≤k)∧ab [] V.fp w w':=by
 have h':=h
 simp only[im,Bool.and_eq_true,decide_eq_true_eq]at h'
 have C0:=@Ja ⟨[]⟩ w 0 n pat h (by simp)
 have HOK:=aA (show ∀i,i<n→im (i:Int) n pat=true from fun i hi=>by simp only[im,Bool.and_eq_true,decide_eq_true_eq];omega)
 rw[show((0:Nat):Int)=0 from rfl]at C0
 have uC:3≤n:=by omega
 have vC:n≤7:=by omega
 clear h h'
 go_enter func49,ntmps49
 repeat' first|go_values|go_skip|go_guarded|go_step|go_upon|simp only[];go_at_K
 refine C0.mono ?_;rintro e w1 ⟨M0,rfl,-,-,bn⟩
 have U1:ab [] [] w w1:=bn.gives (by simp)
 clear C0 bn
 simp only[ae.ptr]
 repeat' first|go_values|go_skip|go_guarded|go_step|go_upon|simp only[];go_at_K
 go_cut [8]from 21 (fun s8 wc=>dG (∃(gw gn:Nat)(Ad:Option Addr),s8=.pointer (some ⟨gw,0,none⟩)∧aQ wc gw 175 #[.slice none 0 0,.pointer (some ⟨gn,0,none⟩),.slice Ad n n]∧fz wc gn none 0 0 []∧aL.Own 72 1 wc Ad n n (replicate n (.slice none 0 0))∧
  (∀k∈ak Ad++[gw,gn],w1.heap.size≤k)∧ab [] [] w wc))
 case first=>
  have Vw:=Hl n vC
  clear uC HOK
  go_region_with (first|(go_at_call 106;(with_reducible refine(XG _).mono ?_);rintro e w2 ⟨g,rfl,hN,hu⟩))
  all_goals (repeat' ((fail_if_success with_reducible refine ba rfl ?_);first|go_values|go_skip|go_guarded|go_step|go_upon|simp only[];go_at_K))
  all_goals go_meet
  ·have eC:ab [] [] w1 w2:=((ab.refl [] w1).drew.trans hu).gives (by simp)
   have hz:=eC.size
   have hg:=(ab.refl [] w1.drew).new hu
   refine dG.mk ⟨w2.heap.size+1,g,some ⟨w2.heap.size,0,none⟩,rfl,(show aQ _ (w2.heap.size+1) _ _ from by rw[show w2.heap.size+1=(w2.alloc (Obj.cells (Array.replicate n (Value.slice none 0 0)) 72)).heap.size by simp];exact aQ.new _ _ _),(hN.aN ((ab.refl [] w2).alloc _)).aN ((ab.refl [] _).alloc _),Gs vC ((aQ.new _ _ _).alloc _),fun k hk=>?_,(((U1.trans eC).alloc _).alloc _).gives (by simp)⟩
   simp only[ak,mem_append,mem_cons,not_mem_nil,or_false]at hk
   have:=hg g (by simp[er])
   have e:w1.drew.heap.size=w1.heap.size:=rfl
   omega
  ·have lB:ab [] [] w1 (w1.alloc (Obj.cells (Array.replicate n (Value.slice none 0 0)) 72)).drew:=(((ab.refl [] w1).alloc _).drew).gives (by simp)
   have eC:ab [] [] w1 w2:=(lB.trans hu).gives (by simp)
   have hz:=eC.size
   have hg:=(lB.new hu)
   refine dG.mk ⟨w2.heap.size,g,some ⟨w1.heap.size,0,none⟩,rfl,aQ.new _ _ _,hN.aN ((ab.refl [] w2).alloc _),Gs vC ((((aQ.new w1 _ _).drew).aq hu (by simp)).alloc _),fun k hk=>?_,((U1.trans eC).alloc _).gives (by simp)⟩
   simp only[ak,mem_append,mem_cons,not_mem_nil,or_false]at hk
   have:=hg g (by simp[er])
   omega
 case rest=>
  obtain⟨gw,gn,Ad,rfl,hB,hN,hO,hF,U2⟩:=hcut.out
  clear hcut
  have HF:=aA (show ∀k∈ak Ad++[gw,gn],w.heap.size≤k from fun k hk=>by have:=hF k hk;have:=U1.size;omega)
  obtain⟨wo,qO⟩:∃x,wc=x:=⟨_,rfl⟩
  rw[qO]at hB hN hO U2 ⊢
  clear qO hF U1
  repeat' first|go_values|go_skip|go_guarded|go_step|go_upon|simp only[];go_at_K
  go_loopw [27] (fun v27 wr=>dG (∃(ss:List ae)(As:Option Addr)(cs:Nat),ss.length≤n∧v27=.int .i64 (ss.length:Int)∧aQ wr gw 175 #[.slice As ss.length cs,.pointer (some ⟨gn,0,none⟩),.slice Ad n n]∧
   aL.Own 24 1 wr As ss.length cs (ss.map ae.ptr)∧(∀M∈ss,@aJ ⟨[]⟩ wr M∧M.bytes= []∧∀k∈M.fp,w.heap.size≤k)∧(ss.Pairwise fun p q=>∀k∈p.fp,k∉q.fp)∧ss.map ae.pl=(List.range ss.length).map (fun j=>Site.new j n pat)∧
   (∀k∈ak As,w.heap.size≤k)∧fz wr gn none 0 0 []∧aL.Own 72 1 wr Ad n n (replicate n (.slice none 0 0))∧ab [] [] w wr)) (fun v27 _=>n-(intOf v27).toNat)
  case atStart=>exact dG.mk ⟨[],none,0,by simp,rfl,hB,aL.Own.nil _ _ _,by simp,.nil,rfl,by simp[ak],hN,hO,U2⟩
  case round=>
   obtain⟨ss,As,cs,hle,rfl,hb,hr,Gu,Tj,hpl,Cx,hn,hd,U⟩:=hrel.out
   clear hrel hB hN hO U2
   obtain⟨i,hi⟩:=bk ss.length
   have HI:=aA hi
   rw[hi]at hle hb hr ⊢
   clear hi
   by_cases hlt:i<n
   ·have dK:(i:Int)<(n:Int):=by omega
    have dC:=aL.wr ((i:Int)+1)
    have C:=@Ja ⟨[]⟩ wr i n pat (HOK.out i hlt) (by simp)
    repeat' first|go_values|go_skip|go_guarded|go_step|go_upon|simp only[];go_at_K
    refine C.mono ?_;rintro e w5 ⟨M,rfl,hM,lX,hu⟩
    have lB:ab [] [] wr w5:=hu.gives (by simp)
    have hMf:=U.new hu
    have Ii:=(ab.refl [] wr).new hu
    have Tl:=hb.aq lB (by simp)
    have uP:=hr.aq lB (by simp)
    have Jo:=hn.aN lB
    have Y4:=hd.aq lB (by simp)
    have Y5:∀N∈ss++[M],@aJ ⟨[]⟩ w5 N∧N.bytes= []∧∀k∈N.fp,w.heap.size≤k:=fun N hN=>by
     rcases mem_append.1 hN with hN|hN
     ·obtain⟨k1,k2,k3⟩:=Gu N hN
      exact⟨@aJ.aN ⟨[]⟩ _ _ _ _ k1 lB,k2,k3⟩
     ·rw[mem_singleton]at hN;subst hN
      exact⟨hM,ae.OH lX,hMf⟩
    have Y6:(ss++[M]).Pairwise fun p q=>∀k∈p.fp,k∉q.fp:=pairwise_append.2 ⟨Tj,pairwise_singleton _ _,fun p hp q hq k hk hm=>by
     rw[mem_singleton]at hq;subst hq
     have h1:=@aJ.lt ⟨[]⟩ _ _ (Gu p hp).1 k hk
     have h2:=Ii k hm
     omega⟩
    have Y7:(ss++[M]).map ae.pl=(List.range (i+1)).map (fun j=>Site.new j n pat):=by
     rw[map_append,hpl,range_succ,map_append,HI.out]
     simp[lX]
    have U5:=U.trans lB
    have q0:w5.cell? ⟨gw,0,none⟩=some (.slice As i cs):=Tl.cell 0
    have HPL:=aA Y7
    clear C hb hr hn hd Gu Tj hpl U hu lB hM lX hMf Ii Y7
    simp only[ae.ptr]
    repeat' (fail_if_success with_reducible refine ba rfl ?_);first|go_values|go_skip|go_guarded|go_step|go_upon|simp only[];go_at_K
    refine gV rfl _ _ 172 rfl 24 underlying172 Y2 rfl (by decide) uP rfl w5.heap.size rfl rfl (news:=[.pointer (some ⟨M.gs,0,none⟩)]) rfl rfl (by unfold maxLen;omega) (by omega) ?_
    intro A6 c6 w6 oe dN
    have t1:∀{k:Nat}{t:Option TypeId},cl w5 k=some t→t≠some 24→k∉ak As:=fun h1 h2 hm=>bx h1 (uP.tag _ hm) h2 rfl
    have Cj:gw∉ak As:=t1 Tl.tag (by decide)
    have OI:=Tl.aq dN Cj
    have q6:w6.cell? ⟨gw,0,none⟩=some (.slice As i cs):=OI.cell 0
    have f6:w6.frozen? ⟨gw,0,none⟩=false:=OI.frozen 0
    have hb7:=OI.cc 0 (.slice A6 (i+1) c6)
    have iT:ab [gw] [gw] w6 (w6.setCell ⟨gw,0,none⟩ (.slice A6 (i+1) c6)):=(ab.refl [gw] w6).setCell (p:=⟨gw,0,none⟩) (.inl (by simp)) _
    have U6:ab [] [] w w6:=U5.mG Cx dN
    have U7:ab [] [] w (w6.setCell ⟨gw,0,none⟩ (.slice A6 (i+1) c6)):=U6.mG (X:=[gw]) (by simp only[mem_singleton];rintro x rfl;exact HF.out x (by simp)) iT
    have t2:∀{k:Nat}{t:Option TypeId},cl w6 k=some t→t≠some 175→k∉[gw]:=fun h1 h2 hm=>by rw[mem_singleton]at hm;subst hm;exact bx h1 OI.tag h2 rfl
    have uT:∀k∈ak A6,w.heap.size≤k:=fun k hk=>by
     rcases dN.fresh k hk with hh|hh
     ·exact Cx k hh
     ·have:=U5.size;omega
    have bN:=aA (show dG (∃(ss:List ae)(As:Option Addr)(cs:Nat),ss.length≤n∧Value.int .i64 ((i:Int)+1)=.int .i64 (ss.length:Int)∧aQ (w6.setCell ⟨gw,0,none⟩ (.slice A6 (i+1) c6)) gw 175 #[.slice As ss.length cs,.pointer (some ⟨gn,0,none⟩),.slice Ad n n]∧
     aL.Own 24 1 (w6.setCell ⟨gw,0,none⟩ (.slice A6 (i+1) c6)) As ss.length cs (ss.map ae.ptr)∧(∀M∈ss,@aJ ⟨[]⟩ (w6.setCell ⟨gw,0,none⟩ (.slice A6 (i+1) c6)) M∧M.bytes= []∧∀k∈M.fp,w.heap.size≤k)∧(ss.Pairwise fun p q=>∀k∈p.fp,k∉q.fp)∧ss.map ae.pl=(List.range ss.length).map (fun j=>Site.new j n pat)∧
     (∀k∈ak As,w.heap.size≤k)∧fz (w6.setCell ⟨gw,0,none⟩ (.slice A6 (i+1) c6)) gn none 0 0 []∧aL.Own 72 1 (w6.setCell ⟨gw,0,none⟩ (.slice A6 (i+1) c6)) Ad n n (replicate n (.slice none 0 0))∧ab [] [] w (w6.setCell ⟨gw,0,none⟩ (.slice A6 (i+1) c6)))from by
     have IM:(ss++[M]).length=i+1:=by rw[length_append,HI.out];rfl
     have e1:=Jo.aq dN (fun k hk=>by
      simp only[er,ak,flatMap_nil,append_nil,mem_singleton]at hk
      subst hk
      exact t1 Jo.aO.tag (by decide))
     have e2:=Y4.aq dN (fun k hk=>t1 (Y4.tag k hk) (by decide))
     refine dG.mk ⟨ss++[M],A6,c6,by omega,by rw[IM];rfl,by rw[IM];simpa using hb7,?_,fun N hN=>?_,Y6,by rw[IM];exact HPL.out,uT,e1.aq iT (fun k hk=>?_),e2.aq iT (fun k hk=>t2 (e2.tag k hk) (by decide)),U7⟩
     ·rw[IM,map_append]
      exact oe.aq iT (fun k hk=>t2 (oe.tag k hk) (by decide))
     ·obtain⟨k1,k2,k3⟩:=Y5 N hN
      have s1: @aJ ⟨[]⟩ w6 N:=@aJ.aq ⟨[]⟩ _ _ _ _ _ k1 dN (fun k hk=>by
       obtain⟨t,ht,h2⟩:=@aJ.Am ⟨[]⟩ _ _ k1 k hk
       exact t1 h2 (by rintro rfl;exact absurd ht (by decide))) (by rw[k2];simp)
      exact⟨@aJ.aq ⟨[]⟩ _ _ _ _ _ s1 iT (fun k hk=>by
       obtain⟨t,ht,h2⟩:=@aJ.Am ⟨[]⟩ _ _ s1 k hk
       exact t2 h2 (by rintro rfl;exact absurd ht (by decide))) (by rw[k2];simp),k2,k3⟩
     ·simp only[er,ak,flatMap_nil,append_nil,mem_singleton]at hk
      subst hk
      exact t2 e1.aO.tag (by decide))
    clear Tl uP Jo Y4 Y5 Y6 U5 t1 Cj OI hb7 iT U6 U7 t2 uT oe dN q0
    repeat' first|go_values|go_skip|go_guarded|go_step|go_upon|simp only[];go_at_K
    exact⟨bN.out,by simp[intOf];omega⟩
   ·obtain rfl:i=n:=by omega
    have dK:¬ ((i:Int)<(i:Int)):=by omega
    have bN:=aA (show ∃V:WV,V.gw=gw∧WS wr V∧V.pl=Wd.new i pat∧(∀k∈V.fp,w.heap.size≤k)∧ab [] V.fp w wr from by
     have eP:∀k∈(⟨gw,As,cs,ss,gn,none,0,0,[],[],Ad,i,replicate i ⟨none,0,[]⟩⟩:WV).fp,w.heap.size≤k:=fun k hk=>by
      simp only[WV.fp,er,ak,mem_append,mem_cons,not_mem_nil,flatMap_nil,append_nil,or_false,mem_flatMap]at hk
      rcases hk with hk|rfl|⟨M,hM,hk⟩|⟨d,hd,hk⟩
      ·exact HF.out k (mem_append.2 (.inl hk))
      ·exact HF.out _ (by simp)
      ·exact(Gu M hM).2.2 k hk
      ·rw[(mem_replicate.1 hd).2]at hk;cases hk
     refine⟨_,rfl,WS.new hb hr hn hd (fun M hM=>⟨(Gu M hM).1,(Gu M hM).2.1⟩) Tj HI.out,?_,eP,U.gives fun k hk=>.inr (eP k hk)⟩
     unfold WV.pl Wd.new
     rw[hpl,HI.out]
     simp)
    clear hb hr hn hd Gu Tj hpl U
    repeat' first|go_values|go_skip|go_guarded|go_step|go_upon|simp only[];go_at_K
    go_ret2
    obtain⟨V,e,k1,k2,k3,k4⟩:=bN.out
    exact⟨V,by rw[WV.ptr,e];rfl,k1,k2,k3,k4⟩
