/- For WorldCalm. -/
import Derived.Test.YtijhlbeipglieaaGreatPkWrldL
import Derived.Test.YtijhlbeipglieaaGreatPkRefB
import Derived.Test.YtijhlbeipglieaaGreatPkCalmI
set_option linter.all false
set_option maxRecDepth 100000
set_option maxHeartbeats 16000000
namespace Go.Proofs.YtijhlbeipglieaaGreat
open Go.RowKit aL Go.Maps List
theorem jm.turn{w w':World}{A:Option Addr}{c:Nat}{l:List bO}{a b:List Nat}(h:jm w A c l)(hu:ab a b w w')(h1:∀k∈ak A,k∉a)(h2:∀x∈l,∀k∈ak x.A,k∉a):jm w' A c l:=
 ⟨h.own.aq hu h1,fun x hx=>(h.each x hx).aq hu (h2 x hx)⟩
namespace OrS
variable {w wr w':World} {V V':WV} {k i:Nat} {A A':Option Addr} {c c':Nat} {all l:List bO}
end OrS
theorem WV.seen(V:WV){s:Nat}{t:Site}(hs:V.pl.ss[s]? =some t):((V.at_ (s:Int)).map fun M=>M.pl.front).getD 0=t.front∧((V.at_ (s:Int)).map fun M=>M.pl.bF).getD 0=t.bF∧((V.at_ (s:Int)).map fun M=>M.pl.down).getD true=t.down:=by
 rw[V.oR]at hs
 obtain⟨M,hM,rfl⟩:=Option.map_eq_some_iff.1 hs
 rw[WV.mu,hM]
 exact⟨rfl,rfl,rfl⟩
structure To(w wr:World)(V V':WV)(i:Nat):Prop where
 ws:WS wr V'
 GH:Wd.qx V.pl V'.pl
 gw:V'.gw=V.gw
 up:ab V.fp V'.fp w wr
 IB:∀j,j<i→V.pl.tD (V.pl.nt V.pl.ss.length) j=true
theorem To.aep{w wr:World}{V V':WV}{i:Nat}(h:To w wr V V' i)(hD:da V.pl):da V'.pl:=h.GH.ind (I:=da) (fun _ i h=>h.take i) hD
theorem LD(w:World)(V:WV)(h:WS w V)(hD:da V.pl)(k:Nat)(hk:V.pl.ss.length=k)(h0:0<k)(h7:k≤7) :
  Calls Tryz.prog 45 #[V.ptr,.int .i64 (k:Int)] w fun e w'=>∃V':WV,e=.returned (.bool V.pl.level)∧WS w' V'∧Wd.qx V.pl V'.pl∧V'.gw=V.gw∧ab V.fp V'.fp w w':=by
 obtain⟨tp,xJ⟩:=bk (V.pl.nt k)
 obtain⟨R,hR⟩:=bk V.pl.level
 have HR:=aA hR
 have Si:=aA xJ
 have HK:=aA hk
 rw[hR]
 clear hR xJ hk
 have CT:∀(i:Nat)(wr:World)(_h:WS wr V),Calls Tryz.prog 55 #[V.ptr,.int .i64 (i:Int)] wr fun e w'=>e=.returned (.int .i64 (((V.at_ (i:Int)).map fun M=>M.pl.bF).getD 0))∧ab [] [] wr w':=fun i wr h=>
  @Ri ⟨[]⟩ _ _ _ _ (lR wr V h (i:Int)) (fun M hM=>h.sites M (by rw[WV.mu]at hM;exact mem_of_getElem? hM))
 rw[WV.ptr]at CT ⊢
 go_enter Tryz.func45,Tryz.ntmps45
 repeat' first|go_values|go_skip|go_guarded|go_step|go_upon|simp only[];go_at_K
 go_loopw [5,6] (fun v5 v6 wr=>dG (∃i:Nat,i≤k∧v6=.int .i64 (i:Int)∧v5=.int .i64 (V.pl.nt i)∧WS wr V∧ab [] [] w wr)) (fun _ v6 _=>k-(intOf v6).toNat)
 case atStart=>exact dG.mk ⟨0,by omega,rfl,rfl,h,ab.refl _ _⟩
 case round=>
  obtain⟨i,hi,rfl,rfl,hw,U⟩:=hrel.out
  clear hrel h
  by_cases hlt:i<k
  ·have dK:(i:Int)<(k:Int):=by omega
   have dC:=aL.wr ((i:Int)+1)
   have C:=CT i wr hw
   obtain⟨s,hs⟩:∃s,V.pl.ss[i]? =some s:=⟨_,List.getElem?_eq_getElem (by rw[HK.out];exact hlt)⟩
   rw[(V.seen hs).2.1]at C
   have e1:V.pl.nt (i+1)=max (V.pl.nt i) s.bF:=by rw[Wd.nt,hs]
   have HE:=aA e1
   obtain⟨a,ha⟩:=bk s.bF
   obtain⟨b,hb⟩:=bk (V.pl.nt i)
   rw[ha,hb]at HE
   rw[ha]at C
   rw[hb]
   have KW:=aA (show WS wr V∧ab [] [] w wr from⟨hw,U⟩)
   clear CT hw U hs ha hb e1
   repeat' first|go_values|go_skip|go_guarded|go_step|go_upon|simp only[];go_at_K
   refine C.mono ?_;rintro e w2 ⟨rfl,u2⟩
   have K2:=aA (show WS w2 V∧ab [] [] w w2 from⟨KW.out.1.aN u2,KW.out.2.trans u2⟩)
   clear C KW u2
   repeat' first|go_values|go_skip|go_guarded|go_step|go_upon|simp only[];go_at_K
   exact⟨dG.mk ⟨i+1,by omega,by simp,by rw[HE.out],K2.out.1,K2.out.2⟩,by simp[intOf];omega⟩
  ·obtain rfl:i=k:=by omega
   have dK:¬ ((i:Int)<(i:Int)):=by omega
   have U':ab V.fp V.fp w wr:=(U.up V.fp)
   have KW:=aA (show To w wr V V 0 from⟨hw,.refl _,rfl,U',fun j hj=>by omega⟩)
   rw[Si.out]
   clear CT hw U U'
   repeat' first|go_values|go_skip|go_guarded|go_step|go_upon|simp only[];go_at_K
   go_loopw [7] (fun v7 wr=>dG (∃(j:Nat)(V':WV),j≤i∧v7=.int .i64 (j:Int)∧To w wr V V' j)) (fun v7 _=>i-(intOf v7).toNat)
   case atStart=>exact dG.mk ⟨0,V,by omega,rfl,KW.out⟩
   case round=>
    obtain⟨j,V1,hj,rfl,hS⟩:=hrel.out
    clear hrel KW
    by_cases hlt:j<i
    case neg=>
     obtain rfl:j=i:=by omega
     have dK:¬ ((j:Int)<(j:Int)):=by omega
     have hRt:R=true:=by
      rw[←HR.out]
      unfold Wd.level
      rw[all_eq_true]
      exact fun x hx=>hS.IB x (by have:=mem_range.1 hx;rw[HK.out]at this;exact this)
     subst hRt
     have bN:=aA hS
     clear hS
     repeat' first|go_values|go_skip|go_guarded|go_step|go_upon|simp only[];go_at_K
     go_ret
     exact⟨V1,rfl,bN.out.ws,bN.out.GH,bN.out.gw,bN.out.up⟩
    have dK:(j:Int)<(i:Int):=by omega
    have dC:=aL.wr ((j:Int)+1)
    obtain⟨s,hs⟩:∃s,V.pl.ss[j]? =some s:=⟨_,List.getElem?_eq_getElem (by rw[HK.out];exact hlt)⟩
    obtain⟨o,ho⟩:∃o,V.pl.ss[0]? =some o:=⟨_,List.getElem?_eq_getElem (by rw[HK.out];exact h0)⟩
    have hat:V.pl.tD (V.pl.nt V.pl.ss.length) j=(decide (tp≤(s.front:Int)) && !s.down&&decide (s.kg=o.kg)):=by
     unfold Wd.tD
     rw[hs,ho,HK.out,Si.out]
    have hno:V.pl.tD (V.pl.nt V.pl.ss.length) j=false→R=false:=fun hf=>by
     rw[←HR.out]
     unfold Wd.level
     rw[Bool.eq_false_iff]
     intro hc
     rw[all_eq_true]at hc
     have:=hc j (mem_range.2 (by rw[HK.out];exact hlt))
     rw[hf]at this;cases this
    obtain⟨s1,hs1,-,q2,q3,q4⟩:=hS.GH.look.2 j s hs
    obtain⟨p1,-,p3⟩:=V1.seen hs1
    have MW:s.kg.length≤4096:=by
     have h1:s1.front≤4096:=by
      have hs1:=hs1
      rw[V1.oR]at hs1
      obtain⟨M,hM,rfl⟩:=Option.map_eq_some_iff.1 hs1
      exact M.Gp (@aJ.iH ⟨[]⟩ _ _ (hS.ws.sites _ (mem_of_getElem? hM))).t
     have:=CI s.val s.front
     unfold Site.kg
     omega
    have CF:=@uX ⟨[]⟩ _ _ _ _ (lR wr V1 hS.ws (j:Int)) (fun M hM=>hS.ws.sites M (by rw[WV.mu]at hM;exact mem_of_getElem? hM))
    have CD:=@OR ⟨[]⟩ _ _ _ _ (lR wr V1 hS.ws (j:Int)) (fun M hM=>hS.ws.sites M (by rw[WV.mu]at hM;exact mem_of_getElem? hM))
    rw[p1,q2,WV.ptr,hS.gw]at CF
    rw[p3,q3,WV.ptr,hS.gw]at CD
    obtain⟨f,hf⟩:=bk s.front
    rw[hf]at CF hat
    have Zt:=aA hat
    have xO:=aA hno
    have HS:=aA hS
    have Jb:=aA hs1
    have HQ:=aA q4
    have HO:=aA ho
    have HF4:=aA MW
    clear MW hf hat hno hs ho hs1 q2 q3 q4 p1 p3
    by_cases g1:(f:Int)<tp
    ·have OV:R=false:=xO.out (by rw[Zt.out,iO];rfl)
     subst OV
     have bN:=aA HS.out
     clear HS hS CD
     repeat' first|go_values|go_skip|go_guarded|go_step|go_upon|simp only[];go_at_K
     refine CF.mono ?_;rintro e w2 ⟨rfl,rfl⟩
     clear CF
     repeat' first|go_values|go_skip|go_guarded|go_step|go_upon|simp only[];go_at_K
     go_ret
     exact⟨V1,rfl,bN.out.ws,bN.out.GH,bN.out.gw,bN.out.up⟩
    cases lT:s.down with
    |true=>
     have OV:R=false:=xO.out (by rw[Zt.out,lT];simp)
     subst OV
     rw[lT]at CD
     have bN:=aA HS.out
     clear HS hS lT
     repeat' first|go_values|go_skip|go_guarded|go_step|go_upon|simp only[];go_at_K
     refine CF.mono ?_;rintro e w2 ⟨rfl,rfl⟩
     clear CF
     repeat' first|go_values|go_skip|go_guarded|go_step|go_upon|simp only[];go_at_K
     refine CD.mono ?_;rintro e w2 ⟨rfl,rfl⟩
     clear CD
     repeat' first|go_values|go_skip|go_guarded|go_step|go_upon|simp only[];go_at_K
     go_ret
     exact⟨V1,rfl,bN.out.ws,bN.out.GH,bN.out.gw,bN.out.up⟩
    |false=>
     rw[lT]at CD
     have IH:=aA lT
     clear lT
     have fD:=hS.aep hD
     have fR:V1.pl.ss.length=i:=hS.GH.look.1.trans HK.out
     have C1:=uy wr V1 hS.ws fD j (by rw[fR];exact hlt)
     have hj1:=fD.sv Jb.out
     rw[hj1,HQ.out,WV.ptr,hS.gw]at C1
     clear hS hj1 fR
     repeat' first|go_values|go_skip|go_guarded|go_step|go_upon|simp only[];go_at_K
     refine CF.mono ?_;rintro e w2 ⟨rfl,rfl⟩
     clear CF
     repeat' first|go_values|go_skip|go_guarded|go_step|go_upon|simp only[];go_at_K
     refine CD.mono ?_;rintro e w2 ⟨rfl,rfl⟩
     clear CD
     repeat' first|go_values|go_skip|go_guarded|go_step|go_upon|simp only[];go_at_K
     refine C1.mono ?_;rintro e w3 ⟨A3,c3,l3,V3,rfl,uR,iD,hA3,hx3,h3,fO,hg3,u3⟩
     clear C1
     have Zu:da V3.pl:=by rw[fO];exact fD.take j
     have t3:Wd.qx V.pl V3.pl:=by rw[fO];exact .take j HS.out.GH
     obtain⟨o3,J7,-,-,-,r4⟩:=t3.look.2 0 o HO.out
     have C2:=uy w3 V3 h3 Zu 0 (by rw[t3.look.1,HK.out];exact h0)
     rw[Zu.sv J7,r4,WV.ptr,hg3,show((0:Nat):Int)=0 from rfl]at C2
     have HO3:=aA iD
     have HF3:=aA (show(∀q∈ak A3,q∉V3.fp)∧∀x∈l3,∀q∈ak x.A,q∉V3.fp from⟨fun q hq=>(hA3 q hq).2,fun x hx q hq=>(hx3 x hx q hq).2⟩)
     have HL3:=aA uR
     have HU3:=aA u3
     have HT3:=aA t3
     have I2:=aA hg3
     clear iD hA3 hx3 uR u3 fO Zu t3 J7 r4 h3 hg3 fD
     repeat' first|go_values|go_skip|go_guarded|go_step|go_upon|simp only[];go_at_K
     refine C2.mono ?_;rintro e w4 ⟨A4,c4,l4,V4,rfl,hl4,dW,-,-,h4,jj,hg4,u4⟩
     clear C2
     have iD:jm w4 A3 c3 l3:=HO3.out.turn u4 HF3.out.1 HF3.out.2
     have b3:l3.length≤1099511627776:=by
      have h1:=congrArg length HL3.out
      rw[length_map]at h1
      have:=HF4.out
      omega
     have CS:=N6 w4 A3 A4 c3 c4 l3 l4 iD.Ip dW.Ip b3
     rw[HL3.out,hl4]at CS
     obtain⟨B,hB⟩:=bk ((s.kg==o.kg))
     rw[hB]at CS
     have HB:=aA hB
     have K4:=aA (show WS w4 V4∧Wd.qx V.pl V4.pl∧V4.gw=V.gw∧ab V.fp V4.fp w w4 from⟨h4,by rw[jj];exact .take 0 HT3.out,hg4,(HS.out.up.trans HU3.out).trans u4⟩)
     clear iD dW b3 hl4 hB h4 jj hg4 u4
     repeat' first|go_values|go_skip|go_guarded|go_step|go_upon|simp only[];go_at_K
     refine CS.mono ?_;rintro e w5 ⟨rfl,u5⟩
     obtain⟨k1,k2,k3,k4⟩:=K4.out
     have K5:=aA (show WS w5 V4∧Wd.qx V.pl V4.pl∧V4.gw=V.gw∧ab V.fp V4.fp w w5 from⟨k1.aN u5,k2,k3,k4.trans (u5.up V4.fp)⟩)
     have Zv:V.pl.tD (V.pl.nt V.pl.ss.length) j=B:=by
      rw[Zt.out,dJ (show tp≤(f:Int) by omega),IH.out,←HB.out]
      simp only[Bool.not_false,Bool.true_and]
      by_cases e:s.kg=o.kg
      ·rw[dJ e,e];exact(beq_self_eq_true _).symm
      ·rw[eE e];exact(beq_eq_false_iff_ne.2 e).symm
     clear CS K4 u5 k1 k2 k3 k4
     cases B with
     |true=>
      repeat' first|go_values|go_skip|go_guarded|go_step|go_upon|simp only[];go_at_K
      obtain⟨k1,k2,k3,k4⟩:=K5.out
      exact⟨dG.mk ⟨j+1,V4,by omega,by simp,k1,k2,k3,k4,fun x hx=>by
       by_cases e:x=j
       ·rw[e];exact Zv
       ·exact HS.out.IB x (by omega)⟩,by simp[intOf];omega⟩
     |false=>
      have OV:R=false:=xO.out Zv
      subst OV
      repeat' first|go_values|go_skip|go_guarded|go_step|go_upon|simp only[];go_at_K
      obtain⟨k1,k2,k3,k4⟩:=K5.out
      go_ret
      exact⟨V4,rfl,k1,k2,k3,k4⟩
def LF(_:Int)(v:List UInt8):Prop:=v.length≤3
structure iV(w wr:World)(V:WV)(k c:Nat)(I:Wd→Prop):Prop where
 ws:WS wr V
 inv:∃G,bR V.pl k LF c G
 CM:da V.pl
 is:I V.pl
 up:ab [] V.fp w wr
namespace iV
variable {w wr w':World} {V V':WV} {k c c':Nat} {I I':Wd→Prop}
theorem aN(h:iV w wr V k c I){b:List Nat}(hu:ab [] b wr w'):iV w w' V k c I:=
 ⟨h.ws.aN hu,h.inv,h.CM,h.is,h.up.trans (hu.up V.fp)⟩
theorem len(h:iV w wr V k c I):V.pl.ss.length=k:=by
 obtain⟨G,h1⟩:=h.inv
 exact h1.len
theorem turn(h:iV w wr V k c I)(hw:WS w' V')(hu:ab V.fp V'.fp wr w')(hi:∃G,bR V'.pl k LF c' G)(hd:da V'.pl)(hI:I' V'.pl):iV w w' V' k c' I':=
 ⟨hw,hi,hd,hI,h.up.trans hu⟩
theorem wlv(h:iV w wr V k c I){y:Nat}(hy:y≤c):Aj V.pl y:=by
 obtain⟨G,h1⟩:=h.inv
 intro a s hs
 exact(h1.lv a s hs).less hy
theorem less(h:iV w wr V k c I)(hc:c'≤c):iV w wr V k c' I:=by
 obtain⟨G,h1⟩:=h.inv
 exact⟨h.ws,⟨G,h1.less hc⟩,h.CM,h.is,h.up⟩
theorem imp(h:iV w wr V k c I)(hI:I V.pl→I' V.pl):iV w wr V k c I':=⟨h.ws,h.inv,h.CM,hI h.is,h.up⟩
theorem Zx(h:iV w wr V k (300+c) I)(hc:c≤400000000)(hw:WS w' V')(hu:ab V.fp V'.fp wr w'){kk ss aa nn:Int}{v:List UInt8}(hv:kk=1→v.length≤3)(hp:V'.pl=(V.pl.fC kk ss aa nn v).1)(hI:I' V'.pl):iV w w' V' k c I':=by
 obtain⟨G,h1⟩:=h.inv
 obtain⟨G',-,h3⟩:=h1.fC (P':=LF) hc kk ss aa nn v (fun _ _ h=>h) (fun e _=>hv e)
 exact h.turn hw hu ⟨G',by rw[hp];exact h3⟩ (by rw[hp];exact h.CM.fC kk ss aa nn v) hI
theorem looked(h:iV w wr V k c I)(hw:WS w' V')(hu:ab V.fp V'.fp wr w')(ht:Wd.qx V.pl V'.pl)(hI:∀w i,I w→I (w.take i)):iV w w' V' k c I:=by
 obtain⟨G,h1⟩:=h.inv
 exact h.turn hw hu ⟨G,ht.ind (I:=fun w=>bR w k LF c G) (fun _ i h=>h.take i) h1⟩ (ht.ind (I:=da) (fun _ i h=>h.take i) h.CM) (ht.ind hI h.is)
end iV
theorem Zy{w wr w':World}{V V':WV}{k p E i c:Nat}(h:iV w wr V k (300+c) (Sc k (k*p) E (440*(p+E)) (2000*(p+E))))(hc:c≤400000000)(h40:p+E<40)(gO:p≤6)(hw:WS w' V')(hu:ab V.fp V'.fp wr w'){kk ss aa nn:Int}{b:List UInt8}(h6:kk=1→p<6)(hp:V'.pl=(V.pl.fC kk ss aa nn (lZ kk i b)).1):((V.pl.fC kk ss aa nn (lZ kk i b)).2.2=0∧kk=1→iV w w' V' k c (Sc k (k*(p+1)) E (440*(p+1+E)) (2000*(p+1+E))))∧
   (¬ ((V.pl.fC kk ss aa nn (lZ kk i b)).2.2=0∧kk=1)→iV w w' V' k c (Sc k (k*p) (E+1) (440*(p+(E+1))) (2000*(p+(E+1))))):=by
 have hv:kk=1→(lZ kk i b).length≤3:=fun e=>by unfold lZ;rw[if_pos e];exact Nat.le_refl 3
 obtain⟨G,hI⟩:=h.inv
 obtain⟨q1,q2⟩:=h.is.fC hI (fun _ _ h=>h) (by omega) (by omega) kk ss aa nn hv fun e=>by
  have h1:=h6 e
  have h2:=Nat.mul_le_mul_left k (show p+1≤6 by omega)
  rw[Nat.mul_succ]at h2
  omega
 refine⟨fun e=>h.Zx hc hw hu hv hp ?_,fun e=>h.Zx hc hw hu hv hp ?_⟩
 ·rw[hp,Nat.mul_succ]
  exact(q1 e).more (by omega) (by omega)
 ·rw[hp]
  exact(q2 e).more (by omega) (by omega)
theorem Ut{w wr w':World}{V V':WV}{k T E A B s c:Nat}(h:iV w wr V k (300+c) (fun w=>Sc k T E A B w∧∀(i:Nat) t,i<s→w.ss[i]? =some t→t.down=false))(hc:c≤400000000)(hs:s<k)(hw:WS w' V')(hu:ab V.fp V'.fp wr w')(hp:V'.pl=(V.pl.fC 8 s 0 0 []).1):iV w w' V' k c (fun w=>Sc k T E (A+36) (B+96) w∧∀(i:Nat) t,i<s+1→w.ss[i]? =some t→t.down=false):=by
 refine h.Zx hc hw hu (v:=[]) (fun e=>by cases e) hp ?_
 obtain⟨G,hI⟩:=h.inv
 obtain⟨q1,q2⟩:=h.is
 have e:(V.pl.fC 8 s 0 0 []).1=V.pl.bC s:=by
  unfold Wd.fC Wd.fc Wd.place
  rw[if_neg (by decide),if_neg (by decide),if_neg (by decide),if_neg (by decide),if_neg (by decide),if_neg (by decide),if_neg (by decide),if_pos rfl,if_pos (by rw[h.len];omega)]
  dsimp only
  rw[show(s:Int).toNat=s by omega]
 rw[hp,e]
 obtain⟨r1,r2⟩:=q1.bC hI (fun _ _ h=>h) s
 refine⟨r1,fun i t hi ht=>?_⟩
 by_cases c:i=s
 ·subst c;exact r2 t ht
 ·refine q2 i t (by omega) ?_
  unfold Wd.bC at ht
  cases hs:V.pl.ss[s]? with
  |none=>rw[hs]at ht;exact ht
  |some u=>
   rw[hs]at ht
   have ht:(V.pl.ss.set s u.bC)[i]? =some t:=ht
   rwa [List.getElem?_set_ne (fun e=>c e.symm)]at ht
theorem De(w:World)(b:Nat)(hb:b<256)(B:Option Addr)(m d:Nat)(l:List Ev)(hl:jq Ev.cells 5 w B m l)(he:∀x∈l,Ev.Gv w x) :
  Calls Tryz.prog 9 #[.int .u8 (b:Int),.slice B m d] w fun e w'=>e=.returned (.bool true)∧ab [] [] w w':=by
 have C1:=Ln w
 have C2:=fun w=>Lp w b hb
 have X7:=hl.len
 subst X7
 go_enter Tryz.func9,Tryz.ntmps9
 repeat' first|go_values|go_skip|go_guarded|go_step|go_upon|simp only[];go_at_K
 refine C1.mono ?_;rintro e w1 ⟨rfl,u1⟩
 repeat' first|go_values|go_skip|go_guarded|go_step|go_upon|simp only[];go_at_K
 refine(C2 w1).mono ?_;rintro e w2 ⟨V,rfl,h2,gS,hf2,u2⟩
 clear C1 C2
 simp only[WV.ptr]
 repeat' first|go_values|go_skip|go_guarded|go_step|go_upon|simp only[];go_at_K
 obtain⟨k,hk⟩:=bk (mH b)
 have Zz:k≤7:=by rw[←hk];unfold mH;omega
 have hk3:3≤k:=by rw[←hk];unfold mH;omega
 have UU:ab [] V.fp w w2:=(u1.gives (b':=V.fp) (fun k hk=>.inr (by have:=hf2 k hk;have:=u1.size;omega))).trans (u2.mono (by simp) (fun k hk=>.inl hk))
 have Tp:=aA (show iV w w2 V k (390002100+300*(40-0)) (Sc k (k*0) 0 (440*(0+0)) (2000*(0+0)))from by
  refine⟨h2,?_,by rw[gS];exact da.new _ _,?_,UU⟩
  ·have:=OL b
   rw[hk]at this
   rw[gS,hk]
   exact⟨_,(bR.new this _).less (by omega)⟩
  ·rw[gS,hk]
   exact Sc.new hk3 Zz)
 rw[hk]
 clear hk gS hf2 u1 u2 h2 UU
 go_loopw [8,9,10] (fun v8 v9 v10 wr=>dG (∃(i p E:Nat)(V':WV),i≤l.length∧i≤40∧p≤6∧p+E≤i∧v8=.int .i64 (p:Int)∧v9=.int .i64 ((p+E:Nat):Int)∧v10=.int .i64 (i:Int)∧V'.gw=V.gw∧iV w wr V' k (390002100+300*(40-i)) (Sc k (k*p) E (440*(p+E)) (2000*(p+E))))) (fun _ _ v10 _=>40-(intOf v10).toNat)
 case atStart=>exact dG.mk ⟨0,0,0,V,by omega,by omega,by omega,by omega,rfl,rfl,rfl,rfl,Tp.out⟩
 case round=>
  obtain⟨i,p,E,V1,him,ahX,gO,VG,rfl,rfl,rfl,hg,hS⟩:=hrel.out
  clear hrel Tp
  have UF:ab [] [] w wr:=hS.up.gives (by simp)
  obtain⟨D,hD⟩:=bk ((decide (i<l.length)&&decide (i<40)))
  have Al:=aA hD
  obtain⟨ev,Tr⟩:=bk (p+E)
  have Ax:=aA Tr
  rw[Tr]
  rw[Tr]at VG
  clear hD Tr
  go_upto_region 8 with fail
  go_cut [36]from 29 to 63 (fun YE wc=>YE=.bool D∧wr=wc)
  case first=>
   by_cases h1:i<l.length
   ·have xq:decide (i<l.length)=true:=dJ h1
    have XL:(i:Int)<(l.length:Int):=by omega
    by_cases h2:i<40
    ·have lF:decide ((i:Int)<40)=true:=oT
     clear hS
     repeat' first|go_values|go_skip|go_guarded|go_step|go_upon|simp only[];go_at_K
     go_meet
     exact⟨by rw[←Al.out,xq,dJ h2];rfl,rfl⟩
    ·have lF:decide ((i:Int)<40)=false:=iO
     clear hS
     repeat' first|go_values|go_skip|go_guarded|go_step|go_upon|simp only[];go_at_K
     go_meet
     exact⟨by rw[←Al.out,eE h2,Bool.and_false],rfl⟩
   ·have xq:decide (i<l.length)=false:=eE h1
    have XL:¬ (i:Int)<(l.length:Int):=by omega
    clear hS
    repeat' first|go_values|go_skip|go_guarded|go_step|go_upon|simp only[];go_at_K
    go_meet
    exact⟨by rw[←Al.out,xq];rfl,rfl⟩
  case rest=>
   obtain⟨rfl,hwc⟩:=hcut
   subst hwc
   cases D with
   |true=>
    have hj:i<l.length∧i<40:=by have:=Al.out;simpa using this
    obtain⟨h1,h2⟩:=hj
    have XL:(i:Int)<(l.length:Int):=by omega
    have dC:=aL.wr ((i:Int)+1)
    obtain⟨ad,rfl,h0,OW⟩:=jq.at_ (f:=Ev.cells) (s:=5) Ev.iP hl (i:=i) (by omega)
    have hey:=(he _ (getElem_mem (show i<l.length by omega))).aN UF
    generalize l[i]=x at *
    have d0:=UF.cell (h0 _ rfl) (by simp)
    have d1:=UF.cell (OW 1 _ (by omega) rfl) (by simp)
    have d2:=UF.cell (OW 2 _ (by omega) rfl) (by simp)
    have d3:=UF.cell (OW 3 _ (by omega) rfl) (by simp)
    have d4:=UF.cell (OW 4 _ (by omega) rfl) (by simp)
    clear h0 OW
    obtain⟨D2,hD2⟩:=bk ((decide (x.k=1)&&decide (6≤p)))
    have xY:=aA hD2
    clear hD2
    have HS:=aA hS
    have ZA:=aA hey
    clear hS hey
    go_upto_region 10 with fail
    go_cut [48]from 29 to 63 (fun s48 wc=>s48=.bool D2∧wr=wc)
    case first=>
     by_cases k1:x.k=1
     ·have dk:(x.k==1)=true:=by rw[k1];rfl
      by_cases p6:6≤p
      ·have dp:decide ((6:Int)≤(p:Int))=true:=oT
       repeat' first|go_values|go_skip|go_guarded|go_step|go_upon|simp only[];go_at_K
       go_meet
       exact⟨by rw[←xY.out,dJ k1,dJ p6];rfl,rfl⟩
      ·have dp:decide ((6:Int)≤(p:Int))=false:=iO
       repeat' first|go_values|go_skip|go_guarded|go_step|go_upon|simp only[];go_at_K
       go_meet
       exact⟨by rw[←xY.out,eE p6,Bool.and_false],rfl⟩
     ·have dk:(x.k==1)=false:=by simpa using k1
      repeat' first|go_values|go_skip|go_guarded|go_step|go_upon|simp only[];go_at_K
      go_meet
      exact⟨by rw[←xY.out,eE k1];rfl,rfl⟩
    case rest=>
     obtain⟨rfl,hwc⟩:=hcut
     subst hwc
     cases D2 with
     |true=>
      have bN:=aA (HS.out.less (c':=390002100+300*(40-(i+1))) (by omega))
      clear HS ZA xY
      repeat' first|go_values|go_skip|go_guarded|go_step|go_upon|simp only[];go_at_K
      exact⟨dG.mk ⟨i+1,p,E,V1,by omega,by omega,by omega,by have:=Ax.out;omega,rfl,by rw[Ax.out],by simp,hg,bN.out⟩,by simp[intOf];omega⟩
     |false=>
      have h6:x.k=1→p<6:=fun e=>by
       have:=xY.out
       rw[dJ e,Bool.true_and,decide_eq_false_iff_not]at this
       omega
      have C:=OM wr V1 HS.out.ws x ZA.out i (by omega) (HS.out.wlv (by omega))
      obtain⟨⟨R1,R2,R3⟩,hR⟩:∃R,V1.pl.fC x.k x.s x.at_ x.n (lZ x.k i x.b)=R:=⟨_,rfl⟩
      have hS0:iV w wr V1 k (300+(390002100+300*(40-(i+1)))) (Sc k (k*p) E (440*(p+E)) (2000*(p+E))):=by
       have e:300+(390002100+300*(40-(i+1)))=390002100+300*(40-i):=by omega
       rw[e];exact HS.out
      have ZB:=aA (fun(w':World)(V':WV)(hw:WS w' V')(hu:ab V1.fp V'.fp wr w')(hp:V'.pl=R1)=>(show(R3=0∧x.k=1→iV w w' V' k (390002100+300*(40-(i+1))) (Sc k (k*(p+1)) E (440*(p+1+E)) (2000*(p+1+E))))∧(¬ (R3=0∧x.k=1)→iV w w' V' k (390002100+300*(40-(i+1))) (Sc k (k*p) (E+1) (440*(p+(E+1))) (2000*(p+(E+1)))))from by
       have q:=Zy (i:=i) hS0 (by omega) (by have:=Ax.out;omega) gO hw hu (kk:=x.k) (ss:=x.s) (aa:=x.at_) (nn:=x.n) (b:=x.b) h6 (by rw[hR];exact hp)
       rw[hR]at q
       exact q))
      rw[hR]at C
      simp only at C
      rw[WV.ptr,hg,Ev.bJ]at C
      clear hR hS0 HS ZA xY
      repeat' first|go_values|go_skip|go_guarded|go_step|go_upon|simp only[];go_at_K
      refine C.mono ?_;rintro e w5 ⟨A5,n5,c5,V5,rfl,hby,h5,ig,lS,u5⟩
      clear C hby
      obtain⟨F,hF⟩:=bk ((decide (R3=0)&&decide (x.k=1)))
      have HF:=aA hF
      rw[hF]
      clear hF
      go_upto_if 59 with fail
      obtain⟨W6,G6,eW6,Gw,mP,U6⟩:=cb w5 81 #[.int .i64 R2,.slice A5 n5 c5]
      have U6':=U6.gives (b':=[]) (by simp)
      rw[eW6,Gw]
      have hwe:=aL.wr ((ev:Int)+1)
      obtain⟨q1,q2⟩:=ZB.out w5 V5 h5 u5 ig
      cases F with
      |false=>
       have bN:=aA ((q2 fun e=>by
        have:=HF.out
        rw[e.1,e.2]at this
        simp at this).aN U6')
       clear h5 u5 mP U6 q1 q2 ZB
       repeat' first|go_values|go_skip|go_guarded|go_step|go_upon|simp only[];go_at_K
       exact⟨dG.mk ⟨i+1,p,E+1,V5,by omega,by omega,by omega,by have:=Ax.out;omega,rfl,by have:=Ax.out;simp;omega,by simp,lS,bN.out⟩,by simp[intOf];omega⟩
      |true=>
       have ZC:R3=0∧x.k=1:=by have:=HF.out;simpa using this
       have ahY:=h6 ZC.2
       have bN:=aA ((q1 ZC).aN U6')
       have hwp:=aL.wr ((p:Int)+1)
       clear h5 u5 mP U6 q1 q2 ZB ZC
       repeat' first|go_values|go_skip|go_guarded|go_step|go_upon|simp only[];go_at_K
       exact⟨dG.mk ⟨i+1,p+1,E,V5,by omega,by omega,by omega,by have:=Ax.out;omega,by simp,by have:=Ax.out;simp;omega,by simp,lS,bN.out⟩,by simp[intOf];omega⟩
   |false=>
    have aah:ev≤40:=by omega
    have S2:=aA (show iV w wr V1 k (390000000+300*(7-0)) (fun w=>Sc k (k*p) E (440*(p+E)+36*0) (2000*(p+E)+96*0) w∧∀(i:Nat) t,i<0→w.ss[i]? =some t→t.down=false) from(hS.less (by omega)).imp fun h=>⟨h,fun i t hi=>absurd hi (Nat.not_lt_zero _)⟩)
    clear hS Al UF
    repeat' first|go_values|go_skip|go_guarded|go_step|go_upon|simp only[];go_at_K
    go_loopw [13] (fun mX wr=>dG (∃(s:Nat)(V':WV),s≤k∧mX=.int .i64 (s:Int)∧V'.gw=V.gw∧iV w wr V' k (390000000+300*(7-s)) (fun w=>Sc k (k*p) E (440*(p+E)+36*s) (2000*(p+E)+96*s) w∧∀(i:Nat) t,i<s→w.ss[i]? =some t→t.down=false))) (fun mX _=>k-(intOf mX).toNat)
    case atStart=>exact dG.mk ⟨0,V1,by omega,rfl,hg,S2.out⟩
    case round=>
     obtain⟨s,V2,hsk,rfl,hg2,hS⟩:=hrel.out
     clear hrel S2
     by_cases hlt:s<k
     ·have dK:(s:Int)<(k:Int):=by omega
      have dC:=aL.wr ((s:Int)+1)
      have C:=wU wr V2 hS.ws ⟨8,(s:Int),0,0,none,0,0,[]⟩ (show(Lit.int .i64 8).wf=true by decide) (bE.nil _ _) (by simp) (hS.wlv (by omega))
      obtain⟨⟨R1,R2,R3⟩,hR⟩:∃R,V2.pl.fC 8 (s:Int) 0 0 []=R:=⟨_,rfl⟩
      unfold lG at C
      simp only at C
      rw[hR,WV.ptr,hg2,Ev.bJ]at C
      have HR:=aA hR
      have HS:=aA hS
      clear hR hS
      repeat' first|go_values|go_skip|go_guarded|go_step|go_upon|simp only[];go_at_K
      refine C.mono ?_;rintro e w5 ⟨rfl,V5,h5,ig,lS,u5⟩
      have bN:=aA (Ut (c:=390000000+300*(7-(s+1))) (HS.out.less (by omega)) (by omega) hlt h5 u5 (by rw[HR.out];exact ig))
      clear C h5 ig u5 HR HS
      repeat' first|go_values|go_skip|go_guarded|go_step|go_upon|simp only[];go_at_K
      exact⟨dG.mk ⟨s+1,V5,by omega,by simp,by rw[lS,hg2],bN.out⟩,by simp[intOf];omega⟩
     ·obtain rfl:s=k:=by omega
      have dK:¬ ((s:Int)<(s:Int)):=by omega
      have ZD:=Ax.out
      obtain⟨l1,l2,l3⟩:=TL (p:=p) (E:=E) gO (by omega)
      obtain⟨N,hN⟩:=bk (p*(3*(E+6)+17))
      rw[hN]at l1 l2 l3
      rw[ZD]at l1 l2
      obtain⟨most,Ds⟩:=bk (8*ev*4+(7*p+4)*8)
      rw[Ds]at l1
      have m1:=aL.wr (8*(ev:Int))
      have m2:=aL.wr (8*(ev:Int)*4)
      have m3:=aL.wr (7*(p:Int))
      have m4:=aL.wr (7*(p:Int)+4)
      have m5:=aL.wr ((7*(p:Int)+4)*8)
      have m6:IntKind.i64.wrap (8*(ev:Int)*4+(7*(p:Int)+4)*8)=(most:Int):=by rw[IntKind.wrap_i64];omega
      have jH:s*p≤8*p:=Nat.mul_le_mul_right p (by omega)
      have S3:=aA (show iV w wr V2 s (2002100+sb N 0) (Ph s (s*p) E (2000*ev+672) p N 0) from(hS.less (by omega)).imp fun h=>by
       rw[ZD]at h
       exact Ph.start (h.1.more (A':=440*ev+36*7) (B':=2000*ev+672) (by omega) (by omega)) (by omega) fun i t ht=>h.2 i t (by rw[←h.1.len];exact(List.getElem?_eq_some_iff.1 ht).1) ht)
      have ZE:=aA (show 5+N≤most∧p*(3*(E+6)+17)≤N∧(2000*ev+672)+53000+1344*(E+6)+896*N+4000≤1048576∧s*p≤8*p∧most≤2000∧ev≤40∧E≤40 from⟨l1,by omega,l2,jH,by omega,aah,by omega⟩)
      clear hS l1 l2 l3 hN Ds ZD jH Ax
      repeat' first|go_values|go_skip|go_guarded|go_step|go_upon|simp only[];go_at_K
      go_loopw [15] (fun Gm wr=>dG (∃(j:Nat)(V':WV),Gm=.int .i64 (j:Int)∧V'.gw=V.gw∧iV w wr V' s (2002100+sb N j) (Ph s (s*p) E (2000*ev+672) p N j))) (fun Gm _=>most+1-(intOf Gm).toNat)
      case atStart=>exact dG.mk ⟨0,V2,rfl,hg2,S3.out⟩
      case round=>
       obtain⟨j,V3,rfl,hg3,hS⟩:=hrel.out
       clear hrel S3
       have hj:=hS.is.le
       have hjm:(j:Int)≤(most:Int):=by have:=ZE.out;omega
       have dC:IntKind.i64.wrap ((j:Int)+1)=(j:Int)+1:=by rw[IntKind.wrap_i64];have:=ZE.out;omega
       have CL:=LD wr V3 hS.ws hS.CM s hS.len (by omega) Zz
       rw[WV.ptr,hg3]at CL
       obtain⟨L,hL⟩:=bk V3.pl.level
       have HL:=aA hL
       rw[hL]at CL
       have HS:=aA hS
       clear hS hL
       repeat' first|go_values|go_skip|go_guarded|go_step|go_upon|simp only[];go_at_K
       refine CL.mono ?_;rintro e w3 ⟨V4,rfl,h4,t4,hg4,u4⟩
       clear CL
       cases L with
       |true=>
        have HU:=aA (show ab [] [] w w3 from(HS.out.up.trans u4).gives (by simp))
        clear HS h4 t4 u4 HL
        repeat' first|go_values|go_skip|go_guarded|go_step|go_upon|simp only[];go_at_K
        go_ret
        exact⟨rfl,HU.out⟩
       |false=>
        have hK:iV w w3 V4 s (2002100+sb N j) (Ph s (s*p) E (2000*ev+672) p N j):=HS.out.looked h4 u4 t4 fun w a h=>h.take a
        have ng:5≤j→¬ ry s V4.pl:=fun h5 hc=>by
         obtain⟨G,hI⟩:=HS.out.inv
         exact HS.out.is.IB hI HL.out h5 (t4.IB hc)
        have C:=uw w3 V4 hK.ws (by obtain⟨G,hI⟩:=hK.inv;exact(hI.less (d:=300*s+2000000) (by omega)).AZ)
        rw[WV.ptr,hg4]at C
        have HK:=aA hK
        have HN:=aA ng
        clear hK ng HS h4 t4 u4 HL
        repeat' first|go_values|go_skip|go_guarded|go_step|go_upon|simp only[];go_at_K
        refine C.mono ?_;rintro e w5 ⟨rfl,V5,h5,ig,lS,u5⟩
        obtain⟨n1,n2,n3,n4,n5,n6,n7⟩:=ZE.out
        have bN:=aA (show iV w w5 V5 s (2002100+sb N (j+1)) (Ph s (s*p) E (2000*ev+672) p N (j+1))from by
         obtain⟨G,hI⟩:=HK.out.inv
         obtain⟨r1,r2⟩:=HK.out.is.round hk3 Zz (by omega) (by omega) n4 n2 n3 (c:=sb N (j+1)) (hI.less (by have:=MN hj;omega)) HK.out.CM HN.out
         exact HK.out.turn h5 u5 (by rw[ig];exact r2) (by rw[ig];exact HK.out.CM.round) (by rw[ig];exact r1))
        clear C HK HN h5 ig u5
        repeat' first|go_values|go_skip|go_guarded|go_step|go_upon|simp only[];go_at_K
        exact⟨dG.mk ⟨j+1,V5,by simp,by rw[lS,hg4],bN.out⟩,by simp[intOf];omega⟩
