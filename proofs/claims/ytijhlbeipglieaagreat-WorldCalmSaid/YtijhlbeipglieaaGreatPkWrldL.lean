/- For WorldCalm. -/
import Derived.Test.YtijhlbeipglieaaGreatPkWrldJ
set_option linter.all false
set_option maxRecDepth 100000
set_option maxHeartbeats 4000000
namespace Go.Proofs.YtijhlbeipglieaaGreat
open Go.RowKit aL Go.Maps Go.Proofs.Tryz List
def rQ:List (Option TypeId):=[some 175,some 24,some 72,some 274,some 315,some 28]++oK
section
variable {w w':World} {V:WV}
theorem WS.Zb(h:WS w V){k:Nat}{t:Option TypeId}(ht:cl w k=some t)(hn:t∉rQ):k∉V.fp:=
 h.S7 ht (fun hm=>hn (by unfold rQ;exact mem_append.2 (.inr hm))) (fun e=>hn (by rw[e];decide)) (fun e=>hn (by rw[e];decide)) (fun e=>hn (by rw[e];decide)) (fun e=>hn (by rw[e];decide))
theorem WS.OK(h:WS w V){a b:List Nat}(hu:ab a b w w')(ha:∀k∈a,∃t,cl w k=some t∧t∉rQ):WS w' V:=by
 have off:∀{k:Nat}{t:Option TypeId},cl w k=some t→t∈rQ→k∉a:=fun {k t} ht hm hk=>by
  obtain⟨t',h1,h2⟩:=ha k hk
  rw[ht]at h1
  injection h1 with h1
  exact h2 (h1▸hm)
 have Zc:∀k∈V.fp,k∉a:=fun k hk hm=>by
  obtain⟨t,h1,h2⟩:=ha k hm
  exact h.Zb h1 h2 hk
 refine h.aq hu (off h.aO.tag (by decide)) (fun k hk=>off (h.row.tag k hk) (by decide)) (fun k hk=>off (h.iA.tag k hk) (by decide)) (fun k hk=>Zc k ?_) (fun M hM k hk=>Zc k (V.Zd hM hk)) (fun d hd k hk=>off ((h.jV d hd).tag k hk) (by decide)) (fun x hx k hk=>off ((h.fu x hx).tag k hk) (by decide))
 simp only[WV.fp,mem_append]
 exact .inr (.inl hk)
structure Re(w:World)(V:WV)(x:bO):Prop where
 fu:dj w x
 fB:∀k∈ak x.A,k∉V.fp
end
def mH(b:Nat):Nat:=3+b % 5
theorem OL(b:Nat):im ((0:Nat):Int) ((mH b:Nat):Int) ((2:Nat):Int)=true:=by
 have h:3≤mH b∧mH b≤7:=by unfold mH;omega
 simp only[im,Bool.and_eq_true,decide_eq_true_eq];omega
theorem Lp(w:World)(b:Nat)(_hb:b<256):Calls prog 39 #[.int .u8 (b:Int)] w fun e w'=>∃V:WV,e=.returned (.tuple #[V.ptr,.int .i64 (mH b:Int)])∧WS w' V∧V.pl=Wd.new (mH b) 2∧(∀k∈V.fp,w.heap.size≤k)∧ab [] V.fp w w':=by
 have C:=Gt w (mH b) 2 (OL b)
 rw[show((2:Nat):Int)=2 from rfl]at C
 have hr:((b:Int)).tmod 5=((b % 5:Nat):Int):=rfl
 have hw:IntKind.u8.wrap ((b % 5:Nat):Int)=((b % 5:Nat):Int):=by rw[IntKind.wrap_u8];omega
 have hw2:IntKind.i64.wrap ((b % 5:Nat):Int)=((b % 5:Nat):Int):=by rw[IntKind.wrap_i64];omega
 have e:(3:Int)+((b % 5:Nat):Int)=((mH b:Nat):Int):=by unfold mH;omega
 obtain⟨r,hr2⟩:∃r:Nat,b % 5=r:=⟨_,rfl⟩
 rw[hr2]at hr hw hw2 e
 have hc:mH b≤7:=by unfold mH;omega
 have hw3:IntKind.i64.wrap (3+(r:Int))=((mH b:Nat):Int):=by rw[e,IntKind.wrap_i64];omega
 clear hr2 e
 go_enter func39,ntmps39
 repeat' first|go_values|go_skip|go_guarded|go_step|go_upon|simp only[];go_at_K
 refine C.mono ?_;rintro e w1 ⟨V,rfl,hV⟩
 rw[WV.ptr]
 repeat' first|go_values|go_skip|go_guarded|go_step|go_upon|simp only[];go_at_K
 go_ret2
 exact⟨V,rfl,hV⟩
def lZ(k:Int)(i:Nat)(b:List UInt8):List UInt8:=if k=1 then[UInt8.ofNat i,0,1]else b
theorem OM(w:World)(V:WV)(h:WS w V)(x:Ev)(hx:Ev.Gv w x)(i:Nat)(hi:i<256)(hL:Aj V.pl 300) :
  Calls prog 40 #[V.ptr,x.val,.int .i64 (i:Int)] w fun e w'=>∃(A:Option Addr)(n c:Nat)(V':WV),e=.returned (.tuple #[.agg #[.int .i64 (V.pl.fC x.k x.s x.at_ x.n (lZ x.k i x.b)).2.1,.slice A n c],.bool (decide ((V.pl.fC x.k x.s x.at_ x.n (lZ x.k i x.b)).2.2=0)&&decide (x.k=1))])∧
   (x.k=1→Re w' V' ⟨A,n,c,lZ x.k i x.b⟩∧∀k∈ak A,w.heap.size≤k)∧WS w' V'∧V'.pl=(V.pl.fC x.k x.s x.at_ x.n (lZ x.k i x.b)).1∧V'.gw=V.gw∧ab V.fp V'.fp w w':=by
 obtain⟨W,H,eW,hH,fh,U0⟩:=cb w 85 #[.int .i64 x.k,.int .i64 x.s,.int .i64 x.at_,.int .i64 x.n,.slice x.A x.l x.c]
 obtain⟨W2,G,zW,hG,cX,U2⟩:=cb W 81 #[.int .i64 0,.slice none 0 0]
 have Lq:=fh.aq U2 (by simp)
 obtain⟨⟨b0,b1,b2,b3,b4⟩,f0,f1,f2,f3,f4⟩:=Lq.c5
 rw[WV.ptr,Ev.bJ]
 by_cases hk:x.k=1
 ·have dk:(x.k==1)=true:=by rw[hk];rfl
  have ON:decide (x.k=1)=true:=dJ hk
  have hw8:IntKind.u8.wrap (i:Int)=(i:Int):=by rw[IntKind.wrap_u8];omega
  have hq:(i:Int).tdiv 256=0:=by rw[Int.tdiv_eq_ediv_of_nonneg (by omega)];omega
  have uY:(i:Int) / 256=0:=by omega
  have HK:=aA hk
  have HI:=aA hi
  obtain⟨W3,B,eW3,hB,iM,U3⟩:=cb W2 5 #[.int .u8 (i:Int),.int .u8 0,.int .u8 1]
  have FW:iF [UInt8.ofNat i,0,1]= [.int .u8 (i:Int),.int .u8 0,.int .u8 1]:=by simp[iF,B8];omega
  have hv3:bE W3 (some ⟨B,0,none⟩) 3 [UInt8.ofNat i,0,1]:=by unfold bE;rw[FW];exact Rd.aO iM rfl
  have HOV:=aA (show lZ x.k i x.b= [UInt8.ofNat i,0,1] by unfold lZ;rw[if_pos hk])
  have nX:ab [] [] w W2:=(U0.gives (b':=[]) (by simp)).trans (U2.gives (b':=[]) (by simp))
  have Yq:ab [] [] w W3:=nX.trans (U3.gives (b':=[]) (by simp))
  have Ze:=Lq.aq U3 (by simp)
  obtain⟨⟨b0,b1,b2,b3,b4⟩,f0,f1,f2,f3,f4⟩:=Ze.c5
  have Rf:=Ze.cc 4 (.slice (some ⟨B,0,none⟩) 3 3)
  have de:ab [H] [H] W3 (W3.setCell ⟨H,4,none⟩ (.slice (some ⟨B,0,none⟩) 3 3)):=(ab.refl [H] W3).setCell (p:=⟨H,4,none⟩) (.inl (by simp)) _
  have hHB:B≠H:=by have:=Lq.lt;omega
  have aek:G≠H:=by have:=fh.lt;omega
  have hG4:=(cX.aq U3 (by simp)).aq de (by simpa using aek)
  have hv4:=hv3.aq de (by simpa[ak]using hHB)
  have fb:=iM.aq de (by simpa using hHB)
  have Zf:ab [] [] w (W3.setCell ⟨H,4,none⟩ (.slice (some ⟨B,0,none⟩) 3 3)):=Yq.mG (X:=[H]) (by simp only[mem_singleton];rintro k rfl;omega) de
  obtain⟨W4,Fq⟩:=bk (W3.setCell ⟨H,4,none⟩ (.slice (some ⟨B,0,none⟩) 3 3))
  rw[Fq]at Rf de hG4 hv4 fb Zf
  obtain⟨⟨q0,q1,q2,q3,q4⟩,-⟩:=Rf.c5
  clear hk hi FW
  go_enter func40,ntmps40
  obtain⟨R,hR⟩:=bk (V.pl.fC x.k x.s x.at_ x.n (lZ x.k i x.b))
  have C:=wU W4 V (h.aN Zf) ⟨x.k,x.s,x.at_,x.n,some ⟨B,0,none⟩,3,3,[UInt8.ofNat i,0,1]⟩ hx.k hv4 (by simp) hL
  rw[HOV.out]at hR ⊢
  unfold lG at C
  rw[hR,WV.ptr,Ev.bJ]at C
  rw[hR]
  obtain⟨R1,R2,R3⟩:=R
  simp only at C ⊢
  have gU:H∉V.fp:=fun hm=>by have:=h.lt H hm;omega
  have Zg:B∉V.fp:=fun hm=>by have:=h.lt B hm;have:=U0.size;have:=U2.size;omega
  have Oh:G∉V.fp:=fun hm=>by have:=h.lt G hm;have:=U0.size;omega
  clear hR
  repeat' first|go_values|go_skip|go_guarded|go_step|go_upon|simp only[];go_at_K
  refine C.mono ?_;rintro e w5 ⟨rfl,V5,h5,ig,lS,u5⟩
  have hX5:=Rf.aq u5 (by simpa using gU)
  have Ao:=hG4.aq u5 (by simpa using Oh)
  clear q0 q1 q2 q3 q4 C
  obtain⟨⟨b0,b1,b2,b3,b4⟩,-⟩:=hX5.drew.c5
  obtain⟨⟨g0,g1⟩,j0,j1⟩:=Ao.drew.c2
  obtain⟨⟨g0',g1'⟩,j0',j1'⟩:=Ao.c2
  have Jf:H≠G:=by have:=fh.lt;omega
  have nW:B≠G:=by have:=cX.lt;omega
  have kZ:=fb.aq u5 (by simpa using Zg)
  have LL:=hv4.aq u5 (by simpa[ak]using Zg)
  have ael:B∉V5.fp:=u5.gu Zg fb.lt
  have dN:ab [G] [G] w5 ((w5.setCell ⟨G,0,none⟩ (.int .i64 R2)).setCell ⟨G,1,none⟩ (.slice (some ⟨B,0,none⟩) 3 3)):=((ab.refl [G] w5).setCell (p:=⟨G,0,none⟩) (.inl (by simp)) _).setCell (p:=⟨G,1,none⟩) (.inl (by simp)) _
  have mP:=hX5.aq dN (by simpa using Jf)
  obtain⟨⟨p0,p1,p2,p3,p4⟩,-⟩:=mP.c5
  have Gw:=((Ao.cc 0 (.int .i64 R2)).cc 1 (.slice (some ⟨B,0,none⟩) 3 3))
  have y0:((w5.setCell ⟨G,0,none⟩ (.int .i64 R2)).setCell ⟨G,1,none⟩ (.slice (some ⟨B,0,none⟩) 3 3)).cell? ⟨G,0,none⟩=some (.int .i64 R2):=Gw.cell 0
  have y1:((w5.setCell ⟨G,0,none⟩ (.int .i64 R2)).setCell ⟨G,1,none⟩ (.slice (some ⟨B,0,none⟩) 3 3)).cell? ⟨G,1,none⟩=some (.slice (some ⟨B,0,none⟩) 3 3):=Gw.cell 1
  have bN:=aA (show ∀(bb:Bool),∃(A:Option Addr)(n c:Nat)(V':WV),Ending.returned (.tuple #[.agg #[.int .i64 R2,.slice (some ⟨B,0,none⟩) 3 3],.bool bb])=.returned (.tuple #[.agg #[.int .i64 R2,.slice A n c],.bool bb])∧
   (x.k=1→Re ((w5.setCell ⟨G,0,none⟩ (.int .i64 R2)).setCell ⟨G,1,none⟩ (.slice (some ⟨B,0,none⟩) 3 3)).drew V' ⟨A,n,c,[UInt8.ofNat i,0,1]⟩∧∀k∈ak A,w.heap.size≤k)∧WS ((w5.setCell ⟨G,0,none⟩ (.int .i64 R2)).setCell ⟨G,1,none⟩ (.slice (some ⟨B,0,none⟩) 3 3)).drew V'∧V'.pl=R1∧V'.gw=V.gw∧ab V.fp V'.fp w ((w5.setCell ⟨G,0,none⟩ (.int .i64 R2)).setCell ⟨G,1,none⟩ (.slice (some ⟨B,0,none⟩) 3 3)).drew from fun bb=>by
   refine⟨some ⟨B,0,none⟩,3,3,V5,rfl,fun _=>⟨⟨⟨(LL.aq dN (by simpa[ak]using nW)).aq ((ab.refl [] _).drew) (by simp),by simp only[ak,mem_singleton];rintro k rfl;exact sJ (((ab.refl [] _).drew (w':=_))) (by simp) (sJ dN (by simpa using nW) kZ.tag)⟩,by simp only[ak,mem_singleton];rintro k rfl;exact ael⟩,by simp only[ak,mem_singleton];rintro k rfl;have:=U0.size;have:=U2.size;omega⟩,(h5.OK dN (by simp only[mem_singleton];rintro k rfl;exact⟨_,Ao.tag,by decide⟩)).aN ((ab.refl [] _).drew),ig,lS,?_⟩
   have h7:ab V.fp V5.fp w w5:=(Zf.up V.fp).trans u5
   exact(h7.mG (X:=[G]) (by simp only[mem_singleton];rintro k rfl;have:=U0.size;omega) dN).drew)
  repeat' first|go_values|go_skip|go_guarded|go_step|go_upon|simp only[];go_at_K
  by_cases gH:R3=0
  ·have e3:(R3==0)=true:=by simp[gH]
   have e4:decide (R3=0)=true:=dJ gH
   have Sj:=aA gH
   clear gH
   go_region
   all_goals (repeat' (first|go_values|go_skip|go_guarded|go_step|go_upon|simp only[];go_at_K))
   all_goals exact bodyPost_ret (v:=.tuple #[.agg #[.int .i64 R2,.slice (some ⟨B,0,none⟩) 3 3],.bool true]) (by simp[results,results40,go_sem,y0,y1]) rfl (by rw[e4,ON];exact bN.out true)
  ·have e3:(R3==0)=false:=beq_false_of_ne gH
   have e4:decide (R3=0)=false:=eE gH
   go_region
   all_goals (repeat' (first|go_values|go_skip|go_guarded|go_step|go_upon|simp only[];go_at_K))
   all_goals exact bodyPost_ret (v:=.tuple #[.agg #[.int .i64 R2,.slice (some ⟨B,0,none⟩) 3 3],.bool false]) (by simp[results,results40,go_sem,y0,y1]) rfl (by rw[e4,ON];exact bN.out false)
 ·have dk:(x.k==1)=false:=beq_false_of_ne hk
  have ON:decide (x.k=1)=false:=eE hk
  go_enter func40,ntmps40
  obtain⟨R,hR⟩:=bk (V.pl.fC x.k x.s x.at_ x.n (lZ x.k i x.b))
  have nX:ab [] [] w W2:=(U0.gives (b':=[]) (by simp)).trans (U2.gives (b':=[]) (by simp))
  have C:=wU W2 V (h.aN nX) x hx.k (hx.v.aq nX (by simp)) (by have:=hx.len;omega) hL
  have hov:lZ x.k i x.b=x.b:=by unfold lZ;rw[if_neg hk]
  rw[hov]at hR ⊢
  unfold lG at C
  rw[hR,WV.ptr,Ev.bJ]at C
  rw[hR]
  obtain⟨R1,R2,R3⟩:=R
  simp only at C ⊢
  have gU:H∉V.fp:=fun hm=>by have:=h.lt H hm;omega
  have Oh:G∉V.fp:=fun hm=>by have:=h.lt G hm;have:=U0.size;omega
  clear hR hov
  repeat' first|go_values|go_skip|go_guarded|go_step|go_upon|simp only[];go_at_K
  refine C.mono ?_;rintro e w5 ⟨rfl,V5,h5,ig,lS,u5⟩
  have kZ:=Lq.aq u5 (by simpa using gU)
  have Ao:=cX.aq u5 (by simpa using Oh)
  clear b0 b1 b2 b3 b4 f0 f1 f2 f3 f4 C
  obtain⟨⟨b0,b1,b2,b3,b4⟩,-⟩:=kZ.drew.c5
  obtain⟨⟨g0,g1⟩,j0,j1⟩:=Ao.drew.c2
  obtain⟨⟨g0',g1'⟩,j0',j1'⟩:=Ao.c2
  have Jf:H≠G:=by have:=fh.lt;omega
  have dN:ab [G] [G] w5 ((w5.setCell ⟨G,0,none⟩ (.int .i64 R2)).setCell ⟨G,1,none⟩ (.slice x.A x.l x.c)):=((ab.refl [G] w5).setCell (p:=⟨G,0,none⟩) (.inl (by simp)) _).setCell (p:=⟨G,1,none⟩) (.inl (by simp)) _
  have mP:=kZ.aq dN (by simpa using Jf)
  obtain⟨⟨p0,p1,p2,p3,p4⟩,-⟩:=mP.c5
  have Gw:=((Ao.cc 0 (.int .i64 R2)).cc 1 (.slice x.A x.l x.c))
  have y0:((w5.setCell ⟨G,0,none⟩ (.int .i64 R2)).setCell ⟨G,1,none⟩ (.slice x.A x.l x.c)).cell? ⟨G,0,none⟩=some (.int .i64 R2):=Gw.cell 0
  have y1:((w5.setCell ⟨G,0,none⟩ (.int .i64 R2)).setCell ⟨G,1,none⟩ (.slice x.A x.l x.c)).cell? ⟨G,1,none⟩=some (.slice x.A x.l x.c):=Gw.cell 1
  have bN:=aA (show ∀(bb:Bool),∃(A:Option Addr)(n c:Nat)(V':WV),Ending.returned (.tuple #[.agg #[.int .i64 R2,.slice x.A x.l x.c],.bool bb])=.returned (.tuple #[.agg #[.int .i64 R2,.slice A n c],.bool bb])∧
   (x.k=1→Re ((w5.setCell ⟨G,0,none⟩ (.int .i64 R2)).setCell ⟨G,1,none⟩ (.slice x.A x.l x.c)).drew V' ⟨A,n,c,x.b⟩∧∀k∈ak A,w.heap.size≤k)∧WS ((w5.setCell ⟨G,0,none⟩ (.int .i64 R2)).setCell ⟨G,1,none⟩ (.slice x.A x.l x.c)).drew V'∧V'.pl=R1∧V'.gw=V.gw∧ab V.fp V'.fp w ((w5.setCell ⟨G,0,none⟩ (.int .i64 R2)).setCell ⟨G,1,none⟩ (.slice x.A x.l x.c)).drew from fun bb=>by
   refine⟨x.A,x.l,x.c,V5,rfl,fun e=>absurd e hk,(h5.OK dN (by simp only[mem_singleton];rintro k rfl;exact⟨_,Ao.tag,by decide⟩)).aN ((ab.refl [] _).drew),ig,lS,?_⟩
   have h7:ab V.fp V5.fp w w5:=(nX.up V.fp).trans u5
   exact(h7.mG (X:=[G]) (by simp only[mem_singleton];rintro k rfl;have:=U0.size;omega) dN).drew)
  repeat' first|go_values|go_skip|go_guarded|go_step|go_upon|simp only[];go_at_K
  by_cases gH:R3=0
  ·have e3:(R3==0)=true:=by simp[gH]
   have e4:decide (R3=0)=true:=dJ gH
   have Sj:=aA gH
   clear gH
   go_region
   all_goals (repeat' (first|go_values|go_skip|go_guarded|go_step|go_upon|simp only[];go_at_K))
   all_goals exact bodyPost_ret (v:=.tuple #[.agg #[.int .i64 R2,.slice x.A x.l x.c],.bool false]) (by simp[results,results40,go_sem,y0,y1]) rfl (by rw[e4,ON];exact bN.out false)
  ·have e3:(R3==0)=false:=beq_false_of_ne gH
   have e4:decide (R3=0)=false:=eE gH
   go_region
   all_goals (repeat' (first|go_values|go_skip|go_guarded|go_step|go_upon|simp only[];go_at_K))
   all_goals exact bodyPost_ret (v:=.tuple #[.agg #[.int .i64 R2,.slice x.A x.l x.c],.bool false]) (by simp[results,results40,go_sem,y0,y1]) rfl (by rw[e4,ON];exact bN.out false)
