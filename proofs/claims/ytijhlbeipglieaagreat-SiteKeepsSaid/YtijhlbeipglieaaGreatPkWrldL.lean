/- Merged: WrldL, WrldQ. -/
import Derived.Test.YtijhlbeipglieaaGreatPkWrldJ
set_option linter.all false
set_option maxRecDepth 100000
set_option maxHeartbeats 4000000
namespace Go.Proofs.YtijhlbeipglieaaGreat
open Go.RowKit Agio Go.Maps
def worldTags:List (Option TypeId):=[some 175,some 24,some 72,some 274,some 315,some 28] ++ siteTags
section
variable {w w':World} {V:WV}
theorem WS.offAny (h:WS w V) {k:Nat} {t:Option TypeId} (ht:tagW w k=some t) (hn:t∉worldTags):k∉V.fp:=
 h.offFp ht (fun hm=>hn (by unfold worldTags;exact List.mem_append.2 (.inr hm))) (fun e=>hn (by rw [e];decide)) (fun e=>hn (by rw [e];decide)) (fun e=>hn (by rw [e];decide)) (fun e=>hn (by rw [e];decide))
theorem WS.updOff (h:WS w V) {a b:List Nat} (hu:Upd a b w w') (ha:∀k∈a,∃t,tagW w k=some t∧t∉worldTags):WS w' V:=by
 have off:∀{k:Nat} {t:Option TypeId},tagW w k=some t→t∈worldTags→k∉a:=fun {k t} ht hm hk=>by
  obtain ⟨t',h1,h2⟩:=ha k hk
  rw [ht] at h1
  injection h1 with h1
  exact h2 (h1▸hm)
 have offV:∀k∈V.fp,k∉a:=fun k hk hm=>by
  obtain ⟨t,h1,h2⟩:=ha k hm
  exact h.offAny h1 h2 hk
 refine h.upd hu (off h.blk.tag (by decide)) (fun k hk=>off (h.row.tag k hk) (by decide)) (fun k hk=>off (h.drow.tag k hk) (by decide)) (fun k hk=>offV k ?_) (fun M hM k hk=>offV k (V.siteFp hM hk)) (fun d hd k hk=>off ((h.dons d hd).tag k hk) (by decide)) (fun x hx k hk=>off ((h.byt x hx).tag k hk) (by decide))
 simp only [WV.fp,List.mem_append]
 exact .inr (.inl hk)
structure BytV (w:World) (V:WV) (x:Bsl):Prop where
 byt:BytS w x
 far:∀k∈ablk x.A,k∉V.fp
theorem BytV.turn {V':WV} {x:Bsl} (h:BytV w V x) (hu:Upd V.fp V'.fp w w') (hl:∀k∈ablk x.A,k < w.heap.size):BytV w' V' x:=
 ⟨h.byt.upd hu h.far,fun k hk=>hu.notin (h.far k hk) (hl k hk)⟩
theorem BytS.lt {x:Bsl} (h:BytS w x):∀k∈ablk x.A,k < w.heap.size:=fun k hk=>tag_lt (h.tag k hk)
theorem BytV.step {V':WV} {x:Bsl} (h:BytV w V x) (hu:Upd V.fp V'.fp w w'):BytV w' V' x:=h.turn hu h.byt.lt
theorem BytV.off {a b:List Nat} {x:Bsl} (h:BytV w V x) (hu:Upd a b w w') (ha:∀k∈a,∃t,tagW w k=some t∧t∉worldTags):BytV w' V x:=
 ⟨h.byt.upd hu (fun k hk hm=>by
  obtain ⟨t,h1,h2⟩:=ha k hm
  rw [h.byt.tag k hk] at h1
  injection h1 with h1
  exact h2 (by rw [←h1];decide)),h.far⟩
end
def cntW (b:Nat):Nat:=3 + b % 5
theorem newOkW (b:Nat):newOk ((0:Nat):Int) ((cntW b:Nat):Int) ((2:Nat):Int)=true:=by
 have h:3≤cntW b∧cntW b≤7:=by unfold cntW;omega
 simp only [newOk,Bool.and_eq_true,decide_eq_true_eq];omega
theorem worldBegun (w:World) (b:Nat) (_hb:b < 256):Calls Tryz.prog 39 #[.int .u8 (b:Int)] w fun e w'=>∃V:WV,e= .returned (.tuple #[V.ptr,.int .i64 (cntW b:Int)])∧WS w' V∧V.pl=Wd.new (cntW b) 2∧(∀k∈V.fp,w.heap.size≤k)∧Upd [] V.fp w w':=by
 have C:=worldNew w (cntW b) 2 (newOkW b)
 rw [show ((2:Nat):Int)=2 from rfl] at C
 have hr:((b:Int)).tmod 5=((b % 5:Nat):Int):=rfl
 have hw:IntKind.u8.wrap ((b % 5:Nat):Int)=((b % 5:Nat):Int):=by rw [IntKind.wrap_u8];omega
 have hw2:IntKind.i64.wrap ((b % 5:Nat):Int)=((b % 5:Nat):Int):=by rw [IntKind.wrap_i64];omega
 have e:(3:Int) + ((b % 5:Nat):Int)=((cntW b:Nat):Int):=by unfold cntW;omega
 obtain ⟨r,hr2⟩:∃r:Nat,b % 5=r:=⟨_,rfl⟩
 rw [hr2] at hr hw hw2 e
 have hc:cntW b≤7:=by unfold cntW;omega
 have hw3:IntKind.i64.wrap (3 + (r:Int))=((cntW b:Nat):Int):=by rw [e,IntKind.wrap_i64];omega
 clear hr2 e
 go_enter Tryz.func39,Tryz.ntmps39
 repeat' (first|go_values|go_skip|go_guarded|go_step|go_upon|(simp only [];go_at_K))
 ((with_reducible refine C.mono ?_);rintro e w1 ⟨V,rfl,hV⟩)
 rw [WV.ptr]
 repeat' (first|go_values|go_skip|go_guarded|go_step|go_upon|(simp only [];go_at_K))
 go_ret2
 exact ⟨V,rfl,hV⟩
def ownV (k:Int) (i:Nat) (b:List UInt8):List UInt8:=if k=1 then [UInt8.ofNat i,0,1] else b
theorem worldPlay (w:World) (V:WV) (h:WS w V) (x:Ev) (hx:Ev.Rds w x) (i:Nat) (hi:i < 256) (hL:WLv V.pl 300) :
  Calls Tryz.prog 40 #[V.ptr,x.val,.int .i64 (i:Int)] w fun e w'=>∃(A:Option Addr) (n c:Nat) (V':WV),e= .returned (.tuple #[.agg #[.int .i64 (V.pl.do_ x.k x.s x.at_ x.n (ownV x.k i x.b)).2.1,.slice A n c],.bool (decide ((V.pl.do_ x.k x.s x.at_ x.n (ownV x.k i x.b)).2.2=0) && decide (x.k=1))])∧
   (x.k=1→BytV w' V' ⟨A,n,c,ownV x.k i x.b⟩∧∀k∈ablk A,w.heap.size≤k)∧WS w' V'∧V'.pl=(V.pl.do_ x.k x.s x.at_ x.n (ownV x.k i x.b)).1∧V'.gw=V.gw∧Upd V.fp V'.fp w w':=by
 obtain ⟨W,H,eW,hH,hBx,U0⟩:=boxes1 w 85 #[.int .i64 x.k,.int .i64 x.s,.int .i64 x.at_,.int .i64 x.n,.slice x.A x.l x.c]
 obtain ⟨W2,G,eW2,hG,hB2,U2⟩:=boxes1 W 81 #[.int .i64 0,.slice none 0 0]
 have hBx2:=hBx.upd U2 (by simp)
 obtain ⟨⟨b0,b1,b2,b3,b4⟩,f0,f1,f2,f3,f4⟩:=hBx2.c5
 rw [WV.ptr,Ev.val_eq]
 by_cases hk:x.k=1
 ·have dk:(x.k == 1)=true:=by rw [hk];rfl
  have dk2:decide (x.k=1)=true:=decide_eq_true hk
  have hw8:IntKind.u8.wrap (i:Int)=(i:Int):=by rw [IntKind.wrap_u8];omega
  have hq:(i:Int).tdiv 256=0:=by rw [Int.tdiv_eq_ediv_of_nonneg (by omega)];omega
  have hq2:(i:Int) / 256=0:=by omega
  have HK:=Lib.hid hk
  have HI:=Lib.hid hi
  obtain ⟨W3,B,eW3,hB,hB3,U3⟩:=boxes1 W2 5 #[.int .u8 (i:Int),.int .u8 0,.int .u8 1]
  have hbv:b8s [UInt8.ofNat i,0,1]= [.int .u8 (i:Int),.int .u8 0,.int .u8 1]:=by simp [b8s,B8];omega
  have hv3:RdB W3 (some ⟨B,0,none⟩) 3 [UInt8.ofNat i,0,1]:=by unfold RdB;rw [hbv];exact Rd.blk hB3 rfl
  have HOV:=Lib.hid (show ownV x.k i x.b= [UInt8.ofNat i,0,1] by unfold ownV;rw [if_pos hk])
  have U02:Upd [] [] w W2:=(U0.gives (b':=[]) (by simp)).trans (U2.gives (b':=[]) (by simp))
  have U03:Upd [] [] w W3:=U02.trans (U3.gives (b':=[]) (by simp))
  have hBx3:=hBx2.upd U3 (by simp)
  obtain ⟨⟨b0,b1,b2,b3,b4⟩,f0,f1,f2,f3,f4⟩:=hBx3.c5
  have hBx4:=hBx3.set_ 4 (.slice (some ⟨B,0,none⟩) 3 3)
  have hu4:Upd [H] [H] W3 (W3.setCell ⟨H,4,none⟩ (.slice (some ⟨B,0,none⟩) 3 3)):=(Upd.refl [H] W3).setCell (p:=⟨H,4,none⟩) (.inl (by simp)) _
  have hHB:B≠H:=by have:=hBx2.lt;omega
  have hHG0:G≠H:=by have:=hBx.lt;omega
  have hG4:=(hB2.upd U3 (by simp)).upd hu4 (by simpa using hHG0)
  have hv4:=hv3.upd hu4 (by simpa [ablk] using hHB)
  have hB4:=hB3.upd hu4 (by simpa using hHB)
  have U04:Upd [] [] w (W3.setCell ⟨H,4,none⟩ (.slice (some ⟨B,0,none⟩) 3 3)):=U03.ownL (X:=[H]) (by simp only [List.mem_singleton];rintro k rfl;omega) hu4
  obtain ⟨W4,hW4⟩:∃W4,W3.setCell ⟨H,4,none⟩ (.slice (some ⟨B,0,none⟩) 3 3)=W4:=⟨_,rfl⟩
  rw [hW4] at hBx4 hu4 hG4 hv4 hB4 U04
  obtain ⟨⟨q0,q1,q2,q3,q4⟩,-⟩:=hBx4.c5
  clear hk hi hbv
  go_enter Tryz.func40,Tryz.ntmps40
  obtain ⟨R,hR⟩:∃R,V.pl.do_ x.k x.s x.at_ x.n (ownV x.k i x.b)=R:=⟨_,rfl⟩
  have C:=worldDo W4 V (h.upd0 U04) ⟨x.k,x.s,x.at_,x.n,some ⟨B,0,none⟩,3,3,[UInt8.ofNat i,0,1]⟩ hx.k hv4 (by simp) hL
  rw [HOV.out] at hR ⊢
  unfold HapC at C
  rw [hR,WV.ptr,Ev.val_eq] at C
  rw [hR]
  obtain ⟨R1,R2,R3⟩:=R
  simp only at C ⊢
  have hHf:H∉V.fp:=fun hm=>by have:=h.lt H hm;omega
  have hBf:B∉V.fp:=fun hm=>by have:=h.lt B hm;have:=U0.size;have:=U2.size;omega
  have hGf:G∉V.fp:=fun hm=>by have:=h.lt G hm;have:=U0.size;omega
  clear hR
  repeat' (first|go_values|go_skip|go_guarded|go_step|go_upon|(simp only [];go_at_K))
  ((with_reducible refine C.mono ?_);rintro e w5 ⟨rfl,V5,h5,hp5,hg5,u5⟩)
  have hX5:=hBx4.upd u5 (by simpa using hHf)
  have hG5:=hG4.upd u5 (by simpa using hGf)
  clear q0 q1 q2 q3 q4 C
  obtain ⟨⟨b0,b1,b2,b3,b4⟩,-⟩:=hX5.drew.c5
  obtain ⟨⟨g0,g1⟩,j0,j1⟩:=hG5.drew.c2
  obtain ⟨⟨g0',g1'⟩,j0',j1'⟩:=hG5.c2
  have hHG:H≠G:=by have:=hBx.lt;omega
  have hBG:B≠G:=by have:=hB2.lt;omega
  have hB5:=hB4.upd u5 (by simpa using hBf)
  have hv5:=hv4.upd u5 (by simpa [ablk] using hBf)
  have hBf5:B∉V5.fp:=u5.notin hBf hB4.lt
  have hu6:Upd [G] [G] w5 ((w5.setCell ⟨G,0,none⟩ (.int .i64 R2)).setCell ⟨G,1,none⟩ (.slice (some ⟨B,0,none⟩) 3 3)):=((Upd.refl [G] w5).setCell (p:=⟨G,0,none⟩) (.inl (by simp)) _).setCell (p:=⟨G,1,none⟩) (.inl (by simp)) _
  have hB6:=hX5.upd hu6 (by simpa using hHG)
  obtain ⟨⟨p0,p1,p2,p3,p4⟩,-⟩:=hB6.c5
  have hG6:=((hG5.set_ 0 (.int .i64 R2)).set_ 1 (.slice (some ⟨B,0,none⟩) 3 3))
  have y0:((w5.setCell ⟨G,0,none⟩ (.int .i64 R2)).setCell ⟨G,1,none⟩ (.slice (some ⟨B,0,none⟩) 3 3)).cell? ⟨G,0,none⟩=some (.int .i64 R2):=hG6.cell 0
  have y1:((w5.setCell ⟨G,0,none⟩ (.int .i64 R2)).setCell ⟨G,1,none⟩ (.slice (some ⟨B,0,none⟩) 3 3)).cell? ⟨G,1,none⟩=some (.slice (some ⟨B,0,none⟩) 3 3):=hG6.cell 1
  have KEY:=Lib.hid (show ∀(bb:Bool),∃(A:Option Addr) (n c:Nat) (V':WV),Ending.returned (.tuple #[.agg #[.int .i64 R2,.slice (some ⟨B,0,none⟩) 3 3],.bool bb])= .returned (.tuple #[.agg #[.int .i64 R2,.slice A n c],.bool bb])∧
   (x.k=1→BytV ((w5.setCell ⟨G,0,none⟩ (.int .i64 R2)).setCell ⟨G,1,none⟩ (.slice (some ⟨B,0,none⟩) 3 3)).drew V' ⟨A,n,c,[UInt8.ofNat i,0,1]⟩∧∀k∈ablk A,w.heap.size≤k)∧WS ((w5.setCell ⟨G,0,none⟩ (.int .i64 R2)).setCell ⟨G,1,none⟩ (.slice (some ⟨B,0,none⟩) 3 3)).drew V'∧V'.pl=R1∧V'.gw=V.gw∧Upd V.fp V'.fp w ((w5.setCell ⟨G,0,none⟩ (.int .i64 R2)).setCell ⟨G,1,none⟩ (.slice (some ⟨B,0,none⟩) 3 3)).drew from fun bb=>by
   refine ⟨some ⟨B,0,none⟩,3,3,V5,rfl,fun _=>⟨⟨⟨(hv5.upd hu6 (by simpa [ablk] using hBG)).upd ((Upd.refl [] _).drew) (by simp),by simp only [ablk,List.mem_singleton];rintro k rfl;exact tag_upd (((Upd.refl [] _).drew (w':=_))) (by simp) (tag_upd hu6 (by simpa using hBG) hB5.tag)⟩,by simp only [ablk,List.mem_singleton];rintro k rfl;exact hBf5⟩,by simp only [ablk,List.mem_singleton];rintro k rfl;have:=U0.size;have:=U2.size;omega⟩,(h5.updOff hu6 (by simp only [List.mem_singleton];rintro k rfl;exact ⟨_,hG5.tag,by decide⟩)).upd0 ((Upd.refl [] _).drew),hp5,hg5,?_⟩
   have h7:Upd V.fp V5.fp w w5:=(U04.up V.fp).trans u5
   exact (h7.ownL (X:=[G]) (by simp only [List.mem_singleton];rintro k rfl;have:=U0.size;omega) hu6).drew)
  repeat' (first|go_values|go_skip|go_guarded|go_step|go_upon|(simp only [];go_at_K))
  by_cases hR3:R3=0
  ·have e3:(R3 == 0)=true:=by simp [hR3]
   have e4:decide (R3=0)=true:=decide_eq_true hR3
   have HR3:=Lib.hid hR3
   clear hR3
   go_region
   all_goals (repeat' (first | go_values | go_skip | go_guarded | go_step | go_upon | (simp only [];go_at_K)))
   all_goals exact bodyPost_ret (v:=.tuple #[.agg #[.int .i64 R2,.slice (some ⟨B,0,none⟩) 3 3],.bool true]) (by simp [results,Tryz.results40,go_sem,y0,y1]) rfl (by rw [e4,dk2];exact KEY.out true)
  ·have e3:(R3 == 0)=false:=beq_false_of_ne hR3
   have e4:decide (R3=0)=false:=decide_eq_false hR3
   go_region
   all_goals (repeat' (first | go_values | go_skip | go_guarded | go_step | go_upon | (simp only [];go_at_K)))
   all_goals exact bodyPost_ret (v:=.tuple #[.agg #[.int .i64 R2,.slice (some ⟨B,0,none⟩) 3 3],.bool false]) (by simp [results,Tryz.results40,go_sem,y0,y1]) rfl (by rw [e4,dk2];exact KEY.out false)
 ·have dk:(x.k == 1)=false:=beq_false_of_ne hk
  have dk2:decide (x.k=1)=false:=decide_eq_false hk
  go_enter Tryz.func40,Tryz.ntmps40
  obtain ⟨R,hR⟩:∃R,V.pl.do_ x.k x.s x.at_ x.n (ownV x.k i x.b)=R:=⟨_,rfl⟩
  have U02:Upd [] [] w W2:=(U0.gives (b':=[]) (by simp)).trans (U2.gives (b':=[]) (by simp))
  have C:=worldDo W2 V (h.upd0 U02) x hx.k (hx.v.upd U02 (by simp)) (by have:=hx.len;omega) hL
  have hov:ownV x.k i x.b=x.b:=by unfold ownV;rw [if_neg hk]
  rw [hov] at hR ⊢
  unfold HapC at C
  rw [hR,WV.ptr,Ev.val_eq] at C
  rw [hR]
  obtain ⟨R1,R2,R3⟩:=R
  simp only at C ⊢
  have hHf:H∉V.fp:=fun hm=>by have:=h.lt H hm;omega
  have hGf:G∉V.fp:=fun hm=>by have:=h.lt G hm;have:=U0.size;omega
  clear hR hov
  repeat' (first|go_values|go_skip|go_guarded|go_step|go_upon|(simp only [];go_at_K))
  ((with_reducible refine C.mono ?_);rintro e w5 ⟨rfl,V5,h5,hp5,hg5,u5⟩)
  have hB5:=hBx2.upd u5 (by simpa using hHf)
  have hG5:=hB2.upd u5 (by simpa using hGf)
  clear b0 b1 b2 b3 b4 f0 f1 f2 f3 f4 C
  obtain ⟨⟨b0,b1,b2,b3,b4⟩,-⟩:=hB5.drew.c5
  obtain ⟨⟨g0,g1⟩,j0,j1⟩:=hG5.drew.c2
  obtain ⟨⟨g0',g1'⟩,j0',j1'⟩:=hG5.c2
  have hHG:H≠G:=by have:=hBx.lt;omega
  have hu6:Upd [G] [G] w5 ((w5.setCell ⟨G,0,none⟩ (.int .i64 R2)).setCell ⟨G,1,none⟩ (.slice x.A x.l x.c)):=((Upd.refl [G] w5).setCell (p:=⟨G,0,none⟩) (.inl (by simp)) _).setCell (p:=⟨G,1,none⟩) (.inl (by simp)) _
  have hB6:=hB5.upd hu6 (by simpa using hHG)
  obtain ⟨⟨p0,p1,p2,p3,p4⟩,-⟩:=hB6.c5
  have hG6:=((hG5.set_ 0 (.int .i64 R2)).set_ 1 (.slice x.A x.l x.c))
  have y0:((w5.setCell ⟨G,0,none⟩ (.int .i64 R2)).setCell ⟨G,1,none⟩ (.slice x.A x.l x.c)).cell? ⟨G,0,none⟩=some (.int .i64 R2):=hG6.cell 0
  have y1:((w5.setCell ⟨G,0,none⟩ (.int .i64 R2)).setCell ⟨G,1,none⟩ (.slice x.A x.l x.c)).cell? ⟨G,1,none⟩=some (.slice x.A x.l x.c):=hG6.cell 1
  have KEY:=Lib.hid (show ∀(bb:Bool),∃(A:Option Addr) (n c:Nat) (V':WV),Ending.returned (.tuple #[.agg #[.int .i64 R2,.slice x.A x.l x.c],.bool bb])= .returned (.tuple #[.agg #[.int .i64 R2,.slice A n c],.bool bb])∧
   (x.k=1→BytV ((w5.setCell ⟨G,0,none⟩ (.int .i64 R2)).setCell ⟨G,1,none⟩ (.slice x.A x.l x.c)).drew V' ⟨A,n,c,x.b⟩∧∀k∈ablk A,w.heap.size≤k)∧WS ((w5.setCell ⟨G,0,none⟩ (.int .i64 R2)).setCell ⟨G,1,none⟩ (.slice x.A x.l x.c)).drew V'∧V'.pl=R1∧V'.gw=V.gw∧Upd V.fp V'.fp w ((w5.setCell ⟨G,0,none⟩ (.int .i64 R2)).setCell ⟨G,1,none⟩ (.slice x.A x.l x.c)).drew from fun bb=>by
   refine ⟨x.A,x.l,x.c,V5,rfl,fun e=>absurd e hk,(h5.updOff hu6 (by simp only [List.mem_singleton];rintro k rfl;exact ⟨_,hG5.tag,by decide⟩)).upd0 ((Upd.refl [] _).drew),hp5,hg5,?_⟩
   have h7:Upd V.fp V5.fp w w5:=(U02.up V.fp).trans u5
   exact (h7.ownL (X:=[G]) (by simp only [List.mem_singleton];rintro k rfl;have:=U0.size;omega) hu6).drew)
  repeat' (first|go_values|go_skip|go_guarded|go_step|go_upon|(simp only [];go_at_K))
  by_cases hR3:R3=0
  ·have e3:(R3 == 0)=true:=by simp [hR3]
   have e4:decide (R3=0)=true:=decide_eq_true hR3
   have HR3:=Lib.hid hR3
   clear hR3
   go_region
   all_goals (repeat' (first | go_values | go_skip | go_guarded | go_step | go_upon | (simp only [];go_at_K)))
   all_goals exact bodyPost_ret (v:=.tuple #[.agg #[.int .i64 R2,.slice x.A x.l x.c],.bool false]) (by simp [results,Tryz.results40,go_sem,y0,y1]) rfl (by rw [e4,dk2];exact KEY.out false)
  ·have e3:(R3 == 0)=false:=beq_false_of_ne hR3
   have e4:decide (R3=0)=false:=decide_eq_false hR3
   go_region
   all_goals (repeat' (first | go_values | go_skip | go_guarded | go_step | go_upon | (simp only [];go_at_K)))
   all_goals exact bodyPost_ret (v:=.tuple #[.agg #[.int .i64 R2,.slice x.A x.l x.c],.bool false]) (by simp [results,Tryz.results40,go_sem,y0,y1]) rfl (by rw [e4,dk2];exact KEY.out false)
end Go.Proofs.YtijhlbeipglieaaGreat
namespace Go.Proofs.YtijhlbeipglieaaGreat
open Go.RowKit Agio Go.Maps
structure PutV where
 slot:Int
 A:Option Addr
 n:Nat
 c:Nat
 b:List UInt8
def PutV.cells (p:PutV):List Value:=[.int .i64 p.slot,.slice p.A p.n p.c]
theorem PutV.cells_len (p:PutV):p.cells.length=2:=rfl
def PutV.sl (p:PutV):Bsl:=⟨p.A,p.n,p.c,p.b⟩
def putIs (l:List PutV) (x:Int) (v:List UInt8):Bool:=l.any fun p=>(p.slot == x) && (p.b == v)
theorem infoPut:(Tryz.prog.info? 81).map (fun i=>(i.zero,i.size,i.bytes))=some (some (.agg #[.int .i64 0,.slice none 0 0]),2,32):=by kernel_rfl
theorem worldPut (w:World) (A:Option Addr) (n c:Nat) (l:List PutV) (h:RdS PutV.cells 2 w A n l) (hb:∀p∈l,RdB w p.A p.n p.b) (x:Int) (B:Option Addr) (m d:Nat) (v:List UInt8) (hv:RdB w B m v) (hl:l.length≤1000) :
  Calls Tryz.prog 48 #[.slice A n c,.int .i64 x,.slice B m d] w fun e w'=>e= .returned (.bool (putIs l x v))∧Upd [] [] w w':=by
 have hn:=h.len
 obtain ⟨F,hF⟩:∃F,putIs l x v=F:=⟨_,rfl⟩
 have HF:=Lib.hid hF
 rw [hF]
 clear hF
 subst hn
 go_enter Tryz.func48,Tryz.ntmps48
 repeat' (first|go_values|go_skip|go_guarded|go_step|go_upon|(simp only [];go_at_K))
 go_loopw [7] (fun v7 wr=>KeptW (∃i:Nat,i≤l.length∧v7= .int .i64 (i:Int)∧putIs (l.drop i) x v=F∧Upd [] [] w wr)) (fun v7 _=>l.length - (intOf v7).toNat)
 case atStart=>exact KeptW.mk ⟨0,by omega,rfl,HF.out,Upd.refl _ _⟩
 case round=>
  obtain ⟨i,hi,rfl,hd,U⟩:=hrel.out
  clear hrel
  have HD:=Lib.hid hd
  clear hd
  by_cases hlt:i < l.length
  ·have hil:(i:Int) < (l.length:Int):=by omega
   have hw1:IntKind.i64.wrap ((i:Int) + 1)=(i:Int) + 1:=by rw [IntKind.wrap_i64];omega
   have hr:=h.upd0 U
   obtain ⟨ad,rfl,h0,hj⟩:=RdS.at_ (f:=PutV.cells) (s:=2) PutV.cells_len hr hlt
   have hy:=(hb _ (List.getElem_mem hlt)).upd U (by simp)
   have HS:=Lib.hid (show putIs (l.drop i) x v=(((l[i].slot == x) && (l[i].b == v)) || putIs (l.drop (i + 1)) x v) by
    unfold putIs
    rw [List.drop_eq_getElem_cons hlt,List.any_cons])
   generalize l[i]=y at *
   have d0:=h0 _ rfl
   have d1:=hj 1 _ (by omega) rfl
   have c0:=fun N=>((Upd.refl [] wr).drewN N).cell d0 (by simp)
   have c1:=fun N=>((Upd.refl [] wr).drewN N).cell d1 (by simp)
   have s1:=fun N=>strOf (hy.drewN N) y.c
   have s2:=fun N=>strOf ((hv.upd U (by simp)).drewN N) d
   clear h0 hj hr hy d0 d1
   repeat' (first|go_values|go_skip|go_guarded|go_step|go_upon|(simp only [];go_at_K))
   by_cases e1:y.slot=x
   ·have t1:(y.slot == x)=true:=by rw [e1];exact beq_self_eq_true _
    have HE:=Lib.hid e1
    clear e1
    cases t2:(y.b == v) with
    | true=>
     go_quiet (fail)
     clear s1 s2 c0 c1
     repeat' (first|go_values|go_skip|go_guarded|go_step|go_upon|(simp only [];go_at_K))
     go_ret
     have:=HS.out
     rw [HE.out,t2,HD.out] at this
     simp only [beq_self_eq_true,Bool.true_and,Bool.true_or] at this
     exact ⟨by rw [this];rfl,U.drewN _⟩
    | false=>
     go_quiet (fail)
     clear s1 s2 c0 c1
     repeat' (first|go_values|go_skip|go_guarded|go_step|go_upon|(simp only [];go_at_K))
     refine ⟨KeptW.mk ⟨i + 1,by omega,by simp,?_,U.drewN _⟩,by simp [intOf];omega⟩
     have:=HS.out
     rw [HE.out,t2,HD.out] at this
     simp only [Bool.and_false,Bool.false_or] at this
     exact this.symm
   ·have t1:(y.slot == x)=false:=beq_false_of_ne e1
    go_quiet (fail)
    clear s1 s2 c0 c1
    repeat' (first|go_values|go_skip|go_guarded|go_step|go_upon|(simp only [];go_at_K))
    refine ⟨KeptW.mk ⟨i + 1,by omega,by simp,?_,U.drewN _⟩,by simp [intOf];omega⟩
    have:=HS.out
    rw [t1,HD.out] at this
    simp only [Bool.false_and,Bool.false_or] at this
    exact this.symm
  ·obtain rfl:i=l.length:=by omega
   have hil:¬ ((l.length:Int) < (l.length:Int)):=by omega
   have hF:F=false:=by rw [←HD.out,List.drop_length];rfl
   subst hF
   repeat' (first|go_values|go_skip|go_guarded|go_step|go_upon|(simp only [];go_at_K))
   go_ret
   exact ⟨rfl,U⟩
end Go.Proofs.YtijhlbeipglieaaGreat
