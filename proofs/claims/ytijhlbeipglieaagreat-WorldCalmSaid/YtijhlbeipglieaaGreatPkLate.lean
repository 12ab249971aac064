/- For WorldCalm. -/
import Derived.Deep.CutRange
import Derived.Test.YtijhlbeipglieaaGreatPkAgain
import Derived.Test.YtijhlbeipglieaaGreatPkHandB
set_option linter.all false
set_option maxRecDepth 100000
set_option maxHeartbeats 4000000
namespace Go.Proofs.YtijhlbeipglieaaGreat
open Go.RowKit aL Go.Proofs.Tryz List
def jJ(p:Int)(l:List Int)(i:Nat):List Int:=((List.range i).filter fun i=>decide (p<l.getD i 0)).map fun(i:Nat)=>(i:Int)
theorem Kg(p:Int)(l:List Int)(i:Nat):jJ p l (i+1)=jJ p l i++(if p<l.getD i 0 then[(i:Int)] else[]):=by
 unfold jJ
 rw[range_succ,filter_append,map_append]
 congr 1
 rw[filter_cons]
 by_cases h:p<l.getD i 0
 ·rw[if_pos (dJ h),if_pos h];rfl
 ·rw[if_neg (by rw[eE h];simp),if_neg h];rfl
theorem B7(p:Int)(l:List Int)(i:Nat):(jJ p l i).length≤i:=by
 unfold jJ
 rw[length_map]
 exact Nat.le_trans (length_filter_le _ _) (by simp)
theorem Su:(prog.info? 3).map (fun i=>(i.zero,i.size,i.bytes))=some (some (.int .i64 0),1,8):=by kernel_rfl
theorem CV(w:World)(g:Nat)(me n:Nat)(p:Int)(l:List Int)(h:kC w g me n p l)(hn:n≤7) :
  Calls prog 160 #[.pointer (some ⟨g,0,none⟩)] w fun e w'=>∃A c,e=.returned (.slice A (jJ p l n).length c)∧aL.Own 3 1 w' A (jJ p l n).length c ((jJ p l n).map (Value.int .i64))∧ab [] (ak A) w w':=by
 have q1:w.cell? ⟨g,1,none⟩=some (.int .i64 (n:Int)):=h.1.cell 1
 have q2:w.cell? ⟨g,2,none⟩=some (.int .i64 p):=h.1.cell 2
 have hl:=h.2
 go_enter func160,ntmps160
 repeat' go_step
 go_loopw [3,11] (fun v3 v11 wr=>∃(i:Nat)(A:Option Addr)(c:Nat),i≤n∧v11=.int .i64 (i:Int)∧v3=.slice A (jJ p l i).length c∧aL.Own 3 1 wr A (jJ p l i).length c ((jJ p l i).map (Value.int .i64))∧ab [] (ak A) w wr) (fun _ v11 _=>n-(intOf v11).toNat)
 case atStart=>exact⟨0,none,0,by omega,rfl,rfl,Own.nil _ _ _,ab.refl _ _⟩
 case round=>
  obtain⟨i,A,c,hi,rfl,rfl,ho,U⟩:=hrel
  by_cases hlt:i<n
  ·have dK:(i:Int)<(n:Int):=by omega
   have lu:(i:Int)<7:=by omega
   have dC:=aL.wr ((i:Int)+1)
   have hat:l[i]'(by omega)=l.getD i 0:=by rw[List.getD_eq_getElem?_getD,List.getElem?_eq_getElem (by omega)];rfl
   have hT:=Kg p l i
   have qm:=B7 p l i
   have hcc:w.cell? ⟨g,3+i,none⟩=some (.int .i64 (l.getD i 0)):=by rw[h.cell (i:=i) (by omega),hat]
   have hc:=fun N=>(U.drewN N).cell hcc (by simp)
   have h2:=fun N=>(U.drewN N).cell q2 (by simp)
   have HT:=aA hT
   obtain⟨y,hy⟩:=bk (l.getD i 0)
   rw[hy]at HT
   simp only[hy]at hc
   clear hy hat hcc hT h
   obtain⟨X,hX⟩:=bk (jJ p l i)
   rw[hX]at ho HT qm ⊢
   clear hX
   by_cases hs:p<y
   ·have d1:decide (p<y)=true:=dJ hs
    have hF:jJ p l (i+1)=X++[(i:Int)]:=by rw[HT.out,if_pos hs]
    have HF:=aA hF
    have eN:=fun N=>ho.drewN N
    clear hF HT
    repeat' go_step
    go_quiet (fail)
    have iD:=eN nq
    have U2:=U.drewN nq
    refine eH ?_
    refine gV rfl _ _ 168 rfl 3 underlying168 Su rfl (by decide) iD rfl (wr.drewN nq).heap.size rfl rfl rfl rfl (by unfold maxLen;omega) (by omega) ?_
    intro A3 c3 w3 dW de
    have U3:=U2.trans de
    clear ho eN iD U U2 de
    refine wk ?_
    exact⟨⟨i+1,A3,c3,by omega,by simp,by rw[HF.out];simp,by rw[HF.out];simpa using dW,U3⟩,by simp[intOf];omega⟩
   ·have d1:decide (p<y)=false:=eE hs
    have hF:jJ p l (i+1)=X:=by rw[HT.out,if_neg hs,append_nil]
    have HF:=aA hF
    clear hF HT
    repeat' go_step
    go_quiet (fail)
    refine wk ?_
    exact⟨⟨i+1,A,c,by omega,by simp,by rw[HF.out],by rw[HF.out];exact ho.drewN _,U.drewN _⟩,by simp[intOf];omega⟩
  ·obtain rfl:i=n:=by omega
   have dK:¬ ((i:Int)<(i:Int)):=by omega
   refine wk ?_
   go_ret
   exact⟨A,c,rfl,ho,U⟩
def sc(x:Int):List Int→Nat→Int
 |[],_=>-1
 |y::l,i=>if x=y then(i:Int)else sc x l (i+1)
theorem E7(x:Int):∀(l:List Int)(i:Nat),decide (0≤sc x l i)=l.contains x
 |[],i=>by simp[sc]
 |y::l,i=>by
  unfold sc
  by_cases h:x=y
  ·subst h;simp
  ·rw[if_neg h,E7 x l (i+1),contains_cons]
   rw[show(x==y)=false from beq_false_of_ne h,Bool.false_or]
theorem GS(w:World)(A:Option Addr)(c:Nat)(l:List Int)(x:Int)(h:Rd w 1 A l.length (l.map (Value.int .i64)))(hl:l.length≤1000000) :
  Calls prog 228 #[.slice A l.length c,.int .i64 x] w fun e w'=>e=.returned (.int .i64 (sc x l 0))∧w=w':=by
 go_enter func228,ntmps228
 repeat' go_step
 go_loopw [8] (fun v8 wr=>∃(i:Nat),i≤l.length∧v8=.int .i64 (i:Int)∧sc x l 0=sc x (l.drop i) i∧wr=w) (fun v8 _=>l.length-(intOf v8).toNat)
 case atStart=>exact⟨0,by omega,rfl,by simp,rfl⟩
 case round=>
  obtain⟨i,hi,rfl,hx,rfl⟩:=hrel
  by_cases hlt:i<l.length
  ·have dK:(i:Int)<(l.length:Int):=by omega
   have dC:=aL.wr ((i:Int)+1)
   obtain⟨ad,u,hA,hu,hc⟩:=h.at_ hlt
   subst hA
   rw[List.getElem?_map,List.getElem?_eq_getElem hlt,Option.map_some,Option.some.injEq]at hu
   subst hu
   rw[drop_eq_getElem_cons hlt]at hx
   conv at hx=>rhs;unfold sc
   generalize l[i]=y at *
   by_cases he:x=y
   ·have d1:(x==y)=true:=beq_iff_eq.2 he
    rw[if_pos he]at hx
    have HX:=aA hx
    clear hx he
    refine wk ?_
    go_ret
    rw[HX.out]
    exact⟨rfl,rfl⟩
   ·have d1:(x==y)=false:=beq_false_of_ne he
    rw[if_neg he]at hx
    have HX:=aA hx
    clear hx he
    refine wk ?_
    exact⟨⟨i+1,by omega,by simp,HX.out,trivial⟩,by simp[intOf];omega⟩
  ·obtain rfl:i=l.length:=by omega
   have dK:¬ ((l.length:Int)<(l.length:Int)):=by omega
   have HX:=aA (show sc x l 0= -1 by rw[hx,drop_length];rfl)
   clear hx
   refine wk ?_
   go_ret
   rw[HX.out]
   exact⟨rfl,rfl⟩
theorem AQ(w:World)(A:Option Addr)(c:Nat)(l:List Int)(x:Int)(h:Rd w 1 A l.length (l.map (Value.int .i64)))(hl:l.length≤1000000) :
  Calls prog 163 #[.slice A l.length c,.int .i64 x] w fun e w'=>e=.returned (.bool (l.contains x))∧w=w':=by
 have C:=GS w A c l x h hl
 have H:=aA (E7 x l 0)
 obtain⟨k,hk⟩:=bk (sc x l 0)
 rw[hk]at C H
 go_enter func163,ntmps163
 repeat' go_step
 refine C.mono ?_;rintro e w1 ⟨rfl,rfl⟩
 refine wk ?_
 go_ret
 exact⟨by rw[←H.out];rfl,rfl⟩
end Go.Proofs.YtijhlbeipglieaaGreat
namespace aL
open Go Go.Proofs.YtijhlbeipglieaaGreat List
namespace Site
variable (s:Site)
def iK(i:Nat):List Int:=((range' s.front i).map fun(i:Nat)=>(i:Int)).filter s.due
theorem Kh:s.iK 0= []:=rfl
theorem zH(i:Nat):s.iK (i+1)=s.iK i++(if s.due ((s.front:Int)+i) then[(s.front:Int)+i] else[]):=by
 unfold iK
 rw[range'_concat,map_append,filter_append]
 congr 1
 simp only[Nat.one_mul,map_cons,map_nil,filter_cons,filter_nil,Int.natCast_add]
theorem Nl(i m:Nat):∃L,s.iK (i+m)=s.iK i++L:=by
 induction m with
 |zero=>exact⟨[],by simp⟩
 |succ m ih=>
  obtain⟨L,hL⟩:=ih
  refine⟨L++(if s.due ((s.front:Int)+((i+m:Nat):Int)) then[(s.front:Int)+((i+m:Nat):Int)] else[]),?_⟩
  rw[←Nat.add_assoc,zH,hL,append_assoc]
theorem Qi{top:Int}{i:Nat}(h:i=top.toNat-s.front)(hl:(s.iK i).length≤8):s.late top=s.iK i:=by
 unfold late
 rw[←h]
 exact take_of_length_le hl
theorem Nm{top:Int}{i:Nat}(h:i≤top.toNat-s.front)(hl:(s.iK i).length=8):s.late top=s.iK i:=by
 obtain⟨L,hL⟩:=s.Nl i (top.toNat - s.front - i)
 rw[Nat.add_sub_cancel' h]at hL
 show(s.iK (top.toNat-s.front)).take 8=_
 rw[hL,←hl,take_left]
end Site
end aL
namespace Go.Proofs.YtijhlbeipglieaaGreat
open Go.RowKit aL Go.Maps Go.Proofs.Tryz List
structure Kept(p:Prop):Prop where
 out:p
variable [eA]
theorem Qj(w:World)(M:ae)(h:aJ w M)(top:Int)(rX:top≤5000) :
  Calls prog 97 #[M.ptr,.int .i64 top] w fun e w'=>∃A c,e=.returned (.slice A (M.pl.late top).length c)∧aL.Own 3 1 w' A (M.pl.late top).length c ((M.pl.late top).map (Value.int .i64))∧ab [] (ak A) w w':=by
 have n7:M.n≤7:=h.ok.n7
 have vr:w.cell? ⟨M.gs,10,none⟩=some (.pointer (some ⟨M.gw,0,none⟩)):=h.aO.cell 10
 have C0:=CV w M.gw M.me M.n M.pat M.wt h.mm n7
 have IM:=B7 M.pat M.wt M.n
 have sF:=aA (show M.pl.tK=jJ M.pat M.wt M.n from rfl)
 have Xs:=aA (show M.pl.leads=(nM M.pat (M.wt.take M.n) 0==(M.me:Int))from rfl)
 obtain⟨su,hsu⟩:=bk (jJ M.pat M.wt M.n)
 rw[hsu]at C0 IM sF
 rw[ae.ptr]
 clear hsu
 go_enter func97,ntmps97
 repeat' go_step
 refine C0.mono ?_;rintro e w1 ⟨As,cs,rfl,za,bn⟩
 have h1:=h.aN bn
 have U1:=bn.gives (b':=[]) (by simp)
 clear C0 vr
 obtain⟨wa,Nn⟩:∃x,w1=x:=⟨_,rfl⟩
 rw[Nn]at h1 U1 za ⊢
 clear Nn bn
 have c0:∀p:GU wa,p.w.cell? ⟨M.gs,0,none⟩=some (.int .i64 (M.me:Int)):=fun p=>(h1.aN p.u).aO.cell 0
 have cJ:∀p:GU wa,p.w.cell? ⟨M.gs,10,none⟩=some (.pointer (some ⟨M.gw,0,none⟩)):=fun p=>(h1.aN p.u).aO.cell 10
 have CL:∀p:GU wa,Calls prog 161 #[.pointer (some ⟨M.gw,0,none⟩)] p.w fun e w'=>e=.returned (.int .i64 (nM M.pat (M.wt.take M.n) 0))∧∃q:GU wa,w'=q.w:=
  fun p=>p.call (GP p.w M.gw M.me M.n M.pat M.wt (h1.aN p.u).mm n7)
 obtain⟨ldr,Qk⟩:∃x,nM M.pat (M.wt.take M.n) 0=x:=⟨_,rfl⟩
 rw[Qk]at Xs
 simp only[Qk]at CL
 clear Qk
 repeat' (fail_if_success with_reducible refine ba rfl ?_);first|go_step|simp only[];go_at_K
 refine yc (by kernel_rfl) (by kernel_rfl) ?_
 repeat (go_big_quiet_step (exact CL _))
 refine wpQuiet_nil ?_
 rintro _ ⟨p,rfl⟩
 have h2:=h1.aN p.u
 have U2:=U1.trans p.u
 have Xt:=za.aq p.u (by simp)
 obtain⟨wb,sO⟩:∃x,p.w=x:=⟨_,rfl⟩
 simp only[sO]at h2 U2 Xt ⊢
 clear sO za h1 U1 c0 cJ CL
 obtain⟨ld,pv⟩:∃x,(ldr==(M.me:Int))=x:=⟨_,rfl⟩
 rw[pv]at Xs
 have q7:wb.cell? ⟨M.gs,7,none⟩=some (.pointer (some ⟨M.gl,0,none⟩)):=h2.aO.cell 7
 have CF:=my wb M.gl M.bl M.lv M.taken h2.iH
 rw[←ae.qR]at CF
 obtain⟨f,hf⟩:=bk M.pl.front
 rw[hf]at CF
 rw[pv]
 repeat' go_step
 refine CF.mono ?_;rintro e w3 ⟨rfl,rfl⟩
 refine wk ?_
 have Xu:=aA hf
 clear CF q7 hf pv
 go_loopw [7,8] (fun v7 v8 wr=>Kept (∃(i:Nat)(A:Option Addr)(c:Nat),(i=0∨(i:Int)+f≤top)∧v8=.int .i64 ((f:Int)+i)∧v7=.slice A (M.pl.iK i).length c∧(M.pl.iK i).length≤8∧aL.Own 3 1 wr A (M.pl.iK i).length c ((M.pl.iK i).map (Value.int .i64))∧ab [] (ak A) wb wr)) (fun _ v8 _=>(top-intOf v8).toNat)
 case atStart=>exact Kept.mk ⟨0,none,0,.inl rfl,by simp,rfl,by simp[Site.Kh],by simpa[Site.Kh]using Own.nil _ _ _,ab.refl _ _⟩
 case round=>
  obtain⟨i,A,c,hi,rfl,rfl,h8,ho,U⟩:=hrel.out
  clear hrel
  have HN:=aA (M.pl.zH i)
  rw[Xu.out]at HN
  have No:=aA (fun(e:i=top.toNat-f)=>M.pl.Qi (top:=top) (by rw[Xu.out];exact e) h8)
  have Np:=aA (fun(e:i≤top.toNat-f)=>M.pl.Nm (top:=top) (i:=i) (by rw[Xu.out];exact e))
  obtain⟨X,hX⟩:=bk (M.pl.iK i)
  simp only[hX]at ho h8 HN No Np ⊢
  clear hX
  by_cases hlt:(f:Int)+i<top
  ·have sW:decide ((f:Int)+i<top)=true:=dJ hlt
   by_cases hlen:X.length<8
   ·have sd:decide ((X.length:Int)<8)=true:=oT
    obtain⟨x,hx⟩:∃x:Int,(f:Int)+i=x:=⟨_,rfl⟩
    have dC:=aL.wr (x+1)
    have eO:(Lit.int .i64 x).wf=true:=kt (by omega) (by omega)
    rw[hx]at sW HN hlt ⊢
    have h3:=h2.aN U
    have C1:=qQ wr M.gl M.bl M.lv M.taken h3.iH h3.yw x eO
    have q7:wr.cell? ⟨M.gs,7,none⟩=some (.pointer (some ⟨M.gl,0,none⟩)):=h3.aO.cell 7
    have xL:=aA (show M.pl.due x=(!(aD x M.lv).isSome&&(!(match aD x M.rs with|some r=>decide ((r.cV:Int)≤(M.pat:Int))|none=>false) &&
      ((bK x M.n==(M.me:Int) && !M.pl.fresh x)||(ld&&su.contains (bK x M.n))))) by
     unfold Site.due
     rw[Xs.out,sF.out,ae.pq,show aD x M.pl.rs=(aD x M.rs).map bS.pl from eB _ _ _,Option.isNone_map]
     cases aD x M.lv<;>cases aD x M.rs<;>simp<;>rfl)
    repeat' first|go_guarded|go_step
    refine C1.mono ?_;rintro e w4 ⟨A4,n4,c4,rfl,-,de⟩
    have km:=de.gives (b':=[]) (by simp)
    have h4:=h3.aN de
    have U4:=U.trans (km.up _)
    have dW:=ho.aq km (by simp)
    clear C1 q7 h3 ho U de km
    obtain⟨dc,Xv⟩:=bk ((aD x M.lv).isSome)
    rw[Xv]at xL
    rw[Xv]
    clear Xv
    cases dc with
    |true=>
     have HL:=aA (show M.pl.iK (i+1)=X by rw[HN.out,xL.out];simp)
     refine wk ?_
     exact⟨Kept.mk ⟨i+1,A,c,.inr (by omega),(by rw[←hx];rfl),by rw[HL.out],by rw[HL.out];exact h8,by rw[HL.out];exact dW,U4⟩,by simp[intOf];omega⟩
    |false=>
     have mQ:=h4.Dm eO
     have q8:w4.cell? ⟨M.gs,8,none⟩=some (.map (some M.br)):=h4.aO.cell 8
     obtain⟨E,hE⟩:=bk ((match aD x M.rs with|some r=>decide ((r.cV:Int)≤(M.pat:Int))|none=>false))
     rw[hE]at xL
     have Xw:=aA hE
     clear hE
     obtain⟨pt,E8⟩:=bk (((aD x M.rs).map bS.ptr).getD (.pointer none))
     obtain⟨th,E9⟩:=bk ((aD x M.rs).isSome)
     rw[E8,E9]at mQ
     have zI:=aA E8
     have Ca:=aA E9
     clear E8 E9
     repeat' first|go_step|simp only[];go_at_K
     go_cut [79]from 37 to 109 (fun s79 wc=>s79=.bool E∧ab [] [] w4 wc)
     case first=>
      cases hq:aD x M.rs with
      |none=>
       have h1:=Xw.out
       have rb:=zI.out
       have h3:=Ca.out
       simp only[hq,Option.map_none,Option.getD_none,Option.isSome_none]at h1 rb h3
       subst h1 rb h3
       go_quiet (fail)
       refine wk ?_
       go_meet
       exact⟨rfl,(ab.refl [] w4).drewN _⟩
      |some r=>
       have h1:=Xw.out
       have rb:=zI.out
       have h3:=Ca.out
       simp only[hq,Option.map_some,Option.getD_some,Option.isSome_some]at h1 rb h3
       subst h1 rb h3
       have r6:∀N,(w4.drewN N).cell? ⟨r.g,6,none⟩=some (.int .i64 (r.cV:Int)):=fun N=>((h4.drewN N).cI _ (bG hq)).aO.cell 6
       have g2:∀N,(w4.drewN N).cell? ⟨M.gs,2,none⟩=some (.int .i64 (M.pat:Int)):=fun N=>(h4.drewN N).aO.cell 2
       rw[bS.ptr]
       go_quiet (fail)
       refine wk ?_
       go_meet
       exact⟨by simp,(ab.refl [] w4).drewN _⟩
     case rest=>
      obtain⟨rfl,cF⟩:=hcut
      have h5:=h4.aN cF
      have U5:=U4.trans (cF.up _)
      have fI:=dW.aq cF (by simp)
      clear h4 U4 dW cF mQ q8
      cases E with
      |true=>
       have HL:=aA (show M.pl.iK (i+1)=X by rw[HN.out,xL.out];simp)
       refine wk ?_
       go_roundw
       case rel=>
        exact Kept.mk ⟨i+1,A,c,.inr (by omega),(by rw[←hx];rfl),by rw[HL.out],by rw[HL.out];exact h8,by rw[HL.out];exact fI,U5⟩
       case measure=>simp[intOf];omega
      |false=>
       obtain⟨wo,qO⟩:∃x,wc=x:=⟨_,rfl⟩
       rw[qO]at h5 U5 fI ⊢
       have q1:wo.cell? ⟨M.gs,1,none⟩=some (.int .i64 (M.n:Int)):=h5.aO.cell 1
       have CO:=qa wo x M.n
       obtain⟨o,na⟩:∃o,bK x M.n=o:=⟨_,rfl⟩
       rw[na]at CO xL
       clear qO na
       repeat' go_step
       refine CO.mono ?_;rintro e w6 ⟨rfl,rfl⟩
       have q0:wo.cell? ⟨M.gs,0,none⟩=some (.int .i64 (M.me:Int)):=h5.aO.cell 0
       have Nq:=vP wo M h5 x eO
       rw[ae.ptr]at Nq
       have Ki:=Xt.aq U5 (by simp)
       have Sv:=fun(w7:World)(hu:ab [] [] wo w7)=>AQ w7 As cs su o (Ki.rd.aq hu (by simp)) (by omega)
       obtain⟨b1,hb1⟩:∃b,(o==(M.me:Int))=b:=⟨_,rfl⟩
       obtain⟨fr,eP⟩:∃b,M.pl.fresh x=b:=⟨_,rfl⟩
       obtain⟨co,Xx⟩:∃b,su.contains o=b:=⟨_,rfl⟩
       simp only[eP]at Nq
       simp only[Xx]at Sv
       rw[hb1,eP,Xx]at xL
       clear eP Xx
       go_upto_region 12 with fail
       go_cut [105]from 37 to 109 (fun adG wc=>adG=.bool (b1 && !fr||ld&&co)∧ab [] [] wo wc)
       case first=>
        clear No Np Xw zI Ca HN xL
        cases b1 with
        |false=>
         cases ld with
         |false=>
          refine wk ?_
          go_meet
          exact⟨rfl,ab.refl _ _⟩
         |true=>
          repeat' first|go_guarded|go_step
          refine(Sv wo (ab.refl _ _)).mono ?_;rintro e w7 ⟨rfl,rfl⟩
          refine wk ?_
          go_meet
          exact⟨by simp,ab.refl _ _⟩
        |true=>
         cases fr with
         |false=>
          repeat' first|go_guarded|go_step
          refine Nq.mono ?_;rintro e w7 ⟨rfl,iT⟩
          refine wk ?_
          go_meet
          exact⟨rfl,iT⟩
         |true=>
          repeat' first|go_guarded|go_step
          refine Nq.mono ?_;rintro e w7 ⟨rfl,iT⟩
          cases ld with
          |false=>
           refine wk ?_
           go_meet
           exact⟨rfl,iT⟩
          |true=>
           repeat' first|go_guarded|go_step|simp only[];go_at_K
           refine(Sv w7 iT).mono ?_;rintro e w8 ⟨rfl,rfl⟩
           refine wk ?_
           go_meet
           exact⟨by simp,iT⟩
       case rest=>
        obtain⟨rfl,lD⟩:=hcut
        obtain⟨F,hF⟩:=bk ((b1 && !fr||ld&&co))
        rw[hF]at xL ⊢
        have U8:=U5.trans (lD.up _)
        have IN:=fI.aq lD (by simp)
        clear hF Nq Sv Ki U5 fI lD h5 q0 q1 CO
        cases F with
        |false=>
         have HL:=aA (show M.pl.iK (i+1)=X by rw[HN.out,xL.out];simp)
         refine wk ?_
         go_roundw
         case rel=>
          exact Kept.mk ⟨i+1,A,c,.inr (by omega),(by rw[←hx];rfl),by rw[HL.out],by rw[HL.out];exact h8,by rw[HL.out];exact IN,U8⟩
         case measure=>simp[intOf];omega
        |true=>
         have HL:=aA (show M.pl.iK (i+1)=X++[x] by rw[HN.out,xL.out];simp)
         refine eH ?_
         refine gV rfl _ _ 168 rfl 3 underlying168 Su rfl (by decide) IN rfl wc.heap.size rfl rfl rfl rfl (by unfold maxLen;omega) (by omega) ?_
         intro A3 c3 w3 Nr sX
         have U9:=U8.trans sX
         clear IN U8 sX
         refine wk ?_
         go_roundw
         case rel=>
          exact Kept.mk ⟨i+1,A3,c3,.inr (by omega),(by rw[←hx];rfl),by rw[HL.out];simp,by rw[HL.out];simp;omega,by rw[HL.out];simpa using Nr,U9⟩
         case measure=>simp[intOf];omega
   ·have sd:decide ((X.length:Int)<8)=false:=iO
    have HL:=aA (Np.out (by omega) (by omega))
    clear No Np
    refine wk ?_
    go_ret
    rw[HL.out]
    exact⟨A,c,rfl,ho,U2.trans U⟩
  ·have sW:decide ((f:Int)+i<top)=false:=eE hlt
   have HL:=aA (No.out (by omega))
   clear No Np
   refine wk ?_
   go_ret
   rw[HL.out]
   exact⟨A,c,rfl,ho,U2.trans U⟩
end Go.Proofs.YtijhlbeipglieaaGreat
namespace aL
open Go Go.Proofs.YtijhlbeipglieaaGreat List
namespace Site
variable (s:Site)
def ju:Site:=({s with wt:=cC s.me s.wt s.n} :Site).again
def ck:Site:=s.ju.skip s.ju.bF
def gX:Site:=(s.ck.late s.ck.bF).foldl cK s.ck
structure Fb(s:Site):Prop where
 held:s.held.length≤600000000
 wt:∀x∈s.wt,0≤x
 cV:∀p∈s.rs,p.2.cV≤4000000000000000000
 ahs:s.ju.held.length≤700000000
 beg:∀j x,(s.ck.late s.ck.bF)[j]? =some x→(((s.ck.late s.ck.bF).take j).foldl cK s.ck).held.length≤800000000∧
  ((((s.ck.late s.ck.bF).take j).foldl cK s.ck).low x).may 7=true∧
  (((((s.ck.late s.ck.bF).take j).foldl cK s.ck).stat x).so=true∨((((s.ck.late s.ck.bF).take j).foldl cK s.ck).stat x).at_=⟨0,0⟩∧((((s.ck.late s.ck.bF).take j).foldl cK s.ck).stat x).b= [])
 aht:s.gX.held.length≤900000000
theorem qi(hd:s.down=false):s.tick=if s.gX.front<4096 then s.gX.others (dT s.gX.front (decide ((s.gX.front:Int)<s.ck.bF))) s.gX.n else s.gX:=by
 unfold tick
 rw[if_neg (by rw[hd];simp)]
 rfl
theorem sE{top x:Int}(h:x∈s.late top):0≤x∧x<top:=by
 have h1:=mem_of_mem_take h
 obtain⟨h2,-⟩:=mem_filter.1 h1
 obtain⟨i,hi,rfl⟩:=mem_map.1 h2
 rw[mem_range'_1]at hi
 omega
end Site
end aL
namespace Go.Proofs.YtijhlbeipglieaaGreat
open Go.RowKit aL Go.Maps Go.Proofs.Tryz List
variable [eA]
theorem aJ.lO{w:World}{M:ae}(h:aJ w M):M.pl.bF≤4096:=by
 rw[ae.Ns]
 have h1:=h.ok.top.2
 have h2:=(uf M.lv fun p hp=>⟨(h.iH.keys p hp).1,(h.iH.keys p hp).2.1⟩).2
 show max M.top _≤_
 have:M.pl.top=M.top:=rfl
 omega
theorem Fc(w:World)(M:ae)(h:aJ w M)(hT:M.pl.down=false→M.pl.Fb) :
  Calls prog 34 #[M.ptr] w fun e w'=>e=.returned (.tuple #[])∧dZ w w' M M.pl.tick:=by
 have C0:=lE w M h
 rw[ae.ptr]at C0 ⊢
 obtain⟨dn,lT⟩:∃d,M.pl.down=d:=⟨_,rfl⟩
 rw[lT]at C0
 cases dn with
 |true=>
  have HR:=aA (show M.pl.tick=M.pl by unfold Site.tick;rw[if_pos lT])
  obtain⟨R,hR⟩:=bk M.pl.tick
  rw[hR]at HR ⊢
  clear hR hT
  go_enter func34,ntmps34
  repeat' go_step
  refine C0.mono ?_;rintro e w1 ⟨rfl,rfl⟩
  refine wk ?_
  exact bodyPost_ret (v:=.tuple #[]) (results_none rfl _ _ _) rfl ⟨rfl,M,h,HR.out.symm,rfl,ab.refl _ _⟩
 |false=>
  obtain⟨t1,t2,t3,t4,t5,t6⟩:=hT lT
  have HR:=aA (M.pl.qi lT)
  have n7:M.n≤7:=h.ok.n7
  obtain⟨R,hR⟩:=bk M.pl.tick
  rw[hR]at HR ⊢
  have vr:w.cell? ⟨M.gs,10,none⟩=some (.pointer (some ⟨M.gw,0,none⟩)):=h.aO.cell 10
  have C1:=MO w M.gw M.me M.n M.pat M.wt h.mm n7 t2
  obtain⟨l1,fR⟩:∃l,M.pl.ju=l:=⟨_,rfl⟩
  have H1:=aA (show({M.pl with wt:=cC M.me M.wt M.n} :Site).again=l1 from fR)
  obtain⟨l3,uR⟩:∃l,M.pl.ck=l:=⟨_,rfl⟩
  have H3:=aA (show l1.skip l1.bF=l3 by rw[←uR,←fR];rfl)
  obtain⟨l4,hl4⟩:∃l,M.pl.gX=l:=⟨_,rfl⟩
  have H4:=aA (show(l3.late l3.bF).foldl Site.cK l3=l4 by rw[←hl4,←uR];rfl)
  simp only[fR,uR,hl4]at t4 t5 t6 HR
  clear hR fR uR hl4 hT
  go_enter func34,ntmps34
  repeat' go_step
  refine C0.mono ?_;rintro e w1 ⟨rfl,rfl⟩
  repeat' first|go_step|simp only[];go_at_K
  refine C1.mono ?_;rintro e w1 ⟨rfl,hW1,bn⟩
  obtain⟨h1,V1⟩:=h.watch bn hW1
  obtain⟨M1,jW⟩:∃M1:ae,{M with wt:=cC M.me M.wt M.n} =M1:=⟨_,rfl⟩
  rw[jW]at h1
  replace V1:ab M.fp M1.fp w w1:=by rw[←jW];exact V1
  have p1:M1.pl= {M.pl with wt:=cC M.me M.wt M.n}:=by rw[←jW];rfl
  have g1:M1.gs=M.gs:=by rw[←jW]
  rw[←p1]at H1
  have C2:=LS w1 M1 h1 (by rw[←ae.cE,p1];show M.pl.held.length≤_;omega) (by rw[p1];exact t3)
  rw[H1.out,ae.ptr,g1]at C2
  clear C0 C1 jW hW1 bn vr
  repeat' first|go_step|simp only[];go_at_K
  refine C2.mono ?_;rintro e w2 ⟨rfl,M2,h2,p2,g2,U2⟩
  have Xy:=g2.trans g1
  have C3:=AR w2 M2 h2
  have C4:=fun(wx:World)(hu:ab [] [] w2 wx)=>uc wx M2 (h2.aN hu) l1.bF (by rw[←ae.cE,p2];exact t4)
  rw[p2,ae.ptr,Xy]at C3
  simp only[p2,H3.out,ae.ptr,Xy]at C4
  have UU:=V1.trans U2
  clear C2 h1 V1 U2 h
  repeat' first|go_step|simp only[];go_at_K
  refine C3.mono ?_;rintro e w3 ⟨rfl,cQ⟩
  repeat' first|go_step|simp only[];go_at_K
  refine(C4 w3 cQ).mono ?_;rintro e w4 ⟨rfl,M4,h4,p4,g4,-,U4⟩
  have Xz:=g4.trans Xy
  have C5:=AR w4 M4 h4
  have hta:=h4.lO
  have C6:=fun(wx:World)(hu:ab [] [] w4 wx)=>Qj wx M4 (h4.aN hu) l3.bF (by rw[←p4];omega)
  rw[p4,ae.ptr,Xz]at C5
  simp only[p4,ae.ptr,Xz]at C6
  rw[p4]at hta
  have U5:=UU.trans ((cQ.up M2.fp).trans U4)
  clear C3 C4 h2 UU U4 cQ
  repeat' first|go_step|simp only[];go_at_K
  refine C5.mono ?_;rintro e w5 ⟨rfl,cF⟩
  repeat' first|go_step|simp only[];go_at_K
  refine(C6 w5 cF).mono ?_;rintro e w6 ⟨A,c,rfl,ho,dN⟩
  have h6:=(h4.aN cF).aN dN
  have tj:=(ab.refl [] w5).new dN
  have hsz:=cF.size
  have yT:∀k∈ak A,k∉M4.fp:=fun k hk hm=>by have e1:=tj k hk;have e2:=h4.lt k hm;omega
  have U6:=(U5.trans (cF.up M4.fp)).trans ((dN.gives (b':=[]) (by simp)).up M4.fp)
  have XA:∀x∈l3.late l3.bF,0≤x∧x<4096:=fun x hx=>by have:=l3.sE hx;omega
  have MY:(l3.late l3.bF).length≤8:=by unfold Site.late;rw[length_take];omega
  obtain⟨ls,uA⟩:=bk (l3.late l3.bF)
  obtain⟨tp,xJ⟩:=bk l3.bF
  simp only[uA]at ho XA MY t5 H4 ⊢
  simp only[xJ]at HR ⊢
  clear C5 C6 h4 U5 cF dN tj uA xJ
  refine wk ?_
  go_loopw [26] (fun v26 wr=>∃(i:Nat)(M':ae),i≤ls.length∧v26=.int .i64 (i:Int)∧aJ wr M'∧M'.pl=(ls.take i).foldl Site.cK l3∧M'.gs=M.gs∧ab M4.fp M'.fp w6 wr) (fun v26 _=>ls.length-(intOf v26).toNat)
  case atStart=>exact⟨0,M4,by omega,rfl,h6,p4,Xz,ab.refl _ _⟩
  case round=>
   obtain⟨i,M',hi,rfl,h',hp,hg,U⟩:=hrel
   by_cases hlt:i<ls.length
   ·have dK:(i:Int)<(ls.length:Int):=by omega
    have dC:=aL.wr ((i:Int)+1)
    have na:=ho.aq U yT
    obtain⟨ad,u,rfl,eC,hc⟩:=na.rd.at_ (k:=i) (by omega)
    rw[List.getElem?_map,List.getElem?_eq_getElem hlt,Option.map_some,Option.some.injEq]at eC
    subst eC
    obtain⟨b1,b2,b3⟩:=t5 i _ (List.getElem?_eq_getElem hlt)
    rw[←hp]at b1 b2 b3
    have C7:=Nt wr M' h' ls[i] (XA _ (getElem_mem hlt)) (by rw[←ae.cE];exact b1) b2 b3
    have HS:=aA (show M'.pl.cK ls[i]=(ls.take (i+1)).foldl Site.cK l3 by rw[take_succ_eq_append_getElem hlt,foldl_append,←hp];rfl)
    rw[ae.ptr,hg]at C7
    generalize ls[i]=x at *
    rw[HS.out]at C7
    repeat' go_step
    refine C7.mono ?_;rintro e w8 ⟨rfl,M8,h8,p8,g8,U8⟩
    refine wk ?_
    exact⟨⟨i+1,M8,by omega,by simp,h8,p8,g8.trans hg,U.trans U8⟩,by simp[intOf];omega⟩
   ·obtain rfl:i=ls.length:=by omega
    have dK:¬ ((ls.length:Int)<(ls.length:Int)):=by omega
    rw[take_length,H4.out]at hp
    have q7:wr.cell? ⟨M.gs,7,none⟩=some (.pointer (some ⟨M'.gl,0,none⟩)):=by rw[←hg];exact h'.aO.cell 7
    have C8:=my wr M'.gl M'.bl M'.lv M'.taken h'.iH
    rw[←ae.qR,hp]at C8
    have UE:=U6.trans U
    obtain⟨fr,eP⟩:=bk l4.front
    rw[eP]at C8 HR
    clear eP
    repeat' go_step
    refine C8.mono ?_;rintro e w8 ⟨rfl,rfl⟩
    by_cases hf:fr<4096
    ·have df:decide ((fr:Int)<4096)=true:=oT
     have IP:=aA (show R=l4.others (Site.dT fr (decide ((fr:Int)<tp))) l4.n by rw[HR.out,if_pos hf])
     have eF:Mv.ms ⟨8,0,0,fr,0,0,0,0,(decide ((fr:Int)<tp)),none,0,0,[]⟩=Site.dT fr (decide ((fr:Int)<tp)):=rfl
     have C9:=ke wr M' h' ⟨8,0,0,fr,0,0,0,0,(decide ((fr:Int)<tp)),none,0,0,[]⟩ (by rw[eF];refine⟨by simp[Site.dT],by simp,by simp,by simp[Site.dT];omega,by simp[Site.dT],by simp[Site.dT],by simp[Site.dT],by simp[Site.dT],by simp[Site.dT],by right;simp[Site.dT]⟩) (bE.nil _ _) (by simp[ak]) (by rw[←ae.cE,hp];exact t6)
     rw[eF,hp,ae.ptr,hg,Mv.bJ,show M'.n=l4.n from congrArg Site.n hp]at C9
     dsimp only at C9
     repeat' first|go_step|simp only[];go_at_K
     refine C9.mono ?_;rintro e w9 ⟨rfl,M9,h9,p9,g9,-,U9⟩
     refine wk ?_
     exact bodyPost_end (results_none rfl _ _ _) rfl ⟨rfl,M9,h9,p9.trans IP.out.symm,g9.trans hg,UE.trans U9⟩
    ·have df:decide ((fr:Int)<4096)=false:=iO
     have IP:=aA (show R=l4 by rw[HR.out,if_neg hf])
     refine wk ?_
     exact bodyPost_end (results_none rfl _ _ _) rfl ⟨rfl,M',h',hp.trans IP.out.symm,hg,UE⟩
