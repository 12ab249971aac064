/- For SitePlays. -/
import Derived.Deep.CutRange
import Derived.Test.YtijhlbeipglieaaGreatPkAgain
import Derived.Test.YtijhlbeipglieaaGreatPkHandB
set_option linter.all false
set_option maxRecDepth 100000
set_option maxHeartbeats 4000000
namespace aA
open Go Go.Proofs.YtijhlbeipglieaaGreat List
namespace Site
variable (s:Site)
def dJ(i:Nat):List Int:=((range' s.front i).map fun(i:Nat)=>(i:Int)).filter s.due
theorem Cy:s.dJ 0= []:=rfl
theorem sH(i:Nat):s.dJ (i+1)=s.dJ i++(if s.due ((s.front:Int)+i) then[(s.front:Int)+i] else[]):=by
 unfold dJ
 rw[range'_concat,map_append,filter_append]
 congr 1
 simp only[Nat.one_mul,map_cons,map_nil,filter_cons,filter_nil,Int.natCast_add]
theorem Fa(i m:Nat):∃L,s.dJ (i+m)=s.dJ i++L:=by
 induction m with
 |zero=>exact⟨[],by simp⟩
 |succ m ih=>
  obtain⟨L,hL⟩:=ih
  refine⟨L++(if s.due ((s.front:Int)+((i+m:Nat):Int)) then[(s.front:Int)+((i+m:Nat):Int)] else[]),?_⟩
  rw[←Nat.add_assoc,sH,hL,append_assoc]
theorem Iy{top:Int}{i:Nat}(h:i=top.toNat-s.front)(hl:(s.dJ i).length≤8):s.late top=s.dJ i:=by
 unfold late
 rw[←h]
 exact take_of_length_le hl
theorem Fb{top:Int}{i:Nat}(h:i≤top.toNat-s.front)(hl:(s.dJ i).length=8):s.late top=s.dJ i:=by
 obtain⟨L,hL⟩:=s.Fa i (top.toNat - s.front - i)
 rw[Nat.add_sub_cancel' h]at hL
 show(s.dJ (top.toNat-s.front)).take 8=_
 rw[hL,←hl,take_left]
end Site
end aA
namespace Go.Proofs.YtijhlbeipglieaaGreat
open Go.RowKit aA Go.Proofs.Tryz List
def jQ(p:Int)(l:List Int)(i:Nat):List Int:=((List.range i).filter fun i=>decide (p<l.getD i 0)).map fun(i:Nat)=>(i:Int)
theorem Oe(p:Int)(l:List Int)(i:Nat):jQ p l (i+1)=jQ p l i++(if p<l.getD i 0 then[(i:Int)] else[]):=by
 unfold jQ
 rw[range_succ,filter_append,map_append]
 congr 1
 rw[filter_cons]
 by_cases h:p<l.getD i 0
 ·rw[if_pos (dTx h),if_pos h];rfl
 ·rw[if_neg (by rw[dFx h];simp),if_neg h];rfl
theorem Fe(p:Int)(l:List Int)(i:Nat):(jQ p l i).length≤i:=by
 unfold jQ
 rw[length_map]
 exact Nat.le_trans (length_filter_le _ _) (by simp)
theorem WG:(prog.info? 3).map (fun i=>(i.zero,i.size,i.bytes))=some (some (.int .i64 0),1,8):=by kernel_rfl
theorem Gw(w:World)(g:Nat)(me n:Nat)(p:Int)(l:List Int)(h:lC w g me n p l)(hn:n≤7) :
  Calls prog 160 #[.pointer (some ⟨g,0,none⟩)] w fun e w'=>∃A c,e=.returned (.slice A (jQ p l n).length c)∧Own 3 1 w' A (jQ p l n).length c ((jQ p l n).map (Value.int .i64))∧aa [] (ah A) w w':=by
 have q1:w.cell? ⟨g,1,none⟩=some (.int .i64 (n:Int)):=h.1.cell 1
 have q2:w.cell? ⟨g,2,none⟩=some (.int .i64 p):=h.1.cell 2
 have hl:=h.2
 go_enter func160,ntmps160
 repeat' go_step
 go_loopw [3,11] (fun v3 v11 wr=>∃(i:Nat)(A:Option Addr)(c:Nat),i≤n∧v11=.int .i64 (i:Int)∧v3=.slice A (jQ p l i).length c∧Own 3 1 wr A (jQ p l i).length c ((jQ p l i).map (Value.int .i64))∧aa [] (ah A) w wr) (fun _ v11 _=>n-(intOf v11).toNat)
 case atStart=>exact⟨0,none,0,by omega,rfl,rfl,Own.nil _ _ _,aa.refl _ _⟩
 case round=>
  obtain⟨i,A,c,hi,rfl,rfl,ho,U⟩:=hrel
  by_cases hlt:i<n
  ·have hil:(i:Int)<(n:Int):=by omega
   have Wu:(i:Int)<7:=by omega
   have hw1:=aA.wr ((i:Int)+1)
   have hat:l[i]'(by omega)=l.getD i 0:=by rw[List.getD_eq_getElem?_getD,List.getElem?_eq_getElem (by omega)];rfl
   have hT:=Oe p l i
   have hln:=Fe p l i
   have hcc:w.cell? ⟨g,3+i,none⟩=some (.int .i64 (l.getD i 0)):=by rw[h.cell (i:=i) (by omega),hat]
   have hc:=fun N=>(U.drewN N).cell hcc (by simp)
   have h2:=fun N=>(U.drewN N).cell q2 (by simp)
   have HT:=hdn hT
   obtain⟨y,hy⟩:=ex1 (l.getD i 0)
   rw[hy]at HT
   simp only[hy]at hc
   clear hy hat hcc hT h
   obtain⟨X,hX⟩:=ex1 (jQ p l i)
   rw[hX]at ho HT hln ⊢
   clear hX
   by_cases hs:p<y
   ·have d1:decide (p<y)=true:=dTx hs
    have hF:jQ p l (i+1)=X++[(i:Int)]:=by rw[HT.out,if_pos hs]
    have HF:=hdn hF
    have ho2:=fun N=>ho.drewN N
    clear hF HT
    repeat' go_step
    go_quiet (fail)
    have ho3:=ho2 nq
    have U2:=U.drewN nq
    refine bN ?_
    refine bQ rfl _ _ 168 rfl 3 underlying168 WG rfl (by decide) ho3 rfl (wr.drewN nq).heap.size rfl rfl rfl rfl (by unfold maxLen;omega) (by omega) ?_
    intro A3 c3 w3 bY bM
    have U3:=U2.trans bM
    clear ho ho2 ho3 U U2 bM
    refine wk ?_
    exact⟨⟨i+1,A3,c3,by omega,by simp,by rw[HF.out];simp,by rw[HF.out];simpa using bY,U3⟩,by simp[intOf];omega⟩
   ·have d1:decide (p<y)=false:=dFx hs
    have hF:jQ p l (i+1)=X:=by rw[HT.out,if_neg hs,append_nil]
    have HF:=hdn hF
    clear hF HT
    repeat' go_step
    go_quiet (fail)
    refine wk ?_
    exact⟨⟨i+1,A,c,by omega,by simp,by rw[HF.out],by rw[HF.out];exact ho.drewN _,U.drewN _⟩,by simp[intOf];omega⟩
  ·obtain rfl:i=n:=by omega
   have hil:¬ ((i:Int)<(i:Int)):=by omega
   refine wk ?_
   go_ret
   exact⟨A,c,rfl,ho,U⟩
def vN(x:Int):List Int→Nat→Int
 |[],_=>-1
 |y::l,i=>if x=y then(i:Int)else vN x l (i+1)
theorem Iz(x:Int):∀(l:List Int)(i:Nat),decide (0≤vN x l i)=l.contains x
 |[],i=>by simp[vN]
 |y::l,i=>by
  unfold vN
  by_cases h:x=y
  ·subst h;simp
  ·rw[if_neg h,Iz x l (i+1),contains_cons]
   rw[show(x==y)=false from beq_false_of_ne h,Bool.false_or]
theorem KQ(w:World)(A:Option Addr)(c:Nat)(l:List Int)(x:Int)(h:Rd w 1 A l.length (l.map (Value.int .i64)))(hl:l.length≤1000000) :
  Calls prog 228 #[.slice A l.length c,.int .i64 x] w fun e w'=>e=.returned (.int .i64 (vN x l 0))∧w=w':=by
 go_enter func228,ntmps228
 repeat' go_step
 go_loopw [8] (fun v8 wr=>∃(i:Nat),i≤l.length∧v8=.int .i64 (i:Int)∧vN x l 0=vN x (l.drop i) i∧wr=w) (fun v8 _=>l.length-(intOf v8).toNat)
 case atStart=>exact⟨0,by omega,rfl,by simp,rfl⟩
 case round=>
  obtain⟨i,hi,rfl,hx,rfl⟩:=hrel
  by_cases hlt:i<l.length
  ·have hil:(i:Int)<(l.length:Int):=by omega
   have hw1:=aA.wr ((i:Int)+1)
   obtain⟨ad,u,hA,hu,hc⟩:=h.at_ hlt
   subst hA
   rw[List.getElem?_map,List.getElem?_eq_getElem hlt,Option.map_some,Option.some.injEq]at hu
   subst hu
   rw[drop_eq_getElem_cons hlt]at hx
   conv at hx=>rhs;unfold vN
   generalize l[i]=y at *
   by_cases he:x=y
   ·have d1:(x==y)=true:=beq_iff_eq.2 he
    rw[if_pos he]at hx
    have HX:=hdn hx
    clear hx he
    refine wk ?_
    go_ret
    rw[HX.out]
    exact⟨rfl,rfl⟩
   ·have d1:(x==y)=false:=beq_false_of_ne he
    rw[if_neg he]at hx
    have HX:=hdn hx
    clear hx he
    refine wk ?_
    exact⟨⟨i+1,by omega,by simp,HX.out,trivial⟩,by simp[intOf];omega⟩
  ·obtain rfl:i=l.length:=by omega
   have hil:¬ ((l.length:Int)<(l.length:Int)):=by omega
   have HX:=hdn (show vN x l 0= -1 by rw[hx,drop_length];rfl)
   clear hx
   refine wk ?_
   go_ret
   rw[HX.out]
   exact⟨rfl,rfl⟩
theorem Eh(w:World)(A:Option Addr)(c:Nat)(l:List Int)(x:Int)(h:Rd w 1 A l.length (l.map (Value.int .i64)))(hl:l.length≤1000000) :
  Calls prog 163 #[.slice A l.length c,.int .i64 x] w fun e w'=>e=.returned (.bool (l.contains x))∧w=w':=by
 have C:=KQ w A c l x h hl
 have H:=hdn (Iz x l 0)
 obtain⟨k,hk⟩:=ex1 (vN x l 0)
 rw[hk]at C H
 go_enter func163,ntmps163
 repeat' go_step
 refine C.mono ?_;rintro e w1 ⟨rfl,rfl⟩
 refine wk ?_
 go_ret
 exact⟨by rw[←H.out];rfl,rfl⟩
open Go.Maps
structure Kept(p:Prop):Prop where
 out:p
variable [eU]
theorem Tq(w:World)(M:af)(h:ay w M)(top:Int)(agF:top≤5000) :
  Calls prog 97 #[M.ptr,.int .i64 top] w fun e w'=>∃A c,e=.returned (.slice A (M.pl.late top).length c)∧Own 3 1 w' A (M.pl.late top).length c ((M.pl.late top).map (Value.int .i64))∧aa [] (ah A) w w':=by
 have n7:M.n≤7:=h.ok.n7
 have Eu:w.cell? ⟨M.gs,10,none⟩=some (.pointer (some ⟨M.gw,0,none⟩)):=h.blk.cell 10
 have C0:=Gw w M.gw M.me M.n M.pat M.wt h.nT n7
 have hsl:=Fe M.pat M.wt M.n
 have HSU:=hdn (show M.pl.qA=jQ M.pat M.wt M.n from rfl)
 have Zi:=hdn (show M.pl.leads=(iP M.pat (M.wt.take M.n) 0==(M.me:Int))from rfl)
 obtain⟨su,hsu⟩:=ex1 (jQ M.pat M.wt M.n)
 rw[hsu]at C0 hsl HSU
 rw[af.ptr]
 clear hsu
 go_enter func97,ntmps97
 repeat' go_step
 refine C0.mono ?_;rintro e w1 ⟨As,cs,rfl,hos,hu1⟩
 have h1:=h.au hu1
 have U1:=hu1.g0
 clear C0 Eu
 obtain⟨wa,P8⟩:∃x,w1=x:=⟨_,rfl⟩
 rw[P8]at h1 U1 hos ⊢
 clear P8 hu1
 have c0:∀p:GU wa,p.w.cell? ⟨M.gs,0,none⟩=some (.int .i64 (M.me:Int)):=fun p=>(h1.au p.u).blk.cell 0
 have c10:∀p:GU wa,p.w.cell? ⟨M.gs,10,none⟩=some (.pointer (some ⟨M.gw,0,none⟩)):=fun p=>(h1.au p.u).blk.cell 10
 have CL:∀p:GU wa,Calls prog 161 #[.pointer (some ⟨M.gw,0,none⟩)] p.w fun e w'=>e=.returned (.int .i64 (iP M.pat (M.wt.take M.n) 0))∧∃q:GU wa,w'=q.w:=
  fun p=>p.call (KJ p.w M.gw M.me M.n M.pat M.wt (h1.au p.u).nT n7)
 obtain⟨ldr,Tt⟩:∃x,iP M.pat (M.wt.take M.n) 0=x:=⟨_,rfl⟩
 rw[Tt]at Zi
 simp only[Tt]at CL
 clear Tt
 repeat' (fail_if_success with_reducible refine Ag rfl ?_);first|go_step|simp only[];go_at_K
 refine dx (by kernel_rfl) (by kernel_rfl) ?_
 repeat (go_big_quiet_step (exact CL _))
 refine wpQuiet_nil ?_
 rintro _ ⟨p,rfl⟩
 have h2:=h1.au p.u
 have U2:=U1.trans p.u
 have Zj:=hos.upd p.u (by simp)
 obtain⟨wb,hwb⟩:∃x,p.w=x:=⟨_,rfl⟩
 simp only[hwb]at h2 U2 Zj ⊢
 clear hwb hos h1 U1 c0 c10 CL
 obtain⟨ld,hld⟩:∃x,(ldr==(M.me:Int))=x:=⟨_,rfl⟩
 rw[hld]at Zi
 have q7:wb.cell? ⟨M.gs,7,none⟩=some (.pointer (some ⟨M.gl,0,none⟩)):=h2.blk.cell 7
 have CF:=oo wb M.gl M.bl M.lv M.taken h2.jm
 rw[←af.xx]at CF
 obtain⟨f,hf⟩:=ex1 M.pl.front
 rw[hf]at CF
 rw[hld]
 repeat' go_step
 refine CF.mono ?_;rintro e w3 ⟨rfl,rfl⟩
 refine wk ?_
 have pG:=hdn hf
 clear CF q7 hf hld
 go_loopw [7,8] (fun v7 v8 wr=>Kept (∃(i:Nat)(A:Option Addr)(c:Nat),(i=0∨(i:Int)+f≤top)∧v8=.int .i64 ((f:Int)+i)∧v7=.slice A (M.pl.dJ i).length c∧(M.pl.dJ i).length≤8∧Own 3 1 wr A (M.pl.dJ i).length c ((M.pl.dJ i).map (Value.int .i64))∧aa [] (ah A) wb wr)) (fun _ v8 _=>(top-intOf v8).toNat)
 case atStart=>exact Kept.mk ⟨0,none,0,.inl rfl,by simp,rfl,by simp[Site.Cy],by simpa[Site.Cy]using Own.nil _ _ _,aa.refl _ _⟩
 case round=>
  obtain⟨i,A,c,hi,rfl,rfl,h8,ho,U⟩:=hrel.out
  clear hrel
  have HN:=hdn (M.pl.sH i)
  rw[pG.out]at HN
  have Qa:=hdn (fun(e:i=top.toNat-f)=>M.pl.Iy (top:=top) (by rw[pG.out];exact e) h8)
  have HE2:=hdn (fun(e:i≤top.toNat-f)=>M.pl.Fb (top:=top) (i:=i) (by rw[pG.out];exact e))
  obtain⟨X,hX⟩:=ex1 (M.pl.dJ i)
  simp only[hX]at ho h8 HN Qa HE2 ⊢
  clear hX
  by_cases hlt:(f:Int)+i<top
  ·have dlt:decide ((f:Int)+i<top)=true:=dTx hlt
   by_cases hlen:X.length<8
   ·have aeK:decide ((X.length:Int)<8)=true:=dTo
    obtain⟨x,hx⟩:∃x:Int,(f:Int)+i=x:=⟨_,rfl⟩
    have hw1:=aA.wr (x+1)
    have hwf:(Lit.int .i64 x).wf=true:=jV (by omega) (by omega)
    rw[hx]at dlt HN hlt ⊢
    have h3:=h2.au U
    have C1:=qy wr M.gl M.bl M.lv M.taken h3.jm h3.yJ x hwf
    have q7:wr.cell? ⟨M.gs,7,none⟩=some (.pointer (some ⟨M.gl,0,none⟩)):=h3.blk.cell 7
    have tQ:=hdn (show M.pl.due x=(!(aC x M.lv).isSome&&(!(match aC x M.rs with|some r=>decide ((r.bG:Int)≤(M.pat:Int))|none=>false) &&
      ((aV x M.n==(M.me:Int) && !M.pl.fresh x)||(ld&&su.contains (aV x M.n))))) by
     unfold Site.due
     rw[Zi.out,HSU.out,af.qX,show aC x M.pl.rs=(aC x M.rs).map aS.pl from fH _ _ _,Option.isNone_map]
     cases aC x M.lv<;>cases aC x M.rs<;>simp<;>rfl)
    repeat' first|go_guarded|go_step
    refine C1.mono ?_;rintro e w4 ⟨A4,n4,c4,rfl,-,bM⟩
    have nI:=bM.g0
    have h4:=h3.au bM
    have U4:=U.trans (nI.up _)
    have bY:=ho.upd nI (by simp)
    clear C1 q7 h3 ho U bM nI
    obtain⟨dc,Zk⟩:=ex1 ((aC x M.lv).isSome)
    rw[Zk]at tQ
    rw[Zk]
    clear Zk
    cases dc with
    |true=>
     have HL:=hdn (show M.pl.dJ (i+1)=X by rw[HN.out,tQ.out];simp)
     refine wk ?_
     exact⟨Kept.mk ⟨i+1,A,c,.inr (by omega),(by rw[←hx];rfl),by rw[HL.out],by rw[HL.out];exact h8,by rw[HL.out];exact bY,U4⟩,by simp[intOf];omega⟩
    |false=>
     have hlr:=h4.GI hwf
     have q8:w4.cell? ⟨M.gs,8,none⟩=some (.map (some M.br)):=h4.blk.cell 8
     obtain⟨E,hE⟩:=ex1 ((match aC x M.rs with|some r=>decide ((r.bG:Int)≤(M.pat:Int))|none=>false))
     rw[hE]at tQ
     have Zl:=hdn hE
     clear hE
     obtain⟨pt,hpt⟩:=ex1 (((aC x M.rs).map aS.ptr).getD (.pointer none))
     obtain⟨th,hth⟩:=ex1 ((aC x M.rs).isSome)
     rw[hpt,hth]at hlr
     have Cz:=hdn hpt
     have Ff:=hdn hth
     clear hpt hth
     repeat' first|go_step|simp only[];go_at_K
     go_cut [79]from 37 to 109 (fun s79 wc=>s79=.bool E∧aa [] [] w4 wc)
     case first=>
      cases hq:aC x M.rs with
      |none=>
       have h1:=Zl.out
       have h2':=Cz.out
       have h3:=Ff.out
       simp only[hq,Option.map_none,Option.getD_none,Option.isSome_none]at h1 h2' h3
       subst h1 h2' h3
       go_quiet (fail)
       refine wk ?_
       go_meet
       exact⟨rfl,(aa.refl [] w4).drewN _⟩
      |some r=>
       have h1:=Zl.out
       have h2':=Cz.out
       have h3:=Ff.out
       simp only[hq,Option.map_some,Option.getD_some,Option.isSome_some]at h1 h2' h3
       subst h1 h2' h3
       have r6:∀N,(w4.drewN N).cell? ⟨r.g,6,none⟩=some (.int .i64 (r.bG:Int)):=fun N=>((h4.drewN N).bV _ (aY hq)).blk.cell 6
       have g2:∀N,(w4.drewN N).cell? ⟨M.gs,2,none⟩=some (.int .i64 (M.pat:Int)):=fun N=>(h4.drewN N).blk.cell 2
       rw[aS.ptr]
       go_quiet (fail)
       refine wk ?_
       go_meet
       exact⟨by simp,(aa.refl [] w4).drewN _⟩
     case rest=>
      obtain⟨rfl,bD⟩:=hcut
      have h5:=h4.au bD
      have U5:=U4.trans (bD.up _)
      have dB:=bY.upd bD
      clear h4 U4 bY bD hlr q8
      cases E with
      |true=>
       have HL:=hdn (show M.pl.dJ (i+1)=X by rw[HN.out,tQ.out];simp)
       refine wk ?_
       go_roundw
       case rel=>
        exact Kept.mk ⟨i+1,A,c,.inr (by omega),(by rw[←hx];rfl),by rw[HL.out],by rw[HL.out];exact h8,by rw[HL.out];exact dB,U5⟩
       case measure=>simp[intOf];omega
      |false=>
       obtain⟨wo,hwo⟩:∃x,wc=x:=⟨_,rfl⟩
       rw[hwo]at h5 U5 dB ⊢
       have q1:wo.cell? ⟨M.gs,1,none⟩=some (.int .i64 (M.n:Int)):=h5.blk.cell 1
       have CO:=sD wo x M.n
       obtain⟨o,ho'⟩:∃o,aV x M.n=o:=⟨_,rfl⟩
       rw[ho']at CO tQ
       clear hwo ho'
       repeat' go_step
       refine CO.mono ?_;rintro e w6 ⟨rfl,rfl⟩
       have q0:wo.cell? ⟨M.gs,0,none⟩=some (.int .i64 (M.me:Int)):=h5.blk.cell 0
       have Fg:=yO wo M h5 x hwf
       rw[af.ptr]at Fg
       have Zm:=Zj.upd U5
       have WH:=fun(w7:World)(hu:aa [] [] wo w7)=>Eh w7 As cs su o (Zm.rd.upd hu) (by omega)
       obtain⟨b1,hb1⟩:∃b,(o==(M.me:Int))=b:=⟨_,rfl⟩
       obtain⟨fr,hfr⟩:∃b,M.pl.fresh x=b:=⟨_,rfl⟩
       obtain⟨co,hco⟩:∃b,su.contains o=b:=⟨_,rfl⟩
       simp only[hfr]at Fg
       simp only[hco]at WH
       rw[hb1,hfr,hco]at tQ
       clear hfr hco
       go_upto_region 12 with fail
       go_cut [105]from 37 to 109 (fun aeL wc=>aeL=.bool (b1 && !fr||ld&&co)∧aa [] [] wo wc)
       case first=>
        clear Qa HE2 Zl Cz Ff HN tQ
        cases b1 with
        |false=>
         cases ld with
         |false=>
          refine wk ?_
          go_meet
          exact⟨rfl,aa.refl _ _⟩
         |true=>
          repeat' first|go_guarded|go_step
          refine(WH wo (aa.refl _ _)).mono ?_;rintro e w7 ⟨rfl,rfl⟩
          refine wk ?_
          go_meet
          exact⟨by simp,aa.refl _ _⟩
        |true=>
         cases fr with
         |false=>
          repeat' first|go_guarded|go_step
          refine Fg.mono ?_;rintro e w7 ⟨rfl,gJ⟩
          refine wk ?_
          go_meet
          exact⟨rfl,gJ⟩
         |true=>
          repeat' first|go_guarded|go_step
          refine Fg.mono ?_;rintro e w7 ⟨rfl,gJ⟩
          cases ld with
          |false=>
           refine wk ?_
           go_meet
           exact⟨rfl,gJ⟩
          |true=>
           repeat' first|go_guarded|go_step|simp only[];go_at_K
           refine(WH w7 gJ).mono ?_;rintro e w8 ⟨rfl,rfl⟩
           refine wk ?_
           go_meet
           exact⟨by simp,gJ⟩
       case rest=>
        obtain⟨rfl,jF⟩:=hcut
        obtain⟨F,hF⟩:=ex1 ((b1 && !fr||ld&&co))
        rw[hF]at tQ ⊢
        have U8:=U5.trans (jF.up _)
        have tT:=dB.upd jF
        clear hF Fg WH Zm U5 dB jF h5 q0 q1 CO
        cases F with
        |false=>
         have HL:=hdn (show M.pl.dJ (i+1)=X by rw[HN.out,tQ.out];simp)
         refine wk ?_
         go_roundw
         case rel=>
          exact Kept.mk ⟨i+1,A,c,.inr (by omega),(by rw[←hx];rfl),by rw[HL.out],by rw[HL.out];exact h8,by rw[HL.out];exact tT,U8⟩
         case measure=>simp[intOf];omega
        |true=>
         have HL:=hdn (show M.pl.dJ (i+1)=X++[x] by rw[HN.out,tQ.out];simp)
         refine bN ?_
         refine bQ rfl _ _ 168 rfl 3 underlying168 WG rfl (by decide) tT rfl wc.heap.size rfl rfl rfl rfl (by unfold maxLen;omega) (by omega) ?_
         intro A3 c3 w3 CG Al
         have U9:=U8.trans Al
         clear tT U8 Al
         refine wk ?_
         go_roundw
         case rel=>
          exact Kept.mk ⟨i+1,A3,c3,.inr (by omega),(by rw[←hx];rfl),by rw[HL.out];simp,by rw[HL.out];simp;omega,by rw[HL.out];simpa using CG,U9⟩
         case measure=>simp[intOf];omega
   ·have aeK:decide ((X.length:Int)<8)=false:=dFo
    have HL:=hdn (HE2.out (by omega) (by omega))
    clear Qa HE2
    refine wk ?_
    go_ret
    rw[HL.out]
    exact⟨A,c,rfl,ho,U2.trans U⟩
  ·have dlt:decide ((f:Int)+i<top)=false:=dFx hlt
   have HL:=hdn (Qa.out (by omega))
   clear Qa HE2
   refine wk ?_
   go_ret
   rw[HL.out]
   exact⟨A,c,rfl,ho,U2.trans U⟩
end Go.Proofs.YtijhlbeipglieaaGreat
namespace aA
open Go Go.Proofs.YtijhlbeipglieaaGreat List
namespace Site
variable (s:Site)
def kT:Site:=({s with wt:=bu s.me s.wt s.n} :Site).again
def dA:Site:=s.kT.skip s.kT.bJ
def eF:Site:=(s.dA.late s.dA.bJ).foldl dw s.dA
structure BU(s:Site):Prop where
 held:s.held.length≤600000000
 wt:∀x∈s.wt,0≤x
 bG:∀p∈s.rs,p.2.bG≤4000000000000000000
 aic:s.kT.held.length≤700000000
 beg:∀j x,(s.dA.late s.dA.bJ)[j]? =some x→(((s.dA.late s.dA.bJ).take j).foldl dw s.dA).held.length≤800000000∧
  ((((s.dA.late s.dA.bJ).take j).foldl dw s.dA).low x).may 7=true∧
  (((((s.dA.late s.dA.bJ).take j).foldl dw s.dA).stat x).so=true∨((((s.dA.late s.dA.bJ).take j).foldl dw s.dA).stat x).at_=⟨0,0⟩∧((((s.dA.late s.dA.bJ).take j).foldl dw s.dA).stat x).b= [])
 aid:s.eF.held.length≤900000000
theorem zK(hd:s.down=false):s.tick=if s.eF.front<4096 then s.eF.others (iW s.eF.front (decide ((s.eF.front:Int)<s.dA.bJ))) s.eF.n else s.eF:=by
 unfold tick
 rw[if_neg (by rw[hd];simp)]
 rfl
theorem zL{top x:Int}(h:x∈s.late top):0≤x∧x<top:=by
 have h1:=mem_of_mem_take h
 obtain⟨h2,-⟩:=mem_filter.1 h1
 obtain⟨i,hi,rfl⟩:=mem_map.1 h2
 rw[mem_range'_1]at hi
 omega
end Site
end aA
namespace Go.Proofs.YtijhlbeipglieaaGreat
open Go.RowKit aA Go.Maps Go.Proofs.Tryz List
variable [eU]
theorem ay.Ei{w:World}{M:af}(h:ay w M):M.pl.bJ≤4096:=by
 rw[af.Qb]
 have h1:=h.ok.top.2
 have h2:=(xw M.lv fun p hp=>⟨(h.jm.keys p hp).1,(h.jm.keys p hp).2.1⟩).2
 show max M.top _≤_
 have:M.pl.top=M.top:=rfl
 omega
theorem Sm(w:World)(M:af)(h:ay w M)(hT:M.pl.down=false→M.pl.BU) :
  Calls prog 34 #[M.ptr] w fun e w'=>e=.returned (.tuple #[])∧Gone w w' M M.pl.tick:=by
 have C0:=oF w M h
 rw[af.ptr]at C0 ⊢
 obtain⟨dn,hdU⟩:∃d,M.pl.down=d:=⟨_,rfl⟩
 rw[hdU]at C0
 cases dn with
 |true=>
  have HR:=hdn (show M.pl.tick=M.pl by unfold Site.tick;rw[if_pos hdU])
  obtain⟨R,hR⟩:=ex1 M.pl.tick
  rw[hR]at HR ⊢
  clear hR hT
  go_enter func34,ntmps34
  repeat' go_step
  refine C0.mono ?_;rintro e w1 ⟨rfl,rfl⟩
  refine wk ?_
  exact enT ⟨rfl,M,h,HR.out.symm,rfl,aa.refl _ _⟩
 |false=>
  obtain⟨t1,t2,t3,t4,t5,t6⟩:=hT hdU
  have HR:=hdn (M.pl.zK hdU)
  have n7:M.n≤7:=h.ok.n7
  obtain⟨R,hR⟩:=ex1 M.pl.tick
  rw[hR]at HR ⊢
  have Eu:w.cell? ⟨M.gs,10,none⟩=some (.pointer (some ⟨M.gw,0,none⟩)):=h.blk.cell 10
  have C1:=PK w M.gw M.me M.n M.pat M.wt h.nT n7 t2
  obtain⟨l1,hl1⟩:∃l,M.pl.kT=l:=⟨_,rfl⟩
  have H1:=hdn (show({M.pl with wt:=bu M.me M.wt M.n} :Site).again=l1 from hl1)
  obtain⟨l3,hl3⟩:∃l,M.pl.dA=l:=⟨_,rfl⟩
  have H3:=hdn (show l1.skip l1.bJ=l3 by rw[←hl3,←hl1];rfl)
  obtain⟨l4,hl4⟩:∃l,M.pl.eF=l:=⟨_,rfl⟩
  have H4:=hdn (show(l3.late l3.bJ).foldl Site.dw l3=l4 by rw[←hl4,←hl3];rfl)
  simp only[hl1,hl3,hl4]at t4 t5 t6 HR
  clear hR hl1 hl3 hl4 hT
  go_enter func34,ntmps34
  repeat' go_step
  refine C0.mono ?_;rintro e w1 ⟨rfl,rfl⟩
  repeat' first|go_step|simp only[];go_at_K
  refine C1.mono ?_;rintro e w1 ⟨rfl,hW1,hu1⟩
  obtain⟨h1,V1⟩:=h.watch hu1 hW1
  obtain⟨M1,hM1⟩:∃M1:af,{M with wt:=bu M.me M.wt M.n} =M1:=⟨_,rfl⟩
  rw[hM1]at h1
  replace V1:aa M.fp M1.fp w w1:=by rw[←hM1];exact V1
  have p1:M1.pl= {M.pl with wt:=bu M.me M.wt M.n}:=by rw[←hM1];rfl
  have g1:M1.gs=M.gs:=by rw[←hM1]
  rw[←p1]at H1
  have C2:=Py w1 M1 h1 (by rw[←af.bf,p1];show M.pl.held.length≤_;omega) (by rw[p1];exact t3)
  rw[H1.out,af.ptr,g1]at C2
  clear C0 C1 hM1 hW1 hu1 Eu
  repeat' first|go_step|simp only[];go_at_K
  refine C2.mono ?_;rintro e w2 ⟨rfl,M2,h2,p2,g2,U2⟩
  have g2':=g2.trans g1
  have C3:=Ej w2 M2 h2
  have C4:=fun(wx:World)(hu:aa [] [] w2 wx)=>xq wx M2 (h2.au hu) l1.bJ (by rw[←af.bf,p2];exact t4)
  rw[p2,af.ptr,g2']at C3
  simp only[p2,H3.out,af.ptr,g2']at C4
  have UU:=V1.trans U2
  clear C2 h1 V1 U2 h
  repeat' first|go_step|simp only[];go_at_K
  refine C3.mono ?_;rintro e w3 ⟨rfl,hu3⟩
  repeat' first|go_step|simp only[];go_at_K
  refine(C4 w3 hu3).mono ?_;rintro e w4 ⟨rfl,M4,h4,p4,g4,-,U4⟩
  have g4':=g4.trans g2'
  have C5:=Ej w4 M4 h4
  have hta:=h4.Ei
  have C6:=fun(wx:World)(hu:aa [] [] w4 wx)=>Tq wx M4 (h4.au hu) l3.bJ (by rw[←p4];omega)
  rw[p4,af.ptr,g4']at C5
  simp only[p4,af.ptr,g4']at C6
  rw[p4]at hta
  have U5:=UU.trans ((hu3.up M2.fp).trans U4)
  clear C3 C4 h2 UU U4 hu3
  repeat' first|go_step|simp only[];go_at_K
  refine C5.mono ?_;rintro e w5 ⟨rfl,bD⟩
  repeat' first|go_step|simp only[];go_at_K
  refine(C6 w5 bD).mono ?_;rintro e w6 ⟨A,c,rfl,ho,eP⟩
  have h6:=(h4.au bD).au eP
  have hnw:=(aa.refl [] w5).new eP
  have hsz:=bD.size
  have Ab:∀k∈ah A,k∉M4.fp:=fun k hk hm=>by have e1:=hnw k hk;have e2:=h4.lt k hm;omega
  have U6:=(U5.trans (bD.up M4.fp)).trans (eP.g0.up M4.fp)
  have al0:∀x∈l3.late l3.bJ,0≤x∧x<4096:=fun x hx=>by have:=l3.zL hx;omega
  have PR:(l3.late l3.bJ).length≤8:=by unfold Site.late;rw[length_take];omega
  obtain⟨ls,hls⟩:=ex1 (l3.late l3.bJ)
  obtain⟨tp,htp⟩:=ex1 l3.bJ
  simp only[hls]at ho al0 PR t5 H4 ⊢
  simp only[htp]at HR ⊢
  clear C5 C6 h4 U5 bD eP hnw hls htp
  refine wk ?_
  go_loopw [26] (fun v26 wr=>∃(i:Nat)(M':af),i≤ls.length∧v26=.int .i64 (i:Int)∧ay wr M'∧M'.pl=(ls.take i).foldl Site.dw l3∧M'.gs=M.gs∧aa M4.fp M'.fp w6 wr) (fun v26 _=>ls.length-(intOf v26).toNat)
  case atStart=>exact⟨0,M4,by omega,rfl,h6,p4,g4',aa.refl _ _⟩
  case round=>
   obtain⟨i,M',hi,rfl,h',hp,hg,U⟩:=hrel
   by_cases hlt:i<ls.length
   ·have hil:(i:Int)<(ls.length:Int):=by omega
    have hw1:=aA.wr ((i:Int)+1)
    have ho':=ho.upd U Ab
    obtain⟨ad,u,rfl,hu',hc⟩:=ho'.rd.at_ (k:=i) (by omega)
    rw[List.getElem?_map,List.getElem?_eq_getElem hlt,Option.map_some,Option.some.injEq]at hu'
    subst hu'
    obtain⟨b1,b2,b3⟩:=t5 i _ (List.getElem?_eq_getElem hlt)
    rw[←hp]at b1 b2 b3
    have C7:=Qc wr M' h' ls[i] (al0 _ (getElem_mem hlt)) (by rw[←af.bf];exact b1) b2 b3
    have HS:=hdn (show M'.pl.dw ls[i]=(ls.take (i+1)).foldl Site.dw l3 by rw[take_succ_eq_append_getElem hlt,foldl_append,←hp];rfl)
    rw[af.ptr,hg]at C7
    generalize ls[i]=x at *
    rw[HS.out]at C7
    repeat' go_step
    refine C7.mono ?_;rintro e w8 ⟨rfl,M8,h8,p8,g8,U8⟩
    refine wk ?_
    exact⟨⟨i+1,M8,by omega,by simp,h8,p8,g8.trans hg,U.trans U8⟩,by simp[intOf];omega⟩
   ·obtain rfl:i=ls.length:=by omega
    have hil:¬ ((ls.length:Int)<(ls.length:Int)):=by omega
    rw[take_length,H4.out]at hp
    have q7:wr.cell? ⟨M.gs,7,none⟩=some (.pointer (some ⟨M'.gl,0,none⟩)):=by rw[←hg];exact h'.blk.cell 7
    have C8:=oo wr M'.gl M'.bl M'.lv M'.taken h'.jm
    rw[←af.xx,hp]at C8
    have UE:=U6.trans U
    obtain⟨fr,hfr⟩:=ex1 l4.front
    rw[hfr]at C8 HR
    clear hfr
    repeat' go_step
    refine C8.mono ?_;rintro e w8 ⟨rfl,rfl⟩
    by_cases hf:fr<4096
    ·have df:decide ((fr:Int)<4096)=true:=dTo
     have HRR:=hdn (show R=l4.others (Site.iW fr (decide ((fr:Int)<tp))) l4.n by rw[HR.out,if_pos hf])
     have hms:Mv.ms ⟨8,0,0,fr,0,0,0,0,(decide ((fr:Int)<tp)),none,0,0,[]⟩=Site.iW fr (decide ((fr:Int)<tp)):=rfl
     have C9:=kL wr M' h' ⟨8,0,0,fr,0,0,0,0,(decide ((fr:Int)<tp)),none,0,0,[]⟩ (by rw[hms];refine⟨by simp[Site.iW],by simp,by simp,by simp[Site.iW];omega,by simp[Site.iW],by simp[Site.iW],by simp[Site.iW],by simp[Site.iW],by simp[Site.iW],by right;simp[Site.iW]⟩) (aD.nil _ _) (by simp[ah]) (by rw[←af.bf,hp];exact t6)
     rw[hms,hp,af.ptr,hg,Mv.aH,show M'.n=l4.n from congrArg Site.n hp]at C9
     dsimp only at C9
     repeat' first|go_step|simp only[];go_at_K
     refine C9.mono ?_;rintro e w9 ⟨rfl,M9,h9,p9,g9,-,U9⟩
     refine wk ?_
     exact enR ⟨rfl,M9,h9,p9.trans HRR.out.symm,g9.trans hg,UE.trans U9⟩
    ·have df:decide ((fr:Int)<4096)=false:=dFo
     have HRR:=hdn (show R=l4 by rw[HR.out,if_neg hf])
     refine wk ?_
     exact enR ⟨rfl,M',h',hp.trans HRR.out.symm,hg,UE⟩
