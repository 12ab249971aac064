/- For SitePlays. -/
import Derived.Test.YtijhlbeipglieaaGreatPkRefH
set_option linter.all false
set_option maxRecDepth 100000
set_option maxHeartbeats 16000000
namespace aA
open Go List
def Site.vD(s:Site)(x:Int):Bool:=match aC x s.rs with|some r=>decide (r.bG≤s.pat)|none=>false
theorem Site.aaP(s:Site)(x:Int)(hw:s.wt.getD s.me 0≤s.pat)(hn:s.me<s.n)(ho:0≤aV x s.n∧aV x s.n<s.n):s.due x =
  if(s.dec x).isSome||s.vD x then false
  else if aV x s.n=s.me then !s.fresh x else s.leads&&decide ((s.pat:Int)<s.wt.getD (aV x s.n).toNat 0):=by
 have hc:∀o:Int,0≤o→o<s.n→s.qA.contains o=decide ((s.pat:Int)<s.wt.getD o.toNat 0):=fun o h0 h1=>by
  unfold Site.qA
  rw[Bool.eq_iff_iff,contains_iff_mem,decide_eq_true_eq,mem_map]
  constructor
  ·rintro⟨i,hi,rfl⟩
   have:=(mem_filter.1 hi).2
   simpa using this
  ·intro h
   exact⟨o.toNat,mem_filter.2 ⟨mem_range.2 (by omega),by simpa using h⟩,by omega⟩
 show((s.dec x).isNone && !(s.vD x)&&((aV x s.n==(s.me:Int) && !s.fresh x)||(s.leads&&s.qA.contains (aV x s.n))))=_
 rw[hc _ ho.1 ho.2,←Option.not_isSome]
 generalize s.vD x=B
 by_cases h1:aV x s.n=s.me
 ·rw[h1,if_pos rfl,Int.toNat_natCast,dFx (show ¬ (s.pat:Int)<s.wt.getD s.me 0 by omega)]
  cases(s.dec x).isSome<;>cases B<;>simp
 ·rw[if_neg h1]
  cases(s.dec x).isSome<;>cases B<;>simp[h1]
end aA
namespace Go.Proofs.YtijhlbeipglieaaGreat
open Go.RowKit aA Go.Maps Go.Proofs.Tryz List
theorem aaQ(X:List Nat)(w:World)(r:ai)(s:Site)(h:Ref X w r s)(x:Int)(hw:s.wt.getD s.me 0≤s.pat)(ho:0≤aV x s.n∧aV x s.n<s.n) :
  Calls prog 146 #[r.val,.int .i64 x] w fun e w'=>e=.returned (.bool (s.due x))∧aa [] [] w w':=by
 obtain⟨ii,hii,abx⟩:=fP
 obtain⟨W2,H,eW,hH,hB,U0⟩:=az w 63 r.cells.toArray
 have aK:aa [] [] w W2:=U0.g0
 have h2:=h.grow aK
 have hok:=h.aJ.ok
 rw[Site.aaP s x hw hok.me ho]
 have CD:=mZ W2 r h2.mem x
 have jA:=h2.got x
 obtain⟨g,hg⟩:=ex1 (dX r.L x)
 rw[hg]at CD jA
 obtain⟨og,hog⟩:=ex1 (pI g)
 rw[hog]at CD
 obtain⟨gs,hgs⟩:=ex1 g.isSome
 rw[hgs]at CD jA
 rw[←jA]
 clear hg hog hgs jA
 obtain⟨D,hD⟩:=ex1 ((gs||s.vD x))
 rw[hD]
 have HD:=hdn hD
 clear hD
 obtain⟨R,hR⟩:∃R:Bool,(if D=true then false else if aV x s.n=s.me then !s.fresh x else s.leads&&decide ((s.pat:Int)<s.wt.getD (aV x s.n).toNat 0))=R:=⟨_,rfl⟩
 rw[hR]
 have HR:=hdn hR
 clear hR
 rw[ai.arr]at CD ⊢
 go_enter func146,ntmps146
 repeat' (fail_if_success with_reducible refine ek (t:=63) rfl ?_);go_step
 refine bF hii hB abx ?_
 repeat' go_step
 refine CD.mono ?_;rintro e w3 ⟨rfl,u3⟩
 clear CD
 have hB3:=hB.upd u3
 have h3:=h2.grow u3
 have U3:=aK.trans u3
 have CF:=uY w3 r h3.mem x
 rw[ai.arr]at CF
 repeat' (fail_if_success with_reducible refine ek (t:=63) rfl ?_);first|go_step|simp only[];go_at_K
 refine bF hii hB3 abx ?_
 repeat' go_step
 refine CF.mono ?_;rintro e w6 ⟨k,rfl,adG,u6⟩
 clear CF
 have yc:=h.aJ.find adG
 clear adG
 have dK:=hB3.upd u6
 have h6:=h3.grow u6
 have U6:=U3.trans u6
 have q9:w6.cell? ⟨H,9,none⟩=some (.slice r.RA r.R.length r.rc):=dK.cell 9
 repeat' first|go_step|simp only[];go_at_K
 go_cut [33]from 18 (fun Dw wc=>Dw=.bool D∧aa [] [] w6 wc)
 case first=>
  have HDY:=hdn (show D=(gs||s.vD x)from HD.out.symm)
  obtain⟨gs2,hg2⟩:=ex1 gs
  cases gs with
  |true=>
   have dO:D=true:=HDY.out
   subst dO
   clear yc q9 hg2
   refine dx (by kernel_rfl) (by kernel_rfl) ?_
   repeat (go_big_quiet_step (fail))
   refine wpQuiet_nil ?_
   rintro _ ⟨p,rfl⟩
   refine wk ?_
   go_meet
   exact⟨rfl,p.u⟩
  |false=>
   have Xb:D=s.vD x:=HDY.out
   clear hg2
   rcases yc with⟨rfl,hlk⟩|⟨i,hi,rfl,hsl,hlk⟩
   ·have dO:D=false:=by rw[Xb];unfold Site.vD;rw[hlk]
    subst dO
    clear hlk Xb q9
    refine dx (by kernel_rfl) (by kernel_rfl) ?_
    repeat (go_big_quiet_step (fail))
    refine wpQuiet_nil ?_
    rintro _ ⟨p,rfl⟩
    refine wk ?_
    go_meet
    exact⟨rfl,p.u⟩
   ·obtain⟨ad,gL,h0,hj⟩:=bR.at_ (f:=aL.cells) (s:=8) (fun _=>rfl) h6.mem.R hi
    obtain⟨y,hlk,hj⟩:∃y:aL,aC x s.rs=some y.pl.2∧∀k u,0<k→(aL.cells y)[k]? =some u→w6.cell? ⟨(ad.add (i*8)).block,(ad.add (i*8)).off+k,none⟩=some u:=⟨_,hlk,hj⟩
    have dO:decide ((y.bG:Int)≤(s.pat:Int))=D:=by rw[Xb];unfold Site.vD;rw[hlk];exact decide_eq_decide.2 (by show(y.bG:Int)≤s.pat ↔ y.bG≤s.pat;omega)
    have hil:(i:Int)<(r.R.length:Int):=by omega
    have t0:decide (0≤(i:Int))=true:=dTo
    have c9:∀p:GU w6,p.w.cell? ⟨H,9,none⟩=some (.slice (some ad) r.R.length r.rc):=fun p=>p.u.cell (by rw[q9,gL]) (by simp)
    have c2:∀p:GU w6,p.w.cell? ⟨H,2,none⟩=some (.int .i64 (s.pat:Int)):=fun p=>by rw[(dK.upd p.u (by simp)).cell 2];show some (Value.int .i64 (r.pat:Int))=_;rw[h.aJ.pat]
    have c7:∀p:GU w6,p.w.cell? ⟨(ad.add (i*8)).block,(ad.add (i*8)).off+7,none⟩=some (.int .i64 (y.bG:Int)):=fun p=>p.u.cell (hj 7 _ (by omega) rfl) (by simp)
    obtain⟨ml,nC⟩:=ex1 r.R.length
    rw[nC]at c9 hil
    obtain⟨ag,hag⟩:∃ag:Int,(y.bG:Int)=ag:=⟨_,rfl⟩
    rw[hag]at c7 dO
    clear nC hlk hj h0 gL q9 hag Xb
    refine dx (by kernel_rfl) (by kernel_rfl) ?_
    repeat (go_big_quiet_step (fail))
    refine wpQuiet_nil ?_
    rintro _ ⟨p,rfl⟩
    clear c9 c2 c7
    refine wk ?_
    go_meet
    exact⟨by rw[←dO],p.u⟩
 case rest=>
  obtain⟨rfl,UC⟩:=hcut
  have fM:=dK.upd UC
  have hc:=h6.grow UC
  have Uc:=U6.trans UC
  cases D with
  |true=>
   have JR:R=false:=HR.out.symm
   subst JR
   refine wk ?_
   exact bodyPost_ret (v:=.bool false) (by simp[results,results146]) rfl ⟨rfl,Uc⟩
  |false=>
   have HR2:=hdn (show(if aV x s.n=s.me then !s.fresh x else s.leads&&decide ((s.pat:Int)<s.wt.getD (aV x s.n).toNat 0))=R from HR.out)
   have CO:=sK wc x (s.n:Int)
   have c1:wc.cell? ⟨H,1,none⟩=some (.int .i64 (s.n:Int)):=by rw[fM.cell 1];show some (Value.int .i64 (r.n:Int))=_;rw[h.aJ.n]
   have c0:wc.cell? ⟨H,0,none⟩=some (.int .i64 (s.me:Int)):=by rw[fM.cell 0];show some (Value.int .i64 (r.me:Int))=_;rw[h.aJ.me]
   obtain⟨ow,how⟩:=ex1 (aV x s.n)
   rw[how]at CO ho
   have HOW:=hdn how
   have HR3:=hdn (show(if ow=s.me then !s.fresh x else s.leads&&decide ((s.pat:Int)<s.wt.getD ow.toNat 0))=R by rw[←how];exact HR2.out)
   clear how HD
   by_cases hm:ow=(s.me:Int)
   ·have b1:(ow==(s.me:Int))=true:=by simpa using hm
    have C2:=Bw X wc r s hc x
    obtain⟨fr,hfr⟩:=ex1 (s.fresh x)
    have JR:(!fr)=R:=by have:=HR3.out;rw[if_pos hm,hfr]at this;exact this
    rw[hfr,ai.arr]at C2
    subst JR
    clear hm hfr
    repeat' go_step
    refine CO.mono ?_;rintro e w8 ⟨rfl,rfl⟩
    repeat' (fail_if_success with_reducible refine ek (t:=63) rfl ?_);first|go_step|simp only[];go_at_K
    refine bF hii fM abx ?_
    repeat' go_step
    refine C2.mono ?_;rintro e w9 ⟨rfl,u9⟩
    refine wk ?_
    exact bodyPost_ret (v:=.bool (!fr)) (by simp[results,results146]) rfl ⟨rfl,Uc.trans u9⟩
   ·have b1:(ow==(s.me:Int))=false:=by simpa using hm
    have Xc:(s.leads&&decide ((s.pat:Int)<s.wt.getD ow.toNat 0))=R:=by have:=HR3.out;rw[if_neg hm]at this;exact this
    clear hm
    have BR:∀p:GU wc,p.w.cell? ⟨H,11,none⟩=some (.int .i64 (r.me:Int)):=fun p=>p.u.cell (fM.cell 11) (by simp)
    have Yx:∀p:GU wc,p.w.cell? ⟨H,12,none⟩=some (.int .i64 (r.n:Int)):=fun p=>p.u.cell (fM.cell 12) (by simp)
    have q13:∀p:GU wc,p.w.cell? ⟨H,13,none⟩=some (.int .i64 (r.pat:Int)):=fun p=>p.u.cell (fM.cell 13) (by simp)
    have q14:∀p:GU wc,p.w.cell? ⟨H,14,none⟩=some (.int .i64 r.w0):=fun p=>p.u.cell (fM.cell 14) (by simp)
    have q15:∀p:GU wc,p.w.cell? ⟨H,15,none⟩=some (.int .i64 r.w1):=fun p=>p.u.cell (fM.cell 15) (by simp)
    have q16:∀p:GU wc,p.w.cell? ⟨H,16,none⟩=some (.int .i64 r.w2):=fun p=>p.u.cell (fM.cell 16) (by simp)
    have q17:∀p:GU wc,p.w.cell? ⟨H,17,none⟩=some (.int .i64 r.w3):=fun p=>p.u.cell (fM.cell 17) (by simp)
    have q18:∀p:GU wc,p.w.cell? ⟨H,18,none⟩=some (.int .i64 r.w4):=fun p=>p.u.cell (fM.cell 18) (by simp)
    have q19:∀p:GU wc,p.w.cell? ⟨H,19,none⟩=some (.int .i64 r.w5):=fun p=>p.u.cell (fM.cell 19) (by simp)
    have q20:∀p:GU wc,p.w.cell? ⟨H,20,none⟩=some (.int .i64 r.w6):=fun p=>p.u.cell (fM.cell 20) (by simp)
    have q0:∀p:GU wc,p.w.cell? ⟨H,0,none⟩=some (.int .i64 (s.me:Int)):=fun p=>p.u.cell c0 (by simp)
    have q2:∀p:GU wc,p.w.cell? ⟨H,2,none⟩=some (.int .i64 (s.pat:Int)):=fun p=>by rw[(fM.upd p.u (by simp)).cell 2];show some (Value.int .i64 (r.pat:Int))=_;rw[h.aJ.pat]
    have FP:r.n≤7:=by rw[h.aJ.n];exact hok.n7
    have CW1:∀p:GU wc,Calls prog 220 #[.agg #[.int .i64 (r.me:Int),.int .i64 (r.n:Int),.int .i64 (r.pat:Int),.int .i64 r.w0,.int .i64 r.w1,.int .i64 r.w2,.int .i64 r.w3,.int .i64 r.w4,.int .i64 r.w5,.int .i64 r.w6]] p.w fun e w'=>e=.returned (.int .i64 (iP (r.pat:Int) (r.wt.take r.n) 0))∧∃q:GU wc,w'=q.w:=fun p=>p.call (Lm _ (r.me:Int) r.n (r.pat:Int) r.wt rfl FP)
    have Xd:∀p:GU wc,Calls prog 221 #[.agg #[.int .i64 (r.me:Int),.int .i64 (r.n:Int),.int .i64 (r.pat:Int),.int .i64 r.w0,.int .i64 r.w1,.int .i64 r.w2,.int .i64 r.w3,.int .i64 r.w4,.int .i64 r.w5,.int .i64 r.w6],.int .i64 ow] p.w fun e w'=>e=.returned (.int .i64 (if bz ow r.n then r.wt.getD ow.toNat 0 else 0))∧∃q:GU wc,w'=q.w:=fun p=>p.call (Ll _ (r.me:Int) r.n (r.pat:Int) r.wt rfl FP ow)
    have his:bz ow (r.n:Int)=true:=by rw[h.aJ.n];unfold bz;simp;omega
    simp only[his,if_true]at Xd
    have hld:(iP (r.pat:Int) (r.wt.take r.n) 0==(s.me:Int))=s.leads:=by unfold Site.leads;rw[←h.aJ.pat,←h.aJ.n,←h.aJ.wt]
    have hsv:r.wt.getD ow.toNat 0=s.wt.getD ow.toNat 0:=by rw[h.aJ.wt]
    obtain⟨sv,hs2⟩:=ex1 (r.wt.getD ow.toNat 0)
    rw[←hsv,hs2,←hld]at Xc
    rw[hs2]at Xd
    obtain⟨le,hle⟩:=ex1 (iP (r.pat:Int) (r.wt.take r.n) 0)
    rw[hle]at CW1 Xc
    have HRD:=hdn Xc
    clear hld hsv hs2 hle his Xc
    by_cases hlm:le=(s.me:Int)
    ·have b2:(le==(s.me:Int))=true:=by simpa using hlm
     have JR:decide ((s.pat:Int)<sv)=R:=by have:=HRD.out;rw[b2,Bool.true_and]at this;exact this
     subst JR
     clear hlm
     repeat' go_step
     refine CO.mono ?_;rintro e w8 ⟨rfl,rfl⟩
     repeat' (fail_if_success with_reducible refine Ag rfl ?_);first|go_step|simp only[];go_at_K
     clear c0 c1
     refine dx (by kernel_rfl) (by kernel_rfl) ?_
     repeat (go_big_quiet_step (first|exact CW1 _|exact Xd _))
     refine wpQuiet_nil ?_
     rintro _ ⟨p,rfl⟩
     refine wk ?_
     exact bodyPost_ret (v:=.bool (decide ((s.pat:Int)<sv))) (by simp[results,results146]) rfl ⟨rfl,Uc.trans p.u⟩
    ·have b2:(le==(s.me:Int))=false:=by simpa using hlm
     have JR:R=false:=by have:=HRD.out;rw[b2,Bool.false_and]at this;exact this.symm
     subst JR
     clear hlm
     repeat' go_step
     refine CO.mono ?_;rintro e w8 ⟨rfl,rfl⟩
     repeat' (fail_if_success with_reducible refine Ag rfl ?_);first|go_step|simp only[];go_at_K
     clear c0 c1
     refine dx (by kernel_rfl) (by kernel_rfl) ?_
     repeat (go_big_quiet_step (first|exact CW1 _|exact Xd _))
     refine wpQuiet_nil ?_
     rintro _ ⟨p,rfl⟩
     refine wk ?_
     exact bodyPost_ret (v:=.bool false) (by simp[results,results146]) rfl ⟨rfl,Uc.trans p.u⟩
theorem aD.takeB{w:World}{A:Option Addr}{n:Nat}{l:List UInt8}(h:aD w A n l){k:Nat}(hk:k≤n):aD w A k (l.take k):=by
 have h9:=Rd.take (show Rd w 1 A n _ from h) hk
 rw[Nat.mul_one,show(iH l).take k=iH (l.take k) by unfold iH;rw[map_take]]at h9
 exact h9
theorem Sq(X:List Nat)(w:World)(r:ai)(s:Site)(h:Ref X w r s)(hX:∀k∈X,k<w.heap.size)(k:Int)(hk: -9223372036854775808≤k∧k<9223372036854775808) :
  Calls prog 85 #[r.val,.int .i64 k] w fun e w'=>∃v,e=.returned v∧Came X w w' v (s.jq k):=by
 obtain⟨ii,hii,abx,W,H,eW,hH,hB,U0,W2,G,fu,hG,hBG,U2,hB2,dY,aK,hs0,hs2,hY,hHw,aR,nY,gV,h2,hX2,qG⟩:=yY h hX 63 cz
 have hok:=h.aJ.ok
 have c3:W2.cell? ⟨H,3,none⟩=some (.bool s.down):=by rw[hB2.cell 3];show some (Value.bool r.down)=_;rw[h.aJ.down]
 have c4:W2.cell? ⟨H,4,none⟩=some (.slice r.D.A r.D.n r.D.c):=hB2.cell 4
 have c5:W2.cell? ⟨H,5,none⟩=some (.int .i64 (r.dn:Int)):=hB2.cell 5
 have hDn:=h2.mem.db.len
 have hdk:=h.aJ.dk
 rw[←h.aJ.db,←h.aJ.dn]at hdk
 have CC:=Ox W2 r.D r.dn k hk ⟨by omega,h.mem.dc.1,by omega⟩
 obtain⟨q,hq⟩:=ex1 (r.dn+(max 0 (min k ((r.D.n:Int) - r.dn))).toNat)
 rw[hq]at CC
 have hqk:s.kept k=q:=by unfold Site.kept;rw[←hq,←h.aJ.dn,←h.aJ.db,hDn]
 have hqn:q≤r.D.n:=by rw[←hq];omega
 clear hDn
 simp only[mO]at CC
 obtain⟨dn,hdU⟩:=ex1 s.down
 rw[hdU]at c3
 obtain⟨F,hF⟩:=ex1 (s.jq k)
 rw[hF,ai.arr]
 have HF:=hdn hF
 clear hF hq
 go_enter func85,ntmps85
 cases dn with
 |true=>
  have bC:=hdn (show F=s by rw[←HF.out];unfold Site.jq;rw[if_pos hdU])
  clear hdU
  repeat' (fail_if_success with_reducible refine ek (t:=63) rfl ?_);go_step
  refine bF hii hB2 abx ?_
  refine bK ?_
  refine bL r.cells hii abx hBG ?_
  intro W8 aX u8
  refine wk ?_
  exact fG results85 hii aX abx ⟨_,rfl,r,rfl,by rw[bC.out];exact(h2.upd u8).less,aK.aB aR u8⟩
 |false=>
  have bC:=hdn (show F= {s with db:=s.db.take q,dn:=q,down:=true} by rw[←HF.out];unfold Site.jq;rw[if_neg (by rw[hdU];simp),hqk])
  clear hdU
  repeat' go_step
  refine CC.mono ?_;rintro e w3 ⟨rfl,u3⟩
  clear CC c3 c4 c5
  have hB3:=hB2.upd u3
  have hG3:=hBG.upd u3
  have h3:=h2.grow u3
  have U3:=aK.trans u3
  obtain⟨Wa,hWa⟩:=ex1 (w3.setCell ⟨H,4,none⟩ (.slice r.D.A q r.D.c))
  obtain⟨Wb,Nh⟩:=ex1 (Wa.setCell ⟨H,5,none⟩ (.int .i64 (q:Int)))
  obtain⟨Wc,hWc⟩:=ex1 (Wb.setCell ⟨H,3,none⟩ (.bool true))
  have c4:w3.cell? ⟨H,4,none⟩=some (.slice r.D.A r.D.n r.D.c):=hB3.cell 4
  have f4:=hB3.frozen 4
  have ua:aa [H] [H] w3 Wa:=by rw[←hWa];exact(aa.refl [H] w3).setCell (p:=⟨H,4,none⟩) (.inl (by simp)) _
  have hBa:=hB3.aO 4 (.slice r.D.A q r.D.c)
  rw[hWa]at hBa
  have c5:Wa.cell? ⟨H,5,none⟩=some (.int .i64 (r.dn:Int)):=hBa.cell 5
  have c5':w3.cell? ⟨H,5,none⟩=some (.int .i64 (r.dn:Int)):=hB3.cell 5
  have f5:=hBa.frozen 5
  have f5':=hB3.frozen 5
  have ub:aa [H] [H] Wa Wb:=by rw[←Nh];exact(aa.refl [H] Wa).setCell (p:=⟨H,5,none⟩) (.inl (by simp)) _
  have hBb:=hBa.aO 5 (.int .i64 (q:Int))
  rw[Nh]at hBb
  have c3:Wb.cell? ⟨H,3,none⟩=some (.bool r.down):=hBb.cell 3
  have f3:=hBb.frozen 3
  have uc:aa [H] [H] Wb Wc:=by rw[←hWc];exact(aa.refl [H] Wb).setCell (p:=⟨H,3,none⟩) (.inl (by simp)) _
  obtain⟨r1,hr1⟩:∃r1:ai,{r with D:=⟨r.D.A,q,r.D.c,r.D.b.take q⟩,dn:=q,down:=true} =r1:=⟨_,rfl⟩
  have fM:ak Wc H 63 r1.cells.toArray:=by
   have:=hBb.aO 3 (.bool true)
   rw[hWc]at this
   rw[←hr1]
   exact this
  have kc:=((h3.upd ua).upd ub).upd uc
  have kR:Ref ([H,G]++X) Wc r1 F:=by
   rw[←hr1,bC.out]
   have S:=kc.aJ
   have hlen:r.D.b.length=r.D.n:=kc.mem.db.len.symm
   have agI:∀k∈dV r.D.A q,k∈dV r.D.A r.D.n:=fun k hk=>by
    unfold dV at hk ⊢
    split at hk
    ·cases hk
    ·rw[if_neg (by omega)];exact hk
   refine⟨⟨aD.takeB kc.mem.db hqn,⟨Nat.le_trans hqn kc.mem.dc.1,kc.mem.dc.2⟩,kc.mem.K,kc.mem.kb,kc.mem.L,kc.mem.lb,kc.mem.R,kc.mem.rc,kc.mem.rb,kc.mem.held,kc.mem.hb,kc.mem.big⟩,
    ⟨S.me,S.n,S.pat,rfl,by show r.D.b.take q=s.db.take q;rw[S.db],rfl,S.st,S.kn,S.kr,S.top,S.lv,S.ln,S.lr,S.taken,S.tk,S.rs,S.rn,S.nx,S.wt,S.held,⟨S.ok.me,S.ok.n3,S.ok.n7,S.ok.pat,S.ok.st,S.ok.rs,S.ok.top,S.ok.nx,S.ok.held⟩,?_⟩,fun k hk hm=>?_⟩
   ·show(s.db.take q).length≤_∧q≤(s.db.take q).length
    have:=S.db
    rw[length_take,←this,hlen]
    omega
   ·rcases ai.sub.1 hk with hk|hk
    ·exact kc.off k (ai.sub.2 (.inl (agI k hk))) hm
    ·exact kc.off k (ai.sub.2 (.inr hk)) hm
  have eO:=((hG3.upd ua gV).upd ub gV).upd uc gV
  have Uc:=((U3.aB hHw ua).aB hHw ub).aB hHw uc
  clear ua ub uc kc hBa hBb hr1 h3 HF
  repeat' (fail_if_success with_reducible refine ek (t:=63) rfl ?_);first|go_step|simp only[];go_at_K
  refine bF hii fM abx ?_
  refine bK ?_
  refine bL r1.cells hii abx eO ?_
  intro W8 aX u8
  refine wk ?_
  exact fG results85 hii aX abx ⟨_,rfl,r1,rfl,(kR.upd u8).less,Uc.aB aR u8⟩
theorem iM.Ga{r:ai}{s:Site}(h:iM r s):∀k q,mM r.L k q=fe s.lv k q
 |0,_=>rfl
 |k+1,q=>by
  have e:(dX r.L (q:Int)).isSome=(aC (q:Int) s.lv).isSome:=by
   have:=h.lv (q:Int)
   unfold Site.dec at this
   rw[←this,Option.isSome_map]
  unfold mM fe
  rw[e,iM.Ga h k (q+1)]
theorem AR{α:Type}(L:AL α)(n:Nat):∀t,t≤n→(∀i:Nat,i<t→(aC (i:Int) L).isSome=true)→fe L n 0=fe L (n-t) t
 |0,_,_=>rfl
 |t+1,ht,hd=>by
  rw[AR L n t (by omega) (fun i hi=>hd i (by omega)),show n-t=(n-(t+1))+1 by omega]
  conv=>lhs;unfold fe
  rw[if_pos (hd t (by omega))]
theorem iM.front{r:ai}{s:Site}(h:iM r s):mM r.L 4096 0=s.front:=by
 rw[h.Ga]
 exact AR _ _ _ h.tk.1 h.tk.2
theorem DL{α:Type}(L:AL α):∀k q,q≤fe L k q
 |0,_=>Nat.le_refl _
 |k+1,q=>by
  unfold fe
  split
  ·have:=DL L k (q+1);omega
  ·exact Nat.le_refl _
theorem AU{α:Type}(L:AL α):∀k q (i:Nat),(∀j:Nat,j<q→(aC (j:Int) L).isSome=true)→i<fe L k q→(aC (i:Int) L).isSome=true
 |0,_,i,h,hi=>h i hi
 |k+1,q,i,h,hi=>by
  unfold fe at hi
  split at hi
  ·refine AU L k (q+1) i (fun j hj=>?_) hi
   rcases Nat.lt_succ_iff_lt_or_eq.1 hj with h1|rfl
   ·exact h j h1
   ·assumption
  ·exact h i hi
theorem Su(X:List Nat)(w:World)(r:ai)(s:Site)(h:Ref X w r s)(hX:∀k∈X,k<w.heap.size) :
  Calls prog 87 #[r.val] w fun e w'=>∃v A c,e=.returned (.tuple #[v,.slice A (s.front-s.taken) c])∧Came X w w' v s.takes.1∧uV w' A ((range' s.taken (s.front-s.taken)).map (sS r.L)):=by
 obtain⟨ii,hii,abx,W,H,eW,hH,hB,U0,W2,G,fu,hG,hBG,U2,hB2,dY,aK,hs0,hs2,hY,hHw,aR,nY,gV,h2,hX2,qG⟩:=yY h hX 63 cz
 have hok:=h.aJ.ok
 have Ci:s.front≤4096:=by rw[←h.aJ.front];have:=FM r.L 4096 0;omega
 have yh:s.taken≤s.front:=by unfold Site.front;exact(DL s.lv _ _)
 have CF:=oq W2 r.LA r.lc r.L h2.mem.L h2.mem.big.2.1
 rw[h.aJ.front]at CF
 have c7:W2.cell? ⟨H,7,none⟩=some (.slice r.LA r.L.length r.lc):=hB2.cell 7
 have c8:W2.cell? ⟨H,8,none⟩=some (.int .i64 (s.taken:Int)):=by rw[hB2.cell 8];show some (Value.int .i64 (r.taken:Int))=_;rw[h.aJ.taken]
 have f8:=hB2.frozen 8
 have CB:=Je W2 r.LA r.lc r.L h2.mem.L h2.mem.big.2.1 h2.mem.lb s.taken s.front ⟨yh,Ci⟩
 obtain⟨fr,hfr⟩:=ex1 s.front
 have HT1:=hdn (show s.takes.1= {s with taken:=fr} by rw[←hfr];rfl)
 obtain⟨F,hF⟩:=ex1 s.takes.1
 rw[hF]at HT1
 rw[hfr]at CF CB Ci yh
 rw[hF,hfr,ai.arr]
 have pG:=hdn hfr
 clear hF hfr
 go_enter func87,ntmps87
 repeat' go_step
 refine CF.mono ?_;rintro e w3 ⟨rfl,rfl⟩
 clear CF
 repeat' first|go_step|simp only[];go_at_K
 refine CB.mono ?_;rintro e w4 ⟨A,c,rfl,hrd,hA,u4⟩
 clear CB c7 c8 f8
 have hB4:=hB2.upd u4
 have hG4:=hBG.upd u4
 have h4:=h2.grow u4
 have U4:=aK.trans u4
 obtain⟨W5,hW5⟩:=ex1 (w4.setCell ⟨H,8,none⟩ (.int .i64 (fr:Int)))
 have c8:w4.cell? ⟨H,8,none⟩=some (.int .i64 (r.taken:Int)):=hB4.cell 8
 have f8:=hB4.frozen 8
 have u5:aa [H] [H] w4 W5:=by rw[←hW5];exact(aa.refl [H] w4).setCell (p:=⟨H,8,none⟩) (.inl (by simp)) _
 have fw:=hB4.aO 8 (.int .i64 (fr:Int))
 rw[hW5]at fw
 have fw:ak W5 H 63 ({r with taken:=fr} :ai).cells.toArray:=fw
 have gF:=hG4.upd u5 gV
 have k5:=h4.upd u5
 have kR:Ref ([H,G]++X) W5 {r with taken:=fr} F:=by
  rw[HT1.out]
  have S:=k5.aJ
  have hd:∀i:Nat,i<fr→(s.dec i).isSome=true:=fun i hi=>by
   rw[←pG.out]at hi
   exact AU s.lv _ _ i (fun j hj=>S.tk.2 j hj) hi
  exact⟨⟨k5.mem.db,k5.mem.dc,k5.mem.K,k5.mem.kb,k5.mem.L,k5.mem.lb,k5.mem.R,k5.mem.rc,k5.mem.rb,k5.mem.held,k5.mem.hb,k5.mem.big⟩,
   ⟨S.me,S.n,S.pat,S.down,S.db,S.dn,S.st,S.kn,S.kr,S.top,S.lv,S.ln,S.lr,rfl,⟨Ci,hd⟩,S.rs,S.rn,S.nx,S.wt,S.held,⟨S.ok.me,S.ok.n3,S.ok.n7,S.ok.pat,S.ok.st,S.ok.rs,S.ok.top,S.ok.nx,S.ok.held⟩,S.dk⟩,k5.off⟩
 have U5:=U4.aB hHw u5
 have Rh:∀k∈ah A,k∉[H]∧k∉[G]:=fun k hk=>by
  have h1:=hA k hk
  have h2:=hB2.lt
  have h3:=hBG.lt
  simp only[mem_singleton]
  omega
 clear k5 h4
 repeat' (fail_if_success with_reducible refine ek (t:=63) rfl ?_);first|go_step|simp only[];go_at_K
 refine eZ rfl _ 63 rfl hii (fun _=>rfl) rfl ({r with taken:=fr} :ai).cells abx fw ?_
 refine bK ?_
 refine bL ({r with taken:=fr} :ai).cells hii abx gF ?_
 intro W8 aX u8
 refine wk ?_
 have kF:=(kR.upd u8).less (Y:=X) (by simp +contextual)
 refine bodyPost_ret (jZ (s:=2) (u:=3) (t:=63) (by rw[results87]) rfl hii (fun _=>rfl) ({r with taken:=fr} :ai).cells abx aX) rfl ⟨_,A,c,rfl,⟨_,rfl,kF,U5.aB aR u8⟩,?_,fun x hx=>?_⟩
 ·exact(Rd.upd (Rd.upd hrd.row u5 (fun k hk=>(Rh k hk).1)) u8 (fun k hk=>(Rh k hk).2))
 ·obtain⟨i,-,rfl⟩:=mem_map.1 hx
  unfold sS
  cases hg:dX r.L (i:Int) with
  |none=>exact aD.nil _ _
  |some y=>exact kF.mem.lb _ (qB hg)
def ai.new(me n pat:Nat):ai:=⟨me,n,pat,false,⟨none,0,0,[]⟩,0,none,0,[],none,0,[],0,none,0,[],0,0,0,0,0,0,0,0,none,0,[]⟩
theorem Ref.new(X:List Nat)(w:World)(me n pat:Nat)(h1:me<n)(h3:3≤n)(h7:n≤7)(hp:1≤pat∧pat≤1000):Ref X w (ai.new me n pat) (Site.new me n pat):=
 ⟨⟨aD.nil _ _,⟨Nat.le_refl _,by unfold maxLen;simp[ai.new]⟩,⟨rfl,Rd.none_⟩,by simp[ai.new],⟨rfl,Rd.none_⟩,by simp[ai.new],⟨rfl,Rd.none_⟩,⟨Nat.le_refl _,by unfold maxLen;simp[ai.new]⟩,by simp[ai.new],⟨rfl,Rd.none_⟩,by simp[ai.new],by simp[ai.new]⟩,
  ⟨rfl,rfl,rfl,rfl,rfl,rfl,fun _=>rfl,by simp[ai.new],by simp[ai.new],rfl,fun _=>rfl,by simp[ai.new],by simp[ai.new],rfl,⟨by simp[Site.new],by simp[Site.new]⟩,rfl,by simp[Site.new],rfl,rfl,rfl,
   ⟨h1,h3,h7,hp,by simp[Site.new],by simp[Site.new],by simp[Site.new],by simp[Site.new],by simp[Site.new]⟩,by simp[Site.new]⟩,fun k hk=>by simp[ai.fp,ai.new,dV]at hk⟩
theorem Pp(w:World)(me n pat:Nat)(h3:3≤n)(h7:n≤7)(hok:fB (me:Int) (n:Int) (pat:Int)=true) :
  Calls prog 30 #[.int .i64 (me:Int),.int .i64 (n:Int),.int .i64 (pat:Int)] w fun e w'=>e=.returned (.tuple #[(ai.new me n pat).val,.int .i64 0])∧aa [] [] w w':=by
 obtain⟨ii,hii,abx⟩:=fP
 obtain⟨W,G,eW,hG,hBG,U0⟩:=az w 63 cz
 have WK:aa [] [] w W:=U0.g0
 have CN:=IB W (me:Int) (n:Int) (pat:Int)
 rw[hok]at CN
 simp only[if_true,iA,dI]at CN
 go_enter func30,ntmps30
 have d3:decide ((n:Int)<3)=false:=dFo
 repeat' go_step
 refine CN.mono ?_;rintro e w3 ⟨rfl,u3⟩
 clear CN
 have hG3:=hBG.upd u3
 have U3:=WK.trans u3
 have aR:∀k∈[G],w.heap.size≤k:=ge1
 repeat' (fail_if_success with_reducible refine eT (t:=63) rfl ?_);first|go_guarded|go_step|simp only[];go_at_K
 refine bL (ai.new me n pat).cells hii abx (hG3.alloc _) ?_
 intro W8 aX u8
 refine wk ?_
 exact bodyPost_ret (jZ (s:=6) (u:=7) (t:=63) (by rw[results30]) rfl hii (fun _=>rfl) (ai.new me n pat).cells abx aX) rfl ⟨rfl,(U3.trans ((aa.refl [] w3).alloc _)).aB aR u8⟩
section
variable {w w':World} {a b X Y F:List Nat} {r:ai} {s:Site} {A:Option Addr} {n:Nat} {l:List UInt8}
theorem Ep(hu:aa a b w w')(hlt:∀k∈F,k<w.heap.size)(h:∀k∈F,k∉a++Y):∀k∈F,k∉b++Y:=fun k hk hm=>by
 rcases mem_append.1 hm with hm|hm
 ·rcases hu.fresh k hm with hh|hh
  ·exact h k hk (mem_append.2 (.inl hh))
  ·have:=hlt k hk;omega
 ·exact h k hk (mem_append.2 (.inr hm))
theorem Ref.swap(h:Ref (a++Y) w r s)(hu:aa a b w w'):Ref (b++Y) w' r s:=
 ⟨h.mem.vP hu fun k hk hm=>h.off k hk (mem_append.2 (.inl hm)),h.aJ,Ep hu h.mem.lt h.off⟩
theorem dU.swap(h:dU (a++Y) w A n l)(hu:aa a b w w'):dU (b++Y) w' A n l:=
 ⟨h.rd.iN hu fun k hk hm=>h.off k hk (mem_append.2 (.inl hm)),Ep hu (Rd.pY h.rd (by omega)) h.off⟩
structure pV(X:List Nat)(w:World)(A:Option Addr)(l:List Mv):Prop where
 rd:bR Mv.cells 10 w A l.length l
 gB:∀x∈l,dU X w x.A x.n x.b
 off:∀k∈dV A l.length,k∉X
theorem pV.upd{l:List Mv}(h:pV X w A l)(hu:aa a b w w')(ha:∀k∈a,k∈X:=by simp):pV X w' A l:=
 ⟨h.rd.iN hu fun k hk hm=>h.off k hk (ha k hm),fun x hx=>(h.gB x hx).upd hu ha,h.off⟩
theorem pV.grow{l:List Mv}(h:pV X w A l)(hu:aa [] b w w'):pV X w' A l:=h.upd hu
theorem pV.lt{l:List Mv}(h:pV X w A l):∀k∈dV A l.length,k<w.heap.size:=Rd.pY h.rd.rd (by omega)
theorem pV.swap{l:List Mv}(h:pV (a++Y) w A l)(hu:aa a b w w'):pV (b++Y) w' A l:=
 ⟨h.rd.iN hu fun k hk hm=>h.off k hk (mem_append.2 (.inl hm)),fun x hx=>(h.gB x hx).swap hu,Ep hu h.lt h.off⟩
theorem Ref.ae5(h:Ref X w r s):pV X w r.HA r.held:=
 ⟨h.mem.held,fun x hx=>⟨h.mem.hb x hx,fun k hk=>h.off k (ai.sub.2 (.inr (.inr (.inr (.inr (.inr (.inr (.inr (.inr ⟨x,hx,hk⟩)))))))))⟩,fun k hk=>h.off k (ai.sub.2 (.inr (.inr (.inr (.inr (.inr (.inr (.inr (.inl hk)))))))))⟩
theorem Ref.JS(h:Ref X w r s):Ref X w {r with dn:=r.D.n,HA:=none,hc:=0,held:=[]} {s with dn:=s.db.length,held:=[]}:=by
 have S:=h.aJ
 have hDn:=h.mem.db.len
 refine⟨⟨h.mem.db,h.mem.dc,h.mem.K,h.mem.kb,h.mem.L,h.mem.lb,h.mem.R,h.mem.rc,h.mem.rb,⟨rfl,Rd.none_⟩,by simp,h.mem.big.1,h.mem.big.2.1,h.mem.big.2.2.1,by simp⟩,
  ⟨S.me,S.n,S.pat,S.down,S.db,by show r.D.n=s.db.length;rw[hDn,S.db],S.st,S.kn,S.kr,S.top,S.lv,S.ln,S.lr,S.taken,S.tk,S.rs,S.rn,S.nx,S.wt,rfl,S.ok.put (l:=[]) (by simp) |>.disk s.db s.db.length,⟨S.dk.1,Nat.le_refl _⟩⟩,fun k hk=>?_⟩
 rcases ai.sub.1 hk with hk|hk|hk|hk|hk|hk|hk|hk|⟨x,hx,hk⟩
 ·exact h.off k (ai.sub.2 (.inl hk))
 ·exact h.off k (ai.sub.2 (.inr (.inl hk)))
 ·exact h.off k (ai.sub.2 (.inr (.inr (.inl hk))))
 ·exact h.off k (ai.sub.2 (.inr (.inr (.inr (.inl hk)))))
 ·exact h.off k (ai.sub.2 (.inr (.inr (.inr (.inr (.inl hk))))))
 ·exact h.off k (ai.sub.2 (.inr (.inr (.inr (.inr (.inr (.inl hk)))))))
 ·exact h.off k (ai.sub.2 (.inr (.inr (.inr (.inr (.inr (.inr (.inl hk))))))))
 ·simp[dV]at hk
 ·cases hx
end
end Go.Proofs.YtijhlbeipglieaaGreat
namespace aA
open Go Go.Proofs.YtijhlbeipglieaaGreat List
theorem Ri(s:Site):s.again=(((bS (fun r:Rn=>{r with bG:=r.bG+1}) s.rs).take 8).foldl (fun u p=>u.others (Site.asks p.2 p.1) u.n) {s with rs:=bS (fun r=>{r with bG:=r.bG+1}) s.rs}):=by
 unfold Site.again bS
 rw[←map_take,foldl_map]
 rfl
theorem Vj(L:AL Rn):∀(i:Nat)(s:Site),s.n≤7→(((L.take i).foldl (fun u p=>u.others (Site.asks p.2 p.1) u.n) s).held.length≤s.held.length+7*i∧((L.take i).foldl (fun u p=>u.others (Site.asks p.2 p.1) u.n) s).n=s.n):=by
 induction L with
 |nil=>intro i s _;simp
 |cons p L ih=>
  intro i s h
  cases i with
  |zero=>simp
  |succ i=>
   rw[take_succ_cons,foldl_cons]
   have hn:(s.others (Site.asks p.2 p.1) s.n).n=s.n:=(Site.fJ _ _).2
   obtain⟨h1,h2⟩:=ih i (s.others (Site.asks p.2 p.1) s.n) (by rw[hn];exact h)
   refine⟨?_,h2.trans hn⟩
   have h3:(s.others (Site.asks p.2 p.1) s.n).held.length≤s.held.length+7:=by
    rw[Site.bH]
    show(s.held++s.tell (Site.asks p.2 p.1) s.n).length≤_
    rw[length_append]
    have:=s.gQ (Site.asks p.2 p.1) s.n
    omega
   omega
end aA
namespace Go.Proofs.YtijhlbeipglieaaGreat
open Go.RowKit aA Go.Maps List
def aL.older(x:aL):aL:={x with bG:=x.bG+1}
def jR(l:List aL)(i:Nat):List aL:=(l.take i).map aL.older++l.drop i
theorem zu(l:List aL)(i:Nat):(jR l i).length=l.length:=by unfold jR;rw[length_append,length_map,←length_append,take_append_drop]
theorem OH(l:List aL):jR l 0=l:=by unfold jR;simp
theorem Rj(l:List aL):jR l l.length=l.map aL.older:=by unfold jR;simp
theorem Gb(l:List aL):(l.flatMap aL.cells).length=l.length*8:=by
 induction l with
 |nil=>rfl
 |cons x l ih=>rw[flatMap_cons,length_append,ih,length_cons,aL.iG];omega
theorem Vk(l:List aL){i:Nat}(h:i<l.length):(jR l i)[i]'(by rw[zu];exact h)=l[i]:=by
 unfold jR
 have alR:min i l.length=i:=by omega
 rw[getElem_append_right (by rw[length_map,length_take];omega)]
 simp[alR]
theorem Rk(l:List aL){i:Nat}(h:i<l.length):((jR l i).flatMap aL.cells).set (i*8+7) (.int .i64 ((l[i].bG:Int)+1))=(jR l (i+1)).flatMap aL.cells:=by
 have hl:((l.take i).map aL.older).length=i:=by rw[length_map,length_take];omega
 have e1:jR l i=(l.take i).map aL.older++l[i]::l.drop (i+1):=by unfold jR;rw[drop_eq_getElem_cons h]
 have e2:jR l (i+1)=(l.take i).map aL.older++l[i].older::l.drop (i+1):=by
  unfold jR
  rw[take_succ_eq_append_getElem h,map_append,append_assoc]
  rfl
 rw[e1,e2,flatMap_append,flatMap_append,flatMap_cons,flatMap_cons,set_append_right _ _ (by rw[Gb,hl];omega),Gb,hl,Nat.add_sub_cancel_left,set_append_left _ _ (by rw[aL.iG];omega)]
 rfl
section
variable {w w':World} {a b X Y:List Nat} {r:ai} {s:Site}
structure zw(X:List Nat)(w:World)(A:Option Addr)(l:List aL):Prop where
 rd:bR aL.cells 8 w A l.length l
 rb:∀x∈l,iO X w x
 off:∀k∈dV A l.length,k∉X
theorem zw.upd{A:Option Addr}{l:List aL}(h:zw X w A l)(hu:aa a b w w')(ha:∀k∈a,k∈X:=by simp):zw X w' A l:=
 ⟨h.rd.iN hu fun k hk hm=>h.off k hk (ha k hm),fun x hx=>(h.rb x hx).upd hu ha,h.off⟩
theorem Ref.ae6(h:Ref X w r s):zw X w r.RA r.R:=
 ⟨h.mem.R,fun _ hx=>h.roB hx,fun k hk=>h.off k (ai.sub.2 (.inr (.inr (.inr (.inr (.inr (.inl hk)))))))⟩
theorem Ref.ae7(h:Ref X w r s){A:Option Addr}{c:Nat}(hR:bR aL.cells 8 w A r.R.length (r.R.map aL.older))(hc:r.R.length≤c∧c≤maxLen)(hA:∀k∈dV A r.R.length,k∉X) :
  Ref X w {r with RA:=A,rc:=c,R:=r.R.map aL.older} {s with rs:=bS (fun r=>{r with bG:=r.bG+1}) s.rs}:=by
 have S:=h.aJ
 have hlen:(r.R.map aL.older).length=r.R.length:=length_map _
 refine⟨⟨h.mem.db,h.mem.dc,h.mem.K,h.mem.kb,h.mem.L,h.mem.lb,by rw[hlen];exact hR,by rw[hlen];exact hc,fun x hx=>?_,h.mem.held,h.mem.hb,⟨h.mem.big.1,h.mem.big.2.1,by rw[hlen];exact h.mem.big.2.2.1,h.mem.big.2.2.2⟩⟩,
  ⟨S.me,S.n,S.pat,S.down,S.db,S.dn,S.st,S.kn,S.kr,S.top,S.lv,S.ln,S.lr,S.taken,S.tk,?_,?_,S.nx,S.wt,S.held,⟨S.ok.me,S.ok.n3,S.ok.n7,S.ok.pat,S.ok.st,fun p hp=>?_,S.ok.top,S.ok.nx,S.ok.held⟩,S.dk⟩,fun k hk=>?_⟩
 ·obtain⟨y,hy,rfl⟩:=mem_map.1 hx
  have:=h.mem.rb y hy
  exact⟨this.pr,this.pb,this.vt,this.v⟩
 ·show(r.R.map aL.older).map aL.pl=bS (fun r:Rn=>{r with bG:=r.bG+1}) s.rs
  rw[←S.rs]
  unfold bS
  rw[map_map,map_map]
  rfl
 ·show((bS (fun r:Rn=>{r with bG:=r.bG+1}) s.rs).map Prod.fst).Nodup
  have:(bS (fun r:Rn=>{r with bG:=r.bG+1}) s.rs).map Prod.fst=s.rs.map Prod.fst:=by unfold bS;rw[map_map];rfl
  rw[this]
  exact S.rn
 ·obtain⟨q,hq,rfl⟩:=mem_map.1 hp
  exact S.ok.rs q hq
 ·rcases ai.sub.1 hk with hk|hk|hk|hk|hk|hk|⟨x,hx,hk⟩|hk
  ·exact h.off k (ai.sub.2 (.inl hk))
  ·exact h.off k (ai.sub.2 (.inr (.inl hk)))
  ·exact h.off k (ai.sub.2 (.inr (.inr (.inl hk))))
  ·exact h.off k (ai.sub.2 (.inr (.inr (.inr (.inl hk)))))
  ·exact h.off k (ai.sub.2 (.inr (.inr (.inr (.inr (.inl hk))))))
  ·exact hA k (by rw[←hlen];exact hk)
  ·obtain⟨y,hy,rfl⟩:=mem_map.1 hx
   exact h.off k (ai.sub.2 (.inr (.inr (.inr (.inr (.inr (.inr (.inl ⟨y,hy,hk⟩))))))))
  ·exact h.off k (ai.sub.2 (.inr (.inr (.inr (.inr (.inr (.inr (.inr hk))))))))
end
