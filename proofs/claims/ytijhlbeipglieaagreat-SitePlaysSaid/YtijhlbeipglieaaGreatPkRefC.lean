/- For SitePlays. -/
import Derived.Test.YtijhlbeipglieaaGreatPkRefB
set_option linter.all false
set_option maxRecDepth 100000
set_option maxHeartbeats 8000000
namespace Go.Proofs.YtijhlbeipglieaaGreat
open Go.RowKit aA Go.Maps Go.Proofs.Tryz List
def qF(x:Mv):List Value:=[.int .i64 x.k,.int .i64 x.f,.int .i64 x.t,.int .i64 x.s,.int .i64 x.br,.int .i64 x.bs,.int .i64 x.hr,.int .i64 x.hs,.bool x.so,.slice x.A x.n x.c]
theorem Mv.xG(x:Mv):x.val=.agg (qF x).toArray:=x.aH
theorem uW:∃i,prog.info? 32=some i∧i.size=10:=⟨_,rfl,by kernel_rfl⟩
theorem uk(w:World)(s:Int)(V:aM):Calls prog 210 #[.int .i64 s,.slice V.A V.n V.c] w fun e w'=>e=.returned (Mv.val ⟨7,0,0,s,0,0,0,0,true,V.A,V.n,V.c,V.b⟩)∧aa [] [] w w':=by
 obtain⟨ii,hii,abx⟩:=uW
 obtain⟨W,G,eW,hG,hBG,U0⟩:=az w 32 #[.int .i64 0,.int .i64 0,.int .i64 0,.int .i64 0,.int .i64 0,.int .i64 0,.int .i64 0,.int .i64 0,.bool false,.slice none 0 0]
 have dm:=U0.g0
 rw[Mv.xG]
 go_enter func210,ntmps210
 repeat' (fail_if_success with_reducible refine eT (t:=32) rfl ?_);first|go_values|go_skip|go_guarded|go_step|go_upon|simp only[];go_at_K
 refine di rfl _ _ 32 rfl hii rfl (qF ⟨7,0,0,s,0,0,0,0,true,V.A,V.n,V.c,V.b⟩) rfl abx hBG rfl rfl ?_
 intro W5 gF u5
 refine wk ?_
 exact bodyPost_ret (fK (s:=4) (t:=32) (by rw[results210]) rfl hii (fun _=>rfl) (qF ⟨7,0,0,s,0,0,0,0,true,V.A,V.n,V.c,V.b⟩) abx gF) rfl ⟨rfl,dm.aB (X:=[G]) (by simp only[mem_singleton];rintro k rfl;omega) u5⟩
theorem xH(w:World)(s:Int)(b:Bl):Calls prog 140 #[.int .i64 s,b.val] w fun e w'=>e=.returned (Mv.val ⟨6,0,0,s,b.r,b.s,0,0,false,none,0,0,[]⟩)∧aa [] [] w w':=by
 obtain⟨ii,hii,abx⟩:=uW
 obtain⟨W,H,eW,hH,hB,U0⟩:=az w 30 #[.int .i64 b.r,.int .i64 b.s]
 obtain⟨W2,G,fu,hG,hBG,U2⟩:=az W 32 #[.int .i64 0,.int .i64 0,.int .i64 0,.int .i64 0,.int .i64 0,.int .i64 0,.int .i64 0,.int .i64 0,.bool false,.slice none 0 0]
 have hs0:=U0.size
 have aK:aa [] [] w W2:=U0.g0.trans U2.g0
 obtain⟨⟨b0,b1⟩,-⟩:=(hB.upd U2).c2
 rw[Mv.xG,Bl.val]
 go_enter func140,ntmps140
 repeat' (fail_if_success with_reducible refine eT (t:=32) rfl ?_);first|go_values|go_skip|go_guarded|go_step|go_upon|simp only[];go_at_K
 refine di rfl _ _ 32 rfl hii rfl (qF ⟨6,0,0,s,b.r,b.s,0,0,false,none,0,0,[]⟩) rfl abx hBG rfl rfl ?_
 intro W5 gF u5
 refine wk ?_
 exact bodyPost_ret (fK (s:=4) (t:=32) (by rw[results140]) rfl hii (fun _=>rfl) (qF ⟨6,0,0,s,b.r,b.s,0,0,false,none,0,0,[]⟩) abx gF) rfl ⟨rfl,aK.aB (X:=[G]) (by simp only[mem_singleton];rintro k rfl;omega) u5⟩
theorem Aw(w:World)(s:Int)(b:Bl)(T:aN):Calls prog 215 #[.int .i64 s,b.val,T.val] w fun e w'=>e=.returned (Mv.val ⟨4,0,0,s,b.r,b.s,T.at_.r,T.at_.s,T.so,T.A,T.n,T.c,T.b⟩)∧aa [] [] w w':=by
 obtain⟨ii,hii,abx⟩:=uW
 obtain⟨W,H,eW,hH,hB,U0⟩:=az w 30 #[.int .i64 b.r,.int .i64 b.s]
 obtain⟨W1,J,nK,hJ,fT,U1⟩:=az W 166 #[.int .i64 T.p.r,.int .i64 T.p.s,.bool T.so,.int .i64 T.at_.r,.int .i64 T.at_.s,.slice T.A T.n T.c]
 obtain⟨W2,G,fu,hG,hBG,U2⟩:=az W1 32 #[.int .i64 0,.int .i64 0,.int .i64 0,.int .i64 0,.int .i64 0,.int .i64 0,.int .i64 0,.int .i64 0,.bool false,.slice none 0 0]
 have hs0:=U0.size
 have hs1:=U1.size
 have aK:aa [] [] w W2:=(U0.g0.trans U1.g0).trans U2.g0
 obtain⟨⟨b0,b1⟩,-⟩:=((hB.upd U1).upd U2).c2
 obtain⟨⟨j0,j1,j2,j3,j4,j5⟩,-⟩:=(fT.upd U2).c6
 rw[Mv.xG,Bl.val,aN.val]
 go_enter func215,ntmps215
 repeat' (fail_if_success with_reducible refine eT (t:=32) rfl ?_);first|go_values|go_skip|go_guarded|go_step|go_upon|simp only[];go_at_K
 refine di rfl _ _ 32 rfl hii rfl (qF ⟨4,0,0,s,b.r,b.s,T.at_.r,T.at_.s,T.so,T.A,T.n,T.c,T.b⟩) rfl abx hBG rfl rfl ?_
 intro W5 gF u5
 refine wk ?_
 exact bodyPost_ret (fK (s:=6) (t:=32) (by rw[results215]) rfl hii (fun _=>rfl) (qF ⟨4,0,0,s,b.r,b.s,T.at_.r,T.at_.s,T.so,T.A,T.n,T.c,T.b⟩) abx gF) rfl ⟨rfl,aK.aB (X:=[G]) (by simp only[mem_singleton];rintro k rfl;omega) u5⟩
def ni(r:aL):Mv:=if r.so then⟨if r.ax.r=0 then 1 else 5,0,0,r.slot,r.ax.r,r.ax.s,r.ax.r,r.ax.s,true,r.v.A,r.v.n,r.v.c,r.v.b⟩ else⟨3,0,0,r.slot,r.ax.r,r.ax.s,0,0,false,none,0,0,[]⟩
theorem Bv(r:aL):(ni r).ms=Site.asks r.pl.2 r.pl.1:=by unfold ni Site.asks aL.pl;split<;>rfl
theorem uX(w:World)(r:aL):Calls prog 138 #[r.val] w fun e w'=>e=.returned (ni r).val∧aa [] [] w w':=by
 obtain⟨ii,hii,abx⟩:=uW
 obtain⟨W,H,eW,hH,hB,U0⟩:=az w 230 r.cells.toArray
 obtain⟨W2,G,fu,hG,hBG,U2⟩:=az W 32 #[.int .i64 0,.int .i64 0,.int .i64 0,.int .i64 0,.int .i64 0,.int .i64 0,.int .i64 0,.int .i64 0,.bool false,.slice none 0 0]
 obtain⟨W3,J,ME,hJ,fT,U3⟩:=az W2 32 #[.int .i64 5,.int .i64 0,.int .i64 0,.int .i64 r.slot,.int .i64 r.ax.r,.int .i64 r.ax.s,.int .i64 r.ax.r,.int .i64 r.ax.s,.bool true,.slice r.v.A r.v.n r.v.c]
 have hs0:=U0.size
 have hs2:=U2.size
 have hs3:=U3.size
 have aK:aa [] [] w W2:=U0.g0.trans U2.g0
 have rP:aa [] [] w W3:=aK.trans U3.g0
 have hB2:=hB.upd U2
 have q0:W2.cell? ⟨H,0,none⟩=some (.int .i64 r.slot):=hB2.cell 0
 have q1:W2.cell? ⟨H,1,none⟩=some (.int .i64 r.ax.r):=hB2.cell 1
 have q2:W2.cell? ⟨H,2,none⟩=some (.int .i64 r.ax.s):=hB2.cell 2
 have q4:W2.cell? ⟨H,4,none⟩=some (.bool r.so):=hB2.cell 4
 have q5:W2.cell? ⟨H,5,none⟩=some (.slice r.v.A r.v.n r.v.c):=hB2.cell 5
 have p1:W3.cell? ⟨H,1,none⟩=some (.int .i64 r.ax.r):=U3.cell q1 (by simp)
 have hG3:=hBG.upd U3
 have hGJ:G≠J:=by have:=hBG.lt;omega
 have HA:=hdn (ni.eq_def r)
 obtain⟨F,hF⟩:=ex1 (ni r)
 rw[hF]at HA ⊢
 clear hF
 rw[Mv.xG,aL.val]
 clear hB2 hB
 go_enter func138,ntmps138
 cases hso:r.so with
 |false=>
  rw[hso]at q4 HA
  have dQ:F=⟨3,0,0,r.slot,r.ax.r,r.ax.s,0,0,false,none,0,0,[]⟩:=HA.out
  subst dQ
  clear ME hJ
  repeat' (fail_if_success with_reducible refine eT (t:=32) rfl ?_);first|go_values|go_skip|go_guarded|go_step|go_upon|simp only[];go_at_K
  refine di rfl _ _ 32 rfl hii rfl (qF ⟨3,0,0,r.slot,r.ax.r,r.ax.s,0,0,false,none,0,0,[]⟩) rfl abx hBG rfl rfl ?_
  intro W5 gF u5
  refine wk ?_
  exact bodyPost_ret (fK (s:=2) (t:=32) (by rw[results138]) rfl hii (fun _=>rfl) (qF ⟨3,0,0,r.slot,r.ax.r,r.ax.s,0,0,false,none,0,0,[]⟩) abx gF) rfl ⟨rfl,aK.aB (X:=[G]) (by simp only[mem_singleton];rintro k rfl;omega) u5⟩
 |true=>
  rw[hso]at q4 HA
  have HA2:=hdn (show F=⟨if r.ax.r=0 then 1 else 5,0,0,r.slot,r.ax.r,r.ax.s,r.ax.r,r.ax.s,true,r.v.A,r.v.n,r.v.c,r.v.b⟩from HA.out)
  clear HA
  obtain⟨⟨g0,g1,g2,g3,g4,g5,g6,g7,g8,g9⟩,l0,l1,l2,l3,l4,l5,l6,l7,l8,l9⟩:=hG3.c10
  obtain⟨⟨j0,j1,j2,j3,j4,j5,j6,j7,j8,j9⟩,m0,-⟩:=fT.c10
  have aR:w.heap.size≤G:=by omega
  by_cases h0:r.ax.r=0
  ·have t0:(r.ax.r==0)=true:=by rw[h0];rfl
   obtain⟨W4,kv⟩:=ex1 (W3.setCell ⟨J,0,none⟩ (.int .i64 1))
   have u4:aa [J] [J] W3 W4:=by rw[←kv];exact(aa.refl [J] W3).setCell (p:=⟨J,0,none⟩) (.inl (by simp)) _
   have QJ:ak W4 J 32 #[.int .i64 1,.int .i64 0,.int .i64 0,.int .i64 r.slot,.int .i64 r.ax.r,.int .i64 r.ax.s,.int .i64 r.ax.r,.int .i64 r.ax.s,.bool true,.slice r.v.A r.v.n r.v.c]:=by rw[←kv];exact fT.aO 0 _
   have hG4:=hG3.upd u4 (by simpa using hGJ)
   have uf:=rP.aB (X:=[J]) (by simp only[mem_singleton];rintro k rfl;omega) u4
   have fin:=dM (w:=w) [.int .i64 1,.int .i64 0,.int .i64 0,.int .i64 r.slot,.int .i64 r.ax.r,.int .i64 r.ax.s,.int .i64 r.ax.r,.int .i64 r.ax.s,.bool true,.slice r.v.A r.v.n r.v.c] hG4 rfl uf (.inr aR)
   simp only[setRow]at fin
   obtain⟨hf,hu⟩:=fin
   obtain⟨⟨y0,y1,y2,y3,y4,y5,y6,y7,y8,y9⟩,-⟩:=hf.c10
   clear g0 g1 g2 g3 g4 g5 g6 g7 g8 g9 l0 l1 l2 l3 l4 l5 l6 l7 l8 l9
   obtain⟨⟨g0,g1,g2,g3,g4,g5,g6,g7,g8,g9⟩,l0,l1,l2,l3,l4,l5,l6,l7,l8,l9⟩:=hG4.c10
   obtain⟨⟨k0,k1,k2,k3,k4,k5,k6,k7,k8,k9⟩,-⟩:=QJ.c10
   have dQ:F=⟨1,0,0,r.slot,r.ax.r,r.ax.s,r.ax.r,r.ax.s,true,r.v.A,r.v.n,r.v.c,r.v.b⟩:=by rw[HA2.out,if_pos h0]
   subst dQ
   have HH:=hdn h0
   clear h0 hf u4 uf hG4 QJ
   refine wk ?_
   exact bodyPost_ret (v:=.agg (qF ⟨1,0,0,r.slot,r.ax.r,r.ax.s,r.ax.r,r.ax.s,true,r.v.A,r.v.n,r.v.c,r.v.b⟩).toArray) (by simp[results,results138,go_sem,qF,y0,y1,y2,y3,y4,y5,y6,y7,y8,y9]) rfl ⟨rfl,hu⟩
  ·have t0:(r.ax.r==0)=false:=beq_false_of_ne h0
   have fin:=dM (w:=w) [.int .i64 5,.int .i64 0,.int .i64 0,.int .i64 r.slot,.int .i64 r.ax.r,.int .i64 r.ax.s,.int .i64 r.ax.r,.int .i64 r.ax.s,.bool true,.slice r.v.A r.v.n r.v.c] hG3 rfl rP (.inr aR)
   simp only[setRow]at fin
   obtain⟨hf,hu⟩:=fin
   obtain⟨⟨y0,y1,y2,y3,y4,y5,y6,y7,y8,y9⟩,-⟩:=hf.c10
   have dQ:F=⟨5,0,0,r.slot,r.ax.r,r.ax.s,r.ax.r,r.ax.s,true,r.v.A,r.v.n,r.v.c,r.v.b⟩:=by rw[HA2.out,if_neg h0]
   subst dQ
   have HH:=hdn h0
   clear h0 hf
   refine wk ?_
   exact bodyPost_ret (v:=.agg (qF ⟨5,0,0,r.slot,r.ax.r,r.ax.s,r.ax.r,r.ax.s,true,r.v.A,r.v.n,r.v.c,r.v.b⟩).toArray) (by simp[results,results138,go_sem,qF,y0,y1,y2,y3,y4,y5,y6,y7,y8,y9]) rfl ⟨rfl,hu⟩
theorem rf:(prog.info? 230).map (fun i=>(i.zero,i.size,i.bytes))=some (some (.agg #[.int .i64 0,.int .i64 0,.int .i64 0,.slice none 0 0,.bool false,.slice none 0 0,.slice none 0 0,.int .i64 0]),8,112):=by kernel_rfl
structure aQ(p:Prop):Prop where
 out:p
def WT(R:List aL)(x:Int)(k:Int):Prop:=k= -1∧(∀p∈R,p.slot≠x)∨∃(i:Nat)(hi:i<R.length),k=(i:Int)∧R[i].slot=x
theorem uY(w:World)(r:ai)(h:lX w r)(x:Int):Calls prog 219 #[r.val,.int .i64 x] w fun e w'=>∃k,e=.returned (.int .i64 k)∧WT r.R x k∧aa [] [] w w':=by
 obtain⟨W,H,eW,hH,hB,U0⟩:=az w 63 r.cells.toArray
 have dm:=U0.g0
 have q9:W.cell? ⟨H,9,none⟩=some (.slice r.RA r.R.length r.rc):=hB.cell 9
 have acy:=h.R.au U0
 have agG:=h.big.2.2.1
 rw[ai.arr]
 generalize r.R=R at *
 go_enter func219,ntmps219
 repeat' go_step
 go_loopw [5] (fun v5 wr=>aQ (∃i:Nat,i≤R.length∧v5=.int .i64 (i:Int)∧(∀p∈R.take i,p.slot≠x)∧W=wr)) (fun v5 _=>R.length-(intOf v5).toNat)
 case atStart=>exact aQ.mk ⟨0,by omega,rfl,by simp,by trivial⟩
 case round=>
  obtain⟨i,hi,rfl,hd,hwr⟩:=hrel.out
  subst hwr
  clear hrel
  have HD:=hdn hd
  clear hd
  by_cases hlt:i<R.length
  ·have hil:(i:Int)<(R.length:Int):=by omega
   have hw1:=aA.wr ((i:Int)+1)
   obtain⟨ad,gL,h0,hj⟩:=bR.at_ (f:=aL.cells) (s:=8) (fun _=>rfl) acy hlt
   rw[gL]at q9
   have HT:=hdn (show R.take (i+1)=R.take i++[R[i]]from take_succ_eq_append_getElem hlt)
   obtain⟨y,hy,h0⟩:∃y,R[i]=y∧∀u,(aL.cells y)[0]? =some u→W.cell? (ad.add (i*8))=some u:=⟨_,rfl,h0⟩
   have HY:=hdn hy
   have d0:=h0 _ rfl
   clear h0 hj hy gL
   by_cases e1:y.slot=x
   ·have t1:(y.slot==x)=true:=by rw[e1];exact beq_self_eq_true _
    have HE:=hdn e1
    have EH:=hdn hlt
    clear e1
    refine wk ?_
    go_ret
    exact⟨(i:Int),rfl,.inr ⟨i,EH.out,rfl,by rw[HY.out];exact HE.out⟩,dm⟩
   ·have t1:(y.slot==x)=false:=beq_false_of_ne e1
    refine wk ?_
    refine⟨aQ.mk ⟨i+1,by omega,by simp,fun p hp=>?_,by trivial⟩,by simp[intOf];omega⟩
    rw[HT.out]at hp
    rcases mem_append.1 hp with hp|hp
    ·exact HD.out p hp
    ·rw[mem_singleton]at hp
     subst hp
     rw[HY.out]
     exact e1
  ·obtain rfl:i=R.length:=by omega
   have hil:¬ ((R.length:Int)<(R.length:Int)):=by omega
   refine wk ?_
   go_ret
   exact⟨-1,rfl,.inl ⟨rfl,fun p hp=>HD.out p (by rw[take_length];exact hp)⟩,dm⟩
def qx(R:List aL)(x:Int):List aL:=R.filter fun p=>!decide (p.slot=x)
theorem iM.qx{r:ai}{s:Site}(h:iM r s)(x:Int)(A:Option Addr)(c:Nat):iM {r with RA:=A,rc:=c,R:=qx r.R x} {s with rs:=dD x s.rs}:=by
 refine⟨h.me,h.n,h.pat,h.down,h.db,h.dn,h.st,h.kn,h.kr,h.top,h.lv,h.ln,h.lr,h.taken,h.tk,?_,?_,h.nx,h.wt,h.held,h.ok.Cx x,h.dk⟩
 ·show(Go.Proofs.YtijhlbeipglieaaGreat.qx r.R x).map aL.pl=dD x s.rs
  rw[←h.rs]
  unfold Go.Proofs.YtijhlbeipglieaaGreat.qx dD
  rw[filter_map];rfl
 ·show((dD x s.rs).map Prod.fst).Nodup
  unfold dD
  exact h.rn.sublist (List.filter_sublist.map _)
theorem xI(X:List Nat)(w:World)(r:ai)(s:Site)(h:Ref X w r s)(hX:∀k∈X,k<w.heap.size)(x:Int) :
  Calls prog 208 #[r.val,.int .i64 x] w fun e w'=>∃v,e=.returned v∧Came X w w' v {s with rs:=dD x s.rs}:=by
 obtain⟨ii,hii,abx,W,H,eW,hH,hB,U0,W2,G,fu,hG,hBG,U2,hB2,dY,aK,hs0,hs2,-,hHw,aR,-⟩:=yY h hX 63 cz
 have acy:=h.mem.R.au aK
 have agG:=h.aJ.rl
 obtain⟨R,hR⟩:=ex1 r.R
 have q9:W2.cell? ⟨H,9,none⟩=some (.slice r.RA R.length r.rc):=by rw[←hR];exact hB2.cell 9
 have HR:=hdn hR
 rw[hR]at acy agG
 clear hR
 rw[ai.arr]
 go_enter func208,ntmps208
 repeat' go_step
 go_loopw [5,6] (fun v5 v6 wr=>aQ (∃(i:Nat)(A:Option Addr)(c:Nat)(l:List aL),i≤R.length∧v6=.int .i64 (i:Int)∧v5=.slice A l.length c∧l=qx (R.take i) x∧l.length≤i∧
  aA.Own 230 8 wr A l.length c (l.flatMap aL.cells)∧(∀k∈ah A,W2.heap.size≤k)∧aa [] [] W2 wr)) (fun _ v6 _=>R.length-(intOf v6).toNat)
 case atStart=>exact aQ.mk ⟨0,none,0,[],by omega,rfl,rfl,rfl,by simp,aA.Own.nil _ _ _,by simp[ah],aa.refl _ _⟩
 case round=>
  obtain⟨i,A,c,l,hi,rfl,rfl,hl,Ae,ho,hA,U⟩:=hrel.out
  clear hrel
  have HL:=hdn hl
  clear hl
  have q9':=U.cell q9 (by simp)
  by_cases hlt:i<R.length
  ·have hil:(i:Int)<(R.length:Int):=by omega
   have hw1:=aA.wr ((i:Int)+1)
   obtain⟨ad,gL,h0,hj⟩:=bR.at_ (f:=aL.cells) (s:=8) (fun _=>rfl) (acy.au U) hlt
   rw[gL]at q9'
   have HT:=hdn (show qx (R.take (i+1)) x=l++(if R[i].slot=x then[] else[R[i]]) by
    rw[HL.out,take_succ_eq_append_getElem hlt]
    unfold qx
    rw[filter_append]
    congr 1
    by_cases e:R[i].slot=x<;>simp[e])
   obtain⟨y,hy,h0,hj⟩:∃y,R[i]=y∧(∀u,(aL.cells y)[0]? =some u→wr.cell? (ad.add (i*8))=some u)∧∀k u,0<k→(aL.cells y)[k]? =some u→wr.cell? ⟨(ad.add (i*8)).block,(ad.add (i*8)).off+k,none⟩=some u:=⟨_,rfl,h0,hj⟩
   rw[hy]at HT
   have d0:=h0 _ rfl
   have d1:=hj 1 _ (by omega) rfl
   have d2:=hj 2 _ (by omega) rfl
   have d3:=hj 3 _ (by omega) rfl
   have d4:=hj 4 _ (by omega) rfl
   have d5:=hj 5 _ (by omega) rfl
   have d6:=hj 6 _ (by omega) rfl
   have d7:=hj 7 _ (by omega) rfl
   clear h0 hj hy gL
   obtain⟨ll,hll⟩:=ex1 l.length
   have nA:=hdn hll
   rw[hll]at ho Ae ⊢
   clear hll
   by_cases e1:y.slot=x
   ·have t1:(y.slot != x)=false:=by rw[e1];exact bne_self_eq_false _
    have HE:=hdn e1
    clear e1
    refine bN ?_
    exact⟨aQ.mk ⟨i+1,A,c,l,by omega,by simp,by rw[nA.out],by rw[HT.out,if_pos HE.out,append_nil],by rw[nA.out];omega,by rw[nA.out];exact ho,hA,U⟩,by simp[intOf];omega⟩
   ·have t1:(y.slot != x)=true:=by simp only[bne_iff_ne];exact e1
    repeat' (fail_if_success with_reducible refine Ag rfl ?_);go_step
    refine bQ rfl _ _ 58 rfl 230 underlying58 rf rfl (by decide) ho rfl wr.heap.size rfl rfl (news:=aL.cells y) rfl rfl (by unfold maxLen;omega) (by omega) ?_
    intro A6 c6 w6 iX eP
    have hs:=U.size
    have jH:∀k∈ah A6,W2.heap.size≤k:=fun k hk=>by
     rcases eP.fresh k hk with hh|hh
     ·exact hA k hh
     ·omega
    have U6:aa [] [] W2 w6:=U.aB hA eP
    clear d0 d1 d2 d3 d4 d5 d6 d7 q9'
    refine wk ?_
    refine⟨aQ.mk ⟨i+1,A6,c6,l++[y],by omega,by simp,by simp[nA.out],by rw[HT.out,if_neg e1],by simp[nA.out];omega,?_,jH,U6⟩,by simp[intOf];omega⟩
    rw[length_append,nA.out,flatMap_append]
    simpa using iX
  ·obtain rfl:i=R.length:=by omega
   have hil:¬ ((R.length:Int)<(R.length:Int)):=by omega
   have hB3:=hB2.upd U
   have hG3:=hBG.upd U
   have MI:=hdn (show l=qx r.R x by rw[HL.out,take_length,HR.out])
   obtain⟨W4,kv⟩:=ex1 (wr.setCell ⟨H,9,none⟩ (.slice A l.length c))
   have f9:=hB3.frozen 9
   have u4:aa [H] [H] wr W4:=by rw[←kv];exact(aa.refl [H] wr).setCell (p:=⟨H,9,none⟩) (.inl (by simp)) _
   have hB4:ak W4 H 63 ({r with RA:=A,rc:=c,R:=l} :ai).cells.toArray:=by rw[←kv];exact hB3.aO 9 _
   have hG4:=hG3.upd u4 (by simpa using dY)
   have adT:=ho.cap
   have hA':∀k∈ah A,w.heap.size≤k:=fun k hk=>by have:=hA k hk;omega
   have zb:∀k∈ah A,k≠H∧k≠G:=fun k hk=>by have h1:=hA k hk;have h2:=hB2.lt;have h3:=hBG.lt;omega
   have RES:=hdn (show ∀W5,aa [G] [G] W4 W5→Ref X W5 {r with RA:=A,rc:=c,R:=l} {s with rs:=dD x s.rs}from fun W5 u5=>by
    have qQ:aa [] [] w W5:=((aK.trans U).aB hHw u4).aB aR u5
    have h5:=(h.grow qQ)
    have dB:=(ho.upd u4 (fun k hk=>by simpa using(zb k hk).1)).upd u5 (fun k hk=>by simpa using(zb k hk).2)
    have agI:∀y∈l,y∈r.R:=fun y hy=>by rw[MI.out]at hy;exact(mem_filter.1 hy).1
    have hlen:l.length≤4096:=by
     have:l.length≤r.R.length:=by rw[MI.out];exact length_filter_le _ _
     have:=h.aJ.rl
     omega
    refine⟨⟨h5.mem.db,h5.mem.dc,h5.mem.K,h5.mem.kb,h5.mem.L,h5.mem.lb,⟨rfl,dB.rd⟩,adT,fun y hy=>h5.mem.rb y (agI y hy),h5.mem.held,h5.mem.hb,h5.mem.big.1,h5.mem.big.2.1,by show l.length≤_;omega,h5.mem.big.2.2.2⟩,by rw[MI.out];exact h.aJ.qx x A c,fun k hk hm'=>?_⟩
    have hlt:=hX k hm'
    have old:∀{p:Prop},(k∈r.fp)→p:=fun hf=>absurd hm' (h.off k hf)
    rcases ai.sub.1 hk with hk|hk|hk|hk|hk|hk|⟨y,hy,hk⟩|hk|hk
    ·exact old (ai.sub.2 (.inl hk))
    ·exact old (ai.sub.2 (.inr (.inl hk)))
    ·exact old (ai.sub.2 (.inr (.inr (.inl hk))))
    ·exact old (ai.sub.2 (.inr (.inr (.inr (.inl hk)))))
    ·exact old (ai.sub.2 (.inr (.inr (.inr (.inr (.inl hk))))))
    ·have:=hA' k (ji k hk);omega
    ·exact old (ai.sub.2 (.inr (.inr (.inr (.inr (.inr (.inr (.inl ⟨y,agI y hy,hk⟩))))))))
    ·exact old (ai.sub.2 (.inr (.inr (.inr (.inr (.inr (.inr (.inr (.inl hk)))))))))
    ·exact old (ai.sub.2 (.inr (.inr (.inr (.inr (.inr (.inr (.inr (.inr hk))))))))))
   have UL:=hdn ((aK.trans U).aB hHw u4)
   obtain⟨ll,hll⟩:=ex1 l.length
   rw[hll]at kv ⊢
   clear hll ho adT
   repeat' (fail_if_success with_reducible refine ek (t:=63) rfl ?_);go_step
   refine eZ rfl _ 63 rfl hii (fun _=>rfl) rfl ({r with RA:=A,rc:=c,R:=l} :ai).cells abx hB4 ?_
   refine bK ?_
   refine bL ({r with RA:=A,rc:=c,R:=l} :ai).cells hii abx hG4 ?_
   intro W5 gF u5
   refine wk ?_
   exact bodyPost_ret (fK (s:=4) (t:=63) (by rw[results208]) rfl hii (fun _=>rfl) ({r with RA:=A,rc:=c,R:=l} :ai).cells abx gF) rfl ⟨_,rfl,_,rfl,RES.out W5 u5,UL.out.aB aR u5⟩
end Go.Proofs.YtijhlbeipglieaaGreat
namespace aA
open Go List
theorem ze{α β:Type}{f:α→List β}{s:Nat}(hs:∀x,(f x).length=s):∀(l:List α)(a:Nat),(l.flatMap f).take (a*s)=(l.take a).flatMap f
 |[],a=>by simp
 |x::l,0=>by simp
 |x::l,a+1=>by
  rw[flatMap_cons,take_succ_cons,flatMap_cons,take_append,hs,Nat.succ_mul,Nat.add_sub_cancel,ze hs l a,take_of_length_le (by rw[hs];omega)]
theorem zf{α β:Type}{f:α→List β}{s:Nat}(hs:∀x,(f x).length=s):∀(l:List α)(a:Nat),(l.flatMap f).drop (a*s)=(l.drop a).flatMap f
 |[],a=>by simp
 |x::l,0=>by simp
 |x::l,a+1=>by
  rw[flatMap_cons,drop_succ_cons,drop_append,hs,Nat.succ_mul,Nat.add_sub_cancel,zf hs l a,drop_eq_nil_of_le (by rw[hs];omega),nil_append]
theorem MO{α:Type}(e:Int × α):∀(M:AL α)(a:Nat),(∀(j:Nat)(h:j<M.length),j<a→M[j].1<e.1)→(∀h:a<M.length,e.1≤M[a].1)→(∀p∈M,p.1≠e.1)→jM e M=M.take a++e::M.drop a
 |[],a,_,_,_=>by simp[jM]
 |y::M,0,_,h2,h3=>by
  have h2:=h2 (by simp)
  have h3:=h3 y (by simp)
  simp only[getElem_cons_zero]at h2
  unfold jM
  rw[if_pos (by omega)];simp
 |y::M,a+1,h1,h2,h3=>by
  have h0:=h1 0 (by simp) (by omega)
  simp only[getElem_cons_zero]at h0
  unfold jM
  rw[if_neg (by omega),MO e M a (fun j h hj=>by have:=h1 (j+1) (by simp;omega) (by omega);simpa using this) (fun h=>by have:=h2 (by simp;omega);simpa using this) (fun p hp=>h3 p (by simp[hp]))]
  simp
end aA
namespace Go.Proofs.YtijhlbeipglieaaGreat
open Go.RowKit aA Go.Maps Go.Proofs.Tryz List
theorem ak.c8{w:World}{g:Nat}{t:TypeId}{x0 x1 x2 x3 x4 x5 x6 x7:Value}(h:ak w g t #[x0,x1,x2,x3,x4,x5,x6,x7]):(w.cell? ⟨g,0,none⟩=some x0∧w.cell? ⟨g,1,none⟩=some x1∧w.cell? ⟨g,2,none⟩=some x2∧w.cell? ⟨g,3,none⟩=some x3∧w.cell? ⟨g,4,none⟩=some x4∧w.cell? ⟨g,5,none⟩=some x5∧w.cell? ⟨g,6,none⟩=some x6∧w.cell? ⟨g,7,none⟩=some x7)∧
  w.frozen? ⟨g,0,none⟩=false∧w.frozen? ⟨g,1,none⟩=false∧w.frozen? ⟨g,2,none⟩=false∧w.frozen? ⟨g,3,none⟩=false∧w.frozen? ⟨g,4,none⟩=false∧w.frozen? ⟨g,5,none⟩=false∧w.frozen? ⟨g,6,none⟩=false∧w.frozen? ⟨g,7,none⟩=false:=
 ⟨⟨h.cell 0,h.cell 1,h.cell 2,h.cell 3,h.cell 4,h.cell 5,h.cell 6,h.cell 7⟩,h.frozen 0,h.frozen 1,h.frozen 2,h.frozen 3,h.frozen 4,h.frozen 5,h.frozen 6,h.frozen 7⟩
structure iO(X:List Nat)(w:World)(r:aL):Prop where
 rd:r.o7 w
 off:∀k∈r.fp,k∉X
theorem iO.upd{X a b:List Nat}{w w':World}{r:aL}(h:iO X w r)(hu:aa a b w w')(ha:∀k∈a,k∈X:=by simp):iO X w' r:=⟨h.rd.vP hu fun k hk hm=>h.off k hk (ha k hm),h.off⟩
theorem iO.grow{X b:List Nat}{w w':World}{r:aL}(h:iO X w r)(hu:aa [] b w w'):iO X w' r:=h.upd hu
theorem iO.more{X Y:List Nat}{w:World}{r:aL}(h:iO X w r)(hY:∀k∈Y,w.heap.size≤k):iO (Y++X) w r:=⟨h.rd,fun k hk hm=>by
 rcases mem_append.1 hm with hm|hm
 ·have h1:=hY k hm;have h2:=h.rd.lt k hk;omega
 ·exact h.off k hk hm⟩
theorem wH(X:List Nat)(w:World)(r:ai)(s:Site)(h:Ref X w r s)(hX:∀k∈X,k<w.heap.size)(ro:aL)(hro:iO X w ro)(hx:0≤ro.slot∧ro.slot<4096)(hy:ro.pl.2.b.length≤2048∧ro.pl.2.ax.may 7=true∧∀q∈ro.pl.2.pr,q.b.length≤2048) :
  Calls prog 137 #[r.val,ro.val] w fun e w'=>∃v,e=.returned v∧Came X w w' v {s with rs:=aG ro.slot ro.pl.2 s.rs}:=by
 obtain⟨ii,hii,abx,W,H,eW,hH,hB,U0,W1,J,nK,hJ,fT,U1,W2,G,fu,hG,hBG,U2,hB2,hJ2,hs1,afY,-,dY,aK,hs0,hs2,hY,hHw,aR,-,-,-,wI,-⟩:=Bt h hX 230 #[.int .i64 ro.slot,.int .i64 ro.ax.r,.int .i64 ro.ax.s,.slice ro.PA ro.pr.length ro.pc,.bool ro.so,.slice ro.v.A ro.v.n ro.v.c,.slice ro.VA ro.vt.length ro.vc,.int .i64 (ro.bG:Int)] 63 cz
 have C:=xI ([H,G]++X) W2 r s ((h.more hY).grow aK) wI ro.slot
 have j0:W2.cell? ⟨J,0,none⟩=some (.int .i64 ro.slot):=hJ2.cell 0
 have ZT:=(hro.more hY)
 have h':=h.aJ.ok
 rw[ai.arr]at C
 rw[ai.arr,aL.val]
 unfold aL.cells
 go_enter func137,ntmps137
 repeat' (fail_if_success with_reducible refine ek (t:=63) rfl ?_);go_step
 refine bF hii hB2 abx ?_
 repeat' go_step
 refine C.mono ?_;rintro e w3 ⟨v,rfl,r1,rfl,k1,k3⟩
 have kB3:=hB2.upd k3
 have MP:=hJ2.upd k3
 have mP:=hBG.upd k3
 clear C j0
 rw[ai.arr]
 refine bK ?_
 refine bL r1.cells hii abx kB3 ?_
 intro W5 fw u5
 have ZU:=MP.upd u5 (by simpa using afY)
 have gF:=mP.upd u5 (by simpa using dY)
 have qQ:aa [] [] w W5:=(aK.trans k3).aB hHw u5
 have k5:=k1.upd u5
 have ajc:=k5.mem.rc.1
 have GL:r1.R.map aL.pl=dD ro.slot s.rs:=k5.aJ.rs
 have Oz:=k5.aJ.rl
 have OA:=k5.mem.R
 obtain⟨R1,fI⟩:=ex1 r1.R
 obtain⟨m,hm⟩:=ex1 R1.length
 have HM:=hdn (show r1.R.length=m by rw[fI,hm])
 have Ew:=hdn hm
 have HR1:=hdn fI
 have hne:∀p∈R1,p.slot≠ro.slot:=fun p hp=>by
  rw[fI]at GL
  have:p.pl∈dD ro.slot s.rs:=by rw[←GL];exact mem_map_of_mem hp
  exact(gU.1 this).2
 have amd:=hdn (show ∀(A9:Option Addr)(c9:Nat)(w9 W4 W7:World)(a:Nat),aa [] [] W5 w9→aA.Own 230 8 w9 A9 (R1.take a++ro::R1.drop a).length c9 ((R1.take a++ro::R1.drop a).flatMap aL.cells)→
   a≤m→(∀(j:Nat)(hj:j<R1.length),j<a→R1[j].slot<ro.slot)→(∀hj:a<R1.length,ro.slot≤R1[a].slot)→aa [H] [H] w9 W4→aa [G] [G] W4 W7→(∀k∈ah A9,k≠H∧k≠G)→(∀k∈ah A9,W5.heap.size≤k)→∀r2:ai,{r1 with RA:=A9,rc:=c9,R:=R1.take a++ro::R1.drop a} =r2→
   Ref X W7 r2 {s with rs:=aG ro.slot ro.pl.2 s.rs}from fun A9 c9 w9 W4 W7 a U9 CG ha afZ ad4 u4 u7 zb Ji r2 hr2=>by
  subst hr2
  have kk:=((k5.grow U9).upd u4).upd u7
  have hoF:=(CG.upd u4 (fun k hk=>by simpa using(zb k hk).1)).upd u7 (fun k hk=>by simpa using(zb k hk).2)
  have apP:=(((ZT.grow qQ).grow U9).upd u4).upd u7
  have aie:(R1.take a++ro::R1.drop a).length=m+1:=by
   rw[length_append,length_cons,length_take,length_drop];omega
  have hm4:m≤4096:=by rw[←hm,←fI];exact Oz
  have acm:∀y∈R1.take a++ro::R1.drop a,y=ro∨y∈r1.R:=fun y hy=>by
   rw[fI]
   rcases mem_append.1 hy with hy|hy
   ·exact .inr (mem_of_mem_take hy)
   ·rcases mem_cons.1 hy with hy|hy
    ·exact .inl hy
    ·exact .inr (mem_of_mem_drop hy)
  have ab2:(R1.take a++ro::R1.drop a).map aL.pl=aG ro.slot ro.pl.2 s.rs:=by
   unfold aG
   rw[←GL,fI,map_append,map_cons,MO (ro.slot,ro.pl.2) (R1.map aL.pl) a (fun j hj hja=>by rw[getElem_map];exact afZ j (by simpa using hj) hja) (fun hj=>by rw[getElem_map];exact ad4 (by simpa using hj)) (fun p hp=>by
    obtain⟨q,hq,rfl⟩:=mem_map.1 hp
    exact hne q hq),map_take,map_drop]
   rfl
  refine⟨⟨kk.mem.db,kk.mem.dc,kk.mem.K,kk.mem.kb,kk.mem.L,kk.mem.lb,⟨rfl,hoF.rd⟩,hoF.cap,fun y hy=>?_,kk.mem.held,kk.mem.hb,kk.mem.big.1,kk.mem.big.2.1,by show(R1.take a++ro::R1.drop a).length≤_;omega,kk.mem.big.2.2.2⟩,?_,fun k hk hm'=>?_⟩
  ·rcases acm y hy with rfl|hy
   ·exact apP.rd
   ·exact kk.mem.rb y hy
  ·have S:=k5.aJ
   exact⟨S.me,S.n,S.pat,S.down,S.db,S.dn,S.st,S.kn,S.kr,S.top,S.lv,S.ln,S.lr,S.taken,S.tk,ab2,by
    show((aG ro.slot ro.pl.2 s.rs).map Prod.fst).Nodup
    unfold aG
    rw[((yS (ro.slot,ro.pl.2) (dD ro.slot s.rs)).map Prod.fst).nodup_iff,map_cons,nodup_cons]
    refine⟨fun hh=>?_,S.rn⟩
    obtain⟨p,hp,he⟩:=mem_map.1 hh
    exact(gU.1 hp).2 he,S.nx,S.wt,S.held,h'.qM hx hy,S.dk⟩
  ·have hlt:=hX k hm'
   have zU:k∈[H,G]++X:=by simp[hm']
   have old:∀{p:Prop},(k∈r1.fp)→p:=fun hf=>absurd zU (k5.off k hf)
   rcases ai.sub.1 hk with hk|hk|hk|hk|hk|hk|⟨y,hy,hk2⟩|hk|hk
   ·exact old (ai.sub.2 (.inl hk))
   ·exact old (ai.sub.2 (.inr (.inl hk)))
   ·exact old (ai.sub.2 (.inr (.inr (.inl hk))))
   ·exact old (ai.sub.2 (.inr (.inr (.inr (.inl hk)))))
   ·exact old (ai.sub.2 (.inr (.inr (.inr (.inr (.inl hk))))))
   ·have h1:=Ji k (ji k hk);have h2:=qQ.size;omega
   ·rcases acm y hy with rfl|hy
    ·exact hro.off k hk2 hm'
    ·exact old (ai.sub.2 (.inr (.inr (.inr (.inr (.inr (.inr (.inl ⟨y,hy,hk2⟩))))))))
   ·exact old (ai.sub.2 (.inr (.inr (.inr (.inr (.inr (.inr (.inr (.inl hk)))))))))
   ·exact old (ai.sub.2 (.inr (.inr (.inr (.inr (.inr (.inr (.inr (.inr hk)))))))))
  )
 have QQ:Rd W5 8 r1.RA m (R1.flatMap aL.cells):=by rw[←hm,←fI];exact OA.rd
 have ab3:bR aL.cells 8 W5 r1.RA R1.length R1:=by rw[←fI];exact OA
 have adu:∀u∈R1.flatMap aL.cells,u.oneCell'=true:=fun u hu=>by
  obtain⟨y,-,hu⟩:=mem_flatMap.1 hu
  simp only[aL.cells,mem_cons,not_mem_nil,or_false]at hu
  rcases hu with rfl|rfl|rfl|rfl|rfl|rfl|rfl|rfl<;>rfl
 have hm4:m≤4096:=by rw[←HM.out];exact Oz
 rw[HM.out]at ajc
 have aif:(m:Int)≤(r1.rc:Int):=by omega
 have ZV:=qQ
 clear GL Oz OA fI hm hne k1 k5 hro ZT h hB2 hJ2 hBG hB fT kB3 MP mP u5 k3 aK U0 U1 U2 eW nK fu
 repeat' go_step
 go_loopw [5] (fun v5 wr=>aQ (∃a:Nat,a≤m∧v5=.int .i64 (a:Int)∧(∀(j:Nat)(hj:j<R1.length),j<a→R1[j].slot<ro.slot)∧aa [] [] W5 wr)) (fun v5 _=>m-(intOf v5).toNat)
 case atStart=>exact aQ.mk ⟨0,by omega,rfl,fun j _ hj=>by omega,aa.refl _ _⟩
 case round=>
  obtain⟨a,MQ,rfl,afZ,U⟩:=hrel.out
  clear hrel
  have Ut:=hdn afZ
  clear afZ
  have c9:∀N,(wr.drewN N).cell? ⟨H,9,none⟩=some (.slice r1.RA m r1.rc):=fun N=>(U.drewN N).cell (by rw[←HM.out];exact fw.cell 9) (by simp)
  have cj:∀N,(wr.drewN N).cell? ⟨J,0,none⟩=some (.int .i64 ro.slot):=fun N=>(U.drewN N).cell (ZU.cell 0) (by simp)
  by_cases hlt:a<m
  ·have hil:decide ((a:Int)<(m:Int))=true:=dTo
   have Uj:decide (a<m)=true:=dTx hlt
   have al7:(a:Int)<(m:Int):=by omega
   have hw1:=aA.wr ((a:Int)+1)
   have aeT:a<R1.length:=by rw[Ew.out];exact hlt
   obtain⟨ad,gL,h0,-⟩:=bR.at_ (f:=aL.cells) (s:=8) (fun _=>rfl) (ab3.au U) aeT
   obtain⟨y,hy,h0⟩:∃y,R1[a]=y∧∀u,(aL.cells y)[0]? =some u→wr.cell? (ad.add (a*8))=some u:=⟨_,rfl,h0⟩
   have MM:=hdn hy
   have d0:∀N,(wr.drewN N).cell? (ad.add (a*8))=some (.int .i64 y.slot):=fun N=>((aa.refl [] wr).drewN N).cell (h0 _ rfl) (by simp)
   have c9s:∀N,(wr.drewN N).cell? ⟨H,9,none⟩=some (.slice (some ad) m r1.rc):=fun N=>by rw[c9 N,gL]
   clear h0 hy
   by_cases e1:y.slot<ro.slot
   ·have t1:decide (y.slot<ro.slot)=true:=dTx e1
    have CC9:=hdn c9
    clear c9 gL
    repeat' go_step
    go_quiet (fail)
    clear d0 c9s cj
    refine wk ?_
    refine⟨aQ.mk ⟨a+1,by omega,by simp,fun j hj hja=>?_,U.drewN _⟩,by simp[intOf];omega⟩
    rcases Nat.lt_succ_iff_lt_or_eq.1 hja with h1|rfl
    ·exact Ut.out j hj h1
    ·rw[MM.out];exact e1
   ·have t1:decide (y.slot<ro.slot)=false:=dFx e1
    have ad4:∀hj:a<R1.length,ro.slot≤R1[a].slot:=fun _=>by rw[MM.out];omega
    have OB:=hdn ad4
    have HAD:=hdn gL
    clear ad4 c9 gL e1
    repeat' go_step
    go_quiet (fail)
    clear d0 c9s cj t1
    have afZ:=Ut.out
    have ad4:=OB.out
    have De:=ZV.trans (U.drewN nq)
    have wJ:=U.drewN nq
    generalize wr.drewN nq=W6 at *
    have dK:=fw.upd wJ
    have uo:=ZU.upd wJ
    have gK:=gF.upd wJ
    have xJ:=QQ.upd wJ
    have kB:=dK
    have q9:W6.cell? ⟨H,9,none⟩=some (.slice r1.RA m r1.rc):=by rw[←HM.out];exact dK.cell 9
    have QR:=((aa.refl [] W6).alloc (.cells #[] 230)).cell q9 (by simp)
    have hr0:=(xJ.take (k:=a) MQ).alloc (.cells #[] 230)
    have U1:aa [] (ah (some ⟨W6.heap.size,0,none⟩)) W6 (W6.alloc (.cells #[] 230)):=((aa.refl [] W6).alloc _).gives (by intro k hk;simp[ah]at hk;subst hk;exact .inr (Nat.le_refl _))
    repeat' (fail_if_success with_reducible refine Ag rfl ?_);go_step
    refine gT _ rfl _ _ 58 rfl 230 underlying58 rf rfl (by decide) (Own.made 230 8 W6) rfl hr0 rfl (fun u hu=>adu u (mem_of_mem_take hu)) (by unfold maxLen;omega) (by omega) ?_
    intro A7 c7 w7 jW gJ
    have U7:=U1.trans gJ
    rw[Nat.zero_add,nil_append]at jW
    have nu:∀k∈ah A7,W6.heap.size≤k:=fun k hk=>by
     rcases U7.fresh k hk with hh|hh
     ·cases hh
     ·exact hh
    have oW:=dK.upd U7
    have FO:=uo.upd U7
    clear hr0 U1 gJ QR q9
    obtain⟨⟨j0,j1,j2,j3,j4,j5,j6,j7⟩,-⟩:=FO.c8
    repeat' (fail_if_success with_reducible refine Ag rfl ?_);go_step
    refine bQ rfl _ _ 58 rfl 230 underlying58 rf rfl (by decide) jW rfl w7.heap.size rfl rfl (news:=aL.cells ro) rfl rfl (by unfold maxLen;omega) (by omega) ?_
    intro A8 c8 w8 tT jF
    have qV:∀k∈ah A8,W6.heap.size≤k:=fun k hk=>by
     rcases jF.fresh k hk with hh|hh
     ·exact nu k hh
     ·have:=U7.size;omega
    have U8:aa [] [] W6 w8:=U7.g0.aB nu jF
    have Ay:=dK.upd U8
    have q9:w8.cell? ⟨H,9,none⟩=some (.slice r1.RA m r1.rc):=by rw[←HM.out];exact Ay.cell 9
    have yG:=Rd.cut (xJ.upd U8) (k:=a) (cap:=r1.rc) MQ ajc
    rw[if_neg (by omega)]at yG
    clear j0 j1 j2 j3 j4 j5 j6 j7 jF jW FO oW
    repeat' (fail_if_success with_reducible refine Ag rfl ?_);go_step
    refine gT _ rfl _ _ 58 rfl 230 underlying58 rf rfl (by decide) tT rfl yG rfl (fun u hu=>adu u (mem_of_mem_drop hu)) (by unfold maxLen;omega) (by omega) ?_
    intro A9 c9 w9 CG Al
    have Ji:∀k∈ah A9,W6.heap.size≤k:=fun k hk=>by
     rcases Al.fresh k hk with hh|hh
     ·exact qV k hh
     ·have:=U8.size;omega
    have U9:aa [] [] W6 w9:=U8.aB qV Al
    have Jj:=dK.upd U9
    have Dg:=gK.upd U9
    have f9:=Jj.frozen 9
    have q99:w9.cell? ⟨H,9,none⟩=some (.slice r1.RA r1.R.length r1.rc):=Jj.cell 9
    obtain⟨W4,kv⟩:=ex1 (w9.setCell ⟨H,9,none⟩ (.slice A9 (a+1+(m - a)) c9))
    have u4:aa [H] [H] w9 W4:=by rw[←kv];exact(aa.refl [H] w9).setCell (p:=⟨H,9,none⟩) (.inl (by simp)) _
    obtain⟨r2,hr2⟩:∃r2:ai,{r1 with RA:=A9,rc:=c9,R:=R1.take a++ro::R1.drop a} =r2:=⟨_,rfl⟩
    have gH:a+1+(m-a)=(R1.take a++ro::R1.drop a).length:=by
     have:=Ew.out
     rw[length_append,length_cons,length_take,length_drop];omega
    have hB4:ak W4 H 63 r2.cells.toArray:=by
     rw[←kv,←hr2,gH];exact Jj.aO 9 _
    have hG4:=Dg.upd u4 (by simpa using dY)
    have zb:∀k∈ah A9,k≠H∧k≠G:=fun k hk=>by have h1:=Ji k hk;have h2:=dK.lt;have h3:=gK.lt;omega
    have xK:aA.Own 230 8 w9 A9 (a+1+(m-a)) c9 ((R1.take a++ro::R1.drop a).flatMap aL.cells):=by
     have e:(R1.take a++ro::R1.drop a).flatMap aL.cells=((R1.flatMap aL.cells).take (a*8)++aL.cells ro)++(R1.flatMap aL.cells).drop (a*8):=by
      rw[flatMap_append,flatMap_cons,←ze (f:=aL.cells) (s:=8) (fun _=>rfl),←zf (f:=aL.cells) (s:=8) (fun _=>rfl),append_assoc]
     rw[e];exact CG
    rw[gH]at xK
    have RES:=hdn (show ∀W5,aa [G] [G] W4 W5→Ref X W5 r2 {s with rs:=aG ro.slot ro.pl.2 s.rs}from fun W5 u5=>amd.out A9 c9 w9 W4 W5 a (wJ.trans U9) xK MQ afZ ad4 u4 u5 zb (fun k hk=>by have h1:=Ji k hk;have h2:=wJ.size;omega) r2 hr2)
    have UL:=hdn ((De.trans U9).aB hHw u4)
    clear gH xK CG yG tT Ay Dg xJ adu dK uo gK q9 kB Al
    repeat' (fail_if_success with_reducible refine ek (t:=63) rfl ?_);go_step
    refine bF hii hB4 abx ?_
    refine bK ?_
    refine bL r2.cells hii abx hG4 ?_
    intro W5 gF u5
    refine wk ?_
    exact fG results137 hii gF abx ⟨_,rfl,r2,rfl,RES.out W5 u5,UL.out.aB aR u5⟩
  ·obtain rfl:a=m:=by omega
   have hil:decide ((a:Int)<(a:Int))=false:=dFo
   have Uj:decide (a<a)=false:=dFo
   have air:¬ ((a:Int)<(a:Int)):=by omega
   have ad4:∀hj:a<R1.length,ro.slot≤R1[a].slot:=fun hj=>by have:=Ew.out;omega
   have OB:=hdn ad4
   clear ad4
   repeat' go_step
   go_quiet (fail)
   clear c9 cj
   have afZ:=Ut.out
   have ad4:=OB.out
   have De:=ZV.trans (U.drewN nq)
   have wJ:=U.drewN nq
   generalize wr.drewN nq=W6 at *
   have dK:=fw.upd wJ
   have uo:=ZU.upd wJ
   have gK:=gF.upd wJ
   have xJ:=QQ.upd wJ
   have kB:=dK
   have q9:W6.cell? ⟨H,9,none⟩=some (.slice r1.RA a r1.rc):=by rw[←HM.out];exact dK.cell 9
   have QR:=((aa.refl [] W6).alloc (.cells #[] 230)).cell q9 (by simp)
   have hr0:=(xJ.take (k:=a) MQ).alloc (.cells #[] 230)
   have U1:aa [] (ah (some ⟨W6.heap.size,0,none⟩)) W6 (W6.alloc (.cells #[] 230)):=((aa.refl [] W6).alloc _).gives (by intro k hk;simp[ah]at hk;subst hk;exact .inr (Nat.le_refl _))
   repeat' (fail_if_success with_reducible refine Ag rfl ?_);go_step
   refine gT _ rfl _ _ 58 rfl 230 underlying58 rf rfl (by decide) (Own.made 230 8 W6) rfl hr0 rfl (fun u hu=>adu u (mem_of_mem_take hu)) (by unfold maxLen;omega) (by omega) ?_
   intro A7 c7 w7 jW gJ
   have U7:=U1.trans gJ
   rw[Nat.zero_add,nil_append]at jW
   have nu:∀k∈ah A7,W6.heap.size≤k:=fun k hk=>by
    rcases U7.fresh k hk with hh|hh
    ·cases hh
    ·exact hh
   have oW:=dK.upd U7
   have FO:=uo.upd U7
   clear hr0 U1 gJ QR q9
   obtain⟨⟨j0,j1,j2,j3,j4,j5,j6,j7⟩,-⟩:=FO.c8
   repeat' (fail_if_success with_reducible refine Ag rfl ?_);go_step
   refine bQ rfl _ _ 58 rfl 230 underlying58 rf rfl (by decide) jW rfl w7.heap.size rfl rfl (news:=aL.cells ro) rfl rfl (by unfold maxLen;omega) (by omega) ?_
   intro A8 c8 w8 tT jF
   have qV:∀k∈ah A8,W6.heap.size≤k:=fun k hk=>by
    rcases jF.fresh k hk with hh|hh
    ·exact nu k hh
    ·have:=U7.size;omega
   have U8:aa [] [] W6 w8:=U7.g0.aB nu jF
   have Ay:=dK.upd U8
   have q9:w8.cell? ⟨H,9,none⟩=some (.slice r1.RA a r1.rc):=by rw[←HM.out];exact Ay.cell 9
   have yG:=Rd.cut (xJ.upd U8) (k:=a) (cap:=r1.rc) MQ ajc
   rw[Nat.sub_self]at yG
   clear j0 j1 j2 j3 j4 j5 j6 j7 jF jW FO oW
   repeat' (fail_if_success with_reducible refine Ag rfl ?_);go_step
   refine gT _ rfl _ _ 58 rfl 230 underlying58 rf rfl (by decide) tT rfl yG rfl (fun u hu=>adu u (mem_of_mem_drop hu)) (by unfold maxLen;omega) (by omega) ?_
   intro A9 c9 w9 CG Al
   have Ji:∀k∈ah A9,W6.heap.size≤k:=fun k hk=>by
    rcases Al.fresh k hk with hh|hh
    ·exact qV k hh
    ·have:=U8.size;omega
   have U9:aa [] [] W6 w9:=U8.aB qV Al
   have Jj:=dK.upd U9
   have Dg:=gK.upd U9
   have f9:=Jj.frozen 9
   have q99:w9.cell? ⟨H,9,none⟩=some (.slice r1.RA r1.R.length r1.rc):=Jj.cell 9
   obtain⟨W4,kv⟩:=ex1 (w9.setCell ⟨H,9,none⟩ (.slice A9 (a+1+0) c9))
   have u4:aa [H] [H] w9 W4:=by rw[←kv];exact(aa.refl [H] w9).setCell (p:=⟨H,9,none⟩) (.inl (by simp)) _
   obtain⟨r2,hr2⟩:∃r2:ai,{r1 with RA:=A9,rc:=c9,R:=R1.take a++ro::R1.drop a} =r2:=⟨_,rfl⟩
   have gH:a+1+0=(R1.take a++ro::R1.drop a).length:=by
    have:=Ew.out
    rw[length_append,length_cons,length_take,length_drop];omega
   have hB4:ak W4 H 63 r2.cells.toArray:=by
    rw[←kv,←hr2,gH];exact Jj.aO 9 _
   have hG4:=Dg.upd u4 (by simpa using dY)
   have zb:∀k∈ah A9,k≠H∧k≠G:=fun k hk=>by have h1:=Ji k hk;have h2:=dK.lt;have h3:=gK.lt;omega
   have xK:aA.Own 230 8 w9 A9 (a+1+0) c9 ((R1.take a++ro::R1.drop a).flatMap aL.cells):=by
    have e:(R1.take a++ro::R1.drop a).flatMap aL.cells=((R1.flatMap aL.cells).take (a*8)++aL.cells ro)++(R1.flatMap aL.cells).drop (a*8):=by
     rw[flatMap_append,flatMap_cons,←ze (f:=aL.cells) (s:=8) (fun _=>rfl),←zf (f:=aL.cells) (s:=8) (fun _=>rfl),append_assoc]
    rw[e];exact CG
   rw[gH]at xK
   have RES:=hdn (show ∀W5,aa [G] [G] W4 W5→Ref X W5 r2 {s with rs:=aG ro.slot ro.pl.2 s.rs}from fun W5 u5=>amd.out A9 c9 w9 W4 W5 a (wJ.trans U9) xK MQ afZ ad4 u4 u5 zb (fun k hk=>by have h1:=Ji k hk;have h2:=wJ.size;omega) r2 hr2)
   have UL:=hdn ((De.trans U9).aB hHw u4)
   clear gH xK CG yG tT Ay Dg xJ adu dK uo gK q9 kB Al
   repeat' (fail_if_success with_reducible refine ek (t:=63) rfl ?_);go_step
   refine bF hii hB4 abx ?_
   refine bK ?_
   refine bL r2.cells hii abx hG4 ?_
   intro W5 gF u5
   refine wk ?_
   exact fG results137 hii gF abx ⟨_,rfl,r2,rfl,RES.out W5 u5,UL.out.aB aR u5⟩
theorem QS(L:List (Int × aM))(x:Int)(V:aM)(h:dX L x=none)(y:Int):dX (L++[(x,V)]) y=if x=y then some V else dX L y:=by
 unfold dX at *
 rw[List.find?_append]
 by_cases e:x=y
 ·subst e
  rw[Option.map_eq_none_iff]at h
  rw[h];simp
 ·rw[if_neg e]
  cases L.find? fun p=>decide (p.1=y) with
  |none=>simp[e]
  |some p=>simp
theorem iM.oL{r:ai}{s:Site}(h:iM r s)(x:Int)(V:aM)(hn:V.n=V.b.length)(A:Option Addr)(c:Nat) :
  (s.sG x V.b=true∧(oL r.L x V).2=0∧iM {r with LA:=A,lc:=c,L:=(oL r.L x V).1} {s with lv:=if(s.dec x).isSome then s.lv else aG x V.b s.lv})∨(s.sG x V.b=false∧(oL r.L x V).2≠0):=by
 have hd:=h.lv x
 unfold Go.Proofs.YtijhlbeipglieaaGreat.oL Site.sG
 by_cases hb:x<0∨4095<x∨2048<V.n
 ·right
  rw[if_pos hb]
  refine⟨?_,by simp⟩
  rcases hb with hb|hb|hb
  ·rw[dFx (show ¬ 0≤x by omega)];rfl
  ·rw[dFx (show ¬ x<4096 by omega)];simp
  ·rw[dFx (show ¬ V.b.length≤2048 by omega)];simp
 rw[if_neg hb,dTx (show 0≤x by omega),dTx (show x<4096 by omega),dTx (show V.b.length≤2048 by omega)]
 cases hg:dX r.L x with
 |some y=>
  rw[hg]at hd
  rw[←hd]
  simp only[Option.map_some,Option.isSome_some,if_true]
  by_cases e:y.b=V.b
  ·left
   refine⟨by simp[e],by rw[if_pos e],?_⟩
   rw[if_pos e]
   exact⟨h.me,h.n,h.pat,h.down,h.db,h.dn,h.st,h.kn,h.kr,h.top,h.lv,h.ln,h.lr,h.taken,h.tk,h.rs,h.rn,h.nx,h.wt,h.held,h.ok.lv _,h.dk⟩
  ·right
   refine⟨by simp[e],by rw[if_neg e];simp⟩
 |none=>
  rw[hg]at hd
  rw[←hd]
  left
  refine⟨rfl,rfl,?_⟩
  simp only[Option.map_none,Option.isSome_none]
  have hlv:∀y,(dX (r.L++[(x,V)]) y).map aM.b=aC y (aG x V.b s.lv):=fun y=>by
   rw[QS _ _ _ hg,kC]
   split
   ·rfl
   ·exact h.lv y
  refine⟨h.me,h.n,h.pat,h.down,h.db,h.dn,h.st,h.kn,h.kr,h.top,hlv,?_,fun p hp=>?_,h.taken,⟨h.tk.1,fun i hi=>?_⟩,h.rs,h.rn,h.nx,h.wt,h.held,h.ok.lv _,h.dk⟩
  ·show((r.L++[(x,V)]).map Prod.fst).Nodup
   rw[map_append,nodup_append]
   refine⟨h.ln,by simp,fun a ha b hb' e=>?_⟩
   subst e
   obtain⟨p,hp,rfl⟩:=mem_map.1 ha
   simp only[map_cons,map_nil,mem_singleton]at hb'
   have:=MJ hp
   rw[hb',hg]at this
   cases this
  ·rcases mem_append.1 hp with hp|hp
   ·exact h.lr p hp
   ·rw[mem_singleton]at hp;subst hp;simp only;omega
  ·show(aC (i:Int) (aG x V.b s.lv)).isSome=true
   rw[kC]
   split
   ·rfl
   ·exact h.tk.2 i hi
theorem zg(X:List Nat)(w:World)(r:ai)(s:Site)(h:Ref X w r s)(hX:∀k∈X,k<w.heap.size)(x:Int)(V:aM)(hV:dU X w V.A V.n V.b) :
  Calls prog 213 #[r.val,.int .i64 x,.slice V.A V.n V.c] w fun e w'=>∃v,e=.returned v∧Came X w w' v (s.bE x V.b):=by
 obtain⟨ii,hii,abx,W,H,eW,hH,hB,U0,W2,G,fu,hG,hBG,U2,hB2,dY,aK,hs0,hs2,hY,hHw,aR,-,-,h2,hX2,-⟩:=yY h hX 63 cz
 have wI:=upX hX2
 have C:=Uk W2 r.LA r.lc r.L h2.mem.L h2.mem.lb (by have:=h.aJ.ll;omega) x V (hV.rd.upd aK)
 have q7:W2.cell? ⟨H,7,none⟩=some (.slice r.LA r.L.length r.lc):=hB2.cell 7
 have SP:=h.aJ.oL x V hV.rd.len
 have HD:=hdn (Site.bE.eq_def s x V.b)
 obtain⟨F,hF⟩:=ex1 (s.bE x V.b)
 rw[hF]at HD ⊢
 clear hF
 rw[ai.arr]
 go_enter func213,ntmps213
 repeat' go_step
 refine C.mono ?_;rintro e w3 ⟨A',c',rfl,k1,k2,k3⟩
 clear C q7
 have kB3:=hB2.upd k3
 have mP:=hBG.upd k3
 obtain⟨P,hP⟩:=ex1 (oL r.L x V)
 have FK:=hdn hP
 rw[hP]at k1 ⊢
 clear hP
 rcases SP A' c' with⟨g1,g2,g3⟩|⟨g1,g2⟩
 ·rw[FK.out]at g2 g3
  have t0:(P.2 != 0)=false:=by rw[g2];rfl
  obtain⟨W4,kv⟩:=ex1 (w3.setCell ⟨H,7,none⟩ (.slice A' P.1.length c'))
  have f7:=kB3.frozen 7
  have c7:w3.cell? ⟨H,7,none⟩=some (.slice r.LA r.L.length r.lc):=kB3.cell 7
  have u4:aa [H] [H] w3 W4:=by rw[←kv];exact(aa.refl [H] w3).setCell (p:=⟨H,7,none⟩) (.inl (by simp)) _
  obtain⟨r1,hr1⟩:∃r1:ai,{r with LA:=A',lc:=c',L:=P.1} =r1:=⟨_,rfl⟩
  have hB4:ak W4 H 63 r1.cells.toArray:=by rw[←kv,←hr1];exact kB3.aO 7 _
  have hG4:=mP.upd u4 (by simpa using dY)
  have uf:aa [] [] w W4:=(aK.trans k3).aB hHw u4
  have acm:∀y∈P.1,y∈r.L∨y=(x,V):=fun y hy=>by
   rw[←FK.out]at hy
   unfold oL at hy
   split at hy
   ·exact .inl hy
   split at hy
   ·split at hy<;>exact .inl hy
   ·rcases mem_append.1 hy with hy|hy
    ·exact .inl hy
    ·exact .inr (mem_singleton.1 hy)
  have R4:Ref ([H,G]++X) W4 r1 {s with lv:=if(s.dec x).isSome then s.lv else aG x V.b s.lv}:=by
   have hk:=(h2.grow k3).upd u4
   have hv:=(((hV.more hY).grow aK).grow k3).upd u4
   rw[←hr1]
   have aec:∀k∈dV A' P.1.length,k∉[H,G]++X:=fun k hk'=>by
    rcases k2 with⟨rfl,hPL⟩|k2
    ·rw[←FK.out,hPL]at hk'
     exact h2.off k (ai.sub.2 (.inr (.inr (.inr (.inl hk')))))
    ·intro hm
     have:=k2 k (ji k hk')
     have:=wI W2 (aa.refl _ _) k hm
     omega
   refine⟨⟨hk.mem.db,hk.mem.dc,hk.mem.K,hk.mem.kb,k1.iN u4 (fun k hk' hm=>aec k hk' (by simp only[mem_singleton]at hm;subst hm;simp)),fun y hy=>?_,hk.mem.R,hk.mem.rc,hk.mem.rb,hk.mem.held,hk.mem.hb,hk.mem.big.1,?_,hk.mem.big.2.2⟩,g3,fun k hk' hm=>?_⟩
   ·rcases acm y hy with hy|rfl
    ·exact hk.mem.lb y hy
    ·exact hv.rd
   ·have:=g3.ll;show P.1.length≤_;simp only at this;omega
   ·have old:∀{p:Prop},(k∈r.fp)→p:=fun hf=>absurd hm (h2.off k hf)
    rcases ai.sub.1 hk' with hk'|hk'|hk'|hk'|⟨y,hy,hk2⟩|hk'|hk'|hk'|hk'
    ·exact old (ai.sub.2 (.inl hk'))
    ·exact old (ai.sub.2 (.inr (.inl hk')))
    ·exact old (ai.sub.2 (.inr (.inr (.inl hk'))))
    ·exact aec k hk' hm
    ·rcases acm y hy with hy|rfl
     ·exact old (ai.sub.2 (.inr (.inr (.inr (.inr (.inl ⟨y,hy,hk2⟩))))))
     ·exact hv.off k hk2 hm
    ·exact old (ai.sub.2 (.inr (.inr (.inr (.inr (.inr (.inl hk')))))))
    ·exact old (ai.sub.2 (.inr (.inr (.inr (.inr (.inr (.inr (.inl hk'))))))))
    ·exact old (ai.sub.2 (.inr (.inr (.inr (.inr (.inr (.inr (.inr (.inl hk')))))))))
    ·exact old (ai.sub.2 (.inr (.inr (.inr (.inr (.inr (.inr (.inr (.inr hk')))))))))
  have aeU:∀k∈[H,G]++X,k<W4.heap.size:=fun k hk=>by have h1:=wI w3 k3 k hk;have:=u4.size;omega
  have C2:=xI ([H,G]++X) W4 r1 _ R4 aeU x
  have dQ:F= {s with lv:=if(s.dec x).isSome then s.lv else aG x V.b s.lv,rs:=dD x s.rs}:=by rw[HD.out,if_pos g1]
  have xY:=hdn dQ
  rw[ai.arr]at C2
  clear dQ g1 g2 g3 R4 kB3 mP u4 hr1 k1 k2 h2 hB2 hBG hB SP acm hV h
  repeat' (fail_if_success with_reducible refine ek (t:=63) rfl ?_);first|go_step|simp only[];go_at_K
  refine bF hii hB4 abx ?_
  repeat' go_step
  refine C2.mono ?_;rintro e w5 ⟨v,rfl,r5,rfl,m1,m3⟩
  clear C2
  have gF:=hG4.upd m3
  rw[ai.arr]
  refine bK ?_
  refine bL r5.cells hii abx gF ?_
  intro W6 gK u6
  refine wk ?_
  exact fG results213 hii gK abx ⟨_,rfl,r5,rfl,by rw[xY.out];exact(m1.upd u6).less,(uf.trans m3).aB aR u6⟩
 ·rw[FK.out]at g2
  have t0:(P.2 != 0)=true:=by simp only[bne_iff_ne];exact g2
  have dQ:F=s:=by rw[HD.out,if_neg (by rw[g1];simp)]
  subst dQ
  clear g1 g2 SP
  repeat' (fail_if_success with_reducible refine ek (t:=63) rfl ?_);first|go_step|simp only[];go_at_K
  refine bF hii kB3 abx ?_
  refine bK ?_
  refine bL r.cells hii abx mP ?_
  intro W6 gK u6
  refine wk ?_
  exact fG results213 hii gK abx ⟨_,rfl,r,rfl,((h2.grow k3).upd u6).less,(aK.trans k3).aB aR u6⟩
structure GM(p:Prop):Prop where
 out:p
theorem jf(X:List Nat)(w:World)(r:ai)(s:Site)(h:Ref X w r s)(hX:∀k∈X,k<w.heap.size)(hb:s.held.length<900000000)(x:Mv)(hx:dU X w x.A x.n x.b)(hm:x.ms.Fit) :
  Calls prog 136 #[r.val,x.val] w fun e w'=>∃v,e=.returned v∧Came X w w' v (s.others x.ms s.n):=by
 have hs:=h.aJ
 obtain⟨ii,hii,abx,W,H,eW,hH,hB,U0,W1,J,nK,hJ,fT,U1,W2,G,fu,hG,hBG,U2,hB2,hJ2,hs1,afY,-,dY,aK,hs0,hs2,hY,hHw,aR,-⟩:=Bt h hX 32 #[.int .i64 x.k,.int .i64 x.f,.int .i64 x.t,.int .i64 x.s,.int .i64 x.br,.int .i64 x.bs,.int .i64 x.hr,.int .i64 x.hs,.bool x.so,.slice x.A x.n x.c] 63 cz
 rw[ai.arr,Mv.aH]
 have ajb:G≠J:=by have:=fT.lt;omega
 have FP:=hs.ok.n7
 go_enter func136,ntmps136
 repeat' go_step
 go_loopw [5] (fun v5 wr=>GM (∃(i:Nat)(r1:ai),i≤s.n∧v5=.int .i64 (i:Int)∧ak wr H 63 r1.cells.toArray∧ak wr J 32 #[.int .i64 x.k,.int .i64 x.f,.int .i64 x.t,.int .i64 x.s,.int .i64 x.br,.int .i64 x.bs,.int .i64 x.hr,.int .i64 x.hs,.bool x.so,.slice x.A x.n x.c]∧
  ak wr G 63 cz∧Ref ([H,G]++X) wr r1 (s.others x.ms i)∧aa [] [] w wr∧W2.heap.size≤wr.heap.size)) (fun v5 _=>s.n-(intOf v5).toNat)
 case atStart=>exact GM.mk ⟨0,r,by omega,rfl,hB2,hJ2,hBG,(h.more hY).grow aK,aK,Nat.le_refl _⟩
 case round=>
  obtain⟨i,r1,hi,rfl,kB,kJ,kG,kR,kU,ksz⟩:=hrel.out
  clear hrel
  have kS:=kR.aJ
  have e1:=kS.me
  have e2:=kS.n
  rw[Site.bH]at e1 e2
  have q1:wr.cell? ⟨H,1,none⟩=some (.int .i64 (s.n:Int)):=by rw[kB.cell 1];show some (Value.int .i64 (r1.n:Int))=_;rw[e2]
  have q0:wr.cell? ⟨H,0,none⟩=some (.int .i64 (s.me:Int)):=by rw[kB.cell 0];show some (Value.int .i64 (r1.me:Int))=_;rw[e1]
  by_cases hlt:i<s.n
  ·have hil:(i:Int)<(s.n:Int):=by omega
   have hw1:=aA.wr ((i:Int)+1)
   by_cases hme:i=s.me
   ·have t1:((i:Int) != (s.me:Int))=false:=by rw[hme];exact bne_self_eq_false _
    have t2:(i != s.me)=false:=by rw[hme];exact bne_self_eq_false _
    have HM:=hdn hme
    clear hme
    refine wk ?_
    refine⟨GM.mk ⟨i+1,r1,by omega,by simp,kB,kJ,kG,?_,kU,ksz⟩,by simp[intOf];omega⟩
    rw[Site.others,if_pos HM.out];exact kR
   ·have t1:((i:Int) != (s.me:Int))=true:=by simp only[bne_iff_ne];omega
    have t2:(i != s.me)=true:=by simp only[bne_iff_ne];exact hme
    have HM:=hdn hme
    clear hme
    obtain⟨⟨j0,j1,j2,j3,j4,j5,j6,j7,j8,j9⟩,-⟩:=kJ.c10
    have wI:∀k∈[H,G]++X,k<wr.heap.size:=fun k hk=>by
     have h1:=kB.lt
     have h2:=kG.lt
     simp only[cons_append,nil_append,mem_cons]at hk
     rcases hk with rfl|rfl|hk
     ·exact h1
     ·exact h2
     ·have:=hX k hk;have:=kU.size;omega
    have C:=lU ([H,G]++X) wr r1 _ kR wI (by
     rw[Site.bH]
     show(s.held++s.tell x.ms i).length<_
     have:=s.gQ x.ms i
     rw[length_append];omega) (i:Int) (by omega) x ((hx.more hY).grow kU) hm
    rw[ai.arr,Mv.aH]at C
    repeat' (fail_if_success with_reducible refine ek (t:=63) rfl ?_);go_step
    refine bF hii kB abx ?_
    repeat' go_step
    refine C.mono ?_;rintro e w4 ⟨v,rfl,r4,rfl,k1,k3⟩
    have wK:=kB.upd k3
    have kJ4:=kJ.upd k3
    have Az:=kG.upd k3
    have kU4:=kU.trans k3
    have ks4:=k3.size
    clear C j0 j1 j2 j3 j4 j5 j6 j7 j8 j9 q0 q1
    rw[ai.arr]
    refine bK ?_
    refine bL r4.cells hii abx wK ?_
    intro W5 fw u5
    refine wk ?_
    refine⟨GM.mk ⟨i+1,r4,by omega,by simp,fw,kJ4.upd u5 (by simpa using afY),Az.upd u5 (by simpa using dY),?_,kU4.aB hHw u5,by have:=u5.size;omega⟩,by simp[intOf];omega⟩
    rw[Site.others,if_neg HM.out]
    exact k1.upd u5
  ·obtain rfl:i=s.n:=by omega
   have hil:¬ ((s.n:Int)<(s.n:Int)):=by omega
   repeat' (fail_if_success with_reducible refine ek (t:=63) rfl ?_);go_step
   refine bF hii kB abx ?_
   refine bK ?_
   refine bL r1.cells hii abx kG ?_
   intro W5 gF u5
   refine wk ?_
   refine bodyPost_ret (fK (s:=4) (t:=63) (by rw[results136]) rfl hii (fun _=>rfl) r1.cells abx gF) rfl ⟨_,rfl,r1,rfl,(kR.upd u5).less,kU.aB aR u5⟩
