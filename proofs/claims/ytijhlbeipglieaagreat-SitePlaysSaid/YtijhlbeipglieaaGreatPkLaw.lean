/- For SitePlays. -/
import Derived.Test.YtijhlbeipglieaaGreatPkRefI
set_option linter.all false
set_option maxRecDepth 100000
set_option maxHeartbeats 16000000
namespace Go.Proofs.YtijhlbeipglieaaGreat
open Go.RowKit aA Go.Maps Go.Proofs.Tryz List
theorem Zn(x y:Mv)(h:x.ms=y.ms)(w:World)(h1:aD w x.A x.n x.b)(h2:aD w y.A y.n y.b) :
  Calls prog 149 #[.agg #[.int .i64 x.k,.int .i64 x.f,.int .i64 x.t,.int .i64 x.s,.int .i64 x.br,.int .i64 x.bs,.int .i64 x.hr,.int .i64 x.hs,.bool x.so,.slice x.A x.n x.c],.agg #[.int .i64 y.k,.int .i64 y.f,.int .i64 y.t,.int .i64 y.s,.int .i64 y.br,.int .i64 y.bs,.int .i64 y.hr,.int .i64 y.hs,.bool y.so,.slice y.A y.n y.c]] w fun e w'=>e=.returned (.bool true)∧aa [] [] w w':=by
 obtain⟨k,f,t,s,br,bs,hr,hs,so,A,n,c,b⟩:=x
 obtain⟨k2,f2,t2,s2,br2,bs2,hr2,hs2,so2,A2,n2,c2,b2⟩:=y
 simp only[Mv.ms,Ms.mk.injEq]at h
 obtain⟨rfl,rfl,rfl,rfl,rfl,rfl,rfl,rfl,rfl,rfl⟩:=h
 simp only at h1 h2 ⊢
 have eq:=fun a b w=>(mR a b a b w).trans (by rw[show((a==a)&&(b==b))=true by simp])
 have s1:=fun o o'=>strOf ((h1.alloc o).alloc o') c
 have s2:=fun o o'=>strOf ((h2.alloc o).alloc o') c2
 have hU:=fun o o'=>((aa.refl [] w).alloc o).alloc o'
 clear h1 h2
 go_enter func149,ntmps149
 refine wk ?_
 go_ret
 exact⟨rfl,hU _ _⟩
theorem XJ(w:World)(A:Option Addr)(c:Nat)(l:List Mv)(B:Option Addr)(d:Nat)(k:List Mv)(hl:bR Mv.cells 10 w A l.length l)(hlb:∀x∈l,aD w x.A x.n x.b)(hk:bR Mv.cells 10 w B k.length k)(hkb:∀x∈k,aD w x.A x.n x.b)(he:l.map Mv.ms=k.map Mv.ms)(hn:l.length≤1000000000):Calls prog 84 #[.slice A l.length c,.slice B k.length d] w fun e w'=>e=.returned (.bool true)∧aa [] [] w w':=by
 have hlen:k.length=l.length:=by have:=congrArg length he;simpa using this.symm
 obtain⟨m,hm⟩:=ex1 l.length
 rw[hlen,hm]at hk
 rw[hm]at hl
 rw[hlen,hm]
 have hnn:((m:Int) != (m:Int))=false:=by simp
 go_enter func84,ntmps84
 repeat' go_step
 go_loopw [5] (fun v5 wr=>aQ (∃(i:Nat),i≤m∧v5=.int .i64 (i:Int)∧aa [] [] w wr)) (fun v5 _=>m-(intOf v5).toNat)
 case atStart=>exact aQ.mk ⟨0,by omega,rfl,aa.refl _ _⟩
 case round=>
  obtain⟨i,hi,rfl,U⟩:=hrel.out
  clear hrel
  by_cases hlt:i<m
  ·have hil:(i:Int)<(m:Int):=by omega
   have hw1:=aA.wr ((i:Int)+1)
   have Tu:i<l.length:=by omega
   have Tv:i<k.length:=by omega
   obtain⟨ad,hA,a0,aj⟩:=bR.at_ (f:=Mv.cells) (s:=10) (fun _=>rfl) (hl.au U) Tu
   obtain⟨ae,hB,b0,bj⟩:=bR.at_ (f:=Mv.cells) (s:=10) (fun _=>rfl) (hk.au U) Tv
   have hx:=hlb _ (getElem_mem Tu)
   have hy:=hkb _ (getElem_mem Tv)
   have hxy:l[i].ms=k[i].ms:=by
    have h1:(l.map Mv.ms)[i]? =(k.map Mv.ms)[i]?:=by rw[he]
    rw[List.getElem?_map,List.getElem?_map,List.getElem?_eq_getElem Tu,List.getElem?_eq_getElem Tv]at h1
    simpa using h1
   subst hA hB
   generalize l[i]=x at *
   generalize k[i]=y at *
   have q0:∀w',aa [] [] wr w'→w'.cell? (ad.add (i*10))=some (.int .i64 x.k):=fun w' u=>u.cell (a0 _ rfl) (by simp)
   have q1:∀w',aa [] [] wr w'→w'.cell? ⟨(ad.add (i*10)).block,(ad.add (i*10)).off+1,none⟩=some (.int .i64 x.f):=fun w' u=>u.cell (aj 1 _ (by omega) rfl) (by simp)
   have q2:∀w',aa [] [] wr w'→w'.cell? ⟨(ad.add (i*10)).block,(ad.add (i*10)).off+2,none⟩=some (.int .i64 x.t):=fun w' u=>u.cell (aj 2 _ (by omega) rfl) (by simp)
   have q3:∀w',aa [] [] wr w'→w'.cell? ⟨(ad.add (i*10)).block,(ad.add (i*10)).off+3,none⟩=some (.int .i64 x.s):=fun w' u=>u.cell (aj 3 _ (by omega) rfl) (by simp)
   have q4:∀w',aa [] [] wr w'→w'.cell? ⟨(ad.add (i*10)).block,(ad.add (i*10)).off+4,none⟩=some (.int .i64 x.br):=fun w' u=>u.cell (aj 4 _ (by omega) rfl) (by simp)
   have q5:∀w',aa [] [] wr w'→w'.cell? ⟨(ad.add (i*10)).block,(ad.add (i*10)).off+5,none⟩=some (.int .i64 x.bs):=fun w' u=>u.cell (aj 5 _ (by omega) rfl) (by simp)
   have q6:∀w',aa [] [] wr w'→w'.cell? ⟨(ad.add (i*10)).block,(ad.add (i*10)).off+6,none⟩=some (.int .i64 x.hr):=fun w' u=>u.cell (aj 6 _ (by omega) rfl) (by simp)
   have q7:∀w',aa [] [] wr w'→w'.cell? ⟨(ad.add (i*10)).block,(ad.add (i*10)).off+7,none⟩=some (.int .i64 x.hs):=fun w' u=>u.cell (aj 7 _ (by omega) rfl) (by simp)
   have q8:∀w',aa [] [] wr w'→w'.cell? ⟨(ad.add (i*10)).block,(ad.add (i*10)).off+8,none⟩=some (.bool x.so):=fun w' u=>u.cell (aj 8 _ (by omega) rfl) (by simp)
   have q9:∀w',aa [] [] wr w'→w'.cell? ⟨(ad.add (i*10)).block,(ad.add (i*10)).off+9,none⟩=some (.slice x.A x.n x.c):=fun w' u=>u.cell (aj 9 _ (by omega) rfl) (by simp)
   have r0:∀w',aa [] [] wr w'→w'.cell? (ae.add (i*10))=some (.int .i64 y.k):=fun w' u=>u.cell (b0 _ rfl) (by simp)
   have r1:∀w',aa [] [] wr w'→w'.cell? ⟨(ae.add (i*10)).block,(ae.add (i*10)).off+1,none⟩=some (.int .i64 y.f):=fun w' u=>u.cell (bj 1 _ (by omega) rfl) (by simp)
   have r2:∀w',aa [] [] wr w'→w'.cell? ⟨(ae.add (i*10)).block,(ae.add (i*10)).off+2,none⟩=some (.int .i64 y.t):=fun w' u=>u.cell (bj 2 _ (by omega) rfl) (by simp)
   have r3:∀w',aa [] [] wr w'→w'.cell? ⟨(ae.add (i*10)).block,(ae.add (i*10)).off+3,none⟩=some (.int .i64 y.s):=fun w' u=>u.cell (bj 3 _ (by omega) rfl) (by simp)
   have r4:∀w',aa [] [] wr w'→w'.cell? ⟨(ae.add (i*10)).block,(ae.add (i*10)).off+4,none⟩=some (.int .i64 y.br):=fun w' u=>u.cell (bj 4 _ (by omega) rfl) (by simp)
   have r5:∀w',aa [] [] wr w'→w'.cell? ⟨(ae.add (i*10)).block,(ae.add (i*10)).off+5,none⟩=some (.int .i64 y.bs):=fun w' u=>u.cell (bj 5 _ (by omega) rfl) (by simp)
   have r6:∀w',aa [] [] wr w'→w'.cell? ⟨(ae.add (i*10)).block,(ae.add (i*10)).off+6,none⟩=some (.int .i64 y.hr):=fun w' u=>u.cell (bj 6 _ (by omega) rfl) (by simp)
   have r7:∀w',aa [] [] wr w'→w'.cell? ⟨(ae.add (i*10)).block,(ae.add (i*10)).off+7,none⟩=some (.int .i64 y.hs):=fun w' u=>u.cell (bj 7 _ (by omega) rfl) (by simp)
   have r8:∀w',aa [] [] wr w'→w'.cell? ⟨(ae.add (i*10)).block,(ae.add (i*10)).off+8,none⟩=some (.bool y.so):=fun w' u=>u.cell (bj 8 _ (by omega) rfl) (by simp)
   have r9:∀w',aa [] [] wr w'→w'.cell? ⟨(ae.add (i*10)).block,(ae.add (i*10)).off+9,none⟩=some (.slice y.A y.n y.c):=fun w' u=>u.cell (bj 9 _ (by omega) rfl) (by simp)
   have CO:∀w',aa [] [] wr w'→Calls prog 149 #[.agg #[.int .i64 x.k,.int .i64 x.f,.int .i64 x.t,.int .i64 x.s,.int .i64 x.br,.int .i64 x.bs,.int .i64 x.hr,.int .i64 x.hs,.bool x.so,.slice x.A x.n x.c],.agg #[.int .i64 y.k,.int .i64 y.f,.int .i64 y.t,.int .i64 y.s,.int .i64 y.br,.int .i64 y.bs,.int .i64 y.hr,.int .i64 y.hs,.bool y.so,.slice y.A y.n y.c]] w' fun e w''=>e=.returned (.bool true)∧aa [] [] w' w'':=fun w' u=>Zn x y hxy w' ((hx.upd U).upd u) ((hy.upd U).upd u)
   clear a0 aj b0 bj hx hy hxy
   repeat' go_step
   refine wp_region_held_drew (S:=fun w'=>aa [] [] wr w') (by kernel_rfl) (aa.refl [] wr).drew fun _=>?_
   refine aF 0 ?_
   refine aF 1 ?_
   refine aF 2 ?_
   refine aF 3 ?_
   refine aF 4 ?_
   refine aF 5 ?_
   refine aF 6 ?_
   refine aF 7 ?_
   refine aW 8 (fun K hK=>?_)
   go_simp
   refine(CO _ (‹aa [] [] wr _›)).mono ?_;rintro e wa ⟨rfl,ua⟩
   simp only[]
   have UA:aa [] [] wr wa:=(‹aa [] [] wr _›).trans ua
   refine aP hK (UA) fun _=>?_
   clear hK K
   refine aF 9 ?_
   refine dnH ?_ _
   refine wk ?_
   exact⟨aQ.mk ⟨i+1,by omega,by simp,U.trans UA⟩,by simp[intOf];omega⟩
  ·obtain rfl:i=m:=by omega
   have hil:¬ ((i:Int)<(i:Int)):=by omega
   refine wk ?_
   go_ret
   exact⟨rfl,U⟩
section
variable [eU]
theorem Qd(w:World)(M:af)(h:ay w M)(x:Int)(hx:(Lit.int .i64 x).wf=true) :
  Calls prog 19 #[M.ptr,.int .i64 x] w fun e w'=>∃A n c,e=.returned ({M.bZ x with A:=A,n:=n,c:=c} :aN).val∧aT 5 w' A n c (M.bZ x).b∧aa [] (ah A) w w':=by
 obtain⟨hb,-,hbl⟩:=h.tJ x
 have hlk:=fun(wx:World)(b:List Nat)(u:aa [] b w wx)=>(h.au u).look hx
 have q5:∀(wx:World)(b:List Nat)(u:aa [] b w wx),wx.cell? ⟨M.gs,5,none⟩=some (.map (some M.bs)):=fun wx b u=>(h.au u).blk.cell 5
 generalize M.bZ x=y at *
 obtain⟨W,H,G,eW,hH,hG,hB1,hB2,U0⟩:=vY w 37 37 #[.int .i64 0,.int .i64 0,.bool false,.int .i64 0,.int .i64 0,.slice none 0 0] #[.int .i64 y.p.r,.int .i64 y.p.s,.bool y.so,.int .i64 y.at_.r,.int .i64 y.at_.s,.slice y.A y.n y.c]
 have l1:=hlk _ _ ((aa.refl [] w).alloc (.cells #[.int .i64 0,.int .i64 0,.bool false,.int .i64 0,.int .i64 0,.slice none 0 0] 37))
 have q51:=q5 _ _ ((aa.refl [] w).alloc (.cells #[.int .i64 0,.int .i64 0,.bool false,.int .i64 0,.int .i64 0,.slice none 0 0] 37))
 have C:=dS W y.A y.n y.c y.b (aD.upd hb.rd U0 (by simp)) (by omega)
 obtain⟨⟨a0,a1,a2,a3,a4,a5⟩,f0,f1,f2,f3,f4,f5⟩:=hB2.c6
 simp only[aN.val]at l1 ⊢
 rw[af.ptr]
 clear hlk q5 h
 go_enter func19,ntmps19
 repeat' go_step
 refine C.mono ?_;rintro e w1 ⟨A,n,c,rfl,ho,hu⟩
 have K1:=hB1.upd hu
 have K2:=hB2.upd hu
 have aec:=(aa.refl [] W).new hu
 have hl1:=hB1.lt
 have hl2:=hB2.lt
 clear C a0 a1 a2 a3 a4 a5 f0 f1 f2 f3 f4 f5 hB1 hB2 l1 q51
 have u2:aa [G] [G] w1 (w1.setCell ⟨G,5,none⟩ (.slice A n c)):=(aa.refl [G] w1).setCell (p:=⟨G,5,none⟩) (.inl (by simp)) _
 have hfz:w1.frozen? ⟨G,5,none⟩=false:=K2.frozen 5
 have CJ:=K2.aO 5 (.slice A n c)
 have Mm:=K1.upd u2 (by simp only[mem_singleton];omega)
 obtain⟨⟨b0,b1,b2,b3,b4,b5⟩,-⟩:=K2.c6
 obtain⟨W3,hW3⟩:=ex1 (w1.setCell ⟨G,5,none⟩ (.slice A n c))
 have c5:W3.cell? ⟨G,5,none⟩=some (.slice A n c):=by rw[←hW3];exact CJ.cell 5
 have c0:W3.cell? ⟨G,0,none⟩=some (.int .i64 y.p.r):=by rw[←hW3];exact CJ.cell 0
 have c1:W3.cell? ⟨G,1,none⟩=some (.int .i64 y.p.s):=by rw[←hW3];exact CJ.cell 1
 have c2:W3.cell? ⟨G,2,none⟩=some (.bool y.so):=by rw[←hW3];exact CJ.cell 2
 have c3:W3.cell? ⟨G,3,none⟩=some (.int .i64 y.at_.r):=by rw[←hW3];exact CJ.cell 3
 have c4:W3.cell? ⟨G,4,none⟩=some (.int .i64 y.at_.s):=by rw[←hW3];exact CJ.cell 4
 rw[hW3]at u2 Mm
 obtain⟨⟨d0,d1,d2,d3,d4,d5⟩,g0,g1,g2,g3,g4,g5⟩:=Mm.c6
 have K5:=mq Mm (.int .i64 y.p.r) (.int .i64 y.p.s) (.bool y.so) (.int .i64 y.at_.r) (.int .i64 y.at_.s) (.slice A n c)
 have u5:=mr W3 H (.int .i64 y.p.r) (.int .i64 y.p.s) (.bool y.so) (.int .i64 y.at_.r) (.int .i64 y.at_.s) (.slice A n c)
 have dB:=(ho.upd u2 (fun k hk=>by have:=aec k hk;simp only[mem_singleton];omega)).upd u5 (fun k hk=>by have:=aec k hk;simp only[mem_singleton];omega)
 have U5:=(((U0.g0.trans hu).own (g:=G) (by omega) u2).own (g:=H) (by omega) u5)
 clear K1 K2 Mm ho u2 u5 hu U0 CJ hb
 refine wk ?_
 generalize hW:World.setCell _ _ _=W4
 rw[vK,hW]at K5 dB U5
 obtain⟨⟨z0,z1,z2,z3,z4,z5⟩,-⟩:=K5.c6
 exact bodyPost_ret (v:=.agg #[.int .i64 y.p.r,.int .i64 y.p.s,.bool y.so,.int .i64 y.at_.r,.int .i64 y.at_.s,.slice A n c]) (by simp[results,results19,go_sem,z0,z1,z2,z3,z4,z5]) rfl ⟨A,n,c,rfl,dB,U5⟩
end
theorem Ref.aeM{X:List Nat}{w:World}{r:ai}{s:Site}(h:Ref X w r s)(x:Int):∃A n c,pI (dX r.L x)=.slice A n c∧aD w A n ((s.dec x).getD []):=by
 have h1:=h.aJ.lv x
 cases hg:dX r.L x with
 |none=>
  rw[hg]at h1
  rw[←h1]
  exact⟨none,0,0,rfl,aD.nil _ _⟩
 |some b=>
  rw[hg]at h1
  rw[←h1]
  exact⟨b.A,b.n,b.c,rfl,h.mem.lb _ (qB hg)⟩
theorem Sp.Qe(x:Sp):x.same x=true:=by unfold Sp.same;simp
section
variable [eU]
theorem XK(X:List Nat)(w:World)(M:af)(hS:ay w M)(r:ai)(hR:Ref X w r M.pl)(sl:Int)(hsl: -9223372036854775808≤sl∧sl<9223372036854775808) :
  Calls prog 32 #[M.ptr,r.val,.int .i64 sl] w fun e w'=>e=.returned (.bool true)∧aa [] [] w w':=by
 obtain⟨ii,hii,abx⟩:=fP
 obtain⟨W,H,eW,hH,hB,U0⟩:=az w 63 r.cells.toArray
 have dm:aa [] [] w W:=U0.g0
 have hS1:=hS.au dm
 have fI:=hR.grow dm
 have Qf:=Tw W M hS1
 have agF:0≤M.pl.bJ∧M.pl.bJ≤4096:=by
  have h1:=hS.ok.top
  have h2:=hR.aJ.Og
  have h3:=wz r.L 0 4096 (by omega) (fun p hp=>by have:=hR.aJ.lr p hp;omega)
  unfold Site.bJ
  omega
 have hdl:r.D.n=M.db.length:=by have h1:=hR.mem.db.len;rw[hR.aJ.db]at h1;exact h1
 have hdU:r.dn=M.dn:=hR.aJ.dn
 have Fh:r.held.length=M.held.length:=by rw[hR.aJ.hl];exact af.bf M
 have hdw:r.down=M.pl.down:=hR.aJ.down
 obtain⟨tp,htp⟩:=ex1 M.pl.bJ
 obtain⟨dl,Zo⟩:=ex1 M.db.length
 obtain⟨dn,Zp⟩:=ex1 M.dn
 obtain⟨fr,hfr⟩:=ex1 M.pl.front
 obtain⟨hl,Zq⟩:=ex1 M.held.length
 obtain⟨D,hD⟩:=ex1 M.pl.down
 rw[htp]at agF
 rw[Zo]at hdl
 rw[Zp]at hdU
 rw[Zq]at Fh
 rw[hD]at hdw
 rw[Zo,Zp]at Qf
 have n1:(D != D)=false:=by simp
 have n2:((hl:Int) != (hl:Int))=false:=by simp
 have n3:((dl:Int) != (dl:Int))=false:=by simp
 have n4:((dn:Int) != (dn:Int))=false:=by simp
 have n5:((fr:Int) != (fr:Int))=false:=by simp
 have n6:(tp != tp)=false:=by simp
 obtain⟨pp,Am⟩:=ex1 M.ptr
 obtain⟨gs,hgs⟩:∃gs,pp=.pointer (some ⟨gs,0,none⟩):=⟨M.gs,by rw[←Am];rfl⟩
 rw[Am]at Qf
 rw[Am,ai.arr]
 rw[hgs]at Qf Am ⊢
 clear hgs
 go_enter func32,ntmps32
 repeat' go_step
 refine Qf.mono ?_;rintro e w2 ⟨rfl,u2⟩
 clear Qf
 have hS2:=hS1.au u2
 have hR2:=fI.grow u2
 have hB2:=hB.upd u2
 have Zr:=yP X w2 r M.pl hR2
 rw[htp,ai.arr]at Zr
 repeat' (fail_if_success with_reducible refine ek (t:=63) rfl ?_);first|go_step|simp only[];go_at_K
 refine bF hii hB2 abx ?_
 repeat' go_step
 refine Zr.mono ?_;rintro e w3 ⟨rfl,u3⟩
 clear Zr
 obtain⟨W3,hW3⟩:=ex1 w3
 rw[hW3]at u3 ⊢
 have CU:=hS2.au u3
 have je:=hR2.grow u3
 have hB3:=hB2.upd u3
 have U3:aa [] [] w W3:=(dm.trans u2).trans u3
 clear hS1 fI hB hS2 hR2 hB2 u2 u3 U0 dm eW hW3
 have b3:∀p:GU W3,p.w.cell? ⟨H,3,none⟩=some (.bool D):=fun p=>by rw[(hB3.upd p.u (by simp)).cell 3];show some (Value.bool r.down)=_;rw[hdw]
 have b21:∀p:GU W3,p.w.cell? ⟨H,21,none⟩=some (.slice r.HA hl r.hc):=fun p=>by rw[(hB3.upd p.u (by simp)).cell 21];show some (Value.slice r.HA r.held.length r.hc)=_;rw[Fh]
 have b4:∀p:GU W3,p.w.cell? ⟨H,4,none⟩=some (.slice r.D.A dl r.D.c):=fun p=>by rw[(hB3.upd p.u (by simp)).cell 4];show some (Value.slice r.D.A r.D.n r.D.c)=_;rw[hdl]
 have b5:∀p:GU W3,p.w.cell? ⟨H,5,none⟩=some (.int .i64 (dn:Int)):=fun p=>by rw[(hB3.upd p.u (by simp)).cell 5];show some (Value.int .i64 (r.dn:Int))=_;rw[hdU]
 have b7:∀p:GU W3,p.w.cell? ⟨H,7,none⟩=some (.slice r.LA r.L.length r.lc):=fun p=>(hB3.upd p.u (by simp)).cell 7
 have CDn:∀p:GU W3,Calls prog 17 #[.pointer (some ⟨gs,0,none⟩)] p.w fun e w''=>e=.returned (.bool D)∧∃q:GU W3,w''=q.w:=fun p=>GU.call p (by
  have:=oF p.w M (CU.au p.u)
  rw[hD,Am]at this
  exact this.mono fun _ _ ⟨h1,h2⟩=>⟨h1,h2▸aa.refl _ _⟩)
 have Fj:∀p:GU W3,Calls prog 22 #[.pointer (some ⟨gs,0,none⟩)] p.w fun e w''=>e=.returned (.int .i64 (hl:Int))∧∃q:GU W3,w''=q.w:=fun p=>GU.call p (by
  have:=Tx p.w M (CU.au p.u)
  rw[af.bf,Zq,Am]at this
  exact this.mono fun _ _ ⟨h1,h2⟩=>⟨h1,h2▸aa.refl _ _⟩)
 have Fg:∀p:GU W3,Calls prog 28 #[.pointer (some ⟨gs,0,none⟩)] p.w fun e w''=>e=.returned (.int .i64 (fr:Int))∧∃q:GU W3,w''=q.w:=fun p=>GU.call p (by
  have:=IA p.w M (CU.au p.u)
  rw[hfr,Am]at this
  exact this.mono fun _ _ ⟨h1,h2⟩=>⟨h1,h2▸aa.refl _ _⟩)
 have CRf:∀p:GU W3,Calls prog 89 #[.slice r.LA r.L.length r.lc] p.w fun e w''=>e=.returned (.int .i64 (fr:Int))∧∃q:GU W3,w''=q.w:=fun p=>GU.call p (by
  have h9:=je.grow p.u
  have:=oq p.w r.LA r.lc r.L h9.mem.L h9.mem.big.2.1
  rw[h9.aJ.front,hfr]at this
  exact this.mono fun _ _ ⟨h1,h2⟩=>⟨h1,h2▸aa.refl _ _⟩)
 have xW:∀p:GU W3,Calls prog 36 #[.pointer (some ⟨gs,0,none⟩)] p.w fun e w''=>e=.returned (.int .i64 tp)∧∃q:GU W3,w''=q.w:=fun p=>GU.call p (by
  have:=Ej p.w M (CU.au p.u)
  rw[htp,Am]at this
  exact this)
 repeat' (fail_if_success with_reducible refine Ag rfl ?_);first|go_step|simp only[];go_at_K
 refine dx (by kernel_rfl) (by kernel_rfl) ?_
 repeat (go_big_quiet_step (first|exact CDn _|exact Fj _|exact Fg _|exact CRf _|exact xW _))
 refine wpQuiet_nil ?_
 rintro _ ⟨p,rfl⟩
 obtain⟨W4,Mo⟩:=p
 simp only[]
 have Cj:=CU.au Mo
 have nO:=je.grow Mo
 have hB4:=hB3.upd Mo
 have U4:=U3.trans Mo
 clear CDn Fj Fg CRf xW b3 b21 b4 b5 b7 CU je hB3 U3
 repeat' go_step
 go_loopw [10] (fun v10 wr=>aQ (∃(i:Nat),i≤26∧v10=.int .i64 ((i:Int)-1)∧aa [] [] W4 wr)) (fun v10 _=>26-(intOf v10+1).toNat)
 case atStart=>exact aQ.mk ⟨0,by omega,by simp,aa.refl _ _⟩
 case round=>
  obtain⟨i,hi,rfl,U⟩:=hrel.out
  clear hrel
  obtain⟨z,hz⟩:∃z:Int,(i:Int) - 1=z:=⟨_,rfl⟩
  rw[hz]
  by_cases hlt:z<25
  ·have d25:decide (z<25)=true:=dTx hlt
   have hw1:=aA.wr (z+1)
   have hw2:=aA.wr (tp-z)
   have hw3:=aA.wr (tp-z+20)
   obtain⟨k1,hk1⟩:∃k1:Int,(if 20≤z then tp - z+20 else z)=k1:=⟨_,rfl⟩
   obtain⟨k,hk⟩:∃k:Int,(if z= -1 then sl else k1)=k:=⟨_,rfl⟩
   have hkr: -9223372036854775808≤k∧k<9223372036854775808:=by
    rw[←hk]
    split
    ·exact hsl
    ·rw[←hk1];split<;>omega
   have HK1:=hdn hk1
   have HK:=hdn hk
   have HZ:=hdn hz
   clear hk1 hk hz
   go_upto_if 71 with fail
   go_cut [11]from 65 to 110 (fun s11 wc=>s11=.int .i64 k1∧wr=wc)
   case first=>
    by_cases h1:20≤z
    ·have d1:decide (20≤z)=true:=dTx h1
     have hk1:=HK1.out
     rw[if_pos h1]at hk1
     repeat' go_step
     go_meet
     exact⟨by rw[←hk1],rfl⟩
    ·have d1:decide (20≤z)=false:=dFx h1
     have hk1:=HK1.out
     rw[if_neg h1]at hk1
     repeat' go_step
     go_meet
     exact⟨by rw[←hk1],rfl⟩
   case rest=>
    obtain⟨rfl,hwc⟩:=hcut
    subst hwc
    go_upto_if 77 with fail
    go_cut [11]from 65 to 110 (fun s11 wc=>s11=.int .i64 k∧wr=wc)
    case first=>
     by_cases h1:z= -1
     ·have d1:(z == -1)=true:=by rw[h1];rfl
      have hk:=HK.out
      rw[if_pos h1]at hk
      repeat' go_step
      go_meet
      exact⟨by rw[←hk],rfl⟩
     ·have d1:(z == -1)=false:=beq_false_of_ne h1
      have hk:=HK.out
      rw[if_neg h1]at hk
      repeat' go_step
      go_meet
      exact⟨by rw[←hk],rfl⟩
    case rest=>
     obtain⟨rfl,hwc⟩:=hcut
     subst hwc
     have hS5:=Cj.au U
     have tL:=nO.grow U
     have fw:=hB4.upd U
     have hwf:(Lit.int .i64 k).wf=true:=jV (by omega) (by omega)
     have CD:=Ao wr M hS5 k hwf
     rw[Am]at CD
     have jA:=tL.got k
     obtain⟨is,his⟩:=ex1 ((M.pl.dec k).isSome)
     rw[his]at CD jA
     obtain⟨B,zX⟩:=ex1 ((M.pl.dec k).getD [])
     rw[zX]at CD
     clear his
     repeat' go_step
     refine CD.mono ?_;rintro e w5 ⟨A5,n5,c5,rfl,dB,ub5⟩
     have u5:aa [] [] wr w5:=ub5.gives
     have WI:=hS5.au u5
     have wB:=tL.grow u5
     have dK:=fw.upd u5
     have CE:=mZ w5 r wB.mem k
     obtain⟨VA,Vn,Vc,hov,lY⟩:=wB.aeM k
     rw[jA,hov,ai.arr]at CE
     rw[zX]at lY
     have U6:=U.trans u5
     clear CD hS5 tL fw ub5 hov jA U u5
     repeat' (fail_if_success with_reducible refine ek (t:=63) rfl ?_);first|go_step|simp only[];go_at_K
     refine bF hii dK abx ?_
     repeat' go_step
     refine CE.mono ?_;rintro e w7 ⟨rfl,u7⟩
     obtain⟨Wd,hWd⟩:=ex1 w7
     rw[hWd]at u7 ⊢
     have hSd:=WI.au u7
     have Mq:=wB.grow u7
     have hBd:=dK.upd u7
     have hod:=dB.rd.upd u7
     have hvd:=lY.upd u7
     have Ud:=U6.trans u7
     clear CE WI wB dK dB lY U6 u7 hWd zX
     have LT:∀w',aa [] [] Wd w'→ak w' H 63 r.cells.toArray:=fun w' u=>hBd.upd u
     have s1:=fun(w':World)(u:aa [] [] Wd w')=>strOf (hod.upd u) c5
     have s2:=fun(w':World)(u:aa [] [] Wd w')=>strOf (hvd.upd u) Vc
     have m1:(is != is)=false:=by simp
     have CS:∀w',aa [] [] Wd w'→Calls prog 19 #[.pointer (some ⟨gs,0,none⟩),.int .i64 k] w' fun e w''=>∃A n c,e=.returned ({M.bZ k with A:=A,n:=n,c:=c} :aN).val∧aT 5 w'' A n c (M.bZ k).b∧aa [] [] w' w'':=fun w' u=>by
      have:=Qd w' M (hSd.au u) k hwf
      rw[Am]at this
      exact this.mono fun _ _ ⟨A,n,c,h1,h2,h3⟩=>⟨A,n,c,h1,h2,h3.gives⟩
     have CR:∀w',aa [] [] Wd w'→Calls prog 92 #[.agg r.cells.toArray,.int .i64 k] w' fun e w''=>e=.returned (r.state k).val∧aa [] [] w' w'':=fun w' u=>kV w' r ((Mq.grow u).mem) k
     have WJ:=(Mq.state k).rd
     have HPL:=hdn (fun(A:Option Addr)(n c:Nat)=>show({M.bZ k with A:=A,n:=n,c:=c} :aN).pl=(r.state k).pl by rw[Mq.aJ.st k,←af.nU];rfl)
     have HSA:=hdn (Sp.Qe (r.state k).pl)
     repeat' first|go_step|simp only[];go_at_K
     refine wp_region_held_drew (S:=fun w'=>aa [] [] Wd w') (by kernel_rfl) (aa.refl [] Wd).drew fun _=>?_
     refine aF 0 ?_
     refine aF 1 ?_
     refine aF 2 ?_
     refine aF 3 ?_
     refine aF 4 ?_
     refine aF 5 ?_
     refine aF 6 ?_
     refine aF 7 ?_
     refine aF 8 ?_
     refine aF 9 ?_
     refine aF 10 ?_
     refine aF 11 ?_
     refine aF 12 ?_
     refine mi 14 hii (r).cells abx LT ?_
     refine aF 15 ?_
     refine aW 13 (fun K hK=>?_)
     rw[if_pos (by kernel_rfl)]
     go_simp
     refine(CS _ ‹aa [] [] Wd _›).mono ?_;rintro e wa1 ⟨A4,n4,c4,rfl,bY,ua1⟩
     simp only[]
     have Zt:=(‹aa [] [] Wd _›).trans ua1
     refine aP hK (Zt) fun _=>?_
     clear hK K
     refine aW 16 (fun K hK=>?_)
     rw[if_pos (by kernel_rfl)]
     go_simp
     refine(CR _ Zt).mono ?_;rintro e wa2 ⟨rfl,ua2⟩
     simp only[]
     have Zu:=(Zt).trans ua2
     refine aP hK (Zu) fun _=>?_
     clear hK K
     refine aW 17 (fun K hK=>?_)
     rw[if_pos (by kernel_rfl)]
     have CM:=Fp wa2 {M.bZ k with A:=A4,n:=n4,c:=c4} (r.state k) (bY.rd.upd ua2) (WJ.upd Zu)
     rw[aN.Mr,HPL.out,HSA.out]at CM
     go_simp
     refine CM.mono ?_;rintro e wa3 ⟨rfl,ua3⟩
     simp only[]
     have UA3:=(Zu).trans ua3
     refine aP hK (UA3) fun _=>?_
     clear hK K
     refine aF 18 ?_
     refine aF 19 ?_
     refine dnH ?_ _
     refine wk ?_
     exact⟨aQ.mk ⟨i+1,by have:=HZ.out;omega,by have:=HZ.out;simp;omega,Ud.trans UA3⟩,by have:=HZ.out;simp[intOf];omega⟩
  ·have d25:decide (z<25)=false:=dFx hlt
   refine wk ?_
   go_ret
   exact⟨rfl,U4.trans U⟩
end
theorem KR(w:World)(me n p:Int)(h:fB me n p=false) :
  Calls prog 70 #[.int .i64 me,.int .i64 n,.int .i64 p] w fun e w'=>e=.returned (.tuple #[.pointer none,.int .i64 1])∧w=w':=by
 by_cases a1:n<1
 ·have d1:decide (n<1)=true:=dTx a1
  clear h a1
  go_enter func70,ntmps70
  refine wk ?_
  go_ret2
  exact⟨rfl,rfl⟩
 have d1:decide (n<1)=false:=dFx a1
 by_cases a2:7<n
 ·have d2:decide (7<n)=true:=dTx a2
  clear h a1 a2
  go_enter func70,ntmps70
  refine wk ?_
  go_ret2
  exact⟨rfl,rfl⟩
 have d2:decide (7<n)=false:=dFx a2
 by_cases a3:me<0
 ·have d3:decide (me<0)=true:=dTx a3
  clear h a1 a2 a3
  go_enter func70,ntmps70
  refine wk ?_
  go_ret2
  exact⟨rfl,rfl⟩
 have d3:decide (me<0)=false:=dFx a3
 by_cases a4:n≤me
 ·have d4:decide (n≤me)=true:=dTx a4
  clear h a1 a2 a3 a4
  go_enter func70,ntmps70
  refine wk ?_
  go_ret2
  exact⟨rfl,rfl⟩
 have d4:decide (n≤me)=false:=dFx a4
 by_cases a5:p<1
 ·have d5:decide (p<1)=true:=dTx a5
  clear h a1 a2 a3 a4 a5
  go_enter func70,ntmps70
  refine wk ?_
  go_ret2
  exact⟨rfl,rfl⟩
 have d5:decide (p<1)=false:=dFx a5
 by_cases a6:1000<p
 ·have d6:decide (1000<p)=true:=dTx a6
  clear h a1 a2 a3 a4 a5 a6
  go_enter func70,ntmps70
  refine wk ?_
  go_ret2
  exact⟨rfl,rfl⟩
 exfalso
 have:fB me n p=true:=by
  simp only[fB,Bool.and_eq_true,decide_eq_true_eq];omega
 rw[h]at this
 cases this
theorem Nz(w:World)(me n p:Int)(h:iC me n p=false) :
  Calls prog 29 #[.int .i64 me,.int .i64 n,.int .i64 p] w fun e w'=>e=.returned (.tuple #[.pointer none,.int .i64 1])∧w=w':=by
 by_cases a1:n<3
 ·have d1:decide (n<3)=true:=dTx a1
  clear h a1
  go_enter func29,ntmps29
  refine wk ?_
  go_ret2
  exact⟨rfl,rfl⟩
 have d1:decide (n<3)=false:=dFx a1
 by_cases a2:7<n
 ·have d2:decide (7<n)=true:=dTx a2
  clear h a1 a2
  go_enter func29,ntmps29
  refine wk ?_
  go_ret2
  exact⟨rfl,rfl⟩
 have d2:decide (7<n)=false:=dFx a2
 have C:=KR w me n p (by
  cases ht:fB me n p with
  |false=>rfl
  |true=>
   exfalso
   simp only[fB,Bool.and_eq_true,decide_eq_true_eq]at ht
   have:iC me n p=true:=by
    simp only[iC,Bool.and_eq_true,decide_eq_true_eq];omega
   rw[h]at this
   cases this)
 clear h a1 a2
 go_enter func29,ntmps29
 repeat' first|go_guarded|go_step
 refine C.mono ?_;rintro e w1 ⟨rfl,rfl⟩
 refine wk ?_
 go_ret2
 exact⟨rfl,rfl⟩
theorem Po(w:World)(me n p:Int)(h:iC me n p=false) :
  Calls prog 30 #[.int .i64 me,.int .i64 n,.int .i64 p] w fun e w'=>e=.returned (.tuple #[.agg cz,.int .i64 1])∧aa [] [] w w':=by
 obtain⟨ii,hii,abx⟩:=fP
 obtain⟨W,G,eW,hG,hBG,U0⟩:=az w 63 cz
 have WK:aa [] [] w W:=U0.g0
 have aR:∀k∈[G],w.heap.size≤k:=ge1
 have CN:=IB W me n p
 have hz:(ai.new 0 0 0).cells.toArray=cz:=rfl
 rw[←hz]
 obtain⟨T,hT⟩:=ex1 (fB me n p)
 rw[hT]at CN
 cases T with
 |false=>
  simp only[Bool.false_eq_true,if_false,iA,dI]at CN
  clear hT h hz
  go_enter func30,ntmps30
  repeat' go_step
  refine CN.mono ?_;rintro e w3 ⟨rfl,u3⟩
  clear CN
  have hG3:=hBG.upd u3
  have U3:=WK.trans u3
  repeat' (fail_if_success with_reducible refine eT (t:=63) rfl ?_);first|go_skip|go_step|simp only[];go_at_K
  refine bL (ai.new 0 0 0).cells hii abx (hG3.alloc _) ?_
  intro W8 aX u8
  refine wk ?_
  exact bodyPost_ret (jZ (s:=6) (u:=7) (t:=63) (by rw[results30]) rfl hii (fun _=>rfl) (ai.new 0 0 0).cells abx aX) rfl ⟨rfl,(U3.trans ((aa.refl [] w3).alloc _)).aB aR u8⟩
 |true=>
  have EF:n<3:=by
   simp only[fB,Bool.and_eq_true,decide_eq_true_eq]at hT
   rcases Int.lt_or_le n 3 with h9|h9
   ·exact h9
   ·have:iC me n p=true:=by
     simp only[iC,Bool.and_eq_true,decide_eq_true_eq];omega
    rw[h]at this
    cases this
  have d3:decide (n<3)=true:=dTx EF
  simp only[if_true,iA,dI]at CN
  clear hT h hz EF
  go_enter func30,ntmps30
  repeat' go_step
  refine CN.mono ?_;rintro e w3 ⟨rfl,u3⟩
  clear CN
  have hG3:=hBG.upd u3
  have U3:=WK.trans u3
  repeat' (fail_if_success with_reducible refine eT (t:=63) rfl ?_);first|go_guarded|go_step|simp only[];go_at_K
  refine bL (ai.new 0 0 0).cells hii abx (hG3.alloc _) ?_
  intro W8 aX u8
  refine wk ?_
  exact bodyPost_ret (jZ (s:=6) (u:=7) (t:=63) (by rw[results30]) rfl hii (fun _=>rfl) (ai.new 0 0 0).cells abx aX) rfl ⟨rfl,(U3.trans ((aa.refl [] w3).alloc _)).aB aR u8⟩
