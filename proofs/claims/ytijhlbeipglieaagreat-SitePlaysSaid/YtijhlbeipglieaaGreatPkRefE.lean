/- For SitePlays. -/
import Derived.Test.YtijhlbeipglieaaGreatPkRefD
set_option linter.all false
set_option maxRecDepth 100000
set_option maxHeartbeats 16000000
namespace Go.Proofs.YtijhlbeipglieaaGreat
open Go.RowKit aA Go.Maps Go.Proofs.Tryz List
theorem Ref.state{X:List Nat}{w:World}{r:ai}{s:Site}(h:Ref X w r s)(x:Int):dU X w (r.state x).A (r.state x).n (r.state x).b:=by
 unfold ai.state ai.look
 cases hl:r.K.find? fun p=>decide (p.1=x) with
 |none=>exact dU.nil X w none
 |some p=>
  have hp:=List.mem_of_find?_eq_some hl
  exact⟨h.mem.kb p hp,fun k hk=>h.off k (ai.sub.2 (.inr (.inr (.inl ⟨p,hp,hk⟩))))⟩
theorem Dh(X:List Nat)(w:World)(r:ai)(s:Site)(h:Ref X w r s)(hX:∀k∈X,k<w.heap.size)(x:Int)(hx:0≤x∧x<4096)(b:Bl)(hb:b.may 7=true) :
  Calls prog 214 #[r.val,.int .i64 x,b.val] w fun e w'=>OC X w w' e (s.promise x b) s:=by
 obtain⟨ii,hii,abx⟩:=fP
 obtain⟨ij,pO,pQ⟩:=Bu
 obtain⟨W,H,eW,hH,hB,U0⟩:=az w 63 r.cells.toArray
 obtain⟨W1,J,nK,hJ,fT,U1⟩:=az W 30 #[.int .i64 b.r,.int .i64 b.s]
 obtain⟨W2,G,fu,hG,hBG,U2⟩:=az W1 63 cz
 have hB2:=(hB.upd U1).upd U2
 have hJ2:=fT.upd U2
 have hs0:=U0.size
 have hs1:=U1.size
 have hs2:=U2.size
 have afY:J≠H:=by have:=hB.lt;omega
 have dY:G≠H:=by have:=hB.lt;omega
 have aK:aa [] [] w W2:=(U0.g0.trans U1.g0).trans U2.g0
 have hY:∀k∈[H,G],w.heap.size≤k:=ge2
 have aR:∀k∈[G],w.heap.size≤k:=ge1
 have wI:∀W',aa [] [] W2 W'→∀k∈[H,G]++X,k<W'.heap.size:=fun W' u k hk=>by
  have h1:=hB2.lt
  have h3:=hBG.lt
  have hu:=u.size
  simp only[cons_append,nil_append,mem_cons]at hk
  rcases hk with rfl|rfl|hk
  ·omega
  ·omega
  ·have:=hX k hk;have:=aK.size;omega
 have h2:=(h.more hY).grow aK
 have Di:∀w',aa [] [] W2 w'→ak w' H 63 r.cells.toArray:=fun w' u=>hB2.upd u
 have B0:∀w',aa [] [] W2 w'→w'.cell? ⟨J,0,none⟩=some (.int .i64 b.r):=fun w' u=>(hJ2.upd u).cell 0
 have B1:∀w',aa [] [] W2 w'→w'.cell? ⟨J,1,none⟩=some (.int .i64 b.s):=fun w' u=>(hJ2.upd u).cell 1
 have CS:∀w',aa [] [] W2 w'→Calls prog 92 #[.agg r.cells.toArray,.int .i64 x] w' fun e w''=>e=.returned (r.state x).val∧aa [] [] w' w'':=fun w' u=>kV w' r ((h2.grow u).mem) x
 have CP:=fun(w':World)=>Jg w' (r.state x) b
 have rR:=h2.state x
 have hst:=h.aJ.st x
 have hok:=h.aJ.ok.stat x
 obtain⟨T,hT⟩:=ex1 (r.state x)
 rw[hT]at CS CP rR hst
 rw[←hst]at hok
 clear hT
 obtain⟨R,hR⟩:=ex1 (gP T b)
 obtain⟨P,hP⟩:=ex1 ((gP T b).getD T.p)
 rw[hP,hR]at CP
 rw[hR]at hP
 have HP:=hdn hP
 have Dj:=hdn (show(R=none→s.promise x b=none)∧(R=some b→s.promise x b=s.note ({T with p:=b} :aN).pl ⟨1,x,b.r,b.s,[]⟩) by
  have e:s.promise x b=if b.r<1∨bg b T.p<0 then none else s.note {T.pl with p:=b} ⟨1,x,b.r,b.s,[]⟩:=by
   unfold Site.promise;rw[←hst];rfl
  rw[e,←hR]
  unfold gP
  by_cases hc:b.r<1∨bg b T.p<0
  ·rw[if_pos hc,if_pos hc]
   exact⟨fun _=>rfl,fun hh=>(by cases hh)⟩
  ·rw[if_neg hc,if_neg hc]
   exact⟨fun hh=>(by cases hh),fun _=>rfl⟩)
 have fI:R=none∨R=some b∧1≤b.r:=by
  rw[←hR];unfold gP
  by_cases hc:b.r<1∨bg b T.p<0
  ·rw[if_pos hc];exact .inl rfl
  ·rw[if_neg hc];exact .inr ⟨rfl,by omega⟩
 obtain⟨F,hF⟩:=ex1 (s.promise x b)
 rw[hF]at Dj ⊢
 rw[Bl.val]at CP
 rw[ai.arr,Bl.val]
 clear hF hP hR hst
 go_enter func214,ntmps214
 repeat' go_step
 go_cut [8,9]from 10 (fun s8 s9 wc=>aQ (∃M:Nat,s8=.pointer (some ⟨M,0,none⟩)∧s9=.bool R.isSome∧ak wc M 166 ({T with p:=P} :aN).cells.toArray∧aa [] [] W2 wc))
 case first=>
  refine wp_region_held_drew (S:=fun w'=>aa [] [] W2 w') (by kernel_rfl) (aa.refl [] W2).drew fun _=>?_
  refine mi 0 hii (r).cells abx Di ?_
  refine aF 1 ?_
  refine aF 3 ?_
  refine wpAnyH_ready (rs:=[2,8]) (by kernel_rfl) (by simp) ?_
  refine AllReadyH.cons rfl (fun K hK=>?_) (.cons rfl (fun K hK=>?_) .nil)
  ·skip
   go_simp
   refine(CS _ ‹aa [] [] W2 _›).mono ?_;rintro e wa ⟨rfl,ua⟩
   simp only[]
   have UA:=(‹aa [] [] W2 _›).trans ua
   refine aP hK (UA) fun _=>?_
   clear hK K
   refine wpAnyH_ready (rs:=[4,8]) (by kernel_rfl) (by simp) ?_
   refine AllReadyH.cons rfl (fun K hK=>?_) (.cons rfl (fun K hK=>?_) .nil)
   ·skip
    go_simp
    refine(CP _).mono ?_;rintro e wb ⟨rfl,ub⟩
    simp only[]
    have UB:=UA.trans ub
    refine aP hK (UB) fun _=>?_
    clear hK K
    refine aF 5 ?_
    refine aF 6 ?_
    refine aF 7 ?_
    refine aW 8 (fun K hK=>?_)
    obtain⟨Wm,M,vX,hM,fD,UM⟩:=az wb 166 #[.int .i64 0,.int .i64 0,.bool false,.int .i64 0,.int .i64 0,.slice none 0 0]
    have UC:=(UB).trans UM.g0
    have mQ:∀k∈[M],W2.heap.size≤k:=by have:=(UB).size;simp only[mem_singleton];rintro k rfl;omega
    go_simp
    refine aP hK (UC) fun _=>?_
    clear hK K
    refine aW 9 (fun K hK=>?_)
    refine cu rfl _ _ 166 rfl pO rfl ({T with p:=P} :aN).cells rfl pQ fD rfl rfl ?_
    intro Wn eu un
    have UN:=UC.aB mQ un
    refine aP hK (UN) fun _=>?_
    clear hK K
    refine aF 10 ?_
    refine dnH ?_ _
    refine wk ?_
    go_meet
    exact aQ.mk ⟨M,rfl,rfl,eu,UN⟩
   ·skip
    obtain⟨Wm,M,vX,hM,fD,UM⟩:=az wa 166 #[.int .i64 0,.int .i64 0,.bool false,.int .i64 0,.int .i64 0,.slice none 0 0]
    have UC:=(UA).trans UM.g0
    have mQ:∀k∈[M],W2.heap.size≤k:=by have:=(UA).size;simp only[mem_singleton];rintro k rfl;omega
    go_simp
    refine aP hK (UC) fun _=>?_
    clear hK K
    refine aW 4 (fun K hK=>?_)
    go_simp
    refine(CP _).mono ?_;rintro e wb ⟨rfl,ub⟩
    simp only[]
    have UB:=UC.trans ub
    have fD:=fD.upd ub
    refine aP hK (UB) fun _=>?_
    clear hK K
    refine aF 5 ?_
    refine aF 6 ?_
    refine aF 7 ?_
    refine aW 9 (fun K hK=>?_)
    refine cu rfl _ _ 166 rfl pO rfl ({T with p:=P} :aN).cells rfl pQ fD rfl rfl ?_
    intro Wn eu un
    have UN:=UB.aB mQ un
    refine aP hK (UN) fun _=>?_
    clear hK K
    refine aF 10 ?_
    refine dnH ?_ _
    refine wk ?_
    go_meet
    exact aQ.mk ⟨M,rfl,rfl,eu,UN⟩
  ·skip
   obtain⟨Wm,M,vX,hM,fD,UM⟩:=az W2.drew 166 #[.int .i64 0,.int .i64 0,.bool false,.int .i64 0,.int .i64 0,.slice none 0 0]
   have UC:=((aa.refl [] W2).drew).trans UM.g0
   have mQ:∀k∈[M],W2.heap.size≤k:=by have:=((aa.refl [] W2).drew).size;simp only[mem_singleton];rintro k rfl;omega
   go_simp
   refine aP hK (UC) fun _=>?_
   clear hK K
   refine aW 2 (fun K hK=>?_)
   go_simp
   refine(CS _ ‹aa [] [] W2 _›).mono ?_;rintro e wa ⟨rfl,ua⟩
   simp only[]
   have UA:=(‹aa [] [] W2 _›).trans ua
   have fD:=fD.upd ua
   refine aP hK (UA) fun _=>?_
   clear hK K
   refine aW 4 (fun K hK=>?_)
   go_simp
   refine(CP _).mono ?_;rintro e wb ⟨rfl,ub⟩
   simp only[]
   have UB:=UA.trans ub
   have fD:=fD.upd ub
   refine aP hK (UB) fun _=>?_
   clear hK K
   refine aF 5 ?_
   refine aF 6 ?_
   refine aF 7 ?_
   refine aW 9 (fun K hK=>?_)
   refine cu rfl _ _ 166 rfl pO rfl ({T with p:=P} :aN).cells rfl pQ fD rfl rfl ?_
   intro Wn eu un
   have UN:=UB.aB mQ un
   refine aP hK (UN) fun _=>?_
   clear hK K
   refine aF 10 ?_
   refine dnH ?_ _
   refine wk ?_
   go_meet
   exact aQ.mk ⟨M,rfl,rfl,eu,UN⟩
 case rest=>
  obtain⟨M,rfl,rfl,fD,UD⟩:=hcut.out
  clear hcut CS CP
  have kB:=Di _ UD
  have kG:=hBG.upd UD
  rcases fI with rfl|⟨rfl,hb1⟩
  ·have dQ:F=none:=Dj.out.1 rfl
   subst dQ
   clear Di B0 B1
   repeat' (fail_if_success with_reducible refine ek (t:=63) rfl ?_);go_step
   refine bF hii kB abx ?_
   refine bK ?_
   refine bL r.cells hii abx kG ?_
   intro W8 aX u8
   refine wk ?_
   exact ug results214 hii aX abx ⟨_,rfl,r,rfl,((h2.grow UD).upd u8).less,(aK.trans UD).aB aR u8⟩
  ·obtain rfl:b=P:=HP.out
   have dQ:F=s.note ({T with p:=b} :aN).pl (Rv.rc ⟨1,x,b.r,b.s,none,0,0,[]⟩):=Dj.out.2 rfl
   have ib:=Bl.jb.1 hb
   have b0:=B0 _ UD
   have b1:=B1 _ UD
   have C:=Jl ([H,G]++X) wc r s (h2.grow UD) (wI wc UD) ⟨1,x,b.r,b.s,none,0,0,[]⟩ (aD.nil _ _) ⟨by simp[Rv.rc],by simp[Rv.rc];omega,by simpa[Rv.rc]using ib.1,by simpa[Rv.rc]using ib.2,by simp[Rv.rc]⟩ {T with p:=b} (rR.grow UD)
    (by unfold Sp.same Sp.zero aN.pl;rw[show(b.r==0)=false from beq_false_of_ne (by omega)];rfl) ⟨hok.1,hb,hok.2.2⟩
   rw[←dQ,ai.arr,Rv.aH,aN.val]at C
   obtain⟨⟨m0,m1,m2,m3,m4,m5⟩,-⟩:=ak.c6 fD
   clear dQ fD Di B0 B1 Dj hok
   repeat' (fail_if_success with_reducible refine ek (t:=63) rfl ?_);go_step
   refine bF hii kB abx ?_
   repeat' go_step
   refine C.mono ?_;rintro e w9 ⟨v,rfl,r9,rfl,n1,n3⟩
   clear C m0 m1 m2 m3 m4 m5 b0 b1
   have Dg:=kG.upd n3
   rw[ai.arr]
   refine bK ?_
   refine bL r9.cells hii abx Dg ?_
   intro ZX Jo iQ
   refine wk ?_
   exact ug results214 hii Jo abx ⟨_,rfl,r9,rfl,(n1.upd iQ).less,((aK.trans UD).trans n3).aB aR iQ⟩
theorem uZ(X:List Nat)(w:World)(r:ai)(s:Site)(h:Ref X w r s)(hX:∀k∈X,k<w.heap.size)(x:Int)(hx:0≤x∧x<4096)(b:Bl)(hb:b.may 7=true)(V0:aM)(hV:dU X w V0.A V0.n V0.b)(hvl:V0.b.length≤2048) :
  Calls prog 135 #[r.val,.int .i64 x,b.val,.slice V0.A V0.n V0.c] w fun e w'=>OC X w w' e (s.accept x b V0.b) s:=by
 obtain⟨ii,hii,abx⟩:=fP
 obtain⟨ij,pO,pQ⟩:=Bu
 obtain⟨W,H,eW,hH,hB,U0⟩:=az w 63 r.cells.toArray
 obtain⟨W1,J,nK,hJ,fT,U1⟩:=az W 30 #[.int .i64 b.r,.int .i64 b.s]
 obtain⟨W2,G,fu,hG,hBG,U2⟩:=az W1 63 cz
 have hB2:=(hB.upd U1).upd U2
 have hJ2:=fT.upd U2
 have hs0:=U0.size
 have hs1:=U1.size
 have hs2:=U2.size
 have afY:J≠H:=by have:=hB.lt;omega
 have dY:G≠H:=by have:=hB.lt;omega
 have aK:aa [] [] w W2:=(U0.g0.trans U1.g0).trans U2.g0
 have hY:∀k∈[H,G],w.heap.size≤k:=ge2
 have aR:∀k∈[G],w.heap.size≤k:=ge1
 have wI:∀W',aa [] [] W2 W'→∀k∈[H,G]++X,k<W'.heap.size:=fun W' u k hk=>by
  have h1:=hB2.lt
  have h3:=hBG.lt
  have hu:=u.size
  simp only[cons_append,nil_append,mem_cons]at hk
  rcases hk with rfl|rfl|hk
  ·omega
  ·omega
  ·have:=hX k hk;have:=aK.size;omega
 have h2:=(h.more hY).grow aK
 have Di:∀w',aa [] [] W2 w'→ak w' H 63 r.cells.toArray:=fun w' u=>hB2.upd u
 have B0:∀w',aa [] [] W2 w'→w'.cell? ⟨J,0,none⟩=some (.int .i64 b.r):=fun w' u=>(hJ2.upd u).cell 0
 have B1:∀w',aa [] [] W2 w'→w'.cell? ⟨J,1,none⟩=some (.int .i64 b.s):=fun w' u=>(hJ2.upd u).cell 1
 have CS:∀w',aa [] [] W2 w'→Calls prog 92 #[.agg r.cells.toArray,.int .i64 x] w' fun e w''=>e=.returned (r.state x).val∧aa [] [] w' w'':=fun w' u=>kV w' r ((h2.grow u).mem) x
 have CP:=fun(w':World)=>Av w' (r.state x) b V0.A V0.n V0.c
 have hst:=h.aJ.st x
 obtain⟨T,hT⟩:=ex1 (r.state x)
 rw[hT]at CS CP hst
 clear hT
 obtain⟨V,hV1⟩:∃V:aN,(if bg b T.p<0 then T else⟨b,true,b,V0.A,V0.n,V0.c,[]⟩)=V:=⟨_,rfl⟩
 obtain⟨Q,hQ⟩:=ex1 ((!decide (bg b T.p<0)))
 rw[hV1,hQ]at CP
 have HV:=hdn (show Q=true→V=⟨b,true,b,V0.A,V0.n,V0.c,[]⟩ by
  rintro rfl
  have:¬ bg b T.p<0:=by simpa using hQ
  rw[←hV1,if_neg this])
 have Dj:=hdn (show s.accept x b V0.b=if Q then s.note ⟨b,true,b,V0.b⟩ ⟨2,x,b.r,b.s,V0.b⟩else none by
  unfold Site.accept
  rw[←hQ,←hst]
  by_cases hc:bg b T.p<0
  ·rw[if_pos (show bg b T.pl.p<0 from hc),dTx hc];rfl
  ·rw[if_neg (show ¬ bg b T.pl.p<0 from hc),dFx hc];rfl)
 obtain⟨F,hF⟩:=ex1 (s.accept x b V0.b)
 rw[hF]at Dj ⊢
 rw[Bl.val]at CP
 rw[ai.arr,Bl.val]
 clear hF hQ hV1 hst
 go_enter func135,ntmps135
 repeat' go_step
 go_cut [10,11]from 12 (fun s8 s9 wc=>aQ (∃M:Nat,s8=.pointer (some ⟨M,0,none⟩)∧s9=.bool Q∧ak wc M 166 V.cells.toArray∧aa [] [] W2 wc))
 case first=>
  refine wp_region_held_drew (S:=fun w'=>aa [] [] W2 w') (by kernel_rfl) (aa.refl [] W2).drew fun _=>?_
  refine mi 0 hii (r).cells abx Di ?_
  refine aF 1 ?_
  refine aF 3 ?_
  refine aF 4 ?_
  refine wpAnyH_ready (rs:=[2,9]) (by kernel_rfl) (by simp) ?_
  refine AllReadyH.cons rfl (fun K hK=>?_) (.cons rfl (fun K hK=>?_) .nil)
  ·skip
   go_simp
   refine(CS _ ‹aa [] [] W2 _›).mono ?_;rintro e wa ⟨rfl,ua⟩
   simp only[]
   have UA:=(‹aa [] [] W2 _›).trans ua
   refine aP hK (UA) fun _=>?_
   clear hK K
   refine wpAnyH_ready (rs:=[5,9]) (by kernel_rfl) (by simp) ?_
   refine AllReadyH.cons rfl (fun K hK=>?_) (.cons rfl (fun K hK=>?_) .nil)
   ·skip
    go_simp
    refine(CP _).mono ?_;rintro e wb ⟨rfl,ub⟩
    simp only[]
    have UB:=UA.trans ub
    refine aP hK (UB) fun _=>?_
    clear hK K
    refine aF 6 ?_
    refine aF 7 ?_
    refine aF 8 ?_
    refine aW 9 (fun K hK=>?_)
    obtain⟨Wm,M,vX,hM,fD,UM⟩:=az wb 166 #[.int .i64 0,.int .i64 0,.bool false,.int .i64 0,.int .i64 0,.slice none 0 0]
    have UC:=(UB).trans UM.g0
    have mQ:∀k∈[M],W2.heap.size≤k:=by have:=(UB).size;simp only[mem_singleton];rintro k rfl;omega
    go_simp
    refine aP hK (UC) fun _=>?_
    clear hK K
    refine aW 10 (fun K hK=>?_)
    refine cu rfl _ _ 166 rfl pO rfl V.cells rfl pQ fD rfl rfl ?_
    intro Wn eu un
    have UN:=UC.aB mQ un
    refine aP hK (UN) fun _=>?_
    clear hK K
    refine aF 11 ?_
    refine dnH ?_ _
    refine wk ?_
    go_meet
    exact aQ.mk ⟨M,rfl,rfl,eu,UN⟩
   ·skip
    obtain⟨Wm,M,vX,hM,fD,UM⟩:=az wa 166 #[.int .i64 0,.int .i64 0,.bool false,.int .i64 0,.int .i64 0,.slice none 0 0]
    have UC:=(UA).trans UM.g0
    have mQ:∀k∈[M],W2.heap.size≤k:=by have:=(UA).size;simp only[mem_singleton];rintro k rfl;omega
    go_simp
    refine aP hK (UC) fun _=>?_
    clear hK K
    refine aW 5 (fun K hK=>?_)
    go_simp
    refine(CP _).mono ?_;rintro e wb ⟨rfl,ub⟩
    simp only[]
    have UB:=UC.trans ub
    have fD:=fD.upd ub
    refine aP hK (UB) fun _=>?_
    clear hK K
    refine aF 6 ?_
    refine aF 7 ?_
    refine aF 8 ?_
    refine aW 10 (fun K hK=>?_)
    refine cu rfl _ _ 166 rfl pO rfl V.cells rfl pQ fD rfl rfl ?_
    intro Wn eu un
    have UN:=UB.aB mQ un
    refine aP hK (UN) fun _=>?_
    clear hK K
    refine aF 11 ?_
    refine dnH ?_ _
    refine wk ?_
    go_meet
    exact aQ.mk ⟨M,rfl,rfl,eu,UN⟩
  ·skip
   obtain⟨Wm,M,vX,hM,fD,UM⟩:=az W2.drew 166 #[.int .i64 0,.int .i64 0,.bool false,.int .i64 0,.int .i64 0,.slice none 0 0]
   have UC:=((aa.refl [] W2).drew).trans UM.g0
   have mQ:∀k∈[M],W2.heap.size≤k:=by have:=((aa.refl [] W2).drew).size;simp only[mem_singleton];rintro k rfl;omega
   go_simp
   refine aP hK (UC) fun _=>?_
   clear hK K
   refine aW 2 (fun K hK=>?_)
   go_simp
   refine(CS _ ‹aa [] [] W2 _›).mono ?_;rintro e wa ⟨rfl,ua⟩
   simp only[]
   have UA:=(‹aa [] [] W2 _›).trans ua
   have fD:=fD.upd ua
   refine aP hK (UA) fun _=>?_
   clear hK K
   refine aW 5 (fun K hK=>?_)
   go_simp
   refine(CP _).mono ?_;rintro e wb ⟨rfl,ub⟩
   simp only[]
   have UB:=UA.trans ub
   have fD:=fD.upd ub
   refine aP hK (UB) fun _=>?_
   clear hK K
   refine aF 6 ?_
   refine aF 7 ?_
   refine aF 8 ?_
   refine aW 10 (fun K hK=>?_)
   refine cu rfl _ _ 166 rfl pO rfl V.cells rfl pQ fD rfl rfl ?_
   intro Wn eu un
   have UN:=UB.aB mQ un
   refine aP hK (UN) fun _=>?_
   clear hK K
   refine aF 11 ?_
   refine dnH ?_ _
   refine wk ?_
   go_meet
   exact aQ.mk ⟨M,rfl,rfl,eu,UN⟩
 case rest=>
  obtain⟨M,rfl,rfl,fD,UD⟩:=hcut.out
  clear hcut CS CP
  have kB:=Di _ UD
  have kG:=hBG.upd UD
  cases Q with
  |false=>
   have dQ:F=none:=Dj.out
   subst dQ
   clear Di B0 B1
   repeat' (fail_if_success with_reducible refine ek (t:=63) rfl ?_);go_step
   refine bF hii kB abx ?_
   refine bK ?_
   refine bL r.cells hii abx kG ?_
   intro W8 aX u8
   refine wk ?_
   exact ug results135 hii aX abx ⟨_,rfl,r,rfl,((h2.grow UD).upd u8).less,(aK.trans UD).aB aR u8⟩
  |true=>
   have hVV:V=⟨b,true,b,V0.A,V0.n,V0.c,[]⟩:=HV.out rfl
   subst hVV
   have dQ:F=s.note (aN.pl ⟨b,true,b,V0.A,V0.n,V0.c,V0.b⟩) (Rv.rc ⟨2,x,b.r,b.s,V0.A,V0.n,V0.c,V0.b⟩):=Dj.out
   have ib:=Bl.jb.1 hb
   have b0:=B0 _ UD
   have b1:=B1 _ UD
   have ZY:=((hV.more hY).grow aK).grow UD
   have C:=Jl ([H,G]++X) wc r s (h2.grow UD) (wI wc UD) ⟨2,x,b.r,b.s,V0.A,V0.n,V0.c,V0.b⟩ ZY.rd ⟨by simp[Rv.rc],by simp[Rv.rc];omega,by simpa[Rv.rc]using ib.1,by simpa[Rv.rc]using ib.2,by simpa[Rv.rc]using hvl⟩ ⟨b,true,b,V0.A,V0.n,V0.c,V0.b⟩ ZY
    (by unfold Sp.same Sp.zero aN.pl;simp) ⟨hvl,hb,hb⟩
   rw[←dQ,ai.arr,Rv.aH,aN.val]at C
   obtain⟨⟨m0,m1,m2,m3,m4,m5⟩,-⟩:=ak.c6 fD
   clear dQ fD Di B0 B1 Dj HV hV ZY
   repeat' (fail_if_success with_reducible refine ek (t:=63) rfl ?_);go_step
   refine bF hii kB abx ?_
   repeat' go_step
   refine C.mono ?_;rintro e w9 ⟨v,rfl,r9,rfl,n1,n3⟩
   clear C m0 m1 m2 m3 m4 m5 b0 b1
   have Dg:=kG.upd n3
   rw[ai.arr]
   refine bK ?_
   refine bL r9.cells hii abx Dg ?_
   intro ZX Jo iQ
   refine wk ?_
   exact ug results135 hii Jo abx ⟨_,rfl,r9,rfl,(n1.upd iQ).less,((aK.trans UD).trans n3).aB aR iQ⟩
theorem sameZero(w:World)(T:aN)(hT:aD w T.A T.n T.b):Calls prog 91 #[.agg #[.int .i64 T.p.r,.int .i64 T.p.s,.bool T.so,.int .i64 T.at_.r,.int .i64 T.at_.s,.slice T.A T.n T.c],.agg #[.int .i64 0,.int .i64 0,.bool false,.int .i64 0,.int .i64 0,.slice none 0 0]] w fun e w'=>e=.returned (.bool (T.pl.same Sp.zero))∧aa [] [] w w':=Fp w T ai.zero hT (aD.nil _ _)
theorem mZ(w:World)(r:ai)(h:lX w r)(x:Int):Calls prog 90 #[r.val,.int .i64 x] w fun e w'=>e=.returned (.tuple #[pI (dX r.L x),.bool (dX r.L x).isSome])∧aa [] [] w w':=by
 obtain⟨W,H,eW,hH,hB,U0⟩:=az w 63 r.cells.toArray
 have dm:=U0.g0
 have q7:W.cell? ⟨H,7,none⟩=some (.slice r.LA r.L.length r.lc):=hB.cell 7
 have C:=xD W r.LA r.lc r.L (h.L.au U0) (by have:=h.big.2.1;omega) x
 generalize dX r.L x=g at *
 rw[ai.arr]
 go_enter func90,ntmps90
 repeat' go_step
 refine C.mono ?_;rintro e w1 ⟨rfl,rfl⟩
 refine wk ?_
 go_ret2
 exact⟨rfl,dm⟩
theorem Bw(X:List Nat)(w:World)(r:ai)(s:Site)(h:Ref X w r s)(x:Int):Calls prog 134 #[r.val,.int .i64 x] w fun e w'=>e=.returned (.bool (s.fresh x))∧aa [] [] w w':=by
 obtain⟨ii,hii,abx⟩:=fP
 obtain⟨W,H,eW,hH,hB,U0⟩:=az w 63 r.cells.toArray
 have dm:=U0.g0
 have h1:=h.grow U0
 have C:=mZ W r h1.mem x
 have HF:=hdn (h.aJ.fresh x)
 have CS:=fun(w':World)(u:aa [] [] W w')=>kV w' r (h1.grow u).mem x
 have TS:=fun(w':World)(u:aa [] [] W w')=>((h1.grow u).state x).rd
 obtain⟨F,hF⟩:=ex1 (s.fresh x)
 rw[hF]at HF ⊢
 clear hF
 generalize dX r.L x=g at *
 generalize r.state x=T at *
 rw[ai.arr]at C CS ⊢
 go_enter func134,ntmps134
 repeat' (fail_if_success with_reducible refine ek (t:=63) rfl ?_);go_step
 refine bF hii hB abx ?_
 repeat' go_step
 refine C.mono ?_;rintro e w1 ⟨rfl,u1⟩
 clear C
 have hB1:=hB.upd u1
 cases g with
 |some y=>
  obtain rfl:F=false:=HF.out.symm
  simp only[pI,Option.isSome_some]
  refine wk ?_
  go_ret
  exact⟨rfl,dm.trans u1⟩
 |none=>
  simp only[pI,Option.isSome_none]
  have C2:=CS w1 u1
  repeat' (fail_if_success with_reducible refine ek (t:=63) rfl ?_);go_step
  refine pJ (by rfl) _ 63 rfl hii (fun _=>rfl) rfl r.cells abx hB1 ?_
  repeat' first|go_guarded|go_step
  refine C2.mono ?_;rintro e w2 ⟨rfl,u2⟩
  clear C2
  have C3:=sameZero w2 T (TS w2 (u1.trans u2))
  rw[show T.pl.same Sp.zero=F from HF.out]at C3
  rw[aN.val]
  clear TS CS
  repeat' first|go_guarded|go_step|simp only[];go_at_K
  refine C3.mono ?_;rintro e w3 ⟨rfl,u3⟩
  clear C3
  refine wk ?_
  go_ret
  exact⟨rfl,(dm.trans u1).trans (u2.trans u3)⟩
theorem yP(X:List Nat)(w:World)(r:ai)(s:Site)(h:Ref X w r s):Calls prog 88 #[r.val] w fun e w'=>e=.returned (.int .i64 s.bJ)∧aa [] [] w w':=by
 obtain⟨W,H,eW,hH,hB,U0⟩:=az w 63 r.cells.toArray
 have dm:=U0.g0
 have h1:=h.grow U0
 have q7:W.cell? ⟨H,7,none⟩=some (.slice r.LA r.L.length r.lc):=hB.cell 7
 have C:=Un W r.LA r.lc r.L h1.mem.L (by have:=h.aJ.ll;omega) h.aJ.lr
 have HT:=hdn h.aJ.aeR
 have acy:=h1.mem.K
 have hkl:=h.aJ.kl
 have hkr:=h.aJ.kr
 have hkb:=h1.mem.kb
 obtain⟨K,hK⟩:=ex1 r.K
 have q6:W.cell? ⟨H,6,none⟩=some (.slice r.KA K.length r.kc):=by rw[←hK];exact hB.cell 6
 rw[hK]at HT acy hkl hkr hkb
 obtain⟨F,hF⟩:=ex1 s.bJ
 rw[hF]at HT ⊢
 clear hF hK
 rw[ai.arr]
 go_enter func88,ntmps88
 repeat' go_step
 refine C.mono ?_;rintro e w1 ⟨rfl,rfl⟩
 clear C
 repeat' first|go_step|simp only[];go_at_K
 go_loopw [3,4] (fun v3 v4 wr=>aQ (∃(i:Nat)(t:Int),i≤K.length∧v4=.int .i64 (i:Int)∧v3=.int .i64 t∧pK (K.drop i) t=F∧aa [] [] W wr)) (fun _ v4 _=>K.length-(intOf v4).toNat)
 case atStart=>exact aQ.mk ⟨0,nJ r.L 0,by omega,rfl,rfl,HT.out,aa.refl _ _⟩
 case round=>
  obtain⟨i,t,hi,rfl,rfl,hd,U⟩:=hrel.out
  clear hrel
  have HD:=hdn hd
  clear hd
  have FI:=U.cell q6 (by simp)
  by_cases hlt:i<K.length
  ·have hil:(i:Int)<(K.length:Int):=by omega
   have hw1:=aA.wr ((i:Int)+1)
   obtain⟨ad,gL,h0,hj⟩:=bR.at_ (f:=lQ) (s:=7) (fun _=>rfl) (acy.au U) hlt
   rw[gL]at FI
   have HS:=hdn (show pK (K.drop i) t=pK (K.drop (i+1)) (if K[i].2.pl.same Sp.zero=false∧t≤K[i].1 then K[i].1+1 else t) by
    rw[drop_eq_getElem_cons hlt];rfl)
   have hyb:=(hkb _ (getElem_mem hlt)).upd U
   have Fs:=hkr _ (getElem_mem hlt)
   obtain⟨y,hy,h0,hj,hyb,Fs⟩:∃y,K[i]=y∧(∀u,(lQ y)[0]? =some u→wr.cell? (ad.add (i*7))=some u)∧(∀k u,0<k→(lQ y)[k]? =some u→wr.cell? ⟨(ad.add (i*7)).block,(ad.add (i*7)).off+k,none⟩=some u)∧aD wr y.2.A y.2.n y.2.b∧(0≤y.1∧y.1<4096):=⟨_,rfl,h0,hj,hyb,Fs⟩
   rw[hy]at HS
   have d0:=h0 _ rfl
   have d1:=hj 1 _ (by omega) rfl
   have d2:=hj 2 _ (by omega) rfl
   have d3:=hj 3 _ (by omega) rfl
   have d4:=hj 4 _ (by omega) rfl
   have d5:=hj 5 _ (by omega) rfl
   have d6:=hj 6 _ (by omega) rfl
   have C4:=sameZero wr y.2 hyb
   obtain⟨B,hB1⟩:=ex1 (y.2.pl.same Sp.zero)
   have Mc:=hdn (show y.2.pl.same Sp.zero=B from hB1)
   rw[hB1]at C4
   have hw2:=aA.wr (y.1+1)
   clear h0 hj hy gL hB1
   repeat' go_step
   refine C4.mono ?_;rintro e w2 ⟨rfl,u2⟩
   clear C4
   have e0:=u2.cell d0 (by simp)
   have ais:=u2.cell FI (by simp)
   have U2:=U.trans u2
   clear d0 d1 d2 d3 d4 d5 d6 FI
   cases B with
   |true=>
    refine wk ?_
    refine⟨aQ.mk ⟨i+1,t,by omega,by simp,by simp,?_,U2⟩,by simp[intOf];omega⟩
    have:=HS.out
    rw[if_neg (by rw[Mc.out];simp),HD.out]at this
    exact this.symm
   |false=>
    by_cases e1:t≤y.1
    ·have t1:decide (t≤y.1)=true:=dTx e1
     refine wk ?_
     refine⟨aQ.mk ⟨i+1,y.1+1,by omega,by simp,by simp,?_,U2⟩,by simp[intOf];omega⟩
     have:=HS.out
     rw[if_pos ⟨Mc.out,e1⟩,HD.out]at this
     exact this.symm
    ·have t1:decide (t≤y.1)=false:=dFx e1
     refine wk ?_
     refine⟨aQ.mk ⟨i+1,t,by omega,by simp,by simp,?_,U2⟩,by simp[intOf];omega⟩
     have:=HS.out
     rw[if_neg (fun hh=>e1 hh.2),HD.out]at this
     exact this.symm
  ·obtain rfl:i=K.length:=by omega
   have hil:¬ ((K.length:Int)<(K.length:Int)):=by omega
   have dQ:t=F:=by rw[←HD.out,drop_length];rfl
   subst dQ
   refine wk ?_
   go_ret
   exact⟨rfl,dm.trans U⟩
