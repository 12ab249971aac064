/- For SitePlays. -/
import Derived.BigRegion
import Derived.Test.YtijhlbeipglieaaGreatPkNet
import Derived.Test.YtijhlbeipglieaaGreatPkMap
set_option linter.all false
set_option maxRecDepth 100000
set_option maxHeartbeats 2000000
namespace Go.Proofs.YtijhlbeipglieaaGreat
open Go.RowKit aA Tryz List
def _root_.aA.Bl.val(b:Bl):Value:=.agg #[.int .i64 b.r,.int .i64 b.s]
theorem Pq(w:World)(a:Int):Calls prog 267 #[.int .i64 a] w fun e w'=>e=.returned (.bool false)∧w=w':=by
 have h:=bne_self_eq_false a
 go_enter func267,ntmps267
 refine wk ?_
 go_ret
 exact⟨rfl,rfl⟩
theorem BV(w:World)(a b:Int):Calls prog 230 #[.int .i64 a,.int .i64 b] w fun e w'=>e=.returned (.int .i64 (vJ a b))∧w=w':=by
 have HA:=hdn (vJ.eq_def a b)
 go_enter func230,ntmps230
 repeat' go_step
 refine(Pq _ a).mono ?_;rintro e w1 ⟨rfl,rfl⟩
 repeat' first|go_step|simp only[];go_at_K
 refine(Pq _ b).mono ?_;rintro e w1 ⟨rfl,rfl⟩
 by_cases h1:a<b
 ·have d1:decide (a<b)=true:=dTx h1
  refine wk ?_
  go_ret
  exact⟨by rw[HA.out,if_pos h1];rfl,rfl⟩
 ·have d1:decide (a<b)=false:=dFx h1
  by_cases h2:b<a
  ·have d2:decide (b<a)=true:=dTx h2
   refine wk ?_
   go_ret
   exact⟨by rw[HA.out,if_neg h1,if_pos h2];rfl,rfl⟩
  ·have d2:decide (b<a)=false:=dFx h2
   refine wk ?_
   go_ret
   exact⟨by rw[HA.out,if_neg h1,if_neg h2];rfl,rfl⟩
theorem abW(w:World)(g:Nat)(a b:Int)(hB:ak w g 3 #[.int .i64 a,.int .i64 b]):Calls prog 229 #[.slice (some ⟨g,0,none⟩) 2 2] w fun e w'=>e=.returned (.int .i64 (Ps a b))∧w=w':=by
 obtain⟨⟨q0,q1⟩,-⟩:=hB.c2
 have HA:=hdn (Ps.eq_def a b)
 go_enter func229,ntmps229
 repeat' go_step
 go_loopw [8] (fun v8 wr=>∃i:Nat,i≤2∧v8=.int .i64 (i:Int)∧(0<i→a=0)∧(1<i→b=0)∧wr=w) (fun v8 _=>2-(intOf v8).toNat)
 case atStart=>exact⟨0,by omega,rfl,by omega,by omega,rfl⟩
 case round=>
  obtain⟨i,hi,rfl,h1,h2,rfl⟩:=hrel
  rcases(show i=0∨i=1∨i=2 by omega)with rfl|rfl|rfl
  ·clear h1 h2
   by_cases h:a=0
   ·have hb:(a != 0)=false:=by rw[h];rfl
    have H:=hdn h
    clear h
    refine wk ?_
    exact⟨⟨1,by omega,rfl,fun _=>H.out,by omega,trivial⟩,by simp[intOf]⟩
   ·have hb:(a != 0)=true:=by unfold bne;rw[beq_false_of_ne h];rfl
    have H:=hdn h
    clear h
    refine wk ?_
    go_ret
    exact⟨by rw[HA.out,if_neg H.out];rfl,rfl⟩
  ·have H1:=hdn (h1 (by omega))
   clear h1 h2
   by_cases h:b=0
   ·have hb:(b != 0)=false:=by rw[h];rfl
    have H:=hdn h
    clear h
    refine wk ?_
    exact⟨⟨2,by omega,rfl,fun _=>H1.out,fun _=>H.out,trivial⟩,by simp[intOf]⟩
   ·have hb:(b != 0)=true:=by unfold bne;rw[beq_false_of_ne h];rfl
    have H:=hdn h
    clear h
    refine wk ?_
    go_ret
    exact⟨by rw[HA.out,if_pos H1.out];rfl,rfl⟩
  ·have H1:=hdn (h1 (by omega))
   have H2:=hdn (h2 (by omega))
   clear h1 h2
   refine wk ?_
   go_ret
   exact⟨by rw[HA.out,if_pos H1.out,H2.out];rfl,rfl⟩
theorem om(w:World)(a b:Bl):Calls prog 164 #[a.val,b.val] w fun e w'=>e=.returned (.int .i64 (bg a b))∧aa [] [] w w':=by
 have hB1:=ak.new w 30 #[.int .i64 a.r,.int .i64 a.s]
 have hB2:=ak.new (w.alloc (.cells #[.int .i64 a.r,.int .i64 a.s] 30)) 30 #[.int .i64 b.r,.int .i64 b.s]
 have hB3:=hB1.alloc (.cells #[.int .i64 b.r,.int .i64 b.s] 30)
 have U0:aa [] [] w ((w.alloc (.cells #[.int .i64 a.r,.int .i64 a.s] 30)).alloc (.cells #[.int .i64 b.r,.int .i64 b.s] 30)):=((aa.refl [] w).alloc _).alloc _
 rw[World.size_alloc]at hB2
 obtain⟨g2,hg2⟩:∃g,w.heap.size=g:=⟨_,rfl⟩
 obtain⟨g3,hg3⟩:∃g,g2+1=g:=⟨_,rfl⟩
 rw[hg2,hg3]at hB2
 rw[hg2]at hB3
 obtain⟨W,eW⟩:∃V,(w.alloc (.cells #[.int .i64 a.r,.int .i64 a.s] 30)).alloc (.cells #[.int .i64 b.r,.int .i64 b.s] 30)=V:=⟨_,rfl⟩
 rw[eW]at hB2 hB3 U0
 rw[Bl.val,Bl.val]
 have HC:=hdn (bg.eq_def a b)
 go_enter func164,ntmps164
 repeat' go_step
 obtain⟨⟨q0,q1⟩,-⟩:=hB3.c2
 obtain⟨⟨r0,r1⟩,-⟩:=hB2.c2
 have UB:aa [] [] W (W.alloc (.cells #[.int .i64 (vJ a.r b.r),.int .i64 (vJ a.s b.s)] 3)).drew:=((aa.refl [] W).alloc _).drew
 have hN:=(ak.new W 3 #[.int .i64 (vJ a.r b.r),.int .i64 (vJ a.s b.s)]).drew
 have CO:=abW _ W.heap.size _ _ hN
 clear hB2 hB3 hN eW hg2 hg3
 go_still_tail 10,(by kernel_rfl)
 still_call ((BV _ _ _).mono fun _ _ ⟨h1,h2⟩=>⟨h1,h2.symm⟩)
 repeat still_step
 still_call ((BV _ _ _).mono fun _ _ ⟨h1,h2⟩=>⟨h1,h2.symm⟩)
 repeat still_step
 refine wpStill_nil ?_
 change wpList _ _ _ _ _ W.drew
 repeat' go_step
 (with_reducible refine CO.mono ?_)
 rintro e w2 ⟨rfl,rfl⟩
 refine wk ?_
 go_ret
 exact⟨by rw[HC.out];rfl,U0.trans UB⟩
theorem YD(w:World)(s n:Int):Calls prog 251 #[.int .i64 s,.int .i64 n] w fun e w'=>e=.returned (.bool (bz s n))∧w=w':=by
 have HA:=hdn (bz.eq_def s n)
 go_enter func251,ntmps251
 by_cases h1:0≤s
 ·have d1:decide (0≤s)=true:=dTx h1
  refine wk ?_
  go_ret
  exact⟨by rw[HA.out,d1];rfl,rfl⟩
 ·have d1:decide (0≤s)=false:=dFx h1
  refine wk ?_
  go_ret
  exact⟨by rw[HA.out,d1];rfl,rfl⟩
theorem Kz(w:World)(n:Int)(hn:n<4611686018427387904):Calls prog 296 #[.int .i64 n] w fun e w'=>e=.returned (.int .i64 (sU n))∧w=w':=by
 have HA:=hdn (sU.eq_def n)
 go_enter func296,ntmps296
 by_cases h1:n<1
 ·have d1:decide (n<1)=true:=dTx h1
  refine wk ?_
  go_ret
  exact⟨by rw[HA.out,if_pos h1];rfl,rfl⟩
 ·have d1:decide (n<1)=false:=dFx h1
  refine wk ?_
  go_ret
  exact⟨by rw[HA.out,if_neg h1];rfl,rfl⟩
theorem NB(w:World)(b:Bl)(s:Int):Calls prog 165 #[b.val,.int .i64 s] w fun e w'=>e=.returned (b.next s).val∧aa [] [] w w':=by
 rw[Bl.val,Bl.val]
 have HA:=hdn (Bl.next.eq_def b s)
 go_enter func165,ntmps165
 by_cases h1:b.r<0
 ·have d1:decide (b.r<0)=true:=dTx h1
  refine wk ?_
  exact bodyPost_ret (v:=.agg #[.int .i64 1,.int .i64 s]) (by simp[results,results165,go_sem]) rfl ⟨by rw[HA.out,if_pos h1],(((aa.refl [] w).alloc _).alloc _)⟩
 ·have d1:decide (b.r<0)=false:=dFx h1
  by_cases h2:b.r<1099511627776
  ·have d2:decide (b.r<1099511627776)=true:=dTx h2
   refine wk ?_
   exact bodyPost_ret (v:=.agg #[.int .i64 (b.r+1),.int .i64 s]) (by simp[results,results165,go_sem]) rfl ⟨by rw[HA.out,if_neg h1,if_pos h2],(((aa.refl [] w).alloc _).alloc _)⟩
  ·have d2:decide (b.r<1099511627776)=false:=dFx h2
   refine wk ?_
   exact bodyPost_ret (v:=.agg #[.int .i64 1099511627776,.int .i64 s]) (by simp[results,results165,go_sem]) rfl ⟨by rw[HA.out,if_neg h1,if_neg h2],(((aa.refl [] w).alloc _).alloc _)⟩
end Go.Proofs.YtijhlbeipglieaaGreat
namespace aA
open Go List
def eX(l:List Int)(n:Int):KV:=l.foldl (fun M s=>if bz s n then gm s (.agg #[]) M else M) []
def fU(l:List Int)(n:Int):Bool:=if n<1 then false else decide (sU n≤((eX l n).length:Int))
theorem nM(l:List Int)(x n:Int):eX (l++[x]) n=if bz x n then gm x (.agg #[]) (eX l n)else eX l n:=by
 unfold eX;rw[foldl_append];rfl
theorem GY(e:Int × Value)(M:KV):(jU e M).length=M.length+1:=by rw[(EA e M).length_eq];rfl
theorem Sw(x:Int)(v:Value)(M:KV):(gm x v M).length≤M.length+1:=by
 unfold gm;rw[GY];unfold iR;have:=length_filter_le (fun p:Int × Value=>!decide (p.1=x)) M;omega
theorem NC(l:List Int)(n:Int):(eX l n).length≤l.length:=by
 have key:∀(l:List Int)(M:KV),(l.foldl (fun M s=>if bz s n then gm s (.agg #[]) M else M) M).length≤M.length+l.length:=by
  intro l
  induction l with
  |nil=>intro M;exact Nat.le_refl _
  |cons x l ih=>
   intro M
   rw[foldl_cons,length_cons]
   refine Nat.le_trans (ih _) ?_
   split
   ·have:=Sw x (.agg #[]) M;omega
   ·omega
 have:=key l []
 simpa[eX]using this
end aA
namespace Go.Proofs.YtijhlbeipglieaaGreat
open Go.RowKit aA Go.Maps Tryz List
theorem jV{x:Int}(h0: -9223372036854775808≤x)(h1:x≤9223372036854775807):(Lit.int .i64 x).wf=true:=by
 have e1:IntKind.i64.min= -9223372036854775808:=by decide
 have e2:IntKind.i64.max=9223372036854775807:=by decide
 simp only[Lit.wf,e1,e2,Bool.and_eq_true,decide_eq_true_eq];omega
theorem BX(w:World)(A:Option Addr)(c:Nat)(l:List Int)(n:Int)(hn:n≤1000)(ha:Rd w 1 A l.length (l.map (Value.int .i64)))(hl:l.length≤1099511627776) :
  Calls prog 278 #[.slice A l.length c,.int .i64 n] w fun e w'=>e=.returned (.bool (fU l n))∧aa [] [] w w':=by
 have HA:=hdn (fU.eq_def l n)
 go_enter func278,ntmps278
 by_cases h1:n<1
 ·have d1:decide (n<1)=true:=dTx h1
  clear ha
  refine wk ?_
  go_ret
  exact⟨by rw[HA.out,if_pos h1];rfl,aa.refl _ _⟩
 have d1:decide (n<1)=false:=dFx h1
 have hmm:=@run_makeMap prog
 have m0:=bP.made prog 3 w
 have U0:aa [] [w.heap.size] w (w.alloc (.map #[] 0)):=((aa.refl [] w).alloc _).gives
 have e0:eX (l.take 0) n= []:=rfl
 repeat' go_step
 go_loopw [13] (fun v13 wr=>∃i:Nat,i≤l.length∧v13=.int .i64 (i:Int)∧bP prog 3 wr w.heap.size (eX (l.take i) n)∧aa [] [w.heap.size] w wr) (fun v13 _=>l.length-(intOf v13).toNat)
 case atStart=>exact⟨0,by omega,rfl,m0,U0⟩
 case round=>
  obtain⟨i,hi,rfl,hm,U⟩:=hrel
  by_cases hlt:i<l.length
  ·have hil:(i:Int)<(l.length:Int):=by omega
   have hw1:=aA.wr ((i:Int)+1)
   obtain⟨ad,u,hA,hu,hc⟩:=(ha.upd U).at_ hlt
   subst hA
   rw[List.getElem?_map,List.getElem?_eq_getElem hlt,Option.map_some,Option.some.injEq]at hu
   subst hu
   have hv:eX (l.take (i+1)) n=if bz l[i] n then gm l[i] (.agg #[]) (eX (l.take i) n)else eX (l.take i) n:=by
    rw[take_succ_eq_append_getElem hlt,nM]
   have hln:=NC (l.take i) n
   rw[length_take]at hln
   have HV:=hdn hv
   clear ha hv e0 m0 U0
   generalize l[i]=y at *
   have C:=YD wr y n
   have hy:bz y n=true→(Lit.int .i64 y).wf=true:=fun h=>by
    simp only[bz,Bool.and_eq_true,decide_eq_true_eq]at h
    exact jV (by omega) (by omega)
   have HY:=hdn hy
   clear hy
   repeat' go_step
   refine C.mono ?_;rintro e w2 ⟨rfl,rfl⟩
   clear C
   cases hs:bz y n with
   |false=>
    refine wk ?_
    exact⟨⟨i+1,by omega,by simp,by rw[HV.out,hs];exact hm,U⟩,by simp[intOf];omega⟩
   |true=>
    have hk:=HY.out hs
    obtain⟨w3,abS,qb,U3⟩:=hm.store underlying3 underlying390 (by unfold maxLen;omega) hk (.agg #[])
    have U4:=U.trans U3
    refine wk ?_
    exact⟨⟨i+1,by omega,by simp,by rw[HV.out,hs];exact qb,U4⟩,by simp[intOf];omega⟩
  ·obtain rfl:i=l.length:=by omega
   have hil:¬ ((l.length:Int)<(l.length:Int)):=by omega
   have hm1:bP prog 3 wr w.heap.size (eX l n):=by rw[take_length]at hm;exact hm
   have hL:=hm1.len underlying390 3
   have C:=Kz wr n (by omega)
   clear ha e0 m0 U0 hm hm1 hmm
   generalize ((eX l n).length:Int)=q at *
   repeat' go_step
   refine C.mono ?_;rintro e w2 ⟨rfl,rfl⟩
   clear C
   refine wk ?_
   go_ret
   exact⟨by rw[HA.out,if_neg h1];rfl,U.gives⟩
end Go.Proofs.YtijhlbeipglieaaGreat
namespace aA
open Go List
structure aN where
 p:Bl
 so:Bool
 at_:Bl
 A:Option Addr
 n:Nat
 c:Nat
 b:List UInt8
def aN.val(x:aN):Value:=.agg #[.int .i64 x.p.r,.int .i64 x.p.s,.bool x.so,.int .i64 x.at_.r,.int .i64 x.at_.s,.slice x.A x.n x.c]
def aN.cells(x:aN):List Value:=[.int .i64 x.p.r,.int .i64 x.p.s,.bool x.so,.int .i64 x.at_.r,.int .i64 x.at_.s,.slice x.A x.n x.c]
end aA
namespace Go.Proofs.YtijhlbeipglieaaGreat
open Go.RowKit aA Tryz List
theorem GZ(w:World)(x:aN):Calls prog 188 #[x.val] w fun e w'=>w'=w.alloc (.cells x.cells.toArray 37)∧e=.returned (.func (.func 246) #[] #[.pointer (some ⟨w.heap.size,0,none⟩)]):=by
 rw[aN.val,aN.cells]
 go_enter func188,ntmps188
 refine wk ?_
 go_ret
 exact⟨rfl,rfl⟩
theorem EB(w:World)(g:Nat)(x:aN)(b:Bl)(hB:ak w g 37 x.cells.toArray):Calls prog 246 #[b.val,.pointer (some ⟨g,0,none⟩)] w fun e w'=>e=.returned (.bool (decide (bg b x.p<0)))∧aa [] [] w w':=by
 rw[Bl.val]
 have q0:=hB.cell 0
 have q1:=hB.cell 1
 simp only[aN.cells,List.getElem?_toArray,List.getElem?_cons_zero,List.getElem?_cons_succ]at q0 q1
 have p0:=((aa.refl [] w).alloc (.cells #[.int .i64 b.r,.int .i64 b.s] 30)).cell q0 (by simp)
 have p1:=((aa.refl [] w).alloc (.cells #[.int .i64 b.r,.int .i64 b.s] 30)).cell q1 (by simp)
 have U:=((aa.refl [] w).alloc (.cells #[.int .i64 b.r,.int .i64 b.s] 30))
 have C:=om (w.alloc (.cells #[.int .i64 b.r,.int .i64 b.s] 30)) b x.p
 rw[Bl.val,Bl.val]at C
 clear hB q0 q1
 go_enter func246,ntmps246
 repeat' go_step
 (with_reducible refine C.mono ?_)
 rintro e w2 ⟨rfl,hu⟩
 have U2:=U.trans hu
 refine wk ?_
 go_ret
 exact⟨rfl,U2⟩
def gP(x:aN)(b:Bl):Option Bl:=if b.r<1∨bg b x.p<0 then none else some b
theorem ND(w:World)(x:aN)(b:Bl)(hx:aD w x.A x.n x.b)(hl:x.b.length≤140737488355328) :
  Calls prog 231 #[x.val,b.val] w fun e w'=>∃A n c,aT 5 w' A n c x.b∧aa [] (ah A) w w'∧
   e=.returned (.tuple #[({x with p:=(gP x b).getD x.p,A:=A,n:=n,c:=c} :aN).val,.bool (gP x b).isSome]):=by
 have HP:=hdn (gP.eq_def x b)
 obtain⟨W,g1,g2,g3,eW,h1,h2,h3,hB1,hB2,hB3,U0⟩:=G5 w 37 30 37 #[.int .i64 x.p.r,.int .i64 x.p.s,.bool x.so,.int .i64 x.at_.r,.int .i64 x.at_.s,.slice x.A x.n x.c] #[.int .i64 b.r,.int .i64 b.s] #[.int .i64 0,.int .i64 0,.bool false,.int .i64 0,.int .i64 0,.slice none 0 0]
 have hx1:aD W x.A x.n x.b:=hx.upd U0
 have HP:=hdn (gP.eq_def x b)
 rw[aN.val,Bl.val]
 simp only[aN.val]
 generalize gP x b=res at *
 have C1:=dS W x.A x.n x.c x.b hx1 hl
 have hs1:=hB1.lt
 have hs2:=hB2.lt
 have hs3:=hB3.lt
 go_enter func231,ntmps231
 obtain⟨⟨a0,a1,a2,a3,a4,a5⟩,f0,f1,f2,f3,f4,f5⟩:=hB1.c6
 repeat' go_step
 clear a0 a1 a2 a3 a4 a5 f0 f1 f2 f3 f4 f5
 refine C1.mono ?_;rintro e W1 ⟨A,n,c,rfl,ho,hu1⟩
 have K1:=hB1.upd hu1
 have K2:=hB2.upd hu1
 have K3:=hB3.upd hu1
 have hA:=U0.new hu1
 have U1:=U0.old hu1
 have Wj:=(aa.refl [] W).new hu1
 clear hB1 hB2 hB3 U0 hx1 C1
 obtain⟨⟨a0,a1,a2,a3,a4,a5⟩,f0,f1,f2,f3,f4,f5⟩:=K1.c6
 have J1:ak (W1.setCell ⟨g1,5,none⟩ (.slice A n c)) g1 37 #[.int .i64 x.p.r,.int .i64 x.p.s,.bool x.so,.int .i64 x.at_.r,.int .i64 x.at_.s,.slice A n c]:=K1.aO 5 (.slice A n c)
 have J2:=K2.far (p:=⟨g1,5,none⟩) (by show g2≠g1;omega) (.slice A n c)
 have J3:=K3.far (p:=⟨g1,5,none⟩) (by show g3≠g1;omega) (.slice A n c)
 have U2:=U1.setCell (p:=⟨g1,5,none⟩) (.inr (by show w.heap.size≤g1;omega)) (.slice A n c)
 have ho2:=ho.upd ((aa.refl [g1] W1).setCell (p:=⟨g1,5,none⟩) (.inl (by simp)) (.slice A n c)) (fun k hk=>by have:=(aa.refl [] W).new hu1 k hk;simp;omega)
 clear K1 K2 K3 U1 ho hu1
 repeat' first|go_step|simp only[];go_at_K
 clear a0 a1 a2 a3 a4 a5 f0 f1 f2 f3 f4 f5
 generalize W1.setCell ⟨g1,5,none⟩ (.slice A n c)=W2 at *
 have C2:=GZ W2 ⟨x.p,x.so,x.at_,A,n,c,x.b⟩
 simp only[aN.val]at C2
 refine C2.mono ?_;rintro e W3 ⟨e3,rfl⟩
 obtain⟨g4,h4⟩:∃g,W2.heap.size=g:=⟨_,rfl⟩
 have L4:ak W3 g4 37 #[.int .i64 x.p.r,.int .i64 x.p.s,.bool x.so,.int .i64 x.at_.r,.int .i64 x.at_.s,.slice A n c]:=by rw[e3,←h4];exact ak.new _ _ _
 have sV:aa [] [] W2 W3:=by rw[e3];exact(aa.refl _ _).alloc _
 have L1:=J1.upd sV
 have L2:=J2.upd sV
 have L3:=J3.upd sV
 have ho3:=ho2.upd sV
 have U3:=U2.trans (sV.up _)
 rw[h4]
 have hs4:=L4.lt
 have h14:g4≠g1:=by have:=J1.lt;omega
 have h34:g4≠g3:=by have:=J3.lt;omega
 clear C2 J1 J2 J3 ho2 U2 sV e3 h4
 obtain⟨⟨a0,a1,a2,a3,a4,a5⟩,f0,f1,f2,f3,f4,f5⟩:=L1.c6
 obtain⟨⟨b0,b1⟩,-⟩:=L2.c2
 obtain⟨⟨c0,c1,c2,c3,c4,c5⟩,l0,l1,l2,l3,l4,l5⟩:=L3.c6
 by_cases hr:b.r<1
 ·have d1:decide (b.r<1)=true:=dTx hr
  have M3:=mq L3 (.int .i64 x.p.r) (.int .i64 x.p.s) (.bool x.so) (.int .i64 x.at_.r) (.int .i64 x.at_.s) (.slice A n c)
  have u4:=mr W3 g3 (.int .i64 x.p.r) (.int .i64 x.p.s) (.bool x.so) (.int .i64 x.at_.r) (.int .i64 x.at_.s) (.slice A n c)
  have U4:=U3.own (by omega) u4
  have bY:=ho3.upd u4 (fun k hk=>by have:=Wj k hk;simp;omega)
  refine wk ?_
  generalize hW:World.setCell _ _ _=W4
  rw[vK,hW]at M3 U4 bY
  clear hW u4
  obtain⟨⟨z0,z1,z2,z3,z4,z5⟩,-⟩:=M3.c6
  have HR:=HP.out
  rw[if_pos (.inl hr)]at HR
  subst HR
  exact bodyPost_ret (v:=.tuple #[.agg #[.int .i64 x.p.r,.int .i64 x.p.s,.bool x.so,.int .i64 x.at_.r,.int .i64 x.at_.s,.slice A n c],.bool false]) (by simp[results,results231,go_sem,z0,z1,z2,z3,z4,z5]) rfl ⟨_,_,_,bY,U4.gives (fun k hk=>.inr (hA k hk)),rfl⟩
 ·have d1:decide (b.r<1)=false:=dFx hr
  have C3:=EB W3 g4 ⟨x.p,x.so,x.at_,A,n,c,x.b⟩ b L4
  rw[Bl.val]at C3
  repeat' first|go_guarded|go_step|simp only[];go_at_K
  clear a0 a1 a2 a3 a4 a5 f0 f1 f2 f3 f4 f5 b0 b1 c0 c1 c2 c3 c4 c5 l0 l1 l2 l3 l4 l5
  refine C3.mono ?_;rintro e W5 ⟨rfl,bD⟩
  have N1:=L1.upd bD
  have N2:=L2.upd bD
  have N3:=L3.upd bD
  have dB:=ho3.upd bD
  have U5:=U3.trans (bD.up _)
  clear C3 L1 L2 L3 L4 ho3 U3 bD
  obtain⟨⟨a0,a1,a2,a3,a4,a5⟩,f0,f1,f2,f3,f4,f5⟩:=N1.c6
  obtain⟨⟨b0,b1⟩,-⟩:=N2.c2
  obtain⟨⟨c0,c1,c2,c3,c4,c5⟩,l0,l1,l2,l3,l4,l5⟩:=N3.c6
  by_cases hq:bg b x.p<0
  ·have d2:decide (bg b x.p<0)=true:=dTx hq
   have M3:=mq N3 (.int .i64 x.p.r) (.int .i64 x.p.s) (.bool x.so) (.int .i64 x.at_.r) (.int .i64 x.at_.s) (.slice A n c)
   have u4:=mr W5 g3 (.int .i64 x.p.r) (.int .i64 x.p.s) (.bool x.so) (.int .i64 x.at_.r) (.int .i64 x.at_.s) (.slice A n c)
   have U4:=U5.own (by omega) u4
   have bY:=dB.upd u4 (fun k hk=>by have:=Wj k hk;simp;omega)
   refine wk ?_
   generalize hW:World.setCell _ _ _=W4
   rw[vK,hW]at M3 U4 bY
   clear hW u4
   obtain⟨⟨z0,z1,z2,z3,z4,z5⟩,-⟩:=M3.c6
   have HR:=HP.out
   rw[if_pos (.inr hq)]at HR
   subst HR
   exact bodyPost_ret (v:=.tuple #[.agg #[.int .i64 x.p.r,.int .i64 x.p.s,.bool x.so,.int .i64 x.at_.r,.int .i64 x.at_.s,.slice A n c],.bool false]) (by simp[results,results231,go_sem,z0,z1,z2,z3,z4,z5]) rfl ⟨_,_,_,bY,U4.gives (fun k hk=>.inr (hA k hk)),rfl⟩
  ·have d2:decide (bg b x.p<0)=false:=dFx hq
   have u6:aa [g1] [g1] W5 ((W5.setCell ⟨g1,0,none⟩ (.int .i64 b.r)).setCell ⟨g1,1,none⟩ (.int .i64 b.s)):=((aa.refl [g1] W5).setCell (p:=⟨g1,0,none⟩) (.inl (by simp)) _).setCell (p:=⟨g1,1,none⟩) (.inl (by simp)) _
   have P3:=N3.upd u6 (by simp;omega)
   have U6:=U5.own (by omega) u6
   have iX:=dB.upd u6 (fun k hk=>by have:=Wj k hk;simp;omega)
   have M3:=mq P3 (.int .i64 b.r) (.int .i64 b.s) (.bool x.so) (.int .i64 x.at_.r) (.int .i64 x.at_.s) (.slice A n c)
   have u4:=mr ((W5.setCell ⟨g1,0,none⟩ (.int .i64 b.r)).setCell ⟨g1,1,none⟩ (.int .i64 b.s)) g3 (.int .i64 b.r) (.int .i64 b.s) (.bool x.so) (.int .i64 x.at_.r) (.int .i64 x.at_.s) (.slice A n c)
   have U4:=U6.own (by omega) u4
   have bY:=iX.upd u4 (fun k hk=>by have:=Wj k hk;simp;omega)
   clear u4 u6 U6 P3 iX N1 N2 N3 dB U5
   refine wk ?_
   generalize hW:World.setCell _ _ _=W4
   rw[vK,hW]at M3 U4 bY
   clear hW
   obtain⟨⟨z0,z1,z2,z3,z4,z5⟩,-⟩:=M3.c6
   have HR:=HP.out
   rw[if_neg (by omega)]at HR
   subst HR
   exact bodyPost_ret (v:=.tuple #[.agg #[.int .i64 b.r,.int .i64 b.s,.bool x.so,.int .i64 x.at_.r,.int .i64 x.at_.s,.slice A n c],.bool true]) (by simp[results,results231,go_sem,z0,z1,z2,z3,z4,z5]) rfl ⟨_,_,_,bY,U4.gives (fun k hk=>.inr (hA k hk)),rfl⟩
def jD(x:aN)(b:Bl):Bool:=!decide (bg b x.p<0)
theorem EC(w:World)(x:aN)(b:Bl)(B:Option Addr)(m d:Nat)(v:List UInt8)(hx:aD w x.A x.n x.b)(hl:x.b.length≤140737488355328)(hv:aD w B m v)(hlv:v.length≤140737488355328) :
  Calls prog 116 #[x.val,b.val,.slice B m d] w fun e w'=>∃A n c,aT 5 w' A n c (if jD x b then v else x.b)∧aa [] (ah A) w w'∧
   e=.returned (.tuple #[(if jD x b then({p:=b,so:=true,at_:=b,A:=A,n:=n,c:=c,b:=v} :aN)else {x with A:=A,n:=n,c:=c}).val,.bool (jD x b)]):=by
 obtain⟨W,g1,g2,g3,eW,h1,h2,h3,hB1,hB2,hB3,U0⟩:=G5 w 37 30 37 #[.int .i64 x.p.r,.int .i64 x.p.s,.bool x.so,.int .i64 x.at_.r,.int .i64 x.at_.s,.slice x.A x.n x.c] #[.int .i64 b.r,.int .i64 b.s] #[.int .i64 0,.int .i64 0,.bool false,.int .i64 0,.int .i64 0,.slice none 0 0]
 have hx1:aD W x.A x.n x.b:=hx.upd U0
 have hv1:aD W B m v:=hv.upd U0
 have HP:=hdn (jD.eq_def x b)
 rw[aN.val,Bl.val]
 simp only[aN.val]
 generalize jD x b=res at *
 have hs1:=hB1.lt
 have hs2:=hB2.lt
 have hs3:=hB3.lt
 go_enter func116,ntmps116
 obtain⟨⟨a0,a1,a2,a3,a4,a5⟩,f0,f1,f2,f3,f4,f5⟩:=hB1.c6
 have C2:=GZ W x
 simp only[aN.val,aN.cells]at C2
 repeat' go_step
 clear a0 a1 a2 a3 a4 a5 f0 f1 f2 f3 f4 f5 eW
 refine C2.mono ?_;rintro e W3 ⟨e3,rfl⟩
 obtain⟨g4,h4⟩:∃g,W.heap.size=g:=⟨_,rfl⟩
 have L4:ak W3 g4 37 x.cells.toArray:=by rw[e3,←h4];exact ak.new _ _ _
 have sV:aa [] [] W W3:=by rw[e3];exact(aa.refl _ _).alloc _
 have hsz:=sV.size
 have L1:=hB1.upd sV
 have L2:=hB2.upd sV
 have L3:=hB3.upd sV
 have hx3:=hx1.upd sV
 have hv3:=hv1.upd sV
 have U3:=U0.trans (sV.up _)
 rw[h4]
 have hs4:=L4.lt
 clear C2 hB1 hB2 hB3 U0 sV e3 hx1 hv1 hx hv
 obtain⟨⟨b0,b1⟩,-⟩:=L2.c2
 have C3:=EB W3 g4 x b L4
 rw[Bl.val]at C3
 repeat' first|go_step|simp only[];go_at_K
 clear b0 b1
 refine C3.mono ?_;rintro e W5 ⟨rfl,bD⟩
 have N1:=L1.upd bD
 have N2:=L2.upd bD
 have N3:=L3.upd bD
 have hx5:=hx3.upd bD
 have hv5:=hv3.upd bD
 have U5:=U3.trans (bD.up _)
 have atJ:=bD.size
 clear C3 L1 L2 L3 L4 U3 bD hx3 hv3
 obtain⟨⟨a0,a1,a2,a3,a4,a5⟩,f0,f1,f2,f3,f4,f5⟩:=N1.c6
 obtain⟨⟨b0,b1⟩,-⟩:=N2.c2
 by_cases hq:bg b x.p<0
 ·have d2:decide (bg b x.p<0)=true:=dTx hq
  obtain rfl:res=false:=by rw[HP.out,d2];rfl
  have C1:=dS W5 x.A x.n x.c x.b hx5 hl
  repeat' first|go_step|simp only[];go_at_K
  clear a0 a1 a2 a3 a4 a5 f0 f1 f2 f3 f4 f5 b0 b1
  refine C1.mono ?_;rintro e W6 ⟨A,n,c,rfl,ho,eP⟩
  have K1:=N1.upd eP
  have K3:=N3.upd eP
  have hA:=(aa.refl [] W5).new eP
  have Ca:=U5.new eP
  have U6:=(U5.trans (eP.up _)).gives (b':=ah A) (fun k hk=>.inr (Ca k hk))
  clear N1 N2 N3 hx5 hv5 U5 eP C1
  obtain⟨⟨a0,a1,a2,a3,a4,a5⟩,f0,f1,f2,f3,f4,f5⟩:=K1.c6
  obtain⟨⟨c0,c1,c2,c3,c4,c5⟩,l0,l1,l2,l3,l4,l5⟩:=K3.c6
  have u7:=(aa.refl [g1] W6).setCell (p:=⟨g1,5,none⟩) (.inl (by simp)) (.slice A n c)
  have P3:=K3.upd u7 (by simp;omega)
  have U7:=U6.own (by omega) u7
  have jW:=ho.upd u7 (fun k hk=>by have:=hA k hk;simp;omega)
  have M3:=mq P3 (.int .i64 x.p.r) (.int .i64 x.p.s) (.bool x.so) (.int .i64 x.at_.r) (.int .i64 x.at_.s) (.slice A n c)
  have u4:=mr (W6.setCell ⟨g1,5,none⟩ (.slice A n c)) g3 (.int .i64 x.p.r) (.int .i64 x.p.s) (.bool x.so) (.int .i64 x.at_.r) (.int .i64 x.at_.s) (.slice A n c)
  have U4:=U7.own (by omega) u4
  have bY:=jW.upd u4 (fun k hk=>by have:=hA k hk;simp;omega)
  clear u4 u7 U6 U7 P3 ho jW K1 K3
  refine wk ?_
  generalize hW:World.setCell _ _ _=W4
  rw[vK,hW]at M3 U4 bY
  clear hW
  obtain⟨⟨z0,z1,z2,z3,z4,z5⟩,-⟩:=M3.c6
  exact bodyPost_ret (v:=.tuple #[.agg #[.int .i64 x.p.r,.int .i64 x.p.s,.bool x.so,.int .i64 x.at_.r,.int .i64 x.at_.s,.slice A n c],.bool false]) (by simp[results,results116,go_sem,z0,z1,z2,z3,z4,z5]) rfl ⟨_,_,_,bY,U4,rfl⟩
 ·have d2:decide (bg b x.p<0)=false:=dFx hq
  obtain rfl:res=true:=by rw[HP.out,d2];rfl
  have C1:=dS W5.drew B m d v hv5 hlv
  repeat' first|go_step|simp only[];go_at_K
  have b0d:W5.drew.cell? ⟨g2,0,none⟩=some (.int .i64 b.r):=b0
  have b1d:W5.drew.cell? ⟨g2,1,none⟩=some (.int .i64 b.s):=b1
  have N3d:=N3.drew
  clear a0 a1 a2 a3 a4 a5 f0 f1 f2 f3 f4 f5 b0 b1
  go_region_with (first|(go_at_call 58;(with_reducible refine C1.mono ?_);rintro e W6 ⟨A,n,c,rfl,ho,eP⟩;have b06:=eP.cell b0d (by simp);have b16:=eP.cell b1d (by simp);have K3:=N3d.upd eP;obtain⟨⟨c0,c1,c2,c3,c4,c5⟩,l0,l1,l2,l3,l4,l5⟩:=K3.c6))
  all_goals
   have hA:=(aa.refl [] W5.drew).new eP
   have Ca:=U5.drew.new eP
   have U6:=(U5.drew.trans (eP.up _)).gives (b':=ah A) (fun k hk=>.inr (Ca k hk))
   have hsd:W5.drew.heap.size=W5.heap.size:=rfl
   have M3:=mq K3 (.int .i64 b.r) (.int .i64 b.s) (.bool true) (.int .i64 b.r) (.int .i64 b.s) (.slice A n c)
   have u4:=mr W6 g3 (.int .i64 b.r) (.int .i64 b.s) (.bool true) (.int .i64 b.r) (.int .i64 b.s) (.slice A n c)
   have U4:=U6.own (by omega) u4
   have bY:=ho.upd u4 (fun k hk=>by have:=hA k hk;simp;omega)
   clear u4 U6 ho K3 N1 N2 N3 hx5 hv5 U5 eP C1 b0d b1d b06 b16
  all_goals (refine wk ?_)
  all_goals
   generalize hW:World.setCell _ _ _=W4
   rw[vK,hW]at M3 U4 bY
   clear hW
   obtain⟨⟨z0,z1,z2,z3,z4,z5⟩,-⟩:=M3.c6
   exact bodyPost_ret (v:=.tuple #[.agg #[.int .i64 b.r,.int .i64 b.s,.bool true,.int .i64 b.r,.int .i64 b.s,.slice A n c],.bool true]) (by simp[results,results116,go_sem,z0,z1,z2,z3,z4,z5]) rfl ⟨_,_,_,bY,U4,rfl⟩
theorem Cb(w:World)(A B:Option Addr)(n c m d:Nat)(a b:List UInt8)(ha:aD w A n a)(hb:aD w B m b) :
  Calls prog 101 #[.slice A n c,.slice B m d] w fun e w'=>e=.returned (.bool (a==b))∧w=w':=by
 have s1:=strOf ha c
 have s2:=strOf hb d
 clear ha hb
 go_enter func101,ntmps101
 refine wk ?_
 go_ret
 exact⟨rfl,rfl⟩
def _root_.aA.aN.same(x y:aN):Bool:=((x.p.r==y.p.r)&&(x.p.s==y.p.s))&&(x.so==y.so)&&((x.at_.r==y.at_.r)&&(x.at_.s==y.at_.s))&&(x.b==y.b)
theorem XL(w:World)(x y:aN)(hx:aD w x.A x.n x.b)(hy:aD w y.A y.n y.b) :
  Calls prog 37 #[x.val,y.val] w fun e w'=>e=.returned (.bool (x.same y))∧aa [] [] w w':=by
 obtain⟨W,g1,g2,eW,h1,h2,hB1,hB2,U0⟩:=vY w 37 37 #[.int .i64 x.p.r,.int .i64 x.p.s,.bool x.so,.int .i64 x.at_.r,.int .i64 x.at_.s,.slice x.A x.n x.c] #[.int .i64 y.p.r,.int .i64 y.p.s,.bool y.so,.int .i64 y.at_.r,.int .i64 y.at_.s,.slice y.A y.n y.c]
 have C:=Cb W x.A y.A x.n x.c y.n y.c x.b y.b (hx.upd U0) (hy.upd U0)
 have U:=U0.g0
 have E1:=mR x.p.r x.p.s y.p.r y.p.s
 have E2:=mR x.at_.r x.at_.s y.at_.r y.at_.s
 have HP:=hdn (aN.same.eq_def x y)
 obtain⟨⟨a0,a1,a2,a3,a4,a5⟩,-⟩:=hB1.c6
 obtain⟨⟨b0,b1,b2,b3,b4,b5⟩,-⟩:=hB2.c6
 clear hx hy hB1 hB2 U0
 rw[aN.val,aN.val]
 generalize x.same y=res at *
 generalize ((x.p.r==y.p.r)&&(x.p.s==y.p.s))=q1 at *
 generalize ((x.at_.r==y.at_.r)&&(x.at_.s==y.at_.s))=q3 at *
 generalize (x.b==y.b)=q4 at *
 go_enter func37,ntmps37
 cases q1 with
 |false=>
  refine wk ?_
  go_ret
  exact⟨by rw[HP.out];rfl,U⟩
 |true=>
  cases hs:(x.so==y.so) with
  |false=>
   rw[hs]at HP
   refine wk ?_
   go_ret
   exact⟨by rw[HP.out];rfl,U⟩
  |true=>
   rw[hs]at HP
   cases q3 with
   |false=>
    refine wk ?_
    go_ret
    exact⟨by rw[HP.out];rfl,U⟩
   |true=>
    repeat' first|go_guarded|go_step
    refine C.mono ?_;rintro e w2 ⟨rfl,rfl⟩
    refine wk ?_
    go_ret
    exact⟨by rw[HP.out];simp,U⟩
