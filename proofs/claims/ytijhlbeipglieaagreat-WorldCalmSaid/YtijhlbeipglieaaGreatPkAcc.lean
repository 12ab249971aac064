/- For WorldCalm. -/
import Derived.BigRegion
import Derived.Test.YtijhlbeipglieaaGreatPkNet
import Derived.Test.YtijhlbeipglieaaGreatPkMap
set_option linter.all false
set_option maxRecDepth 100000
set_option maxHeartbeats 2000000
namespace Go.Proofs.YtijhlbeipglieaaGreat
open Go.RowKit aL Tryz List
def _root_.aL.Bl.val(b:Bl):Value:=.agg #[.int .i64 b.r,.int .i64 b.s]
theorem LI(w:World)(a:Int):Calls prog 267 #[.int .i64 a] w fun e w'=>e=.returned (.bool false)∧w=w':=by
 have h:=bne_self_eq_false a
 go_enter func267,ntmps267
 refine wk ?_
 go_ret
 exact⟨rfl,rfl⟩
theorem yP(w:World)(a b:Int):Calls prog 230 #[.int .i64 a,.int .i64 b] w fun e w'=>e=.returned (.int .i64 (rT a b))∧w=w':=by
 have HA:=aA (rT.eq_def a b)
 go_enter func230,ntmps230
 repeat' go_step
 refine(LI _ a).mono ?_;rintro e w1 ⟨rfl,rfl⟩
 repeat' first|go_step|simp only[];go_at_K
 refine(LI _ b).mono ?_;rintro e w1 ⟨rfl,rfl⟩
 by_cases h1:a<b
 ·have d1:decide (a<b)=true:=dJ h1
  refine wk ?_
  go_ret
  exact⟨by rw[HA.out,if_pos h1];rfl,rfl⟩
 ·have d1:decide (a<b)=false:=eE h1
  by_cases h2:b<a
  ·have d2:decide (b<a)=true:=dJ h2
   refine wk ?_
   go_ret
   exact⟨by rw[HA.out,if_neg h1,if_pos h2];rfl,rfl⟩
  ·have d2:decide (b<a)=false:=eE h2
   refine wk ?_
   go_ret
   exact⟨by rw[HA.out,if_neg h1,if_neg h2];rfl,rfl⟩
theorem ZF(w:World)(g:Nat)(a b:Int)(hB:aQ w g 3 #[.int .i64 a,.int .i64 b]):Calls prog 229 #[.slice (some ⟨g,0,none⟩) 2 2] w fun e w'=>e=.returned (.int .i64 (LJ a b))∧w=w':=by
 obtain⟨⟨q0,q1⟩,-⟩:=hB.c2
 have HA:=aA (LJ.eq_def a b)
 go_enter func229,ntmps229
 repeat' go_step
 go_loopw [8] (fun v8 wr=>∃i:Nat,i≤2∧v8=.int .i64 (i:Int)∧(0<i→a=0)∧(1<i→b=0)∧wr=w) (fun v8 _=>2-(intOf v8).toNat)
 case atStart=>exact⟨0,by omega,rfl,by omega,by omega,rfl⟩
 case round=>
  obtain⟨i,hi,rfl,h1,h2,rfl⟩:=hrel
  rcases(show i=0∨i=1∨i=2 by omega)with rfl|rfl|rfl
  ·clear h1 h2
   by_cases h:a=0
   ·have hb:(a != 0)=false:=by rw[h];rfl
    have H:=aA h
    clear h
    refine wk ?_
    exact⟨⟨1,by omega,rfl,fun _=>H.out,by omega,trivial⟩,by simp[intOf]⟩
   ·have hb:(a != 0)=true:=by unfold bne;rw[beq_false_of_ne h];rfl
    have H:=aA h
    clear h
    refine wk ?_
    go_ret
    exact⟨by rw[HA.out,if_neg H.out];rfl,rfl⟩
  ·have H1:=aA (h1 (by omega))
   clear h1 h2
   by_cases h:b=0
   ·have hb:(b != 0)=false:=by rw[h];rfl
    have H:=aA h
    clear h
    refine wk ?_
    exact⟨⟨2,by omega,rfl,fun _=>H1.out,fun _=>H.out,trivial⟩,by simp[intOf]⟩
   ·have hb:(b != 0)=true:=by unfold bne;rw[beq_false_of_ne h];rfl
    have H:=aA h
    clear h
    refine wk ?_
    go_ret
    exact⟨by rw[HA.out,if_pos H1.out];rfl,rfl⟩
  ·have H1:=aA (h1 (by omega))
   have H2:=aA (h2 (by omega))
   clear h1 h2
   refine wk ?_
   go_ret
   exact⟨by rw[HA.out,if_pos H1.out,H2.out];rfl,rfl⟩
theorem mv(w:World)(a b:Bl):Calls prog 164 #[a.val,b.val] w fun e w'=>e=.returned (.int .i64 (dr a b))∧ab [] [] w w':=by
 have gh:=aQ.new w 30 #[.int .i64 a.r,.int .i64 a.s]
 have cX:=aQ.new (w.alloc (.cells #[.int .i64 a.r,.int .i64 a.s] 30)) 30 #[.int .i64 b.r,.int .i64 b.s]
 have iM:=gh.alloc (.cells #[.int .i64 b.r,.int .i64 b.s] 30)
 have U0:ab [] [] w ((w.alloc (.cells #[.int .i64 a.r,.int .i64 a.s] 30)).alloc (.cells #[.int .i64 b.r,.int .i64 b.s] 30)):=((ab.refl [] w).alloc _).alloc _
 rw[World.size_alloc]at cX
 obtain⟨g2,hg2⟩:∃g,w.heap.size=g:=⟨_,rfl⟩
 obtain⟨g3,hg3⟩:∃g,g2+1=g:=⟨_,rfl⟩
 rw[hg2,hg3]at cX
 rw[hg2]at iM
 obtain⟨W,eW⟩:∃V,(w.alloc (.cells #[.int .i64 a.r,.int .i64 a.s] 30)).alloc (.cells #[.int .i64 b.r,.int .i64 b.s] 30)=V:=⟨_,rfl⟩
 rw[eW]at cX iM U0
 rw[Bl.val,Bl.val]
 have HC:=aA (dr.eq_def a b)
 go_enter func164,ntmps164
 repeat' go_step
 obtain⟨⟨q0,q1⟩,-⟩:=iM.c2
 obtain⟨⟨r0,r1⟩,-⟩:=cX.c2
 have UB:ab [] [] W (W.alloc (.cells #[.int .i64 (rT a.r b.r),.int .i64 (rT a.s b.s)] 3)).drew:=((ab.refl [] W).alloc _).drew
 have hN:=(aQ.new W 3 #[.int .i64 (rT a.r b.r),.int .i64 (rT a.s b.s)]).drew
 have CO:=ZF _ W.heap.size _ _ hN
 clear cX iM hN eW hg2 hg3
 go_still_tail 10,(by kernel_rfl)
 still_call ((yP _ _ _).mono fun _ _ ⟨h1,h2⟩=>⟨h1,h2.symm⟩)
 repeat still_step
 still_call ((yP _ _ _).mono fun _ _ ⟨h1,h2⟩=>⟨h1,h2.symm⟩)
 repeat still_step
 refine wpStill_nil ?_
 change wpList _ _ _ _ _ W.drew
 repeat' go_step
 (with_reducible refine CO.mono ?_)
 rintro e w2 ⟨rfl,rfl⟩
 refine wk ?_
 go_ret
 exact⟨by rw[HC.out];rfl,U0.trans UB⟩
theorem UP(w:World)(s n:Int):Calls prog 251 #[.int .i64 s,.int .i64 n] w fun e w'=>e=.returned (.bool (dd s n))∧w=w':=by
 have HA:=aA (dd.eq_def s n)
 go_enter func251,ntmps251
 by_cases h1:0≤s
 ·have d1:decide (0≤s)=true:=dJ h1
  refine wk ?_
  go_ret
  exact⟨by rw[HA.out,d1];rfl,rfl⟩
 ·have d1:decide (0≤s)=false:=eE h1
  refine wk ?_
  go_ret
  exact⟨by rw[HA.out,d1];rfl,rfl⟩
theorem GJ(w:World)(n:Int)(hn:n<4611686018427387904):Calls prog 296 #[.int .i64 n] w fun e w'=>e=.returned (.int .i64 (mW n))∧w=w':=by
 have HA:=aA (mW.eq_def n)
 go_enter func296,ntmps296
 by_cases h1:n<1
 ·have d1:decide (n<1)=true:=dJ h1
  refine wk ?_
  go_ret
  exact⟨by rw[HA.out,if_pos h1];rfl,rfl⟩
 ·have d1:decide (n<1)=false:=eE h1
  refine wk ?_
  go_ret
  exact⟨by rw[HA.out,if_neg h1];rfl,rfl⟩
theorem Js(w:World)(b:Bl)(s:Int):Calls prog 165 #[b.val,.int .i64 s] w fun e w'=>e=.returned (b.next s).val∧ab [] [] w w':=by
 rw[Bl.val,Bl.val]
 have HA:=aA (Bl.next.eq_def b s)
 go_enter func165,ntmps165
 by_cases h1:b.r<0
 ·have d1:decide (b.r<0)=true:=dJ h1
  refine wk ?_
  exact bodyPost_ret (v:=.agg #[.int .i64 1,.int .i64 s]) (by simp[results,results165,go_sem]) rfl ⟨by rw[HA.out,if_pos h1],(((ab.refl [] w).alloc _).alloc _)⟩
 ·have d1:decide (b.r<0)=false:=eE h1
  by_cases h2:b.r<1099511627776
  ·have d2:decide (b.r<1099511627776)=true:=dJ h2
   refine wk ?_
   exact bodyPost_ret (v:=.agg #[.int .i64 (b.r+1),.int .i64 s]) (by simp[results,results165,go_sem]) rfl ⟨by rw[HA.out,if_neg h1,if_pos h2],(((ab.refl [] w).alloc _).alloc _)⟩
  ·have d2:decide (b.r<1099511627776)=false:=eE h2
   refine wk ?_
   exact bodyPost_ret (v:=.agg #[.int .i64 1099511627776,.int .i64 s]) (by simp[results,results165,go_sem]) rfl ⟨by rw[HA.out,if_neg h1,if_neg h2],(((ab.refl [] w).alloc _).alloc _)⟩
end Go.Proofs.YtijhlbeipglieaaGreat
namespace aL
open Go List
def dE(l:List Int)(n:Int):KV:=l.foldl (fun M s=>if dd s n then gb s (.agg #[]) M else M) []
def fN(l:List Int)(n:Int):Bool:=if n<1 then false else decide (mW n≤((dE l n).length:Int))
theorem oL(l:List Int)(x n:Int):dE (l++[x]) n=if dd x n then gb x (.agg #[]) (dE l n)else dE l n:=by
 unfold dE;rw[foldl_append];rfl
theorem O0(e:Int × Value)(M:KV):(jM e M).length=M.length+1:=by rw[(Bi e M).length_eq];rfl
theorem O1(x:Int)(v:Value)(M:KV):(gb x v M).length≤M.length+1:=by
 unfold gb;rw[O0];unfold jx;have:=length_filter_le (fun p:Int × Value=>!decide (p.1=x)) M;omega
theorem Jt(l:List Int)(n:Int):(dE l n).length≤l.length:=by
 have key:∀(l:List Int)(M:KV),(l.foldl (fun M s=>if dd s n then gb s (.agg #[]) M else M) M).length≤M.length+l.length:=by
  intro l
  induction l with
  |nil=>intro M;exact Nat.le_refl _
  |cons x l ih=>
   intro M
   rw[foldl_cons,length_cons]
   refine Nat.le_trans (ih _) ?_
   split
   ·have:=O1 x (.agg #[]) M;omega
   ·omega
 have:=key l []
 simpa[dE]using this
end aL
namespace Go.Proofs.YtijhlbeipglieaaGreat
open Go.RowKit aL Go.Maps Tryz List
theorem kt{x:Int}(h0: -9223372036854775808≤x)(h1:x≤9223372036854775807):(Lit.int .i64 x).wf=true:=by
 have e1:IntKind.i64.min= -9223372036854775808:=by decide
 have e2:IntKind.i64.max=9223372036854775807:=by decide
 simp only[Lit.wf,e1,e2,Bool.and_eq_true,decide_eq_true_eq];omega
theorem yQ(w:World)(A:Option Addr)(c:Nat)(l:List Int)(n:Int)(hn:n≤1000)(ha:Rd w 1 A l.length (l.map (Value.int .i64)))(hl:l.length≤1099511627776) :
  Calls prog 278 #[.slice A l.length c,.int .i64 n] w fun e w'=>e=.returned (.bool (fN l n))∧ab [] [] w w':=by
 have HA:=aA (fN.eq_def l n)
 go_enter func278,ntmps278
 by_cases h1:n<1
 ·have d1:decide (n<1)=true:=dJ h1
  clear ha
  refine wk ?_
  go_ret
  exact⟨by rw[HA.out,if_pos h1];rfl,ab.refl _ _⟩
 have d1:decide (n<1)=false:=eE h1
 have si:=@run_makeMap prog
 have m0:=cz.made prog 3 w
 have U0:ab [] [w.heap.size] w (w.alloc (.map #[] 0)):=((ab.refl [] w).alloc _).gives (by simp)
 have e0:dE (l.take 0) n= []:=rfl
 repeat' go_step
 go_loopw [13] (fun mX wr=>∃i:Nat,i≤l.length∧mX=.int .i64 (i:Int)∧cz prog 3 wr w.heap.size (dE (l.take i) n)∧ab [] [w.heap.size] w wr) (fun mX _=>l.length-(intOf mX).toNat)
 case atStart=>exact⟨0,by omega,rfl,m0,U0⟩
 case round=>
  obtain⟨i,hi,rfl,hm,U⟩:=hrel
  by_cases hlt:i<l.length
  ·have dK:(i:Int)<(l.length:Int):=by omega
   have dC:=aL.wr ((i:Int)+1)
   obtain⟨ad,u,hA,hu,hc⟩:=(ha.aq U (by simp)).at_ hlt
   subst hA
   rw[List.getElem?_map,List.getElem?_eq_getElem hlt,Option.map_some,Option.some.injEq]at hu
   subst hu
   have hv:dE (l.take (i+1)) n=if dd l[i] n then gb l[i] (.agg #[]) (dE (l.take i) n)else dE (l.take i) n:=by
    rw[take_succ_eq_append_getElem hlt,oL]
   have qm:=Jt (l.take i) n
   rw[length_take]at qm
   have HV:=aA hv
   clear ha hv e0 m0 U0
   generalize l[i]=y at *
   have C:=UP wr y n
   have hy:dd y n=true→(Lit.int .i64 y).wf=true:=fun h=>by
    simp only[dd,Bool.and_eq_true,decide_eq_true_eq]at h
    exact kt (by omega) (by omega)
   have HY:=aA hy
   clear hy
   repeat' go_step
   refine C.mono ?_;rintro e w2 ⟨rfl,rfl⟩
   clear C
   cases hs:dd y n with
   |false=>
    refine wk ?_
    exact⟨⟨i+1,by omega,by simp,by rw[HV.out,hs];exact hm,U⟩,by simp[intOf];omega⟩
   |true=>
    have hk:=HY.out hs
    obtain⟨w3,hrun,l7,U3⟩:=hm.store underlying3 underlying390 (by unfold maxLen;omega) hk (.agg #[])
    have U4:=U.trans U3
    refine wk ?_
    exact⟨⟨i+1,by omega,by simp,by rw[HV.out,hs];exact l7,U4⟩,by simp[intOf];omega⟩
  ·obtain rfl:i=l.length:=by omega
   have dK:¬ ((l.length:Int)<(l.length:Int)):=by omega
   have qn:cz prog 3 wr w.heap.size (dE l n):=by rw[take_length]at hm;exact hm
   have hL:=qn.len underlying390 3
   have C:=GJ wr n (by omega)
   clear ha e0 m0 U0 hm qn si
   generalize ((dE l n).length:Int)=q at *
   repeat' go_step
   refine C.mono ?_;rintro e w2 ⟨rfl,rfl⟩
   clear C
   refine wk ?_
   go_ret
   exact⟨by rw[HA.out,if_neg h1];rfl,U.gives (by simp)⟩
end Go.Proofs.YtijhlbeipglieaaGreat
namespace aL
open Go List
structure cP where
 p:Bl
 so:Bool
 at_:Bl
 A:Option Addr
 n:Nat
 c:Nat
 b:List UInt8
def cP.val(x:cP):Value:=.agg #[.int .i64 x.p.r,.int .i64 x.p.s,.bool x.so,.int .i64 x.at_.r,.int .i64 x.at_.s,.slice x.A x.n x.c]
def cP.cells(x:cP):List Value:=[.int .i64 x.p.r,.int .i64 x.p.s,.bool x.so,.int .i64 x.at_.r,.int .i64 x.at_.s,.slice x.A x.n x.c]
end aL
namespace Go.Proofs.YtijhlbeipglieaaGreat
open Go.RowKit aL Tryz List
theorem DE(w:World)(x:cP):Calls prog 188 #[x.val] w fun e w'=>w'=w.alloc (.cells x.cells.toArray 37)∧e=.returned (.func (.func 246) #[] #[.pointer (some ⟨w.heap.size,0,none⟩)]):=by
 rw[cP.val,cP.cells]
 go_enter func188,ntmps188
 refine wk ?_
 go_ret
 exact⟨rfl,rfl⟩
theorem Bj(w:World)(g:Nat)(x:cP)(b:Bl)(hB:aQ w g 37 x.cells.toArray):Calls prog 246 #[b.val,.pointer (some ⟨g,0,none⟩)] w fun e w'=>e=.returned (.bool (decide (dr b x.p<0)))∧ab [] [] w w':=by
 rw[Bl.val]
 have q0:=hB.cell 0
 have q1:=hB.cell 1
 simp only[cP.cells,List.getElem?_toArray,List.getElem?_cons_zero,List.getElem?_cons_succ]at q0 q1
 have p0:=((ab.refl [] w).alloc (.cells #[.int .i64 b.r,.int .i64 b.s] 30)).cell q0 (by simp)
 have p1:=((ab.refl [] w).alloc (.cells #[.int .i64 b.r,.int .i64 b.s] 30)).cell q1 (by simp)
 have U:=((ab.refl [] w).alloc (.cells #[.int .i64 b.r,.int .i64 b.s] 30))
 have C:=mv (w.alloc (.cells #[.int .i64 b.r,.int .i64 b.s] 30)) b x.p
 rw[Bl.val,Bl.val]at C
 clear hB q0 q1
 go_enter func246,ntmps246
 repeat' go_step
 (with_reducible refine C.mono ?_)
 rintro e w2 ⟨rfl,hu⟩
 have U2:=U.trans hu
 refine wk ?_
 go_ret
 exact⟨rfl,U2⟩
def lJ(x:cP)(b:Bl):Option Bl:=if b.r<1∨dr b x.p<0 then none else some b
theorem Ju(w:World)(x:cP)(b:Bl)(hx:bE w x.A x.n x.b)(hl:x.b.length≤140737488355328) :
  Calls prog 231 #[x.val,b.val] w fun e w'=>∃A n c,bW 5 w' A n c x.b∧ab [] (ak A) w w'∧
   e=.returned (.tuple #[({x with p:=(lJ x b).getD x.p,A:=A,n:=n,c:=c} :cP).val,.bool (lJ x b).isSome]):=by
 have HP:=aA (lJ.eq_def x b)
 obtain⟨W,g1,g2,g3,eW,h1,h2,h3,gh,cX,iM,U0⟩:=DF w 37 30 37 #[.int .i64 x.p.r,.int .i64 x.p.s,.bool x.so,.int .i64 x.at_.r,.int .i64 x.at_.s,.slice x.A x.n x.c] #[.int .i64 b.r,.int .i64 b.s] #[.int .i64 0,.int .i64 0,.bool false,.int .i64 0,.int .i64 0,.slice none 0 0]
 have hx1:bE W x.A x.n x.b:=hx.aq U0 (by simp)
 have HP:=aA (lJ.eq_def x b)
 rw[cP.val,Bl.val]
 simp only[cP.val]
 generalize lJ x b=res at *
 have C1:=di W x.A x.n x.c x.b hx1 hl
 have hs1:=gh.lt
 have hs2:=cX.lt
 have hs3:=iM.lt
 go_enter func231,ntmps231
 obtain⟨⟨a0,a1,a2,a3,a4,a5⟩,f0,f1,f2,f3,f4,f5⟩:=gh.c6
 repeat' go_step
 clear a0 a1 a2 a3 a4 a5 f0 f1 f2 f3 f4 f5
 refine C1.mono ?_;rintro e W1 ⟨A,n,c,rfl,ho,bn⟩
 have K1:=gh.aq bn (by simp)
 have K2:=cX.aq bn (by simp)
 have K3:=iM.aq bn (by simp)
 have hA:=U0.new bn
 have U1:=U0.ie bn
 have Rz:=(ab.refl [] W).new bn
 clear gh cX iM U0 hx1 C1
 obtain⟨⟨a0,a1,a2,a3,a4,a5⟩,f0,f1,f2,f3,f4,f5⟩:=K1.c6
 have J1:aQ (W1.setCell ⟨g1,5,none⟩ (.slice A n c)) g1 37 #[.int .i64 x.p.r,.int .i64 x.p.s,.bool x.so,.int .i64 x.at_.r,.int .i64 x.at_.s,.slice A n c]:=K1.cc 5 (.slice A n c)
 have J2:=K2.fB (p:=⟨g1,5,none⟩) (by show g2≠g1;omega) (.slice A n c)
 have J3:=K3.fB (p:=⟨g1,5,none⟩) (by show g3≠g1;omega) (.slice A n c)
 have U2:=U1.setCell (p:=⟨g1,5,none⟩) (.inr (by show w.heap.size≤g1;omega)) (.slice A n c)
 have eN:=ho.aq ((ab.refl [g1] W1).setCell (p:=⟨g1,5,none⟩) (.inl (by simp)) (.slice A n c)) (fun k hk=>by have:=(ab.refl [] W).new bn k hk;simp;omega)
 clear K1 K2 K3 U1 ho bn
 repeat' first|go_step|simp only[];go_at_K
 clear a0 a1 a2 a3 a4 a5 f0 f1 f2 f3 f4 f5
 generalize W1.setCell ⟨g1,5,none⟩ (.slice A n c)=W2 at *
 have C2:=DE W2 ⟨x.p,x.so,x.at_,A,n,c,x.b⟩
 simp only[cP.val]at C2
 refine C2.mono ?_;rintro e W3 ⟨e3,rfl⟩
 obtain⟨g4,h4⟩:∃g,W2.heap.size=g:=⟨_,rfl⟩
 have L4:aQ W3 g4 37 #[.int .i64 x.p.r,.int .i64 x.p.s,.bool x.so,.int .i64 x.at_.r,.int .i64 x.at_.s,.slice A n c]:=by rw[e3,←h4];exact aQ.new _ _ _
 have qo:ab [] [] W2 W3:=by rw[e3];exact(ab.refl _ _).alloc _
 have L1:=J1.aq qo (by simp)
 have L2:=J2.aq qo (by simp)
 have L3:=J3.aq qo (by simp)
 have iD:=eN.aq qo (by simp)
 have U3:=U2.trans (qo.up _)
 rw[h4]
 have yR:=L4.lt
 have h14:g4≠g1:=by have:=J1.lt;omega
 have h34:g4≠g3:=by have:=J3.lt;omega
 clear C2 J1 J2 J3 eN U2 qo e3 h4
 obtain⟨⟨a0,a1,a2,a3,a4,a5⟩,f0,f1,f2,f3,f4,f5⟩:=L1.c6
 obtain⟨⟨b0,b1⟩,-⟩:=L2.c2
 obtain⟨⟨c0,c1,c2,c3,c4,c5⟩,l0,l1,l2,l3,l4,l5⟩:=L3.c6
 by_cases hr:b.r<1
 ·have d1:decide (b.r<1)=true:=dJ hr
  have M3:=mz L3 (.int .i64 x.p.r) (.int .i64 x.p.s) (.bool x.so) (.int .i64 x.at_.r) (.int .i64 x.at_.s) (.slice A n c)
  have u4:=mA W3 g3 (.int .i64 x.p.r) (.int .i64 x.p.s) (.bool x.so) (.int .i64 x.at_.r) (.int .i64 x.at_.s) (.slice A n c)
  have U4:=U3.own (by omega) u4
  have dW:=iD.aq u4 (fun k hk=>by have:=Rz k hk;simp;omega)
  refine wk ?_
  generalize hW:World.setCell _ _ _=W4
  rw[ta,hW]at M3 U4 dW
  clear hW u4
  obtain⟨⟨z0,z1,z2,z3,z4,z5⟩,-⟩:=M3.c6
  have HR:=HP.out
  rw[if_pos (.inl hr)]at HR
  subst HR
  exact bodyPost_ret (v:=.tuple #[.agg #[.int .i64 x.p.r,.int .i64 x.p.s,.bool x.so,.int .i64 x.at_.r,.int .i64 x.at_.s,.slice A n c],.bool false]) (by simp[results,results231,go_sem,z0,z1,z2,z3,z4,z5]) rfl ⟨_,_,_,dW,U4.gives (fun k hk=>.inr (hA k hk)),rfl⟩
 ·have d1:decide (b.r<1)=false:=eE hr
  have C3:=Bj W3 g4 ⟨x.p,x.so,x.at_,A,n,c,x.b⟩ b L4
  rw[Bl.val]at C3
  repeat' first|go_guarded|go_step|simp only[];go_at_K
  clear a0 a1 a2 a3 a4 a5 f0 f1 f2 f3 f4 f5 b0 b1 c0 c1 c2 c3 c4 c5 l0 l1 l2 l3 l4 l5
  refine C3.mono ?_;rintro e W5 ⟨rfl,cF⟩
  have N1:=L1.aq cF (by simp)
  have N2:=L2.aq cF (by simp)
  have N3:=L3.aq cF (by simp)
  have fI:=iD.aq cF (by simp)
  have U5:=U3.trans (cF.up _)
  clear C3 L1 L2 L3 L4 iD U3 cF
  obtain⟨⟨a0,a1,a2,a3,a4,a5⟩,f0,f1,f2,f3,f4,f5⟩:=N1.c6
  obtain⟨⟨b0,b1⟩,-⟩:=N2.c2
  obtain⟨⟨c0,c1,c2,c3,c4,c5⟩,l0,l1,l2,l3,l4,l5⟩:=N3.c6
  by_cases hq:dr b x.p<0
  ·have d2:decide (dr b x.p<0)=true:=dJ hq
   have M3:=mz N3 (.int .i64 x.p.r) (.int .i64 x.p.s) (.bool x.so) (.int .i64 x.at_.r) (.int .i64 x.at_.s) (.slice A n c)
   have u4:=mA W5 g3 (.int .i64 x.p.r) (.int .i64 x.p.s) (.bool x.so) (.int .i64 x.at_.r) (.int .i64 x.at_.s) (.slice A n c)
   have U4:=U5.own (by omega) u4
   have dW:=fI.aq u4 (fun k hk=>by have:=Rz k hk;simp;omega)
   refine wk ?_
   generalize hW:World.setCell _ _ _=W4
   rw[ta,hW]at M3 U4 dW
   clear hW u4
   obtain⟨⟨z0,z1,z2,z3,z4,z5⟩,-⟩:=M3.c6
   have HR:=HP.out
   rw[if_pos (.inr hq)]at HR
   subst HR
   exact bodyPost_ret (v:=.tuple #[.agg #[.int .i64 x.p.r,.int .i64 x.p.s,.bool x.so,.int .i64 x.at_.r,.int .i64 x.at_.s,.slice A n c],.bool false]) (by simp[results,results231,go_sem,z0,z1,z2,z3,z4,z5]) rfl ⟨_,_,_,dW,U4.gives (fun k hk=>.inr (hA k hk)),rfl⟩
  ·have d2:decide (dr b x.p<0)=false:=eE hq
   have u6:ab [g1] [g1] W5 ((W5.setCell ⟨g1,0,none⟩ (.int .i64 b.r)).setCell ⟨g1,1,none⟩ (.int .i64 b.s)):=((ab.refl [g1] W5).setCell (p:=⟨g1,0,none⟩) (.inl (by simp)) _).setCell (p:=⟨g1,1,none⟩) (.inl (by simp)) _
   have P3:=N3.aq u6 (by simp;omega)
   have U6:=U5.own (by omega) u6
   have oe:=fI.aq u6 (fun k hk=>by have:=Rz k hk;simp;omega)
   have M3:=mz P3 (.int .i64 b.r) (.int .i64 b.s) (.bool x.so) (.int .i64 x.at_.r) (.int .i64 x.at_.s) (.slice A n c)
   have u4:=mA ((W5.setCell ⟨g1,0,none⟩ (.int .i64 b.r)).setCell ⟨g1,1,none⟩ (.int .i64 b.s)) g3 (.int .i64 b.r) (.int .i64 b.s) (.bool x.so) (.int .i64 x.at_.r) (.int .i64 x.at_.s) (.slice A n c)
   have U4:=U6.own (by omega) u4
   have dW:=oe.aq u4 (fun k hk=>by have:=Rz k hk;simp;omega)
   clear u4 u6 U6 P3 oe N1 N2 N3 fI U5
   refine wk ?_
   generalize hW:World.setCell _ _ _=W4
   rw[ta,hW]at M3 U4 dW
   clear hW
   obtain⟨⟨z0,z1,z2,z3,z4,z5⟩,-⟩:=M3.c6
   have HR:=HP.out
   rw[if_neg (by omega)]at HR
   subst HR
   exact bodyPost_ret (v:=.tuple #[.agg #[.int .i64 b.r,.int .i64 b.s,.bool x.so,.int .i64 x.at_.r,.int .i64 x.at_.s,.slice A n c],.bool true]) (by simp[results,results231,go_sem,z0,z1,z2,z3,z4,z5]) rfl ⟨_,_,_,dW,U4.gives (fun k hk=>.inr (hA k hk)),rfl⟩
def jn(x:cP)(b:Bl):Bool:=!decide (dr b x.p<0)
theorem Bk(w:World)(x:cP)(b:Bl)(B:Option Addr)(m d:Nat)(v:List UInt8)(hx:bE w x.A x.n x.b)(hl:x.b.length≤140737488355328)(hv:bE w B m v)(hlv:v.length≤140737488355328) :
  Calls prog 116 #[x.val,b.val,.slice B m d] w fun e w'=>∃A n c,bW 5 w' A n c (if jn x b then v else x.b)∧ab [] (ak A) w w'∧
   e=.returned (.tuple #[(if jn x b then({p:=b,so:=true,at_:=b,A:=A,n:=n,c:=c,b:=v} :cP)else {x with A:=A,n:=n,c:=c}).val,.bool (jn x b)]):=by
 obtain⟨W,g1,g2,g3,eW,h1,h2,h3,gh,cX,iM,U0⟩:=DF w 37 30 37 #[.int .i64 x.p.r,.int .i64 x.p.s,.bool x.so,.int .i64 x.at_.r,.int .i64 x.at_.s,.slice x.A x.n x.c] #[.int .i64 b.r,.int .i64 b.s] #[.int .i64 0,.int .i64 0,.bool false,.int .i64 0,.int .i64 0,.slice none 0 0]
 have hx1:bE W x.A x.n x.b:=hx.aq U0 (by simp)
 have pJ:bE W B m v:=hv.aq U0 (by simp)
 have HP:=aA (jn.eq_def x b)
 rw[cP.val,Bl.val]
 simp only[cP.val]
 generalize jn x b=res at *
 have hs1:=gh.lt
 have hs2:=cX.lt
 have hs3:=iM.lt
 go_enter func116,ntmps116
 obtain⟨⟨a0,a1,a2,a3,a4,a5⟩,f0,f1,f2,f3,f4,f5⟩:=gh.c6
 have C2:=DE W x
 simp only[cP.val,cP.cells]at C2
 repeat' go_step
 clear a0 a1 a2 a3 a4 a5 f0 f1 f2 f3 f4 f5 eW
 refine C2.mono ?_;rintro e W3 ⟨e3,rfl⟩
 obtain⟨g4,h4⟩:∃g,W.heap.size=g:=⟨_,rfl⟩
 have L4:aQ W3 g4 37 x.cells.toArray:=by rw[e3,←h4];exact aQ.new _ _ _
 have qo:ab [] [] W W3:=by rw[e3];exact(ab.refl _ _).alloc _
 have hsz:=qo.size
 have L1:=gh.aq qo (by simp)
 have L2:=cX.aq qo (by simp)
 have L3:=iM.aq qo (by simp)
 have hx3:=hx1.aq qo (by simp)
 have hv3:=pJ.aq qo (by simp)
 have U3:=U0.trans (qo.up _)
 rw[h4]
 have yR:=L4.lt
 clear C2 gh cX iM U0 qo e3 hx1 pJ hx hv
 obtain⟨⟨b0,b1⟩,-⟩:=L2.c2
 have C3:=Bj W3 g4 x b L4
 rw[Bl.val]at C3
 repeat' first|go_step|simp only[];go_at_K
 clear b0 b1
 refine C3.mono ?_;rintro e W5 ⟨rfl,cF⟩
 have N1:=L1.aq cF (by simp)
 have N2:=L2.aq cF (by simp)
 have N3:=L3.aq cF (by simp)
 have Hr:=hx3.aq cF (by simp)
 have LL:=hv3.aq cF (by simp)
 have U5:=U3.trans (cF.up _)
 have ahz:=cF.size
 clear C3 L1 L2 L3 L4 U3 cF hx3 hv3
 obtain⟨⟨a0,a1,a2,a3,a4,a5⟩,f0,f1,f2,f3,f4,f5⟩:=N1.c6
 obtain⟨⟨b0,b1⟩,-⟩:=N2.c2
 by_cases hq:dr b x.p<0
 ·have d2:decide (dr b x.p<0)=true:=dJ hq
  obtain rfl:res=false:=by rw[HP.out,d2];rfl
  have C1:=di W5 x.A x.n x.c x.b Hr hl
  repeat' first|go_step|simp only[];go_at_K
  clear a0 a1 a2 a3 a4 a5 f0 f1 f2 f3 f4 f5 b0 b1
  refine C1.mono ?_;rintro e W6 ⟨A,n,c,rfl,ho,dN⟩
  have K1:=N1.aq dN (by simp)
  have K3:=N3.aq dN (by simp)
  have hA:=(ab.refl [] W5).new dN
  have LM:=U5.new dN
  have U6:=(U5.trans (dN.up _)).gives (b':=ak A) (fun k hk=>.inr (LM k hk))
  clear N1 N2 N3 Hr LL U5 dN C1
  obtain⟨⟨a0,a1,a2,a3,a4,a5⟩,f0,f1,f2,f3,f4,f5⟩:=K1.c6
  obtain⟨⟨c0,c1,c2,c3,c4,c5⟩,l0,l1,l2,l3,l4,l5⟩:=K3.c6
  have u7:=(ab.refl [g1] W6).setCell (p:=⟨g1,5,none⟩) (.inl (by simp)) (.slice A n c)
  have P3:=K3.aq u7 (by simp;omega)
  have U7:=U6.own (by omega) u7
  have sj:=ho.aq u7 (fun k hk=>by have:=hA k hk;simp;omega)
  have M3:=mz P3 (.int .i64 x.p.r) (.int .i64 x.p.s) (.bool x.so) (.int .i64 x.at_.r) (.int .i64 x.at_.s) (.slice A n c)
  have u4:=mA (W6.setCell ⟨g1,5,none⟩ (.slice A n c)) g3 (.int .i64 x.p.r) (.int .i64 x.p.s) (.bool x.so) (.int .i64 x.at_.r) (.int .i64 x.at_.s) (.slice A n c)
  have U4:=U7.own (by omega) u4
  have dW:=sj.aq u4 (fun k hk=>by have:=hA k hk;simp;omega)
  clear u4 u7 U6 U7 P3 ho sj K1 K3
  refine wk ?_
  generalize hW:World.setCell _ _ _=W4
  rw[ta,hW]at M3 U4 dW
  clear hW
  obtain⟨⟨z0,z1,z2,z3,z4,z5⟩,-⟩:=M3.c6
  exact bodyPost_ret (v:=.tuple #[.agg #[.int .i64 x.p.r,.int .i64 x.p.s,.bool x.so,.int .i64 x.at_.r,.int .i64 x.at_.s,.slice A n c],.bool false]) (by simp[results,results116,go_sem,z0,z1,z2,z3,z4,z5]) rfl ⟨_,_,_,dW,U4,rfl⟩
 ·have d2:decide (dr b x.p<0)=false:=eE hq
  obtain rfl:res=true:=by rw[HP.out,d2];rfl
  have C1:=di W5.drew B m d v LL hlv
  repeat' first|go_step|simp only[];go_at_K
  have bM:W5.drew.cell? ⟨g2,0,none⟩=some (.int .i64 b.r):=b0
  have cB:W5.drew.cell? ⟨g2,1,none⟩=some (.int .i64 b.s):=b1
  have N3d:=N3.drew
  clear a0 a1 a2 a3 a4 a5 f0 f1 f2 f3 f4 f5 b0 b1
  go_region_with (first|(go_at_call 58;(with_reducible refine C1.mono ?_);rintro e W6 ⟨A,n,c,rfl,ho,dN⟩;have b06:=dN.cell bM (by simp);have b16:=dN.cell cB (by simp);have K3:=N3d.aq dN (by simp);obtain⟨⟨c0,c1,c2,c3,c4,c5⟩,l0,l1,l2,l3,l4,l5⟩:=K3.c6))
  all_goals
   have hA:=(ab.refl [] W5.drew).new dN
   have LM:=U5.drew.new dN
   have U6:=(U5.drew.trans (dN.up _)).gives (b':=ak A) (fun k hk=>.inr (LM k hk))
   have hsd:W5.drew.heap.size=W5.heap.size:=rfl
   have M3:=mz K3 (.int .i64 b.r) (.int .i64 b.s) (.bool true) (.int .i64 b.r) (.int .i64 b.s) (.slice A n c)
   have u4:=mA W6 g3 (.int .i64 b.r) (.int .i64 b.s) (.bool true) (.int .i64 b.r) (.int .i64 b.s) (.slice A n c)
   have U4:=U6.own (by omega) u4
   have dW:=ho.aq u4 (fun k hk=>by have:=hA k hk;simp;omega)
   clear u4 U6 ho K3 N1 N2 N3 Hr LL U5 dN C1 bM cB b06 b16
  all_goals (refine wk ?_)
  all_goals
   generalize hW:World.setCell _ _ _=W4
   rw[ta,hW]at M3 U4 dW
   clear hW
   obtain⟨⟨z0,z1,z2,z3,z4,z5⟩,-⟩:=M3.c6
   exact bodyPost_ret (v:=.tuple #[.agg #[.int .i64 b.r,.int .i64 b.s,.bool true,.int .i64 b.r,.int .i64 b.s,.slice A n c],.bool true]) (by simp[results,results116,go_sem,z0,z1,z2,z3,z4,z5]) rfl ⟨_,_,_,dW,U4,rfl⟩
theorem yS(w:World)(A B:Option Addr)(n c m d:Nat)(a b:List UInt8)(ha:bE w A n a)(hb:bE w B m b) :
  Calls prog 101 #[.slice A n c,.slice B m d] w fun e w'=>e=.returned (.bool (a==b))∧w=w':=by
 have s1:=strOf ha c
 have s2:=strOf hb d
 clear ha hb
 go_enter func101,ntmps101
 refine wk ?_
 go_ret
 exact⟨rfl,rfl⟩
def _root_.aL.cP.same(x y:cP):Bool:=((x.p.r==y.p.r)&&(x.p.s==y.p.s))&&(x.so==y.so)&&((x.at_.r==y.at_.r)&&(x.at_.s==y.at_.s))&&(x.b==y.b)
theorem Tu(w:World)(x y:cP)(hx:bE w x.A x.n x.b)(hy:bE w y.A y.n y.b) :
  Calls prog 37 #[x.val,y.val] w fun e w'=>e=.returned (.bool (x.same y))∧ab [] [] w w':=by
 obtain⟨W,g1,g2,eW,h1,h2,gh,cX,U0⟩:=DG w 37 37 #[.int .i64 x.p.r,.int .i64 x.p.s,.bool x.so,.int .i64 x.at_.r,.int .i64 x.at_.s,.slice x.A x.n x.c] #[.int .i64 y.p.r,.int .i64 y.p.s,.bool y.so,.int .i64 y.at_.r,.int .i64 y.at_.s,.slice y.A y.n y.c]
 have C:=yS W x.A y.A x.n x.c y.n y.c x.b y.b (hx.aq U0 (by simp)) (hy.aq U0 (by simp))
 have U:=U0.gives (b':=[]) (by simp)
 have E1:=wG x.p.r x.p.s y.p.r y.p.s
 have E2:=wG x.at_.r x.at_.s y.at_.r y.at_.s
 have HP:=aA (cP.same.eq_def x y)
 obtain⟨⟨a0,a1,a2,a3,a4,a5⟩,-⟩:=gh.c6
 obtain⟨⟨b0,b1,b2,b3,b4,b5⟩,-⟩:=cX.c6
 clear hx hy gh cX U0
 rw[cP.val,cP.val]
 generalize x.same y=res at *
 generalize ((x.p.r==y.p.r)&&(x.p.s==y.p.s))=q1 at *
 generalize ((x.at_.r==y.at_.r)&&(x.at_.s==y.at_.s))=q3 at *
 generalize (x.b==y.b)=q4 at *
 go_enter func37,ntmps37
 cases q1 with
 |false=>
  refine wk ?_
  go_ret
  exact⟨by rw[HP.out];rfl,U⟩
 |true=>
  cases hs:(x.so==y.so) with
  |false=>
   rw[hs]at HP
   refine wk ?_
   go_ret
   exact⟨by rw[HP.out];rfl,U⟩
  |true=>
   rw[hs]at HP
   cases q3 with
   |false=>
    refine wk ?_
    go_ret
    exact⟨by rw[HP.out];rfl,U⟩
   |true=>
    repeat' first|go_guarded|go_step
    refine C.mono ?_;rintro e w2 ⟨rfl,rfl⟩
    refine wk ?_
    go_ret
    exact⟨by rw[HP.out];simp,U⟩
