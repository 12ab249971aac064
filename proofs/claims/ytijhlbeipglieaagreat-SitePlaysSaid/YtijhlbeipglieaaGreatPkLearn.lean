/- For SitePlays. -/
import Derived.Test.YtijhlbeipglieaaGreatPkAcc
set_option linter.all false
set_option maxRecDepth 100000
set_option maxHeartbeats 4000000
namespace aA
open Go List
structure aM where
 A:Option Addr
 n:Nat
 c:Nat
 b:List UInt8
def aM.val(x:aM):Value:=.slice x.A x.n x.c
def aM.rd(w:World)(x:aM):Prop:=aD w x.A x.n x.b
end aA
namespace Go.Proofs.YtijhlbeipglieaaGreat
open Go.RowKit aA Go.Maps Tryz List
structure gI(w:World)(gl bl:Nat)(L:AL aM)(t:Nat):Prop where
 blk:ak w gl 222 #[.map (some bl),.int .i64 (t:Int)]
 map:bP prog 3 w bl (bS aM.val L)
 keys:∀p∈L,0≤p.1∧p.1<4096∧p.2.b.length≤2048
 ne:gl≠bl
 t:t≤4096
theorem gI.upd{w w':World}{gl bl:Nat}{L:AL aM}{t:Nat}{a b:List Nat}(h:gI w gl bl L t)(hu:aa a b w w')(h1:gl∉a:=by simp)(h2:bl∉a:=by simp):gI w' gl bl L t:=
 ⟨h.blk.upd hu h1,h.map.upd hu h2,h.keys,h.ne,h.t⟩
theorem Fq(w:World):(zeroValue 28).run prog w=.ok (.slice none 0 0) w:=zeroValue28 w
theorem gI.look{w:World}{gl bl:Nat}{L:AL aM}{t:Nat}(h:gI w gl bl L t){x:Int}(hx:(Lit.int .i64 x).wf=true) :
  (Instr.lookup 220 (.map (some bl)) (.int .i64 x) true).run prog w=.ok (.tuple #[(((aC x L).map aM.val).getD (.slice none 0 0)),.bool (aC x L).isSome]) w:=by
 have:=h.map.look_ok underlying3 underlying220 (Fq w) hx
 rw[qj,fH]at this
 simpa using this
theorem Ty(w:World):Calls prog 129 #[] w fun e w'=>∃gl bl,e=.returned (.pointer (some ⟨gl,0,none⟩))∧gI w' gl bl [] 0∧aa [] [gl,bl] w w':=by
 have hmm:=@run_makeMap prog
 have m1:=(bP.made prog 3 w).alloc (.cells #[.map (some w.heap.size),.int .i64 0] 222)
 have hb:=ak.new (w.alloc (.map #[] 0)) 222 #[.map (some w.heap.size),.int .i64 0]
 rw[World.size_alloc]at hb
 have U:aa [] [w.heap.size+1,w.heap.size] w ((w.alloc (.map #[] 0)).alloc (.cells #[.map (some w.heap.size),.int .i64 0] 222)):=(((aa.refl [] w).alloc _).alloc _).gives
 have key:=hdn (show gI ((w.alloc (.map #[] 0)).alloc (.cells #[.map (some w.heap.size),.int .i64 0] 222)) (w.heap.size+1) w.heap.size [] 0 from⟨hb,m1,by simp,by omega,by omega⟩)
 clear m1 hb
 go_enter func129,ntmps129
 refine wk ?_
 go_ret
 exact⟨_,_,rfl,key.out,U⟩
theorem qy(w:World)(gl bl:Nat)(L:AL aM)(t:Nat)(h:gI w gl bl L t)(hr:∀p∈L,p.2.rd w)(x:Int)(hx:(Lit.int .i64 x).wf=true) :
  Calls prog 93 #[.pointer (some ⟨gl,0,none⟩),.int .i64 x] w fun e w'=>∃A n c,e=.returned (.tuple #[.slice A n c,.bool (aC x L).isSome])∧aT 5 w' A n c (((aC x L).map aM.b).getD [])∧aa [] (ah A) w w':=by
 have hl:=h.look hx
 obtain⟨⟨q0,q1⟩,-⟩:=h.blk.c2
 have hlen:∀y,aC x L=some y→y.rd w∧y.b.length≤2048:=fun y hy=>⟨hr _ (aY hy),(h.keys _ (aY hy)).2.2⟩
 clear h hr
 go_enter func93,ntmps93
 cases hy:aC x L with
 |none=>
  rw[hy]at hl
  have C:=dS w none 0 0 [] (aD.nil _ _) (by simp)
  repeat' go_step
  refine C.mono ?_;rintro e w2 ⟨A,n,c,rfl,ho,hu⟩
  refine wk ?_
  go_ret2
  exact⟨A,n,c,rfl,ho,hu⟩
 |some y=>
  rw[hy]at hl
  obtain⟨h1,h2⟩:=hlen y hy
  have C:=dS w y.A y.n y.c y.b h1 (by omega)
  simp only[Option.map_some,Option.getD_some,Option.isSome_some,aM.val]at hl ⊢
  repeat' go_step
  refine C.mono ?_;rintro e w2 ⟨A,n,c,rfl,ho,hu⟩
  refine wk ?_
  go_ret2
  exact⟨A,n,c,rfl,ho,hu⟩
end Go.Proofs.YtijhlbeipglieaaGreat
namespace aA
open Go List
theorem sI:∀(l:List Int)(a b:Int),l.Pairwise (· < ·)→(∀x∈l,a≤x∧x<b)→a≤b→(l.length:Int)≤b-a
 |[],a,b,_,_,h=>by simp;omega
 |x::l,a,b,hp,hb,h=>by
  have hx:=hb x (by simp)
  have:=sI l (x+1) b (pairwise_cons.1 hp).2 (fun y hy=>⟨by have:=(pairwise_cons.1 hp).1 y hy;omega,(hb y (mem_cons_of_mem _ hy)).2⟩) (by omega)
  rw[length_cons];omega
def kg(L:AL aM)(s:Int)(v:List UInt8):Int:=
 if s<0∨4096≤s∨2048<v.length then 1 else match aC s L with|some y=>if y.b=v then 0 else 7|none=>0
def qY(L:AL aM)(s:Int)(v:List UInt8):Bool:=!(decide (s<0)||decide (4096≤s)||decide (2048<v.length))&&(aC s L).isNone
def fe{α:Type}(L:AL α):Nat→Nat→Nat
 |0,s=>s
 |k+1,s=>if(aC (s:Int) L).isSome then fe L k (s+1)else s
end aA
namespace Go.Proofs.YtijhlbeipglieaaGreat
open Go.RowKit aA Go.Maps Tryz List
theorem gI.len{w:World}{gl bl:Nat}{L:AL aM}{t:Nat}(h:gI w gl bl L t):L.length≤4096:=by
 have hs:=h.map.sorted (int_keyed underlying3)
 have:=sI (L.map Prod.fst) 0 4096 (by
  unfold bS at hs
  rw[pairwise_map]at hs ⊢
  exact hs) (fun x hx=>by
  obtain⟨p,hp,rfl⟩:=mem_map.1 hx
  have:=h.keys p hp;omega) (by omega)
 simp at this
 omega
theorem oo(w:World)(gl bl:Nat)(L:AL aM)(t:Nat)(h:gI w gl bl L t) :
  Calls prog 77 #[.pointer (some ⟨gl,0,none⟩)] w fun e w'=>e=.returned (.int .i64 (fe L (4096-t) t:Nat))∧w=w':=by
 obtain⟨⟨q0,q1⟩,-⟩:=h.blk.c2
 have ht:=h.t
 obtain⟨R,hR⟩:=ex1 (fe L (4096 - t) t)
 have CX:=hdn hR
 rw[hR]
 clear hR
 go_enter func77,ntmps77
 repeat' go_step
 go_loopw [3] (fun v3 wr=>∃i:Nat,i≤4096∧v3=.int .i64 (i:Int)∧fe L (4096-i) i=R∧wr=w) (fun v3 _=>4096-(intOf v3).toNat)
 case atStart=>exact⟨t,by omega,rfl,CX.out,rfl⟩
 case round=>
  obtain⟨i,hi,rfl,hr,rfl⟩:=hrel
  have H:=hdn hr
  clear hr CX
  by_cases hlt:i<4096
  ·have hil:(i:Int)<4096:=by omega
   have hw1:=aA.wr ((i:Int)+1)
   have hl:=h.look (x:=(i:Int)) (jV (by omega) (by omega))
   have adS:(if(aC (i:Int) L).isSome then fe L (4096-(i+1)) (i+1)else i)=R:=by
    rw[←H.out,show 4096-i=(4096-(i+1))+1 from by omega,fe]
   have HT:=hdn adS
   clear adS H h
   cases hy:aC (i:Int) L with
   |none=>
    rw[hy]at hl HT
    have HE:=hdn hy
    clear hy
    refine wk ?_
    go_ret
    exact⟨by rw[←HT.out];rfl,rfl⟩
   |some y=>
    rw[hy]at hl HT
    have HE:=hdn hy
    clear hy
    refine wk ?_
    exact⟨⟨i+1,by omega,rfl,by rw[←HT.out];rfl,trivial⟩,by simp[intOf];omega⟩
  ·have hil:¬ ((i:Int)<4096):=by omega
   have HR:R=i:=by rw[←H.out,show 4096-i=0 from by omega,fe]
   have HS:=hdn HR
   clear HR H h
   refine wk ?_
   go_ret
   exact⟨by rw[HS.out];rfl,rfl⟩
theorem KT(w:World)(gl bl:Nat)(L:AL aM)(t:Nat)(h:gI w gl bl L t)(hr:∀p∈L,p.2.rd w)(x:Int)(hx:(Lit.int .i64 x).wf=true)(B:Option Addr)(m d:Nat)(v:List UInt8)(hv:aD w B m v)(hp:qY L x v=false) :
  Calls prog 277 #[.pointer (some ⟨gl,0,none⟩),.int .i64 x,.slice B m d] w fun e w'=>e=.returned (.int .i64 (kg L x v))∧w=w':=by
 have hl:=h.look hx
 obtain⟨⟨q0,q1⟩,-⟩:=h.blk.c2
 have hm:m=v.length:=hv.len
 have hlen:∀y,aC x L=some y→y.rd w:=fun y hy=>hr _ (aY hy)
 obtain⟨R,hR⟩:=ex1 (kg L x v)
 have HR:=hdn hR
 rw[hR]
 clear hR h hr
 have HM:=hdn hm
 go_enter func277,ntmps277
 by_cases h1:x<0
 ·have d1:decide (x<0)=true:=dTx h1
  clear hm
  refine wk ?_
  go_ret
  exact⟨by rw[←HR.out,kg,if_pos (by omega)];rfl,rfl⟩
 have d1:decide (x<0)=false:=dFx h1
 by_cases h2:4096≤x
 ·have d2:decide (4096≤x)=true:=dTx h2
  clear hm
  refine wk ?_
  go_ret
  exact⟨by rw[←HR.out,kg,if_pos (by omega)];rfl,rfl⟩
 have d2:decide (4096≤x)=false:=dFx h2
 by_cases h3:2048<m
 ·have d3:decide ((2048:Int)<(m:Int))=true:=dTo
  clear hm
  refine wk ?_
  go_ret
  exact⟨by rw[←HR.out,kg,if_pos (by have:=HM.out;omega)];rfl,rfl⟩
 have d3:decide ((2048:Int)<(m:Int))=false:=dFo
 have hno:¬ (x<0∨4096≤x∨2048<v.length):=by omega
 clear hm
 cases hy:aC x L with
 |none=>
  exfalso
  simp only[qY,hy,dFx h1,dFx h2,dFx (show ¬ 2048<v.length by omega)]at hp
  simp at hp
 |some y=>
  have Fs:=hlen y hy
  rw[hy]at hl
  simp only[Option.map_some,Option.getD_some,Option.isSome_some,aM.val]at hl
  have C:=Cb w y.A B y.n y.c m d y.b v Fs hv
  have HN:=hdn hno
  have HY:=hdn hy
  clear hno hy Fs hv hlen hp h3
  repeat' first|go_guarded|go_step
  refine C.mono ?_;rintro e w2 ⟨rfl,rfl⟩
  clear C
  cases hq:(y.b==v) with
  |false=>
   refine wk ?_
   go_ret
   exact⟨by rw[←HR.out,kg,if_neg HN.out,HY.out];simp only[];rw[if_neg (by simpa using hq)];rfl,rfl⟩
  |true=>
   refine wk ?_
   go_ret
   exact⟨by rw[←HR.out,kg,if_neg HN.out,HY.out];simp only[];rw[if_pos (by simpa using hq)];rfl,rfl⟩
theorem yQ{P:Program}{ops:Array Oper}{o:Oper}{a:Act}{w:World}{K:Act→World→Prop}{Q:Exit→Act→World→Prop}{E:Prop}(hg:o.guard=none)(m x v:Operand)(t:TypeId)(hop:o.op=Op.mapUpdate t m x v)(vm vx u:Value)(w':World)(hm:a.eval m=vm)(hx:a.eval x=vx)(hv:a.eval v=u)(abS:(Instr.mapUpdate t vm vx u).run P w=.ok () w')(hK:K (a.put o.dst undef) w') :
  if Region.wanted o (yielded ops a.tmps)=true then Oper.wp P o a w K Q else E:=by
 have hw:Region.wanted o (yielded ops a.tmps)=true:=by simp[Region.wanted,hg]
 rw[if_pos hw]
 unfold Oper.wp
 simp[execOp,hop,hm,hx,hv,abS,Result.andThen]
 exact hK
theorem KW(w:World)(gl bl:Nat)(L:AL aM)(t:Nat)(h:gI w gl bl L t)(x:Int)(B:Option Addr)(m d:Nat)(v:List UInt8)(hv:aD w B m v)(hp:qY L x v=true) :
  Calls prog 277 #[.pointer (some ⟨gl,0,none⟩),.int .i64 x,.slice B m d] w fun e w'=>∃A n c,e=.returned (.int .i64 0)∧
   gI w' gl bl (aG x ⟨A,n,c,v⟩ L) t∧aT 5 w' A n c v∧(∀k∈ah A,w.heap.size≤k)∧aa [bl] [bl] w w':=by
 have hp':(0≤x∧x<4096∧v.length≤2048)∧aC x L=none:=by
  simp only[qY,Bool.and_eq_true,Bool.not_eq_true',Bool.or_eq_false_iff,decide_eq_false_iff_not,Option.isNone_iff_eq_none]at hp
  exact⟨by omega,hp.2⟩
 clear hp
 obtain⟨⟨hx0,hx1,hvl⟩,hno⟩:=hp'
 have hwf:(Lit.int .i64 x).wf=true:=jV (by omega) (by omega)
 have hl:=h.look hwf
 obtain⟨⟨q0,q1⟩,-⟩:=h.blk.c2
 have hm:m=v.length:=hv.len
 rw[hno]at hl
 have d1:decide (x<0)=false:=dFo
 have d2:decide (4096≤x)=false:=dFo
 have d3:decide ((2048:Int)<(m:Int))=false:=dFo
 have HM:=hdn hm
 clear hm
 have C:=dS w.drew B m d v hv (by omega)
 have fin:∀A n c w2,aT 5 w2 A n c v→aa [] (ah A) w.drew w2→∃w3,(Instr.mapUpdate 220 (.map (some bl)) (.int .i64 x) (.slice A n c)).run prog w2=.ok () w3∧
   gI w3 gl bl (aG x ⟨A,n,c,v⟩ L) t∧aT 5 w3 A n c v∧(∀k∈ah A,w.heap.size≤k)∧aa [bl] [bl] w w3:=by
  intro A n c w2 ho hu
  have h2:=h.upd ((aa.refl [] w).drew.trans hu) (by simp) (by simp)
  have hA:=(aa.refl [] w).drew.new hu
  obtain⟨w3,abS,qb,hu3⟩:=h2.map.store underlying3 underlying220 (by rw[mE];have:=h.len;unfold maxLen;omega) hwf (.slice A n c)
  have hbl:=h.map.lt
  refine⟨w3,abS,⟨h2.blk.upd hu3 (by simp;exact h.ne),?_,?_,h.ne,h.t⟩,ho.upd hu3 (fun k hk=>by have:=hA k hk;simp;omega),hA,?_⟩
  ·rw[yR]at qb
   rw[fE]
   exact qb
  ·intro p hp
   rcases eY.1 hp with rfl|⟨hp,-⟩
   ·exact⟨hx0,hx1,hvl⟩
   ·exact h.keys p hp
  ·exact(((aa.refl [] w).drew.trans hu).up [bl]).trans hu3
 have HF:=hdn fin
 clear fin h hv
 simp only[Option.map_none,Option.getD_none,Option.isSome_none]at hl
 have Mt:w.drew.cell? ⟨gl,0,none⟩=some (.map (some bl)):=q0
 go_enter func277,ntmps277
 repeat' first|go_guarded|go_step
 clear hl d1 d2 d3 q0 q1 hx0 hx1 hwf
 go_region_with (first
  |(go_at_call 58;(with_reducible refine C.mono ?_);rintro e w2 ⟨A,n,c,rfl,ho,hu⟩;have q2:=hu.cell Mt (by simp);obtain⟨w3,abS,HK⟩:=HF.out A n c w2 ho hu)
  |(refine yQ rfl (.tmp 39) (.tmp 40) (.tmp 42) 220 rfl (.map (some bl)) (.int .i64 x) (.slice A n c) w3 rfl rfl rfl abS ?_))
 all_goals (refine bN ?_)
 all_goals go_ret
 all_goals exact⟨A,n,c,rfl,HK⟩
end Go.Proofs.YtijhlbeipglieaaGreat
namespace aA
open Go List
section
variable {α:Type}
def fQ(L:AL α):Int:=L.foldl (fun m p=>max m (p.1+1)) 0
theorem IC:∀(L:AL α)(m q:Int),m≤q→(∀p∈L,p.1+1≤q)→(q=m∨∃p∈L,p.1+1=q)→L.foldl (fun m p=>max m (p.1+1)) m=q
 |[],m,q,_,_,h=>by
  rcases h with h|⟨p,hp,_⟩
  ·exact h.symm
  ·cases hp
 |a::L,m,q,hm,hb,h=>by
  rw[foldl_cons]
  have ha:=hb a (by simp)
  refine IC L _ q (by omega) (fun p hp=>hb p (mem_cons_of_mem _ hp)) ?_
  rcases h with h|⟨p,hp,h⟩
  ·exact .inl (by omega)
  ·rcases mem_cons.1 hp with rfl|hp
   ·exact .inl (by omega)
   ·exact .inr ⟨p,hp,h⟩
end
end aA
namespace Go.Proofs.YtijhlbeipglieaaGreat
open Go.RowKit aA Go.Maps Tryz List
theorem Ip(w:World)(gl bl:Nat)(L:AL aM)(t:Nat)(h:gI w gl bl L t) :
  Calls prog 100 #[.pointer (some ⟨gl,0,none⟩)] w fun e w'=>e=.returned (.int .i64 (fQ L))∧aa [] [] w w':=by
 obtain⟨⟨q0,q1⟩,-⟩:=h.blk.c2
 obtain⟨w0,abS,hr0,hu0,hs0⟩:=h.map.range (t:=220) underlying3 underlying220
 have hk:=h.keys
 have hbl:=h.map.lt
 have adp:∀q:Int,0≤q→(∀x,(aC x L).isSome=true→x+1≤q)→(q=0∨∃p∈L,p.1+1=q)→fQ L=q:=fun q h0 h1 h2=>by
  refine IC L 0 q h0 (fun p hp=>h1 p.1 ?_) h2
  cases hq:aC p.1 L with
  |some _=>rfl
  |none=>exact absurd rfl (rX.1 hq p hp)
 have Zv:=hdn adp
 have HK:=hdn hk
 clear adp hk h
 obtain⟨r,hr⟩:=ex1 w.heap.size
 have HR:=hdn hr
 rw[hr]at abS hr0 hs0 hbl
 clear hr
 obtain⟨R,hR⟩:=ex1 (fQ L)
 rw[hR]at Zv ⊢
 clear hR
 go_enter func100,ntmps100
 repeat' go_step
 go_loopw [3] (fun v3 wr=>∃(q:Int)(left:Int→Bool)(cnt:Nat),v3=.int .i64 q∧0≤q∧q≤4096∧xy prog 3 wr bl r (bS aM.val L) left cnt∧
   (∀x,(aC x L).isSome=true→left x=true∨x+1≤q)∧(q=0∨∃p∈L,p.1+1=q)∧aa [] [] w wr) (fun _ wr=>wr.rangeLeft bl r)
 case atStart=>
  refine⟨0,_,_,rfl,by omega,by omega,hr0,fun x hx=>.inl ?_,.inl rfl,hu0⟩
  show(eH x _).isSome=true
  rw[qj,fH];simpa using hx
 case round=>
  obtain⟨q,left,cnt,rfl,hq0,hq1,hrg,hA,hB,hU⟩:=hrel
  have HA:=hdn hA
  have HB:=hdn hB
  clear hA hB hr0
  rcases hrg.next underlying3 0 with⟨h0,hn,hnx⟩|⟨x,v,w1,ag5,hlx,hlk,hnx,al5,hlt,hu1,hs1,hen⟩
  ·have HN:=hdn hn
   clear hn
   refine wk ?_
   go_ret
   have e1:=Zv.out q hq0 (fun x hx=>by
    rcases HA.out x hx with h|h
    ·rw[HN.out]at h;cases h
    ·exact h) HB.out
   exact⟨by rw[e1];rfl,hU⟩
  ·have akk:(aC x L).isSome=true:=by
    rw[qj,fH]at hlk
    cases hq:aC x L with
    |some _=>rfl
    |none=>rw[hq]at hlk;cases hlk
   obtain⟨y,hy⟩:=Option.isSome_iff_exists.1 akk
   have hm:=aY hy
   have hk0:=(HK.out _ hm).1
   have hk1:=(HK.out _ hm).2.1
   simp only at hk0 hk1
   have hxw:=aA.wr (x+1)
   have U1:aa [] [] w w1:=hU.own (by rw[HR.out];exact Nat.le_refl _) hu1
   have hle:=hrg.left_eq
   have apM:=al5.left_eq
   have HM:=hdn hm
   clear akk hy hm hlk hu1 hU
   refine wk ?_
   refine⟨⟨if q<x+1 then x+1 else q,_,ag5,rfl,by split<;>omega,by split<;>omega,al5,fun z hz=>?_,?_,U1⟩,by rw[hle,apM];exact hlt⟩
   ·by_cases hzx:z=x
    ·subst hzx;right;split<;>omega
    ·rcases HA.out z hz with h|h
     ·left;simp[h,hzx]
     ·right;split<;>omega
   ·split
    ·exact .inr ⟨_,HM.out,rfl⟩
    ·exact HB.out
