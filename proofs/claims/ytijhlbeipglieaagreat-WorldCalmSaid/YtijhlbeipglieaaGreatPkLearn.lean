/- For WorldCalm. -/
import Derived.Test.YtijhlbeipglieaaGreatPkAcc
set_option linter.all false
set_option maxRecDepth 100000
set_option maxHeartbeats 4000000
namespace aL
open Go List
structure bO where
 A:Option Addr
 n:Nat
 c:Nat
 b:List UInt8
def bO.val(x:bO):Value:=.slice x.A x.n x.c
def bO.rd(w:World)(x:bO):Prop:=bE w x.A x.n x.b
end aL
namespace Go.Proofs.YtijhlbeipglieaaGreat
open Go.RowKit aL Go.Maps Tryz List
structure gy(w:World)(gl bl:Nat)(L:AL bO)(t:Nat):Prop where
 aO:aQ w gl 222 #[.map (some bl),.int .i64 (t:Int)]
 map:cz prog 3 w bl (cD bO.val L)
 keys:∀p∈L,0≤p.1∧p.1<4096∧p.2.b.length≤2048
 ne:gl≠bl
 t:t≤4096
theorem gy.aq{w w':World}{gl bl:Nat}{L:AL bO}{t:Nat}{a b:List Nat}(h:gy w gl bl L t)(hu:ab a b w w')(h1:gl∉a)(h2:bl∉a):gy w' gl bl L t:=
 ⟨h.aO.aq hu h1,h.map.aq hu h2,h.keys,h.ne,h.t⟩
theorem Cb(w:World):(zeroValue 28).run prog w=.ok (.slice none 0 0) w:=zeroValue28 w
theorem gy.look{w:World}{gl bl:Nat}{L:AL bO}{t:Nat}(h:gy w gl bl L t){x:Int}(hx:(Lit.int .i64 x).wf=true) :
  (Instr.lookup 220 (.map (some bl)) (.int .i64 x) true).run prog w=.ok (.tuple #[(((aD x L).map bO.val).getD (.slice none 0 0)),.bool (aD x L).isSome]) w:=by
 have:=h.map.look_ok underlying3 underlying220 (Cb w) hx
 rw[lK,eB]at this
 simpa using this
theorem Ql(w:World):Calls prog 129 #[] w fun e w'=>∃gl bl,e=.returned (.pointer (some ⟨gl,0,none⟩))∧gy w' gl bl [] 0∧ab [] [gl,bl] w w':=by
 have si:=@run_makeMap prog
 have m1:=(cz.made prog 3 w).alloc (.cells #[.map (some w.heap.size),.int .i64 0] 222)
 have hb:=aQ.new (w.alloc (.map #[] 0)) 222 #[.map (some w.heap.size),.int .i64 0]
 rw[World.size_alloc]at hb
 have U:ab [] [w.heap.size+1,w.heap.size] w ((w.alloc (.map #[] 0)).alloc (.cells #[.map (some w.heap.size),.int .i64 0] 222)):=(((ab.refl [] w).alloc _).alloc _).gives (by simp)
 have key:=aA (show gy ((w.alloc (.map #[] 0)).alloc (.cells #[.map (some w.heap.size),.int .i64 0] 222)) (w.heap.size+1) w.heap.size [] 0 from⟨hb,m1,by simp,by omega,by omega⟩)
 clear m1 hb
 go_enter func129,ntmps129
 refine wk ?_
 go_ret
 exact⟨_,_,rfl,key.out,U⟩
theorem qQ(w:World)(gl bl:Nat)(L:AL bO)(t:Nat)(h:gy w gl bl L t)(hr:∀p∈L,p.2.rd w)(x:Int)(hx:(Lit.int .i64 x).wf=true) :
  Calls prog 93 #[.pointer (some ⟨gl,0,none⟩),.int .i64 x] w fun e w'=>∃A n c,e=.returned (.tuple #[.slice A n c,.bool (aD x L).isSome])∧bW 5 w' A n c (((aD x L).map bO.b).getD [])∧ab [] (ak A) w w':=by
 have hl:=h.look hx
 obtain⟨⟨q0,q1⟩,-⟩:=h.aO.c2
 have hlen:∀y,aD x L=some y→y.rd w∧y.b.length≤2048:=fun y hy=>⟨hr _ (bG hy),(h.keys _ (bG hy)).2.2⟩
 clear h hr
 go_enter func93,ntmps93
 cases hy:aD x L with
 |none=>
  rw[hy]at hl
  have C:=di w none 0 0 [] (bE.nil _ _) (by simp)
  repeat' go_step
  refine C.mono ?_;rintro e w2 ⟨A,n,c,rfl,ho,hu⟩
  refine wk ?_
  go_ret2
  exact⟨A,n,c,rfl,ho,hu⟩
 |some y=>
  rw[hy]at hl
  obtain⟨h1,h2⟩:=hlen y hy
  have C:=di w y.A y.n y.c y.b h1 (by omega)
  simp only[Option.map_some,Option.getD_some,Option.isSome_some,bO.val]at hl ⊢
  repeat' go_step
  refine C.mono ?_;rintro e w2 ⟨A,n,c,rfl,ho,hu⟩
  refine wk ?_
  go_ret2
  exact⟨A,n,c,rfl,ho,hu⟩
end Go.Proofs.YtijhlbeipglieaaGreat
namespace aL
open Go List
theorem qb:∀(l:List Int)(a b:Int),l.Pairwise (· < ·)→(∀x∈l,a≤x∧x<b)→a≤b→(l.length:Int)≤b-a
 |[],a,b,_,_,h=>by simp;omega
 |x::l,a,b,hp,hb,h=>by
  have hx:=hb x (by simp)
  have:=qb l (x+1) b (pairwise_cons.1 hp).2 (fun y hy=>⟨by have:=(pairwise_cons.1 hp).1 y hy;omega,(hb y (mem_cons_of_mem _ hy)).2⟩) (by omega)
  rw[length_cons];omega
def jR(L:AL bO)(s:Int)(v:List UInt8):Int:=
 if s<0∨4096≤s∨2048<v.length then 1 else match aD s L with|some y=>if y.b=v then 0 else 7|none=>0
def pw(L:AL bO)(s:Int)(v:List UInt8):Bool:=!(decide (s<0)||decide (4096≤s)||decide (2048<v.length))&&(aD s L).isNone
def cN{α:Type}(L:AL α):Nat→Nat→Nat
 |0,s=>s
 |k+1,s=>if(aD (s:Int) L).isSome then cN L k (s+1)else s
end aL
namespace Go.Proofs.YtijhlbeipglieaaGreat
open Go.RowKit aL Go.Maps Tryz List
theorem gy.len{w:World}{gl bl:Nat}{L:AL bO}{t:Nat}(h:gy w gl bl L t):L.length≤4096:=by
 have hs:=h.map.sorted (int_keyed underlying3)
 have:=qb (L.map Prod.fst) 0 4096 (by
  unfold cD at hs
  rw[pairwise_map]at hs ⊢
  exact hs) (fun x hx=>by
  obtain⟨p,hp,rfl⟩:=mem_map.1 hx
  have:=h.keys p hp;omega) (by omega)
 simp at this
 omega
theorem my(w:World)(gl bl:Nat)(L:AL bO)(t:Nat)(h:gy w gl bl L t) :
  Calls prog 77 #[.pointer (some ⟨gl,0,none⟩)] w fun e w'=>e=.returned (.int .i64 (cN L (4096-t) t:Nat))∧w=w':=by
 obtain⟨⟨q0,q1⟩,-⟩:=h.aO.c2
 have ht:=h.t
 obtain⟨R,hR⟩:=bk (cN L (4096 - t) t)
 have zJ:=aA hR
 rw[hR]
 clear hR
 go_enter func77,ntmps77
 repeat' go_step
 go_loopw [3] (fun v3 wr=>∃i:Nat,i≤4096∧v3=.int .i64 (i:Int)∧cN L (4096-i) i=R∧wr=w) (fun v3 _=>4096-(intOf v3).toNat)
 case atStart=>exact⟨t,by omega,rfl,zJ.out,rfl⟩
 case round=>
  obtain⟨i,hi,rfl,hr,rfl⟩:=hrel
  have H:=aA hr
  clear hr zJ
  by_cases hlt:i<4096
  ·have dK:(i:Int)<4096:=by omega
   have dC:=aL.wr ((i:Int)+1)
   have hl:=h.look (x:=(i:Int)) (kt (by omega) (by omega))
   have hstep:(if(aD (i:Int) L).isSome then cN L (4096-(i+1)) (i+1)else i)=R:=by
    rw[←H.out,show 4096-i=(4096-(i+1))+1 from by omega,cN]
   have HT:=aA hstep
   clear hstep H h
   cases hy:aD (i:Int) L with
   |none=>
    rw[hy]at hl HT
    have HE:=aA hy
    clear hy
    refine wk ?_
    go_ret
    exact⟨by rw[←HT.out];rfl,rfl⟩
   |some y=>
    rw[hy]at hl HT
    have HE:=aA hy
    clear hy
    refine wk ?_
    exact⟨⟨i+1,by omega,rfl,by rw[←HT.out];rfl,trivial⟩,by simp[intOf];omega⟩
  ·have dK:¬ ((i:Int)<4096):=by omega
   have HR:R=i:=by rw[←H.out,show 4096-i=0 from by omega,cN]
   have HS:=aA HR
   clear HR H h
   refine wk ?_
   go_ret
   exact⟨by rw[HS.out];rfl,rfl⟩
theorem GV(w:World)(gl bl:Nat)(L:AL bO)(t:Nat)(h:gy w gl bl L t)(hr:∀p∈L,p.2.rd w)(x:Int)(hx:(Lit.int .i64 x).wf=true)(B:Option Addr)(m d:Nat)(v:List UInt8)(hv:bE w B m v)(hp:pw L x v=false) :
  Calls prog 277 #[.pointer (some ⟨gl,0,none⟩),.int .i64 x,.slice B m d] w fun e w'=>e=.returned (.int .i64 (jR L x v))∧w=w':=by
 have hl:=h.look hx
 obtain⟨⟨q0,q1⟩,-⟩:=h.aO.c2
 have hm:m=v.length:=hv.len
 have hlen:∀y,aD x L=some y→y.rd w:=fun y hy=>hr _ (bG hy)
 obtain⟨R,hR⟩:=bk (jR L x v)
 have HR:=aA hR
 rw[hR]
 clear hR h hr
 have HM:=aA hm
 go_enter func277,ntmps277
 by_cases h1:x<0
 ·have d1:decide (x<0)=true:=dJ h1
  clear hm
  refine wk ?_
  go_ret
  exact⟨by rw[←HR.out,jR,if_pos (by omega)];rfl,rfl⟩
 have d1:decide (x<0)=false:=eE h1
 by_cases h2:4096≤x
 ·have d2:decide (4096≤x)=true:=dJ h2
  clear hm
  refine wk ?_
  go_ret
  exact⟨by rw[←HR.out,jR,if_pos (by omega)];rfl,rfl⟩
 have d2:decide (4096≤x)=false:=eE h2
 by_cases h3:2048<m
 ·have d3:decide ((2048:Int)<(m:Int))=true:=oT
  clear hm
  refine wk ?_
  go_ret
  exact⟨by rw[←HR.out,jR,if_pos (by have:=HM.out;omega)];rfl,rfl⟩
 have d3:decide ((2048:Int)<(m:Int))=false:=iO
 have hno:¬ (x<0∨4096≤x∨2048<v.length):=by omega
 clear hm
 cases hy:aD x L with
 |none=>
  exfalso
  simp only[pw,hy,eE h1,eE h2,eE (show ¬ 2048<v.length by omega)]at hp
  simp at hp
 |some y=>
  have uE:=hlen y hy
  rw[hy]at hl
  simp only[Option.map_some,Option.getD_some,Option.isSome_some,bO.val]at hl
  have C:=yS w y.A B y.n y.c m d y.b v uE hv
  have HN:=aA hno
  have HY:=aA hy
  clear hno hy uE hv hlen hp h3
  repeat' first|go_guarded|go_step
  refine C.mono ?_;rintro e w2 ⟨rfl,rfl⟩
  clear C
  cases hq:(y.b==v) with
  |false=>
   refine wk ?_
   go_ret
   exact⟨by rw[←HR.out,jR,if_neg HN.out,HY.out];simp only[];rw[if_neg (by simpa using hq)];rfl,rfl⟩
  |true=>
   refine wk ?_
   go_ret
   exact⟨by rw[←HR.out,jR,if_neg HN.out,HY.out];simp only[];rw[if_pos (by simpa using hq)];rfl,rfl⟩
theorem GW(w:World)(gl bl:Nat)(L:AL bO)(t:Nat)(h:gy w gl bl L t)(x:Int)(B:Option Addr)(m d:Nat)(v:List UInt8)(hv:bE w B m v)(hp:pw L x v=true) :
  Calls prog 277 #[.pointer (some ⟨gl,0,none⟩),.int .i64 x,.slice B m d] w fun e w'=>∃A n c,e=.returned (.int .i64 0)∧
   gy w' gl bl (aT x ⟨A,n,c,v⟩ L) t∧bW 5 w' A n c v∧(∀k∈ak A,w.heap.size≤k)∧ab [bl] [bl] w w':=by
 have pN:(0≤x∧x<4096∧v.length≤2048)∧aD x L=none:=by
  simp only[pw,Bool.and_eq_true,Bool.not_eq_true',Bool.or_eq_false_iff,decide_eq_false_iff_not,Option.isNone_iff_eq_none]at hp
  exact⟨by omega,hp.2⟩
 clear hp
 obtain⟨⟨hx0,hx1,gi⟩,hno⟩:=pN
 have eO:(Lit.int .i64 x).wf=true:=kt (by omega) (by omega)
 have hl:=h.look eO
 obtain⟨⟨q0,q1⟩,-⟩:=h.aO.c2
 have hm:m=v.length:=hv.len
 rw[hno]at hl
 have d1:decide (x<0)=false:=iO
 have d2:decide (4096≤x)=false:=iO
 have d3:decide ((2048:Int)<(m:Int))=false:=iO
 have HM:=aA hm
 clear hm
 have C:=di w.drew B m d v hv (by omega)
 have fin:∀A n c w2,bW 5 w2 A n c v→ab [] (ak A) w.drew w2→∃w3,(Instr.mapUpdate 220 (.map (some bl)) (.int .i64 x) (.slice A n c)).run prog w2=.ok () w3∧
   gy w3 gl bl (aT x ⟨A,n,c,v⟩ L) t∧bW 5 w3 A n c v∧(∀k∈ak A,w.heap.size≤k)∧ab [bl] [bl] w w3:=by
  intro A n c w2 ho hu
  have h2:=h.aq ((ab.refl [] w).drew.trans hu) (by simp) (by simp)
  have hA:=(ab.refl [] w).drew.new hu
  obtain⟨w3,hrun,l7,cQ⟩:=h2.map.store underlying3 underlying220 (by rw[lk];have:=h.len;unfold maxLen;omega) eO (.slice A n c)
  have hbl:=h.map.lt
  refine⟨w3,hrun,⟨h2.aO.aq cQ (by simp;exact h.ne),?_,?_,h.ne,h.t⟩,ho.aq cQ (fun k hk=>by have:=hA k hk;simp;omega),hA,?_⟩
  ·rw[vQ]at l7
   rw[fi]
   exact l7
  ·intro p hp
   rcases ec.1 hp with rfl|⟨hp,-⟩
   ·exact⟨hx0,hx1,gi⟩
   ·exact h.keys p hp
  ·exact(((ab.refl [] w).drew.trans hu).up [bl]).trans cQ
 have HF:=aA fin
 clear fin h hv
 simp only[Option.map_none,Option.getD_none,Option.isSome_none]at hl
 have IQ:w.drew.cell? ⟨gl,0,none⟩=some (.map (some bl)):=q0
 go_enter func277,ntmps277
 repeat' first|go_guarded|go_step
 clear hl d1 d2 d3 q0 q1 hx0 hx1 eO
 go_region_with (first
  |(go_at_call 58;(with_reducible refine C.mono ?_);rintro e w2 ⟨A,n,c,rfl,ho,hu⟩;have q2:=hu.cell IQ (by simp);obtain⟨w3,hrun,HK⟩:=HF.out A n c w2 ho hu)
  |(refine Cc rfl (.tmp 39) (.tmp 40) (.tmp 42) 220 rfl (.map (some bl)) (.int .i64 x) (.slice A n c) w3 rfl rfl rfl hrun ?_))
 all_goals (refine eH ?_)
 all_goals go_ret
 all_goals exact⟨A,n,c,rfl,HK⟩
end Go.Proofs.YtijhlbeipglieaaGreat
namespace aL
open Go List
section
variable {α:Type}
def eT(L:AL α):Int:=L.foldl (fun m p=>max m (p.1+1)) 0
theorem Fe:∀(L:AL α)(m q:Int),m≤q→(∀p∈L,p.1+1≤q)→(q=m∨∃p∈L,p.1+1=q)→L.foldl (fun m p=>max m (p.1+1)) m=q
 |[],m,q,_,_,h=>by
  rcases h with h|⟨p,hp,_⟩
  ·exact h.symm
  ·cases hp
 |a::L,m,q,hm,hb,h=>by
  rw[foldl_cons]
  have ha:=hb a (by simp)
  refine Fe L _ q (by omega) (fun p hp=>hb p (mem_cons_of_mem _ hp)) ?_
  rcases h with h|⟨p,hp,h⟩
  ·exact .inl (by omega)
  ·rcases mem_cons.1 hp with rfl|hp
   ·exact .inl (by omega)
   ·exact .inr ⟨p,hp,h⟩
end
end aL
namespace Go.Proofs.YtijhlbeipglieaaGreat
open Go.RowKit aL Go.Maps Tryz List
theorem EY(w:World)(gl bl:Nat)(L:AL bO)(t:Nat)(h:gy w gl bl L t) :
  Calls prog 100 #[.pointer (some ⟨gl,0,none⟩)] w fun e w'=>e=.returned (.int .i64 (eT L))∧ab [] [] w w':=by
 obtain⟨⟨q0,q1⟩,-⟩:=h.aO.c2
 obtain⟨w0,hrun,IS,lB,hs0⟩:=h.map.range (t:=220) underlying3 underlying220
 have hk:=h.keys
 have hbl:=h.map.lt
 have AS:∀q:Int,0≤q→(∀x,(aD x L).isSome=true→x+1≤q)→(q=0∨∃p∈L,p.1+1=q)→eT L=q:=fun q h0 h1 h2=>by
  refine Fe L 0 q h0 (fun p hp=>h1 p.1 ?_) h2
  cases hq:aD p.1 L with
  |some _=>rfl
  |none=>exact absurd rfl (kb.1 hq p hp)
 have XB:=aA AS
 have HK:=aA hk
 clear AS hk h
 obtain⟨r,hr⟩:=bk w.heap.size
 have HR:=aA hr
 rw[hr]at hrun IS hs0 hbl
 clear hr
 obtain⟨R,hR⟩:=bk (eT L)
 rw[hR]at XB ⊢
 clear hR
 go_enter func100,ntmps100
 repeat' go_step
 go_loopw [3] (fun v3 wr=>∃(q:Int)(left:Int→Bool)(xM:Nat),v3=.int .i64 q∧0≤q∧q≤4096∧yy prog 3 wr bl r (cD bO.val L) left xM∧
   (∀x,(aD x L).isSome=true→left x=true∨x+1≤q)∧(q=0∨∃p∈L,p.1+1=q)∧ab [] [] w wr) (fun _ wr=>wr.rangeLeft bl r)
 case atStart=>
  refine⟨0,_,_,rfl,by omega,by omega,IS,fun x hx=>.inl ?_,.inl rfl,lB⟩
  show(dX x _).isSome=true
  rw[lK,eB];simpa using hx
 case round=>
  obtain⟨q,left,xM,rfl,hq0,Ux,hrg,hA,hB,hU⟩:=hrel
  have HA:=aA hA
  have HB:=aA hB
  clear hA hB IS
  rcases hrg.next underlying3 0 with⟨h0,hn,uG⟩|⟨x,v,w1,AT,hlx,hlk,uG,hrg1,hlt,bn,hs1,hen⟩
  ·have HN:=aA hn
   clear hn
   refine wk ?_
   go_ret
   have e1:=XB.out q hq0 (fun x hx=>by
    rcases HA.out x hx with h|h
    ·rw[HN.out]at h;cases h
    ·exact h) HB.out
   exact⟨by rw[e1];rfl,hU⟩
  ·have hsome:(aD x L).isSome=true:=by
    rw[lK,eB]at hlk
    cases hq:aD x L with
    |some _=>rfl
    |none=>rw[hq]at hlk;cases hlk
   obtain⟨y,hy⟩:=Option.isSome_iff_exists.1 hsome
   have hm:=bG hy
   have hk0:=(HK.out _ hm).1
   have oq:=(HK.out _ hm).2.1
   simp only at hk0 oq
   have hxw:=aL.wr (x+1)
   have U1:ab [] [] w w1:=hU.own (by rw[HR.out];exact Nat.le_refl _) bn
   have hle:=hrg.left_eq
   have adH:=hrg1.left_eq
   have HM:=aA hm
   clear hsome hy hm hlk bn hU
   refine wk ?_
   refine⟨⟨if q<x+1 then x+1 else q,_,AT,rfl,by split<;>omega,by split<;>omega,hrg1,fun z hz=>?_,?_,U1⟩,by rw[hle,adH];exact hlt⟩
   ·by_cases ph:z=x
    ·subst ph;right;split<;>omega
    ·rcases HA.out z hz with h|h
     ·left;simp[h,ph]
     ·right;split<;>omega
   ·split
    ·exact .inr ⟨_,HM.out,rfl⟩
    ·exact HB.out
