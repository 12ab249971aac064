/- For SitePlays. -/
import Derived.OrdersHeld
import Derived.Deep.RegionHeld
import Derived.WalkKit
import Derived.WalkSpells
import Derived.WalkLawsBesides
import Derived.Deep.AppendLies
import Derived.Maps.AppendAt
import Derived.Deep.Draws
import Derived.Lib.Hide
import Derived.Deep.QuietTactic
import Derived.BigQuiet
import Derived.Deep.Quiet
import Derived.ArgAppend
import Derived.Deep.RegionLaw
import Derived.Laws.IdiomCopy
set_option linter.all false
set_option maxHeartbeats 1000000
namespace aA
open Go Go.RowKit List
structure aa(fp fp':List Nat)(w w':World):Prop where
 os:w'.os=w.os
 tape:w'.tape=w.tape
 output:w'.output=w.output
 size:w.heap.size≤w'.heap.size
 block:∀k,k<w.heap.size→k∉fp→w'.heap[k]? =w.heap[k]?
 fresh:∀k,k∈fp'→k∈fp∨w.heap.size≤k
theorem aa.refl(fp:List Nat)(w:World):aa fp fp w w:=⟨rfl,rfl,rfl,Nat.le_refl _,fun _ _ _=>rfl,fun _ h=>.inl h⟩
theorem aa.trans{a b c:List Nat}{w w1 w2:World}(h:aa a b w w1)(k:aa b c w1 w2):aa a c w w2:=
 ⟨k.os.trans h.os,k.tape.trans h.tape,k.output.trans h.output,Nat.le_trans h.size k.size,
  fun i hi hn=>by
   have hb:i∉b:=fun hm=>by rcases h.fresh i hm with h1|h1;exact hn h1;omega
   exact(k.block i (Nat.lt_of_lt_of_le hi h.size) hb).trans (h.block i hi hn),
  fun i hi=>by
   rcases k.fresh i hi with h1|h1
   ·exact h.fresh i h1
   ·exact .inr (Nat.le_trans h.size h1)⟩
theorem aa.mono{a b a' b':List Nat}{w w':World}(h:aa a b w w')(ha:∀k∈a,k∈a')(hb:∀k∈b',k∈b∨k∈a'∨w.heap.size≤k):aa a' b' w w':=
 ⟨h.os,h.tape,h.output,h.size,fun i hi hn=>h.block i hi fun hm=>hn (ha _ hm),fun i hi=>by
  rcases hb i hi with h1|h1|h1
  ·rcases h.fresh i h1 with h2|h2
   ·exact .inl (ha _ h2)
   ·exact .inr h2
  ·exact .inl h1
  ·exact .inr h1⟩
theorem aa.drew{a b:List Nat}{w w':World}(h:aa a b w w'):aa a b w w'.drew:=⟨h.os,h.tape,h.output,h.size,h.block,h.fresh⟩
theorem aa.drewN{a b:List Nat}{w w':World}(h:aa a b w w')(n:Nat):aa a b w (w'.drewN n):=⟨h.os,h.tape,h.output,h.size,h.block,h.fresh⟩
theorem aa.alloc{a b:List Nat}{w w':World}(h:aa a b w w')(o:Obj):aa a b w (w'.alloc o):=
 ⟨h.os,h.tape,h.output,Nat.le_trans h.size (by simp),fun i hi hn=>(Below.heap_alloc w' o i (Nat.lt_of_lt_of_le hi h.size)).trans (h.block i hi hn),h.fresh⟩
theorem aa.setCell{a b:List Nat}{w w':World}(h:aa a b w w'){p:Addr}(hp:p.block∈a∨w.heap.size≤p.block)(u:Value):aa a b w (w'.setCell p u):=
 ⟨h.os,h.tape,h.output,by simpa[World.setCell]using h.size,fun i hi hn=>(Below.heap_setCell w' p u i (by
  rintro rfl
  rcases hp with hp|hp
  ·exact hn hp
  ·omega)).trans (h.block i hi hn),h.fresh⟩
theorem aa.grown{a b:List Nat}{w w' w'':World}{row:Option Nat}(h:aa a b w w')(hg:w'.grownBy w'' row)(hr:∀k,row=some k→k∈a∨w.heap.size≤k):aa a b w w'':=
 ⟨hg.os.trans h.os,hg.tape.trans h.tape,hg.output.trans h.output,Nat.le_trans h.size hg.size,fun i hi hn=>(hg.block i (Nat.lt_of_lt_of_le hi h.size) (fun e=>by
  rcases hr i e.symm with h1|h1
  ·exact hn h1
  ·omega)).trans (h.block i hi hn),h.fresh⟩
theorem aa.gives{a b b':List Nat}{w w':World}(h:aa a b w w')(hb:∀k∈b',k∈a∨w.heap.size≤k:=by simp):aa a b' w w':=⟨h.os,h.tape,h.output,h.size,h.block,hb⟩
theorem aa.below{a b:List Nat}{w w':World}(h:aa a b w w'){B:Nat}(hB:B≤w.heap.size)(ha:∀k∈a,B≤k):Below B w w':=
 ⟨h.os,h.tape,h.output,h.size,fun k hk=>h.block k (by omega) fun hm=>by have:=ha k hm;omega⟩
theorem aa.G7{w w':World}(h:Below w.heap.size w w'){fp fp':List Nat}(hf:∀k∈fp',w.heap.size≤k):aa fp fp' w w':=
 ⟨h.os,h.tape,h.output,h.size,fun k hk _=>h.block k hk,fun k hk=>.inr (hf k hk)⟩
theorem aa.cell{a b:List Nat}{w w':World}(h:aa a b w w'){p:Addr}{v:Value}(hc:w.cell? p=some v)(hp:p.block∉a):w'.cell? p=some v:=
 (World.cell?_of_block (w:=w) (h.block p.block (World.block_lt_of_cell? w p hc) hp)).trans hc
theorem aa.frozen{a b:List Nat}{w w':World}(h:aa a b w w'){p:Addr}(hl:p.block<w.heap.size)(hp:p.block∉a):w'.frozen? p=w.frozen? p:=
 World.frozen?_of_block (w:=w) (h.block p.block hl hp)
def ak(w:World)(g:Nat)(t:TypeId)(cs:Array Value):Prop:=w.heap[g]? =some (.cells cs t (0,0))
section
variable {w w':World} {g:Nat} {t:TypeId} {cs:Array Value}
theorem ak.lt(h:ak w g t cs):g<w.heap.size:=by
 rcases Nat.lt_or_ge g w.heap.size with hlt|hge
 ·exact hlt
 ·unfold ak at h;rw[Array.getElem?_eq_none hge]at h;cases h
theorem ak.cell(h:ak w g t cs)(i:Nat):w.cell? ⟨g,i,none⟩=cs[i]?:=cell_of_row w g i cs t (0,0) h
theorem ak.frozen(h:ak w g t cs)(i:Nat):w.frozen? ⟨g,i,none⟩=false:=by
 unfold ak at h
 simp[World.frozen?,h]
theorem ak.new(w:World)(t:TypeId)(cs:Array Value):ak (w.alloc (.cells cs t)) w.heap.size t cs:=heap_alloc_new w _
theorem ak.drew(h:ak w g t cs):ak w.drew g t cs:=h
theorem ak.drewN(h:ak w g t cs)(n:Nat):ak (w.drewN n) g t cs:=h
theorem ak.alloc(h:ak w g t cs)(o:Obj):ak (w.alloc o) g t cs:=(Below.heap_alloc w o g h.lt).trans h
theorem ak.aO(h:ak w g t cs)(i:Nat)(u:Value):ak (w.setCell ⟨g,i,none⟩ u) g t (cs.setIfInBounds i u):=by
 unfold ak at h ⊢
 simp[World.setCell,Array.getElem?_modify,h]
theorem ak.far(h:ak w g t cs){p:Addr}(hp:g≠p.block)(u:Value):ak (w.setCell p u) g t cs:=(Below.heap_setCell w p u g hp).trans h
theorem ak.below{B:Nat}(h:ak w g t cs)(hb:Below B w w')(hg:g<B):ak w' g t cs:=(hb.block g hg).trans h
theorem ak.grown{row:Option Nat}(h:ak w g t cs)(hb:w.grownBy w' row)(hg:some g≠row):ak w' g t cs:=(hb.block g h.lt hg).trans h
theorem ak.upd{a b:List Nat}(h:ak w g t cs)(hu:aa a b w w')(hg:g∉a:=by simp):ak w' g t cs:=(hu.block g h.lt hg).trans h
theorem ak.ne_{g':Nat}{t':TypeId}{cs':Array Value}(h:ak w g t cs)(h':ak w g' t' cs')(hne:t≠t'):g≠g':=by
 rintro rfl
 unfold ak at h h'
 rw[h]at h'
 injection h' with h'
 injection h' with _ ht
 exact hne ht
end
theorem gq(a:Addr)(n:Nat):(a.add n).block=a.block:=by unfold Addr.add;split<;>rfl
theorem wS(a:Addr)(i j:Nat):(a.add i).add j=a.add (i+j):=by
 unfold Addr.add
 by_cases hi:i=0<;>by_cases hj:j=0<;>simp[hi,hj,Nat.add_assoc]
def ah:Option Addr→List Nat
 |some a=>[a.block]
 |none=>[]
def Rd(w:World)(size:Nat)(A:Option Addr)(n:Nat)(xs:List Value):Prop:=
 xs.length=n*size∧(0<n→∃ad,A=some ad∧∀j u,xs[j]? =some u→w.cell? (ad.add j)=some u)
section
variable {w w':World} {size n:Nat} {A:Option Addr} {xs:List Value}
theorem Rd.none_:Rd w size A 0 []:=⟨by simp,fun h=>absurd h (by omega)⟩
theorem Rd.at_{k:Nat}(h:Rd w 1 A n xs)(hk:k<n):∃ad u,A=some ad∧xs[k]? =some u∧w.cell? (ad.add k)=some u:=by
 obtain⟨ad,e,hc⟩:=h.2 (by omega)
 have hl:k<xs.length:=by have:=h.1;omega
 exact⟨ad,xs[k],e,List.getElem?_eq_getElem hl,hc k _ (List.getElem?_eq_getElem hl)⟩
theorem Rd.ahK(h:Rd w size A n xs)(hk:∀(p:Addr) (u:Value),p.block∈ah A→w.cell? p=some u→w'.cell? p=some u):Rd w' size A n xs:=
 ⟨h.1,fun hn=>by
  obtain⟨ad,e,hc⟩:=h.2 hn
  exact⟨ad,e,fun j u hu=>hk _ _ (by rw[gq,e];simp[ah]) (hc j u hu)⟩⟩
theorem Rd.upd{a b:List Nat}(h:Rd w size A n xs)(hu:aa a b w w')(hd:∀k∈ah A,k∉a:=by simp):Rd w' size A n xs:=
 h.ahK fun _ _ hp hc=>hu.cell hc (hd _ hp)
theorem Rd.drew(h:Rd w size A n xs):Rd w.drew size A n xs:=h
theorem Rd.drewN(h:Rd w size A n xs)(k:Nat):Rd (w.drewN k) size A n xs:=h
theorem Rd.alloc(h:Rd w size A n xs)(o:Obj):Rd (w.alloc o) size A n xs:=
 h.ahK fun p _ _ hc=>(World.cell?_alloc_lt w o p (World.block_lt_of_cell? w p hc)).trans hc
theorem Rd.cut(h:Rd w size A n xs){k cap:Nat}(hk:k≤n)(hc:n≤cap) :
  Rd w size (if cap=k then A else A.map (·.add (k*size))) (n-k) (xs.drop (k*size)):=by
 refine⟨by rw[length_drop,h.1,Nat.sub_mul],fun hn=>?_⟩
 obtain⟨ad,rfl,acM⟩:=h.2 (by omega)
 rw[if_neg (by omega)]
 refine⟨ad.add (k*size),rfl,fun j u hu=>?_⟩
 rw[wS]
 exact acM _ u (by rw[←hu,List.getElem?_drop])
theorem Rd.take(h:Rd w size A n xs){k:Nat}(hk:k≤n):Rd w size A k (xs.take (k*size)):=by
 have:=Nat.mul_le_mul_right size hk
 refine⟨by rw[length_take,h.1];omega,fun hn=>?_⟩
 obtain⟨ad,rfl,acM⟩:=h.2 (by omega)
 refine⟨ad,rfl,fun j u hu=>acM _ u ?_⟩
 rw[List.getElem?_take]at hu
 split at hu
 ·exact hu
 ·cases hu
theorem Rd.YI{base:Nat}{e:TypeId}{c:Nat}(h:w.ownsRow base e size (.slice A n c) n xs):Rd w size A n xs:=by
 refine⟨h.1,fun hn=>?_⟩
 obtain⟨g,cap,hv,_,hlt⟩:=h.form hn
 have hA:A=some ⟨g,0,none⟩:=by injection hv
 subst hA
 exact⟨_,rfl,h.cells (g:=g) rfl⟩
theorem Rd.blk{g:Nat}{t:TypeId}{cs:List Value}(h:ak w g t cs.toArray)(hl:cs.length=n*size):Rd w size (some ⟨g,0,none⟩) n cs:=
 ⟨hl,fun _=>⟨_,rfl,fun j u hu=>by
  have:(⟨g,0,none⟩:Addr).add j=⟨g,j,none⟩:=by unfold Addr.add;split<;>simp_all
  rw[this,h.cell];simpa using hu⟩⟩
end
def Own(e:TypeId)(size:Nat)(w:World)(A:Option Addr)(n c:Nat)(xs:List Value):Prop:=w.ownsRow 0 e size (.slice A n c) n xs
theorem Own.nil(e:TypeId)(size:Nat)(w:World):Own e size w none 0 0 []:=World.ownsRow_nil _ _ _ _
theorem Own.made(e:TypeId)(size:Nat)(w:World):Own e size (w.alloc (.cells #[] e)) (some ⟨w.heap.size,0,none⟩) 0 0 []:=World.ownsRow_made w #[] 0 (Nat.zero_le _) (by simp[maxLen]) (by simp)
theorem Own.upd{e:TypeId}{size:Nat}{w w':World}{A:Option Addr}{n c:Nat}{xs:List Value}{a b:List Nat}(h:Own e size w A n c xs)(hu:aa a b w w')(hd:∀k∈ah A,k∉a:=by simp):Own e size w' A n c xs:=by
 refine⟨h.1,?_⟩
 rcases h.2 with hn|⟨g,cap,cur,hv,hb,hgg,rest⟩
 ·exact .inl hn
 ·have hA:A=some ⟨g,0,none⟩:=by injection hv
  exact .inr ⟨g,cap,cur,hv,hb,(hu.block g (Array.getElem?_eq_some_iff.1 hgg).1 (hd g (by simp[hA,ah]))).trans hgg,rest⟩
theorem Own.drewN{e:TypeId}{size:Nat}{w:World}{A:Option Addr}{n c:Nat}{xs:List Value}(h:Own e size w A n c xs)(k:Nat):Own e size (w.drewN k) A n c xs:=h
theorem Own.alloc{e:TypeId}{size:Nat}{w:World}{A:Option Addr}{n c:Nat}{xs:List Value}(h:Own e size w A n c xs)(o:Obj):Own e size (w.alloc o) A n c xs:=World.ownsRow.alloc h o
theorem Own.rd{e:TypeId}{size:Nat}{w:World}{A:Option Addr}{n c:Nat}{xs:List Value}(h:Own e size w A n c xs):Rd w size A n xs:=Rd.YI h
theorem Own.len{e:TypeId}{size:Nat}{w:World}{A:Option Addr}{n c:Nat}{xs:List Value}(h:Own e size w A n c xs):xs.length=n*size:=h.1
theorem Own.cap{e:TypeId}{size:Nat}{w:World}{A:Option Addr}{n c:Nat}{xs:List Value}(h:Own e size w A n c xs):n≤c∧c≤maxLen:=by
 rcases h.2 with⟨hv,hn⟩|⟨g,cap,cur,hv,_,_,h1,h2,_⟩
 ·injection hv with _ _ hc;subst hc hn;simp
 ·injection hv with _ _ hc;subst hc;exact⟨h1,h2⟩
theorem Own.lt{e:TypeId}{size:Nat}{w:World}{A:Option Addr}{n c:Nat}{xs:List Value}(h:Own e size w A n c xs):∀k∈ah A,k<w.heap.size:=by
 intro k hk
 rcases h.2 with⟨hv,_⟩|⟨g,cap,cur,hv,_,hg,_⟩
 ·injection hv with hA;subst hA;simp[ah]at hk
 ·injection hv with hA;subst hA;simp[ah]at hk;subst hk;exact(Array.getElem?_eq_some_iff.1 hg).1
theorem Own.ne{e:TypeId}{size:Nat}{w:World}{A:Option Addr}{n c:Nat}{xs:List Value}(h:Own e size w A n c xs){g:Nat}{t:TypeId}{cs:Array Value}(hb:ak w g t cs)(hne:e≠t):g∉ah A:=by
 intro hm
 rcases h.2 with⟨hv,_⟩|⟨g',cap,cur,hv,_,hh,_⟩
 ·injection hv with hA;subst hA;simp[ah]at hm
 ·injection hv with hA;subst hA
  have:g=g':=by simpa[ah]using hm
  subst this
  exact ak.ne_ (t:=e) hh hb hne rfl
section
variable {P:Program} (w:World)
theorem zS(base:Nat)(t ty e:TypeId)(i:TypeInfo)(size:Nat)(ht:P.underlying t=some (.slice e))(hi:P.info? e=some i)(v:Value)(n:Nat)(xs:List Value)(acI:w.ownsRow base e size v n xs)(c:Nat):(Builtin.append_ #[t,t] ty #[v,.slice none 0 c]).run P w=.ok v w:=by
 rcases acI.2 with⟨rfl,rfl⟩|⟨g,cap,cur,rfl,_,_,hnc,_⟩
 ·simp[Builtin.append_,run_underlying ht,Go.sizeOf,typeInfo,hi,Builtin.lenOf,Builtin.firstCells]
 ·simp[Builtin.append_,run_underlying ht,Go.sizeOf,typeInfo,hi,Builtin.lenOf,Builtin.firstCells,hnc,storeCells]
theorem oQ(t ty e:TypeId){z:Value}{size bytes:Nat}(ht:P.underlying t=some (.slice e))(hi:(P.info? e).map (fun i=>(i.zero,i.size,i.bytes))=some (some z,size,bytes))(hzs:z.cells.size=size)(hsz:0<size)(A0:Option Addr)(n c0:Nat)(xs:List Value)(acI:Own e size w A0 n c0 xs)(A:Option Addr)(m c:Nat)(news:List Value)(hr:Rd w size A m news)(h1:∀u∈news,u.oneCell'=true)(h63:n+m≤maxLen)(adI:(n+m)*bytes≤140737488355328) :
  ∃A' c' w',(Builtin.append_ #[t,t] ty #[.slice A0 n c0,.slice A m c]).run P w=.ok (.slice A' (n+m) c') w'∧Own e size w' A' (n+m) c' (xs++news)∧aa (ah A0) (ah A') w w':=by
 obtain⟨i,hi,hz,afX,hby⟩:=info_parts hi
 rcases A with _|ad
 ·have hm:m=0:=by
   rcases Nat.eq_zero_or_pos m with h0|h0
   ·exact h0
   ·obtain⟨ad,h,_⟩:=hr.2 h0
    cases h
  subst hm
  have hn:news= []:=eq_nil_of_length_eq_zero (by simpa using hr.1)
  subst hn
  exact⟨A0,c0,w,zS w 0 t ty e i size ht hi _ n xs acI c,by simpa using acI,aa.refl _ _⟩
 ·have alN:∀j u,news[j]? =some u→w.cell? (ad.add j)=some u:=by
   intro j u hu
   rcases Nat.eq_zero_or_pos m with h0|h0
   ·subst h0
    have hn:news= []:=eq_nil_of_length_eq_zero (by simpa using hr.1)
    subst hn
    simp at hu
   ·obtain⟨PG,h,hc⟩:=hr.2 h0
    injection h with h
    subst h
    exact hc j u hu
  obtain⟨v',w',abS,h2,h3,_,h5⟩:=run_append_own_at (P:=P) w 0 t ty e i z size bytes ht hi hz afX hby hzs hsz _ n xs acI ad m c news hr.1 alN h1 h63 adI (Nat.zero_le _)
  have hv:∃A' c',v'=.slice A' (n+m) c':=by
   rcases h2.2 with⟨hv,hn⟩|⟨g,cap,cur,hv,_⟩
   ·exact⟨none,0,by rw[hn];exact hv⟩
   ·exact⟨_,_,hv⟩
  obtain⟨A',c',rfl⟩:=hv
  refine⟨A',c',w',abS,h2,?_⟩
  have e1:(Value.slice A0 n c0).ownBlock.toList=ah A0:=by cases A0<;>rfl
  have e2:(Value.slice A' (n+m) c').ownBlock.toList=ah A':=by cases A'<;>rfl
  rw[←e1,←e2]
  exact⟨h3.os,h3.tape,h3.output,h3.size,fun k hk hn=>h3.block k hk (fun e=>hn (by simp[←e])),fun k hk=>by
   rcases h5 with h|h
   ·left;simpa[h]using hk
   ·right;simp[h]at hk;omega⟩
theorem YJ{o:Oper}{a:Act}{K:Act→World→Prop}{Q:Exit→Act→World→Prop}(s x:Operand)(t:TypeId)(ho:o.op=.call {callee:=.builtin .append,args:=#[s,x],argTypes:=#[t,t]})(e:TypeId){z:Value}{size bytes:Nat}(ht:P.underlying t=some (.slice e))(hi:(P.info? e).map (fun i=>(i.zero,i.size,i.bytes))=some (some z,size,bytes))(hzs:z.cells.size=size)(hsz:0<size){A0:Option Addr}{n c0:Nat}{xs:List Value}(acI:Own e size w A0 n c0 xs)(hs:a.eval s=.slice A0 n c0){A:Option Addr}{m c:Nat}{news:List Value}(hr:Rd w size A m news)(hx:a.eval x=.slice A m c)(h1:∀u∈news,u.oneCell'=true)(h63:n+m≤maxLen)(adI:(n+m)*bytes≤140737488355328)(h:∀A' c' w',Own e size w' A' (n+m) c' (xs++news)→aa (ah A0) (ah A') w w'→K (a.put o.dst (.slice A' (n+m) c')) w'):o.wp P a w K Q:=by
 obtain⟨A',c',w',abS,h2,h3⟩:=oQ (P:=P) w t o.type e ht hi hzs hsz A0 n c0 xs acI A m c news hr h1 h63 adI
 unfold Oper.wp execOp
 simp only[ho,resolve,invoke,builtin,Sem.run_bind,Sem.run_pure,Result.andThen_ok,map_toArray,map_cons,map_nil,hs,hx,abS]
 exact h A' c' w' h2 h3
theorem gT{ops:Array Oper}{rest:List Oper}{o:Oper}{a:Act}{Q:Exit→Act→World→Prop}(hgd:o.guard=none)(s x:Operand)(t:TypeId)(ho:o.op=.call {callee:=.builtin .append,args:=#[s,x],argTypes:=#[t,t]})(e:TypeId){z:Value}{size bytes:Nat}(ht:P.underlying t=some (.slice e))(hi:(P.info? e).map (fun i=>(i.zero,i.size,i.bytes))=some (some z,size,bytes))(hzs:z.cells.size=size)(hsz:0<size){A0:Option Addr}{n c0:Nat}{xs:List Value}(acI:Own e size w A0 n c0 xs)(hs:a.eval s=.slice A0 n c0){A:Option Addr}{m c:Nat}{news:List Value}(hr:Rd w size A m news)(hx:a.eval x=.slice A m c)(h1:∀u∈news,u.oneCell'=true)(h63:n+m≤maxLen)(adI:(n+m)*bytes≤140737488355328)(h:∀A' c' w',Own e size w' A' (n+m) c' (xs++news)→aa (ah A0) (ah A') w w'→wpList P ops Q rest (a.put o.dst (.slice A' (n+m) c')) w'):wpList P ops Q (o::rest) a w:=
 wpList_plain hgd fun _ hK=>YJ w s x t ho e ht hi hzs hsz acI hs hr hx h1 h63 adI fun A' c' w' h2 h3=>hK _ _ (h A' c' w' h2 h3)
end
theorem bQ{P:Program}{w:World}{ops:Array Oper}{rest:List Oper}{o:Oper}{a:Act}{Q:Exit→Act→World→Prop}(hgd:o.guard=none)(s x:Operand)(t:TypeId)(ho:o.op=.call {callee:=.builtin .append,args:=#[s,x],argTypes:=#[t,t]})(e:TypeId){z:Value}{size bytes:Nat}(ht:P.underlying t=some (.slice e))(hi:(P.info? e).map (fun i=>(i.zero,i.size,i.bytes))=some (some z,size,bytes))(hzs:z.cells.size=size)(hsz:0<size){A0:Option Addr}{n c0:Nat}{xs:List Value}(acI:Own e size w A0 n c0 xs)(hs:a.eval s=.slice A0 n c0)(H:Nat)(hH:H=w.heap.size){m c:Nat}{news:List Value}(hx:a.eval x=.slice (some ⟨H,0,none⟩) m c)(hl:news.length=m*size)(h1:news.all (·.oneCell')=true)(h63:n+m≤maxLen)(adI:(n+m)*bytes≤140737488355328)(h:∀A' c' w',Own e size w' A' (n+m) c' (xs++news)→aa (ah A0) (ah A') w w'→wpList P ops Q rest (a.put o.dst (.slice A' (n+m) c')) w'):wpList P ops Q (o::rest) a (w.alloc (.cells news.toArray e)):=by
 subst hH
 exact gT _ hgd s x t ho e ht hi hzs hsz (acI.alloc _) hs (Rd.blk (ak.new _ _ _) hl) hx (by simpa using h1) h63 adI
  fun A' c' w' h2 h3=>h A' c' w' h2 (((aa.refl (ah A0) w).alloc _).trans h3)
theorem Ag{P:Program}{ops:Array Oper}{rest:List Oper}{o:Oper}{a:Act}{Q:Exit→Act→World→Prop}{w:World}{x y:Operand}{t t':TypeId}(_:o.op=.call {callee:=.builtin .append,args:=#[x,y],argTypes:=#[t,t']})(h:wpList P ops Q (o::rest) a w):wpList P ops Q (o::rest) a w:=h
theorem acr{P:Program}{ops:Array Oper}{rest:List Oper}{o:Oper}{a:Act}{Q:Exit→Act→World→Prop}{w:World}{x y:Operand}{t t':TypeId}(_:o.op=.call {callee:=.builtin .copy,args:=#[x,y],argTypes:=#[t,t']})(h:wpList P ops Q (o::rest) a w):wpList P ops Q (o::rest) a w:=h
def B8(b:UInt8):Value:=.int .u8 (b.toNat:Int)
def iH(l:List UInt8):List Value:=l.map B8
@[simp] theorem abZ (l:List UInt8):(iH l).length=l.length:=by simp[iH]
theorem mW(a b:List UInt8):iH (a++b)=iH a++iH b:=by simp[iH]
theorem Ec(l:List UInt8):∀u∈iH l,u.oneCell'=true:=by
 intro u hu;simp only[iH,mem_map]at hu;obtain⟨b,_,rfl⟩:=hu;rfl
theorem Hm{n:Nat}(h:n<256):B8 (UInt8.ofNat n)=.int .u8 (n:Int):=by
 simp[B8,Nat.mod_eq_of_lt h]
theorem YK{l:List UInt8}{n:Nat}{x:Int}(h:n<256)(hx:x=n):iH l++[Value.int .u8 x]=iH (l++[UInt8.ofNat n]):=by
 subst hx;rw[mW];congr 1;simp only[iH,map_cons,map_nil,Hm h]
def aD(w:World)(A:Option Addr)(n:Nat)(l:List UInt8):Prop:=Rd w 1 A n (iH l)
theorem aD.len{w:World}{A:Option Addr}{n:Nat}{l:List UInt8}(h:aD w A n l):n=l.length:=by have:=h.1;simp at this;omega
theorem aD.upd{w w':World}{A:Option Addr}{n:Nat}{l:List UInt8}{a b:List Nat}(h:aD w A n l)(hu:aa a b w w')(hd:∀k∈ah A,k∉a:=by simp):aD w' A n l:=Rd.upd h hu hd
theorem aD.alloc{w:World}{A:Option Addr}{n:Nat}{l:List UInt8}(h:aD w A n l)(o:Obj):aD (w.alloc o) A n l:=Rd.alloc h o
theorem aD.nil(w:World)(A:Option Addr):aD w A 0 []:=⟨rfl,fun h=>absurd h (by omega)⟩
structure aT(T:TypeId)(w:World)(A:Option Addr)(n c:Nat)(l:List UInt8):Prop where
 len:n=l.length
 own:Own T 1 w A n c (iH l)
theorem aT.nil(T:TypeId)(w:World):aT T w none 0 0 []:=⟨rfl,Own.nil _ _ _⟩
theorem aT.made(T:TypeId)(w:World):aT T (w.alloc (.cells #[] T)) (some ⟨w.heap.size,0,none⟩) 0 0 []:=⟨rfl,Own.made _ _ _⟩
theorem aT.upd{T:TypeId}{w w':World}{A:Option Addr}{n c:Nat}{l:List UInt8}{a b:List Nat}(h:aT T w A n c l)(hu:aa a b w w')(hd:∀k∈ah A,k∉a:=by simp):aT T w' A n c l:=⟨h.len,h.own.upd hu hd⟩
theorem aT.drew{T:TypeId}{w:World}{A:Option Addr}{n c:Nat}{l:List UInt8}(h:aT T w A n c l):aT T w.drew A n c l:=⟨h.len,h.own⟩
theorem aT.alloc{T:TypeId}{w:World}{A:Option Addr}{n c:Nat}{l:List UInt8}(h:aT T w A n c l)(o:Obj):aT T (w.alloc o) A n c l:=⟨h.len,h.own.alloc o⟩
theorem aT.rd{T:TypeId}{w:World}{A:Option Addr}{n c:Nat}{l:List UInt8}(h:aT T w A n c l):aD w A n l:=h.own.rd
theorem mG{P:Program}{w:World}{ops:Array Oper}{rest:List Oper}{o:Oper}{a:Act}{Q:Exit→Act→World→Prop}(hgd:o.guard=none)(s x:Operand)(t:TypeId)(ho:o.op=.call {callee:=.builtin .append,args:=#[s,x],argTypes:=#[t,t]})(e:TypeId)(ht:P.underlying t=some (.slice e))(hi:(P.info? e).map (fun i=>(i.zero,i.size,i.bytes))=some (some (.int .u8 0),1,1)){A0:Option Addr}{k c0:Nat}{l:List UInt8}(acI:aT e w A0 k c0 l)(hs:a.eval s=.slice A0 k c0)(H:Nat)(hH:H=w.heap.size)(y:Int)(hx:a.eval x=.slice (some ⟨H,0,none⟩) 1 1)(n:Nat)(hn:n<256)(hy:y=n)(hb:l.length+1≤140737488355328)(h:∀A' k' c' w',aT e w' A' k' c' (l++[UInt8.ofNat n])→aa (ah A0) (ah A') w w'→wpList P ops Q rest (a.put o.dst (.slice A' k' c')) w'):wpList P ops Q (o::rest) a (w.alloc (.cells #[.int .u8 y] e)):=by
 have hk:=acI.len
 refine bQ hgd s x t ho e ht hi rfl (by decide) acI.own hs H hH (news:=[.int .u8 y]) hx rfl rfl (by unfold maxLen;omega) (by omega)
  fun A' c' w' h2 h3=>h A' _ c' w' ⟨by simp[hk],?_⟩ h3
 rwa [YK hn hy]at h2
theorem eD{P:Program}{w:World}{ops:Array Oper}{rest:List Oper}{o:Oper}{a:Act}{Q:Exit→Act→World→Prop}(hgd:o.guard=none)(s x:Operand)(t:TypeId)(ho:o.op=.call {callee:=.builtin .append,args:=#[s,x],argTypes:=#[t,t]})(e:TypeId)(ht:P.underlying t=some (.slice e))(hi:(P.info? e).map (fun i=>(i.zero,i.size,i.bytes))=some (some (.int .u8 0),1,1)){A0:Option Addr}{k c0:Nat}{l:List UInt8}(acI:aT e w A0 k c0 l)(hs:a.eval s=.slice A0 k c0){A:Option Addr}{m c:Nat}{r:List UInt8}(hr:aD w A m r)(hx:a.eval x=.slice A m c)(hb:l.length+r.length≤140737488355328)(h:∀A' k' c' w',aT e w' A' k' c' (l++r)→aa (ah A0) (ah A') w w'→wpList P ops Q rest (a.put o.dst (.slice A' k' c')) w'):wpList P ops Q (o::rest) a w:=by
 have hk:=acI.len
 have hm:=hr.len
 refine gT w hgd s x t ho e ht hi rfl (by decide) acI.own hs hr hx (Ec r) (by unfold maxLen;omega) (by omega)
  fun A' c' w' h2 h3=>h A' _ c' w' ⟨by simp[hk,hm],?_⟩ h3
 rwa [mW]
theorem iq(l:List UInt8)(k:Nat)(h:k<l.length):(iH l)[k]? =some (.int .u8 (l[k].toNat:Int)):=by
 simp[iH,B8,h]
theorem foldl_push(ns:List UInt8)(s:ByteArray):(ns.map (fun b=>(b.toNat:Int))).foldl (fun r n=>r.push (UInt8.ofNat n.toNat)) s=⟨s.data++ns.toArray⟩:=by
 induction ns generalizing s with
 |nil=>simp
 |cons b ns ih=>
  simp only[map_cons,foldl_cons]
  rw[ih]
  simp[ByteArray.push]
theorem jX{P:Program}{w:World}{ad:Addr}{n:Nat}{xs:List Value}(hl:xs.length=n)(h:∀j u,xs[j]? =some u→w.cell? (ad.add j)=some u):(loadCells ad n).run P w=.ok xs.toArray w:=by
 subst hl
 exact run_loadCells_list w ad xs h
theorem Gu{P:Program}{w:World}{src dst e:TypeId}(hs:P.underlying src=some (.slice e))(he:P.underlying e=some (.int .u8))(hd:P.underlying dst=some .string){A:Option Addr}{n:Nat}{l:List UInt8}(h:aD w A n l)(c:Nat):(convert src dst (.slice A n c)).run P w=.ok (.string ⟨l.toArray⟩) w:=by
 rw[run_convert_bytes_string w src dst e A n c hs he hd]
 rcases A with _|ad
 ·have hl:l= []:=by
   rcases Nat.eq_zero_or_pos n with h0|h0
   ·exact eq_nil_of_length_eq_zero (by rw[←h.len,h0])
   ·obtain⟨_,h,_⟩:=h.2 h0;cases h
  subst hl
  simp[Conv.bytesToString,Sem.run_pure];rfl
 ·rcases Nat.eq_zero_or_pos n with h0|h0
  ·subst h0
   obtain rfl:l= []:=eq_nil_of_length_eq_zero h.len.symm
   rw[run_bytesToString w ad 0 c [] (jX (xs:=[]) rfl (by simp))]
   rfl
  ·obtain⟨PG,e',hc⟩:=h.2 h0
   injection e' with e';subst e'
   have hx:iH l=(l.map fun b=>(b.toNat:Int)).map (Value.int .u8):=by simp[iH,B8]
   rw[run_bytesToString w ad n c (l.map fun b=>(b.toNat:Int)) (by rw[←hx];exact jX (by have:=h.len;simp;omega) hc),foldl_push]
   simp
theorem iU{P:Program}{f:FuncId}{args:Array Value}{w:World}{n:Nat}{v:Value}(h:Calls P f args (w.drewN n) fun e w'=>e=.returned v∧w.drewN n=w'):Calls P f args (w.drewN n) fun e w''=>e=.returned v∧∃m,w''=w.drewN m:=
 h.mono fun _ _ ⟨he,hm⟩=>⟨he,n,hm.symm⟩
theorem aD.part{w:World}{A:Option Addr}{n c:Nat}{b:List UInt8}(h:aD w A n b)(hc:n≤c)(i m:Nat)(hi:i+m≤n) :
  aD w (if c=i then A else A.map (·.add i)) m ((b.drop i).take m):=by
 have h1:=(Rd.cut h (k:=i) (cap:=c) (by omega) hc).take (k:=m) (by omega)
 simpa[aD,iH,map_drop,map_take]using h1
theorem aD.rest{w:World}{A:Option Addr}{n c:Nat}{b:List UInt8}(h:aD w A n b)(hc:n≤c)(i:Nat)(hi:i≤n) :
  aD w (if c=i then A else A.map (·.add i)) (n-i) (b.drop i):=by
 have h1:=Rd.cut h (k:=i) (cap:=c) hi hc
 simpa[aD,iH,map_drop]using h1
theorem aD.pre{w:World}{A:Option Addr}{n:Nat}{b:List UInt8}(h:aD w A n b)(m:Nat)(hm:m≤n):aD w A m (b.take m):=by
 have h1:=Rd.take h hm
 simpa[aD,iH,map_take]using h1
theorem L6(p:Prop)[Decidable p](A:Option Addr)(i:Nat):ah (if p then A else A.map (·.add i))=ah A:=by
 split
 ·rfl
 ·cases A with
  |none=>rfl
  |some a=>simp[ah,gq]
theorem aD.drewN{w:World}{A:Option Addr}{n:Nat}{l:List UInt8}(h:aD w A n l)(k:Nat):aD (w.drewN k) A n l:=Rd.drewN h k
def setRow(w:World)(H:Nat):Nat→List Value→World
 |_,[]=>w
 |i,v::vs=>setRow (w.setCell ⟨H,i,none⟩ v) H (i+1) vs
theorem Cf(H:Nat)(t:TypeId):∀(vs:List Value)(i:Nat)(w:World)(xs ys:List Value),ak w H t (xs++ys).toArray→xs.length=i→ys.length=vs.length→ak (setRow w H i vs) H t (xs++vs).toArray
 |[],i,w,xs,ys,h,_,hl=>by
  obtain rfl:ys= []:=eq_nil_of_length_eq_zero (by simpa using hl)
  exact h
 |v::vs,i,w,xs,[],_,_,hl=>by simp at hl
 |v::vs,i,w,xs,y::ys,h,hi,hl=>by
  have h1:=h.aO i v
  have e:(xs++y::ys).toArray.setIfInBounds i v=((xs++[v])++ys).toArray:=by
   subst hi
   apply Array.ext'
   simp
  rw[e]at h1
  have:=Cf H t vs (i+1) _ (xs++[v]) ys h1 (by simp[hi]) (by simpa using hl)
  simpa[setRow]using this
theorem Cg(H:Nat){a b:List Nat}{w0:World} :∀(vs:List Value)(i:Nat)(w:World),aa a b w0 w→(H∈a∨w0.heap.size≤H)→aa a b w0 (setRow w H i vs)
 |[],_,_,h,_=>h
 |v::vs,i,_w,h,hH=>Cg H vs (i+1) _ (h.setCell (p:=⟨H,i,none⟩) hH v) hH
theorem dM{W w:World}{H:Nat}{t:TypeId}{cs:Array Value}{a b:List Nat}(vs:List Value)(hH:ak W H t cs)(hl:cs.size=vs.length)(U:aa a b w W)(hn:H∈a∨w.heap.size≤H) :
  ak (setRow W H 0 vs) H t vs.toArray∧aa a b w (setRow W H 0 vs):=by
 refine⟨?_,Cg H vs 0 W U hn⟩
 have:=Cf H t vs 0 W [] cs.toList (by simpa using hH) rfl (by simpa using hl)
 simpa using this
theorem ak.c1{w:World}{g:Nat}{t:TypeId}{x0:Value}(h:ak w g t #[x0]):w.cell? ⟨g,0,none⟩=some x0∧w.frozen? ⟨g,0,none⟩=false:=⟨h.cell 0,h.frozen 0⟩
theorem ak.c2{w:World}{g:Nat}{t:TypeId}{x0 x1:Value}(h:ak w g t #[x0,x1]):(w.cell? ⟨g,0,none⟩=some x0∧w.cell? ⟨g,1,none⟩=some x1)∧w.frozen? ⟨g,0,none⟩=false∧w.frozen? ⟨g,1,none⟩=false:=⟨⟨h.cell 0,h.cell 1⟩,⟨h.frozen 0,h.frozen 1⟩⟩
theorem ak.c3{w:World}{g:Nat}{t:TypeId}{x0 x1 x2:Value}(h:ak w g t #[x0,x1,x2]):(w.cell? ⟨g,0,none⟩=some x0∧w.cell? ⟨g,1,none⟩=some x1∧w.cell? ⟨g,2,none⟩=some x2)∧w.frozen? ⟨g,0,none⟩=false∧w.frozen? ⟨g,1,none⟩=false∧w.frozen? ⟨g,2,none⟩=false:=⟨⟨h.cell 0,h.cell 1,h.cell 2⟩,⟨h.frozen 0,h.frozen 1,h.frozen 2⟩⟩
theorem ak.c4{w:World}{g:Nat}{t:TypeId}{x0 x1 x2 x3:Value}(h:ak w g t #[x0,x1,x2,x3]):(w.cell? ⟨g,0,none⟩=some x0∧w.cell? ⟨g,1,none⟩=some x1∧w.cell? ⟨g,2,none⟩=some x2∧w.cell? ⟨g,3,none⟩=some x3)∧w.frozen? ⟨g,0,none⟩=false∧w.frozen? ⟨g,1,none⟩=false∧w.frozen? ⟨g,2,none⟩=false∧w.frozen? ⟨g,3,none⟩=false:=⟨⟨h.cell 0,h.cell 1,h.cell 2,h.cell 3⟩,⟨h.frozen 0,h.frozen 1,h.frozen 2,h.frozen 3⟩⟩
theorem ak.c5{w:World}{g:Nat}{t:TypeId}{x0 x1 x2 x3 x4:Value}(h:ak w g t #[x0,x1,x2,x3,x4]):(w.cell? ⟨g,0,none⟩=some x0∧w.cell? ⟨g,1,none⟩=some x1∧w.cell? ⟨g,2,none⟩=some x2∧w.cell? ⟨g,3,none⟩=some x3∧w.cell? ⟨g,4,none⟩=some x4)∧w.frozen? ⟨g,0,none⟩=false∧w.frozen? ⟨g,1,none⟩=false∧w.frozen? ⟨g,2,none⟩=false∧w.frozen? ⟨g,3,none⟩=false∧w.frozen? ⟨g,4,none⟩=false:=⟨⟨h.cell 0,h.cell 1,h.cell 2,h.cell 3,h.cell 4⟩,⟨h.frozen 0,h.frozen 1,h.frozen 2,h.frozen 3,h.frozen 4⟩⟩
theorem ak.c6{w:World}{g:Nat}{t:TypeId}{x0 x1 x2 x3 x4 x5:Value}(h:ak w g t #[x0,x1,x2,x3,x4,x5]):(w.cell? ⟨g,0,none⟩=some x0∧w.cell? ⟨g,1,none⟩=some x1∧w.cell? ⟨g,2,none⟩=some x2∧w.cell? ⟨g,3,none⟩=some x3∧w.cell? ⟨g,4,none⟩=some x4∧w.cell? ⟨g,5,none⟩=some x5)∧w.frozen? ⟨g,0,none⟩=false∧w.frozen? ⟨g,1,none⟩=false∧w.frozen? ⟨g,2,none⟩=false∧w.frozen? ⟨g,3,none⟩=false∧w.frozen? ⟨g,4,none⟩=false∧w.frozen? ⟨g,5,none⟩=false:=⟨⟨h.cell 0,h.cell 1,h.cell 2,h.cell 3,h.cell 4,h.cell 5⟩,⟨h.frozen 0,h.frozen 1,h.frozen 2,h.frozen 3,h.frozen 4,h.frozen 5⟩⟩
theorem ak.c7{w:World}{g:Nat}{t:TypeId}{x0 x1 x2 x3 x4 x5 x6:Value}(h:ak w g t #[x0,x1,x2,x3,x4,x5,x6]):(w.cell? ⟨g,0,none⟩=some x0∧w.cell? ⟨g,1,none⟩=some x1∧w.cell? ⟨g,2,none⟩=some x2∧w.cell? ⟨g,3,none⟩=some x3∧w.cell? ⟨g,4,none⟩=some x4∧w.cell? ⟨g,5,none⟩=some x5∧w.cell? ⟨g,6,none⟩=some x6)∧w.frozen? ⟨g,0,none⟩=false∧w.frozen? ⟨g,1,none⟩=false∧w.frozen? ⟨g,2,none⟩=false∧w.frozen? ⟨g,3,none⟩=false∧w.frozen? ⟨g,4,none⟩=false∧w.frozen? ⟨g,5,none⟩=false∧w.frozen? ⟨g,6,none⟩=false:=⟨⟨h.cell 0,h.cell 1,h.cell 2,h.cell 3,h.cell 4,h.cell 5,h.cell 6⟩,⟨h.frozen 0,h.frozen 1,h.frozen 2,h.frozen 3,h.frozen 4,h.frozen 5,h.frozen 6⟩⟩
theorem ak.c8{w:World}{g:Nat}{t:TypeId}{x0 x1 x2 x3 x4 x5 x6 x7:Value}(h:ak w g t #[x0,x1,x2,x3,x4,x5,x6,x7]):(w.cell? ⟨g,0,none⟩=some x0∧w.cell? ⟨g,1,none⟩=some x1∧w.cell? ⟨g,2,none⟩=some x2∧w.cell? ⟨g,3,none⟩=some x3∧w.cell? ⟨g,4,none⟩=some x4∧w.cell? ⟨g,5,none⟩=some x5∧w.cell? ⟨g,6,none⟩=some x6∧w.cell? ⟨g,7,none⟩=some x7)∧w.frozen? ⟨g,0,none⟩=false∧w.frozen? ⟨g,1,none⟩=false∧w.frozen? ⟨g,2,none⟩=false∧w.frozen? ⟨g,3,none⟩=false∧w.frozen? ⟨g,4,none⟩=false∧w.frozen? ⟨g,5,none⟩=false∧w.frozen? ⟨g,6,none⟩=false∧w.frozen? ⟨g,7,none⟩=false:=⟨⟨h.cell 0,h.cell 1,h.cell 2,h.cell 3,h.cell 4,h.cell 5,h.cell 6,h.cell 7⟩,⟨h.frozen 0,h.frozen 1,h.frozen 2,h.frozen 3,h.frozen 4,h.frozen 5,h.frozen 6,h.frozen 7⟩⟩
theorem ak.c9{w:World}{g:Nat}{t:TypeId}{x0 x1 x2 x3 x4 x5 x6 x7 x8:Value}(h:ak w g t #[x0,x1,x2,x3,x4,x5,x6,x7,x8]):(w.cell? ⟨g,0,none⟩=some x0∧w.cell? ⟨g,1,none⟩=some x1∧w.cell? ⟨g,2,none⟩=some x2∧w.cell? ⟨g,3,none⟩=some x3∧w.cell? ⟨g,4,none⟩=some x4∧w.cell? ⟨g,5,none⟩=some x5∧w.cell? ⟨g,6,none⟩=some x6∧w.cell? ⟨g,7,none⟩=some x7∧w.cell? ⟨g,8,none⟩=some x8)∧w.frozen? ⟨g,0,none⟩=false∧w.frozen? ⟨g,1,none⟩=false∧w.frozen? ⟨g,2,none⟩=false∧w.frozen? ⟨g,3,none⟩=false∧w.frozen? ⟨g,4,none⟩=false∧w.frozen? ⟨g,5,none⟩=false∧w.frozen? ⟨g,6,none⟩=false∧w.frozen? ⟨g,7,none⟩=false∧w.frozen? ⟨g,8,none⟩=false:=⟨⟨h.cell 0,h.cell 1,h.cell 2,h.cell 3,h.cell 4,h.cell 5,h.cell 6,h.cell 7,h.cell 8⟩,⟨h.frozen 0,h.frozen 1,h.frozen 2,h.frozen 3,h.frozen 4,h.frozen 5,h.frozen 6,h.frozen 7,h.frozen 8⟩⟩
theorem ak.c10{w:World}{g:Nat}{t:TypeId}{x0 x1 x2 x3 x4 x5 x6 x7 x8 x9:Value}(h:ak w g t #[x0,x1,x2,x3,x4,x5,x6,x7,x8,x9]):(w.cell? ⟨g,0,none⟩=some x0∧w.cell? ⟨g,1,none⟩=some x1∧w.cell? ⟨g,2,none⟩=some x2∧w.cell? ⟨g,3,none⟩=some x3∧w.cell? ⟨g,4,none⟩=some x4∧w.cell? ⟨g,5,none⟩=some x5∧w.cell? ⟨g,6,none⟩=some x6∧w.cell? ⟨g,7,none⟩=some x7∧w.cell? ⟨g,8,none⟩=some x8∧w.cell? ⟨g,9,none⟩=some x9)∧w.frozen? ⟨g,0,none⟩=false∧w.frozen? ⟨g,1,none⟩=false∧w.frozen? ⟨g,2,none⟩=false∧w.frozen? ⟨g,3,none⟩=false∧w.frozen? ⟨g,4,none⟩=false∧w.frozen? ⟨g,5,none⟩=false∧w.frozen? ⟨g,6,none⟩=false∧w.frozen? ⟨g,7,none⟩=false∧w.frozen? ⟨g,8,none⟩=false∧w.frozen? ⟨g,9,none⟩=false:=⟨⟨h.cell 0,h.cell 1,h.cell 2,h.cell 3,h.cell 4,h.cell 5,h.cell 6,h.cell 7,h.cell 8,h.cell 9⟩,⟨h.frozen 0,h.frozen 1,h.frozen 2,h.frozen 3,h.frozen 4,h.frozen 5,h.frozen 6,h.frozen 7,h.frozen 8,h.frozen 9⟩⟩
theorem ak.c12{w:World}{g:Nat}{t:TypeId}{x0 x1 x2 x3 x4 x5 x6 x7 x8 x9 x10 x11:Value}(h:ak w g t #[x0,x1,x2,x3,x4,x5,x6,x7,x8,x9,x10,x11]):(w.cell? ⟨g,0,none⟩=some x0∧w.cell? ⟨g,1,none⟩=some x1∧w.cell? ⟨g,2,none⟩=some x2∧w.cell? ⟨g,3,none⟩=some x3∧w.cell? ⟨g,4,none⟩=some x4∧w.cell? ⟨g,5,none⟩=some x5∧w.cell? ⟨g,6,none⟩=some x6∧w.cell? ⟨g,7,none⟩=some x7∧w.cell? ⟨g,8,none⟩=some x8∧w.cell? ⟨g,9,none⟩=some x9∧w.cell? ⟨g,10,none⟩=some x10∧w.cell? ⟨g,11,none⟩=some x11)∧w.frozen? ⟨g,0,none⟩=false∧w.frozen? ⟨g,1,none⟩=false∧w.frozen? ⟨g,2,none⟩=false∧w.frozen? ⟨g,3,none⟩=false∧w.frozen? ⟨g,4,none⟩=false∧w.frozen? ⟨g,5,none⟩=false∧w.frozen? ⟨g,6,none⟩=false∧w.frozen? ⟨g,7,none⟩=false∧w.frozen? ⟨g,8,none⟩=false∧w.frozen? ⟨g,9,none⟩=false∧w.frozen? ⟨g,10,none⟩=false∧w.frozen? ⟨g,11,none⟩=false:=⟨⟨h.cell 0,h.cell 1,h.cell 2,h.cell 3,h.cell 4,h.cell 5,h.cell 6,h.cell 7,h.cell 8,h.cell 9,h.cell 10,h.cell 11⟩,⟨h.frozen 0,h.frozen 1,h.frozen 2,h.frozen 3,h.frozen 4,h.frozen 5,h.frozen 6,h.frozen 7,h.frozen 8,h.frozen 9,h.frozen 10,h.frozen 11⟩⟩
theorem aa.up{b:List Nat}{w w':World}(h:aa [] b w w')(fp:List Nat):aa fp fp w w':=h.mono (by simp) (fun _ hk=>.inr (.inl hk))
theorem Own.wW{e e':TypeId}{size amD:Nat}{w:World}{A A':Option Addr}{n n' c c':Nat}{xs xs':List Value}(h:Own e size w A n c xs)(h':Own e' amD w A' n' c' xs')(hne:e≠e'):∀k∈ah A,k∉ah A':=by
 intro k hk hm
 rcases h.2 with⟨hv,_⟩|⟨g,cap,cur,hv,_,hg,_⟩
 ·injection hv with hA;subst hA;simp[ah]at hk
 ·injection hv with hA;subst hA
  rcases h'.2 with⟨hv',_⟩|⟨g',apK,atK,hv',_,hg',_⟩
  ·injection hv' with hA';subst hA';simp[ah]at hm
  ·injection hv' with hA';subst hA'
   simp[ah]at hk hm
   subst hk
   subst hm
   rw[hg]at hg'
   injection hg' with hg'
   injection hg' with _ ht
   exact hne ht
end aA
namespace Go.Proofs.YtijhlbeipglieaaGreat
open Go.RowKit aA List
structure GU(W:World) where
 w:World
 u:aa [] [] W w
instance (W:World):Inhabited (GU W):=⟨⟨W,aa.refl [] W⟩⟩
theorem dx{P:Program}{id:Nat}{Q:Exit→Act→World→Prop}{a:Act}{w:World}{l:List Oper}(hm:P.follows .mixedOrders=true)(hB:Region.lexB .any l.toArray=true)(h:wpQuiet P l.toArray (fun w'=>∃p:GU w,w'=p.w) (fun a'=>∀w',(∃p:GU w,w'=p.w)→Q .normal a' w') l a):(Code.region id l.toArray true).wp P Q a w:=
 wp_region_quiet (C:=fun w'=>∃p:GU w,w'=p.w) hm hB ⟨⟨_,(aa.refl [] w).drew⟩,rfl⟩ (by simpa using h)
theorem GU.call{P:Program}{f:FuncId}{args:Array Value}{w:World}{v:Value}(p:GU w)(h:Calls P f args p.w fun e w'=>e=.returned v∧aa [] [] p.w w'):Calls P f args p.w fun e w''=>e=.returned v∧∃q:GU w,w''=q.w:=
 h.mono fun _ _ ⟨he,hu⟩=>⟨he,⟨⟨_,p.u.trans hu⟩,rfl⟩⟩
end Go.Proofs.YtijhlbeipglieaaGreat
namespace aA
open Go Go.RowKit List
theorem az(w:World)(t1:TypeId)(c1:Array Value) :
  ∃W g1,w.alloc (.cells c1 t1)=W∧w.heap.size=g1∧ak W g1 t1 c1∧aa [] [g1] w W:=
 ⟨_,_,rfl,rfl,ak.new _ _ _,((aa.refl [] w).alloc _).gives⟩
theorem vY(w:World)(t1 t2:TypeId)(c1 c2:Array Value) :
  ∃W g1 g2,(w.alloc (.cells c1 t1)).alloc (.cells c2 t2)=W∧w.heap.size=g1∧g1+1=g2∧ak W g1 t1 c1∧ak W g2 t2 c2∧aa [] [g1,g2] w W:=by
 have h2:=ak.new (w.alloc (.cells c1 t1)) t2 c2
 rw[World.size_alloc]at h2
 exact⟨_,_,_,rfl,rfl,rfl,(ak.new _ _ _).alloc _,h2,(((aa.refl [] w).alloc _).alloc _).gives⟩
theorem G5(w:World)(t1 t2 t3:TypeId)(c1 c2 c3:Array Value) :
  ∃W g1 g2 g3,((w.alloc (.cells c1 t1)).alloc (.cells c2 t2)).alloc (.cells c3 t3)=W∧w.heap.size=g1∧g1+1=g2∧g2+1=g3∧
   ak W g1 t1 c1∧ak W g2 t2 c2∧ak W g3 t3 c3∧aa [] [g1,g2,g3] w W:=by
 have h2:=(ak.new (w.alloc (.cells c1 t1)) t2 c2).alloc (.cells c3 t3)
 have h3:=ak.new ((w.alloc (.cells c1 t1)).alloc (.cells c2 t2)) t3 c3
 rw[World.size_alloc]at h2
 rw[World.size_alloc,World.size_alloc]at h3
 exact⟨_,_,_,_,rfl,rfl,rfl,rfl,((ak.new _ _ _).alloc _).alloc _,h2,h3,((((aa.refl [] w).alloc _).alloc _).alloc _).gives (by simp;omega)⟩
theorem aa.add{b b':List Nat}{w w1 w2:World}(h:aa [] b w w1)(k:aa [] b' w1 w2):aa [] (b++b') w w2:=
 h.trans (k.mono (by simp) (by simp only[mem_append];intro x hx;rcases hx with h|h<;>simp[h]))
theorem aa.old{b b':List Nat}{w w1 w2:World}(h:aa [] b w w1)(k:aa [] b' w1 w2):aa [] b w w2:=
 h.trans ((k.gives).mono (b:=[]) (by simp) (fun x hx=>.inr (.inl hx)))
theorem aa.new{a b b':List Nat}{w w1 w2:World}(h:aa a b w w1)(k:aa [] b' w1 w2):∀x∈b',w.heap.size≤x:=fun x hx=>by
 rcases k.fresh x hx with h'|h'
 ·cases h'
 ·have:=h.size;omega
abbrev vK(w:World)(g:Nat)(v0 v1 v2 v3 v4 v5:Value):World:=
 (((((w.setCell ⟨g,0,none⟩ v0).setCell ⟨g,1,none⟩ v1).setCell ⟨g,2,none⟩ v2).setCell ⟨g,3,none⟩ v3).setCell ⟨g,4,none⟩ v4).setCell ⟨g,5,none⟩ v5
theorem mr(w:World)(g:Nat)(v0 v1 v2 v3 v4 v5:Value):aa [g] [g] w (vK w g v0 v1 v2 v3 v4 v5):=
 ((((((aa.refl [g] w).setCell (p:=⟨g,0,none⟩) (.inl (by simp)) v0).setCell (p:=⟨g,1,none⟩) (.inl (by simp)) v1).setCell (p:=⟨g,2,none⟩) (.inl (by simp)) v2).setCell (p:=⟨g,3,none⟩) (.inl (by simp)) v3).setCell (p:=⟨g,4,none⟩) (.inl (by simp)) v4).setCell (p:=⟨g,5,none⟩) (.inl (by simp)) v5
theorem mq{w:World}{g:Nat}{t:TypeId}{x0 x1 x2 x3 x4 x5:Value}(h:ak w g t #[x0,x1,x2,x3,x4,x5])(v0 v1 v2 v3 v4 v5:Value):ak (vK w g v0 v1 v2 v3 v4 v5) g t #[v0,v1,v2,v3,v4,v5]:=
 (((((h.aO 0 v0).aO 1 v1).aO 2 v2).aO 3 v3).aO 4 v4).aO 5 v5
theorem aa.own{a b:List Nat}{w w1 w2:World}{g:Nat}(h:aa a b w w1)(hg:w.heap.size≤g)(k:aa [g] [g] w1 w2):aa a b w w2:=
 ⟨k.os.trans h.os,k.tape.trans h.tape,k.output.trans h.output,Nat.le_trans h.size k.size,fun x hx hn=>(k.block x (Nat.lt_of_lt_of_le hx h.size) (by simp;omega)).trans (h.block x hx hn),h.fresh⟩
theorem ak.tC(H:Nat)(t:TypeId):∀(vs:List Value)(i:Nat)(w:World)(xs ys zs:List Value),ak w H t (xs++ys++zs).toArray→xs.length=i→ys.length=vs.length→ak (w.setCells H i vs) H t (xs++vs++zs).toArray
 |[],i,w,xs,ys,zs,h,_,hl=>by
  obtain rfl:ys= []:=eq_nil_of_length_eq_zero (by simpa using hl)
  exact h
 |v::vs,i,w,xs,[],zs,_,_,hl=>by simp at hl
 |v::vs,i,w,xs,y::ys,zs,h,hi,hl=>by
  have h1:=h.aO i v
  have e:(xs++y::ys++zs).toArray.setIfInBounds i v=((xs++[v])++ys++zs).toArray:=by
   subst hi
   apply Array.ext'
   simp
  rw[e]at h1
  have:=ak.tC H t vs (i+1) _ (xs++[v]) ys zs h1 (by simp[hi]) (by simpa using hl)
  simpa[World.setCells]using this
theorem mH(H:Nat){a b:List Nat}{w0:World} :∀(vs:List Value)(i:Nat)(w:World),aa a b w0 w→(H∈a∨w0.heap.size≤H)→aa a b w0 (w.setCells H i vs)
 |[],_,_,h,_=>h
 |v::vs,i,w,h,hH=>mH H vs (i+1) _ (h.setCell (p:=⟨H,i,none⟩) hH v) hH
theorem Own.block{e:TypeId}{size:Nat}{w:World}{A:Option Addr}{n c:Nat}{xs:List Value}(h:Own e size w A n c xs)(hn:0<n) :
  ∃g cur,A=some ⟨g,0,none⟩∧ak w g e (xs++cur).toArray∧(xs++cur).length=c*size∧n≤c∧c≤maxLen:=by
 rcases h.2 with⟨_,h0⟩|⟨g,cap,cur,hv,hb,hg,hnc,hcm,hcs,htk⟩
 ·omega
 ·injection hv with hA _ hc
  subst hA hc
  have hx:=take_append_drop (n*size) cur.toList
  rw[htk]at hx
  refine⟨g,cur.toList.drop (n*size),rfl,?_,?_,hnc,hcm⟩
  ·rw[hx];exact hg
  ·rw[hx];simpa using hcs
theorem Own.aj1{e:TypeId}{size:Nat}{w:World}{g n c:Nat}{xs cur:List Value}(hB:ak w g e (xs++cur).toArray)(hx:xs.length=n*size)(hl:(xs++cur).length=c*size)(hn:n≤c)(hc:c≤maxLen):Own e size w (some ⟨g,0,none⟩) n c xs:=
 ⟨hx,.inr ⟨g,c,_,rfl,Nat.zero_le _,hB,hn,hc,by simpa using hl,by simp[←hx]⟩⟩
theorem add0(g i:Nat):(⟨g,0,none⟩:Addr).add i=⟨g,i,none⟩:=by unfold Addr.add;split<;>simp_all
theorem Own.del{P:Program}{e t:TypeId}{size bytes:Nat}{z:Value}{w:World}{A:Option Addr}{n c:Nat}{xs:List Value}(ht:P.underlying t=some (.slice e))(hi:(P.info? e).map (fun i=>(i.zero,i.size,i.bytes))=some (some z,size,bytes))(hs:0<size)(h:Own e size w A n c xs){i:Nat}(hin:i<n)(h1:∀u∈xs,u.oneCell'=true)(ty:TypeId)(A2:Option Addr)(hA2:A2=if c=i+1 then A else A.map (fun x=>x.add ((i+1)*size)))(d:Nat) :
  ∃w',(Builtin.append_ #[t,t] ty #[.slice A i c,.slice A2 (n-(i+1)) d]).run P w=.ok (.slice A (n-1) c) w'∧aa (ah A) (ah A) w w'∧
   (∀(zs:List Value),zs.length=size→(∀u∈zs,u.oneCell'=true)→∀ad,A=some ad→(storeCells (ad.add ((n-1)*size)) zs 0).run P w'=.ok () (w'.setCells ad.block ((n-1)*size) zs)∧
    Own e size (w'.setCells ad.block ((n-1)*size) zs) A (n-1) c (xs.take (i*size)++xs.drop ((i+1)*size))∧aa (ah A) (ah A) w (w'.setCells ad.block ((n-1)*size) zs)):=by
 obtain⟨ii,hii,hz,afX,hby⟩:=info_parts hi
 obtain⟨g,cur,rfl,hB,hlen,hnc,hcm⟩:=h.block (by omega)
 have hxl:=h.len
 have e1:(i+1)*size=i*size+size:=by rw[Nat.add_mul];simp
 have e2:n*size=i*size+(size+(n-(i+1))*size):=by
  rw[←Nat.add_assoc,←e1,←Nat.add_mul];congr 1;omega
 have e3:(n-1)*size=i*size+(n-(i+1))*size:=by rw[←Nat.add_mul];congr 1;omega
 have e4:n*size=(n-1)*size+size:=by omega
 have hnl:(xs.drop ((i+1)*size)).length=(n-(i+1))*size:=by rw[length_drop,hxl];omega
 have htl:(xs.take (i*size)).length=i*size:=by rw[length_take,hxl];omega
 have hm:∀u∈xs.drop ((i+1)*size),u.oneCell'=true:=fun u hu=>h1 u (mem_of_mem_drop hu)
 have acM:∀k,k<n*size→(w.cell? ⟨g,k,none⟩).isSome=true:=fun k hk=>by rw[hB.cell];simp;omega
 have hfr:∀k,w.frozen? ⟨g,k,none⟩=false:=fun k=>hB.frozen k
 have hd:∀j u,(xs.drop ((i+1)*size))[j]? =some u→w.cell? ⟨g,(i+1)*size+j,none⟩=some u:=fun j u hu=>by
  rw[hB.cell,List.getElem?_toArray,List.getElem?_append_left (by
   have:=(List.getElem?_eq_some_iff.1 hu).1
   rw[hnl]at this;rw[hxl];omega)]
  rwa [List.getElem?_drop]at hu
 -- the block behind the append
 have hsp:xs++cur=xs.take (i*size)++(xs.drop (i*size)).take ((n-(i+1))*size)++((xs.drop (i*size)).drop ((n-(i+1))*size)++cur):=by
  rw[←append_assoc,append_assoc (xs.take (i*size)),take_append_drop,take_append_drop]
 have hB2:=hB
 rw[hsp]at hB2
 have hB3:=ak.tC g e (xs.drop ((i+1)*size)) (i*size) w _ _ _ hB2 htl (by rw[length_take,length_drop,hxl,hnl];omega)
 have U3:aa (ah (some ⟨g,0,none⟩)) (ah (some ⟨g,0,none⟩)) w (w.setCells g (i*size) (xs.drop ((i+1)*size))):=mH g _ _ _ (aa.refl _ _) (.inl (by simp[ah]))
 refine⟨w.setCells g (i*size) (xs.drop ((i+1)*size)),?_,U3,?_⟩
 ·have abS:∀a:Addr,(∀j u,(xs.drop ((i+1)*size))[j]? =some u→w.cell? (a.add j)=some u)→
    (Builtin.append_ #[t,t] ty #[.slice (some ⟨g,0,none⟩) i c,.slice (some a) (n-(i+1)) d]).run P w=.ok (.slice (some ⟨g,0,none⟩) (n-1) c) (w.setCells g (i*size) (xs.drop ((i+1)*size))):=fun a ha=>by
   have:=run_append_room_cells (P:=P) w t ty e ii ht hii g 0 i c a (n-(i+1)) d _ (by rw[afX];exact hnl) ha hm (by omega)
    (fun j hj=>by rw[afX,Nat.zero_add];exact acM _ (by rw[hnl]at hj;omega)) (fun j _=>hfr _)
   rw[afX,Nat.zero_add,show i+(n-(i+1))=n-1 by omega]at this
   exact this
  by_cases hci:c=i+1
  ·rw[if_pos hci]at hA2
   subst hA2
   have hdU:xs.drop ((i+1)*size)= []:=drop_eq_nil_of_le (by rw[hxl,←hci];exact Nat.mul_le_mul_right _ hnc)
   exact abS _ (fun j u hu=>by rw[hdU]at hu;simp at hu)
  ·rw[if_neg hci]at hA2
   subst hA2
   refine abS _ (fun j u hu=>?_)
   rw[wS,add0]
   exact hd j u hu
 ·intro zs hzl hz1 ad had
  injection had with had
  subst had
  have hcs:(xs.take (i*size)++xs.drop ((i+1)*size)).length=(n-1)*size:=by rw[length_append,htl,hnl];omega
  have hrl:((xs.drop (i*size)).drop ((n-(i+1))*size)).length=size:=by rw[length_drop,length_drop,hxl];omega
  have hc3:∀k,k<n*size→((w.setCells g (i*size) (xs.drop ((i+1)*size))).cell? ⟨g,k,none⟩).isSome=true:=fun k hk=>by
   rw[hB3.cell];simp only[List.getElem?_toArray,←append_assoc]
   rw[List.getElem?_eq_getElem (by simp only[length_append,htl,hnl,hrl];omega)];rfl
  rw[←append_assoc]at hB3
  have hB4:=ak.tC g e zs ((n-1)*size) _ (xs.take (i*size)++xs.drop ((i+1)*size)) ((xs.drop (i*size)).drop ((n-(i+1))*size)) cur (by simpa[append_assoc]using hB3) hcs (by rw[hrl,hzl])
  refine⟨?_,?_,mH g _ _ _ U3 (.inl (by simp[ah]))⟩
  ·have:=run_storeCells_cells (P:=P) g ((n-1)*size) zs 0 (w.setCells g (i*size) (xs.drop ((i+1)*size))) (fun j hj=>hc3 _ (by omega)) (fun j _=>by rw[World.frozen?_setCells];exact hfr _) hz1
   rw[add0]
   simpa using this
  ·rw[append_assoc]at hB4
   refine Own.aj1 hB4 hcs ?_ (by omega) hcm
   rw[length_append,hcs,length_append,hzl,←hlen,length_append,hxl]
   omega
theorem Own.write{e:TypeId}{size:Nat}{w:World}{A:Option Addr}{n c:Nat}{xs:List Value}(h:Own e size w A n c xs){k:Nat}(hk:k<n*size)(v:Value) :
  ∃g,A=some ⟨g,0,none⟩∧w.frozen? ⟨g,k,none⟩=false∧Own e size (w.setCell ⟨g,k,none⟩ v) A n c (xs.set k v)∧aa (ah A) (ah A) w (w.setCell ⟨g,k,none⟩ v):=by
 rcases h.2 with⟨_,hn⟩|⟨g,cap,cur,hv,hb,hg,hnc,hcm,hcs,htk⟩
 ·subst hn;simp at hk
 ·injection hv with hA _ hc
  subst hA hc
  have hB:ak w g e cur:=hg
  have h':=hB.aO k v
  refine⟨g,rfl,hB.frozen k,⟨by rw[length_set];exact h.len,.inr ⟨g,c,_,rfl,hb,h',hnc,hcm,by simpa using hcs,?_⟩⟩,(aa.refl _ _).setCell (.inl (by simp[ah])) _⟩
  rw[Array.toList_setIfInBounds,take_set,htk]
theorem qo{P:Program}{ops:Array Oper}{o:Oper}{a:Act}{w:World}{K:Act→World→Prop}{Q:Exit→Act→World→Prop}{E:Prop}(hg:o.guard=none)(s x:Operand)(t:TypeId)(hop:o.op=Op.call {callee:=Callee.builtin Builtin.append,args:=#[s,x],argTypes:=#[t,t]})(vs vx v:Value)(w':World)(hs:a.eval s=vs)(hx:a.eval x=vx)(abS:(Builtin.append_ #[t,t] o.type #[vs,vx]).run P w=.ok v w')(hK:K (a.put o.dst v) w') :
  if Region.wanted o (yielded ops a.tmps)=true then Oper.wp P o a w K Q else E:=by
 have hw:Region.wanted o (yielded ops a.tmps)=true:=by simp[Region.wanted,hg]
 rw[if_pos hw]
 unfold Oper.wp
 simp[execOp,hop,resolve,invoke,builtin,hs,hx,abS,Result.andThen]
 exact hK
abbrev wX(w:World)(g:Nat)(v0 v1 v2 v3 v4 v5 v6 v7 v8 v9:Value):World:=(((((((((w.setCell ⟨g,0,none⟩ v0).setCell ⟨g,1,none⟩ v1).setCell ⟨g,2,none⟩ v2).setCell ⟨g,3,none⟩ v3).setCell ⟨g,4,none⟩ v4).setCell ⟨g,5,none⟩ v5).setCell ⟨g,6,none⟩ v6).setCell ⟨g,7,none⟩ v7).setCell ⟨g,8,none⟩ v8).setCell ⟨g,9,none⟩ v9
theorem qR(w:World)(g:Nat)(v0 v1 v2 v3 v4 v5 v6 v7 v8 v9:Value):aa [g] [g] w (wX w g v0 v1 v2 v3 v4 v5 v6 v7 v8 v9):=(((((((((((aa.refl [g] w).setCell (p:=⟨g,0,none⟩) (.inl (by simp)) v0).setCell (p:=⟨g,1,none⟩) (.inl (by simp)) v1).setCell (p:=⟨g,2,none⟩) (.inl (by simp)) v2).setCell (p:=⟨g,3,none⟩) (.inl (by simp)) v3).setCell (p:=⟨g,4,none⟩) (.inl (by simp)) v4).setCell (p:=⟨g,5,none⟩) (.inl (by simp)) v5).setCell (p:=⟨g,6,none⟩) (.inl (by simp)) v6).setCell (p:=⟨g,7,none⟩) (.inl (by simp)) v7).setCell (p:=⟨g,8,none⟩) (.inl (by simp)) v8).setCell (p:=⟨g,9,none⟩) (.inl (by simp)) v9)
theorem qU{w:World}{g:Nat}{t:TypeId}{x0 x1 x2 x3 x4 x5 x6 x7 x8 x9:Value}(h:ak w g t #[x0,x1,x2,x3,x4,x5,x6,x7,x8,x9])(v0 v1 v2 v3 v4 v5 v6 v7 v8 v9:Value):ak (wX w g v0 v1 v2 v3 v4 v5 v6 v7 v8 v9) g t #[v0,v1,v2,v3,v4,v5,v6,v7,v8,v9]:=by
 have K:=((((((((((h.aO 0 v0).aO 1 v1).aO 2 v2).aO 3 v3).aO 4 v4).aO 5 v5).aO 6 v6).aO 7 v7).aO 8 v8).aO 9 v9)
 simp only[setIfInBounds_toArray,set_cons_zero,set_cons_succ]at K
 exact K
abbrev Ho(w:World)(g:Nat)(v0 v1 v2 v3 v4 v5 v6:Value):World:=((((((w.setCell ⟨g,0,none⟩ v0).setCell ⟨g,1,none⟩ v1).setCell ⟨g,2,none⟩ v2).setCell ⟨g,3,none⟩ v3).setCell ⟨g,4,none⟩ v4).setCell ⟨g,5,none⟩ v5).setCell ⟨g,6,none⟩ v6
theorem SH(w:World)(g:Nat)(v0 v1 v2 v3 v4 v5 v6:Value):aa [g] [g] w (Ho w g v0 v1 v2 v3 v4 v5 v6):=((((((((aa.refl [g] w).setCell (p:=⟨g,0,none⟩) (.inl (by simp)) v0).setCell (p:=⟨g,1,none⟩) (.inl (by simp)) v1).setCell (p:=⟨g,2,none⟩) (.inl (by simp)) v2).setCell (p:=⟨g,3,none⟩) (.inl (by simp)) v3).setCell (p:=⟨g,4,none⟩) (.inl (by simp)) v4).setCell (p:=⟨g,5,none⟩) (.inl (by simp)) v5).setCell (p:=⟨g,6,none⟩) (.inl (by simp)) v6)
theorem SI{w:World}{g:Nat}{t:TypeId}{x0 x1 x2 x3 x4 x5 x6:Value}(h:ak w g t #[x0,x1,x2,x3,x4,x5,x6])(v0 v1 v2 v3 v4 v5 v6:Value):ak (Ho w g v0 v1 v2 v3 v4 v5 v6) g t #[v0,v1,v2,v3,v4,v5,v6]:=by
 have K:=(((((((h.aO 0 v0).aO 1 v1).aO 2 v2).aO 3 v3).aO 4 v4).aO 5 v5).aO 6 v6)
 simp only[setIfInBounds_toArray,set_cons_zero,set_cons_succ]at K
 exact K
abbrev sw(w:World)(g:Nat)(v0 v1 v2 v3 v4 v5 v6:Value):World:=((((((w.setCell ⟨g,5,none⟩ v0).setCell ⟨g,6,none⟩ v1).setCell ⟨g,7,none⟩ v2).setCell ⟨g,8,none⟩ v3).setCell ⟨g,9,none⟩ v4).setCell ⟨g,10,none⟩ v5).setCell ⟨g,11,none⟩ v6
theorem EM(w:World)(g:Nat)(v0 v1 v2 v3 v4 v5 v6:Value):aa [g] [g] w (sw w g v0 v1 v2 v3 v4 v5 v6):=((((((((aa.refl [g] w).setCell (p:=⟨g,5,none⟩) (.inl (by simp)) v0).setCell (p:=⟨g,6,none⟩) (.inl (by simp)) v1).setCell (p:=⟨g,7,none⟩) (.inl (by simp)) v2).setCell (p:=⟨g,8,none⟩) (.inl (by simp)) v3).setCell (p:=⟨g,9,none⟩) (.inl (by simp)) v4).setCell (p:=⟨g,10,none⟩) (.inl (by simp)) v5).setCell (p:=⟨g,11,none⟩) (.inl (by simp)) v6)
theorem EN{w:World}{g:Nat}{t:TypeId}{y0 y1 y2 y3 y4 x0 x1 x2 x3 x4 x5 x6:Value}(h:ak w g t #[y0,y1,y2,y3,y4,x0,x1,x2,x3,x4,x5,x6])(v0 v1 v2 v3 v4 v5 v6:Value):ak (sw w g v0 v1 v2 v3 v4 v5 v6) g t #[y0,y1,y2,y3,y4,v0,v1,v2,v3,v4,v5,v6]:=by
 have K:=(((((((h.aO 5 v0).aO 6 v1).aO 7 v2).aO 8 v3).aO 9 v4).aO 10 v5).aO 11 v6)
 simp only[setIfInBounds_toArray,set_cons_zero,set_cons_succ]at K
 exact K
theorem aF{P : Program}{md : Region.Mode}{ops : Array Oper}{Q : Exit → Act → World → Prop}{S : World → Prop}{oi : Oper}{v : Value}{fuel : Nat}{listed : Array Bool}{a a2 : Act}{w : World}(i : Nat)(h : wpAnyH P md ops Q S fuel (listed.setIfInBounds i true) a2 w)(hi : ops[i]? = some oi := by rfl)(hs : Region.noSelect ops = true := by kernel_rfl)(hf : Region.free md ops listed i = true := by kernel_rfl)(hr : (Region.ready md ops listed).contains i = true := by kernel_rfl)(hy : YieldsIf P ops S oi v a := by exact Or.inl ⟨by first|rfl|kernel_rfl, by intro w hSw; (try dsimp only at hSw); go_simp; (try (with_reducible rfl))⟩)(hQ : ∀ c a w, Q (.panic c) (a.put oi.dst v) w → Q (.panic c) a w := by exact fun _ _ _ h => h)(hS : S w := by assumption)(ha : a.put oi.dst v = a2 := by simp only[Act.put, getElem_toArray, getElem_cons_succ, getElem_cons_zero, setIfInBounds_toArray, set_cons_zero, set_cons_succ]; rfl) : wpAnyH P md ops Q S (fuel+1) listed a w :=
 wpAnyH_take hi hs hf hr hQ hy hS (ha ▸ h)
section
variable {P : Program} {md : Region.Mode} {ops : Array Oper} {Q : Exit → Act → World → Prop} {S : World → Prop} {fuel : Nat} {listed : Array Bool} {a a2 : Act} {w : World} {K : Act → World → Prop}
theorem aP(hK : Shut (∀ a w, S w → (S w → wpAnyH P md ops Q S fuel listed a w) → K a w))(hS : S w)(h : S w → wpAnyH P md ops Q S fuel listed a2 w)(ha : a = a2 := by(first|(simp only[Act.put, getElem_toArray, getElem_cons_succ, getElem_cons_zero, setIfInBounds_toArray, set_cons_zero, set_cons_succ]; rfl)|rfl)) : K a w := hK.out a w hS (fun hw => ha ▸ h hw)
theorem aW(i : Nat){o : Oper}(h : ∀ K' : Act → World → Prop, Shut (∀ a w, S w → (S w → wpAnyH P md ops Q S fuel (listed.setIfInBounds i true) a w) → K' a w) → if Region.wanted o (yielded ops a.tmps) = true then Oper.wp P o a w K' Q else K' (a.put o.dst undef) w)(ho : ops[i]? = some o := by rfl)(hr : Region.ready md ops listed = [i] := by kernel_rfl) : wpAnyH P md ops Q S (fuel+1) listed a w := wpAnyH_ready hr (by simp) (AllReadyH.cons ho h AllReadyH.nil)
end
abbrev cz : Array Value := #[.int .i64 0,.int .i64 0,.int .i64 0,.bool false,.slice none 0 0,.int .i64 0,.slice none 0 0,.slice none 0 0,.int .i64 0,.slice none 0 0,.int .i64 0,.int .i64 0,.int .i64 0,.int .i64 0,.int .i64 0,.int .i64 0,.int .i64 0,.int .i64 0,.int .i64 0,.int .i64 0,.int .i64 0,.slice none 0 0]
theorem wk{p q:Prop}(k:q)(h:q→p:=by intro k0;(repeat' (first|go_values|go_skip|go_guarded|go_step|go_upon|simp only[];go_at_K));exact k0):p:=h k
theorem bN{p q:Prop}(k:q)(h:q→p:=by intro k0;(repeat' ((fail_if_success with_reducible refine Ag rfl ?_);first|go_values|go_skip|go_guarded|go_step|go_upon|simp only[];go_at_K));exact k0):p:=h k
theorem wr(x:Int)(h:-9223372036854775808≤x∧x<9223372036854775808:=by omega):IntKind.i64.wrap x=x:=by rw[IntKind.wrap_i64];omega
theorem ex1{α:Sort _}(x:α):∃y,x=y:=⟨x,rfl⟩
theorem dnH{P:Program}{md:Region.Mode}{ops:Array Oper}{Q:Exit→Act→World→Prop}{S:World→Prop}{listed:Array Bool}{a:Act}{w:World}(h:Q .normal a w)(fuel:Nat)(hr:Region.ready md ops listed= []:=by kernel_rfl):wpAnyH P md ops Q S fuel listed a w:=wpAnyH_done hr h fuel
theorem enR{P:Program}{fn:Func}{R:Ending→World→Prop}{a:Act}{w:World}(hR:R (.returned (.tuple #[])) w)(hf:fn.results=#[]:=by rfl)(hd:a.defers= []:=by rfl):bodyPost P fn R .normal a w:=bodyPost_end (results_none hf _ _ _) hd hR
theorem enT{P:Program}{fn:Func}{R:Ending→World→Prop}{a:Act}{w:World}(hR:R (.returned (.tuple #[])) w)(hf:fn.results=#[]:=by rfl)(hd:a.defers= []:=by rfl):bodyPost P fn R .ret a w:=bodyPost_ret (results_none hf _ _ _) hd hR
theorem ge1{n g:Nat}(h:n≤g:=by omega):∀k∈[g],n≤k:=by simp only[mem_singleton];rintro k rfl;exact h
theorem ge2{n g f:Nat}(h:n≤g∧n≤f:=by omega):∀k∈[g,f],n≤k:=by simp only[mem_cons,not_mem_nil,or_false];rintro k (rfl|rfl);exact h.1;exact h.2
theorem dFo{p:Prop}[Decidable p](h:¬p:=by omega):decide p=false:=decide_eq_false h
theorem dTo{p:Prop}[Decidable p](h:p:=by omega):decide p=true:=decide_eq_true h
theorem dFx{p:Prop}[Decidable p](h:¬p):decide p=false:=decide_eq_false h
theorem dTx{p:Prop}[Decidable p](h:p):decide p=true:=decide_eq_true h
theorem hdn{p:Prop}(h:p):Go.RowKit.Hid p:=h
theorem aa.g0{a b:List Nat}{w w':World}(h:aa a b w w'):aa a [] w w':=h.gives (by simp)
