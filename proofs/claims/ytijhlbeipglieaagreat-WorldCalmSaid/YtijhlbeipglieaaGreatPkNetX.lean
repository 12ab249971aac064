/- For WorldCalm. -/
import Derived.Test.YtijhlbeipglieaaGreatNet4
import Derived.Test.YtijhlbeipglieaaGreatFrame5
import Derived.Test.YtijhlbeipglieaaGreatPkAlog
set_option linter.all false
set_option maxRecDepth 100000
set_option maxHeartbeats 8000000
namespace Go.Proofs.YtijhlbeipglieaaGreat
open Go.RowKit aL Tryz List
theorem TV{l:List Nat}(h:l.length=9):∃n0 n1 n2 n3 n4 n5 n6 n7 n8:Nat,l= [n0,n1,n2,n3,n4,n5,n6,n7,n8]:=by
 match l,h with
 |[a,b,c,d,e,f,g,i,j],_=>exact⟨a,b,c,d,e,f,g,i,j,rfl⟩
theorem QB{bi:List UInt8}{n0 n1 n2 n3 n4 n5 n6 n7 n8 a:Nat}(hn:jK bi sh 0=some ([n0,n1,n2,n3,n4,n5,n6,n7,n8],a))(h8:1<n8):pF bi=none:=by
 refine px fun m hm=>?_
 obtain⟨v,k,bad,ht⟩:∃v k bad,tk 2048 (bi.drop a)=(v,k,bad):=⟨_,_,_,rfl⟩
 have hb:=Az hn ht
 by_cases hc:bad=0∧a+k=bi.length
 ·rw[if_pos hc]at hb
  have:=((Ch hb).2 m hm).1
  omega
 ·rw[if_neg hc]at hb
  exact rI hb m hm
theorem Ci{W w:World}{H:Nat}{t:TypeId}{cs:Array Value}(vs:List Value)(hH:aQ W H t cs)(hl:cs.size=vs.length)(U:ab [] [] w W)(hHn:w.heap.size≤H) :
  aQ (setRow W H 0 vs) H t vs.toArray∧ab [] [] w (setRow W H 0 vs):=ku vs hH hl U (.inr hHn)
structure Pk where
 to:Int
 A:Option Addr
 n:Nat
 c:Nat
 b:List UInt8
def Pk.cells(x:Pk):List Value:=[.int .i64 x.to,.slice x.A x.n x.c]
theorem Pk.iP(x:Pk):x.cells.length=2:=rfl
theorem Pk.one(l:List Pk):∀u∈l.flatMap Pk.cells,u.oneCell'=true:=by
 intro u hu
 obtain⟨x,_,hx⟩:=mem_flatMap.1 hu
 simp only[Pk.cells,mem_cons,not_mem_nil,or_false]at hx
 rcases hx with rfl|rfl<;>rfl
theorem Fl:(prog.info? 315).map (fun i=>(i.zero,i.size,i.bytes))=some (some (.agg #[.int .i64 0,.slice none 0 0]),2,32):=by kernel_rfl
structure TW(e:TypeId)(w:World)(A:Option Addr)(n c:Nat)(xs:List Value):Prop where
 cap:c=n
 rd:Rd w 2 A n xs
 aO:∃g cur,A=some ⟨g,0,none⟩∧w.heap[g]? =some (.cells cur e (0,0))
structure gP(w:World)(A:Option Addr)(n c:Nat)(l:List Pk):Prop where
 len:n=l.length
 row:aL.Own 315 2 w A n c (l.flatMap Pk.cells)∨TW 315 w A n c (l.flatMap Pk.cells)
section
variable {w w':World} {A:Option Addr} {n c:Nat} {l:List Pk}
theorem gP.nil(w:World):gP w none 0 0 []:=⟨rfl,.inl (Own.nil _ _ _)⟩
theorem gP.rd(h:gP w A n c l):Rd w 2 A n (l.flatMap Pk.cells):=by
 rcases h.row with h1|h1
 ·exact h1.rd
 ·exact h1.rd
theorem gP.rdS(h:gP w A n c l):jq Pk.cells 2 w A n l:=⟨h.len,h.rd⟩
theorem gP.le(h:gP w A n c l):n≤c:=by
 rcases h.row with h1|h1
 ·exact h1.cap.1
 ·rw[h1.cap];exact Nat.le_refl _
theorem gP.lt(h:gP w A n c l):∀k∈ak A,k<w.heap.size:=by
 rcases h.row with h1|h1
 ·exact h1.lt
 ·obtain⟨g,cur,rfl,hg⟩:=h1.aO
  intro k hk;simp[ak]at hk;subst hk;exact(Array.getElem?_eq_some_iff.1 hg).1
theorem gP.block(h:gP w A n c l):∀k∈ak A,∃cur,w.heap[k]? =some (.cells cur 315 (0,0)):=by
 rcases h.row with h1|h1
 ·intro k hk
  rcases h1.2 with⟨hv,_⟩|⟨g,cap,cur,hv,_,hg,_⟩
  ·injection hv with hA;subst hA;simp[ak]at hk
  ·injection hv with hA;subst hA;simp[ak]at hk;subst hk;exact⟨cur,hg⟩
 ·obtain⟨g,cur,rfl,hg⟩:=h1.aO
  intro k hk;simp[ak]at hk;subst hk;exact⟨cur,hg⟩
theorem gP.aq{a b:List Nat}(h:gP w A n c l)(hu:ab a b w w')(hd:∀k∈ak A,k∉a):gP w' A n c l:=by
 refine⟨h.len,?_⟩
 rcases h.row with h1|h1
 ·exact .inl (h1.aq hu hd)
 ·obtain⟨g,cur,hA,hg⟩:=h1.aO
  exact .inr ⟨h1.cap,h1.rd.aq hu hd,g,cur,hA,(hu.block g (Array.getElem?_eq_some_iff.1 hg).1 (hd g (by simp[hA,ak]))).trans hg⟩
theorem gP.ne(h:gP w A n c l){g:Nat}{t:TypeId}{cs:Array Value}(hb:aQ w g t cs)(hne:t≠315):g∉ak A:=by
 intro hm
 obtain⟨cur,hc⟩:=h.block g hm
 exact aQ.yO hb (cs':=cur) hc hne rfl
theorem gP.apart(h:gP w A n c l){e:TypeId}{size:Nat}{A':Option Addr}{n' c':Nat}{xs:List Value}(ho:Own e size w A' n' c' xs)(hne:e≠315):∀k∈ak A',k∉ak A:=by
 intro k hk hm
 obtain⟨cur,hc⟩:=h.block k hm
 exact ho.ne (g:=k) (cs:=cur) hc hne hk
theorem gP.alloc(h:gP w A n c l)(o:Obj):gP (w.alloc o) A n c l:=h.aq ((ab.refl [] w).alloc o) (by simp)
end
theorem Own.ND{e:TypeId}{size base:Nat}{w:World}{v:Value}{n:Nat}{xs:List Value}(h:w.ownsRow base e size v n xs):(∃A c,v=.slice A n c∧Own e size w A n c xs)∧∀A c,v=.slice A n c→0<n→∀k∈ak A,base≤k:=by
 rcases h.2 with⟨hv,hn⟩|⟨g,cap,cur,hv,hb,rest⟩
 ·subst hn
  refine⟨⟨none,0,hv,⟨h.1,.inl ⟨rfl,rfl⟩⟩⟩,fun A c _ h0=>by omega⟩
 ·refine⟨⟨some ⟨g,0,none⟩,cap,hv,⟨h.1,.inr ⟨g,cap,cur,rfl,Nat.zero_le _,rest⟩⟩⟩,fun A c oS _ k hk=>?_⟩
  rw[hv]at oS
  injection oS with hA
  subst hA
  simp[ak]at hk
  omega
theorem jz{P:Program}{ops:Array Oper}{o:Oper}{a:Act}{w:World}{K:Act→World→Prop}{Q:Exit→Act→World→Prop}{E:Prop}(hg:o.guard=none)(s x:Operand)(t:TypeId)(hop:o.op=Op.call {callee:=Callee.builtin Builtin.append,args:=#[s,x],argTypes:=#[t,t]})(vs vx v:Value)(w':World)(hs:a.eval s=vs)(hx:a.eval x=vx)(hrun:(Builtin.append_ #[t,t] o.type #[vs,vx]).run P w=.ok v w')(hK:K (a.put o.dst v) w') :
  if Region.wanted o (yielded ops a.tmps)=true then Oper.wp P o a w K Q else E:=by
 have hw:Region.wanted o (yielded ops a.tmps)=true:=by simp[Region.wanted,hg]
 rw[if_pos hw]
 unfold Oper.wp
 simp[execOp,hop,resolve,invoke,builtin,hs,hx,hrun,Result.andThen]
 exact hK
theorem gP.push{w:World}{A:Option Addr}{n c:Nat}{l:List Pk}(h:gP w A n c l)(x:Pk)(H _m _d:Nat)(hH:aQ w H 315 x.cells.toArray)(hl:l.length≤5000)(ty:TypeId) :
  ∃A' c' w',(Builtin.append_ #[272,272] ty #[.slice A n c,.slice (some ⟨H,0,none⟩) 1 1]).run prog w=.ok (.slice A' (n+1) c') w'∧gP w' A' (n+1) c' (l++[x])∧ab (ak A) (ak A') w w':=by
 have hn:=h.len
 have hr:Rd w 2 (some ⟨H,0,none⟩) 1 x.cells:=Rd.aO hH rfl
 have XF:(l++[x]).flatMap Pk.cells=l.flatMap Pk.cells++x.cells:=by simp
 rcases h.row with h1|h1
 ·obtain⟨A',c',w',hrun,ho,hu⟩:=lL (P:=prog) w 272 ty 315 underlying272 Fl rfl (by decide) A n c _ h1 (some ⟨H,0,none⟩) 1 1 x.cells hr (by intro u hu;simp only[Pk.cells,mem_cons,not_mem_nil,or_false]at hu;rcases hu with rfl|rfl<;>rfl) (by unfold maxLen;omega) (by omega)
  exact⟨A',c',w',hrun,⟨by simp[hn],.inl (by rw[XF];exact ho)⟩,hu⟩
 ·obtain⟨g,cur,rfl,hg⟩:=h1.aO
  obtain⟨i,hi,hz,hsize,hby⟩:=info_parts Fl
  obtain⟨ad,e,hc⟩:=hr.2 (by omega)
  injection e with e;subst e
  have holds:∀j u,(l.flatMap Pk.cells)[j]? =some u→w.cell? ((⟨g,0,none⟩:Addr).add j)=some u:=by
   intro j u hu
   rcases Nat.eq_zero_or_pos n with h0|h0
   ·have hl0:l= []:=eq_nil_of_length_eq_zero (by omega)
    subst hl0;simp at hu
   ·obtain⟨Vh,e',BF⟩:=h1.rd.2 h0
    injection e' with e';subst e'
    exact BF j u hu
  obtain⟨v',w',hrun,ho,hgr⟩:=run_append_arg_grows (P:=prog) w 272 ty 315 i _ 2 32 underlying272 hi hz hsize hby rfl (by decide) ⟨g,0,none⟩ n c _ h1.rd.1 holds ⟨H,0,none⟩ 1 1 x.cells rfl hc (by rw[h1.cap];omega) (by unfold maxLen;omega) (by omega)
  obtain⟨⟨A',c',rfl,na⟩,hbase⟩:=Own.ND ho
  exact⟨A',c',w',hrun,⟨by simp[hn],.inl (by rw[XF];exact na)⟩,(((ab.refl _ w).grown hgr (fun k h=>by cases h)).gives (fun k hk=>.inr (hbase A' c' rfl (by omega) k hk)))⟩
def er(g:Nat)(A:Option Addr)(l:List Pk):List Nat:=g::(ak A++l.flatMap fun x=>ak x.A)
structure fz(w:World)(g:Nat)(A:Option Addr)(n c:Nat)(l:List Pk):Prop where
 aO:aQ w g 274 #[.slice A n c]
 row:gP w A n c l
 each:∀x∈l,bW 5 w x.A x.n x.c x.b
 fB:l.Pairwise fun x y=>∀k∈ak x.A,k∉ak y.A
 le:l.length≤4096
section
variable {w w':World} {g:Nat} {A:Option Addr} {n c:Nat} {l:List Pk}
theorem fz.aq{a b:List Nat}(h:fz w g A n c l)(hu:ab a b w w')(hd:∀k∈er g A l,k∉a):fz w' g A n c l:=
 ⟨h.aO.aq hu (hd g (by simp[er])),h.row.aq hu (fun k hk=>hd k (by simp[er,hk])),fun x hx=>(h.each x hx).aq hu (fun k hk=>hd k (by simp only[er,mem_cons,mem_append,mem_flatMap];exact .inr (.inr ⟨x,hx,hk⟩))),h.fB,h.le⟩
theorem fz.aN{b:List Nat}(h:fz w g A n c l)(hu:ab [] b w w'):fz w' g A n c l:=h.aq hu (by simp)
theorem fz.len(h:fz w g A n c l):n=l.length:=h.row.len
theorem fz.lt(h:fz w g A n c l):∀k∈er g A l,k<w.heap.size:=by
 intro k hk
 simp only[er,mem_cons,mem_append,mem_flatMap]at hk
 rcases hk with rfl|hk|⟨x,hx,hk⟩
 ·exact h.aO.lt
 ·exact h.row.lt k hk
 ·exact(h.each x hx).own.lt k hk
end
theorem XG(w:World):Calls prog 106 #[] w fun e w'=>∃g,e=.returned (.pointer (some ⟨g,0,none⟩))∧fz w' g none 0 0 []∧ab [] (er g none []) w w':=by
 go_enter func106,ntmps106
 refine wk ?_
 go_ret
 exact⟨w.heap.size,rfl,⟨aQ.new _ _ _,(gP.nil w).alloc _,by simp,.nil,by simp⟩,((ab.refl [] w).alloc _).gives (by simp[er,ak])⟩
def dh(n:Nat)(i:Int):Bool:=decide (0≤i)&&decide (i<(n:Int))
theorem qT(w:World)(g:Nat)(A:Option Addr)(n c:Nat)(l:List Pk)(h:fz w g A n c l)(i:Int) :
  Calls prog 232 #[.pointer (some ⟨g,0,none⟩),.int .i64 i] w fun e w'=>e=.returned (.bool (dh l.length i))∧w=w':=by
 obtain rfl:=h.len
 have q:=h.aO.cell 0
 simp only[List.getElem?_toArray,List.getElem?_cons_zero]at q
 go_enter func232,ntmps232
 repeat' first|go_skip|go_guarded|go_step
 all_goals go_ret
 all_goals exact⟨by simp[dh, *],rfl⟩
theorem fz.push{w w1 w2:World}{g:Nat}{A A':Option Addr}{n c n' c':Nat}{l:List Pk}{x:Pk}(h:fz w g A n c l)(bn:ab [] (ak x.A) w w1)(hx:bW 5 w1 x.A x.n x.c x.b)(hr:gP w2 A' n' c' (l++[x]))(bh:ab (ak A) (ak A') w1 w2)(hl:l.length<4096) :
  fz (w2.setCell ⟨g,0,none⟩ (.slice A' n' c')) g A' n' c' (l++[x])∧ab (er g A l) (er g A' (l++[x])) w (w2.setCell ⟨g,0,none⟩ (.slice A' n' c')):=by
 have h1:=h.aN bn
 have Cj:g∉ak A:=h1.row.ne h1.aO (by decide)
 have hb2:=h1.aO.aq bh Cj
 have yu:g∉ak A':=hr.ne hb2 (by decide)
 have ql:ab [g] [g] w2 (w2.setCell ⟨g,0,none⟩ (.slice A' n' c')):=(ab.refl _ _).setCell (.inl (by simp)) _
 have hold:∀y∈l,bW 5 w2 y.A y.n y.c y.b:=fun y hy=>(h1.each y hy).aq bh (h1.row.apart (h1.each y hy).own (by decide))
 have hx2:bW 5 w2 x.A x.n x.c x.b:=hx.aq bh (h1.row.apart hx.own (by decide))
 refine⟨⟨by simpa using hb2.cc 0 (.slice A' n' c'),hr.aq ql (fun k hk=>by simp;rintro rfl;exact yu hk),fun y hy=>?_,?_,by simp;omega⟩,?_⟩
 ·have oh:bW 5 w2 y.A y.n y.c y.b:=by
   rcases mem_append.1 hy with hy|hy
   ·exact hold y hy
   ·obtain rfl:=mem_singleton.1 hy;exact hx2
  exact oh.aq ql (fun k hk=>by simp;rintro rfl;exact oh.own.ne hb2 (by decide) hk)
 ·refine pairwise_append.2 ⟨h.fB,pairwise_singleton _ _,fun y hy z hz=>?_⟩
  obtain rfl:=mem_singleton.1 hz
  intro k hk hm
  have h1:=(h.each y hy).own.lt k hk
  rcases bn.fresh k hm with h2|h2
  ·cases h2
  ·omega
 ·have e1:ab (er g A l) (er g A l++ak x.A) w w1:=bn.mono (by simp) (fun k hk=>by
   rcases mem_append.1 hk with hk|hk
   ·exact .inr (.inl hk)
   ·exact .inl hk)
  have e2:ab (er g A l++ak x.A) (er g A' (l++[x])) w1 w2:=bh.mono (fun k hk=>by simp[er,hk]) (fun k hk=>by
   simp only[er,mem_cons,mem_append,flatMap_append,flatMap_cons,flatMap_nil,append_nil]at hk
   rcases hk with rfl|hk|hk|hk
   ·exact .inr (.inl (by simp[er]))
   ·exact .inl hk
   ·exact .inr (.inl (by simp only[er,mem_cons,mem_append];exact .inl (.inr (.inr hk))))
   ·exact .inr (.inl (by simp only[mem_append];exact .inr hk)))
  exact(e1.trans e2).setCell (.inl (by simp[er])) _
def XH(to:Int)(b:List UInt8)(w:World)(g:Nat)(A:Option Addr)(l:List Pk)(e:Ending)(w':World):Prop:=
 ∃A' n' c' x,e=.returned (.int .i64 0)∧x.to=to∧x.b=b∧fz w' g A' n' c' (l++[x])∧ab (er g A l) (er g A' (l++[x])) w w'
theorem Fm(w:World)(g:Nat)(A:Option Addr)(n c:Nat)(l:List Pk)(h:fz w g A n c l)(to:Int)(B:Option Addr)(m d:Nat)(hs:eo to=true)(hl:4096≤l.length) :
  Calls prog 168 #[.pointer (some ⟨g,0,none⟩),.int .i64 to,.slice B m d] w fun e w'=>e=.returned (.int .i64 5)∧w=w':=by
 have hn:=h.len
 have ng:(4096:Int)≤(n:Int):=by omega
 have q:=h.aO.cell 0
 simp only[List.getElem?_toArray,List.getElem?_cons_zero]at q
 clear hn hl
 go_enter func168,ntmps168
 repeat' go_step
 refine(eK to _).mono ?_;rintro e w1 ⟨rfl,rfl⟩
 refine wk ?_
 go_ret
 exact⟨rfl,rfl⟩
theorem TX(w:World)(g:Nat)(A:Option Addr)(n c:Nat)(l:List Pk)(h:fz w g A n c l)(to:Int)(B:Option Addr)(m d:Nat)(b:List UInt8)(hB:bE w B m b)(hb:b.length≤140737488355328)(hs:eo to=true)(hl:l.length<4096) :
  Calls prog 168 #[.pointer (some ⟨g,0,none⟩),.int .i64 to,.slice B m d] w (XH to b w g A l):=by
 have hn:=h.len
 have ng:(n:Int)<4096:=by omega
 have q:=h.aO.cell 0
 have q':w.drew.cell? ⟨g,0,none⟩=some (.slice A n c):=q
 simp only[List.getElem?_toArray,List.getElem?_cons_zero]at q
 have hBd:bE w.drew B m b:=Rd.drew hB
 have hd:=h.aN (ab.refl [] w).drew
 clear hn
 go_enter func168,ntmps168
 repeat' go_step
 refine(eK to _).mono ?_;rintro e w1 ⟨rfl,rfl⟩
 repeat' first|go_step|simp only[];go_at_K
 go_region_law (first
  |(go_simp;go_at_call 58;(with_reducible refine(di _ B m d b hBd hb).mono ?_);rintro e w2 ⟨A2,k2,c2,rfl,eN,bh⟩;have q2:=bh.cell q' (by simp);have h2:=hd.aN bh;have Hw:=h2.aO.lt)
  |(obtain⟨A3,c3,w3,hrun,hr3,cQ⟩:=(h2.row.alloc (.cells #[.int .i64 to,.slice A2 k2 c2] 315)).push ⟨to,A2,k2,c2,b⟩ w2.heap.size 1 1 (aQ.new _ _ _) (by omega) 272;have hb3:=(h2.aO.alloc (.cells #[.int .i64 to,.slice A2 k2 c2] 315)).aq cQ (h2.row.ne h2.aO (by decide));obtain⟨q3,f3⟩:=hb3.c1;refine jz rfl (.tmp 22) (.tmp 27) 272 rfl (.slice A n c) (.slice (some ⟨w2.heap.size,0,none⟩) 1 1) _ w3 rfl rfl hrun ?_))
 all_goals (refine eH ?_)
 all_goals go_ret
 all_goals
  have P:=h.push (x:=⟨to,A2,k2,c2,b⟩) ((ab.refl [] w).drew.trans bh) eN hr3 (((ab.refl (ak A) w2).alloc _).trans cQ) hl
  exact⟨A3,_,c3,_,rfl,rfl,rfl,P.1,P.2⟩
theorem gP.addr{w:World}{A:Option Addr}{n c:Nat}{l:List Pk}(h:gP w A n c l)(hn:0<n):∃g,A=some ⟨g,0,none⟩:=by
 rcases h.row with h1|h1
 ·obtain⟨g,cap,hv,_⟩:=World.ownsRow.form h1 hn
  injection hv with hA
  exact⟨g,hA⟩
 ·obtain⟨g,_,hA,_⟩:=h1.aO
  exact⟨g,hA⟩
theorem gP.at_{w:World}{A:Option Addr}{n c:Nat}{l:List Pk}(h:gP w A n c l){i:Nat}(hi:i<l.length):∃ad,A=some ad∧w.cell? (ad.add (i*2))=some (.int .i64 l[i].to)∧w.cell? ⟨(ad.add (i*2)).block,(ad.add (i*2)).off+1,none⟩=some (.slice l[i].A l[i].n l[i].c):=by
 obtain⟨ad,e,h0,hj⟩:=h.rdS.at_ Pk.iP hi
 exact⟨ad,e,h0 _ rfl,hj 1 _ (by omega) rfl⟩
theorem gP.del{w:World}{A:Option Addr}{n c:Nat}{l:List Pk}(h:gP w A n c l){i:Nat}(hi:i<l.length)(hl:l.length≤5000)(ty:TypeId)(A2:Option Addr)(zN:A2=if c=i+1 then A else A.map (fun x=>x.add ((i+1)*2)))(d:Nat) :
  ∃A' c' w',(Builtin.append_ #[272,272] ty #[.slice A i i,.slice A2 (n-(i+1)) d]).run prog w=.ok (.slice A' (n-1) c') w'∧gP w' A' (n-1) c' (l.eraseIdx i)∧ab (ak A) (ak A') w w':=by
 have hn:=h.len
 obtain⟨g,rfl⟩:=h.addr (by omega)
 have Fo:=h.rd
 obtain⟨ad,e,hc⟩:=Fo.2 (by omega)
 injection e with e;subst e
 obtain⟨ii,MP,hz,hsize,hby⟩:=info_parts Fl
 have hle:=h.le
 have holds:∀j u,((l.take i).flatMap Pk.cells)[j]? =some u→w.cell? ((⟨g,0,none⟩:Addr).add j)=some u:=by
  intro j u hu
  refine hc j u ?_
  have hsp:l.flatMap Pk.cells=(l.take i).flatMap Pk.cells++(l.drop i).flatMap Pk.cells:=by rw[←flatMap_append,take_append_drop]
  rw[hsp,List.getElem?_append_left (by rcases Nat.lt_or_ge j ((l.take i).flatMap Pk.cells).length with h1|h1;exact h1;rw[List.getElem?_eq_none h1]at hu;cases hu)]
  exact hu
 have hlt:((l.take i).flatMap Pk.cells).length=i*2:=by rw[qp Pk.iP,length_take];congr 1;omega
 have he:l.eraseIdx i=l.take i++l.drop (i+1):=eraseIdx_eq_take_drop_succ l i
 obtain⟨cur,adJ⟩:=h.block g (by simp[ak])
 by_cases hm:n-(i+1)=0
 ·obtain⟨XJ,adK⟩:∃XJ,A2=some XJ:=by rw[zN];split<;>exact⟨_,rfl⟩
  subst adK
  have hrun:=run_append_room_cells (P:=prog) w 272 ty 315 ii underlying272 MP g 0 i i XJ 0 d [] (by simp) (by simp) (by simp) (by omega) (by simp) (by simp)
  refine⟨some ⟨g,0,none⟩,i,w,?_,⟨?_,.inr ⟨by omega,⟨?_,fun _=>⟨_,rfl,?_⟩⟩,g,cur,rfl,adJ⟩⟩,ab.refl _ _⟩
  ·rw[hm,show n-1=i by omega]
   rw[Nat.add_zero]at hrun
   exact hrun
  ·rw[length_eraseIdx,if_pos hi];omega
  ·rw[he,drop_of_length_le (by omega),append_nil,hlt];omega
  ·rw[he,drop_of_length_le (by omega),append_nil];exact holds
 ·have adL:¬ c=i+1:=by omega
  rw[if_neg adL]at zN
  subst zN
  have hnews:∀j u,((l.drop (i+1)).flatMap Pk.cells)[j]? =some u→w.cell? (((⟨g,0,none⟩:Addr).add ((i+1)*2)).add j)=some u:=by
   intro j u hu
   rw[tf]
   refine hc _ u ?_
   have hsp:l.flatMap Pk.cells=(l.take (i+1)).flatMap Pk.cells++(l.drop (i+1)).flatMap Pk.cells:=by rw[←flatMap_append,take_append_drop]
   have fR:((l.take (i+1)).flatMap Pk.cells).length=(i+1)*2:=by rw[qp Pk.iP,length_take];congr 1;omega
   rw[hsp,List.getElem?_append_right (by omega),fR,Nat.add_sub_cancel_left]
   exact hu
  obtain⟨v',w',hrun,ho,hgr⟩:=run_append_arg_grows (P:=prog) w 272 ty 315 ii _ 2 32 underlying272 MP hz hsize hby rfl (by decide) ⟨g,0,none⟩ i i _ hlt holds ((⟨g,0,none⟩:Addr).add ((i+1)*2)) (n - (i+1)) d _ (by rw[qp Pk.iP,length_drop,hn]) hnews (by omega) (by unfold maxLen;omega) (by omega)
  obtain⟨⟨A',c',rfl,na⟩,hbase⟩:=Own.ND ho
  have wZ:i+(n-(i+1))=n-1:=by omega
  rw[wZ]at hrun na hbase
  refine⟨A',c',w',hrun,⟨?_,.inl ?_⟩,((ab.refl _ w).grown hgr (fun k h=>by cases h)).gives (fun k hk=>.inr (hbase A' c' rfl (by omega) k hk))⟩
  ·rw[length_eraseIdx,if_pos hi];omega
  ·rw[he,flatMap_append];exact na
theorem NF(w:World)(g:Nat)(A:Option Addr)(n c:Nat)(l:List Pk)(h:fz w g A n c l)(i:Nat)(hi:i<l.length)(hl:l.length<4096)(hb:l[i].b.length≤140737488355328) :
  Calls prog 178 #[.pointer (some ⟨g,0,none⟩),.int .i64 (i:Int)] w (XH l[i].to l[i].b w g A l):=by
 have hn:=h.len
 have ng:(n:Int)<4096:=by omega
 have lA:(i:Int)<(n:Int):=by omega
 have ht:dh l.length (i:Int)=true:=by unfold dh;simp;omega
 have C:=qT w g A n c l h (i:Int)
 rw[ht]at C
 have q:=h.aO.cell 0
 simp only[List.getElem?_toArray,List.getElem?_cons_zero]at q
 obtain⟨ad,rfl,p0,p1⟩:=h.row.at_ hi
 have hx:=h.each l[i] (getElem_mem hi)
 generalize l[i]=x at *
 have Hw:=h.aO.lt
 clear hn ht hi
 go_enter func178,ntmps178
 repeat' go_step
 refine C.mono ?_;rintro e w1 ⟨rfl,rfl⟩
 repeat' first|go_step|simp only[];go_at_K
 have hT:=aQ.new w 315 #[.int .i64 x.to,.slice x.A x.n x.c]
 have U1:ab [] [] w (w.alloc (.cells #[.int .i64 x.to,.slice x.A x.n x.c] 315)):=(ab.refl _ _).alloc _
 obtain⟨W,hW⟩:=bk (w.alloc (.cells #[.int .i64 x.to,.slice x.A x.n x.c] 315))
 rw[hW]at hT U1 ⊢
 clear hW p0 p1 C q
 have hd:=h.aN U1.drew
 have hx1:bE W.drew x.A x.n x.b:=(hx.aq U1.drew (by simp)).rd
 have NG:aQ W.drew w.heap.size 315 #[.int .i64 x.to,.slice x.A x.n x.c]:=hT
 have q':=hd.aO.cell 0
 simp only[List.getElem?_toArray,List.getElem?_cons_zero]at q'
 obtain⟨⟨t0,t1⟩,-⟩:=NG.c2
 have hUd:=U1.drew
 go_region_law (first
  |(go_simp;go_at_call 58;(with_reducible refine(di _ x.A x.n x.c x.b hx1 hb).mono ?_);rintro e w2 ⟨A2,k2,c2,rfl,eN,bh⟩;have q2:=bh.cell q' (by simp);have s0:=bh.cell t0 (by simp);have s1:=bh.cell t1 (by simp);have h2:=hd.aN bh;have ahI:=h2.aO.lt;have ahJ:=(NG.aq bh (by simp)).lt)
  |(obtain⟨A3,c3,w3,hrun,hr3,cQ⟩:=(h2.row.alloc (.cells #[.int .i64 x.to,.slice A2 k2 c2] 315)).push ⟨x.to,A2,k2,c2,x.b⟩ w2.heap.size 1 1 (aQ.new _ _ _) (by omega) 272;have hb3:=(h2.aO.alloc (.cells #[.int .i64 x.to,.slice A2 k2 c2] 315)).aq cQ (h2.row.ne h2.aO (by decide));obtain⟨q3,f3⟩:=hb3.c1;refine jz rfl (.tmp 27) (.tmp 34) 272 rfl (.slice (some ad) n c) (.slice (some ⟨w2.heap.size,0,none⟩) 1 1) _ w3 rfl rfl hrun ?_))
 all_goals (refine eH ?_)
 all_goals go_ret
 all_goals
  have P:=h.push (x:=⟨x.to,A2,k2,c2,x.b⟩) (hUd.trans bh) eN hr3 (((ab.refl (ak (some ad)) w2).alloc _).trans cQ) hl
  exact⟨A3,_,c3,⟨x.to,A2,k2,c2,x.b⟩,rfl,rfl,rfl,P.1,P.2⟩
theorem Rel.Fp{α:Type}{l:List α}{i:Nat}{x:α}(h:x∈l.eraseIdx i):x∈l:=(eraseIdx_sublist l i).subset h
theorem fz.pull{w w1 w2:World}{g:Nat}{A A':Option Addr}{n c c':Nat}{l:List Pk}{i:Nat}(h:fz w g A n c l)(hi:i<l.length)(bn:ab [] [] w w1)(hr:gP w2 A' (n-1) c' (l.eraseIdx i))(bh:ab (ak A) (ak A') w1 w2) :
  fz (w2.setCell ⟨g,0,none⟩ (.slice A' (n-1) c')) g A' (n-1) c' (l.eraseIdx i)∧bW 5 (w2.setCell ⟨g,0,none⟩ (.slice A' (n-1) c')) l[i].A l[i].n l[i].c l[i].b
   ∧(∀k∈ak l[i].A,k∉er g A' (l.eraseIdx i))∧ab (er g A l) (er g A' (l.eraseIdx i)) w (w2.setCell ⟨g,0,none⟩ (.slice A' (n-1) c')):=by
 have h1:=h.aN bn
 have Cj:g∉ak A:=h1.row.ne h1.aO (by decide)
 have hb2:=h1.aO.aq bh Cj
 have yu:g∉ak A':=hr.ne hb2 (by decide)
 have ql:ab [g] [g] w2 (w2.setCell ⟨g,0,none⟩ (.slice A' (n-1) c')):=(ab.refl _ _).setCell (.inl (by simp)) _
 have hold:∀y∈l,bW 5 w2 y.A y.n y.c y.b:=fun y hy=>(h1.each y hy).aq bh (h1.row.apart (h1.each y hy).own (by decide))
 have oE:∀y∈l,bW 5 (w2.setCell ⟨g,0,none⟩ (.slice A' (n-1) c')) y.A y.n y.c y.b:=fun y hy=>
  (hold y hy).aq ql (fun k hk=>by simp;rintro rfl;exact(hold y hy).own.ne hb2 (by decide) hk)
 have cL:∀y,y∈l.eraseIdx i→y∈l:=fun y hy=>Rel.Fp hy
 have fP:gP (w2.setCell ⟨g,0,none⟩ (.slice A' (n - 1) c')) A' (n - 1) c' (l.eraseIdx i):=hr.aq ql (fun k hk=>by simp;rintro rfl;exact yu hk)
 have qv:aQ (w2.setCell ⟨g,0,none⟩ (.slice A' (n-1) c')) g 274 #[.slice A' (n-1) c']:=by simpa using hb2.cc 0 (.slice A' (n-1) c')
 have hx:=oE l[i] (getElem_mem hi)
 refine⟨⟨qv,fP,fun y hy=>oE y (cL y hy),h.fB.sublist (eraseIdx_sublist l i),?_⟩,hx,?_,?_⟩
 ·have:=h.le;rw[length_eraseIdx,if_pos hi];omega
 ·intro k hk hm
  simp only[er,mem_cons,mem_append,mem_flatMap]at hm
  rcases hm with rfl|hm|⟨y,hy,hm⟩
  ·exact hx.own.ne qv (by decide) hk
  ·exact fP.apart hx.own (by decide) k hk hm
  ·obtain⟨j,hj,rfl⟩:=mem_iff_getElem.1 hy
   rw[length_eraseIdx,if_pos hi]at hj
   rw[getElem_eraseIdx]at hm
   split at hm
   ·have:=pairwise_iff_getElem.1 h.fB j i (by omega) hi (by omega)
    exact this k hm hk
   ·have:=pairwise_iff_getElem.1 h.fB i (j+1) hi (by omega) (by omega)
    exact this k hk hm
 ·have e1:ab (er g A l) (er g A l) w w1:=bn.mono (fun k hk=>by cases hk) (fun k hk=>.inr (.inl hk))
  have e2:ab (er g A l) (er g A' (l.eraseIdx i)) w1 w2:=bh.mono (fun k hk=>by simp[er,hk]) (fun k hk=>by
   simp only[er,mem_cons,mem_append,mem_flatMap]at hk
   rcases hk with rfl|hk|⟨y,hy,hk⟩
   ·exact .inr (.inl (by simp[er]))
   ·exact .inl hk
   ·exact .inr (.inl (by simp only[er,mem_cons,mem_append,mem_flatMap];exact .inr (.inr ⟨y,cL y hy,hk⟩))))
  exact(e1.trans e2).setCell (.inl (by simp[er])) _
def XK(i:Nat)(x:Pk)(w:World)(g:Nat)(A:Option Addr)(l:List Pk)(e:Ending)(w':World):Prop:=
 ∃A' n' c',e=.returned (.tuple #[.int .i64 x.to,.slice x.A x.n x.c,.bool true])∧fz w' g A' n' c' (l.eraseIdx i)∧bW 5 w' x.A x.n x.c x.b∧(∀k∈ak x.A,k∉er g A' (l.eraseIdx i))∧ab (er g A l) (er g A' (l.eraseIdx i)) w w'
theorem IT(w:World)(g:Nat)(A:Option Addr)(n c:Nat)(l:List Pk)(h:fz w g A n c l)(i:Nat)(hi:i<l.length)(x:Pk)(hx:l[i]=x) :
  Calls prog 169 #[.pointer (some ⟨g,0,none⟩),.int .i64 (i:Int)] w (XK i x w g A l):=by
 have hn:=h.len
 have xG:l.length≤5000:=Nat.le_trans h.le (by decide)
 have lA:(i:Int)<(n:Int):=by omega
 have ht:dh l.length (i:Int)=true:=by unfold dh;simp;omega
 have C:=qT w g A n c l h (i:Int)
 rw[ht]at C
 have q:=h.aO.cell 0
 simp only[List.getElem?_toArray,List.getElem?_cons_zero]at q
 obtain⟨ad,rfl,p0,p1⟩:=h.row.at_ hi
 rw[hx]at p0 p1
 have Hw:=h.aO.lt
 have sn:(n:Int)≤(c:Int):=by have:=h.row.le;omega
 have hic:(i:Int)≤(c:Int):=by omega
 have XL:(i:Int)+1≤(n:Int):=by omega
 have dC:=aL.wr ((i:Int)+1)
 have NH:(0:Int)≤(i:Int)+1:=by omega
 clear ht hn
 go_enter func169,ntmps169
 repeat' go_step
 refine C.mono ?_;rintro e w1 ⟨rfl,rfl⟩
 repeat' first|go_step|simp only[];go_at_K
 have hT:=aQ.new w 315 #[.int .i64 x.to,.slice x.A x.n x.c]
 have U1:ab [] [] w (w.alloc (.cells #[.int .i64 x.to,.slice x.A x.n x.c] 315)):=(ab.refl _ _).alloc _
 obtain⟨W,hW⟩:=bk (w.alloc (.cells #[.int .i64 x.to,.slice x.A x.n x.c] 315))
 rw[hW]at hT U1 ⊢
 clear hW p0 p1 C q
 have hd:=h.aN U1.drew
 have NG:aQ W.drew w.heap.size 315 #[.int .i64 x.to,.slice x.A x.n x.c]:=hT
 have q':=hd.aO.cell 0
 simp only[List.getElem?_toArray,List.getElem?_cons_zero]at q'
 obtain⟨A2,zN⟩:=bk ((if c=i+1 then some ad else some (ad.add ((i+1)*2))))
 obtain⟨A3,c3,w3,hrun,hr3,cQ⟩:=hd.row.del hi xG 272 A2 (by rw[←zN];rfl) (c - (i+1))
 have hb3:=hd.aO.aq cQ (hd.row.ne hd.aO (by decide))
 obtain⟨q3,f3⟩:=hb3.c1
 have uD:=NG.aq cQ (fun hm=>Nat.lt_irrefl _ (h.row.lt _ hm))
 obtain⟨⟨t0,t1⟩,-⟩:=uD.c2
 go_region_law (refine jz rfl (.tmp 26) (.tmp 33) 272 rfl (.slice (some ad) i i) (.slice A2 (n-(i+1)) (c-(i+1))) _ w3 rfl rfl hrun ?_)
 all_goals
  have P:=h.pull hi U1.drew hr3 cQ
  have ql:ab [g] [g] w3 (w3.setCell ⟨g,0,none⟩ (.slice A3 (n-1) c3)):=(ab.refl _ _).setCell (.inl (by simp)) _
  have T4:=uD.aq ql (by simp;omega)
  clear ql
  rw[hx]at P
  obtain⟨W4,Fq⟩:=bk (w3.setCell ⟨g,0,none⟩ (.slice A3 (n - 1) c3))
  rw[Fq]at P T4 ⊢
  clear Fq q3 f3 t0 t1 q' hrun hr3 cQ hb3 hd hT NG uD U1
  obtain⟨⟨t0,t1⟩,-⟩:=T4.c2
 all_goals (repeat' ((fail_if_success with_reducible refine ba rfl ?_);go_step))
 all_goals go_quiet (fail)
 all_goals (refine eH ?_)
 all_goals go_ret3
 all_goals exact⟨A3,_,c3,rfl,P.1.aN ((ab.refl [] W4).drewN _),P.2.1.aq ((ab.refl [] W4).drewN _) (by simp),P.2.2.1,P.2.2.2.drewN _⟩
def Dr(z:Nat)(b:List UInt8)(w:World)(e:Ending):Prop:=
 (¬ Whole b∧e=.returned (.tuple #[.agg #[.int .i64 0,.int .i64 0,.int .i64 0,.int .i64 0,.int .i64 0,.int .i64 0,.int .i64 0,.int .i64 0,.bool false,.slice none 0 0],.iface 319 (.agg #[.int .i64 4])]))∨
 (Whole b∧pF (b.drop 8)=none∧e=.returned (.tuple #[.agg #[.int .i64 0,.int .i64 0,.int .i64 0,.int .i64 0,.int .i64 0,.int .i64 0,.int .i64 0,.int .i64 0,.bool false,.slice none 0 0],.iface 319 (.agg #[.int .i64 2])]))∨
 ∃x:Mv,Whole b∧pF (b.drop 8)=some x.ms∧bW 5 w x.A x.n x.c x.b∧(∀k∈ak x.A,z≤k)∧e=.returned (.tuple #[.agg #[.int .i64 x.k,.int .i64 x.f,.int .i64 x.t,.int .i64 x.s,.int .i64 x.br,.int .i64 x.bs,.int .i64 x.hr,.int .i64 x.hs,.bool x.so,.slice x.A x.n x.c],.nilIface])
theorem Km(w:World)(B:Option Addr)(m d:Nat)(b:List UInt8)(hB:bE w B m b)(hmd:m≤d)(hd:d≤maxLen)(hb:b.length≤140737488355328) :
  Calls prog 170 #[.slice B m d] w fun e w'=>Dr w.heap.size b w' e∧ab [] [] w w':=by
 have Bq:=aQ.new w 32 #[.int .i64 0,.int .i64 0,.int .i64 0,.int .i64 0,.int .i64 0,.int .i64 0,.int .i64 0,.int .i64 0,.bool false,.slice none 0 0]
 have C:=LG _ B m d b (hB.alloc (.cells #[.int .i64 0,.int .i64 0,.int .i64 0,.int .i64 0,.int .i64 0,.int .i64 0,.int .i64 0,.int .i64 0,.bool false,.slice none 0 0] 32)) hmd hd hb
 go_enter func170,ntmps170
 repeat' go_step
 refine C.mono ?_;rintro e w1 ⟨hT,bn⟩
 have gT:=Bq.aq bn (by simp)
 have U1:ab [] [] w w1:=((ab.refl [] w).alloc _).trans bn
 have fR:=gT.lt
 clear C Bq bn
 rcases hT with⟨bad,hf,hz,rfl⟩|⟨z,A1,n1,c1,A2,n2,c2,hf,iY,eN,rfl⟩
 ·have HN:=aA (Kn (b:=b) (by rw[hf];exact hz))
  have mc:((bad:Int) != 0)=true:=by simp;omega
  clear hf hz
  obtain⟨⟨q0,q1,q2,q3,q4,q5,q6,q7,q8,q9⟩,f0,f1,f2,f3,f4,f5,f6,f7,f8,f9⟩:=gT.cJ
  refine wk ?_
  have N:=Ci [.int .i64 0,.int .i64 0,.int .i64 0,.int .i64 0,.int .i64 0,.int .i64 0,.int .i64 0,.int .i64 0,.bool false,.slice none 0 0] gT rfl U1 (by omega)
  simp only[setRow]at N
  generalize World.setCell _ ⟨w.heap.size,9,none⟩ _=W5 at N ⊢
  obtain⟨hN,jr⟩:=N
  clear q0 q1 q2 q3 q4 q5 q6 q7 q8 q9
  obtain⟨⟨q0,q1,q2,q3,q4,q5,q6,q7,q8,q9⟩,-⟩:=hN.cJ
  exact bodyPost_ret (v:=.tuple #[.agg #[.int .i64 0,.int .i64 0,.int .i64 0,.int .i64 0,.int .i64 0,.int .i64 0,.int .i64 0,.int .i64 0,.bool false,.slice none 0 0],.iface 319 (.agg #[.int .i64 4])]) (by simp[results,results170,go_sem,q0,q1,q2,q3,q4,q5,q6,q7,q8,q9]) rfl ⟨.inl ⟨HN.out,rfl⟩,jr⟩
 ·have kW:=eN.len
  by_cases h2:0<n2
  ·have HN:=aA (NI (b:=b) hf (by intro h;rw[h]at kW;simp at kW;omega))
   clear hf kW
   obtain⟨⟨q0,q1,q2,q3,q4,q5,q6,q7,q8,q9⟩,f0,f1,f2,f3,f4,f5,f6,f7,f8,f9⟩:=gT.cJ
   have rb:(0:Int)<(n2:Int):=by omega
   refine wk ?_
   have N:=Ci [.int .i64 0,.int .i64 0,.int .i64 0,.int .i64 0,.int .i64 0,.int .i64 0,.int .i64 0,.int .i64 0,.bool false,.slice none 0 0] gT rfl U1 (by omega)
   simp only[setRow]at N
   generalize World.setCell _ ⟨w.heap.size,9,none⟩ _=W5 at N ⊢
   obtain⟨hN,jr⟩:=N
   clear q0 q1 q2 q3 q4 q5 q6 q7 q8 q9
   obtain⟨⟨q0,q1,q2,q3,q4,q5,q6,q7,q8,q9⟩,-⟩:=hN.cJ
   exact bodyPost_ret (v:=.tuple #[.agg #[.int .i64 0,.int .i64 0,.int .i64 0,.int .i64 0,.int .i64 0,.int .i64 0,.int .i64 0,.int .i64 0,.bool false,.slice none 0 0],.iface 319 (.agg #[.int .i64 4])]) (by simp[results,results170,go_sem,q0,q1,q2,q3,q4,q5,q6,q7,q8,q9]) rfl ⟨.inl ⟨HN.out,rfl⟩,jr⟩
  ·obtain rfl:n2=0:=by omega
   have EK:=sg hf
   have hW:Whole b:=by
    have h3:b.length=8+z:=by have:=EK.2.1;have h4:=kW;rw[length_drop]at h4;omega
    exact⟨by rw[hf,h3];simp,by omega⟩
   have lA:(b.drop 8).take z=b.drop 8:=by
    rw[take_of_length_le]
    have:=kW;rw[length_drop]at this ⊢;omega
   rw[lA]at iY
   have HW:Hid (∀(W:World)(x:Mv),pF (b.drop 8)=some x.ms→bW 5 W x.A x.n x.c x.b→(∀k∈ak x.A,w.heap.size≤k)→Dr w.heap.size b W (.returned (.tuple #[.agg #[.int .i64 x.k,.int .i64 x.f,.int .i64 x.t,.int .i64 x.s,.int .i64 x.br,.int .i64 x.bs,.int .i64 x.hr,.int .i64 x.hs,.bool x.so,.slice x.A x.n x.c],.nilIface]))):=fun W x h1 h2 h3=>.inr (.inr ⟨x,hW,h1,h2,h3,rfl⟩)
   have dK:(b.drop 8).length≤140737488355328:=by simp;omega
   have xO:Hid (pF (b.drop 8)=none→∀W,Dr w.heap.size b W (.returned (.tuple #[.agg #[.int .i64 0,.int .i64 0,.int .i64 0,.int .i64 0,.int .i64 0,.int .i64 0,.int .i64 0,.int .i64 0,.bool false,.slice none 0 0],.iface 319 (.agg #[.int .i64 2])]))):=fun h W=>.inr (.inl ⟨hW,h,rfl⟩)
   clear hf EK lA kW h2 eN hW
   generalize b.drop 8=bi at *
   repeat' first|go_guarded|go_step|simp only[];go_at_K
   refine(DP w1 A1 n1 c1 bi iY.rd dK).mono ?_;rintro e w2 ⟨g,A3,k3,c3,rfl,hr2,bh⟩
   have dS:=gT.aq bh (by simp)
   have U2:ab [] [g] w w2:=(U1.trans bh).gives (by intro j hj;simp at hj;subst hj;exact .inr (by have:=bh.fresh j (by simp);simp at this;omega))
   have XM:w.heap.size<g:=by have:=bh.fresh g (by simp);simp at this;omega
   clear gT U1 bh iY
   repeat' first|go_step|simp only[];go_at_K
   have Ry:aQ (((w2.alloc (.cells #[.pointer (some ⟨g,0,none⟩)] 320)).alloc (.cells #[.int .i64 0,.int .i64 0,.int .i64 0,.int .i64 0,.int .i64 0,.int .i64 0,.int .i64 0,.int .i64 0,.bool false,.slice none 0 0] 32)).alloc (.cells #[.int .i64 0] 3)) w2.heap.size 320 #[.pointer (some ⟨g,0,none⟩)]:=((aQ.new _ _ _).alloc _).alloc _
   have iN:=(aQ.new (w2.alloc (.cells #[.pointer (some ⟨g,0,none⟩)] 320)) 32 (mC []).toArray).alloc (.cells #[.int .i64 0] 3)
   have nF:=aQ.new ((w2.alloc (.cells #[.pointer (some ⟨g,0,none⟩)] 320)).alloc (.cells (mC []).toArray 32)) 3 #[.int .i64 0]
   simp only[World.size_alloc]at iN nF
   have gH:=((dS.alloc (.cells #[.pointer (some ⟨g,0,none⟩)] 320)).alloc (.cells (mC []).toArray 32)).alloc (.cells #[.int .i64 0] 3)
   have hr3:Rr (((w2.alloc (.cells #[.pointer (some ⟨g,0,none⟩)] 320)).alloc (.cells (mC []).toArray 32)).alloc (.cells #[.int .i64 0] 3)) g A3 k3 c3 bi 0:=⟨((hr2.aO.alloc _).alloc _).alloc _,((hr2.own.alloc _).alloc _).alloc _,hr2.le⟩
   have U3:ab [] [g,w2.heap.size+1,w2.heap.size+1+1] w (((w2.alloc (.cells #[.pointer (some ⟨g,0,none⟩)] 320)).alloc (.cells (mC []).toArray 32)).alloc (.cells #[.int .i64 0] 3)):=(((U2.alloc _).alloc _).alloc _).gives (by have:=U2.size;intro j hj;simp at hj;rcases hj with rfl|rfl|rfl<;>right<;>omega)
   have hsz:=U2.size
   have Hw:=hr2.aO.lt
   have hwl:=dS.lt
   have T:=GI _ (w2.heap.size+1) (w2.heap.size+1+1) w2.heap.size g A3 k3 c3 bi hr3 Ry iN nF dK
   clear hr2 dS U2 Ry iN nF hr3
   refine T.mono ?_
   rintro e w4 ⟨hT,de⟩
   have jF:=gH.aq de (by simp;omega)
   have U4:=U3.trans de
   clear T gH U3 de
   rcases hT with⟨hno,rfl⟩|⟨l,a,hn,hl,rfl,hr4,pU,jQ,EX⟩
   ·have HD:=aA (xO.out (px (rI (Bu hno))))
    have U4:=U4.gives (b':=[]) (by simp)
    clear hno
    obtain⟨⟨q0,q1,q2,q3,q4,q5,q6,q7,q8,q9⟩,f0,f1,f2,f3,f4,f5,f6,f7,f8,f9⟩:=jF.cJ
    refine wk ?_
    have N:=Ci [.int .i64 0,.int .i64 0,.int .i64 0,.int .i64 0,.int .i64 0,.int .i64 0,.int .i64 0,.int .i64 0,.bool false,.slice none 0 0] jF rfl U4 (by omega)
    simp only[setRow]at N
    generalize World.setCell _ ⟨w.heap.size,9,none⟩ _=W5 at N ⊢
    obtain⟨hN,jr⟩:=N
    clear q0 q1 q2 q3 q4 q5 q6 q7 q8 q9
    obtain⟨⟨q0,q1,q2,q3,q4,q5,q6,q7,q8,q9⟩,-⟩:=hN.cJ
    exact bodyPost_ret (v:=.tuple #[.agg #[.int .i64 0,.int .i64 0,.int .i64 0,.int .i64 0,.int .i64 0,.int .i64 0,.int .i64 0,.int .i64 0,.bool false,.slice none 0 0],.iface 319 (.agg #[.int .i64 2])]) (by simp[results,results170,go_sem,q0,q1,q2,q3,q4,q5,q6,q7,q8,q9]) rfl ⟨HD.out W5,jr⟩
   ·obtain⟨n0,n1,n2,n3,n4,n5,n6,n7,n8,rfl⟩:=TV hl
    clear hl
    have jQ:aQ w4 (w2.heap.size+1+1) 3 #[.int .i64 (n8:Int)]:=jQ
    have pU:aQ w4 (w2.heap.size+1) 32 #[.int .i64 (n0:Int),.int .i64 (n1:Int),.int .i64 (n2:Int),.int .i64 (n3:Int),.int .i64 (n4:Int),.int .i64 (n5:Int),.int .i64 (n6:Int),.int .i64 (n7:Int),.bool false,.slice none 0 0]:=pU
    have s0:=jQ.cell 0
    simp only[List.getElem?_toArray,List.getElem?_cons_zero]at s0
    by_cases h8:1<n8
    ·have HD:=aA (xO.out (QB hn h8))
     have xb:(1:Int)<(n8:Int):=by omega
     have U4:=U4.gives (b':=[]) (by simp)
     clear hn hr4 pU EX
     obtain⟨⟨q0,q1,q2,q3,q4,q5,q6,q7,q8,q9⟩,f0,f1,f2,f3,f4,f5,f6,f7,f8,f9⟩:=jF.cJ
     refine wk ?_
     have N:=Ci [.int .i64 0,.int .i64 0,.int .i64 0,.int .i64 0,.int .i64 0,.int .i64 0,.int .i64 0,.int .i64 0,.bool false,.slice none 0 0] jF rfl U4 (by omega)
     simp only[setRow]at N
     generalize World.setCell _ ⟨w.heap.size,9,none⟩ _=W5 at N ⊢
     obtain⟨hN,jr⟩:=N
     clear q0 q1 q2 q3 q4 q5 q6 q7 q8 q9
     obtain⟨⟨q0,q1,q2,q3,q4,q5,q6,q7,q8,q9⟩,-⟩:=hN.cJ
     exact bodyPost_ret (v:=.tuple #[.agg #[.int .i64 0,.int .i64 0,.int .i64 0,.int .i64 0,.int .i64 0,.int .i64 0,.int .i64 0,.int .i64 0,.bool false,.slice none 0 0],.iface 319 (.agg #[.int .i64 2])]) (by simp[results,results170,go_sem,q0,q1,q2,q3,q4,q5,q6,q7,q8,q9]) rfl ⟨HD.out W5,jr⟩
    ·have xb:(n8:Int)≤1:=by omega
     have zf:=EX.cell 0
     simp only[List.getElem?_toArray,List.getElem?_cons_zero]at zf
     have C:=xh w4 g A3 k3 c3 bi a 2048 (by unfold wY;omega) hr4 dK
     obtain⟨v,sz,bad,hu⟩:∃v sz bad,tk 2048 (bi.drop a)=(v,sz,bad):=⟨_,_,_,rfl⟩
     have HT:=aA (Az hn hu)
     rw[hu]at C
     clear hn hu hr4
     by_cases hz:bad=0
     ·subst hz
      simp only[j9]at C
      repeat' first|go_guarded|go_step|simp only[];go_at_K
      refine C.mono ?_;rintro e w5 ⟨A5,k5,c5,rfl,fI,uP,cF⟩
      have nT:=jF.aq cF (by simp;omega)
      have SE:=pU.aq cF (by simp;omega)
      have SF:=jQ.aq cF (by simp;omega)
      have IG:=EX.aq cF (by simp;omega)
      have U5:ab [] [w2.heap.size+1] w w5:=(U4.trans (cF.mono (a':=[g,w2.heap.size+1,w2.heap.size+1+1]) (b':=[w2.heap.size+1]) (by simp) (by intro j hj;simp at hj;subst hj;exact .inr (.inl (by simp)))))
      have hz5:=aA (show ∀k∈ak A5,w.heap.size≤k from fun k hk=>by have h1:=cF.fresh k (by simp[hk]);have h2:=U4.size;simp at h1;omega)
      clear C jF pU jQ EX U4 cF s0 zf
      have s0:=SF.cell 0
      have zf:=IG.cell 0
      simp only[List.getElem?_toArray,List.getElem?_cons_zero]at s0 zf
      have D:=Bv w5 g A3 k3 c3 bi (a+sz) uP dK
      have hle:a+sz≤bi.length:=uP.le
      by_cases he:a+sz<bi.length
      ·rw[if_pos he,kF (by decide)]at D
       have HD:=aA (xO.out (px (rI (b:=bi) (by rw[HT.out,if_neg (by omega)]))))
       have U5:=U5.gives (b':=[]) (by simp)
       clear HT he hle SE uP
       repeat' first|go_guarded|go_step|simp only[];go_at_K
       refine D.mono ?_;rintro e w6 ⟨rfl,nq,rfl⟩
       have vR:=nT.drewN nq
       have U6:=U5.drewN nq
       clear D nT U5 s0 zf SF IG
       obtain⟨⟨q0,q1,q2,q3,q4,q5,q6,q7,q8,q9⟩,f0,f1,f2,f3,f4,f5,f6,f7,f8,f9⟩:=vR.cJ
       refine wk ?_
       have N:=Ci [.int .i64 0,.int .i64 0,.int .i64 0,.int .i64 0,.int .i64 0,.int .i64 0,.int .i64 0,.int .i64 0,.bool false,.slice none 0 0] vR rfl U6 (by omega)
       simp only[setRow]at N
       generalize World.setCell _ ⟨w.heap.size,9,none⟩ _=W5 at N ⊢
       obtain⟨hN,jr⟩:=N
       clear q0 q1 q2 q3 q4 q5 q6 q7 q8 q9
       obtain⟨⟨q0,q1,q2,q3,q4,q5,q6,q7,q8,q9⟩,-⟩:=hN.cJ
       exact bodyPost_ret (v:=.tuple #[.agg #[.int .i64 0,.int .i64 0,.int .i64 0,.int .i64 0,.int .i64 0,.int .i64 0,.int .i64 0,.int .i64 0,.bool false,.slice none 0 0],.iface 319 (.agg #[.int .i64 2])]) (by simp[results,results170,go_sem,q0,q1,q2,q3,q4,q5,q6,q7,q8,q9]) rfl ⟨HD.out W5,jr⟩
      ·rw[if_neg he,j9]at D
       have SG:body bi sh=some ([n0,n1,n2,n3,n4,n5,n6,n7,n8],v):=by rw[HT.out,if_pos ⟨rfl,by omega⟩]
       clear HT he hle
       repeat' first|go_guarded|go_step|simp only[];go_at_K
       refine D.mono ?_;rintro e w6 ⟨rfl,nq,rfl⟩
       obtain⟨so,gC⟩:∃so:Bool,((n8:Int)==1)=so:=⟨_,rfl⟩
       have XN:so=decide (n8=1):=by rw[←gC,Bool.eq_iff_iff];simp;omega
       obtain⟨x,hx⟩:∃x:Mv,x=⟨n0,n1,n2,n3,n4,n5,n6,n7,so,A5,k5,c5,v⟩:=⟨_,rfl⟩
       have LW:x.ms=Ms.of n0 n1 n2 n3 n4 n5 n6 n7 n8 v:=by rw[hx];unfold Mv.ms Ms.of;rw[XN]
       obtain⟨hby,rf⟩:=Ch SG
       have hby:=hby (by omega)
       rw[←LW]at hby rf
       have hno:¬ x.ms.bL→pF bi=none:=fun h=>px fun m hm=>h (by rw[←(rf m hm).2];exact hm.1)
       have XO:x.ms.bL→pF bi=some x.ms:=fun h=>Ck ⟨h,hby⟩
       have QC:=aA hno
       have Ft:=aA XO
       have adM:=xO
       clear hno XO rf hby SG LW XN xb h8 xO
       have yM:(Value.agg #[.int .i64 (n0:Int),.int .i64 (n1:Int),.int .i64 (n2:Int),.int .i64 (n3:Int),.int .i64 (n4:Int),.int .i64 (n5:Int),.int .i64 (n6:Int),.int .i64 (n7:Int),.bool so,.slice A5 k5 c5])=x.val:=by rw[hx];rfl
       have Cm:(#[.int .i64 (n0:Int),.int .i64 (n1:Int),.int .i64 (n2:Int),.int .i64 (n3:Int),.int .i64 (n4:Int),.int .i64 (n5:Int),.int .i64 (n6:Int),.int .i64 (n7:Int),.bool so,.slice A5 k5 c5]:Array Value)=#[.int .i64 x.k,.int .i64 x.f,.int .i64 x.t,.int .i64 x.s,.int .i64 x.br,.int .i64 x.bs,.int .i64 x.hr,.int .i64 x.hs,.bool x.so,.slice x.A x.n x.c]:=by rw[hx]
       have SH:bW 5 w5 x.A x.n x.c x.b:=by rw[hx];exact fI
       have ph:=aA (show ∀k∈ak x.A,w.heap.size≤k by rw[hx];exact hz5.out)
       have HXA:=aA yM
       clear hx yM fI D s0 zf
       have uQ:=SE.drewN nq
       have SI:=SF.drewN nq
       obtain⟨⟨m0,m1,m2,m3,m4,m5,m6,m7,m8,m9⟩,-,-,-,-,-,-,-,-,g8,g9⟩:=uQ.cJ
       have s0:=SI.cell 0
       simp only[List.getElem?_toArray,List.getElem?_cons_zero]at s0
       have hmR:w2.heap.size+1≠w.heap.size:=by omega
       repeat' first|go_guarded|go_step|simp only[];go_at_K
       clear m0 m1 m2 m3 m4 m5 m6 m7 m8 m9 g8 g9 s0
       have qU:=(uQ.cc 8 (.bool so)).cc 9 (.slice A5 k5 c5)
       have Cn:=((nT.drewN nq).fB (p:=⟨w2.heap.size+1,8,none⟩) (by simp;omega) (.bool so)).fB (p:=⟨w2.heap.size+1,9,none⟩) (by simp;omega) (.slice A5 k5 c5)
       have U7:=((U5.drewN nq).setCell (p:=⟨w2.heap.size+1,8,none⟩) (.inr (by simp;omega)) (.bool so)).setCell (p:=⟨w2.heap.size+1,9,none⟩) (.inr (by simp;omega)) (.slice A5 k5 c5)
       have hne:∀j∈ak x.A,j∉[w2.heap.size+1]:=by intro j hj;simp;rintro rfl;exact SH.own.ne SE (by decide) hj
       have sj:=bW.aq (w:=w5.drewN nq) ⟨SH.len,SH.own.drewN nq⟩ (((ab.refl [w2.heap.size+1] (w5.drewN nq)).setCell (p:=⟨w2.heap.size+1,8,none⟩) (.inl (by simp)) (.bool so)).setCell (p:=⟨w2.heap.size+1,9,none⟩) (.inl (by simp)) (.slice A5 k5 c5)) hne
       have qU:aQ (((w5.drewN nq).setCell ⟨w2.heap.size+1,8,none⟩ (.bool so)).setCell ⟨w2.heap.size+1,9,none⟩ (.slice A5 k5 c5)) (w2.heap.size+1) 32 #[.int .i64 x.k,.int .i64 x.f,.int .i64 x.t,.int .i64 x.s,.int .i64 x.br,.int .i64 x.bs,.int .i64 x.hr,.int .i64 x.hs,.bool x.so,.slice x.A x.n x.c]:=by rw[←Cm];exact qU
       clear uQ SE nT U5 SH hne SI SF IG uP Cm
       generalize World.setCell _ ⟨w2.heap.size+1,9,none⟩ _=W7 at *
       by_cases dL:x.ms.bL
       ·have Ft:=Ft.out dL
        have HD:=fun W h=>HW.out W x Ft h ph.out
        have HD:=aA HD
        have E:=zM x W7 sj.rd dL
        rw[Mv.bJ]at E
        clear Ft QC HW dL
        refine E.mono ?_;rintro e w8 ⟨rfl,lD⟩
        have sL:=Cn.aq lD (by simp)
        have hM8:=qU.aq lD (by simp)
        have IN:=sj.aq lD (by simp)
        have U8:=(U7.gives (b':=[]) (by simp)).trans lD
        clear Cn qU sj U7 lD E
        have hne:∀j∈ak x.A,j∉[w.heap.size]:=by intro j hj;simp;rintro rfl;exact IN.own.ne sL (by decide) hj
        obtain⟨⟨m0,m1,m2,m3,m4,m5,m6,m7,m8,m9⟩,-⟩:=hM8.cJ
        obtain⟨⟨q0,q1,q2,q3,q4,q5,q6,q7,q8,q9⟩,f0,f1,f2,f3,f4,f5,f6,f7,f8,f9⟩:=sL.cJ
        refine wk ?_
        have N:=Ci [.int .i64 x.k,.int .i64 x.f,.int .i64 x.t,.int .i64 x.s,.int .i64 x.br,.int .i64 x.bs,.int .i64 x.hr,.int .i64 x.hs,.bool x.so,.slice x.A x.n x.c] sL rfl U8 (by omega)
        have N2:=ku [.int .i64 x.k,.int .i64 x.f,.int .i64 x.t,.int .i64 x.s,.int .i64 x.br,.int .i64 x.bs,.int .i64 x.hr,.int .i64 x.hs,.bool x.so,.slice x.A x.n x.c] sL rfl (ab.refl [w.heap.size] w8) (.inl (by simp))
        have Nr:=IN.aq N2.2 hne
        clear N2
        simp only[setRow]at N Nr
        generalize World.setCell _ ⟨w.heap.size,9,none⟩ _=W5 at N Nr ⊢
        obtain⟨hN,jr⟩:=N
        clear q0 q1 q2 q3 q4 q5 q6 q7 q8 q9
        obtain⟨⟨q0,q1,q2,q3,q4,q5,q6,q7,q8,q9⟩,-⟩:=hN.cJ
        exact bodyPost_ret (v:=.tuple #[.agg #[.int .i64 x.k,.int .i64 x.f,.int .i64 x.t,.int .i64 x.s,.int .i64 x.br,.int .i64 x.bs,.int .i64 x.hr,.int .i64 x.hs,.bool x.so,.slice x.A x.n x.c],.nilIface]) (by simp[results,results170,go_sem,q0,q1,q2,q3,q4,q5,q6,q7,q8,q9]) rfl ⟨HD.out W5 Nr,jr⟩
       ·have HD:=aA (adM.out (QC.out dL))
        have E:=Cf x W7 sj.rd dL
        rw[Mv.bJ]at E
        clear Ft QC HW dL
        refine E.mono ?_;rintro e w8 ⟨rfl,lD⟩
        have sL:=Cn.aq lD (by simp)
        have U8:=(U7.gives (b':=[]) (by simp)).trans lD
        clear Cn qU sj U7 lD E
        obtain⟨⟨q0,q1,q2,q3,q4,q5,q6,q7,q8,q9⟩,f0,f1,f2,f3,f4,f5,f6,f7,f8,f9⟩:=sL.cJ
        refine wk ?_
        have N:=Ci [.int .i64 0,.int .i64 0,.int .i64 0,.int .i64 0,.int .i64 0,.int .i64 0,.int .i64 0,.int .i64 0,.bool false,.slice none 0 0] sL rfl U8 (by omega)
        simp only[setRow]at N
        generalize World.setCell _ ⟨w.heap.size,9,none⟩ _=W5 at N ⊢
        obtain⟨hN,jr⟩:=N
        clear q0 q1 q2 q3 q4 q5 q6 q7 q8 q9
        obtain⟨⟨q0,q1,q2,q3,q4,q5,q6,q7,q8,q9⟩,-⟩:=hN.cJ
        exact bodyPost_ret (v:=.tuple #[.agg #[.int .i64 0,.int .i64 0,.int .i64 0,.int .i64 0,.int .i64 0,.int .i64 0,.int .i64 0,.int .i64 0,.bool false,.slice none 0 0],.iface 319 (.agg #[.int .i64 2])]) (by simp[results,results170,go_sem,q0,q1,q2,q3,q4,q5,q6,q7,q8,q9]) rfl ⟨HD.out W5,jr⟩
     ·have HD:=aA (xO.out (px (rI (b:=bi) (by rw[HT.out,if_neg (by simp[hz])]))))
      simp only[kF hz]at C
      clear HT
      repeat' first|go_guarded|go_step|simp only[];go_at_K
      refine C.mono ?_;rintro e w5 ⟨A5,k5,c5,rfl,fI,uP,cF⟩
      have nT:=jF.aq cF (by simp;omega)
      have U5:=(U4.trans (cF.mono (a':=[g,w2.heap.size+1,w2.heap.size+1+1]) (b':=[]) (by simp) (by simp)))
      clear C jF pU jQ EX U4 cF s0 zf fI uP
      obtain⟨⟨q0,q1,q2,q3,q4,q5,q6,q7,q8,q9⟩,f0,f1,f2,f3,f4,f5,f6,f7,f8,f9⟩:=nT.cJ
      refine wk ?_
      have N:=Ci [.int .i64 0,.int .i64 0,.int .i64 0,.int .i64 0,.int .i64 0,.int .i64 0,.int .i64 0,.int .i64 0,.bool false,.slice none 0 0] nT rfl U5 (by omega)
      simp only[setRow]at N
      generalize World.setCell _ ⟨w.heap.size,9,none⟩ _=W5 at N ⊢
      obtain⟨hN,jr⟩:=N
      clear q0 q1 q2 q3 q4 q5 q6 q7 q8 q9
      obtain⟨⟨q0,q1,q2,q3,q4,q5,q6,q7,q8,q9⟩,-⟩:=hN.cJ
      exact bodyPost_ret (v:=.tuple #[.agg #[.int .i64 0,.int .i64 0,.int .i64 0,.int .i64 0,.int .i64 0,.int .i64 0,.int .i64 0,.int .i64 0,.bool false,.slice none 0 0],.iface 319 (.agg #[.int .i64 2])]) (by simp[results,results170,go_sem,q0,q1,q2,q3,q4,q5,q6,q7,q8,q9]) rfl ⟨HD.out W5,jr⟩
theorem Ko{z:Nat}{m:Ms}(hm:m.bL){w:World}{e:Ending}(h:Dr z m.bytes w e) :
  ∃x:Mv,x.ms=m∧bW 5 w x.A x.n x.c x.b∧(∀k∈ak x.A,z≤k)∧e=.returned (.tuple #[x.val,.nilIface]):=by
 have hW:Whole m.bytes:=NJ (by have:=hm.QA;omega)
 have hd:(m.bytes.drop 8)=m.inside:=TY (hW.put.symm.trans rfl)
 have hI:pF (m.bytes.drop 8)=some m:=Ck ⟨hm,hd.symm⟩
 rcases h with⟨h1,_⟩|⟨_,h2,_⟩|⟨y,_,h2,ho,hz,he⟩
 ·exact absurd hW h1
 ·rw[hI]at h2;cases h2
 ·rw[hI]at h2
  injection h2 with h2
  exact⟨y,h2.symm,ho,hz,he⟩
