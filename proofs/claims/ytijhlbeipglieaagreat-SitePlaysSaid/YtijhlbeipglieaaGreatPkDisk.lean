/- For SitePlays. -/
import Derived.Test.YtijhlbeipglieaaGreatPkLearn
set_option linter.all false
set_option maxRecDepth 100000
set_option maxHeartbeats 2000000
namespace aA
open Go Go.RowKit Go.Maps List
theorem NT{e:TypeId}{size base:Nat}{w:World}{v:Value}{n:Nat}{xs:List Value}(h:w.ownsRow base e size v n xs):(∃A c,v=.slice A n c∧Own e size w A n c xs)∧∀A c,v=.slice A n c→0<n→∀k∈ah A,base≤k:=by
 rcases h.2 with⟨hv,hn⟩|⟨g,cap,cur,hv,hb,rest⟩
 ·subst hn
  refine⟨⟨none,0,hv,⟨h.1,.inl ⟨rfl,rfl⟩⟩⟩,fun A c _ h0=>by omega⟩
 ·refine⟨⟨some ⟨g,0,none⟩,cap,hv,⟨h.1,.inr ⟨g,cap,cur,rfl,Nat.zero_le _,rest⟩⟩⟩,fun A c hv' _ k hk=>?_⟩
  rw[hv]at hv'
  injection hv' with hA
  subst hA
  simp[ah]at hk
  omega
structure ab0(e:TypeId)(w:World)(A:Option Addr)(n c:Nat)(l:List UInt8):Prop where
 cap:c=n
 rd:aD w A n l
 blk:∃g cur,A=some ⟨g,0,none⟩∧w.heap[g]? =some (.cells cur e (0,0))
def jK(e:TypeId)(w:World)(A:Option Addr)(n c:Nat)(l:List UInt8):Prop:=aT e w A n c l∨ab0 e w A n c l
section
variable {e:TypeId} {w w':World} {A:Option Addr} {n c:Nat} {l:List UInt8}
theorem jK.nil(e:TypeId)(w:World):jK e w none 0 0 []:=.inl (aT.nil _ _)
theorem jK.rd(h:jK e w A n c l):aD w A n l:=by
 rcases h with h|h
 ·exact h.rd
 ·exact h.rd
theorem jK.len(h:jK e w A n c l):n=l.length:=h.rd.len
theorem jK.le(h:jK e w A n c l):n≤c:=by
 rcases h with h|h
 ·exact h.own.cap.1
 ·rw[h.cap];exact Nat.le_refl _
theorem jK.block(h:jK e w A n c l):∀k∈ah A,∃cur,w.heap[k]? =some (.cells cur e (0,0)):=by
 rcases h with h1|h1
 ·intro k hk
  rcases h1.own.2 with⟨hv,_⟩|⟨g,cap,cur,hv,_,hg,_⟩
  ·injection hv with hA;subst hA;simp[ah]at hk
  ·injection hv with hA;subst hA;simp[ah]at hk;subst hk;exact⟨cur,hg⟩
 ·obtain⟨g,cur,rfl,hg⟩:=h1.blk
  intro k hk;simp[ah]at hk;subst hk;exact⟨cur,hg⟩
theorem jK.upd{a b:List Nat}(h:jK e w A n c l)(hu:aa a b w w')(hd:∀k∈ah A,k∉a:=by simp):jK e w' A n c l:=by
 rcases h with h1|h1
 ·exact .inl (h1.upd hu hd)
 ·obtain⟨g,cur,hA,hg⟩:=h1.blk
  exact .inr ⟨h1.cap,h1.rd.upd hu hd,g,cur,hA,(hu.block g (Array.getElem?_eq_some_iff.1 hg).1 (hd g (by simp[hA,ah]))).trans hg⟩
theorem jK.app{P:Program}(h:jK e w A n c l){t:TypeId}(ty:TypeId)(ht:P.underlying t=some (.slice e))(hi:(P.info? e).map (fun i=>(i.zero,i.size,i.bytes))=some (some (.int .u8 0),1,1)){B:Option Addr}{m d:Nat}{r:List UInt8}(hr:aD w B m r)(hm:0<r.length)(hb:l.length+r.length≤140737488355328) :
  ∃A' c' w',(Builtin.append_ #[t,t] ty #[.slice A n c,.slice B m d]).run P w=.ok (.slice A' (n+m) c') w'∧aT e w' A' (n+m) c' (l++r)∧aa (ah A) (ah A') w w':=by
 have hn:=h.len
 have hmm:=hr.len
 rcases h with h1|h1
 ·obtain⟨A',c',w',abS,ho,hu⟩:=oQ (P:=P) w t ty e ht hi rfl (by decide) A n c _ h1.own B m d _ hr (Ec r) (by unfold maxLen;omega) (by omega)
  exact⟨A',c',w',abS,⟨by simp[hn,hmm],by rw[mW];exact ho⟩,hu⟩
 ·obtain⟨g,cur,rfl,hg⟩:=h1.blk
  obtain⟨i,hii,hz,afX,hby⟩:=info_parts hi
  obtain⟨ad,e1,hc⟩:=hr.2 (by omega)
  subst e1
  have holds:∀j u,(iH l)[j]? =some u→w.cell? ((⟨g,0,none⟩:Addr).add j)=some u:=by
   intro j u hu
   rcases Nat.eq_zero_or_pos n with h0|h0
   ·have hl0:l= []:=eq_nil_of_length_eq_zero (by omega)
    subst hl0;simp[iH]at hu
   ·obtain⟨PG,e',hc'⟩:=h1.rd.2 h0
    injection e' with e';subst e'
    exact hc' j u hu
  obtain⟨v',w',abS,ho,hgr⟩:=run_append_arg_grows (P:=P) w t ty e i _ 1 1 ht hii hz afX hby rfl (by decide) ⟨g,0,none⟩ n c _ h1.rd.1 holds ad m d (iH r) hr.1 hc (by rw[h1.cap];omega) (by unfold maxLen;omega) (by omega)
  obtain⟨⟨A',c',rfl,ho'⟩,ai6⟩:=NT ho
  refine⟨A',c',w',abS,⟨by simp[hn,hmm],by rw[mW];exact ho'⟩,(((aa.refl _ w).grown hgr (fun k h=>by cases h)).gives (fun k hk=>.inr (ai6 A' c' rfl (by omega) k hk)))⟩
end
theorem NU{P:Program}{w:World}{ops:Array Oper}{rest:List Oper}{o:Oper}{a:Act}{Q:Exit→Act→World→Prop}(hgd:o.guard=none)(s x:Operand)(t:TypeId)(ho:o.op=.call {callee:=.builtin .append,args:=#[s,x],argTypes:=#[t,t]}){vs vx v:Value}{w':World}(hs:a.eval s=vs)(hx:a.eval x=vx)(abS:(Builtin.append_ #[t,t] o.type #[vs,vx]).run P w=.ok v w')(h:wpList P ops Q rest (a.put o.dst v) w'):wpList P ops Q (o::rest) a w:=by
 refine wpList_plain hgd fun K hK=>?_
 unfold Oper.wp
 simp[execOp,ho,resolve,invoke,builtin,hs,hx,abS,Result.andThen]
 exact hK _ _ h
def bW(w:World)(k:Nat):Option (Option TypeId):=
 match w.heap[k]? with
 |some (.cells _ t _)=>some (some t)
 |some (.map _ _)=>some none
 |_=>none
theorem ak.tag{w:World}{g:Nat}{t:TypeId}{cs:Array Value}(h:ak w g t cs):bW w g=some (some t):=by
 unfold ak at h;unfold bW;rw[h]
theorem Own.tag{e:TypeId}{size:Nat}{w:World}{A:Option Addr}{n c:Nat}{xs:List Value}(h:Own e size w A n c xs):∀k∈ah A,bW w k=some (some e):=by
 intro k hk
 rcases h.2 with⟨hv,_⟩|⟨g,cap,cur,hv,_,hg,_⟩
 ·injection hv with hA;subst hA;simp[ah]at hk
 ·injection hv with hA;subst hA;simp[ah]at hk;subst hk;unfold bW;rw[hg]
theorem bP.tag{P:Program}{k:TypeId}{w:World}{b:Nat}{M:KV}(h:bP P k w b M):bW w b=some none:=by
 obtain⟨es,clock,hb,-⟩:=h
 unfold bW;rw[hb]
theorem Ed{w w':World}{a b:List Nat}(hu:aa a b w w'){k:Nat}(hk:k∉a){t:Option TypeId}(ht:bW w k=some t):bW w' k=some t:=by
 have hlt:k<w.heap.size:=by
  rcases Nat.lt_or_ge k w.heap.size with h|h
  ·exact h
  ·unfold bW at ht;rw[Array.getElem?_eq_none h]at ht;cases ht
 unfold bW at ht ⊢
 rw[hu.block k hlt hk];exact ht
theorem iI{w:World}{k:Nat}{t:Option TypeId}(ht:bW w k=some t):k<w.heap.size:=by
 rcases Nat.lt_or_ge k w.heap.size with h|h
 ·exact h
 ·unfold bW at ht;rw[Array.getElem?_eq_none h]at ht;cases ht
theorem aU{w:World}{k k':Nat}{t t':Option TypeId}(h:bW w k=some t)(h':bW w k'=some t')(hne:t≠t'):k≠k':=by
 rintro rfl;rw[h]at h';injection h' with h';exact hne h'
theorem bA{w:World}{k:Nat}{t t':Option TypeId}{X:List Nat}(h:bW w k=some t)(h':∀j∈X,bW w j=some t')(hne:t≠t'):k∉X:=fun hm=>aU h (h' k hm) hne rfl
theorem bX{w:World}{t t':Option TypeId}{X Y:List Nat}(h:∀j∈Y,bW w j=some t)(h':∀j∈X,bW w j=some t')(hne:t≠t'):∀k∈Y,k∉X:=fun _ hk=>bA (h _ hk) h' hne
end aA
namespace Go.Proofs.YtijhlbeipglieaaGreat
open Go.RowKit aA Tryz List
structure iJ(w:World)(g:Nat)(A:Option Addr)(n c:Nat)(b:List UInt8)(s:Nat):Prop where
 blk:ak w g 197 #[.slice A n c,.int .i64 (s:Int)]
 row:jK 5 w A n c b
 ne:∀k∈ah A,k≠g
 s:s≤b.length
 len:b.length≤1048576
theorem iJ.tag{w:World}{g:Nat}{A:Option Addr}{n c:Nat}{b:List UInt8}{s:Nat}(h:iJ w g A n c b s):∀k∈ah A,bW w k=some (some 5):=fun k hk=>by
 obtain⟨cur,hg⟩:=h.row.block k hk
 unfold bW;rw[hg]
theorem iJ.upd{w w':World}{g:Nat}{A:Option Addr}{n c:Nat}{b:List UInt8}{s:Nat}{x y:List Nat}(h:iJ w g A n c b s)(hu:aa x y w w')(h1:g∉x:=by simp)(h2:∀k∈ah A,k∉x:=by simp):iJ w' g A n c b s:=
 ⟨h.blk.upd hu h1,h.row.upd hu h2,h.ne,h.s,h.len⟩
theorem XT(w:World):Calls prog 78 #[] w fun e w'=>∃g,e=.returned (.pointer (some ⟨g,0,none⟩))∧iJ w' g none 0 0 [] 0∧aa [] [g] w w':=by
 have hb:=ak.new w 197 #[.slice none 0 0,.int .i64 0]
 have U:aa [] [w.heap.size] w (w.alloc (.cells #[.slice none 0 0,.int .i64 0] 197)):=((aa.refl [] w).alloc _).gives
 have key:=hdn (show iJ (w.alloc (.cells #[.slice none 0 0,.int .i64 0] 197)) w.heap.size none 0 0 [] 0 from⟨hb,jK.nil _ _,by simp[ah],by simp,by simp⟩)
 clear hb
 go_enter func78,ntmps78
 refine wk ?_
 go_ret
 exact⟨_,rfl,key.out,U⟩
theorem NV(w:World)(g:Nat)(A:Option Addr)(n c:Nat)(b:List UInt8)(s:Nat)(h:iJ w g A n c b s) :
  Calls prog 76 #[.pointer (some ⟨g,0,none⟩)] w fun e w'=>e=.returned (.int .i64 (s:Int))∧w=w':=by
 obtain⟨⟨q0,q1⟩,-⟩:=h.blk.c2
 clear h
 go_enter func76,ntmps76
 refine wk ?_
 go_ret
 exact⟨rfl,rfl⟩
theorem SL(w:World)(g:Nat)(A:Option Addr)(n c:Nat)(b:List UInt8)(s:Nat)(h:iJ w g A n c b s) :
  Calls prog 65 #[.pointer (some ⟨g,0,none⟩)] w fun e w'=>e=.returned (.tuple #[])∧iJ w' g A n c b b.length∧aa [g] [g] w w':=by
 obtain⟨⟨q0,q1⟩,f0,f1⟩:=h.blk.c2
 have hn:n=b.length:=h.row.len
 have hB:=h.blk.aO 1 (.int .i64 (n:Int))
 have hu:aa [g] [g] w (w.setCell ⟨g,1,none⟩ (.int .i64 (n:Int))):=(aa.refl [g] w).setCell (.inl (by simp)) _
 have key:=hdn (show iJ (w.setCell ⟨g,1,none⟩ (.int .i64 (n:Int))) g A n c b b.length from⟨by rw[←hn];exact hB,h.row.upd hu (by simpa using h.ne),h.ne,by omega,h.len⟩)
 clear h hB hn
 go_enter func65,ntmps65
 refine wk ?_
 exact enR ⟨rfl,key.out,hu⟩
theorem EP(w:World)(g:Nat)(A:Option Addr)(n c:Nat)(b:List UInt8)(s:Nat)(h:iJ w g A n c b s) :
  Calls prog 73 #[.pointer (some ⟨g,0,none⟩)] w fun e w'=>∃A' n' c',e=.returned (.slice A' n' c')∧aT 5 w' A' n' c' b∧aa [] (ah A') w w':=by
 obtain⟨⟨q0,q1⟩,-⟩:=h.blk.c2
 have C:=dS w A n c b h.row.rd (by have:=h.len;omega)
 clear h
 go_enter func73,ntmps73
 repeat' go_step
 refine C.mono ?_;rintro e w2 ⟨A',n',c',rfl,ho,hu⟩
 refine wk ?_
 go_ret
 exact⟨A',n',c',rfl,ho,hu⟩
theorem SN(w:World)(g:Nat)(A:Option Addr)(n c:Nat)(b:List UInt8)(s:Nat)(h:iJ w g A n c b s)(B:Option Addr)(m d:Nat)(v:List UInt8)(hv:aD w B m v)(hf:1048576<b.length+v.length)(hl:v.length≤1099511627776) :
  Calls prog 190 #[.pointer (some ⟨g,0,none⟩),.slice B m d] w fun e w'=>e=.returned (.int .i64 5)∧w=w':=by
 obtain⟨⟨q0,q1⟩,-⟩:=h.blk.c2
 have hn:n=b.length:=h.row.len
 have hm:m=v.length:=hv.len
 have hln:=h.len
 have hw:=aA.wr (1048576-(n:Int))
 have d1:decide (1048576-(n:Int)<(m:Int))=true:=dTo
 clear h hv hn hm hf hl hln
 go_enter func190,ntmps190
 refine wk ?_
 go_ret
 exact⟨rfl,rfl⟩
theorem NW(w:World)(g:Nat)(A:Option Addr)(n c:Nat)(b:List UInt8)(s:Nat)(h:iJ w g A n c b s)(B:Option Addr)(m d:Nat)(v:List UInt8)(hv:aD w B m v)(hv0:0<v.length)(hf:b.length+v.length≤1048576) :
  Calls prog 190 #[.pointer (some ⟨g,0,none⟩),.slice B m d] w fun e w'=>∃A' n' c',e=.returned (.int .i64 0)∧iJ w' g A' n' c' (b++v) s∧aa (g::ah A) (g::ah A') w w':=by
 obtain⟨⟨q0,q1⟩,-⟩:=h.blk.c2
 have hn:n=b.length:=h.row.len
 have hm:m=v.length:=hv.len
 have hw:=aA.wr (1048576-(n:Int))
 have d1:decide (1048576-(n:Int)<(m:Int))=false:=dFo
 clear hn hm
 go_enter func190,ntmps190
 repeat' (fail_if_success with_reducible refine Ag rfl ?_);go_step
 obtain⟨A2,c2,w2,abS,ho,hu⟩:=h.row.app 28 underlying28 gp (d:=d) hv hv0 (by omega)
 obtain⟨k2,hk2⟩:∃k,n+m=k:=⟨_,rfl⟩
 rw[hk2]at abS ho
 refine NU rfl _ _ 28 rfl rfl rfl abS ?_
 have hg:g∉ah A:=fun hk=>h.ne g hk rfl
 have hb2:=h.blk.upd hu hg
 obtain⟨⟨p0,p1⟩,f0,f1⟩:=hb2.c2
 have hne:∀k∈ah A2,k≠g:=fun k hk=>by
  rcases hu.fresh k hk with h1|h1
  ·exact h.ne k h1
  ·have:=h.blk.lt;omega
 have hu3:aa [g] [g] w2 (w2.setCell ⟨g,0,none⟩ (.slice A2 k2 c2)):=(aa.refl [g] w2).setCell (.inl (by simp)) _
 have hs:=h.s
 have key:=hdn (show iJ (w2.setCell ⟨g,0,none⟩ (.slice A2 k2 c2)) g A2 k2 c2 (b++v) s from⟨hb2.aO 0 _,.inl (ho.upd hu3 (by simpa using hne)),hne,by rw[length_append];omega,by rw[length_append];omega⟩)
 have U:aa (g::ah A) (g::ah A2) w (w2.setCell ⟨g,0,none⟩ (.slice A2 k2 c2)):=
  ((hu.mono (a':=g::ah A) (b':=g::ah A2) (by simp;intro k hk;exact .inr hk) (by simp;intro k hk;exact .inl hk))).setCell (.inl (by simp)) _
 clear h hv ho hu hb2 hu3 hne hg
 refine wk ?_
 go_ret
 exact⟨A2,k2,c2,rfl,key.out,U⟩
def lC(w:World)(g:Nat)(me n p:Int)(l:List Int):Prop:=
 ak w g 214 ([Value.int .i64 me,.int .i64 n,.int .i64 p]++l.map (Value.int .i64)).toArray∧l.length=7
def fB(me n p:Int):Bool:=decide (1≤n)&&decide (n≤7)&&decide (0≤me)&&decide (me<n)&&decide (1≤p)&&decide (p≤1000)
theorem Hr(w:World)(me n p:Int)(h:fB me n p=true) :
  Calls prog 70 #[.int .i64 me,.int .i64 n,.int .i64 p] w fun e w'=>∃g,e=.returned (.tuple #[.pointer (some ⟨g,0,none⟩),.int .i64 0])∧lC w' g me n p [0,0,0,0,0,0,0]∧aa [] [g] w w':=by
 simp only[fB,Bool.and_eq_true,decide_eq_true_eq]at h
 obtain⟨⟨⟨⟨⟨h1,h2⟩,h3⟩,h4⟩,h5⟩,h6⟩:=h
 have d1:decide (n<1)=false:=dFo
 have d2:decide (7<n)=false:=dFo
 have d3:decide (me<0)=false:=dFo
 have d4:decide (n≤me)=false:=dFo
 have d5:decide (p<1)=false:=dFo
 have d6:decide (1000<p)=false:=dFo
 have hb:=ak.new w 214 #[.int .i64 me,.int .i64 n,.int .i64 p,.int .i64 0,.int .i64 0,.int .i64 0,.int .i64 0,.int .i64 0,.int .i64 0,.int .i64 0]
 have HB:=hdn hb
 clear hb
 go_enter func70,ntmps70
 refine wk ?_
 go_ret2
 exact⟨_,rfl,⟨HB.out,rfl⟩,((aa.refl [] w).alloc _).gives⟩
theorem XU(w:World)(g:Nat)(me n p:Int)(l:List Int)(h:lC w g me n p l)(s:Int) :
  Calls prog 128 #[.pointer (some ⟨g,0,none⟩),.int .i64 s] w fun e w'=>e=.returned (.bool (decide (0≤s)&&decide (s<n)))∧w=w':=by
 have q1:w.cell? ⟨g,1,none⟩=some (.int .i64 n):=h.1.cell 1
 clear h
 go_enter func128,ntmps128
 by_cases h1:0≤s
 ·have d1:decide (0≤s)=true:=dTx h1
  refine wk ?_
  go_ret
  exact⟨by rw[d1];rfl,rfl⟩
 ·have d1:decide (0≤s)=false:=dFx h1
  refine wk ?_
  go_ret
  exact⟨by rw[d1];rfl,rfl⟩
theorem lC.cell{w:World}{g:Nat}{me n p:Int}{l:List Int}(h:lC w g me n p l){i:Nat}(hi:i<l.length):w.cell? ⟨g,3+i,none⟩=some (.int .i64 l[i]):=by
 rw[h.1.cell (3+i),Nat.add_comm 3 i]
 simp[hi]
def iP(p:Int):List Int→Nat→Int
 |[],_=>-1
 |x::l,i=>if x≤p then(i:Int)else iP p l (i+1)
theorem KJ(w:World)(g:Nat)(me:Int)(n:Nat)(p:Int)(l:List Int)(h:lC w g me n p l)(hn:n≤7) :
  Calls prog 161 #[.pointer (some ⟨g,0,none⟩)] w fun e w'=>e=.returned (.int .i64 (iP p (l.take n) 0))∧aa [] [] w w':=by
 have q1:w.cell? ⟨g,1,none⟩=some (.int .i64 (n:Int)):=h.1.cell 1
 have q2:w.cell? ⟨g,2,none⟩=some (.int .i64 p):=h.1.cell 2
 have hl:=h.2
 have hc:=fun i hi=>h.cell (i:=i) hi
 have HC:=hdn hc
 clear hc h
 obtain⟨R,hR⟩:=ex1 (iP p (l.take n) 0)
 rw[hR]
 have HR:=hdn hR
 clear hR
 go_enter func161,ntmps161
 repeat' go_step
 go_loopw [10] (fun v10 wr=>∃i:Nat,i≤n∧v10=.int .i64 (i:Int)∧iP p ((l.take n).drop i) i=R∧aa [] [] w wr) (fun v10 _=>n-(intOf v10).toNat)
 case atStart=>exact⟨0,by omega,rfl,HR.out,aa.refl _ _⟩
 case round=>
  obtain⟨i,hi,rfl,hr,U⟩:=hrel
  have H:=hdn hr
  clear hr HR
  by_cases hlt:i<n
  ·have hil:(i:Int)<(n:Int):=by omega
   have Wu:(i:Int)<7:=by omega
   have hw1:=aA.wr ((i:Int)+1)
   have c1:=fun N=>(U.drewN N).cell (HC.out i (by omega)) (by simp)
   have c2:=fun N=>(U.drewN N).cell q2 (by simp)
   have hd:(l.take n).drop i=l[i]::(l.take n).drop (i+1):=by
    rw[drop_eq_getElem_cons (by rw[length_take];omega)];simp
   have HD:=hdn hd
   clear hd
   by_cases hs:l[i]≤p
   ·have d1:decide (l[i]≤p)=true:=dTx hs
    repeat' go_step
    go_quiet (fail)
    refine wk ?_
    go_ret
    exact⟨by rw[←H.out,HD.out,iP,if_pos hs];rfl,U.drewN _⟩
   ·have d1:decide (l[i]≤p)=false:=dFx hs
    repeat' go_step
    go_quiet (fail)
    refine wk ?_
    exact⟨⟨i+1,by omega,rfl,by rw[←H.out,HD.out,iP,if_neg hs],U.drewN _⟩,by simp[intOf];omega⟩
  ·have hil:¬ ((i:Int)<(n:Int)):=by omega
   have he:R= -1:=by rw[←H.out,drop_eq_nil_of_le (by rw[length_take];omega),iP]
   have HE:=hdn he
   clear he H
   refine wk ?_
   go_ret
   exact⟨by rw[HE.out];rfl,U⟩
theorem lC.set{w:World}{g:Nat}{me n p:Int}{l:List Int}(h:lC w g me n p l)(i:Nat)(v:Int):lC (w.setCell ⟨g,3+i,none⟩ (.int .i64 v)) g me n p (l.set i v):=by
 refine⟨?_,by rw[length_set];exact h.2⟩
 have:=h.1.aO (3+i) (.int .i64 v)
 rw[Nat.add_comm 3 i]at this ⊢
 simpa[map_set]using this
theorem NY(w:World)(g:Nat)(me:Int)(n:Nat)(p:Int)(l:List Int)(h:lC w g me n p l)(hn:n≤7)(s:Nat)(hs:s<n) :
  Calls prog 69 #[.pointer (some ⟨g,0,none⟩),.int .i64 (s:Int)] w fun e w'=>e=.returned (.tuple #[])∧lC w' g me n p (l.set s 0)∧aa [g] [g] w w':=by
 have C:=XU w g me n p l h (s:Int)
 rw[dTx (show(0:Int)≤(s:Int) by omega),dTx (show(s:Int)<(n:Int) by omega)]at C
 have hk:=hdn (h.set s 0)
 obtain⟨z,hc⟩:∃z,w.cell? ⟨g,3+s,none⟩=some z:=⟨_,h.cell (i:=s) (by have:=h.2;omega)⟩
 have hf:=h.1.frozen (3+s)
 have hs7:(s:Int)<7:=by omega
 have U:aa [g] [g] w (w.setCell ⟨g,3+s,none⟩ (.int .i64 0)):=(aa.refl [g] w).setCell (.inl (by simp)) _
 clear h
 go_enter func69,ntmps69
 repeat' go_step
 refine C.mono ?_;rintro e w1 ⟨rfl,rfl⟩
 repeat' first|go_step|simp only[];go_at_K
 exact enR ⟨rfl,hk.out,U⟩
end Go.Proofs.YtijhlbeipglieaaGreat
namespace aA
open Go Go.RowKit List
theorem jK.cut{e:TypeId}{w:World}{A:Option Addr}{n c:Nat}{l:List UInt8}(h:jK e w A n c l)(k:Nat)(hk:k≤n):jK e w A k k (l.take k):=by
 have hr:=h.rd.pre k hk
 cases A with
 |none=>
  have h0:k=0:=by
   rcases Nat.eq_zero_or_pos k with h0|h0
   ·exact h0
   ·obtain⟨ad,e1,-⟩:=h.rd.2 (by omega)
    cases e1
  subst h0
  exact .inl (aT.nil _ _)
 |some ad=>
  right
  refine⟨rfl,hr,?_⟩
  rcases h with h1|h1
  ·rcases h1.own.2 with⟨hv,_⟩|⟨g,cap,cur,hv,_,hg,_⟩
   ·injection hv with hA;cases hA
   ·injection hv with hA;injection hA with hA;subst hA;exact⟨g,cur,rfl,hg⟩
  ·exact h1.blk
end aA
namespace Go.Proofs.YtijhlbeipglieaaGreat
open Go.RowKit aA Tryz List
theorem ER(w:World)(g:Nat)(A:Option Addr)(n c:Nat)(b:List UInt8)(s:Nat)(h:iJ w g A n c b s)(k:Nat)(hk:k≤n) :
  Calls prog 120 #[.pointer (some ⟨g,0,none⟩),.int .i64 (k:Int)] w fun e w'=>e=.returned (.tuple #[])∧ak w' g 197 #[.slice A k k,.int .i64 (s:Int)]∧jK 5 w' A k k (b.take k)∧aa [g] [g] w w':=by
 obtain⟨⟨q0,q1⟩,f0,f1⟩:=h.blk.c2
 have hn:n=b.length:=h.row.len
 have hc:=h.row.le
 have hcut:=hdn (h.row.cut k hk)
 have hne:=h.ne
 have hB:=hdn (h.blk.aO 0 (.slice A k k))
 have u:aa [g] [g] w (w.setCell ⟨g,0,none⟩ (.slice A k k)):=(aa.refl [g] w).setCell (p:=⟨g,0,none⟩) (.inl (by simp)) _
 have hln:=h.len
 clear h
 go_enter func120,ntmps120
 refine wk ?_
 exact enR ⟨rfl,hB.out,hcut.out.upd u (fun x hx=>by simp only[mem_singleton];exact hne x hx),u⟩
def kN(n s:Nat)(k:Int):Nat:=s+(max 0 (min k ((n:Int)-s))).toNat
theorem PI(w:World)(g:Nat)(A:Option Addr)(n c:Nat)(b:List UInt8)(s:Nat)(h:iJ w g A n c b s)(k:Int) :
  Calls prog 67 #[.pointer (some ⟨g,0,none⟩),.int .i64 k] w fun e w'=>e=.returned (.tuple #[])∧iJ w' g A (kN b.length s k) (kN b.length s k) (b.take (kN b.length s k)) (kN b.length s k)∧aa [g] [g] w w':=by
 obtain⟨⟨q0,q1⟩,f0,f1⟩:=h.blk.c2
 have hn:n=b.length:=h.row.len
 have hs:=h.s
 have hln:=h.len
 have hK:s≤kN b.length s k∧kN b.length s k≤b.length:=by unfold kN;omega
 have e1:=aA.wr ((n:Int)-(s:Int))
 obtain⟨K,YN⟩:=ex1 (kN b.length s k)
 have HKE:=hdn (show(K:Int)=(s:Int)+max 0 (min k ((n:Int)-s)) by rw[←YN,hn];unfold kN;omega)
 rw[YN]at hK ⊢
 clear YN
 go_enter func67,ntmps67
 repeat' go_step
 go_region
 all_goals (repeat' go_step)
 have h0:iJ w.drew g A b.length c b s:=hn▸h.upd (aa.refl [] w).drew (by simp) (by simp)
 rw[show((s:Int)+if 0<(if(b.length:Int)-(s:Int)<k then(b.length:Int)-(s:Int)else k) then(if(b.length:Int)-(s:Int)<k then(b.length:Int)-(s:Int)else k)else 0)=(K:Int) by
  rw[HKE.out,hn];split<;>split<;>omega]
 refine(ER w.drew g A b.length c b s h0 K hK.2).mono ?_;rintro e w1 ⟨rfl,hB1,fI,hu1⟩
 obtain⟨⟨p0,p1⟩,g0,g1⟩:=hB1.c2
 have hne:=h.ne
 have u2:aa [g] [g] w1 (w1.setCell ⟨g,1,none⟩ (.int .i64 (K:Int))):=(aa.refl [g] w1).setCell (p:=⟨g,1,none⟩) (.inl (by simp)) _
 have KEY:=hdn (show iJ (w1.setCell ⟨g,1,none⟩ (.int .i64 (K:Int))) g A K K (b.take K) K from⟨hB1.aO 1 _,fI.upd u2 (fun x hx=>by simp only[mem_singleton];exact hne x hx),hne,by rw[length_take];omega,by rw[length_take];omega⟩)
 have UU:=(((aa.refl [g] w).drew).trans hu1).trans u2
 clear h h0 hB1 fI hu1 u2
 refine wk ?_
 exact enR ⟨rfl,KEY.out,UU⟩
theorem XV(w:World)(g:Nat)(A:Option Addr)(n c:Nat)(b:List UInt8)(s:Nat)(h:iJ w g A n c b s)(k:Nat)(hk:k≤b.length) :
  Calls prog 74 #[.pointer (some ⟨g,0,none⟩),.int .i64 (k:Int)] w fun e w'=>e=.returned (.int .i64 0)∧iJ w' g A k k (b.take k) (min s k)∧aa [g] [g] w w':=by
 have hn:n=b.length:=h.row.len
 have hs:=h.s
 have hln:=h.len
 have hne:=h.ne
 have C:=ER w g A n c b s h k (by omega)
 obtain⟨⟨q0,q1⟩,f0,f1⟩:=h.blk.c2
 have d0:decide ((k:Int)<0)=false:=dFo
 have d1:decide (n<k)=false:=dFo
 have HN:=hdn hn
 clear hn h
 go_enter func74,ntmps74
 repeat' first|go_guarded|go_step
 refine C.mono ?_;rintro e w1 ⟨rfl,hB1,fI,hu1⟩
 obtain⟨⟨p0,p1⟩,g0,g1⟩:=hB1.c2
 have u2:aa [g] [g] w1 (w1.setCell ⟨g,1,none⟩ (.int .i64 ((min s k:Nat):Int))):=(aa.refl [g] w1).setCell (p:=⟨g,1,none⟩) (.inl (by simp)) _
 have KEY:=hdn (show iJ (w1.setCell ⟨g,1,none⟩ (.int .i64 ((min s k:Nat):Int))) g A k k (b.take k) (min s k) from⟨hB1.aO 1 _,fI.upd u2 (fun x hx=>by simp only[mem_singleton];exact hne x hx),hne,by rw[length_take];omega,by rw[length_take];omega⟩)
 have UU:=hdn (hu1.trans u2)
 have alR:(if k<s then(k:Int) else(s:Int))=((min s k:Nat):Int):=by split<;>omega
 clear hB1 fI hu1 u2 C
 refine wk ?_
 go_ret
 exact⟨rfl,KEY.out,UU.out⟩
def bu(me:Int)(l:List Int):Nat→List Int
 |0=>l
 |i+1=>if(i:Int)≠me∧l.getD i 0<1000000 then(bu me l i).set i (l.getD i 0+1)else bu me l i
theorem yC(me:Int)(l:List Int)(i:Nat):(bu me l i).length=l.length:=by
 induction i with
 |zero=>rfl
 |succ i ih=>unfold bu;split<;>simp[ih]
theorem wY(me:Int)(l:List Int):∀(i j:Nat),i≤j→(bu me l i).getD j 0=l.getD j 0
 |0,_,_=>rfl
 |i+1,j,h=>by
  unfold bu
  split
  ·rw[List.getD_eq_getElem?_getD,List.getElem?_set_ne (by omega),←List.getD_eq_getElem?_getD]
   exact wY me l i j (by omega)
  ·exact wY me l i j (by omega)
theorem wZ(me:Int){l:List Int}(h:∀x∈l,0≤x):∀i,∀x∈bu me l i,0≤x
 |0=>h
 |i+1=>by
  unfold bu
  intro x hx
  split at hx
  ·rename_i hc
   rcases mem_or_eq_of_mem_set hx with hx|rfl
   ·exact wZ me h i x hx
   ·have:0≤l.getD i 0:=by
     rw[List.getD_eq_getElem?_getD]
     cases hq:l[i]? with
     |none=>simp
     |some y=>exact h y (mem_of_getElem? hq)
    omega
  ·exact wZ me h i x hx
theorem PK(w:World)(g:Nat)(me n:Nat)(p:Int)(l:List Int)(h:lC w g me n p l)(hn:n≤7)(hx:∀x∈l,0≤x) :
  Calls prog 94 #[.pointer (some ⟨g,0,none⟩)] w fun e w'=>e=.returned (.tuple #[])∧lC w' g me n p (bu me l n)∧aa [g] [g] w w':=by
 have q1:w.cell? ⟨g,1,none⟩=some (.int .i64 (n:Int)):=h.1.cell 1
 have hl:=h.2
 go_enter func94,ntmps94
 refine wk ?_
 go_loopw [9] (fun v9 wr=>∃i:Nat,i≤n∧v9=.int .i64 (i:Int)∧lC wr g me n p (bu me l i)∧aa [g] [g] w wr) (fun v9 _=>n-(intOf v9).toNat)
 case atStart=>exact⟨0,by omega,rfl,h,aa.refl _ _⟩
 case round=>
  obtain⟨i,hi,rfl,hr,U⟩:=hrel
  by_cases hlt:i<n
  ·have hil:(i:Int)<(n:Int):=by omega
   have Wu:(i:Int)<7:=by omega
   have hw1:=aA.wr ((i:Int)+1)
   have hlen:i<(bu me l i).length:=by rw[yC];omega
   have hat:(bu me l i)[i]=l.getD i 0:=by
    have:=wY me l i i (Nat.le_refl _)
    rw[List.getD_eq_getElem?_getD,List.getElem?_eq_getElem hlen]at this
    exact this
   obtain⟨y,hy⟩:=ex1 (l.getD i 0)
   have hy0:0≤y:=by
    rw[←hy,List.getD_eq_getElem?_getD,List.getElem?_eq_getElem (by omega)]
    exact hx _ (getElem_mem _)
   have hc:wr.cell? ⟨g,3+i,none⟩=some (.int .i64 y):=by rw[hr.cell hlen,hat,hy]
   have hf:=hr.1.frozen (3+i)
   have p0:wr.cell? ⟨g,0,none⟩=some (.int .i64 (me:Int)):=hr.1.cell 0
   have HG:=hdn (show bu me l (i+1)=if(i:Int)≠me∧y<1000000 then(bu me l i).set i (y+1)else bu me l i by rw[bu,hy])
   clear hat hy hlen
   cases hm:((i:Int) != (me:Int)) with
   |false=>
    have hG:bu me l (i+1)=bu me l i:=by rw[HG.out,if_neg (fun hh=>by have:=hh.1;simp at hm;omega)]
    have KEY:=hdn (show lC wr g me n p (bu me l (i+1)) by rw[hG];exact hr)
    clear hG hr h HG
    refine wk ?_
    exact⟨⟨i+1,by omega,by simp,KEY.out,U⟩,by simp[intOf];omega⟩
   |true=>
    have hne:(i:Int)≠me:=by simpa using hm
    by_cases hy1:y<1000000
    ·have d1:decide (y<1000000)=true:=dTx hy1
     have hw2:=aA.wr (y+1)
     have hG:bu me l (i+1)=(bu me l i).set i (y+1):=by rw[HG.out,if_pos ⟨hne,hy1⟩]
     have u2:aa [g] [g] wr (wr.setCell ⟨g,3+i,none⟩ (.int .i64 (y+1))):=(aa.refl [g] wr).setCell (p:=⟨g,3+i,none⟩) (.inl (by simp)) _
     have KEY:=hdn (show lC (wr.setCell ⟨g,3+i,none⟩ (.int .i64 (y+1))) g me n p (bu me l (i+1)) by rw[hG];exact hr.set i (y+1))
     have UU:=hdn (U.trans u2)
     clear hG hr h HG u2 U hne
     repeat' first|go_guarded|go_step
     go_region
     all_goals (refine wk ?_)
     all_goals exact⟨⟨i+1,by omega,by simp,KEY.out,UU.out.drew⟩,by simp[intOf];omega⟩
    ·have d1:decide (y<1000000)=false:=dFx hy1
     have hG:bu me l (i+1)=bu me l i:=by rw[HG.out,if_neg (fun hh=>hy1 hh.2)]
     have KEY:=hdn (show lC wr g me n p (bu me l (i+1)) by rw[hG];exact hr)
     clear hG hr h HG
     refine wk ?_
     exact⟨⟨i+1,by omega,by simp,KEY.out,U⟩,by simp[intOf];omega⟩
  ·obtain rfl:i=n:=by omega
   have hil:¬ ((i:Int)<(i:Int)):=by omega
   have KEY:=hdn hr
   clear h hr
   refine wk ?_
   exact enR ⟨rfl,KEY.out,U⟩
