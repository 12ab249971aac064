/- For SitePlays. -/
import Derived.Test.YtijhlbeipglieaaGreatPkNet
set_option linter.all false
set_option maxRecDepth 100000
set_option maxHeartbeats 4000000
namespace Go.Proofs.YtijhlbeipglieaaGreat
open Go Go.RowKit aA Tryz List
theorem Bf{α β:Type}{f:α→List β}{s:Nat}(hs:∀x,(f x).length=s)(l:List α):(l.flatMap f).length=l.length*s:=by
 induction l with
 |nil=>simp
 |cons x l ih=>simp[hs,ih,Nat.add_mul,Nat.add_comm]
theorem flat_get{α β:Type}{f:α→List β}{s:Nat}(hs:∀x,(f x).length=s)(l:List α):∀(i j:Nat)(hi:i<l.length),j<s→(l.flatMap f)[i*s+j]? =(f l[i])[j]?:=by
 induction l with
 |nil=>intro i j hi;simp at hi
 |cons x l ih=>
  intro i j hi hj
  rw[flatMap_cons]
  cases i with
  |zero=>rw[List.getElem?_append_left (by rw[hs];omega)];simp
  |succ i=>
   have e:(i+1)*s+j=s+(i*s+j):=by rw[Nat.add_mul];omega
   rw[e,List.getElem?_append_right (by rw[hs];omega),hs,Nat.add_sub_cancel_left]
   simpa using ih i j (by simpa using hi) hj
theorem fld(a:Addr)(m j:Nat)(hj:0<j):(⟨(a.add m).block,(a.add m).off+j,none⟩:Addr)=a.add (m+j):=by
 rw[←wS]
 generalize a.add m=x
 unfold Addr.add;rw[if_neg (by omega)]
structure bR{α:Type}(f:α→List Value)(s:Nat)(w:World)(A:Option Addr)(n:Nat)(l:List α):Prop where
 len:n=l.length
 rd:Rd w s A n (l.flatMap f)
section
variable {α:Type} {f:α→List Value} {s:Nat} {w w':World} {A:Option Addr} {n:Nat} {l:List α}
theorem bR.upd{a b:List Nat}(h:bR f s w A n l)(hu:aa a b w w')(hd:∀k∈ah A,k∉a:=by simp):bR f s w' A n l:=⟨h.len,h.rd.upd hu hd⟩
theorem bR.au{b:List Nat}(h:bR f s w A n l)(hu:aa [] b w w'):bR f s w' A n l:=h.upd hu
theorem bR.some_(h:bR f s w A n l)(hl:0<l.length):∃ad,A=some ad:=by
 obtain⟨ad,e,_⟩:=h.rd.2 (by rw[h.len];exact hl)
 exact⟨ad,e⟩
theorem bR.at_(hs:∀x,(f x).length=s)(h:bR f s w A n l){i:Nat}(hi:i<l.length):∃ad,A=some ad∧(∀u,(f l[i])[0]? =some u→w.cell? (ad.add (i*s))=some u)∧
  ∀j u,0<j→(f l[i])[j]? =some u→w.cell? ⟨(ad.add (i*s)).block,(ad.add (i*s)).off+j,none⟩=some u:=by
 obtain⟨ad,e,hc⟩:=h.rd.2 (by rw[h.len];omega)
 refine⟨ad,e,fun u hu=>?_,fun j u hj hu=>?_⟩
 ·have hl:0<s:=by
   rcases Nat.eq_zero_or_pos s with h0|h0
   ·have:=hs l[i];rw[h0]at this;rw[eq_nil_of_length_eq_zero this]at hu;simp at hu
   ·exact h0
  exact hc _ _ (by rw[←hu];simpa using flat_get hs l i 0 hi hl)
 ·have hl:j<s:=by
   rcases Nat.lt_or_ge j s with h0|h0
   ·exact h0
   ·rw[List.getElem?_eq_none (by rw[hs];exact h0)]at hu;cases hu
  rw[fld _ _ _ hj]
  exact hc _ _ (by rw[←hu];exact flat_get hs l i j hi hl)
theorem bR.of(hs:∀x,(f x).length=s)(ad:Addr)(hc:∀i (hi:i<l.length) j u,(f l[i])[j]? =some u→w.cell? (ad.add (i*s+j))=some u):bR f s w (some ad) l.length l:=by
 refine⟨rfl,by rw[Bf hs],fun _=>⟨ad,rfl,fun j u hu=>?_⟩⟩
 have hj:j<l.length*s:=by
  rcases Nat.lt_or_ge j (l.length*s)with h|h
  ·exact h
  ·rw[List.getElem?_eq_none (by rw[Bf hs];exact h)]at hu;cases hu
 have h0:0<s:=by
  rcases Nat.eq_zero_or_pos s with h0|h0
  ·rw[h0]at hj;omega
  ·exact h0
 have hi:j / s<l.length:=Nat.div_lt_of_lt_mul (by rw[Nat.mul_comm];exact hj)
 have hm:=Nat.div_add_mod j s
 have hm':j=j / s*s+j % s:=by rw[Nat.mul_comm];omega
 rw[hm']at hu ⊢
 rw[flat_get hs l _ _ hi (Nat.mod_lt _ h0)]at hu
 exact hc _ hi _ _ hu
end
structure Rv where
 k:Int
 s:Int
 r:Int
 t:Int
 A:Option Addr
 n:Nat
 c:Nat
 b:List UInt8
def Rv.cells(x:Rv):List Value:=[.int .i64 x.k,.int .i64 x.s,.int .i64 x.r,.int .i64 x.t,.slice x.A x.n x.c]
def Rv.val(x:Rv):Value:=.agg x.cells.toArray
def Rv.rc(x:Rv):Rc:=⟨x.k,x.s,x.r,x.t,x.b⟩
theorem Rv.aH(x:Rv):x.val=.agg #[.int .i64 x.k,.int .i64 x.s,.int .i64 x.r,.int .i64 x.t,.slice x.A x.n x.c]:=rfl
theorem Rv.iG(x:Rv):x.cells.length=5:=rfl
theorem YG{r:Rc}(h:¬ r.May):(r.slot<0∨4096≤r.slot)∨(0≤r.slot∧r.slot<4096)∧((r.round<0∨1099511627776<r.round)∨(0≤r.round∧r.round≤1099511627776)∧((r.site<0∨7≤r.site)∨(0≤r.site∧r.site<7)∧(r.kind=1∧¬ r.val.length=0∨¬ r.kind=1∧¬ r.kind=2∨¬ r.kind=1∧r.kind=2∧2048<r.val.length))):=by
 by_cases h1:r.slot<0∨4096≤r.slot
 ·exact .inl h1
 refine .inr ⟨by omega,?_⟩
 by_cases h2:r.round<0∨1099511627776<r.round
 ·exact .inl h2
 refine .inr ⟨by omega,?_⟩
 by_cases h3:r.site<0∨7≤r.site
 ·exact .inl h3
 refine .inr ⟨by omega,?_⟩
 by_cases h4:r.kind=1
 ·refine .inl ⟨h4,fun h5=>h ⟨.inl ⟨h4,h5⟩,by omega,by omega,by omega,by omega⟩⟩
 ·by_cases h5:r.kind=2
  ·refine .inr (.inr ⟨h4,h5,?_⟩)
   rcases Nat.lt_or_ge 2048 r.val.length with h6|h6
   ·exact h6
   ·exact absurd ⟨.inr h5,by omega,by omega,by omega,h6⟩ h
  ·exact .inr (.inl ⟨h4,h5⟩)
theorem Ac(x:Rv)(w:World)(hr:aD w x.A x.n x.b)(hm:x.rc.May) :
  Calls prog 256 #[x.val] w fun e w'=>e=.returned (.bool true)∧aa [] [] w w':=by
 obtain⟨k,s,r,t,A,n,c,b⟩:=x
 obtain⟨h1,⟨h2,h2'⟩,⟨h3,h3'⟩,⟨h4,h4'⟩,h5⟩:=hm
 simp only[Rv.rc]at h1 h2 h2' h3 h3' h4 h4' h5
 have hn:=hr.len
 simp only at hn
 have g2:s<4096:=by omega
 have g4:t<7:=by omega
 clear h2' h4'
 rw[Rv.aH]
 rcases h1 with⟨rfl,h6⟩|rfl
 ·obtain rfl:n=0:=by omega
  clear hn hr h6 h5
  go_enter func256,ntmps256
  repeat' first|go_guarded|go_step
  go_ret
  exact⟨rfl,(aa.refl _ _).alloc _⟩
 ·have hnl:(n:Int)≤2048:=by omega
  clear hn hr h5
  go_enter func256,ntmps256
  repeat' first|go_guarded|go_step
  go_ret
  exact⟨rfl,(aa.refl _ _).alloc _⟩
theorem NP(x:Rv)(w:World)(hr:aD w x.A x.n x.b)(hm:¬ x.rc.May) :
  Calls prog 256 #[x.val] w fun e w'=>e=.returned (.bool false)∧aa [] [] w w':=by
 obtain⟨k,s,r,t,A,n,c,b⟩:=x
 have hn:=hr.len
 have hm:=YG hm
 simp only[Rv.rc]at hm hn
 rw[Rv.aH]
 rcases hm with h1|⟨⟨h1,h1'⟩,h2|⟨⟨h2,h2'⟩,h3|⟨⟨h3,h3'⟩,h4|h4|h4⟩⟩⟩
 ·clear hn hr
  rcases h1 with h1|h1
  ·go_enter func256,ntmps256
   refine wk ?_
   go_ret
   exact⟨rfl,(aa.refl _ _).alloc _⟩
  ·have h0:0≤s:=by omega
   go_enter func256,ntmps256
   refine wk ?_
   go_ret
   exact⟨rfl,(aa.refl _ _).alloc _⟩
 ·clear hn hr
  rcases h2 with h2|h2
  ·go_enter func256,ntmps256
   repeat' first|go_skip|go_guarded|go_step
   go_ret
   exact⟨rfl,(aa.refl _ _).alloc _⟩
  ·have h0:0≤r:=by omega
   go_enter func256,ntmps256
   repeat' first|go_guarded|go_step
   go_ret
   exact⟨rfl,(aa.refl _ _).alloc _⟩
 ·clear hn hr
  rcases h3 with h3|h3
  ·go_enter func256,ntmps256
   repeat' first|go_skip|go_guarded|go_step
   go_ret
   exact⟨rfl,(aa.refl _ _).alloc _⟩
  ·have h0:0≤t:=by omega
   go_enter func256,ntmps256
   repeat' first|go_guarded|go_step
   go_ret
   exact⟨rfl,(aa.refl _ _).alloc _⟩
 ·obtain⟨rfl,h5⟩:=h4
  have h6:((n:Int)==0)=false:=by simp;omega
  clear hn hr h5
  go_enter func256,ntmps256
  repeat' first|go_guarded|go_step
  go_ret
  exact⟨rfl,(aa.refl _ _).alloc _⟩
 ·obtain⟨h5,h6⟩:=h4
  have h5':(k==1)=false:=by simp[h5]
  have h6':(k==2)=false:=by simp[h6]
  clear hn hr h5 h6
  go_enter func256,ntmps256
  repeat' first|go_skip|go_guarded|go_step
  go_ret
  exact⟨rfl,(aa.refl _ _).alloc _⟩
 ·obtain⟨h5,rfl,h6⟩:=h4
  have h6':decide ((n:Int)≤2048)=false:=by simp;omega
  clear hn hr h5 h6
  go_enter func256,ntmps256
  repeat' first|go_guarded|go_step
  go_ret
  exact⟨rfl,(aa.refl _ _).alloc _⟩
theorem SB(w:World)(g:Nat)(A:Option Addr)(k c:Nat)(l:List UInt8)(B:Option Addr)(m d:Nat)(ns:List Nat)(hw:Wr w g A k c l)(hr:Rd w 1 B m (wT ns))(hI:∀n∈ns,n≤9223372036854775807)(hB:∀j∈ah B,j∉g::ah A)(hBl:∀j∈ah B,j<w.heap.size)(hm:m≤1000)(hl:l.length≤100000000) :
  Calls prog 276 #[.pointer (some ⟨g,0,none⟩),.slice B m d] w fun e w'=>e=.returned (.tuple #[])∧∃A' k' c',Wr w' g A' k' c' (l++ns.flatMap dL)∧aa (g::ah A) (g::ah A') w w':=by
 have hn:ns.length=m:=by have:=hr.1;simpa[wT]using this
 subst hn
 have hU:∀n∈ns,dZ n:=fun n hn=>dZ.small (by have:=hI n hn;omega)
 have hlen:=Gt hU
 go_enter func276,ntmps276
 refine wk ?_
 go_loopw [8] (fun v8 wr=>∃(i:Nat)(A2:Option Addr)(k2 c2:Nat),i≤ns.length∧v8=.int .i64 (i:Int)∧Wr wr g A2 k2 c2 (l++(ns.take i).flatMap dL)∧aa (g::ah A) (g::ah A2) w wr)
  (fun v8 _=>ns.length-(intOf v8).toNat)
 case atStart=>exact⟨0,A,k,c,by omega,rfl,by simpa using hw,aa.refl _ _⟩
 case round=>
  obtain⟨i,A2,k2,c2,hi,rfl,hw2,hu⟩:=hrel
  have Ae:=hlen i
  by_cases hlt:i<ns.length
  ·have hrr:=hr.upd hu hB
   obtain⟨ad,u,rfl,hx,acM⟩:=Rd.at_ hrr (k:=i) hlt
   rw[SC ns i hlt]at hx
   obtain rfl:=Option.some.inj hx
   have HS:=hdn (EG hlt)
   have hxI:=hI ns[i] (getElem_mem hlt)
   have hxU:=hU ns[i] (getElem_mem hlt)
   generalize ns[i]=x at *
   have hx0:(0:Int)≤(x:Int):=by omega
   have hx1:(x:Int)≤9223372036854775807:=by omega
   have apJ:IntKind.u64.wrap (x:Int)=(x:Int):=by rw[IntKind.wrap_u64];omega
   clear hx hr
   repeat' (fail_if_success with_reducible refine Ag rfl ?_);go_step
   refine(wU (x:Int) wr g A2 k2 c2 _ (by omega) (by simpa using hxU) hw2 (by simp only[length_append];omega)).mono ?_
   rintro e w3 ⟨rfl,A3,k3,c3,hw3,hu3⟩
   rw[Int.toNat_natCast,append_assoc,←HS.out]at hw3
   refine wk ?_
   exact⟨⟨i+1,A3,k3,c3,by omega,rfl,hw3,hu.trans hu3⟩,by simp[intOf];omega⟩
  ·obtain rfl:i=ns.length:=by omega
   rw[take_length]at hw2
   refine wk ?_
   go_end0
   exact⟨rfl,A2,k2,c2,hw2,hu⟩
theorem NQ(x:Rv)(w:World)(hr:aD w x.A x.n x.b)(hm:x.rc.May) :
  Calls prog 247 #[x.val] w fun e w'=>∃A' k' c',e=.returned (.tuple #[.slice A' k' c',.int .i64 0])∧aT 5 w' A' k' c' x.rc.bytes∧aa [] (ah A') w w':=by
 have C:=fun w hr=>Ac x w hr hm
 have h1:=hm.kind
 have h2:=hm.slot
 have h3:=hm.round
 have h4:=hm.site
 have hU:=hm.U
 have hv:=hm.val
 have HB:Hid (x.rc.bytes=x.rc.ns.flatMap dL++dL x.b.length++x.b):=by unfold Hid Rc.bytes jr;rw[append_assoc];rfl
 have HN:Hid (wT x.rc.ns= [.int .i64 x.k,.int .i64 x.s,.int .i64 x.r,.int .i64 x.t]):=by
  unfold Hid wT Rc.ns
  simp only[Rv.rc]at h1 h2 h3 h4 ⊢
  simp only[map_cons,map_nil,List.cons.injEq,Value.int.injEq,true_and,and_true]
  omega
 have hnl:x.rc.ns.length=4:=rfl
 have Pz:=hdn hnl;clear hnl
 have hns:∀n∈x.rc.ns,n≤9223372036854775807:=by
  intro n hn
  simp only[Rv.rc]at h1 h2 h3 h4
  simp only[Rc.ns,Rv.rc,mem_cons,not_mem_nil,or_false]at hn
  rcases hn with rfl|rfl|rfl|rfl<;>omega
 have hvl:x.b.length≤2048:=hv
 have hlb:=sZ hU
 have EH:=hdn hr.lt
 generalize x.rc.ns=ns at *
 rw[Rv.aH]at C ⊢
 clear h1 h2 h3 h4 hm hv
 go_enter func247,ntmps247
 repeat' (fail_if_success with_reducible refine Ag rfl ?_);go_step
 refine(C _ (hr.alloc _)).mono ?_
 rintro e w1 ⟨rfl,hu1⟩
 have hX:=(ak.new w 147 #[.int .i64 x.k,.int .i64 x.s,.int .i64 x.r,.int .i64 x.t,.slice x.A x.n x.c]).upd hu1
 have U1:aa [] [] w w1:=((aa.refl _ _).alloc _).trans hu1
 have hX2:=hX.alloc (.cells #[.slice none 0 0] 204)
 obtain⟨⟨q0,q1,q2,q3,q4⟩,-⟩:=hX2.c5
 have hlt:=hX.lt
 clear C hu1
 repeat' first|go_step|simp only[];go_at_K
 clear q0 q1 q2 q3 q4
 have hW:Wr ((w1.alloc (.cells #[.slice none 0 0] 204)).alloc (.cells #[.int .i64 x.k,.int .i64 x.s,.int .i64 x.r,.int .i64 x.t] 3)) w1.heap.size none 0 0 []:=⟨(ak.new _ _ _).alloc _,((aT.nil _ _).alloc _).alloc _⟩
 have nO:Rd ((w1.alloc (.cells #[.slice none 0 0] 204)).alloc (.cells #[.int .i64 x.k,.int .i64 x.s,.int .i64 x.r,.int .i64 x.t] 3)) 1 (some ⟨w1.heap.size+1,0,none⟩) 4 (wT ns):=by
  have:=Rd.blk (w:=((w1.alloc (.cells #[.slice none 0 0] 204)).alloc (.cells #[.int .i64 x.k,.int .i64 x.s,.int .i64 x.r,.int .i64 x.t] 3))) (n:=4) (size:=1) (cs:=wT ns) (t:=3) (g:=w1.heap.size+1) (by rw[HN.out];have:=ak.new (w1.alloc (.cells #[.slice none 0 0] 204)) 3 #[.int .i64 x.k,.int .i64 x.s,.int .i64 x.r,.int .i64 x.t];rwa [World.size_alloc]at this) (by rw[HN.out];rfl)
  exact this
 refine(SB _ w1.heap.size none 0 0 [] _ 4 4 ns hW nO hns (by simp[ah]) (by simp[ah]) (by omega) (by simp)).mono ?_
 rintro e w2 ⟨rfl,A2,k2,c2,hw2,hu2⟩
 rw[nil_append]at hw2
 have U2:aa [] (w1.heap.size::ah A2) w w2:=(((U1.alloc _).alloc _).gives (b':=w1.heap.size::ah none) (by have:=U1.size;simp[ah];omega)).trans hu2
 have yA:=(hX2.alloc (.cells #[.int .i64 x.k,.int .i64 x.s,.int .i64 x.r,.int .i64 x.t] 3)).upd hu2 (by simp[ah];omega)
 obtain⟨⟨q0,q1,q2,q3,q4⟩,-⟩:=yA.c5
 clear hW nO hu2 hX hX2 U1
 repeat' first|go_step|simp only[];go_at_K
 clear q0 q1 q2 q3 q4
 refine(Af w2 w1.heap.size A2 k2 c2 _ x.A x.n x.c x.b (hr.upd U2) ?_ hw2 (by rw[Pz.out]at hlb;omega)).mono ?_
 ·intro h0 j hj hm
  have h1:=EH.out h0 j hj
  rcases U2.fresh j hm with h2|h2
  ·cases h2
  ·omega
 rintro e w3 ⟨rfl,A3,k3,c3,hw3,hu3⟩
 have U3:=U2.trans hu3
 clear U2 hu3 hw2 yA
 repeat' (fail_if_success with_reducible refine Ag rfl ?_);first|go_step|simp only[];go_at_K
 refine(Cc w3 w1.heap.size A3 k3 c3 _ hw3 ?_).mono ?_
 ·have:=jE (n:=x.b.length) (dZ.small (by omega));rw[Pz.out]at hlb;simp only[length_append];omega
 rintro e w4 ⟨A4,k4,c4,rfl,bY,bM⟩
 refine wk ?_
 go_ret2
 rw[←HB.out]at bY
 exact⟨A4,k4,c4,rfl,bY,U3.g0.trans bM⟩
structure tu(w:World)(A:Option Addr)(n:Nat)(l:List Rv):Prop where
 rd:bR Rv.cells 5 w A n l
 each:∀x∈l,aD w x.A x.n x.b
theorem tu.upd{w w':World}{A:Option Addr}{n:Nat}{l:List Rv}{b:List Nat}(h:tu w A n l)(hu:aa [] b w w'):tu w' A n l:=
 ⟨h.rd.au hu,fun x hx=>(h.each x hx).upd hu⟩
theorem tu.len{w:World}{A:Option Addr}{n:Nat}{l:List Rv}(h:tu w A n l):n=l.length:=h.rd.len
theorem tu.at_{w:World}{A:Option Addr}{n:Nat}{l:List Rv}(h:tu w A n l){i:Nat}(hi:i<l.length):∃ad,A=some ad∧w.cell? (ad.add (i*5))=some (.int .i64 l[i].k)∧w.cell? ⟨(ad.add (i*5)).block,(ad.add (i*5)).off+1,none⟩=some (.int .i64 l[i].s)∧
  w.cell? ⟨(ad.add (i*5)).block,(ad.add (i*5)).off+2,none⟩=some (.int .i64 l[i].r)∧w.cell? ⟨(ad.add (i*5)).block,(ad.add (i*5)).off+3,none⟩=some (.int .i64 l[i].t)∧w.cell? ⟨(ad.add (i*5)).block,(ad.add (i*5)).off+4,none⟩=some (.slice l[i].A l[i].n l[i].c):=by
 obtain⟨ad,e,h0,hj⟩:=h.rd.at_ Rv.iG hi
 exact⟨ad,e,h0 _ rfl,hj 1 _ (by omega) rfl,hj 2 _ (by omega) rfl,hj 3 _ (by omega) rfl,hj 4 _ (by omega) rfl⟩
def cK(l:List Rv):List Rc:=l.map Rv.rc
theorem SE{l:List Rv}{i:Nat}(h:i<l.length):bn (cK (l.take (i+1)))=bn (cK (l.take i))++put l[i].rc.bytes:=by
 unfold cK
 rw[take_succ_eq_append_getElem h,map_append,jJ];simp[bn]
theorem Hd(l:List Rv)(i:Nat):(bn (cK (l.take i))).length≤(bn (cK l)).length:=by
 have:bn (cK l)=bn (cK (l.take i))++bn (cK (l.drop i)):=by unfold cK;rw[←jJ,←map_append,take_append_drop]
 rw[this,length_append];omega
theorem XP(w:World)(A:Option Addr)(n c:Nat)(l:List Rv)(hr:tu w A n l)(hm:∀x∈l,x.rc.May)(hn:n≤140737488355328)(hb:(bn (cK l)).length≤140737488355328) :
  Calls prog 189 #[.slice A n c] w fun e w'=>∃A' k' c',e=.returned (.tuple #[.slice A' k' c',.int .i64 0])∧aT 5 w' A' k' c' (bn (cK l))∧aa [] (ah A') w w':=by
 obtain rfl:=hr.len
 go_enter func189,ntmps189
 repeat' go_step
 go_loopw [4,12] (fun v4 v12 wr=>∃(i:Nat)(A1:Option Addr)(k1 c1:Nat),i≤l.length∧v12=.int .i64 (i:Int)∧v4=.slice A1 k1 c1∧aT 5 wr A1 k1 c1 (bn (cK (l.take i)))∧aa [] (ah A1) w wr)
  (fun _ v12 _=>l.length-(intOf v12).toNat)
 case atStart=>exact⟨0,none,0,0,by omega,rfl,rfl,aT.nil _ _,aa.refl _ _⟩
 case round=>
  obtain⟨i,A1,k1,c1,hi,rfl,rfl,ho,hu⟩:=hrel
  by_cases hlt:i<l.length
  ·have hrr:=hr.upd hu
   obtain⟨ad,rfl,q0,q1,q2,q3,q4⟩:=hrr.at_ hlt
   have hxm:=hm l[i] (getElem_mem hlt)
   have jw:=hrr.each l[i] (getElem_mem hlt)
   have HS:=hdn (SE hlt)
   have hbl:=Hd l (i+1)
   rw[HS.out,length_append]at hbl
   have hxl:=hxm.len
   generalize l[i]=x at *
   have hxv:=x.aH
   have C:=NQ x (wr.alloc (.cells #[.int .i64 x.k,.int .i64 x.s,.int .i64 x.r,.int .i64 x.t,.slice x.A x.n x.c] 147)) (jw.alloc _) hxm
   rw[hxv]at C
   clear hxv hr hm
   repeat' go_step
   refine C.mono ?_;rintro e w1 ⟨A2,k2,c2,rfl,ho2,hu2⟩
   have hu2:aa [] (ah A2) wr w1:=((aa.refl [] wr).alloc _).trans hu2
   have ho1:=ho.upd hu2
   clear q0 q1 q2 q3 q4 C ho
   repeat' first|go_step|simp only[];go_at_K
   refine(He w1 A2 k2 c2 _ ho2.rd (by omega)).mono ?_;rintro e w2 ⟨A3,k3,c3,rfl,ho3,hu3⟩
   have Hf:=ho1.upd hu3
   have U3:aa [] (ah A1) w w2:=(hu.trans (hu2.up _)).trans (hu3.up _)
   clear ho1 ho2 hu2 hu3 hu
   refine bN ?_
   refine eD rfl _ _ 28 rfl 5 underlying28 gp Hf rfl ho3.rd rfl (by omega) ?_
   intro A4 k4 c4 w4 bY bM
   have U4:=U3.trans bM
   rw[←HS.out]at bY
   clear Hf ho3 bM
   refine wk ?_
   exact⟨⟨i+1,A4,k4,c4,by omega,by simp,rfl,bY,U4⟩,by simp[intOf];omega⟩
  ·obtain rfl:i=l.length:=by omega
   rw[take_length]at ho
   refine wk ?_
   go_ret2
   exact⟨A1,k1,c1,rfl,ho,hu⟩
def rZ(l:List Nat):List Value:=wT l++replicate (4-l.length) (.int .i64 0)
theorem EI{l:List Nat}(h:l.length<4)(x:Nat):(rZ l).toArray.setIfInBounds l.length (.int .i64 (x:Int))=(rZ (l++[x])).toArray:=by
 match l,h with
 |[],_=>rfl
 |[_],_=>rfl
 |[_,_],_=>rfl
 |[_,_,_],_=>rfl
theorem Hg{l:List Nat}(h:l.length≤4):∃y0 y1 y2 y3:Int,(rZ l).toArray=#[.int .i64 y0,.int .i64 y1,.int .i64 y2,.int .i64 y3]:=by
 match l,h with
 |[],_=>exact⟨_,_,_,_,rfl⟩
 |[_],_=>exact⟨_,_,_,_,rfl⟩
 |[_,_],_=>exact⟨_,_,_,_,rfl⟩
 |[_,_,_],_=>exact⟨_,_,_,_,rfl⟩
 |[_,_,_,_],_=>exact⟨_,_,_,_,rfl⟩
theorem Ce{l:List Nat}(h:l.length=4):∃n0 n1 n2 n3:Nat,l= [n0,n1,n2,n3]:=by
 match l,h with
 |[a,b,c,d],_=>exact⟨a,b,c,d,rfl⟩
theorem Rr.apart{w:World}{g:Nat}{A:Option Addr}{k c:Nat}{b:List UInt8}{a h:Nat}{t:TypeId}{cs:Array Value}(hr:Rr w g A k c b a)(hB:ak w h t cs)(ht:t≠5)(hg:g≠h):∀j∈g::ah A,j∉[h]:=by
 intro j hj
 simp only[mem_singleton]
 rintro rfl
 rcases mem_cons.1 hj with h|h
 ·exact hg h.symm
 ·exact hr.own.own.ne hB (Ne.symm ht) h
def abY(b:List UInt8)(w:World)(e:Ending):Prop:=
 (∃(i0 i1 i2 i3:Int)(A:Option Addr)(n c:Nat)(t:TypeId)(x:Value),body b msA=none∧e=.returned (.tuple #[.agg #[.int .i64 i0,.int .i64 i1,.int .i64 i2,.int .i64 i3,.slice A n c],.iface t x]))∨
 ∃(n0 n1 n2 n3:Nat)(v:List UInt8)(A:Option Addr)(n c:Nat),body b msA=some ([n0,n1,n2,n3],v)∧aT 5 w A n c v∧
  e=.returned (.tuple #[.agg #[.int .i64 (n0:Int),.int .i64 (n1:Int),.int .i64 (n2:Int),.int .i64 (n3:Int),.slice A n c],.nilIface])
theorem XQ{i:Nat}(h:i<4):∃m,msA[i]? =some m∧uL m:=by
 have:i=0∨i=1∨i=2∨i=3:=by omega
 rcases this with rfl|rfl|rfl|rfl<;>exact⟨_,rfl,by unfold uL;omega⟩
theorem YH{i:Nat}{m:Int}(h:msA[i]? =some m)(w:World):(Instr.index 359 (.agg #[.int .i64 2,.int .i64 4095,.int .i64 1099511627776,.int .i64 6]) (.int .i64 (i:Int))).run prog w=.ok (.int .i64 m) w:=by
 have hi:i<4:=(List.getElem?_eq_some_iff.1 h).1
 have:i=0∨i=1∨i=2∨i=3:=by omega
 rcases this with rfl|rfl|rfl|rfl<;>obtain rfl:=Option.some.inj h<;>exact(show _=_ by kernel_rfl)
theorem SF(w:World)(B:Option Addr)(m d:Nat)(b:List UInt8)(hB:aD w B m b)(hb:b.length≤140737488355328) :
  Calls prog 255 #[.slice B m d] w fun e w'=>abY b w' e∧aa [] [] w w':=by
 have hR0:=ak.new w 147 #[.int .i64 0,.int .i64 0,.int .i64 0,.int .i64 0,.slice none 0 0]
 go_enter func255,ntmps255
 repeat' go_step
 refine(SG _ B m d b (hB.alloc _) hb).mono ?_
 rintro e w1 ⟨g,A,k,c,rfl,hr1,hu1⟩
 have fI:=hR0.upd hu1
 have hg:w.heap.size<g:=by
  have:=hu1.fresh g (by simp)
  simp at this;omega
 have U1:aa [] [g] w w1:=(((aa.refl [] w).alloc _).trans hu1).gives (by simp;omega)
 have hgl:=hr1.blk.lt
 clear hu1 hR0
 repeat' first|go_step|simp only[];go_at_K
 have hG2:ak (w1.alloc (.cells #[.int .i64 0,.int .i64 0,.int .i64 0,.int .i64 0] 359)) w1.heap.size 359 (rZ []).toArray:=ak.new _ _ _
 have hR2:=fI.alloc (.cells #[.int .i64 0,.int .i64 0,.int .i64 0,.int .i64 0] 359)
 have hr2:Rr (w1.alloc (.cells #[.int .i64 0,.int .i64 0,.int .i64 0,.int .i64 0] 359)) g A k c b 0:=⟨hr1.blk.alloc _,hr1.own.alloc _,hr1.le⟩
 have U2:aa [] [g] w (w1.alloc (.cells #[.int .i64 0,.int .i64 0,.int .i64 0,.int .i64 0] 359)):=U1.alloc _
 clear fI hr1
 have hG0:w.heap.size≤w1.heap.size:=U1.size
 have hRG:w.heap.size≠w1.heap.size:=by omega
 go_loopw [16] (fun v16 wr=>∃(l:List Nat)(a:Nat),l.length≤4∧v16=.int .i64 (l.length:Int)∧mU b msA l a∧ak wr w1.heap.size 359 (rZ l).toArray∧ak wr w.heap.size 147 #[.int .i64 0,.int .i64 0,.int .i64 0,.int .i64 0,.slice none 0 0]∧Rr wr g A k c b a∧aa [] [g] w wr)
  (fun v16 _=>4-(intOf v16).toNat)
 case atStart=>exact⟨[],0,by simp,rfl,mU.zero _ _,hG2,hR2,hr2,U2⟩
 case round=>
  obtain⟨l,a,hl4,rfl,hst,hG,hR,hr,U⟩:=hrel
  clear hG2 hR2 hr2 U1 U2
  have hgG:w1.heap.size∉[g]:=by simp;omega
  have hgR:w.heap.size∉[g]:=by simp;omega
  by_cases hlt:l.length<4
  ·obtain⟨mo,hmo,hmI⟩:=XQ hlt
   have hix:=YH hmo
   have C:=KG wr g A k c b a mo hmI hr hb
   obtain⟨n,sz,bad,hu⟩:∃n sz bad,eB mo (b.drop a)=(n,sz,bad):=⟨_,_,_,rfl⟩
   rw[hu]at C
   by_cases hz:bad=0
   ·subst hz
    have HN:=hdn (hst.more hmo hu)
    have bC:=hdn (EI hlt n)
    simp only[ql]at C
    clear hst hmo hu
    obtain⟨y0,y1,y2,y3,hy⟩:=Hg hl4
    have hi4:l.length=0∨l.length=1∨l.length=2∨l.length=3:=by omega
    have hGn:∀W:World,ak W w1.heap.size 359 (rZ l).toArray→(∃y,W.cell? ⟨w1.heap.size,l.length,none⟩=some (.int .i64 y))∧W.frozen? ⟨w1.heap.size,l.length,none⟩=false:=by
     intro W hW
     refine⟨?_,hW.frozen _⟩
     rw[hy]at hW
     rcases hi4 with h|h|h|h<;>rw[h]
     ·exact⟨y0,hW.cell 0⟩
     ·exact⟨y1,hW.cell 1⟩
     ·exact⟨y2,hW.cell 2⟩
     ·exact⟨y3,hW.cell 3⟩
    have HGn:=hdn hGn
    clear hGn hy
    repeat' go_step
    refine C.mono ?_;rintro e w2 ⟨rfl,hr2,hu2⟩
    have hG2:=hG.upd hu2 hgG
    have hR2:=hR.upd hu2 hgR
    obtain⟨⟨y,hcy⟩,Wt⟩:=HGn.out _ hG2
    have U2:=U.trans hu2
    clear C hix hr hG hR U hu2 hi4
    refine wk ?_
    refine⟨⟨l++[n],a+sz,by simp;omega,by simp,HN.out,?_,hR2.far (by simp;omega) _,?_,U2.setCell (.inr (by simp;omega)) _⟩,by simp[intOf]<;>omega⟩
    ·rw[←bC.out];exact hG2.aO _ _
    ·exact hr2.upd ((aa.refl [w1.heap.size] w2).setCell (.inl (by simp)) _) (hr2.apart hG2 (by decide) (by omega))
   ·have HN:=hdn (EJ (hst.bad hmo hu hz))
    simp only[qm hz]at C
    clear hst hmo hu
    repeat' go_step
    refine C.mono ?_;rintro e w2 ⟨rfl,hr2,hu2⟩
    have hR2:=hR.upd hu2 hgR
    have U2:=(U.trans hu2).gives (b':=[]) (by simp)
    have EK:=hR2.lt
    obtain⟨⟨q0,q1,q2,q3,q4⟩,f0,f1,f2,f3,f4⟩:=hR2.c5
    clear C hix hr hG hR U hu2 hr2
    refine wk ?_
    have N:=dM [.int .i64 0,.int .i64 0,.int .i64 0,.int .i64 0,.slice none 0 0] hR2 rfl U2 (.inr (by omega))
    simp only[setRow]at N
    generalize World.setCell _ ⟨w.heap.size,4,none⟩ _=W5 at N ⊢
    obtain⟨hN,mF⟩:=N
    clear q0 q1 q2 q3 q4
    obtain⟨⟨q0,q1,q2,q3,q4⟩,-⟩:=hN.c5
    exact bodyPost_ret (v:=.tuple #[.agg #[.int .i64 0,.int .i64 0,.int .i64 0,.int .i64 0,.slice none 0 0],.iface 388 (.agg #[.int .i64 (bad:Int),.int .i64 (a:Int)])]) (by simp[results,results255,go_sem,q0,q1,q2,q3,q4]) rfl ⟨.inl ⟨0,0,0,0,none,0,0,_,_,HN.out,rfl⟩,mF⟩
  ·obtain⟨n0,n1,n2,n3,rfl⟩:=Ce (l:=l) (by omega)
   have hN:=hst.all (by rfl)
   clear hst hlt hl4
   have C:=KH wr g A k c b a 2048 (by unfold uL;omega) hr hb
   obtain⟨v,sz,bad,hu⟩:∃v sz bad,tk 2048 (b.drop a)=(v,sz,bad):=⟨_,_,_,rfl⟩
   have HT:=hdn (LX hN hu)
   rw[hu]at C
   clear hN hu
   have hG:ak wr w1.heap.size 359 #[.int .i64 (n0:Int),.int .i64 (n1:Int),.int .i64 (n2:Int),.int .i64 (n3:Int)]:=hG
   by_cases hz:bad=0
   ·subst hz
    simp only[ql]at C
    repeat' go_step
    refine C.mono ?_;rintro e w2 ⟨A2,k2,c2,rfl,ho2,hr2,hu2⟩
    have hR2:=hR.upd hu2 hgR
    have hG2:=hG.upd hu2 hgG
    have U2:aa [] [g] w w2:=(U.trans hu2).gives (b':=[g]) (by simp;omega)
    have EK:=hR2.lt
    obtain⟨⟨s0,s1,s2,s3⟩,-⟩:=hG2.c4
    clear C hr hG hR U hu2
    repeat' first|go_step|simp only[];go_at_K
    have D:=PD ((w2.alloc (.cells #[.int .i64 (n0:Int),.int .i64 (n1:Int),.int .i64 (n2:Int),.int .i64 (n3:Int),.slice A2 k2 c2] 147)).drew) g A k c b (a+sz) (Rr.drewN (w:=w2.alloc (.cells #[.int .i64 (n0:Int),.int .i64 (n1:Int),.int .i64 (n2:Int),.int .i64 (n3:Int),.slice A2 k2 c2] 147)) ⟨hr2.blk.alloc _,hr2.own.alloc _,hr2.le⟩ 1) hb
    have je:=hR2.alloc (.cells #[.int .i64 (n0:Int),.int .i64 (n1:Int),.int .i64 (n2:Int),.int .i64 (n3:Int),.slice A2 k2 c2] 147)
    have vZ:=ak.new w2 147 #[.int .i64 (n0:Int),.int .i64 (n1:Int),.int .i64 (n2:Int),.int .i64 (n3:Int),.slice A2 k2 c2]
    have ho3:=ho2.alloc (.cells #[.int .i64 (n0:Int),.int .i64 (n1:Int),.int .i64 (n2:Int),.int .i64 (n3:Int),.slice A2 k2 c2] 147)
    have U3:aa [] [] w _:=(U2.alloc (.cells #[.int .i64 (n0:Int),.int .i64 (n1:Int),.int .i64 (n2:Int),.int .i64 (n3:Int),.slice A2 k2 c2] 147)).gives
    have hle:a+sz≤b.length:=hr2.le
    obtain⟨W,hW⟩:=ex1 (w2.alloc (.cells #[.int .i64 (n0:Int),.int .i64 (n1:Int),.int .i64 (n2:Int),.int .i64 (n3:Int),.slice A2 k2 c2] 147))
    rw[hW]at D je vZ ho3 U3 ⊢
    clear hW hr2 hR2 hG2 U2 ho2 s0 s1 s2 s3
    obtain⟨⟨t0,t1,t2,t3,t4⟩,-⟩:=vZ.c5
    obtain⟨⟨q0,q1,q2,q3,q4⟩,f0,f1,f2,f3,f4⟩:=je.c5
    by_cases he:a+sz<b.length
    ·rw[if_pos he,qm (by decide)]at D
     have HN:Hid (body b msA=none):=by unfold Hid;rw[HT.out,if_neg (by omega)]
     clear HT he hle
     go_region_with (go_at_call 238;refine D.mono ?_;rintro e w5 ⟨rfl,nq,rfl⟩)
     all_goals
      have N:=dM (W:=W.drewN (1+nq)) [.int .i64 (n0:Int),.int .i64 (n1:Int),.int .i64 (n2:Int),.int .i64 (n3:Int),.slice A2 k2 c2] (je.drewN _) rfl (U3.drewN _) (.inr (by omega))
      simp only[setRow]at N
      generalize World.setCell _ ⟨w.heap.size,4,none⟩ _=W5 at N ⊢
      obtain⟨hN,mF⟩:=N
      clear q0 q1 q2 q3 q4
      obtain⟨⟨q0,q1,q2,q3,q4⟩,-⟩:=hN.c5
      refine wk ?_
      exact bodyPost_ret (v:=.tuple #[.agg #[.int .i64 (n0:Int),.int .i64 (n1:Int),.int .i64 (n2:Int),.int .i64 (n3:Int),.slice A2 k2 c2],.iface 388 (.agg #[.int .i64 2,.int .i64 ((a+sz:Nat):Int)])]) (by simp[results,results255,go_sem,q0,q1,q2,q3,q4]) rfl ⟨.inl ⟨_,_,_,_,_,_,_,_,_,HN.out,rfl⟩,mF⟩
    ·rw[if_neg he,ql]at D
     have HN:Hid (body b msA=some ([n0,n1,n2,n3],v)):=by unfold Hid;rw[HT.out,if_pos ⟨rfl,by omega⟩]
     have hne:∀j∈ah A2,j≠w.heap.size:=by rintro j hj rfl;exact ho3.own.ne je (by decide) hj
     clear HT he hle
     go_region_with (go_at_call 238;refine D.mono ?_;rintro e w5 ⟨rfl,nq,rfl⟩)
     all_goals
      have N:=dM (W:=W.drewN (1+nq)) [.int .i64 (n0:Int),.int .i64 (n1:Int),.int .i64 (n2:Int),.int .i64 (n3:Int),.slice A2 k2 c2] (je.drewN _) rfl (U3.drewN _) (.inr (by omega))
      have N2:=dM (W:=W.drewN (1+nq)) [.int .i64 (n0:Int),.int .i64 (n1:Int),.int .i64 (n2:Int),.int .i64 (n3:Int),.slice A2 k2 c2] (je.drewN _) rfl (aa.refl [w.heap.size] (W.drewN (1+nq))) (.inl (by simp))
      have dB:=aT.upd (w:=W.drewN (1+nq)) ⟨ho3.len,ho3.own.drewN _⟩ N2.2 (by intro j hj;simpa using hne j hj)
      clear N2
      simp only[setRow]at N dB
      generalize World.setCell _ ⟨w.heap.size,4,none⟩ _=W5 at N dB ⊢
      obtain⟨hN,mF⟩:=N
      clear q0 q1 q2 q3 q4
      obtain⟨⟨q0,q1,q2,q3,q4⟩,-⟩:=hN.c5
      refine wk ?_
      exact bodyPost_ret (v:=.tuple #[.agg #[.int .i64 (n0:Int),.int .i64 (n1:Int),.int .i64 (n2:Int),.int .i64 (n3:Int),.slice A2 k2 c2],.nilIface]) (by simp[results,results255,go_sem,q0,q1,q2,q3,q4]) rfl ⟨.inr ⟨_,_,_,_,_,_,_,_,HN.out,dB,rfl⟩,mF⟩
   ·have HN:Hid (body b msA=none):=by unfold Hid;rw[HT.out,if_neg (by simp[hz])]
    simp only[qm hz]at C
    clear HT
    repeat' go_step
    refine C.mono ?_;rintro e w2 ⟨A2,k2,c2,rfl,ho2,hr2,hu2⟩
    have hR2:=hR.upd hu2 hgR
    have U2:=(U.trans hu2).gives (b':=[]) (by simp)
    have EK:=hR2.lt
    obtain⟨⟨q0,q1,q2,q3,q4⟩,f0,f1,f2,f3,f4⟩:=hR2.c5
    clear C hr hG hR U hu2 hr2
    refine wk ?_
    have N:=dM [.int .i64 0,.int .i64 0,.int .i64 0,.int .i64 0,.slice none 0 0] hR2 rfl U2 (.inr (by omega))
    simp only[setRow]at N
    generalize World.setCell _ ⟨w.heap.size,4,none⟩ _=W5 at N ⊢
    obtain⟨hN,mF⟩:=N
    clear q0 q1 q2 q3 q4
    obtain⟨⟨q0,q1,q2,q3,q4⟩,-⟩:=hN.c5
    exact bodyPost_ret (v:=.tuple #[.agg #[.int .i64 0,.int .i64 0,.int .i64 0,.int .i64 0,.slice none 0 0],.iface 388 (.agg #[.int .i64 (bad:Int),.int .i64 (a:Int)])]) (by simp[results,results255,go_sem,q0,q1,q2,q3,q4]) rfl ⟨.inl ⟨0,0,0,0,none,0,0,_,_,HN.out,rfl⟩,mF⟩
def Rv.zero:Rv:=⟨0,0,0,0,none,0,0,[]⟩
def aeD(b:List UInt8)(w:World)(e:Ending):Prop:=
 (lW b=none∧e=.returned (.tuple #[.agg #[.int .i64 0,.int .i64 0,.int .i64 0,.int .i64 0,.slice none 0 0],.iface 349 (.agg #[.int .i64 2])]))∨
 ∃x:Rv,lW b=some x.rc∧aT 5 w x.A x.n x.c x.b∧e=.returned (.tuple #[.agg #[.int .i64 x.k,.int .i64 x.s,.int .i64 x.r,.int .i64 x.t,.slice x.A x.n x.c],.nilIface])
theorem NR(w:World)(B:Option Addr)(m d:Nat)(b:List UInt8)(hB:aD w B m b)(hb:b.length≤140737488355328) :
  Calls prog 205 #[.slice B m d] w fun e w'=>aeD b w' e∧aa [] [] w w':=by
 have hR0:=ak.new w 147 #[.int .i64 0,.int .i64 0,.int .i64 0,.int .i64 0,.slice none 0 0]
 have C:=SF _ B m d b (hB.alloc (.cells #[.int .i64 0,.int .i64 0,.int .i64 0,.int .i64 0,.slice none 0 0] 147)) hb
 go_enter func205,ntmps205
 repeat' go_step
 refine C.mono ?_;rintro e w1 ⟨hT,hu1⟩
 have fI:=hR0.upd hu1
 have U1:aa [] [] w w1:=((aa.refl [] w).alloc _).trans hu1
 clear C hR0 hu1
 rcases hT with⟨i0,i1,i2,i3,A,n,c,t,x,agN,rfl⟩|⟨n0,n1,n2,n3,v,A,n,c,agN,ho1,rfl⟩
 ·have HN:=hdn (oO (wV (.inl rfl) agN))
  clear agN
  have hR2:=fI.alloc (.cells #[.int .i64 i0,.int .i64 i1,.int .i64 i2,.int .i64 i3,.slice A n c] 147)
  have U2:=U1.alloc (.cells #[.int .i64 i0,.int .i64 i1,.int .i64 i2,.int .i64 i3,.slice A n c] 147)
  have EK:=fI.lt
  obtain⟨⟨q0,q1,q2,q3,q4⟩,f0,f1,f2,f3,f4⟩:=fI.c5
  refine wk ?_
  have N:=dM [.int .i64 0,.int .i64 0,.int .i64 0,.int .i64 0,.slice none 0 0] fI rfl U1 (.inr (by omega))
  simp only[setRow]at N
  generalize World.setCell _ ⟨w.heap.size,4,none⟩ _=W5 at N ⊢
  obtain⟨hN,mF⟩:=N
  clear q0 q1 q2 q3 q4
  have hN:=hN.alloc (.cells #[.int .i64 i0,.int .i64 i1,.int .i64 i2,.int .i64 i3,.slice A n c] 147)
  obtain⟨⟨q0,q1,q2,q3,q4⟩,-⟩:=hN.c5
  exact bodyPost_ret (v:=.tuple #[.agg #[.int .i64 0,.int .i64 0,.int .i64 0,.int .i64 0,.slice none 0 0],.iface 349 (.agg #[.int .i64 2])]) (by simp[results,results205,go_sem,q0,q1,q2,q3,q4]) rfl ⟨.inl ⟨HN.out,rfl⟩,mF.alloc _⟩
 ·obtain⟨hby,sj⟩:=Hl (.inl rfl) agN
  obtain⟨x,hx⟩:∃x:Rv,x=⟨n0,n1,n2,n3,A,n,c,v⟩:=⟨_,rfl⟩
  have jw:x.rc=Rc.of n0 n1 n2 n3 v:=by rw[hx];rfl
  have ho1:aT 5 w1 x.A x.n x.c x.b:=by rw[hx];exact ho1
  have hxv:x.val=.agg #[.int .i64 x.k,.int .i64 x.s,.int .i64 x.r,.int .i64 x.t,.slice x.A x.n x.c]:=rfl
  have hxe:(Value.tuple #[.agg #[.int .i64 (n0:Int),.int .i64 (n1:Int),.int .i64 (n2:Int),.int .i64 (n3:Int),.slice A n c],.nilIface])=.tuple #[.agg #[.int .i64 x.k,.int .i64 x.s,.int .i64 x.r,.int .i64 x.t,.slice x.A x.n x.c],.nilIface]:=by rw[hx]
  rw[hxe]
  rw[←jw]at hby sj
  clear hx jw hxe agN
  have hR2:=fI.alloc (.cells #[.int .i64 x.k,.int .i64 x.s,.int .i64 x.r,.int .i64 x.t,.slice x.A x.n x.c] 147)
  have U2:=U1.alloc (.cells #[.int .i64 x.k,.int .i64 x.s,.int .i64 x.r,.int .i64 x.t,.slice x.A x.n x.c] 147)
  have oP:=ak.new w1 147 #[.int .i64 x.k,.int .i64 x.s,.int .i64 x.r,.int .i64 x.t,.slice x.A x.n x.c]
  have ho2:=ho1.alloc (.cells #[.int .i64 x.k,.int .i64 x.s,.int .i64 x.r,.int .i64 x.t,.slice x.A x.n x.c] 147)
  have EK:=fI.lt
  by_cases hm:x.rc.May
  ·have HN:=hdn (yB (b:=b) (r:=x.rc) ⟨hm,hby⟩)
   have M:=Ac x _ ho2.rd hm
   rw[hxv]at M
   clear hm hby sj hxv
   repeat' first|go_guarded|go_step|simp only[];go_at_K
   refine M.mono ?_;rintro e w2 ⟨rfl,hu2⟩
   have je:=hR2.upd hu2
   have vZ:=oP.upd hu2
   have ho3:=ho2.upd hu2
   have U3:=U2.trans hu2
   have hne:∀j∈ah x.A,j≠w.heap.size:=by rintro j hj rfl;exact ho3.own.ne je (by decide) hj
   clear hR2 oP ho2 U2 hu2 ho1
   obtain⟨⟨t0,t1,t2,t3,t4⟩,-⟩:=vZ.c5
   obtain⟨⟨q0,q1,q2,q3,q4⟩,f0,f1,f2,f3,f4⟩:=je.c5
   refine wk ?_
   have N:=dM [.int .i64 x.k,.int .i64 x.s,.int .i64 x.r,.int .i64 x.t,.slice x.A x.n x.c] je rfl U3 (.inr (by omega))
   have N2:=dM [.int .i64 x.k,.int .i64 x.s,.int .i64 x.r,.int .i64 x.t,.slice x.A x.n x.c] je rfl (aa.refl [w.heap.size] w2) (.inl (by simp))
   have dB:=ho3.upd N2.2 (by intro j hj;simpa using hne j hj)
   clear N2
   simp only[setRow]at N dB
   generalize World.setCell _ ⟨w.heap.size,4,none⟩ _=W5 at N dB ⊢
   obtain⟨hN,mF⟩:=N
   clear q0 q1 q2 q3 q4
   obtain⟨⟨q0,q1,q2,q3,q4⟩,-⟩:=hN.c5
   exact bodyPost_ret (v:=.tuple #[.agg #[.int .i64 x.k,.int .i64 x.s,.int .i64 x.r,.int .i64 x.t,.slice x.A x.n x.c],.nilIface]) (by simp[results,results205,go_sem,q0,q1,q2,q3,q4]) rfl ⟨.inr ⟨x,HN.out,dB,rfl⟩,mF⟩
  ·have HN:=hdn (oO (b:=b) fun r hr=>hm (by rw[←sj r hr];exact hr.1))
   have M:=NP x _ ho2.rd hm
   rw[hxv]at M
   clear hm hby sj hxv
   repeat' first|go_guarded|go_step|simp only[];go_at_K
   refine M.mono ?_;rintro e w2 ⟨rfl,hu2⟩
   have je:=hR2.upd hu2
   have U3:=U2.trans hu2
   clear hR2 oP ho2 U2 hu2 ho1
   obtain⟨⟨q0,q1,q2,q3,q4⟩,f0,f1,f2,f3,f4⟩:=je.c5
   refine wk ?_
   have N:=dM [.int .i64 0,.int .i64 0,.int .i64 0,.int .i64 0,.slice none 0 0] je rfl U3 (.inr (by omega))
   simp only[setRow]at N
   generalize World.setCell _ ⟨w.heap.size,4,none⟩ _=W5 at N ⊢
   obtain⟨hN,mF⟩:=N
   clear q0 q1 q2 q3 q4
   obtain⟨⟨q0,q1,q2,q3,q4⟩,-⟩:=hN.c5
   exact bodyPost_ret (v:=.tuple #[.agg #[.int .i64 0,.int .i64 0,.int .i64 0,.int .i64 0,.slice none 0 0],.iface 349 (.agg #[.int .i64 2])]) (by simp[results,results205,go_sem,q0,q1,q2,q3,q4]) rfl ⟨.inl ⟨HN.out,rfl⟩,mF⟩
