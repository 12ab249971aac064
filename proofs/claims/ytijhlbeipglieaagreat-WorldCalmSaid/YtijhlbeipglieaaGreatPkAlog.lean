/- For WorldCalm. -/
import Derived.Test.YtijhlbeipglieaaGreatPkNet
set_option linter.all false
set_option maxRecDepth 100000
set_option maxHeartbeats 4000000
namespace Go.Proofs.YtijhlbeipglieaaGreat
open Go Go.RowKit aL Tryz List
theorem qp{α β:Type}{f:α→List β}{s:Nat}(hs:∀x,(f x).length=s)(l:List α):(l.flatMap f).length=l.length*s:=by
 induction l with
 |nil=>simp
 |cons x l ih=>simp[hs,ih,Nat.add_mul,Nat.add_comm]
theorem yb{α β:Type}{f:α→List β}{s:Nat}(hs:∀x,(f x).length=s)(l:List α):∀(i j:Nat)(hi:i<l.length),j<s→(l.flatMap f)[i*s+j]? =(f l[i])[j]?:=by
 induction l with
 |nil=>intro i j hi;simp at hi
 |cons x l ih=>
  intro i j hi hj
  rw[flatMap_cons]
  cases i with
  |zero=>rw[List.getElem?_append_left (by rw[hs];omega)];simp
  |succ i=>
   have e:(i+1)*s+j=s+(i*s+j):=by rw[Nat.add_mul];omega
   rw[e,List.getElem?_append_right (by rw[hs];omega),hs,Nat.add_sub_cancel_left]
   simpa using ih i j (by simpa using hi) hj
theorem fld(a:Addr)(m j:Nat)(hj:0<j):(⟨(a.add m).block,(a.add m).off+j,none⟩:Addr)=a.add (m+j):=by
 rw[←tf]
 generalize a.add m=x
 unfold Addr.add;rw[if_neg (by omega)]
structure jq{α:Type}(f:α→List Value)(s:Nat)(w:World)(A:Option Addr)(n:Nat)(l:List α):Prop where
 len:n=l.length
 rd:Rd w s A n (l.flatMap f)
section
variable {α:Type} {f:α→List Value} {s:Nat} {w w':World} {A:Option Addr} {n:Nat} {l:List α}
theorem jq.aq{a b:List Nat}(h:jq f s w A n l)(hu:ab a b w w')(hd:∀k∈ak A,k∉a):jq f s w' A n l:=⟨h.len,h.rd.aq hu hd⟩
theorem jq.aN{b:List Nat}(h:jq f s w A n l)(hu:ab [] b w w'):jq f s w' A n l:=h.aq hu (by simp)
theorem jq.at_(hs:∀x,(f x).length=s)(h:jq f s w A n l){i:Nat}(hi:i<l.length):∃ad,A=some ad∧(∀u,(f l[i])[0]? =some u→w.cell? (ad.add (i*s))=some u)∧
  ∀j u,0<j→(f l[i])[j]? =some u→w.cell? ⟨(ad.add (i*s)).block,(ad.add (i*s)).off+j,none⟩=some u:=by
 obtain⟨ad,e,hc⟩:=h.rd.2 (by rw[h.len];omega)
 refine⟨ad,e,fun u hu=>?_,fun j u hj hu=>?_⟩
 ·have hl:0<s:=by
   rcases Nat.eq_zero_or_pos s with h0|h0
   ·have:=hs l[i];rw[h0]at this;rw[eq_nil_of_length_eq_zero this]at hu;simp at hu
   ·exact h0
  exact hc _ _ (by rw[←hu];simpa using yb hs l i 0 hi hl)
 ·have hl:j<s:=by
   rcases Nat.lt_or_ge j s with h0|h0
   ·exact h0
   ·rw[List.getElem?_eq_none (by rw[hs];exact h0)]at hu;cases hu
  rw[fld _ _ _ hj]
  exact hc _ _ (by rw[←hu];exact yb hs l i j hi hl)
theorem jq.of(hs:∀x,(f x).length=s)(ad:Addr)(hc:∀i (hi:i<l.length) j u,(f l[i])[j]? =some u→w.cell? (ad.add (i*s+j))=some u):jq f s w (some ad) l.length l:=by
 refine⟨rfl,by rw[qp hs],fun _=>⟨ad,rfl,fun j u hu=>?_⟩⟩
 have hj:j<l.length*s:=by
  rcases Nat.lt_or_ge j (l.length*s)with h|h
  ·exact h
  ·rw[List.getElem?_eq_none (by rw[qp hs];exact h)]at hu;cases hu
 have h0:0<s:=by
  rcases Nat.eq_zero_or_pos s with h0|h0
  ·rw[h0]at hj;omega
  ·exact h0
 have hi:j / s<l.length:=Nat.div_lt_of_lt_mul (by rw[Nat.mul_comm];exact hj)
 have hm:=Nat.div_add_mod j s
 have bw:j=j / s*s+j % s:=by rw[Nat.mul_comm];omega
 rw[bw]at hu ⊢
 rw[yb hs l _ _ hi (Nat.mod_lt _ h0)]at hu
 exact hc _ hi _ _ hu
end
structure Rv where
 k:Int
 s:Int
 r:Int
 t:Int
 A:Option Addr
 n:Nat
 c:Nat
 b:List UInt8
def Rv.cells(x:Rv):List Value:=[.int .i64 x.k,.int .i64 x.s,.int .i64 x.r,.int .i64 x.t,.slice x.A x.n x.c]
def Rv.val(x:Rv):Value:=.agg x.cells.toArray
def Rv.rc(x:Rv):Rc:=⟨x.k,x.s,x.r,x.t,x.b⟩
theorem Rv.bJ(x:Rv):x.val=.agg #[.int .i64 x.k,.int .i64 x.s,.int .i64 x.r,.int .i64 x.t,.slice x.A x.n x.c]:=rfl
theorem Rv.iP(x:Rv):x.cells.length=5:=rfl
theorem Vc{r:Rc}(h:¬ r.bL):(r.slot<0∨4096≤r.slot)∨(0≤r.slot∧r.slot<4096)∧((r.round<0∨1099511627776<r.round)∨(0≤r.round∧r.round≤1099511627776)∧((r.site<0∨7≤r.site)∨(0≤r.site∧r.site<7)∧(r.kind=1∧¬ r.val.length=0∨¬ r.kind=1∧¬ r.kind=2∨¬ r.kind=1∧r.kind=2∧2048<r.val.length))):=by
 by_cases h1:r.slot<0∨4096≤r.slot
 ·exact .inl h1
 refine .inr ⟨by omega,?_⟩
 by_cases h2:r.round<0∨1099511627776<r.round
 ·exact .inl h2
 refine .inr ⟨by omega,?_⟩
 by_cases h3:r.site<0∨7≤r.site
 ·exact .inl h3
 refine .inr ⟨by omega,?_⟩
 by_cases h4:r.kind=1
 ·refine .inl ⟨h4,fun h5=>h ⟨.inl ⟨h4,h5⟩,by omega,by omega,by omega,by omega⟩⟩
 ·by_cases h5:r.kind=2
  ·refine .inr (.inr ⟨h4,h5,?_⟩)
   rcases Nat.lt_or_ge 2048 r.val.length with h6|h6
   ·exact h6
   ·exact absurd ⟨.inr h5,by omega,by omega,by omega,h6⟩ h
  ·exact .inr (.inl ⟨h4,h5⟩)
theorem xd(x:Rv)(w:World)(hr:bE w x.A x.n x.b)(hm:x.rc.bL) :
  Calls prog 256 #[x.val] w fun e w'=>e=.returned (.bool true)∧ab [] [] w w':=by
 obtain⟨k,s,r,t,A,n,c,b⟩:=x
 obtain⟨h1,⟨h2,rb⟩,⟨h3,Hu⟩,⟨h4,RE⟩,h5⟩:=hm
 simp only[Rv.rc]at h1 h2 rb h3 Hu h4 RE h5
 have hn:=hr.len
 simp only at hn
 have g2:s<4096:=by omega
 have g4:t<7:=by omega
 clear rb RE
 rw[Rv.bJ]
 rcases h1 with⟨rfl,h6⟩|rfl
 ·obtain rfl:n=0:=by omega
  clear hn hr h6 h5
  go_enter func256,ntmps256
  repeat' first|go_guarded|go_step
  go_ret
  exact⟨rfl,(ab.refl _ _).alloc _⟩
 ·have ng:(n:Int)≤2048:=by omega
  clear hn hr h5
  go_enter func256,ntmps256
  repeat' first|go_guarded|go_step
  go_ret
  exact⟨rfl,(ab.refl _ _).alloc _⟩
theorem JD(x:Rv)(w:World)(hr:bE w x.A x.n x.b)(hm:¬ x.rc.bL) :
  Calls prog 256 #[x.val] w fun e w'=>e=.returned (.bool false)∧ab [] [] w w':=by
 obtain⟨k,s,r,t,A,n,c,b⟩:=x
 have hn:=hr.len
 have hm:=Vc hm
 simp only[Rv.rc]at hm hn
 rw[Rv.bJ]
 rcases hm with h1|⟨⟨h1,Bo⟩,h2|⟨⟨h2,rb⟩,h3|⟨⟨h3,Hu⟩,h4|h4|h4⟩⟩⟩
 ·clear hn hr
  rcases h1 with h1|h1
  ·go_enter func256,ntmps256
   refine wk ?_
   go_ret
   exact⟨rfl,(ab.refl _ _).alloc _⟩
  ·have h0:0≤s:=by omega
   go_enter func256,ntmps256
   refine wk ?_
   go_ret
   exact⟨rfl,(ab.refl _ _).alloc _⟩
 ·clear hn hr
  rcases h2 with h2|h2
  ·go_enter func256,ntmps256
   repeat' first|go_skip|go_guarded|go_step
   go_ret
   exact⟨rfl,(ab.refl _ _).alloc _⟩
  ·have h0:0≤r:=by omega
   go_enter func256,ntmps256
   repeat' first|go_guarded|go_step
   go_ret
   exact⟨rfl,(ab.refl _ _).alloc _⟩
 ·clear hn hr
  rcases h3 with h3|h3
  ·go_enter func256,ntmps256
   repeat' first|go_skip|go_guarded|go_step
   go_ret
   exact⟨rfl,(ab.refl _ _).alloc _⟩
  ·have h0:0≤t:=by omega
   go_enter func256,ntmps256
   repeat' first|go_guarded|go_step
   go_ret
   exact⟨rfl,(ab.refl _ _).alloc _⟩
 ·obtain⟨rfl,h5⟩:=h4
  have h6:((n:Int)==0)=false:=by simp;omega
  clear hn hr h5
  go_enter func256,ntmps256
  repeat' first|go_guarded|go_step
  go_ret
  exact⟨rfl,(ab.refl _ _).alloc _⟩
 ·obtain⟨h5,h6⟩:=h4
  have h5':(k==1)=false:=by simp[h5]
  have cU:(k==2)=false:=by simp[h6]
  clear hn hr h5 h6
  go_enter func256,ntmps256
  repeat' first|go_skip|go_guarded|go_step
  go_ret
  exact⟨rfl,(ab.refl _ _).alloc _⟩
 ·obtain⟨h5,rfl,h6⟩:=h4
  have cU:decide ((n:Int)≤2048)=false:=by simp;omega
  clear hn hr h5 h6
  go_enter func256,ntmps256
  repeat' first|go_guarded|go_step
  go_ret
  exact⟨rfl,(ab.refl _ _).alloc _⟩
theorem O6(w:World)(g:Nat)(A:Option Addr)(k c:Nat)(l:List UInt8)(B:Option Addr)(m d:Nat)(ns:List Nat)(hw:Wr w g A k c l)(hr:Rd w 1 B m (rS ns))(hI:∀n∈ns,n≤9223372036854775807)(hB:∀j∈ak B,j∉g::ak A)(hBl:∀j∈ak B,j<w.heap.size)(hm:m≤1000)(hl:l.length≤100000000) :
  Calls prog 276 #[.pointer (some ⟨g,0,none⟩),.slice B m d] w fun e w'=>e=.returned (.tuple #[])∧∃A' k' c',Wr w' g A' k' c' (l++ns.flatMap eG)∧ab (g::ak A) (g::ak A') w w':=by
 have hn:ns.length=m:=by have:=hr.1;simpa[rS]using this
 subst hn
 have hU:∀n∈ns,gG n:=fun n hn=>gG.small (by have:=hI n hn;omega)
 have hlen:=CQ hU
 go_enter func276,ntmps276
 refine wk ?_
 go_loopw [8] (fun v8 wr=>∃(i:Nat)(A2:Option Addr)(k2 c2:Nat),i≤ns.length∧v8=.int .i64 (i:Int)∧Wr wr g A2 k2 c2 (l++(ns.take i).flatMap eG)∧ab (g::ak A) (g::ak A2) w wr)
  (fun v8 _=>ns.length-(intOf v8).toNat)
 case atStart=>exact⟨0,A,k,c,by omega,rfl,by simpa using hw,ab.refl _ _⟩
 case round=>
  obtain⟨i,A2,k2,c2,hi,rfl,hw2,hu⟩:=hrel
  have hli:=hlen i
  by_cases hlt:i<ns.length
  ·have kV:=hr.aq hu hB
   obtain⟨ad,u,rfl,hx,hcell⟩:=Rd.at_ kV (k:=i) hlt
   rw[O7 ns i hlt]at hx
   obtain rfl:=Option.some.inj hx
   have HS:=aA (Bp hlt)
   have hxI:=hI ns[i] (getElem_mem hlt)
   have hxU:=hU ns[i] (getElem_mem hlt)
   generalize ns[i]=x at *
   have hx0:(0:Int)≤(x:Int):=by omega
   have hx1:(x:Int)≤9223372036854775807:=by omega
   have adf:IntKind.u64.wrap (x:Int)=(x:Int):=by rw[IntKind.wrap_u64];omega
   clear hx hr
   repeat' (fail_if_success with_reducible refine ba rfl ?_);go_step
   refine(ti (x:Int) wr g A2 k2 c2 _ (by omega) (by simpa using hxU) hw2 (by simp only[length_append];omega)).mono ?_
   rintro e w3 ⟨rfl,A3,k3,c3,hw3,cQ⟩
   rw[Int.toNat_natCast,append_assoc,←HS.out]at hw3
   refine wk ?_
   exact⟨⟨i+1,A3,k3,c3,by omega,rfl,hw3,hu.trans cQ⟩,by simp[intOf];omega⟩
  ·obtain rfl:i=ns.length:=by omega
   rw[take_length]at hw2
   refine wk ?_
   go_end0
   exact⟨rfl,A2,k2,c2,hw2,hu⟩
theorem JE(x:Rv)(w:World)(hr:bE w x.A x.n x.b)(hm:x.rc.bL) :
  Calls prog 247 #[x.val] w fun e w'=>∃A' k' c',e=.returned (.tuple #[.slice A' k' c',.int .i64 0])∧bW 5 w' A' k' c' x.rc.bytes∧ab [] (ak A') w w':=by
 have C:=fun w hr=>xd x w hr hm
 have h1:=hm.kind
 have h2:=hm.slot
 have h3:=hm.round
 have h4:=hm.site
 have hU:=hm.U
 have hv:=hm.val
 have HB:Hid (x.rc.bytes=x.rc.ns.flatMap eG++eG x.b.length++x.b):=by unfold Hid Rc.bytes je;rw[append_assoc];rfl
 have HN:Hid (rS x.rc.ns= [.int .i64 x.k,.int .i64 x.s,.int .i64 x.r,.int .i64 x.t]):=by
  unfold Hid rS Rc.ns
  simp only[Rv.rc]at h1 h2 h3 h4 ⊢
  simp only[map_cons,map_nil,List.cons.injEq,Value.int.injEq,true_and,and_true]
  omega
 have ng:x.rc.ns.length=4:=rfl
 have LV:=aA ng;clear ng
 have yU:∀n∈x.rc.ns,n≤9223372036854775807:=by
  intro n hn
  simp only[Rv.rc]at h1 h2 h3 h4
  simp only[Rc.ns,Rv.rc,mem_cons,not_mem_nil,or_false]at hn
  rcases hn with rfl|rfl|rfl|rfl<;>omega
 have gi:x.b.length≤2048:=hv
 have pK:=qq hU
 have RF:=aA hr.lt
 generalize x.rc.ns=ns at *
 rw[Rv.bJ]at C ⊢
 clear h1 h2 h3 h4 hm hv
 go_enter func247,ntmps247
 repeat' (fail_if_success with_reducible refine ba rfl ?_);go_step
 refine(C _ (hr.alloc _)).mono ?_
 rintro e w1 ⟨rfl,bn⟩
 have hX:=(aQ.new w 147 #[.int .i64 x.k,.int .i64 x.s,.int .i64 x.r,.int .i64 x.t,.slice x.A x.n x.c]).aq bn (by simp)
 have U1:ab [] [] w w1:=((ab.refl _ _).alloc _).trans bn
 have pL:=hX.alloc (.cells #[.slice none 0 0] 204)
 obtain⟨⟨q0,q1,q2,q3,q4⟩,-⟩:=pL.c5
 have hlt:=hX.lt
 clear C bn
 repeat' first|go_step|simp only[];go_at_K
 clear q0 q1 q2 q3 q4
 have hW:Wr ((w1.alloc (.cells #[.slice none 0 0] 204)).alloc (.cells #[.int .i64 x.k,.int .i64 x.s,.int .i64 x.r,.int .i64 x.t] 3)) w1.heap.size none 0 0 []:=⟨(aQ.new _ _ _).alloc _,((bW.nil _ _).alloc _).alloc _⟩
 have jF:Rd ((w1.alloc (.cells #[.slice none 0 0] 204)).alloc (.cells #[.int .i64 x.k,.int .i64 x.s,.int .i64 x.r,.int .i64 x.t] 3)) 1 (some ⟨w1.heap.size+1,0,none⟩) 4 (rS ns):=by
  have:=Rd.aO (w:=((w1.alloc (.cells #[.slice none 0 0] 204)).alloc (.cells #[.int .i64 x.k,.int .i64 x.s,.int .i64 x.r,.int .i64 x.t] 3))) (n:=4) (size:=1) (cs:=rS ns) (t:=3) (g:=w1.heap.size+1) (by rw[HN.out];have:=aQ.new (w1.alloc (.cells #[.slice none 0 0] 204)) 3 #[.int .i64 x.k,.int .i64 x.s,.int .i64 x.r,.int .i64 x.t];rwa [World.size_alloc]at this) (by rw[HN.out];rfl)
  exact this
 refine(O6 _ w1.heap.size none 0 0 [] _ 4 4 ns hW jF yU (by simp[ak]) (by simp[ak]) (by omega) (by simp)).mono ?_
 rintro e w2 ⟨rfl,A2,k2,c2,hw2,bh⟩
 rw[nil_append]at hw2
 have U2:ab [] (w1.heap.size::ak A2) w w2:=(((U1.alloc _).alloc _).gives (b':=w1.heap.size::ak none) (by have:=U1.size;simp[ak];omega)).trans bh
 have dO:=(pL.alloc (.cells #[.int .i64 x.k,.int .i64 x.s,.int .i64 x.r,.int .i64 x.t] 3)).aq bh (by simp[ak];omega)
 obtain⟨⟨q0,q1,q2,q3,q4⟩,-⟩:=dO.c5
 clear hW jF bh hX pL U1
 repeat' first|go_step|simp only[];go_at_K
 clear q0 q1 q2 q3 q4
 refine(xe w2 w1.heap.size A2 k2 c2 _ x.A x.n x.c x.b (hr.aq U2 (by simp)) ?_ hw2 (by rw[LV.out]at pK;omega)).mono ?_
 ·intro h0 j hj hm
  have h1:=RF.out h0 j hj
  rcases U2.fresh j hm with h2|h2
  ·cases h2
  ·omega
 rintro e w3 ⟨rfl,A3,k3,c3,hw3,cQ⟩
 have U3:=U2.trans cQ
 clear U2 cQ hw2 dO
 repeat' (fail_if_success with_reducible refine ba rfl ?_);first|go_step|simp only[];go_at_K
 refine(yV w3 w1.heap.size A3 k3 c3 _ hw3 ?_).mono ?_
 ·have:=sk (n:=x.b.length) (gG.small (by omega));rw[LV.out]at pK;simp only[length_append];omega
 rintro e w4 ⟨A4,k4,c4,rfl,dW,de⟩
 refine wk ?_
 go_ret2
 rw[←HB.out]at dW
 exact⟨A4,k4,c4,rfl,dW,(U3.gives (b':=[]) (by simp)).trans de⟩
structure xg(w:World)(A:Option Addr)(n:Nat)(l:List Rv):Prop where
 rd:jq Rv.cells 5 w A n l
 each:∀x∈l,bE w x.A x.n x.b
theorem xg.aq{w w':World}{A:Option Addr}{n:Nat}{l:List Rv}{b:List Nat}(h:xg w A n l)(hu:ab [] b w w'):xg w' A n l:=
 ⟨h.rd.aN hu,fun x hx=>(h.each x hx).aq hu (by simp)⟩
theorem xg.len{w:World}{A:Option Addr}{n:Nat}{l:List Rv}(h:xg w A n l):n=l.length:=h.rd.len
theorem xg.at_{w:World}{A:Option Addr}{n:Nat}{l:List Rv}(h:xg w A n l){i:Nat}(hi:i<l.length):∃ad,A=some ad∧w.cell? (ad.add (i*5))=some (.int .i64 l[i].k)∧w.cell? ⟨(ad.add (i*5)).block,(ad.add (i*5)).off+1,none⟩=some (.int .i64 l[i].s)∧
  w.cell? ⟨(ad.add (i*5)).block,(ad.add (i*5)).off+2,none⟩=some (.int .i64 l[i].r)∧w.cell? ⟨(ad.add (i*5)).block,(ad.add (i*5)).off+3,none⟩=some (.int .i64 l[i].t)∧w.cell? ⟨(ad.add (i*5)).block,(ad.add (i*5)).off+4,none⟩=some (.slice l[i].A l[i].n l[i].c):=by
 obtain⟨ad,e,h0,hj⟩:=h.rd.at_ Rv.iP hi
 exact⟨ad,e,h0 _ rfl,hj 1 _ (by omega) rfl,hj 2 _ (by omega) rfl,hj 3 _ (by omega) rfl,hj 4 _ (by omega) rfl⟩
def eM(l:List Rv):List Rc:=l.map Rv.rc
theorem O8{l:List Rv}{i:Nat}(h:i<l.length):bX (eM (l.take (i+1)))=bX (eM (l.take i))++put l[i].rc.bytes:=by
 unfold eM
 rw[take_succ_eq_append_getElem h,map_append,jy];simp[bX]
theorem DM(l:List Rv)(i:Nat):(bX (eM (l.take i))).length≤(bX (eM l)).length:=by
 have:bX (eM l)=bX (eM (l.take i))++bX (eM (l.drop i)):=by unfold eM;rw[←jy,←map_append,take_append_drop]
 rw[this,length_append];omega
theorem Ty(w:World)(A:Option Addr)(n c:Nat)(l:List Rv)(hr:xg w A n l)(hm:∀x∈l,x.rc.bL)(hn:n≤140737488355328)(hb:(bX (eM l)).length≤140737488355328) :
  Calls prog 189 #[.slice A n c] w fun e w'=>∃A' k' c',e=.returned (.tuple #[.slice A' k' c',.int .i64 0])∧bW 5 w' A' k' c' (bX (eM l))∧ab [] (ak A') w w':=by
 obtain rfl:=hr.len
 go_enter func189,ntmps189
 repeat' go_step
 go_loopw [4,12] (fun v4 uZ wr=>∃(i:Nat)(A1:Option Addr)(k1 c1:Nat),i≤l.length∧uZ=.int .i64 (i:Int)∧v4=.slice A1 k1 c1∧bW 5 wr A1 k1 c1 (bX (eM (l.take i)))∧ab [] (ak A1) w wr)
  (fun _ uZ _=>l.length-(intOf uZ).toNat)
 case atStart=>exact⟨0,none,0,0,by omega,rfl,rfl,bW.nil _ _,ab.refl _ _⟩
 case round=>
  obtain⟨i,A1,k1,c1,hi,rfl,rfl,ho,hu⟩:=hrel
  by_cases hlt:i<l.length
  ·have kV:=hr.aq hu
   obtain⟨ad,rfl,q0,q1,q2,q3,q4⟩:=kV.at_ hlt
   have LW:=hm l[i] (getElem_mem hlt)
   have uB:=kV.each l[i] (getElem_mem hlt)
   have HS:=aA (O8 hlt)
   have hbl:=DM l (i+1)
   rw[HS.out,length_append]at hbl
   have RG:=LW.len
   generalize l[i]=x at *
   have DN:=x.bJ
   have C:=JE x (wr.alloc (.cells #[.int .i64 x.k,.int .i64 x.s,.int .i64 x.r,.int .i64 x.t,.slice x.A x.n x.c] 147)) (uB.alloc _) LW
   rw[DN]at C
   clear DN hr hm
   repeat' go_step
   refine C.mono ?_;rintro e w1 ⟨A2,k2,c2,rfl,eN,bh⟩
   have bh:ab [] (ak A2) wr w1:=((ab.refl [] wr).alloc _).trans bh
   have iY:=ho.aq bh (by simp)
   clear q0 q1 q2 q3 q4 C ho
   repeat' first|go_step|simp only[];go_at_K
   refine(DO w1 A2 k2 c2 _ eN.rd (by omega)).mono ?_;rintro e w2 ⟨A3,k3,c3,rfl,iD,cQ⟩
   have Vd:=iY.aq cQ (by simp)
   have U3:ab [] (ak A1) w w2:=(hu.trans (bh.up _)).trans (cQ.up _)
   clear iY eN bh cQ hu
   refine eH ?_
   refine kH rfl _ _ 28 rfl 5 underlying28 l8 Vd rfl iD.rd rfl (by omega) ?_
   intro A4 k4 c4 w4 dW de
   have U4:=U3.trans de
   rw[←HS.out]at dW
   clear Vd iD de
   refine wk ?_
   exact⟨⟨i+1,A4,k4,c4,by omega,by simp,rfl,dW,U4⟩,by simp[intOf];omega⟩
  ·obtain rfl:i=l.length:=by omega
   rw[take_length]at ho
   refine wk ?_
   go_ret2
   exact⟨A1,k1,c1,rfl,ho,hu⟩
def wH(l:List Nat):List Value:=rS l++replicate (4-l.length) (.int .i64 0)
theorem LX{l:List Nat}(h:l.length<4)(x:Nat):(wH l).toArray.setIfInBounds l.length (.int .i64 (x:Int))=(wH (l++[x])).toArray:=by
 match l,h with
 |[],_=>rfl
 |[_],_=>rfl
 |[_,_],_=>rfl
 |[_,_,_],_=>rfl
theorem O9{l:List Nat}(h:l.length≤4):∃y0 y1 y2 y3:Int,(wH l).toArray=#[.int .i64 y0,.int .i64 y1,.int .i64 y2,.int .i64 y3]:=by
 match l,h with
 |[],_=>exact⟨_,_,_,_,rfl⟩
 |[_],_=>exact⟨_,_,_,_,rfl⟩
 |[_,_],_=>exact⟨_,_,_,_,rfl⟩
 |[_,_,_],_=>exact⟨_,_,_,_,rfl⟩
 |[_,_,_,_],_=>exact⟨_,_,_,_,rfl⟩
theorem JF{l:List Nat}(h:l.length=4):∃n0 n1 n2 n3:Nat,l= [n0,n1,n2,n3]:=by
 match l,h with
 |[a,b,c,d],_=>exact⟨a,b,c,d,rfl⟩
theorem Rr.apart{w:World}{g:Nat}{A:Option Addr}{k c:Nat}{b:List UInt8}{a h:Nat}{t:TypeId}{cs:Array Value}(hr:Rr w g A k c b a)(hB:aQ w h t cs)(ht:t≠5)(hg:g≠h):∀j∈g::ak A,j∉[h]:=by
 intro j hj
 simp only[mem_singleton]
 rintro rfl
 rcases mem_cons.1 hj with h|h
 ·exact hg h.symm
 ·exact hr.own.own.ne hB (Ne.symm ht) h
def ZH(b:List UInt8)(w:World)(e:Ending):Prop:=
 (∃(i0 i1 i2 i3:Int)(A:Option Addr)(n c:Nat)(t:TypeId)(x:Value),body b re=none∧e=.returned (.tuple #[.agg #[.int .i64 i0,.int .i64 i1,.int .i64 i2,.int .i64 i3,.slice A n c],.iface t x]))∨
 ∃(n0 n1 n2 n3:Nat)(v:List UInt8)(A:Option Addr)(n c:Nat),body b re=some ([n0,n1,n2,n3],v)∧bW 5 w A n c v∧
  e=.returned (.tuple #[.agg #[.int .i64 (n0:Int),.int .i64 (n1:Int),.int .i64 (n2:Int),.int .i64 (n3:Int),.slice A n c],.nilIface])
theorem Tz{i:Nat}(h:i<4):∃m,re[i]? =some m∧wY m:=by
 have:i=0∨i=1∨i=2∨i=3:=by omega
 rcases this with rfl|rfl|rfl|rfl<;>exact⟨_,rfl,by unfold wY;omega⟩
theorem Ve{i:Nat}{m:Int}(h:re[i]? =some m)(w:World):(Instr.index 359 (.agg #[.int .i64 2,.int .i64 4095,.int .i64 1099511627776,.int .i64 6]) (.int .i64 (i:Int))).run prog w=.ok (.int .i64 m) w:=by
 have hi:i<4:=(List.getElem?_eq_some_iff.1 h).1
 have:i=0∨i=1∨i=2∨i=3:=by omega
 rcases this with rfl|rfl|rfl|rfl<;>obtain rfl:=Option.some.inj h<;>exact(show _=_ by kernel_rfl)
theorem Pb(w:World)(B:Option Addr)(m d:Nat)(b:List UInt8)(hB:bE w B m b)(hb:b.length≤140737488355328) :
  Calls prog 255 #[.slice B m d] w fun e w'=>ZH b w' e∧ab [] [] w w':=by
 have Bq:=aQ.new w 147 #[.int .i64 0,.int .i64 0,.int .i64 0,.int .i64 0,.slice none 0 0]
 go_enter func255,ntmps255
 repeat' go_step
 refine(DP _ B m d b (hB.alloc _) hb).mono ?_
 rintro e w1 ⟨g,A,k,c,rfl,hr1,bn⟩
 have gT:=Bq.aq bn (by simp)
 have hg:w.heap.size<g:=by
  have:=bn.fresh g (by simp)
  simp at this;omega
 have U1:ab [] [g] w w1:=(((ab.refl [] w).alloc _).trans bn).gives (by simp;omega)
 have Hw:=hr1.aO.lt
 clear bn Bq
 repeat' first|go_step|simp only[];go_at_K
 have ni:aQ (w1.alloc (.cells #[.int .i64 0,.int .i64 0,.int .i64 0,.int .i64 0] 359)) w1.heap.size 359 (wH []).toArray:=aQ.new _ _ _
 have dS:=gT.alloc (.cells #[.int .i64 0,.int .i64 0,.int .i64 0,.int .i64 0] 359)
 have hr2:Rr (w1.alloc (.cells #[.int .i64 0,.int .i64 0,.int .i64 0,.int .i64 0] 359)) g A k c b 0:=⟨hr1.aO.alloc _,hr1.own.alloc _,hr1.le⟩
 have U2:ab [] [g] w (w1.alloc (.cells #[.int .i64 0,.int .i64 0,.int .i64 0,.int .i64 0] 359)):=U1.alloc _
 clear gT hr1
 have hG0:w.heap.size≤w1.heap.size:=U1.size
 have hRG:w.heap.size≠w1.heap.size:=by omega
 go_loopw [16] (fun DQ wr=>∃(l:List Nat)(a:Nat),l.length≤4∧DQ=.int .i64 (l.length:Int)∧lI b re l a∧aQ wr w1.heap.size 359 (wH l).toArray∧aQ wr w.heap.size 147 #[.int .i64 0,.int .i64 0,.int .i64 0,.int .i64 0,.slice none 0 0]∧Rr wr g A k c b a∧ab [] [g] w wr)
  (fun DQ _=>4-(intOf DQ).toNat)
 case atStart=>exact⟨[],0,by simp,rfl,lI.zero _ _,ni,dS,hr2,U2⟩
 case round=>
  obtain⟨l,a,hl4,rfl,hst,hG,hR,hr,U⟩:=hrel
  clear ni dS hr2 U1 U2
  have dV:w1.heap.size∉[g]:=by simp;omega
  have RH:w.heap.size∉[g]:=by simp;omega
  by_cases hlt:l.length<4
  ·obtain⟨mo,Br,hmI⟩:=Tz hlt
   have eu:=Ve Br
   have C:=wX wr g A k c b a mo hmI hr hb
   obtain⟨n,sz,bad,hu⟩:∃n sz bad,fw mo (b.drop a)=(n,sz,bad):=⟨_,_,_,rfl⟩
   rw[hu]at C
   by_cases hz:bad=0
   ·subst hz
    have HN:=aA (hst.more Br hu)
    have HFS:=aA (LX hlt n)
    simp only[j9]at C
    clear hst Br hu
    obtain⟨y0,y1,y2,y3,hy⟩:=O9 hl4
    have eL:l.length=0∨l.length=1∨l.length=2∨l.length=3:=by omega
    have eZ:∀W:World,aQ W w1.heap.size 359 (wH l).toArray→(∃y,W.cell? ⟨w1.heap.size,l.length,none⟩=some (.int .i64 y))∧W.frozen? ⟨w1.heap.size,l.length,none⟩=false:=by
     intro W hW
     refine⟨?_,hW.frozen _⟩
     rw[hy]at hW
     rcases eL with h|h|h|h<;>rw[h]
     ·exact⟨y0,hW.cell 0⟩
     ·exact⟨y1,hW.cell 1⟩
     ·exact⟨y2,hW.cell 2⟩
     ·exact⟨y3,hW.cell 3⟩
    have HGn:=aA eZ
    clear eZ hy
    repeat' go_step
    refine C.mono ?_;rintro e w2 ⟨rfl,hr2,bh⟩
    have ni:=hG.aq bh dV
    have dS:=hR.aq bh RH
    obtain⟨⟨y,hcy⟩,Bt⟩:=HGn.out _ ni
    have U2:=U.trans bh
    clear C eu hr hG hR U bh eL
    refine wk ?_
    refine⟨⟨l++[n],a+sz,by simp;omega,by simp,HN.out,?_,dS.fB (by simp;omega) _,?_,U2.setCell (.inr (by simp;omega)) _⟩,by simp[intOf]<;>omega⟩
    ·rw[←HFS.out];exact ni.cc _ _
    ·exact hr2.aq ((ab.refl [w1.heap.size] w2).setCell (.inl (by simp)) _) (hr2.apart ni (by decide) (by omega))
   ·have HN:=aA (Bu (hst.bad Br hu hz))
    simp only[kF hz]at C
    clear hst Br hu
    repeat' go_step
    refine C.mono ?_;rintro e w2 ⟨rfl,hr2,bh⟩
    have dS:=hR.aq bh RH
    have U2:=(U.trans bh).gives (b':=[]) (by simp)
    have RI:=dS.lt
    obtain⟨⟨q0,q1,q2,q3,q4⟩,f0,f1,f2,f3,f4⟩:=dS.c5
    clear C eu hr hG hR U bh hr2
    refine wk ?_
    have N:=ku [.int .i64 0,.int .i64 0,.int .i64 0,.int .i64 0,.slice none 0 0] dS rfl U2 (.inr (by omega))
    simp only[setRow]at N
    generalize World.setCell _ ⟨w.heap.size,4,none⟩ _=W5 at N ⊢
    obtain⟨hN,jr⟩:=N
    clear q0 q1 q2 q3 q4
    obtain⟨⟨q0,q1,q2,q3,q4⟩,-⟩:=hN.c5
    exact bodyPost_ret (v:=.tuple #[.agg #[.int .i64 0,.int .i64 0,.int .i64 0,.int .i64 0,.slice none 0 0],.iface 388 (.agg #[.int .i64 (bad:Int),.int .i64 (a:Int)])]) (by simp[results,results255,go_sem,q0,q1,q2,q3,q4]) rfl ⟨.inl ⟨0,0,0,0,none,0,0,_,_,HN.out,rfl⟩,jr⟩
  ·obtain⟨n0,n1,n2,n3,rfl⟩:=JF (l:=l) (by omega)
   have hN:=hst.all (by rfl)
   clear hst hlt hl4
   have C:=xh wr g A k c b a 2048 (by unfold wY;omega) hr hb
   obtain⟨v,sz,bad,hu⟩:∃v sz bad,tk 2048 (b.drop a)=(v,sz,bad):=⟨_,_,_,rfl⟩
   have HT:=aA (Az hN hu)
   rw[hu]at C
   clear hN hu
   have hG:aQ wr w1.heap.size 359 #[.int .i64 (n0:Int),.int .i64 (n1:Int),.int .i64 (n2:Int),.int .i64 (n3:Int)]:=hG
   by_cases hz:bad=0
   ·subst hz
    simp only[j9]at C
    repeat' go_step
    refine C.mono ?_;rintro e w2 ⟨A2,k2,c2,rfl,eN,hr2,bh⟩
    have dS:=hR.aq bh RH
    have ni:=hG.aq bh dV
    have U2:ab [] [g] w w2:=(U.trans bh).gives (b':=[g]) (by simp;omega)
    have RI:=dS.lt
    obtain⟨⟨s0,s1,s2,s3⟩,-⟩:=ni.c4
    clear C hr hG hR U bh
    repeat' first|go_step|simp only[];go_at_K
    have D:=Bv ((w2.alloc (.cells #[.int .i64 (n0:Int),.int .i64 (n1:Int),.int .i64 (n2:Int),.int .i64 (n3:Int),.slice A2 k2 c2] 147)).drew) g A k c b (a+sz) (Rr.drewN (w:=w2.alloc (.cells #[.int .i64 (n0:Int),.int .i64 (n1:Int),.int .i64 (n2:Int),.int .i64 (n3:Int),.slice A2 k2 c2] 147)) ⟨hr2.aO.alloc _,hr2.own.alloc _,hr2.le⟩ 1) hb
    have gH:=dS.alloc (.cells #[.int .i64 (n0:Int),.int .i64 (n1:Int),.int .i64 (n2:Int),.int .i64 (n3:Int),.slice A2 k2 c2] 147)
    have uD:=aQ.new w2 147 #[.int .i64 (n0:Int),.int .i64 (n1:Int),.int .i64 (n2:Int),.int .i64 (n3:Int),.slice A2 k2 c2]
    have iD:=eN.alloc (.cells #[.int .i64 (n0:Int),.int .i64 (n1:Int),.int .i64 (n2:Int),.int .i64 (n3:Int),.slice A2 k2 c2] 147)
    have U3:ab [] [] w _:=(U2.alloc (.cells #[.int .i64 (n0:Int),.int .i64 (n1:Int),.int .i64 (n2:Int),.int .i64 (n3:Int),.slice A2 k2 c2] 147)).gives (by simp)
    have hle:a+sz≤b.length:=hr2.le
    obtain⟨W,hW⟩:=bk (w2.alloc (.cells #[.int .i64 (n0:Int),.int .i64 (n1:Int),.int .i64 (n2:Int),.int .i64 (n3:Int),.slice A2 k2 c2] 147))
    rw[hW]at D gH uD iD U3 ⊢
    clear hW hr2 dS ni U2 eN s0 s1 s2 s3
    obtain⟨⟨t0,t1,t2,t3,t4⟩,-⟩:=uD.c5
    obtain⟨⟨q0,q1,q2,q3,q4⟩,f0,f1,f2,f3,f4⟩:=gH.c5
    by_cases he:a+sz<b.length
    ·rw[if_pos he,kF (by decide)]at D
     have HN:Hid (body b re=none):=by unfold Hid;rw[HT.out,if_neg (by omega)]
     clear HT he hle
     go_region_with (go_at_call 238;refine D.mono ?_;rintro e w5 ⟨rfl,nq,rfl⟩)
     all_goals
      have N:=ku (W:=W.drewN (1+nq)) [.int .i64 (n0:Int),.int .i64 (n1:Int),.int .i64 (n2:Int),.int .i64 (n3:Int),.slice A2 k2 c2] (gH.drewN _) rfl (U3.drewN _) (.inr (by omega))
      simp only[setRow]at N
      generalize World.setCell _ ⟨w.heap.size,4,none⟩ _=W5 at N ⊢
      obtain⟨hN,jr⟩:=N
      clear q0 q1 q2 q3 q4
      obtain⟨⟨q0,q1,q2,q3,q4⟩,-⟩:=hN.c5
      refine wk ?_
      exact bodyPost_ret (v:=.tuple #[.agg #[.int .i64 (n0:Int),.int .i64 (n1:Int),.int .i64 (n2:Int),.int .i64 (n3:Int),.slice A2 k2 c2],.iface 388 (.agg #[.int .i64 2,.int .i64 ((a+sz:Nat):Int)])]) (by simp[results,results255,go_sem,q0,q1,q2,q3,q4]) rfl ⟨.inl ⟨_,_,_,_,_,_,_,_,_,HN.out,rfl⟩,jr⟩
    ·rw[if_neg he,j9]at D
     have HN:Hid (body b re=some ([n0,n1,n2,n3],v)):=by unfold Hid;rw[HT.out,if_pos ⟨rfl,by omega⟩]
     have hne:∀j∈ak A2,j≠w.heap.size:=by rintro j hj rfl;exact iD.own.ne gH (by decide) hj
     clear HT he hle
     go_region_with (go_at_call 238;refine D.mono ?_;rintro e w5 ⟨rfl,nq,rfl⟩)
     all_goals
      have N:=ku (W:=W.drewN (1+nq)) [.int .i64 (n0:Int),.int .i64 (n1:Int),.int .i64 (n2:Int),.int .i64 (n3:Int),.slice A2 k2 c2] (gH.drewN _) rfl (U3.drewN _) (.inr (by omega))
      have N2:=ku (W:=W.drewN (1+nq)) [.int .i64 (n0:Int),.int .i64 (n1:Int),.int .i64 (n2:Int),.int .i64 (n3:Int),.slice A2 k2 c2] (gH.drewN _) rfl (ab.refl [w.heap.size] (W.drewN (1+nq))) (.inl (by simp))
      have fI:=bW.aq (w:=W.drewN (1+nq)) ⟨iD.len,iD.own.drewN _⟩ N2.2 (by intro j hj;simpa using hne j hj)
      clear N2
      simp only[setRow]at N fI
      generalize World.setCell _ ⟨w.heap.size,4,none⟩ _=W5 at N fI ⊢
      obtain⟨hN,jr⟩:=N
      clear q0 q1 q2 q3 q4
      obtain⟨⟨q0,q1,q2,q3,q4⟩,-⟩:=hN.c5
      refine wk ?_
      exact bodyPost_ret (v:=.tuple #[.agg #[.int .i64 (n0:Int),.int .i64 (n1:Int),.int .i64 (n2:Int),.int .i64 (n3:Int),.slice A2 k2 c2],.nilIface]) (by simp[results,results255,go_sem,q0,q1,q2,q3,q4]) rfl ⟨.inr ⟨_,_,_,_,_,_,_,_,HN.out,fI,rfl⟩,jr⟩
   ·have HN:Hid (body b re=none):=by unfold Hid;rw[HT.out,if_neg (by simp[hz])]
    simp only[kF hz]at C
    clear HT
    repeat' go_step
    refine C.mono ?_;rintro e w2 ⟨A2,k2,c2,rfl,eN,hr2,bh⟩
    have dS:=hR.aq bh RH
    have U2:=(U.trans bh).gives (b':=[]) (by simp)
    have RI:=dS.lt
    obtain⟨⟨q0,q1,q2,q3,q4⟩,f0,f1,f2,f3,f4⟩:=dS.c5
    clear C hr hG hR U bh hr2
    refine wk ?_
    have N:=ku [.int .i64 0,.int .i64 0,.int .i64 0,.int .i64 0,.slice none 0 0] dS rfl U2 (.inr (by omega))
    simp only[setRow]at N
    generalize World.setCell _ ⟨w.heap.size,4,none⟩ _=W5 at N ⊢
    obtain⟨hN,jr⟩:=N
    clear q0 q1 q2 q3 q4
    obtain⟨⟨q0,q1,q2,q3,q4⟩,-⟩:=hN.c5
    exact bodyPost_ret (v:=.tuple #[.agg #[.int .i64 0,.int .i64 0,.int .i64 0,.int .i64 0,.slice none 0 0],.iface 388 (.agg #[.int .i64 (bad:Int),.int .i64 (a:Int)])]) (by simp[results,results255,go_sem,q0,q1,q2,q3,q4]) rfl ⟨.inl ⟨0,0,0,0,none,0,0,_,_,HN.out,rfl⟩,jr⟩
def adg(b:List UInt8)(w:World)(e:Ending):Prop:=
 (nj b=none∧e=.returned (.tuple #[.agg #[.int .i64 0,.int .i64 0,.int .i64 0,.int .i64 0,.slice none 0 0],.iface 349 (.agg #[.int .i64 2])]))∨
 ∃x:Rv,nj b=some x.rc∧bW 5 w x.A x.n x.c x.b∧e=.returned (.tuple #[.agg #[.int .i64 x.k,.int .i64 x.s,.int .i64 x.r,.int .i64 x.t,.slice x.A x.n x.c],.nilIface])
theorem JG(w:World)(B:Option Addr)(m d:Nat)(b:List UInt8)(hB:bE w B m b)(hb:b.length≤140737488355328) :
  Calls prog 205 #[.slice B m d] w fun e w'=>adg b w' e∧ab [] [] w w':=by
 have Bq:=aQ.new w 147 #[.int .i64 0,.int .i64 0,.int .i64 0,.int .i64 0,.slice none 0 0]
 have C:=Pb _ B m d b (hB.alloc (.cells #[.int .i64 0,.int .i64 0,.int .i64 0,.int .i64 0,.slice none 0 0] 147)) hb
 go_enter func205,ntmps205
 repeat' go_step
 refine C.mono ?_;rintro e w1 ⟨hT,bn⟩
 have gT:=Bq.aq bn (by simp)
 have U1:ab [] [] w w1:=((ab.refl [] w).alloc _).trans bn
 clear C Bq bn
 rcases hT with⟨i0,i1,i2,i3,A,n,c,t,x,yW,rfl⟩|⟨n0,n1,n2,n3,v,A,n,c,yW,iY,rfl⟩
 ·have HN:=aA (Bw (Pc (.inl rfl) yW))
  clear yW
  have dS:=gT.alloc (.cells #[.int .i64 i0,.int .i64 i1,.int .i64 i2,.int .i64 i3,.slice A n c] 147)
  have U2:=U1.alloc (.cells #[.int .i64 i0,.int .i64 i1,.int .i64 i2,.int .i64 i3,.slice A n c] 147)
  have RI:=gT.lt
  obtain⟨⟨q0,q1,q2,q3,q4⟩,f0,f1,f2,f3,f4⟩:=gT.c5
  refine wk ?_
  have N:=ku [.int .i64 0,.int .i64 0,.int .i64 0,.int .i64 0,.slice none 0 0] gT rfl U1 (.inr (by omega))
  simp only[setRow]at N
  generalize World.setCell _ ⟨w.heap.size,4,none⟩ _=W5 at N ⊢
  obtain⟨hN,jr⟩:=N
  clear q0 q1 q2 q3 q4
  have hN:=hN.alloc (.cells #[.int .i64 i0,.int .i64 i1,.int .i64 i2,.int .i64 i3,.slice A n c] 147)
  obtain⟨⟨q0,q1,q2,q3,q4⟩,-⟩:=hN.c5
  exact bodyPost_ret (v:=.tuple #[.agg #[.int .i64 0,.int .i64 0,.int .i64 0,.int .i64 0,.slice none 0 0],.iface 349 (.agg #[.int .i64 2])]) (by simp[results,results205,go_sem,q0,q1,q2,q3,q4]) rfl ⟨.inl ⟨HN.out,rfl⟩,jr.alloc _⟩
 ·obtain⟨hby,rf⟩:=Pe (.inl rfl) yW
  obtain⟨x,hx⟩:∃x:Rv,x=⟨n0,n1,n2,n3,A,n,c,v⟩:=⟨_,rfl⟩
  have uB:x.rc=Rc.of n0 n1 n2 n3 v:=by rw[hx];rfl
  have iY:bW 5 w1 x.A x.n x.c x.b:=by rw[hx];exact iY
  have DN:x.val=.agg #[.int .i64 x.k,.int .i64 x.s,.int .i64 x.r,.int .i64 x.t,.slice x.A x.n x.c]:=rfl
  have fe:(Value.tuple #[.agg #[.int .i64 (n0:Int),.int .i64 (n1:Int),.int .i64 (n2:Int),.int .i64 (n3:Int),.slice A n c],.nilIface])=.tuple #[.agg #[.int .i64 x.k,.int .i64 x.s,.int .i64 x.r,.int .i64 x.t,.slice x.A x.n x.c],.nilIface]:=by rw[hx]
  rw[fe]
  rw[←uB]at hby rf
  clear hx uB fe yW
  have dS:=gT.alloc (.cells #[.int .i64 x.k,.int .i64 x.s,.int .i64 x.r,.int .i64 x.t,.slice x.A x.n x.c] 147)
  have U2:=U1.alloc (.cells #[.int .i64 x.k,.int .i64 x.s,.int .i64 x.r,.int .i64 x.t,.slice x.A x.n x.c] 147)
  have LY:=aQ.new w1 147 #[.int .i64 x.k,.int .i64 x.s,.int .i64 x.r,.int .i64 x.t,.slice x.A x.n x.c]
  have eN:=iY.alloc (.cells #[.int .i64 x.k,.int .i64 x.s,.int .i64 x.r,.int .i64 x.t,.slice x.A x.n x.c] 147)
  have RI:=gT.lt
  by_cases hm:x.rc.bL
  ·have HN:=aA (Bx (b:=b) (r:=x.rc) ⟨hm,hby⟩)
   have M:=xd x _ eN.rd hm
   rw[DN]at M
   clear hm hby rf DN
   repeat' first|go_guarded|go_step|simp only[];go_at_K
   refine M.mono ?_;rintro e w2 ⟨rfl,bh⟩
   have gH:=dS.aq bh (by simp)
   have uD:=LY.aq bh (by simp)
   have iD:=eN.aq bh (by simp)
   have U3:=U2.trans bh
   have hne:∀j∈ak x.A,j≠w.heap.size:=by rintro j hj rfl;exact iD.own.ne gH (by decide) hj
   clear dS LY eN U2 bh iY
   obtain⟨⟨t0,t1,t2,t3,t4⟩,-⟩:=uD.c5
   obtain⟨⟨q0,q1,q2,q3,q4⟩,f0,f1,f2,f3,f4⟩:=gH.c5
   refine wk ?_
   have N:=ku [.int .i64 x.k,.int .i64 x.s,.int .i64 x.r,.int .i64 x.t,.slice x.A x.n x.c] gH rfl U3 (.inr (by omega))
   have N2:=ku [.int .i64 x.k,.int .i64 x.s,.int .i64 x.r,.int .i64 x.t,.slice x.A x.n x.c] gH rfl (ab.refl [w.heap.size] w2) (.inl (by simp))
   have fI:=iD.aq N2.2 (by intro j hj;simpa using hne j hj)
   clear N2
   simp only[setRow]at N fI
   generalize World.setCell _ ⟨w.heap.size,4,none⟩ _=W5 at N fI ⊢
   obtain⟨hN,jr⟩:=N
   clear q0 q1 q2 q3 q4
   obtain⟨⟨q0,q1,q2,q3,q4⟩,-⟩:=hN.c5
   exact bodyPost_ret (v:=.tuple #[.agg #[.int .i64 x.k,.int .i64 x.s,.int .i64 x.r,.int .i64 x.t,.slice x.A x.n x.c],.nilIface]) (by simp[results,results205,go_sem,q0,q1,q2,q3,q4]) rfl ⟨.inr ⟨x,HN.out,fI,rfl⟩,jr⟩
  ·have HN:=aA (Bw (b:=b) fun r hr=>hm (by rw[←rf r hr];exact hr.1))
   have M:=JD x _ eN.rd hm
   rw[DN]at M
   clear hm hby rf DN
   repeat' first|go_guarded|go_step|simp only[];go_at_K
   refine M.mono ?_;rintro e w2 ⟨rfl,bh⟩
   have gH:=dS.aq bh (by simp)
   have U3:=U2.trans bh
   clear dS LY eN U2 bh iY
   obtain⟨⟨q0,q1,q2,q3,q4⟩,f0,f1,f2,f3,f4⟩:=gH.c5
   refine wk ?_
   have N:=ku [.int .i64 0,.int .i64 0,.int .i64 0,.int .i64 0,.slice none 0 0] gH rfl U3 (.inr (by omega))
   simp only[setRow]at N
   generalize World.setCell _ ⟨w.heap.size,4,none⟩ _=W5 at N ⊢
   obtain⟨hN,jr⟩:=N
   clear q0 q1 q2 q3 q4
   obtain⟨⟨q0,q1,q2,q3,q4⟩,-⟩:=hN.c5
   exact bodyPost_ret (v:=.tuple #[.agg #[.int .i64 0,.int .i64 0,.int .i64 0,.int .i64 0,.slice none 0 0],.iface 349 (.agg #[.int .i64 2])]) (by simp[results,results205,go_sem,q0,q1,q2,q3,q4]) rfl ⟨.inl ⟨HN.out,rfl⟩,jr⟩
