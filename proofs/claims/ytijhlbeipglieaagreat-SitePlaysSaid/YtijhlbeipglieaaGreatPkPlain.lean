/- For SitePlays. -/
import Derived.WalkKit
import Derived.Laws.BitsAllLaws
import Derived.Laws.BitsLemmas
set_option linter.all false
namespace aA
open Go List
def dL(n:Nat):List UInt8:=if n<128 then[UInt8.ofNat n]else UInt8.ofNat (n % 128+128)::dL (n / 128)
termination_by n
decreasing_by omega
theorem tX{n:Nat}(h:n<128):dL n= [UInt8.ofNat n]:=by rw[dL,if_pos h]
theorem wC{n:Nat}(h:128≤n):dL n=UInt8.ofNat (n % 128+128)::dL (n / 128):=by rw[dL,if_neg (by omega)]
theorem Ld(k:Nat):∀n,n<128^(k+1)→(dL n).length≤k+1:=by
 induction k with
 |zero=>intro n h;rw[tX (by simpa using h)];simp
 |succ k ih=>
  intro n h
  by_cases h1:n<128
  ·rw[tX h1];simp
  ·rw[wC (by omega)]
   have:n / 128<128^(k+1):=by
    rw[Nat.pow_succ]at h
    exact Nat.div_lt_of_lt_mul (by omega)
   have:=ih _ this
   simp;omega
theorem X4(n:Nat):0<(dL n).length:=by
 by_cases h:n<128
 ·rw[tX h];simp
 ·rw[wC (by omega)];simp
def dZ(n:Nat):Prop:=n<18446744073709551616
theorem jE{n:Nat}(h:dZ n):(dL n).length≤10:=Ld 9 n (by unfold dZ at h;omega)
theorem dZ.le{n m:Nat}(h:dZ n)(hm:m≤n):dZ m:=Nat.lt_of_le_of_lt hm h
theorem dZ.small{n:Nat}(h:n<9223372036854775808):dZ n:=by unfold dZ;omega
theorem Bo{m:Int}(h0:0≤m)(h:dZ m.toNat):IntKind.u64.wrap m=m:=by
 rw[IntKind.wrap_u64];unfold dZ at h;omega
theorem X5{m:Int}(h0:0≤m)(h:dZ m.toNat)(k:Int)(hk:0<k):IntKind.u64.wrap (m.tdiv k)=m / k:=by
 have e:m.tdiv k=m / k:=Int.tdiv_eq_ediv_of_nonneg h0
 rw[e,Bo (Int.ediv_nonneg h0 (by omega))]
 refine h.le ?_
 have:=Int.ediv_le_self k h0
 omega
theorem TN{m:Int}(h0:0≤m)(h:dZ m.toNat):bits .and .u64 m 127=m % 128:=by
 unfold dZ at h
 rw[u64_and m 127 h0 (by omega) (by omega) (by omega)]
 rw[show(127:Int).toNat=127 from rfl,nat_mask7];omega
theorem ab1{x:Int}(h0:0≤x)(h:x<128):bits .or .u8 x 128=x+128:=by
 rw[u8_or x 128 h0 (by omega) (by omega) (by omega),show(128:Int).toNat=128 from rfl,Nat.or_comm,nat_join 7 128 x.toNat (by decide) (by omega)]
 omega
theorem TP{m:Int}(h0:0≤m)(h:dZ m.toNat):bits .or .u8 (bits .and .u64 m 127 % 256) 128=((m.toNat % 128+128:Nat):Int):=by
 rw[TN h0 h,show m % 128 % 256=m % 128 by omega,ab1 (by omega) (by omega)];omega
def uL(n:Int):Prop:=-9223372036854775808≤n∧n≤9223372036854775807
def bI(n:Nat):Prop:=n<4294967296
def tF(w:Nat):Nat:=if w % 2=1 then(w / 2) ^^^ 3988292384 else w / 2
def qp:Nat→Nat→Nat
 |0,w=>w
 |n+1,w=>tF (qp n w)
def xc(w:Nat)(c:UInt8):Nat:=qp 8 (w ^^^ c.toNat)
def vM(w:Nat)(l:List UInt8):Nat:=l.foldl xc w
def more(s:Nat)(l:List UInt8):Nat:=vM (s ^^^ 4294967295) l ^^^ 4294967295
theorem bI.xor{a b:Nat}(ha:bI a)(hb:bI b):bI (a ^^^ b):=Nat.xor_lt_two_pow (n:=32) ha hb
theorem bI.byte(c:UInt8):bI c.toNat:=by have:=c.toNat_lt;unfold bI;omega
theorem bI.half{a:Nat}(h:bI a):bI (a / 2):=by unfold bI at *;omega
theorem bI.all:bI 4294967295:=by unfold bI;omega
theorem bI.pol:bI 3988292384:=by unfold bI;omega
theorem bI.zero:bI 0:=by unfold bI;omega
theorem TQ{w:Nat}(h:bI w):bI (tF w):=by
 unfold tF;split
 ·exact h.half.xor bI.pol
 ·exact h.half
theorem xe{w:Nat}(h:bI w):∀n,bI (qp n w)
 |0=>h
 |n+1=>TQ (xe h n)
theorem TR{w:Nat}(h:bI w)(c:UInt8):bI (xc w c):=xe (h.xor (bI.byte c)) 8
theorem Bg{w:Nat}(h:bI w)(l:List UInt8):bI (vM w l):=by
 unfold vM
 induction l generalizing w with
 |nil=>exact h
 |cons c l ih=>exact ih (TR h c)
theorem qw{s:Nat}(h:bI s)(l:List UInt8):bI (more s l):=(Bg (h.xor bI.all) l).xor bI.all
theorem ET{w:Nat}{l:List UInt8}{k:Nat}(h:k<l.length):vM w (l.take (k+1))=xc (vM w (l.take k)) l[k]:=by
 unfold vM
 rw[take_succ_eq_append_getElem h,foldl_append];rfl
theorem SQ{x:Nat}(h:bI x)(ho:x % 2=1):(bits .and .u32 (x:Int) 1==1)=true:=by
 rw[show(1:Int)=((1:Nat):Int)from rfl,u32_and_nat x 1 h (by omega),nat_mask1,ho];rfl
theorem PM{x:Nat}(h:bI x)(ho:¬ x % 2=1):(bits .and .u32 (x:Int) 1==1)=false:=by
 rw[show(1:Int)=((1:Nat):Int)from rfl,u32_and_nat x 1 h (by omega),nat_mask1,show x % 2=0 by omega];rfl
theorem Ht{x:Nat}(h:bI x)(ho:x % 2=1):bits .xor .u32 ((x:Int) / 2) 3988292384=((tF x:Nat):Int):=by
 unfold tF
 rw[if_pos ho,show((x:Int) / 2)=((x / 2:Nat):Int) by omega,show(3988292384:Int)=((3988292384:Nat):Int)from rfl,u32_xor_nat _ _ h.half bI.pol]
theorem ES{x:Nat}(ho:¬ x % 2=1):(x:Int) / 2=((tF x:Nat):Int):=by
 unfold tF;rw[if_neg ho];omega
theorem PN{x:Nat}(h:bI x)(ho:x % 2=1):bits .xor .u32 ((x:Int) / 2 % 4294967296) 3988292384=((tF x:Nat):Int):=by
 rw[←Ht h ho,Int.emod_eq_of_lt (by omega) (by unfold bI at h;omega)]
theorem N7{x:Nat}(h:bI x)(ho:¬ x % 2=1):(x:Int) / 2 % 4294967296=((tF x:Nat):Int):=by
 rw[←ES ho,Int.emod_eq_of_lt (by omega) (by unfold bI at h;omega)]
theorem PL{m:Nat}(h:bI m)(c:UInt8):bits .xor .u32 (m:Int) ((c.toNat:Int) % 4294967296)=((m ^^^ c.toNat:Nat):Int):=by
 have:=bI.byte c
 rw[show(c.toNat:Int) % 4294967296=((c.toNat:Nat):Int) by unfold bI at this;omega,u32_xor_nat _ _ h this]
theorem NZ{m:Nat}(h:bI m)(c:UInt8):bits .xor .u32 (m:Int) (c.toNat:Int)=((m ^^^ c.toNat:Nat):Int):=u32_xor_nat _ _ h (bI.byte c)
theorem Ch{m:Nat}(h:bI m):bits .xor .u32 (if IntKind.u32.signed=true then -1 else IntKind.u32.max) (m:Int)=((m ^^^ 4294967295:Nat):Int):=by
 rw[show(if IntKind.u32.signed=true then -1 else IntKind.u32.max)=((4294967295:Nat):Int)from rfl,u32_xor_nat _ _ bI.all h,Nat.xor_comm]
theorem Hu{m:Nat}(h:bI m):bits .xor .u32 (m:Int) 4294967295=((m ^^^ 4294967295:Nat):Int):=by
 rw[show(4294967295:Int)=((4294967295:Nat):Int)from rfl,u32_xor_nat _ _ h bI.all]
def four(n:Nat):List UInt8:=[UInt8.ofNat n,UInt8.ofNat (n / 256),UInt8.ofNat (n / 65536),UInt8.ofNat (n / 16777216)]
def bT(l:List UInt8):Nat:=(l.getD 0 0).toNat+256*(l.getD 1 0).toNat+65536*(l.getD 2 0).toNat+16777216*(l.getD 3 0).toNat
def nH(z b:List UInt8):Nat:=more (more 0 z) b
def put(b:List UInt8):List UInt8:=four b.length++four (nH (four b.length) b)++b
def fst(b:List UInt8):Nat × Nat:=
 if b.length<8 then(0,3)else if 4096<bT b then(0,5)else if b.length-8<bT b then(0,3)
 else if bT (b.drop 4)≠nH (b.take 4) ((b.drop 8).take (bT b)) then(0,4) else(bT b,0)
@[simp] theorem aeN (n:Nat):(four n).length=4:=rfl
theorem xg(l:List UInt8):bI (bT l):=by
 unfold bT bI
 have h0:=(l.getD 0 0).toNat_lt
 have h1:=(l.getD 1 0).toNat_lt
 have h2:=(l.getD 2 0).toNat_lt
 have h3:=(l.getD 3 0).toNat_lt
 omega
theorem yT{n:Nat}(h:bI n)(r:List UInt8):bT (four n++r)=n:=by
 unfold bI at h
 simp[four,bT]
 omega
theorem X6{a b c d:UInt8} :four (bT [a,b,c,d])= [a,b,c,d]:=by
 have h0:=a.toNat_lt
 have h1:=b.toNat_lt
 have h2:=c.toNat_lt
 have h3:=d.toNat_lt
 have e:bT [a,b,c,d]=a.toNat+256*b.toNat+65536*c.toNat+16777216*d.toNat:=rfl
 unfold four
 rw[e]
 have f:∀(x:UInt8)(n:Nat),n % 256=x.toNat→UInt8.ofNat n=x:=fun x n h=>by
  apply UInt8.toNat_inj.1;rw[UInt8.toNat_ofNat'];omega
 rw[f a _ (by omega),f b _ (by omega),f c _ (by omega),f d _ (by omega)]
theorem xA{l:List UInt8}(h:4≤l.length):l=four (bT l)++l.drop 4:=by
 match l,h with
 |a::b::c::d::r,_=>
  have e:bT (a::b::c::d::r)=bT [a,b,c,d]:=rfl
  rw[e,X6];rfl
theorem N9{l:List UInt8}(h:4≤l.length):l.take 4=four (bT l):=by
 conv=>lhs;rw[xA h]
 rw[take_append_of_le_length (by simp)];simp[four]
theorem Bh(z b:List UInt8):bI (nH z b):=qw (qw bI.zero _) _
@[simp] theorem fZ (b:List UInt8):(put b).length=8+b.length:=by simp[put];omega
theorem Fw(b r:List UInt8):(put b++r).drop 8=b++r:=by simp[put,four]
theorem X7{b:List UInt8}(h:b.length≤4096)(r:List UInt8):fst (put b++r)=(b.length,0):=by
 have hU:bI b.length:=by unfold bI;omega
 have e1:bT (put b++r)=b.length:=by unfold put;rw[append_assoc,append_assoc];exact yT hU _
 have e2:bT ((put b++r).drop 4)=nH (four b.length) b:=by
  have:(put b++r).drop 4=four (nH (four b.length) b)++(b++r):=by simp[put,four]
  rw[this];exact yT (Bh _ _) _
 have e3:(put b++r).take 4=four b.length:=by rw[N9 (by simp;omega),e1]
 have hl:(put b++r).length=8+b.length+r.length:=by simp
 unfold fst
 rw[if_neg (by omega),e1,if_neg (by omega),if_neg (by omega),e2,e3,Fw,take_left',if_neg (by simp)]
 rfl
theorem wm{b:List UInt8}{n:Nat}(h:fst b=(n,0)):n≤4096∧8+n≤b.length∧b=put ((b.drop 8).take n)++b.drop (8+n):=by
 unfold fst at h
 split at h
 ·simp at h
 ·split at h
  ·simp at h
  ·split at h
   ·simp at h
   ·split at h
    ·simp at h
    ·rename_i h1 h2 h3 h4
     simp only[Prod.mk.injEq,and_true]at h
     subst h
     refine⟨by omega,by omega,?_⟩
     have hl:((b.drop 8).take (bT b)).length=bT b:=by rw[length_take,length_drop];omega
     have e1:=xA (l:=b) (by omega)
     have e2:=xA (l:=b.drop 4) (by rw[length_drop];omega)
     have h5:bT (b.drop 4)=nH (b.take 4) ((b.drop 8).take (bT b)):=Classical.not_not.1 h4
     rw[N9 (by omega)]at h5
     unfold put
     rw[hl,←h5,append_assoc,append_assoc]
     conv=>lhs;rw[e1,e2]
     congr 2
     rw[drop_drop]
     conv=>lhs;rw[←take_append_drop (bT b) (b.drop (4+4))]
     rw[drop_drop]
theorem TT{b:List UInt8}(h:b.length≤4096){k:Nat}(hk:k<8+b.length):fst ((put b).take k)=(0,3):=by
 have hU:bI b.length:=by unfold bI;omega
 have hl:((put b).take k).length=k:=by rw[length_take,fZ];omega
 by_cases h8:k<8
 ·unfold fst;rw[if_pos (by omega)]
 ·have e:bT ((put b).take k)=b.length:=by
   have:(put b).take k=four b.length++(four (nH (four b.length) b)++b).take (k-4):=by
    unfold put;rw[append_assoc,take_append,take_of_length_le (by simp;omega)];simp
   rw[this];exact yT hU _
  unfold fst
  rw[if_neg (by omega),e,if_neg (by omega),if_pos (by omega)]
theorem Qv(n:Nat):(four n).take 4=four n:=rfl
theorem Qw{n i:Nat}(h:i<4):(four n).take (i+1)=(four n).take i++[UInt8.ofNat (n / 256^i)]:=by
 have:i=0∨i=1∨i=2∨i=3:=by omega
 rcases this with rfl|rfl|rfl|rfl<;>simp[four]
def hi4(l:List UInt8)(k:Nat):Nat:=if k=0 then bT l else if k=1 then(l.getD 1 0).toNat+256*(l.getD 2 0).toNat+65536*(l.getD 3 0).toNat else if k=2 then(l.getD 2 0).toNat+256*(l.getD 3 0).toNat else if k=3 then(l.getD 3 0).toNat else 0
theorem TU{l:List UInt8}{k:Nat}(hk:k<4)(hl:k<l.length):hi4 l k=hi4 l (k+1)*256+l[k].toNat:=by
 have h0:l[k]=l.getD k 0:=by simp[hl]
 rw[h0]
 have:k=0∨k=1∨k=2∨k=3:=by omega
 rcases this with rfl|rfl|rfl|rfl<;>simp[hi4,bT]<;>omega
theorem X8(l:List UInt8)(k:Nat):bI (hi4 l k):=by
 have h:=xg l
 have h0:=(l.getD 0 0).toNat_lt
 have h1:=(l.getD 1 0).toNat_lt
 have h2:=(l.getD 2 0).toNat_lt
 have h3:=(l.getD 3 0).toNat_lt
 unfold hi4 bI at *
 split
 ·exact h
 ·split
  ·omega
  ·split
   ·omega
   ·split<;>omega
theorem TV{x c h:Nat}(e:h=x*256+c)(hU:bI h):(x:Int)*256 % 4294967296+c=((h:Nat):Int):=by
 unfold bI at hU;omega
theorem Ol{a b i:Nat}(h:a<2^i)(hb:b % 2^i=0)(hU:bI (a+b)):bits .or .u32 (a:Int) (b:Int)=((a+b:Nat):Int):=by
 unfold bI at hU
 rw[u32_or_nat a b (by omega) (by omega),Nat.or_comm,nat_join i b a hb h,Nat.add_comm]
theorem or4{x0 x1 x2 x3 m:Nat}(h0:x0<256)(h1:x1<256)(h2:x2<256)(h3:x3<256)(hm:m=x0+256*x1+65536*x2+16777216*x3) :
  bits .or .u32 (bits .or .u32 (bits .or .u32 ((x0:Int) % 4294967296) ((x1:Int) % 4294967296*256 % 4294967296)) ((x2:Int) % 4294967296*65536 % 4294967296)) ((x3:Int) % 4294967296*16777216 % 4294967296)=((m:Nat):Int):=by
 have e0:(x0:Int) % 4294967296=((x0:Nat):Int):=by omega
 have e1:(x1:Int) % 4294967296*256 % 4294967296=((256*x1:Nat):Int):=by omega
 have e2:(x2:Int) % 4294967296*65536 % 4294967296=((65536*x2:Nat):Int):=by omega
 have e3:(x3:Int) % 4294967296*16777216 % 4294967296=((16777216*x3:Nat):Int):=by omega
 rw[e0,e1,e2,e3,Ol (i:=8) (by omega) (by omega) (by unfold bI;omega),Ol (i:=16) (by omega) (by omega) (by unfold bI;omega),Ol (i:=24) (by omega) (by omega) (by unfold bI;omega),hm]
theorem SS{b:List UInt8}(h:4≤b.length):bT b=b[0].toNat+256*b[1].toNat+65536*b[2].toNat+16777216*b[3].toNat:=by
 match b,h with
 |_::_::_::_::_,_=>rfl
theorem XX{x y:Nat}(hx:bI x)(hy:bI y)(h:y≠x):(!(((y:Int) % 256==(x:Int) % 256)&&(((y:Int) / 256 % 256==(x:Int) / 256 % 256)&&(((y:Int) / 65536 % 256==(x:Int) / 65536 % 256)&&((y:Int) / 16777216 % 256==(x:Int) / 16777216 % 256)))))=true:=by
 unfold bI at hx hy
 rw[Bool.not_eq_true',Bool.eq_false_iff]
 intro hh
 simp only[Bool.and_eq_true,beq_iff_eq]at hh
 omega
theorem SV{y:Nat}{a b c d:UInt8}(h:four y= [a,b,c,d]):(a.toNat:Int)=(y:Int) % 256∧(b.toNat:Int)=(y:Int) / 256 % 256∧(c.toNat:Int)=(y:Int) / 65536 % 256∧(d.toNat:Int)=(y:Int) / 16777216 % 256:=by
 simp only[four,List.cons.injEq,and_true]at h
 obtain⟨rfl,rfl,rfl,rfl⟩:=h
 simp
def scan(b:List UInt8):List (List UInt8) × Nat:=
 if(fst b).2=0 then
  if b.length<8 then([],0) else((b.drop 8).take (fst b).1::(scan (b.drop (8+(fst b).1))).1,8+(fst b).1+(scan (b.drop (8+(fst b).1))).2)
 else([],0)
termination_by b.length
decreasing_by all_goals (rw[length_drop];omega)
theorem wu{b:List UInt8}(h:(fst b).2≠0):scan b=([],0):=by rw[scan,if_neg h]
theorem xh{b:List UInt8}{n:Nat}(h:fst b=(n,0)):scan b=((b.drop 8).take n::(scan (b.drop (8+n))).1,8+n+(scan (b.drop (8+n))).2):=by
 have:=wm h
 rw[scan,h,if_pos rfl,if_neg (by omega)]
theorem IM{b:List UInt8}(h:b.length≤4096)(r:List UInt8):scan (put b++r)=(b::(scan r).1,8+b.length+(scan r).2):=by
 rw[xh (X7 h r),Fw,take_left']
 ·have:(put b++r).drop (8+b.length)=r:=by rw[←fZ b,drop_left'];rfl
  rw[this]
 ·rfl
theorem IP:scan []=([],0):=wu (by unfold fst;simp)
theorem wD(b:List UInt8):(scan b).2≤b.length∧b.take (scan b).2=(scan b).1.flatMap put∧∀x∈(scan b).1,x.length≤4096:=by
 induction hn:b.length using Nat.strongRecOn generalizing b with
 |_ n ih=>
  subst hn
  by_cases h:(fst b).2=0
  ·obtain⟨m,hm⟩:∃m,fst b=(m,0):=⟨(fst b).1,by rw[←h]⟩
   obtain⟨h1,h2,h3⟩:=wm hm
   obtain⟨i1,i2,i3⟩:=ih (b.drop (8+m)).length (by rw[length_drop];omega) _ rfl
   rw[xh hm]
   refine⟨by rw[length_drop]at i1;simp only;omega,?_,fun x hx=>?_⟩
   ·have hl:(put ((b.drop 8).take m)).length=8+m:=by rw[fZ,length_take,length_drop];omega
    simp only[flatMap_cons]
    rw[←i2]
    generalize (scan (b.drop (8+m))).2=z
    conv=>lhs;rw[h3]
    rw[take_append,hl,take_of_length_le (by omega)]
    congr 2;omega
   ·rcases mem_cons.1 hx with rfl|hx
    ·rw[length_take];omega
    ·exact i3 x hx
  ·rw[wu h];simp
theorem Qx{l:List (List UInt8)}(h:∀b∈l,b.length≤4096)(k:Nat)(hk:k≤(l.flatMap put).length) :
  ∃m,m≤l.length∧(scan ((l.flatMap put).take k)).1=l.take m∧(scan ((l.flatMap put).take k)).2=((l.take m).flatMap put).length∧((l.take m).flatMap put).length≤k∧(∀(hm:m<l.length),k<((l.take m).flatMap put).length+(put l[m]).length):=by
 induction l generalizing k with
 |nil=>simp at hk;subst hk;exact⟨0,by simp,by simp[IP],by simp[IP],by simp,by simp⟩
 |cons b l ih=>
  have hb:=h b (by simp)
  by_cases hlt:k<8+b.length
  ·refine⟨0,by simp,?_,?_,by simp,fun _=>by simpa using hlt⟩ <;>
   ·rw[flatMap_cons,take_append_of_le_length (by rw[fZ];omega),wu (by rw[TT hb hlt];simp)];simp
  ·rw[flatMap_cons,length_append,fZ]at hk
   obtain⟨m,h1,h2,h3,h4,h5⟩:=ih (fun c hc=>h c (by simp[hc])) (k - (8+b.length)) (by omega)
   have e:((b::l).flatMap put).take k=put b++(l.flatMap put).take (k-(8+b.length)):=by
    rw[flatMap_cons,take_append,fZ,take_of_length_le (by rw[fZ];omega)]
   refine⟨m+1,by simp;omega,?_,?_,?_,?_⟩
   ·rw[e,IM hb,h2];simp
   ·rw[e,IM hb,h3];simp
   ·simp only[take_succ_cons,flatMap_cons,length_append,fZ];omega
   ·intro hm
    have:=h5 (by simpa using hm)
    simp only[take_succ_cons,flatMap_cons,length_append,fZ,getElem_cons_succ]at this ⊢;omega
def jG(i acc:Nat):List UInt8→Nat × Nat × Nat
 |[]=>(0,0,3)
 |c::r=>
  if i=9∧1<c.toNat then(0,0,2)
  else if 128≤c.toNat then jG (i+1) (acc+c.toNat % 128*128^i) r
  else if c.toNat=0∧0<i then(0,0,2)
  else(acc+c.toNat*128^i,i+1,0)
def uv(l:List UInt8):Nat × Nat × Nat:=jG 0 0 l
theorem Gx(i:Nat):(2:Int)^(7*i)=((128^i:Nat):Int):=by
 rw[Int.pow_mul];simp
theorem xB{i acc cn:Nat}(hi:i≤9)(abU:acc<128^i)(hcn:cn<256)(h9:i=9→cn≤1) :
  bits .or .u64 (acc:Int) (IntKind.u64.wrap (IntKind.u64.wrap (bits .and .u8 (cn:Int) 127)*2^(7*i)))=((acc+cn % 128*128^i:Nat):Int):=by
 have h1:bits .and .u8 (cn:Int) 127=((cn % 128:Nat):Int):=by
  have:=u8_and_nat cn 127 hcn (by omega)
  rw[nat_mask7]at this;exact this
 have hp:128^i≤128^9:=Nat.pow_le_pow_right (by omega) hi
 have hx:cn % 128*128^i<18446744073709551616:=by
  by_cases h:i=9
  ·subst h;have:=h9 rfl;have:cn % 128≤1:=by omega
   have:=Nat.mul_le_mul_right (128^9) this
   omega
  ·have:128^i≤128^8:=Nat.pow_le_pow_right (by omega) (by omega)
   have:cn % 128*128^i≤127*128^8:=Nat.mul_le_mul (by omega) this
   omega
 rw[h1,Gx,Bo (m:=((cn % 128:Nat):Int)) (by omega) (by unfold dZ;omega)]
 rw[show((cn % 128:Nat):Int)*((128^i:Nat):Int)=((cn % 128*128^i:Nat):Int) by rw[Int.natCast_mul]]
 rw[Bo (by omega) (by unfold dZ;omega),u64_or_nat acc _ (by omega) hx]
 congr 1
 rw[Nat.or_comm,nat_join (7*i) _ acc (by rw[Nat.pow_mul];simp) (by rw[Nat.pow_mul];simpa using abU)]
 omega
theorem IQ{i acc cn:Nat}(abU:acc<128^i):acc+cn % 128*128^i<128^(i+1):=by
 have:cn % 128*128^i≤127*128^i:=Nat.mul_le_mul_right _ (by omega)
 rw[Nat.pow_succ];omega
theorem tY{i acc:Nat}{c:UInt8}{r:List UInt8}(h9:¬ (i=9∧1<c.toNat))(h:128≤c.toNat):jG i acc (c::r)=jG (i+1) (acc+c.toNat % 128*128^i) r:=by
 rw[jG,if_neg h9,if_pos h]
theorem qC{i acc:Nat}{c:UInt8}{r:List UInt8}(hi:i=9)(h:1<c.toNat):jG i acc (c::r)=(0,0,2):=by
 rw[jG,if_pos ⟨hi,h⟩]
theorem tZ{i acc:Nat}{c:UInt8}{r:List UInt8}(h:c.toNat=0)(hi:0<i):jG i acc (c::r)=(0,0,2):=by
 rw[jG,if_neg (by omega),if_neg (by omega),if_pos ⟨h,hi⟩]
theorem oG{i acc:Nat}{c:UInt8}{r:List UInt8}(h9:¬ (i=9∧1<c.toNat))(h:c.toNat<128)(h0:¬ (c.toNat=0∧0<i)):jG i acc (c::r)=(acc+c.toNat % 128*128^i,i+1,0):=by
 rw[jG,if_neg h9,if_neg (by omega),if_neg h0,Nat.mod_eq_of_lt h]
theorem Fx(l:List UInt8):∀(i acc:Nat),i≤9→acc<128^i→
  ((jG i acc l).2.2=0→i<(jG i acc l).2.1∧(jG i acc l).2.1≤i+l.length∧(jG i acc l).2.1≤10∧(jG i acc l).1<18446744073709551616)∧
  ((jG i acc l).2.2≠0→(jG i acc l).1=0∧(jG i acc l).2.1=0∧((jG i acc l).2.2=2∨(jG i acc l).2.2=3)):=by
 induction l with
 |nil=>intro i acc hi h;simp[jG]
 |cons c r ih=>
  intro i acc hi abU
  by_cases h9:i=9∧1<c.toNat
  ·rw[qC h9.1 h9.2];simp
  ·by_cases h:128≤c.toNat
   ·rw[tY h9 h]
    have:=ih (i+1) (acc+c.toNat % 128*128^i) (by omega) (IQ abU)
    refine⟨fun hb=>?_,this.2⟩
    have:=this.1 hb
    simp only[length_cons]
    omega
   ·by_cases h0:c.toNat=0∧0<i
    ·rw[tZ h0.1 h0.2];simp
    ·rw[oG h9 (by omega) h0]
     refine⟨fun _=>?_,by simp⟩
     simp only[length_cons]
     refine⟨by omega,by omega,by omega,?_⟩
     by_cases hi9:i=9
     ·subst hi9
      have:c.toNat % 128≤1:=by omega
      have:=Nat.mul_le_mul_right (128^9) this
      omega
     ·have:=IQ (cn:=c.toNat) abU
      have h2:128^(i+1)≤128^9:=Nat.pow_le_pow_right (by omega) (by omega)
      omega
theorem sJ{l:List UInt8}(h:(uv l).2.2=0):0<(uv l).2.1∧(uv l).2.1≤l.length∧(uv l).2.1≤10∧dZ (uv l).1:=by
 have:=(Fx l 0 0 (by omega) (by omega)).1 h
 unfold uv dZ;omega
theorem Zy{l:List UInt8}(h:(uv l).2.2≠0):(uv l).1=0∧(uv l).2.1=0∧((uv l).2.2=2∨(uv l).2.2=3):=(Fx l 0 0 (by omega) (by omega)).2 h
def eB(most:Int)(l:List UInt8):Nat × Nat × Nat:=
 if(uv l).2.2=0 then(if most<0∨most<((uv l).1:Int) then(0,0,8)else uv l) else(0,0,(uv l).2.2)
theorem CZ{most:Int}{l:List UInt8}(h:(eB most l).2.2=0):(uv l).2.2=0∧eB most l=uv l∧0≤most∧((uv l).1:Int)≤most:=by
 unfold eB at *
 by_cases h1:(uv l).2.2=0
 ·rw[if_pos h1]at h ⊢
  by_cases h2:most<0∨most<((uv l).1:Int)
  ·rw[if_pos h2]at h;cases h
  ·rw[if_neg h2];exact⟨h1,rfl,by omega,by omega⟩
 ·rw[if_neg h1]at h;exact absurd h h1
theorem Mw{most:Int}{l:List UInt8}(h:(eB most l).2.2≠0):(eB most l).1=0∧(eB most l).2.1=0:=by
 unfold eB at *
 by_cases h1:(uv l).2.2=0
 ·rw[if_pos h1]at h ⊢
  by_cases h2:most<0∨most<((uv l).1:Int)
  ·rw[if_pos h2];simp
  ·rw[if_neg h2]at h;exact absurd h1 h
 ·rw[if_neg h1];simp
def tk(most:Int)(l:List UInt8):List UInt8 × Nat × Nat:=
 if(eB most l).2.2=0 then
  (if l.length-(eB most l).2.1<(eB most l).1 then([],0,3) else((l.drop (eB most l).2.1).take (eB most l).1,(eB most l).2.1+(eB most l).1,0))
 else([],0,(eB most l).2.2)
theorem IU{most:Int}{l:List UInt8}{n sz bad:Nat}(h:eB most l=(n,sz,bad))(h0:bad≠0):tk most l=([],0,bad):=by
 unfold tk;rw[h];simp[h0]
theorem Bp{most:Int}{l:List UInt8}{n sz:Nat}(h:eB most l=(n,sz,0))(h0:l.length-sz<n):tk most l=([],0,3):=by
 unfold tk;rw[h];simp[h0]
theorem GJ{most:Int}{l:List UInt8}{n sz:Nat}(h:eB most l=(n,sz,0))(h0:¬ l.length-sz<n):tk most l=((l.drop sz).take n,sz+n,0):=by
 unfold tk;rw[h];simp[h0]
theorem TW(l:List UInt8):∀(i acc n k:Nat),jG i acc l=(n,k,0)→∃m,n=acc+m*128^i∧i<k∧l.take (k-i)=dL m∧(0<i→0<m):=by
 induction l with
 |nil=>intro i acc n k h;simp[jG]at h
 |cons c r ih=>
  intro i acc n k h
  have hc:=c.toNat_lt
  by_cases h9:i=9∧1<c.toNat
  ·rw[qC h9.1 h9.2]at h;simp at h
  ·by_cases h1:128≤c.toNat
   ·rw[tY h9 h1]at h
    obtain⟨m,hn,hk,ht,hm⟩:=ih _ _ _ _ h
    have hm:=hm (by omega)
    refine⟨c.toNat % 128+128*m,?_,by omega,?_,by omega⟩
    ·rw[hn,Nat.pow_succ,Nat.add_mul]
     have:128*m*128^i=m*(128^i*128):=by rw[Nat.mul_comm 128 m,Nat.mul_assoc,Nat.mul_comm 128]
     omega
    ·rw[wC (by omega),show k-i=(k-(i+1))+1 by omega,take_succ_cons,ht]
     congr 1
     ·rw[show(c.toNat % 128+128*m) % 128+128=c.toNat by omega]
      exact(UInt8.ofNat_toNat).symm
     ·congr 1;omega
   ·by_cases h0:c.toNat=0∧0<i
    ·rw[tZ h0.1 h0.2]at h;simp at h
    ·rw[oG h9 (by omega) h0]at h
     simp only[Prod.mk.injEq]at h
     obtain⟨rfl,rfl,-⟩:=h
     refine⟨c.toNat,by rw[Nat.mod_eq_of_lt (by omega)],by omega,?_,by omega⟩
     rw[tX (by omega),show i+1-i=1 by omega]
     simp
theorem X9{l:List UInt8}{n k:Nat}(h:uv l=(n,k,0)):l.take k=dL n:=by
 obtain⟨m,hn,_,ht,_⟩:=TW l 0 0 n k h
 simp at hn ht
 rw[hn,ht]
theorem TY:∀(m i acc:Nat)(r:List UInt8),i≤9→acc+m*128^i<18446744073709551616→(0<i→0<m)→jG i acc (dL m++r)=(acc+m*128^i,i+(dL m).length,0):=by
 intro m
 induction m using Nat.strongRecOn with
 |_ m ih=>
  intro i acc r hi hb h0
  have hp:128^i≤128^9:=Nat.pow_le_pow_right (by omega) hi
  by_cases h:m<128
  ·rw[tX h]
   have ht:(UInt8.ofNat m).toNat=m:=by simp;omega
   simp only[singleton_append,length_singleton]
   rw[oG (by
    rw[ht];rintro⟨rfl,h1⟩
    have:2*128^9≤m*128^9:=Nat.mul_le_mul_right _ (by omega)
    omega) (by omega) (by omega),ht,Nat.mod_eq_of_lt h]
  ·rw[wC (by omega)]
   have ht:(UInt8.ofNat (m % 128+128)).toNat=m % 128+128:=by simp;omega
   have hm:m*128^i=m % 128*128^i+m / 128*128^(i+1):=by
    rw[Nat.pow_succ,←Nat.mul_assoc,Nat.mul_right_comm,←Nat.add_mul]
    congr 1;omega
   have hi9:¬ i=9:=by
    rintro rfl
    have:128*128^9≤m*128^9:=Nat.mul_le_mul_right _ (by omega)
    omega
   rw[cons_append,tY (by omega) (by omega),ht,show(m % 128+128) % 128=m % 128 by omega,ih (m / 128) (by omega) (i+1) _ r (by omega) (by omega) (by omega)]
   simp only[length_cons,Prod.mk.injEq,and_true]
   omega
theorem Ya{n:Nat}(h:dZ n)(r:List UInt8):uv (dL n++r)=(n,(dL n).length,0):=by
 have:=TY n 0 0 r (by omega) (by unfold dZ at h;omega) (by omega)
 simpa[uv]using this
theorem Gy{b:List UInt8}{a k:Nat}(_h:k≤(b.drop a).length):b.drop a=(b.drop a).take k++b.drop (a+k):=by
 rw[←drop_drop,take_append_drop]
theorem Bq{most:Int}{l:List UInt8}{n k:Nat}(h:eB most l=(n,k,0)):l.take k=dL n∧(n:Int)≤most∧k≤l.length:=by
 obtain⟨h1,h2,_,h4⟩:=CZ (most:=most) (l:=l) (by rw[h])
 rw[←h2,h]at h4
 have hu:uv l=(n,k,0):=by rw[←h2];exact h
 have:=(sJ h1).2.1
 rw[hu]at this
 exact⟨X9 hu,h4,this⟩
theorem IV{most:Int}{n:Nat}(r:List UInt8)(h:(n:Int)≤most)(hm:most≤9223372036854775807):eB most (dL n++r)=(n,(dL n).length,0):=by
 have hu:=Ya (n:=n) (by unfold dZ;omega) r
 unfold eB
 rw[hu,if_pos rfl,if_neg (by simp only;omega)]
def nums(b:List UInt8):List Int→Nat→Option (List Nat × Nat)
 |[],a=>some ([],a)
 |m::ms,a=>if(eB m (b.drop a)).2.2=0 then(nums b ms (a+(eB m (b.drop a)).2.1)).map fun p=>((eB m (b.drop a)).1::p.1,p.2)else none
def Fits:List Nat→List Int→Prop
 |[],[]=>True
 |n::l,m::ms=>(n:Int)≤m∧Fits l ms
 |_,_=>False
def mU(b:List UInt8)(ms:List Int)(l:List Nat)(a:Nat):Prop:=
 nums b ms 0=(nums b (ms.drop l.length) a).map (fun p=>(l++p.1,p.2))∧a≤b.length
theorem mU.zero(b:List UInt8)(ms:List Int):mU b ms [] 0:=⟨by simp[Option.map_id'],by omega⟩
theorem mU.more{b:List UInt8}{ms:List Int}{l:List Nat}{a:Nat}(h:mU b ms l a){m:Int}(hm:ms[l.length]? =some m){n k:Nat}(hu:eB m (b.drop a)=(n,k,0)):mU b ms (l++[n]) (a+k):=by
 obtain⟨hlt,e⟩:=List.getElem?_eq_some_iff.1 hm
 obtain⟨_,_,hk⟩:=Bq hu
 refine⟨?_,by rw[length_drop]at hk;have:=h.2;omega⟩
 rw[h.1,drop_eq_getElem_cons hlt,e]
 simp only[nums,hu,if_true,length_append,length_cons,length_nil,Option.map_map]
 congr 1
 funext p
 simp
theorem mU.bad{b:List UInt8}{ms:List Int}{l:List Nat}{a:Nat}(h:mU b ms l a){m:Int}(hm:ms[l.length]? =some m){n k bad:Nat}(hu:eB m (b.drop a)=(n,k,bad))(h0:bad≠0):nums b ms 0=none:=by
 obtain⟨hlt,e⟩:=List.getElem?_eq_some_iff.1 hm
 rw[h.1,drop_eq_getElem_cons hlt,e]
 simp only[nums,hu,if_neg h0,Option.map_none]
theorem mU.all{b:List UInt8}{ms:List Int}{l:List Nat}{a:Nat}(h:mU b ms l a)(hl:l.length=ms.length):nums b ms 0=some (l,a):=by
 rw[h.1,drop_of_length_le (by omega)];simp[nums]
theorem Mx(b:List UInt8):∀(ms:List Int)(a:Nat)(l:List Nat)(e:Nat),a≤b.length→nums b ms a=some (l,e)→b.drop a=l.flatMap dL++b.drop e∧Fits l ms∧l.length=ms.length∧e≤b.length
 |[],a,l,e,ha,h=>by simp[nums]at h;obtain⟨rfl,rfl⟩:=h;simp[Fits,ha]
 |m::ms,a,l,e,ha,h=>by
  simp only[nums]at h
  split at h
  ·rename_i h0
   obtain⟨n,k,bad,hu⟩:∃n k bad,eB m (b.drop a)=(n,k,bad):=⟨_,_,_,rfl⟩
   rw[hu]at h h0
   simp only at h0 h
   subst h0
   obtain⟨h1,h2,h3⟩:=Bq hu
   rw[Option.map_eq_some_iff]at h
   obtain⟨⟨l',e'⟩,hn,he⟩:=h
   simp only[Prod.mk.injEq]at he
   obtain⟨rfl,rfl⟩:=he
   obtain⟨i1,i2,i3,i4⟩:=Mx b ms (a+k) l' e' (by rw[length_drop]at h3;omega) hn
   refine⟨?_,⟨h2,i2⟩,by simp[i3],i4⟩
   rw[Gy h3,h1,i1];simp
  ·cases h
theorem Fy(b:List UInt8):∀(ms:List Int)(l:List Nat)(a:Nat)(r:List UInt8),(∀m∈ms,m≤9223372036854775807)→Fits l ms→b.drop a=l.flatMap dL++r→nums b ms a=some (l,a+(l.flatMap dL).length)
 |[],[],a,r,_,_,_=>by simp[nums]
 |[],_::_,_,_,_,h,_=>h.elim
 |_::_,[],_,_,_,h,_=>h.elim
 |m::ms,n::l,a,r,hm,h,hb=>by
  rw[flatMap_cons,append_assoc]at hb
  have hu:=IV (l.flatMap dL++r) h.1 (hm m (by simp))
  have hd:b.drop (a+(dL n).length)=l.flatMap dL++r:=by rw[←drop_drop,hb,drop_left]
  have ih:=Fy b ms l (a+(dL n).length) r (fun x hx=>hm x (by simp[hx])) h.2 hd
  simp only[nums,hb,hu,if_true,ih,Option.map_some,flatMap_cons,length_append,Nat.add_assoc]
def body(b:List UInt8)(ms:List Int):Option (List Nat × List UInt8):=
 match nums b ms 0 with
 |none=>none
 |some p=>if(tk 2048 (b.drop p.2)).2.2=0∧p.2+(tk 2048 (b.drop p.2)).2.1=b.length then some (p.1,(tk 2048 (b.drop p.2)).1)else none
def jr(l:List Nat)(v:List UInt8):List UInt8:=l.flatMap dL++(dL v.length++v)
theorem MB{l:List UInt8}{v:List UInt8}{k:Nat}(h:tk 2048 l=(v,k,0)):l.take k=dL v.length++v∧v.length≤2048∧k≤l.length:=by
 obtain⟨n,sz,bad,hu⟩:∃n sz bad,eB 2048 l=(n,sz,bad):=⟨_,_,_,rfl⟩
 by_cases h0:bad=0
 ·subst h0
  obtain⟨h1,h2,h3⟩:=Bq hu
  by_cases hs:l.length-sz<n
  ·rw[Bp hu hs]at h;simp at h
  ·rw[GJ hu hs]at h
   simp only[Prod.mk.injEq,and_true]at h
   obtain⟨rfl,rfl⟩:=h
   have hl:((l.drop sz).take n).length=n:=by rw[length_take,length_drop];omega
   refine⟨?_,by omega,by omega⟩
   rw[hl,←h1]
   conv=>lhs;rw[←take_append_drop sz l]
   rw[take_append,length_take,take_of_length_le (by rw[length_take];omega)]
   congr 2;omega
 ·rw[IU hu h0]at h;simp at h;exact absurd h.2.2 h0
theorem Yb{v r:List UInt8}(h:v.length≤2048):tk 2048 (dL v.length++v++r)=(v,(dL v.length).length+v.length,0):=by
 have hu:=IV (most:=2048) (n:=v.length) (v++r) (by omega) (by omega)
 rw[←append_assoc]at hu
 rw[GJ hu (by simp)]
 simp
theorem Yc{b:List UInt8}{ms:List Int}{l:List Nat}{v:List UInt8}(h:body b ms=some (l,v)):Fits l ms∧v.length≤2048∧b=jr l v:=by
 unfold body at h
 split at h
 ·cases h
 ·rename_i p hp
  split at h
  ·rename_i hc
   obtain⟨h0,he⟩:=hc
   simp only[Option.some.injEq,Prod.mk.injEq]at h
   obtain⟨rfl,rfl⟩:=h
   obtain⟨h1,h2,h3,h4⟩:=Mx b ms 0 p.1 p.2 (by omega) (by rw[hp])
   obtain⟨v,k,bad,hu⟩:∃v k bad,tk 2048 (b.drop p.2)=(v,k,bad):=⟨_,_,_,rfl⟩
   rw[hu]at h0 he ⊢
   simp only at h0 he ⊢
   subst h0
   obtain⟨q1,q2,q3⟩:=MB hu
   refine⟨h2,q2,?_⟩
   rw[take_of_length_le (by rw[length_drop];omega)]at q1
   rw[drop_zero]at h1
   unfold jr
   rw[←q1];exact h1
  ·cases h
theorem yU{ms:List Int}{l:List Nat}{v:List UInt8}(hm:∀m∈ms,m≤9223372036854775807)(hf:Fits l ms)(hv:v.length≤2048):body (jr l v) ms=some (l,v):=by
 have hn:=Fy (jr l v) ms l 0 (dL v.length++v) hm hf (by rw[drop_zero];rfl)
 rw[Nat.zero_add]at hn
 have hd:(jr l v).drop (l.flatMap dL).length=dL v.length++v++[]:=by unfold jr;rw[drop_left,append_nil]
 have hl:(jr l v).length=(l.flatMap dL).length+((dL v.length).length+v.length):=by simp[jr]
 unfold body
 rw[hn]
 simp only[hd,Yb hv,hl,and_self,if_true]
theorem Fz{b:List UInt8}{ms:List Int}(hm:∀m∈ms,m≤9223372036854775807)(h:body b ms=none){l:List Nat}{v:List UInt8}(hf:Fits l ms)(hv:v.length≤2048):b≠jr l v:=by
 rintro rfl
 rw[yU hm hf hv]at h;cases h
theorem FB{ms:List Int}(hm:∀m∈ms,m≤9223372036854775807){l l':List Nat}{v v':List UInt8}(hf:Fits l ms)(hf':Fits l' ms)(hv:v.length≤2048)(hv':v'.length≤2048)(h:jr l v=jr l' v'):l=l'∧v=v':=by
 have h1:=yU hm hf hv
 rw[h,yU hm hf' hv']at h1
 simp only[Option.some.injEq,Prod.mk.injEq]at h1
 exact⟨h1.1.symm,h1.2.symm⟩
theorem sZ{l:List Nat}(h:∀n∈l,dZ n):(l.flatMap dL).length≤10*l.length:=by
 induction l with
 |nil=>simp
 |cons n l ih=>
  have h0:=jE (h n (by simp))
  have h1:=ih fun m hm=>h m (by simp[hm])
  simp only[flatMap_cons,length_append,length_cons]
  omega
theorem FC{l:List Nat}{v:List UInt8}(h:∀n∈l,dZ n)(hv:v.length≤2048):(jr l v).length≤10*l.length+10+v.length:=by
 have h1:=sZ h
 have h2:=jE (n:=v.length) (dZ.small (by omega))
 unfold jr
 simp only[length_append]
 omega
structure Ms where
 kind:Int
 bO:Int
 to:Int
 slot:Int
 dz:Int
 ed:Int
 fO:Int
 ig:Int
 some_:Bool
 val:List UInt8
structure Ms.May(m:Ms):Prop where
 kind:1≤m.kind∧m.kind≤8
 bO:0≤m.bO∧m.bO≤6
 to:0≤m.to∧m.to≤6
 slot:0≤m.slot∧m.slot≤4095
 dz:0≤m.dz∧m.dz≤1099511627776
 ed:0≤m.ed∧m.ed≤6
 fO:0≤m.fO∧m.fO≤1099511627776
 ig:0≤m.ig∧m.ig≤6
 val:m.val.length≤2048
 some_:m.some_=true∨(m.fO=0∧m.ig=0)∧m.val.length=0
def Ms.is(m:Ms):Nat:=if m.some_ then 1 else 0
theorem Ms.is_le(m:Ms):m.is≤1:=by unfold Ms.is;split<;>omega
def Ms.ns(m:Ms):List Nat:=[m.kind.toNat,m.bO.toNat,m.to.toNat,m.slot.toNat,m.dz.toNat,m.ed.toNat,m.fO.toNat,m.ig.toNat,m.is]
def Ms.inside(m:Ms):List UInt8:=jr m.ns m.val
def Ms.bytes(m:Ms):List UInt8:=put m.inside
theorem Ms.May.U{m:Ms}(h:m.May):∀n∈m.ns,dZ n:=by
 have h1:=h.kind;have h2:=h.bO;have h3:=h.to;have h4:=h.slot;have h5:=h.dz;have h6:=h.ed;have h7:=h.fO;have h8:=h.ig;have h9:=m.is_le
 intro n hn
 simp only[Ms.ns,mem_cons,not_mem_nil,or_false]at hn
 unfold dZ
 rcases hn with rfl|rfl|rfl|rfl|rfl|rfl|rfl|rfl|rfl<;>omega
theorem Ms.May.Zx{m:Ms}(h:m.May):m.inside.length≤2200:=by
 have:=FC h.U h.val
 have:=h.val
 have:m.ns.length=9:=rfl
 unfold Ms.inside
 omega
theorem Ms.May.len{m:Ms}(h:m.May):m.bytes.length≤2208:=by
 have:=h.Zx
 unfold Ms.bytes
 rw[fZ];omega
open Classical in
def Whole(b:List UInt8):Prop:=fst b=(b.length-8,0)∧8≤b.length
theorem Whole.put{b:List UInt8}(h:Whole b):b=put (b.drop 8):=by
 have:=(wm h.1).2.2
 rw[take_of_length_le (l:=b.drop 8) (by simp),drop_of_length_le (l:=b) (i:=8+(b.length-8)) (by have:=h.2;omega),append_nil]at this
 exact this
structure Rc where
 kind:Int
 slot:Int
 round:Int
 site:Int
 val:List UInt8
structure Rc.May(r:Rc):Prop where
 kind:r.kind=1∧r.val.length=0∨r.kind=2
 slot:0≤r.slot∧r.slot≤4095
 round:0≤r.round∧r.round≤1099511627776
 site:0≤r.site∧r.site≤6
 val:r.val.length≤2048
def Rc.ns(r:Rc):List Nat:=[r.kind.toNat,r.slot.toNat,r.round.toNat,r.site.toNat]
def Rc.bytes(r:Rc):List UInt8:=jr r.ns r.val
def msA:List Int:=[2,4095,1099511627776,6]
def yV:List Int:=[1099511627776,1099511627776,1099511627776,1099511627776]
theorem Qy:∀m∈msA,m≤9223372036854775807:=by unfold msA;simp
theorem IW:∀m∈yV,m≤9223372036854775807:=by unfold yV;simp
theorem Rc.May.WR{r:Rc}(h:r.May):Fits r.ns msA:=by
 have h1:=h.kind;have h2:=h.slot;have h3:=h.round;have h4:=h.site
 unfold Rc.ns msA
 refine⟨by omega,by omega,by omega,by omega,trivial⟩
theorem Rc.May.GK{r:Rc}(h:r.May):Fits r.ns yV:=by
 have h1:=h.kind;have h2:=h.slot;have h3:=h.round;have h4:=h.site
 unfold Rc.ns yV
 refine⟨by omega,by omega,by omega,by omega,trivial⟩
theorem Rc.May.U{r:Rc}(h:r.May):∀n∈r.ns,dZ n:=by
 have h1:=h.kind;have h2:=h.slot;have h3:=h.round;have h4:=h.site
 intro n hn
 simp only[Rc.ns,mem_cons,not_mem_nil,or_false]at hn
 unfold dZ
 rcases hn with rfl|rfl|rfl|rfl<;>omega
theorem Rc.May.len{r:Rc}(h:r.May):r.bytes.length≤2100:=by
 have:=FC h.U h.val
 have:=h.val
 have:r.ns.length=4:=rfl
 unfold Rc.bytes
 omega
def vO(b:List UInt8)(r:Rc):Prop:=r.May∧r.bytes=b
theorem vO.inj{b:List UInt8}{r r':Rc}(h:vO b r)(h':vO b r'):r=r':=by
 obtain⟨e1,e2⟩:=FB IW h.1.GK h'.1.GK h.1.val h'.1.val (h.2.trans h'.2.symm)
 have h1:=h.1.kind;have h2:=h.1.slot;have h3:=h.1.round;have h4:=h.1.site
 have k1:=h'.1.kind;have k2:=h'.1.slot;have k3:=h'.1.round;have k4:=h'.1.site
 obtain⟨a,b,c,d,v⟩:=r
 obtain⟨a',b',c',d',v'⟩:=r'
 simp only[Rc.ns,List.cons.injEq,and_true]at e1 e2 h1 h2 h3 h4 k1 k2 k3 k4
 subst e2
 obtain rfl:a=a':=by omega
 obtain rfl:b=b':=by omega
 obtain rfl:c=c':=by omega
 obtain rfl:d=d':=by omega
 rfl
def Rc.of(k s t u:Nat)(v:List UInt8):Rc:=⟨k,s,t,u,v⟩
theorem Hl{b:List UInt8}{ms:List Int}(hms:ms=msA∨ms=yV){k s t u:Nat}{v:List UInt8}(h:body b ms=some ([k,s,t,u],v)) :
  (Rc.of k s t u v).bytes=b∧∀r,vO b r→r=Rc.of k s t u v:=by
 obtain⟨h1,h2,h3⟩:=Yc h
 have hb:(Rc.of k s t u v).bytes=b:=by rw[h3];rfl
 refine⟨hb,fun r hr=>?_⟩
 have hf:Fits r.ns ms:=by
  rcases hms with rfl|rfl
  ·exact hr.1.WR
  ·exact hr.1.GK
 have hle:∀m∈ms,m≤9223372036854775807:=by
  rcases hms with rfl|rfl
  ·exact Qy
  ·exact IW
 obtain⟨e1,e2⟩:=FB hle hf h1 hr.1.val h2 (hr.2.trans h3)
 have k1:=hr.1.kind;have k2:=hr.1.slot;have k3:=hr.1.round;have k4:=hr.1.site
 obtain⟨a',b',c',d',v'⟩:=r
 simp only[Rc.ns,List.cons.injEq,and_true]at e1 e2 k1 k2 k3 k4
 subst e2
 unfold Rc.of
 congr 1<;>omega
theorem wV{b:List UInt8}{ms:List Int}(hms:ms=msA∨ms=yV)(h:body b ms=none):∀r,¬ vO b r:=by
 intro r hr
 rcases hms with rfl|rfl
 ·exact Fz Qy h hr.1.WR hr.1.val hr.2.symm
 ·exact Fz IW h hr.1.GK hr.1.val hr.2.symm
open Classical in
noncomputable def lW (b:List UInt8):Option Rc:=if h:∃r,vO b r then some h.choose else none
theorem yB{b:List UInt8}{r:Rc}(h:vO b r):lW b=some r:=by
 have hx:∃r,vO b r:=⟨r,h⟩
 unfold lW
 rw[dif_pos hx,hx.choose_spec.inj h]
theorem oO{b:List UInt8}(h:∀r,¬ vO b r):lW b=none:=by
 unfold lW
 rw[dif_neg (fun⟨r,hr⟩=>h r hr)]
theorem Em{b:List UInt8}{r:Rc}(h:lW b=some r):vO b r:=by
 unfold lW at h
 split at h
 ·rename_i hx
  rw[←Option.some.inj h];exact hx.choose_spec
 ·cases h
def bn(l:List Rc):List UInt8:=(l.map Rc.bytes).flatMap put
theorem jJ(a b:List Rc):bn (a++b)=bn a++bn b:=by simp[bn]
theorem kE(r:Rc)(l:List Rc):bn (r::l)=put r.bytes++bn l:=rfl
theorem Qz{l:List Rc}{i:Nat}(h:i<l.length):bn (l.take (i+1))=bn (l.take i)++put l[i].bytes:=by
 rw[take_succ_eq_append_getElem h,jJ];simp[bn]
theorem IX{l:List Rc}(h:∀r∈l,r.May):(bn l).length≤2108*l.length:=by
 induction l with
 |nil=>simp[bn]
 |cons r l ih=>
  have h0:=(h r (by simp)).len
  have h1:=ih fun m hm=>h m (by simp[hm])
  rw[kE,length_append,fZ,length_cons]
  omega
noncomputable def cO:List (List UInt8)→List Rc × Nat
 |[]=>([],0)
 |x::xs=>match lW x with
  |none=>([],0)
  |some r=>(r::(cO xs).1,8+x.length+(cO xs).2)
noncomputable def bU (b:List UInt8):List Rc × Nat:=cO (scan b).1
theorem QA{l:List Rc}(h:∀r∈l,r.May)(xs:List (List UInt8)):cO (l.map Rc.bytes++xs)=(l++(cO xs).1,(bn l).length+(cO xs).2):=by
 induction l with
 |nil=>simp[bn]
 |cons r l ih=>
  rw[map_cons,cons_append]
  simp only[cO,yB ⟨h r (by simp),rfl⟩,ih fun m hm=>h m (by simp[hm]),kE,cons_append,length_append,fZ,Prod.mk.injEq,true_and]
  omega
theorem TZ(xs:List (List UInt8)):∃m,m≤xs.length∧(cO xs).1.map Rc.bytes=xs.take m∧(cO xs).2=((xs.take m).flatMap put).length∧∀r∈(cO xs).1,r.May:=by
 induction xs with
 |nil=>exact⟨0,by simp,by simp[cO],by simp[cO],by simp[cO]⟩
 |cons x xs ih=>
  obtain⟨m,h1,h2,h3,h4⟩:=ih
  cases hd:lW x with
  |none=>exact⟨0,by simp,by simp[cO,hd],by simp[cO,hd],by simp[cO,hd]⟩
  |some r=>
   have hr:=Em hd
   refine⟨m+1,by simp;omega,by simp[cO,hd,h2,hr.2],by simp[cO,hd,h3],?_⟩
   simp only[cO,hd]
   intro y hy
   rcases mem_cons.1 hy with rfl|hy
   ·exact hr.1
   ·exact h4 y hy
theorem oH(b:List UInt8):(bU b).2≤b.length∧bn (bU b).1=b.take (bU b).2∧∀r∈(bU b).1,r.May:=by
 obtain⟨h1,h2,h3⟩:=wD b
 obtain⟨m,k1,k2,k3,k4⟩:=TZ (scan b).1
 have hs:(scan b).1.flatMap put=((scan b).1.take m).flatMap put++((scan b).1.drop m).flatMap put:=by
  rw[←flatMap_append,take_append_drop]
 have hl:=congrArg length h2
 rw[hs,length_take,length_append]at hl
 unfold bU
 refine⟨by rw[k3];omega,?_,k4⟩
 unfold bn
 rw[k2,k3]
 have e:b=(((scan b).1.take m).flatMap put++((scan b).1.drop m).flatMap put)++b.drop (scan b).2:=by
  rw[←hs,←h2,take_append_drop]
 generalize ((scan b).1.take m).flatMap put=p at *
 generalize ((scan b).1.drop m).flatMap put=q at *
 generalize b.drop (scan b).2=z at *
 rw[e,append_assoc,take_left'];rfl
theorem Om{l:List Rc}(h:∀r∈l,r.May)(k:Nat)(hk:k≤(bn l).length) :
  ∃m,m≤l.length∧(bU ((bn l).take k)).1=l.take m∧(bU ((bn l).take k)).2=(bn (l.take m)).length∧(bn (l.take m)).length≤k∧(∀(hm:m<l.length),k<(bn (l.take m)).length+(put l[m].bytes).length):=by
 have hl:∀b∈l.map Rc.bytes,b.length≤4096:=by
  intro b hb
  obtain⟨x,hx,rfl⟩:=mem_map.1 hb
  have:=(h x hx).len;omega
 obtain⟨m,h1,h2,h3,h4,h5⟩:=Qx hl k hk
 have hx:=QA (l:=l.take m) (fun r hr=>h r (mem_of_mem_take hr)) []
 rw[append_nil,map_take]at hx
 unfold bU bn
 rw[h2,hx]
 rw[←map_take]at h4 h5
 refine⟨m,by simpa using h1,by simp[cO],by simp[cO,bn],h4,fun hm=>?_⟩
 have:=h5 (by simpa using hm)
 simpa using this
structure Bl where
 r:Int
 s:Int
deriving DecidableEq
def vJ(a b:Int):Int:=if a<b then -1 else if b<a then 1 else 0
def Ps(a b:Int):Int:=if a=0 then b else a
def bg(a b:Bl):Int:=Ps (vJ a.r b.r) (vJ a.s b.s)
def Bl.lt(a b:Bl):Prop:=a.r<b.r∨a.r=b.r∧a.s<b.s
theorem wy(a b:Bl):bg a b<0 ↔ a.lt b:=by
 unfold bg Ps vJ Bl.lt
 split<;>split<;>(try split)<;>(try split)<;>omega
def bz(s n:Int):Bool:=decide (0≤s)&&decide (s<n)
def sU(n:Int):Int:=if n<1 then 0 else n / 2+1
def Bl.next(b:Bl)(s:Int):Bl:=if b.r<0 then⟨1,s⟩else if b.r<1099511627776 then⟨b.r+1,s⟩ else⟨1099511627776,s⟩
def Bl.may(b:Bl)(n:Int):Bool:=decide (0≤b.r)&&decide (b.r≤1099511627776)&&bz b.s n
def aV(slot n:Int):Int:=if slot<0∨4096≤slot∨n<1∨64<n then -1 else slot.tmod n
def oI(site n:Int):Nat→Nat→Int
 |0,_=>-1
 |k+1,s=>if(s:Int).tmod n=site then(s:Int)else oI site n k (s+1)
def aZ(site:Int)(f:Nat)(n:Int):Int:=if n<1∨64<n∨site<0∨n≤site then -1 else oI site n (4096-f) f
