/- For WorldCalm. -/
import Derived.WalkKit
import Derived.Laws.BitsAllLaws
import Derived.Laws.BitsLemmas
set_option linter.all false
namespace aL
open Go List
def eG(n:Nat):List UInt8:=if n<128 then[UInt8.ofNat n]else UInt8.ofNat (n % 128+128)::eG (n / 128)
termination_by n
decreasing_by omega
theorem qu{n:Nat}(h:n<128):eG n= [UInt8.ofNat n]:=by rw[eG,if_pos h]
theorem vZ{n:Nat}(h:128≤n):eG n=UInt8.ofNat (n % 128+128)::eG (n / 128):=by rw[eG,if_neg (by omega)]
theorem G5(k:Nat):∀n,n<128^(k+1)→(eG n).length≤k+1:=by
 induction k with
 |zero=>intro n h;rw[qu (by simpa using h)];simp
 |succ k ih=>
  intro n h
  by_cases h1:n<128
  ·rw[qu h1];simp
  ·rw[vZ (by omega)]
   have:n / 128<128^(k+1):=by
    rw[Nat.pow_succ]at h
    exact Nat.div_lt_of_lt_mul (by omega)
   have:=ih _ this
   simp;omega
theorem TZ(n:Nat):0<(eG n).length:=by
 by_cases h:n<128
 ·rw[qu h];simp
 ·rw[vZ (by omega)];simp
def gG(n:Nat):Prop:=n<18446744073709551616
theorem sk{n:Nat}(h:gG n):(eG n).length≤10:=G5 9 n (by unfold gG at h;omega)
theorem gG.le{n m:Nat}(h:gG n)(hm:m≤n):gG m:=Nat.lt_of_le_of_lt hm h
theorem gG.small{n:Nat}(h:n<9223372036854775808):gG n:=by unfold gG;omega
theorem Fx{m:Int}(h0:0≤m)(h:gG m.toNat):IntKind.u64.wrap m=m:=by
 rw[IntKind.wrap_u64];unfold gG at h;omega
theorem QG{m:Int}(h0:0≤m)(h:gG m.toNat):bits .and .u64 m 127=m % 128:=by
 unfold gG at h
 rw[u64_and m 127 h0 (by omega) (by omega) (by omega)]
 rw[show(127:Int).toNat=127 from rfl,nat_mask7];omega
theorem Z5{x:Int}(h0:0≤x)(h:x<128):bits .or .u8 x 128=x+128:=by
 rw[u8_or x 128 h0 (by omega) (by omega) (by omega),show(128:Int).toNat=128 from rfl,Nat.or_comm,nat_join 7 128 x.toNat (by decide) (by omega)]
 omega
theorem QH{m:Int}(h0:0≤m)(h:gG m.toNat):bits .or .u8 (bits .and .u64 m 127 % 256) 128=((m.toNat % 128+128:Nat):Int):=by
 rw[QG h0 h,show m % 128 % 256=m % 128 by omega,Z5 (by omega) (by omega)];omega
def wY(n:Int):Prop:=-9223372036854775808≤n∧n≤9223372036854775807
def dz(n:Nat):Prop:=n<4294967296
def vF(w:Nat):Nat:=if w % 2=1 then(w / 2) ^^^ 3988292384 else w / 2
def vE:Nat→Nat→Nat
 |0,w=>w
 |n+1,w=>vF (vE n w)
def AM(w:Nat)(c:UInt8):Nat:=vE 8 (w ^^^ c.toNat)
def vG(w:Nat)(l:List UInt8):Nat:=l.foldl AM w
def more(s:Nat)(l:List UInt8):Nat:=vG (s ^^^ 4294967295) l ^^^ 4294967295
theorem dz.xor{a b:Nat}(ha:dz a)(hb:dz b):dz (a ^^^ b):=Nat.xor_lt_two_pow (n:=32) ha hb
theorem dz.byte(c:UInt8):dz c.toNat:=by have:=c.toNat_lt;unfold dz;omega
theorem dz.half{a:Nat}(h:dz a):dz (a / 2):=by unfold dz at *;omega
theorem dz.all:dz 4294967295:=by unfold dz;omega
theorem dz.Ay:dz 3988292384:=by unfold dz;omega
theorem dz.zero:dz 0:=by unfold dz;omega
theorem QI{w:Nat}(h:dz w):dz (vF w):=by
 unfold vF;split
 ·exact h.half.xor dz.Ay
 ·exact h.half
theorem yq{w:Nat}(h:dz w):∀n,dz (vE n w)
 |0=>h
 |n+1=>QI (yq h n)
theorem QJ{w:Nat}(h:dz w)(c:UInt8):dz (AM w c):=yq (h.xor (dz.byte c)) 8
theorem EG{w:Nat}(h:dz w)(l:List UInt8):dz (vG w l):=by
 unfold vG
 induction l generalizing w with
 |nil=>exact h
 |cons c l ih=>exact ih (QJ h c)
theorem tW{s:Nat}(h:dz s)(l:List UInt8):dz (more s l):=(EG (h.xor dz.all) l).xor dz.all
theorem MV{w:Nat}{l:List UInt8}{k:Nat}(h:k<l.length):vG w (l.take (k+1))=AM (vG w (l.take k)) l[k]:=by
 unfold vG
 rw[take_succ_eq_append_getElem h,foldl_append];rfl
theorem PT{x:Nat}(h:dz x)(ho:x % 2=1):(bits .and .u32 (x:Int) 1==1)=true:=by
 rw[show(1:Int)=((1:Nat):Int)from rfl,u32_and_nat x 1 h (by omega),nat_mask1,ho];rfl
theorem MT{x:Nat}(h:dz x)(ho:¬ x % 2=1):(bits .and .u32 (x:Int) 1==1)=false:=by
 rw[show(1:Int)=((1:Nat):Int)from rfl,u32_and_nat x 1 h (by omega),nat_mask1,show x % 2=0 by omega];rfl
theorem PV{x:Nat}(h:dz x)(ho:x % 2=1):bits .xor .u32 ((x:Int) / 2) 3988292384=((vF x:Nat):Int):=by
 unfold vF
 rw[if_pos ho,show((x:Int) / 2)=((x / 2:Nat):Int) by omega,show(3988292384:Int)=((3988292384:Nat):Int)from rfl,u32_xor_nat _ _ h.half dz.Ay]
theorem MU{x:Nat}(ho:¬ x % 2=1):(x:Int) / 2=((vF x:Nat):Int):=by
 unfold vF;rw[if_neg ho];omega
theorem MS{m:Nat}(h:dz m)(c:UInt8):bits .xor .u32 (m:Int) ((c.toNat:Int) % 4294967296)=((m ^^^ c.toNat:Nat):Int):=by
 have:=dz.byte c
 rw[show(c.toNat:Int) % 4294967296=((c.toNat:Nat):Int) by unfold dz at this;omega,u32_xor_nat _ _ h this]
theorem zy{m:Nat}(h:dz m):bits .xor .u32 (if IntKind.u32.signed=true then -1 else IntKind.u32.max) (m:Int)=((m ^^^ 4294967295:Nat):Int):=by
 rw[show(if IntKind.u32.signed=true then -1 else IntKind.u32.max)=((4294967295:Nat):Int)from rfl,u32_xor_nat _ _ dz.all h,Nat.xor_comm]
def four(n:Nat):List UInt8:=[UInt8.ofNat n,UInt8.ofNat (n / 256),UInt8.ofNat (n / 65536),UInt8.ofNat (n / 16777216)]
def ew(l:List UInt8):Nat:=(l.getD 0 0).toNat+256*(l.getD 1 0).toNat+65536*(l.getD 2 0).toNat+16777216*(l.getD 3 0).toNat
def nO(z b:List UInt8):Nat:=more (more 0 z) b
def put(b:List UInt8):List UInt8:=four b.length++four (nO (four b.length) b)++b
def fst(b:List UInt8):Nat × Nat:=
 if b.length<8 then(0,3)else if 4096<ew b then(0,5)else if b.length-8<ew b then(0,3)
 else if ew (b.drop 4)≠nO (b.take 4) ((b.drop 8).take (ew b)) then(0,4) else(ew b,0)
@[simp] theorem adO (n:Nat):(four n).length=4:=rfl
theorem EI(l:List UInt8):dz (ew l):=by
 unfold ew dz
 have h0:=(l.getD 0 0).toNat_lt
 have h1:=(l.getD 1 0).toNat_lt
 have h2:=(l.getD 2 0).toNat_lt
 have h3:=(l.getD 3 0).toNat_lt
 omega
theorem we{n:Nat}(h:dz n)(r:List UInt8):ew (four n++r)=n:=by
 unfold dz at h
 simp[four,ew]
 omega
theorem T0{a b c d:UInt8} :four (ew [a,b,c,d])= [a,b,c,d]:=by
 have h0:=a.toNat_lt
 have h1:=b.toNat_lt
 have h2:=c.toNat_lt
 have h3:=d.toNat_lt
 have e:ew [a,b,c,d]=a.toNat+256*b.toNat+65536*c.toNat+16777216*d.toNat:=rfl
 unfold four
 rw[e]
 have f:∀(x:UInt8)(n:Nat),n % 256=x.toNat→UInt8.ofNat n=x:=fun x n h=>by
  apply UInt8.toNat_inj.1;rw[UInt8.toNat_ofNat'];omega
 rw[f a _ (by omega),f b _ (by omega),f c _ (by omega),f d _ (by omega)]
theorem ui{l:List UInt8}(h:4≤l.length):l=four (ew l)++l.drop 4:=by
 match l,h with
 |a::b::c::d::r,_=>
  have e:ew (a::b::c::d::r)=ew [a,b,c,d]:=rfl
  rw[e,T0];rfl
theorem J5{l:List UInt8}(h:4≤l.length):l.take 4=four (ew l):=by
 conv=>lhs;rw[ui h]
 rw[take_append_of_le_length (by simp)];simp[four]
theorem EJ(z b:List UInt8):dz (nO z b):=tW (tW dz.zero _) _
@[simp] theorem fF (b:List UInt8):(put b).length=8+b.length:=by simp[put];omega
theorem Cp(b r:List UInt8):(put b++r).drop 8=b++r:=by simp[put,four]
theorem IW{b:List UInt8}(h:b.length≤4096)(r:List UInt8):fst (put b++r)=(b.length,0):=by
 have hU:dz b.length:=by unfold dz;omega
 have e1:ew (put b++r)=b.length:=by unfold put;rw[append_assoc,append_assoc];exact we hU _
 have e2:ew ((put b++r).drop 4)=nO (four b.length) b:=by
  have:(put b++r).drop 4=four (nO (four b.length) b)++(b++r):=by simp[put,four]
  rw[this];exact we (EJ _ _) _
 have e3:(put b++r).take 4=four b.length:=by rw[J5 (by simp;omega),e1]
 have hl:(put b++r).length=8+b.length+r.length:=by simp
 unfold fst
 rw[if_neg (by omega),e1,if_neg (by omega),if_neg (by omega),e2,e3,Cp,take_left',if_neg (by simp)]
 rfl
theorem Ts{b:List UInt8}(h:(fst b).2≠0):(fst b).1=0∧((fst b).2=3∨(fst b).2=4∨(fst b).2=5):=by
 unfold fst at h ⊢
 split
 ·simp
 ·split
  ·simp
  ·split
   ·simp
   ·split
    ·simp
    ·rename_i h1 h2 h3 h4;rw[if_neg h1,if_neg h2,if_neg h3,if_neg h4]at h;simp at h
theorem sg{b:List UInt8}{n:Nat}(h:fst b=(n,0)):n≤4096∧8+n≤b.length∧b=put ((b.drop 8).take n)++b.drop (8+n):=by
 unfold fst at h
 split at h
 ·simp at h
 ·split at h
  ·simp at h
  ·split at h
   ·simp at h
   ·split at h
    ·simp at h
    ·rename_i h1 h2 h3 h4
     simp only[Prod.mk.injEq,and_true]at h
     subst h
     refine⟨by omega,by omega,?_⟩
     have hl:((b.drop 8).take (ew b)).length=ew b:=by rw[length_take,length_drop];omega
     have e1:=ui (l:=b) (by omega)
     have e2:=ui (l:=b.drop 4) (by rw[length_drop];omega)
     have h5:ew (b.drop 4)=nO (b.take 4) ((b.drop 8).take (ew b)):=Classical.not_not.1 h4
     rw[J5 (by omega)]at h5
     unfold put
     rw[hl,←h5,append_assoc,append_assoc]
     conv=>lhs;rw[e1,e2]
     congr 2
     rw[drop_drop]
     conv=>lhs;rw[←take_append_drop (ew b) (b.drop (4+4))]
     rw[drop_drop]
theorem QK{b:List UInt8}(h:b.length≤4096){k:Nat}(hk:k<8+b.length):fst ((put b).take k)=(0,3):=by
 have hU:dz b.length:=by unfold dz;omega
 have hl:((put b).take k).length=k:=by rw[length_take,fF];omega
 by_cases h8:k<8
 ·unfold fst;rw[if_pos (by omega)]
 ·have e:ew ((put b).take k)=b.length:=by
   have:(put b).take k=four b.length++(four (nO (four b.length) b)++b).take (k-4):=by
    unfold put;rw[append_assoc,take_append,take_of_length_le (by simp;omega)];simp
   rw[this];exact we hU _
  unfold fst
  rw[if_neg (by omega),e,if_neg (by omega),if_pos (by omega)]
theorem Ks{a b i:Nat}(h:a<2^i)(hb:b % 2^i=0)(hU:dz (a+b)):bits .or .u32 (a:Int) (b:Int)=((a+b:Nat):Int):=by
 unfold dz at hU
 rw[u32_or_nat a b (by omega) (by omega),Nat.or_comm,nat_join i b a hb h,Nat.add_comm]
theorem or4{x0 x1 x2 x3 m:Nat}(h0:x0<256)(h1:x1<256)(h2:x2<256)(h3:x3<256)(hm:m=x0+256*x1+65536*x2+16777216*x3) :
  bits .or .u32 (bits .or .u32 (bits .or .u32 ((x0:Int) % 4294967296) ((x1:Int) % 4294967296*256 % 4294967296)) ((x2:Int) % 4294967296*65536 % 4294967296)) ((x3:Int) % 4294967296*16777216 % 4294967296)=((m:Nat):Int):=by
 have e0:(x0:Int) % 4294967296=((x0:Nat):Int):=by omega
 have e1:(x1:Int) % 4294967296*256 % 4294967296=((256*x1:Nat):Int):=by omega
 have e2:(x2:Int) % 4294967296*65536 % 4294967296=((65536*x2:Nat):Int):=by omega
 have e3:(x3:Int) % 4294967296*16777216 % 4294967296=((16777216*x3:Nat):Int):=by omega
 rw[e0,e1,e2,e3,Ks (i:=8) (by omega) (by omega) (by unfold dz;omega),Ks (i:=16) (by omega) (by omega) (by unfold dz;omega),Ks (i:=24) (by omega) (by omega) (by unfold dz;omega),hm]
theorem PX{b:List UInt8}(h:4≤b.length):ew b=b[0].toNat+256*b[1].toNat+65536*b[2].toNat+16777216*b[3].toNat:=by
 match b,h with
 |_::_::_::_::_,_=>rfl
theorem TP{x y:Nat}(hx:dz x)(hy:dz y)(h:y≠x):(!(((y:Int) % 256==(x:Int) % 256)&&(((y:Int) / 256 % 256==(x:Int) / 256 % 256)&&(((y:Int) / 65536 % 256==(x:Int) / 65536 % 256)&&((y:Int) / 16777216 % 256==(x:Int) / 16777216 % 256)))))=true:=by
 unfold dz at hx hy
 rw[Bool.not_eq_true',Bool.eq_false_iff]
 intro hh
 simp only[Bool.and_eq_true,beq_iff_eq]at hh
 omega
theorem PY{y:Nat}{a b c d:UInt8}(h:four y= [a,b,c,d]):(a.toNat:Int)=(y:Int) % 256∧(b.toNat:Int)=(y:Int) / 256 % 256∧(c.toNat:Int)=(y:Int) / 65536 % 256∧(d.toNat:Int)=(y:Int) / 16777216 % 256:=by
 simp only[four,List.cons.injEq,and_true]at h
 obtain⟨rfl,rfl,rfl,rfl⟩:=h
 simp
def scan(b:List UInt8):List (List UInt8) × Nat:=
 if(fst b).2=0 then
  if b.length<8 then([],0) else((b.drop 8).take (fst b).1::(scan (b.drop (8+(fst b).1))).1,8+(fst b).1+(scan (b.drop (8+(fst b).1))).2)
 else([],0)
termination_by b.length
decreasing_by all_goals (rw[length_drop];omega)
theorem wM{b:List UInt8}(h:(fst b).2≠0):scan b=([],0):=by rw[scan,if_neg h]
theorem yt{b:List UInt8}{n:Nat}(h:fst b=(n,0)):scan b=((b.drop 8).take n::(scan (b.drop (8+n))).1,8+n+(scan (b.drop (8+n))).2):=by
 have:=sg h
 rw[scan,h,if_pos rfl,if_neg (by omega)]
theorem Fy{b:List UInt8}(h:b.length≤4096)(r:List UInt8):scan (put b++r)=(b::(scan r).1,8+b.length+(scan r).2):=by
 rw[yt (IW h r),Cp,take_left']
 ·have:(put b++r).drop (8+b.length)=r:=by rw[←fF b,drop_left'];rfl
  rw[this]
 ·rfl
theorem Fz:scan []=([],0):=wM (by unfold fst;simp)
theorem AX(b:List UInt8):(scan b).2≤b.length∧b.take (scan b).2=(scan b).1.flatMap put∧∀x∈(scan b).1,x.length≤4096:=by
 induction hn:b.length using Nat.strongRecOn generalizing b with
 |_ n ih=>
  subst hn
  by_cases h:(fst b).2=0
  ·obtain⟨m,hm⟩:∃m,fst b=(m,0):=⟨(fst b).1,by rw[←h]⟩
   obtain⟨h1,h2,h3⟩:=sg hm
   obtain⟨i1,i2,i3⟩:=ih (b.drop (8+m)).length (by rw[length_drop];omega) _ rfl
   rw[yt hm]
   refine⟨by rw[length_drop]at i1;simp only;omega,?_,fun x hx=>?_⟩
   ·have hl:(put ((b.drop 8).take m)).length=8+m:=by rw[fF,length_take,length_drop];omega
    simp only[flatMap_cons]
    rw[←i2]
    generalize (scan (b.drop (8+m))).2=z
    conv=>lhs;rw[h3]
    rw[take_append,hl,take_of_length_le (by omega)]
    congr 2;omega
   ·rcases mem_cons.1 hx with rfl|hx
    ·rw[length_take];omega
    ·exact i3 x hx
  ·rw[wM h];simp
theorem NR{l:List (List UInt8)}(h:∀b∈l,b.length≤4096)(k:Nat)(hk:k≤(l.flatMap put).length) :
  ∃m,m≤l.length∧(scan ((l.flatMap put).take k)).1=l.take m∧(scan ((l.flatMap put).take k)).2=((l.take m).flatMap put).length∧((l.take m).flatMap put).length≤k∧(∀(hm:m<l.length),k<((l.take m).flatMap put).length+(put l[m]).length):=by
 induction l generalizing k with
 |nil=>simp at hk;subst hk;exact⟨0,by simp,by simp[Fz],by simp[Fz],by simp,by simp⟩
 |cons b l ih=>
  have hb:=h b (by simp)
  by_cases hlt:k<8+b.length
  ·refine⟨0,by simp,?_,?_,by simp,fun _=>by simpa using hlt⟩ <;>
   ·rw[flatMap_cons,take_append_of_le_length (by rw[fF];omega),wM (by rw[QK hb hlt];simp)];simp
  ·rw[flatMap_cons,length_append,fF]at hk
   obtain⟨m,h1,h2,h3,h4,h5⟩:=ih (fun c hc=>h c (by simp[hc])) (k - (8+b.length)) (by omega)
   have e:((b::l).flatMap put).take k=put b++(l.flatMap put).take (k-(8+b.length)):=by
    rw[flatMap_cons,take_append,fF,take_of_length_le (by rw[fF];omega)]
   refine⟨m+1,by simp;omega,?_,?_,?_,?_⟩
   ·rw[e,Fy hb,h2];simp
   ·rw[e,Fy hb,h3];simp
   ·simp only[take_succ_cons,flatMap_cons,length_append,fF];omega
   ·intro hm
    have:=h5 (by simpa using hm)
    simp only[take_succ_cons,flatMap_cons,length_append,fF,getElem_cons_succ]at this ⊢;omega
def j8(i acc:Nat):List UInt8→Nat × Nat × Nat
 |[]=>(0,0,3)
 |c::r=>
  if i=9∧1<c.toNat then(0,0,2)
  else if 128≤c.toNat then j8 (i+1) (acc+c.toNat % 128*128^i) r
  else if c.toNat=0∧0<i then(0,0,2)
  else(acc+c.toNat*128^i,i+1,0)
def uv(l:List UInt8):Nat × Nat × Nat:=j8 0 0 l
theorem CX(i:Nat):(2:Int)^(7*i)=((128^i:Nat):Int):=by
 rw[Int.pow_mul];simp
theorem uj{i acc cn:Nat}(hi:i≤9)(cM:acc<128^i)(BR:cn<256)(h9:i=9→cn≤1) :
  bits .or .u64 (acc:Int) (IntKind.u64.wrap (IntKind.u64.wrap (bits .and .u8 (cn:Int) 127)*2^(7*i)))=((acc+cn % 128*128^i:Nat):Int):=by
 have h1:bits .and .u8 (cn:Int) 127=((cn % 128:Nat):Int):=by
  have:=u8_and_nat cn 127 BR (by omega)
  rw[nat_mask7]at this;exact this
 have hp:128^i≤128^9:=Nat.pow_le_pow_right (by omega) hi
 have hx:cn % 128*128^i<18446744073709551616:=by
  by_cases h:i=9
  ·subst h;have:=h9 rfl;have:cn % 128≤1:=by omega
   have:=Nat.mul_le_mul_right (128^9) this
   omega
  ·have:128^i≤128^8:=Nat.pow_le_pow_right (by omega) (by omega)
   have:cn % 128*128^i≤127*128^8:=Nat.mul_le_mul (by omega) this
   omega
 rw[h1,CX,Fx (m:=((cn % 128:Nat):Int)) (by omega) (by unfold gG;omega)]
 rw[show((cn % 128:Nat):Int)*((128^i:Nat):Int)=((cn % 128*128^i:Nat):Int) by rw[Int.natCast_mul]]
 rw[Fx (by omega) (by unfold gG;omega),u64_or_nat acc _ (by omega) hx]
 congr 1
 rw[Nat.or_comm,nat_join (7*i) _ acc (by rw[Nat.pow_mul];simp) (by rw[Nat.pow_mul];simpa using cM)]
 omega
theorem FA{i acc cn:Nat}(cM:acc<128^i):acc+cn % 128*128^i<128^(i+1):=by
 have:cn % 128*128^i≤127*128^i:=Nat.mul_le_mul_right _ (by omega)
 rw[Nat.pow_succ];omega
theorem uk{i acc:Nat}{c:UInt8}{r:List UInt8}(h9:¬ (i=9∧1<c.toNat))(h:128≤c.toNat):j8 i acc (c::r)=j8 (i+1) (acc+c.toNat % 128*128^i) r:=by
 rw[j8,if_neg h9,if_pos h]
theorem um{i acc:Nat}{c:UInt8}{r:List UInt8}(hi:i=9)(h:1<c.toNat):j8 i acc (c::r)=(0,0,2):=by
 rw[j8,if_pos ⟨hi,h⟩]
theorem uo{i acc:Nat}{c:UInt8}{r:List UInt8}(h:c.toNat=0)(hi:0<i):j8 i acc (c::r)=(0,0,2):=by
 rw[j8,if_neg (by omega),if_neg (by omega),if_pos ⟨h,hi⟩]
theorem oF{i acc:Nat}{c:UInt8}{r:List UInt8}(h9:¬ (i=9∧1<c.toNat))(h:c.toNat<128)(h0:¬ (c.toNat=0∧0<i)):j8 i acc (c::r)=(acc+c.toNat % 128*128^i,i+1,0):=by
 rw[j8,if_neg h9,if_neg (by omega),if_neg h0,Nat.mod_eq_of_lt h]
theorem Cq(l:List UInt8):∀(i acc:Nat),i≤9→acc<128^i→
  ((j8 i acc l).2.2=0→i<(j8 i acc l).2.1∧(j8 i acc l).2.1≤i+l.length∧(j8 i acc l).2.1≤10∧(j8 i acc l).1<18446744073709551616)∧
  ((j8 i acc l).2.2≠0→(j8 i acc l).1=0∧(j8 i acc l).2.1=0∧((j8 i acc l).2.2=2∨(j8 i acc l).2.2=3)):=by
 induction l with
 |nil=>intro i acc hi h;simp[j8]
 |cons c r ih=>
  intro i acc hi cM
  by_cases h9:i=9∧1<c.toNat
  ·rw[um h9.1 h9.2];simp
  ·by_cases h:128≤c.toNat
   ·rw[uk h9 h]
    have:=ih (i+1) (acc+c.toNat % 128*128^i) (by omega) (FA cM)
    refine⟨fun hb=>?_,this.2⟩
    have:=this.1 hb
    simp only[length_cons]
    omega
   ·by_cases h0:c.toNat=0∧0<i
    ·rw[uo h0.1 h0.2];simp
    ·rw[oF h9 (by omega) h0]
     refine⟨fun _=>?_,by simp⟩
     simp only[length_cons]
     refine⟨by omega,by omega,by omega,?_⟩
     by_cases FB:i=9
     ·subst FB
      have:c.toNat % 128≤1:=by omega
      have:=Nat.mul_le_mul_right (128^9) this
      omega
     ·have:=FA (cn:=c.toNat) cM
      have h2:128^(i+1)≤128^9:=Nat.pow_le_pow_right (by omega) (by omega)
      omega
theorem Du{l:List UInt8}(h:(uv l).2.2=0):0<(uv l).2.1∧(uv l).2.1≤l.length∧(uv l).2.1≤10∧gG (uv l).1:=by
 have:=(Cq l 0 0 (by omega) (by omega)).1 h
 unfold uv gG;omega
theorem XV{l:List UInt8}(h:(uv l).2.2≠0):(uv l).1=0∧(uv l).2.1=0∧((uv l).2.2=2∨(uv l).2.2=3):=(Cq l 0 0 (by omega) (by omega)).2 h
def fw(most:Int)(l:List UInt8):Nat × Nat × Nat:=
 if(uv l).2.2=0 then(if most<0∨most<((uv l).1:Int) then(0,0,8)else uv l) else(0,0,(uv l).2.2)
theorem FC{most:Int}{l:List UInt8}(h:(fw most l).2.2=0):(uv l).2.2=0∧fw most l=uv l∧0≤most∧((uv l).1:Int)≤most:=by
 unfold fw at *
 by_cases h1:(uv l).2.2=0
 ·rw[if_pos h1]at h ⊢
  by_cases h2:most<0∨most<((uv l).1:Int)
  ·rw[if_pos h2]at h;cases h
  ·rw[if_neg h2];exact⟨h1,rfl,by omega,by omega⟩
 ·rw[if_neg h1]at h;exact absurd h h1
theorem IX{most:Int}{l:List UInt8}(h:(fw most l).2.2≠0):(fw most l).1=0∧(fw most l).2.1=0:=by
 unfold fw at *
 by_cases h1:(uv l).2.2=0
 ·rw[if_pos h1]at h ⊢
  by_cases h2:most<0∨most<((uv l).1:Int)
  ·rw[if_pos h2];simp
  ·rw[if_neg h2]at h;exact absurd h1 h
 ·rw[if_neg h1];simp
def tk(most:Int)(l:List UInt8):List UInt8 × Nat × Nat:=
 if(fw most l).2.2=0 then
  (if l.length-(fw most l).2.1<(fw most l).1 then([],0,3) else((l.drop (fw most l).2.1).take (fw most l).1,(fw most l).2.1+(fw most l).1,0))
 else([],0,(fw most l).2.2)
theorem NS{most:Int}{l:List UInt8}{n sz bad:Nat}(h:fw most l=(n,sz,bad))(h0:bad≠0):tk most l=([],0,bad):=by
 unfold tk;rw[h];simp[h0]
theorem FD{most:Int}{l:List UInt8}{n sz:Nat}(h:fw most l=(n,sz,0))(h0:l.length-sz<n):tk most l=([],0,3):=by
 unfold tk;rw[h];simp[h0]
theorem Kt{most:Int}{l:List UInt8}{n sz:Nat}(h:fw most l=(n,sz,0))(h0:¬ l.length-sz<n):tk most l=((l.drop sz).take n,sz+n,0):=by
 unfold tk;rw[h];simp[h0]
theorem QL(l:List UInt8):∀(i acc n k:Nat),j8 i acc l=(n,k,0)→∃m,n=acc+m*128^i∧i<k∧l.take (k-i)=eG m∧(0<i→0<m):=by
 induction l with
 |nil=>intro i acc n k h;simp[j8]at h
 |cons c r ih=>
  intro i acc n k h
  have hc:=c.toNat_lt
  by_cases h9:i=9∧1<c.toNat
  ·rw[um h9.1 h9.2]at h;simp at h
  ·by_cases h1:128≤c.toNat
   ·rw[uk h9 h1]at h
    obtain⟨m,hn,hk,ht,hm⟩:=ih _ _ _ _ h
    have hm:=hm (by omega)
    refine⟨c.toNat % 128+128*m,?_,by omega,?_,by omega⟩
    ·rw[hn,Nat.pow_succ,Nat.add_mul]
     have:128*m*128^i=m*(128^i*128):=by rw[Nat.mul_comm 128 m,Nat.mul_assoc,Nat.mul_comm 128]
     omega
    ·rw[vZ (by omega),show k-i=(k-(i+1))+1 by omega,take_succ_cons,ht]
     congr 1
     ·rw[show(c.toNat % 128+128*m) % 128+128=c.toNat by omega]
      exact(UInt8.ofNat_toNat).symm
     ·congr 1;omega
   ·by_cases h0:c.toNat=0∧0<i
    ·rw[uo h0.1 h0.2]at h;simp at h
    ·rw[oF h9 (by omega) h0]at h
     simp only[Prod.mk.injEq]at h
     obtain⟨rfl,rfl,-⟩:=h
     refine⟨c.toNat,by rw[Nat.mod_eq_of_lt (by omega)],by omega,?_,by omega⟩
     rw[qu (by omega),show i+1-i=1 by omega]
     simp
theorem T1{l:List UInt8}{n k:Nat}(h:uv l=(n,k,0)):l.take k=eG n:=by
 obtain⟨m,hn,_,ht,_⟩:=QL l 0 0 n k h
 simp at hn ht
 rw[hn,ht]
theorem QM:∀(m i acc:Nat)(r:List UInt8),i≤9→acc+m*128^i<18446744073709551616→(0<i→0<m)→j8 i acc (eG m++r)=(acc+m*128^i,i+(eG m).length,0):=by
 intro m
 induction m using Nat.strongRecOn with
 |_ m ih=>
  intro i acc r hi hb h0
  have hp:128^i≤128^9:=Nat.pow_le_pow_right (by omega) hi
  by_cases h:m<128
  ·rw[qu h]
   have ht:(UInt8.ofNat m).toNat=m:=by simp;omega
   simp only[singleton_append,length_singleton]
   rw[oF (by
    rw[ht];rintro⟨rfl,h1⟩
    have:2*128^9≤m*128^9:=Nat.mul_le_mul_right _ (by omega)
    omega) (by omega) (by omega),ht,Nat.mod_eq_of_lt h]
  ·rw[vZ (by omega)]
   have ht:(UInt8.ofNat (m % 128+128)).toNat=m % 128+128:=by simp;omega
   have hm:m*128^i=m % 128*128^i+m / 128*128^(i+1):=by
    rw[Nat.pow_succ,←Nat.mul_assoc,Nat.mul_right_comm,←Nat.add_mul]
    congr 1;omega
   have FB:¬ i=9:=by
    rintro rfl
    have:128*128^9≤m*128^9:=Nat.mul_le_mul_right _ (by omega)
    omega
   rw[cons_append,uk (by omega) (by omega),ht,show(m % 128+128) % 128=m % 128 by omega,ih (m / 128) (by omega) (i+1) _ r (by omega) (by omega) (by omega)]
   simp only[length_cons,Prod.mk.injEq,and_true]
   omega
theorem T3{n:Nat}(h:gG n)(r:List UInt8):uv (eG n++r)=(n,(eG n).length,0):=by
 have:=QM n 0 0 r (by omega) (by unfold gG at h;omega) (by omega)
 simpa[uv]using this
theorem CY{b:List UInt8}{a k:Nat}(_h:k≤(b.drop a).length):b.drop a=(b.drop a).take k++b.drop (a+k):=by
 rw[←drop_drop,take_append_drop]
theorem yB{most:Int}{l:List UInt8}{n k:Nat}(h:fw most l=(n,k,0)):l.take k=eG n∧(n:Int)≤most∧k≤l.length:=by
 obtain⟨h1,h2,_,h4⟩:=FC (most:=most) (l:=l) (by rw[h])
 rw[←h2,h]at h4
 have hu:uv l=(n,k,0):=by rw[←h2];exact h
 have:=(Du h1).2.1
 rw[hu]at this
 exact⟨T1 hu,h4,this⟩
theorem FE{most:Int}{n:Nat}(r:List UInt8)(h:(n:Int)≤most)(hm:most≤9223372036854775807):fw most (eG n++r)=(n,(eG n).length,0):=by
 have hu:=T3 (n:=n) (by unfold gG;omega) r
 unfold fw
 rw[hu,if_pos rfl,if_neg (by simp only;omega)]
def jK(b:List UInt8):List Int→Nat→Option (List Nat × Nat)
 |[],a=>some ([],a)
 |m::ms,a=>if(fw m (b.drop a)).2.2=0 then(jK b ms (a+(fw m (b.drop a)).2.1)).map fun p=>((fw m (b.drop a)).1::p.1,p.2)else none
def Fits:List Nat→List Int→Prop
 |[],[]=>True
 |n::l,m::ms=>(n:Int)≤m∧Fits l ms
 |_,_=>False
def lI(b:List UInt8)(ms:List Int)(l:List Nat)(a:Nat):Prop:=
 jK b ms 0=(jK b (ms.drop l.length) a).map (fun p=>(l++p.1,p.2))∧a≤b.length
theorem lI.zero(b:List UInt8)(ms:List Int):lI b ms [] 0:=⟨by simp[Option.map_id'],by omega⟩
theorem lI.more{b:List UInt8}{ms:List Int}{l:List Nat}{a:Nat}(h:lI b ms l a){m:Int}(hm:ms[l.length]? =some m){n k:Nat}(hu:fw m (b.drop a)=(n,k,0)):lI b ms (l++[n]) (a+k):=by
 obtain⟨hlt,e⟩:=List.getElem?_eq_some_iff.1 hm
 obtain⟨_,_,hk⟩:=yB hu
 refine⟨?_,by rw[length_drop]at hk;have:=h.2;omega⟩
 rw[h.1,drop_eq_getElem_cons hlt,e]
 simp only[jK,hu,if_true,length_append,length_cons,length_nil,Option.map_map]
 congr 1
 funext p
 simp
theorem lI.bad{b:List UInt8}{ms:List Int}{l:List Nat}{a:Nat}(h:lI b ms l a){m:Int}(hm:ms[l.length]? =some m){n k bad:Nat}(hu:fw m (b.drop a)=(n,k,bad))(h0:bad≠0):jK b ms 0=none:=by
 obtain⟨hlt,e⟩:=List.getElem?_eq_some_iff.1 hm
 rw[h.1,drop_eq_getElem_cons hlt,e]
 simp only[jK,hu,if_neg h0,Option.map_none]
theorem lI.all{b:List UInt8}{ms:List Int}{l:List Nat}{a:Nat}(h:lI b ms l a)(hl:l.length=ms.length):jK b ms 0=some (l,a):=by
 rw[h.1,drop_of_length_le (by omega)];simp[jK]
theorem IY(b:List UInt8):∀(ms:List Int)(a:Nat)(l:List Nat)(e:Nat),a≤b.length→jK b ms a=some (l,e)→b.drop a=l.flatMap eG++b.drop e∧Fits l ms∧l.length=ms.length∧e≤b.length
 |[],a,l,e,ha,h=>by simp[jK]at h;obtain⟨rfl,rfl⟩:=h;simp[Fits,ha]
 |m::ms,a,l,e,ha,h=>by
  simp only[jK]at h
  split at h
  ·rename_i h0
   obtain⟨n,k,bad,hu⟩:∃n k bad,fw m (b.drop a)=(n,k,bad):=⟨_,_,_,rfl⟩
   rw[hu]at h h0
   simp only at h0 h
   subst h0
   obtain⟨h1,h2,h3⟩:=yB hu
   rw[Option.map_eq_some_iff]at h
   obtain⟨⟨l',e'⟩,hn,he⟩:=h
   simp only[Prod.mk.injEq]at he
   obtain⟨rfl,rfl⟩:=he
   obtain⟨i1,i2,i3,i4⟩:=IY b ms (a+k) l' e' (by rw[length_drop]at h3;omega) hn
   refine⟨?_,⟨h2,i2⟩,by simp[i3],i4⟩
   rw[CY h3,h1,i1];simp
  ·cases h
theorem Cr(b:List UInt8):∀(ms:List Int)(l:List Nat)(a:Nat)(r:List UInt8),(∀m∈ms,m≤9223372036854775807)→Fits l ms→b.drop a=l.flatMap eG++r→jK b ms a=some (l,a+(l.flatMap eG).length)
 |[],[],a,r,_,_,_=>by simp[jK]
 |[],_::_,_,_,_,h,_=>h.elim
 |_::_,[],_,_,_,h,_=>h.elim
 |m::ms,n::l,a,r,hm,h,hb=>by
  rw[flatMap_cons,append_assoc]at hb
  have hu:=FE (l.flatMap eG++r) h.1 (hm m (by simp))
  have hd:b.drop (a+(eG n).length)=l.flatMap eG++r:=by rw[←drop_drop,hb,drop_left]
  have ih:=Cr b ms l (a+(eG n).length) r (fun x hx=>hm x (by simp[hx])) h.2 hd
  simp only[jK,hb,hu,if_true,ih,Option.map_some,flatMap_cons,length_append,Nat.add_assoc]
def body(b:List UInt8)(ms:List Int):Option (List Nat × List UInt8):=
 match jK b ms 0 with
 |none=>none
 |some p=>if(tk 2048 (b.drop p.2)).2.2=0∧p.2+(tk 2048 (b.drop p.2)).2.1=b.length then some (p.1,(tk 2048 (b.drop p.2)).1)else none
def je(l:List Nat)(v:List UInt8):List UInt8:=l.flatMap eG++(eG v.length++v)
theorem T8{l:List UInt8}{v:List UInt8}{k:Nat}(h:tk 2048 l=(v,k,0)):l.take k=eG v.length++v∧v.length≤2048∧k≤l.length:=by
 obtain⟨n,sz,bad,hu⟩:∃n sz bad,fw 2048 l=(n,sz,bad):=⟨_,_,_,rfl⟩
 by_cases h0:bad=0
 ·subst h0
  obtain⟨h1,h2,h3⟩:=yB hu
  by_cases hs:l.length-sz<n
  ·rw[FD hu hs]at h;simp at h
  ·rw[Kt hu hs]at h
   simp only[Prod.mk.injEq,and_true]at h
   obtain⟨rfl,rfl⟩:=h
   have hl:((l.drop sz).take n).length=n:=by rw[length_take,length_drop];omega
   refine⟨?_,by omega,by omega⟩
   rw[hl,←h1]
   conv=>lhs;rw[←take_append_drop sz l]
   rw[take_append,length_take,take_of_length_le (by rw[length_take];omega)]
   congr 2;omega
 ·rw[NS hu h0]at h;simp at h;exact absurd h.2.2 h0
theorem Uc{v r:List UInt8}(h:v.length≤2048):tk 2048 (eG v.length++v++r)=(v,(eG v.length).length+v.length,0):=by
 have hu:=FE (most:=2048) (n:=v.length) (v++r) (by omega) (by omega)
 rw[←append_assoc]at hu
 rw[Kt hu (by simp)]
 simp
theorem IZ{b:List UInt8}{ms:List Int}{l:List Nat}{v:List UInt8}(h:body b ms=some (l,v)):Fits l ms∧v.length≤2048∧b=je l v:=by
 unfold body at h
 split at h
 ·cases h
 ·rename_i p hp
  split at h
  ·rename_i hc
   obtain⟨h0,he⟩:=hc
   simp only[Option.some.injEq,Prod.mk.injEq]at h
   obtain⟨rfl,rfl⟩:=h
   obtain⟨h1,h2,h3,h4⟩:=IY b ms 0 p.1 p.2 (by omega) (by rw[hp])
   obtain⟨v,k,bad,hu⟩:∃v k bad,tk 2048 (b.drop p.2)=(v,k,bad):=⟨_,_,_,rfl⟩
   rw[hu]at h0 he ⊢
   simp only at h0 he ⊢
   subst h0
   obtain⟨q1,q2,q3⟩:=T8 hu
   refine⟨h2,q2,?_⟩
   rw[take_of_length_le (by rw[length_drop];omega)]at q1
   rw[drop_zero]at h1
   unfold je
   rw[←q1];exact h1
  ·cases h
theorem wg{ms:List Int}{l:List Nat}{v:List UInt8}(hm:∀m∈ms,m≤9223372036854775807)(hf:Fits l ms)(hv:v.length≤2048):body (je l v) ms=some (l,v):=by
 have hn:=Cr (je l v) ms l 0 (eG v.length++v) hm hf (by rw[drop_zero];rfl)
 rw[Nat.zero_add]at hn
 have hd:(je l v).drop (l.flatMap eG).length=eG v.length++v++[]:=by unfold je;rw[drop_left,append_nil]
 have hl:(je l v).length=(l.flatMap eG).length+((eG v.length).length+v.length):=by simp[je]
 unfold body
 rw[hn]
 simp only[hd,Uc hv,hl,and_self,if_true]
theorem wh{b:List UInt8}{ms:List Int}(hm:∀m∈ms,m≤9223372036854775807)(h:body b ms=none){l:List Nat}{v:List UInt8}(hf:Fits l ms)(hv:v.length≤2048):b≠je l v:=by
 rintro rfl
 rw[wg hm hf hv]at h;cases h
theorem rL{ms:List Int}(hm:∀m∈ms,m≤9223372036854775807){l l':List Nat}{v v':List UInt8}(hf:Fits l ms)(R9:Fits l' ms)(hv:v.length≤2048)(oS:v'.length≤2048)(h:je l v=je l' v'):l=l'∧v=v':=by
 have h1:=wg hm hf hv
 rw[h,wg hm R9 oS]at h1
 simp only[Option.some.injEq,Prod.mk.injEq]at h1
 exact⟨h1.1.symm,h1.2.symm⟩
theorem qq{l:List Nat}(h:∀n∈l,gG n):(l.flatMap eG).length≤10*l.length:=by
 induction l with
 |nil=>simp
 |cons n l ih=>
  have h0:=sk (h n (by simp))
  have h1:=ih fun m hm=>h m (by simp[hm])
  simp only[flatMap_cons,length_append,length_cons]
  omega
theorem vf{l:List Nat}{v:List UInt8}(h:∀n∈l,gG n)(hv:v.length≤2048):(je l v).length≤10*l.length+10+v.length:=by
 have h1:=qq h
 have h2:=sk (n:=v.length) (gG.small (by omega))
 unfold je
 simp only[length_append]
 omega
structure Rc where
 kind:Int
 slot:Int
 round:Int
 site:Int
 val:List UInt8
structure Rc.bL(r:Rc):Prop where
 kind:r.kind=1∧r.val.length=0∨r.kind=2
 slot:0≤r.slot∧r.slot≤4095
 round:0≤r.round∧r.round≤1099511627776
 site:0≤r.site∧r.site≤6
 val:r.val.length≤2048
def Rc.ns(r:Rc):List Nat:=[r.kind.toNat,r.slot.toNat,r.round.toNat,r.site.toNat]
def Rc.bytes(r:Rc):List UInt8:=je r.ns r.val
def re:List Int:=[2,4095,1099511627776,6]
def I0:List Int:=[1099511627776,1099511627776,1099511627776,1099511627776]
theorem NT:∀m∈re,m≤9223372036854775807:=by unfold re;simp
theorem FF:∀m∈I0,m≤9223372036854775807:=by unfold I0;simp
theorem Rc.bL.SL{r:Rc}(h:r.bL):Fits r.ns re:=by
 have h1:=h.kind;have h2:=h.slot;have h3:=h.round;have h4:=h.site
 unfold Rc.ns re
 refine⟨by omega,by omega,by omega,by omega,trivial⟩
theorem Rc.bL.Dw{r:Rc}(h:r.bL):Fits r.ns I0:=by
 have h1:=h.kind;have h2:=h.slot;have h3:=h.round;have h4:=h.site
 unfold Rc.ns I0
 refine⟨by omega,by omega,by omega,by omega,trivial⟩
theorem Rc.bL.U{r:Rc}(h:r.bL):∀n∈r.ns,gG n:=by
 have h1:=h.kind;have h2:=h.slot;have h3:=h.round;have h4:=h.site
 intro n hn
 simp only[Rc.ns,mem_cons,not_mem_nil,or_false]at hn
 unfold gG
 rcases hn with rfl|rfl|rfl|rfl<;>omega
theorem Rc.bL.len{r:Rc}(h:r.bL):r.bytes.length≤2100:=by
 have:=vf h.U h.val
 have:=h.val
 have:r.ns.length=4:=rfl
 unfold Rc.bytes
 omega
def sf(b:List UInt8)(r:Rc):Prop:=r.bL∧r.bytes=b
theorem sf.inj{b:List UInt8}{r r':Rc}(h:sf b r)(h':sf b r'):r=r':=by
 obtain⟨e1,e2⟩:=rL FF h.1.Dw h'.1.Dw h.1.val h'.1.val (h.2.trans h'.2.symm)
 have h1:=h.1.kind;have h2:=h.1.slot;have h3:=h.1.round;have h4:=h.1.site
 have k1:=h'.1.kind;have k2:=h'.1.slot;have k3:=h'.1.round;have k4:=h'.1.site
 obtain⟨a,b,c,d,v⟩:=r
 obtain⟨a',b',c',d',v'⟩:=r'
 simp only[Rc.ns,List.cons.injEq,and_true]at e1 e2 h1 h2 h3 h4 k1 k2 k3 k4
 subst e2
 obtain rfl:a=a':=by omega
 obtain rfl:b=b':=by omega
 obtain rfl:c=c':=by omega
 obtain rfl:d=d':=by omega
 rfl
def Rc.of(k s t u:Nat)(v:List UInt8):Rc:=⟨k,s,t,u,v⟩
theorem Pe{b:List UInt8}{ms:List Int}(eF:ms=re∨ms=I0){k s t u:Nat}{v:List UInt8}(h:body b ms=some ([k,s,t,u],v)) :
  (Rc.of k s t u v).bytes=b∧∀r,sf b r→r=Rc.of k s t u v:=by
 obtain⟨h1,h2,h3⟩:=IZ h
 have hb:(Rc.of k s t u v).bytes=b:=by rw[h3];rfl
 refine⟨hb,fun r hr=>?_⟩
 have hf:Fits r.ns ms:=by
  rcases eF with rfl|rfl
  ·exact hr.1.SL
  ·exact hr.1.Dw
 have hle:∀m∈ms,m≤9223372036854775807:=by
  rcases eF with rfl|rfl
  ·exact NT
  ·exact FF
 obtain⟨e1,e2⟩:=rL hle hf h1 hr.1.val h2 (hr.2.trans h3)
 have k1:=hr.1.kind;have k2:=hr.1.slot;have k3:=hr.1.round;have k4:=hr.1.site
 obtain⟨a',b',c',d',v'⟩:=r
 simp only[Rc.ns,List.cons.injEq,and_true]at e1 e2 k1 k2 k3 k4
 subst e2
 unfold Rc.of
 congr 1<;>omega
theorem Pc{b:List UInt8}{ms:List Int}(eF:ms=re∨ms=I0)(h:body b ms=none):∀r,¬ sf b r:=by
 intro r hr
 rcases eF with rfl|rfl
 ·exact wh NT h hr.1.SL hr.1.val hr.2.symm
 ·exact wh FF h hr.1.Dw hr.1.val hr.2.symm
open Classical in
noncomputable def nj (b:List UInt8):Option Rc:=if h:∃r,sf b r then some h.choose else none
theorem Bx{b:List UInt8}{r:Rc}(h:sf b r):nj b=some r:=by
 have hx:∃r,sf b r:=⟨r,h⟩
 unfold nj
 rw[dif_pos hx,hx.choose_spec.inj h]
theorem Bw{b:List UInt8}(h:∀r,¬ sf b r):nj b=none:=by
 unfold nj
 rw[dif_neg (fun⟨r,hr⟩=>h r hr)]
theorem I1{b:List UInt8}{r:Rc}(h:nj b=some r):sf b r:=by
 unfold nj at h
 split at h
 ·rename_i hx
  rw[←Option.some.inj h];exact hx.choose_spec
 ·cases h
def bX(l:List Rc):List UInt8:=(l.map Rc.bytes).flatMap put
theorem jy(a b:List Rc):bX (a++b)=bX a++bX b:=by simp[bX]
theorem rM(r:Rc)(l:List Rc):bX (r::l)=put r.bytes++bX l:=rfl
theorem NU{l:List Rc}{i:Nat}(h:i<l.length):bX (l.take (i+1))=bX (l.take i)++put l[i].bytes:=by
 rw[take_succ_eq_append_getElem h,jy];simp[bX]
theorem QN{l:List Rc}(h:∀r∈l,r.bL):(bX l).length≤2108*l.length:=by
 induction l with
 |nil=>simp[bX]
 |cons r l ih=>
  have h0:=(h r (by simp)).len
  have h1:=ih fun m hm=>h m (by simp[hm])
  rw[rM,length_append,fF,length_cons]
  omega
noncomputable def dY:List (List UInt8)→List Rc × Nat
 |[]=>([],0)
 |x::xs=>match nj x with
  |none=>([],0)
  |some r=>(r::(dY xs).1,8+x.length+(dY xs).2)
noncomputable def cg (b:List UInt8):List Rc × Nat:=dY (scan b).1
theorem NV{l:List Rc}(h:∀r∈l,r.bL)(xs:List (List UInt8)):dY (l.map Rc.bytes++xs)=(l++(dY xs).1,(bX l).length+(dY xs).2):=by
 induction l with
 |nil=>simp[bX]
 |cons r l ih=>
  rw[map_cons,cons_append]
  simp only[dY,Bx ⟨h r (by simp),rfl⟩,ih fun m hm=>h m (by simp[hm]),rM,cons_append,length_append,fF,Prod.mk.injEq,true_and]
  omega
theorem QO(xs:List (List UInt8)):∃m,m≤xs.length∧(dY xs).1.map Rc.bytes=xs.take m∧(dY xs).2=((xs.take m).flatMap put).length∧∀r∈(dY xs).1,r.bL:=by
 induction xs with
 |nil=>exact⟨0,by simp,by simp[dY],by simp[dY],by simp[dY]⟩
 |cons x xs ih=>
  obtain⟨m,h1,h2,h3,h4⟩:=ih
  cases hd:nj x with
  |none=>exact⟨0,by simp,by simp[dY,hd],by simp[dY,hd],by simp[dY,hd]⟩
  |some r=>
   have hr:=I1 hd
   refine⟨m+1,by simp;omega,by simp[dY,hd,h2,hr.2],by simp[dY,hd,h3],?_⟩
   simp only[dY,hd]
   intro y hy
   rcases mem_cons.1 hy with rfl|hy
   ·exact hr.1
   ·exact h4 y hy
theorem oB(b:List UInt8):(cg b).2≤b.length∧bX (cg b).1=b.take (cg b).2∧∀r∈(cg b).1,r.bL:=by
 obtain⟨h1,h2,h3⟩:=AX b
 obtain⟨m,k1,k2,k3,k4⟩:=QO (scan b).1
 have hs:(scan b).1.flatMap put=((scan b).1.take m).flatMap put++((scan b).1.drop m).flatMap put:=by
  rw[←flatMap_append,take_append_drop]
 have hl:=congrArg length h2
 rw[hs,length_take,length_append]at hl
 unfold cg
 refine⟨by rw[k3];omega,?_,k4⟩
 unfold bX
 rw[k2,k3]
 have e:b=(((scan b).1.take m).flatMap put++((scan b).1.drop m).flatMap put)++b.drop (scan b).2:=by
  rw[←hs,←h2,take_append_drop]
 generalize ((scan b).1.take m).flatMap put=p at *
 generalize ((scan b).1.drop m).flatMap put=q at *
 generalize b.drop (scan b).2=z at *
 rw[e,append_assoc,take_left'];rfl
theorem tR{l:List Rc}(h:∀r∈l,r.bL)(k:Nat)(hk:k≤(bX l).length) :
  ∃m,m≤l.length∧(cg ((bX l).take k)).1=l.take m∧(cg ((bX l).take k)).2=(bX (l.take m)).length∧(bX (l.take m)).length≤k∧(∀(hm:m<l.length),k<(bX (l.take m)).length+(put l[m].bytes).length):=by
 have hl:∀b∈l.map Rc.bytes,b.length≤4096:=by
  intro b hb
  obtain⟨x,hx,rfl⟩:=mem_map.1 hb
  have:=(h x hx).len;omega
 obtain⟨m,h1,h2,h3,h4,h5⟩:=NR hl k hk
 have hx:=NV (l:=l.take m) (fun r hr=>h r (mem_of_mem_take hr)) []
 rw[append_nil,map_take]at hx
 unfold cg bX
 rw[h2,hx]
 rw[←map_take]at h4 h5
 refine⟨m,by simpa using h1,by simp[dY],by simp[dY,bX],h4,fun hm=>?_⟩
 have:=h5 (by simpa using hm)
 simpa using this
structure Bl where
 r:Int
 s:Int
deriving DecidableEq
def rT(a b:Int):Int:=if a<b then -1 else if b<a then 1 else 0
def LJ(a b:Int):Int:=if a=0 then b else a
def dr(a b:Bl):Int:=LJ (rT a.r b.r) (rT a.s b.s)
def Bl.lt(a b:Bl):Prop:=a.r<b.r∨a.r=b.r∧a.s<b.s
theorem gp(a b:Bl):dr a b<0 ↔ a.lt b:=by
 unfold dr LJ rT Bl.lt
 split<;>split<;>(try split)<;>(try split)<;>omega
theorem qh(a b:Bl):0<dr a b ↔ b.lt a:=by
 unfold dr LJ rT Bl.lt
 split<;>split<;>(try split)<;>(try split)<;>omega
def dd(s n:Int):Bool:=decide (0≤s)&&decide (s<n)
def mW(n:Int):Int:=if n<1 then 0 else n / 2+1
def Bl.next(b:Bl)(s:Int):Bl:=if b.r<0 then⟨1,s⟩else if b.r<1099511627776 then⟨b.r+1,s⟩ else⟨1099511627776,s⟩
def Bl.may(b:Bl)(n:Int):Bool:=decide (0≤b.r)&&decide (b.r≤1099511627776)&&dd b.s n
def bK(slot n:Int):Int:=if slot<0∨4096≤slot∨n<1∨64<n then -1 else slot.tmod n
def kO(site n:Int):Nat→Nat→Int
 |0,_=>-1
 |k+1,s=>if(s:Int).tmod n=site then(s:Int)else kO site n k (s+1)
def bV(site:Int)(f:Nat)(n:Int):Int:=if n<1∨64<n∨site<0∨n≤site then -1 else kO site n (4096-f) f
structure Ms where
 kind:Int
 aR:Int
 to:Int
 slot:Int
 bU:Int
 cu:Int
 dw:Int
 dR:Int
 some_:Bool
 val:List UInt8
structure Ms.bL(m:Ms):Prop where
 kind:1≤m.kind∧m.kind≤8
 aR:0≤m.aR∧m.aR≤6
 to:0≤m.to∧m.to≤6
 slot:0≤m.slot∧m.slot≤4095
 bU:0≤m.bU∧m.bU≤1099511627776
 cu:0≤m.cu∧m.cu≤6
 dw:0≤m.dw∧m.dw≤1099511627776
 dR:0≤m.dR∧m.dR≤6
 val:m.val.length≤2048
 some_:m.some_=true∨(m.dw=0∧m.dR=0)∧m.val.length=0
def Ms.is(m:Ms):Nat:=if m.some_ then 1 else 0
theorem Ms.is_le(m:Ms):m.is≤1:=by unfold Ms.is;split<;>omega
def Ms.ns(m:Ms):List Nat:=[m.kind.toNat,m.aR.toNat,m.to.toNat,m.slot.toNat,m.bU.toNat,m.cu.toNat,m.dw.toNat,m.dR.toNat,m.is]
def Ms.inside(m:Ms):List UInt8:=je m.ns m.val
def Ms.bytes(m:Ms):List UInt8:=put m.inside
def sh:List Int:=replicate 9 1099511627776
theorem FG:∀m∈sh,m≤9223372036854775807:=by unfold sh;simp
theorem Ms.bL.fits{m:Ms}(h:m.bL):Fits m.ns sh:=by
 have h1:=h.kind;have h2:=h.aR;have h3:=h.to;have h4:=h.slot;have h5:=h.bU;have h6:=h.cu;have h7:=h.dw;have h8:=h.dR;have h9:=m.is_le
 unfold Ms.ns sh
 refine⟨?_,?_,?_,?_,?_,?_,?_,?_,?_,trivial⟩<;>omega
theorem Ms.bL.U{m:Ms}(h:m.bL):∀n∈m.ns,gG n:=by
 have h1:=h.kind;have h2:=h.aR;have h3:=h.to;have h4:=h.slot;have h5:=h.bU;have h6:=h.cu;have h7:=h.dw;have h8:=h.dR;have h9:=m.is_le
 intro n hn
 simp only[Ms.ns,mem_cons,not_mem_nil,or_false]at hn
 unfold gG
 rcases hn with rfl|rfl|rfl|rfl|rfl|rfl|rfl|rfl|rfl<;>omega
theorem Ms.bL.QA{m:Ms}(h:m.bL):m.inside.length≤2200:=by
 have:=vf h.U h.val
 have:=h.val
 have:m.ns.length=9:=rfl
 unfold Ms.inside
 omega
theorem Ms.bL.len{m:Ms}(h:m.bL):m.bytes.length≤2208:=by
 have:=h.QA
 unfold Ms.bytes
 rw[fF];omega
def uq(b:List UInt8)(m:Ms):Prop:=m.bL∧m.inside=b
theorem uq.inj{b:List UInt8}{m m':Ms}(h:uq b m)(h':uq b m'):m=m':=by
 obtain⟨e1,e2⟩:=rL FG h.1.fits h'.1.fits h.1.val h'.1.val (h.2.trans h'.2.symm)
 have h1:=h.1.kind;have h2:=h.1.aR;have h3:=h.1.to;have h4:=h.1.slot;have h5:=h.1.bU;have h6:=h.1.cu;have h7:=h.1.dw;have h8:=h.1.dR
 have k1:=h'.1.kind;have k2:=h'.1.aR;have k3:=h'.1.to;have k4:=h'.1.slot;have k5:=h'.1.bU;have k6:=h'.1.cu;have k7:=h'.1.dw;have k8:=h'.1.dR
 obtain⟨a,b,c,d,e,f,g,i,s,v⟩:=m
 obtain⟨a',b',c',d',e',f',g',i',s',v'⟩:=m'
 simp only[Ms.ns,Ms.is,List.cons.injEq,and_true]at e1 e2 h1 h2 h3 h4 h5 h6 h7 h8 k1 k2 k3 k4 k5 k6 k7 k8
 obtain⟨q1,q2,q3,q4,q5,q6,q7,q8,q9⟩:=e1
 subst e2
 obtain rfl:a=a':=by omega
 obtain rfl:b=b':=by omega
 obtain rfl:c=c':=by omega
 obtain rfl:d=d':=by omega
 obtain rfl:e=e':=by omega
 obtain rfl:f=f':=by omega
 obtain rfl:g=g':=by omega
 obtain rfl:i=i':=by omega
 obtain rfl:s=s':=by cases s<;>cases s'<;>simp at q9<;>rfl
 rfl
def Ms.of(n1 n2 n3 n4 n5 n6 n7 n8 n9:Nat)(v:List UInt8):Ms:=⟨n1,n2,n3,n4,n5,n6,n7,n8,decide (n9=1),v⟩
theorem Ch{b:List UInt8}{n1 n2 n3 n4 n5 n6 n7 n8 n9:Nat}{v:List UInt8}(h:body b sh=some ([n1,n2,n3,n4,n5,n6,n7,n8,n9],v)) :
  (n9≤1→(Ms.of n1 n2 n3 n4 n5 n6 n7 n8 n9 v).inside=b)∧∀m,uq b m→n9≤1∧m=Ms.of n1 n2 n3 n4 n5 n6 n7 n8 n9 v:=by
 obtain⟨h1,h2,h3⟩:=IZ h
 refine⟨fun h9=>?_,fun m hm=>?_⟩
 ·have e9:(Ms.of n1 n2 n3 n4 n5 n6 n7 n8 n9 v).is=n9:=by
   have:n9=0∨n9=1:=by omega
   rcases this with rfl|rfl<;>rfl
  rw[h3]
  have:(Ms.of n1 n2 n3 n4 n5 n6 n7 n8 n9 v).ns= [n1,n2,n3,n4,n5,n6,n7,n8,n9]:=by
   unfold Ms.ns;rw[e9];rfl
  unfold Ms.inside;rw[this];rfl
 ·obtain⟨e1,e2⟩:=rL FG hm.1.fits h1 hm.1.val h2 (hm.2.trans h3)
  have h1:=hm.1.kind;have h2:=hm.1.aR;have h3:=hm.1.to;have h4:=hm.1.slot;have h5:=hm.1.bU;have h6:=hm.1.cu;have h7:=hm.1.dw;have h8:=hm.1.dR
  have h9:=m.is_le
  obtain⟨a,b,c,d,e,f,g,i,s,v'⟩:=m
  simp only[Ms.ns,List.cons.injEq,and_true]at e1 e2 h1 h2 h3 h4 h5 h6 h7 h8
  obtain⟨q1,q2,q3,q4,q5,q6,q7,q8,q9⟩:=e1
  subst e2
  refine⟨by omega,?_⟩
  unfold Ms.of
  congr 1
  any_goals omega
  rw[←q9];unfold Ms.is;cases s<;>simp
theorem rI{b:List UInt8}(h:body b sh=none):∀m,¬ uq b m:=fun _m hm=>wh FG h hm.1.fits hm.1.val hm.2.symm
open Classical in
noncomputable def pF (b:List UInt8):Option Ms:=if h:∃m,uq b m then some h.choose else none
theorem Ck{b:List UInt8}{m:Ms}(h:uq b m):pF b=some m:=by
 have hx:∃m,uq b m:=⟨m,h⟩
 unfold pF
 rw[dif_pos hx,hx.choose_spec.inj h]
theorem px{b:List UInt8}(h:∀m,¬ uq b m):pF b=none:=by
 unfold pF
 rw[dif_neg (fun⟨m,hm⟩=>h m hm)]
def Whole(b:List UInt8):Prop:=fst b=(b.length-8,0)∧8≤b.length
theorem NJ{b:List UInt8}(h:b.length≤4096):Whole (put b):=by
 have:=IW h []
 rw[append_nil]at this
 refine⟨by rw[this,fF];simp,by rw[fF];omega⟩
theorem Whole.put{b:List UInt8}(h:Whole b):b=put (b.drop 8):=by
 have:=(sg h.1).2.2
 rw[take_of_length_le (l:=b.drop 8) (by simp),drop_of_length_le (l:=b) (i:=8+(b.length-8)) (by have:=h.2;omega),append_nil]at this
 exact this
theorem NI{b:List UInt8}{n:Nat}(h:fst b=(n,0))(hr:b.drop (8+n)≠[]):¬ Whole b:=fun hw=>by
 rw[hw.1]at h
 simp only[Prod.mk.injEq,and_true]at h
 subst h
 exact hr (drop_of_length_le (by have:=hw.2;omega))
theorem Kn{b:List UInt8}(h:(fst b).2≠0):¬ Whole b:=fun hw=>by rw[hw.1]at h;exact h rfl
theorem TY{b b':List UInt8}(h:put b=put b'):b=b':=by
 have:=congrArg (List.drop 8) h
 simpa[put,four]using this
