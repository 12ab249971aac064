/- Merged: PlainWire, PlainCrc, PlainFrame, PlainRead, PlainBack, PlainCmd, PlainNums, PlainNet, PlainAlog, PlainSite. -/
import Derived.WalkKit
import Derived.Laws.BitsAllLaws
import Derived.Laws.BitsLemmas
set_option linter.all false
namespace Agio
open Go
def leb (n:Nat):List UInt8:=if n < 128 then [UInt8.ofNat n] else UInt8.ofNat (n % 128 + 128) :: leb (n / 128)
termination_by n
decreasing_by omega
theorem leb_lt {n:Nat} (h:n < 128):leb n= [UInt8.ofNat n]:=by rw [leb,if_pos h]
theorem leb_ge {n:Nat} (h:128≤n):leb n=UInt8.ofNat (n % 128 + 128) :: leb (n / 128):=by rw [leb,if_neg (by omega)]
theorem leb_len_pow (k:Nat):∀n,n < 128 ^ (k + 1)→(leb n).length≤k + 1:=by
 induction k with
 | zero=>intro n h;rw [leb_lt (by simpa using h)];simp
 | succ k ih=>
  intro n h
  by_cases h1:n < 128
  ·rw [leb_lt h1];simp
  ·rw [leb_ge (by omega)]
   have:n / 128 < 128 ^ (k + 1):=by
    rw [Nat.pow_succ] at h
    exact Nat.div_lt_of_lt_mul (by omega)
   have:=ih _ this
   simp;omega
theorem leb_pos (n:Nat):0 < (leb n).length:=by
 by_cases h:n < 128
 ·rw [leb_lt h];simp
 ·rw [leb_ge (by omega)];simp
def U64 (n:Nat):Prop:=n < 18446744073709551616
theorem leb_len {n:Nat} (h:U64 n):(leb n).length≤10:=leb_len_pow 9 n (by unfold U64 at h;omega)
theorem U64.le {n m:Nat} (h:U64 n) (hm:m≤n):U64 m:=Nat.lt_of_le_of_lt hm h
theorem U64.small {n:Nat} (h:n < 9223372036854775808):U64 n:=by unfold U64;omega
theorem u64_wrap {m:Int} (h0:0≤m) (h:U64 m.toNat):IntKind.u64.wrap m=m:=by
 rw [IntKind.wrap_u64];unfold U64 at h;omega
theorem u64_low7 {m:Int} (h0:0≤m) (h:U64 m.toNat):bits .and .u64 m 127=m % 128:=by
 unfold U64 at h
 rw [u64_and m 127 h0 (by omega) (by omega) (by omega)]
 rw [show (127:Int).toNat=127 from rfl,nat_mask7];omega
theorem u8_hi {x:Int} (h0:0≤x) (h:x < 128):bits .or .u8 x 128=x + 128:=by
 rw [u8_or x 128 h0 (by omega) (by omega) (by omega),show (128:Int).toNat=128 from rfl,Nat.or_comm,nat_join 7 128 x.toNat (by decide) (by omega)]
 omega
theorem leb_byte {m:Int} (h0:0≤m) (h:U64 m.toNat):bits .or .u8 (bits .and .u64 m 127 % 256) 128=((m.toNat % 128 + 128:Nat):Int):=by
 rw [u64_low7 h0 h,show m % 128 % 256=m % 128 by omega,u8_hi (by omega) (by omega)];omega
def I64 (n:Int):Prop:=-9223372036854775808≤n∧n≤9223372036854775807
end Agio
namespace Agio
open Go
def U32 (n:Nat):Prop:=n < 4294967296
def bit1 (w:Nat):Nat:=if w % 2=1 then (w / 2) ^^^ 3988292384 else w / 2
def bitN:Nat→Nat→Nat
 | 0,w=>w
 | n + 1,w=>bit1 (bitN n w)
def crcB (w:Nat) (c:UInt8):Nat:=bitN 8 (w ^^^ c.toNat)
def crcW (w:Nat) (l:List UInt8):Nat:=l.foldl crcB w
def more (s:Nat) (l:List UInt8):Nat:=crcW (s ^^^ 4294967295) l ^^^ 4294967295
theorem U32.xor {a b:Nat} (ha:U32 a) (hb:U32 b):U32 (a ^^^ b):=Nat.xor_lt_two_pow (n:=32) ha hb
theorem U32.byte (c:UInt8):U32 c.toNat:=by have:=c.toNat_lt;unfold U32;omega
theorem U32.half {a:Nat} (h:U32 a):U32 (a / 2):=by unfold U32 at *;omega
theorem U32.all:U32 4294967295:=by unfold U32;omega
theorem U32.pol:U32 3988292384:=by unfold U32;omega
theorem U32.zero:U32 0:=by unfold U32;omega
theorem bit1_U32 {w:Nat} (h:U32 w):U32 (bit1 w):=by
 unfold bit1;split
 ·exact h.half.xor U32.pol
 ·exact h.half
theorem bitN_U32 {w:Nat} (h:U32 w):∀n,U32 (bitN n w)
 | 0=>h
 | n + 1=>bit1_U32 (bitN_U32 h n)
theorem crcB_U32 {w:Nat} (h:U32 w) (c:UInt8):U32 (crcB w c):=bitN_U32 (h.xor (U32.byte c)) 8
theorem crcW_U32 {w:Nat} (h:U32 w) (l:List UInt8):U32 (crcW w l):=by
 unfold crcW
 induction l generalizing w with
 | nil=>exact h
 | cons c l ih=>exact ih (crcB_U32 h c)
theorem more_U32 {s:Nat} (h:U32 s) (l:List UInt8):U32 (more s l):=(crcW_U32 (h.xor U32.all) l).xor U32.all
theorem crcW_take {w:Nat} {l:List UInt8} {k:Nat} (h:k < l.length):crcW w (l.take (k + 1))=crcB (crcW w (l.take k)) l[k]:=by
 unfold crcW
 rw [List.take_succ_eq_append_getElem h,List.foldl_append];rfl
theorem bits_odd {x:Nat} (h:U32 x) (ho:x % 2=1):(bits .and .u32 (x:Int) 1 == 1)=true:=by
 rw [show (1:Int)=((1:Nat):Int) from rfl,u32_and_nat x 1 h (by omega),nat_mask1,ho];rfl
theorem bits_even {x:Nat} (h:U32 x) (ho:¬ x % 2=1):(bits .and .u32 (x:Int) 1 == 1)=false:=by
 rw [show (1:Int)=((1:Nat):Int) from rfl,u32_and_nat x 1 h (by omega),nat_mask1,show x % 2=0 by omega];rfl
theorem bits_pol {x:Nat} (h:U32 x) (ho:x % 2=1):bits .xor .u32 ((x:Int) / 2) 3988292384=((bit1 x:Nat):Int):=by
 unfold bit1
 rw [if_pos ho,show ((x:Int) / 2)=((x / 2:Nat):Int) by omega,show (3988292384:Int)=((3988292384:Nat):Int) from rfl,u32_xor_nat _ _ h.half U32.pol]
theorem bits_half {x:Nat} (ho:¬ x % 2=1):(x:Int) / 2=((bit1 x:Nat):Int):=by
 unfold bit1;rw [if_neg ho];omega
theorem bits_byte {m:Nat} (h:U32 m) (c:UInt8):bits .xor .u32 (m:Int) ((c.toNat:Int) % 4294967296)=((m ^^^ c.toNat:Nat):Int):=by
 have:=U32.byte c
 rw [show (c.toNat:Int) % 4294967296=((c.toNat:Nat):Int) by unfold U32 at this;omega,u32_xor_nat _ _ h this]
theorem bits_compl {m:Nat} (h:U32 m):bits .xor .u32 (if IntKind.u32.signed=true then -1 else IntKind.u32.max) (m:Int)=((m ^^^ 4294967295:Nat):Int):=by
 rw [show (if IntKind.u32.signed=true then -1 else IntKind.u32.max)=((4294967295:Nat):Int) from rfl,u32_xor_nat _ _ U32.all h,Nat.xor_comm]
end Agio
namespace Agio
open Go
def four (n:Nat):List UInt8:=[UInt8.ofNat n,UInt8.ofNat (n / 256),UInt8.ofNat (n / 65536),UInt8.ofNat (n / 16777216)]
def num4 (l:List UInt8):Nat:=(l.getD 0 0).toNat + 256 * (l.getD 1 0).toNat + 65536 * (l.getD 2 0).toNat + 16777216 * (l.getD 3 0).toNat
def fsum (z b:List UInt8):Nat:=more (more 0 z) b
def put (b:List UInt8):List UInt8:=four b.length ++ four (fsum (four b.length) b) ++ b
def fst (b:List UInt8):Nat × Nat:=
 if b.length < 8 then (0,3) else if 4096 < num4 b then (0,5) else if b.length - 8 < num4 b then (0,3)
 else if num4 (b.drop 4)≠fsum (b.take 4) ((b.drop 8).take (num4 b)) then (0,4) else (num4 b,0)
@[simp] theorem four_len (n:Nat):(four n).length=4:=rfl
theorem num4_U32 (l:List UInt8):U32 (num4 l):=by
 unfold num4 U32
 have h0:=(l.getD 0 0).toNat_lt
 have h1:=(l.getD 1 0).toNat_lt
 have h2:=(l.getD 2 0).toNat_lt
 have h3:=(l.getD 3 0).toNat_lt
 omega
theorem num4_four {n:Nat} (h:U32 n) (r:List UInt8):num4 (four n ++ r)=n:=by
 unfold U32 at h
 simp [four,num4]
 omega
theorem four_of {a b c d:UInt8} :four (num4 [a,b,c,d])= [a,b,c,d]:=by
 have h0:=a.toNat_lt
 have h1:=b.toNat_lt
 have h2:=c.toNat_lt
 have h3:=d.toNat_lt
 have e:num4 [a,b,c,d]=a.toNat + 256 * b.toNat + 65536 * c.toNat + 16777216 * d.toNat:=rfl
 unfold four
 rw [e]
 have f:∀(x:UInt8) (n:Nat),n % 256=x.toNat→UInt8.ofNat n=x:=fun x n h=>by
  apply UInt8.toNat_inj.1;rw [UInt8.toNat_ofNat'];omega
 rw [f a _ (by omega),f b _ (by omega),f c _ (by omega),f d _ (by omega)]
theorem four_split {l:List UInt8} (h:4≤l.length):l=four (num4 l) ++ l.drop 4:=by
 match l,h with
 | a :: b :: c :: d :: r,_=>
  have e:num4 (a :: b :: c :: d :: r)=num4 [a,b,c,d]:=rfl
  rw [e,four_of];rfl
theorem take4 {l:List UInt8} (h:4≤l.length):l.take 4=four (num4 l):=by
 conv=>lhs;rw [four_split h]
 rw [List.take_append_of_le_length (by simp)];simp [four]
theorem fsum_U32 (z b:List UInt8):U32 (fsum z b):=more_U32 (more_U32 U32.zero _) _
@[simp] theorem put_len (b:List UInt8):(put b).length=8 + b.length:=by simp [put];omega
theorem put_drop8 (b r:List UInt8):(put b ++ r).drop 8=b ++ r:=by simp [put,four]
theorem fst_put {b:List UInt8} (h:b.length≤4096) (r:List UInt8):fst (put b ++ r)=(b.length,0):=by
 have hU:U32 b.length:=by unfold U32;omega
 have e1:num4 (put b ++ r)=b.length:=by unfold put;rw [List.append_assoc,List.append_assoc];exact num4_four hU _
 have e2:num4 ((put b ++ r).drop 4)=fsum (four b.length) b:=by
  have:(put b ++ r).drop 4=four (fsum (four b.length) b) ++ (b ++ r):=by simp [put,four]
  rw [this];exact num4_four (fsum_U32 _ _) _
 have e3:(put b ++ r).take 4=four b.length:=by rw [take4 (by simp;omega),e1]
 have hl:(put b ++ r).length=8 + b.length + r.length:=by simp
 unfold fst
 rw [if_neg (by omega),e1,if_neg (by omega),if_neg (by omega),e2,e3,put_drop8,List.take_left',if_neg (by simp)]
 rfl
theorem fst_bad {b:List UInt8} (h:(fst b).2≠0):(fst b).1=0∧((fst b).2=3∨(fst b).2=4∨(fst b).2=5):=by
 unfold fst at h ⊢
 split
 ·simp
 ·split
  ·simp
  ·split
   ·simp
   ·split
    ·simp
    ·rename_i h1 h2 h3 h4;rw [if_neg h1,if_neg h2,if_neg h3,if_neg h4] at h;simp at h
theorem fst_ok {b:List UInt8} {n:Nat} (h:fst b=(n,0)):n≤4096∧8 + n≤b.length∧b=put ((b.drop 8).take n) ++ b.drop (8 + n):=by
 unfold fst at h
 split at h
 ·simp at h
 ·split at h
  ·simp at h
  ·split at h
   ·simp at h
   ·split at h
    ·simp at h
    ·rename_i h1 h2 h3 h4
     simp only [Prod.mk.injEq,and_true] at h
     subst h
     refine ⟨by omega,by omega,?_⟩
     have hl:((b.drop 8).take (num4 b)).length=num4 b:=by rw [List.length_take,List.length_drop];omega
     have e1:=four_split (l:=b) (by omega)
     have e2:=four_split (l:=b.drop 4) (by rw [List.length_drop];omega)
     have h5:num4 (b.drop 4)=fsum (b.take 4) ((b.drop 8).take (num4 b)):=Classical.not_not.1 h4
     rw [take4 (by omega)] at h5
     unfold put
     rw [hl,←h5,List.append_assoc,List.append_assoc]
     conv=>lhs;rw [e1,e2]
     congr 2
     rw [List.drop_drop]
     conv=>lhs;rw [←List.take_append_drop (num4 b) (b.drop (4 + 4))]
     rw [List.drop_drop]
theorem fst_torn {b:List UInt8} (h:b.length≤4096) {k:Nat} (hk:k < 8 + b.length):fst ((put b).take k)=(0,3):=by
 have hU:U32 b.length:=by unfold U32;omega
 have hl:((put b).take k).length=k:=by rw [List.length_take,put_len];omega
 by_cases h8:k < 8
 ·unfold fst;rw [if_pos (by omega)]
 ·have e:num4 ((put b).take k)=b.length:=by
   have:(put b).take k=four b.length ++ (four (fsum (four b.length) b) ++ b).take (k - 4):=by
    unfold put;rw [List.append_assoc,List.take_append,List.take_of_length_le (by simp;omega)];simp
   rw [this];exact num4_four hU _
  unfold fst
  rw [if_neg (by omega),e,if_neg (by omega),if_pos (by omega)]
theorem or_up {a b i:Nat} (h:a < 2 ^ i) (hb:b % 2 ^ i=0) (hU:U32 (a + b)):bits .or .u32 (a:Int) (b:Int)=((a + b:Nat):Int):=by
 unfold U32 at hU
 rw [u32_or_nat a b (by omega) (by omega),Nat.or_comm,nat_join i b a hb h,Nat.add_comm]
theorem or4 {x0 x1 x2 x3 m:Nat} (h0:x0 < 256) (h1:x1 < 256) (h2:x2 < 256) (h3:x3 < 256) (hm:m=x0 + 256 * x1 + 65536 * x2 + 16777216 * x3) :
  bits .or .u32 (bits .or .u32 (bits .or .u32 ((x0:Int) % 4294967296) ((x1:Int) % 4294967296 * 256 % 4294967296)) ((x2:Int) % 4294967296 * 65536 % 4294967296)) ((x3:Int) % 4294967296 * 16777216 % 4294967296)=((m:Nat):Int):=by
 have e0:(x0:Int) % 4294967296=((x0:Nat):Int):=by omega
 have e1:(x1:Int) % 4294967296 * 256 % 4294967296=((256 * x1:Nat):Int):=by omega
 have e2:(x2:Int) % 4294967296 * 65536 % 4294967296=((65536 * x2:Nat):Int):=by omega
 have e3:(x3:Int) % 4294967296 * 16777216 % 4294967296=((16777216 * x3:Nat):Int):=by omega
 rw [e0,e1,e2,e3,or_up (i:=8) (by omega) (by omega) (by unfold U32;omega),or_up (i:=16) (by omega) (by omega) (by unfold U32;omega),or_up (i:=24) (by omega) (by omega) (by unfold U32;omega),hm]
theorem num4_get {b:List UInt8} (h:4≤b.length):num4 b=b[0].toNat + 256 * b[1].toNat + 65536 * b[2].toNat + 16777216 * b[3].toNat:=by
 match b,h with
 | _ :: _ :: _ :: _ :: _,_=>rfl
theorem four_ne {x y:Nat} (hx:U32 x) (hy:U32 y) (h:y≠x):(!(((y:Int) % 256 == (x:Int) % 256) && (((y:Int) / 256 % 256 == (x:Int) / 256 % 256) && (((y:Int) / 65536 % 256 == (x:Int) / 65536 % 256) && ((y:Int) / 16777216 % 256 == (x:Int) / 16777216 % 256)))))=true:=by
 unfold U32 at hx hy
 rw [Bool.not_eq_true',Bool.eq_false_iff]
 intro hh
 simp only [Bool.and_eq_true,beq_iff_eq] at hh
 omega
theorem four_get {y:Nat} {a b c d:UInt8} (h:four y= [a,b,c,d]):(a.toNat:Int)=(y:Int) % 256∧(b.toNat:Int)=(y:Int) / 256 % 256∧(c.toNat:Int)=(y:Int) / 65536 % 256∧(d.toNat:Int)=(y:Int) / 16777216 % 256:=by
 simp only [four,List.cons.injEq,and_true] at h
 obtain ⟨rfl,rfl,rfl,rfl⟩:=h
 simp
def scan (b:List UInt8):List (List UInt8) × Nat:=
 if (fst b).2=0 then
  if b.length < 8 then ([],0) else ((b.drop 8).take (fst b).1 :: (scan (b.drop (8 + (fst b).1))).1,8 + (fst b).1 + (scan (b.drop (8 + (fst b).1))).2)
 else ([],0)
termination_by b.length
decreasing_by all_goals (rw [List.length_drop];omega)
theorem scan_no {b:List UInt8} (h:(fst b).2≠0):scan b=([],0):=by rw [scan,if_neg h]
theorem scan_yes {b:List UInt8} {n:Nat} (h:fst b=(n,0)):scan b=((b.drop 8).take n :: (scan (b.drop (8 + n))).1,8 + n + (scan (b.drop (8 + n))).2):=by
 have:=fst_ok h
 rw [scan,h,if_pos rfl,if_neg (by omega)]
theorem scan_put {b:List UInt8} (h:b.length≤4096) (r:List UInt8):scan (put b ++ r)=(b :: (scan r).1,8 + b.length + (scan r).2):=by
 rw [scan_yes (fst_put h r),put_drop8,List.take_left']
 ·have:(put b ++ r).drop (8 + b.length)=r:=by rw [←put_len b,List.drop_left'];rfl
  rw [this]
 ·rfl
theorem scan_nil:scan []=([],0):=scan_no (by unfold fst;simp)
theorem scan_ok (b:List UInt8):(scan b).2≤b.length∧b.take (scan b).2=(scan b).1.flatMap put∧∀x∈(scan b).1,x.length≤4096:=by
 induction hn:b.length using Nat.strongRecOn generalizing b with
 | _ n ih=>
  subst hn
  by_cases h:(fst b).2=0
  ·obtain ⟨m,hm⟩:∃m,fst b=(m,0):=⟨(fst b).1,by rw [←h]⟩
   obtain ⟨h1,h2,h3⟩:=fst_ok hm
   obtain ⟨i1,i2,i3⟩:=ih (b.drop (8 + m)).length (by rw [List.length_drop];omega) _ rfl
   rw [scan_yes hm]
   refine ⟨by rw [List.length_drop] at i1;simp only;omega,?_,fun x hx=>?_⟩
   ·have hl:(put ((b.drop 8).take m)).length=8 + m:=by rw [put_len,List.length_take,List.length_drop];omega
    simp only [List.flatMap_cons]
    rw [←i2]
    generalize (scan (b.drop (8 + m))).2=z
    conv=>lhs;rw [h3]
    rw [List.take_append,hl,List.take_of_length_le (by omega)]
    congr 2;omega
   ·rcases List.mem_cons.1 hx with rfl | hx
    ·rw [List.length_take];omega
    ·exact i3 x hx
  ·rw [scan_no h];simp
theorem scan_torn {l:List (List UInt8)} (h:∀b∈l,b.length≤4096) (k:Nat) (hk:k≤(l.flatMap put).length) :
  ∃m,m≤l.length∧(scan ((l.flatMap put).take k)).1=l.take m∧(scan ((l.flatMap put).take k)).2=((l.take m).flatMap put).length∧((l.take m).flatMap put).length≤k∧(∀(hm:m < l.length),k < ((l.take m).flatMap put).length + (put l[m]).length):=by
 induction l generalizing k with
 | nil=>simp at hk;subst hk;exact ⟨0,by simp,by simp [scan_nil],by simp [scan_nil],by simp,by simp⟩
 | cons b l ih=>
  have hb:=h b (by simp)
  by_cases hlt:k < 8 + b.length
  ·refine ⟨0,by simp,?_,?_,by simp,fun _=>by simpa using hlt⟩ <;>
   ·rw [List.flatMap_cons,List.take_append_of_le_length (by rw [put_len];omega),scan_no (by rw [fst_torn hb hlt];simp)];simp
  ·rw [List.flatMap_cons,List.length_append,put_len] at hk
   obtain ⟨m,h1,h2,h3,h4,h5⟩:=ih (fun c hc=>h c (by simp [hc])) (k - (8 + b.length)) (by omega)
   have e:((b :: l).flatMap put).take k=put b ++ (l.flatMap put).take (k - (8 + b.length)):=by
    rw [List.flatMap_cons,List.take_append,put_len,List.take_of_length_le (by rw [put_len];omega)]
   refine ⟨m + 1,by simp;omega,?_,?_,?_,?_⟩
   ·rw [e,scan_put hb,h2];simp
   ·rw [e,scan_put hb,h3];simp
   ·simp only [List.take_succ_cons,List.flatMap_cons,List.length_append,put_len];omega
   ·intro hm
    have:=h5 (by simpa using hm)
    simp only [List.take_succ_cons,List.flatMap_cons,List.length_append,put_len,List.getElem_cons_succ] at this ⊢;omega
end Agio
namespace Agio
open Go
def uvA (i acc:Nat):List UInt8→Nat × Nat × Nat
 | []=>(0,0,3)
 | c :: r=>
  if i=9∧1 < c.toNat then (0,0,2)
  else if 128≤c.toNat then uvA (i + 1) (acc + c.toNat % 128 * 128 ^ i) r
  else if c.toNat=0∧0 < i then (0,0,2)
  else (acc + c.toNat * 128 ^ i,i + 1,0)
def uv (l:List UInt8):Nat × Nat × Nat:=uvA 0 0 l
theorem two_pow_seven (i:Nat):(2:Int) ^ (7 * i)=((128 ^ i:Nat):Int):=by
 rw [Int.pow_mul];simp
theorem acc_byte {i acc cn:Nat} (hi:i≤9) (hacc:acc < 128 ^ i) (hcn:cn < 256) (h9:i=9→cn≤1) :
  bits .or .u64 (acc:Int) (IntKind.u64.wrap (IntKind.u64.wrap (bits .and .u8 (cn:Int) 127) * 2 ^ (7 * i)))=((acc + cn % 128 * 128 ^ i:Nat):Int):=by
 have h1:bits .and .u8 (cn:Int) 127=((cn % 128:Nat):Int):=by
  have:=u8_and_nat cn 127 hcn (by omega)
  rw [nat_mask7] at this;exact this
 have hp:128 ^ i≤128 ^ 9:=Nat.pow_le_pow_right (by omega) hi
 have hx:cn % 128 * 128 ^ i < 18446744073709551616:=by
  by_cases h:i=9
  ·subst h;have:=h9 rfl;have:cn % 128≤1:=by omega
   have:=Nat.mul_le_mul_right (128 ^ 9) this
   omega
  ·have:128 ^ i≤128 ^ 8:=Nat.pow_le_pow_right (by omega) (by omega)
   have:cn % 128 * 128 ^ i≤127 * 128 ^ 8:=Nat.mul_le_mul (by omega) this
   omega
 rw [h1,two_pow_seven,u64_wrap (m:=((cn % 128:Nat):Int)) (by omega) (by unfold U64;omega)]
 rw [show ((cn % 128:Nat):Int) * ((128 ^ i:Nat):Int)=((cn % 128 * 128 ^ i:Nat):Int) by rw [Int.natCast_mul]]
 rw [u64_wrap (by omega) (by unfold U64;omega),u64_or_nat acc _ (by omega) hx]
 congr 1
 rw [Nat.or_comm,nat_join (7 * i) _ acc (by rw [Nat.pow_mul];simp) (by rw [Nat.pow_mul];simpa using hacc)]
 omega
theorem acc_lt {i acc cn:Nat} (hacc:acc < 128 ^ i):acc + cn % 128 * 128 ^ i < 128 ^ (i + 1):=by
 have:cn % 128 * 128 ^ i≤127 * 128 ^ i:=Nat.mul_le_mul_right _ (by omega)
 rw [Nat.pow_succ];omega
theorem uvA_more {i acc:Nat} {c:UInt8} {r:List UInt8} (h9:¬ (i=9∧1 < c.toNat)) (h:128≤c.toNat):uvA i acc (c :: r)=uvA (i + 1) (acc + c.toNat % 128 * 128 ^ i) r:=by
 rw [uvA,if_neg h9,if_pos h]
theorem uvA_nine {i acc:Nat} {c:UInt8} {r:List UInt8} (hi:i=9) (h:1 < c.toNat):uvA i acc (c :: r)=(0,0,2):=by
 rw [uvA,if_pos ⟨hi,h⟩]
theorem uvA_zero {i acc:Nat} {c:UInt8} {r:List UInt8} (h:c.toNat=0) (hi:0 < i):uvA i acc (c :: r)=(0,0,2):=by
 rw [uvA,if_neg (by omega),if_neg (by omega),if_pos ⟨h,hi⟩]
theorem uvA_last {i acc:Nat} {c:UInt8} {r:List UInt8} (h9:¬ (i=9∧1 < c.toNat)) (h:c.toNat < 128) (h0:¬ (c.toNat=0∧0 < i)):uvA i acc (c :: r)=(acc + c.toNat % 128 * 128 ^ i,i + 1,0):=by
 rw [uvA,if_neg h9,if_neg (by omega),if_neg h0,Nat.mod_eq_of_lt h]
theorem uvA_facts (l:List UInt8):∀(i acc:Nat),i≤9→acc < 128 ^ i→
  ((uvA i acc l).2.2=0→i < (uvA i acc l).2.1∧(uvA i acc l).2.1≤i + l.length∧(uvA i acc l).2.1≤10∧(uvA i acc l).1 < 18446744073709551616)∧
  ((uvA i acc l).2.2≠0→(uvA i acc l).1=0∧(uvA i acc l).2.1=0∧((uvA i acc l).2.2=2∨(uvA i acc l).2.2=3)):=by
 induction l with
 | nil=>intro i acc hi h;simp [uvA]
 | cons c r ih=>
  intro i acc hi hacc
  by_cases h9:i=9∧1 < c.toNat
  ·rw [uvA_nine h9.1 h9.2];simp
  ·by_cases h:128≤c.toNat
   ·rw [uvA_more h9 h]
    have:=ih (i + 1) (acc + c.toNat % 128 * 128 ^ i) (by omega) (acc_lt hacc)
    refine ⟨fun hb=>?_,this.2⟩
    have:=this.1 hb
    simp only [List.length_cons]
    omega
   ·by_cases h0:c.toNat=0∧0 < i
    ·rw [uvA_zero h0.1 h0.2];simp
    ·rw [uvA_last h9 (by omega) h0]
     refine ⟨fun _=>?_,by simp⟩
     simp only [List.length_cons]
     refine ⟨by omega,by omega,by omega,?_⟩
     by_cases hi9:i=9
     ·subst hi9
      have:c.toNat % 128≤1:=by omega
      have:=Nat.mul_le_mul_right (128 ^ 9) this
      omega
     ·have:=acc_lt (cn:=c.toNat) hacc
      have h2:128 ^ (i + 1)≤128 ^ 9:=Nat.pow_le_pow_right (by omega) (by omega)
      omega
theorem uv_ok {l:List UInt8} (h:(uv l).2.2=0):0 < (uv l).2.1∧(uv l).2.1≤l.length∧(uv l).2.1≤10∧U64 (uv l).1:=by
 have:=(uvA_facts l 0 0 (by omega) (by omega)).1 h
 unfold uv U64;omega
theorem uv_bad {l:List UInt8} (h:(uv l).2.2≠0):(uv l).1=0∧(uv l).2.1=0∧((uv l).2.2=2∨(uv l).2.2=3):=(uvA_facts l 0 0 (by omega) (by omega)).2 h
def upt (most:Int) (l:List UInt8):Nat × Nat × Nat:=
 if (uv l).2.2=0 then (if most < 0∨most < ((uv l).1:Int) then (0,0,8) else uv l) else (0,0,(uv l).2.2)
theorem upt_ok {most:Int} {l:List UInt8} (h:(upt most l).2.2=0):(uv l).2.2=0∧upt most l=uv l∧0≤most∧((uv l).1:Int)≤most:=by
 unfold upt at *
 by_cases h1:(uv l).2.2=0
 ·rw [if_pos h1] at h ⊢
  by_cases h2:most < 0∨most < ((uv l).1:Int)
  ·rw [if_pos h2] at h;cases h
  ·rw [if_neg h2];exact ⟨h1,rfl,by omega,by omega⟩
 ·rw [if_neg h1] at h;exact absurd h h1
theorem upt_bad {most:Int} {l:List UInt8} (h:(upt most l).2.2≠0):(upt most l).1=0∧(upt most l).2.1=0:=by
 unfold upt at *
 by_cases h1:(uv l).2.2=0
 ·rw [if_pos h1] at h ⊢
  by_cases h2:most < 0∨most < ((uv l).1:Int)
  ·rw [if_pos h2];simp
  ·rw [if_neg h2] at h;exact absurd h1 h
 ·rw [if_neg h1];simp
def tk (most:Int) (l:List UInt8):List UInt8 × Nat × Nat:=
 if (upt most l).2.2=0 then
  (if l.length - (upt most l).2.1 < (upt most l).1 then ([],0,3) else ((l.drop (upt most l).2.1).take (upt most l).1,(upt most l).2.1 + (upt most l).1,0))
 else ([],0,(upt most l).2.2)
theorem tk_bad {most:Int} {l:List UInt8} {n sz bad:Nat} (h:upt most l=(n,sz,bad)) (h0:bad≠0):tk most l=([],0,bad):=by
 unfold tk;rw [h];simp [h0]
theorem tk_short {most:Int} {l:List UInt8} {n sz:Nat} (h:upt most l=(n,sz,0)) (h0:l.length - sz < n):tk most l=([],0,3):=by
 unfold tk;rw [h];simp [h0]
theorem tk_ok {most:Int} {l:List UInt8} {n sz:Nat} (h:upt most l=(n,sz,0)) (h0:¬ l.length - sz < n):tk most l=((l.drop sz).take n,sz + n,0):=by
 unfold tk;rw [h];simp [h0]
end Agio
namespace Agio
open Go
theorem uvA_once (l:List UInt8):∀(i acc n k:Nat),uvA i acc l=(n,k,0)→∃m,n=acc + m * 128 ^ i∧i < k∧l.take (k - i)=leb m∧(0 < i→0 < m):=by
 induction l with
 | nil=>intro i acc n k h;simp [uvA] at h
 | cons c r ih=>
  intro i acc n k h
  have hc:=c.toNat_lt
  by_cases h9:i=9∧1 < c.toNat
  ·rw [uvA_nine h9.1 h9.2] at h;simp at h
  ·by_cases h1:128≤c.toNat
   ·rw [uvA_more h9 h1] at h
    obtain ⟨m,hn,hk,ht,hm⟩:=ih _ _ _ _ h
    have hm:=hm (by omega)
    refine ⟨c.toNat % 128 + 128 * m,?_,by omega,?_,by omega⟩
    ·rw [hn,Nat.pow_succ,Nat.add_mul]
     have:128 * m * 128 ^ i=m * (128 ^ i * 128):=by rw [Nat.mul_comm 128 m,Nat.mul_assoc,Nat.mul_comm 128]
     omega
    ·rw [leb_ge (by omega),show k - i=(k - (i + 1)) + 1 by omega,List.take_succ_cons,ht]
     congr 1
     ·rw [show (c.toNat % 128 + 128 * m) % 128 + 128=c.toNat by omega]
      exact (UInt8.ofNat_toNat).symm
     ·congr 1;omega
   ·by_cases h0:c.toNat=0∧0 < i
    ·rw [uvA_zero h0.1 h0.2] at h;simp at h
    ·rw [uvA_last h9 (by omega) h0] at h
     simp only [Prod.mk.injEq] at h
     obtain ⟨rfl,rfl,-⟩:=h
     refine ⟨c.toNat,by rw [Nat.mod_eq_of_lt (by omega)],by omega,?_,by omega⟩
     rw [leb_lt (by omega),show i + 1 - i=1 by omega]
     simp
theorem uv_once {l:List UInt8} {n k:Nat} (h:uv l=(n,k,0)):l.take k=leb n:=by
 obtain ⟨m,hn,_,ht,_⟩:=uvA_once l 0 0 n k h
 simp at hn ht
 rw [hn,ht]
theorem uvA_back:∀(m i acc:Nat) (r:List UInt8),i≤9→acc + m * 128 ^ i < 18446744073709551616→(0 < i→0 < m)→uvA i acc (leb m ++ r)=(acc + m * 128 ^ i,i + (leb m).length,0):=by
 intro m
 induction m using Nat.strongRecOn with
 | _ m ih=>
  intro i acc r hi hb h0
  have hp:128 ^ i≤128 ^ 9:=Nat.pow_le_pow_right (by omega) hi
  by_cases h:m < 128
  ·rw [leb_lt h]
   have ht:(UInt8.ofNat m).toNat=m:=by simp;omega
   simp only [List.singleton_append,List.length_singleton]
   rw [uvA_last (by
    rw [ht];rintro ⟨rfl,h1⟩
    have:2 * 128 ^ 9≤m * 128 ^ 9:=Nat.mul_le_mul_right _ (by omega)
    omega) (by omega) (by omega),ht,Nat.mod_eq_of_lt h]
  ·rw [leb_ge (by omega)]
   have ht:(UInt8.ofNat (m % 128 + 128)).toNat=m % 128 + 128:=by simp;omega
   have hm:m * 128 ^ i=m % 128 * 128 ^ i + m / 128 * 128 ^ (i + 1):=by
    rw [Nat.pow_succ,←Nat.mul_assoc,Nat.mul_right_comm,←Nat.add_mul]
    congr 1;omega
   have hi9:¬ i=9:=by
    rintro rfl
    have:128 * 128 ^ 9≤m * 128 ^ 9:=Nat.mul_le_mul_right _ (by omega)
    omega
   rw [List.cons_append,uvA_more (by omega) (by omega),ht,show (m % 128 + 128) % 128=m % 128 by omega,ih (m / 128) (by omega) (i + 1) _ r (by omega) (by omega) (by omega)]
   simp only [List.length_cons,Prod.mk.injEq,and_true]
   omega
theorem uv_back {n:Nat} (h:U64 n) (r:List UInt8):uv (leb n ++ r)=(n,(leb n).length,0):=by
 have:=uvA_back n 0 0 r (by omega) (by unfold U64 at h;omega) (by omega)
 simpa [uv] using this
end Agio
namespace Agio
open Go
theorem drop_take_app {b:List UInt8} {a k:Nat} (_h:k≤(b.drop a).length):b.drop a=(b.drop a).take k ++ b.drop (a + k):=by
 rw [←List.drop_drop,List.take_append_drop]
theorem upt_once {most:Int} {l:List UInt8} {n k:Nat} (h:upt most l=(n,k,0)):l.take k=leb n∧(n:Int)≤most∧k≤l.length:=by
 obtain ⟨h1,h2,_,h4⟩:=upt_ok (most:=most) (l:=l) (by rw [h])
 rw [←h2,h] at h4
 have hu:uv l=(n,k,0):=by rw [←h2];exact h
 have:=(uv_ok h1).2.1
 rw [hu] at this
 exact ⟨uv_once hu,h4,this⟩
theorem upt_back {most:Int} {n:Nat} (r:List UInt8) (h:(n:Int)≤most) (hm:most≤9223372036854775807):upt most (leb n ++ r)=(n,(leb n).length,0):=by
 have hu:=uv_back (n:=n) (by unfold U64;omega) r
 unfold upt
 rw [hu,if_pos rfl,if_neg (by simp only;omega)]
end Agio
namespace Agio
open Go
def nums (b:List UInt8):List Int→Nat→Option (List Nat × Nat)
 | [],a=>some ([],a)
 | m :: ms,a=>if (upt m (b.drop a)).2.2=0 then (nums b ms (a + (upt m (b.drop a)).2.1)).map fun p=>((upt m (b.drop a)).1 :: p.1,p.2) else none
def Fits:List Nat→List Int→Prop
 | [],[]=>True
 | n :: l,m :: ms=>(n:Int)≤m∧Fits l ms
 | _,_=>False
def NumSt (b:List UInt8) (ms:List Int) (l:List Nat) (a:Nat):Prop:=
 nums b ms 0=(nums b (ms.drop l.length) a).map (fun p=>(l ++ p.1,p.2))∧a≤b.length
theorem NumSt.zero (b:List UInt8) (ms:List Int):NumSt b ms [] 0:=⟨by simp [Option.map_id'],by omega⟩
theorem NumSt.more {b:List UInt8} {ms:List Int} {l:List Nat} {a:Nat} (h:NumSt b ms l a) {m:Int} (hm:ms[l.length]? =some m) {n k:Nat} (hu:upt m (b.drop a)=(n,k,0)):NumSt b ms (l ++ [n]) (a + k):=by
 obtain ⟨hlt,e⟩:=List.getElem?_eq_some_iff.1 hm
 obtain ⟨_,_,hk⟩:=upt_once hu
 refine ⟨?_,by rw [List.length_drop] at hk;have:=h.2;omega⟩
 rw [h.1,List.drop_eq_getElem_cons hlt,e]
 simp only [nums,hu,if_true,List.length_append,List.length_cons,List.length_nil,Option.map_map]
 congr 1
 funext p
 simp
theorem NumSt.bad {b:List UInt8} {ms:List Int} {l:List Nat} {a:Nat} (h:NumSt b ms l a) {m:Int} (hm:ms[l.length]? =some m) {n k bad:Nat} (hu:upt m (b.drop a)=(n,k,bad)) (h0:bad≠0):nums b ms 0=none:=by
 obtain ⟨hlt,e⟩:=List.getElem?_eq_some_iff.1 hm
 rw [h.1,List.drop_eq_getElem_cons hlt,e]
 simp only [nums,hu,if_neg h0,Option.map_none]
theorem NumSt.all {b:List UInt8} {ms:List Int} {l:List Nat} {a:Nat} (h:NumSt b ms l a) (hl:l.length=ms.length):nums b ms 0=some (l,a):=by
 rw [h.1,List.drop_of_length_le (by omega)];simp [nums]
theorem nums_ok (b:List UInt8):∀(ms:List Int) (a:Nat) (l:List Nat) (e:Nat),a≤b.length→nums b ms a=some (l,e)→b.drop a=l.flatMap leb ++ b.drop e∧Fits l ms∧l.length=ms.length∧e≤b.length
 | [],a,l,e,ha,h=>by simp [nums] at h;obtain ⟨rfl,rfl⟩:=h;simp [Fits,ha]
 | m :: ms,a,l,e,ha,h=>by
  simp only [nums] at h
  split at h
  ·rename_i h0
   obtain ⟨n,k,bad,hu⟩:∃n k bad,upt m (b.drop a)=(n,k,bad):=⟨_,_,_,rfl⟩
   rw [hu] at h h0
   simp only at h0 h
   subst h0
   obtain ⟨h1,h2,h3⟩:=upt_once hu
   rw [Option.map_eq_some_iff] at h
   obtain ⟨⟨l',e'⟩,hn,he⟩:=h
   simp only [Prod.mk.injEq] at he
   obtain ⟨rfl,rfl⟩:=he
   obtain ⟨i1,i2,i3,i4⟩:=nums_ok b ms (a + k) l' e' (by rw [List.length_drop] at h3;omega) hn
   refine ⟨?_,⟨h2,i2⟩,by simp [i3],i4⟩
   rw [drop_take_app h3,h1,i1];simp
  ·cases h
theorem nums_back (b:List UInt8):∀(ms:List Int) (l:List Nat) (a:Nat) (r:List UInt8),(∀m∈ms,m≤9223372036854775807)→Fits l ms→b.drop a=l.flatMap leb ++ r→nums b ms a=some (l,a + (l.flatMap leb).length)
 | [],[],a,r,_,_,_=>by simp [nums]
 | [],_ :: _,_,_,_,h,_=>h.elim
 | _ :: _,[],_,_,_,h,_=>h.elim
 | m :: ms,n :: l,a,r,hm,h,hb=>by
  rw [List.flatMap_cons,List.append_assoc] at hb
  have hu:=upt_back (l.flatMap leb ++ r) h.1 (hm m (by simp))
  have hd:b.drop (a + (leb n).length)=l.flatMap leb ++ r:=by rw [←List.drop_drop,hb,List.drop_left]
  have ih:=nums_back b ms l (a + (leb n).length) r (fun x hx=>hm x (by simp [hx])) h.2 hd
  simp only [nums,hb,hu,if_true,ih,Option.map_some,List.flatMap_cons,List.length_append,Nat.add_assoc]
def body (b:List UInt8) (ms:List Int):Option (List Nat × List UInt8):=
 match nums b ms 0 with
 | none=>none
 | some p=>if (tk 2048 (b.drop p.2)).2.2=0∧p.2 + (tk 2048 (b.drop p.2)).2.1=b.length then some (p.1,(tk 2048 (b.drop p.2)).1) else none
def bodyB (l:List Nat) (v:List UInt8):List UInt8:=l.flatMap leb ++ (leb v.length ++ v)
theorem tk_once {l:List UInt8} {v:List UInt8} {k:Nat} (h:tk 2048 l=(v,k,0)):l.take k=leb v.length ++ v∧v.length≤2048∧k≤l.length:=by
 obtain ⟨n,sz,bad,hu⟩:∃n sz bad,upt 2048 l=(n,sz,bad):=⟨_,_,_,rfl⟩
 by_cases h0:bad=0
 ·subst h0
  obtain ⟨h1,h2,h3⟩:=upt_once hu
  by_cases hs:l.length - sz < n
  ·rw [tk_short hu hs] at h;simp at h
  ·rw [tk_ok hu hs] at h
   simp only [Prod.mk.injEq,and_true] at h
   obtain ⟨rfl,rfl⟩:=h
   have hl:((l.drop sz).take n).length=n:=by rw [List.length_take,List.length_drop];omega
   refine ⟨?_,by omega,by omega⟩
   rw [hl,←h1]
   conv=>lhs;rw [←List.take_append_drop sz l]
   rw [List.take_append,List.length_take,List.take_of_length_le (by rw [List.length_take];omega)]
   congr 2;omega
 ·rw [tk_bad hu h0] at h;simp at h;exact absurd h.2.2 h0
theorem tk_back {v r:List UInt8} (h:v.length≤2048):tk 2048 (leb v.length ++ v ++ r)=(v,(leb v.length).length + v.length,0):=by
 have hu:=upt_back (most:=2048) (n:=v.length) (v ++ r) (by omega) (by omega)
 rw [←List.append_assoc] at hu
 rw [tk_ok hu (by simp)]
 simp
theorem body_ok {b:List UInt8} {ms:List Int} {l:List Nat} {v:List UInt8} (h:body b ms=some (l,v)):Fits l ms∧v.length≤2048∧b=bodyB l v:=by
 unfold body at h
 split at h
 ·cases h
 ·rename_i p hp
  split at h
  ·rename_i hc
   obtain ⟨h0,he⟩:=hc
   simp only [Option.some.injEq,Prod.mk.injEq] at h
   obtain ⟨rfl,rfl⟩:=h
   obtain ⟨h1,h2,h3,h4⟩:=nums_ok b ms 0 p.1 p.2 (by omega) (by rw [hp])
   obtain ⟨v,k,bad,hu⟩:∃v k bad,tk 2048 (b.drop p.2)=(v,k,bad):=⟨_,_,_,rfl⟩
   rw [hu] at h0 he ⊢
   simp only at h0 he ⊢
   subst h0
   obtain ⟨q1,q2,q3⟩:=tk_once hu
   refine ⟨h2,q2,?_⟩
   rw [List.take_of_length_le (by rw [List.length_drop];omega)] at q1
   rw [List.drop_zero] at h1
   unfold bodyB
   rw [←q1];exact h1
  ·cases h
theorem body_back {ms:List Int} {l:List Nat} {v:List UInt8} (hm:∀m∈ms,m≤9223372036854775807) (hf:Fits l ms) (hv:v.length≤2048):body (bodyB l v) ms=some (l,v):=by
 have hn:=nums_back (bodyB l v) ms l 0 (leb v.length ++ v) hm hf (by rw [List.drop_zero];rfl)
 rw [Nat.zero_add] at hn
 have hd:(bodyB l v).drop (l.flatMap leb).length=leb v.length ++ v ++ []:=by unfold bodyB;rw [List.drop_left,List.append_nil]
 have hl:(bodyB l v).length=(l.flatMap leb).length + ((leb v.length).length + v.length):=by simp [bodyB]
 unfold body
 rw [hn]
 simp only [hd,tk_back hv,hl,and_self,if_true]
theorem body_none {b:List UInt8} {ms:List Int} (hm:∀m∈ms,m≤9223372036854775807) (h:body b ms=none) {l:List Nat} {v:List UInt8} (hf:Fits l ms) (hv:v.length≤2048):b≠bodyB l v:=by
 rintro rfl
 rw [body_back hm hf hv] at h;cases h
theorem bodyB_inj {ms:List Int} (hm:∀m∈ms,m≤9223372036854775807) {l l':List Nat} {v v':List UInt8} (hf:Fits l ms) (hf':Fits l' ms) (hv:v.length≤2048) (hv':v'.length≤2048) (h:bodyB l v=bodyB l' v'):l=l'∧v=v':=by
 have h1:=body_back hm hf hv
 rw [h,body_back hm hf' hv'] at h1
 simp only [Option.some.injEq,Prod.mk.injEq] at h1
 exact ⟨h1.1.symm,h1.2.symm⟩
theorem lebs_len {l:List Nat} (h:∀n∈l,U64 n):(l.flatMap leb).length≤10 * l.length:=by
 induction l with
 | nil=>simp
 | cons n l ih=>
  have h0:=leb_len (h n (by simp))
  have h1:=ih fun m hm=>h m (by simp [hm])
  simp only [List.flatMap_cons,List.length_append,List.length_cons]
  omega
theorem bodyB_len {l:List Nat} {v:List UInt8} (h:∀n∈l,U64 n) (hv:v.length≤2048):(bodyB l v).length≤10 * l.length + 10 + v.length:=by
 have h1:=lebs_len h
 have h2:=leb_len (n:=v.length) (U64.small (by omega))
 unfold bodyB
 simp only [List.length_append]
 omega
end Agio
namespace Agio
open Go
structure Ms where
 kind:Int
 frm:Int
 to:Int
 slot:Int
 bround:Int
 bsite:Int
 hround:Int
 hsite:Int
 some_:Bool
 val:List UInt8
structure Ms.May (m:Ms):Prop where
 kind:1≤m.kind∧m.kind≤8
 frm:0≤m.frm∧m.frm≤6
 to:0≤m.to∧m.to≤6
 slot:0≤m.slot∧m.slot≤4095
 bround:0≤m.bround∧m.bround≤1099511627776
 bsite:0≤m.bsite∧m.bsite≤6
 hround:0≤m.hround∧m.hround≤1099511627776
 hsite:0≤m.hsite∧m.hsite≤6
 val:m.val.length≤2048
 some_:m.some_=true∨(m.hround=0∧m.hsite=0)∧m.val.length=0
def Ms.is (m:Ms):Nat:=if m.some_ then 1 else 0
theorem Ms.is_le (m:Ms):m.is≤1:=by unfold Ms.is;split <;> omega
def Ms.ns (m:Ms):List Nat:=[m.kind.toNat,m.frm.toNat,m.to.toNat,m.slot.toNat,m.bround.toNat,m.bsite.toNat,m.hround.toNat,m.hsite.toNat,m.is]
def Ms.inside (m:Ms):List UInt8:=bodyB m.ns m.val
def Ms.bytes (m:Ms):List UInt8:=put m.inside
def ms9:List Int:=List.replicate 9 1099511627776
theorem ms9_le:∀m∈ms9,m≤9223372036854775807:=by unfold ms9;simp
theorem Ms.May.fits {m:Ms} (h:m.May):Fits m.ns ms9:=by
 have h1:=h.kind;have h2:=h.frm;have h3:=h.to;have h4:=h.slot;have h5:=h.bround;have h6:=h.bsite;have h7:=h.hround;have h8:=h.hsite;have h9:=m.is_le
 unfold Ms.ns ms9
 refine ⟨?_,?_,?_,?_,?_,?_,?_,?_,?_,trivial⟩ <;> omega
theorem Ms.May.U {m:Ms} (h:m.May):∀n∈m.ns,U64 n:=by
 have h1:=h.kind;have h2:=h.frm;have h3:=h.to;have h4:=h.slot;have h5:=h.bround;have h6:=h.bsite;have h7:=h.hround;have h8:=h.hsite;have h9:=m.is_le
 intro n hn
 simp only [Ms.ns,List.mem_cons,List.not_mem_nil,or_false] at hn
 unfold U64
 rcases hn with rfl | rfl | rfl | rfl | rfl | rfl | rfl | rfl | rfl <;> omega
theorem Ms.May.ilen {m:Ms} (h:m.May):m.inside.length≤2200:=by
 have:=bodyB_len h.U h.val
 have:=h.val
 have:m.ns.length=9:=rfl
 unfold Ms.inside
 omega
theorem Ms.May.len {m:Ms} (h:m.May):m.bytes.length≤2208:=by
 have:=h.ilen
 unfold Ms.bytes
 rw [put_len];omega
def DecI (b:List UInt8) (m:Ms):Prop:=m.May∧m.inside=b
theorem DecI.inj {b:List UInt8} {m m':Ms} (h:DecI b m) (h':DecI b m'):m=m':=by
 obtain ⟨e1,e2⟩:=bodyB_inj ms9_le h.1.fits h'.1.fits h.1.val h'.1.val (h.2.trans h'.2.symm)
 have h1:=h.1.kind;have h2:=h.1.frm;have h3:=h.1.to;have h4:=h.1.slot;have h5:=h.1.bround;have h6:=h.1.bsite;have h7:=h.1.hround;have h8:=h.1.hsite
 have k1:=h'.1.kind;have k2:=h'.1.frm;have k3:=h'.1.to;have k4:=h'.1.slot;have k5:=h'.1.bround;have k6:=h'.1.bsite;have k7:=h'.1.hround;have k8:=h'.1.hsite
 obtain ⟨a,b,c,d,e,f,g,i,s,v⟩:=m
 obtain ⟨a',b',c',d',e',f',g',i',s',v'⟩:=m'
 simp only [Ms.ns,Ms.is,List.cons.injEq,and_true] at e1 e2 h1 h2 h3 h4 h5 h6 h7 h8 k1 k2 k3 k4 k5 k6 k7 k8
 obtain ⟨q1,q2,q3,q4,q5,q6,q7,q8,q9⟩:=e1
 subst e2
 obtain rfl:a=a':=by omega
 obtain rfl:b=b':=by omega
 obtain rfl:c=c':=by omega
 obtain rfl:d=d':=by omega
 obtain rfl:e=e':=by omega
 obtain rfl:f=f':=by omega
 obtain rfl:g=g':=by omega
 obtain rfl:i=i':=by omega
 obtain rfl:s=s':=by cases s <;> cases s' <;> simp at q9 <;> rfl
 rfl
def Ms.of (n1 n2 n3 n4 n5 n6 n7 n8 n9:Nat) (v:List UInt8):Ms:=⟨n1,n2,n3,n4,n5,n6,n7,n8,decide (n9=1),v⟩
theorem deci_body {b:List UInt8} {n1 n2 n3 n4 n5 n6 n7 n8 n9:Nat} {v:List UInt8} (h:body b ms9=some ([n1,n2,n3,n4,n5,n6,n7,n8,n9],v)) :
  (n9≤1→(Ms.of n1 n2 n3 n4 n5 n6 n7 n8 n9 v).inside=b)∧∀m,DecI b m→n9≤1∧m=Ms.of n1 n2 n3 n4 n5 n6 n7 n8 n9 v:=by
 obtain ⟨h1,h2,h3⟩:=body_ok h
 refine ⟨fun h9=>?_,fun m hm=>?_⟩
 ·have e9:(Ms.of n1 n2 n3 n4 n5 n6 n7 n8 n9 v).is=n9:=by
   have:n9=0∨n9=1:=by omega
   rcases this with rfl | rfl <;> rfl
  rw [h3]
  have:(Ms.of n1 n2 n3 n4 n5 n6 n7 n8 n9 v).ns= [n1,n2,n3,n4,n5,n6,n7,n8,n9]:=by
   unfold Ms.ns;rw [e9];rfl
  unfold Ms.inside;rw [this];rfl
 ·obtain ⟨e1,e2⟩:=bodyB_inj ms9_le hm.1.fits h1 hm.1.val h2 (hm.2.trans h3)
  have h1:=hm.1.kind;have h2:=hm.1.frm;have h3:=hm.1.to;have h4:=hm.1.slot;have h5:=hm.1.bround;have h6:=hm.1.bsite;have h7:=hm.1.hround;have h8:=hm.1.hsite
  have h9:=m.is_le
  obtain ⟨a,b,c,d,e,f,g,i,s,v'⟩:=m
  simp only [Ms.ns,List.cons.injEq,and_true] at e1 e2 h1 h2 h3 h4 h5 h6 h7 h8
  obtain ⟨q1,q2,q3,q4,q5,q6,q7,q8,q9⟩:=e1
  subst e2
  refine ⟨by omega,?_⟩
  unfold Ms.of
  congr 1
  any_goals omega
  rw [←q9];unfold Ms.is;cases s <;> simp
theorem deci_none {b:List UInt8} (h:body b ms9=none):∀m,¬ DecI b m:=fun _m hm=>body_none ms9_le h hm.1.fits hm.1.val hm.2.symm
open Classical in
noncomputable def decI (b:List UInt8):Option Ms:=if h:∃m,DecI b m then some h.choose else none
theorem decI_some {b:List UInt8} {m:Ms} (h:DecI b m):decI b=some m:=by
 have hx:∃m,DecI b m:=⟨m,h⟩
 unfold decI
 rw [dif_pos hx,hx.choose_spec.inj h]
theorem decI_none {b:List UInt8} (h:∀m,¬ DecI b m):decI b=none:=by
 unfold decI
 rw [dif_neg (fun ⟨m,hm⟩=>h m hm)]
def Whole (b:List UInt8):Prop:=fst b=(b.length - 8,0)∧8≤b.length
theorem whole_put {b:List UInt8} (h:b.length≤4096):Whole (put b):=by
 have:=fst_put h []
 rw [List.append_nil] at this
 refine ⟨by rw [this,put_len];simp,by rw [put_len];omega⟩
theorem Whole.put {b:List UInt8} (h:Whole b):b=put (b.drop 8):=by
 have:=(fst_ok h.1).2.2
 rw [List.take_of_length_le (l:=b.drop 8) (by simp),List.drop_of_length_le (l:=b) (i:=8 + (b.length - 8)) (by have:=h.2;omega),List.append_nil] at this
 exact this
theorem not_whole {b:List UInt8} {n:Nat} (h:fst b=(n,0)) (hr:b.drop (8 + n)≠[]):¬ Whole b:=fun hw=>by
 rw [hw.1] at h
 simp only [Prod.mk.injEq,and_true] at h
 subst h
 exact hr (List.drop_of_length_le (by have:=hw.2;omega))
theorem not_whole' {b:List UInt8} (h:(fst b).2≠0):¬ Whole b:=fun hw=>by rw [hw.1] at h;exact h rfl
theorem put_inj {b b':List UInt8} (h:put b=put b'):b=b':=by
 have:=congrArg (List.drop 8) h
 simpa [put,four] using this
end Agio
namespace Agio
open Go
structure Rc where
 kind:Int
 slot:Int
 round:Int
 site:Int
 val:List UInt8
structure Rc.May (r:Rc):Prop where
 kind:r.kind=1∧r.val.length=0∨r.kind=2
 slot:0≤r.slot∧r.slot≤4095
 round:0≤r.round∧r.round≤1099511627776
 site:0≤r.site∧r.site≤6
 val:r.val.length≤2048
def Rc.ns (r:Rc):List Nat:=[r.kind.toNat,r.slot.toNat,r.round.toNat,r.site.toNat]
def Rc.bytes (r:Rc):List UInt8:=bodyB r.ns r.val
def msA:List Int:=[2,4095,1099511627776,6]
def msB:List Int:=[1099511627776,1099511627776,1099511627776,1099511627776]
theorem msA_le:∀m∈msA,m≤9223372036854775807:=by unfold msA;simp
theorem msB_le:∀m∈msB,m≤9223372036854775807:=by unfold msB;simp
theorem Rc.May.fitsA {r:Rc} (h:r.May):Fits r.ns msA:=by
 have h1:=h.kind;have h2:=h.slot;have h3:=h.round;have h4:=h.site
 unfold Rc.ns msA
 refine ⟨by omega,by omega,by omega,by omega,trivial⟩
theorem Rc.May.fitsB {r:Rc} (h:r.May):Fits r.ns msB:=by
 have h1:=h.kind;have h2:=h.slot;have h3:=h.round;have h4:=h.site
 unfold Rc.ns msB
 refine ⟨by omega,by omega,by omega,by omega,trivial⟩
theorem Rc.May.U {r:Rc} (h:r.May):∀n∈r.ns,U64 n:=by
 have h1:=h.kind;have h2:=h.slot;have h3:=h.round;have h4:=h.site
 intro n hn
 simp only [Rc.ns,List.mem_cons,List.not_mem_nil,or_false] at hn
 unfold U64
 rcases hn with rfl | rfl | rfl | rfl <;> omega
theorem Rc.May.len {r:Rc} (h:r.May):r.bytes.length≤2100:=by
 have:=bodyB_len h.U h.val
 have:=h.val
 have:r.ns.length=4:=rfl
 unfold Rc.bytes
 omega
def DecR (b:List UInt8) (r:Rc):Prop:=r.May∧r.bytes=b
theorem DecR.inj {b:List UInt8} {r r':Rc} (h:DecR b r) (h':DecR b r'):r=r':=by
 obtain ⟨e1,e2⟩:=bodyB_inj msB_le h.1.fitsB h'.1.fitsB h.1.val h'.1.val (h.2.trans h'.2.symm)
 have h1:=h.1.kind;have h2:=h.1.slot;have h3:=h.1.round;have h4:=h.1.site
 have k1:=h'.1.kind;have k2:=h'.1.slot;have k3:=h'.1.round;have k4:=h'.1.site
 obtain ⟨a,b,c,d,v⟩:=r
 obtain ⟨a',b',c',d',v'⟩:=r'
 simp only [Rc.ns,List.cons.injEq,and_true] at e1 e2 h1 h2 h3 h4 k1 k2 k3 k4
 subst e2
 obtain rfl:a=a':=by omega
 obtain rfl:b=b':=by omega
 obtain rfl:c=c':=by omega
 obtain rfl:d=d':=by omega
 rfl
def Rc.of (k s t u:Nat) (v:List UInt8):Rc:=⟨k,s,t,u,v⟩
theorem dec_body {b:List UInt8} {ms:List Int} (hms:ms=msA∨ms=msB) {k s t u:Nat} {v:List UInt8} (h:body b ms=some ([k,s,t,u],v)) :
  (Rc.of k s t u v).bytes=b∧∀r,DecR b r→r=Rc.of k s t u v:=by
 obtain ⟨h1,h2,h3⟩:=body_ok h
 have hb:(Rc.of k s t u v).bytes=b:=by rw [h3];rfl
 refine ⟨hb,fun r hr=>?_⟩
 have hf:Fits r.ns ms:=by
  rcases hms with rfl | rfl
  ·exact hr.1.fitsA
  ·exact hr.1.fitsB
 have hle:∀m∈ms,m≤9223372036854775807:=by
  rcases hms with rfl | rfl
  ·exact msA_le
  ·exact msB_le
 obtain ⟨e1,e2⟩:=bodyB_inj hle hf h1 hr.1.val h2 (hr.2.trans h3)
 have k1:=hr.1.kind;have k2:=hr.1.slot;have k3:=hr.1.round;have k4:=hr.1.site
 obtain ⟨a',b',c',d',v'⟩:=r
 simp only [Rc.ns,List.cons.injEq,and_true] at e1 e2 k1 k2 k3 k4
 subst e2
 unfold Rc.of
 congr 1 <;> omega
theorem dec_none {b:List UInt8} {ms:List Int} (hms:ms=msA∨ms=msB) (h:body b ms=none):∀r,¬ DecR b r:=by
 intro r hr
 rcases hms with rfl | rfl
 ·exact body_none msA_le h hr.1.fitsA hr.1.val hr.2.symm
 ·exact body_none msB_le h hr.1.fitsB hr.1.val hr.2.symm
open Classical in
noncomputable def decR (b:List UInt8):Option Rc:=if h:∃r,DecR b r then some h.choose else none
theorem decR_some {b:List UInt8} {r:Rc} (h:DecR b r):decR b=some r:=by
 have hx:∃r,DecR b r:=⟨r,h⟩
 unfold decR
 rw [dif_pos hx,hx.choose_spec.inj h]
theorem decR_none {b:List UInt8} (h:∀r,¬ DecR b r):decR b=none:=by
 unfold decR
 rw [dif_neg (fun ⟨r,hr⟩=>h r hr)]
theorem decR_ok {b:List UInt8} {r:Rc} (h:decR b=some r):DecR b r:=by
 unfold decR at h
 split at h
 ·rename_i hx
  rw [←Option.some.inj h];exact hx.choose_spec
 ·cases h
def layB (l:List Rc):List UInt8:=(l.map Rc.bytes).flatMap put
theorem layB_append (a b:List Rc):layB (a ++ b)=layB a ++ layB b:=by simp [layB]
theorem layB_cons (r:Rc) (l:List Rc):layB (r :: l)=put r.bytes ++ layB l:=rfl
theorem layB_take {l:List Rc} {i:Nat} (h:i < l.length):layB (l.take (i + 1))=layB (l.take i) ++ put l[i].bytes:=by
 rw [List.take_succ_eq_append_getElem h,layB_append];simp [layB]
theorem layB_len {l:List Rc} (h:∀r∈l,r.May):(layB l).length≤2108 * l.length:=by
 induction l with
 | nil=>simp [layB]
 | cons r l ih=>
  have h0:=(h r (by simp)).len
  have h1:=ih fun m hm=>h m (by simp [hm])
  rw [layB_cons,List.length_append,put_len,List.length_cons]
  omega
noncomputable def rdAll:List (List UInt8)→List Rc × Nat
 | []=>([],0)
 | x :: xs=>match decR x with
  | none=>([],0)
  | some r=>(r :: (rdAll xs).1,8 + x.length + (rdAll xs).2)
noncomputable def readB (b:List UInt8):List Rc × Nat:=rdAll (scan b).1
theorem rdAll_lay {l:List Rc} (h:∀r∈l,r.May) (xs:List (List UInt8)):rdAll (l.map Rc.bytes ++ xs)=(l ++ (rdAll xs).1,(layB l).length + (rdAll xs).2):=by
 induction l with
 | nil=>simp [layB]
 | cons r l ih=>
  rw [List.map_cons,List.cons_append]
  simp only [rdAll,decR_some ⟨h r (by simp),rfl⟩,ih fun m hm=>h m (by simp [hm]),layB_cons,List.cons_append,List.length_append,put_len,Prod.mk.injEq,true_and]
  omega
theorem rdAll_ok (xs:List (List UInt8)):∃m,m≤xs.length∧(rdAll xs).1.map Rc.bytes=xs.take m∧(rdAll xs).2=((xs.take m).flatMap put).length∧∀r∈(rdAll xs).1,r.May:=by
 induction xs with
 | nil=>exact ⟨0,by simp,by simp [rdAll],by simp [rdAll],by simp [rdAll]⟩
 | cons x xs ih=>
  obtain ⟨m,h1,h2,h3,h4⟩:=ih
  cases hd:decR x with
  | none=>exact ⟨0,by simp,by simp [rdAll,hd],by simp [rdAll,hd],by simp [rdAll,hd]⟩
  | some r=>
   have hr:=decR_ok hd
   refine ⟨m + 1,by simp;omega,by simp [rdAll,hd,h2,hr.2],by simp [rdAll,hd,h3],?_⟩
   simp only [rdAll,hd]
   intro y hy
   rcases List.mem_cons.1 hy with rfl | hy
   ·exact hr.1
   ·exact h4 y hy
theorem readB_ok (b:List UInt8):(readB b).2≤b.length∧layB (readB b).1=b.take (readB b).2∧∀r∈(readB b).1,r.May:=by
 obtain ⟨h1,h2,h3⟩:=scan_ok b
 obtain ⟨m,k1,k2,k3,k4⟩:=rdAll_ok (scan b).1
 have hs:(scan b).1.flatMap put=((scan b).1.take m).flatMap put ++ ((scan b).1.drop m).flatMap put:=by
  rw [←List.flatMap_append,List.take_append_drop]
 have hl:=congrArg List.length h2
 rw [hs,List.length_take,List.length_append] at hl
 unfold readB
 refine ⟨by rw [k3];omega,?_,k4⟩
 unfold layB
 rw [k2,k3]
 have e:b=(((scan b).1.take m).flatMap put ++ ((scan b).1.drop m).flatMap put) ++ b.drop (scan b).2:=by
  rw [←hs,←h2,List.take_append_drop]
 generalize ((scan b).1.take m).flatMap put=p at *
 generalize ((scan b).1.drop m).flatMap put=q at *
 generalize b.drop (scan b).2=z at *
 rw [e,List.append_assoc,List.take_left'];rfl
theorem readB_torn {l:List Rc} (h:∀r∈l,r.May) (k:Nat) (hk:k≤(layB l).length) :
  ∃m,m≤l.length∧(readB ((layB l).take k)).1=l.take m∧(readB ((layB l).take k)).2=(layB (l.take m)).length∧(layB (l.take m)).length≤k∧(∀(hm:m < l.length),k < (layB (l.take m)).length + (put l[m].bytes).length):=by
 have hl:∀b∈l.map Rc.bytes,b.length≤4096:=by
  intro b hb
  obtain ⟨x,hx,rfl⟩:=List.mem_map.1 hb
  have:=(h x hx).len;omega
 obtain ⟨m,h1,h2,h3,h4,h5⟩:=scan_torn hl k hk
 have hx:=rdAll_lay (l:=l.take m) (fun r hr=>h r (List.mem_of_mem_take hr)) []
 rw [List.append_nil,List.map_take] at hx
 unfold readB layB
 rw [h2,hx]
 rw [←List.map_take] at h4 h5
 refine ⟨m,by simpa using h1,by simp [rdAll],by simp [rdAll,layB],h4,fun hm=>?_⟩
 have:=h5 (by simpa using hm)
 simpa using this
end Agio
namespace Agio
structure Bl where
 r:Int
 s:Int
deriving DecidableEq
def cmpI (a b:Int):Int:=if a < b then -1 else if b < a then 1 else 0
def orI (a b:Int):Int:=if a=0 then b else a
def cmpB (a b:Bl):Int:=orI (cmpI a.r b.r) (cmpI a.s b.s)
def Bl.lt (a b:Bl):Prop:=a.r < b.r∨a.r=b.r∧a.s < b.s
theorem cmpB_lt (a b:Bl):cmpB a b < 0 ↔ a.lt b:=by
 unfold cmpB orI cmpI Bl.lt
 split <;> split <;> (try split) <;> (try split) <;> omega
theorem cmpB_gt (a b:Bl):0 < cmpB a b ↔ b.lt a:=by
 unfold cmpB orI cmpI Bl.lt
 split <;> split <;> (try split) <;> (try split) <;> omega
def isSite (s n:Int):Bool:=decide (0≤s) && decide (s < n)
def majorI (n:Int):Int:=if n < 1 then 0 else n / 2 + 1
def Bl.next (b:Bl) (s:Int):Bl:=if b.r < 0 then ⟨1,s⟩ else if b.r < 1099511627776 then ⟨b.r + 1,s⟩ else ⟨1099511627776,s⟩
def Bl.may (b:Bl) (n:Int):Bool:=decide (0≤b.r) && decide (b.r≤1099511627776) && isSite b.s n
def ownerI (slot n:Int):Int:=if slot < 0∨4096≤slot∨n < 1∨64 < n then -1 else slot.tmod n
def nxtS (site n:Int):Nat→Nat→Int
 | 0,_=>-1
 | k + 1,s=>if (s:Int).tmod n=site then (s:Int) else nxtS site n k (s + 1)
def nextI (site:Int) (f:Nat) (n:Int):Int:=if n < 1∨64 < n∨site < 0∨n≤site then -1 else nxtS site n (4096 - f) f
end Agio
