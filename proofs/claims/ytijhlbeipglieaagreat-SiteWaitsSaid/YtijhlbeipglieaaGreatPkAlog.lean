/- Merged: Flat, Structs, Alog, Alog2, Alog5, Alog3, Alog4. -/
import Derived.Test.YtijhlbeipglieaaGreatPkNet
set_option linter.all false
set_option maxRecDepth 100000
set_option maxHeartbeats 4000000
namespace Go.Proofs.YtijhlbeipglieaaGreat
open Go Go.RowKit Agio
theorem flat_len {α β:Type} {f:α→List β} {s:Nat} (hs:∀x,(f x).length=s) (l:List α):(l.flatMap f).length=l.length * s:=by
 induction l with
 | nil=>simp
 | cons x l ih=>simp [hs,ih,Nat.add_mul,Nat.add_comm]
theorem flat_get {α β:Type} {f:α→List β} {s:Nat} (hs:∀x,(f x).length=s) (l:List α):∀(i j:Nat) (hi:i < l.length),j < s→(l.flatMap f)[i * s + j]? =(f l[i])[j]?:=by
 induction l with
 | nil=>intro i j hi;simp at hi
 | cons x l ih=>
  intro i j hi hj
  rw [List.flatMap_cons]
  cases i with
  | zero=>rw [List.getElem?_append_left (by rw [hs];omega)];simp
  | succ i=>
   have e:(i + 1) * s + j=s + (i * s + j):=by rw [Nat.add_mul];omega
   rw [e,List.getElem?_append_right (by rw [hs];omega),hs,Nat.add_sub_cancel_left]
   simpa using ih i j (by simpa using hi) hj
theorem fld (a:Addr) (m j:Nat) (hj:0 < j):(⟨(a.add m).block,(a.add m).off + j,none⟩:Addr)=a.add (m + j):=by
 rw [←add_of_add]
 generalize a.add m=x
 unfold Addr.add;rw [if_neg (by omega)]
end Go.Proofs.YtijhlbeipglieaaGreat
namespace Go.Proofs.YtijhlbeipglieaaGreat
open Go.RowKit Agio
structure RdS {α:Type} (f:α→List Value) (s:Nat) (w:World) (A:Option Addr) (n:Nat) (l:List α):Prop where
 len:n=l.length
 rd:Rd w s A n (l.flatMap f)
section
variable {α:Type} {f:α→List Value} {s:Nat} {w w':World} {A:Option Addr} {n:Nat} {l:List α}
theorem RdS.upd {a b:List Nat} (h:RdS f s w A n l) (hu:Upd a b w w') (hd:∀k∈ablk A,k∉a):RdS f s w' A n l:=⟨h.len,h.rd.upd hu hd⟩
theorem RdS.upd0 {b:List Nat} (h:RdS f s w A n l) (hu:Upd [] b w w'):RdS f s w' A n l:=h.upd hu (by simp)
theorem RdS.at_ (hs:∀x,(f x).length=s) (h:RdS f s w A n l) {i:Nat} (hi:i < l.length):∃ad,A=some ad∧(∀u,(f l[i])[0]? =some u→w.cell? (ad.add (i * s))=some u)∧
  ∀j u,0 < j→(f l[i])[j]? =some u→w.cell? ⟨(ad.add (i * s)).block,(ad.add (i * s)).off + j,none⟩=some u:=by
 obtain ⟨ad,e,hc⟩:=h.rd.2 (by rw [h.len];omega)
 refine ⟨ad,e,fun u hu=>?_,fun j u hj hu=>?_⟩
 ·have hl:0 < s:=by
   rcases Nat.eq_zero_or_pos s with h0 | h0
   ·have:=hs l[i];rw [h0] at this;rw [List.eq_nil_of_length_eq_zero this] at hu;simp at hu
   ·exact h0
  exact hc _ _ (by rw [←hu];simpa using flat_get hs l i 0 hi hl)
 ·have hl:j < s:=by
   rcases Nat.lt_or_ge j s with h0 | h0
   ·exact h0
   ·rw [List.getElem?_eq_none (by rw [hs];exact h0)] at hu;cases hu
  rw [fld _ _ _ hj]
  exact hc _ _ (by rw [←hu];exact flat_get hs l i j hi hl)
theorem RdS.of (hs:∀x,(f x).length=s) (ad:Addr) (hc:∀i (hi:i < l.length) j u,(f l[i])[j]? =some u→w.cell? (ad.add (i * s + j))=some u):RdS f s w (some ad) l.length l:=by
 refine ⟨rfl,by rw [flat_len hs],fun _=>⟨ad,rfl,fun j u hu=>?_⟩⟩
 have hj:j < l.length * s:=by
  rcases Nat.lt_or_ge j (l.length * s) with h | h
  ·exact h
  ·rw [List.getElem?_eq_none (by rw [flat_len hs];exact h)] at hu;cases hu
 have h0:0 < s:=by
  rcases Nat.eq_zero_or_pos s with h0 | h0
  ·rw [h0] at hj;omega
  ·exact h0
 have hi:j / s < l.length:=Nat.div_lt_of_lt_mul (by rw [Nat.mul_comm];exact hj)
 have hm:=Nat.div_add_mod j s
 have hm':j=j / s * s + j % s:=by rw [Nat.mul_comm];omega
 rw [hm'] at hu ⊢
 rw [flat_get hs l _ _ hi (Nat.mod_lt _ h0)] at hu
 exact hc _ hi _ _ hu
end
end Go.Proofs.YtijhlbeipglieaaGreat
namespace Go.Proofs.YtijhlbeipglieaaGreat
open Go.RowKit Agio
structure Rv where
 k:Int
 s:Int
 r:Int
 t:Int
 A:Option Addr
 n:Nat
 c:Nat
 b:List UInt8
def Rv.cells (x:Rv):List Value:=[.int .i64 x.k,.int .i64 x.s,.int .i64 x.r,.int .i64 x.t,.slice x.A x.n x.c]
def Rv.val (x:Rv):Value:=.agg x.cells.toArray
def Rv.rc (x:Rv):Rc:=⟨x.k,x.s,x.r,x.t,x.b⟩
theorem Rv.val_eq (x:Rv):x.val= .agg #[.int .i64 x.k,.int .i64 x.s,.int .i64 x.r,.int .i64 x.t,.slice x.A x.n x.c]:=rfl
theorem Rv.cells_len (x:Rv):x.cells.length=5:=rfl
theorem may_no {r:Rc} (h:¬ r.May):(r.slot < 0∨4096≤r.slot)∨(0≤r.slot∧r.slot < 4096)∧((r.round < 0∨1099511627776 < r.round)∨(0≤r.round∧r.round≤1099511627776)∧((r.site < 0∨7≤r.site)∨(0≤r.site∧r.site < 7)∧(r.kind=1∧¬ r.val.length=0∨¬ r.kind=1∧¬ r.kind=2∨¬ r.kind=1∧r.kind=2∧2048 < r.val.length))):=by
 by_cases h1:r.slot < 0∨4096≤r.slot
 ·exact .inl h1
 refine .inr ⟨by omega,?_⟩
 by_cases h2:r.round < 0∨1099511627776 < r.round
 ·exact .inl h2
 refine .inr ⟨by omega,?_⟩
 by_cases h3:r.site < 0∨7≤r.site
 ·exact .inl h3
 refine .inr ⟨by omega,?_⟩
 by_cases h4:r.kind=1
 ·refine .inl ⟨h4,fun h5=>h ⟨.inl ⟨h4,h5⟩,by omega,by omega,by omega,by omega⟩⟩
 ·by_cases h5:r.kind=2
  ·refine .inr (.inr ⟨h4,h5,?_⟩)
   rcases Nat.lt_or_ge 2048 r.val.length with h6 | h6
   ·exact h6
   ·exact absurd ⟨.inr h5,by omega,by omega,by omega,h6⟩ h
  ·exact .inr (.inl ⟨h4,h5⟩)
theorem alogMay_yes (x:Rv) (w:World) (hr:RdB w x.A x.n x.b) (hm:x.rc.May) :
  Calls Tryz.prog 256 #[x.val] w fun e w'=>e= .returned (.bool true)∧Upd [] [] w w':=by
 obtain ⟨k,s,r,t,A,n,c,b⟩:=x
 obtain ⟨h1,⟨h2,h2'⟩,⟨h3,h3'⟩,⟨h4,h4'⟩,h5⟩:=hm
 simp only [Rv.rc] at h1 h2 h2' h3 h3' h4 h4' h5
 have hn:=hr.len
 simp only at hn
 have g2:s < 4096:=by omega
 have g4:t < 7:=by omega
 clear h2' h4'
 rw [Rv.val_eq]
 rcases h1 with ⟨rfl,h6⟩ | rfl
 ·obtain rfl:n=0:=by omega
  clear hn hr h6 h5
  go_enter Tryz.func256,Tryz.ntmps256
  repeat' (first|go_values|go_skip|go_guarded|go_step|go_upon|(simp only [];go_at_K))
  go_ret
  exact ⟨rfl,(Upd.refl _ _).alloc _⟩
 ·have hnl:(n:Int)≤2048:=by omega
  clear hn hr h5
  go_enter Tryz.func256,Tryz.ntmps256
  repeat' (first|go_values|go_skip|go_guarded|go_step|go_upon|(simp only [];go_at_K))
  go_ret
  exact ⟨rfl,(Upd.refl _ _).alloc _⟩
theorem alogMay_no (x:Rv) (w:World) (hr:RdB w x.A x.n x.b) (hm:¬ x.rc.May) :
  Calls Tryz.prog 256 #[x.val] w fun e w'=>e= .returned (.bool false)∧Upd [] [] w w':=by
 obtain ⟨k,s,r,t,A,n,c,b⟩:=x
 have hn:=hr.len
 have hm:=may_no hm
 simp only [Rv.rc] at hm hn
 rw [Rv.val_eq]
 rcases hm with h1 | ⟨⟨h1,h1'⟩,h2 | ⟨⟨h2,h2'⟩,h3 | ⟨⟨h3,h3'⟩,h4 | h4 | h4⟩⟩⟩
 ·clear hn hr
  rcases h1 with h1 | h1
  ·go_enter Tryz.func256,Tryz.ntmps256
   repeat' (first|go_values|go_skip|go_guarded|go_step|go_upon|(simp only [];go_at_K))
   go_ret
   exact ⟨rfl,(Upd.refl _ _).alloc _⟩
  ·have h0:0≤s:=by omega
   go_enter Tryz.func256,Tryz.ntmps256
   repeat' (first|go_values|go_skip|go_guarded|go_step|go_upon|(simp only [];go_at_K))
   go_ret
   exact ⟨rfl,(Upd.refl _ _).alloc _⟩
 ·clear hn hr
  rcases h2 with h2 | h2
  ·go_enter Tryz.func256,Tryz.ntmps256
   repeat' (first|go_values|go_skip|go_guarded|go_step|go_upon|(simp only [];go_at_K))
   go_ret
   exact ⟨rfl,(Upd.refl _ _).alloc _⟩
  ·have h0:0≤r:=by omega
   go_enter Tryz.func256,Tryz.ntmps256
   repeat' (first|go_values|go_skip|go_guarded|go_step|go_upon|(simp only [];go_at_K))
   go_ret
   exact ⟨rfl,(Upd.refl _ _).alloc _⟩
 ·clear hn hr
  rcases h3 with h3 | h3
  ·go_enter Tryz.func256,Tryz.ntmps256
   repeat' (first|go_values|go_skip|go_guarded|go_step|go_upon|(simp only [];go_at_K))
   go_ret
   exact ⟨rfl,(Upd.refl _ _).alloc _⟩
  ·have h0:0≤t:=by omega
   go_enter Tryz.func256,Tryz.ntmps256
   repeat' (first|go_values|go_skip|go_guarded|go_step|go_upon|(simp only [];go_at_K))
   go_ret
   exact ⟨rfl,(Upd.refl _ _).alloc _⟩
 ·obtain ⟨rfl,h5⟩:=h4
  have h6:((n:Int) == 0)=false:=by simp;omega
  clear hn hr h5
  go_enter Tryz.func256,Tryz.ntmps256
  repeat' (first|go_values|go_skip|go_guarded|go_step|go_upon|(simp only [];go_at_K))
  go_ret
  exact ⟨rfl,(Upd.refl _ _).alloc _⟩
 ·obtain ⟨h5,h6⟩:=h4
  have h5':(k == 1)=false:=by simp [h5]
  have h6':(k == 2)=false:=by simp [h6]
  clear hn hr h5 h6
  go_enter Tryz.func256,Tryz.ntmps256
  repeat' (first|go_values|go_skip|go_guarded|go_step|go_upon|(simp only [];go_at_K))
  go_ret
  exact ⟨rfl,(Upd.refl _ _).alloc _⟩
 ·obtain ⟨h5,rfl,h6⟩:=h4
  have h6':decide ((n:Int)≤2048)=false:=by simp;omega
  clear hn hr h5 h6
  go_enter Tryz.func256,Tryz.ntmps256
  repeat' (first|go_values|go_skip|go_guarded|go_step|go_upon|(simp only [];go_at_K))
  go_ret
  exact ⟨rfl,(Upd.refl _ _).alloc _⟩
end Go.Proofs.YtijhlbeipglieaaGreat
namespace Go.Proofs.YtijhlbeipglieaaGreat
open Go.RowKit Agio
theorem alogLayN (w:World) (g:Nat) (A:Option Addr) (k c:Nat) (l:List UInt8) (B:Option Addr) (m d:Nat) (ns:List Nat) (hw:Wr w g A k c l) (hr:Rd w 1 B m (i64s ns)) (hI:∀n∈ns,n≤9223372036854775807) (hB:∀j∈ablk B,j∉g :: ablk A) (hBl:∀j∈ablk B,j < w.heap.size) (hm:m≤1000) (hl:l.length≤100000000) :
  Calls Tryz.prog 276 #[.pointer (some ⟨g,0,none⟩),.slice B m d] w fun e w'=>e= .returned (.tuple #[])∧∃A' k' c',Wr w' g A' k' c' (l ++ ns.flatMap leb)∧Upd (g :: ablk A) (g :: ablk A') w w':=by
 have hn:ns.length=m:=by have:=hr.1;simpa [i64s] using this
 subst hn
 have hU:∀n∈ns,U64 n:=fun n hn=>U64.small (by have:=hI n hn;omega)
 have hlen:=lebs_take_len hU
 go_enter Tryz.func276,Tryz.ntmps276
 repeat' (first|go_values|go_skip|go_guarded|go_step|go_upon|(simp only [];go_at_K))
 go_loopw [8] (fun v8 wr=>∃(i:Nat) (A2:Option Addr) (k2 c2:Nat),i≤ns.length∧v8= .int .i64 (i:Int)∧Wr wr g A2 k2 c2 (l ++ (ns.take i).flatMap leb)∧Upd (g :: ablk A) (g :: ablk A2) w wr)
  (fun v8 _=>ns.length - (intOf v8).toNat)
 case atStart=>exact ⟨0,A,k,c,by omega,rfl,by simpa using hw,Upd.refl _ _⟩
 case round=>
  obtain ⟨i,A2,k2,c2,hi,rfl,hw2,hu⟩:=hrel
  have hli:=hlen i
  by_cases hlt:i < ns.length
  ·have hrr:=hr.upd hu hB
   obtain ⟨ad,u,rfl,hx,hcell⟩:=Rd.at_ hrr (k:=i) hlt
   rw [i64s_get ns i hlt] at hx
   obtain rfl:=Option.some.inj hx
   have HS:=Lib.hid (lebs_take hlt)
   have hxI:=hI ns[i] (List.getElem_mem hlt)
   have hxU:=hU ns[i] (List.getElem_mem hlt)
   generalize ns[i]=x at *
   have hx0:(0:Int)≤(x:Int):=by omega
   have hx1:(x:Int)≤9223372036854775807:=by omega
   have hw64:IntKind.u64.wrap (x:Int)=(x:Int):=by rw [IntKind.wrap_u64];omega
   clear hx hr
   repeat' ((fail_if_success (with_reducible refine stop_append rfl ?_));first|go_values|go_skip|go_guarded|go_step|go_upon|(simp only [];go_at_K))
   refine (writerUint (x:Int) wr g A2 k2 c2 _ (by omega) (by simpa using hxU) hw2 (by simp only [List.length_append];omega)).mono ?_
   rintro e w3 ⟨rfl,A3,k3,c3,hw3,hu3⟩
   rw [Int.toNat_natCast,List.append_assoc,←HS.out] at hw3
   repeat' (first|go_values|go_skip|go_guarded|go_step|go_upon|(simp only [];go_at_K))
   exact ⟨⟨i + 1,A3,k3,c3,by omega,rfl,hw3,hu.trans hu3⟩,by simp [intOf];omega⟩
  ·obtain rfl:i=ns.length:=by omega
   rw [List.take_length] at hw2
   repeat' (first|go_values|go_skip|go_guarded|go_step|go_upon|(simp only [];go_at_K))
   go_end0
   exact ⟨rfl,A2,k2,c2,hw2,hu⟩
theorem alogEncode (x:Rv) (w:World) (hr:RdB w x.A x.n x.b) (hm:x.rc.May) :
  Calls Tryz.prog 247 #[x.val] w fun e w'=>∃A' k' c',e= .returned (.tuple #[.slice A' k' c',.int .i64 0])∧OwnB 5 w' A' k' c' x.rc.bytes∧Upd [] (ablk A') w w':=by
 have C:=fun w hr=>alogMay_yes x w hr hm
 have h1:=hm.kind
 have h2:=hm.slot
 have h3:=hm.round
 have h4:=hm.site
 have hU:=hm.U
 have hv:=hm.val
 have HB:Hid (x.rc.bytes=x.rc.ns.flatMap leb ++ leb x.b.length ++ x.b):=by unfold Hid Rc.bytes bodyB;rw [List.append_assoc];rfl
 have HN:Hid (i64s x.rc.ns= [.int .i64 x.k,.int .i64 x.s,.int .i64 x.r,.int .i64 x.t]):=by
  unfold Hid i64s Rc.ns
  simp only [Rv.rc] at h1 h2 h3 h4 ⊢
  simp only [List.map_cons,List.map_nil,List.cons.injEq,Value.int.injEq,true_and,and_true]
  omega
 have hnl:x.rc.ns.length=4:=rfl
 have HNL:=Lib.hid hnl;clear hnl
 have hns:∀n∈x.rc.ns,n≤9223372036854775807:=by
  intro n hn
  simp only [Rv.rc] at h1 h2 h3 h4
  simp only [Rc.ns,Rv.rc,List.mem_cons,List.not_mem_nil,or_false] at hn
  rcases hn with rfl | rfl | rfl | rfl <;> omega
 have hvl:x.b.length≤2048:=hv
 have hlb:=lebs_len hU
 have HLT:=Lib.hid hr.lt
 generalize x.rc.ns=ns at *
 rw [Rv.val_eq] at C ⊢
 clear h1 h2 h3 h4 hm hv
 go_enter Tryz.func247,Tryz.ntmps247
 repeat' ((fail_if_success (with_reducible refine stop_append rfl ?_));first|go_values|go_skip|go_guarded|go_step|go_upon|(simp only [];go_at_K))
 refine (C _ (hr.alloc _)).mono ?_
 rintro e w1 ⟨rfl,hu1⟩
 have hX:=(Blk.new w 147 #[.int .i64 x.k,.int .i64 x.s,.int .i64 x.r,.int .i64 x.t,.slice x.A x.n x.c]).upd hu1 (by simp)
 have U1:Upd [] [] w w1:=((Upd.refl _ _).alloc _).trans hu1
 have hX2:=hX.alloc (.cells #[.slice none 0 0] 204)
 obtain ⟨⟨q0,q1,q2,q3,q4⟩,-⟩:=hX2.c5
 have hlt:=hX.lt
 clear C hu1
 repeat' (first|go_values|go_skip|go_guarded|go_step|go_upon|(simp only [];go_at_K))
 clear q0 q1 q2 q3 q4
 have hW:Wr ((w1.alloc (.cells #[.slice none 0 0] 204)).alloc (.cells #[.int .i64 x.k,.int .i64 x.s,.int .i64 x.r,.int .i64 x.t] 3)) w1.heap.size none 0 0 []:=⟨(Blk.new _ _ _).alloc _,((OwnB.nil _ _).alloc _).alloc _⟩
 have hR4:Rd ((w1.alloc (.cells #[.slice none 0 0] 204)).alloc (.cells #[.int .i64 x.k,.int .i64 x.s,.int .i64 x.r,.int .i64 x.t] 3)) 1 (some ⟨w1.heap.size + 1,0,none⟩) 4 (i64s ns):=by
  have:=Rd.blk (w:=((w1.alloc (.cells #[.slice none 0 0] 204)).alloc (.cells #[.int .i64 x.k,.int .i64 x.s,.int .i64 x.r,.int .i64 x.t] 3))) (n:=4) (size:=1) (cs:=i64s ns) (t:=3) (g:=w1.heap.size + 1) (by rw [HN.out];have:=Blk.new (w1.alloc (.cells #[.slice none 0 0] 204)) 3 #[.int .i64 x.k,.int .i64 x.s,.int .i64 x.r,.int .i64 x.t];rwa [World.size_alloc] at this) (by rw [HN.out];rfl)
  exact this
 refine (alogLayN _ w1.heap.size none 0 0 [] _ 4 4 ns hW hR4 hns (by simp [ablk]) (by simp [ablk]) (by omega) (by simp)).mono ?_
 rintro e w2 ⟨rfl,A2,k2,c2,hw2,hu2⟩
 rw [List.nil_append] at hw2
 have U2:Upd [] (w1.heap.size :: ablk A2) w w2:=(((U1.alloc _).alloc _).gives (b':=w1.heap.size :: ablk none) (by have:=U1.size;simp [ablk];omega)).trans hu2
 have hX3:=(hX2.alloc (.cells #[.int .i64 x.k,.int .i64 x.s,.int .i64 x.r,.int .i64 x.t] 3)).upd hu2 (by simp [ablk];omega)
 obtain ⟨⟨q0,q1,q2,q3,q4⟩,-⟩:=hX3.c5
 clear hW hR4 hu2 hX hX2 U1
 repeat' (first|go_values|go_skip|go_guarded|go_step|go_upon|(simp only [];go_at_K))
 clear q0 q1 q2 q3 q4
 refine (writerBytes w2 w1.heap.size A2 k2 c2 _ x.A x.n x.c x.b (hr.upd U2 (by simp)) ?_ hw2 (by rw [HNL.out] at hlb;omega)).mono ?_
 ·intro h0 j hj hm
  have h1:=HLT.out h0 j hj
  rcases U2.fresh j hm with h2 | h2
  ·cases h2
  ·omega
 rintro e w3 ⟨rfl,A3,k3,c3,hw3,hu3⟩
 have U3:=U2.trans hu3
 clear U2 hu3 hw2 hX3
 repeat' ((fail_if_success (with_reducible refine stop_append rfl ?_));first|go_values|go_skip|go_guarded|go_step|go_upon|(simp only [];go_at_K))
 refine (writerTold w3 w1.heap.size A3 k3 c3 _ hw3 ?_).mono ?_
 ·have:=leb_len (n:=x.b.length) (U64.small (by omega));rw [HNL.out] at hlb;simp only [List.length_append];omega
 rintro e w4 ⟨A4,k4,c4,rfl,ho4,hu4⟩
 repeat' (first|go_values|go_skip|go_guarded|go_step|go_upon|(simp only [];go_at_K))
 go_ret2
 rw [←HB.out] at ho4
 exact ⟨A4,k4,c4,rfl,ho4,(U3.gives (b':=[]) (by simp)).trans hu4⟩
end Go.Proofs.YtijhlbeipglieaaGreat
namespace Go.Proofs.YtijhlbeipglieaaGreat
open Go.RowKit Agio
structure Rvs (w:World) (A:Option Addr) (n:Nat) (l:List Rv):Prop where
 rd:RdS Rv.cells 5 w A n l
 each:∀x∈l,RdB w x.A x.n x.b
theorem Rvs.upd {w w':World} {A:Option Addr} {n:Nat} {l:List Rv} {b:List Nat} (h:Rvs w A n l) (hu:Upd [] b w w'):Rvs w' A n l:=
 ⟨h.rd.upd0 hu,fun x hx=>(h.each x hx).upd hu (by simp)⟩
theorem Rvs.len {w:World} {A:Option Addr} {n:Nat} {l:List Rv} (h:Rvs w A n l):n=l.length:=h.rd.len
theorem Rvs.at_ {w:World} {A:Option Addr} {n:Nat} {l:List Rv} (h:Rvs w A n l) {i:Nat} (hi:i < l.length):∃ad,A=some ad∧w.cell? (ad.add (i * 5))=some (.int .i64 l[i].k)∧w.cell? ⟨(ad.add (i * 5)).block,(ad.add (i * 5)).off + 1,none⟩=some (.int .i64 l[i].s)∧
  w.cell? ⟨(ad.add (i * 5)).block,(ad.add (i * 5)).off + 2,none⟩=some (.int .i64 l[i].r)∧w.cell? ⟨(ad.add (i * 5)).block,(ad.add (i * 5)).off + 3,none⟩=some (.int .i64 l[i].t)∧w.cell? ⟨(ad.add (i * 5)).block,(ad.add (i * 5)).off + 4,none⟩=some (.slice l[i].A l[i].n l[i].c):=by
 obtain ⟨ad,e,h0,hj⟩:=h.rd.at_ Rv.cells_len hi
 exact ⟨ad,e,h0 _ rfl,hj 1 _ (by omega) rfl,hj 2 _ (by omega) rfl,hj 3 _ (by omega) rfl,hj 4 _ (by omega) rfl⟩
def rcs (l:List Rv):List Rc:=l.map Rv.rc
theorem rcs_take {l:List Rv} {i:Nat} (h:i < l.length):layB (rcs (l.take (i + 1)))=layB (rcs (l.take i)) ++ put l[i].rc.bytes:=by
 unfold rcs
 rw [List.take_succ_eq_append_getElem h,List.map_append,layB_append];simp [layB]
theorem layB_take_le (l:List Rv) (i:Nat):(layB (rcs (l.take i))).length≤(layB (rcs l)).length:=by
 have:layB (rcs l)=layB (rcs (l.take i)) ++ layB (rcs (l.drop i)):=by unfold rcs;rw [←layB_append,←List.map_append,List.take_append_drop]
 rw [this,List.length_append];omega
theorem alogLay (w:World) (A:Option Addr) (n c:Nat) (l:List Rv) (hr:Rvs w A n l) (hm:∀x∈l,x.rc.May) (hn:n≤140737488355328) (hb:(layB (rcs l)).length≤140737488355328) :
  Calls Tryz.prog 189 #[.slice A n c] w fun e w'=>∃A' k' c',e= .returned (.tuple #[.slice A' k' c',.int .i64 0])∧OwnB 5 w' A' k' c' (layB (rcs l))∧Upd [] (ablk A') w w':=by
 obtain rfl:=hr.len
 go_enter Tryz.func189,Tryz.ntmps189
 repeat' (first|go_values|go_skip|go_guarded|go_step|go_upon|(simp only [];go_at_K))
 go_loopw [4,12] (fun v4 v12 wr=>∃(i:Nat) (A1:Option Addr) (k1 c1:Nat),i≤l.length∧v12= .int .i64 (i:Int)∧v4= .slice A1 k1 c1∧OwnB 5 wr A1 k1 c1 (layB (rcs (l.take i)))∧Upd [] (ablk A1) w wr)
  (fun _ v12 _=>l.length - (intOf v12).toNat)
 case atStart=>exact ⟨0,none,0,0,by omega,rfl,rfl,OwnB.nil _ _,Upd.refl _ _⟩
 case round=>
  obtain ⟨i,A1,k1,c1,hi,rfl,rfl,ho,hu⟩:=hrel
  by_cases hlt:i < l.length
  ·have hrr:=hr.upd hu
   obtain ⟨ad,rfl,q0,q1,q2,q3,q4⟩:=hrr.at_ hlt
   have hxm:=hm l[i] (List.getElem_mem hlt)
   have hxr:=hrr.each l[i] (List.getElem_mem hlt)
   have HS:=Lib.hid (rcs_take hlt)
   have hbl:=layB_take_le l (i + 1)
   rw [HS.out,List.length_append] at hbl
   have hxl:=hxm.len
   generalize l[i]=x at *
   have hxv:=x.val_eq
   have C:=alogEncode x (wr.alloc (.cells #[.int .i64 x.k,.int .i64 x.s,.int .i64 x.r,.int .i64 x.t,.slice x.A x.n x.c] 147)) (hxr.alloc _) hxm
   rw [hxv] at C
   clear hxv hr hm
   repeat' (first|go_values|go_skip|go_guarded|go_step|go_upon|(simp only [];go_at_K))
   ((with_reducible refine C.mono ?_);rintro e w1 ⟨A2,k2,c2,rfl,ho2,hu2⟩)
   have hu2:Upd [] (ablk A2) wr w1:=((Upd.refl [] wr).alloc _).trans hu2
   have ho1:=ho.upd hu2 (by simp)
   clear q0 q1 q2 q3 q4 C ho
   repeat' (first|go_values|go_skip|go_guarded|go_step|go_upon|(simp only [];go_at_K))
   ((with_reducible refine (framePut w1 A2 k2 c2 _ ho2.rd (by omega)).mono ?_);rintro e w2 ⟨A3,k3,c3,rfl,ho3,hu3⟩)
   have ho1':=ho1.upd hu3 (by simp)
   have U3:Upd [] (ablk A1) w w2:=(hu.trans (hu2.up _)).trans (hu3.up _)
   clear ho1 ho2 hu2 hu3 hu
   repeat' ((fail_if_success (with_reducible refine stop_append rfl ?_));first|go_values|go_skip|go_guarded|go_step|go_upon|(simp only [];go_at_K))
   refine wpList_appB rfl _ _ 28 rfl 5 Tryz.underlying28 infoU8 ho1' rfl ho3.rd rfl (by omega) ?_
   intro A4 k4 c4 w4 ho4 hu4
   have U4:=U3.trans hu4
   rw [←HS.out] at ho4
   clear ho1' ho3 hu4
   repeat' (first|go_values|go_skip|go_guarded|go_step|go_upon|(simp only [];go_at_K))
   exact ⟨⟨i + 1,A4,k4,c4,by omega,by simp,rfl,ho4,U4⟩,by simp [intOf];omega⟩
  ·obtain rfl:i=l.length:=by omega
   rw [List.take_length] at ho
   repeat' (first|go_values|go_skip|go_guarded|go_step|go_upon|(simp only [];go_at_K))
   go_ret2
   exact ⟨A1,k1,c1,rfl,ho,hu⟩
end Go.Proofs.YtijhlbeipglieaaGreat
namespace Go.Proofs.YtijhlbeipglieaaGreat
open Go.RowKit Agio
def fourC (l:List Nat):List Value:=i64s l ++ List.replicate (4 - l.length) (.int .i64 0)
theorem fourC_set {l:List Nat} (h:l.length < 4) (x:Nat):(fourC l).toArray.setIfInBounds l.length (.int .i64 (x:Int))=(fourC (l ++ [x])).toArray:=by
 match l,h with
 | [],_=>rfl
 | [_],_=>rfl
 | [_,_],_=>rfl
 | [_,_,_],_=>rfl
theorem fourC_ex {l:List Nat} (h:l.length≤4):∃y0 y1 y2 y3:Int,(fourC l).toArray=#[.int .i64 y0,.int .i64 y1,.int .i64 y2,.int .i64 y3]:=by
 match l,h with
 | [],_=>exact ⟨_,_,_,_,rfl⟩
 | [_],_=>exact ⟨_,_,_,_,rfl⟩
 | [_,_],_=>exact ⟨_,_,_,_,rfl⟩
 | [_,_,_],_=>exact ⟨_,_,_,_,rfl⟩
 | [_,_,_,_],_=>exact ⟨_,_,_,_,rfl⟩
theorem fourC_full {l:List Nat} (h:l.length=4):∃n0 n1 n2 n3:Nat,l= [n0,n1,n2,n3]:=by
 match l,h with
 | [a,b,c,d],_=>exact ⟨a,b,c,d,rfl⟩
theorem Rr.apart {w:World} {g:Nat} {A:Option Addr} {k c:Nat} {b:List UInt8} {a h:Nat} {t:TypeId} {cs:Array Value} (hr:Rr w g A k c b a) (hB:Blk w h t cs) (ht:t≠5) (hg:g≠h):∀j∈g :: ablk A,j∉[h]:=by
 intro j hj
 simp only [List.mem_singleton]
 rintro rfl
 rcases List.mem_cons.1 hj with h | h
 ·exact hg h.symm
 ·exact hr.own.own.ne hB (Ne.symm ht) h
def ARead (b:List UInt8) (w:World) (e:Ending):Prop:=
 (∃(i0 i1 i2 i3:Int) (A:Option Addr) (n c:Nat) (t:TypeId) (x:Value),body b msA=none∧e= .returned (.tuple #[.agg #[.int .i64 i0,.int .i64 i1,.int .i64 i2,.int .i64 i3,.slice A n c],.iface t x]))∨
 ∃(n0 n1 n2 n3:Nat) (v:List UInt8) (A:Option Addr) (n c:Nat),body b msA=some ([n0,n1,n2,n3],v)∧OwnB 5 w A n c v∧
  e= .returned (.tuple #[.agg #[.int .i64 (n0:Int),.int .i64 (n1:Int),.int .i64 (n2:Int),.int .i64 (n3:Int),.slice A n c],.nilIface])
theorem msA_get {i:Nat} (h:i < 4):∃m,msA[i]? =some m∧I64 m:=by
 have:i=0∨i=1∨i=2∨i=3:=by omega
 rcases this with rfl | rfl | rfl | rfl <;> exact ⟨_,rfl,by unfold I64;omega⟩
theorem msA_ix {i:Nat} {m:Int} (h:msA[i]? =some m) (w:World):(Instr.index 359 (.agg #[.int .i64 2,.int .i64 4095,.int .i64 1099511627776,.int .i64 6]) (.int .i64 (i:Int))).run Tryz.prog w= .ok (.int .i64 m) w:=by
 have hi:i < 4:=(List.getElem?_eq_some_iff.1 h).1
 have:i=0∨i=1∨i=2∨i=3:=by omega
 rcases this with rfl | rfl | rfl | rfl <;> obtain rfl:=Option.some.inj h <;> exact (show _=_ by kernel_rfl)
theorem alogRead (w:World) (B:Option Addr) (m d:Nat) (b:List UInt8) (hB:RdB w B m b) (hb:b.length≤140737488355328) :
  Calls Tryz.prog 255 #[.slice B m d] w fun e w'=>ARead b w' e∧Upd [] [] w w':=by
 have hR0:=Blk.new w 147 #[.int .i64 0,.int .i64 0,.int .i64 0,.int .i64 0,.slice none 0 0]
 go_enter Tryz.func255,Tryz.ntmps255
 repeat' (first|go_values|go_skip|go_guarded|go_step|go_upon|(simp only [];go_at_K))
 refine (wireFrom _ B m d b (hB.alloc _) hb).mono ?_
 rintro e w1 ⟨g,A,k,c,rfl,hr1,hu1⟩
 have hR1:=hR0.upd hu1 (by simp)
 have hg:w.heap.size < g:=by
  have:=hu1.fresh g (by simp)
  simp at this;omega
 have U1:Upd [] [g] w w1:=(((Upd.refl [] w).alloc _).trans hu1).gives (by simp;omega)
 have hgl:=hr1.blk.lt
 clear hu1 hR0
 repeat' (first|go_values|go_skip|go_guarded|go_step|go_upon|(simp only [];go_at_K))
 have hG2:Blk (w1.alloc (.cells #[.int .i64 0,.int .i64 0,.int .i64 0,.int .i64 0] 359)) w1.heap.size 359 (fourC []).toArray:=Blk.new _ _ _
 have hR2:=hR1.alloc (.cells #[.int .i64 0,.int .i64 0,.int .i64 0,.int .i64 0] 359)
 have hr2:Rr (w1.alloc (.cells #[.int .i64 0,.int .i64 0,.int .i64 0,.int .i64 0] 359)) g A k c b 0:=⟨hr1.blk.alloc _,hr1.own.alloc _,hr1.le⟩
 have U2:Upd [] [g] w (w1.alloc (.cells #[.int .i64 0,.int .i64 0,.int .i64 0,.int .i64 0] 359)):=U1.alloc _
 clear hR1 hr1
 have hG0:w.heap.size≤w1.heap.size:=U1.size
 have hRG:w.heap.size≠w1.heap.size:=by omega
 go_loopw [16] (fun v16 wr=>∃(l:List Nat) (a:Nat),l.length≤4∧v16= .int .i64 (l.length:Int)∧NumSt b msA l a∧Blk wr w1.heap.size 359 (fourC l).toArray∧Blk wr w.heap.size 147 #[.int .i64 0,.int .i64 0,.int .i64 0,.int .i64 0,.slice none 0 0]∧Rr wr g A k c b a∧Upd [] [g] w wr)
  (fun v16 _=>4 - (intOf v16).toNat)
 case atStart=>exact ⟨[],0,by simp,rfl,NumSt.zero _ _,hG2,hR2,hr2,U2⟩
 case round=>
  obtain ⟨l,a,hl4,rfl,hst,hG,hR,hr,U⟩:=hrel
  clear hG2 hR2 hr2 U1 U2
  have hgG:w1.heap.size∉[g]:=by simp;omega
  have hgR:w.heap.size∉[g]:=by simp;omega
  by_cases hlt:l.length < 4
  ·obtain ⟨mo,hmo,hmI⟩:=msA_get hlt
   have hix:=msA_ix hmo
   have C:=readerSmall wr g A k c b a mo hmI hr hb
   obtain ⟨n,sz,bad,hu⟩:∃n sz bad,upt mo (b.drop a)=(n,sz,bad):=⟨_,_,_,rfl⟩
   rw [hu] at C
   by_cases hz:bad=0
   ·subst hz
    have HN:=Lib.hid (hst.more hmo hu)
    have HFS:=Lib.hid (fourC_set hlt n)
    simp only [flt_zero] at C
    clear hst hmo hu
    obtain ⟨y0,y1,y2,y3,hy⟩:=fourC_ex hl4
    have hi4:l.length=0∨l.length=1∨l.length=2∨l.length=3:=by omega
    have hGn:∀W:World,Blk W w1.heap.size 359 (fourC l).toArray→(∃y,W.cell? ⟨w1.heap.size,l.length,none⟩=some (.int .i64 y))∧W.frozen? ⟨w1.heap.size,l.length,none⟩=false:=by
     intro W hW
     refine ⟨?_,hW.frozen _⟩
     rw [hy] at hW
     rcases hi4 with h | h | h | h <;> rw [h]
     ·exact ⟨y0,hW.cell 0⟩
     ·exact ⟨y1,hW.cell 1⟩
     ·exact ⟨y2,hW.cell 2⟩
     ·exact ⟨y3,hW.cell 3⟩
    have HGn:=Lib.hid hGn
    clear hGn hy
    repeat' (first|go_values|go_skip|go_guarded|go_step|go_upon|(simp only [];go_at_K))
    ((with_reducible refine C.mono ?_);rintro e w2 ⟨rfl,hr2,hu2⟩)
    have hG2:=hG.upd hu2 hgG
    have hR2:=hR.upd hu2 hgR
    obtain ⟨⟨y,hcy⟩,hfy⟩:=HGn.out _ hG2
    have U2:=U.trans hu2
    clear C hix hr hG hR U hu2 hi4
    repeat' (first|go_values|go_skip|go_guarded|go_step|go_upon|(simp only [];go_at_K))
    refine ⟨⟨l ++ [n],a + sz,by simp;omega,by simp,HN.out,?_,hR2.far (by simp;omega) _,?_,U2.setCell (.inr (by simp;omega)) _⟩,by simp [intOf] <;> omega⟩
    ·rw [←HFS.out];exact hG2.set_ _ _
    ·exact hr2.upd ((Upd.refl [w1.heap.size] w2).setCell (.inl (by simp)) _) (hr2.apart hG2 (by decide) (by omega))
   ·have HN:=Lib.hid (body_nums (hst.bad hmo hu hz))
    simp only [flt_pos hz] at C
    clear hst hmo hu
    repeat' (first|go_values|go_skip|go_guarded|go_step|go_upon|(simp only [];go_at_K))
    ((with_reducible refine C.mono ?_);rintro e w2 ⟨rfl,hr2,hu2⟩)
    have hR2:=hR.upd hu2 hgR
    have U2:=(U.trans hu2).gives (b':=[]) (by simp)
    have hlR:=hR2.lt
    obtain ⟨⟨q0,q1,q2,q3,q4⟩,f0,f1,f2,f3,f4⟩:=hR2.c5
    clear C hix hr hG hR U hu2 hr2
    repeat' (first|go_values|go_skip|go_guarded|go_step|go_upon|(simp only [];go_at_K))
    have N:=rowSet [.int .i64 0,.int .i64 0,.int .i64 0,.int .i64 0,.slice none 0 0] hR2 rfl U2 (.inr (by omega))
    simp only [setRow] at N
    generalize World.setCell _ ⟨w.heap.size,4,none⟩ _=W5 at N ⊢
    obtain ⟨hN,hU5⟩:=N
    clear q0 q1 q2 q3 q4
    obtain ⟨⟨q0,q1,q2,q3,q4⟩,-⟩:=hN.c5
    exact bodyPost_ret (v:=.tuple #[.agg #[.int .i64 0,.int .i64 0,.int .i64 0,.int .i64 0,.slice none 0 0],.iface 388 (.agg #[.int .i64 (bad:Int),.int .i64 (a:Int)])]) (by simp [results,Tryz.results255,go_sem,q0,q1,q2,q3,q4]) rfl ⟨.inl ⟨0,0,0,0,none,0,0,_,_,HN.out,rfl⟩,hU5⟩
  ·obtain ⟨n0,n1,n2,n3,rfl⟩:=fourC_full (l:=l) (by omega)
   have hN:=hst.all (by rfl)
   clear hst hlt hl4
   have C:=readerBytes wr g A k c b a 2048 (by unfold I64;omega) hr hb
   obtain ⟨v,sz,bad,hu⟩:∃v sz bad,tk 2048 (b.drop a)=(v,sz,bad):=⟨_,_,_,rfl⟩
   have HT:=Lib.hid (body_tk hN hu)
   rw [hu] at C
   clear hN hu
   have hG:Blk wr w1.heap.size 359 #[.int .i64 (n0:Int),.int .i64 (n1:Int),.int .i64 (n2:Int),.int .i64 (n3:Int)]:=hG
   by_cases hz:bad=0
   ·subst hz
    simp only [flt_zero] at C
    repeat' (first|go_values|go_skip|go_guarded|go_step|go_upon|(simp only [];go_at_K))
    ((with_reducible refine C.mono ?_);rintro e w2 ⟨A2,k2,c2,rfl,ho2,hr2,hu2⟩)
    have hR2:=hR.upd hu2 hgR
    have hG2:=hG.upd hu2 hgG
    have U2:Upd [] [g] w w2:=(U.trans hu2).gives (b':=[g]) (by simp;omega)
    have hlR:=hR2.lt
    obtain ⟨⟨s0,s1,s2,s3⟩,-⟩:=hG2.c4
    clear C hr hG hR U hu2
    repeat' (first|go_values|go_skip|go_guarded|go_step|go_upon|(simp only [];go_at_K))
    have D:=readerEnd ((w2.alloc (.cells #[.int .i64 (n0:Int),.int .i64 (n1:Int),.int .i64 (n2:Int),.int .i64 (n3:Int),.slice A2 k2 c2] 147)).drew) g A k c b (a + sz) (Rr.drewN (w:=w2.alloc (.cells #[.int .i64 (n0:Int),.int .i64 (n1:Int),.int .i64 (n2:Int),.int .i64 (n3:Int),.slice A2 k2 c2] 147)) ⟨hr2.blk.alloc _,hr2.own.alloc _,hr2.le⟩ 1) hb
    have hR3:=hR2.alloc (.cells #[.int .i64 (n0:Int),.int .i64 (n1:Int),.int .i64 (n2:Int),.int .i64 (n3:Int),.slice A2 k2 c2] 147)
    have hT3:=Blk.new w2 147 #[.int .i64 (n0:Int),.int .i64 (n1:Int),.int .i64 (n2:Int),.int .i64 (n3:Int),.slice A2 k2 c2]
    have ho3:=ho2.alloc (.cells #[.int .i64 (n0:Int),.int .i64 (n1:Int),.int .i64 (n2:Int),.int .i64 (n3:Int),.slice A2 k2 c2] 147)
    have U3:Upd [] [] w _:=(U2.alloc (.cells #[.int .i64 (n0:Int),.int .i64 (n1:Int),.int .i64 (n2:Int),.int .i64 (n3:Int),.slice A2 k2 c2] 147)).gives (by simp)
    have hle:a + sz≤b.length:=hr2.le
    obtain ⟨W,hW⟩:∃W,w2.alloc (.cells #[.int .i64 (n0:Int),.int .i64 (n1:Int),.int .i64 (n2:Int),.int .i64 (n3:Int),.slice A2 k2 c2] 147)=W:=⟨_,rfl⟩
    rw [hW] at D hR3 hT3 ho3 U3 ⊢
    clear hW hr2 hR2 hG2 U2 ho2 s0 s1 s2 s3
    obtain ⟨⟨t0,t1,t2,t3,t4⟩,-⟩:=hT3.c5
    obtain ⟨⟨q0,q1,q2,q3,q4⟩,f0,f1,f2,f3,f4⟩:=hR3.c5
    by_cases he:a + sz < b.length
    ·rw [if_pos he,flt_pos (by decide)] at D
     have HN:Hid (body b msA=none):=by unfold Hid;rw [HT.out,if_neg (by omega)]
     clear HT he hle
     go_region_with (go_at_call 238;refine D.mono ?_;rintro e w5 ⟨rfl,nq,rfl⟩)
     all_goals
      have N:=rowSet (W:=W.drewN (1 + nq)) [.int .i64 (n0:Int),.int .i64 (n1:Int),.int .i64 (n2:Int),.int .i64 (n3:Int),.slice A2 k2 c2] (hR3.drewN _) rfl (U3.drewN _) (.inr (by omega))
      simp only [setRow] at N
      generalize World.setCell _ ⟨w.heap.size,4,none⟩ _=W5 at N ⊢
      obtain ⟨hN,hU5⟩:=N
      clear q0 q1 q2 q3 q4
      obtain ⟨⟨q0,q1,q2,q3,q4⟩,-⟩:=hN.c5
      repeat' (first|go_values|go_skip|go_guarded|go_step|go_upon|(simp only [];go_at_K))
      exact bodyPost_ret (v:=.tuple #[.agg #[.int .i64 (n0:Int),.int .i64 (n1:Int),.int .i64 (n2:Int),.int .i64 (n3:Int),.slice A2 k2 c2],.iface 388 (.agg #[.int .i64 2,.int .i64 ((a + sz:Nat):Int)])]) (by simp [results,Tryz.results255,go_sem,q0,q1,q2,q3,q4]) rfl ⟨.inl ⟨_,_,_,_,_,_,_,_,_,HN.out,rfl⟩,hU5⟩
    ·rw [if_neg he,flt_zero] at D
     have HN:Hid (body b msA=some ([n0,n1,n2,n3],v)):=by unfold Hid;rw [HT.out,if_pos ⟨rfl,by omega⟩]
     have hne:∀j∈ablk A2,j≠w.heap.size:=by rintro j hj rfl;exact ho3.own.ne hR3 (by decide) hj
     clear HT he hle
     go_region_with (go_at_call 238;refine D.mono ?_;rintro e w5 ⟨rfl,nq,rfl⟩)
     all_goals
      have N:=rowSet (W:=W.drewN (1 + nq)) [.int .i64 (n0:Int),.int .i64 (n1:Int),.int .i64 (n2:Int),.int .i64 (n3:Int),.slice A2 k2 c2] (hR3.drewN _) rfl (U3.drewN _) (.inr (by omega))
      have N2:=rowSet (W:=W.drewN (1 + nq)) [.int .i64 (n0:Int),.int .i64 (n1:Int),.int .i64 (n2:Int),.int .i64 (n3:Int),.slice A2 k2 c2] (hR3.drewN _) rfl (Upd.refl [w.heap.size] (W.drewN (1 + nq))) (.inl (by simp))
      have ho5:=OwnB.upd (w:=W.drewN (1 + nq)) ⟨ho3.len,ho3.own.drewN _⟩ N2.2 (by intro j hj;simpa using hne j hj)
      clear N2
      simp only [setRow] at N ho5
      generalize World.setCell _ ⟨w.heap.size,4,none⟩ _=W5 at N ho5 ⊢
      obtain ⟨hN,hU5⟩:=N
      clear q0 q1 q2 q3 q4
      obtain ⟨⟨q0,q1,q2,q3,q4⟩,-⟩:=hN.c5
      repeat' (first|go_values|go_skip|go_guarded|go_step|go_upon|(simp only [];go_at_K))
      exact bodyPost_ret (v:=.tuple #[.agg #[.int .i64 (n0:Int),.int .i64 (n1:Int),.int .i64 (n2:Int),.int .i64 (n3:Int),.slice A2 k2 c2],.nilIface]) (by simp [results,Tryz.results255,go_sem,q0,q1,q2,q3,q4]) rfl ⟨.inr ⟨_,_,_,_,_,_,_,_,HN.out,ho5,rfl⟩,hU5⟩
   ·have HN:Hid (body b msA=none):=by unfold Hid;rw [HT.out,if_neg (by simp [hz])]
    simp only [flt_pos hz] at C
    clear HT
    repeat' (first|go_values|go_skip|go_guarded|go_step|go_upon|(simp only [];go_at_K))
    ((with_reducible refine C.mono ?_);rintro e w2 ⟨A2,k2,c2,rfl,ho2,hr2,hu2⟩)
    have hR2:=hR.upd hu2 hgR
    have U2:=(U.trans hu2).gives (b':=[]) (by simp)
    have hlR:=hR2.lt
    obtain ⟨⟨q0,q1,q2,q3,q4⟩,f0,f1,f2,f3,f4⟩:=hR2.c5
    clear C hr hG hR U hu2 hr2
    repeat' (first|go_values|go_skip|go_guarded|go_step|go_upon|(simp only [];go_at_K))
    have N:=rowSet [.int .i64 0,.int .i64 0,.int .i64 0,.int .i64 0,.slice none 0 0] hR2 rfl U2 (.inr (by omega))
    simp only [setRow] at N
    generalize World.setCell _ ⟨w.heap.size,4,none⟩ _=W5 at N ⊢
    obtain ⟨hN,hU5⟩:=N
    clear q0 q1 q2 q3 q4
    obtain ⟨⟨q0,q1,q2,q3,q4⟩,-⟩:=hN.c5
    exact bodyPost_ret (v:=.tuple #[.agg #[.int .i64 0,.int .i64 0,.int .i64 0,.int .i64 0,.slice none 0 0],.iface 388 (.agg #[.int .i64 (bad:Int),.int .i64 (a:Int)])]) (by simp [results,Tryz.results255,go_sem,q0,q1,q2,q3,q4]) rfl ⟨.inl ⟨0,0,0,0,none,0,0,_,_,HN.out,rfl⟩,hU5⟩
end Go.Proofs.YtijhlbeipglieaaGreat
namespace Go.Proofs.YtijhlbeipglieaaGreat
open Go.RowKit Agio
def ADec (b:List UInt8) (w:World) (e:Ending):Prop:=
 (decR b=none∧e= .returned (.tuple #[.agg #[.int .i64 0,.int .i64 0,.int .i64 0,.int .i64 0,.slice none 0 0],.iface 349 (.agg #[.int .i64 2])]))∨
 ∃x:Rv,decR b=some x.rc∧OwnB 5 w x.A x.n x.c x.b∧e= .returned (.tuple #[.agg #[.int .i64 x.k,.int .i64 x.s,.int .i64 x.r,.int .i64 x.t,.slice x.A x.n x.c],.nilIface])
theorem alogDecode (w:World) (B:Option Addr) (m d:Nat) (b:List UInt8) (hB:RdB w B m b) (hb:b.length≤140737488355328) :
  Calls Tryz.prog 205 #[.slice B m d] w fun e w'=>ADec b w' e∧Upd [] [] w w':=by
 have hR0:=Blk.new w 147 #[.int .i64 0,.int .i64 0,.int .i64 0,.int .i64 0,.slice none 0 0]
 have C:=alogRead _ B m d b (hB.alloc (.cells #[.int .i64 0,.int .i64 0,.int .i64 0,.int .i64 0,.slice none 0 0] 147)) hb
 go_enter Tryz.func205,Tryz.ntmps205
 repeat' (first|go_values|go_skip|go_guarded|go_step|go_upon|(simp only [];go_at_K))
 ((with_reducible refine C.mono ?_);rintro e w1 ⟨hT,hu1⟩)
 have hR1:=hR0.upd hu1 (by simp)
 have U1:Upd [] [] w w1:=((Upd.refl [] w).alloc _).trans hu1
 clear C hR0 hu1
 rcases hT with ⟨i0,i1,i2,i3,A,n,c,t,x,hbody,rfl⟩ | ⟨n0,n1,n2,n3,v,A,n,c,hbody,ho1,rfl⟩
 ·have HN:=Lib.hid (decR_none (dec_none (.inl rfl) hbody))
  clear hbody
  have hR2:=hR1.alloc (.cells #[.int .i64 i0,.int .i64 i1,.int .i64 i2,.int .i64 i3,.slice A n c] 147)
  have U2:=U1.alloc (.cells #[.int .i64 i0,.int .i64 i1,.int .i64 i2,.int .i64 i3,.slice A n c] 147)
  have hlR:=hR1.lt
  obtain ⟨⟨q0,q1,q2,q3,q4⟩,f0,f1,f2,f3,f4⟩:=hR1.c5
  repeat' (first|go_values|go_skip|go_guarded|go_step|go_upon|(simp only [];go_at_K))
  have N:=rowSet [.int .i64 0,.int .i64 0,.int .i64 0,.int .i64 0,.slice none 0 0] hR1 rfl U1 (.inr (by omega))
  simp only [setRow] at N
  generalize World.setCell _ ⟨w.heap.size,4,none⟩ _=W5 at N ⊢
  obtain ⟨hN,hU5⟩:=N
  clear q0 q1 q2 q3 q4
  have hN:=hN.alloc (.cells #[.int .i64 i0,.int .i64 i1,.int .i64 i2,.int .i64 i3,.slice A n c] 147)
  obtain ⟨⟨q0,q1,q2,q3,q4⟩,-⟩:=hN.c5
  exact bodyPost_ret (v:=.tuple #[.agg #[.int .i64 0,.int .i64 0,.int .i64 0,.int .i64 0,.slice none 0 0],.iface 349 (.agg #[.int .i64 2])]) (by simp [results,Tryz.results205,go_sem,q0,q1,q2,q3,q4]) rfl ⟨.inl ⟨HN.out,rfl⟩,hU5.alloc _⟩
 ·obtain ⟨hby,huniq⟩:=dec_body (.inl rfl) hbody
  obtain ⟨x,hx⟩:∃x:Rv,x=⟨n0,n1,n2,n3,A,n,c,v⟩:=⟨_,rfl⟩
  have hxr:x.rc=Rc.of n0 n1 n2 n3 v:=by rw [hx];rfl
  have ho1:OwnB 5 w1 x.A x.n x.c x.b:=by rw [hx];exact ho1
  have hxv:x.val= .agg #[.int .i64 x.k,.int .i64 x.s,.int .i64 x.r,.int .i64 x.t,.slice x.A x.n x.c]:=rfl
  have hxe:(Value.tuple #[.agg #[.int .i64 (n0:Int),.int .i64 (n1:Int),.int .i64 (n2:Int),.int .i64 (n3:Int),.slice A n c],.nilIface])= .tuple #[.agg #[.int .i64 x.k,.int .i64 x.s,.int .i64 x.r,.int .i64 x.t,.slice x.A x.n x.c],.nilIface]:=by rw [hx]
  rw [hxe]
  rw [←hxr] at hby huniq
  clear hx hxr hxe hbody
  have hR2:=hR1.alloc (.cells #[.int .i64 x.k,.int .i64 x.s,.int .i64 x.r,.int .i64 x.t,.slice x.A x.n x.c] 147)
  have U2:=U1.alloc (.cells #[.int .i64 x.k,.int .i64 x.s,.int .i64 x.r,.int .i64 x.t,.slice x.A x.n x.c] 147)
  have hT2:=Blk.new w1 147 #[.int .i64 x.k,.int .i64 x.s,.int .i64 x.r,.int .i64 x.t,.slice x.A x.n x.c]
  have ho2:=ho1.alloc (.cells #[.int .i64 x.k,.int .i64 x.s,.int .i64 x.r,.int .i64 x.t,.slice x.A x.n x.c] 147)
  have hlR:=hR1.lt
  by_cases hm:x.rc.May
  ·have HN:=Lib.hid (decR_some (b:=b) (r:=x.rc) ⟨hm,hby⟩)
   have M:=alogMay_yes x _ ho2.rd hm
   rw [hxv] at M
   clear hm hby huniq hxv
   repeat' (first|go_values|go_skip|go_guarded|go_step|go_upon|(simp only [];go_at_K))
   ((with_reducible refine M.mono ?_);rintro e w2 ⟨rfl,hu2⟩)
   have hR3:=hR2.upd hu2 (by simp)
   have hT3:=hT2.upd hu2 (by simp)
   have ho3:=ho2.upd hu2 (by simp)
   have U3:=U2.trans hu2
   have hne:∀j∈ablk x.A,j≠w.heap.size:=by rintro j hj rfl;exact ho3.own.ne hR3 (by decide) hj
   clear hR2 hT2 ho2 U2 hu2 ho1
   obtain ⟨⟨t0,t1,t2,t3,t4⟩,-⟩:=hT3.c5
   obtain ⟨⟨q0,q1,q2,q3,q4⟩,f0,f1,f2,f3,f4⟩:=hR3.c5
   repeat' (first|go_values|go_skip|go_guarded|go_step|go_upon|(simp only [];go_at_K))
   have N:=rowSet [.int .i64 x.k,.int .i64 x.s,.int .i64 x.r,.int .i64 x.t,.slice x.A x.n x.c] hR3 rfl U3 (.inr (by omega))
   have N2:=rowSet [.int .i64 x.k,.int .i64 x.s,.int .i64 x.r,.int .i64 x.t,.slice x.A x.n x.c] hR3 rfl (Upd.refl [w.heap.size] w2) (.inl (by simp))
   have ho5:=ho3.upd N2.2 (by intro j hj;simpa using hne j hj)
   clear N2
   simp only [setRow] at N ho5
   generalize World.setCell _ ⟨w.heap.size,4,none⟩ _=W5 at N ho5 ⊢
   obtain ⟨hN,hU5⟩:=N
   clear q0 q1 q2 q3 q4
   obtain ⟨⟨q0,q1,q2,q3,q4⟩,-⟩:=hN.c5
   exact bodyPost_ret (v:=.tuple #[.agg #[.int .i64 x.k,.int .i64 x.s,.int .i64 x.r,.int .i64 x.t,.slice x.A x.n x.c],.nilIface]) (by simp [results,Tryz.results205,go_sem,q0,q1,q2,q3,q4]) rfl ⟨.inr ⟨x,HN.out,ho5,rfl⟩,hU5⟩
  ·have HN:=Lib.hid (decR_none (b:=b) fun r hr=>hm (by rw [←huniq r hr];exact hr.1))
   have M:=alogMay_no x _ ho2.rd hm
   rw [hxv] at M
   clear hm hby huniq hxv
   repeat' (first|go_values|go_skip|go_guarded|go_step|go_upon|(simp only [];go_at_K))
   ((with_reducible refine M.mono ?_);rintro e w2 ⟨rfl,hu2⟩)
   have hR3:=hR2.upd hu2 (by simp)
   have U3:=U2.trans hu2
   clear hR2 hT2 ho2 U2 hu2 ho1
   obtain ⟨⟨q0,q1,q2,q3,q4⟩,f0,f1,f2,f3,f4⟩:=hR3.c5
   repeat' (first|go_values|go_skip|go_guarded|go_step|go_upon|(simp only [];go_at_K))
   have N:=rowSet [.int .i64 0,.int .i64 0,.int .i64 0,.int .i64 0,.slice none 0 0] hR3 rfl U3 (.inr (by omega))
   simp only [setRow] at N
   generalize World.setCell _ ⟨w.heap.size,4,none⟩ _=W5 at N ⊢
   obtain ⟨hN,hU5⟩:=N
   clear q0 q1 q2 q3 q4
   obtain ⟨⟨q0,q1,q2,q3,q4⟩,-⟩:=hN.c5
   exact bodyPost_ret (v:=.tuple #[.agg #[.int .i64 0,.int .i64 0,.int .i64 0,.int .i64 0,.slice none 0 0],.iface 349 (.agg #[.int .i64 2])]) (by simp [results,Tryz.results205,go_sem,q0,q1,q2,q3,q4]) rfl ⟨.inl ⟨HN.out,rfl⟩,hU5⟩
end Go.Proofs.YtijhlbeipglieaaGreat
