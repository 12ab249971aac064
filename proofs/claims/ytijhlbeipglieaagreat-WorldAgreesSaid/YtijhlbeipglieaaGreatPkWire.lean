/- Merged: Uint, Writer, Reader, Reader2, Reader3. -/
import Derived.Test.YtijhlbeipglieaaGreatProg
import Derived.StillTailTactics
import Derived.Test.YtijhlbeipglieaaGreatPkBase
import Derived.Test.YtijhlbeipglieaaGreatPkPlain
set_option linter.all false
set_option maxRecDepth 100000
set_option maxHeartbeats 1000000
namespace Go.Proofs.YtijhlbeipglieaaGreat
open Go.RowKit Agio
theorem infoU8:(Tryz.prog.info? 5).map (fun i=>(i.zero,i.size,i.bytes))=some (some (.int .u8 0),1,1):=by kernel_rfl
end Go.Proofs.YtijhlbeipglieaaGreat
namespace Go.Proofs.YtijhlbeipglieaaGreat
open Go.RowKit Agio
theorem _root_.Agio.RdB.upd' {w w':World} {A:Option Addr} {n:Nat} {l:List UInt8} {a b:List Nat} (h:RdB w A n l) (hu:Upd a b w w') (hd:0 < n→∀k∈ablk A,k∉a):RdB w' A n l:=by
 rcases Nat.eq_zero_or_pos n with h0 | h0
 ·exact ⟨h.1,fun hn=>absurd hn (by omega)⟩
 ·exact h.upd hu (hd h0)
theorem _root_.Agio.RdB.lt {w:World} {A:Option Addr} {n:Nat} {l:List UInt8} (h:RdB w A n l):0 < n→∀k∈ablk A,k < w.heap.size:=by
 intro hn k hk
 obtain ⟨ad,rfl,hc⟩:=h.2 hn
 have hl:=h.len
 simp [ablk] at hk;subst hk
 have:=World.block_lt_of_cell? w _ (hc 0 _ (b8s_get l 0 (by omega)))
 rwa [block_of_add] at this
theorem Rd.new {w:World} (t:TypeId) (fr:Nat × Nat) {size n:Nat} {cs:List Value} (hl:cs.length=n * size):Rd (w.alloc (.cells cs.toArray t fr)) size (some ⟨w.heap.size,0,none⟩) n cs:=
 ⟨hl,fun _=>⟨_,rfl,fun j u hu=>by
  have:(⟨w.heap.size,0,none⟩:Addr).add j=⟨w.heap.size,j,none⟩:=by unfold Addr.add;split <;> simp_all
  rw [this]
  have hh:(w.alloc (.cells cs.toArray t fr)).heap[w.heap.size]? =some (.cells cs.toArray t fr):=heap_alloc_new w _
  simp only [World.cell?,hh]
  simpa using hu⟩⟩
theorem strOf {w:World} {A:Option Addr} {n:Nat} {l:List UInt8} (h:RdB w A n l) (c:Nat):(convert 28 9 (.slice A n c)).run Tryz.prog w= .ok (.string ⟨l.toArray⟩) w:=
 run_bytes_str Tryz.underlying28 Tryz.underlying5 Tryz.underlying9 h c
structure Wr (w:World) (g:Nat) (A:Option Addr) (k c:Nat) (l:List UInt8):Prop where
 blk:Blk w g 204 #[.slice A k c]
 own:OwnB 5 w A k c l
section
variable {w w' w1:World} {g:Nat} {A A':Option Addr} {k c k' c':Nat} {l l':List UInt8} {a b:List Nat}
theorem Wr.ne (h:Wr w g A k c l):g∉ablk A:=h.own.own.ne h.blk (by decide)
theorem Wr.put (h:Wr w g A k c l) (o:OwnB 5 w1 A' k' c' l') (hu:Upd (ablk A) (ablk A') w w1) :
  Wr (w1.setCell ⟨g,0,none⟩ (.slice A' k' c')) g A' k' c' l'∧Upd (g :: ablk A) (g :: ablk A') w (w1.setCell ⟨g,0,none⟩ (.slice A' k' c')):=by
 have hb1:=h.blk.upd hu h.ne
 have hn:g∉ablk A':=o.own.ne hb1 (by decide)
 refine ⟨⟨by simpa using hb1.set_ 0 (.slice A' k' c'),o.upd ((Upd.refl [g] w1).setCell (p:=⟨g,0,none⟩) (.inl (by simp)) _) (fun k hk=>by simp;rintro rfl;exact hn hk)⟩,?_⟩
 refine (hu.mono (a':=g :: ablk A) (b':=g :: ablk A') (fun k hk=>by simp [hk]) (fun k hk=>?_)).setCell (.inl (by simp)) _
 rcases List.mem_cons.1 hk with rfl | hk
 ·exact .inr (.inl (by simp))
 ·exact .inl hk
end
theorem writerUint (n:Int) (w:World) (g:Nat) (A:Option Addr) (k c:Nat) (l:List UInt8) (h0:0≤n) (hU:U64 n.toNat) (hw:Wr w g A k c l) (hlen:l.length + 16≤140737488355328) :
  Calls Tryz.prog 124 #[.pointer (some ⟨g,0,none⟩),.int .u64 n] w fun e w'=>e= .returned (.tuple #[])∧∃A' k' c',Wr w' g A' k' c' (l ++ leb n.toNat)∧Upd (g :: ablk A) (g :: ablk A') w w':=by
 go_enter Tryz.func124,Tryz.ntmps124
 repeat' (first|go_values|go_skip|go_guarded|go_step|go_upon|(simp only [];go_at_K))
 go_loopw [1] (fun v1 wr=>∃m:Int,0≤m∧∃(l1:List UInt8) (A2:Option Addr) (k2 c2:Nat),v1= .int .u64 m∧U64 m.toNat∧l1 ++ leb m.toNat=l ++ leb n.toNat∧Wr wr g A2 k2 c2 l1∧Upd (g :: ablk A) (g :: ablk A2) w wr)
  (fun v1 _=>(intOf v1).toNat)
 case atStart=>exact ⟨n,h0,l,A,k,c,rfl,hU,rfl,hw,Upd.refl _ _⟩
 case round=>
  obtain ⟨m,hm0,l1,A2,k2,c2,rfl,hmU,hl,hwr,hu⟩:=hrel
  have hlen1:l1.length + 1≤140737488355328:=by have:=leb_len hU;have h2:=congrArg List.length hl;have:=leb_pos m.toNat;simp only [List.length_append] at h2;omega
  have HL:=Lib.hid hl;clear hl
  have hc:=hwr.blk.cell 0
  simp at hc
  by_cases hm:128≤m
  ·repeat' ((fail_if_success (with_reducible refine stop_append rfl ?_));first|go_values|go_skip|go_guarded|go_step|go_upon|(simp only [];go_at_K))
   refine wpList_pushB rfl _ _ 28 rfl 5 Tryz.underlying28 infoU8 hwr.own rfl _ rfl _ rfl (m.toNat % 128 + 128) (by omega) (leb_byte hm0 hmU) (by omega) ?_
   intro A' k' c' w1 hown1 hu1
   have P:=hwr.put hown1 hu1
   have hc1:=(hwr.blk.upd hu1 hwr.ne).cell 0
   have hf1:=(hwr.blk.upd hu1 hwr.ne).frozen 0
   simp at hc1
   clear hc
   repeat' (first|go_values|go_skip|go_guarded|go_step|go_upon|(simp only [];go_at_K))
   refine ⟨⟨_,Int.ediv_nonneg hm0 (by omega),_,_,_,_,rfl,hmU.le (by omega),?_,P.1,hu.trans P.2⟩,by simp [intOf];omega⟩
   rw [←HL.out,leb_ge (n:=m.toNat) (by omega),List.append_assoc,List.singleton_append,show (m / 128).toNat=m.toNat / 128 by omega]
  ·repeat' ((fail_if_success (with_reducible refine stop_append rfl ?_));first|go_values|go_skip|go_guarded|go_step|go_upon|(simp only [];go_at_K))
   refine wpList_pushB rfl _ _ 28 rfl 5 Tryz.underlying28 infoU8 hwr.own rfl _ rfl _ rfl m.toNat (by omega) (by omega) (by omega) ?_
   intro A' k' c' w1 hown1 hu1
   have P:=hwr.put hown1 hu1
   have hc1:=(hwr.blk.upd hu1 hwr.ne).cell 0
   have hf1:=(hwr.blk.upd hu1 hwr.ne).frozen 0
   simp at hc1
   clear hc
   repeat' (first|go_values|go_skip|go_guarded|go_step|go_upon|(simp only [];go_at_K))
   go_end0
   refine ⟨rfl,A',k',c',?_,hu.trans P.2⟩
   rw [←HL.out,leb_lt (n:=m.toNat) (by omega)]
   exact P.1
theorem writerBytes (w:World) (g:Nat) (A:Option Addr) (k c:Nat) (l:List UInt8) (B:Option Addr) (m d:Nat) (r:List UInt8) (hr:RdB w B m r) (hB:0 < m→∀j∈ablk B,j∉g :: ablk A) (hw:Wr w g A k c l) (hlen:l.length + r.length + 16≤140737488355328) :
  Calls Tryz.prog 125 #[.pointer (some ⟨g,0,none⟩),.slice B m d] w fun e w'=>e= .returned (.tuple #[])∧∃A' k' c',Wr w' g A' k' c' (l ++ leb r.length ++ r)∧Upd (g :: ablk A) (g :: ablk A') w w':=by
 obtain rfl:=hr.len
 go_enter Tryz.func125,Tryz.ntmps125
 repeat' ((fail_if_success (with_reducible refine stop_append rfl ?_));first|go_values|go_skip|go_guarded|go_step|go_upon|(simp only [];go_at_K))
 refine (writerUint _ w g A k c l (by omega) (U64.small (by omega)) hw (by omega)).mono ?_
 rintro e w1 ⟨rfl,A1,k1,c1,hw1,hu1⟩
 have hc:=hw1.blk.cell 0
 have hr1:=hr.upd' hu1 hB
 simp at hc
 repeat' ((fail_if_success (with_reducible refine stop_append rfl ?_));first|go_values|go_skip|go_guarded|go_step|go_upon|(simp only [];go_at_K))
 refine wpList_appB rfl _ _ 28 rfl 5 Tryz.underlying28 infoU8 hw1.own rfl hr1 rfl ?_ ?_
 ·have:=leb_len (n:=r.length) (U64.small (by omega));simp;omega
 ·intro A2 k2 c2 w2 hown2 hu2
  have P:=hw1.put hown2 hu2
  have hc1:=(hw1.blk.upd hu2 hw1.ne).cell 0
  have hf1:=(hw1.blk.upd hu2 hw1.ne).frozen 0
  simp at hc1
  clear hc
  repeat' (first|go_values|go_skip|go_guarded|go_step|go_upon|(simp only [];go_at_K))
  go_end0
  exact ⟨rfl,A2,k2,c2,by simpa using P.1,hu1.trans P.2⟩
theorem bytesClone (w:World) (B:Option Addr) (m d:Nat) (r:List UInt8) (hr:RdB w B m r) (hlen:r.length≤140737488355328) :
  Calls Tryz.prog 58 #[.slice B m d] w fun e w'=>∃A' k' c',e= .returned (.slice A' k' c')∧OwnB 5 w' A' k' c' r∧Upd [] (ablk A') w w':=by
 have hnil:=fun w=>Lib.run_eql_slice_nil (P:=Tryz.prog) w 28 5 B m d 0 0 Tryz.underlying28
 cases B with
 | none=>
  have hm:m=0:=by
   rcases Nat.eq_zero_or_pos m with h | h
   ·exact h
   ·obtain ⟨_,h,_⟩:=hr.2 h;cases h
  subst hm
  obtain rfl:r= []:=List.eq_nil_of_length_eq_zero hr.len.symm
  go_enter Tryz.func58,Tryz.ntmps58
  repeat' (first|go_values|go_skip|go_guarded|go_step|go_upon|(simp only [];go_at_K))
  go_ret
  exact ⟨none,0,0,rfl,OwnB.nil _ _,Upd.refl _ _⟩
 | some ad=>
  go_enter Tryz.func58,Tryz.ntmps58
  repeat' ((fail_if_success (with_reducible refine stop_append rfl ?_));first|go_values|go_skip|go_guarded|go_step|go_upon|(simp only [];go_at_K))
  refine wpList_appB rfl _ _ 28 rfl 5 Tryz.underlying28 infoU8 (OwnB.made _ _) rfl (hr.alloc _) rfl (by simpa using hlen) ?_
  intro A2 k2 c2 w2 hown2 hu2
  repeat' (first|go_values|go_skip|go_guarded|go_step|go_upon|(simp only [];go_at_K))
  go_ret
  exact ⟨A2,k2,c2,rfl,hown2,(((Upd.refl [] w).alloc _).gives (by simp [ablk])).trans hu2⟩
theorem writerTold (w:World) (g:Nat) (A:Option Addr) (k c:Nat) (l:List UInt8) (hw:Wr w g A k c l) (hlen:l.length≤140737488355328) :
  Calls Tryz.prog 127 #[.pointer (some ⟨g,0,none⟩)] w fun e w'=>∃A' k' c',e= .returned (.slice A' k' c')∧OwnB 5 w' A' k' c' l∧Upd [] (ablk A') w w':=by
 have hc:=hw.blk.cell 0
 simp at hc
 go_enter Tryz.func127,Tryz.ntmps127
 repeat' (first|go_values|go_skip|go_guarded|go_step|go_upon|(simp only [];go_at_K))
 refine (bytesClone w A k c l hw.own.rd hlen).mono ?_
 rintro e w1 ⟨A1,k1,c1,rfl,ho,hu⟩
 repeat' (first|go_values|go_skip|go_guarded|go_step|go_upon|(simp only [];go_at_K))
 go_ret
 exact ⟨A1,k1,c1,rfl,ho,hu⟩
end Go.Proofs.YtijhlbeipglieaaGreat
namespace Go.Proofs.YtijhlbeipglieaaGreat
open Go.RowKit Agio
theorem ret_int {k:IntKind} {a b:Int} (h:a=b):Ending.returned (.int k a)= .returned (.int k b):=by rw [h]
structure Rr (w:World) (g:Nat) (A:Option Addr) (k c:Nat) (b:List UInt8) (at_:Nat):Prop where
 blk:Blk w g 365 #[.slice A k c,.int .i64 (at_:Int)]
 own:OwnB 5 w A k c b
 le:at_≤b.length
def flt (bad at_:Nat):Value:=if bad=0 then .nilIface else .iface 388 (.agg #[.int .i64 (bad:Int),.int .i64 (at_:Int)])
theorem flt_zero (a:Nat):flt 0 a= .nilIface:=rfl
theorem flt_pos {bad:Nat} (h:bad≠0) (a:Nat):flt bad a= .iface 388 (.agg #[.int .i64 (bad:Int),.int .i64 (a:Int)]):=if_neg h
section
variable {w w':World} {g:Nat} {A:Option Addr} {k c:Nat} {b:List UInt8} {at_:Nat}
theorem Rr.upd {p q:List Nat} (h:Rr w g A k c b at_) (hu:Upd p q w w') (hd:∀j∈g :: ablk A,j∉p):Rr w' g A k c b at_:=
 ⟨h.blk.upd hu (hd g (by simp)),h.own.upd hu fun j hj=>hd j (by simp [hj]),h.le⟩
theorem Rr.ne (h:Rr w g A k c b at_):g∉ablk A:=h.own.own.ne h.blk (by decide)
theorem Rr.drewN (h:Rr w g A k c b at_) (n:Nat):Rr (w.drewN n) g A k c b at_:=⟨h.blk,⟨h.own.len,h.own.own.drewN n⟩,h.le⟩
theorem Rr.put (h:Rr w g A k c b at_) (a':Nat) (ha:a'≤b.length) :
  Rr (w.setCell ⟨g,1,none⟩ (.int .i64 (a':Int))) g A k c b a'∧Upd [g] [g] w (w.setCell ⟨g,1,none⟩ (.int .i64 (a':Int))):=by
 have hu:Upd [g] [g] w (w.setCell ⟨g,1,none⟩ (.int .i64 (a':Int))):=(Upd.refl [g] w).setCell (.inl (by simp)) _
 refine ⟨⟨by simpa using h.blk.set_ 1 (.int .i64 (a':Int)),h.own.upd hu (fun j hj=>by simp;rintro rfl;exact h.ne hj),ha⟩,hu⟩
end
theorem wireFrom (w:World) (B:Option Addr) (m d:Nat) (r:List UInt8) (hr:RdB w B m r) (hlen:r.length≤140737488355328) :
  Calls Tryz.prog 234 #[.slice B m d] w fun e w'=>∃g A k c,e= .returned (.pointer (some ⟨g,0,none⟩))∧Rr w' g A k c r 0∧Upd [] (g :: ablk A) w w':=by
 go_enter Tryz.func234,Tryz.ntmps234
 repeat' (first|go_values|go_skip|go_guarded|go_step|go_upon|(simp only [];go_at_K))
 refine (bytesClone w B m d r hr hlen).mono ?_
 rintro e w1 ⟨A1,k1,c1,rfl,ho,hu⟩
 repeat' (first|go_values|go_skip|go_guarded|go_step|go_upon|(simp only [];go_at_K))
 go_ret
 refine ⟨_,A1,k1,c1,rfl,⟨by simpa using Blk.new _ _ _,ho.alloc _,Nat.zero_le _⟩,(hu.alloc _).gives ?_⟩
 intro j hj
 rcases List.mem_cons.1 hj with rfl | hj
 ·exact .inr hu.size
 ·exact hu.fresh j hj
theorem readerLeft (w:World) (g:Nat) (A:Option Addr) (k c:Nat) (b:List UInt8) (a:Nat) (hr:Rr w g A k c b a) (hb:b.length≤140737488355328) :
  Calls Tryz.prog 270 #[.pointer (some ⟨g,0,none⟩)] w fun e w'=>e= .returned (.int .i64 ((b.length - a:Nat):Int))∧∃n,w'=w.drewN n:=by
 obtain rfl:=hr.own.len
 have hc0:=hr.blk.cell 0
 have hc1:=hr.blk.cell 1
 have hle:=hr.le
 simp at hc0 hc1
 go_enter Tryz.func270,Tryz.ntmps270
 repeat' (first|go_values|go_skip|go_guarded|go_step|go_upon|(simp only [];go_at_K))
 go_quiet (fail)
 repeat' (first|go_values|go_skip|go_guarded|go_step|go_upon|(simp only [];go_at_K))
 go_ret
 exact ⟨ret_int (by omega),nq,rfl⟩
theorem readerFault (w:World) (g:Nat) (A:Option Addr) (k c:Nat) (b:List UInt8) (a:Nat) (no:Int) (hr:Rr w g A k c b a) :
  Calls Tryz.prog 269 #[.pointer (some ⟨g,0,none⟩),.int .i64 no] w fun e w'=>e= .returned (.iface 388 (.agg #[.int .i64 no,.int .i64 (a:Int)]))∧w=w':=by
 have hc1:=hr.blk.cell 1
 simp at hc1
 go_enter Tryz.func269,Tryz.ntmps269
 repeat' (first|go_values|go_skip|go_guarded|go_step|go_upon|(simp only [];go_at_K))
 go_ret
 exact ⟨rfl,rfl⟩
theorem readerNext (w:World) (g:Nat) (A:Option Addr) (k c:Nat) (b:List UInt8) (a:Nat) (hr:Rr w g A k c b a) (hb:b.length≤140737488355328) :
  Calls Tryz.prog 294 #[.pointer (some ⟨g,0,none⟩)] w fun e w'=>e= .returned (.tuple #[.int .u64 ((uv (b.drop a)).1:Int),.int .i64 ((uv (b.drop a)).2.1:Int),.int .i64 ((uv (b.drop a)).2.2:Int)])∧∃n,w'=w.drewN n:=by
 obtain rfl:=hr.own.len
 have hc0:=hr.blk.cell 0
 have hc1:=hr.blk.cell 1
 have hle:=hr.le
 have hcap:=hr.own.own.cap
 simp at hc0 hc1
 go_enter Tryz.func294,Tryz.ntmps294
 repeat' (first|go_values|go_skip|go_guarded|go_step|go_upon|(simp only [];go_at_K))
 go_quiet (fail)
 repeat' (first|go_values|go_skip|go_guarded|go_step|go_upon|(simp only [];go_at_K))
 have hrd:RdB (w.drewN nq) (if c=a then A else Option.map (fun x=>x.add a) A) (b.length - a) (b.drop a):=by
  have:=(hr.own.rd.drewN nq).cut (k:=a) (cap:=c) hle hcap.1
  simpa [RdB,b8s,List.map_drop] using this
 generalize (if c=a then A else Option.map (fun x=>x.add a) A)=A' at *
 have hll:(b.drop a).length≤140737488355328:=by simp;omega
 obtain ⟨l,hl⟩:∃l,l=b.drop a:=⟨_,rfl⟩
 rw [←hl] at hrd hll
 have HL:=Lib.hid hl;clear hl
 generalize b.length - a=n at *
 obtain rfl:=hrd.len
 clear hb hle hcap hr hc0 hc1
 go_loop [5,20] (fun v5 v20=>∃i acc:Nat,i≤l.length∧v20= .int .i64 (i:Int)∧v5= .int .u64 (acc:Int)∧acc < 128 ^ i∧i≤9∧uvA i acc (l.drop i)=uv l)
  (fun _ v20=>l.length - (intOf v20).toNat)
 case atStart=>exact ⟨0,0,Nat.zero_le _,rfl,rfl,by omega,by omega,rfl⟩
 case round=>
  obtain ⟨i,acc,hi,rfl,rfl,hacc,hi9,huv⟩:=hrel
  have HU:=Lib.hid huv;clear huv
  by_cases hlt:i < l.length
  ·obtain ⟨ad,u,rfl,hx,hcell⟩:=Rd.at_ hrd hlt
   rw [b8s_get l i hlt] at hx
   obtain rfl:=Option.some.inj hx
   have HD:=Lib.hid (List.drop_eq_getElem_cons hlt)
   have hcn:l[i].toNat < 256:=l[i].toNat_lt
   clear hx
   generalize hce:l[i].toNat=cn at *
   have HC:=Lib.hid hce;clear hce
   have h0:¬ cn=0→((cn:Int) == 0)=false:=by intro h;simp;omega
   by_cases h128:128≤cn
   ·by_cases h9:i=9
    ·have h9':((i:Int) == 9)=true:=by simp;omega
     have H9:=Lib.hid h9;clear h9
     have E:Hid (uv (b.drop a)=(0,0,2)):=by rw [←HL.out,←HU.out,HD.out,uvA_nine H9.out (by rw [HC.out];omega)];rfl
     repeat' (first|go_values|go_skip|go_guarded|go_step|go_upon|(simp only [];go_at_K))
     go_ret3
     exact ⟨by rw [E.out];rfl,nq,rfl⟩
    ·have h9':((i:Int) == 9)=false:=by simp;omega
     repeat' (first|go_values|go_skip|go_guarded|go_step|go_upon|(simp only [];go_at_K))
     rw [acc_byte hi9 hacc hcn (fun h=>absurd h h9)]
     refine ⟨⟨i + 1,_,by omega,by simp,rfl,acc_lt hacc,by omega,?_⟩,by simp [intOf];omega⟩
     rw [←HU.out,HD.out,uvA_more (by rw [HC.out];omega) (by rw [HC.out];exact h128),HC.out]
   ·have h128':cn < 128:=by omega
    by_cases h9:i=9
    ·have h9':((i:Int) == 9)=true:=by simp;omega
     have hi0:0 < i:=by omega
     have H9:=Lib.hid h9;clear h9
     by_cases h1:1 < cn
     ·have E:Hid (uv (b.drop a)=(0,0,2)):=by rw [←HL.out,←HU.out,HD.out,uvA_nine H9.out (by rw [HC.out];omega)];rfl
      repeat' (first|go_values|go_skip|go_guarded|go_step|go_upon|(simp only [];go_at_K))
      go_ret3
      exact ⟨by rw [E.out];rfl,nq,rfl⟩
     ·by_cases hz:cn=0
      ·have hz':((cn:Int) == 0)=true:=by simp;omega
       have E:Hid (uv (b.drop a)=(0,0,2)):=by rw [←HL.out,←HU.out,HD.out,uvA_zero (by rw [HC.out];omega) hi0];rfl
       have HZ:=Lib.hid hz;clear hz
       repeat' (first|go_values|go_skip|go_guarded|go_step|go_upon|(simp only [];go_at_K))
       go_ret3
       exact ⟨by rw [E.out];rfl,nq,rfl⟩
      ·have hz':((cn:Int) == 0)=false:=by simp;omega
       have E:Hid (uv (b.drop a)=(acc + cn % 128 * 128 ^ i,i + 1,0)):=by rw [←HL.out,←HU.out,HD.out,uvA_last (by rw [HC.out];omega) (by rw [HC.out];omega) (by rw [HC.out];omega),HC.out];rfl
       repeat' (first|go_values|go_skip|go_guarded|go_step|go_upon|(simp only [];go_at_K))
       rw [acc_byte hi9 hacc hcn (fun _=>by omega)]
       go_ret3
       exact ⟨by rw [E.out];rfl,nq,rfl⟩
    ·have h9':((i:Int) == 9)=false:=by simp;omega
     by_cases hz:cn=0
     ·have hz':((cn:Int) == 0)=true:=by simp;omega
      by_cases hi0:0 < i
      ·have E:Hid (uv (b.drop a)=(0,0,2)):=by rw [←HL.out,←HU.out,HD.out,uvA_zero (by rw [HC.out];omega) hi0];rfl
       have HZ:=Lib.hid hz;clear hz
       repeat' (first|go_values|go_skip|go_guarded|go_step|go_upon|(simp only [];go_at_K))
       go_ret3
       exact ⟨by rw [E.out];rfl,nq,rfl⟩
      ·have E:Hid (uv (b.drop a)=(acc + cn % 128 * 128 ^ i,i + 1,0)):=by rw [←HL.out,←HU.out,HD.out,uvA_last (by rw [HC.out];omega) (by rw [HC.out];omega) (by rw [HC.out];omega),HC.out];rfl
       have HZ:=Lib.hid hz;clear hz
       repeat' (first|go_values|go_skip|go_guarded|go_step|go_upon|(simp only [];go_at_K))
       rw [acc_byte hi9 hacc hcn (fun h=>absurd h h9)]
       go_ret3
       exact ⟨by rw [E.out];rfl,nq,rfl⟩
     ·have hz':((cn:Int) == 0)=false:=by simp;omega
      have E:Hid (uv (b.drop a)=(acc + cn % 128 * 128 ^ i,i + 1,0)):=by rw [←HL.out,←HU.out,HD.out,uvA_last (by rw [HC.out];omega) (by rw [HC.out];omega) (by rw [HC.out];omega),HC.out];rfl
      repeat' (first|go_values|go_skip|go_guarded|go_step|go_upon|(simp only [];go_at_K))
      rw [acc_byte hi9 hacc hcn (fun h=>absurd h h9)]
      go_ret3
      exact ⟨by rw [E.out];rfl,nq,rfl⟩
  ·have E:Hid (uv (b.drop a)=(0,0,3)):=by rw [←HL.out,←HU.out,List.drop_of_length_le (by omega)];rfl
   repeat' (first|go_values|go_skip|go_guarded|go_step|go_upon|(simp only [];go_at_K))
   go_ret3
   exact ⟨by rw [E.out];rfl,nq,rfl⟩
end Go.Proofs.YtijhlbeipglieaaGreat
namespace Go.Proofs.YtijhlbeipglieaaGreat
open Go.RowKit Agio
theorem readerUpTo (w:World) (g:Nat) (A:Option Addr) (k c:Nat) (b:List UInt8) (a:Nat) (most:Int) (hm:I64 most) (hr:Rr w g A k c b a) (hb:b.length≤140737488355328) :
  Calls Tryz.prog 268 #[.pointer (some ⟨g,0,none⟩),.int .i64 most] w fun e w'=>e= .returned (.tuple #[.int .i64 ((upt most (b.drop a)).1:Int),.int .i64 ((upt most (b.drop a)).2.1:Int),.int .i64 ((upt most (b.drop a)).2.2:Int)])∧∃n,w'=w.drewN n:=by
 obtain ⟨l,hl⟩:∃l,l=b.drop a:=⟨_,rfl⟩
 have C:=readerNext w g A k c b a hr hb
 rw [←hl] at C ⊢
 clear hl
 obtain ⟨n,sz,bad,hu⟩:∃n sz bad,uv l=(n,sz,bad):=⟨_,_,_,rfl⟩
 have hok:=uv_ok (l:=l)
 have hbad:=uv_bad (l:=l)
 unfold I64 at hm
 rw [hu] at C hok hbad
 by_cases h0:bad=0
 ·subst h0
  have hU:=(hok rfl).2.2.2
  have hs:=(hok rfl).2.2.1
  clear hok hbad
  by_cases h1:most < 0
  ·have E:Hid (upt most l=(0,0,8)):=by unfold upt Hid;rw [hu];simp [h1]
   clear hu
   go_enter Tryz.func268,Tryz.ntmps268
   repeat' (first|go_values|go_skip|go_guarded|go_step|go_upon|(simp only [];go_at_K))
   refine C.mono ?_
   rintro e w1 ⟨rfl,nq,rfl⟩
   repeat' (first|go_values|go_skip|go_guarded|go_step|go_upon|(simp only [];go_at_K))
   go_ret3
   exact ⟨by rw [E.out];rfl,nq,rfl⟩
  ·by_cases h2:most < (n:Int)
   ·have E:Hid (upt most l=(0,0,8)):=by unfold upt Hid;rw [hu];simp [h1,h2]
    clear hu
    go_enter Tryz.func268,Tryz.ntmps268
    repeat' (first|go_values|go_skip|go_guarded|go_step|go_upon|(simp only [];go_at_K))
    refine C.mono ?_
    rintro e w1 ⟨rfl,nq,rfl⟩
    repeat' (first|go_values|go_skip|go_guarded|go_step|go_upon|(simp only [];go_at_K))
    go_ret3
    exact ⟨by rw [E.out];rfl,nq,rfl⟩
   ·have E:Hid (upt most l=(n,sz,0)):=by unfold upt Hid;rw [hu];simp [h1,h2]
    clear hu
    go_enter Tryz.func268,Tryz.ntmps268
    repeat' (first|go_values|go_skip|go_guarded|go_step|go_upon|(simp only [];go_at_K))
    refine C.mono ?_
    rintro e w1 ⟨rfl,nq,rfl⟩
    repeat' (first|go_values|go_skip|go_guarded|go_step|go_upon|(simp only [];go_at_K))
    go_ret3
    exact ⟨by rw [E.out];rfl,nq,rfl⟩
 ·have E:Hid (upt most l=(0,0,bad)):=by unfold upt Hid;rw [hu];simp [h0]
  have h0':((bad:Int) == 0)=false:=by simp;omega
  have h0n:((bad:Int) != 0)=true:=by simp;omega
  clear hu hok hbad
  go_enter Tryz.func268,Tryz.ntmps268
  repeat' (first|go_values|go_skip|go_guarded|go_step|go_upon|(simp only [];go_at_K))
  refine C.mono ?_
  rintro e w1 ⟨rfl,nq,rfl⟩
  repeat' (first|go_values|go_skip|go_guarded|go_step|go_upon|(simp only [];go_at_K))
  go_ret3
  exact ⟨by rw [E.out];rfl,nq,rfl⟩
theorem readerSmall (w:World) (g:Nat) (A:Option Addr) (k c:Nat) (b:List UInt8) (a:Nat) (most:Int) (hm:I64 most) (hr:Rr w g A k c b a) (hb:b.length≤140737488355328) :
  Calls Tryz.prog 236 #[.pointer (some ⟨g,0,none⟩),.int .i64 most] w fun e w'=>e= .returned (.tuple #[.int .i64 ((upt most (b.drop a)).1:Int),flt (upt most (b.drop a)).2.2 a])∧Rr w' g A k c b (a + (upt most (b.drop a)).2.1)∧Upd [g] [g] w w':=by
 have C:=readerUpTo w g A k c b a most hm hr hb
 have hok:=upt_ok (l:=b.drop a) (most:=most)
 have hbad:=upt_bad (l:=b.drop a) (most:=most)
 have huv:=uv_ok (l:=b.drop a)
 have hll:(b.drop a).length=b.length - a:=by simp
 have hle:=hr.le
 rw [hll] at huv
 have hc1:=hr.blk.cell 1
 have hf1:=hr.blk.frozen 1
 simp at hc1
 have HV:=Lib.hid huv;clear huv hll
 obtain ⟨n,sz,bad,hu⟩:∃n sz bad,upt most (b.drop a)=(n,sz,bad):=⟨_,_,_,rfl⟩
 rw [hu] at C hok hbad ⊢
 clear hu
 by_cases h0:bad=0
 ·subst h0
  obtain ⟨h1,h2,h3,h4⟩:=hok rfl
  have h5:=HV.out h1
  rw [←h2] at h5 h4
  have hs:sz≤10:=h5.2.2.1
  have hs2:a + sz≤b.length:=by have:sz≤b.length - a:=h5.2.1;omega
  clear hok hbad h1 h2 h5 HV
  simp only [flt_zero]
  go_enter Tryz.func236,Tryz.ntmps236
  repeat' (first|go_values|go_skip|go_guarded|go_step|go_upon|(simp only [];go_at_K))
  refine C.mono ?_
  rintro e w1 ⟨rfl,nq,rfl⟩
  have P:=(hr.drewN nq).put (a + sz) hs2
  repeat' (first|go_values|go_skip|go_guarded|go_step|go_upon|(simp only [];go_at_K))
  go_ret2
  exact ⟨rfl,by simpa using P.1,by simpa using ((Upd.refl [g] w).drewN nq).trans P.2⟩
 ·have h0':((bad:Int) == 0)=false:=by simp;omega
  have h0n:((bad:Int) != 0)=true:=by simp;omega
  obtain ⟨rfl,rfl⟩:=hbad h0
  clear hok HV
  go_enter Tryz.func236,Tryz.ntmps236
  repeat' (first|go_values|go_skip|go_guarded|go_step|go_upon|(simp only [];go_at_K))
  refine C.mono ?_
  rintro e w1 ⟨rfl,nq,rfl⟩
  repeat' (first|go_values|go_skip|go_guarded|go_step|go_upon|(simp only [];go_at_K))
  refine (readerFault _ g A k c b a _ (hr.drewN nq)).mono ?_
  rintro e w1 ⟨rfl,rfl⟩
  repeat' (first|go_values|go_skip|go_guarded|go_step|go_upon|(simp only [];go_at_K))
  go_ret2
  exact ⟨by simp only [flt_pos h0];rfl,hr.drewN nq,(Upd.refl [g] w).drewN nq⟩
theorem readerEnd (w:World) (g:Nat) (A:Option Addr) (k c:Nat) (b:List UInt8) (a:Nat) (hr:Rr w g A k c b a) (hb:b.length≤140737488355328) :
  Calls Tryz.prog 238 #[.pointer (some ⟨g,0,none⟩)] w fun e w'=>e= .returned (flt (if a < b.length then 2 else 0) a)∧∃n,w'=w.drewN n:=by
 have C:=readerLeft w g A k c b a hr hb
 have hle:=hr.le
 by_cases h:a < b.length
 ·rw [if_pos h,flt_pos (by decide)]
  have h':0 < b.length - a:=by omega
  go_enter Tryz.func238,Tryz.ntmps238
  repeat' (first|go_values|go_skip|go_guarded|go_step|go_upon|(simp only [];go_at_K))
  refine C.mono ?_
  rintro e w1 ⟨rfl,nq,rfl⟩
  repeat' (first|go_values|go_skip|go_guarded|go_step|go_upon|(simp only [];go_at_K))
  refine (readerFault _ g A k c b a _ (hr.drewN nq)).mono ?_
  rintro e w1 ⟨rfl,rfl⟩
  repeat' (first|go_values|go_skip|go_guarded|go_step|go_upon|(simp only [];go_at_K))
  go_ret
  exact ⟨rfl,nq,rfl⟩
 ·rw [if_neg h,flt_zero]
  have h':¬ 0 < b.length - a:=by omega
  go_enter Tryz.func238,Tryz.ntmps238
  repeat' (first|go_values|go_skip|go_guarded|go_step|go_upon|(simp only [];go_at_K))
  refine C.mono ?_
  rintro e w1 ⟨rfl,nq,rfl⟩
  repeat' (first|go_values|go_skip|go_guarded|go_step|go_upon|(simp only [];go_at_K))
  go_ret
  exact ⟨rfl,nq,rfl⟩
end Go.Proofs.YtijhlbeipglieaaGreat
namespace Go.Proofs.YtijhlbeipglieaaGreat
open Go.RowKit Agio
theorem readerBytes (w:World) (g:Nat) (A:Option Addr) (k c:Nat) (b:List UInt8) (a:Nat) (most:Int) (hm:I64 most) (hr:Rr w g A k c b a) (hb:b.length≤140737488355328) :
  Calls Tryz.prog 237 #[.pointer (some ⟨g,0,none⟩),.int .i64 most] w fun e w'=>∃A' k' c',e= .returned (.tuple #[.slice A' k' c',flt (tk most (b.drop a)).2.2 a])∧
   OwnB 5 w' A' k' c' (tk most (b.drop a)).1∧Rr w' g A k c b (a + (tk most (b.drop a)).2.1)∧Upd [g] (g :: ablk A') w w':=by
 obtain rfl:=hr.own.len
 have C:=readerUpTo w g A b.length c b a most hm hr hb
 have hok:=upt_ok (l:=b.drop a) (most:=most)
 have hbad:=upt_bad (l:=b.drop a) (most:=most)
 have huv:=uv_ok (l:=b.drop a)
 have hll:(b.drop a).length=b.length - a:=by simp
 have hle:=hr.le
 rw [hll] at huv
 have hc0:=hr.blk.cell 0
 have hc1:=hr.blk.cell 1
 have hf1:=hr.blk.frozen 1
 simp at hc0 hc1
 have HV:=Lib.hid huv;clear huv
 have HL:=Lib.hid hll;clear hll
 obtain ⟨n,sz,bad,hu⟩:∃n sz bad,upt most (b.drop a)=(n,sz,bad):=⟨_,_,_,rfl⟩
 rw [hu] at C hok hbad
 have HT:=Lib.hid hu;clear hu
 by_cases h0:bad=0
 ·subst h0
  obtain ⟨h1,h2,h3,h4⟩:=hok rfl
  have h5:=HV.out h1
  rw [←h2] at h5 h4
  have hs:sz≤10:=h5.2.2.1
  have hs2:sz≤b.length - a:=h5.2.1
  have hn:(n:Int)≤most:=h4
  have hI:(n:Int)≤9223372036854775807:=by unfold I64 at hm;omega
  clear hok hbad h1 h2 h5 HV h4
  by_cases hlt:b.length - a - sz < n
  ·have E:Hid (tk most (b.drop a)=([],0,3)):=tk_short HT.out (by rw [HL.out];exact hlt)
   clear HT
   rw [E.out,flt_pos (by decide)]
   go_enter Tryz.func237,Tryz.ntmps237
   repeat' (first|go_values|go_skip|go_guarded|go_step|go_upon|(simp only [];go_at_K))
   refine C.mono ?_
   rintro e w1 ⟨rfl,nq,rfl⟩
   repeat' (first|go_values|go_skip|go_guarded|go_step|go_upon|(simp only [];go_at_K))
   go_quiet (fail)
   repeat' (first|go_values|go_skip|go_guarded|go_step|go_upon|(simp only [];go_at_K))
   refine (readerFault _ g A b.length c b a _ (hr.drewN _)).mono ?_
   rintro e w1 ⟨rfl,rfl⟩
   repeat' (first|go_values|go_skip|go_guarded|go_step|go_upon|(simp only [];go_at_K))
   go_ret2
   exact ⟨none,0,0,rfl,OwnB.nil _ _,hr.drewN _,((Upd.refl [g] w).drewN _).gives (by simp [ablk])⟩
  ·have E:Hid (tk most (b.drop a)=(((b.drop a).drop sz).take n,sz + n,0)):=tk_ok HT.out (by rw [HL.out];exact hlt)
   clear HT
   rw [E.out,flt_zero]
   go_enter Tryz.func237,Tryz.ntmps237
   repeat' (first|go_values|go_skip|go_guarded|go_step|go_upon|(simp only [];go_at_K))
   refine C.mono ?_
   rintro e w1 ⟨rfl,nq1,rfl⟩
   repeat' (first|go_values|go_skip|go_guarded|go_step|go_upon|(simp only [];go_at_K))
   go_quiet (fail)
   repeat' (first|go_values|go_skip|go_guarded|go_step|go_upon|(simp only [];go_at_K))
   have P:=(hr.drewN (nq1 + nq)).put (a + (sz + n)) (by omega)
   rw [show ((a + (sz + n):Nat):Int)=(a:Int) + sz + n by omega] at P
   have hu0:Upd [g] [g] w (w.drewN (nq1 + nq)):=(Upd.refl [g] w).drewN _
   generalize (w.drewN (nq1 + nq)).setCell ⟨g,1,none⟩ (.int .i64 ((a:Int) + sz + n))=W at P ⊢
   have hW0:=P.1.blk.cell 0
   have hW1:=P.1.blk.cell 1
   simp at hW0 hW1
   rw [show ((a:Int) + (sz + n))=(a:Int) + sz + n by omega] at hW1
   have hD0:({W with drawn:=W.drawn + 1} :World).cell? ⟨g,0,none⟩=some (.slice A b.length c):=hW0
   have hD1:({W with drawn:=W.drawn + 1} :World).cell? ⟨g,1,none⟩=some (.int .i64 ((a:Int) + sz + n)):=hW1
   have hcap:=hr.own.own.cap
   have hcm:=hcap.2
   unfold maxLen at hcm
   have hx1:(0:Int)≤(a:Int) + sz:=by omega
   have hx2:(a:Int) + sz≤(a:Int) + sz + n:=by omega
   have hx3:(a:Int) + sz + n≤(c:Int):=by omega
   go_still_tail 10,(by kernel_rfl)
   change wpList _ _ _ _ _ W.drew
   repeat' (first|go_values|go_skip|go_guarded|go_step|go_upon|(simp only [];go_at_K))
   rw [show a + sz + n - (a + sz)=n by omega]
   have hrd:RdB W.drew (if c=a + sz then A else Option.map (fun x=>x.add (a + sz)) A) n (((b.drop a).drop sz).take n):=by
    have h1:=(P.1.own.rd.drew.cut (k:=a + sz) (cap:=c) (by omega) hcap.1).take (k:=n) (by omega)
    simpa [RdB,b8s,List.map_drop,List.map_take,List.drop_drop] using h1
   refine (bytesClone W.drew _ n _ _ hrd (by simp;omega)).mono ?_
   rintro e w1 ⟨A1,k1,c1,rfl,ho,hu1⟩
   repeat' (first|go_values|go_skip|go_guarded|go_step|go_upon|(simp only [];go_at_K))
   go_ret2
   refine ⟨A1,k1,c1,rfl,ho,P.1.upd (Upd.trans (Upd.refl [] W).drew hu1) (by simp),?_⟩
   have hu2:Upd [g] [g] w W.drew:=(hu0.trans P.2).drew
   refine (hu2.trans (hu1.mono (a':=[g]) (b':=g :: ablk A1) (by simp) ?_))
   intro j hj
   rcases List.mem_cons.1 hj with rfl | hj
   ·exact .inr (.inl (by simp))
   ·exact .inl hj
 ·have E:Hid (tk most (b.drop a)=([],0,bad)):=tk_bad HT.out h0
  have h0':((bad:Int) == 0)=false:=by simp;omega
  have h0n:((bad:Int) != 0)=true:=by simp;omega
  clear hok HV hbad HT
  rw [E.out,flt_pos h0]
  go_enter Tryz.func237,Tryz.ntmps237
  repeat' (first|go_values|go_skip|go_guarded|go_step|go_upon|(simp only [];go_at_K))
  refine C.mono ?_
  rintro e w1 ⟨rfl,nq,rfl⟩
  repeat' (first|go_values|go_skip|go_guarded|go_step|go_upon|(simp only [];go_at_K))
  go_quiet (fail)
  repeat' (first|go_values|go_skip|go_guarded|go_step|go_upon|(simp only [];go_at_K))
  refine (readerFault _ g A b.length c b a _ (hr.drewN _)).mono ?_
  rintro e w1 ⟨rfl,rfl⟩
  repeat' (first|go_values|go_skip|go_guarded|go_step|go_upon|(simp only [];go_at_K))
  go_ret2
  exact ⟨none,0,0,rfl,OwnB.nil _ _,hr.drewN _,((Upd.refl [g] w).drewN _).gives (by simp [ablk])⟩
end Go.Proofs.YtijhlbeipglieaaGreat
