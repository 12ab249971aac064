/- Merged: Crc, Frame2, Frame3, Frame4. -/
import Derived.Laws.Cover3
import Derived.Laws.StructEq
import Derived.Deep.RegionWith
import Derived.Test.YtijhlbeipglieaaGreatPkWire
set_option linter.all false
set_option maxRecDepth 100000
set_option maxHeartbeats 1000000
namespace Go.Proofs.YtijhlbeipglieaaGreat
open Go.RowKit Agio
theorem crcAdd (c:UInt8) (m:Nat) (hm:U32 m) (w:World) (g:Nat) (hb:Blk w g 291 #[.int .u32 (m:Int)]) :
  Calls Tryz.prog 281 #[.int .u8 (c.toNat:Int),.pointer (some ⟨g,0,none⟩)] w fun e w'=>e= .returned (.tuple #[])∧Blk w' g 291 #[.int .u32 ((crcB m c:Nat):Int)]∧Upd [g] [g] w w':=by
 have hc:=hb.cell 0
 have hf:=hb.frozen 0
 simp at hc
 go_enter Tryz.func281,Tryz.ntmps281
 repeat' (first|go_values|go_skip|go_guarded|go_step|go_upon|(simp only [];go_at_K))
 go_loopw [8] (fun v8 wr=>∃k:Nat,k≤8∧v8= .int .i64 (k:Int)∧Blk wr g 291 #[.int .u32 ((bitN k (m ^^^ c.toNat):Nat):Int)]∧Upd [g] [g] w wr) (fun v8 _=>8 - (intOf v8).toNat)
 case atStart=>
  refine ⟨0,by omega,rfl,?_,(Upd.refl _ _).setCell (.inl (by simp)) _⟩
  rw [bits_byte hm]
  exact hb.set_ 0 _
 case round=>
  obtain ⟨k,hk,rfl,hbk,hu⟩:=hrel
  have hU:=bitN_U32 (hm.xor (U32.byte c)) k
  have HN:Hid (bitN (k + 1) (m ^^^ c.toNat)=bit1 (bitN k (m ^^^ c.toNat))):=rfl
  have H8:Hid (k=8→bitN k (m ^^^ c.toNat)=crcB m c):=fun h=>by subst h;rfl
  generalize bitN k (m ^^^ c.toNat)=x at *
  clear hc
  have hc:=hbk.cell 0
  have hf:=hbk.frozen 0
  simp at hc
  by_cases hlt:k < 8
  ·by_cases hodd:x % 2=1
   ·have ho:=bits_odd hU hodd
    repeat' (first|go_values|go_skip|go_guarded|go_step|go_upon|(simp only [];go_at_K))
    refine ⟨⟨k + 1,by omega,rfl,?_,(hu.setCell (.inl (by simp)) _).setCell (.inl (by simp)) _⟩,by simp [intOf];omega⟩
    rw [HN.out,bits_pol hU hodd]
    exact (hbk.set_ 0 _).set_ 0 _
   ·have ho:=bits_even hU hodd
    repeat' (first|go_values|go_skip|go_guarded|go_step|go_upon|(simp only [];go_at_K))
    refine ⟨⟨k + 1,by omega,rfl,?_,hu.setCell (.inl (by simp)) _⟩,by simp [intOf];omega⟩
    rw [HN.out,bits_half hodd]
    exact hbk.set_ 0 _
  ·obtain rfl:k=8:=by omega
   have E:Hid (x=crcB m c):=H8.out rfl
   repeat' (first|go_values|go_skip|go_guarded|go_step|go_upon|(simp only [];go_at_K))
   go_end0
   exact ⟨rfl,by rw [←E.out];exact hbk,hu⟩
theorem crcMore (s:Nat) (hs:U32 s) (w:World) (A:Option Addr) (n c:Nat) (l:List UInt8) (hr:RdB w A n l) (hl:l.length≤140737488355328) :
  Calls Tryz.prog 252 #[.int .u32 (s:Int),.slice A n c] w fun e w'=>e= .returned (.int .u32 ((more s l:Nat):Int))∧Upd [] [] w w':=by
 obtain rfl:=hr.len
 have hlt:=hr.lt
 go_enter Tryz.func252,Tryz.ntmps252
 repeat' (first|go_values|go_skip|go_guarded|go_step|go_upon|(simp only [];go_at_K))
 go_loopw [14] (fun v14 wr=>∃k:Nat,k≤l.length∧v14= .int .i64 (k:Int)∧Blk wr w.heap.size 291 #[.int .u32 ((crcW (s ^^^ 4294967295) (l.take k):Nat):Int)]∧Upd [] [] w wr) (fun v14 _=>l.length - (intOf v14).toNat)
 case atStart=>
  refine ⟨0,by omega,rfl,?_,(Upd.refl _ _).alloc _⟩
  rw [bits_compl hs]
  exact Blk.new _ _ _
 case round=>
  obtain ⟨k,hk,rfl,hbk,hu⟩:=hrel
  have hU:=crcW_U32 (hs.xor U32.all) (l.take k)
  have hc:=hbk.cell 0
  have hf:=hbk.frozen 0
  simp at hc
  have hrr:=hr.upd hu (by simp)
  by_cases h1:k < l.length
  ·obtain ⟨ad,u,rfl,hx,hcell⟩:=Rd.at_ hrr (k:=k) h1
   rw [b8s_get l k h1] at hx
   obtain rfl:=Option.some.inj hx
   have HS:=Lib.hid (crcW_take (w:=s ^^^ 4294967295) h1)
   generalize crcW (s ^^^ 4294967295) (l.take k)=x at *
   clear hx
   repeat' (first|go_values|go_skip|go_guarded|go_step|go_upon|(simp only [];go_at_K))
   refine (crcAdd l[k] x hU wr w.heap.size hbk).mono ?_
   rintro e w1 ⟨rfl,hb1,hu1⟩
   repeat' (first|go_values|go_skip|go_guarded|go_step|go_upon|(simp only [];go_at_K))
   refine ⟨⟨k + 1,by omega,rfl,?_,?_⟩,by simp [intOf];omega⟩
   ·rw [HS.out];exact hb1
   ·exact ((hu.gives (b':=[w.heap.size]) (by simp)).trans hu1).gives (by simp)
  ·obtain rfl:k=l.length:=by omega
   rw [List.take_length] at hbk hU hc
   repeat' (first|go_values|go_skip|go_guarded|go_step|go_upon|(simp only [];go_at_K))
   go_ret
   refine ⟨?_,hu⟩
   rw [bits_compl hU];rfl
theorem crcSum (w:World) (A:Option Addr) (n c:Nat) (l:List UInt8) (hr:RdB w A n l) (hl:l.length≤140737488355328) :
  Calls Tryz.prog 253 #[.slice A n c] w fun e w'=>e= .returned (.int .u32 ((more 0 l:Nat):Int))∧Upd [] [] w w':=by
 go_enter Tryz.func253,Tryz.ntmps253
 repeat' (first|go_values|go_skip|go_guarded|go_step|go_upon|(simp only [];go_at_K))
 refine (crcMore 0 U32.zero w A n c l hr hl).mono ?_
 rintro e w1 ⟨rfl,hu1⟩
 repeat' (first|go_values|go_skip|go_guarded|go_step|go_upon|(simp only [];go_at_K))
 go_ret
 exact ⟨rfl,hu1⟩
end Go.Proofs.YtijhlbeipglieaaGreat
namespace Go.Proofs.YtijhlbeipglieaaGreat
open Go.RowKit Agio
theorem neq4 (a0 a1 a2 a3 b0 b1 b2 b3:Int) (w:World):(binOp .neq 289 (.agg #[.int .u8 a0,.int .u8 a1,.int .u8 a2,.int .u8 a3]) (.agg #[.int .u8 b0,.int .u8 b1,.int .u8 b2,.int .u8 b3])).run Tryz.prog w
  = .ok (.bool (!((a0 == b0) && ((a1 == b1) && ((a2 == b2) && (a3 == b3)))))) w:=by
 have p0:=fun (x0 x1 x2 x3:Int) (w:World)=>show (part 5 #[.int .u8 x0,.int .u8 x1,.int .u8 x2,.int .u8 x3] 0).run Tryz.prog w= .ok (.int .u8 x0) w by kernel_rfl
 have p1:=fun (x0 x1 x2 x3:Int) (w:World)=>show (part 5 #[.int .u8 x0,.int .u8 x1,.int .u8 x2,.int .u8 x3] 1).run Tryz.prog w= .ok (.int .u8 x1) w by kernel_rfl
 have p2:=fun (x0 x1 x2 x3:Int) (w:World)=>show (part 5 #[.int .u8 x0,.int .u8 x1,.int .u8 x2,.int .u8 x3] 2).run Tryz.prog w= .ok (.int .u8 x2) w by kernel_rfl
 have p3:=fun (x0 x1 x2 x3:Int) (w:World)=>show (part 5 #[.int .u8 x0,.int .u8 x1,.int .u8 x2,.int .u8 x3] 3).run Tryz.prog w= .ok (.int .u8 x3) w by kernel_rfl
 have e0:=fun (a b:Int) (w:World)=>show (Op.equalIn 9999 5 (.int .u8 a) (.int .u8 b)).run Tryz.prog w= .ok (a == b) w by kernel_rfl
 have z:=fun (w:World)=>show (sizeOf 5).run Tryz.prog w= .ok 1 w by kernel_rfl
 rw [run_neq_struct]
 rw [show (10000:Nat)=9999 + 1 from rfl,Op.equalIn]
 simp only [Sem.run_bind,run_underlying Tryz.underlying289,Result.andThen_ok,z,Std.Legacy.Range.forIn_eq_forIn_range',Std.Legacy.Range.size,List.range',List.forIn_cons,List.forIn_nil,Nat.zero_mul,Nat.one_mul,Nat.reduceAdd,Nat.reduceMul,Nat.reduceSub,Nat.reduceDiv,Nat.add_zero,Nat.mul_one,Nat.zero_add,Nat.sub_zero,p0,p1,e0]
 cases a0 == b0
 ·simp [Sem.run_pure]
 simp only [Bool.not_true,Bool.false_eq_true,if_false,Sem.run_pure,Sem.run_bind,Result.andThen_ok,p0,p1,e0]
 cases a1 == b1
 ·simp [Sem.run_pure]
 simp only [Bool.not_true,Bool.false_eq_true,if_false,Sem.run_pure,Sem.run_bind,Result.andThen_ok,p0,p2,e0]
 cases a2 == b2
 ·simp [Sem.run_pure]
 simp only [Bool.not_true,Bool.false_eq_true,if_false,Sem.run_pure,Sem.run_bind,Result.andThen_ok,p0,p3,e0]
 cases a3 == b3 <;> simp [Sem.run_pure]
def arr4 (l:List UInt8):Value:=.agg (b8s l).toArray
theorem arr4_four (n:Nat):arr4 (four n)= .agg #[.int .u8 ((n:Int) % 256),.int .u8 ((n:Int) / 256 % 256),.int .u8 ((n:Int) / 65536 % 256),.int .u8 ((n:Int) / 16777216 % 256)]:=by
 have e:∀k:Nat,B8 (UInt8.ofNat k)= .int .u8 ((k:Int) % 256):=fun k=>by
  unfold B8;congr 1
 simp only [arr4,four,b8s,List.map_cons,List.map_nil,e]
 congr 1
theorem frameFour (n:Nat) (_hn:U32 n) (w:World) :
  Calls Tryz.prog 201 #[.int .u32 (n:Int)] w fun e w'=>e= .returned (arr4 (four n))∧Upd [] [] w w':=by
 rw [arr4_four]
 go_enter Tryz.func201,Tryz.ntmps201
 repeat' (first|go_values|go_skip|go_guarded|go_step|go_upon|(simp only [];go_at_K))
 exact bodyPost_ret (v:=.agg #[.int .u8 ((n:Int) % 256),.int .u8 ((n:Int) / 256 % 256),.int .u8 ((n:Int) / 65536 % 256),.int .u8 ((n:Int) / 16777216 % 256)]) (by simp [results,Tryz.results201,go_sem]) rfl ⟨rfl,(Upd.refl _ _).alloc _⟩
theorem frameSum (z0 z1 z2 z3:UInt8) (w:World) (A:Option Addr) (n c:Nat) (b:List UInt8) (hr:RdB w A n b) (hb:b.length≤140737488355328) :
  Calls Tryz.prog 202 #[arr4 [z0,z1,z2,z3],.slice A n c] w fun e w'=>e= .returned (arr4 (four (fsum [z0,z1,z2,z3] b)))∧Upd [] [] w w':=by
 obtain ⟨s,hs⟩:∃s,more 0 [z0,z1,z2,z3]=s:=⟨_,rfl⟩
 have hU:U32 s:=by rw [←hs];exact more_U32 U32.zero _
 have HF:Hid (fsum [z0,z1,z2,z3] b=more s b):=by unfold Hid fsum;rw [hs]
 have HS:=Lib.hid hs;clear hs
 rw [show arr4 [z0,z1,z2,z3]= .agg #[B8 z0,B8 z1,B8 z2,B8 z3] from rfl]
 go_enter Tryz.func202,Tryz.ntmps202
 repeat' (first|go_values|go_skip|go_guarded|go_step|go_upon|(simp only [];go_at_K))
 have hz:RdB ((w.alloc (.cells #[B8 z0,B8 z1,B8 z2,B8 z3] 289)).alloc (.cells #[.int .u8 0,.int .u8 0,.int .u8 0,.int .u8 0] 289)) (some ⟨w.heap.size,0,none⟩) 4 [z0,z1,z2,z3]:=
  Rd.blk (cs:=[B8 z0,B8 z1,B8 z2,B8 z3]) ((Blk.new _ _ _).alloc _) rfl
 refine (crcSum _ _ 4 4 _ hz (by simp)).mono ?_
 rintro e w1 ⟨rfl,hu1⟩
 rw [HS.out]
 have U1:Upd [] [] w w1:=(((Upd.refl [] w).alloc _).alloc _).trans hu1
 have hT1:=(Blk.new (w.alloc (.cells #[B8 z0,B8 z1,B8 z2,B8 z3] 289)) 289 #[.int .u8 0,.int .u8 0,.int .u8 0,.int .u8 0]).upd hu1 (by simp)
 rw [World.size_alloc] at hT1
 clear hu1 hz
 repeat' (first|go_values|go_skip|go_guarded|go_step|go_upon|(simp only [];go_at_K))
 refine (crcMore s hU w1 A n c b (hr.upd U1 (by simp)) hb).mono ?_
 rintro e w2 ⟨rfl,hu2⟩
 have hU2:=more_U32 hU b
 rw [←HF.out] at hU2 ⊢
 obtain ⟨x,hx⟩:∃x,fsum [z0,z1,z2,z3] b=x:=⟨_,rfl⟩
 rw [hx] at hU2 ⊢
 have HX:=Lib.hid hx;clear hx
 repeat' (first|go_values|go_skip|go_guarded|go_step|go_upon|(simp only [];go_at_K))
 refine (frameFour x hU2 w2).mono ?_
 rintro e w3 ⟨rfl,hu3⟩
 have U3:=(U1.trans hu2).trans hu3
 have hT3:=hT1.upd (hu2.trans hu3) (by simp)
 have hlt:=hT3.lt
 obtain ⟨⟨t0,t1,t2,t3⟩,f0,f1,f2,f3⟩:=hT3.c4
 rw [arr4_four]
 repeat' (first|go_values|go_skip|go_guarded|go_step|go_upon|(simp only [];go_at_K))
 have N:=rowSet [.int .u8 ((x:Int) % 256),.int .u8 ((x:Int) / 256 % 256),.int .u8 ((x:Int) / 65536 % 256),.int .u8 ((x:Int) / 16777216 % 256)] hT3 rfl U3 (.inr (by omega))
 simp only [setRow] at N
 generalize World.setCell _ ⟨w.heap.size + 1,3,none⟩ _=W4 at N ⊢
 obtain ⟨hN,hU4⟩:=N
 obtain ⟨⟨q0,q1,q2,q3⟩,-⟩:=hN.c4
 exact bodyPost_ret (v:=.agg #[.int .u8 ((x:Int) % 256),.int .u8 ((x:Int) / 256 % 256),.int .u8 ((x:Int) / 65536 % 256),.int .u8 ((x:Int) / 16777216 % 256)]) (by simp [results,Tryz.results202,go_sem,q0,q1,q2,q3]) rfl ⟨by rw [HX.out,arr4_four],hU4⟩
end Go.Proofs.YtijhlbeipglieaaGreat
namespace Go.Proofs.YtijhlbeipglieaaGreat
open Go.RowKit Agio
theorem frameFirst (w:World) (A:Option Addr) (n c:Nat) (b:List UInt8) (hr:RdB w A n b) (hc:n≤c) (hcm:c≤maxLen) (hb:b.length≤140737488355328) :
  Calls Tryz.prog 254 #[.slice A n c] w fun e w'=>e= .returned (.tuple #[.int .i64 (((fst b).1:Nat):Int),.int .i64 (((fst b).2:Nat):Int)])∧Upd [] [] w w':=by
 obtain rfl:=hr.len
 by_cases h8:b.length < 8
 ·have H:Hid (fst b=(0,3)):=by unfold Hid fst;rw [if_pos h8]
  go_enter Tryz.func254,Tryz.ntmps254
  repeat' (first|go_values|go_skip|go_guarded|go_step|go_upon|(simp only [];go_at_K))
  go_ret2
  exact ⟨by rw [H.out];rfl,Upd.refl _ _⟩
 have hx2:(b.length:Int)≤(c:Int):=by omega
 have hx3:(8:Int)≤(b.length:Int):=by omega
 have hx4:(4:Int)≤(b.length:Int):=by omega
 have hx5:(4:Int)≤(c:Int):=by omega
 have hcM:(c:Int)≤9223372036854775807:=by unfold maxLen at hcm;omega
 obtain ⟨ad,rfl,hcell⟩:=hr.2 (by omega)
 have ha:∀(i:Nat),0 < i→ad.add i=⟨ad.block,ad.off + i,none⟩:=fun i hi=>by unfold Addr.add;rw [if_neg (by omega)]
 have c0:w.cell? ad=some (.int .u8 (b[0].toNat:Int)):=hcell 0 _ (b8s_get b 0 (by omega))
 have c1:=hcell 1 _ (b8s_get b 1 (by omega))
 have c2:=hcell 2 _ (b8s_get b 2 (by omega))
 have c3:=hcell 3 _ (b8s_get b 3 (by omega))
 have c4:=hcell 4 _ (b8s_get b 4 (by omega))
 have c5:=hcell 5 _ (b8s_get b 5 (by omega))
 have c6:=hcell 6 _ (b8s_get b 6 (by omega))
 have c7:=hcell 7 _ (b8s_get b 7 (by omega))
 rw [ha _ (by omega)] at c1 c2 c3 c4 c5 c6 c7
 clear ha hcell
 have hq:=fun w:World=>run_arrayAt (P:=Tryz.prog) (w:=w) 289 5 4 (some ad) 4 c Tryz.underlying289 (by omega)
 have hor:=or4 b[0].toNat_lt b[1].toNat_lt b[2].toNat_lt b[3].toNat_lt (num4_get (b:=b) (by omega))
 have hU:=num4_U32 b
 by_cases h5:4096 < num4 b
 ·have H:Hid (fst b=(0,5)):=by unfold Hid fst;rw [if_neg h8,if_pos h5]
  generalize num4 b=m at *
  clear c4 c5 c6 c7
  go_enter Tryz.func254,Tryz.ntmps254
  repeat' (first|go_values|go_skip|go_guarded|go_step|go_upon|(simp only [];go_at_K))
  go_ret2
  exact ⟨by rw [H.out];rfl,(Upd.refl _ _).alloc _⟩
 by_cases h3:b.length - 8 < num4 b
 ·have H:Hid (fst b=(0,3)):=by unfold Hid fst;rw [if_neg h8,if_neg h5,if_pos h3]
  generalize num4 b=m at *
  clear c4 c5 c6 c7
  have hd:decide ((b.length:Int) - 8 < m)=true:=decide_eq_true (by omega)
  go_enter Tryz.func254,Tryz.ntmps254
  repeat' (first|go_values|go_skip|go_guarded|go_step|go_upon|(simp only [];go_at_K))
  go_ret2
  exact ⟨by rw [H.out];rfl,(Upd.refl _ _).alloc _⟩
 have hdh:decide ((b.length:Int) - 8 < (num4 b:Nat))=false:=decide_eq_false (by omega)
 have hx1:(num4 b:Int) + 8≤(c:Int):=by omega
 have hs4:(b.drop 4).take 4= [b[4],b[5],b[6],b[7]]:=by
  rw [List.drop_eq_getElem_cons (show 4 < b.length by omega),List.drop_eq_getElem_cons (show 4 + 1 < b.length by omega),List.drop_eq_getElem_cons (show 4 + 1 + 1 < b.length by omega),List.drop_eq_getElem_cons (show 4 + 1 + 1 + 1 < b.length by omega)];rfl
 have ht4:b.take 4= [b[0],b[1],b[2],b[3]]:=by
  conv=>lhs;rw [←List.drop_zero (l:=b)]
  rw [List.drop_eq_getElem_cons (show 0 < b.length by omega),List.drop_eq_getElem_cons (show 0 + 1 < b.length by omega),List.drop_eq_getElem_cons (show 0 + 1 + 1 < b.length by omega),List.drop_eq_getElem_cons (show 0 + 1 + 1 + 1 < b.length by omega)];rfl
 have hfs:fst b=if num4 (b.drop 4)≠fsum [b[0],b[1],b[2],b[3]] ((b.drop 8).take (num4 b)) then (0,4) else (num4 b,0):=by unfold fst;rw [if_neg h8,if_neg h5,if_neg h3,ht4]
 have hf4:four (num4 (b.drop 4))= [b[4],b[5],b[6],b[7]]:=by rw [←take4 (by simp;omega),hs4]
 have hp:RdB w (if c=8 then some ad else some ⟨ad.block,ad.off + 8,none⟩) (num4 b) ((b.drop 8).take (num4 b)):=by
  have:=hr.part hc 8 (num4 b) (by omega)
  simpa [Addr.add] using this
 have CS:=fun (W':World) (h:RdB W' (if c=8 then some ad else some ⟨ad.block,ad.off + 8,none⟩) (num4 b) ((b.drop 8).take (num4 b)))=>frameSum b[0] b[1] b[2] b[3] W' _ _ (c - 8) _ h (by simp;omega)
 rw [show arr4 [b[0],b[1],b[2],b[3]]= .agg #[.int .u8 (b[0].toNat:Int),.int .u8 (b[1].toNat:Int),.int .u8 (b[2].toNat:Int),.int .u8 (b[3].toNat:Int)] from rfl] at CS
 obtain ⟨g4,g5,g6,g7⟩:=four_get hf4
 rw [g4] at c4
 rw [g5] at c5
 rw [g6] at c6
 rw [g7] at c7
 have hXU:=fsum_U32 [b[0],b[1],b[2],b[3]] ((b.drop 8).take (num4 b))
 have hyU:=num4_U32 (b.drop 4)
 clear g4 g5 g6 g7 hf4 hs4 ht4
 generalize b[0].toNat=x0 at *
 generalize b[1].toNat=x1 at *
 generalize b[2].toNat=x2 at *
 generalize b[3].toNat=x3 at *
 generalize fsum [b[0],b[1],b[2],b[3]] ((b.drop 8).take (num4 b))=X at *
 generalize num4 (b.drop 4)=y at *
 generalize num4 b=m at *
 rw [arr4_four] at CS
 have HF:=Lib.hid hfs;clear hfs
 have hc4:¬ c=4:=by omega
 have hq2:=fun w:World=>run_arrayAt (P:=Tryz.prog) (w:=w) 289 5 4 (some ⟨ad.block,ad.off + 4,none⟩) 4 (c - 4) Tryz.underlying289 (by omega)
 have HSUB:Hid (8 + m - 8=m):=by unfold Hid;omega
 obtain ⟨A8,hA8⟩:∃A8,(if c=8 then some ad else some ⟨ad.block,ad.off + 8,none⟩)=A8:=⟨_,rfl⟩
 rw [hA8] at CS hp
 have HCS:Hid (∀W',_→_):=CS
 clear CS
 go_enter Tryz.func254,Tryz.ntmps254
 repeat' (first|go_values|go_skip|go_guarded|go_step|go_upon|(simp only [];go_at_K))
 have B0:=Blk.new w 289 #[.int .u8 (x0:Int),.int .u8 (x1:Int),.int .u8 (x2:Int),.int .u8 (x3:Int)]
 have U0:Upd [] [] w (w.alloc (.cells #[.int .u8 (x0:Int),.int .u8 (x1:Int),.int .u8 (x2:Int),.int .u8 (x3:Int)] 289)):=(Upd.refl _ _).alloc _
 obtain ⟨W0,hW0⟩:∃W0,w.alloc (.cells #[.int .u8 (x0:Int),.int .u8 (x1:Int),.int .u8 (x2:Int),.int .u8 (x3:Int)] 289)=W0:=⟨_,rfl⟩
 rw [hW0] at B0 U0 ⊢
 clear hW0 c0 c1 c2 c3 hor hq
 have hp0:=hp.upd U0 (by simp)
 have d4:=U0.cell c4 (by simp)
 have d5:=U0.cell c5 (by simp)
 have d6:=U0.cell c6 (by simp)
 have d7:=U0.cell c7 (by simp)
 obtain ⟨⟨k0,k1,k2,k3⟩,-⟩:=B0.c4
 clear c4 c5 c6 c7 hp
 have hw1:IntKind.i64.wrap (8 + (m:Int))=8 + (m:Int):=by rw [IntKind.wrap_i64];omega
 have hw2:IntKind.i64.wrap (m:Int)=(m:Int):=by rw [IntKind.wrap_i64];omega
 have hw3:(8 + (m:Int)).toNat=8 + m:=by omega
 have hw4:(0:Int)≤(m:Int):=by omega
 have hw5:8 + (m:Int)≤(c:Int):=by omega
 have hw6:8 + m - 8=m:=HSUB.out
 have hw7:(8:Int)≤8 + (m:Int):=by omega
 have hw8:(8:Int)≤(c:Int):=by omega
 by_cases hxy:y=X
 ·have H:Hid (fst b=(m,0)):=by have:=HF.out;rw [if_neg (by simpa using hxy)] at this;exact this
  subst hxy
  have hnq:=fun w:World=>neq4 ((y:Int) % 256) ((y:Int) / 256 % 256) ((y:Int) / 65536 % 256) ((y:Int) / 16777216 % 256) ((y:Int) % 256) ((y:Int) / 256 % 256) ((y:Int) / 65536 % 256) ((y:Int) / 16777216 % 256) w
  simp only [beq_self_eq_true,Bool.and_self,Bool.not_true] at hnq
  clear HF
  go_region_with (go_at_call 202;refine (HCS.out _ (by first | exact hp0 | exact Rd.drew hp0)).mono ?_;rintro e w5 ⟨rfl,hu5⟩;have e4:=hu5.cell d4 (by simp);have e5:=hu5.cell d5 (by simp);have e6:=hu5.cell d6 (by simp);have e7:=hu5.cell d7 (by simp))
  all_goals (repeat' (first | go_values | go_skip | go_guarded | go_step | go_upon | (simp only [];go_at_K)))
  all_goals go_ret2
  all_goals exact ⟨by rw [H.out];rfl,U0.drew.trans hu5⟩
 ·have H:Hid (fst b=(0,4)):=by have:=HF.out;rw [if_pos hxy] at this;exact this
  have hnq:∀w:World,_:=fun w=>(neq4 ((y:Int) % 256) ((y:Int) / 256 % 256) ((y:Int) / 65536 % 256) ((y:Int) / 16777216 % 256) ((X:Int) % 256) ((X:Int) / 256 % 256) ((X:Int) / 65536 % 256) ((X:Int) / 16777216 % 256) w).trans (by rw [four_ne hXU hyU hxy])
  clear HF
  go_region_with (go_at_call 202;refine (HCS.out _ (by first | exact hp0 | exact Rd.drew hp0)).mono ?_;rintro e w5 ⟨rfl,hu5⟩;have e4:=hu5.cell d4 (by simp);have e5:=hu5.cell d5 (by simp);have e6:=hu5.cell d6 (by simp);have e7:=hu5.cell d7 (by simp))
  all_goals (repeat' (first | go_values | go_skip | go_guarded | go_step | go_upon | (simp only [];go_at_K)))
  all_goals go_ret2
  all_goals exact ⟨by rw [H.out];rfl,U0.drew.trans hu5⟩
end Go.Proofs.YtijhlbeipglieaaGreat
namespace Go.Proofs.YtijhlbeipglieaaGreat
open Go.RowKit Agio
theorem framePut (w:World) (A:Option Addr) (n c:Nat) (b:List UInt8) (hr:RdB w A n b) (hb:b.length≤4096) :
  Calls Tryz.prog 126 #[.slice A n c] w fun e w'=>∃A' k' c',e= .returned (.tuple #[.slice A' k' c',.int .i64 0])∧OwnB 5 w' A' k' c' (put b)∧Upd [] (ablk A') w w':=by
 obtain rfl:=hr.len
 have hU:U32 b.length:=by unfold U32;omega
 obtain ⟨z0,z1,z2,z3,hz⟩:∃z0 z1 z2 z3,four b.length= [z0,z1,z2,z3]:=⟨_,_,_,_,rfl⟩
 obtain ⟨s0,s1,s2,s3,hs⟩:∃s0 s1 s2 s3,four (fsum [z0,z1,z2,z3] b)= [s0,s1,s2,s3]:=⟨_,_,_,_,rfl⟩
 have HP:Hid (put b= [z0,z1,z2,z3] ++ [s0,s1,s2,s3] ++ b):=by unfold Hid put;rw [hz,hs]
 have C1:=frameFour b.length hU
 rw [hz] at C1
 have C2:=fun w A n c h hb=>frameSum z0 z1 z2 z3 w A n c b h hb
 rw [hs] at C2
 clear hz hs hU
 have e4:∀a b c d:UInt8,arr4 [a,b,c,d]= .agg #[.int .u8 (a.toNat:Int),.int .u8 (b.toNat:Int),.int .u8 (c.toNat:Int),.int .u8 (d.toNat:Int)]:=fun _ _ _ _=>rfl
 rw [e4] at C1 C2
 rw [e4] at C2
 clear e4
 go_enter Tryz.func126,Tryz.ntmps126
 repeat' ((fail_if_success (with_reducible refine stop_append rfl ?_));first|go_values|go_skip|go_guarded|go_step|go_upon|(simp only [];go_at_K))
 refine (C1 w).mono ?_
 rintro e w1 ⟨rfl,hu1⟩
 repeat' ((fail_if_success (with_reducible refine stop_append rfl ?_));first|go_values|go_skip|go_guarded|go_step|go_upon|(simp only [];go_at_K))
 refine (C2 _ A _ c ((hr.upd hu1 (by simp)).alloc _) (by omega)).mono ?_
 rintro e w2 ⟨rfl,hu2⟩
 have hZ:=(Blk.new w1 289 #[.int .u8 (z0.toNat:Int),.int .u8 (z1.toNat:Int),.int .u8 (z2.toNat:Int),.int .u8 (z3.toNat:Int)]).upd hu2 (by simp)
 have U2:Upd [] [] w w2:=(hu1.alloc _).trans hu2
 clear C1 C2 hu1 hu2
 have hw1:8 + (b.length:Int)≤5000:=by omega
 repeat' ((fail_if_success at_make);(fail_if_success (with_reducible refine stop_append rfl ?_));first|go_values|go_skip|go_guarded|go_step|go_upon|(simp only [];go_at_K))
 have hS:=Blk.new w2 289 #[.int .u8 (s0.toNat:Int),.int .u8 (s1.toNat:Int),.int .u8 (s2.toNat:Int),.int .u8 (s3.toNat:Int)]
 have hZ:=hZ.alloc (.cells #[.int .u8 (s0.toNat:Int),.int .u8 (s1.toNat:Int),.int .u8 (s2.toNat:Int),.int .u8 (s3.toNat:Int)] 289)
 have U3:=U2.alloc (.cells #[.int .u8 (s0.toNat:Int),.int .u8 (s1.toNat:Int),.int .u8 (s2.toNat:Int),.int .u8 (s3.toNat:Int)] 289)
 obtain ⟨i,hi,hz0,hsz,hby⟩:=info_parts infoU8
 refine wpList_make_own _ rfl _ _ 28 rfl 0 5 i (.int .u8 0) 1 Tryz.underlying28 hi hz0 hsz .i64 .i64 (8 + (b.length:Int)) (8 + b.length) rfl rfl (by omega) (by rw [hby];omega) (by unfold maxLen;omega) (by omega) ?_
 intro w4 ho4 hg4
 clear hi hz0 hsz hby
 have hS4:=hS.grown hg4 (by simp)
 have hZ4:=hZ.grown hg4 (by simp)
 have U4:=U3.grown hg4 (fun k h=>by cases h)
 rw [World.size_alloc] at ho4 ⊢
 have O4:OwnB 5 w4 (some ⟨w2.heap.size + 1,0,none⟩) 0 (8 + b.length) []:=⟨rfl,ho4⟩
 have rZ4:RdB w4 (some ⟨w1.heap.size,0,none⟩) 4 [z0,z1,z2,z3]:=Rd.blk (cs:=b8s [z0,z1,z2,z3]) hZ4 rfl
 have rS4:RdB w4 (some ⟨w2.heap.size,0,none⟩) 4 [s0,s1,s2,s3]:=Rd.blk (cs:=b8s [s0,s1,s2,s3]) hS4 rfl
 have l1:=U2.size
 clear hS hZ U3 hg4 ho4 hS4 hZ4 U2
 repeat' ((fail_if_success (with_reducible refine stop_append rfl ?_));first|go_values|go_skip|go_guarded|go_step|go_upon|(simp only [];go_at_K))
 refine wpList_appB rfl _ _ 28 rfl 5 Tryz.underlying28 infoU8 O4 rfl rZ4 rfl (by simp) ?_
 intro A5 k5 c5 w5 ho5 hu5
 have rS5:=rS4.upd hu5 (by simp [ablk])
 have U5:=(U4.gives (b':=ablk (some ⟨w2.heap.size + 1,0,none⟩)) (by simp [ablk];omega)).trans hu5
 clear O4 rZ4 rS4 U4 hu5
 repeat' ((fail_if_success (with_reducible refine stop_append rfl ?_));first|go_values|go_skip|go_guarded|go_step|go_upon|(simp only [];go_at_K))
 refine wpList_appB rfl _ _ 28 rfl 5 Tryz.underlying28 infoU8 ho5 rfl rS5 rfl (by simp) ?_
 intro A6 k6 c6 w6 ho6 hu6
 have U6:=U5.trans hu6
 have hr6:=hr.upd U6 (by simp)
 clear ho5 rS5 U5 hu6
 repeat' ((fail_if_success (with_reducible refine stop_append rfl ?_));first|go_values|go_skip|go_guarded|go_step|go_upon|(simp only [];go_at_K))
 refine wpList_appB rfl _ _ 28 rfl 5 Tryz.underlying28 infoU8 ho6 rfl hr6 rfl (by simp;omega) ?_
 intro A7 k7 c7 w7 ho7 hu7
 have U7:=U6.trans hu7
 rw [List.nil_append,←HP.out] at ho7
 clear ho6 hr6 U6 hu7
 repeat' (first|go_values|go_skip|go_guarded|go_step|go_upon|(simp only [];go_at_K))
 go_ret2
 exact ⟨A7,k7,c7,rfl,ho7,U7⟩
structure Sl where
 A:Option Addr
 k:Nat
 c:Nat
 b:List UInt8
def Sl.val (x:Sl):Value:=.slice x.A x.k x.c
theorem infoSl:(Tryz.prog.info? 28).map (fun i=>(i.zero,i.size,i.bytes))=some (some (.slice none 0 0),1,24):=by kernel_rfl
structure OwnL (w:World) (A:Option Addr) (k c:Nat) (l:List Sl):Prop where
 len:k=l.length
 own:Agio.Own 28 1 w A k c (l.map Sl.val)
 each:∀x∈l,OwnB 5 w x.A x.k x.c x.b
theorem OwnL.upd {w w':World} {A:Option Addr} {k c:Nat} {l:List Sl} {b:List Nat} (h:OwnL w A k c l) (hu:Upd [] b w w'):OwnL w' A k c l:=
 ⟨h.len,h.own.upd hu (by simp),fun x hx=>(h.each x hx).upd hu (by simp)⟩
theorem OwnL.push {w w':World} {A A':Option Addr} {k c c':Nat} {l:List Sl} {x:Sl} (h:OwnL w A k c l) (hx:OwnB 5 w x.A x.k x.c x.b)
  (ho:Agio.Own 28 1 w' A' (k + 1) c' (l.map Sl.val ++ [x.val])) (hu:Upd (ablk A) (ablk A') w w'):OwnL w' A' (k + 1) c' (l ++ [x]):=
 ⟨by simp [h.len],by simpa using ho,fun y hy=>by
  rcases List.mem_append.1 hy with hy | hy
  ·exact (h.each y hy).upd hu ((h.each y hy).own.disj h.own (by decide))
  ·obtain rfl:=List.mem_singleton.1 hy
   exact hx.upd hu (hx.own.disj h.own (by decide))⟩
theorem frameScan (w:World) (A:Option Addr) (n c:Nat) (b:List UInt8) (hr:RdB w A n b) (hc:n≤c) (hcm:c≤maxLen) (hb:b.length≤1099511627776) :
  Calls Tryz.prog 204 #[.slice A n c] w fun e w'=>∃A' k' c' l,e= .returned (.tuple #[.slice A' k' c',.int .i64 (((scan b).2:Nat):Int)])∧OwnL w' A' k' c' l∧l.map Sl.b=(scan b).1∧Upd [] (ablk A') w w':=by
 obtain rfl:=hr.len
 have hcM:(c:Int)≤9223372036854775807:=by unfold maxLen at hcm;omega
 go_enter Tryz.func204,Tryz.ntmps204
 repeat' (first|go_values|go_skip|go_guarded|go_step|go_upon|(simp only [];go_at_K))
 go_loopw [4,5] (fun v4 v5 wr=>∃(a:Nat) (A1:Option Addr) (k1 c1:Nat) (l:List Sl),v5= .int .i64 (a:Int)∧v4= .slice A1 k1 c1∧a≤b.length∧l.length * 8≤a∧OwnL wr A1 k1 c1 l∧(scan b=(l.map Sl.b ++ (scan (b.drop a)).1,a + (scan (b.drop a)).2))∧Upd [] (ablk A1) w wr)
  (fun _ v5 _=>b.length - (intOf v5).toNat)
 case atStart=>exact ⟨0,none,0,0,[],rfl,rfl,by omega,by simp,⟨rfl,Own.nil _ _ _,by simp⟩,by simp,Upd.refl _ _⟩
 case round=>
  obtain ⟨a,A1,k1,c1,l,rfl,rfl,ha,hl8,ho,hsc,hu⟩:=hrel
  have HS:=Lib.hid hsc;clear hsc
  have hrr:=(hr.upd hu (by simp)).rest hc a ha
  have C:=frameFirst wr _ _ (c - a) _ hrr (by omega) (by omega) (by rw [List.length_drop];omega)
  obtain ⟨m,bad,hf⟩:∃m bad,fst (b.drop a)=(m,bad):=⟨_,_,rfl⟩
  rw [hf] at C
  have hx1:(a:Int)≤(b.length:Int):=by omega
  by_cases h0:bad=0
  ·subst h0
   have hfk:=fst_ok hf
   rw [List.length_drop] at hfk
   have h1:=hfk.1
   have h2:=hfk.2.1
   have HY:=Lib.hid (scan_yes hf)
   have hca:¬ c=a:=by omega
   rw [if_neg hca] at hrr C
   obtain ⟨a8,ha8⟩:∃a8,a + 8=a8:=⟨_,rfl⟩
   have hcast:(a:Int) + 8=(a8:Int):=by omega
   have hrp:=hr.part hc a8 m (by omega)
   have hb8:b.drop a8=(b.drop a).drop 8:=by rw [List.drop_drop,ha8]
   have hbm:b.drop (a + (8 + m))=(b.drop a).drop (8 + m):=by rw [List.drop_drop]
   rw [hb8] at hrp
   rw [←hbm] at HY
   generalize ((b.drop a).drop 8).take m=x at *
   obtain ⟨A8,hA8⟩:∃A8,(if c=a8 then A else A.map (fun x=>x.add a8))=A8:=⟨_,rfl⟩
   rw [hA8] at hrp
   have hx2:(a8:Int) + m≤(c:Int):=by omega
   have hx3:(a8:Int)≤(a8:Int) + m:=by omega
   have hxl:x.length≤4096:=by have:=hrp.len;omega
   have HEND:Hid (a + (8 + m)=a8 + m):=by unfold Hid;omega
   have hx5:a + (8 + m)≤b.length:=by omega
   clear hf hfk hca hb8 hbm ha8
   repeat' (first|go_values|go_skip|go_guarded|go_step|go_upon|(simp only [];go_at_K))
   ((with_reducible refine C.mono ?_);rintro e w1 ⟨rfl,hu1⟩)
   have U1:=hu.trans (hu1.up _)
   have ho1:=ho.upd hu1
   clear C hu1 ho hrr
   repeat' (first|go_values|go_skip|go_guarded|go_step|go_upon|(simp only [];go_at_K))
   ((with_reducible refine (bytesClone w1 A8 m _ x (hrp.upd U1 (by simp)) (by omega)).mono ?_);rintro e w2 ⟨A2,k2,c2,rfl,ho2,hu2⟩)
   have U2:=U1.trans (hu2.up _)
   have ho2':=ho1.upd hu2
   have hlen:l.length≤1099511627776:=by omega
   have hk1:=ho2'.len
   repeat' ((fail_if_success (with_reducible refine stop_append rfl ?_));first|go_values|go_skip|go_guarded|go_step|go_upon|(simp only [];go_at_K))
   refine wpList_push rfl _ _ 72 rfl 28 Tryz.underlying72 infoSl rfl (by decide) ho2'.own rfl _ rfl (news:=[.slice A2 k2 c2]) rfl rfl rfl (by unfold maxLen;omega) (by omega) ?_
   intro A3 c3 w3 ho3 hu3
   have ho3':=ho2'.push (x:=⟨A2,k2,c2,x⟩) ho2 ho3 hu3
   clear ho1 ho2 ho2' ho3 hk1
   repeat' (first|go_values|go_skip|go_guarded|go_step|go_upon|(simp only [];go_at_K))
   refine ⟨⟨a + (8 + m),A3,_,c3,l ++ [⟨A2,k2,c2,x⟩],?_,rfl,hx5,by simp;omega,ho3',?_,U2.trans hu3⟩,by simp [intOf];omega⟩
   ·congr 1
   ·rw [HS.out,HY.out];simp;omega
  ·have HN:Hid (scan (b.drop a)=([],0)):=scan_no (by rw [hf];exact h0)
   have hz:((bad:Int) != 0)=true:=by simp;omega
   clear hf h0
   repeat' (first|go_values|go_skip|go_guarded|go_step|go_upon|(simp only [];go_at_K))
   ((with_reducible refine C.mono ?_);rintro e w1 ⟨rfl,hu1⟩)
   repeat' (first|go_values|go_skip|go_guarded|go_step|go_upon|(simp only [];go_at_K))
   go_ret2
   refine ⟨A1,k1,c1,l,?_,ho.upd hu1,?_,(hu.trans (hu1.up _))⟩
   ·rw [HS.out,HN.out];rfl
   ·rw [HS.out,HN.out];simp
end Go.Proofs.YtijhlbeipglieaaGreat
