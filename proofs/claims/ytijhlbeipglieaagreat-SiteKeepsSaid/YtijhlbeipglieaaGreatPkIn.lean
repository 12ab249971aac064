/- Merged: RowIn, MsgIn. -/
import Derived.Test.YtijhlbeipglieaaGreatRows
import Derived.ChangeSame
import Derived.ChangeVars
import Derived.JoinedOf
import Derived.Stop.Joined
import Derived.ProofKit
import Derived.OpenShut
import Derived.ShutString
import Derived.ChangeOld
import Derived.SizedLaws
import Derived.HandedShaped
import Derived.Test.YtijhlbeipglieaaGreatPkNet
set_option linter.all false
set_option maxRecDepth 100000
namespace Go.Proofs.YtijhlbeipglieaaGreat
open Go.ChangeShapes Go.WideShapes Go.RowKit Agio
theorem own:ownKnob Tryz.prog.godebug=none:=by kernel_rfl
theorem laidOut:laidOutB Tryz.prog=true:=by kernel_rfl
theorem bytes_in {H:Type} {enc:TypeId × Value→H} {W:World} {base:Nat} {spare:Nat→Bool} {held:Bool} {a0:Option Addr} {len cap:Nat} {d:DataW H} {p:List MemPlace}
  (h:DataW.Trod enc Tryz.prog W base spare held 28 (.slice a0 len cap) d p) :
  ∃b:List UInt8,RdB W a0 len b∧len≤cap∧cap≤maxLen∧(a0=none→cap=0)∧(d= .nil∧b= []∨∃sp,d= .slice (b.map fun c=>.lit (.int .u8 (c.toNat:Int))) sp):=by
 obtain ⟨fuel,hf⟩:=h
 rcases open_ints Tryz.underlying28 Tryz.underlying5 (by kernel_rfl) hf with ⟨hcs,hx⟩ | ⟨x,l,c,zs,hcs,_,hl,hm,hz,hx,hcell,hwz⟩
 ·simp [Value.cells] at hcs
  obtain ⟨rfl,rfl,rfl⟩:=hcs
  simp only [Prod.mk.injEq] at hx
  exact ⟨[],RdB.nil _ _,by omega,by simp [maxLen],fun _=>rfl,.inl ⟨hx.1,rfl⟩⟩
 ·simp [Value.cells] at hcs
  obtain ⟨rfl,rfl,rfl⟩:=hcs
  simp only [Prod.mk.injEq] at hx
  have hlz:len≤zs.length:=by rw [hz];split <;> omega
  have hb:∀n∈zs,B8 (UInt8.ofNat n.toNat)= .int .u8 n:=by
   intro n hn
   have hw:=bounds_u8 (hwz n hn)
   rw [B8_ofNat (by omega)];congr 1;omega
  refine ⟨(zs.take len).map fun n=>UInt8.ofNat n.toNat,⟨by simp;omega,fun _=>⟨x,rfl,fun j u hu=>?_⟩⟩,hl,hm,(fun h=>by cases h),.inr ⟨lits .u8 (zs.drop len),?_⟩⟩
  ·have hj:j < len:=by
    rcases Nat.lt_or_ge j len with h | h
    ·exact h
    ·rw [List.getElem?_eq_none (by simp;omega)] at hu;cases hu
   rw [hcell j (by omega)]
   have hjz:j < zs.length:=by omega
   simp only [b8s,List.map_map,List.getElem?_map,List.getElem?_take,hj,if_true,List.getElem?_eq_getElem hjz,Option.map_some,Option.some.injEq] at hu
   rw [←hu]
   simp only [Function.comp,hb _ (List.getElem_mem hjz),List.getD,List.getElem?_eq_getElem hjz,Option.getD_some]
  ·rw [hx.1]
   congr 1
   simp only [lits,List.map_map]
   refine List.map_congr_left fun n hn=>?_
   have hw:=bounds_u8 (hwz n (List.mem_of_mem_take hn))
   simp
   omega
end Go.Proofs.YtijhlbeipglieaaGreat
namespace Go.Proofs.YtijhlbeipglieaaGreat
open Go.ChangeShapes Go.WideShapes Go.RowKit Agio
theorem struct_in {H:Type} {enc:TypeId × Value→H} {P:Program} {W:World} {base:Nat} {spare:Nat→Bool} {held:Bool} {t:TypeId} {fs:Array Field} {fuel:Nat} {cs:List Value} {x:DataW H × List MemPlace} (he:P.underlying t=some (.struct fs))
  (h:DataW.trod enc P W base spare held fuel t cs=some x):cs.length=P.cellsOf t∧∃n,∀(j:Nat) (f:Field),fs[j]? =some f→∃y,DataW.trod enc P W base spare held n f.type ((cs.drop f.offset).take (P.cellsOf f.type))=some y:=by
 obtain ⟨ys,n,hn,hy,hlen,hyl,hfl⟩:=DataW.trod_struct he h
 refine ⟨hlen,n,fun j f hj=>?_⟩
 have hjl:j < ys.length:=by have:=(Array.getElem?_eq_some_iff.1 hj).1;omega
 exact ⟨ys[j],(hfl j f hj).trans (List.getElem?_eq_getElem hjl)⟩
theorem msg_in {H:Type} {enc:TypeId × Value→H} {W:World} {base:Nat} {spare:Nat→Bool} {held:Bool} {cs:Array Value} {d:DataW H} {p:List MemPlace}
  (h:DataW.Trod enc Tryz.prog W base spare held 32 (.agg cs) d p):∃x:Mv,Value.agg cs=x.val∧RdB W x.A x.n x.b:=by
 obtain ⟨fuel,hf⟩:=h
 obtain ⟨hlen,n,hfl⟩:=struct_in Tryz.underlying32 hf
 have hlen2:(Value.agg cs).cells.toList.length=10:=by rw [hlen];kernel_rfl
 have hc:(Value.agg cs).cells=cs:=rfl
 rw [hc] at hfl hlen2
 obtain ⟨l⟩:=cs
 have i1:Tryz.prog.cellsOf 3=1:=by kernel_rfl
 have i2:Tryz.prog.cellsOf 30=2:=by kernel_rfl
 have i3:Tryz.prog.cellsOf 4=1:=by kernel_rfl
 have i4:Tryz.prog.cellsOf 28=1:=by kernel_rfl
 match l,hlen2 with
 | [a0,a1,a2,a3,a4,a5,a6,a7,a8,a9],_=>
  obtain ⟨w0,t0⟩:∃y,DataW.trod enc Tryz.prog W base spare held n 3 (([a0,a1,a2,a3,a4,a5,a6,a7,a8,a9].drop 0).take (Tryz.prog.cellsOf 3))=some y:=hfl 0 _ rfl
  rw [i1] at t0
  obtain ⟨w1,t1⟩:∃y,DataW.trod enc Tryz.prog W base spare held n 3 (([a0,a1,a2,a3,a4,a5,a6,a7,a8,a9].drop 1).take (Tryz.prog.cellsOf 3))=some y:=hfl 1 _ rfl
  rw [i1] at t1
  obtain ⟨w2,t2⟩:∃y,DataW.trod enc Tryz.prog W base spare held n 3 (([a0,a1,a2,a3,a4,a5,a6,a7,a8,a9].drop 2).take (Tryz.prog.cellsOf 3))=some y:=hfl 2 _ rfl
  rw [i1] at t2
  obtain ⟨w3,t3⟩:∃y,DataW.trod enc Tryz.prog W base spare held n 3 (([a0,a1,a2,a3,a4,a5,a6,a7,a8,a9].drop 3).take (Tryz.prog.cellsOf 3))=some y:=hfl 3 _ rfl
  rw [i1] at t3
  obtain ⟨w4,t4⟩:∃y,DataW.trod enc Tryz.prog W base spare held n 30 (([a0,a1,a2,a3,a4,a5,a6,a7,a8,a9].drop 4).take (Tryz.prog.cellsOf 30))=some y:=hfl 4 _ rfl
  rw [i2] at t4
  obtain ⟨w5,t5⟩:∃y,DataW.trod enc Tryz.prog W base spare held n 30 (([a0,a1,a2,a3,a4,a5,a6,a7,a8,a9].drop 6).take (Tryz.prog.cellsOf 30))=some y:=hfl 5 _ rfl
  rw [i2] at t5
  obtain ⟨w6,t6⟩:∃y,DataW.trod enc Tryz.prog W base spare held n 4 (([a0,a1,a2,a3,a4,a5,a6,a7,a8,a9].drop 8).take (Tryz.prog.cellsOf 4))=some y:=hfl 6 _ rfl
  rw [i3] at t6
  obtain ⟨w7,t7⟩:∃y,DataW.trod enc Tryz.prog W base spare held n 28 (([a0,a1,a2,a3,a4,a5,a6,a7,a8,a9].drop 9).take (Tryz.prog.cellsOf 28))=some y:=hfl 7 _ rfl
  rw [i4] at t7
  simp only [List.drop_succ_cons,List.drop_zero,List.take_succ_cons,List.take_zero] at t0 t1 t2 t3 t4 t5 t6 t7
  obtain ⟨x0,e0,-,-⟩:=DataW.trod_int Tryz.underlying3 t0
  obtain ⟨x1,e1,-,-⟩:=DataW.trod_int Tryz.underlying3 t1
  obtain ⟨x2,e2,-,-⟩:=DataW.trod_int Tryz.underlying3 t2
  obtain ⟨x3,e3,-,-⟩:=DataW.trod_int Tryz.underlying3 t3
  obtain ⟨y0,y1,n4,-,-,u0,u1⟩:=trod_struct2 Tryz.underlying30 t4
  obtain ⟨z0,z1,n5,-,-,s0,s1⟩:=trod_struct2 Tryz.underlying30 t5
  simp only [i1,List.drop_succ_cons,List.drop_zero,List.take_succ_cons,List.take_zero] at u0 u1 s0 s1
  obtain ⟨x4,e4,-,-⟩:=DataW.trod_int Tryz.underlying3 u0
  obtain ⟨x5,e5,-,-⟩:=DataW.trod_int Tryz.underlying3 u1
  obtain ⟨x6,e6,-,-⟩:=DataW.trod_int Tryz.underlying3 s0
  obtain ⟨x7,e7,-,-⟩:=DataW.trod_int Tryz.underlying3 s1
  obtain ⟨x8,e8,-⟩:=DataW.trod_bool Tryz.underlying4 t6
  simp only [List.cons.injEq,and_true] at e0 e1 e2 e3 e4 e5 e6 e7 e8
  obtain ⟨A,m,c,e9⟩:∃A m c,a9= .slice A m c:=by
   rcases open_ints Tryz.underlying28 Tryz.underlying5 (by kernel_rfl) t7 with ⟨hcs,_⟩ | ⟨x,l,c,zs,hcs,_⟩
   ·simp at hcs;exact ⟨_,_,_,hcs⟩
   ·simp at hcs;exact ⟨_,_,_,hcs⟩
  subst e9
  obtain ⟨b,hb,_⟩:=bytes_in ⟨n,t7⟩
  refine ⟨⟨x0,x1,x2,x3,x4,x5,x6,x7,x8,A,m,c,b⟩,?_,hb⟩
  rw [Mv.val_eq]
  simp only [e0,e1,e2,e3,e4,e5,e6,e7,e8]
end Go.Proofs.YtijhlbeipglieaaGreat
