/- Merged: ElemsIn, RecIn, DeedV, DeedT. -/
import Derived.Deep.Slices
import Derived.Test.YtijhlbeipglieaaGreatPkIn
import Derived.Test.YtijhlbeipglieaaGreatPkAlog
set_option linter.all false
set_option maxRecDepth 100000
namespace Go.Proofs.YtijhlbeipglieaaGreat
open Go.ChangeShapes Go.WideShapes Go.RowKit Go.Deep Agio
section
variable {H:Type} {enc:TypeId × Value→H} {P:Program} {W:World} {base:Nat} {spare:Nat→Bool} {held:Bool}
theorem weightsAll_mem {e:TypeId} {d:DataW H} :∀{l:List (DataW H)},d∈l→∀k∈d.weights P e,k∈DataW.weightsAll P e l
 | [],h,_,_=>by cases h
 | x :: l,h,k,hk=>by
  simp only [DataW.weightsAll,List.mem_append]
  rcases List.mem_cons.1 h with rfl | h
  ·exact .inl hk
  ·exact .inr (weightsAll_mem h k hk)
theorem elems_in {t e:TypeId} {C:Nat} {a0:Option Addr} {len cap:Nat} {d:DataW H} {p:List MemPlace} (ht:P.underlying t=some (.slice e)) (hC:P.cellsOf e=C)
  (h:DataW.Trod enc P W base spare held t (.slice a0 len cap) d p) (hw:∀k∈d.weights P t,k≤reachBytes) :
  (a0=none∧len=0∧cap=0)∨∃a n,a0=some a∧len≤cap∧cap≤maxLen∧len * P.bytesOf e≤reachBytes∧
   ∀i,i < len→∃cs y,cs.length=C∧(∀j,j < C→W.cell? (a.add (i * C + j))=cs[j]?)∧DataW.trod enc P W base spare held n e cs=some y∧∀k∈y.1.weights P e,k≤reachBytes:=by
 obtain ⟨fuel,hf⟩:=h
 rcases open_slice ht hf with ⟨hcs,hx⟩ | ⟨a,len',cap',m,n,D,Pl,hcs,_,hl,hm,hmm,hx,hi⟩
 ·simp [Value.cells] at hcs;exact .inl hcs
 ·simp [Value.cells] at hcs
  obtain ⟨rfl,rfl,rfl⟩:=hcs
  simp only [Prod.mk.injEq] at hx
  have hlm:len≤m:=by rw [hmm];split <;> omega
  have hd:=hx.1
  subst hd
  simp only [DataW.weights,ht] at hw
  have hwA:∀i,i < len→∀k∈(D i).weights P e,k≤reachBytes:=fun i hil k hk=>hw k (by
   simp only [List.mem_cons,List.mem_append]
   exact .inr (.inl (weightsAll_mem (List.mem_map.2 ⟨i,List.mem_range.2 hil,rfl⟩) k hk)))
  refine .inr ⟨a,n,rfl,hl,hm,?_,fun i hil=>?_⟩
  ·have:=hw _ (List.mem_cons_self ..)
   simp only [List.length_map,List.length_range] at this
   exact Nat.le_trans (Nat.mul_le_mul_right _ (by omega)) this
  ·obtain ⟨cs',hc,ht'⟩:=hi i (by omega)
   rw [hC] at hc
   obtain ⟨_,hcl,hat⟩:=World.cells?_some hc
   exact ⟨cs',_,hcl,fun j hj=>by rw [←hat j hj,Go.Deep.add_add],ht',hwA i hil⟩
theorem struct_inW {t:TypeId} {fs:Array Field} {fuel:Nat} {cs:List Value} {x:DataW H × List MemPlace} (he:P.underlying t=some (.struct fs))
  (h:DataW.trod enc P W base spare held fuel t cs=some x) (hw:∀k∈x.1.weights P t,k≤reachBytes) :
  cs.length=P.cellsOf t∧∃n,∀(j:Nat) (f:Field),fs[j]? =some f→∃y,DataW.trod enc P W base spare held n f.type ((cs.drop f.offset).take (P.cellsOf f.type))=some y∧∀k∈y.1.weights P f.type,k≤reachBytes:=by
 obtain ⟨ys,n,hn,hy,hlen,hyl,hfl⟩:=DataW.trod_struct he h
 subst hy
 simp only [DataW.weights,he] at hw
 refine ⟨hlen,n,fun j f hj=>?_⟩
 have hjl:j < ys.length:=by have:=(Array.getElem?_eq_some_iff.1 hj).1;omega
 refine ⟨ys[j],(hfl j f hj).trans (List.getElem?_eq_getElem hjl),fun k hk=>hw k (DataW.weights_mem_each (j:=j) (t:=f.type) (d:=ys[j].1) ?_ ?_ k hk)⟩
 ·rw [List.getElem?_map,Array.getElem?_toList,hj];rfl
 ·rw [List.getElem?_map,List.getElem?_eq_getElem hjl];rfl
end
theorem list_of {α:Type} {P:Nat→α→Prop} :∀(n:Nat),(∀i,i < n→∃x,P i x)→∃l:List α,l.length=n∧∀i (h:i < l.length),P i l[i]
 | 0,_=>⟨[],rfl,by simp⟩
 | n + 1,h=>by
  obtain ⟨l,hl,hp⟩:=list_of n (fun i hi=>h i (by omega))
  obtain ⟨x,hx⟩:=h n (by omega)
  refine ⟨l ++ [x],by simp [hl],fun i hi=>?_⟩
  rcases Nat.lt_or_ge i l.length with h1 | h1
  ·rw [List.getElem_append_left h1];exact hp i h1
  ·obtain rfl:i=l.length:=by simp at hi;omega
   rw [List.getElem_append_right (by omega)];simpa [hl] using hx
theorem rdS_of_each {α:Type} {f:α→List Value} {s:Nat} (hs:∀x,(f x).length=s) {W:World} {a:Addr} {len:Nat} {P:α→Prop}
  (each:∀i,i < len→∃x,(∀j u,(f x)[j]? =some u→W.cell? (a.add (i * s + j))=some u)∧P x):∃l,RdS f s W (some a) len l∧∀x∈l,P x:=by
 obtain ⟨l,hl,hp⟩:=list_of len each
 subst hl
 refine ⟨l,RdS.of hs a (fun i hi j u hu=>(hp i hi).1 j u hu),fun x hx=>?_⟩
 obtain ⟨i,hi,rfl⟩:=List.getElem_of_mem hx
 exact (hp i hi).2
end Go.Proofs.YtijhlbeipglieaaGreat
namespace Go.Proofs.YtijhlbeipglieaaGreat
open Go.ChangeShapes Go.WideShapes Go.RowKit Go.Deep Agio
section
variable {H:Type} {enc:TypeId × Value→H} {W:World} {base:Nat} {spare:Nat→Bool} {held:Bool} {a0:Option Addr} {len cap:Nat} {d:DataW H} {p:List MemPlace}
theorem bytesW_in (h:DataW.Trod enc Tryz.prog W base spare held 28 (.slice a0 len cap) d p) (hw:∀k∈d.weights Tryz.prog 28,k≤reachBytes) :
  ∃b:List UInt8,RdB W a0 len b∧len≤cap∧cap≤maxLen∧b.length≤140737488351232:=by
 obtain ⟨b,h1,h2,h3,_,h5⟩:=bytes_in h
 refine ⟨b,h1,h2,h3,?_⟩
 rcases h5 with ⟨_,rfl⟩ | ⟨sp,rfl⟩
 ·simp
 ·have:=hw ((((b.map fun c=>DataW.lit (.int .u8 (c.toNat:Int))):List (DataW H)).length + sp.length) * Tryz.prog.bytesOf 5) (by simp [DataW.weights,Tryz.underlying28])
  rw [show Tryz.prog.bytesOf 5=1 by kernel_rfl] at this
  simp only [List.length_map,reachBytes] at this
  omega
theorem slice_form {fuel:Nat} {v:Value} {x:DataW H × List MemPlace} (h:DataW.trod enc Tryz.prog W base spare held fuel 28 [v]=some x):∃A n c,v= .slice A n c:=by
 rcases open_ints Tryz.underlying28 Tryz.underlying5 (by kernel_rfl) h with ⟨hcs,_⟩ | ⟨x,l,c,zs,hcs,_⟩
 ·simp at hcs;exact ⟨_,_,_,hcs⟩
 ·simp at hcs;exact ⟨_,_,_,hcs⟩
end
end Go.Proofs.YtijhlbeipglieaaGreat
namespace Go.Proofs.YtijhlbeipglieaaGreat
open Go.RowKit Agio
structure Dt where
 k:Int
 n:Int
 A:Option Addr
 l:Nat
 c:Nat
 b:List UInt8
 m:Mv
def Dt.cells (d:Dt):List Value:=[.int .i64 d.k,.int .i64 d.n,.slice d.A d.l d.c,.int .i64 d.m.k,.int .i64 d.m.f,.int .i64 d.m.t,.int .i64 d.m.s,.int .i64 d.m.br,.int .i64 d.m.bs,.int .i64 d.m.hr,.int .i64 d.m.hs,.bool d.m.so,.slice d.m.A d.m.n d.m.c]
theorem Dt.cells_len (d:Dt):d.cells.length=13:=rfl
def Dt.val (d:Dt):Value:=.agg d.cells.toArray
theorem Dt.val_eq (d:Dt):d.val= .agg #[.int .i64 d.k,.int .i64 d.n,.slice d.A d.l d.c,.int .i64 d.m.k,.int .i64 d.m.f,.int .i64 d.m.t,.int .i64 d.m.s,.int .i64 d.m.br,.int .i64 d.m.bs,.int .i64 d.m.hr,.int .i64 d.m.hs,.bool d.m.so,.slice d.m.A d.m.n d.m.c]:=rfl
structure Dt.Rds (w:World) (d:Dt):Prop where
 v:RdB w d.A d.l d.b
 len:d.b.length≤140737488351232
 m:RdB w d.m.A d.m.n d.m.b
theorem Dt.Rds.upd0 {w w':World} {b:List Nat} {d:Dt} (h:Dt.Rds w d) (hu:Upd [] b w w'):Dt.Rds w' d:=⟨h.v.upd hu (by simp),h.len,h.m.upd hu (by simp)⟩
end Go.Proofs.YtijhlbeipglieaaGreat
namespace Go.Proofs.YtijhlbeipglieaaGreat
open Go.ChangeShapes Go.WideShapes Go.RowKit Go.Deep Agio
section
variable {H:Type} {enc:TypeId × Value→H} {W:World} {base:Nat} {spare:Nat→Bool} {held:Bool} {a0:Option Addr} {len cap:Nat} {d:DataW H} {p:List MemPlace}
theorem dt_of {n:Nat} {cs:List Value} {y:DataW H × List MemPlace} (ht:DataW.trod enc Tryz.prog W base spare held n 34 cs=some y) (hw:∀k∈y.1.weights Tryz.prog 34,k≤reachBytes) :
  ∃x:Dt,cs=x.cells∧Dt.Rds W x:=by
 obtain ⟨hlen,m,hfl⟩:=struct_inW Tryz.underlying34 ht hw
 have hlen2:cs.length=13:=by rw [hlen];kernel_rfl
 have i1:Tryz.prog.cellsOf 3=1:=by kernel_rfl
 have i2:Tryz.prog.cellsOf 32=10:=by kernel_rfl
 have i4:Tryz.prog.cellsOf 28=1:=by kernel_rfl
 match cs,hlen2 with
 | [a0,a1,a2,a3,a4,a5,a6,a7,a8,a9,b0,b1,b2],_=>
  obtain ⟨w0,t0,-⟩:∃y,DataW.trod enc Tryz.prog W base spare held m 3 (([a0,a1,a2,a3,a4,a5,a6,a7,a8,a9,b0,b1,b2].drop 0).take (Tryz.prog.cellsOf 3))=some y∧_:=hfl 0 _ rfl
  obtain ⟨w1,t1,-⟩:∃y,DataW.trod enc Tryz.prog W base spare held m 3 (([a0,a1,a2,a3,a4,a5,a6,a7,a8,a9,b0,b1,b2].drop 1).take (Tryz.prog.cellsOf 3))=some y∧_:=hfl 1 _ rfl
  obtain ⟨w2,t2,hk⟩:∃y,DataW.trod enc Tryz.prog W base spare held m 28 (([a0,a1,a2,a3,a4,a5,a6,a7,a8,a9,b0,b1,b2].drop 2).take (Tryz.prog.cellsOf 28))=some y∧∀k∈y.1.weights Tryz.prog 28,k≤reachBytes:=hfl 2 _ rfl
  obtain ⟨w3,t3,-⟩:∃y,DataW.trod enc Tryz.prog W base spare held m 32 (([a0,a1,a2,a3,a4,a5,a6,a7,a8,a9,b0,b1,b2].drop 3).take (Tryz.prog.cellsOf 32))=some y∧_:=hfl 3 _ rfl
  rw [i1] at t0 t1
  rw [i4] at t2
  rw [i2] at t3
  simp only [List.drop_succ_cons,List.drop_zero,List.take_succ_cons,List.take_zero] at t0 t1 t2 t3
  obtain ⟨x0,e0,-,-⟩:=DataW.trod_int Tryz.underlying3 t0
  obtain ⟨x1,e1,-,-⟩:=DataW.trod_int Tryz.underlying3 t1
  simp only [List.cons.injEq,and_true] at e0 e1
  obtain ⟨A,k,c,rfl⟩:=slice_form t2
  obtain ⟨b,hb,_,_,hbl⟩:=bytesW_in (d:=w2.1) (p:=w2.2) ⟨m,t2⟩ hk
  obtain ⟨x,hx,hxb⟩:=msg_in (cs:=#[a3,a4,a5,a6,a7,a8,a9,b0,b1,b2]) (d:=w3.1) (p:=w3.2) ⟨m,t3⟩
  rw [Mv.val_eq] at hx
  simp only [Value.agg.injEq,Array.mk.injEq,List.cons.injEq,and_true] at hx
  obtain ⟨f0,f1,f2,f3,f4,f5,f6,f7,f8,f9⟩:=hx
  exact ⟨⟨x0,x1,A,k,c,b,x⟩,by simp [Dt.cells,e0,e1,f0,f1,f2,f3,f4,f5,f6,f7,f8,f9],hb,hbl,hxb⟩
theorem dts_in (h:DataW.Trod enc Tryz.prog W base spare held 22 (.slice a0 len cap) d p) (hw:∀k∈d.weights Tryz.prog 22,k≤reachBytes) :
  ∃l:List Dt,RdS Dt.cells 13 W a0 len l∧(∀x∈l,Dt.Rds W x):=by
 rcases elems_in Tryz.underlying22 (C:=13) (by kernel_rfl) h hw with ⟨rfl,rfl,rfl⟩ | ⟨a,n,rfl,_,_,hbb,hi⟩
 ·exact ⟨[],⟨rfl,Rd.none_⟩,by simp⟩
 ·refine rdS_of_each Dt.cells_len fun i hil=>?_
  obtain ⟨cs,y,hl,hc,ht,hk⟩:=hi i hil
  obtain ⟨x,rfl,hb⟩:=dt_of ht hk
  refine ⟨x,fun j u hu=>?_,hb⟩
  have hj:j < 13:=by
   rcases Nat.lt_or_ge j 13 with h | h
   ·exact h
   ·rw [List.getElem?_eq_none (by rw [Dt.cells_len];exact h)] at hu;cases hu
  rw [hc j hj,hu]
end
end Go.Proofs.YtijhlbeipglieaaGreat
