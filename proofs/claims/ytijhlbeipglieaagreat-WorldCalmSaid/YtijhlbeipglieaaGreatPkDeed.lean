/- For WorldCalm. -/
import Derived.Deep.Slices
import Derived.Test.YtijhlbeipglieaaGreatPkIn
import Derived.Test.YtijhlbeipglieaaGreatPkAlog
set_option linter.all false
namespace Go.Proofs.YtijhlbeipglieaaGreat
open Go.ChangeShapes Go.WideShapes Go.RowKit Go.Deep aL List
section
variable {H:Type} {enc:TypeId × Value→H} {P:Program} {W:World} {base:Nat} {spare:Nat→Bool} {held:Bool}
theorem sI{e:TypeId}{d:DataW H} :∀{l:List (DataW H)},d∈l→∀k∈d.weights P e,k∈DataW.weightsAll P e l
 |[],h,_,_=>by cases h
 |x::l,h,k,hk=>by
  simp only[DataW.weightsAll,mem_append]
  rcases mem_cons.1 h with rfl|h
  ·exact .inl hk
  ·exact .inr (sI h k hk)
theorem PQ{t e:TypeId}{C:Nat}{a0:Option Addr}{len cap:Nat}{d:DataW H}{p:List MemPlace}(ht:P.underlying t=some (.slice e))(hC:P.cellsOf e=C)(h:DataW.Trod enc P W base spare held t (.slice a0 len cap) d p)(hw:∀k∈d.weights P t,k≤reachBytes) :
  (a0=none∧len=0∧cap=0)∨∃a n,a0=some a∧len≤cap∧cap≤maxLen∧len*P.bytesOf e≤reachBytes∧
   ∀i,i<len→∃cs y,cs.length=C∧(∀j,j<C→W.cell? (a.add (i*C+j))=cs[j]?)∧DataW.trod enc P W base spare held n e cs=some y∧∀k∈y.1.weights P e,k≤reachBytes:=by
 obtain⟨fuel,hf⟩:=h
 rcases open_slice ht hf with⟨hcs,hx⟩|⟨a,ahD,adh,m,n,D,Pl,hcs,_,hl,hm,si,hx,hi⟩
 ·simp[Value.cells]at hcs;exact .inl hcs
 ·simp[Value.cells]at hcs
  obtain⟨rfl,rfl,rfl⟩:=hcs
  simp only[Prod.mk.injEq]at hx
  have hlm:len≤m:=by rw[si];split<;>omega
  have hd:=hx.1
  subst hd
  simp only[DataW.weights,ht]at hw
  have hwA:∀i,i<len→∀k∈(D i).weights P e,k≤reachBytes:=fun i dK k hk=>hw k (by
   simp only[mem_cons,mem_append]
   exact .inr (.inl (sI (mem_map.2 ⟨i,mem_range.2 dK,rfl⟩) k hk)))
  refine .inr ⟨a,n,rfl,hl,hm,?_,fun i dK=>?_⟩
  ·have:=hw _ (mem_cons_self ..)
   simp only[length_map,length_range]at this
   exact Nat.le_trans (Nat.mul_le_mul_right _ (by omega)) this
  ·obtain⟨cs',hc,fy⟩:=hi i (by omega)
   rw[hC]at hc
   obtain⟨_,Mu,hat⟩:=World.cells?_some hc
   exact⟨cs',_,Mu,fun j hj=>by rw[←hat j hj,Go.Deep.add_add],fy,hwA i dK⟩
theorem JW{t:TypeId}{fs:Array Field}{fuel:Nat}{cs:List Value}{x:DataW H × List MemPlace}(he:P.underlying t=some (.struct fs))(h:DataW.trod enc P W base spare held fuel t cs=some x)(hw:∀k∈x.1.weights P t,k≤reachBytes) :
  cs.length=P.cellsOf t∧∃n,∀(j:Nat)(f:Field),fs[j]? =some f→∃y,DataW.trod enc P W base spare held n f.type ((cs.drop f.offset).take (P.cellsOf f.type))=some y∧∀k∈y.1.weights P f.type,k≤reachBytes:=by
 obtain⟨ys,n,hn,hy,hlen,qM,pS⟩:=DataW.trod_struct he h
 subst hy
 simp only[DataW.weights,he]at hw
 refine⟨hlen,n,fun j f hj=>?_⟩
 have EE:j<ys.length:=by have:=(Array.getElem?_eq_some_iff.1 hj).1;omega
 refine⟨ys[j],(pS j f hj).trans (List.getElem?_eq_getElem EE),fun k hk=>hw k (DataW.weights_mem_each (j:=j) (t:=f.type) (d:=ys[j].1) ?_ ?_ k hk)⟩
 ·rw[List.getElem?_map,Array.getElem?_toList,hj];rfl
 ·rw[List.getElem?_map,List.getElem?_eq_getElem EE];rfl
end
theorem IC{α:Type}{P:Nat→α→Prop} :∀(n:Nat),(∀i,i<n→∃x,P i x)→∃l:List α,l.length=n∧∀i (h:i<l.length),P i l[i]
 |0,_=>⟨[],rfl,by simp⟩
 |n+1,h=>by
  obtain⟨l,hl,hp⟩:=IC n (fun i hi=>h i (by omega))
  obtain⟨x,hx⟩:=h n (by omega)
  refine⟨l++[x],by simp[hl],fun i hi=>?_⟩
  rcases Nat.lt_or_ge i l.length with h1|h1
  ·rw[getElem_append_left h1];exact hp i h1
  ·obtain rfl:i=l.length:=by simp at hi;omega
   rw[getElem_append_right (by omega)];simpa[hl]using hx
theorem GO{α:Type}{f:α→List Value}{s:Nat}(hs:∀x,(f x).length=s){W:World}{a:Addr}{len:Nat}{P:α→Prop}(each:∀i,i<len→∃x,(∀j u,(f x)[j]? =some u→W.cell? (a.add (i*s+j))=some u)∧P x):∃l,jq f s W (some a) len l∧∀x∈l,P x:=by
 obtain⟨l,hl,hp⟩:=IC len each
 subst hl
 refine⟨l,jq.of hs a (fun i hi j u hu=>(hp i hi).1 j u hu),fun x hx=>?_⟩
 obtain⟨i,hi,rfl⟩:=getElem_of_mem hx
 exact(hp i hi).2
