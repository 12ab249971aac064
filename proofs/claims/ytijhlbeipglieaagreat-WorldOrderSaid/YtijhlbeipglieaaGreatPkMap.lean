/- Merged: MapI, Assoc, MapR. -/
import Derived.Maps.OwnSet
import Derived.Maps.Ext
import Derived.Maps.RangeWalk
import Derived.Test.YtijhlbeipglieaaGreatPkBase
set_option linter.all false
namespace Agio
open Go Go.RowKit Go.Maps
abbrev KV:=List (Int × Value)
def lookK (x:Int) (M:KV):Option Value:=(M.find? fun p=>decide (p.1=x)).map Prod.snd
def insK (e:Int × Value):KV→KV
 | []=>[e]
 | y :: r=>if e.1 < y.1 then e :: y :: r else y :: insK e r
def delK (x:Int) (M:KV):KV:=M.filter fun p=>!decide (p.1=x)
def putK (x:Int) (v:Value) (M:KV):KV:=insK (x,v) (delK x M)
theorem insK_perm (e:Int × Value) (M:KV):(insK e M).Perm (e :: M):=by
 induction M with
 | nil=>exact .refl _
 | cons y r ih=>
  unfold insK
  split
  ·exact .refl _
  ·exact (ih.cons y).trans (.swap _ _ _)
theorem lookK_ins {e:Int × Value} {x:Int} {M:KV} (h:∀p∈M,p.1≠e.1):lookK x (insK e M)=if e.1=x then some e.2 else lookK x M:=by
 induction M with
 | nil=>simp only [insK,lookK,List.find?_cons];split <;> simp_all
 | cons y r ih=>
  have ih:=ih fun p hp=>h p (List.mem_cons_of_mem _ hp)
  have hy:=h y (by simp)
  unfold insK
  split
  ·unfold lookK;simp only [List.find?_cons];by_cases e1:e.1=x <;> simp [e1]
  ·unfold lookK at ih ⊢
   simp only [List.find?_cons]
   by_cases e1:y.1=x
   ·simp [e1,show ¬ e.1=x from fun e2=>hy (e1.trans e2.symm)]
   ·simpa [e1] using ih
theorem delK_mem {x:Int} {M:KV} {p:Int × Value} :p∈delK x M ↔ p∈M∧p.1≠x:=by
 unfold delK;rw [List.mem_filter];simp
theorem lookK_del {x y:Int} {M:KV} :lookK y (delK x M)=if y=x then none else lookK y M:=by
 unfold lookK delK
 rw [List.find?_filter]
 split
 ·rename_i e
  subst e
  rw [Option.map_eq_none_iff,List.find?_eq_none]
  intro p _
  simp
 ·rename_i e
  congr 1
  refine congrArg (fun f=>List.find? f M) (funext fun p=>?_)
  by_cases h:p.1=y
  ·simp [h,e]
  ·simp [h]
theorem lookK_put {x y:Int} {v:Value} {M:KV} :lookK y (putK x v M)=if x=y then some v else lookK y M:=by
 unfold putK
 rw [lookK_ins (fun p hp=>(delK_mem.1 hp).2),lookK_del]
 by_cases e:x=y
 ·simp [e]
 ·rw [if_neg e,if_neg e,if_neg (fun h=>e h.symm)]
theorem lookK_none {x:Int} {M:KV} :lookK x M=none ↔ ∀p∈M,p.1≠x:=by
 unfold lookK
 rw [Option.map_eq_none_iff,List.find?_eq_none]
 exact ⟨fun h p hp=>by simpa using h p hp,fun h p hp=>by simpa using h p hp⟩
def datK (M:KV):DataW Value:=.map (M.map fun p=>(Lit.int .i64 p.1,DataW.held p.2))
def heldV (v:Value):Option (DataW Value × List MemPlace):=some (.held v,[])
theorem datK_filter (M:KV) (x:Int):(M.map fun p=>(Lit.int .i64 p.1,DataW.held p.2)).filter (fun p=>!p.1.sameKey (.int .i64 x))=(delK x M).map fun p=>(Lit.int .i64 p.1,DataW.held p.2):=by
 unfold delK
 rw [List.filter_map]
 congr 1
 refine congrArg (fun f=>List.filter f M) (funext fun p=>?_)
 simp [Lit.sameKey]
theorem datK_insert (M:KV) (e:Int × Value):DataW.insert (Lit.int .i64 e.1,DataW.held e.2) (M.map fun p=>(Lit.int .i64 p.1,DataW.held p.2))=(insK e M).map fun p=>(Lit.int .i64 p.1,DataW.held p.2):=by
 induction M with
 | nil=>rfl
 | cons y r ih=>
  rw [List.map_cons]
  unfold DataW.insert insK
  rw [ih]
  by_cases h:e.1 < y.1 <;> simp [Lit.before,h]
theorem datK_put (M:KV) (x:Int) (v:Value):(datK M).put (.int .i64 x) (.held v)=datK (putK x v M):=by
 show DataW.map _=DataW.map _
 rw [datK_filter]
 exact congrArg _ (datK_insert (delK x M) (x,v))
theorem datK_del (M:KV) (x:Int):(datK M).del (.int .i64 x)=datK (delK x M):=by
 show DataW.map _=DataW.map _
 rw [datK_filter]
theorem datK_find (M:KV) (x:Int):(M.map fun p=>(Lit.int .i64 p.1,(DataW.held p.2:DataW Value))).find? (fun p=>p.1.sameKey (.int .i64 x))=(M.find? fun p=>decide (p.1=x)).map fun p=>(Lit.int .i64 p.1,DataW.held p.2):=by
 rw [List.find?_map]
 congr 1
 refine congrArg (fun f=>List.find? f M) (funext fun p=>?_)
 simp [Lit.sameKey]
theorem datK_at (M:KV) (x:Int) (z:Value):(datK M).atKey (.int .i64 x) (.held z)= .held ((lookK x M).getD z):=by
 unfold datK DataW.atKey lookK
 simp only [datK_find]
 cases M.find? fun p=>decide (p.1=x) <;> rfl
theorem datK_has (M:KV) (x:Int):Maps.has (datK M) (.int .i64 x)=(lookK x M).isSome:=by
 unfold datK lookK
 rw [Maps.has_eq,←List.isSome_find?,datK_find]
 cases M.find? fun p=>decide (p.1=x) <;> rfl
theorem datK_size (M:KV):Maps.size (datK M)=M.length:=by unfold datK;rw [Maps.size_eq];simp
def MapI (P:Program) (k:TypeId) (w:World) (b:Nat) (M:KV):Prop:=w.ownsMap P k heldV b M.length (datK M)
section
variable {P:Program} {k e t:TypeId} {w w':World} {b:Nat} {M:KV}
theorem MapI.tight {n:Nat} (h:w.ownsMap P k heldV b n (datK M)):MapI P k w b M:=by
 obtain ⟨es,clock,hb,F,hs,hD⟩:=h
 refine ⟨es,clock,hb,F,?_,hD⟩
 have e1:=congrArg Maps.size hD
 rw [datK_size] at e1
 have:Maps.size (DataW.map ((es.toList.map (Go.WideElems.rg P k heldV)).foldr DataW.insert []))=es.size:=by simp [Maps.size,length_sorted]
 omega
theorem MapI.made (P:Program) (k:TypeId) (w:World):MapI P k (w.alloc (.map #[] 0)) w.heap.size []:=World.ownsMap_made w P k heldV
theorem MapI.lt (h:MapI P k w b M):b < w.heap.size:=World.ownsMap.lt h
theorem MapI.upd {x y:List Nat} (h:MapI P k w b M) (hu:Upd x y w w') (hb:b∉x):MapI P k w' b M:=by
 have hlt:=h.lt
 obtain ⟨es,clock,hh,r⟩:=h
 exact ⟨es,clock,(hu.block b hlt hb).trans hh,r⟩
theorem MapI.alloc (h:MapI P k w b M) (o:Obj):MapI P k (w.alloc o) b M:=World.ownsMap.alloc h o
theorem MapI.sorted (h:MapI P k w b M) (K:Keyed P k):M.Pairwise fun p q=>p.1 < q.1:=by
 obtain ⟨es,he,hp,-⟩:=World.ownsMap.canon h K
 injection he with he
 subst he
 rw [List.pairwise_map] at hp
 exact hp.imp fun {a b} hab=>by simpa [Lit.before] using hab
theorem MapI.look_ok (h:MapI P k w b M) (hk:P.underlying k=some (.int .i64)) (ht:P.underlying t=some (.map k e)) {z:Value} (hz:(zeroValue e).run P w= .ok z w) {x:Int} (hx:(Lit.int .i64 x).wf=true) :
  (Instr.lookup t (.map (some b)) (.int .i64 x) true).run P w= .ok (.tuple #[(lookK x M).getD z,.bool (lookK x M).isSome]) w:=by
 obtain ⟨v,ps,hrun,hv⟩:=World.ownsMap.look_ok h (int_keyed hk) ht hz (zd:=.held z) (zp:=[]) rfl (keyOf_int_mk hk hx)
 rw [datK_at] at hv
 rw [datK_has] at hrun
 injection hv with hv
 injection hv with hv _
 injection hv with hv
 rw [hrun,hv]
theorem MapI.look (h:MapI P k w b M) (hk:P.underlying k=some (.int .i64)) (ht:P.underlying t=some (.map k e)) {z:Value} (hz:(zeroValue e).run P w= .ok z w) {x:Int} (hx:(Lit.int .i64 x).wf=true) :
  (Instr.lookup t (.map (some b)) (.int .i64 x) false).run P w= .ok ((lookK x M).getD z) w:=by
 obtain ⟨v,ps,hrun,hv⟩:=World.ownsMap.lookup h (int_keyed hk) ht hz (zd:=.held z) (zp:=[]) rfl (keyOf_int_mk hk hx)
 rw [datK_at] at hv
 injection hv with hv
 injection hv with hv _
 injection hv with hv
 rw [hrun,hv]
theorem MapI.len (h:MapI P k w b M) (ht:P.underlying t=some (.map k e)) (ty:TypeId):(Builtin.len_ #[t] ty #[.map (some b)]).run P w= .ok (.int .i64 (M.length:Int)) w:=by
 have:=World.ownsMap.len h ht ty
 rwa [datK_size] at this
theorem upd_turned (h:w.mapTurned w' b):Upd [b] [b] w w':=by
 have hg:=h.grown
 exact ⟨hg.os,hg.tape,hg.output,hg.size,fun k hk hn=>hg.block k hk (fun e=>hn (by injection e with e;simp [e])),fun k hk=>.inl hk⟩
theorem MapI.store (h:MapI P k w b M) (hk:P.underlying k=some (.int .i64)) (ht:P.underlying t=some (.map k e)) (hn:M.length < maxLen) {x:Int} (hx:(Lit.int .i64 x).wf=true) (v:Value) :
  ∃w',(Instr.mapUpdate t (.map (some b)) (.int .i64 x) v).run P w= .ok () w'∧MapI P k w' b (putK x v M)∧Upd [b] [b] w w':=by
 obtain ⟨w',hrun,ho,ht⟩:=World.ownsMap.store h (int_keyed hk) ht hn (keyOf_int_mk hk hx) (val:=v) (d:=.held v) (ps:=[]) rfl
 rw [datK_put] at ho
 exact ⟨w',hrun,MapI.tight ho,upd_turned ht⟩
theorem MapI.drop (h:MapI P k w b M) (hk:P.underlying k=some (.int .i64)) (ht:P.underlying t=some (.map k e)) {x:Int} (hx:(Lit.int .i64 x).wf=true) (ty:TypeId) :
  ∃w',(Builtin.delete_ #[t,k] ty #[.map (some b),.int .i64 x]).run P w= .ok (.tuple #[]) w'∧MapI P k w' b (delK x M)∧Upd [b] [b] w w':=by
 obtain ⟨w',hrun,ho,ht⟩:=World.ownsMap.drop h (int_keyed hk) ht (keyOf_int_mk hk hx) ty
 rw [datK_del] at ho
 exact ⟨w',hrun,MapI.tight ho,upd_turned ht⟩
variable {ops:Array Oper} {rest:List Oper} {o:Oper} {a:Act} {Q:Exit→Act→World→Prop}
end
end Agio
namespace Agio
open Go Go.RowKit Go.Maps
section
variable {α β:Type}
abbrev AL (α:Type):=List (Int × α)
def lookG (x:Int) (M:AL α):Option α:=(M.find? fun p=>decide (p.1=x)).map Prod.snd
def insG (e:Int × α):AL α→AL α
 | []=>[e]
 | y :: r=>if e.1 < y.1 then e :: y :: r else y :: insG e r
def delG (x:Int) (M:AL α):AL α:=M.filter fun p=>!decide (p.1=x)
def putG (x:Int) (v:α) (M:AL α):AL α:=insG (x,v) (delG x M)
def mapG (f:α→β) (M:AL α):AL β:=M.map fun p=>(p.1,f p.2)
theorem insG_perm (e:Int × α) (M:AL α):(insG e M).Perm (e :: M):=by
 induction M with
 | nil=>exact .refl _
 | cons y r ih=>
  unfold insG
  split
  ·exact .refl _
  ·exact (ih.cons y).trans (.swap _ _ _)
theorem mem_insG {e p:Int × α} {M:AL α} :p∈insG e M ↔ p=e∨p∈M:=by rw [(insG_perm e M).mem_iff];simp
theorem delG_mem {x:Int} {M:AL α} {p:Int × α} :p∈delG x M ↔ p∈M∧p.1≠x:=by
 unfold delG;rw [List.mem_filter];simp
theorem mem_putG {x:Int} {v:α} {M:AL α} {p:Int × α} :p∈putG x v M ↔ p=(x,v)∨p∈M∧p.1≠x:=by
 unfold putG;rw [mem_insG,delG_mem]
theorem lookG_map (f:α→β) (x:Int) (M:AL α):lookG x (mapG f M)=(lookG x M).map f:=by
 unfold lookG mapG
 rw [List.find?_map,Option.map_map,Option.map_map]
 rfl
theorem insG_map (f:α→β) (e:Int × α) (M:AL α):mapG f (insG e M)=insG (e.1,f e.2) (mapG f M):=by
 induction M with
 | nil=>rfl
 | cons y r ih=>
  unfold mapG at ih ⊢
  rw [List.map_cons]
  unfold insG
  split <;> simp_all
theorem delG_map (f:α→β) (x:Int) (M:AL α):mapG f (delG x M)=delG x (mapG f M):=by
 unfold mapG delG
 rw [List.filter_map]
 rfl
theorem putG_map (f:α→β) (x:Int) (v:α) (M:AL α):mapG f (putG x v M)=putG x (f v) (mapG f M):=by
 unfold putG;rw [insG_map,delG_map]
theorem lookG_ins {e:Int × α} {x:Int} {M:AL α} (h:∀p∈M,p.1≠e.1):lookG x (insG e M)=if e.1=x then some e.2 else lookG x M:=by
 induction M with
 | nil=>simp only [insG,lookG,List.find?_cons];split <;> simp_all
 | cons y r ih=>
  have ih:=ih fun p hp=>h p (List.mem_cons_of_mem _ hp)
  have hy:=h y (by simp)
  unfold insG
  split
  ·unfold lookG;simp only [List.find?_cons];by_cases e1:e.1=x <;> simp [e1]
  ·unfold lookG at ih ⊢
   simp only [List.find?_cons]
   by_cases e1:y.1=x
   ·simp [e1,show ¬ e.1=x from fun e2=>hy (e1.trans e2.symm)]
   ·simpa [e1] using ih
theorem lookG_del {x y:Int} {M:AL α} :lookG y (delG x M)=if y=x then none else lookG y M:=by
 unfold lookG delG
 rw [List.find?_filter]
 split
 ·rename_i e
  subst e
  rw [Option.map_eq_none_iff,List.find?_eq_none]
  intro p _
  simp
 ·rename_i e
  congr 1
  refine congrArg (fun f=>List.find? f M) (funext fun p=>?_)
  by_cases h:p.1=y
  ·simp [h,e]
  ·simp [h]
theorem lookG_put {x y:Int} {v:α} {M:AL α} :lookG y (putG x v M)=if x=y then some v else lookG y M:=by
 unfold putG
 rw [lookG_ins (fun p hp=>(delG_mem.1 hp).2),lookG_del]
 by_cases e:x=y
 ·simp [e]
 ·rw [if_neg e,if_neg e,if_neg (fun h=>e h.symm)]
theorem lookG_none {x:Int} {M:AL α} :lookG x M=none ↔ ∀p∈M,p.1≠x:=by
 unfold lookG
 rw [Option.map_eq_none_iff,List.find?_eq_none]
 exact ⟨fun h p hp=>by simpa using h p hp,fun h p hp=>by simpa using h p hp⟩
theorem lookG_some {x:Int} {v:α} {M:AL α} (h:lookG x M=some v):(x,v)∈M:=by
 unfold lookG at h
 obtain ⟨p,hp,rfl⟩:=Option.map_eq_some_iff.1 h
 have h1:=List.mem_of_find?_eq_some hp
 have h2:p.1=x:=by simpa using List.find?_some hp
 rw [←h2];exact h1
theorem mapG_len (f:α→β) (M:AL α):(mapG f M).length=M.length:=by unfold mapG;simp
end
theorem lookK_G (x:Int) (M:KV):lookK x M=lookG x M:=rfl
theorem insK_G (e:Int × Value) (M:KV):insK e M=insG e M:=by
 induction M with
 | nil=>rfl
 | cons y r ih=>unfold insK insG;rw [ih]
theorem delK_G (x:Int) (M:KV):delK x M=delG x M:=rfl
theorem putK_G (x:Int) (v:Value) (M:KV):putK x v M=putG x v M:=by unfold putK putG;rw [insK_G,delK_G]
end Agio
namespace Agio
open Go Go.RowKit Go.Maps
def RngI (P:Program) (k:TypeId) (w:World) (b r:Nat) (M:KV) (left:Int→Bool) (cnt:Nat):Prop:=
 ∃lf,w.ranges P k heldV b r M.length (datK M) lf cnt∧∀x,lf (.int .i64 x)=left x
section
variable {P:Program} {k e t:TypeId} {w w':World} {b r cnt:Nat} {M:KV} {left:Int→Bool}
theorem RngI.left_eq (h:RngI P k w b r M left cnt):w.rangeLeft b r=cnt:=by
 obtain ⟨lf,h,-⟩:=h
 exact h.left_eq
theorem upd_grown {row:Option Nat} {fp:List Nat} (h:w.grownBy w' row) (hr:∀j,row=some j→j∈fp):Upd fp fp w w':=
 ⟨h.os,h.tape,h.output,h.size,fun j hj hn=>h.block j hj (fun e=>hn (hr j e.symm)),fun _ hj=>.inl hj⟩
theorem MapI.range (h:MapI P k w b M) (hk:P.underlying k=some (.int .i64)) (ht:P.underlying t=some (.map k e)) :
  ∃w',(Instr.range t (.map (some b))).run P w= .ok (.pointer (some ⟨w.heap.size,0,none⟩)) w'∧RngI P k w' b w.heap.size M (fun x=>(lookK x M).isSome) M.length∧Upd [] [] w w'∧w'.heap.size=w.heap.size + 1:=by
 obtain ⟨w',hrun,hr,hg,hs⟩:=World.ownsMap.range h (int_keyed hk) ht
 refine ⟨w',hrun,⟨_,?_,fun x=>datK_has M x⟩,upd_grown hg (by simp),hs⟩
 rw [datK_size] at hr
 exact hr
theorem RngI.next (h:RngI P k w b r M left cnt) (hk:P.underlying k=some (.int .i64)) (ty:TypeId) :
  (cnt=0∧(∀x,left x=false)∧(Instr.next (.pointer (some ⟨r,0,none⟩)) false ty).run P w= .ok (.tuple #[.bool false]) w)∨
  ∃x v w' cnt',left x=true∧lookK x M=some v∧(Instr.next (.pointer (some ⟨r,0,none⟩)) false ty).run P w= .ok (.tuple #[.bool true,.int .i64 x,v]) w'∧
   RngI P k w' b r M (fun y=>left y && !decide (y=x)) cnt'∧cnt' < cnt∧Upd [r] [r] w w'∧w'.heap.size=w.heap.size∧(Instr.entry (.pointer (some ⟨r,0,none⟩))).run P w'= .ok (.tuple #[.int .i64 x,v]) w':=by
 obtain ⟨lf,h,hl⟩:=h
 rcases h.next (int_keyed hk) ty with ⟨h0,hn,hrun⟩ | ⟨key,v,kl,y,w',cnt',hkey,hlk,hv,hat,hrun,hrg,hlt,hgr,hsz,hen⟩
 ·exact .inl ⟨h0,fun x=>by rw [←hl,hn],hrun⟩
 ·obtain ⟨x,rfl,rfl,hx⟩:=keyOf_int_inv hk hkey
  refine .inr ⟨x,v,w',cnt',by rw [←hl];exact hlk,?_,hrun,⟨_,hrg,fun y=>?_⟩,hlt,upd_grown hgr (by simp),hsz,hen⟩
  ·have e1:y=(.held v,[]):=by unfold heldV at hv;injection hv with hv;exact hv.symm
   subst e1
   have a1:=hat (.held (.bool true))
   have a2:=hat (.held (.bool false))
   rw [datK_at] at a1 a2
   cases hq:lookK x M with
   | some u=>
    rw [hq] at a1
    injection a1 with a1
    exact congrArg some a1
   | none=>
    rw [hq] at a1 a2
    injection a1 with a1
    injection a2 with a2
    simp only [Option.getD_none] at a1 a2
    rw [←a2] at a1
    cases a1
  ·simp only [hl]
   by_cases hyx:y=x
   ·subst hyx;simp [Lit.sameKey]
   ·simp [Lit.sameKey,hyx]
end
end Agio
