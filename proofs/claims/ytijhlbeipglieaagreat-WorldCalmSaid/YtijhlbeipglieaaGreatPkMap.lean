/- For WorldCalm. -/
import Derived.Maps.OwnSet
import Derived.Maps.Ext
import Derived.Maps.RangeWalk
import Derived.Test.YtijhlbeipglieaaGreatPkBase
set_option linter.all false
namespace aL
open Go Go.RowKit Go.Maps List
abbrev KV:=List (Int × Value)
def dX(x:Int)(M:KV):Option Value:=(M.find? fun p=>decide (p.1=x)).map Prod.snd
def jM(e:Int × Value):KV→KV
 |[]=>[e]
 |y::r=>if e.1<y.1 then e::y::r else y::jM e r
def jx(x:Int)(M:KV):KV:=M.filter fun p=>!decide (p.1=x)
def gb(x:Int)(v:Value)(M:KV):KV:=jM (x,v) (jx x M)
theorem Bi(e:Int × Value)(M:KV):(jM e M).Perm (e::M):=by
 induction M with
 |nil=>exact .refl _
 |cons y r ih=>
  unfold jM
  split
  ·exact .refl _
  ·exact(ih.cons y).trans (.swap _ _ _)
theorem Nu{e:Int × Value}{x:Int}{M:KV}(h:∀p∈M,p.1≠e.1):dX x (jM e M)=if e.1=x then some e.2 else dX x M:=by
 induction M with
 |nil=>simp only[jM,dX,List.find?_cons];split<;>simp_all
 |cons y r ih=>
  have ih:=ih fun p hp=>h p (mem_cons_of_mem _ hp)
  have hy:=h y (by simp)
  unfold jM
  split
  ·unfold dX;simp only[List.find?_cons];by_cases e1:e.1=x<;>simp[e1]
  ·unfold dX at ih ⊢
   simp only[List.find?_cons]
   by_cases e1:y.1=x
   ·simp[e1,show ¬ e.1=x from fun e2=>hy (e1.trans e2.symm)]
   ·simpa[e1]using ih
theorem Ff{x:Int}{M:KV}{p:Int × Value} :p∈jx x M ↔ p∈M∧p.1≠x:=by
 unfold jx;rw[mem_filter];simp
theorem Nv{x y:Int}{M:KV} :dX y (jx x M)=if y=x then none else dX y M:=by
 unfold dX jx
 rw[List.find?_filter]
 split
 ·rename_i e
  subst e
  rw[Option.map_eq_none_iff,List.find?_eq_none]
  intro p _
  simp
 ·rename_i e
  congr 1
  refine congrArg (fun f=>find? f M) (funext fun p=>?_)
  by_cases h:p.1=y
  ·simp[h,e]
  ·simp[h]
theorem Nw{x y:Int}{v:Value}{M:KV} :dX y (gb x v M)=if x=y then some v else dX y M:=by
 unfold gb
 rw[Nu (fun p hp=>(Ff.1 hp).2),Nv]
 by_cases e:x=y
 ·simp[e]
 ·rw[if_neg e,if_neg e,if_neg (fun h=>e h.symm)]
theorem Kj{x:Int}{M:KV} :dX x M=none ↔ ∀p∈M,p.1≠x:=by
 unfold dX
 rw[Option.map_eq_none_iff,List.find?_eq_none]
 exact⟨fun h p hp=>by simpa using h p hp,fun h p hp=>by simpa using h p hp⟩
def kN(M:KV):DataW Value:=.map (M.map fun p=>(Lit.int .i64 p.1,DataW.held p.2))
def wP(v:Value):Option (DataW Value × List MemPlace):=some (.held v,[])
theorem xN(M:KV)(x:Int):(M.map fun p=>(Lit.int .i64 p.1,DataW.held p.2)).filter (fun p=>!p.1.sameKey (.int .i64 x))=(jx x M).map fun p=>(Lit.int .i64 p.1,DataW.held p.2):=by
 unfold jx
 rw[filter_map]
 congr 1
 refine congrArg (fun f=>filter f M) (funext fun p=>?_)
 simp[Lit.sameKey]
theorem GX(M:KV)(e:Int × Value):DataW.insert (Lit.int .i64 e.1,DataW.held e.2) (M.map fun p=>(Lit.int .i64 p.1,DataW.held p.2))=(jM e M).map fun p=>(Lit.int .i64 p.1,DataW.held p.2):=by
 induction M with
 |nil=>rfl
 |cons y r ih=>
  rw[map_cons]
  unfold DataW.insert jM
  rw[ih]
  by_cases h:e.1<y.1<;>simp[Lit.before,h]
theorem Qm(M:KV)(x:Int)(v:Value):(kN M).put (.int .i64 x) (.held v)=kN (gb x v M):=by
 show DataW.map _=DataW.map _
 rw[xN]
 exact congrArg _ (GX (jx x M) (x,v))
theorem Qn(M:KV)(x:Int):(kN M).del (.int .i64 x)=kN (jx x M):=by
 show DataW.map _=DataW.map _
 rw[xN]
theorem Cd(M:KV)(x:Int):(M.map fun p=>(Lit.int .i64 p.1,(DataW.held p.2:DataW Value))).find? (fun p=>p.1.sameKey (.int .i64 x))=(M.find? fun p=>decide (p.1=x)).map fun p=>(Lit.int .i64 p.1,DataW.held p.2):=by
 rw[List.find?_map]
 congr 1
 refine congrArg (fun f=>find? f M) (funext fun p=>?_)
 simp[Lit.sameKey]
theorem AU(M:KV)(x:Int)(z:Value):(kN M).atKey (.int .i64 x) (.held z)=.held ((dX x M).getD z):=by
 unfold kN DataW.atKey dX
 simp only[Cd]
 cases M.find? fun p=>decide (p.1=x)<;>rfl
theorem Fg(M:KV)(x:Int):Maps.has (kN M) (.int .i64 x)=(dX x M).isSome:=by
 unfold kN dX
 rw[Maps.has_eq,←isSome_find?,Cd]
 cases M.find? fun p=>decide (p.1=x)<;>rfl
theorem ra(M:KV):Maps.size (kN M)=M.length:=by unfold kN;rw[Maps.size_eq];simp
def cz(P:Program)(k:TypeId)(w:World)(b:Nat)(M:KV):Prop:=w.ownsMap P k wP b M.length (kN M)
section
variable {P:Program} {k e t:TypeId} {w w':World} {b:Nat} {M:KV}
theorem cz.tight{n:Nat}(h:w.ownsMap P k wP b n (kN M)):cz P k w b M:=by
 obtain⟨es,clock,hb,F,hs,hD⟩:=h
 refine⟨es,clock,hb,F,?_,hD⟩
 have e1:=congrArg Maps.size hD
 rw[ra]at e1
 have:Maps.size (DataW.map ((es.toList.map (Go.WideElems.rg P k wP)).foldr DataW.insert []))=es.size:=by simp[Maps.size,length_sorted]
 omega
theorem cz.made(P:Program)(k:TypeId)(w:World):cz P k (w.alloc (.map #[] 0)) w.heap.size []:=World.ownsMap_made w P k wP
theorem cz.lt(h:cz P k w b M):b<w.heap.size:=World.ownsMap.lt h
theorem cz.aq{x y:List Nat}(h:cz P k w b M)(hu:ab x y w w')(hb:b∉x):cz P k w' b M:=by
 have hlt:=h.lt
 obtain⟨es,clock,hh,r⟩:=h
 exact⟨es,clock,(hu.block b hlt hb).trans hh,r⟩
theorem cz.alloc(h:cz P k w b M)(o:Obj):cz P k (w.alloc o) b M:=World.ownsMap.alloc h o
theorem cz.sorted(h:cz P k w b M)(K:Keyed P k):M.Pairwise fun p q=>p.1<q.1:=by
 obtain⟨es,he,hp,-⟩:=World.ownsMap.canon h K
 injection he with he
 subst he
 rw[pairwise_map]at hp
 exact hp.imp fun {a b} pP=>by simpa[Lit.before]using pP
theorem cz.look_ok(h:cz P k w b M)(hk:P.underlying k=some (.int .i64))(ht:P.underlying t=some (.map k e)){z:Value}(hz:(zeroValue e).run P w=.ok z w){x:Int}(hx:(Lit.int .i64 x).wf=true) :
  (Instr.lookup t (.map (some b)) (.int .i64 x) true).run P w=.ok (.tuple #[(dX x M).getD z,.bool (dX x M).isSome]) w:=by
 obtain⟨v,ps,hrun,hv⟩:=World.ownsMap.look_ok h (int_keyed hk) ht hz (zd:=.held z) (zp:=[]) rfl (keyOf_int_mk hk hx)
 rw[AU]at hv
 rw[Fg]at hrun
 injection hv with hv
 injection hv with hv _
 injection hv with hv
 rw[hrun,hv]
theorem cz.look(h:cz P k w b M)(hk:P.underlying k=some (.int .i64))(ht:P.underlying t=some (.map k e)){z:Value}(hz:(zeroValue e).run P w=.ok z w){x:Int}(hx:(Lit.int .i64 x).wf=true) :
  (Instr.lookup t (.map (some b)) (.int .i64 x) false).run P w=.ok ((dX x M).getD z) w:=by
 obtain⟨v,ps,hrun,hv⟩:=World.ownsMap.lookup h (int_keyed hk) ht hz (zd:=.held z) (zp:=[]) rfl (keyOf_int_mk hk hx)
 rw[AU]at hv
 injection hv with hv
 injection hv with hv _
 injection hv with hv
 rw[hrun,hv]
theorem cz.len(h:cz P k w b M)(ht:P.underlying t=some (.map k e))(ty:TypeId):(Builtin.len_ #[t] ty #[.map (some b)]).run P w=.ok (.int .i64 (M.length:Int)) w:=by
 have:=World.ownsMap.len h ht ty
 rwa [ra]at this
theorem zL(h:w.mapTurned w' b):ab [b] [b] w w':=by
 have hg:=h.grown
 exact⟨hg.os,hg.tape,hg.output,hg.size,fun k hk hn=>hg.block k hk (fun e=>hn (by injection e with e;simp[e])),fun k hk=>.inl hk⟩
theorem cz.store(h:cz P k w b M)(hk:P.underlying k=some (.int .i64))(ht:P.underlying t=some (.map k e))(hn:M.length<maxLen){x:Int}(hx:(Lit.int .i64 x).wf=true)(v:Value) :
  ∃w',(Instr.mapUpdate t (.map (some b)) (.int .i64 x) v).run P w=.ok () w'∧cz P k w' b (gb x v M)∧ab [b] [b] w w':=by
 obtain⟨w',hrun,ho,ht⟩:=World.ownsMap.store h (int_keyed hk) ht hn (keyOf_int_mk hk hx) (val:=v) (d:=.held v) (ps:=[]) rfl
 rw[Qm]at ho
 exact⟨w',hrun,cz.tight ho,zL ht⟩
theorem cz.drop(h:cz P k w b M)(hk:P.underlying k=some (.int .i64))(ht:P.underlying t=some (.map k e)){x:Int}(hx:(Lit.int .i64 x).wf=true)(ty:TypeId) :
  ∃w',(Builtin.delete_ #[t,k] ty #[.map (some b),.int .i64 x]).run P w=.ok (.tuple #[]) w'∧cz P k w' b (jx x M)∧ab [b] [b] w w':=by
 obtain⟨w',hrun,ho,ht⟩:=World.ownsMap.drop h (int_keyed hk) ht (keyOf_int_mk hk hx) ty
 rw[Qn]at ho
 exact⟨w',hrun,cz.tight ho,zL ht⟩
variable {ops:Array Oper} {rest:List Oper} {o:Oper} {a:Act} {Q:Exit→Act→World→Prop}
end
section
variable {α β:Type}
abbrev AL(α:Type):=List (Int × α)
def aD(x:Int)(M:AL α):Option α:=(M.find? fun p=>decide (p.1=x)).map Prod.snd
def gK(e:Int × α):AL α→AL α
 |[]=>[e]
 |y::r=>if e.1<y.1 then e::y::r else y::gK e r
def bY(x:Int)(M:AL α):AL α:=M.filter fun p=>!decide (p.1=x)
def aT(x:Int)(v:α)(M:AL α):AL α:=gK (x,v) (bY x M)
def cD(f:α→β)(M:AL α):AL β:=M.map fun p=>(p.1,f p.2)
theorem vk(e:Int × α)(M:AL α):(gK e M).Perm (e::M):=by
 induction M with
 |nil=>exact .refl _
 |cons y r ih=>
  unfold gK
  split
  ·exact .refl _
  ·exact(ih.cons y).trans (.swap _ _ _)
theorem DW{e p:Int × α}{M:AL α} :p∈gK e M ↔ p=e∨p∈M:=by rw[(vk e M).mem_iff];simp
theorem fK{x:Int}{M:AL α}{p:Int × α} :p∈bY x M ↔ p∈M∧p.1≠x:=by
 unfold bY;rw[mem_filter];simp
theorem ec{x:Int}{v:α}{M:AL α}{p:Int × α} :p∈aT x v M ↔ p=(x,v)∨p∈M∧p.1≠x:=by
 unfold aT;rw[DW,fK]
theorem eB(f:α→β)(x:Int)(M:AL α):aD x (cD f M)=(aD x M).map f:=by
 unfold aD cD
 rw[List.find?_map,Option.map_map,Option.map_map]
 rfl
theorem Qo(f:α→β)(e:Int × α)(M:AL α):cD f (gK e M)=gK (e.1,f e.2) (cD f M):=by
 induction M with
 |nil=>rfl
 |cons y r ih=>
  unfold cD at ih ⊢
  rw[map_cons]
  unfold gK
  split<;>simp_all
theorem lC(f:α→β)(x:Int)(M:AL α):cD f (bY x M)=bY x (cD f M):=by
 unfold cD bY
 rw[filter_map]
 rfl
theorem fi(f:α→β)(x:Int)(v:α)(M:AL α):cD f (aT x v M)=aT x (f v) (cD f M):=by
 unfold aT;rw[Qo,lC]
theorem Nx{e:Int × α}{x:Int}{M:AL α}(h:∀p∈M,p.1≠e.1):aD x (gK e M)=if e.1=x then some e.2 else aD x M:=by
 induction M with
 |nil=>simp only[gK,aD,List.find?_cons];split<;>simp_all
 |cons y r ih=>
  have ih:=ih fun p hp=>h p (mem_cons_of_mem _ hp)
  have hy:=h y (by simp)
  unfold gK
  split
  ·unfold aD;simp only[List.find?_cons];by_cases e1:e.1=x<;>simp[e1]
  ·unfold aD at ih ⊢
   simp only[List.find?_cons]
   by_cases e1:y.1=x
   ·simp[e1,show ¬ e.1=x from fun e2=>hy (e1.trans e2.symm)]
   ·simpa[e1]using ih
theorem gm{x y:Int}{M:AL α} :aD y (bY x M)=if y=x then none else aD y M:=by
 unfold aD bY
 rw[List.find?_filter]
 split
 ·rename_i e
  subst e
  rw[Option.map_eq_none_iff,List.find?_eq_none]
  intro p _
  simp
 ·rename_i e
  congr 1
  refine congrArg (fun f=>find? f M) (funext fun p=>?_)
  by_cases h:p.1=y
  ·simp[h,e]
  ·simp[h]
theorem cO{x y:Int}{v:α}{M:AL α} :aD y (aT x v M)=if x=y then some v else aD y M:=by
 unfold aT
 rw[Nx (fun p hp=>(fK.1 hp).2),gm]
 by_cases e:x=y
 ·simp[e]
 ·rw[if_neg e,if_neg e,if_neg (fun h=>e h.symm)]
theorem kb{x:Int}{M:AL α} :aD x M=none ↔ ∀p∈M,p.1≠x:=by
 unfold aD
 rw[Option.map_eq_none_iff,List.find?_eq_none]
 exact⟨fun h p hp=>by simpa using h p hp,fun h p hp=>by simpa using h p hp⟩
theorem bG{x:Int}{v:α}{M:AL α}(h:aD x M=some v):(x,v)∈M:=by
 unfold aD at h
 obtain⟨p,hp,rfl⟩:=Option.map_eq_some_iff.1 h
 have h1:=List.mem_of_find?_eq_some hp
 have h2:p.1=x:=by simpa using List.find?_some hp
 rw[←h2];exact h1
theorem lk(f:α→β)(M:AL α):(cD f M).length=M.length:=by unfold cD;simp
end
theorem lK(x:Int)(M:KV):dX x M=aD x M:=rfl
theorem XD(e:Int × Value)(M:KV):jM e M=gK e M:=by
 induction M with
 |nil=>rfl
 |cons y r ih=>unfold jM gK;rw[ih]
theorem zC(x:Int)(M:KV):jx x M=bY x M:=rfl
theorem vQ(x:Int)(v:Value)(M:KV):gb x v M=aT x v M:=by unfold gb aT;rw[XD,zC]
def yy(P:Program)(k:TypeId)(w:World)(b r:Nat)(M:KV)(left:Int→Bool)(xM:Nat):Prop:=
 ∃lf,w.ranges P k wP b r M.length (kN M) lf xM∧∀x,lf (.int .i64 x)=left x
section
variable {P:Program} {k e t:TypeId} {w w':World} {b r xM:Nat} {M:KV} {left:Int→Bool}
theorem yy.left_eq(h:yy P k w b r M left xM):w.rangeLeft b r=xM:=by
 obtain⟨lf,h,-⟩:=h
 exact h.left_eq
theorem Ce{row:Option Nat}{fp:List Nat}(h:w.grownBy w' row)(hr:∀j,row=some j→j∈fp):ab fp fp w w':=
 ⟨h.os,h.tape,h.output,h.size,fun j hj hn=>h.block j hj (fun e=>hn (hr j e.symm)),fun _ hj=>.inl hj⟩
theorem cz.range(h:cz P k w b M)(hk:P.underlying k=some (.int .i64))(ht:P.underlying t=some (.map k e)) :
  ∃w',(Instr.range t (.map (some b))).run P w=.ok (.pointer (some ⟨w.heap.size,0,none⟩)) w'∧yy P k w' b w.heap.size M (fun x=>(dX x M).isSome) M.length∧ab [] [] w w'∧w'.heap.size=w.heap.size+1:=by
 obtain⟨w',hrun,hr,hg,hs⟩:=World.ownsMap.range h (int_keyed hk) ht
 refine⟨w',hrun,⟨_,?_,fun x=>Fg M x⟩,Ce hg (by simp),hs⟩
 rw[ra]at hr
 exact hr
theorem yy.next(h:yy P k w b r M left xM)(hk:P.underlying k=some (.int .i64))(ty:TypeId) :
  (xM=0∧(∀x,left x=false)∧(Instr.next (.pointer (some ⟨r,0,none⟩)) false ty).run P w=.ok (.tuple #[.bool false]) w)∨
  ∃x v w' AT,left x=true∧dX x M=some v∧(Instr.next (.pointer (some ⟨r,0,none⟩)) false ty).run P w=.ok (.tuple #[.bool true,.int .i64 x,v]) w'∧
   yy P k w' b r M (fun y=>left y && !decide (y=x)) AT∧AT<xM∧ab [r] [r] w w'∧w'.heap.size=w.heap.size∧(Instr.entry (.pointer (some ⟨r,0,none⟩))).run P w'=.ok (.tuple #[.int .i64 x,v]) w':=by
 obtain⟨lf,h,hl⟩:=h
 rcases h.next (int_keyed hk) ty with⟨h0,hn,hrun⟩|⟨key,v,kl,y,w',AT,hkey,hlk,hv,hat,hrun,hrg,hlt,hgr,hsz,hen⟩
 ·exact .inl ⟨h0,fun x=>by rw[←hl,hn],hrun⟩
 ·obtain⟨x,rfl,rfl,hx⟩:=keyOf_int_inv hk hkey
  refine .inr ⟨x,v,w',AT,by rw[←hl];exact hlk,?_,hrun,⟨_,hrg,fun y=>?_⟩,hlt,Ce hgr (by simp),hsz,hen⟩
  ·have e1:y=(.held v,[]):=by unfold wP at hv;injection hv with hv;exact hv.symm
   subst e1
   have a1:=hat (.held (.bool true))
   have a2:=hat (.held (.bool false))
   rw[AU]at a1 a2
   cases hq:dX x M with
   |some u=>
    rw[hq]at a1
    injection a1 with a1
    exact congrArg some a1
   |none=>
    rw[hq]at a1 a2
    injection a1 with a1
    injection a2 with a2
    simp only[Option.getD_none]at a1 a2
    rw[←a2]at a1
    cases a1
  ·simp only[hl]
   by_cases uS:y=x
   ·subst uS;simp[Lit.sameKey]
   ·simp[Lit.sameKey,uS]
end
