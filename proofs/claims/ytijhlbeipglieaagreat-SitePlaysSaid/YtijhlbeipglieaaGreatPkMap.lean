/- For SitePlays. -/
import Derived.Maps.OwnSet
import Derived.Maps.Ext
import Derived.Maps.RangeWalk
import Derived.Test.YtijhlbeipglieaaGreatPkBase
set_option linter.all false
namespace aA
open Go Go.RowKit Go.Maps List
abbrev KV:=List (Int × Value)
def eH(x:Int)(M:KV):Option Value:=(M.find? fun p=>decide (p.1=x)).map Prod.snd
def jU(e:Int × Value):KV→KV
 |[]=>[e]
 |y::r=>if e.1<y.1 then e::y::r else y::jU e r
def iR(x:Int)(M:KV):KV:=M.filter fun p=>!decide (p.1=x)
def gm(x:Int)(v:Value)(M:KV):KV:=jU (x,v) (iR x M)
theorem EA(e:Int × Value)(M:KV):(jU e M).Perm (e::M):=by
 induction M with
 |nil=>exact .refl _
 |cons y r ih=>
  unfold jU
  split
  ·exact .refl _
  ·exact(ih.cons y).trans (.swap _ _ _)
theorem Qg{e:Int × Value}{x:Int}{M:KV}(h:∀p∈M,p.1≠e.1):eH x (jU e M)=if e.1=x then some e.2 else eH x M:=by
 induction M with
 |nil=>simp only[jU,eH,List.find?_cons];split<;>simp_all
 |cons y r ih=>
  have ih:=ih fun p hp=>h p (mem_cons_of_mem _ hp)
  have hy:=h y (by simp)
  unfold jU
  split
  ·unfold eH;simp only[List.find?_cons];by_cases e1:e.1=x<;>simp[e1]
  ·unfold eH at ih ⊢
   simp only[List.find?_cons]
   by_cases e1:y.1=x
   ·simp[e1,show ¬ e.1=x from fun e2=>hy (e1.trans e2.symm)]
   ·simpa[e1]using ih
theorem IE{x:Int}{M:KV}{p:Int × Value} :p∈iR x M ↔ p∈M∧p.1≠x:=by
 unfold iR;rw[mem_filter];simp
theorem Qh{x y:Int}{M:KV} :eH y (iR x M)=if y=x then none else eH y M:=by
 unfold eH iR
 rw[List.find?_filter]
 split
 ·rename_i e
  subst e
  rw[Option.map_eq_none_iff,List.find?_eq_none]
  intro p _
  simp
 ·rename_i e
  congr 1
  refine congrArg (fun f=>find? f M) (funext fun p=>?_)
  by_cases h:p.1=y
  ·simp[h,e]
  ·simp[h]
theorem Qi{x y:Int}{v:Value}{M:KV} :eH y (gm x v M)=if x=y then some v else eH y M:=by
 unfold gm
 rw[Qg (fun p hp=>(IE.1 hp).2),Qh]
 by_cases e:x=y
 ·simp[e]
 ·rw[if_neg e,if_neg e,if_neg (fun h=>e h.symm)]
theorem Oh{x:Int}{M:KV} :eH x M=none ↔ ∀p∈M,p.1≠x:=by
 unfold eH
 rw[Option.map_eq_none_iff,List.find?_eq_none]
 exact⟨fun h p hp=>by simpa using h p hp,fun h p hp=>by simpa using h p hp⟩
def lV(M:KV):DataW Value:=.map (M.map fun p=>(Lit.int .i64 p.1,DataW.held p.2))
def zM(v:Value):Option (DataW Value × List MemPlace):=some (.held v,[])
theorem Ap(M:KV)(x:Int):(M.map fun p=>(Lit.int .i64 p.1,DataW.held p.2)).filter (fun p=>!p.1.sameKey (.int .i64 x))=(iR x M).map fun p=>(Lit.int .i64 p.1,DataW.held p.2):=by
 unfold iR
 rw[filter_map]
 congr 1
 refine congrArg (fun f=>filter f M) (funext fun p=>?_)
 simp[Lit.sameKey]
theorem KX(M:KV)(e:Int × Value):DataW.insert (Lit.int .i64 e.1,DataW.held e.2) (M.map fun p=>(Lit.int .i64 p.1,DataW.held p.2))=(jU e M).map fun p=>(Lit.int .i64 p.1,DataW.held p.2):=by
 induction M with
 |nil=>rfl
 |cons y r ih=>
  rw[map_cons]
  unfold DataW.insert jU
  rw[ih]
  by_cases h:e.1<y.1<;>simp[Lit.before,h]
theorem Tz(M:KV)(x:Int)(v:Value):(lV M).put (.int .i64 x) (.held v)=lV (gm x v M):=by
 show DataW.map _=DataW.map _
 rw[Ap]
 exact congrArg _ (KX (iR x M) (x,v))
theorem TA(M:KV)(x:Int):(lV M).del (.int .i64 x)=lV (iR x M):=by
 show DataW.map _=DataW.map _
 rw[Ap]
theorem Fu(M:KV)(x:Int):(M.map fun p=>(Lit.int .i64 p.1,(DataW.held p.2:DataW Value))).find? (fun p=>p.1.sameKey (.int .i64 x))=(M.find? fun p=>decide (p.1=x)).map fun p=>(Lit.int .i64 p.1,DataW.held p.2):=by
 rw[List.find?_map]
 congr 1
 refine congrArg (fun f=>find? f M) (funext fun p=>?_)
 simp[Lit.sameKey]
theorem El(M:KV)(x:Int)(z:Value):(lV M).atKey (.int .i64 x) (.held z)=.held ((eH x M).getD z):=by
 unfold lV DataW.atKey eH
 simp only[Fu]
 cases M.find? fun p=>decide (p.1=x)<;>rfl
theorem IG(M:KV)(x:Int):Maps.has (lV M) (.int .i64 x)=(eH x M).isSome:=by
 unfold lV eH
 rw[Maps.has_eq,←isSome_find?,Fu]
 cases M.find? fun p=>decide (p.1=x)<;>rfl
theorem uK(M:KV):Maps.size (lV M)=M.length:=by unfold lV;rw[Maps.size_eq];simp
def bP(P:Program)(k:TypeId)(w:World)(b:Nat)(M:KV):Prop:=w.ownsMap P k zM b M.length (lV M)
section
variable {P:Program} {k e t:TypeId} {w w':World} {b:Nat} {M:KV}
theorem bP.tight{n:Nat}(h:w.ownsMap P k zM b n (lV M)):bP P k w b M:=by
 obtain⟨es,clock,hb,F,hs,hD⟩:=h
 refine⟨es,clock,hb,F,?_,hD⟩
 have e1:=congrArg Maps.size hD
 rw[uK]at e1
 have:Maps.size (DataW.map ((es.toList.map (Go.WideElems.rg P k zM)).foldr DataW.insert []))=es.size:=by simp[Maps.size,length_sorted]
 omega
theorem bP.made(P:Program)(k:TypeId)(w:World):bP P k (w.alloc (.map #[] 0)) w.heap.size []:=World.ownsMap_made w P k zM
theorem bP.lt(h:bP P k w b M):b<w.heap.size:=World.ownsMap.lt h
theorem bP.upd{x y:List Nat}(h:bP P k w b M)(hu:aa x y w w')(hb:b∉x:=by simp):bP P k w' b M:=by
 have hlt:=h.lt
 obtain⟨es,clock,hh,r⟩:=h
 exact⟨es,clock,(hu.block b hlt hb).trans hh,r⟩
theorem bP.alloc(h:bP P k w b M)(o:Obj):bP P k (w.alloc o) b M:=World.ownsMap.alloc h o
theorem bP.sorted(h:bP P k w b M)(K:Keyed P k):M.Pairwise fun p q=>p.1<q.1:=by
 obtain⟨es,he,hp,-⟩:=World.ownsMap.canon h K
 injection he with he
 subst he
 rw[pairwise_map]at hp
 exact hp.imp fun {a b} hab=>by simpa[Lit.before]using hab
theorem bP.look_ok(h:bP P k w b M)(hk:P.underlying k=some (.int .i64))(ht:P.underlying t=some (.map k e)){z:Value}(hz:(zeroValue e).run P w=.ok z w){x:Int}(hx:(Lit.int .i64 x).wf=true) :
  (Instr.lookup t (.map (some b)) (.int .i64 x) true).run P w=.ok (.tuple #[(eH x M).getD z,.bool (eH x M).isSome]) w:=by
 obtain⟨v,ps,abS,hv⟩:=World.ownsMap.look_ok h (int_keyed hk) ht hz (zd:=.held z) (zp:=[]) rfl (keyOf_int_mk hk hx)
 rw[El]at hv
 rw[IG]at abS
 injection hv with hv
 injection hv with hv _
 injection hv with hv
 rw[abS,hv]
theorem bP.look(h:bP P k w b M)(hk:P.underlying k=some (.int .i64))(ht:P.underlying t=some (.map k e)){z:Value}(hz:(zeroValue e).run P w=.ok z w){x:Int}(hx:(Lit.int .i64 x).wf=true) :
  (Instr.lookup t (.map (some b)) (.int .i64 x) false).run P w=.ok ((eH x M).getD z) w:=by
 obtain⟨v,ps,abS,hv⟩:=World.ownsMap.lookup h (int_keyed hk) ht hz (zd:=.held z) (zp:=[]) rfl (keyOf_int_mk hk hx)
 rw[El]at hv
 injection hv with hv
 injection hv with hv _
 injection hv with hv
 rw[abS,hv]
theorem bP.len(h:bP P k w b M)(ht:P.underlying t=some (.map k e))(ty:TypeId):(Builtin.len_ #[t] ty #[.map (some b)]).run P w=.ok (.int .i64 (M.length:Int)) w:=by
 have:=World.ownsMap.len h ht ty
 rwa [uK]at this
theorem CY(h:w.mapTurned w' b):aa [b] [b] w w':=by
 have hg:=h.grown
 exact⟨hg.os,hg.tape,hg.output,hg.size,fun k hk hn=>hg.block k hk (fun e=>hn (by injection e with e;simp[e])),fun k hk=>.inl hk⟩
theorem bP.store(h:bP P k w b M)(hk:P.underlying k=some (.int .i64))(ht:P.underlying t=some (.map k e))(hn:M.length<maxLen){x:Int}(hx:(Lit.int .i64 x).wf=true)(v:Value) :
  ∃w',(Instr.mapUpdate t (.map (some b)) (.int .i64 x) v).run P w=.ok () w'∧bP P k w' b (gm x v M)∧aa [b] [b] w w':=by
 obtain⟨w',abS,ho,ht⟩:=World.ownsMap.store h (int_keyed hk) ht hn (keyOf_int_mk hk hx) (val:=v) (d:=.held v) (ps:=[]) rfl
 rw[Tz]at ho
 exact⟨w',abS,bP.tight ho,CY ht⟩
theorem bP.drop(h:bP P k w b M)(hk:P.underlying k=some (.int .i64))(ht:P.underlying t=some (.map k e)){x:Int}(hx:(Lit.int .i64 x).wf=true)(ty:TypeId) :
  ∃w',(Builtin.delete_ #[t,k] ty #[.map (some b),.int .i64 x]).run P w=.ok (.tuple #[]) w'∧bP P k w' b (iR x M)∧aa [b] [b] w w':=by
 obtain⟨w',abS,ho,ht⟩:=World.ownsMap.drop h (int_keyed hk) ht (keyOf_int_mk hk hx) ty
 rw[TA]at ho
 exact⟨w',abS,bP.tight ho,CY ht⟩
variable {ops:Array Oper} {rest:List Oper} {o:Oper} {a:Act} {Q:Exit→Act→World→Prop}
end
section
variable {α β:Type}
abbrev AL(α:Type):=List (Int × α)
def aC(x:Int)(M:AL α):Option α:=(M.find? fun p=>decide (p.1=x)).map Prod.snd
def jM(e:Int × α):AL α→AL α
 |[]=>[e]
 |y::r=>if e.1<y.1 then e::y::r else y::jM e r
def dD(x:Int)(M:AL α):AL α:=M.filter fun p=>!decide (p.1=x)
def aG(x:Int)(v:α)(M:AL α):AL α:=jM (x,v) (dD x M)
def bS(f:α→β)(M:AL α):AL β:=M.map fun p=>(p.1,f p.2)
theorem yS(e:Int × α)(M:AL α):(jM e M).Perm (e::M):=by
 induction M with
 |nil=>exact .refl _
 |cons y r ih=>
  unfold jM
  split
  ·exact .refl _
  ·exact(ih.cons y).trans (.swap _ _ _)
theorem TB{e p:Int × α}{M:AL α} :p∈jM e M ↔ p=e∨p∈M:=by rw[(yS e M).mem_iff];simp
theorem gU{x:Int}{M:AL α}{p:Int × α} :p∈dD x M ↔ p∈M∧p.1≠x:=by
 unfold dD;rw[mem_filter];simp
theorem eY{x:Int}{v:α}{M:AL α}{p:Int × α} :p∈aG x v M ↔ p=(x,v)∨p∈M∧p.1≠x:=by
 unfold aG;rw[TB,gU]
theorem fH(f:α→β)(x:Int)(M:AL α):aC x (bS f M)=(aC x M).map f:=by
 unfold aC bS
 rw[List.find?_map,Option.map_map,Option.map_map]
 rfl
theorem TC(f:α→β)(e:Int × α)(M:AL α):bS f (jM e M)=jM (e.1,f e.2) (bS f M):=by
 induction M with
 |nil=>rfl
 |cons y r ih=>
  unfold bS at ih ⊢
  rw[map_cons]
  unfold jM
  split<;>simp_all
theorem mI(f:α→β)(x:Int)(M:AL α):bS f (dD x M)=dD x (bS f M):=by
 unfold bS dD
 rw[filter_map]
 rfl
theorem fE(f:α→β)(x:Int)(v:α)(M:AL α):bS f (aG x v M)=aG x (f v) (bS f M):=by
 unfold aG;rw[TC,mI]
theorem Qj{e:Int × α}{x:Int}{M:AL α}(h:∀p∈M,p.1≠e.1):aC x (jM e M)=if e.1=x then some e.2 else aC x M:=by
 induction M with
 |nil=>simp only[jM,aC,List.find?_cons];split<;>simp_all
 |cons y r ih=>
  have ih:=ih fun p hp=>h p (mem_cons_of_mem _ hp)
  have hy:=h y (by simp)
  unfold jM
  split
  ·unfold aC;simp only[List.find?_cons];by_cases e1:e.1=x<;>simp[e1]
  ·unfold aC at ih ⊢
   simp only[List.find?_cons]
   by_cases e1:y.1=x
   ·simp[e1,show ¬ e.1=x from fun e2=>hy (e1.trans e2.symm)]
   ·simpa[e1]using ih
theorem Qk{x y:Int}{M:AL α} :aC y (dD x M)=if y=x then none else aC y M:=by
 unfold aC dD
 rw[List.find?_filter]
 split
 ·rename_i e
  subst e
  rw[Option.map_eq_none_iff,List.find?_eq_none]
  intro p _
  simp
 ·rename_i e
  congr 1
  refine congrArg (fun f=>find? f M) (funext fun p=>?_)
  by_cases h:p.1=y
  ·simp[h,e]
  ·simp[h]
theorem kC{x y:Int}{v:α}{M:AL α} :aC y (aG x v M)=if x=y then some v else aC y M:=by
 unfold aG
 rw[Qj (fun p hp=>(gU.1 hp).2),Qk]
 by_cases e:x=y
 ·simp[e]
 ·rw[if_neg e,if_neg e,if_neg (fun h=>e h.symm)]
theorem rX{x:Int}{M:AL α} :aC x M=none ↔ ∀p∈M,p.1≠x:=by
 unfold aC
 rw[Option.map_eq_none_iff,List.find?_eq_none]
 exact⟨fun h p hp=>by simpa using h p hp,fun h p hp=>by simpa using h p hp⟩
theorem aY{x:Int}{v:α}{M:AL α}(h:aC x M=some v):(x,v)∈M:=by
 unfold aC at h
 obtain⟨p,hp,rfl⟩:=Option.map_eq_some_iff.1 h
 have h1:=List.mem_of_find?_eq_some hp
 have h2:p.1=x:=by simpa using List.find?_some hp
 rw[←h2];exact h1
theorem mE(f:α→β)(M:AL α):(bS f M).length=M.length:=by unfold bS;simp
end
theorem qj(x:Int)(M:KV):eH x M=aC x M:=rfl
theorem Zw(e:Int × Value)(M:KV):jU e M=jM e M:=by
 induction M with
 |nil=>rfl
 |cons y r ih=>unfold jU jM;rw[ih]
theorem Cr(x:Int)(M:KV):iR x M=dD x M:=rfl
theorem yR(x:Int)(v:Value)(M:KV):gm x v M=aG x v M:=by unfold gm aG;rw[Zw,Cr]
def xy(P:Program)(k:TypeId)(w:World)(b r:Nat)(M:KV)(left:Int→Bool)(cnt:Nat):Prop:=
 ∃lf,w.ranges P k zM b r M.length (lV M) lf cnt∧∀x,lf (.int .i64 x)=left x
section
variable {P:Program} {k e t:TypeId} {w w':World} {b r cnt:Nat} {M:KV} {left:Int→Bool}
theorem xy.map(h:xy P k w b r M left cnt):bP P k w b M:=by
 obtain⟨lf,h,-⟩:=h
 exact h.owns
theorem xy.left_eq(h:xy P k w b r M left cnt):w.rangeLeft b r=cnt:=by
 obtain⟨lf,h,-⟩:=h
 exact h.left_eq
theorem Fv{row:Option Nat}{fp:List Nat}(h:w.grownBy w' row)(hr:∀j,row=some j→j∈fp):aa fp fp w w':=
 ⟨h.os,h.tape,h.output,h.size,fun j hj hn=>h.block j hj (fun e=>hn (hr j e.symm)),fun _ hj=>.inl hj⟩
theorem bP.range(h:bP P k w b M)(hk:P.underlying k=some (.int .i64))(ht:P.underlying t=some (.map k e)) :
  ∃w',(Instr.range t (.map (some b))).run P w=.ok (.pointer (some ⟨w.heap.size,0,none⟩)) w'∧xy P k w' b w.heap.size M (fun x=>(eH x M).isSome) M.length∧aa [] [] w w'∧w'.heap.size=w.heap.size+1:=by
 obtain⟨w',abS,hr,hg,hs⟩:=World.ownsMap.range h (int_keyed hk) ht
 refine⟨w',abS,⟨_,?_,fun x=>IG M x⟩,Fv hg (by simp),hs⟩
 rw[uK]at hr
 exact hr
theorem xy.next(h:xy P k w b r M left cnt)(hk:P.underlying k=some (.int .i64))(ty:TypeId) :
  (cnt=0∧(∀x,left x=false)∧(Instr.next (.pointer (some ⟨r,0,none⟩)) false ty).run P w=.ok (.tuple #[.bool false]) w)∨
  ∃x v w' ag5,left x=true∧eH x M=some v∧(Instr.next (.pointer (some ⟨r,0,none⟩)) false ty).run P w=.ok (.tuple #[.bool true,.int .i64 x,v]) w'∧
   xy P k w' b r M (fun y=>left y && !decide (y=x)) ag5∧ag5<cnt∧aa [r] [r] w w'∧w'.heap.size=w.heap.size∧(Instr.entry (.pointer (some ⟨r,0,none⟩))).run P w'=.ok (.tuple #[.int .i64 x,v]) w':=by
 obtain⟨lf,h,hl⟩:=h
 rcases h.next (int_keyed hk) ty with⟨h0,hn,abS⟩|⟨key,v,kl,y,w',ag5,apN,hlk,hv,hat,abS,hrg,hlt,hgr,hsz,hen⟩
 ·exact .inl ⟨h0,fun x=>by rw[←hl,hn],abS⟩
 ·obtain⟨x,rfl,rfl,hx⟩:=keyOf_int_inv hk apN
  refine .inr ⟨x,v,w',ag5,by rw[←hl];exact hlk,?_,abS,⟨_,hrg,fun y=>?_⟩,hlt,Fv hgr (by simp),hsz,hen⟩
  ·have e1:y=(.held v,[]):=by unfold zM at hv;injection hv with hv;exact hv.symm
   subst e1
   have a1:=hat (.held (.bool true))
   have a2:=hat (.held (.bool false))
   rw[El]at a1 a2
   cases hq:eH x M with
   |some u=>
    rw[hq]at a1
    injection a1 with a1
    exact congrArg some a1
   |none=>
    rw[hq]at a1 a2
    injection a1 with a1
    injection a2 with a2
    simp only[Option.getD_none]at a1 a2
    rw[←a2]at a1
    cases a1
  ·simp only[hl]
   by_cases hyx:y=x
   ·subst hyx;simp[Lit.sameKey]
   ·simp[Lit.sameKey,hyx]
end
