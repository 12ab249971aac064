/- For SitePlays. -/
import Derived.Test.YtijhlbeipglieaaGreatPkFrame
set_option linter.all false
set_option maxRecDepth 100000
set_option maxHeartbeats 4000000
namespace Go.Proofs.YtijhlbeipglieaaGreat
open Go.RowKit aA Tryz List
theorem mR(a b c d:Int)(w:World):(binOp .eql 30 (.agg #[.int .i64 a,.int .i64 b]) (.agg #[.int .i64 c,.int .i64 d])).run prog w=.ok (.bool ((a==c)&&(b==d))) w:=by
 rw[run_eql_struct,show(10000:Nat)=9999+1 from rfl]
 rw[run_equalIn_struct w _ _ _ _ (by kernel_rfl) (by kernel_rfl)]
 rw[show prog.fieldsOf 30=_ from by unfold Program.fieldsOf;rw[underlying30]]
 have p0:=fun(x y:Int)(w:World)=>show(part 3 #[.int .i64 x,.int .i64 y] 0).run prog w=.ok (.int .i64 x) w by kernel_rfl
 have p1:=fun(x y:Int)(w:World)=>show(part 3 #[.int .i64 x,.int .i64 y] 1).run prog w=.ok (.int .i64 y) w by kernel_rfl
 have e0:=fun(a b:Int)(w:World)=>show(Op.equalIn 9999 3 (.int .i64 a) (.int .i64 b)).run prog w=.ok (a==b) w by kernel_rfl
 simp only[Op.eqFields,Sem.run_bind,p0,p1,e0,Result.andThen_ok,ne_eq,String.reduceEq,not_false_eq_true,if_true,Sem.run_ite,Sem.run_pure]
 cases a==c
 ·rfl
 cases b==d<;>rfl
structure Mv where
 k:Int
 f:Int
 t:Int
 s:Int
 br:Int
 bs:Int
 hr:Int
 hs:Int
 so:Bool
 A:Option Addr
 n:Nat
 c:Nat
 b:List UInt8
def Mv.cells(x:Mv):List Value:=[.int .i64 x.k,.int .i64 x.f,.int .i64 x.t,.int .i64 x.s,.int .i64 x.br,.int .i64 x.bs,.int .i64 x.hr,.int .i64 x.hs,.bool x.so,.slice x.A x.n x.c]
def Mv.val(x:Mv):Value:=.agg x.cells.toArray
abbrev MC(m:Mv):Array Value:=#[.int .i64 m.k,.int .i64 m.f,.int .i64 m.t,.int .i64 m.s,.int .i64 m.br,.int .i64 m.bs,.int .i64 m.hr,.int .i64 m.hs,.bool m.so,.slice m.A m.n m.c]
theorem Mv.aH(x:Mv):x.val=.agg #[.int .i64 x.k,.int .i64 x.f,.int .i64 x.t,.int .i64 x.s,.int .i64 x.br,.int .i64 x.bs,.int .i64 x.hr,.int .i64 x.hs,.bool x.so,.slice x.A x.n x.c]:=rfl
def Mv.ms(x:Mv):Ms:=⟨x.k,x.f,x.t,x.s,x.br,x.bs,x.hr,x.hs,x.so,x.b⟩
def fq(n:Int):Bool:=decide (0≤n)&&decide (n<7)
theorem fo{n:Int}(h:0≤n∧n≤6):fq n=true:=by unfold fq;simp;omega
theorem II{n:Int}(h:¬ (0≤n∧n≤6)):fq n=false:=by unfold fq;simp;omega
def ko(r s:Int):Bool:=decide (0≤r)&&decide (r≤1099511627776)&&fq s
theorem kW{r s:Int}(h:0≤r∧r≤1099511627776)(h2:0≤s∧s≤6):ko r s=true:=by unfold ko fq;simp;omega
theorem zN{r s:Int}(h:¬ ((0≤r∧r≤1099511627776)∧0≤s∧s≤6)):ko r s=false:=by unfold ko fq;simp;omega
theorem fC(n:Int)(w:World):Calls prog 199 #[.int .i64 n] w fun e w'=>e=.returned (.bool (fq n))∧w=w':=by
 go_enter func199,ntmps199
 repeat' first|go_skip|go_guarded|go_step
 all_goals go_ret
 all_goals exact⟨by simp[fq, *],rfl⟩
theorem Oi(n:Int)(w:World):Calls prog 251 #[.int .i64 n,.int .i64 7] w fun e w'=>e=.returned (.bool (fq n))∧w=w':=by
 go_enter func251,ntmps251
 repeat' first|go_skip|go_guarded|go_step
 all_goals go_ret
 all_goals exact⟨by simp[fq, *],rfl⟩
theorem iL(r s:Int)(w:World):Calls prog 200 #[.agg #[.int .i64 r,.int .i64 s],.int .i64 7] w fun e w'=>e=.returned (.bool (ko r s))∧aa [] [] w w':=by
 by_cases h0:0≤r
 ·by_cases h1:r≤1099511627776
  ·have HB:Hid (ko r s=fq s):=by unfold Hid ko;simp[h0,h1]
   go_enter func200,ntmps200
   repeat' first|go_guarded|go_step
   refine(Oi s _).mono ?_;rintro e w1 ⟨rfl,rfl⟩
   refine wk ?_
   go_ret
   exact⟨by rw[HB.out];rfl,(aa.refl _ _).alloc _⟩
  ·have HB:Hid (ko r s=false):=zN (by omega)
   have h1':1099511627776<r:=by omega
   go_enter func200,ntmps200
   refine wk ?_
   go_ret
   exact⟨by rw[HB.out];rfl,(aa.refl _ _).alloc _⟩
 ·have HB:Hid (ko r s=false):=zN (by omega)
  have h0':r<0:=by omega
  go_enter func200,ntmps200
  refine wk ?_
  go_ret
  exact⟨by rw[HB.out];rfl,(aa.refl _ _).alloc _⟩
theorem IJ{m:Ms}(h:¬ m.May):(m.kind<1∨8<m.kind)∨(1≤m.kind∧m.kind≤8)∧(¬ (0≤m.bO∧m.bO≤6)∨(0≤m.bO∧m.bO≤6)∧(¬ (0≤m.to∧m.to≤6)∨(0≤m.to∧m.to≤6)∧
  ((m.slot<0∨4096≤m.slot)∨(0≤m.slot∧m.slot<4096)∧(2048<m.val.length∨m.val.length≤2048∧
  (¬ ((0≤m.dz∧m.dz≤1099511627776)∧0≤m.ed∧m.ed≤6)∨((0≤m.dz∧m.dz≤1099511627776)∧0≤m.ed∧m.ed≤6)∧
  (¬ ((0≤m.fO∧m.fO≤1099511627776)∧0≤m.ig∧m.ig≤6)∨((0≤m.fO∧m.fO≤1099511627776)∧0≤m.ig∧m.ig≤6)∧
  m.some_=false∧(¬ (m.fO=0∧m.ig=0)∨(m.fO=0∧m.ig=0)∧¬ m.val.length=0))))))):=by
 by_cases h1:m.kind<1∨8<m.kind
 ·exact .inl h1
 refine .inr ⟨by omega,?_⟩
 by_cases h2:¬ (0≤m.bO∧m.bO≤6)
 ·exact .inl h2
 have h2:=Classical.not_not.1 h2
 refine .inr ⟨h2,?_⟩
 by_cases h3:¬ (0≤m.to∧m.to≤6)
 ·exact .inl h3
 have h3:=Classical.not_not.1 h3
 refine .inr ⟨h3,?_⟩
 by_cases h4:m.slot<0∨4096≤m.slot
 ·exact .inl h4
 refine .inr ⟨by omega,?_⟩
 by_cases h5:2048<m.val.length
 ·exact .inl h5
 refine .inr ⟨by omega,?_⟩
 by_cases h6:¬ ((0≤m.dz∧m.dz≤1099511627776)∧0≤m.ed∧m.ed≤6)
 ·exact .inl h6
 have h6:=Classical.not_not.1 h6
 refine .inr ⟨h6,?_⟩
 by_cases h7:¬ ((0≤m.fO∧m.fO≤1099511627776)∧0≤m.ig∧m.ig≤6)
 ·exact .inl h7
 have h7:=Classical.not_not.1 h7
 refine .inr ⟨h7,?_⟩
 cases h8:m.some_
 ·refine⟨rfl,?_⟩
  by_cases h9:m.fO=0∧m.ig=0
  ·refine .inr ⟨h9,fun h10=>h ⟨by omega,h2,h3,by omega,h6.1,h6.2,h7.1,h7.2,by omega,.inr ⟨h9,h10⟩⟩⟩
  ·exact .inl h9
 ·exact absurd ⟨by omega,h2,h3,by omega,h6.1,h6.2,h7.1,h7.2,by omega,.inl h8⟩ h
theorem TD(k f t s br bs hr hs:Int)(so:Bool)(A:Option Addr)(n c:Nat)(w:World)(h:k<1∨8<k) :
  Calls prog 121 #[.agg #[.int .i64 k,.int .i64 f,.int .i64 t,.int .i64 s,.int .i64 br,.int .i64 bs,.int .i64 hr,.int .i64 hs,.bool so,.slice A n c]] w fun e w'=>e=.returned (.bool false)∧aa [] [] w w':=by
 rcases h with h|h
 ·go_enter func121,ntmps121
  refine wk ?_
  go_ret
  exact⟨rfl,((aa.refl _ _).alloc _)⟩
 ·have k1:1≤k:=by omega
  go_enter func121,ntmps121
  refine wk ?_
  go_ret
  exact⟨rfl,((aa.refl _ _).alloc _)⟩
theorem TE(k f t s br bs hr hs:Int)(so:Bool)(A:Option Addr)(n c:Nat)(w:World)(k1:1≤k)(k8:k≤8)(hf:fq f=false) :
  Calls prog 121 #[.agg #[.int .i64 k,.int .i64 f,.int .i64 t,.int .i64 s,.int .i64 br,.int .i64 bs,.int .i64 hr,.int .i64 hs,.bool so,.slice A n c]] w fun e w'=>e=.returned (.bool false)∧aa [] [] w w':=by
 go_enter func121,ntmps121
 repeat' first|go_guarded|go_step
 refine(fC f _).mono ?_;rintro e w' ⟨rfl,rfl⟩
 refine wk ?_
 go_ret
 exact⟨rfl,((aa.refl _ _).alloc _)⟩
theorem TF(k f t s br bs hr hs:Int)(so:Bool)(A:Option Addr)(n c:Nat)(w:World)(k1:1≤k)(k8:k≤8)(hf:fq f=true)(ht:fq t=false) :
  Calls prog 121 #[.agg #[.int .i64 k,.int .i64 f,.int .i64 t,.int .i64 s,.int .i64 br,.int .i64 bs,.int .i64 hr,.int .i64 hs,.bool so,.slice A n c]] w fun e w'=>e=.returned (.bool false)∧aa [] [] w w':=by
 go_enter func121,ntmps121
 repeat' first|go_guarded|go_step
 refine(fC f _).mono ?_;rintro e w' ⟨rfl,rfl⟩
 repeat' first|go_guarded|go_step|simp only[];go_at_K
 refine(fC t _).mono ?_;rintro e w' ⟨rfl,rfl⟩
 refine wk ?_
 go_ret
 exact⟨rfl,((aa.refl _ _).alloc _)⟩
theorem TG(k f t s br bs hr hs:Int)(so:Bool)(A:Option Addr)(n c:Nat)(w:World)(k1:1≤k)(k8:k≤8)(hf:fq f=true)(ht:fq t=true)(h:s<0∨4096≤s) :
  Calls prog 121 #[.agg #[.int .i64 k,.int .i64 f,.int .i64 t,.int .i64 s,.int .i64 br,.int .i64 bs,.int .i64 hr,.int .i64 hs,.bool so,.slice A n c]] w fun e w'=>e=.returned (.bool false)∧aa [] [] w w':=by
 rcases h with h|h
 ·go_enter func121,ntmps121
  repeat' first|go_guarded|go_step
  refine(fC f _).mono ?_;rintro e w' ⟨rfl,rfl⟩
  repeat' first|go_guarded|go_step|simp only[];go_at_K
  refine(fC t _).mono ?_;rintro e w' ⟨rfl,rfl⟩
  repeat' first|go_skip|go_guarded|go_step|simp only[];go_at_K
  go_ret
  exact⟨rfl,((aa.refl _ _).alloc _)⟩
 ·have s0:0≤s:=by omega
  go_enter func121,ntmps121
  repeat' first|go_guarded|go_step
  refine(fC f _).mono ?_;rintro e w' ⟨rfl,rfl⟩
  repeat' first|go_guarded|go_step|simp only[];go_at_K
  refine(fC t _).mono ?_;rintro e w' ⟨rfl,rfl⟩
  repeat' first|go_skip|go_guarded|go_step|simp only[];go_at_K
  go_ret
  exact⟨rfl,((aa.refl _ _).alloc _)⟩
theorem TH(k f t s br bs hr hs:Int)(so:Bool)(A:Option Addr)(n c:Nat)(w:World)(k1:1≤k)(k8:k≤8)(hf:fq f=true)(ht:fq t=true)(s0:0≤s)(s1:s<4096)(hn:2048<(n:Int)) :
  Calls prog 121 #[.agg #[.int .i64 k,.int .i64 f,.int .i64 t,.int .i64 s,.int .i64 br,.int .i64 bs,.int .i64 hr,.int .i64 hs,.bool so,.slice A n c]] w fun e w'=>e=.returned (.bool false)∧aa [] [] w w':=by
 go_enter func121,ntmps121
 repeat' first|go_guarded|go_step
 refine(fC f _).mono ?_;rintro e w' ⟨rfl,rfl⟩
 repeat' first|go_guarded|go_step|simp only[];go_at_K
 refine(fC t _).mono ?_;rintro e w' ⟨rfl,rfl⟩
 repeat' first|go_guarded|go_step|simp only[];go_at_K
 go_ret
 exact⟨rfl,((aa.refl _ _).alloc _)⟩
theorem TI(k f t s br bs hr hs:Int)(so:Bool)(A:Option Addr)(n c:Nat)(w:World)(k1:1≤k)(k8:k≤8)(hf:fq f=true)(ht:fq t=true)(s0:0≤s)(s1:s<4096)(hn:(n:Int)≤2048)(hb:ko br bs=false) :
  Calls prog 121 #[.agg #[.int .i64 k,.int .i64 f,.int .i64 t,.int .i64 s,.int .i64 br,.int .i64 bs,.int .i64 hr,.int .i64 hs,.bool so,.slice A n c]] w fun e w'=>e=.returned (.bool false)∧aa [] [] w w':=by
 go_enter func121,ntmps121
 repeat' first|go_guarded|go_step
 refine(fC f _).mono ?_;rintro e w' ⟨rfl,rfl⟩
 repeat' first|go_guarded|go_step|simp only[];go_at_K
 refine(fC t _).mono ?_;rintro e w' ⟨rfl,rfl⟩
 repeat' first|go_guarded|go_step|simp only[];go_at_K
 refine(iL br bs _).mono ?_;rintro e w1 ⟨rfl,hu1⟩
 have hX1:=(ak.new w 32 #[.int .i64 k,.int .i64 f,.int .i64 t,.int .i64 s,.int .i64 br,.int .i64 bs,.int .i64 hr,.int .i64 hs,.bool so,.slice A n c]).upd hu1
 obtain⟨⟨-,-,-,-,-,-,Ql,Qn,Qo,Qp⟩,-⟩:=hX1.c10
 refine wk ?_
 go_ret
 exact⟨rfl,(((aa.refl _ _).alloc _).trans hu1)⟩
theorem TJ(k f t s br bs hr hs:Int)(so:Bool)(A:Option Addr)(n c:Nat)(w:World)(k1:1≤k)(k8:k≤8)(hf:fq f=true)(ht:fq t=true)(s0:0≤s)(s1:s<4096)(hn:(n:Int)≤2048)(hb:ko br bs=true)(hh:ko hr hs=false) :
  Calls prog 121 #[.agg #[.int .i64 k,.int .i64 f,.int .i64 t,.int .i64 s,.int .i64 br,.int .i64 bs,.int .i64 hr,.int .i64 hs,.bool so,.slice A n c]] w fun e w'=>e=.returned (.bool false)∧aa [] [] w w':=by
 go_enter func121,ntmps121
 repeat' first|go_guarded|go_step
 refine(fC f _).mono ?_;rintro e w' ⟨rfl,rfl⟩
 repeat' first|go_guarded|go_step|simp only[];go_at_K
 refine(fC t _).mono ?_;rintro e w' ⟨rfl,rfl⟩
 repeat' first|go_guarded|go_step|simp only[];go_at_K
 refine(iL br bs _).mono ?_;rintro e w1 ⟨rfl,hu1⟩
 have hX1:=(ak.new w 32 #[.int .i64 k,.int .i64 f,.int .i64 t,.int .i64 s,.int .i64 br,.int .i64 bs,.int .i64 hr,.int .i64 hs,.bool so,.slice A n c]).upd hu1
 obtain⟨⟨-,-,-,-,-,-,Ql,Qn,Qo,Qp⟩,-⟩:=hX1.c10
 repeat' first|go_guarded|go_step|simp only[];go_at_K
 refine(iL hr hs _).mono ?_;rintro e w2 ⟨rfl,hu2⟩
 have hX2:=hX1.upd hu2
 obtain⟨⟨-,-,-,-,-,-,WL,WM,WN,WO⟩,-⟩:=hX2.c10
 refine wk ?_
 go_ret
 exact⟨rfl,((((aa.refl _ _).alloc _).trans hu1).trans hu2)⟩
theorem TK(k f t s br bs hr hs:Int)(so:Bool)(A:Option Addr)(n c:Nat)(w:World)(k1:1≤k)(k8:k≤8)(hf:fq f=true)(ht:fq t=true)(s0:0≤s)(s1:s<4096)(hn:(n:Int)≤2048)(hb:ko br bs=true)(hh:ko hr hs=true)(ho:so=false)(h:¬ (hr=0∧hs=0)) :
  Calls prog 121 #[.agg #[.int .i64 k,.int .i64 f,.int .i64 t,.int .i64 s,.int .i64 br,.int .i64 bs,.int .i64 hr,.int .i64 hs,.bool so,.slice A n c]] w fun e w'=>e=.returned (.bool false)∧aa [] [] w w':=by
 subst ho
 have eq:=fun w=>(mR hr hs 0 0 w).trans (by rw[show((hr==0)&&(hs==0))=false by rw[Bool.and_eq_false_iff];simp;omega])
 clear h
 go_enter func121,ntmps121
 repeat' first|go_guarded|go_step
 refine(fC f _).mono ?_;rintro e w' ⟨rfl,rfl⟩
 repeat' first|go_guarded|go_step|simp only[];go_at_K
 refine(fC t _).mono ?_;rintro e w' ⟨rfl,rfl⟩
 repeat' first|go_guarded|go_step|simp only[];go_at_K
 refine(iL br bs _).mono ?_;rintro e w1 ⟨rfl,hu1⟩
 have hX1:=(ak.new w 32 #[.int .i64 k,.int .i64 f,.int .i64 t,.int .i64 s,.int .i64 br,.int .i64 bs,.int .i64 hr,.int .i64 hs,.bool false,.slice A n c]).upd hu1
 obtain⟨⟨-,-,-,-,-,-,Ql,Qn,Qo,Qp⟩,-⟩:=hX1.c10
 repeat' first|go_guarded|go_step|simp only[];go_at_K
 refine(iL hr hs _).mono ?_;rintro e w2 ⟨rfl,hu2⟩
 have hX2:=hX1.upd hu2
 obtain⟨⟨-,-,-,-,-,-,WL,WM,WN,WO⟩,-⟩:=hX2.c10
 refine wk ?_
 go_ret
 exact⟨rfl,((((aa.refl _ _).alloc _).trans hu1).trans hu2)⟩
theorem TL(k f t s br bs hr hs:Int)(so:Bool)(A:Option Addr)(n c:Nat)(w:World)(k1:1≤k)(k8:k≤8)(hf:fq f=true)(ht:fq t=true)(s0:0≤s)(s1:s<4096)(hn:(n:Int)≤2048)(hb:ko br bs=true)(hh:ko hr hs=true)(ho:so=false)(h:hr=0∧hs=0)(h0:((n:Int)==0)=false) :
  Calls prog 121 #[.agg #[.int .i64 k,.int .i64 f,.int .i64 t,.int .i64 s,.int .i64 br,.int .i64 bs,.int .i64 hr,.int .i64 hs,.bool so,.slice A n c]] w fun e w'=>e=.returned (.bool false)∧aa [] [] w w':=by
 subst ho
 have eq:=fun w=>(mR hr hs 0 0 w).trans (by rw[show((hr==0)&&(hs==0))=true by simp[h.1,h.2]])
 clear h
 go_enter func121,ntmps121
 repeat' first|go_guarded|go_step
 refine(fC f _).mono ?_;rintro e w' ⟨rfl,rfl⟩
 repeat' first|go_guarded|go_step|simp only[];go_at_K
 refine(fC t _).mono ?_;rintro e w' ⟨rfl,rfl⟩
 repeat' first|go_guarded|go_step|simp only[];go_at_K
 refine(iL br bs _).mono ?_;rintro e w1 ⟨rfl,hu1⟩
 have hX1:=(ak.new w 32 #[.int .i64 k,.int .i64 f,.int .i64 t,.int .i64 s,.int .i64 br,.int .i64 bs,.int .i64 hr,.int .i64 hs,.bool false,.slice A n c]).upd hu1
 obtain⟨⟨-,-,-,-,-,-,Ql,Qn,Qo,Qp⟩,-⟩:=hX1.c10
 repeat' first|go_guarded|go_step|simp only[];go_at_K
 refine(iL hr hs _).mono ?_;rintro e w2 ⟨rfl,hu2⟩
 have hX2:=hX1.upd hu2
 obtain⟨⟨-,-,-,-,-,-,WL,WM,WN,WO⟩,-⟩:=hX2.c10
 refine wk ?_
 go_ret
 exact⟨rfl,((((aa.refl _ _).alloc _).trans hu1).trans hu2)⟩
theorem KY(k f t s br bs hr hs:Int)(so:Bool)(A:Option Addr)(n c:Nat)(w:World)(k1:1≤k)(k8:k≤8)(hf:fq f=true)(ht:fq t=true)(s0:0≤s)(s1:s<4096)(hn:(n:Int)≤2048)(hb:ko br bs=true)(hh:ko hr hs=true)(ho:so=true) :
  Calls prog 121 #[.agg #[.int .i64 k,.int .i64 f,.int .i64 t,.int .i64 s,.int .i64 br,.int .i64 bs,.int .i64 hr,.int .i64 hs,.bool so,.slice A n c]] w fun e w'=>e=.returned (.bool true)∧aa [] [] w w':=by
 subst ho
 go_enter func121,ntmps121
 repeat' first|go_guarded|go_step
 refine(fC f _).mono ?_;rintro e w' ⟨rfl,rfl⟩
 repeat' first|go_guarded|go_step|simp only[];go_at_K
 refine(fC t _).mono ?_;rintro e w' ⟨rfl,rfl⟩
 repeat' first|go_guarded|go_step|simp only[];go_at_K
 refine(iL br bs _).mono ?_;rintro e w1 ⟨rfl,hu1⟩
 have hX1:=(ak.new w 32 #[.int .i64 k,.int .i64 f,.int .i64 t,.int .i64 s,.int .i64 br,.int .i64 bs,.int .i64 hr,.int .i64 hs,.bool true,.slice A n c]).upd hu1
 obtain⟨⟨-,-,-,-,-,-,Ql,Qn,Qo,Qp⟩,-⟩:=hX1.c10
 repeat' first|go_guarded|go_step|simp only[];go_at_K
 refine(iL hr hs _).mono ?_;rintro e w2 ⟨rfl,hu2⟩
 have hX2:=hX1.upd hu2
 obtain⟨⟨-,-,-,-,-,-,WL,WM,WN,WO⟩,-⟩:=hX2.c10
 refine wk ?_
 go_ret
 exact⟨rfl,((((aa.refl _ _).alloc _).trans hu1).trans hu2)⟩
theorem KZ(k f t s br bs hr hs:Int)(so:Bool)(A:Option Addr)(n c:Nat)(w:World)(k1:1≤k)(k8:k≤8)(hf:fq f=true)(ht:fq t=true)(s0:0≤s)(s1:s<4096)(hn:(n:Int)≤2048)(hb:ko br bs=true)(hh:ko hr hs=true)(ho:so=false)(h:hr=0∧hs=0)(h0:((n:Int)==0)=true) :
  Calls prog 121 #[.agg #[.int .i64 k,.int .i64 f,.int .i64 t,.int .i64 s,.int .i64 br,.int .i64 bs,.int .i64 hr,.int .i64 hs,.bool so,.slice A n c]] w fun e w'=>e=.returned (.bool true)∧aa [] [] w w':=by
 subst ho
 have eq:=fun w=>(mR hr hs 0 0 w).trans (by rw[show((hr==0)&&(hs==0))=true by simp[h.1,h.2]])
 clear h
 go_enter func121,ntmps121
 repeat' first|go_guarded|go_step
 refine(fC f _).mono ?_;rintro e w' ⟨rfl,rfl⟩
 repeat' first|go_guarded|go_step|simp only[];go_at_K
 refine(fC t _).mono ?_;rintro e w' ⟨rfl,rfl⟩
 repeat' first|go_guarded|go_step|simp only[];go_at_K
 refine(iL br bs _).mono ?_;rintro e w1 ⟨rfl,hu1⟩
 have hX1:=(ak.new w 32 #[.int .i64 k,.int .i64 f,.int .i64 t,.int .i64 s,.int .i64 br,.int .i64 bs,.int .i64 hr,.int .i64 hs,.bool false,.slice A n c]).upd hu1
 obtain⟨⟨-,-,-,-,-,-,Ql,Qn,Qo,Qp⟩,-⟩:=hX1.c10
 repeat' first|go_guarded|go_step|simp only[];go_at_K
 refine(iL hr hs _).mono ?_;rintro e w2 ⟨rfl,hu2⟩
 have hX2:=hX1.upd hu2
 obtain⟨⟨-,-,-,-,-,-,WL,WM,WN,WO⟩,-⟩:=hX2.c10
 refine wk ?_
 go_ret
 exact⟨rfl,((((aa.refl _ _).alloc _).trans hu1).trans hu2)⟩
theorem Oj(x:Mv)(w:World)(hr:aD w x.A x.n x.b)(hm:x.ms.May) :
  Calls prog 121 #[x.val] w fun e w'=>e=.returned (.bool true)∧aa [] [] w w':=by
 have hn:=hr.len
 obtain⟨h1,h2,h3,h4,h5,h6,h7,h8,h9,h10⟩:=hm
 simp only[Mv.ms]at h1 h2 h3 h4 h5 h6 h7 h8 h9 h10
 rw[Mv.aH]
 cases ho:x.so
 ·have h11:(x.hr=0∧x.hs=0)∧x.b.length=0:=by
   rcases h10 with h|h
   ·rw[ho]at h;cases h
   ·exact h
  exact KZ _ _ _ _ _ _ _ _ _ _ _ _ w h1.1 h1.2 (fo h2) (fo h3) h4.1 (by omega) (by omega) (kW h5 h6) (kW h7 h8) rfl h11.1 (by simp;omega)
 ·exact KY _ _ _ _ _ _ _ _ _ _ _ _ w h1.1 h1.2 (fo h2) (fo h3) h4.1 (by omega) (by omega) (kW h5 h6) (kW h7 h8) rfl
theorem Qq(x:Mv)(w:World)(hr:aD w x.A x.n x.b)(hm:¬ x.ms.May) :
  Calls prog 121 #[x.val] w fun e w'=>e=.returned (.bool false)∧aa [] [] w w':=by
 have hn:=hr.len
 have hm:=IJ hm
 simp only[Mv.ms]at hm
 rw[Mv.aH]
 rcases hm with h|⟨⟨k1,k8⟩,h|⟨hf,h|⟨ht,h|⟨⟨s0,s1⟩,h|⟨hv,h|⟨hb,h|⟨hh,ho,h|⟨h,h0⟩⟩⟩⟩⟩⟩⟩⟩
 ·exact TD _ _ _ _ _ _ _ _ _ _ _ _ w h
 ·exact TE _ _ _ _ _ _ _ _ _ _ _ _ w k1 k8 (II h)
 ·exact TF _ _ _ _ _ _ _ _ _ _ _ _ w k1 k8 (fo hf) (II h)
 ·exact TG _ _ _ _ _ _ _ _ _ _ _ _ w k1 k8 (fo hf) (fo ht) h
 ·exact TH _ _ _ _ _ _ _ _ _ _ _ _ w k1 k8 (fo hf) (fo ht) s0 s1 (by omega)
 ·exact TI _ _ _ _ _ _ _ _ _ _ _ _ w k1 k8 (fo hf) (fo ht) s0 s1 (by omega) (zN h)
 ·exact TJ _ _ _ _ _ _ _ _ _ _ _ _ w k1 k8 (fo hf) (fo ht) s0 s1 (by omega) (kW hb.1 hb.2) (zN h)
 ·exact TK _ _ _ _ _ _ _ _ _ _ _ _ w k1 k8 (fo hf) (fo ht) s0 s1 (by omega) (kW hb.1 hb.2) (kW hh.1 hh.2) ho h
 ·exact TL _ _ _ _ _ _ _ _ _ _ _ _ w k1 k8 (fo hf) (fo ht) s0 s1 (by omega) (kW hb.1 hb.2) (kW hh.1 hh.2) ho h (by simp;omega)
open Go
def wT(l:List Nat):List Value:=l.map fun n:Nat=>.int .i64 (n:Int)
theorem SC(l:List Nat)(k:Nat)(h:k<l.length):(wT l)[k]? =some (.int .i64 (l[k]:Int)):=by simp[wT,h]
theorem EG{l:List Nat}{i:Nat}(h:i<l.length):(l.take (i+1)).flatMap dL=(l.take i).flatMap dL++dL l[i]:=by
 rw[take_succ_eq_append_getElem h,flatMap_append];simp
theorem Gt{l:List Nat}(hU:∀n∈l,dZ n)(i:Nat):((l.take i).flatMap dL).length≤10*l.length:=by
 have:=sZ (l:=l.take i) fun n hn=>hU n (mem_of_mem_take hn)
 have h2:(l.take i).length≤l.length:=by simp;omega
 omega
theorem EJ{b:List UInt8}{ms:List Int}(h:nums b ms 0=none):body b ms=none:=by unfold body;rw[h]
theorem LX{b:List UInt8}{ms:List Int}{l:List Nat}{a:Nat}(h:nums b ms 0=some (l,a)){v:List UInt8}{k bad:Nat}(ht:tk 2048 (b.drop a)=(v,k,bad)):body b ms=if bad=0∧a+k=b.length then some (l,v)else none:=by
 unfold body;rw[h];simp only[ht]
def kX(M S:Nat):List Addr:=[⟨M,0,none⟩,⟨M,1,none⟩,⟨M,2,none⟩,⟨M,3,none⟩,⟨M,4,none⟩,⟨M,5,none⟩,⟨M,6,none⟩,⟨M,7,none⟩,⟨S,0,none⟩]
def xz(l:List Addr):List Value:=l.map fun a=>.pointer (some a)
theorem Qs(l:List Addr)(k:Nat)(h:k<l.length):(xz l)[k]? =some (.pointer (some l[k])):=by simp[xz,h]
theorem La{M S:Nat}{a:Addr}(h:a∈kX M S):a.block=M∨a.block=S:=by
 simp only[kX,mem_cons,not_mem_nil,or_false]at h
 rcases h with rfl|rfl|rfl|rfl|rfl|rfl|rfl|rfl|rfl<;>simp
theorem Wr.ai9{w:World}{g:Nat}{A:Option Addr}{k c:Nat}{l:List UInt8}(hw:Wr w g A k c l){h:Nat}{t:TypeId}{cs:Array Value}(hB:ak w h t cs)(h1:t≠204)(h2:t≠5):h∉g::ah A:=by
 intro hm
 rcases mem_cons.1 hm with rfl|hm
 ·exact hB.ne_ hw.blk h1 rfl
 ·exact hw.own.own.ne hB (Ne.symm h2) hm
theorem X3(p:Addr)(x:Nat)(hx:x≤9223372036854775807)(w:World)(hp:w.cell? p=some (.int .i64 (x:Int)))(g:Nat)(A:Option Addr)(k c:Nat)(l:List UInt8)(hw:Wr w g A k c l)(hl:l.length≤100000000) :
  Calls prog 123 #[.pointer (some p),.pointer (some ⟨g,0,none⟩)] w fun e w'=>e=.returned (.bool true)∧∃A' k' c',Wr w' g A' k' c' (l++dL x)∧aa (g::ah A) (g::ah A') w w':=by
 have hx0:(0:Int)≤(x:Int):=by omega
 have hx1:(x:Int)≤9223372036854775807:=by omega
 have apJ:IntKind.u64.wrap (x:Int)=(x:Int):=by rw[IntKind.wrap_u64];omega
 go_enter func123,ntmps123
 repeat' go_step
 refine(wU (x:Int) w g A k c l (by omega) (by simpa using dZ.small (by omega)) hw (by omega)).mono ?_
 rintro e w1 ⟨rfl,A1,k1,c1,hw1,hu1⟩
 rw[Int.toNat_natCast]at hw1
 refine wk ?_
 go_ret
 exact⟨rfl,A1,k1,c1,hw1,hu1⟩
theorem Lc(w:World)(M S g:Nat)(ns:List Nat)(hns:ns.length=9)(hI:∀n∈ns,n≤9223372036854775807)(hc:∀(j:Nat) (h:j<9) (h2:j<ns.length),w.cell? ((kX M S)[j]'h)=some (.int .i64 ((ns[j]:Nat):Int)))(A:Option Addr)(k c:Nat)(l:List UInt8)(hw:Wr w g A k c l)(hl:l.length≤1000000)(hM:M∉g::ah A)(hS:S∉g::ah A)(_hMl:M<w.heap.size)(_hSl:S<w.heap.size) :
  Calls prog 122 #[.pointer (some ⟨M,0,none⟩),.pointer (some ⟨S,0,none⟩),.func (.func 123) #[] #[.pointer (some ⟨g,0,none⟩)]] w
   fun e w'=>e=.returned (.bool true)∧∃A' k' c',Wr w' g A' k' c' (l++ns.flatMap dL)∧aa (g::ah A) (g::ah A') w w':=by
 have hU:∀n∈ns,dZ n:=fun n hn=>dZ.small (by have:=hI n hn;omega)
 have hlen:∀i,((ns.take i).flatMap dL).length≤90:=fun i=>by
  have:=sZ (l:=ns.take i) fun n hn=>hU n (mem_of_mem_take hn)
  have h2:(ns.take i).length≤9:=by rw[length_take];omega
  omega
 have HNS:=hdn hns;clear hns
 have HC:=hdn hc;clear hc
 go_enter func122,ntmps122
 repeat' go_step
 go_still_tail 29,(by kernel_rfl)
 change wpList _ _ _ _ _ w.drew
 repeat' go_step
 have hP:ak (w.alloc (.cells (xz (kX M S)).toArray 207)).drew w.heap.size 207 (xz (kX M S)).toArray:=ak.new _ _ _
 have hw1:Wr (w.alloc (.cells (xz (kX M S)).toArray 207)).drew g A k c l:=⟨hw.blk.alloc _,(hw.own.alloc _).drew⟩
 have U1:aa (g::ah A) (g::ah A) w (w.alloc (.cells (xz (kX M S)).toArray 207)).drew:=((aa.refl _ _).alloc _).drew
 go_loopw [42] (fun v42 wr=>∃(i:Nat)(A2:Option Addr)(k2 c2:Nat),i≤9∧v42=.int .i64 (i:Int)∧Wr wr g A2 k2 c2 (l++(ns.take i).flatMap dL)∧ak wr w.heap.size 207 (xz (kX M S)).toArray∧aa (g::ah A) (g::ah A2) w wr)
  (fun v42 _=>9-(intOf v42).toNat)
 case atStart=>exact⟨0,A,k,c,by omega,rfl,by rw[take_zero,flatMap_nil,append_nil];exact hw1,hP,U1⟩
 case round=>
  obtain⟨i,A2,k2,c2,hi,rfl,hw2,hP2,hu⟩:=hrel
  clear hP hw1 U1
  have Ae:=hlen i
  by_cases hlt:i<9
  ·have hin:i<ns.length:=by rw[HNS.out];exact hlt
   have hc:=HC.out i hlt hin
   have hpm:(kX M S)[i]'hlt∈kX M S:=getElem_mem hlt
   have hpb:=La hpm
   have hpc:wr.cell? ⟨w.heap.size,i,none⟩=some (.pointer (some ((kX M S)[i]'hlt))):=by
    rw[hP2.cell];simpa using Qs (kX M S) i hlt
   have hx:=hI ns[i] (getElem_mem hin)
   have HS:=hdn (EG hin)
   generalize (kX M S)[i]'hlt=p at *
   generalize ns[i]=x at *
   have hcw:=hu.cell hc (by rcases hpb with h|h<;>rw[h];exact hM;exact hS)
   clear hc hpm hpb
   repeat' (fail_if_success with_reducible refine Ag rfl ?_);go_step
   refine(X3 p x hx wr hcw g A2 k2 c2 _ hw2 (by simp only[length_append];omega)).mono ?_;rintro e w3 ⟨rfl,A3,k3,c3,hw3,hu3⟩
   have hP3:=hP2.upd hu3 (hw2.ai9 hP2 (by decide) (by decide))
   rw[append_assoc,←HS.out]at hw3
   refine wk ?_
   exact⟨⟨i+1,A3,k3,c3,by omega,rfl,hw3,hP3,hu.trans hu3⟩,by simp[intOf];omega⟩
  ·obtain rfl:i=9:=by omega
   rw[take_of_length_le (by rw[HNS.out];omega)]at hw2
   refine wk ?_
   go_ret
   exact⟨rfl,A2,k2,c2,hw2,hu⟩
theorem IK(x:Mv)(w:World)(hr:aD w x.A x.n x.b)(hm:¬ x.ms.May) :
  Calls prog 68 #[x.val] w fun e w'=>e=.returned (.tuple #[.slice none 0 0,.int .i64 1])∧aa [] [] w w':=by
 have C:=fun w hr=>Qq x w hr hm
 have HR:Hid (∀o,aD (w.alloc o) x.A x.n x.b):=fun o=>hr.alloc o
 rw[Mv.aH]at C ⊢
 clear hr hm
 go_enter func68,ntmps68
 repeat' go_step
 refine(C _ (HR.out _)).mono ?_;rintro e w1 ⟨rfl,hu1⟩
 refine wk ?_
 go_ret2
 exact⟨rfl,((aa.refl _ _).alloc _).trans hu1⟩
theorem TM{x:Mv}(hm:x.ms.May){w:World}{M S:Nat}(hM:ak w M 32 #[.int .i64 x.k,.int .i64 x.f,.int .i64 x.t,.int .i64 x.s,.int .i64 x.br,.int .i64 x.bs,.int .i64 x.hr,.int .i64 x.hs,.bool x.so,.slice x.A x.n x.c])(hS:ak w S 3 #[.int .i64 (x.ms.is:Int)]) :
  ∀(j:Nat)(h:j<9)(h2:j<x.ms.ns.length),w.cell? ((kX M S)[j]'h)=some (.int .i64 ((x.ms.ns[j]:Nat):Int)):=by
 have h1:=hm.kind;have h2:=hm.bO;have h3:=hm.to;have h4:=hm.slot;have h5:=hm.dz;have h6:=hm.ed;have h7:=hm.fO;have h8:=hm.ig
 simp only[Mv.ms]at h1 h2 h3 h4 h5 h6 h7 h8
 intro j hj hj2
 have:j=0∨j=1∨j=2∨j=3∨j=4∨j=5∨j=6∨j=7∨j=8:=by omega
 rcases this with rfl|rfl|rfl|rfl|rfl|rfl|rfl|rfl|rfl
 ·exact(hM.cell 0).trans (congrArg some (congrArg (Value.int .i64) (show x.k=((x.k.toNat:Nat):Int) by omega)))
 ·exact(hM.cell 1).trans (congrArg some (congrArg (Value.int .i64) (show x.f=((x.f.toNat:Nat):Int) by omega)))
 ·exact(hM.cell 2).trans (congrArg some (congrArg (Value.int .i64) (show x.t=((x.t.toNat:Nat):Int) by omega)))
 ·exact(hM.cell 3).trans (congrArg some (congrArg (Value.int .i64) (show x.s=((x.s.toNat:Nat):Int) by omega)))
 ·exact(hM.cell 4).trans (congrArg some (congrArg (Value.int .i64) (show x.br=((x.br.toNat:Nat):Int) by omega)))
 ·exact(hM.cell 5).trans (congrArg some (congrArg (Value.int .i64) (show x.bs=((x.bs.toNat:Nat):Int) by omega)))
 ·exact(hM.cell 6).trans (congrArg some (congrArg (Value.int .i64) (show x.hr=((x.hr.toNat:Nat):Int) by omega)))
 ·exact(hM.cell 7).trans (congrArg some (congrArg (Value.int .i64) (show x.hs=((x.hs.toNat:Nat):Int) by omega)))
 ·exact hS.cell 0
theorem Qu(x:Mv)(w:World)(hr:aD w x.A x.n x.b)(hm:x.ms.May) :
  Calls prog 68 #[x.val] w fun e w'=>∃A' k' c',e=.returned (.tuple #[.slice A' k' c',.int .i64 0])∧aT 5 w' A' k' c' x.ms.bytes∧aa [] (ah A') w w':=by
 have C:=Oj x (w.alloc (.cells #[.int .i64 x.k,.int .i64 x.f,.int .i64 x.t,.int .i64 x.s,.int .i64 x.br,.int .i64 x.bs,.int .i64 x.hr,.int .i64 x.hs,.bool x.so,.slice x.A x.n x.c] 32)) (hr.alloc _) hm
 have HNC:Hid (∀(w:World)(M S:Nat),ak w M 32 #[.int .i64 x.k,.int .i64 x.f,.int .i64 x.t,.int .i64 x.s,.int .i64 x.br,.int .i64 x.bs,.int .i64 x.hr,.int .i64 x.hs,.bool x.so,.slice x.A x.n x.c]→ak w S 3 #[.int .i64 (x.ms.is:Int)]→∀(j:Nat)(h:j<9)(h2:j<x.ms.ns.length),w.cell? ((kX M S)[j]'h)=some (.int .i64 ((x.ms.ns[j]:Nat):Int))):=fun w M S h1 h2=>TM hm h1 h2
 have hU:=hm.U
 have hil:x.ms.inside.length≤4096:=by have:=hm.Zx;omega
 have hv:x.b.length≤2048:=hm.val
 have hnl:x.ms.ns.length=9:=rfl
 have Pz:=hdn hnl;clear hnl
 have hns:∀n∈x.ms.ns,n≤9223372036854775807:=by
  have h1:=hm.kind;have h2:=hm.bO;have h3:=hm.to;have h4:=hm.slot;have h5:=hm.dz;have h6:=hm.ed;have h7:=hm.fO;have h8:=hm.ig;have h9:=x.ms.is_le
  intro n hn
  simp only[Ms.ns,mem_cons,not_mem_nil,or_false]at hn
  rcases hn with rfl|rfl|rfl|rfl|rfl|rfl|rfl|rfl|rfl<;>omega
 have HB:Hid (x.ms.inside=x.ms.ns.flatMap dL++dL x.b.length++x.b):=by unfold Hid Ms.inside jr;rw[append_assoc];rfl
 have HBY:Hid (x.ms.bytes=put x.ms.inside):=rfl
 have hlb:=sZ hU
 have HIS:Hid (∀b,x.so=b→x.ms.is=if b then 1 else 0):=fun b h=>by unfold Ms.is Mv.ms;rw[h]
 have EH:=hdn hr.lt
 clear hm
 rw[Mv.aH]at C ⊢
 go_enter func68,ntmps68
 repeat' go_step
 refine C.mono ?_;rintro e w1 ⟨rfl,hu1⟩
 have hX:=(ak.new w 32 #[.int .i64 x.k,.int .i64 x.f,.int .i64 x.t,.int .i64 x.s,.int .i64 x.br,.int .i64 x.bs,.int .i64 x.hr,.int .i64 x.hs,.bool x.so,.slice x.A x.n x.c]).upd hu1
 have U1:aa [] [] w w1:=((aa.refl _ _).alloc _).trans hu1
 have hlt:=hX.lt
 have q8:=hX.cell 8
 simp only[List.getElem?_toArray,List.getElem?_cons_succ,List.getElem?_cons_zero]at q8
 clear C hu1
 -- the world in which the numbers are laid down
 have hgo:∀W:World,W=(w1.alloc (.cells #[.slice none 0 0] 204)).alloc (.cells #[.int .i64 (x.ms.is:Int)] 3)→
   Wr W w1.heap.size none 0 0 []∧ak W w.heap.size 32 #[.int .i64 x.k,.int .i64 x.f,.int .i64 x.t,.int .i64 x.s,.int .i64 x.br,.int .i64 x.bs,.int .i64 x.hr,.int .i64 x.hs,.bool x.so,.slice x.A x.n x.c]∧ak W (w1.heap.size+1) 3 #[.int .i64 (x.ms.is:Int)]∧aa [] (w1.heap.size::ah none) w W:=by
  rintro W rfl
  refine⟨⟨(ak.new _ _ _).alloc _,((aT.nil _ _).alloc _).alloc _⟩,(hX.alloc _).alloc _,?_,?_⟩
  ·have:=ak.new (w1.alloc (.cells #[.slice none 0 0] 204)) 3 #[.int .i64 (x.ms.is:Int)]
   rwa [World.size_alloc]at this
  ·exact((U1.alloc _).alloc _).gives (by have:=U1.size;simp[ah];omega)
 have HGO:=hdn hgo;clear hgo hX U1
 cases hso:x.so
 all_goals
  have his:=HIS.out _ hso
  rw[hso]at q8
  simp only[if_true,if_false,Bool.false_eq_true]at his
  repeat' (fail_if_success with_reducible refine Ag rfl ?_);first|go_step|simp only[];go_at_K
  obtain⟨hW,IL,hSW,UW⟩:=HGO.out _ rfl
  clear q8
  rw[his]at hSW
  have hnc:=HNC.out _ _ _ IL (by rw[his];exact hSW)
  rw[his]at hW IL UW hnc
  have T:=Lc _ w.heap.size (w1.heap.size+1) w1.heap.size x.ms.ns Pz.out hns hnc none 0 0 [] hW (by simp) (hW.ai9 IL (by decide) (by decide)) (hW.ai9 hSW (by decide) (by decide)) IL.lt hSW.lt
  have WQ:=hW.ai9 IL (by decide) (by decide)
  clear HGO hSW hnc
  refine T.mono ?_
  rintro e w2 ⟨rfl,A2,k2,c2,hw2,hu2⟩
  rw[nil_append]at hw2
  have U2:=UW.trans hu2
  have hX2:=IL.upd hu2 WQ
  have q9:=hX2.cell 9
  simp only[List.getElem?_toArray,List.getElem?_cons_succ,List.getElem?_cons_zero]at q9
  clear T hW IL UW hu2 WQ
  repeat' first|go_step|simp only[];go_at_K
  refine(Af w2 w1.heap.size A2 k2 c2 _ x.A x.n x.c x.b (hr.upd U2) (fun h0 j hj hm=>by have h1:=EH.out h0 j hj;exact absurd (U2.fresh j hm) (by simp only[not_mem_nil,false_or];omega)) hw2 (by rw[Pz.out]at hlb;omega)).mono ?_;rintro e w3 ⟨rfl,A3,k3,c3,hw3,hu3⟩
  have U3:=U2.trans hu3
  rw[←HB.out]at hw3
  clear U2 hu3 hw2 hX2 q9
  repeat' first|go_step|simp only[];go_at_K
  refine(Cc w3 w1.heap.size A3 k3 c3 _ hw3 (by omega)).mono ?_;rintro e w4 ⟨A4,k4,c4,rfl,bY,bM⟩
  have U4:=U3.g0.trans bM
  clear U3 bM
  repeat' first|go_step|simp only[];go_at_K
  refine(He w4 A4 k4 c4 _ bY.rd hil).mono ?_;rintro e w5 ⟨A5,k5,c5,rfl,dB,bD⟩
  rw[←HBY.out]at dB
  refine wk ?_
  go_ret2
  exact⟨A5,k5,c5,rfl,dB,U4.g0.trans bD⟩
