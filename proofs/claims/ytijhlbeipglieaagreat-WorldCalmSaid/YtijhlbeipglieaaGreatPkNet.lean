/- For WorldCalm. -/
import Derived.Test.YtijhlbeipglieaaGreatPkFrame
set_option linter.all false
set_option maxRecDepth 100000
set_option maxHeartbeats 4000000
namespace Go.Proofs.YtijhlbeipglieaaGreat
open Go.RowKit aL Tryz List
theorem wG(a b c d:Int)(w:World):(binOp .eql 30 (.agg #[.int .i64 a,.int .i64 b]) (.agg #[.int .i64 c,.int .i64 d])).run prog w=.ok (.bool ((a==c)&&(b==d))) w:=by
 rw[run_eql_struct,show(10000:Nat)=9999+1 from rfl]
 rw[run_equalIn_struct w _ _ _ _ (by kernel_rfl) (by kernel_rfl)]
 rw[show prog.fieldsOf 30=_ from by unfold Program.fieldsOf;rw[underlying30]]
 have p0:=fun(x y:Int)(w:World)=>show(part 3 #[.int .i64 x,.int .i64 y] 0).run prog w=.ok (.int .i64 x) w by kernel_rfl
 have p1:=fun(x y:Int)(w:World)=>show(part 3 #[.int .i64 x,.int .i64 y] 1).run prog w=.ok (.int .i64 y) w by kernel_rfl
 have e0:=fun(a b:Int)(w:World)=>show(Op.equalIn 9999 3 (.int .i64 a) (.int .i64 b)).run prog w=.ok (a==b) w by kernel_rfl
 simp only[Op.eqFields,Sem.run_bind,p0,p1,e0,Result.andThen_ok,ne_eq,String.reduceEq,not_false_eq_true,if_true,Sem.run_ite,Sem.run_pure]
 cases a==c
 ·rfl
 cases b==d<;>rfl
structure Mv where
 k:Int
 f:Int
 t:Int
 s:Int
 br:Int
 bs:Int
 hr:Int
 hs:Int
 so:Bool
 A:Option Addr
 n:Nat
 c:Nat
 b:List UInt8
def Mv.cells(x:Mv):List Value:=[.int .i64 x.k,.int .i64 x.f,.int .i64 x.t,.int .i64 x.s,.int .i64 x.br,.int .i64 x.bs,.int .i64 x.hr,.int .i64 x.hs,.bool x.so,.slice x.A x.n x.c]
def Mv.val(x:Mv):Value:=.agg x.cells.toArray
theorem Mv.bJ(x:Mv):x.val=.agg #[.int .i64 x.k,.int .i64 x.f,.int .i64 x.t,.int .i64 x.s,.int .i64 x.br,.int .i64 x.bs,.int .i64 x.hr,.int .i64 x.hs,.bool x.so,.slice x.A x.n x.c]:=rfl
def Mv.ms(x:Mv):Ms:=⟨x.k,x.f,x.t,x.s,x.br,x.bs,x.hr,x.hs,x.so,x.b⟩
def eo(n:Int):Bool:=decide (0≤n)&&decide (n<7)
theorem eD{n:Int}(h:0≤n∧n≤6):eo n=true:=by unfold eo;simp;omega
theorem Fh{n:Int}(h:¬ (0≤n∧n≤6)):eo n=false:=by unfold eo;simp;omega
def jS(r s:Int):Bool:=decide (0≤r)&&decide (r≤1099511627776)&&eo s
theorem ko{r s:Int}(h:0≤r∧r≤1099511627776)(h2:0≤s∧s≤6):jS r s=true:=by unfold jS eo;simp;omega
theorem wQ{r s:Int}(h:¬ ((0≤r∧r≤1099511627776)∧0≤s∧s≤6)):jS r s=false:=by unfold jS eo;simp;omega
theorem eK(n:Int)(w:World):Calls prog 199 #[.int .i64 n] w fun e w'=>e=.returned (.bool (eo n))∧w=w':=by
 go_enter func199,ntmps199
 repeat' first|go_skip|go_guarded|go_step
 all_goals go_ret
 all_goals exact⟨by simp[eo, *],rfl⟩
theorem Kk(n:Int)(w:World):Calls prog 251 #[.int .i64 n,.int .i64 7] w fun e w'=>e=.returned (.bool (eo n))∧w=w':=by
 go_enter func251,ntmps251
 repeat' first|go_skip|go_guarded|go_step
 all_goals go_ret
 all_goals exact⟨by simp[eo, *],rfl⟩
theorem ic(r s:Int)(w:World):Calls prog 200 #[.agg #[.int .i64 r,.int .i64 s],.int .i64 7] w fun e w'=>e=.returned (.bool (jS r s))∧ab [] [] w w':=by
 by_cases h0:0≤r
 ·by_cases h1:r≤1099511627776
  ·have HB:Hid (jS r s=eo s):=by unfold Hid jS;simp[h0,h1]
   go_enter func200,ntmps200
   repeat' first|go_guarded|go_step
   refine(Kk s _).mono ?_;rintro e w1 ⟨rfl,rfl⟩
   refine wk ?_
   go_ret
   exact⟨by rw[HB.out];rfl,(ab.refl _ _).alloc _⟩
  ·have HB:Hid (jS r s=false):=wQ (by omega)
   have Bo:1099511627776<r:=by omega
   go_enter func200,ntmps200
   refine wk ?_
   go_ret
   exact⟨by rw[HB.out];rfl,(ab.refl _ _).alloc _⟩
 ·have HB:Hid (jS r s=false):=wQ (by omega)
  have XE:r<0:=by omega
  go_enter func200,ntmps200
  refine wk ?_
  go_ret
  exact⟨by rw[HB.out];rfl,(ab.refl _ _).alloc _⟩
theorem Fi{m:Ms}(h:¬ m.bL):(m.kind<1∨8<m.kind)∨(1≤m.kind∧m.kind≤8)∧(¬ (0≤m.aR∧m.aR≤6)∨(0≤m.aR∧m.aR≤6)∧(¬ (0≤m.to∧m.to≤6)∨(0≤m.to∧m.to≤6)∧
  ((m.slot<0∨4096≤m.slot)∨(0≤m.slot∧m.slot<4096)∧(2048<m.val.length∨m.val.length≤2048∧
  (¬ ((0≤m.bU∧m.bU≤1099511627776)∧0≤m.cu∧m.cu≤6)∨((0≤m.bU∧m.bU≤1099511627776)∧0≤m.cu∧m.cu≤6)∧
  (¬ ((0≤m.dw∧m.dw≤1099511627776)∧0≤m.dR∧m.dR≤6)∨((0≤m.dw∧m.dw≤1099511627776)∧0≤m.dR∧m.dR≤6)∧
  m.some_=false∧(¬ (m.dw=0∧m.dR=0)∨(m.dw=0∧m.dR=0)∧¬ m.val.length=0))))))):=by
 by_cases h1:m.kind<1∨8<m.kind
 ·exact .inl h1
 refine .inr ⟨by omega,?_⟩
 by_cases h2:¬ (0≤m.aR∧m.aR≤6)
 ·exact .inl h2
 have h2:=Classical.not_not.1 h2
 refine .inr ⟨h2,?_⟩
 by_cases h3:¬ (0≤m.to∧m.to≤6)
 ·exact .inl h3
 have h3:=Classical.not_not.1 h3
 refine .inr ⟨h3,?_⟩
 by_cases h4:m.slot<0∨4096≤m.slot
 ·exact .inl h4
 refine .inr ⟨by omega,?_⟩
 by_cases h5:2048<m.val.length
 ·exact .inl h5
 refine .inr ⟨by omega,?_⟩
 by_cases h6:¬ ((0≤m.bU∧m.bU≤1099511627776)∧0≤m.cu∧m.cu≤6)
 ·exact .inl h6
 have h6:=Classical.not_not.1 h6
 refine .inr ⟨h6,?_⟩
 by_cases h7:¬ ((0≤m.dw∧m.dw≤1099511627776)∧0≤m.dR∧m.dR≤6)
 ·exact .inl h7
 have h7:=Classical.not_not.1 h7
 refine .inr ⟨h7,?_⟩
 cases h8:m.some_
 ·refine⟨rfl,?_⟩
  by_cases h9:m.dw=0∧m.dR=0
  ·refine .inr ⟨h9,fun mK=>h ⟨by omega,h2,h3,by omega,h6.1,h6.2,h7.1,h7.2,by omega,.inr ⟨h9,mK⟩⟩⟩
  ·exact .inl h9
 ·exact absurd ⟨by omega,h2,h3,by omega,h6.1,h6.2,h7.1,h7.2,by omega,.inl h8⟩ h
theorem Qp(k f t s br bs hr hs:Int)(so:Bool)(A:Option Addr)(n c:Nat)(w:World)(h:k<1∨8<k) :
  Calls prog 121 #[.agg #[.int .i64 k,.int .i64 f,.int .i64 t,.int .i64 s,.int .i64 br,.int .i64 bs,.int .i64 hr,.int .i64 hs,.bool so,.slice A n c]] w fun e w'=>e=.returned (.bool false)∧ab [] [] w w':=by
 rcases h with h|h
 ·go_enter func121,ntmps121
  refine wk ?_
  go_ret
  exact⟨rfl,((ab.refl _ _).alloc _)⟩
 ·have k1:1≤k:=by omega
  go_enter func121,ntmps121
  refine wk ?_
  go_ret
  exact⟨rfl,((ab.refl _ _).alloc _)⟩
theorem Qq(k f t s br bs hr hs:Int)(so:Bool)(A:Option Addr)(n c:Nat)(w:World)(k1:1≤k)(k8:k≤8)(hf:eo f=false) :
  Calls prog 121 #[.agg #[.int .i64 k,.int .i64 f,.int .i64 t,.int .i64 s,.int .i64 br,.int .i64 bs,.int .i64 hr,.int .i64 hs,.bool so,.slice A n c]] w fun e w'=>e=.returned (.bool false)∧ab [] [] w w':=by
 go_enter func121,ntmps121
 repeat' first|go_guarded|go_step
 refine(eK f _).mono ?_;rintro e w' ⟨rfl,rfl⟩
 refine wk ?_
 go_ret
 exact⟨rfl,((ab.refl _ _).alloc _)⟩
theorem Qr(k f t s br bs hr hs:Int)(so:Bool)(A:Option Addr)(n c:Nat)(w:World)(k1:1≤k)(k8:k≤8)(hf:eo f=true)(ht:eo t=false) :
  Calls prog 121 #[.agg #[.int .i64 k,.int .i64 f,.int .i64 t,.int .i64 s,.int .i64 br,.int .i64 bs,.int .i64 hr,.int .i64 hs,.bool so,.slice A n c]] w fun e w'=>e=.returned (.bool false)∧ab [] [] w w':=by
 go_enter func121,ntmps121
 repeat' first|go_guarded|go_step
 refine(eK f _).mono ?_;rintro e w' ⟨rfl,rfl⟩
 repeat' first|go_guarded|go_step|simp only[];go_at_K
 refine(eK t _).mono ?_;rintro e w' ⟨rfl,rfl⟩
 refine wk ?_
 go_ret
 exact⟨rfl,((ab.refl _ _).alloc _)⟩
theorem Qs(k f t s br bs hr hs:Int)(so:Bool)(A:Option Addr)(n c:Nat)(w:World)(k1:1≤k)(k8:k≤8)(hf:eo f=true)(ht:eo t=true)(h:s<0∨4096≤s) :
  Calls prog 121 #[.agg #[.int .i64 k,.int .i64 f,.int .i64 t,.int .i64 s,.int .i64 br,.int .i64 bs,.int .i64 hr,.int .i64 hs,.bool so,.slice A n c]] w fun e w'=>e=.returned (.bool false)∧ab [] [] w w':=by
 rcases h with h|h
 ·go_enter func121,ntmps121
  repeat' first|go_guarded|go_step
  refine(eK f _).mono ?_;rintro e w' ⟨rfl,rfl⟩
  repeat' first|go_guarded|go_step|simp only[];go_at_K
  refine(eK t _).mono ?_;rintro e w' ⟨rfl,rfl⟩
  repeat' first|go_skip|go_guarded|go_step|simp only[];go_at_K
  go_ret
  exact⟨rfl,((ab.refl _ _).alloc _)⟩
 ·have s0:0≤s:=by omega
  go_enter func121,ntmps121
  repeat' first|go_guarded|go_step
  refine(eK f _).mono ?_;rintro e w' ⟨rfl,rfl⟩
  repeat' first|go_guarded|go_step|simp only[];go_at_K
  refine(eK t _).mono ?_;rintro e w' ⟨rfl,rfl⟩
  repeat' first|go_skip|go_guarded|go_step|simp only[];go_at_K
  go_ret
  exact⟨rfl,((ab.refl _ _).alloc _)⟩
theorem Qu(k f t s br bs hr hs:Int)(so:Bool)(A:Option Addr)(n c:Nat)(w:World)(k1:1≤k)(k8:k≤8)(hf:eo f=true)(ht:eo t=true)(s0:0≤s)(s1:s<4096)(hn:2048<(n:Int)) :
  Calls prog 121 #[.agg #[.int .i64 k,.int .i64 f,.int .i64 t,.int .i64 s,.int .i64 br,.int .i64 bs,.int .i64 hr,.int .i64 hs,.bool so,.slice A n c]] w fun e w'=>e=.returned (.bool false)∧ab [] [] w w':=by
 go_enter func121,ntmps121
 repeat' first|go_guarded|go_step
 refine(eK f _).mono ?_;rintro e w' ⟨rfl,rfl⟩
 repeat' first|go_guarded|go_step|simp only[];go_at_K
 refine(eK t _).mono ?_;rintro e w' ⟨rfl,rfl⟩
 repeat' first|go_guarded|go_step|simp only[];go_at_K
 go_ret
 exact⟨rfl,((ab.refl _ _).alloc _)⟩
theorem Qv(k f t s br bs hr hs:Int)(so:Bool)(A:Option Addr)(n c:Nat)(w:World)(k1:1≤k)(k8:k≤8)(hf:eo f=true)(ht:eo t=true)(s0:0≤s)(s1:s<4096)(hn:(n:Int)≤2048)(hb:jS br bs=false) :
  Calls prog 121 #[.agg #[.int .i64 k,.int .i64 f,.int .i64 t,.int .i64 s,.int .i64 br,.int .i64 bs,.int .i64 hr,.int .i64 hs,.bool so,.slice A n c]] w fun e w'=>e=.returned (.bool false)∧ab [] [] w w':=by
 go_enter func121,ntmps121
 repeat' first|go_guarded|go_step
 refine(eK f _).mono ?_;rintro e w' ⟨rfl,rfl⟩
 repeat' first|go_guarded|go_step|simp only[];go_at_K
 refine(eK t _).mono ?_;rintro e w' ⟨rfl,rfl⟩
 repeat' first|go_guarded|go_step|simp only[];go_at_K
 refine(ic br bs _).mono ?_;rintro e w1 ⟨rfl,bn⟩
 have mn:=(aQ.new w 32 #[.int .i64 k,.int .i64 f,.int .i64 t,.int .i64 s,.int .i64 br,.int .i64 bs,.int .i64 hr,.int .i64 hs,.bool so,.slice A n c]).aq bn (by simp)
 obtain⟨⟨-,-,-,-,-,-,Ny,Nz,NA,NB⟩,-⟩:=mn.cJ
 refine wk ?_
 go_ret
 exact⟨rfl,(((ab.refl _ _).alloc _).trans bn)⟩
theorem Qw(k f t s br bs hr hs:Int)(so:Bool)(A:Option Addr)(n c:Nat)(w:World)(k1:1≤k)(k8:k≤8)(hf:eo f=true)(ht:eo t=true)(s0:0≤s)(s1:s<4096)(hn:(n:Int)≤2048)(hb:jS br bs=true)(hh:jS hr hs=false) :
  Calls prog 121 #[.agg #[.int .i64 k,.int .i64 f,.int .i64 t,.int .i64 s,.int .i64 br,.int .i64 bs,.int .i64 hr,.int .i64 hs,.bool so,.slice A n c]] w fun e w'=>e=.returned (.bool false)∧ab [] [] w w':=by
 go_enter func121,ntmps121
 repeat' first|go_guarded|go_step
 refine(eK f _).mono ?_;rintro e w' ⟨rfl,rfl⟩
 repeat' first|go_guarded|go_step|simp only[];go_at_K
 refine(eK t _).mono ?_;rintro e w' ⟨rfl,rfl⟩
 repeat' first|go_guarded|go_step|simp only[];go_at_K
 refine(ic br bs _).mono ?_;rintro e w1 ⟨rfl,bn⟩
 have mn:=(aQ.new w 32 #[.int .i64 k,.int .i64 f,.int .i64 t,.int .i64 s,.int .i64 br,.int .i64 bs,.int .i64 hr,.int .i64 hs,.bool so,.slice A n c]).aq bn (by simp)
 obtain⟨⟨-,-,-,-,-,-,Ny,Nz,NA,NB⟩,-⟩:=mn.cJ
 repeat' first|go_guarded|go_step|simp only[];go_at_K
 refine(ic hr hs _).mono ?_;rintro e w2 ⟨rfl,bh⟩
 have pL:=mn.aq bh (by simp)
 obtain⟨⟨-,-,-,-,-,-,Sy,Sz,SA,SB⟩,-⟩:=pL.cJ
 refine wk ?_
 go_ret
 exact⟨rfl,((((ab.refl _ _).alloc _).trans bn).trans bh)⟩
theorem Qx(k f t s br bs hr hs:Int)(so:Bool)(A:Option Addr)(n c:Nat)(w:World)(k1:1≤k)(k8:k≤8)(hf:eo f=true)(ht:eo t=true)(s0:0≤s)(s1:s<4096)(hn:(n:Int)≤2048)(hb:jS br bs=true)(hh:jS hr hs=true)(ho:so=false)(h:¬ (hr=0∧hs=0)) :
  Calls prog 121 #[.agg #[.int .i64 k,.int .i64 f,.int .i64 t,.int .i64 s,.int .i64 br,.int .i64 bs,.int .i64 hr,.int .i64 hs,.bool so,.slice A n c]] w fun e w'=>e=.returned (.bool false)∧ab [] [] w w':=by
 subst ho
 have eq:=fun w=>(wG hr hs 0 0 w).trans (by rw[show((hr==0)&&(hs==0))=false by rw[Bool.and_eq_false_iff];simp;omega])
 clear h
 go_enter func121,ntmps121
 repeat' first|go_guarded|go_step
 refine(eK f _).mono ?_;rintro e w' ⟨rfl,rfl⟩
 repeat' first|go_guarded|go_step|simp only[];go_at_K
 refine(eK t _).mono ?_;rintro e w' ⟨rfl,rfl⟩
 repeat' first|go_guarded|go_step|simp only[];go_at_K
 refine(ic br bs _).mono ?_;rintro e w1 ⟨rfl,bn⟩
 have mn:=(aQ.new w 32 #[.int .i64 k,.int .i64 f,.int .i64 t,.int .i64 s,.int .i64 br,.int .i64 bs,.int .i64 hr,.int .i64 hs,.bool false,.slice A n c]).aq bn (by simp)
 obtain⟨⟨-,-,-,-,-,-,Ny,Nz,NA,NB⟩,-⟩:=mn.cJ
 repeat' first|go_guarded|go_step|simp only[];go_at_K
 refine(ic hr hs _).mono ?_;rintro e w2 ⟨rfl,bh⟩
 have pL:=mn.aq bh (by simp)
 obtain⟨⟨-,-,-,-,-,-,Sy,Sz,SA,SB⟩,-⟩:=pL.cJ
 refine wk ?_
 go_ret
 exact⟨rfl,((((ab.refl _ _).alloc _).trans bn).trans bh)⟩
theorem Qy(k f t s br bs hr hs:Int)(so:Bool)(A:Option Addr)(n c:Nat)(w:World)(k1:1≤k)(k8:k≤8)(hf:eo f=true)(ht:eo t=true)(s0:0≤s)(s1:s<4096)(hn:(n:Int)≤2048)(hb:jS br bs=true)(hh:jS hr hs=true)(ho:so=false)(h:hr=0∧hs=0)(h0:((n:Int)==0)=false) :
  Calls prog 121 #[.agg #[.int .i64 k,.int .i64 f,.int .i64 t,.int .i64 s,.int .i64 br,.int .i64 bs,.int .i64 hr,.int .i64 hs,.bool so,.slice A n c]] w fun e w'=>e=.returned (.bool false)∧ab [] [] w w':=by
 subst ho
 have eq:=fun w=>(wG hr hs 0 0 w).trans (by rw[show((hr==0)&&(hs==0))=true by simp[h.1,h.2]])
 clear h
 go_enter func121,ntmps121
 repeat' first|go_guarded|go_step
 refine(eK f _).mono ?_;rintro e w' ⟨rfl,rfl⟩
 repeat' first|go_guarded|go_step|simp only[];go_at_K
 refine(eK t _).mono ?_;rintro e w' ⟨rfl,rfl⟩
 repeat' first|go_guarded|go_step|simp only[];go_at_K
 refine(ic br bs _).mono ?_;rintro e w1 ⟨rfl,bn⟩
 have mn:=(aQ.new w 32 #[.int .i64 k,.int .i64 f,.int .i64 t,.int .i64 s,.int .i64 br,.int .i64 bs,.int .i64 hr,.int .i64 hs,.bool false,.slice A n c]).aq bn (by simp)
 obtain⟨⟨-,-,-,-,-,-,Ny,Nz,NA,NB⟩,-⟩:=mn.cJ
 repeat' first|go_guarded|go_step|simp only[];go_at_K
 refine(ic hr hs _).mono ?_;rintro e w2 ⟨rfl,bh⟩
 have pL:=mn.aq bh (by simp)
 obtain⟨⟨-,-,-,-,-,-,Sy,Sz,SA,SB⟩,-⟩:=pL.cJ
 refine wk ?_
 go_ret
 exact⟨rfl,((((ab.refl _ _).alloc _).trans bn).trans bh)⟩
theorem GY(k f t s br bs hr hs:Int)(so:Bool)(A:Option Addr)(n c:Nat)(w:World)(k1:1≤k)(k8:k≤8)(hf:eo f=true)(ht:eo t=true)(s0:0≤s)(s1:s<4096)(hn:(n:Int)≤2048)(hb:jS br bs=true)(hh:jS hr hs=true)(ho:so=true) :
  Calls prog 121 #[.agg #[.int .i64 k,.int .i64 f,.int .i64 t,.int .i64 s,.int .i64 br,.int .i64 bs,.int .i64 hr,.int .i64 hs,.bool so,.slice A n c]] w fun e w'=>e=.returned (.bool true)∧ab [] [] w w':=by
 subst ho
 go_enter func121,ntmps121
 repeat' first|go_guarded|go_step
 refine(eK f _).mono ?_;rintro e w' ⟨rfl,rfl⟩
 repeat' first|go_guarded|go_step|simp only[];go_at_K
 refine(eK t _).mono ?_;rintro e w' ⟨rfl,rfl⟩
 repeat' first|go_guarded|go_step|simp only[];go_at_K
 refine(ic br bs _).mono ?_;rintro e w1 ⟨rfl,bn⟩
 have mn:=(aQ.new w 32 #[.int .i64 k,.int .i64 f,.int .i64 t,.int .i64 s,.int .i64 br,.int .i64 bs,.int .i64 hr,.int .i64 hs,.bool true,.slice A n c]).aq bn (by simp)
 obtain⟨⟨-,-,-,-,-,-,Ny,Nz,NA,NB⟩,-⟩:=mn.cJ
 repeat' first|go_guarded|go_step|simp only[];go_at_K
 refine(ic hr hs _).mono ?_;rintro e w2 ⟨rfl,bh⟩
 have pL:=mn.aq bh (by simp)
 obtain⟨⟨-,-,-,-,-,-,Sy,Sz,SA,SB⟩,-⟩:=pL.cJ
 refine wk ?_
 go_ret
 exact⟨rfl,((((ab.refl _ _).alloc _).trans bn).trans bh)⟩
theorem GZ(k f t s br bs hr hs:Int)(so:Bool)(A:Option Addr)(n c:Nat)(w:World)(k1:1≤k)(k8:k≤8)(hf:eo f=true)(ht:eo t=true)(s0:0≤s)(s1:s<4096)(hn:(n:Int)≤2048)(hb:jS br bs=true)(hh:jS hr hs=true)(ho:so=false)(h:hr=0∧hs=0)(h0:((n:Int)==0)=true) :
  Calls prog 121 #[.agg #[.int .i64 k,.int .i64 f,.int .i64 t,.int .i64 s,.int .i64 br,.int .i64 bs,.int .i64 hr,.int .i64 hs,.bool so,.slice A n c]] w fun e w'=>e=.returned (.bool true)∧ab [] [] w w':=by
 subst ho
 have eq:=fun w=>(wG hr hs 0 0 w).trans (by rw[show((hr==0)&&(hs==0))=true by simp[h.1,h.2]])
 clear h
 go_enter func121,ntmps121
 repeat' first|go_guarded|go_step
 refine(eK f _).mono ?_;rintro e w' ⟨rfl,rfl⟩
 repeat' first|go_guarded|go_step|simp only[];go_at_K
 refine(eK t _).mono ?_;rintro e w' ⟨rfl,rfl⟩
 repeat' first|go_guarded|go_step|simp only[];go_at_K
 refine(ic br bs _).mono ?_;rintro e w1 ⟨rfl,bn⟩
 have mn:=(aQ.new w 32 #[.int .i64 k,.int .i64 f,.int .i64 t,.int .i64 s,.int .i64 br,.int .i64 bs,.int .i64 hr,.int .i64 hs,.bool false,.slice A n c]).aq bn (by simp)
 obtain⟨⟨-,-,-,-,-,-,Ny,Nz,NA,NB⟩,-⟩:=mn.cJ
 repeat' first|go_guarded|go_step|simp only[];go_at_K
 refine(ic hr hs _).mono ?_;rintro e w2 ⟨rfl,bh⟩
 have pL:=mn.aq bh (by simp)
 obtain⟨⟨-,-,-,-,-,-,Sy,Sz,SA,SB⟩,-⟩:=pL.cJ
 refine wk ?_
 go_ret
 exact⟨rfl,((((ab.refl _ _).alloc _).trans bn).trans bh)⟩
theorem zM(x:Mv)(w:World)(hr:bE w x.A x.n x.b)(hm:x.ms.bL) :
  Calls prog 121 #[x.val] w fun e w'=>e=.returned (.bool true)∧ab [] [] w w':=by
 have hn:=hr.len
 obtain⟨h1,h2,h3,h4,h5,h6,h7,h8,h9,mK⟩:=hm
 simp only[Mv.ms]at h1 h2 h3 h4 h5 h6 h7 h8 h9 mK
 rw[Mv.bJ]
 cases ho:x.so
 ·have ny:(x.hr=0∧x.hs=0)∧x.b.length=0:=by
   rcases mK with h|h
   ·rw[ho]at h;cases h
   ·exact h
  exact GZ _ _ _ _ _ _ _ _ _ _ _ _ w h1.1 h1.2 (eD h2) (eD h3) h4.1 (by omega) (by omega) (ko h5 h6) (ko h7 h8) rfl ny.1 (by simp;omega)
 ·exact GY _ _ _ _ _ _ _ _ _ _ _ _ w h1.1 h1.2 (eD h2) (eD h3) h4.1 (by omega) (by omega) (ko h5 h6) (ko h7 h8) rfl
theorem Cf(x:Mv)(w:World)(hr:bE w x.A x.n x.b)(hm:¬ x.ms.bL) :
  Calls prog 121 #[x.val] w fun e w'=>e=.returned (.bool false)∧ab [] [] w w':=by
 have hn:=hr.len
 have hm:=Fi hm
 simp only[Mv.ms]at hm
 rw[Mv.bJ]
 rcases hm with h|⟨⟨k1,k8⟩,h|⟨hf,h|⟨ht,h|⟨⟨s0,s1⟩,h|⟨hv,h|⟨hb,h|⟨hh,ho,h|⟨h,h0⟩⟩⟩⟩⟩⟩⟩⟩
 ·exact Qp _ _ _ _ _ _ _ _ _ _ _ _ w h
 ·exact Qq _ _ _ _ _ _ _ _ _ _ _ _ w k1 k8 (Fh h)
 ·exact Qr _ _ _ _ _ _ _ _ _ _ _ _ w k1 k8 (eD hf) (Fh h)
 ·exact Qs _ _ _ _ _ _ _ _ _ _ _ _ w k1 k8 (eD hf) (eD ht) h
 ·exact Qu _ _ _ _ _ _ _ _ _ _ _ _ w k1 k8 (eD hf) (eD ht) s0 s1 (by omega)
 ·exact Qv _ _ _ _ _ _ _ _ _ _ _ _ w k1 k8 (eD hf) (eD ht) s0 s1 (by omega) (wQ h)
 ·exact Qw _ _ _ _ _ _ _ _ _ _ _ _ w k1 k8 (eD hf) (eD ht) s0 s1 (by omega) (ko hb.1 hb.2) (wQ h)
 ·exact Qx _ _ _ _ _ _ _ _ _ _ _ _ w k1 k8 (eD hf) (eD ht) s0 s1 (by omega) (ko hb.1 hb.2) (ko hh.1 hh.2) ho h
 ·exact Qy _ _ _ _ _ _ _ _ _ _ _ _ w k1 k8 (eD hf) (eD ht) s0 s1 (by omega) (ko hb.1 hb.2) (ko hh.1 hh.2) ho h (by simp;omega)
open Go
def rS(l:List Nat):List Value:=l.map fun n:Nat=>.int .i64 (n:Int)
theorem O7(l:List Nat)(k:Nat)(h:k<l.length):(rS l)[k]? =some (.int .i64 (l[k]:Int)):=by simp[rS,h]
theorem Bp{l:List Nat}{i:Nat}(h:i<l.length):(l.take (i+1)).flatMap eG=(l.take i).flatMap eG++eG l[i]:=by
 rw[take_succ_eq_append_getElem h,flatMap_append];simp
theorem CQ{l:List Nat}(hU:∀n∈l,gG n)(i:Nat):((l.take i).flatMap eG).length≤10*l.length:=by
 have:=qq (l:=l.take i) fun n hn=>hU n (mem_of_mem_take hn)
 have h2:(l.take i).length≤l.length:=by simp;omega
 omega
theorem Bu{b:List UInt8}{ms:List Int}(h:jK b ms 0=none):body b ms=none:=by unfold body;rw[h]
theorem Az{b:List UInt8}{ms:List Int}{l:List Nat}{a:Nat}(h:jK b ms 0=some (l,a)){v:List UInt8}{k bad:Nat}(ht:tk 2048 (b.drop a)=(v,k,bad)):body b ms=if bad=0∧a+k=b.length then some (l,v)else none:=by
 unfold body;rw[h];simp only[ht]
def cW(M S:Nat):List Addr:=[⟨M,0,none⟩,⟨M,1,none⟩,⟨M,2,none⟩,⟨M,3,none⟩,⟨M,4,none⟩,⟨M,5,none⟩,⟨M,6,none⟩,⟨M,7,none⟩,⟨S,0,none⟩]
def ka(l:List Addr):List Value:=l.map fun a=>.pointer (some a)
theorem Be(M S:Nat):(cW M S).length=9:=rfl
theorem Bg(l:List Addr)(k:Nat)(h:k<l.length):(ka l)[k]? =some (.pointer (some l[k])):=by simp[ka,h]
theorem G3{M S:Nat}{a:Addr}(h:a∈cW M S):a.block=M∨a.block=S:=by
 simp only[cW,mem_cons,not_mem_nil,or_false]at h
 rcases h with rfl|rfl|rfl|rfl|rfl|rfl|rfl|rfl|rfl<;>simp
theorem Wr.Kl{w:World}{g:Nat}{A:Option Addr}{k c:Nat}{l:List UInt8}(hw:Wr w g A k c l){h:Nat}{t:TypeId}{cs:Array Value}(hB:aQ w h t cs)(h1:t≠204)(h2:t≠5):h∉g::ak A:=by
 intro hm
 rcases mem_cons.1 hm with rfl|hm
 ·exact hB.yO hw.aO h1 rfl
 ·exact hw.own.own.ne hB (Ne.symm h2) hm
theorem TU(p:Addr)(x:Nat)(hx:x≤9223372036854775807)(w:World)(hp:w.cell? p=some (.int .i64 (x:Int)))(g:Nat)(A:Option Addr)(k c:Nat)(l:List UInt8)(hw:Wr w g A k c l)(hl:l.length≤100000000) :
  Calls prog 123 #[.pointer (some p),.pointer (some ⟨g,0,none⟩)] w fun e w'=>e=.returned (.bool true)∧∃A' k' c',Wr w' g A' k' c' (l++eG x)∧ab (g::ak A) (g::ak A') w w':=by
 have hx0:(0:Int)≤(x:Int):=by omega
 have hx1:(x:Int)≤9223372036854775807:=by omega
 have adf:IntKind.u64.wrap (x:Int)=(x:Int):=by rw[IntKind.wrap_u64];omega
 go_enter func123,ntmps123
 repeat' go_step
 refine(ti (x:Int) w g A k c l (by omega) (by simpa using gG.small (by omega)) hw (by omega)).mono ?_
 rintro e w1 ⟨rfl,A1,k1,c1,dC,bn⟩
 rw[Int.toNat_natCast]at dC
 refine wk ?_
 go_ret
 exact⟨rfl,A1,k1,c1,dC,bn⟩
theorem G4(w:World)(M S g:Nat)(ns:List Nat)(yU:ns.length=9)(hI:∀n∈ns,n≤9223372036854775807)(hc:∀(j:Nat) (h:j<9) (h2:j<ns.length),w.cell? ((cW M S)[j]'h)=some (.int .i64 ((ns[j]:Nat):Int)))(A:Option Addr)(k c:Nat)(l:List UInt8)(hw:Wr w g A k c l)(hl:l.length≤1000000)(hM:M∉g::ak A)(hS:S∉g::ak A)(_hMl:M<w.heap.size)(_hSl:S<w.heap.size) :
  Calls prog 122 #[.pointer (some ⟨M,0,none⟩),.pointer (some ⟨S,0,none⟩),.func (.func 123) #[] #[.pointer (some ⟨g,0,none⟩)]] w
   fun e w'=>e=.returned (.bool true)∧∃A' k' c',Wr w' g A' k' c' (l++ns.flatMap eG)∧ab (g::ak A) (g::ak A') w w':=by
 have hU:∀n∈ns,gG n:=fun n hn=>gG.small (by have:=hI n hn;omega)
 have hlen:∀i,((ns.take i).flatMap eG).length≤90:=fun i=>by
  have:=qq (l:=ns.take i) fun n hn=>hU n (mem_of_mem_take hn)
  have h2:(ns.take i).length≤9:=by rw[length_take];omega
  omega
 have vA:=aA yU;clear yU
 have HC:=aA hc;clear hc
 go_enter func122,ntmps122
 repeat' go_step
 go_still_tail 29,(by kernel_rfl)
 change wpList _ _ _ _ _ w.drew
 repeat' go_step
 have hP:aQ (w.alloc (.cells (ka (cW M S)).toArray 207)).drew w.heap.size 207 (ka (cW M S)).toArray:=aQ.new _ _ _
 have dC:Wr (w.alloc (.cells (ka (cW M S)).toArray 207)).drew g A k c l:=⟨hw.aO.alloc _,(hw.own.alloc _).drew⟩
 have U1:ab (g::ak A) (g::ak A) w (w.alloc (.cells (ka (cW M S)).toArray 207)).drew:=((ab.refl _ _).alloc _).drew
 go_loopw [42] (fun DB wr=>∃(i:Nat)(A2:Option Addr)(k2 c2:Nat),i≤9∧DB=.int .i64 (i:Int)∧Wr wr g A2 k2 c2 (l++(ns.take i).flatMap eG)∧aQ wr w.heap.size 207 (ka (cW M S)).toArray∧ab (g::ak A) (g::ak A2) w wr)
  (fun DB _=>9-(intOf DB).toNat)
 case atStart=>exact⟨0,A,k,c,by omega,rfl,by rw[take_zero,flatMap_nil,append_nil];exact dC,hP,U1⟩
 case round=>
  obtain⟨i,A2,k2,c2,hi,rfl,hw2,Bf,hu⟩:=hrel
  clear hP dC U1
  have hli:=hlen i
  by_cases hlt:i<9
  ·have lA:i<ns.length:=by rw[vA.out];exact hlt
   have hc:=HC.out i hlt lA
   have pR:(cW M S)[i]'hlt∈cW M S:=getElem_mem hlt
   have Bh:=G3 pR
   have UI:wr.cell? ⟨w.heap.size,i,none⟩=some (.pointer (some ((cW M S)[i]'hlt))):=by
    rw[Bf.cell];simpa using Bg (cW M S) i hlt
   have hx:=hI ns[i] (getElem_mem lA)
   have HS:=aA (Bp lA)
   generalize (cW M S)[i]'hlt=p at *
   generalize ns[i]=x at *
   have hcw:=hu.cell hc (by rcases Bh with h|h<;>rw[h];exact hM;exact hS)
   clear hc pR Bh
   repeat' (fail_if_success with_reducible refine ba rfl ?_);go_step
   refine(TU p x hx wr hcw g A2 k2 c2 _ hw2 (by simp only[length_append];omega)).mono ?_;rintro e w3 ⟨rfl,A3,k3,c3,hw3,cQ⟩
   have Rx:=Bf.aq cQ (hw2.Kl Bf (by decide) (by decide))
   rw[append_assoc,←HS.out]at hw3
   refine wk ?_
   exact⟨⟨i+1,A3,k3,c3,by omega,rfl,hw3,Rx,hu.trans cQ⟩,by simp[intOf];omega⟩
  ·obtain rfl:i=9:=by omega
   rw[take_of_length_le (by rw[vA.out];omega)]at hw2
   refine wk ?_
   go_ret
   exact⟨rfl,A2,k2,c2,hw2,hu⟩
theorem Fj(x:Mv)(w:World)(hr:bE w x.A x.n x.b)(hm:¬ x.ms.bL) :
  Calls prog 68 #[x.val] w fun e w'=>e=.returned (.tuple #[.slice none 0 0,.int .i64 1])∧ab [] [] w w':=by
 have C:=fun w hr=>Cf x w hr hm
 have HR:Hid (∀o,bE (w.alloc o) x.A x.n x.b):=fun o=>hr.alloc o
 rw[Mv.bJ]at C ⊢
 clear hr hm
 go_enter func68,ntmps68
 repeat' go_step
 refine(C _ (HR.out _)).mono ?_;rintro e w1 ⟨rfl,bn⟩
 refine wk ?_
 go_ret2
 exact⟨rfl,((ab.refl _ _).alloc _).trans bn⟩
theorem Qz{x:Mv}(hm:x.ms.bL){w:World}{M S:Nat}(hM:aQ w M 32 #[.int .i64 x.k,.int .i64 x.f,.int .i64 x.t,.int .i64 x.s,.int .i64 x.br,.int .i64 x.bs,.int .i64 x.hr,.int .i64 x.hs,.bool x.so,.slice x.A x.n x.c])(hS:aQ w S 3 #[.int .i64 (x.ms.is:Int)]) :
  ∀(j:Nat)(h:j<9)(h2:j<x.ms.ns.length),w.cell? ((cW M S)[j]'h)=some (.int .i64 ((x.ms.ns[j]:Nat):Int)):=by
 have h1:=hm.kind;have h2:=hm.aR;have h3:=hm.to;have h4:=hm.slot;have h5:=hm.bU;have h6:=hm.cu;have h7:=hm.dw;have h8:=hm.dR
 simp only[Mv.ms]at h1 h2 h3 h4 h5 h6 h7 h8
 intro j hj hj2
 have:j=0∨j=1∨j=2∨j=3∨j=4∨j=5∨j=6∨j=7∨j=8:=by omega
 rcases this with rfl|rfl|rfl|rfl|rfl|rfl|rfl|rfl|rfl
 ·exact(hM.cell 0).trans (congrArg some (congrArg (Value.int .i64) (show x.k=((x.k.toNat:Nat):Int) by omega)))
 ·exact(hM.cell 1).trans (congrArg some (congrArg (Value.int .i64) (show x.f=((x.f.toNat:Nat):Int) by omega)))
 ·exact(hM.cell 2).trans (congrArg some (congrArg (Value.int .i64) (show x.t=((x.t.toNat:Nat):Int) by omega)))
 ·exact(hM.cell 3).trans (congrArg some (congrArg (Value.int .i64) (show x.s=((x.s.toNat:Nat):Int) by omega)))
 ·exact(hM.cell 4).trans (congrArg some (congrArg (Value.int .i64) (show x.br=((x.br.toNat:Nat):Int) by omega)))
 ·exact(hM.cell 5).trans (congrArg some (congrArg (Value.int .i64) (show x.bs=((x.bs.toNat:Nat):Int) by omega)))
 ·exact(hM.cell 6).trans (congrArg some (congrArg (Value.int .i64) (show x.hr=((x.hr.toNat:Nat):Int) by omega)))
 ·exact(hM.cell 7).trans (congrArg some (congrArg (Value.int .i64) (show x.hs=((x.hs.toNat:Nat):Int) by omega)))
 ·exact hS.cell 0
theorem Cg(x:Mv)(w:World)(hr:bE w x.A x.n x.b)(hm:x.ms.bL) :
  Calls prog 68 #[x.val] w fun e w'=>∃A' k' c',e=.returned (.tuple #[.slice A' k' c',.int .i64 0])∧bW 5 w' A' k' c' x.ms.bytes∧ab [] (ak A') w w':=by
 have C:=zM x (w.alloc (.cells #[.int .i64 x.k,.int .i64 x.f,.int .i64 x.t,.int .i64 x.s,.int .i64 x.br,.int .i64 x.bs,.int .i64 x.hr,.int .i64 x.hs,.bool x.so,.slice x.A x.n x.c] 32)) (hr.alloc _) hm
 have HNC:Hid (∀(w:World)(M S:Nat),aQ w M 32 #[.int .i64 x.k,.int .i64 x.f,.int .i64 x.t,.int .i64 x.s,.int .i64 x.br,.int .i64 x.bs,.int .i64 x.hr,.int .i64 x.hs,.bool x.so,.slice x.A x.n x.c]→aQ w S 3 #[.int .i64 (x.ms.is:Int)]→∀(j:Nat)(h:j<9)(h2:j<x.ms.ns.length),w.cell? ((cW M S)[j]'h)=some (.int .i64 ((x.ms.ns[j]:Nat):Int))):=fun w M S h1 h2=>Qz hm h1 h2
 have hU:=hm.U
 have dK:x.ms.inside.length≤4096:=by have:=hm.QA;omega
 have hv:x.b.length≤2048:=hm.val
 have ng:x.ms.ns.length=9:=rfl
 have LV:=aA ng;clear ng
 have yU:∀n∈x.ms.ns,n≤9223372036854775807:=by
  have h1:=hm.kind;have h2:=hm.aR;have h3:=hm.to;have h4:=hm.slot;have h5:=hm.bU;have h6:=hm.cu;have h7:=hm.dw;have h8:=hm.dR;have h9:=x.ms.is_le
  intro n hn
  simp only[Ms.ns,mem_cons,not_mem_nil,or_false]at hn
  rcases hn with rfl|rfl|rfl|rfl|rfl|rfl|rfl|rfl|rfl<;>omega
 have HB:Hid (x.ms.inside=x.ms.ns.flatMap eG++eG x.b.length++x.b):=by unfold Hid Ms.inside je;rw[append_assoc];rfl
 have HBY:Hid (x.ms.bytes=put x.ms.inside):=rfl
 have pK:=qq hU
 have HIS:Hid (∀b,x.so=b→x.ms.is=if b then 1 else 0):=fun b h=>by unfold Ms.is Mv.ms;rw[h]
 have RF:=aA hr.lt
 clear hm
 rw[Mv.bJ]at C ⊢
 go_enter func68,ntmps68
 repeat' go_step
 refine C.mono ?_;rintro e w1 ⟨rfl,bn⟩
 have hX:=(aQ.new w 32 #[.int .i64 x.k,.int .i64 x.f,.int .i64 x.t,.int .i64 x.s,.int .i64 x.br,.int .i64 x.bs,.int .i64 x.hr,.int .i64 x.hs,.bool x.so,.slice x.A x.n x.c]).aq bn (by simp)
 have U1:ab [] [] w w1:=((ab.refl _ _).alloc _).trans bn
 have hlt:=hX.lt
 have q8:=hX.cell 8
 simp only[List.getElem?_toArray,List.getElem?_cons_succ,List.getElem?_cons_zero]at q8
 clear C bn
 -- the world in ahu the numbers are laid down
 have hgo:∀W:World,W=(w1.alloc (.cells #[.slice none 0 0] 204)).alloc (.cells #[.int .i64 (x.ms.is:Int)] 3)→
   Wr W w1.heap.size none 0 0 []∧aQ W w.heap.size 32 #[.int .i64 x.k,.int .i64 x.f,.int .i64 x.t,.int .i64 x.s,.int .i64 x.br,.int .i64 x.bs,.int .i64 x.hr,.int .i64 x.hs,.bool x.so,.slice x.A x.n x.c]∧aQ W (w1.heap.size+1) 3 #[.int .i64 (x.ms.is:Int)]∧ab [] (w1.heap.size::ak none) w W:=by
  rintro W rfl
  refine⟨⟨(aQ.new _ _ _).alloc _,((bW.nil _ _).alloc _).alloc _⟩,(hX.alloc _).alloc _,?_,?_⟩
  ·have:=aQ.new (w1.alloc (.cells #[.slice none 0 0] 204)) 3 #[.int .i64 (x.ms.is:Int)]
   rwa [World.size_alloc]at this
  ·exact((U1.alloc _).alloc _).gives (by have:=U1.size;simp[ak];omega)
 have vD:=aA hgo;clear hgo hX U1
 cases gC:x.so
 all_goals
  have SC:=HIS.out _ gC
  rw[gC]at q8
  simp only[if_true,if_false,Bool.false_eq_true]at SC
  repeat' (fail_if_success with_reducible refine ba rfl ?_);first|go_step|simp only[];go_at_K
  obtain⟨hW,Fk,NC,UW⟩:=vD.out _ rfl
  clear q8
  rw[SC]at NC
  have sn:=HNC.out _ _ _ Fk (by rw[SC];exact NC)
  rw[SC]at hW Fk UW sn
  have T:=G4 _ w.heap.size (w1.heap.size+1) w1.heap.size x.ms.ns LV.out yU sn none 0 0 [] hW (by simp) (hW.Kl Fk (by decide) (by decide)) (hW.Kl NC (by decide) (by decide)) Fk.lt NC.lt
  have SD:=hW.Kl Fk (by decide) (by decide)
  clear vD NC sn
  refine T.mono ?_
  rintro e w2 ⟨rfl,A2,k2,c2,hw2,bh⟩
  rw[nil_append]at hw2
  have U2:=UW.trans bh
  have pL:=Fk.aq bh SD
  have q9:=pL.cell 9
  simp only[List.getElem?_toArray,List.getElem?_cons_succ,List.getElem?_cons_zero]at q9
  clear T hW Fk UW bh SD
  repeat' first|go_step|simp only[];go_at_K
  refine(xe w2 w1.heap.size A2 k2 c2 _ x.A x.n x.c x.b (hr.aq U2 (by simp)) (fun h0 j hj hm=>by have h1:=RF.out h0 j hj;exact absurd (U2.fresh j hm) (by simp only[not_mem_nil,false_or];omega)) hw2 (by rw[LV.out]at pK;omega)).mono ?_;rintro e w3 ⟨rfl,A3,k3,c3,hw3,cQ⟩
  have U3:=U2.trans cQ
  rw[←HB.out]at hw3
  clear U2 cQ hw2 pL q9
  repeat' first|go_step|simp only[];go_at_K
  refine(yV w3 w1.heap.size A3 k3 c3 _ hw3 (by omega)).mono ?_;rintro e w4 ⟨A4,k4,c4,rfl,dW,de⟩
  have U4:=(U3.gives (b':=[]) (by simp)).trans de
  clear U3 de
  repeat' first|go_step|simp only[];go_at_K
  refine(DO w4 A4 k4 c4 _ dW.rd dK).mono ?_;rintro e w5 ⟨A5,k5,c5,rfl,fI,cF⟩
  rw[←HBY.out]at fI
  refine wk ?_
  go_ret2
  exact⟨A5,k5,c5,rfl,fI,(U4.gives (b':=[]) (by simp)).trans cF⟩
