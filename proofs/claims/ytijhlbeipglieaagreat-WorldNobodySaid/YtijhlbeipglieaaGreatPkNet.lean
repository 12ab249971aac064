/- Merged: Bal, Net, Lebs, Net2, Net3. -/
import Derived.Test.YtijhlbeipglieaaGreatPkFrame
set_option linter.all false
set_option maxRecDepth 100000
set_option maxHeartbeats 4000000
namespace Go.Proofs.YtijhlbeipglieaaGreat
open Go.RowKit Agio
theorem eqBal (a b c d:Int) (w:World):(binOp .eql 30 (.agg #[.int .i64 a,.int .i64 b]) (.agg #[.int .i64 c,.int .i64 d])).run Tryz.prog w= .ok (.bool ((a == c) && (b == d))) w:=by
 rw [run_eql_struct,show (10000:Nat)=9999 + 1 from rfl]
 rw [run_equalIn_struct w _ _ _ _ (by kernel_rfl) (by kernel_rfl)]
 rw [show Tryz.prog.fieldsOf 30=_ from by unfold Program.fieldsOf;rw [Tryz.underlying30]]
 have p0:=fun (x y:Int) (w:World)=>show (part 3 #[.int .i64 x,.int .i64 y] 0).run Tryz.prog w= .ok (.int .i64 x) w by kernel_rfl
 have p1:=fun (x y:Int) (w:World)=>show (part 3 #[.int .i64 x,.int .i64 y] 1).run Tryz.prog w= .ok (.int .i64 y) w by kernel_rfl
 have e0:=fun (a b:Int) (w:World)=>show (Op.equalIn 9999 3 (.int .i64 a) (.int .i64 b)).run Tryz.prog w= .ok (a == b) w by kernel_rfl
 simp only [Op.eqFields,Sem.run_bind,p0,p1,e0,Result.andThen_ok,ne_eq,String.reduceEq,not_false_eq_true,if_true,Sem.run_ite,Sem.run_pure]
 cases a == c
 ·rfl
 cases b == d <;> rfl
end Go.Proofs.YtijhlbeipglieaaGreat
namespace Go.Proofs.YtijhlbeipglieaaGreat
open Go.RowKit Agio
structure Mv where
 k:Int
 f:Int
 t:Int
 s:Int
 br:Int
 bs:Int
 hr:Int
 hs:Int
 so:Bool
 A:Option Addr
 n:Nat
 c:Nat
 b:List UInt8
def Mv.cells (x:Mv):List Value:=[.int .i64 x.k,.int .i64 x.f,.int .i64 x.t,.int .i64 x.s,.int .i64 x.br,.int .i64 x.bs,.int .i64 x.hr,.int .i64 x.hs,.bool x.so,.slice x.A x.n x.c]
def Mv.val (x:Mv):Value:=.agg x.cells.toArray
theorem Mv.val_eq (x:Mv):x.val= .agg #[.int .i64 x.k,.int .i64 x.f,.int .i64 x.t,.int .i64 x.s,.int .i64 x.br,.int .i64 x.bs,.int .i64 x.hr,.int .i64 x.hs,.bool x.so,.slice x.A x.n x.c]:=rfl
def Mv.ms (x:Mv):Ms:=⟨x.k,x.f,x.t,x.s,x.br,x.bs,x.hr,x.hs,x.so,x.b⟩
def siteB (n:Int):Bool:=decide (0≤n) && decide (n < 7)
theorem siteB_yes {n:Int} (h:0≤n∧n≤6):siteB n=true:=by unfold siteB;simp;omega
theorem siteB_no {n:Int} (h:¬ (0≤n∧n≤6)):siteB n=false:=by unfold siteB;simp;omega
def balB (r s:Int):Bool:=decide (0≤r) && decide (r≤1099511627776) && siteB s
theorem balB_yes {r s:Int} (h:0≤r∧r≤1099511627776) (h2:0≤s∧s≤6):balB r s=true:=by unfold balB siteB;simp;omega
theorem balB_no {r s:Int} (h:¬ ((0≤r∧r≤1099511627776)∧0≤s∧s≤6)):balB r s=false:=by unfold balB siteB;simp;omega
theorem netSite (n:Int) (w:World):Calls Tryz.prog 199 #[.int .i64 n] w fun e w'=>e= .returned (.bool (siteB n))∧w=w':=by
 go_enter Tryz.func199,Tryz.ntmps199
 repeat' (first|go_values|go_skip|go_guarded|go_step|go_upon|(simp only [];go_at_K))
 all_goals go_ret
 all_goals exact ⟨by simp [siteB, *],rfl⟩
theorem ballotSite (n:Int) (w:World):Calls Tryz.prog 251 #[.int .i64 n,.int .i64 7] w fun e w'=>e= .returned (.bool (siteB n))∧w=w':=by
 go_enter Tryz.func251,Tryz.ntmps251
 repeat' (first|go_values|go_skip|go_guarded|go_step|go_upon|(simp only [];go_at_K))
 all_goals go_ret
 all_goals exact ⟨by simp [siteB, *],rfl⟩
theorem ballotMay (r s:Int) (w:World):Calls Tryz.prog 200 #[.agg #[.int .i64 r,.int .i64 s],.int .i64 7] w fun e w'=>e= .returned (.bool (balB r s))∧Upd [] [] w w':=by
 by_cases h0:0≤r
 ·by_cases h1:r≤1099511627776
  ·have HB:Hid (balB r s=siteB s):=by unfold Hid balB;simp [h0,h1]
   go_enter Tryz.func200,Tryz.ntmps200
   repeat' (first|go_values|go_skip|go_guarded|go_step|go_upon|(simp only [];go_at_K))
   ((with_reducible refine (ballotSite s _).mono ?_);rintro e w1 ⟨rfl,rfl⟩)
   repeat' (first|go_values|go_skip|go_guarded|go_step|go_upon|(simp only [];go_at_K))
   go_ret
   exact ⟨by rw [HB.out];rfl,(Upd.refl _ _).alloc _⟩
  ·have HB:Hid (balB r s=false):=balB_no (by omega)
   have h1':1099511627776 < r:=by omega
   go_enter Tryz.func200,Tryz.ntmps200
   repeat' (first|go_values|go_skip|go_guarded|go_step|go_upon|(simp only [];go_at_K))
   go_ret
   exact ⟨by rw [HB.out];rfl,(Upd.refl _ _).alloc _⟩
 ·have HB:Hid (balB r s=false):=balB_no (by omega)
  have h0':r < 0:=by omega
  go_enter Tryz.func200,Tryz.ntmps200
  repeat' (first|go_values|go_skip|go_guarded|go_step|go_upon|(simp only [];go_at_K))
  go_ret
  exact ⟨by rw [HB.out];rfl,(Upd.refl _ _).alloc _⟩
theorem netMay_cases {m:Ms} (h:¬ m.May):(m.kind < 1∨8 < m.kind)∨(1≤m.kind∧m.kind≤8)∧(¬ (0≤m.frm∧m.frm≤6)∨(0≤m.frm∧m.frm≤6)∧(¬ (0≤m.to∧m.to≤6)∨(0≤m.to∧m.to≤6)∧
  ((m.slot < 0∨4096≤m.slot)∨(0≤m.slot∧m.slot < 4096)∧(2048 < m.val.length∨m.val.length≤2048∧
  (¬ ((0≤m.bround∧m.bround≤1099511627776)∧0≤m.bsite∧m.bsite≤6)∨((0≤m.bround∧m.bround≤1099511627776)∧0≤m.bsite∧m.bsite≤6)∧
  (¬ ((0≤m.hround∧m.hround≤1099511627776)∧0≤m.hsite∧m.hsite≤6)∨((0≤m.hround∧m.hround≤1099511627776)∧0≤m.hsite∧m.hsite≤6)∧
  m.some_=false∧(¬ (m.hround=0∧m.hsite=0)∨(m.hround=0∧m.hsite=0)∧¬ m.val.length=0))))))):=by
 by_cases h1:m.kind < 1∨8 < m.kind
 ·exact .inl h1
 refine .inr ⟨by omega,?_⟩
 by_cases h2:¬ (0≤m.frm∧m.frm≤6)
 ·exact .inl h2
 have h2:=Classical.not_not.1 h2
 refine .inr ⟨h2,?_⟩
 by_cases h3:¬ (0≤m.to∧m.to≤6)
 ·exact .inl h3
 have h3:=Classical.not_not.1 h3
 refine .inr ⟨h3,?_⟩
 by_cases h4:m.slot < 0∨4096≤m.slot
 ·exact .inl h4
 refine .inr ⟨by omega,?_⟩
 by_cases h5:2048 < m.val.length
 ·exact .inl h5
 refine .inr ⟨by omega,?_⟩
 by_cases h6:¬ ((0≤m.bround∧m.bround≤1099511627776)∧0≤m.bsite∧m.bsite≤6)
 ·exact .inl h6
 have h6:=Classical.not_not.1 h6
 refine .inr ⟨h6,?_⟩
 by_cases h7:¬ ((0≤m.hround∧m.hround≤1099511627776)∧0≤m.hsite∧m.hsite≤6)
 ·exact .inl h7
 have h7:=Classical.not_not.1 h7
 refine .inr ⟨h7,?_⟩
 cases h8:m.some_
 ·refine ⟨rfl,?_⟩
  by_cases h9:m.hround=0∧m.hsite=0
  ·refine .inr ⟨h9,fun h10=>h ⟨by omega,h2,h3,by omega,h6.1,h6.2,h7.1,h7.2,by omega,.inr ⟨h9,h10⟩⟩⟩
  ·exact .inl h9
 ·exact absurd ⟨by omega,h2,h3,by omega,h6.1,h6.2,h7.1,h7.2,by omega,.inl h8⟩ h
theorem netMay_k (k f t s br bs hr hs:Int) (so:Bool) (A:Option Addr) (n c:Nat) (w:World) (h:k < 1∨8 < k) :
  Calls Tryz.prog 121 #[.agg #[.int .i64 k,.int .i64 f,.int .i64 t,.int .i64 s,.int .i64 br,.int .i64 bs,.int .i64 hr,.int .i64 hs,.bool so,.slice A n c]] w fun e w'=>e= .returned (.bool false)∧Upd [] [] w w':=by
 rcases h with h | h
 ·go_enter Tryz.func121,Tryz.ntmps121
  repeat' (first|go_values|go_skip|go_guarded|go_step|go_upon|(simp only [];go_at_K))
  go_ret
  exact ⟨rfl,((Upd.refl _ _).alloc _)⟩
 ·have k1:1≤k:=by omega
  go_enter Tryz.func121,Tryz.ntmps121
  repeat' (first|go_values|go_skip|go_guarded|go_step|go_upon|(simp only [];go_at_K))
  go_ret
  exact ⟨rfl,((Upd.refl _ _).alloc _)⟩
theorem netMay_f (k f t s br bs hr hs:Int) (so:Bool) (A:Option Addr) (n c:Nat) (w:World) (k1:1≤k) (k8:k≤8) (hf:siteB f=false) :
  Calls Tryz.prog 121 #[.agg #[.int .i64 k,.int .i64 f,.int .i64 t,.int .i64 s,.int .i64 br,.int .i64 bs,.int .i64 hr,.int .i64 hs,.bool so,.slice A n c]] w fun e w'=>e= .returned (.bool false)∧Upd [] [] w w':=by
 go_enter Tryz.func121,Tryz.ntmps121
 repeat' (first|go_values|go_skip|go_guarded|go_step|go_upon|(simp only [];go_at_K))
 ((with_reducible refine (netSite f _).mono ?_);rintro e w' ⟨rfl,rfl⟩)
 repeat' (first|go_values|go_skip|go_guarded|go_step|go_upon|(simp only [];go_at_K))
 go_ret
 exact ⟨rfl,((Upd.refl _ _).alloc _)⟩
theorem netMay_t (k f t s br bs hr hs:Int) (so:Bool) (A:Option Addr) (n c:Nat) (w:World) (k1:1≤k) (k8:k≤8) (hf:siteB f=true) (ht:siteB t=false) :
  Calls Tryz.prog 121 #[.agg #[.int .i64 k,.int .i64 f,.int .i64 t,.int .i64 s,.int .i64 br,.int .i64 bs,.int .i64 hr,.int .i64 hs,.bool so,.slice A n c]] w fun e w'=>e= .returned (.bool false)∧Upd [] [] w w':=by
 go_enter Tryz.func121,Tryz.ntmps121
 repeat' (first|go_values|go_skip|go_guarded|go_step|go_upon|(simp only [];go_at_K))
 ((with_reducible refine (netSite f _).mono ?_);rintro e w' ⟨rfl,rfl⟩)
 repeat' (first|go_values|go_skip|go_guarded|go_step|go_upon|(simp only [];go_at_K))
 ((with_reducible refine (netSite t _).mono ?_);rintro e w' ⟨rfl,rfl⟩)
 repeat' (first|go_values|go_skip|go_guarded|go_step|go_upon|(simp only [];go_at_K))
 go_ret
 exact ⟨rfl,((Upd.refl _ _).alloc _)⟩
theorem netMay_s (k f t s br bs hr hs:Int) (so:Bool) (A:Option Addr) (n c:Nat) (w:World) (k1:1≤k) (k8:k≤8) (hf:siteB f=true) (ht:siteB t=true) (h:s < 0∨4096≤s) :
  Calls Tryz.prog 121 #[.agg #[.int .i64 k,.int .i64 f,.int .i64 t,.int .i64 s,.int .i64 br,.int .i64 bs,.int .i64 hr,.int .i64 hs,.bool so,.slice A n c]] w fun e w'=>e= .returned (.bool false)∧Upd [] [] w w':=by
 rcases h with h | h
 ·go_enter Tryz.func121,Tryz.ntmps121
  repeat' (first|go_values|go_skip|go_guarded|go_step|go_upon|(simp only [];go_at_K))
  ((with_reducible refine (netSite f _).mono ?_);rintro e w' ⟨rfl,rfl⟩)
  repeat' (first|go_values|go_skip|go_guarded|go_step|go_upon|(simp only [];go_at_K))
  ((with_reducible refine (netSite t _).mono ?_);rintro e w' ⟨rfl,rfl⟩)
  repeat' (first|go_values|go_skip|go_guarded|go_step|go_upon|(simp only [];go_at_K))
  go_ret
  exact ⟨rfl,((Upd.refl _ _).alloc _)⟩
 ·have s0:0≤s:=by omega
  go_enter Tryz.func121,Tryz.ntmps121
  repeat' (first|go_values|go_skip|go_guarded|go_step|go_upon|(simp only [];go_at_K))
  ((with_reducible refine (netSite f _).mono ?_);rintro e w' ⟨rfl,rfl⟩)
  repeat' (first|go_values|go_skip|go_guarded|go_step|go_upon|(simp only [];go_at_K))
  ((with_reducible refine (netSite t _).mono ?_);rintro e w' ⟨rfl,rfl⟩)
  repeat' (first|go_values|go_skip|go_guarded|go_step|go_upon|(simp only [];go_at_K))
  go_ret
  exact ⟨rfl,((Upd.refl _ _).alloc _)⟩
theorem netMay_v (k f t s br bs hr hs:Int) (so:Bool) (A:Option Addr) (n c:Nat) (w:World) (k1:1≤k) (k8:k≤8) (hf:siteB f=true) (ht:siteB t=true) (s0:0≤s) (s1:s < 4096) (hn:2048 < (n:Int)) :
  Calls Tryz.prog 121 #[.agg #[.int .i64 k,.int .i64 f,.int .i64 t,.int .i64 s,.int .i64 br,.int .i64 bs,.int .i64 hr,.int .i64 hs,.bool so,.slice A n c]] w fun e w'=>e= .returned (.bool false)∧Upd [] [] w w':=by
 go_enter Tryz.func121,Tryz.ntmps121
 repeat' (first|go_values|go_skip|go_guarded|go_step|go_upon|(simp only [];go_at_K))
 ((with_reducible refine (netSite f _).mono ?_);rintro e w' ⟨rfl,rfl⟩)
 repeat' (first|go_values|go_skip|go_guarded|go_step|go_upon|(simp only [];go_at_K))
 ((with_reducible refine (netSite t _).mono ?_);rintro e w' ⟨rfl,rfl⟩)
 repeat' (first|go_values|go_skip|go_guarded|go_step|go_upon|(simp only [];go_at_K))
 go_ret
 exact ⟨rfl,((Upd.refl _ _).alloc _)⟩
theorem netMay_b (k f t s br bs hr hs:Int) (so:Bool) (A:Option Addr) (n c:Nat) (w:World) (k1:1≤k) (k8:k≤8) (hf:siteB f=true) (ht:siteB t=true) (s0:0≤s) (s1:s < 4096) (hn:(n:Int)≤2048) (hb:balB br bs=false) :
  Calls Tryz.prog 121 #[.agg #[.int .i64 k,.int .i64 f,.int .i64 t,.int .i64 s,.int .i64 br,.int .i64 bs,.int .i64 hr,.int .i64 hs,.bool so,.slice A n c]] w fun e w'=>e= .returned (.bool false)∧Upd [] [] w w':=by
 go_enter Tryz.func121,Tryz.ntmps121
 repeat' (first|go_values|go_skip|go_guarded|go_step|go_upon|(simp only [];go_at_K))
 ((with_reducible refine (netSite f _).mono ?_);rintro e w' ⟨rfl,rfl⟩)
 repeat' (first|go_values|go_skip|go_guarded|go_step|go_upon|(simp only [];go_at_K))
 ((with_reducible refine (netSite t _).mono ?_);rintro e w' ⟨rfl,rfl⟩)
 repeat' (first|go_values|go_skip|go_guarded|go_step|go_upon|(simp only [];go_at_K))
 ((with_reducible refine (ballotMay br bs _).mono ?_);rintro e w1 ⟨rfl,hu1⟩)
 have hX1:=(Blk.new w 32 #[.int .i64 k,.int .i64 f,.int .i64 t,.int .i64 s,.int .i64 br,.int .i64 bs,.int .i64 hr,.int .i64 hs,.bool so,.slice A n c]).upd hu1 (by simp)
 obtain ⟨⟨-,-,-,-,-,-,q61,q71,q81,q91⟩,-⟩:=hX1.c10
 repeat' (first|go_values|go_skip|go_guarded|go_step|go_upon|(simp only [];go_at_K))
 go_ret
 exact ⟨rfl,(((Upd.refl _ _).alloc _).trans hu1)⟩
theorem netMay_h (k f t s br bs hr hs:Int) (so:Bool) (A:Option Addr) (n c:Nat) (w:World) (k1:1≤k) (k8:k≤8) (hf:siteB f=true) (ht:siteB t=true) (s0:0≤s) (s1:s < 4096) (hn:(n:Int)≤2048) (hb:balB br bs=true) (hh:balB hr hs=false) :
  Calls Tryz.prog 121 #[.agg #[.int .i64 k,.int .i64 f,.int .i64 t,.int .i64 s,.int .i64 br,.int .i64 bs,.int .i64 hr,.int .i64 hs,.bool so,.slice A n c]] w fun e w'=>e= .returned (.bool false)∧Upd [] [] w w':=by
 go_enter Tryz.func121,Tryz.ntmps121
 repeat' (first|go_values|go_skip|go_guarded|go_step|go_upon|(simp only [];go_at_K))
 ((with_reducible refine (netSite f _).mono ?_);rintro e w' ⟨rfl,rfl⟩)
 repeat' (first|go_values|go_skip|go_guarded|go_step|go_upon|(simp only [];go_at_K))
 ((with_reducible refine (netSite t _).mono ?_);rintro e w' ⟨rfl,rfl⟩)
 repeat' (first|go_values|go_skip|go_guarded|go_step|go_upon|(simp only [];go_at_K))
 ((with_reducible refine (ballotMay br bs _).mono ?_);rintro e w1 ⟨rfl,hu1⟩)
 have hX1:=(Blk.new w 32 #[.int .i64 k,.int .i64 f,.int .i64 t,.int .i64 s,.int .i64 br,.int .i64 bs,.int .i64 hr,.int .i64 hs,.bool so,.slice A n c]).upd hu1 (by simp)
 obtain ⟨⟨-,-,-,-,-,-,q61,q71,q81,q91⟩,-⟩:=hX1.c10
 repeat' (first|go_values|go_skip|go_guarded|go_step|go_upon|(simp only [];go_at_K))
 ((with_reducible refine (ballotMay hr hs _).mono ?_);rintro e w2 ⟨rfl,hu2⟩)
 have hX2:=hX1.upd hu2 (by simp)
 obtain ⟨⟨-,-,-,-,-,-,q62,q72,q82,q92⟩,-⟩:=hX2.c10
 repeat' (first|go_values|go_skip|go_guarded|go_step|go_upon|(simp only [];go_at_K))
 go_ret
 exact ⟨rfl,((((Upd.refl _ _).alloc _).trans hu1).trans hu2)⟩
theorem netMay_o (k f t s br bs hr hs:Int) (so:Bool) (A:Option Addr) (n c:Nat) (w:World) (k1:1≤k) (k8:k≤8) (hf:siteB f=true) (ht:siteB t=true) (s0:0≤s) (s1:s < 4096) (hn:(n:Int)≤2048) (hb:balB br bs=true) (hh:balB hr hs=true) (ho:so=false) (h:¬ (hr=0∧hs=0)) :
  Calls Tryz.prog 121 #[.agg #[.int .i64 k,.int .i64 f,.int .i64 t,.int .i64 s,.int .i64 br,.int .i64 bs,.int .i64 hr,.int .i64 hs,.bool so,.slice A n c]] w fun e w'=>e= .returned (.bool false)∧Upd [] [] w w':=by
 subst ho
 have eq:=fun w=>(eqBal hr hs 0 0 w).trans (by rw [show ((hr == 0) && (hs == 0))=false by rw [Bool.and_eq_false_iff];simp;omega])
 clear h
 go_enter Tryz.func121,Tryz.ntmps121
 repeat' (first|go_values|go_skip|go_guarded|go_step|go_upon|(simp only [];go_at_K))
 ((with_reducible refine (netSite f _).mono ?_);rintro e w' ⟨rfl,rfl⟩)
 repeat' (first|go_values|go_skip|go_guarded|go_step|go_upon|(simp only [];go_at_K))
 ((with_reducible refine (netSite t _).mono ?_);rintro e w' ⟨rfl,rfl⟩)
 repeat' (first|go_values|go_skip|go_guarded|go_step|go_upon|(simp only [];go_at_K))
 ((with_reducible refine (ballotMay br bs _).mono ?_);rintro e w1 ⟨rfl,hu1⟩)
 have hX1:=(Blk.new w 32 #[.int .i64 k,.int .i64 f,.int .i64 t,.int .i64 s,.int .i64 br,.int .i64 bs,.int .i64 hr,.int .i64 hs,.bool false,.slice A n c]).upd hu1 (by simp)
 obtain ⟨⟨-,-,-,-,-,-,q61,q71,q81,q91⟩,-⟩:=hX1.c10
 repeat' (first|go_values|go_skip|go_guarded|go_step|go_upon|(simp only [];go_at_K))
 ((with_reducible refine (ballotMay hr hs _).mono ?_);rintro e w2 ⟨rfl,hu2⟩)
 have hX2:=hX1.upd hu2 (by simp)
 obtain ⟨⟨-,-,-,-,-,-,q62,q72,q82,q92⟩,-⟩:=hX2.c10
 repeat' (first|go_values|go_skip|go_guarded|go_step|go_upon|(simp only [];go_at_K))
 go_ret
 exact ⟨rfl,((((Upd.refl _ _).alloc _).trans hu1).trans hu2)⟩
theorem netMay_n (k f t s br bs hr hs:Int) (so:Bool) (A:Option Addr) (n c:Nat) (w:World) (k1:1≤k) (k8:k≤8) (hf:siteB f=true) (ht:siteB t=true) (s0:0≤s) (s1:s < 4096) (hn:(n:Int)≤2048) (hb:balB br bs=true) (hh:balB hr hs=true) (ho:so=false) (h:hr=0∧hs=0) (h0:((n:Int) == 0)=false) :
  Calls Tryz.prog 121 #[.agg #[.int .i64 k,.int .i64 f,.int .i64 t,.int .i64 s,.int .i64 br,.int .i64 bs,.int .i64 hr,.int .i64 hs,.bool so,.slice A n c]] w fun e w'=>e= .returned (.bool false)∧Upd [] [] w w':=by
 subst ho
 have eq:=fun w=>(eqBal hr hs 0 0 w).trans (by rw [show ((hr == 0) && (hs == 0))=true by simp [h.1,h.2]])
 clear h
 go_enter Tryz.func121,Tryz.ntmps121
 repeat' (first|go_values|go_skip|go_guarded|go_step|go_upon|(simp only [];go_at_K))
 ((with_reducible refine (netSite f _).mono ?_);rintro e w' ⟨rfl,rfl⟩)
 repeat' (first|go_values|go_skip|go_guarded|go_step|go_upon|(simp only [];go_at_K))
 ((with_reducible refine (netSite t _).mono ?_);rintro e w' ⟨rfl,rfl⟩)
 repeat' (first|go_values|go_skip|go_guarded|go_step|go_upon|(simp only [];go_at_K))
 ((with_reducible refine (ballotMay br bs _).mono ?_);rintro e w1 ⟨rfl,hu1⟩)
 have hX1:=(Blk.new w 32 #[.int .i64 k,.int .i64 f,.int .i64 t,.int .i64 s,.int .i64 br,.int .i64 bs,.int .i64 hr,.int .i64 hs,.bool false,.slice A n c]).upd hu1 (by simp)
 obtain ⟨⟨-,-,-,-,-,-,q61,q71,q81,q91⟩,-⟩:=hX1.c10
 repeat' (first|go_values|go_skip|go_guarded|go_step|go_upon|(simp only [];go_at_K))
 ((with_reducible refine (ballotMay hr hs _).mono ?_);rintro e w2 ⟨rfl,hu2⟩)
 have hX2:=hX1.upd hu2 (by simp)
 obtain ⟨⟨-,-,-,-,-,-,q62,q72,q82,q92⟩,-⟩:=hX2.c10
 repeat' (first|go_values|go_skip|go_guarded|go_step|go_upon|(simp only [];go_at_K))
 go_ret
 exact ⟨rfl,((((Upd.refl _ _).alloc _).trans hu1).trans hu2)⟩
theorem netMay_yes1 (k f t s br bs hr hs:Int) (so:Bool) (A:Option Addr) (n c:Nat) (w:World) (k1:1≤k) (k8:k≤8) (hf:siteB f=true) (ht:siteB t=true) (s0:0≤s) (s1:s < 4096) (hn:(n:Int)≤2048) (hb:balB br bs=true) (hh:balB hr hs=true) (ho:so=true) :
  Calls Tryz.prog 121 #[.agg #[.int .i64 k,.int .i64 f,.int .i64 t,.int .i64 s,.int .i64 br,.int .i64 bs,.int .i64 hr,.int .i64 hs,.bool so,.slice A n c]] w fun e w'=>e= .returned (.bool true)∧Upd [] [] w w':=by
 subst ho
 go_enter Tryz.func121,Tryz.ntmps121
 repeat' (first|go_values|go_skip|go_guarded|go_step|go_upon|(simp only [];go_at_K))
 ((with_reducible refine (netSite f _).mono ?_);rintro e w' ⟨rfl,rfl⟩)
 repeat' (first|go_values|go_skip|go_guarded|go_step|go_upon|(simp only [];go_at_K))
 ((with_reducible refine (netSite t _).mono ?_);rintro e w' ⟨rfl,rfl⟩)
 repeat' (first|go_values|go_skip|go_guarded|go_step|go_upon|(simp only [];go_at_K))
 ((with_reducible refine (ballotMay br bs _).mono ?_);rintro e w1 ⟨rfl,hu1⟩)
 have hX1:=(Blk.new w 32 #[.int .i64 k,.int .i64 f,.int .i64 t,.int .i64 s,.int .i64 br,.int .i64 bs,.int .i64 hr,.int .i64 hs,.bool true,.slice A n c]).upd hu1 (by simp)
 obtain ⟨⟨-,-,-,-,-,-,q61,q71,q81,q91⟩,-⟩:=hX1.c10
 repeat' (first|go_values|go_skip|go_guarded|go_step|go_upon|(simp only [];go_at_K))
 ((with_reducible refine (ballotMay hr hs _).mono ?_);rintro e w2 ⟨rfl,hu2⟩)
 have hX2:=hX1.upd hu2 (by simp)
 obtain ⟨⟨-,-,-,-,-,-,q62,q72,q82,q92⟩,-⟩:=hX2.c10
 repeat' (first|go_values|go_skip|go_guarded|go_step|go_upon|(simp only [];go_at_K))
 go_ret
 exact ⟨rfl,((((Upd.refl _ _).alloc _).trans hu1).trans hu2)⟩
theorem netMay_yes2 (k f t s br bs hr hs:Int) (so:Bool) (A:Option Addr) (n c:Nat) (w:World) (k1:1≤k) (k8:k≤8) (hf:siteB f=true) (ht:siteB t=true) (s0:0≤s) (s1:s < 4096) (hn:(n:Int)≤2048) (hb:balB br bs=true) (hh:balB hr hs=true) (ho:so=false) (h:hr=0∧hs=0) (h0:((n:Int) == 0)=true) :
  Calls Tryz.prog 121 #[.agg #[.int .i64 k,.int .i64 f,.int .i64 t,.int .i64 s,.int .i64 br,.int .i64 bs,.int .i64 hr,.int .i64 hs,.bool so,.slice A n c]] w fun e w'=>e= .returned (.bool true)∧Upd [] [] w w':=by
 subst ho
 have eq:=fun w=>(eqBal hr hs 0 0 w).trans (by rw [show ((hr == 0) && (hs == 0))=true by simp [h.1,h.2]])
 clear h
 go_enter Tryz.func121,Tryz.ntmps121
 repeat' (first|go_values|go_skip|go_guarded|go_step|go_upon|(simp only [];go_at_K))
 ((with_reducible refine (netSite f _).mono ?_);rintro e w' ⟨rfl,rfl⟩)
 repeat' (first|go_values|go_skip|go_guarded|go_step|go_upon|(simp only [];go_at_K))
 ((with_reducible refine (netSite t _).mono ?_);rintro e w' ⟨rfl,rfl⟩)
 repeat' (first|go_values|go_skip|go_guarded|go_step|go_upon|(simp only [];go_at_K))
 ((with_reducible refine (ballotMay br bs _).mono ?_);rintro e w1 ⟨rfl,hu1⟩)
 have hX1:=(Blk.new w 32 #[.int .i64 k,.int .i64 f,.int .i64 t,.int .i64 s,.int .i64 br,.int .i64 bs,.int .i64 hr,.int .i64 hs,.bool false,.slice A n c]).upd hu1 (by simp)
 obtain ⟨⟨-,-,-,-,-,-,q61,q71,q81,q91⟩,-⟩:=hX1.c10
 repeat' (first|go_values|go_skip|go_guarded|go_step|go_upon|(simp only [];go_at_K))
 ((with_reducible refine (ballotMay hr hs _).mono ?_);rintro e w2 ⟨rfl,hu2⟩)
 have hX2:=hX1.upd hu2 (by simp)
 obtain ⟨⟨-,-,-,-,-,-,q62,q72,q82,q92⟩,-⟩:=hX2.c10
 repeat' (first|go_values|go_skip|go_guarded|go_step|go_upon|(simp only [];go_at_K))
 go_ret
 exact ⟨rfl,((((Upd.refl _ _).alloc _).trans hu1).trans hu2)⟩
theorem netMay_yes (x:Mv) (w:World) (hr:RdB w x.A x.n x.b) (hm:x.ms.May) :
  Calls Tryz.prog 121 #[x.val] w fun e w'=>e= .returned (.bool true)∧Upd [] [] w w':=by
 have hn:=hr.len
 obtain ⟨h1,h2,h3,h4,h5,h6,h7,h8,h9,h10⟩:=hm
 simp only [Mv.ms] at h1 h2 h3 h4 h5 h6 h7 h8 h9 h10
 rw [Mv.val_eq]
 cases ho:x.so
 ·have h11:(x.hr=0∧x.hs=0)∧x.b.length=0:=by
   rcases h10 with h | h
   ·rw [ho] at h;cases h
   ·exact h
  exact netMay_yes2 _ _ _ _ _ _ _ _ _ _ _ _ w h1.1 h1.2 (siteB_yes h2) (siteB_yes h3) h4.1 (by omega) (by omega) (balB_yes h5 h6) (balB_yes h7 h8) rfl h11.1 (by simp;omega)
 ·exact netMay_yes1 _ _ _ _ _ _ _ _ _ _ _ _ w h1.1 h1.2 (siteB_yes h2) (siteB_yes h3) h4.1 (by omega) (by omega) (balB_yes h5 h6) (balB_yes h7 h8) rfl
theorem netMay_no (x:Mv) (w:World) (hr:RdB w x.A x.n x.b) (hm:¬ x.ms.May) :
  Calls Tryz.prog 121 #[x.val] w fun e w'=>e= .returned (.bool false)∧Upd [] [] w w':=by
 have hn:=hr.len
 have hm:=netMay_cases hm
 simp only [Mv.ms] at hm
 rw [Mv.val_eq]
 rcases hm with h | ⟨⟨k1,k8⟩,h | ⟨hf,h | ⟨ht,h | ⟨⟨s0,s1⟩,h | ⟨hv,h | ⟨hb,h | ⟨hh,ho,h | ⟨h,h0⟩⟩⟩⟩⟩⟩⟩⟩
 ·exact netMay_k _ _ _ _ _ _ _ _ _ _ _ _ w h
 ·exact netMay_f _ _ _ _ _ _ _ _ _ _ _ _ w k1 k8 (siteB_no h)
 ·exact netMay_t _ _ _ _ _ _ _ _ _ _ _ _ w k1 k8 (siteB_yes hf) (siteB_no h)
 ·exact netMay_s _ _ _ _ _ _ _ _ _ _ _ _ w k1 k8 (siteB_yes hf) (siteB_yes ht) h
 ·exact netMay_v _ _ _ _ _ _ _ _ _ _ _ _ w k1 k8 (siteB_yes hf) (siteB_yes ht) s0 s1 (by omega)
 ·exact netMay_b _ _ _ _ _ _ _ _ _ _ _ _ w k1 k8 (siteB_yes hf) (siteB_yes ht) s0 s1 (by omega) (balB_no h)
 ·exact netMay_h _ _ _ _ _ _ _ _ _ _ _ _ w k1 k8 (siteB_yes hf) (siteB_yes ht) s0 s1 (by omega) (balB_yes hb.1 hb.2) (balB_no h)
 ·exact netMay_o _ _ _ _ _ _ _ _ _ _ _ _ w k1 k8 (siteB_yes hf) (siteB_yes ht) s0 s1 (by omega) (balB_yes hb.1 hb.2) (balB_yes hh.1 hh.2) ho h
 ·exact netMay_n _ _ _ _ _ _ _ _ _ _ _ _ w k1 k8 (siteB_yes hf) (siteB_yes ht) s0 s1 (by omega) (balB_yes hb.1 hb.2) (balB_yes hh.1 hh.2) ho h (by simp;omega)
end Go.Proofs.YtijhlbeipglieaaGreat
namespace Go.Proofs.YtijhlbeipglieaaGreat
open Go Go.RowKit Agio
def i64s (l:List Nat):List Value:=l.map fun n:Nat=>.int .i64 (n:Int)
theorem i64s_get (l:List Nat) (k:Nat) (h:k < l.length):(i64s l)[k]? =some (.int .i64 (l[k]:Int)):=by simp [i64s,h]
theorem lebs_take {l:List Nat} {i:Nat} (h:i < l.length):(l.take (i + 1)).flatMap leb=(l.take i).flatMap leb ++ leb l[i]:=by
 rw [List.take_succ_eq_append_getElem h,List.flatMap_append];simp
theorem lebs_take_len {l:List Nat} (hU:∀n∈l,U64 n) (i:Nat):((l.take i).flatMap leb).length≤10 * l.length:=by
 have:=lebs_len (l:=l.take i) fun n hn=>hU n (List.mem_of_mem_take hn)
 have h2:(l.take i).length≤l.length:=by simp;omega
 omega
theorem body_nums {b:List UInt8} {ms:List Int} (h:nums b ms 0=none):body b ms=none:=by unfold body;rw [h]
theorem body_tk {b:List UInt8} {ms:List Int} {l:List Nat} {a:Nat} (h:nums b ms 0=some (l,a)) {v:List UInt8} {k bad:Nat} (ht:tk 2048 (b.drop a)=(v,k,bad)):body b ms=if bad=0∧a + k=b.length then some (l,v) else none:=by
 unfold body;rw [h];simp only [ht]
end Go.Proofs.YtijhlbeipglieaaGreat
namespace Go.Proofs.YtijhlbeipglieaaGreat
open Go.RowKit Agio
def nptrs (M S:Nat):List Addr:=[⟨M,0,none⟩,⟨M,1,none⟩,⟨M,2,none⟩,⟨M,3,none⟩,⟨M,4,none⟩,⟨M,5,none⟩,⟨M,6,none⟩,⟨M,7,none⟩,⟨S,0,none⟩]
def ptrVs (l:List Addr):List Value:=l.map fun a=>.pointer (some a)
theorem nptrs_len (M S:Nat):(nptrs M S).length=9:=rfl
theorem ptrVs_get (l:List Addr) (k:Nat) (h:k < l.length):(ptrVs l)[k]? =some (.pointer (some l[k])):=by simp [ptrVs,h]
theorem nptrs_block {M S:Nat} {a:Addr} (h:a∈nptrs M S):a.block=M∨a.block=S:=by
 simp only [nptrs,List.mem_cons,List.not_mem_nil,or_false] at h
 rcases h with rfl | rfl | rfl | rfl | rfl | rfl | rfl | rfl | rfl <;> simp
theorem Wr.away {w:World} {g:Nat} {A:Option Addr} {k c:Nat} {l:List UInt8} (hw:Wr w g A k c l) {h:Nat} {t:TypeId} {cs:Array Value} (hB:Blk w h t cs) (h1:t≠204) (h2:t≠5):h∉g :: ablk A:=by
 intro hm
 rcases List.mem_cons.1 hm with rfl | hm
 ·exact hB.ne_ hw.blk h1 rfl
 ·exact hw.own.own.ne hB (Ne.symm h2) hm
theorem netEnc1 (p:Addr) (x:Nat) (hx:x≤9223372036854775807) (w:World) (hp:w.cell? p=some (.int .i64 (x:Int))) (g:Nat) (A:Option Addr) (k c:Nat) (l:List UInt8) (hw:Wr w g A k c l) (hl:l.length≤100000000) :
  Calls Tryz.prog 123 #[.pointer (some p),.pointer (some ⟨g,0,none⟩)] w fun e w'=>e= .returned (.bool true)∧∃A' k' c',Wr w' g A' k' c' (l ++ leb x)∧Upd (g :: ablk A) (g :: ablk A') w w':=by
 have hx0:(0:Int)≤(x:Int):=by omega
 have hx1:(x:Int)≤9223372036854775807:=by omega
 have hw64:IntKind.u64.wrap (x:Int)=(x:Int):=by rw [IntKind.wrap_u64];omega
 go_enter Tryz.func123,Tryz.ntmps123
 repeat' (first|go_values|go_skip|go_guarded|go_step|go_upon|(simp only [];go_at_K))
 refine (writerUint (x:Int) w g A k c l (by omega) (by simpa using U64.small (by omega)) hw (by omega)).mono ?_
 rintro e w1 ⟨rfl,A1,k1,c1,hw1,hu1⟩
 rw [Int.toNat_natCast] at hw1
 repeat' (first|go_values|go_skip|go_guarded|go_step|go_upon|(simp only [];go_at_K))
 go_ret
 exact ⟨rfl,A1,k1,c1,hw1,hu1⟩
theorem netThroughE (w:World) (M S g:Nat) (ns:List Nat) (hns:ns.length=9) (hI:∀n∈ns,n≤9223372036854775807)
  (hc:∀(j:Nat) (h:j < 9) (h2:j < ns.length),w.cell? ((nptrs M S)[j]'h)=some (.int .i64 ((ns[j]:Nat):Int))) (A:Option Addr) (k c:Nat) (l:List UInt8) (hw:Wr w g A k c l) (hl:l.length≤1000000) (hM:M∉g :: ablk A) (hS:S∉g :: ablk A) (_hMl:M < w.heap.size) (_hSl:S < w.heap.size) :
  Calls Tryz.prog 122 #[.pointer (some ⟨M,0,none⟩),.pointer (some ⟨S,0,none⟩),.func (.func 123) #[] #[.pointer (some ⟨g,0,none⟩)]] w
   fun e w'=>e= .returned (.bool true)∧∃A' k' c',Wr w' g A' k' c' (l ++ ns.flatMap leb)∧Upd (g :: ablk A) (g :: ablk A') w w':=by
 have hU:∀n∈ns,U64 n:=fun n hn=>U64.small (by have:=hI n hn;omega)
 have hlen:∀i,((ns.take i).flatMap leb).length≤90:=fun i=>by
  have:=lebs_len (l:=ns.take i) fun n hn=>hU n (List.mem_of_mem_take hn)
  have h2:(ns.take i).length≤9:=by rw [List.length_take];omega
  omega
 have HNS:=Lib.hid hns;clear hns
 have HC:=Lib.hid hc;clear hc
 go_enter Tryz.func122,Tryz.ntmps122
 repeat' (first|go_values|go_skip|go_guarded|go_step|go_upon|(simp only [];go_at_K))
 go_still_tail 29,(by kernel_rfl)
 change wpList _ _ _ _ _ w.drew
 repeat' (first|go_values|go_skip|go_guarded|go_step|go_upon|(simp only [];go_at_K))
 have hP:Blk (w.alloc (.cells (ptrVs (nptrs M S)).toArray 207)).drew w.heap.size 207 (ptrVs (nptrs M S)).toArray:=Blk.new _ _ _
 have hw1:Wr (w.alloc (.cells (ptrVs (nptrs M S)).toArray 207)).drew g A k c l:=⟨hw.blk.alloc _,(hw.own.alloc _).drew⟩
 have U1:Upd (g :: ablk A) (g :: ablk A) w (w.alloc (.cells (ptrVs (nptrs M S)).toArray 207)).drew:=((Upd.refl _ _).alloc _).drew
 go_loopw [42] (fun v42 wr=>∃(i:Nat) (A2:Option Addr) (k2 c2:Nat),i≤9∧v42= .int .i64 (i:Int)∧Wr wr g A2 k2 c2 (l ++ (ns.take i).flatMap leb)∧Blk wr w.heap.size 207 (ptrVs (nptrs M S)).toArray∧Upd (g :: ablk A) (g :: ablk A2) w wr)
  (fun v42 _=>9 - (intOf v42).toNat)
 case atStart=>exact ⟨0,A,k,c,by omega,rfl,by rw [List.take_zero,List.flatMap_nil,List.append_nil];exact hw1,hP,U1⟩
 case round=>
  obtain ⟨i,A2,k2,c2,hi,rfl,hw2,hP2,hu⟩:=hrel
  clear hP hw1 U1
  have hli:=hlen i
  by_cases hlt:i < 9
  ·have hin:i < ns.length:=by rw [HNS.out];exact hlt
   have hc:=HC.out i hlt hin
   have hpm:(nptrs M S)[i]'hlt∈nptrs M S:=List.getElem_mem hlt
   have hpb:=nptrs_block hpm
   have hpc:wr.cell? ⟨w.heap.size,i,none⟩=some (.pointer (some ((nptrs M S)[i]'hlt))):=by
    rw [hP2.cell];simpa using ptrVs_get (nptrs M S) i hlt
   have hx:=hI ns[i] (List.getElem_mem hin)
   have HS:=Lib.hid (lebs_take hin)
   generalize (nptrs M S)[i]'hlt=p at *
   generalize ns[i]=x at *
   have hcw:=hu.cell hc (by rcases hpb with h | h <;> rw [h];exact hM;exact hS)
   clear hc hpm hpb
   repeat' ((fail_if_success (with_reducible refine stop_append rfl ?_));first|go_values|go_skip|go_guarded|go_step|go_upon|(simp only [];go_at_K))
   ((with_reducible refine (netEnc1 p x hx wr hcw g A2 k2 c2 _ hw2 (by simp only [List.length_append];omega)).mono ?_);rintro e w3 ⟨rfl,A3,k3,c3,hw3,hu3⟩)
   have hP3:=hP2.upd hu3 (hw2.away hP2 (by decide) (by decide))
   rw [List.append_assoc,←HS.out] at hw3
   repeat' (first|go_values|go_skip|go_guarded|go_step|go_upon|(simp only [];go_at_K))
   exact ⟨⟨i + 1,A3,k3,c3,by omega,rfl,hw3,hP3,hu.trans hu3⟩,by simp [intOf];omega⟩
  ·obtain rfl:i=9:=by omega
   rw [List.take_of_length_le (by rw [HNS.out];omega)] at hw2
   repeat' (first|go_values|go_skip|go_guarded|go_step|go_upon|(simp only [];go_at_K))
   go_ret
   exact ⟨rfl,A2,k2,c2,hw2,hu⟩
end Go.Proofs.YtijhlbeipglieaaGreat
namespace Go.Proofs.YtijhlbeipglieaaGreat
open Go.RowKit Agio
theorem netEncode_no (x:Mv) (w:World) (hr:RdB w x.A x.n x.b) (hm:¬ x.ms.May) :
  Calls Tryz.prog 68 #[x.val] w fun e w'=>e= .returned (.tuple #[.slice none 0 0,.int .i64 1])∧Upd [] [] w w':=by
 have C:=fun w hr=>netMay_no x w hr hm
 have HR:Hid (∀o,RdB (w.alloc o) x.A x.n x.b):=fun o=>hr.alloc o
 rw [Mv.val_eq] at C ⊢
 clear hr hm
 go_enter Tryz.func68,Tryz.ntmps68
 repeat' (first|go_values|go_skip|go_guarded|go_step|go_upon|(simp only [];go_at_K))
 ((with_reducible refine (C _ (HR.out _)).mono ?_);rintro e w1 ⟨rfl,hu1⟩)
 repeat' (first|go_values|go_skip|go_guarded|go_step|go_upon|(simp only [];go_at_K))
 go_ret2
 exact ⟨rfl,((Upd.refl _ _).alloc _).trans hu1⟩
theorem ns_cells {x:Mv} (hm:x.ms.May) {w:World} {M S:Nat} (hM:Blk w M 32 #[.int .i64 x.k,.int .i64 x.f,.int .i64 x.t,.int .i64 x.s,.int .i64 x.br,.int .i64 x.bs,.int .i64 x.hr,.int .i64 x.hs,.bool x.so,.slice x.A x.n x.c]) (hS:Blk w S 3 #[.int .i64 (x.ms.is:Int)]) :
  ∀(j:Nat) (h:j < 9) (h2:j < x.ms.ns.length),w.cell? ((nptrs M S)[j]'h)=some (.int .i64 ((x.ms.ns[j]:Nat):Int)):=by
 have h1:=hm.kind;have h2:=hm.frm;have h3:=hm.to;have h4:=hm.slot;have h5:=hm.bround;have h6:=hm.bsite;have h7:=hm.hround;have h8:=hm.hsite
 simp only [Mv.ms] at h1 h2 h3 h4 h5 h6 h7 h8
 intro j hj hj2
 have:j=0∨j=1∨j=2∨j=3∨j=4∨j=5∨j=6∨j=7∨j=8:=by omega
 rcases this with rfl | rfl | rfl | rfl | rfl | rfl | rfl | rfl | rfl
 ·exact (hM.cell 0).trans (congrArg some (congrArg (Value.int .i64) (show x.k=((x.k.toNat:Nat):Int) by omega)))
 ·exact (hM.cell 1).trans (congrArg some (congrArg (Value.int .i64) (show x.f=((x.f.toNat:Nat):Int) by omega)))
 ·exact (hM.cell 2).trans (congrArg some (congrArg (Value.int .i64) (show x.t=((x.t.toNat:Nat):Int) by omega)))
 ·exact (hM.cell 3).trans (congrArg some (congrArg (Value.int .i64) (show x.s=((x.s.toNat:Nat):Int) by omega)))
 ·exact (hM.cell 4).trans (congrArg some (congrArg (Value.int .i64) (show x.br=((x.br.toNat:Nat):Int) by omega)))
 ·exact (hM.cell 5).trans (congrArg some (congrArg (Value.int .i64) (show x.bs=((x.bs.toNat:Nat):Int) by omega)))
 ·exact (hM.cell 6).trans (congrArg some (congrArg (Value.int .i64) (show x.hr=((x.hr.toNat:Nat):Int) by omega)))
 ·exact (hM.cell 7).trans (congrArg some (congrArg (Value.int .i64) (show x.hs=((x.hs.toNat:Nat):Int) by omega)))
 ·exact hS.cell 0
theorem netEncode (x:Mv) (w:World) (hr:RdB w x.A x.n x.b) (hm:x.ms.May) :
  Calls Tryz.prog 68 #[x.val] w fun e w'=>∃A' k' c',e= .returned (.tuple #[.slice A' k' c',.int .i64 0])∧OwnB 5 w' A' k' c' x.ms.bytes∧Upd [] (ablk A') w w':=by
 have C:=netMay_yes x (w.alloc (.cells #[.int .i64 x.k,.int .i64 x.f,.int .i64 x.t,.int .i64 x.s,.int .i64 x.br,.int .i64 x.bs,.int .i64 x.hr,.int .i64 x.hs,.bool x.so,.slice x.A x.n x.c] 32)) (hr.alloc _) hm
 have HNC:Hid (∀(w:World) (M S:Nat),Blk w M 32 #[.int .i64 x.k,.int .i64 x.f,.int .i64 x.t,.int .i64 x.s,.int .i64 x.br,.int .i64 x.bs,.int .i64 x.hr,.int .i64 x.hs,.bool x.so,.slice x.A x.n x.c]→Blk w S 3 #[.int .i64 (x.ms.is:Int)]→∀(j:Nat) (h:j < 9) (h2:j < x.ms.ns.length),w.cell? ((nptrs M S)[j]'h)=some (.int .i64 ((x.ms.ns[j]:Nat):Int))):=fun w M S h1 h2=>ns_cells hm h1 h2
 have hU:=hm.U
 have hil:x.ms.inside.length≤4096:=by have:=hm.ilen;omega
 have hv:x.b.length≤2048:=hm.val
 have hnl:x.ms.ns.length=9:=rfl
 have HNL:=Lib.hid hnl;clear hnl
 have hns:∀n∈x.ms.ns,n≤9223372036854775807:=by
  have h1:=hm.kind;have h2:=hm.frm;have h3:=hm.to;have h4:=hm.slot;have h5:=hm.bround;have h6:=hm.bsite;have h7:=hm.hround;have h8:=hm.hsite;have h9:=x.ms.is_le
  intro n hn
  simp only [Ms.ns,List.mem_cons,List.not_mem_nil,or_false] at hn
  rcases hn with rfl | rfl | rfl | rfl | rfl | rfl | rfl | rfl | rfl <;> omega
 have HB:Hid (x.ms.inside=x.ms.ns.flatMap leb ++ leb x.b.length ++ x.b):=by unfold Hid Ms.inside bodyB;rw [List.append_assoc];rfl
 have HBY:Hid (x.ms.bytes=put x.ms.inside):=rfl
 have hlb:=lebs_len hU
 have HIS:Hid (∀b,x.so=b→x.ms.is=if b then 1 else 0):=fun b h=>by unfold Ms.is Mv.ms;rw [h]
 have HLT:=Lib.hid hr.lt
 clear hm
 rw [Mv.val_eq] at C ⊢
 go_enter Tryz.func68,Tryz.ntmps68
 repeat' (first|go_values|go_skip|go_guarded|go_step|go_upon|(simp only [];go_at_K))
 ((with_reducible refine C.mono ?_);rintro e w1 ⟨rfl,hu1⟩)
 have hX:=(Blk.new w 32 #[.int .i64 x.k,.int .i64 x.f,.int .i64 x.t,.int .i64 x.s,.int .i64 x.br,.int .i64 x.bs,.int .i64 x.hr,.int .i64 x.hs,.bool x.so,.slice x.A x.n x.c]).upd hu1 (by simp)
 have U1:Upd [] [] w w1:=((Upd.refl _ _).alloc _).trans hu1
 have hlt:=hX.lt
 have q8:=hX.cell 8
 simp only [List.getElem?_toArray,List.getElem?_cons_succ,List.getElem?_cons_zero] at q8
 clear C hu1
 -- the world in which the numbers are laid down
 have hgo:∀W:World,W=(w1.alloc (.cells #[.slice none 0 0] 204)).alloc (.cells #[.int .i64 (x.ms.is:Int)] 3)→
   Wr W w1.heap.size none 0 0 []∧Blk W w.heap.size 32 #[.int .i64 x.k,.int .i64 x.f,.int .i64 x.t,.int .i64 x.s,.int .i64 x.br,.int .i64 x.bs,.int .i64 x.hr,.int .i64 x.hs,.bool x.so,.slice x.A x.n x.c]∧Blk W (w1.heap.size + 1) 3 #[.int .i64 (x.ms.is:Int)]∧Upd [] (w1.heap.size :: ablk none) w W:=by
  rintro W rfl
  refine ⟨⟨(Blk.new _ _ _).alloc _,((OwnB.nil _ _).alloc _).alloc _⟩,(hX.alloc _).alloc _,?_,?_⟩
  ·have:=Blk.new (w1.alloc (.cells #[.slice none 0 0] 204)) 3 #[.int .i64 (x.ms.is:Int)]
   rwa [World.size_alloc] at this
  ·exact ((U1.alloc _).alloc _).gives (by have:=U1.size;simp [ablk];omega)
 have HGO:=Lib.hid hgo;clear hgo hX U1
 cases hso:x.so
 all_goals
  have his:=HIS.out _ hso
  rw [hso] at q8
  simp only [if_true,if_false,Bool.false_eq_true] at his
  repeat' ((fail_if_success (with_reducible refine stop_append rfl ?_));first|go_values|go_skip|go_guarded|go_step|go_upon|(simp only [];go_at_K))
  obtain ⟨hW,hXW,hSW,UW⟩:=HGO.out _ rfl
  clear q8
  rw [his] at hSW
  have hnc:=HNC.out _ _ _ hXW (by rw [his];exact hSW)
  rw [his] at hW hXW UW hnc
  have T:=netThroughE _ w.heap.size (w1.heap.size + 1) w1.heap.size x.ms.ns HNL.out hns hnc none 0 0 [] hW (by simp) (hW.away hXW (by decide) (by decide)) (hW.away hSW (by decide) (by decide)) hXW.lt hSW.lt
  have hfar1:=hW.away hXW (by decide) (by decide)
  clear HGO hSW hnc
  refine T.mono ?_
  rintro e w2 ⟨rfl,A2,k2,c2,hw2,hu2⟩
  rw [List.nil_append] at hw2
  have U2:=UW.trans hu2
  have hX2:=hXW.upd hu2 hfar1
  have q9:=hX2.cell 9
  simp only [List.getElem?_toArray,List.getElem?_cons_succ,List.getElem?_cons_zero] at q9
  clear T hW hXW UW hu2 hfar1
  repeat' (first|go_values|go_skip|go_guarded|go_step|go_upon|(simp only [];go_at_K))
  ((with_reducible refine (writerBytes w2 w1.heap.size A2 k2 c2 _ x.A x.n x.c x.b (hr.upd U2 (by simp)) (fun h0 j hj hm=>by have h1:=HLT.out h0 j hj;exact absurd (U2.fresh j hm) (by simp only [List.not_mem_nil,false_or];omega)) hw2 (by rw [HNL.out] at hlb;omega)).mono ?_);rintro e w3 ⟨rfl,A3,k3,c3,hw3,hu3⟩)
  have U3:=U2.trans hu3
  rw [←HB.out] at hw3
  clear U2 hu3 hw2 hX2 q9
  repeat' (first|go_values|go_skip|go_guarded|go_step|go_upon|(simp only [];go_at_K))
  ((with_reducible refine (writerTold w3 w1.heap.size A3 k3 c3 _ hw3 (by omega)).mono ?_);rintro e w4 ⟨A4,k4,c4,rfl,ho4,hu4⟩)
  have U4:=(U3.gives (b':=[]) (by simp)).trans hu4
  clear U3 hu4
  repeat' (first|go_values|go_skip|go_guarded|go_step|go_upon|(simp only [];go_at_K))
  ((with_reducible refine (framePut w4 A4 k4 c4 _ ho4.rd hil).mono ?_);rintro e w5 ⟨A5,k5,c5,rfl,ho5,hu5⟩)
  rw [←HBY.out] at ho5
  repeat' (first|go_values|go_skip|go_guarded|go_step|go_upon|(simp only [];go_at_K))
  go_ret2
  exact ⟨A5,k5,c5,rfl,ho5,(U4.gives (b':=[]) (by simp)).trans hu5⟩
end Go.Proofs.YtijhlbeipglieaaGreat
