/- Merged: Ballot, Most, Acceptor, Acceptor2, Acceptor3. -/
import Derived.BigRegion
import Derived.Test.YtijhlbeipglieaaGreatPkNet
import Derived.Test.YtijhlbeipglieaaGreatPkMap
set_option linter.all false
set_option maxRecDepth 100000
set_option maxHeartbeats 2000000
namespace Go.Proofs.YtijhlbeipglieaaGreat
open Go.RowKit Agio
def _root_.Agio.Bl.val (b:Bl):Value:=.agg #[.int .i64 b.r,.int .i64 b.s]
theorem cmpNaN (w:World) (a:Int):Calls Tryz.prog 267 #[.int .i64 a] w fun e w'=>e= .returned (.bool false)∧w=w':=by
 have h:=bne_self_eq_false a
 go_enter Tryz.func267,Tryz.ntmps267
 repeat' (first|go_values|go_skip|go_guarded|go_step|go_upon|(simp only [];go_at_K))
 go_ret
 exact ⟨rfl,rfl⟩
theorem cmpCompare (w:World) (a b:Int):Calls Tryz.prog 230 #[.int .i64 a,.int .i64 b] w fun e w'=>e= .returned (.int .i64 (cmpI a b))∧w=w':=by
 have HA:=Lib.hid (cmpI.eq_def a b)
 go_enter Tryz.func230,Tryz.ntmps230
 repeat' (first|go_values|go_skip|go_guarded|go_step|go_upon|(simp only [];go_at_K))
 ((with_reducible refine (cmpNaN _ a).mono ?_);rintro e w1 ⟨rfl,rfl⟩)
 repeat' (first|go_values|go_skip|go_guarded|go_step|go_upon|(simp only [];go_at_K))
 ((with_reducible refine (cmpNaN _ b).mono ?_);rintro e w1 ⟨rfl,rfl⟩)
 by_cases h1:a < b
 ·have d1:decide (a < b)=true:=decide_eq_true h1
  repeat' (first|go_values|go_skip|go_guarded|go_step|go_upon|(simp only [];go_at_K))
  go_ret
  exact ⟨by rw [HA.out,if_pos h1];rfl,rfl⟩
 ·have d1:decide (a < b)=false:=decide_eq_false h1
  by_cases h2:b < a
  ·have d2:decide (b < a)=true:=decide_eq_true h2
   repeat' (first|go_values|go_skip|go_guarded|go_step|go_upon|(simp only [];go_at_K))
   go_ret
   exact ⟨by rw [HA.out,if_neg h1,if_pos h2];rfl,rfl⟩
  ·have d2:decide (b < a)=false:=decide_eq_false h2
   repeat' (first|go_values|go_skip|go_guarded|go_step|go_upon|(simp only [];go_at_K))
   go_ret
   exact ⟨by rw [HA.out,if_neg h1,if_neg h2];rfl,rfl⟩
theorem cmpOr (w:World) (g:Nat) (a b:Int) (hB:Blk w g 3 #[.int .i64 a,.int .i64 b]):Calls Tryz.prog 229 #[.slice (some ⟨g,0,none⟩) 2 2] w fun e w'=>e= .returned (.int .i64 (orI a b))∧w=w':=by
 obtain ⟨⟨q0,q1⟩,-⟩:=hB.c2
 have HA:=Lib.hid (orI.eq_def a b)
 go_enter Tryz.func229,Tryz.ntmps229
 repeat' (first|go_values|go_skip|go_guarded|go_step|go_upon|(simp only [];go_at_K))
 go_loopw [8] (fun v8 wr=>∃i:Nat,i≤2∧v8= .int .i64 (i:Int)∧(0 < i→a=0)∧(1 < i→b=0)∧wr=w) (fun v8 _=>2 - (intOf v8).toNat)
 case atStart=>exact ⟨0,by omega,rfl,by omega,by omega,rfl⟩
 case round=>
  obtain ⟨i,hi,rfl,h1,h2,rfl⟩:=hrel
  rcases (show i=0∨i=1∨i=2 by omega) with rfl | rfl | rfl
  ·clear h1 h2
   by_cases h:a=0
   ·have hb:(a != 0)=false:=by rw [h];rfl
    have H:=Lib.hid h
    clear h
    repeat' (first|go_values|go_skip|go_guarded|go_step|go_upon|(simp only [];go_at_K))
    exact ⟨⟨1,by omega,rfl,fun _=>H.out,by omega,trivial⟩,by simp [intOf]⟩
   ·have hb:(a != 0)=true:=by unfold bne;rw [beq_false_of_ne h];rfl
    have H:=Lib.hid h
    clear h
    repeat' (first|go_values|go_skip|go_guarded|go_step|go_upon|(simp only [];go_at_K))
    go_ret
    exact ⟨by rw [HA.out,if_neg H.out];rfl,rfl⟩
  ·have H1:=Lib.hid (h1 (by omega))
   clear h1 h2
   by_cases h:b=0
   ·have hb:(b != 0)=false:=by rw [h];rfl
    have H:=Lib.hid h
    clear h
    repeat' (first|go_values|go_skip|go_guarded|go_step|go_upon|(simp only [];go_at_K))
    exact ⟨⟨2,by omega,rfl,fun _=>H1.out,fun _=>H.out,trivial⟩,by simp [intOf]⟩
   ·have hb:(b != 0)=true:=by unfold bne;rw [beq_false_of_ne h];rfl
    have H:=Lib.hid h
    clear h
    repeat' (first|go_values|go_skip|go_guarded|go_step|go_upon|(simp only [];go_at_K))
    go_ret
    exact ⟨by rw [HA.out,if_pos H1.out];rfl,rfl⟩
  ·have H1:=Lib.hid (h1 (by omega))
   have H2:=Lib.hid (h2 (by omega))
   clear h1 h2
   repeat' (first|go_values|go_skip|go_guarded|go_step|go_upon|(simp only [];go_at_K))
   go_ret
   exact ⟨by rw [HA.out,if_pos H1.out,H2.out];rfl,rfl⟩
theorem ballotCompare (w:World) (a b:Bl):Calls Tryz.prog 164 #[a.val,b.val] w fun e w'=>e= .returned (.int .i64 (cmpB a b))∧Upd [] [] w w':=by
 have hB1:=Blk.new w 30 #[.int .i64 a.r,.int .i64 a.s]
 have hB2:=Blk.new (w.alloc (.cells #[.int .i64 a.r,.int .i64 a.s] 30)) 30 #[.int .i64 b.r,.int .i64 b.s]
 have hB3:=hB1.alloc (.cells #[.int .i64 b.r,.int .i64 b.s] 30)
 have U0:Upd [] [] w ((w.alloc (.cells #[.int .i64 a.r,.int .i64 a.s] 30)).alloc (.cells #[.int .i64 b.r,.int .i64 b.s] 30)):=((Upd.refl [] w).alloc _).alloc _
 rw [World.size_alloc] at hB2
 obtain ⟨g2,hg2⟩:∃g,w.heap.size=g:=⟨_,rfl⟩
 obtain ⟨g3,hg3⟩:∃g,g2 + 1=g:=⟨_,rfl⟩
 rw [hg2,hg3] at hB2
 rw [hg2] at hB3
 obtain ⟨W,eW⟩:∃V,(w.alloc (.cells #[.int .i64 a.r,.int .i64 a.s] 30)).alloc (.cells #[.int .i64 b.r,.int .i64 b.s] 30)=V:=⟨_,rfl⟩
 rw [eW] at hB2 hB3 U0
 rw [Bl.val,Bl.val]
 have HC:=Lib.hid (cmpB.eq_def a b)
 go_enter Tryz.func164,Tryz.ntmps164
 repeat' (first|go_values|go_skip|go_guarded|go_step|go_upon|(simp only [];go_at_K))
 obtain ⟨⟨q0,q1⟩,-⟩:=hB3.c2
 obtain ⟨⟨r0,r1⟩,-⟩:=hB2.c2
 have UB:Upd [] [] W (W.alloc (.cells #[.int .i64 (cmpI a.r b.r),.int .i64 (cmpI a.s b.s)] 3)).drew:=((Upd.refl [] W).alloc _).drew
 have hN:=(Blk.new W 3 #[.int .i64 (cmpI a.r b.r),.int .i64 (cmpI a.s b.s)]).drew
 have CO:=cmpOr _ W.heap.size _ _ hN
 clear hB2 hB3 hN eW hg2 hg3
 go_still_tail 10,(by kernel_rfl)
 still_call ((cmpCompare _ _ _).mono fun _ _ ⟨h1,h2⟩=>⟨h1,h2.symm⟩)
 repeat still_step
 still_call ((cmpCompare _ _ _).mono fun _ _ ⟨h1,h2⟩=>⟨h1,h2.symm⟩)
 repeat still_step
 refine wpStill_nil ?_
 change wpList _ _ _ _ _ W.drew
 repeat' (first|go_values|go_skip|go_guarded|go_step|go_upon|(simp only [];go_at_K))
 (with_reducible refine CO.mono ?_)
 rintro e w2 ⟨rfl,rfl⟩
 repeat' (first|go_values|go_skip|go_guarded|go_step|go_upon|(simp only [];go_at_K))
 go_ret
 exact ⟨by rw [HC.out];rfl,U0.trans UB⟩
theorem blSite (w:World) (s n:Int):Calls Tryz.prog 251 #[.int .i64 s,.int .i64 n] w fun e w'=>e= .returned (.bool (isSite s n))∧w=w':=by
 have HA:=Lib.hid (isSite.eq_def s n)
 go_enter Tryz.func251,Tryz.ntmps251
 by_cases h1:0≤s
 ·have d1:decide (0≤s)=true:=decide_eq_true h1
  repeat' (first|go_values|go_skip|go_guarded|go_step|go_upon|(simp only [];go_at_K))
  go_ret
  exact ⟨by rw [HA.out,d1];rfl,rfl⟩
 ·have d1:decide (0≤s)=false:=decide_eq_false h1
  repeat' (first|go_values|go_skip|go_guarded|go_step|go_upon|(simp only [];go_at_K))
  go_ret
  exact ⟨by rw [HA.out,d1];rfl,rfl⟩
theorem ballotMajor (w:World) (n:Int) (hn:n < 4611686018427387904):Calls Tryz.prog 296 #[.int .i64 n] w fun e w'=>e= .returned (.int .i64 (majorI n))∧w=w':=by
 have HA:=Lib.hid (majorI.eq_def n)
 go_enter Tryz.func296,Tryz.ntmps296
 by_cases h1:n < 1
 ·have d1:decide (n < 1)=true:=decide_eq_true h1
  repeat' (first|go_values|go_skip|go_guarded|go_step|go_upon|(simp only [];go_at_K))
  go_ret
  exact ⟨by rw [HA.out,if_pos h1];rfl,rfl⟩
 ·have d1:decide (n < 1)=false:=decide_eq_false h1
  repeat' (first|go_values|go_skip|go_guarded|go_step|go_upon|(simp only [];go_at_K))
  go_ret
  exact ⟨by rw [HA.out,if_neg h1];rfl,rfl⟩
theorem ballotNext (w:World) (b:Bl) (s:Int):Calls Tryz.prog 165 #[b.val,.int .i64 s] w fun e w'=>e= .returned (b.next s).val∧Upd [] [] w w':=by
 rw [Bl.val,Bl.val]
 have HA:=Lib.hid (Bl.next.eq_def b s)
 go_enter Tryz.func165,Tryz.ntmps165
 by_cases h1:b.r < 0
 ·have d1:decide (b.r < 0)=true:=decide_eq_true h1
  repeat' (first|go_values|go_skip|go_guarded|go_step|go_upon|(simp only [];go_at_K))
  exact bodyPost_ret (v:=.agg #[.int .i64 1,.int .i64 s]) (by simp [results,Tryz.results165,go_sem]) rfl ⟨by rw [HA.out,if_pos h1],(((Upd.refl [] w).alloc _).alloc _)⟩
 ·have d1:decide (b.r < 0)=false:=decide_eq_false h1
  by_cases h2:b.r < 1099511627776
  ·have d2:decide (b.r < 1099511627776)=true:=decide_eq_true h2
   repeat' (first|go_values|go_skip|go_guarded|go_step|go_upon|(simp only [];go_at_K))
   exact bodyPost_ret (v:=.agg #[.int .i64 (b.r + 1),.int .i64 s]) (by simp [results,Tryz.results165,go_sem]) rfl ⟨by rw [HA.out,if_neg h1,if_pos h2],(((Upd.refl [] w).alloc _).alloc _)⟩
  ·have d2:decide (b.r < 1099511627776)=false:=decide_eq_false h2
   repeat' (first|go_values|go_skip|go_guarded|go_step|go_upon|(simp only [];go_at_K))
   exact bodyPost_ret (v:=.agg #[.int .i64 1099511627776,.int .i64 s]) (by simp [results,Tryz.results165,go_sem]) rfl ⟨by rw [HA.out,if_neg h1,if_neg h2],(((Upd.refl [] w).alloc _).alloc _)⟩
end Go.Proofs.YtijhlbeipglieaaGreat
namespace Agio
open Go
def voters (l:List Int) (n:Int):KV:=l.foldl (fun M s=>if isSite s n then putK s (.agg #[]) M else M) []
def mostI (l:List Int) (n:Int):Bool:=if n < 1 then false else decide (majorI n≤((voters l n).length:Int))
theorem voters_snoc (l:List Int) (x n:Int):voters (l ++ [x]) n=if isSite x n then putK x (.agg #[]) (voters l n) else voters l n:=by
 unfold voters;rw [List.foldl_append];rfl
theorem insK_len (e:Int × Value) (M:KV):(insK e M).length=M.length + 1:=by rw [(insK_perm e M).length_eq];rfl
theorem putK_len (x:Int) (v:Value) (M:KV):(putK x v M).length≤M.length + 1:=by
 unfold putK;rw [insK_len];unfold delK;have:=List.length_filter_le (fun p:Int × Value=>!decide (p.1=x)) M;omega
theorem voters_len (l:List Int) (n:Int):(voters l n).length≤l.length:=by
 have key:∀(l:List Int) (M:KV),(l.foldl (fun M s=>if isSite s n then putK s (.agg #[]) M else M) M).length≤M.length + l.length:=by
  intro l
  induction l with
  | nil=>intro M;exact Nat.le_refl _
  | cons x l ih=>
   intro M
   rw [List.foldl_cons,List.length_cons]
   refine Nat.le_trans (ih _) ?_
   split
   ·have:=putK_len x (.agg #[]) M;omega
   ·omega
 have:=key l []
 simpa [voters] using this
end Agio
namespace Go.Proofs.YtijhlbeipglieaaGreat
open Go.RowKit Agio Go.Maps
theorem wfI {x:Int} (h0: -9223372036854775808≤x) (h1:x≤9223372036854775807):(Lit.int .i64 x).wf=true:=by
 have e1:IntKind.i64.min= -9223372036854775808:=by decide
 have e2:IntKind.i64.max=9223372036854775807:=by decide
 simp only [Lit.wf,e1,e2,Bool.and_eq_true,decide_eq_true_eq];omega
theorem ballotMost (w:World) (A:Option Addr) (c:Nat) (l:List Int) (n:Int) (hn:n≤1000) (ha:Rd w 1 A l.length (l.map (Value.int .i64))) (hl:l.length≤1099511627776) :
  Calls Tryz.prog 278 #[.slice A l.length c,.int .i64 n] w fun e w'=>e= .returned (.bool (mostI l n))∧Upd [] [] w w':=by
 have HA:=Lib.hid (mostI.eq_def l n)
 go_enter Tryz.func278,Tryz.ntmps278
 by_cases h1:n < 1
 ·have d1:decide (n < 1)=true:=decide_eq_true h1
  clear ha
  repeat' (first|go_values|go_skip|go_guarded|go_step|go_upon|(simp only [];go_at_K))
  go_ret
  exact ⟨by rw [HA.out,if_pos h1];rfl,Upd.refl _ _⟩
 have d1:decide (n < 1)=false:=decide_eq_false h1
 have hmm:=@run_makeMap Tryz.prog
 have m0:=MapI.made Tryz.prog 3 w
 have U0:Upd [] [w.heap.size] w (w.alloc (.map #[] 0)):=((Upd.refl [] w).alloc _).gives (by simp)
 have e0:voters (l.take 0) n= []:=rfl
 repeat' (first|go_values|go_skip|go_guarded|go_step|go_upon|(simp only [];go_at_K))
 go_loopw [13] (fun v13 wr=>∃i:Nat,i≤l.length∧v13= .int .i64 (i:Int)∧MapI Tryz.prog 3 wr w.heap.size (voters (l.take i) n)∧Upd [] [w.heap.size] w wr) (fun v13 _=>l.length - (intOf v13).toNat)
 case atStart=>exact ⟨0,by omega,rfl,m0,U0⟩
 case round=>
  obtain ⟨i,hi,rfl,hm,U⟩:=hrel
  by_cases hlt:i < l.length
  ·have hil:(i:Int) < (l.length:Int):=by omega
   have hw1:IntKind.i64.wrap ((i:Int) + 1)=(i:Int) + 1:=by rw [IntKind.wrap_i64];omega
   obtain ⟨ad,u,hA,hu,hc⟩:=(ha.upd U (by simp)).at_ hlt
   subst hA
   rw [List.getElem?_map,List.getElem?_eq_getElem hlt,Option.map_some,Option.some.injEq] at hu
   subst hu
   have hv:voters (l.take (i + 1)) n=if isSite l[i] n then putK l[i] (.agg #[]) (voters (l.take i) n) else voters (l.take i) n:=by
    rw [List.take_succ_eq_append_getElem hlt,voters_snoc]
   have hln:=voters_len (l.take i) n
   rw [List.length_take] at hln
   have HV:=Lib.hid hv
   clear ha hv e0 m0 U0
   generalize l[i]=y at *
   have C:=blSite wr y n
   have hy:isSite y n=true→(Lit.int .i64 y).wf=true:=fun h=>by
    simp only [isSite,Bool.and_eq_true,decide_eq_true_eq] at h
    exact wfI (by omega) (by omega)
   have HY:=Lib.hid hy
   clear hy
   repeat' (first|go_values|go_skip|go_guarded|go_step|go_upon|(simp only [];go_at_K))
   ((with_reducible refine C.mono ?_);rintro e w2 ⟨rfl,rfl⟩)
   clear C
   cases hs:isSite y n with
   | false=>
    repeat' (first|go_values|go_skip|go_guarded|go_step|go_upon|(simp only [];go_at_K))
    exact ⟨⟨i + 1,by omega,by simp,by rw [HV.out,hs];exact hm,U⟩,by simp [intOf];omega⟩
   | true=>
    have hk:=HY.out hs
    obtain ⟨w3,hrun,hm3,U3⟩:=hm.store Tryz.underlying3 Tryz.underlying390 (by unfold maxLen;omega) hk (.agg #[])
    have U4:=U.trans U3
    repeat' (first|go_values|go_skip|go_guarded|go_step|go_upon|(simp only [];go_at_K))
    exact ⟨⟨i + 1,by omega,by simp,by rw [HV.out,hs];exact hm3,U4⟩,by simp [intOf];omega⟩
  ·obtain rfl:i=l.length:=by omega
   have hil:¬ ((l.length:Int) < (l.length:Int)):=by omega
   have hm1:MapI Tryz.prog 3 wr w.heap.size (voters l n):=by rw [List.take_length] at hm;exact hm
   have hL:=hm1.len Tryz.underlying390 3
   have C:=ballotMajor wr n (by omega)
   clear ha e0 m0 U0 hm hm1 hmm
   generalize ((voters l n).length:Int)=q at *
   repeat' (first|go_values|go_skip|go_guarded|go_step|go_upon|(simp only [];go_at_K))
   ((with_reducible refine C.mono ?_);rintro e w2 ⟨rfl,rfl⟩)
   clear C
   repeat' (first|go_values|go_skip|go_guarded|go_step|go_upon|(simp only [];go_at_K))
   go_ret
   exact ⟨by rw [HA.out,if_neg h1];rfl,U.gives (by simp)⟩
end Go.Proofs.YtijhlbeipglieaaGreat
namespace Agio
open Go
structure Sta where
 p:Bl
 so:Bool
 at_:Bl
 A:Option Addr
 n:Nat
 c:Nat
 b:List UInt8
def Sta.val (x:Sta):Value:=.agg #[.int .i64 x.p.r,.int .i64 x.p.s,.bool x.so,.int .i64 x.at_.r,.int .i64 x.at_.s,.slice x.A x.n x.c]
def Sta.cells (x:Sta):List Value:=[.int .i64 x.p.r,.int .i64 x.p.s,.bool x.so,.int .i64 x.at_.r,.int .i64 x.at_.s,.slice x.A x.n x.c]
end Agio
namespace Go.Proofs.YtijhlbeipglieaaGreat
open Go.RowKit Agio
theorem accBelow (w:World) (x:Sta):Calls Tryz.prog 188 #[x.val] w fun e w'=>w'=w.alloc (.cells x.cells.toArray 37)∧e= .returned (.func (.func 246) #[] #[.pointer (some ⟨w.heap.size,0,none⟩)]):=by
 rw [Sta.val,Sta.cells]
 go_enter Tryz.func188,Tryz.ntmps188
 repeat' (first|go_values|go_skip|go_guarded|go_step|go_upon|(simp only [];go_at_K))
 go_ret
 exact ⟨rfl,rfl⟩
theorem accBelow1 (w:World) (g:Nat) (x:Sta) (b:Bl) (hB:Blk w g 37 x.cells.toArray):Calls Tryz.prog 246 #[b.val,.pointer (some ⟨g,0,none⟩)] w fun e w'=>e= .returned (.bool (decide (cmpB b x.p < 0)))∧Upd [] [] w w':=by
 rw [Bl.val]
 have q0:=hB.cell 0
 have q1:=hB.cell 1
 simp only [Sta.cells,List.getElem?_toArray,List.getElem?_cons_zero,List.getElem?_cons_succ] at q0 q1
 have p0:=((Upd.refl [] w).alloc (.cells #[.int .i64 b.r,.int .i64 b.s] 30)).cell q0 (by simp)
 have p1:=((Upd.refl [] w).alloc (.cells #[.int .i64 b.r,.int .i64 b.s] 30)).cell q1 (by simp)
 have U:=((Upd.refl [] w).alloc (.cells #[.int .i64 b.r,.int .i64 b.s] 30))
 have C:=ballotCompare (w.alloc (.cells #[.int .i64 b.r,.int .i64 b.s] 30)) b x.p
 rw [Bl.val,Bl.val] at C
 clear hB q0 q1
 go_enter Tryz.func246,Tryz.ntmps246
 repeat' (first|go_values|go_skip|go_guarded|go_step|go_upon|(simp only [];go_at_K))
 (with_reducible refine C.mono ?_)
 rintro e w2 ⟨rfl,hu⟩
 have U2:=U.trans hu
 repeat' (first|go_values|go_skip|go_guarded|go_step|go_upon|(simp only [];go_at_K))
 go_ret
 exact ⟨rfl,U2⟩
def prepS (x:Sta) (b:Bl):Option Bl:=if b.r < 1∨cmpB b x.p < 0 then none else some b
theorem accPrepare (w:World) (x:Sta) (b:Bl) (hx:RdB w x.A x.n x.b) (hl:x.b.length≤140737488355328) :
  Calls Tryz.prog 231 #[x.val,b.val] w fun e w'=>∃A n c,OwnB 5 w' A n c x.b∧Upd [] (ablk A) w w'∧
   e= .returned (.tuple #[({x with p:=(prepS x b).getD x.p,A:=A,n:=n,c:=c} :Sta).val,.bool (prepS x b).isSome]):=by
 have HP:=Lib.hid (prepS.eq_def x b)
 obtain ⟨W,g1,g2,g3,eW,h1,h2,h3,hB1,hB2,hB3,U0⟩:=boxes3 w 37 30 37 #[.int .i64 x.p.r,.int .i64 x.p.s,.bool x.so,.int .i64 x.at_.r,.int .i64 x.at_.s,.slice x.A x.n x.c] #[.int .i64 b.r,.int .i64 b.s] #[.int .i64 0,.int .i64 0,.bool false,.int .i64 0,.int .i64 0,.slice none 0 0]
 have hx1:RdB W x.A x.n x.b:=hx.upd U0 (by simp)
 have HP:=Lib.hid (prepS.eq_def x b)
 rw [Sta.val,Bl.val]
 simp only [Sta.val]
 generalize prepS x b=res at *
 have C1:=bytesClone W x.A x.n x.c x.b hx1 hl
 have hs1:=hB1.lt
 have hs2:=hB2.lt
 have hs3:=hB3.lt
 go_enter Tryz.func231,Tryz.ntmps231
 obtain ⟨⟨a0,a1,a2,a3,a4,a5⟩,f0,f1,f2,f3,f4,f5⟩:=hB1.c6
 repeat' (first|go_values|go_skip|go_guarded|go_step|go_upon|(simp only [];go_at_K))
 clear a0 a1 a2 a3 a4 a5 f0 f1 f2 f3 f4 f5
 ((with_reducible refine C1.mono ?_);rintro e W1 ⟨A,n,c,rfl,ho,hu1⟩)
 have K1:=hB1.upd hu1 (by simp)
 have K2:=hB2.upd hu1 (by simp)
 have K3:=hB3.upd hu1 (by simp)
 have hA:=U0.new hu1
 have U1:=U0.old hu1
 have hAW:=(Upd.refl [] W).new hu1
 clear hB1 hB2 hB3 U0 hx1 C1
 obtain ⟨⟨a0,a1,a2,a3,a4,a5⟩,f0,f1,f2,f3,f4,f5⟩:=K1.c6
 have J1:Blk (W1.setCell ⟨g1,5,none⟩ (.slice A n c)) g1 37 #[.int .i64 x.p.r,.int .i64 x.p.s,.bool x.so,.int .i64 x.at_.r,.int .i64 x.at_.s,.slice A n c]:=K1.set_ 5 (.slice A n c)
 have J2:=K2.far (p:=⟨g1,5,none⟩) (by show g2≠g1;omega) (.slice A n c)
 have J3:=K3.far (p:=⟨g1,5,none⟩) (by show g3≠g1;omega) (.slice A n c)
 have U2:=U1.setCell (p:=⟨g1,5,none⟩) (.inr (by show w.heap.size≤g1;omega)) (.slice A n c)
 have ho2:=ho.upd ((Upd.refl [g1] W1).setCell (p:=⟨g1,5,none⟩) (.inl (by simp)) (.slice A n c)) (fun k hk=>by have:=(Upd.refl [] W).new hu1 k hk;simp;omega)
 clear K1 K2 K3 U1 ho hu1
 repeat' (first|go_values|go_skip|go_guarded|go_step|go_upon|(simp only [];go_at_K))
 clear a0 a1 a2 a3 a4 a5 f0 f1 f2 f3 f4 f5
 generalize W1.setCell ⟨g1,5,none⟩ (.slice A n c)=W2 at *
 have C2:=accBelow W2 ⟨x.p,x.so,x.at_,A,n,c,x.b⟩
 simp only [Sta.val] at C2
 ((with_reducible refine C2.mono ?_);rintro e W3 ⟨e3,rfl⟩)
 obtain ⟨g4,h4⟩:∃g,W2.heap.size=g:=⟨_,rfl⟩
 have L4:Blk W3 g4 37 #[.int .i64 x.p.r,.int .i64 x.p.s,.bool x.so,.int .i64 x.at_.r,.int .i64 x.at_.s,.slice A n c]:=by rw [e3,←h4];exact Blk.new _ _ _
 have U23:Upd [] [] W2 W3:=by rw [e3];exact (Upd.refl _ _).alloc _
 have L1:=J1.upd U23 (by simp)
 have L2:=J2.upd U23 (by simp)
 have L3:=J3.upd U23 (by simp)
 have ho3:=ho2.upd U23 (by simp)
 have U3:=U2.trans (U23.up _)
 rw [h4]
 have hs4:=L4.lt
 have h14:g4≠g1:=by have:=J1.lt;omega
 have h34:g4≠g3:=by have:=J3.lt;omega
 clear C2 J1 J2 J3 ho2 U2 U23 e3 h4
 obtain ⟨⟨a0,a1,a2,a3,a4,a5⟩,f0,f1,f2,f3,f4,f5⟩:=L1.c6
 obtain ⟨⟨b0,b1⟩,-⟩:=L2.c2
 obtain ⟨⟨c0,c1,c2,c3,c4,c5⟩,l0,l1,l2,l3,l4,l5⟩:=L3.c6
 by_cases hr:b.r < 1
 ·have d1:decide (b.r < 1)=true:=decide_eq_true hr
  have M3:=blk_set6 L3 (.int .i64 x.p.r) (.int .i64 x.p.s) (.bool x.so) (.int .i64 x.at_.r) (.int .i64 x.at_.s) (.slice A n c)
  have u4:=upd_set6 W3 g3 (.int .i64 x.p.r) (.int .i64 x.p.s) (.bool x.so) (.int .i64 x.at_.r) (.int .i64 x.at_.s) (.slice A n c)
  have U4:=U3.own (by omega) u4
  have ho4:=ho3.upd u4 (fun k hk=>by have:=hAW k hk;simp;omega)
  repeat' (first|go_values|go_skip|go_guarded|go_step|go_upon|(simp only [];go_at_K))
  generalize hW:World.setCell _ _ _=W4
  rw [set6,hW] at M3 U4 ho4
  clear hW u4
  obtain ⟨⟨z0,z1,z2,z3,z4,z5⟩,-⟩:=M3.c6
  have HR:=HP.out
  rw [if_pos (.inl hr)] at HR
  subst HR
  exact bodyPost_ret (v:=.tuple #[.agg #[.int .i64 x.p.r,.int .i64 x.p.s,.bool x.so,.int .i64 x.at_.r,.int .i64 x.at_.s,.slice A n c],.bool false]) (by simp [results,Tryz.results231,go_sem,z0,z1,z2,z3,z4,z5]) rfl ⟨_,_,_,ho4,U4.gives (fun k hk=>.inr (hA k hk)),rfl⟩
 ·have d1:decide (b.r < 1)=false:=decide_eq_false hr
  have C3:=accBelow1 W3 g4 ⟨x.p,x.so,x.at_,A,n,c,x.b⟩ b L4
  rw [Bl.val] at C3
  repeat' (first|go_values|go_skip|go_guarded|go_step|go_upon|(simp only [];go_at_K))
  clear a0 a1 a2 a3 a4 a5 f0 f1 f2 f3 f4 f5 b0 b1 c0 c1 c2 c3 c4 c5 l0 l1 l2 l3 l4 l5
  ((with_reducible refine C3.mono ?_);rintro e W5 ⟨rfl,hu5⟩)
  have N1:=L1.upd hu5 (by simp)
  have N2:=L2.upd hu5 (by simp)
  have N3:=L3.upd hu5 (by simp)
  have ho5:=ho3.upd hu5 (by simp)
  have U5:=U3.trans (hu5.up _)
  clear C3 L1 L2 L3 L4 ho3 U3 hu5
  obtain ⟨⟨a0,a1,a2,a3,a4,a5⟩,f0,f1,f2,f3,f4,f5⟩:=N1.c6
  obtain ⟨⟨b0,b1⟩,-⟩:=N2.c2
  obtain ⟨⟨c0,c1,c2,c3,c4,c5⟩,l0,l1,l2,l3,l4,l5⟩:=N3.c6
  by_cases hq:cmpB b x.p < 0
  ·have d2:decide (cmpB b x.p < 0)=true:=decide_eq_true hq
   have M3:=blk_set6 N3 (.int .i64 x.p.r) (.int .i64 x.p.s) (.bool x.so) (.int .i64 x.at_.r) (.int .i64 x.at_.s) (.slice A n c)
   have u4:=upd_set6 W5 g3 (.int .i64 x.p.r) (.int .i64 x.p.s) (.bool x.so) (.int .i64 x.at_.r) (.int .i64 x.at_.s) (.slice A n c)
   have U4:=U5.own (by omega) u4
   have ho4:=ho5.upd u4 (fun k hk=>by have:=hAW k hk;simp;omega)
   repeat' (first|go_values|go_skip|go_guarded|go_step|go_upon|(simp only [];go_at_K))
   generalize hW:World.setCell _ _ _=W4
   rw [set6,hW] at M3 U4 ho4
   clear hW u4
   obtain ⟨⟨z0,z1,z2,z3,z4,z5⟩,-⟩:=M3.c6
   have HR:=HP.out
   rw [if_pos (.inr hq)] at HR
   subst HR
   exact bodyPost_ret (v:=.tuple #[.agg #[.int .i64 x.p.r,.int .i64 x.p.s,.bool x.so,.int .i64 x.at_.r,.int .i64 x.at_.s,.slice A n c],.bool false]) (by simp [results,Tryz.results231,go_sem,z0,z1,z2,z3,z4,z5]) rfl ⟨_,_,_,ho4,U4.gives (fun k hk=>.inr (hA k hk)),rfl⟩
  ·have d2:decide (cmpB b x.p < 0)=false:=decide_eq_false hq
   have u6:Upd [g1] [g1] W5 ((W5.setCell ⟨g1,0,none⟩ (.int .i64 b.r)).setCell ⟨g1,1,none⟩ (.int .i64 b.s)):=((Upd.refl [g1] W5).setCell (p:=⟨g1,0,none⟩) (.inl (by simp)) _).setCell (p:=⟨g1,1,none⟩) (.inl (by simp)) _
   have P3:=N3.upd u6 (by simp;omega)
   have U6:=U5.own (by omega) u6
   have ho6:=ho5.upd u6 (fun k hk=>by have:=hAW k hk;simp;omega)
   have M3:=blk_set6 P3 (.int .i64 b.r) (.int .i64 b.s) (.bool x.so) (.int .i64 x.at_.r) (.int .i64 x.at_.s) (.slice A n c)
   have u4:=upd_set6 ((W5.setCell ⟨g1,0,none⟩ (.int .i64 b.r)).setCell ⟨g1,1,none⟩ (.int .i64 b.s)) g3 (.int .i64 b.r) (.int .i64 b.s) (.bool x.so) (.int .i64 x.at_.r) (.int .i64 x.at_.s) (.slice A n c)
   have U4:=U6.own (by omega) u4
   have ho4:=ho6.upd u4 (fun k hk=>by have:=hAW k hk;simp;omega)
   clear u4 u6 U6 P3 ho6 N1 N2 N3 ho5 U5
   repeat' (first|go_values|go_skip|go_guarded|go_step|go_upon|(simp only [];go_at_K))
   generalize hW:World.setCell _ _ _=W4
   rw [set6,hW] at M3 U4 ho4
   clear hW
   obtain ⟨⟨z0,z1,z2,z3,z4,z5⟩,-⟩:=M3.c6
   have HR:=HP.out
   rw [if_neg (by omega)] at HR
   subst HR
   exact bodyPost_ret (v:=.tuple #[.agg #[.int .i64 b.r,.int .i64 b.s,.bool x.so,.int .i64 x.at_.r,.int .i64 x.at_.s,.slice A n c],.bool true]) (by simp [results,Tryz.results231,go_sem,z0,z1,z2,z3,z4,z5]) rfl ⟨_,_,_,ho4,U4.gives (fun k hk=>.inr (hA k hk)),rfl⟩
end Go.Proofs.YtijhlbeipglieaaGreat
namespace Go.Proofs.YtijhlbeipglieaaGreat
open Go.RowKit Agio
def acceptS (x:Sta) (b:Bl):Bool:=!decide (cmpB b x.p < 0)
theorem accAccept (w:World) (x:Sta) (b:Bl) (B:Option Addr) (m d:Nat) (v:List UInt8) (hx:RdB w x.A x.n x.b) (hl:x.b.length≤140737488355328) (hv:RdB w B m v) (hlv:v.length≤140737488355328) :
  Calls Tryz.prog 116 #[x.val,b.val,.slice B m d] w fun e w'=>∃A n c,OwnB 5 w' A n c (if acceptS x b then v else x.b)∧Upd [] (ablk A) w w'∧
   e= .returned (.tuple #[(if acceptS x b then ({p:=b,so:=true,at_:=b,A:=A,n:=n,c:=c,b:=v} :Sta) else {x with A:=A,n:=n,c:=c}).val,.bool (acceptS x b)]):=by
 obtain ⟨W,g1,g2,g3,eW,h1,h2,h3,hB1,hB2,hB3,U0⟩:=boxes3 w 37 30 37 #[.int .i64 x.p.r,.int .i64 x.p.s,.bool x.so,.int .i64 x.at_.r,.int .i64 x.at_.s,.slice x.A x.n x.c] #[.int .i64 b.r,.int .i64 b.s] #[.int .i64 0,.int .i64 0,.bool false,.int .i64 0,.int .i64 0,.slice none 0 0]
 have hx1:RdB W x.A x.n x.b:=hx.upd U0 (by simp)
 have hv1:RdB W B m v:=hv.upd U0 (by simp)
 have HP:=Lib.hid (acceptS.eq_def x b)
 rw [Sta.val,Bl.val]
 simp only [Sta.val]
 generalize acceptS x b=res at *
 have hs1:=hB1.lt
 have hs2:=hB2.lt
 have hs3:=hB3.lt
 go_enter Tryz.func116,Tryz.ntmps116
 obtain ⟨⟨a0,a1,a2,a3,a4,a5⟩,f0,f1,f2,f3,f4,f5⟩:=hB1.c6
 have C2:=accBelow W x
 simp only [Sta.val,Sta.cells] at C2
 repeat' (first|go_values|go_skip|go_guarded|go_step|go_upon|(simp only [];go_at_K))
 clear a0 a1 a2 a3 a4 a5 f0 f1 f2 f3 f4 f5 eW
 ((with_reducible refine C2.mono ?_);rintro e W3 ⟨e3,rfl⟩)
 obtain ⟨g4,h4⟩:∃g,W.heap.size=g:=⟨_,rfl⟩
 have L4:Blk W3 g4 37 x.cells.toArray:=by rw [e3,←h4];exact Blk.new _ _ _
 have U23:Upd [] [] W W3:=by rw [e3];exact (Upd.refl _ _).alloc _
 have hsz:=U23.size
 have L1:=hB1.upd U23 (by simp)
 have L2:=hB2.upd U23 (by simp)
 have L3:=hB3.upd U23 (by simp)
 have hx3:=hx1.upd U23 (by simp)
 have hv3:=hv1.upd U23 (by simp)
 have U3:=U0.trans (U23.up _)
 rw [h4]
 have hs4:=L4.lt
 clear C2 hB1 hB2 hB3 U0 U23 e3 hx1 hv1 hx hv
 obtain ⟨⟨b0,b1⟩,-⟩:=L2.c2
 have C3:=accBelow1 W3 g4 x b L4
 rw [Bl.val] at C3
 repeat' (first|go_values|go_skip|go_guarded|go_step|go_upon|(simp only [];go_at_K))
 clear b0 b1
 ((with_reducible refine C3.mono ?_);rintro e W5 ⟨rfl,hu5⟩)
 have N1:=L1.upd hu5 (by simp)
 have N2:=L2.upd hu5 (by simp)
 have N3:=L3.upd hu5 (by simp)
 have hx5:=hx3.upd hu5 (by simp)
 have hv5:=hv3.upd hu5 (by simp)
 have U5:=U3.trans (hu5.up _)
 have hsz5:=hu5.size
 clear C3 L1 L2 L3 L4 U3 hu5 hx3 hv3
 obtain ⟨⟨a0,a1,a2,a3,a4,a5⟩,f0,f1,f2,f3,f4,f5⟩:=N1.c6
 obtain ⟨⟨b0,b1⟩,-⟩:=N2.c2
 by_cases hq:cmpB b x.p < 0
 ·have d2:decide (cmpB b x.p < 0)=true:=decide_eq_true hq
  obtain rfl:res=false:=by rw [HP.out,d2];rfl
  have C1:=bytesClone W5 x.A x.n x.c x.b hx5 hl
  repeat' (first|go_values|go_skip|go_guarded|go_step|go_upon|(simp only [];go_at_K))
  clear a0 a1 a2 a3 a4 a5 f0 f1 f2 f3 f4 f5 b0 b1
  ((with_reducible refine C1.mono ?_);rintro e W6 ⟨A,n,c,rfl,ho,hu6⟩)
  have K1:=N1.upd hu6 (by simp)
  have K3:=N3.upd hu6 (by simp)
  have hA:=(Upd.refl [] W5).new hu6
  have hAw:=U5.new hu6
  have U6:=(U5.trans (hu6.up _)).gives (b':=ablk A) (fun k hk=>.inr (hAw k hk))
  clear N1 N2 N3 hx5 hv5 U5 hu6 C1
  obtain ⟨⟨a0,a1,a2,a3,a4,a5⟩,f0,f1,f2,f3,f4,f5⟩:=K1.c6
  obtain ⟨⟨c0,c1,c2,c3,c4,c5⟩,l0,l1,l2,l3,l4,l5⟩:=K3.c6
  have u7:=(Upd.refl [g1] W6).setCell (p:=⟨g1,5,none⟩) (.inl (by simp)) (.slice A n c)
  have P3:=K3.upd u7 (by simp;omega)
  have U7:=U6.own (by omega) u7
  have ho7:=ho.upd u7 (fun k hk=>by have:=hA k hk;simp;omega)
  have M3:=blk_set6 P3 (.int .i64 x.p.r) (.int .i64 x.p.s) (.bool x.so) (.int .i64 x.at_.r) (.int .i64 x.at_.s) (.slice A n c)
  have u4:=upd_set6 (W6.setCell ⟨g1,5,none⟩ (.slice A n c)) g3 (.int .i64 x.p.r) (.int .i64 x.p.s) (.bool x.so) (.int .i64 x.at_.r) (.int .i64 x.at_.s) (.slice A n c)
  have U4:=U7.own (by omega) u4
  have ho4:=ho7.upd u4 (fun k hk=>by have:=hA k hk;simp;omega)
  clear u4 u7 U6 U7 P3 ho ho7 K1 K3
  repeat' (first|go_values|go_skip|go_guarded|go_step|go_upon|(simp only [];go_at_K))
  generalize hW:World.setCell _ _ _=W4
  rw [set6,hW] at M3 U4 ho4
  clear hW
  obtain ⟨⟨z0,z1,z2,z3,z4,z5⟩,-⟩:=M3.c6
  exact bodyPost_ret (v:=.tuple #[.agg #[.int .i64 x.p.r,.int .i64 x.p.s,.bool x.so,.int .i64 x.at_.r,.int .i64 x.at_.s,.slice A n c],.bool false]) (by simp [results,Tryz.results116,go_sem,z0,z1,z2,z3,z4,z5]) rfl ⟨_,_,_,ho4,U4,rfl⟩
 ·have d2:decide (cmpB b x.p < 0)=false:=decide_eq_false hq
  obtain rfl:res=true:=by rw [HP.out,d2];rfl
  have C1:=bytesClone W5.drew B m d v hv5 hlv
  repeat' (first|go_values|go_skip|go_guarded|go_step|go_upon|(simp only [];go_at_K))
  have b0d:W5.drew.cell? ⟨g2,0,none⟩=some (.int .i64 b.r):=b0
  have b1d:W5.drew.cell? ⟨g2,1,none⟩=some (.int .i64 b.s):=b1
  have N3d:=N3.drew
  clear a0 a1 a2 a3 a4 a5 f0 f1 f2 f3 f4 f5 b0 b1
  go_region_with (first | (go_at_call 58;(with_reducible refine C1.mono ?_);rintro e W6 ⟨A,n,c,rfl,ho,hu6⟩;have b06:=hu6.cell b0d (by simp);have b16:=hu6.cell b1d (by simp);have K3:=N3d.upd hu6 (by simp);obtain ⟨⟨c0,c1,c2,c3,c4,c5⟩,l0,l1,l2,l3,l4,l5⟩:=K3.c6))
  all_goals
   have hA:=(Upd.refl [] W5.drew).new hu6
   have hAw:=U5.drew.new hu6
   have U6:=(U5.drew.trans (hu6.up _)).gives (b':=ablk A) (fun k hk=>.inr (hAw k hk))
   have hsd:W5.drew.heap.size=W5.heap.size:=rfl
   have M3:=blk_set6 K3 (.int .i64 b.r) (.int .i64 b.s) (.bool true) (.int .i64 b.r) (.int .i64 b.s) (.slice A n c)
   have u4:=upd_set6 W6 g3 (.int .i64 b.r) (.int .i64 b.s) (.bool true) (.int .i64 b.r) (.int .i64 b.s) (.slice A n c)
   have U4:=U6.own (by omega) u4
   have ho4:=ho.upd u4 (fun k hk=>by have:=hA k hk;simp;omega)
   clear u4 U6 ho K3 N1 N2 N3 hx5 hv5 U5 hu6 C1 b0d b1d b06 b16
  all_goals (repeat' (first | go_values | go_skip | go_guarded | go_step | go_upon | (simp only [];go_at_K)))
  all_goals
   generalize hW:World.setCell _ _ _=W4
   rw [set6,hW] at M3 U4 ho4
   clear hW
   obtain ⟨⟨z0,z1,z2,z3,z4,z5⟩,-⟩:=M3.c6
   exact bodyPost_ret (v:=.tuple #[.agg #[.int .i64 b.r,.int .i64 b.s,.bool true,.int .i64 b.r,.int .i64 b.s,.slice A n c],.bool true]) (by simp [results,Tryz.results116,go_sem,z0,z1,z2,z3,z4,z5]) rfl ⟨_,_,_,ho4,U4,rfl⟩
end Go.Proofs.YtijhlbeipglieaaGreat
namespace Go.Proofs.YtijhlbeipglieaaGreat
open Go.RowKit Agio
theorem bytesEqual (w:World) (A B:Option Addr) (n c m d:Nat) (a b:List UInt8) (ha:RdB w A n a) (hb:RdB w B m b) :
  Calls Tryz.prog 101 #[.slice A n c,.slice B m d] w fun e w'=>e= .returned (.bool (a == b))∧w=w':=by
 have s1:=strOf ha c
 have s2:=strOf hb d
 clear ha hb
 go_enter Tryz.func101,Tryz.ntmps101
 repeat' (first|go_values|go_skip|go_guarded|go_step|go_upon|(simp only [];go_at_K))
 go_ret
 exact ⟨rfl,rfl⟩
def _root_.Agio.Sta.same (x y:Sta):Bool:=((x.p.r == y.p.r) && (x.p.s == y.p.s)) && (x.so == y.so) && ((x.at_.r == y.at_.r) && (x.at_.s == y.at_.s)) && (x.b == y.b)
theorem accSame (w:World) (x y:Sta) (hx:RdB w x.A x.n x.b) (hy:RdB w y.A y.n y.b) :
  Calls Tryz.prog 37 #[x.val,y.val] w fun e w'=>e= .returned (.bool (x.same y))∧Upd [] [] w w':=by
 obtain ⟨W,g1,g2,eW,h1,h2,hB1,hB2,U0⟩:=boxes2 w 37 37 #[.int .i64 x.p.r,.int .i64 x.p.s,.bool x.so,.int .i64 x.at_.r,.int .i64 x.at_.s,.slice x.A x.n x.c] #[.int .i64 y.p.r,.int .i64 y.p.s,.bool y.so,.int .i64 y.at_.r,.int .i64 y.at_.s,.slice y.A y.n y.c]
 have C:=bytesEqual W x.A y.A x.n x.c y.n y.c x.b y.b (hx.upd U0 (by simp)) (hy.upd U0 (by simp))
 have U:=U0.gives (b':=[]) (by simp)
 have E1:=eqBal x.p.r x.p.s y.p.r y.p.s
 have E2:=eqBal x.at_.r x.at_.s y.at_.r y.at_.s
 have HP:=Lib.hid (Sta.same.eq_def x y)
 obtain ⟨⟨a0,a1,a2,a3,a4,a5⟩,-⟩:=hB1.c6
 obtain ⟨⟨b0,b1,b2,b3,b4,b5⟩,-⟩:=hB2.c6
 clear hx hy hB1 hB2 U0
 rw [Sta.val,Sta.val]
 generalize x.same y=res at *
 generalize ((x.p.r == y.p.r) && (x.p.s == y.p.s))=q1 at *
 generalize ((x.at_.r == y.at_.r) && (x.at_.s == y.at_.s))=q3 at *
 generalize (x.b == y.b)=q4 at *
 go_enter Tryz.func37,Tryz.ntmps37
 cases q1 with
 | false=>
  repeat' (first|go_values|go_skip|go_guarded|go_step|go_upon|(simp only [];go_at_K))
  go_ret
  exact ⟨by rw [HP.out];rfl,U⟩
 | true=>
  cases hs:(x.so == y.so) with
  | false=>
   rw [hs] at HP
   repeat' (first|go_values|go_skip|go_guarded|go_step|go_upon|(simp only [];go_at_K))
   go_ret
   exact ⟨by rw [HP.out];rfl,U⟩
  | true=>
   rw [hs] at HP
   cases q3 with
   | false=>
    repeat' (first|go_values|go_skip|go_guarded|go_step|go_upon|(simp only [];go_at_K))
    go_ret
    exact ⟨by rw [HP.out];rfl,U⟩
   | true=>
    repeat' (first|go_values|go_skip|go_guarded|go_step|go_upon|(simp only [];go_at_K))
    ((with_reducible refine C.mono ?_);rintro e w2 ⟨rfl,rfl⟩)
    repeat' (first|go_values|go_skip|go_guarded|go_step|go_upon|(simp only [];go_at_K))
    go_ret
    exact ⟨by rw [HP.out];simp,U⟩
end Go.Proofs.YtijhlbeipglieaaGreat
