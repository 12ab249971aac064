/- Merged: In, Alog6, Alog8. -/
import Derived.RangeFuncNested
import Derived.RangeFuncBound
import Derived.RangeFuncCalls
import Derived.RangeFuncLeaves
import Derived.OwnWalkIn
import Derived.TacticsInMore
import Derived.LoopNIn
import Derived.LoopIn
import Derived.Shelf.Abstract
import Derived.Test.YtijhlbeipglieaaGreatPkAlog
set_option linter.all false
set_option maxRecDepth 100000
set_option maxHeartbeats 2000000
namespace Agio
open Go Go.RowKit
theorem wpListIn_app {F:Fence} {N:Nat} {P:Program} (w:World) {ops:Array Oper} {rest:List Oper} {o:Oper} {a:Act} {Q:Exit→Act→World→Prop} (hgd:o.guard=none) (s x:Operand) (t:TypeId)
  (ho:o.op= .call {callee:=.builtin .append,args:=#[s,x],argTypes:=#[t,t]})
  (e:TypeId) {z:Value} {size bytes:Nat} (ht:P.underlying t=some (.slice e)) (hi:(P.info? e).map (fun i=>(i.zero,i.size,i.bytes))=some (some z,size,bytes))
  (hzs:z.cells.size=size) (hsz:0 < size)
  {A0:Option Addr} {n c0:Nat} {xs:List Value} (hown:Own e size w A0 n c0 xs) (hs:a.eval s= .slice A0 n c0)
  {A:Option Addr} {m c:Nat} {news:List Value} (hr:Rd w size A m news) (hx:a.eval x= .slice A m c) (h1:∀u∈news,u.oneCell'=true)
  (h63:n + m≤maxLen) (hbytes:(n + m) * bytes≤140737488355328)
  (h:∀A' c' w',Own e size w' A' (n + m) c' (xs ++ news)→Upd (ablk A0) (ablk A') w w'→wpListIn F N P ops Q rest (a.put o.dst (.slice A' (n + m) c')) w'):wpListIn F N P ops Q (o :: rest) a w:=by
 refine wpListIn_plain hgd fun K hK=>?_
 obtain ⟨A',c',w',hrun,h2,h3⟩:=run_app (P:=P) w t o.type e ht hi hzs hsz A0 n c0 xs hown A m c news hr h1 h63 hbytes
 unfold Oper.wpIn
 refine ⟨?_,?_⟩
 ·simp [Oper.about,ho,resolve,Target.leads,Sem.run_pure]
 ·rw [Oper.semAt_plain F _ _ (by rw [ho];intro c hc';cases hc')]
  simp [execOp,ho,resolve,invoke,builtin,hs,hx,hrun,Result.andThen]
  exact hK _ _ (h A' c' w' h2 h3)
theorem wpListIn_push {F:Fence} {N:Nat} {P:Program} {w:World} {ops:Array Oper} {rest:List Oper} {o:Oper} {a:Act} {Q:Exit→Act→World→Prop} (hgd:o.guard=none) (s x:Operand) (t:TypeId)
  (ho:o.op= .call {callee:=.builtin .append,args:=#[s,x],argTypes:=#[t,t]})
  (e:TypeId) {z:Value} {size bytes:Nat} (ht:P.underlying t=some (.slice e)) (hi:(P.info? e).map (fun i=>(i.zero,i.size,i.bytes))=some (some z,size,bytes))
  (hzs:z.cells.size=size) (hsz:0 < size)
  {A0:Option Addr} {n c0:Nat} {xs:List Value} (hown:Own e size w A0 n c0 xs) (hs:a.eval s= .slice A0 n c0)
  (H:Nat) (hH:H=w.heap.size) {m c:Nat} {news:List Value} (hx:a.eval x= .slice (some ⟨H,0,none⟩) m c) (hl:news.length=m * size) (h1:news.all (·.oneCell')=true)
  (h63:n + m≤maxLen) (hbytes:(n + m) * bytes≤140737488355328)
  (h:∀A' c' w',Own e size w' A' (n + m) c' (xs ++ news)→Upd (ablk A0) (ablk A') w w'→wpListIn F N P ops Q rest (a.put o.dst (.slice A' (n + m) c')) w'):wpListIn F N P ops Q (o :: rest) a (w.alloc (.cells news.toArray e)):=by
 subst hH
 exact wpListIn_app _ hgd s x t ho e ht hi hzs hsz (hown.alloc _) hs (Rd.blk (Blk.new _ _ _) hl) hx (by simpa using h1) h63 hbytes
  fun A' c' w' h2 h3=>h A' c' w' h2 (((Upd.refl (ablk A0) w).alloc _).trans h3)
theorem istop_append {F:Fence} {N:Nat} {P:Program} {ops:Array Oper} {rest:List Oper} {o:Oper} {a:Act} {Q:Exit→Act→World→Prop} {w:World} {x y:Operand} {t t':TypeId}
  (_:o.op= .call {callee:=.builtin .append,args:=#[x,y],argTypes:=#[t,t']}) (h:wpListIn F N P ops Q (o :: rest) a w):wpListIn F N P ops Q (o :: rest) a w:=h
theorem alloc2_new (w:World) (o o':Obj):((w.alloc o).alloc o').heap[w.heap.size + 1]? =some o':=by
 have:=World.alloc_heap_new (w.alloc o) o'
 rwa [World.size_alloc] at this
theorem alloc2_old (w:World) (o o':Obj):((w.alloc o).alloc o').heap[w.heap.size]? =some o:=(Below.heap_alloc _ _ _ (by simp)).trans (World.alloc_heap_new w o)
def lrec (fn:FuncId) (tmps:Array Value) (ps:Array Tmp) (assign body:Code) (D:Nat) (st:LoopState):Obj:=.loop {state:=st,pending:=none,fn:=fn,tmps:=tmps,params:=ps,assign:=assign,body:=body,defers:=D}
theorem range_whole {n:Nat} {P:Program} {g:Operand} {ps:Array Tmp} {assign body:Code} {Q:Exit→Act→World→Prop} {a:Act} {w:World} {gf:Nat} {lb:Array Value}
  (hg:a.eval g= .func (.func gf) #[] lb) (eg:∀args w,(callFunc gf args).run P w= .ok (.enter gf args) w)
  (h:∀fn,CallsIn Fence.wide (n - 1) P gf (#[.func (.yield (w.heap.size + 1)) #[] #[]] ++ lb) ((w.alloc (.deferred (some []))).alloc (lrec fn a.tmps ps assign body w.heap.size .ready))
   (fun e w2=>(∃v,e= .returned v)∧w2.heap[w.heap.size + 1]? =some (lrec fn a.tmps ps assign body w.heap.size .ready)∧
    Q .normal {a with defers:={target:=.collected w.heap.size,args:=#[]} :: a.defers} (w2.putObj (w.heap.size + 1) (lrec fn a.tmps ps assign body w.heap.size .exhausted)))) :
  (Code.rangeFunc g ps assign body).wpIn Fence.wide n P Q a w:=by
 refine wpIn_rangeFunc ?_
 intro fn hfn
 refine ⟨w.heap.size + 1,[{target:=.collected w.heap.size,args:=#[]}],(w.alloc (.deferred (some []))).alloc (lrec fn a.tmps ps assign body w.heap.size .ready),
  {target:=.fn (.func gf) lb,args:=#[.func (.yield (w.heap.size + 1)) #[] #[]]},(w.alloc (.deferred (some []))).alloc (lrec fn a.tmps ps assign body w.heap.size .ready),gf,
    #[.func (.yield (w.heap.size + 1)) #[] #[]] ++ lb, (w.alloc (.deferred (some []))).alloc (lrec fn a.tmps ps assign body w.heap.size .ready), ?_, ?_, fun _ _ => trivial, ?_, fun h => (by cases h), ?_⟩
 ·exact run_enterLoop_outer _ _ _ _ _
 ·simp only [resolve,hg]
  simp [go_sem]
 ·simp [invoke,go_sem,eg]
 ·refine (h fn).mono ?_
  rintro e w2 ⟨⟨v,rfl⟩,hl,hq⟩
  exact ⟨none,_,run_endLoop hl (by simp),hq⟩
theorem yield_round {N:Nat} {P:Program} {l:Nat} {fn:FuncId} {tmps:Array Value} {ps:Array Tmp} {assign body:Code} {D:Nat} {args:Array Value} {W:World} {R:World→Prop}
  (hl:W.heap[l]? =some (lrec fn tmps ps assign body D .ready)) (hps:args.size=ps.size)
  (h:assign.wpIn (Fence.wide.inRound l) N P (Exit.then (fun a1 w1=>w1.heap[l]? =some (lrec fn tmps ps assign body D .ready)∧
    body.wpIn (Fence.wide.inRound l) N P (fun e _ w=>e= .normal∧w.heap[l]? =some (lrec fn tmps ps assign body D .busy)∧R (w.putObj l (lrec fn tmps ps assign body D .ready))) a1 (w1.putObj l (lrec fn tmps ps assign body D .busy))) (fun _ _ _=>False))
   {tmps:=(ps.zip args).foldl (fun t (p,v)=>t.setIfInBounds p v) tmps,defers:=[]} W) :
  YieldAt Fence.wide N P l args W (fun e W'=>e= .returned (.bool true)∧R W'):=by
 refine ⟨fn,_,assign,body,run_yield hl hps,roundIn_of_wpIn trivial (wpIn_mono h ?_)⟩
 intro e a1 w1 he
 cases e with
 | normal=>
  obtain ⟨h1,h2⟩:=he
  refine ⟨_,run_beginRound h1 rfl,wpIn_mono h2 ?_⟩
  rintro e a w ⟨rfl,h3,h4⟩
  exact ⟨_,_,run_endRound none h3,rfl,h4⟩
 | ret=>exact he
 | exit id=>exact he
 | goto t=>exact he
 | panic c=>exact he
 | outgrown=>exact he
end Agio
namespace Go.Proofs.YtijhlbeipglieaaGreat
open Go.RowKit Agio
attribute [local go_sem] Oper.semAt_some
def Foreign (w:World) (fp:List Nat):Prop:=∀k∈fp,∀cs,w.heap[k]?≠some (.cells cs 5 (0,0))∧w.heap[k]?≠some (.cells cs 28 (0,0))
theorem own_foreign {e:TypeId} {size:Nat} {w:World} {A:Option Addr} {n c:Nat} {xs:List Value} {fp:List Nat} (h:Agio.Own e size w A n c xs) (he:e=5∨e=28) (hf:Foreign w fp):∀k∈ablk A,k∉fp:=by
 intro k hk hm
 rcases h.2 with ⟨hv,_⟩ | ⟨g,cap,cur,hv,_,hg,_⟩
 ·injection hv with hA;subst hA;simp [ablk] at hk
 ·injection hv with hA;subst hA
  simp [ablk] at hk;subst hk
  rcases he with rfl | rfl
  ·exact (hf _ hm cur).1 hg
  ·exact (hf _ hm cur).2 hg
theorem OwnL.upd2 {w w':World} {A:Option Addr} {k c:Nat} {l:List Sl} {fp b:List Nat} (h:OwnL w A k c l) (hu:Upd fp b w w') (hf:Foreign w fp):OwnL w' A k c l:=
 ⟨h.len,h.own.upd hu (own_foreign h.own (.inr rfl) hf),fun x hx=>(h.each x hx).upd hu (own_foreign (h.each x hx).own (.inl rfl) hf)⟩
theorem OwnL.at_ {w:World} {A:Option Addr} {k c:Nat} {l:List Sl} (h:OwnL w A k c l) {i:Nat} (hi:i < l.length):∃ad,A=some ad∧w.cell? (ad.add i)=some (.slice l[i].A l[i].k l[i].c):=by
 obtain ⟨ad,u,e,hu,hc⟩:=h.own.rd.at_ (k:=i) (by rw [h.len];exact hi)
 rw [List.getElem?_map,List.getElem?_eq_getElem hi,Option.map_some,Option.some.injEq] at hu
 subst hu
 exact ⟨ad,e,hc⟩
structure Rounds (N l:Nat) (J:List Rv→List Nat→World→Prop):Prop where
 still:∀{pre fp W W' b},J pre fp W→Upd [] b W W'→J pre fp W'
 alien:∀{pre fp W},J pre fp W→Foreign W fp
 turn:∀pre (x:Rv) fp W,J pre fp W→OwnB 5 W x.A x.n x.c x.b→(layB (rcs (pre ++ [x]))).length≤1099511627776→
  YieldAt Fence.wide N Tryz.prog l #[.agg #[.int .i64 x.k,.int .i64 x.s,.int .i64 x.r,.int .i64 x.t,.slice x.A x.n x.c],.int .i64 ((8 + x.rc.bytes.length:Nat):Int)] W fun e W'=>e= .returned (.bool true)∧∃fp',J (pre ++ [x]) fp' W'∧Upd fp fp' W W'
theorem rcs_append (a b:List Rv):rcs (a ++ b)=rcs a ++ rcs b:=List.map_append ..
theorem rdAll_drop_none {xs:List (List UInt8)} {i:Nat} (hi:i < xs.length) (h:decR xs[i]=none):rdAll (xs.drop i)=([],0):=by
 rw [List.drop_eq_getElem_cons hi];simp [rdAll,h]
theorem rdAll_drop_some {xs:List (List UInt8)} {i:Nat} (hi:i < xs.length) {r:Rc} (h:decR xs[i]=some r):rdAll (xs.drop i)=(r :: (rdAll (xs.drop (i + 1))).1,8 + xs[i].length + (rdAll (xs.drop (i + 1))).2):=by
 rw [List.drop_eq_getElem_cons hi];simp [rdAll,h]
theorem scan_le {b x:List UInt8} (h:x∈(scan b).1):x.length + 8≤b.length:=by
 have h1:=(scan_ok b).1
 have h2:=congrArg List.length (scan_ok b).2.1
 obtain ⟨s,t,e⟩:=List.append_of_mem h
 rw [e] at h2
 simp only [List.flatMap_append,List.flatMap_cons,List.length_append,List.length_take,put_len] at h2
 omega
theorem alogRecs (N l:Nat) (w:World) (Bb:Nat) (T:TypeId) (A:Option Addr) (n c:Nat) (b:List UInt8) (hB:Blk w Bb T #[.slice A n c]) (hr:RdB w A n b) (hc:n≤c) (hcm:c≤maxLen) (hb:b.length≤1099511627776)
  (J:List Rv→List Nat→World→Prop) (hJ:Rounds (N - 1) l J) (fp:List Nat) (h0:J [] fp w) :
  CallsIn Fence.wide N Tryz.prog 203 #[.func (.yield l) #[] #[],.pointer (some ⟨Bb,0,none⟩)] w fun e w'=>(∃v,e= .returned v)∧∃xs fp',rcs xs=(readB b).1∧J xs fp' w'∧Upd fp fp' w w':=by
 have q:=hB.cell 0
 simp only [List.getElem?_toArray,List.getElem?_cons_zero] at q
 refine callsIn_of_wp Tryz.func203 rfl trivial ?_
 simp only [Tryz.ntmps203,List.size_toArray,List.length_cons,List.length_nil,Nat.reduceAdd,Nat.reduceSub,Array.replicate_succ,Array.replicate_zero,List.push_toArray,List.append_toArray,List.nil_append,List.cons_append]
 repeat' ((fail_if_success (with_reducible refine istop_append rfl ?_));first|go_values|gi_guarded|gi_step|gi_upon|(simp only [];go_at_K))
 refine ⟨trivial,fun h=>(by cases h),(callsIn_wide.2 (frameScan w A n c b hr hc hcm hb)).mono ?_⟩
 rintro e w1 ⟨A',k',c',L,rfl,hL,hLb,hu1⟩
 have J1:=hJ.still h0 hu1
 have U1:=hu1.up fp
 have hle:∀x∈L,x.b.length≤b.length:=fun x hx=>by have:=scan_le (b:=b) (x:=x.b) (by rw [←hLb];exact List.mem_map.2 ⟨x,hx,rfl⟩);omega
 have hLk:=hL.len
 clear hB hr q h0 hu1 hc hcm
 repeat' ((fail_if_success (with_reducible refine istop_append rfl ?_));first|go_values|gi_guarded|gi_step|gi_upon|(simp only [];go_at_K))
 gi_loopw [16] (fun v16 wr=>∃(i:Nat) (pre:List Rv) (fp':List Nat),i≤L.length∧v16= .int .i64 (i:Int)∧J pre fp' wr∧Upd fp fp' w wr∧OwnL wr A' k' c' L∧
   (readB b).1=rcs pre ++ (rdAll ((L.map Sl.b).drop i)).1∧(readB b).2=(layB (rcs pre)).length + (rdAll ((L.map Sl.b).drop i)).2)
  (fun v16 _=>L.length - (intOf v16).toNat)
 case atStart=>exact ⟨0,[],fp,by omega,rfl,J1,U1,hL,by simp [rcs,readB,hLb],by simp [rcs,layB,readB,hLb]⟩
 case round=>
  clear J1 U1 hL
  obtain ⟨i,pre,fp',hi,rfl,hJp,U,hL,hX,hY⟩:=hrel
  by_cases hlt:i < L.length
  ·obtain ⟨ad,rfl,qc⟩:=hL.at_ hlt
   have hxl:=hle _ (List.getElem_mem hlt)
   have hxo:=hL.each _ (List.getElem_mem hlt)
   have hi2:i < (L.map Sl.b).length:=by simpa using hlt
   have hgb:(L.map Sl.b)[i]=L[i].b:=List.getElem_map ..
   have hN:decR L[i].b=none→rdAll ((L.map Sl.b).drop i)=([],0):=fun h=>rdAll_drop_none hi2 (by rw [hgb];exact h)
   have hS:∀r,decR L[i].b=some r→rdAll ((L.map Sl.b).drop i)=(r :: (rdAll ((L.map Sl.b).drop (i + 1))).1,8 + L[i].b.length + (rdAll ((L.map Sl.b).drop (i + 1))).2):=fun r h=>by
    have:=rdAll_drop_some hi2 (r:=r) (by rw [hgb];exact h)
    rwa [hgb] at this
   have hYb:=(readB_ok b).1
   clear hi2 hgb
   generalize L[i]=x at *
   have HX:=Lib.hid hxo.len
   have HW:Hid (wrap64 ((i:Int) + 1)=(i:Int) + 1):=Lib.hid (by
    have h1:=hL.own.cap
    have h2:=hL.len
    unfold maxLen at h1
    unfold wrap64
    omega)
   have C:=alogDecode wr x.A x.k x.c x.b hxo.rd (by omega)
   generalize rdAll ((L.map Sl.b).drop i)=R at *
   generalize hR2:rdAll ((L.map Sl.b).drop (i + 1))=R2 at *
   have hii:(i:Int) < (L.length:Int):=by omega
   have HL:=Lib.hid hLk
   clear hLk
   repeat' ((fail_if_success (with_reducible refine istop_append rfl ?_));first|go_values|gi_guarded|gi_step|gi_upon|(simp only [];go_at_K))
   refine ⟨trivial,fun h=>(by cases h),(callsIn_wide.2 C).mono ?_⟩
   rintro e w2 ⟨hD,hu2⟩
   have hL2:=hL.upd hu2
   have J2:=hJ.still hJp hu2
   have U2:=U.trans (hu2.up fp')
   clear C hL hJp U hu2 qc
   rcases hD with ⟨hd,rfl⟩ | ⟨y,hd,ho,rfl⟩
   ·rw [hN hd] at hX hY
    clear hN hS
    repeat' ((fail_if_success (with_reducible refine istop_append rfl ?_));first|go_values|gi_guarded|gi_step|gi_upon|(simp only [];go_at_K))
    refine ⟨fun f h=>trivial,?_⟩
    repeat' ((fail_if_success (with_reducible refine istop_append rfl ?_));first|go_values|gi_guarded|gi_step|gi_upon|(simp only [];go_at_K))
    refine bodyPost_ret (results_none rfl _ _ _) rfl ?_
    exact ⟨⟨_,rfl⟩,pre,fp',by rw [hX];simp,hJ.still J2 ((Upd.refl [] w2).alloc _),U2.alloc _⟩
   ·have hR:=hS _ hd
    have hyb:y.rc.bytes=x.b:=(decR_ok hd).2
    rw [hR] at hX hY
    clear hN hS hd hR
    simp only at hX hY
    have hsz:(layB (rcs (pre ++ [y]))).length=(layB (rcs pre)).length + (8 + x.b.length):=by
     rw [rcs_append,layB_append,List.length_append,←hyb];simp [rcs,layB]
    have hT:=hJ.turn pre y fp' (w2.alloc (.cells #[.int .i64 y.k,.int .i64 y.s,.int .i64 y.r,.int .i64 y.t,.slice y.A y.n y.c] 147)) (hJ.still J2 ((Upd.refl [] w2).alloc _)) (ho.alloc _) (by omega)
    rw [show (((8 + y.rc.bytes.length:Nat):Int))=8 + (x.k:Int) by rw [hyb,HX.out];push_cast;rfl] at hT
    obtain ⟨fn,tmps,assign,body,hy,hR⟩:=hT
    have hk1:(x.k:Int)≤1099511627776:=by have:=HX.out;omega
    clear ho hxo
    repeat' ((fail_if_success (with_reducible refine istop_append rfl ?_));first|go_values|gi_guarded|gi_step|gi_upon|(simp only [];go_at_K))
    refine ⟨fun h=>(by cases h),hR.mono ?_⟩
    rintro e w3 ⟨rfl,fp3,J3,hu3⟩
    have hL3:=(hL2.upd ((Upd.refl [] w2).alloc (.cells #[.int .i64 y.k,.int .i64 y.s,.int .i64 y.r,.int .i64 y.t,.slice y.A y.n y.c] 147))).upd2 hu3 (hJ.alien (hJ.still J2 ((Upd.refl [] w2).alloc _)))
    have U3:=(U2.alloc _).trans hu3
    clear hy hR J2 U2 hL2 hu3
    repeat' ((fail_if_success (with_reducible refine istop_append rfl ?_));first|go_values|gi_guarded|gi_step|gi_upon|(simp only [];go_at_K))
    go_roundw
    case rel=>exact ⟨i + 1,pre ++ [y],fp3,by omega,by rw [HW.out];simp,J3,U3,hL3,by rw [hX,hR2,rcs_append];simp [rcs],by rw [hY,hR2,hsz];omega⟩
    case measure=>rw [HW.out];simp [intOf];omega
  ·obtain rfl:i=L.length:=by omega
   have hni:¬ ((L.length:Int) < (L.length:Int)):=by omega
   rw [List.drop_eq_nil_of_le (by simp)] at hX hY
   simp only [rdAll,List.append_nil] at hX
   repeat' ((fail_if_success (with_reducible refine istop_append rfl ?_));first|go_values|gi_guarded|gi_step|gi_upon|(simp only [];go_at_K))
   go_end0
   exact ⟨⟨_,rfl⟩,pre,fp',hX.symm,hJp,U⟩
end Go.Proofs.YtijhlbeipglieaaGreat
namespace Go.Proofs.YtijhlbeipglieaaGreat
open Go.RowKit Agio
attribute [local go_sem] Oper.semAt_some
theorem infoRec:(Tryz.prog.info? 147).map (fun i=>(i.zero,i.size,i.bytes))=some (some (.agg #[.int .i64 0,.int .i64 0,.int .i64 0,.int .i64 0,.slice none 0 0]),5,56):=by kernel_rfl
theorem alogRecords (w:World) (A:Option Addr) (n c:Nat) :
  Calls Tryz.prog 130 #[.slice A n c] w fun e w'=>∃g,e= .returned (.func (.func 203) #[] #[.pointer (some ⟨g,0,none⟩)])∧Blk w' g 28 #[.slice A n c]∧Upd [] [] w w':=by
 go_enter Tryz.func130,Tryz.ntmps130
 repeat' (first|go_values|go_skip|go_guarded|go_step|go_upon|(simp only [];go_at_K))
 go_ret
 exact ⟨_,rfl,Blk.new _ _ _,(Upd.refl _ _).alloc _⟩
structure OwnR (w:World) (A:Option Addr) (k c:Nat) (l:List Rv):Prop where
 len:k=l.length
 own:Agio.Own 147 5 w A k c (l.flatMap Rv.cells)
 each:∀x∈l,OwnB 5 w x.A x.n x.c x.b
theorem OwnR.upd {w w':World} {A:Option Addr} {k c:Nat} {l:List Rv} {a b:List Nat} (h:OwnR w A k c l) (hu:Upd a b w w') (hd:∀j∈ablk A,j∉a) (he:∀x∈l,∀j∈ablk x.A,j∉a):OwnR w' A k c l:=
 ⟨h.len,h.own.upd hu hd,fun x hx=>(h.each x hx).upd hu (he x hx)⟩
theorem OwnR.upd0 {w w':World} {A:Option Addr} {k c:Nat} {l:List Rv} {b:List Nat} (h:OwnR w A k c l) (hu:Upd [] b w w'):OwnR w' A k c l:=h.upd hu (by simp) (by simp)
theorem OwnR.rvs {w:World} {A:Option Addr} {k c:Nat} {l:List Rv} (h:OwnR w A k c l):Rvs w A k l:=⟨⟨h.len,h.own.rd⟩,fun x hx=>(h.each x hx).rd⟩
theorem own_not_obj {e:TypeId} {size:Nat} {w:World} {A:Option Addr} {n c:Nat} {xs:List Value} (h:Agio.Own e size w A n c xs) {g:Nat} {o:Obj} (hg:w.heap[g]? =some o) (ho:o.isCells=false):g∉ablk A:=by
 intro hm
 rcases h.2 with ⟨hv,_⟩ | ⟨g',cap,cur,hv,_,hh,_⟩
 ·injection hv with hA;subst hA;simp [ablk] at hm
 ·injection hv with hA;subst hA
  have:g=g':=by simpa [ablk] using hm
  subst this
  rw [hh] at hg
  injection hg with hg
  subst hg
  cases ho
theorem upd_putObj (w:World) (l:Nat) (o:Obj):Upd [l] [l] w (w.putObj l o):=(Upd.refl [l] w).grown (grownBy_putObj' w l o) (fun k e=>by cases e;exact .inl (by simp))
theorem layB_ge (l:List Rc):8 * l.length≤(layB l).length:=by
 induction l with
 | nil=>simp
 | cons r l ih=>rw [layB_cons,List.length_append,put_len,List.length_cons];omega
structure RJ (Bl Bs L D:Nat) (o:Obj) (pre:List Rv) (fp:List Nat) (W:World):Prop where
 row:∃A k c,fp=Bl :: Bs :: L :: ablk A∧Blk W Bl 141 #[.slice A k c]∧OwnR W A k c pre
 sum:Blk W Bs 3 #[.int .i64 ((layB (rcs pre)).length:Int)]
 loop:W.heap[L]? =some o
 def_:W.heap[D]? =some (.deferred (some []))
theorem RJ.still {Bl Bs L D:Nat} {o:Obj} {pre:List Rv} {fp:List Nat} {W W':World} {b:List Nat} (h:RJ Bl Bs L D o pre fp W) (hu:Upd [] b W W'):RJ Bl Bs L D o pre fp W':=by
 obtain ⟨⟨A,k,c,e,h1,h2⟩,h3,h4,h5⟩:=h
 exact ⟨⟨A,k,c,e,h1.upd hu (by simp),h2.upd0 hu⟩,h3.upd hu (by simp),(hu.block L (Array.getElem?_eq_some_iff.1 h4).1 (by simp)).trans h4,(hu.block D (Array.getElem?_eq_some_iff.1 h5).1 (by simp)).trans h5⟩
theorem RJ.alien {Bl Bs L D:Nat} {o:Obj} {pre:List Rv} {fp:List Nat} {W:World} (ho:o.isCells=false) (h:RJ Bl Bs L D o pre fp W):Foreign W fp:=by
 obtain ⟨⟨A,k,c,e,h1,h2⟩,h3,h4,h5⟩:=h
 subst e
 intro j hj cs
 have key:∀{o':Obj},W.heap[j]? =some o'→(∀cs,o'≠.cells cs 5 (0,0)∧o'≠.cells cs 28 (0,0))→W.heap[j]?≠some (.cells cs 5 (0,0))∧W.heap[j]?≠some (.cells cs 28 (0,0)):=by
  intro o' h1 h2
  rw [h1]
  exact ⟨fun e=>(h2 cs).1 (by injection e),fun e=>(h2 cs).2 (by injection e)⟩
 simp only [List.mem_cons] at hj
 rcases hj with rfl | rfl | rfl | hj
 ·exact key h1 (fun cs=>⟨fun e=>by injection e with _ e;revert e;decide,fun e=>by injection e with _ e;revert e;decide⟩)
 ·exact key h3 (fun cs=>⟨fun e=>by injection e with _ e;revert e;decide,fun e=>by injection e with _ e;revert e;decide⟩)
 ·exact key h4 (fun cs=>⟨fun e=>(by rw [e] at ho;cases ho),fun e=>(by rw [e] at ho;cases ho)⟩)
 ·rcases h2.own.2 with ⟨hv,_⟩ | ⟨g',cap,cur,hv,_,hh,_⟩
  ·injection hv with hA;subst hA;simp [ablk] at hj
  ·injection hv with hA;subst hA
   obtain rfl:j=g':=by simpa [ablk] using hj
   exact key hh (fun cs=>⟨fun e=>by injection e with _ e;revert e;decide,fun e=>by injection e with _ e;revert e;decide⟩)
theorem alogRead_all (w:World) (A:Option Addr) (n c:Nat) (b:List UInt8) (hr:RdB w A n b) (hc:n≤c) (hcm:c≤maxLen) (hb:b.length≤1099511627776) :
  Calls Tryz.prog 72 #[.slice A n c] w fun e w'=>∃A1 k1 c1 xs,e= .returned (.tuple #[.slice A1 k1 c1,.int .i64 (((readB b).2:Nat):Int)])∧rcs xs=(readB b).1∧OwnR w' A1 k1 c1 xs∧Upd [] (ablk A1) w w':=by
 refine (callsIn_wide (n:=3)).1 ?_
 refine callsIn_of_wp_marks Tryz.func72 rfl trivial ?_ rfl
 simp only [Tryz.ntmps72,List.size_toArray,List.length_cons,List.length_nil,Nat.reduceAdd,Nat.reduceSub,Array.replicate_succ,Array.replicate_zero,List.push_toArray,List.append_toArray,List.nil_append,List.cons_append]
 repeat' ((fail_if_success (with_reducible refine istop_append rfl ?_));first|go_values|gi_guarded|gi_step|gi_upon|(simp only [];go_at_K))
 refine ⟨trivial,(callsIn_wide.2 (alogRecords _ A n c)).mono ?_⟩
 have hBl0:Blk ((w.alloc (.cells #[.slice none 0 0] 141)).alloc (.cells #[.int .i64 0] 3)) w.heap.size 141 #[.slice none 0 0]:=(Blk.new w _ _).alloc _
 have hBs0:Blk ((w.alloc (.cells #[.slice none 0 0] 141)).alloc (.cells #[.int .i64 0] 3)) (w.heap.size + 1) 3 #[.int .i64 0]:=by
  have:=Blk.new (w.alloc (.cells #[.slice none 0 0] 141)) 3 #[.int .i64 0]
  rwa [World.size_alloc] at this
 have hU0:Upd [] [] w ((w.alloc (.cells #[.slice none 0 0] 141)).alloc (.cells #[.int .i64 0] 3)):=((Upd.refl [] w).alloc _).alloc _
 have hr0:RdB ((w.alloc (.cells #[.slice none 0 0] 141)).alloc (.cells #[.int .i64 0] 3)) A n b:=(hr.alloc _).alloc _
 generalize (w.alloc (.cells #[.slice none 0 0] 141)).alloc (.cells #[.int .i64 0] 3)=w0 at *
 rintro e w1 ⟨g,rfl,hBb,hu1⟩
 have hBl:=hBl0.upd hu1 (by simp)
 have hBs:=hBs0.upd hu1 (by simp)
 have hr1:=hr0.upd hu1 (by simp)
 have hU1:=hU0.trans hu1
 clear hBl0 hBs0 hr0 hU0 hu1
 repeat' ((fail_if_success (with_reducible refine istop_append rfl ?_));first|go_values|gi_guarded|gi_step|gi_upon|(simp only [];go_at_K))
 refine range_whole rfl (enters_of Tryz.func203 (by kernel_rfl) rfl) fun fn=>?_
 refine (alogRecs 2 (w1.heap.size + 1) _ g 28 A n c b (hBb.alloc _ |>.alloc _) ((hr1.alloc _).alloc _) hc hcm hb (RJ w.heap.size (w.heap.size + 1) (w1.heap.size + 1) w1.heap.size (lrec fn _ _ _ _ _ .ready)) ⟨fun h hu=>h.still hu,fun h=>h.alien rfl,?turn⟩ [w.heap.size,w.heap.size + 1,w1.heap.size + 1] ⟨⟨none,0,0,rfl,(hBl.alloc _).alloc _,⟨rfl,Agio.Own.nil _ _ _,by simp⟩⟩,(hBs.alloc _).alloc _,alloc2_new _ _ _,alloc2_old _ _ _⟩).mono ?rest
 case turn=>
  rintro pre x fp W ⟨⟨A1,k1,c1,rfl,hL,hR⟩,hS,hl,hd⟩ hx hbd
  have hlt1:=hBl.lt
  have hlt2:=hBs.lt
  refine yield_round hl rfl ?_
  clear hU1 hr1 hBb hBl hBs hr hb hc hcm
  have hlL:=(Array.getElem?_eq_some_iff.1 hl).1
  have hnA:=own_not_obj hR.own hl rfl
  have hnx:=own_not_obj hx.own hl rfl
  have hnE:=fun y hy=>own_not_obj (hR.each y hy).own hl rfl
  repeat' ((fail_if_success (with_reducible refine istop_append rfl ?_));first|go_values|gi_guarded|gi_step|gi_upon|(simp only [];go_at_K))
  refine ⟨(Below.heap_alloc _ _ _ hlL).trans hl,?_⟩
  generalize hW2:World.putObj (World.alloc W _) _ _=W2
  have hlb:W2.heap[w1.heap.size + 1]? =some _:=(congrArg (fun w:World=>w.heap[w1.heap.size + 1]?) hW2).symm.trans (World.putObj_heap_same (by rw [World.size_alloc];omega))
  have U2:Upd [w1.heap.size + 1] [w1.heap.size + 1] W W2:=by
   rw [←hW2];exact (((Upd.refl [] W).alloc _).up _).trans (upd_putObj _ _ _)
  have hB2:Blk W2 W.heap.size 147 #[.int .i64 x.k,.int .i64 x.s,.int .i64 x.r,.int .i64 x.t,.slice x.A x.n x.c]:=by
   rw [←hW2];exact (Blk.new W _ _).upd (upd_putObj _ _ _) (by simp;omega)
  clear hW2
  have hL2:=hL.upd U2 (by simp;omega)
  have hS2:=hS.upd U2 (by simp;omega)
  have hR2:=hR.upd U2 (fun j hj=>by simp;rintro rfl;exact hnA hj) (fun y hy j hj=>by simp;rintro rfl;exact hnE y hy hj)
  have hx2:=hx.upd U2 (fun j hj=>by simp;rintro rfl;exact hnx hj)
  have hd2:=(U2.block _ (Array.getElem?_eq_some_iff.1 hd).1 (by simp)).trans hd
  obtain ⟨qL,fL⟩:=hL2.c1
  obtain ⟨qS,fS⟩:=hS2.c1
  obtain ⟨⟨q0,q1,q2,q3,q4⟩,-⟩:=hB2.c5
  clear hL hR hS hl hd hx hnA hnx hnE
  repeat' ((fail_if_success (with_reducible refine istop_append rfl ?_));first|go_values|gi_guarded|gi_step|gi_upon|(simp only [];go_at_K))
  have h8:=layB_ge (rcs (pre ++ [x]))
  have hk1:=hR2.len
  have HK:=Lib.hid hk1
  have hszx:(layB (rcs (pre ++ [x]))).length=(layB (rcs pre)).length + (8 + x.rc.bytes.length):=by
   rw [rcs_append,layB_append,List.length_append];simp [rcs,layB]
  simp only [rcs,List.length_map,List.length_append,List.length_cons,List.length_nil] at h8
  simp only [rcs] at hbd
  refine wpListIn_push rfl _ _ 141 rfl 147 Tryz.underlying141 infoRec rfl (by decide) hR2.own rfl _ rfl (news:=x.cells) rfl rfl rfl (by unfold maxLen;omega) (by omega) ?_
  intro A4 c4 w4 ho4 hu4
  have hL4:=hL2.upd hu4 (hR2.own.ne hL2 (by decide))
  have hS4:=hS2.upd hu4 (hR2.own.ne hS2 (by decide))
  have hl4:=(hu4.block _ (Array.getElem?_eq_some_iff.1 hlb).1 (own_not_obj hR2.own hlb rfl)).trans hlb
  have hd4:=(hu4.block _ (Array.getElem?_eq_some_iff.1 hd2).1 (own_not_obj hR2.own hd2 rfl)).trans hd2
  have hR4:OwnR w4 A4 (k1 + 1) c4 (pre ++ [x]):=⟨by simp [hk1],by simpa using ho4,fun y hy=>by
   rcases List.mem_append.1 hy with hy | hy
   ·exact (hR2.each y hy).upd hu4 ((hR2.each y hy).own.disj hR2.own (by decide))
   ·obtain rfl:=List.mem_singleton.1 hy
    exact hx2.upd hu4 (hx2.own.disj hR2.own (by decide))⟩
  have hq4:=(hL4.set_ 0 (.slice A4 (k1 + 1) c4)).c1
  clear qL fL qS fS q0 q1 q2 q3 q4 hlb hd2 hL2 hk1 hS2 hx2 hR2 hB2
  obtain ⟨qL,fL⟩:=hL4.c1
  obtain ⟨qS,fS⟩:=hS4.c1
  repeat' ((fail_if_success (with_reducible refine istop_append rfl ?_));first|go_values|gi_guarded|gi_step|gi_upon|(simp only [];go_at_K))
  rw [show wrap64 (((layB (rcs pre)).length:Int) + (8 + (x.rc.bytes.length:Int)))=((layB (rcs (pre ++ [x]))).length:Int) by rw [hszx];unfold wrap64;simp only [rcs] at hszx ⊢;omega]
  have U6:Upd [w.heap.size,w.heap.size + 1] [w.heap.size,w.heap.size + 1] w4 ((w4.setCell ⟨w.heap.size,0,none⟩ (.slice A4 (k1 + 1) c4)).setCell ⟨w.heap.size + 1,0,none⟩ (.int .i64 ((layB (rcs (pre ++ [x]))).length:Int))):=
   ((Upd.refl _ _).setCell (.inl (by simp)) _).setCell (.inl (by simp)) _
  have hL6:Blk ((w4.setCell ⟨w.heap.size,0,none⟩ (.slice A4 (k1 + 1) c4)).setCell ⟨w.heap.size + 1,0,none⟩ (.int .i64 ((layB (rcs (pre ++ [x]))).length:Int))) w.heap.size 141 #[.slice A4 (k1 + 1) c4]:=by
   simpa using (hL4.set_ 0 (.slice A4 (k1 + 1) c4)).far (p:=⟨w.heap.size + 1,0,none⟩) (by simp) _
  have hS6:Blk ((w4.setCell ⟨w.heap.size,0,none⟩ (.slice A4 (k1 + 1) c4)).setCell ⟨w.heap.size + 1,0,none⟩ (.int .i64 ((layB (rcs (pre ++ [x]))).length:Int))) (w.heap.size + 1) 3 #[.int .i64 ((layB (rcs (pre ++ [x]))).length:Int)]:=by
   simpa using (hS4.far (p:=⟨w.heap.size,0,none⟩) (by simp) _).set_ 0 (.int .i64 ((layB (rcs (pre ++ [x]))).length:Int))
  have hl6:=(U6.block _ (Array.getElem?_eq_some_iff.1 hl4).1 (by simp;omega)).trans hl4
  have hd6:=(U6.block _ (Array.getElem?_eq_some_iff.1 hd4).1 (by simp;omega)).trans hd4
  have hR6:=hR4.upd U6 (fun j hj=>by
    simp only [List.mem_cons,List.not_mem_nil,or_false,not_or]
    exact ⟨by rintro rfl;exact hR4.own.ne hL4 (by decide) hj,by rintro rfl;exact hR4.own.ne hS4 (by decide) hj⟩) (fun y hy j hj=>by
    simp only [List.mem_cons,List.not_mem_nil,or_false,not_or]
    exact ⟨by rintro rfl;exact (hR4.each y hy).own.ne hL4 (by decide) hj,by rintro rfl;exact (hR4.each y hy).own.ne hS4 (by decide) hj⟩)
  generalize World.setCell (World.setCell _ _ _) _ _=W6 at *
  refine ⟨rfl,hl6,w.heap.size :: (w.heap.size + 1) :: (w1.heap.size + 1) :: ablk A4,?_,?_⟩
  ·have nL:w.heap.size∉[w1.heap.size + 1]:=by simp only [List.mem_singleton];omega
   have nS:w.heap.size + 1∉[w1.heap.size + 1]:=by simp only [List.mem_singleton];omega
   have nD:w1.heap.size∉[w1.heap.size + 1]:=by simp only [List.mem_singleton];omega
   have nR:∀j∈ablk A4,j∉[w1.heap.size + 1]:=fun j hj h=>own_not_obj hR6.own hl6 rfl (by rw [←List.mem_singleton.1 h];exact hj)
   have nE:∀y∈pre ++ [x],∀j∈ablk y.A,j∉[w1.heap.size + 1]:=fun y hy j hj h=>own_not_obj (hR6.each y hy).own hl6 rfl (by rw [←List.mem_singleton.1 h];exact hj)
   exact ⟨⟨A4,k1 + 1,c4,rfl,hL6.upd (upd_putObj W6 _ _) nL,hR6.upd (upd_putObj W6 _ _) nR nE⟩,
    hS6.upd (upd_putObj W6 _ _) nS,World.putObj_heap_same (Array.getElem?_eq_some_iff.1 hl6).1,((upd_putObj W6 _ _).block _ (Array.getElem?_eq_some_iff.1 hd6).1 nD).trans hd6⟩
  ·have V2:Upd (w.heap.size :: (w.heap.size + 1) :: (w1.heap.size + 1) :: ablk A1) (w.heap.size :: (w.heap.size + 1) :: (w1.heap.size + 1) :: ablk A1) W W2:=U2.mono (fun k hk=>by rw [List.mem_singleton.1 hk];simp) (fun k hk=>.inr (.inl hk))
   have V4:Upd (w.heap.size :: (w.heap.size + 1) :: (w1.heap.size + 1) :: ablk A1) (w.heap.size :: (w.heap.size + 1) :: (w1.heap.size + 1) :: ablk A4) W2 w4:=hu4.mono (fun k hk=>by simp [hk]) (fun k hk=>by
    simp only [List.mem_cons] at hk ⊢
    rcases hk with hk | hk | hk | hk
    ·exact .inr (.inl (.inl hk))
    ·exact .inr (.inl (.inr (.inl hk)))
    ·exact .inr (.inl (.inr (.inr (.inl hk))))
    ·exact .inl hk)
   have V6:Upd (w.heap.size :: (w.heap.size + 1) :: (w1.heap.size + 1) :: ablk A4) (w.heap.size :: (w.heap.size + 1) :: (w1.heap.size + 1) :: ablk A4) w4 W6:=U6.mono (fun k hk=>by simp only [List.mem_cons,List.not_mem_nil,or_false] at hk ⊢;rcases hk with h | h <;> simp [h]) (fun k hk=>.inr (.inl hk))
   exact ((V2.trans V4).trans V6).trans ((upd_putObj W6 (w1.heap.size + 1) _).mono (fun k hk=>by rw [List.mem_singleton.1 hk];simp) (fun k hk=>.inr (.inl hk)))
 case rest=>
  rintro e w2 ⟨he,xs,fp',hxs,hRJ,hu2⟩
  obtain ⟨⟨A1,k1,c1,rfl,hL,hR⟩,hS,hl,hd⟩:=hRJ
  have hlt1:=hBl.lt
  have hlt2:=hBs.lt
  refine ⟨he,hl,?_⟩
  clear he
  generalize hW3:World.putObj w2 _ _=W3
  have U3:Upd [w1.heap.size + 1] [w1.heap.size + 1] w2 W3:=by rw [←hW3];exact upd_putObj _ _ _
  clear hW3
  have hL3:=hL.upd U3 (by simp only [List.mem_singleton];omega)
  have hS3:=hS.upd U3 (by simp only [List.mem_singleton];omega)
  have hR3:=hR.upd U3 (fun j hj h=>own_not_obj hR.own hl rfl (by rw [←List.mem_singleton.1 h];exact hj)) (fun y hy j hj h=>own_not_obj (hR.each y hy).own hl rfl (by rw [←List.mem_singleton.1 h];exact hj))
  have hd3:=(U3.block _ (Array.getElem?_eq_some_iff.1 hd).1 (by simp only [List.mem_singleton];omega)).trans hd
  have hsum:(layB (rcs xs)).length=(readB b).2:=by rw [hxs,(readB_ok b).2.1,List.length_take];have:=(readB_ok b).1;omega
  have q0:=fun N=>(hL3.drewN N).cell 0
  have q1:=fun N=>(hS3.drewN N).cell 0
  simp only [List.getElem?_toArray,List.getElem?_cons_zero] at q0 q1
  have U0:Upd [] (w.heap.size :: (w.heap.size + 1) :: (w1.heap.size + 1) :: ablk A1) w w2:=(((hU1.alloc _).alloc _).gives (by simp;omega)).trans hu2
  have U2:=U0.trans (U3.mono (a':=w.heap.size :: (w.heap.size + 1) :: (w1.heap.size + 1) :: ablk A1) (b':=w.heap.size :: (w.heap.size + 1) :: (w1.heap.size + 1) :: ablk A1) (fun k hk=>by rw [List.mem_singleton.1 hk];simp) (fun k hk=>.inr (.inl hk)))
  rw [hsum] at q1
  clear hL hS hR hl hd hL3 hS3 hu2 U3 U0 hBl hBs hBb hr1 hU1
  simp only [Exit.inBlock,Exit.then]
  repeat' ((fail_if_success (with_reducible refine istop_append rfl ?_));first|go_values|gi_guarded|gi_step|gi_upon|(simp only [];go_at_K))
  refine wpIn_wide.2 ?_
  go_quiet (fail)
  repeat' ((fail_if_success (with_reducible refine istop_append rfl ?_));first|go_values|gi_guarded|gi_step|gi_upon|(simp only [];go_at_K))
  refine ⟨by simp,.inl ⟨_,_,rfl,run_takeDeferred hd3,?_⟩⟩
  have U4:Upd [w1.heap.size] [w1.heap.size] W3 ((W3.drewN nq).putObj w1.heap.size (.deferred none)):=((Upd.refl [w1.heap.size] W3).drewN nq).trans (upd_putObj _ _ _)
  have hR4:=hR3.upd U4 (fun j hj h=>own_not_obj hR3.own hd3 rfl (by rw [←List.mem_singleton.1 h];exact hj)) (fun y hy j hj h=>own_not_obj (hR3.each y hy).own hd3 rfl (by rw [←List.mem_singleton.1 h];exact hj))
  have U5:=(U2.drewN nq).grown (grownBy_putObj' (W3.drewN nq) w1.heap.size (.deferred none)) (fun k hk=>by cases hk;right;omega)
  exact ⟨.tuple #[.slice A1 k1 c1,.int .i64 (((readB b).2:Nat):Int)],by simp [results,Tryz.results72,go_sem],A1,k1,c1,xs,rfl,hxs,hR4,U5.gives (fun k hk=>U2.fresh k (by simp [hk]))⟩
end Go.Proofs.YtijhlbeipglieaaGreat
