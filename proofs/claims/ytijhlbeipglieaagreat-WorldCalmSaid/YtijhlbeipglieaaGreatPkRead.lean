/- For WorldCalm. -/
import Derived.RangeFuncNested
import Derived.RangeFuncBound
import Derived.RangeFuncCalls
import Derived.RangeFuncLeaves
import Derived.OwnWalkIn
import Derived.TacticsInMore
import Derived.LoopNIn
import Derived.LoopIn
import Derived.Shelf.Abstract
import Derived.Test.YtijhlbeipglieaaGreatPkAlog
set_option linter.all false
set_option maxRecDepth 100000
set_option maxHeartbeats 2000000
namespace aL
open Go Go.RowKit List
theorem FM{F:Fence}{N:Nat}{P:Program}(w:World){ops:Array Oper}{rest:List Oper}{o:Oper}{a:Act}{Q:Exit→Act→World→Prop}(hgd:o.guard=none)(s x:Operand)(t:TypeId)(ho:o.op=.call {callee:=.builtin .append,args:=#[s,x],argTypes:=#[t,t]})(e:TypeId){z:Value}{size bytes:Nat}(ht:P.underlying t=some (.slice e))(hi:(P.info? e).map (fun i=>(i.zero,i.size,i.bytes))=some (some z,size,bytes))(hzs:z.cells.size=size)(hsz:0<size){A0:Option Addr}{n c0:Nat}{xs:List Value}(hown:Own e size w A0 n c0 xs)(hs:a.eval s=.slice A0 n c0){A:Option Addr}{m c:Nat}{news:List Value}(hr:Rd w size A m news)(hx:a.eval x=.slice A m c)(h1:∀u∈news,u.oneCell'=true)(vb:n+m≤maxLen)(hbytes:(n+m)*bytes≤140737488355328)(h:∀A' c' w',Own e size w' A' (n+m) c' (xs++news)→ab (ak A0) (ak A') w w'→wpListIn F N P ops Q rest (a.put o.dst (.slice A' (n+m) c')) w'):wpListIn F N P ops Q (o::rest) a w:=by
 refine wpListIn_plain hgd fun K hK=>?_
 obtain⟨A',c',w',hrun,h2,h3⟩:=lL (P:=P) w t o.type e ht hi hzs hsz A0 n c0 xs hown A m c news hr h1 vb hbytes
 unfold Oper.wpIn
 refine⟨?_,?_⟩
 ·simp[Oper.about,ho,resolve,Target.leads,Sem.run_pure]
 ·rw[Oper.semAt_plain F _ _ (by rw[ho];intro c BF;cases BF)]
  simp[execOp,ho,resolve,invoke,builtin,hs,hx,hrun,Result.andThen]
  exact hK _ _ (h A' c' w' h2 h3)
theorem CZ{F:Fence}{N:Nat}{P:Program}{w:World}{ops:Array Oper}{rest:List Oper}{o:Oper}{a:Act}{Q:Exit→Act→World→Prop}(hgd:o.guard=none)(s x:Operand)(t:TypeId)(ho:o.op=.call {callee:=.builtin .append,args:=#[s,x],argTypes:=#[t,t]})(e:TypeId){z:Value}{size bytes:Nat}(ht:P.underlying t=some (.slice e))(hi:(P.info? e).map (fun i=>(i.zero,i.size,i.bytes))=some (some z,size,bytes))(hzs:z.cells.size=size)(hsz:0<size){A0:Option Addr}{n c0:Nat}{xs:List Value}(hown:Own e size w A0 n c0 xs)(hs:a.eval s=.slice A0 n c0)(H:Nat)(hH:H=w.heap.size){m c:Nat}{news:List Value}(hx:a.eval x=.slice (some ⟨H,0,none⟩) m c)(hl:news.length=m*size)(h1:news.all (·.oneCell')=true)(vb:n+m≤maxLen)(hbytes:(n+m)*bytes≤140737488355328)(h:∀A' c' w',Own e size w' A' (n+m) c' (xs++news)→ab (ak A0) (ak A') w w'→wpListIn F N P ops Q rest (a.put o.dst (.slice A' (n+m) c')) w'):wpListIn F N P ops Q (o::rest) a (w.alloc (.cells news.toArray e)):=by
 subst hH
 exact FM _ hgd s x t ho e ht hi hzs hsz (hown.alloc _) hs (Rd.aO (aQ.new _ _ _) hl) hx (by simpa using h1) vb hbytes
  fun A' c' w' h2 h3=>h A' c' w' h2 (((ab.refl (ak A0) w).alloc _).trans h3)
theorem dQ{F:Fence}{N:Nat}{P:Program}{ops:Array Oper}{rest:List Oper}{o:Oper}{a:Act}{Q:Exit→Act→World→Prop}{w:World}{x y:Operand}{t t':TypeId}(_:o.op=.call {callee:=.builtin .append,args:=#[x,y],argTypes:=#[t,t']})(h:wpListIn F N P ops Q (o::rest) a w):wpListIn F N P ops Q (o::rest) a w:=h
theorem Ku(w:World)(o o':Obj):((w.alloc o).alloc o').heap[w.heap.size+1]? =some o':=by
 have:=World.alloc_heap_new (w.alloc o) o'
 rwa [World.size_alloc]at this
theorem Kv(w:World)(o o':Obj):((w.alloc o).alloc o').heap[w.heap.size]? =some o:=(Below.heap_alloc _ _ _ (by simp)).trans (World.alloc_heap_new w o)
def pG(fn:FuncId)(tmps:Array Value)(ps:Array Tmp)(assign body:Code)(D:Nat)(st:LoopState):Obj:=.loop {state:=st,pending:=none,fn:=fn,tmps:=tmps,params:=ps,assign:=assign,body:=body,defers:=D}
theorem G7{n:Nat}{P:Program}{g:Operand}{ps:Array Tmp}{assign body:Code}{Q:Exit→Act→World→Prop}{a:Act}{w:World}{gf:Nat}{lb:Array Value}(hg:a.eval g=.func (.func gf) #[] lb)(eg:∀args w,(callFunc gf args).run P w=.ok (.enter gf args) w)(h:∀fn,CallsIn Fence.wide (n-1) P gf (#[.func (.yield (w.heap.size+1)) #[] #[]]++lb) ((w.alloc (.deferred (some []))).alloc (pG fn a.tmps ps assign body w.heap.size .ready))
   (fun e w2=>(∃v,e=.returned v)∧w2.heap[w.heap.size+1]? =some (pG fn a.tmps ps assign body w.heap.size .ready)∧
    Q .normal {a with defers:={target:=.collected w.heap.size,args:=#[]}::a.defers} (w2.putObj (w.heap.size+1) (pG fn a.tmps ps assign body w.heap.size .exhausted)))) :
  (Code.rangeFunc g ps assign body).wpIn Fence.wide n P Q a w:=by
 refine wpIn_rangeFunc ?_
 intro fn hfn
 refine⟨w.heap.size+1,[{target:=.collected w.heap.size,args:=#[]}],(w.alloc (.deferred (some []))).alloc (pG fn a.tmps ps assign body w.heap.size .ready),
  {target:=.fn (.func gf) lb,args:=#[.func (.yield (w.heap.size+1)) #[] #[]]},(w.alloc (.deferred (some []))).alloc (pG fn a.tmps ps assign body w.heap.size .ready),gf,
    #[.func (.yield (w.heap.size+1)) #[] #[]]++lb, (w.alloc (.deferred (some []))).alloc (pG fn a.tmps ps assign body w.heap.size .ready), ?_, ?_, fun _ _ => trivial, ?_, fun h => (by cases h), ?_⟩
 ·exact run_enterLoop_outer _ _ _ _ _
 ·simp only[resolve,hg]
  simp[go_sem]
 ·simp[invoke,go_sem,eg]
 ·refine(h fn).mono ?_
  rintro e w2 ⟨⟨v,rfl⟩,hl,hq⟩
  exact⟨none,_,run_endLoop hl (by simp),hq⟩
theorem G8{N:Nat}{P:Program}{l:Nat}{fn:FuncId}{tmps:Array Value}{ps:Array Tmp}{assign body:Code}{D:Nat}{args:Array Value}{W:World}{R:World→Prop}(hl:W.heap[l]? =some (pG fn tmps ps assign body D .ready))(hps:args.size=ps.size)(h:assign.wpIn (Fence.wide.inRound l) N P (Exit.then (fun a1 w1=>w1.heap[l]? =some (pG fn tmps ps assign body D .ready)∧
    body.wpIn (Fence.wide.inRound l) N P (fun e _ w=>e=.normal∧w.heap[l]? =some (pG fn tmps ps assign body D .busy)∧R (w.putObj l (pG fn tmps ps assign body D .ready))) a1 (w1.putObj l (pG fn tmps ps assign body D .busy))) (fun _ _ _=>False))
   {tmps:=(ps.zip args).foldl (fun t (p,v)=>t.setIfInBounds p v) tmps,defers:=[]} W) :
  YieldAt Fence.wide N P l args W (fun e W'=>e=.returned (.bool true)∧R W'):=by
 refine⟨fn,_,assign,body,run_yield hl hps,roundIn_of_wpIn trivial (wpIn_mono h ?_)⟩
 intro e a1 w1 he
 cases e with
 |normal=>
  obtain⟨h1,h2⟩:=he
  refine⟨_,run_beginRound h1 rfl,wpIn_mono h2 ?_⟩
  rintro e a w ⟨rfl,h3,h4⟩
  exact⟨_,_,run_endRound none h3,rfl,h4⟩
 |ret=>exact he
 |exit id=>exact he
 |goto t=>exact he
 |panic c=>exact he
 |outgrown=>exact he
end aL
namespace Go.Proofs.YtijhlbeipglieaaGreat
open Go.RowKit aL Tryz List
attribute [local go_sem] Oper.semAt_some
def wS(w:World)(fp:List Nat):Prop:=∀k∈fp,∀cs,w.heap[k]?≠some (.cells cs 5 (0,0))∧w.heap[k]?≠some (.cells cs 28 (0,0))
theorem xQ{e:TypeId}{size:Nat}{w:World}{A:Option Addr}{n c:Nat}{xs:List Value}{fp:List Nat}(h:aL.Own e size w A n c xs)(he:e=5∨e=28)(hf:wS w fp):∀k∈ak A,k∉fp:=by
 intro k hk hm
 rcases h.2 with⟨hv,_⟩|⟨g,cap,cur,hv,_,hg,_⟩
 ·injection hv with hA;subst hA;simp[ak]at hk
 ·injection hv with hA;subst hA
  simp[ak]at hk;subst hk
  rcases he with rfl|rfl
  ·exact(hf _ hm cur).1 hg
  ·exact(hf _ hm cur).2 hg
theorem nP.adQ{w w':World}{A:Option Addr}{k c:Nat}{l:List Sl}{fp b:List Nat}(h:nP w A k c l)(hu:ab fp b w w')(hf:wS w fp):nP w' A k c l:=
 ⟨h.len,h.own.aq hu (xQ h.own (.inr rfl) hf),fun x hx=>(h.each x hx).aq hu (xQ (h.each x hx).own (.inl rfl) hf)⟩
theorem nP.at_{w:World}{A:Option Addr}{k c:Nat}{l:List Sl}(h:nP w A k c l){i:Nat}(hi:i<l.length):∃ad,A=some ad∧w.cell? (ad.add i)=some (.slice l[i].A l[i].k l[i].c):=by
 obtain⟨ad,u,e,hu,hc⟩:=h.own.rd.at_ (k:=i) (by rw[h.len];exact hi)
 rw[List.getElem?_map,List.getElem?_eq_getElem hi,Option.map_some,Option.some.injEq]at hu
 subst hu
 exact⟨ad,e,hc⟩
structure XZ(N l:Nat)(J:List Rv→List Nat→World→Prop):Prop where
 still:∀{pre fp W W' b},J pre fp W→ab [] b W W'→J pre fp W'
 Kw:∀{pre fp W},J pre fp W→wS W fp
 turn:∀pre (x:Rv) fp W,J pre fp W→bW 5 W x.A x.n x.c x.b→(bX (eM (pre++[x]))).length≤1099511627776→
  YieldAt Fence.wide N prog l #[.agg #[.int .i64 x.k,.int .i64 x.s,.int .i64 x.r,.int .i64 x.t,.slice x.A x.n x.c],.int .i64 ((8+x.rc.bytes.length:Nat):Int)] W fun e W'=>e=.returned (.bool true)∧∃nk,J (pre++[x]) nk W'∧ab fp nk W W'
theorem ur(a b:List Rv):eM (a++b)=eM a++eM b:=map_append ..
theorem zX{xs:List (List UInt8)}{i:Nat}(hi:i<xs.length)(h:nj xs[i]=none):dY (xs.drop i)=([],0):=by
 rw[drop_eq_getElem_cons hi];simp[dY,h]
theorem zY{xs:List (List UInt8)}{i:Nat}(hi:i<xs.length){r:Rc}(h:nj xs[i]=some r):dY (xs.drop i)=(r::(dY (xs.drop (i+1))).1,8+xs[i].length+(dY (xs.drop (i+1))).2):=by
 rw[drop_eq_getElem_cons hi];simp[dY,h]
theorem Ud{b x:List UInt8}(h:x∈(scan b).1):x.length+8≤b.length:=by
 have h1:=(AX b).1
 have h2:=congrArg length (AX b).2.1
 obtain⟨s,t,e⟩:=append_of_mem h
 rw[e]at h2
 simp only[flatMap_append,flatMap_cons,length_append,length_take,fF]at h2
 omega
theorem QP(N l:Nat)(w:World)(Bb:Nat)(T:TypeId)(A:Option Addr)(n c:Nat)(b:List UInt8)(hB:aQ w Bb T #[.slice A n c])(hr:bE w A n b)(hc:n≤c)(hcm:c≤maxLen)(hb:b.length≤1099511627776)(J:List Rv→List Nat→World→Prop)(hJ:XZ (N-1) l J)(fp:List Nat)(h0:J [] fp w) :
  CallsIn Fence.wide N prog 203 #[.func (.yield l) #[] #[],.pointer (some ⟨Bb,0,none⟩)] w fun e w'=>(∃v,e=.returned v)∧∃xs nk,eM xs=(cg b).1∧J xs nk w'∧ab fp nk w w':=by
 have q:=hB.cell 0
 simp only[List.getElem?_toArray,List.getElem?_cons_zero]at q
 refine callsIn_of_wp func203 rfl trivial ?_
 simp only[ntmps203,size_toArray,length_cons,length_nil,Nat.reduceAdd,Nat.reduceSub,Array.replicate_succ,Array.replicate_zero,push_toArray,append_toArray,nil_append,cons_append]
 repeat' (fail_if_success with_reducible refine dQ rfl ?_);first|go_values|gi_guarded|gi_step|gi_upon|simp only[];go_at_K
 refine⟨trivial,fun h=>(by cases h),(callsIn_wide.2 (MX w A n c b hr hc hcm hb)).mono ?_⟩
 rintro e w1 ⟨A',k',c',L,rfl,hL,X0,bn⟩
 have J1:=hJ.still h0 bn
 have U1:=bn.up fp
 have hle:∀x∈L,x.b.length≤b.length:=fun x hx=>by have:=Ud (b:=b) (x:=x.b) (by rw[←X0];exact mem_map.2 ⟨x,hx,rfl⟩);omega
 have El:=hL.len
 clear hB hr q h0 bn hc hcm
 repeat' (fail_if_success with_reducible refine dQ rfl ?_);first|go_values|gi_guarded|gi_step|gi_upon|simp only[];go_at_K
 gi_loopw [16] (fun DQ wr=>∃(i:Nat)(pre:List Rv)(nk:List Nat),i≤L.length∧DQ=.int .i64 (i:Int)∧J pre nk wr∧ab fp nk w wr∧nP wr A' k' c' L∧
   (cg b).1=eM pre++(dY ((L.map Sl.b).drop i)).1∧(cg b).2=(bX (eM pre)).length+(dY ((L.map Sl.b).drop i)).2)
  (fun DQ _=>L.length-(intOf DQ).toNat)
 case atStart=>exact⟨0,[],fp,by omega,rfl,J1,U1,hL,by simp[eM,cg,X0],by simp[eM,bX,cg,X0]⟩
 case round=>
  clear J1 U1 hL
  obtain⟨i,pre,nk,hi,rfl,X1,U,hL,hX,hY⟩:=hrel
  by_cases hlt:i<L.length
  ·obtain⟨ad,rfl,qc⟩:=hL.at_ hlt
   have RG:=hle _ (getElem_mem hlt)
   have sC:=hL.each _ (getElem_mem hlt)
   have xz:i<(L.map Sl.b).length:=by simpa using hlt
   have hgb:(L.map Sl.b)[i]=L[i].b:=getElem_map ..
   have hN:nj L[i].b=none→dY ((L.map Sl.b).drop i)=([],0):=fun h=>zX xz (by rw[hgb];exact h)
   have hS:∀r,nj L[i].b=some r→dY ((L.map Sl.b).drop i)=(r::(dY ((L.map Sl.b).drop (i+1))).1,8+L[i].b.length+(dY ((L.map Sl.b).drop (i+1))).2):=fun r h=>by
    have:=zY xz (r:=r) (by rw[hgb];exact h)
    rwa [hgb]at this
   have hYb:=(oB b).1
   clear xz hgb
   generalize L[i]=x at *
   have HX:=aA sC.len
   have HW:Hid (wrap64 ((i:Int)+1)=(i:Int)+1):=aA (by
    have h1:=hL.own.cap
    have h2:=hL.len
    unfold maxLen at h1
    unfold wrap64
    omega)
   have C:=JG wr x.A x.k x.c x.b sC.rd (by omega)
   generalize dY ((L.map Sl.b).drop i)=R at *
   generalize dS:dY ((L.map Sl.b).drop (i+1))=R2 at *
   have MP:(i:Int)<(L.length:Int):=by omega
   have HL:=aA El
   clear El
   repeat' (fail_if_success with_reducible refine dQ rfl ?_);first|go_values|gi_guarded|gi_step|gi_upon|simp only[];go_at_K
   refine⟨trivial,fun h=>(by cases h),(callsIn_wide.2 C).mono ?_⟩
   rintro e w2 ⟨hD,bh⟩
   have hL2:=hL.aq bh
   have J2:=hJ.still X1 bh
   have U2:=U.trans (bh.up nk)
   clear C hL X1 U bh qc
   rcases hD with⟨hd,rfl⟩|⟨y,hd,ho,rfl⟩
   ·rw[hN hd]at hX hY
    clear hN hS
    repeat' (fail_if_success with_reducible refine dQ rfl ?_);first|go_values|gi_guarded|gi_step|gi_upon|simp only[];go_at_K
    refine⟨fun f h=>trivial,?_⟩
    repeat' (fail_if_success with_reducible refine dQ rfl ?_);first|go_values|gi_guarded|gi_step|gi_upon|simp only[];go_at_K
    refine bodyPost_ret (results_none rfl _ _ _) rfl ?_
    exact⟨⟨_,rfl⟩,pre,nk,by rw[hX];simp,hJ.still J2 ((ab.refl [] w2).alloc _),U2.alloc _⟩
   ·have hR:=hS _ hd
    have I4:y.rc.bytes=x.b:=(I1 hd).2
    rw[hR]at hX hY
    clear hN hS hd hR
    simp only at hX hY
    have hsz:(bX (eM (pre++[y]))).length=(bX (eM pre)).length+(8+x.b.length):=by
     rw[ur,jy,length_append,←I4];simp[eM,bX]
    have hT:=hJ.turn pre y nk (w2.alloc (.cells #[.int .i64 y.k,.int .i64 y.s,.int .i64 y.r,.int .i64 y.t,.slice y.A y.n y.c] 147)) (hJ.still J2 ((ab.refl [] w2).alloc _)) (ho.alloc _) (by omega)
    rw[show(((8+y.rc.bytes.length:Nat):Int))=8+(x.k:Int) by rw[I4,HX.out];push_cast;rfl]at hT
    obtain⟨fn,tmps,assign,body,hy,hR⟩:=hT
    have oq:(x.k:Int)≤1099511627776:=by have:=HX.out;omega
    clear ho sC
    repeat' (fail_if_success with_reducible refine dQ rfl ?_);first|go_values|gi_guarded|gi_step|gi_upon|simp only[];go_at_K
    refine⟨fun h=>(by cases h),hR.mono ?_⟩
    rintro e w3 ⟨rfl,fp3,J3,cQ⟩
    have hL3:=(hL2.aq ((ab.refl [] w2).alloc (.cells #[.int .i64 y.k,.int .i64 y.s,.int .i64 y.r,.int .i64 y.t,.slice y.A y.n y.c] 147))).adQ cQ (hJ.Kw (hJ.still J2 ((ab.refl [] w2).alloc _)))
    have U3:=(U2.alloc _).trans cQ
    clear hy hR J2 U2 hL2 cQ
    repeat' (fail_if_success with_reducible refine dQ rfl ?_);first|go_values|gi_guarded|gi_step|gi_upon|simp only[];go_at_K
    go_roundw
    case rel=>exact⟨i+1,pre++[y],fp3,by omega,by rw[HW.out];simp,J3,U3,hL3,by rw[hX,dS,ur];simp[eM],by rw[hY,dS,hsz];omega⟩
    case measure=>rw[HW.out];simp[intOf];omega
  ·obtain rfl:i=L.length:=by omega
   have hni:¬ ((L.length:Int)<(L.length:Int)):=by omega
   rw[drop_eq_nil_of_le (by simp)]at hX hY
   simp only[dY,append_nil]at hX
   repeat' (fail_if_success with_reducible refine dQ rfl ?_);first|go_values|gi_guarded|gi_step|gi_upon|simp only[];go_at_K
   go_end0
   exact⟨⟨_,rfl⟩,pre,nk,hX.symm,X1,U⟩
attribute [local go_sem] Oper.semAt_some
theorem Ue:(prog.info? 147).map (fun i=>(i.zero,i.size,i.bytes))=some (some (.agg #[.int .i64 0,.int .i64 0,.int .i64 0,.int .i64 0,.slice none 0 0]),5,56):=by kernel_rfl
theorem G9(w:World)(A:Option Addr)(n c:Nat) :
  Calls prog 130 #[.slice A n c] w fun e w'=>∃g,e=.returned (.func (.func 203) #[] #[.pointer (some ⟨g,0,none⟩)])∧aQ w' g 28 #[.slice A n c]∧ab [] [] w w':=by
 go_enter func130,ntmps130
 refine wk ?_
 go_ret
 exact⟨_,rfl,aQ.new _ _ _,(ab.refl _ _).alloc _⟩
structure pH(w:World)(A:Option Addr)(k c:Nat)(l:List Rv):Prop where
 len:k=l.length
 own:aL.Own 147 5 w A k c (l.flatMap Rv.cells)
 each:∀x∈l,bW 5 w x.A x.n x.c x.b
theorem pH.aq{w w':World}{A:Option Addr}{k c:Nat}{l:List Rv}{a b:List Nat}(h:pH w A k c l)(hu:ab a b w w')(hd:∀j∈ak A,j∉a)(he:∀x∈l,∀j∈ak x.A,j∉a):pH w' A k c l:=
 ⟨h.len,h.own.aq hu hd,fun x hx=>(h.each x hx).aq hu (he x hx)⟩
theorem pH.aN{w w':World}{A:Option Addr}{k c:Nat}{l:List Rv}{b:List Nat}(h:pH w A k c l)(hu:ab [] b w w'):pH w' A k c l:=h.aq hu (by simp) (by simp)
theorem pH.rvs{w:World}{A:Option Addr}{k c:Nat}{l:List Rv}(h:pH w A k c l):xg w A k l:=⟨⟨h.len,h.own.rd⟩,fun x hx=>(h.each x hx).rd⟩
theorem fV{e:TypeId}{size:Nat}{w:World}{A:Option Addr}{n c:Nat}{xs:List Value}(h:aL.Own e size w A n c xs){g:Nat}{o:Obj}(hg:w.heap[g]? =some o)(ho:o.isCells=false):g∉ak A:=by
 intro hm
 rcases h.2 with⟨hv,_⟩|⟨g',cap,cur,hv,_,hh,_⟩
 ·injection hv with hA;subst hA;simp[ak]at hm
 ·injection hv with hA;subst hA
  have:g=g':=by simpa[ak]using hm
  subst this
  rw[hh]at hg
  injection hg with hg
  subst hg
  cases ho
theorem iL(w:World)(l:Nat)(o:Obj):ab [l] [l] w (w.putObj l o):=(ab.refl [l] w).grown (grownBy_putObj' w l o) (fun k e=>by cases e;exact .inl (by simp))
theorem Uf(l:List Rc):8*l.length≤(bX l).length:=by
 induction l with
 |nil=>simp
 |cons r l ih=>rw[rM,length_append,fF,length_cons];omega
structure RJ(Bl Bs L D:Nat)(o:Obj)(pre:List Rv)(fp:List Nat)(W:World):Prop where
 row:∃A k c,fp=Bl::Bs::L::ak A∧aQ W Bl 141 #[.slice A k c]∧pH W A k c pre
 sum:aQ W Bs 3 #[.int .i64 ((bX (eM pre)).length:Int)]
 loop:W.heap[L]? =some o
 ahK:W.heap[D]? =some (.deferred (some []))
theorem RJ.still{Bl Bs L D:Nat}{o:Obj}{pre:List Rv}{fp:List Nat}{W W':World}{b:List Nat}(h:RJ Bl Bs L D o pre fp W)(hu:ab [] b W W'):RJ Bl Bs L D o pre fp W':=by
 obtain⟨⟨A,k,c,e,h1,h2⟩,h3,h4,h5⟩:=h
 exact⟨⟨A,k,c,e,h1.aq hu (by simp),h2.aN hu⟩,h3.aq hu (by simp),(hu.block L (Array.getElem?_eq_some_iff.1 h4).1 (by simp)).trans h4,(hu.block D (Array.getElem?_eq_some_iff.1 h5).1 (by simp)).trans h5⟩
theorem RJ.Kw{Bl Bs L D:Nat}{o:Obj}{pre:List Rv}{fp:List Nat}{W:World}(ho:o.isCells=false)(h:RJ Bl Bs L D o pre fp W):wS W fp:=by
 obtain⟨⟨A,k,c,e,h1,h2⟩,h3,h4,h5⟩:=h
 subst e
 intro j hj cs
 have key:∀{o':Obj},W.heap[j]? =some o'→(∀cs,o'≠.cells cs 5 (0,0)∧o'≠.cells cs 28 (0,0))→W.heap[j]?≠some (.cells cs 5 (0,0))∧W.heap[j]?≠some (.cells cs 28 (0,0)):=by
  intro o' h1 h2
  rw[h1]
  exact⟨fun e=>(h2 cs).1 (by injection e),fun e=>(h2 cs).2 (by injection e)⟩
 simp only[mem_cons]at hj
 rcases hj with rfl|rfl|rfl|hj
 ·exact key h1 (fun cs=>⟨fun e=>by injection e with _ e;revert e;decide,fun e=>by injection e with _ e;revert e;decide⟩)
 ·exact key h3 (fun cs=>⟨fun e=>by injection e with _ e;revert e;decide,fun e=>by injection e with _ e;revert e;decide⟩)
 ·exact key h4 (fun cs=>⟨fun e=>(by rw[e]at ho;cases ho),fun e=>(by rw[e]at ho;cases ho)⟩)
 ·rcases h2.own.2 with⟨hv,_⟩|⟨g',cap,cur,hv,_,hh,_⟩
  ·injection hv with hA;subst hA;simp[ak]at hj
  ·injection hv with hA;subst hA
   obtain rfl:j=g':=by simpa[ak]using hj
   exact key hh (fun cs=>⟨fun e=>by injection e with _ e;revert e;decide,fun e=>by injection e with _ e;revert e;decide⟩)
theorem FN(w:World)(A:Option Addr)(n c:Nat)(b:List UInt8)(hr:bE w A n b)(hc:n≤c)(hcm:c≤maxLen)(hb:b.length≤1099511627776) :
  Calls prog 72 #[.slice A n c] w fun e w'=>∃A1 k1 c1 xs,e=.returned (.tuple #[.slice A1 k1 c1,.int .i64 (((cg b).2:Nat):Int)])∧eM xs=(cg b).1∧pH w' A1 k1 c1 xs∧ab [] (ak A1) w w':=by
 refine(callsIn_wide (n:=3)).1 ?_
 refine callsIn_of_wp_marks func72 rfl trivial ?_ rfl
 simp only[ntmps72,size_toArray,length_cons,length_nil,Nat.reduceAdd,Nat.reduceSub,Array.replicate_succ,Array.replicate_zero,push_toArray,append_toArray,nil_append,cons_append]
 repeat' (fail_if_success with_reducible refine dQ rfl ?_);first|go_values|gi_guarded|gi_step|gi_upon|simp only[];go_at_K
 refine⟨trivial,(callsIn_wide.2 (G9 _ A n c)).mono ?_⟩
 have X2:aQ ((w.alloc (.cells #[.slice none 0 0] 141)).alloc (.cells #[.int .i64 0] 3)) w.heap.size 141 #[.slice none 0 0]:=(aQ.new w _ _).alloc _
 have X3:aQ ((w.alloc (.cells #[.slice none 0 0] 141)).alloc (.cells #[.int .i64 0] 3)) (w.heap.size+1) 3 #[.int .i64 0]:=by
  have:=aQ.new (w.alloc (.cells #[.slice none 0 0] 141)) 3 #[.int .i64 0]
  rwa [World.size_alloc]at this
 have NZ:ab [] [] w ((w.alloc (.cells #[.slice none 0 0] 141)).alloc (.cells #[.int .i64 0] 3)):=((ab.refl [] w).alloc _).alloc _
 have IS:bE ((w.alloc (.cells #[.slice none 0 0] 141)).alloc (.cells #[.int .i64 0] 3)) A n b:=(hr.alloc _).alloc _
 generalize (w.alloc (.cells #[.slice none 0 0] 141)).alloc (.cells #[.int .i64 0] 3)=w0 at *
 rintro e w1 ⟨g,rfl,nY,bn⟩
 have hBl:=X2.aq bn (by simp)
 have Ib:=X3.aq bn (by simp)
 have hr1:=IS.aq bn (by simp)
 have X4:=NZ.trans bn
 clear X2 X3 IS NZ bn
 repeat' (fail_if_success with_reducible refine dQ rfl ?_);first|go_values|gi_guarded|gi_step|gi_upon|simp only[];go_at_K
 refine G7 rfl (enters_of func203 (by kernel_rfl) rfl) fun fn=>?_
 refine(QP 2 (w1.heap.size+1) _ g 28 A n c b (nY.alloc _ |>.alloc _) ((hr1.alloc _).alloc _) hc hcm hb (RJ w.heap.size (w.heap.size+1) (w1.heap.size+1) w1.heap.size (pG fn _ _ _ _ _ .ready)) ⟨fun h hu=>h.still hu,fun h=>h.Kw rfl,?turn⟩ [w.heap.size,w.heap.size+1,w1.heap.size+1] ⟨⟨none,0,0,rfl,(hBl.alloc _).alloc _,⟨rfl,aL.Own.nil _ _ _,by simp⟩⟩,(Ib.alloc _).alloc _,Ku _ _ _,Kv _ _ _⟩).mono ?rest
 case turn=>
  rintro pre x fp W ⟨⟨A1,k1,c1,rfl,hL,hR⟩,hS,hl,hd⟩ hx SG
  have adR:=hBl.lt
  have vU:=Ib.lt
  refine G8 hl rfl ?_
  clear X4 hr1 nY hBl Ib hr hb hc hcm
  have hlL:=(Array.getElem?_eq_some_iff.1 hl).1
  have Em:=fV hR.own hl rfl
  have uG:=fV hx.own hl rfl
  have Fs:=fun y hy=>fV (hR.each y hy).own hl rfl
  repeat' (fail_if_success with_reducible refine dQ rfl ?_);first|go_values|gi_guarded|gi_step|gi_upon|simp only[];go_at_K
  refine⟨(Below.heap_alloc _ _ _ hlL).trans hl,?_⟩
  generalize hW2:World.putObj (World.alloc W _) _ _=W2
  have pK:W2.heap[w1.heap.size+1]? =some _:=(congrArg (fun w:World=>w.heap[w1.heap.size+1]?) hW2).symm.trans (World.putObj_heap_same (by rw[World.size_alloc];omega))
  have U2:ab [w1.heap.size+1] [w1.heap.size+1] W W2:=by
   rw[←hW2];exact(((ab.refl [] W).alloc _).up _).trans (iL _ _ _)
  have cX:aQ W2 W.heap.size 147 #[.int .i64 x.k,.int .i64 x.s,.int .i64 x.r,.int .i64 x.t,.slice x.A x.n x.c]:=by
   rw[←hW2];exact(aQ.new W _ _).aq (iL _ _ _) (by simp;omega)
  clear hW2
  have hL2:=hL.aq U2 (by simp;omega)
  have gz:=hS.aq U2 (by simp;omega)
  have dS:=hR.aq U2 (fun j hj=>by simp;rintro rfl;exact Em hj) (fun y hy j hj=>by simp;rintro rfl;exact Fs y hy hj)
  have hx2:=hx.aq U2 (fun j hj=>by simp;rintro rfl;exact uG hj)
  have lF:=(U2.block _ (Array.getElem?_eq_some_iff.1 hd).1 (by simp)).trans hd
  obtain⟨qL,fL⟩:=hL2.c1
  obtain⟨qS,fS⟩:=gz.c1
  obtain⟨⟨q0,q1,q2,q3,q4⟩,-⟩:=cX.c5
  clear hL hR hS hl hd hx Em uG Fs
  repeat' (fail_if_success with_reducible refine dQ rfl ?_);first|go_values|gi_guarded|gi_step|gi_upon|simp only[];go_at_K
  have h8:=Uf (eM (pre++[x]))
  have oq:=dS.len
  have HK:=aA oq
  have X5:(bX (eM (pre++[x]))).length=(bX (eM pre)).length+(8+x.rc.bytes.length):=by
   rw[ur,jy,length_append];simp[eM,bX]
  simp only[eM,length_map,length_append,length_cons,length_nil]at h8
  simp only[eM]at SG
  refine CZ rfl _ _ 141 rfl 147 underlying141 Ue rfl (by decide) dS.own rfl _ rfl (news:=x.cells) rfl rfl rfl (by unfold maxLen;omega) (by omega) ?_
  intro A4 c4 w4 dW de
  have hL4:=hL2.aq de (dS.own.ne hL2 (by decide))
  have jQ:=gz.aq de (dS.own.ne gz (by decide))
  have hl4:=(de.block _ (Array.getElem?_eq_some_iff.1 pK).1 (fV dS.own pK rfl)).trans pK
  have I5:=(de.block _ (Array.getElem?_eq_some_iff.1 lF).1 (fV dS.own lF rfl)).trans lF
  have jF:pH w4 A4 (k1+1) c4 (pre++[x]):=⟨by simp[oq],by simpa using dW,fun y hy=>by
   rcases mem_append.1 hy with hy|hy
   ·exact(dS.each y hy).aq de ((dS.each y hy).own.AA dS.own (by decide))
   ·obtain rfl:=mem_singleton.1 hy
    exact hx2.aq de (hx2.own.AA dS.own (by decide))⟩
  have hq4:=(hL4.cc 0 (.slice A4 (k1+1) c4)).c1
  clear qL fL qS fS q0 q1 q2 q3 q4 pK lF hL2 oq gz hx2 dS cX
  obtain⟨qL,fL⟩:=hL4.c1
  obtain⟨qS,fS⟩:=jQ.c1
  repeat' (fail_if_success with_reducible refine dQ rfl ?_);first|go_values|gi_guarded|gi_step|gi_upon|simp only[];go_at_K
  rw[show wrap64 (((bX (eM pre)).length:Int)+(8+(x.rc.bytes.length:Int)))=((bX (eM (pre++[x]))).length:Int) by rw[X5];unfold wrap64;simp only[eM]at X5 ⊢;omega]
  have U6:ab [w.heap.size,w.heap.size+1] [w.heap.size,w.heap.size+1] w4 ((w4.setCell ⟨w.heap.size,0,none⟩ (.slice A4 (k1+1) c4)).setCell ⟨w.heap.size+1,0,none⟩ (.int .i64 ((bX (eM (pre++[x]))).length:Int))):=
   ((ab.refl _ _).setCell (.inl (by simp)) _).setCell (.inl (by simp)) _
  have hL6:aQ ((w4.setCell ⟨w.heap.size,0,none⟩ (.slice A4 (k1+1) c4)).setCell ⟨w.heap.size+1,0,none⟩ (.int .i64 ((bX (eM (pre++[x]))).length:Int))) w.heap.size 141 #[.slice A4 (k1+1) c4]:=by
   simpa using(hL4.cc 0 (.slice A4 (k1+1) c4)).fB (p:=⟨w.heap.size+1,0,none⟩) (by simp) _
  have SI:aQ ((w4.setCell ⟨w.heap.size,0,none⟩ (.slice A4 (k1+1) c4)).setCell ⟨w.heap.size+1,0,none⟩ (.int .i64 ((bX (eM (pre++[x]))).length:Int))) (w.heap.size+1) 3 #[.int .i64 ((bX (eM (pre++[x]))).length:Int)]:=by
   simpa using(jQ.fB (p:=⟨w.heap.size,0,none⟩) (by simp) _).cc 0 (.int .i64 ((bX (eM (pre++[x]))).length:Int))
  have E3:=(U6.block _ (Array.getElem?_eq_some_iff.1 hl4).1 (by simp;omega)).trans hl4
  have Hv:=(U6.block _ (Array.getElem?_eq_some_iff.1 I5).1 (by simp;omega)).trans I5
  have vR:=jF.aq U6 (fun j hj=>by
    simp only[mem_cons,not_mem_nil,or_false,not_or]
    exact⟨by rintro rfl;exact jF.own.ne hL4 (by decide) hj,by rintro rfl;exact jF.own.ne jQ (by decide) hj⟩) (fun y hy j hj=>by
    simp only[mem_cons,not_mem_nil,or_false,not_or]
    exact⟨by rintro rfl;exact(jF.each y hy).own.ne hL4 (by decide) hj,by rintro rfl;exact(jF.each y hy).own.ne jQ (by decide) hj⟩)
  generalize World.setCell (World.setCell _ _ _) _ _=W6 at *
  refine⟨rfl,E3,w.heap.size::(w.heap.size+1)::(w1.heap.size+1)::ak A4,?_,?_⟩
  ·have nL:w.heap.size∉[w1.heap.size+1]:=by simp only[mem_singleton];omega
   have nS:w.heap.size+1∉[w1.heap.size+1]:=by simp only[mem_singleton];omega
   have nD:w1.heap.size∉[w1.heap.size+1]:=by simp only[mem_singleton];omega
   have nR:∀j∈ak A4,j∉[w1.heap.size+1]:=fun j hj h=>fV vR.own E3 rfl (by rw[←mem_singleton.1 h];exact hj)
   have nE:∀y∈pre++[x],∀j∈ak y.A,j∉[w1.heap.size+1]:=fun y hy j hj h=>fV (vR.each y hy).own E3 rfl (by rw[←mem_singleton.1 h];exact hj)
   exact⟨⟨A4,k1+1,c4,rfl,hL6.aq (iL W6 _ _) nL,vR.aq (iL W6 _ _) nR nE⟩,
    SI.aq (iL W6 _ _) nS,World.putObj_heap_same (Array.getElem?_eq_some_iff.1 E3).1,((iL W6 _ _).block _ (Array.getElem?_eq_some_iff.1 Hv).1 nD).trans Hv⟩
  ·have V2:ab (w.heap.size::(w.heap.size+1)::(w1.heap.size+1)::ak A1) (w.heap.size::(w.heap.size+1)::(w1.heap.size+1)::ak A1) W W2:=U2.mono (fun k hk=>by rw[mem_singleton.1 hk];simp) (fun k hk=>.inr (.inl hk))
   have V4:ab (w.heap.size::(w.heap.size+1)::(w1.heap.size+1)::ak A1) (w.heap.size::(w.heap.size+1)::(w1.heap.size+1)::ak A4) W2 w4:=de.mono (fun k hk=>by simp[hk]) (fun k hk=>by
    simp only[mem_cons]at hk ⊢
    rcases hk with hk|hk|hk|hk
    ·exact .inr (.inl (.inl hk))
    ·exact .inr (.inl (.inr (.inl hk)))
    ·exact .inr (.inl (.inr (.inr (.inl hk))))
    ·exact .inl hk)
   have V6:ab (w.heap.size::(w.heap.size+1)::(w1.heap.size+1)::ak A4) (w.heap.size::(w.heap.size+1)::(w1.heap.size+1)::ak A4) w4 W6:=U6.mono (fun k hk=>by simp only[mem_cons,not_mem_nil,or_false]at hk ⊢;rcases hk with h|h<;>simp[h]) (fun k hk=>.inr (.inl hk))
   exact((V2.trans V4).trans V6).trans ((iL W6 (w1.heap.size+1) _).mono (fun k hk=>by rw[mem_singleton.1 hk];simp) (fun k hk=>.inr (.inl hk)))
 case rest=>
  rintro e w2 ⟨he,xs,nk,Cm,hRJ,bh⟩
  obtain⟨⟨A1,k1,c1,rfl,hL,hR⟩,hS,hl,hd⟩:=hRJ
  have adR:=hBl.lt
  have vU:=Ib.lt
  refine⟨he,hl,?_⟩
  clear he
  generalize hW3:World.putObj w2 _ _=W3
  have U3:ab [w1.heap.size+1] [w1.heap.size+1] w2 W3:=by rw[←hW3];exact iL _ _ _
  clear hW3
  have hL3:=hL.aq U3 (by simp only[mem_singleton];omega)
  have nF:=hS.aq U3 (by simp only[mem_singleton];omega)
  have gH:=hR.aq U3 (fun j hj h=>fV hR.own hl rfl (by rw[←mem_singleton.1 h];exact hj)) (fun y hy j hj h=>fV (hR.each y hy).own hl rfl (by rw[←mem_singleton.1 h];exact hj))
  have pe:=(U3.block _ (Array.getElem?_eq_some_iff.1 hd).1 (by simp only[mem_singleton];omega)).trans hd
  have adS:(bX (eM xs)).length=(cg b).2:=by rw[Cm,(oB b).2.1,length_take];have:=(oB b).1;omega
  have q0:=fun N=>(hL3.drewN N).cell 0
  have q1:=fun N=>(nF.drewN N).cell 0
  simp only[List.getElem?_toArray,List.getElem?_cons_zero]at q0 q1
  have U0:ab [] (w.heap.size::(w.heap.size+1)::(w1.heap.size+1)::ak A1) w w2:=(((X4.alloc _).alloc _).gives (by simp;omega)).trans bh
  have U2:=U0.trans (U3.mono (a':=w.heap.size::(w.heap.size+1)::(w1.heap.size+1)::ak A1) (b':=w.heap.size::(w.heap.size+1)::(w1.heap.size+1)::ak A1) (fun k hk=>by rw[mem_singleton.1 hk];simp) (fun k hk=>.inr (.inl hk)))
  rw[adS]at q1
  clear hL hS hR hl hd hL3 nF bh U3 U0 hBl Ib nY hr1 X4
  simp only[Exit.inBlock,Exit.then]
  repeat' (fail_if_success with_reducible refine dQ rfl ?_);first|go_values|gi_guarded|gi_step|gi_upon|simp only[];go_at_K
  refine wpIn_wide.2 ?_
  go_quiet (fail)
  repeat' (fail_if_success with_reducible refine dQ rfl ?_);first|go_values|gi_guarded|gi_step|gi_upon|simp only[];go_at_K
  refine⟨by simp,.inl ⟨_,_,rfl,run_takeDeferred pe,?_⟩⟩
  have U4:ab [w1.heap.size] [w1.heap.size] W3 ((W3.drewN nq).putObj w1.heap.size (.deferred none)):=((ab.refl [w1.heap.size] W3).drewN nq).trans (iL _ _ _)
  have jF:=gH.aq U4 (fun j hj h=>fV gH.own pe rfl (by rw[←mem_singleton.1 h];exact hj)) (fun y hy j hj h=>fV (gH.each y hy).own pe rfl (by rw[←mem_singleton.1 h];exact hj))
  have U5:=(U2.drewN nq).grown (grownBy_putObj' (W3.drewN nq) w1.heap.size (.deferred none)) (fun k hk=>by cases hk;right;omega)
  exact⟨.tuple #[.slice A1 k1 c1,.int .i64 (((cg b).2:Nat):Int)],by simp[results,results72,go_sem],A1,k1,c1,xs,rfl,Cm,jF,U5.gives (fun k hk=>U2.fresh k (by simp[hk]))⟩
