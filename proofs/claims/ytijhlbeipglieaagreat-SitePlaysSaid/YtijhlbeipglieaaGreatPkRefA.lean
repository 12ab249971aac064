/- For SitePlays. -/
import Derived.Test.YtijhlbeipglieaaGreatPkWrldM
set_option linter.all false
set_option maxRecDepth 100000
set_option maxHeartbeats 8000000
namespace aA
open Go Go.RowKit List
end aA
namespace Go.Proofs.YtijhlbeipglieaaGreat
open Go.RowKit aA Go.Maps List
structure aL where
 slot:Int
 ax:Bl
 PA:Option Addr
 pc:Nat
 pr:List bq
 so:Bool
 v:aM
 VA:Option Addr
 vc:Nat
 vt:List (Int × Bl)
 bG:Nat
def aL.cells(r:aL):List Value:=[.int .i64 r.slot,.int .i64 r.ax.r,.int .i64 r.ax.s,.slice r.PA r.pr.length r.pc,.bool r.so,.slice r.v.A r.v.n r.v.c,.slice r.VA r.vt.length r.vc,.int .i64 (r.bG:Int)]
theorem aL.iG(r:aL):r.cells.length=8:=rfl
def aL.val(r:aL):Value:=.agg r.cells.toArray
def aL.pl(r:aL):Int × Rn:=(r.slot,⟨r.ax,r.pr.map bq.pl,r.so,r.v.b,r.vt,r.bG⟩)
structure aL.o7(w:World)(r:aL):Prop where
 pr:bR bq.cells 5 w r.PA r.pr.length r.pr
 pb:∀p∈r.pr,aD w p.s.A p.s.n p.s.b
 vt:bR jg 3 w r.VA r.vt.length r.vt
 v:aD w r.v.A r.v.n r.v.b
theorem aL.o7.au{w w':World}{r:aL}{b:List Nat}(h:r.o7 w)(hu:aa [] b w w'):r.o7 w':=⟨h.pr.au hu,fun p hp=>(h.pb p hp).upd hu,h.vt.au hu,h.v.upd hu⟩
def lQ(x:Int × aN):List Value:=[.int .i64 x.1,.int .i64 x.2.p.r,.int .i64 x.2.p.s,.bool x.2.so,.int .i64 x.2.at_.r,.int .i64 x.2.at_.s,.slice x.2.A x.2.n x.2.c]
def jh(x:Int × aM):List Value:=[.int .i64 x.1,.slice x.2.A x.2.n x.2.c]
structure ai where
 me:Nat
 n:Nat
 pat:Nat
 down:Bool
 D:aM
 dn:Nat
 KA:Option Addr
 kc:Nat
 K:List (Int × aN)
 LA:Option Addr
 lc:Nat
 L:List (Int × aM)
 taken:Nat
 RA:Option Addr
 rc:Nat
 R:List aL
 nx:Nat
 w0:Int
 w1:Int
 w2:Int
 w3:Int
 w4:Int
 w5:Int
 w6:Int
 HA:Option Addr
 hc:Nat
 held:List Mv
namespace ai
variable (r:ai)
def cells:List Value:=[.int .i64 (r.me:Int),.int .i64 (r.n:Int),.int .i64 (r.pat:Int),.bool r.down,.slice r.D.A r.D.n r.D.c,.int .i64 (r.dn:Int),.slice r.KA r.K.length r.kc,.slice r.LA r.L.length r.lc,.int .i64 (r.taken:Int),
 .slice r.RA r.R.length r.rc,.int .i64 (r.nx:Int),.int .i64 (r.me:Int),.int .i64 (r.n:Int),.int .i64 (r.pat:Int),.int .i64 r.w0,.int .i64 r.w1,.int .i64 r.w2,.int .i64 r.w3,.int .i64 r.w4,.int .i64 r.w5,.int .i64 r.w6,.slice r.HA r.held.length r.hc]
def val:Value:=.agg r.cells.toArray
def wt:List Int:=[r.w0,r.w1,r.w2,r.w3,r.w4,r.w5,r.w6]
def look(x:Int):Option aN:=(r.K.find? fun p=>decide (p.1=x)).map Prod.snd
def zero:aN:=⟨⟨0,0⟩,false,⟨0,0⟩,none,0,0,[]⟩
def state(x:Int):aN:=(r.look x).getD zero
end ai
structure lX(w:World)(r:ai):Prop where
 db:aD w r.D.A r.D.n r.D.b
 dc:r.D.n≤r.D.c∧r.D.c≤maxLen
 K:bR lQ 7 w r.KA r.K.length r.K
 kb:∀x∈r.K,aD w x.2.A x.2.n x.2.b
 L:bR jh 2 w r.LA r.L.length r.L
 lb:∀x∈r.L,aD w x.2.A x.2.n x.2.b
 R:bR aL.cells 8 w r.RA r.R.length r.R
 rc:r.R.length≤r.rc∧r.rc≤maxLen
 rb:∀x∈r.R,x.o7 w
 held:bR Mv.cells 10 w r.HA r.held.length r.held
 hb:∀x∈r.held,aD w x.A x.n x.b
 big:r.K.length≤1000000000∧r.L.length≤1000000000∧r.R.length≤1000000000∧r.held.length≤1000000000
theorem lX.au{w w':World}{r:ai}{b:List Nat}(h:lX w r)(hu:aa [] b w w'):lX w' r:=
 ⟨h.db.upd hu,h.dc,h.K.au hu,fun x hx=>(h.kb x hx).upd hu,h.L.au hu,fun x hx=>(h.lb x hx).upd hu,h.R.au hu,h.rc,fun x hx=>(h.rb x hx).au hu,h.held.au hu,fun x hx=>(h.hb x hx).upd hu,h.big⟩
def dX(L:List (Int × aM))(x:Int):Option aM:=(L.find? fun p=>decide (p.1=x)).map Prod.snd
def pI:Option aM→Value
 |none=>.slice none 0 0
 |some b=>.slice b.A b.n b.c
structure nW(p:Prop):Prop where
 out:p
theorem xD(w:World)(A:Option Addr)(c:Nat)(L:List (Int × aM))(h:bR jh 2 w A L.length L)(hb:L.length≤1099511627776)(x:Int) :
  Calls Tryz.prog 157 #[.slice A L.length c,.int .i64 x] w fun e w'=>e=.returned (.tuple #[pI (dX L x),.bool (dX L x).isSome])∧w=w':=by
 obtain⟨F,hF⟩:=ex1 (dX L x)
 have HF:=hdn hF
 rw[hF]
 clear hF
 go_enter Tryz.func157,Tryz.ntmps157
 repeat' go_step
 go_loopw [6] (fun v6 wr=>nW (∃i:Nat,i≤L.length∧v6=.int .i64 (i:Int)∧dX (L.drop i) x=F∧wr=w)) (fun v6 _=>L.length-(intOf v6).toNat)
 case atStart=>exact nW.mk ⟨0,by omega,rfl,HF.out,by trivial⟩
 case round=>
  obtain⟨i,hi,rfl,hd,hwr⟩:=hrel.out
  subst hwr
  clear hrel
  have HD:=hdn hd
  clear hd
  by_cases hlt:i<L.length
  ·have hil:(i:Int)<(L.length:Int):=by omega
   have hw1:=aA.wr ((i:Int)+1)
   obtain⟨ad,rfl,h0,hj⟩:=bR.at_ (f:=jh) (s:=2) (fun _=>rfl) h hlt
   have HS:=hdn (show dX (L.drop i) x=if L[i].1=x then some L[i].2 else dX (L.drop (i+1)) x by
    unfold dX
    rw[drop_eq_getElem_cons hlt,List.find?_cons]
    by_cases e:L[i].1=x
    ·simp[e]
    ·simp[e])
   generalize L[i]=y at *
   have d0:=h0 _ rfl
   have d1:=hj 1 _ (by omega) rfl
   clear h0 hj
   by_cases e1:y.1=x
   ·have t1:(y.1==x)=true:=by rw[e1];exact beq_self_eq_true _
    have HE:=hdn e1
    clear e1
    refine wk ?_
    go_ret2
    have:=HS.out
    rw[if_pos HE.out,HD.out]at this
    rw[this]
    exact⟨rfl,rfl⟩
   ·have t1:(y.1==x)=false:=beq_false_of_ne e1
    refine wk ?_
    refine⟨nW.mk ⟨i+1,by omega,by simp,?_,by trivial⟩,by simp[intOf];omega⟩
    have:=HS.out
    rw[if_neg e1,HD.out]at this
    exact this.symm
  ·obtain rfl:i=L.length:=by omega
   have hil:¬ ((L.length:Int)<(L.length:Int)):=by omega
   have hFn:F=none:=by rw[←HD.out,drop_length];rfl
   subst hFn
   refine wk ?_
   go_ret2
   exact⟨rfl,rfl⟩
def ng(K:List (Int × aN))(x:Int):Option aN:=(K.find? fun p=>decide (p.1=x)).map Prod.snd
theorem kV(w:World)(r:ai)(h:lX w r)(x:Int):Calls Tryz.prog 92 #[r.val,.int .i64 x] w fun e w'=>e=.returned (r.state x).val∧aa [] [] w w':=by
 obtain⟨W,H,eW,hH,hB,U0⟩:=az w 63 r.cells.toArray
 obtain⟨W2,G,fu,hG,hG2,U2⟩:=az W 166 #[.int .i64 0,.int .i64 0,.bool false,.int .i64 0,.int .i64 0,.slice none 0 0]
 have aK:aa [] [] w W2:=U0.g0.trans U2.g0
 obtain⟨K,hK⟩:=ex1 r.K
 obtain⟨F,hF⟩:=ex1 (r.state x)
 have HF:=hdn (show(ng K x).getD ai.zero=F by rw[←hF,←hK];rfl)
 have acy:=h.K.au aK
 have agG:=h.big.1
 have hB2:=hB.upd U2
 rw[hK]at acy agG
 have q5:W2.cell? ⟨H,6,none⟩=some (.slice r.KA K.length r.kc):=by rw[hB2.cell 6,←hK];rfl
 rw[hF,ai.val]
 unfold ai.cells at eW ⊢
 rw[hK]at eW ⊢
 clear hF hK h hB hB2
 go_enter Tryz.func92,Tryz.ntmps92
 repeat' go_step
 go_loopw [5] (fun v5 wr=>nW (∃i:Nat,i≤K.length∧v5=.int .i64 (i:Int)∧(ng (K.drop i) x).getD ai.zero=F∧W2=wr)) (fun v5 _=>K.length-(intOf v5).toNat)
 case atStart=>exact nW.mk ⟨0,by omega,rfl,HF.out,by trivial⟩
 case round=>
  obtain⟨i,hi,rfl,hd,hwr⟩:=hrel.out
  subst hwr
  clear hrel
  have HD:=hdn hd
  clear hd
  by_cases hlt:i<K.length
  ·have hil:(i:Int)<(K.length:Int):=by omega
   have hw1:=aA.wr ((i:Int)+1)
   obtain⟨ad,hA,h0,hj⟩:=bR.at_ (f:=lQ) (s:=7) (fun _=>rfl) acy hlt
   rw[hA]at q5
   have HS:=hdn (show ng (K.drop i) x=if K[i].1=x then some K[i].2 else ng (K.drop (i+1)) x by
    unfold ng
    rw[drop_eq_getElem_cons hlt,List.find?_cons]
    by_cases e:K[i].1=x
    ·simp[e]
    ·simp[e])
   generalize K[i]=y at *
   have d0:=h0 _ rfl
   have d1:=hj 1 _ (by omega) rfl
   have d2:=hj 2 _ (by omega) rfl
   have d3:=hj 3 _ (by omega) rfl
   have d4:=hj 4 _ (by omega) rfl
   have d5:=hj 5 _ (by omega) rfl
   have d6:=hj 6 _ (by omega) rfl
   clear h0 hj acy
   by_cases e1:y.1=x
   ·have t1:(y.1==x)=true:=by rw[e1];exact beq_self_eq_true _
    have HE:=hdn e1
    clear e1
    obtain⟨⟨g0,g1,g2,g3,g4,g5⟩,l0,l1,l2,l3,l4,l5⟩:=hG2.c6
    have adp:=dM (w:=w) [.int .i64 y.2.p.r,.int .i64 y.2.p.s,.bool y.2.so,.int .i64 y.2.at_.r,.int .i64 y.2.at_.s,.slice y.2.A y.2.n y.2.c] hG2 rfl aK (.inr (by have:=U0.size;omega))
    simp only[setRow]at adp
    obtain⟨QH,hfu⟩:=adp
    obtain⟨⟨y0,y1,y2,y3,y4,y5⟩,-⟩:=QH.c6
    have agH:F=y.2:=by
     have:=HS.out
     rw[if_pos HE.out]at this
     rw[←HD.out,this];rfl
    have agH:=hdn agH
    clear QH
    refine wk ?_
    exact bodyPost_ret (v:=.agg #[.int .i64 y.2.p.r,.int .i64 y.2.p.s,.bool y.2.so,.int .i64 y.2.at_.r,.int .i64 y.2.at_.s,.slice y.2.A y.2.n y.2.c]) (by simp[results,Tryz.results92,go_sem,y0,y1,y2,y3,y4,y5]) rfl ⟨by rw[agH.out];rfl,hfu⟩
   ·have t1:(y.1==x)=false:=beq_false_of_ne e1
    refine wk ?_
    refine⟨nW.mk ⟨i+1,by omega,by simp,?_,by trivial⟩,by simp[intOf];omega⟩
    have:=HS.out
    rw[if_neg e1]at this
    rw[←this];exact HD.out
  ·obtain rfl:i=K.length:=by omega
   have hil:¬ ((K.length:Int)<(K.length:Int)):=by omega
   obtain⟨⟨g0,g1,g2,g3,g4,g5⟩,l0,l1,l2,l3,l4,l5⟩:=hG2.c6
   have adp:=dM (w:=w) [.int .i64 0,.int .i64 0,.bool false,.int .i64 0,.int .i64 0,.slice none 0 0] hG2 rfl aK (.inr (by have:=U0.size;omega))
   simp only[setRow]at adp
   obtain⟨QH,hfu⟩:=adp
   obtain⟨⟨y0,y1,y2,y3,y4,y5⟩,-⟩:=QH.c6
   have agH:F=ai.zero:=by rw[←HD.out,drop_length];rfl
   have agH:=hdn agH
   clear QH
   refine wk ?_
   exact bodyPost_ret (v:=.agg #[.int .i64 0,.int .i64 0,.bool false,.int .i64 0,.int .i64 0,.slice none 0 0]) (by simp[results,Tryz.results92,go_sem,y0,y1,y2,y3,y4,y5]) rfl ⟨by rw[agH.out];rfl,hfu⟩
end Go.Proofs.YtijhlbeipglieaaGreat
namespace aA
open Go Go.RowKit List
section
variable {P:Program} {w:World} {G:Nat} {t tt:TypeId} {cs:Array Value}
theorem yX(vs:List Value)(hB:ak w G tt cs)(hl:cs.size=vs.length)(h1:∀u∈vs,u.oneCell'=true) :
  ∃w',(storeCells ⟨G,0,none⟩ vs 0).run P w=.ok () w'∧ak w' G tt vs.toArray∧aa [G] [G] w w':=by
 have hc:∀k,k<vs.length→(w.cell? ⟨G,k,none⟩).isSome=true:=fun k hk=>by
  rw[hB.cell,Array.getElem?_eq_getElem (by omega)];rfl
 have hr:=run_storeCells_cells (P:=P) G 0 vs 0 w (fun j hj=>hc _ (by omega)) (fun j _=>hB.frozen _) h1
 have hb:=ak.tC G tt vs 0 w [] cs.toList [] (by simpa using hB) rfl (by simpa using hl)
 refine⟨_,by simpa using hr,by simpa using hb,mH G vs 0 w (aa.refl [G] w) (.inl (by simp))⟩
theorem di{ops:Array Oper}{rest:List Oper}{o:Oper}{a:Act}{Q:Exit→Act→World→Prop}(hgd:o.guard=none)(p v:Operand)(t:TypeId)(ho:o.op=.store t p v){i:TypeInfo}(hi:P.info? t=some i)(hp:a.eval p=.pointer (some ⟨G,0,none⟩))(vs:List Value)(hv:a.eval v=.agg vs.toArray)(hsz:i.size=vs.length)(hB:ak w G tt cs)(hl:cs.size=vs.length)(h1:vs.all (·.oneCell')=true)(h:∀w',ak w' G tt vs.toArray→aa [G] [G] w w'→wpList P ops Q rest (a.put o.dst undef) w'):wpList P ops Q (o::rest) a w:=by
 obtain⟨w',abS,h2,h3⟩:=yX (P:=P) vs hB hl (by simpa using h1)
 refine wpList_plain hgd fun K hK=>?_
 unfold Oper.wp execOp
 have hc:(Value.agg vs.toArray).cells=vs.toArray:=rfl
 simp[ho,Instr.storeAt,Instr.sureAddr,storeVar,hp,hv,hc,Go.sizeOf,typeInfo,hi,hsz,abS,Result.andThen]
 exact hK _ _ (h w' h2 h3)
theorem eZ{ops:Array Oper}{rest:List Oper}{o:Oper}{a:Act}{Q:Exit→Act→World→Prop}(hgd:o.guard=none)(p:Operand)(t:TypeId)(ho:o.op=.load t p){i:TypeInfo}(hi:P.info? t=some i)(hagg:∀w,(isAgg t).run P w=.ok true w)(hp:a.eval p=.pointer (some ⟨G,0,none⟩))(vs:List Value)(hsz:i.size=vs.length)(hB:ak w G tt vs.toArray)(h:wpList P ops Q rest (a.put o.dst (.agg vs.toArray)) w):wpList P ops Q (o::rest) a w:=by
 have hl:(loadCells ⟨G,0,none⟩ vs.length).run P w=.ok vs.toArray w:=jX rfl fun j u hu=>by
  rw[add0,hB.cell];simpa using hu
 refine wpList_plain hgd fun K hK=>?_
 unfold Oper.wp execOp
 simp[ho,Instr.loadAt,Instr.sureAddr,loadVar,hp,hagg,Go.sizeOf,typeInfo,hi,hsz,hl,Result.andThen]
 exact hK _ _ h
theorem pJ{ops:Array Oper}{rest:List Oper}{o:Oper}{a:Act}{Q:Exit→Act→World→Prop}(hw:Region.wanted o (yielded ops a.tmps)=true)(p:Operand)(t:TypeId)(ho:o.op=.load t p){i:TypeInfo}(hi:P.info? t=some i)(hagg:∀w,(isAgg t).run P w=.ok true w)(hp:a.eval p=.pointer (some ⟨G,0,none⟩))(vs:List Value)(hsz:i.size=vs.length)(hB:ak w G tt vs.toArray)(h:wpList P ops Q rest (a.put o.dst (.agg vs.toArray)) w):wpList P ops Q (o::rest) a w:=by
 have hl:(loadCells ⟨G,0,none⟩ vs.length).run P w=.ok vs.toArray w:=jX rfl fun j u hu=>by
  rw[add0,hB.cell];simpa using hu
 refine wpList_step fun K hK=>?_
 rw[if_pos hw]
 unfold Oper.wp execOp
 simp[ho,Instr.loadAt,Instr.sureAddr,loadVar,hp,hagg,Go.sizeOf,typeInfo,hi,hsz,hl,Result.andThen]
 exact hK _ _ h
end
section
variable {P:Program} {w:World} {G:Nat} {t tt:TypeId} {fn:Func} {tmps:Array Value} {s u v:Nat}
theorem lL{i:TypeInfo}(hi:P.info? t=some i)(hagg:∀w,(isAgg t).run P w=.ok true w)(vs:List Value)(hsz:i.size=vs.length)(hB:ak w G tt vs.toArray):(loadVar t ⟨G,0,none⟩).run P w=.ok (.agg vs.toArray) w:=by
 have hl:(loadCells ⟨G,0,none⟩ vs.length).run P w=.ok vs.toArray w:=jX rfl fun j u hu=>by
  rw[add0,hB.cell];simpa using hu
 simp[loadVar,hagg,Go.sizeOf,typeInfo,hi,hsz,hl]
theorem fK{i:TypeInfo}(hf:fn.results=#[.cell s t])(hs:tmps.getD s undef=.pointer (some ⟨G,0,none⟩))(hi:P.info? t=some i)(hagg:∀w,(isAgg t).run P w=.ok true w)(vs:List Value)(hsz:i.size=vs.length)(hB:ak w G tt vs.toArray) :
  (results fn tmps).run P w=.ok (.agg vs.toArray) w:=by
 have h1:=lL hi hagg vs hsz hB
 unfold results
 rw[hf]
 rw[Array.getD_eq_getD_getElem?]at hs
 simp[asAddr,hs,h1]
theorem jZ{i:TypeInfo}(hf:fn.results=#[.cell s t,.tmp u])(hs:tmps.getD s undef=.pointer (some ⟨G,0,none⟩))(hi:P.info? t=some i)(hagg:∀w,(isAgg t).run P w=.ok true w)(vs:List Value)(hsz:i.size=vs.length)(hB:ak w G tt vs.toArray) :
  (results fn tmps).run P w=.ok (.tuple #[.agg vs.toArray,tmps.getD u undef]) w:=by
 have h1:=lL hi hagg vs hsz hB
 unfold results
 rw[hf]
 rw[Array.getD_eq_getD_getElem?]at hs
 simp[asAddr,hs,h1]
theorem I7{i:TypeInfo}(hf:fn.results=#[.cell s t,.tmp u,.tmp v])(hs:tmps.getD s undef=.pointer (some ⟨G,0,none⟩))(hi:P.info? t=some i)(hagg:∀w,(isAgg t).run P w=.ok true w)(vs:List Value)(hsz:i.size=vs.length)(hB:ak w G tt vs.toArray) :
  (results fn tmps).run P w=.ok (.tuple #[.agg vs.toArray,tmps.getD u undef,tmps.getD v undef]) w:=by
 have h1:=lL hi hagg vs hsz hB
 unfold results
 rw[hf]
 rw[Array.getD_eq_getD_getElem?]at hs
 simp[asAddr,hs,h1]
end
theorem ek{P:Program}{ops:Array Oper}{rest:List Oper}{o:Oper}{a:Act}{w:World}{Q:Exit→Act→World→Prop}{t:TypeId}{p:Operand}(_:o.op=.load t p)(h:wpList P ops Q (o::rest) a w):wpList P ops Q (o::rest) a w:=h
theorem eT{P:Program}{ops:Array Oper}{rest:List Oper}{o:Oper}{a:Act}{w:World}{Q:Exit→Act→World→Prop}{t:TypeId}{p v:Operand}(_:o.op=.store t p v)(h:wpList P ops Q (o::rest) a w):wpList P ops Q (o::rest) a w:=h
section
variable {P:Program} {ops:Array Oper} {S:World→Prop} {o:Oper} {a:Act} {w:World} {G:Nat} {t tt:TypeId} {cs:Array Value} {K:Act→World→Prop} {Q:Exit→Act→World→Prop} {E:Prop}
theorem zT(hw:Region.wanted o (yielded ops a.tmps)=true)(t:TypeId)(p:Operand)(ho:o.op=.load t p){i:TypeInfo}(hi:P.info? t=some i)(hagg:∀w,(isAgg t).run P w=.ok true w)(hp:a.eval p=.pointer (some ⟨G,0,none⟩))(vs:List Value)(hsz:i.size=vs.length)(hS:∀w,S w→ak w G tt vs.toArray):YieldsIf P ops S o (.agg vs.toArray) a:=
 .inl ⟨hw,fun w hw'=>by
  have:=lL hi hagg vs hsz (hS w hw')
  unfold execOp
  simp[ho,hp,Instr.loadAt,Instr.sureAddr,this,Result.andThen]⟩
theorem mi{md : Region.Mode}{fuel : Nat}{listed : Array Bool}{a a2 : Act}{w : World}{oi : Oper}{p : Operand}{t : TypeId}{S : World → Prop}{tt : TypeId}{G : Nat}(i : Nat){ii : TypeInfo}(hi2 : P.info? t = some ii)(vs : List Value)(hsz : ii.size = vs.length)(hB : ∀ w, S w → ak w G tt vs.toArray)(h : wpAnyH P md ops Q S fuel (listed.setIfInBounds i true) a2 w)(hi : ops[i]? = some oi := by rfl)(hs : Region.noSelect ops = true := by kernel_rfl)(hf : Region.free md ops listed i = true := by kernel_rfl)(hr : (Region.ready md ops listed).contains i = true := by kernel_rfl)(hw : Region.wanted oi (yielded ops a.tmps) = true := by first|rfl|kernel_rfl)(ho : oi.op = .load t p := by rfl)(hagg : ∀ w, (isAgg t).run P w = .ok true w := by exact fun _ => rfl)(hp : a.eval p = .pointer (some ⟨G, 0, none⟩) := by rfl)(hQ : ∀ c a w, Q (.panic c) (a.put oi.dst (.agg vs.toArray)) w → Q (.panic c) a w := by exact fun _ _ _ h => h)(hS : S w := by assumption)(ha : a.put oi.dst (.agg vs.toArray) = a2 := by(first|(simp only[Act.put, getElem_toArray, getElem_cons_succ, getElem_cons_zero, setIfInBounds_toArray, set_cons_zero, set_cons_succ]; rfl)|rfl)) : wpAnyH P md ops Q S (fuel+1) listed a w :=
  wpAnyH_take hi hs hf hr hQ (zT hw t p ho hi2 hagg hp vs hsz hB) hS (ha ▸ h)
theorem cu(hg:o.guard=none)(p v:Operand)(t:TypeId)(ho:o.op=.store t p v){i:TypeInfo}(hi:P.info? t=some i)(hp:a.eval p=.pointer (some ⟨G,0,none⟩))(vs:List Value)(hv:a.eval v=.agg vs.toArray)(hsz:i.size=vs.length)(hB:ak w G tt cs)(hl:cs.size=vs.length)(h1:vs.all (·.oneCell')=true)(h:∀w',ak w' G tt vs.toArray→aa [G] [G] w w'→K (a.put o.dst undef) w') :
  if Region.wanted o (yielded ops a.tmps)=true then Oper.wp P o a w K Q else E:=by
 have hw:Region.wanted o (yielded ops a.tmps)=true:=by simp[Region.wanted,hg]
 rw[if_pos hw]
 obtain⟨w',abS,h2,h3⟩:=yX (P:=P) vs hB hl (by simpa using h1)
 unfold Oper.wp execOp
 have hc:(Value.agg vs.toArray).cells=vs.toArray:=rfl
 simp[ho,Instr.storeAt,Instr.sureAddr,storeVar,hp,hv,hc,Go.sizeOf,typeInfo,hi,hsz,abS,Result.andThen]
 exact h w' h2 h3
theorem ku(hg:o.guard=none)(p:Operand)(t:TypeId)(ho:o.op=.load t p){i:TypeInfo}(hi:P.info? t=some i)(hagg:∀w,(isAgg t).run P w=.ok true w)(hp:a.eval p=.pointer (some ⟨G,0,none⟩))(vs:List Value)(hsz:i.size=vs.length)(hB:ak w G tt vs.toArray)(h:K (a.put o.dst (.agg vs.toArray)) w):if Region.wanted o (yielded ops a.tmps)=true then Oper.wp P o a w K Q else E:=by
 have hw:Region.wanted o (yielded ops a.tmps)=true:=by simp[Region.wanted,hg]
 rw[if_pos hw]
 have:=lL hi hagg vs hsz hB
 unfold Oper.wp execOp
 simp[ho,Instr.loadAt,Instr.sureAddr,hp,this,Result.andThen]
 exact h
end
end aA
namespace Go.Proofs.YtijhlbeipglieaaGreat
open Go.RowKit aA Go.Maps Go.Proofs.Tryz List
theorem QI(w:World)(r:ai)(h:lX w r)(agG:r.held.length<1000000000)(tg:Int)(x:Mv)(hx:aD w x.A x.n x.b) :
  Calls prog 139 #[r.val,.int .i64 tg,x.val] w fun e w'=>∃A c,e=.returned ({r with HA:=A,hc:=c,held:=r.held++[{x with f:=(r.me:Int),t:=tg}]} :ai).val∧lX w' {r with HA:=A,hc:=c,held:=r.held++[{x with f:=(r.me:Int),t:=tg}]}∧(∀k∈ah A,w.heap.size≤k)∧aa [] [] w w':=by
 obtain⟨W,H,eW,hH,hB,U0⟩:=az w 63 r.cells.toArray
 obtain⟨W1,J,nK,hJ,fT,U1⟩:=az W 32 #[.int .i64 x.k,.int .i64 x.f,.int .i64 x.t,.int .i64 x.s,.int .i64 x.br,.int .i64 x.bs,.int .i64 x.hr,.int .i64 x.hs,.bool x.so,.slice x.A x.n x.c]
 obtain⟨W2,G,fu,hG,hBG,U2⟩:=az W1 63 cz
 rw[ai.val,Mv.aH]
 unfold ai.cells at eW ⊢
 have hB2:=(hB.upd U1).upd U2
 unfold ai.cells at hB2
 have hJ2:=fT.upd U2
 have afY:J≠H:=by have:=hB.lt;omega
 have ajb:G≠J:=by have:=fT.lt;omega
 have dY:G≠H:=by have:=(hB.upd U1).lt;omega
 have hs0:=U0.size
 have hs1:=U1.size
 have hs2:=U2.size
 have aK:aa [] [] w W2:=(U0.g0.trans U1.g0).trans U2.g0
 obtain⟨⟨j0,j1,j2,-⟩,-,k1,k2,-⟩:=hJ2.c10
 have b0:W2.cell? ⟨H,0,none⟩=some (.int .i64 (r.me:Int)):=hB2.cell 0
 obtain⟨W3,hW3⟩:=ex1 ((W2.setCell ⟨J,1,none⟩ (.int .i64 (r.me:Int))).setCell ⟨J,2,none⟩ (.int .i64 tg))
 have hJ3:ak W3 J 32 #[.int .i64 x.k,.int .i64 (r.me:Int),.int .i64 tg,.int .i64 x.s,.int .i64 x.br,.int .i64 x.bs,.int .i64 x.hr,.int .i64 x.hs,.bool x.so,.slice x.A x.n x.c]:=by rw[←hW3];exact(hJ2.aO 1 _).aO 2 _
 have u3:aa [J] [J] W2 W3:=by rw[←hW3];exact((aa.refl [J] W2).setCell (p:=⟨J,1,none⟩) (.inl (by simp)) _).setCell (p:=⟨J,2,none⟩) (.inl (by simp)) _
 have hB3:=hB2.upd u3 (by simpa using afY.symm)
 have hG3:=hBG.upd u3 (by simpa using ajb)
 have rP:aa [] [] w W3:=aK.aB (X:=[J]) (by simp only[mem_singleton];rintro k rfl;omega) u3
 have h21:(W3.alloc (.cells #[] 32)).cell? ⟨H,21,none⟩=some (.slice r.HA r.held.length r.hc):=(hB3.alloc _).cell 21
 have hr0:=(h.held.au (rP.trans (((aa.refl [] W3).alloc (.cells #[] 32)).gives (b':=[]) (by simp)))).rd
 have adu:∀u∈r.held.flatMap Mv.cells,u.oneCell'=true:=fun u hu=>by
  obtain⟨y,-,hu⟩:=mem_flatMap.1 hu
  simp only[Mv.cells,mem_cons,not_mem_nil,or_false]at hu
  rcases hu with rfl|rfl|rfl|rfl|rfl|rfl|rfl|rfl|rfl|rfl<;>rfl
 have hl3:=hB3.lt
 have hj3:=hJ3.lt
 have hg3:=hG3.lt
 go_enter func139,ntmps139
 repeat' (fail_if_success with_reducible refine Ag rfl ?_);go_step
 refine gT _ rfl _ _ 26 rfl 32 underlying26 wF rfl (by decide) (Own.made 32 10 W3) rfl hr0 rfl adu (by unfold maxLen;omega) (by omega) ?_
 intro A4 c4 W4 bY bM
 have n4:∀{k:Nat},k<W3.heap.size→k∉ah (some (⟨W3.heap.size,0,none⟩:Addr)):=fun hk hm=>by simp only[ah,mem_singleton]at hm;omega
 have hB4:=(hB3.alloc (.cells #[] 32)).upd bM (n4 hl3)
 have QJ:=(hJ3.alloc (.cells #[] 32)).upd bM (n4 hj3)
 have hG4:=(hG3.alloc (.cells #[] 32)).upd bM (n4 hg3)
 have hs3:=rP.size
 have qf:∀k∈ah A4,w.heap.size≤k:=fun k hk=>by
  rcases bM.fresh k hk with hh|hh
  ·simp only[ah,mem_singleton]at hh;omega
  ·simp at hh;omega
 have aeQ:∀k∈ah A4,W3.heap.size≤k:=fun k hk=>by
  rcases bM.fresh k hk with hh|hh
  ·simp only[ah,mem_singleton]at hh;omega
  ·simp at hh;omega
 have uf:aa [] [] w W4:=(rP.trans (((aa.refl [] W3).alloc (.cells #[] 32)).gives (b':=[]) (by simp))).aB (X:=ah (some ⟨W3.heap.size,0,none⟩)) (by simp only[ah,mem_singleton];rintro k rfl;omega) bM
 rw[Nat.zero_add,nil_append]at bY
 clear h21 hr0 bM b0 j0 j1 j2 k1 k2
 obtain⟨⟨j0,j1,j2,j3,j4,j5,j6,j7,j8,j9⟩,-⟩:=QJ.c10
 repeat' (fail_if_success with_reducible refine Ag rfl ?_);go_step
 refine bQ rfl _ _ 26 rfl 32 underlying26 wF rfl (by decide) bY rfl W4.heap.size rfl rfl (news:=({x with f:=(r.me:Int),t:=tg} :Mv).cells) rfl rfl (by unfold maxLen;omega) (by omega) ?_
 intro A5 c5 W5 dB bD
 have n5:∀{k:Nat}{t:TypeId}{cs:Array Value},ak W4 k t cs→t≠32→k∉ah A4:=fun h1 h2 hm=>aU h1.tag (bY.tag _ hm) (by simpa using h2) rfl
 have ZJ:=hdn (show ∀k∈ah A5,w.heap.size≤k from fun k hk=>by
  rcases bD.fresh k hk with hh|hh
  ·exact qf k hh
  ·have:=uf.size;omega)
 have hJA:J∉ah A4:=fun hm=>by
  have h7:=aeQ J hm
  omega
 have fw:=hB4.upd bD (n5 hB4 (by decide))
 have gF:=hG4.upd bD (n5 hG4 (by decide))
 have qQ:aa [] [] w W5:=uf.aB qf bD
 obtain⟨W6,I8⟩:=ex1 (W5.setCell ⟨H,21,none⟩ (.slice A5 (r.held.length+1) c5))
 have dK:ak W6 H 63 #[.int .i64 (r.me:Int),.int .i64 (r.n:Int),.int .i64 (r.pat:Int),.bool r.down,.slice r.D.A r.D.n r.D.c,.int .i64 (r.dn:Int),.slice r.KA r.K.length r.kc,.slice r.LA r.L.length r.lc,.int .i64 (r.taken:Int),.slice r.RA r.R.length r.rc,.int .i64 (r.nx:Int),.int .i64 (r.me:Int),.int .i64 (r.n:Int),.int .i64 (r.pat:Int),.int .i64 r.w0,.int .i64 r.w1,.int .i64 r.w2,.int .i64 r.w3,.int .i64 r.w4,.int .i64 r.w5,.int .i64 r.w6,.slice A5 (r.held.length+1) c5]:=by rw[←I8];exact fw.aO 21 _
 have gK:ak W6 G 63 cz:=by rw[←I8];exact gF.far (p:=⟨H,21,none⟩) dY _
 have u6:aa [H] [H] W5 W6:=by rw[←I8];exact(aa.refl [H] W5).setCell (p:=⟨H,21,none⟩) (.inl (by simp)) _
 have De:aa [] [] w W6:=qQ.aB (X:=[H]) (by simp only[mem_singleton];rintro k rfl;omega) u6
 have iX:=dB.upd u6 (fun k hk=>by simp only[mem_singleton];rintro rfl;exact aU fw.tag (dB.tag _ hk) (by decide) rfl)
 obtain⟨p21,-⟩:W5.cell? ⟨H,21,none⟩=some (.slice r.HA r.held.length r.hc)∧True:=⟨fw.cell 21,trivial⟩
 have f21:=fw.frozen 21
 have RES:=hdn (show ∀W7,aa [G] [G] W6 W7→(∀k∈ah A5,k∉[G])→lX W7 {r with HA:=A5,hc:=c5,held:=r.held++[{x with f:=(r.me:Int),t:=tg}]}from fun W7 u7 FH=>by
  have U:aa [] [] w W7:=De.aB (X:=[G]) (by simp only[mem_singleton];rintro k rfl;omega) u7
  have h7:=h.au U
  refine⟨h7.db,h7.dc,h7.K,h7.kb,h7.L,h7.lb,h7.R,h7.rc,h7.rb,?_,fun y hy=>?_,h7.big.1,h7.big.2.1,h7.big.2.2.1,by simp;omega⟩
  ·rw[length_append,length_singleton]
   have:=(iX.upd u7 FH).rd
   refine⟨by simp,?_⟩
   rw[flatMap_append]
   simpa using this
  ·rcases mem_append.1 hy with hy|hy
   ·exact h7.hb y hy
   ·rw[mem_singleton]at hy;subst hy
    exact hx.upd U)
 have ZK:=hdn (show ∀k∈ah A5,k∉[G]from fun k hk=>by simp only[mem_singleton];rintro rfl;exact aU gK.tag (iX.tag _ hk) (by decide) rfl)
 have Uf:∃i,prog.info? 63=some i∧i.size=22:=⟨_,rfl,by kernel_rfl⟩
 obtain⟨ii,hii,abx⟩:=Uf
 clear j0 j1 j2 j3 j4 j5 j6 j7 j8 j9 dB bD fw gF hB4 hG4 QJ h hx aK rP uf qQ u6 iX bY
 repeat' (fail_if_success with_reducible refine ek (t:=63) rfl ?_);first|go_values|go_skip|go_guarded|go_step|go_upon|simp only[];go_at_K
 refine eZ rfl (.tmp 3) 63 rfl hii (fun _=>rfl) rfl [.int .i64 (r.me:Int),.int .i64 (r.n:Int),.int .i64 (r.pat:Int),.bool r.down,.slice r.D.A r.D.n r.D.c,.int .i64 (r.dn:Int),.slice r.KA r.K.length r.kc,.slice r.LA r.L.length r.lc,.int .i64 (r.taken:Int),.slice r.RA r.R.length r.rc,.int .i64 (r.nx:Int),.int .i64 (r.me:Int),.int .i64 (r.n:Int),.int .i64 (r.pat:Int),.int .i64 r.w0,.int .i64 r.w1,.int .i64 r.w2,.int .i64 r.w3,.int .i64 r.w4,.int .i64 r.w5,.int .i64 r.w6,.slice A5 (r.held.length+1) c5] abx dK ?_
 repeat' (fail_if_success with_reducible refine eT (t:=63) rfl ?_);first|go_values|go_skip|go_guarded|go_step|go_upon|simp only[];go_at_K
 refine di rfl (.tmp 6) (.tmp 22) 63 rfl hii rfl [.int .i64 (r.me:Int),.int .i64 (r.n:Int),.int .i64 (r.pat:Int),.bool r.down,.slice r.D.A r.D.n r.D.c,.int .i64 (r.dn:Int),.slice r.KA r.K.length r.kc,.slice r.LA r.L.length r.lc,.int .i64 (r.taken:Int),.slice r.RA r.R.length r.rc,.int .i64 (r.nx:Int),.int .i64 (r.me:Int),.int .i64 (r.n:Int),.int .i64 (r.pat:Int),.int .i64 r.w0,.int .i64 r.w1,.int .i64 r.w2,.int .i64 r.w3,.int .i64 r.w4,.int .i64 r.w5,.int .i64 r.w6,.slice A5 (r.held.length+1) c5] rfl abx gK rfl rfl ?_
 intro W7 ZL u7
 have ZM:∀k∈ah A5,k∉[G]:=ZK.out
 have Df:aa [] [] w W7:=De.aB (X:=[G]) (by simp only[mem_singleton];rintro k rfl;omega) u7
 refine wk ?_
 refine bodyPost_ret (fK (s:=6) (t:=63) (by rw[results139]) rfl hii (fun _=>rfl) [.int .i64 (r.me:Int),.int .i64 (r.n:Int),.int .i64 (r.pat:Int),.bool r.down,.slice r.D.A r.D.n r.D.c,.int .i64 (r.dn:Int),.slice r.KA r.K.length r.kc,.slice r.LA r.L.length r.lc,.int .i64 (r.taken:Int),.slice r.RA r.R.length r.rc,.int .i64 (r.nx:Int),.int .i64 (r.me:Int),.int .i64 (r.n:Int),.int .i64 (r.pat:Int),.int .i64 r.w0,.int .i64 r.w1,.int .i64 r.w2,.int .i64 r.w3,.int .i64 r.w4,.int .i64 r.w5,.int .i64 r.w6,.slice A5 (r.held.length+1) c5] abx ZL) rfl ⟨A5,c5,?_,RES.out W7 u7 ZM,ZJ.out,Df⟩
 simp[ai.val,ai.cells]
theorem QK:(prog.info? 252).map (fun i=>(i.zero,i.size,i.bytes))=some (some (.agg #[.int .i64 0,.int .i64 0,.int .i64 0,.bool false,.int .i64 0,.int .i64 0,.slice none 0 0]),7,72):=by kernel_rfl
def jB(K:List (Int × aN))(x:Int)(T:aN):List (Int × aN):=K.filter (fun p=>!decide (p.1=x))++[(x,T)]
theorem Ug(w:World)(r:ai)(h:lX w r)(agG:r.K.length<1000000000)(x:Int)(T:aN)(hT:aD w T.A T.n T.b) :
  Calls prog 154 #[r.val,.int .i64 x,T.val] w fun e w'=>∃A c,e=.returned ({r with KA:=A,kc:=c,K:=jB r.K x T} :ai).val∧lX w' {r with KA:=A,kc:=c,K:=jB r.K x T}∧(∀k∈ah A,w.heap.size≤k)∧aa [] [] w w':=by
 obtain⟨W,H,eW,hH,hB,U0⟩:=az w 63 r.cells.toArray
 obtain⟨W1,J,nK,hJ,fT,U1⟩:=az W 166 #[.int .i64 T.p.r,.int .i64 T.p.s,.bool T.so,.int .i64 T.at_.r,.int .i64 T.at_.s,.slice T.A T.n T.c]
 obtain⟨W2,G,fu,hG,hBG,U2⟩:=az W1 63 cz
 rw[ai.val,aN.val]
 unfold ai.cells at eW ⊢
 have hB2:=(hB.upd U1).upd U2
 unfold ai.cells at hB2
 have hJ2:=fT.upd U2
 have dY:G≠H:=by have:=(hB.upd U1).lt;omega
 have hs0:=U0.size
 have hs1:=U1.size
 have hs2:=U2.size
 have aK:aa [] [] w W2:=(U0.g0.trans U1.g0).trans U2.g0
 have acy:=h.K.au aK
 have hkb:=fun p hp=>(h.kb p hp).upd aK
 obtain⟨K,hK⟩:=ex1 r.K
 have q6:W2.cell? ⟨H,6,none⟩=some (.slice r.KA K.length r.kc):=by rw[←hK];exact hB2.cell 6
 have HK:=hdn hK
 rw[hK]at acy hkb agG eW ⊢
 clear hK
 go_enter func154,ntmps154
 repeat' go_step
 go_loopw [7,8] (fun v7 v8 wr=>nW (∃(i:Nat)(A:Option Addr)(c:Nat)(l:List (Int × aN)),i≤K.length∧v8=.int .i64 (i:Int)∧v7=.slice A l.length c∧l=(K.take i).filter (fun p=>!decide (p.1=x))∧l.length≤i∧
  aA.Own 252 7 wr A l.length c (l.flatMap lQ)∧(∀k∈ah A,W2.heap.size≤k)∧aa [] [] W2 wr)) (fun _ v8 _=>K.length-(intOf v8).toNat)
 case atStart=>exact nW.mk ⟨0,none,0,[],by omega,rfl,rfl,rfl,by simp,aA.Own.nil _ _ _,by simp[ah],aa.refl _ _⟩
 case round=>
  obtain⟨i,A,c,l,hi,rfl,rfl,hl,Ae,ho,hA,U⟩:=hrel.out
  clear hrel
  have HL:=hdn hl
  clear hl
  by_cases hlt:i<K.length
  ·have hil:(i:Int)<(K.length:Int):=by omega
   have hw1:=aA.wr ((i:Int)+1)
   have FI:=U.cell q6 (by simp)
   obtain⟨ad,gL,h0,hj⟩:=bR.at_ (f:=lQ) (s:=7) (fun _=>rfl) (acy.au U) hlt
   rw[gL]at FI
   clear gL
   have HT:=hdn (show(K.take (i+1)).filter (fun p=>!decide (p.1=x))=(K.take i).filter (fun p=>!decide (p.1=x))++(if K[i].1=x then[] else[K[i]]) by
    rw[take_succ_eq_append_getElem hlt,filter_append]
    congr 1
    by_cases e:K[i].1=x<;>simp[e])
   generalize K[i]=y at *
   have d0:=h0 _ rfl
   have d1:=hj 1 _ (by omega) rfl
   have d2:=hj 2 _ (by omega) rfl
   have d3:=hj 3 _ (by omega) rfl
   have d4:=hj 4 _ (by omega) rfl
   have d5:=hj 5 _ (by omega) rfl
   have d6:=hj 6 _ (by omega) rfl
   clear h0 hj
   obtain⟨ll,hll⟩:=ex1 l.length
   have nA:=hdn hll
   rw[hll]at ho Ae ⊢
   clear hll
   by_cases e1:y.1=x
   ·have t1:(y.1 != x)=false:=by rw[e1];exact bne_self_eq_false _
    have HE:=hdn e1
    clear e1
    refine bN ?_
    exact⟨nW.mk ⟨i+1,A,c,l,by omega,by simp,by rw[nA.out],by rw[HT.out,if_pos HE.out,append_nil];exact HL.out,by rw[nA.out];omega,by rw[nA.out];exact ho,hA,U⟩,by simp[intOf];omega⟩
   ·have t1:(y.1 != x)=true:=by simp only[bne_iff_ne];exact e1
    repeat' (fail_if_success with_reducible refine Ag rfl ?_);go_step
    refine bQ rfl _ _ 56 rfl 252 underlying56 QK rfl (by decide) ho rfl wr.heap.size rfl rfl (news:=lQ y) rfl rfl (by unfold maxLen;omega) (by omega) ?_
    intro A6 c6 w6 iX eP
    have hs:=U.size
    have jH:∀k∈ah A6,W2.heap.size≤k:=fun k hk=>by
     rcases eP.fresh k hk with hh|hh
     ·exact hA k hh
     ·omega
    have U6:aa [] [] W2 w6:=U.aB hA eP
    clear d0 d1 d2 d3 d4 d5 d6 FI
    refine wk ?_
    refine⟨nW.mk ⟨i+1,A6,c6,l++[y],by omega,by simp,by simp[nA.out],by rw[HT.out,if_neg e1,HL.out],by simp[nA.out];omega,?_,jH,U6⟩,by simp[intOf];omega⟩
    rw[length_append,nA.out,flatMap_append]
    simpa using iX
  ·obtain rfl:i=K.length:=by omega
   have hil:¬ ((K.length:Int)<(K.length:Int)):=by omega
   have FI:=U.cell q6 (by simp)
   have hJ3:=hJ2.upd U
   have hB3:=hB2.upd U
   have hG3:=hBG.upd U
   obtain⟨⟨j0,j1,j2,j3,j4,j5⟩,-⟩:=hJ3.c6
   have MI:=hdn (show l=K.filter (fun p=>!decide (p.1=x)) by rw[HL.out,take_length])
   obtain⟨ll,hll⟩:=ex1 l.length
   have nA:=hdn hll
   rw[hll]at ho Ae ⊢
   clear hll
   repeat' (fail_if_success with_reducible refine Ag rfl ?_);go_step
   refine bQ rfl _ _ 56 rfl 252 underlying56 QK rfl (by decide) ho rfl wr.heap.size rfl rfl (news:=lQ (x,T)) rfl rfl (by unfold maxLen;omega) (by omega) ?_
   intro A6 c6 W5 dB bD
   have hsU:=U.size
   have ZJ:=hdn (show ∀k∈ah A6,w.heap.size≤k from fun k hk=>by
    rcases bD.fresh k hk with hh|hh
    ·have:=hA k hh;omega
    ·omega)
   have n5:∀{k:Nat},k<W2.heap.size→k∉ah A:=fun hk hm=>by have:=hA _ hm;omega
   have hl2:=hB2.lt
   have hg2:=hBG.lt
   have fw:=hB3.upd bD (n5 hl2)
   have gF:=hG3.upd bD (n5 hg2)
   have qQ:aa [] [] w W5:=(aK.trans U).aB (fun k hk=>by have:=hA k hk;omega) bD
   obtain⟨W6,I8⟩:=ex1 (W5.setCell ⟨H,6,none⟩ (.slice A6 (ll+1) c6))
   have dK:ak W6 H 63 #[.int .i64 (r.me:Int),.int .i64 (r.n:Int),.int .i64 (r.pat:Int),.bool r.down,.slice r.D.A r.D.n r.D.c,.int .i64 (r.dn:Int),.slice A6 (ll+1) c6,.slice r.LA r.L.length r.lc,.int .i64 (r.taken:Int),.slice r.RA r.R.length r.rc,.int .i64 (r.nx:Int),.int .i64 (r.me:Int),.int .i64 (r.n:Int),.int .i64 (r.pat:Int),.int .i64 r.w0,.int .i64 r.w1,.int .i64 r.w2,.int .i64 r.w3,.int .i64 r.w4,.int .i64 r.w5,.int .i64 r.w6,.slice r.HA r.held.length r.hc]:=by rw[←I8];exact fw.aO 6 _
   have gK:ak W6 G 63 cz:=by rw[←I8];exact gF.far (p:=⟨H,6,none⟩) dY _
   have u6:aa [H] [H] W5 W6:=by rw[←I8];exact(aa.refl [H] W5).setCell (p:=⟨H,6,none⟩) (.inl (by simp)) _
   have De:aa [] [] w W6:=qQ.aB (X:=[H]) (by simp only[mem_singleton];rintro k rfl;omega) u6
   have iX:=dB.upd u6 (fun k hk=>by simp only[mem_singleton];rintro rfl;exact aU fw.tag (dB.tag _ hk) (by decide) rfl)
   have p6:W5.cell? ⟨H,6,none⟩=some (.slice r.KA r.K.length r.kc):=fw.cell 6
   have f6:=fw.frozen 6
   have RES:=hdn (show ∀W7,aa [G] [G] W6 W7→(∀k∈ah A6,k∉[G])→ll+1=(jB r.K x T).length∧lX W7 {r with KA:=A6,kc:=c6,K:=jB r.K x T}from fun W7 u7 FH=>by
    have U7:aa [] [] w W7:=De.aB (X:=[G]) (by simp only[mem_singleton];rintro k rfl;omega) u7
    have h7:=h.au U7
    have e:jB r.K x T=l++[(x,T)]:=by unfold jB;rw[HK.out,MI.out]
    have el:ll+1=(jB r.K x T).length:=by rw[e,length_append,nA.out];rfl
    refine⟨el,h7.db,h7.dc,?_,fun y hy=>?_,h7.L,h7.lb,h7.R,h7.rc,h7.rb,h7.held,h7.hb,by show(jB r.K x T).length≤_;omega,h7.big.2.1,h7.big.2.2.1,h7.big.2.2.2⟩
    ·show bR lQ 7 W7 A6 (jB r.K x T).length (jB r.K x T)
     rw[←el]
     have:=(iX.upd u7 FH).rd
     refine⟨el,?_⟩
     rw[e,flatMap_append]
     simpa using this
    ·rw[show({r with KA:=A6,kc:=c6,K:=jB r.K x T} :ai).K=l++[(x,T)]from e]at hy
     rcases mem_append.1 hy with hy|hy
     ·refine h7.kb y ?_
      rw[MI.out]at hy
      rw[HK.out]
      exact(mem_filter.1 hy).1
     ·rw[mem_singleton]at hy;subst hy
      exact hT.upd U7)
   have ZK:=hdn (show ∀k∈ah A6,k∉[G]from fun k hk=>by simp only[mem_singleton];rintro rfl;exact aU gK.tag (iX.tag _ hk) (by decide) rfl)
   have Uf:∃i,prog.info? 63=some i∧i.size=22:=⟨_,rfl,by kernel_rfl⟩
   obtain⟨ii,hii,abx⟩:=Uf
   clear j0 j1 j2 j3 j4 j5 dB bD fw gF hB3 hG3 hJ3 hB2 hJ2 hBG h aK qQ u6 iX ho acy hkb hB fT q6 FI U
   repeat' (fail_if_success with_reducible refine ek (t:=63) rfl ?_);first|go_values|go_skip|go_guarded|go_step|go_upon|simp only[];go_at_K
   refine eZ rfl (.tmp 3) 63 rfl hii (fun _=>rfl) rfl [.int .i64 (r.me:Int),.int .i64 (r.n:Int),.int .i64 (r.pat:Int),.bool r.down,.slice r.D.A r.D.n r.D.c,.int .i64 (r.dn:Int),.slice A6 (ll+1) c6,.slice r.LA r.L.length r.lc,.int .i64 (r.taken:Int),.slice r.RA r.R.length r.rc,.int .i64 (r.nx:Int),.int .i64 (r.me:Int),.int .i64 (r.n:Int),.int .i64 (r.pat:Int),.int .i64 r.w0,.int .i64 r.w1,.int .i64 r.w2,.int .i64 r.w3,.int .i64 r.w4,.int .i64 r.w5,.int .i64 r.w6,.slice r.HA r.held.length r.hc] abx dK ?_
   repeat' (fail_if_success with_reducible refine eT (t:=63) rfl ?_);first|go_values|go_skip|go_guarded|go_step|go_upon|simp only[];go_at_K
   refine di rfl (.tmp 6) (.tmp 39) 63 rfl hii rfl [.int .i64 (r.me:Int),.int .i64 (r.n:Int),.int .i64 (r.pat:Int),.bool r.down,.slice r.D.A r.D.n r.D.c,.int .i64 (r.dn:Int),.slice A6 (ll+1) c6,.slice r.LA r.L.length r.lc,.int .i64 (r.taken:Int),.slice r.RA r.R.length r.rc,.int .i64 (r.nx:Int),.int .i64 (r.me:Int),.int .i64 (r.n:Int),.int .i64 (r.pat:Int),.int .i64 r.w0,.int .i64 r.w1,.int .i64 r.w2,.int .i64 r.w3,.int .i64 r.w4,.int .i64 r.w5,.int .i64 r.w6,.slice r.HA r.held.length r.hc] rfl abx gK rfl rfl ?_
   intro W7 ZL u7
   have ZM:∀k∈ah A6,k∉[G]:=ZK.out
   obtain⟨el,WJ⟩:=RES.out W7 u7 ZM
   have Df:aa [] [] w W7:=De.aB (X:=[G]) (by simp only[mem_singleton];rintro k rfl;omega) u7
   rw[HK.out]at el WJ
   have EL:=hdn el
   clear el
   refine wk ?_
   refine bodyPost_ret (fK (s:=6) (t:=63) (by rw[results154]) rfl hii (fun _=>rfl) [.int .i64 (r.me:Int),.int .i64 (r.n:Int),.int .i64 (r.pat:Int),.bool r.down,.slice r.D.A r.D.n r.D.c,.int .i64 (r.dn:Int),.slice A6 (ll+1) c6,.slice r.LA r.L.length r.lc,.int .i64 (r.taken:Int),.slice r.RA r.R.length r.rc,.int .i64 (r.nx:Int),.int .i64 (r.me:Int),.int .i64 (r.n:Int),.int .i64 (r.pat:Int),.int .i64 r.w0,.int .i64 r.w1,.int .i64 r.w2,.int .i64 r.w3,.int .i64 r.w4,.int .i64 r.w5,.int .i64 r.w6,.slice r.HA r.held.length r.hc] abx ZL) rfl ⟨A6,c6,?_,WJ,ZJ.out,Df⟩
   simp[ai.val,ai.cells,EL.out]
end Go.Proofs.YtijhlbeipglieaaGreat
namespace aA
open Go List
theorem qZ:∀(n:Nat)(l:List Int),l.Nodup→(∀x∈l,0≤x∧x<(n:Int))→l.length≤n
 |0,l,_,h=>by
  cases l with
  |nil=>simp
  |cons x r=>have:=h x (by simp);omega
 |n+1,l,hd,h=>by
  by_cases hm:(n:Int)∈l
  ·have h1:=qZ n (l.erase (n:Int)) (hd.erase _) (fun x hx=>by
    rw[hd.mem_erase_iff]at hx
    have:=h x hx.2
    have:=hx.1
    omega)
   rw[length_erase_of_mem hm]at h1
   omega
  ·have h1:=qZ n l hd (fun x hx=>by
    have:=h x hx
    have:x≠(n:Int):=fun e=>hm (e▸hx)
    omega)
   omega
end aA
namespace Go.Proofs.YtijhlbeipglieaaGreat
open Go.RowKit aA Go.Maps List
def pK(K:List (Int × aN))(n:Int):Int:=K.foldl (fun n p=>if p.2.pl.same Sp.zero=false∧n≤p.1 then p.1+1 else n) n
theorem wG:∀(K:List (Int × aN))(n:Int),n≤pK K n
 |[],n=>Int.le_refl n
 |p::K,n=>by
  have:=wG K (if p.2.pl.same Sp.zero=false∧n≤p.1 then p.1+1 else n)
  show n≤pK K (if p.2.pl.same Sp.zero=false∧n≤p.1 then p.1+1 else n)
  split at this<;>rename_i h
  ·rw[if_pos h];omega
  ·rw[if_neg h];exact this
theorem qD:∀(K:List (Int × aN))(n:Int){p:Int × aN},p∈K→p.2.pl.same Sp.zero=false→p.1+1≤pK K n
 |q::K,n,p,hp,hz=>by
  show p.1+1≤pK K (if q.2.pl.same Sp.zero=false∧n≤q.1 then q.1+1 else n)
  rcases mem_cons.1 hp with rfl|hp
  ·have:=wG K (if p.2.pl.same Sp.zero=false∧n≤p.1 then p.1+1 else n)
   split at this<;>rename_i h
   ·rw[if_pos h];exact this
   ·rw[if_neg h]
    have:¬ n≤p.1:=fun e=>h ⟨hz,e⟩
    omega
  ·exact qD K _ hp hz
theorem sP:∀(K:List (Int × aN))(n q:Int),n≤q→(∀p∈K,p.2.pl.same Sp.zero=false→p.1+1≤q)→pK K n≤q
 |[],_,_,h,_=>h
 |p::K,n,q,h,hk=>by
  show pK K (if p.2.pl.same Sp.zero=false∧n≤p.1 then p.1+1 else n)≤q
  refine sP K _ q ?_ (fun x hx=>hk x (mem_cons_of_mem _ hx))
  split
  ·rename_i e;exact hk p (by simp) e.1
  ·exact h
def nJ(L:List (Int × aM))(n:Int):Int:=L.foldl (fun n p=>if n≤p.1 then p.1+1 else n) n
theorem zP:∀(K:List (Int × aM))(n:Int),n≤nJ K n
 |[],n=>Int.le_refl n
 |p::K,n=>by
  have:=zP K (if n≤p.1 then p.1+1 else n)
  show n≤nJ K (if n≤p.1 then p.1+1 else n)
  split at this<;>rename_i h
  ·rw[if_pos h];omega
  ·rw[if_neg h];exact this
theorem I9:∀(K:List (Int × aM))(n:Int){p:Int × aM},p∈K→p.1+1≤nJ K n
 |q::K,n,p,hp=>by
  show p.1+1≤nJ K (if n≤q.1 then q.1+1 else n)
  rcases mem_cons.1 hp with rfl|hp
  ·have:=zP K (if n≤p.1 then p.1+1 else n)
   split at this<;>rename_i h
   ·rw[if_pos h];exact this
   ·rw[if_neg h];omega
  ·exact I9 K _ hp
theorem wz:∀(K:List (Int × aM))(n q:Int),n≤q→(∀p∈K,p.1+1≤q)→nJ K n≤q
 |[],_,_,h,_=>h
 |p::K,n,q,h,hk=>by
  show nJ K (if n≤p.1 then p.1+1 else n)≤q
  refine wz K _ q ?_ (fun x hx=>hk x (mem_cons_of_mem _ hx))
  split
  ·exact hk p (by simp)
  ·exact h
theorem Br{α:Type} :∀(L:AL α)(m:Int),m≤L.foldl (fun m p=>max m (p.1+1)) m∧(∀p∈L,p.1+1≤L.foldl (fun m p=>max m (p.1+1)) m)∧∀q,m≤q→(∀p∈L,p.1+1≤q)→L.foldl (fun m p=>max m (p.1+1)) m≤q
 |[],m=>⟨Int.le_refl m,by simp,fun q h _=>h⟩
 |p::L,m=>by
  obtain⟨h1,h2,h3⟩:=Br L (max m (p.1+1))
  rw[foldl_cons]
  refine⟨by omega,fun x hx=>?_,fun q hq hp=>h3 q ?_ fun x hx=>hp x (mem_cons_of_mem _ hx)⟩
  ·rcases mem_cons.1 hx with rfl|hx
   ·omega
   ·exact h2 x hx
  ·have:=hp p (by simp);omega
theorem qB{L:List (Int × aM)}{x:Int}{T:aM}(h:dX L x=some T):(x,T)∈L:=by
 unfold dX at h
 rw[Option.map_eq_some_iff]at h
 obtain⟨p,hp,rfl⟩:=h
 have h1:=List.find?_some hp
 have h2:=List.mem_of_find?_eq_some hp
 simp only[decide_eq_true_eq]at h1
 rw[←h1];exact h2
theorem MJ{L:List (Int × aM)}{p:Int × aM}(hp:p∈L):(dX L p.1).isSome=true:=by
 unfold dX
 rw[Option.isSome_map,List.find?_isSome]
 exact⟨p,hp,by simp⟩
theorem Uh(K:List (Int × aN))(x y:Int)(T:aN):ng (jB K x T) y=if x=y then some T else ng K y:=by
 unfold jB ng
 rw[List.find?_append]
 by_cases e:x=y
 ·subst e
  have:(K.filter fun p=>!decide (p.1=x)).find? (fun p=>decide (p.1=x))=none:=by
   rw[List.find?_eq_none]
   intro p hp
   have:=(mem_filter.1 hp).2
   simpa using this
  rw[this];simp
 ·rw[if_neg e]
  have:(K.filter fun p=>!decide (p.1=x)).find? (fun p=>decide (p.1=y))=K.find? fun p=>decide (p.1=y):=by
   rw[List.find?_filter]
   congr 1
   funext p
   by_cases e2:p.1=y
   ·have:p.1≠x:=fun e3=>e (e3▸e2)
    simp[e2,this];omega
   ·simp[e2]
  rw[this]
  cases K.find? fun p=>decide (p.1=y) with
  |none=>simp[e]
  |some p=>simp
structure iM(r:ai)(s:Site):Prop where
 me:r.me=s.me
 n:r.n=s.n
 pat:r.pat=s.pat
 down:r.down=s.down
 db:r.D.b=s.db
 dn:r.dn=s.dn
 st:∀x,(r.state x).pl=s.stat x
 kn:(r.K.map Prod.fst).Nodup
 kr:∀p∈r.K,0≤p.1∧p.1<4096
 top:pK r.K 0=s.top
 lv:∀x,(dX r.L x).map aM.b=s.dec x
 ln:(r.L.map Prod.fst).Nodup
 lr:∀p∈r.L,0≤p.1∧p.1<4096
 taken:r.taken=s.taken
 tk:s.taken≤4096∧∀i:Nat,i<s.taken→(s.dec i).isSome=true
 rs:r.R.map aL.pl=s.rs
 rn:(s.rs.map Prod.fst).Nodup
 nx:r.nx=s.nx
 wt:r.wt=s.wt
 held:r.held.map Mv.ms=s.held
 ok:s.Ok
 dk:s.db.length≤1048576∧s.dn≤s.db.length
namespace iM
variable {r:ai} {s:Site}
theorem kl(h:iM r s):r.K.length≤4096:=by
 have:=qZ 4096 (r.K.map Prod.fst) h.kn (fun x hx=>by
  obtain⟨p,hp,rfl⟩:=mem_map.1 hx
  have:=h.kr p hp;omega)
 simpa using this
theorem ll(h:iM r s):r.L.length≤4096:=by
 have:=qZ 4096 (r.L.map Prod.fst) h.ln (fun x hx=>by
  obtain⟨p,hp,rfl⟩:=mem_map.1 hx
  have:=h.lr p hp;omega)
 simpa using this
theorem rl(h:iM r s):r.R.length≤4096:=by
 have:=qZ 4096 (s.rs.map Prod.fst) h.rn (fun x hx=>by
  obtain⟨p,hp,rfl⟩:=mem_map.1 hx
  have:=h.ok.rs p hp;omega)
 rw[←h.rs]at this
 simpa using this
theorem hl(h:iM r s):r.held.length=s.held.length:=by rw[←h.held];simp
theorem fresh(h:iM r s)(x:Int):((dX r.L x).isNone&&(r.state x).pl.same Sp.zero)=s.fresh x:=by
 unfold Site.fresh
 rw[←h.lv,h.st,Option.isNone_map]
theorem Og(h:iM r s):nJ r.L 0=fQ s.lv:=by
 obtain⟨h1,h2,h3⟩:=Br s.lv 0
 refine Int.le_antisymm (wz _ _ _ h1 fun p hp=>?_) (h3 _ (zP _ _) fun p hp=>?_)
 ·have:=MJ hp
  rw[←Option.isSome_map (f:=aM.b),h.lv,Option.isSome_iff_exists]at this
  obtain⟨v,hv⟩:=this
  exact h2 _ (aY hv)
 ·cases hg:dX r.L p.1 with
  |some b=>exact I9 r.L 0 (qB hg)
  |none=>
   have:=h.lv p.1
   rw[hg]at this
   exact absurd rfl (rX.1 this.symm p hp)
theorem aeR(h:iM r s):pK r.K (nJ r.L 0)=s.bJ:=by
 have e1:=h.Og
 have e2:=h.top
 have h0:=zP r.L 0
 unfold Site.bJ
 rw[←e1,←e2]
 refine Int.le_antisymm (sP _ _ _ (by omega) fun p hp hz=>?_) ?_
 ·have:=qD r.K 0 hp hz;omega
 ·have h4:=wG r.K (nJ r.L 0)
  have h5:=sP r.K 0 (pK r.K (nJ r.L 0)) (by omega) (fun p hp hz=>qD r.K _ hp hz)
  omega
theorem send(h:iM r s){x:Mv}(hm:x.ms.Fit){tg:Int}(ht:0≤tg∧tg≤6)(A:Option Addr)(c:Nat):iM {r with HA:=A,hc:=c,held:=r.held++[{x with f:=(r.me:Int),t:=tg}]} (s.send tg x.ms):=
 ⟨h.me,h.n,h.pat,h.down,h.db,h.dn,h.st,h.kn,h.kr,h.top,h.lv,h.ln,h.lr,h.taken,h.tk,h.rs,h.rn,h.nx,h.wt,by
  rw[map_append,h.held,map_singleton,h.me];rfl,h.ok.send hm ht,h.dk⟩
theorem turn(h:iM r s){x:Int}(hx:0≤x∧x<4096){T:aN}(hz:T.pl.same Sp.zero=false)(hy:T.pl.b.length≤2048∧T.pl.p.may 7=true∧T.pl.at_.may 7=true)(A:Option Addr)(c:Nat) :
  iM {r with KA:=A,kc:=c,K:=jB r.K x T} (s.turn x T.pl):=by
 refine⟨h.me,h.n,h.pat,h.down,h.db,h.dn,fun y=>?_,?_,fun p hp=>?_,?_,h.lv,h.ln,h.lr,h.taken,h.tk,h.rs,h.rn,h.nx,h.wt,h.held,h.ok.turn hx hy,h.dk⟩
 ·show((ng (jB r.K x T) y).getD ai.zero).pl=(aC y (aG x T.pl s.st)).getD Sp.zero
  rw[Uh,kC]
  split
  ·rfl
  ·exact h.st y
 ·show((jB r.K x T).map Prod.fst).Nodup
  unfold jB
  rw[map_append,nodup_append]
  refine⟨(h.kn.sublist (List.filter_sublist.map _)),by simp,fun a ha b hb e=>?_⟩
  subst e
  obtain⟨p,hp,rfl⟩:=mem_map.1 ha
  have:=(mem_filter.1 hp).2
  simp at hb this
  exact this hb
 ·rcases mem_append.1 hp with hp|hp
  ·exact h.kr p (mem_filter.1 hp).1
  ·rw[mem_singleton]at hp;subst hp;exact hx
 ·show pK (jB r.K x T) 0=max s.top (x+1)
  rw[←h.top]
  refine Int.le_antisymm (sP _ _ _ (by have:=wG r.K 0;omega) fun p hp hz=>?_) ?_
  ·rcases mem_append.1 hp with hp|hp
   ·have:=qD r.K 0 (mem_filter.1 hp).1 hz;omega
   ·rw[mem_singleton]at hp;subst hp;simp only;omega
  ·have h1:=qD (jB r.K x T) 0 (p:=(x,T)) (by unfold jB;simp) hz
   have h2:=sP r.K 0 (pK (jB r.K x T) 0) (wG _ _) (fun p hp hz=>by
    by_cases e:p.1=x
    ·rw[e];exact h1
    ·exact qD _ _ (by unfold jB;rw[mem_append];exact .inl (mem_filter.2 ⟨hp,by simpa using e⟩)) hz)
   simp only at h1
   omega
end iM
end Go.Proofs.YtijhlbeipglieaaGreat
namespace aA
open Go Go.RowKit List
def dV(A:Option Addr)(n:Nat):List Nat:=if n=0 then[]else ah A
theorem ji{A:Option Addr}{n:Nat} :∀k∈dV A n,k∈ah A:=fun k hk=>by
 unfold dV at hk;split at hk
 ·cases hk
 ·exact hk
end aA
namespace Go.Proofs.YtijhlbeipglieaaGreat
open Go.RowKit aA Go.Maps Go.Proofs.Tryz List
section
variable {w w':World} {size n:Nat} {A:Option Addr} {xs:List Value} {a b:List Nat}
theorem _root_.aA.Rd.iN(h:Rd w size A n xs)(hu:aa a b w w')(hd:∀k∈dV A n,k∉a):Rd w' size A n xs:=by
 by_cases h0:n=0
 ·exact⟨h.1,fun h1=>absurd h1 (by omega)⟩
 ·exact h.upd hu (by unfold dV at hd;rw[if_neg h0]at hd;exact hd)
theorem _root_.aA.Rd.pY(h:Rd w size A n xs)(hs:0<size):∀k∈dV A n,k<w.heap.size:=fun k hk=>by
 unfold dV at hk
 split at hk
 ·cases hk
 ·rename_i h0
  obtain⟨ad,rfl,hc⟩:=h.2 (by omega)
  have hl:0<xs.length:=by rw[h.1];exact Nat.mul_pos (by omega) hs
  have hc:=hc 0 _ (List.getElem?_eq_getElem hl)
  have:=World.block_lt_of_cell? w _ hc
  simp only[ah,mem_singleton]at hk
  subst hk
  have e:(ad.add 0).block=ad.block:=by unfold Addr.add;split<;>rfl
  rw[e]at this
  exact this
end
theorem _root_.aA.aD.iN{w w':World}{A:Option Addr}{n:Nat}{l:List UInt8}{a b:List Nat}(h:aD w A n l)(hu:aa a b w w')(hd:∀k∈dV A n,k∉a):aD w' A n l:=Rd.iN h hu hd
theorem bR.iN{α:Type}{f:α→List Value}{s:Nat}{w w':World}{A:Option Addr}{n:Nat}{l:List α}{a b:List Nat}(h:bR f s w A n l)(hu:aa a b w w')(hd:∀k∈dV A n,k∉a):bR f s w' A n l:=⟨h.len,Rd.iN h.rd hu hd⟩
def aL.fp(r:aL):List Nat:=dV r.PA r.pr.length++(r.pr.flatMap (fun p=>dV p.s.A p.s.n)++(dV r.VA r.vt.length++dV r.v.A r.v.n))
def ai.fp(r:ai):List Nat:=
 dV r.D.A r.D.n++(dV r.KA r.K.length++(r.K.flatMap (fun x=>dV x.2.A x.2.n)++(dV r.LA r.L.length++(r.L.flatMap (fun x=>dV x.2.A x.2.n) ++
  (dV r.RA r.R.length++(r.R.flatMap aL.fp++(dV r.HA r.held.length++r.held.flatMap (fun x=>dV x.A x.n))))))))
section
variable {w w':World} {a b:List Nat}
theorem aL.o7.vP{r:aL}(h:r.o7 w)(hu:aa a b w w')(hd:∀k∈r.fp,k∉a):r.o7 w':=by
 unfold aL.fp at hd
 refine⟨h.pr.iN hu fun k hk=>hd k ?_,fun p hp=>(h.pb p hp).iN hu fun k hk=>hd k ?_,h.vt.iN hu fun k hk=>hd k ?_,h.v.iN hu fun k hk=>hd k ?_⟩
 ·simp[hk]
 ·rw[mem_append,mem_append];exact .inr (.inl (mem_flatMap.2 ⟨p,hp,hk⟩))
 ·simp[hk]
 ·simp[hk]
theorem ai.sub{r:ai}{k:Nat} :k∈r.fp ↔ k∈dV r.D.A r.D.n∨k∈dV r.KA r.K.length∨(∃x∈r.K,k∈dV x.2.A x.2.n)∨k∈dV r.LA r.L.length∨(∃x∈r.L,k∈dV x.2.A x.2.n)∨
  k∈dV r.RA r.R.length∨(∃x∈r.R,k∈x.fp)∨k∈dV r.HA r.held.length∨∃x∈r.held,k∈dV x.A x.n:=by
 unfold ai.fp
 simp only[mem_append,mem_flatMap]
theorem lX.vP{r:ai}(h:lX w r)(hu:aa a b w w')(hd:∀k∈r.fp,k∉a):lX w' r:=by
 have hd':∀k,_→k∉a:=fun k hk=>hd k (ai.sub.2 hk)
 exact⟨h.db.iN hu fun k hk=>hd' k (.inl hk),h.dc,h.K.iN hu fun k hk=>hd' k (.inr (.inl hk)),fun x hx=>(h.kb x hx).iN hu fun k hk=>hd' k (.inr (.inr (.inl ⟨x,hx,hk⟩))),
  h.L.iN hu fun k hk=>hd' k (.inr (.inr (.inr (.inl hk)))),fun x hx=>(h.lb x hx).iN hu fun k hk=>hd' k (.inr (.inr (.inr (.inr (.inl ⟨x,hx,hk⟩))))),
  h.R.iN hu fun k hk=>hd' k (.inr (.inr (.inr (.inr (.inr (.inl hk)))))),h.rc,fun x hx=>(h.rb x hx).vP hu fun k hk=>hd' k (.inr (.inr (.inr (.inr (.inr (.inr (.inl ⟨x,hx,hk⟩))))))),
  h.held.iN hu fun k hk=>hd' k (.inr (.inr (.inr (.inr (.inr (.inr (.inr (.inl hk)))))))),fun x hx=>(h.hb x hx).iN hu fun k hk=>hd' k (.inr (.inr (.inr (.inr (.inr (.inr (.inr (.inr ⟨x,hx,hk⟩)))))))),h.big⟩
theorem aL.o7.lt{r:aL}(h:r.o7 w):∀k∈r.fp,k<w.heap.size:=fun k hk=>by
 unfold aL.fp at hk
 simp only[mem_append,mem_flatMap]at hk
 rcases hk with hk|⟨p,hp,hk⟩|hk|hk
 ·exact Rd.pY h.pr.rd (by omega) k hk
 ·exact Rd.pY (h.pb p hp) (by omega) k hk
 ·exact Rd.pY h.vt.rd (by omega) k hk
 ·exact Rd.pY h.v (by omega) k hk
theorem lX.lt{r:ai}(h:lX w r):∀k∈r.fp,k<w.heap.size:=fun k hk=>by
 rcases ai.sub.1 hk with hk|hk|⟨x,hx,hk⟩|hk|⟨x,hx,hk⟩|hk|⟨x,hx,hk⟩|hk|⟨x,hx,hk⟩
 ·exact Rd.pY h.db (by omega) k hk
 ·exact Rd.pY h.K.rd (by omega) k hk
 ·exact Rd.pY (h.kb x hx) (by omega) k hk
 ·exact Rd.pY h.L.rd (by omega) k hk
 ·exact Rd.pY (h.lb x hx) (by omega) k hk
 ·exact Rd.pY h.R.rd (by omega) k hk
 ·exact(h.rb x hx).lt k hk
 ·exact Rd.pY h.held.rd (by omega) k hk
 ·exact Rd.pY (h.hb x hx) (by omega) k hk
end
structure Ref(X:List Nat)(w:World)(r:ai)(s:Site):Prop where
 mem:lX w r
 aJ:iM r s
 off:∀k∈r.fp,k∉X
structure dU(X:List Nat)(w:World)(A:Option Addr)(n:Nat)(b:List UInt8):Prop where
 rd:aD w A n b
 off:∀k∈dV A n,k∉X
theorem dU.nil(X:List Nat)(w:World)(A:Option Addr):dU X w A 0 []:=⟨aD.nil w A,by simp[dV]⟩
section
variable {X Y a b:List Nat} {w w':World} {r:ai} {s:Site} {A:Option Addr} {n:Nat} {l:List UInt8}
theorem dU.upd(h:dU X w A n l)(hu:aa a b w w')(ha:∀k∈a,k∈X:=by simp):dU X w' A n l:=⟨h.rd.iN hu fun k hk hm=>h.off k hk (ha k hm),h.off⟩
theorem dU.grow(h:dU X w A n l)(hu:aa [] b w w'):dU X w' A n l:=h.upd hu
theorem dU.more(h:dU X w A n l)(hY:∀k∈Y,w.heap.size≤k):dU (Y++X) w A n l:=⟨h.rd,fun k hk hm=>by
 rcases mem_append.1 hm with hm|hm
 ·have h1:=hY k hm;have h2:=Rd.pY h.rd (by omega) k hk;omega
 ·exact h.off k hk hm⟩
theorem dU.less(h:dU X w A n l)(hY:∀k∈Y,k∈X:=by simp +contextual):dU Y w A n l:=⟨h.rd,fun k hk hm=>h.off k hk (hY k hm)⟩
theorem Ref.upd(h:Ref X w r s)(hu:aa a b w w')(ha:∀k∈a,k∈X:=by simp):Ref X w' r s:=⟨h.mem.vP hu fun k hk hm=>h.off k hk (ha k hm),h.aJ,h.off⟩
theorem Ref.grow(h:Ref X w r s)(hu:aa [] b w w'):Ref X w' r s:=h.upd hu
theorem Ref.more(h:Ref X w r s)(hY:∀k∈Y,w.heap.size≤k):Ref (Y++X) w r s:=⟨h.mem,h.aJ,fun k hk hm=>by
 rcases mem_append.1 hm with hm|hm
 ·have h1:=hY k hm;have h2:=h.mem.lt k hk;omega
 ·exact h.off k hk hm⟩
theorem Ref.less(h:Ref X w r s)(hY:∀k∈Y,k∈X:=by simp +contextual):Ref Y w r s:=⟨h.mem,h.aJ,fun k hk hm=>h.off k hk (hY k hm)⟩
end
def Came(X:List Nat)(w w':World)(v:Value)(s:Site):Prop:=∃r,v=ai.val r∧Ref X w' r s∧aa [] [] w w'
theorem ai.arr(r:ai):r.val=.agg r.cells.toArray:=rfl
theorem fP:∃i,prog.info? 63=some i∧i.size=22:=⟨_,rfl,by kernel_rfl⟩
theorem bB{p q:Prop}(k:q)(h:q→p:=by intro k0;(repeat' ((fail_if_success with_reducible refine ek (t:=63) rfl ?_);first|go_values|go_skip|go_guarded|go_step|go_upon|simp only[];go_at_K));exact k0):p:=h k
theorem bK{p q:Prop}(k:q)(h:q→p:=by intro k0;(repeat' ((fail_if_success with_reducible refine eT (t:=63) rfl ?_);first|go_values|go_skip|go_guarded|go_step|go_upon|simp only[];go_at_K));exact k0):p:=h k
section
variable {P:Program} {ops:Array Oper} {rest:List Oper} {o:Oper} {a:Act} {Q:Exit→Act→World→Prop} {w:World} {p v:Operand} {t tt:TypeId} {i:TypeInfo} {G:Nat} {cs:Array Value} {K:Act→World→Prop} {E:Prop}
theorem bF{vs:List Value}(hi:P.info? t=some i)(hB:ak w G tt vs.toArray)(hsz:i.size=vs.length)(h:wpList P ops Q rest (a.put o.dst (.agg vs.toArray)) w)(ho:o.op=.load t p:=by rfl)(hg:o.guard=none:=by rfl)(hagg:∀w,(isAgg t).run P w=.ok true w:=by exact fun _=>rfl)(hp:a.eval p=.pointer (some ⟨G,0,none⟩):=by rfl):wpList P ops Q (o::rest) a w:=eZ hg p t ho hi hagg hp vs hsz hB h
theorem bL(vs:List Value)(hi:P.info? t=some i)(hsz:i.size=vs.length)(hB:ak w G tt cs)(h:∀w',ak w' G tt vs.toArray→aa [G] [G] w w'→wpList P ops Q rest (a.put o.dst undef) w')(ho:o.op=.store t p v:=by rfl)(hg:o.guard=none:=by rfl)(hp:a.eval p=.pointer (some ⟨G,0,none⟩):=by rfl)(hv:a.eval v=.agg vs.toArray:=by rfl)(hl:cs.size=vs.length:=by rfl)(h1:vs.all (·.oneCell')=true:=by rfl):wpList P ops Q (o::rest) a w:=di hg p v t ho hi hp vs hv hsz hB hl h1 h
theorem uT{vs:List Value}(hi:P.info? t=some i)(hB:ak w G tt vs.toArray)(hsz:i.size=vs.length)(h:K (a.put o.dst (.agg vs.toArray)) w)(ho:o.op=.load t p:=by rfl)(hg:o.guard=none:=by rfl)(hagg:∀w,(isAgg t).run P w=.ok true w:=by exact fun _=>rfl)(hp:a.eval p=.pointer (some ⟨G,0,none⟩):=by rfl):if Region.wanted o (yielded ops a.tmps)=true then Oper.wp P o a w K Q else E:=ku hg p t ho hi hagg hp vs hsz hB h
theorem mf(vs:List Value)(hi:P.info? t=some i)(hsz:i.size=vs.length)(hB:ak w G tt cs)(h:∀w',ak w' G tt vs.toArray→aa [G] [G] w w'→K (a.put o.dst undef) w')(ho:o.op=.store t p v:=by rfl)(hg:o.guard=none:=by rfl)(hp:a.eval p=.pointer (some ⟨G,0,none⟩):=by rfl)(hv:a.eval v=.agg vs.toArray:=by rfl)(hl:cs.size=vs.length:=by rfl)(h1:vs.all (·.oneCell')=true:=by rfl):if Region.wanted o (yielded ops a.tmps)=true then Oper.wp P o a w K Q else E:=cu hg p v t ho hi hp vs hv hsz hB hl h1 h
variable {fn:Func} {R:Ending→World→Prop} {s u x:Nat}
theorem fG{vs:List Value}(hf:fn.results=#[.cell s t])(hi:P.info? t=some i)(hB:ak w G tt vs.toArray)(hsz:i.size=vs.length)(hR:R (.returned (.agg vs.toArray)) w)(hs:a.tmps.getD s undef=.pointer (some ⟨G,0,none⟩):=by rfl)(hagg:∀w,(isAgg t).run P w=.ok true w:=by exact fun _=>rfl)(hd:a.defers= []:=by rfl):bodyPost P fn R .ret a w:=bodyPost_ret (fK hf hs hi hagg vs hsz hB) hd hR
theorem ug{vs:List Value}(hf:fn.results=#[.cell s t,.tmp u])(hi:P.info? t=some i)(hB:ak w G tt vs.toArray)(hsz:i.size=vs.length)(hR:R (.returned (.tuple #[.agg vs.toArray,a.tmps.getD u undef])) w)(hs:a.tmps.getD s undef=.pointer (some ⟨G,0,none⟩):=by rfl)(hagg:∀w,(isAgg t).run P w=.ok true w:=by exact fun _=>rfl)(hd:a.defers= []:=by rfl):bodyPost P fn R .ret a w:=bodyPost_ret (jZ hf hs hi hagg vs hsz hB) hd hR
theorem MK{vs:List Value}(hf:fn.results=#[.cell s t,.tmp u,.tmp x])(hi:P.info? t=some i)(hB:ak w G tt vs.toArray)(hsz:i.size=vs.length)(hR:R (.returned (.tuple #[.agg vs.toArray,a.tmps.getD u undef,a.tmps.getD x undef])) w)(hs:a.tmps.getD s undef=.pointer (some ⟨G,0,none⟩):=by rfl)(hagg:∀w,(isAgg t).run P w=.ok true w:=by exact fun _=>rfl)(hd:a.defers= []:=by rfl):bodyPost P fn R .ret a w:=bodyPost_ret (I7 hf hs hi hagg vs hsz hB) hd hR
end
theorem upX{Y:List Nat}{W2:World}(h:∀k∈Y,k<W2.heap.size):∀W',aa [] [] W2 W'→∀k∈Y,k<W'.heap.size:=fun _ u k hk=>Nat.lt_of_lt_of_le (h k hk) u.size
theorem yY{X:List Nat}{w:World}{r:ai}{s:Site}(h:Ref X w r s)(hX:∀k∈X,k<w.heap.size)(t:TypeId)(c:Array Value):∃ii,prog.info? 63=some ii∧ii.size=22∧∃W H,w.alloc (.cells r.cells.toArray 63)=W∧w.heap.size=H∧ak W H 63 r.cells.toArray∧aa [] [H] w W∧∃W2 G,W.alloc (.cells c t)=W2∧W.heap.size=G∧ak W2 G t c∧aa [] [G] W W2∧ak W2 H 63 r.cells.toArray∧G≠H∧aa [] [] w W2∧w.heap.size≤W.heap.size∧W.heap.size≤W2.heap.size∧(∀k∈[H,G],w.heap.size≤k)∧(∀k∈[H],w.heap.size≤k)∧(∀k∈[G],w.heap.size≤k)∧H∉[G]∧G∉[H]∧Ref ([H,G]++X) W2 r s∧(∀k∈[H,G]++X,k<W2.heap.size)∧(s.me:Int)≤6:=by
 obtain⟨ii,hii,abx⟩:=fP
 obtain⟨W,H,eW,hH,hB,U0⟩:=az w 63 r.cells.toArray
 obtain⟨W2,G,fu,hG,hBG,U2⟩:=az W t c
 have hB2:=hB.upd U2 (by simp)
 have dY:G≠H:=by have:=hB.lt;omega
 have aK:aa [] [] w W2:=(U0.gives (b':=[]) (by simp)).trans (U2.gives (b':=[]) (by simp))
 have hs0:=U0.size
 have hs2:=U2.size
 have hY:∀k∈[H,G],w.heap.size≤k:=by simp only[mem_cons,not_mem_nil,or_false];rintro k (rfl|rfl)<;>omega
 have hHw:∀k∈[H],w.heap.size≤k:=by simp only[mem_singleton];rintro k rfl;omega
 have aR:∀k∈[G],w.heap.size≤k:=by simp only[mem_singleton];rintro k rfl;omega
 have hX2:∀k∈[H,G]++X,k<W2.heap.size:=fun k hk=>by
  have h1:=hB2.lt
  have h3:=hBG.lt
  simp only[cons_append,nil_append,mem_cons]at hk
  rcases hk with rfl|rfl|hk
  ·omega
  ·omega
  ·have:=hX k hk;have:=aK.size;omega
 have hok:=h.aJ.ok
 exact⟨ii,hii,abx,W,H,eW,hH,hB,U0,W2,G,fu,hG,hBG,U2,hB2,dY,aK,hs0,hs2,hY,hHw,aR,by simpa using dY.symm,by simpa using dY,(h.more hY).grow aK,hX2,by have h1:=hok.me;have h2:=hok.n7;omega⟩
theorem Bt{X:List Nat}{w:World}{r:ai}{s:Site}(h:Ref X w r s)(hX:∀k∈X,k<w.heap.size)(t1:TypeId)(c1:Array Value)(t:TypeId)(c:Array Value):∃ii,prog.info? 63=some ii∧ii.size=22∧∃W H,w.alloc (.cells r.cells.toArray 63)=W∧w.heap.size=H∧ak W H 63 r.cells.toArray∧aa [] [H] w W∧∃W1 J,W.alloc (.cells c1 t1)=W1∧W.heap.size=J∧ak W1 J t1 c1∧aa [] [J] W W1∧∃W2 G,W1.alloc (.cells c t)=W2∧W1.heap.size=G∧ak W2 G t c∧aa [] [G] W1 W2∧ak W2 H 63 r.cells.toArray∧ak W2 J t1 c1∧W.heap.size≤W1.heap.size∧J≠H∧J≠G∧G≠H∧aa [] [] w W2∧w.heap.size≤W.heap.size∧W1.heap.size≤W2.heap.size∧(∀k∈[H,G],w.heap.size≤k)∧(∀k∈[H],w.heap.size≤k)∧(∀k∈[G],w.heap.size≤k)∧H∉[G]∧G∉[H]∧Ref ([H,G]++X) W2 r s∧(∀k∈[H,G]++X,k<W2.heap.size)∧(s.me:Int)≤6:=by
 obtain⟨ii,hii,abx⟩:=fP
 obtain⟨W,H,eW,hH,hB,U0⟩:=az w 63 r.cells.toArray
 obtain⟨W1,J,nK,hJ,fT,U1⟩:=az W t1 c1
 obtain⟨W2,G,fu,hG,hBG,U2⟩:=az W1 t c
 have hB2:=(hB.upd U1 (by simp)).upd U2 (by simp)
 have hs1:=U1.size
 have uh:J≠H:=by have:=hB.lt;omega
 have uU:J≠G:=by have:=fT.lt;omega
 have dY:G≠H:=by have:=hB.lt;omega
 have aK:aa [] [] w W2:=((U0.gives (b':=[]) (by simp)).trans (U1.gives (b':=[]) (by simp))).trans (U2.gives (b':=[]) (by simp))
 have hs0:=U0.size
 have hs2:=U2.size
 have hY:∀k∈[H,G],w.heap.size≤k:=by simp only[mem_cons,not_mem_nil,or_false];rintro k (rfl|rfl)<;>omega
 have hHw:∀k∈[H],w.heap.size≤k:=by simp only[mem_singleton];rintro k rfl;omega
 have aR:∀k∈[G],w.heap.size≤k:=by simp only[mem_singleton];rintro k rfl;omega
 have hX2:∀k∈[H,G]++X,k<W2.heap.size:=fun k hk=>by
  have h1:=hB2.lt
  have h3:=hBG.lt
  simp only[cons_append,nil_append,mem_cons]at hk
  rcases hk with rfl|rfl|hk
  ·omega
  ·omega
  ·have:=hX k hk;have:=aK.size;omega
 have hok:=h.aJ.ok
 exact⟨ii,hii,abx,W,H,eW,hH,hB,U0,W1,J,nK,hJ,fT,U1,W2,G,fu,hG,hBG,U2,hB2,fT.upd U2 (by simp),hs1,uh,uU,dY,aK,hs0,hs2,hY,hHw,aR,by simpa using dY.symm,by simpa using dY,(h.more hY).grow aK,hX2,by have h1:=hok.me;have h2:=hok.n7;omega⟩
theorem lU(X:List Nat)(w:World)(r:ai)(s:Site)(h:Ref X w r s)(hX:∀k∈X,k<w.heap.size)(hb:s.held.length<1000000000)(tg:Int)(ht:0≤tg∧tg≤6)(x:Mv)(hx:dU X w x.A x.n x.b)(hm:x.ms.Fit) :
  Calls prog 139 #[r.val,.int .i64 tg,x.val] w fun e w'=>∃v,e=.returned v∧Came X w w' v (s.send tg x.ms):=by
 refine(QI w r h.mem (by rw[h.aJ.hl];exact hb) tg x hx.rd).mono ?_
 rintro e w' ⟨A,c,rfl,h1,hA,h2⟩
 refine⟨_,rfl,_,rfl,⟨h1,h.aJ.send hm ht A c,fun k hk hm'=>?_⟩,h2⟩
 have hlt:=hX k hm'
 have old:∀{p:Prop},(k∈r.fp)→p:=fun hf=>absurd hm' (h.off k hf)
 rcases ai.sub.1 hk with hk|hk|hk|hk|hk|hk|hk|hk|⟨y,hy,hk⟩
 ·exact old (ai.sub.2 (.inl hk))
 ·exact old (ai.sub.2 (.inr (.inl hk)))
 ·exact old (ai.sub.2 (.inr (.inr (.inl hk))))
 ·exact old (ai.sub.2 (.inr (.inr (.inr (.inl hk)))))
 ·exact old (ai.sub.2 (.inr (.inr (.inr (.inr (.inl hk))))))
 ·exact old (ai.sub.2 (.inr (.inr (.inr (.inr (.inr (.inl hk)))))))
 ·exact old (ai.sub.2 (.inr (.inr (.inr (.inr (.inr (.inr (.inl hk))))))))
 ·have:=hA k (ji k hk);omega
 ·rcases mem_append.1 hy with hy|hy
  ·exact old (ai.sub.2 (.inr (.inr (.inr (.inr (.inr (.inr (.inr (.inr ⟨y,hy,hk⟩)))))))))
  ·rw[mem_singleton]at hy;subst hy
   exact hx.off k hk hm'
theorem Ja(X:List Nat)(w:World)(r:ai)(s:Site)(h:Ref X w r s)(hX:∀k∈X,k<w.heap.size)(x:Int)(hx:0≤x∧x<4096)(T:aN)(hT:dU X w T.A T.n T.b)(hz:T.pl.same Sp.zero=false)(hy:T.pl.b.length≤2048∧T.pl.p.may 7=true∧T.pl.at_.may 7=true) :
  Calls prog 154 #[r.val,.int .i64 x,T.val] w fun e w'=>∃v,e=.returned v∧Came X w w' v (s.turn x T.pl):=by
 refine(Ug w r h.mem (by have:=h.aJ.kl;omega) x T hT.rd).mono ?_
 rintro e w' ⟨A,c,rfl,h1,hA,h2⟩
 refine⟨_,rfl,_,rfl,⟨h1,h.aJ.turn hx hz hy A c,fun k hk hm'=>?_⟩,h2⟩
 have hlt:=hX k hm'
 have old:∀{p:Prop},(k∈r.fp)→p:=fun hf=>absurd hm' (h.off k hf)
 rcases ai.sub.1 hk with hk|hk|⟨y,hy,hk⟩|hk|hk|hk|hk|hk|hk
 ·exact old (ai.sub.2 (.inl hk))
 ·have:=hA k (ji k hk);omega
 ·rcases mem_append.1 hy with hy|hy
  ·exact old (ai.sub.2 (.inr (.inr (.inl ⟨y,(mem_filter.1 hy).1,hk⟩))))
  ·rw[mem_singleton]at hy;subst hy
   exact hT.off k hk hm'
 ·exact old (ai.sub.2 (.inr (.inr (.inr (.inl hk)))))
 ·exact old (ai.sub.2 (.inr (.inr (.inr (.inr (.inl hk))))))
 ·exact old (ai.sub.2 (.inr (.inr (.inr (.inr (.inr (.inl hk)))))))
 ·exact old (ai.sub.2 (.inr (.inr (.inr (.inr (.inr (.inr (.inl hk))))))))
 ·exact old (ai.sub.2 (.inr (.inr (.inr (.inr (.inr (.inr (.inr (.inl hk)))))))))
 ·exact old (ai.sub.2 (.inr (.inr (.inr (.inr (.inr (.inr (.inr (.inr hk)))))))))
