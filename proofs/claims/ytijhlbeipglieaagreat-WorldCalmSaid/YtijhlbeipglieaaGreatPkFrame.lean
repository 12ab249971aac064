/- For WorldCalm. -/
import Derived.Laws.Cover3
import Derived.Laws.StructEq
import Derived.Deep.RegionWith
import Derived.Test.YtijhlbeipglieaaGreatPkWire
set_option linter.all false
set_option maxRecDepth 100000
set_option maxHeartbeats 1000000
namespace Go.Proofs.YtijhlbeipglieaaGreat
open Go.RowKit aL Tryz List
theorem WE(c:UInt8)(m:Nat)(hm:dz m)(w:World)(g:Nat)(hb:aQ w g 291 #[.int .u32 (m:Int)]) :
  Calls prog 281 #[.int .u8 (c.toNat:Int),.pointer (some ⟨g,0,none⟩)] w fun e w'=>e=.returned (.tuple #[])∧aQ w' g 291 #[.int .u32 ((AM m c:Nat):Int)]∧ab [g] [g] w w':=by
 have hc:=hb.cell 0
 have hf:=hb.frozen 0
 simp at hc
 go_enter func281,ntmps281
 refine wk ?_
 go_loopw [8] (fun v8 wr=>∃k:Nat,k≤8∧v8=.int .i64 (k:Int)∧aQ wr g 291 #[.int .u32 ((vE k (m ^^^ c.toNat):Nat):Int)]∧ab [g] [g] w wr) (fun v8 _=>8-(intOf v8).toNat)
 case atStart=>
  refine⟨0,by omega,rfl,?_,(ab.refl _ _).setCell (.inl (by simp)) _⟩
  rw[MS hm]
  exact hb.cc 0 _
 case round=>
  obtain⟨k,hk,rfl,xA,hu⟩:=hrel
  have hU:=yq (hm.xor (dz.byte c)) k
  have HN:Hid (vE (k+1) (m ^^^ c.toNat)=vF (vE k (m ^^^ c.toNat))):=rfl
  have H8:Hid (k=8→vE k (m ^^^ c.toNat)=AM m c):=fun h=>by subst h;rfl
  generalize vE k (m ^^^ c.toNat)=x at *
  clear hc
  have hc:=xA.cell 0
  have hf:=xA.frozen 0
  simp at hc
  by_cases hlt:k<8
  ·by_cases J4:x % 2=1
   ·have ho:=PT hU J4
    repeat' go_step
    refine⟨⟨k+1,by omega,rfl,?_,(hu.setCell (.inl (by simp)) _).setCell (.inl (by simp)) _⟩,by simp[intOf];omega⟩
    rw[HN.out,PV hU J4]
    exact(xA.cc 0 _).cc 0 _
   ·have ho:=MT hU J4
    repeat' go_step
    refine⟨⟨k+1,by omega,rfl,?_,hu.setCell (.inl (by simp)) _⟩,by simp[intOf];omega⟩
    rw[HN.out,MU J4]
    exact xA.cc 0 _
  ·obtain rfl:k=8:=by omega
   have E:Hid (x=AM m c):=H8.out rfl
   refine wk ?_
   go_end0
   exact⟨rfl,by rw[←E.out];exact xA,hu⟩
theorem ID(s:Nat)(hs:dz s)(w:World)(A:Option Addr)(n c:Nat)(l:List UInt8)(hr:bE w A n l)(hl:l.length≤140737488355328) :
  Calls prog 252 #[.int .u32 (s:Int),.slice A n c] w fun e w'=>e=.returned (.int .u32 ((more s l:Nat):Int))∧ab [] [] w w':=by
 obtain rfl:=hr.len
 have hlt:=hr.lt
 go_enter func252,ntmps252
 repeat' go_step
 go_loopw [14] (fun WG wr=>∃k:Nat,k≤l.length∧WG=.int .i64 (k:Int)∧aQ wr w.heap.size 291 #[.int .u32 ((vG (s ^^^ 4294967295) (l.take k):Nat):Int)]∧ab [] [] w wr) (fun WG _=>l.length-(intOf WG).toNat)
 case atStart=>
  refine⟨0,by omega,rfl,?_,(ab.refl _ _).alloc _⟩
  rw[zy hs]
  exact aQ.new _ _ _
 case round=>
  obtain⟨k,hk,rfl,xA,hu⟩:=hrel
  have hU:=EG (hs.xor dz.all) (l.take k)
  have hc:=xA.cell 0
  have hf:=xA.frozen 0
  simp at hc
  have kV:=hr.aq hu (by simp)
  by_cases h1:k<l.length
  ·obtain⟨ad,u,rfl,hx,hcell⟩:=Rd.at_ kV (k:=k) h1
   rw[jN l k h1]at hx
   obtain rfl:=Option.some.inj hx
   have HS:=aA (MV (w:=s ^^^ 4294967295) h1)
   generalize vG (s ^^^ 4294967295) (l.take k)=x at *
   clear hx
   repeat' go_step
   refine(WE l[k] x hU wr w.heap.size xA).mono ?_
   rintro e w1 ⟨rfl,hb1,bn⟩
   refine wk ?_
   refine⟨⟨k+1,by omega,rfl,?_,?_⟩,by simp[intOf];omega⟩
   ·rw[HS.out];exact hb1
   ·exact((hu.gives (b':=[w.heap.size]) (by simp)).trans bn).gives (by simp)
  ·obtain rfl:k=l.length:=by omega
   rw[take_length]at xA hU hc
   refine wk ?_
   go_ret
   refine⟨?_,hu⟩
   rw[zy hU];rfl
theorem WH(w:World)(A:Option Addr)(n c:Nat)(l:List UInt8)(hr:bE w A n l)(hl:l.length≤140737488355328) :
  Calls prog 253 #[.slice A n c] w fun e w'=>e=.returned (.int .u32 ((more 0 l:Nat):Int))∧ab [] [] w w':=by
 go_enter func253,ntmps253
 repeat' go_step
 refine(ID 0 dz.zero w A n c l hr hl).mono ?_
 rintro e w1 ⟨rfl,bn⟩
 refine wk ?_
 go_ret
 exact⟨rfl,bn⟩
theorem WI(a0 a1 a2 a3 b0 b1 b2 b3:Int)(w:World):(binOp .neq 289 (.agg #[.int .u8 a0,.int .u8 a1,.int .u8 a2,.int .u8 a3]) (.agg #[.int .u8 b0,.int .u8 b1,.int .u8 b2,.int .u8 b3])).run prog w
  = .ok (.bool (!((a0==b0)&&((a1==b1)&&((a2==b2)&&(a3==b3)))))) w:=by
 have p0:=fun(x0 x1 x2 x3:Int)(w:World)=>show(part 5 #[.int .u8 x0,.int .u8 x1,.int .u8 x2,.int .u8 x3] 0).run prog w=.ok (.int .u8 x0) w by kernel_rfl
 have p1:=fun(x0 x1 x2 x3:Int)(w:World)=>show(part 5 #[.int .u8 x0,.int .u8 x1,.int .u8 x2,.int .u8 x3] 1).run prog w=.ok (.int .u8 x1) w by kernel_rfl
 have p2:=fun(x0 x1 x2 x3:Int)(w:World)=>show(part 5 #[.int .u8 x0,.int .u8 x1,.int .u8 x2,.int .u8 x3] 2).run prog w=.ok (.int .u8 x2) w by kernel_rfl
 have p3:=fun(x0 x1 x2 x3:Int)(w:World)=>show(part 5 #[.int .u8 x0,.int .u8 x1,.int .u8 x2,.int .u8 x3] 3).run prog w=.ok (.int .u8 x3) w by kernel_rfl
 have e0:=fun(a b:Int)(w:World)=>show(Op.equalIn 9999 5 (.int .u8 a) (.int .u8 b)).run prog w=.ok (a==b) w by kernel_rfl
 have z:=fun(w:World)=>show(sizeOf 5).run prog w=.ok 1 w by kernel_rfl
 rw[run_neq_struct]
 rw[show(10000:Nat)=9999+1 from rfl,Op.equalIn]
 simp only[Sem.run_bind,run_underlying underlying289,Result.andThen_ok,z,Std.Legacy.Range.forIn_eq_forIn_range',Std.Legacy.Range.size,range',forIn_cons,forIn_nil,Nat.zero_mul,Nat.one_mul,Nat.reduceAdd,Nat.reduceMul,Nat.reduceSub,Nat.reduceDiv,Nat.add_zero,Nat.mul_one,Nat.zero_add,Nat.sub_zero,p0,p1,e0]
 cases a0==b0
 ·simp[Sem.run_pure]
 simp only[Bool.not_true,Bool.false_eq_true,if_false,Sem.run_pure,Sem.run_bind,Result.andThen_ok,p0,p1,e0]
 cases a1==b1
 ·simp[Sem.run_pure]
 simp only[Bool.not_true,Bool.false_eq_true,if_false,Sem.run_pure,Sem.run_bind,Result.andThen_ok,p0,p2,e0]
 cases a2==b2
 ·simp[Sem.run_pure]
 simp only[Bool.not_true,Bool.false_eq_true,if_false,Sem.run_pure,Sem.run_bind,Result.andThen_ok,p0,p3,e0]
 cases a3==b3<;>simp[Sem.run_pure]
def vH(l:List UInt8):Value:=.agg (iF l).toArray
theorem rB(n:Nat):vH (four n)=.agg #[.int .u8 ((n:Int) % 256),.int .u8 ((n:Int) / 256 % 256),.int .u8 ((n:Int) / 65536 % 256),.int .u8 ((n:Int) / 16777216 % 256)]:=by
 have e:∀k:Nat,B8 (UInt8.ofNat k)=.int .u8 ((k:Int) % 256):=fun k=>by
  unfold B8;congr 1
 simp only[vH,four,iF,map_cons,map_nil,e]
 congr 1
theorem BU(n:Nat)(_hn:dz n)(w:World) :
  Calls prog 201 #[.int .u32 (n:Int)] w fun e w'=>e=.returned (vH (four n))∧ab [] [] w w':=by
 rw[rB]
 go_enter func201,ntmps201
 refine wk ?_
 exact bodyPost_ret (v:=.agg #[.int .u8 ((n:Int) % 256),.int .u8 ((n:Int) / 256 % 256),.int .u8 ((n:Int) / 65536 % 256),.int .u8 ((n:Int) / 16777216 % 256)]) (by simp[results,results201,go_sem]) rfl ⟨rfl,(ab.refl _ _).alloc _⟩
theorem EH(z0 z1 z2 z3:UInt8)(w:World)(A:Option Addr)(n c:Nat)(b:List UInt8)(hr:bE w A n b)(hb:b.length≤140737488355328) :
  Calls prog 202 #[vH [z0,z1,z2,z3],.slice A n c] w fun e w'=>e=.returned (vH (four (nO [z0,z1,z2,z3] b)))∧ab [] [] w w':=by
 obtain⟨s,hs⟩:=bk (more 0 [z0,z1,z2,z3])
 have hU:dz s:=by rw[←hs];exact tW dz.zero _
 have HF:Hid (nO [z0,z1,z2,z3] b=more s b):=by unfold Hid nO;rw[hs]
 have HS:=aA hs;clear hs
 rw[show vH [z0,z1,z2,z3]=.agg #[B8 z0,B8 z1,B8 z2,B8 z3]from rfl]
 go_enter func202,ntmps202
 repeat' go_step
 have hz:bE ((w.alloc (.cells #[B8 z0,B8 z1,B8 z2,B8 z3] 289)).alloc (.cells #[.int .u8 0,.int .u8 0,.int .u8 0,.int .u8 0] 289)) (some ⟨w.heap.size,0,none⟩) 4 [z0,z1,z2,z3]:=
  Rd.aO (cs:=[B8 z0,B8 z1,B8 z2,B8 z3]) ((aQ.new _ _ _).alloc _) rfl
 refine(WH _ _ 4 4 _ hz (by simp)).mono ?_
 rintro e w1 ⟨rfl,bn⟩
 rw[HS.out]
 have U1:ab [] [] w w1:=(((ab.refl [] w).alloc _).alloc _).trans bn
 have ma:=(aQ.new (w.alloc (.cells #[B8 z0,B8 z1,B8 z2,B8 z3] 289)) 289 #[.int .u8 0,.int .u8 0,.int .u8 0,.int .u8 0]).aq bn (by simp)
 rw[World.size_alloc]at ma
 clear bn hz
 repeat' first|go_step|simp only[];go_at_K
 refine(ID s hU w1 A n c b (hr.aq U1 (by simp)) hb).mono ?_
 rintro e w2 ⟨rfl,bh⟩
 have WJ:=tW hU b
 rw[←HF.out]at WJ ⊢
 obtain⟨x,hx⟩:=bk (nO [z0,z1,z2,z3] b)
 rw[hx]at WJ ⊢
 have HX:=aA hx;clear hx
 repeat' first|go_step|simp only[];go_at_K
 refine(BU x WJ w2).mono ?_
 rintro e w3 ⟨rfl,cQ⟩
 have U3:=(U1.trans bh).trans cQ
 have uD:=ma.aq (bh.trans cQ) (by simp)
 have hlt:=uD.lt
 obtain⟨⟨t0,t1,t2,t3⟩,f0,f1,f2,f3⟩:=uD.c4
 rw[rB]
 refine wk ?_
 have N:=ku [.int .u8 ((x:Int) % 256),.int .u8 ((x:Int) / 256 % 256),.int .u8 ((x:Int) / 65536 % 256),.int .u8 ((x:Int) / 16777216 % 256)] uD rfl U3 (.inr (by omega))
 simp only[setRow]at N
 generalize World.setCell _ ⟨w.heap.size+1,3,none⟩ _=W4 at N ⊢
 obtain⟨hN,hU4⟩:=N
 obtain⟨⟨q0,q1,q2,q3⟩,-⟩:=hN.c4
 exact bodyPost_ret (v:=.agg #[.int .u8 ((x:Int) % 256),.int .u8 ((x:Int) / 256 % 256),.int .u8 ((x:Int) / 65536 % 256),.int .u8 ((x:Int) / 16777216 % 256)]) (by simp[results,results202,go_sem,q0,q1,q2,q3]) rfl ⟨by rw[HX.out,rB],hU4⟩
theorem yL(w:World)(A:Option Addr)(n c:Nat)(b:List UInt8)(hr:bE w A n b)(hc:n≤c)(hcm:c≤maxLen)(hb:b.length≤140737488355328) :
  Calls prog 254 #[.slice A n c] w fun e w'=>e=.returned (.tuple #[.int .i64 (((fst b).1:Nat):Int),.int .i64 (((fst b).2:Nat):Int)])∧ab [] [] w w':=by
 obtain rfl:=hr.len
 by_cases h8:b.length<8
 ·have H:Hid (fst b=(0,3)):=by unfold Hid fst;rw[if_pos h8]
  go_enter func254,ntmps254
  repeat' go_step
  go_ret2
  exact⟨by rw[H.out];rfl,ab.refl _ _⟩
 have hx2:(b.length:Int)≤(c:Int):=by omega
 have hx3:(8:Int)≤(b.length:Int):=by omega
 have hx4:(4:Int)≤(b.length:Int):=by omega
 have Hr:(4:Int)≤(c:Int):=by omega
 have aZ:(c:Int)≤9223372036854775807:=by unfold maxLen at hcm;omega
 obtain⟨ad,rfl,hcell⟩:=hr.2 (by omega)
 have ha:∀(i:Nat),0<i→ad.add i=⟨ad.block,ad.off+i,none⟩:=fun i hi=>by unfold Addr.add;rw[if_neg (by omega)]
 have c0:w.cell? ad=some (.int .u8 (b[0].toNat:Int)):=hcell 0 _ (jN b 0 (by omega))
 have c1:=hcell 1 _ (jN b 1 (by omega))
 have c2:=hcell 2 _ (jN b 2 (by omega))
 have c3:=hcell 3 _ (jN b 3 (by omega))
 have c4:=hcell 4 _ (jN b 4 (by omega))
 have c5:=hcell 5 _ (jN b 5 (by omega))
 have c6:=hcell 6 _ (jN b 6 (by omega))
 have c7:=hcell 7 _ (jN b 7 (by omega))
 rw[ha _ (by omega)]at c1 c2 c3 c4 c5 c6 c7
 clear ha hcell
 have hq:=fun w:World=>run_arrayAt (P:=prog) (w:=w) 289 5 4 (some ad) 4 c underlying289 (by omega)
 have hor:=or4 b[0].toNat_lt b[1].toNat_lt b[2].toNat_lt b[3].toNat_lt (PX (b:=b) (by omega))
 have hU:=EI b
 by_cases h5:4096<ew b
 ·have H:Hid (fst b=(0,5)):=by unfold Hid fst;rw[if_neg h8,if_pos h5]
  generalize ew b=m at *
  clear c4 c5 c6 c7
  go_enter func254,ntmps254
  repeat' go_step
  go_ret2
  exact⟨by rw[H.out];rfl,(ab.refl _ _).alloc _⟩
 by_cases h3:b.length-8<ew b
 ·have H:Hid (fst b=(0,3)):=by unfold Hid fst;rw[if_neg h8,if_neg h5,if_pos h3]
  generalize ew b=m at *
  clear c4 c5 c6 c7
  have hd:decide ((b.length:Int)-8<m)=true:=oT
  go_enter func254,ntmps254
  repeat' go_step
  go_ret2
  exact⟨by rw[H.out];rfl,(ab.refl _ _).alloc _⟩
 have hdh:decide ((b.length:Int)-8<(ew b:Nat))=false:=iO
 have hx1:(ew b:Int)+8≤(c:Int):=by omega
 have yR:(b.drop 4).take 4= [b[4],b[5],b[6],b[7]]:=by
  rw[drop_eq_getElem_cons (show 4<b.length by omega),drop_eq_getElem_cons (show 4+1<b.length by omega),drop_eq_getElem_cons (show 4+1+1<b.length by omega),drop_eq_getElem_cons (show 4+1+1+1<b.length by omega)];rfl
 have BL:b.take 4= [b[0],b[1],b[2],b[3]]:=by
  conv=>lhs;rw[←drop_zero (l:=b)]
  rw[drop_eq_getElem_cons (show 0<b.length by omega),drop_eq_getElem_cons (show 0+1<b.length by omega),drop_eq_getElem_cons (show 0+1+1<b.length by omega),drop_eq_getElem_cons (show 0+1+1+1<b.length by omega)];rfl
 have MD:fst b=if ew (b.drop 4)≠nO [b[0],b[1],b[2],b[3]] ((b.drop 8).take (ew b)) then(0,4) else(ew b,0):=by unfold fst;rw[if_neg h8,if_neg h5,if_neg h3,BL]
 have MW:four (ew (b.drop 4))= [b[4],b[5],b[6],b[7]]:=by rw[←J5 (by simp;omega),yR]
 have hp:bE w (if c=8 then some ad else some ⟨ad.block,ad.off+8,none⟩) (ew b) ((b.drop 8).take (ew b)):=by
  have:=hr.part hc 8 (ew b) (by omega)
  simpa[Addr.add]using this
 have CS:=fun(W':World)(h:bE W' (if c=8 then some ad else some ⟨ad.block,ad.off+8,none⟩) (ew b) ((b.drop 8).take (ew b)))=>EH b[0] b[1] b[2] b[3] W' _ _ (c-8) _ h (by simp;omega)
 rw[show vH [b[0],b[1],b[2],b[3]]=.agg #[.int .u8 (b[0].toNat:Int),.int .u8 (b[1].toNat:Int),.int .u8 (b[2].toNat:Int),.int .u8 (b[3].toNat:Int)]from rfl]at CS
 obtain⟨g4,g5,g6,g7⟩:=PY MW
 rw[g4]at c4
 rw[g5]at c5
 rw[g6]at c6
 rw[g7]at c7
 have hXU:=EJ [b[0],b[1],b[2],b[3]] ((b.drop 8).take (ew b))
 have hyU:=EI (b.drop 4)
 clear g4 g5 g6 g7 MW yR BL
 generalize b[0].toNat=x0 at *
 generalize b[1].toNat=x1 at *
 generalize b[2].toNat=x2 at *
 generalize b[3].toNat=x3 at *
 generalize nO [b[0],b[1],b[2],b[3]] ((b.drop 8).take (ew b))=X at *
 generalize ew (b.drop 4)=y at *
 generalize ew b=m at *
 rw[rB]at CS
 have HF:=aA MD;clear MD
 have hc4:¬ c=4:=by omega
 have uY:=fun w:World=>run_arrayAt (P:=prog) (w:=w) 289 5 4 (some ⟨ad.block,ad.off+4,none⟩) 4 (c-4) underlying289 (by omega)
 have adB:Hid (8+m-8=m):=by unfold Hid;omega
 obtain⟨A8,LH⟩:=bk ((if c=8 then some ad else some ⟨ad.block,ad.off+8,none⟩))
 rw[LH]at CS hp
 have mj:Hid (∀W',_→_):=CS
 clear CS
 go_enter func254,ntmps254
 repeat' go_step
 have B0:=aQ.new w 289 #[.int .u8 (x0:Int),.int .u8 (x1:Int),.int .u8 (x2:Int),.int .u8 (x3:Int)]
 have U0:ab [] [] w (w.alloc (.cells #[.int .u8 (x0:Int),.int .u8 (x1:Int),.int .u8 (x2:Int),.int .u8 (x3:Int)] 289)):=(ab.refl _ _).alloc _
 obtain⟨W0,hW0⟩:=bk (w.alloc (.cells #[.int .u8 (x0:Int),.int .u8 (x1:Int),.int .u8 (x2:Int),.int .u8 (x3:Int)] 289))
 rw[hW0]at B0 U0 ⊢
 clear hW0 c0 c1 c2 c3 hor hq
 have xp:=hp.aq U0 (by simp)
 have d4:=U0.cell c4 (by simp)
 have d5:=U0.cell c5 (by simp)
 have d6:=U0.cell c6 (by simp)
 have d7:=U0.cell c7 (by simp)
 obtain⟨⟨k0,k1,k2,k3⟩,-⟩:=B0.c4
 clear c4 c5 c6 c7 hp
 have dC:=wr (8+(m:Int))
 have hw2:IntKind.i64.wrap (m:Int)=(m:Int):=by rw[IntKind.wrap_i64];omega
 have hw3:(8+(m:Int)).toNat=8+m:=by omega
 have hw4:(0:Int)≤(m:Int):=by omega
 have hw5:8+(m:Int)≤(c:Int):=by omega
 have yN:8+m-8=m:=adB.out
 have Uw:(8:Int)≤8+(m:Int):=by omega
 have hw8:(8:Int)≤(c:Int):=by omega
 by_cases Sf:y=X
 ·have H:Hid (fst b=(m,0)):=by have:=HF.out;rw[if_neg (by simpa using Sf)]at this;exact this
  subst Sf
  have mq:=fun w:World=>WI ((y:Int) % 256) ((y:Int) / 256 % 256) ((y:Int) / 65536 % 256) ((y:Int) / 16777216 % 256) ((y:Int) % 256) ((y:Int) / 256 % 256) ((y:Int) / 65536 % 256) ((y:Int) / 16777216 % 256) w
  simp only[beq_self_eq_true,Bool.and_self,Bool.not_true]at mq
  clear HF
  go_region_with (go_at_call 202;refine(mj.out _ (by first|exact xp|exact Rd.drew xp)).mono ?_;rintro e w5 ⟨rfl,cF⟩;have e4:=cF.cell d4 (by simp);have e5:=cF.cell d5 (by simp);have e6:=cF.cell d6 (by simp);have e7:=cF.cell d7 (by simp))
  all_goals (repeat' go_step)
  all_goals go_ret2
  all_goals exact⟨by rw[H.out];rfl,U0.drew.trans cF⟩
 ·have H:Hid (fst b=(0,4)):=by have:=HF.out;rw[if_pos Sf]at this;exact this
  have mq:∀w:World,_:=fun w=>(WI ((y:Int) % 256) ((y:Int) / 256 % 256) ((y:Int) / 65536 % 256) ((y:Int) / 16777216 % 256) ((X:Int) % 256) ((X:Int) / 256 % 256) ((X:Int) / 65536 % 256) ((X:Int) / 16777216 % 256) w).trans (by rw[TP hXU hyU Sf])
  clear HF
  go_region_with (go_at_call 202;refine(mj.out _ (by first|exact xp|exact Rd.drew xp)).mono ?_;rintro e w5 ⟨rfl,cF⟩;have e4:=cF.cell d4 (by simp);have e5:=cF.cell d5 (by simp);have e6:=cF.cell d6 (by simp);have e7:=cF.cell d7 (by simp))
  all_goals (repeat' go_step)
  all_goals go_ret2
  all_goals exact⟨by rw[H.out];rfl,U0.drew.trans cF⟩
theorem DO(w:World)(A:Option Addr)(n c:Nat)(b:List UInt8)(hr:bE w A n b)(hb:b.length≤4096) :
  Calls prog 126 #[.slice A n c] w fun e w'=>∃A' k' c',e=.returned (.tuple #[.slice A' k' c',.int .i64 0])∧bW 5 w' A' k' c' (put b)∧ab [] (ak A') w w':=by
 obtain rfl:=hr.len
 have hU:dz b.length:=by unfold dz;omega
 obtain⟨z0,z1,z2,z3,hz⟩:∃z0 z1 z2 z3,four b.length= [z0,z1,z2,z3]:=⟨_,_,_,_,rfl⟩
 obtain⟨s0,s1,s2,s3,hs⟩:∃s0 s1 s2 s3,four (nO [z0,z1,z2,z3] b)= [s0,s1,s2,s3]:=⟨_,_,_,_,rfl⟩
 have HP:Hid (put b= [z0,z1,z2,z3]++[s0,s1,s2,s3]++b):=by unfold Hid put;rw[hz,hs]
 have C1:=BU b.length hU
 rw[hz]at C1
 have C2:=fun w A n c h hb=>EH z0 z1 z2 z3 w A n c b h hb
 rw[hs]at C2
 clear hz hs hU
 have e4:∀a b c d:UInt8,vH [a,b,c,d]=.agg #[.int .u8 (a.toNat:Int),.int .u8 (b.toNat:Int),.int .u8 (c.toNat:Int),.int .u8 (d.toNat:Int)]:=fun _ _ _ _=>rfl
 rw[e4]at C1 C2
 rw[e4]at C2
 clear e4
 go_enter func126,ntmps126
 repeat' (fail_if_success with_reducible refine ba rfl ?_);go_step
 refine(C1 w).mono ?_
 rintro e w1 ⟨rfl,bn⟩
 repeat' (fail_if_success with_reducible refine ba rfl ?_);first|go_step|simp only[];go_at_K
 refine(C2 _ A _ c ((hr.aq bn (by simp)).alloc _) (by omega)).mono ?_
 rintro e w2 ⟨rfl,bh⟩
 have hZ:=(aQ.new w1 289 #[.int .u8 (z0.toNat:Int),.int .u8 (z1.toNat:Int),.int .u8 (z2.toNat:Int),.int .u8 (z3.toNat:Int)]).aq bh (by simp)
 have U2:ab [] [] w w2:=(bn.alloc _).trans bh
 clear C1 C2 bn bh
 have dC:8+(b.length:Int)≤5000:=by omega
 repeat' (fail_if_success at_make);(fail_if_success with_reducible refine ba rfl ?_);first|go_values|go_skip|go_guarded|go_step|go_upon|simp only[];go_at_K
 have hS:=aQ.new w2 289 #[.int .u8 (s0.toNat:Int),.int .u8 (s1.toNat:Int),.int .u8 (s2.toNat:Int),.int .u8 (s3.toNat:Int)]
 have hZ:=hZ.alloc (.cells #[.int .u8 (s0.toNat:Int),.int .u8 (s1.toNat:Int),.int .u8 (s2.toNat:Int),.int .u8 (s3.toNat:Int)] 289)
 have U3:=U2.alloc (.cells #[.int .u8 (s0.toNat:Int),.int .u8 (s1.toNat:Int),.int .u8 (s2.toNat:Int),.int .u8 (s3.toNat:Int)] 289)
 obtain⟨i,hi,hz0,hsz,hby⟩:=info_parts l8
 refine wpList_make_own _ rfl _ _ 28 rfl 0 5 i (.int .u8 0) 1 underlying28 hi hz0 hsz .i64 .i64 (8+(b.length:Int)) (8+b.length) rfl rfl (by omega) (by rw[hby];omega) (by unfold maxLen;omega) (by omega) ?_
 intro w4 dW hg4
 clear hi hz0 hsz hby
 have jQ:=hS.grown hg4 (by simp)
 have mY:=hZ.grown hg4 (by simp)
 have U4:=U3.grown hg4 (fun k h=>by cases h)
 rw[World.size_alloc]at dW ⊢
 have O4:bW 5 w4 (some ⟨w2.heap.size+1,0,none⟩) 0 (8+b.length) []:=⟨rfl,dW⟩
 have nc:bE w4 (some ⟨w1.heap.size,0,none⟩) 4 [z0,z1,z2,z3]:=Rd.aO (cs:=iF [z0,z1,z2,z3]) mY rfl
 have nh:bE w4 (some ⟨w2.heap.size,0,none⟩) 4 [s0,s1,s2,s3]:=Rd.aO (cs:=iF [s0,s1,s2,s3]) jQ rfl
 have l1:=U2.size
 clear hS hZ U3 hg4 dW jQ mY U2
 repeat' (fail_if_success with_reducible refine ba rfl ?_);go_step
 refine kH rfl _ _ 28 rfl 5 underlying28 l8 O4 rfl nc rfl (by simp) ?_
 intro A5 k5 c5 w5 fI cF
 have nm:=nh.aq cF (by simp[ak])
 have U5:=(U4.gives (b':=ak (some ⟨w2.heap.size+1,0,none⟩)) (by simp[ak];omega)).trans cF
 clear O4 nc nh U4 cF
 repeat' (fail_if_success with_reducible refine ba rfl ?_);go_step
 refine kH rfl _ _ 28 rfl 5 underlying28 l8 fI rfl nm rfl (by simp) ?_
 intro A6 k6 c6 w6 oe dN
 have U6:=U5.trans dN
 have xB:=hr.aq U6 (by simp)
 clear fI nm U5 dN
 repeat' (fail_if_success with_reducible refine ba rfl ?_);go_step
 refine kH rfl _ _ 28 rfl 5 underlying28 l8 oe rfl xB rfl (by simp;omega) ?_
 intro A7 k7 c7 w7 sj iT
 have U7:=U6.trans iT
 rw[nil_append,←HP.out]at sj
 clear oe xB U6 iT
 refine wk ?_
 go_ret2
 exact⟨A7,k7,c7,rfl,sj,U7⟩
structure Sl where
 A:Option Addr
 k:Nat
 c:Nat
 b:List UInt8
def Sl.val(x:Sl):Value:=.slice x.A x.k x.c
theorem WK:(prog.info? 28).map (fun i=>(i.zero,i.size,i.bytes))=some (some (.slice none 0 0),1,24):=by kernel_rfl
structure nP(w:World)(A:Option Addr)(k c:Nat)(l:List Sl):Prop where
 len:k=l.length
 own:aL.Own 28 1 w A k c (l.map Sl.val)
 each:∀x∈l,bW 5 w x.A x.k x.c x.b
theorem nP.aq{w w':World}{A:Option Addr}{k c:Nat}{l:List Sl}{b:List Nat}(h:nP w A k c l)(hu:ab [] b w w'):nP w' A k c l:=
 ⟨h.len,h.own.aq hu (by simp),fun x hx=>(h.each x hx).aq hu (by simp)⟩
theorem nP.push{w w':World}{A A':Option Addr}{k c c':Nat}{l:List Sl}{x:Sl}(h:nP w A k c l)(hx:bW 5 w x.A x.k x.c x.b)(ho:aL.Own 28 1 w' A' (k+1) c' (l.map Sl.val++[x.val]))(hu:ab (ak A) (ak A') w w'):nP w' A' (k+1) c' (l++[x]):=
 ⟨by simp[h.len],by simpa using ho,fun y hy=>by
  rcases mem_append.1 hy with hy|hy
  ·exact(h.each y hy).aq hu ((h.each y hy).own.AA h.own (by decide))
  ·obtain rfl:=mem_singleton.1 hy
   exact hx.aq hu (hx.own.AA h.own (by decide))⟩
theorem MX(w:World)(A:Option Addr)(n c:Nat)(b:List UInt8)(hr:bE w A n b)(hc:n≤c)(hcm:c≤maxLen)(hb:b.length≤1099511627776) :
  Calls prog 204 #[.slice A n c] w fun e w'=>∃A' k' c' l,e=.returned (.tuple #[.slice A' k' c',.int .i64 (((scan b).2:Nat):Int)])∧nP w' A' k' c' l∧l.map Sl.b=(scan b).1∧ab [] (ak A') w w':=by
 obtain rfl:=hr.len
 have aZ:(c:Int)≤9223372036854775807:=by unfold maxLen at hcm;omega
 go_enter func204,ntmps204
 refine wk ?_
 go_loopw [4,5] (fun v4 v5 wr=>∃(a:Nat)(A1:Option Addr)(k1 c1:Nat)(l:List Sl),v5=.int .i64 (a:Int)∧v4=.slice A1 k1 c1∧a≤b.length∧l.length*8≤a∧nP wr A1 k1 c1 l∧(scan b=(l.map Sl.b++(scan (b.drop a)).1,a+(scan (b.drop a)).2))∧ab [] (ak A1) w wr)
  (fun _ v5 _=>b.length-(intOf v5).toNat)
 case atStart=>exact⟨0,none,0,0,[],rfl,rfl,by omega,by simp,⟨rfl,Own.nil _ _ _,by simp⟩,by simp,ab.refl _ _⟩
 case round=>
  obtain⟨a,A1,k1,c1,l,rfl,rfl,ha,MY,ho,hsc,hu⟩:=hrel
  have HS:=aA hsc;clear hsc
  have kV:=(hr.aq hu (by simp)).rest hc a ha
  have C:=yL wr _ _ (c-a) _ kV (by omega) (by omega) (by rw[length_drop];omega)
  obtain⟨m,bad,hf⟩:∃m bad,fst (b.drop a)=(m,bad):=⟨_,_,rfl⟩
  rw[hf]at C
  have hx1:(a:Int)≤(b.length:Int):=by omega
  by_cases h0:bad=0
  ·subst h0
   have EK:=sg hf
   rw[length_drop]at EK
   have h1:=EK.1
   have h2:=EK.2.1
   have HY:=aA (yt hf)
   have nK:¬ c=a:=by omega
   rw[if_neg nK]at kV C
   obtain⟨a8,nN⟩:=bk (a+8)
   have Rt:(a:Int)+8=(a8:Int):=by omega
   have iE:=hr.part hc a8 m (by omega)
   have ob:b.drop a8=(b.drop a).drop 8:=by rw[drop_drop,nN]
   have iq:b.drop (a+(8+m))=(b.drop a).drop (8+m):=by rw[drop_drop]
   rw[ob]at iE
   rw[←iq]at HY
   generalize ((b.drop a).drop 8).take m=x at *
   obtain⟨A8,LH⟩:=bk ((if c=a8 then A else A.map (fun x=>x.add a8)))
   rw[LH]at iE
   have hx2:(a8:Int)+m≤(c:Int):=by omega
   have hx3:(a8:Int)≤(a8:Int)+m:=by omega
   have RG:x.length≤4096:=by have:=iE.len;omega
   have ahF:Hid (a+(8+m)=a8+m):=by unfold Hid;omega
   have Hr:a+(8+m)≤b.length:=by omega
   clear hf EK nK ob iq nN
   repeat' go_step
   refine C.mono ?_;rintro e w1 ⟨rfl,bn⟩
   have U1:=hu.trans (bn.up _)
   have iY:=ho.aq bn
   clear C bn ho kV
   repeat' first|go_step|simp only[];go_at_K
   refine(di w1 A8 m _ x (iE.aq U1 (by simp)) (by omega)).mono ?_;rintro e w2 ⟨A2,k2,c2,rfl,eN,bh⟩
   have U2:=U1.trans (bh.up _)
   have J6:=iY.aq bh
   have hlen:l.length≤1099511627776:=by omega
   have oq:=J6.len
   refine eH ?_
   refine gV rfl _ _ 72 rfl 28 underlying72 WK rfl (by decide) J6.own rfl _ rfl (news:=[.slice A2 k2 c2]) rfl rfl rfl (by unfold maxLen;omega) (by omega) ?_
   intro A3 c3 w3 iD cQ
   have J7:=J6.push (x:=⟨A2,k2,c2,x⟩) eN iD cQ
   clear iY eN J6 iD oq
   refine wk ?_
   refine⟨⟨a+(8+m),A3,_,c3,l++[⟨A2,k2,c2,x⟩],?_,rfl,Hr,by simp;omega,J7,?_,U2.trans cQ⟩,by simp[intOf];omega⟩
   ·congr 1
   ·rw[HS.out,HY.out];simp;omega
  ·have HN:Hid (scan (b.drop a)=([],0)):=wM (by rw[hf];exact h0)
   have hz:((bad:Int) != 0)=true:=by simp;omega
   clear hf h0
   repeat' go_step
   refine C.mono ?_;rintro e w1 ⟨rfl,bn⟩
   refine wk ?_
   go_ret2
   refine⟨A1,k1,c1,l,?_,ho.aq bn,?_,(hu.trans (bn.up _))⟩
   ·rw[HS.out,HN.out];rfl
   ·rw[HS.out,HN.out];simp
