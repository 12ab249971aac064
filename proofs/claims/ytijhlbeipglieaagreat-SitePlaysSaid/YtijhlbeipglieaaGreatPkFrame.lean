/- For SitePlays. -/
import Derived.Laws.Cover3
import Derived.Laws.StructEq
import Derived.Deep.RegionWith
import Derived.Test.YtijhlbeipglieaaGreatPkWire
set_option linter.all false
set_option maxRecDepth 100000
set_option maxHeartbeats 1000000
namespace Go.Proofs.YtijhlbeipglieaaGreat
open Go.RowKit aA Tryz List
theorem YO(c:UInt8)(m:Nat)(hm:bI m)(w:World)(g:Nat)(hb:ak w g 291 #[.int .u32 (m:Int)]) :
  Calls prog 281 #[.int .u8 (c.toNat:Int),.pointer (some ⟨g,0,none⟩)] w fun e w'=>e=.returned (.tuple #[])∧ak w' g 291 #[.int .u32 ((xc m c:Nat):Int)]∧aa [g] [g] w w':=by
 have hc:=hb.cell 0
 have hf:=hb.frozen 0
 simp at hc
 go_enter func281,ntmps281
 refine wk ?_
 go_loopw [8] (fun v8 wr=>∃k:Nat,k≤8∧v8=.int .i64 (k:Int)∧ak wr g 291 #[.int .u32 ((qp k (m ^^^ c.toNat):Nat):Int)]∧aa [g] [g] w wr) (fun v8 _=>8-(intOf v8).toNat)
 case atStart=>
  refine⟨0,by omega,rfl,?_,(aa.refl _ _).setCell (.inl (by simp)) _⟩
  rw[PL hm]
  exact hb.aO 0 _
 case round=>
  obtain⟨k,hk,rfl,hbk,hu⟩:=hrel
  have hU:=xe (hm.xor (bI.byte c)) k
  have HN:Hid (qp (k+1) (m ^^^ c.toNat)=tF (qp k (m ^^^ c.toNat))):=rfl
  have H8:Hid (k=8→qp k (m ^^^ c.toNat)=xc m c):=fun h=>by subst h;rfl
  generalize qp k (m ^^^ c.toNat)=x at *
  clear hc
  have hc:=hbk.cell 0
  have hf:=hbk.frozen 0
  simp at hc
  by_cases hlt:k<8
  ·by_cases agE:x % 2=1
   ·have ho:=SQ hU agE
    repeat' go_step
    refine⟨⟨k+1,by omega,rfl,?_,(hu.setCell (.inl (by simp)) _).setCell (.inl (by simp)) _⟩,by simp[intOf];omega⟩
    rw[HN.out,Ht hU agE]
    exact(hbk.aO 0 _).aO 0 _
   ·have ho:=PM hU agE
    repeat' go_step
    refine⟨⟨k+1,by omega,rfl,?_,hu.setCell (.inl (by simp)) _⟩,by simp[intOf];omega⟩
    rw[HN.out,ES agE]
    exact hbk.aO 0 _
  ·obtain rfl:k=8:=by omega
   have E:Hid (x=xc m c):=H8.out rfl
   refine wk ?_
   go_end0
   exact⟨rfl,by rw[←E.out];exact hbk,hu⟩
theorem XW(c:UInt8)(m:Nat)(hm:bI m)(w:World) :
  Calls prog 295 #[.int .u32 (m:Int),.int .u8 (c.toNat:Int)] w fun e w'=>e=.returned (.int .u32 ((xc m c:Nat):Int))∧w=w':=by
 have hcb:=c.toNat_lt
 go_enter func295,ntmps295
 repeat' go_step
 go_loop [0,5] (fun v0 v5=>∃k:Nat,k≤8∧v5=.int .i64 (k:Int)∧v0=.int .u32 ((qp k (m ^^^ c.toNat):Nat):Int)) (fun _ v5=>8-(intOf v5).toNat)
 case atStart=>
  refine⟨0,by omega,rfl,?_⟩
  rw[NZ hm];rfl
 case round=>
  obtain⟨k,hk,rfl,rfl⟩:=hrel
  have hU:=xe (hm.xor (bI.byte c)) k
  have HN:Hid (qp (k+1) (m ^^^ c.toNat)=tF (qp k (m ^^^ c.toNat))):=rfl
  have H8:Hid (k=8→qp k (m ^^^ c.toNat)=xc m c):=fun h=>by subst h;rfl
  generalize qp k (m ^^^ c.toNat)=x at *
  by_cases hlt:k<8
  ·by_cases agE:x % 2=1
   ·have ho:((x:Int) % 2==1)=true:=by rw[beq_iff_eq];omega
    repeat' go_step
    refine⟨⟨k+1,by omega,rfl,?_⟩,by simp[intOf];omega⟩
    rw[HN.out,PN hU agE]
   ·have ho:((x:Int) % 2==1)=false:=by rw[beq_eq_false_iff_ne];omega
    repeat' go_step
    refine⟨⟨k+1,by omega,rfl,?_⟩,by simp[intOf];omega⟩
    rw[HN.out,N7 hU agE]
  ·obtain rfl:k=8:=by omega
   have E:Hid (x=xc m c):=H8.out rfl
   refine wk ?_
   go_ret
   exact⟨by rw[E.out];rfl,rfl⟩
theorem L9(s:Nat)(hs:bI s)(w:World)(A:Option Addr)(n c:Nat)(l:List UInt8)(hr:aD w A n l)(hl:l.length≤140737488355328) :
  Calls prog 252 #[.int .u32 (s:Int),.slice A n c] w fun e w'=>e=.returned (.int .u32 ((more s l:Nat):Int))∧aa [] [] w w':=by
 obtain rfl:=hr.len
 have hlt:=hr.lt
 go_enter func252,ntmps252
 repeat' go_step
 go_loopw [14] (fun v14 wr=>∃k:Nat,k≤l.length∧v14=.int .i64 (k:Int)∧ak wr w.heap.size 291 #[.int .u32 ((vM (s ^^^ 4294967295) (l.take k):Nat):Int)]∧aa [] [] w wr) (fun v14 _=>l.length-(intOf v14).toNat)
 case atStart=>
  refine⟨0,by omega,rfl,?_,(aa.refl _ _).alloc _⟩
  rw[Ch hs]
  exact ak.new _ _ _
 case round=>
  obtain⟨k,hk,rfl,hbk,hu⟩:=hrel
  have hU:=Bg (hs.xor bI.all) (l.take k)
  have hc:=hbk.cell 0
  have hf:=hbk.frozen 0
  simp at hc
  have hrr:=hr.upd hu
  by_cases h1:k<l.length
  ·obtain⟨ad,u,rfl,hx,acM⟩:=Rd.at_ hrr (k:=k) h1
   rw[iq l k h1]at hx
   obtain rfl:=Option.some.inj hx
   have HS:=hdn (ET (w:=s ^^^ 4294967295) h1)
   generalize vM (s ^^^ 4294967295) (l.take k)=x at *
   clear hx
   repeat' go_step
   refine(YO l[k] x hU wr w.heap.size hbk).mono ?_
   rintro e w1 ⟨rfl,hb1,hu1⟩
   refine wk ?_
   refine⟨⟨k+1,by omega,rfl,?_,?_⟩,by simp[intOf];omega⟩
   ·rw[HS.out];exact hb1
   ·exact((hu.gives (b':=[w.heap.size]) (by simp)).trans hu1).gives
  ·obtain rfl:k=l.length:=by omega
   rw[take_length]at hbk hU hc
   refine wk ?_
   go_ret
   refine⟨?_,hu⟩
   rw[Ch hU];rfl
theorem YP(w:World)(A:Option Addr)(n c:Nat)(l:List UInt8)(hr:aD w A n l)(hl:l.length≤140737488355328) :
  Calls prog 253 #[.slice A n c] w fun e w'=>e=.returned (.int .u32 ((more 0 l:Nat):Int))∧aa [] [] w w':=by
 go_enter func253,ntmps253
 repeat' go_step
 refine(L9 0 bI.zero w A n c l hr hl).mono ?_
 rintro e w1 ⟨rfl,hu1⟩
 refine wk ?_
 go_ret
 exact⟨rfl,hu1⟩
theorem Ee(s:Nat)(hs:bI s)(w:World)(A:Option Addr)(n c:Nat)(l:List UInt8)(hr:aD w A n l)(hl:l.length≤140737488355328) :
  Calls prog 272 #[.int .u32 (s:Int),.slice A n c] w fun e w'=>e=.returned (.int .u32 ((more s l:Nat):Int))∧w=w':=by
 obtain rfl:=hr.len
 go_enter func272,ntmps272
 repeat' go_step
 go_loop [5,6] (fun v5 v6=>∃k:Nat,k≤l.length∧v6=.int .i64 (k:Int)∧v5=.int .u32 ((vM (s ^^^ 4294967295) (l.take k):Nat):Int)) (fun _ v6=>l.length-(intOf v6).toNat)
 case atStart=>
  refine⟨0,by omega,rfl,?_⟩
  rw[Hu hs];rfl
 case round=>
  obtain⟨k,hk,rfl,rfl⟩:=hrel
  have hU:=Bg (hs.xor bI.all) (l.take k)
  by_cases h1:k<l.length
  ·obtain⟨ad,u,rfl,hx,acM⟩:=Rd.at_ hr (k:=k) h1
   rw[iq l k h1]at hx
   obtain rfl:=Option.some.inj hx
   have HS:=hdn (ET (w:=s ^^^ 4294967295) h1)
   generalize vM (s ^^^ 4294967295) (l.take k)=x at *
   clear hx
   repeat' go_step
   refine(XW l[k] x hU w).mono ?_
   rintro e w1 ⟨rfl,rfl⟩
   refine wk ?_
   refine⟨⟨k+1,by omega,rfl,?_⟩,by simp[intOf];omega⟩
   rw[HS.out]
  ·obtain rfl:k=l.length:=by omega
   rw[take_length]at hU ⊢
   refine wk ?_
   go_ret
   refine⟨?_,rfl⟩
   rw[Hu hU];rfl
theorem PO(w:World)(A:Option Addr)(n c:Nat)(l:List UInt8)(hr:aD w A n l)(hl:l.length≤140737488355328) :
  Calls prog 273 #[.slice A n c] w fun e w'=>e=.returned (.int .u32 ((more 0 l:Nat):Int))∧w=w':=by
 go_enter func273,ntmps273
 repeat' go_step
 refine(Ee 0 bI.zero w A n c l hr hl).mono ?_
 rintro e w1 ⟨rfl,rfl⟩
 refine wk ?_
 go_ret
 exact⟨rfl,rfl⟩
theorem YQ(a0 a1 a2 a3 b0 b1 b2 b3:Int)(w:World):(binOp .neq 289 (.agg #[.int .u8 a0,.int .u8 a1,.int .u8 a2,.int .u8 a3]) (.agg #[.int .u8 b0,.int .u8 b1,.int .u8 b2,.int .u8 b3])).run prog w
  = .ok (.bool (!((a0==b0)&&((a1==b1)&&((a2==b2)&&(a3==b3)))))) w:=by
 have p0:=fun(x0 x1 x2 x3:Int)(w:World)=>show(part 5 #[.int .u8 x0,.int .u8 x1,.int .u8 x2,.int .u8 x3] 0).run prog w=.ok (.int .u8 x0) w by kernel_rfl
 have p1:=fun(x0 x1 x2 x3:Int)(w:World)=>show(part 5 #[.int .u8 x0,.int .u8 x1,.int .u8 x2,.int .u8 x3] 1).run prog w=.ok (.int .u8 x1) w by kernel_rfl
 have p2:=fun(x0 x1 x2 x3:Int)(w:World)=>show(part 5 #[.int .u8 x0,.int .u8 x1,.int .u8 x2,.int .u8 x3] 2).run prog w=.ok (.int .u8 x2) w by kernel_rfl
 have p3:=fun(x0 x1 x2 x3:Int)(w:World)=>show(part 5 #[.int .u8 x0,.int .u8 x1,.int .u8 x2,.int .u8 x3] 3).run prog w=.ok (.int .u8 x3) w by kernel_rfl
 have e0:=fun(a b:Int)(w:World)=>show(Op.equalIn 9999 5 (.int .u8 a) (.int .u8 b)).run prog w=.ok (a==b) w by kernel_rfl
 have z:=fun(w:World)=>show(sizeOf 5).run prog w=.ok 1 w by kernel_rfl
 rw[run_neq_struct]
 rw[show(10000:Nat)=9999+1 from rfl,Op.equalIn]
 simp only[Sem.run_bind,run_underlying underlying289,Result.andThen_ok,z,Std.Legacy.Range.forIn_eq_forIn_range',Std.Legacy.Range.size,range',forIn_cons,forIn_nil,Nat.zero_mul,Nat.one_mul,Nat.reduceAdd,Nat.reduceMul,Nat.reduceSub,Nat.reduceDiv,Nat.add_zero,Nat.mul_one,Nat.zero_add,Nat.sub_zero,p0,p1,e0]
 cases a0==b0
 ·simp[Sem.run_pure]
 simp only[Bool.not_true,Bool.false_eq_true,if_false,Sem.run_pure,Sem.run_bind,Result.andThen_ok,p0,p1,e0]
 cases a1==b1
 ·simp[Sem.run_pure]
 simp only[Bool.not_true,Bool.false_eq_true,if_false,Sem.run_pure,Sem.run_bind,Result.andThen_ok,p0,p2,e0]
 cases a2==b2
 ·simp[Sem.run_pure]
 simp only[Bool.not_true,Bool.false_eq_true,if_false,Sem.run_pure,Sem.run_bind,Result.andThen_ok,p0,p3,e0]
 cases a3==b3<;>simp[Sem.run_pure]
def yD(l:List UInt8):Value:=.agg (iH l).toArray
theorem uM(n:Nat):yD (four n)=.agg #[.int .u8 ((n:Int) % 256),.int .u8 ((n:Int) / 256 % 256),.int .u8 ((n:Int) / 65536 % 256),.int .u8 ((n:Int) / 16777216 % 256)]:=by
 have e:∀k:Nat,B8 (UInt8.ofNat k)=.int .u8 ((k:Int) % 256):=fun k=>by
  unfold B8;congr 1
 simp only[yD,four,iH,map_cons,map_nil,e]
 congr 1
theorem EU(n:Nat)(_hn:bI n)(w:World) :
  Calls prog 201 #[.int .u32 (n:Int)] w fun e w'=>e=.returned (yD (four n))∧aa [] [] w w':=by
 rw[uM]
 go_enter func201,ntmps201
 refine wk ?_
 exact bodyPost_ret (v:=.agg #[.int .u8 ((n:Int) % 256),.int .u8 ((n:Int) / 256 % 256),.int .u8 ((n:Int) / 65536 % 256),.int .u8 ((n:Int) / 16777216 % 256)]) (by simp[results,results201,go_sem]) rfl ⟨rfl,(aa.refl _ _).alloc _⟩
theorem Hw(z0 z1 z2 z3:UInt8)(w:World)(A:Option Addr)(n c:Nat)(b:List UInt8)(hr:aD w A n b)(hb:b.length≤140737488355328) :
  Calls prog 202 #[yD [z0,z1,z2,z3],.slice A n c] w fun e w'=>e=.returned (yD (four (nH [z0,z1,z2,z3] b)))∧aa [] [] w w':=by
 obtain⟨s,hs⟩:=ex1 (more 0 [z0,z1,z2,z3])
 have hU:bI s:=by rw[←hs];exact qw bI.zero _
 have HF:Hid (nH [z0,z1,z2,z3] b=more s b):=by unfold Hid nH;rw[hs]
 have HS:=hdn hs;clear hs
 rw[show yD [z0,z1,z2,z3]=.agg #[B8 z0,B8 z1,B8 z2,B8 z3]from rfl]
 go_enter func202,ntmps202
 repeat' go_step
 have hz:aD ((w.alloc (.cells #[B8 z0,B8 z1,B8 z2,B8 z3] 289)).alloc (.cells #[.int .u8 0,.int .u8 0,.int .u8 0,.int .u8 0] 289)) (some ⟨w.heap.size,0,none⟩) 4 [z0,z1,z2,z3]:=
  Rd.blk (cs:=[B8 z0,B8 z1,B8 z2,B8 z3]) ((ak.new _ _ _).alloc _) rfl
 refine(YP _ _ 4 4 _ hz (by simp)).mono ?_
 rintro e w1 ⟨rfl,hu1⟩
 rw[HS.out]
 have U1:aa [] [] w w1:=(((aa.refl [] w).alloc _).alloc _).trans hu1
 have hT1:=(ak.new (w.alloc (.cells #[B8 z0,B8 z1,B8 z2,B8 z3] 289)) 289 #[.int .u8 0,.int .u8 0,.int .u8 0,.int .u8 0]).upd hu1
 rw[World.size_alloc]at hT1
 clear hu1 hz
 repeat' first|go_step|simp only[];go_at_K
 refine(L9 s hU w1 A n c b (hr.upd U1) hb).mono ?_
 rintro e w2 ⟨rfl,hu2⟩
 have YR:=qw hU b
 rw[←HF.out]at YR ⊢
 obtain⟨x,hx⟩:=ex1 (nH [z0,z1,z2,z3] b)
 rw[hx]at YR ⊢
 have HX:=hdn hx;clear hx
 repeat' first|go_step|simp only[];go_at_K
 refine(EU x YR w2).mono ?_
 rintro e w3 ⟨rfl,hu3⟩
 have U3:=(U1.trans hu2).trans hu3
 have vZ:=hT1.upd (hu2.trans hu3)
 have hlt:=vZ.lt
 obtain⟨⟨t0,t1,t2,t3⟩,f0,f1,f2,f3⟩:=vZ.c4
 rw[uM]
 refine wk ?_
 have N:=dM [.int .u8 ((x:Int) % 256),.int .u8 ((x:Int) / 256 % 256),.int .u8 ((x:Int) / 65536 % 256),.int .u8 ((x:Int) / 16777216 % 256)] vZ rfl U3 (.inr (by omega))
 simp only[setRow]at N
 generalize World.setCell _ ⟨w.heap.size+1,3,none⟩ _=W4 at N ⊢
 obtain⟨hN,hU4⟩:=N
 obtain⟨⟨q0,q1,q2,q3⟩,-⟩:=hN.c4
 exact bodyPost_ret (v:=.agg #[.int .u8 ((x:Int) % 256),.int .u8 ((x:Int) / 256 % 256),.int .u8 ((x:Int) / 65536 % 256),.int .u8 ((x:Int) / 16777216 % 256)]) (by simp[results,results202,go_sem,q0,q1,q2,q3]) rfl ⟨by rw[HX.out,uM],hU4⟩
theorem N8(w:World)(A:Option Addr)(n c:Nat)(b:List UInt8)(hr:aD w A n b)(hc:n≤c)(hcm:c≤maxLen)(hb:b.length≤140737488355328) :
  Calls prog 254 #[.slice A n c] w fun e w'=>e=.returned (.tuple #[.int .i64 (((fst b).1:Nat):Int),.int .i64 (((fst b).2:Nat):Int)])∧aa [] [] w w':=by
 obtain rfl:=hr.len
 by_cases h8:b.length<8
 ·have H:Hid (fst b=(0,3)):=by unfold Hid fst;rw[if_pos h8]
  go_enter func254,ntmps254
  repeat' go_step
  go_ret2
  exact⟨by rw[H.out];rfl,aa.refl _ _⟩
 have hx2:(b.length:Int)≤(c:Int):=by omega
 have hx3:(8:Int)≤(b.length:Int):=by omega
 have hx4:(4:Int)≤(b.length:Int):=by omega
 have hx5:(4:Int)≤(c:Int):=by omega
 have YS:(c:Int)≤9223372036854775807:=by unfold maxLen at hcm;omega
 obtain⟨ad,rfl,acM⟩:=hr.2 (by omega)
 have ha:∀(i:Nat),0<i→ad.add i=⟨ad.block,ad.off+i,none⟩:=fun i hi=>by unfold Addr.add;rw[if_neg (by omega)]
 have c0:w.cell? ad=some (.int .u8 (b[0].toNat:Int)):=acM 0 _ (iq b 0 (by omega))
 have c1:=acM 1 _ (iq b 1 (by omega))
 have c2:=acM 2 _ (iq b 2 (by omega))
 have c3:=acM 3 _ (iq b 3 (by omega))
 have c4:=acM 4 _ (iq b 4 (by omega))
 have c5:=acM 5 _ (iq b 5 (by omega))
 have c6:=acM 6 _ (iq b 6 (by omega))
 have c7:=acM 7 _ (iq b 7 (by omega))
 rw[ha _ (by omega)]at c1 c2 c3 c4 c5 c6 c7
 clear ha acM
 have hq:=fun w:World=>run_arrayAt (P:=prog) (w:=w) 289 5 4 (some ad) 4 c underlying289 (by omega)
 have hor:=or4 b[0].toNat_lt b[1].toNat_lt b[2].toNat_lt b[3].toNat_lt (SS (b:=b) (by omega))
 have hU:=xg b
 by_cases h5:4096<bT b
 ·have H:Hid (fst b=(0,5)):=by unfold Hid fst;rw[if_neg h8,if_pos h5]
  generalize bT b=m at *
  clear c4 c5 c6 c7
  go_enter func254,ntmps254
  repeat' go_step
  go_ret2
  exact⟨by rw[H.out];rfl,(aa.refl _ _).alloc _⟩
 by_cases h3:b.length-8<bT b
 ·have H:Hid (fst b=(0,3)):=by unfold Hid fst;rw[if_neg h8,if_neg h5,if_pos h3]
  generalize bT b=m at *
  clear c4 c5 c6 c7
  have hd:decide ((b.length:Int)-8<m)=true:=dTo
  go_enter func254,ntmps254
  repeat' go_step
  go_ret2
  exact⟨by rw[H.out];rfl,(aa.refl _ _).alloc _⟩
 have hdh:decide ((b.length:Int)-8<(bT b:Nat))=false:=dFo
 have hx1:(bT b:Int)+8≤(c:Int):=by omega
 have hs4:(b.drop 4).take 4= [b[4],b[5],b[6],b[7]]:=by
  rw[drop_eq_getElem_cons (show 4<b.length by omega),drop_eq_getElem_cons (show 4+1<b.length by omega),drop_eq_getElem_cons (show 4+1+1<b.length by omega),drop_eq_getElem_cons (show 4+1+1+1<b.length by omega)];rfl
 have ht4:b.take 4= [b[0],b[1],b[2],b[3]]:=by
  conv=>lhs;rw[←drop_zero (l:=b)]
  rw[drop_eq_getElem_cons (show 0<b.length by omega),drop_eq_getElem_cons (show 0+1<b.length by omega),drop_eq_getElem_cons (show 0+1+1<b.length by omega),drop_eq_getElem_cons (show 0+1+1+1<b.length by omega)];rfl
 have hfs:fst b=if bT (b.drop 4)≠nH [b[0],b[1],b[2],b[3]] ((b.drop 8).take (bT b)) then(0,4) else(bT b,0):=by unfold fst;rw[if_neg h8,if_neg h5,if_neg h3,ht4]
 have Ci:four (bT (b.drop 4))= [b[4],b[5],b[6],b[7]]:=by rw[←N9 (by simp;omega),hs4]
 have hp:aD w (if c=8 then some ad else some ⟨ad.block,ad.off+8,none⟩) (bT b) ((b.drop 8).take (bT b)):=by
  have:=hr.part hc 8 (bT b) (by omega)
  simpa[Addr.add]using this
 have CS:=fun(W':World)(h:aD W' (if c=8 then some ad else some ⟨ad.block,ad.off+8,none⟩) (bT b) ((b.drop 8).take (bT b)))=>Hw b[0] b[1] b[2] b[3] W' _ _ (c-8) _ h (by simp;omega)
 rw[show yD [b[0],b[1],b[2],b[3]]=.agg #[.int .u8 (b[0].toNat:Int),.int .u8 (b[1].toNat:Int),.int .u8 (b[2].toNat:Int),.int .u8 (b[3].toNat:Int)]from rfl]at CS
 obtain⟨g4,g5,g6,g7⟩:=SV Ci
 rw[g4]at c4
 rw[g5]at c5
 rw[g6]at c6
 rw[g7]at c7
 have hXU:=Bh [b[0],b[1],b[2],b[3]] ((b.drop 8).take (bT b))
 have hyU:=xg (b.drop 4)
 clear g4 g5 g6 g7 Ci hs4 ht4
 generalize b[0].toNat=x0 at *
 generalize b[1].toNat=x1 at *
 generalize b[2].toNat=x2 at *
 generalize b[3].toNat=x3 at *
 generalize nH [b[0],b[1],b[2],b[3]] ((b.drop 8).take (bT b))=X at *
 generalize bT (b.drop 4)=y at *
 generalize bT b=m at *
 rw[uM]at CS
 have HF:=hdn hfs;clear hfs
 have hc4:¬ c=4:=by omega
 have hq2:=fun w:World=>run_arrayAt (P:=prog) (w:=w) 289 5 4 (some ⟨ad.block,ad.off+4,none⟩) 4 (c-4) underlying289 (by omega)
 have yE:Hid (8+m-8=m):=by unfold Hid;omega
 obtain⟨A8,qV⟩:=ex1 ((if c=8 then some ad else some ⟨ad.block,ad.off+8,none⟩))
 rw[qV]at CS hp
 have HCS:Hid (∀W',_→_):=CS
 clear CS
 go_enter func254,ntmps254
 repeat' go_step
 have B0:=ak.new w 289 #[.int .u8 (x0:Int),.int .u8 (x1:Int),.int .u8 (x2:Int),.int .u8 (x3:Int)]
 have U0:aa [] [] w (w.alloc (.cells #[.int .u8 (x0:Int),.int .u8 (x1:Int),.int .u8 (x2:Int),.int .u8 (x3:Int)] 289)):=(aa.refl _ _).alloc _
 obtain⟨W0,hW0⟩:=ex1 (w.alloc (.cells #[.int .u8 (x0:Int),.int .u8 (x1:Int),.int .u8 (x2:Int),.int .u8 (x3:Int)] 289))
 rw[hW0]at B0 U0 ⊢
 clear hW0 c0 c1 c2 c3 hor hq
 have hp0:=hp.upd U0
 have d4:=U0.cell c4 (by simp)
 have d5:=U0.cell c5 (by simp)
 have d6:=U0.cell c6 (by simp)
 have d7:=U0.cell c7 (by simp)
 obtain⟨⟨k0,k1,k2,k3⟩,-⟩:=B0.c4
 clear c4 c5 c6 c7 hp
 have hw1:=wr (8+(m:Int))
 have hw2:IntKind.i64.wrap (m:Int)=(m:Int):=by rw[IntKind.wrap_i64];omega
 have hw3:(8+(m:Int)).toNat=8+m:=by omega
 have hw4:(0:Int)≤(m:Int):=by omega
 have hw5:8+(m:Int)≤(c:Int):=by omega
 have YT:8+m-8=m:=yE.out
 have hw7:(8:Int)≤8+(m:Int):=by omega
 have hw8:(8:Int)≤(c:Int):=by omega
 by_cases hxy:y=X
 ·have H:Hid (fst b=(m,0)):=by have:=HF.out;rw[if_neg (by simpa using hxy)]at this;exact this
  subst hxy
  have hnq:=fun w:World=>YQ ((y:Int) % 256) ((y:Int) / 256 % 256) ((y:Int) / 65536 % 256) ((y:Int) / 16777216 % 256) ((y:Int) % 256) ((y:Int) / 256 % 256) ((y:Int) / 65536 % 256) ((y:Int) / 16777216 % 256) w
  simp only[beq_self_eq_true,Bool.and_self,Bool.not_true]at hnq
  clear HF
  go_region_with (go_at_call 202;refine(HCS.out _ (by first|exact hp0|exact Rd.drew hp0)).mono ?_;rintro e w5 ⟨rfl,bD⟩;have e4:=bD.cell d4 (by simp);have e5:=bD.cell d5 (by simp);have e6:=bD.cell d6 (by simp);have e7:=bD.cell d7 (by simp))
  all_goals (repeat' go_step)
  all_goals go_ret2
  all_goals exact⟨by rw[H.out];rfl,U0.drew.trans bD⟩
 ·have H:Hid (fst b=(0,4)):=by have:=HF.out;rw[if_pos hxy]at this;exact this
  have hnq:∀w:World,_:=fun w=>(YQ ((y:Int) % 256) ((y:Int) / 256 % 256) ((y:Int) / 65536 % 256) ((y:Int) / 16777216 % 256) ((X:Int) % 256) ((X:Int) / 256 % 256) ((X:Int) / 65536 % 256) ((X:Int) / 16777216 % 256) w).trans (by rw[XX hXU hyU hxy])
  clear HF
  go_region_with (go_at_call 202;refine(HCS.out _ (by first|exact hp0|exact Rd.drew hp0)).mono ?_;rintro e w5 ⟨rfl,bD⟩;have e4:=bD.cell d4 (by simp);have e5:=bD.cell d5 (by simp);have e6:=bD.cell d6 (by simp);have e7:=bD.cell d7 (by simp))
  all_goals (repeat' go_step)
  all_goals go_ret2
  all_goals exact⟨by rw[H.out];rfl,U0.drew.trans bD⟩
theorem He(w:World)(A:Option Addr)(n c:Nat)(b:List UInt8)(hr:aD w A n b)(hb:b.length≤4096) :
  Calls prog 126 #[.slice A n c] w fun e w'=>∃A' k' c',e=.returned (.tuple #[.slice A' k' c',.int .i64 0])∧aT 5 w' A' k' c' (put b)∧aa [] (ah A') w w':=by
 obtain rfl:=hr.len
 have hU:bI b.length:=by unfold bI;omega
 obtain⟨z0,z1,z2,z3,hz⟩:∃z0 z1 z2 z3,four b.length= [z0,z1,z2,z3]:=⟨_,_,_,_,rfl⟩
 obtain⟨s0,s1,s2,s3,hs⟩:∃s0 s1 s2 s3,four (nH [z0,z1,z2,z3] b)= [s0,s1,s2,s3]:=⟨_,_,_,_,rfl⟩
 have HP:Hid (put b= [z0,z1,z2,z3]++[s0,s1,s2,s3]++b):=by unfold Hid put;rw[hz,hs]
 have C1:=EU b.length hU
 rw[hz]at C1
 have C2:=fun w A n c h hb=>Hw z0 z1 z2 z3 w A n c b h hb
 rw[hs]at C2
 clear hz hs hU
 have e4:∀a b c d:UInt8,yD [a,b,c,d]=.agg #[.int .u8 (a.toNat:Int),.int .u8 (b.toNat:Int),.int .u8 (c.toNat:Int),.int .u8 (d.toNat:Int)]:=fun _ _ _ _=>rfl
 rw[e4]at C1 C2
 rw[e4]at C2
 clear e4
 go_enter func126,ntmps126
 repeat' (fail_if_success with_reducible refine Ag rfl ?_);go_step
 refine(C1 w).mono ?_
 rintro e w1 ⟨rfl,hu1⟩
 repeat' (fail_if_success with_reducible refine Ag rfl ?_);first|go_step|simp only[];go_at_K
 refine(C2 _ A _ c ((hr.upd hu1).alloc _) (by omega)).mono ?_
 rintro e w2 ⟨rfl,hu2⟩
 have hZ:=(ak.new w1 289 #[.int .u8 (z0.toNat:Int),.int .u8 (z1.toNat:Int),.int .u8 (z2.toNat:Int),.int .u8 (z3.toNat:Int)]).upd hu2
 have U2:aa [] [] w w2:=(hu1.alloc _).trans hu2
 clear C1 C2 hu1 hu2
 have hw1:8+(b.length:Int)≤5000:=by omega
 repeat' (fail_if_success at_make);(fail_if_success with_reducible refine Ag rfl ?_);first|go_values|go_skip|go_guarded|go_step|go_upon|simp only[];go_at_K
 have hS:=ak.new w2 289 #[.int .u8 (s0.toNat:Int),.int .u8 (s1.toNat:Int),.int .u8 (s2.toNat:Int),.int .u8 (s3.toNat:Int)]
 have hZ:=hZ.alloc (.cells #[.int .u8 (s0.toNat:Int),.int .u8 (s1.toNat:Int),.int .u8 (s2.toNat:Int),.int .u8 (s3.toNat:Int)] 289)
 have U3:=U2.alloc (.cells #[.int .u8 (s0.toNat:Int),.int .u8 (s1.toNat:Int),.int .u8 (s2.toNat:Int),.int .u8 (s3.toNat:Int)] 289)
 obtain⟨i,hi,hz0,hsz,hby⟩:=info_parts gp
 refine wpList_make_own _ rfl _ _ 28 rfl 0 5 i (.int .u8 0) 1 underlying28 hi hz0 hsz .i64 .i64 (8+(b.length:Int)) (8+b.length) rfl rfl (by omega) (by rw[hby];omega) (by unfold maxLen;omega) (by omega) ?_
 intro w4 bY hg4
 clear hi hz0 hsz hby
 have Cj:=hS.grown hg4 (by simp)
 have hZ4:=hZ.grown hg4 (by simp)
 have U4:=U3.grown hg4 (fun k h=>by cases h)
 rw[World.size_alloc]at bY ⊢
 have O4:aT 5 w4 (some ⟨w2.heap.size+1,0,none⟩) 0 (8+b.length) []:=⟨rfl,bY⟩
 have rZ4:aD w4 (some ⟨w1.heap.size,0,none⟩) 4 [z0,z1,z2,z3]:=Rd.blk (cs:=iH [z0,z1,z2,z3]) hZ4 rfl
 have rS4:aD w4 (some ⟨w2.heap.size,0,none⟩) 4 [s0,s1,s2,s3]:=Rd.blk (cs:=iH [s0,s1,s2,s3]) Cj rfl
 have l1:=U2.size
 clear hS hZ U3 hg4 bY Cj hZ4 U2
 repeat' (fail_if_success with_reducible refine Ag rfl ?_);go_step
 refine eD rfl _ _ 28 rfl 5 underlying28 gp O4 rfl rZ4 rfl (by simp) ?_
 intro A5 k5 c5 w5 dB bD
 have rS5:=rS4.upd bD (by simp[ah])
 have U5:=(U4.gives (b':=ah (some ⟨w2.heap.size+1,0,none⟩)) (by simp[ah];omega)).trans bD
 clear O4 rZ4 rS4 U4 bD
 repeat' (fail_if_success with_reducible refine Ag rfl ?_);go_step
 refine eD rfl _ _ 28 rfl 5 underlying28 gp dB rfl rS5 rfl (by simp) ?_
 intro A6 k6 c6 w6 iX eP
 have U6:=U5.trans eP
 have Ai:=hr.upd U6
 clear dB rS5 U5 eP
 repeat' (fail_if_success with_reducible refine Ag rfl ?_);go_step
 refine eD rfl _ _ 28 rfl 5 underlying28 gp iX rfl Ai rfl (by simp;omega) ?_
 intro A7 k7 c7 w7 jW gJ
 have U7:=U6.trans gJ
 rw[nil_append,←HP.out]at jW
 clear iX Ai U6 gJ
 refine wk ?_
 go_ret2
 exact⟨A7,k7,c7,rfl,jW,U7⟩
structure Sl where
 A:Option Addr
 k:Nat
 c:Nat
 b:List UInt8
def Sl.val(x:Sl):Value:=.slice x.A x.k x.c
theorem Hy:(prog.info? 28).map (fun i=>(i.zero,i.size,i.bytes))=some (some (.slice none 0 0),1,24):=by kernel_rfl
structure o9(w:World)(A:Option Addr)(k c:Nat)(l:List Sl):Prop where
 len:k=l.length
 own:Own 28 1 w A k c (l.map Sl.val)
 each:∀x∈l,aT 5 w x.A x.k x.c x.b
theorem o9.upd{w w':World}{A:Option Addr}{k c:Nat}{l:List Sl}{b:List Nat}(h:o9 w A k c l)(hu:aa [] b w w'):o9 w' A k c l:=
 ⟨h.len,h.own.upd hu,fun x hx=>(h.each x hx).upd hu⟩
theorem o9.push{w w':World}{A A':Option Addr}{k c c':Nat}{l:List Sl}{x:Sl}(h:o9 w A k c l)(hx:aT 5 w x.A x.k x.c x.b)(ho:Own 28 1 w' A' (k+1) c' (l.map Sl.val++[x.val]))(hu:aa (ah A) (ah A') w w'):o9 w' A' (k+1) c' (l++[x]):=
 ⟨by simp[h.len],by simpa using ho,fun y hy=>by
  rcases mem_append.1 hy with hy|hy
  ·exact(h.each y hy).upd hu ((h.each y hy).own.wW h.own (by decide))
  ·obtain rfl:=mem_singleton.1 hy
   exact hx.upd hu (hx.own.wW h.own (by decide))⟩
theorem PQ(w:World)(A:Option Addr)(n c:Nat)(b:List UInt8)(hr:aD w A n b)(hc:n≤c)(hcm:c≤maxLen)(hb:b.length≤1099511627776) :
  Calls prog 204 #[.slice A n c] w fun e w'=>∃A' k' c' l,e=.returned (.tuple #[.slice A' k' c',.int .i64 (((scan b).2:Nat):Int)])∧o9 w' A' k' c' l∧l.map Sl.b=(scan b).1∧aa [] (ah A') w w':=by
 obtain rfl:=hr.len
 have YS:(c:Int)≤9223372036854775807:=by unfold maxLen at hcm;omega
 go_enter func204,ntmps204
 refine wk ?_
 go_loopw [4,5] (fun v4 v5 wr=>∃(a:Nat)(A1:Option Addr)(k1 c1:Nat)(l:List Sl),v5=.int .i64 (a:Int)∧v4=.slice A1 k1 c1∧a≤b.length∧l.length*8≤a∧o9 wr A1 k1 c1 l∧(scan b=(l.map Sl.b++(scan (b.drop a)).1,a+(scan (b.drop a)).2))∧aa [] (ah A1) w wr)
  (fun _ v5 _=>b.length-(intOf v5).toNat)
 case atStart=>exact⟨0,none,0,0,[],rfl,rfl,by omega,by simp,⟨rfl,Own.nil _ _ _,by simp⟩,by simp,aa.refl _ _⟩
 case round=>
  obtain⟨a,A1,k1,c1,l,rfl,rfl,ha,PR,ho,hsc,hu⟩:=hrel
  have HS:=hdn hsc;clear hsc
  have hrr:=(hr.upd hu).rest hc a ha
  have C:=N8 wr _ _ (c-a) _ hrr (by omega) (by omega) (by rw[length_drop];omega)
  obtain⟨m,bad,hf⟩:∃m bad,fst (b.drop a)=(m,bad):=⟨_,_,rfl⟩
  rw[hf]at C
  have hx1:(a:Int)≤(b.length:Int):=by omega
  by_cases h0:bad=0
  ·subst h0
   have Ck:=wm hf
   rw[length_drop]at Ck
   have h1:=Ck.1
   have h2:=Ck.2.1
   have HY:=hdn (xh hf)
   have hca:¬ c=a:=by omega
   rw[if_neg hca]at hrr C
   obtain⟨a8,ha8⟩:=ex1 (a+8)
   have atE:(a:Int)+8=(a8:Int):=by omega
   have xR:=hr.part hc a8 m (by omega)
   have Wv:b.drop a8=(b.drop a).drop 8:=by rw[drop_drop,ha8]
   have ib:b.drop (a+(8+m))=(b.drop a).drop (8+m):=by rw[drop_drop]
   rw[Wv]at xR
   rw[←ib]at HY
   generalize ((b.drop a).drop 8).take m=x at *
   obtain⟨A8,qV⟩:=ex1 ((if c=a8 then A else A.map (fun x=>x.add a8)))
   rw[qV]at xR
   have hx2:(a8:Int)+m≤(c:Int):=by omega
   have hx3:(a8:Int)≤(a8:Int)+m:=by omega
   have hxl:x.length≤4096:=by have:=xR.len;omega
   have ain:Hid (a+(8+m)=a8+m):=by unfold Hid;omega
   have hx5:a+(8+m)≤b.length:=by omega
   clear hf Ck hca Wv ib ha8
   repeat' go_step
   refine C.mono ?_;rintro e w1 ⟨rfl,hu1⟩
   have U1:=hu.trans (hu1.up _)
   have ho1:=ho.upd hu1
   clear C hu1 ho hrr
   repeat' first|go_step|simp only[];go_at_K
   refine(dS w1 A8 m _ x (xR.upd U1) (by omega)).mono ?_;rintro e w2 ⟨A2,k2,c2,rfl,ho2,hu2⟩
   have U2:=U1.trans (hu2.up _)
   have Bi:=ho1.upd hu2
   have hlen:l.length≤1099511627776:=by omega
   have hk1:=Bi.len
   refine bN ?_
   refine bQ rfl _ _ 72 rfl 28 underlying72 Hy rfl (by decide) Bi.own rfl _ rfl (news:=[.slice A2 k2 c2]) rfl rfl rfl (by unfold maxLen;omega) (by omega) ?_
   intro A3 c3 w3 ho3 hu3
   have Bj:=Bi.push (x:=⟨A2,k2,c2,x⟩) ho2 ho3 hu3
   clear ho1 ho2 Bi ho3 hk1
   refine wk ?_
   refine⟨⟨a+(8+m),A3,_,c3,l++[⟨A2,k2,c2,x⟩],?_,rfl,hx5,by simp;omega,Bj,?_,U2.trans hu3⟩,by simp[intOf];omega⟩
   ·congr 1
   ·rw[HS.out,HY.out];simp;omega
  ·have HN:Hid (scan (b.drop a)=([],0)):=wu (by rw[hf];exact h0)
   have hz:((bad:Int) != 0)=true:=by simp;omega
   clear hf h0
   repeat' go_step
   refine C.mono ?_;rintro e w1 ⟨rfl,hu1⟩
   refine wk ?_
   go_ret2
   refine⟨A1,k1,c1,l,?_,ho.upd hu1,?_,(hu.trans (hu1.up _))⟩
   ·rw[HS.out,HN.out];rfl
   ·rw[HS.out,HN.out];simp
