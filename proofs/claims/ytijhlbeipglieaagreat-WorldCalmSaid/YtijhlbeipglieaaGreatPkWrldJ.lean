/- For WorldCalm. -/
import Derived.Test.YtijhlbeipglieaaGreatPkDeed
import Derived.Test.YtijhlbeipglieaaGreatPkWrldF
import Derived.Test.YtijhlbeipglieaaGreatPkWrldO
set_option linter.all false
set_option maxRecDepth 100000
set_option maxHeartbeats 4000000
namespace Go.Proofs.YtijhlbeipglieaaGreat
open Go.ChangeShapes Go.WideShapes Go.RowKit Go.Deep aL Go.Proofs.Tryz List
section
variable {H:Type} {enc:TypeId × Value→H} {W:World} {base:Nat} {spare:Nat→Bool} {held:Bool} {a0:Option Addr} {len cap:Nat} {d:DataW H} {p:List MemPlace}
theorem OJ(h:DataW.Trod enc prog W base spare held 28 (.slice a0 len cap) d p)(hw:∀k∈d.weights prog 28,k≤reachBytes) :
  ∃b:List UInt8,bE W a0 len b∧len≤cap∧cap≤maxLen∧b.length≤140737488351232:=by
 obtain⟨b,h1,h2,h3,_,h5⟩:=Qd h
 refine⟨b,h1,h2,h3,?_⟩
 rcases h5 with⟨_,rfl⟩|⟨sp,rfl⟩
 ·simp
 ·have:=hw ((((b.map fun c=>DataW.lit (.int .u8 (c.toNat:Int))):List (DataW H)).length+sp.length)*prog.bytesOf 5) (by simp[DataW.weights,underlying28])
  rw[show prog.bytesOf 5=1 by kernel_rfl]at this
  simp only[length_map,reachBytes]at this
  omega
theorem Hm{fuel:Nat}{v:Value}{x:DataW H × List MemPlace}(h:DataW.trod enc prog W base spare held fuel 28 [v]=some x):∃A n c,v=.slice A n c:=by
 rcases open_ints underlying28 underlying5 (by kernel_rfl) h with⟨hcs,_⟩|⟨x,l,c,zs,hcs,_⟩
 ·simp at hcs;exact⟨_,_,_,hcs⟩
 ·simp at hcs;exact⟨_,_,_,hcs⟩
end
def Ev.cells(x:Ev):List Value:=[.int .i64 x.k,.int .i64 x.s,.int .i64 x.at_,.int .i64 x.n,.slice x.A x.l x.c]
theorem Ev.iP(x:Ev):x.cells.length=5:=rfl
structure Ev.Gv(w:World)(x:Ev):Prop where
 v:bE w x.A x.l x.b
 len:x.b.length≤140737488351232
 k:(Lit.int .i64 x.k).wf=true
 s:(Lit.int .i64 x.s).wf=true
 at_:(Lit.int .i64 x.at_).wf=true
theorem Ev.Gv.aN{w w':World}{b:List Nat}{x:Ev}(h:Ev.Gv w x)(hu:ab [] b w w'):Ev.Gv w' x:=⟨h.v.aq hu (by simp),h.len,h.k,h.s,h.at_⟩
section
variable {H:Type} {enc:TypeId × Value→H} {W:World} {base:Nat} {spare:Nat→Bool} {held:Bool} {a0:Option Addr} {len cap:Nat} {d:DataW H} {p:List MemPlace}
theorem aac{n:Nat}{cs:List Value}{y:DataW H × List MemPlace}(ht:DataW.trod enc prog W base spare held n 85 cs=some y)(hw:∀k∈y.1.weights prog 85,k≤reachBytes) :
  ∃x:Ev,cs=x.cells∧Ev.Gv W x:=by
 obtain⟨hlen,m,pS⟩:=JW underlying85 ht hw
 have aad:cs.length=5:=by rw[hlen];kernel_rfl
 have i1:prog.cellsOf 3=1:=by kernel_rfl
 have i4:prog.cellsOf 28=1:=by kernel_rfl
 match cs,aad with
 |[a0,a1,a2,a3,a4],_=>
  obtain⟨w0,t0,-⟩:∃y,DataW.trod enc prog W base spare held m 3 (([a0,a1,a2,a3,a4].drop 0).take (prog.cellsOf 3))=some y∧_:=pS 0 _ rfl
  rw[i1]at t0
  obtain⟨w1,t1,-⟩:∃y,DataW.trod enc prog W base spare held m 3 (([a0,a1,a2,a3,a4].drop 1).take (prog.cellsOf 3))=some y∧_:=pS 1 _ rfl
  rw[i1]at t1
  obtain⟨w2,t2,-⟩:∃y,DataW.trod enc prog W base spare held m 3 (([a0,a1,a2,a3,a4].drop 2).take (prog.cellsOf 3))=some y∧_:=pS 2 _ rfl
  rw[i1]at t2
  obtain⟨w3,t3,-⟩:∃y,DataW.trod enc prog W base spare held m 3 (([a0,a1,a2,a3,a4].drop 3).take (prog.cellsOf 3))=some y∧_:=pS 3 _ rfl
  rw[i1]at t3
  obtain⟨w4,t4,hk⟩:∃y,DataW.trod enc prog W base spare held m 28 (([a0,a1,a2,a3,a4].drop 4).take (prog.cellsOf 28))=some y∧∀k∈y.1.weights prog 28,k≤reachBytes:=pS 4 _ rfl
  rw[i4]at t4
  simp only[drop_succ_cons,drop_zero,take_succ_cons,take_zero]at t0 t1 t2 t3 t4
  obtain⟨x0,e0,-,f0⟩:=DataW.trod_int underlying3 t0
  obtain⟨x1,e1,-,f1⟩:=DataW.trod_int underlying3 t1
  obtain⟨x2,e2,-,f2⟩:=DataW.trod_int underlying3 t2
  obtain⟨x3,e3,-,-⟩:=DataW.trod_int underlying3 t3
  simp only[List.cons.injEq,and_true]at e0 e1 e2 e3
  obtain⟨A,k,c,rfl⟩:=Hm t4
  obtain⟨b,hb,_,_,hbl⟩:=OJ (d:=w4.1) (p:=w4.2) ⟨m,t4⟩ hk
  exact⟨⟨x0,x1,x2,x3,A,k,c,b⟩,by simp[Ev.cells,e0,e1,e2,e3],hb,hbl,f0,f1,f2⟩
theorem Y8(h:DataW.Trod enc prog W base spare held 76 (.slice a0 len cap) d p)(hw:∀k∈d.weights prog 76,k≤reachBytes) :
  ∃l:List Ev,jq Ev.cells 5 W a0 len l∧(∀x∈l,Ev.Gv W x):=by
 rcases PQ underlying76 (C:=5) (by kernel_rfl) h hw with⟨rfl,rfl,rfl⟩|⟨a,n,rfl,_,_,ik,hi⟩
 ·exact⟨[],⟨rfl,Rd.none_⟩,by simp⟩
 ·refine GO Ev.iP fun i dK=>?_
  obtain⟨cs,y,hl,hc,ht,hk⟩:=hi i dK
  obtain⟨x,rfl,hb⟩:=aac ht hk
  refine⟨x,fun j u hu=>?_,hb⟩
  have hj:j<5:=by
   rcases Nat.lt_or_ge j 5 with h|h
   ·exact h
   ·rw[List.getElem?_eq_none (by rw[Ev.iP];exact h)]at hu;cases hu
  rw[hc j hj,hu]
end
open Go.Maps
theorem uy(w:World)(V:WV)(h:WS w V)(hD:da V.pl)(i:Nat)(hi:i<V.pl.ss.length) :
  Calls prog 41 #[V.ptr,.int .i64 (i:Int)] w fun e w'=>∃(A:Option Addr)(c:Nat)(l:List bO)(V':WV),e=.returned (.slice A l.length c)∧l.map bO.b=(V.pl.take i).done.getD i []∧jm w' A c l∧
   (∀k∈ak A,w.heap.size≤k∧k∉V'.fp)∧(∀x∈l,∀k∈ak x.A,w.heap.size≤k∧k∉V'.fp)∧WS w' V'∧V'.pl=V.pl.take i∧V'.gw=V.gw∧ab V.fp V'.fp w w':=by
 have Gn:i<V.ss.length:=by unfold WV.pl at hi;simpa using hi
 have hid:i<V.dn.length:=by rw[h.sd];exact Gn
 have hM:V.ss[i]? =some V.ss[i]:=List.getElem?_eq_getElem Gn
 have hd:V.dn[i]? =some V.dn[i]:=List.getElem?_eq_getElem hid
 have lX:V.pl.ss[i]? =some V.ss[i].pl:=by rw[V.oR,hM];rfl
 have E5:V.pl.done[i]? =some (V.dn[i].l.map bO.b):=by unfold WV.pl;simp[hd]
 obtain⟨d,h1,h2⟩:=hD.one i _ lX
 rw[E5]at h1
 injection h1 with h1
 rw[←h1]at h2
 have e:(V.pl.take i).done.getD i []=V.dn[i].l.map bO.b++V.ss[i].pl.ey.2.filter (fun v=>decide (v≠[])):=by
  unfold Wd.take
  rw[lX]
  simp only
  rw[List.getD_eq_getElem?_getD,List.getElem?_set_self (by rw[hD.len];exact hi),List.getD_eq_getElem?_getD,E5]
  rfl
 rw[e]
 exact OC w V h i _ hM _ hd h2
theorem Ln(w:World):Calls prog 38 #[] w fun e w'=>e=.returned (.bool true)∧ab [] [] w w':=by
 have C1:Calls prog 49 #[.int .i64 3,.int .i64 4] w fun e w'=>∃V:WV,e=.returned (.tuple #[V.ptr,.int .i64 0])∧WS w' V∧V.pl=Wd.new 3 4∧(∀k∈V.fp,w.heap.size≤k)∧ab [] V.fp w w':=Gt w 3 4 A9
 have kc:=fun(w:World)(C:Array Value)(n c:Nat)=>Lib.run_convert_bytes_const (P:=prog) w 28 5 C n c underlying28 underlying5
 have HW:=aA (show Aj (Wd.new 3 4) 300 from fun i s hs=>((bR.new A9 (fun _ _=>True)).lv i s hs).less (by omega))
 have HDO:=aA Uo
 go_enter func38,ntmps38
 repeat' first|go_values|go_skip|go_guarded|go_step|go_upon|simp only[];go_at_K
 refine C1.mono ?_;rintro e w1 ⟨V1,rfl,h1,ee,-,u1⟩
 clear C1
 simp only[WV.ptr]
 repeat' first|go_values|go_skip|go_guarded|go_step|go_upon|simp only[];go_at_K
 clear kc
 obtain⟨W,hW⟩:=bk (w1.alloc (.cells #[.int .u8 120] 5 (1,2)))
 obtain⟨H,hH⟩:=bk w1.heap.size
 have U0:ab [] [] w1 W:=by rw[←hW];exact(ab.refl [] w1).alloc _
 have hv:bE W (some ⟨H,0,none⟩) 1 [120]:=by rw[←hW,←hH];exact Rd.new _ _ rfl
 have C2:=wU W V1 (h1.aN U0) ⟨1,1,0,0,some ⟨H,0,none⟩,1,1,[120]⟩ (show(Lit.int .i64 1).wf=true by decide) hv (by simp) (by rw[ee];exact HW.out)
 unfold lG at C2
 rw[ee,show((Wd.new 3 4).fC 1 1 0 0 [120])=(Gk,1,0)from Prod.ext rfl HDO.out,WV.ptr,Ev.bJ]at C2
 rw[hW,hH]
 have U1:=(u1.gives (b':=V1.fp) (fun k hk=>u1.fresh k hk)).trans (U0.up _)
 clear hW hH hv U0 h1 u1 HDO HW
 refine C2.mono ?_;rintro e w2 ⟨rfl,V2,h2,gS,hg2,u2⟩
 have Y9:V2.pl=Gk:=gS
 obtain⟨G0,IA⟩:=Gl
 have C3:=uw w2 V2 h2 (by rw[Y9];exact(IA.less (by omega)).AZ)
 rw[WV.ptr,hg2,Y9]at C3
 have U2:=U1.trans u2
 clear C2 U1 u2 h2 gS IA
 repeat' first|go_values|go_skip|go_guarded|go_step|go_upon|simp only[];go_at_K
 refine C3.mono ?_;rintro e w3 ⟨rfl,V3,h3,fO,hg3,u3⟩
 have Za:V3.pl=Q5:=fO
 obtain⟨G1,BS⟩:=Q7
 have C4:=uw w3 V3 h3 (by rw[Za];exact(BS.less (by omega)).AZ)
 rw[WV.ptr,hg3,hg2,Za]at C4
 have U3:=U2.trans u3
 clear C3 U2 u3 h3 fO BS
 repeat' first|go_values|go_skip|go_guarded|go_step|go_upon|simp only[];go_at_K
 refine C4.mono ?_;rintro e w4 ⟨rfl,V4,h4,jj,hg4,u4⟩
 have aej:V4.pl=pI 0:=jj
 have U4:=U3.trans u4
 clear C4 U3 u4 jj
 repeat' first|go_values|go_skip|go_guarded|go_step|go_upon|simp only[];go_at_K
 go_loopw [5] (fun v5 wr=>dG (∃(i:Nat)(V:WV),i≤3∧v5=.int .i64 (i:Int)∧WS wr V∧V.pl=pI i∧V.gw=V1.gw∧ab [] V.fp w wr)) (fun v5 _=>3-(intOf v5).toNat)
 case atStart=>exact dG.mk ⟨0,V4,by omega,rfl,h4,aej,by rw[hg4,hg3,hg2],U4⟩
 case round=>
  obtain⟨i,V,hi,rfl,h,hp,hg,U⟩:=hrel.out
  clear hrel h4 U4
  by_cases hlt:i<3
  ·have dK:(i:Int)<3:=by omega
   have dC:=aL.wr ((i:Int)+1)
   have C:=uy wr V h (by rw[hp];exact CG i) i (by rw[hp,Q6];exact hlt)
   obtain⟨a1,a2⟩:=Uq i hlt
   rw[hp]at C
   rw[show(pI i).take i=pI (i+1)from rfl,a1,WV.ptr,hg]at C
   clear a1 h
   repeat' first|go_values|go_skip|go_guarded|go_step|go_upon|simp only[];go_at_K
   refine C.mono ?_;rintro e w5 ⟨A,c,l,V5,rfl,hl,ho,hA,hx,h5,ig,lS,u5⟩
   obtain⟨x,rfl⟩:∃x,l= [x]:=length_eq_one_iff.1 (by have:=congrArg length hl;simpa using this)
   have S5:x.b= [120]:=by simpa using hl
   have CA:=lR w5 V5 h5 (i:Int)
   rw[WV.mu]at CA
   have CF:=@uX ⟨[]⟩ _ _ _ _ CA (fun M hM=>h5.sites M (mem_of_getElem? hM))
   have e2:((V5.ss[i]?).map fun M=>M.pl.front).getD 0=2:=by
    rw[←ig,V5.oR,Option.map_map]at a2
    exact a2
   rw[e2,WV.ptr,lS]at CF
   obtain⟨gA,cur,rfl,hB,-⟩:=ho.own.block (by simp)
   have c0:w5.cell? ⟨gA,0,none⟩=some (.slice x.A x.n x.c):=by rw[hB.cell];rfl
   have hs:=strOf (ho.each x (by simp)).rd x.c
   rw[S5]at hs
   have U5:=U.trans u5
   have bN:=aA (show WS w5 V5∧V5.pl=pI (i+1)∧V5.gw=V1.gw∧ab [] V5.fp w w5 from⟨h5,ig,lS,U5⟩)
   clear C hl ho hA hx h5 ig u5 hB CA U U5 a2 e2 hp
   simp only[length_singleton]
   repeat' first|go_values|go_skip|go_guarded|go_step|go_upon|simp only[];go_at_K
   refine CF.mono ?_;rintro e w6 ⟨rfl,rfl⟩
   repeat' first|go_values|go_skip|go_guarded|go_step|go_upon|simp only[];go_at_K
   obtain⟨k1,k2,k3,k4⟩:=bN.out
   exact⟨dG.mk ⟨i+1,V5,by omega,by simp,k1,k2,k3,k4⟩,by simp[intOf];omega⟩
  ·obtain rfl:i=3:=by omega
   have dK:¬ (((3:Nat):Int)<3):=by omega
   have U':ab [] [] w wr:=U.gives (by simp)
   clear U h
   repeat' first|go_values|go_skip|go_guarded|go_step|go_upon|simp only[];go_at_K
   go_ret
   exact⟨rfl,U'⟩
