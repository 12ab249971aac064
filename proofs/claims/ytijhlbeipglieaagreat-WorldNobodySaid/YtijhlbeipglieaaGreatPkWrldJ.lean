/- Merged: WrldJ, RecV, EvIn. -/
import Derived.Test.YtijhlbeipglieaaGreatPkWrldF
import Derived.Test.YtijhlbeipglieaaGreatPkWrldO
import Derived.Test.YtijhlbeipglieaaGreatPkDeed
set_option linter.all false
set_option maxRecDepth 100000
set_option maxHeartbeats 4000000
namespace Go.Proofs.YtijhlbeipglieaaGreat
open Go.RowKit Agio Go.Maps
theorem worldDoneP (w:World) (V:WV) (h:WS w V) (hD:DInv V.pl) (i:Nat) (hi:i < V.pl.ss.length) :
  Calls Tryz.prog 41 #[V.ptr,.int .i64 (i:Int)] w fun e w'=>∃(A:Option Addr) (c:Nat) (l:List Bsl) (V':WV),e= .returned (.slice A l.length c)∧l.map Bsl.b=(V.pl.take i).done.getD i []∧OwnS w' A c l∧
   (∀k∈ablk A,w.heap.size≤k∧k∉V'.fp)∧(∀x∈l,∀k∈ablk x.A,w.heap.size≤k∧k∉V'.fp)∧WS w' V'∧V'.pl=V.pl.take i∧V'.gw=V.gw∧Upd V.fp V'.fp w w':=by
 have hiV:i < V.ss.length:=by unfold WV.pl at hi;simpa using hi
 have hid:i < V.dn.length:=by rw [h.dlen];exact hiV
 have hM:V.ss[i]? =some V.ss[i]:=List.getElem?_eq_getElem hiV
 have hd:V.dn[i]? =some V.dn[i]:=List.getElem?_eq_getElem hid
 have hMp:V.pl.ss[i]? =some V.ss[i].pl:=by rw [V.ss_pl,hM];rfl
 have hdp:V.pl.done[i]? =some (V.dn[i].l.map Bsl.b):=by unfold WV.pl;simp [hd]
 obtain ⟨d,h1,h2⟩:=hD.one i _ hMp
 rw [hdp] at h1
 injection h1 with h1
 rw [←h1] at h2
 have e:(V.pl.take i).done.getD i []=V.dn[i].l.map Bsl.b ++ V.ss[i].pl.takes.2.filter (fun v=>decide (v≠[])):=by
  unfold Wd.take
  rw [hMp]
  simp only
  rw [List.getD_eq_getElem?_getD,List.getElem?_set_self (by rw [hD.len];exact hi),List.getD_eq_getElem?_getD,hdp]
  rfl
 rw [e]
 exact worldDone w V h i _ hM _ hd h2
theorem worldDone_none (w:World) (W:Value) (i:Int) (C:AtC w W i none):Calls Tryz.prog 41 #[W,.int .i64 i] w fun e w'=>e= .returned (.slice none 0 0)∧w=w':=by
 unfold AtC ptrO at C
 go_enter Tryz.func41,Tryz.ntmps41
 repeat' (first|go_values|go_skip|go_guarded|go_step|go_upon|(simp only [];go_at_K))
 ((with_reducible refine C.mono ?_);rintro e w1 ⟨rfl,rfl⟩)
 repeat' (first|go_values|go_skip|go_guarded|go_step|go_upon|(simp only [];go_at_K))
 go_ret
 exact ⟨rfl,rfl⟩
theorem worldAwake (w:World):Calls Tryz.prog 38 #[] w fun e w'=>e= .returned (.bool true)∧Upd [] [] w w':=by
 have C1:Calls Tryz.prog 49 #[.int .i64 3,.int .i64 4] w fun e w'=>∃V:WV,e= .returned (.tuple #[V.ptr,.int .i64 0])∧WS w' V∧V.pl=Wd.new 3 4∧(∀k∈V.fp,w.heap.size≤k)∧Upd [] V.fp w w':=worldNew w 3 4 newOk34
 have kc:=fun (w:World) (C:Array Value) (n c:Nat)=>Lib.run_convert_bytes_const (P:=Tryz.prog) w 28 5 C n c Tryz.underlying28 Tryz.underlying5
 have HW:=Lib.hid (show WLv (Wd.new 3 4) 300 from fun i s hs=>((WInv.new newOk34 (fun _ _=>True)).lv i s hs).less (by omega))
 have HDO:=Lib.hid awk0_do
 go_enter Tryz.func38,Tryz.ntmps38
 repeat' (first|go_values|go_skip|go_guarded|go_step|go_upon|(simp only [];go_at_K))
 ((with_reducible refine C1.mono ?_);rintro e w1 ⟨V1,rfl,h1,hp1,-,u1⟩)
 clear C1
 simp only [WV.ptr]
 repeat' (first|go_values|go_skip|go_guarded|go_step|go_upon|(simp only [];go_at_K))
 clear kc
 obtain ⟨W,hW⟩:∃W,w1.alloc (.cells #[.int .u8 120] 5 (1,2))=W:=⟨_,rfl⟩
 obtain ⟨H,hH⟩:∃H,w1.heap.size=H:=⟨_,rfl⟩
 have U0:Upd [] [] w1 W:=by rw [←hW];exact (Upd.refl [] w1).alloc _
 have hv:RdB W (some ⟨H,0,none⟩) 1 [120]:=by rw [←hW,←hH];exact Rd.new _ _ rfl
 have C2:=worldDo W V1 (h1.upd0 U0) ⟨1,1,0,0,some ⟨H,0,none⟩,1,1,[120]⟩ (show (Lit.int .i64 1).wf=true by decide) hv (by simp) (by rw [hp1];exact HW.out)
 unfold HapC at C2
 rw [hp1,show ((Wd.new 3 4).do_ 1 1 0 0 [120])=(awk0,1,0) from Prod.ext rfl HDO.out,WV.ptr,Ev.val_eq] at C2
 rw [hW,hH]
 have U1:=(u1.gives (b':=V1.fp) (fun k hk=>u1.fresh k hk)).trans (U0.up _)
 clear hW hH hv U0 h1 u1 HDO HW
 ((with_reducible refine C2.mono ?_);rintro e w2 ⟨rfl,V2,h2,hp2,hg2,u2⟩)
 have hp2':V2.pl=awk0:=hp2
 obtain ⟨G0,hI0⟩:=awk0_inv
 have C3:=worldRound w2 V2 h2 (by rw [hp2'];exact (hI0.less (by omega)).roundOk)
 rw [WV.ptr,hg2,hp2'] at C3
 have U2:=U1.trans u2
 clear C2 U1 u2 h2 hp2 hI0
 repeat' (first|go_values|go_skip|go_guarded|go_step|go_upon|(simp only [];go_at_K))
 ((with_reducible refine C3.mono ?_);rintro e w3 ⟨rfl,V3,h3,hp3,hg3,u3⟩)
 have hp3':V3.pl=awk1:=hp3
 obtain ⟨G1,hI1⟩:=awk1_inv
 have C4:=worldRound w3 V3 h3 (by rw [hp3'];exact (hI1.less (by omega)).roundOk)
 rw [WV.ptr,hg3,hg2,hp3'] at C4
 have U3:=U2.trans u3
 clear C3 U2 u3 h3 hp3 hI1
 repeat' (first|go_values|go_skip|go_guarded|go_step|go_upon|(simp only [];go_at_K))
 ((with_reducible refine C4.mono ?_);rintro e w4 ⟨rfl,V4,h4,hp4,hg4,u4⟩)
 have hp4':V4.pl=awkT 0:=hp4
 have U4:=U3.trans u4
 clear C4 U3 u4 hp4
 repeat' (first|go_values|go_skip|go_guarded|go_step|go_upon|(simp only [];go_at_K))
 go_loopw [5] (fun v5 wr=>KeptW (∃(i:Nat) (V:WV),i≤3∧v5= .int .i64 (i:Int)∧WS wr V∧V.pl=awkT i∧V.gw=V1.gw∧Upd [] V.fp w wr)) (fun v5 _=>3 - (intOf v5).toNat)
 case atStart=>exact KeptW.mk ⟨0,V4,by omega,rfl,h4,hp4',by rw [hg4,hg3,hg2],U4⟩
 case round=>
  obtain ⟨i,V,hi,rfl,h,hp,hg,U⟩:=hrel.out
  clear hrel h4 U4
  by_cases hlt:i < 3
  ·have hil:(i:Int) < 3:=by omega
   have hw1:IntKind.i64.wrap ((i:Int) + 1)=(i:Int) + 1:=by rw [IntKind.wrap_i64];omega
   have C:=worldDoneP wr V h (by rw [hp];exact awkT_dinv i) i (by rw [hp,awkT_len];exact hlt)
   obtain ⟨a1,a2⟩:=awk_all i hlt
   rw [hp] at C
   rw [show (awkT i).take i=awkT (i + 1) from rfl,a1,WV.ptr,hg] at C
   clear a1 h
   repeat' (first|go_values|go_skip|go_guarded|go_step|go_upon|(simp only [];go_at_K))
   ((with_reducible refine C.mono ?_);rintro e w5 ⟨A,c,l,V5,rfl,hl,ho,hA,hx,h5,hp5,hg5,u5⟩)
   obtain ⟨x,rfl⟩:∃x,l= [x]:=List.length_eq_one_iff.1 (by have:=congrArg List.length hl;simpa using this)
   have hxb:x.b= [120]:=by simpa using hl
   have CA:=worldAt w5 V5 h5 (i:Int)
   rw [WV.at_nat] at CA
   have CF:=@worldFrontier ⟨[]⟩ _ _ _ _ CA (fun M hM=>h5.sites M (List.mem_of_getElem? hM))
   have e2:((V5.ss[i]?).map fun M=>M.pl.front).getD 0=2:=by
    rw [←hp5,V5.ss_pl,Option.map_map] at a2
    exact a2
   rw [e2,WV.ptr,hg5] at CF
   obtain ⟨gA,cur,rfl,hB,-⟩:=ho.own.block (by simp)
   have c0:w5.cell? ⟨gA,0,none⟩=some (.slice x.A x.n x.c):=by rw [hB.cell];rfl
   have hs:=strOf (ho.each x (by simp)).rd x.c
   rw [hxb] at hs
   have U5:=U.trans u5
   have KEY:=Lib.hid (show WS w5 V5∧V5.pl=awkT (i + 1)∧V5.gw=V1.gw∧Upd [] V5.fp w w5 from ⟨h5,hp5,hg5,U5⟩)
   clear C hl ho hA hx h5 hp5 u5 hB CA U U5 a2 e2 hp
   simp only [List.length_singleton]
   repeat' (first|go_values|go_skip|go_guarded|go_step|go_upon|(simp only [];go_at_K))
   ((with_reducible refine CF.mono ?_);rintro e w6 ⟨rfl,rfl⟩)
   repeat' (first|go_values|go_skip|go_guarded|go_step|go_upon|(simp only [];go_at_K))
   obtain ⟨k1,k2,k3,k4⟩:=KEY.out
   exact ⟨KeptW.mk ⟨i + 1,V5,by omega,by simp,k1,k2,k3,k4⟩,by simp [intOf];omega⟩
  ·obtain rfl:i=3:=by omega
   have hil:¬ (((3:Nat):Int) < 3):=by omega
   have U':Upd [] [] w wr:=U.gives (by simp)
   clear U h
   repeat' (first|go_values|go_skip|go_guarded|go_step|go_upon|(simp only [];go_at_K))
   go_ret
   exact ⟨rfl,U'⟩
end Go.Proofs.YtijhlbeipglieaaGreat
namespace Go.Proofs.YtijhlbeipglieaaGreat
open Go.ChangeShapes Go.WideShapes Go.RowKit Go.Deep Agio
section
variable {H:Type} {enc:TypeId × Value→H} {W:World} {base:Nat} {spare:Nat→Bool} {held:Bool} {a0:Option Addr} {len cap:Nat} {d:DataW H} {p:List MemPlace}
theorem bytesV_in (h:DataW.Trod enc Tryz.prog W base spare held 28 (.slice a0 len cap) d p) (hw:∀k∈d.weights Tryz.prog 28,k≤reachBytes) :
  ∃b:List UInt8,RdB W a0 len b∧len≤cap∧cap≤maxLen∧b.length≤140737488351232:=by
 obtain ⟨b,h1,h2,h3,_,h5⟩:=bytes_in h
 refine ⟨b,h1,h2,h3,?_⟩
 rcases h5 with ⟨_,rfl⟩ | ⟨sp,rfl⟩
 ·simp
 ·have:=hw ((((b.map fun c=>DataW.lit (.int .u8 (c.toNat:Int))):List (DataW H)).length + sp.length) * Tryz.prog.bytesOf 5) (by simp [DataW.weights,Tryz.underlying28])
  rw [show Tryz.prog.bytesOf 5=1 by kernel_rfl] at this
  simp only [List.length_map,reachBytes] at this
  omega
theorem slice_formV {fuel:Nat} {v:Value} {x:DataW H × List MemPlace} (h:DataW.trod enc Tryz.prog W base spare held fuel 28 [v]=some x):∃A n c,v= .slice A n c:=by
 rcases open_ints Tryz.underlying28 Tryz.underlying5 (by kernel_rfl) h with ⟨hcs,_⟩ | ⟨x,l,c,zs,hcs,_⟩
 ·simp at hcs;exact ⟨_,_,_,hcs⟩
 ·simp at hcs;exact ⟨_,_,_,hcs⟩
end
end Go.Proofs.YtijhlbeipglieaaGreat
namespace Go.Proofs.YtijhlbeipglieaaGreat
open Go.ChangeShapes Go.WideShapes Go.RowKit Go.Deep Agio
def Ev.cells (x:Ev):List Value:=[.int .i64 x.k,.int .i64 x.s,.int .i64 x.at_,.int .i64 x.n,.slice x.A x.l x.c]
theorem Ev.cells_len (x:Ev):x.cells.length=5:=rfl
structure Ev.Rds (w:World) (x:Ev):Prop where
 v:RdB w x.A x.l x.b
 len:x.b.length≤140737488351232
 k:(Lit.int .i64 x.k).wf=true
 s:(Lit.int .i64 x.s).wf=true
 at_:(Lit.int .i64 x.at_).wf=true
theorem Ev.Rds.upd0 {w w':World} {b:List Nat} {x:Ev} (h:Ev.Rds w x) (hu:Upd [] b w w'):Ev.Rds w' x:=⟨h.v.upd hu (by simp),h.len,h.k,h.s,h.at_⟩
section
variable {H:Type} {enc:TypeId × Value→H} {W:World} {base:Nat} {spare:Nat→Bool} {held:Bool} {a0:Option Addr} {len cap:Nat} {d:DataW H} {p:List MemPlace}
theorem ev_of {n:Nat} {cs:List Value} {y:DataW H × List MemPlace} (ht:DataW.trod enc Tryz.prog W base spare held n 85 cs=some y) (hw:∀k∈y.1.weights Tryz.prog 85,k≤reachBytes) :
  ∃x:Ev,cs=x.cells∧Ev.Rds W x:=by
 obtain ⟨hlen,m,hfl⟩:=struct_inW Tryz.underlying85 ht hw
 have hlen2:cs.length=5:=by rw [hlen];kernel_rfl
 have i1:Tryz.prog.cellsOf 3=1:=by kernel_rfl
 have i4:Tryz.prog.cellsOf 28=1:=by kernel_rfl
 match cs,hlen2 with
 | [a0,a1,a2,a3,a4],_=>
  obtain ⟨w0,t0,-⟩:∃y,DataW.trod enc Tryz.prog W base spare held m 3 (([a0,a1,a2,a3,a4].drop 0).take (Tryz.prog.cellsOf 3))=some y∧_:=hfl 0 _ rfl
  rw [i1] at t0
  obtain ⟨w1,t1,-⟩:∃y,DataW.trod enc Tryz.prog W base spare held m 3 (([a0,a1,a2,a3,a4].drop 1).take (Tryz.prog.cellsOf 3))=some y∧_:=hfl 1 _ rfl
  rw [i1] at t1
  obtain ⟨w2,t2,-⟩:∃y,DataW.trod enc Tryz.prog W base spare held m 3 (([a0,a1,a2,a3,a4].drop 2).take (Tryz.prog.cellsOf 3))=some y∧_:=hfl 2 _ rfl
  rw [i1] at t2
  obtain ⟨w3,t3,-⟩:∃y,DataW.trod enc Tryz.prog W base spare held m 3 (([a0,a1,a2,a3,a4].drop 3).take (Tryz.prog.cellsOf 3))=some y∧_:=hfl 3 _ rfl
  rw [i1] at t3
  obtain ⟨w4,t4,hk⟩:∃y,DataW.trod enc Tryz.prog W base spare held m 28 (([a0,a1,a2,a3,a4].drop 4).take (Tryz.prog.cellsOf 28))=some y∧∀k∈y.1.weights Tryz.prog 28,k≤reachBytes:=hfl 4 _ rfl
  rw [i4] at t4
  simp only [List.drop_succ_cons,List.drop_zero,List.take_succ_cons,List.take_zero] at t0 t1 t2 t3 t4
  obtain ⟨x0,e0,-,f0⟩:=DataW.trod_int Tryz.underlying3 t0
  obtain ⟨x1,e1,-,f1⟩:=DataW.trod_int Tryz.underlying3 t1
  obtain ⟨x2,e2,-,f2⟩:=DataW.trod_int Tryz.underlying3 t2
  obtain ⟨x3,e3,-,-⟩:=DataW.trod_int Tryz.underlying3 t3
  simp only [List.cons.injEq,and_true] at e0 e1 e2 e3
  obtain ⟨A,k,c,rfl⟩:=slice_formV t4
  obtain ⟨b,hb,_,_,hbl⟩:=bytesV_in (d:=w4.1) (p:=w4.2) ⟨m,t4⟩ hk
  exact ⟨⟨x0,x1,x2,x3,A,k,c,b⟩,by simp [Ev.cells,e0,e1,e2,e3],hb,hbl,f0,f1,f2⟩
theorem ev_in {cs:Array Value} (h:DataW.Trod enc Tryz.prog W base spare held 85 (.agg cs) d p) (hw:∀k∈d.weights Tryz.prog 85,k≤reachBytes) :
  ∃x:Ev,Value.agg cs=x.val∧Ev.Rds W x:=by
 obtain ⟨fuel,hf⟩:=h
 obtain ⟨x,hx,hr⟩:=ev_of hf hw
 have hc:(Value.agg cs).cells=cs:=rfl
 rw [hc] at hx
 refine ⟨x,?_,hr⟩
 rw [Ev.val_eq,show cs=x.cells.toArray by rw [←hx]]
 rfl
theorem evs_in (h:DataW.Trod enc Tryz.prog W base spare held 76 (.slice a0 len cap) d p) (hw:∀k∈d.weights Tryz.prog 76,k≤reachBytes) :
  ∃l:List Ev,RdS Ev.cells 5 W a0 len l∧(∀x∈l,Ev.Rds W x):=by
 rcases elems_in Tryz.underlying76 (C:=5) (by kernel_rfl) h hw with ⟨rfl,rfl,rfl⟩ | ⟨a,n,rfl,_,_,hbb,hi⟩
 ·exact ⟨[],⟨rfl,Rd.none_⟩,by simp⟩
 ·refine rdS_of_each Ev.cells_len fun i hil=>?_
  obtain ⟨cs,y,hl,hc,ht,hk⟩:=hi i hil
  obtain ⟨x,rfl,hb⟩:=ev_of ht hk
  refine ⟨x,fun j u hu=>?_,hb⟩
  have hj:j < 5:=by
   rcases Nat.lt_or_ge j 5 with h | h
   ·exact h
   ·rw [List.getElem?_eq_none (by rw [Ev.cells_len];exact h)] at hu;cases hu
  rw [hc j hj,hu]
end
end Go.Proofs.YtijhlbeipglieaaGreat
