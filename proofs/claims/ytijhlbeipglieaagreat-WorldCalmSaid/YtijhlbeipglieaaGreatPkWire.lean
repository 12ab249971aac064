/- For WorldCalm. -/
import Derived.Test.YtijhlbeipglieaaGreatProg
import Derived.StillTailTactics
import Derived.Test.YtijhlbeipglieaaGreatPkBase
import Derived.Test.YtijhlbeipglieaaGreatPkPlain
set_option linter.all false
set_option maxRecDepth 100000
set_option maxHeartbeats 1000000
namespace Go.Proofs.YtijhlbeipglieaaGreat
open Go.RowKit aL Tryz List
theorem l8:(prog.info? 5).map (fun i=>(i.zero,i.size,i.bytes))=some (some (.int .u8 0),1,1):=by kernel_rfl
theorem _root_.aL.bE.aeb{w w':World}{A:Option Addr}{n:Nat}{l:List UInt8}{a b:List Nat}(h:bE w A n l)(hu:ab a b w w')(hd:0<n→∀k∈ak A,k∉a):bE w' A n l:=by
 rcases Nat.eq_zero_or_pos n with h0|h0
 ·exact⟨h.1,fun hn=>absurd hn (by omega)⟩
 ·exact h.aq hu (hd h0)
theorem _root_.aL.bE.lt{w:World}{A:Option Addr}{n:Nat}{l:List UInt8}(h:bE w A n l):0<n→∀k∈ak A,k<w.heap.size:=by
 intro hn k hk
 obtain⟨ad,rfl,hc⟩:=h.2 hn
 have hl:=h.len
 simp[ak]at hk;subst hk
 have:=World.block_lt_of_cell? w _ (hc 0 _ (jN l 0 (by omega)))
 rwa [va]at this
theorem Rd.new{w:World}(t:TypeId)(fr:Nat × Nat){size n:Nat}{cs:List Value}(hl:cs.length=n*size):Rd (w.alloc (.cells cs.toArray t fr)) size (some ⟨w.heap.size,0,none⟩) n cs:=
 ⟨hl,fun _=>⟨_,rfl,fun j u hu=>by
  have:(⟨w.heap.size,0,none⟩:Addr).add j=⟨w.heap.size,j,none⟩:=by unfold Addr.add;split<;>simp_all
  rw[this]
  have hh:(w.alloc (.cells cs.toArray t fr)).heap[w.heap.size]? =some (.cells cs.toArray t fr):=heap_alloc_new w _
  simp only[World.cell?,hh]
  simpa using hu⟩⟩
theorem strOf{w:World}{A:Option Addr}{n:Nat}{l:List UInt8}(h:bE w A n l)(c:Nat):(convert 28 9 (.slice A n c)).run prog w=.ok (.string ⟨l.toArray⟩) w:=
 CR underlying28 underlying5 underlying9 h c
structure Wr(w:World)(g:Nat)(A:Option Addr)(k c:Nat)(l:List UInt8):Prop where
 aO:aQ w g 204 #[.slice A k c]
 own:bW 5 w A k c l
section
variable {w w' w1:World} {g:Nat} {A A':Option Addr} {k c k' c':Nat} {l l':List UInt8} {a b:List Nat}
theorem Wr.ne(h:Wr w g A k c l):g∉ak A:=h.own.own.ne h.aO (by decide)
theorem Wr.put(h:Wr w g A k c l)(o:bW 5 w1 A' k' c' l')(hu:ab (ak A) (ak A') w w1) :
  Wr (w1.setCell ⟨g,0,none⟩ (.slice A' k' c')) g A' k' c' l'∧ab (g::ak A) (g::ak A') w (w1.setCell ⟨g,0,none⟩ (.slice A' k' c')):=by
 have hb1:=h.aO.aq hu h.ne
 have hn:g∉ak A':=o.own.ne hb1 (by decide)
 refine⟨⟨by simpa using hb1.cc 0 (.slice A' k' c'),o.aq ((ab.refl [g] w1).setCell (p:=⟨g,0,none⟩) (.inl (by simp)) _) (fun k hk=>by simp;rintro rfl;exact hn hk)⟩,?_⟩
 refine(hu.mono (a':=g::ak A) (b':=g::ak A') (fun k hk=>by simp[hk]) (fun k hk=>?_)).setCell (.inl (by simp)) _
 rcases mem_cons.1 hk with rfl|hk
 ·exact .inr (.inl (by simp))
 ·exact .inl hk
end
theorem ti(n:Int)(w:World)(g:Nat)(A:Option Addr)(k c:Nat)(l:List UInt8)(h0:0≤n)(hU:gG n.toNat)(hw:Wr w g A k c l)(hlen:l.length+16≤140737488355328) :
  Calls prog 124 #[.pointer (some ⟨g,0,none⟩),.int .u64 n] w fun e w'=>e=.returned (.tuple #[])∧∃A' k' c',Wr w' g A' k' c' (l++eG n.toNat)∧ab (g::ak A) (g::ak A') w w':=by
 go_enter func124,ntmps124
 repeat' go_step
 go_loopw [1] (fun v1 wr=>∃m:Int,0≤m∧∃(l1:List UInt8)(A2:Option Addr)(k2 c2:Nat),v1=.int .u64 m∧gG m.toNat∧l1++eG m.toNat=l++eG n.toNat∧Wr wr g A2 k2 c2 l1∧ab (g::ak A) (g::ak A2) w wr)
  (fun v1 _=>(intOf v1).toNat)
 case atStart=>exact⟨n,h0,l,A,k,c,rfl,hU,rfl,hw,ab.refl _ _⟩
 case round=>
  obtain⟨m,Ot,l1,A2,k2,c2,rfl,hmU,hl,hwr,hu⟩:=hrel
  have ahv:l1.length+1≤140737488355328:=by have:=sk hU;have h2:=congrArg length hl;have:=TZ m.toNat;simp only[length_append]at h2;omega
  have HL:=aA hl;clear hl
  have hc:=hwr.aO.cell 0
  simp at hc
  by_cases hm:128≤m
  ·repeat' (fail_if_success with_reducible refine ba rfl ?_);go_step
   refine vd rfl _ _ 28 rfl 5 underlying28 l8 hwr.own rfl _ rfl _ rfl (m.toNat % 128+128) (by omega) (QH Ot hmU) (by omega) ?_
   intro A' k' c' w1 hown1 bn
   have P:=hwr.put hown1 bn
   have hc1:=(hwr.aO.aq bn hwr.ne).cell 0
   have qA:=(hwr.aO.aq bn hwr.ne).frozen 0
   simp at hc1
   clear hc
   refine wk ?_
   refine⟨⟨_,Int.ediv_nonneg Ot (by omega),_,_,_,_,rfl,hmU.le (by omega),?_,P.1,hu.trans P.2⟩,by simp[intOf];omega⟩
   rw[←HL.out,vZ (n:=m.toNat) (by omega),append_assoc,singleton_append,show(m / 128).toNat=m.toNat / 128 by omega]
  ·refine eH ?_
   refine vd rfl _ _ 28 rfl 5 underlying28 l8 hwr.own rfl _ rfl _ rfl m.toNat (by omega) (by omega) (by omega) ?_
   intro A' k' c' w1 hown1 bn
   have P:=hwr.put hown1 bn
   have hc1:=(hwr.aO.aq bn hwr.ne).cell 0
   have qA:=(hwr.aO.aq bn hwr.ne).frozen 0
   simp at hc1
   clear hc
   refine wk ?_
   go_end0
   refine⟨rfl,A',k',c',?_,hu.trans P.2⟩
   rw[←HL.out,qu (n:=m.toNat) (by omega)]
   exact P.1
theorem xe(w:World)(g:Nat)(A:Option Addr)(k c:Nat)(l:List UInt8)(B:Option Addr)(m d:Nat)(r:List UInt8)(hr:bE w B m r)(hB:0<m→∀j∈ak B,j∉g::ak A)(hw:Wr w g A k c l)(hlen:l.length+r.length+16≤140737488355328) :
  Calls prog 125 #[.pointer (some ⟨g,0,none⟩),.slice B m d] w fun e w'=>e=.returned (.tuple #[])∧∃A' k' c',Wr w' g A' k' c' (l++eG r.length++r)∧ab (g::ak A) (g::ak A') w w':=by
 obtain rfl:=hr.len
 go_enter func125,ntmps125
 repeat' (fail_if_success with_reducible refine ba rfl ?_);go_step
 refine(ti _ w g A k c l (by omega) (gG.small (by omega)) hw (by omega)).mono ?_
 rintro e w1 ⟨rfl,A1,k1,c1,dC,bn⟩
 have hc:=dC.aO.cell 0
 have hr1:=hr.aeb bn hB
 simp at hc
 refine eH ?_
 refine kH rfl _ _ 28 rfl 5 underlying28 l8 dC.own rfl hr1 rfl ?_ ?_
 ·have:=sk (n:=r.length) (gG.small (by omega));simp;omega
 ·intro A2 k2 c2 w2 hown2 bh
  have P:=dC.put hown2 bh
  have hc1:=(dC.aO.aq bh dC.ne).cell 0
  have qA:=(dC.aO.aq bh dC.ne).frozen 0
  simp at hc1
  clear hc
  refine wk ?_
  go_end0
  exact⟨rfl,A2,k2,c2,by simpa using P.1,bn.trans P.2⟩
theorem di(w:World)(B:Option Addr)(m d:Nat)(r:List UInt8)(hr:bE w B m r)(hlen:r.length≤140737488355328) :
  Calls prog 58 #[.slice B m d] w fun e w'=>∃A' k' c',e=.returned (.slice A' k' c')∧bW 5 w' A' k' c' r∧ab [] (ak A') w w':=by
 have hnil:=fun w=>Lib.run_eql_slice_nil (P:=prog) w 28 5 B m d 0 0 underlying28
 cases B with
 |none=>
  have hm:m=0:=by
   rcases Nat.eq_zero_or_pos m with h|h
   ·exact h
   ·obtain⟨_,h,_⟩:=hr.2 h;cases h
  subst hm
  obtain rfl:r= []:=eq_nil_of_length_eq_zero hr.len.symm
  go_enter func58,ntmps58
  refine wk ?_
  go_ret
  exact⟨none,0,0,rfl,bW.nil _ _,ab.refl _ _⟩
 |some ad=>
  go_enter func58,ntmps58
  repeat' (fail_if_success with_reducible refine ba rfl ?_);go_step
  refine kH rfl _ _ 28 rfl 5 underlying28 l8 (bW.made _ _) rfl (hr.alloc _) rfl (by simpa using hlen) ?_
  intro A2 k2 c2 w2 hown2 bh
  refine wk ?_
  go_ret
  exact⟨A2,k2,c2,rfl,hown2,(((ab.refl [] w).alloc _).gives (by simp[ak])).trans bh⟩
theorem yV(w:World)(g:Nat)(A:Option Addr)(k c:Nat)(l:List UInt8)(hw:Wr w g A k c l)(hlen:l.length≤140737488355328) :
  Calls prog 127 #[.pointer (some ⟨g,0,none⟩)] w fun e w'=>∃A' k' c',e=.returned (.slice A' k' c')∧bW 5 w' A' k' c' l∧ab [] (ak A') w w':=by
 have hc:=hw.aO.cell 0
 simp at hc
 go_enter func127,ntmps127
 repeat' go_step
 refine(di w A k c l hw.own.rd hlen).mono ?_
 rintro e w1 ⟨A1,k1,c1,rfl,ho,hu⟩
 refine wk ?_
 go_ret
 exact⟨A1,k1,c1,rfl,ho,hu⟩
theorem Uk{k:IntKind}{a b:Int}(h:a=b):Ending.returned (.int k a)=.returned (.int k b):=by rw[h]
structure Rr(w:World)(g:Nat)(A:Option Addr)(k c:Nat)(b:List UInt8)(at_:Nat):Prop where
 aO:aQ w g 365 #[.slice A k c,.int .i64 (at_:Int)]
 own:bW 5 w A k c b
 le:at_≤b.length
def Ou(bad at_:Nat):Value:=if bad=0 then .nilIface else .iface 388 (.agg #[.int .i64 (bad:Int),.int .i64 (at_:Int)])
theorem j9(a:Nat):Ou 0 a=.nilIface:=rfl
theorem kF{bad:Nat}(h:bad≠0)(a:Nat):Ou bad a=.iface 388 (.agg #[.int .i64 (bad:Int),.int .i64 (a:Int)]):=if_neg h
section
variable {w w':World} {g:Nat} {A:Option Addr} {k c:Nat} {b:List UInt8} {at_:Nat}
theorem Rr.aq{p q:List Nat}(h:Rr w g A k c b at_)(hu:ab p q w w')(hd:∀j∈g::ak A,j∉p):Rr w' g A k c b at_:=
 ⟨h.aO.aq hu (hd g (by simp)),h.own.aq hu fun j hj=>hd j (by simp[hj]),h.le⟩
theorem Rr.ne(h:Rr w g A k c b at_):g∉ak A:=h.own.own.ne h.aO (by decide)
theorem Rr.drewN(h:Rr w g A k c b at_)(n:Nat):Rr (w.drewN n) g A k c b at_:=⟨h.aO,⟨h.own.len,h.own.own.drewN n⟩,h.le⟩
theorem Rr.put(h:Rr w g A k c b at_)(a':Nat)(ha:a'≤b.length) :
  Rr (w.setCell ⟨g,1,none⟩ (.int .i64 (a':Int))) g A k c b a'∧ab [g] [g] w (w.setCell ⟨g,1,none⟩ (.int .i64 (a':Int))):=by
 have hu:ab [g] [g] w (w.setCell ⟨g,1,none⟩ (.int .i64 (a':Int))):=(ab.refl [g] w).setCell (.inl (by simp)) _
 refine⟨⟨by simpa using h.aO.cc 1 (.int .i64 (a':Int)),h.own.aq hu (fun j hj=>by simp;rintro rfl;exact h.ne hj),ha⟩,hu⟩
end
theorem DP(w:World)(B:Option Addr)(m d:Nat)(r:List UInt8)(hr:bE w B m r)(hlen:r.length≤140737488355328) :
  Calls prog 234 #[.slice B m d] w fun e w'=>∃g A k c,e=.returned (.pointer (some ⟨g,0,none⟩))∧Rr w' g A k c r 0∧ab [] (g::ak A) w w':=by
 go_enter func234,ntmps234
 repeat' go_step
 refine(di w B m d r hr hlen).mono ?_
 rintro e w1 ⟨A1,k1,c1,rfl,ho,hu⟩
 refine wk ?_
 go_ret
 refine⟨_,A1,k1,c1,rfl,⟨by simpa using aQ.new _ _ _,ho.alloc _,Nat.zero_le _⟩,(hu.alloc _).gives ?_⟩
 intro j hj
 rcases mem_cons.1 hj with rfl|hj
 ·exact .inr hu.size
 ·exact hu.fresh j hj
theorem KY(w:World)(g:Nat)(A:Option Addr)(k c:Nat)(b:List UInt8)(a:Nat)(hr:Rr w g A k c b a)(hb:b.length≤140737488355328) :
  Calls prog 270 #[.pointer (some ⟨g,0,none⟩)] w fun e w'=>e=.returned (.int .i64 ((b.length-a:Nat):Int))∧∃n,w'=w.drewN n:=by
 obtain rfl:=hr.own.len
 have hc0:=hr.aO.cell 0
 have hc1:=hr.aO.cell 1
 have hle:=hr.le
 simp at hc0 hc1
 go_enter func270,ntmps270
 repeat' go_step
 go_quiet (fail)
 refine wk ?_
 go_ret
 exact⟨Uk (by omega),nq,rfl⟩
theorem oQ(w:World)(g:Nat)(A:Option Addr)(k c:Nat)(b:List UInt8)(a:Nat)(no:Int)(hr:Rr w g A k c b a) :
  Calls prog 269 #[.pointer (some ⟨g,0,none⟩),.int .i64 no] w fun e w'=>e=.returned (.iface 388 (.agg #[.int .i64 no,.int .i64 (a:Int)]))∧w=w':=by
 have hc1:=hr.aO.cell 1
 simp at hc1
 go_enter func269,ntmps269
 refine wk ?_
 go_ret
 exact⟨rfl,rfl⟩
theorem KZ(w:World)(g:Nat)(A:Option Addr)(k c:Nat)(b:List UInt8)(a:Nat)(hr:Rr w g A k c b a)(hb:b.length≤140737488355328) :
  Calls prog 294 #[.pointer (some ⟨g,0,none⟩)] w fun e w'=>e=.returned (.tuple #[.int .u64 ((uv (b.drop a)).1:Int),.int .i64 ((uv (b.drop a)).2.1:Int),.int .i64 ((uv (b.drop a)).2.2:Int)])∧∃n,w'=w.drewN n:=by
 obtain rfl:=hr.own.len
 have hc0:=hr.aO.cell 0
 have hc1:=hr.aO.cell 1
 have hle:=hr.le
 have jU:=hr.own.own.cap
 simp at hc0 hc1
 go_enter func294,ntmps294
 repeat' go_step
 go_quiet (fail)
 refine wk ?_
 have Fo:bE (w.drewN nq) (if c=a then A else Option.map (fun x=>x.add a) A) (b.length-a) (b.drop a):=by
  have:=(hr.own.rd.drewN nq).cut (k:=a) (cap:=c) hle jU.1
  simpa[bE,iF,map_drop]using this
 generalize (if c=a then A else Option.map (fun x=>x.add a) A)=A' at *
 have qI:(b.drop a).length≤140737488355328:=by simp;omega
 obtain⟨l,hl⟩:∃l,l=b.drop a:=⟨_,rfl⟩
 rw[←hl]at Fo qI
 have HL:=aA hl;clear hl
 generalize b.length-a=n at *
 obtain rfl:=Fo.len
 clear hb hle jU hr hc0 hc1
 go_loop [5,20] (fun v5 v20=>∃i acc:Nat,i≤l.length∧v20=.int .i64 (i:Int)∧v5=.int .u64 (acc:Int)∧acc<128^i∧i≤9∧j8 i acc (l.drop i)=uv l)
  (fun _ v20=>l.length-(intOf v20).toNat)
 case atStart=>exact⟨0,0,Nat.zero_le _,rfl,rfl,by omega,by omega,rfl⟩
 case round=>
  obtain⟨i,acc,hi,rfl,rfl,cM,FB,xW⟩:=hrel
  have HU:=aA xW;clear xW
  by_cases hlt:i<l.length
  ·obtain⟨ad,u,rfl,hx,hcell⟩:=Rd.at_ Fo hlt
   rw[jN l i hlt]at hx
   obtain rfl:=Option.some.inj hx
   have HD:=aA (drop_eq_getElem_cons hlt)
   have BR:l[i].toNat<256:=l[i].toNat_lt
   clear hx
   generalize hce:l[i].toNat=cn at *
   have HC:=aA hce;clear hce
   have h0:¬ cn=0→((cn:Int)==0)=false:=by intro h;simp;omega
   by_cases aec:128≤cn
   ·by_cases h9:i=9
    ·have YI:((i:Int)==9)=true:=by simp;omega
     have H9:=aA h9;clear h9
     have E:Hid (uv (b.drop a)=(0,0,2)):=by rw[←HL.out,←HU.out,HD.out,um H9.out (by rw[HC.out];omega)];rfl
     repeat' first|go_guarded|go_step
     go_ret3
     exact⟨by rw[E.out];rfl,nq,rfl⟩
    ·have YI:((i:Int)==9)=false:=by simp;omega
     repeat' first|go_guarded|go_step
     rw[uj FB cM BR (fun h=>absurd h h9)]
     refine⟨⟨i+1,_,by omega,by simp,rfl,FA cM,by omega,?_⟩,by simp[intOf];omega⟩
     rw[←HU.out,HD.out,uk (by rw[HC.out];omega) (by rw[HC.out];exact aec),HC.out]
   ·have ahw:cn<128:=by omega
    by_cases h9:i=9
    ·have YI:((i:Int)==9)=true:=by simp;omega
     have NH:0<i:=by omega
     have H9:=aA h9;clear h9
     by_cases h1:1<cn
     ·have E:Hid (uv (b.drop a)=(0,0,2)):=by rw[←HL.out,←HU.out,HD.out,um H9.out (by rw[HC.out];omega)];rfl
      repeat' first|go_guarded|go_step
      go_ret3
      exact⟨by rw[E.out];rfl,nq,rfl⟩
     ·by_cases hz:cn=0
      ·have mc:((cn:Int)==0)=true:=by simp;omega
       have E:Hid (uv (b.drop a)=(0,0,2)):=by rw[←HL.out,←HU.out,HD.out,uo (by rw[HC.out];omega) NH];rfl
       have HZ:=aA hz;clear hz
       repeat' first|go_guarded|go_step
       go_ret3
       exact⟨by rw[E.out];rfl,nq,rfl⟩
      ·have mc:((cn:Int)==0)=false:=by simp;omega
       have E:Hid (uv (b.drop a)=(acc+cn % 128*128^i,i+1,0)):=by rw[←HL.out,←HU.out,HD.out,oF (by rw[HC.out];omega) (by rw[HC.out];omega) (by rw[HC.out];omega),HC.out];rfl
       repeat' first|go_guarded|go_step
       rw[uj FB cM BR (fun _=>by omega)]
       go_ret3
       exact⟨by rw[E.out];rfl,nq,rfl⟩
    ·have YI:((i:Int)==9)=false:=by simp;omega
     by_cases hz:cn=0
     ·have mc:((cn:Int)==0)=true:=by simp;omega
      by_cases NH:0<i
      ·have E:Hid (uv (b.drop a)=(0,0,2)):=by rw[←HL.out,←HU.out,HD.out,uo (by rw[HC.out];omega) NH];rfl
       have HZ:=aA hz;clear hz
       repeat' first|go_guarded|go_step
       go_ret3
       exact⟨by rw[E.out];rfl,nq,rfl⟩
      ·have E:Hid (uv (b.drop a)=(acc+cn % 128*128^i,i+1,0)):=by rw[←HL.out,←HU.out,HD.out,oF (by rw[HC.out];omega) (by rw[HC.out];omega) (by rw[HC.out];omega),HC.out];rfl
       have HZ:=aA hz;clear hz
       repeat' first|go_guarded|go_step
       rw[uj FB cM BR (fun h=>absurd h h9)]
       go_ret3
       exact⟨by rw[E.out];rfl,nq,rfl⟩
     ·have mc:((cn:Int)==0)=false:=by simp;omega
      have E:Hid (uv (b.drop a)=(acc+cn % 128*128^i,i+1,0)):=by rw[←HL.out,←HU.out,HD.out,oF (by rw[HC.out];omega) (by rw[HC.out];omega) (by rw[HC.out];omega),HC.out];rfl
      repeat' first|go_guarded|go_step
      rw[uj FB cM BR (fun h=>absurd h h9)]
      go_ret3
      exact⟨by rw[E.out];rfl,nq,rfl⟩
  ·have E:Hid (uv (b.drop a)=(0,0,3)):=by rw[←HL.out,←HU.out,drop_of_length_le (by omega)];rfl
   refine wk ?_
   go_ret3
   exact⟨by rw[E.out];rfl,nq,rfl⟩
theorem Ag(w:World)(g:Nat)(A:Option Addr)(k c:Nat)(b:List UInt8)(a:Nat)(most:Int)(hm:wY most)(hr:Rr w g A k c b a)(hb:b.length≤140737488355328) :
  Calls prog 268 #[.pointer (some ⟨g,0,none⟩),.int .i64 most] w fun e w'=>e=.returned (.tuple #[.int .i64 ((fw most (b.drop a)).1:Int),.int .i64 ((fw most (b.drop a)).2.1:Int),.int .i64 ((fw most (b.drop a)).2.2:Int)])∧∃n,w'=w.drewN n:=by
 obtain⟨l,hl⟩:∃l,l=b.drop a:=⟨_,rfl⟩
 have C:=KZ w g A k c b a hr hb
 rw[←hl]at C ⊢
 clear hl
 obtain⟨n,sz,bad,hu⟩:∃n sz bad,uv l=(n,sz,bad):=⟨_,_,_,rfl⟩
 have ef:=Du (l:=l)
 have gY:=XV (l:=l)
 unfold wY at hm
 rw[hu]at C ef gY
 by_cases h0:bad=0
 ·subst h0
  have hU:=(ef rfl).2.2.2
  have hs:=(ef rfl).2.2.1
  clear ef gY
  by_cases h1:most<0
  ·have E:Hid (fw most l=(0,0,8)):=by unfold fw Hid;rw[hu];simp[h1]
   clear hu
   go_enter func268,ntmps268
   repeat' go_step
   refine C.mono ?_
   rintro e w1 ⟨rfl,nq,rfl⟩
   refine wk ?_
   go_ret3
   exact⟨by rw[E.out];rfl,nq,rfl⟩
  ·by_cases h2:most<(n:Int)
   ·have E:Hid (fw most l=(0,0,8)):=by unfold fw Hid;rw[hu];simp[h1,h2]
    clear hu
    go_enter func268,ntmps268
    repeat' go_step
    refine C.mono ?_
    rintro e w1 ⟨rfl,nq,rfl⟩
    refine wk ?_
    go_ret3
    exact⟨by rw[E.out];rfl,nq,rfl⟩
   ·have E:Hid (fw most l=(n,sz,0)):=by unfold fw Hid;rw[hu];simp[h1,h2]
    clear hu
    go_enter func268,ntmps268
    repeat' go_step
    refine C.mono ?_
    rintro e w1 ⟨rfl,nq,rfl⟩
    refine wk ?_
    go_ret3
    exact⟨by rw[E.out];rfl,nq,rfl⟩
 ·have E:Hid (fw most l=(0,0,bad)):=by unfold fw Hid;rw[hu];simp[h0]
  have XE:((bad:Int)==0)=false:=by simp;omega
  have h0n:((bad:Int) != 0)=true:=by simp;omega
  clear hu ef gY
  go_enter func268,ntmps268
  repeat' go_step
  refine C.mono ?_
  rintro e w1 ⟨rfl,nq,rfl⟩
  refine wk ?_
  go_ret3
  exact⟨by rw[E.out];rfl,nq,rfl⟩
theorem wX(w:World)(g:Nat)(A:Option Addr)(k c:Nat)(b:List UInt8)(a:Nat)(most:Int)(hm:wY most)(hr:Rr w g A k c b a)(hb:b.length≤140737488355328) :
  Calls prog 236 #[.pointer (some ⟨g,0,none⟩),.int .i64 most] w fun e w'=>e=.returned (.tuple #[.int .i64 ((fw most (b.drop a)).1:Int),Ou (fw most (b.drop a)).2.2 a])∧Rr w' g A k c b (a+(fw most (b.drop a)).2.1)∧ab [g] [g] w w':=by
 have C:=Ag w g A k c b a most hm hr hb
 have ef:=FC (l:=b.drop a) (most:=most)
 have gY:=IX (l:=b.drop a) (most:=most)
 have xW:=Du (l:=b.drop a)
 have qI:(b.drop a).length=b.length-a:=by simp
 have hle:=hr.le
 rw[qI]at xW
 have hc1:=hr.aO.cell 1
 have qA:=hr.aO.frozen 1
 simp at hc1
 have HV:=aA xW;clear xW qI
 obtain⟨n,sz,bad,hu⟩:∃n sz bad,fw most (b.drop a)=(n,sz,bad):=⟨_,_,_,rfl⟩
 rw[hu]at C ef gY ⊢
 clear hu
 by_cases h0:bad=0
 ·subst h0
  obtain⟨h1,h2,h3,h4⟩:=ef rfl
  have h5:=HV.out h1
  rw[←h2]at h5 h4
  have hs:sz≤10:=h5.2.2.1
  have hs2:a+sz≤b.length:=by have:sz≤b.length-a:=h5.2.1;omega
  clear ef gY h1 h2 h5 HV
  simp only[j9]
  go_enter func236,ntmps236
  repeat' go_step
  refine C.mono ?_
  rintro e w1 ⟨rfl,nq,rfl⟩
  have P:=(hr.drewN nq).put (a+sz) hs2
  refine wk ?_
  go_ret2
  exact⟨rfl,by simpa using P.1,by simpa using((ab.refl [g] w).drewN nq).trans P.2⟩
 ·have XE:((bad:Int)==0)=false:=by simp;omega
  have h0n:((bad:Int) != 0)=true:=by simp;omega
  obtain⟨rfl,rfl⟩:=gY h0
  clear ef HV
  go_enter func236,ntmps236
  repeat' go_step
  refine C.mono ?_
  rintro e w1 ⟨rfl,nq,rfl⟩
  repeat' first|go_step|simp only[];go_at_K
  refine(oQ _ g A k c b a _ (hr.drewN nq)).mono ?_
  rintro e w1 ⟨rfl,rfl⟩
  refine wk ?_
  go_ret2
  exact⟨by simp only[kF h0];rfl,hr.drewN nq,(ab.refl [g] w).drewN nq⟩
theorem Bv(w:World)(g:Nat)(A:Option Addr)(k c:Nat)(b:List UInt8)(a:Nat)(hr:Rr w g A k c b a)(hb:b.length≤140737488355328) :
  Calls prog 238 #[.pointer (some ⟨g,0,none⟩)] w fun e w'=>e=.returned (Ou (if a<b.length then 2 else 0) a)∧∃n,w'=w.drewN n:=by
 have C:=KY w g A k c b a hr hb
 have hle:=hr.le
 by_cases h:a<b.length
 ·rw[if_pos h,kF (by decide)]
  have h':0<b.length-a:=by omega
  go_enter func238,ntmps238
  repeat' go_step
  refine C.mono ?_
  rintro e w1 ⟨rfl,nq,rfl⟩
  repeat' first|go_step|simp only[];go_at_K
  refine(oQ _ g A k c b a _ (hr.drewN nq)).mono ?_
  rintro e w1 ⟨rfl,rfl⟩
  refine wk ?_
  go_ret
  exact⟨rfl,nq,rfl⟩
 ·rw[if_neg h,j9]
  have h':¬ 0<b.length-a:=by omega
  go_enter func238,ntmps238
  repeat' go_step
  refine C.mono ?_
  rintro e w1 ⟨rfl,nq,rfl⟩
  refine wk ?_
  go_ret
  exact⟨rfl,nq,rfl⟩
theorem xh(w:World)(g:Nat)(A:Option Addr)(k c:Nat)(b:List UInt8)(a:Nat)(most:Int)(hm:wY most)(hr:Rr w g A k c b a)(hb:b.length≤140737488355328) :
  Calls prog 237 #[.pointer (some ⟨g,0,none⟩),.int .i64 most] w fun e w'=>∃A' k' c',e=.returned (.tuple #[.slice A' k' c',Ou (tk most (b.drop a)).2.2 a])∧
   bW 5 w' A' k' c' (tk most (b.drop a)).1∧Rr w' g A k c b (a+(tk most (b.drop a)).2.1)∧ab [g] (g::ak A') w w':=by
 obtain rfl:=hr.own.len
 have C:=Ag w g A b.length c b a most hm hr hb
 have ef:=FC (l:=b.drop a) (most:=most)
 have gY:=IX (l:=b.drop a) (most:=most)
 have xW:=Du (l:=b.drop a)
 have qI:(b.drop a).length=b.length-a:=by simp
 have hle:=hr.le
 rw[qI]at xW
 have hc0:=hr.aO.cell 0
 have hc1:=hr.aO.cell 1
 have qA:=hr.aO.frozen 1
 simp at hc0 hc1
 have HV:=aA xW;clear xW
 have HL:=aA qI;clear qI
 obtain⟨n,sz,bad,hu⟩:∃n sz bad,fw most (b.drop a)=(n,sz,bad):=⟨_,_,_,rfl⟩
 rw[hu]at C ef gY
 have HT:=aA hu;clear hu
 by_cases h0:bad=0
 ·subst h0
  obtain⟨h1,h2,h3,h4⟩:=ef rfl
  have h5:=HV.out h1
  rw[←h2]at h5 h4
  have hs:sz≤10:=h5.2.2.1
  have hs2:sz≤b.length-a:=h5.2.1
  have hn:(n:Int)≤most:=h4
  have hI:(n:Int)≤9223372036854775807:=by unfold wY at hm;omega
  clear ef gY h1 h2 h5 HV h4
  by_cases hlt:b.length-a-sz<n
  ·have E:Hid (tk most (b.drop a)=([],0,3)):=FD HT.out (by rw[HL.out];exact hlt)
   clear HT
   rw[E.out,kF (by decide)]
   go_enter func237,ntmps237
   repeat' go_step
   refine C.mono ?_
   rintro e w1 ⟨rfl,nq,rfl⟩
   repeat' first|go_step|simp only[];go_at_K
   go_quiet (fail)
   repeat' go_step
   refine(oQ _ g A b.length c b a _ (hr.drewN _)).mono ?_
   rintro e w1 ⟨rfl,rfl⟩
   refine wk ?_
   go_ret2
   exact⟨none,0,0,rfl,bW.nil _ _,hr.drewN _,((ab.refl [g] w).drewN _).gives (by simp[ak])⟩
  ·have E:Hid (tk most (b.drop a)=(((b.drop a).drop sz).take n,sz+n,0)):=Kt HT.out (by rw[HL.out];exact hlt)
   clear HT
   rw[E.out,j9]
   go_enter func237,ntmps237
   repeat' go_step
   refine C.mono ?_
   rintro e w1 ⟨rfl,YJ,rfl⟩
   repeat' first|go_step|simp only[];go_at_K
   go_quiet (fail)
   repeat' go_step
   have P:=(hr.drewN (YJ+nq)).put (a+(sz+n)) (by omega)
   rw[show((a+(sz+n):Nat):Int)=(a:Int)+sz+n by omega]at P
   have lB:ab [g] [g] w (w.drewN (YJ+nq)):=(ab.refl [g] w).drewN _
   generalize (w.drewN (YJ+nq)).setCell ⟨g,1,none⟩ (.int .i64 ((a:Int)+sz+n))=W at P ⊢
   have hW0:=P.1.aO.cell 0
   have hW1:=P.1.aO.cell 1
   simp at hW0 hW1
   rw[show((a:Int)+(sz+n))=(a:Int)+sz+n by omega]at hW1
   have hD0:({W with drawn:=W.drawn+1} :World).cell? ⟨g,0,none⟩=some (.slice A b.length c):=hW0
   have fD:({W with drawn:=W.drawn+1} :World).cell? ⟨g,1,none⟩=some (.int .i64 ((a:Int)+sz+n)):=hW1
   have jU:=hr.own.own.cap
   have hcm:=jU.2
   unfold maxLen at hcm
   have hx1:(0:Int)≤(a:Int)+sz:=by omega
   have hx2:(a:Int)+sz≤(a:Int)+sz+n:=by omega
   have hx3:(a:Int)+sz+n≤(c:Int):=by omega
   go_still_tail 10,(by kernel_rfl)
   change wpList _ _ _ _ _ W.drew
   repeat' go_step
   rw[show a+sz+n-(a+sz)=n by omega]
   have Fo:bE W.drew (if c=a+sz then A else Option.map (fun x=>x.add (a+sz)) A) n (((b.drop a).drop sz).take n):=by
    have h1:=(P.1.own.rd.drew.cut (k:=a+sz) (cap:=c) (by omega) jU.1).take (k:=n) (by omega)
    simpa[bE,iF,map_drop,map_take,drop_drop]using h1
   refine(di W.drew _ n _ _ Fo (by simp;omega)).mono ?_
   rintro e w1 ⟨A1,k1,c1,rfl,ho,bn⟩
   refine wk ?_
   go_ret2
   refine⟨A1,k1,c1,rfl,ho,P.1.aq (ab.trans (ab.refl [] W).drew bn) (by simp),?_⟩
   have bh:ab [g] [g] w W.drew:=(lB.trans P.2).drew
   refine(bh.trans (bn.mono (a':=[g]) (b':=g::ak A1) (by simp) ?_))
   intro j hj
   rcases mem_cons.1 hj with rfl|hj
   ·exact .inr (.inl (by simp))
   ·exact .inl hj
 ·have E:Hid (tk most (b.drop a)=([],0,bad)):=NS HT.out h0
  have XE:((bad:Int)==0)=false:=by simp;omega
  have h0n:((bad:Int) != 0)=true:=by simp;omega
  clear ef HV gY HT
  rw[E.out,kF h0]
  go_enter func237,ntmps237
  repeat' go_step
  refine C.mono ?_
  rintro e w1 ⟨rfl,nq,rfl⟩
  repeat' first|go_step|simp only[];go_at_K
  go_quiet (fail)
  repeat' go_step
  refine(oQ _ g A b.length c b a _ (hr.drewN _)).mono ?_
  rintro e w1 ⟨rfl,rfl⟩
  refine wk ?_
  go_ret2
  exact⟨none,0,0,rfl,bW.nil _ _,hr.drewN _,((ab.refl [g] w).drewN _).gives (by simp[ak])⟩
