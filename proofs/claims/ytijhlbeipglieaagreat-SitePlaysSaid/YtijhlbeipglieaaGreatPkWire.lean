/- For SitePlays. -/
import Derived.Test.YtijhlbeipglieaaGreatProg
import Derived.StillTailTactics
import Derived.Test.YtijhlbeipglieaaGreatPkBase
import Derived.Test.YtijhlbeipglieaaGreatPkPlain
set_option linter.all false
set_option maxRecDepth 100000
set_option maxHeartbeats 1000000
namespace Go.Proofs.YtijhlbeipglieaaGreat
open Go.RowKit aA Tryz List
theorem gp:(prog.info? 5).map (fun i=>(i.zero,i.size,i.bytes))=some (some (.int .u8 0),1,1):=by kernel_rfl
theorem nX(n:Int)(w:World)(h0:0≤n)(hU:dZ n.toNat) :
  Calls prog 243 #[.int .u64 n] w fun e w'=>∃A k c,e=.returned (.slice A k c)∧aT 5 w' A k c (dL n.toNat)∧aa [] (ah A) w w':=by
 go_enter func243,ntmps243
 repeat' go_step
 go_loopw [0,3] (fun v0 v3 wr=>∃m:Int,0≤m∧∃(l:List UInt8)(A:Option Addr)(k c:Nat),v0=.int .u64 m∧v3=.slice A k c∧dZ m.toNat∧l++dL m.toNat=dL n.toNat∧aT 5 wr A k c l∧aa [] (ah A) w wr)
  (fun v0 _ _=>(intOf v0).toNat)
 case atStart=>exact⟨n,h0,[],_,_,_,rfl,rfl,hU,rfl,aT.nil _ _,aa.refl _ _⟩
 case round=>
  obtain⟨m,hm0,l,A,k,c,rfl,rfl,RU,hl,acI,hu⟩:=hrel
  have hlen:l.length≤10:=by have:=jE hU;rw[←hl,length_append]at this;omega
  have HL:=hdn hl;clear hl
  by_cases hm:128≤m
  ·repeat' (fail_if_success with_reducible refine Ag rfl ?_);go_step
   refine mG rfl _ _ 28 rfl 5 underlying28 gp acI rfl _ rfl _ rfl (m.toNat % 128+128) (by omega) (by omega) (by omega) ?_
   intro A' k' c' w1 af2 hu1
   refine wk ?_
   rw[X5 hm0 RU 128 (by omega)]
   refine⟨⟨_,Int.ediv_nonneg hm0 (by omega),_,_,_,_,rfl,rfl,RU.le (by omega),?_,af2,hu.trans hu1⟩,by simp[intOf];omega⟩
   rw[←HL.out,wC (n:=m.toNat) (by omega),append_assoc,singleton_append,show(m / 128).toNat=m.toNat / 128 by omega]
  ·repeat' (fail_if_success with_reducible refine Ag rfl ?_);go_step
   refine mG rfl _ _ 28 rfl 5 underlying28 gp acI rfl _ rfl _ rfl m.toNat (by omega) (by omega) (by omega) ?_
   intro A' k' c' w1 af2 hu1
   refine wk ?_
   go_ret
   refine⟨_,_,_,rfl,?_,hu.trans hu1⟩
   rw[←HL.out,tX (n:=m.toNat) (by omega)]
   exact af2
theorem _root_.aA.aD.afr{w w':World}{A:Option Addr}{n:Nat}{l:List UInt8}{a b:List Nat}(h:aD w A n l)(hu:aa a b w w')(hd:0<n→∀k∈ah A,k∉a:=by simp):aD w' A n l:=by
 rcases Nat.eq_zero_or_pos n with h0|h0
 ·exact⟨h.1,fun hn=>absurd hn (by omega)⟩
 ·exact h.upd hu (hd h0)
theorem _root_.aA.aD.lt{w:World}{A:Option Addr}{n:Nat}{l:List UInt8}(h:aD w A n l):0<n→∀k∈ah A,k<w.heap.size:=by
 intro hn k hk
 obtain⟨ad,rfl,hc⟩:=h.2 hn
 have hl:=h.len
 simp[ah]at hk;subst hk
 have:=World.block_lt_of_cell? w _ (hc 0 _ (iq l 0 (by omega)))
 rwa [gq]at this
theorem Rd.new{w:World}(t:TypeId)(fr:Nat × Nat){size n:Nat}{cs:List Value}(hl:cs.length=n*size):Rd (w.alloc (.cells cs.toArray t fr)) size (some ⟨w.heap.size,0,none⟩) n cs:=
 ⟨hl,fun _=>⟨_,rfl,fun j u hu=>by
  have:(⟨w.heap.size,0,none⟩:Addr).add j=⟨w.heap.size,j,none⟩:=by unfold Addr.add;split<;>simp_all
  rw[this]
  have hh:(w.alloc (.cells cs.toArray t fr)).heap[w.heap.size]? =some (.cells cs.toArray t fr):=heap_alloc_new w _
  simp only[World.cell?,hh]
  simpa using hu⟩⟩
theorem strOf{w:World}{A:Option Addr}{n:Nat}{l:List UInt8}(h:aD w A n l)(c:Nat):(convert 28 9 (.slice A n c)).run prog w=.ok (.string ⟨l.toArray⟩) w:=
 Gu underlying28 underlying5 underlying9 h c
structure Wr(w:World)(g:Nat)(A:Option Addr)(k c:Nat)(l:List UInt8):Prop where
 blk:ak w g 204 #[.slice A k c]
 own:aT 5 w A k c l
section
variable {w w' w1:World} {g:Nat} {A A':Option Addr} {k c k' c':Nat} {l l':List UInt8} {a b:List Nat}
theorem Wr.ne(h:Wr w g A k c l):g∉ah A:=h.own.own.ne h.blk (by decide)
theorem Wr.put(h:Wr w g A k c l)(o:aT 5 w1 A' k' c' l')(hu:aa (ah A) (ah A') w w1) :
  Wr (w1.setCell ⟨g,0,none⟩ (.slice A' k' c')) g A' k' c' l'∧aa (g::ah A) (g::ah A') w (w1.setCell ⟨g,0,none⟩ (.slice A' k' c')):=by
 have hb1:=h.blk.upd hu h.ne
 have hn:g∉ah A':=o.own.ne hb1 (by decide)
 refine⟨⟨by simpa using hb1.aO 0 (.slice A' k' c'),o.upd ((aa.refl [g] w1).setCell (p:=⟨g,0,none⟩) (.inl (by simp)) _) (fun k hk=>by simp;rintro rfl;exact hn hk)⟩,?_⟩
 refine(hu.mono (a':=g::ah A) (b':=g::ah A') (fun k hk=>by simp[hk]) (fun k hk=>?_)).setCell (.inl (by simp)) _
 rcases mem_cons.1 hk with rfl|hk
 ·exact .inr (.inl (by simp))
 ·exact .inl hk
end
theorem wU(n:Int)(w:World)(g:Nat)(A:Option Addr)(k c:Nat)(l:List UInt8)(h0:0≤n)(hU:dZ n.toNat)(hw:Wr w g A k c l)(hlen:l.length+16≤140737488355328) :
  Calls prog 124 #[.pointer (some ⟨g,0,none⟩),.int .u64 n] w fun e w'=>e=.returned (.tuple #[])∧∃A' k' c',Wr w' g A' k' c' (l++dL n.toNat)∧aa (g::ah A) (g::ah A') w w':=by
 go_enter func124,ntmps124
 repeat' go_step
 go_loopw [1] (fun v1 wr=>∃m:Int,0≤m∧∃(l1:List UInt8)(A2:Option Addr)(k2 c2:Nat),v1=.int .u64 m∧dZ m.toNat∧l1++dL m.toNat=l++dL n.toNat∧Wr wr g A2 k2 c2 l1∧aa (g::ah A) (g::ah A2) w wr)
  (fun v1 _=>(intOf v1).toNat)
 case atStart=>exact⟨n,h0,l,A,k,c,rfl,hU,rfl,hw,aa.refl _ _⟩
 case round=>
  obtain⟨m,hm0,l1,A2,k2,c2,rfl,RU,hl,hwr,hu⟩:=hrel
  have atG:l1.length+1≤140737488355328:=by have:=jE hU;have h2:=congrArg length hl;have:=X4 m.toNat;simp only[length_append]at h2;omega
  have HL:=hdn hl;clear hl
  have hc:=hwr.blk.cell 0
  simp at hc
  by_cases hm:128≤m
  ·repeat' (fail_if_success with_reducible refine Ag rfl ?_);go_step
   refine mG rfl _ _ 28 rfl 5 underlying28 gp hwr.own rfl _ rfl _ rfl (m.toNat % 128+128) (by omega) (TP hm0 RU) (by omega) ?_
   intro A' k' c' w1 af2 hu1
   have P:=hwr.put af2 hu1
   have hc1:=(hwr.blk.upd hu1 hwr.ne).cell 0
   have hf1:=(hwr.blk.upd hu1 hwr.ne).frozen 0
   simp at hc1
   clear hc
   refine wk ?_
   refine⟨⟨_,Int.ediv_nonneg hm0 (by omega),_,_,_,_,rfl,RU.le (by omega),?_,P.1,hu.trans P.2⟩,by simp[intOf];omega⟩
   rw[←HL.out,wC (n:=m.toNat) (by omega),append_assoc,singleton_append,show(m / 128).toNat=m.toNat / 128 by omega]
  ·refine bN ?_
   refine mG rfl _ _ 28 rfl 5 underlying28 gp hwr.own rfl _ rfl _ rfl m.toNat (by omega) (by omega) (by omega) ?_
   intro A' k' c' w1 af2 hu1
   have P:=hwr.put af2 hu1
   have hc1:=(hwr.blk.upd hu1 hwr.ne).cell 0
   have hf1:=(hwr.blk.upd hu1 hwr.ne).frozen 0
   simp at hc1
   clear hc
   refine wk ?_
   go_end0
   refine⟨rfl,A',k',c',?_,hu.trans P.2⟩
   rw[←HL.out,tX (n:=m.toNat) (by omega)]
   exact P.1
theorem Af(w:World)(g:Nat)(A:Option Addr)(k c:Nat)(l:List UInt8)(B:Option Addr)(m d:Nat)(r:List UInt8)(hr:aD w B m r)(hB:0<m→∀j∈ah B,j∉g::ah A)(hw:Wr w g A k c l)(hlen:l.length+r.length+16≤140737488355328) :
  Calls prog 125 #[.pointer (some ⟨g,0,none⟩),.slice B m d] w fun e w'=>e=.returned (.tuple #[])∧∃A' k' c',Wr w' g A' k' c' (l++dL r.length++r)∧aa (g::ah A) (g::ah A') w w':=by
 obtain rfl:=hr.len
 go_enter func125,ntmps125
 repeat' (fail_if_success with_reducible refine Ag rfl ?_);go_step
 refine(wU _ w g A k c l (by omega) (dZ.small (by omega)) hw (by omega)).mono ?_
 rintro e w1 ⟨rfl,A1,k1,c1,hw1,hu1⟩
 have hc:=hw1.blk.cell 0
 have hr1:=hr.afr hu1 hB
 simp at hc
 refine bN ?_
 refine eD rfl _ _ 28 rfl 5 underlying28 gp hw1.own rfl hr1 rfl ?_ ?_
 ·have:=jE (n:=r.length) (dZ.small (by omega));simp;omega
 ·intro A2 k2 c2 w2 ajf hu2
  have P:=hw1.put ajf hu2
  have hc1:=(hw1.blk.upd hu2 hw1.ne).cell 0
  have hf1:=(hw1.blk.upd hu2 hw1.ne).frozen 0
  simp at hc1
  clear hc
  refine wk ?_
  go_end0
  exact⟨rfl,A2,k2,c2,by simpa using P.1,hu1.trans P.2⟩
theorem dS(w:World)(B:Option Addr)(m d:Nat)(r:List UInt8)(hr:aD w B m r)(hlen:r.length≤140737488355328) :
  Calls prog 58 #[.slice B m d] w fun e w'=>∃A' k' c',e=.returned (.slice A' k' c')∧aT 5 w' A' k' c' r∧aa [] (ah A') w w':=by
 have alK:=fun w=>Lib.run_eql_slice_nil (P:=prog) w 28 5 B m d 0 0 underlying28
 cases B with
 |none=>
  have hm:m=0:=by
   rcases Nat.eq_zero_or_pos m with h|h
   ·exact h
   ·obtain⟨_,h,_⟩:=hr.2 h;cases h
  subst hm
  obtain rfl:r= []:=eq_nil_of_length_eq_zero hr.len.symm
  go_enter func58,ntmps58
  refine wk ?_
  go_ret
  exact⟨none,0,0,rfl,aT.nil _ _,aa.refl _ _⟩
 |some ad=>
  go_enter func58,ntmps58
  repeat' (fail_if_success with_reducible refine Ag rfl ?_);go_step
  refine eD rfl _ _ 28 rfl 5 underlying28 gp (aT.made _ _) rfl (hr.alloc _) rfl (by simpa using hlen) ?_
  intro A2 k2 c2 w2 ajf hu2
  refine wk ?_
  go_ret
  exact⟨A2,k2,c2,rfl,ajf,(((aa.refl [] w).alloc _).gives (by simp[ah])).trans hu2⟩
theorem Cc(w:World)(g:Nat)(A:Option Addr)(k c:Nat)(l:List UInt8)(hw:Wr w g A k c l)(hlen:l.length≤140737488355328) :
  Calls prog 127 #[.pointer (some ⟨g,0,none⟩)] w fun e w'=>∃A' k' c',e=.returned (.slice A' k' c')∧aT 5 w' A' k' c' l∧aa [] (ah A') w w':=by
 have hc:=hw.blk.cell 0
 simp at hc
 go_enter func127,ntmps127
 repeat' go_step
 refine(dS w A k c l hw.own.rd hlen).mono ?_
 rintro e w1 ⟨A1,k1,c1,rfl,ho,hu⟩
 refine wk ?_
 go_ret
 exact⟨A1,k1,c1,rfl,ho,hu⟩
theorem Uv(w:World)(B:Option Addr)(m d:Nat)(r:List UInt8)(hr:aD w B m r)(hlen:r.length+16≤140737488355328) :
  Calls prog 244 #[.slice B m d] w fun e w'=>∃A' k' c',e=.returned (.slice A' k' c')∧aT 5 w' A' k' c' (dL r.length++r)∧aa [] (ah A') w w':=by
 obtain rfl:=hr.len
 go_enter func244,ntmps244
 repeat' (fail_if_success with_reducible refine Ag rfl ?_);go_step
 refine(nX _ w (by omega) (dZ.small (by omega))).mono ?_
 rintro e w1 ⟨A1,k1,c1,rfl,ho1,hu1⟩
 have hr1:=hr.upd hu1
 repeat' (fail_if_success with_reducible refine Ag rfl ?_);first|go_step|simp only[];go_at_K
 refine eD rfl _ _ 28 rfl 5 underlying28 gp ho1 rfl hr1 rfl ?_ ?_
 ·have:=jE (n:=r.length) (dZ.small (by omega));simp;omega
 ·intro A2 k2 c2 w2 ho2 hu2
  refine wk ?_
  go_ret
  exact⟨A2,k2,c2,rfl,by simpa using ho2,hu1.trans hu2⟩
theorem Yu{k:IntKind}{a b:Int}(h:a=b):Ending.returned (.int k a)=.returned (.int k b):=by rw[h]
structure Rr(w:World)(g:Nat)(A:Option Addr)(k c:Nat)(b:List UInt8)(at_:Nat):Prop where
 blk:ak w g 365 #[.slice A k c,.int .i64 (at_:Int)]
 own:aT 5 w A k c b
 le:at_≤b.length
def RV(bad at_:Nat):Value:=if bad=0 then .nilIface else .iface 388 (.agg #[.int .i64 (bad:Int),.int .i64 (at_:Int)])
theorem ql(a:Nat):RV 0 a=.nilIface:=rfl
theorem qm{bad:Nat}(h:bad≠0)(a:Nat):RV bad a=.iface 388 (.agg #[.int .i64 (bad:Int),.int .i64 (a:Int)]):=if_neg h
section
variable {w w':World} {g:Nat} {A:Option Addr} {k c:Nat} {b:List UInt8} {at_:Nat}
theorem Rr.upd{p q:List Nat}(h:Rr w g A k c b at_)(hu:aa p q w w')(hd:∀j∈g::ah A,j∉p:=by simp):Rr w' g A k c b at_:=
 ⟨h.blk.upd hu (hd g (by simp)),h.own.upd hu fun j hj=>hd j (by simp[hj]),h.le⟩
theorem Rr.ne(h:Rr w g A k c b at_):g∉ah A:=h.own.own.ne h.blk (by decide)
theorem Rr.drewN(h:Rr w g A k c b at_)(n:Nat):Rr (w.drewN n) g A k c b at_:=⟨h.blk,⟨h.own.len,h.own.own.drewN n⟩,h.le⟩
theorem Rr.put(h:Rr w g A k c b at_)(a':Nat)(ha:a'≤b.length) :
  Rr (w.setCell ⟨g,1,none⟩ (.int .i64 (a':Int))) g A k c b a'∧aa [g] [g] w (w.setCell ⟨g,1,none⟩ (.int .i64 (a':Int))):=by
 have hu:aa [g] [g] w (w.setCell ⟨g,1,none⟩ (.int .i64 (a':Int))):=(aa.refl [g] w).setCell (.inl (by simp)) _
 refine⟨⟨by simpa using h.blk.aO 1 (.int .i64 (a':Int)),h.own.upd hu (fun j hj=>by simp;rintro rfl;exact h.ne hj),ha⟩,hu⟩
end
theorem SG(w:World)(B:Option Addr)(m d:Nat)(r:List UInt8)(hr:aD w B m r)(hlen:r.length≤140737488355328) :
  Calls prog 234 #[.slice B m d] w fun e w'=>∃g A k c,e=.returned (.pointer (some ⟨g,0,none⟩))∧Rr w' g A k c r 0∧aa [] (g::ah A) w w':=by
 go_enter func234,ntmps234
 repeat' go_step
 refine(dS w B m d r hr hlen).mono ?_
 rintro e w1 ⟨A1,k1,c1,rfl,ho,hu⟩
 refine wk ?_
 go_ret
 refine⟨_,A1,k1,c1,rfl,⟨by simpa using ak.new _ _ _,ho.alloc _,Nat.zero_le _⟩,(hu.alloc _).gives ?_⟩
 intro j hj
 rcases mem_cons.1 hj with rfl|hj
 ·exact .inr hu.size
 ·exact hu.fresh j hj
theorem Pb(w:World)(g:Nat)(A:Option Addr)(k c:Nat)(b:List UInt8)(a:Nat)(hr:Rr w g A k c b a)(hb:b.length≤140737488355328) :
  Calls prog 270 #[.pointer (some ⟨g,0,none⟩)] w fun e w'=>e=.returned (.int .i64 ((b.length-a:Nat):Int))∧∃n,w'=w.drewN n:=by
 obtain rfl:=hr.own.len
 have hc0:=hr.blk.cell 0
 have hc1:=hr.blk.cell 1
 have hle:=hr.le
 simp at hc0 hc1
 go_enter func270,ntmps270
 repeat' go_step
 go_quiet (fail)
 refine wk ?_
 go_ret
 exact⟨Yu (by omega),nq,rfl⟩
theorem qO(w:World)(g:Nat)(A:Option Addr)(k c:Nat)(b:List UInt8)(a:Nat)(no:Int)(hr:Rr w g A k c b a) :
  Calls prog 269 #[.pointer (some ⟨g,0,none⟩),.int .i64 no] w fun e w'=>e=.returned (.iface 388 (.agg #[.int .i64 no,.int .i64 (a:Int)]))∧w=w':=by
 have hc1:=hr.blk.cell 1
 simp at hc1
 go_enter func269,ntmps269
 refine wk ?_
 go_ret
 exact⟨rfl,rfl⟩
theorem Pf(w:World)(g:Nat)(A:Option Addr)(k c:Nat)(b:List UInt8)(a:Nat)(hr:Rr w g A k c b a)(hb:b.length≤140737488355328) :
  Calls prog 294 #[.pointer (some ⟨g,0,none⟩)] w fun e w'=>e=.returned (.tuple #[.int .u64 ((uv (b.drop a)).1:Int),.int .i64 ((uv (b.drop a)).2.1:Int),.int .i64 ((uv (b.drop a)).2.2:Int)])∧∃n,w'=w.drewN n:=by
 obtain rfl:=hr.own.len
 have hc0:=hr.blk.cell 0
 have hc1:=hr.blk.cell 1
 have hle:=hr.le
 have adT:=hr.own.own.cap
 simp at hc0 hc1
 go_enter func294,ntmps294
 repeat' go_step
 go_quiet (fail)
 refine wk ?_
 have hrd:aD (w.drewN nq) (if c=a then A else Option.map (fun x=>x.add a) A) (b.length-a) (b.drop a):=by
  have:=(hr.own.rd.drewN nq).cut (k:=a) (cap:=c) hle adT.1
  simpa[aD,iH,map_drop]using this
 generalize (if c=a then A else Option.map (fun x=>x.add a) A)=A' at *
 have hll:(b.drop a).length≤140737488355328:=by simp;omega
 obtain⟨l,hl⟩:∃l,l=b.drop a:=⟨_,rfl⟩
 rw[←hl]at hrd hll
 have HL:=hdn hl;clear hl
 generalize b.length-a=n at *
 obtain rfl:=hrd.len
 clear hb hle adT hr hc0 hc1
 go_loop [5,20] (fun v5 v20=>∃i acc:Nat,i≤l.length∧v20=.int .i64 (i:Int)∧v5=.int .u64 (acc:Int)∧acc<128^i∧i≤9∧jG i acc (l.drop i)=uv l)
  (fun _ v20=>l.length-(intOf v20).toNat)
 case atStart=>exact⟨0,0,Nat.zero_le _,rfl,rfl,by omega,by omega,rfl⟩
 case round=>
  obtain⟨i,acc,hi,rfl,rfl,abU,hi9,huv⟩:=hrel
  have HU:=hdn huv;clear huv
  by_cases hlt:i<l.length
  ·obtain⟨ad,u,rfl,hx,acM⟩:=Rd.at_ hrd hlt
   rw[iq l i hlt]at hx
   obtain rfl:=Option.some.inj hx
   have HD:=hdn (drop_eq_getElem_cons hlt)
   have hcn:l[i].toNat<256:=l[i].toNat_lt
   clear hx
   generalize hce:l[i].toNat=cn at *
   have HC:=hdn hce;clear hce
   have h0:¬ cn=0→((cn:Int)==0)=false:=by intro h;simp;omega
   by_cases apV:128≤cn
   ·by_cases h9:i=9
    ·have JU:((i:Int)==9)=true:=by simp;omega
     have H9:=hdn h9;clear h9
     have E:Hid (uv (b.drop a)=(0,0,2)):=by rw[←HL.out,←HU.out,HD.out,qC H9.out (by rw[HC.out];omega)];rfl
     repeat' first|go_guarded|go_step
     go_ret3
     exact⟨by rw[E.out];rfl,nq,rfl⟩
    ·have JU:((i:Int)==9)=false:=by simp;omega
     repeat' first|go_guarded|go_step
     rw[xB hi9 abU hcn (fun h=>absurd h h9)]
     refine⟨⟨i+1,_,by omega,by simp,rfl,IQ abU,by omega,?_⟩,by simp[intOf];omega⟩
     rw[←HU.out,HD.out,tY (by rw[HC.out];omega) (by rw[HC.out];exact apV),HC.out]
   ·have atH:cn<128:=by omega
    by_cases h9:i=9
    ·have JU:((i:Int)==9)=true:=by simp;omega
     have hi0:0<i:=by omega
     have H9:=hdn h9;clear h9
     by_cases h1:1<cn
     ·have E:Hid (uv (b.drop a)=(0,0,2)):=by rw[←HL.out,←HU.out,HD.out,qC H9.out (by rw[HC.out];omega)];rfl
      repeat' first|go_guarded|go_step
      go_ret3
      exact⟨by rw[E.out];rfl,nq,rfl⟩
     ·by_cases hz:cn=0
      ·have hz':((cn:Int)==0)=true:=by simp;omega
       have E:Hid (uv (b.drop a)=(0,0,2)):=by rw[←HL.out,←HU.out,HD.out,tZ (by rw[HC.out];omega) hi0];rfl
       have HZ:=hdn hz;clear hz
       repeat' first|go_guarded|go_step
       go_ret3
       exact⟨by rw[E.out];rfl,nq,rfl⟩
      ·have hz':((cn:Int)==0)=false:=by simp;omega
       have E:Hid (uv (b.drop a)=(acc+cn % 128*128^i,i+1,0)):=by rw[←HL.out,←HU.out,HD.out,oG (by rw[HC.out];omega) (by rw[HC.out];omega) (by rw[HC.out];omega),HC.out];rfl
       repeat' first|go_guarded|go_step
       rw[xB hi9 abU hcn (fun _=>by omega)]
       go_ret3
       exact⟨by rw[E.out];rfl,nq,rfl⟩
    ·have JU:((i:Int)==9)=false:=by simp;omega
     by_cases hz:cn=0
     ·have hz':((cn:Int)==0)=true:=by simp;omega
      by_cases hi0:0<i
      ·have E:Hid (uv (b.drop a)=(0,0,2)):=by rw[←HL.out,←HU.out,HD.out,tZ (by rw[HC.out];omega) hi0];rfl
       have HZ:=hdn hz;clear hz
       repeat' first|go_guarded|go_step
       go_ret3
       exact⟨by rw[E.out];rfl,nq,rfl⟩
      ·have E:Hid (uv (b.drop a)=(acc+cn % 128*128^i,i+1,0)):=by rw[←HL.out,←HU.out,HD.out,oG (by rw[HC.out];omega) (by rw[HC.out];omega) (by rw[HC.out];omega),HC.out];rfl
       have HZ:=hdn hz;clear hz
       repeat' first|go_guarded|go_step
       rw[xB hi9 abU hcn (fun h=>absurd h h9)]
       go_ret3
       exact⟨by rw[E.out];rfl,nq,rfl⟩
     ·have hz':((cn:Int)==0)=false:=by simp;omega
      have E:Hid (uv (b.drop a)=(acc+cn % 128*128^i,i+1,0)):=by rw[←HL.out,←HU.out,HD.out,oG (by rw[HC.out];omega) (by rw[HC.out];omega) (by rw[HC.out];omega),HC.out];rfl
      repeat' first|go_guarded|go_step
      rw[xB hi9 abU hcn (fun h=>absurd h h9)]
      go_ret3
      exact⟨by rw[E.out];rfl,nq,rfl⟩
  ·have E:Hid (uv (b.drop a)=(0,0,3)):=by rw[←HL.out,←HU.out,drop_of_length_le (by omega)];rfl
   refine wk ?_
   go_ret3
   exact⟨by rw[E.out];rfl,nq,rfl⟩
theorem D9(w:World)(g:Nat)(A:Option Addr)(k c:Nat)(b:List UInt8)(a:Nat)(most:Int)(hm:uL most)(hr:Rr w g A k c b a)(hb:b.length≤140737488355328) :
  Calls prog 268 #[.pointer (some ⟨g,0,none⟩),.int .i64 most] w fun e w'=>e=.returned (.tuple #[.int .i64 ((eB most (b.drop a)).1:Int),.int .i64 ((eB most (b.drop a)).2.1:Int),.int .i64 ((eB most (b.drop a)).2.2:Int)])∧∃n,w'=w.drewN n:=by
 obtain⟨l,hl⟩:∃l,l=b.drop a:=⟨_,rfl⟩
 have C:=Pf w g A k c b a hr hb
 rw[←hl]at C ⊢
 clear hl
 obtain⟨n,sz,bad,hu⟩:∃n sz bad,uv l=(n,sz,bad):=⟨_,_,_,rfl⟩
 have hok:=sJ (l:=l)
 have adk:=Zy (l:=l)
 unfold uL at hm
 rw[hu]at C hok adk
 by_cases h0:bad=0
 ·subst h0
  have hU:=(hok rfl).2.2.2
  have hs:=(hok rfl).2.2.1
  clear hok adk
  by_cases h1:most<0
  ·have E:Hid (eB most l=(0,0,8)):=by unfold eB Hid;rw[hu];simp[h1]
   clear hu
   go_enter func268,ntmps268
   repeat' go_step
   refine C.mono ?_
   rintro e w1 ⟨rfl,nq,rfl⟩
   refine wk ?_
   go_ret3
   exact⟨by rw[E.out];rfl,nq,rfl⟩
  ·by_cases h2:most<(n:Int)
   ·have E:Hid (eB most l=(0,0,8)):=by unfold eB Hid;rw[hu];simp[h1,h2]
    clear hu
    go_enter func268,ntmps268
    repeat' go_step
    refine C.mono ?_
    rintro e w1 ⟨rfl,nq,rfl⟩
    refine wk ?_
    go_ret3
    exact⟨by rw[E.out];rfl,nq,rfl⟩
   ·have E:Hid (eB most l=(n,sz,0)):=by unfold eB Hid;rw[hu];simp[h1,h2]
    clear hu
    go_enter func268,ntmps268
    repeat' go_step
    refine C.mono ?_
    rintro e w1 ⟨rfl,nq,rfl⟩
    refine wk ?_
    go_ret3
    exact⟨by rw[E.out];rfl,nq,rfl⟩
 ·have E:Hid (eB most l=(0,0,bad)):=by unfold eB Hid;rw[hu];simp[h0]
  have h0':((bad:Int)==0)=false:=by simp;omega
  have Xf:((bad:Int) != 0)=true:=by simp;omega
  clear hu hok adk
  go_enter func268,ntmps268
  repeat' go_step
  refine C.mono ?_
  rintro e w1 ⟨rfl,nq,rfl⟩
  refine wk ?_
  go_ret3
  exact⟨by rw[E.out];rfl,nq,rfl⟩
theorem KG(w:World)(g:Nat)(A:Option Addr)(k c:Nat)(b:List UInt8)(a:Nat)(most:Int)(hm:uL most)(hr:Rr w g A k c b a)(hb:b.length≤140737488355328) :
  Calls prog 236 #[.pointer (some ⟨g,0,none⟩),.int .i64 most] w fun e w'=>e=.returned (.tuple #[.int .i64 ((eB most (b.drop a)).1:Int),RV (eB most (b.drop a)).2.2 a])∧Rr w' g A k c b (a+(eB most (b.drop a)).2.1)∧aa [g] [g] w w':=by
 have C:=D9 w g A k c b a most hm hr hb
 have hok:=CZ (l:=b.drop a) (most:=most)
 have adk:=Mw (l:=b.drop a) (most:=most)
 have huv:=sJ (l:=b.drop a)
 have hll:(b.drop a).length=b.length-a:=by simp
 have hle:=hr.le
 rw[hll]at huv
 have hc1:=hr.blk.cell 1
 have hf1:=hr.blk.frozen 1
 simp at hc1
 have HV:=hdn huv;clear huv hll
 obtain⟨n,sz,bad,hu⟩:∃n sz bad,eB most (b.drop a)=(n,sz,bad):=⟨_,_,_,rfl⟩
 rw[hu]at C hok adk ⊢
 clear hu
 by_cases h0:bad=0
 ·subst h0
  obtain⟨h1,h2,h3,h4⟩:=hok rfl
  have h5:=HV.out h1
  rw[←h2]at h5 h4
  have hs:sz≤10:=h5.2.2.1
  have hs2:a+sz≤b.length:=by have:sz≤b.length-a:=h5.2.1;omega
  clear hok adk h1 h2 h5 HV
  simp only[ql]
  go_enter func236,ntmps236
  repeat' go_step
  refine C.mono ?_
  rintro e w1 ⟨rfl,nq,rfl⟩
  have P:=(hr.drewN nq).put (a+sz) hs2
  refine wk ?_
  go_ret2
  exact⟨rfl,by simpa using P.1,by simpa using((aa.refl [g] w).drewN nq).trans P.2⟩
 ·have h0':((bad:Int)==0)=false:=by simp;omega
  have Xf:((bad:Int) != 0)=true:=by simp;omega
  obtain⟨rfl,rfl⟩:=adk h0
  clear hok HV
  go_enter func236,ntmps236
  repeat' go_step
  refine C.mono ?_
  rintro e w1 ⟨rfl,nq,rfl⟩
  repeat' first|go_step|simp only[];go_at_K
  refine(qO _ g A k c b a _ (hr.drewN nq)).mono ?_
  rintro e w1 ⟨rfl,rfl⟩
  refine wk ?_
  go_ret2
  exact⟨by simp only[qm h0];rfl,hr.drewN nq,(aa.refl [g] w).drewN nq⟩
theorem PD(w:World)(g:Nat)(A:Option Addr)(k c:Nat)(b:List UInt8)(a:Nat)(hr:Rr w g A k c b a)(hb:b.length≤140737488355328) :
  Calls prog 238 #[.pointer (some ⟨g,0,none⟩)] w fun e w'=>e=.returned (RV (if a<b.length then 2 else 0) a)∧∃n,w'=w.drewN n:=by
 have C:=Pb w g A k c b a hr hb
 have hle:=hr.le
 by_cases h:a<b.length
 ·rw[if_pos h,qm (by decide)]
  have h':0<b.length-a:=by omega
  go_enter func238,ntmps238
  repeat' go_step
  refine C.mono ?_
  rintro e w1 ⟨rfl,nq,rfl⟩
  repeat' first|go_step|simp only[];go_at_K
  refine(qO _ g A k c b a _ (hr.drewN nq)).mono ?_
  rintro e w1 ⟨rfl,rfl⟩
  refine wk ?_
  go_ret
  exact⟨rfl,nq,rfl⟩
 ·rw[if_neg h,ql]
  have h':¬ 0<b.length-a:=by omega
  go_enter func238,ntmps238
  repeat' go_step
  refine C.mono ?_
  rintro e w1 ⟨rfl,nq,rfl⟩
  refine wk ?_
  go_ret
  exact⟨rfl,nq,rfl⟩
theorem KH(w:World)(g:Nat)(A:Option Addr)(k c:Nat)(b:List UInt8)(a:Nat)(most:Int)(hm:uL most)(hr:Rr w g A k c b a)(hb:b.length≤140737488355328) :
  Calls prog 237 #[.pointer (some ⟨g,0,none⟩),.int .i64 most] w fun e w'=>∃A' k' c',e=.returned (.tuple #[.slice A' k' c',RV (tk most (b.drop a)).2.2 a])∧
   aT 5 w' A' k' c' (tk most (b.drop a)).1∧Rr w' g A k c b (a+(tk most (b.drop a)).2.1)∧aa [g] (g::ah A') w w':=by
 obtain rfl:=hr.own.len
 have C:=D9 w g A b.length c b a most hm hr hb
 have hok:=CZ (l:=b.drop a) (most:=most)
 have adk:=Mw (l:=b.drop a) (most:=most)
 have huv:=sJ (l:=b.drop a)
 have hll:(b.drop a).length=b.length-a:=by simp
 have hle:=hr.le
 rw[hll]at huv
 have hc0:=hr.blk.cell 0
 have hc1:=hr.blk.cell 1
 have hf1:=hr.blk.frozen 1
 simp at hc0 hc1
 have HV:=hdn huv;clear huv
 have HL:=hdn hll;clear hll
 obtain⟨n,sz,bad,hu⟩:∃n sz bad,eB most (b.drop a)=(n,sz,bad):=⟨_,_,_,rfl⟩
 rw[hu]at C hok adk
 have HT:=hdn hu;clear hu
 by_cases h0:bad=0
 ·subst h0
  obtain⟨h1,h2,h3,h4⟩:=hok rfl
  have h5:=HV.out h1
  rw[←h2]at h5 h4
  have hs:sz≤10:=h5.2.2.1
  have hs2:sz≤b.length-a:=h5.2.1
  have hn:(n:Int)≤most:=h4
  have hI:(n:Int)≤9223372036854775807:=by unfold uL at hm;omega
  clear hok adk h1 h2 h5 HV h4
  by_cases hlt:b.length-a-sz<n
  ·have E:Hid (tk most (b.drop a)=([],0,3)):=Bp HT.out (by rw[HL.out];exact hlt)
   clear HT
   rw[E.out,qm (by decide)]
   go_enter func237,ntmps237
   repeat' go_step
   refine C.mono ?_
   rintro e w1 ⟨rfl,nq,rfl⟩
   repeat' first|go_step|simp only[];go_at_K
   go_quiet (fail)
   repeat' go_step
   refine(qO _ g A b.length c b a _ (hr.drewN _)).mono ?_
   rintro e w1 ⟨rfl,rfl⟩
   refine wk ?_
   go_ret2
   exact⟨none,0,0,rfl,aT.nil _ _,hr.drewN _,((aa.refl [g] w).drewN _).gives (by simp[ah])⟩
  ·have E:Hid (tk most (b.drop a)=(((b.drop a).drop sz).take n,sz+n,0)):=GJ HT.out (by rw[HL.out];exact hlt)
   clear HT
   rw[E.out,ql]
   go_enter func237,ntmps237
   repeat' go_step
   refine C.mono ?_
   rintro e w1 ⟨rfl,nq1,rfl⟩
   repeat' first|go_step|simp only[];go_at_K
   go_quiet (fail)
   repeat' go_step
   have P:=(hr.drewN (nq1+nq)).put (a+(sz+n)) (by omega)
   rw[show((a+(sz+n):Nat):Int)=(a:Int)+sz+n by omega]at P
   have hu0:aa [g] [g] w (w.drewN (nq1+nq)):=(aa.refl [g] w).drewN _
   generalize (w.drewN (nq1+nq)).setCell ⟨g,1,none⟩ (.int .i64 ((a:Int)+sz+n))=W at P ⊢
   have hW0:=P.1.blk.cell 0
   have hW1:=P.1.blk.cell 1
   simp at hW0 hW1
   rw[show((a:Int)+(sz+n))=(a:Int)+sz+n by omega]at hW1
   have hD0:({W with drawn:=W.drawn+1} :World).cell? ⟨g,0,none⟩=some (.slice A b.length c):=hW0
   have hD1:({W with drawn:=W.drawn+1} :World).cell? ⟨g,1,none⟩=some (.int .i64 ((a:Int)+sz+n)):=hW1
   have adT:=hr.own.own.cap
   have hcm:=adT.2
   unfold maxLen at hcm
   have hx1:(0:Int)≤(a:Int)+sz:=by omega
   have hx2:(a:Int)+sz≤(a:Int)+sz+n:=by omega
   have hx3:(a:Int)+sz+n≤(c:Int):=by omega
   go_still_tail 10,(by kernel_rfl)
   change wpList _ _ _ _ _ W.drew
   repeat' go_step
   rw[show a+sz+n-(a+sz)=n by omega]
   have hrd:aD W.drew (if c=a+sz then A else Option.map (fun x=>x.add (a+sz)) A) n (((b.drop a).drop sz).take n):=by
    have h1:=(P.1.own.rd.drew.cut (k:=a+sz) (cap:=c) (by omega) adT.1).take (k:=n) (by omega)
    simpa[aD,iH,map_drop,map_take,drop_drop]using h1
   refine(dS W.drew _ n _ _ hrd (by simp;omega)).mono ?_
   rintro e w1 ⟨A1,k1,c1,rfl,ho,hu1⟩
   refine wk ?_
   go_ret2
   refine⟨A1,k1,c1,rfl,ho,P.1.upd (aa.trans (aa.refl [] W).drew hu1) (by simp),?_⟩
   have hu2:aa [g] [g] w W.drew:=(hu0.trans P.2).drew
   refine(hu2.trans (hu1.mono (a':=[g]) (b':=g::ah A1) (by simp) ?_))
   intro j hj
   rcases mem_cons.1 hj with rfl|hj
   ·exact .inr (.inl (by simp))
   ·exact .inl hj
 ·have E:Hid (tk most (b.drop a)=([],0,bad)):=IU HT.out h0
  have h0':((bad:Int)==0)=false:=by simp;omega
  have Xf:((bad:Int) != 0)=true:=by simp;omega
  clear hok HV adk HT
  rw[E.out,qm h0]
  go_enter func237,ntmps237
  repeat' go_step
  refine C.mono ?_
  rintro e w1 ⟨rfl,nq,rfl⟩
  repeat' first|go_step|simp only[];go_at_K
  go_quiet (fail)
  repeat' go_step
  refine(qO _ g A b.length c b a _ (hr.drewN _)).mono ?_
  rintro e w1 ⟨rfl,rfl⟩
  refine wk ?_
  go_ret2
  exact⟨none,0,0,rfl,aT.nil _ _,hr.drewN _,((aa.refl [g] w).drewN _).gives (by simp[ah])⟩
