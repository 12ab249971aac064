/- Merged: Net5, NetL, NetM, NetN, NetT, Net6. -/
import Derived.Test.YtijhlbeipglieaaGreatNet4
import Derived.Test.YtijhlbeipglieaaGreatFrame5
import Derived.Test.YtijhlbeipglieaaGreatPkAlog
set_option linter.all false
set_option maxRecDepth 100000
set_option maxHeartbeats 8000000
namespace Go.Proofs.YtijhlbeipglieaaGreat
open Go.RowKit Agio
theorem nine_of {l:List Nat} (h:l.length=9):∃n0 n1 n2 n3 n4 n5 n6 n7 n8:Nat,l= [n0,n1,n2,n3,n4,n5,n6,n7,n8]:=by
 match l,h with
 | [a,b,c,d,e,f,g,i,j],_=>exact ⟨a,b,c,d,e,f,g,i,j,rfl⟩
theorem decI_big {bi:List UInt8} {n0 n1 n2 n3 n4 n5 n6 n7 n8 a:Nat} (hn:nums bi ms9 0=some ([n0,n1,n2,n3,n4,n5,n6,n7,n8],a)) (h8:1 < n8):decI bi=none:=by
 refine decI_none fun m hm=>?_
 obtain ⟨v,k,bad,ht⟩:∃v k bad,tk 2048 (bi.drop a)=(v,k,bad):=⟨_,_,_,rfl⟩
 have hb:=body_tk hn ht
 by_cases hc:bad=0∧a + k=bi.length
 ·rw [if_pos hc] at hb
  have:=((deci_body hb).2 m hm).1
  omega
 ·rw [if_neg hc] at hb
  exact deci_none hb m hm
theorem ten {W w:World} {H:Nat} {t:TypeId} {cs:Array Value} (vs:List Value) (hH:Blk W H t cs) (hl:cs.size=vs.length) (U:Upd [] [] w W) (hHn:w.heap.size≤H) :
  Blk (setRow W H 0 vs) H t vs.toArray∧Upd [] [] w (setRow W H 0 vs):=rowSet vs hH hl U (.inr hHn)
end Go.Proofs.YtijhlbeipglieaaGreat
namespace Go.Proofs.YtijhlbeipglieaaGreat
open Go.RowKit Agio
structure Pk where
 to:Int
 A:Option Addr
 n:Nat
 c:Nat
 b:List UInt8
def Pk.cells (x:Pk):List Value:=[.int .i64 x.to,.slice x.A x.n x.c]
theorem Pk.cells_len (x:Pk):x.cells.length=2:=rfl
theorem infoPk:(Tryz.prog.info? 315).map (fun i=>(i.zero,i.size,i.bytes))=some (some (.agg #[.int .i64 0,.slice none 0 0]),2,32):=by kernel_rfl
structure FullRow (e:TypeId) (w:World) (A:Option Addr) (n c:Nat) (xs:List Value):Prop where
 cap:c=n
 rd:Rd w 2 A n xs
 blk:∃g cur,A=some ⟨g,0,none⟩∧w.heap[g]? =some (.cells cur e (0,0))
structure PkL (w:World) (A:Option Addr) (n c:Nat) (l:List Pk):Prop where
 len:n=l.length
 row:Agio.Own 315 2 w A n c (l.flatMap Pk.cells)∨FullRow 315 w A n c (l.flatMap Pk.cells)
section
variable {w w':World} {A:Option Addr} {n c:Nat} {l:List Pk}
theorem PkL.nil (w:World):PkL w none 0 0 []:=⟨rfl,.inl (Own.nil _ _ _)⟩
theorem PkL.rd (h:PkL w A n c l):Rd w 2 A n (l.flatMap Pk.cells):=by
 rcases h.row with h1 | h1
 ·exact h1.rd
 ·exact h1.rd
theorem PkL.rdS (h:PkL w A n c l):RdS Pk.cells 2 w A n l:=⟨h.len,h.rd⟩
theorem PkL.le (h:PkL w A n c l):n≤c:=by
 rcases h.row with h1 | h1
 ·exact h1.cap.1
 ·rw [h1.cap];exact Nat.le_refl _
theorem PkL.lt (h:PkL w A n c l):∀k∈ablk A,k < w.heap.size:=by
 rcases h.row with h1 | h1
 ·exact h1.lt
 ·obtain ⟨g,cur,rfl,hg⟩:=h1.blk
  intro k hk;simp [ablk] at hk;subst hk;exact (Array.getElem?_eq_some_iff.1 hg).1
theorem PkL.block (h:PkL w A n c l):∀k∈ablk A,∃cur,w.heap[k]? =some (.cells cur 315 (0,0)):=by
 rcases h.row with h1 | h1
 ·intro k hk
  rcases h1.2 with ⟨hv,_⟩ | ⟨g,cap,cur,hv,_,hg,_⟩
  ·injection hv with hA;subst hA;simp [ablk] at hk
  ·injection hv with hA;subst hA;simp [ablk] at hk;subst hk;exact ⟨cur,hg⟩
 ·obtain ⟨g,cur,rfl,hg⟩:=h1.blk
  intro k hk;simp [ablk] at hk;subst hk;exact ⟨cur,hg⟩
theorem PkL.upd {a b:List Nat} (h:PkL w A n c l) (hu:Upd a b w w') (hd:∀k∈ablk A,k∉a):PkL w' A n c l:=by
 refine ⟨h.len,?_⟩
 rcases h.row with h1 | h1
 ·exact .inl (h1.upd hu hd)
 ·obtain ⟨g,cur,hA,hg⟩:=h1.blk
  exact .inr ⟨h1.cap,h1.rd.upd hu hd,g,cur,hA,(hu.block g (Array.getElem?_eq_some_iff.1 hg).1 (hd g (by simp [hA,ablk]))).trans hg⟩
theorem PkL.ne (h:PkL w A n c l) {g:Nat} {t:TypeId} {cs:Array Value} (hb:Blk w g t cs) (hne:t≠315):g∉ablk A:=by
 intro hm
 obtain ⟨cur,hc⟩:=h.block g hm
 exact Blk.ne_ hb (cs':=cur) hc hne rfl
theorem PkL.apart (h:PkL w A n c l) {e:TypeId} {size:Nat} {A':Option Addr} {n' c':Nat} {xs:List Value} (ho:Own e size w A' n' c' xs) (hne:e≠315):∀k∈ablk A',k∉ablk A:=by
 intro k hk hm
 obtain ⟨cur,hc⟩:=h.block k hm
 exact ho.ne (g:=k) (cs:=cur) hc hne hk
theorem PkL.alloc (h:PkL w A n c l) (o:Obj):PkL (w.alloc o) A n c l:=h.upd ((Upd.refl [] w).alloc o) (by simp)
end
theorem Own.of_row {e:TypeId} {size base:Nat} {w:World} {v:Value} {n:Nat} {xs:List Value} (h:w.ownsRow base e size v n xs):(∃A c,v= .slice A n c∧Own e size w A n c xs)∧∀A c,v= .slice A n c→0 < n→∀k∈ablk A,base≤k:=by
 rcases h.2 with ⟨hv,hn⟩ | ⟨g,cap,cur,hv,hb,rest⟩
 ·subst hn
  refine ⟨⟨none,0,hv,⟨h.1,.inl ⟨rfl,rfl⟩⟩⟩,fun A c _ h0=>by omega⟩
 ·refine ⟨⟨some ⟨g,0,none⟩,cap,hv,⟨h.1,.inr ⟨g,cap,cur,rfl,Nat.zero_le _,rest⟩⟩⟩,fun A c hv' _ k hk=>?_⟩
  rw [hv] at hv'
  injection hv' with hA
  subst hA
  simp [ablk] at hk
  omega
theorem step_run {P:Program} {ops:Array Oper} {o:Oper} {a:Act} {w:World} {K:Act→World→Prop} {Q:Exit→Act→World→Prop} {E:Prop}
  (hg:o.guard=none) (s x:Operand) (t:TypeId) (hop:o.op=Op.call {callee:=Callee.builtin Builtin.append,args:=#[s,x],argTypes:=#[t,t]})
  (vs vx v:Value) (w':World) (hs:a.eval s=vs) (hx:a.eval x=vx) (hrun:(Builtin.append_ #[t,t] o.type #[vs,vx]).run P w= .ok v w') (hK:K (a.put o.dst v) w') :
  if Region.wanted o (yielded ops a.tmps)=true then Oper.wp P o a w K Q else E:=by
 have hw:Region.wanted o (yielded ops a.tmps)=true:=by simp [Region.wanted,hg]
 rw [if_pos hw]
 unfold Oper.wp
 simp [execOp,hop,resolve,invoke,builtin,hs,hx,hrun,Result.andThen]
 exact hK
theorem PkL.push {w:World} {A:Option Addr} {n c:Nat} {l:List Pk} (h:PkL w A n c l) (x:Pk) (H _m _d:Nat) (hH:Blk w H 315 x.cells.toArray) (hl:l.length≤5000) (ty:TypeId) :
  ∃A' c' w',(Builtin.append_ #[272,272] ty #[.slice A n c,.slice (some ⟨H,0,none⟩) 1 1]).run Tryz.prog w= .ok (.slice A' (n + 1) c') w'∧PkL w' A' (n + 1) c' (l ++ [x])∧Upd (ablk A) (ablk A') w w':=by
 have hn:=h.len
 have hr:Rd w 2 (some ⟨H,0,none⟩) 1 x.cells:=Rd.blk hH rfl
 have hcat:(l ++ [x]).flatMap Pk.cells=l.flatMap Pk.cells ++ x.cells:=by simp
 rcases h.row with h1 | h1
 ·obtain ⟨A',c',w',hrun,ho,hu⟩:=run_app (P:=Tryz.prog) w 272 ty 315 Tryz.underlying272 infoPk rfl (by decide) A n c _ h1 (some ⟨H,0,none⟩) 1 1 x.cells hr (by intro u hu;simp only [Pk.cells,List.mem_cons,List.not_mem_nil,or_false] at hu;rcases hu with rfl | rfl <;> rfl) (by unfold maxLen;omega) (by omega)
  exact ⟨A',c',w',hrun,⟨by simp [hn],.inl (by rw [hcat];exact ho)⟩,hu⟩
 ·obtain ⟨g,cur,rfl,hg⟩:=h1.blk
  obtain ⟨i,hi,hz,hsize,hby⟩:=info_parts infoPk
  obtain ⟨ad,e,hc⟩:=hr.2 (by omega)
  injection e with e;subst e
  have holds:∀j u,(l.flatMap Pk.cells)[j]? =some u→w.cell? ((⟨g,0,none⟩:Addr).add j)=some u:=by
   intro j u hu
   rcases Nat.eq_zero_or_pos n with h0 | h0
   ·have hl0:l= []:=List.eq_nil_of_length_eq_zero (by omega)
    subst hl0;simp at hu
   ·obtain ⟨ad',e',hc'⟩:=h1.rd.2 h0
    injection e' with e';subst e'
    exact hc' j u hu
  obtain ⟨v',w',hrun,ho,hgr⟩:=run_append_arg_grows (P:=Tryz.prog) w 272 ty 315 i _ 2 32 Tryz.underlying272 hi hz hsize hby rfl (by decide) ⟨g,0,none⟩ n c _ h1.rd.1 holds ⟨H,0,none⟩ 1 1 x.cells rfl hc (by rw [h1.cap];omega) (by unfold maxLen;omega) (by omega)
  obtain ⟨⟨A',c',rfl,ho'⟩,hbase⟩:=Own.of_row ho
  exact ⟨A',c',w',hrun,⟨by simp [hn],.inl (by rw [hcat];exact ho')⟩,(((Upd.refl _ w).grown hgr (fun k h=>by cases h)).gives (fun k hk=>.inr (hbase A' c' rfl (by omega) k hk)))⟩
end Go.Proofs.YtijhlbeipglieaaGreat
namespace Go.Proofs.YtijhlbeipglieaaGreat
open Go.RowKit Agio
def fpN (g:Nat) (A:Option Addr) (l:List Pk):List Nat:=g :: (ablk A ++ l.flatMap fun x=>ablk x.A)
structure NetS (w:World) (g:Nat) (A:Option Addr) (n c:Nat) (l:List Pk):Prop where
 blk:Blk w g 274 #[.slice A n c]
 row:PkL w A n c l
 each:∀x∈l,OwnB 5 w x.A x.n x.c x.b
 far:l.Pairwise fun x y=>∀k∈ablk x.A,k∉ablk y.A
 le:l.length≤4096
section
variable {w w':World} {g:Nat} {A:Option Addr} {n c:Nat} {l:List Pk}
theorem NetS.upd {a b:List Nat} (h:NetS w g A n c l) (hu:Upd a b w w') (hd:∀k∈fpN g A l,k∉a):NetS w' g A n c l:=
 ⟨h.blk.upd hu (hd g (by simp [fpN])),h.row.upd hu (fun k hk=>hd k (by simp [fpN,hk])),fun x hx=>(h.each x hx).upd hu (fun k hk=>hd k (by simp only [fpN,List.mem_cons,List.mem_append,List.mem_flatMap];exact .inr (.inr ⟨x,hx,hk⟩))),h.far,h.le⟩
theorem NetS.upd0 {b:List Nat} (h:NetS w g A n c l) (hu:Upd [] b w w'):NetS w' g A n c l:=h.upd hu (by simp)
theorem NetS.len (h:NetS w g A n c l):n=l.length:=h.row.len
theorem NetS.lt (h:NetS w g A n c l):∀k∈fpN g A l,k < w.heap.size:=by
 intro k hk
 simp only [fpN,List.mem_cons,List.mem_append,List.mem_flatMap] at hk
 rcases hk with rfl | hk | ⟨x,hx,hk⟩
 ·exact h.blk.lt
 ·exact h.row.lt k hk
 ·exact (h.each x hx).own.lt k hk
end
theorem netNew (w:World):Calls Tryz.prog 106 #[] w fun e w'=>∃g,e= .returned (.pointer (some ⟨g,0,none⟩))∧NetS w' g none 0 0 []∧Upd [] (fpN g none []) w w':=by
 go_enter Tryz.func106,Tryz.ntmps106
 repeat' (first|go_values|go_skip|go_guarded|go_step|go_upon|(simp only [];go_at_K))
 go_ret
 exact ⟨w.heap.size,rfl,⟨Blk.new _ _ _,(PkL.nil w).alloc _,by simp,.nil,by simp⟩,((Upd.refl [] w).alloc _).gives (by simp [fpN,ablk])⟩
def thereB (n:Nat) (i:Int):Bool:=decide (0≤i) && decide (i < (n:Int))
theorem netThere (w:World) (g:Nat) (A:Option Addr) (n c:Nat) (l:List Pk) (h:NetS w g A n c l) (i:Int) :
  Calls Tryz.prog 232 #[.pointer (some ⟨g,0,none⟩),.int .i64 i] w fun e w'=>e= .returned (.bool (thereB l.length i))∧w=w':=by
 obtain rfl:=h.len
 have q:=h.blk.cell 0
 simp only [List.getElem?_toArray,List.getElem?_cons_zero] at q
 go_enter Tryz.func232,Tryz.ntmps232
 repeat' (first|go_values|go_skip|go_guarded|go_step|go_upon|(simp only [];go_at_K))
 all_goals go_ret
 all_goals exact ⟨by simp [thereB, *],rfl⟩
theorem NetS.push {w w1 w2:World} {g:Nat} {A A':Option Addr} {n c n' c':Nat} {l:List Pk} {x:Pk} (h:NetS w g A n c l) (hu1:Upd [] (ablk x.A) w w1) (hx:OwnB 5 w1 x.A x.n x.c x.b)
  (hr:PkL w2 A' n' c' (l ++ [x])) (hu2:Upd (ablk A) (ablk A') w1 w2) (hl:l.length < 4096) :
  NetS (w2.setCell ⟨g,0,none⟩ (.slice A' n' c')) g A' n' c' (l ++ [x])∧Upd (fpN g A l) (fpN g A' (l ++ [x])) w (w2.setCell ⟨g,0,none⟩ (.slice A' n' c')):=by
 have h1:=h.upd0 hu1
 have hgA:g∉ablk A:=h1.row.ne h1.blk (by decide)
 have hb2:=h1.blk.upd hu2 hgA
 have hgA':g∉ablk A':=hr.ne hb2 (by decide)
 have hset:Upd [g] [g] w2 (w2.setCell ⟨g,0,none⟩ (.slice A' n' c')):=(Upd.refl _ _).setCell (.inl (by simp)) _
 have hold:∀y∈l,OwnB 5 w2 y.A y.n y.c y.b:=fun y hy=>(h1.each y hy).upd hu2 (h1.row.apart (h1.each y hy).own (by decide))
 have hx2:OwnB 5 w2 x.A x.n x.c x.b:=hx.upd hu2 (h1.row.apart hx.own (by decide))
 refine ⟨⟨by simpa using hb2.set_ 0 (.slice A' n' c'),hr.upd hset (fun k hk=>by simp;rintro rfl;exact hgA' hk),fun y hy=>?_,?_,by simp;omega⟩,?_⟩
 ·have hy2:OwnB 5 w2 y.A y.n y.c y.b:=by
   rcases List.mem_append.1 hy with hy | hy
   ·exact hold y hy
   ·obtain rfl:=List.mem_singleton.1 hy;exact hx2
  exact hy2.upd hset (fun k hk=>by simp;rintro rfl;exact hy2.own.ne hb2 (by decide) hk)
 ·refine List.pairwise_append.2 ⟨h.far,List.pairwise_singleton _ _,fun y hy z hz=>?_⟩
  obtain rfl:=List.mem_singleton.1 hz
  intro k hk hm
  have h1:=(h.each y hy).own.lt k hk
  rcases hu1.fresh k hm with h2 | h2
  ·cases h2
  ·omega
 ·have e1:Upd (fpN g A l) (fpN g A l ++ ablk x.A) w w1:=hu1.mono (by simp) (fun k hk=>by
   rcases List.mem_append.1 hk with hk | hk
   ·exact .inr (.inl hk)
   ·exact .inl hk)
  have e2:Upd (fpN g A l ++ ablk x.A) (fpN g A' (l ++ [x])) w1 w2:=hu2.mono (fun k hk=>by simp [fpN,hk]) (fun k hk=>by
   simp only [fpN,List.mem_cons,List.mem_append,List.flatMap_append,List.flatMap_cons,List.flatMap_nil,List.append_nil] at hk
   rcases hk with rfl | hk | hk | hk
   ·exact .inr (.inl (by simp [fpN]))
   ·exact .inl hk
   ·exact .inr (.inl (by simp only [fpN,List.mem_cons,List.mem_append];exact .inl (.inr (.inr hk))))
   ·exact .inr (.inl (by simp only [List.mem_append];exact .inr hk)))
  exact (e1.trans e2).setCell (.inl (by simp [fpN])) _
def Sent (to:Int) (b:List UInt8) (w:World) (g:Nat) (A:Option Addr) (l:List Pk) (e:Ending) (w':World):Prop:=
 ∃A' n' c' x,e= .returned (.int .i64 0)∧x.to=to∧x.b=b∧NetS w' g A' n' c' (l ++ [x])∧Upd (fpN g A l) (fpN g A' (l ++ [x])) w w'
theorem netSend_full (w:World) (g:Nat) (A:Option Addr) (n c:Nat) (l:List Pk) (h:NetS w g A n c l) (to:Int) (B:Option Addr) (m d:Nat) (hs:siteB to=true) (hl:4096≤l.length) :
  Calls Tryz.prog 168 #[.pointer (some ⟨g,0,none⟩),.int .i64 to,.slice B m d] w fun e w'=>e= .returned (.int .i64 5)∧w=w':=by
 have hn:=h.len
 have hnl:(4096:Int)≤(n:Int):=by omega
 have q:=h.blk.cell 0
 simp only [List.getElem?_toArray,List.getElem?_cons_zero] at q
 clear hn hl
 go_enter Tryz.func168,Tryz.ntmps168
 repeat' (first|go_values|go_skip|go_guarded|go_step|go_upon|(simp only [];go_at_K))
 ((with_reducible refine (netSite to _).mono ?_);rintro e w1 ⟨rfl,rfl⟩)
 repeat' (first|go_values|go_skip|go_guarded|go_step|go_upon|(simp only [];go_at_K))
 go_ret
 exact ⟨rfl,rfl⟩
theorem netSend (w:World) (g:Nat) (A:Option Addr) (n c:Nat) (l:List Pk) (h:NetS w g A n c l) (to:Int) (B:Option Addr) (m d:Nat) (b:List UInt8) (hB:RdB w B m b) (hb:b.length≤140737488355328) (hs:siteB to=true) (hl:l.length < 4096) :
  Calls Tryz.prog 168 #[.pointer (some ⟨g,0,none⟩),.int .i64 to,.slice B m d] w (Sent to b w g A l):=by
 have hn:=h.len
 have hnl:(n:Int) < 4096:=by omega
 have q:=h.blk.cell 0
 have q':w.drew.cell? ⟨g,0,none⟩=some (.slice A n c):=q
 simp only [List.getElem?_toArray,List.getElem?_cons_zero] at q
 have hBd:RdB w.drew B m b:=Rd.drew hB
 have hd:=h.upd0 (Upd.refl [] w).drew
 clear hn
 go_enter Tryz.func168,Tryz.ntmps168
 repeat' (first|go_values|go_skip|go_guarded|go_step|go_upon|(simp only [];go_at_K))
 ((with_reducible refine (netSite to _).mono ?_);rintro e w1 ⟨rfl,rfl⟩)
 repeat' (first|go_values|go_skip|go_guarded|go_step|go_upon|(simp only [];go_at_K))
 go_region_law (first
  | (go_simp;go_at_call 58;(with_reducible refine (bytesClone _ B m d b hBd hb).mono ?_);rintro e w2 ⟨A2,k2,c2,rfl,ho2,hu2⟩;have q2:=hu2.cell q' (by simp);have h2:=hd.upd0 hu2;have hgl:=h2.blk.lt)
  | (obtain ⟨A3,c3,w3,hrun,hr3,hu3⟩:=(h2.row.alloc (.cells #[.int .i64 to,.slice A2 k2 c2] 315)).push ⟨to,A2,k2,c2,b⟩ w2.heap.size 1 1 (Blk.new _ _ _) (by omega) 272;have hb3:=(h2.blk.alloc (.cells #[.int .i64 to,.slice A2 k2 c2] 315)).upd hu3 (h2.row.ne h2.blk (by decide));obtain ⟨q3,f3⟩:=hb3.c1;refine step_run rfl (.tmp 22) (.tmp 27) 272 rfl (.slice A n c) (.slice (some ⟨w2.heap.size,0,none⟩) 1 1) _ w3 rfl rfl hrun ?_))
 all_goals (repeat' ((fail_if_success (with_reducible refine stop_append rfl ?_));first | go_values | go_skip | go_guarded | go_step | go_upon | (simp only [];go_at_K)))
 all_goals go_ret
 all_goals
  have P:=h.push (x:=⟨to,A2,k2,c2,b⟩) ((Upd.refl [] w).drew.trans hu2) ho2 hr3 (((Upd.refl (ablk A) w2).alloc _).trans hu3) hl
  exact ⟨A3,_,c3,_,rfl,rfl,rfl,P.1,P.2⟩
end Go.Proofs.YtijhlbeipglieaaGreat
namespace Go.Proofs.YtijhlbeipglieaaGreat
open Go.RowKit Agio
theorem PkL.addr {w:World} {A:Option Addr} {n c:Nat} {l:List Pk} (h:PkL w A n c l) (hn:0 < n):∃g,A=some ⟨g,0,none⟩:=by
 rcases h.row with h1 | h1
 ·obtain ⟨g,cap,hv,_⟩:=World.ownsRow.form h1 hn
  injection hv with hA
  exact ⟨g,hA⟩
 ·obtain ⟨g,_,hA,_⟩:=h1.blk
  exact ⟨g,hA⟩
theorem PkL.at_ {w:World} {A:Option Addr} {n c:Nat} {l:List Pk} (h:PkL w A n c l) {i:Nat} (hi:i < l.length):∃ad,A=some ad∧w.cell? (ad.add (i * 2))=some (.int .i64 l[i].to)∧w.cell? ⟨(ad.add (i * 2)).block,(ad.add (i * 2)).off + 1,none⟩=some (.slice l[i].A l[i].n l[i].c):=by
 obtain ⟨ad,e,h0,hj⟩:=h.rdS.at_ Pk.cells_len hi
 exact ⟨ad,e,h0 _ rfl,hj 1 _ (by omega) rfl⟩
theorem PkL.del {w:World} {A:Option Addr} {n c:Nat} {l:List Pk} (h:PkL w A n c l) {i:Nat} (hi:i < l.length) (hl:l.length≤5000) (ty:TypeId) (A2:Option Addr) (hA2:A2=if c=i + 1 then A else A.map (fun x=>x.add ((i + 1) * 2))) (d:Nat) :
  ∃A' c' w',(Builtin.append_ #[272,272] ty #[.slice A i i,.slice A2 (n - (i + 1)) d]).run Tryz.prog w= .ok (.slice A' (n - 1) c') w'∧PkL w' A' (n - 1) c' (l.eraseIdx i)∧Upd (ablk A) (ablk A') w w':=by
 have hn:=h.len
 obtain ⟨g,rfl⟩:=h.addr (by omega)
 have hrd:=h.rd
 obtain ⟨ad,e,hc⟩:=hrd.2 (by omega)
 injection e with e;subst e
 obtain ⟨ii,hii,hz,hsize,hby⟩:=info_parts infoPk
 have hle:=h.le
 have holds:∀j u,((l.take i).flatMap Pk.cells)[j]? =some u→w.cell? ((⟨g,0,none⟩:Addr).add j)=some u:=by
  intro j u hu
  refine hc j u ?_
  have hsp:l.flatMap Pk.cells=(l.take i).flatMap Pk.cells ++ (l.drop i).flatMap Pk.cells:=by rw [←List.flatMap_append,List.take_append_drop]
  rw [hsp,List.getElem?_append_left (by rcases Nat.lt_or_ge j ((l.take i).flatMap Pk.cells).length with h1 | h1;exact h1;rw [List.getElem?_eq_none h1] at hu;cases hu)]
  exact hu
 have hlt:((l.take i).flatMap Pk.cells).length=i * 2:=by rw [flat_len Pk.cells_len,List.length_take];congr 1;omega
 have he:l.eraseIdx i=l.take i ++ l.drop (i + 1):=List.eraseIdx_eq_take_drop_succ l i
 obtain ⟨cur,hcur⟩:=h.block g (by simp [ablk])
 by_cases hm:n - (i + 1)=0
 ·obtain ⟨ad2,hA2'⟩:∃ad2,A2=some ad2:=by rw [hA2];split <;> exact ⟨_,rfl⟩
  subst hA2'
  have hrun:=run_append_room_cells (P:=Tryz.prog) w 272 ty 315 ii Tryz.underlying272 hii g 0 i i ad2 0 d [] (by simp) (by simp) (by simp) (by omega) (by simp) (by simp)
  refine ⟨some ⟨g,0,none⟩,i,w,?_,⟨?_,.inr ⟨by omega,⟨?_,fun _=>⟨_,rfl,?_⟩⟩,g,cur,rfl,hcur⟩⟩,Upd.refl _ _⟩
  ·rw [hm,show n - 1=i by omega]
   rw [Nat.add_zero] at hrun
   exact hrun
  ·rw [List.length_eraseIdx,if_pos hi];omega
  ·rw [he,List.drop_of_length_le (by omega),List.append_nil,hlt];omega
  ·rw [he,List.drop_of_length_le (by omega),List.append_nil];exact holds
 ·have hcne:¬ c=i + 1:=by omega
  rw [if_neg hcne] at hA2
  subst hA2
  have hnews:∀j u,((l.drop (i + 1)).flatMap Pk.cells)[j]? =some u→w.cell? (((⟨g,0,none⟩:Addr).add ((i + 1) * 2)).add j)=some u:=by
   intro j u hu
   rw [add_of_add]
   refine hc _ u ?_
   have hsp:l.flatMap Pk.cells=(l.take (i + 1)).flatMap Pk.cells ++ (l.drop (i + 1)).flatMap Pk.cells:=by rw [←List.flatMap_append,List.take_append_drop]
   have hl1:((l.take (i + 1)).flatMap Pk.cells).length=(i + 1) * 2:=by rw [flat_len Pk.cells_len,List.length_take];congr 1;omega
   rw [hsp,List.getElem?_append_right (by omega),hl1,Nat.add_sub_cancel_left]
   exact hu
  obtain ⟨v',w',hrun,ho,hgr⟩:=run_append_arg_grows (P:=Tryz.prog) w 272 ty 315 ii _ 2 32 Tryz.underlying272 hii hz hsize hby rfl (by decide) ⟨g,0,none⟩ i i _ hlt holds ((⟨g,0,none⟩:Addr).add ((i + 1) * 2)) (n - (i + 1)) d _ (by rw [flat_len Pk.cells_len,List.length_drop,hn]) hnews (by omega) (by unfold maxLen;omega) (by omega)
  obtain ⟨⟨A',c',rfl,ho'⟩,hbase⟩:=Own.of_row ho
  have hnn:i + (n - (i + 1))=n - 1:=by omega
  rw [hnn] at hrun ho' hbase
  refine ⟨A',c',w',hrun,⟨?_,.inl ?_⟩,((Upd.refl _ w).grown hgr (fun k h=>by cases h)).gives (fun k hk=>.inr (hbase A' c' rfl (by omega) k hk))⟩
  ·rw [List.length_eraseIdx,if_pos hi];omega
  ·rw [he,List.flatMap_append];exact ho'
theorem netDouble (w:World) (g:Nat) (A:Option Addr) (n c:Nat) (l:List Pk) (h:NetS w g A n c l) (i:Nat) (hi:i < l.length) (hl:l.length < 4096) (hb:l[i].b.length≤140737488355328) :
  Calls Tryz.prog 178 #[.pointer (some ⟨g,0,none⟩),.int .i64 (i:Int)] w (Sent l[i].to l[i].b w g A l):=by
 have hn:=h.len
 have hnl:(n:Int) < 4096:=by omega
 have hin:(i:Int) < (n:Int):=by omega
 have ht:thereB l.length (i:Int)=true:=by unfold thereB;simp;omega
 have C:=netThere w g A n c l h (i:Int)
 rw [ht] at C
 have q:=h.blk.cell 0
 simp only [List.getElem?_toArray,List.getElem?_cons_zero] at q
 obtain ⟨ad,rfl,p0,p1⟩:=h.row.at_ hi
 have hx:=h.each l[i] (List.getElem_mem hi)
 generalize l[i]=x at *
 have hgl:=h.blk.lt
 clear hn ht hi
 go_enter Tryz.func178,Tryz.ntmps178
 repeat' (first|go_values|go_skip|go_guarded|go_step|go_upon|(simp only [];go_at_K))
 ((with_reducible refine C.mono ?_);rintro e w1 ⟨rfl,rfl⟩)
 repeat' (first|go_values|go_skip|go_guarded|go_step|go_upon|(simp only [];go_at_K))
 have hT:=Blk.new w 315 #[.int .i64 x.to,.slice x.A x.n x.c]
 have U1:Upd [] [] w (w.alloc (.cells #[.int .i64 x.to,.slice x.A x.n x.c] 315)):=(Upd.refl _ _).alloc _
 obtain ⟨W,hW⟩:∃W,w.alloc (.cells #[.int .i64 x.to,.slice x.A x.n x.c] 315)=W:=⟨_,rfl⟩
 rw [hW] at hT U1 ⊢
 clear hW p0 p1 C q
 have hd:=h.upd0 U1.drew
 have hx1:RdB W.drew x.A x.n x.b:=(hx.upd U1.drew (by simp)).rd
 have hTd:Blk W.drew w.heap.size 315 #[.int .i64 x.to,.slice x.A x.n x.c]:=hT
 have q':=hd.blk.cell 0
 simp only [List.getElem?_toArray,List.getElem?_cons_zero] at q'
 obtain ⟨⟨t0,t1⟩,-⟩:=hTd.c2
 have hUd:=U1.drew
 go_region_law (first
  | (go_simp;go_at_call 58;(with_reducible refine (bytesClone _ x.A x.n x.c x.b hx1 hb).mono ?_);rintro e w2 ⟨A2,k2,c2,rfl,ho2,hu2⟩;have q2:=hu2.cell q' (by simp);have s0:=hu2.cell t0 (by simp);have s1:=hu2.cell t1 (by simp);have h2:=hd.upd0 hu2;have hgl2:=h2.blk.lt;have hwl2:=(hTd.upd hu2 (by simp)).lt)
  | (obtain ⟨A3,c3,w3,hrun,hr3,hu3⟩:=(h2.row.alloc (.cells #[.int .i64 x.to,.slice A2 k2 c2] 315)).push ⟨x.to,A2,k2,c2,x.b⟩ w2.heap.size 1 1 (Blk.new _ _ _) (by omega) 272;have hb3:=(h2.blk.alloc (.cells #[.int .i64 x.to,.slice A2 k2 c2] 315)).upd hu3 (h2.row.ne h2.blk (by decide));obtain ⟨q3,f3⟩:=hb3.c1;refine step_run rfl (.tmp 27) (.tmp 34) 272 rfl (.slice (some ad) n c) (.slice (some ⟨w2.heap.size,0,none⟩) 1 1) _ w3 rfl rfl hrun ?_))
 all_goals (repeat' ((fail_if_success (with_reducible refine stop_append rfl ?_));first | go_values | go_skip | go_guarded | go_step | go_upon | (simp only [];go_at_K)))
 all_goals go_ret
 all_goals
  have P:=h.push (x:=⟨x.to,A2,k2,c2,x.b⟩) (hUd.trans hu2) ho2 hr3 (((Upd.refl (ablk (some ad)) w2).alloc _).trans hu3) hl
  exact ⟨A3,_,c3,⟨x.to,A2,k2,c2,x.b⟩,rfl,rfl,rfl,P.1,P.2⟩
end Go.Proofs.YtijhlbeipglieaaGreat
namespace Go.Proofs.YtijhlbeipglieaaGreat
open Go.RowKit Agio
theorem Rel.eraseIdx_mem {α:Type} {l:List α} {i:Nat} {x:α} (h:x∈l.eraseIdx i):x∈l:=(List.eraseIdx_sublist l i).subset h
theorem NetS.pull {w w1 w2:World} {g:Nat} {A A':Option Addr} {n c c':Nat} {l:List Pk} {i:Nat} (h:NetS w g A n c l) (hi:i < l.length) (hu1:Upd [] [] w w1)
  (hr:PkL w2 A' (n - 1) c' (l.eraseIdx i)) (hu2:Upd (ablk A) (ablk A') w1 w2) :
  NetS (w2.setCell ⟨g,0,none⟩ (.slice A' (n - 1) c')) g A' (n - 1) c' (l.eraseIdx i)∧OwnB 5 (w2.setCell ⟨g,0,none⟩ (.slice A' (n - 1) c')) l[i].A l[i].n l[i].c l[i].b
   ∧(∀k∈ablk l[i].A,k∉fpN g A' (l.eraseIdx i))∧Upd (fpN g A l) (fpN g A' (l.eraseIdx i)) w (w2.setCell ⟨g,0,none⟩ (.slice A' (n - 1) c')):=by
 have h1:=h.upd0 hu1
 have hgA:g∉ablk A:=h1.row.ne h1.blk (by decide)
 have hb2:=h1.blk.upd hu2 hgA
 have hgA':g∉ablk A':=hr.ne hb2 (by decide)
 have hset:Upd [g] [g] w2 (w2.setCell ⟨g,0,none⟩ (.slice A' (n - 1) c')):=(Upd.refl _ _).setCell (.inl (by simp)) _
 have hold:∀y∈l,OwnB 5 w2 y.A y.n y.c y.b:=fun y hy=>(h1.each y hy).upd hu2 (h1.row.apart (h1.each y hy).own (by decide))
 have hnew:∀y∈l,OwnB 5 (w2.setCell ⟨g,0,none⟩ (.slice A' (n - 1) c')) y.A y.n y.c y.b:=fun y hy=>
  (hold y hy).upd hset (fun k hk=>by simp;rintro rfl;exact (hold y hy).own.ne hb2 (by decide) hk)
 have hmem:∀y,y∈l.eraseIdx i→y∈l:=fun y hy=>Rel.eraseIdx_mem hy
 have hr':PkL (w2.setCell ⟨g,0,none⟩ (.slice A' (n - 1) c')) A' (n - 1) c' (l.eraseIdx i):=hr.upd hset (fun k hk=>by simp;rintro rfl;exact hgA' hk)
 have hb':Blk (w2.setCell ⟨g,0,none⟩ (.slice A' (n - 1) c')) g 274 #[.slice A' (n - 1) c']:=by simpa using hb2.set_ 0 (.slice A' (n - 1) c')
 have hx:=hnew l[i] (List.getElem_mem hi)
 refine ⟨⟨hb',hr',fun y hy=>hnew y (hmem y hy),h.far.sublist (List.eraseIdx_sublist l i),?_⟩,hx,?_,?_⟩
 ·have:=h.le;rw [List.length_eraseIdx,if_pos hi];omega
 ·intro k hk hm
  simp only [fpN,List.mem_cons,List.mem_append,List.mem_flatMap] at hm
  rcases hm with rfl | hm | ⟨y,hy,hm⟩
  ·exact hx.own.ne hb' (by decide) hk
  ·exact hr'.apart hx.own (by decide) k hk hm
  ·obtain ⟨j,hj,rfl⟩:=List.mem_iff_getElem.1 hy
   rw [List.length_eraseIdx,if_pos hi] at hj
   rw [List.getElem_eraseIdx] at hm
   split at hm
   ·have:=List.pairwise_iff_getElem.1 h.far j i (by omega) hi (by omega)
    exact this k hm hk
   ·have:=List.pairwise_iff_getElem.1 h.far i (j + 1) hi (by omega) (by omega)
    exact this k hk hm
 ·have e1:Upd (fpN g A l) (fpN g A l) w w1:=hu1.mono (fun k hk=>by cases hk) (fun k hk=>.inr (.inl hk))
  have e2:Upd (fpN g A l) (fpN g A' (l.eraseIdx i)) w1 w2:=hu2.mono (fun k hk=>by simp [fpN,hk]) (fun k hk=>by
   simp only [fpN,List.mem_cons,List.mem_append,List.mem_flatMap] at hk
   rcases hk with rfl | hk | ⟨y,hy,hk⟩
   ·exact .inr (.inl (by simp [fpN]))
   ·exact .inl hk
   ·exact .inr (.inl (by simp only [fpN,List.mem_cons,List.mem_append,List.mem_flatMap];exact .inr (.inr ⟨y,hmem y hy,hk⟩))))
  exact (e1.trans e2).setCell (.inl (by simp [fpN])) _
def Took13 (i:Nat) (x:Pk) (w:World) (g:Nat) (A:Option Addr) (l:List Pk) (e:Ending) (w':World):Prop:=
 ∃A' n' c',e= .returned (.tuple #[.int .i64 x.to,.slice x.A x.n x.c,.bool true])∧NetS w' g A' n' c' (l.eraseIdx i)∧OwnB 5 w' x.A x.n x.c x.b∧(∀k∈ablk x.A,k∉fpN g A' (l.eraseIdx i))∧Upd (fpN g A l) (fpN g A' (l.eraseIdx i)) w w'
theorem netTake (w:World) (g:Nat) (A:Option Addr) (n c:Nat) (l:List Pk) (h:NetS w g A n c l) (i:Nat) (hi:i < l.length) (x:Pk) (hx:l[i]=x) :
  Calls Tryz.prog 169 #[.pointer (some ⟨g,0,none⟩),.int .i64 (i:Int)] w (Took13 i x w g A l):=by
 have hn:=h.len
 have hl5:l.length≤5000:=Nat.le_trans h.le (by decide)
 have hin:(i:Int) < (n:Int):=by omega
 have ht:thereB l.length (i:Int)=true:=by unfold thereB;simp;omega
 have C:=netThere w g A n c l h (i:Int)
 rw [ht] at C
 have q:=h.blk.cell 0
 simp only [List.getElem?_toArray,List.getElem?_cons_zero] at q
 obtain ⟨ad,rfl,p0,p1⟩:=h.row.at_ hi
 rw [hx] at p0 p1
 have hgl:=h.blk.lt
 have hnc:(n:Int)≤(c:Int):=by have:=h.row.le;omega
 have hic:(i:Int)≤(c:Int):=by omega
 have hi1:(i:Int) + 1≤(n:Int):=by omega
 have hw1:IntKind.i64.wrap ((i:Int) + 1)=(i:Int) + 1:=by rw [IntKind.wrap_i64];omega
 have hi0:(0:Int)≤(i:Int) + 1:=by omega
 clear ht hn
 go_enter Tryz.func169,Tryz.ntmps169
 repeat' (first|go_values|go_skip|go_guarded|go_step|go_upon|(simp only [];go_at_K))
 ((with_reducible refine C.mono ?_);rintro e w1 ⟨rfl,rfl⟩)
 repeat' (first|go_values|go_skip|go_guarded|go_step|go_upon|(simp only [];go_at_K))
 have hT:=Blk.new w 315 #[.int .i64 x.to,.slice x.A x.n x.c]
 have U1:Upd [] [] w (w.alloc (.cells #[.int .i64 x.to,.slice x.A x.n x.c] 315)):=(Upd.refl _ _).alloc _
 obtain ⟨W,hW⟩:∃W,w.alloc (.cells #[.int .i64 x.to,.slice x.A x.n x.c] 315)=W:=⟨_,rfl⟩
 rw [hW] at hT U1 ⊢
 clear hW p0 p1 C q
 have hd:=h.upd0 U1.drew
 have hTd:Blk W.drew w.heap.size 315 #[.int .i64 x.to,.slice x.A x.n x.c]:=hT
 have q':=hd.blk.cell 0
 simp only [List.getElem?_toArray,List.getElem?_cons_zero] at q'
 obtain ⟨A2,hA2⟩:∃A2,(if c=i + 1 then some ad else some (ad.add ((i + 1) * 2)))=A2:=⟨_,rfl⟩
 obtain ⟨A3,c3,w3,hrun,hr3,hu3⟩:=hd.row.del hi hl5 272 A2 (by rw [←hA2];rfl) (c - (i + 1))
 have hb3:=hd.blk.upd hu3 (hd.row.ne hd.blk (by decide))
 obtain ⟨q3,f3⟩:=hb3.c1
 have hT3:=hTd.upd hu3 (fun hm=>Nat.lt_irrefl _ (h.row.lt _ hm))
 obtain ⟨⟨t0,t1⟩,-⟩:=hT3.c2
 go_region_law (refine step_run rfl (.tmp 26) (.tmp 33) 272 rfl (.slice (some ad) i i) (.slice A2 (n - (i + 1)) (c - (i + 1))) _ w3 rfl rfl hrun ?_)
 all_goals
  have P:=h.pull hi U1.drew hr3 hu3
  have hset:Upd [g] [g] w3 (w3.setCell ⟨g,0,none⟩ (.slice A3 (n - 1) c3)):=(Upd.refl _ _).setCell (.inl (by simp)) _
  have T4:=hT3.upd hset (by simp;omega)
  clear hset
  rw [hx] at P
  obtain ⟨W4,hW4⟩:∃W4,w3.setCell ⟨g,0,none⟩ (.slice A3 (n - 1) c3)=W4:=⟨_,rfl⟩
  rw [hW4] at P T4 ⊢
  clear hW4 q3 f3 t0 t1 q' hrun hr3 hu3 hb3 hd hT hTd hT3 U1
  obtain ⟨⟨t0,t1⟩,-⟩:=T4.c2
 all_goals (repeat' ((fail_if_success (with_reducible refine stop_append rfl ?_));first | go_values | go_skip | go_guarded | go_step | go_upon | (simp only [];go_at_K)))
 all_goals go_quiet (fail)
 all_goals (repeat' ((fail_if_success (with_reducible refine stop_append rfl ?_));first | go_values | go_skip | go_guarded | go_step | go_upon | (simp only [];go_at_K)))
 all_goals go_ret3
 all_goals exact ⟨A3,_,c3,rfl,P.1.upd0 ((Upd.refl [] W4).drewN _),P.2.1.upd ((Upd.refl [] W4).drewN _) (by simp),P.2.2.1,P.2.2.2.drewN _⟩
end Go.Proofs.YtijhlbeipglieaaGreat
namespace Go.Proofs.YtijhlbeipglieaaGreat
open Go.RowKit Agio
def NDecF (z:Nat) (b:List UInt8) (w:World) (e:Ending):Prop:=
 (¬ Whole b∧e= .returned (.tuple #[.agg #[.int .i64 0,.int .i64 0,.int .i64 0,.int .i64 0,.int .i64 0,.int .i64 0,.int .i64 0,.int .i64 0,.bool false,.slice none 0 0],.iface 319 (.agg #[.int .i64 4])]))∨
 (Whole b∧decI (b.drop 8)=none∧e= .returned (.tuple #[.agg #[.int .i64 0,.int .i64 0,.int .i64 0,.int .i64 0,.int .i64 0,.int .i64 0,.int .i64 0,.int .i64 0,.bool false,.slice none 0 0],.iface 319 (.agg #[.int .i64 2])]))∨
 ∃x:Mv,Whole b∧decI (b.drop 8)=some x.ms∧OwnB 5 w x.A x.n x.c x.b∧(∀k∈ablk x.A,z≤k)∧e= .returned (.tuple #[.agg #[.int .i64 x.k,.int .i64 x.f,.int .i64 x.t,.int .i64 x.s,.int .i64 x.br,.int .i64 x.bs,.int .i64 x.hr,.int .i64 x.hs,.bool x.so,.slice x.A x.n x.c],.nilIface])
theorem netDecodeF (w:World) (B:Option Addr) (m d:Nat) (b:List UInt8) (hB:RdB w B m b) (hmd:m≤d) (hd:d≤maxLen) (hb:b.length≤140737488355328) :
  Calls Tryz.prog 170 #[.slice B m d] w fun e w'=>NDecF w.heap.size b w' e∧Upd [] [] w w':=by
 have hR0:=Blk.new w 32 #[.int .i64 0,.int .i64 0,.int .i64 0,.int .i64 0,.int .i64 0,.int .i64 0,.int .i64 0,.int .i64 0,.bool false,.slice none 0 0]
 have C:=frameTake _ B m d b (hB.alloc (.cells #[.int .i64 0,.int .i64 0,.int .i64 0,.int .i64 0,.int .i64 0,.int .i64 0,.int .i64 0,.int .i64 0,.bool false,.slice none 0 0] 32)) hmd hd hb
 go_enter Tryz.func170,Tryz.ntmps170
 repeat' (first|go_values|go_skip|go_guarded|go_step|go_upon|(simp only [];go_at_K))
 ((with_reducible refine C.mono ?_);rintro e w1 ⟨hT,hu1⟩)
 have hR1:=hR0.upd hu1 (by simp)
 have U1:Upd [] [] w w1:=((Upd.refl [] w).alloc _).trans hu1
 have hl1:=hR1.lt
 clear C hR0 hu1
 rcases hT with ⟨bad,hf,hz,rfl⟩ | ⟨z,A1,n1,c1,A2,n2,c2,hf,ho1,ho2,rfl⟩
 ·have HN:=Lib.hid (not_whole' (b:=b) (by rw [hf];exact hz))
  have hz':((bad:Int) != 0)=true:=by simp;omega
  clear hf hz
  obtain ⟨⟨q0,q1,q2,q3,q4,q5,q6,q7,q8,q9⟩,f0,f1,f2,f3,f4,f5,f6,f7,f8,f9⟩:=hR1.c10
  repeat' (first|go_values|go_skip|go_guarded|go_step|go_upon|(simp only [];go_at_K))
  have N:=ten [.int .i64 0,.int .i64 0,.int .i64 0,.int .i64 0,.int .i64 0,.int .i64 0,.int .i64 0,.int .i64 0,.bool false,.slice none 0 0] hR1 rfl U1 (by omega)
  simp only [setRow] at N
  generalize World.setCell _ ⟨w.heap.size,9,none⟩ _=W5 at N ⊢
  obtain ⟨hN,hU5⟩:=N
  clear q0 q1 q2 q3 q4 q5 q6 q7 q8 q9
  obtain ⟨⟨q0,q1,q2,q3,q4,q5,q6,q7,q8,q9⟩,-⟩:=hN.c10
  exact bodyPost_ret (v:=.tuple #[.agg #[.int .i64 0,.int .i64 0,.int .i64 0,.int .i64 0,.int .i64 0,.int .i64 0,.int .i64 0,.int .i64 0,.bool false,.slice none 0 0],.iface 319 (.agg #[.int .i64 4])]) (by simp [results,Tryz.results170,go_sem,q0,q1,q2,q3,q4,q5,q6,q7,q8,q9]) rfl ⟨.inl ⟨HN.out,rfl⟩,hU5⟩
 ·have hn2:=ho2.len
  by_cases h2:0 < n2
  ·have HN:=Lib.hid (not_whole (b:=b) hf (by intro h;rw [h] at hn2;simp at hn2;omega))
   clear hf hn2
   obtain ⟨⟨q0,q1,q2,q3,q4,q5,q6,q7,q8,q9⟩,f0,f1,f2,f3,f4,f5,f6,f7,f8,f9⟩:=hR1.c10
   have h2':(0:Int) < (n2:Int):=by omega
   repeat' (first|go_values|go_skip|go_guarded|go_step|go_upon|(simp only [];go_at_K))
   have N:=ten [.int .i64 0,.int .i64 0,.int .i64 0,.int .i64 0,.int .i64 0,.int .i64 0,.int .i64 0,.int .i64 0,.bool false,.slice none 0 0] hR1 rfl U1 (by omega)
   simp only [setRow] at N
   generalize World.setCell _ ⟨w.heap.size,9,none⟩ _=W5 at N ⊢
   obtain ⟨hN,hU5⟩:=N
   clear q0 q1 q2 q3 q4 q5 q6 q7 q8 q9
   obtain ⟨⟨q0,q1,q2,q3,q4,q5,q6,q7,q8,q9⟩,-⟩:=hN.c10
   exact bodyPost_ret (v:=.tuple #[.agg #[.int .i64 0,.int .i64 0,.int .i64 0,.int .i64 0,.int .i64 0,.int .i64 0,.int .i64 0,.int .i64 0,.bool false,.slice none 0 0],.iface 319 (.agg #[.int .i64 4])]) (by simp [results,Tryz.results170,go_sem,q0,q1,q2,q3,q4,q5,q6,q7,q8,q9]) rfl ⟨.inl ⟨HN.out,rfl⟩,hU5⟩
  ·obtain rfl:n2=0:=by omega
   have hfk:=fst_ok hf
   have hW:Whole b:=by
    have h3:b.length=8 + z:=by have:=hfk.2.1;have h4:=hn2;rw [List.length_drop] at h4;omega
    exact ⟨by rw [hf,h3];simp,by omega⟩
   have hin:(b.drop 8).take z=b.drop 8:=by
    rw [List.take_of_length_le]
    have:=hn2;rw [List.length_drop] at this ⊢;omega
   rw [hin] at ho1
   have HW:Hid (∀(W:World) (x:Mv),decI (b.drop 8)=some x.ms→OwnB 5 W x.A x.n x.c x.b→(∀k∈ablk x.A,w.heap.size≤k)→NDecF w.heap.size b W (.returned (.tuple #[.agg #[.int .i64 x.k,.int .i64 x.f,.int .i64 x.t,.int .i64 x.s,.int .i64 x.br,.int .i64 x.bs,.int .i64 x.hr,.int .i64 x.hs,.bool x.so,.slice x.A x.n x.c],.nilIface]))):=fun W x h1 h2 h3=>.inr (.inr ⟨x,hW,h1,h2,h3,rfl⟩)
   have hil:(b.drop 8).length≤140737488355328:=by simp;omega
   have HNO:Hid (decI (b.drop 8)=none→∀W,NDecF w.heap.size b W (.returned (.tuple #[.agg #[.int .i64 0,.int .i64 0,.int .i64 0,.int .i64 0,.int .i64 0,.int .i64 0,.int .i64 0,.int .i64 0,.bool false,.slice none 0 0],.iface 319 (.agg #[.int .i64 2])]))):=fun h W=>.inr (.inl ⟨hW,h,rfl⟩)
   clear hf hfk hin hn2 h2 ho2 hW
   generalize b.drop 8=bi at *
   repeat' (first|go_values|go_skip|go_guarded|go_step|go_upon|(simp only [];go_at_K))
   ((with_reducible refine (wireFrom w1 A1 n1 c1 bi ho1.rd hil).mono ?_);rintro e w2 ⟨g,A3,k3,c3,rfl,hr2,hu2⟩)
   have hR2:=hR1.upd hu2 (by simp)
   have U2:Upd [] [g] w w2:=(U1.trans hu2).gives (by intro j hj;simp at hj;subst hj;exact .inr (by have:=hu2.fresh j (by simp);simp at this;omega))
   have hgw:w.heap.size < g:=by have:=hu2.fresh g (by simp);simp at this;omega
   clear hR1 U1 hu2 ho1
   repeat' (first|go_values|go_skip|go_guarded|go_step|go_upon|(simp only [];go_at_K))
   have hH3:Blk (((w2.alloc (.cells #[.pointer (some ⟨g,0,none⟩)] 320)).alloc (.cells #[.int .i64 0,.int .i64 0,.int .i64 0,.int .i64 0,.int .i64 0,.int .i64 0,.int .i64 0,.int .i64 0,.bool false,.slice none 0 0] 32)).alloc (.cells #[.int .i64 0] 3)) w2.heap.size 320 #[.pointer (some ⟨g,0,none⟩)]:=((Blk.new _ _ _).alloc _).alloc _
   have hM3:=(Blk.new (w2.alloc (.cells #[.pointer (some ⟨g,0,none⟩)] 320)) 32 (mC []).toArray).alloc (.cells #[.int .i64 0] 3)
   have hS3:=Blk.new ((w2.alloc (.cells #[.pointer (some ⟨g,0,none⟩)] 320)).alloc (.cells (mC []).toArray 32)) 3 #[.int .i64 0]
   simp only [World.size_alloc] at hM3 hS3
   have hR3:=((hR2.alloc (.cells #[.pointer (some ⟨g,0,none⟩)] 320)).alloc (.cells (mC []).toArray 32)).alloc (.cells #[.int .i64 0] 3)
   have hr3:Rr (((w2.alloc (.cells #[.pointer (some ⟨g,0,none⟩)] 320)).alloc (.cells (mC []).toArray 32)).alloc (.cells #[.int .i64 0] 3)) g A3 k3 c3 bi 0:=⟨((hr2.blk.alloc _).alloc _).alloc _,((hr2.own.alloc _).alloc _).alloc _,hr2.le⟩
   have U3:Upd [] [g,w2.heap.size + 1,w2.heap.size + 1 + 1] w (((w2.alloc (.cells #[.pointer (some ⟨g,0,none⟩)] 320)).alloc (.cells (mC []).toArray 32)).alloc (.cells #[.int .i64 0] 3)):=(((U2.alloc _).alloc _).alloc _).gives (by have:=U2.size;intro j hj;simp at hj;rcases hj with rfl | rfl | rfl <;> right <;> omega)
   have hsz:=U2.size
   have hgl:=hr2.blk.lt
   have hwl:=hR2.lt
   have T:=netThroughD _ (w2.heap.size + 1) (w2.heap.size + 1 + 1) w2.heap.size g A3 k3 c3 bi hr3 hH3 hM3 hS3 hil
   clear hr2 hR2 U2 hH3 hM3 hS3 hr3
   refine T.mono ?_
   rintro e w4 ⟨hT,hu4⟩
   have hR4:=hR3.upd hu4 (by simp;omega)
   have U4:=U3.trans hu4
   clear T hR3 U3 hu4
   rcases hT with ⟨hno,rfl⟩ | ⟨l,a,hn,hl,rfl,hr4,hM4,hS4,hH4⟩
   ·have HD:=Lib.hid (HNO.out (decI_none (deci_none (body_nums hno))))
    have U4:=U4.gives (b':=[]) (by simp)
    clear hno
    obtain ⟨⟨q0,q1,q2,q3,q4,q5,q6,q7,q8,q9⟩,f0,f1,f2,f3,f4,f5,f6,f7,f8,f9⟩:=hR4.c10
    repeat' (first|go_values|go_skip|go_guarded|go_step|go_upon|(simp only [];go_at_K))
    have N:=ten [.int .i64 0,.int .i64 0,.int .i64 0,.int .i64 0,.int .i64 0,.int .i64 0,.int .i64 0,.int .i64 0,.bool false,.slice none 0 0] hR4 rfl U4 (by omega)
    simp only [setRow] at N
    generalize World.setCell _ ⟨w.heap.size,9,none⟩ _=W5 at N ⊢
    obtain ⟨hN,hU5⟩:=N
    clear q0 q1 q2 q3 q4 q5 q6 q7 q8 q9
    obtain ⟨⟨q0,q1,q2,q3,q4,q5,q6,q7,q8,q9⟩,-⟩:=hN.c10
    exact bodyPost_ret (v:=.tuple #[.agg #[.int .i64 0,.int .i64 0,.int .i64 0,.int .i64 0,.int .i64 0,.int .i64 0,.int .i64 0,.int .i64 0,.bool false,.slice none 0 0],.iface 319 (.agg #[.int .i64 2])]) (by simp [results,Tryz.results170,go_sem,q0,q1,q2,q3,q4,q5,q6,q7,q8,q9]) rfl ⟨HD.out W5,hU5⟩
   ·obtain ⟨n0,n1,n2,n3,n4,n5,n6,n7,n8,rfl⟩:=nine_of hl
    clear hl
    have hS4:Blk w4 (w2.heap.size + 1 + 1) 3 #[.int .i64 (n8:Int)]:=hS4
    have hM4:Blk w4 (w2.heap.size + 1) 32 #[.int .i64 (n0:Int),.int .i64 (n1:Int),.int .i64 (n2:Int),.int .i64 (n3:Int),.int .i64 (n4:Int),.int .i64 (n5:Int),.int .i64 (n6:Int),.int .i64 (n7:Int),.bool false,.slice none 0 0]:=hM4
    have s0:=hS4.cell 0
    simp only [List.getElem?_toArray,List.getElem?_cons_zero] at s0
    by_cases h8:1 < n8
    ·have HD:=Lib.hid (HNO.out (decI_big hn h8))
     have h8':(1:Int) < (n8:Int):=by omega
     have U4:=U4.gives (b':=[]) (by simp)
     clear hn hr4 hM4 hH4
     obtain ⟨⟨q0,q1,q2,q3,q4,q5,q6,q7,q8,q9⟩,f0,f1,f2,f3,f4,f5,f6,f7,f8,f9⟩:=hR4.c10
     repeat' (first|go_values|go_skip|go_guarded|go_step|go_upon|(simp only [];go_at_K))
     have N:=ten [.int .i64 0,.int .i64 0,.int .i64 0,.int .i64 0,.int .i64 0,.int .i64 0,.int .i64 0,.int .i64 0,.bool false,.slice none 0 0] hR4 rfl U4 (by omega)
     simp only [setRow] at N
     generalize World.setCell _ ⟨w.heap.size,9,none⟩ _=W5 at N ⊢
     obtain ⟨hN,hU5⟩:=N
     clear q0 q1 q2 q3 q4 q5 q6 q7 q8 q9
     obtain ⟨⟨q0,q1,q2,q3,q4,q5,q6,q7,q8,q9⟩,-⟩:=hN.c10
     exact bodyPost_ret (v:=.tuple #[.agg #[.int .i64 0,.int .i64 0,.int .i64 0,.int .i64 0,.int .i64 0,.int .i64 0,.int .i64 0,.int .i64 0,.bool false,.slice none 0 0],.iface 319 (.agg #[.int .i64 2])]) (by simp [results,Tryz.results170,go_sem,q0,q1,q2,q3,q4,q5,q6,q7,q8,q9]) rfl ⟨HD.out W5,hU5⟩
    ·have h8':(n8:Int)≤1:=by omega
     have hh0:=hH4.cell 0
     simp only [List.getElem?_toArray,List.getElem?_cons_zero] at hh0
     have C:=readerBytes w4 g A3 k3 c3 bi a 2048 (by unfold I64;omega) hr4 hil
     obtain ⟨v,sz,bad,hu⟩:∃v sz bad,tk 2048 (bi.drop a)=(v,sz,bad):=⟨_,_,_,rfl⟩
     have HT:=Lib.hid (body_tk hn hu)
     rw [hu] at C
     clear hn hu hr4
     by_cases hz:bad=0
     ·subst hz
      simp only [flt_zero] at C
      repeat' (first|go_values|go_skip|go_guarded|go_step|go_upon|(simp only [];go_at_K))
      ((with_reducible refine C.mono ?_);rintro e w5 ⟨A5,k5,c5,rfl,ho5,hr5,hu5⟩)
      have hR5:=hR4.upd hu5 (by simp;omega)
      have hM5:=hM4.upd hu5 (by simp;omega)
      have hS5:=hS4.upd hu5 (by simp;omega)
      have hH5:=hH4.upd hu5 (by simp;omega)
      have U5:Upd [] [w2.heap.size + 1] w w5:=(U4.trans (hu5.mono (a':=[g,w2.heap.size + 1,w2.heap.size + 1 + 1]) (b':=[w2.heap.size + 1]) (by simp) (by intro j hj;simp at hj;subst hj;exact .inr (.inl (by simp)))))
      have hz5:=Lib.hid (show ∀k∈ablk A5,w.heap.size≤k from fun k hk=>by have h1:=hu5.fresh k (by simp [hk]);have h2:=U4.size;simp at h1;omega)
      clear C hR4 hM4 hS4 hH4 U4 hu5 s0 hh0
      have s0:=hS5.cell 0
      have hh0:=hH5.cell 0
      simp only [List.getElem?_toArray,List.getElem?_cons_zero] at s0 hh0
      have D:=readerEnd w5 g A3 k3 c3 bi (a + sz) hr5 hil
      have hle:a + sz≤bi.length:=hr5.le
      by_cases he:a + sz < bi.length
      ·rw [if_pos he,flt_pos (by decide)] at D
       have HD:=Lib.hid (HNO.out (decI_none (deci_none (b:=bi) (by rw [HT.out,if_neg (by omega)]))))
       have U5:=U5.gives (b':=[]) (by simp)
       clear HT he hle hM5 hr5
       repeat' (first|go_values|go_skip|go_guarded|go_step|go_upon|(simp only [];go_at_K))
       ((with_reducible refine D.mono ?_);rintro e w6 ⟨rfl,nq,rfl⟩)
       have hR6:=hR5.drewN nq
       have U6:=U5.drewN nq
       clear D hR5 U5 s0 hh0 hS5 hH5
       obtain ⟨⟨q0,q1,q2,q3,q4,q5,q6,q7,q8,q9⟩,f0,f1,f2,f3,f4,f5,f6,f7,f8,f9⟩:=hR6.c10
       repeat' (first|go_values|go_skip|go_guarded|go_step|go_upon|(simp only [];go_at_K))
       have N:=ten [.int .i64 0,.int .i64 0,.int .i64 0,.int .i64 0,.int .i64 0,.int .i64 0,.int .i64 0,.int .i64 0,.bool false,.slice none 0 0] hR6 rfl U6 (by omega)
       simp only [setRow] at N
       generalize World.setCell _ ⟨w.heap.size,9,none⟩ _=W5 at N ⊢
       obtain ⟨hN,hU5⟩:=N
       clear q0 q1 q2 q3 q4 q5 q6 q7 q8 q9
       obtain ⟨⟨q0,q1,q2,q3,q4,q5,q6,q7,q8,q9⟩,-⟩:=hN.c10
       exact bodyPost_ret (v:=.tuple #[.agg #[.int .i64 0,.int .i64 0,.int .i64 0,.int .i64 0,.int .i64 0,.int .i64 0,.int .i64 0,.int .i64 0,.bool false,.slice none 0 0],.iface 319 (.agg #[.int .i64 2])]) (by simp [results,Tryz.results170,go_sem,q0,q1,q2,q3,q4,q5,q6,q7,q8,q9]) rfl ⟨HD.out W5,hU5⟩
      ·rw [if_neg he,flt_zero] at D
       have hbd:body bi ms9=some ([n0,n1,n2,n3,n4,n5,n6,n7,n8],v):=by rw [HT.out,if_pos ⟨rfl,by omega⟩]
       clear HT he hle
       repeat' (first|go_values|go_skip|go_guarded|go_step|go_upon|(simp only [];go_at_K))
       ((with_reducible refine D.mono ?_);rintro e w6 ⟨rfl,nq,rfl⟩)
       obtain ⟨so,hso⟩:∃so:Bool,((n8:Int) == 1)=so:=⟨_,rfl⟩
       have hso':so=decide (n8=1):=by rw [←hso,Bool.eq_iff_iff];simp;omega
       obtain ⟨x,hx⟩:∃x:Mv,x=⟨n0,n1,n2,n3,n4,n5,n6,n7,so,A5,k5,c5,v⟩:=⟨_,rfl⟩
       have hxm:x.ms=Ms.of n0 n1 n2 n3 n4 n5 n6 n7 n8 v:=by rw [hx];unfold Mv.ms Ms.of;rw [hso']
       obtain ⟨hby,huniq⟩:=deci_body hbd
       have hby:=hby (by omega)
       rw [←hxm] at hby huniq
       have hno:¬ x.ms.May→decI bi=none:=fun h=>decI_none fun m hm=>h (by rw [←(huniq m hm).2];exact hm.1)
       have hyes:x.ms.May→decI bi=some x.ms:=fun h=>decI_some ⟨h,hby⟩
       have HNO2:=Lib.hid hno
       have HYES:=Lib.hid hyes
       have HNO3:=HNO
       clear hno hyes huniq hby hbd hxm hso' h8' h8 HNO
       have hxa:(Value.agg #[.int .i64 (n0:Int),.int .i64 (n1:Int),.int .i64 (n2:Int),.int .i64 (n3:Int),.int .i64 (n4:Int),.int .i64 (n5:Int),.int .i64 (n6:Int),.int .i64 (n7:Int),.bool so,.slice A5 k5 c5])=x.val:=by rw [hx];rfl
       have hxs:(#[.int .i64 (n0:Int),.int .i64 (n1:Int),.int .i64 (n2:Int),.int .i64 (n3:Int),.int .i64 (n4:Int),.int .i64 (n5:Int),.int .i64 (n6:Int),.int .i64 (n7:Int),.bool so,.slice A5 k5 c5]:Array Value)=#[.int .i64 x.k,.int .i64 x.f,.int .i64 x.t,.int .i64 x.s,.int .i64 x.br,.int .i64 x.bs,.int .i64 x.hr,.int .i64 x.hs,.bool x.so,.slice x.A x.n x.c]:=by rw [hx]
       have hox:OwnB 5 w5 x.A x.n x.c x.b:=by rw [hx];exact ho5
       have hzx:=Lib.hid (show ∀k∈ablk x.A,w.heap.size≤k by rw [hx];exact hz5.out)
       have HXA:=Lib.hid hxa
       clear hx hxa ho5 D s0 hh0
       have hM6:=hM5.drewN nq
       have hS6:=hS5.drewN nq
       obtain ⟨⟨m0,m1,m2,m3,m4,m5,m6,m7,m8,m9⟩,-,-,-,-,-,-,-,-,g8,g9⟩:=hM6.c10
       have s0:=hS6.cell 0
       simp only [List.getElem?_toArray,List.getElem?_cons_zero] at s0
       have hmR:w2.heap.size + 1≠w.heap.size:=by omega
       repeat' (first|go_values|go_skip|go_guarded|go_step|go_upon|(simp only [];go_at_K))
       clear m0 m1 m2 m3 m4 m5 m6 m7 m8 m9 g8 g9 s0
       have hM7:=(hM6.set_ 8 (.bool so)).set_ 9 (.slice A5 k5 c5)
       have hR7:=((hR5.drewN nq).far (p:=⟨w2.heap.size + 1,8,none⟩) (by simp;omega) (.bool so)).far (p:=⟨w2.heap.size + 1,9,none⟩) (by simp;omega) (.slice A5 k5 c5)
       have U7:=((U5.drewN nq).setCell (p:=⟨w2.heap.size + 1,8,none⟩) (.inr (by simp;omega)) (.bool so)).setCell (p:=⟨w2.heap.size + 1,9,none⟩) (.inr (by simp;omega)) (.slice A5 k5 c5)
       have hne:∀j∈ablk x.A,j∉[w2.heap.size + 1]:=by intro j hj;simp;rintro rfl;exact hox.own.ne hM5 (by decide) hj
       have ho7:=OwnB.upd (w:=w5.drewN nq) ⟨hox.len,hox.own.drewN nq⟩ (((Upd.refl [w2.heap.size + 1] (w5.drewN nq)).setCell (p:=⟨w2.heap.size + 1,8,none⟩) (.inl (by simp)) (.bool so)).setCell (p:=⟨w2.heap.size + 1,9,none⟩) (.inl (by simp)) (.slice A5 k5 c5)) hne
       have hM7:Blk (((w5.drewN nq).setCell ⟨w2.heap.size + 1,8,none⟩ (.bool so)).setCell ⟨w2.heap.size + 1,9,none⟩ (.slice A5 k5 c5)) (w2.heap.size + 1) 32 #[.int .i64 x.k,.int .i64 x.f,.int .i64 x.t,.int .i64 x.s,.int .i64 x.br,.int .i64 x.bs,.int .i64 x.hr,.int .i64 x.hs,.bool x.so,.slice x.A x.n x.c]:=by rw [←hxs];exact hM7
       clear hM6 hM5 hR5 U5 hox hne hS6 hS5 hH5 hr5 hxs
       generalize World.setCell _ ⟨w2.heap.size + 1,9,none⟩ _=W7 at *
       by_cases hmay:x.ms.May
       ·have HYES:=HYES.out hmay
        have HD:=fun W h=>HW.out W x HYES h hzx.out
        have HD:=Lib.hid HD
        have E:=netMay_yes x W7 ho7.rd hmay
        rw [Mv.val_eq] at E
        clear HYES HNO2 HW hmay
        ((with_reducible refine E.mono ?_);rintro e w8 ⟨rfl,hu8⟩)
        have hR8:=hR7.upd hu8 (by simp)
        have hM8:=hM7.upd hu8 (by simp)
        have ho8:=ho7.upd hu8 (by simp)
        have U8:=(U7.gives (b':=[]) (by simp)).trans hu8
        clear hR7 hM7 ho7 U7 hu8 E
        have hne:∀j∈ablk x.A,j∉[w.heap.size]:=by intro j hj;simp;rintro rfl;exact ho8.own.ne hR8 (by decide) hj
        obtain ⟨⟨m0,m1,m2,m3,m4,m5,m6,m7,m8,m9⟩,-⟩:=hM8.c10
        obtain ⟨⟨q0,q1,q2,q3,q4,q5,q6,q7,q8,q9⟩,f0,f1,f2,f3,f4,f5,f6,f7,f8,f9⟩:=hR8.c10
        repeat' (first|go_values|go_skip|go_guarded|go_step|go_upon|(simp only [];go_at_K))
        have N:=ten [.int .i64 x.k,.int .i64 x.f,.int .i64 x.t,.int .i64 x.s,.int .i64 x.br,.int .i64 x.bs,.int .i64 x.hr,.int .i64 x.hs,.bool x.so,.slice x.A x.n x.c] hR8 rfl U8 (by omega)
        have N2:=rowSet [.int .i64 x.k,.int .i64 x.f,.int .i64 x.t,.int .i64 x.s,.int .i64 x.br,.int .i64 x.bs,.int .i64 x.hr,.int .i64 x.hs,.bool x.so,.slice x.A x.n x.c] hR8 rfl (Upd.refl [w.heap.size] w8) (.inl (by simp))
        have ho9:=ho8.upd N2.2 hne
        clear N2
        simp only [setRow] at N ho9
        generalize World.setCell _ ⟨w.heap.size,9,none⟩ _=W5 at N ho9 ⊢
        obtain ⟨hN,hU5⟩:=N
        clear q0 q1 q2 q3 q4 q5 q6 q7 q8 q9
        obtain ⟨⟨q0,q1,q2,q3,q4,q5,q6,q7,q8,q9⟩,-⟩:=hN.c10
        exact bodyPost_ret (v:=.tuple #[.agg #[.int .i64 x.k,.int .i64 x.f,.int .i64 x.t,.int .i64 x.s,.int .i64 x.br,.int .i64 x.bs,.int .i64 x.hr,.int .i64 x.hs,.bool x.so,.slice x.A x.n x.c],.nilIface]) (by simp [results,Tryz.results170,go_sem,q0,q1,q2,q3,q4,q5,q6,q7,q8,q9]) rfl ⟨HD.out W5 ho9,hU5⟩
       ·have HD:=Lib.hid (HNO3.out (HNO2.out hmay))
        have E:=netMay_no x W7 ho7.rd hmay
        rw [Mv.val_eq] at E
        clear HYES HNO2 HW hmay
        ((with_reducible refine E.mono ?_);rintro e w8 ⟨rfl,hu8⟩)
        have hR8:=hR7.upd hu8 (by simp)
        have U8:=(U7.gives (b':=[]) (by simp)).trans hu8
        clear hR7 hM7 ho7 U7 hu8 E
        obtain ⟨⟨q0,q1,q2,q3,q4,q5,q6,q7,q8,q9⟩,f0,f1,f2,f3,f4,f5,f6,f7,f8,f9⟩:=hR8.c10
        repeat' (first|go_values|go_skip|go_guarded|go_step|go_upon|(simp only [];go_at_K))
        have N:=ten [.int .i64 0,.int .i64 0,.int .i64 0,.int .i64 0,.int .i64 0,.int .i64 0,.int .i64 0,.int .i64 0,.bool false,.slice none 0 0] hR8 rfl U8 (by omega)
        simp only [setRow] at N
        generalize World.setCell _ ⟨w.heap.size,9,none⟩ _=W5 at N ⊢
        obtain ⟨hN,hU5⟩:=N
        clear q0 q1 q2 q3 q4 q5 q6 q7 q8 q9
        obtain ⟨⟨q0,q1,q2,q3,q4,q5,q6,q7,q8,q9⟩,-⟩:=hN.c10
        exact bodyPost_ret (v:=.tuple #[.agg #[.int .i64 0,.int .i64 0,.int .i64 0,.int .i64 0,.int .i64 0,.int .i64 0,.int .i64 0,.int .i64 0,.bool false,.slice none 0 0],.iface 319 (.agg #[.int .i64 2])]) (by simp [results,Tryz.results170,go_sem,q0,q1,q2,q3,q4,q5,q6,q7,q8,q9]) rfl ⟨HD.out W5,hU5⟩
     ·have HD:=Lib.hid (HNO.out (decI_none (deci_none (b:=bi) (by rw [HT.out,if_neg (by simp [hz])]))))
      simp only [flt_pos hz] at C
      clear HT
      repeat' (first|go_values|go_skip|go_guarded|go_step|go_upon|(simp only [];go_at_K))
      ((with_reducible refine C.mono ?_);rintro e w5 ⟨A5,k5,c5,rfl,ho5,hr5,hu5⟩)
      have hR5:=hR4.upd hu5 (by simp;omega)
      have U5:=(U4.trans (hu5.mono (a':=[g,w2.heap.size + 1,w2.heap.size + 1 + 1]) (b':=[]) (by simp) (by simp)))
      clear C hR4 hM4 hS4 hH4 U4 hu5 s0 hh0 ho5 hr5
      obtain ⟨⟨q0,q1,q2,q3,q4,q5,q6,q7,q8,q9⟩,f0,f1,f2,f3,f4,f5,f6,f7,f8,f9⟩:=hR5.c10
      repeat' (first|go_values|go_skip|go_guarded|go_step|go_upon|(simp only [];go_at_K))
      have N:=ten [.int .i64 0,.int .i64 0,.int .i64 0,.int .i64 0,.int .i64 0,.int .i64 0,.int .i64 0,.int .i64 0,.bool false,.slice none 0 0] hR5 rfl U5 (by omega)
      simp only [setRow] at N
      generalize World.setCell _ ⟨w.heap.size,9,none⟩ _=W5 at N ⊢
      obtain ⟨hN,hU5⟩:=N
      clear q0 q1 q2 q3 q4 q5 q6 q7 q8 q9
      obtain ⟨⟨q0,q1,q2,q3,q4,q5,q6,q7,q8,q9⟩,-⟩:=hN.c10
      exact bodyPost_ret (v:=.tuple #[.agg #[.int .i64 0,.int .i64 0,.int .i64 0,.int .i64 0,.int .i64 0,.int .i64 0,.int .i64 0,.int .i64 0,.bool false,.slice none 0 0],.iface 319 (.agg #[.int .i64 2])]) (by simp [results,Tryz.results170,go_sem,q0,q1,q2,q3,q4,q5,q6,q7,q8,q9]) rfl ⟨HD.out W5,hU5⟩
theorem nDecF_same {z:Nat} {m:Ms} (hm:m.May) {w:World} {e:Ending} (h:NDecF z m.bytes w e) :
  ∃x:Mv,x.ms=m∧OwnB 5 w x.A x.n x.c x.b∧(∀k∈ablk x.A,z≤k)∧e= .returned (.tuple #[x.val,.nilIface]):=by
 have hW:Whole m.bytes:=whole_put (by have:=hm.ilen;omega)
 have hd:(m.bytes.drop 8)=m.inside:=put_inj (hW.put.symm.trans rfl)
 have hI:decI (m.bytes.drop 8)=some m:=decI_some ⟨hm,hd.symm⟩
 rcases h with ⟨h1,_⟩ | ⟨_,h2,_⟩ | ⟨y,_,h2,ho,hz,he⟩
 ·exact absurd hW h1
 ·rw [hI] at h2;cases h2
 ·rw [hI] at h2
  injection h2 with h2
  exact ⟨y,h2.symm,ho,hz,he⟩
end Go.Proofs.YtijhlbeipglieaaGreat
