/- Merged: BRow, Disk, Disk2, Timer, Timer2, Timer3, Disk3, Timer4. -/
import Derived.Test.YtijhlbeipglieaaGreatPkLearn
set_option linter.all false
set_option maxRecDepth 100000
set_option maxHeartbeats 2000000
namespace Agio
open Go Go.RowKit Go.Maps
theorem own_of_row {e:TypeId} {size base:Nat} {w:World} {v:Value} {n:Nat} {xs:List Value} (h:w.ownsRow base e size v n xs):(∃A c,v= .slice A n c∧Own e size w A n c xs)∧∀A c,v= .slice A n c→0 < n→∀k∈ablk A,base≤k:=by
 rcases h.2 with ⟨hv,hn⟩ | ⟨g,cap,cur,hv,hb,rest⟩
 ·subst hn
  refine ⟨⟨none,0,hv,⟨h.1,.inl ⟨rfl,rfl⟩⟩⟩,fun A c _ h0=>by omega⟩
 ·refine ⟨⟨some ⟨g,0,none⟩,cap,hv,⟨h.1,.inr ⟨g,cap,cur,rfl,Nat.zero_le _,rest⟩⟩⟩,fun A c hv' _ k hk=>?_⟩
  rw [hv] at hv'
  injection hv' with hA
  subst hA
  simp [ablk] at hk
  omega
structure FullB (e:TypeId) (w:World) (A:Option Addr) (n c:Nat) (l:List UInt8):Prop where
 cap:c=n
 rd:RdB w A n l
 blk:∃g cur,A=some ⟨g,0,none⟩∧w.heap[g]? =some (.cells cur e (0,0))
def BRow (e:TypeId) (w:World) (A:Option Addr) (n c:Nat) (l:List UInt8):Prop:=OwnB e w A n c l∨FullB e w A n c l
section
variable {e:TypeId} {w w':World} {A:Option Addr} {n c:Nat} {l:List UInt8}
theorem BRow.nil (e:TypeId) (w:World):BRow e w none 0 0 []:=.inl (OwnB.nil _ _)
theorem BRow.rd (h:BRow e w A n c l):RdB w A n l:=by
 rcases h with h | h
 ·exact h.rd
 ·exact h.rd
theorem BRow.len (h:BRow e w A n c l):n=l.length:=h.rd.len
theorem BRow.le (h:BRow e w A n c l):n≤c:=by
 rcases h with h | h
 ·exact h.own.cap.1
 ·rw [h.cap];exact Nat.le_refl _
theorem BRow.block (h:BRow e w A n c l):∀k∈ablk A,∃cur,w.heap[k]? =some (.cells cur e (0,0)):=by
 rcases h with h1 | h1
 ·intro k hk
  rcases h1.own.2 with ⟨hv,_⟩ | ⟨g,cap,cur,hv,_,hg,_⟩
  ·injection hv with hA;subst hA;simp [ablk] at hk
  ·injection hv with hA;subst hA;simp [ablk] at hk;subst hk;exact ⟨cur,hg⟩
 ·obtain ⟨g,cur,rfl,hg⟩:=h1.blk
  intro k hk;simp [ablk] at hk;subst hk;exact ⟨cur,hg⟩
theorem BRow.upd {a b:List Nat} (h:BRow e w A n c l) (hu:Upd a b w w') (hd:∀k∈ablk A,k∉a):BRow e w' A n c l:=by
 rcases h with h1 | h1
 ·exact .inl (h1.upd hu hd)
 ·obtain ⟨g,cur,hA,hg⟩:=h1.blk
  exact .inr ⟨h1.cap,h1.rd.upd hu hd,g,cur,hA,(hu.block g (Array.getElem?_eq_some_iff.1 hg).1 (hd g (by simp [hA,ablk]))).trans hg⟩
theorem BRow.app {P:Program} (h:BRow e w A n c l) {t:TypeId} (ty:TypeId) (ht:P.underlying t=some (.slice e)) (hi:(P.info? e).map (fun i=>(i.zero,i.size,i.bytes))=some (some (.int .u8 0),1,1))
  {B:Option Addr} {m d:Nat} {r:List UInt8} (hr:RdB w B m r) (hm:0 < r.length) (hb:l.length + r.length≤140737488355328) :
  ∃A' c' w',(Builtin.append_ #[t,t] ty #[.slice A n c,.slice B m d]).run P w= .ok (.slice A' (n + m) c') w'∧OwnB e w' A' (n + m) c' (l ++ r)∧Upd (ablk A) (ablk A') w w':=by
 have hn:=h.len
 have hmm:=hr.len
 rcases h with h1 | h1
 ·obtain ⟨A',c',w',hrun,ho,hu⟩:=run_app (P:=P) w t ty e ht hi rfl (by decide) A n c _ h1.own B m d _ hr (b8s_one r) (by unfold maxLen;omega) (by omega)
  exact ⟨A',c',w',hrun,⟨by simp [hn,hmm],by rw [b8s_append];exact ho⟩,hu⟩
 ·obtain ⟨g,cur,rfl,hg⟩:=h1.blk
  obtain ⟨i,hii,hz,hsize,hby⟩:=info_parts hi
  obtain ⟨ad,e1,hc⟩:=hr.2 (by omega)
  subst e1
  have holds:∀j u,(b8s l)[j]? =some u→w.cell? ((⟨g,0,none⟩:Addr).add j)=some u:=by
   intro j u hu
   rcases Nat.eq_zero_or_pos n with h0 | h0
   ·have hl0:l= []:=List.eq_nil_of_length_eq_zero (by omega)
    subst hl0;simp [b8s] at hu
   ·obtain ⟨ad',e',hc'⟩:=h1.rd.2 h0
    injection e' with e';subst e'
    exact hc' j u hu
  obtain ⟨v',w',hrun,ho,hgr⟩:=run_append_arg_grows (P:=P) w t ty e i _ 1 1 ht hii hz hsize hby rfl (by decide) ⟨g,0,none⟩ n c _ h1.rd.1 holds ad m d (b8s r) hr.1 hc (by rw [h1.cap];omega) (by unfold maxLen;omega) (by omega)
  obtain ⟨⟨A',c',rfl,ho'⟩,hbase⟩:=own_of_row ho
  refine ⟨A',c',w',hrun,⟨by simp [hn,hmm],by rw [b8s_append];exact ho'⟩,(((Upd.refl _ w).grown hgr (fun k h=>by cases h)).gives (fun k hk=>.inr (hbase A' c' rfl (by omega) k hk)))⟩
end
theorem wpList_run {P:Program} {w:World} {ops:Array Oper} {rest:List Oper} {o:Oper} {a:Act} {Q:Exit→Act→World→Prop} (hgd:o.guard=none) (s x:Operand) (t:TypeId)
  (ho:o.op= .call {callee:=.builtin .append,args:=#[s,x],argTypes:=#[t,t]}) {vs vx v:Value} {w':World} (hs:a.eval s=vs) (hx:a.eval x=vx)
  (hrun:(Builtin.append_ #[t,t] o.type #[vs,vx]).run P w= .ok v w') (h:wpList P ops Q rest (a.put o.dst v) w'):wpList P ops Q (o :: rest) a w:=by
 refine wpList_plain hgd fun K hK=>?_
 unfold Oper.wp
 simp [execOp,ho,resolve,invoke,builtin,hs,hx,hrun,Result.andThen]
 exact hK _ _ h
def tagW (w:World) (k:Nat):Option (Option TypeId):=
 match w.heap[k]? with
 | some (.cells _ t _)=>some (some t)
 | some (.map _ _)=>some none
 | _=>none
theorem Blk.tag {w:World} {g:Nat} {t:TypeId} {cs:Array Value} (h:Blk w g t cs):tagW w g=some (some t):=by
 unfold Blk at h;unfold tagW;rw [h]
theorem Own.tag {e:TypeId} {size:Nat} {w:World} {A:Option Addr} {n c:Nat} {xs:List Value} (h:Own e size w A n c xs):∀k∈ablk A,tagW w k=some (some e):=by
 intro k hk
 rcases h.2 with ⟨hv,_⟩ | ⟨g,cap,cur,hv,_,hg,_⟩
 ·injection hv with hA;subst hA;simp [ablk] at hk
 ·injection hv with hA;subst hA;simp [ablk] at hk;subst hk;unfold tagW;rw [hg]
theorem MapI.tag {P:Program} {k:TypeId} {w:World} {b:Nat} {M:KV} (h:MapI P k w b M):tagW w b=some none:=by
 obtain ⟨es,clock,hb,-⟩:=h
 unfold tagW;rw [hb]
theorem tag_upd {w w':World} {a b:List Nat} (hu:Upd a b w w') {k:Nat} (hk:k∉a) {t:Option TypeId} (ht:tagW w k=some t):tagW w' k=some t:=by
 have hlt:k < w.heap.size:=by
  rcases Nat.lt_or_ge k w.heap.size with h | h
  ·exact h
  ·unfold tagW at ht;rw [Array.getElem?_eq_none h] at ht;cases ht
 unfold tagW at ht ⊢
 rw [hu.block k hlt hk];exact ht
theorem tag_lt {w:World} {k:Nat} {t:Option TypeId} (ht:tagW w k=some t):k < w.heap.size:=by
 rcases Nat.lt_or_ge k w.heap.size with h | h
 ·exact h
 ·unfold tagW at ht;rw [Array.getElem?_eq_none h] at ht;cases ht
theorem tag_ne {w:World} {k k':Nat} {t t':Option TypeId} (h:tagW w k=some t) (h':tagW w k'=some t') (hne:t≠t'):k≠k':=by
 rintro rfl;rw [h] at h';injection h' with h';exact hne h'
theorem tag_off {w:World} {k:Nat} {t t':Option TypeId} {X:List Nat} (h:tagW w k=some t) (h':∀j∈X,tagW w j=some t') (hne:t≠t'):k∉X:=fun hm=>tag_ne h (h' k hm) hne rfl
theorem tag_offs {w:World} {t t':Option TypeId} {X Y:List Nat} (h:∀j∈Y,tagW w j=some t) (h':∀j∈X,tagW w j=some t') (hne:t≠t'):∀k∈Y,k∉X:=fun _ hk=>tag_off (h _ hk) h' hne
end Agio
namespace Go.Proofs.YtijhlbeipglieaaGreat
open Go.RowKit Agio
structure DskS (w:World) (g:Nat) (A:Option Addr) (n c:Nat) (b:List UInt8) (s:Nat):Prop where
 blk:Blk w g 197 #[.slice A n c,.int .i64 (s:Int)]
 row:BRow 5 w A n c b
 ne:∀k∈ablk A,k≠g
 s:s≤b.length
 len:b.length≤1048576
theorem DskS.tag {w:World} {g:Nat} {A:Option Addr} {n c:Nat} {b:List UInt8} {s:Nat} (h:DskS w g A n c b s):∀k∈ablk A,tagW w k=some (some 5):=fun k hk=>by
 obtain ⟨cur,hg⟩:=h.row.block k hk
 unfold tagW;rw [hg]
theorem DskS.upd {w w':World} {g:Nat} {A:Option Addr} {n c:Nat} {b:List UInt8} {s:Nat} {x y:List Nat} (h:DskS w g A n c b s) (hu:Upd x y w w') (h1:g∉x) (h2:∀k∈ablk A,k∉x):DskS w' g A n c b s:=
 ⟨h.blk.upd hu h1,h.row.upd hu h2,h.ne,h.s,h.len⟩
theorem diskNew (w:World):Calls Tryz.prog 78 #[] w fun e w'=>∃g,e= .returned (.pointer (some ⟨g,0,none⟩))∧DskS w' g none 0 0 [] 0∧Upd [] [g] w w':=by
 have hb:=Blk.new w 197 #[.slice none 0 0,.int .i64 0]
 have U:Upd [] [w.heap.size] w (w.alloc (.cells #[.slice none 0 0,.int .i64 0] 197)):=((Upd.refl [] w).alloc _).gives (by simp)
 have key:=Lib.hid (show DskS (w.alloc (.cells #[.slice none 0 0,.int .i64 0] 197)) w.heap.size none 0 0 [] 0 from ⟨hb,BRow.nil _ _,by simp [ablk],by simp,by simp⟩)
 clear hb
 go_enter Tryz.func78,Tryz.ntmps78
 repeat' (first|go_values|go_skip|go_guarded|go_step|go_upon|(simp only [];go_at_K))
 go_ret
 exact ⟨_,rfl,key.out,U⟩
theorem diskSynced (w:World) (g:Nat) (A:Option Addr) (n c:Nat) (b:List UInt8) (s:Nat) (h:DskS w g A n c b s) :
  Calls Tryz.prog 76 #[.pointer (some ⟨g,0,none⟩)] w fun e w'=>e= .returned (.int .i64 (s:Int))∧w=w':=by
 obtain ⟨⟨q0,q1⟩,-⟩:=h.blk.c2
 clear h
 go_enter Tryz.func76,Tryz.ntmps76
 repeat' (first|go_values|go_skip|go_guarded|go_step|go_upon|(simp only [];go_at_K))
 go_ret
 exact ⟨rfl,rfl⟩
theorem diskSync (w:World) (g:Nat) (A:Option Addr) (n c:Nat) (b:List UInt8) (s:Nat) (h:DskS w g A n c b s) :
  Calls Tryz.prog 65 #[.pointer (some ⟨g,0,none⟩)] w fun e w'=>e= .returned (.tuple #[])∧DskS w' g A n c b b.length∧Upd [g] [g] w w':=by
 obtain ⟨⟨q0,q1⟩,f0,f1⟩:=h.blk.c2
 have hn:n=b.length:=h.row.len
 have hB:=h.blk.set_ 1 (.int .i64 (n:Int))
 have hu:Upd [g] [g] w (w.setCell ⟨g,1,none⟩ (.int .i64 (n:Int))):=(Upd.refl [g] w).setCell (.inl (by simp)) _
 have key:=Lib.hid (show DskS (w.setCell ⟨g,1,none⟩ (.int .i64 (n:Int))) g A n c b b.length from ⟨by rw [←hn];exact hB,h.row.upd hu (by simpa using h.ne),h.ne,by omega,h.len⟩)
 clear h hB hn
 go_enter Tryz.func65,Tryz.ntmps65
 repeat' (first|go_values|go_skip|go_guarded|go_step|go_upon|(simp only [];go_at_K))
 exact bodyPost_end (results_none rfl _ _ _) rfl ⟨rfl,key.out,hu⟩
theorem diskBytes (w:World) (g:Nat) (A:Option Addr) (n c:Nat) (b:List UInt8) (s:Nat) (h:DskS w g A n c b s) :
  Calls Tryz.prog 73 #[.pointer (some ⟨g,0,none⟩)] w fun e w'=>∃A' n' c',e= .returned (.slice A' n' c')∧OwnB 5 w' A' n' c' b∧Upd [] (ablk A') w w':=by
 obtain ⟨⟨q0,q1⟩,-⟩:=h.blk.c2
 have C:=bytesClone w A n c b h.row.rd (by have:=h.len;omega)
 clear h
 go_enter Tryz.func73,Tryz.ntmps73
 repeat' (first|go_values|go_skip|go_guarded|go_step|go_upon|(simp only [];go_at_K))
 ((with_reducible refine C.mono ?_);rintro e w2 ⟨A',n',c',rfl,ho,hu⟩)
 repeat' (first|go_values|go_skip|go_guarded|go_step|go_upon|(simp only [];go_at_K))
 go_ret
 exact ⟨A',n',c',rfl,ho,hu⟩
end Go.Proofs.YtijhlbeipglieaaGreat
namespace Go.Proofs.YtijhlbeipglieaaGreat
open Go.RowKit Agio
theorem diskFull (w:World) (g:Nat) (A:Option Addr) (n c:Nat) (b:List UInt8) (s:Nat) (h:DskS w g A n c b s) (B:Option Addr) (m d:Nat) (v:List UInt8) (hv:RdB w B m v) (hf:1048576 < b.length + v.length) (hl:v.length≤1099511627776) :
  Calls Tryz.prog 190 #[.pointer (some ⟨g,0,none⟩),.slice B m d] w fun e w'=>e= .returned (.int .i64 5)∧w=w':=by
 obtain ⟨⟨q0,q1⟩,-⟩:=h.blk.c2
 have hn:n=b.length:=h.row.len
 have hm:m=v.length:=hv.len
 have hln:=h.len
 have hw:IntKind.i64.wrap (1048576 - (n:Int))=1048576 - (n:Int):=by rw [IntKind.wrap_i64];omega
 have d1:decide (1048576 - (n:Int) < (m:Int))=true:=decide_eq_true (by omega)
 clear h hv hn hm hf hl hln
 go_enter Tryz.func190,Tryz.ntmps190
 repeat' (first|go_values|go_skip|go_guarded|go_step|go_upon|(simp only [];go_at_K))
 go_ret
 exact ⟨rfl,rfl⟩
theorem diskAppend (w:World) (g:Nat) (A:Option Addr) (n c:Nat) (b:List UInt8) (s:Nat) (h:DskS w g A n c b s) (B:Option Addr) (m d:Nat) (v:List UInt8) (hv:RdB w B m v) (hv0:0 < v.length) (hf:b.length + v.length≤1048576) :
  Calls Tryz.prog 190 #[.pointer (some ⟨g,0,none⟩),.slice B m d] w fun e w'=>∃A' n' c',e= .returned (.int .i64 0)∧DskS w' g A' n' c' (b ++ v) s∧Upd (g :: ablk A) (g :: ablk A') w w':=by
 obtain ⟨⟨q0,q1⟩,-⟩:=h.blk.c2
 have hn:n=b.length:=h.row.len
 have hm:m=v.length:=hv.len
 have hw:IntKind.i64.wrap (1048576 - (n:Int))=1048576 - (n:Int):=by rw [IntKind.wrap_i64];omega
 have d1:decide (1048576 - (n:Int) < (m:Int))=false:=decide_eq_false (by omega)
 clear hn hm
 go_enter Tryz.func190,Tryz.ntmps190
 repeat' ((fail_if_success (with_reducible refine stop_append rfl ?_));first|go_values|go_skip|go_guarded|go_step|go_upon|(simp only [];go_at_K))
 obtain ⟨A2,c2,w2,hrun,ho,hu⟩:=h.row.app 28 Tryz.underlying28 infoU8 (d:=d) hv hv0 (by omega)
 obtain ⟨k2,hk2⟩:∃k,n + m=k:=⟨_,rfl⟩
 rw [hk2] at hrun ho
 refine wpList_run rfl _ _ 28 rfl rfl rfl hrun ?_
 have hg:g∉ablk A:=fun hk=>h.ne g hk rfl
 have hb2:=h.blk.upd hu hg
 obtain ⟨⟨p0,p1⟩,f0,f1⟩:=hb2.c2
 have hne:∀k∈ablk A2,k≠g:=fun k hk=>by
  rcases hu.fresh k hk with h1 | h1
  ·exact h.ne k h1
  ·have:=h.blk.lt;omega
 have hu3:Upd [g] [g] w2 (w2.setCell ⟨g,0,none⟩ (.slice A2 k2 c2)):=(Upd.refl [g] w2).setCell (.inl (by simp)) _
 have hs:=h.s
 have key:=Lib.hid (show DskS (w2.setCell ⟨g,0,none⟩ (.slice A2 k2 c2)) g A2 k2 c2 (b ++ v) s from ⟨hb2.set_ 0 _,.inl (ho.upd hu3 (by simpa using hne)),hne,by rw [List.length_append];omega,by rw [List.length_append];omega⟩)
 have U:Upd (g :: ablk A) (g :: ablk A2) w (w2.setCell ⟨g,0,none⟩ (.slice A2 k2 c2)):=
  ((hu.mono (a':=g :: ablk A) (b':=g :: ablk A2) (by simp;intro k hk;exact .inr hk) (by simp;intro k hk;exact .inl hk))).setCell (.inl (by simp)) _
 clear h hv ho hu hb2 hu3 hne hg
 repeat' (first|go_values|go_skip|go_guarded|go_step|go_upon|(simp only [];go_at_K))
 go_ret
 exact ⟨A2,k2,c2,rfl,key.out,U⟩
end Go.Proofs.YtijhlbeipglieaaGreat
namespace Go.Proofs.YtijhlbeipglieaaGreat
open Go.RowKit Agio
def WtS (w:World) (g:Nat) (me n p:Int) (l:List Int):Prop:=
 Blk w g 214 ([Value.int .i64 me,.int .i64 n,.int .i64 p] ++ l.map (Value.int .i64)).toArray∧l.length=7
def timerOk (me n p:Int):Bool:=decide (1≤n) && decide (n≤7) && decide (0≤me) && decide (me < n) && decide (1≤p) && decide (p≤1000)
theorem timerNew (w:World) (me n p:Int) (h:timerOk me n p=true) :
  Calls Tryz.prog 70 #[.int .i64 me,.int .i64 n,.int .i64 p] w fun e w'=>∃g,e= .returned (.tuple #[.pointer (some ⟨g,0,none⟩),.int .i64 0])∧WtS w' g me n p [0,0,0,0,0,0,0]∧Upd [] [g] w w':=by
 simp only [timerOk,Bool.and_eq_true,decide_eq_true_eq] at h
 obtain ⟨⟨⟨⟨⟨h1,h2⟩,h3⟩,h4⟩,h5⟩,h6⟩:=h
 have d1:decide (n < 1)=false:=decide_eq_false (by omega)
 have d2:decide (7 < n)=false:=decide_eq_false (by omega)
 have d3:decide (me < 0)=false:=decide_eq_false (by omega)
 have d4:decide (n≤me)=false:=decide_eq_false (by omega)
 have d5:decide (p < 1)=false:=decide_eq_false (by omega)
 have d6:decide (1000 < p)=false:=decide_eq_false (by omega)
 have hb:=Blk.new w 214 #[.int .i64 me,.int .i64 n,.int .i64 p,.int .i64 0,.int .i64 0,.int .i64 0,.int .i64 0,.int .i64 0,.int .i64 0,.int .i64 0]
 have HB:=Lib.hid hb
 clear hb
 go_enter Tryz.func70,Tryz.ntmps70
 repeat' (first|go_values|go_skip|go_guarded|go_step|go_upon|(simp only [];go_at_K))
 go_ret2
 exact ⟨_,rfl,⟨HB.out,rfl⟩,((Upd.refl [] w).alloc _).gives (by simp)⟩
theorem timerIs (w:World) (g:Nat) (me n p:Int) (l:List Int) (h:WtS w g me n p l) (s:Int) :
  Calls Tryz.prog 128 #[.pointer (some ⟨g,0,none⟩),.int .i64 s] w fun e w'=>e= .returned (.bool (decide (0≤s) && decide (s < n)))∧w=w':=by
 have q1:w.cell? ⟨g,1,none⟩=some (.int .i64 n):=h.1.cell 1
 clear h
 go_enter Tryz.func128,Tryz.ntmps128
 by_cases h1:0≤s
 ·have d1:decide (0≤s)=true:=decide_eq_true h1
  repeat' (first|go_values|go_skip|go_guarded|go_step|go_upon|(simp only [];go_at_K))
  go_ret
  exact ⟨by rw [d1];rfl,rfl⟩
 ·have d1:decide (0≤s)=false:=decide_eq_false h1
  repeat' (first|go_values|go_skip|go_guarded|go_step|go_upon|(simp only [];go_at_K))
  go_ret
  exact ⟨by rw [d1];rfl,rfl⟩
end Go.Proofs.YtijhlbeipglieaaGreat
namespace Go.Proofs.YtijhlbeipglieaaGreat
open Go.RowKit Agio
theorem WtS.cell {w:World} {g:Nat} {me n p:Int} {l:List Int} (h:WtS w g me n p l) {i:Nat} (hi:i < l.length):w.cell? ⟨g,3 + i,none⟩=some (.int .i64 l[i]):=by
 rw [h.1.cell (3 + i),Nat.add_comm 3 i]
 simp [hi]
def leadG (p:Int):List Int→Nat→Int
 | [],_=>-1
 | x :: l,i=>if x≤p then (i:Int) else leadG p l (i + 1)
theorem timerLeader (w:World) (g:Nat) (me:Int) (n:Nat) (p:Int) (l:List Int) (h:WtS w g me n p l) (hn:n≤7) :
  Calls Tryz.prog 161 #[.pointer (some ⟨g,0,none⟩)] w fun e w'=>e= .returned (.int .i64 (leadG p (l.take n) 0))∧Upd [] [] w w':=by
 have q1:w.cell? ⟨g,1,none⟩=some (.int .i64 (n:Int)):=h.1.cell 1
 have q2:w.cell? ⟨g,2,none⟩=some (.int .i64 p):=h.1.cell 2
 have hl:=h.2
 have hc:=fun i hi=>h.cell (i:=i) hi
 have HC:=Lib.hid hc
 clear hc h
 obtain ⟨R,hR⟩:∃R,leadG p (l.take n) 0=R:=⟨_,rfl⟩
 rw [hR]
 have HR:=Lib.hid hR
 clear hR
 go_enter Tryz.func161,Tryz.ntmps161
 repeat' (first|go_values|go_skip|go_guarded|go_step|go_upon|(simp only [];go_at_K))
 go_loopw [10] (fun v10 wr=>∃i:Nat,i≤n∧v10= .int .i64 (i:Int)∧leadG p ((l.take n).drop i) i=R∧Upd [] [] w wr) (fun v10 _=>n - (intOf v10).toNat)
 case atStart=>exact ⟨0,by omega,rfl,HR.out,Upd.refl _ _⟩
 case round=>
  obtain ⟨i,hi,rfl,hr,U⟩:=hrel
  have H:=Lib.hid hr
  clear hr HR
  by_cases hlt:i < n
  ·have hil:(i:Int) < (n:Int):=by omega
   have hi7:(i:Int) < 7:=by omega
   have hw1:IntKind.i64.wrap ((i:Int) + 1)=(i:Int) + 1:=by rw [IntKind.wrap_i64];omega
   have c1:=fun N=>(U.drewN N).cell (HC.out i (by omega)) (by simp)
   have c2:=fun N=>(U.drewN N).cell q2 (by simp)
   have hd:(l.take n).drop i=l[i] :: (l.take n).drop (i + 1):=by
    rw [List.drop_eq_getElem_cons (by rw [List.length_take];omega)];simp
   have HD:=Lib.hid hd
   clear hd
   by_cases hs:l[i]≤p
   ·have d1:decide (l[i]≤p)=true:=decide_eq_true hs
    repeat' (first|go_values|go_skip|go_guarded|go_step|go_upon|(simp only [];go_at_K))
    go_quiet (fail)
    repeat' (first|go_values|go_skip|go_guarded|go_step|go_upon|(simp only [];go_at_K))
    go_ret
    exact ⟨by rw [←H.out,HD.out,leadG,if_pos hs];rfl,U.drewN _⟩
   ·have d1:decide (l[i]≤p)=false:=decide_eq_false hs
    repeat' (first|go_values|go_skip|go_guarded|go_step|go_upon|(simp only [];go_at_K))
    go_quiet (fail)
    repeat' (first|go_values|go_skip|go_guarded|go_step|go_upon|(simp only [];go_at_K))
    exact ⟨⟨i + 1,by omega,rfl,by rw [←H.out,HD.out,leadG,if_neg hs],U.drewN _⟩,by simp [intOf];omega⟩
  ·have hil:¬ ((i:Int) < (n:Int)):=by omega
   have he:R= -1:=by rw [←H.out,List.drop_eq_nil_of_le (by rw [List.length_take];omega),leadG]
   have HE:=Lib.hid he
   clear he H
   repeat' (first|go_values|go_skip|go_guarded|go_step|go_upon|(simp only [];go_at_K))
   go_ret
   exact ⟨by rw [HE.out];rfl,U⟩
end Go.Proofs.YtijhlbeipglieaaGreat
namespace Go.Proofs.YtijhlbeipglieaaGreat
open Go.RowKit Agio
theorem WtS.set {w:World} {g:Nat} {me n p:Int} {l:List Int} (h:WtS w g me n p l) (i:Nat) (v:Int):WtS (w.setCell ⟨g,3 + i,none⟩ (.int .i64 v)) g me n p (l.set i v):=by
 refine ⟨?_,by rw [List.length_set];exact h.2⟩
 have:=h.1.set_ (3 + i) (.int .i64 v)
 rw [Nat.add_comm 3 i] at this ⊢
 simpa [List.map_set] using this
theorem timerHeard (w:World) (g:Nat) (me:Int) (n:Nat) (p:Int) (l:List Int) (h:WtS w g me n p l) (hn:n≤7) (s:Nat) (hs:s < n) :
  Calls Tryz.prog 69 #[.pointer (some ⟨g,0,none⟩),.int .i64 (s:Int)] w fun e w'=>e= .returned (.tuple #[])∧WtS w' g me n p (l.set s 0)∧Upd [g] [g] w w':=by
 have C:=timerIs w g me n p l h (s:Int)
 rw [decide_eq_true (show (0:Int)≤(s:Int) by omega),decide_eq_true (show (s:Int) < (n:Int) by omega)] at C
 have hk:=Lib.hid (h.set s 0)
 obtain ⟨z,hc⟩:∃z,w.cell? ⟨g,3 + s,none⟩=some z:=⟨_,h.cell (i:=s) (by have:=h.2;omega)⟩
 have hf:=h.1.frozen (3 + s)
 have hs7:(s:Int) < 7:=by omega
 have U:Upd [g] [g] w (w.setCell ⟨g,3 + s,none⟩ (.int .i64 0)):=(Upd.refl [g] w).setCell (.inl (by simp)) _
 clear h
 go_enter Tryz.func69,Tryz.ntmps69
 repeat' (first|go_values|go_skip|go_guarded|go_step|go_upon|(simp only [];go_at_K))
 ((with_reducible refine C.mono ?_);rintro e w1 ⟨rfl,rfl⟩)
 repeat' (first|go_values|go_skip|go_guarded|go_step|go_upon|(simp only [];go_at_K))
 exact bodyPost_end (results_none rfl _ _ _) rfl ⟨rfl,hk.out,U⟩
end Go.Proofs.YtijhlbeipglieaaGreat
namespace Agio
open Go Go.RowKit
theorem BRow.cut {e:TypeId} {w:World} {A:Option Addr} {n c:Nat} {l:List UInt8} (h:BRow e w A n c l) (k:Nat) (hk:k≤n):BRow e w A k k (l.take k):=by
 have hr:=h.rd.pre k hk
 cases A with
 | none=>
  have h0:k=0:=by
   rcases Nat.eq_zero_or_pos k with h0 | h0
   ·exact h0
   ·obtain ⟨ad,e1,-⟩:=h.rd.2 (by omega)
    cases e1
  subst h0
  exact .inl (OwnB.nil _ _)
 | some ad=>
  right
  refine ⟨rfl,hr,?_⟩
  rcases h with h1 | h1
  ·rcases h1.own.2 with ⟨hv,_⟩ | ⟨g,cap,cur,hv,_,hg,_⟩
   ·injection hv with hA;cases hA
   ·injection hv with hA;injection hA with hA;subst hA;exact ⟨g,cur,rfl,hg⟩
  ·exact h1.blk
end Agio
namespace Go.Proofs.YtijhlbeipglieaaGreat
open Go.RowKit Agio
theorem diskFirst (w:World) (g:Nat) (A:Option Addr) (n c:Nat) (b:List UInt8) (s:Nat) (h:DskS w g A n c b s) (k:Nat) (hk:k≤n) :
  Calls Tryz.prog 120 #[.pointer (some ⟨g,0,none⟩),.int .i64 (k:Int)] w fun e w'=>e= .returned (.tuple #[])∧Blk w' g 197 #[.slice A k k,.int .i64 (s:Int)]∧BRow 5 w' A k k (b.take k)∧Upd [g] [g] w w':=by
 obtain ⟨⟨q0,q1⟩,f0,f1⟩:=h.blk.c2
 have hn:n=b.length:=h.row.len
 have hc:=h.row.le
 have hcut:=Lib.hid (h.row.cut k hk)
 have hne:=h.ne
 have hB:=Lib.hid (h.blk.set_ 0 (.slice A k k))
 have u:Upd [g] [g] w (w.setCell ⟨g,0,none⟩ (.slice A k k)):=(Upd.refl [g] w).setCell (p:=⟨g,0,none⟩) (.inl (by simp)) _
 have hln:=h.len
 clear h
 go_enter Tryz.func120,Tryz.ntmps120
 repeat' (first|go_values|go_skip|go_guarded|go_step|go_upon|(simp only [];go_at_K))
 exact bodyPost_end (results_none rfl _ _ _) rfl ⟨rfl,hB.out,hcut.out.upd u (fun x hx=>by simp only [List.mem_singleton];exact hne x hx),u⟩
def keptN (n s:Nat) (k:Int):Nat:=s + (max 0 (min k ((n:Int) - s))).toNat
theorem diskCrash (w:World) (g:Nat) (A:Option Addr) (n c:Nat) (b:List UInt8) (s:Nat) (h:DskS w g A n c b s) (k:Int) :
  Calls Tryz.prog 67 #[.pointer (some ⟨g,0,none⟩),.int .i64 k] w fun e w'=>e= .returned (.tuple #[])∧DskS w' g A (keptN b.length s k) (keptN b.length s k) (b.take (keptN b.length s k)) (keptN b.length s k)∧Upd [g] [g] w w':=by
 obtain ⟨⟨q0,q1⟩,f0,f1⟩:=h.blk.c2
 have hn:n=b.length:=h.row.len
 have hs:=h.s
 have hln:=h.len
 have hK:s≤keptN b.length s k∧keptN b.length s k≤b.length:=by unfold keptN;omega
 have e1:IntKind.i64.wrap ((n:Int) - (s:Int))=(n:Int) - (s:Int):=by rw [IntKind.wrap_i64];omega
 obtain ⟨K,hKe⟩:∃K,keptN b.length s k=K:=⟨_,rfl⟩
 have HKE:=Lib.hid (show (K:Int)=(s:Int) + max 0 (min k ((n:Int) - s)) by rw [←hKe,hn];unfold keptN;omega)
 rw [hKe] at hK ⊢
 clear hKe
 go_enter Tryz.func67,Tryz.ntmps67
 repeat' (first|go_values|go_skip|go_guarded|go_step|go_upon|(simp only [];go_at_K))
 go_region
 all_goals (repeat' (first | go_values | go_skip | go_guarded | go_step | go_upon | (simp only [];go_at_K)))
 have h0:DskS w.drew g A b.length c b s:=hn▸h.upd (Upd.refl [] w).drew (by simp) (by simp)
 rw [show ((s:Int) + if 0 < (if (b.length:Int) - (s:Int) < k then (b.length:Int) - (s:Int) else k) then (if (b.length:Int) - (s:Int) < k then (b.length:Int) - (s:Int) else k) else 0)=(K:Int) by
  rw [HKE.out,hn];split <;> split <;> omega]
 ((with_reducible refine (diskFirst w.drew g A b.length c b s h0 K hK.2).mono ?_);rintro e w1 ⟨rfl,hB1,hR1,hu1⟩)
 obtain ⟨⟨p0,p1⟩,g0,g1⟩:=hB1.c2
 have hne:=h.ne
 have u2:Upd [g] [g] w1 (w1.setCell ⟨g,1,none⟩ (.int .i64 (K:Int))):=(Upd.refl [g] w1).setCell (p:=⟨g,1,none⟩) (.inl (by simp)) _
 have KEY:=Lib.hid (show DskS (w1.setCell ⟨g,1,none⟩ (.int .i64 (K:Int))) g A K K (b.take K) K from ⟨hB1.set_ 1 _,hR1.upd u2 (fun x hx=>by simp only [List.mem_singleton];exact hne x hx),hne,by rw [List.length_take];omega,by rw [List.length_take];omega⟩)
 have UU:=(((Upd.refl [g] w).drew).trans hu1).trans u2
 clear h h0 hB1 hR1 hu1 u2
 repeat' (first|go_values|go_skip|go_guarded|go_step|go_upon|(simp only [];go_at_K))
 exact bodyPost_end (results_none rfl _ _ _) rfl ⟨rfl,KEY.out,UU⟩
theorem diskCut (w:World) (g:Nat) (A:Option Addr) (n c:Nat) (b:List UInt8) (s:Nat) (h:DskS w g A n c b s) (k:Nat) (hk:k≤b.length) :
  Calls Tryz.prog 74 #[.pointer (some ⟨g,0,none⟩),.int .i64 (k:Int)] w fun e w'=>e= .returned (.int .i64 0)∧DskS w' g A k k (b.take k) (min s k)∧Upd [g] [g] w w':=by
 have hn:n=b.length:=h.row.len
 have hs:=h.s
 have hln:=h.len
 have hne:=h.ne
 have C:=diskFirst w g A n c b s h k (by omega)
 obtain ⟨⟨q0,q1⟩,f0,f1⟩:=h.blk.c2
 have d0:decide ((k:Int) < 0)=false:=decide_eq_false (by omega)
 have d1:decide (n < k)=false:=decide_eq_false (by omega)
 have HN:=Lib.hid hn
 clear hn h
 go_enter Tryz.func74,Tryz.ntmps74
 repeat' (first|go_values|go_skip|go_guarded|go_step|go_upon|(simp only [];go_at_K))
 ((with_reducible refine C.mono ?_);rintro e w1 ⟨rfl,hB1,hR1,hu1⟩)
 obtain ⟨⟨p0,p1⟩,g0,g1⟩:=hB1.c2
 have u2:Upd [g] [g] w1 (w1.setCell ⟨g,1,none⟩ (.int .i64 ((min s k:Nat):Int))):=(Upd.refl [g] w1).setCell (p:=⟨g,1,none⟩) (.inl (by simp)) _
 have KEY:=Lib.hid (show DskS (w1.setCell ⟨g,1,none⟩ (.int .i64 ((min s k:Nat):Int))) g A k k (b.take k) (min s k) from ⟨hB1.set_ 1 _,hR1.upd u2 (fun x hx=>by simp only [List.mem_singleton];exact hne x hx),hne,by rw [List.length_take];omega,by rw [List.length_take];omega⟩)
 have UU:=Lib.hid (hu1.trans u2)
 have hmin:(if k < s then (k:Int) else (s:Int))=((min s k:Nat):Int):=by split <;> omega
 clear hB1 hR1 hu1 u2 C
 repeat' (first|go_values|go_skip|go_guarded|go_step|go_upon|(simp only [];go_at_K))
 go_ret
 exact ⟨rfl,KEY.out,UU.out⟩
end Go.Proofs.YtijhlbeipglieaaGreat
namespace Go.Proofs.YtijhlbeipglieaaGreat
open Go.RowKit Agio
def tickG (me:Int) (l:List Int):Nat→List Int
 | 0=>l
 | i + 1=>if (i:Int)≠me∧l.getD i 0 < 1000000 then (tickG me l i).set i (l.getD i 0 + 1) else tickG me l i
theorem tickG_len (me:Int) (l:List Int) (i:Nat):(tickG me l i).length=l.length:=by
 induction i with
 | zero=>rfl
 | succ i ih=>unfold tickG;split <;> simp [ih]
theorem tickG_at (me:Int) (l:List Int):∀(i j:Nat),i≤j→(tickG me l i).getD j 0=l.getD j 0
 | 0,_,_=>rfl
 | i + 1,j,h=>by
  unfold tickG
  split
  ·rw [List.getD_eq_getElem?_getD,List.getElem?_set_ne (by omega),←List.getD_eq_getElem?_getD]
   exact tickG_at me l i j (by omega)
  ·exact tickG_at me l i j (by omega)
theorem tickG_nn (me:Int) {l:List Int} (h:∀x∈l,0≤x):∀i,∀x∈tickG me l i,0≤x
 | 0=>h
 | i + 1=>by
  unfold tickG
  intro x hx
  split at hx
  ·rename_i hc
   rcases List.mem_or_eq_of_mem_set hx with hx | rfl
   ·exact tickG_nn me h i x hx
   ·have:0≤l.getD i 0:=by
     rw [List.getD_eq_getElem?_getD]
     cases hq:l[i]? with
     | none=>simp
     | some y=>exact h y (List.mem_of_getElem? hq)
    omega
  ·exact tickG_nn me h i x hx
theorem timerTick (w:World) (g:Nat) (me n:Nat) (p:Int) (l:List Int) (h:WtS w g me n p l) (hn:n≤7) (hx:∀x∈l,0≤x) :
  Calls Tryz.prog 94 #[.pointer (some ⟨g,0,none⟩)] w fun e w'=>e= .returned (.tuple #[])∧WtS w' g me n p (tickG me l n)∧Upd [g] [g] w w':=by
 have q1:w.cell? ⟨g,1,none⟩=some (.int .i64 (n:Int)):=h.1.cell 1
 have hl:=h.2
 go_enter Tryz.func94,Tryz.ntmps94
 repeat' (first|go_values|go_skip|go_guarded|go_step|go_upon|(simp only [];go_at_K))
 go_loopw [9] (fun v9 wr=>∃i:Nat,i≤n∧v9= .int .i64 (i:Int)∧WtS wr g me n p (tickG me l i)∧Upd [g] [g] w wr) (fun v9 _=>n - (intOf v9).toNat)
 case atStart=>exact ⟨0,by omega,rfl,h,Upd.refl _ _⟩
 case round=>
  obtain ⟨i,hi,rfl,hr,U⟩:=hrel
  by_cases hlt:i < n
  ·have hil:(i:Int) < (n:Int):=by omega
   have hi7:(i:Int) < 7:=by omega
   have hw1:IntKind.i64.wrap ((i:Int) + 1)=(i:Int) + 1:=by rw [IntKind.wrap_i64];omega
   have hlen:i < (tickG me l i).length:=by rw [tickG_len];omega
   have hat:(tickG me l i)[i]=l.getD i 0:=by
    have:=tickG_at me l i i (Nat.le_refl _)
    rw [List.getD_eq_getElem?_getD,List.getElem?_eq_getElem hlen] at this
    exact this
   obtain ⟨y,hy⟩:∃y,l.getD i 0=y:=⟨_,rfl⟩
   have hy0:0≤y:=by
    rw [←hy,List.getD_eq_getElem?_getD,List.getElem?_eq_getElem (by omega)]
    exact hx _ (List.getElem_mem _)
   have hc:wr.cell? ⟨g,3 + i,none⟩=some (.int .i64 y):=by rw [hr.cell hlen,hat,hy]
   have hf:=hr.1.frozen (3 + i)
   have p0:wr.cell? ⟨g,0,none⟩=some (.int .i64 (me:Int)):=hr.1.cell 0
   have HG:=Lib.hid (show tickG me l (i + 1)=if (i:Int)≠me∧y < 1000000 then (tickG me l i).set i (y + 1) else tickG me l i by rw [tickG,hy])
   clear hat hy hlen
   cases hm:((i:Int) != (me:Int)) with
   | false=>
    have hG:tickG me l (i + 1)=tickG me l i:=by rw [HG.out,if_neg (fun hh=>by have:=hh.1;simp at hm;omega)]
    have KEY:=Lib.hid (show WtS wr g me n p (tickG me l (i + 1)) by rw [hG];exact hr)
    clear hG hr h HG
    repeat' (first|go_values|go_skip|go_guarded|go_step|go_upon|(simp only [];go_at_K))
    exact ⟨⟨i + 1,by omega,by simp,KEY.out,U⟩,by simp [intOf];omega⟩
   | true=>
    have hne:(i:Int)≠me:=by simpa using hm
    by_cases hy1:y < 1000000
    ·have d1:decide (y < 1000000)=true:=decide_eq_true hy1
     have hw2:IntKind.i64.wrap (y + 1)=y + 1:=by rw [IntKind.wrap_i64];omega
     have hG:tickG me l (i + 1)=(tickG me l i).set i (y + 1):=by rw [HG.out,if_pos ⟨hne,hy1⟩]
     have u2:Upd [g] [g] wr (wr.setCell ⟨g,3 + i,none⟩ (.int .i64 (y + 1))):=(Upd.refl [g] wr).setCell (p:=⟨g,3 + i,none⟩) (.inl (by simp)) _
     have KEY:=Lib.hid (show WtS (wr.setCell ⟨g,3 + i,none⟩ (.int .i64 (y + 1))) g me n p (tickG me l (i + 1)) by rw [hG];exact hr.set i (y + 1))
     have UU:=Lib.hid (U.trans u2)
     clear hG hr h HG u2 U hne
     repeat' (first|go_values|go_skip|go_guarded|go_step|go_upon|(simp only [];go_at_K))
     go_region
     all_goals (repeat' (first | go_values | go_skip | go_guarded | go_step | go_upon | (simp only [];go_at_K)))
     all_goals exact ⟨⟨i + 1,by omega,by simp,KEY.out,UU.out.drew⟩,by simp [intOf];omega⟩
    ·have d1:decide (y < 1000000)=false:=decide_eq_false hy1
     have hG:tickG me l (i + 1)=tickG me l i:=by rw [HG.out,if_neg (fun hh=>hy1 hh.2)]
     have KEY:=Lib.hid (show WtS wr g me n p (tickG me l (i + 1)) by rw [hG];exact hr)
     clear hG hr h HG
     repeat' (first|go_values|go_skip|go_guarded|go_step|go_upon|(simp only [];go_at_K))
     exact ⟨⟨i + 1,by omega,by simp,KEY.out,U⟩,by simp [intOf];omega⟩
  ·obtain rfl:i=n:=by omega
   have hil:¬ ((i:Int) < (i:Int)):=by omega
   have KEY:=Lib.hid hr
   clear h hr
   repeat' (first|go_values|go_skip|go_guarded|go_step|go_upon|(simp only [];go_at_K))
   exact bodyPost_end (results_none rfl _ _ _) rfl ⟨rfl,KEY.out,U⟩
end Go.Proofs.YtijhlbeipglieaaGreat
