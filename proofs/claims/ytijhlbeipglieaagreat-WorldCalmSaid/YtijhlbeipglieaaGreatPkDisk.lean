/- For WorldCalm. -/
import Derived.Test.YtijhlbeipglieaaGreatPkLearn
set_option linter.all false
set_option maxRecDepth 100000
set_option maxHeartbeats 2000000
namespace Go.Proofs.YtijhlbeipglieaaGreat
open Go.RowKit aL Tryz List
def kC(w:World)(g:Nat)(me n p:Int)(l:List Int):Prop:=
 aQ w g 214 ([Value.int .i64 me,.int .i64 n,.int .i64 p]++l.map (Value.int .i64)).toArray∧l.length=7
def qj(me n p:Int):Bool:=decide (1≤n)&&decide (n≤7)&&decide (0≤me)&&decide (me<n)&&decide (1≤p)&&decide (p≤1000)
theorem EF(w:World)(me n p:Int)(h:qj me n p=true) :
  Calls prog 70 #[.int .i64 me,.int .i64 n,.int .i64 p] w fun e w'=>∃g,e=.returned (.tuple #[.pointer (some ⟨g,0,none⟩),.int .i64 0])∧kC w' g me n p [0,0,0,0,0,0,0]∧ab [] [g] w w':=by
 simp only[qj,Bool.and_eq_true,decide_eq_true_eq]at h
 obtain⟨⟨⟨⟨⟨h1,h2⟩,h3⟩,h4⟩,h5⟩,h6⟩:=h
 have d1:decide (n<1)=false:=iO
 have d2:decide (7<n)=false:=iO
 have d3:decide (me<0)=false:=iO
 have d4:decide (n≤me)=false:=iO
 have d5:decide (p<1)=false:=iO
 have d6:decide (1000<p)=false:=iO
 have hb:=aQ.new w 214 #[.int .i64 me,.int .i64 n,.int .i64 p,.int .i64 0,.int .i64 0,.int .i64 0,.int .i64 0,.int .i64 0,.int .i64 0,.int .i64 0]
 have HB:=aA hb
 clear hb
 go_enter func70,ntmps70
 refine wk ?_
 go_ret2
 exact⟨_,rfl,⟨HB.out,rfl⟩,((ab.refl [] w).alloc _).gives (by simp)⟩
theorem TM(w:World)(g:Nat)(me n p:Int)(l:List Int)(h:kC w g me n p l)(s:Int) :
  Calls prog 128 #[.pointer (some ⟨g,0,none⟩),.int .i64 s] w fun e w'=>e=.returned (.bool (decide (0≤s)&&decide (s<n)))∧w=w':=by
 have q1:w.cell? ⟨g,1,none⟩=some (.int .i64 n):=h.1.cell 1
 clear h
 go_enter func128,ntmps128
 by_cases h1:0≤s
 ·have d1:decide (0≤s)=true:=dJ h1
  refine wk ?_
  go_ret
  exact⟨by rw[d1];rfl,rfl⟩
 ·have d1:decide (0≤s)=false:=eE h1
  refine wk ?_
  go_ret
  exact⟨by rw[d1];rfl,rfl⟩
theorem kC.cell{w:World}{g:Nat}{me n p:Int}{l:List Int}(h:kC w g me n p l){i:Nat}(hi:i<l.length):w.cell? ⟨g,3+i,none⟩=some (.int .i64 l[i]):=by
 rw[h.1.cell (3+i),Nat.add_comm 3 i]
 simp[hi]
def nM(p:Int):List Int→Nat→Int
 |[],_=>-1
 |x::l,i=>if x≤p then(i:Int)else nM p l (i+1)
theorem GP(w:World)(g:Nat)(me:Int)(n:Nat)(p:Int)(l:List Int)(h:kC w g me n p l)(hn:n≤7) :
  Calls prog 161 #[.pointer (some ⟨g,0,none⟩)] w fun e w'=>e=.returned (.int .i64 (nM p (l.take n) 0))∧ab [] [] w w':=by
 have q1:w.cell? ⟨g,1,none⟩=some (.int .i64 (n:Int)):=h.1.cell 1
 have q2:w.cell? ⟨g,2,none⟩=some (.int .i64 p):=h.1.cell 2
 have hl:=h.2
 have hc:=fun i hi=>h.cell (i:=i) hi
 have HC:=aA hc
 clear hc h
 obtain⟨R,hR⟩:=bk (nM p (l.take n) 0)
 rw[hR]
 have HR:=aA hR
 clear hR
 go_enter func161,ntmps161
 repeat' go_step
 go_loopw [10] (fun v10 wr=>∃i:Nat,i≤n∧v10=.int .i64 (i:Int)∧nM p ((l.take n).drop i) i=R∧ab [] [] w wr) (fun v10 _=>n-(intOf v10).toNat)
 case atStart=>exact⟨0,by omega,rfl,HR.out,ab.refl _ _⟩
 case round=>
  obtain⟨i,hi,rfl,hr,U⟩:=hrel
  have H:=aA hr
  clear hr HR
  by_cases hlt:i<n
  ·have dK:(i:Int)<(n:Int):=by omega
   have lu:(i:Int)<7:=by omega
   have dC:=aL.wr ((i:Int)+1)
   have c1:=fun N=>(U.drewN N).cell (HC.out i (by omega)) (by simp)
   have c2:=fun N=>(U.drewN N).cell q2 (by simp)
   have hd:(l.take n).drop i=l[i]::(l.take n).drop (i+1):=by
    rw[drop_eq_getElem_cons (by rw[length_take];omega)];simp
   have HD:=aA hd
   clear hd
   by_cases hs:l[i]≤p
   ·have d1:decide (l[i]≤p)=true:=dJ hs
    repeat' go_step
    go_quiet (fail)
    refine wk ?_
    go_ret
    exact⟨by rw[←H.out,HD.out,nM,if_pos hs];rfl,U.drewN _⟩
   ·have d1:decide (l[i]≤p)=false:=eE hs
    repeat' go_step
    go_quiet (fail)
    refine wk ?_
    exact⟨⟨i+1,by omega,rfl,by rw[←H.out,HD.out,nM,if_neg hs],U.drewN _⟩,by simp[intOf];omega⟩
  ·have dK:¬ ((i:Int)<(n:Int)):=by omega
   have he:R= -1:=by rw[←H.out,drop_eq_nil_of_le (by rw[length_take];omega),nM]
   have HE:=aA he
   clear he H
   refine wk ?_
   go_ret
   exact⟨by rw[HE.out];rfl,U⟩
theorem kC.set{w:World}{g:Nat}{me n p:Int}{l:List Int}(h:kC w g me n p l)(i:Nat)(v:Int):kC (w.setCell ⟨g,3+i,none⟩ (.int .i64 v)) g me n p (l.set i v):=by
 refine⟨?_,by rw[length_set];exact h.2⟩
 have:=h.1.cc (3+i) (.int .i64 v)
 rw[Nat.add_comm 3 i]at this ⊢
 simpa[map_set]using this
theorem JX(w:World)(g:Nat)(me:Int)(n:Nat)(p:Int)(l:List Int)(h:kC w g me n p l)(hn:n≤7)(s:Nat)(hs:s<n) :
  Calls prog 69 #[.pointer (some ⟨g,0,none⟩),.int .i64 (s:Int)] w fun e w'=>e=.returned (.tuple #[])∧kC w' g me n p (l.set s 0)∧ab [g] [g] w w':=by
 have C:=TM w g me n p l h (s:Int)
 rw[dJ (show(0:Int)≤(s:Int) by omega),dJ (show(s:Int)<(n:Int) by omega)]at C
 have hk:=aA (h.set s 0)
 obtain⟨z,hc⟩:∃z,w.cell? ⟨g,3+s,none⟩=some z:=⟨_,h.cell (i:=s) (by have:=h.2;omega)⟩
 have hf:=h.1.frozen (3+s)
 have lU:(s:Int)<7:=by omega
 have U:ab [g] [g] w (w.setCell ⟨g,3+s,none⟩ (.int .i64 0)):=(ab.refl [g] w).setCell (.inl (by simp)) _
 clear h
 go_enter func69,ntmps69
 repeat' go_step
 refine C.mono ?_;rintro e w1 ⟨rfl,rfl⟩
 repeat' first|go_step|simp only[];go_at_K
 exact bodyPost_end (results_none rfl _ _ _) rfl ⟨rfl,hk.out,U⟩
def cC(me:Int)(l:List Int):Nat→List Int
 |0=>l
 |i+1=>if(i:Int)≠me∧l.getD i 0<1000000 then(cC me l i).set i (l.getD i 0+1)else cC me l i
theorem rm(me:Int)(l:List Int)(i:Nat):(cC me l i).length=l.length:=by
 induction i with
 |zero=>rfl
 |succ i ih=>unfold cC;split<;>simp[ih]
theorem yp(me:Int)(l:List Int):∀(i j:Nat),i≤j→(cC me l i).getD j 0=l.getD j 0
 |0,_,_=>rfl
 |i+1,j,h=>by
  unfold cC
  split
  ·rw[List.getD_eq_getElem?_getD,List.getElem?_set_ne (by omega),←List.getD_eq_getElem?_getD]
   exact yp me l i j (by omega)
  ·exact yp me l i j (by omega)
theorem tU(me:Int){l:List Int}(h:∀x∈l,0≤x):∀i,∀x∈cC me l i,0≤x
 |0=>h
 |i+1=>by
  unfold cC
  intro x hx
  split at hx
  ·rename_i hc
   rcases mem_or_eq_of_mem_set hx with hx|rfl
   ·exact tU me h i x hx
   ·have:0≤l.getD i 0:=by
     rw[List.getD_eq_getElem?_getD]
     cases hq:l[i]? with
     |none=>simp
     |some y=>exact h y (mem_of_getElem? hq)
    omega
  ·exact tU me h i x hx
theorem MO(w:World)(g:Nat)(me n:Nat)(p:Int)(l:List Int)(h:kC w g me n p l)(hn:n≤7)(hx:∀x∈l,0≤x) :
  Calls prog 94 #[.pointer (some ⟨g,0,none⟩)] w fun e w'=>e=.returned (.tuple #[])∧kC w' g me n p (cC me l n)∧ab [g] [g] w w':=by
 have q1:w.cell? ⟨g,1,none⟩=some (.int .i64 (n:Int)):=h.1.cell 1
 have hl:=h.2
 go_enter func94,ntmps94
 refine wk ?_
 go_loopw [9] (fun v9 wr=>∃i:Nat,i≤n∧v9=.int .i64 (i:Int)∧kC wr g me n p (cC me l i)∧ab [g] [g] w wr) (fun v9 _=>n-(intOf v9).toNat)
 case atStart=>exact⟨0,by omega,rfl,h,ab.refl _ _⟩
 case round=>
  obtain⟨i,hi,rfl,hr,U⟩:=hrel
  by_cases hlt:i<n
  ·have dK:(i:Int)<(n:Int):=by omega
   have lu:(i:Int)<7:=by omega
   have dC:=aL.wr ((i:Int)+1)
   have hlen:i<(cC me l i).length:=by rw[rm];omega
   have hat:(cC me l i)[i]=l.getD i 0:=by
    have:=yp me l i i (Nat.le_refl _)
    rw[List.getD_eq_getElem?_getD,List.getElem?_eq_getElem hlen]at this
    exact this
   obtain⟨y,hy⟩:=bk (l.getD i 0)
   have hy0:0≤y:=by
    rw[←hy,List.getD_eq_getElem?_getD,List.getElem?_eq_getElem (by omega)]
    exact hx _ (getElem_mem _)
   have hc:wr.cell? ⟨g,3+i,none⟩=some (.int .i64 y):=by rw[hr.cell hlen,hat,hy]
   have hf:=hr.1.frozen (3+i)
   have p0:wr.cell? ⟨g,0,none⟩=some (.int .i64 (me:Int)):=hr.1.cell 0
   have HG:=aA (show cC me l (i+1)=if(i:Int)≠me∧y<1000000 then(cC me l i).set i (y+1)else cC me l i by rw[cC,hy])
   clear hat hy hlen
   cases hm:((i:Int) != (me:Int)) with
   |false=>
    have hG:cC me l (i+1)=cC me l i:=by rw[HG.out,if_neg (fun hh=>by have:=hh.1;simp at hm;omega)]
    have bN:=aA (show kC wr g me n p (cC me l (i+1)) by rw[hG];exact hr)
    clear hG hr h HG
    refine wk ?_
    exact⟨⟨i+1,by omega,by simp,bN.out,U⟩,by simp[intOf];omega⟩
   |true=>
    have hne:(i:Int)≠me:=by simpa using hm
    by_cases kx:y<1000000
    ·have d1:decide (y<1000000)=true:=dJ kx
     have hw2:=aL.wr (y+1)
     have hG:cC me l (i+1)=(cC me l i).set i (y+1):=by rw[HG.out,if_pos ⟨hne,kx⟩]
     have u2:ab [g] [g] wr (wr.setCell ⟨g,3+i,none⟩ (.int .i64 (y+1))):=(ab.refl [g] wr).setCell (p:=⟨g,3+i,none⟩) (.inl (by simp)) _
     have bN:=aA (show kC (wr.setCell ⟨g,3+i,none⟩ (.int .i64 (y+1))) g me n p (cC me l (i+1)) by rw[hG];exact hr.set i (y+1))
     have UU:=aA (U.trans u2)
     clear hG hr h HG u2 U hne
     repeat' first|go_guarded|go_step
     go_region
     all_goals (refine wk ?_)
     all_goals exact⟨⟨i+1,by omega,by simp,bN.out,UU.out.drew⟩,by simp[intOf];omega⟩
    ·have d1:decide (y<1000000)=false:=eE kx
     have hG:cC me l (i+1)=cC me l i:=by rw[HG.out,if_neg (fun hh=>kx hh.2)]
     have bN:=aA (show kC wr g me n p (cC me l (i+1)) by rw[hG];exact hr)
     clear hG hr h HG
     refine wk ?_
     exact⟨⟨i+1,by omega,by simp,bN.out,U⟩,by simp[intOf];omega⟩
  ·obtain rfl:i=n:=by omega
   have dK:¬ ((i:Int)<(i:Int)):=by omega
   have bN:=aA hr
   clear h hr
   refine wk ?_
   exact bodyPost_end (results_none rfl _ _ _) rfl ⟨rfl,bN.out,U⟩
end Go.Proofs.YtijhlbeipglieaaGreat
namespace aL
open Go Go.RowKit Go.Maps List
theorem JY{e:TypeId}{size base:Nat}{w:World}{v:Value}{n:Nat}{xs:List Value}(h:w.ownsRow base e size v n xs):(∃A c,v=.slice A n c∧Own e size w A n c xs)∧∀A c,v=.slice A n c→0<n→∀k∈ak A,base≤k:=by
 rcases h.2 with⟨hv,hn⟩|⟨g,cap,cur,hv,hb,rest⟩
 ·subst hn
  refine⟨⟨none,0,hv,⟨h.1,.inl ⟨rfl,rfl⟩⟩⟩,fun A c _ h0=>by omega⟩
 ·refine⟨⟨some ⟨g,0,none⟩,cap,hv,⟨h.1,.inr ⟨g,cap,cur,rfl,Nat.zero_le _,rest⟩⟩⟩,fun A c oS _ k hk=>?_⟩
  rw[hv]at oS
  injection oS with hA
  subst hA
  simp[ak]at hk
  omega
structure Z1(e:TypeId)(w:World)(A:Option Addr)(n c:Nat)(l:List UInt8):Prop where
 cap:c=n
 rd:bE w A n l
 aO:∃g cur,A=some ⟨g,0,none⟩∧w.heap[g]? =some (.cells cur e (0,0))
def jB(e:TypeId)(w:World)(A:Option Addr)(n c:Nat)(l:List UInt8):Prop:=bW e w A n c l∨Z1 e w A n c l
section
variable {e:TypeId} {w w':World} {A:Option Addr} {n c:Nat} {l:List UInt8}
theorem jB.nil(e:TypeId)(w:World):jB e w none 0 0 []:=.inl (bW.nil _ _)
theorem jB.rd(h:jB e w A n c l):bE w A n l:=by
 rcases h with h|h
 ·exact h.rd
 ·exact h.rd
theorem jB.len(h:jB e w A n c l):n=l.length:=h.rd.len
theorem jB.le(h:jB e w A n c l):n≤c:=by
 rcases h with h|h
 ·exact h.own.cap.1
 ·rw[h.cap];exact Nat.le_refl _
theorem jB.block(h:jB e w A n c l):∀k∈ak A,∃cur,w.heap[k]? =some (.cells cur e (0,0)):=by
 rcases h with h1|h1
 ·intro k hk
  rcases h1.own.2 with⟨hv,_⟩|⟨g,cap,cur,hv,_,hg,_⟩
  ·injection hv with hA;subst hA;simp[ak]at hk
  ·injection hv with hA;subst hA;simp[ak]at hk;subst hk;exact⟨cur,hg⟩
 ·obtain⟨g,cur,rfl,hg⟩:=h1.aO
  intro k hk;simp[ak]at hk;subst hk;exact⟨cur,hg⟩
theorem jB.aq{a b:List Nat}(h:jB e w A n c l)(hu:ab a b w w')(hd:∀k∈ak A,k∉a):jB e w' A n c l:=by
 rcases h with h1|h1
 ·exact .inl (h1.aq hu hd)
 ·obtain⟨g,cur,hA,hg⟩:=h1.aO
  exact .inr ⟨h1.cap,h1.rd.aq hu hd,g,cur,hA,(hu.block g (Array.getElem?_eq_some_iff.1 hg).1 (hd g (by simp[hA,ak]))).trans hg⟩
theorem jB.app{P:Program}(h:jB e w A n c l){t:TypeId}(ty:TypeId)(ht:P.underlying t=some (.slice e))(hi:(P.info? e).map (fun i=>(i.zero,i.size,i.bytes))=some (some (.int .u8 0),1,1)){B:Option Addr}{m d:Nat}{r:List UInt8}(hr:bE w B m r)(hm:0<r.length)(hb:l.length+r.length≤140737488355328) :
  ∃A' c' w',(Builtin.append_ #[t,t] ty #[.slice A n c,.slice B m d]).run P w=.ok (.slice A' (n+m) c') w'∧bW e w' A' (n+m) c' (l++r)∧ab (ak A) (ak A') w w':=by
 have hn:=h.len
 have si:=hr.len
 rcases h with h1|h1
 ·obtain⟨A',c',w',hrun,ho,hu⟩:=lL (P:=P) w t ty e ht hi rfl (by decide) A n c _ h1.own B m d _ hr (Hx r) (by unfold maxLen;omega) (by omega)
  exact⟨A',c',w',hrun,⟨by simp[hn,si],by rw[pW];exact ho⟩,hu⟩
 ·obtain⟨g,cur,rfl,hg⟩:=h1.aO
  obtain⟨i,MP,hz,hsize,hby⟩:=info_parts hi
  obtain⟨ad,e1,hc⟩:=hr.2 (by omega)
  subst e1
  have holds:∀j u,(iF l)[j]? =some u→w.cell? ((⟨g,0,none⟩:Addr).add j)=some u:=by
   intro j u hu
   rcases Nat.eq_zero_or_pos n with h0|h0
   ·have hl0:l= []:=eq_nil_of_length_eq_zero (by omega)
    subst hl0;simp[iF]at hu
   ·obtain⟨Vh,e',BF⟩:=h1.rd.2 h0
    injection e' with e';subst e'
    exact BF j u hu
  obtain⟨v',w',hrun,ho,hgr⟩:=run_append_arg_grows (P:=P) w t ty e i _ 1 1 ht MP hz hsize hby rfl (by decide) ⟨g,0,none⟩ n c _ h1.rd.1 holds ad m d (iF r) hr.1 hc (by rw[h1.cap];omega) (by unfold maxLen;omega) (by omega)
  obtain⟨⟨A',c',rfl,na⟩,hbase⟩:=JY ho
  refine⟨A',c',w',hrun,⟨by simp[hn,si],by rw[pW];exact na⟩,(((ab.refl _ w).grown hgr (fun k h=>by cases h)).gives (fun k hk=>.inr (hbase A' c' rfl (by omega) k hk)))⟩
end
theorem JZ{P:Program}{w:World}{ops:Array Oper}{rest:List Oper}{o:Oper}{a:Act}{Q:Exit→Act→World→Prop}(hgd:o.guard=none)(s x:Operand)(t:TypeId)(ho:o.op=.call {callee:=.builtin .append,args:=#[s,x],argTypes:=#[t,t]}){vs vx v:Value}{w':World}(hs:a.eval s=vs)(hx:a.eval x=vx)(hrun:(Builtin.append_ #[t,t] o.type #[vs,vx]).run P w=.ok v w')(h:wpList P ops Q rest (a.put o.dst v) w'):wpList P ops Q (o::rest) a w:=by
 refine wpList_plain hgd fun K hK=>?_
 unfold Oper.wp
 simp[execOp,ho,resolve,invoke,builtin,hs,hx,hrun,Result.andThen]
 exact hK _ _ h
def cl(w:World)(k:Nat):Option (Option TypeId):=
 match w.heap[k]? with
 |some (.cells _ t _)=>some (some t)
 |some (.map _ _)=>some none
 |_=>none
theorem aQ.tag{w:World}{g:Nat}{t:TypeId}{cs:Array Value}(h:aQ w g t cs):cl w g=some (some t):=by
 unfold aQ at h;unfold cl;rw[h]
theorem Own.tag{e:TypeId}{size:Nat}{w:World}{A:Option Addr}{n c:Nat}{xs:List Value}(h:Own e size w A n c xs):∀k∈ak A,cl w k=some (some e):=by
 intro k hk
 rcases h.2 with⟨hv,_⟩|⟨g,cap,cur,hv,_,hg,_⟩
 ·injection hv with hA;subst hA;simp[ak]at hk
 ·injection hv with hA;subst hA;simp[ak]at hk;subst hk;unfold cl;rw[hg]
theorem cz.tag{P:Program}{k:TypeId}{w:World}{b:Nat}{M:KV}(h:cz P k w b M):cl w b=some none:=by
 obtain⟨es,clock,hb,-⟩:=h
 unfold cl;rw[hb]
theorem sJ{w w':World}{a b:List Nat}(hu:ab a b w w'){k:Nat}(hk:k∉a){t:Option TypeId}(ht:cl w k=some t):cl w' k=some t:=by
 have hlt:k<w.heap.size:=by
  rcases Nat.lt_or_ge k w.heap.size with h|h
  ·exact h
  ·unfold cl at ht;rw[Array.getElem?_eq_none h]at ht;cases ht
 unfold cl at ht ⊢
 rw[hu.block k hlt hk];exact ht
theorem fJ{w:World}{k:Nat}{t:Option TypeId}(ht:cl w k=some t):k<w.heap.size:=by
 rcases Nat.lt_or_ge k w.heap.size with h|h
 ·exact h
 ·unfold cl at ht;rw[Array.getElem?_eq_none h]at ht;cases ht
theorem bx{w:World}{k k':Nat}{t t':Option TypeId}(h:cl w k=some t)(h':cl w k'=some t')(hne:t≠t'):k≠k':=by
 rintro rfl;rw[h]at h';injection h' with h';exact hne h'
theorem cp{w:World}{k:Nat}{t t':Option TypeId}{X:List Nat}(h:cl w k=some t)(h':∀j∈X,cl w j=some t')(hne:t≠t'):k∉X:=fun hm=>bx h (h' k hm) hne rfl
theorem cY{w:World}{t t':Option TypeId}{X Y:List Nat}(h:∀j∈Y,cl w j=some t)(h':∀j∈X,cl w j=some t')(hne:t≠t'):∀k∈Y,k∉X:=fun _ hk=>cp (h _ hk) h' hne
end aL
namespace Go.Proofs.YtijhlbeipglieaaGreat
open Go.RowKit aL Tryz List
structure iy(w:World)(g:Nat)(A:Option Addr)(n c:Nat)(b:List UInt8)(s:Nat):Prop where
 aO:aQ w g 197 #[.slice A n c,.int .i64 (s:Int)]
 row:jB 5 w A n c b
 ne:∀k∈ak A,k≠g
 s:s≤b.length
 len:b.length≤1048576
theorem iy.tag{w:World}{g:Nat}{A:Option Addr}{n c:Nat}{b:List UInt8}{s:Nat}(h:iy w g A n c b s):∀k∈ak A,cl w k=some (some 5):=fun k hk=>by
 obtain⟨cur,hg⟩:=h.row.block k hk
 unfold cl;rw[hg]
theorem iy.aq{w w':World}{g:Nat}{A:Option Addr}{n c:Nat}{b:List UInt8}{s:Nat}{x y:List Nat}(h:iy w g A n c b s)(hu:ab x y w w')(h1:g∉x)(h2:∀k∈ak A,k∉x):iy w' g A n c b s:=
 ⟨h.aO.aq hu h1,h.row.aq hu h2,h.ne,h.s,h.len⟩
theorem TN(w:World):Calls prog 78 #[] w fun e w'=>∃g,e=.returned (.pointer (some ⟨g,0,none⟩))∧iy w' g none 0 0 [] 0∧ab [] [g] w w':=by
 have hb:=aQ.new w 197 #[.slice none 0 0,.int .i64 0]
 have U:ab [] [w.heap.size] w (w.alloc (.cells #[.slice none 0 0,.int .i64 0] 197)):=((ab.refl [] w).alloc _).gives (by simp)
 have key:=aA (show iy (w.alloc (.cells #[.slice none 0 0,.int .i64 0] 197)) w.heap.size none 0 0 [] 0 from⟨hb,jB.nil _ _,by simp[ak],by simp,by simp⟩)
 clear hb
 go_enter func78,ntmps78
 refine wk ?_
 go_ret
 exact⟨_,rfl,key.out,U⟩
theorem PR(w:World)(g:Nat)(A:Option Addr)(n c:Nat)(b:List UInt8)(s:Nat)(h:iy w g A n c b s) :
  Calls prog 65 #[.pointer (some ⟨g,0,none⟩)] w fun e w'=>e=.returned (.tuple #[])∧iy w' g A n c b b.length∧ab [g] [g] w w':=by
 obtain⟨⟨q0,q1⟩,f0,f1⟩:=h.aO.c2
 have hn:n=b.length:=h.row.len
 have hB:=h.aO.cc 1 (.int .i64 (n:Int))
 have hu:ab [g] [g] w (w.setCell ⟨g,1,none⟩ (.int .i64 (n:Int))):=(ab.refl [g] w).setCell (.inl (by simp)) _
 have key:=aA (show iy (w.setCell ⟨g,1,none⟩ (.int .i64 (n:Int))) g A n c b b.length from⟨by rw[←hn];exact hB,h.row.aq hu (by simpa using h.ne),h.ne,by omega,h.len⟩)
 clear h hB hn
 go_enter func65,ntmps65
 refine wk ?_
 exact bodyPost_end (results_none rfl _ _ _) rfl ⟨rfl,key.out,hu⟩
theorem MQ(w:World)(g:Nat)(A:Option Addr)(n c:Nat)(b:List UInt8)(s:Nat)(h:iy w g A n c b s) :
  Calls prog 73 #[.pointer (some ⟨g,0,none⟩)] w fun e w'=>∃A' n' c',e=.returned (.slice A' n' c')∧bW 5 w' A' n' c' b∧ab [] (ak A') w w':=by
 obtain⟨⟨q0,q1⟩,-⟩:=h.aO.c2
 have C:=di w A n c b h.row.rd (by have:=h.len;omega)
 clear h
 go_enter func73,ntmps73
 repeat' go_step
 refine C.mono ?_;rintro e w2 ⟨A',n',c',rfl,ho,hu⟩
 refine wk ?_
 go_ret
 exact⟨A',n',c',rfl,ho,hu⟩
theorem PS(w:World)(g:Nat)(A:Option Addr)(n c:Nat)(b:List UInt8)(s:Nat)(h:iy w g A n c b s)(B:Option Addr)(m d:Nat)(v:List UInt8)(hv:bE w B m v)(hf:1048576<b.length+v.length)(hl:v.length≤1099511627776) :
  Calls prog 190 #[.pointer (some ⟨g,0,none⟩),.slice B m d] w fun e w'=>e=.returned (.int .i64 5)∧w=w':=by
 obtain⟨⟨q0,q1⟩,-⟩:=h.aO.c2
 have hn:n=b.length:=h.row.len
 have hm:m=v.length:=hv.len
 have qm:=h.len
 have hw:=aL.wr (1048576-(n:Int))
 have d1:decide (1048576-(n:Int)<(m:Int))=true:=oT
 clear h hv hn hm hf hl qm
 go_enter func190,ntmps190
 refine wk ?_
 go_ret
 exact⟨rfl,rfl⟩
theorem J0(w:World)(g:Nat)(A:Option Addr)(n c:Nat)(b:List UInt8)(s:Nat)(h:iy w g A n c b s)(B:Option Addr)(m d:Nat)(v:List UInt8)(hv:bE w B m v)(hv0:0<v.length)(hf:b.length+v.length≤1048576) :
  Calls prog 190 #[.pointer (some ⟨g,0,none⟩),.slice B m d] w fun e w'=>∃A' n' c',e=.returned (.int .i64 0)∧iy w' g A' n' c' (b++v) s∧ab (g::ak A) (g::ak A') w w':=by
 obtain⟨⟨q0,q1⟩,-⟩:=h.aO.c2
 have hn:n=b.length:=h.row.len
 have hm:m=v.length:=hv.len
 have hw:=aL.wr (1048576-(n:Int))
 have d1:decide (1048576-(n:Int)<(m:Int))=false:=iO
 clear hn hm
 go_enter func190,ntmps190
 repeat' (fail_if_success with_reducible refine ba rfl ?_);go_step
 obtain⟨A2,c2,w2,hrun,ho,hu⟩:=h.row.app 28 underlying28 l8 (d:=d) hv hv0 (by omega)
 obtain⟨k2,hk2⟩:∃k,n+m=k:=⟨_,rfl⟩
 rw[hk2]at hrun ho
 refine JZ rfl _ _ 28 rfl rfl rfl hrun ?_
 have hg:g∉ak A:=fun hk=>h.ne g hk rfl
 have hb2:=h.aO.aq hu hg
 obtain⟨⟨p0,p1⟩,f0,f1⟩:=hb2.c2
 have hne:∀k∈ak A2,k≠g:=fun k hk=>by
  rcases hu.fresh k hk with h1|h1
  ·exact h.ne k h1
  ·have:=h.aO.lt;omega
 have cQ:ab [g] [g] w2 (w2.setCell ⟨g,0,none⟩ (.slice A2 k2 c2)):=(ab.refl [g] w2).setCell (.inl (by simp)) _
 have hs:=h.s
 have key:=aA (show iy (w2.setCell ⟨g,0,none⟩ (.slice A2 k2 c2)) g A2 k2 c2 (b++v) s from⟨hb2.cc 0 _,.inl (ho.aq cQ (by simpa using hne)),hne,by rw[length_append];omega,by rw[length_append];omega⟩)
 have U:ab (g::ak A) (g::ak A2) w (w2.setCell ⟨g,0,none⟩ (.slice A2 k2 c2)):=
  ((hu.mono (a':=g::ak A) (b':=g::ak A2) (by simp;intro k hk;exact .inr hk) (by simp;intro k hk;exact .inl hk))).setCell (.inl (by simp)) _
 clear h hv ho hu hb2 cQ hne hg
 refine wk ?_
 go_ret
 exact⟨A2,k2,c2,rfl,key.out,U⟩
end Go.Proofs.YtijhlbeipglieaaGreat
namespace aL
open Go Go.RowKit List
theorem jB.cut{e:TypeId}{w:World}{A:Option Addr}{n c:Nat}{l:List UInt8}(h:jB e w A n c l)(k:Nat)(hk:k≤n):jB e w A k k (l.take k):=by
 have hr:=h.rd.pre k hk
 cases A with
 |none=>
  have h0:k=0:=by
   rcases Nat.eq_zero_or_pos k with h0|h0
   ·exact h0
   ·obtain⟨ad,e1,-⟩:=h.rd.2 (by omega)
    cases e1
  subst h0
  exact .inl (bW.nil _ _)
 |some ad=>
  right
  refine⟨rfl,hr,?_⟩
  rcases h with h1|h1
  ·rcases h1.own.2 with⟨hv,_⟩|⟨g,cap,cur,hv,_,hg,_⟩
   ·injection hv with hA;cases hA
   ·injection hv with hA;injection hA with hA;subst hA;exact⟨g,cur,rfl,hg⟩
  ·exact h1.aO
end aL
namespace Go.Proofs.YtijhlbeipglieaaGreat
open Go.RowKit aL Tryz List
theorem BT(w:World)(g:Nat)(A:Option Addr)(n c:Nat)(b:List UInt8)(s:Nat)(h:iy w g A n c b s)(k:Nat)(hk:k≤n) :
  Calls prog 120 #[.pointer (some ⟨g,0,none⟩),.int .i64 (k:Int)] w fun e w'=>e=.returned (.tuple #[])∧aQ w' g 197 #[.slice A k k,.int .i64 (s:Int)]∧jB 5 w' A k k (b.take k)∧ab [g] [g] w w':=by
 obtain⟨⟨q0,q1⟩,f0,f1⟩:=h.aO.c2
 have hn:n=b.length:=h.row.len
 have hc:=h.row.le
 have hcut:=aA (h.row.cut k hk)
 have hne:=h.ne
 have hB:=aA (h.aO.cc 0 (.slice A k k))
 have u:ab [g] [g] w (w.setCell ⟨g,0,none⟩ (.slice A k k)):=(ab.refl [g] w).setCell (p:=⟨g,0,none⟩) (.inl (by simp)) _
 have qm:=h.len
 clear h
 go_enter func120,ntmps120
 refine wk ?_
 exact bodyPost_end (results_none rfl _ _ _) rfl ⟨rfl,hB.out,hcut.out.aq u (fun x hx=>by simp only[mem_singleton];exact hne x hx),u⟩
def kj(n s:Nat)(k:Int):Nat:=s+(max 0 (min k ((n:Int)-s))).toNat
theorem MR(w:World)(g:Nat)(A:Option Addr)(n c:Nat)(b:List UInt8)(s:Nat)(h:iy w g A n c b s)(k:Int) :
  Calls prog 67 #[.pointer (some ⟨g,0,none⟩),.int .i64 k] w fun e w'=>e=.returned (.tuple #[])∧iy w' g A (kj b.length s k) (kj b.length s k) (b.take (kj b.length s k)) (kj b.length s k)∧ab [g] [g] w w':=by
 obtain⟨⟨q0,q1⟩,f0,f1⟩:=h.aO.c2
 have hn:n=b.length:=h.row.len
 have hs:=h.s
 have qm:=h.len
 have hK:s≤kj b.length s k∧kj b.length s k≤b.length:=by unfold kj;omega
 have e1:=aL.wr ((n:Int)-(s:Int))
 obtain⟨K,WD⟩:=bk (kj b.length s k)
 have HKE:=aA (show(K:Int)=(s:Int)+max 0 (min k ((n:Int)-s)) by rw[←WD,hn];unfold kj;omega)
 rw[WD]at hK ⊢
 clear WD
 go_enter func67,ntmps67
 repeat' go_step
 go_region
 all_goals (repeat' go_step)
 have h0:iy w.drew g A b.length c b s:=hn▸h.aq (ab.refl [] w).drew (by simp) (by simp)
 rw[show((s:Int)+if 0<(if(b.length:Int)-(s:Int)<k then(b.length:Int)-(s:Int)else k) then(if(b.length:Int)-(s:Int)<k then(b.length:Int)-(s:Int)else k)else 0)=(K:Int) by
  rw[HKE.out,hn];split<;>split<;>omega]
 refine(BT w.drew g A b.length c b s h0 K hK.2).mono ?_;rintro e w1 ⟨rfl,gh,gT,bn⟩
 obtain⟨⟨p0,p1⟩,g0,g1⟩:=gh.c2
 have hne:=h.ne
 have u2:ab [g] [g] w1 (w1.setCell ⟨g,1,none⟩ (.int .i64 (K:Int))):=(ab.refl [g] w1).setCell (p:=⟨g,1,none⟩) (.inl (by simp)) _
 have bN:=aA (show iy (w1.setCell ⟨g,1,none⟩ (.int .i64 (K:Int))) g A K K (b.take K) K from⟨gh.cc 1 _,gT.aq u2 (fun x hx=>by simp only[mem_singleton];exact hne x hx),hne,by rw[length_take];omega,by rw[length_take];omega⟩)
 have UU:=(((ab.refl [g] w).drew).trans bn).trans u2
 clear h h0 gh gT bn u2
 refine wk ?_
 exact bodyPost_end (results_none rfl _ _ _) rfl ⟨rfl,bN.out,UU⟩
theorem TO(w:World)(g:Nat)(A:Option Addr)(n c:Nat)(b:List UInt8)(s:Nat)(h:iy w g A n c b s)(k:Nat)(hk:k≤b.length) :
  Calls prog 74 #[.pointer (some ⟨g,0,none⟩),.int .i64 (k:Int)] w fun e w'=>e=.returned (.int .i64 0)∧iy w' g A k k (b.take k) (min s k)∧ab [g] [g] w w':=by
 have hn:n=b.length:=h.row.len
 have hs:=h.s
 have qm:=h.len
 have hne:=h.ne
 have C:=BT w g A n c b s h k (by omega)
 obtain⟨⟨q0,q1⟩,f0,f1⟩:=h.aO.c2
 have d0:decide ((k:Int)<0)=false:=iO
 have d1:decide (n<k)=false:=iO
 have HN:=aA hn
 clear hn h
 go_enter func74,ntmps74
 repeat' first|go_guarded|go_step
 refine C.mono ?_;rintro e w1 ⟨rfl,gh,gT,bn⟩
 obtain⟨⟨p0,p1⟩,g0,g1⟩:=gh.c2
 have u2:ab [g] [g] w1 (w1.setCell ⟨g,1,none⟩ (.int .i64 ((min s k:Nat):Int))):=(ab.refl [g] w1).setCell (p:=⟨g,1,none⟩) (.inl (by simp)) _
 have bN:=aA (show iy (w1.setCell ⟨g,1,none⟩ (.int .i64 ((min s k:Nat):Int))) g A k k (b.take k) (min s k) from⟨gh.cc 1 _,gT.aq u2 (fun x hx=>by simp only[mem_singleton];exact hne x hx),hne,by rw[length_take];omega,by rw[length_take];omega⟩)
 have UU:=aA (bn.trans u2)
 have ahE:(if k<s then(k:Int) else(s:Int))=((min s k:Nat):Int):=by split<;>omega
 clear gh gT bn u2 C
 refine wk ?_
 go_ret
 exact⟨rfl,bN.out,UU.out⟩
