/- Layer 24: agiolaw24.WorldOnce. -/
import Derived.Test.YtijhlbeipglieaaGreatPkWrldU
set_option linter.all false
set_option maxRecDepth 100000
set_option maxHeartbeats 16000000
namespace Go.Proofs.YtijhlbeipglieaaGreat
open Go.RowKit Agio Go.Maps
def putO (l:List PutV) (x:Int) (v:List UInt8):Prop:=∃p∈l,p.slot=x∧p.b=v
def putN (l:List PutV) (v:List UInt8):Nat:=(l.filter fun p=>p.b == v).length
theorem putN_one:∀{l:List PutV} {v:List UInt8},l.Pairwise (fun p q=>p.b≠q.b)→(∃p∈l,p.b=v)→putN l v=1
 | [],_,_,h=>by obtain ⟨p,hp,-⟩:=h;cases hp
 | p :: l,v,hp,h=>by
  rw [List.pairwise_cons] at hp
  unfold putN
  rw [List.filter_cons]
  by_cases e:p.b=v
  ·have h0:(l.filter fun q=>q.b == v)= []:=List.filter_eq_nil_iff.2 fun q hq hb=>hp.1 q hq (e.trans (eq_of_beq hb).symm)
   rw [if_pos (by simp [e]),h0];rfl
  ·rw [if_neg (by simpa using e)]
   refine putN_one hp.2 ?_
   obtain ⟨q,hq,hv⟩:=h
   rcases List.mem_cons.1 hq with rfl | hq
   ·exact absurd hv e
   ·exact ⟨q,hq,hv⟩
theorem putN_succ {l:List PutV} {v:List UInt8} {j:Nat} (h:j < l.length):putN (l.take (j + 1)) v=putN (l.take j) v + (if l[j].b=v then 1 else 0):=by
 unfold putN
 rw [List.take_succ_eq_append_getElem h,List.filter_append,List.length_append]
 congr 1
 by_cases e:l[j].b=v <;> simp [e]
theorem putN_le (l:List PutV) (v:List UInt8):putN l v≤l.length:=List.length_filter_le _ _
theorem pair_same {l:List PutV} (h:l.Pairwise (fun p q=>p.b≠q.b)) {p q:PutV} (hp:p∈l) (hq:q∈l) (e:p.b=q.b):p=q:=by
 obtain ⟨a,ha,rfl⟩:=List.mem_iff_getElem.1 hp
 obtain ⟨b,hb,rfl⟩:=List.mem_iff_getElem.1 hq
 have hh:=List.pairwise_iff_getElem.1 h
 rcases Nat.lt_trichotomy a b with h1 | h1 | h1
 ·exact absurd e (hh a b ha hb h1)
 ·subst h1;rfl
 ·exact absurd e.symm (hh b a hb ha h1)
theorem _root_.Agio.WInv.once {w:Wd} {n c:Nat} {puts:List PutV} {G:Int→List Rc} (h:WInv w n (putO puts) c G) (hD:DInv w) (hp:puts.Pairwise (fun p q=>p.b≠q.b)) {i:Nat} (hi:i < w.ss.length) :
  (w.done.getD i []).Nodup∧∀v∈w.done.getD i [],putN puts v=1:=by
 obtain ⟨f,t,h1,h2⟩:=h.doneP hD hi
 rw [h1]
 have key:∀x,x < t→f x≠[]→∃p∈puts,p.slot=(x:Int)∧p.b=f x:=fun x hx hn=>by
  rcases h.glob.dec_valid (h2 x hx) with e | e
  ·exact absurd e hn
  ·exact e
 refine ⟨valsF_nodup fun x y hx hy e hn=>?_,fun v hv=>?_⟩
 ·obtain ⟨p,k1,k2,k3⟩:=key x hx hn
  obtain ⟨q,k4,k5,k6⟩:=key y hy (e▸hn)
  have:=pair_same hp k1 k4 (k3.trans (e.trans k6.symm))
  subst this
  omega
 ·obtain ⟨hn,x,hx,rfl⟩:=valsF_mem hv
  obtain ⟨p,k1,-,k3⟩:=key x hx hn
  exact putN_one hp ⟨p,k1,k3⟩
structure OnS (w wr:World) (V:WV) (k i cr:Nat) (puts:List PutV) (A:Option Addr) (c:Nat):Prop where
 ws:WS wr V
 inv:∃G,WInv V.pl k (putO puts) cr G
 din:DInv V.pl
 own:Agio.Own 81 2 wr A puts.length c (puts.flatMap PutV.cells)
 pr:∀p∈puts,BytV wr V p.sl∧∃j,j < i∧p.b= [UInt8.ofNat j,0,1]
 one:puts.Pairwise fun p q=>p.b≠q.b
 fresh:∀q∈ablk A,w.heap.size≤q
 plen:puts.length≤i
 up:Upd [] V.fp w wr
namespace OnS
variable {w wr w':World} {V V':WV} {k i cr:Nat} {puts:List PutV} {A:Option Addr} {c:Nat}
theorem upd0 (h:OnS w wr V k i cr puts A c) {b:List Nat} (hu:Upd [] b wr w'):OnS w w' V k i cr puts A c:=
 ⟨h.ws.upd0 hu,h.inv,h.din,h.own.upd hu (by simp),fun p hp=>⟨(h.pr p hp).1.off hu (by simp),(h.pr p hp).2⟩,h.one,h.fresh,h.plen,h.up.trans (hu.up V.fp)⟩
theorem len (h:OnS w wr V k i cr puts A c):V.pl.ss.length=k:=by
 obtain ⟨G,h1⟩:=h.inv
 exact h1.len
theorem turn (h:OnS w wr V k i cr puts A c) {cr':Nat} (hw:WS w' V') (hu:Upd V.fp V'.fp wr w') (hi:∃G,WInv V'.pl k (putO puts) cr' G) (hd:DInv V'.pl):OnS w w' V' k i cr' puts A c:=
 ⟨hw,hi,hd,h.own.upd hu (fun q hq=>h.ws.offAny (h.own.tag q hq) (by decide)),fun p hp=>⟨(h.pr p hp).1.step hu,(h.pr p hp).2⟩,h.one,h.fresh,h.plen,h.up.trans hu⟩
theorem wlv (h:OnS w wr V k i cr puts A c) {y:Nat} (hy:y≤cr):WLv V.pl y:=by
 obtain ⟨G,h1⟩:=h.inv
 intro a s hs
 exact (h1.lv a s hs).less hy
theorem played (h:OnS w wr V k i (300 + cr) puts A c) (hi:i < 150) (hcr:cr≤400000000) (hw:WS w' V') (hu:Upd V.fp V'.fp wr w') {kk ss aa nn:Int} {v:List UInt8} (hp:V'.pl=(V.pl.do_ kk ss aa nn v).1) {p:PutV} {A':Option Addr} {c':Nat} {w'':World}
  (hs:kk=1→(V.pl.do_ kk ss aa nn v).2.2=0→p.slot=(V.pl.do_ kk ss aa nn v).2.1∧p.b=v) (hpr:BytV w' V' p.sl) (hv:p.b= [UInt8.ofNat i,0,1])
  (ho:Agio.Own 81 2 w'' A' (puts.length + 1) c' (puts.flatMap PutV.cells ++ p.cells)) (hA:∀q∈ablk A',q∈ablk A∨w.heap.size≤q) (hu2:Upd (ablk A) (ablk A') w' w''):OnS w w'' V' k (i + 1) cr (puts ++ [p]) A' c':=by
 have hown':Agio.Own 81 2 w' A puts.length c (puts.flatMap PutV.cells):=h.own.upd hu (fun q hq=>h.ws.offAny (h.own.tag q hq) (by decide))
 have ht:∀q∈ablk A,∃t,tagW w' q=some t∧t∉worldTags:=fun q hq=>⟨_,hown'.tag q hq,by decide⟩
 refine ⟨hw.updOff hu2 ht,?_,by rw [hp];exact h.din.do_ kk ss aa nn v,?_,fun q hq=>?_,?_,fun q hq=>?_,?_,(h.up.trans hu).ownL h.fresh hu2⟩
 ·obtain ⟨G,h1⟩:=h.inv
  obtain ⟨G',-,h3⟩:=h1.do_ (P':=putO (puts ++ [p])) hcr kk ss aa nn v (fun x v ⟨q,h4,h5⟩=>⟨q,List.mem_append.2 (.inl h4),h5⟩) (fun e0 e1=>⟨p,List.mem_append.2 (.inr (by simp)),hs e0 e1⟩)
  exact ⟨G',by rw [hp];exact h3⟩
 ·rw [List.flatMap_append,List.length_append]
  simpa using ho
 ·rcases List.mem_append.1 hq with hq | hq
  ·obtain ⟨k1,j,k2,k3⟩:=h.pr q hq
   exact ⟨(k1.step hu).off hu2 ht,j,by omega,k3⟩
  ·rw [List.mem_singleton] at hq;subst hq
   exact ⟨hpr.off hu2 ht,i,by omega,hv⟩
 ·refine List.pairwise_append.2 ⟨h.one,List.pairwise_singleton _ _,fun q hq r hr e=>?_⟩
  rw [List.mem_singleton] at hr;subst hr
  obtain ⟨-,j,k2,k3⟩:=h.pr q hq
  rw [k3,hv] at e
  simp only [List.cons.injEq,and_true] at e
  have:=congrArg UInt8.toNat e
  simp only [UInt8.toNat_ofNat'] at this
  omega
 ·rcases hA q hq with h4 | h4
  ·exact h.fresh q h4
  ·exact h4
 ·rw [List.length_append,List.length_singleton];have:=h.plen;omega
theorem passed (h:OnS w wr V k i (300 + cr) puts A c) (hcr:cr≤400000000) (hw:WS w' V') (hu:Upd V.fp V'.fp wr w') {kk ss aa nn:Int} {v:List UInt8} (hp:V'.pl=(V.pl.do_ kk ss aa nn v).1) (hs:kk=1→(V.pl.do_ kk ss aa nn v).2.2=0→False):OnS w w' V' k (i + 1) cr puts A c:=by
 have h9:OnS w w' V' k i cr puts A c:=h.turn hw hu (by
  obtain ⟨G,h1⟩:=h.inv
  obtain ⟨G',-,h3⟩:=h1.do_ (P':=putO puts) hcr kk ss aa nn v (fun _ _ h=>h) (fun e0 e1=>(hs e0 e1).elim)
  exact ⟨G',by rw [hp];exact h3⟩) (by rw [hp];exact h.din.do_ kk ss aa nn v)
 exact ⟨h9.ws,h9.inv,h9.din,h9.own,fun p hp=>⟨(h9.pr p hp).1,by obtain ⟨j,k2,k3⟩:=(h9.pr p hp).2;exact ⟨j,by omega,k3⟩⟩,h9.one,h9.fresh,by have:=h9.plen;omega,h9.up⟩
end OnS
theorem worldOnce_any (w:World) (b:Nat) (hb:b < 256) (B:Option Addr) (m d:Nat) (l:List Ev) (hl:RdS Ev.cells 5 w B m l) (he:∀x∈l,Ev.Rds w x) :
  Calls Tryz.prog 8 #[.int .u8 (b:Int),.slice B m d] w fun e w'=>e= .returned (.bool true)∧Upd [] [] w w':=by
 have C1:=worldAwake w
 have C2:=fun w=>worldBegun w b hb
 have hml:=hl.len
 subst hml
 go_enter Tryz.func8,Tryz.ntmps8
 repeat' (first|go_values|go_skip|go_guarded|go_step|go_upon|(simp only [];go_at_K))
 ((with_reducible refine C1.mono ?_);rintro e w1 ⟨rfl,u1⟩)
 repeat' (first|go_values|go_skip|go_guarded|go_step|go_upon|(simp only [];go_at_K))
 ((with_reducible refine (C2 w1).mono ?_);rintro e w2 ⟨V,rfl,h2,hp2,hf2,u2⟩)
 clear C1 C2
 simp only [WV.ptr]
 repeat' (first|go_values|go_skip|go_guarded|go_step|go_upon|(simp only [];go_at_K))
 obtain ⟨k,hk⟩:∃k,cntW b=k:=⟨_,rfl⟩
 have hk7:k≤7:=by rw [←hk];unfold cntW;omega
 have UU:Upd [] V.fp w w2:=(u1.gives (b':=V.fp) (fun k hk=>.inr (by have:=hf2 k hk;have:=u1.size;omega))).trans (u2.mono (by simp) (fun k hk=>.inl hk))
 have START:=Lib.hid (show OnS w w2 V k 0 (3000000 + 300 * (150 - 0)) [] none 0 from by
  refine ⟨h2,?_,by rw [hp2];exact DInv.new _ _,Agio.Own.nil _ _ _,by simp,.nil,by simp [ablk],by simp,UU⟩
  have:=newOkW b
  rw [hk] at this
  rw [hp2,hk]
  exact ⟨_,(WInv.new this _).less (by omega)⟩)
 rw [hk]
 clear hk hp2 hf2 u1 u2 h2 UU
 go_loopw [8,9] (fun v8 v9 wr=>KeptW (∃(i:Nat) (V':WV) (puts:List PutV) (A:Option Addr) (c:Nat),i≤l.length∧i≤150∧v9= .int .i64 (i:Int)∧v8= .slice A puts.length c∧V'.gw=V.gw∧OnS w wr V' k i (3000000 + 300 * (150 - i)) puts A c)) (fun _ v9 _=>150 - (intOf v9).toNat)
 case atStart=>exact KeptW.mk ⟨0,V,[],none,0,by omega,by omega,rfl,rfl,rfl,START.out⟩
 case round=>
  obtain ⟨i,V1,puts,A,c,him,hi150,rfl,rfl,hg,hS⟩:=hrel.out
  clear hrel START
  have UF:Upd [] [] w wr:=hS.up.gives (by simp)
  obtain ⟨D,hD⟩:∃D,(decide (i < l.length) && decide (i < 150))=D:=⟨_,rfl⟩
  have HDD:=Lib.hid hD
  clear hD
  go_upto_region 7 with fail
  go_cut [37] from 30 to 54 (fun s37 wc=>s37= .bool D∧wr=wc)
  case first=>
   by_cases h1:i < l.length
   ·have hd1:decide (i < l.length)=true:=decide_eq_true h1
    have hi1:(i:Int) < (l.length:Int):=by omega
    by_cases h2:i < 150
    ·have hd2:decide ((i:Int) < 150)=true:=decide_eq_true (by omega)
     clear hS
     repeat' (first|go_values|go_skip|go_guarded|go_step|go_upon|(simp only [];go_at_K))
     go_meet
     exact ⟨by rw [←HDD.out,hd1,decide_eq_true h2];rfl,rfl⟩
    ·have hd2:decide ((i:Int) < 150)=false:=decide_eq_false (by omega)
     clear hS
     repeat' (first|go_values|go_skip|go_guarded|go_step|go_upon|(simp only [];go_at_K))
     go_meet
     exact ⟨by rw [←HDD.out,decide_eq_false h2,Bool.and_false],rfl⟩
   ·have hd1:decide (i < l.length)=false:=decide_eq_false h1
    have hi1:¬ (i:Int) < (l.length:Int):=by omega
    clear hS
    repeat' (first|go_values|go_skip|go_guarded|go_step|go_upon|(simp only [];go_at_K))
    go_meet
    exact ⟨by rw [←HDD.out,hd1];rfl,rfl⟩
  case rest=>
   obtain ⟨rfl,hwc⟩:=hcut
   subst hwc
   cases D with
   | true=>
    have hj:i < l.length∧i < 150:=by have:=HDD.out;simpa using this
    obtain ⟨h1,h2⟩:=hj
    have hi1:(i:Int) < (l.length:Int):=by omega
    have hw1:IntKind.i64.wrap ((i:Int) + 1)=(i:Int) + 1:=by rw [IntKind.wrap_i64];omega
    obtain ⟨ad,rfl,h0,hjc⟩:=RdS.at_ (f:=Ev.cells) (s:=5) Ev.cells_len hl (i:=i) (by omega)
    have hey:=(he _ (List.getElem_mem (show i < l.length by omega))).upd0 UF
    generalize l[i]=x at *
    have d0:=UF.cell (h0 _ rfl) (by simp)
    have d1:=UF.cell (hjc 1 _ (by omega) rfl) (by simp)
    have d2:=UF.cell (hjc 2 _ (by omega) rfl) (by simp)
    have d3:=UF.cell (hjc 3 _ (by omega) rfl) (by simp)
    have d4:=UF.cell (hjc 4 _ (by omega) rfl) (by simp)
    clear h0 hjc
    have C:=worldPlay wr V1 hS.ws x hey i (by omega) (hS.wlv (by omega))
    obtain ⟨⟨R1,R2,R3⟩,hR⟩:∃R,V1.pl.do_ x.k x.s x.at_ x.n (ownV x.k i x.b)=R:=⟨_,rfl⟩
    rw [hR] at C
    simp only at C
    have HR:=Lib.hid hR
    rw [WV.ptr,hg,Ev.val_eq] at C
    have hplen:=hS.plen
    have hS0:OnS w wr V1 k i (300 + (3000000 + 300 * (150 - (i + 1)))) puts A c:=by
     have e:300 + (3000000 + 300 * (150 - (i + 1)))=3000000 + 300 * (150 - i):=by omega
     rw [e];exact hS
    have HOW:=Lib.hid hS0
    clear hR hS hey hS0
    repeat' (first|go_values|go_skip|go_guarded|go_step|go_upon|(simp only [];go_at_K))
    ((with_reducible refine C.mono ?_);rintro e w5 ⟨A5,n5,c5,V5,rfl,hby,h5,hp5,hg5,u5⟩)
    clear C
    obtain ⟨F,hF⟩:∃F,(decide (R3=0) && decide (x.k=1))=F:=⟨_,rfl⟩
    have HF:=Lib.hid hF
    rw [hF]
    clear hF
    go_upto_if 50 with fail
    obtain ⟨W6,G6,eW6,hG6,hB6,U6⟩:=boxes1 w5 81 #[.int .i64 R2,.slice A5 n5 c5]
    have U6':=U6.gives (b':=[]) (by simp)
    rw [eW6,hG6]
    cases F with
    | false=>
     have KEY:=Lib.hid ((HOW.out.passed (by omega) h5 u5 (kk:=x.k) (ss:=x.s) (aa:=x.at_) (nn:=x.n) (v:=ownV x.k i x.b) (by rw [HR.out];exact hp5) (fun hk h0=>by
      have h0:R3=0:=by rw [HR.out] at h0;exact h0
      have:=HF.out
      rw [hk,h0] at this
      simp at this)).upd0 U6')
     clear h5 u5 hby hB6 U6
     repeat' (first|go_values|go_skip|go_guarded|go_step|go_upon|(simp only [];go_at_K))
     exact ⟨KeptW.mk ⟨i + 1,V5,puts,A,c,by omega,by omega,by simp,rfl,hg5,KEY.out⟩,by simp [intOf];omega⟩
    | true=>
     have hF1:R3=0∧x.k=1:=by have:=HF.out;simpa using this
     obtain ⟨hbv,hbf⟩:=hby hF1.2
     have hov:ownV x.k i x.b= [UInt8.ofNat i,0,1]:=by unfold ownV;rw [if_pos hF1.2]
     have hown6:=((HOW.out.own).upd u5 (fun q hq=>HOW.out.ws.offAny (HOW.out.own.tag q hq) (by decide))).upd U6' (by simp)
     obtain ⟨⟨g0,g1⟩,-⟩:=hB6.c2
     have PL:=Lib.hid (fun (A7:Option Addr) (c7:Nat) (w7:World) (ho7:Agio.Own 81 2 w7 A7 (puts.length + 1) c7 (puts.flatMap PutV.cells ++ [.int .i64 R2,.slice A5 n5 c5])) (hu7:Upd (ablk A) (ablk A7) W6 w7)=>
      show OnS w w7 V5 k (i + 1) (3000000 + 300 * (150 - (i + 1))) (puts ++ [⟨R2,A5,n5,c5,ownV x.k i x.b⟩]) A7 c7 from by
       have hwr6:wr.heap.size≤W6.heap.size:=by have:=u5.size;have:=U6.size;omega
       have hww:w.heap.size≤wr.heap.size:=UF.size
       exact HOW.out.played h2 (by omega) (h5.upd0 U6') (u5.trans (U6'.up V5.fp)) (kk:=x.k) (ss:=x.s) (aa:=x.at_) (nn:=x.n) (v:=ownV x.k i x.b) (by rw [HR.out];exact hp5) (p:=⟨R2,A5,n5,c5,ownV x.k i x.b⟩) (A':=A7) (c':=c7) (w'':=w7)
        (fun hk h0=>by rw [HR.out];exact ⟨rfl,rfl⟩) (hbv.off U6' (by simp)) hov ho7 (fun q hq=>(hu7.fresh q hq).imp id (fun hh=>by omega)) hu7)
     clear hF1 hbv hbf h5 u5 hby hov
     repeat' ((fail_if_success (with_reducible refine stop_append rfl ?_));first|go_values|go_skip|go_guarded|go_step|go_upon|(simp only [];go_at_K))
     refine wpList_push rfl _ _ 89 rfl 81 Tryz.underlying89 infoPut rfl (by decide) hown6 rfl W6.heap.size rfl rfl (news:=[.int .i64 R2,.slice A5 n5 c5]) rfl rfl (by unfold maxLen;omega) (by omega) ?_
     intro A7 c7 w7 ho7 hu7
     have KEY:=Lib.hid (PL.out A7 c7 w7 ho7 hu7)
     clear g0 g1 hown6 PL ho7 hu7 hB6 U6
     repeat' (first|go_values|go_skip|go_guarded|go_step|go_upon|(simp only [];go_at_K))
     exact ⟨KeptW.mk ⟨i + 1,V5,puts ++ [⟨R2,A5,n5,c5,ownV x.k i x.b⟩],A7,c7,by omega,by omega,by simp,by simp,hg5,KEY.out⟩,by simp [intOf];omega⟩
   | false=>
    have hIW:=hS.inv
    have C:=worldRound wr V1 hS.ws (by obtain ⟨G,hI⟩:=hIW;exact (hI.less (d:=300 * k + 2000000) (by omega)).roundOk)
    rw [WV.ptr,hg] at C
    have HOW:=Lib.hid hS
    clear hS hIW HDD
    repeat' (first|go_values|go_skip|go_guarded|go_step|go_upon|(simp only [];go_at_K))
    ((with_reducible refine C.mono ?_);rintro e w5 ⟨rfl,V5,h5,hp5,hg5,u5⟩)
    have hS5:OnS w w5 V5 k i 0 puts A c:=HOW.out.turn h5 u5 (by
     obtain ⟨G,hI⟩:=HOW.out.inv
     obtain ⟨G',-,h9⟩:=WInv.round (c:=0) (hI.less (d:=300 * k + 2000000 + 0) (by omega))
     exact ⟨G',by rw [hp5];exact h9⟩) (by rw [hp5];exact HOW.out.din.round)
    clear C HOW h5 hp5 u5 UF
    repeat' (first|go_values|go_skip|go_guarded|go_step|go_upon|(simp only [];go_at_K))
    go_loopw [12] (fun v12 wr=>KeptW (∃(s:Nat) (V':WV),s≤k∧v12= .int .i64 (s:Int)∧V'.gw=V.gw∧OnS w wr V' k i 0 puts A c)) (fun v12 _=>k - (intOf v12).toNat)
    case atStart=>exact KeptW.mk ⟨0,V5,by omega,rfl,hg5.trans hg,hS5⟩
    case round=>
     obtain ⟨s,V6,hsk,rfl,hg6,hS6⟩:=hrel.out
     clear hrel hS5
     by_cases hlt:s < k
     case neg=>
      obtain rfl:s=k:=by omega
      have hil:¬ ((s:Int) < (s:Int)):=by omega
      have UE:Upd [] [] w wr:=hS6.up.gives (by simp)
      clear hS6
      repeat' (first|go_values|go_skip|go_guarded|go_step|go_upon|(simp only [];go_at_K))
      go_ret
      exact ⟨rfl,UE⟩
     have hil:(s:Int) < (k:Int):=by omega
     have hw2:IntKind.i64.wrap ((s:Int) + 1)=(s:Int) + 1:=by rw [IntKind.wrap_i64];omega
     have C:=worldDoneP wr V6 hS6.ws hS6.din s (by rw [hS6.len];exact hlt)
     rw [WV.ptr,hg6] at C
     have HOW:=Lib.hid hS6
     clear hS6
     repeat' (first|go_values|go_skip|go_guarded|go_step|go_upon|(simp only [];go_at_K))
     ((with_reducible refine C.mono ?_);rintro e w7 ⟨A7,c7,l7,V7,rfl,hl7,ho7,hA7,hx7,h7,hp7,hg7,u7⟩)
     have hS7:OnS w w7 V7 k i 0 puts A c:=HOW.out.turn h7 u7 (by
      obtain ⟨G,hI⟩:=HOW.out.inv
      exact ⟨G,by rw [hp7];exact hI.take s⟩) (by rw [hp7];exact HOW.out.din.take s)
     obtain ⟨hnd,hone⟩:(l7.map Bsl.b).Nodup∧∀v∈l7.map Bsl.b,putN puts v=1:=by
      rw [hl7,←hp7]
      obtain ⟨G,hI⟩:=hS7.inv
      exact hI.once hS7.din hS7.one (by rw [hS7.len];exact hlt)
     have hrow:=ho7.rdr
     have hprow:RdS PutV.cells 2 w7 A puts.length puts:=⟨rfl,hS7.own.rd⟩
     have hpr:=fun p hp=>(hS7.pr p hp).1.byt.rd
     have hpl:=hS7.plen
     have HS7:=Lib.hid hS7
     have hlc:=ho7.own.cap
     unfold maxLen at hlc
     clear C HOW hl7 ho7 hA7 hx7 h7 hp7 u7 hS7
     repeat' (first|go_values|go_skip|go_guarded|go_step|go_upon|(simp only [];go_at_K))
     go_loopw [14] (fun v14 wr=>KeptW (∃a:Nat,a≤l7.length∧v14= .int .i64 (a:Int)∧Upd [] [] w7 wr)) (fun v14 _=>l7.length - (intOf v14).toNat)
     case atStart=>exact KeptW.mk ⟨0,by omega,rfl,Upd.refl _ _⟩
     case round=>
      obtain ⟨a,hal,rfl,U7⟩:=hrel.out
      clear hrel
      by_cases hla:a < l7.length
      case neg=>
       obtain rfl:a=l7.length:=by omega
       have hjl:¬ ((l7.length:Int) < (l7.length:Int)):=by omega
       have KEY:=Lib.hid (HS7.out.upd0 U7)
       clear U7
       repeat' (first|go_values|go_skip|go_guarded|go_step|go_upon|(simp only [];go_at_K))
       exact ⟨KeptW.mk ⟨s + 1,V7,by omega,by simp,hg7,KEY.out⟩,by simp [intOf];omega⟩
      have hjl:(a:Int) < (l7.length:Int):=by omega
      have hw3:IntKind.i64.wrap ((a:Int) + 1)=(a:Int) + 1:=by rw [IntKind.wrap_i64];omega
      obtain ⟨x,hx⟩:∃x,l7[a]=x:=⟨_,rfl⟩
      have hxone:putN puts x.b=1:=hone _ (by rw [←hx];exact List.mem_map_of_mem (List.getElem_mem hla))
      have HX1:=Lib.hid hxone
      obtain ⟨ad7,hAd7,cx,hxr⟩:=hrow.at_ hla
      rw [hx] at cx hxr
      have HX:=Lib.hid hx
      unfold Bsl.val at cx
      clear hxone hx
      rw [hAd7]
      repeat' (first|go_values|go_skip|go_guarded|go_step|go_upon|(simp only [];go_at_K))
      go_loopw [15,16] (fun v15 v16 wr=>KeptW (∃j:Nat,j≤puts.length∧v16= .int .i64 (j:Int)∧v15= .int .i64 ((putN (puts.take j) x.b:Nat):Int)∧Upd [] [] w7 wr)) (fun _ v16 _=>puts.length - (intOf v16).toNat)
      case atStart=>exact KeptW.mk ⟨0,by omega,rfl,rfl,U7⟩
      case round=>
       obtain ⟨j,hj,rfl,rfl,U8⟩:=hrel.out
       clear hrel U7
       by_cases hlj:j < puts.length
       ·have hjp:(j:Int) < (puts.length:Int):=by omega
        have hw4:IntKind.i64.wrap ((j:Int) + 1)=(j:Int) + 1:=by rw [IntKind.wrap_i64];omega
        obtain ⟨pd,hPd,h0,hjc⟩:=RdS.at_ (f:=PutV.cells) (s:=2) PutV.cells_len hprow hlj
        have hy:=hpr _ (List.getElem_mem hlj)
        have HN:=Lib.hid (putN_succ (v:=x.b) hlj)
        have hnle:=putN_le (puts.take j) x.b
        rw [List.length_take] at hnle
        have hw5:IntKind.i64.wrap (((putN (puts.take j) x.b:Nat):Int) + 1)=((putN (puts.take j) x.b:Nat):Int) + 1:=by rw [IntKind.wrap_i64];omega
        generalize puts[j]=y at *
        have dy:=U8.cell (hjc 1 _ (by omega) rfl) (by simp)
        have dx:=U8.cell cx (by simp)
        have dyN:=fun N=>((Upd.refl [] wr).drewN N).cell dy (by simp)
        have dxN:=fun N=>((Upd.refl [] wr).drewN N).cell dx (by simp)
        have hy':RdB wr y.A y.n y.b:=RdB.upd hy U8 (by simp)
        have hx':RdB wr x.A x.n x.b:=RdB.upd hxr U8 (by simp)
        have s1:=fun N=>strOf (hy'.drewN N) y.c
        have s2:=fun N=>strOf (hx'.drewN N) x.c
        obtain ⟨nn,hnn⟩:∃nn,putN (puts.take j) x.b=nn:=⟨_,rfl⟩
        rw [hnn] at hw5 HN ⊢
        rw [hPd]
        clear h0 hjc hy dy dx hy' hx' hnn hnle
        repeat' (first|go_values|go_skip|go_guarded|go_step|go_upon|(simp only [];go_at_K))
        cases t2:(y.b == x.b) with
        | true=>
         go_quiet (fail)
         clear s1 s2 dyN dxN
         repeat' (first|go_values|go_skip|go_guarded|go_step|go_upon|(simp only [];go_at_K))
         refine ⟨KeptW.mk ⟨j + 1,by omega,by simp,?_,U8.drewN _⟩,by simp [intOf];omega⟩
         rw [HN.out,if_pos (by simpa using t2)]
         simp
        | false=>
         go_quiet (fail)
         clear s1 s2 dyN dxN
         repeat' (first|go_values|go_skip|go_guarded|go_step|go_upon|(simp only [];go_at_K))
         refine ⟨KeptW.mk ⟨j + 1,by omega,by simp,?_,U8.drewN _⟩,by simp [intOf];omega⟩
         rw [HN.out,if_neg (by simpa using t2)]
         simp
       ·obtain rfl:j=puts.length:=by omega
        have hjp:¬ ((puts.length:Int) < (puts.length:Int)):=by omega
        rw [List.take_length,HX1.out]
        repeat' (first|go_values|go_skip|go_guarded|go_step|go_upon|(simp only [];go_at_K))
        go_loopw [17] (fun v17 wr=>KeptW (∃q:Nat,q≤a∧v17= .int .i64 (q:Int)∧Upd [] [] w7 wr)) (fun v17 _=>a - (intOf v17).toNat)
        case atStart=>exact KeptW.mk ⟨0,by omega,rfl,U8⟩
        case round=>
         obtain ⟨q,hqa,rfl,U9⟩:=hrel.out
         clear hrel U8
         by_cases hlq:q < a
         ·have hjq:(q:Int) < (a:Int):=by omega
          have hjq2:(q:Int) < (l7.length:Int):=by omega
          have hw4:IntKind.i64.wrap ((q:Int) + 1)=(q:Int) + 1:=by rw [IntKind.wrap_i64];omega
          have hq7:q < l7.length:=by omega
          obtain ⟨ad8,hAd8,cy,hyr⟩:=hrow.at_ hq7
          obtain rfl:ad8=ad7:=by rw [hAd7] at hAd8;injection hAd8 with e;exact e.symm
          have t2:(l7[q].b == x.b)=false:=by
           rw [beq_eq_false_iff_ne,←HX.out]
           have hq1:q < (l7.map Bsl.b).length:=by rw [List.length_map];exact hq7
           have ha1:a < (l7.map Bsl.b).length:=by rw [List.length_map];exact hla
           have:=List.pairwise_iff_getElem.1 hnd q a hq1 ha1 hlq
           simpa using this
          generalize l7[q]=y at *
          unfold Bsl.val at cy
          have dy:=U9.cell cy (by simp)
          have dx:=U9.cell cx (by simp)
          have dyN:=fun N=>((Upd.refl [] wr).drewN N).cell dy (by simp)
          have dxN:=fun N=>((Upd.refl [] wr).drewN N).cell dx (by simp)
          have hy':RdB wr y.A y.n y.b:=RdB.upd hyr U9 (by simp)
          have hx':RdB wr x.A x.n x.b:=RdB.upd hxr U9 (by simp)
          have s1:=fun N=>strOf (hy'.drewN N) y.c
          have s2:=fun N=>strOf (hx'.drewN N) x.c
          clear dy dx hy' hx' cy hyr
          repeat' (first|go_values|go_skip|go_guarded|go_step|go_upon|(simp only [];go_at_K))
          go_quiet (fail)
          clear s1 s2 dyN dxN
          repeat' (first|go_values|go_skip|go_guarded|go_step|go_upon|(simp only [];go_at_K))
          exact ⟨KeptW.mk ⟨q + 1,by omega,by simp,U9.drewN _⟩,by simp [intOf];omega⟩
         ·obtain rfl:q=a:=by omega
          have hjq:¬ ((q:Int) < (q:Int)):=by omega
          repeat' (first|go_values|go_skip|go_guarded|go_step|go_upon|(simp only [];go_at_K))
          exact ⟨KeptW.mk ⟨q + 1,by omega,by simp,U9⟩,by simp [intOf];omega⟩
end Go.Proofs.YtijhlbeipglieaaGreat
