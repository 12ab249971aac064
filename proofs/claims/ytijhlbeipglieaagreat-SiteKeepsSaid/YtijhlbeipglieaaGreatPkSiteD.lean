/- Merged: Made, Ref09, WrldS. -/
import Derived.Test.YtijhlbeipglieaaGreatPkWrldL
set_option linter.all false
set_option maxRecDepth 100000
set_option maxHeartbeats 8000000
namespace Go.Proofs.YtijhlbeipglieaaGreat
open Go.RowKit Agio Go.Maps
def cntN (n:Nat):Nat:=3 + n % 5
theorem siteMade (w:World) (a b:Nat) (ha:a < 256) (hb:b < 256) :
  Calls Tryz.prog 15 #[.int .u8 (a:Int),.int .u8 (b:Int)] w fun e w'=>∃M:SiteV,e= .returned M.ptr∧SiteS w' M∧M.pl=Site.new (a % cntN b) (cntN b) 3∧Upd [] M.fp w w':=by
 obtain ⟨k,hk⟩:∃k,cntN b=k:=⟨_,rfl⟩
 have hk3:3≤k∧k≤7:=by unfold cntN at hk;omega
 obtain ⟨r,hr⟩:∃r,a % k=r:=⟨_,rfl⟩
 have hrk:r < k:=by rw [←hr];exact Nat.mod_lt _ (by omega)
 obtain ⟨q,hq⟩:∃q,b % 5=q:=⟨_,rfl⟩
 have hkq:k=3 + q:=by rw [←hk,←hq];rfl
 have e1:(b:Int).tmod 5=(q:Int):=by rw [←hq];rfl
 have e2:IntKind.u8.wrap (q:Int)=(q:Int):=by rw [IntKind.wrap_u8];omega
 have e3:IntKind.i64.wrap (q:Int)=(q:Int):=by rw [IntKind.wrap_i64];omega
 have e4:IntKind.i64.wrap (3 + (q:Int))=(k:Int):=by rw [IntKind.wrap_i64];omega
 have e5:IntKind.i64.wrap (a:Int)=(a:Int):=by rw [IntKind.wrap_i64];omega
 have e6:(a:Int).tmod (k:Int)=(r:Int):=by rw [←hr];rfl
 have e7:IntKind.i64.wrap (r:Int)=(r:Int):=by rw [IntKind.wrap_i64];omega
 have hk0:((k:Int) == 0)=false:=beq_false_of_ne (by omega)
 have hk1:((k:Int) == -1)=false:=beq_false_of_ne (by omega)
 have C:=siteNew w r k 3 (by simp only [newOk,Bool.and_eq_true,decide_eq_true_eq];omega) (noBan_lt _)
 rw [hk,hr]
 rw [show ((3:Nat):Int)=3 from rfl] at C
 have HK:=Lib.hid hkq
 clear hk hr hq hkq
 go_enter Tryz.func15,Tryz.ntmps15
 repeat' (first|go_values|go_skip|go_guarded|go_step|go_upon|(simp only [];go_at_K))
 ((with_reducible refine C.mono ?_);rintro e w1 ⟨M,rfl,h1,hp,u⟩)
 simp only [SiteV.ptr]
 repeat' (first|go_values|go_skip|go_guarded|go_step|go_upon|(simp only [];go_at_K))
 go_ret
 exact ⟨M,rfl,h1,hp,u⟩
end Go.Proofs.YtijhlbeipglieaaGreat
namespace Go.Proofs.YtijhlbeipglieaaGreat
open Go.RowKit Agio
theorem ref09Owner (w:World) (s n:Int):Calls Tryz.prog 46 #[.int .i64 s,.int .i64 n] w fun e w'=>e= .returned (.int .i64 (ownerI s n))∧w=w':=by
 have HA:=Lib.hid (ownerI.eq_def s n)
 go_enter Tryz.func46,Tryz.ntmps46
 by_cases h1:s < 0
 ·have d1:decide (s < 0)=true:=decide_eq_true h1
  repeat' (first|go_values|go_skip|go_guarded|go_step|go_upon|(simp only [];go_at_K))
  go_ret
  exact ⟨by rw [HA.out,if_pos (by omega)];rfl,rfl⟩
 have d1:decide (s < 0)=false:=decide_eq_false h1
 by_cases h2:4095 < s
 ·have d2:decide (4095 < s)=true:=decide_eq_true h2
  repeat' (first|go_values|go_skip|go_guarded|go_step|go_upon|(simp only [];go_at_K))
  go_ret
  exact ⟨by rw [HA.out,if_pos (by omega)];rfl,rfl⟩
 have d2:decide (4095 < s)=false:=decide_eq_false h2
 by_cases h3:n < 1
 ·have d3:decide (n < 1)=true:=decide_eq_true h3
  repeat' (first|go_values|go_skip|go_guarded|go_step|go_upon|(simp only [];go_at_K))
  go_ret
  exact ⟨by rw [HA.out,if_pos (by omega)];rfl,rfl⟩
 have d3:decide (n < 1)=false:=decide_eq_false h3
 by_cases h4:64 < n
 ·have d4:decide (64 < n)=true:=decide_eq_true h4
  repeat' (first|go_values|go_skip|go_guarded|go_step|go_upon|(simp only [];go_at_K))
  go_ret
  exact ⟨by rw [HA.out,if_pos (by omega)];rfl,rfl⟩
 have d4:decide (64 < n)=false:=decide_eq_false h4
 have hn0:(n == 0)=false:=beq_false_of_ne (by omega)
 have hnn:¬ n=0:=by omega
 have hx:s.tmod n=s % n:=Int.tmod_eq_emod_of_nonneg (by omega)
 rw [hx] at HA
 repeat' (first|go_values|go_skip|go_guarded|go_step|go_upon|(simp only [];go_at_K))
 go_ret
 exact ⟨by rw [HA.out,if_neg (by omega)];rfl,rfl⟩
end Go.Proofs.YtijhlbeipglieaaGreat
namespace Go.Proofs.YtijhlbeipglieaaGreat
open Go.RowKit Agio Go.Maps
def putP (l:List PutV) (x:Int) (v:List UInt8):Prop:=∃p∈l,p.slot=x∧p.b=v
theorem putP_is {l:List PutV} {x:Int} {v:List UInt8} (h:putP l x v):putIs l x v=true:=by
 obtain ⟨p,hp,h1,h2⟩:=h
 exact List.any_eq_true.2 ⟨p,hp,by rw [h1,h2];simp⟩
structure AgS (w wr:World) (V:WV) (k gk gi i:Nat) (puts:List PutV) (A:Option Addr) (c:Nat) (ks:List Bsl) (bs:List Bool):Prop where
 ws:WS wr V
 inv:∃G,WInv V.pl k (putP puts) (300 * (150 - i)) G∧∀(j:Nat) x,ks[j]? =some x→bs[j]? =some true→Dec G k (j:Int) x.b
 kb:Blk wr gk 93 (ks.map Bsl.val).toArray
 ib:Blk wr gi 94 (bs.map Value.bool).toArray
 kl:ks.length=40
 bl:bs.length=40
 kr:∀x∈ks,BytV wr V x
 own:Agio.Own 81 2 wr A puts.length c (puts.flatMap PutV.cells)
 pr:∀p∈puts,BytV wr V p.sl
 fresh:∀q∈ablk A ++ [gk,gi],w.heap.size≤q
 plen:puts.length≤i
 up:Upd [] V.fp w wr
namespace AgS
variable {w wr w':World} {V:WV} {k gk gi i:Nat} {puts:List PutV} {A:Option Addr} {c:Nat} {ks:List Bsl} {bs:List Bool}
theorem upd0 (h:AgS w wr V k gk gi i puts A c ks bs) {b:List Nat} (hu:Upd [] b wr w'):AgS w w' V k gk gi i puts A c ks bs:=
 ⟨h.ws.upd0 hu,h.inv,h.kb.upd hu (by simp),h.ib.upd hu (by simp),h.kl,h.bl,fun x hx=>(h.kr x hx).off hu (by simp),h.own.upd hu (by simp),fun p hp=>(h.pr p hp).off hu (by simp),h.fresh,h.plen,h.up.trans (hu.up V.fp)⟩
theorem len (h:AgS w wr V k gk gi i puts A c ks bs):V.ss.length=k:=by
 obtain ⟨G,h1,-⟩:=h.inv
 have:=h1.len
 unfold WV.pl at this
 simpa using this
theorem dec (h:AgS w wr V k gk gi i puts A c ks bs) {s j:Nat} {M:SiteV} (hM:V.ss[s]? =some M) {v:List UInt8} (hv:M.pl.dec (j:Int)=some v) :
  (∀x,ks[j]? =some x→bs[j]? =some true→x.b=v)∧(v≠[]→putIs puts (j:Int) v=true):=by
 obtain ⟨G,h1,h2⟩:=h.inv
 have hd:Dec G k (j:Int) v:=h1.dec (by rw [V.ss_pl,hM];rfl) hv
 refine ⟨fun x hx hb=>h1.glob.agree (h2 j x hx hb) hd,fun hn=>?_⟩
 rcases h1.glob.dec_valid hd with e | e
 ·exact absurd e hn
 ·exact putP_is e
theorem note (h:AgS w wr V k gk gi i puts A c ks bs) {s j:Nat} (hj:j < 40) {M:SiteV} (hM:V.ss[s]? =some M) {x:Bsl} (hv:M.pl.dec (j:Int)=some x.b) (hx:BytV wr V x) :
  AgS w ((wr.setCell ⟨gi,j,none⟩ (.bool true)).setCell ⟨gk,j,none⟩ x.val) V k gk gi i puts A c (ks.set j x) (bs.set j true):=by
 have hne:gi≠gk:=fun e=>by have h1:=h.kb.tag;rw [←e,h.ib.tag] at h1;exact absurd h1 (by decide)
 have hu:Upd [gi,gk] [gi,gk] wr ((wr.setCell ⟨gi,j,none⟩ (.bool true)).setCell ⟨gk,j,none⟩ x.val):=((Upd.refl [gi,gk] wr).setCell (p:=⟨gi,j,none⟩) (.inl (by simp)) _).setCell (p:=⟨gk,j,none⟩) (.inl (by simp)) _
 have ht:∀q∈[gi,gk],∃t,tagW wr q=some t∧t∉worldTags:=fun q hq=>by
  simp only [List.mem_cons,List.not_mem_nil,or_false] at hq
  rcases hq with rfl | rfl
  ·exact ⟨_,h.ib.tag,by decide⟩
  ·exact ⟨_,h.kb.tag,by decide⟩
 have hoff:∀q∈ablk A,q∉[gi,gk]:=fun q hq hm=>by
  simp only [List.mem_cons,List.not_mem_nil,or_false] at hm
  rcases hm with rfl | rfl
  ·exact tag_ne (h.own.tag _ hq) h.ib.tag (by decide) rfl
  ·exact tag_ne (h.own.tag _ hq) h.kb.tag (by decide) rfl
 refine ⟨h.ws.updOff hu ht,?_,?_,?_,by simp [h.kl],by simp [h.bl],fun y hy=>?_,h.own.upd hu hoff,fun p hp=>(h.pr p hp).off hu ht,h.fresh,h.plen,h.up.ownL (fun q hq=>h.fresh q ?_) hu⟩
 ·obtain ⟨G,h1,h2⟩:=h.inv
  refine ⟨G,h1,fun a y hy hb=>?_⟩
  by_cases e:j=a
  ·subst e
   rw [List.getElem?_set_self (by rw [h.kl];exact hj)] at hy
   injection hy with hy
   subst hy
   exact h1.dec (by rw [V.ss_pl,hM];rfl) hv
  ·rw [List.getElem?_set_ne e] at hy hb
   exact h2 a y hy hb
 ·have:=(h.kb.upd ((Upd.refl [gi] wr).setCell (p:=⟨gi,j,none⟩) (.inl (by simp)) (.bool true)) (by simpa using fun e=>hne e.symm)).set_ j x.val
  rw [List.map_set]
  simpa using this
 ·have:=(h.ib.set_ j (.bool true)).far (p:=⟨gk,j,none⟩) hne x.val
  rw [List.map_set]
  simpa using this
 ·rcases List.mem_or_eq_of_mem_set hy with hy | rfl
  ·exact (h.kr y hy).off hu ht
  ·exact hx.off hu ht
 ·simp only [List.mem_cons,List.not_mem_nil,or_false] at hq
  simp only [List.mem_append,List.mem_cons,List.not_mem_nil,or_false]
  rcases hq with rfl | rfl
  ·exact .inr (.inr rfl)
  ·exact .inr (.inl rfl)
theorem played (h:AgS w wr V k gk gi i puts A c ks bs) (hi:i < 150) {V':WV} (hw:WS w' V') (hu:Upd V.fp V'.fp wr w') {kk ss aa nn:Int} {v:List UInt8} (hp:V'.pl=(V.pl.do_ kk ss aa nn v).1) {puts':List PutV} {A':Option Addr} {c':Nat} {w'':World}
  (hpp:∀p∈puts,p∈puts') (hs:kk=1→(V.pl.do_ kk ss aa nn v).2.2=0→putP puts' (V.pl.do_ kk ss aa nn v).2.1 v) (hpr:∀p∈puts',p∈puts∨BytV w' V' p.sl) (hl:puts'.length≤i + 1)
  (ho:Agio.Own 81 2 w'' A' puts'.length c' (puts'.flatMap PutV.cells)) (hA:∀q∈ablk A',q∈ablk A∨w.heap.size≤q) (hu2:Upd (ablk A) (ablk A') w' w''):AgS w w'' V' k gk gi (i + 1) puts' A' c' ks bs:=by
 have hoff:∀{q:Nat} {t:Option TypeId},tagW wr q=some t→t∉worldTags→q∉V.fp:=fun h1 h2=>h.ws.offAny h1 h2
 have hown':Agio.Own 81 2 w' A puts.length c (puts.flatMap PutV.cells):=h.own.upd hu (fun q hq=>hoff (h.own.tag q hq) (by decide))
 have ht:∀q∈ablk A,∃t,tagW w' q=some t∧t∉worldTags:=fun q hq=>⟨_,hown'.tag q hq,by decide⟩
 have hkb:=h.kb.upd hu (hoff h.kb.tag (by decide))
 have hib:=h.ib.upd hu (hoff h.ib.tag (by decide))
 refine ⟨hw.updOff hu2 ht,?_,hkb.upd hu2 fun hm=>tag_ne hkb.tag (hown'.tag _ hm) (by decide) rfl,hib.upd hu2 fun hm=>tag_ne hib.tag (hown'.tag _ hm) (by decide) rfl,h.kl,h.bl,fun x hx=>((h.kr x hx).step hu).off hu2 ht,ho,
  fun p hp=>?_,fun q hq=>?_,hl,?_⟩
 ·obtain ⟨G,h1,h2⟩:=h.inv
  obtain ⟨G',g1,h3⟩:=(h1.less (d:=300 + 300 * (150 - (i + 1))) (by omega)).do_ (P':=putP puts') (by omega) kk ss aa nn v (fun x v ⟨p,h4,h5⟩=>⟨p,hpp p h4,h5⟩) hs
  exact ⟨G',by rw [hp];exact h3,fun j x hx hb=>(h2 j x hx hb).mono g1⟩
 ·rcases hpr p hp with h4 | h4
  ·exact ((h.pr p h4).step hu).off hu2 ht
  ·exact h4.off hu2 ht
 ·rcases List.mem_append.1 hq with hq | hq
  ·rcases hA q hq with h4 | h4
   ·exact h.fresh q (List.mem_append.2 (.inl h4))
   ·exact h4
  ·exact h.fresh q (List.mem_append.2 (.inr hq))
 ·exact (h.up.trans hu).ownL (fun q hq=>h.fresh q (List.mem_append.2 (.inl hq))) hu2
end AgS
theorem worldAgrees_any (w:World) (b:Nat) (hb:b < 256) (B:Option Addr) (m d:Nat) (l:List Ev) (hl:RdS Ev.cells 5 w B m l) (he:∀x∈l,Ev.Rds w x) :
  Calls Tryz.prog 11 #[.int .u8 (b:Int),.slice B m d] w fun e w'=>e= .returned (.bool true)∧Upd [] [] w w':=by
 have C1:=worldAwake w
 have C2:=fun w=>worldBegun w b hb
 go_enter Tryz.func11,Tryz.ntmps11
 repeat' (first|go_values|go_skip|go_guarded|go_step|go_upon|(simp only [];go_at_K))
 ((with_reducible refine C1.mono ?_);rintro e w1 ⟨rfl,u1⟩)
 repeat' (first|go_values|go_skip|go_guarded|go_step|go_upon|(simp only [];go_at_K))
 ((with_reducible refine (C2 w1).mono ?_);rintro e w2 ⟨V,rfl,h2,hp2,hf2,u2⟩)
 clear C1 C2
 simp only [WV.ptr]
 repeat' (first|go_values|go_skip|go_guarded|go_step|go_upon|(simp only [];go_at_K))
 obtain ⟨k,hk⟩:∃k,cntW b=k:=⟨_,rfl⟩
 have hk7:k≤7:=by rw [←hk];unfold cntW;omega
 have hnw:∃G,WInv V.pl k (putP []) (300 * (150 - 0)) G:=by
  rw [hp2,hk]
  have:=newOkW b
  rw [hk] at this
  exact ⟨_,(WInv.new this _).less (by omega)⟩
 obtain ⟨gk,hgk⟩:∃gk,w2.heap.size=gk:=⟨_,rfl⟩
 have hml:=hl.len
 subst hml
 have UU:Upd [] V.fp w w2:=(u1.gives (b':=V.fp) (fun k hk=>.inr (by have:=hf2 k hk;have:=u1.size;omega))).trans (u2.mono (by simp) (fun k hk=>.inl hk))
 have START:=Lib.hid (show AgS w ((w2.alloc (.cells (List.replicate 40 (.slice none 0 0)).toArray 93)).alloc (.cells (List.replicate 40 (.bool false)).toArray 94)) V k gk (gk + 1) 0 [] none 0 (List.replicate 40 ⟨none,0,0,[]⟩) (List.replicate 40 false) from by
  have ua:Upd [] [] w2 ((w2.alloc (.cells (List.replicate 40 (.slice none 0 0)).toArray 93)).alloc (.cells (List.replicate 40 (.bool false)).toArray 94)):=(((Upd.refl [] w2).alloc _).alloc _).gives (by simp)
  refine ⟨h2.upd0 ua,?_,?_,?_,by simp,by simp,fun x hx=>?_,Agio.Own.nil _ _ _,by simp,?_,by simp,UU.trans (ua.up _)⟩
  ·obtain ⟨G,hG⟩:=hnw
   exact ⟨G,hG,fun j x _ hb=>by
    rw [List.getElem?_replicate] at hb
    split at hb <;> simp at hb⟩
  ·rw [←hgk];exact (Blk.new w2 _ _).alloc _
  ·rw [←hgk,show w2.heap.size + 1=(w2.alloc (.cells (List.replicate 40 (.slice none 0 0)).toArray 93)).heap.size by simp]
   exact Blk.new _ _ _
  ·rw [(List.mem_replicate.1 hx).2]
   exact ⟨⟨RdB.nil _ _,by simp [ablk]⟩,by simp [ablk]⟩
  ·simp only [ablk,List.nil_append,List.mem_cons,List.not_mem_nil,or_false]
   have:=u1.size
   have:=u2.size
   rintro q (rfl | rfl) <;> omega)
 rw [hk,hgk]
 have HK:=Lib.hid hk
 clear hk hgk hnw hp2 hf2 u1 u2 h2 UU
 go_loopw [8,11] (fun v8 v11 wr=>KeptW (∃(i:Nat) (V':WV) (puts:List PutV) (A:Option Addr) (c:Nat) (ks:List Bsl) (bs:List Bool),i≤l.length∧i≤150∧v11= .int .i64 (i:Int)∧v8= .slice A puts.length c∧V'.gw=V.gw∧AgS w wr V' k gk (gk + 1) i puts A c ks bs)) (fun _ v11 _=>150 - (intOf v11).toNat)
 case atStart=>exact KeptW.mk ⟨0,V,[],none,0,_,_,by omega,by omega,rfl,rfl,rfl,START.out⟩
 case round=>
  obtain ⟨i,V1,puts,A,c,ks,bs,him,hi150,rfl,rfl,hg,hS⟩:=hrel.out
  clear hrel START
  have UF:Upd [] [] w wr:=hS.up.gives (by simp)
  by_cases h1:i < l.length
  case neg=>
   have hd1:decide (i < l.length)=false:=decide_eq_false h1
   have hi1:¬ (i:Int) < (l.length:Int):=by omega
   clear hS
   repeat' (first|go_values|go_skip|go_guarded|go_step|go_upon|(simp only [];go_at_K))
   go_ret
   exact ⟨rfl,UF⟩
  by_cases h2:i < 150
  case neg=>
   have hd1:decide (i < l.length)=true:=decide_eq_true h1
   have hi1:(i:Int) < (l.length:Int):=by omega
   have hd2:decide ((i:Int) < 150)=false:=decide_eq_false (by omega)
   clear hS
   repeat' (first|go_values|go_skip|go_guarded|go_step|go_upon|(simp only [];go_at_K))
   go_ret
   exact ⟨rfl,UF⟩
  have hi1:(i:Int) < (l.length:Int):=by omega
  have hi2:(i:Int) < 150:=by omega
  have hd1:decide (i < l.length)=true:=decide_eq_true h1
  have hd2:decide ((i:Int) < 150)=true:=decide_eq_true (by omega)
  have hw1:IntKind.i64.wrap ((i:Int) + 1)=(i:Int) + 1:=by rw [IntKind.wrap_i64];omega
  obtain ⟨ad,rfl,h0,hjc⟩:=RdS.at_ (f:=Ev.cells) (s:=5) Ev.cells_len hl (i:=i) (by omega)
  have hey:=(he _ (List.getElem_mem (show i < l.length by omega))).upd0 UF
  generalize l[i]=x at *
  have d0:=UF.cell (h0 _ rfl) (by simp)
  have d1:=UF.cell (hjc 1 _ (by omega) rfl) (by simp)
  have d2:=UF.cell (hjc 2 _ (by omega) rfl) (by simp)
  have d3:=UF.cell (hjc 3 _ (by omega) rfl) (by simp)
  have d4:=UF.cell (hjc 4 _ (by omega) rfl) (by simp)
  have HD1:=Lib.hid (hjc 1 _ (by omega) rfl)
  clear h0 hjc
  have C:=worldPlay wr V1 hS.ws x hey i (by omega) (by obtain ⟨G,hI,-⟩:=hS.inv;intro a s hs;exact (hI.lv a s hs).less (by omega))
  obtain ⟨v,hv⟩:∃v,ownV x.k i x.b=v:=⟨_,rfl⟩
  rw [hv] at C
  have HO:=Lib.hid (fun (hk:x.k=1) (h0:(V1.pl.do_ x.k x.s x.at_ x.n v).2.2=0)=>show ownerI (V1.pl.do_ x.k x.s x.at_ x.n v).2.1 k=x.s from by
   obtain ⟨G,hI,-⟩:=hS.inv
   rw [hk] at h0 ⊢
   exact hI.do_owner h0)
  obtain ⟨⟨R1,R2,R3⟩,hR⟩:∃R,V1.pl.do_ x.k x.s x.at_ x.n v=R:=⟨_,rfl⟩
  rw [hR] at C HO
  simp only at C HO
  have HR:=Lib.hid hR
  rw [WV.ptr,hg,Ev.val_eq] at C
  have hplen:=hS.plen
  have HOW:=Lib.hid hS
  have hfp:=hS.ws.lt
  clear hv hR hS hey
  repeat' (first|go_values|go_skip|go_guarded|go_step|go_upon|(simp only [];go_at_K))
  ((with_reducible refine C.mono ?_);rintro e w5 ⟨A5,n5,c5,V5,rfl,hby,h5,hp5,hg5,u5⟩)
  clear C
  obtain ⟨F,hF⟩:∃F,(decide (R3=0) && decide (x.k=1))=F:=⟨_,rfl⟩
  have HF:=Lib.hid hF
  rw [hF]
  clear hF
  go_upto_if 50 with fail
  obtain ⟨W6,G6,eW6,hG6,hB6,U6⟩:=boxes1 w5 81 #[.int .i64 R2,.slice A5 n5 c5]
  have U6':=U6.gives (b':=[]) (by simp)
  rw [eW6,hG6]
  go_cut [8] from 30 to 111 (fun s8 wc=>KeptW (∃(puts':List PutV) (A':Option Addr) (c':Nat),s8= .slice A' puts'.length c'∧AgS w wc V5 k gk (gk + 1) (i + 1) puts' A' c' ks bs))
  case first=>
   have hS6:F=false→AgS w W6 V5 k gk (gk + 1) (i + 1) puts A c ks bs:=fun hFf=>by
    have:=HOW.out.played h2 h5 u5 (kk:=x.k) (ss:=x.s) (aa:=x.at_) (nn:=x.n) (v:=v) (by rw [HR.out];exact hp5) (puts':=puts) (A':=A) (c':=c) (w'':=w5) (fun p hp=>hp) (fun hk h0=>by
     have h0:R3=0:=by rw [HR.out] at h0;exact h0
     have:=HF.out
     rw [hk,h0,hFf] at this
     simp at this) (fun p hp=>.inl hp) (by omega) ((HOW.out.own).upd u5 (fun q hq=>HOW.out.ws.offAny (HOW.out.own.tag q hq) (by decide))) (fun q hq=>.inl hq) (Upd.refl _ _)
    exact this.upd0 U6'
   cases F with
   | false=>
    have KEY:=Lib.hid (hS6 rfl)
    clear hS6 h5 u5 hby hB6 U6
    repeat' (first|go_values|go_skip|go_guarded|go_step|go_upon|(simp only [];go_at_K))
    go_meet
    exact KeptW.mk ⟨puts,A,c,rfl,KEY.out⟩
   | true=>
    clear hS6
    have hF1:R3=0∧x.k=1:=by have:=HF.out;simpa using this
    obtain ⟨hbv,hbf⟩:=hby hF1.2
    have hown5:=(HOW.out.own).upd u5 (fun q hq=>HOW.out.ws.offAny (HOW.out.own.tag q hq) (by decide))
    have hown6:=hown5.upd U6' (by simp)
    have hGA:G6∉ablk A:=fun hm=>by have:=hown5.lt G6 hm;omega
    have hos:ownerI R2 k=x.s:=HO.out hF1.2 hF1.1
    have CO:=fun w=>ref09Owner w R2 k
    rw [hos] at CO
    obtain ⟨⟨g0,g1⟩,-⟩:=hB6.c2
    have PL:=Lib.hid (fun (A7:Option Addr) (c7:Nat) (w7:World) (ho7:Agio.Own 81 2 w7 A7 (puts.length + 1) c7 (puts.flatMap PutV.cells ++ [.int .i64 R2,.slice A5 n5 c5])) (hu7:Upd (ablk A) (ablk A7) W6 w7)=>
     show AgS w w7 V5 k gk (gk + 1) (i + 1) (puts ++ [⟨R2,A5,n5,c5,v⟩]) A7 c7 ks bs from by
      have hwr6:wr.heap.size≤W6.heap.size:=by have:=u5.size;have:=U6.size;omega
      have hww:w.heap.size≤wr.heap.size:=UF.size
      refine HOW.out.played h2 (h5.upd0 U6') (u5.trans (U6'.up V5.fp)) (kk:=x.k) (ss:=x.s) (aa:=x.at_) (nn:=x.n) (v:=v) (by rw [HR.out];exact hp5) (puts':=puts ++ [⟨R2,A5,n5,c5,v⟩]) (A':=A7) (c':=c7) (w'':=w7)
       (fun p hp=>List.mem_append.2 (.inl hp)) (fun hk h0=>?_) (fun p hp=>?_) (by simp;omega) (by rw [List.flatMap_append,List.length_append];exact ho7) (fun q hq=>(hu7.fresh q hq).imp id (fun hh=>by omega)) hu7
      ·rw [HR.out]
       exact ⟨⟨R2,A5,n5,c5,v⟩,List.mem_append.2 (.inr (by simp)),rfl,rfl⟩
      ·rcases List.mem_append.1 hp with hp | hp
       ·exact .inl hp
       ·rw [List.mem_singleton] at hp
        subst hp
        exact .inr (hbv.off U6' (by simp)))
    clear hF1 hbv hbf hown5 h5 u5 hby hos
    repeat' ((fail_if_success (with_reducible refine stop_append rfl ?_));first|go_values|go_skip|go_guarded|go_step|go_upon|(simp only [];go_at_K))
    refine wpList_push rfl _ _ 89 rfl 81 Tryz.underlying89 infoPut rfl (by decide) hown6 rfl W6.heap.size rfl rfl (news:=[.int .i64 R2,.slice A5 n5 c5]) rfl rfl (by unfold maxLen;omega) (by omega) ?_
    intro A7 c7 w7 ho7 hu7
    have KEY:=PL.out A7 c7 w7 ho7 hu7
    have hB7:=hB6.upd hu7 hGA
    have e1:=fun N=>((KEY.up.gives (b':=[]) (by simp)).drewN N).cell HD1.out (by simp)
    have e0:=fun N=>(hB7.drewN N).cell 0
    have n3:(x.s != x.s)=false:=bne_self_eq_false _
    have n4:(x.s == x.s)=true:=beq_self_eq_true _
    have hlt5:(i:Int) < (l.length:Int):=by omega
    clear g0 g1 hown6 PL ho7 hu7 hB6 U6 hGA hB7
    have KEY:=Lib.hid KEY
    simp only [List.getElem?_toArray,List.getElem?_cons_zero] at e0
    repeat' (first|go_values|go_skip|go_guarded|go_step|go_upon|(simp only [];go_at_K))
    go_quiet (with_reducible exact quiet_eq (CO _))
    clear e0 e1 CO
    repeat' (first|go_values|go_skip|go_guarded|go_step|go_upon|(simp only [];go_at_K))
    go_meet
    exact KeptW.mk ⟨_,A7,c7,by simp,KEY.out.upd0 ((Upd.refl [] w7).drewN _)⟩
  case rest=>
   obtain ⟨puts2,A2,c2,rfl,hS2⟩:=hcut.out
   clear hcut hby h5 u5 hp5 HO HR HOW HF hB6 U6 U6' hfp
   have hgV:V5.gw=V.gw:=hg5
   have hlen5:=hS2.len
   obtain ⟨wo,hwo⟩:∃x,wc=x:=⟨_,rfl⟩
   rw [hwo] at hS2 ⊢
   clear hwo
   repeat' (first|go_values|go_skip|go_guarded|go_step|go_upon|(simp only [];go_at_K))
   go_loopw [14] (fun v14 wr=>KeptW (∃(s:Nat) (ks2:List Bsl) (bs2:List Bool),s≤k∧v14= .int .i64 (s:Int)∧AgS w wr V5 k gk (gk + 1) (i + 1) puts2 A2 c2 ks2 bs2)) (fun v14 _=>k - (intOf v14).toNat)
   case atStart=>exact KeptW.mk ⟨0,ks,bs,by omega,rfl,hS2⟩
   case round=>
    obtain ⟨s,ks2,bs2,hsk,rfl,hS3⟩:=hrel.out
    clear hrel hS2
    by_cases hlt:s < k
    case neg=>
     obtain rfl:s=k:=by omega
     have hil:¬ ((s:Int) < (s:Int)):=by omega
     repeat' (first|go_values|go_skip|go_guarded|go_step|go_upon|(simp only [];go_at_K))
     exact ⟨KeptW.mk ⟨i + 1,V5,puts2,A2,c2,ks2,bs2,by omega,by omega,by simp,rfl,hgV,hS3⟩,by simp [intOf];omega⟩
    have hil:(s:Int) < (k:Int):=by omega
    have hw2:IntKind.i64.wrap ((s:Int) + 1)=(s:Int) + 1:=by rw [IntKind.wrap_i64];omega
    repeat' (first|go_values|go_skip|go_guarded|go_step|go_upon|(simp only [];go_at_K))
    go_loopw [15] (fun v15 wr=>KeptW (∃(j:Nat) (ks3:List Bsl) (bs3:List Bool),j≤40∧v15= .int .i64 (j:Int)∧AgS w wr V5 k gk (gk + 1) (i + 1) puts2 A2 c2 ks3 bs3)) (fun v15 _=>40 - (intOf v15).toNat)
    case atStart=>exact KeptW.mk ⟨0,ks2,bs2,by omega,rfl,hS3⟩
    case round=>
     obtain ⟨j,ks3,bs3,hj40,rfl,hS4⟩:=hrel.out
     clear hrel hS3
     by_cases hlj:j < 40
     case neg=>
      obtain rfl:j=40:=by omega
      have hjl:¬ (((40:Nat):Int) < 40):=by omega
      repeat' (first|go_values|go_skip|go_guarded|go_step|go_upon|(simp only [];go_at_K))
      exact ⟨KeptW.mk ⟨s + 1,ks3,bs3,by omega,by simp,hS4⟩,by simp [intOf];omega⟩
     have hjl:(j:Int) < 40:=by omega
     have hw3:IntKind.i64.wrap ((j:Int) + 1)=(j:Int) + 1:=by rw [IntKind.wrap_i64];omega
     have hsV:s < V5.ss.length:=by rw [hlen5];exact hlt
     have CA:=worldAt wr V5 hS4.ws (s:Int)
     rw [WV.at_nat,List.getElem?_eq_getElem hsV] at CA
     have hM:V5.ss[s]? =some V5.ss[s]:=List.getElem?_eq_getElem hsV
     obtain ⟨M,hMe⟩:∃M,V5.ss[s]=M:=⟨_,rfl⟩
     rw [hMe] at CA hM
     have CD:=@worldDecided ⟨[]⟩ wr _ _ (some M) CA (fun N hN=>by injection hN with hN;subst hN;exact hS4.ws.sites _ (List.mem_of_getElem? hM)) (j:Int) (wfI (by omega) (by omega))
     rw [WV.ptr,hgV,Option.bind_some] at CD
     clear CA hMe
     cases hdec:M.pl.dec (j:Int) with
     | none=>
      rw [hdec] at CD
      simp only [Option.isSome_none,Option.getD_none] at CD
      clear hdec
      repeat' (first|go_values|go_skip|go_guarded|go_step|go_upon|(simp only [];go_at_K))
      ((with_reducible refine CD.mono ?_);rintro e w6 ⟨A6,n6,c6,rfl,-,u6⟩)
      have HS:=Lib.hid (hS4.upd0 (u6.gives (b':=[]) (by simp)))
      clear CD u6 hS4
      repeat' (first|go_values|go_skip|go_guarded|go_step|go_upon|(simp only [];go_at_K))
      exact ⟨KeptW.mk ⟨j + 1,ks3,bs3,by omega,by simp,HS.out⟩,by simp [intOf];omega⟩
     | some v=>
      rw [hdec] at CD
      simp only [Option.isSome_some,Option.getD_some] at CD
      have hkl:j < ks3.length:=by rw [hS4.kl];exact hlj
      have hbl:j < bs3.length:=by rw [hS4.bl];exact hlj
      have hkj:ks3[j]? =some ks3[j]:=List.getElem?_eq_getElem hkl
      have hbj:bs3[j]? =some bs3[j]:=List.getElem?_eq_getElem hbl
      obtain ⟨hag,hpu⟩:=hS4.dec hM hdec
      obtain ⟨y,hy⟩:∃y,ks3[j]=y:=⟨_,rfl⟩
      obtain ⟨bj,hbe⟩:∃bj,bs3[j]=bj:=⟨_,rfl⟩
      rw [hy] at hkj
      rw [hbe] at hbj
      repeat' (first|go_values|go_skip|go_guarded|go_step|go_upon|(simp only [];go_at_K))
      ((with_reducible refine CD.mono ?_);rintro e w6 ⟨A6,n6,c6,rfl,ho6,u6⟩)
      have u6':=u6.gives (b':=[]) (by simp)
      have hS6:=hS4.upd0 u6'
      have hx6:BytV w6 V5 ⟨A6,n6,c6,v⟩:=⟨⟨ho6.rd,fun q hq=>ho6.own.tag q hq⟩,fun q hq hm=>by
       have h1:=(Upd.refl [] wr).new u6 q hq
       have h2:=hS4.ws.lt q hm
       omega⟩
      have NOTE:=Lib.hid (fun (w7:World) (u7:Upd [] [] w6 w7)=>(hS6.upd0 u7).note hlj hM (x:=⟨A6,n6,c6,v⟩) hdec (hx6.off u7 (by simp)))
      have hyb:BytV w6 V5 y:=hS6.kr y (List.mem_of_getElem? hkj)
      have cK:w6.cell? ⟨gk,j,none⟩=some (.slice y.A y.n y.c):=by rw [hS6.kb.cell,List.getElem?_toArray,List.getElem?_map,hkj];rfl
      have cI:w6.cell? ⟨gk + 1,j,none⟩=some (.bool bj):=by rw [hS6.ib.cell,List.getElem?_toArray,List.getElem?_map,hbj];rfl
      have qK:=fun p:GU w6=>p.u.cell cK (by simp)
      have qI:=fun p:GU w6=>p.u.cell cI (by simp)
      have fI:=fun p:GU w6=>(hS6.ib.upd p.u (by simp)).frozen j
      have qK2:=fun p:GU w6=>show (p.w.setCell ⟨gk + 1,j,none⟩ (.bool true)).cell? ⟨gk,j,none⟩=some (.slice y.A y.n y.c) from by
       rw [((hS6.kb.upd p.u (by simp)).far (p:=⟨gk + 1,j,none⟩) (show gk≠gk + 1 by omega) _).cell,List.getElem?_toArray,List.getElem?_map,hkj];rfl
      have fK2:=fun p:GU w6=>((hS6.kb.upd p.u (by simp)).far (p:=⟨gk + 1,j,none⟩) (show gk≠gk + 1 by omega) (.bool true)).frozen j
      have s1:=fun p:GU w6=>strOf (ho6.rd.upd p.u (by simp)) c6
      have s2:=fun p:GU w6=>strOf (hyb.byt.rd.upd p.u (by simp)) y.c
      have hn6:n6=v.length:=ho6.rd.len
      have CP:v≠[]→∀p:GU w6,Calls Tryz.prog 48 #[.slice A2 puts2.length c2,.int .i64 (j:Int),.slice A6 n6 c6] p.w fun e w''=>e= .returned (.bool true)∧∃q:GU w6,w''=q.w:=fun hne p=>by
       have:=worldPut p.w A2 puts2.length c2 puts2 ⟨rfl,(hS6.own.upd p.u (by simp)).rd⟩ (fun q hq=>(hS6.pr q hq).byt.rd.upd p.u (by simp)) (j:Int) A6 n6 c6 v (ho6.rd.upd p.u (by simp)) (by have:=hS6.plen;omega)
       rw [hpu hne] at this
       exact GU.call p this
      have hag':bj=true→y.b=v:=fun e=>hag y hkj (by rw [hbj,e])
      clear CD u6 u6' hS6 hx6 hyb cK cI hS4 hdec hM hkj hbj hy hbe hag hpu hkl hbl ho6 hsV
      by_cases hve:v= []
      ·have d6:decide ((0:Int) < (n6:Int))=false:=decide_eq_false (by rw [hn6,hve];simp)
       have d6':decide (0 < n6)=false:=decide_eq_false (by rw [hn6,hve];simp)
       clear CP hn6 hve
       cases bj with
       | false=>
        clear hag' s2
        repeat' ((fail_if_success (with_reducible refine stop_append rfl ?_));first|go_values|go_skip|go_guarded|go_step|go_upon|(simp only [];go_at_K))
        refine quiet_gu (by kernel_rfl) (by kernel_rfl) ?_
        repeat (go_big_quiet_step (fail))
        refine wpQuiet_nil ?_
        rintro _ ⟨p,rfl⟩
        have i1:=qI p
        have i2:=fI p
        have i3:=qK2 p
        have i4:=fK2 p
        have NT:=Lib.hid (NOTE.out p.w p.u)
        clear qI fI qK2 fK2 qK s1
        repeat' (first|go_values|go_skip|go_guarded|go_step|go_upon|(simp only [];go_at_K))
        exact ⟨KeptW.mk ⟨j + 1,_,_,by omega,by simp,NT.out⟩,by simp [intOf];omega⟩
       | true=>
        have e2:=hag' rfl
        rw [e2] at s2
        have n5:(v != v)=false:=bne_self_eq_false _
        have n6':(v == v)=true:=beq_self_eq_true _
        clear hag' e2
        repeat' ((fail_if_success (with_reducible refine stop_append rfl ?_));first|go_values|go_skip|go_guarded|go_step|go_upon|(simp only [];go_at_K))
        refine quiet_gu (by kernel_rfl) (by kernel_rfl) ?_
        repeat (go_big_quiet_step (fail))
        refine wpQuiet_nil ?_
        rintro _ ⟨p,rfl⟩
        have i1:=qI p
        have i2:=fI p
        have i3:=qK2 p
        have i4:=fK2 p
        have NT:=Lib.hid (NOTE.out p.w p.u)
        clear qI fI qK2 fK2 qK s1
        repeat' (first|go_values|go_skip|go_guarded|go_step|go_upon|(simp only [];go_at_K))
        exact ⟨KeptW.mk ⟨j + 1,_,_,by omega,by simp,NT.out⟩,by simp [intOf];omega⟩
      ·have CP:=CP hve
       have hpos:0 < v.length:=by cases v with
        | nil=>exact absurd rfl hve
        | cons=>simp
       have d6:decide ((0:Int) < (n6:Int))=true:=decide_eq_true (by omega)
       have d6':decide (0 < n6)=true:=decide_eq_true (by omega)
       clear hn6 hve hpos
       cases bj with
       | false=>
        clear hag' s2
        repeat' ((fail_if_success (with_reducible refine stop_append rfl ?_));first|go_values|go_skip|go_guarded|go_step|go_upon|(simp only [];go_at_K))
        refine quiet_gu (by kernel_rfl) (by kernel_rfl) ?_
        repeat (go_big_quiet_step (exact CP _))
        refine wpQuiet_nil ?_
        rintro _ ⟨p,rfl⟩
        have i1:=qI p
        have i2:=fI p
        have i3:=qK2 p
        have i4:=fK2 p
        have NT:=Lib.hid (NOTE.out p.w p.u)
        clear qI fI qK2 fK2 qK s1
        repeat' (first|go_values|go_skip|go_guarded|go_step|go_upon|(simp only [];go_at_K))
        exact ⟨KeptW.mk ⟨j + 1,_,_,by omega,by simp,NT.out⟩,by simp [intOf];omega⟩
       | true=>
        have e2:=hag' rfl
        rw [e2] at s2
        have n5:(v != v)=false:=bne_self_eq_false _
        have n6':(v == v)=true:=beq_self_eq_true _
        clear hag' e2
        repeat' ((fail_if_success (with_reducible refine stop_append rfl ?_));first|go_values|go_skip|go_guarded|go_step|go_upon|(simp only [];go_at_K))
        refine quiet_gu (by kernel_rfl) (by kernel_rfl) ?_
        repeat (go_big_quiet_step (exact CP _))
        refine wpQuiet_nil ?_
        rintro _ ⟨p,rfl⟩
        have i1:=qI p
        have i2:=fI p
        have i3:=qK2 p
        have i4:=fK2 p
        have NT:=Lib.hid (NOTE.out p.w p.u)
        clear qI fI qK2 fK2 qK s1
        repeat' (first|go_values|go_skip|go_guarded|go_step|go_upon|(simp only [];go_at_K))
        exact ⟨KeptW.mk ⟨j + 1,_,_,by omega,by simp,NT.out⟩,by simp [intOf];omega⟩
end Go.Proofs.YtijhlbeipglieaaGreat
