/- Merged: WrldT, WrldD, WrldR, WrldE. -/
import Derived.Test.YtijhlbeipglieaaGreatPkWrldM
set_option linter.all false
set_option maxRecDepth 100000
set_option maxHeartbeats 4000000
namespace Go.Proofs.YtijhlbeipglieaaGreat
open Go.RowKit Agio Go.Maps
def Wone (w w':World) (V:WV) (p:Wd):Prop:=∃V',WS w' V'∧V'.pl=p∧V'.gw=V.gw∧Upd V.fp V'.fp w w'
theorem WV.ss_pl (V:WV) (i:Nat):V.pl.ss[i]? =(V.ss[i]?).map SiteV.pl:=by unfold WV.pl;simp
theorem netSendAny (w:World) (g:Nat) (A:Option Addr) (n c:Nat) (l:List Pk) (h:NetS w g A n c l) (to_:Int) (B:Option Addr) (m d:Nat) (b:List UInt8) (hB:RdB w B m b) (hb:b.length≤140737488355328) (hs:siteB to_=true) :
  Calls Tryz.prog 168 #[.pointer (some ⟨g,0,none⟩),.int .i64 to_,.slice B m d] w fun e w'=>∃r A' n' c' l',e= .returned (.int .i64 r)∧NetS w' g A' n' c' l'∧
   l'.map (fun x=>(x.to,x.b))=(if l.length < 4096 then l.map (fun x=>(x.to,x.b)) ++ [(to_,b)] else l.map (fun x=>(x.to,x.b)))∧Upd (fpN g A l) (fpN g A' l') w w':=by
 by_cases hl:l.length < 4096
 ·refine (netSend w g A n c l h to_ B m d b hB hb hs hl).mono ?_
  rintro e w' ⟨A',n',c',x,rfl,rfl,rfl,h1,h2⟩
  exact ⟨0,A',n',c',_,rfl,h1,by rw [if_pos hl];simp,h2⟩
 ·refine (netSend_full w g A n c l h to_ B m d hs (by omega)).mono ?_
  rintro e w' ⟨rfl,rfl⟩
  exact ⟨5,A,n,c,l,rfl,h,by rw [if_neg hl],Upd.refl _ _⟩
theorem worldSync (w:World) (V:WV) (h:WS w V) (i:Nat) (hL:∀s,V.pl.ss[i]? =some s→Lv s 0) :
  Calls Tryz.prog 21 #[ptrO V.ss[i]?] w fun e w'=>∃(A:Option Addr) (c:Nat) (told:List Mv) (V':WV),e= .returned (.slice A told.length c)∧told.map Mv.ms=(V.pl.synced i).2∧Agio.Own 32 10 w' A told.length c (told.flatMap Mv.cells)∧
   (∀k∈ablk A,k∉V'.fp)∧(∀x∈told,BytS w' x.sl∧x.ms.May∧∀k∈ablk x.A,k∉V'.fp)∧WS w' V'∧V'.pl=(V.pl.synced i).1∧V'.gw=V.gw∧Upd V.fp V'.fp w w':=by
 unfold Wd.synced
 rw [WV.ss_pl] at hL ⊢
 cases hM:V.ss[i]? with
 | none=>
  refine (siteSync_nil w).mono ?_
  rintro e w' ⟨rfl,rfl⟩
  exact ⟨none,0,[],V,rfl,rfl,Agio.Own.nil _ _ _,by simp [ablk],by simp,h,rfl,rfl,Upd.refl _ _⟩
 | some M=>
  rw [hM] at hL
  have hl:=hL M.pl rfl
  have hS:=h.site (List.mem_of_getElem? hM)
  have hh:=hl.held
  rw [SiteV.held_len] at hh
  refine (@siteSyncAny ⟨V.hot⟩ Qt (@takeC ⟨V.hot⟩) w M hS (by omega) (fun hd=>hl.sync hd)).mono ?_
  rintro e w' ⟨A,c,told,M',rfl,h2,h3,h4,h5,h6,h7,h8,h9⟩
  obtain ⟨k1,k2⟩:=h.turn hM h6 h8 h9
  have hmay:∀x∈told,x.ms.May:=fun x hx=>by
   have h1:x.ms∈M.pl.sync.2:=by rw [←h2];exact List.mem_map_of_mem hx
   refine (@SiteS.ok ⟨V.hot⟩ _ _ hS).held _ ?_
   unfold Site.sync at h1
   split at h1
   ·cases h1
   ·exact (List.mem_filter.1 h1).1
  have hhot:∀{k},k∈({V with ss:=V.ss.set i M'} :WV).hot→k∈M'.fp∨k∈V.hot:=fun {k} hk=>by
   rcases List.mem_append.1 hk with hk | hk
   ·obtain ⟨N,hN,hk⟩:=List.mem_flatMap.1 hk
    obtain ⟨j,hj⟩:=List.mem_iff_getElem?.1 hN
    by_cases e:i=j
    ·subst e;rw [List.getElem?_set_self (List.getElem?_eq_some_iff.1 hM).1] at hj;injection hj with hj
     rw [←hj] at hk
     exact .inl (SiteV.adFp hk)
    ·rw [List.getElem?_set_ne e] at hj;exact .inr (V.diskIn (List.mem_of_getElem? hj) hk)
   ·exact .inr (V.pkIn hk)
  refine ⟨A,c,told,_,rfl,h2,h3,fun k hk hm=>?_,fun x hx=>⟨(h5 x hx).1,hmay x hx,fun k hk=>k1.u8 ((h5 x hx).1.tag k hk) fun hm=>?_⟩,k1,?_,rfl,k2⟩
  ·rcases k2.fresh k hm with h1 | h1
   ·have:=h.lt k h1;have:=(h4 k hk).1;omega
   ·simp only [WV.fp,List.mem_append,List.mem_flatMap] at hm
    rcases hm with hm | hm | ⟨N,hN,hm⟩ | ⟨d,hd,hm⟩
    ·exact tag_ne (h3.tag _ hk) (k1.drow.tag _ hm) (by decide) rfl
    ·rcases k1.netIn (h3.tag _ hk) hm with e | e | ⟨e,-⟩ <;> exact absurd e (by decide)
    ·obtain ⟨j,hj⟩:=List.mem_iff_getElem?.1 hN
     by_cases e:i=j
     ·subst e;rw [List.getElem?_set_self (List.getElem?_eq_some_iff.1 hM).1] at hj;injection hj with hj
      rw [←hj] at hm
      exact (h4 k hk).2 hm
     ·rw [List.getElem?_set_ne e] at hj
      have:=@SiteS.lt ⟨[]⟩ _ _ (h.sites N (List.mem_of_getElem? hj)) k hm
      omega
    ·exact tag_ne (h3.tag _ hk) ((k1.dons d hd).tag _ hm) (by decide) rfl
  ·rcases hhot hm with hm | hm
   ·exact ((h5 x hx).2 k hk).1 hm
   ·exact ((h5 x hx).2 k hk).2 hm
  ·unfold WV.pl
   simp only [Option.map_some]
   rw [List.map_set,h7]
theorem worldTell (w:World) (V:WV) (h:WS w V) (i:Nat) (hL:∀s,V.pl.ss[i]? =some s→Lv s 0) :
  Calls Tryz.prog 103 #[V.ptr,.int .i64 (i:Int)] w fun e w'=>e= .returned (.tuple #[])∧Wone w w' V (V.pl.tell i):=by
 have C0:=worldAt w V h (i:Int)
 rw [WV.at_nat] at C0
 have C1:=worldSync w V h i hL
 have HT:=Lib.hid (V.pl.tell_eq i)
 obtain ⟨T,hT⟩:∃T,V.pl.tell i=T:=⟨_,rfl⟩
 rw [hT] at HT ⊢
 obtain ⟨⟨S1,S2⟩,hSS⟩:∃S,V.pl.synced i=S:=⟨_,rfl⟩
 rw [hSS] at HT C1
 simp only at HT C1
 obtain ⟨P,hP⟩:∃P,ptrO V.ss[i]? =P:=⟨_,rfl⟩
 rw [hP] at C0 C1
 rw [WV.ptr] at C0 ⊢
 clear hT hSS hP h hL
 go_enter Tryz.func103,Tryz.ntmps103
 repeat' (first|go_values|go_skip|go_guarded|go_step|go_upon|(simp only [];go_at_K))
 ((with_reducible refine C0.mono ?_);rintro e w1 ⟨rfl,rfl⟩)
 repeat' (first|go_values|go_skip|go_guarded|go_step|go_upon|(simp only [];go_at_K))
 ((with_reducible refine C1.mono ?_);rintro e w1 ⟨A,c,told,V1,rfl,h2,ho,hAf,hto,h1,hp1,hg1,U1⟩)
 have HS2:=Lib.hid h2
 have HP1:=Lib.hid hp1
 clear C0 C1 h2 hp1
 have hol:=ho.len
 have hcap:told.length≤9223372036854775807:=by have:=ho.cap;unfold maxLen at this;omega
 have HA:=Lib.hid ho.lt
 clear hol
 repeat' (first|go_values|go_skip|go_guarded|go_step|go_upon|(simp only [];go_at_K))
 go_loopw [13] (fun v13 wr=>∃(j:Nat) (V2:WV),j≤told.length∧v13= .int .i64 (j:Int)∧WS wr V2∧V2.pl= {S1 with net:=sends S1.net (S2.take j)}∧V2.gw=V.gw∧Upd V1.fp V2.fp w1 wr) (fun v13 _=>told.length - (intOf v13).toNat)
 case atStart=>exact ⟨0,V1,by omega,rfl,h1,by rw [HP1.out];rfl,hg1,Upd.refl _ _⟩
 case round=>
  obtain ⟨j,V2,hj,rfl,h2,hp2,hg2,U2⟩:=hrel
  have HP2:=Lib.hid hp2
  clear hp2
  by_cases hlt:j < told.length
  ·have hil:(j:Int) < (told.length:Int):=by omega
   have hw1:IntKind.i64.wrap ((j:Int) + 1)=(j:Int) + 1:=by rw [IntKind.wrap_i64];omega
   have ho2:=ho.upd U2 hAf
   have hvr:RdS Mv.cells 10 wr A told.length told:=⟨rfl,ho2.rd⟩
   obtain ⟨ad,rfl,h0,hjj⟩:=RdS.at_ (f:=Mv.cells) (s:=10) (fun _=>rfl) hvr hlt
   obtain ⟨hb0,hmay,hf0⟩:=hto _ (List.getElem_mem hlt)
   have hb2:=hb0.upd U2 hf0
   have HX:=Lib.hid (show S2.take (j + 1)=S2.take j ++ [told[j].ms] by
    have hjl:j < S2.length:=by rw [←HS2.out];simpa using hlt
    rw [List.take_succ_eq_append_getElem hjl]
    congr 2
    simp only [←HS2.out,List.getElem_map])
   generalize told[j]=y at *
   have d0:=h0 _ rfl
   have d1:=hjj 1 _ (by omega) rfl
   have d2:=hjj 2 _ (by omega) rfl
   have d3:=hjj 3 _ (by omega) rfl
   have d4:=hjj 4 _ (by omega) rfl
   have d5:=hjj 5 _ (by omega) rfl
   have d6:=hjj 6 _ (by omega) rfl
   have d7:=hjj 7 _ (by omega) rfl
   have d8:=hjj 8 _ (by omega) rfl
   have d9:=hjj 9 _ (by omega) rfl
   clear h0 hjj hvr ho2 hb0 hf0
   obtain ⟨W2,G,eW2,hG,hB2,UB⟩:=boxes1 wr 32 #[.int .i64 y.k,.int .i64 y.f,.int .i64 y.t,.int .i64 y.s,.int .i64 y.br,.int .i64 y.bs,.int .i64 y.hr,.int .i64 y.hs,.bool y.so,.slice y.A y.n y.c]
   have UB':=UB.gives (b':=[]) (by simp)
   have h3:=h2.upd0 UB'
   have hb3:=hb2.upd0 UB'
   have C2:=netEncode y W2 hb3.rd hmay
   rw [Mv.val_eq] at C2
   have hts:siteB y.t=true:=siteB_yes hmay.to
   have hyl:=hmay.len
   have hto':y.ms.to=y.t:=rfl
   have U3:=U2.trans (UB'.up V2.fp)
   clear U2 hb2 h2
   obtain ⟨⟨b0,b1,b2,b3,b4,b5,b6,b7,b8,b9⟩,-⟩:=hB2.c10
   repeat' (first|go_values|go_skip|go_guarded|go_step|go_upon|(simp only [];go_at_K))
   ((with_reducible refine C2.mono ?_);rintro e w4 ⟨A4,n4,c4,rfl,ho4,hu4⟩)
   have hu4':=hu4.gives (b':=[]) (by simp)
   have h4:=h3.upd0 hu4'
   have U4:=U3.trans (hu4'.up V2.fp)
   have hB4:=hB2.upd hu4 (by simp)
   clear C2 U3 h3 hB2 b0 b1 b2 b3 b4 b5 b6 b7 b8 b9
   have b2:w4.cell? ⟨G,2,none⟩=some (.int .i64 y.t):=hB4.cell 2
   have q1:w4.cell? ⟨V.gw,1,none⟩=some (.pointer (some ⟨V2.gn,0,none⟩)):=by rw [←hg2];exact h4.blk.cell 1
   have b2':w4.drew.cell? ⟨G,2,none⟩=some (.int .i64 y.t):=b2
   have q1':w4.drew.cell? ⟨V.gw,1,none⟩=some (.pointer (some ⟨V2.gn,0,none⟩)):=q1
   have h5:=h4.upd0 ((Upd.refl [] w4).drew)
   have C3:=netSendAny w4.drew V2.gn V2.An V2.nn V2.cn V2.pk h5.net y.t A4 n4 c4 y.ms.bytes (ho4.drew).rd (by omega) hts
   repeat' (first|go_values|go_skip|go_guarded|go_step|go_upon|(simp only [];go_at_K))
   go_still_tail 7,(by kernel_rfl)
   change wpList _ _ _ _ _ w4.drew
   repeat' (first|go_values|go_skip|go_guarded|go_step|go_upon|(simp only [];go_at_K))
   ((with_reducible refine C3.mono ?_);rintro e w5 ⟨r5,A5,n5,c5,l5,rfl,hn5,he5,hu5⟩)
   have hel:=congrArg List.length h5.eq
   rw [List.length_map,List.length_map] at hel
   obtain ⟨k1,k2⟩:=h5.netTurn (net':=if V2.net.length < 4096 then V2.net ++ [y.ms] else V2.net) hn5 (by
    rw [he5,h5.eq,hel]
    split
    ·simp [hto']
    ·rfl) (fun m hm=>by
    split at hm
    ·rcases List.mem_append.1 hm with hm | hm
     ·exact h5.may m hm
     ·rw [List.mem_singleton] at hm;subst hm;exact hmay
    ·exact h5.may m hm) hu5
   repeat' (first|go_values|go_skip|go_guarded|go_step|go_upon|(simp only [];go_at_K))
   refine ⟨⟨j + 1,_,by omega,by simp,k1,?_,hg2,U4.trans (((Upd.refl V2.fp w4).drew).trans k2)⟩,by simp [intOf];omega⟩
   rw [HX.out,sends_snoc]
   have e1:V2.net=sends S1.net (S2.take j):=by have:=congrArg Wd.net HP2.out;exact this
   have e2:=HP2.out
   unfold WV.pl at e2 ⊢
   simp only [Wd.mk.injEq] at e2 ⊢
   exact ⟨e2.1,by rw [e1],e2.2.2⟩
  ·obtain rfl:j=told.length:=by omega
   have hil:¬ ((told.length:Int) < (told.length:Int)):=by omega
   have KEY:=Lib.hid (show Wone w wr V T from ⟨V2,h2,by
    rw [HP2.out,HT.out]
    have:S2.take told.length=S2:=List.take_of_length_le (by rw [←HS2.out];simp)
    rw [this],hg2,U1.trans U2⟩)
   clear h2 U2 HP2
   repeat' (first|go_values|go_skip|go_guarded|go_step|go_upon|(simp only [];go_at_K))
   exact bodyPost_end (results_none rfl _ _ _) rfl ⟨rfl,KEY.out⟩
end Go.Proofs.YtijhlbeipglieaaGreat
namespace Go.Proofs.YtijhlbeipglieaaGreat
open Go.RowKit Agio Go.Maps
theorem netTake_no (w:World) (g:Nat) (A:Option Addr) (n c:Nat) (l:List Pk) (h:NetS w g A n c l) (i:Int) (hi:thereB l.length i=false) :
  Calls Tryz.prog 169 #[.pointer (some ⟨g,0,none⟩),.int .i64 i] w fun e w'=>e= .returned (.tuple #[.int .i64 0,.slice none 0 0,.bool false])∧w=w':=by
 have C:=netThere w g A n c l h i
 rw [hi] at C
 clear h
 go_enter Tryz.func169,Tryz.ntmps169
 repeat' (first|go_values|go_skip|go_guarded|go_step|go_upon|(simp only [];go_at_K))
 ((with_reducible refine C.mono ?_);rintro e w1 ⟨rfl,rfl⟩)
 repeat' (first|go_values|go_skip|go_guarded|go_step|go_upon|(simp only [];go_at_K))
 go_ret3
 exact ⟨rfl,rfl⟩
theorem WS.pkAt {w:World} {V:WV} (h:WS w V) {k:Nat} {m:Ms} (hm:V.net[k]? =some m):∃(hk:k < V.pk.length),V.pk[k].to=m.to∧V.pk[k].b=m.bytes:=by
 have h1:(V.pk.map (fun x=>(x.to,x.b)))[k]? =some (m.to,m.bytes):=by rw [h.eq,List.getElem?_map,hm];rfl
 rw [List.getElem?_map] at h1
 obtain ⟨hk,-⟩:∃hk:k < V.pk.length,True:=by
  rcases Nat.lt_or_ge k V.pk.length with h2 | h2
  ·exact ⟨h2,trivial⟩
  ·rw [List.getElem?_eq_none h2] at h1;cases h1
 rw [List.getElem?_eq_getElem hk] at h1
 simp only [Option.map_some,Option.some.injEq,Prod.mk.injEq] at h1
 exact ⟨hk,h1.1,h1.2⟩
theorem WS.pkLen {w:World} {V:WV} (h:WS w V):V.pk.length=V.net.length:=by
 have:=congrArg List.length h.eq
 rwa [List.length_map,List.length_map] at this
theorem map_erase {α β:Type} (f:α→β):∀(l:List α) (k:Nat),(l.eraseIdx k).map f=(l.map f).eraseIdx k
 | [],_=>rfl
 | _ :: _,0=>rfl
 | x :: l,k + 1=>by simp [map_erase f l k]
theorem WS.pkErase {w:World} {V:WV} (h:WS w V) (k:Nat):(V.pk.eraseIdx k).map (fun x=>(x.to,x.b))=(V.net.eraseIdx k).map fun m=>(m.to,m.bytes):=by
 rw [map_erase,map_erase,h.eq]
theorem worldHandle (w:World) (V:WV) (h:WS w V) (i:Nat) (hL:∀s,V.pl.ss[i]? =some s→Lv s 0) (x:Mv) (hr:RdB w x.A x.n x.b) (hx:∀k∈ablk x.A,k∉V.fp) :
  Calls Tryz.prog 24 #[ptrO V.ss[i]?,x.val] w fun e w'=>(∃r,e= .returned (.int .i64 r))∧Wone w w' V (V.pl.deed i fun s=>(s.handle x.ms).1):=by
 unfold Wd.deed
 rw [WV.ss_pl] at hL ⊢
 cases hM:V.ss[i]? with
 | none=>
  refine (siteHandle_nil w x).mono ?_
  rintro e w' ⟨rfl,hu⟩
  exact ⟨⟨14,rfl⟩,V,h.upd0 hu,rfl,rfl,hu.up _⟩
 | some M=>
  rw [hM] at hL
  have hl:=hL M.pl rfl
  have hMm:=List.mem_of_getElem? hM
  have hS:=h.site hMm
  refine (@siteHandleP ⟨V.hot⟩ Qt (@takeC ⟨V.hot⟩) w M hS x hr (fun _ k hk hm=>hx k hk (by
   simp only [WV.fp,List.mem_append,List.mem_flatMap]
   exact .inr (.inr (.inl ⟨M,hMm,hm⟩)))) (fun _ hd _=>hl.handle hd x.ms)).mono ?_
  rintro e w' ⟨rfl,M',h6,h7,h8,h9⟩
  obtain ⟨k1,k2⟩:=h.turn hM h6 h8 h9
  refine ⟨⟨_,rfl⟩,_,k1,?_,rfl,k2⟩
  unfold WV.pl
  simp only [Option.map_some]
  rw [List.map_set,h7]
theorem Wd.deliver_eq (w:Wd) (k:Nat) {m:Ms} (hm:w.net[k]? =some m):w.deliver k=({w with net:=w.net.eraseIdx k} :Wd).deed m.to.toNat fun s=>(s.handle m).1:=by
 unfold Wd.deliver Wd.deed
 rw [hm]
theorem worldDeliver_no (w:World) (V:WV) (h:WS w V) (i:Int) (hi:thereB V.net.length i=false) :
  Calls Tryz.prog 104 #[V.ptr,.int .i64 i] w fun e w'=>e= .returned (.tuple #[.int .i64 0,.bool false])∧w=w':=by
 have C:=netTake_no w V.gn V.An V.nn V.cn V.pk h.net i (by rw [h.pkLen];exact hi)
 have q1:w.cell? ⟨V.gw,1,none⟩=some (.pointer (some ⟨V.gn,0,none⟩)):=h.blk.cell 1
 rw [WV.ptr]
 clear h hi
 go_enter Tryz.func104,Tryz.ntmps104
 repeat' (first|go_values|go_skip|go_guarded|go_step|go_upon|(simp only [];go_at_K))
 ((with_reducible refine C.mono ?_);rintro e w1 ⟨rfl,rfl⟩)
 repeat' (first|go_values|go_skip|go_guarded|go_step|go_upon|(simp only [];go_at_K))
 go_ret2
 exact ⟨rfl,rfl⟩
theorem worldDeliver (w:World) (V:WV) (h:WS w V) (k:Nat) (m:Ms) (hm:V.net[k]? =some m) (hL:∀(i:Nat) s,V.pl.ss[i]? =some s→Lv s 0) :
  Calls Tryz.prog 104 #[V.ptr,.int .i64 (k:Int)] w fun e w'=>e= .returned (.tuple #[.int .i64 m.to,.bool true])∧Wone w w' V (V.pl.deliver k):=by
 obtain ⟨hk,hto,hb⟩:=h.pkAt hm
 obtain ⟨x,hx⟩:∃x,V.pk[k]=x:=⟨_,rfl⟩
 have C:=netTake w V.gn V.An V.nn V.cn V.pk h.net k hk x hx
 rw [hx] at hto hb
 have hmay:=h.may m (List.mem_of_getElem? hm)
 have q1:w.cell? ⟨V.gw,1,none⟩=some (.pointer (some ⟨V.gn,0,none⟩)):=h.blk.cell 1
 have hbl:m.bytes.length≤140737488355328:=by have:=hmay.len;omega
 have hxt:x.to=m.to:=hto
 obtain ⟨T,hT⟩:∃T,V.pl.deliver k=T:=⟨_,rfl⟩
 have HT:=Lib.hid ((Wd.deliver_eq V.pl k (m:=m) hm).symm.trans hT)
 rw [hT]
 clear hT hm hto hx
 rw [WV.ptr]
 go_enter Tryz.func104,Tryz.ntmps104
 repeat' (first|go_values|go_skip|go_guarded|go_step|go_upon|(simp only [];go_at_K))
 ((with_reducible refine C.mono ?_);rintro e w1 ⟨A1,n1,c1,rfl,hn1,ho1,hf1,hu1⟩)
 obtain ⟨k1,k2⟩:=h.netTurn (net':=V.net.eraseIdx k) hn1 (h.pkErase k) (fun m' hm'=>h.may m' (List.mem_of_mem_eraseIdx hm')) hu1
 obtain ⟨V1,hV1⟩:∃V1:WV,{V with An:=A1,nn:=n1,cn:=c1,pk:=V.pk.eraseIdx k,net:=V.net.eraseIdx k} =V1:=⟨_,rfl⟩
 have hp1:V1.pl= {V.pl with net:=V.pl.net.eraseIdx k}:=by rw [←hV1];rfl
 have hg1:V1.gw=V.gw:=by rw [←hV1]
 rw [hV1] at k1 k2
 have hL1:∀(i:Nat) s,V1.pl.ss[i]? =some s→Lv s 0:=fun i s hs=>hL i s (by rw [hp1] at hs;exact hs)
 rw [←hp1] at HT
 clear C q1 h hn1 hf1 hu1 hV1 hp1 hL
 rw [hb] at ho1
 rw [hxt]
 repeat' (first|go_values|go_skip|go_guarded|go_step|go_upon|(simp only [];go_at_K))
 ((with_reducible refine (netDecodeF w1 x.A x.n x.c m.bytes ho1.rd ho1.own.cap.1 ho1.own.cap.2 hbl).mono ?_);rintro e w2 ⟨hN,hu2⟩)
 obtain ⟨y,hym,hoy,hyf,rfl⟩:=nDecF_same hmay hN
 have h2:=k1.upd0 hu2
 have U2:=k2.trans (hu2.up V1.fp)
 have hylt:=k1.lt
 clear hN k1 k2 ho1 hu2
 rw [Mv.val_eq]
 obtain ⟨W,H,eW,hH,hB,U0⟩:=boxes1 w2 32 #[.int .i64 y.k,.int .i64 y.f,.int .i64 y.t,.int .i64 y.s,.int .i64 y.br,.int .i64 y.bs,.int .i64 y.hr,.int .i64 y.hs,.bool y.so,.slice y.A y.n y.c]
 have U0':=U0.gives (b':=[]) (by simp)
 have h3:=h2.upd0 U0'
 have U3:=U2.trans (U0'.up V1.fp)
 have hr3:=(hoy.upd U0' (by simp)).rd
 have C1:=worldAt W.drew V1 (h3.upd0 ((Upd.refl [] W).drew)) m.to
 have hti:m.to=((m.to.toNat:Nat):Int):=by have:=hmay.to;omega
 have hat:V1.at_ m.to=V1.ss[m.to.toNat]?:=by rw [hti,WV.at_nat];rfl
 rw [hat] at C1
 have C2:=worldHandle W.drew V1 (h3.upd0 ((Upd.refl [] W).drew)) m.to.toNat (fun s=>hL1 _ s) y (hr3.upd ((Upd.refl [] W).drew) (by simp)) (fun k hk hm=>by have:=hyf k hk;have:=hylt k hm;omega)
 rw [hym,HT.out,Mv.val_eq] at C2
 obtain ⟨P,hP⟩:∃P,ptrO V1.ss[m.to.toNat]? =P:=⟨_,rfl⟩
 rw [hP] at C1 C2
 rw [WV.ptr,hg1] at C1
 clear h2 U2 hoy hyf hylt hP hat hr3 hti hxt hb hk hym
 obtain ⟨⟨b0,b1,b2,b3,b4,b5,b6,b7,b8,b9⟩,-⟩:=hB.c10
 repeat' (first|go_values|go_skip|go_guarded|go_step|go_upon|(simp only [];go_at_K))
 go_still_tail 4,(by kernel_rfl)
 still_call (C1.mono fun _ _ ⟨h1,h2⟩=>⟨h1,h2.symm⟩)
 repeat still_step
 refine wpStill_nil ?_
 change wpList _ _ _ _ _ W.drew
 repeat' (first|go_values|go_skip|go_guarded|go_step|go_upon|(simp only [];go_at_K))
 ((with_reducible refine C2.mono ?_);rintro e w3 ⟨⟨r,rfl⟩,V3,h4,hp4,hg4,U4⟩)
 repeat' (first|go_values|go_skip|go_guarded|go_step|go_upon|(simp only [];go_at_K))
 go_ret2
 exact ⟨rfl,V3,h4,hp4,hg4.trans hg1,(U3.trans ((Upd.refl V1.fp W).drew)).trans U4⟩
end Go.Proofs.YtijhlbeipglieaaGreat
namespace Go.Proofs.YtijhlbeipglieaaGreat
open Go.RowKit Agio Go.Maps
section
variable {w w':World} {V:WV}
theorem WS.dOut (h:WS w V) {D:DnV} {k:Nat} {t:Option TypeId} (hD:D∈V.dn) (ht:tagW w k=some t) (h1:t≠some 72) (h2:t≠some 28):k∉ablk V.Ad ++ ablk D.A:=fun hm=>by
 rcases List.mem_append.1 hm with hm | hm
 ·exact tag_ne ht (h.drow.tag k hm) h1 rfl
 ·exact tag_ne ht ((h.dons D hD).tag k hm) h2 rfl
theorem WS.doneTurn (h:WS w V) {i:Nat} {D D':DnV} (hi:V.dn[i]? =some D) (hr:Agio.Own 72 1 w' V.Ad V.dn.length V.cd ((V.dn.set i D').map DnV.val))
  (hd:Agio.Own 28 1 w' D'.A D'.l.length D'.c (D'.l.map Bsl.val)) (hb:∀x∈D'.l,BytS w' x∧∀k∈ablk x.A,k∉V.hot) (hu:Upd (ablk V.Ad ++ ablk D.A) (ablk V.Ad ++ ablk D'.A) w w') :
  WS w' {V with dn:=V.dn.set i D'}∧Upd V.fp ({V with dn:=V.dn.set i D'} :WV).fp w w':=by
 have hDm:D∈V.dn:=List.mem_of_getElem? hi
 have hil:i < V.dn.length:=(List.getElem?_eq_some_iff.1 hi).1
 have off:=fun {k:Nat} {t:Option TypeId}=>h.dOut (D:=D) (k:=k) (t:=t) hDm
 have hmem:∀N∈V.dn.set i D',N=D'∨∃j,j≠i∧V.dn[j]? =some N:=fun N hN=>by
  obtain ⟨j,hj⟩:=List.mem_iff_getElem?.1 hN
  by_cases e:i=j
  ·subst e;rw [List.getElem?_set_self hil] at hj;injection hj with hj;exact .inl hj.symm
  ·rw [List.getElem?_set_ne e] at hj;exact .inr ⟨j,fun e'=>e e'.symm,hj⟩
 have hdis:∀{j:Nat} {N:DnV},j≠i→V.dn[j]? =some N→∀k∈ablk N.A,k∉ablk D.A:=fun {j N} hne hN k hk hm=>by
  obtain ⟨hj,ej⟩:=List.getElem?_eq_some_iff.1 hN
  obtain ⟨hi2,ei⟩:=List.getElem?_eq_some_iff.1 hi
  have hp:=List.pairwise_iff_getElem.1 h.dfar
  rcases Nat.lt_or_ge i j with hlt | hlt
  ·exact hp i j hil hj hlt k (by rw [ei];exact hm) (by rw [ej];exact hk)
  ·exact hp j i hj hil (by omega) k (by rw [ej];exact hk) (by rw [ei];exact hm)
 have hdo:∀{j:Nat} {N:DnV},j≠i→V.dn[j]? =some N→∀k∈ablk N.A,k∉ablk V.Ad ++ ablk D.A:=fun {j N} hne hN k hk hm=>by
  rcases List.mem_append.1 hm with hm | hm
  ·exact tag_ne ((h.dons N (List.mem_of_getElem? hN)).tag k hk) (h.drow.tag k hm) (by decide) rfl
  ·exact hdis hne hN k hk hm
 have hfar':∀{j:Nat} {N:DnV},j≠i→V.dn[j]? =some N→∀k∈ablk D'.A,k∉ablk N.A:=fun {j N} hne hN k hk hm=>by
  rcases hu.fresh k (List.mem_append.2 (.inr hk)) with h1 | h1
  ·exact hdo hne hN k hm h1
  ·have:=(h.dons N (List.mem_of_getElem? hN)).lt k hm;omega
 have hbm:∀x∈({V with dn:=V.dn.set i D'} :WV).bytes,x∈D'.l∨x∈V.bytes:=fun x hx=>by
  rcases List.mem_append.1 hx with hx | hx
  ·exact .inr (List.mem_append.2 (.inl hx))
  ·obtain ⟨N,hN,hx2⟩:=List.mem_flatMap.1 hx
   rcases hmem N hN with e | ⟨j,-,hj⟩
   ·rw [e] at hx2;exact .inl hx2
   ·exact .inr (V.byD (List.mem_of_getElem? hj) hx2)
 have hby:∀x∈V.bytes,∀k∈ablk x.A,k∉ablk V.Ad ++ ablk D.A:=fun x hx k hk=>off ((h.byt x hx).tag k hk) (by decide) (by decide)
 refine ⟨⟨?_,h.row.upd hu (fun k hk=>off (h.row.tag k hk) (by decide) (by decide)),h.net.upd hu ?_,h.eq,h.may,?_,?_,fun M hM=>@SiteS.upd ⟨[]⟩ _ _ _ _ _ (h.sites M hM) hu (fun k hk=>?_) (fun x hx=>hby x (V.byM hM hx)),h.far,?_,?_,?_,?_,h.apart⟩,?_⟩
 ·have:=h.blk.upd hu (off h.blk.tag (by decide) (by decide))
  simpa [WV.cells] using this
 ·intro k hk
  simp only [fpN,List.mem_cons,List.mem_append] at hk
  rcases hk with rfl | hk | hk
  ·exact off h.net.blk.tag (by decide) (by decide)
  ·exact off (h.tpkl k hk) (by decide) (by decide)
  ·exact off (h.tpk k hk) (by decide) (by decide)
 ·simpa using hr
 ·simp only [List.length_set];exact h.dlen
 ·obtain ⟨t,ht,h2⟩:=@SiteS.tagIn ⟨[]⟩ _ _ (h.sites M hM) k hk
  exact off h2 (by rintro rfl;exact absurd ht (by decide)) (by rintro rfl;exact absurd ht (by decide))
 ·intro N hN
  rcases hmem N hN with e | ⟨j,hj,hN⟩
  ·rw [e];exact hd
  ·exact (h.dons N (List.mem_of_getElem? hN)).upd hu (hdo hj hN)
 ·refine List.pairwise_iff_getElem.2 fun a b ha hb hab=>?_
  simp only [List.length_set] at ha hb
  have hga:V.dn[a]? =some V.dn[a]:=List.getElem?_eq_getElem ha
  have hgb:V.dn[b]? =some V.dn[b]:=List.getElem?_eq_getElem hb
  simp only
  rw [List.getElem_set,List.getElem_set]
  split
  ·rename_i e
   subst e
   rw [if_neg (by omega)]
   exact hfar' (by omega) hgb
  ·split
   ·rename_i e1 e
    subst e
    exact fun k hk hm=>hfar' (by omega) hga k hm hk
   ·exact List.pairwise_iff_getElem.1 h.dfar a b ha hb hab
 ·intro x hx
  rcases hbm x hx with hx | hx
  ·exact (hb x hx).1
  ·exact (h.byt x hx).upd hu (hby x hx)
 ·intro x hx k hk hm
  rcases hbm x hx with hx | hx
  ·exact (hb x hx).2 k hk hm
  ·exact h.cold x hx k hk hm
 ·refine hu.mono (fun k hk=>?_) (fun k hk=>?_)
  ·simp only [WV.fp,List.mem_append,List.mem_flatMap] at hk ⊢
   rcases hk with hk | hk
   ·exact .inl hk
   ·exact .inr (.inr (.inr ⟨D,hDm,hk⟩))
  ·simp only [WV.fp,List.mem_append,List.mem_flatMap] at hk ⊢
   rcases hk with hk | hk | hk | ⟨N,hN,hk2⟩
   ·exact .inl (.inl hk)
   ·exact .inr (.inl (.inr (.inl hk)))
   ·exact .inr (.inl (.inr (.inr (.inl hk))))
   ·rcases hmem N hN with e | ⟨j,-,hj⟩
    ·rw [e] at hk2;exact .inl (.inr hk2)
    ·exact .inr (.inl (.inr (.inr (.inr ⟨N,List.mem_of_getElem? hj,hk2⟩))))
theorem WS.ptrAt (h:WS w V) {i:Nat} {M:SiteV} (hM:V.ss[i]? =some M):∃g,V.As=some ⟨g,0,none⟩∧w.cell? ⟨g,i,none⟩=some M.ptr:=by
 obtain ⟨hi,e⟩:=List.getElem?_eq_some_iff.1 hM
 obtain ⟨g,cur,hA,hB,hl,hnc,-⟩:=h.row.block (by omega)
 refine ⟨g,hA,?_⟩
 have:=hB.cell i
 rw [this,List.getElem?_toArray,List.getElem?_append_left (by simpa using hi),List.getElem?_map,hM]
 rfl
theorem WS.doneAt (h:WS w V) {i:Nat} {D:DnV} (hD:V.dn[i]? =some D):∃g,V.Ad=some ⟨g,0,none⟩∧w.cell? ⟨g,i,none⟩=some D.val:=by
 obtain ⟨hi,e⟩:=List.getElem?_eq_some_iff.1 hD
 obtain ⟨g,cur,hA,hB,hl,hnc,-⟩:=h.drow.block (by omega)
 refine ⟨g,hA,?_⟩
 have:=hB.cell i
 rw [this,List.getElem?_toArray,List.getElem?_append_left (by simpa using hi),List.getElem?_map,hD]
 rfl
theorem WS.gone (h:WS w V) {i:Nat} {M:SiteV} (hM:V.ss[i]? =some M) {t:Site} (hg: @Gone ⟨V.hot⟩ w w' M t):Wone w w' V {V.pl with ss:=V.pl.ss.set i t}:=by
 obtain ⟨M',h6,h7,h8,h9⟩:=hg
 obtain ⟨k1,k2⟩:=h.turn hM h6 h8 h9
 refine ⟨_,k1,?_,rfl,k2⟩
 unfold WV.pl
 rw [List.map_set,h7]
end
theorem worldRestart (w:World) (V:WV) (h:WS w V) (i:Nat) (M:SiteV) (hM:V.ss[i]? =some M) :
  Calls Tryz.prog 183 #[V.ptr,.int .i64 (i:Int)] w fun e w'=>e= .returned (.tuple #[])∧Wone w w' V (V.pl.restart i):=by
 have hMm:=List.mem_of_getElem? hM
 obtain ⟨hi,-⟩:=List.getElem?_eq_some_iff.1 hM
 have C0:=@siteDown ⟨V.hot⟩ w M (h.site hMm)
 have q0:w.cell? ⟨V.gw,0,none⟩=some (.slice V.As V.ss.length V.cs):=h.blk.cell 0
 obtain ⟨gs,hA,hc⟩:=h.ptrAt hM
 have hcap:=h.row.cap
 obtain ⟨n,hn⟩:∃n,V.ss.length=n:=⟨_,rfl⟩
 have hin:i < n:=by omega
 have hin':(i:Int) < (n:Int):=by omega
 rw [hA,hn] at q0
 have HR:=Lib.hid (show V.pl.restart i= {V.pl with ss:=V.pl.ss.set i M.pl.restart,done:=if M.pl.down then V.pl.done.set i [] else V.pl.done} by
  unfold Wd.restart;rw [V.ss_pl,hM];rfl)
 obtain ⟨T,hT⟩:∃T,V.pl.restart i=T:=⟨_,rfl⟩
 rw [hT] at HR ⊢
 clear hT
 rw [SiteV.ptr] at hc C0
 cases hd:M.pl.down with
 | false=>
  rw [hd] at C0 HR
  have C1:=@siteRestart ⟨V.hot⟩ w M (h.site hMm)
  rw [SiteV.ptr] at C1
  have HG:=Lib.hid (fun w' (hg: @Gone ⟨V.hot⟩ w w' M M.pl.restart)=>h.gone hM hg)
  rw [WV.ptr]
  clear h hM hi hn hA
  go_enter Tryz.func183,Tryz.ntmps183
  repeat' (first|go_values|go_skip|go_guarded|go_step|go_upon|(simp only [];go_at_K))
  ((with_reducible refine C0.mono ?_);rintro e w1 ⟨rfl,rfl⟩)
  repeat' (first|go_values|go_skip|go_guarded|go_step|go_upon|(simp only [];go_at_K))
  ((with_reducible refine C1.mono ?_);rintro e w1 ⟨rfl,hg⟩)
  repeat' (first|go_values|go_skip|go_guarded|go_step|go_upon|(simp only [];go_at_K))
  exact bodyPost_end (results_none rfl _ _ _) rfl ⟨rfl,by rw [HR.out];exact HG.out _ hg⟩
 | true=>
  rw [hd] at C0 HR
  have hdi:i < V.dn.length:=by rw [h.dlen];exact hi
  have hD:V.dn[i]? =some V.dn[i]:=List.getElem?_eq_getElem hdi
  obtain ⟨gd,hAd,hcd⟩:=h.doneAt hD
  obtain ⟨gd',hAd',hf,hrow,hu⟩:=h.drow.write (k:=i) (by omega) (.slice none 0 0)
  obtain rfl:gd'=gd:=by rw [hAd] at hAd';injection hAd' with e;injection e with e;exact e.symm
  obtain ⟨k1,k2⟩:=h.doneTurn (D':=⟨none,0,[]⟩) hD (by rw [List.map_set];exact hrow) (Agio.Own.nil _ _ _) (by simp) (hu.mono (fun k hk=>List.mem_append.2 (.inl hk)) (fun k hk=>by simp only [ablk,List.append_nil] at hk;exact .inl hk))
  obtain ⟨V1,hV1⟩:∃V1:WV,{V with dn:=V.dn.set i ⟨none,0,[]⟩} =V1:=⟨_,rfl⟩
  have hp1:V1.pl= {V.pl with done:=V.pl.done.set i []}:=by rw [←hV1];unfold WV.pl;simp [List.map_set]
  have hg1:V1.gw=V.gw:=by rw [←hV1]
  have hM1:V1.ss[i]? =some M:=by rw [←hV1];exact hM
  rw [hV1] at k1 k2
  have q2:w.cell? ⟨V.gw,2,none⟩=some (.slice V.Ad V.dn.length V.cd):=h.blk.cell 2
  have hcapd:=h.drow.cap
  rw [h.dlen,hn] at hcapd
  rw [h.dlen,hn,hAd] at q2
  obtain ⟨dv,hdv⟩:∃dv,V.dn[i].val=dv:=⟨_,rfl⟩
  rw [hdv] at hcd
  clear hdv
  obtain ⟨W,hW⟩:∃W,w.setCell ⟨gd',i,none⟩ (.slice none 0 0)=W:=⟨_,rfl⟩
  have C1:=@siteRestart ⟨V1.hot⟩ (w.setCell ⟨gd',i,none⟩ (.slice none 0 0)) M (k1.site (List.mem_of_getElem? hM1))
  rw [SiteV.ptr] at C1
  have hM1l:V1.ss.length=n:=by rw [←hV1];exact hn
  obtain ⟨gs1,hA1,hc1⟩:=k1.ptrAt hM1
  have q01:(w.setCell ⟨gd',i,none⟩ (.slice none 0 0)).cell? ⟨V.gw,0,none⟩=some (.slice V1.As V1.ss.length V1.cs):=by rw [←hg1];exact k1.blk.cell 0
  rw [hA1,hM1l] at q01
  rw [SiteV.ptr] at hc1
  have hcap1:=k1.row.cap
  rw [hM1l] at hcap1
  have HG:=Lib.hid (fun w' (hg: @Gone ⟨V1.hot⟩ (w.setCell ⟨gd',i,none⟩ (.slice none 0 0)) w' M M.pl.restart)=>show Wone w w' V T from by
   obtain ⟨V2,h1,h2,h3,h4⟩:=k1.gone hM1 hg
   exact ⟨V2,h1,by rw [h2,HR.out,hp1];rfl,h3.trans hg1,k2.trans h4⟩)
  rw [WV.ptr]
  rw [hW] at C1 q01 hc1 HG
  clear h hM hi hn hA k1 k2 hu hrow hV1 hp1 hM1 hD hAd' hd HR hM1l hMm
  go_enter Tryz.func183,Tryz.ntmps183
  repeat' (first|go_values|go_skip|go_guarded|go_step|go_upon|(simp only [];go_at_K))
  ((with_reducible refine C0.mono ?_);rintro e w1 ⟨rfl,rfl⟩)
  repeat' (first|go_values|go_skip|go_guarded|go_step|go_upon|(simp only [];go_at_K))
  ((with_reducible refine C1.mono ?_);rintro e w1 ⟨rfl,hg⟩)
  repeat' (first|go_values|go_skip|go_guarded|go_step|go_upon|(simp only [];go_at_K))
  exact bodyPost_end (results_none rfl _ _ _) rfl ⟨rfl,HG.out _ hg⟩
end Go.Proofs.YtijhlbeipglieaaGreat
namespace Go.Proofs.YtijhlbeipglieaaGreat
open Go.RowKit Agio Go.Maps
structure Ev where
 k:Int
 s:Int
 at_:Int
 n:Int
 A:Option Addr
 l:Nat
 c:Nat
 b:List UInt8
def Ev.val (x:Ev):Value:=.agg #[.int .i64 x.k,.int .i64 x.s,.int .i64 x.at_,.int .i64 x.n,.slice x.A x.l x.c]
theorem Ev.val_eq (x:Ev):x.val= .agg #[.int .i64 x.k,.int .i64 x.s,.int .i64 x.at_,.int .i64 x.n,.slice x.A x.l x.c]:=rfl
def Wbox (w:World) (hb:Nat) (V:WV):Prop:=Blk w hb 77 #[V.ptr]
theorem Wbox.far {w:World} {hb:Nat} {V:WV} (h:WS w V) (hB:Wbox w hb V):hb∉V.fp:=by
 intro hm
 have ht:tagW w hb=some (some 77):=Blk.tag hB
 simp only [WV.fp,List.mem_append,List.mem_flatMap] at hm
 rcases hm with hm | hm | ⟨M,hM,hm⟩ | ⟨d,hd,hm⟩
 ·exact tag_ne ht (h.drow.tag _ hm) (by decide) rfl
 ·rcases h.netIn ht hm with e | e | ⟨e,-⟩ <;> exact absurd e (by decide)
 ·exact @SiteS.off ⟨[]⟩ _ _ (h.sites M hM) _ _ ht (by decide) hm
 ·exact tag_ne ht ((h.dons d hd).tag _ hm) (by decide) rfl
theorem WV.siteFp {V:WV} {M:SiteV} (hM:M∈V.ss) {k:Nat} (hk:k∈M.fp):k∈V.fp:=by
 simp only [WV.fp,List.mem_append,List.mem_flatMap]
 exact .inr (.inr (.inl ⟨M,hM,hk⟩))
structure Road (w:World) (V:WV) (hb H gs:Nat) (i:Nat) (n cs:Nat) (gM:Nat) (x:Ev):Prop where
 a:w.cell? ⟨hb,0,none⟩=some (.pointer (some ⟨V.gw,0,none⟩))
 b:w.cell? ⟨V.gw,0,none⟩=some (.slice (some ⟨gs,0,none⟩) n cs)
 c:w.cell? ⟨H,1,none⟩=some (.int .i64 (i:Int))
 d:w.cell? ⟨gs,i,none⟩=some (.pointer (some ⟨gM,0,none⟩))
 e:w.cell? ⟨H,4,none⟩=some (.slice x.A x.l x.c)
 f:w.cell? ⟨H,3,none⟩=some (.int .i64 x.n)
theorem WS.road {w:World} {V:WV} (h:WS w V) {hb:Nat} (hB:Wbox w hb V) {H:Nat} {x:Ev} (hH:Blk w H 85 #[.int .i64 x.k,.int .i64 x.s,.int .i64 x.at_,.int .i64 x.n,.slice x.A x.l x.c]) {i:Nat} (hs:x.s=(i:Int)) {M:SiteV} (hM:V.ss[i]? =some M) :
  ∃gs,V.As=some ⟨gs,0,none⟩∧Road w V hb H gs i V.ss.length V.cs M.gs x∧∀{w':World} {t:Site},@Gone ⟨V.hot⟩ w w' M t→Road w' V hb H gs i V.ss.length V.cs M.gs x:=by
 obtain ⟨gs,hA,hc⟩:=h.ptrAt hM
 have R:Road w V hb H gs i V.ss.length V.cs M.gs x:=⟨hB.cell 0,by rw [←hA];exact h.blk.cell 0,by rw [←hs];exact hH.cell 1,hc,hH.cell 4,hH.cell 3⟩
 refine ⟨gs,hA,R,fun {w' t} hg=>?_⟩
 obtain ⟨M',-,-,-,hu⟩:=hg
 have hMm:=List.mem_of_getElem? hM
 have off:∀{k:Nat} {t:Option TypeId},tagW w k=some t→t∉siteTags→k∉M.fp:=fun h1 h2=>@SiteS.off ⟨[]⟩ _ _ (h.sites M hMm) _ _ h1 h2
 have n1:hb∉M.fp:=off (Blk.tag hB) (by decide)
 have n2:V.gw∉M.fp:=off h.blk.tag (by decide)
 have n3:H∉M.fp:=off hH.tag (by decide)
 have n4:gs∉M.fp:=off (h.row.tag gs (by rw [hA];simp [ablk])) (by decide)
 exact ⟨hu.cell R.a n1,hu.cell R.b n2,hu.cell R.c n3,hu.cell R.d n4,hu.cell R.e n3,hu.cell R.f n3⟩
theorem worldSubmitF (w:World) (V:WV) (h:WS w V) (hb:Nat) (hB:Wbox w hb V) (x:Ev) (i:Nat) (hs:x.s=(i:Int)) (M:SiteV) (hM:V.ss[i]? =some M) (hL:Lv M.pl 0) (hr:RdB w x.A x.l x.b) (hl:x.b.length≤140737488355328) :
  Calls Tryz.prog 173 #[x.val,.pointer (some ⟨hb,0,none⟩)] w fun e w'=>e= .returned (.tuple #[.int .i64 (M.pl.submit x.b).2.1,.int .i64 (M.pl.submit x.b).2.2])∧
   Wone w w' V {V.pl with ss:=V.pl.ss.set i (M.pl.submit x.b).1}:=by
 obtain ⟨W,H,eW,hH,hBx,U0⟩:=boxes1 w 85 #[.int .i64 x.k,.int .i64 x.s,.int .i64 x.at_,.int .i64 x.n,.slice x.A x.l x.c]
 have U0':=U0.gives (b':=[]) (by simp)
 have h1:=h.upd0 U0'
 have hMm:=List.mem_of_getElem? hM
 have h1d:=h1.upd0 ((Upd.refl [] W).drew)
 obtain ⟨gs,hA,RDd,RK⟩:=h1d.road (hb:=hb) (Blk.upd hB U0'.drew (by simp)) hBx.drew hs hM
 have hcap:=h.row.cap
 have hi:i < V.ss.length:=(List.getElem?_eq_some_iff.1 hM).1
 have C:=@siteSubmit ⟨V.hot⟩ W.drew M (h1d.site hMm) x.A x.l x.c x.b (hr.upd (U0'.drew) (by simp)) hl (by have:=hL.held;rw [SiteV.held_len] at this;omega)
 have HG:=Lib.hid (fun w' (hg: @Gone ⟨V.hot⟩ W.drew w' M (M.pl.submit x.b).1)=>show Wone w w' V {V.pl with ss:=V.pl.ss.set i (M.pl.submit x.b).1} from by
  obtain ⟨V2,k1,k2,k3,k4⟩:=h1d.gone hM hg
  exact ⟨V2,k1,k2,k3,(U0'.drew.up V.fp).trans k4⟩)
 obtain ⟨R,hR⟩:∃R,M.pl.submit x.b=R:=⟨_,rfl⟩
 rw [hR] at C HG ⊢
 obtain ⟨n,hn⟩:∃n,V.ss.length=n:=⟨_,rfl⟩
 rw [hn] at RDd hcap hi
 have RK:=Lib.hid (fun w' hg=>hn▸RK (w':=w') (t:=R.1) hg)
 have hin':(i:Int) < (n:Int):=by omega
 obtain ⟨a,b,c,d,e,-⟩:=RDd
 rw [SiteV.ptr] at C
 rw [Ev.val_eq,hs]
 rw [hs] at eW
 clear h1 h1d h hM hMm hn hL hr hR hB hBx hA
 go_enter Tryz.func173,Tryz.ntmps173
 repeat' (first|go_values|go_skip|go_guarded|go_step|go_upon|(simp only [];go_at_K))
 go_region_held3 (fun w'=>w'.cell? ⟨hb,0,none⟩=some (.pointer (some ⟨V.gw,0,none⟩))∧w'.cell? ⟨V.gw,0,none⟩=some (.slice (some ⟨gs,0,none⟩) n V.cs)∧w'.cell? ⟨H,1,none⟩=some (.int .i64 (i:Int))∧w'.cell? ⟨gs,i,none⟩=some (.pointer (some ⟨M.gs,0,none⟩))∧w'.cell? ⟨H,4,none⟩=some (.slice x.A x.l x.c)) (first | exact ⟨a,b,c,d,e⟩ | exact ⟨r2.a,r2.b,r2.c,r2.d,r2.e⟩)
  (first
   | (go_at_call 20;(with_reducible refine C.mono ?_);rintro e w2 ⟨rfl,hg⟩;have r2:=RK.out _ hg))
 all_goals (repeat' (first | go_values | go_skip | go_guarded | go_step | go_upon | (simp only [];go_at_K)))
 all_goals go_ret2
 all_goals exact ⟨rfl,HG.out _ hg⟩
theorem worldCrashF (w:World) (V:WV) (h:WS w V) (hb:Nat) (hB:Wbox w hb V) (x:Ev) (i:Nat) (hs:x.s=(i:Int)) (M:SiteV) (hM:V.ss[i]? =some M) :
  Calls Tryz.prog 181 #[x.val,.pointer (some ⟨hb,0,none⟩)] w fun e w'=>e= .returned (.tuple #[.int .i64 0,.int .i64 0])∧
   Wone w w' V {V.pl with ss:=V.pl.ss.set i (M.pl.crash x.n)}:=by
 obtain ⟨W,H,eW,hH,hBx,U0⟩:=boxes1 w 85 #[.int .i64 x.k,.int .i64 x.s,.int .i64 x.at_,.int .i64 x.n,.slice x.A x.l x.c]
 have U0':=U0.gives (b':=[]) (by simp)
 have h1:=h.upd0 U0'
 have hMm:=List.mem_of_getElem? hM
 have h1d:=h1.upd0 ((Upd.refl [] W).drew)
 obtain ⟨gs,hA,RDd,RK⟩:=h1d.road (hb:=hb) (Blk.upd hB U0'.drew (by simp)) hBx.drew hs hM
 have hcap:=h.row.cap
 have hi:i < V.ss.length:=(List.getElem?_eq_some_iff.1 hM).1
 have C:=@siteCrash ⟨V.hot⟩ W.drew M (h1d.site hMm) x.n
 have HG:=Lib.hid (fun w' (hg: @Gone ⟨V.hot⟩ W.drew w' M (M.pl.crash x.n))=>show Wone w w' V {V.pl with ss:=V.pl.ss.set i (M.pl.crash x.n)} from by
  obtain ⟨V2,k1,k2,k3,k4⟩:=h1d.gone hM hg
  exact ⟨V2,k1,k2,k3,(U0'.drew.up V.fp).trans k4⟩)
 obtain ⟨R,hR⟩:∃R,M.pl.crash x.n=R:=⟨_,rfl⟩
 rw [hR] at C HG ⊢
 obtain ⟨n,hn⟩:∃n,V.ss.length=n:=⟨_,rfl⟩
 rw [hn] at RDd hcap hi
 have RK:=Lib.hid (fun w' hg=>hn▸RK (w':=w') (t:=R) hg)
 have hin':(i:Int) < (n:Int):=by omega
 obtain ⟨a,b,c,d,-,e⟩:=RDd
 rw [SiteV.ptr] at C
 rw [Ev.val_eq,hs]
 rw [hs] at eW
 clear h1 h1d h hM hMm hn hR hB hBx hA
 go_enter Tryz.func181,Tryz.ntmps181
 repeat' (first|go_values|go_skip|go_guarded|go_step|go_upon|(simp only [];go_at_K))
 go_still_tail 10,(by kernel_rfl)
 change wpList _ _ _ _ _ W.drew
 repeat' (first|go_values|go_skip|go_guarded|go_step|go_upon|(simp only [];go_at_K))
 ((with_reducible refine C.mono ?_);rintro e w2 ⟨rfl,hg⟩)
 repeat' (first|go_values|go_skip|go_guarded|go_step|go_upon|(simp only [];go_at_K))
 go_ret2
 exact ⟨rfl,HG.out _ hg⟩
theorem worldTickF (w:World) (V:WV) (h:WS w V) (hb:Nat) (hB:Wbox w hb V) (x:Ev) (i:Nat) (hs:x.s=(i:Int)) (M:SiteV) (hM:V.ss[i]? =some M) (hL:Lv M.pl 300) :
  Calls Tryz.prog 179 #[x.val,.pointer (some ⟨hb,0,none⟩)] w fun e w'=>e= .returned (.tuple #[.int .i64 0,.int .i64 0])∧
   Wone w w' V {V.pl with ss:=V.pl.ss.set i M.pl.tick}:=by
 obtain ⟨W,H,eW,hH,hBx,U0⟩:=boxes1 w 85 #[.int .i64 x.k,.int .i64 x.s,.int .i64 x.at_,.int .i64 x.n,.slice x.A x.l x.c]
 have U0':=U0.gives (b':=[]) (by simp)
 have h1:=h.upd0 U0'
 have hMm:=List.mem_of_getElem? hM
 have h1d:=h1.upd0 ((Upd.refl [] W).drew)
 obtain ⟨gs,hA,RDd,RK⟩:=h1d.road (hb:=hb) (Blk.upd hB U0'.drew (by simp)) hBx.drew hs hM
 have hcap:=h.row.cap
 have hi:i < V.ss.length:=(List.getElem?_eq_some_iff.1 hM).1
 have C:=@siteTick ⟨V.hot⟩ W.drew M (h1d.site hMm) (fun hd=>Lv.tick (y:=0) hL hd)
 have HG:=Lib.hid (fun w' (hg: @Gone ⟨V.hot⟩ W.drew w' M M.pl.tick)=>show Wone w w' V {V.pl with ss:=V.pl.ss.set i M.pl.tick} from by
  obtain ⟨V2,k1,k2,k3,k4⟩:=h1d.gone hM hg
  exact ⟨V2,k1,k2,k3,(U0'.drew.up V.fp).trans k4⟩)
 obtain ⟨R,hR⟩:∃R,M.pl.tick=R:=⟨_,rfl⟩
 rw [hR] at C HG ⊢
 obtain ⟨n,hn⟩:∃n,V.ss.length=n:=⟨_,rfl⟩
 rw [hn] at RDd hcap hi
 have RK:=Lib.hid (fun w' hg=>hn▸RK (w':=w') (t:=R) hg)
 have hin':(i:Int) < (n:Int):=by omega
 obtain ⟨a,b,c,d,-,-⟩:=RDd
 rw [SiteV.ptr] at C
 rw [Ev.val_eq,hs]
 rw [hs] at eW
 clear h1 h1d h hM hMm hn hL hR hB hBx hA
 go_enter Tryz.func179,Tryz.ntmps179
 repeat' (first|go_values|go_skip|go_guarded|go_step|go_upon|(simp only [];go_at_K))
 go_region_held3 (fun w'=>w'.cell? ⟨hb,0,none⟩=some (.pointer (some ⟨V.gw,0,none⟩))∧w'.cell? ⟨V.gw,0,none⟩=some (.slice (some ⟨gs,0,none⟩) n V.cs)∧w'.cell? ⟨H,1,none⟩=some (.int .i64 (i:Int))∧w'.cell? ⟨gs,i,none⟩=some (.pointer (some ⟨M.gs,0,none⟩))) (first | exact ⟨a,b,c,d⟩) (first | (fail))
 all_goals (repeat' (first | go_values | go_skip | go_guarded | go_step | go_upon | (simp only [];go_at_K)))
 all_goals ((with_reducible refine C.mono ?_);rintro e w2 ⟨rfl,hg⟩)
 all_goals (repeat' (first | go_values | go_skip | go_guarded | go_step | go_upon | (simp only [];go_at_K)))
 all_goals go_ret2
 all_goals exact ⟨rfl,HG.out _ hg⟩
theorem Wone.cell {w w':World} {V:WV} {p:Wd} (h:Wone w w' V p) {a:Addr} {v:Value} (hc:w.cell? a=some v) (ha:a.block∉V.fp):w'.cell? a=some v:=by
 obtain ⟨V2,-,-,-,k4⟩:=h
 exact k4.cell hc ha
theorem Wone.pre {w w1 w2:World} {V:WV} {p:Wd} {b:List Nat} (hu:Upd [] b w w1) (h:Wone w1 w2 V p):Wone w w2 V p:=by
 obtain ⟨V2,k1,k2,k3,k4⟩:=h
 exact ⟨V2,k1,k2,k3,(hu.up V.fp).trans k4⟩
theorem worldSyncF (w:World) (V:WV) (h:WS w V) (hb:Nat) (hB:Wbox w hb V) (x:Ev) (i:Nat) (hs:x.s=(i:Int)) (hL:∀s,V.pl.ss[i]? =some s→Lv s 0) :
  Calls Tryz.prog 180 #[x.val,.pointer (some ⟨hb,0,none⟩)] w fun e w'=>e= .returned (.tuple #[.int .i64 0,.int .i64 0])∧Wone w w' V (V.pl.tell i):=by
 obtain ⟨W,H,eW,hH,hBx,U0⟩:=boxes1 w 85 #[.int .i64 x.k,.int .i64 x.s,.int .i64 x.at_,.int .i64 x.n,.slice x.A x.l x.c]
 have U0':=U0.gives (b':=[]) (by simp)
 have C:=worldTell W V (h.upd0 U0') i hL
 rw [WV.ptr] at C
 obtain ⟨p,hp⟩:∃p,V.pl.tell i=p:=⟨_,rfl⟩
 rw [hp] at C ⊢
 have a:W.cell? ⟨hb,0,none⟩=some (.pointer (some ⟨V.gw,0,none⟩)):=(Blk.upd hB U0' (by simp)).cell 0
 have c:W.cell? ⟨H,1,none⟩=some (.int .i64 (i:Int)):=by rw [←hs];exact hBx.cell 1
 rw [Ev.val_eq,hs]
 rw [hs] at eW
 clear h hB hBx hL hp
 go_enter Tryz.func180,Tryz.ntmps180
 repeat' (first|go_values|go_skip|go_guarded|go_step|go_upon|(simp only [];go_at_K))
 ((with_reducible refine C.mono ?_);rintro e w2 ⟨rfl,hg⟩)
 repeat' (first|go_values|go_skip|go_guarded|go_step|go_upon|(simp only [];go_at_K))
 go_ret2
 exact ⟨rfl,hg.pre U0'⟩
theorem worldRestartF (w:World) (V:WV) (h:WS w V) (hb:Nat) (hB:Wbox w hb V) (x:Ev) (i:Nat) (hs:x.s=(i:Int)) (M:SiteV) (hM:V.ss[i]? =some M) :
  Calls Tryz.prog 182 #[x.val,.pointer (some ⟨hb,0,none⟩)] w fun e w'=>e= .returned (.tuple #[.int .i64 0,.int .i64 0])∧Wone w w' V (V.pl.restart i):=by
 obtain ⟨W,H,eW,hH,hBx,U0⟩:=boxes1 w 85 #[.int .i64 x.k,.int .i64 x.s,.int .i64 x.at_,.int .i64 x.n,.slice x.A x.l x.c]
 have U0':=U0.gives (b':=[]) (by simp)
 have C:=worldRestart W V (h.upd0 U0') i M hM
 rw [WV.ptr] at C
 obtain ⟨p,hp⟩:∃p,V.pl.restart i=p:=⟨_,rfl⟩
 rw [hp] at C ⊢
 have a:W.cell? ⟨hb,0,none⟩=some (.pointer (some ⟨V.gw,0,none⟩)):=(Blk.upd hB U0' (by simp)).cell 0
 have c:W.cell? ⟨H,1,none⟩=some (.int .i64 (i:Int)):=by rw [←hs];exact hBx.cell 1
 rw [Ev.val_eq,hs]
 rw [hs] at eW
 clear h hB hBx hM hp
 go_enter Tryz.func182,Tryz.ntmps182
 repeat' (first|go_values|go_skip|go_guarded|go_step|go_upon|(simp only [];go_at_K))
 ((with_reducible refine C.mono ?_);rintro e w2 ⟨rfl,hg⟩)
 repeat' (first|go_values|go_skip|go_guarded|go_step|go_upon|(simp only [];go_at_K))
 go_ret2
 exact ⟨rfl,hg.pre U0'⟩
theorem worldThere (w:World) (b:Bool):Calls Tryz.prog 175 #[.bool b] w fun e w'=>e= .returned (.tuple #[.int .i64 0,.int .i64 (if b then 0 else 6)])∧w=w':=by
 cases b
 all_goals
  go_enter Tryz.func175,Tryz.ntmps175
  repeat' (first|go_values|go_skip|go_guarded|go_step|go_upon|(simp only [];go_at_K))
  go_ret2
  exact ⟨rfl,rfl⟩
theorem worldDeliverAny (w:World) (V:WV) (h:WS w V) (i:Int) (hL:∀(j:Nat) s,V.pl.ss[j]? =some s→Lv s 0) :
  Calls Tryz.prog 104 #[V.ptr,.int .i64 i] w fun e w'=>∃r:Int,e= .returned (.tuple #[.int .i64 r,.bool (thereB V.net.length i)])∧Wone w w' V (if thereB V.net.length i then V.pl.deliver i.toNat else V.pl):=by
 cases ht:thereB V.net.length i with
 | false=>
  refine (worldDeliver_no w V h i ht).mono ?_
  rintro e w' ⟨rfl,rfl⟩
  exact ⟨0,rfl,V,h,rfl,rfl,Upd.refl _ _⟩
 | true=>
  have ht':=ht
  unfold thereB at ht'
  simp only [Bool.and_eq_true,decide_eq_true_eq] at ht'
  obtain ⟨k,rfl⟩:∃k:Nat,i=(k:Int):=⟨i.toNat,by omega⟩
  have hk:k < V.net.length:=by omega
  refine (worldDeliver w V h k V.net[k] (List.getElem?_eq_getElem hk) hL).mono ?_
  rintro e w' ⟨rfl,hg⟩
  exact ⟨_,rfl,hg⟩
theorem worldDeliverF (w:World) (V:WV) (h:WS w V) (hb:Nat) (hB:Wbox w hb V) (x:Ev) (hL:∀(j:Nat) s,V.pl.ss[j]? =some s→Lv s 0) :
  Calls Tryz.prog 174 #[x.val,.pointer (some ⟨hb,0,none⟩)] w fun e w'=>e= .returned (.tuple #[.int .i64 0,.int .i64 (if thereB V.net.length x.at_ then 0 else 6)])∧
   Wone w w' V (if thereB V.net.length x.at_ then V.pl.deliver x.at_.toNat else V.pl):=by
 obtain ⟨W,H,eW,hH,hBx,U0⟩:=boxes1 w 85 #[.int .i64 x.k,.int .i64 x.s,.int .i64 x.at_,.int .i64 x.n,.slice x.A x.l x.c]
 have U0':=U0.gives (b':=[]) (by simp)
 have C:=worldDeliverAny W V (h.upd0 U0') x.at_ hL
 have C2:=fun w=>worldThere w (thereB V.net.length x.at_)
 rw [WV.ptr] at C
 obtain ⟨p,hp⟩:∃p,(if thereB V.net.length x.at_ then V.pl.deliver x.at_.toNat else V.pl)=p:=⟨_,rfl⟩
 rw [hp] at C ⊢
 obtain ⟨t,ht⟩:∃t,thereB V.net.length x.at_=t:=⟨_,rfl⟩
 rw [ht] at C C2 ⊢
 obtain ⟨r,hr⟩:∃r:Int,(if t then (0:Int) else 6)=r:=⟨_,rfl⟩
 simp only [hr] at C2 ⊢
 have a:W.cell? ⟨hb,0,none⟩=some (.pointer (some ⟨V.gw,0,none⟩)):=(Blk.upd hB U0' (by simp)).cell 0
 have c:W.cell? ⟨H,2,none⟩=some (.int .i64 x.at_):=hBx.cell 2
 rw [Ev.val_eq]
 clear h hB hBx hL hp ht hr
 go_enter Tryz.func174,Tryz.ntmps174
 repeat' (first|go_values|go_skip|go_guarded|go_step|go_upon|(simp only [];go_at_K))
 ((with_reducible refine C.mono ?_);rintro e w2 ⟨r2,rfl,hg⟩)
 repeat' (first|go_values|go_skip|go_guarded|go_step|go_upon|(simp only [];go_at_K))
 ((with_reducible refine (C2 w2).mono ?_);rintro e w3 ⟨rfl,rfl⟩)
 repeat' (first|go_values|go_skip|go_guarded|go_step|go_upon|(simp only [];go_at_K))
 go_ret2
 exact ⟨rfl,hg.pre U0'⟩
theorem netDouble_no (w:World) (g:Nat) (A:Option Addr) (n c:Nat) (l:List Pk) (h:NetS w g A n c l) (i:Int) (hi:thereB l.length i=false) :
  Calls Tryz.prog 178 #[.pointer (some ⟨g,0,none⟩),.int .i64 i] w fun e w'=>e= .returned (.int .i64 6)∧w=w':=by
 have C:=netThere w g A n c l h i
 rw [hi] at C
 clear h
 go_enter Tryz.func178,Tryz.ntmps178
 repeat' (first|go_values|go_skip|go_guarded|go_step|go_upon|(simp only [];go_at_K))
 ((with_reducible refine C.mono ?_);rintro e w1 ⟨rfl,rfl⟩)
 repeat' (first|go_values|go_skip|go_guarded|go_step|go_upon|(simp only [];go_at_K))
 go_ret
 exact ⟨rfl,rfl⟩
theorem netDouble_full (w:World) (g:Nat) (A:Option Addr) (n c:Nat) (l:List Pk) (h:NetS w g A n c l) (i:Nat) (hi:i < l.length) (hl:4096≤l.length) :
  Calls Tryz.prog 178 #[.pointer (some ⟨g,0,none⟩),.int .i64 (i:Int)] w fun e w'=>e= .returned (.int .i64 5)∧w=w':=by
 have hn:=h.len
 have hnl:(4096:Int)≤(n:Int):=by omega
 have ht:thereB l.length (i:Int)=true:=by unfold thereB;simp;omega
 have C:=netThere w g A n c l h (i:Int)
 rw [ht] at C
 have q:=h.blk.cell 0
 simp only [List.getElem?_toArray,List.getElem?_cons_zero] at q
 clear h hn hl hi ht
 go_enter Tryz.func178,Tryz.ntmps178
 repeat' (first|go_values|go_skip|go_guarded|go_step|go_upon|(simp only [];go_at_K))
 ((with_reducible refine C.mono ?_);rintro e w1 ⟨rfl,rfl⟩)
 repeat' (first|go_values|go_skip|go_guarded|go_step|go_upon|(simp only [];go_at_K))
 go_ret
 exact ⟨rfl,rfl⟩
theorem worldLose (w:World) (V:WV) (h:WS w V) (i:Int) :
  Calls Tryz.prog 169 #[.pointer (some ⟨V.gn,0,none⟩),.int .i64 i] w fun e w'=>∃(r:Int) (A:Option Addr) (n c:Nat),e= .returned (.tuple #[.int .i64 r,.slice A n c,.bool (thereB V.net.length i)])∧
   Wone w w' V (if thereB V.net.length i then {V.pl with net:=V.net.eraseIdx i.toNat} else V.pl)∧w'.cell? ⟨V.gw,1,none⟩=some (.pointer (some ⟨V.gn,0,none⟩)):=by
 cases ht:thereB V.net.length i with
 | false=>
  refine (netTake_no w V.gn V.An V.nn V.cn V.pk h.net i (by rw [h.pkLen];exact ht)).mono ?_
  rintro e w' ⟨rfl,rfl⟩
  exact ⟨0,none,0,0,rfl,⟨V,h,rfl,rfl,Upd.refl _ _⟩,h.blk.cell 1⟩
 | true=>
  have ht':=ht
  unfold thereB at ht'
  simp only [Bool.and_eq_true,decide_eq_true_eq] at ht'
  obtain ⟨k,rfl⟩:∃k:Nat,i=(k:Int):=⟨i.toNat,by omega⟩
  have hk:k < V.pk.length:=by have:=h.pkLen;omega
  refine (netTake w V.gn V.An V.nn V.cn V.pk h.net k hk V.pk[k] rfl).mono ?_
  rintro e w' ⟨A1,n1,c1,rfl,hn1,-,-,hu1⟩
  obtain ⟨k1,k2⟩:=h.netTurn (net':=V.net.eraseIdx k) hn1 (h.pkErase k) (fun m' hm'=>h.may m' (List.mem_of_mem_eraseIdx hm')) hu1
  exact ⟨_,_,_,_,rfl,⟨_,k1,rfl,rfl,k2⟩,k1.blk.cell 1⟩
theorem worldDropF (w:World) (V:WV) (h:WS w V) (hb:Nat) (hB:Wbox w hb V) (x:Ev) :
  Calls Tryz.prog 176 #[x.val,.pointer (some ⟨hb,0,none⟩)] w fun e w'=>e= .returned (.tuple #[.int .i64 0,.int .i64 (if thereB V.net.length x.at_ then 0 else 6)])∧
   Wone w w' V (if thereB V.net.length x.at_ then {V.pl with net:=V.net.eraseIdx x.at_.toNat} else V.pl):=by
 obtain ⟨W,H,eW,hH,hBx,U0⟩:=boxes1 w 85 #[.int .i64 x.k,.int .i64 x.s,.int .i64 x.at_,.int .i64 x.n,.slice x.A x.l x.c]
 have U0':=U0.gives (b':=[]) (by simp)
 have h1:=h.upd0 U0'.drew
 have C:=worldLose W.drew V h1 x.at_
 have C2:=fun w=>worldThere w (thereB V.net.length x.at_)
 have hfb:hb∉V.fp:=Wbox.far h hB
 have hHf:H∉V.fp:=fun hm=>by have:=h.lt H hm;omega
 have b:W.drew.cell? ⟨V.gw,1,none⟩=some (.pointer (some ⟨V.gn,0,none⟩)):=h1.blk.cell 1
 obtain ⟨p,hp⟩:∃p,(if thereB V.net.length x.at_ then {V.pl with net:=V.net.eraseIdx x.at_.toNat} else V.pl)=p:=⟨_,rfl⟩
 rw [hp] at C ⊢
 obtain ⟨t,ht⟩:∃t,thereB V.net.length x.at_=t:=⟨_,rfl⟩
 rw [ht] at C C2 ⊢
 obtain ⟨r,hr⟩:∃r:Int,(if t then (0:Int) else 6)=r:=⟨_,rfl⟩
 simp only [hr] at C2 ⊢
 have a:W.drew.cell? ⟨hb,0,none⟩=some (.pointer (some ⟨V.gw,0,none⟩)):=(Blk.upd hB U0' (by simp)).cell 0
 have c:W.drew.cell? ⟨H,2,none⟩=some (.int .i64 x.at_):=hBx.cell 2
 have hgn:V.gn∈V.fp:=by simp [WV.fp,fpN]
 rw [Ev.val_eq]
 clear h h1 hB hBx hp ht hr
 go_enter Tryz.func176,Tryz.ntmps176
 repeat' (first|go_values|go_skip|go_guarded|go_step|go_upon|(simp only [];go_at_K))
 go_region_held3 (fun w'=>w'.cell? ⟨hb,0,none⟩=some (.pointer (some ⟨V.gw,0,none⟩))∧w'.cell? ⟨V.gw,1,none⟩=some (.pointer (some ⟨V.gn,0,none⟩))∧w'.cell? ⟨H,2,none⟩=some (.int .i64 x.at_)) (first | exact ⟨a,b,c⟩ | exact ⟨a2,b2,c2⟩)
  (first
   | (go_at_call 169;(with_reducible refine C.mono ?_);rintro e w2 ⟨r2,A2,n2,c2',rfl,hg,b2⟩;have a2:=hg.cell a hfb;have c2:=hg.cell c hHf))
 all_goals (repeat' (first | go_values | go_skip | go_guarded | go_step | go_upon | (simp only [];go_at_K)))
 all_goals ((with_reducible refine (C2 w2).mono ?_);rintro e w3 ⟨rfl,rfl⟩)
 all_goals (repeat' (first | go_values | go_skip | go_guarded | go_step | go_upon | (simp only [];go_at_K)))
 all_goals go_ret2
 all_goals exact ⟨rfl,hg.pre U0'.drew⟩
theorem worldTwice (w:World) (V:WV) (h:WS w V) (i:Int) :
  Calls Tryz.prog 178 #[.pointer (some ⟨V.gn,0,none⟩),.int .i64 i] w fun e w'=>e= .returned (.int .i64 (if thereB V.net.length i then (if V.net.length < 4096 then 0 else 5) else 6))∧
   Wone w w' V (if thereB V.net.length i then V.pl.double i.toNat else V.pl):=by
 cases ht:thereB V.net.length i with
 | false=>
  refine (netDouble_no w V.gn V.An V.nn V.cn V.pk h.net i (by rw [h.pkLen];exact ht)).mono ?_
  rintro e w' ⟨rfl,rfl⟩
  exact ⟨rfl,V,h,rfl,rfl,Upd.refl _ _⟩
 | true=>
  have ht':=ht
  unfold thereB at ht'
  simp only [Bool.and_eq_true,decide_eq_true_eq] at ht'
  obtain ⟨k,rfl⟩:∃k:Nat,i=(k:Int):=⟨i.toNat,by omega⟩
  have hkn:k < V.net.length:=by omega
  have hk:k < V.pk.length:=by have:=h.pkLen;omega
  have hm:V.net[k]? =some V.net[k]:=List.getElem?_eq_getElem hkn
  obtain ⟨hk',hto,hbb⟩:=h.pkAt hm
  have hd:V.pl.double k=if V.net.length < 4096 then {V.pl with net:=V.net ++ [V.net[k]]} else V.pl:=by
   unfold Wd.double
   rw [show V.pl.net=V.net from rfl,hm]
  simp only [Int.toNat_natCast,if_true]
  rw [hd]
  by_cases hl:V.net.length < 4096
  ·rw [if_pos hl,if_pos hl]
   have hmay:=h.may _ (List.getElem_mem hkn)
   refine (netDouble w V.gn V.An V.nn V.cn V.pk h.net k hk (by have:=h.pkLen;omega) (by rw [hbb];have:=hmay.len;omega)).mono ?_
   rintro e w' ⟨A',n',c',y,rfl,e1,e2,h1,h2⟩
   obtain ⟨k1,k2⟩:=h.netTurn (net':=V.net ++ [V.net[k]]) h1 (by rw [List.map_append,List.map_append,h.eq];simp [e1,e2,hto,hbb]) (fun m' hm'=>by
    rcases List.mem_append.1 hm' with h3 | h3
    ·exact h.may m' h3
    ·rw [List.mem_singleton] at h3;subst h3;exact hmay) h2
   exact ⟨rfl,_,k1,rfl,rfl,k2⟩
  ·rw [if_neg hl,if_neg hl]
   refine (netDouble_full w V.gn V.An V.nn V.cn V.pk h.net k hk (by have:=h.pkLen;omega)).mono ?_
   rintro e w' ⟨rfl,rfl⟩
   exact ⟨rfl,V,h,rfl,rfl,Upd.refl _ _⟩
theorem worldDoubleF (w:World) (V:WV) (h:WS w V) (hb:Nat) (hB:Wbox w hb V) (x:Ev) :
  Calls Tryz.prog 177 #[x.val,.pointer (some ⟨hb,0,none⟩)] w fun e w'=>e= .returned (.tuple #[.int .i64 0,.int .i64 (if thereB V.net.length x.at_ then (if V.net.length < 4096 then 0 else 5) else 6)])∧
   Wone w w' V (if thereB V.net.length x.at_ then V.pl.double x.at_.toNat else V.pl):=by
 obtain ⟨W,H,eW,hH,hBx,U0⟩:=boxes1 w 85 #[.int .i64 x.k,.int .i64 x.s,.int .i64 x.at_,.int .i64 x.n,.slice x.A x.l x.c]
 have U0':=U0.gives (b':=[]) (by simp)
 have h1:=h.upd0 U0'.drew
 have C:=worldTwice W.drew V h1 x.at_
 have b:W.drew.cell? ⟨V.gw,1,none⟩=some (.pointer (some ⟨V.gn,0,none⟩)):=h1.blk.cell 1
 obtain ⟨p,hp⟩:∃p,(if thereB V.net.length x.at_ then V.pl.double x.at_.toNat else V.pl)=p:=⟨_,rfl⟩
 rw [hp] at C ⊢
 obtain ⟨r,hr⟩:∃r:Int,(if thereB V.net.length x.at_ then (if V.net.length < 4096 then 0 else 5) else 6)=r:=⟨_,rfl⟩
 rw [hr] at C ⊢
 have a:W.drew.cell? ⟨hb,0,none⟩=some (.pointer (some ⟨V.gw,0,none⟩)):=(Blk.upd hB U0' (by simp)).cell 0
 have c:W.drew.cell? ⟨H,2,none⟩=some (.int .i64 x.at_):=hBx.cell 2
 have hfb:hb∉V.fp:=Wbox.far h hB
 have hHf:H∉V.fp:=fun hm=>by have:=h.lt H hm;omega
 rw [Ev.val_eq]
 clear h h1 hB hBx hp hr
 go_enter Tryz.func177,Tryz.ntmps177
 repeat' (first|go_values|go_skip|go_guarded|go_step|go_upon|(simp only [];go_at_K))
 go_still_tail 6,(by kernel_rfl)
 change wpList _ _ _ _ _ W.drew
 repeat' (first|go_values|go_skip|go_guarded|go_step|go_upon|(simp only [];go_at_K))
 ((with_reducible refine C.mono ?_);rintro e w2 ⟨rfl,hg⟩)
 repeat' (first|go_values|go_skip|go_guarded|go_step|go_upon|(simp only [];go_at_K))
 go_ret2
 exact ⟨rfl,hg.pre U0'.drew⟩
end Go.Proofs.YtijhlbeipglieaaGreat
