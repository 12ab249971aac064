/- For WorldCalm. -/
import Derived.Test.YtijhlbeipglieaaGreatPkWrldM
set_option linter.all false
set_option maxRecDepth 100000
set_option maxHeartbeats 4000000
namespace Go.Proofs.YtijhlbeipglieaaGreat
open Go.RowKit aL Go.Maps Go.Proofs.Tryz List
def fA(w w':World)(V:WV)(p:Wd):Prop:=∃V',WS w' V'∧V'.pl=p∧V'.gw=V.gw∧ab V.fp V'.fp w w'
theorem WV.oR(V:WV)(i:Nat):V.pl.ss[i]? =(V.ss[i]?).map ae.pl:=by unfold WV.pl;simp
theorem LA(w:World)(g:Nat)(A:Option Addr)(n c:Nat)(l:List Pk)(h:fz w g A n c l)(DX:Int)(B:Option Addr)(m d:Nat)(b:List UInt8)(hB:bE w B m b)(hb:b.length≤140737488355328)(hs:eo DX=true) :
  Calls prog 168 #[.pointer (some ⟨g,0,none⟩),.int .i64 DX,.slice B m d] w fun e w'=>∃r A' n' c' l',e=.returned (.int .i64 r)∧fz w' g A' n' c' l'∧
   l'.map (fun x=>(x.to,x.b))=(if l.length<4096 then l.map (fun x=>(x.to,x.b))++[(DX,b)]else l.map (fun x=>(x.to,x.b)))∧ab (er g A l) (er g A' l') w w':=by
 by_cases hl:l.length<4096
 ·refine(TX w g A n c l h DX B m d b hB hb hs hl).mono ?_
  rintro e w' ⟨A',n',c',x,rfl,rfl,rfl,h1,h2⟩
  exact⟨0,A',n',c',_,rfl,h1,by rw[if_pos hl];simp,h2⟩
 ·refine(Fm w g A n c l h DX B m d hs (by omega)).mono ?_
  rintro e w' ⟨rfl,rfl⟩
  exact⟨5,A,n,c,l,rfl,h,by rw[if_neg hl],ab.refl _ _⟩
theorem OT(w:World)(V:WV)(h:WS w V)(i:Nat)(hL:∀s,V.pl.ss[i]? =some s→Lv s 0) :
  Calls prog 21 #[kS V.ss[i]?] w fun e w'=>∃(A:Option Addr)(c:Nat)(told:List Mv)(V':WV),e=.returned (.slice A told.length c)∧told.map Mv.ms=(V.pl.synced i).2∧aL.Own 32 10 w' A told.length c (told.flatMap Mv.cells)∧
   (∀k∈ak A,k∉V'.fp)∧(∀x∈told,dj w' x.sl∧x.ms.bL∧∀k∈ak x.A,k∉V'.fp)∧WS w' V'∧V'.pl=(V.pl.synced i).1∧V'.gw=V.gw∧ab V.fp V'.fp w w':=by
 unfold Wd.synced
 rw[WV.oR]at hL ⊢
 cases hM:V.ss[i]? with
 |none=>
  refine(F5 w).mono ?_
  rintro e w' ⟨rfl,rfl⟩
  exact⟨none,0,[],V,rfl,rfl,aL.Own.nil _ _ _,by simp[ak],by simp,h,rfl,rfl,ab.refl _ _⟩
 |some M=>
  rw[hM]at hL
  have hl:=hL M.pl rfl
  have hS:=h.site (mem_of_getElem? hM)
  have hh:=hl.held
  rw[ae.cE]at hh
  refine(@He ⟨V.fE⟩ Qt (@St ⟨V.fE⟩) w M hS (by omega) (fun hd=>hl.sync hd)).mono ?_
  rintro e w' ⟨A,c,told,M',rfl,h2,h3,h4,h5,h6,h7,h8,h9⟩
  obtain⟨k1,k2⟩:=h.turn hM h6 h8 h9
  have dL:∀x∈told,x.ms.bL:=fun x hx=>by
   have h1:x.ms∈M.pl.sync.2:=by rw[←h2];exact mem_map_of_mem hx
   refine(@aJ.ok ⟨V.fE⟩ _ _ hS).held _ ?_
   unfold Site.sync at h1
   split at h1
   ·cases h1
   ·exact(mem_filter.1 h1).1
  have yH:∀{k},k∈({V with ss:=V.ss.set i M'} :WV).fE→k∈M'.fp∨k∈V.fE:=fun {k} hk=>by
   rcases mem_append.1 hk with hk|hk
   ·obtain⟨N,hN,hk⟩:=mem_flatMap.1 hk
    obtain⟨j,hj⟩:=mem_iff_getElem?.1 hN
    by_cases e:i=j
    ·subst e;rw[List.getElem?_set_self (List.getElem?_eq_some_iff.1 hM).1]at hj;injection hj with hj
     rw[←hj]at hk
     exact .inl (ae.Lt hk)
    ·rw[List.getElem?_set_ne e]at hj;exact .inr (V.Ap (mem_of_getElem? hj) hk)
   ·exact .inr (V.Ls hk)
  refine⟨A,c,told,_,rfl,h2,h3,fun k hk hm=>?_,fun x hx=>⟨(h5 x hx).1,dL x hx,fun k hk=>k1.u8 ((h5 x hx).1.tag k hk) fun hm=>?_⟩,k1,?_,rfl,k2⟩
  ·rcases k2.fresh k hm with h1|h1
   ·have:=h.lt k h1;have:=(h4 k hk).1;omega
   ·simp only[WV.fp,mem_append,mem_flatMap]at hm
    rcases hm with hm|hm|⟨N,hN,hm⟩|⟨d,hd,hm⟩
    ·exact bx (h3.tag _ hk) (k1.iA.tag _ hm) (by decide) rfl
    ·rcases k1.uu (h3.tag _ hk) hm with e|e|⟨e,-⟩<;>exact absurd e (by decide)
    ·obtain⟨j,hj⟩:=mem_iff_getElem?.1 hN
     by_cases e:i=j
     ·subst e;rw[List.getElem?_set_self (List.getElem?_eq_some_iff.1 hM).1]at hj;injection hj with hj
      rw[←hj]at hm
      exact(h4 k hk).2 hm
     ·rw[List.getElem?_set_ne e]at hj
      have:=@aJ.lt ⟨[]⟩ _ _ (h.sites N (mem_of_getElem? hj)) k hm
      omega
    ·exact bx (h3.tag _ hk) ((k1.jV d hd).tag _ hm) (by decide) rfl
  ·rcases yH hm with hm|hm
   ·exact((h5 x hx).2 k hk).1 hm
   ·exact((h5 x hx).2 k hk).2 hm
  ·unfold WV.pl
   simp only[Option.map_some]
   rw[map_set,h7]
theorem wA(w:World)(V:WV)(h:WS w V)(i:Nat)(hL:∀s,V.pl.ss[i]? =some s→Lv s 0) :
  Calls prog 103 #[V.ptr,.int .i64 (i:Int)] w fun e w'=>e=.returned (.tuple #[])∧fA w w' V (V.pl.tell i):=by
 have C0:=lR w V h (i:Int)
 rw[WV.mu]at C0
 have C1:=OT w V h i hL
 have HT:=aA (V.pl.Ul i)
 obtain⟨T,hT⟩:=bk (V.pl.tell i)
 rw[hT]at HT ⊢
 obtain⟨⟨S1,S2⟩,BM⟩:∃S,V.pl.synced i=S:=⟨_,rfl⟩
 rw[BM]at HT C1
 simp only at HT C1
 obtain⟨P,hP⟩:=bk (kS V.ss[i]? )
 rw[hP]at C0 C1
 rw[WV.ptr]at C0 ⊢
 clear hT BM hP h hL
 go_enter func103,ntmps103
 repeat' first|go_values|go_skip|go_guarded|go_step|go_upon|simp only[];go_at_K
 refine C0.mono ?_;rintro e w1 ⟨rfl,rfl⟩
 repeat' first|go_values|go_skip|go_guarded|go_step|go_upon|simp only[];go_at_K
 refine C1.mono ?_;rintro e w1 ⟨A,c,told,V1,rfl,h2,ho,yT,fk,h1,ee,hg1,U1⟩
 have rF:=aA h2
 have HP1:=aA ee
 clear C0 C1 h2 ee
 have hol:=ho.len
 have jU:told.length≤9223372036854775807:=by have:=ho.cap;unfold maxLen at this;omega
 have HA:=aA ho.lt
 clear hol
 repeat' first|go_values|go_skip|go_guarded|go_step|go_upon|simp only[];go_at_K
 go_loopw [13] (fun mX wr=>∃(j:Nat)(V2:WV),j≤told.length∧mX=.int .i64 (j:Int)∧WS wr V2∧V2.pl= {S1 with aI:=fW S1.aI (S2.take j)}∧V2.gw=V.gw∧ab V1.fp V2.fp w1 wr) (fun mX _=>told.length - (intOf mX).toNat)
 case atStart=>exact⟨0,V1,by omega,rfl,h1,by rw[HP1.out];rfl,hg1,ab.refl _ _⟩
 case round=>
  obtain⟨j,V2,hj,rfl,h2,gS,hg2,U2⟩:=hrel
  have xX:=aA gS
  clear gS
  by_cases hlt:j<told.length
  ·have dK:(j:Int)<(told.length:Int):=by omega
   have dC:=aL.wr ((j:Int)+1)
   have eN:=ho.aq U2 yT
   have mS:jq Mv.cells 10 wr A told.length told:=⟨rfl,eN.rd⟩
   obtain⟨ad,rfl,h0,sU⟩:=jq.at_ (f:=Mv.cells) (s:=10) (fun _=>rfl) mS hlt
   obtain⟨hb0,dL,sQ⟩:=fk _ (getElem_mem hlt)
   have hb2:=hb0.aq U2 sQ
   have HX:=aA (show S2.take (j+1)=S2.take j++[told[j].ms] by
    have EE:j<S2.length:=by rw[←rF.out];simpa using hlt
    rw[take_succ_eq_append_getElem EE]
    congr 2
    simp only[←rF.out,getElem_map])
   generalize told[j]=y at *
   have d0:=h0 _ rfl
   have d1:=sU 1 _ (by omega) rfl
   have d2:=sU 2 _ (by omega) rfl
   have d3:=sU 3 _ (by omega) rfl
   have d4:=sU 4 _ (by omega) rfl
   have d5:=sU 5 _ (by omega) rfl
   have d6:=sU 6 _ (by omega) rfl
   have d7:=sU 7 _ (by omega) rfl
   have d8:=sU 8 _ (by omega) rfl
   have d9:=sU 9 _ (by omega) rfl
   clear h0 sU mS eN hb0 sQ
   obtain⟨W2,G,zW,hG,cX,UB⟩:=cb wr 32 #[.int .i64 y.k,.int .i64 y.f,.int .i64 y.t,.int .i64 y.s,.int .i64 y.br,.int .i64 y.bs,.int .i64 y.hr,.int .i64 y.hs,.bool y.so,.slice y.A y.n y.c]
   have Zq:=UB.gives (b':=[]) (by simp)
   have h3:=h2.aN Zq
   have hb3:=hb2.aN Zq
   have C2:=Cg y W2 hb3.rd dL
   rw[Mv.bJ]at C2
   have Ih:eo y.t=true:=eD dL.to
   have qM:=dL.len
   have aen:y.ms.to=y.t:=rfl
   have U3:=U2.trans (Zq.up V2.fp)
   clear U2 hb2 h2
   obtain⟨⟨b0,b1,b2,b3,b4,b5,b6,b7,b8,b9⟩,-⟩:=cX.cJ
   repeat' first|go_values|go_skip|go_guarded|go_step|go_upon|simp only[];go_at_K
   refine C2.mono ?_;rintro e w4 ⟨A4,n4,c4,rfl,dW,de⟩
   have km:=de.gives (b':=[]) (by simp)
   have h4:=h3.aN km
   have U4:=U3.trans (km.up V2.fp)
   have fb:=cX.aq de (by simp)
   clear C2 U3 h3 cX b0 b1 b2 b3 b4 b5 b6 b7 b8 b9
   have b2:w4.cell? ⟨G,2,none⟩=some (.int .i64 y.t):=fb.cell 2
   have q1:w4.cell? ⟨V.gw,1,none⟩=some (.pointer (some ⟨V2.gn,0,none⟩)):=by rw[←hg2];exact h4.aO.cell 1
   have b2':w4.drew.cell? ⟨G,2,none⟩=some (.int .i64 y.t):=b2
   have q1':w4.drew.cell? ⟨V.gw,1,none⟩=some (.pointer (some ⟨V2.gn,0,none⟩)):=q1
   have h5:=h4.aN ((ab.refl [] w4).drew)
   have C3:=LA w4.drew V2.gn V2.An V2.nn V2.cn V2.pk h5.aI y.t A4 n4 c4 y.ms.bytes (dW.drew).rd (by omega) Ih
   repeat' first|go_values|go_skip|go_guarded|go_step|go_upon|simp only[];go_at_K
   go_still_tail 7,(by kernel_rfl)
   change wpList _ _ _ _ _ w4.drew
   repeat' first|go_values|go_skip|go_guarded|go_step|go_upon|simp only[];go_at_K
   refine C3.mono ?_;rintro e w5 ⟨r5,A5,n5,c5,l5,rfl,Jo,he5,cF⟩
   have hel:=congrArg length h5.eq
   rw[length_map,length_map]at hel
   obtain⟨k1,k2⟩:=h5.wV (net':=if V2.aI.length<4096 then V2.aI++[y.ms]else V2.aI) Jo (by
    rw[he5,h5.eq,hel]
    split
    ·simp[aen]
    ·rfl) (fun m hm=>by
    split at hm
    ·rcases mem_append.1 hm with hm|hm
     ·exact h5.may m hm
     ·rw[mem_singleton]at hm;subst hm;exact dL
    ·exact h5.may m hm) cF
   repeat' first|go_values|go_skip|go_guarded|go_step|go_upon|simp only[];go_at_K
   refine⟨⟨j+1,_,by omega,by simp,k1,?_,hg2,U4.trans (((ab.refl V2.fp w4).drew).trans k2)⟩,by simp[intOf];omega⟩
   rw[HX.out,Lb]
   have e1:V2.aI=fW S1.aI (S2.take j):=by have:=congrArg Wd.aI xX.out;exact this
   have e2:=xX.out
   unfold WV.pl at e2 ⊢
   simp only[Wd.mk.injEq]at e2 ⊢
   exact⟨e2.1,by rw[e1],e2.2.2⟩
  ·obtain rfl:j=told.length:=by omega
   have dK:¬ ((told.length:Int)<(told.length:Int)):=by omega
   have bN:=aA (show fA w wr V T from⟨V2,h2,by
    rw[xX.out,HT.out]
    have:S2.take told.length=S2:=take_of_length_le (by rw[←rF.out];simp)
    rw[this],hg2,U1.trans U2⟩)
   clear h2 U2 xX
   repeat' first|go_values|go_skip|go_guarded|go_step|go_upon|simp only[];go_at_K
   exact bodyPost_end (results_none rfl _ _ _) rfl ⟨rfl,bN.out⟩
theorem Au(w:World)(g:Nat)(A:Option Addr)(n c:Nat)(l:List Pk)(h:fz w g A n c l)(i:Int)(hi:dh l.length i=false) :
  Calls prog 169 #[.pointer (some ⟨g,0,none⟩),.int .i64 i] w fun e w'=>e=.returned (.tuple #[.int .i64 0,.slice none 0 0,.bool false])∧w=w':=by
 have C:=qT w g A n c l h i
 rw[hi]at C
 clear h
 go_enter func169,ntmps169
 repeat' first|go_values|go_skip|go_guarded|go_step|go_upon|simp only[];go_at_K
 refine C.mono ?_;rintro e w1 ⟨rfl,rfl⟩
 repeat' first|go_values|go_skip|go_guarded|go_step|go_upon|simp only[];go_at_K
 go_ret3
 exact⟨rfl,rfl⟩
theorem WS.Zr{w:World}{V:WV}(h:WS w V){k:Nat}{m:Ms}(hm:V.aI[k]? =some m):∃(hk:k<V.pk.length),V.pk[k].to=m.to∧V.pk[k].b=m.bytes:=by
 have h1:(V.pk.map (fun x=>(x.to,x.b)))[k]? =some (m.to,m.bytes):=by rw[h.eq,List.getElem?_map,hm];rfl
 rw[List.getElem?_map]at h1
 obtain⟨hk,-⟩:∃hk:k<V.pk.length,True:=by
  rcases Nat.lt_or_ge k V.pk.length with h2|h2
  ·exact⟨h2,trivial⟩
  ·rw[List.getElem?_eq_none h2]at h1;cases h1
 rw[List.getElem?_eq_getElem hk]at h1
 simp only[Option.map_some,Option.some.injEq,Prod.mk.injEq]at h1
 exact⟨hk,h1.1,h1.2⟩
theorem WS.uz{w:World}{V:WV}(h:WS w V):V.pk.length=V.aI.length:=by
 have:=congrArg length h.eq
 rwa [length_map,length_map]at this
theorem wF{α β:Type}(f:α→β):∀(l:List α)(k:Nat),(l.eraseIdx k).map f=(l.map f).eraseIdx k
 |[],_=>rfl
 |_::_,0=>rfl
 |x::l,k+1=>by simp[wF f l k]
theorem WS.Jr{w:World}{V:WV}(h:WS w V)(k:Nat):(V.pk.eraseIdx k).map (fun x=>(x.to,x.b))=(V.aI.eraseIdx k).map fun m=>(m.to,m.bytes):=by
 rw[wF,wF,h.eq]
theorem Ho(w:World)(V:WV)(h:WS w V)(i:Nat)(hL:∀s,V.pl.ss[i]? =some s→Lv s 0)(x:Mv)(hr:bE w x.A x.n x.b)(hx:∀k∈ak x.A,k∉V.fp) :
  Calls prog 24 #[kS V.ss[i]?,x.val] w fun e w'=>(∃r,e=.returned (.int .i64 r))∧fA w w' V (V.pl.eJ i fun s=>(s.handle x.ms).1):=by
 unfold Wd.eJ
 rw[WV.oR]at hL ⊢
 cases hM:V.ss[i]? with
 |none=>
  refine(AY w x).mono ?_
  rintro e w' ⟨rfl,hu⟩
  exact⟨⟨14,rfl⟩,V,h.aN hu,rfl,rfl,hu.up _⟩
 |some M=>
  rw[hM]at hL
  have hl:=hL M.pl rfl
  have kE:=mem_of_getElem? hM
  have hS:=h.site kE
  refine(@Hc ⟨V.fE⟩ Qt (@St ⟨V.fE⟩) w M hS x hr (fun _ k hk hm=>hx k hk (by
   simp only[WV.fp,mem_append,mem_flatMap]
   exact .inr (.inr (.inl ⟨M,kE,hm⟩)))) (fun _ hd _=>hl.handle hd x.ms)).mono ?_
  rintro e w' ⟨rfl,M',h6,h7,h8,h9⟩
  obtain⟨k1,k2⟩:=h.turn hM h6 h8 h9
  refine⟨⟨_,rfl⟩,_,k1,?_,rfl,k2⟩
  unfold WV.pl
  simp only[Option.map_some]
  rw[map_set,h7]
theorem Wd.LB(w:Wd)(k:Nat){m:Ms}(hm:w.aI[k]? =some m):w.du k=({w with aI:=w.aI.eraseIdx k} :Wd).eJ m.to.toNat fun s=>(s.handle m).1:=by
 unfold Wd.du Wd.eJ
 rw[hm]
theorem rP(w:World)(V:WV)(h:WS w V)(i:Int)(hi:dh V.aI.length i=false) :
  Calls prog 104 #[V.ptr,.int .i64 i] w fun e w'=>e=.returned (.tuple #[.int .i64 0,.bool false])∧w=w':=by
 have C:=Au w V.gn V.An V.nn V.cn V.pk h.aI i (by rw[h.uz];exact hi)
 have q1:w.cell? ⟨V.gw,1,none⟩=some (.pointer (some ⟨V.gn,0,none⟩)):=h.aO.cell 1
 rw[WV.ptr]
 clear h hi
 go_enter func104,ntmps104
 repeat' first|go_values|go_skip|go_guarded|go_step|go_upon|simp only[];go_at_K
 refine C.mono ?_;rintro e w1 ⟨rfl,rfl⟩
 repeat' first|go_values|go_skip|go_guarded|go_step|go_upon|simp only[];go_at_K
 go_ret2
 exact⟨rfl,rfl⟩
theorem wB(w:World)(V:WV)(h:WS w V)(k:Nat)(m:Ms)(hm:V.aI[k]? =some m)(hL:∀(i:Nat) s,V.pl.ss[i]? =some s→Lv s 0) :
  Calls prog 104 #[V.ptr,.int .i64 (k:Int)] w fun e w'=>e=.returned (.tuple #[.int .i64 m.to,.bool true])∧fA w w' V (V.pl.du k):=by
 obtain⟨hk,fk,hb⟩:=h.Zr hm
 obtain⟨x,hx⟩:=bk (V.pk[k])
 have C:=IT w V.gn V.An V.nn V.cn V.pk h.aI k hk x hx
 rw[hx]at fk hb
 have dL:=h.may m (mem_of_getElem? hm)
 have q1:w.cell? ⟨V.gw,1,none⟩=some (.pointer (some ⟨V.gn,0,none⟩)):=h.aO.cell 1
 have hbl:m.bytes.length≤140737488355328:=by have:=dL.len;omega
 have Gq:x.to=m.to:=fk
 obtain⟨T,hT⟩:=bk (V.pl.du k)
 have HT:=aA ((Wd.LB V.pl k (m:=m) hm).symm.trans hT)
 rw[hT]
 clear hT hm fk hx
 rw[WV.ptr]
 go_enter func104,ntmps104
 repeat' first|go_values|go_skip|go_guarded|go_step|go_upon|simp only[];go_at_K
 refine C.mono ?_;rintro e w1 ⟨A1,n1,c1,rfl,jX,iY,qA,bn⟩
 obtain⟨k1,k2⟩:=h.wV (net':=V.aI.eraseIdx k) jX (h.Jr k) (fun m' bw=>h.may m' (mem_of_mem_eraseIdx bw)) bn
 obtain⟨V1,hV1⟩:∃V1:WV,{V with An:=A1,nn:=n1,cn:=c1,pk:=V.pk.eraseIdx k,aI:=V.aI.eraseIdx k} =V1:=⟨_,rfl⟩
 have ee:V1.pl= {V.pl with aI:=V.pl.aI.eraseIdx k}:=by rw[←hV1];rfl
 have hg1:V1.gw=V.gw:=by rw[←hV1]
 rw[hV1]at k1 k2
 have hL1:∀(i:Nat) s,V1.pl.ss[i]? =some s→Lv s 0:=fun i s hs=>hL i s (by rw[ee]at hs;exact hs)
 rw[←ee]at HT
 clear C q1 h jX qA bn hV1 ee hL
 rw[hb]at iY
 rw[Gq]
 repeat' first|go_values|go_skip|go_guarded|go_step|go_upon|simp only[];go_at_K
 refine(Km w1 x.A x.n x.c m.bytes iY.rd iY.own.cap.1 iY.own.cap.2 hbl).mono ?_;rintro e w2 ⟨hN,bh⟩
 obtain⟨y,hym,hoy,Iq,rfl⟩:=Ko dL hN
 have h2:=k1.aN bh
 have U2:=k2.trans (bh.up V1.fp)
 have Zs:=k1.lt
 clear hN k1 k2 iY bh
 rw[Mv.bJ]
 obtain⟨W,H,eW,hH,hB,U0⟩:=cb w2 32 #[.int .i64 y.k,.int .i64 y.f,.int .i64 y.t,.int .i64 y.s,.int .i64 y.br,.int .i64 y.bs,.int .i64 y.hr,.int .i64 y.hs,.bool y.so,.slice y.A y.n y.c]
 have cv:=U0.gives (b':=[]) (by simp)
 have h3:=h2.aN cv
 have U3:=U2.trans (cv.up V1.fp)
 have hr3:=(hoy.aq cv (by simp)).rd
 have C1:=lR W.drew V1 (h3.aN ((ab.refl [] W).drew)) m.to
 have hti:m.to=((m.to.toNat:Nat):Int):=by have:=dL.to;omega
 have hat:V1.at_ m.to=V1.ss[m.to.toNat]?:=by rw[hti,WV.mu];rfl
 rw[hat]at C1
 have C2:=Ho W.drew V1 (h3.aN ((ab.refl [] W).drew)) m.to.toNat (fun s=>hL1 _ s) y (hr3.aq ((ab.refl [] W).drew) (by simp)) (fun k hk hm=>by have:=Iq k hk;have:=Zs k hm;omega)
 rw[hym,HT.out,Mv.bJ]at C2
 obtain⟨P,hP⟩:=bk (kS V1.ss[m.to.toNat]? )
 rw[hP]at C1 C2
 rw[WV.ptr,hg1]at C1
 clear h2 U2 hoy Iq Zs hP hat hr3 hti Gq hb hk hym
 obtain⟨⟨b0,b1,b2,b3,b4,b5,b6,b7,b8,b9⟩,-⟩:=hB.cJ
 repeat' first|go_values|go_skip|go_guarded|go_step|go_upon|simp only[];go_at_K
 go_still_tail 4,(by kernel_rfl)
 still_call (C1.mono fun _ _ ⟨h1,h2⟩=>⟨h1,h2.symm⟩)
 repeat still_step
 refine wpStill_nil ?_
 change wpList _ _ _ _ _ W.drew
 repeat' first|go_values|go_skip|go_guarded|go_step|go_upon|simp only[];go_at_K
 refine C2.mono ?_;rintro e w3 ⟨⟨r,rfl⟩,V3,h4,jj,hg4,U4⟩
 repeat' first|go_values|go_skip|go_guarded|go_step|go_upon|simp only[];go_at_K
 go_ret2
 exact⟨rfl,V3,h4,jj,hg4.trans hg1,(U3.trans ((ab.refl V1.fp W).drew)).trans U4⟩
section
variable {w w':World} {V:WV}
theorem WS.aeo(h:WS w V){D:mr}{k:Nat}{t:Option TypeId}(hD:D∈V.dn)(ht:cl w k=some t)(h1:t≠some 72)(h2:t≠some 28):k∉ak V.Ad++ak D.A:=fun hm=>by
 rcases mem_append.1 hm with hm|hm
 ·exact bx ht (h.iA.tag k hm) h1 rfl
 ·exact bx ht ((h.jV D hD).tag k hm) h2 rfl
theorem WS.yI(h:WS w V){i:Nat}{D D':mr}(hi:V.dn[i]? =some D)(hr:aL.Own 72 1 w' V.Ad V.dn.length V.cd ((V.dn.set i D').map mr.val))(hd:aL.Own 28 1 w' D'.A D'.l.length D'.c (D'.l.map bO.val))(hb:∀x∈D'.l,dj w' x∧∀k∈ak x.A,k∉V.fE)(hu:ab (ak V.Ad++ak D.A) (ak V.Ad++ak D'.A) w w') :
  WS w' {V with dn:=V.dn.set i D'}∧ab V.fp ({V with dn:=V.dn.set i D'} :WV).fp w w':=by
 have Tb:D∈V.dn:=mem_of_getElem? hi
 have dK:i<V.dn.length:=(List.getElem?_eq_some_iff.1 hi).1
 have off:=fun {k:Nat} {t:Option TypeId}=>h.aeo (D:=D) (k:=k) (t:=t) Tb
 have cL:∀N∈V.dn.set i D',N=D'∨∃j,j≠i∧V.dn[j]? =some N:=fun N hN=>by
  obtain⟨j,hj⟩:=mem_iff_getElem?.1 hN
  by_cases e:i=j
  ·subst e;rw[List.getElem?_set_self dK]at hj;injection hj with hj;exact .inl hj.symm
  ·rw[List.getElem?_set_ne e]at hj;exact .inr ⟨j,fun e'=>e e'.symm,hj⟩
 have Lu:∀{j:Nat}{N:mr},j≠i→V.dn[j]? =some N→∀k∈ak N.A,k∉ak D.A:=fun {j N} hne hN k hk hm=>by
  obtain⟨hj,ej⟩:=List.getElem?_eq_some_iff.1 hN
  obtain⟨xz,ei⟩:=List.getElem?_eq_some_iff.1 hi
  have hp:=pairwise_iff_getElem.1 h.Gy
  rcases Nat.lt_or_ge i j with hlt|hlt
  ·exact hp i j dK hj hlt k (by rw[ei];exact hm) (by rw[ej];exact hk)
  ·exact hp j i hj dK (by omega) k (by rw[ej];exact hk) (by rw[ei];exact hm)
 have o8:∀{j:Nat}{N:mr},j≠i→V.dn[j]? =some N→∀k∈ak N.A,k∉ak V.Ad++ak D.A:=fun {j N} hne hN k hk hm=>by
  rcases mem_append.1 hm with hm|hm
  ·exact bx ((h.jV N (mem_of_getElem? hN)).tag k hk) (h.iA.tag k hm) (by decide) rfl
  ·exact Lu hne hN k hk hm
 have Aq:∀{j:Nat}{N:mr},j≠i→V.dn[j]? =some N→∀k∈ak D'.A,k∉ak N.A:=fun {j N} hne hN k hk hm=>by
  rcases hu.fresh k (mem_append.2 (.inr hk))with h1|h1
  ·exact o8 hne hN k hm h1
  ·have:=(h.jV N (mem_of_getElem? hN)).lt k hm;omega
 have iq:∀x∈({V with dn:=V.dn.set i D'} :WV).bytes,x∈D'.l∨x∈V.bytes:=fun x hx=>by
  rcases mem_append.1 hx with hx|hx
  ·exact .inr (mem_append.2 (.inl hx))
  ·obtain⟨N,hN,hx2⟩:=mem_flatMap.1 hx
   rcases cL N hN with e|⟨j,-,hj⟩
   ·rw[e]at hx2;exact .inl hx2
   ·exact .inr (V.OE (mem_of_getElem? hj) hx2)
 have hby:∀x∈V.bytes,∀k∈ak x.A,k∉ak V.Ad++ak D.A:=fun x hx k hk=>off ((h.fu x hx).tag k hk) (by decide) (by decide)
 refine⟨⟨?_,h.row.aq hu (fun k hk=>off (h.row.tag k hk) (by decide) (by decide)),h.aI.aq hu ?_,h.eq,h.may,?_,?_,fun M hM=>@aJ.aq ⟨[]⟩ _ _ _ _ _ (h.sites M hM) hu (fun k hk=>?_) (fun x hx=>hby x (V.Jp hM hx)),h.fB,?_,?_,?_,?_,h.apart⟩,?_⟩
 ·have:=h.aO.aq hu (off h.aO.tag (by decide) (by decide))
  simpa[WV.cells]using this
 ·intro k hk
  simp only[er,mem_cons,mem_append]at hk
  rcases hk with rfl|hk|hk
  ·exact off h.aI.aO.tag (by decide) (by decide)
  ·exact off (h.Rh k hk) (by decide) (by decide)
  ·exact off (h.OP k hk) (by decide) (by decide)
 ·simpa using hr
 ·simp only[length_set];exact h.sd
 ·obtain⟨t,ht,h2⟩:=@aJ.Am ⟨[]⟩ _ _ (h.sites M hM) k hk
  exact off h2 (by rintro rfl;exact absurd ht (by decide)) (by rintro rfl;exact absurd ht (by decide))
 ·intro N hN
  rcases cL N hN with e|⟨j,hj,hN⟩
  ·rw[e];exact hd
  ·exact(h.jV N (mem_of_getElem? hN)).aq hu (o8 hj hN)
 ·refine pairwise_iff_getElem.2 fun a b ha hb pP=>?_
  simp only[length_set]at ha hb
  have Zh:V.dn[a]? =some V.dn[a]:=List.getElem?_eq_getElem ha
  have hgb:V.dn[b]? =some V.dn[b]:=List.getElem?_eq_getElem hb
  simp only
  rw[getElem_set,getElem_set]
  split
  ·rename_i e
   subst e
   rw[if_neg (by omega)]
   exact Aq (by omega) hgb
  ·split
   ·rename_i e1 e
    subst e
    exact fun k hk hm=>Aq (by omega) Zh k hm hk
   ·exact pairwise_iff_getElem.1 h.Gy a b ha hb pP
 ·intro x hx
  rcases iq x hx with hx|hx
  ·exact(hb x hx).1
  ·exact(h.fu x hx).aq hu (hby x hx)
 ·intro x hx k hk hm
  rcases iq x hx with hx|hx
  ·exact(hb x hx).2 k hk hm
  ·exact h.ux x hx k hk hm
 ·refine hu.mono (fun k hk=>?_) (fun k hk=>?_)
  ·simp only[WV.fp,mem_append,mem_flatMap]at hk ⊢
   rcases hk with hk|hk
   ·exact .inl hk
   ·exact .inr (.inr (.inr ⟨D,Tb,hk⟩))
  ·simp only[WV.fp,mem_append,mem_flatMap]at hk ⊢
   rcases hk with hk|hk|hk|⟨N,hN,hk2⟩
   ·exact .inl (.inl hk)
   ·exact .inr (.inl (.inr (.inl hk)))
   ·exact .inr (.inl (.inr (.inr (.inl hk))))
   ·rcases cL N hN with e|⟨j,-,hj⟩
    ·rw[e]at hk2;exact .inl (.inr hk2)
    ·exact .inr (.inl (.inr (.inr (.inr ⟨N,mem_of_getElem? hj,hk2⟩))))
theorem WS.Ak(h:WS w V){i:Nat}{M:ae}(hM:V.ss[i]? =some M):∃g,V.As=some ⟨g,0,none⟩∧w.cell? ⟨g,i,none⟩=some M.ptr:=by
 obtain⟨hi,e⟩:=List.getElem?_eq_some_iff.1 hM
 obtain⟨g,cur,hA,hB,hl,sn,-⟩:=h.row.block (by omega)
 refine⟨g,hA,?_⟩
 have:=hB.cell i
 rw[this,List.getElem?_toArray,List.getElem?_append_left (by simpa using hi),List.getElem?_map,hM]
 rfl
theorem WS.sv(h:WS w V){i:Nat}{D:mr}(hD:V.dn[i]? =some D):∃g,V.Ad=some ⟨g,0,none⟩∧w.cell? ⟨g,i,none⟩=some D.val:=by
 obtain⟨hi,e⟩:=List.getElem?_eq_some_iff.1 hD
 obtain⟨g,cur,hA,hB,hl,sn,-⟩:=h.iA.block (by omega)
 refine⟨g,hA,?_⟩
 have:=hB.cell i
 rw[this,List.getElem?_toArray,List.getElem?_append_left (by simpa using hi),List.getElem?_map,hD]
 rfl
theorem WS.gone(h:WS w V){i:Nat}{M:ae}(hM:V.ss[i]? =some M){t:Site}(hg: @dZ ⟨V.fE⟩ w w' M t):fA w w' V {V.pl with ss:=V.pl.ss.set i t}:=by
 obtain⟨M',h6,h7,h8,h9⟩:=hg
 obtain⟨k1,k2⟩:=h.turn hM h6 h8 h9
 refine⟨_,k1,?_,rfl,k2⟩
 unfold WV.pl
 rw[map_set,h7]
end
theorem GF(w:World)(V:WV)(h:WS w V)(i:Nat)(M:ae)(hM:V.ss[i]? =some M) :
  Calls prog 183 #[V.ptr,.int .i64 (i:Int)] w fun e w'=>e=.returned (.tuple #[])∧fA w w' V (V.pl.bC i):=by
 have kE:=mem_of_getElem? hM
 obtain⟨hi,-⟩:=List.getElem?_eq_some_iff.1 hM
 have C0:=@lE ⟨V.fE⟩ w M (h.site kE)
 have q0:w.cell? ⟨V.gw,0,none⟩=some (.slice V.As V.ss.length V.cs):=h.aO.cell 0
 obtain⟨gs,hA,hc⟩:=h.Ak hM
 have jU:=h.row.cap
 obtain⟨n,hn⟩:=bk V.ss.length
 have lA:i<n:=by omega
 have Rl:(i:Int)<(n:Int):=by omega
 rw[hA,hn]at q0
 have HR:=aA (show V.pl.bC i= {V.pl with ss:=V.pl.ss.set i M.pl.bC,done:=if M.pl.down then V.pl.done.set i []else V.pl.done} by
  unfold Wd.bC;rw[V.oR,hM];rfl)
 obtain⟨T,hT⟩:=bk (V.pl.bC i)
 rw[hT]at HR ⊢
 clear hT
 rw[ae.ptr]at hc C0
 cases hd:M.pl.down with
 |false=>
  rw[hd]at C0 HR
  have C1:=@xU ⟨V.fE⟩ w M (h.site kE)
  rw[ae.ptr]at C1
  have HG:=aA (fun w' (hg: @dZ ⟨V.fE⟩ w w' M M.pl.bC)=>h.gone hM hg)
  rw[WV.ptr]
  clear h hM hi hn hA
  go_enter func183,ntmps183
  repeat' first|go_values|go_skip|go_guarded|go_step|go_upon|simp only[];go_at_K
  refine C0.mono ?_;rintro e w1 ⟨rfl,rfl⟩
  repeat' first|go_values|go_skip|go_guarded|go_step|go_upon|simp only[];go_at_K
  refine C1.mono ?_;rintro e w1 ⟨rfl,hg⟩
  repeat' first|go_values|go_skip|go_guarded|go_step|go_upon|simp only[];go_at_K
  exact bodyPost_end (results_none rfl _ _ _) rfl ⟨rfl,by rw[HR.out];exact HG.out _ hg⟩
 |true=>
  rw[hd]at C0 HR
  have YQ:i<V.dn.length:=by rw[h.sd];exact hi
  have hD:V.dn[i]? =some V.dn[i]:=List.getElem?_eq_getElem YQ
  obtain⟨gd,N7,Gr⟩:=h.sv hD
  obtain⟨sY,Rm,hf,hrow,hu⟩:=h.iA.write (k:=i) (by omega) (.slice none 0 0)
  obtain rfl:sY=gd:=by rw[N7]at Rm;injection Rm with e;injection e with e;exact e.symm
  obtain⟨k1,k2⟩:=h.yI (D':=⟨none,0,[]⟩) hD (by rw[map_set];exact hrow) (aL.Own.nil _ _ _) (by simp) (hu.mono (fun k hk=>mem_append.2 (.inl hk)) (fun k hk=>by simp only[ak,append_nil]at hk;exact .inl hk))
  obtain⟨V1,hV1⟩:∃V1:WV,{V with dn:=V.dn.set i ⟨none,0,[]⟩} =V1:=⟨_,rfl⟩
  have ee:V1.pl= {V.pl with done:=V.pl.done.set i []}:=by rw[←hV1];unfold WV.pl;simp[map_set]
  have hg1:V1.gw=V.gw:=by rw[←hV1]
  have jW:V1.ss[i]? =some M:=by rw[←hV1];exact hM
  rw[hV1]at k1 k2
  have q2:w.cell? ⟨V.gw,2,none⟩=some (.slice V.Ad V.dn.length V.cd):=h.aO.cell 2
  have aaf:=h.iA.cap
  rw[h.sd,hn]at aaf
  rw[h.sd,hn,N7]at q2
  obtain⟨dv,hdv⟩:=bk (V.dn[i].val)
  rw[hdv]at Gr
  clear hdv
  obtain⟨W,hW⟩:=bk (w.setCell ⟨sY,i,none⟩ (.slice none 0 0))
  have C1:=@xU ⟨V1.fE⟩ (w.setCell ⟨sY,i,none⟩ (.slice none 0 0)) M (k1.site (mem_of_getElem? jW))
  rw[ae.ptr]at C1
  have Ro:V1.ss.length=n:=by rw[←hV1];exact hn
  obtain⟨gs1,uJ,hc1⟩:=k1.Ak jW
  have q01:(w.setCell ⟨sY,i,none⟩ (.slice none 0 0)).cell? ⟨V.gw,0,none⟩=some (.slice V1.As V1.ss.length V1.cs):=by rw[←hg1];exact k1.aO.cell 0
  rw[uJ,Ro]at q01
  rw[ae.ptr]at hc1
  have Td:=k1.row.cap
  rw[Ro]at Td
  have HG:=aA (fun w' (hg: @dZ ⟨V1.fE⟩ (w.setCell ⟨sY,i,none⟩ (.slice none 0 0)) w' M M.pl.bC)=>show fA w w' V T from by
   obtain⟨V2,h1,h2,h3,h4⟩:=k1.gone jW hg
   exact⟨V2,h1,by rw[h2,HR.out,ee];rfl,h3.trans hg1,k2.trans h4⟩)
  rw[WV.ptr]
  rw[hW]at C1 q01 hc1 HG
  clear h hM hi hn hA k1 k2 hu hrow hV1 ee jW hD Rm hd HR Ro kE
  go_enter func183,ntmps183
  repeat' first|go_values|go_skip|go_guarded|go_step|go_upon|simp only[];go_at_K
  refine C0.mono ?_;rintro e w1 ⟨rfl,rfl⟩
  repeat' first|go_values|go_skip|go_guarded|go_step|go_upon|simp only[];go_at_K
  refine C1.mono ?_;rintro e w1 ⟨rfl,hg⟩
  repeat' first|go_values|go_skip|go_guarded|go_step|go_upon|simp only[];go_at_K
  exact bodyPost_end (results_none rfl _ _ _) rfl ⟨rfl,HG.out _ hg⟩
structure Ev where
 k:Int
 s:Int
 at_:Int
 n:Int
 A:Option Addr
 l:Nat
 c:Nat
 b:List UInt8
def Ev.val(x:Ev):Value:=.agg #[.int .i64 x.k,.int .i64 x.s,.int .i64 x.at_,.int .i64 x.n,.slice x.A x.l x.c]
theorem Ev.bJ(x:Ev):x.val=.agg #[.int .i64 x.k,.int .i64 x.s,.int .i64 x.at_,.int .i64 x.n,.slice x.A x.l x.c]:=rfl
def kT(w:World)(hb:Nat)(V:WV):Prop:=aQ w hb 77 #[V.ptr]
theorem kT.fB{w:World}{hb:Nat}{V:WV}(h:WS w V)(hB:kT w hb V):hb∉V.fp:=by
 intro hm
 have ht:cl w hb=some (some 77):=aQ.tag hB
 simp only[WV.fp,mem_append,mem_flatMap]at hm
 rcases hm with hm|hm|⟨M,hM,hm⟩|⟨d,hd,hm⟩
 ·exact bx ht (h.iA.tag _ hm) (by decide) rfl
 ·rcases h.uu ht hm with e|e|⟨e,-⟩<;>exact absurd e (by decide)
 ·exact @aJ.off ⟨[]⟩ _ _ (h.sites M hM) _ _ ht (by decide) hm
 ·exact bx ht ((h.jV d hd).tag _ hm) (by decide) rfl
theorem WV.Zd{V:WV}{M:ae}(hM:M∈V.ss){k:Nat}(hk:k∈M.fp):k∈V.fp:=by
 simp only[WV.fp,mem_append,mem_flatMap]
 exact .inr (.inr (.inl ⟨M,hM,hk⟩))
structure Road(w:World)(V:WV)(hb H gs:Nat)(i:Nat)(n cs:Nat)(gM:Nat)(x:Ev):Prop where
 a:w.cell? ⟨hb,0,none⟩=some (.pointer (some ⟨V.gw,0,none⟩))
 b:w.cell? ⟨V.gw,0,none⟩=some (.slice (some ⟨gs,0,none⟩) n cs)
 c:w.cell? ⟨H,1,none⟩=some (.int .i64 (i:Int))
 d:w.cell? ⟨gs,i,none⟩=some (.pointer (some ⟨gM,0,none⟩))
 e:w.cell? ⟨H,4,none⟩=some (.slice x.A x.l x.c)
 f:w.cell? ⟨H,3,none⟩=some (.int .i64 x.n)
theorem WS.Rp{w:World}{V:WV}(h:WS w V){hb:Nat}(hB:kT w hb V){H:Nat}{x:Ev}(hH:aQ w H 85 #[.int .i64 x.k,.int .i64 x.s,.int .i64 x.at_,.int .i64 x.n,.slice x.A x.l x.c]){i:Nat}(hs:x.s=(i:Int)){M:ae}(hM:V.ss[i]? =some M) :
  ∃gs,V.As=some ⟨gs,0,none⟩∧Road w V hb H gs i V.ss.length V.cs M.gs x∧∀{w':World}{t:Site},@dZ ⟨V.fE⟩ w w' M t→Road w' V hb H gs i V.ss.length V.cs M.gs x:=by
 obtain⟨gs,hA,hc⟩:=h.Ak hM
 have R:Road w V hb H gs i V.ss.length V.cs M.gs x:=⟨hB.cell 0,by rw[←hA];exact h.aO.cell 0,by rw[←hs];exact hH.cell 1,hc,hH.cell 4,hH.cell 3⟩
 refine⟨gs,hA,R,fun {w' t} hg=>?_⟩
 obtain⟨M',-,-,-,hu⟩:=hg
 have kE:=mem_of_getElem? hM
 have off:∀{k:Nat}{t:Option TypeId},cl w k=some t→t∉oK→k∉M.fp:=fun h1 h2=>@aJ.off ⟨[]⟩ _ _ (h.sites M kE) _ _ h1 h2
 have n1:hb∉M.fp:=off (aQ.tag hB) (by decide)
 have n2:V.gw∉M.fp:=off h.aO.tag (by decide)
 have n3:H∉M.fp:=off hH.tag (by decide)
 have n4:gs∉M.fp:=off (h.row.tag gs (by rw[hA];simp[ak])) (by decide)
 exact⟨hu.cell R.a n1,hu.cell R.b n2,hu.cell R.c n3,hu.cell R.d n4,hu.cell R.e n3,hu.cell R.f n3⟩
theorem GC(w:World)(V:WV)(h:WS w V)(hb:Nat)(hB:kT w hb V)(x:Ev)(i:Nat)(hs:x.s=(i:Int))(M:ae)(hM:V.ss[i]? =some M)(hL:Lv M.pl 0)(hr:bE w x.A x.l x.b)(hl:x.b.length≤140737488355328) :
  Calls prog 173 #[x.val,.pointer (some ⟨hb,0,none⟩)] w fun e w'=>e=.returned (.tuple #[.int .i64 (M.pl.cm x.b).2.1,.int .i64 (M.pl.cm x.b).2.2])∧
   fA w w' V {V.pl with ss:=V.pl.ss.set i (M.pl.cm x.b).1}:=by
 obtain⟨W,H,eW,hH,fh,U0⟩:=cb w 85 #[.int .i64 x.k,.int .i64 x.s,.int .i64 x.at_,.int .i64 x.n,.slice x.A x.l x.c]
 have cv:=U0.gives (b':=[]) (by simp)
 have h1:=h.aN cv
 have kE:=mem_of_getElem? hM
 have rR:=h1.aN ((ab.refl [] W).drew)
 obtain⟨gs,hA,CK,RK⟩:=rR.Rp (hb:=hb) (aQ.aq hB cv.drew (by simp)) fh.drew hs hM
 have jU:=h.row.cap
 have hi:i<V.ss.length:=(List.getElem?_eq_some_iff.1 hM).1
 have C:=@KC ⟨V.fE⟩ W.drew M (rR.site kE) x.A x.l x.c x.b (hr.aq (cv.drew) (by simp)) hl (by have:=hL.held;rw[ae.cE]at this;omega)
 have HG:=aA (fun w' (hg: @dZ ⟨V.fE⟩ W.drew w' M (M.pl.cm x.b).1)=>show fA w w' V {V.pl with ss:=V.pl.ss.set i (M.pl.cm x.b).1}from by
  obtain⟨V2,k1,k2,k3,k4⟩:=rR.gone hM hg
  exact⟨V2,k1,k2,k3,(cv.drew.up V.fp).trans k4⟩)
 obtain⟨R,hR⟩:=bk (M.pl.cm x.b)
 rw[hR]at C HG ⊢
 obtain⟨n,hn⟩:=bk V.ss.length
 rw[hn]at CK jU hi
 have RK:=aA (fun w' hg=>hn▸RK (w':=w') (t:=R.1) hg)
 have Rl:(i:Int)<(n:Int):=by omega
 obtain⟨a,b,c,d,e,-⟩:=CK
 rw[ae.ptr]at C
 rw[Ev.bJ,hs]
 rw[hs]at eW
 clear h1 rR h hM kE hn hL hr hR hB fh hA
 go_enter func173,ntmps173
 repeat' first|go_values|go_skip|go_guarded|go_step|go_upon|simp only[];go_at_K
 go_region_held3 (fun w'=>w'.cell? ⟨hb,0,none⟩=some (.pointer (some ⟨V.gw,0,none⟩))∧w'.cell? ⟨V.gw,0,none⟩=some (.slice (some ⟨gs,0,none⟩) n V.cs)∧w'.cell? ⟨H,1,none⟩=some (.int .i64 (i:Int))∧w'.cell? ⟨gs,i,none⟩=some (.pointer (some ⟨M.gs,0,none⟩))∧w'.cell? ⟨H,4,none⟩=some (.slice x.A x.l x.c)) (first|exact⟨a,b,c,d,e⟩|exact⟨r2.a,r2.b,r2.c,r2.d,r2.e⟩)
  (
   first
   |(go_at_call 20;(with_reducible refine C.mono ?_);rintro e w2 ⟨rfl,hg⟩;have r2:=RK.out _ hg))
 all_goals (repeat' (first|go_values|go_skip|go_guarded|go_step|go_upon|simp only[];go_at_K))
 all_goals go_ret2
 all_goals exact⟨rfl,HG.out _ hg⟩
theorem Hn(w:World)(V:WV)(h:WS w V)(hb:Nat)(hB:kT w hb V)(x:Ev)(i:Nat)(hs:x.s=(i:Int))(M:ae)(hM:V.ss[i]? =some M) :
  Calls prog 181 #[x.val,.pointer (some ⟨hb,0,none⟩)] w fun e w'=>e=.returned (.tuple #[.int .i64 0,.int .i64 0])∧
   fA w w' V {V.pl with ss:=V.pl.ss.set i (M.pl.dB x.n)}:=by
 obtain⟨W,H,eW,hH,fh,U0⟩:=cb w 85 #[.int .i64 x.k,.int .i64 x.s,.int .i64 x.at_,.int .i64 x.n,.slice x.A x.l x.c]
 have cv:=U0.gives (b':=[]) (by simp)
 have h1:=h.aN cv
 have kE:=mem_of_getElem? hM
 have rR:=h1.aN ((ab.refl [] W).drew)
 obtain⟨gs,hA,CK,RK⟩:=rR.Rp (hb:=hb) (aQ.aq hB cv.drew (by simp)) fh.drew hs hM
 have jU:=h.row.cap
 have hi:i<V.ss.length:=(List.getElem?_eq_some_iff.1 hM).1
 have C:=@Ol ⟨V.fE⟩ W.drew M (rR.site kE) x.n
 have HG:=aA (fun w' (hg: @dZ ⟨V.fE⟩ W.drew w' M (M.pl.dB x.n))=>show fA w w' V {V.pl with ss:=V.pl.ss.set i (M.pl.dB x.n)}from by
  obtain⟨V2,k1,k2,k3,k4⟩:=rR.gone hM hg
  exact⟨V2,k1,k2,k3,(cv.drew.up V.fp).trans k4⟩)
 obtain⟨R,hR⟩:=bk (M.pl.dB x.n)
 rw[hR]at C HG ⊢
 obtain⟨n,hn⟩:=bk V.ss.length
 rw[hn]at CK jU hi
 have RK:=aA (fun w' hg=>hn▸RK (w':=w') (t:=R) hg)
 have Rl:(i:Int)<(n:Int):=by omega
 obtain⟨a,b,c,d,-,e⟩:=CK
 rw[ae.ptr]at C
 rw[Ev.bJ,hs]
 rw[hs]at eW
 clear h1 rR h hM kE hn hR hB fh hA
 go_enter func181,ntmps181
 repeat' first|go_values|go_skip|go_guarded|go_step|go_upon|simp only[];go_at_K
 go_still_tail 10,(by kernel_rfl)
 change wpList _ _ _ _ _ W.drew
 repeat' first|go_values|go_skip|go_guarded|go_step|go_upon|simp only[];go_at_K
 refine C.mono ?_;rintro e w2 ⟨rfl,hg⟩
 repeat' first|go_values|go_skip|go_guarded|go_step|go_upon|simp only[];go_at_K
 go_ret2
 exact⟨rfl,HG.out _ hg⟩
theorem Ly(w:World)(V:WV)(h:WS w V)(hb:Nat)(hB:kT w hb V)(x:Ev)(i:Nat)(hs:x.s=(i:Int))(M:ae)(hM:V.ss[i]? =some M)(hL:Lv M.pl 300) :
  Calls prog 179 #[x.val,.pointer (some ⟨hb,0,none⟩)] w fun e w'=>e=.returned (.tuple #[.int .i64 0,.int .i64 0])∧
   fA w w' V {V.pl with ss:=V.pl.ss.set i M.pl.tick}:=by
 obtain⟨W,H,eW,hH,fh,U0⟩:=cb w 85 #[.int .i64 x.k,.int .i64 x.s,.int .i64 x.at_,.int .i64 x.n,.slice x.A x.l x.c]
 have cv:=U0.gives (b':=[]) (by simp)
 have h1:=h.aN cv
 have kE:=mem_of_getElem? hM
 have rR:=h1.aN ((ab.refl [] W).drew)
 obtain⟨gs,hA,CK,RK⟩:=rR.Rp (hb:=hb) (aQ.aq hB cv.drew (by simp)) fh.drew hs hM
 have jU:=h.row.cap
 have hi:i<V.ss.length:=(List.getElem?_eq_some_iff.1 hM).1
 have C:=@Fc ⟨V.fE⟩ W.drew M (rR.site kE) (fun hd=>Lv.tick (y:=0) hL hd)
 have HG:=aA (fun w' (hg: @dZ ⟨V.fE⟩ W.drew w' M M.pl.tick)=>show fA w w' V {V.pl with ss:=V.pl.ss.set i M.pl.tick}from by
  obtain⟨V2,k1,k2,k3,k4⟩:=rR.gone hM hg
  exact⟨V2,k1,k2,k3,(cv.drew.up V.fp).trans k4⟩)
 obtain⟨R,hR⟩:=bk M.pl.tick
 rw[hR]at C HG ⊢
 obtain⟨n,hn⟩:=bk V.ss.length
 rw[hn]at CK jU hi
 have RK:=aA (fun w' hg=>hn▸RK (w':=w') (t:=R) hg)
 have Rl:(i:Int)<(n:Int):=by omega
 obtain⟨a,b,c,d,-,-⟩:=CK
 rw[ae.ptr]at C
 rw[Ev.bJ,hs]
 rw[hs]at eW
 clear h1 rR h hM kE hn hL hR hB fh hA
 go_enter func179,ntmps179
 repeat' first|go_values|go_skip|go_guarded|go_step|go_upon|simp only[];go_at_K
 go_region_held3 (fun w'=>w'.cell? ⟨hb,0,none⟩=some (.pointer (some ⟨V.gw,0,none⟩))∧w'.cell? ⟨V.gw,0,none⟩=some (.slice (some ⟨gs,0,none⟩) n V.cs)∧w'.cell? ⟨H,1,none⟩=some (.int .i64 (i:Int))∧w'.cell? ⟨gs,i,none⟩=some (.pointer (some ⟨M.gs,0,none⟩))) (first|exact⟨a,b,c,d⟩) (first|(fail))
 all_goals (repeat' (first|go_values|go_skip|go_guarded|go_step|go_upon|simp only[];go_at_K))
 all_goals ((with_reducible refine C.mono ?_);rintro e w2 ⟨rfl,hg⟩)
 all_goals (repeat' (first|go_values|go_skip|go_guarded|go_step|go_upon|simp only[];go_at_K))
 all_goals go_ret2
 all_goals exact⟨rfl,HG.out _ hg⟩
theorem fA.cell{w w':World}{V:WV}{p:Wd}(h:fA w w' V p){a:Addr}{v:Value}(hc:w.cell? a=some v)(ha:a.block∉V.fp):w'.cell? a=some v:=by
 obtain⟨V2,-,-,-,k4⟩:=h
 exact k4.cell hc ha
theorem fA.pre{w w1 w2:World}{V:WV}{p:Wd}{b:List Nat}(hu:ab [] b w w1)(h:fA w1 w2 V p):fA w w2 V p:=by
 obtain⟨V2,k1,k2,k3,k4⟩:=h
 exact⟨V2,k1,k2,k3,(hu.up V.fp).trans k4⟩
theorem Lz(w:World)(V:WV)(h:WS w V)(hb:Nat)(hB:kT w hb V)(x:Ev)(i:Nat)(hs:x.s=(i:Int))(hL:∀s,V.pl.ss[i]? =some s→Lv s 0) :
  Calls prog 180 #[x.val,.pointer (some ⟨hb,0,none⟩)] w fun e w'=>e=.returned (.tuple #[.int .i64 0,.int .i64 0])∧fA w w' V (V.pl.tell i):=by
 obtain⟨W,H,eW,hH,fh,U0⟩:=cb w 85 #[.int .i64 x.k,.int .i64 x.s,.int .i64 x.at_,.int .i64 x.n,.slice x.A x.l x.c]
 have cv:=U0.gives (b':=[]) (by simp)
 have C:=wA W V (h.aN cv) i hL
 rw[WV.ptr]at C
 obtain⟨p,hp⟩:=bk (V.pl.tell i)
 rw[hp]at C ⊢
 have a:W.cell? ⟨hb,0,none⟩=some (.pointer (some ⟨V.gw,0,none⟩)):=(aQ.aq hB cv (by simp)).cell 0
 have c:W.cell? ⟨H,1,none⟩=some (.int .i64 (i:Int)):=by rw[←hs];exact fh.cell 1
 rw[Ev.bJ,hs]
 rw[hs]at eW
 clear h hB fh hL hp
 go_enter func180,ntmps180
 repeat' first|go_values|go_skip|go_guarded|go_step|go_upon|simp only[];go_at_K
 refine C.mono ?_;rintro e w2 ⟨rfl,hg⟩
 repeat' first|go_values|go_skip|go_guarded|go_step|go_upon|simp only[];go_at_K
 go_ret2
 exact⟨rfl,hg.pre cv⟩
theorem Dd(w:World)(V:WV)(h:WS w V)(hb:Nat)(hB:kT w hb V)(x:Ev)(i:Nat)(hs:x.s=(i:Int))(M:ae)(hM:V.ss[i]? =some M) :
  Calls prog 182 #[x.val,.pointer (some ⟨hb,0,none⟩)] w fun e w'=>e=.returned (.tuple #[.int .i64 0,.int .i64 0])∧fA w w' V (V.pl.bC i):=by
 obtain⟨W,H,eW,hH,fh,U0⟩:=cb w 85 #[.int .i64 x.k,.int .i64 x.s,.int .i64 x.at_,.int .i64 x.n,.slice x.A x.l x.c]
 have cv:=U0.gives (b':=[]) (by simp)
 have C:=GF W V (h.aN cv) i M hM
 rw[WV.ptr]at C
 obtain⟨p,hp⟩:=bk (V.pl.bC i)
 rw[hp]at C ⊢
 have a:W.cell? ⟨hb,0,none⟩=some (.pointer (some ⟨V.gw,0,none⟩)):=(aQ.aq hB cv (by simp)).cell 0
 have c:W.cell? ⟨H,1,none⟩=some (.int .i64 (i:Int)):=by rw[←hs];exact fh.cell 1
 rw[Ev.bJ,hs]
 rw[hs]at eW
 clear h hB fh hM hp
 go_enter func182,ntmps182
 repeat' first|go_values|go_skip|go_guarded|go_step|go_upon|simp only[];go_at_K
 refine C.mono ?_;rintro e w2 ⟨rfl,hg⟩
 repeat' first|go_values|go_skip|go_guarded|go_step|go_upon|simp only[];go_at_K
 go_ret2
 exact⟨rfl,hg.pre cv⟩
theorem Av(w:World)(b:Bool):Calls prog 175 #[.bool b] w fun e w'=>e=.returned (.tuple #[.int .i64 0,.int .i64 (if b then 0 else 6)])∧w=w':=by
 cases b
 all_goals
  go_enter func175,ntmps175
  repeat' first|go_values|go_skip|go_guarded|go_step|go_upon|simp only[];go_at_K
  go_ret2
  exact⟨rfl,rfl⟩
theorem Aw(w:World)(V:WV)(h:WS w V)(i:Int)(hL:∀(j:Nat) s,V.pl.ss[j]? =some s→Lv s 0) :
  Calls prog 104 #[V.ptr,.int .i64 i] w fun e w'=>∃r:Int,e=.returned (.tuple #[.int .i64 r,.bool (dh V.aI.length i)])∧fA w w' V (if dh V.aI.length i then V.pl.du i.toNat else V.pl):=by
 cases ht:dh V.aI.length i with
 |false=>
  refine(rP w V h i ht).mono ?_
  rintro e w' ⟨rfl,rfl⟩
  exact⟨0,rfl,V,h,rfl,rfl,ab.refl _ _⟩
 |true=>
  have fy:=ht
  unfold dh at fy
  simp only[Bool.and_eq_true,decide_eq_true_eq]at fy
  obtain⟨k,rfl⟩:∃k:Nat,i=(k:Int):=⟨i.toNat,by omega⟩
  have hk:k<V.aI.length:=by omega
  refine(wB w V h k V.aI[k] (List.getElem?_eq_getElem hk) hL).mono ?_
  rintro e w' ⟨rfl,hg⟩
  exact⟨_,rfl,hg⟩
theorem Dc(w:World)(V:WV)(h:WS w V)(hb:Nat)(hB:kT w hb V)(x:Ev)(hL:∀(j:Nat) s,V.pl.ss[j]? =some s→Lv s 0) :
  Calls prog 174 #[x.val,.pointer (some ⟨hb,0,none⟩)] w fun e w'=>e=.returned (.tuple #[.int .i64 0,.int .i64 (if dh V.aI.length x.at_ then 0 else 6)])∧
   fA w w' V (if dh V.aI.length x.at_ then V.pl.du x.at_.toNat else V.pl):=by
 obtain⟨W,H,eW,hH,fh,U0⟩:=cb w 85 #[.int .i64 x.k,.int .i64 x.s,.int .i64 x.at_,.int .i64 x.n,.slice x.A x.l x.c]
 have cv:=U0.gives (b':=[]) (by simp)
 have C:=Aw W V (h.aN cv) x.at_ hL
 have C2:=fun w=>Av w (dh V.aI.length x.at_)
 rw[WV.ptr]at C
 obtain⟨p,hp⟩:=bk ((if dh V.aI.length x.at_ then V.pl.du x.at_.toNat else V.pl))
 rw[hp]at C ⊢
 obtain⟨t,ht⟩:=bk (dh V.aI.length x.at_)
 rw[ht]at C C2 ⊢
 obtain⟨r,hr⟩:∃r:Int,(if t then(0:Int)else 6)=r:=⟨_,rfl⟩
 simp only[hr]at C2 ⊢
 have a:W.cell? ⟨hb,0,none⟩=some (.pointer (some ⟨V.gw,0,none⟩)):=(aQ.aq hB cv (by simp)).cell 0
 have c:W.cell? ⟨H,2,none⟩=some (.int .i64 x.at_):=fh.cell 2
 rw[Ev.bJ]
 clear h hB fh hL hp ht hr
 go_enter func174,ntmps174
 repeat' first|go_values|go_skip|go_guarded|go_step|go_upon|simp only[];go_at_K
 refine C.mono ?_;rintro e w2 ⟨r2,rfl,hg⟩
 repeat' first|go_values|go_skip|go_guarded|go_step|go_upon|simp only[];go_at_K
 refine(C2 w2).mono ?_;rintro e w3 ⟨rfl,rfl⟩
 repeat' first|go_values|go_skip|go_guarded|go_step|go_upon|simp only[];go_at_K
 go_ret2
 exact⟨rfl,hg.pre cv⟩
theorem GG(w:World)(g:Nat)(A:Option Addr)(n c:Nat)(l:List Pk)(h:fz w g A n c l)(i:Int)(hi:dh l.length i=false) :
  Calls prog 178 #[.pointer (some ⟨g,0,none⟩),.int .i64 i] w fun e w'=>e=.returned (.int .i64 6)∧w=w':=by
 have C:=qT w g A n c l h i
 rw[hi]at C
 clear h
 go_enter func178,ntmps178
 repeat' first|go_values|go_skip|go_guarded|go_step|go_upon|simp only[];go_at_K
 refine C.mono ?_;rintro e w1 ⟨rfl,rfl⟩
 repeat' first|go_values|go_skip|go_guarded|go_step|go_upon|simp only[];go_at_K
 go_ret
 exact⟨rfl,rfl⟩
theorem Bd(w:World)(g:Nat)(A:Option Addr)(n c:Nat)(l:List Pk)(h:fz w g A n c l)(i:Nat)(hi:i<l.length)(hl:4096≤l.length) :
  Calls prog 178 #[.pointer (some ⟨g,0,none⟩),.int .i64 (i:Int)] w fun e w'=>e=.returned (.int .i64 5)∧w=w':=by
 have hn:=h.len
 have ng:(4096:Int)≤(n:Int):=by omega
 have ht:dh l.length (i:Int)=true:=by unfold dh;simp;omega
 have C:=qT w g A n c l h (i:Int)
 rw[ht]at C
 have q:=h.aO.cell 0
 simp only[List.getElem?_toArray,List.getElem?_cons_zero]at q
 clear h hn hl hi ht
 go_enter func178,ntmps178
 repeat' first|go_values|go_skip|go_guarded|go_step|go_upon|simp only[];go_at_K
 refine C.mono ?_;rintro e w1 ⟨rfl,rfl⟩
 repeat' first|go_values|go_skip|go_guarded|go_step|go_upon|simp only[];go_at_K
 go_ret
 exact⟨rfl,rfl⟩
theorem OU(w:World)(V:WV)(h:WS w V)(i:Int) :
  Calls prog 169 #[.pointer (some ⟨V.gn,0,none⟩),.int .i64 i] w fun e w'=>∃(r:Int)(A:Option Addr)(n c:Nat),e=.returned (.tuple #[.int .i64 r,.slice A n c,.bool (dh V.aI.length i)])∧
   fA w w' V (if dh V.aI.length i then {V.pl with aI:=V.aI.eraseIdx i.toNat}else V.pl)∧w'.cell? ⟨V.gw,1,none⟩=some (.pointer (some ⟨V.gn,0,none⟩)):=by
 cases ht:dh V.aI.length i with
 |false=>
  refine(Au w V.gn V.An V.nn V.cn V.pk h.aI i (by rw[h.uz];exact ht)).mono ?_
  rintro e w' ⟨rfl,rfl⟩
  exact⟨0,none,0,0,rfl,⟨V,h,rfl,rfl,ab.refl _ _⟩,h.aO.cell 1⟩
 |true=>
  have fy:=ht
  unfold dh at fy
  simp only[Bool.and_eq_true,decide_eq_true_eq]at fy
  obtain⟨k,rfl⟩:∃k:Nat,i=(k:Int):=⟨i.toNat,by omega⟩
  have hk:k<V.pk.length:=by have:=h.uz;omega
  refine(IT w V.gn V.An V.nn V.cn V.pk h.aI k hk V.pk[k] rfl).mono ?_
  rintro e w' ⟨A1,n1,c1,rfl,jX,-,-,bn⟩
  obtain⟨k1,k2⟩:=h.wV (net':=V.aI.eraseIdx k) jX (h.Jr k) (fun m' bw=>h.may m' (mem_of_mem_eraseIdx bw)) bn
  exact⟨_,_,_,_,rfl,⟨_,k1,rfl,rfl,k2⟩,k1.aO.cell 1⟩
theorem Lx(w:World)(V:WV)(h:WS w V)(hb:Nat)(hB:kT w hb V)(x:Ev) :
  Calls prog 176 #[x.val,.pointer (some ⟨hb,0,none⟩)] w fun e w'=>e=.returned (.tuple #[.int .i64 0,.int .i64 (if dh V.aI.length x.at_ then 0 else 6)])∧
   fA w w' V (if dh V.aI.length x.at_ then {V.pl with aI:=V.aI.eraseIdx x.at_.toNat}else V.pl):=by
 obtain⟨W,H,eW,hH,fh,U0⟩:=cb w 85 #[.int .i64 x.k,.int .i64 x.s,.int .i64 x.at_,.int .i64 x.n,.slice x.A x.l x.c]
 have cv:=U0.gives (b':=[]) (by simp)
 have h1:=h.aN cv.drew
 have C:=OU W.drew V h1 x.at_
 have C2:=fun w=>Av w (dh V.aI.length x.at_)
 have hfb:hb∉V.fp:=kT.fB h hB
 have gU:H∉V.fp:=fun hm=>by have:=h.lt H hm;omega
 have b:W.drew.cell? ⟨V.gw,1,none⟩=some (.pointer (some ⟨V.gn,0,none⟩)):=h1.aO.cell 1
 obtain⟨p,hp⟩:=bk ((if dh V.aI.length x.at_ then {V.pl with aI:=V.aI.eraseIdx x.at_.toNat}else V.pl))
 rw[hp]at C ⊢
 obtain⟨t,ht⟩:=bk (dh V.aI.length x.at_)
 rw[ht]at C C2 ⊢
 obtain⟨r,hr⟩:∃r:Int,(if t then(0:Int)else 6)=r:=⟨_,rfl⟩
 simp only[hr]at C2 ⊢
 have a:W.drew.cell? ⟨hb,0,none⟩=some (.pointer (some ⟨V.gw,0,none⟩)):=(aQ.aq hB cv (by simp)).cell 0
 have c:W.drew.cell? ⟨H,2,none⟩=some (.int .i64 x.at_):=fh.cell 2
 have hgn:V.gn∈V.fp:=by simp[WV.fp,er]
 rw[Ev.bJ]
 clear h h1 hB fh hp ht hr
 go_enter func176,ntmps176
 repeat' first|go_values|go_skip|go_guarded|go_step|go_upon|simp only[];go_at_K
 go_region_held3 (fun w'=>w'.cell? ⟨hb,0,none⟩=some (.pointer (some ⟨V.gw,0,none⟩))∧w'.cell? ⟨V.gw,1,none⟩=some (.pointer (some ⟨V.gn,0,none⟩))∧w'.cell? ⟨H,2,none⟩=some (.int .i64 x.at_)) (first|exact⟨a,b,c⟩|exact⟨a2,b2,c2⟩)
  (
   first
   |(go_at_call 169;(with_reducible refine C.mono ?_);rintro e w2 ⟨r2,A2,n2,c2',rfl,hg,b2⟩;have a2:=hg.cell a hfb;have c2:=hg.cell c gU))
 all_goals (repeat' (first|go_values|go_skip|go_guarded|go_step|go_upon|simp only[];go_at_K))
 all_goals ((with_reducible refine(C2 w2).mono ?_);rintro e w3 ⟨rfl,rfl⟩)
 all_goals (repeat' (first|go_values|go_skip|go_guarded|go_step|go_upon|simp only[];go_at_K))
 all_goals go_ret2
 all_goals exact⟨rfl,hg.pre cv.drew⟩
theorem LC(w:World)(V:WV)(h:WS w V)(i:Int) :
  Calls prog 178 #[.pointer (some ⟨V.gn,0,none⟩),.int .i64 i] w fun e w'=>e=.returned (.int .i64 (if dh V.aI.length i then(if V.aI.length<4096 then 0 else 5)else 6))∧
   fA w w' V (if dh V.aI.length i then V.pl.double i.toNat else V.pl):=by
 cases ht:dh V.aI.length i with
 |false=>
  refine(GG w V.gn V.An V.nn V.cn V.pk h.aI i (by rw[h.uz];exact ht)).mono ?_
  rintro e w' ⟨rfl,rfl⟩
  exact⟨rfl,V,h,rfl,rfl,ab.refl _ _⟩
 |true=>
  have fy:=ht
  unfold dh at fy
  simp only[Bool.and_eq_true,decide_eq_true_eq]at fy
  obtain⟨k,rfl⟩:∃k:Nat,i=(k:Int):=⟨i.toNat,by omega⟩
  have xv:k<V.aI.length:=by omega
  have hk:k<V.pk.length:=by have:=h.uz;omega
  have hm:V.aI[k]? =some V.aI[k]:=List.getElem?_eq_getElem xv
  obtain⟨hk',fk,ik⟩:=h.Zr hm
  have hd:V.pl.double k=if V.aI.length<4096 then {V.pl with aI:=V.aI++[V.aI[k]]}else V.pl:=by
   unfold Wd.double
   rw[show V.pl.aI=V.aI from rfl,hm]
  simp only[Int.toNat_natCast,if_true]
  rw[hd]
  by_cases hl:V.aI.length<4096
  ·rw[if_pos hl,if_pos hl]
   have dL:=h.may _ (getElem_mem xv)
   refine(NF w V.gn V.An V.nn V.cn V.pk h.aI k hk (by have:=h.uz;omega) (by rw[ik];have:=dL.len;omega)).mono ?_
   rintro e w' ⟨A',n',c',y,rfl,e1,e2,h1,h2⟩
   obtain⟨k1,k2⟩:=h.wV (net':=V.aI++[V.aI[k]]) h1 (by rw[map_append,map_append,h.eq];simp[e1,e2,fk,ik]) (fun m' bw=>by
    rcases mem_append.1 bw with h3|h3
    ·exact h.may m' h3
    ·rw[mem_singleton]at h3;subst h3;exact dL) h2
   exact⟨rfl,_,k1,rfl,rfl,k2⟩
  ·rw[if_neg hl,if_neg hl]
   refine(Bd w V.gn V.An V.nn V.cn V.pk h.aI k hk (by have:=h.uz;omega)).mono ?_
   rintro e w' ⟨rfl,rfl⟩
   exact⟨rfl,V,h,rfl,rfl,ab.refl _ _⟩
theorem GD(w:World)(V:WV)(h:WS w V)(hb:Nat)(hB:kT w hb V)(x:Ev) :
  Calls prog 177 #[x.val,.pointer (some ⟨hb,0,none⟩)] w fun e w'=>e=.returned (.tuple #[.int .i64 0,.int .i64 (if dh V.aI.length x.at_ then(if V.aI.length<4096 then 0 else 5)else 6)])∧
   fA w w' V (if dh V.aI.length x.at_ then V.pl.double x.at_.toNat else V.pl):=by
 obtain⟨W,H,eW,hH,fh,U0⟩:=cb w 85 #[.int .i64 x.k,.int .i64 x.s,.int .i64 x.at_,.int .i64 x.n,.slice x.A x.l x.c]
 have cv:=U0.gives (b':=[]) (by simp)
 have h1:=h.aN cv.drew
 have C:=LC W.drew V h1 x.at_
 have b:W.drew.cell? ⟨V.gw,1,none⟩=some (.pointer (some ⟨V.gn,0,none⟩)):=h1.aO.cell 1
 obtain⟨p,hp⟩:=bk ((if dh V.aI.length x.at_ then V.pl.double x.at_.toNat else V.pl))
 rw[hp]at C ⊢
 obtain⟨r,hr⟩:∃r:Int,(if dh V.aI.length x.at_ then(if V.aI.length<4096 then 0 else 5)else 6)=r:=⟨_,rfl⟩
 rw[hr]at C ⊢
 have a:W.drew.cell? ⟨hb,0,none⟩=some (.pointer (some ⟨V.gw,0,none⟩)):=(aQ.aq hB cv (by simp)).cell 0
 have c:W.drew.cell? ⟨H,2,none⟩=some (.int .i64 x.at_):=fh.cell 2
 have hfb:hb∉V.fp:=kT.fB h hB
 have gU:H∉V.fp:=fun hm=>by have:=h.lt H hm;omega
 rw[Ev.bJ]
 clear h h1 hB fh hp hr
 go_enter func177,ntmps177
 repeat' first|go_values|go_skip|go_guarded|go_step|go_upon|simp only[];go_at_K
 go_still_tail 6,(by kernel_rfl)
 change wpList _ _ _ _ _ W.drew
 repeat' first|go_values|go_skip|go_guarded|go_step|go_upon|simp only[];go_at_K
 refine C.mono ?_;rintro e w2 ⟨rfl,hg⟩
 repeat' first|go_values|go_skip|go_guarded|go_step|go_upon|simp only[];go_at_K
 go_ret2
 exact⟨rfl,hg.pre cv.drew⟩
