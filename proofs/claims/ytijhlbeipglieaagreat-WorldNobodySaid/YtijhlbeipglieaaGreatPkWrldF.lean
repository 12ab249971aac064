/- Merged: WrldP, WrldF, WrldG. -/
import Derived.Laws.OwnMore
import Derived.Test.YtijhlbeipglieaaGreatPkWrldT
set_option linter.all false
set_option maxRecDepth 100000
set_option maxHeartbeats 8000000
namespace Go.Proofs.YtijhlbeipglieaaGreat
open Go.RowKit Agio Go.Maps
section
variable {w w':World} {V V':WV}
theorem WS.offFp (h:WS w V) {k:Nat} {t:Option TypeId} (ht:tagW w k=some t) (h1:t∉siteTags) (h2:t≠some 274) (h3:t≠some 315) (h4:t≠some 72) (h5:t≠some 28):k∉V.fp:=by
 intro hm
 simp only [WV.fp,List.mem_append,List.mem_flatMap] at hm
 rcases hm with hm | hm | ⟨M,hM,hm⟩ | ⟨d,hd,hm⟩
 ·exact tag_ne ht (h.drow.tag _ hm) h4 rfl
 ·rcases h.netIn ht hm with e | e | ⟨e,-⟩
  ·exact h2 e
  ·exact h3 e
  ·exact h1 (by rw [e];decide)
 ·exact @SiteS.off ⟨[]⟩ _ _ (h.sites M hM) _ _ ht h1 hm
 ·exact tag_ne ht ((h.dons d hd).tag _ hm) h5 rfl
theorem WS.gwFar (h:WS w V):V.gw∉V.fp:=h.offFp h.blk.tag (by decide) (by decide) (by decide) (by decide) (by decide)
theorem WS.places (h:WS w V) (h':WS w' V') (hg:V'.gw=V.gw) (hu:Upd V.fp V'.fp w w'):V'.As=V.As∧V'.ss.length=V.ss.length∧V'.cs=V.cs∧V'.gn=V.gn:=by
 have q0:w'.cell? ⟨V.gw,0,none⟩=some (.slice V.As V.ss.length V.cs):=hu.cell (h.blk.cell 0) h.gwFar
 have q1:w'.cell? ⟨V.gw,1,none⟩=some (.pointer (some ⟨V.gn,0,none⟩)):=hu.cell (h.blk.cell 1) h.gwFar
 have r0:w'.cell? ⟨V.gw,0,none⟩=some (.slice V'.As V'.ss.length V'.cs):=by rw [←hg];exact h'.blk.cell 0
 have r1:w'.cell? ⟨V.gw,1,none⟩=some (.pointer (some ⟨V'.gn,0,none⟩)):=by rw [←hg];exact h'.blk.cell 1
 rw [q0] at r0
 rw [q1] at r1
 simp only [Option.some.injEq,Value.slice.injEq,Value.pointer.injEq,Addr.mk.injEq] at r0 r1
 exact ⟨r0.1.symm,r0.2.1.symm,r0.2.2.symm,r1.1.symm⟩
end
theorem Wd.deed_at {w:Wd} {i:Nat} {s:Site} (h:w.ss[i]? =some s) (f:Site→Site):w.deed i f= {w with ss:=w.ss.set i (f s)}:=by unfold Wd.deed;rw [h]
structure KeptW (p:Prop):Prop where
 out:p
theorem worldRound (w:World) (V:WV) (h:WS w V) (hR:V.pl.RoundOk) :
  Calls Tryz.prog 43 #[V.ptr] w fun e w'=>e= .returned (.int .i64 (V.pl.round.2:Int))∧Wone w w' V V.pl.round.1:=by
 have q0:w.cell? ⟨V.gw,0,none⟩=some (.slice V.As V.ss.length V.cs):=h.blk.cell 0
 have hlen:V.pl.ss.length=V.ss.length:=by unfold WV.pl;simp
 have HT:=Lib.hid hR.tick
 have HD:=Lib.hid hR.deal
 obtain ⟨n,hn⟩:∃n,V.ss.length=n:=⟨_,rfl⟩
 have hcap:=h.row.cap
 unfold maxLen at hcap
 have HLen:=Lib.hid hlen
 have HN:=Lib.hid hn
 have HS:=Lib.hid h
 obtain ⟨T,hT⟩:∃T,V.pl.round=T:=⟨_,rfl⟩
 have HR:=Lib.hid (show Wd.drain 20000 (V.pl.ticks n)=T by rw [←hT,←hn,←hlen];rfl)
 rw [hT,WV.ptr]
 rw [hn] at q0 hcap
 have hPtr:=Lib.hid (fun (i:Nat) (M:SiteV) (hM:V.ss[i]? =some M)=>h.ptrAt hM)
 clear hT hR hlen hn h
 go_enter Tryz.func43,Tryz.ntmps43
 repeat' (first|go_values|go_skip|go_guarded|go_step|go_upon|(simp only [];go_at_K))
 go_loopw [15] (fun v15 wr=>KeptW (∃(i:Nat) (V2:WV),i≤n∧v15= .int .i64 (i:Int)∧WS wr V2∧V2.pl=V.pl.ticks i∧V2.gw=V.gw∧Upd V.fp V2.fp w wr)) (fun v15 _=>n - (intOf v15).toNat)
 case atStart=>exact KeptW.mk ⟨0,V,by omega,rfl,HS.out,rfl,rfl,Upd.refl _ _⟩
 case round=>
  obtain ⟨i,V2,hi,rfl,h2,hp2,hg2,U2⟩:=hrel.out
  clear hrel
  have HP2:=Lib.hid hp2
  clear hp2
  by_cases hlt:i < n
  ·have hil:(i:Int) < (n:Int):=by omega
   have hw1:IntKind.i64.wrap ((i:Int) + 1)=(i:Int) + 1:=by rw [IntKind.wrap_i64];omega
   have hiV:i < V.ss.length:=by rw [HN.out];exact hlt
   obtain ⟨gs,hA,hc⟩:=hPtr.out i V.ss[i] (List.getElem?_eq_getElem hiV)
   obtain ⟨e1,e2,e3,-⟩:=HS.out.places h2 hg2 U2
   have hi2:i < V2.ss.length:=by rw [e2];exact hiV
   have hM2:V2.ss[i]? =some V2.ss[i]:=List.getElem?_eq_getElem hi2
   obtain ⟨gs2,hA2,hc2⟩:=h2.ptrAt hM2
   obtain rfl:gs2=gs:=by rw [e1,hA] at hA2;injection hA2 with e;injection e with e;exact e.symm
   have hwt:=HT.out i (by rw [HLen.out];exact hiV)
   obtain ⟨M,hM⟩:∃M,V2.ss[i]=M:=⟨_,rfl⟩
   rw [hM] at hM2 hc2
   have hMp:V2.pl.ss[i]? =some M.pl:=by rw [V2.ss_pl,hM2];rfl
   have C0:=@siteTick ⟨V2.hot⟩ wr M (h2.site (List.mem_of_getElem? hM2)) (fun hd=>Lv.tick (y:=0) (hwt.1 i M.pl (by rw [←HP2.out];exact hMp)) hd)
   have HG:=Lib.hid (fun w' (hg: @Gone ⟨V2.hot⟩ wr w' M M.pl.tick)=>h2.gone hM2 hg)
   rw [←Wd.deed_at hMp Site.tick,HP2.out] at HG
   have HW:=Lib.hid hwt.2
   rw [SiteV.ptr] at hc2 C0
   rw [hA]
   clear hwt hM hMp hM2 hc hA2 hi2 e1 e2 e3 h2 hiV
   repeat' (first|go_values|go_skip|go_guarded|go_step|go_upon|(simp only [];go_at_K))
   ((with_reducible refine C0.mono ?_);rintro e w5 ⟨rfl,hg⟩)
   obtain ⟨V3,h3,hp3,hg3,U3⟩:=HG.out _ hg
   have C1:=worldTell w5 V3 h3 i (fun s hs=>HW.out i s (by rw [←hp3];exact hs))
   rw [WV.ptr,hg3,hg2,hp3] at C1
   have UU:=U2.trans U3
   clear hg C0 hp3 h3 U3 U2
   repeat' (first|go_values|go_skip|go_guarded|go_step|go_upon|(simp only [];go_at_K))
   ((with_reducible refine C1.mono ?_);rintro e w6 ⟨rfl,V4,h4,hp4,hg4,U4⟩)
   repeat' (first|go_values|go_skip|go_guarded|go_step|go_upon|(simp only [];go_at_K))
   exact ⟨KeptW.mk ⟨i + 1,V4,by omega,by simp,h4,hp4,by rw [hg4,hg3,hg2],UU.trans U4⟩,by simp [intOf];omega⟩
  ·obtain rfl:i=n:=by omega
   have hil:¬ ((i:Int) < (i:Int)):=by omega
   repeat' (first|go_values|go_skip|go_guarded|go_step|go_upon|(simp only [];go_at_K))
   go_loopw [5] (fun v5 wr=>KeptW (∃(c:Nat) (V3:WV),c≤20000∧v5= .int .i64 (c:Int)∧WS wr V3∧V3.pl=(Wd.drain c (V.pl.ticks i)).1∧(Wd.drain (20000 - c) V3.pl).1=T.1∧(Wd.drain (20000 - c) V3.pl).2 + c=T.2∧V3.gw=V.gw∧Upd V.fp V3.fp w wr)) (fun v5 _=>20000 - (intOf v5).toNat)
   case atStart=>exact KeptW.mk ⟨0,V2,by omega,rfl,h2,by rw [HP2.out];rfl,by rw [HP2.out,←HR.out],by rw [HP2.out,←HR.out];rfl,hg2,U2⟩
   case round=>
    obtain ⟨c,V3,hc,rfl,h3,hp3,hd1,hd2,hg3,U3⟩:=hrel.out
    clear hrel h2 U2
    have HP3:=Lib.hid hp3
    have HD1:=Lib.hid hd1
    have HD2:=Lib.hid hd2
    clear hp3 hd1 hd2
    by_cases hc2:c < 20000
    ·have hcl:(c:Int) < 20000:=by omega
     have hw1:IntKind.i64.wrap ((c:Int) + 1)=(c:Int) + 1:=by rw [IntKind.wrap_i64];omega
     obtain ⟨hL,hL2⟩:=HD.out c hc2
     cases hnet:V3.net with
     | nil=>
      have C:=worldDeliver_no wr V3 h3 0 (by rw [hnet];rfl)
      have hf:Wd.drain (20000 - c) V3.pl=(V3.pl,0):=Wd.drain_nil _ hnet
      have FIN:=Lib.hid (show (c:Int)=(T.2:Int)∧Wone w wr V T.1 from ⟨by have:=HD2.out;rw [hf] at this;simp only at this;omega,V3,h3,by have:=HD1.out;rw [hf] at this;exact this,hg3,U3⟩)
      rw [WV.ptr,hg3] at C
      clear hf hnet hL hL2 h3 U3
      repeat' (first|go_values|go_skip|go_guarded|go_step|go_upon|(simp only [];go_at_K))
      ((with_reducible refine C.mono ?_);rintro e w5 ⟨rfl,rfl⟩)
      repeat' (first|go_values|go_skip|go_guarded|go_step|go_upon|(simp only [];go_at_K))
      go_ret
      exact ⟨by rw [FIN.out.1];rfl,FIN.out.2⟩
     | cons m l=>
      obtain ⟨hmL,hmL2⟩:WLv V3.pl 0∧WLv (V3.pl.deliver 0) 0:=by
       have e:=HLen.out
       have e2:=HN.out
       rw [e,e2,←HP3.out] at hL hL2
       exact ⟨hL,hL2 m l hnet⟩
      have hm0:V3.net[0]? =some m:=by rw [hnet];rfl
      have C:=worldDeliver wr V3 h3 0 m hm0 hmL
      have hmay:=h3.may m (by rw [hnet];simp)
      have hto:m.to=((m.to.toNat:Nat):Int):=by have:=hmay.to;omega
      have HE:=Lib.hid (show ∀k,Wd.drain (k + 1) V3.pl=((Wd.drain k (V3.pl.deal m)).1,(Wd.drain k (V3.pl.deal m)).2 + 1) from fun k=>Wd.drain_cons k hnet)
      have HML:=Lib.hid hmL2
      obtain ⟨D1,hD1⟩:∃D1,V3.pl.deliver 0=D1:=⟨_,rfl⟩
      have HDD:=Lib.hid (show V3.pl.deal m=D1.tell m.to.toNat by rw [←hD1];rfl)
      rw [hD1] at C HML
      rw [WV.ptr,hg3,show ((0:Nat):Int)=0 from rfl,hto] at C
      have HSN:=Lib.hid (show (Wd.drain (c + 1) (V.pl.ticks i)).1=V3.pl.deal m from by
       have e:∀(k:Nat) (x:Wd),(Wd.drain k x).1=V3.pl→(Wd.drain (k + 1) x).1=V3.pl.deal m:=by
        intro k
        induction k with
        | zero=>intro x hx;have hx':x=V3.pl:=hx;subst hx';rw [Wd.drain_cons 0 hnet];rfl
        | succ k ih=>
         intro x hx
         cases hxn:x.net with
         | nil=>
          rw [Wd.drain_nil _ hxn] at hx
          have hx':x=V3.pl:=hx
          subst hx'
          rw [show V3.pl.net=V3.net from rfl,hnet] at hxn
          cases hxn
         | cons y t=>
          rw [Wd.drain_cons _ hxn] at hx ⊢
          exact ih _ hx
       exact e c _ HP3.out.symm)
      clear hD1 hm0 hnet hL hL2 hmL hmL2 hmay h3
      generalize m.to.toNat=tt at *
      repeat' (first|go_values|go_skip|go_guarded|go_step|go_upon|(simp only [];go_at_K))
      ((with_reducible refine C.mono ?_);rintro e w5 ⟨rfl,V4,h4,hp4,hg4,U4⟩)
      have C1:=worldTell w5 V4 h4 tt (fun s hs=>HML.out tt s (by rw [←hp4];exact hs))
      rw [WV.ptr,hg4,hg3,hp4] at C1
      have UU:=U3.trans U4
      clear C hp4 h4 U4 U3
      repeat' (first|go_values|go_skip|go_guarded|go_step|go_upon|(simp only [];go_at_K))
      ((with_reducible refine C1.mono ?_);rintro e w6 ⟨rfl,V5,h5,hp5,hg5,U5⟩)
      repeat' (first|go_values|go_skip|go_guarded|go_step|go_upon|(simp only [];go_at_K))
      refine ⟨KeptW.mk ⟨c + 1,V5,by omega,by simp,h5,?_,?_,?_,by rw [hg5,hg4,hg3],UU.trans U5⟩,by simp [intOf];omega⟩
      ·rw [hp5,HSN.out,HDD.out]
      ·have e:=HE.out (20000 - (c + 1))
       rw [show 20000 - (c + 1) + 1=20000 - c by omega] at e
       have e1:=HD1.out
       rw [e] at e1
       rw [hp5,←HDD.out]
       exact e1
      ·have e:=HE.out (20000 - (c + 1))
       rw [show 20000 - (c + 1) + 1=20000 - c by omega] at e
       have e1:=HD2.out
       rw [e] at e1
       rw [hp5,←HDD.out]
       simp only at e1
       omega
    ·obtain rfl:c=20000:=by omega
     have hcl:¬ (((20000:Nat):Int) < 20000):=by omega
     have FIN:=Lib.hid (show (((20000:Nat):Int)=(T.2:Int))∧Wone w wr V T.1 from ⟨by have:=HD2.out;simp only [Nat.sub_self,Wd.drain] at this;omega,V3,h3,by have:=HD1.out;simp only [Nat.sub_self,Wd.drain] at this;exact this,hg3,U3⟩)
     clear h3 U3
     repeat' (first|go_values|go_skip|go_guarded|go_step|go_upon|(simp only [];go_at_K))
     go_ret
     exact ⟨by rw [←FIN.out.1];rfl,FIN.out.2⟩
end Go.Proofs.YtijhlbeipglieaaGreat
namespace Go.Proofs.YtijhlbeipglieaaGreat
open Go.RowKit Agio Go.Maps
theorem SiteS.decLen [Ban] {w:World} {M:SiteV} (h:SiteS w M) {x:Int} {v:List UInt8} (hv:M.pl.dec x=some v):v.length≤2048:=by
 rw [SiteV.dec_pl] at hv
 cases hl:lookG x M.lv with
 | none=>rw [hl] at hv;cases hv
 | some z=>
  rw [hl] at hv
  injection hv with hv
  have:=(h.lrn.keys _ (lookG_some hl)).2.2
  simp only at this
  rw [←hv];exact this
theorem valsF_len (f:Nat→List UInt8) (t:Nat):(valsF f t).length≤t:=by
 unfold valsF
 exact Nat.le_trans (List.length_filter_le _ _) (by simp)
theorem SiteV.front_le (M:SiteV) (h:M.taken≤4096):M.pl.front≤4096:=by rw [SiteV.front_pl];have:=frontG_le M.lv (4096 - M.taken) M.taken;omega
theorem _root_.Agio.DoneS.len {s:Site} {d:List (List UInt8)} (h:DoneS s d):d.length≤s.taken:=by rw [h.eq];exact valsF_len _ _
theorem worldDone (w:World) (V:WV) (h:WS w V) (i:Nat) (M:SiteV) (hM:V.ss[i]? =some M) (D:DnV) (hD:V.dn[i]? =some D) (hDS:DoneS M.pl (D.l.map Bsl.b)) :
  Calls Tryz.prog 41 #[V.ptr,.int .i64 (i:Int)] w fun e w'=>∃(A:Option Addr) (c:Nat) (l:List Bsl) (V':WV),e= .returned (.slice A l.length c)∧l.map Bsl.b=D.l.map Bsl.b ++ M.pl.takes.2.filter (fun v=>decide (v≠[]))∧OwnS w' A c l∧
   (∀k∈ablk A,w.heap.size≤k∧k∉V'.fp)∧(∀x∈l,∀k∈ablk x.A,w.heap.size≤k∧k∉V'.fp)∧WS w' V'∧V'.pl=V.pl.take i∧V'.gw=V.gw∧Upd V.fp V'.fp w w':=by
 have hMm:=List.mem_of_getElem? hM
 have hSM:=h.site hMm
 have hmi:i < V.ss.length:=(List.getElem?_eq_some_iff.1 hM).1
 have hdi:i < V.dn.length:=(List.getElem?_eq_some_iff.1 hD).1
 have hDm:=List.mem_of_getElem? hD
 have C0:=worldAt w V h (i:Int)
 rw [WV.at_nat,hM] at C0
 have C1:=@siteTake ⟨V.hot⟩ w M hSM
 have ht:=(@SiteS.lrn ⟨V.hot⟩ _ _ hSM).t
 have hfront:=M.front_le ht
 have hDS2:=hDS.takes
 obtain ⟨S,hS⟩:∃S,M.pl.takes.2=S:=⟨_,rfl⟩
 have hSl:S.length≤4096:=by
  rw [←hS]
  show ((List.range' _ _).map _).length≤_
  rw [List.length_map,List.length_range']
  omega
 have hd0:D.l.length≤4096:=by have:=hDS.len;rw [List.length_map] at this;have:M.pl.taken≤4096:=ht;omega
 have HTK:=Lib.hid (show V.pl.take i= {V.pl with ss:=V.pl.ss.set i M.pl.takes.1,done:=V.pl.done.set i (D.l.map Bsl.b ++ S.filter fun v=>decide (v≠[]))} by
  unfold Wd.take
  rw [V.ss_pl,hM]
  simp only [Option.map_some]
  rw [List.getD_eq_getElem?_getD,show V.pl.done[i]? =some (D.l.map Bsl.b) by unfold WV.pl;simp [hD],←hS]
  rfl)
 obtain ⟨T,hT⟩:∃T,V.pl.take i=T:=⟨_,rfl⟩
 rw [hS] at C1 hDS2 ⊢
 rw [hT] at HTK ⊢
 have HLen:=Lib.hid (show ∀v∈D.l.map Bsl.b ++ S.filter (fun v=>decide (v≠[])),v.length≤2048 from fun v hv=>by
  rw [hDS2.eq] at hv
  obtain ⟨-,x,hx,e⟩:=valsF_mem hv
  obtain ⟨u,hu⟩:=hDS2.all x hx
  have hu':M.pl.dec (x:Int)=some u:=hu
  have e2:M.pl.takes.1.val x=u:=by unfold Site.val;rw [hu];rfl
  rw [←e,e2]
  exact @SiteS.decLen ⟨V.hot⟩ _ _ hSM _ _ hu')
 rw [SiteV.ptr] at C1
 rw [WV.ptr] at C0 ⊢
 have HST:=Lib.hid (fun w' (hg: @Stays ⟨V.hot⟩ w w' M M.pl.takes.1)=>show ∃M',WS w' {V with ss:=V.ss.set i M'}∧M'.pl=M.pl.takes.1∧Upd V.fp ({V with ss:=V.ss.set i M'} :WV).fp w w'∧({V with ss:=V.ss.set i M'} :WV).hot=V.hot from by
  obtain ⟨M',k1,k2,k3,k4,k5,k6,k7⟩:=hg
  obtain ⟨j1,j2⟩:=h.turn hM k1 k3 k7
  refine ⟨M',j1,k2,j2,?_⟩
  unfold WV.hot WV.disks WV.pks
  congr 1
  show ((V.ss.set i M').flatMap fun M=>ablk M.Ad)=_
  rw [←List.flatMap_map (f:=SiteV.Ad) (g:=fun A=>ablk A),←List.flatMap_map (f:=SiteV.Ad) (g:=fun A=>ablk A),List.map_set,k5]
  congr 1
  refine List.ext_getElem? fun j=>?_
  by_cases e:i=j
  ·subst e;rw [List.getElem?_set_self (by simpa using hmi),List.getElem?_map,hM];rfl
  ·rw [List.getElem?_set_ne e])
 have HLT:=Lib.hid h.lt
 have HDN:=Lib.hid (fun d hd k hk=>(h.dons d hd).lt k hk)
 have HHOT:=Lib.hid h.hotLt
 simp only [ptrO,SiteV.ptr] at C0
 clear hS hT hSM h hDS hDS2 hfront ht hM hMm
 go_enter Tryz.func41,Tryz.ntmps41
 repeat' (first|go_values|go_skip|go_guarded|go_step|go_upon|(simp only [];go_at_K))
 ((with_reducible refine C0.mono ?_);rintro e w1 ⟨rfl,rfl⟩)
 repeat' (first|go_values|go_skip|go_guarded|go_step|go_upon|(simp only [];go_at_K))
 ((with_reducible refine C1.mono ?_);rintro e w1 ⟨A1,c1,l1,rfl,hl1,ho1,hA1,hx1,hst⟩)
 obtain ⟨M',h1,hp1,U1,hhot⟩:=HST.out w1 hst
 obtain ⟨V1,hV1⟩:∃V1:WV,{V with ss:=V.ss.set i M'} =V1:=⟨_,rfl⟩
 rw [hV1] at h1 U1 hhot
 have hdn1:V1.dn=V.dn:=by rw [←hV1]
 have hg1:V1.gw=V.gw:=by rw [←hV1]
 have hp:V1.pl= {V.pl with ss:=V.pl.ss.set i M.pl.takes.1}:=by rw [←hV1];unfold WV.pl;simp only [List.map_set,hp1]
 have hl1n:l1.length=S.length:=by rw [←hl1,List.length_map]
 have hl4:l1.length≤4096:=by omega
 have hcap1:=ho1.own.cap
 have hD1:V1.dn[i]? =some D:=by rw [hdn1];exact hD
 have hdi1:i < V1.dn.length:=by rw [hdn1];exact hdi
 clear C0 C1 hst hV1 hp1 hD
 have HP:=Lib.hid hp
 have HL1:=Lib.hid hl1
 have hA1f:∀k∈ablk A1,k∉ablk V1.Ad ++ ablk D.A:=fun k hk hm=>by
  have hk1:=hA1 k hk
  rcases List.mem_append.1 hm with hm | hm
  ·exact tag_ne (ho1.own.tag k hk) (h1.drow.tag k hm) (by decide) rfl
  ·have:=HDN.out D hDm k hm;omega
 clear hl1n hl1 hp
 repeat' (first|go_values|go_skip|go_guarded|go_step|go_upon|(simp only [];go_at_K))
 have e0:V1.dn.set i D=V1.dn:=by
  refine List.ext_getElem? fun k=>?_
  by_cases e:i=k
  ·subst e;rw [List.getElem?_set_self hdi1,hD1]
  ·rw [List.getElem?_set_ne e]
 have H0:=Lib.hid (show WS w1 {V1 with dn:=V1.dn.set i D} from by rw [e0];exact h1)
 clear e0
 go_loopw [19] (fun v19 wr=>KeptW (∃(j:Nat) (D':DnV),j≤l1.length∧v19= .int .i64 (j:Int)∧WS wr {V1 with dn:=V1.dn.set i D'}∧D'.l.map Bsl.b=D.l.map Bsl.b ++ (S.take j).filter (fun v=>decide (v≠[]))∧D'.l.length≤4096 + j∧Upd (ablk V1.Ad ++ ablk D.A) (ablk V1.Ad ++ ablk D'.A) w1 wr)) (fun v19 _=>l1.length - (intOf v19).toNat)
 case atStart=>exact KeptW.mk ⟨0,D,by omega,rfl,H0.out,by simp,by omega,Upd.refl _ _⟩
 case round=>
  obtain ⟨j,D',hj,rfl,h2,hb2,hl2,U2⟩:=hrel.out
  clear hrel
  have HB2:=Lib.hid hb2
  clear hb2
  obtain ⟨V2,hV2⟩:∃V2:WV,{V1 with dn:=V1.dn.set i D'} =V2:=⟨_,rfl⟩
  rw [hV2] at h2
  have hg2:V2.gw=V.gw:=by rw [←hV2];exact hg1
  have hd2:V2.dn[i]? =some D':=by rw [←hV2];exact List.getElem?_set_self hdi1
  have hAd2:V2.Ad=V1.Ad:=by rw [←hV2]
  have hn2:V2.dn.length=V1.dn.length:=by rw [←hV2];simp
  have hh2:V2.hot=V.hot:=by rw [←hV2,←hhot];rfl
  have ho2:=ho1.own.upd U2 hA1f
  by_cases hlt:j < l1.length
  ·have hil:(j:Int) < (l1.length:Int):=by omega
   have hw1:IntKind.i64.wrap ((j:Int) + 1)=(j:Int) + 1:=by rw [IntKind.wrap_i64];omega
   obtain ⟨g1,cur1,rfl,hB1,-⟩:=ho2.block (by omega)
   have c1j:wr.cell? ⟨g1,j,none⟩=some l1[j].val:=by rw [hB1.cell,List.getElem?_toArray,List.getElem?_append_left (by simpa using hlt),List.getElem?_map,List.getElem?_eq_getElem hlt];rfl
   have hxo:=ho1.each _ (List.getElem_mem hlt)
   have hxf:=hx1 _ (List.getElem_mem hlt)
   have hSj:S[j]? =some l1[j].b:=by rw [←HL1.out,List.getElem?_map,List.getElem?_eq_getElem hlt];rfl
   obtain ⟨x,hx⟩:∃x,l1[j]=x:=⟨_,rfl⟩
   rw [hx] at c1j hxo hxf hSj
   have hxt:BytS w1 x:=⟨hxo.rd,fun k hk=>hxo.own.tag k hk⟩
   have hx2:BytS wr x:=hxt.upd U2 (fun k hk hm=>by
    rcases List.mem_append.1 hm with hm | hm
    ·exact tag_ne (hxt.tag k hk) (h1.drow.tag k hm) (by decide) rfl
    ·exact tag_ne (hxt.tag k hk) ((h1.dons D (List.mem_of_getElem? hD1)).tag k hm) (by decide) rfl)
   have hxh:∀k∈ablk x.A,k∉V2.hot:=fun k hk hm=>by rw [hh2] at hm;have:=HHOT.out k hm;have:=hxf k hk;omega
   have hxn:x.n=x.b.length:=hxo.rd.len
   have HTAKE:=Lib.hid (show S.take (j + 1)=S.take j ++ [x.b] by
    have hjl:j < S.length:=(List.getElem?_eq_some_iff.1 hSj).1
    rw [List.take_succ_eq_append_getElem hjl]
    have:=(List.getElem?_eq_some_iff.1 hSj).2
    rw [this])
   have HXN:=Lib.hid hxn
   clear hxo hxt hx hSj hB1 hxn
   unfold Bsl.val at c1j
   by_cases hx0:x.n=0
   ·have HX0:=Lib.hid hx0
    have dx:decide ((0:Int) < (x.n:Int))=false:=decide_eq_false (by omega)
    have dx2:decide (0 < x.n)=false:=decide_eq_false (by omega)
    clear hx0
    repeat' (first|go_values|go_skip|go_guarded|go_step|go_upon|(simp only [];go_at_K))
    refine ⟨KeptW.mk ⟨j + 1,D',by omega,by simp,by rw [hV2];exact h2,?_,by omega,U2⟩,by simp [intOf];omega⟩
    have:x.b= []:=List.eq_nil_of_length_eq_zero (by rw [←HXN.out];exact HX0.out)
    rw [HTAKE.out,List.filter_append,HB2.out,this]
    simp
   ·have HX0:=Lib.hid hx0
    have dx:decide ((0:Int) < (x.n:Int))=true:=decide_eq_true (by omega)
    have dx2:decide (0 < x.n)=true:=decide_eq_true (by omega)
    clear hx0
    repeat' ((fail_if_success (with_reducible refine stop_append rfl ?_));first|go_values|go_skip|go_guarded|go_step|go_upon|(simp only [];go_at_K))
    have hin:i < V2.dn.length:=by rw [hn2];exact hdi1
    have hdo:=h2.dons D' (List.mem_of_getElem? hd2)
    have hXb:Upd [] [] wr (wr.drew.alloc (.cells #[.slice x.A x.n x.c] 28)):=(((Upd.refl [] wr).drew).alloc _).gives (by simp)
    obtain ⟨A5,c5,w5,hrun5,ho5,hu5⟩:=run_app (P:=Tryz.prog) (wr.drew.alloc (.cells #[.slice x.A x.n x.c] 28)) 72 72 28 Tryz.underlying72 infoSl5 rfl (by decide) D'.A D'.l.length D'.c _ (hdo.upd hXb (by simp)) (some ⟨wr.drew.heap.size,0,none⟩) 1 1 [.slice x.A x.n x.c] (Rd.blk (Blk.new _ _ _) rfl) (by intro u hu;simp only [List.mem_singleton] at hu;subst hu;rfl) (by unfold maxLen;omega) (by omega)
    have hrun6:(Builtin.append_ #[72,72] 72 #[.slice D'.A D'.l.length D'.c,.slice (some ⟨wr.drew.heap.size,0,none⟩) 1 1]).run Tryz.prog (wr.drew.alloc (.cells #[.slice x.A x.n x.c] 28))= .ok (.slice A5 (D'.l.length + 1) c5) w5:=hrun5
    have U5:Upd (ablk D'.A) (ablk A5) wr w5:=(hXb.up _).trans hu5
    have hAdD:∀k∈ablk V2.Ad,k∉ablk D'.A:=fun k hk hm=>tag_ne (h2.drow.tag k hk) (hdo.tag k hm) (by decide) rfl
    obtain ⟨gd,hgd,f6,hrow6,U6⟩:=(h2.drow.upd U5 hAdD).write (k:=i) (by omega) (.slice A5 (D'.l.length + 1) c5)
    obtain ⟨gd',hgd',qd⟩:=h2.doneAt hd2
    obtain rfl:gd'=gd:=by rw [hgd] at hgd';injection hgd' with e;injection e with e;exact e.symm
    have hgw5:V2.gw∉ablk D'.A:=fun hm=>tag_ne h2.blk.tag (hdo.tag _ hm) (by decide) rfl
    have hgd5:gd'∉ablk D'.A:=hAdD gd' (by rw [hgd];simp [ablk])
    have q2:wr.cell? ⟨V.gw,2,none⟩=some (.slice (some ⟨gd',0,none⟩) V2.dn.length V2.cd):=by rw [←hgd,←hg2];exact h2.blk.cell 2
    have q2a:=hXb.cell q2 (by simp)
    have q2b:=U5.cell q2 (by rw [←hg2];exact hgw5)
    have q2c:=((Upd.refl [] wr).drew).cell q2 (by simp)
    unfold DnV.val at qd
    have qda:=hXb.cell qd (by simp)
    have qdb:=U5.cell qd hgd5
    have qdc:=((Upd.refl [] wr).drew).cell qd (by simp)
    have hcd:=h2.drow.cap
    obtain ⟨w6,hw6⟩:∃w6,w5.setCell ⟨gd',i,none⟩ (.slice A5 (D'.l.length + 1) c5)=w6:=⟨_,rfl⟩
    rw [hw6] at hrow6 U6
    have hUD:Upd (ablk V2.Ad ++ ablk D'.A) (ablk V2.Ad ++ ablk A5) wr w6:=by
     have ua:Upd (ablk V2.Ad ++ ablk D'.A) (ablk V2.Ad ++ ablk A5) wr w5:=U5.mono (fun k hk=>List.mem_append.2 (.inr hk)) (fun k hk=>by
      rcases List.mem_append.1 hk with hk | hk
      ·exact .inr (.inl (List.mem_append.2 (.inl hk)))
      ·exact .inl hk)
     refine ua.trans (U6.mono (fun k hk=>List.mem_append.2 (.inl hk)) (fun k hk=>.inr (.inl hk)))
    obtain ⟨hw6a,-⟩:=h2.doneTurn (D':=⟨A5,c5,D'.l ++ [x]⟩) hd2 (by rw [List.map_set,show (⟨A5,c5,D'.l ++ [x]⟩:DnV).val= .slice A5 (D'.l.length + 1) c5 by simp [DnV.val]];exact hrow6)
     (by
      have:=ho5.upd U6 (fun k hk hm=>tag_ne (ho5.tag k hk) ((h2.drow.upd U5 hAdD).tag k hm) (by decide) rfl)
      simpa [Bsl.val] using this) (fun y hy=>by
      have hya:BytS wr y∧∀k∈ablk y.A,k∉V2.hot:=by
       rcases List.mem_append.1 hy with hy | hy
       ·exact ⟨h2.byt y (V2.byD (List.mem_of_getElem? hd2) hy),h2.cold y (V2.byD (List.mem_of_getElem? hd2) hy)⟩
       ·rw [List.mem_singleton] at hy;subst hy;exact ⟨hx2,hxh⟩
      refine ⟨hya.1.upd hUD (fun k hk hm=>?_),hya.2⟩
      rcases List.mem_append.1 hm with hm | hm
      ·exact tag_ne (hya.1.tag k hk) (h2.drow.tag k hm) (by decide) rfl
      ·exact tag_ne (hya.1.tag k hk) (hdo.tag k hm) (by decide) rfl) hUD
    have KEY:=Lib.hid (show KeptW (∃(j2:Nat) (D2:DnV),j2≤l1.length∧Value.int .i64 ((j:Int) + 1)= .int .i64 (j2:Int)∧WS w6 {V1 with dn:=V1.dn.set i D2}∧D2.l.map Bsl.b=D.l.map Bsl.b ++ (S.take j2).filter (fun v=>decide (v≠[]))∧D2.l.length≤4096 + j2∧Upd (ablk V1.Ad ++ ablk D.A) (ablk V1.Ad ++ ablk D2.A) w1 w6) from
     KeptW.mk ⟨j + 1,⟨A5,c5,D'.l ++ [x]⟩,by omega,by simp,by
      rw [←hV2] at hw6a
      simpa using hw6a,by
      rw [List.map_append,HB2.out,HTAKE.out,List.filter_append,←List.append_assoc]
      congr 1
      have:x.b≠[]:=fun e=>HX0.out (by rw [HXN.out,e];rfl)
      simp [this],by simp;omega,by rw [←hAd2];rw [←hAd2] at U2;exact U2.trans hUD⟩)
    obtain ⟨nD,hnD⟩:∃nD,V2.dn.length=nD:=⟨_,rfl⟩
    obtain ⟨dl,hdl⟩:∃dl,D'.l.length=dl:=⟨_,rfl⟩
    rw [hnD] at q2 q2a q2b q2c hin hcd
    rw [hdl] at qd qda qdb qdc hrun6 hw6
    unfold maxLen at hcd
    have hini:(i:Int) < (nD:Int):=by omega
    clear hw6a hUD hrow6 U6 hdo U5 ho5 hu5 hXb hgw5 hgd5 hgd hgd' hAdD hx2 hxh hxf h2 U2 hn2 hAd2 hg2 hd2 hh2 hV2 hnD hdl hl2 hrun5
    rw [←hw6] at KEY
    have q2a':(wr.alloc (.cells #[.slice x.A x.n x.c] 28)).drew.cell? ⟨V.gw,2,none⟩=some (.slice (some ⟨gd',0,none⟩) nD V2.cd):=q2a
    have qda':(wr.alloc (.cells #[.slice x.A x.n x.c] 28)).drew.cell? ⟨gd',i,none⟩=some (.slice D'.A dl D'.c):=qda
    have hrun7:(Builtin.append_ #[72,72] 72 #[.slice D'.A dl D'.c,.slice (some ⟨wr.heap.size,0,none⟩) 1 1]).run Tryz.prog (wr.alloc (.cells #[.slice x.A x.n x.c] 28)).drew= .ok (.slice A5 (dl + 1) c5) w5:=hrun6
    clear hw6 hrun6 q2a qda
    go_region_law (first
     | (refine step_run rfl (.tmp 37) (.tmp 39) 72 rfl (.slice D'.A dl D'.c) (.slice (some ⟨wr.heap.size,0,none⟩) 1 1) _ w5 rfl rfl hrun7 ?_))
    all_goals (repeat' ((fail_if_success (with_reducible refine stop_append rfl ?_));first | go_values | go_skip | go_guarded | go_step | go_upon | (simp only [];go_at_K)))
    all_goals exact ⟨KEY.out,by simp [intOf];omega⟩
  ·obtain rfl:j=l1.length:=by omega
   have hil:¬ ((l1.length:Int) < (l1.length:Int)):=by omega
   have hSt:S.take l1.length=S:=List.take_of_length_le (by rw [←HL1.out,List.length_map];exact Nat.le_refl _)
   have hb2:=HB2.out
   rw [hSt] at hb2
   have hp2:V2.pl=T:=by
    rw [HTK.out,←hb2]
    have e1:V2.pl= {V1.pl with done:=V1.pl.done.set i (D'.l.map Bsl.b)}:=by rw [←hV2];unfold WV.pl;simp [List.map_set]
    rw [e1,HP.out]
   have hU:Upd V1.fp V2.fp w1 wr:=by
    rw [←hV2]
    rw [←hV2] at h2
    refine (h1.doneTurn hD1 (by have:=h2.drow;simpa using this) (h2.dons D' (List.mem_of_getElem? (List.getElem?_set_self hdi1))) (fun y hy=>?_) U2).2
    have hm:=WV.byD (V:={V1 with dn:=V1.dn.set i D'}) (List.mem_of_getElem? (List.getElem?_set_self hdi1)) hy
    exact ⟨h2.byt y hm,h2.cold y hm⟩
   have hLB:∀y∈D'.l,BytS wr y∧y.b.length≤2048:=fun y hy=>⟨h2.byt y (V2.byD (List.mem_of_getElem? hd2) hy),HLen.out _ (by rw [←hb2];exact List.mem_map_of_mem hy)⟩
   have hLL:D'.l.length≤8192:=by omega
   have hin:i < V2.dn.length:=by rw [hn2];exact hdi1
   have hdo:=h2.dons D' (List.mem_of_getElem? hd2)
   obtain ⟨gd,hgd,qd⟩:=h2.doneAt hd2
   have q2:wr.cell? ⟨V.gw,2,none⟩=some (.slice (some ⟨gd,0,none⟩) V2.dn.length V2.cd):=by rw [←hgd,←hg2];exact h2.blk.cell 2
   have hcd:=h2.drow.cap
   unfold maxLen at hcd
   obtain ⟨nD,hnD⟩:∃nD,V2.dn.length=nD:=⟨_,rfl⟩
   rw [hnD] at q2 hin hcd
   have hini:(i:Int) < (nD:Int):=by omega
   unfold DnV.val at qd
   have FIN:=Lib.hid (show WS wr V2∧V2.pl=T∧V2.gw=V.gw∧Upd V.fp V2.fp w wr∧D'.l.map Bsl.b=D.l.map Bsl.b ++ S.filter (fun v=>decide (v≠[])) from ⟨h2,hp2,hg2,U1.trans hU,hb2⟩)
   have HLT2:=Lib.hid h2.lt
   have HSZ:=Lib.hid (show w.heap.size≤wr.heap.size from (U1.trans hU).size)
   clear hSt hb2 hp2 hU hnD hn2 hgd h2 U2 hV2 hd2 hAd2 hh2 hl2 HB2 HTK ho2
   obtain ⟨wo,hwo⟩:∃x,wr=x:=⟨_,rfl⟩
   rw [hwo] at hLB hdo qd q2 FIN HLT2 HSZ ⊢
   clear hwo
   obtain ⟨L,hL⟩:∃L,D'.l=L:=⟨_,rfl⟩
   rw [hL] at hLB hLL hdo qd FIN
   have hcapL:=hdo.cap
   repeat' (first|go_values|go_skip|go_guarded|go_step|go_upon|(simp only [];go_at_K))
   go_loopw [51,8] (fun v51 v8 wr=>KeptW (∃(j2:Nat) (A:Option Addr) (c:Nat) (l:List Bsl),j2≤L.length∧v51= .int .i64 (j2:Int)∧l.length=j2∧v8= .slice A l.length c∧OwnS wr A c l∧l.map Bsl.b=(L.take j2).map Bsl.b∧
    (∀k∈ablk A,wo.heap.size≤k)∧(∀x∈l,∀k∈ablk x.A,wo.heap.size≤k)∧Upd [] [] wo wr)) (fun v51 _ _=>L.length - (intOf v51).toNat)
   case atStart=>exact KeptW.mk ⟨0,none,0,[],by omega,rfl,rfl,rfl,⟨Agio.Own.nil _ _ _,by simp⟩,by simp,by simp [ablk],by simp,Upd.refl _ _⟩
   case round=>
    obtain ⟨j2,A,c,l,hj2,rfl,hll,rfl,ho,hlb,hA,hx,U⟩:=hrel.out
    clear hrel
    rw [hll]
    have HLL:=Lib.hid hll
    have HLB:=Lib.hid hlb
    clear hlb
    by_cases hlt2:j2 < L.length
    ·have hil2:(j2:Int) < (L.length:Int):=by omega
     have hw1:IntKind.i64.wrap ((j2:Int) + 1)=(j2:Int) + 1:=by rw [IntKind.wrap_i64];omega
     obtain ⟨gA,curA,hgA,hBA,-⟩:=hdo.block (by omega)
     have cA:wr.cell? ⟨gA,j2,none⟩=some L[j2].val:=U.cell (by rw [hBA.cell,List.getElem?_toArray,List.getElem?_append_left (by simpa using hlt2),List.getElem?_map,List.getElem?_eq_getElem hlt2];rfl) (by simp)
     obtain ⟨hyb,hyl⟩:=hLB _ (List.getElem_mem hlt2)
     have HTK:=Lib.hid (show (L.take (j2 + 1)).map Bsl.b=(L.take j2).map Bsl.b ++ [L[j2].b] by rw [List.take_succ_eq_append_getElem hlt2,List.map_append];rfl)
     obtain ⟨y,hy⟩:∃y,L[j2]=y:=⟨_,rfl⟩
     rw [hy] at cA hyb hyl HTK
     have CC:=bytesClone wr y.A y.n y.c y.b (hyb.upd0 U).rd (by omega)
     unfold Bsl.val at cA
     rw [hgA]
     clear hyb hyl hy hBA hll
     repeat' (first|go_values|go_skip|go_guarded|go_step|go_upon|(simp only [];go_at_K))
     ((with_reducible refine CC.mono ?_);rintro e w5 ⟨A4,n4,c4,rfl,ho4,hu4⟩)
     have U4:Upd [] [] wo w5:=U.trans (hu4.gives (b':=[]) (by simp))
     have hA4:=U.new hu4
     have hos:=ho.upd (hu4.gives (b':=[]) (by simp))
     have hoo:=hos.own
     rw [HLL.out] at hoo
     clear CC hu4 ho
     repeat' ((fail_if_success (with_reducible refine stop_append rfl ?_));first|go_values|go_skip|go_guarded|go_step|go_upon|(simp only [];go_at_K))
     refine wpList_push rfl _ _ 72 rfl 28 Tryz.underlying72 infoSl5 rfl (by decide) hoo rfl w5.heap.size rfl rfl (news:=[.slice A4 n4 c4]) rfl rfl (by unfold maxLen;omega) (by omega) ?_
     intro A6 c6 w6 ho6 hu6
     have U6:Upd [] [] wo w6:=U4.ownL hA hu6
     have hs4:=U4.size
     have hA6:∀k∈ablk A6,wo.heap.size≤k:=fun k hk=>by
      rcases hu6.fresh k hk with hh | hh
      ·exact hA k hh
      ·omega
     have hos6:=hos.push (x:=⟨A4,n4,c4,y.b⟩) ho4 (by rw [HLL.out];exact ho6) hu6
     clear hoo hos ho4 hu6 U4 hA ho6
     repeat' (first|go_values|go_skip|go_guarded|go_step|go_upon|(simp only [];go_at_K))
     refine ⟨KeptW.mk ⟨j2 + 1,A6,c6,l ++ [⟨A4,n4,c4,y.b⟩],by omega,by simp,by simp [HLL.out],by simp [HLL.out],hos6,?_,hA6,fun z hz k hk=>?_,U6⟩,by simp [intOf];omega⟩
     ·rw [HTK.out,List.map_append,HLB.out];rfl
     ·rcases List.mem_append.1 hz with hz | hz
      ·exact hx z hz k hk
      ·rw [List.mem_singleton] at hz;subst hz;exact hA4 k hk
    ·obtain rfl:j2=L.length:=by omega
     have hil2:¬ ((L.length:Int) < (L.length:Int)):=by omega
     have KEY:=Lib.hid (show ∃(A':Option Addr) (c':Nat) (l':List Bsl) (V':WV),Value.slice A L.length c= .slice A' l'.length c'∧l'.map Bsl.b=D.l.map Bsl.b ++ S.filter (fun v=>decide (v≠[]))∧OwnS wr A' c' l'∧
       (∀k∈ablk A',w.heap.size≤k∧k∉V'.fp)∧(∀x∈l',∀k∈ablk x.A,w.heap.size≤k∧k∉V'.fp)∧WS wr V'∧V'.pl=T∧V'.gw=V.gw∧Upd V.fp V'.fp w wr from by
      obtain ⟨f1,f2,f3,f4,f5⟩:=FIN.out
      have hz:=HSZ.out
      refine ⟨A,c,l,V2,by rw [HLL.out],?_,ho,fun k hk=>?_,fun x hxl k hk=>?_,f1.upd0 U,f2,f3,f4.trans (U.up _)⟩
      ·rw [HLB.out,List.take_length,f5]
      ·have:=hA k hk
       exact ⟨by omega,fun hm=>by have:=HLT2.out k hm;omega⟩
      ·have:=hx x hxl k hk
       exact ⟨by omega,fun hm=>by have:=HLT2.out k hm;omega⟩)
     clear ho hA hx U
     repeat' (first|go_values|go_skip|go_guarded|go_step|go_upon|(simp only [];go_at_K))
     go_ret
     obtain ⟨A',c',l',V',k1,k2⟩:=KEY.out
     exact ⟨A',c',l',V',by rw [←k1];rfl,k2⟩
end Go.Proofs.YtijhlbeipglieaaGreat
namespace Go.Proofs.YtijhlbeipglieaaGreat
open Go.RowKit Agio Go.Maps
theorem infoPS:(Tryz.prog.info? 24).map (fun i=>(i.zero,i.size,i.bytes))=some (some (.pointer none),1,8):=by kernel_rfl
theorem infoRR:(Tryz.prog.info? 72).map (fun i=>(i.zero,i.size,i.bytes))=some (some (.slice none 0 0),1,24):=by kernel_rfl
theorem run_makeRow (n:Nat) (hn:n≤7) (w:World):(Instr.makeSlice 102 (.int .i64 (n:Int)) (.int .i64 (n:Int))).run Tryz.prog w= .ok (.slice (some ⟨w.heap.size,0,none⟩) n n) (w.alloc (.cells (List.replicate n (.slice none 0 0)).toArray 72)):=by
 obtain ⟨i,hi,hz,hs,hb⟩:=info_parts infoRR
 have hr:=run_make (P:=Tryz.prog) w 102 72 i (.slice none 0 0) Tryz.underlying102 hi hz .i64 .i64 n n (by omega) (by omega) (by rw [hb];omega) (by omega)
 simp only [Int.toNat_natCast,hs,Nat.mul_one] at hr
 rw [hr]
 have e:madeCells (Value.cells (.slice none 0 0)) n=(List.replicate n (.slice none 0 0)).toArray:=by
  apply Array.ext'
  exact (toList_madeCells_one (.slice none 0 0) n).trans (by simp)
 rw [e]
theorem own_made {w:World} {g n:Nat} {t:TypeId} {z:Value} (hn:n≤7) (h:Blk w g t (Array.replicate n z)):Agio.Own t 1 w (some ⟨g,0,none⟩) n n (List.replicate n z):=
 Agio.Own.of_block (cur:=[]) (by simpa using h) (by simp) (by simp) (Nat.le_refl _) (by unfold maxLen;omega)
theorem SiteV.bytes_new {M:SiteV} {me n pat:Nat} (h:M.pl=Site.new me n pat):M.bytes= []:=by
 have h1:mapG Sta.pl M.st= []:=congrArg Site.st h
 have h2:mapG Bsl.b M.lv= []:=congrArg Site.lv h
 have h3:mapG RnV.pl M.rs= []:=congrArg Site.rs h
 have h4:M.held.map Mv.ms= []:=congrArg Site.held h
 unfold mapG at h1 h2 h3
 rw [List.map_eq_nil_iff] at h1 h2 h3 h4
 unfold SiteV.bytes
 rw [h1,h2,h3,h4]
 rfl
theorem WS.new {w:World} {gw gn n cs:Nat} {As Ad:Option Addr} {ss:List SiteV} (hB:Blk w gw 175 #[.slice As n cs,.pointer (some ⟨gn,0,none⟩),.slice Ad n n]) (hr:Agio.Own 24 1 w As n cs (ss.map SiteV.ptr)) (hn:NetS w gn none 0 0 [])
  (hd:Agio.Own 72 1 w Ad n n (List.replicate n (.slice none 0 0))) (hs:∀M∈ss,@SiteS ⟨[]⟩ w M∧M.bytes= []) (hf:ss.Pairwise fun p q=>∀k∈p.fp,k∉q.fp) (hl:ss.length=n) :
  WS w ⟨gw,As,cs,ss,gn,none,0,0,[],[],Ad,n,List.replicate n ⟨none,0,[]⟩⟩:=by
 subst hl
 have hby:∀x,x∉(⟨gw,As,cs,ss,gn,none,0,0,[],[],Ad,ss.length,List.replicate ss.length ⟨none,0,[]⟩⟩:WV).bytes:=fun x hx=>by
  rcases List.mem_append.1 hx with hx | hx
  ·obtain ⟨M,hM,hx⟩:=List.mem_flatMap.1 hx
   rw [(hs M hM).2] at hx;cases hx
  ·obtain ⟨d,hd,hx⟩:=List.mem_flatMap.1 hx
   rw [(List.mem_replicate.1 hd).2] at hx;cases hx
 exact ⟨by simpa [WV.cells] using hB,hr,hn,rfl,by simp,by simpa [DnV.val] using hd,by simp,fun M hM=>(hs M hM).1,hf,fun d hd=>by rw [(List.mem_replicate.1 hd).2];exact Agio.Own.nil _ _ _,
  List.pairwise_replicate.2 (.inr (by simp [ablk])),fun x hx=>absurd hx (hby x),fun x hx=>absurd hx (hby x),by simp [WV.pks]⟩
theorem worldNew (w:World) (n pat:Nat) (h:newOk 0 n pat=true) :
  Calls Tryz.prog 49 #[.int .i64 (n:Int),.int .i64 (pat:Int)] w fun e w'=>∃V:WV,e= .returned (.tuple #[V.ptr,.int .i64 0])∧WS w' V∧V.pl=Wd.new n pat∧(∀k∈V.fp,w.heap.size≤k)∧Upd [] V.fp w w':=by
 have h':=h
 simp only [newOk,Bool.and_eq_true,decide_eq_true_eq] at h'
 have C0:=@siteNew ⟨[]⟩ w 0 n pat h (by simp)
 have HOK:=Lib.hid (show ∀i,i < n→newOk (i:Int) n pat=true from fun i hi=>by simp only [newOk,Bool.and_eq_true,decide_eq_true_eq];omega)
 rw [show ((0:Nat):Int)=0 from rfl] at C0
 have hn3:3≤n:=by omega
 have hn7:n≤7:=by omega
 clear h h'
 go_enter Tryz.func49,Tryz.ntmps49
 repeat' (first|go_values|go_skip|go_guarded|go_step|go_upon|(simp only [];go_at_K))
 ((with_reducible refine C0.mono ?_);rintro e w1 ⟨M0,rfl,-,-,hu1⟩)
 have U1:Upd [] [] w w1:=hu1.gives (by simp)
 clear C0 hu1
 simp only [SiteV.ptr]
 repeat' (first|go_values|go_skip|go_guarded|go_step|go_upon|(simp only [];go_at_K))
 go_cut [8] from 21 (fun s8 wc=>KeptW (∃(gw gn:Nat) (Ad:Option Addr),s8= .pointer (some ⟨gw,0,none⟩)∧Blk wc gw 175 #[.slice none 0 0,.pointer (some ⟨gn,0,none⟩),.slice Ad n n]∧NetS wc gn none 0 0 []∧Agio.Own 72 1 wc Ad n n (List.replicate n (.slice none 0 0))∧
  (∀k∈ablk Ad ++ [gw,gn],w1.heap.size≤k)∧Upd [] [] w wc))
 case first=>
  have hmk:=run_makeRow n hn7
  clear hn3 HOK
  go_region_with (first | (go_at_call 106;(with_reducible refine (netNew _).mono ?_);rintro e w2 ⟨g,rfl,hN,hu⟩))
  all_goals (repeat' ((fail_if_success (with_reducible refine stop_append rfl ?_));first | go_values | go_skip | go_guarded | go_step | go_upon | (simp only [];go_at_K)))
  all_goals go_meet
  ·have hu':Upd [] [] w1 w2:=((Upd.refl [] w1).drew.trans hu).gives (by simp)
   have hz:=hu'.size
   have hg:=(Upd.refl [] w1.drew).new hu
   refine KeptW.mk ⟨w2.heap.size + 1,g,some ⟨w2.heap.size,0,none⟩,rfl,(show Blk _ (w2.heap.size + 1) _ _ from by rw [show w2.heap.size + 1=(w2.alloc (Obj.cells (Array.replicate n (Value.slice none 0 0)) 72)).heap.size by simp];exact Blk.new _ _ _),(hN.upd0 ((Upd.refl [] w2).alloc _)).upd0 ((Upd.refl [] _).alloc _),own_made hn7 ((Blk.new _ _ _).alloc _),fun k hk=>?_,(((U1.trans hu').alloc _).alloc _).gives (by simp)⟩
   simp only [ablk,List.mem_append,List.mem_cons,List.not_mem_nil,or_false] at hk
   have:=hg g (by simp [fpN])
   have e:w1.drew.heap.size=w1.heap.size:=rfl
   omega
  ·have hu0:Upd [] [] w1 (w1.alloc (Obj.cells (Array.replicate n (Value.slice none 0 0)) 72)).drew:=(((Upd.refl [] w1).alloc _).drew).gives (by simp)
   have hu':Upd [] [] w1 w2:=(hu0.trans hu).gives (by simp)
   have hz:=hu'.size
   have hg:=(hu0.new hu)
   refine KeptW.mk ⟨w2.heap.size,g,some ⟨w1.heap.size,0,none⟩,rfl,Blk.new _ _ _,hN.upd0 ((Upd.refl [] w2).alloc _),own_made hn7 ((((Blk.new w1 _ _).drew).upd hu (by simp)).alloc _),fun k hk=>?_,((U1.trans hu').alloc _).gives (by simp)⟩
   simp only [ablk,List.mem_append,List.mem_cons,List.not_mem_nil,or_false] at hk
   have:=hg g (by simp [fpN])
   omega
 case rest=>
  obtain ⟨gw,gn,Ad,rfl,hB,hN,hO,hF,U2⟩:=hcut.out
  clear hcut
  have HF:=Lib.hid (show ∀k∈ablk Ad ++ [gw,gn],w.heap.size≤k from fun k hk=>by have:=hF k hk;have:=U1.size;omega)
  obtain ⟨wo,hwo⟩:∃x,wc=x:=⟨_,rfl⟩
  rw [hwo] at hB hN hO U2 ⊢
  clear hwo hF U1
  repeat' (first|go_values|go_skip|go_guarded|go_step|go_upon|(simp only [];go_at_K))
  go_loopw [27] (fun v27 wr=>KeptW (∃(ss:List SiteV) (As:Option Addr) (cs:Nat),ss.length≤n∧v27= .int .i64 (ss.length:Int)∧Blk wr gw 175 #[.slice As ss.length cs,.pointer (some ⟨gn,0,none⟩),.slice Ad n n]∧
   Agio.Own 24 1 wr As ss.length cs (ss.map SiteV.ptr)∧(∀M∈ss,@SiteS ⟨[]⟩ wr M∧M.bytes= []∧∀k∈M.fp,w.heap.size≤k)∧(ss.Pairwise fun p q=>∀k∈p.fp,k∉q.fp)∧ss.map SiteV.pl=(List.range ss.length).map (fun j=>Site.new j n pat)∧
   (∀k∈ablk As,w.heap.size≤k)∧NetS wr gn none 0 0 []∧Agio.Own 72 1 wr Ad n n (List.replicate n (.slice none 0 0))∧Upd [] [] w wr)) (fun v27 _=>n - (intOf v27).toNat)
  case atStart=>exact KeptW.mk ⟨[],none,0,by simp,rfl,hB,Agio.Own.nil _ _ _,by simp,.nil,rfl,by simp [ablk],hN,hO,U2⟩
  case round=>
   obtain ⟨ss,As,cs,hle,rfl,hb,hr,hss,hpw,hpl,hAs,hn,hd,U⟩:=hrel.out
   clear hrel hB hN hO U2
   obtain ⟨i,hi⟩:∃i,ss.length=i:=⟨_,rfl⟩
   have HI:=Lib.hid hi
   rw [hi] at hle hb hr ⊢
   clear hi
   by_cases hlt:i < n
   ·have hil:(i:Int) < (n:Int):=by omega
    have hw1:IntKind.i64.wrap ((i:Int) + 1)=(i:Int) + 1:=by rw [IntKind.wrap_i64];omega
    have C:=@siteNew ⟨[]⟩ wr i n pat (HOK.out i hlt) (by simp)
    repeat' (first|go_values|go_skip|go_guarded|go_step|go_upon|(simp only [];go_at_K))
    ((with_reducible refine C.mono ?_);rintro e w5 ⟨M,rfl,hM,hMp,hu⟩)
    have hu0:Upd [] [] wr w5:=hu.gives (by simp)
    have hMf:=U.new hu
    have hMn:=(Upd.refl [] wr).new hu
    have hb5:=hb.upd hu0 (by simp)
    have hr5:=hr.upd hu0 (by simp)
    have hn5:=hn.upd0 hu0
    have hd5:=hd.upd hu0 (by simp)
    have hss5:∀N∈ss ++ [M],@SiteS ⟨[]⟩ w5 N∧N.bytes= []∧∀k∈N.fp,w.heap.size≤k:=fun N hN=>by
     rcases List.mem_append.1 hN with hN | hN
     ·obtain ⟨k1,k2,k3⟩:=hss N hN
      exact ⟨@SiteS.upd0 ⟨[]⟩ _ _ _ _ k1 hu0,k2,k3⟩
     ·rw [List.mem_singleton] at hN;subst hN
      exact ⟨hM,SiteV.bytes_new hMp,hMf⟩
    have hpw5:(ss ++ [M]).Pairwise fun p q=>∀k∈p.fp,k∉q.fp:=List.pairwise_append.2 ⟨hpw,List.pairwise_singleton _ _,fun p hp q hq k hk hm=>by
     rw [List.mem_singleton] at hq;subst hq
     have h1:=@SiteS.lt ⟨[]⟩ _ _ (hss p hp).1 k hk
     have h2:=hMn k hm
     omega⟩
    have hpl5:(ss ++ [M]).map SiteV.pl=(List.range (i + 1)).map (fun j=>Site.new j n pat):=by
     rw [List.map_append,hpl,List.range_succ,List.map_append,HI.out]
     simp [hMp]
    have U5:=U.trans hu0
    have q0:w5.cell? ⟨gw,0,none⟩=some (.slice As i cs):=hb5.cell 0
    have HPL:=Lib.hid hpl5
    clear C hb hr hn hd hss hpw hpl U hu hu0 hM hMp hMf hMn hpl5
    simp only [SiteV.ptr]
    repeat' ((fail_if_success (with_reducible refine stop_append rfl ?_));first|go_values|go_skip|go_guarded|go_step|go_upon|(simp only [];go_at_K))
    refine wpList_push rfl _ _ 172 rfl 24 Tryz.underlying172 infoPS rfl (by decide) hr5 rfl w5.heap.size rfl rfl (news:=[.pointer (some ⟨M.gs,0,none⟩)]) rfl rfl (by unfold maxLen;omega) (by omega) ?_
    intro A6 c6 w6 ho6 hu6
    have t1:∀{k:Nat} {t:Option TypeId},tagW w5 k=some t→t≠some 24→k∉ablk As:=fun h1 h2 hm=>tag_ne h1 (hr5.tag _ hm) h2 rfl
    have hgA:gw∉ablk As:=t1 hb5.tag (by decide)
    have hb6:=hb5.upd hu6 hgA
    have q6:w6.cell? ⟨gw,0,none⟩=some (.slice As i cs):=hb6.cell 0
    have f6:w6.frozen? ⟨gw,0,none⟩=false:=hb6.frozen 0
    have hb7:=hb6.set_ 0 (.slice A6 (i + 1) c6)
    have hu7:Upd [gw] [gw] w6 (w6.setCell ⟨gw,0,none⟩ (.slice A6 (i + 1) c6)):=(Upd.refl [gw] w6).setCell (p:=⟨gw,0,none⟩) (.inl (by simp)) _
    have U6:Upd [] [] w w6:=U5.ownL hAs hu6
    have U7:Upd [] [] w (w6.setCell ⟨gw,0,none⟩ (.slice A6 (i + 1) c6)):=U6.ownL (X:=[gw]) (by simp only [List.mem_singleton];rintro x rfl;exact HF.out x (by simp)) hu7
    have t2:∀{k:Nat} {t:Option TypeId},tagW w6 k=some t→t≠some 175→k∉[gw]:=fun h1 h2 hm=>by rw [List.mem_singleton] at hm;subst hm;exact tag_ne h1 hb6.tag h2 rfl
    have hA6:∀k∈ablk A6,w.heap.size≤k:=fun k hk=>by
     rcases hu6.fresh k hk with hh | hh
     ·exact hAs k hh
     ·have:=U5.size;omega
    have KEY:=Lib.hid (show KeptW (∃(ss:List SiteV) (As:Option Addr) (cs:Nat),ss.length≤n∧Value.int .i64 ((i:Int) + 1)= .int .i64 (ss.length:Int)∧Blk (w6.setCell ⟨gw,0,none⟩ (.slice A6 (i + 1) c6)) gw 175 #[.slice As ss.length cs,.pointer (some ⟨gn,0,none⟩),.slice Ad n n]∧
     Agio.Own 24 1 (w6.setCell ⟨gw,0,none⟩ (.slice A6 (i + 1) c6)) As ss.length cs (ss.map SiteV.ptr)∧(∀M∈ss,@SiteS ⟨[]⟩ (w6.setCell ⟨gw,0,none⟩ (.slice A6 (i + 1) c6)) M∧M.bytes= []∧∀k∈M.fp,w.heap.size≤k)∧(ss.Pairwise fun p q=>∀k∈p.fp,k∉q.fp)∧ss.map SiteV.pl=(List.range ss.length).map (fun j=>Site.new j n pat)∧
     (∀k∈ablk As,w.heap.size≤k)∧NetS (w6.setCell ⟨gw,0,none⟩ (.slice A6 (i + 1) c6)) gn none 0 0 []∧Agio.Own 72 1 (w6.setCell ⟨gw,0,none⟩ (.slice A6 (i + 1) c6)) Ad n n (List.replicate n (.slice none 0 0))∧Upd [] [] w (w6.setCell ⟨gw,0,none⟩ (.slice A6 (i + 1) c6))) from by
     have hsl:(ss ++ [M]).length=i + 1:=by rw [List.length_append,HI.out];rfl
     have e1:=hn5.upd hu6 (fun k hk=>by
      simp only [fpN,ablk,List.flatMap_nil,List.append_nil,List.mem_singleton] at hk
      subst hk
      exact t1 hn5.blk.tag (by decide))
     have e2:=hd5.upd hu6 (fun k hk=>t1 (hd5.tag k hk) (by decide))
     refine KeptW.mk ⟨ss ++ [M],A6,c6,by omega,by rw [hsl];rfl,by rw [hsl];simpa using hb7,?_,fun N hN=>?_,hpw5,by rw [hsl];exact HPL.out,hA6,e1.upd hu7 (fun k hk=>?_),e2.upd hu7 (fun k hk=>t2 (e2.tag k hk) (by decide)),U7⟩
     ·rw [hsl,List.map_append]
      exact ho6.upd hu7 (fun k hk=>t2 (ho6.tag k hk) (by decide))
     ·obtain ⟨k1,k2,k3⟩:=hss5 N hN
      have s1: @SiteS ⟨[]⟩ w6 N:=@SiteS.upd ⟨[]⟩ _ _ _ _ _ k1 hu6 (fun k hk=>by
       obtain ⟨t,ht,h2⟩:=@SiteS.tagIn ⟨[]⟩ _ _ k1 k hk
       exact t1 h2 (by rintro rfl;exact absurd ht (by decide))) (by rw [k2];simp)
      exact ⟨@SiteS.upd ⟨[]⟩ _ _ _ _ _ s1 hu7 (fun k hk=>by
       obtain ⟨t,ht,h2⟩:=@SiteS.tagIn ⟨[]⟩ _ _ s1 k hk
       exact t2 h2 (by rintro rfl;exact absurd ht (by decide))) (by rw [k2];simp),k2,k3⟩
     ·simp only [fpN,ablk,List.flatMap_nil,List.append_nil,List.mem_singleton] at hk
      subst hk
      exact t2 e1.blk.tag (by decide))
    clear hb5 hr5 hn5 hd5 hss5 hpw5 U5 t1 hgA hb6 hb7 hu7 U6 U7 t2 hA6 ho6 hu6 q0
    repeat' (first|go_values|go_skip|go_guarded|go_step|go_upon|(simp only [];go_at_K))
    exact ⟨KEY.out,by simp [intOf];omega⟩
   ·obtain rfl:i=n:=by omega
    have hil:¬ ((i:Int) < (i:Int)):=by omega
    have KEY:=Lib.hid (show ∃V:WV,V.gw=gw∧WS wr V∧V.pl=Wd.new i pat∧(∀k∈V.fp,w.heap.size≤k)∧Upd [] V.fp w wr from by
     have hfr:∀k∈(⟨gw,As,cs,ss,gn,none,0,0,[],[],Ad,i,List.replicate i ⟨none,0,[]⟩⟩:WV).fp,w.heap.size≤k:=fun k hk=>by
      simp only [WV.fp,fpN,ablk,List.mem_append,List.mem_cons,List.not_mem_nil,List.flatMap_nil,List.append_nil,or_false,List.mem_flatMap] at hk
      rcases hk with hk | rfl | ⟨M,hM,hk⟩ | ⟨d,hd,hk⟩
      ·exact HF.out k (List.mem_append.2 (.inl hk))
      ·exact HF.out _ (by simp)
      ·exact (hss M hM).2.2 k hk
      ·rw [(List.mem_replicate.1 hd).2] at hk;cases hk
     refine ⟨_,rfl,WS.new hb hr hn hd (fun M hM=>⟨(hss M hM).1,(hss M hM).2.1⟩) hpw HI.out,?_,hfr,U.gives fun k hk=>.inr (hfr k hk)⟩
     unfold WV.pl Wd.new
     rw [hpl,HI.out]
     simp)
    clear hb hr hn hd hss hpw hpl U
    repeat' (first|go_values|go_skip|go_guarded|go_step|go_upon|(simp only [];go_at_K))
    go_ret2
    obtain ⟨V,e,k1,k2,k3,k4⟩:=KEY.out
    exact ⟨V,by rw [WV.ptr,e];rfl,k1,k2,k3,k4⟩
end Go.Proofs.YtijhlbeipglieaaGreat
