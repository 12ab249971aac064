/- Merged: SiteQ, SiteS2, SiteT, DecS, AwakeS, SiteNil. -/
import Derived.Lib.SlBytesConst
import Derived.Test.YtijhlbeipglieaaGreatPkSiteRe
set_option linter.all false
set_option maxRecDepth 100000
set_option maxHeartbeats 4000000
namespace Go.Proofs.YtijhlbeipglieaaGreat
open Go.RowKit Agio Go.Maps
def Folds (Q:Site→Ms→Prop):Site→List Ms→Prop
 | _,[]=>True
 | s,m :: l=>Q s m∧Folds Q (s.take m) l
theorem Folds.at_ {Q:Site→Ms→Prop} :∀{s:Site} {l1 l2:List Ms} {m:Ms},Folds Q s (l1 ++ m :: l2)→Q (l1.foldl Site.take s) m
 | _,[],_,_,h=>h.1
 | _,_ :: l1,_,_,h=>Folds.at_ (l1:=l1) h.2
theorem filt_take {p:Mv→Bool} {l:List Mv} {i:Nat} (h:i < l.length):(l.take (i + 1)).filter p=(l.take i).filter p ++ (if p l[i] then [l[i]] else []):=by
 rw [List.take_succ_eq_append_getElem h,List.filter_append]
 congr 1
 by_cases e:p l[i]=true <;> simp [e]
variable [Ban]
def TakeC (Q:Site→Ms→Prop):Prop:=∀(w:World) (M:SiteV) (m:Mv),SiteS w M→Q M.pl m.ms→m.ms.May→BytS w m.sl→(∀k∈ablk m.A,k∉M.fp)→(∀k∈ablk m.A,k∉(Ban.X:List Nat))→
 Calls Tryz.prog 66 #[M.ptr,m.val] w fun e w'=>e= .returned (.tuple #[])∧Gone w w' M (M.pl.take m.ms)
section
variable {w:World} {M:SiteV}
theorem SiteS.AhFar (h:SiteS w M):∀k∈ablk M.Ah,k∉({M with Ah:=none,ch:=0,held:=[]} :SiteV).fp:=by
 intro k hk hm
 have ht:=h.tH k hk
 simp only [SiteV.fp,RnV.fp,ablk,List.mem_append,List.mem_cons,List.not_mem_nil,or_false,false_or,List.mem_flatMap] at hm
 rcases hm with (rfl | rfl | rfl | rfl | rfl | rfl | rfl) | hm | ⟨p,hp,rfl | hm | hm⟩
 ·exact tag_ne ht h.tg (by decide) rfl
 ·exact tag_ne ht h.td (by decide) rfl
 ·exact tag_ne ht h.ts (by decide) rfl
 ·exact tag_ne ht h.tl (by decide) rfl
 ·exact tag_ne ht h.tb (by decide) rfl
 ·exact tag_ne ht h.tr (by decide) rfl
 ·exact tag_ne ht h.tw (by decide) rfl
 ·exact tag_ne ht (h.tA k hm) (by decide) rfl
 ·exact tag_ne ht (h.rds p hp).tg (by decide) rfl
 ·exact tag_ne ht ((h.rds p hp).tP k hm) (by decide) rfl
 ·exact tag_ne ht ((h.rds p hp).tV k hm) (by decide) rfl
theorem SiteS.unheld (h:SiteS w M):SiteS (w.setCell ⟨M.gs,11,none⟩ (.slice none 0 0)) {M with Ah:=none,ch:=0,held:=[]}∧
  Upd M.fp ({M with Ah:=none,ch:=0,held:=[]} :SiteV).fp w (w.setCell ⟨M.gs,11,none⟩ (.slice none 0 0))∧
  RdS Mv.cells 10 (w.setCell ⟨M.gs,11,none⟩ (.slice none 0 0)) M.Ah M.held.length M.held∧
  ∀x∈M.held,BytS (w.setCell ⟨M.gs,11,none⟩ (.slice none 0 0)) x.sl∧∀k∈ablk x.A,k∉({M with Ah:=none,ch:=0,held:=[]} :SiteV).fp:=by
 have u2:Upd [M.gs] [M.gs] w (w.setCell ⟨M.gs,11,none⟩ (.slice none 0 0)):=(Upd.refl [M.gs] w).setCell (p:=⟨M.gs,11,none⟩) (.inl (by simp)) _
 have hB:=h.blk.set_ 11 (.slice none 0 0)
 have hX:∀k∈[M.gs],tagW w k=some (some 124):=by simp only [List.mem_singleton];rintro k rfl;exact h.tg
 obtain ⟨h2,U2⟩:=h.hold (A':=none) (c':=0) (l':=[]) (w1:=w) ((Upd.refl (ablk M.Ah) w).gives (by simp [ablk])) (Own.nil _ _ _) (by simp) u2 (by simpa [SiteV.cells] using hB) (h.ok.put (l:=[]) (by simp))
 refine ⟨h2,U2,⟨rfl,h.hld.rd.upd u2 (tag_offs h.tH hX (by decide))⟩,fun x hx=>?_⟩
 have hm:x.sl∈M.bytes:=by simp only [SiteV.bytes,List.mem_append];exact .inr (.inr (.inr (List.mem_map_of_mem hx)))
 refine ⟨(h.byt _ hm).upd u2 (tag_offs (h.byt _ hm).tag hX (by decide)),fun k hk hn=>h.bytFar hm k hk ?_⟩
 simp only [SiteV.fp,ablk,List.mem_append] at hn ⊢
 rcases hn with hn | hn | hn | hn
 ·exact .inl hn
 ·exact .inr (.inl hn)
 ·cases hn
 ·exact .inr (.inr (.inr hn))
end
theorem siteSync (Q:Site→Ms→Prop) (T:TakeC Q) (w:World) (M:SiteV) (h:SiteS w M) (hd:M.down=false) (hl:M.held.length≤1000000000)
  (hQ:Folds Q {M.pl with dn:=M.db.length,held:=[]} (M.pl.held.filter fun m=>decide (m.to=(M.me:Int)))) :
  Calls Tryz.prog 21 #[M.ptr] w fun e w'=>∃(A:Option Addr) (c:Nat) (told:List Mv) (M':SiteV),e= .returned (.slice A told.length c)∧told.map Mv.ms=M.pl.sync.2∧Agio.Own 32 10 w' A told.length c (told.flatMap Mv.cells)∧
   (∀k∈ablk A,w.heap.size≤k∧k∉M'.fp)∧(∀x∈told,BytS w' x.sl∧∀k∈ablk x.A,k∉M'.fp∧k∉(Ban.X:List Nat))∧SiteS w' M'∧M'.pl=M.pl.sync.1∧M'.gs=M.gs∧Upd M.fp M'.fp w w':=by
 have C0:=siteDown w M h
 rw [show M.pl.down=false from hd,SiteV.ptr] at C0
 have C1:=diskSync w M.gd M.Ad M.db.length M.cd M.db M.dn h.dsk
 have q4:w.cell? ⟨M.gs,4,none⟩=some (.pointer (some ⟨M.gd,0,none⟩)):=h.blk.cell 4
 have HS2:=Lib.hid (show M.pl.sync.2=(M.held.filter fun m=>decide (m.t≠(M.me:Int))).map Mv.ms by
  unfold Site.sync
  rw [if_neg (by rw [show M.pl.down=false from hd];simp)]
  show (M.held.map Mv.ms).filter _=_
  rw [List.filter_map];rfl)
 have HS1:=Lib.hid (show M.pl.sync.1=((M.held.filter fun m=>decide (m.t=(M.me:Int))).map Mv.ms).foldl Site.take {M.pl with dn:=M.db.length,held:=[]} by
  unfold Site.sync
  rw [if_neg (by rw [show M.pl.down=false from hd];simp)]
  show List.foldl _ _ ((M.held.map Mv.ms).filter _)=_
  rw [List.filter_map];rfl)
 have HQ:=Lib.hid (show Folds Q {M.pl with dn:=M.db.length,held:=[]} ((M.held.filter fun m=>decide (m.t=(M.me:Int))).map Mv.ms) by
  have:M.pl.held.filter (fun m=>decide (m.to=(M.me:Int)))=(M.held.filter fun m=>decide (m.t=(M.me:Int))).map Mv.ms:=by
   show (M.held.map Mv.ms).filter _=_
   rw [List.filter_map];rfl
  rw [←this];exact hQ)
 obtain ⟨R1,hR1⟩:∃R,M.pl.sync.1=R:=⟨_,rfl⟩
 obtain ⟨R2,hR2⟩:∃R,M.pl.sync.2=R:=⟨_,rfl⟩
 rw [hR1] at HS1 ⊢
 rw [hR2] at HS2 ⊢
 clear hR1 hR2 hQ
 rw [SiteV.ptr]
 go_enter Tryz.func21,Tryz.ntmps21
 repeat' (first|go_values|go_skip|go_guarded|go_step|go_upon|(simp only [];go_at_K))
 ((with_reducible refine C0.mono ?_);rintro e w1 ⟨rfl,rfl⟩)
 repeat' (first|go_values|go_skip|go_guarded|go_step|go_upon|(simp only [];go_at_K))
 ((with_reducible refine C1.mono ?_);rintro e w1 ⟨rfl,hD1,hu1⟩)
 obtain ⟨h1,V1⟩:=h.disk (A':=M.Ad) (c':=M.cd) (db':=M.db) (dn':=M.db.length) (hu1.mono (by simp) (fun k hk=>.inr (.inl hk))) hD1 (h.ok.disk _ _)
 obtain ⟨h2,V2,hR,hBy⟩:=h1.unheld
 have hAf:=h1.AhFar
 have hBN:∀x∈M.held,∀k∈ablk x.A,k∉(Ban.X:List Nat):=fun x hx k hk hm=>h.bad x.sl (by simp only [SiteV.bytes,List.mem_append];exact .inr (.inr (.inr (List.mem_map_of_mem hx)))) k hk (SiteV.isBan hm)
 have q11:w1.cell? ⟨M.gs,11,none⟩=some (.slice M.Ah M.held.length M.ch):=h1.blk.cell 11
 have f11:w1.frozen? ⟨M.gs,11,none⟩=false:=h1.blk.frozen 11
 have hMay:∀x∈M.held,x.ms.May:=fun x hx=>h.ok.held _ (List.mem_map_of_mem hx)
 obtain ⟨M2,hM2⟩:∃M2:SiteV,{M with dn:=M.db.length,Ah:=none,ch:=0,held:=[]} =M2:=⟨_,rfl⟩
 obtain ⟨l,hl0⟩:∃l,M.held=l:=⟨_,rfl⟩
 simp only [hM2,hl0] at h2 V2 hBy hAf hR
 rw [hl0] at hBN
 have hp2:M2.pl= {M.pl with dn:=M.db.length,held:=[]}:=by rw [←hM2];rfl
 have hg2:M2.gs=M.gs:=by rw [←hM2]
 have hme2:M2.me=M.me:=by rw [←hM2]
 rw [←hp2] at HS1 HQ
 rw [hl0] at HS1 HS2 HQ q11 hl hMay
 have VV:=V1.trans V2
 have hAl0:=h1.hld.lt
 obtain ⟨Ah,hAh⟩:∃A,M.Ah=A:=⟨_,rfl⟩
 simp only [hAh] at hAl0 hAf hR q11
 have s1:=hu1.size
 clear C0 C1 hD1 hu1 h1 V1 V2 h hl0 hM2 hAh q4 hp2 hd
 repeat' (first|go_values|go_skip|go_guarded|go_step|go_upon|(simp only [];go_at_K))
 have q0':∀(wx:World) (b:List Nat),Upd [] b (w1.setCell ⟨M.gs,11,none⟩ (.slice none 0 0)) wx→wx.cell? ⟨M.gs,0,none⟩=some (.int .i64 (M.me:Int)):=fun wx b u=>by
  have:=(h2.upd0 u).blk.cell 0
  rw [hg2] at this;rw [this,←hme2];rfl
 obtain ⟨w2,hw2⟩:∃w2,w1.setCell ⟨M.gs,11,none⟩ (.slice none 0 0)=w2:=⟨_,rfl⟩
 rw [hw2] at h2 VV hBy hR q0' ⊢
 have s2:w1.heap.size≤w2.heap.size:=by rw [←hw2];simp [World.setCell]
 clear hw2 q11 f11
 go_loopw [4,27] (fun v4 v27 wr=>∃(i:Nat) (A1:Option Addr) (c1:Nat),i≤l.length∧v27= .int .i64 (i:Int)∧v4= .slice A1 ((l.take i).filter fun m=>decide (m.t≠(M.me:Int))).length c1∧
   Agio.Own 32 10 wr A1 ((l.take i).filter fun m=>decide (m.t≠(M.me:Int))).length c1 (((l.take i).filter fun m=>decide (m.t≠(M.me:Int))).flatMap Mv.cells)∧Upd [] (ablk A1) w2 wr)
  (fun _ v27 _=>l.length - (intOf v27).toNat)
 case atStart=>exact ⟨0,none,0,by omega,rfl,rfl,Own.nil _ _ _,Upd.refl _ _⟩
 case round=>
  obtain ⟨i,A1,c1,hi,rfl,rfl,ho,U⟩:=hrel
  by_cases hlt:i < l.length
  ·have hil:(i:Int) < (l.length:Int):=by omega
   have hw1:IntKind.i64.wrap ((i:Int) + 1)=(i:Int) + 1:=by rw [IntKind.wrap_i64];omega
   have hvr:=hR.upd0 U
   obtain ⟨ad,rfl,h0,hj⟩:=RdS.at_ (f:=Mv.cells) (s:=10) (fun _=>rfl) hvr hlt
   have HT:=Lib.hid (filt_take (p:=fun m=>decide (m.t≠(M.me:Int))) hlt)
   have hln:((l.take i).filter fun m=>decide (m.t≠(M.me:Int))).length≤i:=Nat.le_trans (List.length_filter_le _ _) (by rw [List.length_take];omega)
   generalize l[i]=y at *
   have d0:=h0 _ rfl
   have d1:=hj 1 _ (by omega) rfl
   have d2:=hj 2 _ (by omega) rfl
   have d3:=hj 3 _ (by omega) rfl
   have d4:=hj 4 _ (by omega) rfl
   have d5:=hj 5 _ (by omega) rfl
   have d6:=hj 6 _ (by omega) rfl
   have d7:=hj 7 _ (by omega) rfl
   have d8:=hj 8 _ (by omega) rfl
   have d9:=hj 9 _ (by omega) rfl
   clear h0 hj hvr
   obtain ⟨W2,G,eW2,hG,hB2,U2⟩:=boxes1 wr 32 #[.int .i64 y.k,.int .i64 y.f,.int .i64 y.t,.int .i64 y.s,.int .i64 y.br,.int .i64 y.bs,.int .i64 y.hr,.int .i64 y.hs,.bool y.so,.slice y.A y.n y.c]
   have ho2:=ho.upd U2 (by simp)
   have U02:=U.trans (U2.up _)
   have p0:=fun N=>q0' (W2.drewN N) (ablk A1) (U02.drewN N)
   have b2:=fun N=>(hB2.drewN N).cell 2
   obtain ⟨X,hX⟩:∃X,(l.take i).filter (fun m=>decide (m.t≠(M.me:Int)))=X:=⟨_,rfl⟩
   rw [hX] at ho2 hln HT ⊢
   clear ho
   by_cases he:y.t=(M.me:Int)
   ·have dt:(y.t == (M.me:Int))=true:=by rw [he];exact beq_self_eq_true _
    have HE:=Lib.hid he
    clear he
    repeat' (first|go_values|go_skip|go_guarded|go_step|go_upon|(simp only [];go_at_K))
    go_quiet (fail)
    repeat' (first|go_values|go_skip|go_guarded|go_step|go_upon|(simp only [];go_at_K))
    have hF:(l.take (i + 1)).filter (fun m=>decide (m.t≠(M.me:Int)))=X:=by rw [HT.out,if_neg (by simpa using HE.out),List.append_nil]
    exact ⟨⟨i + 1,A1,c1,by omega,by simp,by rw [hF],by rw [hF];exact ho2.drewN _,U02.drewN _⟩,by simp [intOf];omega⟩
   ·have dt:(y.t == (M.me:Int))=false:=beq_false_of_ne he
    have HE:=Lib.hid he
    clear he
    repeat' (first|go_values|go_skip|go_guarded|go_step|go_upon|(simp only [];go_at_K))
    go_quiet (fail)
    obtain ⟨⟨g0,g1,g2,g3,g4,g5,g6,g7,g8,g9⟩,-⟩:=(hB2.drewN nq).c10
    have ho3:=ho2.drewN nq
    repeat' ((fail_if_success (with_reducible refine stop_append rfl ?_));first|go_values|go_skip|go_guarded|go_step|go_upon|(simp only [];go_at_K))
    refine wpList_push rfl _ _ 26 rfl 32 Tryz.underlying26 infoMsg rfl (by decide) ho3 rfl (W2.drewN nq).heap.size rfl (news:=y.cells) rfl rfl rfl (by unfold maxLen;omega) (by omega) ?_
    intro A3 c3 w3 ho4 hu4
    have U03:=(U02.drewN nq).trans hu4
    clear ho2 ho3 hB2 U2 U02 U hu4 p0 b2 g0 g1 g2 g3 g4 g5 g6 g7 g8 g9
    repeat' (first|go_values|go_skip|go_guarded|go_step|go_upon|(simp only [];go_at_K))
    have hF:(l.take (i + 1)).filter (fun m=>decide (m.t≠(M.me:Int)))=X ++ [y]:=by rw [HT.out,if_pos (by simpa using HE.out)]
    exact ⟨⟨i + 1,A3,c3,by omega,by simp,by rw [hF];simp,by rw [hF];simpa using ho4,U03⟩,by simp [intOf];omega⟩
  ·obtain rfl:i=l.length:=by omega
   have hil:¬ ((l.length:Int) < (l.length:Int)):=by omega
   rw [List.take_length] at ho
   obtain ⟨told,htold⟩:∃t,l.filter (fun m=>decide (m.t≠(M.me:Int)))=t:=⟨_,rfl⟩
   rw [List.take_length,htold]
   rw [htold] at ho HS2
   have hin:∀x∈told,x∈l:=fun x hx=>by rw [←htold] at hx;exact (List.mem_filter.1 hx).1
   clear htold
   obtain ⟨wa,hwa⟩:∃x,wr=x:=⟨_,rfl⟩
   have h3:=h2.upd0 U
   have hR3:=hR.upd0 U
   have hBy3:∀x∈l,BytS wr x.sl:=fun x hx=>(hBy x hx).1.upd0 U
   have hA1:∀k∈ablk A1,w2.heap.size≤k:=(Upd.refl [] w2).new U
   have hA1l:=ho.lt
   have VV3:=VV.trans (U.up M2.fp)
   have hf2:=h2.lt
   rw [hwa] at h3 hR3 hBy3 ho VV3 hA1l ⊢
   have hAl:∀k∈ablk Ah,k < w2.heap.size:=fun k hk=>by have:=hAl0 k hk;omega
   clear hwa U hR h2
   repeat' (first|go_values|go_skip|go_guarded|go_step|go_upon|(simp only [];go_at_K))
   go_loopw [45] (fun v45 wr=>∃(i:Nat) (M3:SiteV),i≤l.length∧v45= .int .i64 (i:Int)∧SiteS wr M3∧M3.pl=(((l.take i).filter fun m=>decide (m.t=(M.me:Int))).map Mv.ms).foldl Site.take M2.pl∧M3.gs=M.gs∧Upd M2.fp M3.fp wa wr) (fun v45 _=>l.length - (intOf v45).toNat)
   case atStart=>exact ⟨0,M2,by omega,rfl,h3,rfl,hg2,Upd.refl _ _⟩
   case round=>
    obtain ⟨i,M3,hi,rfl,h4,hp4,hg4,U4⟩:=hrel
    have HP4:=Lib.hid hp4
    by_cases hlt:i < l.length
    ·have hil:(i:Int) < (l.length:Int):=by omega
     have hw1:IntKind.i64.wrap ((i:Int) + 1)=(i:Int) + 1:=by rw [IntKind.wrap_i64];omega
     have hvr:=hR3.upd U4 hAf
     obtain ⟨ad,rfl,h0,hj⟩:=RdS.at_ (f:=Mv.cells) (s:=10) (fun _=>rfl) hvr hlt
     have hyl:l[i]∈l:=List.getElem_mem hlt
     have HT:=Lib.hid (filt_take (p:=fun m=>decide (m.t=(M.me:Int))) hlt)
     have hqq:l[i].t=(M.me:Int)→Q M3.pl l[i].ms:=fun he=>by
      have hsplit:l.filter (fun m=>decide (m.t=(M.me:Int)))=(l.take i).filter (fun m=>decide (m.t=(M.me:Int))) ++ l[i] :: (l.drop (i + 1)).filter (fun m=>decide (m.t=(M.me:Int))):=by
       conv=>lhs;rw [←List.take_append_drop i l,List.drop_eq_getElem_cons hlt]
       rw [List.filter_append,List.filter_cons,if_pos (by simpa using he)]
      have hq:=HQ.out
      rw [hsplit,List.map_append,List.map_cons] at hq
      rw [hp4]
      exact hq.at_
     have hby4:=(hBy3 _ hyl).upd U4 (hBy _ hyl).2
     have hban4:∀k∈ablk l[i].A,k∉(Ban.X:List Nat):=hBN _ hyl
     have hfar4:∀k∈ablk l[i].A,k∉M3.fp:=fun k hk=>U4.notin ((hBy _ hyl).2 k hk) (tag_lt ((hBy3 _ hyl).tag k hk))
     have hmy:=hMay _ hyl
     have q0:wr.cell? ⟨M.gs,0,none⟩=some (.int .i64 (M.me:Int)):=by
      have:=h4.blk.cell 0
      rw [hg4] at this
      rw [this]
      have e1:M3.me=M2.me:=by
       have:=congrArg Site.me hp4
       rw [(Site.kin_takes _ _).me] at this
       exact this
      rw [←hme2,←e1];rfl
     generalize l[i]=y at *
     have d0:=h0 _ rfl
     have d1:=hj 1 _ (by omega) rfl
     have d2:=hj 2 _ (by omega) rfl
     have d3:=hj 3 _ (by omega) rfl
     have d4:=hj 4 _ (by omega) rfl
     have d5:=hj 5 _ (by omega) rfl
     have d6:=hj 6 _ (by omega) rfl
     have d7:=hj 7 _ (by omega) rfl
     have d8:=hj 8 _ (by omega) rfl
     have d9:=hj 9 _ (by omega) rfl
     clear h0 hj hvr hp4
     obtain ⟨W2,G,eW2,hG,hB2,U2⟩:=boxes1 wr 32 #[.int .i64 y.k,.int .i64 y.f,.int .i64 y.t,.int .i64 y.s,.int .i64 y.br,.int .i64 y.bs,.int .i64 y.hr,.int .i64 y.hs,.bool y.so,.slice y.A y.n y.c]
     have U2':=U2.gives (b':=[]) (by simp)
     have p0:=fun N=>(U2'.drewN N).cell q0 (by simp)
     have b2:=fun N=>(hB2.drewN N).cell 2
     obtain ⟨X,hX⟩:∃X,(l.take i).filter (fun m=>decide (m.t=(M.me:Int)))=X:=⟨_,rfl⟩
     rw [hX] at HT HP4
     clear hX
     by_cases he:y.t=(M.me:Int)
     ·have dt:(y.t == (M.me:Int))=true:=by rw [he];exact beq_self_eq_true _
      have hq:=hqq he
      have HE:=Lib.hid he
      clear he hqq
      repeat' (first|go_values|go_skip|go_guarded|go_step|go_upon|(simp only [];go_at_K))
      go_quiet (fail)
      obtain ⟨⟨g0,g1,g2,g3,g4,g5,g6,g7,g8,g9⟩,-⟩:=(hB2.drewN nq).c10
      have U5:=U2'.drewN nq
      have C:=T (W2.drewN nq) M3 y (h4.upd0 U5) hq hmy (hby4.upd0 U5) hfar4 hban4
      rw [Mv.val_eq,SiteV.ptr,hg4] at C
      repeat' (first|go_values|go_skip|go_guarded|go_step|go_upon|(simp only [];go_at_K))
      ((with_reducible refine C.mono ?_);rintro e w6 ⟨rfl,M6,h6,hp6,hg6,U6⟩)
      repeat' (first|go_values|go_skip|go_guarded|go_step|go_upon|(simp only [];go_at_K))
      have hF:(l.take (i + 1)).filter (fun m=>decide (m.t=(M.me:Int)))=X ++ [y]:=by rw [HT.out,if_pos (by simpa using HE.out)]
      exact ⟨⟨i + 1,M6,by omega,by simp,h6,by rw [hF,hp6,HP4.out];simp,hg6.trans hg4,(U4.trans (U5.up _)).trans U6⟩,by simp [intOf];omega⟩
     ·have dt:(y.t == (M.me:Int))=false:=beq_false_of_ne he
      have HE:=Lib.hid he
      clear he hqq
      repeat' (first|go_values|go_skip|go_guarded|go_step|go_upon|(simp only [];go_at_K))
      go_quiet (fail)
      repeat' (first|go_values|go_skip|go_guarded|go_step|go_upon|(simp only [];go_at_K))
      have hF:(l.take (i + 1)).filter (fun m=>decide (m.t=(M.me:Int)))=X:=by rw [HT.out,if_neg (by simpa using HE.out),List.append_nil]
      exact ⟨⟨i + 1,M3,by omega,by simp,h4.upd0 (U2'.drewN _),by rw [hF,HP4.out],hg4,U4.trans ((U2'.drewN _).up _)⟩,by simp [intOf];omega⟩
    ·obtain rfl:i=l.length:=by omega
     have hil:¬ ((l.length:Int) < (l.length:Int)):=by omega
     have KEY:=Lib.hid (show told.map Mv.ms=R2∧Agio.Own 32 10 wr A1 told.length c1 (told.flatMap Mv.cells)∧(∀k∈ablk A1,w.heap.size≤k∧k∉M3.fp)∧(∀x∈told,BytS wr x.sl∧∀k∈ablk x.A,k∉M3.fp∧k∉(Ban.X:List Nat))∧SiteS wr M3∧M3.pl=R1∧M3.gs=M.gs∧Upd M.fp M3.fp w wr from by
      have hA1f:∀k∈ablk A1,k∉M2.fp:=fun k hk hm=>by have h7:=hA1 k hk;have h8:=hf2 k hm;omega
      refine ⟨HS2.out.symm,ho.upd U4 hA1f,fun k hk=>⟨by have:=hA1 k hk;omega,U4.notin (hA1f k hk) (hA1l k hk)⟩,fun x hx=>⟨(hBy3 x (hin x hx)).upd U4 (hBy x (hin x hx)).2,fun k hk=>⟨U4.notin ((hBy x (hin x hx)).2 k hk) (tag_lt ((hBy3 x (hin x hx)).tag k hk)),hBN x (hin x hx) k hk⟩⟩,h4,?_,hg4,VV3.trans U4⟩
      rw [hp4,List.take_length,HS1.out])
     clear hp4 h4 U4 ho
     repeat' (first|go_values|go_skip|go_guarded|go_step|go_upon|(simp only [];go_at_K))
     go_ret
     obtain ⟨z1,z2,z3,z4,z5,z6,z7,z8⟩:=KEY.out
     exact ⟨A1,c1,told,M3,rfl,z1,z2,z3,z4,z5,z6,z7,z8⟩
end Go.Proofs.YtijhlbeipglieaaGreat
namespace Go.Proofs.YtijhlbeipglieaaGreat
open Go.RowKit Agio Go.Maps
variable [Ban]
theorem siteSyncD (w:World) (M:SiteV) (h:SiteS w M) (hd:M.down=true) :
  Calls Tryz.prog 21 #[M.ptr] w fun e w'=>e= .returned (.slice none 0 0)∧w=w':=by
 have C0:=siteDown w M h
 rw [show M.pl.down=true from hd,SiteV.ptr] at C0
 rw [SiteV.ptr]
 clear h
 go_enter Tryz.func21,Tryz.ntmps21
 repeat' (first|go_values|go_skip|go_guarded|go_step|go_upon|(simp only [];go_at_K))
 ((with_reducible refine C0.mono ?_);rintro e w1 ⟨rfl,rfl⟩)
 repeat' (first|go_values|go_skip|go_guarded|go_step|go_upon|(simp only [];go_at_K))
 go_ret
 exact ⟨rfl,rfl⟩
theorem siteSyncAny (Q:Site→Ms→Prop) (T:TakeC Q) (w:World) (M:SiteV) (h:SiteS w M) (hl:M.held.length≤1000000000)
  (hQ:M.down=false→Folds Q {M.pl with dn:=M.db.length,held:=[]} (M.pl.held.filter fun m=>decide (m.to=(M.me:Int)))) :
  Calls Tryz.prog 21 #[M.ptr] w fun e w'=>∃(A:Option Addr) (c:Nat) (told:List Mv) (M':SiteV),e= .returned (.slice A told.length c)∧told.map Mv.ms=M.pl.sync.2∧Agio.Own 32 10 w' A told.length c (told.flatMap Mv.cells)∧
   (∀k∈ablk A,w.heap.size≤k∧k∉M'.fp)∧(∀x∈told,BytS w' x.sl∧∀k∈ablk x.A,k∉M'.fp∧k∉(Ban.X:List Nat))∧SiteS w' M'∧M'.pl=M.pl.sync.1∧M'.gs=M.gs∧Upd M.fp M'.fp w w':=by
 cases hd:M.down with
 | false=>exact siteSync Q T w M h hd hl (hQ hd)
 | true=>
  refine (siteSyncD w M h hd).mono ?_
  rintro e w' ⟨rfl,rfl⟩
  have e1:M.pl.sync=(M.pl,[]):=by unfold Site.sync;rw [if_pos (show M.pl.down=true from hd)]
  exact ⟨none,0,[],M,rfl,by rw [e1];rfl,Own.nil _ _ _,by simp [ablk],by simp,h,by rw [e1],rfl,Upd.refl _ _⟩
end Go.Proofs.YtijhlbeipglieaaGreat
namespace Go.Proofs.YtijhlbeipglieaaGreat
open Go.RowKit Agio Go.Maps
theorem _root_.Agio.RdB.updP {w w':World} {A:Option Addr} {n:Nat} {l:List UInt8} {a b:List Nat} (h:RdB w A n l) (hu:Upd a b w w') (hd:0 < n→∀k∈ablk A,k∉a):RdB w' A n l:=⟨h.1,fun h0=>(Rd.upd h hu (hd h0)).2 h0⟩
theorem _root_.Agio.RdB.below {w:World} {A:Option Addr} {n:Nat} {l:List UInt8} (h:RdB w A n l) (h0:0 < n):∀k∈ablk A,k < w.heap.size:=by
 obtain ⟨ad,rfl,hc⟩:=h.2 h0
 intro k hk
 simp only [ablk,List.mem_singleton] at hk
 subst hk
 have hl:0 < (b8s l).length:=by have:=h.1;omega
 have:=World.block_lt_of_cell? w _ (hc 0 _ (List.getElem?_eq_getElem hl))
 simpa [Addr.add] using this
variable [Ban]
theorem siteHandleP (Q:Site→Ms→Prop) (T:TakeC Q) (w:World) (M:SiteV) (h:SiteS w M) (m:Mv) (hr:RdB w m.A m.n m.b) (hrf:0 < m.n→∀k∈ablk m.A,k∉M.fp)
  (hQ:m.ms.May→M.down=false→m.t=M.me→Q {M.pl with wt:=M.wt.set m.f.toNat 0} m.ms) :
  Calls Tryz.prog 24 #[M.ptr,m.val] w fun e w'=>e= .returned (.int .i64 (M.pl.handle m.ms).2)∧Gone w w' M (M.pl.handle m.ms).1:=by
 obtain ⟨W,H,eW,hH,hB,U0⟩:=boxes1 w 32 #[.int .i64 m.k,.int .i64 m.f,.int .i64 m.t,.int .i64 m.s,.int .i64 m.br,.int .i64 m.bs,.int .i64 m.hr,.int .i64 m.hs,.bool m.so,.slice m.A m.n m.c]
 have h1:=h.upd0 U0
 have hr1:RdB W m.A m.n m.b:=hr.upd U0 (by simp)
 have U0':=U0.gives (b':=[]) (by simp)
 have C0:=siteDown W M h1
 obtain ⟨R,hR⟩:∃R,M.pl.handle m.ms=R:=⟨_,rfl⟩
 have HR:=Lib.hid hR
 rw [hR]
 clear hR
 have hHf:H∉M.fp:=fun hk=>by have:=h.lt H hk;omega
 obtain ⟨⟨a0,a1,a2,a3,a4,a5,a6,a7,a8,a9⟩,f0,f1,f2,f3,f4,f5,f6,f7,f8,f9⟩:=hB.c10
 have STAY:∀(W2:World) (b:List Nat),Upd [] b w W2→R.1=M.pl→Gone w W2 M R.1:=fun W2 b u e=>⟨M,h.upd0 u,e.symm,rfl,u.up M.fp |>.gives (fun k hk=>.inl hk)⟩
 rw [SiteV.ptr,Mv.val_eq]
 rw [SiteV.ptr] at C0
 cases hd:M.down with
 | true=>
  have hr:R=(M.pl,14):=by rw [←HR.out];unfold Site.handle;rw [if_pos (show M.pl.down=true from hd)]
  subst hr
  rw [show M.pl.down=true from hd] at C0
  go_enter Tryz.func24,Tryz.ntmps24
  repeat' (first|go_values|go_skip|go_guarded|go_step|go_upon|(simp only [];go_at_K))
  ((with_reducible refine C0.mono ?_);rintro e w1 ⟨rfl,rfl⟩)
  repeat' (first|go_values|go_skip|go_guarded|go_step|go_upon|(simp only [];go_at_K))
  go_ret
  exact ⟨rfl,STAY _ _ U0 rfl⟩
 | false=>
  rw [show M.pl.down=false from hd] at C0
  by_cases hm:m.ms.May
  ·have C1:=netEncode m W hr1 hm
   rw [Mv.val_eq] at C1
   have hx0:∀(Wx:World) (b:List Nat),Upd [] b w Wx→Wx.cell? ⟨M.gs,0,none⟩=some (.int .i64 (M.me:Int)):=fun Wx b u=>(h.upd0 u).blk.cell 0
   have hx1:∀(Wx:World) (b:List Nat),Upd [] b w Wx→Wx.cell? ⟨M.gs,1,none⟩=some (.int .i64 (M.n:Int)):=fun Wx b u=>(h.upd0 u).blk.cell 1
   have HRm:R=if m.t≠M.me∨m.f=M.me∨(M.n:Int)≤m.f then (M.pl,1) else (({M.pl with wt:=M.wt.set m.f.toNat 0} :Site).take m.ms,0):=by
    rw [←HR.out];unfold Site.handle
    rw [if_neg (by rw [show M.pl.down=false from hd];simp),if_neg (by simpa using hm)]
    rfl
   have HRh:=Lib.hid HRm
   clear HRm HR
   go_enter Tryz.func24,Tryz.ntmps24
   repeat' (first|go_values|go_skip|go_guarded|go_step|go_upon|(simp only [];go_at_K))
   ((with_reducible refine C0.mono ?_);rintro e w1 ⟨rfl,rfl⟩)
   repeat' (first|go_values|go_skip|go_guarded|go_step|go_upon|(simp only [];go_at_K))
   ((with_reducible refine C1.mono ?_);rintro e w2 ⟨A1,k1,c1,rfl,-,hu2⟩)
   have U2:=(U0'.trans hu2)
   have hB2:=hB.upd hu2 (by simp)
   have hr2:=hr1.upd hu2 (by simp)
   clear C0 C1 a0 a1 a2 a3 a4 a5 a6 a7 a8 a9 f0 f1 f2 f3 f4 f5 f6 f7 f8 f9
   have e2:∀N,(w2.drewN N).cell? ⟨H,2,none⟩=some (.int .i64 m.t):=fun N=>hB2.cell 2
   have e1:∀N,(w2.drewN N).cell? ⟨H,1,none⟩=some (.int .i64 m.f):=fun N=>hB2.cell 1
   have g0:∀N,(w2.drewN N).cell? ⟨M.gs,0,none⟩=some (.int .i64 (M.me:Int)):=fun N=>hx0 _ _ (U2.drewN N)
   have g1:∀N,(w2.drewN N).cell? ⟨M.gs,1,none⟩=some (.int .i64 (M.n:Int)):=fun N=>hx1 _ _ (U2.drewN N)
   obtain ⟨⟨a0,a1,a2,a3,a4,a5,a6,a7,a8,a9⟩,f0,f1,f2,f3,f4,f5,f6,f7,f8,f9⟩:=hB2.c10
   by_cases ht:m.t=M.me
   ·have dt:(m.t != (M.me:Int))=false:=by rw [ht];exact bne_self_eq_false _
    by_cases hf:m.f=M.me
    ·have df:(m.f == (M.me:Int))=true:=by rw [hf];exact beq_self_eq_true _
     have hr:R=(M.pl,1):=by rw [HRh.out,if_pos (.inr (.inl hf))]
     subst hr
     have HT:=Lib.hid ht
     have HF:=Lib.hid hf
     clear HRh ht hf hQ
     repeat' (first|go_values|go_skip|go_guarded|go_step|go_upon|(simp only [];go_at_K))
     go_quiet (fail)
     repeat' (first|go_values|go_skip|go_guarded|go_step|go_upon|(simp only [];go_at_K))
     go_ret
     exact ⟨rfl,STAY _ _ (U2.drewN _) rfl⟩
    ·have df:(m.f == (M.me:Int))=false:=beq_false_of_ne hf
     by_cases hn:(M.n:Int)≤m.f
     ·have dn:decide ((M.n:Int)≤m.f)=true:=decide_eq_true hn
      have hr:R=(M.pl,1):=by rw [HRh.out,if_pos (.inr (.inr hn))]
      subst hr
      have HT:=Lib.hid ht
      clear HRh ht hf hQ hn
      repeat' (first|go_values|go_skip|go_guarded|go_step|go_upon|(simp only [];go_at_K))
      go_quiet (fail)
      repeat' (first|go_values|go_skip|go_guarded|go_step|go_upon|(simp only [];go_at_K))
      go_ret
      exact ⟨rfl,STAY _ _ (U2.drewN _) rfl⟩
     ·have dn:decide ((M.n:Int)≤m.f)=false:=decide_eq_false hn
      have hr:R=(({M.pl with wt:=M.wt.set m.f.toNat 0} :Site).take m.ms,0):=by rw [HRh.out,if_neg (by omega)]
      have hq:=hQ hm hd ht
      have hf0:0≤m.f:=hm.frm.1
      obtain ⟨s,hs⟩:∃s:Nat,m.f=(s:Int):=⟨m.f.toNat,by omega⟩
      have hsn:s < M.n:=by omega
      have HT:=Lib.hid ht
      have HF:=Lib.hid hf
      have HN:=Lib.hid hn
      have HRR:=Lib.hid hr
      have HS:=Lib.hid hs
      have hml:m.b.length≤2048:=hm.val
      clear HRh ht hf hQ hn hr hs
      repeat' (first|go_values|go_skip|go_guarded|go_step|go_upon|(simp only [];go_at_K))
      go_quiet (fail)
      repeat' (first|go_values|go_skip|go_guarded|go_step|go_upon|(simp only [];go_at_K))
      obtain ⟨w3,hw3⟩:∃w3,w2.drewN nq=w3:=⟨_,rfl⟩
      have U3:Upd [] [] w w3.drew:=by rw [←hw3];exact ((U2.drewN nq).drew).gives (by simp)
      have hB3:=(hB2.drewN nq).drew
      rw [hw3] at hB3
      have hr3:RdB w3.drew m.A m.n m.b:=by rw [←hw3];exact hr2
      rw [hw3]
      clear hw3 e1 e2 g0 g1 a0 a1 a2 a3 a4 a5 a6 a7 a8 a9 f0 f1 f2 f3 f4 f5 f6 f7 f8 f9 hB2 hr2
      have h3:=h.upd0 U3
      have hn7:M.n≤7:=h.ok.n7
      have C3:=timerHeard w3.drew M.gw M.me M.n M.pat M.wt h3.wat hn7 s hsn
      have q10:w3.drew.cell? ⟨M.gs,10,none⟩=some (.pointer (some ⟨M.gw,0,none⟩)):=h3.blk.cell 10
      obtain ⟨⟨a0,a1,a2,a3,a4,a5,a6,a7,a8,a9⟩,-⟩:=hB3.c10
      have hsi:m.f=(s:Int):=HS.out
      rw [hsi] at a1
      have hgw:M.gw∈M.fp:=by simp [SiteV.fp]
      go_still_tail 7,(by kernel_rfl)
      change wpList _ _ _ _ _ w3.drew
      repeat' (first|go_values|go_skip|go_guarded|go_step|go_upon|(simp only [];go_at_K))
      ((with_reducible refine C3.mono ?_);rintro e w4 ⟨rfl,hW4,hu4⟩)
      obtain ⟨h4,U4⟩:=h3.watch hu4 hW4
      have hB4:=hB3.upd hu4 (by simp only [List.mem_singleton];rintro rfl;exact hHf hgw)
      have hr4:=hr3.updP hu4 (fun h0 k hk hm=>hrf h0 k hk (by rw [List.mem_singleton.1 hm];exact hgw))
      have C5:=bytesClone w4 m.A m.n m.c m.b hr4 (by omega)
      clear a0 a1 a2 a3 a4 a5 a6 a7 a8 a9
      obtain ⟨⟨a0,a1,a2,a3,a4,a5,a6,a7,a8,a9⟩,-⟩:=hB4.c10
      have hok:({M with wt:=M.wt.set s 0} :SiteV).pl= {M.pl with wt:=M.wt.set m.f.toNat 0}:=by rw [hsi];rfl
      have hqs:Q ({M with wt:=M.wt.set s 0} :SiteV).pl m.ms:=by rw [hok];exact hq
      obtain ⟨M4,hM4⟩:∃M4:SiteV,({M with wt:=M.wt.set s 0} :SiteV)=M4:=⟨_,rfl⟩
      rw [hM4] at h4 hqs hok
      have hg4:M4.gs=M.gs:=by rw [←hM4]
      have hfp4:M4.fp=M.fp:=by rw [←hM4];rfl
      have hHl:=h.lt
      have hBn:=h.ban
      have hAd4:∀k∈ablk M4.Ad,k < w.heap.size:=fun k hk=>hHl k (by rw [←hfp4];simp [SiteV.fp,hk])
      have U5:=(U3.up M.fp).trans U4
      have HSI:=Lib.hid hsi
      have s5:=U5.size
      have HMm:=Lib.hid hm
      clear hM4 hq U4 hW4 hu4 hB3 hr3 h3 q10 hsi hm
      repeat' (first|go_values|go_skip|go_guarded|go_step|go_upon|(simp only [];go_at_K))
      ((with_reducible refine C5.mono ?_);rintro e w5 ⟨A,n,c,rfl,ho,hu5⟩)
      have K5:=hB4.upd hu5 (by simp)
      have hA:=(Upd.refl [] w4).new hu5
      have hB4l:=hB4.lt
      clear a0 a1 a2 a3 a4 a5 a6 a7 a8 a9 C5 hB4
      obtain ⟨⟨a0,a1,a2,a3,a4,a5,a6,a7,a8,a9⟩,f0,f1,f2,f3,f4,f5,f6,f7,f8,f9⟩:=K5.c10
      have u6:Upd [H] [H] w5 (w5.setCell ⟨H,9,none⟩ (.slice A n c)):=(Upd.refl [H] w5).setCell (p:=⟨H,9,none⟩) (.inl (by simp)) _
      have h6:=(h4.upd0 hu5).set K5 (by decide) (by rw [hfp4];exact hHf) u6
      have ho6:=ho.upd u6 (fun k hk=>by have:=hA k hk;simp only [List.mem_singleton];omega)
      have C7:=T _ M4 {m with A:=A,n:=n,c:=c} h6 hqs HMm.out ⟨ho6.rd,ho6.own.tag⟩ (fun k hk hn=>by have h7:=hA k hk;have h8:=hHl k (by rw [←hfp4];exact hn);omega) (fun k hk hn=>by have h7:=hA k hk;have h8:=hBn k hn;omega)
      have U6:=(U5.trans (hu5.up M.fp)).own (g:=H) (by omega) u6
      rw [Mv.val_eq,SiteV.ptr,hg4] at C7
      clear K5 h4 h6 ho ho6 u6 hu5
      repeat' (first|go_values|go_skip|go_guarded|go_step|go_upon|(simp only [];go_at_K))
      ((with_reducible refine C7.mono ?_);rintro e w7 ⟨rfl,M7,h7,hp7,hg7,U7⟩)
      repeat' (first|go_values|go_skip|go_guarded|go_step|go_upon|(simp only [];go_at_K))
      have e7:M7.pl=R.1:=by rw [HRR.out,hp7,hok];rfl
      have e8:R.2=0:=by rw [HRR.out]
      go_ret
      exact ⟨by rw [e8];rfl,M7,h7,e7,hg7.trans hg4,U6.trans (by rw [←hfp4];exact U7)⟩
   ·have dt:(m.t != (M.me:Int))=true:=bne_iff_ne.2 ht
    have hr:R=(M.pl,1):=by rw [HRh.out,if_pos (.inl ht)]
    subst hr
    have HT:=Lib.hid ht
    clear HRh ht hQ
    repeat' (first|go_values|go_skip|go_guarded|go_step|go_upon|(simp only [];go_at_K))
    go_quiet (fail)
    repeat' (first|go_values|go_skip|go_guarded|go_step|go_upon|(simp only [];go_at_K))
    go_ret
    exact ⟨rfl,STAY _ _ (U2.drewN _) rfl⟩
  ·have C1:=netEncode_no m W hr1 hm
   rw [Mv.val_eq] at C1
   have hr:R=(M.pl,1):=by rw [←HR.out];unfold Site.handle;rw [if_neg (by rw [show M.pl.down=false from hd];simp),if_pos (by simpa using hm)]
   subst hr
   clear HR hQ
   go_enter Tryz.func24,Tryz.ntmps24
   repeat' (first|go_values|go_skip|go_guarded|go_step|go_upon|(simp only [];go_at_K))
   ((with_reducible refine C0.mono ?_);rintro e w1 ⟨rfl,rfl⟩)
   repeat' (first|go_values|go_skip|go_guarded|go_step|go_upon|(simp only [];go_at_K))
   ((with_reducible refine C1.mono ?_);rintro e w2 ⟨rfl,hu2⟩)
   repeat' (first|go_values|go_skip|go_guarded|go_step|go_upon|(simp only [];go_at_K))
   go_ret
   exact ⟨rfl,STAY _ _ (U0'.trans hu2) rfl⟩
theorem siteHandle (Q:Site→Ms→Prop) (T:TakeC Q) (w:World) (M:SiteV) (h:SiteS w M) (m:Mv) (hr:RdB w m.A m.n m.b) (hrf:∀k∈ablk m.A,k∉M.fp)
  (hQ:m.ms.May→M.down=false→m.t=M.me→Q {M.pl with wt:=M.wt.set m.f.toNat 0} m.ms) :
  Calls Tryz.prog 24 #[M.ptr,m.val] w fun e w'=>e= .returned (.int .i64 (M.pl.handle m.ms).2)∧Gone w w' M (M.pl.handle m.ms).1:=siteHandleP Q T w M h m hr (fun _=>hrf) hQ
end Go.Proofs.YtijhlbeipglieaaGreat
namespace Agio
namespace Site
theorem tellD_len {me n:Nat} (h:me < n) (m:Ms):(tellD me n m).length + 1=n:=by
 unfold tellD
 rw [List.length_map]
 have:∀k,((List.range k).filter fun j=>decide (j≠me)).length + (if me < k then 1 else 0)=k:=by
  intro k
  induction k with
  | zero=>simp
  | succ k ih=>
   rw [List.range_succ,List.filter_append,List.length_append]
   by_cases e:k=me
   ·subst e;simp at ih ⊢;omega
   ·simp only [List.filter_cons,List.filter_nil]
    rw [if_pos (by simpa using e)]
    simp only [List.length_cons,List.length_nil]
    by_cases h1:me < k
    ·rw [if_pos h1] at ih;rw [if_pos (by omega)];omega
    ·rw [if_neg h1] at ih;rw [if_neg (by omega)];omega
 have:=this n
 rw [if_pos h] at this
 exact this
end Site
end Agio
namespace Go.Proofs.YtijhlbeipglieaaGreat
open Go.RowKit Agio Go.Maps Agio.Site
def Q6 (s:Site) (m:Ms):Prop:=m.kind=6∧s.held.length≤900000000∧∀p∈s.rs,p.2.vt.length≤900000000
theorem doneD_Q6 (me n pat:Nat) (v:List UInt8) (dn:Nat) (wt fs:List Int) (h:me < n) (h7:n≤7) (hf:fs.length≤1000) (m:Ms) (hm:m.kind=6):Q6 (doneD me n pat v dn wt fs) m:=by
 refine ⟨hm,?_,?_⟩
 ·unfold doneD
  split
  ·show (tellD me n _).length≤_
   have:=tellD_len h (tells me v)
   omega
  ·show ([]:List Ms).length≤_
   simp
 ·unfold doneD
  split
  ·intro p hp;cases hp
  ·intro p hp
   rw [show (subD me n pat v dn [] [((me:Int),rnD me v (fs.map fun f=>(f,(⟨0,me⟩:Bl))))] wt []).rs= [((me:Int),rnD me v (fs.map fun f=>(f,(⟨0,me⟩:Bl))))] from rfl,List.mem_singleton] at hp
   subst hp
   show (fs.map _).length≤_
   rw [List.length_map];omega
theorem doneD_down (me n pat:Nat) (v:List UInt8) (dn:Nat) (wt fs:List Int):(doneD me n pat v dn wt fs).down=false∧(doneD me n pat v dn wt fs).me=me∧(doneD me n pat v dn wt fs).held.length≤n:=by
 unfold doneD
 split
 ·refine ⟨rfl,rfl,?_⟩
  show (tellD me n _).length≤_
  unfold tellD
  rw [List.length_map]
  exact Nat.le_trans (List.length_filter_le _ _) (by simp)
 ·exact ⟨rfl,rfl,by show 0≤n;omega⟩
variable [Ban]
theorem take6C:TakeC Q6:=fun w M m h hq hm _ _ _=>by
 have e:M.pl.take m.ms=M.pl.accepted m.ms:=by unfold Site.take Site.does;rw [hq.1];rfl
 rw [e]
 refine siteTake6 w M h m hq.1 hm ?_ (fun p hp=>hq.2.2 (p.1,p.2.pl) (List.mem_map.2 ⟨p,hp,rfl⟩))
 rw [←SiteV.held_len];exact hq.2.1
theorem syncNew (w:World) (M:SiteV) (h:SiteS w M) (me n pat:Nat) (v:List UInt8) (hv:v.length≤2048) (hme:me < n) (h3:3≤n) (h7:n≤7)
  (hp:M.pl=subD me n pat v 0 [] [((me:Int),rnD me v [])] wt0 (told1 me n v ++ [voteD me me me])) :
  Calls Tryz.prog 21 #[M.ptr] w fun e w'=>∃(A:Option Addr) (c:Nat) (told:List Mv) (M':SiteV),e= .returned (.slice A told.length c)∧told.map Mv.ms=told1 me n v∧Agio.Own 32 10 w' A told.length c (told.flatMap Mv.cells)∧
   (∀k∈ablk A,w.heap.size≤k∧k∉M'.fp)∧SiteS w' M'∧M'.pl=doneD me n pat v (len1 me v) wt0 [(me:Int)]∧M'.gs=M.gs∧Upd M.fp M'.fp w w':=by
 have hs:=sync_new me n pat hv hme h3 h7
 rw [←hp] at hs
 have hh:M.held.length≤1000000000:=by
  rw [←SiteV.held_len,hp]
  show (told1 me n v ++ [voteD me me me]).length≤_
  have:=tellD_len hme (asks (rnD me v []) me)
  rw [List.length_append]
  unfold told1
  simp only [List.length_cons,List.length_nil]
  omega
 have hme':M.me=me:=congrArg Site.me hp
 have hf:M.pl.held.filter (fun m=>decide (m.to=(M.me:Int)))= [voteD me me me]:=by
  rw [hp,hme']
  show (told1 me n v ++ [voteD me me me]).filter (fun m=>decide (m.to=(me:Int)))=_
  rw [List.filter_append,List.filter_eq_nil_iff.2 (fun x hx=>by simpa using tellD_to hx)]
  simp [voteD]
 refine (siteSync Q6 take6C w M h (congrArg Site.down hp) hh ?_).mono ?_
 ·rw [hf]
  refine ⟨⟨rfl,by simp,?_⟩,trivial⟩
  intro p hp'
  have hrs:M.pl.rs= [((me:Int),rnD me v [])]:=by rw [hp];rfl
  change p∈M.pl.rs at hp'
  rw [hrs,List.mem_singleton] at hp'
  subst hp'
  exact Nat.zero_le _
 ·rintro e w' ⟨A,c,told,M',e1,e2,e3,e4,-,e6,e7,e8,e9⟩
  rw [hs] at e2 e7
  exact ⟨A,c,told,M',e1,e2,e3,e4,e6,e7,e8,e9⟩
theorem syncD (w:World) (M:SiteV) (h:SiteS w M) (me n pat:Nat) (v:List UInt8) (dn:Nat) (wt fs:List Int) (_hme:me < n) (h7:n≤7)
  (hp:M.pl=doneD me n pat v dn wt fs) :
  Calls Tryz.prog 21 #[M.ptr] w fun e w'=>∃(A:Option Addr) (c:Nat) (told:List Mv) (M':SiteV),e= .returned (.slice A told.length c)∧told.map Mv.ms=(if mostI fs n=true then tellD me n (tells me v) else [])∧Agio.Own 32 10 w' A told.length c (told.flatMap Mv.cells)∧
   (∀k∈ablk A,w.heap.size≤k∧k∉M'.fp)∧(∀x∈told,BytS w' x.sl)∧SiteS w' M'∧M'.gs=M.gs∧Upd M.fp M'.fp w w':=by
 obtain ⟨d1,d2,d3⟩:=doneD_down me n pat v dn wt fs
 have hh:M.held.length≤1000000000:=by
  rw [←SiteV.held_len,hp];omega
 have hme':M.me=me:=(congrArg Site.me hp).trans d2
 have hf:M.pl.held.filter (fun m=>decide (m.to=(M.me:Int)))= []:=by
  rw [hp,hme',List.filter_eq_nil_iff]
  intro x hx
  unfold doneD at hx
  split at hx
  ·simpa using tellD_to (m:=tells me v) hx
  ·cases hx
 refine (siteSync Q6 take6C w M h ((congrArg Site.down hp).trans d1) hh ?_).mono ?_
 ·rw [hf];exact trivial
 ·rintro e w' ⟨A,c,told,M',e1,e2,e3,e4,e5,e6,-,e8,e9⟩
  rw [hp,sync_D] at e2
  exact ⟨A,c,told,M',e1,e2,e3,e4,fun x hx=>(e5 x hx).1,e6,e8,e9⟩
theorem handleD (w:World) (M:SiteV) (h:SiteS w M) (me n pat:Nat) (v:List UInt8) (dn:Nat) (wt fs:List Int) (hme:me < n) (h7:n≤7) (hv:v.length≤2048) (hfs:fs.length≤1000)
  (hp:M.pl=doneD me n pat v dn wt fs) (f:Int) (hf:0≤f) (hfn:f < n) (hne:f≠me) :
  Calls Tryz.prog 24 #[M.ptr,Mv.val ⟨6,f,me,me,0,me,0,0,false,none,0,0,[]⟩] w fun e w'=>e= .returned (.int .i64 0)∧Gone w w' M (doneD me n pat v dn (wt.set f.toNat 0) (fs ++ [f])):=by
 have hh:=handle_D me n pat hv hme h7 dn wt fs hf hfn hne
 have C:=siteHandle Q6 take6C w M h ⟨6,f,me,me,0,me,0,0,false,none,0,0,[]⟩ (RdB.nil _ _) (by simp [ablk]) (fun _ _ _=>by
  have e:({M.pl with wt:=M.wt.set f.toNat 0} :Site)=doneD me n pat v dn (M.wt.set f.toNat 0) fs:=by rw [hp,doneD_wt]
  show Q6 ({M.pl with wt:=M.wt.set f.toNat 0} :Site) _
  rw [e]
  exact doneD_Q6 _ _ _ _ _ _ _ hme h7 hfs _ rfl)
 rw [hp] at C
 have e2:Mv.ms ⟨6,f,me,me,0,me,0,0,false,none,0,0,[]⟩=voteD me me f:=rfl
 rw [e2,hh] at C
 exact C
end Go.Proofs.YtijhlbeipglieaaGreat
namespace Go.Proofs.YtijhlbeipglieaaGreat
theorem two_of {α β:Type} {f:α→β} {l:List α} {a b:β} (h:l.map f= [a,b]):∃x y,l= [x,y]∧f x=a∧f y=b:=by
 match l,h with
 | [x,y],h=>
  simp only [List.map_cons,List.map_nil,List.cons.injEq,and_true] at h
  exact ⟨x,y,rfl,h.1,h.2⟩
open Go.RowKit Agio Go.Maps Agio.Site
theorem siteAwake (w:World):Calls Tryz.prog 14 #[] w fun e w'=>e= .returned (.bool true)∧Upd [] [] w w':=by
 have C1:Calls Tryz.prog 29 #[.int .i64 0,.int .i64 3,.int .i64 5] w fun e w'=>∃M:SiteV,e= .returned (.tuple #[.pointer (some ⟨M.gs,0,none⟩),.int .i64 0])∧SiteS w' M∧M.pl=Site.new 0 3 5∧Upd [] M.fp w w':=siteNew w 0 3 5 (by decide) (noBan_lt _)
 have kc:=fun (w:World) (C:Array Value) (n c:Nat)=>Lib.run_convert_bytes_const (P:=Tryz.prog) w 28 5 C n c Tryz.underlying28 Tryz.underlying5
 go_enter Tryz.func14,Tryz.ntmps14
 repeat' (first|go_values|go_skip|go_guarded|go_step|go_upon|(simp only [];go_at_K))
 ((with_reducible refine C1.mono ?_);rintro e w1 ⟨M1,rfl,h1,hp1,u1⟩)
 clear C1
 repeat' (first|go_values|go_skip|go_guarded|go_step|go_upon|(simp only [];go_at_K))
 clear kc
 obtain ⟨W,hW⟩:∃W,w1.alloc (.cells #[.int .u8 120] 5 (1,2))=W:=⟨_,rfl⟩
 obtain ⟨H,hH⟩:∃H,w1.heap.size=H:=⟨_,rfl⟩
 have U0:Upd [] [] w1 W:=by rw [←hW];exact (Upd.refl [] w1).alloc _
 have hv:RdB W (some ⟨H,0,none⟩) 1 [120]:=by rw [←hW,←hH];exact Rd.new _ _ rfl
 have h1':=h1.upd0 U0
 have C2:=siteSubmit W M1 h1' (some ⟨H,0,none⟩) 1 1 [120] hv (by simp) (by rw [←SiteV.held_len,hp1];simp [Site.new])
 rw [hp1,submit_new 5 (by decide) (by decide) (by decide) (by decide),SiteV.ptr] at C2
 have U1:=(u1.gives (b':=M1.fp) (fun k hk=>u1.fresh k hk))
 obtain ⟨S,hS⟩:∃S,subD 0 3 5 [120] 0 [] [(((0:Nat):Int),rnD 0 [120] [])] wt0 (tellD 0 3 (asks (rnD 0 [120] []) ((0:Nat):Int)) ++ [voteD 0 ((0:Nat):Int) ((0:Nat):Int)])=S:=⟨_,rfl⟩
 rw [hS] at C2
 rw [show ((0:Nat):Int)=0 from rfl] at C2
 rw [hW]
 rw [hH] at *
 ((with_reducible refine C2.mono ?_);rintro e w2 ⟨rfl,M2,h2,hp2,hg2,u2⟩)
 clear C2
 have C3:=syncNew w2 M2 h2 0 3 5 [120] (by decide) (by decide) (by decide) (by decide) (hp2.trans hS.symm)
 rw [SiteV.ptr,hg2] at C3
 repeat' (first|go_values|go_skip|go_guarded|go_step|go_upon|(simp only [];go_at_K))
 ((with_reducible refine C3.mono ?_);rintro e w3 ⟨A,c,told,M3,rfl,ht3,ho3,hA3,h3,hp3,hg3,u3⟩)
 clear C3
 have C4:=handleD w3 M3 h3 0 3 5 [120] _ _ _ (by decide) (by decide) (by decide) (by decide) hp3 1 (by decide) (by decide) (by decide)
 rw [SiteV.ptr,hg3,Mv.val_eq,show ((0:Nat):Int)=0 from rfl] at C4
 repeat' (first|go_values|go_skip|go_guarded|go_step|go_upon|(simp only [];go_at_K))
 ((with_reducible refine C4.mono ?_);rintro e w4 ⟨rfl,M4,h4,hp4,hg4,u4⟩)
 clear C4
 have C5:=siteDecided w4 M4 h4 0 (wfI (by decide) (by decide))
 have hd5:M4.pl.dec 0=some [120]:=by rw [hp4];exact (doneD_dec 0 3 5 [120] _ _ _).trans (if_pos (by decide))
 rw [hd5,SiteV.ptr,hg4,hg3] at C5
 simp only [Option.isSome_some,Option.getD_some] at C5
 repeat' (first|go_values|go_skip|go_guarded|go_step|go_upon|(simp only [];go_at_K))
 ((with_reducible refine C5.mono ?_);rintro e w5 ⟨A5,n5,c5,rfl,ho5,u5⟩)
 clear C5
 have h5:=h4.upd0 u5
 have C6:=syncD w5 M4 h5 0 3 5 [120] _ _ _ (by decide) (by decide) hp4
 rw [if_pos (by decide),SiteV.ptr,hg4,hg3] at C6
 repeat' (first|go_values|go_skip|go_guarded|go_step|go_upon|(simp only [];go_at_K))
 ((with_reducible refine C6.mono ?_);rintro e w6 ⟨A6,c6,told6,M6,rfl,ht6,ho6,hA6,-,h6,hg6,u6⟩)
 clear C6
 obtain ⟨x,y,rfl,hx,hy⟩:=two_of (ht3.trans (show told1 0 3 [120]= [⟨1,0,1,0,0,0,0,0,true,[120]⟩,⟨1,0,2,0,0,0,0,0,true,[120]⟩] from rfl))
 obtain ⟨x6,y6,rfl,hx6,-⟩:=two_of (ht6.trans (show tellD 0 3 (tells ((0:Nat):Int) [120])= [⟨7,0,1,0,0,0,0,0,true,[120]⟩,⟨7,0,2,0,0,0,0,0,true,[120]⟩] from rfl))
 have hxk:x.k=1:=congrArg Ms.kind hx
 have hyt:y.t=2:=congrArg Ms.to hy
 have hzk:x6.k=7:=congrArg Ms.kind hx6
 have hA4:∀k∈ablk A,k∉M4.fp:=fun k hk=>u4.notin (hA3 k hk).2 (ho3.lt k hk)
 have ho3':=((ho3.upd u4 (fun k hk=>(hA3 k hk).2)).upd u5 (by simp)).upd u6 hA4
 obtain ⟨g,cur,rfl,hB,-⟩:=Own.block ho3' (by simp)
 obtain ⟨g6,cur6,rfl,hB6,-⟩:=Own.block ho6 (by simp)
 have hA5:=(Upd.refl [] w4).new u5
 have hf4:=h4.lt
 have ho5':=ho5.upd u6 (fun k hk hm=>by have h7:=hA5 k hk;have h8:=hf4 k hm;omega)
 have c0:w6.cell? ⟨g,0,none⟩=some (.int .i64 1):=by rw [hB.cell,←hxk];simp [Mv.cells]
 have c12:w6.cell? ⟨g,12,none⟩=some (.int .i64 2):=by rw [hB.cell,←hyt];simp [Mv.cells]
 have d0:w6.cell? ⟨g6,0,none⟩=some (.int .i64 7):=by rw [hB6.cell,←hzk];simp [Mv.cells]
 have hs:=strOf ho5'.rd c5
 have UU:Upd [] [] w w6:=((((((u1.gives (b':=M1.fp) (fun k hk=>u1.fresh k hk)).trans (U0.up _)).trans u2).trans u3).trans u4).trans (u5.up _) |>.trans u6).gives (by simp)
 clear hx hy hx6 hxk hyt hzk hA3 hA4 ho3 ho3' hB hB6 ho5 ho5' ho6 hA6 h4 h5 h6 hp4 hp3 hp2 h2 h3 ht3 ht6 hd5 u1 u2 u3 u4 u5 u6 hA5 hf4 hg2 hg3 hg4 hg6 h1 h1' hp1 U0 U1 hv hW hH hS
 repeat' (first|go_values|go_skip|go_guarded|go_step|go_upon|(simp only [];go_at_K))
 go_ret
 exact ⟨rfl,UU⟩
end Go.Proofs.YtijhlbeipglieaaGreat
namespace Go.Proofs.YtijhlbeipglieaaGreat
open Go.RowKit Agio Go.Maps
theorem siteSync_nil (w:World):Calls Tryz.prog 21 #[.pointer none] w fun e w'=>e= .returned (.slice none 0 0)∧w=w':=by
 go_enter Tryz.func21,Tryz.ntmps21
 repeat' (first|go_values|go_skip|go_guarded|go_step|go_upon|(simp only [];go_at_K))
 ((with_reducible refine (siteDown_nil w).mono ?_);rintro e w1 ⟨rfl,rfl⟩)
 repeat' (first|go_values|go_skip|go_guarded|go_step|go_upon|(simp only [];go_at_K))
 go_ret
 exact ⟨rfl,rfl⟩
theorem siteTop_nil (w:World):Calls Tryz.prog 36 #[.pointer none] w fun e w'=>e= .returned (.int .i64 0)∧w=w':=by
 go_enter Tryz.func36,Tryz.ntmps36
 repeat' (first|go_values|go_skip|go_guarded|go_step|go_upon|(simp only [];go_at_K))
 go_ret
 exact ⟨rfl,rfl⟩
theorem siteFrontier_nil (w:World):Calls Tryz.prog 28 #[.pointer none] w fun e w'=>e= .returned (.int .i64 0)∧w=w':=by
 go_enter Tryz.func28,Tryz.ntmps28
 repeat' (first|go_values|go_skip|go_guarded|go_step|go_upon|(simp only [];go_at_K))
 go_ret
 exact ⟨rfl,rfl⟩
theorem siteHandle_nil (w:World) (m:Mv):Calls Tryz.prog 24 #[.pointer none,m.val] w fun e w'=>e= .returned (.int .i64 14)∧Upd [] [] w w':=by
 have U0:∀o,Upd [] [] w (w.alloc o):=fun o=>(Upd.refl [] w).alloc o
 have C:=fun w=>siteDown_nil w
 rw [Mv.val_eq]
 go_enter Tryz.func24,Tryz.ntmps24
 repeat' (first|go_values|go_skip|go_guarded|go_step|go_upon|(simp only [];go_at_K))
 ((with_reducible refine (C _).mono ?_);rintro e w1 ⟨rfl,rfl⟩)
 repeat' (first|go_values|go_skip|go_guarded|go_step|go_upon|(simp only [];go_at_K))
 go_ret
 exact ⟨rfl,U0 _⟩
end Go.Proofs.YtijhlbeipglieaaGreat
