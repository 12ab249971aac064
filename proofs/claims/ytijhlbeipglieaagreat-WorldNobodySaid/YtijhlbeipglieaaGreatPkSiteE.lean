/- Merged: SiteE, SiteL, SiteH, SiteR. -/
import Derived.Test.YtijhlbeipglieaaGreatPkSiteA
set_option linter.all false
set_option maxRecDepth 100000
set_option maxHeartbeats 2000000
namespace Agio
open Go
def Sta.zero:Sta:=⟨⟨0,0⟩,false,⟨0,0⟩,none,0,0,[]⟩
theorem Sta.zero_pl:Sta.zero.pl=Sp.zero:=rfl
theorem Sta.same_pl (x y:Sta):x.same y=x.pl.same y.pl:=rfl
end Agio
namespace Go.Proofs.YtijhlbeipglieaaGreat
open Go.RowKit Agio Go.Maps
def SiteV.sta (M:SiteV) (x:Int):Sta:=(lookG x M.st).getD Sta.zero
theorem SiteV.sta_pl (M:SiteV) (x:Int):(M.sta x).pl=M.pl.stat x:=by
 unfold SiteV.sta Site.stat
 show _=(lookG x (mapG Sta.pl M.st)).getD Sp.zero
 rw [lookG_map]
 cases lookG x M.st <;> rfl
theorem SiteV.dec_pl (M:SiteV) (x:Int):M.pl.dec x=(lookG x M.lv).map Bsl.b:=by
 unfold Site.dec
 show lookG x (mapG Bsl.b M.lv)=_
 rw [lookG_map]
theorem zeroSta (w:World):(zeroValue 37).run Tryz.prog w= .ok Sta.zero.val w:=Tryz.zeroValue37 w
variable [Ban]
section
variable {w:World} {M:SiteV}
theorem SiteS.look (h:SiteS w M) {x:Int} (hx:(Lit.int .i64 x).wf=true) :
  (Instr.lookup 117 (.map (some M.bs)) (.int .i64 x) false).run Tryz.prog w= .ok (M.sta x).val w:=by
 have:=h.sts.look Tryz.underlying3 Tryz.underlying117 (zeroSta w) hx
 rw [lookK_G,lookG_map] at this
 rw [this]
 unfold SiteV.sta
 cases lookG x M.st <;> rfl
theorem SiteS.sta_in (h:SiteS w M) (x:Int):BytS w (M.sta x).sl∧(∀k∈ablk (M.sta x).A,k∉M.bans)∧(M.sta x).b.length≤2048:=by
 unfold SiteV.sta
 cases hl:lookG x M.st with
 | none=>exact ⟨⟨RdB.nil _ _,by simp [Sta.zero,Sta.sl,ablk]⟩,by simp [Sta.zero,ablk],by simp [Sta.zero]⟩
 | some y=>
  have hm:=lookG_some hl
  have:y.sl∈M.bytes:=by simp only [SiteV.bytes,List.mem_append];exact .inl (List.mem_map.2 ⟨_,hm,rfl⟩)
  exact ⟨h.byt _ this,h.bad _ this,(h.ok.st (x,y.pl) (List.mem_map.2 ⟨_,hm,rfl⟩)).2.2.1⟩
theorem SiteS.lvRd (h:SiteS w M):∀p∈M.lv,p.2.rd w:=fun p hp=>
 (h.byt p.2 (by simp only [SiteV.bytes,List.mem_append];exact .inr (.inl (List.mem_map_of_mem hp)))).rd
theorem SiteS.stLen (h:SiteS w M):M.st.length≤4096:=by
 have hs:=h.sts.sorted (int_keyed Tryz.underlying3)
 have:=rising_len (M.st.map Prod.fst) 0 4096 (by
  unfold mapG at hs
  rw [List.pairwise_map] at hs ⊢
  exact hs) (fun x hx=>by
  obtain ⟨p,hp,rfl⟩:=List.mem_map.1 hx
  have:=h.ok.st (p.1,p.2.pl) (List.mem_map.2 ⟨_,hp,rfl⟩)
  exact ⟨this.1,this.2.1⟩) (by omega)
 simp at this
 omega
theorem SiteS.rsLen (h:SiteS w M):M.rs.length≤4096:=by
 have hs:=h.rnd.sorted (int_keyed Tryz.underlying3)
 have:=rising_len (M.rs.map Prod.fst) 0 4096 (by
  unfold mapG at hs
  rw [List.pairwise_map] at hs ⊢
  exact hs) (fun x hx=>by
  obtain ⟨p,hp,rfl⟩:=List.mem_map.1 hx
  have:=h.ok.rs (p.1,p.2.pl) (List.mem_map.2 ⟨_,hp,rfl⟩)
  exact ⟨this.1,this.2.1⟩) (by omega)
 simp at this
 omega
end
theorem siteFresh (w:World) (M:SiteV) (h:SiteS w M) (x:Int) (hx:(Lit.int .i64 x).wf=true) :
  Calls Tryz.prog 60 #[M.ptr,.int .i64 x] w fun e w'=>e= .returned (.bool (M.pl.fresh x))∧Upd [] [] w w':=by
 have C:=learnGet w M.gl M.bl M.lv M.taken h.lrn h.lvRd x hx
 have q7:w.cell? ⟨M.gs,7,none⟩=some (.pointer (some ⟨M.gl,0,none⟩)):=h.blk.cell 7
 have HF:=Lib.hid (show M.pl.fresh x=((lookG x M.lv).isNone && (M.sta x).same Sta.zero) by
  unfold Site.fresh;rw [SiteV.dec_pl,←SiteV.sta_pl,Sta.same_pl,Sta.zero_pl];simp)
 obtain ⟨R,hR⟩:∃R,M.pl.fresh x=R:=⟨_,rfl⟩
 rw [hR] at HF ⊢
 rw [SiteV.ptr]
 go_enter Tryz.func60,Tryz.ntmps60
 repeat' (first|go_values|go_skip|go_guarded|go_step|go_upon|(simp only [];go_at_K))
 ((with_reducible refine C.mono ?_);rintro e w1 ⟨A,n,c,rfl,ho,hu⟩)
 have U1:=hu.gives (b':=[]) (by simp)
 have h1:=h.upd0 hu
 have hl:=h1.look hx
 have q5:w1.cell? ⟨M.gs,5,none⟩=some (.map (some M.bs)):=h1.blk.cell 5
 obtain ⟨hb,-,-⟩:=h1.sta_in x
 have C2:=accSame w1 (M.sta x) Sta.zero hb.rd (RdB.nil _ _)
 clear C h h1 q7 ho hu hb
 cases hq:lookG x M.lv with
 | some y=>
  rw [hq] at HF
  repeat' (first|go_values|go_skip|go_guarded|go_step|go_upon|(simp only [];go_at_K))
  go_ret
  exact ⟨by rw [HF.out];rfl,U1⟩
 | none=>
  rw [hq] at HF
  generalize M.sta x=y at *
  obtain ⟨S,hS⟩:∃S,y.same Sta.zero=S:=⟨_,rfl⟩
  rw [hS] at HF C2
  obtain ⟨v,hv⟩:∃v,y.val=v:=⟨_,rfl⟩
  rw [hv] at hl C2
  simp only [Sta.val,Sta.zero] at C2
  repeat' (first|go_values|go_skip|go_guarded|go_step|go_upon|(simp only [];go_at_K))
  ((with_reducible refine C2.mono ?_);rintro e w2 ⟨rfl,hu2⟩)
  have U2:=U1.trans hu2
  repeat' (first|go_values|go_skip|go_guarded|go_step|go_upon|(simp only [];go_at_K))
  go_ret
  exact ⟨by rw [HF.out];rfl,U2⟩
theorem siteTurn (w:World) (M:SiteV) (h:SiteS w M) (x:Int) (hx:0≤x∧x < 4096) (y:Sta) (hy:BytS w y.sl) (hbad:∀k∈ablk y.A,k∉M.bans) (hp:y.b.length≤2048∧y.p.may 7=true∧y.at_.may 7=true) :
  Calls Tryz.prog 131 #[M.ptr,.int .i64 x,y.val] w fun e w'=>e= .returned (.tuple #[])∧Goes w w' M (M.pl.turn x y.pl):=by
 have hwf:(Lit.int .i64 x).wf=true:=wfI (by omega) (by omega)
 obtain ⟨W,H,eW,hH,hB,U0⟩:=boxes1 w 37 #[.int .i64 y.p.r,.int .i64 y.p.s,.bool y.so,.int .i64 y.at_.r,.int .i64 y.at_.s,.slice y.A y.n y.c]
 have h1:=h.upd0 U0
 have hy1:=hy.upd0 U0
 obtain ⟨w3,hrun,hm3,U3⟩:=h1.drew.sts.store Tryz.underlying3 Tryz.underlying117 (by rw [mapG_len];have:=h.stLen;unfold maxLen;omega) hwf y.val
 rw [putK_G,←putG_map] at hm3
 have hokT:=h.ok.turn hx (y:=y.pl) hp
 have hok1:({M with st:=putG x y M.st} :SiteV).pl.Ok:=by
  refine ⟨h.ok.me,h.ok.n3,h.ok.n7,h.ok.pat,?_,h.ok.rs,h.ok.top,h.ok.nx,h.ok.held⟩
  have:=hokT.st
  simp only [Site.turn] at this
  rw [show (({M with st:=putG x y M.st} :SiteV).pl.st)=putG x y.pl (mapG Sta.pl M.st) from putG_map Sta.pl x y M.st]
  exact this
 obtain ⟨h3,V3⟩:=h1.drew.stats U3 hm3 (fun p hp=>by
  rcases mem_putG.1 hp with rfl | ⟨hp,-⟩
  ·exact ⟨hy1.upd0 (Upd.refl [] W).drew,hbad⟩
  ·have:p.2.sl∈M.bytes:=by simp only [SiteV.bytes,List.mem_append];exact .inl (List.mem_map.2 ⟨_,hp,rfl⟩)
   exact ⟨h1.drew.byt _ this,h1.bad _ this⟩) hok1
 have hB5:=h3.blk.set_ 6 (.int .i64 (max M.top (x + 1)))
 have u5:Upd [M.gs] [M.gs] w3 (w3.setCell ⟨M.gs,6,none⟩ (.int .i64 (max M.top (x + 1)))):=(Upd.refl [M.gs] w3).setCell (p:=⟨M.gs,6,none⟩) (.inl (by simp)) _
 have hpl:({M with st:=putG x y M.st,top:=max M.top (x + 1)} :SiteV).pl=M.pl.turn x y.pl:=by
  unfold SiteV.pl Site.turn
  simp only [putG_map]
 have h6:=h3.scal M.down (max M.top (x + 1)) M.nx u5 (by simpa [SiteV.cells] using hB5) (by rw [show ({({M with st:=putG x y M.st} :SiteV) with down:=M.down,top:=max M.top (x + 1),nx:=M.nx} :SiteV).pl=M.pl.turn x y.pl from hpl];exact hokT)
 have V6:Upd M.fp M.fp w (w3.setCell ⟨M.gs,6,none⟩ (.int .i64 (max M.top (x + 1)))):=(((U0.up M.fp).drew.trans V3).gives (fun k hk=>.inl hk)).trans (u5.mono (fun k hk=>by simp only [List.mem_singleton] at hk;subst hk;simp [SiteV.fp]) (fun k hk=>.inr (.inl hk)))
 have KEY:=Lib.hid (show Goes w (w3.setCell ⟨M.gs,6,none⟩ (.int .i64 (max M.top (x + 1)))) M (M.pl.turn x y.pl) from ⟨_,h6,hpl,rfl,rfl,V6⟩)
 have q5:W.drew.cell? ⟨M.gs,5,none⟩=some (.map (some M.bs)):=h1.blk.cell 5
 have q6:w3.cell? ⟨M.gs,6,none⟩=some (.int .i64 M.top):=h3.blk.cell 6
 have f6:w3.frozen? ⟨M.gs,6,none⟩=false:=h3.blk.frozen 6
 have hw1:IntKind.i64.wrap (x + 1)=x + 1:=by rw [IntKind.wrap_i64];omega
 obtain ⟨⟨a0,a1,a2,a3,a4,a5⟩,-⟩:=hB.drew.c6
 rw [SiteV.ptr]
 simp only [Sta.val] at hrun ⊢
 clear hokT hok1 h3 V3 h6 hpl V6 hB5 u5 hm3 U3 hp hbad hy hy1 h h1 U0
 go_enter Tryz.func131,Tryz.ntmps131
 repeat' (first|go_values|go_skip|go_guarded|go_step|go_upon|(simp only [];go_at_K))
 go_region_law (first
  | (refine step_mapU rfl (.tmp 10) (.tmp 11) (.tmp 12) 117 rfl (.map (some M.bs)) (.int .i64 x) _ w3 rfl rfl rfl hrun ?_))
 all_goals (repeat' ((fail_if_success (with_reducible refine stop_append rfl ?_));first | go_values | go_skip | go_guarded | go_step | go_upon | (simp only [];go_at_K)))
 all_goals
  rw [show (if M.top < x + 1 then x + 1 else M.top)=max M.top (x + 1) by split <;> omega]
  exact bodyPost_end (results_none rfl _ _ _) rfl ⟨rfl,KEY.out⟩
end Go.Proofs.YtijhlbeipglieaaGreat
namespace Go.Proofs.YtijhlbeipglieaaGreat
open Go.RowKit Agio Go.Maps
theorem siteDown_nil (w:World):Calls Tryz.prog 17 #[.pointer none] w fun e w'=>e= .returned (.bool true)∧w=w':=by
 go_enter Tryz.func17,Tryz.ntmps17
 repeat' (first|go_values|go_skip|go_guarded|go_step|go_upon|(simp only [];go_at_K))
 go_ret
 exact ⟨rfl,rfl⟩
theorem siteDecided_nil (w:World) (x:Int):Calls Tryz.prog 33 #[.pointer none,.int .i64 x] w fun e w'=>e= .returned (.tuple #[.slice none 0 0,.bool false])∧w=w':=by
 go_enter Tryz.func33,Tryz.ntmps33
 repeat' (first|go_values|go_skip|go_guarded|go_step|go_upon|(simp only [];go_at_K))
 go_ret2
 exact ⟨rfl,rfl⟩
variable [Ban]
theorem siteDown (w:World) (M:SiteV) (h:SiteS w M):Calls Tryz.prog 17 #[M.ptr] w fun e w'=>e= .returned (.bool M.pl.down)∧w=w':=by
 have q3:w.cell? ⟨M.gs,3,none⟩=some (.bool M.down):=h.blk.cell 3
 have e1:M.pl.down=M.down:=rfl
 rw [e1,SiteV.ptr]
 clear h
 go_enter Tryz.func17,Tryz.ntmps17
 repeat' (first|go_values|go_skip|go_guarded|go_step|go_upon|(simp only [];go_at_K))
 go_ret
 exact ⟨rfl,rfl⟩
theorem siteDecided (w:World) (M:SiteV) (h:SiteS w M) (x:Int) (hx:(Lit.int .i64 x).wf=true) :
  Calls Tryz.prog 33 #[M.ptr,.int .i64 x] w fun e w'=>∃A n c,e= .returned (.tuple #[.slice A n c,.bool (M.pl.dec x).isSome])∧OwnB 5 w' A n c ((M.pl.dec x).getD [])∧Upd [] (ablk A) w w':=by
 have C:=learnGet w M.gl M.bl M.lv M.taken h.lrn h.lvRd x hx
 have q7:w.cell? ⟨M.gs,7,none⟩=some (.pointer (some ⟨M.gl,0,none⟩)):=h.blk.cell 7
 rw [SiteV.dec_pl,Option.isSome_map]
 rw [SiteV.ptr]
 go_enter Tryz.func33,Tryz.ntmps33
 repeat' (first|go_values|go_skip|go_guarded|go_step|go_upon|(simp only [];go_at_K))
 ((with_reducible refine C.mono ?_);rintro e w1 ⟨A,n,c,rfl,ho,hu⟩)
 clear C
 repeat' (first|go_values|go_skip|go_guarded|go_step|go_upon|(simp only [];go_at_K))
 go_ret2
 exact ⟨A,n,c,rfl,ho,hu⟩
end Go.Proofs.YtijhlbeipglieaaGreat
namespace Go.Proofs.YtijhlbeipglieaaGreat
open Go.RowKit Agio Go.Maps
theorem _root_.Agio.Upd.notin {a b:List Nat} {w w':World} (h:Upd a b w w') {k:Nat} (hk:k∉a) (hl:k < w.heap.size):k∉b:=fun hm=>by
 rcases h.fresh k hm with h1 | h1
 ·exact hk h1
 ·omega
variable [Ban]
section
variable {w w':World} {M:SiteV}
theorem SiteS.rsByt (h:SiteS w M) {p:Int × RnV} (hp:p∈M.rs) {x:Bsl} (hx:x∈p.2.bytes):BytS w x∧∀k∈ablk x.A,k∉M.bans:=by
 have:x∈M.bytes:=by simp only [SiteV.bytes,List.mem_append,List.mem_flatMap];exact .inr (.inr (.inl ⟨p,hp,hx⟩))
 exact ⟨h.byt x this,h.bad x this⟩
theorem SiteS.rsMap (h:SiteS w M) (hu:Upd [M.br] [M.br] w w') {p:Int × RnV} (hp:p∈M.rs):RnS w' p.2:=by
 have hX:∀k∈[M.br],tagW w k=some none:=by simp only [List.mem_singleton];rintro k rfl;exact h.tr
 exact (h.rds p hp).upd hu ((h.rds p hp).offs hX (by decide) (by decide) (by decide))
theorem SiteS.delR (h:SiteS w M) (x:Int) (hu:Upd [M.br] [M.br] w w') (hm:MapI Tryz.prog 3 w' M.br (mapG RnV.ptr (delG x M.rs))) :
  SiteS w' {M with rs:=delG x M.rs}∧Upd M.fp ({M with rs:=delG x M.rs} :SiteV).fp w w':=by
 refine h.rounds hu (by simp) hm (fun p hp=>h.rsMap hu (delG_mem.1 hp).1) (fun p hp k hk=>.inr ⟨p,(delG_mem.1 hp).1,hk⟩) (h.far.sublist List.filter_sublist) (fun p hp y hy=>h.rsByt (delG_mem.1 hp).1 hy) ?_
 have e:({M with rs:=delG x M.rs} :SiteV).pl= {M.pl with rs:=delG x M.pl.rs}:=by unfold SiteV.pl;simp only [delG_map]
 rw [e]
 exact h.ok.delRs x
end
def Gone (w w':World) (M:SiteV) (s:Site):Prop:=∃M',SiteS w' M'∧M'.pl=s∧M'.gs=M.gs∧Upd M.fp M'.fp w w'
theorem siteDecide (w:World) (M:SiteV) (h:SiteS w M) (x:Int) (hx:0≤x∧x < 4096) (B:Option Addr) (m d:Nat) (v:List UInt8) (hv:RdB w B m v) (hvl:v.length≤2048) :
  Calls Tryz.prog 248 #[M.ptr,.int .i64 x,.slice B m d] w fun e w'=>e= .returned (.tuple #[])∧Gone w w' M (M.pl.decide_ x v)∧Upd [M.bl,M.br] [M.bl,M.br] w w':=by
 have hwf:(Lit.int .i64 x).wf=true:=wfI (by omega) (by omega)
 have q7:w.cell? ⟨M.gs,7,none⟩=some (.pointer (some ⟨M.gl,0,none⟩)):=h.blk.cell 7
 have q8:w.cell? ⟨M.gs,8,none⟩=some (.map (some M.br)):=h.blk.cell 8
 have hpl:=SiteV.dec_pl M x
 obtain ⟨R,hR⟩:∃R,M.pl.decide_ x v=R:=⟨_,rfl⟩
 have HR0:=Lib.hid hR
 rw [hR]
 clear hR
 rw [SiteV.ptr]
 cases hl:lookG x M.lv with
 | none=>
  rw [hl] at hpl
  have hpi:putsIn M.lv x v=true:=by unfold putsIn;rw [hl];simp;omega
  have HR:R= {M.pl with lv:=putG x v M.pl.lv,rs:=delG x M.pl.rs}:=by
   rw [←HR0.out];unfold Site.decide_ Site.putOk;rw [hpl];simp [hx,hvl]
  have C:=learnPutNew w M.gl M.bl M.lv M.taken h.lrn x B m d v hv hpi
  have HRh:=Lib.hid HR
  clear HR HR0 hpl
  go_enter Tryz.func248,Tryz.ntmps248
  repeat' (first|go_values|go_skip|go_guarded|go_step|go_upon|(simp only [];go_at_K))
  ((with_reducible refine C.mono ?_);rintro e w1 ⟨A,n,c,rfl,hL,ho,hA,hu⟩)
  obtain ⟨h1,V1⟩:=h.learns (lv':=putG x ⟨A,n,c,v⟩ M.lv) (t':=M.taken) hu (fun k hk=>.inr (List.mem_singleton.1 hk)) hL (fun p hp=>by
   rcases mem_putG.1 hp with rfl | ⟨hp,-⟩
   ·exact ⟨⟨ho.rd,ho.own.tag⟩,fun k hk hm=>by have h7:=hA k hk;have h8:=h.bansLt k hm;omega⟩
   ·have:p.2∈M.bytes:=by simp only [SiteV.bytes,List.mem_append];exact .inr (.inl (List.mem_map_of_mem hp))
    exact ⟨(h.byt _ this).upd hu (fun k hk hm=>by
     rw [List.mem_singleton] at hm;subst hm
     exact tag_ne ((h.byt _ this).tag _ hk) h.tb (by decide) rfl),h.bad _ this⟩) (h.ok.lv _)
  have r8:w1.cell? ⟨M.gs,8,none⟩=some (.map (some M.br)):=h1.blk.cell 8
  obtain ⟨w2,hrun,hm2,hu2⟩:=h1.rnd.drop Tryz.underlying3 Tryz.underlying119 hwf 0
  rw [delK_G,←delG_map] at hm2
  obtain ⟨h2,V2⟩:=h1.delR x hu2 hm2
  have UU:Upd [M.bl,M.br] [M.bl,M.br] w w2:=(hu.mono (by simp) (fun k hk=>.inr (.inl hk))).trans (hu2.mono (by simp) (fun k hk=>.inr (.inl hk)))
  clear C hu hL
  clear hm2 hu2
  repeat' (first|go_values|go_skip|go_guarded|go_step|go_upon|(simp only [];go_at_K))
  refine bodyPost_end (results_none rfl _ _ _) rfl ⟨rfl,⟨_,h2,?_,rfl,V1.trans V2⟩,UU⟩
  rw [HRh.out]
  unfold SiteV.pl
  simp only [putG_map,delG_map]
 | some y=>
  rw [hl] at hpl
  have hpi:putsIn M.lv x v=false:=by unfold putsIn;rw [hl];simp
  have C:=learnPutNot w M.gl M.bl M.lv M.taken h.lrn h.lvRd x hwf B m d v hv hpi
  by_cases hy:y.b=v
  ·have HR:R= {M.pl with rs:=delG x M.pl.rs}:=by
    rw [←HR0.out];unfold Site.decide_ Site.putOk;rw [hpl];simp [hx,hvl,hy]
   have hc:putCode M.lv x v=0:=by unfold putCode;rw [if_neg (by omega),hl];simp [hy]
   rw [hc] at C
   have HRh:=Lib.hid HR
   clear HR HR0 hpl hc hy
   go_enter Tryz.func248,Tryz.ntmps248
   repeat' (first|go_values|go_skip|go_guarded|go_step|go_upon|(simp only [];go_at_K))
   ((with_reducible refine C.mono ?_);rintro e w1 ⟨rfl,rfl⟩)
   obtain ⟨w2,hrun,hm2,hu2⟩:=h.rnd.drop Tryz.underlying3 Tryz.underlying119 hwf 0
   rw [delK_G,←delG_map] at hm2
   obtain ⟨h2,V2⟩:=h.delR x hu2 hm2
   have UU:Upd [M.bl,M.br] [M.bl,M.br] w w2:=hu2.mono (by simp) (fun k hk=>.inr (.inl hk))
   clear hm2 hu2
   repeat' (first|go_values|go_skip|go_guarded|go_step|go_upon|(simp only [];go_at_K))
   refine bodyPost_end (results_none rfl _ _ _) rfl ⟨rfl,⟨_,h2,?_,rfl,V2⟩,UU⟩
   rw [HRh.out]
   unfold SiteV.pl
   simp only [delG_map]
  ·have HR:R=M.pl:=by
    rw [←HR0.out];unfold Site.decide_ Site.putOk;rw [hpl];simp [hx,hvl,hy]
   have hc:putCode M.lv x v=7:=by unfold putCode;rw [if_neg (by omega),hl];simp [hy]
   rw [hc] at C
   have HRh:=Lib.hid HR
   clear HR HR0 hpl hc hy
   go_enter Tryz.func248,Tryz.ntmps248
   repeat' (first|go_values|go_skip|go_guarded|go_step|go_upon|(simp only [];go_at_K))
   ((with_reducible refine C.mono ?_);rintro e w1 ⟨rfl,rfl⟩)
   repeat' (first|go_values|go_skip|go_guarded|go_step|go_upon|(simp only [];go_at_K))
   exact bodyPost_end (results_none rfl _ _ _) rfl ⟨rfl,⟨M,h,HRh.out.symm,rfl,Upd.refl _ _⟩,Upd.refl _ _⟩
end Go.Proofs.YtijhlbeipglieaaGreat
namespace Agio
open Go
section
variable {α:Type}
theorem insG_first {e:Int × α} :∀{L:AL α},(∀p∈L,e.1 < p.1)→insG e L=e :: L
 | [],_=>rfl
 | y :: r,h=>by unfold insG;rw [if_pos (h y (by simp))]
theorem putG_set {x:Int} {v:α} :∀{L:AL α},L.Pairwise (fun p q=>p.1 < q.1)→(∃r,(x,r)∈L)→putG x v L=L.map fun p=>if p.1=x then (p.1,v) else p
 | [],_,h=>by obtain ⟨r,h⟩:=h;cases h
 | y :: r,hp,h=>by
  rw [List.pairwise_cons] at hp
  by_cases e:y.1=x
  ·have hd:delG x (y :: r)=r:=by
    unfold delG
    rw [List.filter_cons,if_neg (by simp [e]),List.filter_eq_self]
    intro p hq
    have:=hp.1 p hq
    simp;omega
   unfold putG
   rw [hd,insG_first (fun p hq=>by have:=hp.1 p hq;show x < p.1;omega),List.map_cons,if_pos e,e]
   congr 1
   symm
   refine (List.map_congr_left fun p hq=>?_).trans (List.map_id r)
   have:=hp.1 p hq
   rw [if_neg (by omega)];rfl
  ·have h':∃z,(x,z)∈r:=by
    obtain ⟨z,hz⟩:=h
    rcases List.mem_cons.1 hz with rfl | hz
    ·exact absurd rfl e
    ·exact ⟨z,hz⟩
   obtain ⟨z,hz⟩:=h'
   have hlt:=hp.1 _ hz
   have ih:=putG_set (v:=v) hp.2 ⟨z,hz⟩
   unfold putG at ih ⊢
   have hd:delG x (y :: r)=y :: delG x r:=by
    unfold delG
    rw [List.filter_cons,if_pos (by simp [e])]
   rw [hd,List.map_cons,if_neg e,←ih]
   conv=>lhs;unfold insG
   rw [if_neg (by show ¬ x < y.1;simp only at hlt;omega)]
theorem sorted_one {L:AL α} (h:L.Pairwise fun p q=>p.1 < q.1) {x:Int} {a b:α} (ha:(x,a)∈L) (hb:(x,b)∈L):a=b:=by
 induction L with
 | nil=>cases ha
 | cons y r ih=>
  rw [List.pairwise_cons] at h
  rcases List.mem_cons.1 ha with rfl | ha' <;> rcases List.mem_cons.1 hb with hb' | hb'
  ·injection hb' with _ e;exact e.symm
  ·have:=h.1 _ hb';simp at this
  ·subst hb';have:=h.1 _ ha';simp at this
  ·exact ih h.2 ha' hb'
theorem pairwise_mem {R:α→α→Prop} {L:List α} (h:L.Pairwise R) {a b:α} (ha:a∈L) (hb:b∈L):a=b∨R a b∨R b a:=by
 induction L with
 | nil=>cases ha
 | cons y r ih=>
  rw [List.pairwise_cons] at h
  rcases List.mem_cons.1 ha with rfl | ha' <;> rcases List.mem_cons.1 hb with rfl | hb'
  ·exact .inl rfl
  ·exact .inr (.inl (h.1 _ hb'))
  ·exact .inr (.inr (h.1 _ ha'))
  ·exact ih h.2 ha' hb'
end
def RFar (p q:Int × RnV):Prop:=p.2.g≠q.2.g∧(∀k∈ablk p.2.PA,k∉ablk q.2.PA)∧∀k∈ablk p.2.VA,k∉ablk q.2.VA
theorem RFar.symm {p q:Int × RnV} (h:RFar p q):RFar q p:=⟨h.1.symm,fun k hk hm=>h.2.1 k hm hk,fun k hk hm=>h.2.2 k hm hk⟩
end Agio
namespace Go.Proofs.YtijhlbeipglieaaGreat
open Go.RowKit Agio Go.Maps
theorem zeroRn (w:World):(zeroValue 128).run Tryz.prog w= .ok (.pointer none) w:=Tryz.zeroValue128 w
variable [Ban]
section
variable {w w':World} {M:SiteV}
theorem SiteS.rsSorted (h:SiteS w M):M.rs.Pairwise fun p q=>p.1 < q.1:=by
 have hs:=h.rnd.sorted (int_keyed Tryz.underlying3)
 unfold mapG at hs
 rw [List.pairwise_map] at hs
 exact hs
theorem SiteS.apart (h:SiteS w M) {p q:Int × RnV} (hp:p∈M.rs) (hq:q∈M.rs) (hne:p.1≠q.1):RFar p q:=by
 rcases pairwise_mem (R:=RFar) h.far hp hq with e | e | e
 ·exact absurd (by rw [e]) hne
 ·exact e
 ·exact e.symm
theorem SiteS.setR (h:SiteS w M) {x:Int} {r:RnV} (hl:lookG x M.rs=some r) (r':RnV) (hg:r'.g=r.g) {X b:List Nat} (hX:∀k∈X,k∈r.fp) (hu:Upd X b w w') (hr':RnS w' r')
  (hP:∀k∈ablk r'.PA,k∈ablk r.PA∨w.heap.size≤k) (hV:∀k∈ablk r'.VA,k∈ablk r.VA∨w.heap.size≤k)
  (hb:∀y∈r'.bytes,BytS w y∧∀k∈ablk y.A,k∉M.bans) (hok:r'.pl.b.length≤2048∧r'.pl.bal.may 7=true∧∀q∈r'.pl.pr,q.b.length≤2048) :
  SiteS w' {M with rs:=putG x r' M.rs}∧Upd M.fp ({M with rs:=putG x r' M.rs} :SiteV).fp w w':=by
 have hmem:=lookG_some hl
 have hs:=h.rsSorted
 have hput:=putG_set (v:=r') hs ⟨r,hmem⟩
 have hk:∀k∈r'.fp,w.heap.size≤k∨k∈r.fp:=fun k hk=>by
  simp only [RnV.fp,List.mem_cons,List.mem_append] at hk ⊢
  rcases hk with rfl | hk | hk
  ·exact .inr (.inl hg)
  ·rcases hP k hk with h1 | h1
   ·exact .inr (.inr (.inl h1))
   ·exact .inl h1
  ·rcases hV k hk with h1 | h1
   ·exact .inr (.inr (.inr h1))
   ·exact .inl h1
 have hx:0≤x∧x < 4096:=by
  have:=h.ok.rs (x,r.pl) (List.mem_map.2 ⟨_,hmem,rfl⟩)
  exact ⟨this.1,this.2.1⟩
 refine h.rounds hu (fun k hk=>.inr ⟨_,hmem,hX k hk⟩) ?_ ?_ ?_ ?_ ?_ ?_
 ·have hm:=h.rnd.upd hu (fun hm=>by
   have:=hX _ hm
   simp only [RnV.fp,List.mem_cons,List.mem_append] at this
   rcases this with e | e | e
   ·exact tag_ne h.tr (h.rds _ hmem).tg (by decide) e
   ·exact tag_ne h.tr ((h.rds _ hmem).tP _ e) (by decide) rfl
   ·exact tag_ne h.tr ((h.rds _ hmem).tV _ e) (by decide) rfl)
  have e:mapG RnV.ptr (putG x r' M.rs)=mapG RnV.ptr M.rs:=by
   rw [hput]
   unfold mapG
   rw [List.map_map]
   refine List.map_congr_left fun p hp=>?_
   simp only [Function.comp]
   split
   ·rename_i e1
    have:p.2=r:=sorted_one hs (x:=x) (by rw [←e1];exact hp) hmem
    rw [this]
    unfold RnV.ptr
    rw [hg]
   ·rfl
  rw [e];exact hm
 ·intro p hp
  rcases mem_putG.1 hp with rfl | ⟨hp,hne⟩
  ·exact hr'
  ·have hf:=h.apart hp hmem hne
   have rp:=h.rds p hp
   have rr:=h.rds _ hmem
   refine rp.upd hu (fun k hk hm=>?_)
   have hm:=hX k hm
   simp only [RnV.fp,List.mem_cons,List.mem_append] at hk hm
   rcases hk with rfl | hk | hk <;> rcases hm with e | e | e
   ·exact hf.1 e
   ·exact tag_ne rp.tg (rr.tP _ e) (by decide) rfl
   ·exact tag_ne rp.tg (rr.tV _ e) (by decide) rfl
   ·subst e;exact tag_ne (rp.tP _ hk) rr.tg (by decide) rfl
   ·exact hf.2.1 k hk e
   ·exact tag_ne (rp.tP _ hk) (rr.tV _ e) (by decide) rfl
   ·subst e;exact tag_ne (rp.tV _ hk) rr.tg (by decide) rfl
   ·exact tag_ne (rp.tV _ hk) (rr.tP _ e) (by decide) rfl
   ·exact hf.2.2 k hk e
 ·intro p hp k hkp
  rcases mem_putG.1 hp with rfl | ⟨hp,-⟩
  ·rcases hk k hkp with h1 | h1
   ·exact .inl h1
   ·exact .inr ⟨_,hmem,h1⟩
  ·exact .inr ⟨p,hp,hkp⟩
 ·rw [hput,List.pairwise_map]
  refine (hs.and (h.far:M.rs.Pairwise RFar)).imp_of_mem fun {p q} hp hq hpq=>?_
  obtain ⟨hlt,hf⟩:=hpq
  have new:∀{z:Int × RnV},z∈M.rs→RFar (x,r) z→RFar (x,r') z:=fun {z} hz hf=>by
   refine ⟨by show r'.g≠z.2.g;rw [hg];exact hf.1,fun k hk1 hm=>?_,fun k hk1 hm=>?_⟩
   ·rcases hP k hk1 with h1 | h1
    ·exact hf.2.1 k h1 hm
    ·have:=tag_lt ((h.rds z hz).tP k hm);omega
   ·rcases hV k hk1 with h1 | h1
    ·exact hf.2.2 k h1 hm
    ·have:=tag_lt ((h.rds z hz).tV k hm);omega
  show RFar (if p.1=x then (p.1,r') else p) (if q.1=x then (q.1,r') else q)
  by_cases e1:p.1=x
  ·have ep:p=(x,r):=by
    have:p.2=r:=sorted_one hs (x:=x) (by rw [←e1];exact hp) hmem
    rw [←e1,←this]
   rw [if_pos e1,if_neg (by omega),e1]
   exact new hq (ep▸hf)
  ·rw [if_neg e1]
   by_cases e2:q.1=x
   ·have eq_:q=(x,r):=by
     have:q.2=r:=sorted_one hs (x:=x) (by rw [←e2];exact hq) hmem
     rw [←e2,←this]
    rw [if_pos e2,e2]
    exact RFar.symm (new hp (eq_▸RFar.symm hf))
   ·rw [if_neg e2];exact hf
 ·intro p hp y hy
  rcases mem_putG.1 hp with rfl | ⟨hp,-⟩
  ·exact hb y hy
  ·exact h.rsByt hp hy
 ·have e:({M with rs:=putG x r' M.rs} :SiteV).pl= {M.pl with rs:=putG x r'.pl M.pl.rs}:=by unfold SiteV.pl;simp only [putG_map]
  rw [e]
  exact h.ok.setRs hx hok
theorem SiteS.newR (h:SiteS w M) {x:Int} (hx:0≤x∧x < 4096) (r':RnV) {w1:World} (hu1:Upd [] r'.fp w w1) (hr1:RnS w1 r') (hu:Upd [M.br] [M.br] w1 w') (hm:MapI Tryz.prog 3 w' M.br (mapG RnV.ptr (putG x r' M.rs)))
  (hb:∀y∈r'.bytes,BytS w y∧∀k∈ablk y.A,k∉M.bans) (hok:r'.pl.b.length≤2048∧r'.pl.bal.may 7=true∧∀q∈r'.pl.pr,q.b.length≤2048) :
  SiteS w' {M with rs:=putG x r' M.rs}∧Upd M.fp ({M with rs:=putG x r' M.rs} :SiteV).fp w w':=by
 have h1:=h.upd0 hu1
 have hnew:∀k∈r'.fp,w.heap.size≤k:=fun k hk=>by
  rcases hu1.fresh k hk with h1 | h1
  ·cases h1
  ·exact h1
 have hU:Upd [M.br] (M.br :: r'.fp) w w':=(hu1.mono (a':=[M.br]) (b':=M.br :: r'.fp) (by simp) (fun k hk=>by
  rcases List.mem_cons.1 hk with rfl | hk
  ·exact .inr (.inl (by simp))
  ·exact .inl hk)).trans (hu.mono (a':=M.br :: r'.fp) (b':=M.br :: r'.fp) (by simp) (fun k hk=>.inr (.inl hk)))
 have hX:∀k∈[M.br],tagW w1 k=some none:=by simp only [List.mem_singleton];rintro k rfl;exact h1.tr
 refine h.rounds hU (by simp) hm ?_ ?_ ?_ ?_ ?_
 ·intro p hp
  rcases mem_putG.1 hp with rfl | ⟨hp,-⟩
  ·exact hr1.upd hu (hr1.offs hX (by decide) (by decide) (by decide))
  ·exact h1.rsMap hu hp
 ·intro p hp k hkp
  rcases mem_putG.1 hp with rfl | ⟨hp,-⟩
  ·exact .inl (hnew k hkp)
  ·exact .inr ⟨p,hp,hkp⟩
 ·show (putG x r' M.rs).Pairwise RFar
  unfold putG
  rw [(insG_perm (x,r') (delG x M.rs)).pairwise_iff (fun {a b} hab=>RFar.symm hab),List.pairwise_cons]
  refine ⟨fun q hq=>?_,h.far.sublist List.filter_sublist⟩
  have hq:=(delG_mem.1 hq).1
  have rq:=h.rds q hq
  refine ⟨fun e=>?_,fun k hk hm=>?_,fun k hk hm=>?_⟩
  ·have h7:=hnew r'.g (by simp [RnV.fp]);have h8:=tag_lt rq.tg;simp only at e;omega
  ·have h7:=hnew k (by simp [RnV.fp,hk]);have h8:=tag_lt (rq.tP k hm);omega
  ·have h7:=hnew k (by simp [RnV.fp,hk]);have h8:=tag_lt (rq.tV k hm);omega
 ·intro p hp y hy
  rcases mem_putG.1 hp with rfl | ⟨hp,-⟩
  ·exact hb y hy
  ·exact h.rsByt hp hy
 ·have e:({M with rs:=putG x r' M.rs} :SiteV).pl= {M.pl with rs:=putG x r'.pl M.pl.rs}:=by unfold SiteV.pl;simp only [putG_map]
  rw [e]
  exact h.ok.setRs hx hok
theorem SiteS.lookR (h:SiteS w M) {x:Int} (hx:(Lit.int .i64 x).wf=true) :
  (Instr.lookup 119 (.map (some M.br)) (.int .i64 x) true).run Tryz.prog w= .ok (.tuple #[((lookG x M.rs).map RnV.ptr).getD (.pointer none),.bool (lookG x M.rs).isSome]) w:=by
 have:=h.rnd.look_ok Tryz.underlying3 Tryz.underlying119 (zeroRn w) hx
 rw [lookK_G,lookG_map] at this
 simpa using this
end
end Go.Proofs.YtijhlbeipglieaaGreat
