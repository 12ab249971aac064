/- Merged: SiteRe, NoBan. -/
import Derived.Deep.RegionHeld3
import Derived.Test.YtijhlbeipglieaaGreatPkSiteZ
import Derived.Test.YtijhlbeipglieaaGreatPkSiteP
import Derived.Test.YtijhlbeipglieaaGreatPkRead
set_option linter.all false
set_option maxRecDepth 100000
set_option maxHeartbeats 4000000
namespace Go.Proofs.YtijhlbeipglieaaGreat
open Go.RowKit Agio Go.Maps
structure KeptR (p:Prop):Prop where
 out:p
def _root_.Agio.Site.recalls (s:Site) (l:List Rc):Site:=l.foldl Site.recall s
theorem _root_.Agio.Site.recall_down (s:Site) (b:Bool) (r:Rc):({s with down:=b} :Site).recall r= {s.recall r with down:=b}:=by
 unfold Site.recall
 have e:({s with down:=b} :Site).stat r.slot=s.stat r.slot:=rfl
 rw [e]
 split
 ·rfl
 split
 ·rfl
 ·rfl
theorem _root_.Agio.Site.recalls_down (b:Bool) (l:List Rc):∀(s:Site),({s with down:=b} :Site).recalls l= {s.recalls l with down:=b}:=by
 induction l with
 | nil=>exact fun _=>rfl
 | cons r l ih=>
  intro s
  show (({s with down:=b} :Site).recall r).recalls l=_
  rw [Site.recall_down]
  exact ih _
theorem _root_.Agio.Site.recalls_up (s:Site) (l:List Rc) (h:s.down=false):({({s.recalls l with down:=true} :Site) with down:=false} :Site)=l.foldl Site.recall s:=by
 show ({s.recalls l with down:=false} :Site)=s.recalls l
 rw [←Site.recalls_down]
 congr 1
 cases s
 simp only at h
 subst h
 rfl
variable [Ban]
theorem SiteS.reborn {w w1 w3:World} {M:SiteV} (h:SiteS w M) {gw bs gl bl br:Nat} (hw:WtS w1 gw M.me M.n M.pat [0,0,0,0,0,0,0]) (hu1:Upd [] [gw] w w1)
  (hm1:MapI Tryz.prog 3 w3 bs []) (hL:LrnS w3 gl bl [] 0) (hm2:MapI Tryz.prog 3 w3 br []) (hne:bs≠bl∧bs≠br∧bl≠br) (hu3:Upd [] [bs,gl,bl,br] w1 w3) :
  ∃M4:SiteV,SiteS (set57 w3 M.gs (.map (some bs)) (.int .i64 0) (.pointer (some ⟨gl,0,none⟩)) (.map (some br)) (.int .i64 0) (.pointer (some ⟨gw,0,none⟩)) (.slice none 0 0)) M4∧
   M4.pl= {Site.new M.me M.n M.pat with down:=M.down,db:=M.db,dn:=M.dn}∧M4.gs=M.gs∧M4.gd=M.gd∧
   Upd M.fp M4.fp w (set57 w3 M.gs (.map (some bs)) (.int .i64 0) (.pointer (some ⟨gl,0,none⟩)) (.map (some br)) (.int .i64 0) (.pointer (some ⟨gw,0,none⟩)) (.slice none 0 0)):=by
 have h3:=(h.upd0 hu1).upd0 hu3
 have hw3:WtS w3 gw M.me M.n M.pat [0,0,0,0,0,0,0]:=⟨hw.1.upd hu3 (by simp),hw.2⟩
 have K3:Blk w3 M.gs 124 #[.int .i64 (M.me:Int),.int .i64 (M.n:Int),.int .i64 (M.pat:Int),.bool M.down,.pointer (some ⟨M.gd,0,none⟩),.map (some M.bs),.int .i64 M.top,
  .pointer (some ⟨M.gl,0,none⟩),.map (some M.br),.int .i64 (M.nx:Int),.pointer (some ⟨M.gw,0,none⟩),.slice M.Ah M.held.length M.ch]:=h3.blk
 have u4:=upd_set57 w3 M.gs (.map (some bs)) (.int .i64 0) (.pointer (some ⟨gl,0,none⟩)) (.map (some br)) (.int .i64 0) (.pointer (some ⟨gw,0,none⟩)) (.slice none 0 0)
 have K4:=blk_set57 K3 (.map (some bs)) (.int .i64 0) (.pointer (some ⟨gl,0,none⟩)) (.map (some br)) (.int .i64 0) (.pointer (some ⟨gw,0,none⟩)) (.slice none 0 0)
 have hX:∀k∈[M.gs],tagW w3 k=some (some 124):=by simp only [List.mem_singleton];rintro k rfl;exact h3.tg
 generalize set57 w3 M.gs (.map (some bs)) (.int .i64 0) (.pointer (some ⟨gl,0,none⟩)) (.map (some br)) (.int .i64 0) (.pointer (some ⟨gw,0,none⟩)) (.slice none 0 0)=w4 at *
 refine ⟨{gs:=M.gs,me:=M.me,n:=M.n,pat:=M.pat,down:=M.down,gd:=M.gd,Ad:=M.Ad,cd:=M.cd,db:=M.db,dn:=M.dn,bs:=bs,st:=[],top:=0,gl:=gl,bl:=bl,lv:=[],taken:=0,br:=br,rs:=[],nx:=0,gw:=gw,wt:=[0,0,0,0,0,0,0],Ah:=none,ch:=0,held:=[]},
  {blk:=K4,dsk:=h3.dsk.upd u4 (tag_off h3.td hX (by decide)) (tag_offs h3.tA hX (by decide)),sts:=hm1.upd u4 (tag_off hm1.tag hX (by decide)),lrn:=hL.upd u4 (tag_off hL.blk.tag hX (by decide)) (tag_off hL.map.tag hX (by decide)),
   rnd:=hm2.upd u4 (tag_off hm2.tag hX (by decide)),rds:=by simp,wat:=⟨hw3.1.upd u4 (tag_off hw3.1.tag hX (by decide)),hw3.2⟩,hld:=Own.nil _ _ _,byt:=by simp [SiteV.bytes],bad:=by simp [SiteV.bytes],maps:=hne,far:=.nil,ban:=fun k hk=>Nat.lt_of_lt_of_le (h3.ban k hk) u4.size,
   ok:=⟨h.ok.me,h.ok.n3,h.ok.n7,h.ok.pat,by simp [SiteV.pl,mapG],by simp [SiteV.pl,mapG],by simp [SiteV.pl],by simp [SiteV.pl],by simp [SiteV.pl]⟩},rfl,rfl,rfl,?_⟩
 have U:=((hu1.up M.fp).trans (hu3.up M.fp)).trans (u4.mono (a':=M.fp) (b':=M.fp) (fun k hk=>by simp only [List.mem_singleton] at hk;subst hk;simp [SiteV.fp]) (fun k hk=>.inr (.inl hk)))
 have e1:=(Upd.refl [] w).new hu1
 have e3:=(Upd.refl [] w1).new hu3
 have s1:=hu1.size
 refine U.gives fun k hk=>?_
 simp only [SiteV.fp,List.mem_append,List.mem_cons,List.not_mem_nil,or_false,ablk,List.flatMap_nil] at hk
 rcases hk with (rfl | rfl | rfl | rfl | rfl | rfl | rfl) | hk
 ·exact .inl (by simp [SiteV.fp])
 ·exact .inl (by simp [SiteV.fp])
 ·have:=e3 k (by simp);exact .inr (by omega)
 ·have:=e3 k (by simp);exact .inr (by omega)
 ·have:=e3 k (by simp);exact .inr (by omega)
 ·have:=e3 k (by simp);exact .inr (by omega)
 ·exact .inr (e1 k (by simp))
 ·exact .inl (by simp only [SiteV.fp,List.mem_append];exact .inr (.inl hk))
theorem siteRestart (w:World) (M:SiteV) (h:SiteS w M) :
  Calls Tryz.prog 25 #[M.ptr] w fun e w'=>e= .returned (.tuple #[])∧Gone w w' M M.pl.restart:=by
 have q3:w.cell? ⟨M.gs,3,none⟩=some (.bool M.down):=h.blk.cell 3
 cases hd:M.down with
 | false=>
  rw [hd] at q3
  have KEY:=Lib.hid (show Gone w w M M.pl.restart from ⟨M,h,by unfold Site.restart;rw [if_neg (by rw [show M.pl.down=M.down from rfl,hd];simp)],rfl,Upd.refl _ _⟩)
  obtain ⟨R,hR⟩:∃R,M.pl.restart=R:=⟨_,rfl⟩
  rw [hR] at KEY ⊢
  rw [SiteV.ptr]
  clear h hR
  go_enter Tryz.func25,Tryz.ntmps25
  repeat' (first|go_values|go_skip|go_guarded|go_step|go_upon|(simp only [];go_at_K))
  exact bodyPost_ret (v:=.tuple #[]) (results_none rfl _ _ _) rfl ⟨rfl,KEY.out⟩
 | true=>
  rw [hd] at q3
  obtain ⟨R,hR⟩:∃R,M.pl.restart=R:=⟨_,rfl⟩
  have HR:=Lib.hid (show R=(readB M.db).1.foldl Site.recall {Site.new M.me M.n M.pat with db:=M.db.take (readB M.db).2,dn:=min M.dn (readB M.db).2} by
   rw [←hR];unfold Site.restart;rw [if_pos (show M.pl.down=true from hd)];rfl)
  rw [hR]
  have q0:w.drew.cell? ⟨M.gs,0,none⟩=some (.int .i64 (M.me:Int)):=h.drew.blk.cell 0
  have q1:w.drew.cell? ⟨M.gs,1,none⟩=some (.int .i64 (M.n:Int)):=h.drew.blk.cell 1
  have q2:w.drew.cell? ⟨M.gs,2,none⟩=some (.int .i64 (M.pat:Int)):=h.drew.blk.cell 2
  have ht:timerOk M.me M.n M.pat=true:=by
   have h1:M.me < M.n:=h.ok.me
   have h2:3≤M.n:=h.ok.n3
   have h3:M.n≤7:=h.ok.n7
   have h4:1≤M.pat∧M.pat≤1000:=h.ok.pat
   simp only [timerOk,Bool.and_eq_true,decide_eq_true_eq];omega
  have C1:=timerNew w.drew M.me M.n M.pat ht
  rw [SiteV.ptr]
  clear hR ht
  go_enter Tryz.func25,Tryz.ntmps25
  repeat' (first|go_values|go_skip|go_guarded|go_step|go_upon|(simp only [];go_at_K))
  go_cut [2,3] from 8 (fun s2 s3 wc=>∃gw:Nat,s2= .pointer (some ⟨gw,0,none⟩)∧s3= .int .i64 0∧WtS wc gw M.me M.n M.pat [0,0,0,0,0,0,0]∧Upd [] [gw] w wc)
  case first=>
   go_region_held3 (fun w'=>w'.cell? ⟨M.gs,0,none⟩=some (.int .i64 (M.me:Int))∧w'.cell? ⟨M.gs,1,none⟩=some (.int .i64 (M.n:Int))∧w'.cell? ⟨M.gs,2,none⟩=some (.int .i64 (M.pat:Int))) (first | exact ⟨q0,q1,q2⟩ | exact ⟨q0b,q1b,q2b⟩)
    (first
     | (go_at_call 70;(with_reducible refine C1.mono ?_);rintro e w1 ⟨gw,rfl,hw1,hu1⟩;have q0b:=hu1.cell q0 (by simp);have q1b:=hu1.cell q1 (by simp);have q2b:=hu1.cell q2 (by simp)))
   all_goals (repeat' ((fail_if_success (with_reducible refine stop_append rfl ?_));first | go_values | go_skip | go_guarded | go_step | go_upon | (simp only [];go_at_K)))
   all_goals go_meet
   all_goals exact ⟨gw,rfl,rfl,hw1,((Upd.refl [] w).drew.trans hu1)⟩
  case rest=>
   obtain ⟨gw,rfl,rfl,hwt,U1⟩:=hcut
   clear C1 q0 q1 q2 q3
   repeat' (first|go_values|go_skip|go_guarded|go_step|go_upon|(simp only [];go_at_K))
   ((with_reducible refine (siteBorn wc gw).mono ?_);rintro e w3 ⟨bs,gl,bl,br,rfl,hm1,hL,hm2,hne,hu3⟩)
   obtain ⟨M4,h4,hp4,hg4,hgd4,U4⟩:=h.reborn hwt U1 hm1 hL hm2 hne hu3
   have h3:=(h.upd0 U1).upd0 hu3
   have K3:Blk w3 M.gs 124 #[.int .i64 (M.me:Int),.int .i64 (M.n:Int),.int .i64 (M.pat:Int),.bool M.down,.pointer (some ⟨M.gd,0,none⟩),.map (some M.bs),.int .i64 M.top,
    .pointer (some ⟨M.gl,0,none⟩),.map (some M.br),.int .i64 (M.nx:Int),.pointer (some ⟨M.gw,0,none⟩),.slice M.Ah M.held.length M.ch]:=h3.blk
   obtain ⟨⟨z0,z1,z2,z3,z4,z5,z6,z7,z8,z9,z10,z11⟩,f0,f1,f2,f3,f4,f5,f6,f7,f8,f9,f10,f11⟩:=K3.c12
   clear hwt U1 hm1 hL hm2 hne hu3 h h3 K3
   repeat' (first|go_values|go_skip|go_guarded|go_step|go_upon|(simp only [];go_at_K))
   generalize hW:World.setCell _ _ _=w4
   rw [set57,hW] at h4 U4
   clear hW z0 z1 z2 z3 z4 z5 z6 z7 z8 z9 z10 z11 f0 f1 f2 f3 f4 f5 f6 f7 f8 f9 f10 f11
   have e5:M4.db=M.db:=congrArg Site.db hp4
   have e6:M4.dn=M.dn:=congrArg Site.dn hp4
   have C5:=diskBytes w4 M4.gd M4.Ad M4.db.length M4.cd M4.db M4.dn h4.dsk
   rw [hgd4] at C5
   ((with_reducible refine C5.mono ?_);rintro e w5 ⟨A5,n5,c5,rfl,ho5,hu5⟩)
   have h5:=h4.upd0 hu5
   have hlen:=h4.dsk.len
   have hcap:=ho5.own.cap
   rw [e5] at ho5 hlen
   clear C5 h4
   repeat' (first|go_values|go_skip|go_guarded|go_step|go_upon|(simp only [];go_at_K))
   ((with_reducible refine (alogRead_all w5 A5 n5 c5 M.db ho5.rd hcap.1 hcap.2 (by omega)).mono ?_);rintro e w6 ⟨A1,k1,c1,xs,rfl,hxs,hR6,hu6⟩)
   have h6:=h5.upd0 hu6
   have U6:=U4.trans (((hu5.gives (b':=[]) (by simp)).trans (hu6.gives (b':=[]) (by simp))).up M4.fp)
   obtain ⟨hK1,hK2,hK3⟩:=readB_ok M.db
   rw [←hxs] at hK3 HR
   obtain ⟨K,hK⟩:∃K,(readB M.db).2=K:=⟨_,rfl⟩
   rw [hK] at hK1 HR ⊢
   have C7:=diskCut w6 M4.gd M4.Ad M4.db.length M4.cd M4.db M4.dn h6.dsk K (by rw [e5];exact hK1)
   rw [hgd4] at C7
   have q4:w6.cell? ⟨M.gs,4,none⟩=some (.pointer (some ⟨M.gd,0,none⟩)):=by
    have:=h6.blk.cell 4
    rw [hg4] at this
    rw [this,←hgd4];rfl
   clear h5 hu5 hu6 ho5 hK hK2 hxs hcap U4
   repeat' (first|go_values|go_skip|go_guarded|go_step|go_upon|(simp only [];go_at_K))
   ((with_reducible refine C7.mono ?_);rintro e w7 ⟨rfl,hD7,hu7⟩)
   have hlen7:(M4.db.take K).length=K:=by rw [List.length_take,e5];omega
   rw [←hgd4] at hD7 hu7
   obtain ⟨h7,V7⟩:=h6.disk (A':=M4.Ad) (c':=K) (db':=M4.db.take K) (dn':=min M4.dn K) (hu7.mono (by simp) (fun k hk=>.inr (.inl hk))) (by rw [hlen7];exact hD7) (h6.ok.disk _ _)
   have hXd:∀k∈[M4.gd],tagW w6 k=some (some 197):=by simp only [List.mem_singleton];rintro k rfl;exact h6.td
   have hR7:=hR6.upd hu7 (tag_offs hR6.own.tag hXd (by decide)) (fun x hx=>tag_offs (hR6.each x hx).own.tag hXd (by decide))
   obtain ⟨M7,hM7⟩:∃M7:SiteV,{M4 with Ad:=M4.Ad,cd:=K,db:=M4.db.take K,dn:=min M4.dn K} =M7:=⟨_,rfl⟩
   rw [hM7] at h7 V7
   have hg7:M7.gs=M.gs:=by rw [←hM7];exact hg4
   have hp7:M7.pl= {({Site.new M.me M.n M.pat with db:=M.db.take K,dn:=min M.dn K} :Site) with down:=true}:=by
    rw [←hM7]
    show ({M4.pl with db:=M4.db.take K,dn:=min M4.dn K} :Site)=_
    rw [hp4,e5,e6,hd]
   have U7:=U6.trans V7
   have hkx:=hR7.len
   obtain ⟨N0,hN0⟩:∃N0:Site,{Site.new M.me M.n M.pat with db:=M.db.take K,dn:=min M.dn K} =N0:=⟨_,rfl⟩
   have HN:=Lib.hid (show N0.down=false by rw [←hN0];rfl)
   rw [hN0] at HR hp7
   clear C7 q4 hR6 h6 hu7 hD7 hlen7 hXd hM7 U6 V7 e5 e6 hK1 hlen hN0 hp4 hgd4 hg4 hd
   repeat' (first|go_values|go_skip|go_guarded|go_step|go_upon|(simp only [];go_at_K))
   go_loopw [57] (fun v57 wr=>KeptR (∃(i:Nat) (Mi:SiteV),i≤xs.length∧v57= .int .i64 (i:Int)∧SiteS wr Mi∧Mi.pl=((rcs xs).take i).foldl Site.recall M7.pl∧Mi.gs=M.gs∧OwnR wr A1 k1 c1 xs∧Upd M.fp Mi.fp w wr)) (fun v57 _=>xs.length - (intOf v57).toNat)
   case atStart=>exact KeptR.mk ⟨0,M7,by omega,rfl,h7,rfl,hg7,hR7,U7⟩
   case round=>
    obtain ⟨i,Mi,hi,rfl,hS,hp,hg,hR,U⟩:=hrel.out
    clear hrel h7 hR7 U7 hg7
    by_cases hlt:i < xs.length
    ·have hil:(i:Int) < (k1:Int):=by omega
     have hw1:IntKind.i64.wrap ((i:Int) + 1)=(i:Int) + 1:=by
      have h1:=hR.own.cap
      unfold maxLen at h1
      rw [IntKind.wrap_i64];omega
     obtain ⟨ad,rfl,d0,d1,d2,d3,d4⟩:=hR.rvs.at_ hlt
     have HX:=Lib.hid (show ((rcs xs).take (i + 1)).foldl Site.recall M7.pl=Mi.pl.recall xs[i].rc by
      rw [hp,List.take_succ_eq_append_getElem (by unfold rcs;simpa using hlt),List.foldl_append]
      unfold rcs;rw [List.getElem_map];rfl)
     have hMx:xs[i].rc.May:=hK3 _ (by unfold rcs;exact List.mem_map_of_mem (List.getElem_mem hlt))
     have hrx:=(hR.each _ (List.getElem_mem hlt)).rd
     generalize xs[i]=y at *
     obtain ⟨W2,G,eW2,hG,hB2,U2⟩:=boxes1 wr 147 #[.int .i64 y.k,.int .i64 y.s,.int .i64 y.r,.int .i64 y.t,.slice y.A y.n y.c]
     have hS2:=hS.upd0 U2
     have hR2:=hR.upd0 U2
     have C:=siteRecall W2 Mi hS2 y (hrx.upd U2 (by simp)) hMx
     rw [SiteV.ptr,hg,Rv.val_eq] at C
     obtain ⟨⟨b0,b1,b2,b3,b4⟩,-⟩:=hB2.c5
     have hfar:∀(e:TypeId) (ks:List Nat),(∀k∈ks,tagW W2 k=some (some e))→e≠124→∀k∈ks,k∉[Mi.gs,Mi.bs]:=fun e ks ht hne k hk hm=>by
      simp only [List.mem_cons,List.not_mem_nil,or_false] at hm
      rcases hm with rfl | rfl
      ·exact tag_ne (ht _ hk) hS2.tg (by simpa using hne) rfl
      ·exact tag_ne (ht _ hk) hS2.ts (by simp) rfl
     have hf1:=hfar _ _ hR2.own.tag (by decide)
     have hf2:=fun x hx=>hfar _ _ ((hR2.each x hx).own.tag) (by decide)
     simp only [hg] at hf1 hf2
     have U02:=U.trans (U2.up Mi.fp)
     clear hS hR U U2 hB2 hp hrx hfar hS2
     repeat' (first|go_values|go_skip|go_guarded|go_step|go_upon|(simp only [];go_at_K))
     ((with_reducible refine C.mono ?_);rintro e w3 ⟨rfl,⟨M8,h8,hp8,hg8,-,U8⟩,V8⟩)
     have hR8:=hR2.upd V8 hf1 hf2
     clear C hR2 V8 hf1 hf2
     repeat' (first|go_values|go_skip|go_guarded|go_step|go_upon|(simp only [];go_at_K))
     exact ⟨KeptR.mk ⟨i + 1,M8,by omega,by simp,h8,by rw [hp8,HX.out],hg8.trans hg,hR8,U02.trans U8⟩,by simp [intOf];omega⟩
    ·obtain rfl:i=xs.length:=by omega
     have hil:¬ ((xs.length:Int) < (k1:Int)):=by omega
     have hfin:Mi.pl= {N0 with down:=true}.recalls (rcs xs):=by
      rw [hp,hp7,List.take_of_length_le (by unfold rcs;simp)];rfl
     rw [Site.recalls_down] at hfin
     have f3:wr.frozen? ⟨M.gs,3,none⟩=false:=by rw [←hg];exact hS.blk.frozen 3
     have t3:wr.cell? ⟨M.gs,3,none⟩=some (.bool Mi.down):=by rw [←hg];exact hS.blk.cell 3
     have u2:Upd [Mi.gs] [Mi.gs] wr (wr.setCell ⟨Mi.gs,3,none⟩ (.bool false)):=(Upd.refl [Mi.gs] wr).setCell (p:=⟨Mi.gs,3,none⟩) (.inl (by simp)) _
     have hB2:=hS.blk.set_ 3 (.bool false)
     have h2:=hS.scal false Mi.top Mi.nx u2 (by simpa [SiteV.cells] using hB2) ⟨hS.ok.me,hS.ok.n3,hS.ok.n7,hS.ok.pat,hS.ok.st,hS.ok.rs,hS.ok.top,hS.ok.nx,hS.ok.held⟩
     obtain ⟨M3,hM3⟩:∃M3:SiteV,{Mi with down:=false,top:=Mi.top,nx:=Mi.nx} =M3:=⟨_,rfl⟩
     rw [hM3] at h2
     have hN:N0.down=false:=by
      have h1:=congrArg Site.down hp7
      exact HN.out
     have hp3:M3.pl=R:=by
      rw [HR.out,←hM3]
      show ({Mi.pl with down:=false} :Site)=_
      rw [hfin]
      exact Site.recalls_up _ _ hN
     have hg3:M3.gs=Mi.gs∧M3.fp=Mi.fp:=by rw [←hM3];exact ⟨rfl,rfl⟩
     have U2:=U.trans (u2.mono (a':=Mi.fp) (b':=Mi.fp) (fun k hk=>by simp only [List.mem_singleton] at hk;subst hk;simp [SiteV.fp]) (fun k hk=>.inr (.inl hk)))
     have KEY:=Lib.hid (show Gone w (wr.setCell ⟨M.gs,3,none⟩ (.bool false)) M R from ⟨M3,by rw [←hg];exact h2,hp3,hg3.1.trans hg,by rw [←hg,hg3.2];exact U2⟩)
     clear hS h2 U U2 u2 hB2 hp hfin hM3 hp3 hg3 hR hN hp7
     repeat' (first|go_values|go_skip|go_guarded|go_step|go_upon|(simp only [];go_at_K))
     exact bodyPost_end (results_none rfl _ _ _) rfl ⟨rfl,KEY.out⟩
end Go.Proofs.YtijhlbeipglieaaGreat
namespace Go.Proofs.YtijhlbeipglieaaGreat
instance noBan:Ban:=⟨[]⟩
theorem noBan_lt (n:Nat):∀k∈(Ban.X:List Nat),k < n:=fun k hk=>by cases hk
end Go.Proofs.YtijhlbeipglieaaGreat
