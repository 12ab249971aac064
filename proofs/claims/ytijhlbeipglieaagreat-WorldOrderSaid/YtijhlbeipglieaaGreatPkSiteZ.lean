/- Merged: SiteY, SiteZ. -/
import Derived.Test.YtijhlbeipglieaaGreatPkSiteF
import Derived.Test.YtijhlbeipglieaaGreatPkSu
set_option linter.all false
set_option maxRecDepth 100000
set_option maxHeartbeats 4000000
namespace Go.Proofs.YtijhlbeipglieaaGreat
open Go.RowKit Agio Go.Maps
variable [Ban]
theorem siteCrash (w:World) (M:SiteV) (h:SiteS w M) (k:Int) :
  Calls Tryz.prog 23 #[M.ptr,.int .i64 k] w fun e w'=>e= .returned (.tuple #[])∧Gone w w' M (M.pl.crash k):=by
 have C0:=siteDown w M h
 have C1:=diskCrash w M.gd M.Ad M.db.length M.cd M.db M.dn h.dsk k
 have q4:w.cell? ⟨M.gs,4,none⟩=some (.pointer (some ⟨M.gd,0,none⟩)):=h.blk.cell 4
 obtain ⟨R,hR⟩:∃R,M.pl.crash k=R:=⟨_,rfl⟩
 have HR:=Lib.hid (show R=if M.down=true then M.pl else {M.pl with db:=M.db.take (keptN M.db.length M.dn k),dn:=keptN M.db.length M.dn k,down:=true} from hR.symm)
 rw [hR]
 clear hR
 rw [SiteV.ptr]
 rw [show M.pl.down=M.down from rfl,SiteV.ptr] at C0
 cases hd:M.down with
 | true=>
  rw [hd] at C0
  have KEY:=Lib.hid (show Gone w w M R from ⟨M,h,by rw [HR.out,if_pos hd],rfl,Upd.refl _ _⟩)
  clear h C1
  go_enter Tryz.func23,Tryz.ntmps23
  repeat' (first|go_values|go_skip|go_guarded|go_step|go_upon|(simp only [];go_at_K))
  ((with_reducible refine C0.mono ?_);rintro e w1 ⟨rfl,rfl⟩)
  repeat' (first|go_values|go_skip|go_guarded|go_step|go_upon|(simp only [];go_at_K))
  exact bodyPost_ret (v:=.tuple #[]) (results_none rfl _ _ _) rfl ⟨rfl,KEY.out⟩
 | false=>
  rw [hd] at C0
  go_enter Tryz.func23,Tryz.ntmps23
  repeat' (first|go_values|go_skip|go_guarded|go_step|go_upon|(simp only [];go_at_K))
  ((with_reducible refine C0.mono ?_);rintro e w1 ⟨rfl,rfl⟩)
  repeat' (first|go_values|go_skip|go_guarded|go_step|go_upon|(simp only [];go_at_K))
  ((with_reducible refine C1.mono ?_);rintro e w1 ⟨rfl,hD1,hu1⟩)
  have hlen:(M.db.take (keptN M.db.length M.dn k)).length=keptN M.db.length M.dn k:=by
   rw [List.length_take]
   have h1:=h.dsk.s
   unfold keptN
   omega
  obtain ⟨K,hK⟩:∃K,keptN M.db.length M.dn k=K:=⟨_,rfl⟩
  rw [hK] at hD1 hlen
  have HRK:=Lib.hid (show R= {M.pl with db:=M.db.take K,dn:=K,down:=true} by rw [HR.out,if_neg (by rw [hd];simp),hK])
  obtain ⟨h1,V1⟩:=h.disk (A':=M.Ad) (c':=K) (db':=M.db.take K) (dn':=K) (hu1.mono (by simp) (fun k hk=>.inr (.inl hk))) (by rw [hlen];exact hD1) (h.ok.disk _ _)
  obtain ⟨M1,hM1⟩:∃M1:SiteV,{M with Ad:=M.Ad,cd:=K,db:=M.db.take K,dn:=K} =M1:=⟨_,rfl⟩
  rw [hM1] at h1 V1
  have hg1:M1.gs=M.gs:=by rw [←hM1]
  have f3:w1.frozen? ⟨M.gs,3,none⟩=false:=by rw [←hg1];exact h1.blk.frozen 3
  have t3:w1.cell? ⟨M.gs,3,none⟩=some (.bool M1.down):=by rw [←hg1];exact h1.blk.cell 3
  have u2:Upd [M1.gs] [M1.gs] w1 (w1.setCell ⟨M1.gs,3,none⟩ (.bool true)):=(Upd.refl [M1.gs] w1).setCell (p:=⟨M1.gs,3,none⟩) (.inl (by simp)) _
  have hB2:=h1.blk.set_ 3 (.bool true)
  have h2:=h1.scal true M1.top M1.nx u2 (by simpa [SiteV.cells] using hB2) ⟨h1.ok.me,h1.ok.n3,h1.ok.n7,h1.ok.pat,h1.ok.st,h1.ok.rs,h1.ok.top,h1.ok.nx,h1.ok.held⟩
  obtain ⟨M3,hM3⟩:∃M3:SiteV,{M1 with down:=true,top:=M1.top,nx:=M1.nx} =M3:=⟨_,rfl⟩
  rw [hM3] at h2
  have hp3:M3.pl= {M.pl with db:=M.db.take K,dn:=K,down:=true}:=by rw [←hM3,←hM1];rfl
  have hg3:M3.gs=M1.gs∧M3.fp=M1.fp:=by rw [←hM3];exact ⟨rfl,rfl⟩
  have U2:=V1.trans (u2.mono (a':=M1.fp) (b':=M1.fp) (fun k hk=>by simp only [List.mem_singleton] at hk;subst hk;simp [SiteV.fp]) (fun k hk=>.inr (.inl hk)))
  have KEY:=Lib.hid (show Gone w (w1.setCell ⟨M.gs,3,none⟩ (.bool true)) M R from ⟨M3,by rw [←hg1];exact h2,by rw [HRK.out,hp3],hg3.1.trans hg1,by rw [←hg1,hg3.2];exact U2⟩)
  clear h h1 h2 V1 U2 u2 hB2 C0 C1 hD1 hu1 hM1 hM3 hp3 hg3
  repeat' (first|go_values|go_skip|go_guarded|go_step|go_upon|(simp only [];go_at_K))
  exact bodyPost_end (results_none rfl _ _ _) rfl ⟨rfl,KEY.out⟩
end Go.Proofs.YtijhlbeipglieaaGreat
namespace Go.Proofs.YtijhlbeipglieaaGreat
open Go.RowKit Agio Go.Maps
variable [Ban]
theorem siteTurnF (w:World) (M:SiteV) (h:SiteS w M) (x:Int) (hx:0≤x∧x < 4096) (y:Sta) (hy:BytS w y.sl) (hbad:∀k∈ablk y.A,k∉M.bans) (hp:y.b.length≤2048∧y.p.may 7=true∧y.at_.may 7=true) :
  Calls Tryz.prog 131 #[M.ptr,.int .i64 x,y.val] w fun e w'=>e= .returned (.tuple #[])∧Goes w w' M (M.pl.turn x y.pl)∧Upd [M.gs,M.bs] [M.gs,M.bs] w w':=by
 have hwf:(Lit.int .i64 x).wf=true:=wfI (by omega) (by omega)
 obtain ⟨W,H,eW,hH,hB,U0⟩:=boxes1 w 37 #[.int .i64 y.p.r,.int .i64 y.p.s,.bool y.so,.int .i64 y.at_.r,.int .i64 y.at_.s,.slice y.A y.n y.c]
 have h1:=h.upd0 U0
 have hy1:=hy.upd0 U0
 obtain ⟨w3,hrun,hm3,U3⟩:=h1.drew.sts.store Tryz.underlying3 Tryz.underlying117 (by rw [mapG_len];have:=h.stLen;unfold maxLen;omega) hwf y.val
 rw [putK_G,←putG_map] at hm3
 have hokT:=h.ok.turn hx (y:=y.pl) hp
 have hok1:({M with st:=putG x y M.st} :SiteV).pl.Ok:=by
  refine ⟨h.ok.me,h.ok.n3,h.ok.n7,h.ok.pat,?_,h.ok.rs,h.ok.top,h.ok.nx,h.ok.held⟩
  have:=hokT.st
  simp only [Site.turn] at this
  rw [show (({M with st:=putG x y M.st} :SiteV).pl.st)=putG x y.pl (mapG Sta.pl M.st) from putG_map Sta.pl x y M.st]
  exact this
 obtain ⟨h3,V3⟩:=h1.drew.stats U3 hm3 (fun p hp=>by
  rcases mem_putG.1 hp with rfl | ⟨hp,-⟩
  ·exact ⟨hy1.upd0 (Upd.refl [] W).drew,hbad⟩
  ·have:p.2.sl∈M.bytes:=by simp only [SiteV.bytes,List.mem_append];exact .inl (List.mem_map.2 ⟨_,hp,rfl⟩)
   exact ⟨h1.drew.byt _ this,h1.bad _ this⟩) hok1
 have hB5:=h3.blk.set_ 6 (.int .i64 (max M.top (x + 1)))
 have u5:Upd [M.gs] [M.gs] w3 (w3.setCell ⟨M.gs,6,none⟩ (.int .i64 (max M.top (x + 1)))):=(Upd.refl [M.gs] w3).setCell (p:=⟨M.gs,6,none⟩) (.inl (by simp)) _
 have hpl:({M with st:=putG x y M.st,top:=max M.top (x + 1)} :SiteV).pl=M.pl.turn x y.pl:=by
  unfold SiteV.pl Site.turn
  simp only [putG_map]
 have h6:=h3.scal M.down (max M.top (x + 1)) M.nx u5 (by simpa [SiteV.cells] using hB5) (by rw [show ({({M with st:=putG x y M.st} :SiteV) with down:=M.down,top:=max M.top (x + 1),nx:=M.nx} :SiteV).pl=M.pl.turn x y.pl from hpl];exact hokT)
 have V6:Upd M.fp M.fp w (w3.setCell ⟨M.gs,6,none⟩ (.int .i64 (max M.top (x + 1)))):=(((U0.up M.fp).drew.trans V3).gives (fun k hk=>.inl hk)).trans (u5.mono (fun k hk=>by simp only [List.mem_singleton] at hk;subst hk;simp [SiteV.fp]) (fun k hk=>.inr (.inl hk)))
 have V7:Upd [M.gs,M.bs] [M.gs,M.bs] w (w3.setCell ⟨M.gs,6,none⟩ (.int .i64 (max M.top (x + 1)))):=((U0.up [M.gs,M.bs]).drew.trans (U3.mono (fun k hk=>by simp only [List.mem_singleton] at hk;subst hk;simp) (fun k hk=>.inr (.inl hk)))).trans (u5.mono (fun k hk=>by simp only [List.mem_singleton] at hk;subst hk;simp) (fun k hk=>.inr (.inl hk))) |>.gives (fun k hk=>.inl hk)
 have KEY:=Lib.hid (show Goes w (w3.setCell ⟨M.gs,6,none⟩ (.int .i64 (max M.top (x + 1)))) M (M.pl.turn x y.pl)∧Upd [M.gs,M.bs] [M.gs,M.bs] w (w3.setCell ⟨M.gs,6,none⟩ (.int .i64 (max M.top (x + 1)))) from ⟨⟨_,h6,hpl,rfl,rfl,V6⟩,V7⟩)
 have q5:W.drew.cell? ⟨M.gs,5,none⟩=some (.map (some M.bs)):=h1.blk.cell 5
 have q6:w3.cell? ⟨M.gs,6,none⟩=some (.int .i64 M.top):=h3.blk.cell 6
 have f6:w3.frozen? ⟨M.gs,6,none⟩=false:=h3.blk.frozen 6
 have hw1:IntKind.i64.wrap (x + 1)=x + 1:=by rw [IntKind.wrap_i64];omega
 obtain ⟨⟨a0,a1,a2,a3,a4,a5⟩,-⟩:=hB.drew.c6
 rw [SiteV.ptr]
 simp only [Sta.val] at hrun ⊢
 clear hokT hok1 h3 V3 h6 hpl V6 V7 hB5 u5 hm3 U3 hp hbad hy hy1 h h1 U0
 go_enter Tryz.func131,Tryz.ntmps131
 repeat' (first|go_values|go_skip|go_guarded|go_step|go_upon|(simp only [];go_at_K))
 go_region_law (first
  | (refine step_mapU rfl (.tmp 10) (.tmp 11) (.tmp 12) 117 rfl (.map (some M.bs)) (.int .i64 x) _ w3 rfl rfl rfl hrun ?_))
 all_goals (repeat' ((fail_if_success (with_reducible refine stop_append rfl ?_));first | go_values | go_skip | go_guarded | go_step | go_upon | (simp only [];go_at_K)))
 all_goals
  rw [show (if M.top < x + 1 then x + 1 else M.top)=max M.top (x + 1) by split <;> omega]
  exact bodyPost_end (results_none rfl _ _ _) rfl ⟨rfl,KEY.out⟩
theorem siteRecall (w:World) (M:SiteV) (h:SiteS w M) (r:Rv) (hr:RdB w r.A r.n r.b) (hm:r.rc.May) :
  Calls Tryz.prog 75 #[M.ptr,r.val] w fun e w'=>e= .returned (.tuple #[])∧Goes w w' M (M.pl.recall r.rc)∧Upd [M.gs,M.bs] [M.gs,M.bs] w w':=by
 have hslot:0≤r.s∧r.s≤4095:=hm.slot
 have hwf:(Lit.int .i64 r.s).wf=true:=wfI (by omega) (by omega)
 have hbm:(⟨r.r,r.t⟩:Bl).may 7=true:=Bl.may7.2 ⟨hm.round,hm.site⟩
 obtain ⟨W,H,eW,hH,hB,U0⟩:=boxes1 w 147 #[.int .i64 r.k,.int .i64 r.s,.int .i64 r.r,.int .i64 r.t,.slice r.A r.n r.c]
 have h1:=h.upd0 U0
 have U0':=U0.gives (b':=[]) (by simp)
 obtain ⟨hb1,hb2,hb3⟩:=h1.sta_in r.s
 have hst:=h.ok.stat r.s
 rw [←SiteV.sta_pl] at hst
 obtain ⟨R,hR⟩:∃R,M.pl.recall r.rc=R:=⟨_,rfl⟩
 have HR:=Lib.hid (show R=if r.k=1 then M.pl.turn r.s {(M.sta r.s).pl with p:=⟨r.r,r.t⟩} else if cmpB ⟨r.r,r.t⟩ (M.sta r.s).p < 0 then M.pl else M.pl.turn r.s ⟨⟨r.r,r.t⟩,true,⟨r.r,r.t⟩,r.b⟩ by
  rw [←hR];unfold Site.recall;rw [←SiteV.sta_pl];rfl)
 rw [hR]
 clear hR
 have hl1:(Instr.lookup 117 (.map (some M.bs)) (.int .i64 r.s) false).run Tryz.prog W.drew= .ok (M.sta r.s).val W.drew:=h1.drew.look hwf
 have hl0:(Instr.lookup 117 (.map (some M.bs)) (.int .i64 r.s) false).run Tryz.prog W= .ok (M.sta r.s).val W:=h1.look hwf
 obtain ⟨Z,hZ⟩:∃Z:World,W.alloc (.cells #[.int .i64 0,.int .i64 0,.bool false,.int .i64 0,.int .i64 0,.slice none 0 0] 37)=Z:=⟨_,rfl⟩
 have UZ:Upd [] [] W Z:=by rw [←hZ];exact (Upd.refl [] W).alloc _
 have hl2:(Instr.lookup 117 (.map (some M.bs)) (.int .i64 r.s) false).run Tryz.prog Z.drew= .ok (M.sta r.s).val Z.drew:=(h1.upd0 UZ).drew.look hwf
 have hl3:(Instr.lookup 117 (.map (some M.bs)) (.int .i64 r.s) false).run Tryz.prog (W.drew.alloc (.cells #[.int .i64 0,.int .i64 0,.bool false,.int .i64 0,.int .i64 0,.slice none 0 0] 37))= .ok (M.sta r.s).val (W.drew.alloc (.cells #[.int .i64 0,.int .i64 0,.bool false,.int .i64 0,.int .i64 0,.slice none 0 0] 37)):=(h1.drew.upd0 ((Upd.refl [] W.drew).alloc _)).look hwf
 have hl4:(Instr.lookup 117 (.map (some M.bs)) (.int .i64 r.s) false).run Tryz.prog (W.alloc (.cells #[.int .i64 0,.int .i64 0,.bool false,.int .i64 0,.int .i64 0,.slice none 0 0] 37)).drew= .ok (M.sta r.s).val (W.alloc (.cells #[.int .i64 0,.int .i64 0,.bool false,.int .i64 0,.int .i64 0,.slice none 0 0] 37)).drew:=(h1.upd0 ((Upd.refl [] W).alloc _)).drew.look hwf
 have hl5:(Instr.lookup 117 (.map (some M.bs)) (.int .i64 r.s) false).run Tryz.prog (W.alloc (.cells #[.int .i64 0,.int .i64 0,.bool false,.int .i64 0,.int .i64 0,.slice none 0 0] 37))= .ok (M.sta r.s).val (W.alloc (.cells #[.int .i64 0,.int .i64 0,.bool false,.int .i64 0,.int .i64 0,.slice none 0 0] 37)):=(h1.upd0 ((Upd.refl [] W).alloc _)).look hwf
 have BZ:Blk Z W.heap.size 37 #[.int .i64 0,.int .i64 0,.bool false,.int .i64 0,.int .i64 0,.slice none 0 0]:=by rw [←hZ];exact Blk.new _ _ _
 have q5:W.cell? ⟨M.gs,5,none⟩=some (.map (some M.bs)):=h1.blk.cell 5
 have s5:Z.cell? ⟨M.gs,5,none⟩=some (.map (some M.bs)):=(h1.upd0 UZ).blk.cell 5
 have hBZ:=hB.upd UZ (by simp)
 obtain ⟨⟨a0,a1,a2,a3,a4⟩,-⟩:=hB.c5
 obtain ⟨⟨b0,b1,b2,b3,b4⟩,-⟩:=hBZ.c5
 have hbyt:=hb1
 have y1:(W.alloc (.cells #[.int .i64 0,.int .i64 0,.bool false,.int .i64 0,.int .i64 0,.slice none 0 0] 37)).cell? ⟨H,1,none⟩=some (.int .i64 r.s):=(hB.alloc _).cell 1
 have y5:(W.alloc (.cells #[.int .i64 0,.int .i64 0,.bool false,.int .i64 0,.int .i64 0,.slice none 0 0] 37)).cell? ⟨M.gs,5,none⟩=some (.map (some M.bs)):=(h1.upd0 ((Upd.refl [] W).alloc _)).blk.cell 5
 obtain ⟨⟨k0,k1,k2,k3,k4,k5⟩,e0,e1,e2,e3,e4,e5⟩:=BZ.drew.c6
 generalize M.sta r.s=y at *
 simp only [Sta.val] at hl0 hl1 hl2 hl3 hl4 hl5
 clear hl2 hBZ BZ UZ b0 b1 b2 b3 b4 k0 k1 k2 k3 k4 k5 e0 e1 e2 e3 e4 e5 s5 hZ
 rw [SiteV.ptr,Rv.val_eq]
 go_enter Tryz.func75,Tryz.ntmps75
 repeat' (first|go_values|go_skip|go_guarded|go_step|go_upon|(simp only [];go_at_K))
 go_cut [4] from 7 (fun s4 wc=>∃g:Nat,s4= .pointer (some ⟨g,0,none⟩)∧Blk wc g 37 #[.int .i64 y.p.r,.int .i64 y.p.s,.bool y.so,.int .i64 y.at_.r,.int .i64 y.at_.s,.slice y.A y.n y.c]∧W.heap.size≤g∧Upd [] [] W wc)
 case first=>
  go_region_law (fail)
  all_goals (repeat' (first | go_values | go_skip | go_guarded | go_step | go_upon | (simp only [];go_at_K)))
  all_goals go_meet
  all_goals exact ⟨W.heap.size,rfl,(Blk.new W _ _).drew,Nat.le_refl _,((Upd.refl [] W).alloc _).drew⟩
 case rest=>
  obtain ⟨g,rfl,hBz,hgs,U1⟩:=hcut
  have h2:=h1.upd0 U1
  have hBr:=hB.upd U1 (by simp)
  have hy2:=hbyt.upd0 U1
  have UX:=U0'.trans U1
  have hfl:=h.lt
  have hs0:=U0.size
  have hgf:g∉M.fp:=fun hk=>by have:=hfl g hk;omega
  have hgH:H≠g:=by have:=hB.lt;omega
  clear a0 a1 a2 a3 a4 y1 y5 q5 hl0 hl1 hl3 hl4 hl5
  obtain ⟨⟨a0,a1,a2,a3,a4⟩,-⟩:=hBr.c5
  obtain ⟨⟨z0,z1,z2,z3,z4,z5⟩,f0,f1,f2,f3,f4,f5⟩:=hBz.c6
  by_cases hk:r.k=1
  ·have d1:(r.k == 1)=true:=by rw [hk];rfl
   have HRK:=Lib.hid (show R=M.pl.turn r.s {y.pl with p:=⟨r.r,r.t⟩} by rw [HR.out,if_pos hk])
   have K:=(hBz.set_ 0 (.int .i64 r.r)).set_ 1 (.int .i64 r.t)
   have u3:Upd [g] [g] wc ((wc.setCell ⟨g,0,none⟩ (.int .i64 r.r)).setCell ⟨g,1,none⟩ (.int .i64 r.t)):=((Upd.refl [g] wc).setCell (p:=⟨g,0,none⟩) (.inl (by simp)) _).setCell (p:=⟨g,1,none⟩) (.inl (by simp)) _
   have h3:=h2.set hBz (by decide) hgf u3
   have KB:=hBr.upd u3 (by simpa using hgH)
   have hX:∀k∈[g],tagW wc k=some (some 37):=by simp only [List.mem_singleton];rintro k rfl;exact hBz.tag
   have hy3:=hy2.upd u3 (tag_offs hy2.tag hX (by decide))
   obtain ⟨w3,hw3⟩:∃X,(wc.setCell ⟨g,0,none⟩ (.int .i64 r.r)).setCell ⟨g,1,none⟩ (.int .i64 r.t)=X:=⟨_,rfl⟩
   rw [hw3] at K u3 h3 KB hy3
   have C:=siteTurnF w3 M h3 r.s (by omega) {y with p:=⟨r.r,r.t⟩} hy3 hb2 ⟨hb3,hbm,hst.2.2⟩
   have K6:Blk w3 g 37 #[.int .i64 r.r,.int .i64 r.t,.bool y.so,.int .i64 y.at_.r,.int .i64 y.at_.s,.slice y.A y.n y.c]:=K
   obtain ⟨⟨x0,x1,x2,x3,x4,x5⟩,-⟩:=K6.c6
   obtain ⟨⟨c0,c1,c2,c3,c4⟩,-⟩:=KB.c5
   simp only [SiteV.ptr,Sta.val] at C
   have U3:=UX.own (g:=g) (by omega) u3
   have HK:=Lib.hid hk
   clear hk HR K K6 KB h3 h2 hBz hBr u3
   repeat' (first|go_values|go_skip|go_guarded|go_step|go_upon|(simp only [];go_at_K))
   ((with_reducible refine C.mono ?_);rintro e w4 ⟨rfl,⟨M4,h4,hp4,hg4,hr4,U4⟩,V4⟩)
   repeat' (first|go_values|go_skip|go_guarded|go_step|go_upon|(simp only [];go_at_K))
   exact bodyPost_ret (v:=.tuple #[]) (results_none rfl _ _ _) rfl ⟨rfl,⟨M4,h4,hp4.trans HRK.out.symm,hg4,hr4,(U3.up M.fp).trans U4⟩,(U3.up _).trans V4⟩
  ·have d1:(r.k == 1)=false:=beq_false_of_ne hk
   have HRK:=Lib.hid (show R=if cmpB ⟨r.r,r.t⟩ y.p < 0 then M.pl else M.pl.turn r.s ⟨⟨r.r,r.t⟩,true,⟨r.r,r.t⟩,r.b⟩ by rw [HR.out,if_neg hk])
   have hrb:r.b.length≤2048:=hm.val
   have C:=accAccept wc y ⟨r.r,r.t⟩ r.A r.n r.c r.b hy2.rd (by omega) ((hr.upd U0 (by simp)).upd U1 (by simp)) (by omega)
   have HAC:=Lib.hid (show acceptS y ⟨r.r,r.t⟩=!decide (cmpB ⟨r.r,r.t⟩ y.p < 0) from rfl)
   obtain ⟨ac,hac⟩:∃z,acceptS y ⟨r.r,r.t⟩=z:=⟨_,rfl⟩
   rw [hac] at C HAC
   simp only [Sta.val,Bl.val] at C
   clear hac hk HR
   cases ac with
   | false=>
    have HRN:=Lib.hid (show R=M.pl by rw [HRK.out,if_pos (by have:=HAC.out;simpa using this.symm)])
    simp only [Bool.false_eq_true,if_false] at C
    repeat' (first|go_values|go_skip|go_guarded|go_step|go_upon|(simp only [];go_at_K))
    ((with_reducible refine C.mono ?_);rintro e w4 ⟨A4,n4,c4,ho4,u4,rfl⟩)
    repeat' (first|go_values|go_skip|go_guarded|go_step|go_upon|(simp only [];go_at_K))
    exact bodyPost_end (results_none rfl _ _ _) rfl ⟨rfl,⟨M,(h2.upd0 u4).upd0 ((Upd.refl [] w4).alloc _),HRN.out.symm,rfl,rfl,(((UX.trans (u4.gives (b':=[]) (by simp))).alloc _)).up M.fp⟩,(((UX.trans (u4.gives (b':=[]) (by simp))).alloc _)).up _⟩
   | true=>
    have HRN:=Lib.hid (show R=M.pl.turn r.s ⟨⟨r.r,r.t⟩,true,⟨r.r,r.t⟩,r.b⟩ by rw [HRK.out,if_neg (by have:=HAC.out;simpa using this.symm)])
    simp only [if_true] at C
    repeat' (first|go_values|go_skip|go_guarded|go_step|go_upon|(simp only [];go_at_K))
    ((with_reducible refine C.mono ?_);rintro e w4 ⟨A4,n4,c4,ho4,u4,rfl⟩)
    have hB4:=hBr.upd u4 (by simp)
    have hA4:=(Upd.refl [] wc).new u4
    have h4:=(h2.upd0 u4).upd0 ((Upd.refl [] w4).alloc (.cells #[.int .i64 r.r,.int .i64 r.t,.bool true,.int .i64 r.r,.int .i64 r.t,.slice A4 n4 c4] 37))
    have U4:=(UX.trans (u4.gives (b':=[]) (by simp))).alloc (.cells #[.int .i64 r.r,.int .i64 r.t,.bool true,.int .i64 r.r,.int .i64 r.t,.slice A4 n4 c4] 37)
    have T4:BytS _ ⟨A4,n4,c4,r.b⟩:=BytS.upd0 (w:=w4) ⟨ho4.rd,ho4.own.tag⟩ ((Upd.refl [] w4).alloc (.cells #[.int .i64 r.r,.int .i64 r.t,.bool true,.int .i64 r.r,.int .i64 r.t,.slice A4 n4 c4] 37))
    have C5:=siteTurnF _ M h4 r.s (by omega) ⟨⟨r.r,r.t⟩,true,⟨r.r,r.t⟩,A4,n4,c4,r.b⟩ T4 (fun k hk hm=>by have e1:=hA4 k hk;have e2:=h.bansLt k hm;have e3:=UX.size;omega) ⟨hrb,hbm,hbm⟩
    have e5:(⟨⟨r.r,r.t⟩,true,⟨r.r,r.t⟩,A4,n4,c4,r.b⟩:Sta).pl=⟨⟨r.r,r.t⟩,true,⟨r.r,r.t⟩,r.b⟩:=rfl
    rw [e5] at C5
    simp only [SiteV.ptr,Sta.val] at C5
    obtain ⟨⟨c0,c1,c2,c3,c4'⟩,-⟩:=hB4.c5
    have k1:=((Upd.refl [] w4).alloc (.cells #[.int .i64 r.r,.int .i64 r.t,.bool true,.int .i64 r.r,.int .i64 r.t,.slice A4 n4 c4] 37)).cell c1 (by simp)
    clear h4 h2 T4 C ho4 u4 hBz hBr hB4 e5
    repeat' (first|go_values|go_skip|go_guarded|go_step|go_upon|(simp only [];go_at_K))
    ((with_reducible refine C5.mono ?_);rintro e w6 ⟨rfl,⟨M6,h6,hp6,hg6,hr6,U6⟩,V6⟩)
    repeat' (first|go_values|go_skip|go_guarded|go_step|go_upon|(simp only [];go_at_K))
    exact bodyPost_end (results_none rfl _ _ _) rfl ⟨rfl,⟨M6,h6,hp6.trans HRN.out.symm,hg6,hr6,(U4.up M.fp).trans U6⟩,(U4.up _).trans V6⟩
end Go.Proofs.YtijhlbeipglieaaGreat
