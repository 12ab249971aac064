/- Layer 23: agiolaw23.SiteWaits. -/
import Derived.Test.YtijhlbeipglieaaGreatPkAct
import Derived.Test.YtijhlbeipglieaaGreatPkSiteD
import Derived.Test.YtijhlbeipglieaaGreatPkLaw
set_option linter.all false
set_option maxRecDepth 100000
set_option maxHeartbeats 8000000
namespace Go.Proofs.YtijhlbeipglieaaGreat
open Go.RowKit Agio Go.Maps
theorem infoSta:(Tryz.prog.info? 37).map (fun i=>(i.zero,i.size,i.bytes))=some (some (.agg #[.int .i64 0,.int .i64 0,.bool false,.int .i64 0,.int .i64 0,.slice none 0 0]),6,64):=by kernel_rfl
def likeSt (T:Site) (ys:List Sta):Prop:=∀(j:Nat) (y:Sta),ys[j]? =some y→y.p=(T.stat (j:Int)).p∧y.so=(T.stat (j:Int)).so
theorem likeSt.snoc {T:Site} {ys:List Sta} {y:Sta} (h:likeSt T ys) (hy:y.p=(T.stat (ys.length:Int)).p∧y.so=(T.stat (ys.length:Int)).so):likeSt T (ys ++ [y]):=by
 intro j z hz
 rcases Nat.lt_trichotomy j ys.length with hj | hj | hj
 ·rw [List.getElem?_append_left hj] at hz
  exact h j z hz
 ·subst hj
  rw [List.getElem?_append_right (Nat.le_refl _),Nat.sub_self] at hz
  injection hz with hz
  subst hz
  exact hy
 ·rw [List.getElem?_eq_none (by simp;omega)] at hz;cases hz
theorem siteWaits_any (w:World) (a b:Nat) (ha:a < 256) (hb:b < 256) (B:Option Addr) (m d:Nat) (l:List Dt) (hl:RdS Dt.cells 13 w B m l) (he:∀x∈l,Dt.Rds w x) :
  Calls Tryz.prog 4 #[.int .u8 (a:Int),.int .u8 (b:Int),.slice B m d] w fun e w'=>e= .returned (.bool true)∧Upd [] [] w w':=by
 have C1:=siteAwake w
 have C2:=fun w=>siteMade w a b ha hb
 have hnok:newOk ((a % cntN b:Nat):Int) ((cntN b:Nat):Int) ((3:Nat):Int)=true:=by
  have h1:3≤cntN b∧cntN b≤7:=by unfold cntN;omega
  have h2:a % cntN b < cntN b:=Nat.mod_lt _ (by omega)
  simp only [newOk,Bool.and_eq_true,decide_eq_true_eq];omega
 obtain ⟨T0,hT0⟩:∃T,Site.new (a % cntN b) (cntN b) 3=T:=⟨_,rfl⟩
 have hUp0:Alive T0 [] [] 400000000:=by rw [←hT0];exact Alive.new hnok
 rw [hT0] at C2
 clear hnok hT0
 have kc:=fun (w:World) (C:Array Value) (n c:Nat)=>Lib.run_convert_bytes_const (P:=Tryz.prog) w 28 5 C n c Tryz.underlying28 Tryz.underlying5
 go_enter Tryz.func4,Tryz.ntmps4
 repeat' (first|go_values|go_skip|go_guarded|go_step|go_upon|(simp only [];go_at_K))
 ((with_reducible refine C1.mono ?_);rintro e w1 ⟨rfl,u1⟩)
 clear C1
 repeat' (first|go_values|go_skip|go_guarded|go_step|go_upon|(simp only [];go_at_K))
 ((with_reducible refine (C2 w1).mono ?_);rintro e w2 ⟨M,rfl,h2,hp2,u2⟩)
 have U2:Upd [] M.fp w w2:=(u1.up []).trans u2
 clear C2 u2
 simp only [SiteV.ptr]
 repeat' (first|go_values|go_skip|go_guarded|go_step|go_upon|(simp only [];go_at_K))
 obtain ⟨W,hW⟩:∃W,w2.alloc (.cells #[.int .u8 97] 5 (1,2))=W:=⟨_,rfl⟩
 obtain ⟨H,hH⟩:∃H,w2.heap.size=H:=⟨_,rfl⟩
 have U0:Upd [] [] w2 W:=by rw [←hW];exact (Upd.refl [] w2).alloc _
 have hv:RdB W (some ⟨H,0,none⟩) 1 [97]:=by rw [←hW,←hH];exact Rd.new _ _ rfl
 have h2':=h2.upd0 U0
 have hUp0':=hUp0
 rw [←hp2] at hUp0
 have C3:=siteSubmit W M h2' (some ⟨H,0,none⟩) 1 1 [97] hv (by simp) (by rw [←SiteV.held_len];have:=hUp0.held_le;omega)
 obtain ⟨R1,pr1,A1⟩:=hUp0.submit [97] (y:=390000000) (by omega)
 rw [SiteV.ptr] at C3
 rw [hW]
 rw [hH] at *
 ((with_reducible refine C3.mono ?_);rintro e w3 ⟨rfl,M3,h3,hp3,hg3,u3⟩)
 rw [←hp3] at A1
 have U3:Upd [] M3.fp w w3:=(U2.trans (U0.up _)).trans u3
 have C4:=siteSyncAny Qt takeC w3 M3 h3 (by rw [←SiteV.held_len];have:=A1.held_le;omega) (fun _=>A1.sync.1)
 obtain ⟨-,⟨R2,pr2,A2⟩,-⟩:=A1.sync
 rw [SiteV.ptr,hg3] at C4
 clear C3 kc hv h2' hUp0' hp2 U2 U0 u3 h2 hp3 hUp0
 repeat' (first|go_values|go_skip|go_guarded|go_step|go_upon|(simp only [];go_at_K))
 ((with_reducible refine C4.mono ?_);rintro e w4 ⟨B4,c4,told4,M4,rfl,-,-,-,-,h4,hp4,hg4,u4⟩)
 rw [←hp4] at A2
 have hgs4:M4.gs=M.gs:=hg4
 have U4:Upd [] M4.fp w w4:=U3.trans u4
 clear C4 h3 u4 U3 hp4 hg4 hg3 A1 pr1 pr2
 repeat' (first|go_values|go_skip|go_guarded|go_step|go_upon|(simp only [];go_at_K))
 obtain ⟨T,hT⟩:∃T,M4.pl=T:=⟨_,rfl⟩
 go_loopw [9,10] (fun v9 v10 wr=>KeptR (∃(ys:List Sta) (Ay:Option Addr) (cy:Nat),ys.length≤40∧v10= .int .i64 (ys.length:Int)∧v9= .slice Ay ys.length cy∧Agio.Own 37 6 wr Ay ys.length cy (ys.flatMap Sta.cells)∧likeSt T ys∧(∀k∈ablk Ay,w4.heap.size≤k)∧Upd [] [] w4 wr))
  (fun _ v10 _=>40 - (intOf v10).toNat)
 case atStart=>exact KeptR.mk ⟨[],none,0,by simp,rfl,rfl,Agio.Own.nil _ _ _,by intro j y hj;simp at hj,by simp [ablk],Upd.refl _ _⟩
 case round=>
  obtain ⟨ys,Ay,cy,hy40,rfl,rfl,hoy,hlike,hAy,Uy⟩:=hrel.out
  clear hrel
  obtain ⟨i,hi⟩:∃i,ys.length=i:=⟨_,rfl⟩
  rw [hi] at hy40 hoy ⊢
  by_cases hlt:i < 40
  ·have hil:(i:Int) < 40:=by omega
   have hw1:IntKind.i64.wrap ((i:Int) + 1)=(i:Int) + 1:=by rw [IntKind.wrap_i64];omega
   have C:=siteState wr M4 (h4.upd0 Uy) (i:Int) (wfI (by omega) (by omega))
   rw [SiteV.ptr,hgs4] at C
   have HL:=Lib.hid hlike
   have HI:=Lib.hid hi
   clear hlike hi
   repeat' (first|go_values|go_skip|go_guarded|go_step|go_upon|(simp only [];go_at_K))
   ((with_reducible refine C.mono ?_);rintro e w5 ⟨A5,n5,c5,rfl,ho5,hu5⟩)
   obtain ⟨y,hy⟩:∃y:Sta,({M4.sta (i:Int) with A:=A5,n:=n5,c:=c5} :Sta)=y:=⟨_,rfl⟩
   rw [hy,Sta.val]
   have hyl:y.p=(T.stat (i:Int)).p∧y.so=(T.stat (i:Int)).so:=by
    rw [←hT,←SiteV.sta_pl,←hy];exact ⟨rfl,rfl⟩
   have HYL:=Lib.hid hyl
   have hoy5:=hoy.upd hu5 (by simp)
   have Uy5:=Uy.trans (hu5.gives (b':=[]) (by simp))
   clear C hyl hy hoy Uy hu5
   repeat' ((fail_if_success (with_reducible refine stop_append rfl ?_));first|go_values|go_skip|go_guarded|go_step|go_upon|(simp only [];go_at_K))
   refine wpList_push rfl _ _ 44 rfl 37 Tryz.underlying44 infoSta rfl (by decide) hoy5 rfl w5.heap.size rfl rfl (news:=y.cells) rfl rfl (by unfold maxLen;omega) (by omega) ?_
   intro A6 c6 w6 ho6 hu6
   have U6:Upd [] [] w4 w6:=Uy5.ownL hAy hu6
   have hA6:∀k∈ablk A6,w4.heap.size≤k:=fun k hk=>by
    rcases hu6.fresh k hk with hh | hh
    ·exact hAy k hh
    ·have:=Uy5.size;omega
   clear hoy5 Uy5 hu6 hAy
   repeat' (first|go_values|go_skip|go_guarded|go_step|go_upon|(simp only [];go_at_K))
   refine ⟨KeptR.mk ⟨ys ++ [y],A6,c6,by simp;have:=HI.out;omega,by simp [HI.out],by simp [HI.out],?_,HL.out.snoc (by rw [HI.out];exact HYL.out),hA6,U6⟩,by simp [intOf];omega⟩
   rw [List.length_append,HI.out,List.flatMap_append]
   simpa using ho6
  ·obtain rfl:i=40:=by omega
   have hil:¬ (((40:Nat):Int) < 40):=by omega
   have h5:=h4.upd0 Uy
   have U5:Upd [] M4.fp w wr:=U4.trans (Uy.up _)
   have hfar:∀k∈ablk Ay,k∉M4.fp:=fun k hk hm=>by have h1:=hAy k hk;have h2:=h4.lt k hm;omega
   have hwAy:∀k∈ablk Ay,w.heap.size≤k:=fun k hk=>by have h1:=hAy k hk;have:=U4.size;omega
   clear h4 Uy hAy U4
   repeat' (first|go_values|go_skip|go_guarded|go_step|go_upon|(simp only [];go_at_K))
   go_loopw [11] (fun v11 wr=>KeptR (∃(j:Nat) (Mi:SiteV) (R:List Rc) (z:Nat),j≤m∧j≤40∧v11= .int .i64 (j:Int)∧SiteS wr Mi∧Mi.gs=M.gs∧Alive Mi.pl R1 R z∧R2 <+:R∧300 * (40 - j) + 1000≤z∧
    Agio.Own 37 6 wr Ay 40 cy (ys.flatMap Sta.cells)∧(∀k∈ablk Ay,k∉Mi.fp)∧Upd [] Mi.fp w wr)) (fun v11 _=>40 - (intOf v11).toNat)
   case atStart=>exact KeptR.mk ⟨0,M4,R2,390000000,by omega,by omega,rfl,h5,hgs4,A2,List.prefix_refl _,by omega,hoy,hfar,U5⟩
   case round=>
    obtain ⟨j,Mi,R,z,hjm,hj40,rfl,hS,hgi,hA,hpr,hz,ho,hfar,U⟩:=hrel.out
    clear hrel h5 hoy U5
    obtain ⟨D,hD⟩:∃D,(decide (j < m) && decide (j < 40))=D:=⟨_,rfl⟩
    have HD:=Lib.hid hD
    clear hD
    go_upto_region 13 with fail
    go_cut [50] from 43 to 64 (fun s50 wc=>s50= .bool D∧wr=wc)
    case first=>
     by_cases h1:j < m
     ·have hd1:decide (j < m)=true:=decide_eq_true h1
      have hi1:(j:Int) < (m:Int):=by omega
      by_cases h2:j < 40
      ·have hd2:decide ((j:Int) < 40)=true:=decide_eq_true (by omega)
       repeat' (first|go_values|go_skip|go_guarded|go_step|go_upon|(simp only [];go_at_K))
       go_meet
       exact ⟨by rw [←HD.out,hd1,decide_eq_true h2];rfl,rfl⟩
      ·have hd2:decide ((j:Int) < 40)=false:=decide_eq_false (by omega)
       repeat' (first|go_values|go_skip|go_guarded|go_step|go_upon|(simp only [];go_at_K))
       go_meet
       exact ⟨by rw [←HD.out,decide_eq_false h2,Bool.and_false],rfl⟩
     ·have hd1:decide (j < m)=false:=decide_eq_false h1
      have hi1:¬ (j:Int) < (m:Int):=by omega
      repeat' (first|go_values|go_skip|go_guarded|go_step|go_upon|(simp only [];go_at_K))
      go_meet
      exact ⟨by rw [←HD.out,hd1];rfl,rfl⟩
    case rest=>
     obtain ⟨rfl,hwc⟩:=hcut
     subst hwc
     cases D with
     | true=>
      have hj:j < m∧j < 40:=by have:=HD.out;simpa using this
      have hi1:(j:Int) < (m:Int):=by omega
      have hw1:IntKind.i64.wrap ((j:Int) + 1)=(j:Int) + 1:=by rw [IntKind.wrap_i64];omega
      have hvr:=hl.upd0 U
      have hml:=hl.len
      obtain ⟨ad,rfl,h0,hjc⟩:=RdS.at_ (f:=Dt.cells) (s:=13) Dt.cells_len hvr (i:=j) (by omega)
      have hey:=he _ (List.getElem_mem (show j < l.length by omega))
      generalize l[j]=y at *
      have d0:=h0 _ rfl
      have d1:=hjc 1 _ (by omega) rfl
      have d2:=hjc 2 _ (by omega) rfl
      have d3:=hjc 3 _ (by omega) rfl
      have d4:=hjc 4 _ (by omega) rfl
      have d5:=hjc 5 _ (by omega) rfl
      have d6:=hjc 6 _ (by omega) rfl
      have d7:=hjc 7 _ (by omega) rfl
      have d8:=hjc 8 _ (by omega) rfl
      have d9:=hjc 9 _ (by omega) rfl
      have d10:=hjc 10 _ (by omega) rfl
      have d11:=hjc 11 _ (by omega) rfl
      have d12:=hjc 12 _ (by omega) rfl
      clear h0 hjc hvr
      by_cases hk3:y.k < 3
      ·have dk:decide (y.k < 3)=true:=decide_eq_true hk3
       have C:=siteAct wr Mi hS y (hey.upd0 U) (fun h0 k hk hm=>by
        have h1:=hey.m.below h0 k hk
        rcases U.fresh k hm with h2 | h2
        ·cases h2
        ·omega) (told:=[]) (c:=0) ⟨by omega,R1,by simp,.inl ⟨R,z,hA,by omega⟩⟩
       obtain ⟨R',hpr',hA'⟩:=Grow.act hA (y:=300 * (40 - (j + 1)) + 1000) (by omega) hk3 y.n y.b y.m.ms
       rw [SiteV.ptr,hgi,Dt.val_eq] at C
       have HLT:=ho.lt
       clear hey hA hk3 hS
       repeat' (first|go_values|go_skip|go_guarded|go_step|go_upon|(simp only [];go_at_K))
       ((with_reducible refine C.mono ?_);rintro e w7 ⟨A7,c7,told7,M7,rfl,-,-,-,h7,hp7,hg7,U7⟩)
       rw [←hp7] at hA'
       have ho7:=ho.upd U7 hfar
       have hfar7:∀k∈ablk Ay,k∉M7.fp:=fun k hk=>U7.notin (hfar k hk) (HLT k hk)
       have U77:=U.trans U7
       clear C ho hfar U U7 HLT d0 d1 d2 d3 d4 d5 d6 d7 d8 d9 d10 d11 d12
       repeat' (first|go_values|go_skip|go_guarded|go_step|go_upon|(simp only [];go_at_K))
       exact ⟨KeptR.mk ⟨j + 1,M7,R',_,by omega,by omega,by simp,h7,hg7.trans hgi,hA',hpr.trans hpr',Nat.le_refl _,ho7,hfar7,U77⟩,by simp [intOf];omega⟩
      ·have dk:decide (y.k < 3)=false:=decide_eq_false hk3
       repeat' (first|go_values|go_skip|go_guarded|go_step|go_upon|(simp only [];go_at_K))
       exact ⟨KeptR.mk ⟨j + 1,Mi,R,z,by omega,by omega,by simp,hS,hgi,hA,hpr,by omega,ho,hfar,U⟩,by simp [intOf];omega⟩
     | false=>
      have C1:=siteSyncAny Qt takeC wr Mi hS (by rw [←SiteV.held_len];have:=hA.held_le;omega) (fun _=>hA.sync.1)
      obtain ⟨-,⟨R4,pr4,A4⟩,-⟩:=hA.sync
      have HLT:=ho.lt
      have hys:ys.length=40:=hi
      rw [SiteV.ptr,hgi] at C1
      clear hS hA he hl HD hjm hj40 hi
      repeat' (first|go_values|go_skip|go_guarded|go_step|go_upon|(simp only [];go_at_K))
      ((with_reducible refine C1.mono ?_);rintro e w7 ⟨B7,c7,told7,M7,rfl,-,-,-,-,h7,hp7,hg7,U7⟩)
      rw [←hp7] at A4
      have ho7:=ho.upd U7 hfar
      have hfar7:∀k∈ablk Ay,k∉M7.fp:=fun k hk=>U7.notin (hfar k hk) (HLT k hk)
      have U07:=U.trans U7
      have HLT7:=ho7.lt
      have C2:=siteHeld w7 M7 h7
      have C3:=siteCrash w7 M7 h7 0
      rw [SiteV.ptr,hg7] at C2 C3
      have DN:=A4.crash 0
      clear C1 ho hfar U U7 HLT hp7 A4 pr4
      repeat' (first|go_values|go_skip|go_guarded|go_step|go_upon|(simp only [];go_at_K))
      ((with_reducible refine C2.mono ?_);rintro e w' ⟨rfl,rfl⟩)
      repeat' (first|go_values|go_skip|go_guarded|go_step|go_upon|(simp only [];go_at_K))
      ((with_reducible refine C3.mono ?_);rintro e w8 ⟨rfl,M8,h8,hp8,hg8,U8⟩)
      rw [←hp8] at DN
      have hg8':M8.gs=M.gs:=hg8.trans hg7
      have ho8:=ho7.upd U8 hfar7
      have hfar8:∀k∈ablk Ay,k∉M8.fp:=fun k hk=>U8.notin (hfar7 k hk) (HLT7 k hk)
      have U08:=U07.trans U8
      have HLT8:=ho8.lt
      have C4:=siteSyncD w8 M8 h8 DN.down
      have C5:=siteHandleP Qt takeC w8 M8 h8 ⟨1,0,0,0,0,0,0,0,false,none,0,0,[]⟩ (RdB.nil _ _) (fun h=>absurd h (by simp)) (fun _ hd _=>by rw [show M8.down=true from DN.down] at hd;cases hd)
      rw [Site.handle_down DN.down,SiteV.ptr,hg8',Mv.val_eq] at C5
      rw [SiteV.ptr,hg8'] at C4
      simp only at C5
      clear C2 C3 ho7 hfar7 U07 U8 HLT7 hp8 h7
      repeat' (first|go_values|go_skip|go_guarded|go_step|go_upon|(simp only [];go_at_K))
      ((with_reducible refine C4.mono ?_);rintro e w' ⟨rfl,rfl⟩)
      repeat' (first|go_values|go_skip|go_guarded|go_step|go_upon|(simp only [];go_at_K))
      ((with_reducible refine C5.mono ?_);rintro e w9 ⟨rfl,M9,h9,hp9,hg9,U9⟩)
      have hg9':M9.gs=M.gs:=hg9.trans hg8'
      rw [←hp9] at DN
      have ho9:=ho8.upd U9 hfar8
      have hfar9:∀k∈ablk Ay,k∉M9.fp:=fun k hk=>U9.notin (hfar8 k hk) (HLT8 k hk)
      have U09:=U08.trans U9
      have HLT9:=ho9.lt
      have C6:=siteDown w9 M9 h9
      rw [DN.down,SiteV.ptr,hg9'] at C6
      have C7:=siteRestart w9 M9 h9
      rw [SiteV.ptr,hg9'] at C7
      clear C4 C5 ho8 hfar8 U08 U9 HLT8 hp9 h8
      repeat' (first|go_values|go_skip|go_guarded|go_step|go_upon|(simp only [];go_at_K))
      ((with_reducible refine C6.mono ?_);rintro e w' ⟨rfl,rfl⟩)
      repeat' (first|go_values|go_skip|go_guarded|go_step|go_upon|(simp only [];go_at_K))
      ((with_reducible refine C7.mono ?_);rintro e w10 ⟨rfl,M10,h10,hp10,hg10,U10⟩)
      have hg10':M10.gs=M.gs:=hg10.trans hg9'
      obtain ⟨R5,pr5,A5,hdn,hheld,hlv,htk⟩:=DN.restart
      rw [←hp10] at A5 hdn hheld hlv htk
      have ho10:=ho9.upd U10 hfar9
      have U010:=U09.trans U10
      have C8:=siteDisk w10 M10 h10
      rw [SiteV.ptr,hg10'] at C8
      have HLE:=Lib.hid (show ∀x,Sp.Le (T.stat x) (M10.pl.stat x) from fun x=>by
       rw [←hT,A2.st,A5.st]
       exact A5.good.leP (hpr.trans pr5) x)
      clear C6 C7 ho9 hfar9 U09 U10 HLT9 h9 hp10 DN A5 A2 pr5 hpr
      repeat' (first|go_values|go_skip|go_guarded|go_step|go_upon|(simp only [];go_at_K))
      ((with_reducible refine C8.mono ?_);rintro e w11 ⟨rfl,u11⟩)
      have h11:=h10.upd0 u11
      have ho11:=ho10.upd u11 (by simp)
      have U011:=U010.trans (u11.up _)
      have HW:RdS Sta.cells 6 w11 Ay 40 ys:=⟨hys.symm,ho11.rd⟩
      clear C8 h10 ho10 U010 u11 ho11
      repeat' (first|go_values|go_skip|go_guarded|go_step|go_upon|(simp only [];go_at_K))
      go_loopw [15] (fun v15 wr=>KeptR (∃(j:Nat),j≤40∧v15= .int .i64 (j:Int)∧Upd [] [] w11 wr)) (fun v15 _=>40 - (intOf v15).toNat)
      case atStart=>exact KeptR.mk ⟨0,by omega,rfl,Upd.refl _ _⟩
      case round=>
       obtain ⟨q,hq40,rfl,U⟩:=hrel.out
       clear hrel
       have h12:=h11.upd0 U
       have HW2:=HW.upd0 U
       have hw1:IntKind.i64.wrap ((q:Int) + 1)=(q:Int) + 1:=by rw [IntKind.wrap_i64];omega
       by_cases hq:q < 40
       ·have hqi:(q:Int) < 40:=by omega
        obtain ⟨ad,rfl,h0,hjc⟩:=RdS.at_ (f:=Sta.cells) (s:=6) (fun _=>rfl) HW2 (i:=q) (by omega)
        have hyl:=hlike q _ (List.getElem?_eq_getElem (show q < ys.length by omega))
        generalize ys[q]=y at *
        have d0:=h0 _ rfl
        have d1:=hjc 1 _ (by omega) rfl
        have d2:=hjc 2 _ (by omega) rfl
        have hle:=HLE.out (q:Int)
        rw [←SiteV.sta_pl M10] at hle
        have C:=siteState wr M10 h12 (q:Int) (wfI (by omega) (by omega))
        rw [SiteV.ptr,hg10'] at C
        generalize M10.sta (q:Int)=z at *
        have hp1:¬ cmpB z.p y.p < 0:=fun e=>by
         have:=hle.p
         rw [←hyl.1] at this
         exact this ((cmpB_lt _ _).1 e)
        have hp2:y.so=true→z.so=true:=fun e=>by rw [hyl.2] at e;exact (hle.so e).1
        clear h0 hjc HW2 h12 hyl hle
        repeat' (first|go_values|go_skip|go_guarded|go_step|go_upon|(simp only [];go_at_K))
        ((with_reducible refine C.mono ?_);rintro e w13 ⟨A13,n13,c13,rfl,-,u13⟩)
        rw [Sta.val]
        have d0':=u13.cell d0 (by simp)
        have d1':=u13.cell d1 (by simp)
        have d2':=u13.cell d2 (by simp)
        clear C d0 d1 d2
        obtain ⟨W2,G,eW2,hG,hB2,U2⟩:=boxes1 w13 37 #[.int .i64 z.p.r,.int .i64 z.p.s,.bool z.so,.int .i64 z.at_.r,.int .i64 z.at_.s,.slice A13 n13 c13]
        have e0:=U2.cell d0' (by simp)
        have e1:=U2.cell d1' (by simp)
        have e2:=U2.cell d2' (by simp)
        have U3:Upd [] [] w11 W2:=(U.trans (u13.gives (b':=[]) (by simp))).trans (U2.gives (by simp))
        clear d0' d1' d2' u13 U2 U
        obtain ⟨x,hx⟩:∃x,cmpB z.p y.p=x:=⟨_,rfl⟩
        have dx:decide (x < 0)=false:=decide_eq_false (by rw [←hx];exact hp1)
        have hso:(y.so=false∧True)∨(y.so=true∧z.so=true):=by
         cases hh:y.so with
         | false=>exact .inl ⟨rfl,trivial⟩
         | true=>exact .inr ⟨rfl,hp2 hh⟩
        have g0:∀p:GU W2,p.w.cell? ⟨G,0,none⟩=some (.int .i64 z.p.r):=fun p=>p.u.cell (hB2.cell 0) (by simp)
        have g1:∀p:GU W2,p.w.cell? ⟨G,1,none⟩=some (.int .i64 z.p.s):=fun p=>p.u.cell (hB2.cell 1) (by simp)
        have g2:∀p:GU W2,p.w.cell? ⟨G,2,none⟩=some (.bool z.so):=fun p=>p.u.cell (hB2.cell 2) (by simp)
        have k0:∀p:GU W2,p.w.cell? (ad.add (q * 6))=some (.int .i64 y.p.r):=fun p=>p.u.cell e0 (by simp)
        have k1:∀p:GU W2,p.w.cell? ⟨(ad.add (q * 6)).block,(ad.add (q * 6)).off + 1,none⟩=some (.int .i64 y.p.s):=fun p=>p.u.cell e1 (by simp)
        have k2:∀p:GU W2,p.w.cell? ⟨(ad.add (q * 6)).block,(ad.add (q * 6)).off + 2,none⟩=some (.bool y.so):=fun p=>p.u.cell e2 (by simp)
        have CW:∀p:GU W2,Calls Tryz.prog 27 #[.agg #[.int .i64 z.p.r,.int .i64 z.p.s],.agg #[.int .i64 y.p.r,.int .i64 y.p.s]] p.w fun e w'=>e= .returned (.int .i64 x)∧∃q:GU W2,w'=q.w:=
         fun p=>p.call (by rw [←hx];exact ref08Compare _ z.p y.p)
        have HX:=Lib.hid hx
        clear e0 e1 e2 hB2 hx hp1
        repeat' (first|go_values|go_skip|go_guarded|go_step|go_upon|(simp only [];go_at_K))
        go_cut [120] from 93 to 120 (fun s120 wc=>s120= .bool false∧Upd [] [] W2 wc)
        case first=>
         obtain ⟨zso,hzso⟩:∃b,z.so=b:=⟨_,rfl⟩
         obtain ⟨yso,hyso⟩:∃b,y.so=b:=⟨_,rfl⟩
         simp only [hzso] at g2 hso
         simp only [hyso] at k2 hso
         rcases hso with ⟨rfl,-⟩ | ⟨rfl,rfl⟩
         all_goals
          refine quiet_gu (by kernel_rfl) (by kernel_rfl) ?_
          repeat (go_big_quiet_step (exact CW _))
          refine wpQuiet_nil ?_
          rintro _ ⟨p,rfl⟩
          repeat' (first|go_values|go_skip|go_guarded|go_step|go_upon|(simp only [];go_at_K))
          go_meet
          exact ⟨rfl,p.u⟩
        case rest=>
         obtain ⟨rfl,u15⟩:=hcut
         repeat' (first|go_values|go_skip|go_guarded|go_step|go_upon|(simp only [];go_at_K))
         exact ⟨KeptR.mk ⟨q + 1,by omega,by simp,U3.trans u15⟩,by simp [intOf];omega⟩
       ·obtain rfl:q=40:=by omega
        have hqi:¬ (((40:Nat):Int) < 40):=by omega
        have e1:((M10.db.length:Int) == (M10.dn:Int))=true:=by
         have:M10.dn=M10.db.length:=hdn
         rw [this];exact beq_self_eq_true _
        have C9:=siteHeld wr M10 h12
        have C10:=siteFrontier wr M10 h12
        have hfr:M10.pl.front=0:=by unfold Site.front;rw [hlv,htk];rfl
        rw [hfr,SiteV.ptr,hg10'] at C10
        rw [hheld,SiteV.ptr,hg10'] at C9
        have e2:decide (0≤(M7.pl.held.length:Int))=true:=decide_eq_true (by omega)
        clear hfr h12 HW2 hheld hlv htk hdn
        simp only [List.length_nil] at C9
        repeat' (first|go_values|go_skip|go_guarded|go_step|go_upon|(simp only [];go_at_K))
        ((with_reducible refine C9.mono ?_);rintro e w' ⟨rfl,rfl⟩)
        repeat' (first|go_values|go_skip|go_guarded|go_step|go_upon|(simp only [];go_at_K))
        ((with_reducible refine C10.mono ?_);rintro e w' ⟨rfl,rfl⟩)
        repeat' (first|go_values|go_skip|go_guarded|go_step|go_upon|(simp only [];go_at_K))
        go_ret
        exact ⟨rfl,(U011.trans (U.up _)).gives (by simp)⟩
end Go.Proofs.YtijhlbeipglieaaGreat
