/- Merged: SiteF, SiteG. -/
import Derived.Deep.Cut
import Derived.Test.YtijhlbeipglieaaGreatPkSiteE
set_option linter.all false
set_option maxRecDepth 100000
set_option maxHeartbeats 4000000
namespace Go.Proofs.YtijhlbeipglieaaGreat
open Go.RowKit Agio Go.Maps
theorem rvs_one (w:World) (r:Rv) (hr:RdB w r.A r.n r.b):Rvs (w.alloc (.cells r.cells.toArray 147)) (some ⟨w.heap.size,0,none⟩) 1 [r]:=by
  refine ⟨⟨rfl,?_⟩,fun x hx=>?_⟩
  · have:=Rd.blk (n:=1) (size:=5) (Blk.new w 147 r.cells.toArray) rfl
    simpa using this
  · obtain rfl:=List.mem_singleton.1 hx
    exact hr.alloc _
theorem layB_pos (r:Rc):0 < (layB [r]).length:=by
  rw [layB_cons,List.length_append,put_len];omega
variable [Ban]
theorem siteNote (w:World) (M:SiteV) (h:SiteS w M) (y:Sta) (r:Rv) (hy:BytS w y.sl) (hbad:∀k∈ablk y.A,k∉M.fp) (hban:∀k∈ablk y.A,k∉(Ban.X:List Nat)) (hp:y.b.length≤2048∧y.p.may 7=true∧y.at_.may 7=true)
    (hr:RdB w r.A r.n r.b) (hm:r.rc.May) :
    Calls Tryz.prog 117 #[M.ptr,y.val,r.val] w fun e w'=>e= .returned (.bool (M.pl.note y.pl r.rc).isSome)∧Goes w w' M ((M.pl.note y.pl r.rc).getD M.pl):=by
  obtain ⟨W,H,G,eW,hH,hG,hB1,hB2,U0⟩:=boxes2 w 37 147 #[.int .i64 y.p.r,.int .i64 y.p.s,.bool y.so,.int .i64 y.at_.r,.int .i64 y.at_.s,.slice y.A y.n y.c] #[.int .i64 r.k,.int .i64 r.s,.int .i64 r.r,.int .i64 r.t,.slice r.A r.n r.c]
  have h1:=h.upd0 U0
  have hy1:=hy.upd0 U0
  have hr1:RdB W r.A r.n r.b:=hr.upd U0 (by simp)
  have hlen:(layB (rcs [r])).length≤2108:=by have:=layB_len (l:=rcs [r]) (fun x hx=>by simp only [rcs,List.map_cons,List.map_nil,List.mem_singleton] at hx;subst hx;exact hm);simpa [rcs] using this
  have C:=alogLay _ (some ⟨W.heap.size,0,none⟩) 1 1 [r] (rvs_one W r hr1) (fun x hx=>by obtain rfl:=List.mem_singleton.1 hx;exact hm) (by omega) (by omega)
  have hrc:rcs [r]= [r.rc]:=rfl
  rw [hrc] at C hlen
  have HN:=Lib.hid (show M.pl.note y.pl r.rc=if M.db.length + (layB [r.rc]).length≤1048576 then some ({M.pl with db:=M.db ++ layB [r.rc]}.turn r.s y.pl) else none by
    unfold Site.note Site.room;simp only [decide_eq_true_eq];rfl)
  obtain ⟨R,hR⟩:∃R,M.pl.note y.pl r.rc=R:=⟨_,rfl⟩
  rw [hR] at HN ⊢
  have hpos:=layB_pos r.rc
  have hslot:0≤r.s∧r.s≤4095:=hm.slot
  obtain ⟨⟨a0,a1,a2,a3,a4,a5⟩,-⟩:=hB1.c6
  obtain ⟨⟨b0,b1,b2,b3,b4⟩,-⟩:=hB2.c5
  rw [SiteV.ptr,Rv.val_eq,Sta.val]
  simp only [Rv.cells] at C
  clear hR hr hr1 hy hrc
  generalize layB [r.rc]=z at *
  go_enter Tryz.func117,Tryz.ntmps117
  repeat' (first|go_values|go_skip|go_guarded|go_step|go_upon|(simp only [];go_at_K))
  ((with_reducible refine C.mono ?_);rintro e w1 ⟨A,n,c,rfl,ho,hu⟩)
  have U1:Upd [] [] w w1:=(((U0.gives (b':=[]) (by simp)).alloc _).trans hu).gives (by simp)
  have hs:=h.upd0 U1
  have K1:=(hB1.alloc _).upd hu (by simp)
  have K2:=(hB2.alloc _).upd hu (by simp)
  have hy2:=(hy1.upd0 ((Upd.refl [] W).alloc (.cells #[.int .i64 r.k,.int .i64 r.s,.int .i64 r.r,.int .i64 r.t,.slice r.A r.n r.c] 147))).upd0 hu
  have q4:w1.cell? ⟨M.gs,4,none⟩=some (.pointer (some ⟨M.gd,0,none⟩)):=hs.blk.cell 4
  have hHs:w.heap.size≤H:=by omega
  have hHl:=hB1.lt
  have hGs:w.heap.size≤G:=by omega
  have hGl:=hB2.lt
  have hf:=h.lt
  clear C hu U0 hB1 hB2 hy1 h1 a0 a1 a2 a3 a4 a5 b0 b1 b2 b3 b4
  by_cases hroom:M.db.length + z.length≤1048576
  · have C2:=diskAppend w1 M.gd M.Ad M.db.length M.cd M.db M.dn hs.dsk A n c z ho.rd hpos hroom
    repeat' (first|go_values|go_skip|go_guarded|go_step|go_upon|(simp only [];go_at_K))
    ((with_reducible refine C2.mono ?_);rintro e w2 ⟨A',n',c',rfl,hd,hu2⟩)
    have hn':n'=(M.db ++ z).length:=hd.row.len
    subst hn'
    have hok:({M with Ad:=A',cd:=c',db:=M.db ++ z,dn:=M.dn} :SiteV).pl.Ok:=h.ok.disk _ _
    obtain ⟨hs2,V2⟩:=hs.disk hu2 hd hok
    have hfp:∀k∈M.gd :: ablk M.Ad,k∈M.fp:=fun k hk=>by
      rcases List.mem_cons.1 hk with rfl | hk
      · simp [SiteV.fp]
      · simp [SiteV.fp,hk]
    have K1b:=K1.upd hu2 (fun hk=>by have:=hf _ (hfp _ hk);omega)
    have K2b:=K2.upd hu2 (fun hk=>by have:=hf _ (hfp _ hk);omega)
    have hy3:=hy2.upd hu2 (fun k hk hm=>hbad k hk (hfp k hm))
    have hbad3:∀k∈ablk y.A,k∉ablk A' ++ (Ban.X:List Nat):=fun k hk hm=>by
      rcases List.mem_append.1 hm with hm | hm
      · rcases hu2.fresh k (List.mem_cons_of_mem _ hm) with h1 | h1
        · exact hbad k hk (hfp k h1)
        · have:=tag_lt (hy2.tag k hk);omega
      · exact hban k hk hm
    have C3:=siteTurn w2 _ hs2 r.s (by omega) y hy3 hbad3 hp
    obtain ⟨⟨a0,a1,a2,a3,a4,a5⟩,-⟩:=K1b.c6
    obtain ⟨⟨b0,b1,b2,b3,b4⟩,-⟩:=K2b.c5
    simp only [SiteV.ptr,Sta.val] at C3
    clear C2 hd hu2 hs2 K1 K2 hy2 hy3
    repeat' (first|go_values|go_skip|go_guarded|go_step|go_upon|(simp only [];go_at_K))
    ((with_reducible refine C3.mono ?_);rintro e w3 ⟨rfl,M3,h3,p3,g3,r3,V3⟩)
    repeat' (first|go_values|go_skip|go_guarded|go_step|go_upon|(simp only [];go_at_K))
    have HR:=HN.out
    rw [if_pos hroom] at HR
    subst HR
    go_ret
    exact ⟨rfl,M3,h3,p3,g3,r3,((U1.up M.fp).trans V2).trans V3⟩
  · have C2:=diskFull w1 M.gd M.Ad M.db.length M.cd M.db M.dn hs.dsk A n c z ho.rd (by omega) (by omega)
    repeat' (first|go_values|go_skip|go_guarded|go_step|go_upon|(simp only [];go_at_K))
    ((with_reducible refine C2.mono ?_);rintro e w2 ⟨rfl,rfl⟩)
    repeat' (first|go_values|go_skip|go_guarded|go_step|go_upon|(simp only [];go_at_K))
    have HR:=HN.out
    rw [if_neg hroom] at HR
    subst HR
    go_ret
    exact ⟨rfl,M,hs,rfl,rfl,rfl,U1.up M.fp⟩
end Go.Proofs.YtijhlbeipglieaaGreat
namespace Go.Proofs.YtijhlbeipglieaaGreat
open Go.RowKit Agio Go.Maps
variable [Ban]
theorem siteAccept (w:World) (M:SiteV) (h:SiteS w M) (x:Int) (hx:0≤x∧x < 4096) (b:Bl) (hb:b.may 7=true) (B:Option Addr) (m d:Nat) (v:List UInt8) (hv:RdB w B m v) (_hvf:∀k∈ablk B,k∉M.fp) (hvl:v.length≤2048) :
    Calls Tryz.prog 61 #[M.ptr,.int .i64 x,b.val,.slice B m d] w fun e w'=>e= .returned (.bool (M.pl.accept x b v).isSome)∧Goes w w' M ((M.pl.accept x b v).getD M.pl):=by
  have hwf:(Lit.int .i64 x).wf=true:=wfI (by omega) (by omega)
  obtain ⟨W,H,eW,hH,hB,U0⟩:=boxes1 w 30 #[.int .i64 b.r,.int .i64 b.s]
  have h1:=h.upd0 U0
  have hv1:RdB W B m v:=hv.upd U0 (by simp)
  have hl:=h1.look hwf
  obtain ⟨hb1,hb2,hb3⟩:=h1.sta_in x
  have HN:=Lib.hid (show M.pl.accept x b v=if cmpB b (M.sta x).p < 0 then none else M.pl.note ⟨b,true,b,v⟩ ⟨2,x,b.r,b.s,v⟩ by
    unfold Site.accept;rw [←SiteV.sta_pl];rfl)
  obtain ⟨R,hR⟩:∃R,M.pl.accept x b v=R:=⟨_,rfl⟩
  rw [hR] at HN ⊢
  clear hR
  have C:∀(Wx:World) (hU:Upd [] [] W Wx),Calls Tryz.prog 116 #[(M.sta x).val,b.val,.slice B m d] Wx fun e w'=>∃z:Sta,e= .returned (.tuple #[.agg #[.int .i64 z.p.r,.int .i64 z.p.s,.bool z.so,.int .i64 z.at_.r,.int .i64 z.at_.s,.slice z.A z.n z.c],.bool (acceptS (M.sta x) b)])∧
      (acceptS (M.sta x) b=true→z=⟨b,true,b,z.A,z.n,z.c,v⟩∧OwnB 5 w' z.A z.n z.c v)∧Upd [] (ablk z.A) Wx w':=fun Wx hU=>by
    refine (accAccept Wx (M.sta x) b B m d v (RdB.upd hb1.rd hU (by simp)) (by have:=hb3;omega) (hv1.upd hU (by simp)) (by omega)).mono ?_
    rintro e w' ⟨A,n,c,ho,hu,rfl⟩
    cases hacc:acceptS (M.sta x) b with
    | true=>rw [hacc] at ho;exact ⟨⟨b,true,b,A,n,c,v⟩,rfl,fun _=>⟨rfl,ho⟩,hu⟩
    | false=>rw [hacc] at ho;exact ⟨{M.sta x with A:=A,n:=n,c:=c},rfl,fun hh=>Bool.noConfusion hh,hu⟩
  obtain ⟨Z,hZ⟩:∃Z:World,W.alloc (.cells #[.int .i64 0,.int .i64 0,.bool false,.int .i64 0,.int .i64 0,.slice none 0 0] 37)=Z:=⟨_,rfl⟩
  have UZ:Upd [] [] W Z:=by rw [←hZ];exact (Upd.refl [] W).alloc _
  have BZ:Blk Z W.heap.size 37 #[.int .i64 0,.int .i64 0,.bool false,.int .i64 0,.int .i64 0,.slice none 0 0]:=by rw [←hZ];exact Blk.new _ _ _
  have hl1:(Instr.lookup 117 (.map (some M.bs)) (.int .i64 x) false).run Tryz.prog W.drew= .ok (M.sta x).val W.drew:=h1.drew.look hwf
  have hl2:(Instr.lookup 117 (.map (some M.bs)) (.int .i64 x) false).run Tryz.prog Z.drew= .ok (M.sta x).val Z.drew:=(h1.upd0 UZ).drew.look hwf
  obtain ⟨⟨p0,p1⟩,-⟩:=hB.c2
  obtain ⟨⟨r0,r1⟩,-⟩:=(hB.upd UZ (by simp)).c2
  have q5:W.cell? ⟨M.gs,5,none⟩=some (.map (some M.bs)):=h1.blk.cell 5
  have s5:Z.cell? ⟨M.gs,5,none⟩=some (.map (some M.bs)):=(h1.upd0 UZ).blk.cell 5
  have hHl:=hB.lt
  have hacS:acceptS (M.sta x) b=!decide (cmpB b (M.sta x).p < 0):=rfl
  have HAC:=Lib.hid hacS
  clear hl hb1 hb2 hb3 hv1 hacS
  generalize M.sta x=y at *
  obtain ⟨yv,hyv⟩:∃z,y.val=z:=⟨_,rfl⟩
  obtain ⟨ac,hac⟩:∃z,acceptS y b=z:=⟨_,rfl⟩
  simp only [hyv,hac] at C hl1 hl2
  rw [hac] at HAC
  rw [Bl.val,SiteV.ptr]
  simp only [Bl.val] at C
  go_enter Tryz.func61,Tryz.ntmps61
  repeat' (first|go_values|go_skip|go_guarded|go_step|go_upon|(simp only [];go_at_K))
  go_cut [9,10] from 11 (fun s9 s10 wc=>∃(g:Nat) (z:Sta),s9= .pointer (some ⟨g,0,none⟩)∧s10= .bool ac∧Blk wc g 37 #[.int .i64 z.p.r,.int .i64 z.p.s,.bool z.so,.int .i64 z.at_.r,.int .i64 z.at_.s,.slice z.A z.n z.c]∧
    (ac=true→z=⟨b,true,b,z.A,z.n,z.c,v⟩∧OwnB 5 wc z.A z.n z.c v)∧W.heap.size≤g∧(∀k∈ablk z.A,W.heap.size≤k)∧Upd [] [] W wc)
  case first=>
    go_region_with (first
      | (go_at_call 116;(with_reducible refine (C W.drew (Upd.refl [] W).drew).mono ?_);rintro e W1 ⟨z,rfl,hz,hu⟩)
      | (go_at_call 116;(try rw [hZ]);(with_reducible refine (C Z.drew UZ.drew).mono ?_);rintro e W1 ⟨z,rfl,hz,hu⟩;have K:=BZ.drew.upd hu (by simp);obtain ⟨⟨k0,k1,k2,k3,k4,k5⟩,e0,e1,e2,e3,e4,e5⟩:=K.c6)
      | (rw [hZ]))
    all_goals (repeat' (first | go_values | go_skip | go_guarded | go_step | go_upon | (simp only [];go_at_K)))
    all_goals go_meet
    all_goals first
      | (have KK:=blk_set6 K (.int .i64 z.p.r) (.int .i64 z.p.s) (.bool z.so) (.int .i64 z.at_.r) (.int .i64 z.at_.s) (.slice z.A z.n z.c)
         have u6:=upd_set6 W1 W.heap.size (.int .i64 z.p.r) (.int .i64 z.p.s) (.bool z.so) (.int .i64 z.at_.r) (.int .i64 z.at_.s) (.slice z.A z.n z.c)
         have hA6:=UZ.drew.new hu
         have hB6:=(Upd.refl [] Z).drew.new hu
         have U6:=((UZ.drew.trans hu).own (Nat.le_refl _) u6).gives (b':=[]) (by simp)
         have E6:ac=true→z=⟨b,true,b,z.A,z.n,z.c,v⟩∧OwnB 5 (set6 W1 W.heap.size (.int .i64 z.p.r) (.int .i64 z.p.s) (.bool z.so) (.int .i64 z.at_.r) (.int .i64 z.at_.s) (.slice z.A z.n z.c)) z.A z.n z.c v:=fun ha=>⟨(hz ha).1,(hz ha).2.upd u6 (fun k hk=>by
           have h8:=BZ.lt
           have h9:Z.heap.size≤k:=hB6 k hk
           simp only [List.mem_singleton];omega)⟩
         exact ⟨W.heap.size,z,rfl,rfl,KK,E6,Nat.le_refl _,hA6,U6⟩)
      | (have KK:=Blk.new W1 37 #[.int .i64 z.p.r,.int .i64 z.p.s,.bool z.so,.int .i64 z.at_.r,.int .i64 z.at_.s,.slice z.A z.n z.c]
         have U6:=((((Upd.refl [] W).drew.trans hu).alloc (.cells #[.int .i64 z.p.r,.int .i64 z.p.s,.bool z.so,.int .i64 z.at_.r,.int .i64 z.at_.s,.slice z.A z.n z.c] 37)).gives (b':=[]) (by simp))
         have hA6:=(Upd.refl [] W).drew.new hu
         have hs6:W.heap.size≤W1.heap.size:=hu.size
         exact ⟨W1.heap.size,z,rfl,rfl,KK,fun ha=>⟨(hz ha).1,(hz ha).2.alloc _⟩,hs6,hA6,U6⟩)
  case rest=>
    obtain ⟨g,z,rfl,rfl,hBz,hz,hgs,hAs,U1⟩:=hcut
    have hs:=h1.upd0 U1
    have hBb:=hB.upd U1 (by simp)
    have hvc:=(hv.upd U0 (by simp)).upd U1 (by simp)
    have U2:=U0.trans (U1.up _)
    have HU2:=Lib.hid U2
    have hf:=h.lt
    have hBn:=h.ban
    clear C UZ BZ hl1 hl2 h1 hB U1 p0 p1 r0 r1 q5 s5 U2
    cases ac with
    | false=>
      repeat' (first|go_values|go_skip|go_guarded|go_step|go_upon|(simp only [];go_at_K))
      have HR:=HN.out
      rw [if_pos (by have:=HAC.out;simpa using this.symm)] at HR
      subst HR
      go_ret
      exact ⟨rfl,M,hs,rfl,rfl,rfl,HU2.out.mono (by simp) (fun k hk=>.inr (.inl hk))⟩
    | true=>
      obtain ⟨ez,hoz⟩:=hz rfl
      have hbb:=Bl.may7.1 hb
      have C3:=siteNote wc M hs z ⟨2,x,b.r,b.s,B,m,d,v⟩ ⟨by rw [ez];exact hoz.rd,hoz.own.tag⟩ (fun k hk hm=>by have h7:=hAs k hk;have h8:=hf k hm;have h9:=HU2.out.size;have:=U0.size;omega) (fun k hk hm=>by have h7:=hAs k hk;have h8:=hBn k hm;have h9:=HU2.out.size;have:=U0.size;omega) (by rw [ez];exact ⟨hvl,hb,hb⟩) hvc ⟨.inr rfl,by show 0≤x∧x≤4095;omega,hbb.1,hbb.2,hvl⟩
      obtain ⟨⟨a0,a1,a2,a3,a4,a5⟩,-⟩:=hBz.c6
      obtain ⟨⟨b0,b1⟩,-⟩:=hBb.c2
      have e1:z.pl=⟨b,true,b,v⟩:=by rw [ez];rfl
      rw [e1] at C3
      have HR:=HN.out
      rw [if_neg (by have:=HAC.out;simpa using this.symm)] at HR
      rw [show (⟨2,x,b.r,b.s,B,m,d,v⟩:Rv).rc=⟨2,x,b.r,b.s,v⟩ from rfl,←HR] at C3
      simp only [SiteV.ptr,Sta.val,Rv.val_eq] at C3
      clear HR HN hs hvc hoz hBb hBz hz ez e1
      repeat' (first|go_values|go_skip|go_guarded|go_step|go_upon|(simp only [];go_at_K))
      ((with_reducible refine C3.mono ?_);rintro e w3 ⟨rfl,M3,h3,p3,g3,r3,V3⟩)
      repeat' (first|go_values|go_skip|go_guarded|go_step|go_upon|(simp only [];go_at_K))
      go_ret
      exact ⟨rfl,M3,h3,p3,g3,r3,(HU2.out.mono (a':=M.fp) (b':=M.fp) (by simp) (fun k hk=>.inr (.inl hk))).trans V3⟩
end Go.Proofs.YtijhlbeipglieaaGreat
