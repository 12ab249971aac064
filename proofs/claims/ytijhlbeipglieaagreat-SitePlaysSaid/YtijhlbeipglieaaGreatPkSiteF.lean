/- For SitePlays. -/
import Derived.Deep.Cut
import Derived.Test.YtijhlbeipglieaaGreatPkSiteE
set_option linter.all false
set_option maxRecDepth 100000
set_option maxHeartbeats 4000000
namespace Go.Proofs.YtijhlbeipglieaaGreat
open Go.RowKit aA Go.Maps Tryz List
theorem Yq(w:World)(r:Rv)(hr:aD w r.A r.n r.b):tu (w.alloc (.cells r.cells.toArray 147)) (some ⟨w.heap.size,0,none⟩) 1 [r]:=by
  refine⟨⟨rfl,?_⟩,fun x hx=>?_⟩
  · have:=Rd.blk (n:=1) (size:=5) (ak.new w 147 r.cells.toArray) rfl
    simpa using this
  · obtain rfl:=mem_singleton.1 hx
    exact hr.alloc _
theorem Vy(r:Rc):0<(bn [r]).length:=by
  rw[kE,length_append,fZ];omega
variable [eU]
theorem J5(w:World)(M:af)(h:ay w M)(y:aN)(r:Rv)(hy:dF w y.sl)(adk:∀k∈ah y.A,k∉M.fp)(afb:∀k∈ah y.A,k∉(eU.X:List Nat))(hp:y.b.length≤2048∧y.p.may 7=true∧y.at_.may 7=true)(hr:aD w r.A r.n r.b)(hm:r.rc.May) :
    Calls prog 117 #[M.ptr,y.val,r.val] w fun e w'=>e=.returned (.bool (M.pl.note y.pl r.rc).isSome)∧Goes w w' M ((M.pl.note y.pl r.rc).getD M.pl):=by
  obtain⟨W,H,G,eW,hH,hG,hB1,hB2,U0⟩:=vY w 37 147 #[.int .i64 y.p.r,.int .i64 y.p.s,.bool y.so,.int .i64 y.at_.r,.int .i64 y.at_.s,.slice y.A y.n y.c] #[.int .i64 r.k,.int .i64 r.s,.int .i64 r.r,.int .i64 r.t,.slice r.A r.n r.c]
  have h1:=h.au U0
  have hy1:=hy.au U0
  have hr1:aD W r.A r.n r.b:=hr.upd U0
  have hlen:(bn (cK [r])).length≤2108:=by have:=IX (l:=cK [r]) (fun x hx=>by simp only[cK,map_cons,map_nil,mem_singleton]at hx;subst hx;exact hm);simpa[cK]using this
  have C:=XP _ (some ⟨W.heap.size,0,none⟩) 1 1 [r] (Yq W r hr1) (fun x hx=>by obtain rfl:=mem_singleton.1 hx;exact hm) (by omega) (by omega)
  have hrc:cK [r]= [r.rc]:=rfl
  rw[hrc]at C hlen
  have HN:=hdn (show M.pl.note y.pl r.rc=if M.db.length+(bn [r.rc]).length≤1048576 then some ({M.pl with db:=M.db++bn [r.rc]}.turn r.s y.pl)else none by
    unfold Site.note Site.room;simp only[decide_eq_true_eq];rfl)
  obtain⟨R,hR⟩:=ex1 (M.pl.note y.pl r.rc)
  rw[hR]at HN ⊢
  have apT:=Vy r.rc
  have qK:0≤r.s∧r.s≤4095:=hm.slot
  obtain⟨⟨a0,a1,a2,a3,a4,a5⟩,-⟩:=hB1.c6
  obtain⟨⟨b0,b1,b2,b3,b4⟩,-⟩:=hB2.c5
  rw[af.ptr,Rv.aH,aN.val]
  simp only[Rv.cells]at C
  clear hR hr hr1 hy hrc
  generalize bn [r.rc]=z at *
  go_enter func117,ntmps117
  repeat' go_step
  refine C.mono ?_;rintro e w1 ⟨A,n,c,rfl,ho,hu⟩
  have U1:aa [] [] w w1:=((U0.g0.alloc _).trans hu).gives
  have hs:=h.au U1
  have K1:=(hB1.alloc _).upd hu
  have K2:=(hB2.alloc _).upd hu
  have hy2:=(hy1.au ((aa.refl [] W).alloc (.cells #[.int .i64 r.k,.int .i64 r.s,.int .i64 r.r,.int .i64 r.t,.slice r.A r.n r.c] 147))).au hu
  have q4:w1.cell? ⟨M.gs,4,none⟩=some (.pointer (some ⟨M.gd,0,none⟩)):=hs.blk.cell 4
  have hHs:w.heap.size≤H:=by omega
  have uO:=hB1.lt
  have I4:w.heap.size≤G:=by omega
  have hGl:=hB2.lt
  have hf:=h.lt
  clear C hu U0 hB1 hB2 hy1 h1 a0 a1 a2 a3 a4 a5 b0 b1 b2 b3 b4
  by_cases aje:M.db.length+z.length≤1048576
  · have C2:=NW w1 M.gd M.Ad M.db.length M.cd M.db M.dn hs.nV A n c z ho.rd apT aje
    repeat' first|go_guarded|go_step|simp only[];go_at_K
    refine C2.mono ?_;rintro e w2 ⟨A',n',c',rfl,hd,hu2⟩
    have hn':n'=(M.db++z).length:=hd.row.len
    subst hn'
    have hok:({M with Ad:=A',cd:=c',db:=M.db++z,dn:=M.dn} :af).pl.Ok:=h.ok.disk _ _
    obtain⟨hs2,V2⟩:=hs.disk hu2 hd hok
    have hfp:∀k∈M.gd::ah M.Ad,k∈M.fp:=fun k hk=>by
      rcases mem_cons.1 hk with rfl|hk
      · simp[af.fp]
      · simp[af.fp,hk]
    have Mm:=K1.upd hu2 (fun hk=>by have:=hf _ (hfp _ hk);omega)
    have CJ:=K2.upd hu2 (fun hk=>by have:=hf _ (hfp _ hk);omega)
    have hy3:=hy2.upd hu2 (fun k hk hm=>adk k hk (hfp k hm))
    have ab6:∀k∈ah y.A,k∉ah A'++(eU.X:List Nat):=fun k hk hm=>by
      rcases mem_append.1 hm with hm|hm
      · rcases hu2.fresh k (mem_cons_of_mem _ hm)with h1|h1
        · exact adk k hk (hfp k h1)
        · have:=iI (hy2.tag k hk);omega
      · exact afb k hk hm
    have C3:=Vx w2 _ hs2 r.s (by omega) y hy3 ab6 hp
    obtain⟨⟨a0,a1,a2,a3,a4,a5⟩,-⟩:=Mm.c6
    obtain⟨⟨b0,b1,b2,b3,b4⟩,-⟩:=CJ.c5
    simp only[af.ptr,aN.val]at C3
    clear C2 hd hu2 hs2 K1 K2 hy2 hy3
    repeat' first|go_guarded|go_step|simp only[];go_at_K
    refine C3.mono ?_;rintro e w3 ⟨rfl,M3,h3,p3,g3,r3,V3⟩
    refine wk ?_
    have HR:=HN.out
    rw[if_pos aje]at HR
    subst HR
    go_ret
    exact⟨rfl,M3,h3,p3,g3,r3,((U1.up M.fp).trans V2).trans V3⟩
  · have C2:=SN w1 M.gd M.Ad M.db.length M.cd M.db M.dn hs.nV A n c z ho.rd (by omega) (by omega)
    repeat' first|go_guarded|go_step|simp only[];go_at_K
    refine C2.mono ?_;rintro e w2 ⟨rfl,rfl⟩
    refine wk ?_
    have HR:=HN.out
    rw[if_neg aje]at HR
    subst HR
    go_ret
    exact⟨rfl,M,hs,rfl,rfl,rfl,U1.up M.fp⟩
theorem pg(w:World)(M:af)(h:ay w M)(x:Int)(hx:0≤x∧x<4096)(b:Bl)(hb:b.may 7=true)(B:Option Addr)(m d:Nat)(v:List UInt8)(hv:aD w B m v)(_hvf:∀k∈ah B,k∉M.fp)(hvl:v.length≤2048) :
    Calls prog 61 #[M.ptr,.int .i64 x,b.val,.slice B m d] w fun e w'=>e=.returned (.bool (M.pl.accept x b v).isSome)∧Goes w w' M ((M.pl.accept x b v).getD M.pl):=by
  have hwf:(Lit.int .i64 x).wf=true:=jV (by omega) (by omega)
  obtain⟨W,H,eW,hH,hB,U0⟩:=az w 30 #[.int .i64 b.r,.int .i64 b.s]
  have h1:=h.au U0
  have hv1:aD W B m v:=hv.upd U0
  have hl:=h1.look hwf
  obtain⟨hb1,hb2,hb3⟩:=h1.tJ x
  have HN:=hdn (show M.pl.accept x b v=if bg b (M.bZ x).p<0 then none else M.pl.note ⟨b,true,b,v⟩ ⟨2,x,b.r,b.s,v⟩ by
    unfold Site.accept;rw[←af.nU];rfl)
  obtain⟨R,hR⟩:=ex1 (M.pl.accept x b v)
  rw[hR]at HN ⊢
  clear hR
  have C:∀(Wx:World)(hU:aa [] [] W Wx),Calls prog 116 #[(M.bZ x).val,b.val,.slice B m d] Wx fun e w'=>∃z:aN,e=.returned (.tuple #[.agg #[.int .i64 z.p.r,.int .i64 z.p.s,.bool z.so,.int .i64 z.at_.r,.int .i64 z.at_.s,.slice z.A z.n z.c],.bool (jD (M.bZ x) b)])∧
      (jD (M.bZ x) b=true→z=⟨b,true,b,z.A,z.n,z.c,v⟩∧aT 5 w' z.A z.n z.c v)∧aa [] (ah z.A) Wx w':=fun Wx hU=>by
    refine(EC Wx (M.bZ x) b B m d v (aD.upd hb1.rd hU (by simp)) (by have:=hb3;omega) (hv1.upd hU) (by omega)).mono ?_
    rintro e w' ⟨A,n,c,ho,hu,rfl⟩
    cases abU:jD (M.bZ x) b with
    |true=>rw[abU]at ho;exact⟨⟨b,true,b,A,n,c,v⟩,rfl,fun _=>⟨rfl,ho⟩,hu⟩
    |false=>rw[abU]at ho;exact⟨{M.bZ x with A:=A,n:=n,c:=c},rfl,fun hh=>Bool.noConfusion hh,hu⟩
  obtain⟨Z,hZ⟩:∃Z:World,W.alloc (.cells #[.int .i64 0,.int .i64 0,.bool false,.int .i64 0,.int .i64 0,.slice none 0 0] 37)=Z:=⟨_,rfl⟩
  have UZ:aa [] [] W Z:=by rw[←hZ];exact(aa.refl [] W).alloc _
  have BZ:ak Z W.heap.size 37 #[.int .i64 0,.int .i64 0,.bool false,.int .i64 0,.int .i64 0,.slice none 0 0]:=by rw[←hZ];exact ak.new _ _ _
  have hl1:(Instr.lookup 117 (.map (some M.bs)) (.int .i64 x) false).run prog W.drew=.ok (M.bZ x).val W.drew:=h1.drew.look hwf
  have hl2:(Instr.lookup 117 (.map (some M.bs)) (.int .i64 x) false).run prog Z.drew=.ok (M.bZ x).val Z.drew:=(h1.au UZ).drew.look hwf
  obtain⟨⟨p0,p1⟩,-⟩:=hB.c2
  obtain⟨⟨r0,r1⟩,-⟩:=(hB.upd UZ).c2
  have q5:W.cell? ⟨M.gs,5,none⟩=some (.map (some M.bs)):=h1.blk.cell 5
  have s5:Z.cell? ⟨M.gs,5,none⟩=some (.map (some M.bs)):=(h1.au UZ).blk.cell 5
  have uO:=hB.lt
  have aa8:jD (M.bZ x) b=!decide (bg b (M.bZ x).p<0):=rfl
  have zz:=hdn aa8
  clear hl hb1 hb2 hb3 hv1 aa8
  generalize M.bZ x=y at *
  obtain⟨yv,hyv⟩:∃z,y.val=z:=⟨_,rfl⟩
  obtain⟨ac,hac⟩:∃z,jD y b=z:=⟨_,rfl⟩
  simp only[hyv,hac]at C hl1 hl2
  rw[hac]at zz
  rw[Bl.val,af.ptr]
  simp only[Bl.val]at C
  go_enter func61,ntmps61
  repeat' go_step
  go_cut [9,10]from 11 (fun s9 s10 wc=>∃(g:Nat)(z:aN),s9=.pointer (some ⟨g,0,none⟩)∧s10=.bool ac∧ak wc g 37 #[.int .i64 z.p.r,.int .i64 z.p.s,.bool z.so,.int .i64 z.at_.r,.int .i64 z.at_.s,.slice z.A z.n z.c]∧
    (ac=true→z=⟨b,true,b,z.A,z.n,z.c,v⟩∧aT 5 wc z.A z.n z.c v)∧W.heap.size≤g∧(∀k∈ah z.A,W.heap.size≤k)∧aa [] [] W wc)
  case first=>
    go_region_with (first
      |(go_at_call 116;(with_reducible refine(C W.drew (aa.refl [] W).drew).mono ?_);rintro e W1 ⟨z,rfl,hz,hu⟩)
      |(go_at_call 116;(try rw[hZ]);(with_reducible refine(C Z.drew UZ.drew).mono ?_);rintro e W1 ⟨z,rfl,hz,hu⟩;have K:=BZ.drew.upd hu;obtain⟨⟨k0,k1,k2,k3,k4,k5⟩,e0,e1,e2,e3,e4,e5⟩:=K.c6)
      |(rw[hZ]))
    all_goals (refine wk ?_)
    all_goals go_meet
    all_goals first
      |(
         have KK:=mq K (.int .i64 z.p.r) (.int .i64 z.p.s) (.bool z.so) (.int .i64 z.at_.r) (.int .i64 z.at_.s) (.slice z.A z.n z.c)
         have u6:=mr W1 W.heap.size (.int .i64 z.p.r) (.int .i64 z.p.s) (.bool z.so) (.int .i64 z.at_.r) (.int .i64 z.at_.s) (.slice z.A z.n z.c)
         have jH:=UZ.drew.new hu
         have dK:=(aa.refl [] Z).drew.new hu
         have U6:=((UZ.drew.trans hu).own (Nat.le_refl _) u6).gives (b':=[]) (by simp)
         have E6:ac=true→z=⟨b,true,b,z.A,z.n,z.c,v⟩∧aT 5 (vK W1 W.heap.size (.int .i64 z.p.r) (.int .i64 z.p.s) (.bool z.so) (.int .i64 z.at_.r) (.int .i64 z.at_.s) (.slice z.A z.n z.c)) z.A z.n z.c v:=fun ha=>⟨(hz ha).1,(hz ha).2.upd u6 (fun k hk=>by
           have h8:=BZ.lt
           have h9:Z.heap.size≤k:=dK k hk
           simp only[mem_singleton];omega)⟩
         exact⟨W.heap.size,z,rfl,rfl,KK,E6,Nat.le_refl _,jH,U6⟩)
      |(
         have KK:=ak.new W1 37 #[.int .i64 z.p.r,.int .i64 z.p.s,.bool z.so,.int .i64 z.at_.r,.int .i64 z.at_.s,.slice z.A z.n z.c]
         have U6:=((((aa.refl [] W).drew.trans hu).alloc (.cells #[.int .i64 z.p.r,.int .i64 z.p.s,.bool z.so,.int .i64 z.at_.r,.int .i64 z.at_.s,.slice z.A z.n z.c] 37)).gives (b':=[]) (by simp))
         have jH:=(aa.refl [] W).drew.new hu
         have hs6:W.heap.size≤W1.heap.size:=hu.size
         exact⟨W1.heap.size,z,rfl,rfl,KK,fun ha=>⟨(hz ha).1,(hz ha).2.alloc _⟩,hs6,jH,U6⟩)
  case rest=>
    obtain⟨g,z,rfl,rfl,uB,hz,hgs,hAs,U1⟩:=hcut
    have hs:=h1.au U1
    have hBb:=hB.upd U1
    have hvc:=(hv.upd U0).upd U1
    have U2:=U0.trans (U1.up _)
    have DT:=hdn U2
    have hf:=h.lt
    have eu:=h.qW
    clear C UZ BZ hl1 hl2 h1 hB U1 p0 p1 r0 r1 q5 s5 U2
    cases ac with
    |false=>
      refine wk ?_
      have HR:=HN.out
      rw[if_pos (by have:=zz.out;simpa using this.symm)]at HR
      subst HR
      go_ret
      exact⟨rfl,M,hs,rfl,rfl,rfl,DT.out.mono (by simp) (fun k hk=>.inr (.inl hk))⟩
    |true=>
      obtain⟨ez,J6⟩:=hz rfl
      have hbb:=Bl.jb.1 hb
      have C3:=J5 wc M hs z ⟨2,x,b.r,b.s,B,m,d,v⟩ ⟨by rw[ez];exact J6.rd,J6.own.tag⟩ (fun k hk hm=>by have h7:=hAs k hk;have h8:=hf k hm;have h9:=DT.out.size;have:=U0.size;omega) (fun k hk hm=>by have h7:=hAs k hk;have h8:=eu k hm;have h9:=DT.out.size;have:=U0.size;omega) (by rw[ez];exact⟨hvl,hb,hb⟩) hvc ⟨.inr rfl,by show 0≤x∧x≤4095;omega,hbb.1,hbb.2,hvl⟩
      obtain⟨⟨a0,a1,a2,a3,a4,a5⟩,-⟩:=uB.c6
      obtain⟨⟨b0,b1⟩,-⟩:=hBb.c2
      have e1:z.pl=⟨b,true,b,v⟩:=by rw[ez];rfl
      rw[e1]at C3
      have HR:=HN.out
      rw[if_neg (by have:=zz.out;simpa using this.symm)]at HR
      rw[show(⟨2,x,b.r,b.s,B,m,d,v⟩:Rv).rc=⟨2,x,b.r,b.s,v⟩from rfl,←HR]at C3
      simp only[af.ptr,aN.val,Rv.aH]at C3
      clear HR HN hs hvc J6 hBb uB hz ez e1
      repeat' first|go_guarded|go_step
      refine C3.mono ?_;rintro e w3 ⟨rfl,M3,h3,p3,g3,r3,V3⟩
      refine wk ?_
      go_ret
      exact⟨rfl,M3,h3,p3,g3,r3,(DT.out.mono (a':=M.fp) (b':=M.fp) (by simp) (fun k hk=>.inr (.inl hk))).trans V3⟩
