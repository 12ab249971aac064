/- For WorldCalm. -/
import Derived.Deep.Cut
import Derived.Test.YtijhlbeipglieaaGreatPkSiteE
set_option linter.all false
set_option maxRecDepth 100000
set_option maxHeartbeats 4000000
namespace Go.Proofs.YtijhlbeipglieaaGreat
open Go.RowKit aL Go.Maps Tryz List
theorem Uj(w:World)(r:Rv)(hr:bE w r.A r.n r.b):xg (w.alloc (.cells r.cells.toArray 147)) (some ⟨w.heap.size,0,none⟩) 1 [r]:=by
  refine⟨⟨rfl,?_⟩,fun x hx=>?_⟩
  · have:=Rd.aO (n:=1) (size:=5) (aQ.new w 147 r.cells.toArray) rfl
    simpa using this
  · obtain rfl:=mem_singleton.1 hx
    exact hr.alloc _
theorem QR(r:Rc):0<(bX [r]).length:=by
  rw[rM,length_append,fF];omega
variable [eA]
theorem FR(w:World)(M:ae)(h:aJ w M)(y:cP)(r:Rv)(hy:dj w y.sl)(gY:∀k∈ak y.A,k∉M.fp)(adU:∀k∈ak y.A,k∉(eA.X:List Nat))(hp:y.b.length≤2048∧y.p.may 7=true∧y.at_.may 7=true)(hr:bE w r.A r.n r.b)(hm:r.rc.bL) :
    Calls prog 117 #[M.ptr,y.val,r.val] w fun e w'=>e=.returned (.bool (M.pl.note y.pl r.rc).isSome)∧lY w w' M ((M.pl.note y.pl r.rc).getD M.pl):=by
  obtain⟨W,H,G,eW,hH,hG,gh,cX,U0⟩:=DG w 37 147 #[.int .i64 y.p.r,.int .i64 y.p.s,.bool y.so,.int .i64 y.at_.r,.int .i64 y.at_.s,.slice y.A y.n y.c] #[.int .i64 r.k,.int .i64 r.s,.int .i64 r.r,.int .i64 r.t,.slice r.A r.n r.c]
  have h1:=h.aN U0
  have kx:=hy.aN U0
  have hr1:bE W r.A r.n r.b:=hr.aq U0 (by simp)
  have hlen:(bX (eM [r])).length≤2108:=by have:=QN (l:=eM [r]) (fun x hx=>by simp only[eM,map_cons,map_nil,mem_singleton]at hx;subst hx;exact hm);simpa[eM]using this
  have C:=Ty _ (some ⟨W.heap.size,0,none⟩) 1 1 [r] (Uj W r hr1) (fun x hx=>by obtain rfl:=mem_singleton.1 hx;exact hm) (by omega) (by omega)
  have Jh:eM [r]= [r.rc]:=rfl
  rw[Jh]at C hlen
  have HN:=aA (show M.pl.note y.pl r.rc=if M.db.length+(bX [r.rc]).length≤1048576 then some ({M.pl with db:=M.db++bX [r.rc]}.turn r.s y.pl)else none by
    unfold Site.note Site.room;simp only[decide_eq_true_eq];rfl)
  obtain⟨R,hR⟩:=bk (M.pl.note y.pl r.rc)
  rw[hR]at HN ⊢
  have adV:=QR r.rc
  have lP:0≤r.s∧r.s≤4095:=hm.slot
  obtain⟨⟨a0,a1,a2,a3,a4,a5⟩,-⟩:=gh.c6
  obtain⟨⟨b0,b1,b2,b3,b4⟩,-⟩:=cX.c5
  rw[ae.ptr,Rv.bJ,cP.val]
  simp only[Rv.cells]at C
  clear hR hr hr1 hy Jh
  generalize bX [r.rc]=z at *
  go_enter func117,ntmps117
  repeat' go_step
  refine C.mono ?_;rintro e w1 ⟨A,n,c,rfl,ho,hu⟩
  have U1:ab [] [] w w1:=(((U0.gives (b':=[]) (by simp)).alloc _).trans hu).gives (by simp)
  have hs:=h.aN U1
  have K1:=(gh.alloc _).aq hu (by simp)
  have K2:=(cX.alloc _).aq hu (by simp)
  have oh:=(kx.aN ((ab.refl [] W).alloc (.cells #[.int .i64 r.k,.int .i64 r.s,.int .i64 r.r,.int .i64 r.t,.slice r.A r.n r.c] 147))).aN hu
  have q4:w1.cell? ⟨M.gs,4,none⟩=some (.pointer (some ⟨M.gd,0,none⟩)):=hs.aO.cell 4
  have Ya:w.heap.size≤H:=by omega
  have xF:=gh.lt
  have XX:w.heap.size≤G:=by omega
  have hGl:=cX.lt
  have hf:=h.lt
  clear C hu U0 gh cX kx h1 a0 a1 a2 a3 a4 a5 b0 b1 b2 b3 b4
  by_cases hroom:M.db.length+z.length≤1048576
  · have C2:=J0 w1 M.gd M.Ad M.db.length M.cd M.db M.dn hs.kX A n c z ho.rd adV hroom
    repeat' first|go_guarded|go_step|simp only[];go_at_K
    refine C2.mono ?_;rintro e w2 ⟨A',n',c',rfl,hd,bh⟩
    have py:n'=(M.db++z).length:=hd.row.len
    subst py
    have ef:({M with Ad:=A',cd:=c',db:=M.db++z,dn:=M.dn} :ae).pl.Ok:=h.ok.cZ _ _
    obtain⟨hs2,V2⟩:=hs.cZ bh hd ef
    have SS:∀k∈M.gd::ak M.Ad,k∈M.fp:=fun k hk=>by
      rcases mem_cons.1 hk with rfl|hk
      · simp[ae.fp]
      · simp[ae.fp,hk]
    have K1b:=K1.aq bh (fun hk=>by have:=hf _ (SS _ hk);omega)
    have K2b:=K2.aq bh (fun hk=>by have:=hf _ (SS _ hk);omega)
    have qw:=oh.aq bh (fun k hk hm=>gY k hk (SS k hm))
    have Z6:∀k∈ak y.A,k∉ak A'++(eA.X:List Nat):=fun k hk hm=>by
      rcases mem_append.1 hm with hm|hm
      · rcases bh.fresh k (mem_cons_of_mem _ hm)with h1|h1
        · exact gY k hk (SS k h1)
        · have:=fJ (oh.tag k hk);omega
      · exact adU k hk hm
    have C3:=QQ w2 _ hs2 r.s (by omega) y qw Z6 hp
    obtain⟨⟨a0,a1,a2,a3,a4,a5⟩,-⟩:=K1b.c6
    obtain⟨⟨b0,b1,b2,b3,b4⟩,-⟩:=K2b.c5
    simp only[ae.ptr,cP.val]at C3
    clear C2 hd bh hs2 K1 K2 oh qw
    repeat' first|go_guarded|go_step|simp only[];go_at_K
    refine C3.mono ?_;rintro e w3 ⟨rfl,M3,h3,p3,g3,r3,V3⟩
    refine wk ?_
    have HR:=HN.out
    rw[if_pos hroom]at HR
    subst HR
    go_ret
    exact⟨rfl,M3,h3,p3,g3,r3,((U1.up M.fp).trans V2).trans V3⟩
  · have C2:=PS w1 M.gd M.Ad M.db.length M.cd M.db M.dn hs.kX A n c z ho.rd (by omega) (by omega)
    repeat' first|go_guarded|go_step|simp only[];go_at_K
    refine C2.mono ?_;rintro e w2 ⟨rfl,rfl⟩
    refine wk ?_
    have HR:=HN.out
    rw[if_neg hroom]at HR
    subst HR
    go_ret
    exact⟨rfl,M,hs,rfl,rfl,rfl,U1.up M.fp⟩
theorem nQ(w:World)(M:ae)(h:aJ w M)(x:Int)(hx:0≤x∧x<4096)(b:Bl)(hb:b.may 7=true)(B:Option Addr)(m d:Nat)(v:List UInt8)(hv:bE w B m v)(_hvf:∀k∈ak B,k∉M.fp)(gi:v.length≤2048) :
    Calls prog 61 #[M.ptr,.int .i64 x,b.val,.slice B m d] w fun e w'=>e=.returned (.bool (M.pl.accept x b v).isSome)∧lY w w' M ((M.pl.accept x b v).getD M.pl):=by
  have eO:(Lit.int .i64 x).wf=true:=kt (by omega) (by omega)
  obtain⟨W,H,eW,hH,hB,U0⟩:=cb w 30 #[.int .i64 b.r,.int .i64 b.s]
  have h1:=h.aN U0
  have pJ:bE W B m v:=hv.aq U0 (by simp)
  have hl:=h1.look eO
  obtain⟨hb1,hb2,hb3⟩:=h1.sK x
  have HN:=aA (show M.pl.accept x b v=if dr b (M.dA x).p<0 then none else M.pl.note ⟨b,true,b,v⟩ ⟨2,x,b.r,b.s,v⟩ by
    unfold Site.accept;rw[←ae.nZ];rfl)
  obtain⟨R,hR⟩:=bk (M.pl.accept x b v)
  rw[hR]at HN ⊢
  clear hR
  have C:∀(Wx:World)(hU:ab [] [] W Wx),Calls prog 116 #[(M.dA x).val,b.val,.slice B m d] Wx fun e w'=>∃z:cP,e=.returned (.tuple #[.agg #[.int .i64 z.p.r,.int .i64 z.p.s,.bool z.so,.int .i64 z.at_.r,.int .i64 z.at_.s,.slice z.A z.n z.c],.bool (jn (M.dA x) b)])∧
      (jn (M.dA x) b=true→z=⟨b,true,b,z.A,z.n,z.c,v⟩∧bW 5 w' z.A z.n z.c v)∧ab [] (ak z.A) Wx w':=fun Wx hU=>by
    refine(Bk Wx (M.dA x) b B m d v (bE.aq hb1.rd hU (by simp)) (by have:=hb3;omega) (pJ.aq hU (by simp)) (by omega)).mono ?_
    rintro e w' ⟨A,n,c,ho,hu,rfl⟩
    cases cM:jn (M.dA x) b with
    |true=>rw[cM]at ho;exact⟨⟨b,true,b,A,n,c,v⟩,rfl,fun _=>⟨rfl,ho⟩,hu⟩
    |false=>rw[cM]at ho;exact⟨{M.dA x with A:=A,n:=n,c:=c},rfl,fun hh=>Bool.noConfusion hh,hu⟩
  obtain⟨Z,hZ⟩:∃Z:World,W.alloc (.cells #[.int .i64 0,.int .i64 0,.bool false,.int .i64 0,.int .i64 0,.slice none 0 0] 37)=Z:=⟨_,rfl⟩
  have UZ:ab [] [] W Z:=by rw[←hZ];exact(ab.refl [] W).alloc _
  have BZ:aQ Z W.heap.size 37 #[.int .i64 0,.int .i64 0,.bool false,.int .i64 0,.int .i64 0,.slice none 0 0]:=by rw[←hZ];exact aQ.new _ _ _
  have fR:(Instr.lookup 117 (.map (some M.bs)) (.int .i64 x) false).run prog W.drew=.ok (M.dA x).val W.drew:=h1.drew.look eO
  have hl2:(Instr.lookup 117 (.map (some M.bs)) (.int .i64 x) false).run prog Z.drew=.ok (M.dA x).val Z.drew:=(h1.aN UZ).drew.look eO
  obtain⟨⟨p0,p1⟩,-⟩:=hB.c2
  obtain⟨⟨r0,r1⟩,-⟩:=(hB.aq UZ (by simp)).c2
  have q5:W.cell? ⟨M.gs,5,none⟩=some (.map (some M.bs)):=h1.aO.cell 5
  have s5:Z.cell? ⟨M.gs,5,none⟩=some (.map (some M.bs)):=(h1.aN UZ).aO.cell 5
  have xF:=hB.lt
  have Yb:jn (M.dA x) b=!decide (dr b (M.dA x).p<0):=rfl
  have wi:=aA Yb
  clear hl hb1 hb2 hb3 pJ Yb
  generalize M.dA x=y at *
  obtain⟨yv,Yc⟩:∃z,y.val=z:=⟨_,rfl⟩
  obtain⟨ac,zZ⟩:∃z,jn y b=z:=⟨_,rfl⟩
  simp only[Yc,zZ]at C fR hl2
  rw[zZ]at wi
  rw[Bl.val,ae.ptr]
  simp only[Bl.val]at C
  go_enter func61,ntmps61
  repeat' go_step
  go_cut [9,10]from 11 (fun s9 s10 wc=>∃(g:Nat)(z:cP),s9=.pointer (some ⟨g,0,none⟩)∧s10=.bool ac∧aQ wc g 37 #[.int .i64 z.p.r,.int .i64 z.p.s,.bool z.so,.int .i64 z.at_.r,.int .i64 z.at_.s,.slice z.A z.n z.c]∧
    (ac=true→z=⟨b,true,b,z.A,z.n,z.c,v⟩∧bW 5 wc z.A z.n z.c v)∧W.heap.size≤g∧(∀k∈ak z.A,W.heap.size≤k)∧ab [] [] W wc)
  case first=>
    go_region_with (first
      |(go_at_call 116;(with_reducible refine(C W.drew (ab.refl [] W).drew).mono ?_);rintro e W1 ⟨z,rfl,hz,hu⟩)
      |(go_at_call 116;(try rw[hZ]);(with_reducible refine(C Z.drew UZ.drew).mono ?_);rintro e W1 ⟨z,rfl,hz,hu⟩;have K:=BZ.drew.aq hu (by simp);obtain⟨⟨k0,k1,k2,k3,k4,k5⟩,e0,e1,e2,e3,e4,e5⟩:=K.c6)
      |(rw[hZ]))
    all_goals (refine wk ?_)
    all_goals go_meet
    all_goals first
      |(
         have KK:=mz K (.int .i64 z.p.r) (.int .i64 z.p.s) (.bool z.so) (.int .i64 z.at_.r) (.int .i64 z.at_.s) (.slice z.A z.n z.c)
         have u6:=mA W1 W.heap.size (.int .i64 z.p.r) (.int .i64 z.p.s) (.bool z.so) (.int .i64 z.at_.r) (.int .i64 z.at_.s) (.slice z.A z.n z.c)
         have uT:=UZ.drew.new hu
         have mP:=(ab.refl [] Z).drew.new hu
         have U6:=((UZ.drew.trans hu).own (Nat.le_refl _) u6).gives (b':=[]) (by simp)
         have E6:ac=true→z=⟨b,true,b,z.A,z.n,z.c,v⟩∧bW 5 (ta W1 W.heap.size (.int .i64 z.p.r) (.int .i64 z.p.s) (.bool z.so) (.int .i64 z.at_.r) (.int .i64 z.at_.s) (.slice z.A z.n z.c)) z.A z.n z.c v:=fun ha=>⟨(hz ha).1,(hz ha).2.aq u6 (fun k hk=>by
           have h8:=BZ.lt
           have h9:Z.heap.size≤k:=mP k hk
           simp only[mem_singleton];omega)⟩
         exact⟨W.heap.size,z,rfl,rfl,KK,E6,Nat.le_refl _,uT,U6⟩)
      |(
         have KK:=aQ.new W1 37 #[.int .i64 z.p.r,.int .i64 z.p.s,.bool z.so,.int .i64 z.at_.r,.int .i64 z.at_.s,.slice z.A z.n z.c]
         have U6:=((((ab.refl [] W).drew.trans hu).alloc (.cells #[.int .i64 z.p.r,.int .i64 z.p.s,.bool z.so,.int .i64 z.at_.r,.int .i64 z.at_.s,.slice z.A z.n z.c] 37)).gives (b':=[]) (by simp))
         have uT:=(ab.refl [] W).drew.new hu
         have SU:W.heap.size≤W1.heap.size:=hu.size
         exact⟨W1.heap.size,z,rfl,rfl,KK,fun ha=>⟨(hz ha).1,(hz ha).2.alloc _⟩,SU,uT,U6⟩)
  case rest=>
    obtain⟨g,z,rfl,rfl,uU,hz,rE,Cx,U1⟩:=hcut
    have hs:=h1.aN U1
    have nY:=hB.aq U1 (by simp)
    have KU:=(hv.aq U0 (by simp)).aq U1 (by simp)
    have U2:=U0.trans (U1.up _)
    have Aa:=aA U2
    have hf:=h.lt
    have N9:=h.po
    clear C UZ BZ fR hl2 h1 hB U1 p0 p1 r0 r1 q5 s5 U2
    cases ac with
    |false=>
      refine wk ?_
      have HR:=HN.out
      rw[if_pos (by have:=wi.out;simpa using this.symm)]at HR
      subst HR
      go_ret
      exact⟨rfl,M,hs,rfl,rfl,rfl,Aa.out.mono (by simp) (fun k hk=>.inr (.inl hk))⟩
    |true=>
      obtain⟨ez,FT⟩:=hz rfl
      have ik:=Bl.jk.1 hb
      have C3:=FR wc M hs z ⟨2,x,b.r,b.s,B,m,d,v⟩ ⟨by rw[ez];exact FT.rd,FT.own.tag⟩ (fun k hk hm=>by have h7:=Cx k hk;have h8:=hf k hm;have h9:=Aa.out.size;have:=U0.size;omega) (fun k hk hm=>by have h7:=Cx k hk;have h8:=N9 k hm;have h9:=Aa.out.size;have:=U0.size;omega) (by rw[ez];exact⟨gi,hb,hb⟩) KU ⟨.inr rfl,by show 0≤x∧x≤4095;omega,ik.1,ik.2,gi⟩
      obtain⟨⟨a0,a1,a2,a3,a4,a5⟩,-⟩:=uU.c6
      obtain⟨⟨b0,b1⟩,-⟩:=nY.c2
      have e1:z.pl=⟨b,true,b,v⟩:=by rw[ez];rfl
      rw[e1]at C3
      have HR:=HN.out
      rw[if_neg (by have:=wi.out;simpa using this.symm)]at HR
      rw[show(⟨2,x,b.r,b.s,B,m,d,v⟩:Rv).rc=⟨2,x,b.r,b.s,v⟩from rfl,←HR]at C3
      simp only[ae.ptr,cP.val,Rv.bJ]at C3
      clear HR HN hs KU FT nY uU hz ez e1
      repeat' first|go_guarded|go_step
      refine C3.mono ?_;rintro e w3 ⟨rfl,M3,h3,p3,g3,r3,V3⟩
      refine wk ?_
      go_ret
      exact⟨rfl,M3,h3,p3,g3,r3,(Aa.out.mono (a':=M.fp) (b':=M.fp) (by simp) (fun k hk=>.inr (.inl hk))).trans V3⟩
