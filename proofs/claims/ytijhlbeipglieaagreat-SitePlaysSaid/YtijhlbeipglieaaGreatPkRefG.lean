/- For SitePlays. -/
import Derived.Test.YtijhlbeipglieaaGreatPkRefF
set_option linter.all false
set_option maxRecDepth 100000
set_option maxHeartbeats 16000000
namespace aA
open Go Go.Proofs.YtijhlbeipglieaaGreat List
theorem Site.Yf{s t:Site}{y:Sp}{r:Rc}(h:s.note y r=some t):t.lv=s.lv:=by
 unfold Site.note at h
 split at h
 ·injection h with h;subst h;rfl
 ·cases h
theorem Site.QY{s t:Site}{x:Int}{b:Bl}{v:List UInt8}(h:s.accept x b v=some t):t.lv=s.lv:=by
 unfold Site.accept at h
 split at h
 ·cases h
 ·exact Site.Yf h
theorem Site.BF:∀(f c:Nat)(s:Site)(tg:Int),(Site.eG f c s tg).lv=s.lv
 |0,_,s,_=>rfl
 |f+1,c,s,tg=>by
  unfold Site.eG
  split
  ·rfl
  split
  ·rfl
  split
  ·split
   ·rfl
   ·rename_i t ht
    refine(Site.BF f _ _ _).trans ?_
    have hl:=Site.QY ht
    show(t.others _ t.n).lv=_
    rw[Site.bH]
    exact hl
  ·exact Site.BF f _ _ _
theorem Site.Yg(s:Site)(tg:Int):(s.skip tg).lv=s.lv:=Site.BF _ _ _ _
def ja(f:Int)(q c:Nat)(s:Site):Site:=
 ((((range' q ((fQ s.lv).toNat-q)).map fun(i:Nat)=>(i:Int)).filter fun x=>(s.dec x).isSome).take (16-c)).foldl (fun u x=>u.send f (Site.tells x ((s.dec x).getD []))) s
theorem Yh{s:Site}{x:Int}(h:(s.dec x).isSome=true):x+1≤fQ s.lv:=by
 obtain⟨v,hv⟩:=Option.isSome_iff_exists.1 h
 exact(Br s.lv 0).2.1 _ (aY hv)
theorem Dv{f:Int}{q c:Nat}{s:Site}(h:(fQ s.lv).toNat≤q∨16≤c):ja f q c s=s:=by
 unfold ja
 rcases h with h|h
 ·rw[show(fQ s.lv).toNat-q=0 by omega];simp
 ·rw[show 16-c=0 by omega];simp
theorem Lr{f:Int}{q c:Nat}{s:Site}(h:s.dec (q:Int)=none):ja f q c s=ja f (q+1) c s:=by
 unfold ja
 by_cases hq:q<(fQ s.lv).toNat
 ·rw[show(fQ s.lv).toNat-q=((fQ s.lv).toNat-(q+1))+1 by omega,range'_succ,map_cons,filter_cons,h]
  rfl
 ·rw[show(fQ s.lv).toNat-q=0 by omega,show(fQ s.lv).toNat-(q+1)=0 by omega];rfl
theorem Ls{f:Int}{q c:Nat}{s:Site}{v:List UInt8}(h:s.dec (q:Int)=some v)(hc:c<16):ja f q c s=ja f (q+1) (c+1) (s.send f (Site.tells (q:Int) v)):=by
 have hq:=Yh (s:=s) (x:=(q:Int)) (by rw[h];rfl)
 unfold ja
 rw[show(fQ s.lv).toNat-q=((fQ s.lv).toNat-(q+1))+1 by omega,range'_succ,map_cons,filter_cons,h]
 simp only[Option.isSome_some,if_true]
 rw[show 16-c=(16-(c+1))+1 by omega,take_succ_cons,foldl_cons,h]
 rfl
theorem QZ(s:Site)(m:Ms)(hm:0≤m.slot):s.wanted m=ja m.bO m.slot.toNat 0 (if m.some_=true∧s.dec m.slot=none∧aV m.slot s.n=s.me then s.skip (m.slot+1)else s):=rfl
end aA
namespace Go.Proofs.YtijhlbeipglieaaGreat
open Go.RowKit aA Go.Maps Go.Proofs.Tryz List
theorem iM.Ei{r:ai}{s:Site}(h:iM r s):s.bJ≤4096:=by
 unfold Site.bJ
 rw[←h.Og,←h.top]
 have h1:=sP r.K 0 4096 (by omega) fun p hp _=>by have:=h.kr p hp;omega
 have h2:=wz r.L 0 4096 (by omega) fun p hp=>by have:=h.lr p hp;omega
 omega
theorem Ref.get{X:List Nat}{w:World}{r:ai}{s:Site}(h:Ref X w r s){x:Int}{y:aM}(hy:dX r.L x=some y):dU X w y.A y.n y.b∧s.dec x=some y.b:=by
 have hm:=qB hy
 refine⟨⟨h.mem.lb _ hm,fun k hk=>h.off k (ai.sub.2 (.inr (.inr (.inr (.inr (.inl ⟨_,hm,hk⟩))))))⟩,?_⟩
 rw[←h.aJ.lv,hy];rfl
theorem Ref.got{X:List Nat}{w:World}{r:ai}{s:Site}(h:Ref X w r s)(x:Int):(dX r.L x).isSome=(s.dec x).isSome:=by
 rw[←h.aJ.lv,Option.isSome_map]
theorem Yi(X:List Nat)(w:World)(r:ai)(s:Site)(h:Ref X w r s)(hX:∀k∈X,k<w.heap.size)(m:Mv)(hm:m.ms.May)(hl:s.held.length≤600000000)(hv:∀x v,s.dec x=some v→v.length≤2048) :
  Calls prog 218 #[r.val,m.val] w fun e w'=>∃v,e=.returned v∧Came X w w' v (s.wanted m.ms):=by
 obtain⟨ii,hii,abx,W,H,eW,hH,hB,U0,W1,J,nK,hJ,fT,U1,W2,G,fu,hG,hBG,U2,hB2,hJ2,hs1,uh,uU,dY,aK,hs0,hs2,hY,hHw,aR,nY,gV,h2,hX2,qG⟩:=Bt h hX 32 #[.int .i64 m.k,.int .i64 m.f,.int .i64 m.t,.int .i64 m.s,.int .i64 m.br,.int .i64 m.bs,.int .i64 m.hr,.int .i64 m.hs,.bool m.so,.slice m.A m.n m.c] 63 cz
 have hok:=h.aJ.ok
 have zm:0≤m.f∧m.f≤6:=hm.bO
 have hms:0≤m.s∧m.s≤4095:=hm.slot
 have CD:=mZ W2 r h2.mem m.s
 have jA:=h.got m.s
 obtain⟨g,hg⟩:=ex1 (dX r.L m.s)
 rw[hg]at CD jA
 obtain⟨og,hog⟩:=ex1 (pI g)
 rw[hog]at CD
 clear hog
 obtain⟨D,hD⟩:=ex1 ((m.so&&(!g.isSome&&(aV m.s s.n==(s.me:Int)))))
 have HDD:=hdn (show(if m.so=true∧s.dec m.s=none∧aV m.s s.n=s.me then s.skip (m.s+1)else s)=if D then s.skip (m.s+1)else s by
  rw[←hD,jA]
  by_cases h1:m.so=true<;>by_cases h2:s.dec m.s=none<;>by_cases h3:aV m.s s.n=s.me<;>simp[h1,h2,h3,Option.isSome_iff_ne_none])
 obtain⟨R,hR⟩:=ex1 (s.wanted m.ms)
 have HR:=hdn (show ja m.f m.s.toNat 0 (if D then s.skip (m.s+1)else s)=R by rw[←hR,QZ _ _ hm.slot.1,←HDD.out];rfl)
 rw[hR]
 have HD:=hdn hD
 clear hR hD hg jA
 have hj:=hJ2.c10.1
 obtain⟨j0,j1,j2,j3,j4,j5,j6,j7,j8,j9⟩:=hj
 rw[ai.arr]at CD
 rw[ai.arr,Mv.aH]
 go_enter func218,ntmps218
 repeat' (fail_if_success with_reducible refine ek (t:=63) rfl ?_);go_step
 refine bF hii hB2 abx ?_
 repeat' go_step
 refine CD.mono ?_;rintro e w3 ⟨rfl,u3⟩
 clear CD j0 j1 j2 j3 j4 j5 j6 j7 j8 j9
 have hB3:=hB2.upd u3
 have hG3:=hBG.upd u3
 have hJ3:=hJ2.upd u3
 have h3:=h2.grow u3
 have yA:∀k∈[H,G]++X,k<w3.heap.size:=fun k hk=>by have h1:=hX2 k hk;have h2:=u3.size;omega
 have U3:=aK.trans u3
 obtain⟨gs,hgs⟩:=ex1 g.isSome
 rw[hgs]at HD
 rw[hgs]
 clear hgs
 repeat' first|go_step|simp only[];go_at_K
 go_cut [6,33]from 18 (fun s6 Dw wc=>s6=.bool gs∧Dw=.bool D∧aa [] [] w3 wc)
 case first=>
  have c0:∀p:GU w3,p.w.cell? ⟨H,0,none⟩=some (.int .i64 (s.me:Int)):=fun p=>by rw[(hB3.upd p.u (by simp)).cell 0];show some (Value.int .i64 (r.me:Int))=_;rw[h.aJ.me]
  have c1:∀p:GU w3,p.w.cell? ⟨H,1,none⟩=some (.int .i64 (s.n:Int)):=fun p=>by rw[(hB3.upd p.u (by simp)).cell 1];show some (Value.int .i64 (r.n:Int))=_;rw[h.aJ.n]
  have d3:∀p:GU w3,p.w.cell? ⟨J,3,none⟩=some (.int .i64 m.s):=fun p=>p.u.cell (hJ3.cell 3) (by simp)
  have d8:∀p:GU w3,p.w.cell? ⟨J,8,none⟩=some (.bool m.so):=fun p=>p.u.cell (hJ3.cell 8) (by simp)
  have CW:∀p:GU w3,Calls prog 46 #[.int .i64 m.s,.int .i64 (s.n:Int)] p.w fun e w'=>e=.returned (.int .i64 (aV m.s s.n))∧∃q:GU w3,w'=q.w:=
   fun p=>p.call ((sK _ m.s s.n).mono fun _ _ ⟨h1,h2⟩=>⟨h1,h2▸aa.refl _ _⟩)
  generalize aV m.s s.n=ow at *
  obtain⟨so,hso⟩:=ex1 m.so
  rw[hso]at d8
  cases so with
  |false=>
   have dO:D=false:=by rw[←HD.out,hso];rfl
   subst dO
   refine dx (by kernel_rfl) (by kernel_rfl) ?_
   repeat (go_big_quiet_step (fail))
   refine wpQuiet_nil ?_
   rintro _ ⟨p,rfl⟩
   clear c0 c1 d3 d8 CW
   refine wk ?_
   go_meet
   exact⟨rfl,rfl,p.u⟩
  |true=>
   cases gs with
   |true=>
    have dO:D=false:=by rw[←HD.out,hso];rfl
    subst dO
    refine dx (by kernel_rfl) (by kernel_rfl) ?_
    repeat (go_big_quiet_step (fail))
    refine wpQuiet_nil ?_
    rintro _ ⟨p,rfl⟩
    clear c0 c1 d3 d8 CW
    refine wk ?_
    go_meet
    exact⟨rfl,rfl,p.u⟩
   |false=>
    have dO:(ow==(s.me:Int))=D:=by rw[←HD.out,hso];rfl
    refine dx (by kernel_rfl) (by kernel_rfl) ?_
    repeat (go_big_quiet_step (exact CW _))
    refine wpQuiet_nil ?_
    rintro _ ⟨p,rfl⟩
    clear c0 c1 d3 d8 CW
    refine wk ?_
    go_meet
    exact⟨rfl,by rw[←dO],p.u⟩
 case rest=>
  obtain⟨rfl,rfl,UD⟩:=hcut
  have kB:=hB3.upd UD
  have kG:=hG3.upd UD
  have kJ:=hJ3.upd UD
  have kR:=h3.grow UD
  have Uc:=U3.trans UD
  have gM:∀k∈[H,G]++X,k<wc.heap.size:=fun k hk=>by have h1:=yA k hk;have h2:=UD.size;omega
  go_upto_if 33 with fail
  go_cut [2,3]from 11 (fun s2 s3 wd=>aQ (∃(r1:ai)(s1:Site),s2=.pointer (some ⟨H,0,none⟩)∧s3=.pointer (some ⟨J,0,none⟩)∧ak wd H 63 r1.cells.toArray∧ak wd G 63 cz∧ak wd J 32 #[.int .i64 m.k,.int .i64 m.f,.int .i64 m.t,.int .i64 m.s,.int .i64 m.br,.int .i64 m.bs,.int .i64 m.hr,.int .i64 m.hs,.bool m.so,.slice m.A m.n m.c]∧
   Ref ([H,G]++X) wd r1 s1∧ja m.f m.s.toNat 0 s1=R∧s1.held.length≤600000100∧s1.lv=s.lv∧aa [] [] w wd))
  case first=>
   cases D with
   |false=>
    refine wk ?_
    go_meet
    exact aQ.mk ⟨r,s,rfl,rfl,kB,kG,kJ,kR,HR.out,by omega,rfl,Uc⟩
   |true=>
    have hw7:=aA.wr (m.s+1)
    have CK:=wM ([H,G]++X) wc r s kR gM (m.s+1) (by omega)
    rw[ai.arr]at CK
    have j3:wc.cell? ⟨J,3,none⟩=some (.int .i64 m.s):=kJ.cell 3
    have hsl:=Site.Ct s (m.s+1) hok.n7
    refine bB ?_
    refine bF hii kB abx ?_
    repeat' go_step
    refine CK.mono ?_;rintro e w6 ⟨v,rfl,r2,rfl,n2,u6⟩
    clear CK j3
    have zh:=kB.upd u6
    rw[ai.arr]
    refine bK ?_
    refine bL r2.cells hii abx zh ?_
    intro W7 pF u7
    refine wk ?_
    go_meet
    exact aQ.mk ⟨r2,_,rfl,rfl,pF,(kG.upd u6).upd u7 gV,(kJ.upd u6).upd u7 (by simpa using uh),n2.upd u7,HR.out,by omega,Site.Yg _ _,(Uc.trans u6).aB hHw u7⟩
  case rest=>
   obtain⟨r1,s1,rfl,rfl,kB1,MU,kJ1,Jp,hT1,hl1,apQ,U1'⟩:=hcut.out
   clear hcut
   have j3:wc.cell? ⟨J,3,none⟩=some (.int .i64 m.s):=kJ1.cell 3
   obtain⟨q0,hq0⟩:∃q0:Nat,m.s=(q0:Int):=⟨m.s.toNat,by omega⟩
   obtain⟨l0,hl0⟩:=ex1 s1.held.length
   rw[hq0]at hT1 j3
   have HQ0:=hdn hq0
   have ait:q0≤4095:=by omega
   rw[Int.toNat_natCast]at hT1
   have HT1:=hdn hT1
   clear hT1 hq0
   repeat' go_step
   go_loopw [7,8] (fun v7 v8 wr=>aQ (∃(q c:Nat)(r1:ai)(s1:Site),v8=.int .i64 (q:Int)∧v7=.int .i64 (c:Int)∧c≤16∧q≤4096+1∧ak wr H 63 r1.cells.toArray∧ak wr G 63 cz∧
    ak wr J 32 #[.int .i64 m.k,.int .i64 m.f,.int .i64 m.t,.int .i64 m.s,.int .i64 m.br,.int .i64 m.bs,.int .i64 m.hr,.int .i64 m.hs,.bool m.so,.slice m.A m.n m.c]∧Ref ([H,G]++X) wr r1 s1∧ja m.f q c s1=R∧s1.held.length≤l0+c∧s1.lv=s.lv∧aa [] [] w wr)) (fun _ v8 _=>4098-(intOf v8).toNat)
   case atStart=>exact aQ.mk ⟨q0,0,r1,s1,rfl,rfl,by omega,by omega,kB1,MU,kJ1,Jp,HT1.out,by omega,apQ,U1'⟩
   case round=>
    obtain⟨q,c,r1,s1,rfl,rfl,apR,Vd,kB,kG,kJ,kR,hsk,Fh,hlv,U⟩:=hrel.out
    clear hrel
    have rT:=hdn hsk
    clear hsk
    have HV:=fun x v (h9:s1.dec x=some v)=>hv x v (by unfold Site.dec at h9 ⊢;rw[←hlv];exact h9)
    have ve:∀k∈[H,G]++X,k<wr.heap.size:=fun k hk=>by
     have h1:=kB.lt
     have h3:=kG.lt
     simp only[cons_append,nil_append,mem_cons]at hk
     rcases hk with rfl|rfl|hk
     ·omega
     ·omega
     ·have:=hX k hk;have:=U.size;omega
    have agF:=kR.aJ.Ei
    have htg:fQ s1.lv≤s1.bJ:=by unfold Site.bJ;omega
    have hqw:=aA.wr ((q:Int)+1)
    have hcw:=aA.wr ((c:Int)+1)
    have CT:=yP ([H,G]++X) wr r1 s1 kR
    rw[ai.arr]at CT
    obtain⟨tp,htp⟩:=ex1 s1.bJ
    rw[htp]at CT agF htg
    clear htp
    have Htg:=hdn htg
    clear htg
    repeat' (fail_if_success with_reducible refine ek (t:=63) rfl ?_);go_step
    refine bF hii kB abx ?_
    repeat' go_step
    refine CT.mono ?_;rintro e w3 ⟨rfl,u3⟩
    clear CT
    have kB3:=kB.upd u3
    have mP:=kG.upd u3
    have MP:=kJ.upd u3
    have kI:=kR.grow u3
    have U3:=U.trans u3
    have yA:∀k∈[H,G]++X,k<w3.heap.size:=fun k hk=>by have h1:=ve k hk;have h2:=u3.size;omega
    clear kB kG kJ kR U ve
    by_cases hq:(q:Int)<tp
    ·have hqd:decide ((q:Int)<tp)=true:=dTx hq
     by_cases hc:c<16
     ·have hcd:decide ((c:Int)<16)=true:=dTo
      have C2:=mZ w3 r1 kI.mem (q:Int)
      have jA:=kI.got (q:Int)
      have aei:=fun y (hy:dX r1.L (q:Int)=some y)=>kI.get hy
      obtain⟨g,hg⟩:=ex1 (dX r1.L (q:Int))
      rw[hg]at C2 jA
      simp only[hg]at aei
      rw[ai.arr]at C2
      have Ve:=hdn hc
      have aiu:q<4096:=by omega
      clear hg agF hq hc Vd
      repeat' (fail_if_success with_reducible refine ek (t:=63) rfl ?_);first|go_guarded|go_step|simp only[];go_at_K
      refine bF hii kB3 abx ?_
      repeat' go_step
      refine C2.mono ?_;rintro e w5 ⟨rfl,u5⟩
      clear C2
      have kB:=kB3.upd u5
      have kG:=mP.upd u5
      have kJ:=MP.upd u5
      have kR:=kI.grow u5
      have U:=U3.trans u5
      have ve:∀k∈[H,G]++X,k<w5.heap.size:=fun k hk=>by have h1:=yA k hk;have h2:=u5.size;omega
      cases g with
      |none=>
       have HN:=hdn (show ja m.f (q+1) c s1=R by rw[←rT.out,←Lr (by simpa using jA)])
       clear aei jA kB3 mP MP kI U3 yA
       refine wk ?_
       exact⟨aQ.mk ⟨q+1,c,r1,s1,by simp,rfl,apR,by omega,kB,kG,kJ,kR,HN.out,Fh,hlv,U⟩,by simp[intOf];omega⟩
      |some y=>
       obtain⟨vo,Jv⟩:=aei y rfl
       replace vo:=vo.grow u5
       have hyl:y.b.length≤2048:=HV _ _ Jv
       have HST:=hdn (show ja m.f (q+1) (c+1) (s1.send m.f (Site.tells (q:Int) y.b))=R by rw[←rT.out,←Ls Jv Ve.out])
       obtain⟨mL,vw⟩:∃mL:Mv,(⟨7,0,0,(q:Int),0,0,0,0,true,y.A,y.n,y.c,y.b⟩:Mv)=mL:=⟨_,rfl⟩
       have vz:=hdn (show mL.ms=Site.tells (q:Int) y.b by rw[←vw];rfl)
       have MX:mL.ms.Fit:=by rw[vz.out];exact Site.kD (by omega) hyl
       have pU:mL.A=y.A∧mL.n=y.n∧mL.b=y.b:=by rw[←vw];exact⟨rfl,rfl,rfl⟩
       have CL:∀w',Calls prog 210 #[.int .i64 (q:Int),.slice y.A y.n y.c] w' fun e w''=>e=.returned mL.val∧aa [] [] w' w'':=fun w'=>by
        have:=uk w' (q:Int) y
        rw[vw]at this
        exact this
       have lB:∀w',aa [H] [H] w5 w'→True:=fun _ _=>trivial
       have k1:∀w',aa [H] [H] w5 w'→w'.cell? ⟨J,1,none⟩=some (.int .i64 m.f):=fun w' u=>(kJ.upd u (by simpa using uh)).cell 1
       clear vw lB aei jA Jv kB3 mP MP kI U3 yA
       simp only[pI]
       repeat' go_step
       have gG:ak (w5.drew) H 63 r1.cells.toArray:=kB.drew
       refine wp_region_held_drew (S:=fun w'=>aa [H] [H] w5 w') (by kernel_rfl) (aa.refl [H] w5).drew fun _=>?_
       refine aF 1 ?_
       refine aF 2 ?_
       refine aF 3 ?_
       refine aF 4 ?_
       refine wpAnyH_ready (rs:=[0,5]) (by kernel_rfl) (by simp) ?_
       refine AllReadyH.cons rfl (fun K hK=>?_) (.cons rfl (fun K hK=>?_) .nil)
       ·skip
        refine uT hii gG abx ?_
        refine aP hK ((aa.refl [H] w5).drew) fun _=>?_
        clear hK K
        refine aW 5 (fun K hK=>?_)
        go_simp
        refine(CL _).mono ?_;rintro e wa ⟨rfl,ua⟩
        simp only[]
        have UA:aa [H] [H] w5 wa:=(‹aa [H] [H] w5 _›).trans (ua.up _)
        have dh:aa [] [] w5 wa:=(aa.refl [] w5).drew.trans ua
        have gW:=gG.upd ua
        refine aP hK (UA) fun _=>?_
        clear hK K
        refine aW 6 (fun K hK=>?_)
        have ky:=lU ([H,G]++X) wa r1 s1 (kR.grow dh) (fun k hk=>by have h1:=ve k hk;have h2:=dh.size;omega) (by omega) m.f zm mL (by rw[pU.1,pU.2.1,pU.2.2];exact vo.grow dh) MX
        rw[ai.arr]at ky
        go_simp
        refine ky.mono ?_;rintro e wd ⟨v,rfl,rd,rfl,nd,ud⟩
        simp only[]
        rw[ai.arr]
        have UD:aa [H] [H] w5 wd:=UA.trans (ud.up _)
        have lG:aa [] [] w5 wd:=dh.trans ud
        have jI:=gW.upd ud
        refine aP hK (UD) fun _=>?_
        clear hK K
        refine aW 7 (fun K hK=>?_)
        refine mf rd.cells hii abx jI ?_
        intro Wn eu un
        have UN:aa [H] [H] w5 Wn:=UD.trans un
        refine aP hK (UN) fun _=>?_
        clear hK K
        refine dnH ?_ _
        have KEY:=hdn (show ∃(q' c':Nat)(r':ai)(s':Site),Value.int .i64 ((q:Int)+1)=.int .i64 (q':Int)∧Value.int .i64 ((c:Int)+1)=.int .i64 (c':Int)∧c'≤16∧q'≤4096+1∧ak Wn H 63 r'.cells.toArray∧ak Wn G 63 cz∧
          ak Wn J 32 #[.int .i64 m.k,.int .i64 m.f,.int .i64 m.t,.int .i64 m.s,.int .i64 m.br,.int .i64 m.bs,.int .i64 m.hr,.int .i64 m.hs,.bool m.so,.slice m.A m.n m.c]∧Ref ([H,G]++X) Wn r' s'∧ja m.f q' c' s'=R∧s'.held.length≤l0+c'∧s'.lv=s.lv∧aa [] [] w Wn from
         ⟨q+1,c+1,rd,_,by simp,by simp,by have:=Ve.out;omega,by omega,eu,(kG.upd lG).upd un gV,(kJ.upd lG).upd un (by simpa using uh),nd.upd un,by rw[vz.out];exact HST.out,by rw[vz.out];simp only[Site.send,length_append,length_cons,length_nil];omega,by rw[vz.out];exact hlv,(U.trans lG).aB hHw un⟩)
        clear nd ud ua UA UD UN un eu jI gW gG dh lG
        refine wk ?_
        exact⟨aQ.mk KEY.out,by simp[intOf];omega⟩
       ·skip
        go_simp
        refine(CL _).mono ?_;rintro e wa ⟨rfl,ua⟩
        simp only[]
        have UA:aa [H] [H] w5 wa:=(‹aa [H] [H] w5 _›).trans (ua.up _)
        have dh:aa [] [] w5 wa:=(aa.refl [] w5).drew.trans ua
        have gW:=gG.upd ua
        refine aP hK (UA) fun _=>?_
        clear hK K
        refine aW 0 (fun K hK=>?_)
        refine uT hii gW abx ?_
        refine aP hK (UA) fun _=>?_
        clear hK K
        refine aW 6 (fun K hK=>?_)
        have ky:=lU ([H,G]++X) wa r1 s1 (kR.grow dh) (fun k hk=>by have h1:=ve k hk;have h2:=dh.size;omega) (by omega) m.f zm mL (by rw[pU.1,pU.2.1,pU.2.2];exact vo.grow dh) MX
        rw[ai.arr]at ky
        go_simp
        refine ky.mono ?_;rintro e wd ⟨v,rfl,rd,rfl,nd,ud⟩
        simp only[]
        rw[ai.arr]
        have UD:aa [H] [H] w5 wd:=UA.trans (ud.up _)
        have lG:aa [] [] w5 wd:=dh.trans ud
        have jI:=gW.upd ud
        refine aP hK (UD) fun _=>?_
        clear hK K
        refine aW 7 (fun K hK=>?_)
        refine mf rd.cells hii abx jI ?_
        intro Wn eu un
        have UN:aa [H] [H] w5 Wn:=UD.trans un
        refine aP hK (UN) fun _=>?_
        clear hK K
        refine dnH ?_ _
        have KEY:=hdn (show ∃(q' c':Nat)(r':ai)(s':Site),Value.int .i64 ((q:Int)+1)=.int .i64 (q':Int)∧Value.int .i64 ((c:Int)+1)=.int .i64 (c':Int)∧c'≤16∧q'≤4096+1∧ak Wn H 63 r'.cells.toArray∧ak Wn G 63 cz∧
          ak Wn J 32 #[.int .i64 m.k,.int .i64 m.f,.int .i64 m.t,.int .i64 m.s,.int .i64 m.br,.int .i64 m.bs,.int .i64 m.hr,.int .i64 m.hs,.bool m.so,.slice m.A m.n m.c]∧Ref ([H,G]++X) Wn r' s'∧ja m.f q' c' s'=R∧s'.held.length≤l0+c'∧s'.lv=s.lv∧aa [] [] w Wn from
         ⟨q+1,c+1,rd,_,by simp,by simp,by have:=Ve.out;omega,by omega,eu,(kG.upd lG).upd un gV,(kJ.upd lG).upd un (by simpa using uh),nd.upd un,by rw[vz.out];exact HST.out,by rw[vz.out];simp only[Site.send,length_append,length_cons,length_nil];omega,by rw[vz.out];exact hlv,(U.trans lG).aB hHw un⟩)
        clear nd ud ua UA UD UN un eu jI gW gG dh lG
        refine wk ?_
        exact⟨aQ.mk KEY.out,by simp[intOf];omega⟩
     ·have hcd:decide ((c:Int)<16)=false:=dFo
      have HE:=hdn (show R=s1 by rw[←rT.out,Dv (.inr (by omega))])
      clear agF hq hc Vd
      have dN:R=s1:=HE.out
      subst dN
      repeat' (fail_if_success with_reducible refine ek (t:=63) rfl ?_);first|go_guarded|go_step|simp only[];go_at_K
      refine bF hii kB3 abx ?_
      refine bK ?_
      refine bL r1.cells hii abx mP ?_
      intro W8 aX u8
      refine wk ?_
      exact fG results218 hii aX abx ⟨_,rfl,r1,rfl,(kI.upd u8).less,U3.aB aR u8⟩
    ·have hqd:decide ((q:Int)<tp)=false:=dFx hq
     have HE:=hdn (show R=s1 by rw[←rT.out,Dv (.inl (by have:=Htg.out;omega))])
     clear agF hq Vd
     have dN:R=s1:=HE.out
     subst dN
     repeat' (fail_if_success with_reducible refine ek (t:=63) rfl ?_);first|go_guarded|go_step|simp only[];go_at_K
     refine bF hii kB3 abx ?_
     refine bK ?_
     refine bL r1.cells hii abx mP ?_
     intro W8 aX u8
     refine wk ?_
     exact fG results218 hii aX abx ⟨_,rfl,r1,rfl,(kI.upd u8).less,U3.aB aR u8⟩
theorem oz{P:Program}{w:World}{ops:Array Oper}{rest:List Oper}{o:Oper}{a:Act}{Q:Exit→Act→World→Prop}(hgd:o.guard=none)(p:Operand)(t:TypeId)(ho:o.op=.load t p){i:TypeInfo}(hi:P.info? t=some i)(hagg:∀w,(isAgg t).run P w=.ok true w){ad:Addr}(hp:a.eval p=.pointer (some ad))(vs:List Value)(hsz:i.size=vs.length)(h0:∀u,vs[0]? =some u→w.cell? ad=some u)(hj:∀j u,0<j→vs[j]? =some u→w.cell? ⟨ad.block,ad.off+j,none⟩=some u)(h:wpList P ops Q rest (a.put o.dst (.agg vs.toArray)) w):wpList P ops Q (o::rest) a w:=by
 have hl:(loadCells ad vs.length).run P w=.ok vs.toArray w:=jX rfl fun j u hu=>by
  cases j with
  |zero=>rw[Addr.add_zero'];exact h0 u hu
  |succ j=>rw[Addr.add_succ'];exact hj (j+1) u (by omega) hu
 refine wpList_plain hgd fun K hK=>?_
 unfold Oper.wp execOp
 simp[ho,Instr.loadAt,Instr.sureAddr,loadVar,hp,hagg,Go.sizeOf,typeInfo,hi,hsz,hl,Result.andThen]
 exact hK _ _ h
theorem Jw:(prog.info? 357).map (fun i=>(i.zero,i.size,i.bytes))=some (some (.agg #[.int .i64 0,.int .i64 0,.int .i64 0]),3,24):=by kernel_rfl
theorem Eo:∃i,prog.info? 230=some i∧i.size=8:=⟨_,rfl,by kernel_rfl⟩
theorem Ref.roB{X:List Nat}{w:World}{r:ai}{s:Site}(h:Ref X w r s){y:aL}(hy:y∈r.R):iO X w y:=
 ⟨h.mem.rb y hy,fun k hk=>h.off k (ai.sub.2 (.inr (.inr (.inr (.inr (.inr (.inr (.inl ⟨y,hy,hk⟩))))))))⟩
theorem iO.vot{X a b:List Nat}{w w':World}{y:aL}(h:iO X w y)(hu:aa a b w w')(ha:∀k∈a,k∈X){A:Option Addr}{c:Nat}{l:List (Int × Bl)}(ho:bR jg 3 w' A l.length l)(hA:∀k∈dV A l.length,k∉X):iO X w' {y with VA:=A,vc:=c,vt:=l}:=by
 have h1:=h.upd hu ha
 refine⟨⟨h1.rd.pr,h1.rd.pb,ho,h1.rd.v⟩,fun k hk=>?_⟩
 unfold aL.fp at hk
 rcases mem_append.1 hk with hk|hk
 ·exact h.off k (mem_append_left _ hk)
 rcases mem_append.1 hk with hk|hk
 ·exact h.off k (mem_append_right _ (mem_append_left _ hk))
 rcases mem_append.1 hk with hk|hk
 ·exact hA k hk
 ·exact h.off k (mem_append_right _ (mem_append_right _ (mem_append_right _ hk)))
theorem iO.v{X:List Nat}{w:World}{y:aL}(h:iO X w y):dU X w y.v.A y.v.n y.v.b:=
 ⟨h.rd.v,fun k hk=>h.off k (mem_append_right _ (mem_append_right _ (mem_append_right _ hk)))⟩
theorem Site.Lt(s:Site)(m:Ms):s.accepted m=match aC m.slot s.rs with
 |none=>s
 |some r=>if r.ax=⟨m.dz,m.ed⟩∧r.so=true then
   (
    if Site.most (r.vt++[(m.bO,(⟨m.dz,m.ed⟩:Bl))]) r.ax s.n then
    (({s with rs:=aG m.slot {r with vt:=r.vt++[(m.bO,(⟨m.dz,m.ed⟩:Bl))]} s.rs} :Site).bE m.slot r.b).others (Site.tells m.slot r.b) s.n
   else {s with rs:=aG m.slot {r with vt:=r.vt++[(m.bO,(⟨m.dz,m.ed⟩:Bl))]} s.rs})
  else s:=rfl
theorem Lu(X:List Nat)(w:World)(r:ai)(s:Site)(h:Ref X w r s)(hX:∀k∈X,k<w.heap.size)(m:Mv)(hm:m.ms.May)(hl:s.held.length≤700000000)(pE:∀p∈s.rs,p.2.vt.length≤900000000) :
  Calls prog 217 #[r.val,m.val] w fun e w'=>∃v,e=.returned v∧Came X w w' v (s.accepted m.ms):=by
 obtain⟨ii,hii,abx,W,H,eW,hH,hB,U0,W1,J,nK,hJ,fT,U1,W2,G,fu,hG,hBG,U2,hB2,hJ2,hs1,uh,uU,dY,aK,hs0,hs2,hY,hHw,aR,nY,gV,h2,hX2,qG⟩:=Bt h hX 32 #[.int .i64 m.k,.int .i64 m.f,.int .i64 m.t,.int .i64 m.s,.int .i64 m.br,.int .i64 m.bs,.int .i64 m.hr,.int .i64 m.hs,.bool m.so,.slice m.A m.n m.c] 63 cz
 have hok:=h.aJ.ok
 obtain⟨ir,hir,rF⟩:=Eo
 have zm:0≤m.f∧m.f≤6:=hm.bO
 have hms:0≤m.s∧m.s≤4095:=hm.slot
 have hmb:(⟨m.br,m.bs⟩:Bl).may 7=true:=Bl.jb.2 ⟨hm.dz,hm.ed⟩
 have CF:=uY W2 r h2.mem m.s
 obtain⟨F,hF⟩:=ex1 (s.accepted m.ms)
 have HF:=hdn (hF.symm.trans (Site.Lt s m.ms))
 rw[hF]
 clear hF
 obtain⟨⟨j0,j1,j2,j3,j4,j5,j6,j7,j8,j9⟩,-⟩:=hJ2.c10
 rw[ai.arr]at CF
 rw[ai.arr,Mv.aH]
 go_enter func217,ntmps217
 repeat' (fail_if_success with_reducible refine ek (t:=63) rfl ?_);go_step
 refine bF hii hB2 abx ?_
 repeat' go_step
 refine CF.mono ?_;rintro e w6 ⟨k,rfl,adG,u6⟩
 clear CF j0 j1 j2 j3 j4 j5 j6 j7 j8 j9
 have yc:=h.aJ.find adG
 clear adG
 have dK:=hB2.upd u6
 have gK:=hBG.upd u6
 have uo:=hJ2.upd u6
 have h6:=h2.grow u6
 have FY:∀k∈[H,G]++X,k<w6.heap.size:=fun k hk=>by have h1:=hX2 k hk;have h2:=u6.size;omega
 have U6:=aK.trans u6
 have q9:w6.cell? ⟨H,9,none⟩=some (.slice r.RA r.R.length r.rc):=dK.cell 9
 obtain⟨D,hD⟩:=ex1 ((match aC m.s s.rs with|some y=>!((y.ax.r==m.br)&&(y.ax.s==m.bs)) || !y.so|none=>true))
 have HD:=hdn hD
 clear hD
 repeat' first|go_step|simp only[];go_at_K
 go_cut [5,33]from 12 (fun s5 Dw wc=>s5=.int .i64 k∧Dw=.bool D∧aa [] [] w6 wc)
 case first=>
  have e4:∀p:GU w6,p.w.cell? ⟨J,4,none⟩=some (.int .i64 m.br):=fun p=>p.u.cell (uo.cell 4) (by simp)
  have e5:∀p:GU w6,p.w.cell? ⟨J,5,none⟩=some (.int .i64 m.bs):=fun p=>p.u.cell (uo.cell 5) (by simp)
  rcases yc with⟨rfl,hlk⟩|⟨i,hi,rfl,hsl,hlk⟩
  ·have dO:D=true:=by have:=HD.out;rw[hlk]at this;exact this.symm
   subst dO
   clear hlk
   refine dx (by kernel_rfl) (by kernel_rfl) ?_
   repeat (go_big_quiet_step (fail))
   refine wpQuiet_nil ?_
   rintro _ ⟨p,rfl⟩
   refine wk ?_
   go_meet
   exact⟨rfl,rfl,p.u⟩
  ·obtain⟨ad,gL,h0,hj⟩:=bR.at_ (f:=aL.cells) (s:=8) (fun _=>rfl) h6.mem.R hi
   obtain⟨y,hlk,hj⟩:∃y:aL,aC m.s s.rs=some y.pl.2∧∀k u,0<k→(aL.cells y)[k]? =some u→w6.cell? ⟨(ad.add (i*8)).block,(ad.add (i*8)).off+k,none⟩=some u:=⟨_,hlk,hj⟩
   have dO:(!((y.ax.r==m.br)&&(y.ax.s==m.bs)) || !y.so)=D:=by have:=HD.out;rw[hlk]at this;exact this
   have hil:(i:Int)<(r.R.length:Int):=by omega
   have t0:decide ((i:Int)<0)=false:=dFo
   have t1:decide (0≤(i:Int))=true:=dTo
   have c9:∀p:GU w6,p.w.cell? ⟨H,9,none⟩=some (.slice (some ad) r.R.length r.rc):=fun p=>p.u.cell (by rw[q9,gL]) (by simp)
   have c1:∀p:GU w6,p.w.cell? ⟨(ad.add (i*8)).block,(ad.add (i*8)).off+1,none⟩=some (.int .i64 y.ax.r):=fun p=>p.u.cell (hj 1 _ (by omega) rfl) (by simp)
   have c2:∀p:GU w6,p.w.cell? ⟨(ad.add (i*8)).block,(ad.add (i*8)).off+2,none⟩=some (.int .i64 y.ax.s):=fun p=>p.u.cell (hj 2 _ (by omega) rfl) (by simp)
   have c4:∀p:GU w6,p.w.cell? ⟨(ad.add (i*8)).block,(ad.add (i*8)).off+4,none⟩=some (.bool y.so):=fun p=>p.u.cell (hj 4 _ (by omega) rfl) (by simp)
   obtain⟨ml,nC⟩:=ex1 r.R.length
   rw[nC]at c9 hil
   obtain⟨so,hso⟩:=ex1 y.so
   rw[hso]at c4 dO
   obtain⟨E,hE⟩:=ex1 (((y.ax.r==m.br)&&(y.ax.s==m.bs)))
   rw[hE]at dO
   clear nC hlk hj h0 gL q9 hso
   have E1:=Co y.ax.r y.ax.s m.br m.bs
   rw[hE]at E1
   cases E with
   |false=>
    simp only[Bool.not_false]at E1
    refine dx (by kernel_rfl) (by kernel_rfl) ?_
    repeat (go_big_quiet_step (fail))
    refine wpQuiet_nil ?_
    rintro _ ⟨p,rfl⟩
    clear c9 c1 c2 c4 e4 e5
    refine wk ?_
    go_meet
    exact⟨rfl,by rw[←dO];rfl,p.u⟩
   |true=>
    simp only[Bool.not_true]at E1
    refine dx (by kernel_rfl) (by kernel_rfl) ?_
    repeat (go_big_quiet_step (fail))
    refine wpQuiet_nil ?_
    rintro _ ⟨p,rfl⟩
    clear c9 c1 c2 c4 e4 e5
    refine wk ?_
    go_meet
    exact⟨rfl,by rw[←dO];rfl,p.u⟩
 case rest=>
  obtain⟨rfl,rfl,UC⟩:=hcut
  have fM:=dK.upd UC
  have eO:=gK.upd UC
  have gN:=uo.upd UC
  have hc:=h6.grow UC
  have gM:∀k∈[H,G]++X,k<wc.heap.size:=fun k hk=>by have h1:=FY k hk;have h2:=UC.size;omega
  have Uc:=U6.trans UC
  clear q9 dK gK uo h6 FY U6 h2 hX2 hB2 hJ2 hBG aK
  cases D with
  |true=>
   have bC:=hdn (show F=s by
    have h1:=HF.out
    have h2:=HD.out
    rw[h1]
    show(match aC m.s s.rs with|none=>s|some r=>_)=s
    cases hq:aC m.s s.rs with
    |none=>rfl
    |some y=>
     rw[hq]at h2
     refine if_neg fun hcn=>?_
     have e1:y.ax=⟨m.br,m.bs⟩:=hcn.1
     have e2:=hcn.2
     replace h2:(!((y.ax.r==m.br)&&(y.ax.s==m.bs)) || !y.so)=true:=h2
     rw[e1,e2]at h2
     simp at h2)
   repeat' (fail_if_success with_reducible refine ek (t:=63) rfl ?_);go_step
   refine bF hii fM abx ?_
   refine bK ?_
   refine bL r.cells hii abx eO ?_
   intro W8 aX u8
   refine wk ?_
   exact fG results217 hii aX abx ⟨_,rfl,r,rfl,by rw[bC.out];exact(hc.upd u8).less,Uc.aB aR u8⟩
  |false=>
   rcases yc with⟨rfl,hlk⟩|⟨i,hi,rfl,hsl,hlk⟩
   ·have:=HD.out
    rw[hlk]at this
    cases this
   obtain⟨ad,gL,h0,hj⟩:=bR.at_ (f:=aL.cells) (s:=8) (fun _=>rfl) hc.mem.R hi
   have Jy:=hc.roB (getElem_mem hi)
   obtain⟨y,hlk,vo,hsl,h0,hj⟩:∃y:aL,aC m.s s.rs=some y.pl.2∧iO ([H,G]++X) wc y∧y.slot=m.s∧(∀u,(aL.cells y)[0]? =some u→wc.cell? (ad.add (i*8))=some u)∧
     ∀k u,0<k→(aL.cells y)[k]? =some u→wc.cell? ⟨(ad.add (i*8)).block,(ad.add (i*8)).off+k,none⟩=some u:=⟨_,hlk,Jy,hsl,h0,hj⟩
   have dO:(!((y.ax.r==m.br)&&(y.ax.s==m.bs)) || !y.so)=false:=by have:=HD.out;rw[hlk]at this;exact this
   have hyb:y.ax=⟨m.br,m.bs⟩∧y.so=true:=by
    simp only[Bool.or_eq_false_iff,Bool.not_eq_false',Bool.and_eq_true,beq_iff_eq]at dO
    exact⟨by rw[←dO.1.1,←dO.1.2],dO.2⟩
   have acm:=aY hlk
   have af1:=hok.rs _ acm
   have hvl:y.vt.length≤900000000:=pE _ acm
   have Q0:=hdn (show F=if Site.most (y.vt++[(m.f,(⟨m.br,m.bs⟩:Bl))]) y.ax s.n then
     (({s with rs:=aG m.s ({y.pl.2 with vt:=y.vt++[(m.f,(⟨m.br,m.bs⟩:Bl))]} :Rn) s.rs} :Site).bE m.s y.v.b).others (Site.tells m.s y.v.b) s.n
    else {s with rs:=aG m.s ({y.pl.2 with vt:=y.vt++[(m.f,(⟨m.br,m.bs⟩:Bl))]} :Rn) s.rs} by
    have h1:=HF.out
    rw[show aC m.ms.slot s.rs=some y.pl.2 from hlk]at h1
    rw[h1]
    exact if_pos ⟨hyb.1,hyb.2⟩)
   have hil:(i:Int)<(r.R.length:Int):=by omega
   have t1:decide (0≤(i:Int))=true:=dTo
   have c9:wc.cell? ⟨H,9,none⟩=some (.slice (some ad) r.R.length r.rc):=by rw[fM.cell 9,←gL];rfl
   obtain⟨ml,nC⟩:=ex1 r.R.length
   rw[nC]at c9 hil
   obtain⟨W7,Y,wL,hY7,FZ,U7⟩:=az wc 230 #[.int .i64 0,.int .i64 0,.int .i64 0,.slice none 0 0,.bool false,.slice none 0 0,.slice none 0 0,.int .i64 0]
   have u7:=U7.g0
   clear hyb nC hlk gL Jy dO HD HF
   repeat' (fail_if_success with_reducible refine ek (t:=230) rfl ?_);first|go_values|go_skip|go_guarded|go_step|go_upon|simp only[];go_at_K
   refine oz rfl _ 230 rfl hir (fun _=>rfl) rfl y.cells rF h0 hj ?_
   clear c9 h0 hj
   repeat' (fail_if_success with_reducible refine eT (t:=230) rfl ?_);first|go_values|go_skip|go_guarded|go_step|go_upon|simp only[];go_at_K
   refine di rfl _ _ 230 rfl hir rfl y.cells rfl rF FZ rfl rfl ?_
   intro Wy Dx uy
   have hYl:∀k∈[Y],wc.heap.size≤k:=ge1
   have Jz:∀{g:Nat}{t:TypeId}{cs:Array Value},ak wc g t cs→g∉[Y]:=fun hb=>by have h1:=hb.lt;simp only[mem_singleton];omega
   have MZ:∀k∈[Y],w.heap.size≤k:=fun k hk=>by have h1:=hYl k hk;have h2:=Uc.size;omega
   have uE:Y≠H∧Y≠G∧Y≠J:=by have h1:=fM.lt;have h2:=eO.lt;have h3:=gN.lt;exact⟨by omega,by omega,by omega⟩
   have Uy:=(Uc.trans u7).aB MZ uy
   have hHy:=(fM.upd u7).upd uy (Jz fM)
   have hGy:=(eO.upd u7).upd uy (Jz eO)
   have Q3:=(gN.upd u7).upd uy (Jz gN)
   have hy:=((hc.more hYl).grow u7).upd uy
   have BG:=((vo.more hYl).grow u7).upd uy
   have JA:∀k∈[Y]++([H,G]++X),k<Wy.heap.size:=fun k hk=>by
    have h1:=u7.size;have h2:=uy.size;have h3:=Dx.lt
    rcases mem_append.1 hk with hk|hk
    ·simp only[mem_singleton]at hk;omega
    ·have:=gM k hk;omega
   clear fM eO gN hc vo u7 uy U7 wL FZ Uc gM
   have q6:Wy.cell? ⟨Y,6,none⟩=some (.slice y.VA y.vt.length y.vc):=Dx.cell 6
   have acy:=BG.rd.vt.rd
   obtain⟨vl,tK⟩:=ex1 y.vt.length
   have HVL:=hdn tK
   rw[tK]at q6 acy hvl
   have q6a:=((aa.refl [] Wy).alloc (.cells #[] 357)).cell q6 (by simp)
   have hr0:=acy.alloc (.cells #[] 357)
   have F4:aa [] (ah (some ⟨Wy.heap.size,0,none⟩)) Wy (Wy.alloc (.cells #[] 357)):=((aa.refl [] Wy).alloc _).gives (by intro k hk;simp[ah]at hk;subst hk;exact .inr (Nat.le_refl _))
   have adu:∀u∈y.vt.flatMap jg,u.oneCell'=true:=fun u hu=>by
    obtain⟨z,-,hu⟩:=mem_flatMap.1 hu
    simp only[jg,mem_cons,not_mem_nil,or_false]at hu
    rcases hu with rfl|rfl|rfl<;>rfl
   clear tK
   repeat' (fail_if_success with_reducible refine Ag rfl ?_);go_step
   refine gT _ rfl _ _ 228 rfl 357 underlying228 Jw rfl (by decide) (Own.made 357 3 Wy) rfl hr0 rfl adu (by unfold maxLen;omega) (by omega) ?_
   intro A7 c7 w7 jW gJ
   have U7:=F4.trans gJ
   rw[Nat.zero_add,nil_append]at jW
   have nu:∀k∈ah A7,Wy.heap.size≤k:=fun k hk=>by
    rcases U7.fresh k hk with hh|hh
    ·cases hh
    ·exact hh
   have yg:aa [] [] Wy w7:=U7.g0
   have zn:=Q3.upd yg
   have g1:w7.cell? ⟨J,1,none⟩=some (.int .i64 m.f):=zn.cell 1
   have g4:w7.cell? ⟨J,4,none⟩=some (.int .i64 m.br):=zn.cell 4
   have g5:w7.cell? ⟨J,5,none⟩=some (.int .i64 m.bs):=zn.cell 5
   clear hr0 q6a q6 F4 gJ
   repeat' (fail_if_success with_reducible refine Ag rfl ?_);go_step
   refine bQ rfl _ _ 228 rfl 357 underlying228 Jw rfl (by decide) jW rfl w7.heap.size rfl rfl (news:=jg (m.f,⟨m.br,m.bs⟩)) rfl rfl (by unfold maxLen;omega) (by omega) ?_
   intro A8 c8 w8 tT jF
   have qV:∀k∈ah A8,Wy.heap.size≤k:=fun k hk=>by
    rcases jF.fresh k hk with hh|hh
    ·exact nu k hh
    ·have:=U7.size;omega
   have U8:aa [] [] Wy w8:=yg.aB nu jF
   have Dy:=Dx.upd U8
   have c6:w8.cell? ⟨Y,6,none⟩=some (.slice y.VA y.vt.length y.vc):=Dy.cell 6
   have f6:=Dy.frozen 6
   clear g1 g4 g5 zn U7 jW jF
   obtain⟨y2,hy2⟩:∃y2:aL,{y with VA:=A8,vc:=c8,vt:=y.vt++[(m.f,(⟨m.br,m.bs⟩:Bl))]} =y2:=⟨_,rfl⟩
   obtain⟨W9,zo⟩:=ex1 (w8.setCell ⟨Y,6,none⟩ (.slice A8 (vl+1) c8))
   have gH:(y.vt++[(m.f,(⟨m.br,m.bs⟩:Bl))]).length=vl+1:=by rw[length_append,HVL.out];rfl
   have u9:aa [Y] [Y] w8 W9:=by rw[←zo];exact(aa.refl [Y] w8).setCell (p:=⟨Y,6,none⟩) (.inl (by simp)) _
   have JB:ak W9 Y 230 y2.cells.toArray:=by
    rw[←zo,←hy2]
    have:=Dy.aO 6 (.slice A8 (vl+1) c8)
    rw[←gH]at this ⊢
    exact this
   have hAY:∀k∈ah A8,k∉[Y]:=fun k hk mg=>by have h1:=qV k hk;have h2:=Dx.lt;simp only[mem_singleton]at mg;omega
   have BH:iO ([Y]++([H,G]++X)) W9 y2:=by
    rw[←hy2]
    refine(BG.grow U8).vot u9 (by simp) ⟨by rw[gH],?_⟩ fun k hk mg=>by have h1:=qV k (ji k hk);have h2:=JA k mg;omega
    have:=(tT.upd u9 hAY).rd
    rw[gH,flatMap_append]
    exact this
   have h9:=(hy.grow U8).upd u9
   have rV:∀k∈[Y]++([H,G]++X),k<W9.heap.size:=fun k hk=>by have h1:=JA k hk;have h2:=U8.size;have h3:=u9.size;omega
   have ru:=(hHy.upd U8).upd u9 (by simpa using uE.1.symm)
   have oZ:=(hGy.upd U8).upd u9 (by simpa using uE.2.1.symm)
   have JC:=(Q3.upd U8).upd u9 (by simpa using uE.2.2.symm)
   have U9:aa [] [] w W9:=(Uy.trans U8).aB MZ u9
   have rW:=hdn (show y2.slot=m.s∧y2.ax=y.ax∧y2.v=y.v∧y2.vt.length=vl+1 from by rw[←hy2];exact⟨hsl,rfl,rfl,gH⟩)
   obtain⟨t,ht⟩:∃t:Site,{s with rs:=aG y2.slot y2.pl.2 s.rs} =t:=⟨_,rfl⟩
   have F5:=hdn (show F=if Site.most y2.vt y2.ax s.n then(t.bE m.s y2.v.b).others (Site.tells m.s y2.v.b) s.n else t by
    rw[Q0.out,←ht,rW.out.1,←hy2];rfl)
   have yh:t.n=s.n∧t.held=s.held:=by rw[←ht];exact⟨rfl,rfl⟩
   have Dz:=wH ([Y]++([H,G]++X)) W9 r s h9 rV y2 BH (by rw[rW.out.1];omega) (by rw[←hy2];exact af1.2.2)
   rw[ht,aL.val]at Dz
   rw[ai.arr]at Dz
   clear ht hy2 Q0 BG hy JA acy adu tT nu qV
   repeat' (fail_if_success with_reducible refine ek (t:=63) rfl ?_);(fail_if_success with_reducible refine ek (t:=230) rfl ?_);first|go_values|go_skip|go_guarded|go_step|go_upon|simp only[];go_at_K
   refine bF hii ru abx ?_
   repeat' (fail_if_success with_reducible refine ek (t:=63) rfl ?_);(fail_if_success with_reducible refine ek (t:=230) rfl ?_);first|go_values|go_skip|go_guarded|go_step|go_upon|simp only[];go_at_K
   refine eZ rfl _ 230 rfl hir (fun _=>rfl) rfl y2.cells rF JB ?_
   repeat' go_step
   refine Dz.mono ?_;rintro e zq ⟨v,rfl,r3,rfl,n3,iQ⟩
   clear Dz c6 f6 zo u9
   have kH:=ru.upd iQ
   have kG:=oZ.upd iQ
   have kJ:=JC.upd iQ
   have kY:=JB.upd iQ
   rw[ai.arr]
   refine bK ?_
   refine bL r3.cells hii abx kH ?_
   intro rU uw lD
   have JD:=kG.upd lD gV
   have JE:=kJ.upd lD (by simpa using uh)
   have xL:=kY.upd lD (by simpa using uE.1)
   have n11:=n3.upd lD
   have yj:=(U9.trans iQ).aB hHw lD
   have vB:=(BH.grow iQ).upd lD
   have JF:∀k∈[Y]++([H,G]++X),k<rU.heap.size:=fun k hk=>by have h1:=rV k hk;have h2:=iQ.size;have h3:=lD.size;omega
   have hd1:rU.cell? ⟨H,1,none⟩=some (.int .i64 (s.n:Int)):=by rw[uw.cell 1];show some (Value.int .i64 (r3.n:Int))=_;rw[n11.aJ.n,yh.1]
   have y6:rU.cell? ⟨Y,6,none⟩=some (.slice y2.VA y2.vt.length y2.vc):=xL.cell 6
   have y1:rU.cell? ⟨Y,1,none⟩=some (.int .i64 y2.ax.r):=xL.cell 1
   have y2':rU.cell? ⟨Y,2,none⟩=some (.int .i64 y2.ax.s):=xL.cell 2
   have CQ:=Jc rU y2.VA y2.vc y2.vt vB.rd.vt (by rw[rW.out.2.2.2];omega) y2.ax s.n (by have:=hok.n3;have:=hok.n7;omega)
   obtain⟨Qm,hQm⟩:∃q,Site.most y2.vt y2.ax s.n=q:=⟨_,rfl⟩
   have M0:=hdn (show F=if Qm=true then(t.bE m.s y2.v.b).others (Site.tells m.s y2.v.b) s.n else t by rw[F5.out,←hQm])
   rw[hQm,Bl.val]at CQ
   clear hQm F5 lD iQ n3 kH kG kJ kY ru oZ JC JB h9 BH rV U9
   repeat' go_step
   refine CQ.mono ?_;rintro e Wz ⟨rfl,uq⟩
   clear CQ hd1 y6 y1 y2'
   have AO:=uw.upd uq
   have iF:=JD.upd uq
   have FX:=JE.upd uq
   have Na:=xL.upd uq
   have nz:=n11.grow uq
   have JG:=vB.grow uq
   have zl:=yj.trans uq
   have uC:∀k∈[Y]++([H,G]++X),k<Wz.heap.size:=fun k hk=>by have h1:=JF k hk;have h2:=uq.size;omega
   clear uw JD JE xL n11 vB yj uq JF
   cases Qm with
   |false=>
    have bC:=hdn (show F=t from M0.out)
    repeat' (fail_if_success with_reducible refine ek (t:=63) rfl ?_);first|go_step|simp only[];go_at_K
    refine bF hii AO abx ?_
    refine bK ?_
    refine bL r3.cells hii abx iF ?_
    intro W8 aX u8
    refine wk ?_
    exact fG results217 hii aX abx ⟨_,rfl,r3,rfl,by rw[bC.out];exact(nz.upd u8).less,zl.aB aR u8⟩
   |true=>
    obtain⟨u1,hu1⟩:=ex1 (t.bE m.s y2.v.b)
    have hun:u1.n=s.n∧u1.held=s.held:=by rw[←hu1,←yh.1,←yh.2];unfold Site.bE;split<;>exact⟨rfl,rfl⟩
    have HUL:=hdn (show u1.held.length<900000000 by rw[hun.2];omega)
    obtain⟨mL,vw⟩:∃mL:Mv,(⟨7,0,0,m.s,0,0,0,0,true,y2.v.A,y2.v.n,y2.v.c,y2.v.b⟩:Mv)=mL:=⟨_,rfl⟩
    have vz:=hdn (show mL.ms=Site.tells m.s y2.v.b by rw[←vw];rfl)
    have MX:mL.ms.Fit:=by rw[vz.out];exact Site.kD (by omega) (by rw[rW.out.2.2.1];exact af1.2.2.1)
    have pU:mL.A=y2.v.A∧mL.n=y2.v.n∧mL.b=y2.v.b:=by rw[←vw];exact⟨rfl,rfl,rfl⟩
    have uP:=hdn (show F=u1.others mL.ms u1.n by rw[M0.out,if_pos rfl,vz.out,hun.1,hu1])
    have CL:∀w',Calls prog 210 #[.int .i64 m.s,.slice y2.v.A y2.v.n y2.v.c] w' fun e w''=>e=.returned mL.val∧aa [] [] w' w'':=fun w'=>by
     have:=uk w' m.s y2.v
     rw[vw]at this
     exact this
    have yl:=JG.v
    have CDc:∀w',aa [G] [G] Wz w'→Calls prog 213 #[.agg r3.cells.toArray,.int .i64 m.s,.slice y2.v.A y2.v.n y2.v.c] w' fun e w''=>∃v,e=.returned v∧Came ([Y]++([H,G]++X)) w' w'' v u1:=fun w' u=>by
     have:=zg ([Y]++([H,G]++X)) w' r3 t (nz.upd u) (fun k hk=>by have h1:=uC k hk;have h2:=u.size;omega) m.s y2.v (yl.upd u)
     rw[ai.arr,hu1]at this
     exact this
    have LT:∀w',aa [G] [G] Wz w'→ak w' H 63 r3.cells.toArray:=fun w' u=>AO.upd u nY
    have k3:∀w',aa [G] [G] Wz w'→w'.cell? ⟨J,3,none⟩=some (.int .i64 m.s):=fun w' u=>(FX.upd u (by simpa using uU)).cell 3
    have k5:∀w',aa [G] [G] Wz w'→w'.cell? ⟨Y,5,none⟩=some (.slice y2.v.A y2.v.n y2.v.c):=fun w' u=>(Na.upd u (by simpa using uE.2.1)).cell 5
    clear vw hu1
    repeat' first|go_step|simp only[];go_at_K
    refine wp_region_held_drew (S:=fun w'=>aa [G] [G] Wz w') (by kernel_rfl) (aa.refl [G] Wz).drew fun _=>?_
    refine mi 0 hii (r3).cells abx LT ?_
    refine aF 1 ?_
    refine aF 2 ?_
    refine aF 3 ?_
    refine aF 4 ?_
    refine aF 6 ?_
    refine aF 7 ?_
    refine aF 8 ?_
    refine aF 9 ?_
    refine aW 5 (fun K hK=>?_)
    go_simp
    refine(CDc _ (‹aa [G] [G] Wz _›)).mono ?_;rintro e wa ⟨v,rfl,ra,rfl,na,ua⟩
    simp only[]
    rw[ai.arr]
    have UA:aa [G] [G] Wz wa:=(‹aa [G] [G] Wz _›).trans (ua.up _)
    have dh:aa [] [] Wz wa:=(aa.refl [] Wz).drew.trans ua
    refine aP hK (UA) fun _=>?_
    clear hK K
    refine aW 10 (fun K hK=>?_)
    go_simp
    refine(CL _).mono ?_;rintro e wb ⟨rfl,ub⟩
    simp only[]
    have UB:aa [G] [G] Wz wb:=UA.trans (ub.up _)
    have AP:aa [] [] Wz wb:=dh.trans ub
    refine aP hK (UB) fun _=>?_
    clear hK K
    refine aW 11 (fun K hK=>?_)
    have CO:=jf ([Y]++([H,G]++X)) wb ra u1 (na.grow ub) (fun k hk=>by have h1:=uC k hk;have h2:=UB.size;omega) HUL.out mL (by rw[pU.1,pU.2.1,pU.2.2];exact yl.grow AP) MX
    rw[ai.arr]at CO
    go_simp
    refine CO.mono ?_;rintro e wd ⟨v,rfl,rd,rfl,nd,ud⟩
    simp only[]
    rw[ai.arr]
    have UD:aa [G] [G] Wz wd:=UB.trans (ud.up _)
    have vg:ak wd G 63 cz:=iF.upd (AP.trans ud)
    refine aP hK (UD) fun _=>?_
    clear hK K
    refine aW 12 (fun K hK=>?_)
    refine mf rd.cells hii abx vg ?_
    intro Wn hGn un
    have UN:aa [G] [G] Wz Wn:=UD.trans un
    refine aP hK (UN) fun _=>?_
    clear hK K
    refine dnH ?_ _
    refine wk ?_
    exact fG results217 hii hGn abx ⟨_,rfl,rd,rfl,by rw[uP.out];exact(nd.upd un).less,zl.aB aR UN⟩
theorem JH:(prog.info? 355).map (fun i=>(i.zero,i.size,i.bytes))=some (some (.agg #[.int .i64 0,.bool false,.int .i64 0,.int .i64 0,.slice none 0 0]),5,56):=by kernel_rfl
theorem iO.prm{X a b:List Nat}{w w':World}{y:aL}(h:iO X w y)(hu:aa a b w w')(ha:∀k∈a,k∈X){q:bq}(hq:dU X w' q.s.A q.s.n q.s.b){A:Option Addr}{c:Nat}(ho:bR bq.cells 5 w' A (y.pr++[q]).length (y.pr++[q]))(hA:∀k∈dV A (y.pr++[q]).length,k∉X):iO X w' {y with PA:=A,pc:=c,pr:=y.pr++[q]}:=by
 have h1:=h.upd hu ha
 refine⟨⟨ho,fun p hp=>?_,h1.rd.vt,h1.rd.v⟩,fun k hk=>?_⟩
 ·rcases mem_append.1 hp with hp|hp
  ·exact h1.rd.pb p hp
  ·rw[mem_singleton]at hp;subst hp;exact hq.rd
 unfold aL.fp at hk
 rcases mem_append.1 hk with hk|hk
 ·exact hA k hk
 rcases mem_append.1 hk with hk|hk
 ·obtain⟨p,hp,hk⟩:=mem_flatMap.1 hk
  rcases mem_append.1 hp with hp|hp
  ·exact h.off k (mem_append_right _ (mem_append_left _ (mem_flatMap.2 ⟨p,hp,hk⟩)))
  ·rw[mem_singleton]at hp;rw[hp]at hk;exact hq.off k hk
 ·exact h.off k (mem_append_right _ (mem_append_right _ hk))
theorem iO.apS{X:List Nat}{w:World}{y:aL}(h:iO X w y){V:aM}(hV:dU X w V.A V.n V.b)(b:Bool):iO X w {y with so:=b,v:=V}:=by
 refine⟨⟨h.rd.pr,h.rd.pb,h.rd.vt,hV.rd⟩,fun k hk=>?_⟩
 unfold aL.fp at hk
 rcases mem_append.1 hk with hk|hk
 ·exact h.off k (mem_append_left _ hk)
 rcases mem_append.1 hk with hk|hk
 ·exact h.off k (mem_append_right _ (mem_append_left _ hk))
 rcases mem_append.1 hk with hk|hk
 ·exact h.off k (mem_append_right _ (mem_append_right _ (mem_append_left _ hk)))
 ·exact hV.off k hk
theorem F6(n:Int):∀(l:List bq)(b:Option bq){p:bq},l.foldl (ou n) b=some p→p∈l∨b=some p
 |[],b,p,h=>.inr h
 |q::l,b,p,h=>by
  rcases F6 n l _ h with h|h
  ·exact .inl (mem_cons_of_mem _ h)
  ·have e:ou n b q=some q∨ou n b q=b:=by unfold ou;(repeat' split)<;>simp
   rcases e with e|e
   ·rw[e]at h;injection h with h;subst h;exact .inl (mem_cons_self ..)
   ·rw[e]at h;exact .inr h
theorem iO.ae1{X:List Nat}{w:World}{y:aL}(h:iO X w y){n:Int}{V:aM}(hV:xE y.pr n=some V)(hl:∀q∈y.pl.2.pr,q.b.length≤2048):dU X w V.A V.n V.b∧V.b.length≤2048:=by
 unfold xE at hV
 split at hV
 ·injection hV with hV
  cases hb:iE n y.pr with
  |none=>rw[hb]at hV;subst hV;exact⟨dU.nil _ _ _,by simp⟩
  |some p=>
   rw[hb]at hV
   have hV:p.s=V:=hV
   subst hV
   have hp:p∈y.pr:=(F6 n _ _ hb).resolve_right (by simp)
   exact⟨⟨h.rd.pb p hp,fun k hk=>h.off k (mem_append_right _ (mem_append_left _ (mem_flatMap.2 ⟨p,hp,hk⟩)))⟩,hl p.pl (mem_map_of_mem hp)⟩
 ·cases hV
theorem Site.Lv(s:Site)(m:Ms):s.promised m=match aC m.slot s.rs with
 |none=>s
 |some r=>
  if r.ax=m.ax∧r.so=false then
   match gZ (r.pr++[(⟨m.bO,m.some_,m.had,m.val⟩:Pm)]) s.n with
   |none=>{s with rs:=aG m.slot {r with pr:=r.pr++[(⟨m.bO,m.some_,m.had,m.val⟩:Pm)]} s.rs}
   |some v=>match ({s with rs:=aG m.slot {r with pr:=r.pr++[(⟨m.bO,m.some_,m.had,m.val⟩:Pm)]} s.rs} :Site).accept m.slot r.ax v with
    |none=>{({s with rs:=aG m.slot {r with pr:=r.pr++[(⟨m.bO,m.some_,m.had,m.val⟩:Pm)]} s.rs} :Site)with rs:=dD m.slot (aG m.slot {r with pr:=r.pr++[(⟨m.bO,m.some_,m.had,m.val⟩:Pm)]} s.rs)}
    |some u=>(({u with rs:=aG m.slot {r with pr:=r.pr++[(⟨m.bO,m.some_,m.had,m.val⟩:Pm)],so:=true,b:=v} u.rs} :Site).others (Site.asks {r with pr:=r.pr++[(⟨m.bO,m.some_,m.had,m.val⟩:Pm)],so:=true,b:=v} m.slot) s.n).send s.me (Site.dW m.slot r.ax)
  else s:=rfl
theorem Lx(X:List Nat)(w:World)(r:ai)(s:Site)(h:Ref X w r s)(hX:∀k∈X,k<w.heap.size)(m:Mv)(hm:m.ms.May)(hl:s.held.length≤700000000)(pE:∀p∈s.rs,p.2.pr.length≤900000000)(hb:dU X w m.A m.n m.b) :
  Calls prog 216 #[r.val,m.val] w fun e w'=>∃v,e=.returned v∧Came X w w' v (s.promised m.ms):=by
 obtain⟨ii,hii,abx,W,H,eW,hH,hB,U0,W1,J,nK,hJ,fT,U1,W2,G,fu,hG,hBG,U2,hB2,hJ2,hs1,uh,uU,dY,aK,hs0,hs2,hY,hHw,aR,nY,gV,h2,hX2,qG⟩:=Bt h hX 32 #[.int .i64 m.k,.int .i64 m.f,.int .i64 m.t,.int .i64 m.s,.int .i64 m.br,.int .i64 m.bs,.int .i64 m.hr,.int .i64 m.hs,.bool m.so,.slice m.A m.n m.c] 63 cz
 have hb2:=(hb.more hY).grow aK
 have hok:=h.aJ.ok
 obtain⟨ir,hir,rF⟩:=Eo
 have zm:0≤m.f∧m.f≤6:=hm.bO
 have hms:0≤m.s∧m.s≤4095:=hm.slot
 have hmb:(⟨m.br,m.bs⟩:Bl).may 7=true:=Bl.jb.2 ⟨hm.dz,hm.ed⟩
 have CF:=uY W2 r h2.mem m.s
 obtain⟨F,hF⟩:=ex1 (s.promised m.ms)
 have HF:=hdn (hF.symm.trans (Site.Lv s m.ms))
 rw[hF]
 clear hF
 obtain⟨⟨j0,j1,j2,j3,j4,j5,j6,j7,j8,j9⟩,-⟩:=hJ2.c10
 rw[ai.arr]at CF
 rw[ai.arr,Mv.aH]
 go_enter func216,ntmps216
 repeat' (fail_if_success with_reducible refine ek (t:=63) rfl ?_);go_step
 refine bF hii hB2 abx ?_
 repeat' go_step
 refine CF.mono ?_;rintro e w6 ⟨k,rfl,adG,u6⟩
 clear CF j0 j1 j2 j3 j4 j5 j6 j7 j8 j9
 have yc:=h.aJ.find adG
 clear adG
 have dK:=hB2.upd u6
 have gK:=hBG.upd u6
 have uo:=hJ2.upd u6
 have h6:=h2.grow u6
 have hb6:=hb2.grow u6
 have FY:∀k∈[H,G]++X,k<w6.heap.size:=fun k hk=>by have h1:=hX2 k hk;have h2:=u6.size;omega
 have U6:=aK.trans u6
 have q9:w6.cell? ⟨H,9,none⟩=some (.slice r.RA r.R.length r.rc):=dK.cell 9
 obtain⟨D,hD⟩:=ex1 ((match aC m.s s.rs with|some y=>!((y.ax.r==m.br)&&(y.ax.s==m.bs))||y.so|none=>true))
 have HD:=hdn hD
 clear hD
 repeat' first|go_step|simp only[];go_at_K
 go_cut [5,36]from 16 (fun s5 Dw wc=>s5=.int .i64 k∧Dw=.bool D∧aa [] [] w6 wc)
 case first=>
  have e4:∀p:GU w6,p.w.cell? ⟨J,4,none⟩=some (.int .i64 m.br):=fun p=>p.u.cell (uo.cell 4) (by simp)
  have e5:∀p:GU w6,p.w.cell? ⟨J,5,none⟩=some (.int .i64 m.bs):=fun p=>p.u.cell (uo.cell 5) (by simp)
  rcases yc with⟨rfl,hlk⟩|⟨i,hi,rfl,hsl,hlk⟩
  ·have dO:D=true:=by have:=HD.out;rw[hlk]at this;exact this.symm
   subst dO
   clear hlk
   refine dx (by kernel_rfl) (by kernel_rfl) ?_
   repeat (go_big_quiet_step (fail))
   refine wpQuiet_nil ?_
   rintro _ ⟨p,rfl⟩
   refine wk ?_
   go_meet
   exact⟨rfl,rfl,p.u⟩
  ·obtain⟨ad,gL,h0,hj⟩:=bR.at_ (f:=aL.cells) (s:=8) (fun _=>rfl) h6.mem.R hi
   obtain⟨y,hlk,hj⟩:∃y:aL,aC m.s s.rs=some y.pl.2∧∀k u,0<k→(aL.cells y)[k]? =some u→w6.cell? ⟨(ad.add (i*8)).block,(ad.add (i*8)).off+k,none⟩=some u:=⟨_,hlk,hj⟩
   have dO:(!((y.ax.r==m.br)&&(y.ax.s==m.bs))||y.so)=D:=by have:=HD.out;rw[hlk]at this;exact this
   have hil:(i:Int)<(r.R.length:Int):=by omega
   have t0:decide ((i:Int)<0)=false:=dFo
   have t1:decide (0≤(i:Int))=true:=dTo
   have c9:∀p:GU w6,p.w.cell? ⟨H,9,none⟩=some (.slice (some ad) r.R.length r.rc):=fun p=>p.u.cell (by rw[q9,gL]) (by simp)
   have c1:∀p:GU w6,p.w.cell? ⟨(ad.add (i*8)).block,(ad.add (i*8)).off+1,none⟩=some (.int .i64 y.ax.r):=fun p=>p.u.cell (hj 1 _ (by omega) rfl) (by simp)
   have c2:∀p:GU w6,p.w.cell? ⟨(ad.add (i*8)).block,(ad.add (i*8)).off+2,none⟩=some (.int .i64 y.ax.s):=fun p=>p.u.cell (hj 2 _ (by omega) rfl) (by simp)
   have c4:∀p:GU w6,p.w.cell? ⟨(ad.add (i*8)).block,(ad.add (i*8)).off+4,none⟩=some (.bool y.so):=fun p=>p.u.cell (hj 4 _ (by omega) rfl) (by simp)
   obtain⟨ml,nC⟩:=ex1 r.R.length
   rw[nC]at c9 hil
   obtain⟨so,hso⟩:=ex1 y.so
   rw[hso]at c4 dO
   obtain⟨E,hE⟩:=ex1 (((y.ax.r==m.br)&&(y.ax.s==m.bs)))
   rw[hE]at dO
   clear nC hlk hj h0 gL q9 hso
   have E1:=Co y.ax.r y.ax.s m.br m.bs
   rw[hE]at E1
   cases E with
   |false=>
    simp only[Bool.not_false]at E1
    refine dx (by kernel_rfl) (by kernel_rfl) ?_
    repeat (go_big_quiet_step (fail))
    refine wpQuiet_nil ?_
    rintro _ ⟨p,rfl⟩
    clear c9 c1 c2 c4 e4 e5
    refine wk ?_
    go_meet
    exact⟨rfl,by rw[←dO];rfl,p.u⟩
   |true=>
    simp only[Bool.not_true]at E1
    refine dx (by kernel_rfl) (by kernel_rfl) ?_
    repeat (go_big_quiet_step (fail))
    refine wpQuiet_nil ?_
    rintro _ ⟨p,rfl⟩
    clear c9 c1 c2 c4 e4 e5
    refine wk ?_
    go_meet
    exact⟨rfl,by rw[←dO];rfl,p.u⟩
 case rest=>
  obtain⟨rfl,rfl,UC⟩:=hcut
  have fM:=dK.upd UC
  have eO:=gK.upd UC
  have gN:=uo.upd UC
  have hc:=h6.grow UC
  have hbc:=hb6.grow UC
  have gM:∀k∈[H,G]++X,k<wc.heap.size:=fun k hk=>by have h1:=FY k hk;have h2:=UC.size;omega
  have Uc:=U6.trans UC
  clear q9 dK gK uo h6 FY U6 h2 hX2 hB2 hJ2 hBG aK
  cases D with
  |true=>
   have bC:=hdn (show F=s by
    have h1:=HF.out
    have h2:=HD.out
    rw[h1]
    show(match aC m.s s.rs with|none=>s|some r=>_)=s
    cases hq:aC m.s s.rs with
    |none=>rfl
    |some y=>
     rw[hq]at h2
     refine if_neg fun hcn=>?_
     have e1:y.ax=⟨m.br,m.bs⟩:=hcn.1
     have e2:=hcn.2
     replace h2:(!((y.ax.r==m.br)&&(y.ax.s==m.bs))||y.so)=true:=h2
     rw[e1,e2]at h2
     simp at h2)
   repeat' (fail_if_success with_reducible refine ek (t:=63) rfl ?_);go_step
   refine bF hii fM abx ?_
   refine bK ?_
   refine bL r.cells hii abx eO ?_
   intro W8 aX u8
   refine wk ?_
   exact fG results216 hii aX abx ⟨_,rfl,r,rfl,by rw[bC.out];exact(hc.upd u8).less,Uc.aB aR u8⟩
  |false=>
   rcases yc with⟨rfl,hlk⟩|⟨i,hi,rfl,hsl,hlk⟩
   ·have:=HD.out
    rw[hlk]at this
    cases this
   obtain⟨ad,gL,h0,hj⟩:=bR.at_ (f:=aL.cells) (s:=8) (fun _=>rfl) hc.mem.R hi
   have Jy:=hc.roB (getElem_mem hi)
   obtain⟨y,hlk,vo,hsl,h0,hj⟩:∃y:aL,aC m.s s.rs=some y.pl.2∧iO ([H,G]++X) wc y∧y.slot=m.s∧(∀u,(aL.cells y)[0]? =some u→wc.cell? (ad.add (i*8))=some u)∧
     ∀k u,0<k→(aL.cells y)[k]? =some u→wc.cell? ⟨(ad.add (i*8)).block,(ad.add (i*8)).off+k,none⟩=some u:=⟨_,hlk,Jy,hsl,h0,hj⟩
   have dO:(!((y.ax.r==m.br)&&(y.ax.s==m.bs))||y.so)=false:=by have:=HD.out;rw[hlk]at this;exact this
   have hyb:y.ax=⟨m.br,m.bs⟩∧y.so=false:=by
    simp only[Bool.or_eq_false_iff,Bool.not_eq_false',Bool.and_eq_true,beq_iff_eq]at dO
    exact⟨by rw[←dO.1.1,←dO.1.2],dO.2⟩
   have acm:=aY hlk
   have af1:=hok.rs _ acm
   have hvl:y.pr.length≤900000000:=by have:=pE _ acm;rw[show y.pl.2.pr.length=y.pr.length from length_map _]at this;exact this
   have Q0:=hdn (show F=match (generalizing:=false) gZ (y.pl.2.pr++[(⟨m.f,m.so,⟨m.hr,m.hs⟩,⟨m.A,m.n,m.c,m.b⟩⟩:bq).pl]) s.n with
     |none=>{s with rs:=aG m.s ({y.pl.2 with pr:=y.pl.2.pr++[(⟨m.f,m.so,⟨m.hr,m.hs⟩,⟨m.A,m.n,m.c,m.b⟩⟩:bq).pl]} :Rn) s.rs}
     |some v=>match (generalizing:=false) ({s with rs:=aG m.s ({y.pl.2 with pr:=y.pl.2.pr++[(⟨m.f,m.so,⟨m.hr,m.hs⟩,⟨m.A,m.n,m.c,m.b⟩⟩:bq).pl]} :Rn) s.rs} :Site).accept m.s y.ax v with
      |none=>{({s with rs:=aG m.s ({y.pl.2 with pr:=y.pl.2.pr++[(⟨m.f,m.so,⟨m.hr,m.hs⟩,⟨m.A,m.n,m.c,m.b⟩⟩:bq).pl]} :Rn) s.rs} :Site)with rs:=dD m.s (aG m.s ({y.pl.2 with pr:=y.pl.2.pr++[(⟨m.f,m.so,⟨m.hr,m.hs⟩,⟨m.A,m.n,m.c,m.b⟩⟩:bq).pl]} :Rn) s.rs)}
      |some u=>(({u with rs:=aG m.s ({y.pl.2 with pr:=y.pl.2.pr++[(⟨m.f,m.so,⟨m.hr,m.hs⟩,⟨m.A,m.n,m.c,m.b⟩⟩:bq).pl],so:=true,b:=v} :Rn) u.rs} :Site).others (Site.asks ({y.pl.2 with pr:=y.pl.2.pr++[(⟨m.f,m.so,⟨m.hr,m.hs⟩,⟨m.A,m.n,m.c,m.b⟩⟩:bq).pl],so:=true,b:=v} :Rn) m.s) s.n).send s.me (Site.dW m.s y.ax) by
    have h1:=HF.out
    rw[show aC m.ms.slot s.rs=some y.pl.2 from hlk]at h1
    rw[h1]
    exact if_pos ⟨hyb.1,hyb.2⟩)
   have hil:(i:Int)<(r.R.length:Int):=by omega
   have t1:decide (0≤(i:Int))=true:=dTo
   have c9:wc.cell? ⟨H,9,none⟩=some (.slice (some ad) r.R.length r.rc):=by rw[fM.cell 9,←gL];rfl
   obtain⟨ml,nC⟩:=ex1 r.R.length
   rw[nC]at c9 hil
   obtain⟨W7,Y,wL,hY7,FZ,U7⟩:=az wc 230 #[.int .i64 0,.int .i64 0,.int .i64 0,.slice none 0 0,.bool false,.slice none 0 0,.slice none 0 0,.int .i64 0]
   have u7:=U7.g0
   clear hyb nC hlk gL Jy dO HD HF
   repeat' (fail_if_success with_reducible refine ek (t:=230) rfl ?_);first|go_values|go_skip|go_guarded|go_step|go_upon|simp only[];go_at_K
   refine oz rfl _ 230 rfl hir (fun _=>rfl) rfl y.cells rF h0 hj ?_
   clear c9 h0 hj
   repeat' (fail_if_success with_reducible refine eT (t:=230) rfl ?_);first|go_values|go_skip|go_guarded|go_step|go_upon|simp only[];go_at_K
   refine di rfl _ _ 230 rfl hir rfl y.cells rfl rF FZ rfl rfl ?_
   intro Wy Dx uy
   have hYl:∀k∈[Y],wc.heap.size≤k:=ge1
   have Jz:∀{g:Nat}{t:TypeId}{cs:Array Value},ak wc g t cs→g∉[Y]:=fun hb=>by have h1:=hb.lt;simp only[mem_singleton];omega
   have MZ:∀k∈[Y],w.heap.size≤k:=fun k hk=>by have h1:=hYl k hk;have h2:=Uc.size;omega
   have uE:Y≠H∧Y≠G∧Y≠J:=by have h1:=fM.lt;have h2:=eO.lt;have h3:=gN.lt;exact⟨by omega,by omega,by omega⟩
   have Uy:=(Uc.trans u7).aB MZ uy
   have hHy:=(fM.upd u7).upd uy (Jz fM)
   have hGy:=(eO.upd u7).upd uy (Jz eO)
   have Q3:=(gN.upd u7).upd uy (Jz gN)
   have hy:=((hc.more hYl).grow u7).upd uy
   have BG:=((vo.more hYl).grow u7).upd uy
   have hby:=((hbc.more hYl).grow u7).upd uy
   have JA:∀k∈[Y]++([H,G]++X),k<Wy.heap.size:=fun k hk=>by
    have h1:=u7.size;have h2:=uy.size;have h3:=Dx.lt
    rcases mem_append.1 hk with hk|hk
    ·simp only[mem_singleton]at hk;omega
    ·have:=gM k hk;omega
   clear fM eO gN hc vo u7 uy U7 wL FZ Uc gM
   have q6:Wy.cell? ⟨Y,3,none⟩=some (.slice y.PA y.pr.length y.pc):=Dx.cell 3
   have acy:=BG.rd.pr.rd
   obtain⟨vl,tK⟩:=ex1 y.pr.length
   have HVL:=hdn tK
   rw[tK]at q6 acy hvl
   have q6a:=((aa.refl [] Wy).alloc (.cells #[] 355)).cell q6 (by simp)
   have hr0:=acy.alloc (.cells #[] 355)
   have F4:aa [] (ah (some ⟨Wy.heap.size,0,none⟩)) Wy (Wy.alloc (.cells #[] 355)):=((aa.refl [] Wy).alloc _).gives (by intro k hk;simp[ah]at hk;subst hk;exact .inr (Nat.le_refl _))
   have adu:∀u∈y.pr.flatMap bq.cells,u.oneCell'=true:=fun u hu=>by
    obtain⟨z,-,hu⟩:=mem_flatMap.1 hu
    simp only[bq.cells,mem_cons,not_mem_nil,or_false]at hu
    rcases hu with rfl|rfl|rfl|rfl|rfl<;>rfl
   clear tK
   repeat' (fail_if_success with_reducible refine Ag rfl ?_);go_step
   refine gT _ rfl _ _ 227 rfl 355 underlying227 JH rfl (by decide) (Own.made 355 5 Wy) rfl hr0 rfl adu (by unfold maxLen;omega) (by omega) ?_
   intro A7 c7 w7 jW gJ
   have U7:=F4.trans gJ
   rw[Nat.zero_add,nil_append]at jW
   have nu:∀k∈ah A7,Wy.heap.size≤k:=fun k hk=>by
    rcases U7.fresh k hk with hh|hh
    ·cases hh
    ·exact hh
   have yg:aa [] [] Wy w7:=U7.g0
   have zn:=Q3.upd yg
   have g1:w7.cell? ⟨J,1,none⟩=some (.int .i64 m.f):=zn.cell 1
   have g8:w7.cell? ⟨J,8,none⟩=some (.bool m.so):=zn.cell 8
   have g6:w7.cell? ⟨J,6,none⟩=some (.int .i64 m.hr):=zn.cell 6
   have g7:w7.cell? ⟨J,7,none⟩=some (.int .i64 m.hs):=zn.cell 7
   have g9:w7.cell? ⟨J,9,none⟩=some (.slice m.A m.n m.c):=zn.cell 9
   clear hr0 q6a q6 F4 gJ
   repeat' (fail_if_success with_reducible refine Ag rfl ?_);go_step
   refine bQ rfl _ _ 227 rfl 355 underlying227 JH rfl (by decide) jW rfl w7.heap.size rfl rfl (news:=bq.cells (⟨m.f,m.so,⟨m.hr,m.hs⟩,⟨m.A,m.n,m.c,m.b⟩⟩:bq)) rfl rfl (by unfold maxLen;omega) (by omega) ?_
   intro A8 c8 w8 tT jF
   have qV:∀k∈ah A8,Wy.heap.size≤k:=fun k hk=>by
    rcases jF.fresh k hk with hh|hh
    ·exact nu k hh
    ·have:=U7.size;omega
   have U8:aa [] [] Wy w8:=yg.aB nu jF
   have Dy:=Dx.upd U8
   have c3:w8.cell? ⟨Y,3,none⟩=some (.slice y.PA y.pr.length y.pc):=Dy.cell 3
   have f3:=Dy.frozen 3
   clear g1 g8 g6 g7 g9 zn U7 jW jF
   obtain⟨y2,hy2⟩:∃y2:aL,{y with PA:=A8,pc:=c8,pr:=y.pr++[(⟨m.f,m.so,⟨m.hr,m.hs⟩,⟨m.A,m.n,m.c,m.b⟩⟩:bq)]} =y2:=⟨_,rfl⟩
   obtain⟨W9,zo⟩:=ex1 (w8.setCell ⟨Y,3,none⟩ (.slice A8 (vl+1) c8))
   have gH:(y.pr++[(⟨m.f,m.so,⟨m.hr,m.hs⟩,⟨m.A,m.n,m.c,m.b⟩⟩:bq)]).length=vl+1:=by rw[length_append,HVL.out];rfl
   have u9:aa [Y] [Y] w8 W9:=by rw[←zo];exact(aa.refl [Y] w8).setCell (p:=⟨Y,3,none⟩) (.inl (by simp)) _
   have JB:ak W9 Y 230 y2.cells.toArray:=by
    rw[←zo,←hy2]
    have:=Dy.aO 3 (.slice A8 (vl+1) c8)
    rw[←gH]at this ⊢
    exact this
   have hAY:∀k∈ah A8,k∉[Y]:=fun k hk mg=>by have h1:=qV k hk;have h2:=Dx.lt;simp only[mem_singleton]at mg;omega
   have BH:iO ([Y]++([H,G]++X)) W9 y2:=by
    rw[←hy2]
    refine(BG.grow U8).prm u9 (by simp) ((hby.grow U8).upd u9) ⟨by rw[gH],?_⟩ fun k hk mg=>by have h1:=qV k (ji k hk);have h2:=JA k mg;omega
    have:=(tT.upd u9 hAY).rd
    rw[gH,flatMap_append]
    exact this
   have h9:=(hy.grow U8).upd u9
   have rV:∀k∈[Y]++([H,G]++X),k<W9.heap.size:=fun k hk=>by have h1:=JA k hk;have h2:=U8.size;have h3:=u9.size;omega
   have ru:=(hHy.upd U8).upd u9 (by simpa using uE.1.symm)
   have oZ:=(hGy.upd U8).upd u9 (by simpa using uE.2.1.symm)
   have JC:=(Q3.upd U8).upd u9 (by simpa using uE.2.2.symm)
   have U9:aa [] [] w W9:=(Uy.trans U8).aB MZ u9
   have rW:=hdn (show y2.slot=m.s∧y2.ax=y.ax∧y2.pl.2= {y.pl.2 with pr:=y.pl.2.pr++[(⟨m.f,m.so,⟨m.hr,m.hs⟩,⟨m.A,m.n,m.c,m.b⟩⟩:bq).pl]}∧y2.pr.length=vl+1 from by rw[←hy2];exact⟨hsl,rfl,by unfold aL.pl;simp only[map_append,map_singleton],gH⟩)
   obtain⟨t,ht⟩:∃t:Site,{s with rs:=aG y2.slot y2.pl.2 s.rs} =t:=⟨_,rfl⟩
   have HYA:=hdn (show aG m.s ({y.pl.2 with pr:=y.pl.2.pr++[(⟨m.f,m.so,⟨m.hr,m.hs⟩,⟨m.A,m.n,m.c,m.b⟩⟩:bq).pl]} :Rn) s.rs=aG y2.slot y2.pl.2 s.rs by rw[rW.out.1,rW.out.2.2.1])
   have F5:=hdn (show F=match (generalizing:=false) gZ y2.pl.2.pr s.n with
     |none=>t
     |some v=>match (generalizing:=false) t.accept m.s y2.ax v with
      |none=>{t with rs:=dD m.s t.rs}
      |some u=>(({u with rs:=aG m.s ({y2.pl.2 with so:=true,b:=v} :Rn) u.rs} :Site).others (Site.asks ({y2.pl.2 with so:=true,b:=v} :Rn) m.s) s.n).send s.me (Site.dW m.s y2.ax) by
    rw[Q0.out,←ht,rW.out.2.1,HYA.out,rW.out.2.2.1])
   have yh:t.n=s.n∧t.held=s.held∧t.me=s.me:=by rw[←ht];exact⟨rfl,rfl,rfl⟩
   have Dz:=wH ([Y]++([H,G]++X)) W9 r s h9 rV y2 BH (by rw[rW.out.1];omega) (by rw[rW.out.2.2.1];exact⟨af1.2.2.1,af1.2.2.2.1,fun q hq=>by
    rcases mem_append.1 hq with hq|hq
    ·exact af1.2.2.2.2 q hq
    ·rw[mem_singleton]at hq;subst hq;exact hm.val⟩)
   rw[ht,aL.val]at Dz
   rw[ai.arr]at Dz
   clear ht hy2 Q0 BG hy JA acy adu tT nu qV
   repeat' (fail_if_success with_reducible refine ek (t:=63) rfl ?_);(fail_if_success with_reducible refine ek (t:=230) rfl ?_);first|go_values|go_skip|go_guarded|go_step|go_upon|simp only[];go_at_K
   refine bF hii ru abx ?_
   repeat' (fail_if_success with_reducible refine ek (t:=63) rfl ?_);(fail_if_success with_reducible refine ek (t:=230) rfl ?_);first|go_values|go_skip|go_guarded|go_step|go_upon|simp only[];go_at_K
   refine eZ rfl _ 230 rfl hir (fun _=>rfl) rfl y2.cells rF JB ?_
   repeat' go_step
   refine Dz.mono ?_;rintro e zq ⟨v,rfl,r3,rfl,n3,iQ⟩
   clear Dz c3 f3 zo u9
   have kH:=ru.upd iQ
   have kG:=oZ.upd iQ
   have kJ:=JC.upd iQ
   have kY:=JB.upd iQ
   rw[ai.arr]
   refine bK ?_
   refine bL r3.cells hii abx kH ?_
   intro rU uw lD
   have JD:=kG.upd lD gV
   have JE:=kJ.upd lD (by simpa using uh)
   have xL:=kY.upd lD (by simpa using uE.1)
   have n11:=n3.upd lD
   have yj:=(U9.trans iQ).aB hHw lD
   have vB:=(BH.grow iQ).upd lD
   have JF:∀k∈[Y]++([H,G]++X),k<rU.heap.size:=fun k hk=>by have h1:=rV k hk;have h2:=iQ.size;have h3:=lD.size;omega
   have hd1:rU.cell? ⟨H,1,none⟩=some (.int .i64 (s.n:Int)):=by rw[uw.cell 1];show some (Value.int .i64 (r3.n:Int))=_;rw[n11.aJ.n,yh.1]
   have y3c:rU.cell? ⟨Y,3,none⟩=some (.slice y2.PA y2.pr.length y2.pc):=xL.cell 3
   have CQ:=Li rU y2.PA y2.pc y2.pr vB.rd.pr (by rw[rW.out.2.2.2];omega) s.n (by have:=hok.n3;have:=hok.n7;omega)
   have hch:=Ye y2.pr s.n
   have hcb:=fun(V:aM)(hV:xE y2.pr s.n=some V)=>vB.ae1 hV (by rw[rW.out.2.2.1];intro q hq;rcases mem_append.1 hq with hq|hq;exact af1.2.2.2.2 q hq;rw[mem_singleton]at hq;subst hq;exact hm.val)
   obtain⟨o,ho⟩:=ex1 (xE y2.pr s.n)
   rw[ho]at CQ hch
   simp only[ho]at hcb
   rw[show y2.pr.map bq.pl=y2.pl.2.pr from rfl]at hch
   have M0:=hdn (show F=match (generalizing:=false) o.map aM.b with
     |none=>t
     |some v=>match (generalizing:=false) t.accept m.s y2.ax v with
      |none=>{t with rs:=dD m.s t.rs}
      |some u=>(({u with rs:=aG m.s ({y2.pl.2 with so:=true,b:=v} :Rn) u.rs} :Site).others (Site.asks ({y2.pl.2 with so:=true,b:=v} :Rn) m.s) s.n).send s.me (Site.dW m.s y2.ax) by
    rw[F5.out,hch])
   clear hch ho F5 lD iQ n3 kH kG kJ kY ru oZ JC JB h9 BH rV U9
   repeat' go_step
   refine CQ.mono ?_;rintro e Dr ⟨rfl,uq⟩
   clear CQ hd1 y3c
   have vS:=uw.upd uq
   have vR:=JD.upd uq
   have OD:=JE.upd uq
   have JI:=xL.upd uq
   have n12:=n11.grow uq
   have WW:=vB.grow uq
   have Nb:=yj.trans uq
   have Vf:∀k∈[Y]++([H,G]++X),k<Dr.heap.size:=fun k hk=>by have h1:=JF k hk;have h2:=uq.size;omega
   clear uw JD JE xL n11 vB yj JF
   cases o with
   |none=>
    have bC:=hdn (show F=t from M0.out)
    simp only[Option.isSome_none]
    repeat' (fail_if_success with_reducible refine ek (t:=63) rfl ?_);go_step
    refine bF hii vS abx ?_
    refine bK ?_
    refine bL r3.cells hii abx vR ?_
    intro W8 aX u8
    refine wk ?_
    exact fG results216 hii aX abx ⟨_,rfl,r3,rfl,by rw[bC.out];exact(n12.upd u8).less,Nb.aB aR u8⟩
   |some V=>
    obtain⟨Q4,hVl⟩:=hcb V rfl
    replace Q4:=Q4.grow uq
    clear hcb uq
    have hyv:V.val=.slice V.A V.n V.c:=rfl
    simp only[Option.isSome_some,Option.getD_some,hyv]
    have ib:y2.ax.may 7=true:=by rw[rW.out.2.1];exact af1.2.2.2.1
    have CA:=uZ ([Y]++([H,G]++X)) Dr r3 t n12 Vf m.s (by omega) y2.ax ib V Q4 hVl
    obtain⟨o2,ho2⟩:=ex1 (t.accept m.s y2.ax V.b)
    rw[ho2,ai.arr,Bl.val]at CA
    have HO2:=hdn ho2
    have uA:=hdn (show F=match (generalizing:=false) o2 with
      |none=>{t with rs:=dD m.s t.rs}
      |some u=>(({u with rs:=aG m.s ({y2.pl.2 with so:=true,b:=V.b} :Rn) u.rs} :Site).others (Site.asks ({y2.pl.2 with so:=true,b:=V.b} :Rn) m.s) s.n).send s.me (Site.dW m.s y2.ax) by
     rw[M0.out,←ho2];rfl)
    clear ho2 M0
    have j3:Dr.cell? ⟨J,3,none⟩=some (.int .i64 m.s):=OD.cell 3
    have y1:Dr.cell? ⟨Y,1,none⟩=some (.int .i64 y2.ax.r):=JI.cell 1
    have y2':Dr.cell? ⟨Y,2,none⟩=some (.int .i64 y2.ax.s):=JI.cell 2
    repeat' (fail_if_success with_reducible refine ek (t:=63) rfl ?_);go_step
    refine bF hii vS abx ?_
    repeat' go_step
    refine CA.mono ?_;rintro e w6 ⟨v,rfl,r4,rfl,n4,u6⟩
    clear CA j3 y1 y2'
    obtain⟨W7,T8,wL,Dl,nk,U7⟩:=az w6 63 cz
    have u7:=U7.g0
    have oP:∀k∈[T8],Dr.heap.size≤k:=by have:=u6.size;simp only[mem_singleton];rintro k rfl;omega
    have Nc:∀k∈[T8],w6.heap.size≤k:=ge1
    have lu:∀{g:Nat}{t:TypeId}{cs:Array Value},ak Dr g t cs→g∉[T8]:=fun hb=>by have h1:=hb.lt;have h2:=u6.size;simp only[mem_singleton];omega
    have zY:∀k∈[T8],w.heap.size≤k:=fun k hk=>by have h1:=oP k hk;have h2:=Nb.size;omega
    rw[ai.arr]
    refine bK ?_
    refine bL r4.cells hii abx nk ?_
    intro nG zt u8
    have u68:aa [] [] Dr nG:=(u6.trans u7).aB oP u8
    have En:=vS.upd u68
    have Vg:=vR.upd u68
    have Vh:=OD.upd u68
    have OE:=JI.upd u68
    have n14:Ref ([T8]++([Y]++([H,G]++X))) nG r4 (o2.getD t):=((n4.more Nc).grow u7).upd u8
    have Vi:=n12.grow u68
    have WX:dU ([T8]++([Y]++([H,G]++X))) nG V.A V.n V.b:=(((Q4.grow u6).more Nc).grow u7).upd u8
    have WY:iO ([T8]++([Y]++([H,G]++X))) nG y2:=(((WW.grow u6).more Nc).grow u7).upd u8
    have U14:=Nb.trans u68
    have JJ:∀k∈[Y]++([H,G]++X),k<nG.heap.size:=fun k hk=>by have h1:=Vf k hk;have h2:=u68.size;omega
    have uF:T8≠H∧T8≠G∧T8≠J∧T8≠Y:=by have h1:=lu vS;have h2:=lu vR;have h3:=lu OD;have h4:=lu JI;simp only[mem_singleton]at h1 h2 h3 h4;exact⟨fun e=>h1 e.symm,fun e=>h2 e.symm,fun e=>h3 e.symm,fun e=>h4 e.symm⟩
    clear vS vR OD JI n12 WW Nb Vf n4 wL nk Q4 u7 u6 U7 Dl lu
    cases o2 with
    |none=>
     have CW:=xI ([Y]++([H,G]++X)) nG r3 t Vi JJ m.s
     have bC:=hdn (show F= {t with rs:=dD m.s t.rs}from uA.out)
     rw[ai.arr]at CW
     obtain⟨t2,ht2⟩:∃t2:Site,{t with rs:=dD m.s t.rs} =t2:=⟨_,rfl⟩
     rw[ht2]at CW bC
     have j3:nG.cell? ⟨J,3,none⟩=some (.int .i64 m.s):=Vh.cell 3
     simp only[Option.isSome_none]
     repeat' (fail_if_success with_reducible refine ek (t:=63) rfl ?_);go_step
     refine bF hii En abx ?_
     repeat' go_step
     refine CW.mono ?_;rintro e w15 ⟨v,rfl,r5,rfl,n5,ry⟩
     clear CW
     have ae2:=Vg.upd ry
     rw[ai.arr]
     refine bK ?_
     refine bL r5.cells hii abx ae2 ?_
     intro W8 aX u9
     refine wk ?_
     exact fG results216 hii aX abx ⟨_,rfl,r5,rfl,by rw[bC.out];exact(n5.upd u9).less,(U14.trans ry).aB aR u9⟩
    |some u=>
     have n14:Ref ([T8]++([Y]++([H,G]++X))) nG r4 u:=n14
     simp only[Option.isSome_some]
     obtain⟨y3,hy3⟩:∃y3:aL,{y2 with so:=true,v:=V} =y3:=⟨_,rfl⟩
     have uG:=hdn (show y3.slot=m.s∧y3.ax=y2.ax∧y3.v=V∧y3.pl.2= {y2.pl.2 with so:=true,b:=V.b}∧y3.so=true from by rw[←hy3];exact⟨rW.out.1,rfl,rfl,rfl,rfl⟩)
     obtain⟨Wa,hWa⟩:=ex1 (nG.setCell ⟨Y,4,none⟩ (.bool true))
     obtain⟨Wz,yw⟩:=ex1 (Wa.setCell ⟨Y,5,none⟩ (.slice V.A V.n V.c))
     have c4:nG.cell? ⟨Y,4,none⟩=some (.bool y2.so):=OE.cell 4
     have f4:=OE.frozen 4
     have ya:aa [Y] [Y] nG Wa:=by rw[←hWa];exact(aa.refl [Y] nG).setCell (p:=⟨Y,4,none⟩) (.inl (by simp)) _
     have Q5:=OE.aO 4 (.bool true)
     rw[hWa]at Q5
     have c5:Wa.cell? ⟨Y,5,none⟩=some (.slice y2.v.A y2.v.n y2.v.c):=Q5.cell 5
     have f5:=Q5.frozen 5
     have yb:aa [Y] [Y] Wa Wz:=by rw[←yw];exact(aa.refl [Y] Wa).setCell (p:=⟨Y,5,none⟩) (.inl (by simp)) _
     have Na:ak Wz Y 230 y3.cells.toArray:=by
      have:=Q5.aO 5 (.slice V.A V.n V.c)
      rw[yw]at this
      rw[←hy3]
      exact this
     have uz:=ya.trans yb
     have hYm:∀{g:Nat},Y≠g→g∉[Y]:=fun hb=>by simpa using hb.symm
     have AO:=En.upd uz (hYm uE.1)
     have iF:=Vg.upd uz (hYm uE.2.1)
     have FX:=Vh.upd uz (hYm uE.2.2)
     have oN:=zt.upd uz (by simpa using uF.2.2.2)
     have nz:=n14.upd uz
     have yl:=WX.upd uz
     have JG:iO ([T8]++([Y]++([H,G]++X))) Wz y3:=by rw[←hy3];exact(WY.upd uz).apS yl true
     have zl:=U14.aB MZ uz
     have uC:∀k∈[T8]++([Y]++([H,G]++X)),k<Wz.heap.size:=fun k hk=>by
      have h1:=oN.lt;have h2:=uz.size
      rcases mem_append.1 hk with hk|hk
      ·simp only[mem_singleton]at hk;omega
      ·have:=JJ k hk;omega
     obtain⟨tm,tn,th,-⟩:=Site.gD HO2.out
     obtain⟨t9,DC⟩:∃t9:Site,{u with rs:=aG y3.slot y3.pl.2 u.rs} =t9:=⟨_,rfl⟩
     have DD:t9.n=s.n∧t9.held=s.held∧t9.me=s.me:=by rw[←DC];exact⟨tn.trans yh.1,th.trans yh.2.1,tm.trans yh.2.2⟩
     obtain⟨mA,lF⟩:∃mA:Mv,ni y3=mA:=⟨_,rfl⟩
     have F7:=hdn (show mA.ms=Site.asks y3.pl.2 m.s by rw[←lF,Bv];show Site.asks y3.pl.2 y3.slot=_;rw[uG.out.1])
     have hfA:mA.ms.Fit:=by
      rw[F7.out]
      refine Site.iT (by omega) ?_ ?_
      ·rw[uG.out.2.2.2.1];exact ib
      ·rw[uG.out.2.2.2.1];exact hVl
     have jN:mA.A=V.A∧mA.n=V.n∧mA.b=V.b:=by rw[←lF,←hy3];exact⟨rfl,rfl,rfl⟩
     have HTL:=hdn (show t9.held.length<900000000 by rw[DD.2.1];omega)
     obtain⟨t8,DF⟩:=ex1 (t9.others mA.ms t9.n)
     have HT8:=hdn DF
     have HSL:=hdn (show t8.held.length<1000000000 by
      rw[←DF,Site.bH]
      show(t9.held++t9.tell mA.ms t9.n).length<_
      have:=t9.gQ mA.ms t9.n
      have h7:=hok.n7
      rw[length_append,DD.2.1]
      rw[DD.1]at this ⊢
      omega)
     obtain⟨mV,vk⟩:∃mV:Mv,(⟨6,0,0,m.s,y3.ax.r,y3.ax.s,0,0,false,none,0,0,[]⟩:Mv)=mV:=⟨_,rfl⟩
     have Q7:=hdn (show mV.ms=Site.dW m.s y2.ax by rw[←vk];show Site.dW m.s y3.ax=_;rw[uG.out.2.1])
     have QX:mV.ms.Fit:=by rw[Q7.out];exact Site.kz (by omega) ib
     have uD:mV.A=none∧mV.n=0∧mV.b= []:=by rw[←vk];exact⟨rfl,rfl,rfl⟩
     have CV:∀w',Calls prog 140 #[.int .i64 m.s,.agg #[.int .i64 y3.ax.r,.int .i64 y3.ax.s]] w' fun e w''=>e=.returned mV.val∧aa [] [] w' w'':=fun w'=>by
      have:=xH w' m.s y3.ax
      rw[vk]at this
      exact this
     have Q8:=hdn (show F=t8.send (s.me:Int) mV.ms by
      rw[uA.out,Q7.out,←DF,F7.out,DD.1,←DC,uG.out.1,uG.out.2.2.2.1])
     have HME:=hdn (show r3.me=s.me from Vi.aJ.me.trans yh.2.2)
     have CWw:∀w',aa [T8] [T8] Wz w'→Calls prog 137 #[.agg r4.cells.toArray,.agg y3.cells.toArray] w' fun e w''=>∃v,e=.returned v∧Came ([T8]++([Y]++([H,G]++X))) w' w'' v t9:=fun w' u9=>by
      have:=wH ([T8]++([Y]++([H,G]++X))) w' r4 u (nz.upd u9) (fun k hk=>by have h1:=uC k hk;have h2:=u9.size;omega) y3 (JG.upd u9) (by rw[uG.out.1];omega)
       (by rw[uG.out.2.2.2.1];exact⟨hVl,ib,by rw[rW.out.2.2.1];intro q hq;rcases mem_append.1 hq with hq|hq;exact af1.2.2.2.2 q hq;rw[mem_singleton]at hq;subst hq;exact hm.val⟩)
      rw[ai.arr,DC]at this
      exact this
     have Nf:∀w',Calls prog 138 #[.agg y3.cells.toArray] w' fun e w''=>e=.returned mA.val∧aa [] [] w' w'':=fun w'=>by
      have:=uX w' y3
      rw[lF]at this
      exact this
     have LY:∀w',aa [T8] [T8] Wz w'→ak w' Y 230 y3.cells.toArray:=fun w' u9=>Na.upd u9 (by simpa using uF.2.2.2.symm)
     have MV:H∉[T8]:=by simpa using uF.1.symm
     have WZ:G∉[T8]:=by simpa using uF.2.1.symm
     have hJT:J∉[T8]:=by simpa using uF.2.2.1.symm
     have hYT:Y∉[T8]:=by simpa using uF.2.2.2.symm
     have rJ:T8∉[G]:=by simpa using uF.2.1
     clear lF DC DF vk hy3 ya uz tm tn th n14 Vi En Vg Vh zt OE WY WX
     repeat' go_step
     clear c4 f4 c5 f5 hWa yw yb Q5
     refine wp_region_held_drew (S:=fun w'=>aa [T8] [T8] Wz w') (by kernel_rfl) (aa.refl [T8] Wz).drew fun _=>?_
     refine mi 1 hir (y3).cells rF LY ?_
     refine mi 3 hir (y3).cells rF LY ?_
     refine aW 0 (fun K hK=>?_)
     refine ku rfl _ _ rfl hii (fun _=>rfl) rfl r4.cells abx oN.drew ?_
     refine aP hK ((aa.refl [T8] Wz).drew) fun _=>?_
     clear hK K
     refine aW 2 (fun K hK=>?_)
     go_simp
     refine(CWw _ (‹aa [T8] [T8] Wz _›)).mono ?_;rintro e wa ⟨v,rfl,ra,rfl,na,ua⟩
     simp only[]
     rw[ai.arr]
     have UA:aa [T8] [T8] Wz wa:=(‹aa [T8] [T8] Wz _›).trans (ua.up _)
     have dh:aa [] [] Wz wa:=(aa.refl [] Wz).drew.trans ua
     refine aP hK (UA) fun _=>?_
     clear hK K
     refine aW 4 (fun K hK=>?_)
     go_simp
     refine(Nf _).mono ?_;rintro e wb ⟨rfl,ub⟩
     simp only[]
     have UB:aa [T8] [T8] Wz wb:=UA.trans (ub.up _)
     have AP:aa [] [] Wz wb:=dh.trans ub
     refine aP hK (UB) fun _=>?_
     clear hK K
     refine aW 5 (fun K hK=>?_)
     have CO:=jf ([T8]++([Y]++([H,G]++X))) wb ra t9 (na.grow ub) (fun k hk=>by have h1:=uC k hk;have h2:=UB.size;omega) HTL.out mA (by rw[jN.1,jN.2.1,jN.2.2];exact yl.grow AP) hfA
     rw[ai.arr]at CO
     go_simp
     refine CO.mono ?_;rintro e wd ⟨v,rfl,rd,rfl,nd,ud⟩
     simp only[]
     rw[ai.arr]
     have UD:aa [T8] [T8] Wz wd:=UB.trans (ud.up _)
     have Q9:ak wd T8 63 r4.cells.toArray:=oN.upd (AP.trans ud)
     refine aP hK (UD) fun _=>?_
     clear hK K
     refine aW 6 (fun K hK=>?_)
     refine mf rd.cells hii abx Q9 ?_
     intro Wn lu un
     have UN:aa [T8] [T8] Wz Wn:=UD.trans un
     refine aP hK (UN) fun _=>?_
     clear hK K
     refine dnH ?_ _
     have ndn:Ref ([T8]++([Y]++([H,G]++X))) Wn rd t8:=by rw[←HT8.out];exact nd.upd un
     have lI:aa [] [] w Wn:=zl.aB zY UN
     have hXn:∀k∈[T8]++([Y]++([H,G]++X)),k<Wn.heap.size:=fun k hk=>by have h1:=uC k hk;have h2:=UN.size;omega
     have Ra:=AO.upd UN MV
     have hGn:=iF.upd UN WZ
     have hJn:=FX.upd UN hJT
     have aaK:=Na.upd UN hYT
     have LT:∀w',aa [G] [G] Wn w'→ak w' T8 63 rd.cells.toArray:=fun w' u=>lu.upd u rJ
     have h0:∀w',aa [G] [G] Wn w'→w'.cell? ⟨H,0,none⟩=some (.int .i64 (s.me:Int)):=fun w' u=>by rw[(Ra.upd u nY).cell 0];show some (Value.int .i64 (r3.me:Int))=_;rw[HME.out]
     have h3:∀w',aa [G] [G] Wn w'→w'.cell? ⟨J,3,none⟩=some (.int .i64 m.s):=fun w' u=>(hJn.upd u (by simpa using uU)).cell 3
     have h1':∀w',aa [G] [G] Wn w'→w'.cell? ⟨Y,1,none⟩=some (.int .i64 y3.ax.r):=fun w' u=>(aaK.upd u (by simpa using uE.2.1)).cell 1
     have h2':∀w',aa [G] [G] Wn w'→w'.cell? ⟨Y,2,none⟩=some (.int .i64 y3.ax.s):=fun w' u=>(aaK.upd u (by simpa using uE.2.1)).cell 2
     clear nd un UD ud ub UB UA ua na dh AP Q9
     repeat' go_step
     refine wp_region_held_drew (S:=fun w'=>aa [G] [G] Wn w') (by kernel_rfl) (aa.refl [G] Wn).drew fun _=>?_
     refine mi 0 hii (rd).cells abx LT ?_
     refine aF 1 ?_
     refine aF 2 ?_
     refine aF 3 ?_
     refine aF 4 ?_
     refine aF 5 ?_
     refine aF 6 ?_
     refine aW 7 (fun K hK=>?_)
     go_simp
     refine(CV _).mono ?_;rintro e wp ⟨rfl,up⟩
     simp only[]
     have UP:aa [G] [G] Wn wp:=(‹aa [G] [G] Wn _›).trans (up.up _)
     refine aP hK (UP) fun _=>?_
     clear hK K
     refine aW 8 (fun K hK=>?_)
     have ky:=lU ([T8]++([Y]++([H,G]++X))) wp rd t8 (ndn.upd UP) (fun k hk=>by have h1:=hXn k hk;have h2:=UP.size;omega) HSL.out (s.me:Int) (by omega) mV (by rw[uD.1,uD.2.1,uD.2.2];exact dU.nil _ _ _) QX
     rw[ai.arr]at ky
     go_simp
     refine ky.mono ?_;rintro e ws ⟨v,rfl,rs,rfl,ns,us⟩
     simp only[]
     rw[ai.arr]
     have US:aa [G] [G] Wn ws:=UP.trans (us.up _)
     have I4:ak ws G 63 cz:=(hGn.upd ((aa.refl [] Wn).drew.trans up) (by simp)).upd us
     refine aP hK (US) fun _=>?_
     clear hK K
     refine aW 9 (fun K hK=>?_)
     refine mf rs.cells hii abx I4 ?_
     intro We qP ue
     have UE:aa [G] [G] Wn We:=US.trans ue
     refine aP hK (UE) fun _=>?_
     clear hK K
     refine dnH ?_ _
     refine wk ?_
     exact fG results216 hii qP abx ⟨_,rfl,rs,rfl,by rw[Q8.out];exact(ns.upd ue).less,lI.aB aR UE⟩
