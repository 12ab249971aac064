/- For SitePlays. -/
import Derived.Test.YtijhlbeipglieaaGreatLawDo
set_option linter.all false
set_option maxRecDepth 100000
set_option maxHeartbeats 32000000
namespace Go.Proofs.YtijhlbeipglieaaGreat
open Go.RowKit aA Go.Maps Go.Proofs.Tryz List
structure jO(fp:List Nat)(B:Nat)(cs:Array Value)(wr w':World):Prop where
 blk:ak w' B 63 cs
 old:∀a u,wr.cell? a=some u→a.block∉fp→w'.cell? a=some u
theorem jO.upd{fp a b:List Nat}{B:Nat}{cs:Array Value}{wr w1 w2:World}(h:jO fp B cs wr w1)(hu:aa a b w1 w2)(hB:B∉a)(ha:∀k∈a,k∈fp:=by simp):jO fp B cs wr w2:=
 ⟨h.blk.upd hu hB,fun x u hx hn=>hu.cell (h.old x u hx hn) (fun hm=>hn (ha _ hm))⟩
theorem jO.store{fp:List Nat}{B T:Nat}{cs:Array Value}{wr w1 w2:World}(h:jO fp B cs wr w1)(hu:aa [T] [T] w1 w2)(hT:wr.heap.size≤T)(hB:B<wr.heap.size):jO fp B cs wr w2:=
 ⟨h.blk.upd hu (by simp only[mem_singleton];omega),fun x u hx hn=>hu.cell (h.old x u hx hn) (fun hm=>by
  have:=World.block_lt_of_cell? wr _ hx
  simp only[mem_singleton]at hm
  omega)⟩
theorem GR{w:World}{A:Option Addr}{n:Nat}{b:List UInt8}(h:aD w A n b):∀k∈dV A n,k<w.heap.size:=Rd.pY h (by omega)
theorem Gr(w:World)(me n pat:Int)(B:Option Addr)(m d:Nat)(l:List Dt)(hl:bR Dt.cells 13 w B m l)(he:∀x∈l,Dt.o7 w x∧(Lit.int .i64 x.n).wf=true∧(Lit.int .i64 x.m.s).wf=true) :
  Calls prog 5 #[.agg #[.int .i64 me,.int .i64 n,.int .i64 pat],.slice B m d] w fun e w'=>e=.returned (.bool true)∧aa [] [] w w':=by
 obtain⟨ii,hii,abx⟩:=fP
 obtain⟨W,H,eW,hH,hB,U0⟩:=az w 51 #[.int .i64 me,.int .i64 n,.int .i64 pat]
 have dm:aa [] [] w W:=U0.g0
 have C1:=Pn W
 cases hnk:iC me n pat with
 |false=>
  have C2:=fun w=>Nz w me n pat hnk
  have C3:=fun w=>Po w me n pat hnk
  clear hnk
  have hz:(ai.new 0 0 0).cells.toArray=cz:=rfl
  rw[←hz]at C3
  go_enter func5,ntmps5
  repeat' go_step
  refine C1.mono ?_;rintro e w1 ⟨rfl,u1⟩
  have K1:=hB.upd u1
  have U1:=dm.trans u1
  obtain⟨⟨a0,a1,a2⟩,-⟩:=K1.c3
  clear C1
  repeat' first|go_step|simp only[];go_at_K
  refine(C2 w1).mono ?_;rintro e w2 ⟨rfl,rfl⟩
  clear C2
  repeat' first|go_step|simp only[];go_at_K
  refine(C3 w1).mono ?_;rintro e w3 ⟨rfl,u3⟩
  clear C3 a0 a1 a2
  obtain⟨W5,B8,Ev,yx,zX,U5⟩:=az w3 63 cz
  have qQ:=(U1.trans u3).trans U5.g0
  refine bK ?_
  refine bL (ai.new 0 0 0).cells hii abx zX ?_
  intro W6 dK u6
  have U6:=qQ.aB (show ∀k∈[B8],w.heap.size≤k by simp only[mem_singleton];rintro k rfl;have:=(U1.trans u3).size;omega) u6
  refine wk ?_
  go_ret
  exact⟨rfl,U6⟩
 |true=>
  obtain⟨me',rfl⟩:∃k:Nat,me=(k:Int):=⟨me.toNat,by simp only[iC,Bool.and_eq_true,decide_eq_true_eq]at hnk;omega⟩
  obtain⟨n',rfl⟩:∃k:Nat,n=(k:Int):=⟨n.toNat,by simp only[iC,Bool.and_eq_true,decide_eq_true_eq]at hnk;omega⟩
  obtain⟨p',rfl⟩:∃k:Nat,pat=(k:Int):=⟨pat.toNat,by simp only[iC,Bool.and_eq_true,decide_eq_true_eq]at hnk;omega⟩
  have C2:=fun w=>LU w me' n' p' hnk (GV _)
  have hk9:=hnk
  simp only[iC,Bool.and_eq_true,decide_eq_true_eq]at hk9
  have C3:=fun w=>Pp w me' n' p' (by omega) (by omega) (by simp only[fB,Bool.and_eq_true,decide_eq_true_eq];omega)
  have hI0:Inv (Site.new me' n' p') [] 40:=(Inv.new hnk).less (by omega)
  have VX:=Site.dH.new me' n' p'
  have RN:=fun X w=>Ref.new X w me' n' p' (by omega) (by omega) (by omega) (by omega)
  obtain⟨r0,hr0⟩:=ex1 (ai.new me' n' p')
  obtain⟨T0,hT0⟩:=ex1 (Site.new me' n' p')
  simp only[hr0,hT0,ai.arr]at C2 C3 RN
  rw[hT0]at hI0 VX
  clear hnk hk9 hr0 hT0
  have Ew:=hdn hl.len
  go_enter func5,ntmps5
  repeat' go_step
  refine C1.mono ?_;rintro e w1 ⟨rfl,u1⟩
  have K1:=hB.upd u1
  have U1:=dm.trans u1
  obtain⟨⟨a0,a1,a2⟩,-⟩:=K1.c3
  clear C1
  repeat' first|go_step|simp only[];go_at_K
  refine(C2 w1).mono ?_;rintro e w2 ⟨M,rfl,h2,hp2,u2⟩
  clear C2
  have aec:∀k∈M.fp,w.heap.size≤k:=fun k hk=>by
   rcases u2.fresh k hk with hh|hh
   ·cases hh
   ·have:=U1.size;omega
  have U2:aa [] M.fp w w2:=(U1.up []).trans u2
  have K2:=K1.upd u2
  clear a0 a1 a2 K1
  obtain⟨⟨a0,a1,a2⟩,-⟩:=K2.c3
  simp only[af.ptr]
  repeat' go_step
  refine(C3 w2).mono ?_;rintro e w3 ⟨rfl,u3⟩
  clear C3 a0 a1 a2
  obtain⟨W5,B8,Ev,yx,zX,U5⟩:=az w3 63 cz
  have u5:=U5.g0
  refine bK ?_
  refine bL r0.cells hii abx zX ?_
  intro W6 dK u6
  have hf2:=h2.lt
  have hBf:B8∉M.fp:=fun hm=>by have:=hf2 _ hm;have:=u3.size;omega
  have hBw:w.heap.size≤B8:=by have:=U2.size;have:=u3.size;omega
  have u35:aa [] [] w2 W6:=(u3.trans u5).aB (by simp only[mem_singleton];rintro k rfl;have:=u3.size;omega) u6
  have h6:=h2.au u35
  have U6:aa [] M.fp w W6:=U2.trans (u35.up M.fp)
  have R6:=RN (M.fp++[B8]) W6
  rw[←hp2]at R6 hI0 VX
  clear h2 u35 u6 u5 u3 u2 U2 zX RN K2 U1 hp2 dm hf2
  repeat' first|go_guarded|go_step
  go_loopw [10] (fun v10 wr=>aQ (∃(j:Nat)(Mi:af)(r1:ai)(told:List Ms),j≤m∧j≤40∧v10=.int .i64 (j:Int)∧ay wr Mi∧Mi.gs=M.gs∧ak wr B8 63 r1.cells.toArray∧Ref (Mi.fp++[B8]) wr r1 Mi.pl∧
   Inv Mi.pl told (40-j)∧Mi.pl.dH∧B8∉Mi.fp∧(∀k∈Mi.fp,w.heap.size≤k)∧aa [] Mi.fp w wr)) (fun v10 _=>40-(intOf v10).toNat)
  case atStart=>exact aQ.mk ⟨0,M,r0,[],by omega,by omega,rfl,h6,rfl,dK,R6,hI0,VX,hBf,aec,U6⟩
  case round=>
   obtain⟨j,Mi,r1,told,hjm,ail,rfl,hS,hgi,kB,kR,hI,hO,Sv,hfw,U⟩:=hrel.out
   clear hrel h6 dK R6 hI0 VX hBf aec U6
   obtain⟨D,hD⟩:=ex1 ((decide (j<m)&&decide (j<40)))
   have HD:=hdn hD
   clear hD
   go_upto_region 9 with fail
   go_cut [54]from 47 to 81 (fun s54 wc=>s54=.bool D∧wr=wc)
   case first=>
    by_cases h1:j<m
    ·have hd1:decide (j<m)=true:=dTx h1
     have hi1:(j:Int)<(m:Int):=by omega
     by_cases h2:j<40
     ·have hd2:decide ((j:Int)<40)=true:=dTo
      refine wk ?_
      go_meet
      exact⟨by rw[←HD.out,hd1,dTx h2];rfl,rfl⟩
     ·have hd2:decide ((j:Int)<40)=false:=dFo
      refine wk ?_
      go_meet
      exact⟨by rw[←HD.out,dFx h2,Bool.and_false],rfl⟩
    ·have hd1:decide (j<m)=false:=dFx h1
     have hi1:¬ (j:Int)<(m:Int):=by omega
     refine wk ?_
     go_meet
     exact⟨by rw[←HD.out,hd1];rfl,rfl⟩
   case rest=>
    obtain⟨rfl,hwc⟩:=hcut
    subst hwc
    cases D with
    |false=>
     refine wk ?_
     go_ret
     exact⟨rfl,U.gives⟩
    |true=>
     have hj:j<m∧j<40:=by have:=HD.out;simpa using this
     have hjl:j<l.length:=by have:=Ew.out;omega
     have hi1:(j:Int)<(m:Int):=by omega
     have hw1:=aA.wr ((j:Int)+1)
     have lY:=hl.au U
     obtain⟨ad,rfl,h0,hjc⟩:=bR.at_ (f:=Dt.cells) (s:=13) Dt.iG lY (i:=j) hjl
     have LV:=he _ (getElem_mem hjl)
     have HBL:=hdn (show(ad.add (j*13)).block<w.heap.size by
      obtain⟨ae,hae,g0,-⟩:=bR.at_ (f:=Dt.cells) (s:=13) Dt.iG hl (i:=j) hjl
      injection hae with hae
      subst hae
      exact World.block_lt_of_cell? w _ (g0 _ rfl))
     obtain⟨y,hye⟩:=ex1 (l[j]'hjl)
     have HYE:=hdn (show l[j]? =some y by rw[List.getElem?_eq_getElem hjl,hye])
     simp only[hye]at h0 hjc LV
     have Yy:=hdn hjl
     clear hye hjl
     have hny:=Go.bounds_i64 LV.2.1
     have hsy:=Go.bounds_i64 LV.2.2
     replace hny: -9223372036854775808≤y.n∧y.n<9223372036854775808:=by omega
     have hbw:=GR LV.1.v
     have hmw:=GR LV.1.m
     have Yz:Dt.o7 wr y:=LV.1.au U
     have hfm:0<y.m.n→∀k∈ah y.m.A,k∉Mi.fp:=fun h0 k hk hm=>by
      have h1:=hmw k (by unfold dV;rw[if_neg (by omega)];exact hk)
      have h2:=hfw k hm
      omega
     have apG:∀k∈dV y.A y.l,k∉Mi.fp++[B8]:=fun k hk hm=>by
      simp only[mem_append,mem_singleton]at hm
      have h9:=hbw k hk
      rcases hm with hm|rfl
      ·have:=hfw k hm;omega
      ·omega
     have aez:∀k∈dV y.m.A y.m.n,k∉Mi.fp++[B8]:=fun k hk hm=>by
      simp only[mem_append,mem_singleton]at hm
      have h9:=hmw k hk
      rcases hm with hm|rfl
      ·have:=hfw k hm;omega
      ·omega
     obtain⟨c,hc⟩:∃c,40 - j=c+1:=⟨40 - (j+1),by omega⟩
     rw[hc]at hI
     obtain⟨ai5,hI'⟩:=hI.deed y.k y.n y.b y.m.ms
     have hO':=hO.deed y.k y.n y.b y.m.ms
     have NA:=kB.lt
     have qa:∀k∈[B8],k<wr.drew.heap.size:=by simp only[mem_singleton];rintro k rfl;exact NA
     have D0:jO Mi.fp B8 (ai.cells r1).toArray wr wr.drew:=⟨kB.drew,fun a u h _=>h⟩
     have qi:(ad.add (j*13)).block∉Mi.fp:=fun hm=>by
      have h9:=HBL.out
      have:=hfw _ hm
      omega
     have LB:∀w',jO Mi.fp B8 (ai.cells r1).toArray wr w'→ak w' B8 63 (ai.cells r1).toArray:=fun w' h=>h.blk
     have q0:∀w',jO Mi.fp B8 (ai.cells r1).toArray wr w'→w'.cell? (ad.add (j*13))=some (.int .i64 y.k):=fun w' h=>h.old _ _ (h0 _ rfl) qi
     have q1:∀w',jO Mi.fp B8 (ai.cells r1).toArray wr w'→w'.cell? ⟨(ad.add (j*13)).block,(ad.add (j*13)).off+1,none⟩=some (.int .i64 y.n):=fun w' h=>h.old _ _ (hjc 1 _ (by omega) rfl) qi
     have q2:∀w',jO Mi.fp B8 (ai.cells r1).toArray wr w'→w'.cell? ⟨(ad.add (j*13)).block,(ad.add (j*13)).off+2,none⟩=some (.slice y.A y.l y.c):=fun w' h=>h.old _ _ (hjc 2 _ (by omega) rfl) qi
     have q3:∀w',jO Mi.fp B8 (ai.cells r1).toArray wr w'→w'.cell? ⟨(ad.add (j*13)).block,(ad.add (j*13)).off+3,none⟩=some (.int .i64 y.m.k):=fun w' h=>h.old _ _ (hjc 3 _ (by omega) rfl) qi
     have q4:∀w',jO Mi.fp B8 (ai.cells r1).toArray wr w'→w'.cell? ⟨(ad.add (j*13)).block,(ad.add (j*13)).off+4,none⟩=some (.int .i64 y.m.f):=fun w' h=>h.old _ _ (hjc 4 _ (by omega) rfl) qi
     have q5:∀w',jO Mi.fp B8 (ai.cells r1).toArray wr w'→w'.cell? ⟨(ad.add (j*13)).block,(ad.add (j*13)).off+5,none⟩=some (.int .i64 y.m.t):=fun w' h=>h.old _ _ (hjc 5 _ (by omega) rfl) qi
     have q6:∀w',jO Mi.fp B8 (ai.cells r1).toArray wr w'→w'.cell? ⟨(ad.add (j*13)).block,(ad.add (j*13)).off+6,none⟩=some (.int .i64 y.m.s):=fun w' h=>h.old _ _ (hjc 6 _ (by omega) rfl) qi
     have q7:∀w',jO Mi.fp B8 (ai.cells r1).toArray wr w'→w'.cell? ⟨(ad.add (j*13)).block,(ad.add (j*13)).off+7,none⟩=some (.int .i64 y.m.br):=fun w' h=>h.old _ _ (hjc 7 _ (by omega) rfl) qi
     have q8:∀w',jO Mi.fp B8 (ai.cells r1).toArray wr w'→w'.cell? ⟨(ad.add (j*13)).block,(ad.add (j*13)).off+8,none⟩=some (.int .i64 y.m.bs):=fun w' h=>h.old _ _ (hjc 8 _ (by omega) rfl) qi
     have q9:∀w',jO Mi.fp B8 (ai.cells r1).toArray wr w'→w'.cell? ⟨(ad.add (j*13)).block,(ad.add (j*13)).off+9,none⟩=some (.int .i64 y.m.hr):=fun w' h=>h.old _ _ (hjc 9 _ (by omega) rfl) qi
     have Eu:∀w',jO Mi.fp B8 (ai.cells r1).toArray wr w'→w'.cell? ⟨(ad.add (j*13)).block,(ad.add (j*13)).off+10,none⟩=some (.int .i64 y.m.hs):=fun w' h=>h.old _ _ (hjc 10 _ (by omega) rfl) qi
     have BR:∀w',jO Mi.fp B8 (ai.cells r1).toArray wr w'→w'.cell? ⟨(ad.add (j*13)).block,(ad.add (j*13)).off+11,none⟩=some (.bool y.m.so):=fun w' h=>h.old _ _ (hjc 11 _ (by omega) rfl) qi
     have Yx:∀w',jO Mi.fp B8 (ai.cells r1).toArray wr w'→w'.cell? ⟨(ad.add (j*13)).block,(ad.add (j*13)).off+12,none⟩=some (.slice y.m.A y.m.n y.m.c):=fun w' h=>h.old _ _ (hjc 12 _ (by omega) rfl) qi
     clear h0 hjc lY
     repeat' go_step
     go_cut [11,12]from 47 to 81 (fun s11 s12 wc=>aQ (∃(T:Nat)(Mn:af)(rn:ai),s11=.bool true∧s12=.pointer (some ⟨T,0,none⟩)∧ak wc T 63 rn.cells.toArray∧ay wc Mn∧Mn.pl=Mi.pl.deed y.k y.n y.b y.m.ms∧Mn.gs=M.gs∧Ref (Mn.fp++[B8]) wc rn Mn.pl∧ak wc B8 63 r1.cells.toArray∧aa Mi.fp Mn.fp wr wc))
     case first=>
      refine wp_region_held_drew (S:=fun w'=>jO Mi.fp B8 (ai.cells r1).toArray wr w') (by kernel_rfl) D0 fun _=>?_
      refine aF 0 ?_
      refine mi 1 hii (r1).cells abx LB ?_
      refine aF 2 ?_
      refine aF 3 ?_
      refine aF 4 ?_
      refine aF 5 ?_
      refine wpAnyH_ready (rs:=[6,10]) (by kernel_rfl) (by simp) ?_
      refine AllReadyH.cons rfl (fun K hK=>?_) (.cons rfl (fun K hK=>?_) .nil)
      ·skip
       have CD:=VT [B8] wr.drew Mi hS.drew r1 (kR.grow (aa.refl [] wr).drew) qa y (Yz.au (aa.refl [] wr).drew) hfm apG aez hny hI hO
       rw[af.ptr,hgi,ai.arr,Dt.aH]at CD
       go_simp
       refine CD.mono ?_;rintro e wa ⟨Mn,rn,rfl,Ex,hpn,hgn,GX,ua⟩
       simp only[]
       have DA:jO Mi.fp B8 (ai.cells r1).toArray wr wa:=D0.upd ua Sv
       have VY:aa Mi.fp Mn.fp wr wa:=((aa.refl [] wr).drew.up Mi.fp).trans ua
       refine aP hK (DA) fun _=>?_
       clear hK K
       refine aF 7 ?_
       refine aF 8 ?_
       refine aF 9 ?_
       refine aW 10 (fun K hK=>?_)
       obtain⟨Wm,T,vX,hT,oC,UM⟩:=az wa 63 cz
       have Ey:=UM.g0
       have zY:∀k∈[T],wa.heap.size≤k:=ge1
       have hTr:wr.heap.size≤T:=by have:=VY.size;omega
       have DA2:jO Mi.fp B8 (ai.cells r1).toArray wr Wm:=DA.upd Ey not_mem_nil
       have Uwm:aa Mi.fp Mn.fp wr Wm:=VY.trans (Ey.up Mn.fp)
       have hSm:=Ex.au Ey
       have hRm:Ref (Mn.fp++([T]++[B8])) Wm rn Mn.pl:=((GX.more zY).grow Ey).less fun k hk=>by
        simp only[mem_append,mem_singleton]at hk ⊢
        rcases hk with hk|hk|hk
        ·exact .inr (.inl hk)
        ·exact .inl hk
        ·exact .inr (.inr hk)
       go_simp
       refine aP hK (DA2) fun _=>?_
       clear hK K
       refine aF 11 ?_
       refine aW 12 (fun K hK=>?_)
       refine cu rfl _ _ 63 rfl hii rfl (ai.cells rn) rfl abx oC rfl rfl ?_
       intro Wn lu un
       have DN:jO Mi.fp B8 (ai.cells r1).toArray wr Wn:=DA2.store un hTr NA
       have YA:ay Wn Mn:=hSm.set oC (by decide) (fun hm=>by have h9:=Ex.lt T hm;omega) un
       have hRe:Ref (Mn.fp++[B8]) Wn rn Mn.pl:=(hRm.upd un).less fun k hk=>by
        simp only[mem_append,mem_singleton]at hk ⊢
        rcases hk with hk|hk
        ·exact .inl hk
        ·exact .inr (.inr hk)
       have YB:aa Mi.fp Mn.fp wr Wn:=Uwm.aB (by simp only[mem_singleton];rintro k rfl;exact hTr) un
       refine aP hK (DN) fun _=>?_
       clear hK K
       refine dnH ?_ _
       refine wk ?_
       go_meet
       exact aQ.mk ⟨T,Mn,rn,rfl,rfl,lu,YA,hpn,hgn,hRe,DN.blk,YB⟩
      ·skip
       obtain⟨Wm,T,vX,hT,fD,UM⟩:=az wr.drew 63 cz
       have um:=UM.g0
       have UM0:=um
       have Ey:aa [] [] wr Wm:=(aa.refl [] wr).drew.trans um
       have zY:∀k∈[T],wr.drew.heap.size≤k:=by simp only[mem_singleton];rintro k rfl;omega
       have hTr:wr.heap.size≤T:=by have:=(aa.refl [] wr).drew.size;omega
       have yz:T∉Mi.fp:=fun hm=>by have:=hS.lt T hm;omega
       have DM:jO Mi.fp B8 (ai.cells r1).toArray wr Wm:=D0.upd um not_mem_nil
       have Wh:∀k∈[T]++[B8],k<Wm.heap.size:=fun k hk=>by
        simp only[mem_append,mem_singleton]at hk
        rcases hk with rfl|rfl
        ·exact fD.lt
        ·have:=qa k (by simp);have:=um.size;omega
       have mid:∀k∈Mi.fp++([T]++[B8]),k∈[T]++(Mi.fp++[B8]):=fun k hk=>by
        simp only[mem_append,mem_singleton]at hk ⊢
        rcases hk with hk|hk|hk
        ·exact .inr (.inl hk)
        ·exact .inl hk
        ·exact .inr (.inr hk)
       have hb1:∀k∈dV y.A y.l,k∉Mi.fp++([T]++[B8]):=fun k hk hm=>by
        simp only[mem_append,mem_singleton]at hm
        have h9:=hbw k hk
        rcases hm with hm|rfl|rfl
        ·have:=hfw k hm;omega
        ·have:=U.size;omega
        ·omega
       have hm1:∀k∈dV y.m.A y.m.n,k∉Mi.fp++([T]++[B8]):=fun k hk hm=>by
        simp only[mem_append,mem_singleton]at hm
        have h9:=hmw k hk
        rcases hm with hm|rfl|rfl
        ·have:=hfw k hm;omega
        ·have:=U.size;omega
        ·omega
       go_simp
       refine aP hK (DM) fun _=>?_
       clear hK K
       refine aW 6 (fun K hK=>?_)
       have CD:=VT ([T]++[B8]) Wm Mi (hS.au Ey) r1 ((((kR.grow (aa.refl [] wr).drew).more zY).grow UM0).less mid) Wh y (Yz.au Ey) hfm hb1 hm1 hny hI hO
       rw[af.ptr,hgi,ai.arr,Dt.aH]at CD
       go_simp
       refine CD.mono ?_;rintro e wa ⟨Mn,rn,rfl,Ex,hpn,hgn,GX,ua⟩
       simp only[]
       have oC:=fD.upd ua yz
       have DA:jO Mi.fp B8 (ai.cells r1).toArray wr wa:=DM.upd ua Sv
       have VY:aa Mi.fp Mn.fp wr wa:=(Ey.up Mi.fp).trans ua
       refine aP hK (DA) fun _=>?_
       clear hK K
       refine aF 7 ?_
       refine aF 8 ?_
       refine aF 9 ?_
       refine aF 11 ?_
       refine aW 12 (fun K hK=>?_)
       have aim:wr.heap.size≤T:=hTr
       refine cu rfl _ _ 63 rfl hii rfl (ai.cells rn) rfl abx oC rfl rfl ?_
       intro Wn lu un
       have DN:jO Mi.fp B8 (ai.cells r1).toArray wr Wn:=DA.store un hTr NA
       have YA:ay Wn Mn:=Ex.set oC (by decide) (ua.eQ yz fD.lt) un
       have hRe:Ref (Mn.fp++[B8]) Wn rn Mn.pl:=(GX.upd un).less fun k hk=>by
        simp only[mem_append,mem_singleton]at hk ⊢
        rcases hk with hk|hk
        ·exact .inl hk
        ·exact .inr (.inr hk)
       have YB:aa Mi.fp Mn.fp wr Wn:=VY.aB (by simp only[mem_singleton];rintro k rfl;exact hTr) un
       refine aP hK (DN) fun _=>?_
       clear hK K
       refine dnH ?_ _
       refine wk ?_
       go_meet
       exact aQ.mk ⟨T,Mn,rn,rfl,rfl,lu,YA,hpn,hgn,hRe,DN.blk,YB⟩
     case rest=>
      obtain⟨T,Mn,rn,rfl,rfl,lu,Ex,hpn,hgn,GX,eu,un⟩:=hcut.out
      obtain⟨W8,Ez⟩:=ex1 wc
      rw[Ez]at lu Ex GX eu un ⊢
      have YC:B8∉Mn.fp:=un.eQ Sv NA
      have aeA:∀k∈Mn.fp,w.heap.size≤k:=fun k hk=>by
       rcases un.fresh k hk with hh|hh
       ·exact hfw k hh
       ·have:=U.size;omega
      have U8:aa [] Mn.fp w W8:=U.trans un
      clear hcut Ez un D0 LB kB kR hS q0 q1 q2 q3 q4 q5 q6 q7 q8 q9 Eu BR Yx
      repeat' (fail_if_success with_reducible refine ek (t:=63) rfl ?_);go_step
      refine bF hii lu abx ?_
      refine bK ?_
      refine bL rn.cells hii abx eu ?_
      intro W9 Wi u9
      have h9:ay W9 Mn:=Ex.set eu (by decide) YC u9
      have hR9:Ref (Mn.fp++[B8]) W9 rn Mn.pl:=GX.upd u9
      have U9:aa [] Mn.fp w W9:=U8.aB (by simp only[mem_singleton];rintro k rfl;omega) u9
      have aeB:=YC
      have aeC:=aeA
      have d6:∀w',aa [] [] W9 w'→w'.cell? ⟨(ad.add (j*13)).block,(ad.add (j*13)).off+6,none⟩=some (.int .i64 y.m.s):=fun w' u=>by
       obtain⟨ae,hae,-,hjc⟩:=bR.at_ (f:=Dt.cells) (s:=13) Dt.iG (hl.au (U9.trans (u.up Mn.fp))) (i:=j) Yy.out
       injection hae with hae
       subst hae
       have hyy:l[j]'Yy.out=y:=by have:=HYE.out;rw[List.getElem?_eq_getElem Yy.out]at this;injection this
       rw[←hyy]
       exact hjc 6 _ (by omega) rfl
      have CSm:∀w',aa [] [] W9 w'→Calls prog 32 #[.pointer (some ⟨M.gs,0,none⟩),.agg (ai.cells rn).toArray,.int .i64 y.m.s] w' fun e w''=>e=.returned (.bool true)∧aa [] [] w' w'':=fun w' u=>by
       have:=XK (Mn.fp++[B8]) w' Mn (h9.au u) rn (hR9.grow u) y.m.s (by omega)
       rw[af.ptr,hgn,ai.arr]at this
       exact this
      have LN:∀w',aa [] [] W9 w'→ak w' B8 63 (ai.cells rn).toArray:=fun w' u=>Wi.upd u
      clear lu Ex GX eu U8 u9
      repeat' go_step
      refine wp_region_held_drew (S:=fun w'=>aa [] [] W9 w') (by kernel_rfl) (aa.refl [] W9).drew fun _=>?_
      refine aF 0 ?_
      refine aF 1 ?_
      refine aF 2 ?_
      refine aF 3 ?_
      refine mi 4 hii (rn).cells abx LN ?_
      refine aF 5 ?_
      refine aF 6 ?_
      refine aF 7 ?_
      refine aF 8 ?_
      refine aF 9 ?_
      refine aF 10 ?_
      refine aW 11 (fun K hK=>?_)
      rw[if_pos (by kernel_rfl)]
      go_simp
      refine(CSm _ (‹aa [] [] W9 _›)).mono ?_;rintro e wb ⟨rfl,ub⟩
      simp only[]
      have UB:aa [] [] W9 wb:=(‹aa [] [] W9 _›).trans ub
      refine aP hK (UB) fun _=>?_
      clear hK K
      refine aF 12 ?_
      refine aF 13 ?_
      refine dnH ?_ _
      obtain⟨Wz,yw⟩:=ex1 wb
      rw[yw]at UB ⊢
      refine wk ?_
      exact⟨aQ.mk ⟨j+1,Mn,rn,ai5,by omega,by omega,by simp,h9.au UB,hgn,Wi.upd UB,hR9.grow UB,by rw[hpn,show 40-(j+1)=c by omega];exact hI',by rw[hpn];exact hO',aeB,aeC,U9.trans (UB.up Mn.fp)⟩,by simp[intOf];omega⟩
