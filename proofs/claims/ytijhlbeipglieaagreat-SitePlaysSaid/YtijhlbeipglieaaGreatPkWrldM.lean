/- For SitePlays. -/
import Derived.Deep.CutBlock
import Derived.Test.YtijhlbeipglieaaGreatPkLate
set_option linter.all false
set_option maxRecDepth 100000
set_option maxHeartbeats 2000000
namespace Go.Proofs.YtijhlbeipglieaaGreat
open Go.RowKit aA Go.Proofs.Tryz List
theorem _root_.aA.aa.aB{a b X Y:List Nat}{w w1 w2:World}(h:aa a b w w1)(hX:∀x∈X,w.heap.size≤x)(k:aa X Y w1 w2):aa a b w w2:=
  ⟨k.os.trans h.os,k.tape.trans h.tape,k.output.trans h.output,Nat.le_trans h.size k.size,fun x hx hn=>(k.block x (Nat.lt_of_lt_of_le hx h.size) (fun hm=>by have:=hX x hm;omega)).trans (h.block x hx hn),h.fresh⟩
open Go.Maps
theorem Yv:(prog.info? 28).map (fun i=>(i.zero,i.size,i.bytes))=some (some (.slice none 0 0),1,24):=by kernel_rfl
structure pM(w:World)(A:Option Addr)(c:Nat)(l:List aM):Prop where
  own:Own 28 1 w A l.length c (l.map aM.val)
  each:∀x∈l,aT 5 w x.A x.n x.c x.b
theorem pM.upd{w w':World}{A:Option Addr}{c:Nat}{l:List aM}{b:List Nat}(h:pM w A c l)(hu:aa [] b w w'):pM w' A c l:=
  ⟨h.own.upd hu,fun x hx=>(h.each x hx).upd hu⟩
theorem pM.push{w w':World}{A A':Option Addr}{c c':Nat}{l:List aM}{x:aM}(h:pM w A c l)(hx:aT 5 w x.A x.n x.c x.b)(ho:Own 28 1 w' A' (l.length+1) c' (l.map aM.val++[x.val]))(hu:aa (ah A) (ah A') w w'):pM w' A' c' (l++[x]):=
  ⟨by simpa using ho,fun y hy=>by
    rcases mem_append.1 hy with hy|hy
    · exact(h.each y hy).upd hu ((h.each y hy).own.wW h.own (by decide))
    · obtain rfl:=mem_singleton.1 hy
      exact hx.upd hu (hx.own.wW h.own (by decide))⟩
theorem gI.Xt{w:World}{gl bl:Nat}{L:AL aM}{t:Nat}(h:gI w gl bl L t){x:Int}(hx:(Lit.int .i64 x).wf=true) :
    (Instr.lookup 220 (.map (some bl)) (.int .i64 x) false).run prog w=.ok (((aC x L).map aM.val).getD (.slice none 0 0)) w:=by
  have:=h.map.look underlying3 underlying220 (Fq w) hx
  rw[qj,fH]at this
  rw[this]
def sliceLen:Value→Nat
  |.slice _ n _=>n
  |_=>0
def sO(L:AL aM)(t n:Nat):List (List UInt8):=(range' t n).map fun(i:Nat)=>((aC (i:Int) L).map aM.b).getD []
theorem Pg(L:AL aM)(t n:Nat):sO L t (n+1)=sO L t n++[((aC ((t+n:Nat):Int) L).map aM.b).getD []]:=by
  unfold sO
  rw[range'_concat,map_append]
  simp
structure GN(p:Prop):Prop where
  out:p
theorem RX(w:World)(gl bl:Nat)(L:AL aM)(t:Nat)(h:gI w gl bl L t)(hr:∀p∈L,p.2.rd w∧∀k∈ah p.2.A,k≠gl)(f:Nat)(hf:fe L (4096-t) t=f)(hft:t≤f∧f≤4096) :
    Calls prog 99 #[.pointer (some ⟨gl,0,none⟩)] w fun e w'=>∃A c l,e=.returned (.slice A l.length c)∧l.map aM.b=sO L t (f-t)∧pM w' A c l∧
      (∀k∈ah A,w.heap.size≤k)∧(∀x∈l,∀k∈ah x.A,w.heap.size≤k)∧gI w' gl bl L f∧aa [gl] [gl] w w':=by
  have C0:=oo w gl bl L t h
  rw[hf]at C0
  go_enter func99,ntmps99
  repeat' go_step
  refine C0.mono ?_;rintro e w1 ⟨rfl,rfl⟩
  refine wk ?_
  clear C0
  go_loopw [3] (fun v3 wr=>GN (∃(A:Option Addr)(c:Nat)(l:List aM),l.length≤f-t∧v3=.slice A l.length c∧gI wr gl bl L (t+l.length)∧pM wr A c l∧l.map aM.b=sO L t l.length∧
      (∀k∈ah A,w.heap.size≤k)∧(∀x∈l,∀k∈ah x.A,w.heap.size≤k)∧aa [gl] [gl] w wr)) (fun v3 _=>f-t-sliceLen v3)
  case atStart=>exact GN.mk ⟨none,0,[],by simp,rfl,h,⟨Own.nil _ _ _,by simp⟩,rfl,by simp[ah],by simp,aa.refl _ _⟩
  case round=>
    obtain⟨A,c,l,hl,rfl,h',ho,hv,hA,hx,U⟩:=hrel.out
    clear hrel
    obtain⟨T,hT⟩:=ex1 (t+l.length)
    rw[hT]at h'
    have q0:∀N,(wr.drewN N).cell? ⟨gl,0,none⟩=some (.map (some bl)):=fun N=>(h'.blk.drewN N).cell 0
    have q1:∀N,(wr.drewN N).cell? ⟨gl,1,none⟩=some (.int .i64 (T:Int)):=fun N=>(h'.blk.drewN N).cell 1
    have q1':wr.cell? ⟨gl,1,none⟩=some (.int .i64 (T:Int)):=h'.blk.cell 1
    have aiF:=h.blk.lt
    by_cases hlt:l.length<f-t
    · have d1:decide ((T:Int)<(f:Int))=true:=dTo
      have hwf:(Lit.int .i64 (T:Int)).wf=true:=jV (by omega) (by omega)
      have hlk:=h'.Xt hwf
      have HV:=hdn (Pg L t l.length)
      rw[hT]at HV
      obtain⟨y,hy,hyl⟩:∃y:aM,((aC (T:Int) L).map aM.val).getD (.slice none 0 0)=y.val∧(((aC (T:Int) L).map aM.b).getD []=y.b∧aD wr y.A y.n y.b∧y.b.length≤2048):=by
        cases hq:aC (T:Int) L with
        |none=>exact⟨⟨none,0,0,[]⟩,rfl,rfl,aD.nil _ _,by simp⟩
        |some z=>
          have hm:=aY hq
          exact⟨z,rfl,rfl,aD.upd (hr _ hm).1 U (fun k hk=>by simpa using(hr _ hm).2 k hk),(h.keys _ hm).2.2⟩
      rw[hy]at hlk
      rw[hyl.1]at HV
      have CC:=dS wr.drew y.A y.n y.c y.b hyl.2.1 (by have:=hyl.2.2;omega)
      simp only[aM.val]at hlk
      have HY:=hdn hy
      clear hy
      have aiG:(Instr.lookup 220 (.map (some bl)) (.int .i64 (T:Int)) false).run prog wr.drew=.ok (.slice y.A y.n y.c) wr.drew:=by
        have h9:gI wr.drew gl bl L T:=h'.upd ((aa.refl [] wr).drew) (by simp) (by simp)
        have:=h9.Xt hwf
        rw[show((aC (T:Int) L).map aM.val).getD (.slice none 0 0)=.slice y.A y.n y.c from HY.out]at this
        exact this
      have Mt:=q0 1
      have EW:=q1 1
      have hlw:=h.blk.lt
      have hlb:=h.map.lt
      have hne:gl≠bl:=h.ne
      go_upto_block 1 with fail
      go_cut [3]from 9 to 34 (fun s3 wc=>∃(A5:Option Addr)(c5:Nat)(x:aM),s3=.slice A5 (l.length+1) c5∧x.b=y.b∧pM wc A5 c5 (l++[x])∧(∀k∈ah A5,w.heap.size≤k)∧(∀k∈ah x.A,w.heap.size≤k)∧aa [gl] [gl] w wc∧gI wc gl bl L T)
      case first=>
        go_wp2_with fail
        go_region_held_law (fun w'=>w'.cell? ⟨gl,0,none⟩=some (.map (some bl))∧w'.cell? ⟨gl,1,none⟩=some (.int .i64 (T:Int))) (first|exact⟨Mt,EW⟩|exact⟨q0 0,q1 0⟩|exact⟨k0,k1⟩|exact⟨m0,m1⟩|exact⟨n0,n1⟩) (first
        |(
           go_at_call 58;(with_reducible refine CC.mono ?_);rintro e w4 ⟨A4,n4,c4,rfl,bY,bM⟩
           have k0:=bM.cell Mt (by simp)
           have k1:=bM.cell EW (by simp)
           have m0:=((aa.refl [] w4).alloc (.cells #[.slice A4 n4 c4] 28)).cell k0 (by simp)
           have m1:=((aa.refl [] w4).alloc (.cells #[.slice A4 n4 c4] 28)).cell k1 (by simp)
           obtain⟨A5,c5,w5,acd,dB,bD⟩:=oQ (P:=prog) (w4.alloc (.cells #[.slice A4 n4 c4] 28)) 72 72 28 underlying72 Yv rfl (by decide) A l.length c _ ((ho.own.upd (aa.refl [] wr).drew (by simp)).upd bM (by simp) |>.alloc _) (some ⟨w4.heap.size,0,none⟩) 1 1 [.slice A4 n4 c4] (Rd.blk (ak.new _ _ _) rfl) (by intro u hu;simp only[mem_singleton]at hu;subst hu;rfl) (by unfold maxLen;omega) (by omega)
           have n0:=bD.cell m0 (by intro hk;have h77:w.heap.size≤gl:=hA gl hk;omega)
           have WA:(Builtin.append_ #[72,72] 72 #[.slice A l.length c,.slice (some ⟨w4.heap.size,0,none⟩) 1 1]).run prog (w4.alloc (.cells #[.slice A4 n4 c4] 28))=.ok (.slice A5 (l.length+1) c5) w5:=acd
           have n1:=bD.cell m1 (by intro hk;have h77:w.heap.size≤gl:=hA gl hk;omega))
        |(refine qo rfl (.tmp 22) (.tmp 33) 72 rfl (.slice A l.length c) (.slice (some ⟨w4.heap.size,0,none⟩) 1 1) _ w5 rfl rfl WA ?_))
        all_goals (refine bN ?_)
        all_goals go_meet
        all_goals
          have afs:=(aa.refl [] wr).new ((aa.refl [] wr).drew.trans bM)
          have UA:aa [] [] wr (w4.alloc (.cells #[.slice A4 n4 c4] 28)):=(((aa.refl [] wr).drew.trans bM).alloc _).gives
          have hoa:=ho.upd UA
          have hs1:=U.size
          have hs2:=UA.size
          exact⟨A5,c5,⟨A4,n4,c4,y.b⟩,rfl,rfl,hoa.push (x:=⟨A4,n4,c4,y.b⟩) (bY.alloc _) dB bD,fun k hk=>(bD.fresh k hk).elim (hA k) (fun hh=>by omega),fun k hk=>(by have:=afs k hk;omega),
            (U.trans (UA.up _)).aB hA bD,(h'.upd UA).upd bD (fun hk=>by have:=hA _ hk;omega) (fun hk=>by have:=hA _ hk;omega)⟩
      case rest=>
        obtain⟨A5,c5,x,rfl,hxb,dB,xX,hxA,U5,h5⟩:=hcut
        have q1w:wc.cell? ⟨gl,1,none⟩=some (.int .i64 (T:Int)):=h5.blk.cell 1
        have f1w:wc.frozen? ⟨gl,1,none⟩=false:=h5.blk.frozen 1
        have hw1:=aA.wr ((T:Int)+1)
        have oP:t+(l++[x]).length=T+1:=by simp;omega
        have u6:aa [gl] [gl] wc (wc.setCell ⟨gl,1,none⟩ (.int .i64 ((T:Int)+1))):=(aa.refl [gl] wc).setCell (p:=⟨gl,1,none⟩) (.inl (by simp)) _
        have KEY:=hdn (show GN (∃(A:Option Addr)(c:Nat)(l2:List aM),l2.length≤f-t∧Value.slice A5 (l.length+1) c5=.slice A l2.length c∧gI (wc.setCell ⟨gl,1,none⟩ (.int .i64 ((T:Int)+1))) gl bl L (t+l2.length)∧pM (wc.setCell ⟨gl,1,none⟩ (.int .i64 ((T:Int)+1))) A c l2∧l2.map aM.b=sO L t l2.length∧
          (∀k∈ah A,w.heap.size≤k)∧(∀x∈l2,∀k∈ah x.A,w.heap.size≤k)∧aa [gl] [gl] w (wc.setCell ⟨gl,1,none⟩ (.int .i64 ((T:Int)+1))))from GN.mk ⟨A5,c5,l++[x],by simp;omega,by simp,
            (by rw[oP];exact⟨by simpa using h5.blk.aO 1 (.int .i64 ((T:Int)+1)),h5.map.upd u6 (by simp only[mem_singleton];exact fun e=>hne (e.symm)),h5.keys,h5.ne,by omega⟩),
            ⟨dB.own.upd u6 (fun k hk=>by simp only[mem_singleton];rintro rfl;have:=xX _ hk;omega),fun z hz=>(dB.each z hz).upd u6 (fun k hk=>by
              simp only[mem_singleton]
              rintro rfl
              exact(dB.each z hz).own.ne h5.blk (by decide) hk)⟩,
            by rw[map_append,hv,length_append,length_singleton,HV.out,map_cons,map_nil,hxb],xX,fun z hz=>by
              rcases mem_append.1 hz with hz|hz
              · exact hx z hz
              · rw[mem_singleton]at hz;subst hz;exact hxA,
            U5.trans u6⟩)
        clear u6 h5 dB U5 xX hxA
        refine wk ?_
        exact⟨KEY.out,by simp only[sliceLen];omega⟩
    · have d1:decide ((T:Int)<(f:Int))=false:=dFo
      have hle:l.length=f-t:=by omega
      have yz:T=f:=by omega
      have KEY:=hdn (show l.map aM.b=sO L t (f-t)∧pM wr A c l∧(∀k∈ah A,w.heap.size≤k)∧(∀x∈l,∀k∈ah x.A,w.heap.size≤k)∧gI wr gl bl L f∧aa [gl] [gl] w wr from⟨by rw[hv,hle],ho,hA,hx,by rw[←yz];exact h',U⟩)
      clear hle yz h' ho hA hx U hv
      repeat' go_step
      go_ret
      exact⟨A,c,l,rfl,KEY.out⟩
theorem af.VK(M:af):M.pl.takes.2=sO M.lv M.taken (M.pl.front-M.taken):=by
  unfold Site.takes sO
  refine map_congr_left fun i hi=>?_
  show(Site.dec M.pl (i:Int)).getD []=_
  rw[af.qX]
theorem Gm{α:Type}(L:AL α):∀(k s:Nat),s≤fe L k s
  |0,s=>Nat.le_refl _
  |k+1,s=>by
    unfold fe
    split
    · have:=Gm L k (s+1);omega
    · exact Nat.le_refl _
theorem Gn{α:Type}(L:AL α):∀(k s:Nat),fe L k s≤s+k
  |0,s=>Nat.le_refl _
  |k+1,s=>by
    unfold fe
    split
    · have:=Gn L k (s+1);omega
    · omega
variable [eU]
def Xu(w w':World)(M:af)(s:Site):Prop:=∃M',ay w' M'∧M'.pl=s∧M'.gs=M.gs∧M'.fp=M.fp∧M'.Ad=M.Ad∧M'.lv=M.lv∧aa M.fp M'.fp w w'
theorem Sr(w:World)(M:af)(h:ay w M) :
    Calls prog 35 #[M.ptr] w fun e w'=>∃A c l,e=.returned (.slice A l.length c)∧l.map aM.b=M.pl.takes.2∧pM w' A c l∧
      (∀k∈ah A,w.heap.size≤k)∧(∀x∈l,∀k∈ah x.A,w.heap.size≤k)∧Xu w w' M M.pl.takes.1:=by
  have ht:=h.jm.t
  have hf:=af.xx M
  have hge:M.taken≤M.pl.front:=by rw[hf];exact Gm _ _ _
  have hle:M.pl.front≤4096:=by rw[hf];have:=Gn M.lv (4096-M.taken) M.taken;omega
  have C:=RX w M.gl M.bl M.lv M.taken h.jm (fun p hp=>⟨h.yJ p hp,fun k hk=>?_⟩) M.pl.front hf.symm ⟨hge,hle⟩
  · rw[←af.VK]at C
    have FIN:=hdn (show ∀(wx:World),gI wx M.gl M.bl M.lv M.pl.front→aa [M.gl] [M.gl] w wx→Xu w wx M M.pl.takes.1 from fun wx hl hu=>by
      have hb:∀p∈M.lv,dF wx p.2∧∀k∈ah p.2.A,k∉M.iV:=fun p hp=>by
        have hm:p.2∈M.bytes:=by simp only[af.bytes,mem_append];exact .inr (.inl (mem_map_of_mem hp))
        exact⟨(h.gB _ hm).upd hu (fun k hk=>by simp only[mem_singleton];exact aU ((h.gB _ hm).tag k hk) h.tl (by decide)),h.bad _ hm⟩
      obtain⟨h1,h2⟩:=h.ajQ hu (by simp) hl hb ⟨h.ok.me,h.ok.n3,h.ok.n7,h.ok.pat,h.ok.st,h.ok.rs,h.ok.top,h.ok.nx,h.ok.held⟩
      exact⟨_,h1,rfl,rfl,rfl,rfl,rfl,h2⟩)
    have q7:w.cell? ⟨M.gs,7,none⟩=some (.pointer (some ⟨M.gl,0,none⟩)):=h.blk.cell 7
    rw[af.ptr]
    clear h hf hge hle ht
    go_enter func35,ntmps35
    repeat' go_step
    refine C.mono ?_;rintro e w1 ⟨A,c,l,rfl,h1,h2,h3,h4,h5,h6⟩
    refine wk ?_
    go_ret
    exact⟨A,c,l,rfl,h1,h2,h3,h4,FIN.out _ h5 h6⟩
  · have hm:p.2∈M.bytes:=by simp only[af.bytes,mem_append];exact .inr (.inl (mem_map_of_mem hp))
    exact aU ((h.gB _ hm).tag k hk) h.tl (by decide)
