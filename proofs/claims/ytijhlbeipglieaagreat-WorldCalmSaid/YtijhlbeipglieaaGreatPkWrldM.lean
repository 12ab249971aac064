/- For WorldCalm. -/
import Derived.Deep.CutBlock
import Derived.Test.YtijhlbeipglieaaGreatPkNetX
import Derived.Test.YtijhlbeipglieaaGreatPkWorld
set_option linter.all false
set_option maxRecDepth 100000
set_option maxHeartbeats 2000000
namespace Go.Proofs.YtijhlbeipglieaaGreat
open Go.RowKit aL Go.Proofs.Tryz List
theorem _root_.aL.ab.mG{a b X Y:List Nat}{w w1 w2:World}(h:ab a b w w1)(hX:∀x∈X,w.heap.size≤x)(k:ab X Y w1 w2):ab a b w w2:=
  ⟨k.os.trans h.os,k.tape.trans h.tape,k.output.trans h.output,Nat.le_trans h.size k.size,fun x hx hn=>(k.block x (Nat.lt_of_lt_of_le hx h.size) (fun hm=>by have:=hX x hm;omega)).trans (h.block x hx hn),h.fresh⟩
open Go.Maps
theorem Bc:(prog.info? 28).map (fun i=>(i.zero,i.size,i.bytes))=some (some (.slice none 0 0),1,24):=by kernel_rfl
structure jm(w:World)(A:Option Addr)(c:Nat)(l:List bO):Prop where
  own:aL.Own 28 1 w A l.length c (l.map bO.val)
  each:∀x∈l,bW 5 w x.A x.n x.c x.b
theorem jm.aq{w w':World}{A:Option Addr}{c:Nat}{l:List bO}{b:List Nat}(h:jm w A c l)(hu:ab [] b w w'):jm w' A c l:=
  ⟨h.own.aq hu (by simp),fun x hx=>(h.each x hx).aq hu (by simp)⟩
theorem jm.push{w w':World}{A A':Option Addr}{c c':Nat}{l:List bO}{x:bO}(h:jm w A c l)(hx:bW 5 w x.A x.n x.c x.b)(ho:aL.Own 28 1 w' A' (l.length+1) c' (l.map bO.val++[x.val]))(hu:ab (ak A) (ak A') w w'):jm w' A' c' (l++[x]):=
  ⟨by simpa using ho,fun y hy=>by
    rcases mem_append.1 hy with hy|hy
    · exact(h.each y hy).aq hu ((h.each y hy).own.AA h.own (by decide))
    · obtain rfl:=mem_singleton.1 hy
      exact hx.aq hu (hx.own.AA h.own (by decide))⟩
theorem gy.Tm{w:World}{gl bl:Nat}{L:AL bO}{t:Nat}(h:gy w gl bl L t){x:Int}(hx:(Lit.int .i64 x).wf=true) :
    (Instr.lookup 220 (.map (some bl)) (.int .i64 x) false).run prog w=.ok (((aD x L).map bO.val).getD (.slice none 0 0)) w:=by
  have:=h.map.look underlying3 underlying220 (Cb w) hx
  rw[lK,eB]at this
  rw[this]
def Gx:Value→Nat
  |.slice _ n _=>n
  |_=>0
def qf(L:AL bO)(t n:Nat):List (List UInt8):=(range' t n).map fun(i:Nat)=>((aD (i:Int) L).map bO.b).getD []
theorem Lr(L:AL bO)(t n:Nat):qf L t (n+1)=qf L t n++[((aD ((t+n:Nat):Int) L).map bO.b).getD []]:=by
  unfold qf
  rw[range'_concat,map_append]
  simp
structure DA(p:Prop):Prop where
  out:p
theorem OO(w:World)(gl bl:Nat)(L:AL bO)(t:Nat)(h:gy w gl bl L t)(hr:∀p∈L,p.2.rd w∧∀k∈ak p.2.A,k≠gl)(f:Nat)(hf:cN L (4096-t) t=f)(qE:t≤f∧f≤4096) :
    Calls prog 99 #[.pointer (some ⟨gl,0,none⟩)] w fun e w'=>∃A c l,e=.returned (.slice A l.length c)∧l.map bO.b=qf L t (f-t)∧jm w' A c l∧
      (∀k∈ak A,w.heap.size≤k)∧(∀x∈l,∀k∈ak x.A,w.heap.size≤k)∧gy w' gl bl L f∧ab [gl] [gl] w w':=by
  have C0:=my w gl bl L t h
  rw[hf]at C0
  go_enter func99,ntmps99
  repeat' first|go_values|go_skip|go_guarded|go_step|go_upon|simp only[];go_at_K
  refine C0.mono ?_;rintro e w1 ⟨rfl,rfl⟩
  repeat' first|go_values|go_skip|go_guarded|go_step|go_upon|simp only[];go_at_K
  clear C0
  go_loopw [3] (fun v3 wr=>DA (∃(A:Option Addr)(c:Nat)(l:List bO),l.length≤f-t∧v3=.slice A l.length c∧gy wr gl bl L (t+l.length)∧jm wr A c l∧l.map bO.b=qf L t l.length∧
      (∀k∈ak A,w.heap.size≤k)∧(∀x∈l,∀k∈ak x.A,w.heap.size≤k)∧ab [gl] [gl] w wr)) (fun v3 _=>f-t-Gx v3)
  case atStart=>exact DA.mk ⟨none,0,[],by simp,rfl,h,⟨Own.nil _ _ _,by simp⟩,rfl,by simp[ak],by simp,ab.refl _ _⟩
  case round=>
    obtain⟨A,c,l,hl,rfl,h',ho,hv,hA,hx,U⟩:=hrel.out
    clear hrel
    obtain⟨T,hT⟩:=bk (t+l.length)
    rw[hT]at h'
    have q0:∀N,(wr.drewN N).cell? ⟨gl,0,none⟩=some (.map (some bl)):=fun N=>(h'.aO.drewN N).cell 0
    have q1:∀N,(wr.drewN N).cell? ⟨gl,1,none⟩=some (.int .i64 (T:Int)):=fun N=>(h'.aO.drewN N).cell 1
    have q1':wr.cell? ⟨gl,1,none⟩=some (.int .i64 (T:Int)):=h'.aO.cell 1
    have ahV:=h.aO.lt
    by_cases hlt:l.length<f-t
    · have d1:decide ((T:Int)<(f:Int))=true:=oT
      have eO:(Lit.int .i64 (T:Int)).wf=true:=kt (by omega) (by omega)
      have hlk:=h'.Tm eO
      have HV:=aA (Lr L t l.length)
      rw[hT]at HV
      obtain⟨y,hy,qM⟩:∃y:bO,((aD (T:Int) L).map bO.val).getD (.slice none 0 0)=y.val∧(((aD (T:Int) L).map bO.b).getD []=y.b∧bE wr y.A y.n y.b∧y.b.length≤2048):=by
        cases hq:aD (T:Int) L with
        |none=>exact⟨⟨none,0,0,[]⟩,rfl,rfl,bE.nil _ _,by simp⟩
        |some z=>
          have hm:=bG hq
          exact⟨z,rfl,rfl,bE.aq (hr _ hm).1 U (fun k hk=>by simpa using(hr _ hm).2 k hk),(h.keys _ hm).2.2⟩
      rw[hy]at hlk
      rw[qM.1]at HV
      have CC:=di wr.drew y.A y.n y.c y.b qM.2.1 (by have:=qM.2.2;omega)
      simp only[bO.val]at hlk
      have HY:=aA hy
      clear hy
      have ahW:(Instr.lookup 220 (.map (some bl)) (.int .i64 (T:Int)) false).run prog wr.drew=.ok (.slice y.A y.n y.c) wr.drew:=by
        have h9:gy wr.drew gl bl L T:=h'.aq ((ab.refl [] wr).drew) (by simp) (by simp)
        have:=h9.Tm eO
        rw[show((aD (T:Int) L).map bO.val).getD (.slice none 0 0)=.slice y.A y.n y.c from HY.out]at this
        exact this
      have IQ:=q0 1
      have BW:=q1 1
      have hlw:=h.aO.lt
      have pK:=h.map.lt
      have hne:gl≠bl:=h.ne
      go_upto_block 1 with fail
      go_cut [3]from 9 to 34 (fun s3 wc=>∃(A5:Option Addr)(c5:Nat)(x:bO),s3=.slice A5 (l.length+1) c5∧x.b=y.b∧jm wc A5 c5 (l++[x])∧(∀k∈ak A5,w.heap.size≤k)∧(∀k∈ak x.A,w.heap.size≤k)∧ab [gl] [gl] w wc∧gy wc gl bl L T)
      case first=>
        go_wp2_with fail
        go_region_held_law (fun w'=>w'.cell? ⟨gl,0,none⟩=some (.map (some bl))∧w'.cell? ⟨gl,1,none⟩=some (.int .i64 (T:Int))) (first|exact⟨IQ,BW⟩|exact⟨q0 0,q1 0⟩|exact⟨k0,k1⟩|exact⟨m0,m1⟩|exact⟨n0,n1⟩) (first
        |(
           go_at_call 58;(with_reducible refine CC.mono ?_);rintro e w4 ⟨A4,n4,c4,rfl,dW,de⟩
           have k0:=de.cell IQ (by simp)
           have k1:=de.cell BW (by simp)
           have m0:=((ab.refl [] w4).alloc (.cells #[.slice A4 n4 c4] 28)).cell k0 (by simp)
           have m1:=((ab.refl [] w4).alloc (.cells #[.slice A4 n4 c4] 28)).cell k1 (by simp)
           obtain⟨A5,c5,w5,Dz,fI,cF⟩:=lL (P:=prog) (w4.alloc (.cells #[.slice A4 n4 c4] 28)) 72 72 28 underlying72 Bc rfl (by decide) A l.length c _ ((ho.own.aq (ab.refl [] wr).drew (by simp)).aq de (by simp) |>.alloc _) (some ⟨w4.heap.size,0,none⟩) 1 1 [.slice A4 n4 c4] (Rd.aO (aQ.new _ _ _) rfl) (by intro u hu;simp only[mem_singleton]at hu;subst hu;rfl) (by unfold maxLen;omega) (by omega)
           have n0:=cF.cell m0 (by intro hk;have h77:w.heap.size≤gl:=hA gl hk;omega)
           have wO:(Builtin.append_ #[72,72] 72 #[.slice A l.length c,.slice (some ⟨w4.heap.size,0,none⟩) 1 1]).run prog (w4.alloc (.cells #[.slice A4 n4 c4] 28))=.ok (.slice A5 (l.length+1) c5) w5:=Dz
           have n1:=cF.cell m1 (by intro hk;have h77:w.heap.size≤gl:=hA gl hk;omega))
        |(refine jz rfl (.tmp 22) (.tmp 33) 72 rfl (.slice A l.length c) (.slice (some ⟨w4.heap.size,0,none⟩) 1 1) _ w5 rfl rfl wO ?_))
        all_goals (repeat' ((fail_if_success with_reducible refine ba rfl ?_);first|go_values|go_skip|go_guarded|go_step|go_upon|simp only[];go_at_K))
        all_goals go_meet
        all_goals
          have aem:=(ab.refl [] wr).new ((ab.refl [] wr).drew.trans de)
          have UA:ab [] [] wr (w4.alloc (.cells #[.slice A4 n4 c4] 28)):=(((ab.refl [] wr).drew.trans de).alloc _).gives (by simp)
          have hoa:=ho.aq UA
          have hs1:=U.size
          have hs2:=UA.size
          exact⟨A5,c5,⟨A4,n4,c4,y.b⟩,rfl,rfl,hoa.push (x:=⟨A4,n4,c4,y.b⟩) (dW.alloc _) fI cF,fun k hk=>(cF.fresh k hk).elim (hA k) (fun hh=>by omega),fun k hk=>(by have:=aem k hk;omega),
            (U.trans (UA.up _)).mG hA cF,(h'.aq UA (by simp) (by simp)).aq cF (fun hk=>by have:=hA _ hk;omega) (fun hk=>by have:=hA _ hk;omega)⟩
      case rest=>
        obtain⟨A5,c5,x,rfl,S5,fI,Oe,hxA,U5,h5⟩:=hcut
        have q1w:wc.cell? ⟨gl,1,none⟩=some (.int .i64 (T:Int)):=h5.aO.cell 1
        have f1w:wc.frozen? ⟨gl,1,none⟩=false:=h5.aO.frozen 1
        have dC:=aL.wr ((T:Int)+1)
        have LY:t+(l++[x]).length=T+1:=by simp;omega
        have u6:ab [gl] [gl] wc (wc.setCell ⟨gl,1,none⟩ (.int .i64 ((T:Int)+1))):=(ab.refl [gl] wc).setCell (p:=⟨gl,1,none⟩) (.inl (by simp)) _
        have bN:=aA (show DA (∃(A:Option Addr)(c:Nat)(l2:List bO),l2.length≤f-t∧Value.slice A5 (l.length+1) c5=.slice A l2.length c∧gy (wc.setCell ⟨gl,1,none⟩ (.int .i64 ((T:Int)+1))) gl bl L (t+l2.length)∧jm (wc.setCell ⟨gl,1,none⟩ (.int .i64 ((T:Int)+1))) A c l2∧l2.map bO.b=qf L t l2.length∧
          (∀k∈ak A,w.heap.size≤k)∧(∀x∈l2,∀k∈ak x.A,w.heap.size≤k)∧ab [gl] [gl] w (wc.setCell ⟨gl,1,none⟩ (.int .i64 ((T:Int)+1))))from DA.mk ⟨A5,c5,l++[x],by simp;omega,by simp,
            (by rw[LY];exact⟨by simpa using h5.aO.cc 1 (.int .i64 ((T:Int)+1)),h5.map.aq u6 (by simp only[mem_singleton];exact fun e=>hne (e.symm)),h5.keys,h5.ne,by omega⟩),
            ⟨fI.own.aq u6 (fun k hk=>by simp only[mem_singleton];rintro rfl;have:=Oe _ hk;omega),fun z hz=>(fI.each z hz).aq u6 (fun k hk=>by
              simp only[mem_singleton]
              rintro rfl
              exact(fI.each z hz).own.ne h5.aO (by decide) hk)⟩,
            by rw[map_append,hv,length_append,length_singleton,HV.out,map_cons,map_nil,S5],Oe,fun z hz=>by
              rcases mem_append.1 hz with hz|hz
              · exact hx z hz
              · rw[mem_singleton]at hz;subst hz;exact hxA,
            U5.trans u6⟩)
        clear u6 h5 fI U5 Oe hxA
        repeat' first|go_values|go_skip|go_guarded|go_step|go_upon|simp only[];go_at_K
        exact⟨bN.out,by simp only[Gx];omega⟩
    · have d1:decide ((T:Int)<(f:Int))=false:=iO
      have hle:l.length=f-t:=by omega
      have hTf:T=f:=by omega
      have bN:=aA (show l.map bO.b=qf L t (f-t)∧jm wr A c l∧(∀k∈ak A,w.heap.size≤k)∧(∀x∈l,∀k∈ak x.A,w.heap.size≤k)∧gy wr gl bl L f∧ab [gl] [gl] w wr from⟨by rw[hv,hle],ho,hA,hx,by rw[←hTf];exact h',U⟩)
      clear hle hTf h' ho hA hx U hv
      repeat' first|go_values|go_skip|go_guarded|go_step|go_upon|simp only[];go_at_K
      go_ret
      exact⟨A,c,l,rfl,bN.out⟩
theorem ae.Rg(M:ae):M.pl.ey.2=qf M.lv M.taken (M.pl.front-M.taken):=by
  unfold Site.ey qf
  refine map_congr_left fun i hi=>?_
  show(Site.dec M.pl (i:Int)).getD []=_
  rw[ae.pq]
theorem CJ{α:Type}(L:AL α):∀(k s:Nat),s≤cN L k s
  |0,s=>Nat.le_refl _
  |k+1,s=>by
    unfold cN
    split
    · have:=CJ L k (s+1);omega
    · exact Nat.le_refl _
theorem wC{α:Type}(L:AL α):∀(k s:Nat),cN L k s≤s+k
  |0,s=>Nat.le_refl _
  |k+1,s=>by
    unfold cN
    split
    · have:=wC L k (s+1);omega
    · omega
section
variable [eA]
def Lj(w w':World)(M:ae)(s:Site):Prop:=∃M',aJ w' M'∧M'.pl=s∧M'.gs=M.gs∧M'.fp=M.fp∧M'.Ad=M.Ad∧M'.lv=M.lv∧ab M.fp M'.fp w w'
theorem Q8(w:World)(M:ae)(h:aJ w M) :
    Calls prog 35 #[M.ptr] w fun e w'=>∃A c l,e=.returned (.slice A l.length c)∧l.map bO.b=M.pl.ey.2∧jm w' A c l∧
      (∀k∈ak A,w.heap.size≤k)∧(∀x∈l,∀k∈ak x.A,w.heap.size≤k)∧Lj w w' M M.pl.ey.1:=by
  have ht:=h.iH.t
  have hf:=ae.qR M
  have oV:M.taken≤M.pl.front:=by rw[hf];exact CJ _ _ _
  have hle:M.pl.front≤4096:=by rw[hf];have:=wC M.lv (4096-M.taken) M.taken;omega
  have C:=OO w M.gl M.bl M.lv M.taken h.iH (fun p hp=>⟨h.yw p hp,fun k hk=>?_⟩) M.pl.front hf.symm ⟨oV,hle⟩
  · rw[←ae.Rg]at C
    have kD:=aA (show ∀(wx:World),gy wx M.gl M.bl M.lv M.pl.front→ab [M.gl] [M.gl] w wx→Lj w wx M M.pl.ey.1 from fun wx hl hu=>by
      have hb:∀p∈M.lv,dj wx p.2∧∀k∈ak p.2.A,k∉M.iz:=fun p hp=>by
        have hm:p.2∈M.bytes:=by simp only[ae.bytes,mem_append];exact .inr (.inl (mem_map_of_mem hp))
        exact⟨(h.fu _ hm).aq hu (fun k hk=>by simp only[mem_singleton];exact bx ((h.fu _ hm).tag k hk) h.tl (by decide)),h.bad _ hm⟩
      obtain⟨h1,h2⟩:=h.N8 hu (by simp) hl hb ⟨h.ok.me,h.ok.n3,h.ok.n7,h.ok.pat,h.ok.st,h.ok.rs,h.ok.top,h.ok.nx,h.ok.held⟩
      exact⟨_,h1,rfl,rfl,rfl,rfl,rfl,h2⟩)
    have q7:w.cell? ⟨M.gs,7,none⟩=some (.pointer (some ⟨M.gl,0,none⟩)):=h.aO.cell 7
    rw[ae.ptr]
    clear h hf oV hle ht
    go_enter func35,ntmps35
    repeat' first|go_values|go_skip|go_guarded|go_step|go_upon|simp only[];go_at_K
    refine C.mono ?_;rintro e w1 ⟨A,c,l,rfl,h1,h2,h3,h4,h5,h6⟩
    repeat' first|go_values|go_skip|go_guarded|go_step|go_upon|simp only[];go_at_K
    go_ret
    exact⟨A,c,l,rfl,h1,h2,h3,h4,kD.out _ h5 h6⟩
  · have hm:p.2∈M.bytes:=by simp only[ae.bytes,mem_append];exact .inr (.inl (mem_map_of_mem hp))
    exact bx ((h.fu _ hm).tag k hk) h.tl (by decide)
end
structure mr where
  A:Option Addr
  c:Nat
  l:List bO
def mr.val(d:mr):Value:=.slice d.A d.l.length d.c
structure WV where
  gw:Nat
  As:Option Addr
  cs:Nat
  ss:List ae
  gn:Nat
  An:Option Addr
  nn:Nat
  cn:Nat
  pk:List Pk
  aI:List Ms
  Ad:Option Addr
  cd:Nat
  dn:List mr
namespace WV
variable (V:WV)
def ptr:Value:=.pointer (some ⟨V.gw,0,none⟩)
def cells:List Value:=[.slice V.As V.ss.length V.cs,.pointer (some ⟨V.gn,0,none⟩),.slice V.Ad V.dn.length V.cd]
def pl:Wd:=⟨V.ss.map ae.pl,V.aI,V.dn.map fun d=>d.l.map bO.b⟩
def Lk:List Nat:=V.ss.flatMap fun M=>ak M.Ad
def xZ:List Nat:=V.pk.flatMap fun x=>ak x.A
def fE:List Nat:=V.Lk++V.xZ
def bytes:List bO:=V.ss.flatMap ae.bytes++V.dn.flatMap mr.l
def fp:List Nat:=ak V.Ad++(er V.gn V.An V.pk++(V.ss.flatMap ae.fp++V.dn.flatMap fun d=>ak d.A))
end WV
structure WS(w:World)(V:WV):Prop where
  aO:aQ w V.gw 175 V.cells.toArray
  row:aL.Own 24 1 w V.As V.ss.length V.cs (V.ss.map ae.ptr)
  aI:fz w V.gn V.An V.nn V.cn V.pk
  eq:V.pk.map (fun x=>(x.to,x.b))=V.aI.map fun m=>(m.to,m.bytes)
  may:∀m∈V.aI,m.bL
  iA:aL.Own 72 1 w V.Ad V.dn.length V.cd (V.dn.map mr.val)
  sd:V.dn.length=V.ss.length
  sites:∀M∈V.ss,@aJ ⟨[]⟩ w M
  fB:V.ss.Pairwise fun p q=>∀k∈p.fp,k∉q.fp
  jV:∀d∈V.dn,aL.Own 28 1 w d.A d.l.length d.c (d.l.map bO.val)
  Gy:V.dn.Pairwise fun p q=>∀k∈ak p.A,k∉ak q.A
  fu:∀x∈V.bytes,dj w x
  ux:∀x∈V.bytes,∀k∈ak x.A,k∉V.fE
  apart:∀k∈V.xZ,k∉V.Lk
def oK:List (Option TypeId):=[some 124,some 197,none,some 222,some 214,some 5,some 32,some 132,some 340,some 343]
theorem aJ.Tn{X Y:List Nat}{w:World}{M:ae}(h: @aJ ⟨X⟩ w M)(hl:∀k∈Y,k<w.heap.size)(hb:∀x∈M.bytes,∀k∈ak x.A,k∉Y): @aJ ⟨Y⟩ w M:=by
  obtain⟨h1,h2,h3,h4,h5,h6,h7,h8,h9,gY,mK,ny,Md,-⟩:=h
  exact @aJ.mk ⟨Y⟩ w M h1 h2 h3 h4 h5 h6 h7 h8 h9 (fun x hx k hk hm=>by
    rcases mem_append.1 hm with hm|hm
    · exact gY x hx k hk (mem_append.2 (.inl hm))
    · exact hb x hx k hk hm) mK ny Md hl
theorem aJ.Am[eA]{w:World}{M:ae}(h:aJ w M):∀k∈M.fp,∃t∈oK,cl w k=some t:=by
  intro k hk
  simp only[ae.fp,bS.fp,mem_append,mem_cons,not_mem_nil,or_false,mem_flatMap]at hk
  rcases hk with(rfl|rfl|rfl|rfl|rfl|rfl|rfl)|hk|hk|⟨p,hp,rfl|hk|hk⟩
  · exact⟨_,by decide,h.tg⟩
  · exact⟨_,by decide,h.td⟩
  · exact⟨_,by decide,h.ts⟩
  · exact⟨_,by decide,h.tl⟩
  · exact⟨_,by decide,h.tb⟩
  · exact⟨_,by decide,h.tr⟩
  · exact⟨_,by decide,h.tw⟩
  · exact⟨_,by decide,h.tA k hk⟩
  · exact⟨_,by decide,h.tH k hk⟩
  · exact⟨_,by decide,(h.cI p hp).tg⟩
  · exact⟨_,by decide,(h.cI p hp).tP k hk⟩
  · exact⟨_,by decide,(h.cI p hp).tV k hk⟩
theorem aJ.off[eA]{w:World}{M:ae}(h:aJ w M){k:Nat}{t:Option TypeId}(hk:cl w k=some t)(ht:t∉oK):k∉M.fp:=fun hm=>by
  obtain⟨t',h1,h2⟩:=h.Am k hm
  rw[hk]at h2
  injection h2 with h2
  subst h2
  exact ht h1
theorem aJ.u8[eA]{w:World}{M:ae}(h:aJ w M){k:Nat}(hk:cl w k=some (some 5))(hm:k∈M.fp):k∈ak M.Ad:=by
  simp only[ae.fp,bS.fp,mem_append,mem_cons,not_mem_nil,or_false,mem_flatMap]at hm
  rcases hm with(rfl|rfl|rfl|rfl|rfl|rfl|rfl)|hm|hm|⟨p,hp,rfl|hm|hm⟩
  · exact absurd rfl (bx hk h.tg (by decide))
  · exact absurd rfl (bx hk h.td (by decide))
  · exact absurd rfl (bx hk h.ts (by decide))
  · exact absurd rfl (bx hk h.tl (by decide))
  · exact absurd rfl (bx hk h.tb (by decide))
  · exact absurd rfl (bx hk h.tr (by decide))
  · exact absurd rfl (bx hk h.tw (by decide))
  · exact hm
  · exact absurd rfl (bx hk (h.tH k hm) (by decide))
  · exact absurd rfl (bx hk (h.cI p hp).tg (by decide))
  · exact absurd rfl (bx hk ((h.cI p hp).tP k hm) (by decide))
  · exact absurd rfl (bx hk ((h.cI p hp).tV k hm) (by decide))
section
variable {w w':World} {V:WV}
theorem WV.Ap{M:ae}(hM:M∈V.ss){k:Nat}(hk:k∈ak M.Ad):k∈V.fE:=mem_append.2 (.inl (mem_flatMap.2 ⟨M,hM,hk⟩))
theorem WV.Ls{k:Nat}(hk:k∈V.xZ):k∈V.fE:=mem_append.2 (.inr hk)
theorem ae.Lt{M:ae}{k:Nat}(hk:k∈ak M.Ad):k∈M.fp:=by simp only[ae.fp,mem_append];exact .inr (.inl hk)
theorem WS.OP(h:WS w V):∀k∈V.xZ,cl w k=some (some 5):=fun k hk=>by
  obtain⟨x,hx,hk⟩:=mem_flatMap.1 hk
  exact(h.aI.each x hx).own.tag k hk
theorem WS.Tc(h:WS w V):∀k∈V.fE,k<w.heap.size:=fun k hk=>by
  rcases mem_append.1 hk with hk|hk
  · obtain⟨M,hM,hk⟩:=mem_flatMap.1 hk
    exact fJ (@aJ.tA ⟨[]⟩ _ _ (h.sites M hM) k hk)
  · exact fJ (h.OP k hk)
theorem WV.Jp{M:ae}(hM:M∈V.ss){x:bO}(hx:x∈M.bytes):x∈V.bytes:=mem_append.2 (.inl (mem_flatMap.2 ⟨M,hM,hx⟩))
theorem WV.OE{d:mr}(hd:d∈V.dn){x:bO}(hx:x∈d.l):x∈V.bytes:=mem_append.2 (.inr (mem_flatMap.2 ⟨d,hd,hx⟩))
theorem WS.site(h:WS w V){M:ae}(hM:M∈V.ss): @aJ ⟨V.fE⟩ w M:=(h.sites M hM).Tn h.Tc fun x hx=>h.ux x (V.Jp hM hx)
theorem WS.Rh(h:WS w V):∀k∈ak V.An,cl w k=some (some 315):=fun k hk=>by
  obtain⟨cur,hc⟩:=h.aI.row.block k hk
  unfold cl;rw[hc]
theorem WS.uu(h:WS w V){k:Nat}{t:Option TypeId}(ht:cl w k=some t)(hm:k∈er V.gn V.An V.pk):t=some 274∨t=some 315∨t=some 5∧k∈V.xZ:=by
  simp only[er,mem_cons,mem_append]at hm
  rcases hm with rfl|hm|hm
  · rw[h.aI.aO.tag]at ht;injection ht with ht;exact .inl ht.symm
  · rw[h.Rh k hm]at ht;injection ht with ht;exact .inr (.inl ht.symm)
  · have h1:=h.OP k hm
    rw[h1]at ht;injection ht with ht;exact .inr (.inr ⟨ht.symm,hm⟩)
theorem WS.aq{a b:List Nat}(h:WS w V)(hu:ab a b w w')(hg:V.gw∉a)(h1:∀k∈ak V.As,k∉a)(h2:∀k∈ak V.Ad,k∉a)(h3:∀k∈er V.gn V.An V.pk,k∉a)(h4:∀M∈V.ss,∀k∈M.fp,k∉a)(h5:∀d∈V.dn,∀k∈ak d.A,k∉a)(h6:∀x∈V.bytes,∀k∈ak x.A,k∉a):WS w' V:=
  ⟨h.aO.aq hu hg,h.row.aq hu h1,h.aI.aq hu h3,h.eq,h.may,h.iA.aq hu h2,h.sd,fun M hM=>@aJ.aq ⟨[]⟩ _ _ _ _ _ (h.sites M hM) hu (h4 M hM) (fun x hx=>h6 x (V.Jp hM hx)),h.fB,fun d hd=>(h.jV d hd).aq hu (h5 d hd),h.Gy,fun x hx=>(h.fu x hx).aq hu (h6 x hx),h.ux,h.apart⟩
theorem WS.aN{b:List Nat}(h:WS w V)(hu:ab [] b w w'):WS w' V:=h.aq hu (by simp) (by simp) (by simp) (by simp) (by simp) (by simp) (by simp)
theorem WS.turn(h:WS w V){i:Nat}{M M':ae}(hM:V.ss[i]? =some M)(h': @aJ ⟨V.fE⟩ w' M')(hg:M'.gs=M.gs)(hu:ab M.fp M'.fp w w') :
    WS w' {V with ss:=V.ss.set i M'}∧ab V.fp ({V with ss:=V.ss.set i M'} :WV).fp w w':=by
  have kE:M∈V.ss:=mem_of_getElem? hM
  have hi:i<V.ss.length:=(List.getElem?_eq_some_iff.1 hM).1
  have hS:=h.sites M kE
  have off:∀{k:Nat}{t:Option TypeId},cl w k=some t→t∉oK→k∉M.fp:=fun h1 h2=>@aJ.off ⟨[]⟩ _ _ hS _ _ h1 h2
  have u8:∀{k:Nat},cl w k=some (some 5)→k∈M.fp→k∈ak M.Ad:=fun h1 h2=>@aJ.u8 ⟨[]⟩ _ _ hS _ h1 h2
  have hby:∀x∈V.bytes,∀k∈ak x.A,k∉M.fp:=fun x hx k hk hm=>h.ux x hx k hk (V.Ap kE (u8 ((h.fu x hx).tag k hk) hm))
  have OQ:∀k∈V.xZ,k∉M.fp:=fun k hk hm=>h.apart k hk (mem_flatMap.2 ⟨M,kE,u8 (h.OP k hk) hm⟩)
  -- the new cZ is the ie one,or new
  have oE:∀k,k<w.heap.size→k∈ak M'.Ad→k∈M.fp:=fun k hk hm=>(hu.fresh k (ae.Lt hm)).resolve_right (by omega)
  have cL:∀N∈V.ss.set i M',N=M'∨∃j,j≠i∧V.ss[j]? =some N:=fun N hN=>by
    obtain⟨j,hj⟩:=mem_iff_getElem?.1 hN
    by_cases e:i=j
    · subst e;rw[List.getElem?_set_self hi]at hj;injection hj with hj;exact .inl hj.symm
    · rw[List.getElem?_set_ne e]at hj;exact .inr ⟨j,fun e'=>e e'.symm,hj⟩
  have Lu:∀{j:Nat}{N:ae},j≠i→V.ss[j]? =some N→∀k∈N.fp,k∉M.fp:=fun {j N} hne hN k hk hm=>by
    obtain⟨hj,ej⟩:=List.getElem?_eq_some_iff.1 hN
    obtain⟨xz,ei⟩:=List.getElem?_eq_some_iff.1 hM
    have hp:=pairwise_iff_getElem.1 h.fB
    rcases Nat.lt_or_ge i j with hlt|hlt
    · exact hp i j hi hj hlt k (by rw[ei];exact hm) (by rw[ej];exact hk)
    · exact hp j i hj hi (by omega) k (by rw[ej];exact hk) (by rw[ei];exact hm)
  have Us:∀{j:Nat}{N:ae},j≠i→V.ss[j]? =some N→@aJ ⟨[]⟩ w' N:=fun {j N} hne hN=>
    @aJ.aq ⟨[]⟩ _ _ _ _ _ (h.sites N (mem_of_getElem? hN)) hu (Lu hne hN) (fun x hx=>hby x (V.Jp (mem_of_getElem? hN) hx))
  have hlt:∀{j:Nat}{N:ae},V.ss[j]? =some N→∀k∈N.fp,k<w.heap.size:=fun hN=>@aJ.lt ⟨[]⟩ _ _ (h.sites _ (mem_of_getElem? hN))
  have Aq:∀{j:Nat}{N:ae},j≠i→V.ss[j]? =some N→∀k∈M'.fp,k∉N.fp:=fun hne hN k hk hm=>by
    rcases hu.fresh k hk with h1|h1
    · exact Lu hne hN k hm h1
    · have:=hlt hN k hm;omega
  have yH:∀k∈({V with ss:=V.ss.set i M'} :WV).fE,k∈V.fE∨k∈ak M'.Ad:=fun k hk=>by
    rcases mem_append.1 hk with hk|hk
    · obtain⟨N,hN,hk2⟩:=mem_flatMap.1 hk
      rcases cL N hN with e|⟨j,-,hj⟩
      · rw[e]at hk2;exact .inr hk2
      · exact .inl (V.Ap (mem_of_getElem? hj) hk2)
    · exact .inl (V.Ls hk)
  have iq:∀x∈({V with ss:=V.ss.set i M'} :WV).bytes,x∈M'.bytes∨x∈V.bytes:=fun x hx=>by
    rcases mem_append.1 hx with hx|hx
    · obtain⟨N,hN,hx2⟩:=mem_flatMap.1 hx
      rcases cL N hN with e|⟨j,-,hj⟩
      · rw[e]at hx2;exact .inl hx2
      · exact .inr (V.Jp (mem_of_getElem? hj) hx2)
    · exact .inr (mem_append.2 (.inr hx))
  refine⟨⟨?_,?_,?_,h.eq,h.may,?_,?_,?_,?_,?_,h.Gy,?_,?_,?_⟩,?_⟩
  · have:=h.aO.aq hu (off h.aO.tag (by decide))
    simpa[WV.cells]using this
  · have:=h.row.aq hu (fun k hk=>off (h.row.tag k hk) (by decide))
    have e:(V.ss.set i M').map ae.ptr=V.ss.map ae.ptr:=by
      rw[map_set]
      refine ext_getElem? fun j=>?_
      by_cases e:i=j
      · subst e
        rw[List.getElem?_set_self (by simpa using hi),List.getElem?_map,hM]
        simp[ae.ptr,hg]
      · rw[List.getElem?_set_ne e]
    simp only[length_set,e]
    exact this
  · refine h.aI.aq hu fun k hk=>?_
    simp only[er,mem_cons,mem_append]at hk
    rcases hk with rfl|hk|hk
    · exact off h.aI.aO.tag (by decide)
    · exact off (h.Rh k hk) (by decide)
    · exact OQ k hk
  · exact h.iA.aq hu (fun k hk=>off (h.iA.tag k hk) (by decide))
  · simp only[length_set];exact h.sd
  · intro N hN
    rcases cL N hN with rfl|⟨j,hj,hN⟩
    · exact aJ.Tn h' (by simp) (by simp)
    · exact Us hj hN
  · refine pairwise_iff_getElem.2 fun a b ha hb pP=>?_
    simp only[length_set]at ha hb
    have Zh:V.ss[a]? =some V.ss[a]:=List.getElem?_eq_getElem ha
    have hgb:V.ss[b]? =some V.ss[b]:=List.getElem?_eq_getElem hb
    rw[getElem_set,getElem_set]
    split
    · rename_i e
      subst e
      rw[if_neg (by omega)]
      exact Aq (by omega) hgb
    · split
      · rename_i e1 e
        subst e
        exact fun k hk hm=>Aq (by omega) Zh k hm hk
      · exact pairwise_iff_getElem.1 h.fB a b ha hb pP
  · exact fun d hd=>(h.jV d hd).aq hu (fun k hk=>off ((h.jV d hd).tag k hk) (by decide))
  · intro x hx
    rcases iq x hx with hx|hx
    · exact @aJ.fu ⟨V.fE⟩ _ _ h' x hx
    · exact(h.fu x hx).aq hu (hby x hx)
  · intro x hx k hk hm
    rcases iq x hx with hx|hx
    · rcases yH k hm with h1|h1
      · exact @aJ.bad ⟨V.fE⟩ _ _ h' x hx k hk (mem_append.2 (.inr h1))
      · exact @aJ.bad ⟨V.fE⟩ _ _ h' x hx k hk (mem_append.2 (.inl h1))
    · rcases yH k hm with h1|h1
      · exact h.ux x hx k hk h1
      · exact hby x hx k hk (oE k (fJ ((h.fu x hx).tag k hk)) h1)
  · intro k hk hm
    obtain⟨N,hN,ir⟩:=mem_flatMap.1 hm
    rcases cL N hN with e|⟨j,-,hj⟩
    · rw[e]at ir;exact OQ k hk (oE k (fJ (h.OP k hk)) ir)
    · exact h.apart k hk (mem_flatMap.2 ⟨N,mem_of_getElem? hj,ir⟩)
  · refine hu.mono (fun k hk=>?_) (fun k hk=>?_)
    · simp only[WV.fp,mem_append,mem_flatMap]
      exact .inr (.inr (.inl ⟨M,kE,hk⟩))
    · simp only[WV.fp,mem_append,mem_flatMap]at hk ⊢
      rcases hk with hk|hk|⟨N,hN,hk2⟩|hk
      · exact .inr (.inl (.inl hk))
      · exact .inr (.inl (.inr (.inl hk)))
      · rcases cL N hN with e|⟨j,-,hj⟩
        · rw[e]at hk2;exact .inl hk2
        · exact .inr (.inl (.inr (.inr (.inl ⟨N,mem_of_getElem? hj,hk2⟩))))
      · exact .inr (.inl (.inr (.inr (.inr hk))))
end
def WV.at_(V:WV)(i:Int):Option ae:=if 0≤i then V.ss[i.toNat]? else none
def kS:Option ae→Value
  |none=>.pointer none
  |some M=>M.ptr
theorem WV.mu(V:WV)(i:Nat):V.at_ (i:Int)=V.ss[i]?:=by unfold WV.at_;rw[if_pos (by omega)];rfl
theorem lR(w:World)(V:WV)(h:WS w V)(i:Int):Calls Tryz.prog 102 #[V.ptr,.int .i64 i] w fun e w'=>e=.returned (kS (V.at_ i))∧w=w':=by
  have q0:w.cell? ⟨V.gw,0,none⟩=some (.slice V.As V.ss.length V.cs):=h.aO.cell 0
  obtain⟨n,hn⟩:=bk V.ss.length
  rw[WV.ptr]
  by_cases h0:i<0
  · have HE:=aA (show kS (V.at_ i)=.pointer none by unfold WV.at_;rw[if_neg (by omega)];rfl)
    rw[hn]at q0
    clear h
    go_enter Tryz.func102,Tryz.ntmps102
    repeat' first|go_values|go_skip|go_guarded|go_step|go_upon|simp only[];go_at_K
    go_ret
    exact⟨by rw[HE.out];rfl,rfl⟩
  by_cases h1:(n:Int)≤i
  · have HE:=aA (show kS (V.at_ i)=.pointer none by unfold WV.at_;rw[if_pos (by omega),List.getElem?_eq_none (by omega)];rfl)
    rw[hn]at q0
    have d0:decide (i<0)=false:=eE h0
    clear h
    go_enter Tryz.func102,Tryz.ntmps102
    repeat' first|go_values|go_skip|go_guarded|go_step|go_upon|simp only[];go_at_K
    go_ret
    exact⟨by rw[HE.out];rfl,rfl⟩
  · obtain⟨k,rfl⟩:∃k:Nat,i=(k:Int):=⟨i.toNat,by omega⟩
    have hk:k<V.ss.length:=by omega
    have HE:=aA (show kS (V.at_ (k:Int))=V.ss[k].ptr by rw[WV.mu,List.getElem?_eq_getElem hk];rfl)
    obtain⟨P,hP⟩:=bk (V.ss[k].ptr)
    rw[hP]at HE
    obtain⟨g,hA,hc⟩:∃g,V.As=some ⟨g,0,none⟩∧w.cell? ⟨g,k,none⟩=some P:=by
      obtain⟨g,cur,hA,hB,hl,sn,-⟩:=h.row.block (by omega)
      refine⟨g,hA,?_⟩
      have:=hB.cell k
      rw[this,List.getElem?_toArray,List.getElem?_append_left (by simpa using hk),List.getElem?_map,List.getElem?_eq_getElem hk]
      simp[hP]
    rw[hn,hA]at q0
    have d1:decide ((n:Int)≤(k:Int))=false:=eE h1
    have xv:k<n:=by omega
    clear h
    go_enter Tryz.func102,Tryz.ntmps102
    repeat' first|go_values|go_skip|go_guarded|go_step|go_upon|simp only[];go_at_K
    go_ret
    exact⟨by rw[HE.out];rfl,rfl⟩
def Jq(w:World)(W:Value)(i:Int)(P:Option ae):Prop:=Calls Tryz.prog 102 #[W,.int .i64 i] w fun e w'=>e=.returned (kS P)∧w=w'
section
variable [eA] {w:World} {W:Value} {i:Int} {P:Option ae}
theorem uX(C:Jq w W i P)(hS:∀M,P=some M→aJ w M) :
    Calls Tryz.prog 54 #[W,.int .i64 i] w fun e w'=>e=.returned (.int .i64 ((P.map fun M=>M.pl.front).getD 0:Nat))∧w=w':=by
  have C1:Calls Tryz.prog 28 #[kS P] w fun e w'=>e=.returned (.int .i64 ((P.map fun M=>M.pl.front).getD 0:Nat))∧w=w':=by
    cases P with
    |none=>exact yF w
    |some M=>exact FH w M (hS M rfl)
  unfold Jq at C
  generalize (P.map fun M=>M.pl.front).getD 0=R at *
  generalize kS P=Q at *
  clear hS
  go_enter Tryz.func54,Tryz.ntmps54
  repeat' first|go_values|go_skip|go_guarded|go_step|go_upon|simp only[];go_at_K
  refine C.mono ?_;rintro e w1 ⟨rfl,rfl⟩
  repeat' first|go_values|go_skip|go_guarded|go_step|go_upon|simp only[];go_at_K
  refine C1.mono ?_;rintro e w1 ⟨rfl,rfl⟩
  repeat' first|go_values|go_skip|go_guarded|go_step|go_upon|simp only[];go_at_K
  go_ret
  exact⟨rfl,rfl⟩
theorem Ri(C:Jq w W i P)(hS:∀M,P=some M→aJ w M) :
    Calls Tryz.prog 55 #[W,.int .i64 i] w fun e w'=>e=.returned (.int .i64 ((P.map fun M=>M.pl.bF).getD 0))∧ab [] [] w w':=by
  have C1:Calls Tryz.prog 36 #[kS P] w fun e w'=>e=.returned (.int .i64 ((P.map fun M=>M.pl.bF).getD 0))∧ab [] [] w w':=by
    cases P with
    |none=>
      refine(Hd w).mono ?_
      rintro e w' ⟨rfl,rfl⟩
      exact⟨rfl,ab.refl _ _⟩
    |some M=>exact AR w M (hS M rfl)
  unfold Jq at C
  generalize (P.map fun M=>M.pl.bF).getD 0=R at *
  generalize kS P=Q at *
  clear hS
  go_enter Tryz.func55,Tryz.ntmps55
  repeat' first|go_values|go_skip|go_guarded|go_step|go_upon|simp only[];go_at_K
  refine C.mono ?_;rintro e w1 ⟨rfl,rfl⟩
  repeat' first|go_values|go_skip|go_guarded|go_step|go_upon|simp only[];go_at_K
  refine C1.mono ?_;rintro e w1 ⟨rfl,u1⟩
  repeat' first|go_values|go_skip|go_guarded|go_step|go_upon|simp only[];go_at_K
  go_ret
  exact⟨rfl,u1⟩
theorem OR(C:Jq w W i P)(hS:∀M,P=some M→aJ w M) :
    Calls Tryz.prog 56 #[W,.int .i64 i] w fun e w'=>e=.returned (.bool ((P.map fun M=>M.pl.down).getD true))∧w=w':=by
  have C1:Calls Tryz.prog 17 #[kS P] w fun e w'=>e=.returned (.bool ((P.map fun M=>M.pl.down).getD true))∧w=w':=by
    cases P with
    |none=>exact qY w
    |some M=>exact lE w M (hS M rfl)
  unfold Jq at C
  generalize (P.map fun M=>M.pl.down).getD true=R at *
  generalize kS P=Q at *
  clear hS
  go_enter Tryz.func56,Tryz.ntmps56
  repeat' first|go_values|go_skip|go_guarded|go_step|go_upon|simp only[];go_at_K
  refine C.mono ?_;rintro e w1 ⟨rfl,rfl⟩
  repeat' first|go_values|go_skip|go_guarded|go_step|go_upon|simp only[];go_at_K
  refine C1.mono ?_;rintro e w1 ⟨rfl,rfl⟩
  repeat' first|go_values|go_skip|go_guarded|go_step|go_upon|simp only[];go_at_K
  go_ret
  exact⟨rfl,rfl⟩
end
section
variable {w w':World} {V:WV}
theorem WS.wV(h:WS w V){A':Option Addr}{n' c':Nat}{Gz:List Pk}{net':List Ms}(hn:fz w' V.gn A' n' c' Gz)(he:Gz.map (fun x=>(x.to,x.b))=net'.map fun m=>(m.to,m.bytes))(hm:∀m∈net',m.bL)(hu:ab (er V.gn V.An V.pk) (er V.gn A' Gz) w w') :
    WS w' {V with An:=A',nn:=n',cn:=c',pk:=Gz,aI:=net'}∧ab V.fp ({V with An:=A',nn:=n',cn:=c',pk:=Gz,aI:=net'} :WV).fp w w':=by
  have off:∀{k:Nat}{t:Option TypeId},cl w k=some t→t≠some 274→t≠some 315→t≠some 5→k∉er V.gn V.An V.pk:=fun h1 h2 h3 h4 hm=>by
    rcases h.uu h1 hm with e|e|⟨e,-⟩
    · exact h2 e
    · exact h3 e
    · exact h4 e
  have u8:∀{k:Nat},cl w k=some (some 5)→k∈er V.gn V.An V.pk→k∈V.xZ:=fun h1 hm=>by
    rcases h.uu h1 hm with e|e|⟨-,e⟩
    · exact absurd e (by decide)
    · exact absurd e (by decide)
    · exact e
  have hby:∀x∈V.bytes,∀k∈ak x.A,k∉er V.gn V.An V.pk:=fun x hx k hk hm=>h.ux x hx k hk (V.Ls (u8 ((h.fu x hx).tag k hk) hm))
  have dR:∀M∈V.ss,∀k∈M.fp,k∉er V.gn V.An V.pk:=fun M hM k hk hm=>by
    obtain⟨t,ht,h2⟩:=@aJ.Am ⟨[]⟩ _ _ (h.sites M hM) k hk
    rcases h.uu h2 hm with e|e|⟨e,h3⟩
    · subst e;exact absurd ht (by decide)
    · subst e;exact absurd ht (by decide)
    · subst e
      exact h.apart k h3 (mem_flatMap.2 ⟨M,hM,@aJ.u8 ⟨[]⟩ _ _ (h.sites M hM) _ h2 hk⟩)
  have OQ:∀k∈({V with An:=A',nn:=n',cn:=c',pk:=Gz,aI:=net'} :WV).xZ,k∈er V.gn A' Gz:=fun k hk=>by
    simp only[er,mem_cons,mem_append];exact .inr (.inr hk)
  refine⟨⟨?_,h.row.aq hu (fun k hk=>off (h.row.tag k hk) (by decide) (by decide) (by decide)),hn,he,hm,h.iA.aq hu (fun k hk=>off (h.iA.tag k hk) (by decide) (by decide) (by decide)),h.sd,
    fun M hM=>@aJ.aq ⟨[]⟩ _ _ _ _ _ (h.sites M hM) hu (dR M hM) (fun x hx=>hby x (V.Jp hM hx)),h.fB,fun d hd=>(h.jV d hd).aq hu (fun k hk=>off ((h.jV d hd).tag k hk) (by decide) (by decide) (by decide)),h.Gy,
    fun x hx=>(h.fu x hx).aq hu (hby x hx),?_,?_⟩,?_⟩
  · exact h.aO.aq hu (off h.aO.tag (by decide) (by decide) (by decide))
  · intro x hx k hk ir
    rcases mem_append.1 ir with h1|h1
    · exact h.ux x hx k hk (mem_append.2 (.inl h1))
    · rcases hu.fresh k (OQ k h1)with h2|h2
      · exact hby x hx k hk h2
      · have:=fJ ((h.fu x hx).tag k hk);omega
  · intro k hk ir
    obtain⟨M,hM,l7⟩:=mem_flatMap.1 ir
    rcases hu.fresh k (OQ k hk)with h2|h2
    · exact dR M hM k (ae.Lt l7) h2
    · have:=@aJ.lt ⟨[]⟩ _ _ (h.sites M hM) k (ae.Lt l7);omega
  · refine hu.mono (fun k hk=>?_) (fun k hk=>?_)
    · simp only[WV.fp,mem_append]
      exact .inr (.inl hk)
    · simp only[WV.fp,mem_append]at hk ⊢
      rcases hk with hk|hk|hk
      · exact .inr (.inl (.inl hk))
      · exact .inl hk
      · exact .inr (.inl (.inr (.inr hk)))
theorem WS.lt(h:WS w V):∀k∈V.fp,k<w.heap.size:=by
  intro k hk
  simp only[WV.fp,mem_append,mem_flatMap]at hk
  rcases hk with hk|hk|⟨M,hM,hk⟩|⟨d,hd,hk⟩
  · exact h.iA.lt k hk
  · exact h.aI.lt k hk
  · exact @aJ.lt ⟨[]⟩ _ _ (h.sites M hM) k hk
  · exact(h.jV d hd).lt k hk
theorem WS.u8(h:WS w V){k:Nat}(hk:cl w k=some (some 5))(hh:k∉V.fE):k∉V.fp:=by
  intro hm
  simp only[WV.fp,mem_append,mem_flatMap]at hm
  rcases hm with hm|hm|⟨M,hM,hm⟩|⟨d,hd,hm⟩
  · exact bx hk (h.iA.tag k hm) (by decide) rfl
  · rcases h.uu hk hm with e|e|⟨-,e⟩
    · exact absurd e (by decide)
    · exact absurd e (by decide)
    · exact hh (V.Ls e)
  · exact hh (V.Ap hM (@aJ.u8 ⟨[]⟩ _ _ (h.sites M hM) _ hk hm))
  · exact bx hk ((h.jV d hd).tag k hm) (by decide) rfl
end
