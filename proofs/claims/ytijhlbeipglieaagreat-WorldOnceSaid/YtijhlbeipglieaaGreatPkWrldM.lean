/- Merged: OwnL, Learn5, SiteTk, WrldM, WrldA, WrldN. -/
import Derived.Deep.CutBlock
import Derived.Test.YtijhlbeipglieaaGreatPkNetX
import Derived.Test.YtijhlbeipglieaaGreatPkWorld
set_option linter.all false
set_option maxRecDepth 100000
set_option maxHeartbeats 2000000
namespace Go.Proofs.YtijhlbeipglieaaGreat
open Go.RowKit Agio
theorem _root_.Agio.Upd.ownL {a b X Y:List Nat} {w w1 w2:World} (h:Upd a b w w1) (hX:∀x∈X,w.heap.size≤x) (k:Upd X Y w1 w2):Upd a b w w2:=
  ⟨k.os.trans h.os,k.tape.trans h.tape,k.output.trans h.output,Nat.le_trans h.size k.size,fun x hx hn=>(k.block x (Nat.lt_of_lt_of_le hx h.size) (fun hm=>by have:=hX x hm;omega)).trans (h.block x hx hn),h.fresh⟩
end Go.Proofs.YtijhlbeipglieaaGreat
namespace Go.Proofs.YtijhlbeipglieaaGreat
open Go.RowKit Agio Go.Maps
theorem infoSl5:(Tryz.prog.info? 28).map (fun i=>(i.zero,i.size,i.bytes))=some (some (.slice none 0 0),1,24):=by kernel_rfl
structure OwnS (w:World) (A:Option Addr) (c:Nat) (l:List Bsl):Prop where
  own:Agio.Own 28 1 w A l.length c (l.map Bsl.val)
  each:∀x∈l,OwnB 5 w x.A x.n x.c x.b
theorem OwnS.upd {w w':World} {A:Option Addr} {c:Nat} {l:List Bsl} {b:List Nat} (h:OwnS w A c l) (hu:Upd [] b w w'):OwnS w' A c l:=
  ⟨h.own.upd hu (by simp),fun x hx=>(h.each x hx).upd hu (by simp)⟩
theorem OwnS.push {w w':World} {A A':Option Addr} {c c':Nat} {l:List Bsl} {x:Bsl} (h:OwnS w A c l) (hx:OwnB 5 w x.A x.n x.c x.b)
    (ho:Agio.Own 28 1 w' A' (l.length + 1) c' (l.map Bsl.val ++ [x.val])) (hu:Upd (ablk A) (ablk A') w w'):OwnS w' A' c' (l ++ [x]):=
  ⟨by simpa using ho,fun y hy=>by
    rcases List.mem_append.1 hy with hy | hy
    · exact (h.each y hy).upd hu ((h.each y hy).own.disj h.own (by decide))
    · obtain rfl:=List.mem_singleton.1 hy
      exact hx.upd hu (hx.own.disj h.own (by decide))⟩
theorem LrnS.look1 {w:World} {gl bl:Nat} {L:AL Bsl} {t:Nat} (h:LrnS w gl bl L t) {x:Int} (hx:(Lit.int .i64 x).wf=true) :
    (Instr.lookup 220 (.map (some bl)) (.int .i64 x) false).run Tryz.prog w= .ok (((lookG x L).map Bsl.val).getD (.slice none 0 0)) w:=by
  have:=h.map.look Tryz.underlying3 Tryz.underlying220 (zeroSlice w) hx
  rw [lookK_G,lookG_map] at this
  rw [this]
def sliceLen:Value→Nat
  | .slice _ n _=>n
  | _=>0
def valsG (L:AL Bsl) (t n:Nat):List (List UInt8):=(List.range' t n).map fun (i:Nat)=>((lookG (i:Int) L).map Bsl.b).getD []
theorem valsG_succ (L:AL Bsl) (t n:Nat):valsG L t (n + 1)=valsG L t n ++ [((lookG ((t + n:Nat):Int) L).map Bsl.b).getD []]:=by
  unfold valsG
  rw [List.range'_concat,List.map_append]
  simp
structure KeptT (p:Prop):Prop where
  out:p
theorem learnTake (w:World) (gl bl:Nat) (L:AL Bsl) (t:Nat) (h:LrnS w gl bl L t) (hr:∀p∈L,p.2.rd w∧∀k∈ablk p.2.A,k≠gl) (f:Nat) (hf:frontG L (4096 - t) t=f) (hft:t≤f∧f≤4096) :
    Calls Tryz.prog 99 #[.pointer (some ⟨gl,0,none⟩)] w fun e w'=>∃A c l,e= .returned (.slice A l.length c)∧l.map Bsl.b=valsG L t (f - t)∧OwnS w' A c l∧
      (∀k∈ablk A,w.heap.size≤k)∧(∀x∈l,∀k∈ablk x.A,w.heap.size≤k)∧LrnS w' gl bl L f∧Upd [gl] [gl] w w':=by
  have C0:=learnFrontier w gl bl L t h
  rw [hf] at C0
  go_enter Tryz.func99,Tryz.ntmps99
  repeat' (first|go_values|go_skip|go_guarded|go_step|go_upon|(simp only [];go_at_K))
  ((with_reducible refine C0.mono ?_);rintro e w1 ⟨rfl,rfl⟩)
  repeat' (first|go_values|go_skip|go_guarded|go_step|go_upon|(simp only [];go_at_K))
  clear C0
  go_loopw [3] (fun v3 wr=>KeptT (∃(A:Option Addr) (c:Nat) (l:List Bsl),l.length≤f - t∧v3= .slice A l.length c∧LrnS wr gl bl L (t + l.length)∧OwnS wr A c l∧l.map Bsl.b=valsG L t l.length∧
      (∀k∈ablk A,w.heap.size≤k)∧(∀x∈l,∀k∈ablk x.A,w.heap.size≤k)∧Upd [gl] [gl] w wr)) (fun v3 _=>f - t - sliceLen v3)
  case atStart=>exact KeptT.mk ⟨none,0,[],by simp,rfl,h,⟨Own.nil _ _ _,by simp⟩,rfl,by simp [ablk],by simp,Upd.refl _ _⟩
  case round=>
    obtain ⟨A,c,l,hl,rfl,h',ho,hv,hA,hx,U⟩:=hrel.out
    clear hrel
    obtain ⟨T,hT⟩:∃T,t + l.length=T:=⟨_,rfl⟩
    rw [hT] at h'
    have q0:∀N,(wr.drewN N).cell? ⟨gl,0,none⟩=some (.map (some bl)):=fun N=>(h'.blk.drewN N).cell 0
    have q1:∀N,(wr.drewN N).cell? ⟨gl,1,none⟩=some (.int .i64 (T:Int)):=fun N=>(h'.blk.drewN N).cell 1
    have q1':wr.cell? ⟨gl,1,none⟩=some (.int .i64 (T:Int)):=h'.blk.cell 1
    have hglt:=h.blk.lt
    by_cases hlt:l.length < f - t
    · have d1:decide ((T:Int) < (f:Int))=true:=decide_eq_true (by omega)
      have hwf:(Lit.int .i64 (T:Int)).wf=true:=wfI (by omega) (by omega)
      have hlk:=h'.look1 hwf
      have HV:=Lib.hid (valsG_succ L t l.length)
      rw [hT] at HV
      obtain ⟨y,hy,hyl⟩:∃y:Bsl,((lookG (T:Int) L).map Bsl.val).getD (.slice none 0 0)=y.val∧(((lookG (T:Int) L).map Bsl.b).getD []=y.b∧RdB wr y.A y.n y.b∧y.b.length≤2048):=by
        cases hq:lookG (T:Int) L with
        | none=>exact ⟨⟨none,0,0,[]⟩,rfl,rfl,RdB.nil _ _,by simp⟩
        | some z=>
          have hm:=lookG_some hq
          exact ⟨z,rfl,rfl,RdB.upd (hr _ hm).1 U (fun k hk=>by simpa using (hr _ hm).2 k hk),(h.keys _ hm).2.2⟩
      rw [hy] at hlk
      rw [hyl.1] at HV
      have CC:=bytesClone wr.drew y.A y.n y.c y.b hyl.2.1 (by have:=hyl.2.2;omega)
      simp only [Bsl.val] at hlk
      have HY:=Lib.hid hy
      clear hy
      have hlkd:(Instr.lookup 220 (.map (some bl)) (.int .i64 (T:Int)) false).run Tryz.prog wr.drew= .ok (.slice y.A y.n y.c) wr.drew:=by
        have h9:LrnS wr.drew gl bl L T:=h'.upd ((Upd.refl [] wr).drew) (by simp) (by simp)
        have:=h9.look1 hwf
        rw [show ((lookG (T:Int) L).map Bsl.val).getD (.slice none 0 0)= .slice y.A y.n y.c from HY.out] at this
        exact this
      have q0d:=q0 1
      have q1d:=q1 1
      have hlw:=h.blk.lt
      have hlb:=h.map.lt
      have hne:gl≠bl:=h.ne
      go_upto_block 1 with fail
      go_cut [3] from 9 to 34 (fun s3 wc=>∃(A5:Option Addr) (c5:Nat) (x:Bsl),s3= .slice A5 (l.length + 1) c5∧x.b=y.b∧OwnS wc A5 c5 (l ++ [x])∧(∀k∈ablk A5,w.heap.size≤k)∧(∀k∈ablk x.A,w.heap.size≤k)∧Upd [gl] [gl] w wc∧LrnS wc gl bl L T)
      case first=>
        go_wp2_with fail
        go_region_held_law (fun w'=>w'.cell? ⟨gl,0,none⟩=some (.map (some bl))∧w'.cell? ⟨gl,1,none⟩=some (.int .i64 (T:Int))) (first | exact ⟨q0d,q1d⟩ | exact ⟨q0 0,q1 0⟩ | exact ⟨k0,k1⟩ | exact ⟨m0,m1⟩ | exact ⟨n0,n1⟩) (first
        | (go_at_call 58;(with_reducible refine CC.mono ?_);rintro e w4 ⟨A4,n4,c4,rfl,ho4,hu4⟩
           have k0:=hu4.cell q0d (by simp)
           have k1:=hu4.cell q1d (by simp)
           have m0:=((Upd.refl [] w4).alloc (.cells #[.slice A4 n4 c4] 28)).cell k0 (by simp)
           have m1:=((Upd.refl [] w4).alloc (.cells #[.slice A4 n4 c4] 28)).cell k1 (by simp)
           obtain ⟨A5,c5,w5,hrun5,ho5,hu5⟩:=run_app (P:=Tryz.prog) (w4.alloc (.cells #[.slice A4 n4 c4] 28)) 72 72 28 Tryz.underlying72 infoSl5 rfl (by decide) A l.length c _ ((ho.own.upd (Upd.refl [] wr).drew (by simp)).upd hu4 (by simp) |>.alloc _) (some ⟨w4.heap.size,0,none⟩) 1 1 [.slice A4 n4 c4] (Rd.blk (Blk.new _ _ _) rfl) (by intro u hu;simp only [List.mem_singleton] at hu;subst hu;rfl) (by unfold maxLen;omega) (by omega)
           have n0:=hu5.cell m0 (by intro hk;have h77:w.heap.size≤gl:=hA gl hk;omega)
           have hrun6:(Builtin.append_ #[72,72] 72 #[.slice A l.length c,.slice (some ⟨w4.heap.size,0,none⟩) 1 1]).run Tryz.prog (w4.alloc (.cells #[.slice A4 n4 c4] 28))= .ok (.slice A5 (l.length + 1) c5) w5:=hrun5
           have n1:=hu5.cell m1 (by intro hk;have h77:w.heap.size≤gl:=hA gl hk;omega))
        | (refine step_run rfl (.tmp 22) (.tmp 33) 72 rfl (.slice A l.length c) (.slice (some ⟨w4.heap.size,0,none⟩) 1 1) _ w5 rfl rfl hrun6 ?_))
        all_goals (repeat' ((fail_if_success (with_reducible refine stop_append rfl ?_));first | go_values | go_skip | go_guarded | go_step | go_upon | (simp only [];go_at_K)))
        all_goals go_meet
        all_goals
          have hA4n:=(Upd.refl [] wr).new ((Upd.refl [] wr).drew.trans hu4)
          have UA:Upd [] [] wr (w4.alloc (.cells #[.slice A4 n4 c4] 28)):=(((Upd.refl [] wr).drew.trans hu4).alloc _).gives (by simp)
          have hoa:=ho.upd UA
          have hs1:=U.size
          have hs2:=UA.size
          exact ⟨A5,c5,⟨A4,n4,c4,y.b⟩,rfl,rfl,hoa.push (x:=⟨A4,n4,c4,y.b⟩) (ho4.alloc _) ho5 hu5,fun k hk=>(hu5.fresh k hk).elim (hA k) (fun hh=>by omega),fun k hk=>(by have:=hA4n k hk;omega),
            (U.trans (UA.up _)).ownL hA hu5,(h'.upd UA (by simp) (by simp)).upd hu5 (fun hk=>by have:=hA _ hk;omega) (fun hk=>by have:=hA _ hk;omega)⟩
      case rest=>
        obtain ⟨A5,c5,x,rfl,hxb,ho5,hA5,hxA,U5,h5⟩:=hcut
        have q1w:wc.cell? ⟨gl,1,none⟩=some (.int .i64 (T:Int)):=h5.blk.cell 1
        have f1w:wc.frozen? ⟨gl,1,none⟩=false:=h5.blk.frozen 1
        have hw1:IntKind.i64.wrap ((T:Int) + 1)=(T:Int) + 1:=by rw [IntKind.wrap_i64];omega
        have hT2:t + (l ++ [x]).length=T + 1:=by simp;omega
        have u6:Upd [gl] [gl] wc (wc.setCell ⟨gl,1,none⟩ (.int .i64 ((T:Int) + 1))):=(Upd.refl [gl] wc).setCell (p:=⟨gl,1,none⟩) (.inl (by simp)) _
        have KEY:=Lib.hid (show KeptT (∃(A:Option Addr) (c:Nat) (l2:List Bsl),l2.length≤f - t∧Value.slice A5 (l.length + 1) c5= .slice A l2.length c∧LrnS (wc.setCell ⟨gl,1,none⟩ (.int .i64 ((T:Int) + 1))) gl bl L (t + l2.length)∧OwnS (wc.setCell ⟨gl,1,none⟩ (.int .i64 ((T:Int) + 1))) A c l2∧l2.map Bsl.b=valsG L t l2.length∧
          (∀k∈ablk A,w.heap.size≤k)∧(∀x∈l2,∀k∈ablk x.A,w.heap.size≤k)∧Upd [gl] [gl] w (wc.setCell ⟨gl,1,none⟩ (.int .i64 ((T:Int) + 1)))) from KeptT.mk ⟨A5,c5,l ++ [x],by simp;omega,by simp,
            (by rw [hT2];exact ⟨by simpa using h5.blk.set_ 1 (.int .i64 ((T:Int) + 1)),h5.map.upd u6 (by simp only [List.mem_singleton];exact fun e=>hne (e.symm)),h5.keys,h5.ne,by omega⟩),
            ⟨ho5.own.upd u6 (fun k hk=>by simp only [List.mem_singleton];rintro rfl;have:=hA5 _ hk;omega),fun z hz=>(ho5.each z hz).upd u6 (fun k hk=>by
              simp only [List.mem_singleton]
              rintro rfl
              exact (ho5.each z hz).own.ne h5.blk (by decide) hk)⟩,
            by rw [List.map_append,hv,List.length_append,List.length_singleton,HV.out,List.map_cons,List.map_nil,hxb],hA5,fun z hz=>by
              rcases List.mem_append.1 hz with hz | hz
              · exact hx z hz
              · rw [List.mem_singleton] at hz;subst hz;exact hxA,
            U5.trans u6⟩)
        clear u6 h5 ho5 U5 hA5 hxA
        repeat' (first|go_values|go_skip|go_guarded|go_step|go_upon|(simp only [];go_at_K))
        exact ⟨KEY.out,by simp only [sliceLen];omega⟩
    · have d1:decide ((T:Int) < (f:Int))=false:=decide_eq_false (by omega)
      have hle:l.length=f - t:=by omega
      have hTf:T=f:=by omega
      have KEY:=Lib.hid (show l.map Bsl.b=valsG L t (f - t)∧OwnS wr A c l∧(∀k∈ablk A,w.heap.size≤k)∧(∀x∈l,∀k∈ablk x.A,w.heap.size≤k)∧LrnS wr gl bl L f∧Upd [gl] [gl] w wr from ⟨by rw [hv,hle],ho,hA,hx,by rw [←hTf];exact h',U⟩)
      clear hle hTf h' ho hA hx U hv
      repeat' (first|go_values|go_skip|go_guarded|go_step|go_upon|(simp only [];go_at_K))
      go_ret
      exact ⟨A,c,l,rfl,KEY.out⟩
end Go.Proofs.YtijhlbeipglieaaGreat
namespace Go.Proofs.YtijhlbeipglieaaGreat
open Go.RowKit Agio Go.Maps
theorem SiteV.takes_pl (M:SiteV):M.pl.takes.2=valsG M.lv M.taken (M.pl.front - M.taken):=by
  unfold Site.takes valsG
  refine List.map_congr_left fun i hi=>?_
  show (Site.dec M.pl (i:Int)).getD []=_
  rw [SiteV.dec_pl]
theorem frontG_ge {α:Type} (L:AL α):∀(k s:Nat),s≤frontG L k s
  | 0,s=>Nat.le_refl _
  | k + 1,s=>by
    unfold frontG
    split
    · have:=frontG_ge L k (s + 1);omega
    · exact Nat.le_refl _
theorem frontG_le {α:Type} (L:AL α):∀(k s:Nat),frontG L k s≤s + k
  | 0,s=>Nat.le_refl _
  | k + 1,s=>by
    unfold frontG
    split
    · have:=frontG_le L k (s + 1);omega
    · omega
variable [Ban]
def Stays (w w':World) (M:SiteV) (s:Site):Prop:=∃M',SiteS w' M'∧M'.pl=s∧M'.gs=M.gs∧M'.fp=M.fp∧M'.Ad=M.Ad∧M'.lv=M.lv∧Upd M.fp M'.fp w w'
theorem siteTake (w:World) (M:SiteV) (h:SiteS w M) :
    Calls Tryz.prog 35 #[M.ptr] w fun e w'=>∃A c l,e= .returned (.slice A l.length c)∧l.map Bsl.b=M.pl.takes.2∧OwnS w' A c l∧
      (∀k∈ablk A,w.heap.size≤k)∧(∀x∈l,∀k∈ablk x.A,w.heap.size≤k)∧Stays w w' M M.pl.takes.1:=by
  have ht:=h.lrn.t
  have hf:=SiteV.front_pl M
  have hge:M.taken≤M.pl.front:=by rw [hf];exact frontG_ge _ _ _
  have hle:M.pl.front≤4096:=by rw [hf];have:=frontG_le M.lv (4096 - M.taken) M.taken;omega
  have C:=learnTake w M.gl M.bl M.lv M.taken h.lrn (fun p hp=>⟨h.lvRd p hp,fun k hk=>?_⟩) M.pl.front hf.symm ⟨hge,hle⟩
  · rw [←SiteV.takes_pl] at C
    have FIN:=Lib.hid (show ∀(wx:World),LrnS wx M.gl M.bl M.lv M.pl.front→Upd [M.gl] [M.gl] w wx→Stays w wx M M.pl.takes.1 from fun wx hl hu=>by
      have hb:∀p∈M.lv,BytS wx p.2∧∀k∈ablk p.2.A,k∉M.bans:=fun p hp=>by
        have hm:p.2∈M.bytes:=by simp only [SiteV.bytes,List.mem_append];exact .inr (.inl (List.mem_map_of_mem hp))
        exact ⟨(h.byt _ hm).upd hu (fun k hk=>by simp only [List.mem_singleton];exact tag_ne ((h.byt _ hm).tag k hk) h.tl (by decide)),h.bad _ hm⟩
      obtain ⟨h1,h2⟩:=h.learns hu (by simp) hl hb ⟨h.ok.me,h.ok.n3,h.ok.n7,h.ok.pat,h.ok.st,h.ok.rs,h.ok.top,h.ok.nx,h.ok.held⟩
      exact ⟨_,h1,rfl,rfl,rfl,rfl,rfl,h2⟩)
    have q7:w.cell? ⟨M.gs,7,none⟩=some (.pointer (some ⟨M.gl,0,none⟩)):=h.blk.cell 7
    rw [SiteV.ptr]
    clear h hf hge hle ht
    go_enter Tryz.func35,Tryz.ntmps35
    repeat' (first|go_values|go_skip|go_guarded|go_step|go_upon|(simp only [];go_at_K))
    ((with_reducible refine C.mono ?_);rintro e w1 ⟨A,c,l,rfl,h1,h2,h3,h4,h5,h6⟩)
    repeat' (first|go_values|go_skip|go_guarded|go_step|go_upon|(simp only [];go_at_K))
    go_ret
    exact ⟨A,c,l,rfl,h1,h2,h3,h4,FIN.out _ h5 h6⟩
  · have hm:p.2∈M.bytes:=by simp only [SiteV.bytes,List.mem_append];exact .inr (.inl (List.mem_map_of_mem hp))
    exact tag_ne ((h.byt _ hm).tag k hk) h.tl (by decide)
end Go.Proofs.YtijhlbeipglieaaGreat
namespace Go.Proofs.YtijhlbeipglieaaGreat
open Go.RowKit Agio Go.Maps
structure DnV where
  A:Option Addr
  c:Nat
  l:List Bsl
def DnV.val (d:DnV):Value:=.slice d.A d.l.length d.c
structure WV where
  gw:Nat
  As:Option Addr
  cs:Nat
  ss:List SiteV
  gn:Nat
  An:Option Addr
  nn:Nat
  cn:Nat
  pk:List Pk
  net:List Ms
  Ad:Option Addr
  cd:Nat
  dn:List DnV
namespace WV
variable (V:WV)
def ptr:Value:=.pointer (some ⟨V.gw,0,none⟩)
def cells:List Value:=[.slice V.As V.ss.length V.cs,.pointer (some ⟨V.gn,0,none⟩),.slice V.Ad V.dn.length V.cd]
def pl:Wd:=⟨V.ss.map SiteV.pl,V.net,V.dn.map fun d=>d.l.map Bsl.b⟩
def disks:List Nat:=V.ss.flatMap fun M=>ablk M.Ad
def pks:List Nat:=V.pk.flatMap fun x=>ablk x.A
def hot:List Nat:=V.disks ++ V.pks
def bytes:List Bsl:=V.ss.flatMap SiteV.bytes ++ V.dn.flatMap DnV.l
def fp:List Nat:=ablk V.Ad ++ (fpN V.gn V.An V.pk ++ (V.ss.flatMap SiteV.fp ++ V.dn.flatMap fun d=>ablk d.A))
end WV
structure WS (w:World) (V:WV):Prop where
  blk:Blk w V.gw 175 V.cells.toArray
  row:Agio.Own 24 1 w V.As V.ss.length V.cs (V.ss.map SiteV.ptr)
  net:NetS w V.gn V.An V.nn V.cn V.pk
  eq:V.pk.map (fun x=>(x.to,x.b))=V.net.map fun m=>(m.to,m.bytes)
  may:∀m∈V.net,m.May
  drow:Agio.Own 72 1 w V.Ad V.dn.length V.cd (V.dn.map DnV.val)
  dlen:V.dn.length=V.ss.length
  sites:∀M∈V.ss,@SiteS ⟨[]⟩ w M
  far:V.ss.Pairwise fun p q=>∀k∈p.fp,k∉q.fp
  dons:∀d∈V.dn,Agio.Own 28 1 w d.A d.l.length d.c (d.l.map Bsl.val)
  dfar:V.dn.Pairwise fun p q=>∀k∈ablk p.A,k∉ablk q.A
  byt:∀x∈V.bytes,BytS w x
  cold:∀x∈V.bytes,∀k∈ablk x.A,k∉V.hot
  apart:∀k∈V.pks,k∉V.disks
def siteTags:List (Option TypeId):=[some 124,some 197,none,some 222,some 214,some 5,some 32,some 132,some 340,some 343]
theorem SiteS.reban {X Y:List Nat} {w:World} {M:SiteV} (h: @SiteS ⟨X⟩ w M) (hl:∀k∈Y,k < w.heap.size) (hb:∀x∈M.bytes,∀k∈ablk x.A,k∉Y): @SiteS ⟨Y⟩ w M:=by
  obtain ⟨h1,h2,h3,h4,h5,h6,h7,h8,h9,hbad,h10,h11,h12,-⟩:=h
  exact @SiteS.mk ⟨Y⟩ w M h1 h2 h3 h4 h5 h6 h7 h8 h9 (fun x hx k hk hm=>by
    rcases List.mem_append.1 hm with hm | hm
    · exact hbad x hx k hk (List.mem_append.2 (.inl hm))
    · exact hb x hx k hk hm) h10 h11 h12 hl
theorem SiteS.tagIn [Ban] {w:World} {M:SiteV} (h:SiteS w M):∀k∈M.fp,∃t∈siteTags,tagW w k=some t:=by
  intro k hk
  simp only [SiteV.fp,RnV.fp,List.mem_append,List.mem_cons,List.not_mem_nil,or_false,List.mem_flatMap] at hk
  rcases hk with (rfl | rfl | rfl | rfl | rfl | rfl | rfl) | hk | hk | ⟨p,hp,rfl | hk | hk⟩
  · exact ⟨_,by decide,h.tg⟩
  · exact ⟨_,by decide,h.td⟩
  · exact ⟨_,by decide,h.ts⟩
  · exact ⟨_,by decide,h.tl⟩
  · exact ⟨_,by decide,h.tb⟩
  · exact ⟨_,by decide,h.tr⟩
  · exact ⟨_,by decide,h.tw⟩
  · exact ⟨_,by decide,h.tA k hk⟩
  · exact ⟨_,by decide,h.tH k hk⟩
  · exact ⟨_,by decide,(h.rds p hp).tg⟩
  · exact ⟨_,by decide,(h.rds p hp).tP k hk⟩
  · exact ⟨_,by decide,(h.rds p hp).tV k hk⟩
theorem SiteS.off [Ban] {w:World} {M:SiteV} (h:SiteS w M) {k:Nat} {t:Option TypeId} (hk:tagW w k=some t) (ht:t∉siteTags):k∉M.fp:=fun hm=>by
  obtain ⟨t',h1,h2⟩:=h.tagIn k hm
  rw [hk] at h2
  injection h2 with h2
  subst h2
  exact ht h1
theorem SiteS.u8 [Ban] {w:World} {M:SiteV} (h:SiteS w M) {k:Nat} (hk:tagW w k=some (some 5)) (hm:k∈M.fp):k∈ablk M.Ad:=by
  simp only [SiteV.fp,RnV.fp,List.mem_append,List.mem_cons,List.not_mem_nil,or_false,List.mem_flatMap] at hm
  rcases hm with (rfl | rfl | rfl | rfl | rfl | rfl | rfl) | hm | hm | ⟨p,hp,rfl | hm | hm⟩
  · exact absurd rfl (tag_ne hk h.tg (by decide))
  · exact absurd rfl (tag_ne hk h.td (by decide))
  · exact absurd rfl (tag_ne hk h.ts (by decide))
  · exact absurd rfl (tag_ne hk h.tl (by decide))
  · exact absurd rfl (tag_ne hk h.tb (by decide))
  · exact absurd rfl (tag_ne hk h.tr (by decide))
  · exact absurd rfl (tag_ne hk h.tw (by decide))
  · exact hm
  · exact absurd rfl (tag_ne hk (h.tH k hm) (by decide))
  · exact absurd rfl (tag_ne hk (h.rds p hp).tg (by decide))
  · exact absurd rfl (tag_ne hk ((h.rds p hp).tP k hm) (by decide))
  · exact absurd rfl (tag_ne hk ((h.rds p hp).tV k hm) (by decide))
section
variable {w w':World} {V:WV}
theorem WV.diskIn {M:SiteV} (hM:M∈V.ss) {k:Nat} (hk:k∈ablk M.Ad):k∈V.hot:=List.mem_append.2 (.inl (List.mem_flatMap.2 ⟨M,hM,hk⟩))
theorem WV.pkIn {k:Nat} (hk:k∈V.pks):k∈V.hot:=List.mem_append.2 (.inr hk)
theorem SiteV.adFp {M:SiteV} {k:Nat} (hk:k∈ablk M.Ad):k∈M.fp:=by simp only [SiteV.fp,List.mem_append];exact .inr (.inl hk)
theorem WS.tpk (h:WS w V):∀k∈V.pks,tagW w k=some (some 5):=fun k hk=>by
  obtain ⟨x,hx,hk⟩:=List.mem_flatMap.1 hk
  exact (h.net.each x hx).own.tag k hk
theorem WS.hotLt (h:WS w V):∀k∈V.hot,k < w.heap.size:=fun k hk=>by
  rcases List.mem_append.1 hk with hk | hk
  · obtain ⟨M,hM,hk⟩:=List.mem_flatMap.1 hk
    exact tag_lt (@SiteS.tA ⟨[]⟩ _ _ (h.sites M hM) k hk)
  · exact tag_lt (h.tpk k hk)
theorem WV.byM {M:SiteV} (hM:M∈V.ss) {x:Bsl} (hx:x∈M.bytes):x∈V.bytes:=List.mem_append.2 (.inl (List.mem_flatMap.2 ⟨M,hM,hx⟩))
theorem WV.byD {d:DnV} (hd:d∈V.dn) {x:Bsl} (hx:x∈d.l):x∈V.bytes:=List.mem_append.2 (.inr (List.mem_flatMap.2 ⟨d,hd,hx⟩))
theorem WS.site (h:WS w V) {M:SiteV} (hM:M∈V.ss): @SiteS ⟨V.hot⟩ w M:=(h.sites M hM).reban h.hotLt fun x hx=>h.cold x (V.byM hM hx)
theorem WS.tpkl (h:WS w V):∀k∈ablk V.An,tagW w k=some (some 315):=fun k hk=>by
  obtain ⟨cur,hc⟩:=h.net.row.block k hk
  unfold tagW;rw [hc]
theorem WS.netIn (h:WS w V) {k:Nat} {t:Option TypeId} (ht:tagW w k=some t) (hm:k∈fpN V.gn V.An V.pk):t=some 274∨t=some 315∨t=some 5∧k∈V.pks:=by
  simp only [fpN,List.mem_cons,List.mem_append] at hm
  rcases hm with rfl | hm | hm
  · rw [h.net.blk.tag] at ht;injection ht with ht;exact .inl ht.symm
  · rw [h.tpkl k hm] at ht;injection ht with ht;exact .inr (.inl ht.symm)
  · have h1:=h.tpk k hm
    rw [h1] at ht;injection ht with ht;exact .inr (.inr ⟨ht.symm,hm⟩)
theorem WS.upd {a b:List Nat} (h:WS w V) (hu:Upd a b w w') (hg:V.gw∉a) (h1:∀k∈ablk V.As,k∉a) (h2:∀k∈ablk V.Ad,k∉a) (h3:∀k∈fpN V.gn V.An V.pk,k∉a) (h4:∀M∈V.ss,∀k∈M.fp,k∉a) (h5:∀d∈V.dn,∀k∈ablk d.A,k∉a)
    (h6:∀x∈V.bytes,∀k∈ablk x.A,k∉a):WS w' V:=
  ⟨h.blk.upd hu hg,h.row.upd hu h1,h.net.upd hu h3,h.eq,h.may,h.drow.upd hu h2,h.dlen,fun M hM=>@SiteS.upd ⟨[]⟩ _ _ _ _ _ (h.sites M hM) hu (h4 M hM) (fun x hx=>h6 x (V.byM hM hx)),h.far,fun d hd=>(h.dons d hd).upd hu (h5 d hd),h.dfar,fun x hx=>(h.byt x hx).upd hu (h6 x hx),h.cold,h.apart⟩
theorem WS.upd0 {b:List Nat} (h:WS w V) (hu:Upd [] b w w'):WS w' V:=h.upd hu (by simp) (by simp) (by simp) (by simp) (by simp) (by simp) (by simp)
theorem WS.turn (h:WS w V) {i:Nat} {M M':SiteV} (hM:V.ss[i]? =some M) (h': @SiteS ⟨V.hot⟩ w' M') (hg:M'.gs=M.gs) (hu:Upd M.fp M'.fp w w') :
    WS w' {V with ss:=V.ss.set i M'}∧Upd V.fp ({V with ss:=V.ss.set i M'} :WV).fp w w':=by
  have hMm:M∈V.ss:=List.mem_of_getElem? hM
  have hi:i < V.ss.length:=(List.getElem?_eq_some_iff.1 hM).1
  have hS:=h.sites M hMm
  have off:∀{k:Nat} {t:Option TypeId},tagW w k=some t→t∉siteTags→k∉M.fp:=fun h1 h2=>@SiteS.off ⟨[]⟩ _ _ hS _ _ h1 h2
  have u8:∀{k:Nat},tagW w k=some (some 5)→k∈M.fp→k∈ablk M.Ad:=fun h1 h2=>@SiteS.u8 ⟨[]⟩ _ _ hS _ h1 h2
  have hby:∀x∈V.bytes,∀k∈ablk x.A,k∉M.fp:=fun x hx k hk hm=>h.cold x hx k hk (V.diskIn hMm (u8 ((h.byt x hx).tag k hk) hm))
  have hpk:∀k∈V.pks,k∉M.fp:=fun k hk hm=>h.apart k hk (List.mem_flatMap.2 ⟨M,hMm,u8 (h.tpk k hk) hm⟩)
  -- the new disk is the old one,or new
  have hnew:∀k,k < w.heap.size→k∈ablk M'.Ad→k∈M.fp:=fun k hk hm=>(hu.fresh k (SiteV.adFp hm)).resolve_right (by omega)
  have hmem:∀N∈V.ss.set i M',N=M'∨∃j,j≠i∧V.ss[j]? =some N:=fun N hN=>by
    obtain ⟨j,hj⟩:=List.mem_iff_getElem?.1 hN
    by_cases e:i=j
    · subst e;rw [List.getElem?_set_self hi] at hj;injection hj with hj;exact .inl hj.symm
    · rw [List.getElem?_set_ne e] at hj;exact .inr ⟨j,fun e'=>e e'.symm,hj⟩
  have hdis:∀{j:Nat} {N:SiteV},j≠i→V.ss[j]? =some N→∀k∈N.fp,k∉M.fp:=fun {j N} hne hN k hk hm=>by
    obtain ⟨hj,ej⟩:=List.getElem?_eq_some_iff.1 hN
    obtain ⟨hi2,ei⟩:=List.getElem?_eq_some_iff.1 hM
    have hp:=List.pairwise_iff_getElem.1 h.far
    rcases Nat.lt_or_ge i j with hlt | hlt
    · exact hp i j hi hj hlt k (by rw [ei];exact hm) (by rw [ej];exact hk)
    · exact hp j i hj hi (by omega) k (by rw [ej];exact hk) (by rw [ei];exact hm)
  have hothers:∀{j:Nat} {N:SiteV},j≠i→V.ss[j]? =some N→@SiteS ⟨[]⟩ w' N:=fun {j N} hne hN=>
    @SiteS.upd ⟨[]⟩ _ _ _ _ _ (h.sites N (List.mem_of_getElem? hN)) hu (hdis hne hN) (fun x hx=>hby x (V.byM (List.mem_of_getElem? hN) hx))
  have hlt:∀{j:Nat} {N:SiteV},V.ss[j]? =some N→∀k∈N.fp,k < w.heap.size:=fun hN=>@SiteS.lt ⟨[]⟩ _ _ (h.sites _ (List.mem_of_getElem? hN))
  have hfar':∀{j:Nat} {N:SiteV},j≠i→V.ss[j]? =some N→∀k∈M'.fp,k∉N.fp:=fun hne hN k hk hm=>by
    rcases hu.fresh k hk with h1 | h1
    · exact hdis hne hN k hm h1
    · have:=hlt hN k hm;omega
  have hhot:∀k∈({V with ss:=V.ss.set i M'} :WV).hot,k∈V.hot∨k∈ablk M'.Ad:=fun k hk=>by
    rcases List.mem_append.1 hk with hk | hk
    · obtain ⟨N,hN,hk2⟩:=List.mem_flatMap.1 hk
      rcases hmem N hN with e | ⟨j,-,hj⟩
      · rw [e] at hk2;exact .inr hk2
      · exact .inl (V.diskIn (List.mem_of_getElem? hj) hk2)
    · exact .inl (V.pkIn hk)
  have hbm:∀x∈({V with ss:=V.ss.set i M'} :WV).bytes,x∈M'.bytes∨x∈V.bytes:=fun x hx=>by
    rcases List.mem_append.1 hx with hx | hx
    · obtain ⟨N,hN,hx2⟩:=List.mem_flatMap.1 hx
      rcases hmem N hN with e | ⟨j,-,hj⟩
      · rw [e] at hx2;exact .inl hx2
      · exact .inr (V.byM (List.mem_of_getElem? hj) hx2)
    · exact .inr (List.mem_append.2 (.inr hx))
  refine ⟨⟨?_,?_,?_,h.eq,h.may,?_,?_,?_,?_,?_,h.dfar,?_,?_,?_⟩,?_⟩
  · have:=h.blk.upd hu (off h.blk.tag (by decide))
    simpa [WV.cells] using this
  · have:=h.row.upd hu (fun k hk=>off (h.row.tag k hk) (by decide))
    have e:(V.ss.set i M').map SiteV.ptr=V.ss.map SiteV.ptr:=by
      rw [List.map_set]
      refine List.ext_getElem? fun j=>?_
      by_cases e:i=j
      · subst e
        rw [List.getElem?_set_self (by simpa using hi),List.getElem?_map,hM]
        simp [SiteV.ptr,hg]
      · rw [List.getElem?_set_ne e]
    simp only [List.length_set,e]
    exact this
  · refine h.net.upd hu fun k hk=>?_
    simp only [fpN,List.mem_cons,List.mem_append] at hk
    rcases hk with rfl | hk | hk
    · exact off h.net.blk.tag (by decide)
    · exact off (h.tpkl k hk) (by decide)
    · exact hpk k hk
  · exact h.drow.upd hu (fun k hk=>off (h.drow.tag k hk) (by decide))
  · simp only [List.length_set];exact h.dlen
  · intro N hN
    rcases hmem N hN with rfl | ⟨j,hj,hN⟩
    · exact SiteS.reban h' (by simp) (by simp)
    · exact hothers hj hN
  · refine List.pairwise_iff_getElem.2 fun a b ha hb hab=>?_
    simp only [List.length_set] at ha hb
    have hga:V.ss[a]? =some V.ss[a]:=List.getElem?_eq_getElem ha
    have hgb:V.ss[b]? =some V.ss[b]:=List.getElem?_eq_getElem hb
    rw [List.getElem_set,List.getElem_set]
    split
    · rename_i e
      subst e
      rw [if_neg (by omega)]
      exact hfar' (by omega) hgb
    · split
      · rename_i e1 e
        subst e
        exact fun k hk hm=>hfar' (by omega) hga k hm hk
      · exact List.pairwise_iff_getElem.1 h.far a b ha hb hab
  · exact fun d hd=>(h.dons d hd).upd hu (fun k hk=>off ((h.dons d hd).tag k hk) (by decide))
  · intro x hx
    rcases hbm x hx with hx | hx
    · exact @SiteS.byt ⟨V.hot⟩ _ _ h' x hx
    · exact (h.byt x hx).upd hu (hby x hx)
  · intro x hx k hk hm
    rcases hbm x hx with hx | hx
    · rcases hhot k hm with h1 | h1
      · exact @SiteS.bad ⟨V.hot⟩ _ _ h' x hx k hk (List.mem_append.2 (.inr h1))
      · exact @SiteS.bad ⟨V.hot⟩ _ _ h' x hx k hk (List.mem_append.2 (.inl h1))
    · rcases hhot k hm with h1 | h1
      · exact h.cold x hx k hk h1
      · exact hby x hx k hk (hnew k (tag_lt ((h.byt x hx).tag k hk)) h1)
  · intro k hk hm
    obtain ⟨N,hN,hm2⟩:=List.mem_flatMap.1 hm
    rcases hmem N hN with e | ⟨j,-,hj⟩
    · rw [e] at hm2;exact hpk k hk (hnew k (tag_lt (h.tpk k hk)) hm2)
    · exact h.apart k hk (List.mem_flatMap.2 ⟨N,List.mem_of_getElem? hj,hm2⟩)
  · refine hu.mono (fun k hk=>?_) (fun k hk=>?_)
    · simp only [WV.fp,List.mem_append,List.mem_flatMap]
      exact .inr (.inr (.inl ⟨M,hMm,hk⟩))
    · simp only [WV.fp,List.mem_append,List.mem_flatMap] at hk ⊢
      rcases hk with hk | hk | ⟨N,hN,hk2⟩ | hk
      · exact .inr (.inl (.inl hk))
      · exact .inr (.inl (.inr (.inl hk)))
      · rcases hmem N hN with e | ⟨j,-,hj⟩
        · rw [e] at hk2;exact .inl hk2
        · exact .inr (.inl (.inr (.inr (.inl ⟨N,List.mem_of_getElem? hj,hk2⟩))))
      · exact .inr (.inl (.inr (.inr (.inr hk))))
end
end Go.Proofs.YtijhlbeipglieaaGreat
namespace Go.Proofs.YtijhlbeipglieaaGreat
open Go.RowKit Agio Go.Maps
def WV.at_ (V:WV) (i:Int):Option SiteV:=if 0≤i then V.ss[i.toNat]? else none
def ptrO:Option SiteV→Value
  | none=>.pointer none
  | some M=>M.ptr
theorem WV.at_nat (V:WV) (i:Nat):V.at_ (i:Int)=V.ss[i]?:=by unfold WV.at_;rw [if_pos (by omega)];rfl
theorem worldAt (w:World) (V:WV) (h:WS w V) (i:Int):Calls Tryz.prog 102 #[V.ptr,.int .i64 i] w fun e w'=>e= .returned (ptrO (V.at_ i))∧w=w':=by
  have q0:w.cell? ⟨V.gw,0,none⟩=some (.slice V.As V.ss.length V.cs):=h.blk.cell 0
  obtain ⟨n,hn⟩:∃n,V.ss.length=n:=⟨_,rfl⟩
  rw [WV.ptr]
  by_cases h0:i < 0
  · have HE:=Lib.hid (show ptrO (V.at_ i)= .pointer none by unfold WV.at_;rw [if_neg (by omega)];rfl)
    rw [hn] at q0
    clear h
    go_enter Tryz.func102,Tryz.ntmps102
    repeat' (first|go_values|go_skip|go_guarded|go_step|go_upon|(simp only [];go_at_K))
    go_ret
    exact ⟨by rw [HE.out];rfl,rfl⟩
  by_cases h1:(n:Int)≤i
  · have HE:=Lib.hid (show ptrO (V.at_ i)= .pointer none by unfold WV.at_;rw [if_pos (by omega),List.getElem?_eq_none (by omega)];rfl)
    rw [hn] at q0
    have d0:decide (i < 0)=false:=decide_eq_false h0
    clear h
    go_enter Tryz.func102,Tryz.ntmps102
    repeat' (first|go_values|go_skip|go_guarded|go_step|go_upon|(simp only [];go_at_K))
    go_ret
    exact ⟨by rw [HE.out];rfl,rfl⟩
  · obtain ⟨k,rfl⟩:∃k:Nat,i=(k:Int):=⟨i.toNat,by omega⟩
    have hk:k < V.ss.length:=by omega
    have HE:=Lib.hid (show ptrO (V.at_ (k:Int))=V.ss[k].ptr by rw [WV.at_nat,List.getElem?_eq_getElem hk];rfl)
    obtain ⟨P,hP⟩:∃P,V.ss[k].ptr=P:=⟨_,rfl⟩
    rw [hP] at HE
    obtain ⟨g,hA,hc⟩:∃g,V.As=some ⟨g,0,none⟩∧w.cell? ⟨g,k,none⟩=some P:=by
      obtain ⟨g,cur,hA,hB,hl,hnc,-⟩:=h.row.block (by omega)
      refine ⟨g,hA,?_⟩
      have:=hB.cell k
      rw [this,List.getElem?_toArray,List.getElem?_append_left (by simpa using hk),List.getElem?_map,List.getElem?_eq_getElem hk]
      simp [hP]
    rw [hn,hA] at q0
    have d1:decide ((n:Int)≤(k:Int))=false:=decide_eq_false h1
    have hkn:k < n:=by omega
    clear h
    go_enter Tryz.func102,Tryz.ntmps102
    repeat' (first|go_values|go_skip|go_guarded|go_step|go_upon|(simp only [];go_at_K))
    go_ret
    exact ⟨by rw [HE.out];rfl,rfl⟩
theorem worldAt_nil (w:World) (i:Int):Calls Tryz.prog 102 #[.pointer none,.int .i64 i] w fun e w'=>e= .returned (ptrO none)∧w=w':=by
  go_enter Tryz.func102,Tryz.ntmps102
  repeat' (first|go_values|go_skip|go_guarded|go_step|go_upon|(simp only [];go_at_K))
  go_ret
  exact ⟨rfl,rfl⟩
def AtC (w:World) (W:Value) (i:Int) (P:Option SiteV):Prop:=Calls Tryz.prog 102 #[W,.int .i64 i] w fun e w'=>e= .returned (ptrO P)∧w=w'
section
variable [Ban] {w:World} {W:Value} {i:Int} {P:Option SiteV}
theorem worldFrontier (C:AtC w W i P) (hS:∀M,P=some M→SiteS w M) :
    Calls Tryz.prog 54 #[W,.int .i64 i] w fun e w'=>e= .returned (.int .i64 ((P.map fun M=>M.pl.front).getD 0:Nat))∧w=w':=by
  have C1:Calls Tryz.prog 28 #[ptrO P] w fun e w'=>e= .returned (.int .i64 ((P.map fun M=>M.pl.front).getD 0:Nat))∧w=w':=by
    cases P with
    | none=>exact siteFrontier_nil w
    | some M=>exact siteFrontier w M (hS M rfl)
  unfold AtC at C
  generalize (P.map fun M=>M.pl.front).getD 0=R at *
  generalize ptrO P=Q at *
  clear hS
  go_enter Tryz.func54,Tryz.ntmps54
  repeat' (first|go_values|go_skip|go_guarded|go_step|go_upon|(simp only [];go_at_K))
  ((with_reducible refine C.mono ?_);rintro e w1 ⟨rfl,rfl⟩)
  repeat' (first|go_values|go_skip|go_guarded|go_step|go_upon|(simp only [];go_at_K))
  ((with_reducible refine C1.mono ?_);rintro e w1 ⟨rfl,rfl⟩)
  repeat' (first|go_values|go_skip|go_guarded|go_step|go_upon|(simp only [];go_at_K))
  go_ret
  exact ⟨rfl,rfl⟩
theorem worldTop (C:AtC w W i P) (hS:∀M,P=some M→SiteS w M) :
    Calls Tryz.prog 55 #[W,.int .i64 i] w fun e w'=>e= .returned (.int .i64 ((P.map fun M=>M.pl.topA).getD 0))∧Upd [] [] w w':=by
  have C1:Calls Tryz.prog 36 #[ptrO P] w fun e w'=>e= .returned (.int .i64 ((P.map fun M=>M.pl.topA).getD 0))∧Upd [] [] w w':=by
    cases P with
    | none=>
      refine (siteTop_nil w).mono ?_
      rintro e w' ⟨rfl,rfl⟩
      exact ⟨rfl,Upd.refl _ _⟩
    | some M=>exact siteTop w M (hS M rfl)
  unfold AtC at C
  generalize (P.map fun M=>M.pl.topA).getD 0=R at *
  generalize ptrO P=Q at *
  clear hS
  go_enter Tryz.func55,Tryz.ntmps55
  repeat' (first|go_values|go_skip|go_guarded|go_step|go_upon|(simp only [];go_at_K))
  ((with_reducible refine C.mono ?_);rintro e w1 ⟨rfl,rfl⟩)
  repeat' (first|go_values|go_skip|go_guarded|go_step|go_upon|(simp only [];go_at_K))
  ((with_reducible refine C1.mono ?_);rintro e w1 ⟨rfl,u1⟩)
  repeat' (first|go_values|go_skip|go_guarded|go_step|go_upon|(simp only [];go_at_K))
  go_ret
  exact ⟨rfl,u1⟩
theorem worldDown (C:AtC w W i P) (hS:∀M,P=some M→SiteS w M) :
    Calls Tryz.prog 56 #[W,.int .i64 i] w fun e w'=>e= .returned (.bool ((P.map fun M=>M.pl.down).getD true))∧w=w':=by
  have C1:Calls Tryz.prog 17 #[ptrO P] w fun e w'=>e= .returned (.bool ((P.map fun M=>M.pl.down).getD true))∧w=w':=by
    cases P with
    | none=>exact siteDown_nil w
    | some M=>exact siteDown w M (hS M rfl)
  unfold AtC at C
  generalize (P.map fun M=>M.pl.down).getD true=R at *
  generalize ptrO P=Q at *
  clear hS
  go_enter Tryz.func56,Tryz.ntmps56
  repeat' (first|go_values|go_skip|go_guarded|go_step|go_upon|(simp only [];go_at_K))
  ((with_reducible refine C.mono ?_);rintro e w1 ⟨rfl,rfl⟩)
  repeat' (first|go_values|go_skip|go_guarded|go_step|go_upon|(simp only [];go_at_K))
  ((with_reducible refine C1.mono ?_);rintro e w1 ⟨rfl,rfl⟩)
  repeat' (first|go_values|go_skip|go_guarded|go_step|go_upon|(simp only [];go_at_K))
  go_ret
  exact ⟨rfl,rfl⟩
theorem worldDecided (C:AtC w W i P) (hS:∀M,P=some M→SiteS w M) (x:Int) (hx:(Lit.int .i64 x).wf=true) :
    Calls Tryz.prog 47 #[W,.int .i64 i,.int .i64 x] w fun e w'=>∃A n c,e= .returned (.tuple #[.slice A n c,.bool (P.bind fun M=>M.pl.dec x).isSome])∧OwnB 5 w' A n c ((P.bind fun M=>M.pl.dec x).getD [])∧Upd [] (ablk A) w w':=by
  have C1:Calls Tryz.prog 33 #[ptrO P,.int .i64 x] w fun e w'=>∃A n c,e= .returned (.tuple #[.slice A n c,.bool (P.bind fun M=>M.pl.dec x).isSome])∧OwnB 5 w' A n c ((P.bind fun M=>M.pl.dec x).getD [])∧Upd [] (ablk A) w w':=by
    cases P with
    | none=>
      refine (siteDecided_nil w x).mono ?_
      rintro e w' ⟨rfl,rfl⟩
      exact ⟨none,0,0,rfl,OwnB.nil _ _,Upd.refl _ _⟩
    | some M=>exact siteDecided w M (hS M rfl) x hx
  unfold AtC at C
  generalize (P.bind fun M=>M.pl.dec x)=R at *
  generalize ptrO P=Q at *
  clear hS
  go_enter Tryz.func47,Tryz.ntmps47
  repeat' (first|go_values|go_skip|go_guarded|go_step|go_upon|(simp only [];go_at_K))
  ((with_reducible refine C.mono ?_);rintro e w1 ⟨rfl,rfl⟩)
  repeat' (first|go_values|go_skip|go_guarded|go_step|go_upon|(simp only [];go_at_K))
  ((with_reducible refine C1.mono ?_);rintro e w1 ⟨A,n,c,rfl,ho,hu⟩)
  repeat' (first|go_values|go_skip|go_guarded|go_step|go_upon|(simp only [];go_at_K))
  go_ret2
  exact ⟨A,n,c,rfl,ho,hu⟩
end
theorem worldPackets_nil (w:World):Calls Tryz.prog 57 #[.pointer none] w fun e w'=>e= .returned (.int .i64 0)∧w=w':=by
  go_enter Tryz.func57,Tryz.ntmps57
  repeat' (first|go_values|go_skip|go_guarded|go_step|go_upon|(simp only [];go_at_K))
  go_ret
  exact ⟨rfl,rfl⟩
end Go.Proofs.YtijhlbeipglieaaGreat
namespace Go.Proofs.YtijhlbeipglieaaGreat
open Go.RowKit Agio Go.Maps
section
variable {w w':World} {V:WV}
theorem WS.netTurn (h:WS w V) {A':Option Addr} {n' c':Nat} {pk':List Pk} {net':List Ms} (hn:NetS w' V.gn A' n' c' pk') (he:pk'.map (fun x=>(x.to,x.b))=net'.map fun m=>(m.to,m.bytes))
    (hm:∀m∈net',m.May) (hu:Upd (fpN V.gn V.An V.pk) (fpN V.gn A' pk') w w') :
    WS w' {V with An:=A',nn:=n',cn:=c',pk:=pk',net:=net'}∧Upd V.fp ({V with An:=A',nn:=n',cn:=c',pk:=pk',net:=net'} :WV).fp w w':=by
  have off:∀{k:Nat} {t:Option TypeId},tagW w k=some t→t≠some 274→t≠some 315→t≠some 5→k∉fpN V.gn V.An V.pk:=fun h1 h2 h3 h4 hm=>by
    rcases h.netIn h1 hm with e | e | ⟨e,-⟩
    · exact h2 e
    · exact h3 e
    · exact h4 e
  have u8:∀{k:Nat},tagW w k=some (some 5)→k∈fpN V.gn V.An V.pk→k∈V.pks:=fun h1 hm=>by
    rcases h.netIn h1 hm with e | e | ⟨-,e⟩
    · exact absurd e (by decide)
    · exact absurd e (by decide)
    · exact e
  have hby:∀x∈V.bytes,∀k∈ablk x.A,k∉fpN V.gn V.An V.pk:=fun x hx k hk hm=>h.cold x hx k hk (V.pkIn (u8 ((h.byt x hx).tag k hk) hm))
  have hsite:∀M∈V.ss,∀k∈M.fp,k∉fpN V.gn V.An V.pk:=fun M hM k hk hm=>by
    obtain ⟨t,ht,h2⟩:=@SiteS.tagIn ⟨[]⟩ _ _ (h.sites M hM) k hk
    rcases h.netIn h2 hm with e | e | ⟨e,h3⟩
    · subst e;exact absurd ht (by decide)
    · subst e;exact absurd ht (by decide)
    · subst e
      exact h.apart k h3 (List.mem_flatMap.2 ⟨M,hM,@SiteS.u8 ⟨[]⟩ _ _ (h.sites M hM) _ h2 hk⟩)
  have hpk:∀k∈({V with An:=A',nn:=n',cn:=c',pk:=pk',net:=net'} :WV).pks,k∈fpN V.gn A' pk':=fun k hk=>by
    simp only [fpN,List.mem_cons,List.mem_append];exact .inr (.inr hk)
  refine ⟨⟨?_,h.row.upd hu (fun k hk=>off (h.row.tag k hk) (by decide) (by decide) (by decide)),hn,he,hm,h.drow.upd hu (fun k hk=>off (h.drow.tag k hk) (by decide) (by decide) (by decide)),h.dlen,
    fun M hM=>@SiteS.upd ⟨[]⟩ _ _ _ _ _ (h.sites M hM) hu (hsite M hM) (fun x hx=>hby x (V.byM hM hx)),h.far,fun d hd=>(h.dons d hd).upd hu (fun k hk=>off ((h.dons d hd).tag k hk) (by decide) (by decide) (by decide)),h.dfar,
    fun x hx=>(h.byt x hx).upd hu (hby x hx),?_,?_⟩,?_⟩
  · exact h.blk.upd hu (off h.blk.tag (by decide) (by decide) (by decide))
  · intro x hx k hk hm2
    rcases List.mem_append.1 hm2 with h1 | h1
    · exact h.cold x hx k hk (List.mem_append.2 (.inl h1))
    · rcases hu.fresh k (hpk k h1) with h2 | h2
      · exact hby x hx k hk h2
      · have:=tag_lt ((h.byt x hx).tag k hk);omega
  · intro k hk hm2
    obtain ⟨M,hM,hm3⟩:=List.mem_flatMap.1 hm2
    rcases hu.fresh k (hpk k hk) with h2 | h2
    · exact hsite M hM k (SiteV.adFp hm3) h2
    · have:=@SiteS.lt ⟨[]⟩ _ _ (h.sites M hM) k (SiteV.adFp hm3);omega
  · refine hu.mono (fun k hk=>?_) (fun k hk=>?_)
    · simp only [WV.fp,List.mem_append]
      exact .inr (.inl hk)
    · simp only [WV.fp,List.mem_append] at hk ⊢
      rcases hk with hk | hk | hk
      · exact .inr (.inl (.inl hk))
      · exact .inl hk
      · exact .inr (.inl (.inr (.inr hk)))
theorem WS.lt (h:WS w V):∀k∈V.fp,k < w.heap.size:=by
  intro k hk
  simp only [WV.fp,List.mem_append,List.mem_flatMap] at hk
  rcases hk with hk | hk | ⟨M,hM,hk⟩ | ⟨d,hd,hk⟩
  · exact h.drow.lt k hk
  · exact h.net.lt k hk
  · exact @SiteS.lt ⟨[]⟩ _ _ (h.sites M hM) k hk
  · exact (h.dons d hd).lt k hk
theorem WS.u8 (h:WS w V) {k:Nat} (hk:tagW w k=some (some 5)) (hh:k∉V.hot):k∉V.fp:=by
  intro hm
  simp only [WV.fp,List.mem_append,List.mem_flatMap] at hm
  rcases hm with hm | hm | ⟨M,hM,hm⟩ | ⟨d,hd,hm⟩
  · exact tag_ne hk (h.drow.tag k hm) (by decide) rfl
  · rcases h.netIn hk hm with e | e | ⟨-,e⟩
    · exact absurd e (by decide)
    · exact absurd e (by decide)
    · exact hh (V.pkIn e)
  · exact hh (V.diskIn hM (@SiteS.u8 ⟨[]⟩ _ _ (h.sites M hM) _ hk hm))
  · exact tag_ne hk ((h.dons d hd).tag k hm) (by decide) rfl
end
end Go.Proofs.YtijhlbeipglieaaGreat
