/- Merged: SiteA, SiteB, SiteC, SiteD. -/
import Derived.Test.YtijhlbeipglieaaGreatPkSiteM
set_option linter.all false
set_option maxRecDepth 100000
set_option maxHeartbeats 4000000
namespace Go.Proofs.YtijhlbeipglieaaGreat
open Go.RowKit Agio Go.Maps
theorem infoMsg:(Tryz.prog.info? 32).map (fun i=>(i.zero,i.size,i.bytes))=some (some (.agg #[.int .i64 0,.int .i64 0,.int .i64 0,.int .i64 0,.int .i64 0,.int .i64 0,.int .i64 0,.int .i64 0,.bool false,.slice none 0 0]),10,96):=by kernel_rfl
variable [Ban]
def Goes (w w':World) (M:SiteV) (s:Site):Prop:=∃M',SiteS w' M'∧M'.pl=s∧M'.gs=M.gs∧M'.rs=M.rs∧Upd M.fp M'.fp w w'
theorem SiteS.push {w:World} {M:SiteV} (h:SiteS w M) (x:Mv) (hx:BytS w x.sl) (hbad:∀k∈ablk x.A,k∉M.bans) (hm:x.ms.May) (hl:M.held.length≤1000000000) :
  ∃A' c' w3,(Builtin.append_ #[26,26] 26 #[.slice M.Ah M.held.length M.ch,.slice (some ⟨w.heap.size,0,none⟩) 1 1]).run Tryz.prog (w.alloc (.cells x.cells.toArray 32))= .ok (.slice A' (M.held.length + 1) c') w3∧
   w3.cell? ⟨M.gs,11,none⟩=some (.slice M.Ah M.held.length M.ch)∧w3.frozen? ⟨M.gs,11,none⟩=false∧
   SiteS (w3.setCell ⟨M.gs,11,none⟩ (.slice A' (M.held.length + 1) c')) {M with Ah:=A',ch:=c',held:=M.held ++ [x]}∧
   Upd M.fp ({M with Ah:=A',ch:=c',held:=M.held ++ [x]} :SiteV).fp w (w3.setCell ⟨M.gs,11,none⟩ (.slice A' (M.held.length + 1) c')):=by
 have h1:=h.upd0 ((Upd.refl [] w).alloc (.cells x.cells.toArray 32))
 obtain ⟨A',c',w3,hrun,ho,hu⟩:=run_app (P:=Tryz.prog) _ 26 26 32 Tryz.underlying26 infoMsg rfl (by decide) M.Ah M.held.length M.ch _ h1.hld (some ⟨w.heap.size,0,none⟩) 1 1 x.cells (Rd.blk (Blk.new _ _ _) rfl)
  (by intro u hu;simp only [Mv.cells,List.mem_cons,List.not_mem_nil,or_false] at hu;rcases hu with rfl | rfl | rfl | rfl | rfl | rfl | rfl | rfl | rfl | rfl <;> rfl) (by unfold maxLen;omega) (by omega)
 have hg:M.gs∉ablk M.Ah:=tag_off h1.tg h1.tH (by decide)
 have hb3:=h1.blk.upd hu hg
 have U:Upd (ablk M.Ah) (ablk A') w w3:=((Upd.refl (ablk M.Ah) w).alloc _).trans hu
 refine ⟨A',c',w3,hrun,hb3.cell 11,hb3.frozen 11,?_⟩
 refine h.hold U ?_ ?_ ((Upd.refl [M.gs] w3).setCell (p:=⟨M.gs,11,none⟩) (.inl (by simp)) _) ?_ ?_
 ·rw [List.length_append,List.flatMap_append,List.flatMap_cons,List.flatMap_nil,List.append_nil];exact ho
 ·intro y hy
  rcases List.mem_append.1 hy with hy | hy
  ·have:y.sl∈M.bytes:=by simp only [SiteV.bytes,List.mem_append];exact .inr (.inr (.inr (List.mem_map_of_mem hy)))
   exact ⟨h.byt _ this,h.bad _ this⟩
  ·obtain rfl:=List.mem_singleton.1 hy
   exact ⟨hx,hbad⟩
 ·have:=hb3.set_ 11 (.slice A' (M.held.length + 1) c')
  simpa [SiteV.cells] using this
 ·have e:({M with Ah:=A',ch:=c',held:=M.held ++ [x]} :SiteV).pl= {M.pl with held:=M.pl.held ++ [x.ms]}:=by simp [SiteV.pl]
  rw [e]
  refine h.ok.put fun m hm'=>?_
  rcases List.mem_append.1 hm' with h' | h'
  ·exact h.ok.held m h'
  ·obtain rfl:=List.mem_singleton.1 h'
   exact hm
theorem siteSend (w:World) (M:SiteV) (h:SiteS w M) (to:Int) (m:Mv) (hm:m.ms.Fit) (ht:0≤to∧to≤6) (hr:RdB w m.A m.n m.b) (hl:M.held.length≤1000000000) :
  Calls Tryz.prog 64 #[M.ptr,.int .i64 to,m.val] w fun e w'=>e= .returned (.tuple #[])∧Goes w w' M (M.pl.send to m.ms):=by
 obtain ⟨W,H,eW,hH,hB,U0⟩:=boxes1 w 32 #[.int .i64 m.k,.int .i64 m.f,.int .i64 m.t,.int .i64 m.s,.int .i64 m.br,.int .i64 m.bs,.int .i64 m.hr,.int .i64 m.hs,.bool m.so,.slice m.A m.n m.c]
 have hs1:=h.upd0 U0
 have hr1:=hr.upd U0 (by simp)
 have hml:m.b.length≤2048:=hm.val
 have C:=bytesClone W.drew m.A m.n m.c m.b hr1 (by omega)
 have q0:W.drew.cell? ⟨M.gs,0,none⟩=some (.int .i64 (M.me:Int)):=hs1.blk.cell 0
 rw [Mv.val_eq,SiteV.ptr]
 go_enter Tryz.func64,Tryz.ntmps64
 repeat' (first|go_values|go_skip|go_guarded|go_step|go_upon|(simp only [];go_at_K))
 obtain ⟨⟨a0,a1,a2,a3,a4,a5,a6,a7,a8,a9⟩,f0,f1,f2,f3,f4,f5,f6,f7,f8,f9⟩:=hB.drew.c10
 go_region_with (first | (go_at_call 58;(with_reducible refine C.mono ?_);rintro e W1 ⟨A,n,c,rfl,ho,hu1⟩;have K1:=hB.drew.upd hu1 (by simp);have p0:=hu1.cell q0 (by simp);clear a0 a1 a2 a3 a4 a5 a6 a7 a8 a9 f0 f1 f2 f3 f4 f5 f6 f7 f8 f9;obtain ⟨⟨a0,a1,a2,a3,a4,a5,a6,a7,a8,a9⟩,f0,f1,f2,f3,f4,f5,f6,f7,f8,f9⟩:=K1.c10))
 all_goals
  have hsz:W.heap.size≤W1.heap.size:=hu1.size
  have hHl:=hB.lt
  have u2:Upd [H] [H] W1 (((W1.setCell ⟨H,1,none⟩ (.int .i64 (M.me:Int))).setCell ⟨H,2,none⟩ (.int .i64 to)).setCell ⟨H,9,none⟩ (.slice A n c)):=(((Upd.refl [H] W1).setCell (p:=⟨H,1,none⟩) (.inl (by simp)) _).setCell (p:=⟨H,2,none⟩) (.inl (by simp)) _).setCell (p:=⟨H,9,none⟩) (.inl (by simp)) _
  have K2:=((K1.set_ 1 (.int .i64 (M.me:Int))).set_ 2 (.int .i64 to)).set_ 9 (.slice A n c)
  have n1:=hs1.drew.upd0 hu1
  have hHf:H∉M.fp:=fun hk=>by have:=h.lt H hk;omega
  have n2:=n1.set K1 (by decide) hHf u2
  have hA1:∀k∈ablk A,W.heap.size≤k:=(Upd.refl [] W.drew).new hu1
  have ho2:=ho.upd u2 (fun k hk=>by have:=hA1 k hk;simp;omega)
  have U2:=((U0.drew.trans (hu1.up _)).gives (b':=[]) (by simp)).own (by omega) u2
  clear hu1 u2 K1 p0 a0 a1 a2 a3 a4 a5 a6 a7 a8 a9 f0 f1 f2 f3 f4 f5 f6 f7 f8 f9 n1 ho
  repeat' (first|go_values|go_skip|go_guarded|go_step|go_upon|(simp only [];go_at_K))
  generalize hW:World.setCell _ _ _=W2
  rw [hW] at K2 n2 ho2 U2
  clear hW
  have T2:BytS W2 ⟨A,n,c,m.b⟩:=⟨ho2.rd,ho2.own.tag⟩
  have hAd:∀k∈ablk A,k∉M.bans:=fun k hk hm=>by have h1:=hA1 k hk;have h2:=h.bansLt k hm;have h3:=U0.size;omega
  have hmay:({m.ms with frm:=(M.me:Int),to:=to} :Ms).May:=hm.may (by have h1:=h.ok.me;have h2:=h.ok.n7;have e1:M.pl.me=M.me:=rfl;have e2:M.pl.n=M.n:=rfl;omega) ht
  obtain ⟨A3,c3,w3,hrun,q3,f3,P1,P2⟩:=n2.drew.push ⟨m.k,M.me,to,m.s,m.br,m.bs,m.hr,m.hs,m.so,A,n,c,m.b⟩ (T2.upd0 (Upd.refl [] W2).drew) hAd hmay hl
  have q11':(W2.alloc (.cells #[.int .i64 m.k,.int .i64 (M.me:Int),.int .i64 to,.int .i64 m.s,.int .i64 m.br,.int .i64 m.bs,.int .i64 m.hr,.int .i64 m.hs,.bool m.so,.slice A n c] 32)).cell? ⟨M.gs,11,none⟩=some (.slice M.Ah M.held.length M.ch):=(n2.blk.alloc _).cell 11
  have q11:W2.drew.cell? ⟨M.gs,11,none⟩=some (.slice M.Ah M.held.length M.ch):=n2.blk.cell 11
  simp only [Mv.cells] at hrun
  obtain ⟨⟨a0,a1,a2,a3,a4,a5,a6,a7,a8,a9⟩,-⟩:=K2.drew.c10
  have PU:=(U2.up M.fp).drew.trans P2
  have PE:({M with Ah:=A3,ch:=c3,held:=M.held ++ [⟨m.k,M.me,to,m.s,m.br,m.bs,m.hr,m.hs,m.so,A,n,c,m.b⟩]} :SiteV).pl=M.pl.send to m.ms:=by simp [SiteV.pl,Site.send,Mv.ms]
  have KEY:=Lib.hid (show Goes w _ M (M.pl.send to m.ms) from ⟨_,P1,PE,rfl,rfl,PU⟩)
  clear P1 P2 PU PE h hs1 n2 K2 T2 hAd hmay hA1 ho2 U2 hr hr1 hm
  go_region_law (first
   | (refine step_run rfl (.tmp 22) (.tmp 24) 26 rfl (.slice M.Ah M.held.length M.ch) (.slice (some ⟨W2.drew.heap.size,0,none⟩) 1 1) _ w3 rfl rfl hrun ?_))
  all_goals (repeat' ((fail_if_success (with_reducible refine stop_append rfl ?_));first | go_values | go_skip | go_guarded | go_step | go_upon | (simp only [];go_at_K)))
  all_goals exact bodyPost_end (results_none rfl _ _ _) rfl ⟨rfl,KEY.out⟩
end Go.Proofs.YtijhlbeipglieaaGreat
namespace Go.Proofs.YtijhlbeipglieaaGreat
open Go.RowKit Agio Go.Maps
theorem SiteV.held_len (M:SiteV):M.pl.held.length=M.held.length:=by simp [SiteV.pl]
variable [Ban]
theorem SiteV.q0 {w:World} {M M':SiteV} (h:SiteS w M') (hg:M'.gs=M.gs) (hm:M'.me=M.me):w.cell? ⟨M.gs,0,none⟩=some (.int .i64 (M.me:Int)):=by
 have:=h.blk.cell 0
 rw [←hg,this,←hm];rfl
theorem siteOthers (w:World) (M:SiteV) (h:SiteS w M) (m:Mv) (hm:m.ms.Fit) (hr:RdB w m.A m.n m.b) (hf:∀k∈ablk m.A,k∉M.fp) (hl:M.held.length≤900000000) :
  Calls Tryz.prog 62 #[M.ptr,m.val] w fun e w'=>e= .returned (.tuple #[])∧Goes w w' M (M.pl.others m.ms M.n):=by
 obtain ⟨W,H,eW,hH,hB,U0⟩:=boxes1 w 32 #[.int .i64 m.k,.int .i64 m.f,.int .i64 m.t,.int .i64 m.s,.int .i64 m.br,.int .i64 m.bs,.int .i64 m.hr,.int .i64 m.hs,.bool m.so,.slice m.A m.n m.c]
 have hs1:=h.upd0 U0
 have hr1:=hr.upd U0 (by simp)
 have hHf:H∉M.fp:=fun hk=>by have:=h.lt H hk;omega
 have q1:W.cell? ⟨M.gs,1,none⟩=some (.int .i64 (M.n:Int)):=hs1.blk.cell 1
 have hn7:M.n≤7:=h.ok.n7
 have hmn:M.me < M.n:=h.ok.me
 rw [Mv.val_eq,SiteV.ptr]
 go_enter Tryz.func62,Tryz.ntmps62
 repeat' (first|go_values|go_skip|go_guarded|go_step|go_upon|(simp only [];go_at_K))
 go_loopw [9] (fun v9 wr=>∃(i:Nat) (M':SiteV),i≤M.n∧v9= .int .i64 (i:Int)∧SiteS wr M'∧M'.pl=M.pl.others m.ms i∧M'.gs=M.gs∧M'.rs=M.rs∧Upd M.fp M'.fp W wr) (fun v9 _=>M.n - (intOf v9).toNat)
 case atStart=>exact ⟨0,M,by omega,rfl,hs1,rfl,rfl,rfl,Upd.refl _ _⟩
 case round=>
  obtain ⟨i,M',hi,rfl,h',hp,hg,hrs,U⟩:=hrel
  have hme:M'.me=M.me:=by have:=congrArg Site.me hp;rw [(Site.others_me _ _).1] at this;exact this
  by_cases hlt:i < M.n
  ·have hil:(i:Int) < (M.n:Int):=by omega
   have hw1:IntKind.i64.wrap ((i:Int) + 1)=(i:Int) + 1:=by rw [IntKind.wrap_i64];omega
   have p0:=SiteV.q0 h' hg hme
   have K:=hB.upd U hHf
   obtain ⟨⟨a0,a1,a2,a3,a4,a5,a6,a7,a8,a9⟩,-⟩:=K.c10
   by_cases he:i=M.me
   ·have d1:((i:Int) == (M.me:Int))=true:=by rw [he];exact beq_self_eq_true _
    have hp1:M'.pl=M.pl.others m.ms (i + 1):=by rw [hp];conv=>rhs;unfold Site.others;rw [if_pos (show i=M.pl.me from he)]
    have KEY:=Lib.hid (show ∃(j:Nat) (M2:SiteV),j≤M.n∧Value.int .i64 ((i:Int) + 1)= .int .i64 (j:Int)∧SiteS wr M2∧M2.pl=M.pl.others m.ms j∧M2.gs=M.gs∧M2.rs=M.rs∧Upd M.fp M2.fp W wr from ⟨i + 1,M',by omega,by simp,h',hp1,hg,hrs,U⟩)
    clear he hp hp1
    repeat' (first|go_values|go_skip|go_guarded|go_step|go_upon|(simp only [];go_at_K))
    exact ⟨KEY.out,by simp [intOf];omega⟩
   ·have d1:((i:Int) == (M.me:Int))=false:=beq_false_of_ne (by omega)
    have hlen:M'.held.length≤1000000000:=by
     rw [←SiteV.held_len,hp,Site.others_eq]
     have:=Site.tell_len M.pl m.ms i
     simp only [List.length_append]
     rw [SiteV.held_len];omega
    have C:=siteSend wr M' h' (i:Int) m hm (by omega) (hr1.upd U hf) hlen
    rw [Mv.val_eq,SiteV.ptr,hg] at C
    have HP:=Lib.hid (show (M'.pl.send (i:Int) m.ms)=M.pl.others m.ms (i + 1) by rw [hp];conv=>rhs;unfold Site.others;rw [if_neg (show ¬ i=M.pl.me from he)])
    clear he hp
    repeat' (first|go_values|go_skip|go_guarded|go_step|go_upon|(simp only [];go_at_K))
    ((with_reducible refine C.mono ?_);rintro e w2 ⟨rfl,M2,h2,hp2,hg2,hrs2,U2⟩)
    have KEY:=Lib.hid (show ∃(j:Nat) (M2:SiteV),j≤M.n∧Value.int .i64 ((i:Int) + 1)= .int .i64 (j:Int)∧SiteS w2 M2∧M2.pl=M.pl.others m.ms j∧M2.gs=M.gs∧M2.rs=M.rs∧Upd M.fp M2.fp W w2 from ⟨i + 1,M2,by omega,by simp,h2,hp2.trans HP.out,hg2.trans hg,hrs2.trans hrs,U.trans U2⟩)
    clear C h2 U2 hp2 a0 a1 a2 a3 a4 a5 a6 a7 a8 a9 K p0 h' U
    repeat' (first|go_values|go_skip|go_guarded|go_step|go_upon|(simp only [];go_at_K))
    exact ⟨KEY.out,by simp [intOf];omega⟩
  ·obtain rfl:i=M.n:=by omega
   have hil:¬ ((M.n:Int) < (M.n:Int)):=by omega
   have KEY:=Lib.hid (show Goes w wr M (M.pl.others m.ms M.n) from ⟨M',h',hp,hg,hrs,(U0.up M.fp |>.trans (U.mono (fun k hk=>hk) (fun k hk=>.inl hk))) |>.gives (fun k hk=>by
    rcases U.fresh k hk with h1 | h1
    ·exact .inl h1
    ·right;have:=U0.size;omega)⟩)
   clear h' U hp
   repeat' (first|go_values|go_skip|go_guarded|go_step|go_upon|(simp only [];go_at_K))
   exact bodyPost_end (results_none rfl _ _ _) rfl ⟨rfl,KEY.out⟩
end Go.Proofs.YtijhlbeipglieaaGreat
namespace Go.Proofs.YtijhlbeipglieaaGreat
open Go.RowKit Agio Go.Maps
theorem siteTells (w:World) (x:Int) (A:Option Addr) (n c:Nat) (b:List UInt8) :
  Calls Tryz.prog 118 #[.int .i64 x,.slice A n c] w fun e w'=>e= .returned (Mv.val ⟨7,0,0,x,0,0,0,0,true,A,n,c,b⟩)∧Upd [] [] w w':=by
 obtain ⟨W,H,eW,hH,hB,U0⟩:=boxes1 w 32 #[.int .i64 0,.int .i64 0,.int .i64 0,.int .i64 0,.int .i64 0,.int .i64 0,.int .i64 0,.int .i64 0,.bool false,.slice none 0 0]
 have u:=upd_set10 W H (.int .i64 7) (.int .i64 0) (.int .i64 0) (.int .i64 x) (.int .i64 0) (.int .i64 0) (.int .i64 0) (.int .i64 0) (.bool true) (.slice A n c)
 have K:=blk_set10 hB (.int .i64 7) (.int .i64 0) (.int .i64 0) (.int .i64 x) (.int .i64 0) (.int .i64 0) (.int .i64 0) (.int .i64 0) (.bool true) (.slice A n c)
 have U:=(U0.gives (b':=[]) (by simp)).own (by omega) u
 obtain ⟨-,f0,f1,f2,f3,f4,f5,f6,f7,f8,f9⟩:=hB.c10
 obtain ⟨⟨a0,a1,a2,a3,a4,a5,a6,a7,a8,a9⟩,-⟩:=hB.c10
 rw [Mv.val_eq]
 go_enter Tryz.func118,Tryz.ntmps118
 repeat' (first|go_values|go_skip|go_guarded|go_step|go_upon|(simp only [];go_at_K))
 generalize hW:World.setCell _ _ _=W4
 rw [set10,hW] at K U
 obtain ⟨⟨z0,z1,z2,z3,z4,z5,z6,z7,z8,z9⟩,-⟩:=K.c10
 exact bodyPost_ret (v:=.agg #[.int .i64 7,.int .i64 0,.int .i64 0,.int .i64 x,.int .i64 0,.int .i64 0,.int .i64 0,.int .i64 0,.bool true,.slice A n c]) (by simp [results,Tryz.results118,go_sem,z0,z1,z2,z3,z4,z5,z6,z7,z8,z9]) rfl ⟨rfl,U⟩
end Go.Proofs.YtijhlbeipglieaaGreat
namespace Go.Proofs.YtijhlbeipglieaaGreat
open Go.RowKit Agio Go.Maps
def askV (r:RnV) (x:Int):Mv:=
 if r.so then ⟨if r.bal.r=0 then 1 else 5,0,0,x,r.bal.r,r.bal.s,r.bal.r,r.bal.s,true,r.v.A,r.v.n,r.v.c,r.v.b⟩ else ⟨3,0,0,x,r.bal.r,r.bal.s,0,0,false,none,0,0,[]⟩
theorem askV_ms (r:RnV) (x:Int):(askV r x).ms=Site.asks r.pl x:=by
 unfold askV Site.asks RnV.pl
 cases r.so <;> simp [Mv.ms]
theorem siteAsks (w:World) (r:RnV) (h:RnS w r) (x:Int) :
  Calls Tryz.prog 63 #[r.ptr,.int .i64 x] w fun e w'=>e= .returned (askV r x).val∧Upd [] [] w w':=by
 obtain ⟨W,H,eW,hH,hB,U0⟩:=boxes1 w 32 #[.int .i64 0,.int .i64 0,.int .i64 0,.int .i64 0,.int .i64 0,.int .i64 0,.int .i64 0,.int .i64 0,.bool false,.slice none 0 0]
 have hb:=h.blk.upd U0 (by simp)
 have hgH:r.g≠H:=by have:=h.blk.lt;omega
 obtain ⟨⟨q0,q1,q2,q3,q4,q5,q6⟩,-⟩:=hb.c7
 rw [RnV.ptr]
 cases hso:r.so with
 | false=>
  rw [hso] at q3
  have u:=upd_set10 W H (.int .i64 3) (.int .i64 0) (.int .i64 0) (.int .i64 x) (.int .i64 r.bal.r) (.int .i64 r.bal.s) (.int .i64 0) (.int .i64 0) (.bool false) (.slice none 0 0)
  have K:=blk_set10 hB (.int .i64 3) (.int .i64 0) (.int .i64 0) (.int .i64 x) (.int .i64 r.bal.r) (.int .i64 r.bal.s) (.int .i64 0) (.int .i64 0) (.bool false) (.slice none 0 0)
  have U:=(U0.gives (b':=[]) (by simp)).own (by omega) u
  obtain ⟨-,f0,f1,f2,f3,f4,f5,f6,f7,f8,f9⟩:=hB.c10
  obtain ⟨⟨a0,a1,a2,a3,a4,a5,a6,a7,a8,a9⟩,-⟩:=hB.c10
  rw [show askV r x=⟨3,0,0,x,r.bal.r,r.bal.s,0,0,false,none,0,0,[]⟩ by unfold askV;rw [hso];rfl,Mv.val_eq]
  go_enter Tryz.func63,Tryz.ntmps63
  repeat' (first|go_values|go_skip|go_guarded|go_step|go_upon|(simp only [];go_at_K))
  generalize hW:World.setCell _ _ _=W4
  rw [set10,hW] at K U
  obtain ⟨⟨z0,z1,z2,z3,z4,z5,z6,z7,z8,z9⟩,-⟩:=K.c10
  exact bodyPost_ret (v:=.agg #[.int .i64 3,.int .i64 0,.int .i64 0,.int .i64 x,.int .i64 r.bal.r,.int .i64 r.bal.s,.int .i64 0,.int .i64 0,.bool false,.slice none 0 0]) (by simp [results,Tryz.results63,go_sem,z0,z1,z2,z3,z4,z5,z6,z7,z8,z9]) rfl ⟨rfl,U⟩
 | true=>
  rw [hso] at q3
  simp only [Bsl.val] at q4
  have q0d:W.drew.cell? ⟨r.g,0,none⟩=some (.int .i64 r.bal.r):=q0
  have q1d:W.drew.cell? ⟨r.g,1,none⟩=some (.int .i64 r.bal.s):=q1
  have q4d:W.drew.cell? ⟨r.g,4,none⟩=some (.slice r.v.A r.v.n r.v.c):=q4
  have hba:=hb.alloc (.cells #[.int .i64 0,.int .i64 0,.int .i64 0,.int .i64 0,.int .i64 0,.int .i64 0,.int .i64 0,.int .i64 0,.bool false,.slice none 0 0] 32)
  obtain ⟨⟨s0,s1,s2,s3,s4,s5,s6⟩,-⟩:=hba.c7
  simp only [Bsl.val] at s4
  go_enter Tryz.func63,Tryz.ntmps63
  repeat' (first|go_values|go_skip|go_guarded|go_step|go_upon|(simp only [];go_at_K))
  go_region
  all_goals
   clear q0 q1 q2 q3 q4 q5 q6 q0d q1d q4d s0 s1 s2 s3 s4 s5 s6 hba
   obtain ⟨W2,G,eW2,hG,hB2,U2⟩:=boxes1 W 32 #[.int .i64 5,.int .i64 0,.int .i64 0,.int .i64 x,.int .i64 r.bal.r,.int .i64 r.bal.s,.int .i64 r.bal.r,.int .i64 r.bal.s,.bool true,.slice r.v.A r.v.n r.v.c]
   rw [eW2,hG]
   have kr:=hb.upd U2 (by simp)
   have kB:=hB.upd U2 (by simp)
   have kG:=hB2
   have U4:=(U0.gives (b':=[]) (by simp)).trans (U2.gives (b':=[]) (by simp))
   have hHl:=hB.lt
   have hGH:G≠H:=by omega
   clear eW2 hB2 U2 hb
   obtain ⟨⟨q0,-⟩,-⟩:=kr.c7
  by_cases hz:r.bal.r=0
  ·have d1:(r.bal.r == 0)=true:=beq_iff_eq.2 hz
   have HZ:=Lib.hid hz
   clear hz
   obtain ⟨⟨g0,-⟩,gf0,-⟩:=kG.c10
   have u1:Upd [G] [G] W2 (W2.setCell ⟨G,0,none⟩ (.int .i64 1)):=(Upd.refl [G] W2).setCell (p:=⟨G,0,none⟩) (.inl (by simp)) _
   replace kB:=kB.upd u1 (by simp;omega)
   replace kG:=kG.set_ 0 (.int .i64 1)
   replace U4:=U4.own (by omega) u1
   have u:=upd_set10 (W2.setCell ⟨G,0,none⟩ (.int .i64 1)) H (.int .i64 1) (.int .i64 0) (.int .i64 0) (.int .i64 x) (.int .i64 r.bal.r) (.int .i64 r.bal.s) (.int .i64 r.bal.r) (.int .i64 r.bal.s) (.bool true) (.slice r.v.A r.v.n r.v.c)
   have K:=blk_set10 kB (.int .i64 1) (.int .i64 0) (.int .i64 0) (.int .i64 x) (.int .i64 r.bal.r) (.int .i64 r.bal.s) (.int .i64 r.bal.r) (.int .i64 r.bal.s) (.bool true) (.slice r.v.A r.v.n r.v.c)
   have U:=U4.own (by omega) u
   obtain ⟨⟨b0,b1,b2,b3,b4,b5,b6,b7,b8,b9⟩,-⟩:=kG.c10
   obtain ⟨⟨a0,a1,a2,a3,a4,a5,a6,a7,a8,a9⟩,f0,f1,f2,f3,f4,f5,f6,f7,f8,f9⟩:=kB.c10
   repeat' (first|go_values|go_skip|go_guarded|go_step|go_upon|(simp only [];go_at_K))
   generalize hW:World.setCell _ _ _=W4
   rw [set10,hW] at K U
   obtain ⟨⟨z0,z1,z2,z3,z4,z5,z6,z7,z8,z9⟩,-⟩:=K.c10
   rw [show askV r x=⟨1,0,0,x,r.bal.r,r.bal.s,r.bal.r,r.bal.s,true,r.v.A,r.v.n,r.v.c,r.v.b⟩ by unfold askV;rw [if_pos hso];simp [HZ.out],Mv.val_eq]
   exact bodyPost_ret (v:=.agg #[.int .i64 1,.int .i64 0,.int .i64 0,.int .i64 x,.int .i64 r.bal.r,.int .i64 r.bal.s,.int .i64 r.bal.r,.int .i64 r.bal.s,.bool true,.slice r.v.A r.v.n r.v.c]) (by simp [results,Tryz.results63,go_sem,z0,z1,z2,z3,z4,z5,z6,z7,z8,z9]) rfl ⟨rfl,U.drew⟩
  ·have d1:(r.bal.r == 0)=false:=beq_false_of_ne hz
   have u:=upd_set10 W2 H (.int .i64 5) (.int .i64 0) (.int .i64 0) (.int .i64 x) (.int .i64 r.bal.r) (.int .i64 r.bal.s) (.int .i64 r.bal.r) (.int .i64 r.bal.s) (.bool true) (.slice r.v.A r.v.n r.v.c)
   have K:=blk_set10 kB (.int .i64 5) (.int .i64 0) (.int .i64 0) (.int .i64 x) (.int .i64 r.bal.r) (.int .i64 r.bal.s) (.int .i64 r.bal.r) (.int .i64 r.bal.s) (.bool true) (.slice r.v.A r.v.n r.v.c)
   have U:=U4.own (by omega) u
   obtain ⟨⟨b0,b1,b2,b3,b4,b5,b6,b7,b8,b9⟩,-⟩:=kG.c10
   obtain ⟨⟨a0,a1,a2,a3,a4,a5,a6,a7,a8,a9⟩,f0,f1,f2,f3,f4,f5,f6,f7,f8,f9⟩:=kB.c10
   repeat' (first|go_values|go_skip|go_guarded|go_step|go_upon|(simp only [];go_at_K))
   generalize hW:World.setCell _ _ _=W4
   rw [set10,hW] at K U
   obtain ⟨⟨z0,z1,z2,z3,z4,z5,z6,z7,z8,z9⟩,-⟩:=K.c10
   rw [show askV r x=⟨5,0,0,x,r.bal.r,r.bal.s,r.bal.r,r.bal.s,true,r.v.A,r.v.n,r.v.c,r.v.b⟩ by unfold askV;rw [if_pos hso];simp [hz],Mv.val_eq]
   exact bodyPost_ret (v:=.agg #[.int .i64 5,.int .i64 0,.int .i64 0,.int .i64 x,.int .i64 r.bal.r,.int .i64 r.bal.s,.int .i64 r.bal.r,.int .i64 r.bal.s,.bool true,.slice r.v.A r.v.n r.v.c]) (by simp [results,Tryz.results63,go_sem,z0,z1,z2,z3,z4,z5,z6,z7,z8,z9]) rfl ⟨rfl,U.drew⟩
end Go.Proofs.YtijhlbeipglieaaGreat
