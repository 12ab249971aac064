/- Merged: ActS, Ref08c. -/
import Derived.Test.YtijhlbeipglieaaGreatPkDeed
import Derived.Test.YtijhlbeipglieaaGreatPkUp
set_option linter.all false
set_option maxRecDepth 100000
set_option maxHeartbeats 4000000
namespace Go.Proofs.YtijhlbeipglieaaGreat
open Go.RowKit Agio Go.Maps
variable [Ban]
def Acts (w w':World) (e:Ending) (M:SiteV) (R:Site × List Ms):Prop:=
 ∃(A:Option Addr) (c:Nat) (told:List Mv) (M':SiteV),e= .returned (.slice A told.length c)∧told.map Mv.ms=R.2∧Agio.Own 32 10 w' A told.length c (told.flatMap Mv.cells)∧
  (∀k∈ablk A,w.heap.size≤k∧k∉M'.fp)∧SiteS w' M'∧M'.pl=R.1∧M'.gs=M.gs∧Upd M.fp M'.fp w w'
theorem Acts.of {w w1 w':World} {M:SiteV} {R:Site × List Ms} {b:List Nat} (hu:Upd [] b w w1) (h:Gone w1 w' M R.1) (hr:R.2= []):Acts w w' (.returned (.slice none 0 0)) M R:=by
 obtain ⟨M',h1,h2,h3,h4⟩:=h
 exact ⟨none,0,[],M',rfl,by rw [hr];rfl,Agio.Own.nil _ _ _,by simp [ablk],h1,h2,h3,(hu.up M.fp).trans h4⟩
theorem siteAct (w:World) (M:SiteV) (h:SiteS w M) (d:Dt) (hr:Dt.Rds w d) (hf:0 < d.m.n→∀k∈ablk d.m.A,k∉M.fp) {told:List Ms} {c:Nat} (hI:Inv M.pl told (c + 1)) :
  Calls Tryz.prog 16 #[M.ptr,d.val] w fun e w'=>Acts w w' e M (M.pl.act d.k d.n d.b d.m.ms):=by
 obtain ⟨W,H,eW,hH,hB,U0⟩:=boxes1 w 34 #[.int .i64 d.k,.int .i64 d.n,.slice d.A d.l d.c,.int .i64 d.m.k,.int .i64 d.m.f,.int .i64 d.m.t,.int .i64 d.m.s,.int .i64 d.m.br,.int .i64 d.m.bs,.int .i64 d.m.hr,.int .i64 d.m.hs,.bool d.m.so,.slice d.m.A d.m.n d.m.c]
 have h1:=h.upd0 U0
 have hr1:=hr.upd0 U0
 have a0:W.cell? ⟨H,0,none⟩=some (.int .i64 d.k):=hB.cell 0
 have a1:W.cell? ⟨H,1,none⟩=some (.int .i64 d.n):=hB.cell 1
 have a2:W.cell? ⟨H,2,none⟩=some (.slice d.A d.l d.c):=hB.cell 2
 have a3:W.cell? ⟨H,3,none⟩=some (.int .i64 d.m.k):=hB.cell 3
 have a4:W.cell? ⟨H,4,none⟩=some (.int .i64 d.m.f):=hB.cell 4
 have a5:W.cell? ⟨H,5,none⟩=some (.int .i64 d.m.t):=hB.cell 5
 have a6:W.cell? ⟨H,6,none⟩=some (.int .i64 d.m.s):=hB.cell 6
 have a7:W.cell? ⟨H,7,none⟩=some (.int .i64 d.m.br):=hB.cell 7
 have a8:W.cell? ⟨H,8,none⟩=some (.int .i64 d.m.bs):=hB.cell 8
 have a9:W.cell? ⟨H,9,none⟩=some (.int .i64 d.m.hr):=hB.cell 9
 have b0:W.cell? ⟨H,10,none⟩=some (.int .i64 d.m.hs):=hB.cell 10
 have b1:W.cell? ⟨H,11,none⟩=some (.bool d.m.so):=hB.cell 11
 have b2:W.cell? ⟨H,12,none⟩=some (.slice d.m.A d.m.n d.m.c):=hB.cell 12
 have hheld:M.held.length≤400000000:=by rw [←SiteV.held_len];exact hI.held_le
 obtain ⟨R,hR⟩:∃R,M.pl.act d.k d.n d.b d.m.ms=R:=⟨_,rfl⟩
 rw [hR]
 have FIN:=Lib.hid (fun (wx:World) (hg:Gone W wx M R.1) (h2:R.2= [])=>Acts.of (w:=w) U0 hg h2)
 by_cases k0:d.k=0
 ·have d0:(d.k == 0)=true:=by simpa using k0
  have hR0:R=((M.pl.submit d.b).1,[]):=by rw [←hR];unfold Site.act;rw [if_pos k0]
  have C:=siteSubmit W M h1 d.A d.l d.c d.b hr1.v (by have:=hr1.len;omega) (by omega)
  have HR0:=Lib.hid hR0
  rw [SiteV.ptr,Dt.val_eq]
  rw [SiteV.ptr] at C
  clear hI hR hR0 k0 h h1 hr hr1 hf hB
  go_enter Tryz.func16,Tryz.ntmps16
  repeat' (first|go_values|go_skip|go_guarded|go_step|go_upon|(simp only [];go_at_K))
  ((with_reducible refine C.mono ?_);rintro e w1 ⟨rfl,hG⟩)
  repeat' (first|go_values|go_skip|go_guarded|go_step|go_upon|(simp only [];go_at_K))
  go_ret
  exact FIN.out _ (by rw [HR0.out];exact hG) (by rw [HR0.out])
 have d0:(d.k == 0)=false:=by simpa using k0
 by_cases k1:d.k=1
 ·have d1:(d.k == 1)=true:=by simpa using k1
  have hR0:R=((M.pl.handle d.m.ms).1,[]):=by rw [←hR];unfold Site.act;rw [if_neg k0,if_pos k1]
  have C:=siteHandleP Qt takeC W M h1 d.m hr1.m hf (fun _ hd _=>by
   obtain ⟨S,R',z,h2,-⟩:=hI.up (show M.pl.down=false from hd)
   obtain ⟨q1,q2⟩:=h2.qt d.m.ms
   exact ⟨q1,q2⟩)
  have HR0:=Lib.hid hR0
  rw [SiteV.ptr,Dt.val_eq]
  rw [SiteV.ptr,Mv.val_eq] at C
  clear hI hR hR0 k0 k1 h h1 hr hr1 hf hB
  go_enter Tryz.func16,Tryz.ntmps16
  repeat' (first|go_values|go_skip|go_guarded|go_step|go_upon|(simp only [];go_at_K))
  ((with_reducible refine C.mono ?_);rintro e w1 ⟨rfl,hG⟩)
  repeat' (first|go_values|go_skip|go_guarded|go_step|go_upon|(simp only [];go_at_K))
  go_ret
  exact FIN.out _ (by rw [HR0.out];exact hG) (by rw [HR0.out])
 have d1:(d.k == 1)=false:=by simpa using k1
 by_cases k2:d.k=2
 ·have d2:(d.k == 2)=true:=by simpa using k2
  have hR0:R=(M.pl.tick,[]):=by rw [←hR];unfold Site.act;rw [if_neg k0,if_neg k1,if_pos k2]
  have C:=siteTick W M h1 (fun hd=>by
   obtain ⟨S,R',z,h2,h3,-⟩:=hI.up hd
   exact (h2.tick (y:=0) (by omega)).1)
  have HR0:=Lib.hid hR0
  rw [SiteV.ptr,Dt.val_eq]
  rw [SiteV.ptr] at C
  clear hI hR hR0 k0 k1 k2 h h1 hr hr1 hf hB
  go_enter Tryz.func16,Tryz.ntmps16
  repeat' (first|go_values|go_skip|go_guarded|go_step|go_upon|(simp only [];go_at_K))
  ((with_reducible refine C.mono ?_);rintro e w1 ⟨rfl,hG⟩)
  repeat' (first|go_values|go_skip|go_guarded|go_step|go_upon|(simp only [];go_at_K))
  go_ret
  exact FIN.out _ (by rw [HR0.out];exact hG) (by rw [HR0.out])
 have d2:(d.k == 2)=false:=by simpa using k2
 by_cases k3:d.k=3
 ·have d3:(d.k == 3)=true:=by simpa using k3
  have hR0:R=M.pl.sync:=by rw [←hR];unfold Site.act;rw [if_neg k0,if_neg k1,if_neg k2,if_pos k3]
  have C:=siteSyncAny Qt takeC W M h1 (by omega) (fun hd=>by
   obtain ⟨S,R',z,h2,-⟩:=hI.up (show M.pl.down=false from hd)
   exact h2.sync.1)
  have HR0:=Lib.hid hR0
  have s0:=U0.size
  have UP:=U0.up M.fp
  rw [SiteV.ptr,Dt.val_eq]
  rw [SiteV.ptr] at C
  clear hI hR hR0 k0 k1 k2 k3 h h1 hr hr1 hf hB FIN
  go_enter Tryz.func16,Tryz.ntmps16
  repeat' (first|go_values|go_skip|go_guarded|go_step|go_upon|(simp only [];go_at_K))
  ((with_reducible refine C.mono ?_);rintro e w1 ⟨A,c1,told1,M',rfl,g1,g2,g3,-,g5,g6,g7,g8⟩)
  repeat' (first|go_values|go_skip|go_guarded|go_step|go_upon|(simp only [];go_at_K))
  go_ret
  exact ⟨A,c1,told1,M',rfl,by rw [HR0.out];exact g1,g2,fun k hk=>⟨by have:=(g3 k hk).1;omega,(g3 k hk).2⟩,g5,by rw [HR0.out];exact g6,g7,UP.trans g8⟩
 have d3:(d.k == 3)=false:=by simpa using k3
 by_cases k4:d.k=4
 ·have d4:(d.k == 4)=true:=by simpa using k4
  have hR0:R=(M.pl.crash d.n,[]):=by rw [←hR];unfold Site.act;rw [if_neg k0,if_neg k1,if_neg k2,if_neg k3,if_pos k4]
  have C:=siteCrash W M h1 d.n
  have HR0:=Lib.hid hR0
  rw [SiteV.ptr,Dt.val_eq]
  rw [SiteV.ptr] at C
  clear hI hR hR0 k0 k1 k2 k3 k4 h h1 hr hr1 hf hB
  go_enter Tryz.func16,Tryz.ntmps16
  repeat' (first|go_values|go_skip|go_guarded|go_step|go_upon|(simp only [];go_at_K))
  ((with_reducible refine C.mono ?_);rintro e w1 ⟨rfl,hG⟩)
  repeat' (first|go_values|go_skip|go_guarded|go_step|go_upon|(simp only [];go_at_K))
  go_ret
  exact FIN.out _ (by rw [HR0.out];exact hG) (by rw [HR0.out])
 have d4:(d.k == 4)=false:=by simpa using k4
 by_cases k5:d.k=5
 ·have d5:(d.k == 5)=true:=by simpa using k5
  have hR0:R=(M.pl.restart,[]):=by rw [←hR];unfold Site.act;rw [if_neg k0,if_neg k1,if_neg k2,if_neg k3,if_neg k4,if_pos k5]
  have C:=siteRestart W M h1
  have HR0:=Lib.hid hR0
  rw [SiteV.ptr,Dt.val_eq]
  rw [SiteV.ptr] at C
  clear hI hR hR0 k0 k1 k2 k3 k4 k5 h h1 hr hr1 hf hB
  go_enter Tryz.func16,Tryz.ntmps16
  repeat' (first|go_values|go_skip|go_guarded|go_step|go_upon|(simp only [];go_at_K))
  ((with_reducible refine C.mono ?_);rintro e w1 ⟨rfl,hG⟩)
  repeat' (first|go_values|go_skip|go_guarded|go_step|go_upon|(simp only [];go_at_K))
  go_ret
  exact FIN.out _ (by rw [HR0.out];exact hG) (by rw [HR0.out])
 have d5:(d.k == 5)=false:=by simpa using k5
 have hR0:R=(M.pl,[]):=by rw [←hR];unfold Site.act;rw [if_neg k0,if_neg k1,if_neg k2,if_neg k3,if_neg k4,if_neg k5]
 have HR0:=Lib.hid hR0
 have HG:=Lib.hid (show Gone W W M R.1 from by rw [hR0];exact ⟨M,h1,rfl,rfl,Upd.refl _ _⟩)
 rw [SiteV.ptr,Dt.val_eq]
 clear hI hR hR0 k0 k1 k2 k3 k4 k5 h h1 hr hr1 hf hB
 go_enter Tryz.func16,Tryz.ntmps16
 repeat' (first|go_values|go_skip|go_guarded|go_step|go_upon|(simp only [];go_at_K))
 go_ret
 exact FIN.out _ HG.out (by rw [HR0.out])
end Go.Proofs.YtijhlbeipglieaaGreat
namespace Go.Proofs.YtijhlbeipglieaaGreat
open Go.RowKit Agio Go.Maps
theorem cmp08 (a b:Bl):cmpB a b=if decide (a.r < b.r) || (decide (a.r=b.r) && decide (a.s < b.s)) then -1 else if (a.r == b.r) && (a.s == b.s) then 0 else 1:=by
 unfold cmpB orI cmpI
 by_cases h1:a.r < b.r
 ·simp [h1]
 ·by_cases h2:b.r < a.r
  ·have h3:¬ a.r=b.r:=by omega
   simp [h1,h2,h3]
  ·have h3:a.r=b.r:=by omega
   by_cases h4:a.s < b.s
   ·simp [h3,h4]
   ·by_cases h5:b.s < a.s
    ·have h6:¬ a.s=b.s:=by omega
     simp [h3,h4,h5,h6]
    ·have h6:a.s=b.s:=by omega
     simp [h3,h6]
theorem ref08Compare (w:World) (a b:Bl):Calls Tryz.prog 27 #[a.val,b.val] w fun e w'=>e= .returned (.int .i64 (cmpB a b))∧Upd [] [] w w':=by
 obtain ⟨W,H,G,eW,hH,hG,hB1,hB2,U0⟩:=boxes2 w 30 30 #[.int .i64 a.r,.int .i64 a.s] #[.int .i64 b.r,.int .i64 b.s]
 have U:Upd [] [] w W:=U0.gives (by simp)
 have HC:=Lib.hid (cmp08 a b)
 obtain ⟨R,hR⟩:∃R,cmpB a b=R:=⟨_,rfl⟩
 rw [hR] at HC ⊢
 obtain ⟨⟨q0,q1⟩,-⟩:=hB1.c2
 obtain ⟨⟨r0,r1⟩,-⟩:=hB2.c2
 have E1:=eqBal a.r a.s b.r b.s
 rw [Bl.val,Bl.val]
 clear hR hB1 hB2 U0
 go_enter Tryz.func27,Tryz.ntmps27
 by_cases h1:a.r < b.r
 ·have d1:decide (a.r < b.r)=true:=decide_eq_true h1
  rw [d1] at HC
  repeat' (first|go_values|go_skip|go_guarded|go_step|go_upon|(simp only [];go_at_K))
  go_ret
  exact ⟨by rw [HC.out];rfl,U⟩
 ·have d1:decide (a.r < b.r)=false:=decide_eq_false h1
  rw [d1] at HC
  by_cases h2:a.r=b.r
  ·have d2:(a.r == b.r)=true:=by simpa using h2
   have d2':decide (a.r=b.r)=true:=decide_eq_true h2
   rw [d2'] at HC
   have HH:=Lib.hid h2
   clear h2
   by_cases h3:a.s < b.s
   ·have d3:decide (a.s < b.s)=true:=decide_eq_true h3
    rw [d3] at HC
    repeat' (first|go_values|go_skip|go_guarded|go_step|go_upon|(simp only [];go_at_K))
    go_ret
    exact ⟨by rw [HC.out];rfl,U⟩
   ·have d3:decide (a.s < b.s)=false:=decide_eq_false h3
    rw [d3] at HC
    cases d4:(a.s == b.s) with
    | true=>
     repeat' (first|go_values|go_skip|go_guarded|go_step|go_upon|(simp only [];go_at_K))
     go_ret
     exact ⟨by rw [HC.out,d2,d4];rfl,U⟩
    | false=>
     repeat' (first|go_values|go_skip|go_guarded|go_step|go_upon|(simp only [];go_at_K))
     go_ret
     exact ⟨by rw [HC.out,d2,d4];rfl,U⟩
  ·have d2:(a.r == b.r)=false:=by simpa using h2
   have d2':decide (a.r=b.r)=false:=decide_eq_false h2
   rw [d2'] at HC
   have HH:=Lib.hid h2
   clear h2
   repeat' (first|go_values|go_skip|go_guarded|go_step|go_upon|(simp only [];go_at_K))
   go_ret
   exact ⟨by rw [HC.out,d2];rfl,U⟩
def keptB (t:Sp) (m:Ms):Bool:=if cmpB t.p m.bal < 0 then false else (m.kind == 4) || (t.so && decide (0≤cmpB t.at_ m.bal))
theorem keptB_of {t:Sp} {m:Ms} (h:keptP t m.kind m.bal):keptB t m=true:=by
 unfold keptB
 rw [if_neg (fun e=>h.1 ((cmpB_lt _ _).1 e))]
 rcases h.2 with e | ⟨e1,e2⟩
 ·simp [e]
 ·have:¬ cmpB t.at_ m.bal < 0:=fun e=>e2 ((cmpB_lt _ _).1 e)
  simp [e1]
  omega
theorem lawKept (w:World) (y:Sta) (m:Mv):Calls Tryz.prog 18 #[y.val,m.val] w fun e w'=>e= .returned (.bool (keptB y.pl m.ms))∧Upd [] [] w w':=by
 obtain ⟨W,H,G,eW,hH,hG,hB1,hB2,U0⟩:=boxes2 w 37 32 #[.int .i64 y.p.r,.int .i64 y.p.s,.bool y.so,.int .i64 y.at_.r,.int .i64 y.at_.s,.slice y.A y.n y.c]
    #[.int .i64 m.k, .int .i64 m.f, .int .i64 m.t, .int .i64 m.s, .int .i64 m.br, .int .i64 m.bs, .int .i64 m.hr, .int .i64 m.hs, .bool m.so, .slice m.A m.n m.c]
 have U:Upd [] [] w W:=U0.gives (by simp)
 have HK:=Lib.hid (keptB.eq_def y.pl m.ms)
 obtain ⟨R,hR⟩:∃R,keptB y.pl m.ms=R:=⟨_,rfl⟩
 rw [hR] at HK ⊢
 change Hid (R=if cmpB y.p ⟨m.br,m.bs⟩ < 0 then false else (m.k == 4) || (y.so && decide (0≤cmpB y.at_ ⟨m.br,m.bs⟩))) at HK
 have C1:=ref08Compare W y.p ⟨m.br,m.bs⟩
 have C2:=fun wx=>ref08Compare wx y.at_ ⟨m.br,m.bs⟩
 obtain ⟨x1,hx1⟩:∃x,cmpB y.p ⟨m.br,m.bs⟩=x:=⟨_,rfl⟩
 obtain ⟨x2,hx2⟩:∃x,cmpB y.at_ ⟨m.br,m.bs⟩=x:=⟨_,rfl⟩
 rw [hx1] at C1 HK
 simp only [hx2,Bl.val] at C2 HK
 simp only [Bl.val] at C1
 obtain ⟨⟨q0,q1,q2,q3,q4,q5⟩,-⟩:=hB1.c6
 obtain ⟨⟨r0,r1,r2,r3,r4,r5,r6,r7,r8,r9⟩,-⟩:=hB2.c10
 rw [Sta.val,Mv.val_eq]
 clear hR hx1 hx2 U0
 go_enter Tryz.func18,Tryz.ntmps18
 repeat' (first|go_values|go_skip|go_guarded|go_step|go_upon|(simp only [];go_at_K))
 ((with_reducible refine C1.mono ?_);rintro e w1 ⟨rfl,hu1⟩)
 have K1:=hB1.upd hu1 (by simp)
 have K2:=hB2.upd hu1 (by simp)
 have U1:=U.trans hu1
 clear C1 q0 q1 q2 q3 q4 q5 r0 r1 r2 r3 r4 r5 r6 r7 r8 r9 hB1 hB2
 obtain ⟨⟨q0,q1,q2,q3,q4,q5⟩,-⟩:=K1.c6
 obtain ⟨⟨r0,r1,r2,r3,r4,r5,r6,r7,r8,r9⟩,-⟩:=K2.c10
 by_cases h1:x1 < 0
 ·have d1:decide (x1 < 0)=true:=decide_eq_true h1
  rw [if_pos h1] at HK
  repeat' (first|go_values|go_skip|go_guarded|go_step|go_upon|(simp only [];go_at_K))
  go_ret
  exact ⟨by rw [HK.out];rfl,U1⟩
 ·have d1:decide (x1 < 0)=false:=decide_eq_false h1
  rw [if_neg h1] at HK
  cases d2:(m.k == 4) with
  | true=>
   rw [d2] at HK
   repeat' (first|go_values|go_skip|go_guarded|go_step|go_upon|(simp only [];go_at_K))
   go_ret
   exact ⟨by rw [HK.out];rfl,U1⟩
  | false=>
   rw [d2] at HK
   cases d3:y.so with
   | false=>
    rw [d3] at HK q2
    repeat' (first|go_values|go_skip|go_guarded|go_step|go_upon|(simp only [];go_at_K))
    go_ret
    exact ⟨by rw [HK.out];rfl,U1⟩
   | true=>
    rw [d3] at HK q2
    repeat' (first|go_values|go_skip|go_guarded|go_step|go_upon|(simp only [];go_at_K))
    ((with_reducible refine (C2 _).mono ?_);rintro e w2 ⟨rfl,hu2⟩)
    repeat' (first|go_values|go_skip|go_guarded|go_step|go_upon|(simp only [];go_at_K))
    go_ret
    exact ⟨by rw [HK.out];rfl,U1.trans hu2⟩
end Go.Proofs.YtijhlbeipglieaaGreat
