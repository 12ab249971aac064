/- Merged: SiteK, SlotN, SiteP. -/
import Derived.Test.YtijhlbeipglieaaGreatPkSiteI
import Derived.Test.YtijhlbeipglieaaGreatPkSiteF
set_option linter.all false
set_option maxRecDepth 100000
set_option maxHeartbeats 4000000
namespace Go.Proofs.YtijhlbeipglieaaGreat
open Go.RowKit Agio Go.Maps
theorem siteBorn (w:World) (gw:Nat) :
  Calls Tryz.prog 71 #[.pointer (some ⟨gw,0,none⟩)] w fun e w'=>∃bs gl bl br,e= .returned (.agg #[.map (some bs),.int .i64 0,.pointer (some ⟨gl,0,none⟩),.map (some br),.int .i64 0,.pointer (some ⟨gw,0,none⟩),.slice none 0 0])∧
   MapI Tryz.prog 3 w' bs []∧LrnS w' gl bl [] 0∧MapI Tryz.prog 3 w' br []∧(bs≠bl∧bs≠br∧bl≠br)∧Upd [] [bs,gl,bl,br] w w':=by
 have hmm:=@run_makeMap Tryz.prog
 obtain ⟨W,H,eW,hH,hB,U0⟩:=boxes1 w 122 #[.map none,.int .i64 0,.pointer none,.map none,.int .i64 0,.pointer none,.slice none 0 0]
 have m0:=MapI.made Tryz.prog 3 W
 obtain ⟨W1,hW1⟩:∃X,W.alloc (.map #[] 0)=X:=⟨_,rfl⟩
 have U1:Upd [] [W.heap.size] W W1:=by rw [←hW1];exact ((Upd.refl [] W).alloc _).gives (by simp)
 rw [hW1] at m0
 have C:=learnNew W1
 go_enter Tryz.func71,Tryz.ntmps71
 repeat' (first|go_values|go_skip|go_guarded|go_step|go_upon|(simp only [];go_at_K))
 ((with_reducible refine C.mono ?_);rintro e w2 ⟨gl,bl,rfl,hL,hu2⟩)
 have m2:=m0.upd hu2 (by simp)
 have K2:=(hB.upd U1 (by simp)).upd hu2 (by simp)
 have l2:=(Upd.refl [] W1).new hu2
 obtain ⟨W3,hW3⟩:∃X,w2.alloc (.map #[] 0)=X:=⟨_,rfl⟩
 have U3:Upd [] [w2.heap.size] w2 W3:=by rw [←hW3];exact ((Upd.refl [] w2).alloc _).gives (by simp)
 have m3:=MapI.made Tryz.prog 3 w2
 rw [hW3] at m3
 have K3:=K2.upd U3 (by simp)
 have L3:=hL.upd U3 (by simp) (by simp)
 have n3:=m2.upd U3 (by simp)
 have ll:=hL.blk.lt
 have lb:=hL.map.lt
 have lm:=m2.lt
 have s1:=U1.size
 have s2:=hu2.size
 have lH:=hB.lt
 have hgl:=l2 gl (by simp)
 have hbl:=l2 bl (by simp)
 have lm0:=m0.lt
 have u4:=upd_set7 W3 H (.map (some W.heap.size)) (.int .i64 0) (.pointer (some ⟨gl,0,none⟩)) (.map (some w2.heap.size)) (.int .i64 0) (.pointer (some ⟨gw,0,none⟩)) (.slice none 0 0)
 have K4:=blk_set7 K3 (.map (some W.heap.size)) (.int .i64 0) (.pointer (some ⟨gl,0,none⟩)) (.map (some w2.heap.size)) (.int .i64 0) (.pointer (some ⟨gw,0,none⟩)) (.slice none 0 0)
 have a1:=n3.upd u4 (by simp;omega)
 have a2:=L3.upd u4 (by simp;omega) (by simp;omega)
 have a3:=m3.upd u4 (by simp;omega)
 have UU:Upd [] [W.heap.size,gl,bl,w2.heap.size] w (set7 W3 H (.map (some W.heap.size)) (.int .i64 0) (.pointer (some ⟨gl,0,none⟩)) (.map (some w2.heap.size)) (.int .i64 0) (.pointer (some ⟨gw,0,none⟩)) (.slice none 0 0)):=by
  have s0:=U0.size
  have t1:=((U0.add U1).add hu2).add U3
  refine ((t1.gives (b':=[]) (by simp)).own (by omega) u4).gives (fun k hk=>.inr ?_)
  simp only [List.mem_cons,List.not_mem_nil,or_false] at hk
  rcases hk with rfl | rfl | rfl | rfl <;> omega
 obtain ⟨⟨z0,z1,z2,z3,z4,z5,z6⟩,f0,f1,f2,f3,f4,f5,f6⟩:=K3.c7
 have KEY:=Lib.hid (And.intro a1 (And.intro a2 (And.intro a3 (And.intro (show W.heap.size≠bl∧W.heap.size≠w2.heap.size∧bl≠w2.heap.size from ⟨by omega,by omega,by omega⟩) UU))))
 clear a1 a2 a3 UU hL L3 n3 m3 m2 m0 K2 K3 hB hu2 U0 U1 U3 u4 C ll lb lm s1 s2 hgl hbl l2
 repeat' (first|go_values|go_skip|go_guarded|go_step|go_upon|(simp only [];go_at_K))
 generalize hW:World.setCell _ _ _=W4
 rw [set7,hW] at K4
 have KE:=KEY.out
 rw [set7,hW] at KE
 obtain ⟨⟨y0,y1,y2,y3,y4,y5,y6⟩,-⟩:=K4.c7
 exact bodyPost_ret (v:=.agg #[.map (some W.heap.size),.int .i64 0,.pointer (some ⟨gl,0,none⟩),.map (some w2.heap.size),.int .i64 0,.pointer (some ⟨gw,0,none⟩),.slice none 0 0]) (by simp [results,Tryz.results71,go_sem,y0,y1,y2,y3,y4,y5,y6]) rfl ⟨_,gl,bl,_,rfl,KE⟩
theorem Site.new_ok {me n pat:Nat} (h:newOk me n pat=true):(Site.new me n pat).Ok:=by
 simp only [newOk,Bool.and_eq_true,decide_eq_true_eq] at h
 refine ⟨?_,?_,?_,?_,?_,?_,?_,?_,?_⟩ <;> simp [Site.new] <;> omega
variable [Ban]
theorem siteNew (w:World) (me n pat:Nat) (h:newOk me n pat=true) (hBan:∀k∈(Ban.X:List Nat),k < w.heap.size) :
  Calls Tryz.prog 29 #[.int .i64 (me:Int),.int .i64 (n:Int),.int .i64 (pat:Int)] w fun e w'=>∃M:SiteV,e= .returned (.tuple #[M.ptr,.int .i64 0])∧SiteS w' M∧M.pl=Site.new me n pat∧Upd [] M.fp w w':=by
 have hok:=Site.new_ok h
 have h':=h
 simp only [newOk,Bool.and_eq_true,decide_eq_true_eq] at h'
 have ht:timerOk me n pat=true:=by simp only [timerOk,Bool.and_eq_true,decide_eq_true_eq];omega
 have d1:decide ((n:Int) < 3)=false:=decide_eq_false (by omega)
 have d2:decide (7 < (n:Int))=false:=decide_eq_false (by omega)
 clear h h'
 have C:=timerNew w me n pat ht
 go_enter Tryz.func29,Tryz.ntmps29
 repeat' (first|go_values|go_skip|go_guarded|go_step|go_upon|(simp only [];go_at_K))
 ((with_reducible refine C.mono ?_);rintro e w1 ⟨gw,rfl,hw1,hu1⟩)
 repeat' (first|go_values|go_skip|go_guarded|go_step|go_upon|(simp only [];go_at_K))
 ((with_reducible refine (diskNew w1).mono ?_);rintro e w2 ⟨gd,rfl,hd2,hu2⟩)
 have hw2:WtS w2 gw me n pat [0,0,0,0,0,0,0]:=⟨hw1.1.upd hu2 (by simp),hw1.2⟩
 obtain ⟨W,H,eW,hH,hB,U0⟩:=boxes1 w2 124 #[.int .i64 (me:Int),.int .i64 (n:Int),.int .i64 (pat:Int),.bool false,.pointer (some ⟨gd,0,none⟩),.map none,.int .i64 0,.pointer none,.map none,.int .i64 0,.pointer none,.slice none 0 0]
 have hw3:WtS W gw me n pat [0,0,0,0,0,0,0]:=⟨hw2.1.upd U0 (by simp),hw2.2⟩
 have hd3:=hd2.upd U0 (by simp) (by simp)
 clear C hw1 hw2 hd2
 repeat' (first|go_values|go_skip|go_guarded|go_step|go_upon|(simp only [];go_at_K))
 ((with_reducible refine (siteBorn W gw).mono ?_);rintro e w3 ⟨bs,gl,bl,br,rfl,hm1,hL,hm2,hne,hu3⟩)
 have hw4:WtS w3 gw me n pat [0,0,0,0,0,0,0]:=⟨hw3.1.upd hu3 (by simp),hw3.2⟩
 have hd4:=hd3.upd hu3 (by simp) (by simp)
 have K3:=hB.upd hu3 (by simp)
 obtain ⟨⟨z0,z1,z2,z3,z4,z5,z6,z7,z8,z9,z10,z11⟩,f0,f1,f2,f3,f4,f5,f6,f7,f8,f9,f10,f11⟩:=K3.c12
 have u4:=upd_set57 w3 H (.map (some bs)) (.int .i64 0) (.pointer (some ⟨gl,0,none⟩)) (.map (some br)) (.int .i64 0) (.pointer (some ⟨gw,0,none⟩)) (.slice none 0 0)
 have K4:=blk_set57 K3 (.map (some bs)) (.int .i64 0) (.pointer (some ⟨gl,0,none⟩)) (.map (some br)) (.int .i64 0) (.pointer (some ⟨gw,0,none⟩)) (.slice none 0 0)
 have hX:∀k∈[H],tagW w3 k=some (some 124):=by simp only [List.mem_singleton];rintro k rfl;exact K3.tag
 have KEY:=Lib.hid (show SiteS (set57 w3 H (.map (some bs)) (.int .i64 0) (.pointer (some ⟨gl,0,none⟩)) (.map (some br)) (.int .i64 0) (.pointer (some ⟨gw,0,none⟩)) (.slice none 0 0))
   {gs:=H,me:=me,n:=n,pat:=pat,down:=false,gd:=gd,Ad:=none,cd:=0,db:=[],dn:=0,bs:=bs,st:=[],top:=0,gl:=gl,bl:=bl,lv:=[],taken:=0,br:=br,rs:=[],nx:=0,gw:=gw,wt:=[0,0,0,0,0,0,0],Ah:=none,ch:=0,held:=[]} from
  {blk:=K4,dsk:=hd4.upd u4 (tag_off hd4.blk.tag hX (by decide)) (by simp [ablk]),sts:=hm1.upd u4 (tag_off hm1.tag hX (by decide)),lrn:=hL.upd u4 (tag_off hL.blk.tag hX (by decide)) (tag_off hL.map.tag hX (by decide)),
   rnd:=hm2.upd u4 (tag_off hm2.tag hX (by decide)),rds:=by simp,wat:=⟨hw4.1.upd u4 (tag_off hw4.1.tag hX (by decide)),hw4.2⟩,hld:=Own.nil _ _ _,byt:=by simp [SiteV.bytes],bad:=by simp [SiteV.bytes],maps:=hne,far:=.nil,ok:=hok,ban:=fun k hk=>(by have h1:=hBan k hk;have h2:=hu1.size;have h3:=hu2.size;have h4:=U0.size;have h5:=hu3.size;have h6:=u4.size;omega)})
 have s1:=hu1.size
 have s2:=hu2.size
 have s3:=U0.size
 have s4:=hu3.size
 have UU:=Lib.hid (show Upd [] [H,gd,bs,gl,bl,br,gw] w (set57 w3 H (.map (some bs)) (.int .i64 0) (.pointer (some ⟨gl,0,none⟩)) (.map (some br)) (.int .i64 0) (.pointer (some ⟨gw,0,none⟩)) (.slice none 0 0)) from by
  have t1:=((hu1.add hu2).add U0).add hu3
  refine ((t1.gives (b':=[]) (by simp)).own (by omega) u4).gives (fun k hk=>.inr ?_)
  have e1:=(Upd.refl [] w).new hu1
  have e2:=(Upd.refl [] w1).new hu2
  have e3:=(Upd.refl [] W).new hu3
  simp only [List.mem_cons,List.not_mem_nil,or_false] at hk
  have g1:=e1 gw (by simp)
  have g2:=e2 gd (by simp)
  rcases hk with rfl | rfl | rfl | rfl | rfl | rfl | rfl
  ·omega
  ·omega
  ·have:=e3 k (by simp);omega
  ·have:=e3 k (by simp);omega
  ·have:=e3 k (by simp);omega
  ·have:=e3 k (by simp);omega
  ·omega)
 clear hw3 hd3 hm1 hL hm2 hw4 hd4 K3 K4 hB hu1 hu2 U0 hu3 u4 hX s1 s2 s3 s4
 repeat' (first|go_values|go_skip|go_guarded|go_step|go_upon|(simp only [];go_at_K))
 generalize hW:World.setCell _ _ _=W4
 have KE:=KEY.out
 have UE:=UU.out
 rw [set57,hW] at KE UE
 go_ret2
 exact ⟨_,rfl,KE,rfl,UE⟩
end Go.Proofs.YtijhlbeipglieaaGreat
namespace Go.Proofs.YtijhlbeipglieaaGreat
open Go.RowKit Agio
theorem slotsOwner (w:World) (s n:Int):Calls Tryz.prog 162 #[.int .i64 s,.int .i64 n] w fun e w'=>e= .returned (.int .i64 (ownerI s n))∧w=w':=by
 have HA:=Lib.hid (ownerI.eq_def s n)
 go_enter Tryz.func162,Tryz.ntmps162
 by_cases h1:s < 0
 ·have d1:decide (s < 0)=true:=decide_eq_true h1
  repeat' (first|go_values|go_skip|go_guarded|go_step|go_upon|(simp only [];go_at_K))
  go_ret
  exact ⟨by rw [HA.out,if_pos (by omega)];rfl,rfl⟩
 have d1:decide (s < 0)=false:=decide_eq_false h1
 by_cases h2:4096≤s
 ·have d2:decide (4096≤s)=true:=decide_eq_true h2
  repeat' (first|go_values|go_skip|go_guarded|go_step|go_upon|(simp only [];go_at_K))
  go_ret
  exact ⟨by rw [HA.out,if_pos (by omega)];rfl,rfl⟩
 have d2:decide (4096≤s)=false:=decide_eq_false h2
 by_cases h3:n < 1
 ·have d3:decide (n < 1)=true:=decide_eq_true h3
  repeat' (first|go_values|go_skip|go_guarded|go_step|go_upon|(simp only [];go_at_K))
  go_ret
  exact ⟨by rw [HA.out,if_pos (by omega)];rfl,rfl⟩
 have d3:decide (n < 1)=false:=decide_eq_false h3
 by_cases h4:64 < n
 ·have d4:decide (64 < n)=true:=decide_eq_true h4
  repeat' (first|go_values|go_skip|go_guarded|go_step|go_upon|(simp only [];go_at_K))
  go_ret
  exact ⟨by rw [HA.out,if_pos (by omega)];rfl,rfl⟩
 have d4:decide (64 < n)=false:=decide_eq_false h4
 have hn0:(n == 0)=false:=beq_false_of_ne (by omega)
 have hnn:¬ n=0:=by omega
 have hx:s.tmod n=s % n:=Int.tmod_eq_emod_of_nonneg (by omega)
 rw [hx] at HA
 repeat' (first|go_values|go_skip|go_guarded|go_step|go_upon|(simp only [];go_at_K))
 go_ret
 exact ⟨by rw [HA.out,if_neg (by omega)];rfl,rfl⟩
theorem slotsNext (w:World) (site:Int) (f:Nat) (n:Int) (hf:f≤1099511627776):Calls Tryz.prog 59 #[.int .i64 site,.int .i64 (f:Int),.int .i64 n] w fun e w'=>e= .returned (.int .i64 (nextI site f n))∧w=w':=by
 have HA:=Lib.hid (nextI.eq_def site f n)
 go_enter Tryz.func59,Tryz.ntmps59
 by_cases h1:n < 1
 ·have d1:decide (n < 1)=true:=decide_eq_true h1
  repeat' (first|go_values|go_skip|go_guarded|go_step|go_upon|(simp only [];go_at_K))
  go_ret
  exact ⟨by rw [HA.out,if_pos (by omega)];rfl,rfl⟩
 have d1:decide (n < 1)=false:=decide_eq_false h1
 by_cases h2:64 < n
 ·have d2:decide (64 < n)=true:=decide_eq_true h2
  repeat' (first|go_values|go_skip|go_guarded|go_step|go_upon|(simp only [];go_at_K))
  go_ret
  exact ⟨by rw [HA.out,if_pos (by omega)];rfl,rfl⟩
 have d2:decide (64 < n)=false:=decide_eq_false h2
 by_cases h3:site < 0
 ·have d3:decide (site < 0)=true:=decide_eq_true h3
  repeat' (first|go_values|go_skip|go_guarded|go_step|go_upon|(simp only [];go_at_K))
  go_ret
  exact ⟨by rw [HA.out,if_pos (by omega)];rfl,rfl⟩
 have d3:decide (site < 0)=false:=decide_eq_false h3
 by_cases h4:n≤site
 ·have d4:decide (n≤site)=true:=decide_eq_true h4
  repeat' (first|go_values|go_skip|go_guarded|go_step|go_upon|(simp only [];go_at_K))
  go_ret
  exact ⟨by rw [HA.out,if_pos (by omega)];rfl,rfl⟩
 have d4:decide (n≤site)=false:=decide_eq_false h4
 have hn0:(n == 0)=false:=beq_false_of_ne (by omega)
 have hR:nextI site f n=nxtS site n (4096 - f) f:=by rw [HA.out,if_neg (by omega)]
 clear HA
 have HR:=Lib.hid hR
 clear hR
 generalize nextI site f n=R at *
 have hf0:(0:Int)≤(f:Int):=by omega
 repeat' (first|go_values|go_skip|go_guarded|go_step|go_upon|(simp only [];go_at_K))
 go_loopw [7] (fun v7 wr=>∃i:Nat,i≤1099511627776∧v7= .int .i64 (i:Int)∧R=nxtS site n (4096 - i) i∧wr=w) (fun v7 _=>4096 - (intOf v7).toNat)
 case atStart=>exact ⟨f,by omega,rfl,HR.out,rfl⟩
 case round=>
  obtain ⟨i,hi,rfl,hr,rfl⟩:=hrel
  have H:=Lib.hid hr
  clear hr HR hf0
  by_cases hlt:i < 4096
  ·have hil:(i:Int) < 4096:=by omega
   have hx:(i:Int).tmod n=(i:Int) % n:=Int.tmod_eq_emod_of_nonneg (by omega)
   have hw1:IntKind.i64.wrap ((i:Int) + 1)=(i:Int) + 1:=by rw [IntKind.wrap_i64];omega
   have hi0:(0:Int)≤(i:Int):=by omega
   have hstep:R=if (i:Int) % n=site then (i:Int) else nxtS site n (4096 - (i + 1)) (i + 1):=by
    rw [H.out,show 4096 - i=(4096 - (i + 1)) + 1 from by omega,nxtS,hx]
   have HT:=Lib.hid hstep
   clear hstep H
   by_cases he:(i:Int) % n=site
   ·have d5:((i:Int) % n == site)=true:=by rw [he];exact beq_self_eq_true _
    have HE:=Lib.hid he
    clear he
    have d6:((i:Int).tmod n == site)=true:=by rw [hx];exact d5
    repeat' (first|go_values|go_skip|go_guarded|go_step|go_upon|(simp only [];go_at_K))
    go_ret
    exact ⟨by rw [HT.out,if_pos HE.out];rfl,rfl⟩
   ·have d5:((i:Int) % n == site)=false:=beq_false_of_ne he
    have HE:=Lib.hid he
    clear he
    have d6:((i:Int).tmod n == site)=false:=by rw [hx];exact d5
    repeat' (first|go_values|go_skip|go_guarded|go_step|go_upon|(simp only [];go_at_K))
    exact ⟨⟨i + 1,by omega,rfl,by rw [HT.out,if_neg HE.out],trivial⟩,by simp [intOf];omega⟩
  ·have hil:¬ ((i:Int) < 4096):=by omega
   have HR:R= -1:=by rw [H.out,show 4096 - i=0 from by omega,nxtS]
   have HS:=Lib.hid HR
   clear HR H
   repeat' (first|go_values|go_skip|go_guarded|go_step|go_upon|(simp only [];go_at_K))
   go_ret
   exact ⟨by rw [HS.out];rfl,rfl⟩
end Go.Proofs.YtijhlbeipglieaaGreat
namespace Agio
open Go
theorem nxtS_range (site n:Int):∀(k s:Nat),nxtS site n k s= -1∨((s:Int)≤nxtS site n k s∧nxtS site n k s < (s:Int) + k)
 | 0,_=>.inl rfl
 | k + 1,s=>by
  unfold nxtS
  split
  ·exact .inr ⟨Int.le_refl _,by omega⟩
  ·rcases nxtS_range site n k (s + 1) with h | h
   ·exact .inl h
   ·right;omega
theorem nextI_range (site:Int) (f:Nat) (n:Int):nextI site f n= -1∨((f:Int)≤nextI site f n∧nextI site f n < 4096):=by
 unfold nextI
 split
 ·exact .inl rfl
 ·rcases nxtS_range site n (4096 - f) f with h | h
  ·exact .inl h
  ·right
   refine ⟨h.1,?_⟩
   have:=h.2
   omega
def Site.subAt (s:Site) (v:List UInt8) (x:Int):Site × Int × Int:=
 if x < 0 then (s,0,5) else match s.accept x s.ownB v with
 | none=>(s,0,5)
 | some t=>((({t with nx:=(x + 1).toNat,rs:=putG x ⟨s.ownB,[],true,v,[],0⟩ t.rs} :Site).others (Site.asks ⟨s.ownB,[],true,v,[],0⟩ x) t.n).send t.me (Site.votes x s.ownB),x,0)
theorem Site.submit_eq (s:Site) (v:List UInt8) (hd:s.down=false) (h0:v.length≠0) (h1:v.length≤2048):s.submit v=s.subAt v (s.free 4096 (nextI s.me s.nx s.n)):=by
 unfold Site.submit Site.subAt
 rw [if_neg (by rw [hd];simp),if_neg (by omega)]
 rfl
theorem Site.accept_fr {s t:Site} {x:Int} {b:Bl} {v:List UInt8} (h:s.accept x b v=some t):t.me=s.me∧t.n=s.n∧t.held=s.held∧t.rs=s.rs∧t.lv=s.lv∧t.down=s.down∧t.wt=s.wt:=by
 unfold Site.accept Site.note at h
 split at h
 ·cases h
 ·split at h
  ·injection h with h
   rw [←h]
   exact ⟨rfl,rfl,rfl,rfl,rfl,rfl,rfl⟩
  ·cases h
end Agio
namespace Go.Proofs.YtijhlbeipglieaaGreat
open Go.RowKit Agio Go.Maps
variable [Ban]
theorem siteSubmit (w:World) (M:SiteV) (h:SiteS w M) (B:Option Addr) (m d:Nat) (v:List UInt8) (hv:RdB w B m v) (hvb:v.length≤140737488355328) (hl:M.held.length≤800000000) :
  Calls Tryz.prog 20 #[M.ptr,.slice B m d] w fun e w'=>e= .returned (.tuple #[.int .i64 (M.pl.submit v).2.1,.int .i64 (M.pl.submit v).2.2])∧Gone w w' M (M.pl.submit v).1:=by
 obtain ⟨R,hR⟩:∃R,M.pl.submit v=R:=⟨_,rfl⟩
 have HR:=Lib.hid hR
 rw [hR]
 clear hR
 have C0:=siteDown w M h
 have hm:=hv.len
 rw [SiteV.ptr] at C0 ⊢
 cases hd:M.pl.down with
 | true=>
  have hr:R=(M.pl,0,14):=by rw [←HR.out];unfold Site.submit;rw [if_pos hd]
  subst hr
  rw [hd] at C0
  clear HR
  go_enter Tryz.func20,Tryz.ntmps20
  repeat' (first|go_values|go_skip|go_guarded|go_step|go_upon|(simp only [];go_at_K))
  ((with_reducible refine C0.mono ?_);rintro e w1 ⟨rfl,rfl⟩)
  repeat' (first|go_values|go_skip|go_guarded|go_step|go_upon|(simp only [];go_at_K))
  go_ret2
  exact ⟨rfl,M,h,rfl,rfl,Upd.refl _ _⟩
 | false=>
  rw [hd] at C0
  by_cases h0:v.length=0
  ·have hr:R=(M.pl,0,1):=by rw [←HR.out];unfold Site.submit;rw [if_neg (by rw [hd];simp),if_pos (.inl h0)]
   subst hr
   have e0:((m:Int) == 0)=true:=by rw [hm,h0];rfl
   have HM:=Lib.hid hm
   clear HR hm h0
   go_enter Tryz.func20,Tryz.ntmps20
   repeat' (first|go_values|go_skip|go_guarded|go_step|go_upon|(simp only [];go_at_K))
   ((with_reducible refine C0.mono ?_);rintro e w1 ⟨rfl,rfl⟩)
   repeat' (first|go_values|go_skip|go_guarded|go_step|go_upon|(simp only [];go_at_K))
   go_ret2
   exact ⟨rfl,M,h,rfl,rfl,Upd.refl _ _⟩
  have e0:((m:Int) == 0)=false:=beq_false_of_ne (by omega)
  by_cases h1:2048 < v.length
  ·have hr:R=(M.pl,0,1):=by rw [←HR.out];unfold Site.submit;rw [if_neg (by rw [hd];simp),if_pos (.inr h1)]
   subst hr
   have e1:decide (2048 < (m:Int))=true:=decide_eq_true (by omega)
   have HM:=Lib.hid hm
   clear HR hm h0 h1
   go_enter Tryz.func20,Tryz.ntmps20
   repeat' (first|go_values|go_skip|go_guarded|go_step|go_upon|(simp only [];go_at_K))
   ((with_reducible refine C0.mono ?_);rintro e w1 ⟨rfl,rfl⟩)
   repeat' (first|go_values|go_skip|go_guarded|go_step|go_upon|(simp only [];go_at_K))
   go_ret2
   exact ⟨rfl,M,h,rfl,rfl,Upd.refl _ _⟩
  have e1:decide (2048 < (m:Int))=false:=decide_eq_false (by omega)
  have hvl:v.length≤2048:=by omega
  obtain ⟨x,hx⟩:∃x,M.pl.free 4096 (nextI M.me M.nx M.n)=x:=⟨_,rfl⟩
  have hr:R=M.pl.subAt v x:=by rw [←HR.out,←hx];exact Site.submit_eq _ _ hd h0 hvl
  have HR2:=Lib.hid hr
  have HX:=Lib.hid hx
  have HM:=Lib.hid hm
  clear HR hm h0 h1 hr hx
  have q0:∀W2:World,Upd [] [] w W2→W2.cell? ⟨M.gs,0,none⟩=some (.int .i64 (M.me:Int)):=fun W2 u=>(h.upd0 u).blk.cell 0
  have q1:∀W2:World,Upd [] [] w W2→W2.cell? ⟨M.gs,1,none⟩=some (.int .i64 (M.n:Int)):=fun W2 u=>(h.upd0 u).blk.cell 1
  have r0:w.cell? ⟨M.gs,0,none⟩=some (.int .i64 (M.me:Int)):=h.blk.cell 0
  have r1:w.cell? ⟨M.gs,1,none⟩=some (.int .i64 (M.n:Int)):=h.blk.cell 1
  have r9:w.cell? ⟨M.gs,9,none⟩=some (.int .i64 (M.nx:Int)):=h.blk.cell 9
  have hnx:M.nx≤4096:=h.ok.nx
  have hmn:M.me < M.n:=h.ok.me
  have hn7:M.n≤7:=h.ok.n7
  have C1:=slotsNext w.drew M.me M.nx M.n (by omega)
  go_enter Tryz.func20,Tryz.ntmps20
  repeat' (first|go_values|go_skip|go_guarded|go_step|go_upon|(simp only [];go_at_K))
  ((with_reducible refine C0.mono ?_);rintro e w1 ⟨rfl,rfl⟩)
  repeat' (first|go_values|go_skip|go_guarded|go_step|go_upon|(simp only [];go_at_K))
  go_still_tail 13,(by kernel_rfl)
  change wpList _ _ _ _ _ w.drew
  repeat' (first|go_values|go_skip|go_guarded|go_step|go_upon|(simp only [];go_at_K))
  ((with_reducible refine C1.mono ?_);rintro e w1 ⟨rfl,rfl⟩)
  clear C0 C1
  repeat' (first|go_values|go_skip|go_guarded|go_step|go_upon|(simp only [];go_at_K))
  go_loopw [6] (fun v6 wr=>∃(k:Nat) (y:Int),v6= .int .i64 y∧-1≤y∧y < 4096∧(0≤y→4096 - y≤(k:Int))∧M.pl.free k y=x∧Upd [] [] w wr) (fun v6 _=>if intOf v6 < 0 then 0 else (4096 - intOf v6).toNat)
  case atStart=>
   refine ⟨4096,_,rfl,?_,?_,?_,HX.out,(Upd.refl [] w).drew⟩
   ·rcases nextI_range M.me M.nx M.n with hh | hh <;> omega
   ·rcases nextI_range M.me M.nx M.n with hh | hh <;> omega
   ·intro _;rcases nextI_range M.me M.nx M.n with hh | hh <;> omega
  case round=>
   obtain ⟨k,y,rfl,hy1,hy2,hyk,hfy,U⟩:=hrel
   have HF:=Lib.hid hfy
   clear hfy HX
   by_cases hy:0≤y
   ·have C2:=siteFresh wr M (h.upd0 U) y (wfI (by omega) (by omega))
    obtain ⟨k',rfl⟩:∃k',k=k' + 1:=⟨k - 1,by have:=hyk hy;omega⟩
    obtain ⟨F,hF⟩:∃F,M.pl.fresh y=F:=⟨_,rfl⟩
    have HFF:=Lib.hid hF
    rw [hF,SiteV.ptr] at C2
    clear hF
    repeat' (first|go_values|go_skip|go_guarded|go_step|go_upon|(simp only [];go_at_K))
    ((with_reducible refine C2.mono ?_);rintro e w2 ⟨rfl,hu2⟩)
    have U2:=U.trans hu2
    clear C2
    cases F with
    | true=>
     have hx:y=x:=by
      have:=HF.out
      unfold Site.free at this
      rw [if_neg (by rw [HFF.out];simp)] at this
      exact this
     subst hx
     have hv2:=hv.upd U2 (by simp)
     have p0:=q0 w2 U2
     have HH:=h.upd0 U2
     clear HF HFF
     obtain ⟨Wb,Hb,eWb,hHb,hBb,Ub⟩:=boxes1 w2 30 #[.int .i64 0,.int .i64 (M.me:Int)]
     have CC:=bytesClone Wb B m d v (hv2.upd Ub (by simp)) hvb
     have H4:=HH.upd0 Ub
     have Ub0:Upd [] [] w Wb:=U2.trans (Ub.gives (b':=[]) (by simp))
     have dy:decide (y < 0)=false:=decide_eq_false (by omega)
     have hHs:w.heap.size≤Hb:=by have:=U2.size;omega
     clear hv2 hv HH Ub
     repeat' (first|go_values|go_skip|go_guarded|go_step|go_upon|(simp only [];go_at_K))
     ((with_reducible refine CC.mono ?_);rintro e w4 ⟨A,n,c,rfl,ho,hu4⟩)
     have H5:=H4.upd0 hu4
     have K5:=hBb.upd hu4 (by simp)
     have hAn:=Ub0.new hu4
     have U5:Upd [] [] w w4:=(Ub0.trans (hu4.gives (b':=[]) (by simp)))
     have hA5:=ho.own.lt
     have hfl:=h.lt
     obtain ⟨⟨k0,k1⟩,-⟩:=K5.c2
     have hob:(⟨0,M.me⟩:Bl).may 7=true:=h.ok.own
     have C6:=siteAccept w4 M H5 y (by omega) ⟨0,M.me⟩ hob A n c v ho.rd (fun k hk hm=>by have:=hAn k hk;have:=hfl k hm;omega) hvl
     simp only [SiteV.ptr,Bl.val] at C6
     clear CC hu4 hBb H4 p0 Ub0
     cases hacc:M.pl.accept y ⟨0,M.me⟩ v with
     | none=>
      rw [hacc] at C6
      have hrr:R=(M.pl,0,5):=by rw [HR2.out];unfold Site.subAt;rw [if_neg (by omega),show M.pl.ownB=⟨0,M.me⟩ from rfl,hacc]
      subst hrr
      clear HR2
      repeat' (first|go_values|go_skip|go_guarded|go_step|go_upon|(simp only [];go_at_K))
      ((with_reducible refine C6.mono ?_);rintro e w6 ⟨rfl,M1,H6,hp6,hg6,-,U6⟩)
      repeat' (first|go_values|go_skip|go_guarded|go_step|go_upon|(simp only [];go_at_K))
      go_ret2
      exact ⟨rfl,M1,H6,hp6,hg6,(U5.up M.fp).trans U6⟩
     | some t=>
      rw [hacc] at C6
      have hrr:R=((({t with nx:=(y + 1).toNat,rs:=putG y ⟨⟨0,M.me⟩,[],true,v,[],0⟩ t.rs} :Site).others (Site.asks ⟨⟨0,M.me⟩,[],true,v,[],0⟩ y) t.n).send t.me (Site.votes y ⟨0,M.me⟩),y,0):=by rw [HR2.out];unfold Site.subAt;rw [if_neg (by omega),show M.pl.ownB=⟨0,M.me⟩ from rfl,hacc]
      subst hrr
      clear HR2
      repeat' (first|go_values|go_skip|go_guarded|go_step|go_upon|(simp only [];go_at_K))
      ((with_reducible refine C6.mono ?_);rintro e w6 ⟨rfl,M1,H6,hp6,hg6,hr6,U6⟩)
      have hgx:M1.gs=M.gs:=hg6
      replace hp6:M1.pl=t:=hp6
      have t9:w6.cell? ⟨M.gs,9,none⟩=some (.int .i64 (M1.nx:Int)):=by rw [←hg6];exact H6.blk.cell 9
      have f9:w6.frozen? ⟨M.gs,9,none⟩=false:=by rw [←hg6];exact H6.blk.frozen 9
      obtain ⟨tm,tn,th,-,-,-,-⟩:=Site.accept_fr hacc
      have hme1:M1.me=M.me:=by have:=congrArg Site.me hp6;exact this.trans tm
      have hn1:M1.n=M.n:=by have:=congrArg Site.n hp6;exact this.trans tn
      have hheld1:M1.held.length=M.held.length:=by have:=congrArg (fun z:Site=>z.held.length) hp6;simp only [SiteV.held_len,th] at this;exact this
      have hw7:IntKind.i64.wrap (y + 1)=y + 1:=by rw [IntKind.wrap_i64];omega
      have hyn:(((y + 1).toNat:Nat):Int)=y + 1:=by omega
      have hn96:(y + 1).toNat≤4096:=by omega
      have u7:Upd [M1.gs] [M1.gs] w6 (w6.setCell ⟨M1.gs,9,none⟩ (.int .i64 (y + 1))):=(Upd.refl [M1.gs] w6).setCell (p:=⟨M1.gs,9,none⟩) (.inl (by simp)) _
      have hB7:=H6.blk.set_ 9 (.int .i64 (y + 1))
      obtain ⟨M2,hM2⟩:∃M2:SiteV,{M1 with down:=M1.down,top:=M1.top,nx:=(y + 1).toNat} =M2:=⟨_,rfl⟩
      have hp2:M2.pl= {t with nx:=(y + 1).toNat}:=by rw [←hM2,←hp6];rfl
      have H7:=H6.scal M1.down M1.top (y + 1).toNat u7 (by simpa [SiteV.cells,hyn] using hB7) (by
       have:=H6.ok.setNx hn96
       exact this)
      rw [hM2] at H7
      have hg2:M2.gs=M.gs:=by rw [←hM2];exact hgx
      have hfp2:M2.fp=M1.fp:=by rw [←hM2];rfl
      have hAd2:M2.Ad=M1.Ad:=by rw [←hM2]
      have V7:Upd M1.fp M2.fp w6 (w6.setCell ⟨M1.gs,9,none⟩ (.int .i64 (y + 1))):=by
       rw [hfp2]
       exact u7.mono (fun k hk=>by simp only [List.mem_singleton] at hk;subst hk;simp [SiteV.fp]) (fun k hk=>.inr (.inl hk))
      have hHf0:Hb∉M.fp:=fun hk=>by have:=hfl Hb hk;omega
      have hHl4:=K5.lt
      have hHf1:=U6.notin hHf0 hHl4
      have K6:=K5.upd U6 hHf0
      have hHl6:=K6.lt
      have K7:=K6.upd V7 hHf1
      have hHf2:=V7.notin hHf1 hHl6
      have hAf0:∀k∈ablk A,k∉M.fp:=fun k hk hm=>by have:=hAn k hk;have:=hfl k hm;omega
      have T4:BytS w4 ⟨A,n,c,v⟩:=⟨ho.rd,ho.own.tag⟩
      have T6:=T4.upd U6 hAf0
      have hAf1:∀k∈ablk A,k∉M1.fp:=fun k hk=>U6.notin (hAf0 k hk) (hA5 k hk)
      have T7:=T6.upd V7 hAf1
      rw [hgx] at u7 V7 H7 T7 K7
      obtain ⟨w7,hw7e⟩:∃X,w6.setCell ⟨M.gs,9,none⟩ (.int .i64 (y + 1))=X:=⟨_,rfl⟩
      rw [hw7e] at u7 V7 H7 T7 K7
      have T6l:=T6.tag
      clear hM2 hB7 u7 K5 K6 T4 T6 ho C6 H5
      obtain ⟨⟨j0,j1⟩,-⟩:=K7.c2
      obtain ⟨W8,G,eW8,hG,hBG,U8⟩:=boxes1 w7 132 #[.int .i64 0,.int .i64 (M.me:Int),.slice none 0 0,.bool true,.slice A n c,.slice none 0 0,.int .i64 0]
      have R8:RnS W8 ⟨G,⟨0,M.me⟩,none,0,[],true,⟨A,n,c,v⟩,none,0,[],0⟩:=⟨hBG,Own.nil _ _ _,Own.nil _ _ _⟩
      have H8:=H7.upd0 U8
      obtain ⟨w9,hrun9,hm9,u9⟩:=H8.rnd.store Tryz.underlying3 Tryz.underlying119 (by rw [mapG_len];have:=H8.rsLen;unfold maxLen;omega) (x:=y) (wfI (by omega) (by omega)) (RnV.ptr ⟨G,⟨0,M.me⟩,none,0,[],true,⟨A,n,c,v⟩,none,0,[],0⟩)
      rw [putK_G,←putG_map] at hm9
      obtain ⟨H9,V9⟩:=H7.newR (x:=y) (by omega) ⟨G,⟨0,M.me⟩,none,0,[],true,⟨A,n,c,v⟩,none,0,[],0⟩ (w1:=W8) (by simpa [RnV.fp,ablk] using U8) R8 u9 hm9 (fun z hz=>by
       simp only [RnV.bytes,List.map_nil,List.mem_singleton] at hz
       subst hz
       exact ⟨T7,fun k hk hm=>(by
        rcases List.mem_append.1 hm with hm | hm
        ·exact hAf1 k hk (by rw [←hfp2];simp [SiteV.fp,hm])
        ·have h7:=hAn k hk;have h8:=h.ban k hm;omega)⟩) ⟨hvl,hob,by simp [RnV.pl]⟩
      have q8:W8.cell? ⟨M.gs,8,none⟩=some (.map (some M2.br)):=by rw [←hg2];exact H8.blk.cell 8
      simp only [RnV.ptr] at hrun9
      obtain ⟨M3,hM3⟩:∃M3:SiteV,{M2 with rs:=putG y ⟨G,⟨0,M.me⟩,none,0,[],true,⟨A,n,c,v⟩,none,0,[],0⟩ M2.rs} =M3:=⟨_,rfl⟩
      rw [hM3] at H9 V9
      have hp3:M3.pl= {t with nx:=(y + 1).toNat,rs:=putG y ⟨⟨0,M.me⟩,[],true,v,[],0⟩ t.rs}:=by
       rw [←hM3,show ({M2 with rs:=putG y ⟨G,⟨0,M.me⟩,none,0,[],true,⟨A,n,c,v⟩,none,0,[],0⟩ M2.rs} :SiteV).pl= {M2.pl with rs:=putG y (RnV.pl ⟨G,⟨0,M.me⟩,none,0,[],true,⟨A,n,c,v⟩,none,0,[],0⟩) M2.pl.rs} from by unfold SiteV.pl;simp only [putG_map],hp2]
       rfl
      have hg3:M3.gs=M.gs:=by rw [←hM3];exact hg2
      have hmem:(y,(⟨G,⟨0,M.me⟩,none,0,[],true,⟨A,n,c,v⟩,none,0,[],0⟩:RnV))∈M3.rs:=by rw [←hM3];exact mem_putG.2 (.inl rfl)
      have hn3:M3.n=M.n:=by have:=congrArg Site.n hp3;exact this.trans tn
      have hh3:M3.held.length≤900000000:=by have:=congrArg (fun z:Site=>z.held.length) hp3;simp only [SiteV.held_len,th] at this;omega
      have K9:=K7.upd V9 hHf2
      have hHl7:=K7.lt
      have hHf3:=V9.notin hHf2 hHl7
      have hAf3:∀k∈ablk A,k∉M3.fp:=fun k hk=>V9.notin (V7.notin (hAf1 k hk) (tag_lt (T6l k hk))) (tag_lt (T7.tag k hk))
      have T9:=T7.upd V9 (fun k hk=>V7.notin (hAf1 k hk) (tag_lt (T6l k hk)))
      have C10:=siteAsks w9 _ (H9.rds _ hmem) y
      rw [show askV ⟨G,⟨0,M.me⟩,none,0,[],true,⟨A,n,c,v⟩,none,0,[],0⟩ y=⟨1,0,0,y,0,M.me,0,M.me,true,A,n,c,v⟩ from by simp [askV]] at C10
      have hms:Mv.ms ⟨1,0,0,y,0,M.me,0,M.me,true,A,n,c,v⟩=Site.asks ⟨⟨0,M.me⟩,[],true,v,[],0⟩ y:=by simp [Site.asks,Mv.ms]
      have hfit:(Mv.ms ⟨1,0,0,y,0,M.me,0,M.me,true,A,n,c,v⟩).Fit:=by rw [hms];exact Site.asks_fit (by omega) hob hvl
      have C11:=fun (w10:World) (hu:Upd [] [] w9 w10)=>siteOthers w10 M3 (H9.upd0 hu) ⟨1,0,0,y,0,M.me,0,M.me,true,A,n,c,v⟩ hfit (T9.upd0 hu).rd hAf3 hh3
      simp only [hms,hp3,hn3] at C11
      simp only [SiteV.ptr,hg3,RnV.ptr] at C10 C11
      obtain ⟨av,hav⟩:∃z,Mv.val ⟨1,0,0,y,0,M.me,0,M.me,true,A,n,c,v⟩=z:=⟨_,rfl⟩
      simp only [hav] at C10 C11
      clear hM3 R8 hBG H8 hm9 u9 H7 T7 K7 hmem H9 T9 hav hfit hms
      repeat' (first|go_values|go_skip|go_guarded|go_step|go_upon|(simp only [];go_at_K))
      ((with_reducible refine C10.mono ?_);rintro e w10 ⟨rfl,hu10⟩)
      repeat' (first|go_values|go_skip|go_guarded|go_step|go_upon|(simp only [];go_at_K))
      ((with_reducible refine (C11 w10 hu10).mono ?_);rintro e w11 ⟨rfl,M4,h11,p11,g11,-,U11⟩)
      have K11:=(K9.upd hu10 (by simp)).upd U11 hHf3
      obtain ⟨⟨i0,i1⟩,-⟩:=K11.c2
      have g4:M4.gs=M.gs:=g11.trans hg3
      have me4:M4.me=M.me:=by
       have:=congrArg Site.me p11
       rw [(Site.others_me _ _).1] at this
       exact this.trans tm
      have z0:w11.cell? ⟨M.gs,0,none⟩=some (.int .i64 (M.me:Int)):=by rw [←g4,←me4];exact h11.blk.cell 0
      have hh4:M4.held.length≤1000000000:=by
       have h1:M4.held.length=M.held.length + (({t with nx:=(y + 1).toNat,rs:=putG y ⟨⟨0,M.me⟩,[],true,v,[],0⟩ t.rs} :Site).tell (Site.asks ⟨⟨0,M.me⟩,[],true,v,[],0⟩ y) M.n).length:=by
        rw [←SiteV.held_len,p11,Site.others_eq]
        show (t.held ++ _).length=_
        rw [List.length_append,th,SiteV.held_len]
       have:=Site.tell_len ({t with nx:=(y + 1).toNat,rs:=putG y ⟨⟨0,M.me⟩,[],true,v,[],0⟩ t.rs} :Site) (Site.asks ⟨⟨0,M.me⟩,[],true,v,[],0⟩ y) M.n
       omega
      have C12:=siteSend w11.drew M4 h11.drew (M.me:Int) ⟨6,0,0,y,0,M.me,0,0,false,none,0,0,[]⟩ (Site.votes_fit (x:=y) (b:=⟨0,M.me⟩) (by omega) hob) (by omega) (RdB.nil _ _) hh4
      simp only [SiteV.ptr,Mv.val_eq,g4] at C12
      clear C10 C11
      repeat' (first|go_values|go_skip|go_guarded|go_step|go_upon|(simp only [];go_at_K))
      go_still_tail 8,(by kernel_rfl)
      change wpList _ _ _ _ _ w11.drew
      repeat' (first|go_values|go_skip|go_guarded|go_step|go_upon|(simp only [];go_at_K))
      ((with_reducible refine C12.mono ?_);rintro e w12 ⟨rfl,M5,h12,p12,g12,-,U12⟩)
      repeat' (first|go_values|go_skip|go_guarded|go_step|go_upon|(simp only [];go_at_K))
      go_ret2
      refine ⟨rfl,M5,h12,?_,g12.trans g4,?_⟩
      ·rw [p12,p11,tn,tm];rfl
      ·exact (((((((U5.up M.fp).trans U6).trans V7).trans V9).trans (hu10.up M3.fp)).trans U11).drew).trans U12
    | false=>
     have hx:M.pl.free k' (nextI M.me (y + 1).toNat M.n)=x:=by
      have:=HF.out
      unfold Site.free at this
      rw [if_pos ⟨hy,HFF.out⟩] at this
      exact this
     obtain ⟨y',hy'⟩:∃j:Nat,y + 1=(j:Int):=⟨(y + 1).toNat,by omega⟩
     have hw1:IntKind.i64.wrap (y + 1)=(y':Int):=by rw [IntKind.wrap_i64];omega
     have et:(y + 1).toNat=y':=by omega
     rw [et] at hx
     have C3:=slotsNext w2.drew M.me y' M.n (by omega)
     have p0:=q0 w2 U2
     have p1:=q1 w2 U2
     have HHx:=Lib.hid hx
     have HY:=Lib.hid hy'
     clear hx hy' et
     repeat' (first|go_values|go_skip|go_guarded|go_step|go_upon|(simp only [];go_at_K))
     go_still_tail 10,(by kernel_rfl)
     change wpList _ _ _ _ _ w2.drew
     repeat' (first|go_values|go_skip|go_guarded|go_step|go_upon|(simp only [];go_at_K))
     ((with_reducible refine C3.mono ?_);rintro e w3 ⟨rfl,rfl⟩)
     repeat' (first|go_values|go_skip|go_guarded|go_step|go_upon|(simp only [];go_at_K))
     have hye:=HY.out
     have hrg:=nextI_range M.me y' M.n
     refine ⟨⟨k',_,rfl,?_,?_,?_,HHx.out,U2.drew⟩,?_⟩
     ·rcases hrg with hh | hh <;> omega
     ·rcases hrg with hh | hh <;> omega
     ·intro h9;have:=hyk hy;rcases hrg with hh | hh <;> omega
     ·show (if nextI M.me y' M.n < 0 then 0 else (4096 - nextI M.me y' M.n).toNat) < (if y < 0 then 0 else (4096 - y).toNat)
      rw [if_neg (show ¬ y < 0 by omega)]
      split
      ·omega
      ·rcases hrg with hh | hh <;> omega
   ·have hx:y=x:=by
     have:=HF.out
     cases k with
     | zero=>exact this
     | succ k=>unfold Site.free at this;rw [if_neg (by omega)] at this;exact this
    subst hx
    have hrr:R=(M.pl,0,5):=by rw [HR2.out];unfold Site.subAt;rw [if_pos (by omega)]
    subst hrr
    have hv2:=hv.upd U (by simp)
    have p0:=q0 wr U
    have HH:=h.upd0 U
    clear HF
    obtain ⟨Wb,Hb,eWb,hHb,hBb,Ub⟩:=boxes1 wr 30 #[.int .i64 0,.int .i64 (M.me:Int)]
    have CC:=bytesClone Wb B m d v (hv2.upd Ub (by simp)) hvb
    have H4:=HH.upd0 Ub
    have Ub0:Upd [] [] w Wb:=U.trans (Ub.gives (b':=[]) (by simp))
    have dy:decide (y < 0)=true:=decide_eq_true (by omega)
    clear hv2 hv HH Ub
    repeat' (first|go_values|go_skip|go_guarded|go_step|go_upon|(simp only [];go_at_K))
    ((with_reducible refine CC.mono ?_);rintro e w4 ⟨A,n,c,rfl,ho,hu4⟩)
    have H5:=H4.upd0 hu4
    have U5:Upd [] [] w w4:=(Ub0.trans (hu4.gives (b':=[]) (by simp)))
    clear CC hu4 hBb H4 p0 Ub0
    repeat' (first|go_values|go_skip|go_guarded|go_step|go_upon|(simp only [];go_at_K))
    go_ret2
    exact ⟨rfl,M,H5,rfl,rfl,U5.up M.fp⟩
end Go.Proofs.YtijhlbeipglieaaGreat
