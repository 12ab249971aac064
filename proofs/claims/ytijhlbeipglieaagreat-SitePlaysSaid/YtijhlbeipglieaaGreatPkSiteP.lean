/- For SitePlays. -/
import Derived.Test.YtijhlbeipglieaaGreatPkSiteI
import Derived.Test.YtijhlbeipglieaaGreatPkSiteF
set_option linter.all false
set_option maxRecDepth 100000
set_option maxHeartbeats 4000000
namespace Go.Proofs.YtijhlbeipglieaaGreat
open Go.RowKit aA Go.Maps Tryz List
theorem Ka(w:World)(gw:Nat) :
  Calls prog 71 #[.pointer (some ⟨gw,0,none⟩)] w fun e w'=>∃bs gl bl br,e=.returned (.agg #[.map (some bs),.int .i64 0,.pointer (some ⟨gl,0,none⟩),.map (some br),.int .i64 0,.pointer (some ⟨gw,0,none⟩),.slice none 0 0])∧
   bP prog 3 w' bs []∧gI w' gl bl [] 0∧bP prog 3 w' br []∧(bs≠bl∧bs≠br∧bl≠br)∧aa [] [bs,gl,bl,br] w w':=by
 have hmm:=@run_makeMap prog
 obtain⟨W,H,eW,hH,hB,U0⟩:=az w 122 #[.map none,.int .i64 0,.pointer none,.map none,.int .i64 0,.pointer none,.slice none 0 0]
 have m0:=bP.made prog 3 W
 obtain⟨W1,hW1⟩:∃X,W.alloc (.map #[] 0)=X:=⟨_,rfl⟩
 have U1:aa [] [W.heap.size] W W1:=by rw[←hW1];exact((aa.refl [] W).alloc _).gives
 rw[hW1]at m0
 have C:=Ty W1
 go_enter func71,ntmps71
 repeat' go_step
 refine C.mono ?_;rintro e w2 ⟨gl,bl,rfl,hL,hu2⟩
 have m2:=m0.upd hu2
 have K2:=(hB.upd U1).upd hu2
 have l2:=(aa.refl [] W1).new hu2
 obtain⟨W3,hW3⟩:∃X,w2.alloc (.map #[] 0)=X:=⟨_,rfl⟩
 have U3:aa [] [w2.heap.size] w2 W3:=by rw[←hW3];exact((aa.refl [] w2).alloc _).gives
 have m3:=bP.made prog 3 w2
 rw[hW3]at m3
 have K3:=K2.upd U3
 have L3:=hL.upd U3
 have n3:=m2.upd U3
 have ll:=hL.blk.lt
 have lb:=hL.map.lt
 have lm:=m2.lt
 have s1:=U1.size
 have s2:=hu2.size
 have lH:=hB.lt
 have hgl:=l2 gl (by simp)
 have hbl:=l2 bl (by simp)
 have lm0:=m0.lt
 have u4:=SH W3 H (.map (some W.heap.size)) (.int .i64 0) (.pointer (some ⟨gl,0,none⟩)) (.map (some w2.heap.size)) (.int .i64 0) (.pointer (some ⟨gw,0,none⟩)) (.slice none 0 0)
 have K4:=SI K3 (.map (some W.heap.size)) (.int .i64 0) (.pointer (some ⟨gl,0,none⟩)) (.map (some w2.heap.size)) (.int .i64 0) (.pointer (some ⟨gw,0,none⟩)) (.slice none 0 0)
 have a1:=n3.upd u4 (by simp;omega)
 have a2:=L3.upd u4 (by simp;omega) (by simp;omega)
 have a3:=m3.upd u4 (by simp;omega)
 have UU:aa [] [W.heap.size,gl,bl,w2.heap.size] w (Ho W3 H (.map (some W.heap.size)) (.int .i64 0) (.pointer (some ⟨gl,0,none⟩)) (.map (some w2.heap.size)) (.int .i64 0) (.pointer (some ⟨gw,0,none⟩)) (.slice none 0 0)):=by
  have s0:=U0.size
  have t1:=((U0.add U1).add hu2).add U3
  refine(t1.g0.own (by omega) u4).gives (fun k hk=>.inr ?_)
  simp only[mem_cons,not_mem_nil,or_false]at hk
  rcases hk with rfl|rfl|rfl|rfl<;>omega
 obtain⟨⟨z0,z1,z2,z3,z4,z5,z6⟩,f0,f1,f2,f3,f4,f5,f6⟩:=K3.c7
 have KEY:=hdn (And.intro a1 (And.intro a2 (And.intro a3 (And.intro (show W.heap.size≠bl∧W.heap.size≠w2.heap.size∧bl≠w2.heap.size from⟨by omega,by omega,by omega⟩) UU))))
 clear a1 a2 a3 UU hL L3 n3 m3 m2 m0 K2 K3 hB hu2 U0 U1 U3 u4 C ll lb lm s1 s2 hgl hbl l2
 refine wk ?_
 generalize hW:World.setCell _ _ _=W4
 rw[Ho,hW]at K4
 have KE:=KEY.out
 rw[Ho,hW]at KE
 obtain⟨⟨y0,y1,y2,y3,y4,y5,y6⟩,-⟩:=K4.c7
 exact bodyPost_ret (v:=.agg #[.map (some W.heap.size),.int .i64 0,.pointer (some ⟨gl,0,none⟩),.map (some w2.heap.size),.int .i64 0,.pointer (some ⟨gw,0,none⟩),.slice none 0 0]) (by simp[results,results71,go_sem,y0,y1,y2,y3,y4,y5,y6]) rfl ⟨_,gl,bl,_,rfl,KE⟩
theorem Site.Kb{me n pat:Nat}(h:iC me n pat=true):(Site.new me n pat).Ok:=by
 simp only[iC,Bool.and_eq_true,decide_eq_true_eq]at h
 refine⟨?_,?_,?_,?_,?_,?_,?_,?_,?_⟩<;>simp[Site.new]<;>omega
section
variable [eU]
theorem LU(w:World)(me n pat:Nat)(h:iC me n pat=true)(afg:∀k∈(eU.X:List Nat),k<w.heap.size) :
  Calls prog 29 #[.int .i64 (me:Int),.int .i64 (n:Int),.int .i64 (pat:Int)] w fun e w'=>∃M:af,e=.returned (.tuple #[M.ptr,.int .i64 0])∧ay w' M∧M.pl=Site.new me n pat∧aa [] M.fp w w':=by
 have hok:=Site.Kb h
 have h':=h
 simp only[iC,Bool.and_eq_true,decide_eq_true_eq]at h'
 have ht:fB me n pat=true:=by simp only[fB,Bool.and_eq_true,decide_eq_true_eq];omega
 have d1:decide ((n:Int)<3)=false:=dFo
 have d2:decide (7<(n:Int))=false:=dFo
 clear h h'
 have C:=Hr w me n pat ht
 go_enter func29,ntmps29
 repeat' first|go_guarded|go_step
 refine C.mono ?_;rintro e w1 ⟨gw,rfl,hw1,hu1⟩
 repeat' first|go_step|simp only[];go_at_K
 refine(XT w1).mono ?_;rintro e w2 ⟨gd,rfl,hd2,hu2⟩
 have hw2:lC w2 gw me n pat [0,0,0,0,0,0,0]:=⟨hw1.1.upd hu2,hw1.2⟩
 obtain⟨W,H,eW,hH,hB,U0⟩:=az w2 124 #[.int .i64 (me:Int),.int .i64 (n:Int),.int .i64 (pat:Int),.bool false,.pointer (some ⟨gd,0,none⟩),.map none,.int .i64 0,.pointer none,.map none,.int .i64 0,.pointer none,.slice none 0 0]
 have hw3:lC W gw me n pat [0,0,0,0,0,0,0]:=⟨hw2.1.upd U0,hw2.2⟩
 have hd3:=hd2.upd U0
 clear C hw1 hw2 hd2
 repeat' first|go_step|simp only[];go_at_K
 refine(Ka W gw).mono ?_;rintro e w3 ⟨bs,gl,bl,br,rfl,hm1,hL,hm2,hne,hu3⟩
 have hw4:lC w3 gw me n pat [0,0,0,0,0,0,0]:=⟨hw3.1.upd hu3,hw3.2⟩
 have hd4:=hd3.upd hu3
 have K3:=hB.upd hu3
 obtain⟨⟨z0,z1,z2,z3,z4,z5,z6,z7,z8,z9,z10,z11⟩,f0,f1,f2,f3,f4,f5,f6,f7,f8,f9,f10,f11⟩:=K3.c12
 have u4:=EM w3 H (.map (some bs)) (.int .i64 0) (.pointer (some ⟨gl,0,none⟩)) (.map (some br)) (.int .i64 0) (.pointer (some ⟨gw,0,none⟩)) (.slice none 0 0)
 have K4:=EN K3 (.map (some bs)) (.int .i64 0) (.pointer (some ⟨gl,0,none⟩)) (.map (some br)) (.int .i64 0) (.pointer (some ⟨gw,0,none⟩)) (.slice none 0 0)
 have hX:∀k∈[H],bW w3 k=some (some 124):=by simp only[mem_singleton];rintro k rfl;exact K3.tag
 have KEY:=hdn (show ay (sw w3 H (.map (some bs)) (.int .i64 0) (.pointer (some ⟨gl,0,none⟩)) (.map (some br)) (.int .i64 0) (.pointer (some ⟨gw,0,none⟩)) (.slice none 0 0))
   {gs:=H,me:=me,n:=n,pat:=pat,down:=false,gd:=gd,Ad:=none,cd:=0,db:=[],dn:=0,bs:=bs,st:=[],top:=0,gl:=gl,bl:=bl,lv:=[],taken:=0,br:=br,rs:=[],nx:=0,gw:=gw,wt:=[0,0,0,0,0,0,0],Ah:=none,ch:=0,held:=[]} from
  {blk:=K4,nV:=hd4.upd u4 (bA hd4.blk.tag hX (by decide)) (by simp[ah]),vG:=hm1.upd u4 (bA hm1.tag hX (by decide)),jm:=hL.upd u4 (bA hL.blk.tag hX (by decide)) (bA hL.map.tag hX (by decide)),
   nN:=hm2.upd u4 (bA hm2.tag hX (by decide)),bV:=by simp,nT:=⟨hw4.1.upd u4 (bA hw4.1.tag hX (by decide)),hw4.2⟩,hld:=Own.nil _ _ _,gB:=by simp[af.bytes],bad:=by simp[af.bytes],maps:=hne,far:=.nil,ok:=hok,qW:=fun k hk=>(by have h1:=afg k hk;have h2:=hu1.size;have h3:=hu2.size;have h4:=U0.size;have h5:=hu3.size;have h6:=u4.size;omega)})
 have s1:=hu1.size
 have s2:=hu2.size
 have s3:=U0.size
 have s4:=hu3.size
 have UU:=hdn (show aa [] [H,gd,bs,gl,bl,br,gw] w (sw w3 H (.map (some bs)) (.int .i64 0) (.pointer (some ⟨gl,0,none⟩)) (.map (some br)) (.int .i64 0) (.pointer (some ⟨gw,0,none⟩)) (.slice none 0 0))from by
  have t1:=((hu1.add hu2).add U0).add hu3
  refine(t1.g0.own (by omega) u4).gives (fun k hk=>.inr ?_)
  have e1:=(aa.refl [] w).new hu1
  have e2:=(aa.refl [] w1).new hu2
  have e3:=(aa.refl [] W).new hu3
  simp only[mem_cons,not_mem_nil,or_false]at hk
  have g1:=e1 gw (by simp)
  have g2:=e2 gd (by simp)
  rcases hk with rfl|rfl|rfl|rfl|rfl|rfl|rfl
  ·omega
  ·omega
  ·have:=e3 k (by simp);omega
  ·have:=e3 k (by simp);omega
  ·have:=e3 k (by simp);omega
  ·have:=e3 k (by simp);omega
  ·omega)
 clear hw3 hd3 hm1 hL hm2 hw4 hd4 K3 K4 hB hu1 hu2 U0 hu3 u4 hX s1 s2 s3 s4
 refine wk ?_
 generalize hW:World.setCell _ _ _=W4
 have KE:=KEY.out
 have UE:=UU.out
 rw[sw,hW]at KE UE
 go_ret2
 exact⟨_,rfl,KE,rfl,UE⟩
end
theorem sD(w:World)(s n:Int):Calls prog 162 #[.int .i64 s,.int .i64 n] w fun e w'=>e=.returned (.int .i64 (aV s n))∧w=w':=by
 have HA:=hdn (aV.eq_def s n)
 go_enter func162,ntmps162
 by_cases h1:s<0
 ·have d1:decide (s<0)=true:=dTx h1
  refine wk ?_
  go_ret
  exact⟨by rw[HA.out,if_pos (by omega)];rfl,rfl⟩
 have d1:decide (s<0)=false:=dFx h1
 by_cases h2:4096≤s
 ·have d2:decide (4096≤s)=true:=dTx h2
  refine wk ?_
  go_ret
  exact⟨by rw[HA.out,if_pos (by omega)];rfl,rfl⟩
 have d2:decide (4096≤s)=false:=dFx h2
 by_cases h3:n<1
 ·have d3:decide (n<1)=true:=dTx h3
  refine wk ?_
  go_ret
  exact⟨by rw[HA.out,if_pos (by omega)];rfl,rfl⟩
 have d3:decide (n<1)=false:=dFx h3
 by_cases h4:64<n
 ·have d4:decide (64<n)=true:=dTx h4
  refine wk ?_
  go_ret
  exact⟨by rw[HA.out,if_pos (by omega)];rfl,rfl⟩
 have d4:decide (64<n)=false:=dFx h4
 have hn0:(n==0)=false:=beq_false_of_ne (by omega)
 have hnn:¬ n=0:=by omega
 have hx:s.tmod n=s % n:=Int.tmod_eq_emod_of_nonneg (by omega)
 rw[hx]at HA
 refine wk ?_
 go_ret
 exact⟨by rw[HA.out,if_neg (by omega)];rfl,rfl⟩
theorem zB(w:World)(site:Int)(f:Nat)(n:Int)(hf:f≤1099511627776):Calls prog 59 #[.int .i64 site,.int .i64 (f:Int),.int .i64 n] w fun e w'=>e=.returned (.int .i64 (aZ site f n))∧w=w':=by
 have HA:=hdn (aZ.eq_def site f n)
 go_enter func59,ntmps59
 by_cases h1:n<1
 ·have d1:decide (n<1)=true:=dTx h1
  refine wk ?_
  go_ret
  exact⟨by rw[HA.out,if_pos (by omega)];rfl,rfl⟩
 have d1:decide (n<1)=false:=dFx h1
 by_cases h2:64<n
 ·have d2:decide (64<n)=true:=dTx h2
  refine wk ?_
  go_ret
  exact⟨by rw[HA.out,if_pos (by omega)];rfl,rfl⟩
 have d2:decide (64<n)=false:=dFx h2
 by_cases h3:site<0
 ·have d3:decide (site<0)=true:=dTx h3
  refine wk ?_
  go_ret
  exact⟨by rw[HA.out,if_pos (by omega)];rfl,rfl⟩
 have d3:decide (site<0)=false:=dFx h3
 by_cases h4:n≤site
 ·have d4:decide (n≤site)=true:=dTx h4
  refine wk ?_
  go_ret
  exact⟨by rw[HA.out,if_pos (by omega)];rfl,rfl⟩
 have d4:decide (n≤site)=false:=dFx h4
 have hn0:(n==0)=false:=beq_false_of_ne (by omega)
 have hR:aZ site f n=oI site n (4096-f) f:=by rw[HA.out,if_neg (by omega)]
 clear HA
 have HR:=hdn hR
 clear hR
 generalize aZ site f n=R at *
 have hf0:(0:Int)≤(f:Int):=by omega
 repeat' first|go_guarded|go_step
 go_loopw [7] (fun v7 wr=>∃i:Nat,i≤1099511627776∧v7=.int .i64 (i:Int)∧R=oI site n (4096-i) i∧wr=w) (fun v7 _=>4096-(intOf v7).toNat)
 case atStart=>exact⟨f,by omega,rfl,HR.out,rfl⟩
 case round=>
  obtain⟨i,hi,rfl,hr,rfl⟩:=hrel
  have H:=hdn hr
  clear hr HR hf0
  by_cases hlt:i<4096
  ·have hil:(i:Int)<4096:=by omega
   have hx:(i:Int).tmod n=(i:Int) % n:=Int.tmod_eq_emod_of_nonneg (by omega)
   have hw1:=aA.wr ((i:Int)+1)
   have hi0:(0:Int)≤(i:Int):=by omega
   have adS:R=if(i:Int) % n=site then(i:Int)else oI site n (4096-(i+1)) (i+1):=by
    rw[H.out,show 4096-i=(4096-(i+1))+1 from by omega,oI,hx]
   have HT:=hdn adS
   clear adS H
   by_cases he:(i:Int) % n=site
   ·have d5:((i:Int) % n==site)=true:=by rw[he];exact beq_self_eq_true _
    have HE:=hdn he
    clear he
    have d6:((i:Int).tmod n==site)=true:=by rw[hx];exact d5
    refine wk ?_
    go_ret
    exact⟨by rw[HT.out,if_pos HE.out];rfl,rfl⟩
   ·have d5:((i:Int) % n==site)=false:=beq_false_of_ne he
    have HE:=hdn he
    clear he
    have d6:((i:Int).tmod n==site)=false:=by rw[hx];exact d5
    refine wk ?_
    exact⟨⟨i+1,by omega,rfl,by rw[HT.out,if_neg HE.out],trivial⟩,by simp[intOf];omega⟩
  ·have hil:¬ ((i:Int)<4096):=by omega
   have HR:R= -1:=by rw[H.out,show 4096-i=0 from by omega,oI]
   have HS:=hdn HR
   clear HR H
   refine wk ?_
   go_ret
   exact⟨by rw[HS.out];rfl,rfl⟩
end Go.Proofs.YtijhlbeipglieaaGreat
namespace aA
open Go List
theorem DU(site n:Int):∀(k s:Nat),oI site n k s= -1∨((s:Int)≤oI site n k s∧oI site n k s<(s:Int)+k)
 |0,_=>.inl rfl
 |k+1,s=>by
  unfold oI
  split
  ·exact .inr ⟨Int.le_refl _,by omega⟩
  ·rcases DU site n k (s+1)with h|h
   ·exact .inl h
   ·right;omega
theorem gz(site:Int)(f:Nat)(n:Int):aZ site f n= -1∨((f:Int)≤aZ site f n∧aZ site f n<4096):=by
 unfold aZ
 split
 ·exact .inl rfl
 ·rcases DU site n (4096 - f) f with h|h
  ·exact .inl h
  ·right
   refine⟨h.1,?_⟩
   have:=h.2
   omega
def Site.vE(s:Site)(v:List UInt8)(x:Int):Site × Int × Int:=
 if x<0 then(s,0,5)else match s.accept x s.ownB v with
 |none=>(s,0,5)
 |some t=>((({t with nx:=(x+1).toNat,rs:=aG x ⟨s.ownB,[],true,v,[],0⟩ t.rs} :Site).others (Site.asks ⟨s.ownB,[],true,v,[],0⟩ x) t.n).send t.me (Site.dW x s.ownB),x,0)
theorem Site.zy(s:Site)(v:List UInt8)(hd:s.down=false)(h0:v.length≠0)(h1:v.length≤2048):s.cZ v=s.vE v (s.free 4096 (aZ s.me s.nx s.n)):=by
 unfold Site.cZ Site.vE
 rw[if_neg (by rw[hd];simp),if_neg (by omega)]
 rfl
theorem Site.gD{s t:Site}{x:Int}{b:Bl}{v:List UInt8}(h:s.accept x b v=some t):t.me=s.me∧t.n=s.n∧t.held=s.held∧t.rs=s.rs∧t.lv=s.lv∧t.down=s.down∧t.wt=s.wt:=by
 unfold Site.accept Site.note at h
 split at h
 ·cases h
 ·split at h
  ·injection h with h
   rw[←h]
   exact⟨rfl,rfl,rfl,rfl,rfl,rfl,rfl⟩
  ·cases h
end aA
namespace Go.Proofs.YtijhlbeipglieaaGreat
open Go.RowKit aA Go.Maps Tryz List
variable [eU]
theorem BS(w:World)(M:af)(h:ay w M)(B:Option Addr)(m d:Nat)(v:List UInt8)(hv:aD w B m v)(hvb:v.length≤140737488355328)(hl:M.held.length≤800000000) :
  Calls prog 20 #[M.ptr,.slice B m d] w fun e w'=>e=.returned (.tuple #[.int .i64 (M.pl.cZ v).2.1,.int .i64 (M.pl.cZ v).2.2])∧Gone w w' M (M.pl.cZ v).1:=by
 obtain⟨R,hR⟩:=ex1 (M.pl.cZ v)
 have HR:=hdn hR
 rw[hR]
 clear hR
 have C0:=oF w M h
 have hm:=hv.len
 rw[af.ptr]at C0 ⊢
 cases hd:M.pl.down with
 |true=>
  have hr:R=(M.pl,0,14):=by rw[←HR.out];unfold Site.cZ;rw[if_pos hd]
  subst hr
  rw[hd]at C0
  clear HR
  go_enter func20,ntmps20
  repeat' go_step
  refine C0.mono ?_;rintro e w1 ⟨rfl,rfl⟩
  refine wk ?_
  go_ret2
  exact⟨rfl,M,h,rfl,rfl,aa.refl _ _⟩
 |false=>
  rw[hd]at C0
  by_cases h0:v.length=0
  ·have hr:R=(M.pl,0,1):=by rw[←HR.out];unfold Site.cZ;rw[if_neg (by rw[hd];simp),if_pos (.inl h0)]
   subst hr
   have e0:((m:Int)==0)=true:=by rw[hm,h0];rfl
   have HM:=hdn hm
   clear HR hm h0
   go_enter func20,ntmps20
   repeat' go_step
   refine C0.mono ?_;rintro e w1 ⟨rfl,rfl⟩
   refine wk ?_
   go_ret2
   exact⟨rfl,M,h,rfl,rfl,aa.refl _ _⟩
  have e0:((m:Int)==0)=false:=beq_false_of_ne (by omega)
  by_cases h1:2048<v.length
  ·have hr:R=(M.pl,0,1):=by rw[←HR.out];unfold Site.cZ;rw[if_neg (by rw[hd];simp),if_pos (.inr h1)]
   subst hr
   have e1:decide (2048<(m:Int))=true:=dTo
   have HM:=hdn hm
   clear HR hm h0 h1
   go_enter func20,ntmps20
   repeat' go_step
   refine C0.mono ?_;rintro e w1 ⟨rfl,rfl⟩
   refine wk ?_
   go_ret2
   exact⟨rfl,M,h,rfl,rfl,aa.refl _ _⟩
  have e1:decide (2048<(m:Int))=false:=dFo
  have hvl:v.length≤2048:=by omega
  obtain⟨x,hx⟩:=ex1 (M.pl.free 4096 (aZ M.me M.nx M.n))
  have hr:R=M.pl.vE v x:=by rw[←HR.out,←hx];exact Site.zy _ _ hd h0 hvl
  have HR2:=hdn hr
  have HX:=hdn hx
  have HM:=hdn hm
  clear HR hm h0 h1 hr hx
  have q0:∀W2:World,aa [] [] w W2→W2.cell? ⟨M.gs,0,none⟩=some (.int .i64 (M.me:Int)):=fun W2 u=>(h.au u).blk.cell 0
  have q1:∀W2:World,aa [] [] w W2→W2.cell? ⟨M.gs,1,none⟩=some (.int .i64 (M.n:Int)):=fun W2 u=>(h.au u).blk.cell 1
  have r0:w.cell? ⟨M.gs,0,none⟩=some (.int .i64 (M.me:Int)):=h.blk.cell 0
  have r1:w.cell? ⟨M.gs,1,none⟩=some (.int .i64 (M.n:Int)):=h.blk.cell 1
  have r9:w.cell? ⟨M.gs,9,none⟩=some (.int .i64 (M.nx:Int)):=h.blk.cell 9
  have hnx:M.nx≤4096:=h.ok.nx
  have hmn:M.me<M.n:=h.ok.me
  have FP:M.n≤7:=h.ok.n7
  have C1:=zB w.drew M.me M.nx M.n (by omega)
  go_enter func20,ntmps20
  repeat' go_step
  refine C0.mono ?_;rintro e w1 ⟨rfl,rfl⟩
  repeat' first|go_guarded|go_step|simp only[];go_at_K
  go_still_tail 13,(by kernel_rfl)
  change wpList _ _ _ _ _ w.drew
  repeat' go_step
  refine C1.mono ?_;rintro e w1 ⟨rfl,rfl⟩
  clear C0 C1
  repeat' first|go_step|simp only[];go_at_K
  go_loopw [6] (fun v6 wr=>∃(k:Nat)(y:Int),v6=.int .i64 y∧-1≤y∧y<4096∧(0≤y→4096-y≤(k:Int))∧M.pl.free k y=x∧aa [] [] w wr) (fun v6 _=>if intOf v6<0 then 0 else(4096-intOf v6).toNat)
  case atStart=>
   refine⟨4096,_,rfl,?_,?_,?_,HX.out,(aa.refl [] w).drew⟩
   ·rcases gz M.me M.nx M.n with hh|hh<;>omega
   ·rcases gz M.me M.nx M.n with hh|hh<;>omega
   ·intro _;rcases gz M.me M.nx M.n with hh|hh<;>omega
  case round=>
   obtain⟨k,y,rfl,hy1,hy2,hyk,Wt,U⟩:=hrel
   have HF:=hdn Wt
   clear Wt HX
   by_cases hy:0≤y
   ·have C2:=yO wr M (h.au U) y (jV (by omega) (by omega))
    obtain⟨k',rfl⟩:∃k',k=k'+1:=⟨k - 1,by have:=hyk hy;omega⟩
    obtain⟨F,hF⟩:=ex1 (M.pl.fresh y)
    have xY:=hdn hF
    rw[hF,af.ptr]at C2
    clear hF
    repeat' first|go_guarded|go_step
    refine C2.mono ?_;rintro e w2 ⟨rfl,hu2⟩
    have U2:=U.trans hu2
    clear C2
    cases F with
    |true=>
     have hx:y=x:=by
      have:=HF.out
      unfold Site.free at this
      rw[if_neg (by rw[xY.out];simp)]at this
      exact this
     subst hx
     have hv2:=hv.upd U2
     have p0:=q0 w2 U2
     have HH:=h.au U2
     clear HF xY
     obtain⟨Wb,Hb,ZZ,Z0,hBb,Ub⟩:=az w2 30 #[.int .i64 0,.int .i64 (M.me:Int)]
     have CC:=dS Wb B m d v (hv2.upd Ub) hvb
     have H4:=HH.au Ub
     have Nn:aa [] [] w Wb:=U2.trans Ub.g0
     have dy:decide (y<0)=false:=dFo
     have hHs:w.heap.size≤Hb:=by have:=U2.size;omega
     clear hv2 hv HH Ub
     repeat' first|go_guarded|go_step|simp only[];go_at_K
     refine CC.mono ?_;rintro e w4 ⟨A,n,c,rfl,ho,bM⟩
     have H5:=H4.au bM
     have K5:=hBb.upd bM
     have hAn:=Nn.new bM
     have U5:aa [] [] w w4:=(Nn.trans bM.g0)
     have xX:=ho.own.lt
     have hfl:=h.lt
     obtain⟨⟨k0,k1⟩,-⟩:=K5.c2
     have AA:(⟨0,M.me⟩:Bl).may 7=true:=h.ok.own
     have C6:=pg w4 M H5 y (by omega) ⟨0,M.me⟩ AA A n c v ho.rd (fun k hk hm=>by have:=hAn k hk;have:=hfl k hm;omega) hvl
     simp only[af.ptr,Bl.val]at C6
     clear CC bM hBb H4 p0 Nn
     cases abU:M.pl.accept y ⟨0,M.me⟩ v with
     |none=>
      rw[abU]at C6
      have hrr:R=(M.pl,0,5):=by rw[HR2.out];unfold Site.vE;rw[if_neg (by omega),show M.pl.ownB=⟨0,M.me⟩from rfl,abU]
      subst hrr
      clear HR2
      repeat' first|go_guarded|go_step|simp only[];go_at_K
      refine C6.mono ?_;rintro e w6 ⟨rfl,M1,H6,iY,jy,-,U6⟩
      refine wk ?_
      go_ret2
      exact⟨rfl,M1,H6,iY,jy,(U5.up M.fp).trans U6⟩
     |some t=>
      rw[abU]at C6
      have hrr:R=((({t with nx:=(y+1).toNat,rs:=aG y ⟨⟨0,M.me⟩,[],true,v,[],0⟩ t.rs} :Site).others (Site.asks ⟨⟨0,M.me⟩,[],true,v,[],0⟩ y) t.n).send t.me (Site.dW y ⟨0,M.me⟩),y,0):=by rw[HR2.out];unfold Site.vE;rw[if_neg (by omega),show M.pl.ownB=⟨0,M.me⟩from rfl,abU]
      subst hrr
      clear HR2
      repeat' first|go_guarded|go_step|simp only[];go_at_K
      refine C6.mono ?_;rintro e w6 ⟨rfl,M1,H6,iY,jy,Ai,U6⟩
      have hgx:M1.gs=M.gs:=jy
      replace iY:M1.pl=t:=iY
      have t9:w6.cell? ⟨M.gs,9,none⟩=some (.int .i64 (M1.nx:Int)):=by rw[←jy];exact H6.blk.cell 9
      have f9:w6.frozen? ⟨M.gs,9,none⟩=false:=by rw[←jy];exact H6.blk.frozen 9
      obtain⟨tm,tn,th,-,-,-,-⟩:=Site.gD abU
      have aa9:M1.me=M.me:=by have:=congrArg Site.me iY;exact this.trans tm
      have hn1:M1.n=M.n:=by have:=congrArg Site.n iY;exact this.trans tn
      have Yw:M1.held.length=M.held.length:=by have:=congrArg (fun z:Site=>z.held.length) iY;simp only[af.bf,th]at this;exact this
      have hw7:=aA.wr (y+1)
      have hyn:(((y+1).toNat:Nat):Int)=y+1:=by omega
      have afh:(y+1).toNat≤4096:=by omega
      have u7:aa [M1.gs] [M1.gs] w6 (w6.setCell ⟨M1.gs,9,none⟩ (.int .i64 (y+1))):=(aa.refl [M1.gs] w6).setCell (p:=⟨M1.gs,9,none⟩) (.inl (by simp)) _
      have pF:=H6.blk.aO 9 (.int .i64 (y+1))
      obtain⟨M2,hM2⟩:∃M2:af,{M1 with down:=M1.down,top:=M1.top,nx:=(y+1).toNat} =M2:=⟨_,rfl⟩
      have hp2:M2.pl= {t with nx:=(y+1).toNat}:=by rw[←hM2,←iY];rfl
      have H7:=H6.BM M1.down M1.top (y+1).toNat u7 (by simpa[af.cells,hyn]using pF) (by
       have:=H6.ok.kQ afh
       exact this)
      rw[hM2]at H7
      have hg2:M2.gs=M.gs:=by rw[←hM2];exact hgx
      have aba:M2.fp=M1.fp:=by rw[←hM2];rfl
      have aiA:M2.Ad=M1.Ad:=by rw[←hM2]
      have V7:aa M1.fp M2.fp w6 (w6.setCell ⟨M1.gs,9,none⟩ (.int .i64 (y+1))):=by
       rw[aba]
       exact u7.mono (fun k hk=>by simp only[mem_singleton]at hk;subst hk;simp[af.fp]) (fun k hk=>.inr (.inl hk))
      have abb:Hb∉M.fp:=fun hk=>by have:=hfl Hb hk;omega
      have afi:=K5.lt
      have VD:=U6.eQ abb afi
      have K6:=K5.upd U6 abb
      have afj:=K6.lt
      have K7:=K6.upd V7 VD
      have abd:=V7.eQ VD afj
      have abe:∀k∈ah A,k∉M.fp:=fun k hk hm=>by have:=hAn k hk;have:=hfl k hm;omega
      have T4:dF w4 ⟨A,n,c,v⟩:=⟨ho.rd,ho.own.tag⟩
      have T6:=T4.upd U6 abe
      have OU:∀k∈ah A,k∉M1.fp:=fun k hk=>U6.eQ (abe k hk) (xX k hk)
      have T7:=T6.upd V7 OU
      rw[hgx]at u7 V7 H7 T7 K7
      obtain⟨w7,afk⟩:∃X,w6.setCell ⟨M.gs,9,none⟩ (.int .i64 (y+1))=X:=⟨_,rfl⟩
      rw[afk]at u7 V7 H7 T7 K7
      have T6l:=T6.tag
      clear hM2 pF u7 K5 K6 T4 T6 ho C6 H5
      obtain⟨⟨j0,j1⟩,-⟩:=K7.c2
      obtain⟨W8,G,JO,hG,hBG,U8⟩:=az w7 132 #[.int .i64 0,.int .i64 (M.me:Int),.slice none 0 0,.bool true,.slice A n c,.slice none 0 0,.int .i64 0]
      have R8:o6 W8 ⟨G,⟨0,M.me⟩,none,0,[],true,⟨A,n,c,v⟩,none,0,[],0⟩:=⟨hBG,Own.nil _ _ _,Own.nil _ _ _⟩
      have H8:=H7.au U8
      obtain⟨w9,OV,mg,u9⟩:=H8.nN.store underlying3 underlying119 (by rw[mE];have:=H8.NL;unfold maxLen;omega) (x:=y) (jV (by omega) (by omega)) (aS.ptr ⟨G,⟨0,M.me⟩,none,0,[],true,⟨A,n,c,v⟩,none,0,[],0⟩)
      rw[yR,←fE]at mg
      obtain⟨H9,V9⟩:=H7.aa6 (x:=y) (by omega) ⟨G,⟨0,M.me⟩,none,0,[],true,⟨A,n,c,v⟩,none,0,[],0⟩ (w1:=W8) (by simpa[aS.fp,ah]using U8) R8 u9 mg (fun z hz=>by
       simp only[aS.bytes,map_nil,mem_singleton]at hz
       subst hz
       exact⟨T7,fun k hk hm=>(by
        rcases mem_append.1 hm with hm|hm
        ·exact OU k hk (by rw[←aba];simp[af.fp,hm])
        ·have h7:=hAn k hk;have h8:=h.qW k hm;omega)⟩) ⟨hvl,AA,by simp[aS.pl]⟩
      have q8:W8.cell? ⟨M.gs,8,none⟩=some (.map (some M2.br)):=by rw[←hg2];exact H8.blk.cell 8
      simp only[aS.ptr]at OV
      obtain⟨M3,jP⟩:∃M3:af,{M2 with rs:=aG y ⟨G,⟨0,M.me⟩,none,0,[],true,⟨A,n,c,v⟩,none,0,[],0⟩ M2.rs} =M3:=⟨_,rfl⟩
      rw[jP]at H9 V9
      have hp3:M3.pl= {t with nx:=(y+1).toNat,rs:=aG y ⟨⟨0,M.me⟩,[],true,v,[],0⟩ t.rs}:=by
       rw[←jP,show({M2 with rs:=aG y ⟨G,⟨0,M.me⟩,none,0,[],true,⟨A,n,c,v⟩,none,0,[],0⟩ M2.rs} :af).pl= {M2.pl with rs:=aG y (aS.pl ⟨G,⟨0,M.me⟩,none,0,[],true,⟨A,n,c,v⟩,none,0,[],0⟩) M2.pl.rs}from by unfold af.pl;simp only[fE],hp2]
       rfl
      have hg3:M3.gs=M.gs:=by rw[←jP];exact hg2
      have acm:(y,(⟨G,⟨0,M.me⟩,none,0,[],true,⟨A,n,c,v⟩,none,0,[],0⟩:aS))∈M3.rs:=by rw[←jP];exact eY.2 (.inl rfl)
      have EF:M3.n=M.n:=by have:=congrArg Site.n hp3;exact this.trans tn
      have hh3:M3.held.length≤900000000:=by have:=congrArg (fun z:Site=>z.held.length) hp3;simp only[af.bf,th]at this;omega
      have K9:=K7.upd V9 abd
      have afl:=K7.lt
      have afm:=V9.eQ abd afl
      have afn:∀k∈ah A,k∉M3.fp:=fun k hk=>V9.eQ (V7.eQ (OU k hk) (iI (T6l k hk))) (iI (T7.tag k hk))
      have T9:=T7.upd V9 (fun k hk=>V7.eQ (OU k hk) (iI (T6l k hk)))
      have tN:=wR w9 _ (H9.bV _ acm) y
      rw[show ic ⟨G,⟨0,M.me⟩,none,0,[],true,⟨A,n,c,v⟩,none,0,[],0⟩ y=⟨1,0,0,y,0,M.me,0,M.me,true,A,n,c,v⟩from by simp[ic]]at tN
      have hms:Mv.ms ⟨1,0,0,y,0,M.me,0,M.me,true,A,n,c,v⟩=Site.asks ⟨⟨0,M.me⟩,[],true,v,[],0⟩ y:=by simp[Site.asks,Mv.ms]
      have adn:(Mv.ms ⟨1,0,0,y,0,M.me,0,M.me,true,A,n,c,v⟩).Fit:=by rw[hms];exact Site.iT (by omega) AA hvl
      have Ba:=fun(zq:World)(hu:aa [] [] w9 zq)=>kL zq M3 (H9.au hu) ⟨1,0,0,y,0,M.me,0,M.me,true,A,n,c,v⟩ adn (T9.au hu).rd afn hh3
      simp only[hms,hp3,EF]at Ba
      simp only[af.ptr,hg3,aS.ptr]at tN Ba
      obtain⟨av,qd⟩:∃z,Mv.val ⟨1,0,0,y,0,M.me,0,M.me,true,A,n,c,v⟩=z:=⟨_,rfl⟩
      simp only[qd]at tN Ba
      clear jP R8 hBG H8 mg u9 H7 T7 K7 acm H9 T9 qd adn hms
      repeat' first|go_guarded|go_step|simp only[];go_at_K
      refine tN.mono ?_;rintro e zq ⟨rfl,zC⟩
      repeat' first|go_step|simp only[];go_at_K
      refine(Ba zq zC).mono ?_;rintro e Kc ⟨rfl,M4,h11,Bc,g11,-,yj⟩
      have Xn:=(K9.upd zC).upd yj afm
      obtain⟨⟨i0,i1⟩,-⟩:=Xn.c2
      have g4:M4.gs=M.gs:=g11.trans hg3
      have Xo:M4.me=M.me:=by
       have:=congrArg Site.me Bc
       rw[(Site.fJ _ _).1]at this
       exact this.trans tm
      have z0:Kc.cell? ⟨M.gs,0,none⟩=some (.int .i64 (M.me:Int)):=by rw[←g4,←Xo];exact h11.blk.cell 0
      have hh4:M4.held.length≤1000000000:=by
       have h1:M4.held.length=M.held.length+(({t with nx:=(y+1).toNat,rs:=aG y ⟨⟨0,M.me⟩,[],true,v,[],0⟩ t.rs} :Site).tell (Site.asks ⟨⟨0,M.me⟩,[],true,v,[],0⟩ y) M.n).length:=by
        rw[←af.bf,Bc,Site.bH]
        show(t.held++_).length=_
        rw[length_append,th,af.bf]
       have:=Site.gQ ({t with nx:=(y+1).toNat,rs:=aG y ⟨⟨0,M.me⟩,[],true,v,[],0⟩ t.rs} :Site) (Site.asks ⟨⟨0,M.me⟩,[],true,v,[],0⟩ y) M.n
       omega
      have uN:=jL Kc.drew M4 h11.drew (M.me:Int) ⟨6,0,0,y,0,M.me,0,0,false,none,0,0,[]⟩ (Site.kz (x:=y) (b:=⟨0,M.me⟩) (by omega) AA) (by omega) (aD.nil _ _) hh4
      simp only[af.ptr,Mv.aH,g4]at uN
      clear tN Ba
      repeat' first|go_step|simp only[];go_at_K
      go_still_tail 8,(by kernel_rfl)
      change wpList _ _ _ _ _ Kc.drew
      repeat' go_step
      refine uN.mono ?_;rintro e xS ⟨rfl,M5,h12,p12,g12,-,Nb⟩
      refine wk ?_
      go_ret2
      refine⟨rfl,M5,h12,?_,g12.trans g4,?_⟩
      ·rw[p12,Bc,tn,tm];rfl
      ·exact(((((((U5.up M.fp).trans U6).trans V7).trans V9).trans (zC.up M3.fp)).trans yj).drew).trans Nb
    |false=>
     have hx:M.pl.free k' (aZ M.me (y+1).toNat M.n)=x:=by
      have:=HF.out
      unfold Site.free at this
      rw[if_pos ⟨hy,xY.out⟩]at this
      exact this
     obtain⟨y',hy'⟩:∃j:Nat,y+1=(j:Int):=⟨(y+1).toNat,by omega⟩
     have hw1:IntKind.i64.wrap (y+1)=(y':Int):=by rw[IntKind.wrap_i64];omega
     have et:(y+1).toNat=y':=by omega
     rw[et]at hx
     have C3:=zB w2.drew M.me y' M.n (by omega)
     have p0:=q0 w2 U2
     have p1:=q1 w2 U2
     have HHx:=hdn hx
     have HY:=hdn hy'
     clear hx hy' et
     refine wk ?_
     go_still_tail 10,(by kernel_rfl)
     change wpList _ _ _ _ _ w2.drew
     repeat' go_step
     refine C3.mono ?_;rintro e w3 ⟨rfl,rfl⟩
     refine wk ?_
     have hye:=HY.out
     have hrg:=gz M.me y' M.n
     refine⟨⟨k',_,rfl,?_,?_,?_,HHx.out,U2.drew⟩,?_⟩
     ·rcases hrg with hh|hh<;>omega
     ·rcases hrg with hh|hh<;>omega
     ·intro h9;have:=hyk hy;rcases hrg with hh|hh<;>omega
     ·show(if aZ M.me y' M.n<0 then 0 else(4096-aZ M.me y' M.n).toNat)<(if y<0 then 0 else(4096-y).toNat)
      rw[if_neg (show ¬ y<0 by omega)]
      split
      ·omega
      ·rcases hrg with hh|hh<;>omega
   ·have hx:y=x:=by
     have:=HF.out
     cases k with
     |zero=>exact this
     |succ k=>unfold Site.free at this;rw[if_neg (by omega)]at this;exact this
    subst hx
    have hrr:R=(M.pl,0,5):=by rw[HR2.out];unfold Site.vE;rw[if_pos (by omega)]
    subst hrr
    have hv2:=hv.upd U
    have p0:=q0 wr U
    have HH:=h.au U
    clear HF
    obtain⟨Wb,Hb,ZZ,Z0,hBb,Ub⟩:=az wr 30 #[.int .i64 0,.int .i64 (M.me:Int)]
    have CC:=dS Wb B m d v (hv2.upd Ub) hvb
    have H4:=HH.au Ub
    have Nn:aa [] [] w Wb:=U.trans Ub.g0
    have dy:decide (y<0)=true:=dTo
    clear hv2 hv HH Ub
    repeat' first|go_guarded|go_step
    refine CC.mono ?_;rintro e w4 ⟨A,n,c,rfl,ho,bM⟩
    have H5:=H4.au bM
    have U5:aa [] [] w w4:=(Nn.trans bM.g0)
    clear CC bM hBb H4 p0 Nn
    refine wk ?_
    go_ret2
    exact⟨rfl,M,H5,rfl,rfl,U5.up M.fp⟩
