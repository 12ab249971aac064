/- For SitePlays. -/
import Derived.Test.YtijhlbeipglieaaGreatPkSu
set_option linter.all false
namespace aA
open Go Go.Proofs.YtijhlbeipglieaaGreat List
theorem Bl.lt_irrefl(a:Bl):¬ a.lt a:=by unfold Bl.lt;omega
theorem Bl.le_trans{a b c:Bl}(h:¬ b.lt a)(k:¬ c.lt b):¬ c.lt a:=by unfold Bl.lt at *;omega
def Rc.ax(r:Rc):Bl:=⟨r.round,r.site⟩
def mJ(t:Sp)(r:Rc):Sp:=if r.kind=1 then {t with p:=r.ax}else if bg r.ax t.p<0 then t else⟨r.ax,true,r.ax,r.val⟩
def gu(l:List Rc)(x:Int):Sp:=(l.filter fun r=>decide (r.slot=x)).foldl mJ Sp.zero
theorem Ti(x:Int):gu [] x=Sp.zero:=rfl
theorem mK(l:List Rc)(r:Rc)(x:Int):gu (l++[r]) x=if r.slot=x then mJ (gu l x) r else gu l x:=by
 unfold gu
 rw[filter_append,foldl_append]
 by_cases h:r.slot=x<;>simp[h]
def Good(l:List Rc):Prop:=∀l1 r l2,l=l1++r::l2→¬ r.ax.lt (gu l1 r.slot).p∧(r.kind=1→1≤r.round)
theorem Good.nil:Good []:=by intro l1 r l2 h;simp at h
theorem Good.pre{l k:List Rc}(h:Good (l++k)):Good l:=fun l1 r l2 e=>h l1 r (l2++k) (by rw[e];simp)
theorem Good.pfx{l m:List Rc}(h:Good m)(hp:l <+:m):Good l:=by obtain⟨k,rfl⟩:=hp;exact h.pre
theorem Good.snoc{l:List Rc}{r:Rc}(h:Good l)(hr:¬ r.ax.lt (gu l r.slot).p)(hk:r.kind=1→1≤r.round):Good (l++[r]):=by
 intro l1 r' l2 e
 rcases eq_nil_or_concat l2 with rfl|⟨l3,z,rfl⟩
 ·obtain⟨rfl,e2⟩:=append_inj' e rfl
  injection e2 with e2
  subst e2
  exact⟨hr,hk⟩
 ·have e':l++[r]=(l1++r'::l3)++[z]:=by rw[e];simp
  obtain⟨rfl,-⟩:=append_inj' e' rfl
  exact h l1 r' l3 rfl
theorem Good.last{l:List Rc}{r:Rc}(h:Good (l++[r])):¬ r.ax.lt (gu l r.slot).p:=(h l r [] rfl).1
def Sp.Tj(t:Sp):Prop:=t.so=true→¬ t.p.lt t.at_
def Sp.Fit(t:Sp):Prop:=t.so=true∨t.at_=⟨0,0⟩∧t.b= []
theorem Tk{t:Sp}(h:t.Fit)(r:Rc):(mJ t r).Fit:=by
 unfold mJ
 split
 ·exact h
 split
 ·exact h
 ·exact .inl rfl
theorem E9:∀(l:List Rc){t:Sp},t.Fit→(l.foldl mJ t).Fit
 |[],_,h=>h
 |r::l,_,h=>E9 l (Tk h r)
theorem Tm(l:List Rc)(x:Int):(gu l x).Fit:=E9 _ (.inr ⟨rfl,rfl⟩)
structure Sp.Le(x y:Sp):Prop where
 p:¬ y.p.lt x.p
 so:x.so=true→y.so=true∧¬ y.at_.lt x.at_
theorem Sp.Le.refl(x:Sp):Sp.Le x x:=⟨Bl.lt_irrefl _,fun h=>⟨h,Bl.lt_irrefl _⟩⟩
theorem Sp.Le.trans{x y z:Sp}(h:Sp.Le x y)(k:Sp.Le y z):Sp.Le x z:=
 ⟨Bl.le_trans h.p k.p,fun e=>⟨(k.so (h.so e).1).1,Bl.le_trans (h.so e).2 (k.so (h.so e).1).2⟩⟩
theorem Mh{t:Sp}{r:Rc}(hf:t.Tj)(h:¬ r.ax.lt t.p):Sp.Le t (mJ t r)∧(mJ t r).Tj:=by
 unfold mJ
 split
 ·exact⟨⟨h,fun e=>⟨e,Bl.lt_irrefl _⟩⟩,fun e=>Bl.le_trans (hf e) h⟩
 ·rw[if_neg (fun e=>h ((wy _ _).1 e))]
  exact⟨⟨h,fun e=>⟨rfl,Bl.le_trans (hf e) h⟩⟩,fun _=>Bl.lt_irrefl _⟩
theorem Good.apL{l:List Rc}(h:Good l)(x:Int):(gu l x).Tj:=by
 induction hn:l.length generalizing l with
 |zero=>rw[length_eq_zero_iff.1 hn,Ti];intro e;cases e
 |succ n ih=>
  rcases eq_nil_or_concat l with rfl|⟨l1,r,rfl⟩
  ·simp at hn
  ·simp only[concat_eq_append]at h hn ⊢
   have h1:=ih h.pre (by simpa using hn)
   rw[mK]
   split
   ·rename_i e
    exact(Mh h1 (by rw[←e];exact h.last)).2
   ·exact h1
theorem Good.le1{l:List Rc}{r:Rc}(h:Good (l++[r]))(x:Int):Sp.Le (gu l x) (gu (l++[r]) x):=by
 rw[mK]
 split
 ·rename_i e
  exact(Mh (h.pre.apL x) (by rw[←e];exact h.last)).1
 ·exact .refl _
theorem Good.le:∀(k l:List Rc),Good (l++k)→∀x,Sp.Le (gu l x) (gu (l++k) x)
 |[],l,_,x=>by rw[append_nil];exact .refl _
 |r::k,l,h,x=>by
  have e:l++r::k=(l++[r])++k:=by simp
  rw[e]at h ⊢
  exact(h.pre.le1 x).trans (Good.le k _ h x)
theorem Good.leP{l m:List Rc}(h:Good m)(hp:l <+:m)(x:Int):Sp.Le (gu l x) (gu m x):=by obtain⟨k,rfl⟩:=hp;exact Good.le k l h x
def iD(t:Sp)(k:Int)(b:Bl):Prop:=¬ t.p.lt b∧(k=4∨t.so=true∧¬ t.at_.lt b)
theorem iD.mono{t u:Sp}{k:Int}{b:Bl}(h:iD t k b)(hl:Sp.Le t u):iD u k b:=
 ⟨Bl.le_trans h.1 hl.p,h.2.imp id fun⟨h1,h2⟩=>⟨(hl.so h1).1,Bl.le_trans h2 (hl.so h1).2⟩⟩
theorem iD.kind{t:Sp}{k k':Int}{b:Bl}(h:iD t k b)(hk:k≠4):iD t k' b:=⟨h.1,.inr (h.2.resolve_left hk)⟩
def Ms.sF(m:Ms):Prop:=m.kind=1∨m.kind=2∨m.kind=4∨m.kind=6
def kP(t:Sp)(m:Ms):Prop:=m.sF→iD t m.kind m.ax
theorem kP.mono{t u:Sp}{m:Ms}(h:kP t m)(hl:Sp.Le t u):kP u m:=fun e=>(h e).mono hl
def fA(k:Int):Nat:=if k=6 then 8 else if k=4 then 16 else if k=2∨k=7 then 1 else 100
def rC(me:Nat)(m:Ms):Nat:=if m.to=(me:Int)then fA m.kind else 1
def il(me:Nat)(l:List Ms):Nat:=(l.map (rC me)).sum
theorem yN(k:Int):1≤fA k:=by unfold fA;split<;>(try split)<;>(try split)<;>omega
theorem Tn(k:Int):fA k≤100:=by unfold fA;split<;>(try split)<;>(try split)<;>omega
theorem Tp(me:Nat)(m:Ms):1≤rC me m:=by unfold rC;split;exact yN _;exact Nat.le_refl _
theorem XY(me:Nat)(m:Ms):rC me m≤fA m.kind:=by unfold rC;split;exact Nat.le_refl _;exact yN _
theorem Mj(me:Nat):il me []=0:=rfl
theorem Cw(me:Nat)(a b:List Ms):il me (a++b)=il me a+il me b:=by unfold il;rw[map_append,sum_append]
theorem XZ(me:Nat)(m:Ms):il me [m]=rC me m:=by simp[il]
theorem Bn(me:Nat)(m:Ms)(l:List Ms):il me (m::l)=rC me m+il me l:=by simp[il]
theorem X0(me:Nat)(l:List Ms):l.length≤il me l:=by
 induction l with
 |nil=>simp
 |cons m l ih=>rw[Bn,length_cons];have:=Tp me m;omega
theorem Mk{me:Nat} :∀{l:List Ms},(∀m∈l,m.to≠(me:Int))→il me l=l.length
 |[],_=>rfl
 |m::l,h=>by
  rw[Bn,Mk (l:=l) fun x hx=>h x (by simp[hx]),length_cons]
  unfold rC
  rw[if_neg (h m (by simp))]
  omega
theorem Ml(me:Nat)(l:List Ms):((l.filter fun m=>decide (m.to=(me:Int))).map fun m=>fA m.kind).sum≤il me l:=by
 induction l with
 |nil=>simp
 |cons m l ih=>
  rw[Bn,filter_cons]
  unfold rC
  by_cases e:m.to=(me:Int)
  ·simp only[e,decide_true,if_true,map_cons,sum_cons];omega
  ·simp only[e,decide_false,Bool.false_eq_true,if_false];omega
structure aI(s:Site)(S R:List Rc)(z:Nat):Prop where
 ok:s.Ok
 up:s.down=false
 may:∀r∈R,r.May
 db:s.db=bn R
 good:Good R
 pre:S <+:R
 dn:s.dn=(bn S).length
 st:∀x,s.stat x=gu R x
 held:∀m∈s.held,kP (s.stat m.slot) m
 bV:∀p∈s.rs,p.2.so=true→iD (s.stat p.1) 1 p.2.ax
 lim:il s.me s.held+z≤400000000
 mh:∀p∈s.rs,p.2.vt.length+p.2.pr.length+p.2.bG+il s.me s.held+z≤400000000
 wt:∀x∈s.wt,0≤x
 lv:∀p∈s.lv,0≤p.1∧p.1<4096∧p.2.length≤2048
namespace aI
variable {s t:Site} {S R:List Rc} {z:Nat}
theorem less(h:aI s S R z){y:Nat}(hy:y≤z):aI s S R y:=
 ⟨h.ok,h.up,h.may,h.db,h.good,h.pre,h.dn,h.st,h.held,h.bV,by have:=h.lim;omega,fun p hp=>by have:=h.mh p hp;omega,h.wt,h.lv⟩
theorem fit(h:aI s S R z)(x:Int):(s.stat x).so=true∨(s.stat x).at_=⟨0,0⟩∧(s.stat x).b= []:=by rw[h.st];exact Tm R x
theorem send(h:aI s S R z){m:Ms}(hf:m.Fit){to:Int}(ht:0≤to∧to≤6)(hk:kP (s.stat m.slot) m){c:Nat}(hc:rC s.me {m with bO:=(s.me:Int),to:=to}≤c){y:Nat}(hz:c+y≤z):aI (s.send to m) S R y:=by
 have hw:il s.me (s.held++[{m with bO:=(s.me:Int),to:=to}])≤il s.me s.held+c:=by rw[Cw,XZ];omega
 refine⟨h.ok.send hf ht,h.up,h.may,h.db,h.good,h.pre,h.dn,h.st,fun x hx=>?_,h.bV,?_,fun p hp=>?_,h.wt,h.lv⟩
 ·rcases mem_append.1 hx with hx|hx
  ·exact h.held x hx
  ·rw[mem_singleton]at hx
   subst hx
   exact hk
 ·have:=h.lim
  show il s.me (s.held++_)+y≤_
  omega
 ·have:=h.mh p hp
  show _+il s.me (s.held++_)+y≤_
  omega
theorem others(h:aI s S R z){m:Ms}(hf:m.Fit)(hk:kP (s.stat m.slot) m):∀i,i≤7→∀y,i+y≤z→aI (s.others m i) S R y
 |0,_,y,hy=>h.less (by omega)
 |i+1,hi,y,hy=>by
  unfold Site.others
  split
  ·exact others h hf hk i (by omega) y (by omega)
  ·have h1:=others h hf hk i (by omega) (1+y) (by omega)
   rename_i e
   refine h1.send hf (by omega) ?_ (c:=1) ?_ (by omega)
   ·have:(s.others m i).stat m.slot=s.stat m.slot:=by rw[Site.bH];rfl
    rw[this];exact hk
   ·unfold rC
    rw[(Site.fJ m i).1,if_neg (by show ¬ (i:Int)=(s.me:Int);omega)]
    exact Nat.le_refl _
theorem qz(h:aI s S R z){m:Ms}(hf:m.Fit)(hk:kP (s.stat m.slot) m){y:Nat}(hy:6+y≤z):aI (s.others m s.n) S R y:=by
 have h7:=h.ok.n7
 have hme:=h.ok.me
 have h1:=h.others hf hk s.n h7
 have hl:(s.tell m s.n).length≤6:=by
  unfold Site.tell
  rw[length_map]
  have:((List.range s.n).filter fun j=>decide (j≠s.me)).length+1≤s.n:=by
   have e1:=length_filter_lt_length_iff_exists (p:=fun j=>decide (j≠s.me)) (l:=List.range s.n)
   have e2:=e1.2 ⟨s.me,mem_range.2 hme,by simp⟩
   rw[length_range]at e2
   omega
  omega
 have hw:il s.me (s.tell m s.n)=(s.tell m s.n).length:=Mk fun x hx=>by
  unfold Site.tell at hx
  obtain⟨j,hj,rfl⟩:=mem_map.1 hx
  have:=(mem_filter.1 hj).2
  simp at this ⊢
  omega
 have hh:∀m'∈s.tell m s.n,m'.slot=m.slot∧m'.kind=m.kind∧m'.ax=m.ax:=fun m' hm'=>by
  unfold Site.tell at hm'
  obtain⟨j,hj,rfl⟩:=mem_map.1 hm'
  exact⟨rfl,rfl,rfl⟩
 have hok:=Site.Ok.others h.ok hf s.n h7
 rw[Site.bH]at hok ⊢
 have hW:il s.me (s.held++s.tell m s.n)≤il s.me s.held+6:=by rw[Cw];omega
 refine⟨hok,h.up,h.may,h.db,h.good,h.pre,h.dn,h.st,fun x hx=>?_,h.bV,?_,fun p hp=>?_,h.wt,h.lv⟩
 ·rcases mem_append.1 hx with hx|hx
  ·exact h.held x hx
  ·obtain⟨e1,e2,e3⟩:=hh x hx
   intro ht
   have ht':m.sF:=by unfold Ms.sF at ht ⊢;rwa [e2]at ht
   show iD (s.stat x.slot) _ _
   rw[e1,e2,e3]
   exact hk ht'
 ·have:=h.lim
  show il s.me (s.held++_)+y≤_
  omega
 ·have:=h.mh p hp
  show _+il s.me (s.held++_)+y≤_
  omega
theorem kQ(h:aI s S R z){k:Nat}(hk:k≤4096):aI {s with nx:=k} S R z:=
 ⟨h.ok.kQ hk,h.up,h.may,h.db,h.good,h.pre,h.dn,h.st,h.held,h.bV,h.lim,h.mh,h.wt,h.lv⟩
theorem uQ(h:aI s S R z){l:List Int}(hl:∀x∈l,0≤x):aI {s with wt:=l} S R z:=
 ⟨⟨h.ok.me,h.ok.n3,h.ok.n7,h.ok.pat,h.ok.st,h.ok.rs,h.ok.top,h.ok.nx,h.ok.held⟩,h.up,h.may,h.db,h.good,h.pre,h.dn,h.st,h.held,h.bV,h.lim,h.mh,hl,h.lv⟩
theorem qM(h:aI s S R z){x:Int}(hx:0≤x∧x<4096){r:Rn}(hr:r.b.length≤2048∧r.ax.may 7=true∧∀q∈r.pr,q.b.length≤2048)(hk:r.so=true→iD (s.stat x) 1 r.ax){y:Nat}(hy:y≤z)(hl:r.vt.length+r.pr.length+r.bG+il s.me s.held+y≤400000000):aI {s with rs:=aG x r s.rs} S R y:=by
 have h':=h.less hy
 refine⟨h'.ok.qM hx hr,h'.up,h'.may,h'.db,h'.good,h'.pre,h'.dn,h'.st,h'.held,fun p hp=>?_,h'.lim,fun p hp=>?_,h'.wt,h'.lv⟩
 ·rcases eY.1 hp with rfl|⟨hp,-⟩
  ·exact hk
  ·exact h'.bV p hp
 ·rcases eY.1 hp with rfl|⟨hp,-⟩
  ·exact hl
  ·exact h'.mh p hp
theorem Cx(h:aI s S R z)(x:Int):aI {s with rs:=dD x s.rs} S R z:=
 ⟨h.ok.Cx x,h.up,h.may,h.db,h.good,h.pre,h.dn,h.st,h.held,fun p hp=>h.bV p (gU.1 hp).1,h.lim,fun p hp=>h.mh p (gU.1 hp).1,h.wt,h.lv⟩
theorem bE(h:aI s S R z)(x:Int)(v:List UInt8):aI (s.bE x v) S R z:=by
 have hok:=h.ok.bE x v
 unfold Site.bE at hok ⊢
 split
 ·rename_i e
  rw[if_pos e]at hok
  refine⟨hok,h.up,h.may,h.db,h.good,h.pre,h.dn,h.st,h.held,fun p hp=>h.bV p (gU.1 hp).1,h.lim,fun p hp=>h.mh p (gU.1 hp).1,h.wt,fun p hp=>?_⟩
  unfold Site.sG at e
  simp only[Bool.and_eq_true,decide_eq_true_eq]at e
  dsimp only at hp
  split at hp
  ·exact h.lv p hp
  ·rcases eY.1 hp with rfl|⟨hp,-⟩
   ·exact⟨e.1.1.1,e.1.1.2,e.1.2⟩
   ·exact h.lv p hp
 ·exact h
theorem note(h:aI s S R z){y:Sp}{r:Rc}(hr:r.May)(hy:y=mJ (s.stat r.slot) r)(hok:t.Ok)(hb:¬ r.ax.lt (s.stat r.slot).p)(hk:r.kind=1→1≤r.round)(hn:s.note y r=some t):aI t S (R++[r]) z:=by
 have hg:Good (R++[r]):=h.good.snoc (by rw[←h.st];exact hb) hk
 unfold Site.note at hn
 split at hn
 ·injection hn with hn
  have hst:∀x,t.stat x=gu (R++[r]) x:=fun x=>by
   rw[mK,←hn]
   show((aC x (aG r.slot y s.st)).getD Sp.zero)=_
   rw[kC]
   by_cases e:r.slot=x
   ·rw[if_pos e,if_pos e,←h.st,←e,hy];rfl
   ·rw[if_neg e,if_neg e,←h.st];rfl
  have hle:∀x,Sp.Le (s.stat x) (t.stat x):=fun x=>by rw[h.st,hst];exact hg.le1 x
  have e1:t.held=s.held∧t.rs=s.rs∧t.me=s.me∧t.wt=s.wt∧t.down=s.down∧t.dn=s.dn∧t.db=s.db++bn [r]∧t.lv=s.lv:=by rw[←hn];exact⟨rfl,rfl,rfl,rfl,rfl,rfl,rfl,rfl⟩
  obtain⟨e1,e2,e3,e4,e5,e6,e7,e8⟩:=e1
  refine⟨hok,by rw[e5];exact h.up,fun x hx=>?_,by rw[e7,h.db,jJ],hg,h.pre.trans (prefix_append _ _),by rw[e6];exact h.dn,hst,fun m hm=>?_,fun p hp e=>?_,by rw[e1,e3];exact h.lim,fun p hp=>?_,by rw[e4];exact h.wt,by rw[e8];exact h.lv⟩
  ·rcases mem_append.1 hx with hx|hx
   ·exact h.may x hx
   ·rw[mem_singleton]at hx;subst hx;exact hr
  ·rw[e1]at hm
   exact(h.held m hm).mono (hle _)
  ·rw[e2]at hp
   exact(h.bV p hp e).mono (hle _)
  ·rw[e2]at hp
   rw[e1,e3]
   exact h.mh p hp
 ·cases hn
theorem accept(h:aI s S R z){x:Int}(hx:0≤x∧x<4096){b:Bl}(hb:b.may 7=true){v:List UInt8}(hv:v.length≤2048)(hn:s.accept x b v=some t):(∃r,aI t S (R++[r]) z)∧iD (t.stat x) 1 b:=by
 have hok:=h.ok.accept hx hb hv hn
 have hbb:=Bl.jb.1 hb
 unfold Site.accept at hn
 split at hn
 ·cases hn
 ·rename_i e
  have hr:(⟨2,x,b.r,b.s,v⟩:Rc).May:=⟨.inr rfl,by show 0≤x∧x≤4095;omega,hbb.1,hbb.2,hv⟩
  have hy:(⟨b,true,b,v⟩:Sp)=mJ (s.stat x) ⟨2,x,b.r,b.s,v⟩:=by
   unfold mJ
   rw[if_neg (by simp),if_neg (by exact e)]
   rfl
  have h1:=h.note hr hy hok (fun e'=>e ((wy _ _).2 e')) (fun e'=>absurd e' (by simp)) hn
  refine⟨⟨_,h1⟩,?_⟩
  have hst:t.stat x=⟨b,true,b,v⟩:=by rw[h1.st,mK,if_pos rfl,←h.st,←hy]
  rw[hst]
  exact⟨Bl.lt_irrefl _,.inr ⟨rfl,Bl.lt_irrefl _⟩⟩
theorem promise(h:aI s S R z){x:Int}(hx:0≤x∧x<4096){b:Bl}(hb:b.may 7=true)(hn:s.promise x b=some t):(∃r,aI t S (R++[r]) z)∧iD (t.stat x) 4 b:=by
 have hok:=h.ok.promise hx hb hn
 have hbb:=Bl.jb.1 hb
 unfold Site.promise at hn
 split at hn
 ·cases hn
 ·rename_i e
  have hr:(⟨1,x,b.r,b.s,[]⟩:Rc).May:=⟨.inl ⟨rfl,rfl⟩,by show 0≤x∧x≤4095;omega,hbb.1,hbb.2,by simp⟩
  have hy:({s.stat x with p:=b} :Sp)=mJ (s.stat x) ⟨1,x,b.r,b.s,[]⟩:=by
   unfold mJ
   rw[if_pos rfl]
   rfl
  have h1:=h.note hr hy hok (fun e'=>e (.inr ((wy _ _).2 e'))) (fun _=>by show 1≤b.r;omega) hn
  refine⟨⟨_,h1⟩,?_⟩
  have hst:t.stat x= {s.stat x with p:=b}:=by rw[h1.st,mK,if_pos rfl,←h.st,←hy]
  rw[hst]
  exact⟨Bl.lt_irrefl _,.inl rfl⟩
end aI
def Grow(_s t:Site)(S R:List Rc)(z:Nat):Prop:=∃R',R <+:R'∧aI t S R' z
theorem aI.grow{s t:Site}{S R:List Rc}{z:Nat}(h:aI t S R z):Grow s t S R z:=⟨R,prefix_refl _,h⟩
theorem Grow.bind{s t u:Site}{S R:List Rc}{z y:Nat}(h:Grow s t S R z)(k:∀R',R <+:R'→aI t S R' z→Grow t u S R' y):Grow s u S R y:=by
 obtain⟨R',h1,h2⟩:=h
 obtain⟨R2,h3,h4⟩:=k R' h1 h2
 exact⟨R2,h1.trans h3,h4⟩
