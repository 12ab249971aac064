/- For WorldCalm. -/
import Derived.Test.YtijhlbeipglieaaGreatPkSu
set_option linter.all false
namespace aL
open Go Go.Proofs.YtijhlbeipglieaaGreat List
theorem Bl.lt_irrefl(a:Bl):¬ a.lt a:=by unfold Bl.lt;omega
theorem Bl.le_trans{a b c:Bl}(h:¬ b.lt a)(k:¬ c.lt b):¬ c.lt a:=by unfold Bl.lt at *;omega
theorem Bl.le_of_lt{a b:Bl}(h:a.lt b):¬ b.lt a:=by unfold Bl.lt at *;omega
def Rc.aC(r:Rc):Bl:=⟨r.round,r.site⟩
def gQ(t:Sp)(r:Rc):Sp:=if r.kind=1 then {t with p:=r.aC}else if dr r.aC t.p<0 then t else⟨r.aC,true,r.aC,r.val⟩
def dU(l:List Rc)(x:Int):Sp:=(l.filter fun r=>decide (r.slot=x)).foldl gQ Sp.zero
theorem Qe(x:Int):dU [] x=Sp.zero:=rfl
theorem gI(l:List Rc)(r:Rc)(x:Int):dU (l++[r]) x=if r.slot=x then gQ (dU l x) r else dU l x:=by
 unfold dU
 rw[filter_append,foldl_append]
 by_cases h:r.slot=x<;>simp[h]
def Good(l:List Rc):Prop:=∀l1 r l2,l=l1++r::l2→¬ r.aC.lt (dU l1 r.slot).p∧(r.kind=1→1≤r.round)
theorem Good.nil:Good []:=by intro l1 r l2 h;simp at h
theorem Good.pre{l k:List Rc}(h:Good (l++k)):Good l:=fun l1 r l2 e=>h l1 r (l2++k) (by rw[e];simp)
theorem Good.WA{l m:List Rc}(h:Good m)(hp:l <+:m):Good l:=by obtain⟨k,rfl⟩:=hp;exact h.pre
theorem Good.snoc{l:List Rc}{r:Rc}(h:Good l)(hr:¬ r.aC.lt (dU l r.slot).p)(hk:r.kind=1→1≤r.round):Good (l++[r]):=by
 intro l1 r' l2 e
 rcases eq_nil_or_concat l2 with rfl|⟨l3,z,rfl⟩
 ·obtain⟨rfl,e2⟩:=append_inj' e rfl
  injection e2 with e2
  subst e2
  exact⟨hr,hk⟩
 ·have e':l++[r]=(l1++r'::l3)++[z]:=by rw[e];simp
  obtain⟨rfl,-⟩:=append_inj' e' rfl
  exact h l1 r' l3 rfl
theorem Good.last{l:List Rc}{r:Rc}(h:Good (l++[r])):¬ r.aC.lt (dU l r.slot).p:=(h l r [] rfl).1
def Sp.Kf(t:Sp):Prop:=t.so=true→¬ t.p.lt t.at_
def Sp.Fit(t:Sp):Prop:=t.so=true∨t.at_=⟨0,0⟩∧t.b= []
theorem Qf{t:Sp}(h:t.Fit)(r:Rc):(gQ t r).Fit:=by
 unfold gQ
 split
 ·exact h
 split
 ·exact h
 ·exact .inl rfl
theorem B6:∀(l:List Rc){t:Sp},t.Fit→(l.foldl gQ t).Fit
 |[],_,h=>h
 |r::l,_,h=>B6 l (Qf h r)
theorem EC(l:List Rc)(x:Int):(dU l x).Fit:=B6 _ (.inr ⟨rfl,rfl⟩)
structure Sp.Le(x y:Sp):Prop where
 p:¬ y.p.lt x.p
 so:x.so=true→y.so=true∧¬ y.at_.lt x.at_
theorem Sp.Le.refl(x:Sp):Sp.Le x x:=⟨Bl.lt_irrefl _,fun h=>⟨h,Bl.lt_irrefl _⟩⟩
theorem Sp.Le.trans{x y z:Sp}(h:Sp.Le x y)(k:Sp.Le y z):Sp.Le x z:=
 ⟨Bl.le_trans h.p k.p,fun e=>⟨(k.so (h.so e).1).1,Bl.le_trans (h.so e).2 (k.so (h.so e).1).2⟩⟩
theorem II{t:Sp}{r:Rc}(hf:t.Kf)(h:¬ r.aC.lt t.p):Sp.Le t (gQ t r)∧(gQ t r).Kf:=by
 unfold gQ
 split
 ·exact⟨⟨h,fun e=>⟨e,Bl.lt_irrefl _⟩⟩,fun e=>Bl.le_trans (hf e) h⟩
 ·rw[if_neg (fun e=>h ((gp _ _).1 e))]
  exact⟨⟨h,fun e=>⟨rfl,Bl.le_trans (hf e) h⟩⟩,fun _=>Bl.lt_irrefl _⟩
theorem Good.PL{l:List Rc}(h:Good l)(x:Int):(dU l x).Kf:=by
 induction hn:l.length generalizing l with
 |zero=>rw[length_eq_zero_iff.1 hn,Qe];intro e;cases e
 |succ n ih=>
  rcases eq_nil_or_concat l with rfl|⟨l1,r,rfl⟩
  ·simp at hn
  ·simp only[concat_eq_append]at h hn ⊢
   have h1:=ih h.pre (by simpa using hn)
   rw[gI]
   split
   ·rename_i e
    exact(II h1 (by rw[←e];exact h.last)).2
   ·exact h1
theorem Good.rD{l:List Rc}{r:Rc}(h:Good (l++[r]))(x:Int):Sp.Le (dU l x) (dU (l++[r]) x):=by
 rw[gI]
 split
 ·rename_i e
  exact(II (h.pre.PL x) (by rw[←e];exact h.last)).1
 ·exact .refl _
theorem Good.le:∀(k l:List Rc),Good (l++k)→∀x,Sp.Le (dU l x) (dU (l++k) x)
 |[],l,_,x=>by rw[append_nil];exact .refl _
 |r::k,l,h,x=>by
  have e:l++r::k=(l++[r])++k:=by simp
  rw[e]at h ⊢
  exact(h.pre.rD x).trans (Good.le k _ h x)
theorem Good.lp{l m:List Rc}(h:Good m)(hp:l <+:m)(x:Int):Sp.Le (dU l x) (dU m x):=by obtain⟨k,rfl⟩:=hp;exact Good.le k l h x
def eV(t:Sp)(k:Int)(b:Bl):Prop:=¬ t.p.lt b∧(k=4∨t.so=true∧¬ t.at_.lt b)
theorem eV.mono{t u:Sp}{k:Int}{b:Bl}(h:eV t k b)(hl:Sp.Le t u):eV u k b:=
 ⟨Bl.le_trans h.1 hl.p,h.2.imp id fun⟨h1,h2⟩=>⟨(hl.so h1).1,Bl.le_trans h2 (hl.so h1).2⟩⟩
theorem eV.kind{t:Sp}{k k':Int}{b:Bl}(h:eV t k b)(hk:k≠4):eV t k' b:=⟨h.1,.inr (h.2.resolve_left hk)⟩
def Ms.la(m:Ms):Prop:=m.kind=1∨m.kind=2∨m.kind=4∨m.kind=6
def lh(t:Sp)(m:Ms):Prop:=m.la→eV t m.kind m.aC
theorem lh.mono{t u:Sp}{m:Ms}(h:lh t m)(hl:Sp.Le t u):lh u m:=fun e=>(h e).mono hl
def cT(k:Int):Nat:=if k=6 then 8 else if k=4 then 16 else if k=2∨k=7 then 1 else 100
def pE(me:Nat)(m:Ms):Nat:=if m.to=(me:Int)then cT m.kind else 1
def gD(me:Nat)(l:List Ms):Nat:=(l.map (pE me)).sum
theorem rH(k:Int):1≤cT k:=by unfold cT;split<;>(try split)<;>(try split)<;>omega
theorem Qg(k:Int):cT k≤100:=by unfold cT;split<;>(try split)<;>(try split)<;>omega
theorem Qh(me:Nat)(m:Ms):1≤pE me m:=by unfold pE;split;exact rH _;exact Nat.le_refl _
theorem TQ(me:Nat)(m:Ms):pE me m≤cT m.kind:=by unfold pE;split;exact Nat.le_refl _;exact rH _
theorem IJ(me:Nat):gD me []=0:=rfl
theorem zF(me:Nat)(a b:List Ms):gD me (a++b)=gD me a+gD me b:=by unfold gD;rw[map_append,sum_append]
theorem TS(me:Nat)(m:Ms):gD me [m]=pE me m:=by simp[gD]
theorem yx(me:Nat)(m:Ms)(l:List Ms):gD me (m::l)=pE me m+gD me l:=by simp[gD]
theorem TT(me:Nat)(l:List Ms):l.length≤gD me l:=by
 induction l with
 |nil=>simp
 |cons m l ih=>rw[yx,length_cons];have:=Qh me m;omega
theorem IK{me:Nat} :∀{l:List Ms},(∀m∈l,m.to≠(me:Int))→gD me l=l.length
 |[],_=>rfl
 |m::l,h=>by
  rw[yx,IK (l:=l) fun x hx=>h x (by simp[hx]),length_cons]
  unfold pE
  rw[if_neg (h m (by simp))]
  omega
theorem IL(me:Nat)(l:List Ms):((l.filter fun m=>decide (m.to=(me:Int))).map fun m=>cT m.kind).sum≤gD me l:=by
 induction l with
 |nil=>simp
 |cons m l ih=>
  rw[yx,filter_cons]
  unfold pE
  by_cases e:m.to=(me:Int)
  ·simp only[e,decide_true,if_true,map_cons,sum_cons];omega
  ·simp only[e,decide_false,Bool.false_eq_true,if_false];omega
structure bj(s:Site)(S R:List Rc)(z:Nat):Prop where
 ok:s.Ok
 up:s.down=false
 may:∀r∈R,r.bL
 db:s.db=bX R
 gR:Good R
 pre:S <+:R
 dn:s.dn=(bX S).length
 st:∀x,s.stat x=dU R x
 held:∀m∈s.held,lh (s.stat m.slot) m
 cI:∀p∈s.rs,p.2.so=true→eV (s.stat p.1) 1 p.2.aC
 lim:gD s.me s.held+z≤400000000
 kn:∀p∈s.rs,p.2.vt.length+p.2.pr.length+p.2.cV+gD s.me s.held+z≤400000000
 wt:∀x∈s.wt,0≤x
 lv:∀p∈s.lv,0≤p.1∧p.1<4096∧p.2.length≤2048
namespace bj
variable {s t:Site} {S R:List Rc} {z:Nat}
theorem less(h:bj s S R z){y:Nat}(hy:y≤z):bj s S R y:=
 ⟨h.ok,h.up,h.may,h.db,h.gR,h.pre,h.dn,h.st,h.held,h.cI,by have:=h.lim;omega,fun p hp=>by have:=h.kn p hp;omega,h.wt,h.lv⟩
theorem fit(h:bj s S R z)(x:Int):(s.stat x).so=true∨(s.stat x).at_=⟨0,0⟩∧(s.stat x).b= []:=by rw[h.st];exact EC R x
theorem send(h:bj s S R z){m:Ms}(hf:m.Fit){to:Int}(ht:0≤to∧to≤6)(hk:lh (s.stat m.slot) m){c:Nat}(hc:pE s.me {m with aR:=(s.me:Int),to:=to}≤c){y:Nat}(hz:c+y≤z):bj (s.send to m) S R y:=by
 have hw:gD s.me (s.held++[{m with aR:=(s.me:Int),to:=to}])≤gD s.me s.held+c:=by rw[zF,TS];omega
 refine⟨h.ok.send hf ht,h.up,h.may,h.db,h.gR,h.pre,h.dn,h.st,fun x hx=>?_,h.cI,?_,fun p hp=>?_,h.wt,h.lv⟩
 ·rcases mem_append.1 hx with hx|hx
  ·exact h.held x hx
  ·rw[mem_singleton]at hx
   subst hx
   exact hk
 ·have:=h.lim
  show gD s.me (s.held++_)+y≤_
  omega
 ·have:=h.kn p hp
  show _+gD s.me (s.held++_)+y≤_
  omega
theorem others(h:bj s S R z){m:Ms}(hf:m.Fit)(hk:lh (s.stat m.slot) m):∀i,i≤7→∀y,i+y≤z→bj (s.others m i) S R y
 |0,_,y,hy=>h.less (by omega)
 |i+1,hi,y,hy=>by
  unfold Site.others
  split
  ·exact others h hf hk i (by omega) y (by omega)
  ·have h1:=others h hf hk i (by omega) (1+y) (by omega)
   rename_i e
   refine h1.send hf (by omega) ?_ (c:=1) ?_ (by omega)
   ·have:(s.others m i).stat m.slot=s.stat m.slot:=by rw[Site.bH];rfl
    rw[this];exact hk
   ·unfold pE
    rw[(Site.ib m i).1,if_neg (by show ¬ (i:Int)=(s.me:Int);omega)]
    exact Nat.le_refl _
theorem oD(h:bj s S R z){m:Ms}(hf:m.Fit)(hk:lh (s.stat m.slot) m){y:Nat}(hy:6+y≤z):bj (s.others m s.n) S R y:=by
 have h7:=h.ok.n7
 have ca:=h.ok.me
 have h1:=h.others hf hk s.n h7
 have hl:(s.tell m s.n).length≤6:=by
  unfold Site.tell
  rw[length_map]
  have:((List.range s.n).filter fun j=>decide (j≠s.me)).length+1≤s.n:=by
   have e1:=length_filter_lt_length_iff_exists (p:=fun j=>decide (j≠s.me)) (l:=List.range s.n)
   have e2:=e1.2 ⟨s.me,mem_range.2 ca,by simp⟩
   rw[length_range]at e2
   omega
  omega
 have hw:gD s.me (s.tell m s.n)=(s.tell m s.n).length:=IK fun x hx=>by
  unfold Site.tell at hx
  obtain⟨j,hj,rfl⟩:=mem_map.1 hx
  have:=(mem_filter.1 hj).2
  simp at this ⊢
  omega
 have hh:∀m'∈s.tell m s.n,m'.slot=m.slot∧m'.kind=m.kind∧m'.aC=m.aC:=fun m' bw=>by
  unfold Site.tell at bw
  obtain⟨j,hj,rfl⟩:=mem_map.1 bw
  exact⟨rfl,rfl,rfl⟩
 have ef:=Site.Ok.others h.ok hf s.n h7
 rw[Site.bH]at ef ⊢
 have hW:gD s.me (s.held++s.tell m s.n)≤gD s.me s.held+6:=by rw[zF];omega
 refine⟨ef,h.up,h.may,h.db,h.gR,h.pre,h.dn,h.st,fun x hx=>?_,h.cI,?_,fun p hp=>?_,h.wt,h.lv⟩
 ·rcases mem_append.1 hx with hx|hx
  ·exact h.held x hx
  ·obtain⟨e1,e2,e3⟩:=hh x hx
   intro ht
   have fy:m.la:=by unfold Ms.la at ht ⊢;rwa [e2]at ht
   show eV (s.stat x.slot) _ _
   rw[e1,e2,e3]
   exact hk fy
 ·have:=h.lim
  show gD s.me (s.held++_)+y≤_
  omega
 ·have:=h.kn p hp
  show _+gD s.me (s.held++_)+y≤_
  omega
theorem jI(h:bj s S R z){k:Nat}(hk:k≤4096):bj {s with nx:=k} S R z:=
 ⟨h.ok.jI hk,h.up,h.may,h.db,h.gR,h.pre,h.dn,h.st,h.held,h.cI,h.lim,h.kn,h.wt,h.lv⟩
theorem zG(h:bj s S R z){l:List Int}(hl:∀x∈l,0≤x):bj {s with wt:=l} S R z:=
 ⟨⟨h.ok.me,h.ok.n3,h.ok.n7,h.ok.pat,h.ok.st,h.ok.rs,h.ok.top,h.ok.nx,h.ok.held⟩,h.up,h.may,h.db,h.gR,h.pre,h.dn,h.st,h.held,h.cI,h.lim,h.kn,hl,h.lv⟩
theorem fH(h:bj s S R z){x:Int}(hx:0≤x∧x<4096){r:Rn}(hr:r.b.length≤2048∧r.aC.may 7=true∧∀q∈r.pr,q.b.length≤2048)(hk:r.so=true→eV (s.stat x) 1 r.aC){y:Nat}(hy:y≤z)(hl:r.vt.length+r.pr.length+r.cV+gD s.me s.held+y≤400000000):bj {s with rs:=aT x r s.rs} S R y:=by
 have h':=h.less hy
 refine⟨h'.ok.fH hx hr,h'.up,h'.may,h'.db,h'.gR,h'.pre,h'.dn,h'.st,h'.held,fun p hp=>?_,h'.lim,fun p hp=>?_,h'.wt,h'.lv⟩
 ·rcases ec.1 hp with rfl|⟨hp,-⟩
  ·exact hk
  ·exact h'.cI p hp
 ·rcases ec.1 hp with rfl|⟨hp,-⟩
  ·exact hl
  ·exact h'.kn p hp
theorem nu(h:bj s S R z)(x:Int):bj {s with rs:=bY x s.rs} S R z:=
 ⟨h.ok.nu x,h.up,h.may,h.db,h.gR,h.pre,h.dn,h.st,h.held,fun p hp=>h.cI p (fK.1 hp).1,h.lim,fun p hp=>h.kn p (fK.1 hp).1,h.wt,h.lv⟩
theorem aX(h:bj s S R z)(x:Int)(v:List UInt8):bj (s.aX x v) S R z:=by
 have ef:=h.ok.aX x v
 unfold Site.aX at ef ⊢
 split
 ·rename_i e
  rw[if_pos e]at ef
  refine⟨ef,h.up,h.may,h.db,h.gR,h.pre,h.dn,h.st,h.held,fun p hp=>h.cI p (fK.1 hp).1,h.lim,fun p hp=>h.kn p (fK.1 hp).1,h.wt,fun p hp=>?_⟩
  unfold Site.mw at e
  simp only[Bool.and_eq_true,decide_eq_true_eq]at e
  dsimp only at hp
  split at hp
  ·exact h.lv p hp
  ·rcases ec.1 hp with rfl|⟨hp,-⟩
   ·exact⟨e.1.1.1,e.1.1.2,e.1.2⟩
   ·exact h.lv p hp
 ·exact h
theorem note(h:bj s S R z){y:Sp}{r:Rc}(hr:r.bL)(hy:y=gQ (s.stat r.slot) r)(ef:t.Ok)(hb:¬ r.aC.lt (s.stat r.slot).p)(hk:r.kind=1→1≤r.round)(hn:s.note y r=some t):bj t S (R++[r]) z:=by
 have hg:Good (R++[r]):=h.gR.snoc (by rw[←h.st];exact hb) hk
 unfold Site.note at hn
 split at hn
 ·injection hn with hn
  have hst:∀x,t.stat x=dU (R++[r]) x:=fun x=>by
   rw[gI,←hn]
   show((aD x (aT r.slot y s.st)).getD Sp.zero)=_
   rw[cO]
   by_cases e:r.slot=x
   ·rw[if_pos e,if_pos e,←h.st,←e,hy];rfl
   ·rw[if_neg e,if_neg e,←h.st];rfl
  have hle:∀x,Sp.Le (s.stat x) (t.stat x):=fun x=>by rw[h.st,hst];exact hg.rD x
  have e1:t.held=s.held∧t.rs=s.rs∧t.me=s.me∧t.wt=s.wt∧t.down=s.down∧t.dn=s.dn∧t.db=s.db++bX [r]∧t.lv=s.lv:=by rw[←hn];exact⟨rfl,rfl,rfl,rfl,rfl,rfl,rfl,rfl⟩
  obtain⟨e1,e2,e3,e4,e5,e6,e7,e8⟩:=e1
  refine⟨ef,by rw[e5];exact h.up,fun x hx=>?_,by rw[e7,h.db,jy],hg,h.pre.trans (prefix_append _ _),by rw[e6];exact h.dn,hst,fun m hm=>?_,fun p hp e=>?_,by rw[e1,e3];exact h.lim,fun p hp=>?_,by rw[e4];exact h.wt,by rw[e8];exact h.lv⟩
  ·rcases mem_append.1 hx with hx|hx
   ·exact h.may x hx
   ·rw[mem_singleton]at hx;subst hx;exact hr
  ·rw[e1]at hm
   exact(h.held m hm).mono (hle _)
  ·rw[e2]at hp
   exact(h.cI p hp e).mono (hle _)
  ·rw[e2]at hp
   rw[e1,e3]
   exact h.kn p hp
 ·cases hn
theorem accept(h:bj s S R z){x:Int}(hx:0≤x∧x<4096){b:Bl}(hb:b.may 7=true){v:List UInt8}(hv:v.length≤2048)(hn:s.accept x b v=some t):(∃r,bj t S (R++[r]) z)∧eV (t.stat x) 1 b:=by
 have ef:=h.ok.accept hx hb hv hn
 have ik:=Bl.jk.1 hb
 unfold Site.accept at hn
 split at hn
 ·cases hn
 ·rename_i e
  have hr:(⟨2,x,b.r,b.s,v⟩:Rc).bL:=⟨.inr rfl,by show 0≤x∧x≤4095;omega,ik.1,ik.2,hv⟩
  have hy:(⟨b,true,b,v⟩:Sp)=gQ (s.stat x) ⟨2,x,b.r,b.s,v⟩:=by
   unfold gQ
   rw[if_neg (by simp),if_neg (by exact e)]
   rfl
  have h1:=h.note hr hy ef (fun e'=>e ((gp _ _).2 e')) (fun e'=>absurd e' (by simp)) hn
  refine⟨⟨_,h1⟩,?_⟩
  have hst:t.stat x=⟨b,true,b,v⟩:=by rw[h1.st,gI,if_pos rfl,←h.st,←hy]
  rw[hst]
  exact⟨Bl.lt_irrefl _,.inr ⟨rfl,Bl.lt_irrefl _⟩⟩
theorem promise(h:bj s S R z){x:Int}(hx:0≤x∧x<4096){b:Bl}(hb:b.may 7=true)(hn:s.promise x b=some t):(∃r,bj t S (R++[r]) z)∧eV (t.stat x) 4 b:=by
 have ef:=h.ok.promise hx hb hn
 have ik:=Bl.jk.1 hb
 unfold Site.promise at hn
 split at hn
 ·cases hn
 ·rename_i e
  have hr:(⟨1,x,b.r,b.s,[]⟩:Rc).bL:=⟨.inl ⟨rfl,rfl⟩,by show 0≤x∧x≤4095;omega,ik.1,ik.2,by simp⟩
  have hy:({s.stat x with p:=b} :Sp)=gQ (s.stat x) ⟨1,x,b.r,b.s,[]⟩:=by
   unfold gQ
   rw[if_pos rfl]
   rfl
  have h1:=h.note hr hy ef (fun e'=>e (.inr ((gp _ _).2 e'))) (fun _=>by show 1≤b.r;omega) hn
  refine⟨⟨_,h1⟩,?_⟩
  have hst:t.stat x= {s.stat x with p:=b}:=by rw[h1.st,gI,if_pos rfl,←h.st,←hy]
  rw[hst]
  exact⟨Bl.lt_irrefl _,.inl rfl⟩
end bj
def kR(_s t:Site)(S R:List Rc)(z:Nat):Prop:=∃R',R <+:R'∧bj t S R' z
theorem bj.grow{s t:Site}{S R:List Rc}{z:Nat}(h:bj t S R z):kR s t S R z:=⟨R,prefix_refl _,h⟩
