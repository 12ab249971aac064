/- Merged: PlainKeep, PlainUp. -/
import Derived.Test.YtijhlbeipglieaaGreatPkSu
set_option linter.all false
namespace Agio
open Go Go.Proofs.YtijhlbeipglieaaGreat
theorem Bl.lt_irrefl (a:Bl):¬ a.lt a:=by unfold Bl.lt;omega
theorem Bl.le_trans {a b c:Bl} (h:¬ b.lt a) (k:¬ c.lt b):¬ c.lt a:=by unfold Bl.lt at *;omega
theorem Bl.le_of_lt {a b:Bl} (h:a.lt b):¬ b.lt a:=by unfold Bl.lt at *;omega
def Rc.bal (r:Rc):Bl:=⟨r.round,r.site⟩
def upd1 (t:Sp) (r:Rc):Sp:=if r.kind=1 then {t with p:=r.bal} else if cmpB r.bal t.p < 0 then t else ⟨r.bal,true,r.bal,r.val⟩
def stOf (l:List Rc) (x:Int):Sp:=(l.filter fun r=>decide (r.slot=x)).foldl upd1 Sp.zero
theorem stOf_nil (x:Int):stOf [] x=Sp.zero:=rfl
theorem stOf_snoc (l:List Rc) (r:Rc) (x:Int):stOf (l ++ [r]) x=if r.slot=x then upd1 (stOf l x) r else stOf l x:=by
 unfold stOf
 rw [List.filter_append,List.foldl_append]
 by_cases h:r.slot=x <;> simp [h]
def Good (l:List Rc):Prop:=∀l1 r l2,l=l1 ++ r :: l2→¬ r.bal.lt (stOf l1 r.slot).p∧(r.kind=1→1≤r.round)
theorem Good.nil:Good []:=by intro l1 r l2 h;simp at h
theorem Good.pre {l k:List Rc} (h:Good (l ++ k)):Good l:=fun l1 r l2 e=>h l1 r (l2 ++ k) (by rw [e];simp)
theorem Good.pfx {l m:List Rc} (h:Good m) (hp:l <+:m):Good l:=by obtain ⟨k,rfl⟩:=hp;exact h.pre
theorem Good.snoc {l:List Rc} {r:Rc} (h:Good l) (hr:¬ r.bal.lt (stOf l r.slot).p) (hk:r.kind=1→1≤r.round):Good (l ++ [r]):=by
 intro l1 r' l2 e
 rcases List.eq_nil_or_concat l2 with rfl | ⟨l3,z,rfl⟩
 ·obtain ⟨rfl,e2⟩:=List.append_inj' e rfl
  injection e2 with e2
  subst e2
  exact ⟨hr,hk⟩
 ·have e':l ++ [r]=(l1 ++ r' :: l3) ++ [z]:=by rw [e];simp
  obtain ⟨rfl,-⟩:=List.append_inj' e' rfl
  exact h l1 r' l3 rfl
theorem Good.last {l:List Rc} {r:Rc} (h:Good (l ++ [r])):¬ r.bal.lt (stOf l r.slot).p:=(h l r [] rfl).1
def Sp.Fine (t:Sp):Prop:=t.so=true→¬ t.p.lt t.at_
def Sp.Fit (t:Sp):Prop:=t.so=true∨t.at_=⟨0,0⟩∧t.b= []
theorem upd1_fit {t:Sp} (h:t.Fit) (r:Rc):(upd1 t r).Fit:=by
 unfold upd1
 split
 ·exact h
 split
 ·exact h
 ·exact .inl rfl
theorem foldl_fit:∀(l:List Rc) {t:Sp},t.Fit→(l.foldl upd1 t).Fit
 | [],_,h=>h
 | r :: l,_,h=>foldl_fit l (upd1_fit h r)
theorem stOf_fit (l:List Rc) (x:Int):(stOf l x).Fit:=foldl_fit _ (.inr ⟨rfl,rfl⟩)
structure Sp.Le (x y:Sp):Prop where
 p:¬ y.p.lt x.p
 so:x.so=true→y.so=true∧¬ y.at_.lt x.at_
theorem Sp.Le.refl (x:Sp):Sp.Le x x:=⟨Bl.lt_irrefl _,fun h=>⟨h,Bl.lt_irrefl _⟩⟩
theorem Sp.Le.trans {x y z:Sp} (h:Sp.Le x y) (k:Sp.Le y z):Sp.Le x z:=
 ⟨Bl.le_trans h.p k.p,fun e=>⟨(k.so (h.so e).1).1,Bl.le_trans (h.so e).2 (k.so (h.so e).1).2⟩⟩
theorem upd1_le {t:Sp} {r:Rc} (hf:t.Fine) (h:¬ r.bal.lt t.p):Sp.Le t (upd1 t r)∧(upd1 t r).Fine:=by
 unfold upd1
 split
 ·exact ⟨⟨h,fun e=>⟨e,Bl.lt_irrefl _⟩⟩,fun e=>Bl.le_trans (hf e) h⟩
 ·rw [if_neg (fun e=>h ((cmpB_lt _ _).1 e))]
  exact ⟨⟨h,fun e=>⟨rfl,Bl.le_trans (hf e) h⟩⟩,fun _=>Bl.lt_irrefl _⟩
theorem Good.fine {l:List Rc} (h:Good l) (x:Int):(stOf l x).Fine:=by
 induction hn:l.length generalizing l with
 | zero=>rw [List.length_eq_zero_iff.1 hn,stOf_nil];intro e;cases e
 | succ n ih=>
  rcases List.eq_nil_or_concat l with rfl | ⟨l1,r,rfl⟩
  ·simp at hn
  ·simp only [List.concat_eq_append] at h hn ⊢
   have h1:=ih h.pre (by simpa using hn)
   rw [stOf_snoc]
   split
   ·rename_i e
    exact (upd1_le h1 (by rw [←e];exact h.last)).2
   ·exact h1
theorem Good.le1 {l:List Rc} {r:Rc} (h:Good (l ++ [r])) (x:Int):Sp.Le (stOf l x) (stOf (l ++ [r]) x):=by
 rw [stOf_snoc]
 split
 ·rename_i e
  exact (upd1_le (h.pre.fine x) (by rw [←e];exact h.last)).1
 ·exact .refl _
theorem Good.le:∀(k l:List Rc),Good (l ++ k)→∀x,Sp.Le (stOf l x) (stOf (l ++ k) x)
 | [],l,_,x=>by rw [List.append_nil];exact .refl _
 | r :: k,l,h,x=>by
  have e:l ++ r :: k=(l ++ [r]) ++ k:=by simp
  rw [e] at h ⊢
  exact (h.pre.le1 x).trans (Good.le k _ h x)
theorem Good.leP {l m:List Rc} (h:Good m) (hp:l <+:m) (x:Int):Sp.Le (stOf l x) (stOf m x):=by obtain ⟨k,rfl⟩:=hp;exact Good.le k l h x
def keptP (t:Sp) (k:Int) (b:Bl):Prop:=¬ t.p.lt b∧(k=4∨t.so=true∧¬ t.at_.lt b)
theorem keptP.mono {t u:Sp} {k:Int} {b:Bl} (h:keptP t k b) (hl:Sp.Le t u):keptP u k b:=
 ⟨Bl.le_trans h.1 hl.p,h.2.imp id fun ⟨h1,h2⟩=>⟨(hl.so h1).1,Bl.le_trans h2 (hl.so h1).2⟩⟩
theorem keptP.kind {t:Sp} {k k':Int} {b:Bl} (h:keptP t k b) (hk:k≠4):keptP t k' b:=⟨h.1,.inr (h.2.resolve_left hk)⟩
def Ms.Tells (m:Ms):Prop:=m.kind=1∨m.kind=2∨m.kind=4∨m.kind=6
def keptM (t:Sp) (m:Ms):Prop:=m.Tells→keptP t m.kind m.bal
theorem keptM.mono {t u:Sp} {m:Ms} (h:keptM t m) (hl:Sp.Le t u):keptM u m:=fun e=>(h e).mono hl
def costK (k:Int):Nat:=if k=6 then 8 else if k=4 then 16 else if k=2∨k=7 then 1 else 100
def wgt1 (me:Nat) (m:Ms):Nat:=if m.to=(me:Int) then costK m.kind else 1
def wgt (me:Nat) (l:List Ms):Nat:=(l.map (wgt1 me)).sum
theorem costK_pos (k:Int):1≤costK k:=by unfold costK;split <;> (try split) <;> (try split) <;> omega
theorem costK_le (k:Int):costK k≤100:=by unfold costK;split <;> (try split) <;> (try split) <;> omega
theorem wgt1_pos (me:Nat) (m:Ms):1≤wgt1 me m:=by unfold wgt1;split;exact costK_pos _;exact Nat.le_refl _
theorem wgt1_le (me:Nat) (m:Ms):wgt1 me m≤costK m.kind:=by unfold wgt1;split;exact Nat.le_refl _;exact costK_pos _
theorem wgt_nil (me:Nat):wgt me []=0:=rfl
theorem wgt_append (me:Nat) (a b:List Ms):wgt me (a ++ b)=wgt me a + wgt me b:=by unfold wgt;rw [List.map_append,List.sum_append]
theorem wgt_one (me:Nat) (m:Ms):wgt me [m]=wgt1 me m:=by simp [wgt]
theorem wgt_cons (me:Nat) (m:Ms) (l:List Ms):wgt me (m :: l)=wgt1 me m + wgt me l:=by simp [wgt]
theorem wgt_len (me:Nat) (l:List Ms):l.length≤wgt me l:=by
 induction l with
 | nil=>simp
 | cons m l ih=>rw [wgt_cons,List.length_cons];have:=wgt1_pos me m;omega
theorem wgt_off {me:Nat} :∀{l:List Ms},(∀m∈l,m.to≠(me:Int))→wgt me l=l.length
 | [],_=>rfl
 | m :: l,h=>by
  rw [wgt_cons,wgt_off (l:=l) fun x hx=>h x (by simp [hx]),List.length_cons]
  unfold wgt1
  rw [if_neg (h m (by simp))]
  omega
theorem wgt_own (me:Nat) (l:List Ms):((l.filter fun m=>decide (m.to=(me:Int))).map fun m=>costK m.kind).sum≤wgt me l:=by
 induction l with
 | nil=>simp
 | cons m l ih=>
  rw [wgt_cons,List.filter_cons]
  unfold wgt1
  by_cases e:m.to=(me:Int)
  ·simp only [e,decide_true,if_true,List.map_cons,List.sum_cons];omega
  ·simp only [e,decide_false,Bool.false_eq_true,if_false];omega
end Agio
namespace Agio
open Go Go.Proofs.YtijhlbeipglieaaGreat
structure Alive (s:Site) (S R:List Rc) (z:Nat):Prop where
 ok:s.Ok
 up:s.down=false
 may:∀r∈R,r.May
 db:s.db=layB R
 good:Good R
 pre:S <+:R
 dn:s.dn=(layB S).length
 st:∀x,s.stat x=stOf R x
 held:∀m∈s.held,keptM (s.stat m.slot) m
 rds:∀p∈s.rs,p.2.so=true→keptP (s.stat p.1) 1 p.2.bal
 lim:wgt s.me s.held + z≤400000000
 rlim:∀p∈s.rs,p.2.vt.length + p.2.pr.length + p.2.age + wgt s.me s.held + z≤400000000
 wt:∀x∈s.wt,0≤x
 lv:∀p∈s.lv,0≤p.1∧p.1 < 4096∧p.2.length≤2048
namespace Alive
variable {s t:Site} {S R:List Rc} {z:Nat}
theorem less (h:Alive s S R z) {y:Nat} (hy:y≤z):Alive s S R y:=
 ⟨h.ok,h.up,h.may,h.db,h.good,h.pre,h.dn,h.st,h.held,h.rds,by have:=h.lim;omega,fun p hp=>by have:=h.rlim p hp;omega,h.wt,h.lv⟩
theorem fit (h:Alive s S R z) (x:Int):(s.stat x).so=true∨(s.stat x).at_=⟨0,0⟩∧(s.stat x).b= []:=by rw [h.st];exact stOf_fit R x
theorem send (h:Alive s S R z) {m:Ms} (hf:m.Fit) {to:Int} (ht:0≤to∧to≤6) (hk:keptM (s.stat m.slot) m) {c:Nat} (hc:wgt1 s.me {m with frm:=(s.me:Int),to:=to}≤c) {y:Nat} (hz:c + y≤z):Alive (s.send to m) S R y:=by
 have hw:wgt s.me (s.held ++ [{m with frm:=(s.me:Int),to:=to}])≤wgt s.me s.held + c:=by rw [wgt_append,wgt_one];omega
 refine ⟨h.ok.send hf ht,h.up,h.may,h.db,h.good,h.pre,h.dn,h.st,fun x hx=>?_,h.rds,?_,fun p hp=>?_,h.wt,h.lv⟩
 ·rcases List.mem_append.1 hx with hx | hx
  ·exact h.held x hx
  ·rw [List.mem_singleton] at hx
   subst hx
   exact hk
 ·have:=h.lim
  show wgt s.me (s.held ++ _) + y≤_
  omega
 ·have:=h.rlim p hp
  show _ + wgt s.me (s.held ++ _) + y≤_
  omega
theorem others (h:Alive s S R z) {m:Ms} (hf:m.Fit) (hk:keptM (s.stat m.slot) m):∀i,i≤7→∀y,i + y≤z→Alive (s.others m i) S R y
 | 0,_,y,hy=>h.less (by omega)
 | i + 1,hi,y,hy=>by
  unfold Site.others
  split
  ·exact others h hf hk i (by omega) y (by omega)
  ·have h1:=others h hf hk i (by omega) (1 + y) (by omega)
   rename_i e
   refine h1.send hf (by omega) ?_ (c:=1) ?_ (by omega)
   ·have:(s.others m i).stat m.slot=s.stat m.slot:=by rw [Site.others_eq];rfl
    rw [this];exact hk
   ·unfold wgt1
    rw [(Site.others_me m i).1,if_neg (by show ¬ (i:Int)=(s.me:Int);omega)]
    exact Nat.le_refl _
theorem othersN (h:Alive s S R z) {m:Ms} (hf:m.Fit) (hk:keptM (s.stat m.slot) m) {y:Nat} (hy:6 + y≤z):Alive (s.others m s.n) S R y:=by
 have h7:=h.ok.n7
 have hme:=h.ok.me
 have h1:=h.others hf hk s.n h7
 have hl:(s.tell m s.n).length≤6:=by
  unfold Site.tell
  rw [List.length_map]
  have:((List.range s.n).filter fun j=>decide (j≠s.me)).length + 1≤s.n:=by
   have e1:=List.length_filter_lt_length_iff_exists (p:=fun j=>decide (j≠s.me)) (l:=List.range s.n)
   have e2:=e1.2 ⟨s.me,List.mem_range.2 hme,by simp⟩
   rw [List.length_range] at e2
   omega
  omega
 have hw:wgt s.me (s.tell m s.n)=(s.tell m s.n).length:=wgt_off fun x hx=>by
  unfold Site.tell at hx
  obtain ⟨j,hj,rfl⟩:=List.mem_map.1 hx
  have:=(List.mem_filter.1 hj).2
  simp at this ⊢
  omega
 have hh:∀m'∈s.tell m s.n,m'.slot=m.slot∧m'.kind=m.kind∧m'.bal=m.bal:=fun m' hm'=>by
  unfold Site.tell at hm'
  obtain ⟨j,hj,rfl⟩:=List.mem_map.1 hm'
  exact ⟨rfl,rfl,rfl⟩
 have hok:=Site.Ok.others h.ok hf s.n h7
 rw [Site.others_eq] at hok ⊢
 have hW:wgt s.me (s.held ++ s.tell m s.n)≤wgt s.me s.held + 6:=by rw [wgt_append];omega
 refine ⟨hok,h.up,h.may,h.db,h.good,h.pre,h.dn,h.st,fun x hx=>?_,h.rds,?_,fun p hp=>?_,h.wt,h.lv⟩
 ·rcases List.mem_append.1 hx with hx | hx
  ·exact h.held x hx
  ·obtain ⟨e1,e2,e3⟩:=hh x hx
   intro ht
   have ht':m.Tells:=by unfold Ms.Tells at ht ⊢;rwa [e2] at ht
   show keptP (s.stat x.slot) _ _
   rw [e1,e2,e3]
   exact hk ht'
 ·have:=h.lim
  show wgt s.me (s.held ++ _) + y≤_
  omega
 ·have:=h.rlim p hp
  show _ + wgt s.me (s.held ++ _) + y≤_
  omega
theorem setNx (h:Alive s S R z) {k:Nat} (hk:k≤4096):Alive {s with nx:=k} S R z:=
 ⟨h.ok.setNx hk,h.up,h.may,h.db,h.good,h.pre,h.dn,h.st,h.held,h.rds,h.lim,h.rlim,h.wt,h.lv⟩
theorem setWt (h:Alive s S R z) {l:List Int} (hl:∀x∈l,0≤x):Alive {s with wt:=l} S R z:=
 ⟨⟨h.ok.me,h.ok.n3,h.ok.n7,h.ok.pat,h.ok.st,h.ok.rs,h.ok.top,h.ok.nx,h.ok.held⟩,h.up,h.may,h.db,h.good,h.pre,h.dn,h.st,h.held,h.rds,h.lim,h.rlim,hl,h.lv⟩
theorem setRs (h:Alive s S R z) {x:Int} (hx:0≤x∧x < 4096) {r:Rn} (hr:r.b.length≤2048∧r.bal.may 7=true∧∀q∈r.pr,q.b.length≤2048) (hk:r.so=true→keptP (s.stat x) 1 r.bal) {y:Nat} (hy:y≤z)
  (hl:r.vt.length + r.pr.length + r.age + wgt s.me s.held + y≤400000000):Alive {s with rs:=putG x r s.rs} S R y:=by
 have h':=h.less hy
 refine ⟨h'.ok.setRs hx hr,h'.up,h'.may,h'.db,h'.good,h'.pre,h'.dn,h'.st,h'.held,fun p hp=>?_,h'.lim,fun p hp=>?_,h'.wt,h'.lv⟩
 ·rcases mem_putG.1 hp with rfl | ⟨hp,-⟩
  ·exact hk
  ·exact h'.rds p hp
 ·rcases mem_putG.1 hp with rfl | ⟨hp,-⟩
  ·exact hl
  ·exact h'.rlim p hp
theorem delRs (h:Alive s S R z) (x:Int):Alive {s with rs:=delG x s.rs} S R z:=
 ⟨h.ok.delRs x,h.up,h.may,h.db,h.good,h.pre,h.dn,h.st,h.held,fun p hp=>h.rds p (delG_mem.1 hp).1,h.lim,fun p hp=>h.rlim p (delG_mem.1 hp).1,h.wt,h.lv⟩
theorem decide_ (h:Alive s S R z) (x:Int) (v:List UInt8):Alive (s.decide_ x v) S R z:=by
 have hok:=h.ok.decide_ x v
 unfold Site.decide_ at hok ⊢
 split
 ·rename_i e
  rw [if_pos e] at hok
  refine ⟨hok,h.up,h.may,h.db,h.good,h.pre,h.dn,h.st,h.held,fun p hp=>h.rds p (delG_mem.1 hp).1,h.lim,fun p hp=>h.rlim p (delG_mem.1 hp).1,h.wt,fun p hp=>?_⟩
  unfold Site.putOk at e
  simp only [Bool.and_eq_true,decide_eq_true_eq] at e
  dsimp only at hp
  split at hp
  ·exact h.lv p hp
  ·rcases mem_putG.1 hp with rfl | ⟨hp,-⟩
   ·exact ⟨e.1.1.1,e.1.1.2,e.1.2⟩
   ·exact h.lv p hp
 ·exact h
theorem note (h:Alive s S R z) {y:Sp} {r:Rc} (hr:r.May) (hy:y=upd1 (s.stat r.slot) r) (hok:t.Ok) (hb:¬ r.bal.lt (s.stat r.slot).p) (hk:r.kind=1→1≤r.round) (hn:s.note y r=some t):Alive t S (R ++ [r]) z:=by
 have hg:Good (R ++ [r]):=h.good.snoc (by rw [←h.st];exact hb) hk
 unfold Site.note at hn
 split at hn
 ·injection hn with hn
  have hst:∀x,t.stat x=stOf (R ++ [r]) x:=fun x=>by
   rw [stOf_snoc,←hn]
   show ((lookG x (putG r.slot y s.st)).getD Sp.zero)=_
   rw [lookG_put]
   by_cases e:r.slot=x
   ·rw [if_pos e,if_pos e,←h.st,←e,hy];rfl
   ·rw [if_neg e,if_neg e,←h.st];rfl
  have hle:∀x,Sp.Le (s.stat x) (t.stat x):=fun x=>by rw [h.st,hst];exact hg.le1 x
  have e1:t.held=s.held∧t.rs=s.rs∧t.me=s.me∧t.wt=s.wt∧t.down=s.down∧t.dn=s.dn∧t.db=s.db ++ layB [r]∧t.lv=s.lv:=by rw [←hn];exact ⟨rfl,rfl,rfl,rfl,rfl,rfl,rfl,rfl⟩
  obtain ⟨e1,e2,e3,e4,e5,e6,e7,e8⟩:=e1
  refine ⟨hok,by rw [e5];exact h.up,fun x hx=>?_,by rw [e7,h.db,layB_append],hg,h.pre.trans (List.prefix_append _ _),by rw [e6];exact h.dn,hst,fun m hm=>?_,fun p hp e=>?_,by rw [e1,e3];exact h.lim,fun p hp=>?_,by rw [e4];exact h.wt,by rw [e8];exact h.lv⟩
  ·rcases List.mem_append.1 hx with hx | hx
   ·exact h.may x hx
   ·rw [List.mem_singleton] at hx;subst hx;exact hr
  ·rw [e1] at hm
   exact (h.held m hm).mono (hle _)
  ·rw [e2] at hp
   exact (h.rds p hp e).mono (hle _)
  ·rw [e2] at hp
   rw [e1,e3]
   exact h.rlim p hp
 ·cases hn
theorem accept (h:Alive s S R z) {x:Int} (hx:0≤x∧x < 4096) {b:Bl} (hb:b.may 7=true) {v:List UInt8} (hv:v.length≤2048) (hn:s.accept x b v=some t):(∃r,Alive t S (R ++ [r]) z)∧keptP (t.stat x) 1 b:=by
 have hok:=h.ok.accept hx hb hv hn
 have hbb:=Bl.may7.1 hb
 unfold Site.accept at hn
 split at hn
 ·cases hn
 ·rename_i e
  have hr:(⟨2,x,b.r,b.s,v⟩:Rc).May:=⟨.inr rfl,by show 0≤x∧x≤4095;omega,hbb.1,hbb.2,hv⟩
  have hy:(⟨b,true,b,v⟩:Sp)=upd1 (s.stat x) ⟨2,x,b.r,b.s,v⟩:=by
   unfold upd1
   rw [if_neg (by simp),if_neg (by exact e)]
   rfl
  have h1:=h.note hr hy hok (fun e'=>e ((cmpB_lt _ _).2 e')) (fun e'=>absurd e' (by simp)) hn
  refine ⟨⟨_,h1⟩,?_⟩
  have hst:t.stat x=⟨b,true,b,v⟩:=by rw [h1.st,stOf_snoc,if_pos rfl,←h.st,←hy]
  rw [hst]
  exact ⟨Bl.lt_irrefl _,.inr ⟨rfl,Bl.lt_irrefl _⟩⟩
theorem promise (h:Alive s S R z) {x:Int} (hx:0≤x∧x < 4096) {b:Bl} (hb:b.may 7=true) (hn:s.promise x b=some t):(∃r,Alive t S (R ++ [r]) z)∧keptP (t.stat x) 4 b:=by
 have hok:=h.ok.promise hx hb hn
 have hbb:=Bl.may7.1 hb
 unfold Site.promise at hn
 split at hn
 ·cases hn
 ·rename_i e
  have hr:(⟨1,x,b.r,b.s,[]⟩:Rc).May:=⟨.inl ⟨rfl,rfl⟩,by show 0≤x∧x≤4095;omega,hbb.1,hbb.2,by simp⟩
  have hy:({s.stat x with p:=b} :Sp)=upd1 (s.stat x) ⟨1,x,b.r,b.s,[]⟩:=by
   unfold upd1
   rw [if_pos rfl]
   rfl
  have h1:=h.note hr hy hok (fun e'=>e (.inr ((cmpB_lt _ _).2 e'))) (fun _=>by show 1≤b.r;omega) hn
  refine ⟨⟨_,h1⟩,?_⟩
  have hst:t.stat x= {s.stat x with p:=b}:=by rw [h1.st,stOf_snoc,if_pos rfl,←h.st,←hy]
  rw [hst]
  exact ⟨Bl.lt_irrefl _,.inl rfl⟩
end Alive
def Grow (_s t:Site) (S R:List Rc) (z:Nat):Prop:=∃R',R <+:R'∧Alive t S R' z
theorem Alive.grow {s t:Site} {S R:List Rc} {z:Nat} (h:Alive t S R z):Grow s t S R z:=⟨R,List.prefix_refl _,h⟩
end Agio
