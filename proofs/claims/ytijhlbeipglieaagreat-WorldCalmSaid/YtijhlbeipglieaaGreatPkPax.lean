/- For WorldCalm. -/
import Derived.Test.YtijhlbeipglieaaGreatPkUp
set_option linter.all false
namespace aL
open Go Go.Proofs.YtijhlbeipglieaaGreat List
theorem Co:∀(n:Nat)(l:List Int),l.Nodup→(∀x∈l,0≤x∧x<(n:Int))→l.length≤n
 |0,[],_,_=>Nat.le_refl _
 |0,x::l,_,h=>by have:=h x (by simp);omega
 |n+1,l,hn,h=>by
  have h1:=Co n (l.filter fun x=>decide (x≠(n:Int))) (hn.sublist filter_sublist) (fun x hx=>by
   have h2:=mem_filter.1 hx
   have h3:=h x h2.1
   have h4:=of_decide_eq_true h2.2
   omega)
  have h2:∀l:List Int,l.Nodup→l.length≤(l.filter fun x=>decide (x≠(n:Int))).length+1:=by
   intro l
   induction l with
   |nil=>simp
   |cons y l ih=>
    intro hn
    rw[nodup_cons]at hn
    by_cases e:y=(n:Int)
    ·have h3:l.filter (fun x=>decide (x≠(n:Int)))=l:=filter_eq_self.2 fun x hx=>by
      simp only[decide_eq_true_eq]
      rintro rfl
      exact hn.1 (by rw[e];exact hx)
     rw[filter_cons]
     simp only[e,ne_eq,not_true_eq_false,decide_false,Bool.false_eq_true,if_false,length_cons]
     simp only[ne_eq]at h3
     rw[h3]
     omega
    ·have:=ih hn.2
     rw[filter_cons]
     simp only[e,ne_eq,not_false_eq_true,decide_true,if_true,length_cons]at this ⊢
     omega
  have:=h2 l hn
  omega
theorem lM{l:List Int}{n x:Int}(h:x∈(dE l n).map Prod.fst):x∈l∧dd x n=true:=by
 obtain⟨p,hp,rfl⟩:=mem_map.1 h
 have h1:(dX p.1 (dE l n)).isSome=true:=by
  cases e:dX p.1 (dE l n) with
  |some _=>rfl
  |none=>exact absurd rfl (Kj.1 e p hp)
 rw[rV,Bool.and_eq_true,decide_eq_true_eq]at h1
 exact h1
theorem rJ{fs gs:List Int}{n:Nat}(hf:fN fs n=true)(hg:fN gs n=true):∃f,f∈fs∧f∈gs∧dd f n=true:=by
 unfold fN at hf hg
 split at hf
 ·cases hf
 rename_i hn
 rw[if_neg hn,decide_eq_true_eq]at hg
 rw[decide_eq_true_eq]at hf
 unfold mW at hf hg
 rw[if_neg hn]at hf hg
 have hA:=lq fs (n:Int)
 have hB:=lq gs (n:Int)
 have key:∃x,x∈(dE fs n).map Prod.fst∧x∈(dE gs n).map Prod.fst:=by
  refine Classical.byContradiction fun hno=>?_
  have h1:((dE fs n).map Prod.fst++(dE gs n).map Prod.fst).Nodup:=by
   rw[nodup_append]
   exact⟨hA,hB,fun a ha b hb e=>hno ⟨a,ha,by rw[e];exact hb⟩⟩
  have h2:=Co n _ h1 (fun x hx=>by
   have:dd x n=true:=by
    rcases mem_append.1 hx with hx|hx
    ·exact(lM hx).2
    ·exact(lM hx).2
   unfold dd at this
   simpa using this)
  rw[length_append,length_map,length_map]at h2
  omega
 obtain⟨x,h1,h2⟩:=key
 exact⟨x,(lM h1).1,(lM h2).1,(lM h1).2⟩
def has(l:List Rc)(x:Int)(b:Bl)(v:List UInt8):Prop:=(⟨2,x,b.r,b.s,v⟩:Rc)∈l
def nV(l:List Rc)(x:Int)(b:Bl)(so:Bool)(a:Bl)(v:List UInt8):Prop:=
 ∃l1 l2,l=l1++(⟨1,x,b.r,b.s,[]⟩:Rc)::l2∧(dU l1 x).so=so∧(dU l1 x).at_=a∧(dU l1 x).b=v
theorem has.mono{l m:List Rc}{x:Int}{b:Bl}{v:List UInt8}(h:has l x b v)(hp:l <+:m):has m x b v:=by obtain⟨k,rfl⟩:=hp;exact mem_append.2 (.inl h)
theorem nV.mono{l m:List Rc}{x:Int}{b a:Bl}{so:Bool}{v:List UInt8}(h:nV l x b so a v)(hp:l <+:m):nV m x b so a v:=by
 obtain⟨k,rfl⟩:=hp
 obtain⟨l1,l2,rfl,h1⟩:=h
 exact⟨l1,l2++k,by simp,h1⟩
theorem ED(l:List Rc)(hg:∀r∈l,r.kind=1∨r.kind=2)(x:Int):(dU l x).so=true→has l x (dU l x).at_ (dU l x).b:=by
 refine ug (P:=fun l=>(∀r∈l,r.kind=1∨r.kind=2)→(dU l x).so=true→has l x (dU l x).at_ (dU l x).b) (fun _ h=>by cases h) (fun l r ih hg h=>?_) l hg
 have ih:=ih (fun q hq=>hg q (mem_append.2 (.inl hq)))
 rw[gI]at h ⊢
 have ie:∀{b:Bl}{v:List UInt8},has l x b v→has (l++[r]) x b v:=fun h=>h.mono (prefix_append _ _)
 split at h
 ·rename_i e
  rw[if_pos e]
  unfold gQ at h ⊢
  split at h
  ·rename_i hk
   rw[if_pos hk]
   exact ie (ih h)
  rename_i hk
  split at h
  ·rename_i hc
   rw[if_neg hk,if_pos hc]
   exact ie (ih h)
  ·rename_i hc
   rw[if_neg hk,if_neg hc]
   have hk2:=(hg r (by simp)).resolve_left hk
   refine mem_append.2 (.inr (mem_singleton.2 ?_))
   cases r
   simp only[Rc.aC]at *
   subst hk2 e
   rfl
 ·rename_i e
  rw[if_neg e]
  exact ie (ih h)
theorem Good.vS{l:List Rc}(h:Good l){x:Int}{b:Bl}{v:List UInt8}(hm:has l x b v):(dU l x).so=true∧¬ (dU l x).at_.lt b∧¬ (dU l x).p.lt b:=by
 obtain⟨l1,l2,e⟩:=append_of_mem hm
 have e2:l=(l1++[(⟨2,x,b.r,b.s,v⟩:Rc)])++l2:=by rw[e];simp
 have h1:Good (l1++[(⟨2,x,b.r,b.s,v⟩:Rc)]):=by rw[e2]at h;exact h.pre
 have h2:=h1.last
 have h3:dU (l1++[(⟨2,x,b.r,b.s,v⟩:Rc)]) x=⟨b,true,b,v⟩:=by
  rw[gI,if_pos rfl]
  unfold gQ
  rw[if_neg (by simp),if_neg (fun e=>h2 ((gp _ _).1 e))]
  rfl
 have h4:=Good.le l2 _ (e2▸h) x
 rw[←e2,h3]at h4
 exact⟨(h4.so rfl).1,(h4.so rfl).2,h4.p⟩
theorem Good.AO{l:List Rc}(h:Good l){x:Int}{b a:Bl}{so:Bool}{v:List UInt8}(hp:nV l x b so a v){c:Bl}{u:List UInt8}(hm:has l x c u)(hc:c.lt b):so=true∧¬ a.lt c:=by
 obtain⟨l1,l2,e,h1,h2,h3⟩:=hp
 have fR:Good l1:=by rw[e]at h;exact h.pre
 have lA:has l1 x c u:=by
  unfold has at hm
  rw[e]at hm
  rcases mem_append.1 hm with hm|hm
  ·exact hm
  rcases mem_cons.1 hm with hm|hm
  ·injection hm with hk;cases hk
  ·exfalso
   obtain⟨l3,l4,e2⟩:=append_of_mem hm
   have e3:l=(l1++(⟨1,x,b.r,b.s,[]⟩:Rc)::l3)++(⟨2,x,c.r,c.s,u⟩:Rc)::l4:=by rw[e,e2];simp
   have h4:=(h _ _ _ e3).1
   have e4:l1++(⟨1,x,b.r,b.s,[]⟩:Rc)::l3=(l1++[(⟨1,x,b.r,b.s,[]⟩:Rc)])++l3:=by simp
   have h5:Good ((l1++[(⟨1,x,b.r,b.s,[]⟩:Rc)])++l3):=by rw[←e4];rw[e3]at h;exact h.pre
   have h6:=(Good.le l3 _ h5 x).p
   rw[gI,if_pos rfl]at h6
   have h7:(gQ (dU l1 x) (⟨1,x,b.r,b.s,[]⟩:Rc)).p=b:=by unfold gQ;rw[if_pos rfl];rfl
   rw[h7]at h6
   rw[e4]at h4
   exact(Bl.le_trans h6 h4) hc
 obtain⟨k1,k2,-⟩:=fR.vS lA
 rw[h1]at k1
 rw[h2]at k2
 exact⟨k1,k2⟩
theorem vT(n:Int)(l:List Pm):(∀p∈l,p.so=true→dd p.f n=true→∃q,gE n l=some q∧¬ q.at_.lt p.at_)∧∀q,gE n l=some q→q∈l∧q.so=true∧dd q.f n=true:=by
 refine ug (P:=fun l=>(∀p∈l,p.so=true→dd p.f n=true→∃q,gE n l=some q∧¬ q.at_.lt p.at_)∧∀q,gE n l=some q→q∈l∧q.so=true∧dd q.f n=true) ⟨by simp,fun q h=>by cases h⟩ (fun l x ih=>?_) l
 have e1:gE n (l++[x])=(if x.so&&dd x.f n&&(match gE n l with|none=>true|some q=>decide (0<dr x.at_ q.at_))then some x else gE n l):=by
  unfold gE;rw[foldl_append];rfl
 obtain⟨i1,i2⟩:=ih
 cases hb:gE n l with
 |none=>
  rw[hb]at e1
  simp only[Bool.and_true]at e1
  by_cases hc:(x.so&&dd x.f n)=true
  ·rw[if_pos hc]at e1
   rw[e1]
   refine⟨fun p hp h1 h2=>?_,fun q hq=>?_⟩
   ·rcases mem_append.1 hp with hp|hp
    ·obtain⟨q,h3,-⟩:=i1 p hp h1 h2
     rw[hb]at h3;cases h3
    ·rw[mem_singleton]at hp;subst hp;exact⟨_,rfl,Bl.lt_irrefl _⟩
   ·injection hq with hq;subst hq
    rw[Bool.and_eq_true]at hc
    exact⟨by simp,hc⟩
  ·rw[if_neg hc]at e1
   rw[e1]
   refine⟨fun p hp h1 h2=>?_,fun q hq=>by cases hq⟩
   rcases mem_append.1 hp with hp|hp
   ·obtain⟨q,h3,-⟩:=i1 p hp h1 h2
    rw[hb]at h3;cases h3
   ·rw[mem_singleton]at hp;subst hp;exact absurd (by rw[h1,h2];rfl) hc
 |some y=>
  rw[hb]at e1
  obtain⟨j1,j2,j3⟩:=i2 y hb
  simp only at e1
  by_cases hc:(x.so&&dd x.f n&&decide (0<dr x.at_ y.at_))=true
  ·rw[if_pos hc]at e1
   rw[e1]
   simp only[Bool.and_eq_true,decide_eq_true_eq]at hc
   have XP:=(qh _ _).1 hc.2
   refine⟨fun p hp h1 h2=>⟨_,rfl,?_⟩,fun q hq=>?_⟩
   ·rcases mem_append.1 hp with hp|hp
    ·obtain⟨q,h3,h4⟩:=i1 p hp h1 h2
     rw[hb]at h3
     injection h3 with h3
     subst h3
     exact Bl.le_trans h4 (Bl.le_of_lt XP)
    ·rw[mem_singleton]at hp;subst hp;exact Bl.lt_irrefl _
   ·injection hq with hq;subst hq
    exact⟨by simp,hc.1⟩
  ·rw[if_neg hc]at e1
   rw[e1]
   refine⟨fun p hp h1 h2=>⟨_,rfl,?_⟩,fun q hq=>?_⟩
   ·rcases mem_append.1 hp with hp|hp
    ·obtain⟨q,h3,h4⟩:=i1 p hp h1 h2
     rw[hb]at h3
     injection h3 with h3
     subst h3
     exact h4
    ·rw[mem_singleton]at hp;subst hp
     intro hlt
     exact hc (by rw[h1,h2];simpa using(qh _ _).2 hlt)
   ·injection hq with hq;subst hq
    exact⟨mem_append.2 (.inl j1),j2,j3⟩
def Choice(G:Int→List Rc)(x:Int)(b:Bl)(v:List UInt8)(n:Nat):Prop:=
 ∃gB:List Pm,dM gB n=some v∧∀q∈gB,nV (G q.f) x b q.so q.at_ q.b∧(q.so=true→q.at_.lt b)
structure gx(G:Int→List Rc)(n:Nat)(P:Int→List UInt8→Prop):Prop where
 may:∀f,∀r∈G f,r.bL
 gR:∀f,Good (G f)
 back:∀f x b v,has (G f) x b v→has (G b.s) x b v
 one:∀x b v u,has (G b.s) x b v→has (G b.s) x b u→v=u
 low:∀x b v,has (G b.s) x b v→b.r=0→bK x n=b.s∧(v= []∨P x v)
 high:∀x b v,has (G b.s) x b v→1≤b.r→Choice G x b v n
def sP(G:Int→List Rc)(n:Nat)(x:Int)(v:List UInt8):Prop:=
 (∃b fs,fN fs n=true∧∀f∈fs,has (G f) x b v)∨(v= []∧has (G (bK x n)) x ⟨0,bK x n⟩ [])
theorem Rc.bL.EB{r:Rc}(h:r.bL):r.kind=1∨r.kind=2:=h.kind.imp (fun h=>h.1) id
namespace gx
variable {G:Int→List Rc} {n:Nat} {P:Int→List UInt8→Prop}
theorem eY(h:gx G n P){f x:Int}{b:Bl}{v:List UInt8}(hv:has (G f) x b v):0≤b.r∧0≤b.s∧b.s≤6:=by
 have h1:0≤b.r∧b.r≤1099511627776:=(h.may f _ hv).round
 have h2:0≤b.s∧b.s≤6:=(h.may f _ hv).site
 omega
theorem src(h:gx G n P){f x:Int}{b:Bl}{so:Bool}{a:Bl}{v:List UInt8}(hp:nV (G f) x b so a v)(hs:so=true):has (G a.s) x a v:=by
 obtain⟨l1,l2,e,h1,h2,h3⟩:=hp
 have hm:∀r∈l1,r.kind=1∨r.kind=2:=fun r hr=>(h.may f r (by rw[e];exact mem_append.2 (.inl hr))).EB
 have h4:=ED l1 hm x (by rw[h1];exact hs)
 rw[h2,h3]at h4
 exact h.back f x a v (h4.mono (by rw[e];exact prefix_append _ _))
theorem qV(h:gx G n P){x:Int}{b:Bl}{v:List UInt8}(hc:Choice G x b v n):(v= []∧∃gB,dM gB n=some v∧(∀q∈gB,nV (G q.f) x b q.so q.at_ q.b∧(q.so=true→q.at_.lt b))∧gE n gB=none)∨
  ∃gB q,dM gB n=some v∧(∀q∈gB,nV (G q.f) x b q.so q.at_ q.b∧(q.so=true→q.at_.lt b))∧gE n gB=some q∧v=q.b∧q.at_.lt b∧has (G q.at_.s) x q.at_ v:=by
 obtain⟨gB,h1,h2⟩:=hc
 have Bo:=h1
 unfold dM at h1
 split at h1
 ·injection h1 with h1
  cases hb:gE n gB with
  |none=>rw[hb]at h1;exact .inl ⟨h1.symm,gB,Bo,h2,hb⟩
  |some q=>
   rw[hb]at h1
   have hq:=(vT n gB).2 q hb
   have h3:=h2 q hq.1
   have hv:v=q.b:=h1.symm
   refine .inr ⟨gB,q,Bo,h2,hb,hv,h3.2 hq.2.1,?_⟩
   rw[hv]
   exact h.src h3.1 hq.2.1
 ·cases h1
theorem Kp{a b:Bl}(ha:0≤a.r∧0≤a.s∧a.s≤6)(hb:0≤b.r∧0≤b.s∧b.s≤6)(h:a.lt b):a.r.toNat*8+a.s.toNat<b.r.toNat*8+b.s.toNat:=by
 unfold Bl.lt at h;omega
theorem Fu(h:gx G n P){x:Int}{c:Bl}{u:List UInt8}{fs:List Int}(hm:fN fs n=true)(hf:∀f∈fs,has (G f) x c u):∀(k:Nat)(b:Bl)(v:List UInt8),b.r.toNat*8+b.s.toNat<k→has (G b.s) x b v→c.lt b→v=u
 |0,_,_,hk,_,_=>by omega
 |k+1,b,v,hk,hv,hlt=>by
  obtain⟨f0,sQ,-,-⟩:=rJ hm hm
  have hcr:=h.eY (hf f0 sQ)
  have hbr:=h.eY hv
  by_cases hr:1≤b.r
  ·have key:∀gB:List Pm,dM gB n=some v→(∀q∈gB,nV (G q.f) x b q.so q.at_ q.b∧(q.so=true→q.at_.lt b))→∃p,p∈gB∧p.so=true∧dd p.f n=true∧¬ p.at_.lt c:=by
    intro gB h1 h2
    have hmp:fN (gB.map Pm.f) n=true:=by
     unfold dM at h1
     split at h1
     ·assumption
     ·cases h1
    obtain⟨f,qA,hf2,hf3⟩:=rJ hm hmp
    obtain⟨p,hp,rfl⟩:=mem_map.1 hf2
    have h3:=(h.gR p.f).AO (h2 p hp).1 (hf _ qA) hlt
    exact⟨p,hp,h3.1,hf3,h3.2⟩
   rcases h.qV (h.high x b v hv hr) with⟨-,gB,h1,h2,hb⟩|⟨gB,q,h1,h2,hb,-,NK,hq⟩
   ·obtain⟨p,hp,hs,hi,-⟩:=key gB h1 h2
    obtain⟨q,hq,-⟩:=(vT n gB).1 p hp hs hi
    rw[hb]at hq;cases hq
   ·obtain⟨p,hp,hs,hi,UI⟩:=key gB h1 h2
    obtain⟨q',L7,XQ⟩:=(vT n gB).1 p hp hs hi
    rw[hb]at L7
    injection L7 with L7
    subst L7
    have zB:¬ q.at_.lt c:=Bl.le_trans UI XQ
    have hqr:=h.eY hq
    by_cases e:q.at_=c
    ·rw[e]at hq
     exact h.one x c v u hq (h.back _ _ _ _ (hf f0 sQ))
    ·have vU:c.lt q.at_:=by
      obtain⟨cr,cs⟩:=c
      have e':¬ (q.at_.r=cr∧q.at_.s=cs):=fun⟨e1,e2⟩=>e (by cases hh:q.at_;rw[hh]at e1 e2;simp only at e1 e2;rw[e1,e2])
      unfold Bl.lt at zB ⊢
      simp only at zB e' ⊢
      omega
     have:=Kp hqr hbr NK
     exact Fu h hm hf k q.at_ v (by omega) hq vU
  ·exfalso
   have h1:=h.low x b v hv (by omega)
   have h2:c.r=0:=by unfold Bl.lt at hlt;omega
   have h3:=h.low x c u (h.back _ _ _ _ (hf f0 sQ)) h2
   unfold Bl.lt at hlt
   omega
theorem eR(h:gx G n P){x:Int}(ho:has (G (bK x n)) x ⟨0,bK x n⟩ []):∀(k:Nat)(b:Bl)(v:List UInt8),b.r.toNat*8+b.s.toNat<k→has (G b.s) x b v→v= []
 |0,_,_,hk,_=>by omega
 |k+1,b,v,hk,hv=>by
  have hbr:=h.eY hv
  by_cases hr:1≤b.r
  ·rcases h.qV (h.high x b v hv hr) with⟨e,-⟩|⟨gB,q,-,-,-,-,NK,hq⟩
   ·exact e
   ·have:=Kp (h.eY hq) hbr NK
    exact eR h ho k q.at_ v (by omega) hq
  ·have h1:=h.low x b v hv (by omega)
   have hb:b=⟨0,bK x n⟩:=by
    obtain⟨br,bs⟩:=b
    simp only at h1 hr hbr
    rw[h1.1,show br=0 by omega]
   rw[hb]at hv
   exact h.one x ⟨0,bK x n⟩ v [] hv ho
theorem agree(h:gx G n P){x:Int}{v u:List UInt8}(hv:sP G n x v)(hu:sP G n x u):v=u:=by
 have sm:∀{v u:List UInt8}{b:Bl}{fs:List Int},(v= []∧has (G (bK x n)) x ⟨0,bK x n⟩ [])→fN fs n=true→(∀f∈fs,has (G f) x b u)→v=u:=by
  intro v u b fs h1 h2 h3
  obtain⟨f0,sQ,-,-⟩:=rJ h2 h2
  rw[h1.1,h.eR h1.2 _ b u (Nat.lt_succ_self _) (h.back _ _ _ _ (h3 f0 sQ))]
 rcases hv with⟨b,fs,h1,h2⟩|hv<;>rcases hu with⟨c,gs,h3,h4⟩|hu
 ·obtain⟨f0,sQ,hg0,-⟩:=rJ h1 h3
  have k1:=h.back _ _ _ _ (h2 f0 sQ)
  have k2:=h.back _ _ _ _ (h4 f0 hg0)
  by_cases e1:b.lt c
  ·exact(h.Fu h1 h2 _ c u (Nat.lt_succ_self _) k2 e1).symm
  by_cases e2:c.lt b
  ·exact h.Fu h3 h4 _ b v (Nat.lt_succ_self _) k1 e2
  have e3:b=c:=by
   obtain⟨br,bs⟩:=b
   obtain⟨cr,cs⟩:=c
   unfold Bl.lt at e1 e2
   simp only at e1 e2
   rw[Bl.mk.injEq];omega
  subst e3
  exact h.one x b v u k1 k2
 ·exact(sm hu h1 h2).symm
 ·exact sm hv h3 h4
 ·rw[hv.1,hu.1]
theorem valid(h:gx G n P){x:Int} :∀(k:Nat)(b:Bl)(v:List UInt8),b.r.toNat*8+b.s.toNat<k→has (G b.s) x b v→v= []∨P x v
 |0,_,_,hk,_=>by omega
 |k+1,b,v,hk,hv=>by
  have hbr:=h.eY hv
  by_cases hr:1≤b.r
  ·rcases h.qV (h.high x b v hv hr) with⟨e,-⟩|⟨gB,q,-,-,-,-,NK,hq⟩
   ·exact .inl e
   ·have:=Kp (h.eY hq) hbr NK
    exact valid h k q.at_ v (by omega) hq
  ·exact(h.low x b v hv (by omega)).2
end gx
structure eX(G:Int→List Rc)(n:Nat)(L:List Rc)(m:Ms):Prop where
 val:m.kind=1∨m.kind=5→has L m.slot m.aC m.val∧m.aC.s=m.aR
 skip:m.kind=2→has L m.slot ⟨0,m.aR⟩ []
 AO:m.kind=4→nV L m.slot m.aC m.some_ m.had m.val
 Kq:m.kind=6→∃v,has L m.slot m.aC v
 told:m.kind=7→sP G n m.slot m.val
structure AV(G:Int→List Rc)(me:Int)(R:List Rc)(x:Int)(r:Rn):Prop where
 aC:r.aC.s=me
 yes:r.so=true→has R x r.aC r.b
 no:r.so=false→(∀v,¬ has R x r.aC v)∧1≤r.aC.r
 vt:∀v∈r.vt,v.2=r.aC→∃u,has (G v.1) x r.aC u
 pr:∀q∈r.pr,nV (G q.f) x r.aC q.so q.at_ q.b
structure vV(G:Int→List Rc)(P:Int→List UInt8→Prop)(me:Int)(n:Nat)(r:Rc):Prop where
 low:r.site=me→r.round=0→bK r.slot n=me∧(r.val= []∨P r.slot r.val)
 high:r.site=me→1≤r.round→Choice G r.slot r.aC r.val n
 fB:r.site≠me→has (G r.site) r.slot r.aC r.val
def fq(G G':Int→List Rc):Prop:=∀f,G f <+:G' f
section
variable {G G':Int→List Rc} {P P':Int→List UInt8→Prop} {n:Nat} {L L' R R':List Rc}
theorem fq.refl(G:Int→List Rc):fq G G:=fun _=>prefix_refl _
theorem sP.mono{x:Int}{v:List UInt8}(h:sP G n x v)(hg:fq G G'):sP G' n x v:=
 h.imp (fun⟨b,fs,h1,h2⟩=>⟨b,fs,h1,fun f hf=>(h2 f hf).mono (hg f)⟩) (fun⟨h1,h2⟩=>⟨h1,h2.mono (hg _)⟩)
theorem Choice.mono{x:Int}{b:Bl}{v:List UInt8}(h:Choice G x b v n)(hg:fq G G'):Choice G' x b v n:=by
 obtain⟨gB,h1,h2⟩:=h
 exact⟨gB,h1,fun q hq=>⟨(h2 q hq).1.mono (hg _),(h2 q hq).2⟩⟩
theorem eX.mono{m:Ms}(h:eX G n L m)(hg:fq G G')(hl:L <+:L'):eX G' n L' m:=
 ⟨fun e=>⟨(h.val e).1.mono hl,(h.val e).2⟩,fun e=>(h.skip e).mono hl,fun e=>(h.AO e).mono hl,fun e=>(h.Kq e).imp fun _ hv=>hv.mono hl,fun e=>(h.told e).mono hg⟩
theorem vV.mono{me:Int}{r:Rc}(h:vV G P me n r)(hg:fq G G')(hp:∀x v,P x v→P' x v):vV G' P' me n r:=
 ⟨fun e1 e2=>⟨(h.low e1 e2).1,(h.low e1 e2).2.imp id (hp _ _)⟩,fun e1 e2=>(h.high e1 e2).mono hg,fun e=>(h.fB e).mono (hg _)⟩
theorem AV.mono{me x:Int}{r:Rn}(h:AV G me R x r)(hg:fq G G'):AV G' me R x r:=
 ⟨h.aC,h.yes,h.no,fun v hv e=>(h.vt v hv e).imp fun _ hu=>hu.mono (hg _),fun q hq=>(h.pr q hq).mono (hg _)⟩
end
structure PA(G:Int→List Rc)(P:Int→List UInt8→Prop)(s:Site)(R:List Rc)(z:Nat):Prop where
 al:bj s (G s.me) R z
 msg:∀m∈s.held,m.aR=(s.me:Int)∧eX G s.n R m∧(m.to=(s.me:Int)→m.kind=2∨m.kind=4∨m.kind=6)
 eY:∀p∈s.rs,AV G s.me R p.1 p.2
 dec:∀p∈s.lv,sP G s.n p.1 p.2
 jE:∀r∈R,r.kind=2→vV G P s.me s.n r
 one:∀x b v u,b.s=(s.me:Int)→has R x b v→has R x b u→v=u
namespace PA
variable {G G':Int→List Rc} {P P':Int→List UInt8→Prop} {s t:Site} {R:List Rc} {z:Nat}
theorem less(h:PA G P s R z){y:Nat}(hy:y≤z):PA G P s R y:=⟨h.al.less hy,h.msg,h.eY,h.dec,h.jE,h.one⟩
theorem mono(h:PA G P s R z)(hg:fq G G')(hp:∀x v,P x v→P' x v)(he:G' s.me=G s.me):PA G' P' s R z:=
 ⟨by rw[he];exact h.al,fun m hm=>⟨(h.msg m hm).1,(h.msg m hm).2.1.mono hg (prefix_refl _),(h.msg m hm).2.2⟩,fun p hp=>(h.eY p hp).mono hg,fun p hp=>(h.dec p hp).mono hg,fun r hr hk=>(h.jE r hr hk).mono hg hp,h.one⟩
theorem send(h:PA G P s R z){m:Ms}(hf:m.Fit){tg:Int}(ht:0≤tg∧tg≤6)(hk:lh (s.stat m.slot) m)(hm:eX G s.n R (Ms.mk m.kind (s.me:Int) tg m.slot m.bU m.cu m.dw m.dR m.some_ m.val))(ho:tg=(s.me:Int)→m.kind=2∨m.kind=4∨m.kind=6){y:Nat}(hz:cT m.kind+y≤z):PA G P (s.send tg m) R y:=
 ⟨h.al.sR hf ht hk hz,fun x hx=>by
  rcases mem_append.1 hx with hx|hx
  ·exact h.msg x hx
  ·rw[mem_singleton]at hx
   subst hx
   exact⟨rfl,hm,ho⟩,h.eY,h.dec,h.jE,h.one⟩
theorem others(h:PA G P s R z){m:Ms}(hf:m.Fit)(hk:lh (s.stat m.slot) m)(hm:∀tg:Int,eX G s.n R (Ms.mk m.kind (s.me:Int) tg m.slot m.bU m.cu m.dw m.dR m.some_ m.val)){y:Nat}(hz:6+y≤z):PA G P (s.others m s.n) R y:=by
 have h1:=h.al.oD hf hk hz
 rw[Site.bH]at h1 ⊢
 refine⟨h1,fun x hx=>?_,h.eY,h.dec,h.jE,h.one⟩
 rcases mem_append.1 hx with hx|hx
 ·exact h.msg x hx
 ·unfold Site.tell at hx
  obtain⟨j,hj,rfl⟩:=mem_map.1 hx
  refine⟨rfl,hm _,fun e=>?_⟩
  have:=(mem_filter.1 hj).2
  simp only[decide_eq_true_eq]at this
  exfalso
  have e':(j:Int)=(s.me:Int):=e
  omega
theorem jI(h:PA G P s R z){k:Nat}(hk:k≤4096):PA G P {s with nx:=k} R z:=⟨h.al.jI hk,h.msg,h.eY,h.dec,h.jE,h.one⟩
theorem zG(h:PA G P s R z){l:List Int}(hl:∀x∈l,0≤x):PA G P {s with wt:=l} R z:=⟨h.al.zG hl,h.msg,h.eY,h.dec,h.jE,h.one⟩
theorem fH(h:PA G P s R z){x:Int}(hx:0≤x∧x<4096){r:Rn}(hr:r.b.length≤2048∧r.aC.may 7=true∧∀q∈r.pr,q.b.length≤2048)(hk:r.so=true→eV (s.stat x) 1 r.aC)(hp:AV G s.me R x r){y:Nat}(hy:y≤z)(hl:r.vt.length+r.pr.length+r.cV+gD s.me s.held+y≤400000000):PA G P {s with rs:=aT x r s.rs} R y:=
 ⟨h.al.fH hx hr hk hy hl,h.msg,fun p pN=>by
  rcases ec.1 pN with rfl|⟨pN,-⟩
  ·exact hp
  ·exact h.eY p pN,h.dec,h.jE,h.one⟩
theorem nu(h:PA G P s R z)(x:Int):PA G P {s with rs:=bY x s.rs} R z:=⟨h.al.nu x,h.msg,fun p hp=>h.eY p (fK.1 hp).1,h.dec,h.jE,h.one⟩
theorem aX(h:PA G P s R z){x:Int}{v:List UInt8}(hd:sP G s.n x v):PA G P (s.aX x v) R z:=by
 have h1:=h.al.aX x v
 unfold Site.aX at h1 ⊢
 split
 ·rename_i e
  rw[if_pos e]at h1
  refine⟨h1,h.msg,fun p hp=>h.eY p (fK.1 hp).1,fun p hp=>?_,h.jE,h.one⟩
  dsimp only at hp
  split at hp
  ·exact h.dec p hp
  ·rcases ec.1 hp with rfl|⟨hp,-⟩
   ·exact hd
   ·exact h.dec p hp
 ·exact h
theorem yz{x y:Int}{b c:Bl}{v u:List UInt8}(h:has (R++[(⟨2,y,c.r,c.s,u⟩:Rc)]) x b v):has R x b v∨x=y∧b=c∧v=u:=by
 rcases mem_append.1 h with h|h
 ·exact .inl h
 ·rw[mem_singleton]at h
  injection h with h1 h2 h3 h4 h5
  exact .inr ⟨h2,by cases b;cases c;simp only at h3 h4;rw[h3,h4],h5⟩
theorem vW{x:Int}{b:Bl}{v:List UInt8}(hn:s.accept x b v=some t):t.me=s.me∧t.n=s.n∧t.held=s.held∧t.rs=s.rs∧t.lv=s.lv:=by
 have h:=Site.j6 hn
 exact⟨h.1,h.2.1,h.2.2.1,h.2.2.2.1,h.2.2.2.2.1⟩
theorem acc(h:PA G P s R z){x:Int}(hx:0≤x∧x<4096){b:Bl}(hb:b.may 7=true){v:List UInt8}(hv:v.length≤2048)(hn:s.accept x b v=some t)(adN:vV G P s.me s.n ⟨2,x,b.r,b.s,v⟩)(oE:b.s=(s.me:Int)→∀u,¬ has R x b u)(hr:∀p∈s.rs,p.2.so=false→¬ (p.1=x∧p.2.aC=b)) :
  PA G P t (R++[(⟨2,x,b.r,b.s,v⟩:Rc)]) z∧eV (t.stat x) 1 b∧has (R++[(⟨2,x,b.r,b.s,v⟩:Rc)]) x b v:=by
 have ef:=h.al.ok.accept hx hb hv hn
 have ik:=Bl.jk.1 hb
 obtain⟨f1,f2,f3,f4,f5⟩:=vW hn
 have jH:=(h.al.accept hx hb hv hn).2
 have py:=hn
 unfold Site.accept at py
 split at py
 ·cases py
 rename_i e
 have mg:(⟨2,x,b.r,b.s,v⟩:Rc).bL:=⟨.inr rfl,by show 0≤x∧x≤4095;omega,ik.1,ik.2,hv⟩
 have hy:(⟨b,true,b,v⟩:Sp)=gQ (s.stat x) ⟨2,x,b.r,b.s,v⟩:=by
  unfold gQ
  rw[if_neg (by simp),if_neg (by exact e)]
  rfl
 have h1:=h.al.note mg hy ef (fun e'=>e ((gp _ _).2 e')) (fun e'=>absurd e' (by simp)) py
 have qJ:R <+:R++[(⟨2,x,b.r,b.s,v⟩:Rc)]:=prefix_append _ _
 refine⟨⟨by rw[f1];exact h1,fun m hm=>?_,fun p hp=>?_,fun p hp=>?_,fun r fP hk=>?_,fun y c v1 v2 hc h3 h4=>?_⟩,jH,mem_append.2 (.inr (by simp))⟩
 ·rw[f3]at hm
  rw[f1,f2]
  exact⟨(h.msg m hm).1,(h.msg m hm).2.1.mono (fq.refl _) qJ,(h.msg m hm).2.2⟩
 ·rw[f4]at hp
  rw[f1]
  have k:=h.eY p hp
  refine⟨k.aC,fun e=>(k.yes e).mono qJ,fun e=>⟨fun u hu=>?_,(k.no e).2⟩,k.vt,k.pr⟩
  rcases yz hu with hu|⟨e1,e2,-⟩
  ·exact(k.no e).1 u hu
  ·exact hr p hp e ⟨e1,e2⟩
 ·rw[f5]at hp
  rw[f2]
  exact h.dec p hp
 ·rw[f1,f2]
  rcases mem_append.1 fP with fP|fP
  ·exact h.jE r fP hk
  ·rw[mem_singleton]at fP;subst fP;exact adN
 ·rw[f1]at hc
  rcases yz h3 with k3|⟨e1,e2,e3⟩<;>rcases yz h4 with k4|⟨e4,e5,e6⟩
  ·exact h.one y c v1 v2 hc k3 k4
  ·subst e4 e5;exact absurd k3 (oE hc v1)
  ·subst e1 e2;exact absurd k4 (oE hc v2)
  ·rw[e3,e6]
theorem zK(h:PA G P s R z){x:Int}(hx:0≤x∧x<4096){b:Bl}(hb:b.may 7=true)(hn:s.promise x b=some t) :
  PA G P t (R++[(⟨1,x,b.r,b.s,[]⟩:Rc)]) z∧eV (t.stat x) 4 b∧nV (R++[(⟨1,x,b.r,b.s,[]⟩:Rc)]) x b (t.stat x).so (t.stat x).at_ (t.stat x).b∧1≤b.r∧t.me=s.me∧t.n=s.n∧t.held=s.held∧t.rs=s.rs:=by
 have ef:=h.al.ok.promise hx hb hn
 have ik:=Bl.jk.1 hb
 have jH:=(h.al.promise hx hb hn).2
 have py:=hn
 unfold Site.promise at py
 split at py
 ·cases py
 rename_i e
 have mg:(⟨1,x,b.r,b.s,[]⟩:Rc).bL:=⟨.inl ⟨rfl,rfl⟩,by show 0≤x∧x≤4095;omega,ik.1,ik.2,by simp⟩
 have hy:({s.stat x with p:=b} :Sp)=gQ (s.stat x) ⟨1,x,b.r,b.s,[]⟩:=by
  unfold gQ
  rw[if_pos rfl]
  rfl
 have h1:=h.al.note mg hy ef (fun e'=>e (.inr ((gp _ _).2 e'))) (fun _=>by show 1≤b.r;omega) py
 have qJ:R <+:R++[(⟨1,x,b.r,b.s,[]⟩:Rc)]:=prefix_append _ _
 have hs:∀{y:Int}{c:Bl}{v:List UInt8},has (R++[(⟨1,x,b.r,b.s,[]⟩:Rc)]) y c v→has R y c v:=fun {y c v} hv=>by
  rcases mem_append.1 hv with hv|hv
  ·exact hv
  ·rw[mem_singleton]at hv;injection hv with h1;cases h1
 obtain⟨f1,f2,f3,f4,f5⟩:t.me=s.me∧t.n=s.n∧t.held=s.held∧t.rs=s.rs∧t.lv=s.lv:=by
  unfold Site.note at py
  split at py
  ·injection py with py;rw[←py];exact⟨rfl,rfl,rfl,rfl,rfl⟩
  ·cases py
 have hst:t.stat x= {s.stat x with p:=b}:=by rw[h1.st,gI,if_pos rfl,←h.al.st,←hy]
 refine⟨⟨by rw[f1];exact h1,fun m hm=>?_,fun p hp=>?_,fun p hp=>?_,fun r fP hk=>?_,fun y c v1 v2 hc h3 h4=>?_⟩,jH,⟨R,[],rfl,?_⟩,by omega,f1,f2,f3,f4⟩
 ·rw[f3]at hm
  rw[f1,f2]
  exact⟨(h.msg m hm).1,(h.msg m hm).2.1.mono (fq.refl _) qJ,(h.msg m hm).2.2⟩
 ·rw[f4]at hp
  rw[f1]
  have k:=h.eY p hp
  exact⟨k.aC,fun e=>(k.yes e).mono qJ,fun e=>⟨fun u hu=>(k.no e).1 u (hs hu),(k.no e).2⟩,k.vt,k.pr⟩
 ·rw[f5]at hp
  rw[f2]
  exact h.dec p hp
 ·rw[f1,f2]
  rcases mem_append.1 fP with fP|fP
  ·exact h.jE r fP hk
  ·rw[mem_singleton]at fP;subst fP;cases hk
 ·rw[f1]at hc
  exact h.one y c v1 v2 hc (hs h3) (hs h4)
 ·rw[hst,←h.al.st];exact⟨rfl,rfl,rfl⟩
end PA
theorem Bl.QD{a b:Bl}(h:¬ b.lt a)(hn:a≠b):a.lt b:=by
 obtain⟨ar,zR⟩:=a
 obtain⟨br,bs⟩:=b
 simp only[ne_eq,Bl.mk.injEq]at hn
 unfold Bl.lt at h ⊢
 simp only at h ⊢
 omega
theorem zO(site n:Int):∀(k s:Nat),kO site n k s= -1∨(kO site n k s).tmod n=site
 |0,s=>.inl rfl
 |k+1,s=>by
  unfold kO
  split
  ·rename_i h;exact .inr h
  ·exact zO site n k (s+1)
theorem se{site n:Int}{f:Nat}(h:0≤bV site f n):bK (bV site f n) n=site:=by
 have hr:=fU site f n
 unfold bV at h hr ⊢
 split at h
 ·omega
 rename_i hc
 rw[if_neg hc]at hr ⊢
 rcases zO site n (4096 - f) f with h1|h1
 ·omega
 unfold bK
 rw[if_neg (by omega),h1]
theorem Site.IU(s:Site):∀(k:Nat)(x:Int),x<4096→(0≤x→4096-x≤(k:Int))→(0≤x→bK x s.n=(s.me:Int))→0≤s.free k x→s.fresh (s.free k x)=true∧bK (s.free k x) s.n=(s.me:Int)
 |0,x,h1,h2,h3,h=>by
  unfold Site.free at h
  exfalso
  have:=h2 h
  omega
 |k+1,x,h1,h2,h3,h=>by
  unfold Site.free at h ⊢
  split
  ·rename_i hc
   rw[if_pos hc]at h
   have hr:=fU (s.me:Int) (x+1).toNat s.n
   exact Site.IU s k _ (by omega) (fun h0=>by have:=h2 hc.1;omega) (fun h0=>se h0) h
  ·rename_i hc
   rw[if_neg hc]at h
   refine⟨?_,h3 h⟩
   cases e:s.fresh x with
   |true=>rfl
   |false=>exact absurd ⟨h,e⟩ hc
theorem eX.XR{G:Int→List Rc}{n:Nat}{L:List Rc}{m:Ms}(h:m.kind=3∨m.kind=8):eX G n L m:=
 ⟨fun e=>by omega,fun e=>by omega,fun e=>by omega,fun e=>by omega,fun e=>by omega⟩
theorem eX.bB{G:Int→List Rc}{n:Nat}{L:List Rc}{x:Int}{b:Bl}{v:List UInt8}(h:has L x b v)(f g:Int):eX G n L (Ms.mk (Site.bB x b).kind f g (Site.bB x b).slot (Site.bB x b).bU (Site.bB x b).cu (Site.bB x b).dw (Site.bB x b).dR (Site.bB x b).some_ (Site.bB x b).val):=
 ⟨fun e=>(by rcases e with e|e<;>cases e),fun e=>(by cases e),fun e=>(by cases e),fun _=>⟨v,h⟩,fun e=>(by cases e)⟩
theorem eX.bD{G:Int→List Rc}{n:Nat}{L:List Rc}{x:Int}{v:List UInt8}(h:sP G n x v)(f g:Int):eX G n L (Ms.mk (Site.bD x v).kind f g (Site.bD x v).slot (Site.bD x v).bU (Site.bD x v).cu (Site.bD x v).dw (Site.bD x v).dR (Site.bD x v).some_ (Site.bD x v).val):=
 ⟨fun e=>(by rcases e with e|e<;>cases e),fun e=>(by cases e),fun e=>(by cases e),fun e=>(by cases e),fun _=>h⟩
theorem eX.bt{G:Int→List Rc}{n:Nat}{L:List Rc}{x me:Int}(h:has L x ⟨0,me⟩ [])(g:Int):eX G n L (Ms.mk (Site.bt x ⟨0,me⟩).kind me g (Site.bt x ⟨0,me⟩).slot (Site.bt x ⟨0,me⟩).bU (Site.bt x ⟨0,me⟩).cu (Site.bt x ⟨0,me⟩).dw (Site.bt x ⟨0,me⟩).dR (Site.bt x ⟨0,me⟩).some_ (Site.bt x ⟨0,me⟩).val):=
 ⟨fun e=>(by rcases e with e|e<;>cases e),fun _=>h,fun e=>(by cases e),fun e=>(by cases e),fun e=>(by cases e)⟩
theorem eX.asks{G:Int→List Rc}{n:Nat}{L:List Rc}{x me:Int}{r:Rn}(h:r.so=true→has L x r.aC r.b)(hb:r.aC.s=me)(g:Int):eX G n L (Ms.mk (Site.asks r x).kind me g (Site.asks r x).slot (Site.asks r x).bU (Site.asks r x).cu (Site.asks r x).dw (Site.asks r x).dR (Site.asks r x).some_ (Site.asks r x).val):=by
 unfold Site.asks
 split
 ·rename_i e
  refine⟨fun _=>⟨h e,hb⟩,fun e=>?_,fun e=>?_,fun e=>?_,fun e=>?_⟩<;>(dsimp only at e;split at e<;>cases e)
 ·exact eX.XR (.inl rfl)
def iu(G:Int→List Rc)(P:Int→List UInt8→Prop)(t:Site)(R:List Rc)(z:Nat):Prop:=∃R',R <+:R'∧PA G P t R' z
namespace PA
variable {G G':Int→List Rc} {P P':Int→List UInt8→Prop} {s t:Site} {R:List Rc} {z:Nat}
theorem grow(h:PA G P s R z):iu G P s R z:=⟨R,prefix_refl _,h⟩
theorem Fv(h:PA G P s R z){x:Int}(hf:s.fresh x=true)(b:Bl)(u:List UInt8):¬ has R x b u:=fun hu=>by
 have h1:=(h.al.gR.vS hu).1
 rw[←h.al.st]at h1
 unfold Site.fresh at hf
 simp only[Bool.and_eq_true]at hf
 have h2:=hf.2
 unfold Sp.same Sp.zero at h2
 rw[h1]at h2
 simp at h2
theorem NL{x:Int}(ho:bK x s.n=(s.me:Int)){v:List UInt8}(hv:v= []∨P x v):vV G P s.me s.n ⟨2,x,s.bQ.r,s.bQ.s,v⟩:=
 ⟨fun _ _=>⟨ho,hv⟩,fun _ h=>by have h':(1:Int)≤0:=h;omega,fun h=>absurd rfl h⟩
theorem NM(h:PA G P s R z){x:Int} :∀p∈s.rs,p.2.so=false→¬ (p.1=x∧p.2.aC=s.bQ):=fun p hp e ⟨_,e2⟩=>by
 have:=((h.eY p hp).no e).2
 rw[e2]at this
 have h':(1:Int)≤0:=this
 omega
theorem iI(h:PA G P t R z){x:Int}(hx:0≤x∧x<4096)(hk:eV (t.stat x) 1 ⟨0,t.me⟩)(hh:has R x ⟨0,t.me⟩ []){y:Nat}(hy:7+y≤z):PA G P (t.iI ⟨0,t.me⟩ x) R y:=by
 have hb:(⟨0,t.me⟩:Bl).may 7=true:=h.al.ok.own
 have hf:=Site.vX hx hb
 have NN:∀t':Site,t'.stat x=t.stat x→lh (t'.stat (Site.bt x ⟨0,t.me⟩).slot) (Site.bt x ⟨0,t.me⟩):=fun t' e _=>by
  show eV (t'.stat x) 2 ⟨0,t.me⟩
  rw[e];exact hk.kind (by decide)
 have h1:=h.others hf (NN t rfl) (fun tg=>eX.bt hh tg) (y:=1+y) (by omega)
 have e1:(t.others (Site.bt x ⟨0,t.me⟩) t.n).stat x=t.stat x:=by rw[Site.bH];rfl
 have e2:(t.others (Site.bt x ⟨0,t.me⟩) t.n).me=t.me∧(t.others (Site.bt x ⟨0,t.me⟩) t.n).n=t.n:=by rw[Site.bH];exact⟨rfl,rfl⟩
 have h2:=h1.send hf (tg:=(t.me:Int)) h.al.xH (NN _ e1) (by rw[e2.1,e2.2];exact eX.bt hh _) (fun _=>.inl rfl) (y:=y) (by simp[Site.bt,cT])
 exact h2.jI (by omega)
theorem cG:∀(f c:Nat)(s:Site)(R:List Rc)(z:Nat),PA G P s R z→∀(tg:Int)(y:Nat),7*(8-c)+y≤z→iu G P (Site.cG f c s tg) R y
 |0,_,s,R,z,h,_,y,hy=>(h.less (by omega)).grow
 |f+1,c,s,R,z,h,tg,y,hy=>by
  unfold Site.cG
  split
  ·exact(h.less (by omega)).grow
  rename_i hc
  split
  ·exact(h.less (by omega)).grow
  rename_i hx
  have hr:=fU (s.me:Int) s.nx s.n
  have hx2:0≤bV s.me s.nx s.n∧bV s.me s.nx s.n<4096:=by omega
  split
  ·rename_i eP
   split
   ·exact(h.less (by omega)).grow
   ·rename_i t ha
    obtain⟨h2,h3,h4⟩:=h.acc hx2 h.al.ok.own (by simp) ha (NL (se hx2.1) (.inl rfl)) (fun _ u=>h.Fv eP _ u) h.NM
    have ca:t.me=s.me:=(vW ha).1
    have h5:=h2.iI hx2 (y:=7*(8-(c+1))+y) (by rw[ca];exact h3) (by rw[ca];exact h4) (by omega)
    rw[ca]at h5
    obtain⟨R2,h6,h7⟩:=cG f (c+1) _ _ _ h5 tg y (Nat.le_refl _)
    exact⟨R2,(prefix_append _ _).trans h6,h7⟩
  ·exact cG f c _ R z (h.jI (by omega)) tg y hy
theorem skip(h:PA G P s R z)(tg:Int){y:Nat}(hy:56+y≤z):iu G P (s.skip tg) R y:=cG _ _ s R z h tg y (by omega)
theorem sD(s:Site)(x:Int):¬ (s.low x).lt (s.stat x).p:=by
 unfold Site.low
 split
 ·split
  ·rename_i h;exact Bl.le_of_lt ((qh _ _).1 h)
  ·exact Bl.lt_irrefl _
 ·exact Bl.lt_irrefl _
theorem XS(b:Bl)(x:Int):(b.next x).s=x:=by
 unfold Bl.next
 split
 ·rfl
 split<;>rfl
theorem cK(h:PA G P s R z){x:Int}(hx:0≤x∧x<4096){y:Nat}(hy:22+y≤z):iu G P (s.cK x) R y:=by
 have hb:=Bl.yA (h.al.AW x) (me:=s.me) (by have:=h.al.xH;omega)
 have yU:=XS (s.low x) s.me
 unfold Site.cK
 split
 ·exact(h.less (by omega)).grow
 rename_i hlt
 split
 ·exact(h.less (by omega)).grow
 ·rename_i t ha
  obtain⟨h1,h2,h3,hr1,ca,hn,hhd,bZ⟩:=h.zK hx hb ha
  have XP:(s.stat x).p.lt ((s.low x).next s.me):=by
   have e1:=sD s x
   have e2:(s.low x).lt ((s.low x).next s.me):=(qh _ _).1 (by omega)
   unfold Bl.lt at e1 e2 ⊢
   omega
  have hno:∀v,¬ has (R++[(⟨1,x,((s.low x).next s.me).r,((s.low x).next s.me).s,[]⟩:Rc)]) x ((s.low x).next s.me) v:=fun v hv=>by
   rcases mem_append.1 hv with hv|hv
   ·have:=(h.al.gR.vS hv).2.2
    rw[←h.al.st]at this
    exact this XP
   ·rw[mem_singleton]at hv;injection hv with h1;cases h1
  generalize ik:(s.low x).next s.me=b at *
  have hR:AV G t.me (R++[(⟨1,x,b.r,b.s,[]⟩:Rc)]) x (⟨b,[],false,[],[],0⟩:Rn):=⟨by rw[ca];exact yU,(by intro e;cases e),fun _=>⟨hno,hr1⟩,by simp,by simp⟩
  have h4:PA G P {t with rs:=aT x (⟨b,[],false,[],[],0⟩:Rn) t.rs} (R++[(⟨1,x,b.r,b.s,[]⟩:Rc)]) z:=h1.fH (r:=(⟨b,[],false,[],[],0⟩:Rn)) hx ⟨by simp,hb,by simp⟩ (by intro e;cases e) hR (Nat.le_refl _) (by have:=h1.al.lim;simp;omega)
  have h5:=h4.others (m:=Site.asks (⟨b,[],false,[],[],0⟩:Rn) x) (Site.iX hx hb (by simp)) (by intro e;revert e;simp[Site.asks,Ms.la]) (fun tg=>eX.asks (by intro e;cases e) (by show b.s=(t.me:Int);rw[ca];exact yU) tg) (y:=16+y) (by omega)
  have h5:PA G P (({t with rs:=aT x (⟨b,[],false,[],[],0⟩:Rn) t.rs} :Site).others (Site.asks (⟨b,[],false,[],[],0⟩:Rn) x) s.n) (R++[(⟨1,x,b.r,b.s,[]⟩:Rc)]) (16+y):=by rw[←hn];exact h5
  have e1:(({t with rs:=aT x (⟨b,[],false,[],[],0⟩:Rn) t.rs} :Site).others (Site.asks (⟨b,[],false,[],[],0⟩:Rn) x) s.n).stat x=t.stat x:=by rw[Site.bH];rfl
  refine⟨_,prefix_append _ _,h5.send (Site.lQ h5.al.ok hx hb (h5.al.fit x)) h5.al.xH ?_ ?_ (fun _=>.inr (.inl rfl)) ?_⟩
  ·intro _
   show eV (Site.stat _ x) 4 _
   rw[e1];exact h2
  ·refine⟨fun e=>(by rcases e with e|e<;>cases e),fun e=>(by cases e),fun _=>?_,fun e=>(by cases e),fun e=>(by cases e)⟩
   show nV _ x b (Site.stat _ x).so (Site.stat _ x).at_ (Site.stat _ x).b
   rw[e1];exact h3
  ·show cT 4+y≤_
   simp[cT]
theorem mR(h:PA G P s R z){x:Int}(hx:0≤x∧x<4096){b:Bl}(hb:b.may 7=true)(hk:eV (s.stat x) 1 b){v:List UInt8}(hh:has R x b v){tg:Int}(ht:0≤tg∧tg≤6){y:Nat}(hy:8+y≤z):PA G P (s.send tg (Site.bB x b)) R y:=
 h.send (Site.mO hx hb) ht (fun _=>by show eV (s.stat x) 6 b;exact hk.kind (by decide)) (eX.bB hh _ _) (fun _=>.inr (.inr rfl)) (by show cT 6+y≤z;simp[cT];omega)
theorem NP(h:PA G P s R z){m:Ms}(hm:m.bL)(hf:m.aR≠(s.me:Int))(hv:has (G m.aR) m.slot m.aC m.val)(hb:m.aC.s=m.aR)(hn:s.accept m.slot m.aC m.val=some t) :
  ∃R',R <+:R'∧PA G P t R' z∧eV (t.stat m.slot) 1 m.aC∧has R' m.slot m.aC m.val:=by
 obtain⟨h2,h3,h4⟩:=h.acc (bj.dP hm) (bj.jT hm) hm.val hn
  ⟨fun e=>absurd (hb.symm.trans e) hf,fun e=>absurd (hb.symm.trans e) hf,fun _=>by show has (G m.aC.s) m.slot m.aC m.val;rw[hb];exact hv⟩
  (fun e=>absurd (hb.symm.trans e) hf) (fun p hp _ ⟨_,e⟩=>hf (by rw[←hb,←e];exact(h.eY p hp).aC))
 exact⟨_,prefix_append _ _,h2,h3,h4⟩
theorem dI(h:PA G P s R z){m:Ms}(hm:m.bL)(hk:m.kind=1)(hf:m.aR≠(s.me:Int))(hp:eX G s.n (G m.aR) m){y:Nat}(hy:100+y≤z):iu G P (s.dI m) R y:=by
 unfold Site.dI
 split
 ·split
  ·rename_i t ha
   obtain⟨R',h1,h2,h3,h4⟩:=h.NP hm hf (hp.val (.inl hk)).1 (hp.val (.inl hk)).2 ha
   have h5:=h2.mR (bj.dP hm) (bj.jT hm) h3 h4 hm.aR (y:=56+y) (by omega)
   obtain⟨R2,h6,h7⟩:=h5.skip m.slot (y:=y) (Nat.le_refl _)
   exact⟨R2,h1.trans h6,h7⟩
  ·exact h.skip _ (by omega)
 ·exact(h.less (by omega)).grow
theorem asked(h:PA G P s R z){m:Ms}(hm:m.bL)(hk:m.kind=5)(hf:m.aR≠(s.me:Int))(hp:eX G s.n (G m.aR) m){y:Nat}(hy:100+y≤z):iu G P (s.asked m) R y:=by
 unfold Site.asked
 split
 ·split
  ·rename_i t ha
   obtain⟨R',h1,h2,h3,h4⟩:=h.NP hm hf (hp.val (.inr hk)).1 (hp.val (.inr hk)).2 ha
   exact⟨R',h1,h2.mR (bj.dP hm) (bj.jT hm) h3 h4 hm.aR (by omega)⟩
  ·exact(h.less (by omega)).grow
 ·exact(h.less (by omega)).grow
theorem ed(h:PA G P s R z){m:Ms}(hm:m.bL){y:Nat}(hy:100+y≤z):iu G P (s.ed m) R y:=by
 unfold Site.ed
 split
 ·split
  ·rename_i t ha
   obtain⟨h1,h2,h3,-,ca,hn,-,-⟩:=h.zK (bj.dP hm) (bj.jT hm) ha
   refine⟨_,prefix_append _ _,h1.send (Site.lQ h1.al.ok (bj.dP hm) (bj.jT hm) (h1.al.fit _)) hm.aR (fun _=>h2) ?_ (fun _=>.inr (.inl rfl)) (by show cT 4+y≤_;simp[cT];omega)⟩
   exact⟨fun e=>(by rcases e with e|e<;>cases e),fun e=>(by cases e),fun _=>h3,fun e=>(by cases e),fun e=>(by cases e)⟩
  ·exact(h.less (by omega)).grow
 ·exact(h.less (by omega)).grow
theorem QE{α:Type}(x:Int)(M:AL α):bY x (bY x M)=bY x M:=by
 unfold bY
 rw[filter_filter]
 congr 1
 funext p
 cases decide (p.1=x)<;>rfl
theorem QF{α:Type}(x:Int)(v:α)(M:AL α):aT x v (bY x M)=aT x v M:=by unfold aT;rw[QE]
theorem rk(s:Site)(l:AL Rn)(x:Int)(b:Bl)(v:List UInt8):({s with rs:=l} :Site).accept x b v=(s.accept x b v).map fun t=>{t with rs:=l}:=by
 unfold Site.accept Site.note
 have e1:({s with rs:=l} :Site).stat x=s.stat x:=rfl
 rw[e1]
 split
 ·rfl
 have e2:∀r,({s with rs:=l} :Site).room r=s.room r:=fun _=>rfl
 rw[e2]
 split<;>rfl
theorem bT(hG:gx G s.n P)(h:PA G P s R z)(kQ:G s.me <+:R){m:Ms}(hm:m.bL)(hk:m.kind=4)(hp:eX G s.n (G m.aR) m){y:Nat}(hy:16+y≤z):iu G P (s.bT m) R y:=by
 unfold Site.bT
 split
 ·exact(h.less (by omega)).grow
 rename_i r hr
 have mg:=bG hr
 have hro:=h.al.ok.rs _ mg
 have mQ:=h.al.kn _ mg
 have iE:=h.eY _ mg
 have hx:=bj.dP hm
 split
 ·rename_i oo
  have hpl:∀q∈r.pr++[(⟨m.aR,m.some_,m.had,m.val⟩:Pm)],q.b.length≤2048:=fun q hq=>by
   rcases mem_append.1 hq with hq|hq
   ·exact hro.2.2.2.2 q hq
   ·rw[mem_singleton]at hq;subst hq;exact hm.val
  have SJ:∀q∈r.pr++[(⟨m.aR,m.some_,m.had,m.val⟩:Pm)],nV (G q.f) m.slot r.aC q.so q.at_ q.b:=fun q hq=>by
   rcases mem_append.1 hq with hq|hq
   ·exact iE.pr q hq
   ·rw[mem_singleton]at hq;subst hq;rw[oo.1];exact hp.AO hk
  obtain⟨hno,hr1⟩:=iE.no oo.2
  replace hr1:1≤r.aC.r:=hr1
  have h1:PA G P {s with rs:=aT m.slot {r with pr:=r.pr++[(⟨m.aR,m.some_,m.had,m.val⟩:Pm)]} s.rs} R (z - 1):=
   h.fH (r:={r with pr:=r.pr++[(⟨m.aR,m.some_,m.had,m.val⟩:Pm)]}) hx ⟨hro.2.2.1,hro.2.2.2.1,hpl⟩ (by intro e;have e':r.so=true:=e;rw[oo.2]at e';cases e') ⟨iE.aC,iE.yes,iE.no,iE.vt,SJ⟩ (by omega) (by simp only[length_append,length_singleton];dsimp only at mQ;omega)
  simp only
  split
  ·exact(h1.less (by omega)).grow
  ·rename_i v hv
   have gi:=ud hpl hv
   split
   ·exact((h1.nu _).less (by omega)).grow
   ·rename_i u hu
    have hch:Choice G m.slot r.aC v s.n:=by
     refine⟨_,hv,fun q hq=>⟨SJ q hq,fun gC=>?_⟩⟩
     have h2:=SJ q hq
     have h3:=hG.src h2 gC
     obtain⟨l1,l2,e,e1,e2,e3⟩:=h2
     have hgd:Good (G q.f):=hG.gR q.f
     have h4:=(hgd l1 _ l2 e).1
     have h5:(dU l1 m.slot).Kf:=by rw[e]at hgd;exact hgd.pre.PL _
     have h6:=h5 (by rw[e1];exact gC)
     rw[e2]at h6
     have h7:¬ r.aC.lt q.at_:=Bl.le_trans h6 h4
     have h8:q.at_≠r.aC:=fun e4=>by
      rw[e4,iE.aC]at h3
      exact hno _ (h3.mono kQ)
     exact Bl.QD h7 h8
    -- the round out,the value accepted,the round in again
    have h2:=h1.nu m.slot
    have ha:({s with rs:=bY m.slot (aT m.slot {r with pr:=r.pr++[(⟨m.aR,m.some_,m.had,m.val⟩:Pm)]} s.rs)} :Site).accept m.slot r.aC v=some {u with rs:=bY m.slot u.rs}:=by
     have e1:=rk s (aT m.slot {r with pr:=r.pr++[(⟨m.aR,m.some_,m.had,m.val⟩:Pm)]} s.rs) m.slot r.aC v
     rw[hu]at e1
     rw[rk]
     cases e2:s.accept m.slot r.aC v with
     |none=>rw[e2]at e1;cases e1
     |some t0=>
      rw[e2]at e1
      simp only[Option.map_some,Option.some.injEq]at e1 ⊢
      rw[e1]
    obtain⟨h3,h4,h5⟩:=h2.acc (b:=r.aC) (v:=v) hx hro.2.2.2.1 gi ha
     ⟨fun _ e=>by have e':r.aC.r=0:=e;omega,fun _ _=>hch,fun e=>absurd iE.aC e⟩ (fun _ w=>hno w)
     (fun p hp _ ⟨e,_⟩=>(fK.1 hp).2 e)
    have zP:=vW hu
    have h6:PA G P {u with rs:=aT m.slot {r with pr:=r.pr++[(⟨m.aR,m.some_,m.had,m.val⟩:Pm)],so:=true,b:=v} u.rs} (R++[(⟨2,m.slot,r.aC.r,r.aC.s,v⟩:Rc)]) (z - 1):=by
     have:=h3.fH (r:={r with pr:=r.pr++[(⟨m.aR,m.some_,m.had,m.val⟩:Pm)],so:=true,b:=v}) hx ⟨gi,hro.2.2.2.1,hpl⟩ (fun _=>h4)
      ⟨by show r.aC.s=(u.me:Int);rw[zP.1];exact iE.aC,fun _=>h5,(by intro e;cases e),iE.vt,SJ⟩ (Nat.le_refl _) (by
       show _+gD u.me u.held+_≤_
       rw[zP.2.2.1,zP.1];simp only[length_append,length_singleton];dsimp only at mQ;omega)
     have e:aT m.slot {r with pr:=r.pr++[(⟨m.aR,m.some_,m.had,m.val⟩:Pm)],so:=true,b:=v} (bY m.slot u.rs)=aT m.slot {r with pr:=r.pr++[(⟨m.aR,m.some_,m.had,m.val⟩:Pm)],so:=true,b:=v} u.rs:=QF _ _ _
     rw[←e]
     exact this
    have h7:=h6.others (m:=Site.asks {r with pr:=r.pr++[(⟨m.aR,m.some_,m.had,m.val⟩:Pm)],so:=true,b:=v} m.slot) (Site.iX hx hro.2.2.2.1 gi) (by
     have:(Site.asks {r with pr:=r.pr++[(⟨m.aR,m.some_,m.had,m.val⟩:Pm)],so:=true,b:=v} m.slot).slot=m.slot:=by unfold Site.asks;split<;>rfl
     rw[this];exact bj.zQ (x:=m.slot) fun _=>h4) (fun tg=>eX.asks (fun _=>h5) (by show r.aC.s=(u.me:Int);rw[zP.1];exact iE.aC) tg) (y:=8+y) (by omega)
    have h7:PA G P (({u with rs:=aT m.slot {r with pr:=r.pr++[(⟨m.aR,m.some_,m.had,m.val⟩:Pm)],so:=true,b:=v} u.rs} :Site).others (Site.asks {r with pr:=r.pr++[(⟨m.aR,m.some_,m.had,m.val⟩:Pm)],so:=true,b:=v} m.slot) s.n) (R++[(⟨2,m.slot,r.aC.r,r.aC.s,v⟩:Rc)]) (8+y):=by rw[←zP.2.1];exact h7
    refine⟨_,prefix_append _ _,h7.mR hx hro.2.2.2.1 ?_ h5 h.al.xH (Nat.le_refl _)⟩
    rw[Site.bH]
    exact h4
 ·exact(h.less (by omega)).grow
theorem accepted(hG:gx G s.n P)(h:PA G P s R z)(kQ:G s.me <+:R){m:Ms}(hm:m.bL)(hk:m.kind=6)(hp:eX G s.n (G m.aR) m){y:Nat}(hy:8+y≤z):iu G P (s.accepted m) R y:=by
 unfold Site.accepted
 split
 ·exact(h.less (by omega)).grow
 rename_i r hr
 have mg:=bG hr
 have hro:=h.al.ok.rs _ mg
 have mQ:=h.al.kn _ mg
 have iE:=h.eY _ mg
 split
 ·rename_i oo
  have mh:∀v∈r.vt++[(m.aR,(⟨m.bU,m.cu⟩:Bl))],v.2=r.aC→∃u,has (G v.1) m.slot r.aC u:=fun v hv e=>by
   rcases mem_append.1 hv with hv|hv
   ·exact iE.vt v hv e
   ·rw[mem_singleton]at hv;subst hv;rw[oo.1];exact hp.Kq hk
  have h1:PA G P {s with rs:=aT m.slot {r with vt:=r.vt++[(m.aR,(⟨m.bU,m.cu⟩:Bl))]} s.rs} R (z - 1):=
   h.fH (r:={r with vt:=r.vt++[(m.aR,(⟨m.bU,m.cu⟩:Bl))]}) (bj.dP hm) hro.2.2 (fun e=>h.al.cI _ mg e) ⟨iE.aC,iE.yes,iE.no,mh,iE.pr⟩ (by omega) (by simp only[length_append,length_singleton];dsimp only at mQ;omega)
  simp only
  split
  ·rename_i Ds
   have hd:sP G s.n m.slot r.b:=by
    refine .inl ⟨r.aC,_,Ds,fun f hf=>?_⟩
    obtain⟨p,ee,rfl⟩:=mem_map.1 hf
    obtain⟨gS,fO⟩:=mem_filter.1 ee
    have fO:=of_decide_eq_true fO
    obtain⟨u,hu⟩:=mh p gS fO
    have h2:=hG.back _ _ _ _ hu
    rw[iE.aC]at h2
    have h3:=h.one _ _ _ _ iE.aC (h2.mono kQ) (iE.yes oo.2)
    rw[←h3];exact hu
   have h2:=h1.aX (x:=m.slot) (v:=r.b) hd
   have hn:=(Site.jt ({s with rs:=aT m.slot {r with vt:=r.vt++[(m.aR,(⟨m.bU,m.cu⟩:Bl))]} s.rs}) m.slot r.b).n
   have h3:=h2.others (Site.j7 (bj.dP hm) hro.2.2.1) (by intro e;revert e;simp[Site.bD,Ms.la]) (fun tg=>eX.bD (by rw[hn];exact hd) _ tg) (y:=y) (by omega)
   rw[hn]at h3
   exact h3.grow
  ·exact(h1.less (by omega)).grow
 ·exact(h.less (by omega)).grow
theorem fW(tg:Int)(ht:0≤tg∧tg≤6)(D:Int→Option (List UInt8))(n:Nat)(hD:∀x v,D x=some v→v.length≤2048∧sP G n x v):∀(l:List Int)(s:Site)(z:Nat),PA G P s R z→s.n=n→(∀x∈l,(0≤x∧x<4096)∧(D x).isSome=true)→(tg≠(s.me:Int))→∀y,l.length+y≤z→
  PA G P (l.foldl (fun u x=>u.send tg (Site.bD x ((D x).getD []))) s) R y
 |[],s,z,h,_,_,_,y,hy=>h.less (by simpa using hy)
 |x::l,s,z,h,hn,hl,hne,y,hy=>by
  rw[length_cons]at hy
  obtain⟨hx,hs⟩:=hl x (by simp)
  cases e:D x with
  |none=>rw[e]at hs;cases hs
  |some v=>
   obtain⟨pJ,hv2⟩:=hD x v e
   have h1:=h.send (Site.j7 hx pJ) ht (by intro e;revert e;simp[Site.bD,Ms.la]) (eX.bD (by rw[hn];exact hv2) _ _) (fun e=>absurd e hne) (y:=l.length+y) (by show cT 7+_≤z;simp[cT];omega)
   have h2:=fW tg ht D n hD l (s.send tg (Site.bD x v)) _ h1 hn (fun q hq=>hl q (by simp[hq])) hne y (Nat.le_refl _)
   rw[foldl_cons,e]
   exact h2
theorem wanted(h:PA G P s R z){m:Ms}(hm:m.bL)(hf:m.aR≠(s.me:Int)){y:Nat}(hy:100+y≤z):iu G P (s.wanted m) R y:=by
 have key:∀{t:Site}{R':List Rc},t.me=s.me→PA G P t R' (16+y)→PA G P ((((range' m.slot.toNat ((eT t.lv).toNat-m.slot.toNat)).map fun(i:Nat)=>(i:Int)).filter fun x=>(t.dec x).isSome).take 16 |>.foldl (fun u x=>u.send m.aR (Site.bD x ((t.dec x).getD []))) t) R' y:=by
  intro t R' ca ht
  refine fW m.aR hm.aR t.dec t.n (fun x v hv=>⟨ht.al.wR hv,ht.dec _ (bG hv)⟩) _ t _ ht rfl (fun x hx=>?_) (by rw[ca];exact hf) y ?_
  ·have h1:=mem_of_mem_take hx
   obtain⟨h2,h3⟩:=mem_filter.1 h1
   refine⟨?_,h3⟩
   cases e:t.dec x with
   |none=>rw[e]at h3;cases h3
   |some v=>exact⟨(ht.al.lv _ (bG e)).1,(ht.al.lv _ (bG e)).2.1⟩
  ·rw[length_take];omega
 unfold Site.wanted
 simp only
 split
 ·obtain⟨R',h1,h2⟩:=h.skip (m.slot+1) (y:=16+y) (by omega)
  exact⟨R',h1,key (Site.uh _ _).me h2⟩
 ·exact⟨R,prefix_refl _,key rfl (h.less (by omega))⟩
theorem take(hG:gx G s.n P)(h:PA G P s R z)(kQ:G s.me <+:R){m:Ms}(hm:m.bL)(hp:eX G s.n (G m.aR) m)(hf:m.aR≠(s.me:Int)∨m.kind=2∨m.kind=4∨m.kind=6){y:Nat}(hy:cT m.kind+y≤z):iu G P (s.take m) R y:=by
 have gL:¬ (m.kind=2∨m.kind=4∨m.kind=6)→m.aR≠(s.me:Int):=fun h=>hf.resolve_right h
 have SK:iu G P (s.ct m) R y:=by
  unfold Site.ct
  split
  ·rename_i e;exact h.dI hm e (gL (by omega)) hp (by rw[e]at hy;simpa[cT]using hy)
  split
  ·rename_i e
   unfold Site.eR
   split
   ·rename_i e2
    refine((h.aX (.inr ⟨rfl,?_⟩)).less (by omega)).grow
    rw[←e2];exact hp.skip e
   ·exact(h.less (by omega)).grow
  split
  ·rename_i e;exact h.ed hm (by rw[e]at hy;simpa[cT]using hy)
  split
  ·rename_i e;exact bT hG h kQ hm e hp (by rw[e]at hy;simpa[cT]using hy)
  split
  ·rename_i e;exact h.asked hm e (gL (by omega)) hp (by rw[e]at hy;simpa[cT]using hy)
  split
  ·rename_i e;exact accepted hG h kQ hm e hp (by rw[e]at hy;simpa[cT]using hy)
  split
  ·rename_i e
   unfold Site.gr
   split
   ·exact((h.aX (hp.told e)).less (by omega)).grow
   ·exact(h.less (by omega)).grow
  split
  ·rename_i e;exact h.wanted hm (gL (by omega)) (by rw[e]at hy;simpa[cT]using hy)
  ·exact(h.less (by omega)).grow
 unfold Site.take
 split
 ·rename_i hk
  split
  ·rename_i v hv
   have:=rH m.kind
   refine(h.send (Site.j7 (bj.dP hm) (h.al.wR hv)) hm.aR (by intro e;revert e;simp[Site.bD,Ms.la]) (eX.bD (h.dec _ (bG hv)) _ _) (fun e=>absurd e (gL (by omega))) (y:=y) (by show cT 7+y≤z;simp[cT];omega)).grow
  ·exact SK
 ·exact SK
theorem ey:∀(l:List Ms)(s:Site)(R:List Rc)(z:Nat),gx G s.n P→PA G P s R z→G s.me <+:R→(∀m∈l,m.bL∧eX G s.n (G m.aR) m∧(m.aR≠(s.me:Int)∨m.kind=2∨m.kind=4∨m.kind=6))→∀y,(l.map fun m=>cT m.kind).sum+y≤z→iu G P (l.foldl Site.take s) R y
 |[],s,R,z,_,h,_,_,y,hy=>(h.less (by simpa using hy)).grow
 |m::l,s,R,z,hG,h,kQ,hl,y,hy=>by
  rw[map_cons,sum_cons]at hy
  obtain⟨h1,h2,h3⟩:=hl m (by simp)
  obtain⟨R',h4,h5⟩:=take hG h kQ h1 h2 h3 (y:=(l.map fun m=>cT m.kind).sum+y) (by omega)
  have hk:=Site.qz s m
  obtain⟨R2,h6,h7⟩:=ey l (s.take m) R' _ (by rw[hk.n];exact hG) h5 (by rw[hk.me];exact kQ.trans h4) (fun x hx=>by rw[hk.me,hk.n];exact hl x (by simp[hx])) y (Nat.le_refl _)
  exact⟨R2,h4.trans h6,h7⟩
end PA
def ix(G:Int→List Rc)(me:Int)(R:List Rc):Int→List Rc:=fun f=>if f=me then R else G f
theorem mN(G:Int→List Rc)(me:Int)(R:List Rc):ix G me R me=R:=if_pos rfl
theorem sS{G:Int→List Rc}{me:Int}{R:List Rc}(h:G me <+:R):fq G (ix G me R):=fun f=>by
 unfold ix
 split
 ·rename_i e;rw[e];exact h
 ·exact prefix_refl _
theorem gx.sync{G:Int→List Rc}{n:Nat}{P:Int→List UInt8→Prop}(h:gx G n P){me:Int}{R:List Rc}(kQ:G me <+:R)(hm:∀r∈R,r.bL)(hg:Good R)(hr:∀r∈R,r.kind=2→vV G P me n r)(h1:∀x b v u,b.s=me→has R x b v→has R x b u→v=u):gx (ix G me R) n P:=by
 have hle:=sS kQ
 have Dt:∀{x:Int}{b:Bl}{v:List UInt8},b.s=me→has (ix G me R b.s) x b v→has R x b v:=fun {x b v} e hv=>by rw[e,mN]at hv;exact hv
 have off:∀{f x:Int}{b:Bl}{v:List UInt8},f≠me→has (ix G me R f) x b v→has (G f) x b v:=fun {f x b v} e hv=>by unfold ix at hv;rwa [if_neg e]at hv
 refine⟨fun f r fP=>?_,fun f=>?_,fun f x b v hv=>?_,fun x b v u hv hu=>?_,fun x b v hv hb=>?_,fun x b v hv hb=>?_⟩
 ·unfold ix at fP
  split at fP
  ·exact hm r fP
  ·exact h.may f r fP
 ·unfold ix
  split
  ·exact hg
  ·exact h.gR f
 ·by_cases e:f=me
  ·subst e
   rw[mN]at hv
   by_cases e2:b.s=f
   ·rw[e2,mN];exact hv
   ·have:=(hr _ hv rfl).fB e2
    exact has.mono (show has (G b.s) x b v from this) (hle _)
  ·exact(h.back f x b v (off e hv)).mono (hle _)
 ·by_cases e:b.s=me
  ·exact h1 x b v u e (Dt e hv) (Dt e hu)
  ·exact h.one x b v u (off e hv) (off e hu)
 ·by_cases e:b.s=me
  ·have:=(hr _ (Dt e hv) rfl).low e hb
   rw[e];exact this
  ·exact h.low x b v (off e hv) hb
 ·by_cases e:b.s=me
  ·have:=(hr _ (Dt e hv) rfl).high e hb
   exact Choice.mono (show Choice G x b v n from this) hle
  ·exact(h.high x b v (off e hv) hb).mono hle
structure PD(G:Int→List Rc)(P:Int→List UInt8→Prop)(s:Site):Prop where
 dn:Dn s (G s.me)
 dec:∀p∈s.lv,sP G s.n p.1 p.2
 jE:∀r∈(cg s.db).1,r.kind=2→vV G P s.me s.n r
 one:∀x b v u,b.s=(s.me:Int)→has (cg s.db).1 x b v→has (cg s.db).1 x b u→v=u
theorem PD.mono{G G':Int→List Rc}{P P':Int→List UInt8→Prop}{s:Site}(h:PD G P s)(hg:fq G G')(hp:∀x v,P x v→P' x v)(he:G' s.me=G s.me):PD G' P' s:=
 ⟨by rw[he];exact h.dn,fun p hp=>(h.dec p hp).mono hg,fun r hr hk=>(h.jE r hr hk).mono hg hp,h.one⟩
namespace PA
variable {G G':Int→List Rc} {P P':Int→List UInt8→Prop} {s t:Site} {R:List Rc} {z:Nat}
theorem new(G:Int→List Rc)(P:Int→List UInt8→Prop){me n pat:Nat}(h:im me n pat=true)(hG:G me= []):PA G P (Site.new me n pat) [] 400000000:=
 ⟨by show bj _ (G me) [] _;rw[hG];exact bj.new h,by simp[Site.new],by simp[Site.new],by simp[Site.new],by simp,fun x b v u _ h=>by cases h⟩
theorem cm(h:PA G P s R z)(v:List UInt8)(hP:(s.cm v).2.2=0→P (s.cm v).2.1 v){y:Nat}(hy:20+y≤z):iu G P (s.cm v).1 R y:=by
 by_cases hv:v.length=0∨2048<v.length
 ·unfold Site.cm
  rw[if_neg (by rw[h.al.up];simp),if_pos hv]
  exact(h.less (by omega)).grow
 ·rw[Site.vY s v h.al.up (by omega) (by omega)]at hP ⊢
  have hr:=fU (s.me:Int) s.nx s.n
  have hx:=s.IV 4096 (bV s.me s.nx s.n) (by omega)
  have hfo:=s.IU 4096 (bV s.me s.nx s.n) (by omega) (fun h0=>by omega) (fun h0=>se h0)
  generalize s.free 4096 (bV s.me s.nx s.n)=x at *
  unfold Site.rK at hP ⊢
  split
  ·exact(h.less (by omega)).grow
  rename_i hx0
  rw[if_neg hx0]at hP
  split
  ·exact(h.less (by omega)).grow
  ·rename_i t ha
   rw[ha]at hP
   obtain⟨eP,hown⟩:=hfo (by omega)
   obtain⟨h2,h3,h4⟩:=h.acc (by omega) h.al.ok.own (by omega) ha (NL hown (.inr (hP rfl))) (fun _ u=>h.Fv eP _ u) h.NM
   obtain⟨e1,e2,e3,e4,e5⟩:=vW ha
   have h5:PA G P {t with nx:=(x+1).toNat,rs:=aT x (⟨s.bQ,[],true,v,[],0⟩:Rn) t.rs} (R++[(⟨2,x,s.bQ.r,s.bQ.s,v⟩:Rc)]) z:=
    (h2.jI (k:=(x+1).toNat) (by omega)).fH (r:=(⟨s.bQ,[],true,v,[],0⟩:Rn)) (by omega) ⟨by show v.length≤2048;omega,h.al.ok.own,by simp⟩ (fun _=>h3)
     ⟨by show(s.me:Int)=(t.me:Int);rw[e1],fun _=>h4,(by intro e;cases e),by simp,by simp⟩ (Nat.le_refl _) (by have:=h2.al.lim;simp;omega)
   have h6:=h5.others (m:=Site.asks ⟨s.bQ,[],true,v,[],0⟩ x) (Site.iX (by omega) h.al.ok.own (by show v.length≤2048;omega)) (by
    have e:(Site.asks ⟨s.bQ,[],true,v,[],0⟩ x).slot=x:=by unfold Site.asks;split<;>rfl
    rw[e]
    exact bj.zQ (x:=x) (t:=t.stat x) fun _=>h3) (fun tg=>eX.asks (fun _=>h4) (by show(s.me:Int)=(t.me:Int);rw[e1]) tg) (y:=8+y) (by omega)
   refine⟨_,prefix_append _ _,h6.mR (by omega) h.al.ok.own ?_ h4 h2.al.xH (Nat.le_refl _)⟩
   rw[Site.bH]
   exact h3
theorem handle(hG:gx G s.n P)(h:PA G P s R z){m:Ms}(hp:eX G s.n (G m.aR) m){y:Nat}(hy:100+y≤z):iu G P (s.handle m).1 R y:=by
 unfold Site.handle
 rw[if_neg (by rw[h.al.up];simp)]
 split
 ·exact(h.less (by omega)).grow
 rename_i hm
 split
 ·exact(h.less (by omega)).grow
 ·rename_i hc
  have hw:∀x∈s.wt.set m.aR.toNat 0,0≤x:=fun x hx=>by
   rcases mem_or_eq_of_mem_set hx with hx|rfl
   ·exact h.al.wt x hx
   ·omega
  exact take (s:={s with wt:=s.wt.set m.aR.toNat 0}) hG (h.zG hw) h.al.pre (by simpa using hm) hp (.inl fun e=>hc (.inr (.inl e))) (by have:=Qg m.kind;omega)
theorem Kr(h:PA G P s R z){y:Nat}(hy:1+y≤z):PA G P {s with rs:=cD (fun r=>{r with cV:=r.cV+1}) s.rs} R y:=
 ⟨h.al.Kr hy,h.msg,fun p hp=>by
  obtain⟨q,hq,rfl⟩:=mem_map.1 hp
  have k:=h.eY q hq
  exact⟨k.aC,k.yes,k.no,k.vt,k.pr⟩,h.dec,h.jE,h.one⟩
theorem zS:∀(l:List (Int × Rn))(s:Site)(z:Nat),PA G P s R z→(∀p∈l,((0≤p.1∧p.1<4096∧p.2.b.length≤2048∧p.2.aC.may 7=true)∧(p.2.so=true→eV (s.stat p.1) 1 p.2.aC))∧(p.2.so=true→has R p.1 p.2.aC p.2.b)∧p.2.aC.s=(s.me:Int))→∀y,6*l.length+y≤z→
  PA G P (l.foldl (fun u p=>u.others (Site.asks p.2 p.1) u.n) s) R y
 |[],s,z,h,_,y,hy=>h.less (by simpa using hy)
 |p::l,s,z,h,hl,y,hy=>by
  rw[length_cons]at hy
  obtain⟨⟨⟨h1,h2,h3,h4⟩,h5⟩,h6,h7⟩:=hl p (by simp)
  have e:(Site.asks p.2 p.1).slot=p.1:=by unfold Site.asks;split<;>rfl
  have h8:=h.others (m:=Site.asks p.2 p.1) (Site.iX ⟨h1,h2⟩ h4 h3) (by rw[e];exact bj.zQ h5) (fun tg=>eX.asks h6 h7 tg) (y:=6*l.length+y) (by omega)
  refine zS l _ _ h8 (fun q hq=>?_) y (Nat.le_refl _)
  rw[Site.bH]
  exact hl q (by simp[hq])
theorem again(h:PA G P s R z){y:Nat}(hy:49+y≤z):PA G P s.again R y:=by
 unfold Site.again
 refine zS _ _ _ (h.Kr (y:=48+y) (by omega)) (fun p hp=>?_) y (by rw[length_take];omega)
 have pN:=mem_of_mem_take hp
 have:=h.al.ok.rs p pN
 have k:=h.eY p pN
 exact⟨⟨⟨this.1,this.2.1,this.2.2.1,this.2.2.2.1⟩,h.al.cI p pN⟩,k.yes,k.aC⟩
theorem nC:∀(l:List Int)(s:Site)(R:List Rc)(z:Nat),PA G P s R z→(∀x∈l,0≤x∧x<4096)→∀y,22*l.length+y≤z→iu G P (l.foldl Site.cK s) R y
 |[],s,R,z,h,_,y,hy=>(h.less (by simpa using hy)).grow
 |x::l,s,R,z,h,hl,y,hy=>by
  rw[length_cons]at hy
  obtain⟨R',h1,h2⟩:=h.cK (hl x (by simp)) (y:=22*l.length+y) (by omega)
  obtain⟨R2,h3,h4⟩:=nC l _ R' _ h2 (fun q hq=>hl q (by simp[hq])) y (Nat.le_refl _)
  exact⟨R2,h1.trans h3,h4⟩
theorem tick(h:PA G P s R z){y:Nat}(hy:300+y≤z):iu G P s.tick R y:=by
 have h0:=h.zG (l:=cC s.me s.wt s.n) (tU _ h.al.wt _)
 have h1:PA G P s.ju R (250+y):=h0.again (by omega)
 obtain⟨R3,p3,h3⟩:iu G P s.ck R (190+y):=h1.skip _ (by omega)
 have MY:(s.ck.late s.ck.bF).length≤8:=by unfold Site.late;rw[length_take];omega
 have mQ:∀x∈s.ck.late s.ck.bF,0≤x∧x<4096:=fun x hx=>by have:=Site.sE _ hx;have:=h3.al.bF;omega
 obtain⟨R4,p4,h4⟩:iu G P s.gX R3 (6+y):=nC _ _ _ _ h3 mQ (6+y) (by omega)
 refine⟨R4,p3.trans p4,?_⟩
 rw[Site.qi _ h.al.up]
 split
 ·rename_i hf
  refine h4.others (m:=Site.dT s.gX.front (decide ((s.gX.front:Int)<s.ck.bF))) ?_ (by intro e;revert e;simp[Site.dT,Ms.la]) (fun tg=>eX.XR (.inr rfl)) (by omega)
  refine⟨by simp[Site.dT],by simp,by simp,by simp[Site.dT];omega,by simp[Site.dT],by simp[Site.dT],by simp[Site.dT],by simp[Site.dT],by simp[Site.dT],by simp[Site.dT]⟩
 ·exact h4.less (by omega)
theorem sync(hG:gx G s.n P)(h:PA G P s R z):gx (ix G s.me R) s.n P∧iu (ix G s.me R) P s.sync.1 R z∧∀m∈s.sync.2,m.bL∧m.aR=(s.me:Int)∧m.to≠(s.me:Int)∧eX (ix G s.me R) s.n (ix G s.me R m.aR) m:=by
 have hle:=sS h.al.pre
 have zu:=hG.sync h.al.pre h.al.may h.al.gR h.jE h.one
 have XT:bj {s with dn:=s.db.length,held:=[]} R R (gD s.me s.held+z):=by
  have hx:=h.al
  refine⟨hx.ok.put (l:=[]) (by simp) |>.cZ s.db s.db.length,hx.up,hx.may,hx.db,hx.gR,prefix_refl _,by show s.db.length=_;rw[hx.db],hx.st,by simp,hx.cI,by have:=hx.lim;simp[gD];simp[gD]at this;omega,fun p hp=>?_,hx.wt,hx.lv⟩
  have:=hx.kn p hp
  show _+gD s.me []+_≤_
  rw[IJ]
  omega
 have h1:PA (ix G s.me R) P {s with dn:=s.db.length,held:=[]} R (gD s.me s.held+z):=
  ⟨by show bj _ (ix G s.me R s.me) R _;rw[mN];exact XT,by simp,fun p hp=>(h.eY p hp).mono hle,fun p hp=>(h.dec p hp).mono hle,fun r hr hk=>(h.jE r hr hk).mono hle (fun _ _ h=>h),h.one⟩
 have XU:∀m∈s.held,eX (ix G s.me R) s.n (ix G s.me R m.aR) m:=fun m hm=>by
  obtain⟨e1,e2,-⟩:=h.msg m hm
  rw[e1,mN]
  exact e2.mono hle (prefix_refl _)
 have h2:=ey (s.held.filter fun m=>decide (m.to=(s.me:Int))) {s with dn:=s.db.length,held:=[]} R _ zu h1 (by show ix G s.me R s.me <+:R;rw[mN];exact prefix_refl _) (fun m hm=>by
  obtain⟨h3,h4⟩:=mem_filter.1 hm
  exact⟨h.al.ok.held m h3,XU m h3,.inr ((h.msg m h3).2.2 (of_decide_eq_true h4))⟩) z (by have:=IL s.me s.held;omega)
 refine⟨zu,?_,fun m hm=>?_⟩
 ·unfold Site.sync
  rw[if_neg (by rw[h.al.up];simp)]
  exact h2
 ·unfold Site.sync at hm
  rw[if_neg (by rw[h.al.up];simp)]at hm
  obtain⟨h3,h4⟩:=mem_filter.1 hm
  exact⟨h.al.ok.held m h3,(h.msg m h3).1,of_decide_eq_true h4,XU m h3⟩
theorem dB(h:PA G P s R z)(k:Int):PD G P (s.dB k):=by
 have hd:=h.al.dB k
 have hk:=h.al
 have qJ:=tQ hk.pre
 have hle:(bX (G s.me)).length≤s.kept k∧s.kept k≤(bX R).length:=by
  unfold Site.kept
  rw[hk.dn,hk.db]
  omega
 obtain⟨m,h1,h2,-⟩:=tR hk.may (s.kept k) hle.2
 have e:(cg (s.dB k).db).1=R.take m:=by
  unfold Site.dB
  rw[if_neg (by rw[hk.up];simp)]
  show(cg (s.db.take (s.kept k))).1=_
  rw[hk.db,h2]
 have kQ:∀{r:Rc},r∈(cg (s.dB k).db).1→r∈R:=fun {r} hr=>by rw[e]at hr;exact mem_of_mem_take hr
 have vB:(s.dB k).me=s.me∧(s.dB k).n=s.n∧(s.dB k).lv=s.lv:=by
  unfold Site.dB
  rw[if_neg (by rw[hk.up];simp)]
  exact⟨rfl,rfl,rfl⟩
 refine⟨by rw[vB.1];exact hd,fun p hp=>?_,fun r hr hk2=>?_,fun x b v u hb hv hu=>?_⟩
 ·rw[vB.2.2]at hp;rw[vB.2.1];exact h.dec p hp
 ·rw[vB.1,vB.2.1];exact h.jE r (kQ hr) hk2
 ·rw[vB.1]at hb
  exact h.one x b v u hb (kQ hv) (kQ hu)
end PA
theorem PD.bC{G:Int→List Rc}{P:Int→List UInt8→Prop}{s:Site}(hG:gx G s.n P)(h:PD G P s):gx (ix G s.me (cg s.db).1) s.n P∧PA (ix G s.me (cg s.db).1) P s.bC (cg s.db).1 400000000∧fq G (ix G s.me (cg s.db).1)∧s.bC.me=s.me∧s.bC.n=s.n:=by
 have hle:=sS h.dn.pre
 obtain⟨k1,k2,k3⟩:=oB s.db
 have zu:=hG.sync h.dn.pre k3 h.dn.gR h.jE h.one
 have h0:({Site.new s.me s.n s.pat with db:=s.db.take (cg s.db).2,dn:=min s.dn (cg s.db).2} :Site).Ok:=(Go.Proofs.YtijhlbeipglieaaGreat.Site.zv h.dn.ok.im).cZ _ _
 have h1:=tO (cg s.db).1 [] _ h0 k3 (fun x=>rfl)
 rw[nil_append]at h1
 have hd:min s.dn (cg s.db).2=(s.db.take (cg s.db).2).length:=by rw[h.dn.dn,length_take];omega
 have e:s.bC=(cg s.db).1.foldl Site.eh {Site.new s.me s.n s.pat with db:=s.db.take (cg s.db).2,dn:=min s.dn (cg s.db).2}:=by
  unfold Site.bC
  rw[if_pos h.dn.down]
 have ca:s.bC.me=s.me:=by rw[e,h1.me];rfl
 have hn:s.bC.n=s.n:=by rw[e,h1.n];rfl
 have XT:bj s.bC (cg s.db).1 (cg s.db).1 400000000:=by
  rw[e]
  refine⟨h1.ok,h1.down,k3,by rw[h1.db];exact k2.symm,h.dn.gR,prefix_refl _,?_,h1.st,?_,?_,?_,?_,?_,?_⟩
  ·rw[h1.dn,k2];exact hd
  ·rw[h1.held];intro m hm;cases hm
  ·rw[h1.rs];intro p hp;cases hp
  ·rw[h1.held];simp[Site.new,gD]
  ·rw[h1.rs];intro p hp;cases hp
  ·rw[h1.wt];exact NQ s.me s.n s.pat
  ·rw[h1.lv];intro p hp;cases hp
 refine⟨zu,⟨by rw[ca,mN];exact XT,?_,?_,?_,fun r hr hk=>?_,fun x b v u hb=>?_⟩,hle,ca,hn⟩
 ·rw[e,h1.held];intro m hm;cases hm
 ·rw[e,h1.rs];intro p hp;cases hp
 ·rw[e,h1.lv];intro p hp;cases hp
 ·rw[ca,hn];exact(h.jE r hr hk).mono hle (fun _ _ h=>h)
 ·rw[ca]at hb;exact h.one x b v u hb
