/- Merged: PlainPax, PlainPax2, PlainPax3, PlainPax4. -/
import Derived.Test.YtijhlbeipglieaaGreatPkUp
set_option linter.all false
namespace Agio
open Go Go.Proofs.YtijhlbeipglieaaGreat
theorem nodup_len:∀(n:Nat) (l:List Int),l.Nodup→(∀x∈l,0≤x∧x < (n:Int))→l.length≤n
 | 0,[],_,_=>Nat.le_refl _
 | 0,x :: l,_,h=>by have:=h x (by simp);omega
 | n + 1,l,hn,h=>by
  have h1:=nodup_len n (l.filter fun x=>decide (x≠(n:Int))) (hn.sublist List.filter_sublist) (fun x hx=>by
   have h2:=List.mem_filter.1 hx
   have h3:=h x h2.1
   have h4:=of_decide_eq_true h2.2
   omega)
  have h2:∀l:List Int,l.Nodup→l.length≤(l.filter fun x=>decide (x≠(n:Int))).length + 1:=by
   intro l
   induction l with
   | nil=>simp
   | cons y l ih=>
    intro hn
    rw [List.nodup_cons] at hn
    by_cases e:y=(n:Int)
    ·have h3:l.filter (fun x=>decide (x≠(n:Int)))=l:=List.filter_eq_self.2 fun x hx=>by
      simp only [decide_eq_true_eq]
      rintro rfl
      exact hn.1 (by rw [e];exact hx)
     rw [List.filter_cons]
     simp only [e,ne_eq,not_true_eq_false,decide_false,Bool.false_eq_true,if_false,List.length_cons]
     simp only [ne_eq] at h3
     rw [h3]
     omega
    ·have:=ih hn.2
     rw [List.filter_cons]
     simp only [e,ne_eq,not_false_eq_true,decide_true,if_true,List.length_cons] at this ⊢
     omega
  have:=h2 l hn
  omega
theorem voters_mem {l:List Int} {n x:Int} (h:x∈(voters l n).map Prod.fst):x∈l∧isSite x n=true:=by
 obtain ⟨p,hp,rfl⟩:=List.mem_map.1 h
 have h1:(lookK p.1 (voters l n)).isSome=true:=by
  cases e:lookK p.1 (voters l n) with
  | some _=>rfl
  | none=>exact absurd rfl (lookK_none.1 e p hp)
 rw [voters_look,Bool.and_eq_true,decide_eq_true_eq] at h1
 exact h1
theorem most_meet {fs gs:List Int} {n:Nat} (hf:mostI fs n=true) (hg:mostI gs n=true):∃f,f∈fs∧f∈gs∧isSite f n=true:=by
 unfold mostI at hf hg
 split at hf
 ·cases hf
 rename_i hn
 rw [if_neg hn,decide_eq_true_eq] at hg
 rw [decide_eq_true_eq] at hf
 unfold majorI at hf hg
 rw [if_neg hn] at hf hg
 have hA:=voters_nodup fs (n:Int)
 have hB:=voters_nodup gs (n:Int)
 have key:∃x,x∈(voters fs n).map Prod.fst∧x∈(voters gs n).map Prod.fst:=by
  refine Classical.byContradiction fun hno=>?_
  have h1:((voters fs n).map Prod.fst ++ (voters gs n).map Prod.fst).Nodup:=by
   rw [List.nodup_append]
   exact ⟨hA,hB,fun a ha b hb e=>hno ⟨a,ha,by rw [e];exact hb⟩⟩
  have h2:=nodup_len n _ h1 (fun x hx=>by
   have:isSite x n=true:=by
    rcases List.mem_append.1 hx with hx | hx
    ·exact (voters_mem hx).2
    ·exact (voters_mem hx).2
   unfold isSite at this
   simpa using this)
  rw [List.length_append,List.length_map,List.length_map] at h2
  omega
 obtain ⟨x,h1,h2⟩:=key
 exact ⟨x,(voters_mem h1).1,(voters_mem h2).1,(voters_mem h1).2⟩
def has (l:List Rc) (x:Int) (b:Bl) (v:List UInt8):Prop:=(⟨2,x,b.r,b.s,v⟩:Rc)∈l
def Prom (l:List Rc) (x:Int) (b:Bl) (so:Bool) (a:Bl) (v:List UInt8):Prop:=
 ∃l1 l2,l=l1 ++ (⟨1,x,b.r,b.s,[]⟩:Rc) :: l2∧(stOf l1 x).so=so∧(stOf l1 x).at_=a∧(stOf l1 x).b=v
theorem has.mono {l m:List Rc} {x:Int} {b:Bl} {v:List UInt8} (h:has l x b v) (hp:l <+:m):has m x b v:=by obtain ⟨k,rfl⟩:=hp;exact List.mem_append.2 (.inl h)
theorem Prom.mono {l m:List Rc} {x:Int} {b a:Bl} {so:Bool} {v:List UInt8} (h:Prom l x b so a v) (hp:l <+:m):Prom m x b so a v:=by
 obtain ⟨k,rfl⟩:=hp
 obtain ⟨l1,l2,rfl,h1⟩:=h
 exact ⟨l1,l2 ++ k,by simp,h1⟩
theorem stOf_has (l:List Rc) (hg:∀r∈l,r.kind=1∨r.kind=2) (x:Int):(stOf l x).so=true→has l x (stOf l x).at_ (stOf l x).b:=by
 refine snoc_ind (P:=fun l=>(∀r∈l,r.kind=1∨r.kind=2)→(stOf l x).so=true→has l x (stOf l x).at_ (stOf l x).b) (fun _ h=>by cases h) (fun l r ih hg h=>?_) l hg
 have ih:=ih (fun q hq=>hg q (List.mem_append.2 (.inl hq)))
 rw [stOf_snoc] at h ⊢
 have old:∀{b:Bl} {v:List UInt8},has l x b v→has (l ++ [r]) x b v:=fun h=>h.mono (List.prefix_append _ _)
 split at h
 ·rename_i e
  rw [if_pos e]
  unfold upd1 at h ⊢
  split at h
  ·rename_i hk
   rw [if_pos hk]
   exact old (ih h)
  rename_i hk
  split at h
  ·rename_i hc
   rw [if_neg hk,if_pos hc]
   exact old (ih h)
  ·rename_i hc
   rw [if_neg hk,if_neg hc]
   have hk2:=(hg r (by simp)).resolve_left hk
   refine List.mem_append.2 (.inr (List.mem_singleton.2 ?_))
   cases r
   simp only [Rc.bal] at *
   subst hk2 e
   rfl
 ·rename_i e
  rw [if_neg e]
  exact old (ih h)
theorem Good.at_of_has {l:List Rc} (h:Good l) {x:Int} {b:Bl} {v:List UInt8} (hm:has l x b v):(stOf l x).so=true∧¬ (stOf l x).at_.lt b∧¬ (stOf l x).p.lt b:=by
 obtain ⟨l1,l2,e⟩:=List.append_of_mem hm
 have e2:l=(l1 ++ [(⟨2,x,b.r,b.s,v⟩:Rc)]) ++ l2:=by rw [e];simp
 have h1:Good (l1 ++ [(⟨2,x,b.r,b.s,v⟩:Rc)]):=by rw [e2] at h;exact h.pre
 have h2:=h1.last
 have h3:stOf (l1 ++ [(⟨2,x,b.r,b.s,v⟩:Rc)]) x=⟨b,true,b,v⟩:=by
  rw [stOf_snoc,if_pos rfl]
  unfold upd1
  rw [if_neg (by simp),if_neg (fun e=>h2 ((cmpB_lt _ _).1 e))]
  rfl
 have h4:=Good.le l2 _ (e2▸h) x
 rw [←e2,h3] at h4
 exact ⟨(h4.so rfl).1,(h4.so rfl).2,h4.p⟩
theorem Good.prom {l:List Rc} (h:Good l) {x:Int} {b a:Bl} {so:Bool} {v:List UInt8} (hp:Prom l x b so a v) {c:Bl} {u:List UInt8} (hm:has l x c u) (hc:c.lt b):so=true∧¬ a.lt c:=by
 obtain ⟨l1,l2,e,h1,h2,h3⟩:=hp
 have hl1:Good l1:=by rw [e] at h;exact h.pre
 have hin:has l1 x c u:=by
  unfold has at hm
  rw [e] at hm
  rcases List.mem_append.1 hm with hm | hm
  ·exact hm
  rcases List.mem_cons.1 hm with hm | hm
  ·injection hm with hk;cases hk
  ·exfalso
   obtain ⟨l3,l4,e2⟩:=List.append_of_mem hm
   have e3:l=(l1 ++ (⟨1,x,b.r,b.s,[]⟩:Rc) :: l3) ++ (⟨2,x,c.r,c.s,u⟩:Rc) :: l4:=by rw [e,e2];simp
   have h4:=(h _ _ _ e3).1
   have e4:l1 ++ (⟨1,x,b.r,b.s,[]⟩:Rc) :: l3=(l1 ++ [(⟨1,x,b.r,b.s,[]⟩:Rc)]) ++ l3:=by simp
   have h5:Good ((l1 ++ [(⟨1,x,b.r,b.s,[]⟩:Rc)]) ++ l3):=by rw [←e4];rw [e3] at h;exact h.pre
   have h6:=(Good.le l3 _ h5 x).p
   rw [stOf_snoc,if_pos rfl] at h6
   have h7:(upd1 (stOf l1 x) (⟨1,x,b.r,b.s,[]⟩:Rc)).p=b:=by unfold upd1;rw [if_pos rfl];rfl
   rw [h7] at h6
   rw [e4] at h4
   exact (Bl.le_trans h6 h4) hc
 obtain ⟨k1,k2,-⟩:=hl1.at_of_has hin
 rw [h1] at k1
 rw [h2] at k2
 exact ⟨k1,k2⟩
theorem bestP_max (n:Int) (l:List Pm):(∀p∈l,p.so=true→isSite p.f n=true→∃q,bestP n l=some q∧¬ q.at_.lt p.at_)∧∀q,bestP n l=some q→q∈l∧q.so=true∧isSite q.f n=true:=by
 refine snoc_ind (P:=fun l=>(∀p∈l,p.so=true→isSite p.f n=true→∃q,bestP n l=some q∧¬ q.at_.lt p.at_)∧∀q,bestP n l=some q→q∈l∧q.so=true∧isSite q.f n=true) ⟨by simp,fun q h=>by cases h⟩ (fun l x ih=>?_) l
 have e1:bestP n (l ++ [x])=(if x.so && isSite x.f n && (match bestP n l with | none=>true | some q=>decide (0 < cmpB x.at_ q.at_)) then some x else bestP n l):=by
  unfold bestP;rw [List.foldl_append];rfl
 obtain ⟨i1,i2⟩:=ih
 cases hb:bestP n l with
 | none=>
  rw [hb] at e1
  simp only [Bool.and_true] at e1
  by_cases hc:(x.so && isSite x.f n)=true
  ·rw [if_pos hc] at e1
   rw [e1]
   refine ⟨fun p hp h1 h2=>?_,fun q hq=>?_⟩
   ·rcases List.mem_append.1 hp with hp | hp
    ·obtain ⟨q,h3,-⟩:=i1 p hp h1 h2
     rw [hb] at h3;cases h3
    ·rw [List.mem_singleton] at hp;subst hp;exact ⟨_,rfl,Bl.lt_irrefl _⟩
   ·injection hq with hq;subst hq
    rw [Bool.and_eq_true] at hc
    exact ⟨by simp,hc⟩
  ·rw [if_neg hc] at e1
   rw [e1]
   refine ⟨fun p hp h1 h2=>?_,fun q hq=>by cases hq⟩
   rcases List.mem_append.1 hp with hp | hp
   ·obtain ⟨q,h3,-⟩:=i1 p hp h1 h2
    rw [hb] at h3;cases h3
   ·rw [List.mem_singleton] at hp;subst hp;exact absurd (by rw [h1,h2];rfl) hc
 | some y=>
  rw [hb] at e1
  obtain ⟨j1,j2,j3⟩:=i2 y hb
  simp only at e1
  by_cases hc:(x.so && isSite x.f n && decide (0 < cmpB x.at_ y.at_))=true
  ·rw [if_pos hc] at e1
   rw [e1]
   simp only [Bool.and_eq_true,decide_eq_true_eq] at hc
   have hgt:=(cmpB_gt _ _).1 hc.2
   refine ⟨fun p hp h1 h2=>⟨_,rfl,?_⟩,fun q hq=>?_⟩
   ·rcases List.mem_append.1 hp with hp | hp
    ·obtain ⟨q,h3,h4⟩:=i1 p hp h1 h2
     rw [hb] at h3
     injection h3 with h3
     subst h3
     exact Bl.le_trans h4 (Bl.le_of_lt hgt)
    ·rw [List.mem_singleton] at hp;subst hp;exact Bl.lt_irrefl _
   ·injection hq with hq;subst hq
    exact ⟨by simp,hc.1⟩
  ·rw [if_neg hc] at e1
   rw [e1]
   refine ⟨fun p hp h1 h2=>⟨_,rfl,?_⟩,fun q hq=>?_⟩
   ·rcases List.mem_append.1 hp with hp | hp
    ·obtain ⟨q,h3,h4⟩:=i1 p hp h1 h2
     rw [hb] at h3
     injection h3 with h3
     subst h3
     exact h4
    ·rw [List.mem_singleton] at hp;subst hp
     intro hlt
     exact hc (by rw [h1,h2];simpa using (cmpB_gt _ _).2 hlt)
   ·injection hq with hq;subst hq
    exact ⟨List.mem_append.2 (.inl j1),j2,j3⟩
def Choice (G:Int→List Rc) (x:Int) (b:Bl) (v:List UInt8) (n:Nat):Prop:=
 ∃prs:List Pm,chooseP prs n=some v∧∀q∈prs,Prom (G q.f) x b q.so q.at_ q.b∧(q.so=true→q.at_.lt b)
structure Glob (G:Int→List Rc) (n:Nat) (P:Int→List UInt8→Prop):Prop where
 may:∀f,∀r∈G f,r.May
 good:∀f,Good (G f)
 back:∀f x b v,has (G f) x b v→has (G b.s) x b v
 one:∀x b v u,has (G b.s) x b v→has (G b.s) x b u→v=u
 low:∀x b v,has (G b.s) x b v→b.r=0→ownerI x n=b.s∧(v= []∨P x v)
 high:∀x b v,has (G b.s) x b v→1≤b.r→Choice G x b v n
def Dec (G:Int→List Rc) (n:Nat) (x:Int) (v:List UInt8):Prop:=
 (∃b fs,mostI fs n=true∧∀f∈fs,has (G f) x b v)∨(v= []∧has (G (ownerI x n)) x ⟨0,ownerI x n⟩ [])
theorem Rc.May.kind12 {r:Rc} (h:r.May):r.kind=1∨r.kind=2:=h.kind.imp (fun h=>h.1) id
namespace Glob
variable {G:Int→List Rc} {n:Nat} {P:Int→List UInt8→Prop}
theorem rnd (h:Glob G n P) {f x:Int} {b:Bl} {v:List UInt8} (hv:has (G f) x b v):0≤b.r∧0≤b.s∧b.s≤6:=by
 have h1:0≤b.r∧b.r≤1099511627776:=(h.may f _ hv).round
 have h2:0≤b.s∧b.s≤6:=(h.may f _ hv).site
 omega
theorem src (h:Glob G n P) {f x:Int} {b:Bl} {so:Bool} {a:Bl} {v:List UInt8} (hp:Prom (G f) x b so a v) (hs:so=true):has (G a.s) x a v:=by
 obtain ⟨l1,l2,e,h1,h2,h3⟩:=hp
 have hm:∀r∈l1,r.kind=1∨r.kind=2:=fun r hr=>(h.may f r (by rw [e];exact List.mem_append.2 (.inl hr))).kind12
 have h4:=stOf_has l1 hm x (by rw [h1];exact hs)
 rw [h2,h3] at h4
 exact h.back f x a v (h4.mono (by rw [e];exact List.prefix_append _ _))
theorem choice_cases (h:Glob G n P) {x:Int} {b:Bl} {v:List UInt8} (hc:Choice G x b v n):(v= []∧∃prs,chooseP prs n=some v∧(∀q∈prs,Prom (G q.f) x b q.so q.at_ q.b∧(q.so=true→q.at_.lt b))∧bestP n prs=none)∨
  ∃prs q,chooseP prs n=some v∧(∀q∈prs,Prom (G q.f) x b q.so q.at_ q.b∧(q.so=true→q.at_.lt b))∧bestP n prs=some q∧v=q.b∧q.at_.lt b∧has (G q.at_.s) x q.at_ v:=by
 obtain ⟨prs,h1,h2⟩:=hc
 have h1':=h1
 unfold chooseP at h1
 split at h1
 ·injection h1 with h1
  cases hb:bestP n prs with
  | none=>rw [hb] at h1;exact .inl ⟨h1.symm,prs,h1',h2,hb⟩
  | some q=>
   rw [hb] at h1
   have hq:=(bestP_max n prs).2 q hb
   have h3:=h2 q hq.1
   have hv:v=q.b:=h1.symm
   refine .inr ⟨prs,q,h1',h2,hb,hv,h3.2 hq.2.1,?_⟩
   rw [hv]
   exact h.src h3.1 hq.2.1
 ·cases h1
theorem lt_wf {a b:Bl} (ha:0≤a.r∧0≤a.s∧a.s≤6) (hb:0≤b.r∧0≤b.s∧b.s≤6) (h:a.lt b):a.r.toNat * 8 + a.s.toNat < b.r.toNat * 8 + b.s.toNat:=by
 unfold Bl.lt at h;omega
theorem chosen (h:Glob G n P) {x:Int} {c:Bl} {u:List UInt8} {fs:List Int} (hm:mostI fs n=true) (hf:∀f∈fs,has (G f) x c u):∀(k:Nat) (b:Bl) (v:List UInt8),b.r.toNat * 8 + b.s.toNat < k→has (G b.s) x b v→c.lt b→v=u
 | 0,_,_,hk,_,_=>by omega
 | k + 1,b,v,hk,hv,hlt=>by
  obtain ⟨f0,hf0,-,-⟩:=most_meet hm hm
  have hcr:=h.rnd (hf f0 hf0)
  have hbr:=h.rnd hv
  by_cases hr:1≤b.r
  ·have key:∀prs:List Pm,chooseP prs n=some v→(∀q∈prs,Prom (G q.f) x b q.so q.at_ q.b∧(q.so=true→q.at_.lt b))→∃p,p∈prs∧p.so=true∧isSite p.f n=true∧¬ p.at_.lt c:=by
    intro prs h1 h2
    have hmp:mostI (prs.map Pm.f) n=true:=by
     unfold chooseP at h1
     split at h1
     ·assumption
     ·cases h1
    obtain ⟨f,hf1,hf2,hf3⟩:=most_meet hm hmp
    obtain ⟨p,hp,rfl⟩:=List.mem_map.1 hf2
    have h3:=(h.good p.f).prom (h2 p hp).1 (hf _ hf1) hlt
    exact ⟨p,hp,h3.1,hf3,h3.2⟩
   rcases h.choice_cases (h.high x b v hv hr) with ⟨-,prs,h1,h2,hb⟩ | ⟨prs,q,h1,h2,hb,-,hqb,hq⟩
   ·obtain ⟨p,hp,hs,hi,-⟩:=key prs h1 h2
    obtain ⟨q,hq,-⟩:=(bestP_max n prs).1 p hp hs hi
    rw [hb] at hq;cases hq
   ·obtain ⟨p,hp,hs,hi,hpc⟩:=key prs h1 h2
    obtain ⟨q',hq',hpq⟩:=(bestP_max n prs).1 p hp hs hi
    rw [hb] at hq'
    injection hq' with hq'
    subst hq'
    have hcq:¬ q.at_.lt c:=Bl.le_trans hpc hpq
    have hqr:=h.rnd hq
    by_cases e:q.at_=c
    ·rw [e] at hq
     exact h.one x c v u hq (h.back _ _ _ _ (hf f0 hf0))
    ·have hlt2:c.lt q.at_:=by
      obtain ⟨cr,cs⟩:=c
      have e':¬ (q.at_.r=cr∧q.at_.s=cs):=fun ⟨e1,e2⟩=>e (by cases hh:q.at_;rw [hh] at e1 e2;simp only at e1 e2;rw [e1,e2])
      unfold Bl.lt at hcq ⊢
      simp only at hcq e' ⊢
      omega
     have:=lt_wf hqr hbr hqb
     exact chosen h hm hf k q.at_ v (by omega) hq hlt2
  ·exfalso
   have h1:=h.low x b v hv (by omega)
   have h2:c.r=0:=by unfold Bl.lt at hlt;omega
   have h3:=h.low x c u (h.back _ _ _ _ (hf f0 hf0)) h2
   unfold Bl.lt at hlt
   omega
theorem skipped (h:Glob G n P) {x:Int} (ho:has (G (ownerI x n)) x ⟨0,ownerI x n⟩ []):∀(k:Nat) (b:Bl) (v:List UInt8),b.r.toNat * 8 + b.s.toNat < k→has (G b.s) x b v→v= []
 | 0,_,_,hk,_=>by omega
 | k + 1,b,v,hk,hv=>by
  have hbr:=h.rnd hv
  by_cases hr:1≤b.r
  ·rcases h.choice_cases (h.high x b v hv hr) with ⟨e,-⟩ | ⟨prs,q,-,-,-,-,hqb,hq⟩
   ·exact e
   ·have:=lt_wf (h.rnd hq) hbr hqb
    exact skipped h ho k q.at_ v (by omega) hq
  ·have h1:=h.low x b v hv (by omega)
   have hb:b=⟨0,ownerI x n⟩:=by
    obtain ⟨br,bs⟩:=b
    simp only at h1 hr hbr
    rw [h1.1,show br=0 by omega]
   rw [hb] at hv
   exact h.one x ⟨0,ownerI x n⟩ v [] hv ho
theorem agree (h:Glob G n P) {x:Int} {v u:List UInt8} (hv:Dec G n x v) (hu:Dec G n x u):v=u:=by
 have sm:∀{v u:List UInt8} {b:Bl} {fs:List Int},(v= []∧has (G (ownerI x n)) x ⟨0,ownerI x n⟩ [])→mostI fs n=true→(∀f∈fs,has (G f) x b u)→v=u:=by
  intro v u b fs h1 h2 h3
  obtain ⟨f0,hf0,-,-⟩:=most_meet h2 h2
  rw [h1.1,h.skipped h1.2 _ b u (Nat.lt_succ_self _) (h.back _ _ _ _ (h3 f0 hf0))]
 rcases hv with ⟨b,fs,h1,h2⟩ | hv <;> rcases hu with ⟨c,gs,h3,h4⟩ | hu
 ·obtain ⟨f0,hf0,hg0,-⟩:=most_meet h1 h3
  have k1:=h.back _ _ _ _ (h2 f0 hf0)
  have k2:=h.back _ _ _ _ (h4 f0 hg0)
  by_cases e1:b.lt c
  ·exact (h.chosen h1 h2 _ c u (Nat.lt_succ_self _) k2 e1).symm
  by_cases e2:c.lt b
  ·exact h.chosen h3 h4 _ b v (Nat.lt_succ_self _) k1 e2
  have e3:b=c:=by
   obtain ⟨br,bs⟩:=b
   obtain ⟨cr,cs⟩:=c
   unfold Bl.lt at e1 e2
   simp only at e1 e2
   rw [Bl.mk.injEq];omega
  subst e3
  exact h.one x b v u k1 k2
 ·exact (sm hu h1 h2).symm
 ·exact sm hv h3 h4
 ·rw [hv.1,hu.1]
theorem valid (h:Glob G n P) {x:Int} :∀(k:Nat) (b:Bl) (v:List UInt8),b.r.toNat * 8 + b.s.toNat < k→has (G b.s) x b v→v= []∨P x v
 | 0,_,_,hk,_=>by omega
 | k + 1,b,v,hk,hv=>by
  have hbr:=h.rnd hv
  by_cases hr:1≤b.r
  ·rcases h.choice_cases (h.high x b v hv hr) with ⟨e,-⟩ | ⟨prs,q,-,-,-,-,hqb,hq⟩
   ·exact .inl e
   ·have:=lt_wf (h.rnd hq) hbr hqb
    exact valid h k q.at_ v (by omega) hq
  ·exact (h.low x b v hv (by omega)).2
theorem dec_valid (h:Glob G n P) {x:Int} {v:List UInt8} (hv:Dec G n x v):v= []∨P x v:=by
 rcases hv with ⟨b,fs,h1,h2⟩ | hv
 ·obtain ⟨f0,hf0,-,-⟩:=most_meet h1 h1
  exact h.valid _ b v (Nat.lt_succ_self _) (h.back _ _ _ _ (h2 f0 hf0))
 ·exact .inl hv.1
end Glob
end Agio
namespace Agio
open Go Go.Proofs.YtijhlbeipglieaaGreat
structure MsgP (G:Int→List Rc) (n:Nat) (L:List Rc) (m:Ms):Prop where
 val:m.kind=1∨m.kind=5→has L m.slot m.bal m.val∧m.bal.s=m.frm
 skip:m.kind=2→has L m.slot ⟨0,m.frm⟩ []
 prom:m.kind=4→Prom L m.slot m.bal m.some_ m.had m.val
 vote:m.kind=6→∃v,has L m.slot m.bal v
 told:m.kind=7→Dec G n m.slot m.val
structure RndP (G:Int→List Rc) (me:Int) (R:List Rc) (x:Int) (r:Rn):Prop where
 bal:r.bal.s=me
 yes:r.so=true→has R x r.bal r.b
 no:r.so=false→(∀v,¬ has R x r.bal v)∧1≤r.bal.r
 vt:∀v∈r.vt,v.2=r.bal→∃u,has (G v.1) x r.bal u
 pr:∀q∈r.pr,Prom (G q.f) x r.bal q.so q.at_ q.b
structure RecP (G:Int→List Rc) (P:Int→List UInt8→Prop) (me:Int) (n:Nat) (r:Rc):Prop where
 low:r.site=me→r.round=0→ownerI r.slot n=me∧(r.val= []∨P r.slot r.val)
 high:r.site=me→1≤r.round→Choice G r.slot r.bal r.val n
 far:r.site≠me→has (G r.site) r.slot r.bal r.val
def GLe (G G':Int→List Rc):Prop:=∀f,G f <+:G' f
section
variable {G G':Int→List Rc} {P P':Int→List UInt8→Prop} {n:Nat} {L L' R R':List Rc}
theorem GLe.refl (G:Int→List Rc):GLe G G:=fun _=>List.prefix_refl _
theorem Dec.mono {x:Int} {v:List UInt8} (h:Dec G n x v) (hg:GLe G G'):Dec G' n x v:=
 h.imp (fun ⟨b,fs,h1,h2⟩=>⟨b,fs,h1,fun f hf=>(h2 f hf).mono (hg f)⟩) (fun ⟨h1,h2⟩=>⟨h1,h2.mono (hg _)⟩)
theorem Choice.mono {x:Int} {b:Bl} {v:List UInt8} (h:Choice G x b v n) (hg:GLe G G'):Choice G' x b v n:=by
 obtain ⟨prs,h1,h2⟩:=h
 exact ⟨prs,h1,fun q hq=>⟨(h2 q hq).1.mono (hg _),(h2 q hq).2⟩⟩
theorem MsgP.mono {m:Ms} (h:MsgP G n L m) (hg:GLe G G') (hl:L <+:L'):MsgP G' n L' m:=
 ⟨fun e=>⟨(h.val e).1.mono hl,(h.val e).2⟩,fun e=>(h.skip e).mono hl,fun e=>(h.prom e).mono hl,fun e=>(h.vote e).imp fun _ hv=>hv.mono hl,fun e=>(h.told e).mono hg⟩
theorem RecP.mono {me:Int} {r:Rc} (h:RecP G P me n r) (hg:GLe G G') (hp:∀x v,P x v→P' x v):RecP G' P' me n r:=
 ⟨fun e1 e2=>⟨(h.low e1 e2).1,(h.low e1 e2).2.imp id (hp _ _)⟩,fun e1 e2=>(h.high e1 e2).mono hg,fun e=>(h.far e).mono (hg _)⟩
theorem RndP.mono {me x:Int} {r:Rn} (h:RndP G me R x r) (hg:GLe G G'):RndP G' me R x r:=
 ⟨h.bal,h.yes,h.no,fun v hv e=>(h.vt v hv e).imp fun _ hu=>hu.mono (hg _),fun q hq=>(h.pr q hq).mono (hg _)⟩
end
structure PA (G:Int→List Rc) (P:Int→List UInt8→Prop) (s:Site) (R:List Rc) (z:Nat):Prop where
 al:Alive s (G s.me) R z
 msg:∀m∈s.held,m.frm=(s.me:Int)∧MsgP G s.n R m∧(m.to=(s.me:Int)→m.kind=2∨m.kind=4∨m.kind=6)
 rnd:∀p∈s.rs,RndP G s.me R p.1 p.2
 dec:∀p∈s.lv,Dec G s.n p.1 p.2
 recs:∀r∈R,r.kind=2→RecP G P s.me s.n r
 one:∀x b v u,b.s=(s.me:Int)→has R x b v→has R x b u→v=u
namespace PA
variable {G G':Int→List Rc} {P P':Int→List UInt8→Prop} {s t:Site} {R:List Rc} {z:Nat}
theorem less (h:PA G P s R z) {y:Nat} (hy:y≤z):PA G P s R y:=⟨h.al.less hy,h.msg,h.rnd,h.dec,h.recs,h.one⟩
theorem mono (h:PA G P s R z) (hg:GLe G G') (hp:∀x v,P x v→P' x v) (he:G' s.me=G s.me):PA G' P' s R z:=
 ⟨by rw [he];exact h.al,fun m hm=>⟨(h.msg m hm).1,(h.msg m hm).2.1.mono hg (List.prefix_refl _),(h.msg m hm).2.2⟩,fun p hp=>(h.rnd p hp).mono hg,fun p hp=>(h.dec p hp).mono hg,fun r hr hk=>(h.recs r hr hk).mono hg hp,h.one⟩
theorem send (h:PA G P s R z) {m:Ms} (hf:m.Fit) {tg:Int} (ht:0≤tg∧tg≤6) (hk:keptM (s.stat m.slot) m) (hm:MsgP G s.n R (Ms.mk m.kind (s.me:Int) tg m.slot m.bround m.bsite m.hround m.hsite m.some_ m.val)) (ho:tg=(s.me:Int)→m.kind=2∨m.kind=4∨m.kind=6) {y:Nat} (hz:costK m.kind + y≤z):PA G P (s.send tg m) R y:=
 ⟨h.al.tellTo hf ht hk hz,fun x hx=>by
  rcases List.mem_append.1 hx with hx | hx
  ·exact h.msg x hx
  ·rw [List.mem_singleton] at hx
   subst hx
   exact ⟨rfl,hm,ho⟩,h.rnd,h.dec,h.recs,h.one⟩
theorem others (h:PA G P s R z) {m:Ms} (hf:m.Fit) (hk:keptM (s.stat m.slot) m) (hm:∀tg:Int,MsgP G s.n R (Ms.mk m.kind (s.me:Int) tg m.slot m.bround m.bsite m.hround m.hsite m.some_ m.val)) {y:Nat} (hz:6 + y≤z):PA G P (s.others m s.n) R y:=by
 have h1:=h.al.othersN hf hk hz
 rw [Site.others_eq] at h1 ⊢
 refine ⟨h1,fun x hx=>?_,h.rnd,h.dec,h.recs,h.one⟩
 rcases List.mem_append.1 hx with hx | hx
 ·exact h.msg x hx
 ·unfold Site.tell at hx
  obtain ⟨j,hj,rfl⟩:=List.mem_map.1 hx
  refine ⟨rfl,hm _,fun e=>?_⟩
  have:=(List.mem_filter.1 hj).2
  simp only [decide_eq_true_eq] at this
  exfalso
  have e':(j:Int)=(s.me:Int):=e
  omega
theorem setNx (h:PA G P s R z) {k:Nat} (hk:k≤4096):PA G P {s with nx:=k} R z:=⟨h.al.setNx hk,h.msg,h.rnd,h.dec,h.recs,h.one⟩
theorem setWt (h:PA G P s R z) {l:List Int} (hl:∀x∈l,0≤x):PA G P {s with wt:=l} R z:=⟨h.al.setWt hl,h.msg,h.rnd,h.dec,h.recs,h.one⟩
theorem setRs (h:PA G P s R z) {x:Int} (hx:0≤x∧x < 4096) {r:Rn} (hr:r.b.length≤2048∧r.bal.may 7=true∧∀q∈r.pr,q.b.length≤2048) (hk:r.so=true→keptP (s.stat x) 1 r.bal) (hp:RndP G s.me R x r) {y:Nat} (hy:y≤z)
  (hl:r.vt.length + r.pr.length + r.age + wgt s.me s.held + y≤400000000):PA G P {s with rs:=putG x r s.rs} R y:=
 ⟨h.al.setRs hx hr hk hy hl,h.msg,fun p hp'=>by
  rcases mem_putG.1 hp' with rfl | ⟨hp',-⟩
  ·exact hp
  ·exact h.rnd p hp',h.dec,h.recs,h.one⟩
theorem delRs (h:PA G P s R z) (x:Int):PA G P {s with rs:=delG x s.rs} R z:=⟨h.al.delRs x,h.msg,fun p hp=>h.rnd p (delG_mem.1 hp).1,h.dec,h.recs,h.one⟩
theorem decide_ (h:PA G P s R z) {x:Int} {v:List UInt8} (hd:Dec G s.n x v):PA G P (s.decide_ x v) R z:=by
 have h1:=h.al.decide_ x v
 unfold Site.decide_ at h1 ⊢
 split
 ·rename_i e
  rw [if_pos e] at h1
  refine ⟨h1,h.msg,fun p hp=>h.rnd p (delG_mem.1 hp).1,fun p hp=>?_,h.recs,h.one⟩
  dsimp only at hp
  split at hp
  ·exact h.dec p hp
  ·rcases mem_putG.1 hp with rfl | ⟨hp,-⟩
   ·exact hd
   ·exact h.dec p hp
 ·exact h
theorem has_snoc {x y:Int} {b c:Bl} {v u:List UInt8} (h:has (R ++ [(⟨2,y,c.r,c.s,u⟩:Rc)]) x b v):has R x b v∨x=y∧b=c∧v=u:=by
 rcases List.mem_append.1 h with h | h
 ·exact .inl h
 ·rw [List.mem_singleton] at h
  injection h with h1 h2 h3 h4 h5
  exact .inr ⟨h2,by cases b;cases c;simp only at h3 h4;rw [h3,h4],h5⟩
theorem acc_fr {x:Int} {b:Bl} {v:List UInt8} (hn:s.accept x b v=some t):t.me=s.me∧t.n=s.n∧t.held=s.held∧t.rs=s.rs∧t.lv=s.lv:=by
 have h:=Site.accept_fr hn
 exact ⟨h.1,h.2.1,h.2.2.1,h.2.2.2.1,h.2.2.2.2.1⟩
theorem acc (h:PA G P s R z) {x:Int} (hx:0≤x∧x < 4096) {b:Bl} (hb:b.may 7=true) {v:List UInt8} (hv:v.length≤2048) (hn:s.accept x b v=some t) (hrec:RecP G P s.me s.n ⟨2,x,b.r,b.s,v⟩)
  (hnew:b.s=(s.me:Int)→∀u,¬ has R x b u) (hr:∀p∈s.rs,p.2.so=false→¬ (p.1=x∧p.2.bal=b)) :
  PA G P t (R ++ [(⟨2,x,b.r,b.s,v⟩:Rc)]) z∧keptP (t.stat x) 1 b∧has (R ++ [(⟨2,x,b.r,b.s,v⟩:Rc)]) x b v:=by
 have hok:=h.al.ok.accept hx hb hv hn
 have hbb:=Bl.may7.1 hb
 obtain ⟨f1,f2,f3,f4,f5⟩:=acc_fr hn
 have hkp:=(h.al.accept hx hb hv hn).2
 have hn':=hn
 unfold Site.accept at hn'
 split at hn'
 ·cases hn'
 rename_i e
 have hrm:(⟨2,x,b.r,b.s,v⟩:Rc).May:=⟨.inr rfl,by show 0≤x∧x≤4095;omega,hbb.1,hbb.2,hv⟩
 have hy:(⟨b,true,b,v⟩:Sp)=upd1 (s.stat x) ⟨2,x,b.r,b.s,v⟩:=by
  unfold upd1
  rw [if_neg (by simp),if_neg (by exact e)]
  rfl
 have h1:=h.al.note hrm hy hok (fun e'=>e ((cmpB_lt _ _).2 e')) (fun e'=>absurd e' (by simp)) hn'
 have hpre:R <+:R ++ [(⟨2,x,b.r,b.s,v⟩:Rc)]:=List.prefix_append _ _
 refine ⟨⟨by rw [f1];exact h1,fun m hm=>?_,fun p hp=>?_,fun p hp=>?_,fun r hr' hk=>?_,fun y c v1 v2 hc h3 h4=>?_⟩,hkp,List.mem_append.2 (.inr (by simp))⟩
 ·rw [f3] at hm
  rw [f1,f2]
  exact ⟨(h.msg m hm).1,(h.msg m hm).2.1.mono (GLe.refl _) hpre,(h.msg m hm).2.2⟩
 ·rw [f4] at hp
  rw [f1]
  have k:=h.rnd p hp
  refine ⟨k.bal,fun e=>(k.yes e).mono hpre,fun e=>⟨fun u hu=>?_,(k.no e).2⟩,k.vt,k.pr⟩
  rcases has_snoc hu with hu | ⟨e1,e2,-⟩
  ·exact (k.no e).1 u hu
  ·exact hr p hp e ⟨e1,e2⟩
 ·rw [f5] at hp
  rw [f2]
  exact h.dec p hp
 ·rw [f1,f2]
  rcases List.mem_append.1 hr' with hr' | hr'
  ·exact h.recs r hr' hk
  ·rw [List.mem_singleton] at hr';subst hr';exact hrec
 ·rw [f1] at hc
  rcases has_snoc h3 with k3 | ⟨e1,e2,e3⟩ <;> rcases has_snoc h4 with k4 | ⟨e4,e5,e6⟩
  ·exact h.one y c v1 v2 hc k3 k4
  ·subst e4 e5;exact absurd k3 (hnew hc v1)
  ·subst e1 e2;exact absurd k4 (hnew hc v2)
  ·rw [e3,e6]
theorem prm (h:PA G P s R z) {x:Int} (hx:0≤x∧x < 4096) {b:Bl} (hb:b.may 7=true) (hn:s.promise x b=some t) :
  PA G P t (R ++ [(⟨1,x,b.r,b.s,[]⟩:Rc)]) z∧keptP (t.stat x) 4 b∧Prom (R ++ [(⟨1,x,b.r,b.s,[]⟩:Rc)]) x b (t.stat x).so (t.stat x).at_ (t.stat x).b∧1≤b.r∧t.me=s.me∧t.n=s.n∧t.held=s.held∧t.rs=s.rs:=by
 have hok:=h.al.ok.promise hx hb hn
 have hbb:=Bl.may7.1 hb
 have hkp:=(h.al.promise hx hb hn).2
 have hn':=hn
 unfold Site.promise at hn'
 split at hn'
 ·cases hn'
 rename_i e
 have hrm:(⟨1,x,b.r,b.s,[]⟩:Rc).May:=⟨.inl ⟨rfl,rfl⟩,by show 0≤x∧x≤4095;omega,hbb.1,hbb.2,by simp⟩
 have hy:({s.stat x with p:=b} :Sp)=upd1 (s.stat x) ⟨1,x,b.r,b.s,[]⟩:=by
  unfold upd1
  rw [if_pos rfl]
  rfl
 have h1:=h.al.note hrm hy hok (fun e'=>e (.inr ((cmpB_lt _ _).2 e'))) (fun _=>by show 1≤b.r;omega) hn'
 have hpre:R <+:R ++ [(⟨1,x,b.r,b.s,[]⟩:Rc)]:=List.prefix_append _ _
 have hs:∀{y:Int} {c:Bl} {v:List UInt8},has (R ++ [(⟨1,x,b.r,b.s,[]⟩:Rc)]) y c v→has R y c v:=fun {y c v} hv=>by
  rcases List.mem_append.1 hv with hv | hv
  ·exact hv
  ·rw [List.mem_singleton] at hv;injection hv with h1;cases h1
 obtain ⟨f1,f2,f3,f4,f5⟩:t.me=s.me∧t.n=s.n∧t.held=s.held∧t.rs=s.rs∧t.lv=s.lv:=by
  unfold Site.note at hn'
  split at hn'
  ·injection hn' with hn';rw [←hn'];exact ⟨rfl,rfl,rfl,rfl,rfl⟩
  ·cases hn'
 have hst:t.stat x= {s.stat x with p:=b}:=by rw [h1.st,stOf_snoc,if_pos rfl,←h.al.st,←hy]
 refine ⟨⟨by rw [f1];exact h1,fun m hm=>?_,fun p hp=>?_,fun p hp=>?_,fun r hr' hk=>?_,fun y c v1 v2 hc h3 h4=>?_⟩,hkp,⟨R,[],rfl,?_⟩,by omega,f1,f2,f3,f4⟩
 ·rw [f3] at hm
  rw [f1,f2]
  exact ⟨(h.msg m hm).1,(h.msg m hm).2.1.mono (GLe.refl _) hpre,(h.msg m hm).2.2⟩
 ·rw [f4] at hp
  rw [f1]
  have k:=h.rnd p hp
  exact ⟨k.bal,fun e=>(k.yes e).mono hpre,fun e=>⟨fun u hu=>(k.no e).1 u (hs hu),(k.no e).2⟩,k.vt,k.pr⟩
 ·rw [f5] at hp
  rw [f2]
  exact h.dec p hp
 ·rw [f1,f2]
  rcases List.mem_append.1 hr' with hr' | hr'
  ·exact h.recs r hr' hk
  ·rw [List.mem_singleton] at hr';subst hr';cases hk
 ·rw [f1] at hc
  exact h.one y c v1 v2 hc (hs h3) (hs h4)
 ·rw [hst,←h.al.st];exact ⟨rfl,rfl,rfl⟩
end PA
end Agio
namespace Agio
open Go Go.Proofs.YtijhlbeipglieaaGreat
theorem Bl.lt_of_ne {a b:Bl} (h:¬ b.lt a) (hn:a≠b):a.lt b:=by
 obtain ⟨ar,as_⟩:=a
 obtain ⟨br,bs⟩:=b
 simp only [ne_eq,Bl.mk.injEq] at hn
 unfold Bl.lt at h ⊢
 simp only at h ⊢
 omega
theorem nxtS_owner (site n:Int):∀(k s:Nat),nxtS site n k s= -1∨(nxtS site n k s).tmod n=site
 | 0,s=>.inl rfl
 | k + 1,s=>by
  unfold nxtS
  split
  ·rename_i h;exact .inr h
  ·exact nxtS_owner site n k (s + 1)
theorem nextI_owner {site n:Int} {f:Nat} (h:0≤nextI site f n):ownerI (nextI site f n) n=site:=by
 have hr:=nextI_range site f n
 unfold nextI at h hr ⊢
 split at h
 ·omega
 rename_i hc
 rw [if_neg hc] at hr ⊢
 rcases nxtS_owner site n (4096 - f) f with h1 | h1
 ·omega
 unfold ownerI
 rw [if_neg (by omega),h1]
theorem Site.free_ok (s:Site):∀(k:Nat) (x:Int),x < 4096→(0≤x→4096 - x≤(k:Int))→(0≤x→ownerI x s.n=(s.me:Int))→0≤s.free k x→s.fresh (s.free k x)=true∧ownerI (s.free k x) s.n=(s.me:Int)
 | 0,x,h1,h2,h3,h=>by
  unfold Site.free at h
  exfalso
  have:=h2 h
  omega
 | k + 1,x,h1,h2,h3,h=>by
  unfold Site.free at h ⊢
  split
  ·rename_i hc
   rw [if_pos hc] at h
   have hr:=nextI_range (s.me:Int) (x + 1).toNat s.n
   exact Site.free_ok s k _ (by omega) (fun h0=>by have:=h2 hc.1;omega) (fun h0=>nextI_owner h0) h
  ·rename_i hc
   rw [if_neg hc] at h
   refine ⟨?_,h3 h⟩
   cases e:s.fresh x with
   | true=>rfl
   | false=>exact absurd ⟨h,e⟩ hc
theorem MsgP.triv {G:Int→List Rc} {n:Nat} {L:List Rc} {m:Ms} (h:m.kind=3∨m.kind=8):MsgP G n L m:=
 ⟨fun e=>by omega,fun e=>by omega,fun e=>by omega,fun e=>by omega,fun e=>by omega⟩
theorem MsgP.votes {G:Int→List Rc} {n:Nat} {L:List Rc} {x:Int} {b:Bl} {v:List UInt8} (h:has L x b v) (f g:Int):MsgP G n L (Ms.mk (Site.votes x b).kind f g (Site.votes x b).slot (Site.votes x b).bround (Site.votes x b).bsite (Site.votes x b).hround (Site.votes x b).hsite (Site.votes x b).some_ (Site.votes x b).val):=
 ⟨fun e=>(by rcases e with e | e <;> cases e),fun e=>(by cases e),fun e=>(by cases e),fun _=>⟨v,h⟩,fun e=>(by cases e)⟩
theorem MsgP.tells {G:Int→List Rc} {n:Nat} {L:List Rc} {x:Int} {v:List UInt8} (h:Dec G n x v) (f g:Int):MsgP G n L (Ms.mk (Site.tells x v).kind f g (Site.tells x v).slot (Site.tells x v).bround (Site.tells x v).bsite (Site.tells x v).hround (Site.tells x v).hsite (Site.tells x v).some_ (Site.tells x v).val):=
 ⟨fun e=>(by rcases e with e | e <;> cases e),fun e=>(by cases e),fun e=>(by cases e),fun e=>(by cases e),fun _=>h⟩
theorem MsgP.skips {G:Int→List Rc} {n:Nat} {L:List Rc} {x me:Int} (h:has L x ⟨0,me⟩ []) (g:Int):MsgP G n L (Ms.mk (Site.skips x ⟨0,me⟩).kind me g (Site.skips x ⟨0,me⟩).slot (Site.skips x ⟨0,me⟩).bround (Site.skips x ⟨0,me⟩).bsite (Site.skips x ⟨0,me⟩).hround (Site.skips x ⟨0,me⟩).hsite (Site.skips x ⟨0,me⟩).some_ (Site.skips x ⟨0,me⟩).val):=
 ⟨fun e=>(by rcases e with e | e <;> cases e),fun _=>h,fun e=>(by cases e),fun e=>(by cases e),fun e=>(by cases e)⟩
theorem MsgP.asks {G:Int→List Rc} {n:Nat} {L:List Rc} {x me:Int} {r:Rn} (h:r.so=true→has L x r.bal r.b) (hb:r.bal.s=me) (g:Int):MsgP G n L (Ms.mk (Site.asks r x).kind me g (Site.asks r x).slot (Site.asks r x).bround (Site.asks r x).bsite (Site.asks r x).hround (Site.asks r x).hsite (Site.asks r x).some_ (Site.asks r x).val):=by
 unfold Site.asks
 split
 ·rename_i e
  refine ⟨fun _=>⟨h e,hb⟩,fun e=>?_,fun e=>?_,fun e=>?_,fun e=>?_⟩ <;> (dsimp only at e;split at e <;> cases e)
 ·exact MsgP.triv (.inl rfl)
def GrowP (G:Int→List Rc) (P:Int→List UInt8→Prop) (t:Site) (R:List Rc) (z:Nat):Prop:=∃R',R <+:R'∧PA G P t R' z
namespace PA
variable {G G':Int→List Rc} {P P':Int→List UInt8→Prop} {s t:Site} {R:List Rc} {z:Nat}
theorem grow (h:PA G P s R z):GrowP G P s R z:=⟨R,List.prefix_refl _,h⟩
theorem fresh_no (h:PA G P s R z) {x:Int} (hf:s.fresh x=true) (b:Bl) (u:List UInt8):¬ has R x b u:=fun hu=>by
 have h1:=(h.al.good.at_of_has hu).1
 rw [←h.al.st] at h1
 unfold Site.fresh at hf
 simp only [Bool.and_eq_true] at hf
 have h2:=hf.2
 unfold Sp.same Sp.zero at h2
 rw [h1] at h2
 simp at h2
theorem ownRec {x:Int} (ho:ownerI x s.n=(s.me:Int)) {v:List UInt8} (hv:v= []∨P x v):RecP G P s.me s.n ⟨2,x,s.ownB.r,s.ownB.s,v⟩:=
 ⟨fun _ _=>⟨ho,hv⟩,fun _ h=>by have h':(1:Int)≤0:=h;omega,fun h=>absurd rfl h⟩
theorem ownRnd (h:PA G P s R z) {x:Int} :∀p∈s.rs,p.2.so=false→¬ (p.1=x∧p.2.bal=s.ownB):=fun p hp e ⟨_,e2⟩=>by
 have:=((h.rnd p hp).no e).2
 rw [e2] at this
 have h':(1:Int)≤0:=this
 omega
theorem skip1 (h:PA G P t R z) {x:Int} (hx:0≤x∧x < 4096) (hk:keptP (t.stat x) 1 ⟨0,t.me⟩) (hh:has R x ⟨0,t.me⟩ []) {y:Nat} (hy:7 + y≤z):PA G P (t.skip1 ⟨0,t.me⟩ x) R y:=by
 have hb:(⟨0,t.me⟩:Bl).may 7=true:=h.al.ok.own
 have hf:=Site.skips_fit hx hb
 have hkm:∀t':Site,t'.stat x=t.stat x→keptM (t'.stat (Site.skips x ⟨0,t.me⟩).slot) (Site.skips x ⟨0,t.me⟩):=fun t' e _=>by
  show keptP (t'.stat x) 2 ⟨0,t.me⟩
  rw [e];exact hk.kind (by decide)
 have h1:=h.others hf (hkm t rfl) (fun tg=>MsgP.skips hh tg) (y:=1 + y) (by omega)
 have e1:(t.others (Site.skips x ⟨0,t.me⟩) t.n).stat x=t.stat x:=by rw [Site.others_eq];rfl
 have e2:(t.others (Site.skips x ⟨0,t.me⟩) t.n).me=t.me∧(t.others (Site.skips x ⟨0,t.me⟩) t.n).n=t.n:=by rw [Site.others_eq];exact ⟨rfl,rfl⟩
 have h2:=h1.send hf (tg:=(t.me:Int)) h.al.me6 (hkm _ e1) (by rw [e2.1,e2.2];exact MsgP.skips hh _) (fun _=>.inl rfl) (y:=y) (by simp [Site.skips,costK])
 exact h2.setNx (by omega)
theorem skipF:∀(f c:Nat) (s:Site) (R:List Rc) (z:Nat),PA G P s R z→∀(tg:Int) (y:Nat),7 * (8 - c) + y≤z→GrowP G P (Site.skipF f c s tg) R y
 | 0,_,s,R,z,h,_,y,hy=>(h.less (by omega)).grow
 | f + 1,c,s,R,z,h,tg,y,hy=>by
  unfold Site.skipF
  split
  ·exact (h.less (by omega)).grow
  rename_i hc
  split
  ·exact (h.less (by omega)).grow
  rename_i hx
  have hr:=nextI_range (s.me:Int) s.nx s.n
  have hx2:0≤nextI s.me s.nx s.n∧nextI s.me s.nx s.n < 4096:=by omega
  split
  ·rename_i hfr
   split
   ·exact (h.less (by omega)).grow
   ·rename_i t ha
    obtain ⟨h2,h3,h4⟩:=h.acc hx2 h.al.ok.own (by simp) ha (ownRec (nextI_owner hx2.1) (.inl rfl)) (fun _ u=>h.fresh_no hfr _ u) h.ownRnd
    have hme:t.me=s.me:=(acc_fr ha).1
    have h5:=h2.skip1 hx2 (y:=7 * (8 - (c + 1)) + y) (by rw [hme];exact h3) (by rw [hme];exact h4) (by omega)
    rw [hme] at h5
    obtain ⟨R2,h6,h7⟩:=skipF f (c + 1) _ _ _ h5 tg y (Nat.le_refl _)
    exact ⟨R2,(List.prefix_append _ _).trans h6,h7⟩
  ·exact skipF f c _ R z (h.setNx (by omega)) tg y hy
theorem skip (h:PA G P s R z) (tg:Int) {y:Nat} (hy:56 + y≤z):GrowP G P (s.skip tg) R y:=skipF _ _ s R z h tg y (by omega)
theorem low_ge (s:Site) (x:Int):¬ (s.low x).lt (s.stat x).p:=by
 unfold Site.low
 split
 ·split
  ·rename_i h;exact Bl.le_of_lt ((cmpB_gt _ _).1 h)
  ·exact Bl.lt_irrefl _
 ·exact Bl.lt_irrefl _
theorem next_s (b:Bl) (x:Int):(b.next x).s=x:=by
 unfold Bl.next
 split
 ·rfl
 split <;> rfl
theorem begin_ (h:PA G P s R z) {x:Int} (hx:0≤x∧x < 4096) {y:Nat} (hy:22 + y≤z):GrowP G P (s.begin_ x) R y:=by
 have hb:=Bl.next_may (h.al.low_may x) (me:=s.me) (by have:=h.al.me6;omega)
 have hns:=next_s (s.low x) s.me
 unfold Site.begin_
 split
 ·exact (h.less (by omega)).grow
 rename_i hlt
 split
 ·exact (h.less (by omega)).grow
 ·rename_i t ha
  obtain ⟨h1,h2,h3,hr1,hme,hn,hhd,hrs⟩:=h.prm hx hb ha
  have hgt:(s.stat x).p.lt ((s.low x).next s.me):=by
   have e1:=low_ge s x
   have e2:(s.low x).lt ((s.low x).next s.me):=(cmpB_gt _ _).1 (by omega)
   unfold Bl.lt at e1 e2 ⊢
   omega
  have hno:∀v,¬ has (R ++ [(⟨1,x,((s.low x).next s.me).r,((s.low x).next s.me).s,[]⟩:Rc)]) x ((s.low x).next s.me) v:=fun v hv=>by
   rcases List.mem_append.1 hv with hv | hv
   ·have:=(h.al.good.at_of_has hv).2.2
    rw [←h.al.st] at this
    exact this hgt
   ·rw [List.mem_singleton] at hv;injection hv with h1;cases h1
  generalize hbb:(s.low x).next s.me=b at *
  have hR:RndP G t.me (R ++ [(⟨1,x,b.r,b.s,[]⟩:Rc)]) x (⟨b,[],false,[],[],0⟩:Rn):=⟨by rw [hme];exact hns,(by intro e;cases e),fun _=>⟨hno,hr1⟩,by simp,by simp⟩
  have h4:PA G P {t with rs:=putG x (⟨b,[],false,[],[],0⟩:Rn) t.rs} (R ++ [(⟨1,x,b.r,b.s,[]⟩:Rc)]) z:=h1.setRs (r:=(⟨b,[],false,[],[],0⟩:Rn)) hx ⟨by simp,hb,by simp⟩ (by intro e;cases e) hR (Nat.le_refl _) (by have:=h1.al.lim;simp;omega)
  have h5:=h4.others (m:=Site.asks (⟨b,[],false,[],[],0⟩:Rn) x) (Site.asks_fit hx hb (by simp)) (by intro e;revert e;simp [Site.asks,Ms.Tells]) (fun tg=>MsgP.asks (by intro e;cases e) (by show b.s=(t.me:Int);rw [hme];exact hns) tg) (y:=16 + y) (by omega)
  have h5:PA G P (({t with rs:=putG x (⟨b,[],false,[],[],0⟩:Rn) t.rs} :Site).others (Site.asks (⟨b,[],false,[],[],0⟩:Rn) x) s.n) (R ++ [(⟨1,x,b.r,b.s,[]⟩:Rc)]) (16 + y):=by rw [←hn];exact h5
  have e1:(({t with rs:=putG x (⟨b,[],false,[],[],0⟩:Rn) t.rs} :Site).others (Site.asks (⟨b,[],false,[],[],0⟩:Rn) x) s.n).stat x=t.stat x:=by rw [Site.others_eq];rfl
  refine ⟨_,List.prefix_append _ _,h5.send (Site.answer_fit h5.al.ok hx hb (h5.al.fit x)) h5.al.me6 ?_ ?_ (fun _=>.inr (.inl rfl)) ?_⟩
  ·intro _
   show keptP (Site.stat _ x) 4 _
   rw [e1];exact h2
  ·refine ⟨fun e=>(by rcases e with e | e <;> cases e),fun e=>(by cases e),fun _=>?_,fun e=>(by cases e),fun e=>(by cases e)⟩
   show Prom _ x b (Site.stat _ x).so (Site.stat _ x).at_ (Site.stat _ x).b
   rw [e1];exact h3
  ·show costK 4 + y≤_
   simp [costK]
theorem votesTo (h:PA G P s R z) {x:Int} (hx:0≤x∧x < 4096) {b:Bl} (hb:b.may 7=true) (hk:keptP (s.stat x) 1 b) {v:List UInt8} (hh:has R x b v) {tg:Int} (ht:0≤tg∧tg≤6) {y:Nat} (hy:8 + y≤z):PA G P (s.send tg (Site.votes x b)) R y:=
 h.send (Site.votes_fit hx hb) ht (fun _=>by show keptP (s.stat x) 6 b;exact hk.kind (by decide)) (MsgP.votes hh _ _) (fun _=>.inr (.inr rfl)) (by show costK 6 + y≤z;simp [costK];omega)
theorem accFar (h:PA G P s R z) {m:Ms} (hm:m.May) (hf:m.frm≠(s.me:Int)) (hv:has (G m.frm) m.slot m.bal m.val) (hb:m.bal.s=m.frm) (hn:s.accept m.slot m.bal m.val=some t) :
  ∃R',R <+:R'∧PA G P t R' z∧keptP (t.stat m.slot) 1 m.bal∧has R' m.slot m.bal m.val:=by
 obtain ⟨h2,h3,h4⟩:=h.acc (Alive.may_slot hm) (Alive.may_bal hm) hm.val hn
  ⟨fun e=>absurd (hb.symm.trans e) hf,fun e=>absurd (hb.symm.trans e) hf,fun _=>by show has (G m.bal.s) m.slot m.bal m.val;rw [hb];exact hv⟩
  (fun e=>absurd (hb.symm.trans e) hf) (fun p hp _ ⟨_,e⟩=>hf (by rw [←hb,←e];exact (h.rnd p hp).bal))
 exact ⟨_,List.prefix_append _ _,h2,h3,h4⟩
theorem suggested (h:PA G P s R z) {m:Ms} (hm:m.May) (hk:m.kind=1) (hf:m.frm≠(s.me:Int)) (hp:MsgP G s.n (G m.frm) m) {y:Nat} (hy:100 + y≤z):GrowP G P (s.suggested m) R y:=by
 unfold Site.suggested
 split
 ·split
  ·rename_i t ha
   obtain ⟨R',h1,h2,h3,h4⟩:=h.accFar hm hf (hp.val (.inl hk)).1 (hp.val (.inl hk)).2 ha
   have h5:=h2.votesTo (Alive.may_slot hm) (Alive.may_bal hm) h3 h4 hm.frm (y:=56 + y) (by omega)
   obtain ⟨R2,h6,h7⟩:=h5.skip m.slot (y:=y) (Nat.le_refl _)
   exact ⟨R2,h1.trans h6,h7⟩
  ·exact h.skip _ (by omega)
 ·exact (h.less (by omega)).grow
theorem asked (h:PA G P s R z) {m:Ms} (hm:m.May) (hk:m.kind=5) (hf:m.frm≠(s.me:Int)) (hp:MsgP G s.n (G m.frm) m) {y:Nat} (hy:100 + y≤z):GrowP G P (s.asked m) R y:=by
 unfold Site.asked
 split
 ·split
  ·rename_i t ha
   obtain ⟨R',h1,h2,h3,h4⟩:=h.accFar hm hf (hp.val (.inr hk)).1 (hp.val (.inr hk)).2 ha
   exact ⟨R',h1,h2.votesTo (Alive.may_slot hm) (Alive.may_bal hm) h3 h4 hm.frm (by omega)⟩
  ·exact (h.less (by omega)).grow
 ·exact (h.less (by omega)).grow
theorem prepared (h:PA G P s R z) {m:Ms} (hm:m.May) {y:Nat} (hy:100 + y≤z):GrowP G P (s.prepared m) R y:=by
 unfold Site.prepared
 split
 ·split
  ·rename_i t ha
   obtain ⟨h1,h2,h3,-,hme,hn,-,-⟩:=h.prm (Alive.may_slot hm) (Alive.may_bal hm) ha
   refine ⟨_,List.prefix_append _ _,h1.send (Site.answer_fit h1.al.ok (Alive.may_slot hm) (Alive.may_bal hm) (h1.al.fit _)) hm.frm (fun _=>h2) ?_ (fun _=>.inr (.inl rfl)) (by show costK 4 + y≤_;simp [costK];omega)⟩
   exact ⟨fun e=>(by rcases e with e | e <;> cases e),fun e=>(by cases e),fun _=>h3,fun e=>(by cases e),fun e=>(by cases e)⟩
  ·exact (h.less (by omega)).grow
 ·exact (h.less (by omega)).grow
theorem delG_del {α:Type} (x:Int) (M:AL α):delG x (delG x M)=delG x M:=by
 unfold delG
 rw [List.filter_filter]
 congr 1
 funext p
 cases decide (p.1=x) <;> rfl
theorem putG_del {α:Type} (x:Int) (v:α) (M:AL α):putG x v (delG x M)=putG x v M:=by unfold putG;rw [delG_del]
theorem accept_rs (s:Site) (l:AL Rn) (x:Int) (b:Bl) (v:List UInt8):({s with rs:=l} :Site).accept x b v=(s.accept x b v).map fun t=>{t with rs:=l}:=by
 unfold Site.accept Site.note
 have e1:({s with rs:=l} :Site).stat x=s.stat x:=rfl
 rw [e1]
 split
 ·rfl
 have e2:∀r,({s with rs:=l} :Site).room r=s.room r:=fun _=>rfl
 rw [e2]
 split <;> rfl
theorem promised (hG:Glob G s.n P) (h:PA G P s R z) (hsub:G s.me <+:R) {m:Ms} (hm:m.May) (hk:m.kind=4) (hp:MsgP G s.n (G m.frm) m) {y:Nat} (hy:16 + y≤z):GrowP G P (s.promised m) R y:=by
 unfold Site.promised
 split
 ·exact (h.less (by omega)).grow
 rename_i r hr
 have hrm:=lookG_some hr
 have hro:=h.al.ok.rs _ hrm
 have hlr:=h.al.rlim _ hrm
 have hrp:=h.rnd _ hrm
 have hx:=Alive.may_slot hm
 split
 ·rename_i hbs
  have hpl:∀q∈r.pr ++ [(⟨m.frm,m.some_,m.had,m.val⟩:Pm)],q.b.length≤2048:=fun q hq=>by
   rcases List.mem_append.1 hq with hq | hq
   ·exact hro.2.2.2.2 q hq
   ·rw [List.mem_singleton] at hq;subst hq;exact hm.val
  have hpp:∀q∈r.pr ++ [(⟨m.frm,m.some_,m.had,m.val⟩:Pm)],Prom (G q.f) m.slot r.bal q.so q.at_ q.b:=fun q hq=>by
   rcases List.mem_append.1 hq with hq | hq
   ·exact hrp.pr q hq
   ·rw [List.mem_singleton] at hq;subst hq;rw [hbs.1];exact hp.prom hk
  obtain ⟨hno,hr1⟩:=hrp.no hbs.2
  replace hr1:1≤r.bal.r:=hr1
  have h1:PA G P {s with rs:=putG m.slot {r with pr:=r.pr ++ [(⟨m.frm,m.some_,m.had,m.val⟩:Pm)]} s.rs} R (z - 1):=
   h.setRs (r:={r with pr:=r.pr ++ [(⟨m.frm,m.some_,m.had,m.val⟩:Pm)]}) hx ⟨hro.2.2.1,hro.2.2.2.1,hpl⟩ (by intro e;have e':r.so=true:=e;rw [hbs.2] at e';cases e') ⟨hrp.bal,hrp.yes,hrp.no,hrp.vt,hpp⟩ (by omega) (by simp only [List.length_append,List.length_singleton];dsimp only at hlr;omega)
  simp only
  split
  ·exact (h1.less (by omega)).grow
  ·rename_i v hv
   have hvl:=choose_len hpl hv
   split
   ·exact ((h1.delRs _).less (by omega)).grow
   ·rename_i u hu
    have hch:Choice G m.slot r.bal v s.n:=by
     refine ⟨_,hv,fun q hq=>⟨hpp q hq,fun hso=>?_⟩⟩
     have h2:=hpp q hq
     have h3:=hG.src h2 hso
     obtain ⟨l1,l2,e,e1,e2,e3⟩:=h2
     have hgd:Good (G q.f):=hG.good q.f
     have h4:=(hgd l1 _ l2 e).1
     have h5:(stOf l1 m.slot).Fine:=by rw [e] at hgd;exact hgd.pre.fine _
     have h6:=h5 (by rw [e1];exact hso)
     rw [e2] at h6
     have h7:¬ r.bal.lt q.at_:=Bl.le_trans h6 h4
     have h8:q.at_≠r.bal:=fun e4=>by
      rw [e4,hrp.bal] at h3
      exact hno _ (h3.mono hsub)
     exact Bl.lt_of_ne h7 h8
    -- the round out,the value accepted,the round in again
    have h2:=h1.delRs m.slot
    have ha:({s with rs:=delG m.slot (putG m.slot {r with pr:=r.pr ++ [(⟨m.frm,m.some_,m.had,m.val⟩:Pm)]} s.rs)} :Site).accept m.slot r.bal v=some {u with rs:=delG m.slot u.rs}:=by
     have e1:=accept_rs s (putG m.slot {r with pr:=r.pr ++ [(⟨m.frm,m.some_,m.had,m.val⟩:Pm)]} s.rs) m.slot r.bal v
     rw [hu] at e1
     rw [accept_rs]
     cases e2:s.accept m.slot r.bal v with
     | none=>rw [e2] at e1;cases e1
     | some t0=>
      rw [e2] at e1
      simp only [Option.map_some,Option.some.injEq] at e1 ⊢
      rw [e1]
    obtain ⟨h3,h4,h5⟩:=h2.acc (b:=r.bal) (v:=v) hx hro.2.2.2.1 hvl ha
     ⟨fun _ e=>by have e':r.bal.r=0:=e;omega,fun _ _=>hch,fun e=>absurd hrp.bal e⟩ (fun _ w=>hno w)
     (fun p hp _ ⟨e,_⟩=>(delG_mem.1 hp).2 e)
    have hlu:=acc_fr hu
    have h6:PA G P {u with rs:=putG m.slot {r with pr:=r.pr ++ [(⟨m.frm,m.some_,m.had,m.val⟩:Pm)],so:=true,b:=v} u.rs} (R ++ [(⟨2,m.slot,r.bal.r,r.bal.s,v⟩:Rc)]) (z - 1):=by
     have:=h3.setRs (r:={r with pr:=r.pr ++ [(⟨m.frm,m.some_,m.had,m.val⟩:Pm)],so:=true,b:=v}) hx ⟨hvl,hro.2.2.2.1,hpl⟩ (fun _=>h4)
      ⟨by show r.bal.s=(u.me:Int);rw [hlu.1];exact hrp.bal,fun _=>h5,(by intro e;cases e),hrp.vt,hpp⟩ (Nat.le_refl _) (by
       show _ + wgt u.me u.held + _≤_
       rw [hlu.2.2.1,hlu.1];simp only [List.length_append,List.length_singleton];dsimp only at hlr;omega)
     have e:putG m.slot {r with pr:=r.pr ++ [(⟨m.frm,m.some_,m.had,m.val⟩:Pm)],so:=true,b:=v} (delG m.slot u.rs)=putG m.slot {r with pr:=r.pr ++ [(⟨m.frm,m.some_,m.had,m.val⟩:Pm)],so:=true,b:=v} u.rs:=putG_del _ _ _
     rw [←e]
     exact this
    have h7:=h6.others (m:=Site.asks {r with pr:=r.pr ++ [(⟨m.frm,m.some_,m.had,m.val⟩:Pm)],so:=true,b:=v} m.slot) (Site.asks_fit hx hro.2.2.2.1 hvl) (by
     have:(Site.asks {r with pr:=r.pr ++ [(⟨m.frm,m.some_,m.had,m.val⟩:Pm)],so:=true,b:=v} m.slot).slot=m.slot:=by unfold Site.asks;split <;> rfl
     rw [this];exact Alive.asksK (x:=m.slot) fun _=>h4) (fun tg=>MsgP.asks (fun _=>h5) (by show r.bal.s=(u.me:Int);rw [hlu.1];exact hrp.bal) tg) (y:=8 + y) (by omega)
    have h7:PA G P (({u with rs:=putG m.slot {r with pr:=r.pr ++ [(⟨m.frm,m.some_,m.had,m.val⟩:Pm)],so:=true,b:=v} u.rs} :Site).others (Site.asks {r with pr:=r.pr ++ [(⟨m.frm,m.some_,m.had,m.val⟩:Pm)],so:=true,b:=v} m.slot) s.n) (R ++ [(⟨2,m.slot,r.bal.r,r.bal.s,v⟩:Rc)]) (8 + y):=by rw [←hlu.2.1];exact h7
    refine ⟨_,List.prefix_append _ _,h7.votesTo hx hro.2.2.2.1 ?_ h5 h.al.me6 (Nat.le_refl _)⟩
    rw [Site.others_eq]
    exact h4
 ·exact (h.less (by omega)).grow
theorem accepted (hG:Glob G s.n P) (h:PA G P s R z) (hsub:G s.me <+:R) {m:Ms} (hm:m.May) (hk:m.kind=6) (hp:MsgP G s.n (G m.frm) m) {y:Nat} (hy:8 + y≤z):GrowP G P (s.accepted m) R y:=by
 unfold Site.accepted
 split
 ·exact (h.less (by omega)).grow
 rename_i r hr
 have hrm:=lookG_some hr
 have hro:=h.al.ok.rs _ hrm
 have hlr:=h.al.rlim _ hrm
 have hrp:=h.rnd _ hrm
 split
 ·rename_i hbs
  have hvt:∀v∈r.vt ++ [(m.frm,(⟨m.bround,m.bsite⟩:Bl))],v.2=r.bal→∃u,has (G v.1) m.slot r.bal u:=fun v hv e=>by
   rcases List.mem_append.1 hv with hv | hv
   ·exact hrp.vt v hv e
   ·rw [List.mem_singleton] at hv;subst hv;rw [hbs.1];exact hp.vote hk
  have h1:PA G P {s with rs:=putG m.slot {r with vt:=r.vt ++ [(m.frm,(⟨m.bround,m.bsite⟩:Bl))]} s.rs} R (z - 1):=
   h.setRs (r:={r with vt:=r.vt ++ [(m.frm,(⟨m.bround,m.bsite⟩:Bl))]}) (Alive.may_slot hm) hro.2.2 (fun e=>h.al.rds _ hrm e) ⟨hrp.bal,hrp.yes,hrp.no,hvt,hrp.pr⟩ (by omega) (by simp only [List.length_append,List.length_singleton];dsimp only at hlr;omega)
  simp only
  split
  ·rename_i hmost
   have hd:Dec G s.n m.slot r.b:=by
    refine .inl ⟨r.bal,_,hmost,fun f hf=>?_⟩
    obtain ⟨p,hp1,rfl⟩:=List.mem_map.1 hf
    obtain ⟨hp2,hp3⟩:=List.mem_filter.1 hp1
    have hp3:=of_decide_eq_true hp3
    obtain ⟨u,hu⟩:=hvt p hp2 hp3
    have h2:=hG.back _ _ _ _ hu
    rw [hrp.bal] at h2
    have h3:=h.one _ _ _ _ hrp.bal (h2.mono hsub) (hrp.yes hbs.2)
    rw [←h3];exact hu
   have h2:=h1.decide_ (x:=m.slot) (v:=r.b) hd
   have hn:=(Site.kin_decide ({s with rs:=putG m.slot {r with vt:=r.vt ++ [(m.frm,(⟨m.bround,m.bsite⟩:Bl))]} s.rs}) m.slot r.b).n
   have h3:=h2.others (Site.tells_fit (Alive.may_slot hm) hro.2.2.1) (by intro e;revert e;simp [Site.tells,Ms.Tells]) (fun tg=>MsgP.tells (by rw [hn];exact hd) _ tg) (y:=y) (by omega)
   rw [hn] at h3
   exact h3.grow
  ·exact (h1.less (by omega)).grow
 ·exact (h.less (by omega)).grow
theorem sends (tg:Int) (ht:0≤tg∧tg≤6) (D:Int→Option (List UInt8)) (n:Nat) (hD:∀x v,D x=some v→v.length≤2048∧Dec G n x v):∀(l:List Int) (s:Site) (z:Nat),PA G P s R z→s.n=n→(∀x∈l,(0≤x∧x < 4096)∧(D x).isSome=true)→(tg≠(s.me:Int))→∀y,l.length + y≤z→
  PA G P (l.foldl (fun u x=>u.send tg (Site.tells x ((D x).getD []))) s) R y
 | [],s,z,h,_,_,_,y,hy=>h.less (by simpa using hy)
 | x :: l,s,z,h,hn,hl,hne,y,hy=>by
  rw [List.length_cons] at hy
  obtain ⟨hx,hs⟩:=hl x (by simp)
  cases e:D x with
  | none=>rw [e] at hs;cases hs
  | some v=>
   obtain ⟨hv1,hv2⟩:=hD x v e
   have h1:=h.send (Site.tells_fit hx hv1) ht (by intro e;revert e;simp [Site.tells,Ms.Tells]) (MsgP.tells (by rw [hn];exact hv2) _ _) (fun e=>absurd e hne) (y:=l.length + y) (by show costK 7 + _≤z;simp [costK];omega)
   have h2:=sends tg ht D n hD l (s.send tg (Site.tells x v)) _ h1 hn (fun q hq=>hl q (by simp [hq])) hne y (Nat.le_refl _)
   rw [List.foldl_cons,e]
   exact h2
theorem wanted (h:PA G P s R z) {m:Ms} (hm:m.May) (hf:m.frm≠(s.me:Int)) {y:Nat} (hy:100 + y≤z):GrowP G P (s.wanted m) R y:=by
 have key:∀{t:Site} {R':List Rc},t.me=s.me→PA G P t R' (16 + y)→PA G P ((((List.range' m.slot.toNat ((topG t.lv).toNat - m.slot.toNat)).map fun (i:Nat)=>(i:Int)).filter fun x=>(t.dec x).isSome).take 16 |>.foldl (fun u x=>u.send m.frm (Site.tells x ((t.dec x).getD []))) t) R' y:=by
  intro t R' hme ht
  refine sends m.frm hm.frm t.dec t.n (fun x v hv=>⟨ht.al.dec_len hv,ht.dec _ (lookG_some hv)⟩) _ t _ ht rfl (fun x hx=>?_) (by rw [hme];exact hf) y ?_
  ·have h1:=List.mem_of_mem_take hx
   obtain ⟨h2,h3⟩:=List.mem_filter.1 h1
   refine ⟨?_,h3⟩
   cases e:t.dec x with
   | none=>rw [e] at h3;cases h3
   | some v=>exact ⟨(ht.al.lv _ (lookG_some e)).1,(ht.al.lv _ (lookG_some e)).2.1⟩
  ·rw [List.length_take];omega
 unfold Site.wanted
 simp only
 split
 ·obtain ⟨R',h1,h2⟩:=h.skip (m.slot + 1) (y:=16 + y) (by omega)
  exact ⟨R',h1,key (Site.kin_skip _ _).me h2⟩
 ·exact ⟨R,List.prefix_refl _,key rfl (h.less (by omega))⟩
theorem take (hG:Glob G s.n P) (h:PA G P s R z) (hsub:G s.me <+:R) {m:Ms} (hm:m.May) (hp:MsgP G s.n (G m.frm) m) (hf:m.frm≠(s.me:Int)∨m.kind=2∨m.kind=4∨m.kind=6) {y:Nat} (hy:costK m.kind + y≤z):GrowP G P (s.take m) R y:=by
 have hfar:¬ (m.kind=2∨m.kind=4∨m.kind=6)→m.frm≠(s.me:Int):=fun h=>hf.resolve_right h
 have hdoes:GrowP G P (s.does m) R y:=by
  unfold Site.does
  split
  ·rename_i e;exact h.suggested hm e (hfar (by omega)) hp (by rw [e] at hy;simpa [costK] using hy)
  split
  ·rename_i e
   unfold Site.skipped
   split
   ·rename_i e2
    refine ((h.decide_ (.inr ⟨rfl,?_⟩)).less (by omega)).grow
    rw [←e2];exact hp.skip e
   ·exact (h.less (by omega)).grow
  split
  ·rename_i e;exact h.prepared hm (by rw [e] at hy;simpa [costK] using hy)
  split
  ·rename_i e;exact promised hG h hsub hm e hp (by rw [e] at hy;simpa [costK] using hy)
  split
  ·rename_i e;exact h.asked hm e (hfar (by omega)) hp (by rw [e] at hy;simpa [costK] using hy)
  split
  ·rename_i e;exact accepted hG h hsub hm e hp (by rw [e] at hy;simpa [costK] using hy)
  split
  ·rename_i e
   unfold Site.learned
   split
   ·exact ((h.decide_ (hp.told e)).less (by omega)).grow
   ·exact (h.less (by omega)).grow
  split
  ·rename_i e;exact h.wanted hm (hfar (by omega)) (by rw [e] at hy;simpa [costK] using hy)
  ·exact (h.less (by omega)).grow
 unfold Site.take
 split
 ·rename_i hk
  split
  ·rename_i v hv
   have:=costK_pos m.kind
   refine (h.send (Site.tells_fit (Alive.may_slot hm) (h.al.dec_len hv)) hm.frm (by intro e;revert e;simp [Site.tells,Ms.Tells]) (MsgP.tells (h.dec _ (lookG_some hv)) _ _) (fun e=>absurd e (hfar (by omega))) (y:=y) (by show costK 7 + y≤z;simp [costK];omega)).grow
  ·exact hdoes
 ·exact hdoes
theorem takes:∀(l:List Ms) (s:Site) (R:List Rc) (z:Nat),Glob G s.n P→PA G P s R z→G s.me <+:R→(∀m∈l,m.May∧MsgP G s.n (G m.frm) m∧(m.frm≠(s.me:Int)∨m.kind=2∨m.kind=4∨m.kind=6))→∀y,(l.map fun m=>costK m.kind).sum + y≤z→GrowP G P (l.foldl Site.take s) R y
 | [],s,R,z,_,h,_,_,y,hy=>(h.less (by simpa using hy)).grow
 | m :: l,s,R,z,hG,h,hsub,hl,y,hy=>by
  rw [List.map_cons,List.sum_cons] at hy
  obtain ⟨h1,h2,h3⟩:=hl m (by simp)
  obtain ⟨R',h4,h5⟩:=take hG h hsub h1 h2 h3 (y:=(l.map fun m=>costK m.kind).sum + y) (by omega)
  have hk:=Site.kin_take s m
  obtain ⟨R2,h6,h7⟩:=takes l (s.take m) R' _ (by rw [hk.n];exact hG) h5 (by rw [hk.me];exact hsub.trans h4) (fun x hx=>by rw [hk.me,hk.n];exact hl x (by simp [hx])) y (Nat.le_refl _)
  exact ⟨R2,h4.trans h6,h7⟩
end PA
end Agio
namespace Agio
open Go Go.Proofs.YtijhlbeipglieaaGreat
def updG (G:Int→List Rc) (me:Int) (R:List Rc):Int→List Rc:=fun f=>if f=me then R else G f
theorem updG_me (G:Int→List Rc) (me:Int) (R:List Rc):updG G me R me=R:=if_pos rfl
theorem updG_le {G:Int→List Rc} {me:Int} {R:List Rc} (h:G me <+:R):GLe G (updG G me R):=fun f=>by
 unfold updG
 split
 ·rename_i e;rw [e];exact h
 ·exact List.prefix_refl _
theorem Glob.sync {G:Int→List Rc} {n:Nat} {P:Int→List UInt8→Prop} (h:Glob G n P) {me:Int} {R:List Rc} (hsub:G me <+:R) (hm:∀r∈R,r.May) (hg:Good R)
  (hr:∀r∈R,r.kind=2→RecP G P me n r) (h1:∀x b v u,b.s=me→has R x b v→has R x b u→v=u):Glob (updG G me R) n P:=by
 have hle:=updG_le hsub
 have at_me:∀{x:Int} {b:Bl} {v:List UInt8},b.s=me→has (updG G me R b.s) x b v→has R x b v:=fun {x b v} e hv=>by rw [e,updG_me] at hv;exact hv
 have off:∀{f x:Int} {b:Bl} {v:List UInt8},f≠me→has (updG G me R f) x b v→has (G f) x b v:=fun {f x b v} e hv=>by unfold updG at hv;rwa [if_neg e] at hv
 refine ⟨fun f r hr'=>?_,fun f=>?_,fun f x b v hv=>?_,fun x b v u hv hu=>?_,fun x b v hv hb=>?_,fun x b v hv hb=>?_⟩
 ·unfold updG at hr'
  split at hr'
  ·exact hm r hr'
  ·exact h.may f r hr'
 ·unfold updG
  split
  ·exact hg
  ·exact h.good f
 ·by_cases e:f=me
  ·subst e
   rw [updG_me] at hv
   by_cases e2:b.s=f
   ·rw [e2,updG_me];exact hv
   ·have:=(hr _ hv rfl).far e2
    exact has.mono (show has (G b.s) x b v from this) (hle _)
  ·exact (h.back f x b v (off e hv)).mono (hle _)
 ·by_cases e:b.s=me
  ·exact h1 x b v u e (at_me e hv) (at_me e hu)
  ·exact h.one x b v u (off e hv) (off e hu)
 ·by_cases e:b.s=me
  ·have:=(hr _ (at_me e hv) rfl).low e hb
   rw [e];exact this
  ·exact h.low x b v (off e hv) hb
 ·by_cases e:b.s=me
  ·have:=(hr _ (at_me e hv) rfl).high e hb
   exact Choice.mono (show Choice G x b v n from this) hle
  ·exact (h.high x b v (off e hv) hb).mono hle
structure PD (G:Int→List Rc) (P:Int→List UInt8→Prop) (s:Site):Prop where
 dn:Dn s (G s.me)
 dec:∀p∈s.lv,Dec G s.n p.1 p.2
 recs:∀r∈(readB s.db).1,r.kind=2→RecP G P s.me s.n r
 one:∀x b v u,b.s=(s.me:Int)→has (readB s.db).1 x b v→has (readB s.db).1 x b u→v=u
theorem PD.mono {G G':Int→List Rc} {P P':Int→List UInt8→Prop} {s:Site} (h:PD G P s) (hg:GLe G G') (hp:∀x v,P x v→P' x v) (he:G' s.me=G s.me):PD G' P' s:=
 ⟨by rw [he];exact h.dn,fun p hp=>(h.dec p hp).mono hg,fun r hr hk=>(h.recs r hr hk).mono hg hp,h.one⟩
namespace PA
variable {G G':Int→List Rc} {P P':Int→List UInt8→Prop} {s t:Site} {R:List Rc} {z:Nat}
theorem new (G:Int→List Rc) (P:Int→List UInt8→Prop) {me n pat:Nat} (h:newOk me n pat=true) (hG:G me= []):PA G P (Site.new me n pat) [] 400000000:=
 ⟨by show Alive _ (G me) [] _;rw [hG];exact Alive.new h,by simp [Site.new],by simp [Site.new],by simp [Site.new],by simp,fun x b v u _ h=>by cases h⟩
theorem submit (h:PA G P s R z) (v:List UInt8) (hP:(s.submit v).2.2=0→P (s.submit v).2.1 v) {y:Nat} (hy:20 + y≤z):GrowP G P (s.submit v).1 R y:=by
 by_cases hv:v.length=0∨2048 < v.length
 ·unfold Site.submit
  rw [if_neg (by rw [h.al.up];simp),if_pos hv]
  exact (h.less (by omega)).grow
 ·rw [Site.submit_eq s v h.al.up (by omega) (by omega)] at hP ⊢
  have hr:=nextI_range (s.me:Int) s.nx s.n
  have hx:=s.free_lt 4096 (nextI s.me s.nx s.n) (by omega)
  have hfo:=s.free_ok 4096 (nextI s.me s.nx s.n) (by omega) (fun h0=>by omega) (fun h0=>nextI_owner h0)
  generalize s.free 4096 (nextI s.me s.nx s.n)=x at *
  unfold Site.subAt at hP ⊢
  split
  ·exact (h.less (by omega)).grow
  rename_i hx0
  rw [if_neg hx0] at hP
  split
  ·exact (h.less (by omega)).grow
  ·rename_i t ha
   rw [ha] at hP
   obtain ⟨hfr,hown⟩:=hfo (by omega)
   obtain ⟨h2,h3,h4⟩:=h.acc (by omega) h.al.ok.own (by omega) ha (ownRec hown (.inr (hP rfl))) (fun _ u=>h.fresh_no hfr _ u) h.ownRnd
   obtain ⟨e1,e2,e3,e4,e5⟩:=acc_fr ha
   have h5:PA G P {t with nx:=(x + 1).toNat,rs:=putG x (⟨s.ownB,[],true,v,[],0⟩:Rn) t.rs} (R ++ [(⟨2,x,s.ownB.r,s.ownB.s,v⟩:Rc)]) z:=
    (h2.setNx (k:=(x + 1).toNat) (by omega)).setRs (r:=(⟨s.ownB,[],true,v,[],0⟩:Rn)) (by omega) ⟨by show v.length≤2048;omega,h.al.ok.own,by simp⟩ (fun _=>h3)
     ⟨by show (s.me:Int)=(t.me:Int);rw [e1],fun _=>h4,(by intro e;cases e),by simp,by simp⟩ (Nat.le_refl _) (by have:=h2.al.lim;simp;omega)
   have h6:=h5.others (m:=Site.asks ⟨s.ownB,[],true,v,[],0⟩ x) (Site.asks_fit (by omega) h.al.ok.own (by show v.length≤2048;omega)) (by
    have e:(Site.asks ⟨s.ownB,[],true,v,[],0⟩ x).slot=x:=by unfold Site.asks;split <;> rfl
    rw [e]
    exact Alive.asksK (x:=x) (t:=t.stat x) fun _=>h3) (fun tg=>MsgP.asks (fun _=>h4) (by show (s.me:Int)=(t.me:Int);rw [e1]) tg) (y:=8 + y) (by omega)
   refine ⟨_,List.prefix_append _ _,h6.votesTo (by omega) h.al.ok.own ?_ h4 h2.al.me6 (Nat.le_refl _)⟩
   rw [Site.others_eq]
   exact h3
theorem handle (hG:Glob G s.n P) (h:PA G P s R z) {m:Ms} (hp:MsgP G s.n (G m.frm) m) {y:Nat} (hy:100 + y≤z):GrowP G P (s.handle m).1 R y:=by
 unfold Site.handle
 rw [if_neg (by rw [h.al.up];simp)]
 split
 ·exact (h.less (by omega)).grow
 rename_i hm
 split
 ·exact (h.less (by omega)).grow
 ·rename_i hc
  have hw:∀x∈s.wt.set m.frm.toNat 0,0≤x:=fun x hx=>by
   rcases List.mem_or_eq_of_mem_set hx with hx | rfl
   ·exact h.al.wt x hx
   ·omega
  exact take (s:={s with wt:=s.wt.set m.frm.toNat 0}) hG (h.setWt hw) h.al.pre (by simpa using hm) hp (.inl fun e=>hc (.inr (.inl e))) (by have:=costK_le m.kind;omega)
theorem olds (h:PA G P s R z) {y:Nat} (hy:1 + y≤z):PA G P {s with rs:=mapG (fun r=>{r with age:=r.age + 1}) s.rs} R y:=
 ⟨h.al.olds hy,h.msg,fun p hp=>by
  obtain ⟨q,hq,rfl⟩:=List.mem_map.1 hp
  have k:=h.rnd q hq
  exact ⟨k.bal,k.yes,k.no,k.vt,k.pr⟩,h.dec,h.recs,h.one⟩
theorem asksN:∀(l:List (Int × Rn)) (s:Site) (z:Nat),PA G P s R z→(∀p∈l,((0≤p.1∧p.1 < 4096∧p.2.b.length≤2048∧p.2.bal.may 7=true)∧(p.2.so=true→keptP (s.stat p.1) 1 p.2.bal))∧(p.2.so=true→has R p.1 p.2.bal p.2.b)∧p.2.bal.s=(s.me:Int))→∀y,6 * l.length + y≤z→
  PA G P (l.foldl (fun u p=>u.others (Site.asks p.2 p.1) u.n) s) R y
 | [],s,z,h,_,y,hy=>h.less (by simpa using hy)
 | p :: l,s,z,h,hl,y,hy=>by
  rw [List.length_cons] at hy
  obtain ⟨⟨⟨h1,h2,h3,h4⟩,h5⟩,h6,h7⟩:=hl p (by simp)
  have e:(Site.asks p.2 p.1).slot=p.1:=by unfold Site.asks;split <;> rfl
  have h8:=h.others (m:=Site.asks p.2 p.1) (Site.asks_fit ⟨h1,h2⟩ h4 h3) (by rw [e];exact Alive.asksK h5) (fun tg=>MsgP.asks h6 h7 tg) (y:=6 * l.length + y) (by omega)
  refine asksN l _ _ h8 (fun q hq=>?_) y (Nat.le_refl _)
  rw [Site.others_eq]
  exact hl q (by simp [hq])
theorem again (h:PA G P s R z) {y:Nat} (hy:49 + y≤z):PA G P s.again R y:=by
 unfold Site.again
 refine asksN _ _ _ (h.olds (y:=48 + y) (by omega)) (fun p hp=>?_) y (by rw [List.length_take];omega)
 have hp':=List.mem_of_mem_take hp
 have:=h.al.ok.rs p hp'
 have k:=h.rnd p hp'
 exact ⟨⟨⟨this.1,this.2.1,this.2.2.1,this.2.2.2.1⟩,h.al.rds p hp'⟩,k.yes,k.bal⟩
theorem begins:∀(l:List Int) (s:Site) (R:List Rc) (z:Nat),PA G P s R z→(∀x∈l,0≤x∧x < 4096)→∀y,22 * l.length + y≤z→GrowP G P (l.foldl Site.begin_ s) R y
 | [],s,R,z,h,_,y,hy=>(h.less (by simpa using hy)).grow
 | x :: l,s,R,z,h,hl,y,hy=>by
  rw [List.length_cons] at hy
  obtain ⟨R',h1,h2⟩:=h.begin_ (hl x (by simp)) (y:=22 * l.length + y) (by omega)
  obtain ⟨R2,h3,h4⟩:=begins l _ R' _ h2 (fun q hq=>hl q (by simp [hq])) y (Nat.le_refl _)
  exact ⟨R2,h1.trans h3,h4⟩
theorem tick (h:PA G P s R z) {y:Nat} (hy:300 + y≤z):GrowP G P s.tick R y:=by
 have h0:=h.setWt (l:=tickG s.me s.wt s.n) (tickG_nn _ h.al.wt _)
 have h1:PA G P s.tick1 R (250 + y):=h0.again (by omega)
 obtain ⟨R3,p3,h3⟩:GrowP G P s.tick3 R (190 + y):=h1.skip _ (by omega)
 have hl8:(s.tick3.late s.tick3.topA).length≤8:=by unfold Site.late;rw [List.length_take];omega
 have hlr:∀x∈s.tick3.late s.tick3.topA,0≤x∧x < 4096:=fun x hx=>by have:=Site.late_in _ hx;have:=h3.al.topA;omega
 obtain ⟨R4,p4,h4⟩:GrowP G P s.tick4 R3 (6 + y):=begins _ _ _ _ h3 hlr (6 + y) (by omega)
 refine ⟨R4,p3.trans p4,?_⟩
 rw [Site.tick_eq _ h.al.up]
 split
 ·rename_i hf
  refine h4.others (m:=Site.ask_ s.tick4.front (decide ((s.tick4.front:Int) < s.tick3.topA))) ?_ (by intro e;revert e;simp [Site.ask_,Ms.Tells]) (fun tg=>MsgP.triv (.inr rfl)) (by omega)
  refine ⟨by simp [Site.ask_],by simp,by simp,by simp [Site.ask_];omega,by simp [Site.ask_],by simp [Site.ask_],by simp [Site.ask_],by simp [Site.ask_],by simp [Site.ask_],by simp [Site.ask_]⟩
 ·exact h4.less (by omega)
theorem sync (hG:Glob G s.n P) (h:PA G P s R z):Glob (updG G s.me R) s.n P∧GrowP (updG G s.me R) P s.sync.1 R z∧∀m∈s.sync.2,m.May∧m.frm=(s.me:Int)∧m.to≠(s.me:Int)∧MsgP (updG G s.me R) s.n (updG G s.me R m.frm) m:=by
 have hle:=updG_le h.al.pre
 have hG':=hG.sync h.al.pre h.al.may h.al.good h.recs h.one
 have hal:Alive {s with dn:=s.db.length,held:=[]} R R (wgt s.me s.held + z):=by
  have hx:=h.al
  refine ⟨hx.ok.put (l:=[]) (by simp) |>.disk s.db s.db.length,hx.up,hx.may,hx.db,hx.good,List.prefix_refl _,by show s.db.length=_;rw [hx.db],hx.st,by simp,hx.rds,by have:=hx.lim;simp [wgt];simp [wgt] at this;omega,fun p hp=>?_,hx.wt,hx.lv⟩
  have:=hx.rlim p hp
  show _ + wgt s.me [] + _≤_
  rw [wgt_nil]
  omega
 have h1:PA (updG G s.me R) P {s with dn:=s.db.length,held:=[]} R (wgt s.me s.held + z):=
  ⟨by show Alive _ (updG G s.me R s.me) R _;rw [updG_me];exact hal,by simp,fun p hp=>(h.rnd p hp).mono hle,fun p hp=>(h.dec p hp).mono hle,fun r hr hk=>(h.recs r hr hk).mono hle (fun _ _ h=>h),h.one⟩
 have hmsg:∀m∈s.held,MsgP (updG G s.me R) s.n (updG G s.me R m.frm) m:=fun m hm=>by
  obtain ⟨e1,e2,-⟩:=h.msg m hm
  rw [e1,updG_me]
  exact e2.mono hle (List.prefix_refl _)
 have h2:=takes (s.held.filter fun m=>decide (m.to=(s.me:Int))) {s with dn:=s.db.length,held:=[]} R _ hG' h1 (by show updG G s.me R s.me <+:R;rw [updG_me];exact List.prefix_refl _) (fun m hm=>by
  obtain ⟨h3,h4⟩:=List.mem_filter.1 hm
  exact ⟨h.al.ok.held m h3,hmsg m h3,.inr ((h.msg m h3).2.2 (of_decide_eq_true h4))⟩) z (by have:=wgt_own s.me s.held;omega)
 refine ⟨hG',?_,fun m hm=>?_⟩
 ·unfold Site.sync
  rw [if_neg (by rw [h.al.up];simp)]
  exact h2
 ·unfold Site.sync at hm
  rw [if_neg (by rw [h.al.up];simp)] at hm
  obtain ⟨h3,h4⟩:=List.mem_filter.1 hm
  exact ⟨h.al.ok.held m h3,(h.msg m h3).1,of_decide_eq_true h4,hmsg m h3⟩
theorem crash (h:PA G P s R z) (k:Int):PD G P (s.crash k):=by
 have hd:=h.al.crash k
 have hk:=h.al
 have hpre:=layB_pre hk.pre
 have hle:(layB (G s.me)).length≤s.kept k∧s.kept k≤(layB R).length:=by
  unfold Site.kept
  rw [hk.dn,hk.db]
  omega
 obtain ⟨m,h1,h2,-⟩:=readB_torn hk.may (s.kept k) hle.2
 have e:(readB (s.crash k).db).1=R.take m:=by
  unfold Site.crash
  rw [if_neg (by rw [hk.up];simp)]
  show (readB (s.db.take (s.kept k))).1=_
  rw [hk.db,h2]
 have hsub:∀{r:Rc},r∈(readB (s.crash k).db).1→r∈R:=fun {r} hr=>by rw [e] at hr;exact List.mem_of_mem_take hr
 have hkin:(s.crash k).me=s.me∧(s.crash k).n=s.n∧(s.crash k).lv=s.lv:=by
  unfold Site.crash
  rw [if_neg (by rw [hk.up];simp)]
  exact ⟨rfl,rfl,rfl⟩
 refine ⟨by rw [hkin.1];exact hd,fun p hp=>?_,fun r hr hk2=>?_,fun x b v u hb hv hu=>?_⟩
 ·rw [hkin.2.2] at hp;rw [hkin.2.1];exact h.dec p hp
 ·rw [hkin.1,hkin.2.1];exact h.recs r (hsub hr) hk2
 ·rw [hkin.1] at hb
  exact h.one x b v u hb (hsub hv) (hsub hu)
end PA
theorem PD.restart {G:Int→List Rc} {P:Int→List UInt8→Prop} {s:Site} (hG:Glob G s.n P) (h:PD G P s):Glob (updG G s.me (readB s.db).1) s.n P∧PA (updG G s.me (readB s.db).1) P s.restart (readB s.db).1 400000000∧GLe G (updG G s.me (readB s.db).1)∧s.restart.me=s.me∧s.restart.n=s.n:=by
 have hle:=updG_le h.dn.pre
 obtain ⟨k1,k2,k3⟩:=readB_ok s.db
 have hG':=hG.sync h.dn.pre k3 h.dn.good h.recs h.one
 have h0:({Site.new s.me s.n s.pat with db:=s.db.take (readB s.db).2,dn:=min s.dn (readB s.db).2} :Site).Ok:=(Go.Proofs.YtijhlbeipglieaaGreat.Site.new_ok h.dn.ok.newOk).disk _ _
 have h1:=recall_all (readB s.db).1 [] _ h0 k3 (fun x=>rfl)
 rw [List.nil_append] at h1
 have hd:min s.dn (readB s.db).2=(s.db.take (readB s.db).2).length:=by rw [h.dn.dn,List.length_take];omega
 have e:s.restart=(readB s.db).1.foldl Site.recall {Site.new s.me s.n s.pat with db:=s.db.take (readB s.db).2,dn:=min s.dn (readB s.db).2}:=by
  unfold Site.restart
  rw [if_pos h.dn.down]
 have hme:s.restart.me=s.me:=by rw [e,h1.me];rfl
 have hn:s.restart.n=s.n:=by rw [e,h1.n];rfl
 have hal:Alive s.restart (readB s.db).1 (readB s.db).1 400000000:=by
  rw [e]
  refine ⟨h1.ok,h1.down,k3,by rw [h1.db];exact k2.symm,h.dn.good,List.prefix_refl _,?_,h1.st,?_,?_,?_,?_,?_,?_⟩
  ·rw [h1.dn,k2];exact hd
  ·rw [h1.held];intro m hm;cases hm
  ·rw [h1.rs];intro p hp;cases hp
  ·rw [h1.held];simp [Site.new,wgt]
  ·rw [h1.rs];intro p hp;cases hp
  ·rw [h1.wt];exact wt_new s.me s.n s.pat
  ·rw [h1.lv];intro p hp;cases hp
 refine ⟨hG',⟨by rw [hme,updG_me];exact hal,?_,?_,?_,fun r hr hk=>?_,fun x b v u hb=>?_⟩,hle,hme,hn⟩
 ·rw [e,h1.held];intro m hm;cases hm
 ·rw [e,h1.rs];intro p hp;cases hp
 ·rw [e,h1.lv];intro p hp;cases hp
 ·rw [hme,hn];exact (h.recs r hr hk).mono hle (fun _ _ h=>h)
 ·rw [hme] at hb;exact h.one x b v u hb
end Agio
