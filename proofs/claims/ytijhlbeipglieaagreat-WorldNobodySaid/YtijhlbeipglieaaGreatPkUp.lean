/- Merged: PlainUp2, PlainUp3, PlainActs. -/
import Derived.Test.YtijhlbeipglieaaGreatPkKeep
import Derived.Test.YtijhlbeipglieaaGreatPkHandC
import Derived.Test.YtijhlbeipglieaaGreatPkLate
set_option linter.all false
namespace Agio
open Go Go.Proofs.YtijhlbeipglieaaGreat
namespace Alive
variable {s t:Site} {S R:List Rc} {z:Nat}
theorem held_le (h:Alive s S R z):s.held.length + z≤400000000:=by have:=h.lim;have:=wgt_len s.me s.held;omega
theorem qt (h:Alive s S R z) (m:Ms):Qt s m:=⟨fun x=>h.fit x,by have:=h.held_le;omega,fun p hp=>by have:=h.rlim p hp;omega⟩
theorem topA (h:Alive s S R z):s.topA≤4096:=by
 have h1:=h.ok.top.2
 have h2:=(topG_range s.lv fun p hp=>⟨(h.lv p hp).1,(h.lv p hp).2.1⟩).2
 unfold Site.topA
 omega
theorem dec_len (h:Alive s S R z) {x:Int} {v:List UInt8} (hv:s.dec x=some v):v.length≤2048:=(h.lv _ (lookG_some hv)).2.2
theorem me6 (h:Alive s S R z):0≤(s.me:Int)∧(s.me:Int)≤6:=by have:=h.ok.me;have:=h.ok.n7;omega
theorem wgtMe {s:Site} {m:Ms} {tg:Int} {c:Nat} (hc:costK m.kind≤c):wgt1 s.me (Ms.mk m.kind (s.me:Int) tg m.slot m.bround m.bsite m.hround m.hsite m.some_ m.val)≤c:=Nat.le_trans (wgt1_le _ _) hc
theorem tellTo (h:Alive s S R z) {m:Ms} (hf:m.Fit) {tg:Int} (ht:0≤tg∧tg≤6) (hk:keptM (s.stat m.slot) m) {y:Nat} (hz:costK m.kind + y≤z):Alive (s.send tg m) S R y:=
 h.send hf ht hk (wgtMe (Nat.le_refl _)) hz
theorem accept_grow (h:Alive s S R z) {x:Int} (hx:0≤x∧x < 4096) {b:Bl} (hb:b.may 7=true) {v:List UInt8} (hv:v.length≤2048) (hn:s.accept x b v=some t):∃R',R <+:R'∧Alive t S R' z∧keptP (t.stat x) 1 b:=by
 obtain ⟨⟨r,h1⟩,h2⟩:=h.accept hx hb hv hn
 exact ⟨_,List.prefix_append _ _,h1,h2⟩
theorem skip1 (h:Alive t S R z) {b:Bl} (hb:b.may 7=true) {x:Int} (hx:0≤x∧x < 4096) (hk:keptP (t.stat x) 1 b) {y:Nat} (hy:7 + y≤z):Alive (t.skip1 b x) S R y:=by
 have hf:=Site.skips_fit hx hb
 have hkm:∀t':Site,t'.stat x=t.stat x→keptM (t'.stat (Site.skips x b).slot) (Site.skips x b):=fun t' e _=>by
  show keptP (t'.stat x) 2 b
  rw [e];exact hk.kind (by decide)
 have h1:=h.othersN hf (hkm t rfl) (y:=1 + y) (by omega)
 have e1:(t.others (Site.skips x b) t.n).stat x=t.stat x:=by rw [Site.others_eq];rfl
 have h2:=h1.tellTo hf (tg:=(t.me:Int)) h.me6 (hkm _ e1) (y:=y) (by simp [Site.skips,costK])
 exact h2.setNx (by omega)
theorem skipF:∀(f c:Nat) (s:Site) (R:List Rc) (z:Nat),Alive s S R z→∀(tg:Int) (y:Nat),7 * (8 - c) + y≤z→Grow s (Site.skipF f c s tg) S R y
 | 0,_,s,R,z,h,_,y,hy=>(h.less (by omega)).grow
 | f + 1,c,s,R,z,h,tg,y,hy=>by
  unfold Site.skipF
  split
  ·exact (h.less (by omega)).grow
  rename_i hc
  split
  ·exact (h.less (by omega)).grow
  rename_i hx
  have hr:=nextI_range (s.me:Int) s.nx s.n
  have hx2:0≤nextI s.me s.nx s.n∧nextI s.me s.nx s.n < 4096:=by omega
  split
  ·split
   ·exact (h.less (by omega)).grow
   ·rename_i t ha
    obtain ⟨R',h1,h2,h3⟩:=h.accept_grow hx2 h.ok.own (by simp) ha
    have h4:=h2.skip1 h.ok.own hx2 h3 (y:=7 * (8 - (c + 1)) + y) (by omega)
    obtain ⟨R2,h5,h6⟩:=skipF f (c + 1) _ R' _ h4 tg y (Nat.le_refl _)
    exact ⟨R2,h1.trans h5,h6⟩
  ·exact skipF f c _ R z (h.setNx (by omega)) tg y hy
theorem skip (h:Alive s S R z) (tg:Int) {y:Nat} (hy:56 + y≤z):Grow s (s.skip tg) S R y:=skipF _ _ s R z h tg y (by omega)
theorem low_may (h:Alive s S R z) (x:Int):(s.low x).may 7=true:=by
 unfold Site.low
 split
 ·rename_i r hr
  split
  ·exact (h.ok.rs _ (lookG_some hr)).2.2.2.1
  ·exact (h.ok.stat x).2.1
 ·exact (h.ok.stat x).2.1
theorem begin_ (h:Alive s S R z) {x:Int} (hx:0≤x∧x < 4096) {y:Nat} (hy:22 + y≤z):Grow s (s.begin_ x) S R y:=by
 have hb:=Bl.next_may (h.low_may x) (me:=s.me) (by have:=h.me6;omega)
 unfold Site.begin_
 split
 ·exact (h.less (by omega)).grow
 split
 ·exact (h.less (by omega)).grow
 ·rename_i t ha
  obtain ⟨⟨rc,h1⟩,h2⟩:=h.promise hx hb ha
  have h3:Alive {t with rs:=putG x (⟨(s.low x).next s.me,[],false,[],[],0⟩:Rn) t.rs} S (R ++ [rc]) z:=h1.setRs hx (by exact ⟨by simp,hb,by simp⟩) (by intro e;cases e) (Nat.le_refl _) (by have:=h1.lim;simp;omega)
  have hn:t.n=s.n:=(Site.promise_fr ha).2.1
  have h4:=h3.othersN (m:=Site.asks (⟨(s.low x).next s.me,[],false,[],[],0⟩:Rn) x) (Site.asks_fit hx hb (by simp)) (by intro e;revert e;simp [Site.asks,Ms.Tells]) (y:=16 + y) (by omega)
  have h4:Alive (({t with rs:=putG x (⟨(s.low x).next s.me,[],false,[],[],0⟩:Rn) t.rs} :Site).others (Site.asks (⟨(s.low x).next s.me,[],false,[],[],0⟩:Rn) x) s.n) S (R ++ [rc]) (16 + y):=by rw [←hn];exact h4
  have e1:(({t with rs:=putG x (⟨(s.low x).next s.me,[],false,[],[],0⟩:Rn) t.rs} :Site).others (Site.asks (⟨(s.low x).next s.me,[],false,[],[],0⟩:Rn) x) s.n).stat x=t.stat x:=by rw [Site.others_eq];rfl
  refine (⟨_,List.prefix_append _ _,h4.tellTo (Site.answer_fit h4.ok hx hb (h4.fit x)) h4.me6 ?_ ?_⟩:Grow _ _ _ _ _)
  ·intro _
   show keptP (Site.stat _ x) 4 _
   rw [e1];exact h2
  ·show costK 4 + y≤_
   simp [costK]
theorem votesTo (h:Alive s S R z) {x:Int} (hx:0≤x∧x < 4096) {b:Bl} (hb:b.may 7=true) (hk:keptP (s.stat x) 1 b) {tg:Int} (ht:0≤tg∧tg≤6) {y:Nat} (hy:8 + y≤z):Alive (s.send tg (Site.votes x b)) S R y:=
 h.tellTo (Site.votes_fit hx hb) ht (fun _=>by show keptP (s.stat x) 6 b;exact hk.kind (by decide)) (by show costK 6 + y≤z;simp [costK];omega)
theorem asksK {r:Rn} {x:Int} {t:Sp} (hk:r.so=true→keptP t 1 r.bal):keptM t (Site.asks r x):=by
 intro ht
 unfold Site.asks at ht ⊢
 split
 ·rename_i e
  rw [if_pos e] at ht
  show keptP t _ r.bal
  dsimp only
  split
  ·exact hk e
  ·rename_i e2
   rw [if_neg e2] at ht
   revert ht
   simp [Ms.Tells]
 ·rename_i e
  rw [if_neg e] at ht
  revert ht
  simp [Ms.Tells]
theorem may_bal {m:Ms} (hm:m.May):m.bal.may 7=true:=Bl.may7.2 ⟨hm.bround,hm.bsite⟩
theorem may_slot {m:Ms} (hm:m.May):0≤m.slot∧m.slot < 4096:=by have:=hm.slot;omega
theorem suggested (h:Alive s S R z) {m:Ms} (hm:m.May) {y:Nat} (hy:100 + y≤z):Grow s (s.suggested m) S R y:=by
 unfold Site.suggested
 split
 ·split
  ·rename_i t ha
   obtain ⟨R',h1,h2,h3⟩:=h.accept_grow (may_slot hm) (may_bal hm) hm.val ha
   have h4:=h2.votesTo (may_slot hm) (may_bal hm) h3 hm.frm (y:=56 + y) (by omega)
   obtain ⟨R2,h5,h6⟩:=h4.skip m.slot (y:=y) (Nat.le_refl _)
   exact ⟨R2,h1.trans h5,h6⟩
  ·exact h.skip _ (by omega)
 ·exact (h.less (by omega)).grow
theorem prepared (h:Alive s S R z) {m:Ms} (hm:m.May) {y:Nat} (hy:100 + y≤z):Grow s (s.prepared m) S R y:=by
 unfold Site.prepared
 split
 ·split
  ·rename_i t ha
   obtain ⟨⟨rc,h1⟩,h2⟩:=h.promise (may_slot hm) (may_bal hm) ha
   exact ⟨_,List.prefix_append _ _,h1.tellTo (Site.answer_fit h1.ok (may_slot hm) (may_bal hm) (h1.fit _)) hm.frm (fun _=>h2) (by show costK 4 + y≤_;simp [costK];omega)⟩
  ·exact (h.less (by omega)).grow
 ·exact (h.less (by omega)).grow
theorem asked (h:Alive s S R z) {m:Ms} (hm:m.May) {y:Nat} (hy:100 + y≤z):Grow s (s.asked m) S R y:=by
 unfold Site.asked
 split
 ·split
  ·rename_i t ha
   obtain ⟨R',h1,h2,h3⟩:=h.accept_grow (may_slot hm) (may_bal hm) hm.val ha
   exact ⟨R',h1,h2.votesTo (may_slot hm) (may_bal hm) h3 hm.frm (by omega)⟩
  ·exact (h.less (by omega)).grow
 ·exact (h.less (by omega)).grow
theorem promised (h:Alive s S R z) {m:Ms} (hm:m.May) {y:Nat} (hy:16 + y≤z):Grow s (s.promised m) S R y:=by
 unfold Site.promised
 split
 ·exact (h.less (by omega)).grow
 rename_i r hr
 have hrm:=lookG_some hr
 have hro:=h.ok.rs _ hrm
 have hlr:=h.rlim _ hrm
 split
 ·rename_i hbs
  have hpl:∀q∈r.pr ++ [(⟨m.frm,m.some_,m.had,m.val⟩:Pm)],q.b.length≤2048:=fun q hq=>by
   rcases List.mem_append.1 hq with hq | hq
   ·exact hro.2.2.2.2 q hq
   ·rw [List.mem_singleton] at hq;subst hq;exact hm.val
  have h1:Alive {s with rs:=putG m.slot {r with pr:=r.pr ++ [(⟨m.frm,m.some_,m.had,m.val⟩:Pm)]} s.rs} S R (z - 1):=
   h.setRs (r:={r with pr:=r.pr ++ [(⟨m.frm,m.some_,m.had,m.val⟩:Pm)]}) (may_slot hm) ⟨hro.2.2.1,hro.2.2.2.1,hpl⟩ (by intro e;have e':r.so=true:=e;rw [hbs.2] at e';cases e') (by omega) (by simp only [List.length_append,List.length_singleton];dsimp only at hlr;omega)
  simp only
  split
  ·exact (h1.less (by omega)).grow
  ·rename_i v hv
   have hvl:=choose_len hpl hv
   split
   ·exact ((h1.delRs _).less (by omega)).grow
   ·rename_i u hu
    obtain ⟨R',h2,h3,h4⟩:=h1.accept_grow (may_slot hm) hro.2.2.2.1 hvl hu
    have hfr:=Site.accept_fr hu
    have hlu:u.held=s.held∧u.me=s.me∧u.n=s.n:=⟨hfr.2.2.1,hfr.1,hfr.2.1⟩
    have h5:Alive {u with rs:=putG m.slot {r with pr:=r.pr ++ [(⟨m.frm,m.some_,m.had,m.val⟩:Pm)],so:=true,b:=v} u.rs} S R' (z - 1):=
     h3.setRs (r:={r with pr:=r.pr ++ [(⟨m.frm,m.some_,m.had,m.val⟩:Pm)],so:=true,b:=v}) (may_slot hm) ⟨hvl,hro.2.2.2.1,hpl⟩ (fun _=>h4) (Nat.le_refl _) (by rw [hlu.1,hlu.2.1];simp only [List.length_append,List.length_singleton];dsimp only at hlr;omega)
    have h6:=h5.othersN (m:=Site.asks {r with pr:=r.pr ++ [(⟨m.frm,m.some_,m.had,m.val⟩:Pm)],so:=true,b:=v} m.slot) (Site.asks_fit (may_slot hm) hro.2.2.2.1 hvl) (asksK (x:=m.slot) fun _=>by
     have:(Site.asks {r with pr:=r.pr ++ [(⟨m.frm,m.some_,m.had,m.val⟩:Pm)],so:=true,b:=v} m.slot).slot=m.slot:=by unfold Site.asks;split <;> rfl
     rw [this];exact h4) (y:=8 + y) (by omega)
    have h6:Alive (({u with rs:=putG m.slot {r with pr:=r.pr ++ [(⟨m.frm,m.some_,m.had,m.val⟩:Pm)],so:=true,b:=v} u.rs} :Site).others (Site.asks {r with pr:=r.pr ++ [(⟨m.frm,m.some_,m.had,m.val⟩:Pm)],so:=true,b:=v} m.slot) s.n) S R' (8 + y):=by rw [←hlu.2.2];exact h6
    refine ⟨R',h2,h6.votesTo (may_slot hm) hro.2.2.2.1 ?_ h.me6 (Nat.le_refl _)⟩
    rw [Site.others_eq]
    exact h4
 ·exact (h.less (by omega)).grow
theorem tellsN (h:Alive s S R z) {x:Int} (hx:0≤x∧x < 4096) {v:List UInt8} (hv:v.length≤2048) {y:Nat} (hy:6 + y≤z):Alive (s.others (Site.tells x v) s.n) S R y:=
 h.othersN (Site.tells_fit hx hv) (by intro e;revert e;simp [Site.tells,Ms.Tells]) hy
theorem tellsTo (h:Alive s S R z) {x:Int} (hx:0≤x∧x < 4096) {v:List UInt8} (hv:v.length≤2048) {tg:Int} (ht:0≤tg∧tg≤6) {y:Nat} (hy:1 + y≤z):Alive (s.send tg (Site.tells x v)) S R y:=
 h.tellTo (Site.tells_fit hx hv) ht (by intro e;revert e;simp [Site.tells,Ms.Tells]) (by show costK 7 + y≤z;simp [costK];omega)
theorem accepted (h:Alive s S R z) {m:Ms} (hm:m.May) {y:Nat} (hy:8 + y≤z):Grow s (s.accepted m) S R y:=by
 unfold Site.accepted
 split
 ·exact (h.less (by omega)).grow
 rename_i r hr
 have hrm:=lookG_some hr
 have hro:=h.ok.rs _ hrm
 have hlr:=h.rlim _ hrm
 split
 ·rename_i hbs
  have h1:Alive {s with rs:=putG m.slot {r with vt:=r.vt ++ [(m.frm,(⟨m.bround,m.bsite⟩:Bl))]} s.rs} S R (z - 1):=
   h.setRs (r:={r with vt:=r.vt ++ [(m.frm,(⟨m.bround,m.bsite⟩:Bl))]}) (may_slot hm) hro.2.2 (fun e=>h.rds _ hrm e) (by omega) (by simp only [List.length_append,List.length_singleton];dsimp only at hlr;omega)
  simp only
  split
  ·have h2:=h1.decide_ m.slot r.b
   have hn:=(Site.kin_decide ({s with rs:=putG m.slot {r with vt:=r.vt ++ [(m.frm,(⟨m.bround,m.bsite⟩:Bl))]} s.rs}) m.slot r.b).n
   have h3:=h2.tellsN (may_slot hm) hro.2.2.1 (y:=y) (by omega)
   rw [hn] at h3
   exact h3.grow
  ·exact (h1.less (by omega)).grow
 ·exact (h.less (by omega)).grow
theorem sends (tg:Int) (ht:0≤tg∧tg≤6) (D:Int→Option (List UInt8)) (hD:∀x v,D x=some v→v.length≤2048):∀(l:List Int) (s:Site) (z:Nat),Alive s S R z→(∀x∈l,0≤x∧x < 4096)→∀y,l.length + y≤z→
  Alive (l.foldl (fun u x=>u.send tg (Site.tells x ((D x).getD []))) s) S R y
 | [],s,z,h,_,y,hy=>h.less (by simpa using hy)
 | x :: l,s,z,h,hl,y,hy=>by
  have hv:((D x).getD []).length≤2048:=by
   cases e:D x with
   | none=>simp
   | some v=>exact hD x v e
  rw [List.length_cons] at hy
  exact sends tg ht D hD l _ _ (h.tellsTo (hl x (by simp)) hv ht (y:=l.length + y) (by omega)) (fun q hq=>hl q (by simp [hq])) y (Nat.le_refl _)
theorem wanted (h:Alive s S R z) {m:Ms} (hm:m.May) {y:Nat} (hy:100 + y≤z):Grow s (s.wanted m) S R y:=by
 have key:∀{t:Site} {R':List Rc},Alive t S R' (16 + y)→Alive ((((List.range' m.slot.toNat ((topG t.lv).toNat - m.slot.toNat)).map fun (i:Nat)=>(i:Int)).filter fun x=>(t.dec x).isSome).take 16 |>.foldl (fun u x=>u.send m.frm (Site.tells x ((t.dec x).getD []))) t) S R' y:=by
  intro t R' ht
  refine sends m.frm hm.frm t.dec (fun x v=>ht.dec_len) _ t _ ht (fun x hx=>?_) y ?_
  ·have h1:=List.mem_of_mem_take hx
   obtain ⟨h2,h3⟩:=List.mem_filter.1 h1
   cases e:t.dec x with
   | none=>rw [e] at h3;cases h3
   | some v=>exact ⟨(ht.lv _ (lookG_some e)).1,(ht.lv _ (lookG_some e)).2.1⟩
  ·rw [List.length_take];omega
 unfold Site.wanted
 simp only
 split
 ·obtain ⟨R',h1,h2⟩:=h.skip (m.slot + 1) (y:=16 + y) (by omega)
  exact ⟨R',h1,key h2⟩
 ·exact ⟨R,List.prefix_refl _,key (h.less (by omega))⟩
theorem does (h:Alive s S R z) {m:Ms} (hm:m.May) {y:Nat} (hy:costK m.kind + y≤z):Grow s (s.does m) S R y:=by
 have hk:=hm.kind
 unfold Site.does
 split
 ·rename_i e;exact h.suggested hm (by rw [e] at hy;simpa [costK] using hy)
 split
 ·unfold Site.skipped
  split
  ·exact ((h.decide_ _ _).less (by omega)).grow
  ·exact (h.less (by omega)).grow
 split
 ·rename_i e;exact h.prepared hm (by rw [e] at hy;simpa [costK] using hy)
 split
 ·rename_i e;exact h.promised hm (by rw [e] at hy;simpa [costK] using hy)
 split
 ·rename_i e;exact h.asked hm (by rw [e] at hy;simpa [costK] using hy)
 split
 ·rename_i e;exact h.accepted hm (by rw [e] at hy;simpa [costK] using hy)
 split
 ·unfold Site.learned
  split
  ·exact ((h.decide_ _ _).less (by omega)).grow
  ·exact (h.less (by omega)).grow
 split
 ·rename_i e;exact h.wanted hm (by rw [e] at hy;simpa [costK] using hy)
 ·exact (h.less (by omega)).grow
theorem take (h:Alive s S R z) {m:Ms} (hm:m.May) {y:Nat} (hy:costK m.kind + y≤z):Grow s (s.take m) S R y:=by
 unfold Site.take
 split
 ·split
  ·rename_i v hv
   have:=costK_pos m.kind
   exact (h.tellsTo (may_slot hm) (h.dec_len hv) hm.frm (by omega)).grow
  ·exact h.does hm hy
 ·exact h.does hm hy
theorem takes:∀(l:List Ms) (s:Site) (R:List Rc) (z:Nat),Alive s S R z→(∀m∈l,m.May)→∀y,(l.map fun m=>costK m.kind).sum + y≤z→Folds Qt s l∧Grow s (l.foldl Site.take s) S R y
 | [],s,R,z,h,_,y,hy=>⟨trivial,(h.less (by simpa using hy)).grow⟩
 | m :: l,s,R,z,h,hl,y,hy=>by
  rw [List.map_cons,List.sum_cons] at hy
  obtain ⟨R',h1,h2⟩:=h.take (hl m (by simp)) (y:=(l.map fun m=>costK m.kind).sum + y) (by omega)
  obtain ⟨h3,R2,h4,h5⟩:=takes l _ R' _ h2 (fun x hx=>hl x (by simp [hx])) y (Nat.le_refl _)
  exact ⟨⟨h.qt m,h3⟩,R2,h1.trans h4,h5⟩
end Alive
end Agio
namespace Agio
open Go Go.Proofs.YtijhlbeipglieaaGreat
theorem Site.free_lt (s:Site):∀(k:Nat) (x:Int),x < 4096→s.free k x < 4096
 | 0,x,h=>by unfold Site.free;exact h
 | k + 1,x,h=>by
  unfold Site.free
  split
  ·exact Site.free_lt s k _ (by have:=nextI_range (s.me:Int) (x + 1).toNat s.n;omega)
  ·exact h
theorem wt_new (me n pat:Nat):∀x∈(Site.new me n pat).wt,0≤x:=by intro x hx;simp [Site.new] at hx;omega
namespace Alive
variable {s t:Site} {S R:List Rc} {z:Nat}
theorem new {me n pat:Nat} (h:newOk me n pat=true):Alive (Site.new me n pat) [] [] 400000000:=
 ⟨Go.Proofs.YtijhlbeipglieaaGreat.Site.new_ok h,rfl,by simp,rfl,.nil,List.prefix_refl _,rfl,fun x=>rfl,by simp [Site.new],by simp [Site.new],by simp [Site.new,wgt],by simp [Site.new],wt_new _ _ _,by simp [Site.new]⟩
theorem submit (h:Alive s S R z) (v:List UInt8) {y:Nat} (hy:20 + y≤z):Grow s (s.submit v).1 S R y:=by
 by_cases hv:v.length=0∨2048 < v.length
 ·unfold Site.submit
  rw [if_neg (by rw [h.up];simp),if_pos hv]
  exact (h.less (by omega)).grow
 ·rw [Site.submit_eq s v h.up (by omega) (by omega)]
  have hx:=s.free_lt 4096 (nextI s.me s.nx s.n) (by have:=nextI_range (s.me:Int) s.nx s.n;omega)
  generalize s.free 4096 (nextI s.me s.nx s.n)=x at *
  unfold Site.subAt
  split
  ·exact (h.less (by omega)).grow
  split
  ·exact (h.less (by omega)).grow
  ·rename_i t ha
   obtain ⟨R',h1,h2,h3⟩:=h.accept_grow (by omega) h.ok.own (by omega) ha
   have h4:Alive {t with nx:=(x + 1).toNat,rs:=putG x (⟨s.ownB,[],true,v,[],0⟩:Rn) t.rs} S R' z:=
    (h2.setNx (k:=(x + 1).toNat) (by omega)).setRs (r:=(⟨s.ownB,[],true,v,[],0⟩:Rn)) (by omega) ⟨by show v.length≤2048;omega,h.ok.own,by simp⟩ (fun _=>h3) (Nat.le_refl _) (by have:=h2.lim;simp;omega)
   have h5:=h4.othersN (m:=Site.asks ⟨s.ownB,[],true,v,[],0⟩ x) (Site.asks_fit (by omega) h.ok.own (by show v.length≤2048;omega)) (by
    have e:(Site.asks ⟨s.ownB,[],true,v,[],0⟩ x).slot=x:=by unfold Site.asks;split <;> rfl
    rw [e]
    exact asksK (x:=x) (t:=t.stat x) fun _=>h3) (y:=8 + y) (by omega)
   have hme:=(Site.accept_fr ha).1
   refine ⟨R',h1,h5.votesTo (by omega) h.ok.own ?_ h2.me6 (Nat.le_refl _)⟩
   rw [Site.others_eq]
   exact h3
theorem handle (h:Alive s S R z) (m:Ms) {y:Nat} (hy:100 + y≤z):Grow s (s.handle m).1 S R y:=by
 unfold Site.handle
 rw [if_neg (by rw [h.up];simp)]
 split
 ·exact (h.less (by omega)).grow
 rename_i hm
 split
 ·exact (h.less (by omega)).grow
 ·refine (h.setWt (l:=s.wt.set m.frm.toNat 0) fun x hx=>?_).take (by simpa using hm) (by have:=costK_le m.kind;omega)
  rcases List.mem_or_eq_of_mem_set hx with hx | rfl
  ·exact h.wt x hx
  ·omega
theorem sync (h:Alive s S R z):Folds Qt {s with dn:=s.db.length,held:=[]} (s.held.filter fun m=>decide (m.to=(s.me:Int)))∧
  (∃R',R <+:R'∧Alive s.sync.1 R R' z)∧∀m∈s.sync.2,keptM (stOf R m.slot) m:=by
 have h1:Alive {s with dn:=s.db.length,held:=[]} R R (wgt s.me s.held + z):=by
  refine ⟨h.ok.put (l:=[]) (by simp) |>.disk s.db s.db.length,h.up,h.may,h.db,h.good,List.prefix_refl _,by show s.db.length=_;rw [h.db],h.st,by simp,h.rds,by have:=h.lim;simp [wgt];simp [wgt] at this;omega,fun p hp=>?_,h.wt,h.lv⟩
  have:=h.rlim p hp
  show _ + wgt s.me [] + _≤_
  rw [wgt_nil]
  omega
 have h2:=takes (s.held.filter fun m=>decide (m.to=(s.me:Int))) _ R _ h1 (fun m hm=>h.ok.held m (List.mem_filter.1 hm).1) z (by have:=wgt_own s.me s.held;omega)
 refine ⟨h2.1,?_,fun m hm=>?_⟩
 ·unfold Site.sync
  rw [if_neg (by rw [h.up];simp)]
  exact h2.2
 ·unfold Site.sync at hm
  rw [if_neg (by rw [h.up];simp)] at hm
  rw [←h.st]
  exact h.held m (List.mem_filter.1 hm).1
theorem olds (h:Alive s S R z) {y:Nat} (hy:1 + y≤z):Alive {s with rs:=mapG (fun r=>{r with age:=r.age + 1}) s.rs} S R y:=by
 have hm:∀p∈mapG (fun r:Rn=>{r with age:=r.age + 1}) s.rs,∃q∈s.rs,p=(q.1,{q.2 with age:=q.2.age + 1}):=fun p hp=>by
  obtain ⟨q,hq,rfl⟩:=List.mem_map.1 hp
  exact ⟨q,hq,rfl⟩
 refine ⟨⟨h.ok.me,h.ok.n3,h.ok.n7,h.ok.pat,h.ok.st,fun p hp=>?_,h.ok.top,h.ok.nx,h.ok.held⟩,h.up,h.may,h.db,h.good,h.pre,h.dn,h.st,h.held,fun p hp=>?_,by have:=h.lim;show wgt s.me s.held + y≤_;omega,fun p hp=>?_,h.wt,h.lv⟩
 ·obtain ⟨q,hq,rfl⟩:=hm p hp
  exact h.ok.rs q hq
 ·obtain ⟨q,hq,rfl⟩:=hm p hp
  exact h.rds q hq
 ·obtain ⟨q,hq,rfl⟩:=hm p hp
  have:=h.rlim q hq
  show q.2.vt.length + q.2.pr.length + (q.2.age + 1) + wgt s.me s.held + y≤_
  omega
theorem asksN:∀(l:List (Int × Rn)) (s:Site) (z:Nat),Alive s S R z→(∀p∈l,(0≤p.1∧p.1 < 4096∧p.2.b.length≤2048∧p.2.bal.may 7=true)∧(p.2.so=true→keptP (s.stat p.1) 1 p.2.bal))→∀y,6 * l.length + y≤z→
  Alive (l.foldl (fun u p=>u.others (Site.asks p.2 p.1) u.n) s) S R y
 | [],s,z,h,_,y,hy=>h.less (by simpa using hy)
 | p :: l,s,z,h,hl,y,hy=>by
  rw [List.length_cons] at hy
  obtain ⟨⟨h1,h2,h3,h4⟩,h5⟩:=hl p (by simp)
  have e:(Site.asks p.2 p.1).slot=p.1:=by unfold Site.asks;split <;> rfl
  have h6:=h.othersN (m:=Site.asks p.2 p.1) (Site.asks_fit ⟨h1,h2⟩ h4 h3) (by rw [e];exact asksK h5) (y:=6 * l.length + y) (by omega)
  refine asksN l _ _ h6 (fun q hq=>⟨(hl q (by simp [hq])).1,?_⟩) y (Nat.le_refl _)
  rw [Site.others_eq]
  exact (hl q (by simp [hq])).2
theorem again (h:Alive s S R z) {y:Nat} (hy:49 + y≤z):Alive s.again S R y:=by
 unfold Site.again
 refine asksN _ _ _ (h.olds (y:=48 + y) (by omega)) (fun p hp=>?_) y (by rw [List.length_take];omega)
 have hp':=List.mem_of_mem_take hp
 have:=h.ok.rs p hp'
 exact ⟨⟨this.1,this.2.1,this.2.2.1,this.2.2.2.1⟩,h.rds p hp'⟩
theorem begins:∀(l:List Int) (s:Site) (R:List Rc) (z:Nat),Alive s S R z→(∀x∈l,0≤x∧x < 4096)→∀y,22 * l.length + y≤z→Grow s (l.foldl Site.begin_ s) S R y
 | [],s,R,z,h,_,y,hy=>(h.less (by simpa using hy)).grow
 | x :: l,s,R,z,h,hl,y,hy=>by
  rw [List.length_cons] at hy
  obtain ⟨R',h1,h2⟩:=h.begin_ (hl x (by simp)) (y:=22 * l.length + y) (by omega)
  obtain ⟨R2,h3,h4⟩:=begins l _ R' _ h2 (fun q hq=>hl q (by simp [hq])) y (Nat.le_refl _)
  exact ⟨R2,h1.trans h3,h4⟩
theorem tick (h:Alive s S R z) {y:Nat} (hy:300 + y≤z):s.TickOk∧Grow s s.tick S R y:=by
 have h0:=h.setWt (l:=tickG s.me s.wt s.n) (tickG_nn _ h.wt _)
 have h1:Alive s.tick1 S R (250 + y):=h0.again (by omega)
 obtain ⟨R3,p3,h3⟩:Grow s.tick1 s.tick3 S R (190 + y):=h1.skip _ (by omega)
 have hl8:(s.tick3.late s.tick3.topA).length≤8:=by unfold Site.late;rw [List.length_take];omega
 have hlr:∀x∈s.tick3.late s.tick3.topA,0≤x∧x < 4096:=fun x hx=>by have:=Site.late_in _ hx;have:=h3.topA;omega
 obtain ⟨R4,p4,h4⟩:Grow s.tick3 s.tick4 S R3 (6 + y):=begins _ _ _ _ h3 hlr (6 + y) (by omega)
 refine ⟨⟨by have:=h.held_le;omega,h.wt,fun p hp=>by have:=h.rlim p hp;omega,by have:=h1.held_le;omega,fun j x hj=>?_,by have:=h4.held_le;omega⟩,R4,p3.trans p4,?_⟩
 ·obtain ⟨R5,p5,h5⟩:=begins ((s.tick3.late s.tick3.topA).take j) s.tick3 R3 _ h3 (fun q hq=>hlr q (List.mem_of_mem_take hq)) 0 (by rw [List.length_take];omega)
  exact ⟨by have:=h5.held_le;omega,h5.low_may x,h5.fit x⟩
 ·rw [Site.tick_eq _ h.up]
  split
  ·rename_i hf
   refine h4.othersN (m:=Site.ask_ s.tick4.front (decide ((s.tick4.front:Int) < s.tick3.topA))) ?_ (by intro e;revert e;simp [Site.ask_,Ms.Tells]) (by omega)
   refine ⟨by simp [Site.ask_],by simp,by simp,by simp [Site.ask_];omega,by simp [Site.ask_],by simp [Site.ask_],by simp [Site.ask_],by simp [Site.ask_],by simp [Site.ask_],by simp [Site.ask_]⟩
  ·exact h4.less (by omega)
end Alive
structure Dn (s:Site) (S:List Rc):Prop where
 ok:s.Ok
 down:s.down=true
 pre:S <+:(readB s.db).1
 good:Good (readB s.db).1
 dn:s.dn=s.db.length
 held:s.held.length≤400000000
theorem layB_pre {S R:List Rc} (h:S <+:R):(layB S).length≤(layB R).length:=by
 obtain ⟨k,rfl⟩:=h
 rw [layB_append,List.length_append];omega
theorem prefix_of_len {R S:List Rc} {m:Nat} (hS:S <+:R) (hm:m≤R.length) (hk:∀h:m < R.length,(layB S).length < (layB (R.take m)).length + (put R[m].bytes).length):S <+:R.take m:=by
 obtain ⟨k,rfl⟩:=hS
 rcases Nat.lt_or_ge m S.length with h | h
 ·exfalso
  have h1:=hk (by simp;omega)
  rw [←List.length_append,←layB_take (by simp;omega)] at h1
  have h2:(S ++ k).take (m + 1) <+:S:=by
   rw [List.take_append_of_le_length (by omega)]
   exact List.take_prefix _ _
  have:=layB_pre h2
  omega
 ·rw [List.take_append,List.take_of_length_le h]
  exact List.prefix_append _ _
theorem Alive.crash {s:Site} {S R:List Rc} {z:Nat} (h:Alive s S R z) (k:Int):Dn (s.crash k) S:=by
 have hpre:=layB_pre h.pre
 have hle:(layB S).length≤s.kept k∧s.kept k≤(layB R).length:=by
  unfold Site.kept
  rw [h.dn,h.db]
  omega
 obtain ⟨m,h1,h2,h3,h4,h5⟩:=readB_torn h.may (s.kept k) hle.2
 unfold Site.crash
 rw [if_neg (by rw [h.up];simp)]
 have e:s.db.take (s.kept k)=(layB R).take (s.kept k):=by rw [h.db]
 refine ⟨⟨h.ok.me,h.ok.n3,h.ok.n7,h.ok.pat,h.ok.st,h.ok.rs,h.ok.top,h.ok.nx,h.ok.held⟩,rfl,?_,?_,?_,?_⟩
 ·show S <+:(readB (s.db.take (s.kept k))).1
  rw [e,h2]
  exact prefix_of_len h.pre h1 fun hm=>Nat.lt_of_le_of_lt hle.1 (h5 hm)
 ·show Good (readB (s.db.take (s.kept k))).1
  rw [e,h2]
  exact h.good.pfx (List.take_prefix _ _)
 ·show s.kept k=(s.db.take (s.kept k)).length
  rw [e,List.length_take]
  omega
 ·have:=h.held_le
  show s.held.length≤_
  omega
structure Recalled (s t:Site) (R:List Rc):Prop where
 me:t.me=s.me
 n:t.n=s.n
 pat:t.pat=s.pat
 down:t.down=s.down
 db:t.db=s.db
 dn:t.dn=s.dn
 rs:t.rs=s.rs
 held:t.held=s.held
 lv:t.lv=s.lv
 wt:t.wt=s.wt
 nx:t.nx=s.nx
 taken:t.taken=s.taken
 ok:t.Ok
 st:∀x,t.stat x=stOf R x
theorem recall_one {s:Site} (hok:s.Ok) {r:Rc} (hr:r.May) {R:List Rc} (hst:∀x,s.stat x=stOf R x):Recalled s (s.recall r) (R ++ [r]):=by
 have hb:r.bal.may 7=true:=Bl.may7.2 ⟨hr.round,hr.site⟩
 have hx:0≤r.slot∧r.slot < 4096:=by have:=hr.slot;omega
 have hs:=hok.stat r.slot
 have turn:∀y:Sp,y=upd1 (s.stat r.slot) r→(y.b.length≤2048∧y.p.may 7=true∧y.at_.may 7=true)→Recalled s (s.turn r.slot y) (R ++ [r]):=fun y hy hk=>
  ⟨rfl,rfl,rfl,rfl,rfl,rfl,rfl,rfl,rfl,rfl,rfl,rfl,hok.turn hx hk,fun x=>by
   rw [stOf_snoc]
   show ((lookG x (putG r.slot y s.st)).getD Sp.zero)=_
   rw [lookG_put]
   by_cases e:r.slot=x
   ·rw [if_pos e,if_pos e,←hst,←e,hy];rfl
   ·rw [if_neg e,if_neg e,←hst];rfl⟩
 unfold Site.recall
 split
 ·rename_i e
  refine turn _ ?_ ⟨hs.1,hb,hs.2.2⟩
  unfold upd1;rw [if_pos e];rfl
 ·rename_i e
  split
  ·rename_i e2
   refine ⟨rfl,rfl,rfl,rfl,rfl,rfl,rfl,rfl,rfl,rfl,rfl,rfl,hok,fun x=>?_⟩
   rw [stOf_snoc]
   split
   ·rename_i e3
    unfold upd1
    rw [if_neg e,←e3,←hst,if_pos (by exact e2)]
   ·exact hst x
  ·rename_i e2
   refine turn _ ?_ ⟨hr.val,hb,hb⟩
   unfold upd1;rw [if_neg e,if_neg (by exact e2)];rfl
theorem Recalled.trans {s t u:Site} {R R':List Rc} (h:Recalled s t R) (k:Recalled t u R'):Recalled s u R':=
 ⟨k.me.trans h.me,k.n.trans h.n,k.pat.trans h.pat,k.down.trans h.down,k.db.trans h.db,k.dn.trans h.dn,k.rs.trans h.rs,k.held.trans h.held,k.lv.trans h.lv,k.wt.trans h.wt,k.nx.trans h.nx,k.taken.trans h.taken,k.ok,k.st⟩
theorem recall_all:∀(l R:List Rc) (s:Site),s.Ok→(∀r∈l,r.May)→(∀x,s.stat x=stOf R x)→Recalled s (l.foldl Site.recall s) (R ++ l)
 | [],R,s,hok,_,hst=>by rw [List.append_nil];exact ⟨rfl,rfl,rfl,rfl,rfl,rfl,rfl,rfl,rfl,rfl,rfl,rfl,hok,hst⟩
 | r :: l,R,s,hok,hm,hst=>by
  have h1:=recall_one hok (hm r (by simp)) hst
  have h2:=recall_all l (R ++ [r]) (s.recall r) h1.ok (fun x hx=>hm x (by simp [hx])) h1.st
  have e:R ++ r :: l=(R ++ [r]) ++ l:=by simp
  rw [e]
  exact h1.trans h2
theorem Site.Ok.newOk {s:Site} (h:s.Ok):newOk s.me s.n s.pat=true:=by
 have:=h.me;have:=h.n3;have:=h.n7;have:=h.pat
 unfold Agio.newOk
 simp only [Bool.and_eq_true,decide_eq_true_eq]
 omega
theorem Dn.restart {s:Site} {S:List Rc} (h:Dn s S):∃R,S <+:R∧Alive s.restart R R 400000000∧s.restart.dn=s.restart.db.length∧s.restart.held= []∧s.restart.lv= []∧s.restart.taken=0:=by
 obtain ⟨k1,k2,k3⟩:=readB_ok s.db
 have h0:({Site.new s.me s.n s.pat with db:=s.db.take (readB s.db).2,dn:=min s.dn (readB s.db).2} :Site).Ok:=(Go.Proofs.YtijhlbeipglieaaGreat.Site.new_ok h.ok.newOk).disk _ _
 have h1:=recall_all (readB s.db).1 [] _ h0 k3 (fun x=>rfl)
 rw [List.nil_append] at h1
 have hd:min s.dn (readB s.db).2=(s.db.take (readB s.db).2).length:=by rw [h.dn,List.length_take];omega
 have e:s.restart=(readB s.db).1.foldl Site.recall {Site.new s.me s.n s.pat with db:=s.db.take (readB s.db).2,dn:=min s.dn (readB s.db).2}:=by
  unfold Site.restart
  rw [if_pos h.down]
 rw [e]
 refine ⟨(readB s.db).1,h.pre,⟨h1.ok,h1.down,k3,by rw [h1.db];exact k2.symm,h.good,List.prefix_refl _,?_,h1.st,?_,?_,?_,?_,?_,?_⟩,?_,h1.held,h1.lv,h1.taken⟩
 ·rw [h1.dn,k2];exact hd
 ·rw [h1.held];intro m hm;cases hm
 ·rw [h1.rs];intro p hp;cases hp
 ·rw [h1.held];simp [Site.new,wgt]
 ·rw [h1.rs];intro p hp;cases hp
 ·rw [h1.wt];exact wt_new s.me s.n s.pat
 ·rw [h1.lv];intro p hp;cases hp
 ·rw [h1.dn,h1.db];exact hd
end Agio
namespace Agio
open Go Go.Proofs.YtijhlbeipglieaaGreat
namespace Site
noncomputable def act (s:Site) (k n:Int) (v:List UInt8) (m:Ms):Site × List Ms:=
 if k=0 then ((s.submit v).1,[]) else if k=1 then ((s.handle m).1,[]) else if k=2 then (s.tick,[]) else if k=3 then s.sync
 else if k=4 then (s.crash n,[]) else if k=5 then (s.restart,[]) else (s,[])
variable {s:Site}
theorem submit_down (h:s.down=true) (v:List UInt8):(s.submit v)=(s,0,14):=by unfold submit;rw [if_pos h]
theorem handle_down (h:s.down=true) (m:Ms):(s.handle m)=(s,14):=by unfold handle;rw [if_pos h]
theorem tick_down (h:s.down=true):s.tick=s:=by unfold tick;rw [if_pos h]
theorem sync_down (h:s.down=true):s.sync=(s,[]):=by unfold sync;rw [if_pos h]
theorem crash_down (h:s.down=true) (k:Int):s.crash k=s:=by unfold crash;rw [if_pos h]
theorem restart_up (h:s.down=false):s.restart=s:=by unfold restart;rw [if_neg (by rw [h];simp)]
end Site
def Inv (s:Site) (told:List Ms) (c:Nat):Prop:=
 c≤1000000∧∃S,(∀m∈told,keptM (stOf S m.slot) m)∧((∃R z,Alive s S R z∧300 * c≤z)∨Dn s S)
theorem Inv.down {s:Site} {told:List Ms} {c:Nat} (h:Inv s told c) (hd:s.down=true):∃S,Dn s S∧∀m∈told,keptM (stOf S m.slot) m:=by
 obtain ⟨-,S,h1,⟨R,z,h2,-⟩ | h2⟩:=h
 ·have:=h2.up;rw [hd] at this;cases this
 ·exact ⟨S,h2,h1⟩
theorem Inv.up {s:Site} {told:List Ms} {c:Nat} (h:Inv s told c) (hd:s.down=false):∃S R z,Alive s S R z∧300 * c≤z∧∀m∈told,keptM (stOf S m.slot) m:=by
 obtain ⟨-,S,h1,⟨R,z,h2,h3⟩ | h2⟩:=h
 ·exact ⟨S,R,z,h2,h3,h1⟩
 ·have:=h2.down;rw [hd] at this;cases this
theorem Inv.ok {s:Site} {told:List Ms} {c:Nat} (h:Inv s told c):s.Ok:=by
 obtain ⟨-,S,h1,⟨R,z,h2,h3⟩ | h2⟩:=h
 ·exact h2.ok
 ·exact h2.ok
theorem Inv.less {s:Site} {told:List Ms} {c d:Nat} (h:Inv s told c) (hd:d≤c):Inv s told d:=by
 obtain ⟨h0,S,h1,h2⟩:=h
 exact ⟨by omega,S,h1,h2.imp (fun ⟨R,z,h3,h4⟩=>⟨R,z,h3,by omega⟩) id⟩
theorem Inv.new {me n pat:Nat} (h:newOk me n pat=true):Inv (Site.new me n pat) [] 1000000:=
 ⟨Nat.le_refl _,[],by simp,.inl ⟨[],400000000,Alive.new h,by omega⟩⟩
theorem Inv.kept {s:Site} {told:List Ms} {c:Nat} (h:Inv s told c) (hd:s.down=false):∀m∈told,keptM (s.stat m.slot) m:=by
 obtain ⟨S,R,z,h1,-,h2⟩:=h.up hd
 intro m hm
 rw [h1.st]
 exact (h2 m hm).mono (h1.good.leP h1.pre _)
theorem Inv.held_le {s:Site} {told:List Ms} {c:Nat} (h:Inv s told c):s.held.length≤400000000:=by
 obtain ⟨-,S,h1,⟨R,z,h2,h3⟩ | h2⟩:=h
 ·have:=h2.held_le;omega
 ·exact h2.held
theorem Inv.grow {s t:Site} {told:List Ms} {S R:List Rc} {z c:Nat} (h:Grow s t S R z) (hc:c≤1000000) (ht:∀m∈told,keptM (stOf S m.slot) m) (hz:300 * c≤z):Inv t told c:=by
 obtain ⟨R',-,h2⟩:=h
 exact ⟨hc,S,ht,.inl ⟨R',z,h2,hz⟩⟩
theorem Inv.act {s:Site} {told:List Ms} {c:Nat} (h:Inv s told (c + 1)) (k n:Int) (v:List UInt8) (m:Ms):Inv (s.act k n v m).1 (told ++ (s.act k n v m).2) c:=by
 have hc:=h.1
 cases hd:s.down with
 | true=>
  have same:Inv s (told ++ []) c:=by rw [List.append_nil];exact h.less (by omega)
  unfold Site.act
  split
  ·rw [Site.submit_down hd];exact same
  split
  ·rw [Site.handle_down hd];exact same
  split
  ·rw [Site.tick_down hd];exact same
  split
  ·rw [Site.sync_down hd];exact same
  split
  ·rw [Site.crash_down hd];exact same
  split
  ·obtain ⟨S,h1,h2⟩:=h.down hd
   obtain ⟨R,h3,h4,-⟩:=h1.restart
   rw [List.append_nil]
   exact ⟨by omega,R,fun m hm=>(h2 m hm).mono (h4.good.leP h3 _),.inl ⟨R,_,h4,by omega⟩⟩
  ·exact same
 | false=>
  obtain ⟨S,R,z,h1,h2,h3⟩:=h.up hd
  unfold Site.act
  split
  ·rw [List.append_nil];exact Inv.grow (h1.submit v (y:=300 * c) (by omega)) (by omega) h3 (Nat.le_refl _)
  split
  ·rw [List.append_nil];exact Inv.grow (h1.handle m (y:=300 * c) (by omega)) (by omega) h3 (Nat.le_refl _)
  split
  ·rw [List.append_nil];exact Inv.grow (h1.tick (y:=300 * c) (by omega)).2 (by omega) h3 (Nat.le_refl _)
  split
  ·obtain ⟨-,⟨R',h4,h5⟩,h6⟩:=h1.sync
   refine ⟨by omega,R,fun m hm=>?_,.inl ⟨R',z,h5,by omega⟩⟩
   rcases List.mem_append.1 hm with hm | hm
   ·exact (h3 m hm).mono (h1.good.leP h1.pre _)
   ·exact h6 m hm
  split
  ·rw [List.append_nil];exact ⟨by omega,S,h3,.inr (h1.crash n)⟩
  split
  ·rw [Site.restart_up hd,List.append_nil];exact h.less (by omega)
  ·rw [List.append_nil];exact h.less (by omega)
theorem Grow.act {s:Site} {S R:List Rc} {z y:Nat} (h:Alive s S R z) (hy:300 + y≤z) {k:Int} (hk:k < 3) (n:Int) (v:List UInt8) (m:Ms):Grow s (s.act k n v m).1 S R y:=by
 unfold Site.act
 split
 ·exact h.submit v (by omega)
 split
 ·exact h.handle m (by omega)
 split
 ·exact (h.tick (by omega)).2
 rw [if_neg (by omega),if_neg (by omega),if_neg (by omega)]
 exact (h.less (by omega)).grow
end Agio
