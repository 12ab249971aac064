/- Merged: PlainWorld, PlainWorld2, PlainLg, PlainDo, PlainOrd, PlainRound, PlainPlay, PlainAwake. -/
import Derived.KernelRfl
import Derived.Test.YtijhlbeipglieaaGreatPkPax
set_option linter.all false
namespace Agio
open Go Go.Proofs.YtijhlbeipglieaaGreat
structure Wd where
 ss:List Site
 net:List Ms
 done:List (List (List UInt8))
def sends (net l:List Ms):List Ms:=l.foldl (fun net m=>if net.length < 4096 then net ++ [m] else net) net
theorem mem_sends:∀(l net:List Ms) {m:Ms},m∈sends net l→m∈net∨m∈l
 | [],net,m,h=>.inl h
 | x :: l,net,m,h=>by
  unfold sends at h
  rw [List.foldl_cons] at h
  rcases mem_sends l _ h with h | h
  ·split at h
   ·rcases List.mem_append.1 h with h | h
    ·exact .inl h
    ·rw [List.mem_singleton] at h;subst h;exact .inr (by simp)
   ·exact .inl h
  ·exact .inr (by simp [h])
namespace Wd
def new (n pat:Nat):Wd:=⟨(List.range n).map fun i=>Site.new i n pat,[],List.replicate n []⟩
variable (w:Wd)
def tell (i:Nat):Wd:=match w.ss[i]? with
 | none=>w
 | some s=>{w with ss:=w.ss.set i s.sync.1,net:=sends w.net s.sync.2}
def deliver (k:Nat):Wd:=match w.net[k]? with
 | none=>w
 | some m=>match w.ss[m.to.toNat]? with
  | none=>{w with net:=w.net.eraseIdx k}
  | some s=>{w with net:=w.net.eraseIdx k,ss:=w.ss.set m.to.toNat (s.handle m).1}
def double (k:Nat):Wd:=match w.net[k]? with
 | none=>w
 | some m=>if w.net.length < 4096 then {w with net:=w.net ++ [m]} else w
def deed (i:Nat) (f:Site→Site):Wd:=match w.ss[i]? with
 | none=>w
 | some s=>{w with ss:=w.ss.set i (f s)}
noncomputable def restart (i:Nat):Wd:=match w.ss[i]? with
 | none=>w
 | some s=>{w with ss:=w.ss.set i s.restart,done:=if s.down then w.done.set i [] else w.done}
def take (i:Nat):Wd:=match w.ss[i]? with
 | none=>w
 | some s=>{w with ss:=w.ss.set i s.takes.1,done:=w.done.set i ((w.done.getD i []) ++ s.takes.2.filter fun v=>decide (v≠[]))}
end Wd
structure WInv (w:Wd) (n:Nat) (P:Int→List UInt8→Prop) (c:Nat) (G:Int→List Rc):Prop where
 glob:Glob G n P
 len:w.ss.length=n
 site:∀i s,w.ss[i]? =some s→s.me=i∧s.n=n∧((∃R z,PA G P s R z∧c≤z)∨PD G P s)
 net:∀m∈w.net,m.May∧MsgP G n (G m.frm) m
theorem Glob.monoP {G:Int→List Rc} {n:Nat} {P P':Int→List UInt8→Prop} (h:Glob G n P) (hp:∀x v,P x v→P' x v):Glob G n P':=
 ⟨h.may,h.good,h.back,h.one,fun x b v hv hb=>⟨(h.low x b v hv hb).1,(h.low x b v hv hb).2.imp id (hp _ _)⟩,h.high⟩
theorem Glob.nil (n:Nat) (P:Int→List UInt8→Prop):Glob (fun _=>[]) n P:=
 ⟨fun _ r h=>(by cases h),fun _=>Good.nil,fun _ _ _ _ h=>(by cases h),fun _ _ _ _ h _=>(by cases h),fun _ _ _ h _=>(by cases h),fun _ _ _ h _=>(by cases h)⟩
namespace WInv
variable {w:Wd} {n:Nat} {P P':Int→List UInt8→Prop} {c:Nat} {G G':Int→List Rc}
theorem new {n pat:Nat} (h:newOk 0 n pat=true) (P:Int→List UInt8→Prop):WInv (Wd.new n pat) n P 400000000 (fun _=>[]):=by
 refine ⟨Glob.nil n P,by simp [Wd.new],fun i s hs=>?_,by simp [Wd.new]⟩
 unfold Wd.new at hs
 simp only at hs
 obtain ⟨hi,he⟩:=List.getElem?_eq_some_iff.1 hs
 rw [List.length_map,List.length_range] at hi
 rw [List.getElem_map,List.getElem_range] at he
 subst he
 refine ⟨rfl,rfl,.inl ⟨[],400000000,PA.new _ _ ?_ rfl,Nat.le_refl _⟩⟩
 simp only [newOk,Bool.and_eq_true,decide_eq_true_eq] at h ⊢
 omega
theorem less (h:WInv w n P c G) {d:Nat} (hd:d≤c):WInv w n P d G:=
 ⟨h.glob,h.len,fun i s hs=>⟨(h.site i s hs).1,(h.site i s hs).2.1,(h.site i s hs).2.2.imp (fun ⟨R,z,h1,h2⟩=>⟨R,z,h1,by omega⟩) id⟩,h.net⟩
theorem put (h:WInv w n P c G) {i:Nat} {s t:Site} (hs:w.ss[i]? =some s) (hle:GLe G G') (hp:∀x v,P x v→P' x v) (hoff:∀f,f≠(i:Int)→G' f=G f) (hG':Glob G' n P') {d:Nat} (hd:d≤c)
  (ht:t.me=i∧t.n=n∧((∃R z,PA G' P' t R z∧d≤z)∨PD G' P' t)) {net':List Ms} (hn:∀m∈net',m∈w.net∨m.May∧MsgP G' n (G' m.frm) m) (done':List (List (List UInt8))) :
  WInv {w with ss:=w.ss.set i t,net:=net',done:=done'} n P' d G':=by
 refine ⟨hG',by simp [h.len],fun j u hu=>?_,fun m hm=>?_⟩
 ·simp only at hu
  by_cases e:i=j
  ·subst e
   have hi:i < w.ss.length:=(List.getElem?_eq_some_iff.1 hs).1
   rw [List.getElem?_set_self hi] at hu
   injection hu with hu
   subst hu
   exact ht
  ·rw [List.getElem?_set_ne e] at hu
   obtain ⟨h1,h2,h3⟩:=h.site j u hu
   have hne:G' u.me=G u.me:=hoff _ (by rw [h1];omega)
   exact ⟨h1,h2,h3.imp (fun ⟨R,z,h4,h5⟩=>⟨R,z,h4.mono hle hp hne,by omega⟩) (fun h4=>h4.mono hle hp hne)⟩
 ·rcases hn m hm with hm | hm
  ·obtain ⟨h1,h2⟩:=h.net m hm
   exact ⟨h1,h2.mono hle (hle _)⟩
  ·exact hm
theorem same (h:WInv w n P c G) {net':List Ms} (hn:∀m∈net',m∈w.net) (done':List (List (List UInt8))):WInv {w with net:=net',done:=done'} n P c G:=
 ⟨h.glob,h.len,h.site,fun m hm=>h.net m (hn m hm)⟩
theorem deed1 (h:WInv w n P c G) {i:Nat} {s t:Site} (hs:w.ss[i]? =some s) (hk:t.me=s.me∧t.n=s.n) {d:Nat} (hd:d≤c) (hp:∀x v,P x v→P' x v)
  (hu:∀R z,PA G P' s R z→c≤z→(∃R' z',PA G P' t R' z'∧d≤z')∨PD G P' t) (hdn:PD G P' s→PD G P' t∨∃R' z',PA G P' t R' z'∧d≤z') {net':List Ms} (hn:∀m∈net',m∈w.net) (done':List (List (List UInt8))) :
  WInv {w with ss:=w.ss.set i t,net:=net',done:=done'} n P' d G:=by
 obtain ⟨h1,h2,h3⟩:=h.site i s hs
 refine h.put hs (GLe.refl G) hp (fun _ _=>rfl) (h.glob.monoP hp) hd ⟨hk.1.trans h1,hk.2.trans h2,?_⟩ (fun m hm=>.inl (hn m hm)) done'
 rcases h3 with ⟨R,z,h4,h5⟩ | h4
 ·exact hu R z (h4.mono (GLe.refl G) hp rfl) h5
 ·exact (hdn (h4.mono (GLe.refl G) hp rfl)).symm.imp id id
theorem kin_handle (s:Site) (m:Ms):(s.handle m).1.me=s.me∧(s.handle m).1.n=s.n:=by
 unfold Site.handle
 split
 ·exact ⟨rfl,rfl⟩
 split
 ·exact ⟨rfl,rfl⟩
 split
 ·exact ⟨rfl,rfl⟩
 ·have k:=Site.kin_take {s with wt:=s.wt.set m.frm.toNat 0} m
  exact ⟨k.me,k.n⟩
theorem kin_tick (s:Site):s.tick.me=s.me∧s.tick.n=s.n:=by
 cases hd:s.down with
 | true=>unfold Site.tick;rw [if_pos hd];exact ⟨rfl,rfl⟩
 | false=>
  have k1:Site.Kin {s with wt:=tickG s.me s.wt s.n} s.tick1:=Site.kin_again _
  have k3:Site.Kin s.tick1 s.tick3:=Site.kin_skip _ _
  have k4:Site.Kin s.tick3 s.tick4:=Site.kin_begins _ _
  have k:=(k1.trans k3).trans k4
  rw [Site.tick_eq s hd]
  split
  ·have k5:=k.trans (Site.kin_others s.tick4 (Site.ask_ s.tick4.front (decide ((s.tick4.front:Int) < s.tick3.topA))) s.tick4.n)
   exact ⟨k5.me,k5.n⟩
  ·exact ⟨k.me,k.n⟩
theorem kin_sync (s:Site):s.sync.1.me=s.me∧s.sync.1.n=s.n:=by
 unfold Site.sync
 split
 ·exact ⟨rfl,rfl⟩
 ·have k:=Site.kin_takes (s.held.filter fun m=>decide (m.to=(s.me:Int))) {s with dn:=s.db.length,held:=[]}
  exact ⟨k.me,k.n⟩
theorem kin_submit (s:Site) (v:List UInt8):(s.submit v).1.me=s.me∧(s.submit v).1.n=s.n:=by
 by_cases hd:s.down=true
 ·rw [Site.submit];rw [if_pos hd];exact ⟨rfl,rfl⟩
 by_cases hv:v.length=0∨2048 < v.length
 ·rw [Site.submit,if_neg hd,if_pos hv];exact ⟨rfl,rfl⟩
 rw [Site.submit_eq s v (by simpa using hd) (by omega) (by omega)]
 unfold Site.subAt
 split
 ·exact ⟨rfl,rfl⟩
 split
 ·exact ⟨rfl,rfl⟩
 ·rename_i t ha
  have h1:=PA.acc_fr ha
  have k:=(Site.kin_others ({t with nx:=(s.free 4096 (nextI s.me s.nx s.n) + 1).toNat,rs:=putG (s.free 4096 (nextI s.me s.nx s.n)) ⟨s.ownB,[],true,v,[],0⟩ t.rs}) (Site.asks ⟨s.ownB,[],true,v,[],0⟩ (s.free 4096 (nextI s.me s.nx s.n))) t.n).trans (Site.kin_send _ t.me (Site.votes (s.free 4096 (nextI s.me s.nx s.n)) s.ownB))
  exact ⟨k.me.trans h1.1,k.n.trans h1.2.1⟩
theorem deliver (h:WInv w n P (100 + c) G) (k:Nat):WInv (w.deliver k) n P c G:=by
 unfold Wd.deliver
 split
 ·exact h.less (by omega)
 rename_i m hm
 have hmn:=List.mem_of_getElem? hm
 have herase:∀x∈w.net.eraseIdx k,x∈w.net:=fun x hx=>List.mem_of_mem_eraseIdx hx
 split
 ·exact (h.less (d:=c) (by omega)).same herase w.done
 ·rename_i s hs
  have hn:=(h.site _ s hs).2.1
  refine h.deed1 (P':=P) hs (kin_handle s m) (d:=c) (by omega) (fun _ _ h=>h) (fun R z h1 h2=>?_) (fun h1=>?_) herase w.done
  ·obtain ⟨R',-,h3⟩:=PA.handle (by rw [hn];exact h.glob) h1 (m:=m) (by rw [hn];exact (h.net m hmn).2) (y:=c) (by omega)
   exact .inl ⟨R',_,h3,Nat.le_refl _⟩
  ·left
   have:s.handle m=(s,14):=by unfold Site.handle;rw [if_pos h1.dn.down]
   rw [this];exact h1
theorem double (h:WInv w n P c G) (k:Nat):WInv (w.double k) n P c G:=by
 unfold Wd.double
 split
 ·exact h
 rename_i m hm
 split
 ·refine h.same (fun x hx=>?_) w.done
  rcases List.mem_append.1 hx with hx | hx
  ·exact hx
  ·rw [List.mem_singleton] at hx;subst hx;exact List.mem_of_getElem? hm
 ·exact h
theorem tick (h:WInv w n P (300 + c) G) (i:Nat):WInv (w.deed i Site.tick) n P c G:=by
 unfold Wd.deed
 split
 ·exact h.less (by omega)
 rename_i s hs
 refine h.deed1 (P':=P) hs (kin_tick s) (d:=c) (by omega) (fun _ _ h=>h) (fun R z h1 h2=>?_) (fun h1=>?_) (fun _ h=>h) w.done
 ·obtain ⟨R',-,h3⟩:=h1.tick (y:=c) (by omega)
  exact .inl ⟨R',_,h3,Nat.le_refl _⟩
 ·left
  have:s.tick=s:=by unfold Site.tick;rw [if_pos h1.dn.down]
  rw [this];exact h1
theorem crash (h:WInv w n P c G) (i:Nat) (k:Int):WInv (w.deed i fun s=>s.crash k) n P c G:=by
 unfold Wd.deed
 split
 ·exact h
 rename_i s hs
 refine h.deed1 (P':=P) hs (by unfold Site.crash;split <;> exact ⟨rfl,rfl⟩) (d:=c) (Nat.le_refl _) (fun _ _ h=>h) (fun R z h1 h2=>.inr (h1.crash k)) (fun h1=>?_) (fun _ h=>h) w.done
 left
 have:s.crash k=s:=by unfold Site.crash;rw [if_pos h1.dn.down]
 rw [this];exact h1
theorem submit (h:WInv w n P (100 + c) G) {i:Nat} (v:List UInt8) {s:Site} (hs:w.ss[i]? =some s) (hp:∀x v,P x v→P' x v) (hP:(s.submit v).2.2=0→P' (s.submit v).2.1 v):WInv (w.deed i fun s=>(s.submit v).1) n P' c G:=by
 unfold Wd.deed
 rw [hs]
 refine h.deed1 (P':=P') hs (kin_submit s v) (d:=c) (by omega) hp (fun R z h1 h2=>?_) (fun h1=>?_) (fun _ h=>h) w.done
 ·obtain ⟨R',-,h3⟩:=h1.submit v hP (y:=c) (by omega)
  exact .inl ⟨R',_,h3,Nat.le_refl _⟩
 ·left
  have:s.submit v=(s,0,14):=by unfold Site.submit;rw [if_pos h1.dn.down]
  rw [this];exact h1
theorem tell (h:WInv w n P c G) (i:Nat):∃G',GLe G G'∧WInv (w.tell i) n P c G':=by
 unfold Wd.tell
 split
 ·exact ⟨G,GLe.refl G,h⟩
 rename_i s hs
 obtain ⟨h1,h2,h3⟩:=h.site i s hs
 rcases h3 with ⟨R,z,h4,h5⟩ | h4
 ·obtain ⟨k1,⟨R',-,k2⟩,k3⟩:=PA.sync (by rw [h2];exact h.glob) h4
  rw [h2] at k1
  refine ⟨updG G s.me R,updG_le h4.al.pre,h.put hs (updG_le h4.al.pre) (fun _ _ h=>h) (fun f hf=>?_) k1 (Nat.le_refl _) ⟨(kin_sync s).1.trans h1,(kin_sync s).2.trans h2,.inl ⟨R',z,k2,h5⟩⟩ (fun m hm=>?_) w.done⟩
  ·unfold updG;rw [if_neg (by rw [h1];exact hf)]
  ·rcases mem_sends _ _ hm with hm | hm
   ·exact .inl hm
   ·obtain ⟨j1,j2,j3,j4⟩:=k3 m hm
    rw [h2] at j4
    exact .inr ⟨j1,j4⟩
 ·have e:s.sync=(s,[]):=by unfold Site.sync;rw [if_pos h4.dn.down]
  refine ⟨G,GLe.refl G,?_⟩
  rw [e]
  exact h.put hs (GLe.refl G) (fun _ _ h=>h) (fun _ _=>rfl) h.glob (Nat.le_refl _) ⟨h1,h2,.inr h4⟩ (fun m hm=>.inl hm) w.done
theorem restart (h:WInv w n P c G) (hc:c≤400000000) (i:Nat):∃G',GLe G G'∧WInv (w.restart i) n P c G':=by
 unfold Wd.restart
 split
 ·exact ⟨G,GLe.refl G,h⟩
 rename_i s hs
 obtain ⟨h1,h2,h3⟩:=h.site i s hs
 rcases h3 with ⟨R,z,h4,h5⟩ | h4
 ·have e:s.restart=s:=by unfold Site.restart;rw [if_neg (by rw [h4.al.up];simp)]
  rw [e]
  exact ⟨G,GLe.refl G,h.put hs (GLe.refl G) (fun _ _ h=>h) (fun _ _=>rfl) h.glob (Nat.le_refl _) ⟨h1,h2,.inl ⟨R,z,h4,h5⟩⟩ (fun m hm=>.inl hm) _⟩
 ·obtain ⟨k1,k2,k3,k4,k5⟩:=h4.restart (by rw [h2];exact h.glob)
  rw [h2] at k1
  refine ⟨_,k3,h.put hs k3 (fun _ _ h=>h) (fun f hf=>?_) k1 (Nat.le_refl _) ⟨k4.trans h1,k5.trans h2,.inl ⟨_,_,k2,hc⟩⟩ (fun m hm=>.inl hm) _⟩
  unfold updG;rw [if_neg (by rw [h1];exact hf)]
theorem drop (h:WInv w n P c G) (k:Nat):WInv {w with net:=w.net.eraseIdx k} n P c G:=h.same (fun _x hx=>List.mem_of_mem_eraseIdx hx) w.done
theorem dec (h:WInv w n P c G) {i:Nat} {s:Site} (hs:w.ss[i]? =some s) {x:Int} {v:List UInt8} (hv:s.dec x=some v):Dec G n x v:=by
 obtain ⟨-,h2,h3⟩:=h.site i s hs
 have hm:=lookG_some hv
 rw [←h2]
 rcases h3 with ⟨R,z,h4,-⟩ | h4
 ·exact h4.dec _ hm
 ·exact h4.dec _ hm
end WInv
end Agio
namespace Agio
open Go Go.Proofs.YtijhlbeipglieaaGreat
def Lv (s:Site) (y:Nat):Prop:=∃S,(∃R z,Alive s S R z∧y≤z)∨Dn s S
namespace Lv
variable {s:Site} {y:Nat}
theorem held (h:Lv s y):s.held.length≤400000000:=by
 obtain ⟨S,⟨R,z,h1,-⟩ | h1⟩:=h
 ·have:=h1.held_le;omega
 ·exact h1.held
theorem up (h:Lv s y) (hd:s.down=false):∃S R z,Alive s S R z∧y≤z:=by
 obtain ⟨S,⟨R,z,h1,h2⟩ | h1⟩:=h
 ·exact ⟨S,R,z,h1,h2⟩
 ·rw [h1.down] at hd;cases hd
theorem sync (h:Lv s y) (hd:s.down=false):Folds Qt {s with dn:=s.db.length,held:=[]} (s.held.filter fun m=>decide (m.to=(s.me:Int))):=by
 obtain ⟨S,R,z,h1,-⟩:=h.up hd
 exact h1.sync.1
theorem handle (h:Lv s y) (hd:s.down=false) (m:Ms):s.Fit∧s.Lean_:=by
 obtain ⟨S,R,z,h1,-⟩:=h.up hd
 exact h1.qt m
theorem tick (h:Lv s (300 + y)) (hd:s.down=false):s.TickOk:=by
 obtain ⟨S,R,z,h1,h2⟩:=h.up hd
 exact (h1.tick (y:=0) (by omega)).1
end Lv
namespace Wd
def synced (w:Wd) (i:Nat):Wd × List Ms:=match w.ss[i]? with
 | none=>(w,[])
 | some s=>({w with ss:=w.ss.set i s.sync.1},s.sync.2)
theorem tell_eq (w:Wd) (i:Nat):w.tell i= {(w.synced i).1 with net:=sends (w.synced i).1.net (w.synced i).2}:=by
 unfold tell synced
 cases w.ss[i]? with
 | none=>rfl
 | some s=>rfl
end Wd
theorem WInv.lv {w:Wd} {n c:Nat} {P:Int→List UInt8→Prop} {G:Int→List Rc} (h:WInv w n P c G):∀(i:Nat) s,w.ss[i]? =some s→Lv s c:=fun i s hs=>by
 rcases (h.site i s hs).2.2 with ⟨R,z,h1,h2⟩ | h1
 ·exact ⟨_,.inl ⟨R,z,h1.al,h2⟩⟩
 ·exact ⟨_,.inr h1.dn⟩
theorem sends_snoc (net l:List Ms) (m:Ms):sends net (l ++ [m])=if (sends net l).length < 4096 then sends net l ++ [m] else sends net l:=by
 unfold sends;rw [List.foldl_append];rfl
end Agio
namespace Agio
open Go Go.Proofs.YtijhlbeipglieaaGreat
structure Site.Lg (s t:Site):Prop where
 dec:∀(x:Int) (v:List UInt8),s.dec x=some v→t.dec x=some v
 taken:t.taken=s.taken
namespace Site
variable {s t u:Site}
theorem Lg.refl (s:Site):Lg s s:=⟨fun _ _ h=>h,rfl⟩
theorem Lg.trans (h:Lg s t) (k:Lg t u):Lg s u:=⟨fun x v e=>k.dec x v (h.dec x v e),k.taken.trans h.taken⟩
theorem Lg.of (h:t.lv=s.lv) (k:t.taken=s.taken):Lg s t:=⟨fun x v e=>by unfold Site.dec at *;rw [h];exact e,k⟩
theorem lg_send (s:Site) (tg:Int) (m:Ms):Lg s (s.send tg m):=Lg.of rfl rfl
theorem lg_others (s:Site) (m:Ms) (i:Nat):Lg s (s.others m i):=by rw [others_eq];exact Lg.of rfl rfl
theorem lg_note {y:Sp} {r:Rc} (h:s.note y r=some t):Lg s t:=by
 unfold note at h
 split at h
 ·injection h with h;subst h;exact Lg.of rfl rfl
 ·cases h
theorem lg_accept {x:Int} {b:Bl} {v:List UInt8} (h:s.accept x b v=some t):Lg s t:=by
 unfold accept at h
 split at h
 ·cases h
 ·exact lg_note h
theorem lg_promise {x:Int} {b:Bl} (h:s.promise x b=some t):Lg s t:=by
 unfold promise at h
 split at h
 ·cases h
 ·exact lg_note h
theorem lg_decide (s:Site) (x:Int) (v:List UInt8):Lg s (s.decide_ x v):=by
 refine ⟨fun y u h=>?_,(kin_decide s x v).taken⟩
 unfold decide_
 split
 ·show lookG y (if (s.dec x).isSome then s.lv else putG x v s.lv)=some u
  split
  ·exact h
  ·rename_i hn
   rw [lookG_put]
   split
   ·rename_i e;subst e;rw [h] at hn;exact absurd rfl hn
   ·exact h
 ·exact h
theorem lg_rs (s:Site) (l:AL Rn):Lg s {s with rs:=l}:=Lg.of rfl rfl
theorem lg_nx (s:Site) (x:Nat):Lg s {s with nx:=x}:=Lg.of rfl rfl
theorem lg_wt (s:Site) (l:List Int):Lg s {s with wt:=l}:=Lg.of rfl rfl
theorem lg_held (s:Site) (l:List Ms) (k:Nat):Lg s {s with dn:=k,held:=l}:=Lg.of rfl rfl
theorem lg_skip1 (t:Site) (b:Bl) (x:Int):Lg t (t.skip1 b x):=((lg_others t (skips x b) t.n).trans (lg_send _ _ _)).trans (lg_nx _ _)
theorem lg_skipF:∀(f c:Nat) (s:Site) (tg:Int),Lg s (skipF f c s tg)
 | 0,_,s,_=>Lg.refl s
 | f + 1,c,s,tg=>by
  unfold skipF
  split
  ·exact Lg.refl s
  split
  ·exact Lg.refl s
  split
  ·split
   ·exact Lg.refl s
   ·exact ((lg_accept (by assumption)).trans (lg_skip1 _ _ _)).trans (lg_skipF f _ _ _)
  ·exact (lg_nx _ _).trans (lg_skipF f _ _ _)
theorem lg_skip (s:Site) (tg:Int):Lg s (s.skip tg):=lg_skipF _ _ _ _
theorem lg_begin (s:Site) (x:Int):Lg s (s.begin_ x):=by
 unfold begin_
 split
 ·exact Lg.refl s
 split
 ·exact Lg.refl s
 ·exact (((lg_promise (by assumption)).trans (lg_rs _ _)).trans (lg_others _ _ _)).trans (lg_send _ _ _)
theorem lg_suggested (s:Site) (m:Ms):Lg s (s.suggested m):=by
 unfold suggested
 split
 ·refine Lg.trans ?_ (lg_skip _ _)
  split
  ·exact (lg_accept (by assumption)).trans (lg_send _ _ _)
  ·exact Lg.refl s
 ·exact Lg.refl s
theorem lg_skipped (s:Site) (m:Ms):Lg s (s.skipped m):=by
 unfold skipped
 split
 ·exact lg_decide _ _ _
 ·exact Lg.refl s
theorem lg_prepared (s:Site) (m:Ms):Lg s (s.prepared m):=by
 unfold prepared
 split
 ·split
  ·exact (lg_promise (by assumption)).trans (lg_send _ _ _)
  ·exact Lg.refl s
 ·exact Lg.refl s
theorem lg_promised (s:Site) (m:Ms):Lg s (s.promised m):=by
 unfold promised
 split
 ·exact Lg.refl s
 split
 ·simp only
  split
  ·exact lg_rs _ _
  ·split
   ·exact (lg_rs _ _).trans (lg_rs _ _)
   ·exact ((((lg_rs _ _).trans (lg_accept (by assumption))).trans (lg_rs _ _)).trans (lg_others _ _ _)).trans (lg_send _ _ _)
 ·exact Lg.refl s
theorem lg_asked (s:Site) (m:Ms):Lg s (s.asked m):=by
 unfold asked
 split
 ·split
  ·exact (lg_accept (by assumption)).trans (lg_send _ _ _)
  ·exact Lg.refl s
 ·exact Lg.refl s
theorem lg_accepted (s:Site) (m:Ms):Lg s (s.accepted m):=by
 unfold accepted
 split
 ·exact Lg.refl s
 split
 ·simp only
  split
  ·exact ((lg_rs _ _).trans (lg_decide _ _ _)).trans (lg_others _ _ _)
  ·exact lg_rs _ _
 ·exact Lg.refl s
theorem lg_learned (s:Site) (m:Ms):Lg s (s.learned m):=by
 unfold learned
 split
 ·exact lg_decide _ _ _
 ·exact Lg.refl s
theorem lg_sends (tg:Int) (f:Int→Ms):∀(l:List Int) (s:Site),Lg s (l.foldl (fun u x=>u.send tg (f x)) s)
 | [],s=>Lg.refl s
 | x :: l,s=>(lg_send s tg (f x)).trans (lg_sends tg f l _)
theorem lg_wanted (s:Site) (m:Ms):Lg s (s.wanted m):=by
 unfold wanted
 simp only
 refine Lg.trans ?_ (lg_sends _ _ _ _)
 split
 ·exact lg_skip _ _
 ·exact Lg.refl s
theorem lg_does (s:Site) (m:Ms):Lg s (s.does m):=by
 unfold does
 split
 ·exact lg_suggested _ _
 split
 ·exact lg_skipped _ _
 split
 ·exact lg_prepared _ _
 split
 ·exact lg_promised _ _
 split
 ·exact lg_asked _ _
 split
 ·exact lg_accepted _ _
 split
 ·exact lg_learned _ _
 split
 ·exact lg_wanted _ _
 ·exact Lg.refl s
theorem lg_take (s:Site) (m:Ms):Lg s (s.take m):=by
 unfold take
 split
 ·split
  ·exact lg_send _ _ _
  ·exact lg_does _ _
 ·exact lg_does _ _
theorem lg_takes:∀(l:List Ms) (s:Site),Lg s (l.foldl Site.take s)
 | [],s=>Lg.refl s
 | m :: l,s=>(lg_take s m).trans (lg_takes l _)
theorem lg_again (s:Site):Lg s s.again:=by
 unfold again
 have:∀(l:List (Int × Rn)) (u:Site),Lg u (l.foldl (fun u p=>u.others (asks p.2 p.1) u.n) u):=by
  intro l
  induction l with
  | nil=>exact fun u=>Lg.refl u
  | cons p l ih=>exact fun u=>(lg_others _ _ _).trans (ih _)
 exact (lg_rs s _).trans (this _ _)
theorem lg_begins:∀(l:List Int) (s:Site),Lg s (l.foldl begin_ s)
 | [],s=>Lg.refl s
 | x :: l,s=>(lg_begin s x).trans (lg_begins l _)
theorem lg_handle (s:Site) (m:Ms):Lg s (s.handle m).1:=by
 unfold handle
 split
 ·exact Lg.refl s
 split
 ·exact Lg.refl s
 split
 ·exact Lg.refl s
 ·exact (lg_wt s _).trans (lg_take _ _)
theorem lg_tick (s:Site):Lg s s.tick:=by
 cases hd:s.down with
 | true=>unfold tick;rw [if_pos hd];exact Lg.refl s
 | false=>
  unfold tick
  rw [if_neg (by rw [hd];simp)]
  dsimp only
  split
  ·exact ((lg_wt s _).trans ((lg_again _).trans ((lg_skip _ _).trans (lg_begins _ _)))).trans (lg_others _ _ _)
  ·exact (lg_wt s _).trans ((lg_again _).trans ((lg_skip _ _).trans (lg_begins _ _)))
theorem lg_sync (s:Site):Lg s s.sync.1:=by
 unfold sync
 split
 ·exact Lg.refl s
 ·exact (lg_held s _ _).trans (lg_takes _ _)
theorem lg_submit (s:Site) (v:List UInt8):Lg s (s.submit v).1:=by
 unfold submit
 split
 ·exact Lg.refl s
 split
 ·exact Lg.refl s
 dsimp only
 split
 ·exact Lg.refl s
 split
 ·exact Lg.refl s
 ·rename_i t ht
  rw [others_eq]
  exact (lg_accept ht).trans (Lg.of rfl rfl)
theorem lg_crash (s:Site) (k:Int):Lg s (s.crash k):=by
 unfold crash
 split <;> exact Lg.of rfl rfl
end Site
end Agio
namespace Agio
open Go Go.Proofs.YtijhlbeipglieaaGreat
namespace Wd
def has (w:Wd) (i:Int):Bool:=decide (0≤i) && decide (i < (w.net.length:Int))
def place (w:Wd) (s:Int):Option Nat:=if 0≤s∧s < (w.ss.length:Int) then some s.toNat else none
def atSite (w:Wd) (s:Int) (f:Nat→Wd × Int × Int):Wd × Int × Int:=match w.place s with
 | none=>(w,0,1)
 | some i=>f i
def subm (w:Wd) (v:List UInt8) (i:Nat):Wd × Int × Int:=match w.ss[i]? with
 | none=>(w,0,1)
 | some t=>({w with ss:=w.ss.set i (t.submit v).1},(t.submit v).2.1,(t.submit v).2.2)
noncomputable def do_ (w:Wd) (k s a n:Int) (v:List UInt8):Wd × Int × Int:=
 if k=1 then w.atSite s (w.subm v)
 else if k=2 then (if w.has a then w.deliver a.toNat else w,0,if w.has a then 0 else 6)
 else if k=3 then (if w.has a then {w with net:=w.net.eraseIdx a.toNat} else w,0,if w.has a then 0 else 6)
 else if k=4 then (if w.has a then w.double a.toNat else w,0,if w.has a then (if w.net.length < 4096 then 0 else 5) else 6)
 else if k=5 then w.atSite s fun i=>(w.deed i Site.tick,0,0)
 else if k=6 then w.atSite s fun i=>(w.tell i,0,0)
 else if k=7 then w.atSite s fun i=>(w.deed i fun t=>t.crash n,0,0)
 else if k=8 then w.atSite s fun i=>(w.restart i,0,0)
 else (w,0,1)
end Wd
end Agio
namespace Agio
open Go Go.Proofs.YtijhlbeipglieaaGreat
def valsF (f:Nat→List UInt8) (t:Nat):List (List UInt8):=((List.range t).map f).filter fun v=>decide (v≠[])
theorem valsF_add (f:Nat→List UInt8) (t k:Nat):valsF f (t + k)=valsF f t ++ (((List.range' t k).map f).filter fun v=>decide (v≠[])):=by
 unfold valsF
 rw [List.range_eq_range',List.range_eq_range',←List.filter_append,←List.map_append]
 have:=List.range'_append (s:=0) (m:=t) (n:=k) (step:=1)
 rw [←this]
 simp
theorem valsF_congr {f g:Nat→List UInt8} {t:Nat} (h:∀x,x < t→f x=g x):valsF f t=valsF g t:=by
 unfold valsF
 congr 1
 exact List.map_congr_left fun x hx=>h x (List.mem_range.1 hx)
theorem valsF_meet {f g:Nat→List UInt8} {t u:Nat} (h:∀x,x < t→x < u→f x=g x) :
  (valsF f t).take (min (valsF f t).length (valsF g u).length)=(valsF g u).take (min (valsF f t).length (valsF g u).length):=by
 have key:∀{f g:Nat→List UInt8} {t u:Nat},t≤u→(∀x,x < t→f x=g x)→∃r,valsF g u=valsF f t ++ r:=fun {f g t u} ht hx=>by
  obtain ⟨k,rfl⟩:∃k,u=t + k:=⟨u - t,by omega⟩
  exact ⟨_,by rw [valsF_add,valsF_congr hx]⟩
 rcases Nat.le_total t u with ht | ht
 ·obtain ⟨r,hr⟩:=key ht fun x hx=>h x hx (by omega)
  rw [hr,List.length_append,Nat.min_eq_left (by omega),List.take_length,List.take_left]
 ·obtain ⟨r,hr⟩:=key ht fun x hx=>(h x (by omega) hx).symm
  rw [hr,List.length_append,Nat.min_eq_right (by omega),List.take_length,List.take_left]
def Site.val (s:Site) (x:Nat):List UInt8:=(s.dec (x:Int)).getD []
structure DoneS (s:Site) (d:List (List UInt8)):Prop where
 all:∀x:Nat,x < s.taken→∃v,s.dec (x:Int)=some v
 eq:d=valsF s.val s.taken
theorem DoneS.lg {s t:Site} {d:List (List UInt8)} (h:DoneS s d) (k:Site.Lg s t):DoneS t d:=by
 refine ⟨fun x hx=>?_,?_⟩
 ·rw [k.taken] at hx
  obtain ⟨v,hv⟩:=h.all x hx
  exact ⟨v,k.dec _ _ hv⟩
 ·rw [h.eq,k.taken]
  refine valsF_congr fun x hx=>?_
  obtain ⟨v,hv⟩:=h.all x hx
  unfold Site.val
  rw [hv,k.dec _ _ hv]
theorem frontG_lo {α:Type} (L:AL α):∀(k s:Nat),s≤frontG L k s
 | 0,s=>Nat.le_refl _
 | k + 1,s=>by
  unfold frontG
  split
  ·have:=frontG_lo L k (s + 1);omega
  ·exact Nat.le_refl _
theorem frontG_has {α:Type} (L:AL α):∀(k s x:Nat),s≤x→x < frontG L k s→∃v,lookG (x:Int) L=some v
 | 0,s,x,h1,h2=>by unfold frontG at h2;omega
 | k + 1,s,x,h1,h2=>by
  unfold frontG at h2
  split at h2
  ·rename_i e
   by_cases hx:x=s
   ·subst hx;exact Option.isSome_iff_exists.1 e
   ·exact frontG_has L k (s + 1) x (by omega) h2
  ·omega
theorem Site.front_ge (s:Site):s.taken≤s.front:=frontG_lo _ _ _
theorem DoneS.takes {s:Site} {d:List (List UInt8)} (h:DoneS s d):DoneS s.takes.1 (d ++ s.takes.2.filter fun v=>decide (v≠[])):=by
 have hg:=s.front_ge
 refine ⟨fun x hx=>?_,?_⟩
 ·show ∃v,s.dec (x:Int)=some v
  have hx:x < s.front:=hx
  by_cases hl:x < s.taken
  ·exact h.all x hl
  ·exact frontG_has _ _ _ x (by omega) hx
 ·have e:s.front=s.taken + (s.front - s.taken):=by omega
  show _=valsF s.val s.front
  rw [e,valsF_add,h.eq]
  rfl
theorem DoneS.new (me n pat:Nat):DoneS (Site.new me n pat) []:=⟨fun x hx=>by simp [Site.new] at hx,rfl⟩
structure DInv (w:Wd):Prop where
 len:w.done.length=w.ss.length
 one:∀(i:Nat) s,w.ss[i]? =some s→∃d,w.done[i]? =some d∧DoneS s d
namespace DInv
variable {w:Wd}
theorem new (n pat:Nat):DInv (Wd.new n pat):=by
 refine ⟨by simp [Wd.new],fun i s hs=>?_⟩
 unfold Wd.new at hs ⊢
 simp only at hs ⊢
 obtain ⟨hi,he⟩:=List.getElem?_eq_some_iff.1 hs
 rw [List.length_map,List.length_range] at hi
 rw [List.getElem_map,List.getElem_range] at he
 subst he
 exact ⟨[],by rw [List.getElem?_replicate,if_pos hi],DoneS.new _ _ _⟩
theorem deed1 (h:DInv w) {i:Nat} {s t:Site} (hs:w.ss[i]? =some s) (k:Site.Lg s t) (net:List Ms):DInv {w with ss:=w.ss.set i t,net:=net}:=by
 refine ⟨by simp [h.len],fun j u hu=>?_⟩
 simp only at hu
 by_cases e:i=j
 ·subst e
  rw [List.getElem?_set_self (List.getElem?_eq_some_iff.1 hs).1] at hu
  injection hu with hu;subst hu
  obtain ⟨d,h1,h2⟩:=h.one i s hs
  exact ⟨d,h1,h2.lg k⟩
 ·rw [List.getElem?_set_ne e] at hu
  exact h.one j u hu
theorem netw (h:DInv w) (net:List Ms):DInv {w with net:=net}:=⟨h.len,h.one⟩
theorem deed (h:DInv w) (i:Nat) {f:Site→Site} (k:∀s,Site.Lg s (f s)):DInv (w.deed i f):=by
 unfold Wd.deed
 split
 ·exact h
 ·exact h.deed1 (by assumption) (k _) w.net
theorem tell (h:DInv w) (i:Nat):DInv (w.tell i):=by
 unfold Wd.tell
 split
 ·exact h
 ·exact h.deed1 (by assumption) (Site.lg_sync _) _
theorem deliver (h:DInv w) (k:Nat):DInv (w.deliver k):=by
 unfold Wd.deliver
 split
 ·exact h
 split
 ·exact h.netw _
 ·exact h.deed1 (by assumption) (Site.lg_handle _ _) _
theorem double (h:DInv w) (k:Nat):DInv (w.double k):=by
 unfold Wd.double
 split
 ·exact h
 split
 ·exact h.netw _
 ·exact h
theorem set1 (h:DInv w) {i:Nat} {s t:Site} (hs:w.ss[i]? =some s) {d:List (List UInt8)} (hd:DoneS t d):DInv {w with ss:=w.ss.set i t,done:=w.done.set i d}:=by
 have hi:=(List.getElem?_eq_some_iff.1 hs).1
 refine ⟨by simp [h.len],fun j u hu=>?_⟩
 simp only at hu ⊢
 by_cases e:i=j
 ·subst e
  rw [List.getElem?_set_self hi] at hu
  injection hu with hu;subst hu
  exact ⟨d,by rw [List.getElem?_set_self (by rw [h.len];exact hi)],hd⟩
 ·rw [List.getElem?_set_ne e] at hu ⊢
  exact h.one j u hu
theorem take (h:DInv w) (i:Nat):DInv (w.take i):=by
 unfold Wd.take
 split
 ·exact h
 ·rename_i s hs
  obtain ⟨d,h1,h2⟩:=h.one i s hs
  refine h.set1 hs ?_
  rw [List.getD_eq_getElem?_getD,h1]
  exact h2.takes
theorem _root_.Agio.Site.recall_taken (s:Site) (r:Rc):(s.recall r).taken=s.taken:=by
 unfold Site.recall
 split
 ·rfl
 split <;> rfl
theorem _root_.Agio.Site.recalls_taken:∀(l:List Rc) (s:Site),(l.foldl Site.recall s).taken=s.taken
 | [],_=>rfl
 | r :: l,s=>(Site.recalls_taken l (s.recall r)).trans (Site.recall_taken s r)
theorem restart (h:DInv w) (i:Nat):DInv (w.restart i):=by
 unfold Wd.restart
 split
 ·exact h
 ·rename_i s hs
  obtain ⟨d,h1,h2⟩:=h.one i s hs
  cases hd:s.down with
  | false=>
   have e:s.restart=s:=by unfold Site.restart;rw [if_neg (by rw [hd];simp)]
   rw [e]
   have k:=h.deed1 hs (Site.Lg.refl s) w.net
   simpa using k
  | true=>
   refine h.set1 hs ?_
   have e:s.restart.taken=0:=by
    unfold Site.restart
    rw [if_pos hd]
    exact Site.recalls_taken _ _
   exact ⟨fun x hx=>by omega,by rw [e];rfl⟩
theorem do_ (h:DInv w) (k s a n:Int) (v:List UInt8):DInv (w.do_ k s a n v).1:=by
 have at_:∀(f:Nat→Wd × Int × Int),(∀i,DInv (f i).1)→DInv (w.atSite s f).1:=fun f hf=>by
  unfold Wd.atSite
  split
  ·exact h
  ·exact hf _
 unfold Wd.do_
 split
 ·refine at_ _ fun i=>?_
  unfold Wd.subm
  split
  ·exact h
  ·exact h.deed1 (by assumption) (Site.lg_submit _ v) w.net
 split
 ·dsimp only;split
  ·exact h.deliver _
  ·exact h
 split
 ·dsimp only;split
  ·exact h.netw _
  ·exact h
 split
 ·dsimp only;split
  ·exact h.double _
  ·exact h
 split
 ·exact at_ _ fun i=>h.deed i Site.lg_tick
 split
 ·exact at_ _ fun i=>h.tell i
 split
 ·exact at_ _ fun i=>h.deed i fun s=>Site.lg_crash s n
 split
 ·exact at_ _ fun i=>h.restart i
 ·exact h
end DInv
theorem valsF_mem {f:Nat→List UInt8} {t:Nat} {v:List UInt8} (h:v∈valsF f t):v≠[]∧∃x,x < t∧f x=v:=by
 unfold valsF at h
 obtain ⟨h1,h2⟩:=List.mem_filter.1 h
 obtain ⟨x,hx,e⟩:=List.mem_map.1 h1
 exact ⟨by simpa using h2,x,List.mem_range.1 hx,e⟩
theorem valsF_nodup {f:Nat→List UInt8} {t:Nat} (h:∀x y,x < t→y < t→f x=f y→f x≠[]→x=y):(valsF f t).Nodup:=by
 unfold valsF
 rw [List.Nodup,List.pairwise_filter,List.pairwise_map]
 refine List.Pairwise.imp_of_mem (R:=fun a b=>a≠b) (fun {a b} ha hb hne h1 h2 e=>hne (h a b (List.mem_range.1 ha) (List.mem_range.1 hb) e (by simpa using h1))) ?_
 exact List.nodup_range
end Agio
namespace Agio
open Go Go.Proofs.YtijhlbeipglieaaGreat
def WLv (w:Wd) (y:Nat):Prop:=∀(i:Nat) s,w.ss[i]? =some s→Lv s y
theorem Lv.less {s:Site} {y z:Nat} (h:Lv s y) (hz:z≤y):Lv s z:=by
 obtain ⟨S,⟨R,c,h1,h2⟩ | h1⟩:=h
 ·exact ⟨S,.inl ⟨R,c,h1,by omega⟩⟩
 ·exact ⟨S,.inr h1⟩
namespace Wd
def ticks (w:Wd):Nat→Wd
 | 0=>w
 | i + 1=>((w.ticks i).deed i Site.tick).tell i
def deal (w:Wd) (m:Ms):Wd:=(w.deliver 0).tell m.to.toNat
def drain:Nat→Wd→Wd × Nat
 | 0,w=>(w,0)
 | k + 1,w=>match w.net with
  | []=>(w,0)
  | m :: _=>((drain k (w.deal m)).1,(drain k (w.deal m)).2 + 1)
def round (w:Wd):Wd × Nat:=drain 20000 (w.ticks w.ss.length)
theorem drain_nil (k:Nat) {w:Wd} (h:w.net= []):drain k w=(w,0):=by
 cases k with
 | zero=>rfl
 | succ k=>unfold drain;rw [h]
theorem drain_cons (k:Nat) {w:Wd} {m:Ms} {l:List Ms} (h:w.net=m :: l):drain (k + 1) w=((drain k (w.deal m)).1,(drain k (w.deal m)).2 + 1):=by
 rw [drain,h]
structure RoundOk (w:Wd):Prop where
 tick:∀i,i < w.ss.length→WLv (w.ticks i) 300∧WLv ((w.ticks i).deed i Site.tick) 0
 deal:∀k,k < 20000→WLv (drain k (w.ticks w.ss.length)).1 0∧∀m l,(drain k (w.ticks w.ss.length)).1.net=m :: l→WLv ((drain k (w.ticks w.ss.length)).1.deliver 0) 0
end Wd
section
variable {w:Wd} {n c:Nat} {P:Int→List UInt8→Prop} {G:Int→List Rc}
theorem WInv.ticks:∀(i c:Nat),WInv w n P (300 * i + c) G→∃G',GLe G G'∧WInv (w.ticks i) n P c G'
 | 0,c,h=>⟨G,GLe.refl G,h.less (by omega)⟩
 | i + 1,c,h=>by
  obtain ⟨G1,g1,h1⟩:=WInv.ticks i (300 + c) (h.less (by omega))
  have h2:=h1.tick i
  obtain ⟨G2,g2,h3⟩:=h2.tell i
  exact ⟨G2,fun f=>(g1 f).trans (g2 f),h3⟩
theorem WInv.deal (h:WInv w n P (100 + c) G) (m:Ms):∃G',GLe G G'∧WInv (w.deal m) n P c G':=(h.deliver 0).tell _
theorem WInv.drain:∀(k:Nat) {w:Wd} {G:Int→List Rc},WInv w n P (100 * k + c) G→∃G',GLe G G'∧WInv (Wd.drain k w).1 n P c G'
 | 0,w,G,h=>⟨G,GLe.refl G,h.less (by omega)⟩
 | k + 1,w,G,h=>by
  cases hn:w.net with
  | nil=>rw [Wd.drain_nil _ hn];exact ⟨G,GLe.refl G,h.less (by omega)⟩
  | cons m l=>
   rw [Wd.drain_cons _ hn]
   obtain ⟨G1,g1,h1⟩:=WInv.deal (c:=100 * k + c) (h.less (by omega)) m
   obtain ⟨G2,g2,h2⟩:=WInv.drain k h1
   exact ⟨G2,fun f=>(g1 f).trans (g2 f),h2⟩
theorem WInv.round_eq (h:WInv w n P c G):w.round=Wd.drain 20000 (w.ticks n):=by rw [Wd.round,h.len]
theorem WInv.round (h:WInv w n P (300 * n + 2000000 + c) G):∃G',GLe G G'∧WInv w.round.1 n P c G':=by
 obtain ⟨G1,g1,h1⟩:=WInv.ticks n (2000000 + c) (h.less (by omega))
 obtain ⟨G2,g2,h2⟩:=WInv.drain (c:=c) 20000 (h1.less (by omega))
 exact ⟨G2,fun f=>(g1 f).trans (g2 f),by rw [h.round_eq];exact h2⟩
theorem WInv.roundOk (h:WInv w n P (300 * n + 2000000) G):Wd.RoundOk w:=by
 refine ⟨fun i hi=>?_,fun k hk=>?_⟩
 ·rw [h.len] at hi
  obtain ⟨G1,-,h1⟩:=WInv.ticks i 300 (h.less (by omega))
  exact ⟨h1.lv,(WInv.tick (c:=0) h1 i).lv⟩
 ·rw [h.len]
  obtain ⟨G1,-,h1⟩:=WInv.ticks n 2000000 (h.less (by omega))
  obtain ⟨G2,-,h2⟩:=WInv.drain (c:=100) k (h1.less (by omega))
  exact ⟨fun i s hs=>(h2.lv i s hs).less (by omega),fun m l _=>(WInv.deliver (c:=0) h2 0).lv⟩
end
theorem DInv.ticks {w:Wd} (h:DInv w):∀i,DInv (w.ticks i)
 | 0=>h
 | i + 1=>((DInv.ticks h i).deed i Site.lg_tick).tell i
theorem DInv.drain:∀(k:Nat) {w:Wd},DInv w→DInv (Wd.drain k w).1
 | 0,_,h=>h
 | k + 1,w,h=>by
  cases hn:w.net with
  | nil=>rw [Wd.drain_nil _ hn];exact h
  | cons m l=>rw [Wd.drain_cons _ hn];exact DInv.drain k ((h.deliver 0).tell _)
theorem DInv.round {w:Wd} (h:DInv w):DInv w.round.1:=DInv.drain _ (h.ticks _)
end Agio
namespace Agio
open Go Go.Proofs.YtijhlbeipglieaaGreat
theorem Site.submit_owner (s:Site) (v:List UInt8) (h:(s.submit v).2.2=0):ownerI (s.submit v).2.1 s.n=(s.me:Int):=by
 by_cases hd:s.down=true
 ·exfalso;revert h;unfold Site.submit;rw [if_pos hd];simp
 by_cases hv:v.length=0∨2048 < v.length
 ·exfalso;revert h;unfold Site.submit;rw [if_neg hd,if_pos hv];simp
 rw [Site.submit_eq s v (by simpa using hd) (by omega) (by omega)] at h ⊢
 have hr:=nextI_range (s.me:Int) s.nx s.n
 have hfo:=s.free_ok 4096 (nextI s.me s.nx s.n) (by omega) (fun h0=>by omega) (fun h0=>nextI_owner h0)
 generalize s.free 4096 (nextI s.me s.nx s.n)=x at *
 unfold Site.subAt at h ⊢
 split
 ·rename_i hx;rw [if_pos hx] at h;simp at h
 rename_i hx
 rw [if_neg hx] at h
 split
 ·rename_i ha;rw [ha] at h;simp at h
 ·exact (hfo (by omega)).2
section
variable {w:Wd} {n c:Nat} {P P':Int→List UInt8→Prop} {G:Int→List Rc}
theorem WInv.monoP (h:WInv w n P c G) (hp:∀x v,P x v→P' x v):WInv w n P' c G:=
 ⟨h.glob.monoP hp,h.len,fun i s hs=>by
  obtain ⟨h1,h2,h3⟩:=h.site i s hs
  exact ⟨h1,h2,h3.imp (fun ⟨R,z,h4,h5⟩=>⟨R,z,h4.mono (GLe.refl G) hp rfl,h5⟩) fun h4=>h4.mono (GLe.refl G) hp rfl⟩,h.net⟩
theorem Wd.place_some {s:Int} {i:Nat} (h:w.place s=some i):s=(i:Int)∧∃t,w.ss[i]? =some t:=by
 unfold Wd.place at h
 split at h
 ·rename_i hs
  injection h with h
  subst h
  exact ⟨by omega,w.ss[s.toNat]'(by omega),List.getElem?_eq_getElem (by omega)⟩
 ·cases h
theorem WInv.do_ (h:WInv w n P (300 + c) G) (hc:c≤400000000) (k s a m:Int) (v:List UInt8) (hp:∀x v,P x v→P' x v) (hs:k=1→(w.do_ k s a m v).2.2=0→P' (w.do_ k s a m v).2.1 v) :
  ∃G',GLe G G'∧WInv (w.do_ k s a m v).1 n P' c G':=by
 have h':=h.monoP hp
 have at_:∀(f:Nat→Wd × Int × Int),(∀i,∃G',GLe G G'∧WInv (f i).1 n P' c G')→∃G',GLe G G'∧WInv (w.atSite s f).1 n P' c G':=fun f hf=>by
  unfold Wd.atSite
  split
  ·exact ⟨G,GLe.refl G,h'.less (by omega)⟩
  ·exact hf _
 unfold Wd.do_ at hs ⊢
 split
 ·rename_i k1
  rw [if_pos k1] at hs
  have hs:=hs k1
  unfold Wd.atSite at hs ⊢
  split
  ·exact ⟨G,GLe.refl G,h'.less (by omega)⟩
  ·rename_i i hpl
   rw [hpl] at hs
   dsimp only at hs
   obtain ⟨-,t,ht⟩:=Wd.place_some hpl
   unfold Wd.subm at hs ⊢
   rw [ht] at hs ⊢
   have:=(h.less (d:=100 + c) (by omega)).submit (P':=P') v ht hp hs
   unfold Wd.deed at this
   rw [ht] at this
   exact ⟨G,GLe.refl G,this⟩
 split
 ·dsimp only;split
  ·exact ⟨G,GLe.refl G,(h'.less (d:=100 + c) (by omega)).deliver _⟩
  ·exact ⟨G,GLe.refl G,h'.less (by omega)⟩
 split
 ·dsimp only;split
  ·exact ⟨G,GLe.refl G,(h'.less (by omega)).drop _⟩
  ·exact ⟨G,GLe.refl G,h'.less (by omega)⟩
 split
 ·dsimp only;split
  ·exact ⟨G,GLe.refl G,(h'.less (by omega)).double _⟩
  ·exact ⟨G,GLe.refl G,h'.less (by omega)⟩
 split
 ·exact at_ _ fun i=>⟨G,GLe.refl G,h'.tick i⟩
 split
 ·exact at_ _ fun i=>(h'.less (by omega)).tell i
 split
 ·exact at_ _ fun i=>⟨G,GLe.refl G,(h'.less (by omega)).crash i m⟩
 split
 ·exact at_ _ fun i=>(h'.less (by omega)).restart hc i
 ·exact ⟨G,GLe.refl G,h'.less (by omega)⟩
theorem WInv.do_owner (h:WInv w n P c G) {s a m:Int} {v:List UInt8} (hs:(w.do_ 1 s a m v).2.2=0):ownerI (w.do_ 1 s a m v).2.1 n=s:=by
 unfold Wd.do_ at hs ⊢
 rw [if_pos rfl] at hs ⊢
 unfold Wd.atSite at hs ⊢
 split
 ·rename_i hpl;rw [hpl] at hs;simp at hs
 ·rename_i i hpl
  rw [hpl] at hs
  dsimp only at hs
  obtain ⟨e,t,ht⟩:=Wd.place_some hpl
  unfold Wd.subm at hs ⊢
  rw [ht] at hs ⊢
  have h1:=t.submit_owner v hs
  obtain ⟨h2,h3,-⟩:=h.site i t ht
  rw [h3,h2] at h1
  rw [e]
  exact h1
theorem WInv.take (h:WInv w n P c G) (i:Nat):WInv (w.take i) n P c G:=by
 unfold Wd.take
 split
 ·exact h
 ·rename_i s hs
  have hA:∀{R z},PA G P s R z→PA G P s.takes.1 R z:=fun {R z} h1=>
   ⟨⟨⟨h1.al.ok.me,h1.al.ok.n3,h1.al.ok.n7,h1.al.ok.pat,h1.al.ok.st,h1.al.ok.rs,h1.al.ok.top,h1.al.ok.nx,h1.al.ok.held⟩,h1.al.up,h1.al.may,h1.al.db,h1.al.good,h1.al.pre,h1.al.dn,h1.al.st,h1.al.held,h1.al.rds,h1.al.lim,h1.al.rlim,h1.al.wt,h1.al.lv⟩,h1.msg,h1.rnd,h1.dec,h1.recs,h1.one⟩
  have hD:PD G P s→PD G P s.takes.1:=fun h1=>
   ⟨⟨⟨h1.dn.ok.me,h1.dn.ok.n3,h1.dn.ok.n7,h1.dn.ok.pat,h1.dn.ok.st,h1.dn.ok.rs,h1.dn.ok.top,h1.dn.ok.nx,h1.dn.ok.held⟩,h1.dn.down,h1.dn.pre,h1.dn.good,h1.dn.dn,h1.dn.held⟩,h1.dec,h1.recs,h1.one⟩
  exact h.deed1 (P':=P) (t:=s.takes.1) hs ⟨rfl,rfl⟩ (Nat.le_refl _) (fun _ _ h=>h) (fun R z h1 h2=>.inl ⟨R,z,hA h1,h2⟩) (fun h1=>.inl (hD h1)) (fun _ h=>h) _
end
end Agio
namespace Agio
open Go Go.Proofs.YtijhlbeipglieaaGreat
noncomputable def awk0:Wd:=((Wd.new 3 4).do_ 1 1 0 0 [120]).1
noncomputable def awk1:Wd:=awk0.round.1
noncomputable def awkT:Nat→Wd
 | 0=>awk1.round.1
 | i + 1=>(awkT i).take i
theorem awk0_do:((Wd.new 3 4).do_ 1 1 0 0 [120]).2=(1,0):=by kernel_rfl
theorem awkT_len:∀i,(awkT i).ss.length=3:=by
 have h:(awkT 0).ss.length=3:=by kernel_rfl
 intro i
 induction i with
 | zero=>exact h
 | succ i ih=>
  show ((awkT i).take i).ss.length=3
  unfold Wd.take
  split
  ·exact ih
  ·simpa using ih
theorem awk_all:∀i,i < 3→(awkT (i + 1)).done.getD i []= [[120]]∧((awkT (i + 1)).ss[i]?.map Site.front).getD 0=2:=by
 intro i hi
 have:i=0∨i=1∨i=2:=by omega
 rcases this with rfl | rfl | rfl
 ·exact ⟨by kernel_rfl,by kernel_rfl⟩
 ·exact ⟨by kernel_rfl,by kernel_rfl⟩
 ·exact ⟨by kernel_rfl,by kernel_rfl⟩
theorem newOk34:newOk ((0:Nat):Int) ((3:Nat):Int) ((4:Nat):Int)=true:=by decide
theorem awk0_inv:∃G,WInv awk0 3 (fun _ _=>True) 300000000 G:=by
 have h:=WInv.new newOk34 (fun _ _=>True)
 obtain ⟨G,-,h2⟩:=(h.less (d:=300 + 300000000) (by omega)).do_ (P':=fun _ _=>True) (by omega) 1 1 0 0 [120] (fun _ _ h=>h) (fun _ _=>trivial)
 exact ⟨G,h2⟩
theorem awk1_inv:∃G,WInv awk1 3 (fun _ _=>True) 200000000 G:=by
 obtain ⟨G,h⟩:=awk0_inv
 obtain ⟨G2,-,h2⟩:=WInv.round (c:=200000000) (h.less (by omega))
 exact ⟨G2,h2⟩
theorem awk0_dinv:DInv awk0:=(DInv.new 3 4).do_ 1 1 0 0 [120]
theorem awkT_dinv:∀i,DInv (awkT i)
 | 0=>awk0_dinv.round.round
 | i + 1=>(awkT_dinv i).take i
end Agio
