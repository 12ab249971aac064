/- Merged: PlainSt3, PlainSt4, PlainDec. -/
import Derived.Test.YtijhlbeipglieaaGreatPkSiteI
set_option linter.all false
namespace Agio
open Go Go.Proofs.YtijhlbeipglieaaGreat
def bestP (n:Int) (l:List Pm):Option Pm:=
 l.foldl (fun b p=>if p.so && isSite p.f n && (match b with | none=>true | some q=>decide (0 < cmpB p.at_ q.at_)) then some p else b) none
def chooseP (l:List Pm) (n:Int):Option (List UInt8):=if mostI (l.map Pm.f) n then some (((bestP n l).map Pm.b).getD []) else none
instance (m:Ms):Decidable m.May:=decidable_of_iff ((1≤m.kind∧m.kind≤8)∧(0≤m.frm∧m.frm≤6)∧(0≤m.to∧m.to≤6)∧(0≤m.slot∧m.slot≤4095)∧(0≤m.bround∧m.bround≤1099511627776)∧(0≤m.bsite∧m.bsite≤6)∧
  (0≤m.hround∧m.hround≤1099511627776)∧(0≤m.hsite∧m.hsite≤6)∧m.val.length≤2048∧(m.some_=true∨(m.hround=0∧m.hsite=0)∧m.val.length=0))
 ⟨fun ⟨a,b,c,d,e,f,g,h,i,j⟩=>⟨a,b,c,d,e,f,g,h,i,j⟩,fun ⟨a,b,c,d,e,f,g,h,i,j⟩=>⟨a,b,c,d,e,f,g,h,i,j⟩⟩
def Ms.bal (m:Ms):Bl:=⟨m.bround,m.bsite⟩
def Ms.had (m:Ms):Bl:=⟨m.hround,m.hsite⟩
namespace Site
variable (s:Site)
def front:Nat:=frontG s.lv (4096 - s.taken) s.taken
def topA:Int:=max s.top (topG s.lv)
def answer (s:Site) (slot:Int) (b:Bl):Ms:=⟨4,0,0,slot,b.r,b.s,(s.stat slot).at_.r,(s.stat slot).at_.s,(s.stat slot).so,(s.stat slot).b⟩
def skips (slot:Int) (b:Bl):Ms:=⟨2,0,0,slot,b.r,b.s,0,0,false,[]⟩
def skip1 (t:Site) (b:Bl) (x:Int):Site:={(t.others (skips x b) t.n).send t.me (skips x b) with nx:=(x + 1).toNat}
def skipF:Nat→Nat→Site→Int→Site
 | 0,_,s,_=>s
 | f + 1,c,s,to=>
  if 8≤c then s else
  if nextI s.me s.nx s.n < 0∨to≤nextI s.me s.nx s.n then s else
  if s.fresh (nextI s.me s.nx s.n) then match s.accept (nextI s.me s.nx s.n) s.ownB [] with
   | none=>s
   | some t=>skipF f (c + 1) (t.skip1 s.ownB (nextI s.me s.nx s.n)) to
  else skipF f c {s with nx:=(nextI s.me s.nx s.n + 1).toNat} to
def skip (to:Int):Site:=skipF 4098 0 s to
def low (slot:Int):Bl:=
 match lookG slot s.rs with
 | some r=>if 0 < cmpB r.bal (s.stat slot).p then r.bal else (s.stat slot).p
 | none=>(s.stat slot).p
def begin_ (slot:Int):Site:=
 if cmpB ((s.low slot).next s.me) (s.low slot)≤0 then s else match s.promise slot ((s.low slot).next s.me) with
 | none=>s
 | some t=>
  let r:Rn:=⟨(s.low slot).next s.me,[],false,[],[],0⟩
  let u:=({t with rs:=putG slot r t.rs} :Site).others (asks r slot) s.n
  u.send u.me (u.answer slot r.bal)
def again:Site:=(s.rs.take 8).foldl (fun u p=>u.others (asks p.2 p.1) u.n) {s with rs:=mapG (fun r=>{r with age:=r.age + 1}) s.rs}
def suspects:List Int:=((List.range s.n).filter fun i=>decide ((s.pat:Int) < s.wt.getD i 0)).map fun (i:Nat)=>(i:Int)
def leads:Bool:=leadG s.pat (s.wt.take s.n) 0 == (s.me:Int)
def due (slot:Int):Bool:=
 (s.dec slot).isNone && !(match lookG slot s.rs with | some r=>decide (r.age≤s.pat) | none=>false) &&
  ((ownerI slot s.n == (s.me:Int) && !s.fresh slot) || (s.leads && s.suspects.contains (ownerI slot s.n)))
def late (top:Int):List Int:=(((List.range' s.front (top.toNat - s.front)).map fun (i:Nat)=>(i:Int)).filter s.due).take 8
def ask_ (f:Int) (b:Bool):Ms:=⟨8,0,0,f,0,0,0,0,b,[]⟩
def tick:Site:=
 if s.down then s else
 let s2:=({s with wt:=tickG s.me s.wt s.n} :Site).again
 let s3:=s2.skip s2.topA
 let s4:=(s3.late s3.topA).foldl begin_ s3
 if s4.front < 4096 then s4.others (ask_ s4.front (decide ((s4.front:Int) < s3.topA))) s4.n else s4
def suggested (m:Ms):Site:=
 if m.some_=true∧m.frm=ownerI m.slot s.n∧m.bal=⟨0,m.frm⟩ then
  (match s.accept m.slot m.bal m.val with | some t=>t.send m.frm (votes m.slot m.bal) | none=>s).skip m.slot
 else s
def skipped (m:Ms):Site:=if m.frm=ownerI m.slot s.n then s.decide_ m.slot [] else s
def prepared (m:Ms):Site:=
 if 1≤m.bround∧m.bsite=m.frm then
  (match s.promise m.slot m.bal with | some t=>t.send m.frm (t.answer m.slot m.bal) | none=>s)
 else s
def promised (m:Ms):Site:=
 match lookG m.slot s.rs with
 | none=>s
 | some r=>
  if r.bal=m.bal∧r.so=false then
   let pr:=r.pr ++ [(⟨m.frm,m.some_,m.had,m.val⟩:Pm)]
   let t:={s with rs:=putG m.slot {r with pr:=pr} s.rs}
   match chooseP pr s.n with
   | none=>t
   | some v=>match t.accept m.slot r.bal v with
    | none=>{t with rs:=delG m.slot t.rs}
    | some u=>
     let r':={r with pr:=pr,so:=true,b:=v}
     (({u with rs:=putG m.slot r' u.rs} :Site).others (asks r' m.slot) s.n).send s.me (votes m.slot r.bal)
  else s
def asked (m:Ms):Site:=
 if m.some_=true∧1≤m.bround∧m.bsite=m.frm then
  (match s.accept m.slot m.bal m.val with | some t=>t.send m.frm (votes m.slot m.bal) | none=>s)
 else s
def learned (m:Ms):Site:=if m.some_=true then s.decide_ m.slot m.val else s
def wanted (m:Ms):Site:=
 let t:=if m.some_=true∧s.dec m.slot=none∧ownerI m.slot s.n=s.me then s.skip (m.slot + 1) else s
 ((((List.range' m.slot.toNat ((topG t.lv).toNat - m.slot.toNat)).map fun (i:Nat)=>(i:Int)).filter fun x=>(t.dec x).isSome).take 16).foldl (fun u x=>u.send m.frm (tells x ((t.dec x).getD []))) t
def does (m:Ms):Site:=
 if m.kind=1 then s.suggested m else if m.kind=2 then s.skipped m else if m.kind=3 then s.prepared m else if m.kind=4 then s.promised m
 else if m.kind=5 then s.asked m else if m.kind=6 then s.accepted m else if m.kind=7 then s.learned m else if m.kind=8 then s.wanted m else s
def take (m:Ms):Site:=
 if m.kind=1∨m.kind=3∨m.kind=5 then match s.dec m.slot with | some v=>s.send m.frm (tells m.slot v) | none=>s.does m
 else s.does m
def handle (m:Ms):Site × Int:=
 if s.down then (s,14) else if ¬ m.May then (s,1) else if m.to≠s.me∨m.frm=s.me∨(s.n:Int)≤m.frm then (s,1) else
 (({s with wt:=s.wt.set m.frm.toNat 0} :Site).take m,0)
def sync:Site × List Ms:=
 if s.down then (s,[]) else
 ((s.held.filter fun m=>decide (m.to=(s.me:Int))).foldl take {s with dn:=s.db.length,held:=[]},s.held.filter fun m=>decide (m.to≠(s.me:Int)))
def kept (k:Int):Nat:=s.dn + (max 0 (min k ((s.db.length:Int) - s.dn))).toNat
def crash (k:Int):Site:=if s.down then s else {s with db:=s.db.take (s.kept k),dn:=s.kept k,down:=true}
def recall (r:Rc):Site:=
 if r.kind=1 then s.turn r.slot {s.stat r.slot with p:=⟨r.round,r.site⟩}
 else if cmpB ⟨r.round,r.site⟩ (s.stat r.slot).p < 0 then s else s.turn r.slot ⟨⟨r.round,r.site⟩,true,⟨r.round,r.site⟩,r.val⟩
noncomputable def restart:Site:=
 if s.down then
  let p:=readB s.db
  p.1.foldl recall {Site.new s.me s.n s.pat with db:=s.db.take p.2,dn:=min s.dn p.2}
 else s
def takes:Site × List (List UInt8):=
 ({s with taken:=s.front},(List.range' s.taken (s.front - s.taken)).map fun (i:Nat)=>(s.dec i).getD [])
end Site
end Agio
namespace Agio
open Go Go.Proofs.YtijhlbeipglieaaGreat
structure Site.Kin (s t:Site):Prop where
 me:t.me=s.me
 n:t.n=s.n
 pat:t.pat=s.pat
 down:t.down=s.down
 wt:t.wt=s.wt
 dn:t.dn=s.dn
 taken:t.taken=s.taken
namespace Site
variable {s t u:Site}
theorem Kin.refl (s:Site):Kin s s:=⟨rfl,rfl,rfl,rfl,rfl,rfl,rfl⟩
theorem Kin.trans (h:Kin s t) (k:Kin t u):Kin s u:=⟨k.me.trans h.me,k.n.trans h.n,k.pat.trans h.pat,k.down.trans h.down,k.wt.trans h.wt,k.dn.trans h.dn,k.taken.trans h.taken⟩
theorem kin_send (s:Site) (to:Int) (m:Ms):Kin s (s.send to m):=⟨rfl,rfl,rfl,rfl,rfl,rfl,rfl⟩
theorem kin_others (s:Site) (m:Ms) (i:Nat):Kin s (s.others m i):=by rw [others_eq];exact ⟨rfl,rfl,rfl,rfl,rfl,rfl,rfl⟩
theorem kin_note {y:Sp} {r:Rc} (h:s.note y r=some t):Kin s t:=by
 unfold note at h
 split at h
 ·injection h with h;subst h;exact ⟨rfl,rfl,rfl,rfl,rfl,rfl,rfl⟩
 ·cases h
theorem kin_accept {x:Int} {b:Bl} {v:List UInt8} (h:s.accept x b v=some t):Kin s t:=by
 unfold accept at h
 split at h
 ·cases h
 ·exact kin_note h
theorem kin_promise {x:Int} {b:Bl} (h:s.promise x b=some t):Kin s t:=by
 unfold promise at h
 split at h
 ·cases h
 ·exact kin_note h
theorem kin_decide (s:Site) (x:Int) (v:List UInt8):Kin s (s.decide_ x v):=by
 unfold decide_;split <;> exact ⟨rfl,rfl,rfl,rfl,rfl,rfl,rfl⟩
theorem kin_rs (s:Site) (l:AL Rn):Kin s {s with rs:=l}:=⟨rfl,rfl,rfl,rfl,rfl,rfl,rfl⟩
theorem kin_nx (s:Site) (x:Nat):Kin s {s with nx:=x}:=⟨rfl,rfl,rfl,rfl,rfl,rfl,rfl⟩
theorem kin_skip1 (t:Site) (b:Bl) (x:Int):Kin t (t.skip1 b x):=((kin_others t (skips x b) t.n).trans (kin_send _ _ _)).trans (kin_nx _ _)
theorem kin_skipF:∀(f c:Nat) (s:Site) (to:Int),Kin s (skipF f c s to)
 | 0,_,s,_=>Kin.refl s
 | f + 1,c,s,to=>by
  unfold skipF
  split
  ·exact Kin.refl s
  split
  ·exact Kin.refl s
  split
  ·split
   ·exact Kin.refl s
   ·exact ((kin_accept (by assumption)).trans (kin_skip1 _ _ _)).trans (kin_skipF f _ _ _)
  ·exact (kin_nx _ _).trans (kin_skipF f _ _ _)
theorem kin_skip (s:Site) (to:Int):Kin s (s.skip to):=kin_skipF _ _ _ _
theorem kin_begin (s:Site) (x:Int):Kin s (s.begin_ x):=by
 unfold begin_
 split
 ·exact Kin.refl s
 split
 ·exact Kin.refl s
 ·exact (((kin_promise (by assumption)).trans (kin_rs _ _)).trans (kin_others _ _ _)).trans (kin_send _ _ _)
theorem kin_suggested (s:Site) (m:Ms):Kin s (s.suggested m):=by
 unfold suggested
 split
 ·refine Kin.trans ?_ (kin_skip _ _)
  split
  ·exact (kin_accept (by assumption)).trans (kin_send _ _ _)
  ·exact Kin.refl s
 ·exact Kin.refl s
theorem kin_skipped (s:Site) (m:Ms):Kin s (s.skipped m):=by
 unfold skipped
 split
 ·exact kin_decide _ _ _
 ·exact Kin.refl s
theorem kin_prepared (s:Site) (m:Ms):Kin s (s.prepared m):=by
 unfold prepared
 split
 ·split
  ·exact (kin_promise (by assumption)).trans (kin_send _ _ _)
  ·exact Kin.refl s
 ·exact Kin.refl s
theorem kin_promised (s:Site) (m:Ms):Kin s (s.promised m):=by
 unfold promised
 split
 ·exact Kin.refl s
 split
 ·simp only
  split
  ·exact kin_rs _ _
  ·split
   ·exact (kin_rs _ _).trans (kin_rs _ _)
   ·exact ((((kin_rs _ _).trans (kin_accept (by assumption))).trans (kin_rs _ _)).trans (kin_others _ _ _)).trans (kin_send _ _ _)
 ·exact Kin.refl s
theorem kin_asked (s:Site) (m:Ms):Kin s (s.asked m):=by
 unfold asked
 split
 ·split
  ·exact (kin_accept (by assumption)).trans (kin_send _ _ _)
  ·exact Kin.refl s
 ·exact Kin.refl s
theorem kin_accepted (s:Site) (m:Ms):Kin s (s.accepted m):=by
 unfold accepted
 split
 ·exact Kin.refl s
 split
 ·simp only
  split
  ·exact ((kin_rs _ _).trans (kin_decide _ _ _)).trans (kin_others _ _ _)
  ·exact kin_rs _ _
 ·exact Kin.refl s
theorem kin_learned (s:Site) (m:Ms):Kin s (s.learned m):=by
 unfold learned
 split
 ·exact kin_decide _ _ _
 ·exact Kin.refl s
theorem kin_sends (to:Int) (f:Int→Ms):∀(l:List Int) (s:Site),Kin s (l.foldl (fun u x=>u.send to (f x)) s)
 | [],s=>Kin.refl s
 | x :: l,s=>(kin_send s to (f x)).trans (kin_sends to f l _)
theorem kin_wanted (s:Site) (m:Ms):Kin s (s.wanted m):=by
 unfold wanted
 simp only
 refine Kin.trans ?_ (kin_sends _ _ _ _)
 split
 ·exact kin_skip _ _
 ·exact Kin.refl s
theorem kin_does (s:Site) (m:Ms):Kin s (s.does m):=by
 unfold does
 split
 ·exact kin_suggested _ _
 split
 ·exact kin_skipped _ _
 split
 ·exact kin_prepared _ _
 split
 ·exact kin_promised _ _
 split
 ·exact kin_asked _ _
 split
 ·exact kin_accepted _ _
 split
 ·exact kin_learned _ _
 split
 ·exact kin_wanted _ _
 ·exact Kin.refl s
theorem kin_take (s:Site) (m:Ms):Kin s (s.take m):=by
 unfold take
 split
 ·split
  ·exact kin_send _ _ _
  ·exact kin_does _ _
 ·exact kin_does _ _
theorem kin_takes:∀(l:List Ms) (s:Site),Kin s (l.foldl Site.take s)
 | [],s=>Kin.refl s
 | m :: l,s=>(kin_take s m).trans (kin_takes l _)
theorem kin_again (s:Site):Kin s s.again:=by
 unfold again
 have:∀(l:List (Int × Rn)) (u:Site),Kin u (l.foldl (fun u p=>u.others (asks p.2 p.1) u.n) u):=by
  intro l
  induction l with
  | nil=>exact fun u=>Kin.refl u
  | cons p l ih=>exact fun u=>(kin_others _ _ _).trans (ih _)
 exact (kin_rs s _).trans (this _ _)
theorem kin_begins:∀(l:List Int) (s:Site),Kin s (l.foldl begin_ s)
 | [],s=>Kin.refl s
 | x :: l,s=>(kin_begin s x).trans (kin_begins l _)
end Site
end Agio
namespace Agio
open Go
theorem cmpB_own (me:Nat):¬ cmpB ⟨0,me⟩ ⟨0,0⟩ < 0:=by
 rw [cmpB_lt];unfold Bl.lt;simp
namespace Site
def recD (me:Nat) (v:List UInt8):Rc:=⟨2,me,0,me,v⟩
def len1 (me:Nat) (v:List UInt8):Nat:=(layB [recD me v]).length
end Site
end Agio
