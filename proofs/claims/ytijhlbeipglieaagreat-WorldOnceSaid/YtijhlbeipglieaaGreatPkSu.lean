/- Merged: PlainSt3, PlainSt4, PlainDec. -/
import Derived.Test.YtijhlbeipglieaaGreatPkSiteI
set_option linter.all false
namespace Agio
open Go Go.Proofs.YtijhlbeipglieaaGreat
def bestP (n:Int) (l:List Pm):Option Pm:=
 l.foldl (fun b p=>if p.so && isSite p.f n && (match b with | none=>true | some q=>decide (0 < cmpB p.at_ q.at_)) then some p else b) none
def chooseP (l:List Pm) (n:Int):Option (List UInt8):=if mostI (l.map Pm.f) n then some (((bestP n l).map Pm.b).getD []) else none
instance (m:Ms):Decidable m.May:=decidable_of_iff ((1≤m.kind∧m.kind≤8)∧(0≤m.frm∧m.frm≤6)∧(0≤m.to∧m.to≤6)∧(0≤m.slot∧m.slot≤4095)∧(0≤m.bround∧m.bround≤1099511627776)∧(0≤m.bsite∧m.bsite≤6)∧
  (0≤m.hround∧m.hround≤1099511627776)∧(0≤m.hsite∧m.hsite≤6)∧m.val.length≤2048∧(m.some_=true∨(m.hround=0∧m.hsite=0)∧m.val.length=0))
 ⟨fun ⟨a,b,c,d,e,f,g,h,i,j⟩=>⟨a,b,c,d,e,f,g,h,i,j⟩,fun ⟨a,b,c,d,e,f,g,h,i,j⟩=>⟨a,b,c,d,e,f,g,h,i,j⟩⟩
def Ms.bal (m:Ms):Bl:=⟨m.bround,m.bsite⟩
def Ms.had (m:Ms):Bl:=⟨m.hround,m.hsite⟩
namespace Site
variable (s:Site)
def front:Nat:=frontG s.lv (4096 - s.taken) s.taken
def topA:Int:=max s.top (topG s.lv)
def answer (s:Site) (slot:Int) (b:Bl):Ms:=⟨4,0,0,slot,b.r,b.s,(s.stat slot).at_.r,(s.stat slot).at_.s,(s.stat slot).so,(s.stat slot).b⟩
def skips (slot:Int) (b:Bl):Ms:=⟨2,0,0,slot,b.r,b.s,0,0,false,[]⟩
def skip1 (t:Site) (b:Bl) (x:Int):Site:={(t.others (skips x b) t.n).send t.me (skips x b) with nx:=(x + 1).toNat}
def skipF:Nat→Nat→Site→Int→Site
 | 0,_,s,_=>s
 | f + 1,c,s,to=>
  if 8≤c then s else
  if nextI s.me s.nx s.n < 0∨to≤nextI s.me s.nx s.n then s else
  if s.fresh (nextI s.me s.nx s.n) then match s.accept (nextI s.me s.nx s.n) s.ownB [] with
   | none=>s
   | some t=>skipF f (c + 1) (t.skip1 s.ownB (nextI s.me s.nx s.n)) to
  else skipF f c {s with nx:=(nextI s.me s.nx s.n + 1).toNat} to
def skip (to:Int):Site:=skipF 4098 0 s to
def low (slot:Int):Bl:=
 match lookG slot s.rs with
 | some r=>if 0 < cmpB r.bal (s.stat slot).p then r.bal else (s.stat slot).p
 | none=>(s.stat slot).p
def begin_ (slot:Int):Site:=
 if cmpB ((s.low slot).next s.me) (s.low slot)≤0 then s else match s.promise slot ((s.low slot).next s.me) with
 | none=>s
 | some t=>
  let r:Rn:=⟨(s.low slot).next s.me,[],false,[],[],0⟩
  let u:=({t with rs:=putG slot r t.rs} :Site).others (asks r slot) s.n
  u.send u.me (u.answer slot r.bal)
def again:Site:=(s.rs.take 8).foldl (fun u p=>u.others (asks p.2 p.1) u.n) {s with rs:=mapG (fun r=>{r with age:=r.age + 1}) s.rs}
def suspects:List Int:=((List.range s.n).filter fun i=>decide ((s.pat:Int) < s.wt.getD i 0)).map fun (i:Nat)=>(i:Int)
def leads:Bool:=leadG s.pat (s.wt.take s.n) 0 == (s.me:Int)
def due (slot:Int):Bool:=
 (s.dec slot).isNone && !(match lookG slot s.rs with | some r=>decide (r.age≤s.pat) | none=>false) &&
  ((ownerI slot s.n == (s.me:Int) && !s.fresh slot) || (s.leads && s.suspects.contains (ownerI slot s.n)))
def late (top:Int):List Int:=(((List.range' s.front (top.toNat - s.front)).map fun (i:Nat)=>(i:Int)).filter s.due).take 8
def ask_ (f:Int) (b:Bool):Ms:=⟨8,0,0,f,0,0,0,0,b,[]⟩
def tick:Site:=
 if s.down then s else
 let s2:=({s with wt:=tickG s.me s.wt s.n} :Site).again
 let s3:=s2.skip s2.topA
 let s4:=(s3.late s3.topA).foldl begin_ s3
 if s4.front < 4096 then s4.others (ask_ s4.front (decide ((s4.front:Int) < s3.topA))) s4.n else s4
def suggested (m:Ms):Site:=
 if m.some_=true∧m.frm=ownerI m.slot s.n∧m.bal=⟨0,m.frm⟩ then
  (match s.accept m.slot m.bal m.val with | some t=>t.send m.frm (votes m.slot m.bal) | none=>s).skip m.slot
 else s
def skipped (m:Ms):Site:=if m.frm=ownerI m.slot s.n then s.decide_ m.slot [] else s
def prepared (m:Ms):Site:=
 if 1≤m.bround∧m.bsite=m.frm then
  (match s.promise m.slot m.bal with | some t=>t.send m.frm (t.answer m.slot m.bal) | none=>s)
 else s
def promised (m:Ms):Site:=
 match lookG m.slot s.rs with
 | none=>s
 | some r=>
  if r.bal=m.bal∧r.so=false then
   let pr:=r.pr ++ [(⟨m.frm,m.some_,m.had,m.val⟩:Pm)]
   let t:={s with rs:=putG m.slot {r with pr:=pr} s.rs}
   match chooseP pr s.n with
   | none=>t
   | some v=>match t.accept m.slot r.bal v with
    | none=>{t with rs:=delG m.slot t.rs}
    | some u=>
     let r':={r with pr:=pr,so:=true,b:=v}
     (({u with rs:=putG m.slot r' u.rs} :Site).others (asks r' m.slot) s.n).send s.me (votes m.slot r.bal)
  else s
def asked (m:Ms):Site:=
 if m.some_=true∧1≤m.bround∧m.bsite=m.frm then
  (match s.accept m.slot m.bal m.val with | some t=>t.send m.frm (votes m.slot m.bal) | none=>s)
 else s
def learned (m:Ms):Site:=if m.some_=true then s.decide_ m.slot m.val else s
def wanted (m:Ms):Site:=
 let t:=if m.some_=true∧s.dec m.slot=none∧ownerI m.slot s.n=s.me then s.skip (m.slot + 1) else s
 ((((List.range' m.slot.toNat ((topG t.lv).toNat - m.slot.toNat)).map fun (i:Nat)=>(i:Int)).filter fun x=>(t.dec x).isSome).take 16).foldl (fun u x=>u.send m.frm (tells x ((t.dec x).getD []))) t
def does (m:Ms):Site:=
 if m.kind=1 then s.suggested m else if m.kind=2 then s.skipped m else if m.kind=3 then s.prepared m else if m.kind=4 then s.promised m
 else if m.kind=5 then s.asked m else if m.kind=6 then s.accepted m else if m.kind=7 then s.learned m else if m.kind=8 then s.wanted m else s
def take (m:Ms):Site:=
 if m.kind=1∨m.kind=3∨m.kind=5 then match s.dec m.slot with | some v=>s.send m.frm (tells m.slot v) | none=>s.does m
 else s.does m
def handle (m:Ms):Site × Int:=
 if s.down then (s,14) else if ¬ m.May then (s,1) else if m.to≠s.me∨m.frm=s.me∨(s.n:Int)≤m.frm then (s,1) else
 (({s with wt:=s.wt.set m.frm.toNat 0} :Site).take m,0)
def sync:Site × List Ms:=
 if s.down then (s,[]) else
 ((s.held.filter fun m=>decide (m.to=(s.me:Int))).foldl take {s with dn:=s.db.length,held:=[]},s.held.filter fun m=>decide (m.to≠(s.me:Int)))
def kept (k:Int):Nat:=s.dn + (max 0 (min k ((s.db.length:Int) - s.dn))).toNat
def crash (k:Int):Site:=if s.down then s else {s with db:=s.db.take (s.kept k),dn:=s.kept k,down:=true}
def recall (r:Rc):Site:=
 if r.kind=1 then s.turn r.slot {s.stat r.slot with p:=⟨r.round,r.site⟩}
 else if cmpB ⟨r.round,r.site⟩ (s.stat r.slot).p < 0 then s else s.turn r.slot ⟨⟨r.round,r.site⟩,true,⟨r.round,r.site⟩,r.val⟩
noncomputable def restart:Site:=
 if s.down then
  let p:=readB s.db
  p.1.foldl recall {Site.new s.me s.n s.pat with db:=s.db.take p.2,dn:=min s.dn p.2}
 else s
def takes:Site × List (List UInt8):=
 ({s with taken:=s.front},(List.range' s.taken (s.front - s.taken)).map fun (i:Nat)=>(s.dec i).getD [])
end Site
end Agio
namespace Agio
open Go Go.Proofs.YtijhlbeipglieaaGreat
structure Site.Kin (s t:Site):Prop where
 me:t.me=s.me
 n:t.n=s.n
 pat:t.pat=s.pat
 down:t.down=s.down
 wt:t.wt=s.wt
 dn:t.dn=s.dn
 taken:t.taken=s.taken
namespace Site
variable {s t u:Site}
theorem Kin.refl (s:Site):Kin s s:=⟨rfl,rfl,rfl,rfl,rfl,rfl,rfl⟩
theorem Kin.trans (h:Kin s t) (k:Kin t u):Kin s u:=⟨k.me.trans h.me,k.n.trans h.n,k.pat.trans h.pat,k.down.trans h.down,k.wt.trans h.wt,k.dn.trans h.dn,k.taken.trans h.taken⟩
theorem kin_send (s:Site) (to:Int) (m:Ms):Kin s (s.send to m):=⟨rfl,rfl,rfl,rfl,rfl,rfl,rfl⟩
theorem kin_others (s:Site) (m:Ms) (i:Nat):Kin s (s.others m i):=by rw [others_eq];exact ⟨rfl,rfl,rfl,rfl,rfl,rfl,rfl⟩
theorem kin_note {y:Sp} {r:Rc} (h:s.note y r=some t):Kin s t:=by
 unfold note at h
 split at h
 ·injection h with h;subst h;exact ⟨rfl,rfl,rfl,rfl,rfl,rfl,rfl⟩
 ·cases h
theorem kin_accept {x:Int} {b:Bl} {v:List UInt8} (h:s.accept x b v=some t):Kin s t:=by
 unfold accept at h
 split at h
 ·cases h
 ·exact kin_note h
theorem kin_promise {x:Int} {b:Bl} (h:s.promise x b=some t):Kin s t:=by
 unfold promise at h
 split at h
 ·cases h
 ·exact kin_note h
theorem kin_decide (s:Site) (x:Int) (v:List UInt8):Kin s (s.decide_ x v):=by
 unfold decide_;split <;> exact ⟨rfl,rfl,rfl,rfl,rfl,rfl,rfl⟩
theorem kin_rs (s:Site) (l:AL Rn):Kin s {s with rs:=l}:=⟨rfl,rfl,rfl,rfl,rfl,rfl,rfl⟩
theorem kin_nx (s:Site) (x:Nat):Kin s {s with nx:=x}:=⟨rfl,rfl,rfl,rfl,rfl,rfl,rfl⟩
theorem kin_skip1 (t:Site) (b:Bl) (x:Int):Kin t (t.skip1 b x):=((kin_others t (skips x b) t.n).trans (kin_send _ _ _)).trans (kin_nx _ _)
theorem kin_skipF:∀(f c:Nat) (s:Site) (to:Int),Kin s (skipF f c s to)
 | 0,_,s,_=>Kin.refl s
 | f + 1,c,s,to=>by
  unfold skipF
  split
  ·exact Kin.refl s
  split
  ·exact Kin.refl s
  split
  ·split
   ·exact Kin.refl s
   ·exact ((kin_accept (by assumption)).trans (kin_skip1 _ _ _)).trans (kin_skipF f _ _ _)
  ·exact (kin_nx _ _).trans (kin_skipF f _ _ _)
theorem kin_skip (s:Site) (to:Int):Kin s (s.skip to):=kin_skipF _ _ _ _
theorem kin_begin (s:Site) (x:Int):Kin s (s.begin_ x):=by
 unfold begin_
 split
 ·exact Kin.refl s
 split
 ·exact Kin.refl s
 ·exact (((kin_promise (by assumption)).trans (kin_rs _ _)).trans (kin_others _ _ _)).trans (kin_send _ _ _)
theorem kin_suggested (s:Site) (m:Ms):Kin s (s.suggested m):=by
 unfold suggested
 split
 ·refine Kin.trans ?_ (kin_skip _ _)
  split
  ·exact (kin_accept (by assumption)).trans (kin_send _ _ _)
  ·exact Kin.refl s
 ·exact Kin.refl s
theorem kin_skipped (s:Site) (m:Ms):Kin s (s.skipped m):=by
 unfold skipped
 split
 ·exact kin_decide _ _ _
 ·exact Kin.refl s
theorem kin_prepared (s:Site) (m:Ms):Kin s (s.prepared m):=by
 unfold prepared
 split
 ·split
  ·exact (kin_promise (by assumption)).trans (kin_send _ _ _)
  ·exact Kin.refl s
 ·exact Kin.refl s
theorem kin_promised (s:Site) (m:Ms):Kin s (s.promised m):=by
 unfold promised
 split
 ·exact Kin.refl s
 split
 ·simp only
  split
  ·exact kin_rs _ _
  ·split
   ·exact (kin_rs _ _).trans (kin_rs _ _)
   ·exact ((((kin_rs _ _).trans (kin_accept (by assumption))).trans (kin_rs _ _)).trans (kin_others _ _ _)).trans (kin_send _ _ _)
 ·exact Kin.refl s
theorem kin_asked (s:Site) (m:Ms):Kin s (s.asked m):=by
 unfold asked
 split
 ·split
  ·exact (kin_accept (by assumption)).trans (kin_send _ _ _)
  ·exact Kin.refl s
 ·exact Kin.refl s
theorem kin_accepted (s:Site) (m:Ms):Kin s (s.accepted m):=by
 unfold accepted
 split
 ·exact Kin.refl s
 split
 ·simp only
  split
  ·exact ((kin_rs _ _).trans (kin_decide _ _ _)).trans (kin_others _ _ _)
  ·exact kin_rs _ _
 ·exact Kin.refl s
theorem kin_learned (s:Site) (m:Ms):Kin s (s.learned m):=by
 unfold learned
 split
 ·exact kin_decide _ _ _
 ·exact Kin.refl s
theorem kin_sends (to:Int) (f:Int→Ms):∀(l:List Int) (s:Site),Kin s (l.foldl (fun u x=>u.send to (f x)) s)
 | [],s=>Kin.refl s
 | x :: l,s=>(kin_send s to (f x)).trans (kin_sends to f l _)
theorem kin_wanted (s:Site) (m:Ms):Kin s (s.wanted m):=by
 unfold wanted
 simp only
 refine Kin.trans ?_ (kin_sends _ _ _ _)
 split
 ·exact kin_skip _ _
 ·exact Kin.refl s
theorem kin_does (s:Site) (m:Ms):Kin s (s.does m):=by
 unfold does
 split
 ·exact kin_suggested _ _
 split
 ·exact kin_skipped _ _
 split
 ·exact kin_prepared _ _
 split
 ·exact kin_promised _ _
 split
 ·exact kin_asked _ _
 split
 ·exact kin_accepted _ _
 split
 ·exact kin_learned _ _
 split
 ·exact kin_wanted _ _
 ·exact Kin.refl s
theorem kin_take (s:Site) (m:Ms):Kin s (s.take m):=by
 unfold take
 split
 ·split
  ·exact kin_send _ _ _
  ·exact kin_does _ _
 ·exact kin_does _ _
theorem kin_takes:∀(l:List Ms) (s:Site),Kin s (l.foldl Site.take s)
 | [],s=>Kin.refl s
 | m :: l,s=>(kin_take s m).trans (kin_takes l _)
theorem kin_again (s:Site):Kin s s.again:=by
 unfold again
 have:∀(l:List (Int × Rn)) (u:Site),Kin u (l.foldl (fun u p=>u.others (asks p.2 p.1) u.n) u):=by
  intro l
  induction l with
  | nil=>exact fun u=>Kin.refl u
  | cons p l ih=>exact fun u=>(kin_others _ _ _).trans (ih _)
 exact (kin_rs s _).trans (this _ _)
theorem kin_begins:∀(l:List Int) (s:Site),Kin s (l.foldl begin_ s)
 | [],s=>Kin.refl s
 | x :: l,s=>(kin_begin s x).trans (kin_begins l _)
end Site
end Agio
namespace Agio
open Go
theorem nxtS_own (site n:Int) (h:site < n):∀(k s:Nat),(s:Int)≤site→site < (s:Int) + k→nxtS site n k s=site
 | 0,s,h1,h2=>by omega
 | k + 1,s,h1,h2=>by
  unfold nxtS
  have e:(s:Int).tmod n=s:=Int.tmod_eq_of_lt (by omega) (by omega)
  rw [e]
  split
  ·assumption
  ·exact nxtS_own site n h k (s + 1) (by omega) (by omega)
theorem nextI_own {me n:Nat} (h:me < n) (h7:n≤7):nextI me 0 n=me:=by
 unfold nextI
 rw [if_neg (by omega)]
 exact nxtS_own _ _ (by omega) _ _ (by omega) (by omega)
theorem layB_one (r:Rc) (h:r.May):(layB [r]).length≤2108:=by
 have:=layB_len (l:=[r]) (fun x hx=>by rw [List.mem_singleton] at hx;subst hx;exact h)
 simpa using this
theorem cmpB_own (me:Nat):¬ cmpB ⟨0,me⟩ ⟨0,0⟩ < 0:=by
 rw [cmpB_lt];unfold Bl.lt;simp
namespace Site
def recD (me:Nat) (v:List UInt8):Rc:=⟨2,me,0,me,v⟩
def rnD (me:Nat) (v:List UInt8) (vt:List (Int × Bl)):Rn:=⟨⟨0,me⟩,[],true,v,vt,0⟩
def subD (me n pat:Nat) (v:List UInt8) (dn:Nat) (lv:AL (List UInt8)) (rs:AL Rn) (wt:List Int) (held:List Ms):Site:=
 ⟨me,n,pat,false,layB [recD me v],dn,[((me:Int),⟨⟨0,me⟩,true,⟨0,me⟩,v⟩)],(me:Int) + 1,lv,0,rs,me + 1,wt,held⟩
def wt0:List Int:=[0,0,0,0,0,0,0]
def tellD (me n:Nat) (m:Ms):List Ms:=((List.range n).filter fun j=>decide (j≠me)).map fun (j:Nat)=>{m with frm:=(me:Int),to:=(j:Int)}
theorem new_fresh (me n pat:Nat) (x:Int):(Site.new me n pat).fresh x=true:=by
 unfold Site.fresh Site.dec Site.stat Site.new;rfl
theorem recD_may {me n:Nat} (h:me < n) (h7:n≤7) {v:List UInt8} (hv:v.length≤2048):(recD me v).May:=
 ⟨.inr rfl,by simp [recD];omega,by simp [recD],by simp [recD];omega,hv⟩
def voteD (me:Nat) (to:Int) (f:Int):Ms:=⟨6,f,to,me,0,me,0,0,false,[]⟩
theorem submit_new {me n:Nat} (pat:Nat) (h:me < n) (h7:n≤7) {v:List UInt8} (hv0:v.length≠0) (hv:v.length≤2048) :
  (Site.new me n pat).submit v=(subD me n pat v 0 [] [((me:Int),rnD me v [])] wt0 (tellD me n (asks (rnD me v []) me) ++ [voteD me me me]),(me:Int),0):=by
 have hx:(Site.new me n pat).free 4096 (nextI (Site.new me n pat).me (Site.new me n pat).nx (Site.new me n pat).n)=me:=by
  have e:nextI (Site.new me n pat).me (Site.new me n pat).nx (Site.new me n pat).n=me:=nextI_own h h7
  rw [e]
  show Site.free _ (4095 + 1) _=_
  unfold Site.free
  rw [if_neg (by rw [new_fresh];simp)]
 have hacc:(Site.new me n pat).accept me (Site.new me n pat).ownB v=some ({Site.new me n pat with db:=layB [recD me v],st:=[((me:Int),⟨⟨0,me⟩,true,⟨0,me⟩,v⟩)],top:=(me:Int) + 1}):=by
  unfold Site.accept
  rw [if_neg (by exact cmpB_own me)]
  unfold Site.note Site.room
  have hl:=layB_one _ (recD_may h h7 hv)
  rw [if_pos (by
   rw [decide_eq_true_eq]
   show 0 + (layB [recD me v]).length≤_
   omega)]
  unfold Site.turn
  congr 1
 unfold Site.submit
 rw [if_neg (by simp [Site.new]),if_neg (by omega)]
 simp only [hx,hacc]
 rw [if_neg (by omega)]
 rw [others_eq]
 unfold Site.send
 rfl
def doneD (me n pat:Nat) (v:List UInt8) (dn:Nat) (wt:List Int) (fs:List Int):Site:=
 if mostI fs n=true then subD me n pat v dn [((me:Int),v)] [] wt (tellD me n (tells me v)) else subD me n pat v dn [] [((me:Int),rnD me v (fs.map fun f=>(f,(⟨0,me⟩:Bl))))] wt []
theorem lookG_one {α:Type} (x:Int) (a:α):lookG x [(x,a)]=some a:=by simp [lookG]
theorem most_D (fs:List Int) (b:Bl) (n:Int):most (fs.map fun f=>(f,b)) b n=mostI fs n:=by
 unfold most
 congr 1
 induction fs with
 | nil=>rfl
 | cons f fs ih=>simpa using ih
theorem vote_D (me n pat:Nat) {v:List UInt8} (hv:v.length≤2048) (h:me < n) (h7:n≤7) (dn:Nat) (wt fs:List Int) (to f:Int):(doneD me n pat v dn wt fs).accepted (voteD me to f)=doneD me n pat v dn wt (fs ++ [f]):=by
 by_cases hm:mostI fs n=true
 ·have hm2:=mostI_mono f hm
  unfold doneD
  rw [if_pos hm,if_pos hm2]
  rfl
 ·unfold doneD
  rw [if_neg hm]
  unfold accepted
  show (match lookG (me:Int) [((me:Int),rnD me v _)] with | none=>_ | some r=>_)=_
  rw [lookG_one]
  simp only
  rw [if_pos ⟨rfl,rfl⟩]
  have e1:(rnD me v (fs.map fun f=>(f,(⟨0,me⟩:Bl)))).vt ++ [((voteD me to f).frm,(⟨(voteD me to f).bround,(voteD me to f).bsite⟩:Bl))]=(fs ++ [f]).map fun f=>(f,(⟨0,me⟩:Bl)):=by
   rw [List.map_append];rfl
  rw [e1]
  show (if most _ (⟨0,me⟩:Bl) (n:Int)=true then _ else _)=_
  rw [most_D]
  have e2:∀r:Rn,putG (me:Int) r [((me:Int),rnD me v (fs.map fun f=>(f,(⟨0,me⟩:Bl))))]= [((me:Int),r)]:=fun r=>by simp [putG,delG,insG]
  by_cases hm2:mostI (fs ++ [f]) n=true
  ·rw [if_pos hm2,if_pos hm2]
   show others (decide_ _ (me:Int) v) (tells (me:Int) v) n=_
   have e3:∀t:Site,t.dec (me:Int)=none→t.decide_ (me:Int) v= {t with lv:=putG (me:Int) v t.lv,rs:=delG (me:Int) t.rs}:=fun t ht=>by
    unfold decide_ putOk
    rw [ht,if_pos (by simp;omega)]
    rfl
   rw [e3 _ rfl,others_eq]
   have e4:∀r:Rn,delG (me:Int) (putG (me:Int) r [((me:Int),rnD me v (fs.map fun f=>(f,(⟨0,me⟩:Bl))))])= []:=fun r=>by rw [e2];simp [delG]
   exact congrArg (fun z=>subD me n pat v dn [((me:Int),v)] z wt (tellD me n (tells me v))) (e4 _)
  ·rw [if_neg hm2,if_neg hm2]
   exact congrArg (fun z=>subD me n pat v dn [] z wt []) (e2 _)
theorem doneD_dec (me n pat:Nat) (v:List UInt8) (dn:Nat) (wt fs:List Int):(doneD me n pat v dn wt fs).dec me=if mostI fs n=true then some v else none:=by
 unfold doneD
 split
 ·exact lookG_one _ _
 ·rfl
theorem voteD_take (s:Site) (me:Nat) (to f:Int):s.take (voteD me to f)=s.accepted (voteD me to f):=rfl
theorem tellD_to {me n:Nat} {m x:Ms} (h:x∈tellD me n m):x.to≠(me:Int):=by
 unfold tellD at h
 obtain ⟨j,hj,rfl⟩:=List.mem_map.1 h
 have:=(List.mem_filter.1 hj).2
 simp at this ⊢
 omega
def told1 (me n:Nat) (v:List UInt8):List Ms:=tellD me n (asks (rnD me v []) me)
def len1 (me:Nat) (v:List UInt8):Nat:=(layB [recD me v]).length
theorem sync_new (me n pat:Nat) {v:List UInt8} (hv:v.length≤2048) (h:me < n) (h3:3≤n) (h7:n≤7) :
  (subD me n pat v 0 [] [((me:Int),rnD me v [])] wt0 (told1 me n v ++ [voteD me me me])).sync=(doneD me n pat v (len1 me v) wt0 [(me:Int)],told1 me n v):=by
 unfold sync
 rw [if_neg (by simp [subD])]
 have e1:(told1 me n v ++ [voteD me me me]).filter (fun m=>decide (m.to=(me:Int)))= [voteD me me me]:=by
  rw [List.filter_append,List.filter_eq_nil_iff.2 (fun x hx=>by simpa using tellD_to hx)]
  simp [voteD]
 have e2:(told1 me n v ++ [voteD me me me]).filter (fun m=>decide (m.to≠(me:Int)))=told1 me n v:=by
  rw [List.filter_append,List.filter_eq_self.2 (fun x hx=>by simpa using tellD_to hx)]
  simp [voteD]
 show (List.foldl _ _ ((told1 me n v ++ [voteD me me me]).filter (fun m=>decide (m.to=(me:Int)))),(told1 me n v ++ [voteD me me me]).filter (fun m=>decide (m.to≠(me:Int))))=_
 rw [e1,e2]
 show (take _ (voteD me me me),_)=_
 have e3:({subD me n pat v 0 [] [((me:Int),rnD me v [])] wt0 (told1 me n v ++ [voteD me me me]) with dn:=(layB [recD me v]).length,held:=[]} :Site)=doneD me n pat v (len1 me v) wt0 []:=by
  unfold doneD
  have:mostI [] n=false:=by
   unfold mostI voters majorI
   rw [if_neg (by omega),if_neg (by omega)]
   rw [decide_eq_false_iff_not]
   simp only [List.foldl_nil,List.length_nil]
   omega
  rw [if_neg (by rw [this];simp)]
  rfl
 have e4:=vote_D me n pat hv h h7 (len1 me v) wt0 [] me me
 rw [←e3] at e4
 rw [voteD_take]
 exact congrArg (·,_) e4
theorem voteD_may {me n:Nat} (h:me < n) (h7:n≤7) {f:Int} (hf:0≤f) (hfn:f < n):(voteD me me f).May:=
 ⟨by simp [voteD],by simp [voteD];omega,by simp [voteD];omega,by simp [voteD];omega,by simp [voteD],by simp [voteD];omega,by simp [voteD],by simp [voteD],by simp [voteD],.inr (by simp [voteD])⟩
theorem doneD_wt (me n pat:Nat) (v:List UInt8) (dn:Nat) (wt fs:List Int) (x:List Int):({doneD me n pat v dn wt fs with wt:=x} :Site)=doneD me n pat v dn x fs:=by
 unfold doneD;split <;> rfl
theorem handle_D (me n pat:Nat) {v:List UInt8} (hv:v.length≤2048) (h:me < n) (h7:n≤7) (dn:Nat) (wt fs:List Int) {f:Int} (hf:0≤f) (hfn:f < n) (hne:f≠me) :
  (doneD me n pat v dn wt fs).handle (voteD me me f)=(doneD me n pat v dn (wt.set f.toNat 0) (fs ++ [f]),0):=by
 have hd:(doneD me n pat v dn wt fs).down=false∧(doneD me n pat v dn wt fs).me=me∧(doneD me n pat v dn wt fs).n=n∧(doneD me n pat v dn wt fs).wt=wt:=by unfold doneD;split <;> exact ⟨rfl,rfl,rfl,rfl⟩
 unfold handle
 rw [hd.1,hd.2.1,hd.2.2.1,hd.2.2.2,if_neg (by simp),if_neg (by simpa using voteD_may h h7 hf hfn),if_neg (by simp [voteD];omega),voteD_take]
 have e1:=doneD_wt me n pat v dn wt fs (wt.set (voteD me me f).frm.toNat 0)
 have e2:=vote_D me n pat hv h h7 dn (wt.set (voteD me me f).frm.toNat 0) fs me f
 rw [←e1] at e2
 obtain ⟨h1,h2,h3,h4⟩:=hd
 simp only [h2,h3,h1] at e2
 exact congrArg (·,_) e2
theorem sync_D (me n pat:Nat) (v:List UInt8) (dn:Nat) (wt fs:List Int):(doneD me n pat v dn wt fs).sync.2=if mostI fs n=true then tellD me n (tells me v) else []:=by
 unfold doneD
 split
 ·unfold sync
  rw [if_neg (by simp [subD])]
  show (tellD me n (tells me v)).filter (fun m=>decide (m.to≠(me:Int)))=_
  exact List.filter_eq_self.2 fun x hx=>by simpa using tellD_to hx
 ·rfl
end Site
end Agio
