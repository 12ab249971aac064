/- Merged: PlainCa, PlainCb, PlainCc, PlainCd, PlainCe, PlainCf. -/
import Derived.Test.YtijhlbeipglieaaGreatPkWorld
set_option linter.all false
namespace Agio
open Go Go.Proofs.YtijhlbeipglieaaGreat
theorem nxtS_nat (me n:Nat):∀(k s:Nat),(nxtS me n k s= -1∧∀z,s≤z→z < s + k→z % n≠me)∨
    ∃y:Nat,nxtS me n k s=y∧s≤y∧y < s + k∧y % n=me∧∀z,s≤z→z < y→z % n≠me
  | 0,s=>.inl ⟨rfl,fun z h1 h2=>by omega⟩
  | k + 1,s=>by
    have e:((s:Int).tmod n=(me:Int)) ↔ s % n=me:=by
      rw [show ((s:Int).tmod n)=((s % n:Nat):Int) from rfl];omega
    unfold nxtS
    by_cases h:s % n=me
    · rw [if_pos (e.2 h)]
      exact .inr ⟨s,rfl,Nat.le_refl _,by omega,h,fun z h1 h2=>by omega⟩
    · rw [if_neg (fun h'=>h (e.1 h'))]
      rcases nxtS_nat me n k (s + 1) with ⟨h1,h2⟩ | ⟨y,h1,h2,h3,h4,h5⟩
      · refine .inl ⟨h1,fun z h3 h4=>?_⟩
        by_cases hz:z=s
        · subst hz;exact h
        · exact h2 z (by omega) (by omega)
      · refine .inr ⟨y,h1,by omega,by omega,h4,fun z h6 h7=>?_⟩
        by_cases hz:z=s
        · subst hz;exact h
        · exact h5 z (by omega) h7
theorem nextI_nat {me n f:Nat} (h:me < n) (h7:n≤7) (hf:f≤4096):(nextI me f n= -1∧∀z,f≤z→z < 4096→z % n≠me)∨
    ∃y:Nat,nextI me f n=y∧f≤y∧y < 4096∧y % n=me∧∀z,f≤z→z < y→z % n≠me:=by
  have e:nextI me f n=nxtS me n (4096 - f) f:=by unfold nextI;rw [if_neg (by omega)]
  rw [e]
  rcases nxtS_nat me n (4096 - f) f with ⟨h1,h2⟩ | ⟨y,h1,h2,h3,h4,h5⟩
  · exact .inl ⟨h1,fun z h3 h4=>h2 z h3 (by omega)⟩
  · exact .inr ⟨y,h1,h2,by omega,h4,h5⟩
theorem ownerI_nat {z n:Nat} (hz:z < 4096) (h1:1≤n) (h7:n≤7):ownerI (z:Int) (n:Int)=((z % n:Nat):Int):=by
  unfold ownerI;rw [if_neg (by omega)];rfl
theorem own_step {n y z:Nat} (h:y % n=z % n) (hl:y < z):y + n≤z:=by
  obtain ⟨q,hq⟩:∃q,z=y + q:=⟨z - y,by omega⟩
  have h0:(z - y) % n=0:=Nat.sub_mod_eq_zero_of_mod_eq h.symm
  have:=Nat.le_of_dvd (by omega) (Nat.dvd_of_mod_eq_zero h0)
  omega
def Ms.ad (m:Ms) (f t:Int):Ms:=⟨m.kind,f,t,m.slot,m.bround,m.bsite,m.hround,m.hsite,m.some_,m.val⟩
theorem layB_small (r:Rc) (h:r.May) (hv:r.val.length≤2):(layB [r]).length≤80:=by
  have hp:(layB [r]).length=8 + r.bytes.length:=by simp [layB,put_len]
  rw [hp]
  have hb:=bodyB_len (l:=r.ns) (v:=r.val) h.U h.val
  have h4:r.ns.length=4:=rfl
  unfold Rc.bytes
  omega
theorem leb_one {n:Nat} (h:n < 128):(leb n).length=1:=by rw [leb_lt h];rfl
theorem layB_tiny (r:Rc) (hk:0≤r.kind∧r.kind < 128) (hs:0≤r.slot∧r.slot < 128) (hr:0≤r.round∧r.round < 128) (hi:0≤r.site∧r.site < 128) (hv:r.val.length≤3):(layB [r]).length≤16:=by
  have hp:(layB [r]).length=8 + r.bytes.length:=by simp [layB,put_len]
  rw [hp]
  unfold Rc.bytes bodyB Rc.ns
  simp only [List.flatMap_cons,List.flatMap_nil,List.length_append,List.length_nil]
  rw [leb_one (by omega),leb_one (by omega),leb_one (by omega),leb_one (by omega),leb_one (by omega)]
  omega
namespace Site
theorem look_turn (s:Site) (x y:Int) (z:Sp):(s.turn x z).stat y=if x=y then z else s.stat y:=by
  unfold stat turn
  rw [lookG_put]
  split <;> rfl
theorem room_small {s:Site} {r:Rc} (h:r.May) (hv:r.val.length≤2) (hd:s.db.length + 80≤1048576):s.room r=true:=by
  unfold room
  have:=layB_small r h hv
  exact decide_eq_true (by omega)
theorem accept_ok {s:Site} {x:Int} {b:Bl} {v:List UInt8} (hx:0≤x∧x < 4096) (hb:b.may 7=true) (hv:v.length≤2) (hd:s.db.length + 80≤1048576) (hc:¬ cmpB b (s.stat x).p < 0) :
    s.accept x b v=some ({s with db:=s.db ++ layB [⟨2,x,b.r,b.s,v⟩]}.turn x ⟨b,true,b,v⟩)∧(layB [⟨2,x,b.r,b.s,v⟩]).length≤80:=by
  have hb':=Bl.may7.1 hb
  have hm:Rc.May ⟨2,x,b.r,b.s,v⟩:=⟨.inr rfl,by dsimp only;omega,by dsimp only;omega,by dsimp only;omega,by dsimp only;omega⟩
  refine ⟨?_,layB_small _ hm hv⟩
  unfold accept note
  rw [if_neg hc,if_pos (room_small hm hv hd)]
theorem own_may {s:Site} (h:s.me < s.n) (h7:s.n≤7):s.ownB.may 7=true:=Bl.may7.2 (by unfold ownB;simp;omega)
def skSp (s:Site):Sp:=⟨s.ownB,true,s.ownB,[]⟩
theorem skSp_same (s:Site):(skSp s).same Sp.zero=false:=by simp [skSp,Sp.same,Sp.zero]
theorem fresh_iff {s:Site} {x:Int} :s.fresh x=true ↔ s.dec x=none∧(s.stat x).same Sp.zero=true:=by
  unfold fresh;rw [Bool.and_eq_true,Option.isNone_iff_eq_none]
theorem same_zero {p:Sp} (h:p.same Sp.zero=true):p=Sp.zero:=by
  obtain ⟨⟨a,b⟩,c,⟨d,e⟩,f⟩:=p
  simp only [Sp.same,Sp.zero,Bool.and_eq_true,beq_iff_eq] at h
  obtain ⟨⟨⟨⟨rfl,rfl⟩,rfl⟩,rfl,rfl⟩,rfl⟩:=h
  rfl
structure Skd (s t:Site) (tg:Nat) (ys:List Nat):Prop where
  own:∀y∈ys,y % s.n=s.me∧s.nx≤y∧y < tg∧y < 4096∧s.fresh y=true
  nodup:ys.Nodup
  held:t.held=s.held ++ ys.flatMap fun (y:Nat)=>s.tell (skips y s.ownB) s.n ++ [(skips y s.ownB).ad s.me s.me]
  st:∀x:Int,t.stat x=if ∃y∈ys,(y:Int)=x then s.skSp else s.stat x
  lv:t.lv=s.lv
  rs:t.rs=s.rs
  kin:Kin s t
  db:t.db.length≤s.db.length + 16 * ys.length
  nxle:s.nx≤t.nx
  all:∀y,y % s.n=s.me→s.nx≤y→y < tg→y < 4096→t.fresh y=false
  nx:∀y,y % s.n=s.me→s.nx≤y→y < t.nx→t.fresh y=false
  top:s.top≤t.top∧(t.top≤s.top∨t.top≤tg)
theorem Skd.nil (s:Site) {tg:Nat} (h:∀y,y % s.n=s.me→s.nx≤y→y < tg→y < 4096→s.fresh y=false):Skd s s tg []:=
  ⟨fun y hy=>(by cases hy),List.nodup_nil,by simp,fun x=>by simp,rfl,rfl,Kin.refl s,by simp,Nat.le_refl _,h,fun y _ h1 h2=>by omega,Int.le_refl _,.inl (Int.le_refl _)⟩
theorem hkeep (s t:Site) {tg:Nat} {ys:List Nat} (h:Skd s t tg ys) (z:Nat) (hz:s.fresh z=false):t.fresh z=false:=by
  cases hf:t.fresh z with
  | false=>rfl
  | true=>
    obtain ⟨h1,h2⟩:=fresh_iff.1 hf
    rw [h.st] at h2
    split at h2
    · rw [skSp_same] at h2;cases h2
    · have:s.dec z=none:=by unfold dec at h1 ⊢;rwa [h.lv] at h1
      rw [fresh_iff.2 ⟨this,h2⟩] at hz;cases hz
theorem skipF_skd (tg:Nat) (h4:tg≤128):∀(f c:Nat) (s:Site),s.me < s.n→s.n≤7→s.nx≤4096→4097≤f + s.nx→c * s.n + tg≤6 * s.n + s.nx + s.n→c≤7→s.db.length + 80 * (8 - c)≤1048576→
    (∀y,y % s.n=s.me→s.nx≤y→c * s.n + tg≤6 * s.n + y)→∃ys,Skd s (skipF f c s tg) tg ys∧c + ys.length≤7
  | 0,c,s,_,_,hn,hf,_,_,_,_=>by omega
  | f + 1,c,s,hm,h7,hn,hf,h0,hc,hd,hq=>by
    rcases nextI_nat hm h7 hn with ⟨e,hz⟩ | ⟨y,e,hy1,hy2,hy3,hy4⟩
    · rw [skipF_stop _ _ _ _ (.inr (.inl (by rw [e];omega)))]
      exact ⟨[],Skd.nil s (fun y h1 h2 h3 h4=>absurd h1 (hz y h2 h4)),by simpa using hc⟩
    by_cases hto:tg≤y
    · rw [skipF_stop _ _ _ _ (.inr (.inr (by rw [e];omega)))]
      exact ⟨[],Skd.nil s (fun z h1 h2 h3 h4=>absurd h1 (hy4 z h2 (by omega))),by simpa using hc⟩
    have hq':=hq y hy3 hy1
    have hc6:c < 6:=by
      apply Classical.byContradiction;intro hh
      have:6 * s.n≤c * s.n:=Nat.mul_le_mul_right _ (by omega)
      omega
    have hx:¬ (nextI s.me s.nx s.n < 0∨(tg:Int)≤nextI s.me s.nx s.n):=by rw [e];omega
    have hstep:∀z,z % s.n=s.me→y + 1≤z→y + s.n≤z:=fun z h1 h2=>own_step (hy3.trans h1.symm) (by omega)
    cases hfr:s.fresh y with
    | false=>
      rw [skipF_next _ _ _ _ (by omega) hx (by rw [e];exact hfr),e]
      have et:((y:Int) + 1).toNat=y + 1:=by omega
      rw [et]
      obtain ⟨ys,h1,h2⟩:=skipF_skd tg h4 f c {s with nx:=y + 1} hm h7 (by dsimp only;omega) (by dsimp only;omega) (by dsimp only;omega) hc hd (fun z h1 h2=>hq z h1 (by dsimp only at h2;omega))
      refine ⟨ys,⟨fun z hz=>?_,h1.nodup,h1.held,h1.st,h1.lv,h1.rs,⟨h1.kin.me,h1.kin.n,h1.kin.pat,h1.kin.down,h1.kin.wt,h1.kin.dn,h1.kin.taken⟩,h1.db,?_,fun z k1 k2 k3 k4=>?_,fun z k1 k2 k3=>?_,h1.top⟩,h2⟩
      · obtain ⟨k1,k2,k3,k4,k5⟩:=h1.own z hz
        exact ⟨k1,by dsimp only at k2;omega,k3,k4,k5⟩
      · have:=h1.nxle;dsimp only at this;omega
      · by_cases hzy:y + 1≤z
        · exact h1.all z k1 hzy k3 k4
        · have hz:z=y:=by
            by_cases hlt:z < y
            · exact absurd k1 (hy4 z k2 hlt)
            · omega
          subst hz
          exact hkeep _ _ h1 z hfr
      · by_cases hzy:y + 1≤z
        · exact h1.nx z k1 hzy k3
        · have hz:z=y:=by
            by_cases hlt:z < y
            · exact absurd k1 (hy4 z k2 hlt)
            · omega
          subst hz
          exact hkeep _ _ h1 z hfr
    | true=>
      have hfy:=fresh_iff.1 hfr
      have hz0:=same_zero hfy.2
      obtain ⟨ha,hl⟩:=accept_ok (s:=s) (x:=(y:Int)) (b:=s.ownB) (v:=[]) (by omega) (own_may hm h7) (by simp) (by omega) (by rw [hz0];exact cmpB_own s.me)
      have hl:(layB [⟨2,(y:Int),s.ownB.r,s.ownB.s,[]⟩]).length≤16:=layB_tiny _ (by dsimp only;omega) (by dsimp only;omega) (by unfold ownB;dsimp only;omega) (by unfold ownB;dsimp only;omega) (by simp)
      rw [skipF_some _ _ _ _ _ (by omega) hx (by rw [e];exact hfr) (by rw [e];exact ha),e]
      generalize hu:({s with db:=s.db ++ layB [⟨2,(y:Int),s.ownB.r,s.ownB.s,[]⟩]} :Site).turn (y:Int) ⟨s.ownB,true,s.ownB,[]⟩=u
      have hun:u.me=s.me∧u.n=s.n∧u.lv=s.lv∧u.rs=s.rs∧u.held=s.held∧u.nx=s.nx∧u.db.length≤s.db.length + 16∧Kin s u∧u.top=max s.top ((y:Int) + 1):=by
        subst hu
        refine ⟨rfl,rfl,rfl,rfl,rfl,rfl,?_,⟨rfl,rfl,rfl,rfl,rfl,rfl,rfl⟩,rfl⟩
        simp only [turn,List.length_append];omega
      have hus:∀x:Int,u.stat x=if (y:Int)=x then s.skSp else s.stat x:=by
        subst hu;intro x;rw [look_turn];rfl
      obtain ⟨u1,u2,u3,u4,u5,u6,u7,u8,u9⟩:=hun
      have et:((y:Int) + 1).toNat=y + 1:=by omega
      have e1:u.skip1 s.ownB (y:Int)= {u with held:=s.held ++ (s.tell (skips y s.ownB) s.n ++ [(skips y s.ownB).ad s.me s.me]),nx:=y + 1}:=by
        unfold skip1
        rw [others_eq,et]
        have hsend:∀(v:Site) (a:Int) (m:Ms),v.send a m= {v with held:=v.held ++ [m.ad v.me a]}:=fun _ _ _=>rfl
        rw [hsend]
        simp only [u1,u2,u5]
        have:u.tell (skips (y:Int) s.ownB) s.n=s.tell (skips y s.ownB) s.n:=by unfold tell;rw [u1]
        rw [this,List.append_assoc]
      rw [e1]
      have hmul:(c + 1) * s.n=c * s.n + s.n:=Nat.succ_mul _ _
      obtain ⟨ys,h1,h2⟩:=skipF_skd tg h4 f (c + 1) {u with held:=s.held ++ (s.tell (skips y s.ownB) s.n ++ [(skips y s.ownB).ad s.me s.me]),nx:=y + 1} (by dsimp only;omega) (by dsimp only;omega) (by dsimp only;omega) (by dsimp only;omega)
        (by dsimp only;rw [u2];omega) (by omega) (by dsimp only;omega) (fun z k1 k2=>by
          dsimp only at k1 k2 ⊢
          rw [u1,u2] at k1
          rw [u2]
          have:=hstep z k1 k2
          omega)
      have hown:=h1.own
      have hst:=h1.st
      dsimp only at hown
      rw [u1,u2] at hown
      have hsk:∀w:Site,w.me=s.me→w.skSp=s.skSp:=fun w hw=>by unfold skSp ownB;rw [hw]
      have hynot:y∉ys:=fun hy=>by have:=(hown y hy).2.1;omega
      have hstat:∀x:Int,(skipF f (c + 1) {u with held:=s.held ++ (s.tell (skips y s.ownB) s.n ++ [(skips y s.ownB).ad s.me s.me]),nx:=y + 1} tg).stat x=if ∃z∈y :: ys,(z:Int)=x then s.skSp else s.stat x:=fun x=>by
        rw [hst x]
        have hux:({u with held:=s.held ++ (s.tell (skips y s.ownB) s.n ++ [(skips y s.ownB).ad s.me s.me]),nx:=y + 1} :Site).stat x=if (y:Int)=x then s.skSp else s.stat x:=hus x
        rw [hux,hsk _ (by exact u1)]
        by_cases c1:∃z∈ys,(z:Int)=x
        · obtain ⟨z,k1,k2⟩:=c1
          rw [if_pos ⟨z,k1,k2⟩,if_pos ⟨z,by simp [k1],k2⟩]
        · rw [if_neg c1]
          by_cases c2:(y:Int)=x
          · rw [if_pos c2,if_pos ⟨y,by simp,c2⟩]
          · rw [if_neg c2,if_neg]
            rintro ⟨z,k1,k2⟩
            rcases List.mem_cons.1 k1 with rfl | k1
            · exact c2 k2
            · exact c1 ⟨z,k1,k2⟩
      have hnf:∀z:Nat,z∈y :: ys→(skipF f (c + 1) {u with held:=s.held ++ (s.tell (skips y s.ownB) s.n ++ [(skips y s.ownB).ad s.me s.me]),nx:=y + 1} tg).fresh z=false:=fun z hz=>by
        have h3:=hstat z
        rw [if_pos ⟨z,hz,rfl⟩] at h3
        unfold fresh
        rw [h3,skSp_same,Bool.and_false]
      refine ⟨y :: ys,⟨fun z hz=>?_,List.nodup_cons.2 ⟨hynot,h1.nodup⟩,?_,hstat,h1.lv.trans u3,h1.rs.trans u4,u8.trans ⟨h1.kin.me,h1.kin.n,h1.kin.pat,h1.kin.down,h1.kin.wt,h1.kin.dn,h1.kin.taken⟩,?_,?_,fun z k1 k2 k3 k4=>?_,fun z k1 k2 k3=>?_,?_⟩,by rw [List.length_cons];omega⟩
      · rcases List.mem_cons.1 hz with rfl | hz
        · exact ⟨hy3,hy1,by omega,hy2,hfr⟩
        · obtain ⟨k1,k2,k3,k4,k5⟩:=hown z hz
          refine ⟨k1,by omega,k3,k4,?_⟩
          have k6:=fresh_iff.1 k5
          refine fresh_iff.2 ⟨?_,?_⟩
          · have:u.dec z=none:=k6.1
            unfold dec at this ⊢;rwa [u3] at this
          · have:(u.stat z).same Sp.zero=true:=k6.2
            rwa [hus,if_neg (by omega)] at this
      · rw [h1.held]
        have hB:u.ownB=s.ownB:=by unfold ownB;rw [u1]
        have hT:∀m,u.tell m u.n=s.tell m s.n:=fun m=>by unfold tell;rw [u1,u2]
        simp only [List.flatMap_cons,List.append_assoc]
        congr 1
        congr 1
        congr 1
        refine congrArg (fun g=>List.flatMap g ys) (funext fun z=>?_)
        exact congr (congrArg _ (by rw [show ({u with held:=s.held ++ (s.tell (skips y s.ownB) s.n ++ [(skips y s.ownB).ad s.me s.me]),nx:=y + 1} :Site).ownB=s.ownB from hB];exact hT _)) (by rw [show ({u with held:=s.held ++ (s.tell (skips y s.ownB) s.n ++ [(skips y s.ownB).ad s.me s.me]),nx:=y + 1} :Site).ownB=s.ownB from hB];simp only [u1])
      · have:=h1.db;dsimp only at this;rw [List.length_cons];omega
      · have:=h1.nxle;dsimp only at this;omega
      · by_cases hzy:y + 1≤z
        · exact h1.all z (by dsimp only;rw [u1,u2];exact k1) hzy k3 k4
        · have hz:z=y:=by
            by_cases hlt:z < y
            · exact absurd k1 (hy4 z k2 hlt)
            · omega
          subst hz
          exact hnf z (by simp)
      · by_cases hzy:y + 1≤z
        · exact h1.nx z (by dsimp only;rw [u1,u2];exact k1) hzy k3
        · have hz:z=y:=by
            by_cases hlt:z < y
            · exact absurd k1 (hy4 z k2 hlt)
            · omega
          subst hz
          exact hnf z (by simp)
      · have:=h1.top;dsimp only at this;omega
end Site
end Agio
namespace Agio
open Go Go.Proofs.YtijhlbeipglieaaGreat
namespace Site
def skipD (u:Site) (ys:List Nat):Site:=ys.foldl (fun v (y:Nat)=>v.decide_ (y:Int) []) u
theorem decide_ok {s:Site} {x:Int} {v:List UInt8} (hx:0≤x∧x < 4096) (hv:v.length≤2048) (hd:s.dec x=none∨s.dec x=some v) :
    s.decide_ x v= {s with lv:=if (s.dec x).isSome then s.lv else putG x v s.lv,rs:=delG x s.rs}:=by
  unfold decide_
  rw [if_pos]
  unfold putOk
  rcases hd with h | h <;> rw [h] <;> simp <;> omega
structure Dcd (s t:Site) (p:Int→Prop) (v:List UInt8):Prop where
  at_:∀x,p x→t.dec x=some v∧lookG x t.rs=none
  off:∀x,¬ p x→t.dec x=s.dec x∧lookG x t.rs=lookG x s.rs
  kin:Kin s t
  st:t.st=s.st
  nx:t.nx=s.nx
  held:t.held=s.held
  db:t.db=s.db
  top:t.top=s.top
theorem Dcd.one {s:Site} {x:Int} {v:List UInt8} (hx:0≤x∧x < 4096) (hv:v.length≤2048) (hd:s.dec x=none∨s.dec x=some v):Dcd s (s.decide_ x v) (fun y=>y=x) v:=by
  rw [decide_ok hx hv hd]
  refine ⟨fun y hy=>?_,fun y hy=>?_,⟨rfl,rfl,rfl,rfl,rfl,rfl,rfl⟩,rfl,rfl,rfl,rfl,rfl⟩
  · subst hy
    refine ⟨?_,by simp [lookG_del]⟩
    unfold dec at hd ⊢
    rcases hd with h | h
    · rw [h];simp [lookG_put]
    · simp only [h,Option.isSome_some,if_true]
  · refine ⟨?_,by simp only [lookG_del];exact if_neg hy⟩
    unfold dec
    dsimp only
    split
    · rfl
    · rw [lookG_put,if_neg (fun e=>hy e.symm)]
theorem skipD_dcd:∀(ys:List Nat) (u:Site),(∀y∈ys,y < 4096∧(u.dec (y:Int)=none∨u.dec (y:Int)=some []))→Dcd u (u.skipD ys) (fun x=>∃y∈ys,(y:Int)=x) []
  | [],u,_=>⟨fun x ⟨y,hy,_⟩=>(by cases hy),fun x _=>⟨rfl,rfl⟩,Kin.refl u,rfl,rfl,rfl,rfl,rfl⟩
  | y :: ys,u,h=>by
    have h1:=Dcd.one (s:=u) (x:=(y:Int)) (v:=[]) (by have:=(h y (by simp)).1;omega) (by simp) (h y (by simp)).2
    have h2:=skipD_dcd ys (u.decide_ (y:Int) []) (fun z hz=>⟨(h z (by simp [hz])).1,by
      by_cases e:(z:Int)=(y:Int)
      · obtain rfl:z=y:=by omega
        exact .inr (h1.at_ _ rfl).1
      · have a:=(h1.off (z:Int) e).1;rw [a];exact (h z (by simp [hz])).2⟩)
    have e:u.skipD (y :: ys)=(u.decide_ (y:Int) []).skipD ys:=by unfold skipD;rw [List.foldl_cons]
    rw [e]
    refine ⟨fun x hx=>?_,fun x hx=>?_,h1.kin.trans h2.kin,h2.st.trans h1.st,h2.nx.trans h1.nx,h2.held.trans h1.held,h2.db.trans h1.db,h2.top.trans h1.top⟩
    · by_cases c:∃z∈ys,(z:Int)=x
      · exact h2.at_ x c
      · obtain ⟨z,hz,rfl⟩:=hx
        rcases List.mem_cons.1 hz with rfl | hz
        · rw [(h2.off _ c).1,(h2.off _ c).2];exact h1.at_ _ rfl
        · exact absurd ⟨z,hz,rfl⟩ c
    · have c:¬ ∃z∈ys,(z:Int)=x:=fun ⟨z,hz,e⟩=>hx ⟨z,by simp [hz],e⟩
      rw [(h2.off _ c).1,(h2.off _ c).2]
      exact h1.off x (fun e=>hx ⟨y,by simp,e.symm⟩)
theorem take_skip {s:Site} {y:Nat} (h4:y < 4096) (h1:1≤s.n) (h7:s.n≤7) (ho:y % s.n=s.me) (b:Bl):s.take ((skips (y:Int) b).ad s.me s.me)=s.decide_ (y:Int) []:=by
  unfold take does skipped
  simp only [Ms.ad,skips]
  simp [ownerI_nat h4 h1 h7,ho]
theorem fold_skips:∀(ys:List Nat) (u v:Site) (b:Bl),(∀y∈ys,y < 4096∧y % v.n=v.me)→u.me=v.me→u.n=v.n→1≤v.n→v.n≤7→
    ((ys.flatMap fun (y:Nat)=>u.tell (skips y b) u.n ++ [(skips y b).ad u.me u.me]).filter fun m=>decide (m.to=(u.me:Int))).foldl take v=v.skipD ys∧
    ((ys.flatMap fun (y:Nat)=>u.tell (skips y b) u.n ++ [(skips y b).ad u.me u.me]).filter fun m=>decide (m.to≠(u.me:Int)))=ys.flatMap fun (y:Nat)=>u.tell (skips y b) u.n
  | [],u,v,_,_,_,_,_,_=>⟨rfl,rfl⟩
  | y :: ys,u,v,b,h,e1,e2,h1,h7=>by
    have ht:∀m∈u.tell (skips (y:Int) b) u.n,m.to≠(u.me:Int):=fun m hm=>by
      unfold tell at hm
      obtain ⟨j,hj,rfl⟩:=List.mem_map.1 hm
      have:=of_decide_eq_true (List.mem_filter.1 hj).2
      show ((j:Nat):Int)≠_
      omega
    have hy:=h y (by simp)
    have k:=kin_decide v (y:Int) []
    obtain ⟨a1,a2⟩:=fold_skips ys u (v.decide_ (y:Int) []) b (fun z hz=>by rw [k.n,k.me];exact h z (by simp [hz])) (e1.trans k.me.symm) (e2.trans k.n.symm) (by rw [k.n];exact h1) (by rw [k.n];exact h7)
    constructor
    · rw [List.flatMap_cons,List.filter_append,List.filter_append,List.foldl_append]
      have f0:(u.tell (skips (y:Int) b) u.n).filter (fun m=>decide (m.to=(u.me:Int)))= []:=List.filter_eq_nil_iff.2 fun m hm hd=>ht m hm (of_decide_eq_true hd)
      have f1: [(skips (y:Int) b).ad u.me u.me].filter (fun m=>decide (m.to=(u.me:Int)))= [(skips (y:Int) b).ad u.me u.me]:=by simp [Ms.ad]
      rw [f0,f1,List.nil_append,List.foldl_cons,List.foldl_nil,e1,take_skip hy.1 h1 h7 hy.2]
      rw [e1] at a1
      have e:v.skipD (y :: ys)=(v.decide_ (y:Int) []).skipD ys:=by unfold skipD;rw [List.foldl_cons]
      rw [e,←a1]
    · rw [List.flatMap_cons,List.filter_append,List.filter_append,List.flatMap_cons,a2]
      have f0:(u.tell (skips (y:Int) b) u.n).filter (fun m=>decide (m.to≠(u.me:Int)))=u.tell (skips (y:Int) b) u.n:=List.filter_eq_self.2 fun m hm=>decide_eq_true (ht m hm)
      have f1: [(skips (y:Int) b).ad u.me u.me].filter (fun m=>decide (m.to≠(u.me:Int)))= []:=by simp [Ms.ad]
      rw [f0,f1,List.append_nil]
theorem sync_skips {u:Site} {A B:List Ms} {ys:List Nat} {b:Bl} (hup:u.down=false) (hA:∀m∈A,m.to≠(u.me:Int)) (hB:∀m∈B,m.to≠(u.me:Int))
    (hh:u.held=A ++ (ys.flatMap fun (y:Nat)=>u.tell (skips y b) u.n ++ [(skips y b).ad u.me u.me]) ++ B)
    (hy:∀y∈ys,y < 4096∧y % u.n=u.me) (h1:1≤u.n) (h7:u.n≤7):u.sync=(({u with dn:=u.db.length,held:=[]} :Site).skipD ys,A ++ (ys.flatMap fun (y:Nat)=>u.tell (skips y b) u.n) ++ B):=by
  obtain ⟨a1,a2⟩:=fold_skips ys u {u with dn:=u.db.length,held:=[]} b hy rfl rfl h1 h7
  have f0:∀{A:List Ms},(∀m∈A,m.to≠(u.me:Int))→A.filter (fun m=>decide (m.to=(u.me:Int)))= []:=fun hA=>List.filter_eq_nil_iff.2 fun m hm hd=>hA m hm (of_decide_eq_true hd)
  have f1:∀{A:List Ms},(∀m∈A,m.to≠(u.me:Int))→A.filter (fun m=>decide (m.to≠(u.me:Int)))=A:=fun hA=>List.filter_eq_self.2 fun m hm=>decide_eq_true (hA m hm)
  unfold sync
  rw [if_neg (by rw [hup];simp),hh,List.filter_append,List.filter_append,List.filter_append,List.filter_append,a2,f0 hA,f0 hB,f1 hA,f1 hB,List.nil_append,List.append_nil,a1]
theorem send_eq (s:Site) (a:Int) (m:Ms):s.send a m= {s with held:=s.held ++ [m.ad s.me a]}:=rfl
theorem fold_send {α:Type} (f:Int) (g:α→Ms):∀(l:List α) (t:Site),l.foldl (fun u x=>u.send f (g x)) t= {t with held:=t.held ++ l.map fun x=>(g x).ad t.me f}
  | [],t=>by simp
  | x :: l,t=>by
    rw [List.foldl_cons,fold_send f g l,send_eq]
    simp
theorem mem_tell {s:Site} {m m':Ms} {n:Nat} :m'∈s.tell m n ↔ ∃c:Nat,c < n∧c≠s.me∧m'=m.ad s.me c:=by
  unfold tell
  rw [List.mem_map]
  constructor
  · rintro ⟨j,hj,rfl⟩
    obtain ⟨h1,h2⟩:=List.mem_filter.1 hj
    exact ⟨j,List.mem_range.1 h1,of_decide_eq_true h2,rfl⟩
  · rintro ⟨c,h1,h2,rfl⟩
    exact ⟨c,List.mem_filter.2 ⟨List.mem_range.2 h1,decide_eq_true h2⟩,rfl⟩
theorem tell_six {s:Site} {m:Ms} {n:Nat} (h:s.me < n) (h7:n≤7):(s.tell m n).length≤6:=by
  unfold tell
  rw [List.length_map]
  have h1:((List.range n).filter fun j=>decide (j≠s.me)).length < (List.range n).length:=by
    rw [List.length_filter_lt_length_iff_exists]
    exact ⟨s.me,List.mem_range.2 h,by simp⟩
  rw [List.length_range] at h1
  omega
end Site
end Agio
namespace Agio
open Go Go.Proofs.YtijhlbeipglieaaGreat
structure Plan where
  n:Nat
  T:Nat
  V:Nat→Option (List UInt8)
structure Plan.Ok (p:Plan):Prop where
  n3:3≤p.n
  n7:p.n≤7
  T:p.T≤6 * p.n
  V:∀x v,p.V x=some v→x < p.T∧v.length=2
def Plan.val (p:Plan) (x:Nat):List UInt8:=(p.V x).getD []
structure Calm (p:Plan) (i:Nat) (s:Site):Prop where
  me:s.me=i
  n:s.n=p.n
  lt:i < p.n
  up:s.down=false
  nx:s.nx≤4096
  wtl:s.wt.length=7
  st:∀x v,p.V x=some v→s.stat (x:Int)=Sp.zero∨s.stat (x:Int)=⟨⟨0,(x % p.n:Nat)⟩,true,⟨0,(x % p.n:Nat)⟩,v⟩
  lv:∀(x:Int) w,s.dec x=some w→∃k:Nat,x=k∧k < p.T∧w=p.val k
  rs:∀(x:Int) r,lookG x s.rs=some r→s.dec x=none∧∃(k:Nat) (v:List UInt8),x=k∧p.V k=some v∧k % p.n=i∧r.bal=⟨0,(i:Int)⟩∧r.so=true∧r.b=v∧Site.most r.vt ⟨0,(i:Int)⟩ p.n=false∧((i:Int),(⟨0,(i:Int)⟩:Bl))∈r.vt
  own:∀k v,p.V k=some v→k % p.n=i→s.stat (k:Int)=⟨⟨0,(i:Int)⟩,true,⟨0,(i:Int)⟩,v⟩∧(s.dec (k:Int)≠none∨∃r,lookG (k:Int) s.rs=some r)
  gap:∀k,k < p.T→p.V k=none→k % p.n=i→s.dec (k:Int)≠none∨s.fresh (k:Int)=true
  used:∀k,k % p.n=i→k < s.nx→s.fresh (k:Int)=false
  tp:s.top≤p.T
  stT:∀x:Int,(p.T:Int)≤x→s.stat x=Sp.zero
theorem Calm.ownF {p:Plan} {i:Nat} {s:Site} (h:Calm p i s) {k:Nat} {v:List UInt8} (hv:p.V k=some v) (ho:k % p.n=i):s.fresh (k:Int)=false:=by
  cases hf:s.fresh (k:Int) with
  | false=>rfl
  | true=>
    have h1:=Site.same_zero (Site.fresh_iff.1 hf).2
    rw [(h.own k v hv ho).1] at h1
    simp [Sp.zero] at h1
structure CalmM (p:Plan) (m:Ms) (x:Nat):Prop where
  may:m.May
  slot:m.slot=x
  kind:m.kind=1∧m.some_=true∧m.frm=(x % p.n:Nat)∧m.bround=0∧m.bsite=(x % p.n:Nat)∧p.V x=some m.val∨
    m.kind=2∧m.frm=(x % p.n:Nat)∧x < p.T∧p.V x=none∨
    m.kind=6∧m.to=(x % p.n:Nat)∧m.bround=0∧m.bsite=(x % p.n:Nat)∧p.V x≠none∨
    m.kind=7∧m.some_=true∧x < p.T∧m.val=p.val x∨
    m.kind=8∧(m.some_=true→x < p.T)
def Ms.wg (m:Ms):Nat:=if m.kind=8 then 17 else if m.kind=1 then 2 else 1
def wgs (l:List Ms):Nat:=(l.map Ms.wg).sum
theorem wgs_append (a b:List Ms):wgs (a ++ b)=wgs a + wgs b:=by simp [wgs]
theorem wgs_one {l:List Ms} (h:∀m∈l,m.kind≠1∧m.kind≠8):wgs l=l.length:=by
  induction l with
  | nil=>rfl
  | cons m l ih=>
    have h1:=h m (by simp)
    have h2:=ih fun x hx=>h x (by simp [hx])
    simp only [wgs,List.map_cons,List.sum_cons,List.length_cons] at h2 ⊢
    have:m.wg=1:=by unfold Ms.wg;rw [if_neg h1.2,if_neg h1.1]
    omega
structure Aft (p:Plan) (i:Nat) (s t:Site) (m:Ms) (out:List Ms) (ys:List Nat):Prop where
  calm:Calm p i t
  held:t.held= []
  dn:t.dn=t.db.length
  db:t.db.length≤s.db.length + 80 * (1 + ys.length)
  mono:∀(x:Int) w,s.dec x=some w→t.dec x=some w
  ysok:ys.Nodup∧∀y∈ys,y < p.T∧y % p.n=i∧s.dec (y:Int)=none∧t.dec (y:Int)≠none
  vt:∀(x:Int) r,lookG x s.rs=some r→t.dec x≠none∨∃r',lookG x t.rs=some r'∧∀u∈r.vt,u∈r'.vt
  outs:∀m'∈out,∃x,CalmM p m' x∧m'.frm=i∧(∃c:Nat,c < p.n∧c≠i∧m'.to=c)∧(m'.kind=2∨m'.kind=7→t.dec (x:Int)≠none)∧(m'.kind=2∨m'.kind=6∨m'.kind=7)
  pot:wgs out + 1 + ys.length≤m.wg + 7 * ys.length
  newd:∀(k:Nat),t.dec (k:Int)≠none→s.dec (k:Int)≠none∨k∈ys∨(m.slot=k∧(m.kind=2∨m.kind=7))
  cast:∀k∈ys,∀c:Nat,c < p.n→c≠i→∃m'∈out,m'.slot=k∧m'.to=c∧(m'.kind=2∨m'.kind=7)
theorem Plan.Ok.lt4 {p:Plan} (h:p.Ok) {k:Nat} (hk:k < p.T):k < 4096:=by have:=h.T;have:=h.n7;omega
theorem Plan.Ok.valLen {p:Plan} (h:p.Ok) (k:Nat):(p.val k).length≤2:=by
  unfold Plan.val
  cases hv:p.V k with
  | none=>simp
  | some v=>have:=(h.V k v hv).2;simp;omega
theorem fresh_of_same {s t:Site} (hst:∀x,t.stat x=s.stat x) (hd:∀(x:Int) w,s.dec x=some w→t.dec x=some w) {x:Int} (h:s.fresh x=false):t.fresh x=false:=by
  cases hf:t.fresh x with
  | false=>rfl
  | true=>
    obtain ⟨h1,h2⟩:=Site.fresh_iff.1 hf
    rw [hst] at h2
    cases hs:s.dec x with
    | none=>rw [Site.fresh_iff.2 ⟨hs,h2⟩] at h;cases h
    | some w=>rw [hd x w hs] at h1;cases h1
theorem Calm.dcd {p:Plan} {i:Nat} {s t:Site} {P:Int→Prop} {v:List UInt8} (h:Calm p i s) (hd:Site.Dcd s t P v) (hP:∀x,P x→∃k:Nat,x=k∧k < p.T∧v=p.val k):Calm p i t∧∀(x:Int) w,s.dec x=some w→t.dec x=some w:=by
  have hst:∀x,t.stat x=s.stat x:=fun x=>by unfold Site.stat;rw [hd.st]
  have mono:∀(x:Int) w,s.dec x=some w→t.dec x=some w:=fun x w hw=>by
    by_cases c:P x
    · obtain ⟨k,rfl,hk,rfl⟩:=hP x c
      obtain ⟨k',e,-,rfl⟩:=h.lv _ w hw
      have:k=k':=by omega
      subst this
      exact (hd.at_ _ c).1
    · rw [(hd.off x c).1];exact hw
  have old:∀x:Int,s.dec x≠none→t.dec x≠none:=fun x hx=>by
    cases hw:s.dec x with
    | none=>exact absurd hw hx
    | some w=>rw [mono x w hw];simp
  refine ⟨⟨hd.kin.me.trans h.me,hd.kin.n.trans h.n,h.lt,hd.kin.down.trans h.up,hd.nx▸h.nx,hd.kin.wt▸h.wtl,fun x v hv=>by rw [hst];exact h.st x v hv,fun x w hw=>?_,fun x r hr=>?_,fun k v hv ho=>?_,fun k hk hv ho=>?_,fun k ho hk=>?_,hd.top▸h.tp,fun x hx=>by rw [hst];exact h.stT x hx⟩,mono⟩
  · by_cases c:P x
    · rw [(hd.at_ x c).1] at hw
      obtain ⟨k,e,hk,rfl⟩:=hP x c
      exact ⟨k,e,hk,(Option.some.inj hw).symm⟩
    · rw [(hd.off x c).1] at hw;exact h.lv x w hw
  · by_cases c:P x
    · rw [(hd.at_ x c).2] at hr;cases hr
    · rw [(hd.off x c).2] at hr;rw [(hd.off x c).1];exact h.rs x r hr
  · obtain ⟨h1,h2⟩:=h.own k v hv ho
    refine ⟨by rw [hst];exact h1,?_⟩
    by_cases c:P (k:Int)
    · left;rw [(hd.at_ _ c).1];simp
    · rw [(hd.off _ c).1,(hd.off _ c).2];exact h2
  · by_cases c:P (k:Int)
    · left;rw [(hd.at_ _ c).1];simp
    · rcases h.gap k hk hv ho with h1 | h1
      · exact .inl (old _ h1)
      · right
        obtain ⟨h2,h3⟩:=Site.fresh_iff.1 h1
        exact Site.fresh_iff.2 ⟨by rw [(hd.off _ c).1];exact h2,by rw [hst];exact h3⟩
  · rw [hd.nx] at hk
    exact fresh_of_same hst mono (h.used k ho hk)
theorem Calm.skip {p:Plan} (hp:p.Ok) {i:Nat} {s t t' u:Site} {tg:Nat} {ys:List Nat} (h:Calm p i s) (hs:Site.Skd s t tg ys) (htg:tg≤p.T) (ht':t'.lv=t.lv∧t'.rs=t.rs∧t'.st=t.st∧t'.nx=t.nx∧Site.Kin t {t' with dn:=t.dn}∧t'.top=t.top)
    (hd:Site.Dcd t' u (fun x=>∃y∈ys,(y:Int)=x) []) (hnx:t.nx≤4096):Calm p i u∧(∀(x:Int) w,s.dec x=some w→u.dec x=some w)∧(∀y∈ys,p.V y=none∧y < p.T∧y % p.n=i∧s.dec (y:Int)=none∧u.dec (y:Int)=some [])∧
    (∀k,k % p.n=i→k < tg→u.dec (k:Int)≠none∨p.V k≠none)∧(∀k:Nat,u.dec (k:Int)≠none→s.dec (k:Int)≠none∨k∈ys)∧(∀(x:Int) r,lookG x s.rs=some r→u.dec x≠none∨lookG x u.rs=some r):=by
  obtain ⟨e1,e2,e3,e4,e5,e6⟩:=ht'
  have hys:∀y∈ys,p.V y=none∧y < p.T∧y % p.n=i∧s.dec (y:Int)=none∧u.dec (y:Int)=some []:=fun y hy=>by
    obtain ⟨k1,k2,k3,k4,k5⟩:=hs.own y hy
    have k6:y % p.n=i:=by rw [←h.n,←h.me];exact k1
    refine ⟨?_,by omega,k6,(Site.fresh_iff.1 k5).1,(hd.at_ _ ⟨y,hy,rfl⟩).1⟩
    cases hv:p.V y with
    | none=>rfl
    | some v=>rw [h.ownF hv k6] at k5;cases k5
  have hdec:∀x:Int,(¬ ∃y∈ys,(y:Int)=x)→u.dec x=s.dec x:=fun x hx=>by
    rw [(hd.off x hx).1];unfold Site.dec;rw [e1,hs.lv]
  have hrs:∀x:Int,(¬ ∃y∈ys,(y:Int)=x)→lookG x u.rs=lookG x s.rs:=fun x hx=>by
    rw [(hd.off x hx).2,e2,hs.rs]
  have hst:∀x:Int,u.stat x=t.stat x:=fun x=>by unfold Site.stat;rw [hd.st,e3]
  have mono:∀(x:Int) w,s.dec x=some w→u.dec x=some w:=fun x w hw=>by
    by_cases c:∃y∈ys,(y:Int)=x
    · obtain ⟨y,hy,rfl⟩:=c
      rw [(hys y hy).2.2.2.1] at hw;cases hw
    · rw [hdec x c];exact hw
  have hfr:∀x:Int,s.fresh x=false→u.fresh x=false:=fun x hx=>by
    cases hf:u.fresh x with
    | false=>rfl
    | true=>
      obtain ⟨a1,a2⟩:=Site.fresh_iff.1 hf
      rw [hst,hs.st] at a2
      split at a2
      · rw [Site.skSp_same] at a2;cases a2
      · rename_i c
        rw [hdec x c] at a1
        rw [Site.fresh_iff.2 ⟨a1,a2⟩] at hx;cases hx
  have hft:∀x:Int,t.fresh x=false→u.fresh x=false:=fun x hx=>by
    cases hf:u.fresh x with
    | false=>rfl
    | true=>
      obtain ⟨a1,a2⟩:=Site.fresh_iff.1 hf
      rw [hst] at a2
      have:t.dec x=none:=by
        by_cases c:∃y∈ys,(y:Int)=x
        · rw [(hd.at_ x c).1] at a1;cases a1
        · rw [hdec x c] at a1;unfold Site.dec at a1 ⊢;rw [hs.lv];exact a1
      rw [Site.fresh_iff.2 ⟨this,a2⟩] at hx;cases hx
  have hk1:=hs.kin;have hk2:=hd.kin
  have hnxu:u.nx=t.nx:=hd.nx.trans e4
  have hnew:∀k:Nat,u.dec (k:Int)≠none→s.dec (k:Int)≠none∨k∈ys:=fun k hk=>by
    by_cases c:∃y∈ys,(y:Int)=(k:Int)
    · obtain ⟨y,hy,e⟩:=c
      have:y=k:=by omega
      subst this;exact .inr hy
    · rw [hdec _ c] at hk;exact .inl hk
  refine ⟨⟨hk2.me.trans (e5.me.trans (hk1.me.trans h.me)),hk2.n.trans (e5.n.trans (hk1.n.trans h.n)),h.lt,hk2.down.trans (e5.down.trans (hk1.down.trans h.up)),by rw [hnxu];exact hnx,?_,fun x v hv=>?_,fun x w hw=>?_,fun x r hr=>?_,fun k v hv ho=>?_,fun k hk hv ho=>?_,fun k ho hk=>?_,?_,fun x hx=>?_⟩,mono,hys,fun k ho hk=>?_,hnew,fun x r hr=>?_⟩
  · have:u.wt=s.wt:=hk2.wt.trans (e5.wt.trans hk1.wt)
    rw [this];exact h.wtl
  · rw [hst,hs.st,if_neg]
    · exact h.st x v hv
    · rintro ⟨y,hy,e⟩
      have:y=x:=by omega
      subst this
      rw [(hys y hy).1] at hv;cases hv
  · by_cases c:∃y∈ys,(y:Int)=x
    · rw [(hd.at_ x c).1] at hw
      obtain ⟨y,hy,rfl⟩:=c
      refine ⟨y,rfl,(hys y hy).2.1,?_⟩
      unfold Plan.val;rw [(hys y hy).1,←Option.some.inj hw];rfl
    · rw [hdec x c] at hw;exact h.lv x w hw
  · by_cases c:∃y∈ys,(y:Int)=x
    · rw [(hd.at_ x c).2] at hr;cases hr
    · rw [hrs x c] at hr;rw [hdec x c];exact h.rs x r hr
  · obtain ⟨h1,h2⟩:=h.own k v hv ho
    have c:¬ ∃y∈ys,(y:Int)=(k:Int):=by
      rintro ⟨y,hy,e⟩
      have:y=k:=by omega
      subst this
      rw [(hys y hy).1] at hv;cases hv
    rw [hdec _ c,hrs _ c,hst,hs.st,if_neg c];exact ⟨h1,h2⟩
  · by_cases c:∃y∈ys,(y:Int)=(k:Int)
    · left;rw [(hd.at_ _ c).1];simp
    · rcases h.gap k hk hv ho with h1 | h1
      · left;rw [hdec _ c];exact h1
      · right
        obtain ⟨h2,h3⟩:=Site.fresh_iff.1 h1
        exact Site.fresh_iff.2 ⟨by rw [hdec _ c];exact h2,by rw [hst,hs.st,if_neg c];exact h3⟩
  · rw [hnxu] at hk
    by_cases c:k < s.nx
    · exact hfr _ (h.used k ho c)
    · exact hft _ (hs.nx k (by rw [h.n,h.me];exact ho) (by omega) hk)
  · have h1:=hs.top.2;have h2:=h.tp
    rw [hd.top,e6];omega
  · rw [hst,hs.st,if_neg]
    · exact h.stT x hx
    · rintro ⟨y,hy,e⟩
      have:=(hys y hy).2.1;omega
  · by_cases c:k < s.nx
    · cases hv:p.V k with
      | some v=>right;simp
      | none=>
        left
        rcases h.gap k (by omega) hv ho with h1 | h1
        · cases hw:s.dec (k:Int) with
          | none=>exact absurd hw h1
          | some w=>rw [mono _ w hw];simp
        · rw [h.used k ho c] at h1;cases h1
    · have h1:=hs.all k (by rw [h.n,h.me];exact ho) (by omega) hk (hp.lt4 (by omega))
      cases hv:p.V k with
      | some v=>right;simp
      | none=>
        left
        by_cases c2:∃y∈ys,(y:Int)=(k:Int)
        · rw [(hd.at_ _ c2).1];simp
        · rcases h.gap k (by omega) hv ho with h2 | h2
          · rw [hdec _ c2];exact h2
          · obtain ⟨h3,h4⟩:=Site.fresh_iff.1 h2
            have:t.fresh (k:Int)=true:=Site.fresh_iff.2 ⟨by unfold Site.dec at h3 ⊢;rw [hs.lv];exact h3,by rw [hs.st,if_neg c2];exact h4⟩
            rw [this] at h1;cases h1
  · by_cases c:∃y∈ys,(y:Int)=x
    · left;rw [(hd.at_ x c).1];simp
    · right;rw [hrs x c];exact hr
end Agio
namespace Agio
open Go Go.Proofs.YtijhlbeipglieaaGreat
def Ms.goes (m:Ms) (n i:Nat):Prop:=m.to=i∧∃c:Nat,c < n∧c≠i∧m.frm=c
theorem Site.skipF_nx:∀(f c:Nat) (s:Site) (tg:Int),s.nx≤4096→(Site.skipF f c s tg).nx≤4096
  | 0,_,s,_,h=>h
  | f + 1,c,s,tg,h=>by
    have hr:=nextI_range (s.me:Int) s.nx s.n
    unfold Site.skipF
    split
    · exact h
    split
    · exact h
    split
    · split
      · exact h
      · rename_i t ht
        refine Site.skipF_nx f _ _ _ ?_
        show (nextI s.me s.nx s.n + 1).toNat≤4096
        omega
    · refine Site.skipF_nx f _ _ _ ?_
      show (nextI s.me s.nx s.n + 1).toNat≤4096
      omega
theorem Site.skip_nx {s:Site} (h:s.nx≤4096) (tg:Int):(s.skip tg).nx≤4096:=Site.skipF_nx _ _ _ _ h
namespace Calm
variable {p:Plan} {i:Nat} {s:Site} {m:Ms} {k:Nat}
theorem handle_eq (h:Calm p i s) (hm:m.May) (hg:m.goes p.n i):s.handle m=(({s with wt:=s.wt.set m.frm.toNat 0} :Site).take m,0):=by
  obtain ⟨h1,c,h2,h3,h4⟩:=hg
  unfold Site.handle
  rw [if_neg (by rw [h.up];simp),if_neg (fun hn=>hn hm),if_neg (by rw [h.me,h.n];omega)]
theorem wts (h:Calm p i s) (a:Nat):Calm p i {s with wt:=s.wt.set a 0}:=
  ⟨h.me,h.n,h.lt,h.up,h.nx,by simp [h.wtl],h.st,h.lv,h.rs,h.own,h.gap,h.used,h.tp,h.stT⟩
theorem flush (h:Calm p i s) (a:Nat) (b:List Ms):Calm p i {s with dn:=a,held:=b}:=
  ⟨h.me,h.n,h.lt,h.up,h.nx,h.wtl,h.st,h.lv,h.rs,h.own,h.gap,h.used,h.tp,h.stT⟩
theorem wg_pos (m:Ms):1≤m.wg:=by unfold Ms.wg;split <;> (try split) <;> omega
theorem sync0 {u:Site} (hup:u.down=false) (h1:1≤u.n) (h7:u.n≤7) {A:List Ms} (hA:∀m∈A,m.to≠(u.me:Int)) (hh:u.held=A):u.sync=({u with dn:=u.db.length,held:=[]},A):=by
  have:=Site.sync_skips (u:=u) (A:=A) (B:=[]) (ys:=[]) (b:=⟨0,0⟩) hup hA (fun m hm=>by cases hm) (by simpa using hh) (fun y hy=>by cases hy) h1 h7
  rw [this]
  simp [Site.skipD]
theorem decided (hp:p.Ok) (h:Calm p i s) (hh:s.held= []) (hm:CalmM p m k) (hk:m.kind=2∨m.kind=7) (hg:m.goes p.n i) :
    ∃t,(s.handle m).1.sync=(t,[])∧Aft p i s t m [] []∧t.dec (k:Int)=some (p.val k):=by
  have hT:k < p.T:=by rcases hm.kind with h1 | h1 | h1 | h1 | h1 <;> omega
  have hw:=h.wts m.frm.toNat
  rw [h.handle_eq hm.may hg]
  obtain ⟨s0,hs0⟩:∃s0:Site,({s with wt:=s.wt.set m.frm.toNat 0} :Site)=s0:=⟨_,rfl⟩
  rw [hs0] at hw ⊢
  have hdec0:∀x,s0.dec x=s.dec x:=fun x=>by subst hs0;rfl
  have e:s0.take m=s0.decide_ (k:Int) (p.val k):=by
    have h1:s0.take m=s0.does m:=by
      unfold Site.take;rw [if_neg];rcases hk with hk | hk <;> omega
    rw [h1]
    unfold Site.does
    rcases hm.kind with ⟨e1,-⟩ | ⟨e1,e2,e3,e4⟩ | ⟨e1,-⟩ | ⟨e1,e2,e3,e4⟩ | ⟨e1,-⟩
    · omega
    · have e5:p.val k= []:=by unfold Plan.val;rw [e4];rfl
      rw [if_neg (by omega),if_pos e1]
      unfold Site.skipped
      rw [hw.n,hm.slot,ownerI_nat (hp.lt4 hT) (by have:=hp.n3;omega) hp.n7,if_pos e2,e5]
    · omega
    · rw [if_neg (by omega),if_neg (by omega),if_neg (by omega),if_neg (by omega),if_neg (by omega),if_neg (by omega),if_pos e1]
      unfold Site.learned
      rw [if_pos e2,hm.slot,e4]
    · omega
  have hd0:s0.dec (k:Int)=none∨s0.dec (k:Int)=some (p.val k):=by
    cases hc:s0.dec (k:Int) with
    | none=>exact .inl rfl
    | some w=>
      obtain ⟨k',e1,-,rfl⟩:=hw.lv _ w hc
      have:k=k':=by omega
      subst this;exact .inr rfl
  have hd:=Site.Dcd.one (s:=s0) (x:=(k:Int)) (v:=p.val k) (by have:=hp.lt4 hT;omega) (by have:=hp.valLen k;omega) hd0
  obtain ⟨hc,mono⟩:=hw.dcd hd (fun x hx=>⟨k,hx,hT,rfl⟩)
  rw [e]
  have hheld:(s0.decide_ (k:Int) (p.val k)).held= []:=by rw [hd.held];subst hs0;exact hh
  obtain ⟨t0,ht0⟩:∃t0,s0.decide_ (k:Int) (p.val k)=t0:=⟨_,rfl⟩
  rw [ht0] at hd hc mono hheld ⊢
  rw [sync0 hc.up (by rw [hc.n];have:=hp.n3;omega) (by rw [hc.n];exact hp.n7) (A:=[]) (fun m hm=>by cases hm) hheld]
  refine ⟨_,rfl,⟨hc.flush _ _,rfl,rfl,?_,fun x w hx=>mono x w (by rw [hdec0];exact hx),⟨List.nodup_nil,fun y hy=>(by cases hy)⟩,fun x r hr=>?_,fun m' hm'=>(by cases hm'),?_,fun j hj=>?_,fun y hy=>(by cases hy)⟩,(hd.at_ _ rfl).1⟩
  · show t0.db.length≤_
    rw [hd.db];subst hs0;simp
  · by_cases c:x=k
    · left
      have:=(hd.at_ x c).1
      show t0.dec x≠none
      rw [this];simp
    · right
      refine ⟨r,?_,fun u hu=>hu⟩
      show lookG x t0.rs=some r
      rw [(hd.off x c).2];subst hs0;exact hr
  · have:=wg_pos m;simp [wgs];omega
  · have hj':t0.dec (j:Int)≠none:=hj
    by_cases c:(j:Int)=k
    · exact .inr (.inr ⟨by rw [hm.slot,c],hk⟩)
    · rw [(hd.off _ c).1,hdec0] at hj';exact .inl hj'
theorem flushSkip (hp:p.Ok) {s1:Site} (h:Calm p i s1) {tg:Nat} (htg:tg≤p.T) (hdb:s1.db.length + 640≤1048576) (hA:∀m∈s1.held,m.to≠(i:Int)) {B:List Ms} (hB:∀m∈B,m.to≠(i:Int)) :
    ∃(ys:List Nat) (t:Site),({s1.skip tg with held:=(s1.skip tg).held ++ B} :Site).sync=(t,s1.held ++ (ys.flatMap fun (y:Nat)=>s1.tell (Site.skips y ⟨0,(i:Int)⟩) p.n) ++ B)∧Calm p i t∧(t.held= []∧t.dn=t.db.length)∧t.db.length≤s1.db.length + 80 * ys.length∧(s1.skip tg).lv=s1.lv∧(s1.skip tg).me=i∧ys.Nodup∧
    (∀(x:Int) w,s1.dec x=some w→t.dec x=some w)∧(∀y∈ys,p.V y=none∧y < p.T∧y % p.n=i∧s1.dec (y:Int)=none∧t.dec (y:Int)=some [])∧
    (∀k,k % p.n=i→k < tg→t.dec (k:Int)≠none∨p.V k≠none)∧(∀k:Nat,t.dec (k:Int)≠none→s1.dec (k:Int)≠none∨k∈ys)∧(∀(x:Int) r,lookG x s1.rs=some r→t.dec x≠none∨lookG x t.rs=some r):=by
  have hT:=hp.T;have h7:=hp.n7;have h3:=hp.n3;have hlt:=h.lt;have hn:=h.n;have hme:=h.me;have hnx:=h.nx
  obtain ⟨ys,hs,hlen⟩:=Site.skipF_skd tg (by omega) 4098 0 s1 (by omega) (by omega) hnx (by omega) (by omega) (by omega) (by omega) (fun y _ _=>by omega)
  rw [show Site.skipF 4098 0 s1 (tg:Int)=s1.skip (tg:Int) from rfl] at hs
  have hB0:s1.ownB=⟨0,(i:Int)⟩:=by unfold Site.ownB;rw [hme]
  have hheld:=hs.held
  rw [hB0] at hheld
  obtain ⟨s2,hs2⟩:∃s2,s1.skip (tg:Int)=s2:=⟨_,rfl⟩
  rw [hs2] at hs hheld ⊢
  rw [hn,hme] at hheld
  have hk:=hs.kin
  obtain ⟨u,hu⟩:∃u,u=({s2 with held:=s2.held ++ B} :Site):=⟨_,rfl⟩
  have u1:u.me=i:=by rw [hu];exact hk.me.trans hme
  have u2:u.n=p.n:=by rw [hu];exact hk.n.trans hn
  have u3:u.held=s2.held ++ B:=by rw [hu]
  have u4:u.down=false:=by rw [hu];exact hk.down.trans h.up
  have htell:∀m,u.tell m p.n=s1.tell m p.n:=fun m=>by
    unfold Site.tell;rw [u1,hme]
  have hy:∀y∈ys,y < 4096∧y % u.n=u.me:=fun y hy=>by
    obtain ⟨k1,k2,k3,k4,k5⟩:=hs.own y hy
    rw [u1,u2,←hn,←hme];exact ⟨k4,k1⟩
  have hsy:=Site.sync_skips (u:=u) (A:=s1.held) (B:=B) (ys:=ys) (b:=⟨0,(i:Int)⟩) u4 (by rw [u1];exact hA) (by rw [u1];exact hB)
    (by
      rw [u1,u2,u3,hheld]
      congr 2
      refine congrArg (fun g=>List.flatMap g ys) (funext fun y=>?_)
      rw [htell]) hy (by rw [u2];omega) (by rw [u2];exact h7)
  have hsy:u.sync=(({u with dn:=u.db.length,held:=[]} :Site).skipD ys,s1.held ++ (ys.flatMap fun (y:Nat)=>u.tell (Site.skips y ⟨0,(i:Int)⟩) p.n) ++ B):=by rw [←u2];exact hsy
  have hd0:∀y∈ys,y < 4096∧(({s2 with dn:=s2.db.length,held:=[]} :Site).dec (y:Int)=none∨({s2 with dn:=s2.db.length,held:=[]} :Site).dec (y:Int)=some []):=fun y hy=>by
    obtain ⟨k1,k2,k3,k4,k5⟩:=hs.own y hy
    refine ⟨k4,.inl ?_⟩
    have:=(Site.fresh_iff.1 k5).1
    unfold Site.dec at this ⊢
    dsimp only
    rw [hs.lv];exact this
  have hd:=Site.skipD_dcd ys ({s2 with dn:=s2.db.length,held:=[]} :Site) hd0
  have hnx2:s2.nx≤4096:=by
    exact hs2▸Site.skip_nx hnx _
  obtain ⟨c1,c2,c3,c4,c5,c6⟩:=h.skip hp hs htg (t':={s2 with dn:=s2.db.length,held:=[]}) ⟨rfl,rfl,rfl,rfl,⟨rfl,rfl,rfl,rfl,rfl,rfl,rfl⟩,rfl⟩ hd hnx2
  refine ⟨ys,_,?_,c1,⟨hd.held,hd.kin.dn.trans (by rw [hd.db])⟩,?_,hs.lv,hk.me.trans hme,hs.nodup,c2,c3,c4,c5,c6⟩
  · rw [←hu,hsy]
    have e1:({u with dn:=u.db.length,held:=[]} :Site)= {s2 with dn:=s2.db.length,held:=[]}:=by rw [hu]
    have e2:(ys.flatMap fun (y:Nat)=>u.tell (Site.skips y ⟨0,(i:Int)⟩) p.n)=ys.flatMap fun (y:Nat)=>s1.tell (Site.skips y ⟨0,(i:Int)⟩) p.n:=congrArg (fun g=>List.flatMap g ys) (funext fun y=>htell _)
    rw [e1,e2]
  · rw [hd.db];have:=hs.db;dsimp only;omega
theorem skips_wgs (hp:p.Ok) (h:Calm p i s) (ys:List Nat) (b:Bl):wgs (ys.flatMap fun (y:Nat)=>s.tell (Site.skips y b) p.n)≤6 * ys.length:=by
  induction ys with
  | nil=>simp [wgs]
  | cons y ys ih=>
    rw [List.flatMap_cons,wgs_append,List.length_cons]
    have h1:wgs (s.tell (Site.skips (y:Int) b) p.n)=(s.tell (Site.skips (y:Int) b) p.n).length:=wgs_one fun m hm=>by
      obtain ⟨c,-,-,rfl⟩:=Site.mem_tell.1 hm
      simp [Ms.ad,Site.skips]
    have h2:=Site.tell_six (s:=s) (m:=Site.skips (y:Int) b) (n:=p.n) (by rw [h.me];exact h.lt) hp.n7
    omega
theorem skip_out (hp:p.Ok) (h:Calm p i s) {y:Nat} (hy:p.V y=none∧y < p.T∧y % p.n=i) {m':Ms} (hm:m'∈s.tell (Site.skips (y:Int) ⟨0,(i:Int)⟩) p.n):CalmM p m' y∧m'.frm=i∧(∃c:Nat,c < p.n∧c≠i∧m'.to=c)∧m'.kind=2:=by
  obtain ⟨c,h1,h2,rfl⟩:=Site.mem_tell.1 hm
  have h7:=hp.n7;have hlt:=h.lt;have hme:=h.me;have h4:=hp.lt4 hy.2.1
  have hf:(Site.skips (y:Int) ⟨0,(i:Int)⟩).Fit:=Site.skips_fit (by omega) (Bl.may7.2 (by simp;omega))
  refine ⟨⟨?_,rfl,.inr (.inl ⟨rfl,?_,hy.2.1,hy.1⟩)⟩,?_,⟨c,h1,by rw [←hme];exact h2,rfl⟩,rfl⟩
  · exact hf.may (a:=(s.me:Int)) (b:=(c:Int)) (by omega) (by omega)
  · show ((s.me:Nat):Int)=_
    rw [hme,hy.2.2]
  · show ((s.me:Nat):Int)=_
    rw [hme]
theorem held_to (hg:m.goes p.n i) (m':Ms):(m'.ad i m.frm).to≠(i:Int):=by
  obtain ⟨-,c,h2,h3,h4⟩:=hg
  show m.frm≠_
  rw [h4];omega
theorem suggested (hp:p.Ok) (h:Calm p i s) (hh:s.held= []) (hdb:s.db.length + 800≤1048576) (hm:CalmM p m k) (hk:m.kind=1) (hg:m.goes p.n i) (hd:s.dec (k:Int)=none) :
    ∃t out ys,(s.handle m).1.sync=(t,out)∧Aft p i s t m out ys∧(∃m'∈out,m'.slot=k∧m'.to=m.frm∧m'.kind=6∧m'.frm=i)∧(∀j,j % p.n=i→j < k→t.dec (j:Int)≠none∨p.V j≠none)∧(∀y∈ys,p.V y=none):=by
  obtain ⟨e1,e2,e3,e4,e5,e6⟩:m.kind=1∧m.some_=true∧m.frm=(k % p.n:Nat)∧m.bround=0∧m.bsite=(k % p.n:Nat)∧p.V k=some m.val:=by
    rcases hm.kind with h1 | h1 | h1 | h1 | h1
    · exact h1
    all_goals omega
  obtain ⟨hT,hv2⟩:=hp.V k _ e6
  have h4:=hp.lt4 hT
  have h3:=hp.n3;have h7:=hp.n7
  have hki:k % p.n≠i:=by
    obtain ⟨-,c,g2,g3,g4⟩:=hg
    intro e;rw [e3] at g4;omega
  have hkn:k % p.n < p.n:=Nat.mod_lt _ (by omega)
  have hw:=h.wts m.frm.toNat
  rw [h.handle_eq hm.may hg]
  obtain ⟨s0,hs0⟩:∃s0:Site,({s with wt:=s.wt.set m.frm.toNat 0} :Site)=s0:=⟨_,rfl⟩
  rw [hs0] at hw ⊢
  have hdec0:∀x,s0.dec x=s.dec x:=fun x=>by subst hs0;rfl
  have hrs0:s0.rs=s.rs:=by subst hs0;rfl
  have hdb0:s0.db=s.db:=by subst hs0;rfl
  have hh0:s0.held= []:=by subst hs0;exact hh
  have hb:m.bal=⟨0,((k % p.n:Nat):Int)⟩:=by unfold Ms.bal;rw [e4,e5]
  obtain ⟨ha,hl⟩:=Site.accept_ok (s:=s0) (x:=(k:Int)) (b:=⟨0,((k % p.n:Nat):Int)⟩) (v:=m.val) (by omega) (Bl.may7.2 (by simp;omega)) (by omega) (by rw [hdb0];omega) (by
    rcases hw.st k _ e6 with e | e <;> rw [e]
    · exact cmpB_own _
    · rw [(cmpB_eq _ _).2 rfl];omega)
  obtain ⟨t1,ht1⟩:∃t1,({s0 with db:=s0.db ++ layB [⟨2,(k:Int),(⟨0,((k % p.n:Nat):Int)⟩:Bl).r,(⟨0,((k % p.n:Nat):Int)⟩:Bl).s,m.val⟩]} :Site).turn (k:Int) ⟨⟨0,((k % p.n:Nat):Int)⟩,true,⟨0,((k % p.n:Nat):Int)⟩,m.val⟩=t1:=⟨_,rfl⟩
  rw [ht1] at ha
  have hst1:∀x:Int,t1.stat x=if (k:Int)=x then ⟨⟨0,((k % p.n:Nat):Int)⟩,true,⟨0,((k % p.n:Nat):Int)⟩,m.val⟩ else s0.stat x:=fun x=>by
    subst ht1;rw [Site.look_turn];rfl
  have f1:t1.lv=s0.lv∧t1.rs=s0.rs∧t1.held=s0.held∧t1.nx=s0.nx∧Site.Kin s0 t1∧t1.top=max s0.top ((k:Int) + 1)∧t1.db.length≤s0.db.length + 80:=by
    subst ht1
    refine ⟨rfl,rfl,rfl,rfl,⟨rfl,rfl,rfl,rfl,rfl,rfl,rfl⟩,rfl,?_⟩
    show (s0.db ++ layB [⟨2,(k:Int),0,((k % p.n:Nat):Int),m.val⟩]).length≤_
    have hl:(layB [⟨2,(k:Int),0,((k % p.n:Nat):Int),m.val⟩]).length≤80:=hl
    rw [List.length_append];omega
  obtain ⟨g1,g2,g3,g4,g5,g6,g7⟩:=f1
  have hdec1:∀x,t1.dec x=s0.dec x:=fun x=>by unfold Site.dec;rw [g1]
  have hfr1:∀x:Int,(k:Int)≠x→t1.fresh x=s0.fresh x:=fun x hx=>by unfold Site.fresh;rw [hdec1,hst1,if_neg hx]
  have hne:∀j:Nat,j % p.n=i→(k:Int)≠(j:Int):=fun j hj e=>hki (by rw [show k=j from by omega];exact hj)
  have hc1:Calm p i t1:=by
    refine ⟨g5.me.trans hw.me,g5.n.trans hw.n,hw.lt,g5.down.trans hw.up,g4▸hw.nx,by rw [g5.wt];exact hw.wtl,fun x v hv=>?_,fun x w hx=>hw.lv x w (by rw [←hdec1];exact hx),fun x r hr=>?_,fun j v hv ho=>?_,fun j hj hv ho=>?_,fun j ho hj=>?_,?_,fun x hx=>by rw [hst1,if_neg (by omega)];exact hw.stT x hx⟩
    · rw [hst1]
      split
      · rename_i e
        have:k=x:=by omega
        subst this
        rw [e6] at hv;injection hv with hv;subst hv
        exact .inr rfl
      · exact hw.st x v hv
    · rw [hdec1];rw [g2] at hr;exact hw.rs x r hr
    · rw [hst1,if_neg (hne j ho),hdec1,g2];exact hw.own j v hv ho
    · rw [hfr1 _ (hne j ho),hdec1];exact hw.gap j hj hv ho
    · rw [hfr1 _ (hne j ho)];rw [g4] at hj;exact hw.used j ho hj
    · have:=hw.tp;rw [g6];omega
  have hmb:∀l,Calm p i {t1 with held:=l}:=fun l=>hc1.flush t1.dn l
  obtain ⟨c,gc1,gc2,gc3⟩:∃c:Nat,c < p.n∧c≠i∧m.frm=c:=hg.2
  obtain ⟨ys,t,k1,k2,k3,k4,k5,k6,k7,k8,k9,k10,k11,k12⟩:=flushSkip hp (s1:={t1 with held:=[(Site.votes (k:Int) ⟨0,((k % p.n:Nat):Int)⟩).ad i m.frm]}) (hmb _) (tg:=k) (by omega) (by dsimp only;rw [hdb0] at g7;omega) (fun m' hm'=>by
    dsimp only at hm'
    rw [List.mem_singleton] at hm'
    subst hm'
    exact held_to hg _) (B:=[]) (fun m hm=>by cases hm)
  have e:s0.take m=({t1 with held:=[(Site.votes (k:Int) ⟨0,((k % p.n:Nat):Int)⟩).ad i m.frm]} :Site).skip (k:Int):=by
    have h1:s0.take m=s0.suggested m:=by
      unfold Site.take
      rw [if_pos (.inl hk),hm.slot,hdec0,hd]
      dsimp only
      unfold Site.does
      rw [if_pos hk]
    rw [h1]
    unfold Site.suggested
    rw [hm.slot,hw.n,ownerI_nat h4 (by omega) h7,hb,if_pos ⟨e2,e3,by rw [e3]⟩,ha]
    dsimp only
    rw [Site.send_eq,g3,hh0,g5.me,hw.me]
    rfl
  have e':({({t1 with held:=[(Site.votes (k:Int) ⟨0,((k % p.n:Nat):Int)⟩).ad i m.frm]} :Site).skip (k:Int) with held:=(({t1 with held:=[(Site.votes (k:Int) ⟨0,((k % p.n:Nat):Int)⟩).ad i m.frm]} :Site).skip (k:Int)).held ++ []} :Site)=s0.take m:=by rw [e,List.append_nil]
  rw [e'] at k1
  have hdt:∀x,({t1 with held:=[(Site.votes (k:Int) ⟨0,((k % p.n:Nat):Int)⟩).ad i m.frm]} :Site).dec x=s.dec x:=fun x=>(hdec1 x).trans (hdec0 x)
  have hvote:(Site.votes (k:Int) ⟨0,((k % p.n:Nat):Int)⟩).Fit:=Site.votes_fit (by omega) (Bl.may7.2 (by simp;omega))
  have hpot:=skips_wgs hp (hmb [(Site.votes (k:Int) ⟨0,((k % p.n:Nat):Int)⟩).ad i m.frm]) ys ⟨0,(i:Int)⟩
  have hwm:m.wg=2:=by unfold Ms.wg;rw [if_neg (by omega),if_pos hk]
  refine ⟨t,_,ys,k1,⟨k2,k3.1,k3.2,?_,fun x w hx=>k8 x w (by rw [hdt];exact hx),⟨k7,fun y hy=>?_⟩,fun x r hr=>?_,fun m' hm'=>?_,?_,fun j hj=>?_,fun y hy c hc hci=>?_⟩,⟨_,by simp;exact .inl rfl,rfl,rfl,rfl,rfl⟩,k10,fun y hy=>(k9 y hy).1⟩
  · dsimp only at k4;rw [hdb0] at g7;omega
  · obtain ⟨j1,j2,j3,j4,j5⟩:=k9 y hy
    rw [hdt] at j4
    exact ⟨j2,j3,j4,by rw [j5];simp⟩
  · rcases k12 x r (by dsimp only;rw [g2,hrs0];exact hr) with h1 | h1
    · exact .inl h1
    · exact .inr ⟨r,h1,fun u hu=>hu⟩
  · rw [List.append_nil] at hm'
    rcases List.mem_append.1 hm' with hm' | hm'
    · dsimp only at hm'
      rw [List.mem_singleton] at hm'
      subst hm'
      refine ⟨k,⟨?_,rfl,.inr (.inr (.inl ⟨rfl,e3,rfl,rfl,by rw [e6];simp⟩))⟩,rfl,⟨c,gc1,gc2,gc3⟩,fun e=>?_,.inr (.inl rfl)⟩
      · exact hvote.may (a:=(i:Int)) (b:=m.frm) (by have:=h.lt;omega) (by omega)
      · simp [Ms.ad,Site.votes] at e
    · obtain ⟨y,hy,hm'⟩:=List.mem_flatMap.1 hm'
      obtain ⟨j1,j2,j3,j4,j5⟩:=k9 y hy
      obtain ⟨a1,a2,a3,a4⟩:=skip_out hp (hmb _) ⟨j1,j2,j3⟩ hm'
      exact ⟨y,a1,a2,a3,fun _=>by rw [j5];simp,.inl a4⟩
  · rw [List.append_nil,wgs_append,hwm]
    have:wgs ({t1 with held:=[(Site.votes (k:Int) ⟨0,((k % p.n:Nat):Int)⟩).ad i m.frm]} :Site).held=1:=rfl
    omega
  · rcases k11 j hj with h1 | h1
    · rw [hdt] at h1;exact .inl h1
    · exact .inr (.inl h1)
  · refine ⟨(Site.skips (y:Int) ⟨0,(i:Int)⟩).ad i c,?_,rfl,rfl,.inl rfl⟩
    rw [List.append_nil]
    refine List.mem_append.2 (.inr (List.mem_flatMap.2 ⟨y,hy,Site.mem_tell.2 ⟨c,hc,?_,?_⟩⟩))
    · rw [(hmb _).me];exact hci
    · rw [(hmb _).me]
end Calm
end Agio
namespace Agio
open Go Go.Proofs.YtijhlbeipglieaaGreat
namespace Calm
variable {p:Plan} {i:Nat} {s:Site} {m:Ms} {k:Nat}
theorem tells_out (hp:p.Ok) (hi:i < p.n) {x c:Nat} (hx:x < p.T) (hc:c < p.n) (hci:c≠i):CalmM p ((Site.tells (x:Int) (p.val x)).ad i c) x:=by
  have h7:=hp.n7;have h4:=hp.lt4 hx
  have hf:(Site.tells (x:Int) (p.val x)).Fit:=Site.tells_fit (by omega) (by have:=hp.valLen x;omega)
  exact ⟨hf.may (a:=(i:Int)) (b:=(c:Int)) (by omega) (by omega),rfl,.inr (.inr (.inr (.inl ⟨rfl,rfl,hx,rfl⟩)))⟩
theorem accepted (hp:p.Ok) (h:Calm p i s) (hh:s.held= []) (hm:CalmM p m k) (hk:m.kind=6) (hg:m.goes p.n i) :
    ∃t out ys,(s.handle m).1.sync=(t,out)∧Aft p i s t m out ys∧(t.dec (k:Int)≠none∨∃r,lookG (k:Int) t.rs=some r∧(m.frm,(⟨0,(i:Int)⟩:Bl))∈r.vt):=by
  obtain ⟨e1,e2,e3,e4,e5⟩:m.kind=6∧m.to=(k % p.n:Nat)∧m.bround=0∧m.bsite=(k % p.n:Nat)∧p.V k≠none:=by
    rcases hm.kind with h1 | h1 | h1 | h1 | h1
    · omega
    · omega
    · exact h1
    all_goals omega
  have hki:k % p.n=i:=by have:=hg.1;omega
  have h3:=hp.n3;have h7:=hp.n7
  have hw:=h.wts m.frm.toNat
  rw [h.handle_eq hm.may hg]
  obtain ⟨s0,hs0⟩:∃s0:Site,({s with wt:=s.wt.set m.frm.toNat 0} :Site)=s0:=⟨_,rfl⟩
  rw [hs0] at hw ⊢
  have hdec0:∀x,s0.dec x=s.dec x:=fun x=>by subst hs0;rfl
  have hrs0:s0.rs=s.rs:=by subst hs0;rfl
  have hdb0:s0.db=s.db:=by subst hs0;rfl
  have hh0:s0.held= []:=by subst hs0;exact hh
  obtain ⟨v,hv⟩:∃v,p.V k=some v:=by
    cases c:p.V k with
    | none=>exact absurd c e5
    | some v=>exact ⟨v,rfl⟩
  have hT:=(hp.V k v hv).1
  have e:s0.take m=s0.accepted m:=by
    have h1:s0.take m=s0.does m:=by unfold Site.take;rw [if_neg];omega
    rw [h1]
    unfold Site.does
    rw [if_neg (by omega),if_neg (by omega),if_neg (by omega),if_neg (by omega),if_neg (by omega),if_pos hk]
  rw [e]
  unfold Site.accepted
  rw [hm.slot]
  have hwp:=wg_pos m
  cases hr:lookG (k:Int) s0.rs with
  | none=>
    dsimp only
    rw [sync0 hw.up (by rw [hw.n];omega) (by rw [hw.n];exact h7) (A:=[]) (fun m hm=>by cases hm) hh0]
    refine ⟨_,[],[],rfl,⟨hw.flush _ _,rfl,rfl,by show s0.db.length≤_;rw [hdb0];omega,fun x w hx=>by show s0.dec x=_;rw [hdec0];exact hx,⟨List.nodup_nil,fun y hy=>(by cases hy)⟩,fun x r hx=>.inr ⟨r,by show lookG x s0.rs=_;rw [hrs0];exact hx,fun u hu=>hu⟩,fun m' hm'=>(by cases hm'),by simp [wgs];omega,fun j hj=>.inl (by rw [←hdec0];exact hj),fun y hy=>(by cases hy)⟩,?_⟩
    rcases (hw.own k v hv hki).2 with h1 | ⟨r,h1⟩
    · exact .inl h1
    · rw [hr] at h1;cases h1
  | some r=>
    obtain ⟨hnd,k',v',f1,f2,f3,f4,f5,f6,f7,f8⟩:=hw.rs _ r hr
    obtain rfl:k'=k:=by omega
    obtain rfl:v'=v:=by rw [hv] at f2;exact (Option.some.inj f2).symm
    have hbb:(⟨m.bround,m.bsite⟩:Bl)=⟨0,(i:Int)⟩:=by rw [e3,e4,hki]
    dsimp only
    subst f6
    have hMe:Site.most (r.vt ++ [(m.frm,(⟨0,(i:Int)⟩:Bl))]) r.bal s0.n=Site.most (r.vt ++ [(m.frm,(⟨0,(i:Int)⟩:Bl))]) ⟨0,(i:Int)⟩ p.n:=by rw [f4,hw.n]
    rw [hbb,if_pos ⟨f4,f5⟩,hMe]
    have hval:p.val k'=r.b:=by unfold Plan.val;rw [hv];rfl
    by_cases hM:Site.most (r.vt ++ [(m.frm,(⟨0,(i:Int)⟩:Bl))]) ⟨0,(i:Int)⟩ p.n=true
    · rw [if_pos hM]
      have hd0:=Site.Dcd.one (s:={s0 with rs:=putG (k':Int) {r with vt:=r.vt ++ [(m.frm,(⟨0,(i:Int)⟩:Bl))]} s0.rs}) (x:=(k':Int)) (v:=r.b) (by have:=hp.lt4 hT;omega) (by have:=(hp.V k' r.b hv).2;omega) (.inl hnd)
      obtain ⟨t,ht⟩:∃t,({s0 with rs:=putG (k':Int) {r with vt:=r.vt ++ [(m.frm,(⟨0,(i:Int)⟩:Bl))]} s0.rs} :Site).decide_ (k':Int) r.b=t:=⟨_,rfl⟩
      rw [ht] at hd0 ⊢
      have hd:Site.Dcd s0 t (fun y=>y=(k':Int)) r.b:=by
        refine ⟨hd0.at_,fun x hx=>⟨(hd0.off x hx).1,?_⟩,⟨hd0.kin.me,hd0.kin.n,hd0.kin.pat,hd0.kin.down,hd0.kin.wt,hd0.kin.dn,hd0.kin.taken⟩,hd0.st,hd0.nx,hd0.held,hd0.db,hd0.top⟩
        rw [(hd0.off x hx).2]
        dsimp only
        rw [lookG_put,if_neg (fun e=>hx e.symm)]
      obtain ⟨hc,mono⟩:=hw.dcd hd (fun x hx=>⟨k',hx,hT,hval.symm⟩)
      have hth:t.held= []:=by rw [hd.held];exact hh0
      rw [Site.others_eq,hth,List.nil_append,hw.n]
      have hto:∀m'∈t.tell (Site.tells (k':Int) r.b) p.n,m'.to≠(t.me:Int):=fun m' hm'=>by
        obtain ⟨c,-,h2,rfl⟩:=Site.mem_tell.1 hm'
        show (c:Int)≠_
        omega
      rw [sync0 (u:={t with held:=t.tell (Site.tells (k':Int) r.b) p.n}) hc.up (by show 1≤t.n;rw [hc.n];omega) (by show t.n≤7;rw [hc.n];exact h7) hto rfl]
      have hall:∀m'∈t.tell (Site.tells (k':Int) r.b) p.n,∃c:Nat,c < p.n∧c≠i∧m'=(Site.tells (k':Int) (p.val k')).ad i c:=fun m' hm'=>by
        obtain ⟨c,h1,h2,rfl⟩:=Site.mem_tell.1 hm'
        rw [hc.me] at h2
        exact ⟨c,h1,h2,by rw [hc.me,hval]⟩
      refine ⟨_,_,[k'],rfl,⟨hc.flush _ _,rfl,rfl,?_,fun x w hx=>mono x w (by rw [hdec0];exact hx),⟨by simp,fun y hy=>?_⟩,fun x r' hx=>?_,fun m' hm'=>?_,?_,fun j hj=>?_,fun y hy c hc1 hc2=>?_⟩,.inl ?_⟩
      · show t.db.length≤_
        rw [hd.db,hdb0];omega
      · rw [List.mem_singleton] at hy
        subst hy
        refine ⟨hT,hki,by rw [←hdec0];exact hnd,?_⟩
        show t.dec _≠none
        rw [(hd.at_ _ rfl).1];simp
      · by_cases c:x=(k':Int)
        · left
          show t.dec x≠none
          rw [(hd.at_ x c).1];simp
        · right
          refine ⟨r',?_,fun u hu=>hu⟩
          show lookG x t.rs=some r'
          rw [(hd.off x c).2,hrs0];exact hx
      · obtain ⟨c,h1,h2,rfl⟩:=hall m' hm'
        refine ⟨k',tells_out hp h.lt hT h1 h2,rfl,⟨c,h1,h2,rfl⟩,fun _=>?_,.inr (.inr rfl)⟩
        show t.dec _≠none
        rw [(hd.at_ _ rfl).1];simp
      · have h6:=Site.tell_six (s:=t) (m:=Site.tells (k':Int) r.b) (n:=p.n) (by rw [hc.me];exact h.lt) h7
        rw [wgs_one fun m' hm'=>by obtain ⟨c,h1,h2,rfl⟩:=hall m' hm';simp [Ms.ad,Site.tells]]
        simp only [List.length_singleton];omega
      · by_cases c:(j:Int)=(k':Int)
        · exact .inr (.inl (by have:j=k':=by omega
                               simp [this]))
        · have hj':t.dec (j:Int)≠none:=hj
          rw [(hd.off _ c).1,hdec0] at hj';exact .inl hj'
      · rw [List.mem_singleton] at hy
        subst hy
        exact ⟨_,Site.mem_tell.2 ⟨c,hc1,by rw [hc.me];exact hc2,rfl⟩,rfl,rfl,.inr rfl⟩
      · show t.dec _≠none
        rw [(hd.at_ _ rfl).1];simp
    · rw [if_neg hM]
      have hM:Site.most (r.vt ++ [(m.frm,(⟨0,(i:Int)⟩:Bl))]) ⟨0,(i:Int)⟩ p.n=false:=by simpa using hM
      obtain ⟨t,ht⟩:∃t,({s0 with rs:=putG (k':Int) {r with vt:=r.vt ++ [(m.frm,(⟨0,(i:Int)⟩:Bl))]} s0.rs} :Site)=t:=⟨_,rfl⟩
      rw [ht]
      have hlk:∀x,lookG x t.rs=if (k':Int)=x then some {r with vt:=r.vt ++ [(m.frm,(⟨0,(i:Int)⟩:Bl))]} else lookG x s0.rs:=fun x=>by
        subst ht;dsimp only;rw [lookG_put]
      have hc:Calm p i t:=by
        have a1:t.lv=s0.lv∧t.st=s0.st:=by subst ht;exact ⟨rfl,rfl⟩
        have a2:∀x,t.dec x=s0.dec x:=fun x=>by subst ht;rfl
        have a3:∀x,t.stat x=s0.stat x:=fun x=>by subst ht;rfl
        have a4:∀x,t.fresh x=s0.fresh x:=fun x=>by subst ht;rfl
        refine ⟨by subst ht;exact hw.me,by subst ht;exact hw.n,hw.lt,by subst ht;exact hw.up,by subst ht;exact hw.nx,by subst ht;exact hw.wtl,fun x v hv=>by rw [a3];exact hw.st x v hv,fun x w hx=>hw.lv x w (by rw [←a2];exact hx),fun x r' hx=>?_,fun j v hv ho=>?_,fun j hj hv ho=>?_,fun j ho hj=>?_,by subst ht;exact hw.tp,fun x hx=>by rw [a3];exact hw.stT x hx⟩
        · rw [a2]
          rw [hlk] at hx
          split at hx
          · rename_i ex
            injection hx with hx
            subst hx ex
            exact ⟨hnd,k',_,rfl,f2,f3,f4,f5,rfl,hM,List.mem_append_left _ f8⟩
          · exact hw.rs x r' hx
        · rw [a3,a2,hlk]
          obtain ⟨b1,b2⟩:=hw.own j v hv ho
          refine ⟨b1,b2.imp id fun ⟨r',hr'⟩=>?_⟩
          split
          · exact ⟨_,rfl⟩
          · exact ⟨r',hr'⟩
        · rw [a2,a4];exact hw.gap j hj hv ho
        · rw [a4];exact hw.used j ho (by subst ht;exact hj)
      have hth:t.held= []:=by subst ht;exact hh0
      rw [sync0 hc.up (by rw [hc.n];omega) (by rw [hc.n];exact h7) (A:=[]) (fun m hm=>by cases hm) hth]
      have a2:∀x,t.dec x=s.dec x:=fun x=>by rw [←hdec0];subst ht;rfl
      refine ⟨_,[],[],rfl,⟨hc.flush _ _,rfl,rfl,?_,fun x w hx=>?_,⟨List.nodup_nil,fun y hy=>(by cases hy)⟩,fun x r' hx=>.inr ?_,fun m' hm'=>(by cases hm'),by simp [wgs];omega,fun j hj=>.inl (by rw [←a2];exact hj),fun y hy=>(by cases hy)⟩,.inr ⟨{r with vt:=r.vt ++ [(m.frm,(⟨0,(i:Int)⟩:Bl))]},?_,by simp⟩⟩
      · show t.db.length≤_
        have:t.db=s0.db:=by subst ht;rfl
        rw [this,hdb0];omega
      · show t.dec x=_
        rw [a2];exact hx
      · show ∃r'',lookG x t.rs=some r''∧_
        rw [hlk]
        split
        · rename_i ex
          subst ex
          rw [←hrs0,hr] at hx
          injection hx with hx
          subst hx
          exact ⟨_,rfl,fun u hu=>List.mem_append_left _ hu⟩
        · exact ⟨r',by rw [hrs0];exact hx,fun u hu=>hu⟩
      · show lookG (k':Int) t.rs=_
        rw [hlk,if_pos rfl]
theorem wanted (hp:p.Ok) (h:Calm p i s) (hh:s.held= []) (hdb:s.db.length + 800≤1048576) (hm:CalmM p m k) (hk:m.kind=8) (hg:m.goes p.n i) :
    ∃t out ys,(s.handle m).1.sync=(t,out)∧Aft p i s t m out ys∧(∀y∈ys,p.V y=none):=by
  have e1:m.some_=true→k < p.T:=by
    rcases hm.kind with h1 | h1 | h1 | h1 | h1
    iterate 4 omega
    exact h1.2
  have h3:=hp.n3;have h7:=hp.n7;have hlt:=h.lt
  have hw:=h.wts m.frm.toNat
  rw [h.handle_eq hm.may hg]
  obtain ⟨s0,hs0⟩:∃s0:Site,({s with wt:=s.wt.set m.frm.toNat 0} :Site)=s0:=⟨_,rfl⟩
  rw [hs0] at hw ⊢
  have hdec0:∀x,s0.dec x=s.dec x:=fun x=>by subst hs0;rfl
  have hrs0:s0.rs=s.rs:=by subst hs0;rfl
  have hdb0:s0.db=s.db:=by subst hs0;rfl
  have hh0:s0.held= []:=by subst hs0;exact hh
  have hwm:m.wg=17:=by unfold Ms.wg;rw [if_pos hk]
  obtain ⟨c,gc1,gc2,gc3⟩:=hg.2
  have e:s0.take m=s0.wanted m:=by
    have h1:s0.take m=s0.does m:=by unfold Site.take;rw [if_neg];omega
    rw [h1]
    unfold Site.does
    rw [if_neg (by omega),if_neg (by omega),if_neg (by omega),if_neg (by omega),if_neg (by omega),if_neg (by omega),if_neg (by omega),if_pos hk]
  -- what is told of what is decided
  have hB:∀(t:Site),t.me=i→t.lv=s0.lv→∃B:List Ms,(((((List.range' m.slot.toNat ((topG t.lv).toNat - m.slot.toNat)).map fun (i:Nat)=>(i:Int)).filter fun x=>(t.dec x).isSome).take 16).foldl (fun u x=>u.send m.frm (Site.tells x ((t.dec x).getD []))) t)= {t with held:=t.held ++ B}∧
      wgs B≤16∧(∀m'∈B,m'.to≠(i:Int))∧∀m'∈B,∃x:Nat,CalmM p m' x∧m'.frm=i∧m'.to=(c:Int)∧m'.kind=7∧s.dec (x:Int)≠none:=by
    intro t ht hl
    have hd:∀x,t.dec x=s.dec x:=fun x=>by rw [←hdec0];unfold Site.dec;rw [hl]
    have hL:∀x∈((((List.range' m.slot.toNat ((topG t.lv).toNat - m.slot.toNat)).map fun (i:Nat)=>(i:Int)).filter fun x=>(t.dec x).isSome).take 16),∃y:Nat,x=y∧y < p.T∧s.dec x=some (p.val y):=fun x hx=>by
      have h1:=(List.mem_filter.1 (List.mem_of_mem_take hx)).2
      rw [hd] at h1
      obtain ⟨w,hw⟩:=Option.isSome_iff_exists.1 h1
      obtain ⟨y,rfl,h2,rfl⟩:=h.lv _ w hw
      exact ⟨y,rfl,h2,hw⟩
    have hl16:((((List.range' m.slot.toNat ((topG t.lv).toNat - m.slot.toNat)).map fun (i:Nat)=>(i:Int)).filter fun x=>(t.dec x).isSome).take 16).length≤16:=by rw [List.length_take];omega
    generalize ((((List.range' m.slot.toNat ((topG t.lv).toNat - m.slot.toNat)).map fun (i:Nat)=>(i:Int)).filter fun x=>(t.dec x).isSome).take 16)=L at hL hl16
    refine ⟨_,Site.fold_send m.frm (fun x=>Site.tells x ((t.dec x).getD [])) L t,?_,fun m' hm'=>?_,fun m' hm'=>?_⟩
    · rw [wgs_one fun m' hm'=>by obtain ⟨x,-,rfl⟩:=List.mem_map.1 hm';simp [Ms.ad,Site.tells],List.length_map]
      exact hl16
    · obtain ⟨x,-,rfl⟩:=List.mem_map.1 hm'
      show m.frm≠_
      rw [gc3];omega
    · obtain ⟨x,hx,rfl⟩:=List.mem_map.1 hm'
      obtain ⟨y,rfl,h1,h2⟩:=hL x hx
      rw [hd,h2,ht]
      refine ⟨y,?_,rfl,gc3,rfl,by rw [h2];simp⟩
      rw [gc3]
      exact tells_out hp hlt h1 gc1 gc2
  rw [e]
  unfold Site.wanted
  rw [hm.slot]
  dsimp only
  by_cases hc:m.some_=true∧s0.dec (k:Int)=none∧ownerI (k:Int) s0.n=(s0.me:Int)
  · rw [if_pos hc]
    have hkT:=e1 hc.1
    obtain ⟨ys0,t0,q1,q2,q3,q4,q5,q6,-⟩:=flushSkip hp hw (tg:=k + 1) (by omega) (by rw [hdb0];omega) (fun m hm=>by rw [hh0] at hm;cases hm) (B:=[]) (fun m hm=>by cases hm)
    have ek:((k:Int) + 1)=((k + 1:Nat):Int):=by omega
    rw [ek]
    obtain ⟨B,b1,b2,b3,b4⟩:=hB (s0.skip ((k + 1:Nat):Int)) q6 q5
    rw [←hm.slot,b1]
    clear q1 q2 q3 q4 q5 q6 ys0 t0
    obtain ⟨ys,t,k1,k2,k3,k4,k5,k6,k7,k8,k9,k10,k11,k12⟩:=flushSkip hp hw (tg:=k + 1) (by omega) (by rw [hdb0];omega) (fun m hm=>by rw [hh0] at hm;cases hm) b3
    have hpot:=skips_wgs hp hw ys ⟨0,(i:Int)⟩
    rw [hh0,List.nil_append] at k1
    refine ⟨t,_,ys,k1,⟨k2,k3.1,k3.2,?_,fun x w hx=>k8 x w (by rw [hdec0];exact hx),⟨k7,fun y hy=>?_⟩,fun x r hr=>?_,fun m' hm'=>?_,?_,fun j hj=>?_,fun y hy c' hc' hci=>?_⟩,fun y hy=>(k9 y hy).1⟩
    · rw [hdb0] at k4;omega
    · obtain ⟨j1,j2,j3,j4,j5⟩:=k9 y hy
      rw [hdec0] at j4
      exact ⟨j2,j3,j4,by rw [j5];simp⟩
    · rcases k12 x r (by rw [hrs0];exact hr) with h1 | h1
      · exact .inl h1
      · exact .inr ⟨r,h1,fun u hu=>hu⟩
    · rcases List.mem_append.1 hm' with hm' | hm'
      · obtain ⟨y,hy,hm'⟩:=List.mem_flatMap.1 hm'
        obtain ⟨j1,j2,j3,j4,j5⟩:=k9 y hy
        obtain ⟨a1,a2,a3,a4⟩:=skip_out hp hw ⟨j1,j2,j3⟩ hm'
        exact ⟨y,a1,a2,a3,fun _=>by rw [j5];simp,.inl a4⟩
      · obtain ⟨x,a1,a2,a3,a4,a5⟩:=b4 m' hm'
        refine ⟨x,a1,a2,⟨c,gc1,gc2,a3⟩,fun _=>?_,.inr (.inr a4)⟩
        cases hx:s.dec (x:Int) with
        | none=>exact absurd hx a5
        | some w=>rw [k8 _ w (by rw [hdec0];exact hx)];simp
    · rw [wgs_append,hwm];omega
    · rcases k11 j hj with h1 | h1
      · rw [hdec0] at h1;exact .inl h1
      · exact .inr (.inl h1)
    · refine ⟨(Site.skips (y:Int) ⟨0,(i:Int)⟩).ad i c',?_,rfl,rfl,.inl rfl⟩
      refine List.mem_append.2 (.inl (List.mem_flatMap.2 ⟨y,hy,Site.mem_tell.2 ⟨c',hc',?_,?_⟩⟩))
      · rw [hw.me];exact hci
      · rw [hw.me]
  · rw [if_neg hc]
    obtain ⟨B,b1,b2,b3,b4⟩:=hB s0 hw.me rfl
    rw [←hm.slot,b1,hh0,List.nil_append]
    rw [sync0 (u:={s0 with held:=B}) hw.up (by show 1≤s0.n;rw [hw.n];omega) (by show s0.n≤7;rw [hw.n];exact h7) (A:=B) (by show ∀m∈B,m.to≠(s0.me:Int);rw [hw.me];exact b3) rfl]
    refine ⟨_,B,[],rfl,⟨hw.flush _ _,rfl,rfl,by show s0.db.length≤_;rw [hdb0];omega,fun x w hx=>by show s0.dec x=_;rw [hdec0];exact hx,⟨List.nodup_nil,fun y hy=>(by cases hy)⟩,fun x r hx=>.inr ⟨r,by show lookG x s0.rs=_;rw [hrs0];exact hx,fun u hu=>hu⟩,fun m' hm'=>?_,by rw [hwm];simp;omega,fun j hj=>.inl (by rw [←hdec0];exact hj),fun y hy=>(by cases hy)⟩,fun y hy=>(by cases hy)⟩
    obtain ⟨x,a1,a2,a3,a4,a5⟩:=b4 m' hm'
    refine ⟨x,a1,a2,⟨c,gc1,gc2,a3⟩,fun _=>?_,.inr (.inr a4)⟩
    show s0.dec _≠none
    rw [hdec0];exact a5
end Calm
end Agio
namespace Agio
open Go Go.Proofs.YtijhlbeipglieaaGreat
theorem nodup_le {α:Type} [DecidableEq α]:∀{a b:List α},a.Nodup→(∀x∈a,x∈b)→a.length≤b.length
  | [],_,_,_=>Nat.zero_le _
  | x :: a,b,h,hs=>by
    have hx:=hs x (by simp)
    have h1:=nodup_le (a:=a) (b:=b.erase x) (List.nodup_cons.1 h).2 fun y hy=>(List.mem_erase_of_ne (fun e=>(List.nodup_cons.1 h).1 (by rw [←e];exact hy))).2 (hs y (by simp [hy]))
    rw [List.length_erase_of_mem hx] at h1
    have:=List.length_pos_of_mem hx
    rw [List.length_cons];omega
theorem most_all {n:Nat} (h1:1≤n) {vt:List (Int × Bl)} {b:Bl} (h:∀c:Nat,c < n→((c:Int),b)∈vt):Site.most vt b n=true:=by
  unfold Site.most mostI
  rw [if_neg (by omega)]
  refine decide_eq_true ?_
  have hn:=voters_nodup ((vt.filter fun v=>decide (v.2=b)).map Prod.fst) (n:Int)
  have hl:((List.range n).map fun (c:Nat)=>(c:Int)).length≤((voters ((vt.filter fun v=>decide (v.2=b)).map Prod.fst) (n:Int)).map Prod.fst).length:=by
    refine nodup_le ?_ fun x hx=>?_
    · rw [List.Nodup,List.pairwise_map]
      exact List.Pairwise.imp (fun h e=>h (by omega)) List.nodup_range
    · obtain ⟨c,hc,rfl⟩:=List.mem_map.1 hx
      have hc:=List.mem_range.1 hc
      have h2:(lookK (c:Int) (voters ((vt.filter fun v=>decide (v.2=b)).map Prod.fst) (n:Int))).isSome=true:=by
        rw [voters_look,Bool.and_eq_true,decide_eq_true_eq]
        refine ⟨List.mem_map.2 ⟨((c:Int),b),List.mem_filter.2 ⟨h c hc,by simp⟩,rfl⟩,?_⟩
        unfold isSite;simp;omega
      obtain ⟨u,hu⟩:=Option.isSome_iff_exists.1 h2
      rw [lookK_G] at hu
      exact List.mem_map.2 ⟨_,lookG_some hu,rfl⟩
  rw [List.length_map,List.length_map,List.length_range] at hl
  unfold majorI
  rw [if_neg (by omega)]
  omega
theorem sends_all:∀(l net:List Ms),net.length + l.length≤4096→sends net l=net ++ l
  | [],net,_=>by simp [sends]
  | m :: l,net,h=>by
    rw [List.length_cons] at h
    unfold sends
    rw [List.foldl_cons,if_pos (by omega)]
    have:=sends_all l (net ++ [m]) (by rw [List.length_append,List.length_singleton];omega)
    unfold sends at this
    rw [this,List.append_assoc];rfl
theorem wgs_len (l:List Ms):l.length≤wgs l:=by
  induction l with
  | nil=>simp
  | cons m l ih=>
    have:=Calm.wg_pos m
    simp only [wgs,List.map_cons,List.sum_cons,List.length_cons] at ih ⊢
    omega
theorem Calm.does {p:Plan} {i:Nat} {s:Site} {m:Ms} {k:Nat} (hp:p.Ok) (h:Calm p i s) (hh:s.held= []) (hdb:s.db.length + 800≤1048576) (hm:CalmM p m k) (hg:m.goes p.n i) (hd:m.kind=1→s.dec (k:Int)=none) :
    ∃t out ys,(s.handle m).1.sync=(t,out)∧Aft p i s t m out ys∧(m.kind=1→(∃m'∈out,m'.slot=k∧m'.to=m.frm∧m'.kind=6∧m'.frm=i)∧(∀j,j % p.n=i→j < k→t.dec (j:Int)≠none∨p.V j≠none))∧
      (m.kind=6→t.dec (k:Int)≠none∨∃r,lookG (k:Int) t.rs=some r∧(m.frm,(⟨0,(i:Int)⟩:Bl))∈r.vt)∧(m.kind=2∨m.kind=7→t.dec (k:Int)≠none)∧(m.kind=1∨m.kind=8→∀y∈ys,p.V y=none):=by
  rcases hm.kind with ⟨e,-⟩ | ⟨e,-⟩ | ⟨e,-⟩ | ⟨e,-⟩ | ⟨e,-⟩
  · obtain ⟨t,out,ys,h1,h2,h3,h4,h5⟩:=h.suggested hp hh hdb hm e hg (hd e)
    exact ⟨t,out,ys,h1,h2,fun _=>⟨h3,h4⟩,fun h=>by omega,fun h=>by omega,fun _=>h5⟩
  · obtain ⟨t,h1,h2,h3⟩:=h.decided hp hh hm (.inl e) hg
    exact ⟨t,[],[],h1,h2,fun h=>by omega,fun h=>by omega,fun _=>by rw [h3];simp,fun _ y hy=>by cases hy⟩
  · obtain ⟨t,out,ys,h1,h2,h3⟩:=h.accepted hp hh hm e hg
    exact ⟨t,out,ys,h1,h2,fun h=>by omega,fun _=>h3,fun h=>by omega,fun h=>by omega⟩
  · obtain ⟨t,h1,h2,h3⟩:=h.decided hp hh hm (.inr e) hg
    exact ⟨t,[],[],h1,h2,fun h=>by omega,fun h=>by omega,fun _=>by rw [h3];simp,fun _ y hy=>by cases hy⟩
  · obtain ⟨t,out,ys,h1,h2,h3⟩:=h.wanted hp hh hdb hm e hg
    exact ⟨t,out,ys,h1,h2,fun h=>by omega,fun h=>by omega,fun h=>by omega,fun _=>h3⟩
def Wd.ownD (w:Wd) (n x:Nat):Option (List UInt8):=match w.ss[x % n]? with
  | some s=>s.dec (x:Int)
  | none=>none
def Wd.undec (w:Wd) (p:Plan):Nat:=((List.range p.T).filter fun x=>(w.ownD p.n x).isNone).length
structure CW (p:Plan) (w:Wd) (A B:List Ms):Prop where
  len:w.ss.length=p.n
  net:w.net=A ++ B
  site:∀(i:Nat) s,w.ss[i]? =some s→Calm p i s∧(s.held= []∧s.dn=s.db.length)∧s.db.length + 80 * (wgs w.net + 7 * w.undec p)≤900000
  ms:∀m∈w.net,∃k i:Nat,CalmM p m k∧m.goes p.n i∧i < p.n
  pot:wgs w.net + 6 * w.undec p≤4000
  kB:∀m∈B,m.kind=2∨m.kind=6∨m.kind=7
  kA:∀m∈A,m.kind=1∨m.kind=8
  early:A≠[]→∀(i:Nat) s (x:Nat),w.ss[i]? =some s→p.V x≠none→s.dec (x:Int)=none
  i1:∀(x i:Nat) s,p.V x≠none→x % p.n=i→w.ss[i]? =some s→s.dec (x:Int)=none→∀c:Nat,c < p.n→c≠i→(∃m∈w.net,m.kind=1∧m.slot=x∧m.to=c)∨(∃m∈w.net,m.kind=6∧m.slot=x∧m.frm=c∧m.to=i)∨
    ∃r,lookG (x:Int) s.rs=some r∧((c:Int),(⟨0,(i:Int)⟩:Bl))∈r.vt
  i2:∀(x i:Nat) s,x < p.T→p.V x=none→x % p.n=i→w.ss[i]? =some s→s.dec (x:Int)=none→∃m∈A,m.kind=1∧m.to=i∧(x:Int) < m.slot
  i3:∀(x i:Nat) s (c:Nat) t,x % p.n=i→w.ss[i]? =some s→s.dec (x:Int)≠none→w.ss[c]? =some t→c≠i→t.dec (x:Int)≠none∨∃m∈w.net,(m.kind=2∨m.kind=7)∧m.slot=x∧m.to=c
  i4:∀(c:Nat) t (x:Nat),w.ss[c]? =some t→t.dec (x:Int)≠none→∀s,w.ss[x % p.n]? =some s→s.dec (x:Int)≠none
  i5:∀m∈w.net,(m.kind=2∨m.kind=7)→∀k:Nat,m.slot=k→∀s,w.ss[k % p.n]? =some s→s.dec (k:Int)≠none
theorem Wd.deal_eq {w:Wd} {m:Ms} {l:List Ms} (hn:w.net=m :: l) {i:Nat} (hi:m.to=(i:Int)) {s:Site} (hs:w.ss[i]? =some s) {t:Site} {out:List Ms} (ht:(s.handle m).1.sync=(t,out)) (hl:l.length + out.length≤4096) :
    w.deal m= {w with ss:=w.ss.set i t,net:=l ++ out}:=by
  have e:m.to.toNat=i:=by omega
  have hlt:=(List.getElem?_eq_some_iff.1 hs).1
  unfold Wd.deal Wd.deliver Wd.tell
  rw [hn]
  dsimp only [List.getElem?_cons_zero]
  rw [e,hs]
  dsimp only [List.eraseIdx_cons_zero]
  rw [List.getElem?_set_self hlt]
  dsimp only
  rw [ht,List.set_set]
  dsimp only
  rw [sends_all _ _ hl]
theorem ne_none {α:Type} {o:Option α} (h:o≠none):∃v,o=some v:=by
  cases o with
  | none=>exact absurd rfl h
  | some v=>exact ⟨v,rfl⟩
namespace CW
variable {p:Plan} {w:Wd} {A B:List Ms}
theorem deal (hp:p.Ok) (h:CW p w A B) {m:Ms} {l:List Ms} (hn:w.net=m :: l):∃A' B',CW p (w.deal m) A' B'∧wgs (w.deal m).net + 6 * (w.deal m).undec p + 1≤wgs w.net + 6 * w.undec p:=by
  have hmn:m∈w.net:=by rw [hn];simp
  obtain ⟨k,i,hm,hg,hi⟩:=h.ms m hmn
  have hilt:i < w.ss.length:=by rw [h.len];exact hi
  obtain ⟨s,hs⟩:∃s,w.ss[i]? =some s:=⟨_,List.getElem?_eq_getElem hilt⟩
  obtain ⟨hc,hh,hdb⟩:=h.site i s hs
  have hpos:0 < p.n:=by have:=hp.n3;omega
  -- which part m is of
  obtain ⟨A1,B1,hl,hA,hB,hkm,hA1⟩:∃A1 B1,l=A1 ++ B1∧(∀x∈A1,x∈A)∧(∀x∈B1,x∈B)∧((A=m :: A1∧(m.kind=1∨m.kind=8))∨(A= []∧A1= []∧(m.kind=2∨m.kind=6∨m.kind=7)))∧(A= []→A1= []):=by
    have e:=h.net
    rw [hn] at e
    cases hA:A with
    | nil=>
      rw [hA,List.nil_append] at e
      exact ⟨[],l,rfl,fun x hx=>(by cases hx),fun x hx=>by rw [←e];simp [hx],.inr ⟨rfl,rfl,h.kB m (by rw [←e];simp)⟩,fun _=>rfl⟩
    | cons a A1=>
      rw [hA,List.cons_append] at e
      injection e with e1 e2
      subst e1
      exact ⟨A1,B,e2,fun x hx=>by simp [hx],fun x hx=>hx,.inl ⟨rfl,h.kA m (by rw [hA];simp)⟩,fun e=>by cases e⟩
  have hearly:m.kind=1∨m.kind=8→∀(j:Nat) s (x:Nat),w.ss[j]? =some s→p.V x≠none→s.dec (x:Int)=none:=fun e=>h.early (by
    rcases hkm with ⟨h1,-⟩ | ⟨-,-,h1⟩
    · rw [h1];simp
    · omega)
  have hd1:m.kind=1→s.dec (k:Int)=none:=fun e=>hearly (.inl e) i s k hs (by
    rcases hm.kind with h1 | h1 | h1 | h1 | h1
    · rw [h1.2.2.2.2.2];simp
    all_goals omega)
  obtain ⟨t,out,ys,hsy,ha,x1,x2,x3,x4⟩:=hc.does hp hh.1 (by omega) hm hg hd1
  have hpot:=ha.pot
  have hwn:wgs w.net=m.wg + wgs l:=by rw [hn];rfl
  have hlen:l.length + out.length≤4096:=by
    have:=wgs_len l;have:=wgs_len out;have:=h.pot
    have h6:6 * ys.length≤6 * w.undec p:=by
      refine Nat.mul_le_mul_left _ (nodup_le ha.ysok.1 fun y hy=>?_)
      obtain ⟨y1,y2,y3,-⟩:=ha.ysok.2 y hy
      refine List.mem_filter.2 ⟨List.mem_range.2 y1,?_⟩
      unfold Wd.ownD;rw [y2,hs];dsimp only;rw [y3];rfl
    omega
  rw [Wd.deal_eq hn hg.1 hs hsy hlen]
  obtain ⟨w',hw'⟩:∃w':Wd,({w with ss:=w.ss.set i t,net:=l ++ out} :Wd)=w':=⟨_,rfl⟩
  rw [hw']
  have hnet:w'.net=l ++ out:=by subst hw';rfl
  have hat:w'.ss[i]? =some t:=by subst hw';exact List.getElem?_set_self hilt
  have hoff:∀j,j≠i→w'.ss[j]? =w.ss[j]?:=fun j hj=>by subst hw';exact List.getElem?_set_ne hj.symm
  -- each site of the new world came of one of the old one
  have old:∀(j:Nat) u,w'.ss[j]? =some u→∃u0,w.ss[j]? =some u0∧(∀(x:Int) v,u0.dec x=some v→u.dec x=some v)∧(j≠i→u=u0)∧(j=i→u0=s∧u=t):=fun j u hu=>by
    by_cases e:j=i
    · subst e
      rw [hat] at hu;injection hu with hu;subst hu
      exact ⟨s,hs,ha.mono,fun e=>absurd rfl e,fun _=>⟨rfl,rfl⟩⟩
    · rw [hoff j e] at hu
      exact ⟨u,hu,fun _ _ h=>h,fun _=>rfl,fun e'=>absurd e' e⟩
  have mono:∀(j:Nat) u0 u,w.ss[j]? =some u0→w'.ss[j]? =some u→∀x:Int,u0.dec x≠none→u.dec x≠none:=fun j u0 u h0 hu x hx=>by
    obtain ⟨u1,h1,h2,-⟩:=old j u hu
    rw [h0] at h1;injection h1 with h1;subst h1
    obtain ⟨v,hv⟩:=ne_none hx
    rw [h2 x v hv];simp
  have hinl:∀x∈l,x∈w'.net:=fun x hx=>by rw [hnet];exact List.mem_append_left _ hx
  have hino:∀x∈out,x∈w'.net:=fun x hx=>by rw [hnet];exact List.mem_append_right _ hx
  have hstay:∀x∈w.net,x=m∨x∈w'.net:=fun x hx=>by
    rw [hn] at hx
    rcases List.mem_cons.1 hx with hx | hx
    · exact .inl hx
    · exact .inr (hinl x hx)
  -- how many are undecided
  have hU:w'.undec p + ys.length≤w.undec p:=by
    unfold Wd.undec
    rw [←List.length_append]
    refine nodup_le ?_ fun x hx=>?_
    · refine List.nodup_append.2 ⟨List.Nodup.sublist List.filter_sublist List.nodup_range,ha.ysok.1,fun a h1 b h2 e=>?_⟩
      subst e
      obtain ⟨y1,y2,y3,y4⟩:=ha.ysok.2 a h2
      have:=(List.mem_filter.1 h1).2
      unfold Wd.ownD at this
      rw [y2,hat] at this
      dsimp only at this
      exact y4 (Option.isNone_iff_eq_none.1 this)
    · rcases List.mem_append.1 hx with hx | hx
      · obtain ⟨h1,h2⟩:=List.mem_filter.1 hx
        refine List.mem_filter.2 ⟨h1,?_⟩
        have h2:=Option.isNone_iff_eq_none.1 h2
        refine Option.isNone_iff_eq_none.2 ?_
        unfold Wd.ownD at h2 ⊢
        cases c:w.ss[x % p.n]? with
        | none=>rfl
        | some u0=>
          have hlt:x % p.n < w.ss.length:=(List.getElem?_eq_some_iff.1 c).1
          obtain ⟨u,hu⟩:∃u,w'.ss[x % p.n]? =some u:=⟨_,List.getElem?_eq_getElem (by subst hw';simpa using hlt)⟩
          rw [hu] at h2
          dsimp only at h2 ⊢
          cases hx:u0.dec (x:Int) with
          | none=>rfl
          | some v=>exact absurd h2 (mono _ _ _ c hu _ (by rw [hx];simp))
      · obtain ⟨y1,y2,y3,-⟩:=ha.ysok.2 x hx
        refine List.mem_filter.2 ⟨List.mem_range.2 y1,?_⟩
        unfold Wd.ownD;rw [y2,hs];dsimp only;rw [y3];rfl
  have hwg:wgs w'.net=wgs l + wgs out:=by rw [hnet,wgs_append]
  have hpotF:wgs w'.net + 6 * w'.undec p + 1≤wgs w.net + 6 * w.undec p:=by rw [hwg,hwn];omega
  have hpotG:wgs w'.net + 7 * w'.undec p + 1 + ys.length≤wgs w.net + 7 * w.undec p:=by rw [hwg,hwn];omega
  have ei:i=k % p.n→(m.kind=2∨m.kind=7)→s.dec (k:Int)≠none:=fun e hk=>h.i5 m hmn hk k hm.slot s (by rw [←e];exact hs)
  have hlt4:∀(j:Nat) u,w'.ss[j]? =some u→j < p.n:=fun j u hu=>by
    have:=(List.getElem?_eq_some_iff.1 hu).1
    subst hw'
    rw [←h.len];simpa using this
  -- what is decided is decided at its slot's site
  have hi4:∀(c:Nat) u (x:Nat),w'.ss[c]? =some u→u.dec (x:Int)≠none→∀v,w'.ss[x % p.n]? =some v→v.dec (x:Int)≠none:=fun c u x hu hx v hv=>by
    obtain ⟨u0,h0,-,h1,h2⟩:=old c u hu
    obtain ⟨v0,g0,-,-,-⟩:=old _ v hv
    by_cases e:c=i
    · obtain ⟨rfl,rfl⟩:=h2 e
      subst e
      rcases ha.newd x hx with j1 | j1 | ⟨j1,j2⟩
      · exact mono _ _ _ g0 hv _ (h.i4 _ _ x hs j1 v0 g0)
      · obtain ⟨y1,y2,y3,y4⟩:=ha.ysok.2 x j1
        rw [y2,hat] at hv;injection hv with hv;subst hv;exact y4
      · have:k=x:=by have:=hm.slot;omega
        subst this
        exact mono _ _ _ g0 hv _ (h.i5 m hmn j2 k hm.slot v0 g0)
    · rw [h1 e] at hx
      exact mono _ _ _ g0 hv _ (h.i4 c u0 x h0 hx v0 g0)
  refine ⟨A1,B1 ++ out,⟨?_,?_,fun j u hu=>?_,fun x hx=>?_,by have:=h.pot;omega,fun x hx=>?_,fun x hx=>h.kA x (hA x hx),fun hne j u x hu hv=>?_,fun x j u hv hj hu hx c hc1 hc2=>?_,fun x j u hxT hv hj hu hx=>?_,fun x j u c v hj hu hx hv hcj=>?_,hi4,fun x hx hk j hj v hv=>?_⟩,hpotF⟩
  · subst hw';rw [←h.len];simp
  · rw [hnet,hl,List.append_assoc]
  · obtain ⟨u0,h0,-,h1,h2⟩:=old j u hu
    by_cases e:j=i
    · obtain ⟨rfl,rfl⟩:=h2 e
      subst e
      refine ⟨ha.calm,⟨ha.held,ha.dn⟩,?_⟩
      have:=ha.db
      omega
    · rw [h1 e]
      obtain ⟨a1,a2,a3⟩:=h.site j u0 h0
      exact ⟨a1,a2,by omega⟩
  · rw [hnet] at hx
    rcases List.mem_append.1 hx with hx | hx
    · exact h.ms x (by rw [hn];simp [hx])
    · obtain ⟨y,a1,a2,⟨c,a3,a4,a5⟩,-,-⟩:=ha.outs x hx
      exact ⟨y,c,a1,⟨a5,i,hi,fun e=>a4 e.symm,a2⟩,a3⟩
  · rcases List.mem_append.1 hx with hx | hx
    · exact h.kB x (hB x hx)
    · obtain ⟨y,a1,a2,-,-,a3⟩:=ha.outs x hx
      exact a3
  · have hAm:m.kind=1∨m.kind=8:=by
      rcases hkm with ⟨-,h1⟩ | ⟨-,h1,-⟩
      · exact h1
      · exact absurd h1 hne
    obtain ⟨u0,h0,-,h1,h2⟩:=old j u hu
    have hu0:=hearly hAm j u0 x h0 hv
    by_cases e:j=i
    · obtain ⟨rfl,rfl⟩:=h2 e
      cases hux:u.dec (x:Int) with
      | none=>rfl
      | some q=>
        rcases ha.newd x (by rw [hux];simp) with j1 | j1 | ⟨j1,j2⟩
        · exact absurd hu0 j1
        · exact absurd (x4 hAm x j1) hv
        · exfalso
          clear x1 x2 x3 x4 hpot hwn hlen hU hwg hpotF hpotG hdb
          rcases hAm with e1 | e1 <;> rcases j2 with e2 | e2 <;> exact absurd (e1.symm.trans e2) (by decide)
    · rw [h1 e];exact hu0
  · obtain ⟨u0,h0,-,h1,h2⟩:=old j u hu
    have hx0:u0.dec (x:Int)=none:=by
      cases hq:u0.dec (x:Int) with
      | none=>rfl
      | some q=>exact absurd hx (mono _ _ _ h0 hu _ (by rw [hq];simp))
    rcases h.i1 x j u0 hv hj h0 hx0 c hc1 hc2 with ⟨m',b1,b2,b3,b4⟩ | ⟨m',b1,b2,b3,b4,b5⟩ | ⟨r,b1,b2⟩
    · rcases hstay m' b1 with e | e
      · subst e
        have ek:k=x:=by have:=hm.slot;omega
        subst ek
        have eic:i=c:=by have:=hg.1;omega
        subst eic
        obtain ⟨⟨m2,c1,c2,c3,c4,c5⟩,-⟩:=x1 b2
        refine .inr (.inl ⟨m2,hino _ c1,c4,c2,c5,?_⟩)
        rw [c3]
        rcases hm.kind with q | q | q | q | q
        · rw [q.2.2.1,hj]
        all_goals omega
      · exact .inl ⟨m',e,b2,b3,b4⟩
    · rcases hstay m' b1 with e | e
      · subst e
        have ek:k=x:=by have:=hm.slot;omega
        subst ek
        have eij:i=j:=by have:=hg.1;omega
        obtain ⟨rfl,rfl⟩:=h2 eij.symm
        subst eij
        rcases x2 b2 with q | ⟨r,q1,q2⟩
        · exact absurd hx q
        · exact .inr (.inr ⟨r,q1,by rw [←b4];exact q2⟩)
      · exact .inr (.inl ⟨m',e,b2,b3,b4,b5⟩)
    · by_cases e:j=i
      · obtain ⟨rfl,rfl⟩:=h2 e
        rcases ha.vt _ r b1 with q | ⟨r',q1,q2⟩
        · exact absurd hx q
        · exact .inr (.inr ⟨r',q1,q2 _ b2⟩)
      · rw [h1 e];exact .inr (.inr ⟨r,b1,b2⟩)
  · obtain ⟨u0,h0,-,h1,h2⟩:=old j u hu
    have hx0:u0.dec (x:Int)=none:=by
      cases hq:u0.dec (x:Int) with
      | none=>rfl
      | some q=>exact absurd hx (mono _ _ _ h0 hu _ (by rw [hq];simp))
    obtain ⟨m',b1,b2,b3,b4⟩:=h.i2 x j u0 hxT hv hj h0 hx0
    rcases hkm with ⟨g1,-⟩ | ⟨g1,-,-⟩
    · rw [g1] at b1
      rcases List.mem_cons.1 b1 with b1 | b1
      · subst b1
        have eij:i=j:=by have:=hg.1;omega
        obtain ⟨rfl,rfl⟩:=h2 eij.symm
        rcases (x1 b2).2 x (by rw [hj,eij]) (by have:=hm.slot;omega) with q | q
        · exact absurd hx q
        · exact absurd hv q
      · exact ⟨m',b1,b2,b3,b4⟩
    · rw [g1] at b1;cases b1
  · obtain ⟨u0,h0,-,h1,h2⟩:=old j u hu
    obtain ⟨v0,g0,-,g1,g2⟩:=old c v hv
    by_cases hx0:u0.dec (x:Int)=none
    · -- newly decided at its site
      have e:j=i:=by
        apply Classical.byContradiction;intro e
        rw [h1 e] at hx;exact hx hx0
      obtain ⟨rfl,rfl⟩:=h2 e
      subst e
      rcases ha.newd x hx with j1 | j1 | ⟨j1,j2⟩
      · exact absurd hx0 j1
      · obtain ⟨m',c1,c2,c3,c4⟩:=ha.cast x j1 c (hlt4 c v hv) hcj
        exact .inr ⟨m',hino _ c1,c4,c2,c3⟩
      · have:k=x:=by have:=hm.slot;omega
        subst this
        exact absurd hx0 (ei hj.symm j2)
    · rcases h.i3 x j u0 c v0 hj h0 hx0 g0 hcj with q | ⟨m',b1,b2,b3,b4⟩
      · exact .inl (mono _ _ _ g0 hv _ q)
      · rcases hstay m' b1 with e | e
        · subst e
          have ek:k=x:=by have:=hm.slot;omega
          subst ek
          have eic:i=c:=by have:=hg.1;omega
          obtain ⟨rfl,rfl⟩:=g2 eic.symm
          exact .inl (x3 b2)
        · exact .inr ⟨m',e,b2,b3,b4⟩
  · rw [hnet] at hx
    rcases List.mem_append.1 hx with hx | hx
    · obtain ⟨v0,g0,-,-,-⟩:=old _ v hv
      exact mono _ _ _ g0 hv _ (h.i5 x (by rw [hn];simp [hx]) hk j hj v0 g0)
    · obtain ⟨y,a1,a2,a3,a4,a5⟩:=ha.outs x hx
      have:y=j:=by have:=a1.slot;omega
      subst this
      exact hi4 i t y hat (a4 hk) v hv
theorem drain (hp:p.Ok):∀(k:Nat) {w:Wd} {A B:List Ms},CW p w A B→wgs w.net + 6 * w.undec p≤k→CW p (Wd.drain k w).1 [] []
  | 0,w,A,B,h,hk=>by
    have hnil:w.net= []:=by have:=wgs_len w.net;exact List.eq_nil_of_length_eq_zero (by omega)
    rw [Wd.drain_nil _ hnil]
    have e:=h.net
    rw [hnil] at e
    obtain ⟨rfl,rfl⟩:=List.append_eq_nil_iff.1 e.symm
    exact h
  | k + 1,w,A,B,h,hk=>by
    cases hn:w.net with
    | nil=>
      rw [Wd.drain_nil _ hn]
      have e:=h.net
      rw [hn] at e
      obtain ⟨rfl,rfl⟩:=List.append_eq_nil_iff.1 e.symm
      exact h
    | cons m l=>
      rw [Wd.drain_cons _ hn]
      obtain ⟨A',B',h1,h2⟩:=h.deal hp hn
      exact drain hp k h1 (by omega)
theorem all (hp:p.Ok) (h:CW p w [] []) {i:Nat} {s:Site} (hs:w.ss[i]? =some s) {x:Nat} (hx:x < p.T):s.dec (x:Int)=some (p.val x):=by
  have hn:w.net= []:=by rw [h.net];rfl
  have h3:=hp.n3
  have hxn:x % p.n < p.n:=Nat.mod_lt _ (by omega)
  have hlt:x % p.n < w.ss.length:=by rw [h.len];exact hxn
  obtain ⟨o,ho⟩:∃o,w.ss[x % p.n]? =some o:=⟨_,List.getElem?_eq_getElem hlt⟩
  have h0:o.dec (x:Int)≠none:=fun hd=>by
    obtain ⟨hc,-,-⟩:=h.site _ o ho
    cases hv:p.V x with
    | none=>
      obtain ⟨m,hm,-⟩:=h.i2 x _ o hx hv rfl ho hd
      cases hm
    | some v=>
      rcases (hc.own x v hv rfl).2 with q | ⟨r,hr⟩
      · exact q hd
      · obtain ⟨-,k,v',f1,f2,f3,f4,f5,f6,f7,f8⟩:=hc.rs _ r hr
        have:Site.most r.vt ⟨0,((x % p.n:Nat):Int)⟩ p.n=true:=most_all (by omega) fun c hc'=>by
          by_cases e:c=x % p.n
          · rw [e];exact f8
          · rcases h.i1 x _ o (by rw [hv];simp) rfl ho hd c hc' e with ⟨m,hm,-⟩ | ⟨m,hm,-⟩ | ⟨r',q1,q2⟩
            · rw [hn] at hm;cases hm
            · rw [hn] at hm;cases hm
            · rw [hr] at q1;injection q1 with q1;subst q1;exact q2
        rw [this] at f7;cases f7
  have h1:s.dec (x:Int)≠none:=by
    by_cases e:i=x % p.n
    · subst e
      rw [hs] at ho;injection ho with ho;subst ho;exact h0
    · rcases h.i3 x _ o i s rfl ho h0 hs e with q | ⟨m,hm,-⟩
      · exact q
      · rw [hn] at hm;cases hm
  obtain ⟨v,hv⟩:=ne_none h1
  obtain ⟨k,e,-,rfl⟩:=(h.site i s hs).1.lv _ v hv
  have:k=x:=by omega
  rw [hv,this]
end CW
end Agio
