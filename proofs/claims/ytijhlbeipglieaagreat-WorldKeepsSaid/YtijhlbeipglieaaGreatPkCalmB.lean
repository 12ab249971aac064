/- Merged: PlainCg, PlainCh, PlainCi, PlainCj, PlainCk, PlainCl, PlainCm. -/
import Derived.Test.YtijhlbeipglieaaGreatPkCalmA
set_option linter.all false
namespace Agio
open Go Go.Proofs.YtijhlbeipglieaaGreat
def updV (V:Nat→Option (List UInt8)) (x:Nat) (v:List UInt8):Nat→Option (List UInt8):=fun k=>if k=x then some v else V k
def sug (i k:Nat) (v:List UInt8):Ms:=⟨1,0,0,(k:Int),0,(i:Int),0,(i:Int),true,v⟩
structure Pre (nn:Nat) (V:Nat→Option (List UInt8)) (q i:Nat) (s:Site):Prop where
  me:s.me=i
  n:s.n=nn
  pat:s.pat=2
  up:s.down=false
  lt:i < nn
  nxq:s.nx≤nn * q
  iff:∀k,k % nn=i→(V k≠none ↔ k < s.nx)
  st0:∀x:Int,(¬ ∃(k:Nat) (v:List UInt8),x=(k:Int)∧V k=some v∧k % nn=i)→s.stat x=Sp.zero
  st1:∀(k:Nat) v,V k=some v→k % nn=i→s.stat (k:Int)=⟨⟨0,(i:Int)⟩,true,⟨0,(i:Int)⟩,v⟩
  lv:s.lv= []
  taken:s.taken=0
  dn:s.dn=0
  rs0:∀e∈s.rs,∃(k:Nat) (v:List UInt8),V k=some v∧k % nn=i∧e=((k:Int),(⟨⟨0,(i:Int)⟩,[],true,v,[],0⟩:Rn))
  rs1:∀(k:Nat) v,V k=some v→k % nn=i→lookG (k:Int) s.rs≠none
  held0:∀m∈s.held,∃(k:Nat) (v:List UInt8),V k=some v∧k % nn=i∧((∃c:Nat,c < nn∧c≠i∧m=(sug i k v).ad i c)∨m=(Site.votes (k:Int) ⟨0,(i:Int)⟩).ad i i)
  held1:∀(k:Nat) v,V k=some v→k % nn=i→(∀c:Nat,c < nn→c≠i→(sug i k v).ad i c∈s.held)∧(Site.votes (k:Int) ⟨0,(i:Int)⟩).ad i i∈s.held
  hlen:s.held.length≤7 * q
  wt:s.wt= [0,0,0,0,0,0,0]
  db:s.db.length≤80 * q
  top:s.top=0∨∃k:Nat,V k≠none∧k % nn=i∧s.top=(k:Int) + 1
  topge:∀(k:Nat) v,V k=some v→k % nn=i→(k:Int) + 1≤s.top
namespace Pre
variable {n q i:Nat} {V:Nat→Option (List UInt8)} {s:Site}
theorem new (n:Nat) {i:Nat} (hi:i < n):Pre n (fun _=>none) 0 i (Site.new i n 2):=
  ⟨rfl,rfl,rfl,rfl,hi,Nat.zero_le _,fun k _=>⟨fun h=>absurd rfl h,fun h=>by simp [Site.new] at h⟩,fun x _=>rfl,fun k v h=>(by cases h),rfl,rfl,rfl,fun e he=>by simp [Site.new] at he,fun k v h=>(by cases h),fun m hm=>by simp [Site.new] at hm,fun k v h=>(by cases h),by simp [Site.new],rfl,by simp [Site.new],.inl rfl,fun k v h=>(by cases h)⟩
theorem other (h:Pre n V q i s) {x:Nat} {v:List UInt8} (hx:x % n≠i):Pre n (updV V x v) (q + 1) i s:=by
  have e:∀k,k % n=i→updV V x v k=V k:=fun k hk=>by
    unfold updV;rw [if_neg];rintro rfl;exact hx hk
  refine ⟨h.me,h.n,h.pat,h.up,h.lt,by have:=h.nxq;rw [Nat.mul_add];omega,fun k hk=>by rw [e k hk];exact h.iff k hk,fun y hy=>h.st0 y fun ⟨k,u,h1,h2,h3⟩=>hy ⟨k,u,h1,by rw [e k h3];exact h2,h3⟩,fun k u hu hk=>h.st1 k u (by rw [←e k hk];exact hu) hk,h.lv,h.taken,h.dn,
    fun y hy=>?_,fun k u hu hk=>h.rs1 k u (by rw [←e k hk];exact hu) hk,fun m hm=>?_,fun k u hu hk=>h.held1 k u (by rw [←e k hk];exact hu) hk,by have:=h.hlen;omega,h.wt,by have:=h.db;omega,?_,fun k u hu hk=>h.topge k u (by rw [←e k hk];exact hu) hk⟩
  · obtain ⟨k,u,h1,h2,h3⟩:=h.rs0 y hy
    exact ⟨k,u,by rw [e k h2];exact h1,h2,h3⟩
  · obtain ⟨k,u,h1,h2,h3⟩:=h.held0 m hm
    exact ⟨k,u,by rw [e k h2];exact h1,h2,h3⟩
  · rcases h.top with h1 | ⟨k,h1,h2,h3⟩
    · exact .inl h1
    · exact .inr ⟨k,by rw [e k h2];exact h1,h2,h3⟩
theorem asks_sug (i k:Nat) (v:List UInt8) (pr:List Pm) (vt:List (Int × Bl)) (a:Nat):Site.asks ⟨⟨0,(i:Int)⟩,pr,true,v,vt,a⟩ (k:Int)=sug i k v:=by
  unfold Site.asks sug;simp
theorem submit (h3:3≤n) (h7:n≤7) (h:Pre n V q i s) (hq:q≤5) {v:List UInt8} (hv:v.length=2) :
    ∃x:Nat,(s.submit v).2=((x:Int),0)∧x % n=i∧V x=none∧x < n * (q + 1)∧Pre n (updV V x v) (q + 1) i (s.submit v).1:=by
  have hlt:=h.lt;have hnq:=h.nxq;have hme:=h.me;have hsn:=h.n
  have hnq5:n * q≤7 * 5:=Nat.mul_le_mul h7 hq
  have hnq1:n * (q + 1)=n * q + n:=Nat.mul_succ _ _
  have hz:(i + n * q) % n=i:=by rw [Nat.add_mul_mod_self_left,Nat.mod_eq_of_lt hlt]
  obtain ⟨y,e,hy1,hy2,hy3,hy4⟩:∃y:Nat,nextI s.me s.nx s.n=y∧s.nx≤y∧y < 4096∧y % s.n=s.me∧∀z,s.nx≤z→z < y→z % s.n≠s.me:=by
    rcases nextI_nat (me:=s.me) (n:=s.n) (f:=s.nx) (by omega) (by omega) (by omega) with ⟨-,hn⟩ | hn
    · exact absurd (by rw [hsn,hme];exact hz) (hn (i + n * q) (by omega) (by omega))
    · exact hn
  rw [hsn,hme] at hy3 hy4
  have hyq:y≤i + n * q:=by
    apply Classical.byContradiction;intro hc
    exact hy4 (i + n * q) (by omega) (by omega) hz
  have hVy:V y=none:=by
    cases hc:V y with
    | none=>rfl
    | some w=>have:=(h.iff y hy3).1 (by rw [hc];simp);omega
  have hst:s.stat (y:Int)=Sp.zero:=h.st0 _ fun ⟨k,w,e1,e2,e3⟩=>by
    have:k=y:=by omega
    subst this
    rw [hVy] at e2;cases e2
  have hdec:∀x,s.dec x=none:=fun x=>by unfold Site.dec;rw [h.lv];rfl
  have hfr:s.fresh (y:Int)=true:=Site.fresh_iff.2 ⟨hdec _,by rw [hst];decide⟩
  have hfree:s.free 4096 (y:Int)=y:=by
    unfold Site.free
    rw [if_neg]
    rintro ⟨-,h2⟩
    rw [hfr] at h2;cases h2
  have hB:s.ownB=⟨0,(i:Int)⟩:=by unfold Site.ownB;rw [hme]
  obtain ⟨ha,hl⟩:=Site.accept_ok (s:=s) (x:=(y:Int)) (b:=⟨0,(i:Int)⟩) (v:=v) (by omega) (Bl.may7.2 (by simp;omega)) (by omega) (by have:=h.db;omega) (by rw [hst];exact cmpB_own _)
  have hsub:s.submit v=((({({s with db:=s.db ++ layB [⟨2,(y:Int),(⟨0,(i:Int)⟩:Bl).r,(⟨0,(i:Int)⟩:Bl).s,v⟩]} :Site).turn (y:Int) ⟨⟨0,(i:Int)⟩,true,⟨0,(i:Int)⟩,v⟩ with nx:=y + 1,rs:=putG (y:Int) (⟨⟨0,(i:Int)⟩,[],true,v,[],0⟩:Rn) s.rs} :Site).others (sug i y v) n).send i (Site.votes (y:Int) ⟨0,(i:Int)⟩),(y:Int),0):=by
    unfold Site.submit
    rw [if_neg (by rw [h.up];simp),if_neg (by omega)]
    dsimp only
    rw [e,hfree,if_neg (by omega),hB,ha]
    dsimp only
    rw [asks_sug]
    have e1:((y:Int) + 1).toNat=y + 1:=by omega
    rw [e1]
    show (((({({s with db:=_} :Site).turn (y:Int) _ with nx:=y + 1,rs:=_} :Site).others (sug i y v) s.n).send (s.me:Int) _),_,_)=_
    rw [hsn,hme]
    rfl
  rw [hsub]
  refine ⟨y,rfl,hy3,hVy,by omega,?_⟩
  rw [Site.others_eq,Site.send_eq]
  have htl:∀(u:Site) m,u.me=i→u.tell m n=s.tell m n:=fun u m hu=>by unfold Site.tell;rw [hu,hme]
  have hup:updV V y v y=some v:=if_pos rfl
  have hun:∀k,k≠y→updV V y v k=V k:=fun k hk=>if_neg hk
  refine ⟨hme,hsn,h.pat,h.up,hlt,by show y + 1≤n * (q + 1);omega,fun k hk=>?_,fun x hx=>?_,fun k u hu hk=>?_,h.lv,h.taken,h.dn,fun r hr=>?_,fun k u hu hk=>?_,fun m hm=>?_,fun k u hu hk=>?_,?_,h.wt,?_,?_,fun k u hu hk=>?_⟩
  · show updV V y v k≠none ↔ k < y + 1
    by_cases ek:k=y
    · subst ek
      rw [hup]
      exact ⟨fun _=>by omega,fun _=>by simp⟩
    · rw [hun k ek,h.iff k hk]
      constructor
      · intro h1;omega
      · intro h1
        apply Classical.byContradiction;intro h2
        exact hy4 k (by omega) (by omega) hk
  · show (({s with db:=_} :Site).turn (y:Int) _).stat x=_
    rw [Site.look_turn,if_neg]
    · exact h.st0 x fun ⟨k,u,h1,h2,h4⟩=>hx ⟨k,u,h1,(by
        rw [hun k]
        · exact h2
        · rintro rfl;rw [hVy] at h2;cases h2),h4⟩
    · rintro rfl;exact hx ⟨y,v,rfl,hup,hy3⟩
  · show (({s with db:=_} :Site).turn (y:Int) _).stat (k:Int)=_
    rw [Site.look_turn]
    by_cases ek:k=y
    · subst ek
      rw [hup] at hu;injection hu with hu;subst hu
      rw [if_pos rfl]
    · rw [if_neg (by omega)]
      exact h.st1 k u (by rw [←hun k ek];exact hu) hk
  · rcases mem_putG.1 hr with rfl | ⟨hr,-⟩
    · exact ⟨y,v,hup,hy3,rfl⟩
    · obtain ⟨k,u,h1,h2,h4⟩:=h.rs0 r hr
      exact ⟨k,u,by rw [hun k (by rintro rfl;rw [hVy] at h1;cases h1)];exact h1,h2,h4⟩
  · show lookG (k:Int) (putG _ _ _)≠none
    rw [lookG_put]
    split
    · simp
    · rename_i ek
      exact h.rs1 k u (by rw [←hun k (by omega)];exact hu) hk
  · rcases List.mem_append.1 hm with hm | hm
    · rcases List.mem_append.1 hm with hm | hm
      · obtain ⟨k,u,h1,h2,h4⟩:=h.held0 m hm
        exact ⟨k,u,by rw [hun k (by rintro rfl;rw [hVy] at h1;cases h1)];exact h1,h2,h4⟩
      · obtain ⟨c,h1,h2,rfl⟩:=Site.mem_tell.1 hm
        refine ⟨y,v,hup,hy3,.inl ⟨c,h1,by rw [←hme];exact h2,?_⟩⟩
        show (sug i y v).ad (s.me:Int) c=_
        rw [hme]
    · rw [List.mem_singleton] at hm
      subst hm
      refine ⟨y,v,hup,hy3,.inr ?_⟩
      show (Site.votes (y:Int) _).ad (s.me:Int) i=_
      rw [hme]
  · by_cases ek:k=y
    · subst ek
      rw [hup] at hu;injection hu with hu;subst hu
      refine ⟨fun c hc hci=>List.mem_append_left _ (List.mem_append_right _ (Site.mem_tell.2 ⟨c,hc,?_,?_⟩)),List.mem_append_right _ ?_⟩
      · show c≠s.me
        rw [hme];exact hci
      · show _=(sug i k v).ad (s.me:Int) c
        rw [hme]
      · rw [List.mem_singleton]
        show _=(Site.votes (k:Int) _).ad (s.me:Int) i
        rw [hme]
    · obtain ⟨h1,h2⟩:=h.held1 k u (by rw [←hun k ek];exact hu) hk
      exact ⟨fun c hc hci=>List.mem_append_left _ (List.mem_append_left _ (h1 c hc hci)),List.mem_append_left _ (List.mem_append_left _ h2)⟩
  · have h6:=Site.tell_six (s:=s) (m:=sug i y v) (n:=n) (by omega) h7
    have:=h.hlen
    refine Nat.le_trans (Nat.le_of_eq (?_:_=(s.held ++ s.tell (sug i y v) n ++ [(Site.votes (y:Int) ⟨0,(i:Int)⟩).ad i i]).length)) ?_
    · show (s.held ++ Site.tell _ (sug i y v) n ++ [_]).length=_
      simp only [List.length_append,List.length_singleton]
      have e2:=congrArg List.length (htl (({({s with db:=s.db ++ layB [⟨2,(y:Int),(⟨0,(i:Int)⟩:Bl).r,(⟨0,(i:Int)⟩:Bl).s,v⟩]} :Site).turn (y:Int) ⟨⟨0,(i:Int)⟩,true,⟨0,(i:Int)⟩,v⟩ with nx:=y + 1,rs:=putG (y:Int) (⟨⟨0,(i:Int)⟩,[],true,v,[],0⟩:Rn) s.rs} :Site)) (sug i y v) hme)
      rw [e2]
    · simp only [List.length_append,List.length_singleton]
      omega
  · have:=h.db
    show (s.db ++ layB _).length≤_
    rw [List.length_append];omega
  · refine .inr ?_
    show ∃k:Nat,updV V y v k≠none∧k % n=i∧max s.top ((y:Int) + 1)=(k:Int) + 1
    refine ⟨y,by rw [hup];simp,hy3,?_⟩
    rcases h.top with h1 | ⟨k,h1,h2,h4⟩
    · rw [h1];omega
    · have:=(h.iff k h2).1 h1;omega
  · show (k:Int) + 1≤max s.top ((y:Int) + 1)
    by_cases ek:k=y
    · omega
    · have:=h.topge k u (by rw [←hun k ek];exact hu) hk;omega
end Pre
namespace Site
theorem fold_others:∀(l:List (Int × Rn)) (u:Site),l.foldl (fun u p=>u.others (asks p.2 p.1) u.n) u= {u with held:=u.held ++ l.flatMap fun p=>u.tell (asks p.2 p.1) u.n}
  | [],u=>by simp
  | p :: l,u=>by
    rw [List.foldl_cons,fold_others l,others_eq]
    have e:∀m,({u with held:=u.held ++ u.tell (asks p.2 p.1) u.n} :Site).tell m u.n=u.tell m u.n:=fun m=>rfl
    simp only [e,List.flatMap_cons,List.append_assoc]
theorem most_own {vt:List (Int × Bl)} {me:Int} {b:Bl} {n:Nat} (h3:3≤n) (h:∀z∈vt,z=(me,b)):most vt b n=false:=by
  unfold most mostI
  rw [if_neg (by omega)]
  refine decide_eq_false ?_
  have hl:((voters ((vt.filter fun v=>decide (v.2=b)).map Prod.fst) (n:Int)).map Prod.fst).length≤[me].length:=nodup_le (voters_nodup _ _) fun x hx=>by
    obtain ⟨z,hz,rfl⟩:=List.mem_map.1 (voters_mem hx).1
    rw [h z (List.mem_filter.1 hz).1];simp
  rw [List.length_map,List.length_singleton] at hl
  unfold majorI
  rw [if_neg (by omega)]
  omega
theorem votes_fold {me n:Nat} (h3:3≤n):∀(l:List Ms) (u:Site),u.me=me→u.n=n→(∀m∈l,∃k:Nat,m=(votes (k:Int) ⟨0,(me:Int)⟩).ad me me)→
    (∀x r,lookG x u.rs=some r→r.bal=⟨0,(me:Int)⟩∧r.so=true∧∀z∈r.vt,z=((me:Int),(⟨0,(me:Int)⟩:Bl)))→
    ∃R,l.foldl take u= {u with rs:=R}∧(∀x,lookG x u.rs=none→lookG x R=none)∧∀x r,lookG x u.rs=some r→∃vt,lookG x R=some {r with vt:=vt}∧(∀z∈vt,z=((me:Int),(⟨0,(me:Int)⟩:Bl)))∧(∀z∈r.vt,z∈vt)∧
      ((votes x ⟨0,(me:Int)⟩).ad me me∈l→((me:Int),(⟨0,(me:Int)⟩:Bl))∈vt)
  | [],u,_,_,_,hr=>⟨u.rs,rfl,fun _ h=>h,fun x r h=>⟨r.vt,h,(hr x r h).2.2,fun z hz=>hz,fun h=>by cases h⟩⟩
  | m :: l,u,hme,hn,hl,hr=>by
    obtain ⟨k,rfl⟩:=hl m (by simp)
    have e:u.take ((votes (k:Int) ⟨0,(me:Int)⟩).ad me me)=u.accepted ((votes (k:Int) ⟨0,(me:Int)⟩).ad me me):=by
      unfold take does;simp [Ms.ad,votes]
    rw [List.foldl_cons,e]
    unfold accepted
    show ∃R,l.foldl take (match lookG (k:Int) u.rs with | none=>u | some r=>_)=_∧_
    cases hk:lookG (k:Int) u.rs with
    | none=>
      obtain ⟨R,h1,h2,h4⟩:=votes_fold h3 l u hme hn (fun m hm=>hl m (by simp [hm])) hr
      refine ⟨R,h1,h2,fun x r hx=>?_⟩
      obtain ⟨vt,k1,k2,k3,k4⟩:=h4 x r hx
      refine ⟨vt,k1,k2,k3,fun hm=>?_⟩
      rcases List.mem_cons.1 hm with hm | hm
      · have:x=(k:Int):=by have:=congrArg Ms.slot hm;exact this
        subst this
        rw [hk] at hx;cases hx
      · exact k4 hm
    | some r=>
      obtain ⟨q1,q2,q3⟩:=hr _ r hk
      have hvt:∀z∈r.vt ++ [((me:Int),(⟨0,(me:Int)⟩:Bl))],z=((me:Int),(⟨0,(me:Int)⟩:Bl)):=fun z hz=>by
        rcases List.mem_append.1 hz with hz | hz
        · exact q3 z hz
        · simpa using hz
      have hM:most (r.vt ++ [((me:Int),(⟨0,(me:Int)⟩:Bl))]) r.bal u.n=false:=by rw [q1,hn];exact most_own h3 hvt
      show ∃R,l.foldl take (if r.bal=⟨0,(me:Int)⟩∧r.so=true then (if most (r.vt ++ [((me:Int),(⟨0,(me:Int)⟩:Bl))]) r.bal u.n then _ else ({u with rs:=putG (k:Int) {r with vt:=r.vt ++ [((me:Int),(⟨0,(me:Int)⟩:Bl))]} u.rs} :Site)) else u)=_∧_
      rw [if_pos ⟨q1,q2⟩,hM,if_neg (by simp)]
      obtain ⟨R,h1,h2,h4⟩:=votes_fold h3 l {u with rs:=putG (k:Int) {r with vt:=r.vt ++ [((me:Int),(⟨0,(me:Int)⟩:Bl))]} u.rs} hme hn (fun m hm=>hl m (by simp [hm])) (fun x r' hx=>by
        dsimp only at hx
        rw [lookG_put] at hx
        split at hx
        · injection hx with hx;subst hx;exact ⟨q1,q2,hvt⟩
        · exact hr x r' hx)
      refine ⟨R,h1,fun x hx=>h2 x ?_,fun x r' hx=>?_⟩
      · dsimp only
        rw [lookG_put,if_neg]
        · exact hx
        · rintro rfl;rw [hk] at hx;cases hx
      · by_cases c:(k:Int)=x
        · subst c
          rw [hk] at hx;injection hx with hx;subst hx
          obtain ⟨vt,k1,k2,k3,-⟩:=h4 (k:Int) {r with vt:=r.vt ++ [((me:Int),(⟨0,(me:Int)⟩:Bl))]} (by dsimp only;rw [lookG_put,if_pos rfl])
          exact ⟨vt,k1,k2,fun z hz=>k3 z (List.mem_append_left _ hz),fun _=>k3 _ (by simp)⟩
        · obtain ⟨vt,k1,k2,k3,k4⟩:=h4 x r' (by dsimp only;rw [lookG_put,if_neg c];exact hx)
          refine ⟨vt,k1,k2,k3,fun hm=>?_⟩
          rcases List.mem_cons.1 hm with hm | hm
          · exact absurd (congrArg Ms.slot hm).symm c
          · exact k4 hm
end Site
end Agio
namespace Agio
open Go Go.Proofs.YtijhlbeipglieaaGreat
namespace Pre
variable {p:Plan} {q i:Nat} {s:Site}
theorem sug_out (hp:p.Ok) (hi:i < p.n) {k:Nat} {v:List UInt8} (hv:p.V k=some v) (hk:k % p.n=i) {c:Nat} (hc:c < p.n):CalmM p ((sug i k v).ad i c) k:=by
  have h7:=hp.n7;obtain ⟨hT,h2⟩:=hp.V k v hv;have h4:=hp.lt4 hT
  have hf:(sug i k v).Fit:=⟨by simp [sug],by simp,by simp,by simp [sug];omega,by simp [sug],by simp [sug];omega,by simp [sug],by simp [sug];omega,by simp [sug];omega,by simp [sug]⟩
  refine ⟨hf.may (a:=(i:Int)) (b:=(c:Int)) (by omega) (by omega),rfl,.inl ⟨rfl,rfl,?_,rfl,?_,hv⟩⟩
  · show (i:Int)=_
    rw [hk]
  · show (i:Int)=_
    rw [hk]
theorem ask_out (hp:p.Ok) (hi:i < p.n) {b:Bool} (hb:b=true→0 < p.T) {c:Nat} (hc:c < p.n):CalmM p ((Site.ask_ 0 b).ad i c) 0:=by
  have h7:=hp.n7
  have hf:(Site.ask_ 0 b).Fit:=⟨by simp [Site.ask_],by simp,by simp,by simp [Site.ask_],by simp [Site.ask_],by simp [Site.ask_],by simp [Site.ask_],by simp [Site.ask_],by simp [Site.ask_],by simp [Site.ask_]⟩
  exact ⟨hf.may (a:=(i:Int)) (b:=(c:Int)) (by omega) (by omega),rfl,.inr (.inr (.inr (.inr ⟨rfl,hb⟩)))⟩
theorem wgs_le17 (l:List Ms) (a:Nat) (h:∀m∈l,m.wg≤a):wgs l≤a * l.length:=by
  induction l with
  | nil=>simp [wgs]
  | cons m l ih=>
    have h1:=h m (by simp)
    have h2:=ih fun x hx=>h x (by simp [hx])
    have h3:wgs (m :: l)=m.wg + wgs l:=by simp [wgs]
    rw [h3,List.length_cons,Nat.mul_succ];omega
theorem suspects0 {w:List Int} {me:Nat} (hw:w= [0,0,0,0,0,0,0]) (n:Nat) (j:Nat):(tickG me w n).getD j 0≤1:=by
  have key:∀n,∀j,(tickG me w n).getD j 0≤1:=by
    intro n
    induction n with
    | zero=>
      intro j
      subst hw
      show ([0,0,0,0,0,0,0]:List Int).getD j 0≤1
      rcases j with _ | _ | _ | _ | _ | _ | _ | j <;> simp
    | succ n ih=>
      intro j
      unfold tickG
      split
      · have h0:w.getD n 0≤0:=by
          subst hw
          rcases n with _ | _ | _ | _ | _ | _ | _ | n <;> simp
        rw [List.getD_eq_getElem?_getD,List.getElem?_set]
        split
        · split
          · show w.getD n 0 + 1≤1
            omega
          · show (0:Int)≤1
            omega
        · rw [←List.getD_eq_getElem?_getD];exact ih j
      · exact ih j
  exact key n j
theorem tick (hp:p.Ok) (h:Pre p.n p.V q i s) (hq:q≤6) :
    ∃t out,s.tick.sync=(t,out)∧Calm p i t∧(t.held= []∧t.dn=t.db.length)∧t.lv= []∧t.db.length≤80 * q∧wgs out≤300∧(∀m∈out,∃k c:Nat,CalmM p m k∧m.goes p.n c∧c < p.n∧(m.kind=1∨m.kind=8))∧
      ∀(k:Nat) v,p.V k=some v→k % p.n=i→∀c:Nat,c < p.n→c≠i→∃m∈out,m.kind=1∧m.slot=k∧m.to=c:=by
  have h3:=hp.n3;have h7:=hp.n7;have hlt:=h.lt;have hme:=h.me;have hn:=h.n;have hT:=hp.T
  have hnx:s.nx≤42:=Nat.le_trans h.nxq (Nat.mul_le_mul h7 hq)
  -- the site's own messages,and those of the tick
  obtain ⟨w1,hw1⟩:∃w1,w1=tickG s.me s.wt s.n:=⟨_,rfl⟩
  obtain ⟨R1,hR1⟩:∃R1,R1=mapG (fun r:Rn=>{r with age:=r.age + 1}) s.rs:=⟨_,rfl⟩
  obtain ⟨H1,hH1⟩:∃H1,H1=(s.rs.take 8).flatMap fun e=>s.tell (Site.asks e.2 e.1) p.n:=⟨_,rfl⟩
  have ht1:s.tick1= {s with wt:=w1,rs:=R1,held:=s.held ++ H1}:=by
    unfold Site.tick1 Site.again
    rw [Site.fold_others]
    subst hw1 hR1 hH1
    rw [hn]
    rfl
  have hlook:∀(k:Nat) v,p.V k=some v→k % p.n=i→lookG (k:Int) R1=some ⟨⟨0,(i:Int)⟩,[],true,v,[],1⟩:=fun k v hv hk=>by
    rw [hR1,lookG_map]
    obtain ⟨r,hr⟩:=ne_none (h.rs1 k v hv hk)
    obtain ⟨k',v',e1,e2,e3⟩:=h.rs0 _ (lookG_some hr)
    injection e3 with e3 e4
    have:k=k':=by omega
    subst this
    rw [hv] at e1;injection e1 with e1;subst e1
    rw [hr,e4];rfl
  have hlook0:∀x r,lookG x R1=some r→∃(k:Nat) (v:List UInt8),x=k∧p.V k=some v∧k % p.n=i∧r=⟨⟨0,(i:Int)⟩,[],true,v,[],1⟩:=fun x r hr=>by
    rw [hR1,lookG_map] at hr
    obtain ⟨r0,h0,rfl⟩:=Option.map_eq_some_iff.1 hr
    obtain ⟨k',v',e1,e2,e3⟩:=h.rs0 _ (lookG_some h0)
    injection e3 with e3 e4
    subst e4
    exact ⟨k',v',e3,e1,e2,rfl⟩
  have hdec:∀x,s.dec x=none:=fun x=>by unfold Site.dec;rw [h.lv];rfl
  have htop:0≤s.top∧s.top≤s.nx∧s.top≤p.T:=by
    rcases h.top with h1 | ⟨k,h1,h2,h4⟩
    · rw [h1];omega
    · obtain ⟨v,hv⟩:=ne_none h1
      have:=(h.iff k h2).1 h1;have:=(hp.V k v hv).1;omega
  have htA:s.tick1.topA=s.top:=by
    unfold Site.topA
    rw [ht1]
    dsimp only
    rw [h.lv]
    show max s.top 0=_
    omega
  have ht3:s.tick3=s.tick1:=by
    unfold Site.tick3 Site.skip
    rw [htA]
    refine Site.skipF_stop _ _ _ _ (.inr ?_)
    rw [ht1]
    dsimp only
    rcases nextI_nat (me:=s.me) (n:=s.n) (f:=s.nx) (by omega) (by omega) (by omega) with ⟨e,-⟩ | ⟨y,e,e1,-⟩
    · left;rw [e];omega
    · right;rw [e];omega
  have hfront:s.tick3.front=0:=by
    rw [ht3,ht1]
    unfold Site.front
    dsimp only
    rw [h.lv,h.taken]
    rfl
  have hsus:s.tick3.suspects= []:=by
    rw [ht3,ht1]
    unfold Site.suspects
    rw [List.map_eq_nil_iff,List.filter_eq_nil_iff]
    intro j _
    have:=suspects0 (me:=s.me) h.wt s.n j
    dsimp only
    rw [hw1,h.pat,decide_eq_true_eq]
    omega
  have hlate:s.tick3.late s.tick3.topA= []:=by
    unfold Site.late
    rw [List.take_eq_nil_iff]
    right
    rw [List.filter_eq_nil_iff]
    intro x hx
    obtain ⟨j,-,rfl⟩:=List.mem_map.1 hx
    unfold Site.due
    rw [hsus]
    have hd:s.tick3.dec (j:Int)=none:=by rw [ht3,ht1];exact hdec _
    rw [hd]
    simp only [Option.isNone_none,Bool.true_and,List.contains_nil,Bool.and_false,Bool.or_false]
    intro hc
    simp only [Bool.and_eq_true,Bool.not_eq_true',beq_iff_eq] at hc
    obtain ⟨hc1,hc2,hc3⟩:=hc
    have hfr:s.tick3.fresh (j:Int)=s.fresh (j:Int):=by rw [ht3,ht1];rfl
    have hrs:s.tick3.rs=R1:=by rw [ht3,ht1]
    have hpat:s.tick3.pat=2:=by rw [ht3,ht1];exact h.pat
    rw [hfr] at hc3
    by_cases hex:∃(k:Nat) (v:List UInt8),(j:Int)=(k:Int)∧p.V k=some v∧k % p.n=i
    · obtain ⟨k,v,e1,e2,e3⟩:=hex
      rw [hrs,e1,hlook k v e2 e3,hpat] at hc1
      simp at hc1
    · rw [Site.fresh_iff.2 ⟨hdec _,by rw [h.st0 _ hex];decide⟩] at hc3
      cases hc3
  have ht4:s.tick4=s.tick1:=by
    unfold Site.tick4
    rw [hlate]
    exact ht3
  obtain ⟨b,hb⟩:∃b:Bool,b=decide ((0:Int) < s.top):=⟨_,rfl⟩
  have hbT:b=true→0 < p.T:=fun e=>by subst hb;have:=of_decide_eq_true e;omega
  obtain ⟨H2,hH2⟩:∃H2,H2=s.tell (Site.ask_ 0 b) p.n:=⟨_,rfl⟩
  have htick:s.tick= {s with wt:=w1,rs:=R1,held:=s.held ++ H1 ++ H2}:=by
    rw [Site.tick_eq _ h.up]
    have e1:s.tick4.front=0:=by rw [ht4,←ht3];exact hfront
    have e2:s.tick3.topA=s.top:=by rw [ht3];exact htA
    rw [e1,e2,if_pos (by omega),Site.others_eq,ht4,ht1]
    subst hb hH2
    rw [hn]
    rfl
  -- what goes to others
  have hH1m:∀m∈H1,∃(k:Nat) (v:List UInt8) (c:Nat),p.V k=some v∧k % p.n=i∧c < p.n∧c≠i∧m=(sug i k v).ad i c:=fun m hm=>by
    rw [hH1] at hm
    obtain ⟨e,he,hm⟩:=List.mem_flatMap.1 hm
    obtain ⟨k,v,e1,e2,rfl⟩:=h.rs0 e (List.mem_of_mem_take he)
    obtain ⟨c,c1,c2,rfl⟩:=Site.mem_tell.1 hm
    exact ⟨k,v,c,e1,e2,c1,by rw [←hme];exact c2,by dsimp only;rw [asks_sug,hme]⟩
  have hH2m:∀m∈H2,∃c:Nat,c < p.n∧c≠i∧m=(Site.ask_ 0 b).ad i c:=fun m hm=>by
    rw [hH2] at hm
    obtain ⟨c,c1,c2,rfl⟩:=Site.mem_tell.1 hm
    exact ⟨c,c1,by rw [←hme];exact c2,by rw [hme]⟩
  have hall:∀m∈s.held ++ H1 ++ H2,m.to≠(i:Int)→∃k c:Nat,CalmM p m k∧m.goes p.n c∧c < p.n∧(m.kind=1∨m.kind=8):=fun m hm hto=>by
    rcases List.mem_append.1 hm with hm | hm
    · have key:(∃(k:Nat) (v:List UInt8) (c:Nat),p.V k=some v∧k % p.n=i∧c < p.n∧c≠i∧m=(sug i k v).ad i c):=by
        rcases List.mem_append.1 hm with hm | hm
        · obtain ⟨k,v,e1,e2,⟨c,c1,c2,rfl⟩ | rfl⟩:=h.held0 m hm
          · exact ⟨k,v,c,e1,e2,c1,c2,rfl⟩
          · exact absurd rfl hto
        · exact hH1m m hm
      obtain ⟨k,v,c,e1,e2,c1,c2,rfl⟩:=key
      exact ⟨k,c,sug_out hp hlt e1 e2 c1,⟨rfl,i,hlt,fun e=>c2 e.symm,rfl⟩,c1,.inl rfl⟩
    · obtain ⟨c,c1,c2,rfl⟩:=hH2m m hm
      exact ⟨0,c,ask_out hp hlt hbT c1,⟨rfl,i,hlt,fun e=>c2 e.symm,rfl⟩,c1,.inr rfl⟩
  have hown:∀m∈(s.held ++ H1 ++ H2).filter fun m=>decide (m.to=(i:Int)),∃k:Nat,m=(Site.votes (k:Int) ⟨0,(i:Int)⟩).ad i i:=fun m hm=>by
    obtain ⟨hm,ht⟩:=List.mem_filter.1 hm
    have ht:=of_decide_eq_true ht
    rcases List.mem_append.1 hm with hm | hm
    · rcases List.mem_append.1 hm with hm | hm
      · obtain ⟨k,v,e1,e2,⟨c,c1,c2,rfl⟩ | rfl⟩:=h.held0 m hm
        · exact absurd (by
                           have:(c:Int)=i:=ht
                           omega) c2
        · exact ⟨k,rfl⟩
      · obtain ⟨k,v,c,e1,e2,c1,c2,rfl⟩:=hH1m m hm
        exact absurd (by
                         have:(c:Int)=i:=ht
                         omega) c2
    · obtain ⟨c,c1,c2,rfl⟩:=hH2m m hm
      exact absurd (by
                       have:(c:Int)=i:=ht
                       omega) c2
  have hsync:s.tick.sync=(((s.held ++ H1 ++ H2).filter fun m=>decide (m.to=(i:Int))).foldl Site.take {s with wt:=w1,rs:=R1,held:=[],dn:=s.db.length},(s.held ++ H1 ++ H2).filter fun m=>decide (m.to≠(i:Int))):=by
    rw [htick]
    unfold Site.sync
    rw [if_neg (by show ¬ s.down=true;rw [h.up];simp)]
    dsimp only
    rw [hme]
  obtain ⟨R,f1,f2,f3⟩:=Site.votes_fold (me:=i) (n:=p.n) h3 ((s.held ++ H1 ++ H2).filter fun m=>decide (m.to=(i:Int))) {s with wt:=w1,rs:=R1,held:=[],dn:=s.db.length} hme hn hown (fun x r hr=>by
    obtain ⟨k,v,e1,e2,e3,rfl⟩:=hlook0 x r hr
    exact ⟨rfl,rfl,fun z hz=>by cases hz⟩)
  rw [f1] at hsync
  refine ⟨_,_,hsync,?_,⟨rfl,rfl⟩,h.lv,h.db,?_,fun m hm=>?_,fun k v hv hk c hc hci=>?_⟩
  · have hwl:w1.length=7:=by rw [hw1,tickG_len,h.wt];rfl
    have hfz:∀k:Nat,p.V k=none→k % p.n=i→s.fresh (k:Int)=true:=fun k hv hk=>Site.fresh_iff.2 ⟨hdec _,by
      rw [h.st0 _ fun ⟨k',v,e1,e2,_⟩=>by
        have:k=k':=by omega
        subst this
        rw [hv] at e2;cases e2]
      decide⟩
    refine ⟨hme,hn,hlt,h.up,by show s.nx≤4096;omega,hwl,fun x v hv=>?_,fun x w hx=>?_,fun x r hr=>?_,fun k v hv hk=>⟨h.st1 k v hv hk,.inr ?_⟩,fun k hk hv ho=>.inr (hfz k hv ho),fun k ho hk=>?_,htop.2.2,fun x hx=>h.st0 x fun ⟨k',v,e1,e2,_⟩=>by have:=(hp.V k' v e2).1;omega⟩
    · by_cases ho:x % p.n=i
      · right
        have:=h.st1 x v hv ho
        rw [ho];exact this
      · left
        exact h.st0 _ fun ⟨k',v,e1,e2,e3⟩=>by
          have:x=k':=by omega
          subst this
          exact ho e3
    · have:s.dec x=some w:=hx
      rw [hdec] at this;cases this
    · have hr':lookG x R=some r:=hr
      refine ⟨hdec x,?_⟩
      cases h0:lookG x R1 with
      | none=>rw [f2 x h0] at hr';cases hr'
      | some r0=>
        obtain ⟨k,v,e1,e2,e3,e4⟩:=hlook0 x r0 h0
        obtain ⟨vt,g1,g2,-,g4⟩:=f3 x r0 h0
        rw [hr'] at g1
        injection g1 with g1
        subst g1 e4 e1
        refine ⟨k,v,rfl,e2,e3,rfl,rfl,rfl,Site.most_own h3 g2,g4 ?_⟩
        refine List.mem_filter.2 ⟨List.mem_append_left _ (List.mem_append_left _ (h.held1 k v e2 e3).2),?_⟩
        simp [Ms.ad]
    · obtain ⟨vt,g1,-⟩:=f3 _ _ (hlook k v hv hk)
      exact ⟨_,g1⟩
    · have h1:=(h.iff k ho).2 hk
      obtain ⟨v,hv⟩:=ne_none h1
      show s.fresh (k:Int)=false
      cases hf:s.fresh (k:Int) with
      | false=>rfl
      | true=>
        have:=Site.same_zero (Site.fresh_iff.1 hf).2
        rw [h.st1 k v hv ho] at this
        simp [Sp.zero] at this
  · -- how much is told
    have e0:(s.held ++ H1 ++ H2).filter (fun m=>decide (m.to≠(i:Int)))=(s.held.filter fun m=>decide (m.to≠(i:Int))) ++ (H1.filter fun m=>decide (m.to≠(i:Int))) ++ (H2.filter fun m=>decide (m.to≠(i:Int))):=by
      rw [List.filter_append,List.filter_append]
    rw [e0,wgs_append,wgs_append]
    have hw2:∀m:Ms,m.kind≠8→m.wg≤2:=fun m hm=>by unfold Ms.wg;rw [if_neg hm];split <;> omega
    have a1:=wgs_le17 (s.held.filter fun m=>decide (m.to≠(i:Int))) 2 fun m hm=>hw2 m (by
      obtain ⟨k,v,e1,e2,⟨c,c1,c2,rfl⟩ | rfl⟩:=h.held0 m (List.mem_filter.1 hm).1 <;> simp [Ms.ad,sug,Site.votes])
    have a2:=wgs_le17 (H1.filter fun m=>decide (m.to≠(i:Int))) 2 fun m hm=>hw2 m (by
      obtain ⟨k,v,c,-,-,-,-,rfl⟩:=hH1m m (List.mem_filter.1 hm).1
      simp [Ms.ad,sug])
    have a3:=wgs_le17 (H2.filter fun m=>decide (m.to≠(i:Int))) 17 fun m hm=>by unfold Ms.wg;split <;> (try split) <;> omega
    have b1:=List.length_filter_le (fun m:Ms=>decide (m.to≠(i:Int))) s.held
    have b2:=List.length_filter_le (fun m:Ms=>decide (m.to≠(i:Int))) H1
    have b3:=List.length_filter_le (fun m:Ms=>decide (m.to≠(i:Int))) H2
    have c1:H2.length≤6:=by rw [hH2];exact Site.tell_six (by rw [hme];exact hlt) h7
    have c2:H1.length≤6 * 8:=by
      have key:∀l:List (Int × Rn),(l.flatMap fun e=>s.tell (Site.asks e.2 e.1) p.n).length≤6 * l.length:=by
        intro l
        induction l with
        | nil=>simp
        | cons e l ih=>
          have:=Site.tell_six (s:=s) (m:=Site.asks e.2 e.1) (n:=p.n) (by rw [hme];exact hlt) h7
          rw [List.flatMap_cons,List.length_append,List.length_cons];omega
      rw [hH1]
      have:=key (s.rs.take 8)
      have:(s.rs.take 8).length≤8:=by rw [List.length_take];omega
      omega
    have:=h.hlen
    omega
  · obtain ⟨h1,h2⟩:=List.mem_filter.1 hm
    exact hall m h1 (of_decide_eq_true h2)
  · refine ⟨(sug i k v).ad i c,List.mem_filter.2 ⟨List.mem_append_left _ (List.mem_append_left _ ((h.held1 k v hv hk).1 c hc hci)),?_⟩,rfl,rfl,rfl⟩
    refine decide_eq_true ?_
    show (c:Int)≠i
    omega
end Pre
structure TW (p:Plan) (q:Nat) (w:Wd) (j:Nat):Prop where
  len:w.ss.length=p.n
  pre:∀(i:Nat) s,w.ss[i]? =some s→j≤i→Pre p.n p.V q i s
  site:∀(i:Nat) s,w.ss[i]? =some s→i < j→Calm p i s∧(s.held= []∧s.dn=s.db.length)∧s.lv= []∧s.db.length≤80 * q
  wg:wgs w.net≤300 * j
  ms:∀m∈w.net,∃k c:Nat,CalmM p m k∧m.goes p.n c∧c < p.n∧(m.kind=1∨m.kind=8)
  has:∀i,i < j→∀(k:Nat) v,p.V k=some v→k % p.n=i→∀c:Nat,c < p.n→c≠i→∃m∈w.net,m.kind=1∧m.slot=k∧m.to=c
theorem TW.step {p:Plan} {q:Nat} {w:Wd} {j:Nat} (hp:p.Ok) (hq:q≤6) (h:TW p q w j) (hj:j < p.n):TW p q ((w.deed j Site.tick).tell j) (j + 1):=by
  have h7:=hp.n7
  have hlt:j < w.ss.length:=by rw [h.len];exact hj
  obtain ⟨s,hs⟩:∃s,w.ss[j]? =some s:=⟨_,List.getElem?_eq_getElem hlt⟩
  obtain ⟨t,out,h1,h2,h3,h4,h5,h6,h8,h9⟩:=(h.pre j s hs (Nat.le_refl _)).tick hp hq
  have e:(w.deed j Site.tick).tell j= {w with ss:=w.ss.set j t,net:=w.net ++ out}:=by
    unfold Wd.deed
    rw [hs]
    dsimp only
    unfold Wd.tell
    dsimp only
    rw [List.getElem?_set_self hlt]
    dsimp only
    rw [h1,List.set_set]
    dsimp only
    rw [sends_all]
    have:=wgs_len w.net;have:=wgs_len out;have:=h.wg
    have:300 * j≤300 * 6:=Nat.mul_le_mul_left _ (by omega)
    omega
  rw [e]
  have look:∀(i:Nat) u,(w.ss.set j t)[i]? =some u→(i=j∧u=t)∨(i≠j∧w.ss[i]? =some u):=fun i u hu=>by
    by_cases c:i=j
    · subst c
      rw [List.getElem?_set_self hlt] at hu
      injection hu with hu
      exact .inl ⟨rfl,hu.symm⟩
    · rw [List.getElem?_set_ne (fun e=>c e.symm)] at hu
      exact .inr ⟨c,hu⟩
  refine ⟨by simp [h.len],fun i u hu hi=>?_,fun i u hu hi=>?_,?_,fun m hm=>?_,fun i hi k v hv hk c hc hci=>?_⟩
  · rcases look i u hu with ⟨e1,-⟩ | ⟨-,e2⟩
    · omega
    · exact h.pre i u e2 (by omega)
  · rcases look i u hu with ⟨rfl,rfl⟩ | ⟨e1,e2⟩
    · exact ⟨h2,h3,h4,h5⟩
    · exact h.site i u e2 (by omega)
  · show wgs (w.net ++ out)≤_
    rw [wgs_append]
    have:=h.wg;omega
  · rcases List.mem_append.1 hm with hm | hm
    · exact h.ms m hm
    · exact h8 m hm
  · by_cases c1:i < j
    · obtain ⟨m,m1,m2⟩:=h.has i c1 k v hv hk c hc hci
      exact ⟨m,List.mem_append_left _ m1,m2⟩
    · have:i=j:=by omega
      subst this
      obtain ⟨m,m1,m2⟩:=h9 k v hv hk c hc hci
      exact ⟨m,List.mem_append_right _ m1,m2⟩
theorem TW.ticks {p:Plan} {q:Nat} {w:Wd} (hp:p.Ok) (hq:q≤6) (h:TW p q w 0):∀j,j≤p.n→TW p q (w.ticks j) j
  | 0,_=>h
  | j + 1,hj=>(TW.ticks hp hq h j (by omega)).step hp hq (by omega)
theorem TW.calm {p:Plan} {q:Nat} {w:Wd} (hp:p.Ok) (hq:q≤6) (h:TW p q w p.n) (hz:∀x,x < p.T→p.V x=none→∃z,x < z∧p.V z≠none) (hc:∀x z,x % p.n=z % p.n→x < z→p.V z≠none→p.V x≠none):CW p w w.net []:=by
  have h7:=hp.n7;have h3:=hp.n3
  have hlt:∀(i:Nat) s,w.ss[i]? =some s→i < p.n:=fun i s hs=>by rw [←h.len];exact (List.getElem?_eq_some_iff.1 hs).1
  have hU:w.undec p≤42:=by
    have h1:=List.length_filter_le (fun x=>(w.ownD p.n x).isNone) (List.range p.T)
    rw [List.length_range] at h1
    have:=hp.T
    unfold Wd.undec
    omega
  have hwg:wgs w.net≤300 * 7:=Nat.le_trans h.wg (Nat.mul_le_mul_left _ h7)
  have hd:∀(i:Nat) s (x:Int),w.ss[i]? =some s→s.dec x=none:=fun i s x hs=>by
    have:=(h.site i s hs (hlt i s hs)).2.2.1
    unfold Site.dec;rw [this];rfl
  refine ⟨h.len,by simp,fun i s hs=>?_,fun m hm=>?_,by omega,fun m hm=>(by cases hm),fun m hm=>?_,fun _ i s x hs _=>hd i s _ hs,fun x i s hv hx hs _ c hc1 hc2=>.inl ?_,fun x i s hxT hv hx hs _=>?_,fun x i s c t _ hs hx=>absurd (hd i s _ hs) hx,fun c t x hs hx=>absurd (hd c t _ hs) hx,fun m hm hk=>?_⟩
  · obtain ⟨a1,a2,-,a4⟩:=h.site i s hs (hlt i s hs)
    exact ⟨a1,a2,by omega⟩
  · obtain ⟨k,c,a1,a2,a3,-⟩:=h.ms m hm
    exact ⟨k,c,a1,a2,a3⟩
  · obtain ⟨k,c,-,-,-,a4⟩:=h.ms m hm
    exact a4
  · obtain ⟨v,hv⟩:=ne_none hv
    obtain ⟨m,m1,m2,m3,m4⟩:=h.has i (hlt i s hs) x v hv hx c hc1 hc2
    exact ⟨m,m1,m2,m3,m4⟩
  · obtain ⟨z,hz1,hz2⟩:=hz x hxT hv
    obtain ⟨v,hv2⟩:=ne_none hz2
    have hne:z % p.n≠i:=fun e=>hc x z (by rw [hx,e]) hz1 hz2 hv
    obtain ⟨m,m1,m2,m3,m4⟩:=h.has (z % p.n) (Nat.mod_lt _ (by omega)) z v hv2 rfl i (hlt i s hs) (fun e=>hne e.symm)
    exact ⟨m,m1,m2,m4,by omega⟩
  · obtain ⟨k,c,-,-,-,a4⟩:=h.ms m hm
    omega
end Agio
namespace Agio
open Go Go.Proofs.YtijhlbeipglieaaGreat
theorem topG_ge {α:Type} (L:AL α):(∀p∈L,p.1 + 1≤topG L)∧∀q:Int,0≤q→(∀p∈L,p.1 + 1≤q)→topG L≤q:=by
  have key:∀(L:AL α) (m:Int),(m≤L.foldl (fun m p=>max m (p.1 + 1)) m)∧(∀p∈L,p.1 + 1≤L.foldl (fun m p=>max m (p.1 + 1)) m)∧∀q:Int,m≤q→(∀p∈L,p.1 + 1≤q)→L.foldl (fun m p=>max m (p.1 + 1)) m≤q:=by
    intro L
    induction L with
    | nil=>intro m;exact ⟨Int.le_refl _,fun p hp=>(by cases hp),fun q h _=>h⟩
    | cons e L ih=>
      intro m
      obtain ⟨h1,h2,h3⟩:=ih (max m (e.1 + 1))
      rw [List.foldl_cons]
      refine ⟨by omega,fun p hp=>?_,fun q hq hp=>h3 q ?_ fun p hp'=>hp p (by simp [hp'])⟩
      · rcases List.mem_cons.1 hp with rfl | hp
        · omega
        · exact h2 p hp
      · have:=hp e (by simp);omega
  obtain ⟨-,h2,h3⟩:=key L 0
  exact ⟨h2,h3⟩
theorem frontG_ge {α:Type} (L:AL α) (T:Nat):∀(k s:Nat),(∀x:Nat,s≤x→x < T→(lookG (x:Int) L).isSome=true)→T≤s + k→T≤frontG L k s
  | 0,s,_,h=>by unfold frontG;omega
  | k + 1,s,hx,h=>by
    unfold frontG
    split
    · exact frontG_ge L T k (s + 1) (fun x h1 h2=>hx x (by omega) h2) (by omega)
    · rename_i hc
      apply Classical.byContradiction;intro hT
      exact hc (hx s (Nat.le_refl _) (by omega))
namespace Site
theorem dec_mem {s:Site} {e:Int × List UInt8} (he:e∈s.lv):s.dec e.1≠none:=fun hd=>lookG_none.1 hd e he rfl
theorem mem_dec {s:Site} {x:Int} (hd:s.dec x≠none):∃e∈s.lv,e.1=x:=by
  obtain ⟨v,hv⟩:=ne_none hd
  exact ⟨_,lookG_some hv,rfl⟩
end Site
def Ms.wg2 (m:Ms):Nat:=if m.kind=8 then 17 else if m.kind=3 then 2 else 1
def wgs2 (l:List Ms):Nat:=(l.map Ms.wg2).sum
theorem wgs2_append (a b:List Ms):wgs2 (a ++ b)=wgs2 a + wgs2 b:=by simp [wgs2]
theorem wgs2_le (l:List Ms) (a:Nat) (h:∀m∈l,m.wg2≤a):wgs2 l≤a * l.length:=by
  induction l with
  | nil=>simp [wgs2]
  | cons m l ih=>
    have h1:=h m (by simp)
    have h2:=ih fun x hx=>h x (by simp [hx])
    have h3:wgs2 (m :: l)=m.wg2 + wgs2 l:=by simp [wgs2]
    rw [h3,List.length_cons,Nat.mul_succ];omega
theorem Ms.wg2_pos (m:Ms):1≤m.wg2:=by unfold Ms.wg2;split <;> (try split) <;> omega
theorem wgs2_len (l:List Ms):l.length≤wgs2 l:=by
  induction l with
  | nil=>simp
  | cons m l ih=>
    have:=m.wg2_pos
    have h3:wgs2 (m :: l)=m.wg2 + wgs2 l:=by simp [wgs2]
    rw [h3,List.length_cons];omega
structure Full (p:Plan) (i:Nat) (s:Site):Prop where
  me:s.me=i
  n:s.n=p.n
  lt:i < p.n
  up:s.down=false
  nx:s.nx≤4096
  all:∀x:Nat,x < p.T→s.dec (x:Int)=some (p.val x)
  lv:∀(x:Int) w,s.dec x=some w→∃k:Nat,x=k∧k < p.T∧w=p.val k
  rs:s.rs= []
  tp:s.top≤p.T
structure Back (p:Plan) (a:Nat) (s:Site):Prop where
  me:s.me=a
  n:s.n=p.n
  lt:a < p.n
  up:s.down=false
  nx:s.nx≤4096
  lv:∀(x:Int) w,s.dec x=some w→∃k:Nat,x=k∧k < p.T∧w=p.val k
  own:∀(k:Nat) v,p.V k=some v→k % p.n=a→s.stat (k:Int)≠Sp.zero
  rs:∀e∈s.rs,e.2.so=false∧(∃k:Nat,e.1=k∧k < p.T)∧∀z∈e.2.pr,z.f=(a:Int)
  tp:s.top≤p.T
  tk:∀x:Nat,x < s.taken→s.dec (x:Int)≠none
def SkipM (p:Plan) (a:Nat) (m:Ms):Prop:=m.kind=2∧∃y:Nat,m.slot=y∧y < p.T∧p.V y=none∧y % p.n=a
def MsgB (p:Plan) (a:Nat) (m:Ms):Prop:=m.frm=(a:Int)∧(∃c:Nat,c < p.n∧m.to=c)∧(SkipM p a m∨(m.kind=3∧m.to≠(a:Int)∧∃y:Nat,m.slot=y∧y < p.T)∨m.kind=4∧m.to=(a:Int))
theorem topA_le {p:Plan} {s:Site} (hlv:∀(x:Int) w,s.dec x=some w→∃k:Nat,x=k∧k < p.T∧w=p.val k) (tp:s.top≤p.T):topG s.lv≤p.T∧s.topA≤p.T:=by
  have h1:topG s.lv≤p.T:=(topG_ge s.lv).2 _ (by omega) fun e he=>by
    obtain ⟨v,hv⟩:=ne_none (Site.dec_mem he)
    obtain ⟨k,e1,e2,-⟩:=hlv _ v hv
    omega
  exact ⟨h1,by unfold Site.topA;omega⟩
namespace Full
variable {p:Plan} {i:Nat} {s:Site}
theorem hold (h:Full p i s) (l:List Ms) (d:Nat):Full p i {s with held:=l,dn:=d}:=⟨h.me,h.n,h.lt,h.up,h.nx,h.all,h.lv,h.rs,h.tp⟩
theorem wts (h:Full p i s) (l:List Int):Full p i {s with wt:=l}:=⟨h.me,h.n,h.lt,h.up,h.nx,h.all,h.lv,h.rs,h.tp⟩
theorem take (h:Full p i s):Full p i s.takes.1:=⟨h.me,h.n,h.lt,h.up,h.nx,h.all,h.lv,h.rs,h.tp⟩
theorem fresh (h:Full p i s) {y:Nat} (hy:y < p.T):s.fresh (y:Int)=false:=by
  unfold Site.fresh;rw [h.all y hy];rfl
theorem skipF (hp:p.Ok):∀(f c:Nat) (s:Site) (tg:Int),Full p i s→tg≤p.T→∃k,k≤4096∧Site.skipF f c s tg= {s with nx:=k}
  | 0,c,s,tg,h,_=>⟨s.nx,h.nx,rfl⟩
  | f + 1,c,s,tg,h,ht=>by
    have h7:=hp.n7;have hlt:=h.lt;have hme:=h.me;have hn:=h.n
    by_cases hc:8≤c∨nextI s.me s.nx s.n < 0∨tg≤nextI s.me s.nx s.n
    · rw [Site.skipF_stop _ _ _ _ hc];exact ⟨s.nx,h.nx,rfl⟩
    rcases nextI_nat (me:=s.me) (n:=s.n) (f:=s.nx) (by omega) (by omega) h.nx with ⟨e,-⟩ | ⟨y,e,-,y2,-⟩
    · exact absurd (.inr (.inl (by omega))) hc
    have hyT:y < p.T:=by omega
    rw [Site.skipF_next _ _ _ _ (by omega) (by omega) (by rw [e];exact h.fresh hyT),e]
    obtain ⟨k,h1,h2⟩:=skipF hp f c {s with nx:=((y:Int) + 1).toNat} tg ⟨h.me,h.n,h.lt,h.up,by show ((y:Int) + 1).toNat≤4096;omega,h.all,h.lv,h.rs,h.tp⟩ ht
    exact ⟨k,h1,h2⟩
theorem tick (hp:p.Ok) (h:Full p i s) (hh:s.held= []):∃t out,s.tick.sync=(t,out)∧Full p i t∧t.held= []∧out.length≤6∧∀m∈out,m.May∧m.frm=(i:Int)∧(∃c:Nat,c < p.n∧c≠i∧m.to=c)∧m.kind=8∧m.some_=false∧(p.T:Int)≤m.slot:=by
  have h3:=hp.n3;have h7:=hp.n7;have hlt:=h.lt;have hme:=h.me;have hn:=h.n;have hT:=hp.T
  obtain ⟨w1,hw1⟩:∃w1,w1=tickG s.me s.wt s.n:=⟨_,rfl⟩
  have ht1:s.tick1= {s with wt:=w1}:=by
    unfold Site.tick1 Site.again
    rw [Site.fold_others]
    dsimp only
    rw [h.rs,hw1]
    simp [mapG,h.rs]
  have hF1:Full p i s.tick1:=by rw [ht1];exact h.wts w1
  obtain ⟨-,hA⟩:=topA_le hF1.lv hF1.tp
  obtain ⟨k,hk,e3⟩:=skipF hp 4098 0 s.tick1 s.tick1.topA hF1 hA
  have ht3:s.tick3= {s.tick1 with nx:=k}:=e3
  have hF3:Full p i s.tick3:=by rw [ht3];exact ⟨hF1.me,hF1.n,hF1.lt,hF1.up,hk,hF1.all,hF1.lv,hF1.rs,hF1.tp⟩
  obtain ⟨-,hA3⟩:=topA_le hF3.lv hF3.tp
  have hlate:s.tick3.late s.tick3.topA= []:=by
    unfold Site.late
    rw [List.take_eq_nil_iff]
    right
    rw [List.filter_eq_nil_iff]
    intro x hx
    obtain ⟨j,hj,rfl⟩:=List.mem_map.1 hx
    have hj:=List.mem_range'_1.1 hj
    have hjT:j < p.T:=by omega
    unfold Site.due
    rw [hF3.all j hjT]
    simp
  have ht4:s.tick4=s.tick3:=by unfold Site.tick4;rw [hlate];rfl
  have hheld:s.tick3.held= []:=by rw [ht3,ht1];exact hh
  have hfr:p.T≤s.tick3.front:=by
    unfold Site.front
    by_cases hc:s.tick3.taken≤4096
    · exact frontG_ge _ _ _ _ (fun x _ hx=>by have:=hF3.all x hx;unfold Site.dec at this;rw [this];rfl) (by omega)
    · have:=frontG_lo s.tick3.lv (4096 - s.tick3.taken) s.tick3.taken;omega
  have hfin:∀(u:Site),Full p i u→u.held= []→∃t,u.sync=(t,[])∧Full p i t∧t.held= []:=fun u hu hh=>by
    refine ⟨_,Calm.sync0 hu.up (by rw [hu.n];omega) (by rw [hu.n];exact h7) (A:=[]) (fun m hm=>by cases hm) hh,hu.hold _ _,rfl⟩
  rw [Site.tick_eq _ h.up,ht4]
  by_cases hc:s.tick3.front < 4096
  · rw [if_pos hc,decide_eq_false (by omega),Site.others_eq,hheld,List.nil_append]
    have hto:∀m'∈s.tick3.tell (Site.ask_ s.tick3.front false) s.tick3.n,m'.to≠(s.tick3.me:Int):=fun m' hm'=>by
      obtain ⟨c,-,h2,rfl⟩:=Site.mem_tell.1 hm'
      show (c:Int)≠_
      omega
    rw [Calm.sync0 (u:={s.tick3 with held:=s.tick3.tell (Site.ask_ s.tick3.front false) s.tick3.n}) hF3.up (by show 1≤s.tick3.n;rw [hF3.n];omega) (by show s.tick3.n≤7;rw [hF3.n];exact h7) hto rfl]
    refine ⟨_,_,rfl,hF3.hold _ _,rfl,Site.tell_six (by rw [hF3.me,hF3.n];exact hlt) (by rw [hF3.n];exact h7),fun m hm=>?_⟩
    obtain ⟨c,c1,c2,rfl⟩:=Site.mem_tell.1 hm
    rw [hF3.me] at c2
    rw [hF3.n] at c1
    have hf:(Site.ask_ s.tick3.front false).Fit:=⟨by simp [Site.ask_],by simp,by simp,by simp [Site.ask_];omega,by simp [Site.ask_],by simp [Site.ask_],by simp [Site.ask_],by simp [Site.ask_],by simp [Site.ask_],by simp [Site.ask_]⟩
    rw [hF3.me]
    refine ⟨hf.may (a:=(i:Int)) (b:=(c:Int)) (by omega) (by omega),rfl,⟨c,c1,c2,rfl⟩,rfl,rfl,?_⟩
    show (p.T:Int)≤(s.tick3.front:Int)
    omega
  · rw [if_neg hc]
    obtain ⟨t,a1,a2,a3⟩:=hfin _ hF3 hheld
    exact ⟨t,[],a1,a2,a3,by simp,fun m hm=>by cases hm⟩
theorem handle (hp:p.Ok) (h:Full p i s) (hh:s.held= []) {a:Nat} (ha:a < p.n) (hai:a≠i) {m:Ms} (hm:m.May) (hto:m.to=(i:Int)) (hfr:m.frm=(a:Int)) (hk:SkipM p a m∨(m.kind=3∧∃y:Nat,m.slot=y∧y < p.T)∨m.kind=8∧(m.some_=true→m.slot < p.T)) :
    ∃t out,(s.handle m).1.sync=(t,out)∧Full p i t∧t.held= []∧wgs2 out + 1≤m.wg2∧(∀m'∈out,m'.May∧m'.frm=(i:Int)∧m'.to=(a:Int)∧m'.kind=7∧m'.some_=true∧∃x:Nat,m'.slot=x∧x < p.T∧m'.val=p.val x)∧
      (m.kind=8→(p.T:Int)≤m.slot→out= [])∧(m.kind=8→∀x:Nat,m.slot≤(x:Int)→x < p.T→(x:Int) < m.slot + 16→∃m'∈out,m'.slot=x):=by
  have h3:=hp.n3;have h7:=hp.n7;have hlt:=h.lt;have hT:=hp.T
  have hw:=h.wts (s.wt.set m.frm.toNat 0)
  have hh0:s.handle m=(({s with wt:=s.wt.set m.frm.toNat 0} :Site).take m,0):=by
    unfold Site.handle
    rw [if_neg (by rw [h.up];simp),if_neg (fun hn=>hn hm),if_neg (by rw [h.me,h.n];omega)]
  rw [hh0]
  obtain ⟨s0,hs0⟩:∃s0:Site,({s with wt:=s.wt.set m.frm.toNat 0} :Site)=s0:=⟨_,rfl⟩
  rw [hs0] at hw ⊢
  have hheld:s0.held= []:=by subst hs0;exact hh
  have tells:∀x:Nat,x < p.T→((Site.tells (x:Int) (p.val x)).ad i a).May:=fun x hx=>(Calm.tells_out hp hlt hx ha hai).may
  have done:∀(B:List Ms),(∀m'∈B,∃x:Nat,x < p.T∧m'=(Site.tells (x:Int) (p.val x)).ad i a)→∃t,({s0 with held:=B} :Site).sync=(t,B)∧Full p i t∧t.held= []∧(∀m'∈B,m'.May∧m'.frm=(i:Int)∧m'.to=(a:Int)∧m'.kind=7∧m'.some_=true∧∃x:Nat,m'.slot=x∧x < p.T∧m'.val=p.val x)∧wgs2 B≤B.length:=fun B hB=>by
    refine ⟨_,Calm.sync0 (u:={s0 with held:=B}) hw.up (by show 1≤s0.n;rw [hw.n];omega) (by show s0.n≤7;rw [hw.n];exact h7) (A:=B) (fun m' hm'=>?_) rfl,hw.hold _ _,rfl,fun m' hm'=>?_,?_⟩
    · obtain ⟨x,-,rfl⟩:=hB m' hm'
      show (a:Int)≠(s0.me:Int)
      rw [hw.me];omega
    · obtain ⟨x,hx,rfl⟩:=hB m' hm'
      exact ⟨tells x hx,rfl,rfl,rfl,rfl,x,rfl,hx,rfl⟩
    · have:=wgs2_le B 1 fun m' hm'=>by
        obtain ⟨x,-,rfl⟩:=hB m' hm'
        simp [Ms.wg2,Ms.ad,Site.tells]
      omega
  rcases hk with ⟨k2,y,y1,y2,y3,y4⟩ | ⟨k3,y,y1,y2⟩ | ⟨k8,hfl⟩
  · -- a skip
    have e:s0.take m=s0.decide_ (y:Int) []:=by
      have h1:s0.take m=s0.does m:=by unfold Site.take;rw [if_neg];omega
      rw [h1]
      unfold Site.does
      rw [if_neg (by omega),if_pos k2]
      unfold Site.skipped
      rw [hw.n,y1,ownerI_nat (hp.lt4 y2) (by omega) h7,if_pos (by rw [hfr,y4])]
    have hval:p.val y= []:=by unfold Plan.val;rw [y3];rfl
    have hd:=Site.Dcd.one (s:=s0) (x:=(y:Int)) (v:=[]) (by have:=hp.lt4 y2;omega) (by simp) (.inr (by rw [hw.all y y2,hval]))
    have hrs:(s0.decide_ (y:Int) []).rs= []:=by
      rw [Site.decide_ok (by have:=hp.lt4 y2;omega) (by simp) (.inr (by rw [hw.all y y2,hval]))]
      dsimp only
      rw [hw.rs];rfl
    rw [e]
    obtain ⟨u,hu⟩:∃u,s0.decide_ (y:Int) []=u:=⟨_,rfl⟩
    rw [hu] at hd hrs ⊢
    have hdec:∀x,u.dec x=s0.dec x:=fun x=>by
      by_cases c:x=(y:Int)
      · rw [(hd.at_ x c).1,c,hw.all y y2,hval]
      · exact (hd.off x c).1
    have hF:Full p i u:=⟨hd.kin.me.trans hw.me,hd.kin.n.trans hw.n,hlt,hd.kin.down.trans hw.up,by rw [hd.nx];exact hw.nx,fun x hx=>by rw [hdec];exact hw.all x hx,fun x w hx=>hw.lv x w (by rw [←hdec];exact hx),hrs,by rw [hd.top];exact hw.tp⟩
    refine ⟨_,[],Calm.sync0 hF.up (by rw [hF.n];omega) (by rw [hF.n];exact h7) (A:=[]) (fun m hm=>by cases hm) (by rw [hd.held];exact hheld),hF.hold _ _,rfl,by have:=m.wg2_pos;simp [wgs2];omega,fun m' hm'=>(by cases hm'),fun h=>by omega,fun h=>by omega⟩
  · -- a prepare
    have e:s0.take m= {s0 with held:=[(Site.tells (y:Int) (p.val y)).ad i a]}:=by
      unfold Site.take
      rw [if_pos (.inr (.inl k3)),y1,hw.all y y2]
      dsimp only
      rw [Site.send_eq,hheld,hw.me,hfr]
      rfl
    rw [e]
    obtain ⟨t,a1,a2,a3,a4,a5⟩:=done [(Site.tells (y:Int) (p.val y)).ad i a] (fun m' hm'=>⟨y,y2,by simpa using hm'⟩)
    refine ⟨t,_,a1,a2,a3,?_,a4,fun h=>by omega,fun h=>by omega⟩
    have:m.wg2=2:=by unfold Ms.wg2;rw [if_neg (by omega),if_pos k3]
    rw [this]
    simpa using a5
  · -- an ask
    have hslot:=hm.slot
    obtain ⟨f,hf⟩:∃f:Nat,m.slot=(f:Int):=⟨m.slot.toNat,by omega⟩
    have e:s0.take m=s0.wanted m:=by
      have h1:s0.take m=s0.does m:=by unfold Site.take;rw [if_neg];omega
      rw [h1]
      unfold Site.does
      rw [if_neg (by omega),if_neg (by omega),if_neg (by omega),if_neg (by omega),if_neg (by omega),if_neg (by omega),if_neg (by omega),if_pos k8]
    have htg:topG s0.lv=p.T:=by
      have h1:=(topA_le hw.lv hw.tp).1
      have h2:(p.T:Int)≤topG s0.lv:=by
        by_cases hc:p.T=0
        · rw [hc]
          have h0:∀(L:AL (List UInt8)) (m:Int),0≤m→0≤L.foldl (fun m p=>max m (p.1 + 1)) m:=by
            intro L
            induction L with
            | nil=>exact fun m h=>h
            | cons e L ih=>intro m h;rw [List.foldl_cons];exact ih _ (by omega)
          exact h0 s0.lv 0 (Int.le_refl _)
        · obtain ⟨e,he,e1⟩:=Site.mem_dec (s:=s0) (x:=((p.T - 1:Nat):Int)) (by rw [hw.all _ (by omega)];simp)
          have:=(topG_ge s0.lv).1 e he
          omega
      omega
    rw [e]
    unfold Site.wanted
    have hc:¬ (m.some_=true∧s0.dec m.slot=none∧ownerI m.slot s0.n=(s0.me:Int)):=fun ⟨c1,c2,_⟩=>by
      have:=hfl c1
      rw [hf,hw.all f (by omega)] at c2;cases c2
    dsimp only
    rw [if_neg hc,htg]
    have hL:((((List.range' m.slot.toNat ((p.T:Int).toNat - m.slot.toNat)).map fun (i:Nat)=>(i:Int)).filter fun x=>(s0.dec x).isSome).take 16)=((List.range' f (p.T - f)).map fun (i:Nat)=>(i:Int)).take 16:=by
      have e1:m.slot.toNat=f:=by omega
      have e2:(p.T:Int).toNat=p.T:=by omega
      rw [e1,e2,List.filter_eq_self.2]
      intro x hx
      obtain ⟨j,hj,rfl⟩:=List.mem_map.1 hx
      have hj:=List.mem_range'_1.1 hj
      rw [hw.all j (by omega)];rfl
    rw [hL,Site.fold_send m.frm (fun x=>Site.tells x ((s0.dec x).getD [])),hheld,List.nil_append]
    obtain ⟨t,a1,a2,a3,a4,a5⟩:=done ((((List.range' f (p.T - f)).map fun (i:Nat)=>(i:Int)).take 16).map fun x=>(Site.tells x ((s0.dec x).getD [])).ad s0.me m.frm) (fun m' hm'=>by
      obtain ⟨x,hx,rfl⟩:=List.mem_map.1 hm'
      obtain ⟨j,hj,rfl⟩:=List.mem_map.1 (List.mem_of_mem_take hx)
      have hj:=List.mem_range'_1.1 hj
      refine ⟨j,by omega,?_⟩
      rw [hw.all j (by omega),hw.me,hfr];rfl)
    refine ⟨t,_,a1,a2,a3,?_,a4,fun _ hge=>?_,fun _ x x1 x2 x3=>?_⟩
    · have:m.wg2=17:=by unfold Ms.wg2;rw [if_pos k8]
      rw [this]
      have h16:((((List.range' f (p.T - f)).map fun (i:Nat)=>(i:Int)).take 16).map fun x=>(Site.tells x ((s0.dec x).getD [])).ad s0.me m.frm).length≤16:=by
        rw [List.length_map,List.length_take];omega
      omega
    · have:p.T - f=0:=by omega
      rw [this];rfl
    · refine ⟨_,List.mem_map.2 ⟨(x:Int),?_,rfl⟩,rfl⟩
      refine List.mem_of_getElem? (i:=x - f) ?_
      rw [List.getElem?_take,if_pos (by omega),List.getElem?_map,List.getElem?_range' (by omega)]
      simp;omega
end Full
end Agio
namespace Agio
open Go Go.Proofs.YtijhlbeipglieaaGreat
theorem mostI_own {l:List Int} {me:Int} {n:Nat} (h3:3≤n) (h:∀z∈l,z=me):mostI l n=false:=by
  unfold mostI
  rw [if_neg (by omega)]
  refine decide_eq_false ?_
  have hl:((voters l (n:Int)).map Prod.fst).length≤[me].length:=nodup_le (voters_nodup _ _) fun x hx=>by
    rw [h x (voters_mem hx).1];simp
  rw [List.length_map,List.length_singleton] at hl
  unfold majorI
  rw [if_neg (by omega)]
  omega
theorem Site.accept_some {s t:Site} {x:Int} {b:Bl} {v:List UInt8} (h:s.accept x b v=some t):t=({s with db:=s.db ++ layB [⟨2,x,b.r,b.s,v⟩]} :Site).turn x ⟨b,true,b,v⟩:=by
  unfold Site.accept Site.note at h
  split at h
  · cases h
  split at h
  · injection h with h;exact h.symm
  · cases h
theorem Site.promise_some {s t:Site} {x:Int} {b:Bl} (h:s.promise x b=some t):1≤b.r∧t=({s with db:=s.db ++ layB [⟨1,x,b.r,b.s,[]⟩]} :Site).turn x {s.stat x with p:=b}:=by
  unfold Site.promise Site.note at h
  split at h
  · cases h
  rename_i hc
  split at h
  · injection h with h;exact ⟨by omega,h.symm⟩
  · cases h
namespace Back
variable {p:Plan} {a:Nat} {s:Site}
theorem hold (h:Back p a s) (l:List Ms):Back p a {s with held:=l}:=⟨h.me,h.n,h.lt,h.up,h.nx,h.lv,h.own,h.rs,h.tp,h.tk⟩
theorem flush (h:Back p a s) (l:List Ms) (d:Nat):Back p a {s with dn:=d,held:=l}:=⟨h.me,h.n,h.lt,h.up,h.nx,h.lv,h.own,h.rs,h.tp,h.tk⟩
theorem wts (h:Back p a s) (l:List Int):Back p a {s with wt:=l}:=⟨h.me,h.n,h.lt,h.up,h.nx,h.lv,h.own,h.rs,h.tp,h.tk⟩
theorem tell_len6 (hp:p.Ok) (h:Back p a s) (m:Ms):(s.tell m s.n).length≤6:=Site.tell_six (by rw [h.me,h.n];exact h.lt) (by rw [h.n];exact hp.n7)
structure Adds (p:Plan) (a:Nat) (s t:Site) (k:Nat):Prop where
  back:Back p a t
  held:∃H,t.held=s.held ++ H∧H.length≤k∧∀m∈H,MsgB p a m
  lv:t.lv=s.lv
  taken:t.taken=s.taken
theorem Adds.trans {s t u:Site} {k j l:Nat} (h:Adds p a s t k) (g:Adds p a t u j) (hl:k + j≤l):Adds p a s u l:=by
  obtain ⟨H,h1,h2,h3⟩:=h.held
  obtain ⟨K,g1,g2,g3⟩:=g.held
  refine ⟨g.back,⟨H ++ K,by rw [g1,h1,List.append_assoc],by rw [List.length_append];omega,fun m hm=>?_⟩,g.lv.trans h.lv,g.taken.trans h.taken⟩
  rcases List.mem_append.1 hm with hm | hm
  · exact h3 m hm
  · exact g3 m hm
theorem Adds.refl (h:Back p a s) (k:Nat):Adds p a s s k:=⟨h,⟨[],by simp,by simp,fun m hm=>by cases hm⟩,rfl,rfl⟩
theorem skipF (hp:p.Ok):∀(f c:Nat) (s:Site) (tg:Int),Back p a s→tg≤p.T→Adds p a s (Site.skipF f c s tg) (7 * (8 - c))
  | 0,c,s,tg,h,_=>Adds.refl h _
  | f + 1,c,s,tg,h,ht=>by
    have h7:=hp.n7;have hlt:=h.lt;have hme:=h.me;have hn:=h.n
    by_cases hc:8≤c∨nextI s.me s.nx s.n < 0∨tg≤nextI s.me s.nx s.n
    · rw [Site.skipF_stop _ _ _ _ hc];exact Adds.refl h _
    rcases nextI_nat (me:=s.me) (n:=s.n) (f:=s.nx) (by omega) (by omega) h.nx with ⟨e,-⟩ | ⟨y,e,-,y2,y3,-⟩
    · exact absurd (.inr (.inl (by omega))) hc
    have hyT:y < p.T:=by omega
    have hya:y % p.n=a:=by rw [←hn,←hme];exact y3
    cases hf:s.fresh (y:Int) with
    | false=>
      rw [Site.skipF_next _ _ _ _ (by omega) (by omega) (by rw [e];exact hf),e]
      have h1:=skipF hp f c {s with nx:=((y:Int) + 1).toNat} tg ⟨h.me,h.n,h.lt,h.up,by show ((y:Int) + 1).toNat≤4096;omega,h.lv,h.own,h.rs,h.tp,h.tk⟩ ht
      exact ⟨h1.back,h1.held,h1.lv,h1.taken⟩
    | true=>
      have hV:p.V y=none:=by
        cases hv:p.V y with
        | none=>rfl
        | some v=>exact absurd (Site.same_zero (Site.fresh_iff.1 hf).2) (h.own y v hv hya)
      cases hac:s.accept (y:Int) s.ownB [] with
      | none=>
        unfold Site.skipF
        rw [if_neg (by omega),if_neg (by omega),e,if_pos hf,hac]
        exact Adds.refl h _
      | some t=>
        rw [Site.skipF_some _ _ s t _ (by omega) (by omega) (by rw [e];exact hf) (by rw [e];exact hac),e]
        have ht':=Site.accept_some hac
        have hstat:∀x:Int,t.stat x=if (y:Int)=x then ⟨s.ownB,true,s.ownB,[]⟩ else s.stat x:=fun x=>by
          rw [ht',Site.look_turn];rfl
        have hB:Back p a t:=by
          subst ht'
          refine ⟨h.me,h.n,h.lt,h.up,h.nx,h.lv,fun k v hv hk=>?_,h.rs,?_,h.tk⟩
          · rw [hstat,if_neg]
            · exact h.own k v hv hk
            · intro e'
              have:y=k:=by omega
              subst this
              rw [hV] at hv;cases hv
          · show max s.top ((y:Int) + 1)≤_
            have:=h.tp;omega
        have hth:t.held=s.held∧t.lv=s.lv∧t.taken=s.taken:=by subst ht';exact ⟨rfl,rfl,rfl⟩
        have h1:Adds p a s (t.skip1 s.ownB (y:Int)) 7:=by
          have e1:t.skip1 s.ownB (y:Int)= {t with held:=t.held ++ (t.tell (Site.skips y s.ownB) t.n ++ [(Site.skips y s.ownB).ad t.me t.me]),nx:=y + 1}:=by
            unfold Site.skip1
            rw [Site.others_eq,Site.send_eq]
            have et:((y:Int) + 1).toNat=y + 1:=by omega
            rw [et]
            simp only [List.append_assoc]
          rw [e1]
          have hsk:∀c:Nat,SkipM p a ((Site.skips (y:Int) s.ownB).ad t.me c):=fun c=>⟨rfl,y,rfl,hyT,hV,hya⟩
          refine ⟨⟨hB.me,hB.n,hB.lt,hB.up,by show y + 1≤4096;omega,hB.lv,hB.own,hB.rs,hB.tp,hB.tk⟩,⟨_,by dsimp only;rw [hth.1],?_,fun m hm=>?_⟩,hth.2.1,hth.2.2⟩
          · have:=hB.tell_len6 hp (Site.skips y s.ownB)
            rw [List.length_append,List.length_singleton];omega
          · rcases List.mem_append.1 hm with hm | hm
            · obtain ⟨c,c1,c2,rfl⟩:=Site.mem_tell.1 hm
              exact ⟨by show (t.me:Int)=_;rw [hB.me],⟨c,by rw [←hB.n];exact c1,rfl⟩,.inl (hsk c)⟩
            · rw [List.mem_singleton] at hm
              subst hm
              exact ⟨by show (t.me:Int)=_;rw [hB.me],⟨t.me,by rw [hB.me];exact hlt,rfl⟩,.inl (hsk t.me)⟩
        exact h1.trans (skipF hp f (c + 1) _ tg h1.back ht) (by omega)
theorem begin_ (hp:p.Ok) (h:Back p a s) {x:Nat} (hx:x < p.T):Adds p a s (s.begin_ (x:Int)) 7:=by
  have hlt:=h.lt;have hme:=h.me;have hn:=h.n
  unfold Site.begin_
  split
  · exact Adds.refl h _
  split
  · exact Adds.refl h _
  · rename_i t ha
    obtain ⟨hb,ht⟩:=Site.promise_some ha
    generalize hbb:(s.low (x:Int)).next s.me=b at ha hb ht
    have hstat:∀y:Int,t.stat y=if (x:Int)=y then {s.stat (x:Int) with p:=b} else s.stat y:=fun y=>by
      rw [ht,Site.look_turn];rfl
    have hth:t.held=s.held∧t.lv=s.lv∧t.taken=s.taken∧t.me=s.me∧t.n=s.n∧t.down=s.down∧t.nx=s.nx∧t.rs=s.rs∧t.top=max s.top ((x:Int) + 1):=by subst ht;exact ⟨rfl,rfl,rfl,rfl,rfl,rfl,rfl,rfl,rfl⟩
    obtain ⟨g1,g2,g3,g4,g5,g6,g7,g8,g9⟩:=hth
    have hdec:∀y,t.dec y=s.dec y:=fun y=>by unfold Site.dec;rw [g2]
    have hB:Back p a ({t with rs:=putG (x:Int) (⟨b,[],false,[],[],0⟩:Rn) t.rs} :Site):=by
      refine ⟨g4.trans hme,g5.trans hn,hlt,g6.trans h.up,by rw [g7];exact h.nx,fun y w hw=>h.lv y w (by rw [←hdec];exact hw),fun k v hv hk=>?_,fun e he=>?_,by show t.top≤_;rw [g9];have:=h.tp;omega,fun y hy=>by
        have:=h.tk y (by rw [←g3];exact hy)
        rw [←hdec] at this;exact this⟩
      · show t.stat (k:Int)≠_
        rw [hstat]
        split
        · intro e
          have:=congrArg (fun z:Sp=>z.p.r) e
          simp [Sp.zero] at this
          omega
        · exact h.own k v hv hk
      · rcases mem_putG.1 he with rfl | ⟨he,-⟩
        · exact ⟨rfl,⟨x,rfl,hx⟩,fun z hz=>by cases hz⟩
        · rw [g8] at he;exact h.rs e he
    dsimp only
    rw [Site.others_eq,Site.send_eq]
    have htl:(({t with rs:=putG (x:Int) (⟨b,[],false,[],[],0⟩:Rn) t.rs} :Site).tell (Site.asks (⟨b,[],false,[],[],0⟩:Rn) x) s.n).length≤6:=by
      have:=hB.tell_len6 hp (Site.asks (⟨b,[],false,[],[],0⟩:Rn) x)
      rw [show s.n=t.n from g5.symm];exact this
    refine ⟨hB.hold _,⟨_,by dsimp only;rw [g1,List.append_assoc],?_,fun m hm=>?_⟩,g2,g3⟩
    · rw [List.length_append]
      exact Nat.succ_le_succ htl
    · rcases List.mem_append.1 hm with hm | hm
      · obtain ⟨c,c1,c2,rfl⟩:=Site.mem_tell.1 hm
        have c2:c≠t.me:=c2
        refine ⟨by show (t.me:Int)=_;omega,⟨c,by rw [←hn];exact c1,rfl⟩,.inr (.inl ⟨rfl,?_,x,rfl,hx⟩)⟩
        show (c:Int)≠_
        omega
      · rw [List.mem_singleton] at hm
        subst hm
        exact ⟨by show (t.me:Int)=_;omega,⟨t.me,by omega,rfl⟩,.inr (.inr ⟨rfl,by show (t.me:Int)=_;omega⟩)⟩
theorem begins (hp:p.Ok):∀(l:List Int) (s:Site),Back p a s→(∀x∈l,0≤x∧x < (p.T:Int))→Adds p a s (l.foldl Site.begin_ s) (7 * l.length)
  | [],s,h,_=>Adds.refl h _
  | x :: l,s,h,hl=>by
    obtain ⟨y,rfl⟩:∃y:Nat,x=(y:Int):=⟨x.toNat,by have:=hl x (by simp);omega⟩
    have h1:=h.begin_ hp (x:=y) (by have:=hl (y:Int) (by simp);omega)
    rw [List.foldl_cons,List.length_cons]
    exact h1.trans (begins hp l _ h1.back fun z hz=>hl z (by simp [hz])) (by omega)
theorem ownTake (hp:p.Ok) (h:Back p a s) {m:Ms} (hm:MsgB p a m) (hto:m.to=(a:Int)):Back p a (s.take m)∧(s.take m).held=s.held∧∀(x:Int) w,s.dec x=some w→(s.take m).dec x=some w:=by
  have h3:=hp.n3;have h7:=hp.n7;have hlt:=h.lt;have hme:=h.me;have hn:=h.n
  have lg:=Site.lg_take s m
  refine ⟨?_,?_,lg.dec⟩
  · obtain ⟨f1,-,⟨k2,y,y1,y2,y3,y4⟩ | ⟨-,hc,-⟩ | ⟨k4,-⟩⟩:=hm
    · have e:s.take m=s.decide_ (y:Int) []:=by
        have h1:s.take m=s.does m:=by unfold Site.take;rw [if_neg];omega
        rw [h1]
        unfold Site.does
        rw [if_neg (by omega),if_pos k2]
        unfold Site.skipped
        rw [hn,y1,ownerI_nat (hp.lt4 y2) (by omega) h7,if_pos (by rw [f1,y4])]
      have hval:p.val y= []:=by unfold Plan.val;rw [y3];rfl
      have hd0:s.dec (y:Int)=none∨s.dec (y:Int)=some []:=by
        cases hc:s.dec (y:Int) with
        | none=>exact .inl rfl
        | some w=>
          obtain ⟨k',e1,-,rfl⟩:=h.lv _ w hc
          have:y=k':=by omega
          subst this
          rw [hval];exact .inr rfl
      have hd:=Site.Dcd.one (s:=s) (x:=(y:Int)) (v:=[]) (by have:=hp.lt4 y2;omega) (by simp) hd0
      rw [e] at lg ⊢
      refine ⟨hd.kin.me.trans hme,hd.kin.n.trans hn,hlt,hd.kin.down.trans h.up,by rw [hd.nx];exact h.nx,fun x w hw=>?_,fun k v hv hk=>?_,fun z hz=>?_,by rw [hd.top];exact h.tp,fun x hx=>?_⟩
      · by_cases c:x=(y:Int)
        · rw [(hd.at_ x c).1] at hw
          injection hw with hw
          exact ⟨y,c,y2,by rw [hval,hw]⟩
        · rw [(hd.off x c).1] at hw;exact h.lv x w hw
      · have:∀x,(s.decide_ (y:Int) []).stat x=s.stat x:=fun x=>by unfold Site.stat;rw [hd.st]
        rw [this];exact h.own k v hv hk
      · rw [Site.decide_ok (by have:=hp.lt4 y2;omega) (by simp) hd0] at hz
        exact h.rs z (delG_mem.1 hz).1
      · rw [hd.kin.taken] at hx
        obtain ⟨v,hv⟩:=ne_none (h.tk x hx)
        rw [lg.dec _ v hv];simp
    · exact absurd hto hc
    · have e:s.take m=s.promised m:=by
        have h1:s.take m=s.does m:=by unfold Site.take;rw [if_neg];omega
        rw [h1]
        unfold Site.does
        rw [if_neg (by omega),if_neg (by omega),if_neg (by omega),if_pos k4]
      rw [e]
      unfold Site.promised
      split
      · exact h
      rename_i r hr
      obtain ⟨r1,r2,r3⟩:=h.rs _ (lookG_some hr)
      split
      · have hpr:∀z∈r.pr ++ [(⟨m.frm,m.some_,m.had,m.val⟩:Pm)],z.f=(a:Int):=fun z hz=>by
          rcases List.mem_append.1 hz with hz | hz
          · exact r3 z hz
          · rw [List.mem_singleton] at hz;subst hz;exact f1
        have hch:chooseP (r.pr ++ [(⟨m.frm,m.some_,m.had,m.val⟩:Pm)]) s.n=none:=by
          unfold chooseP
          rw [hn,mostI_own h3 (me:=(a:Int)) (fun z hz=>?_)]
          · simp
          · obtain ⟨q,hq,rfl⟩:=List.mem_map.1 hz
            exact hpr q hq
        dsimp only
        rw [hch]
        refine ⟨hme,hn,hlt,h.up,h.nx,h.lv,h.own,fun e he=>?_,h.tp,h.tk⟩
        rcases mem_putG.1 he with rfl | ⟨he,-⟩
        · exact ⟨r1,r2,hpr⟩
        · exact h.rs e he
      · exact h
  · obtain ⟨f1,-,⟨k2,y,y1,y2,y3,y4⟩ | ⟨-,hc,-⟩ | ⟨k4,-⟩⟩:=hm
    · have h1:s.take m=s.does m:=by unfold Site.take;rw [if_neg];omega
      rw [h1]
      unfold Site.does
      rw [if_neg (by omega),if_pos k2]
      unfold Site.skipped
      split
      · unfold Site.decide_;split <;> rfl
      · rfl
    · exact absurd hto hc
    · have h1:s.take m=s.does m:=by unfold Site.take;rw [if_neg];omega
      rw [h1]
      unfold Site.does
      rw [if_neg (by omega),if_neg (by omega),if_neg (by omega),if_pos k4]
      unfold Site.promised
      split
      · rfl
      rename_i r hr
      obtain ⟨r1,r2,r3⟩:=h.rs _ (lookG_some hr)
      split
      · have hch:chooseP (r.pr ++ [(⟨m.frm,m.some_,m.had,m.val⟩:Pm)]) s.n=none:=by
          unfold chooseP
          rw [hn,mostI_own h3 (me:=(a:Int)) (fun z hz=>?_)]
          · simp
          · obtain ⟨q,hq,rfl⟩:=List.mem_map.1 hz
            rcases List.mem_append.1 hq with hq | hq
            · exact r3 q hq
            · rw [List.mem_singleton] at hq;subst hq;exact f1
        dsimp only
        rw [hch]
      · rfl
theorem ownTakes (hp:p.Ok):∀(l:List Ms) (s:Site),Back p a s→(∀m∈l,MsgB p a m∧m.to=(a:Int))→Back p a (l.foldl Site.take s)∧(l.foldl Site.take s).held=s.held∧∀(x:Int) w,s.dec x=some w→(l.foldl Site.take s).dec x=some w
  | [],s,h,_=>⟨h,rfl,fun _ _ h=>h⟩
  | m :: l,s,h,hl=>by
    obtain ⟨h1,h2,h3⟩:=h.ownTake hp (hl m (by simp)).1 (hl m (by simp)).2
    obtain ⟨g1,g2,g3⟩:=ownTakes hp l _ h1 fun x hx=>hl x (by simp [hx])
    exact ⟨g1,g2.trans h2,fun x w hx=>g3 x w (h3 x w hx)⟩
theorem tick (hp:p.Ok) (h:Back p a s) (hh:s.held= []) (hok:s.tick.Ok) :
    ∃t out,s.tick.sync=(t,out)∧Back p a t∧t.held= []∧(∀(x:Int) w,s.dec x=some w→t.dec x=some w)∧wgs2 out≤450∧
      (∀m∈out,m.May∧m.frm=(a:Int)∧(∃c:Nat,c < p.n∧c≠a∧m.to=c)∧(SkipM p a m∨(m.kind=3∧∃y:Nat,m.slot=y∧y < p.T)∨m.kind=8∧(m.some_=true→m.slot < p.T)))∧
      (s.front < p.T→∀c:Nat,c < p.n→c≠a→∃m∈out,m.kind=8∧m.slot=s.front∧m.to=c):=by
  have h3:=hp.n3;have h7:=hp.n7;have hlt:=h.lt;have hme:=h.me;have hn:=h.n;have hT:=hp.T
  have e1:∃H1,s.tick1= {s with wt:=tickG s.me s.wt s.n,rs:=mapG (fun r:Rn=>{r with age:=r.age + 1}) s.rs,held:=s.held ++ H1}∧H1.length≤48∧∀m∈H1,MsgB p a m:=by
    refine ⟨(s.rs.take 8).flatMap fun e=>s.tell (Site.asks e.2 e.1) p.n,?_,?_,fun m hm=>?_⟩
    · unfold Site.tick1 Site.again
      rw [Site.fold_others]
      rw [hn]
      rfl
    · have key:∀l:List (Int × Rn),(l.flatMap fun e=>s.tell (Site.asks e.2 e.1) p.n).length≤6 * l.length:=by
        intro l
        induction l with
        | nil=>simp
        | cons e l ih=>
          have:=Site.tell_six (s:=s) (m:=Site.asks e.2 e.1) (n:=p.n) (by rw [hme];exact hlt) h7
          rw [List.flatMap_cons,List.length_append,List.length_cons];omega
      have:=key (s.rs.take 8)
      have:(s.rs.take 8).length≤8:=by rw [List.length_take];omega
      omega
    · obtain ⟨e,he,hm⟩:=List.mem_flatMap.1 hm
      obtain ⟨r1,⟨y,r2,r2'⟩,r3⟩:=h.rs e (List.mem_of_mem_take he)
      obtain ⟨c,c1,c2,rfl⟩:=Site.mem_tell.1 hm
      have ea:Site.asks e.2 e.1=⟨3,0,0,e.1,e.2.bal.r,e.2.bal.s,0,0,false,[]⟩:=by unfold Site.asks;rw [if_neg (by rw [r1];simp)]
      rw [ea]
      refine ⟨by show (s.me:Int)=_;rw [hme],⟨c,c1,rfl⟩,.inr (.inl ⟨rfl,?_,y,r2,r2'⟩)⟩
      show (c:Int)≠_
      omega
  obtain ⟨H1,e1,l1,m1⟩:=e1
  have a1:Adds p a s s.tick1 48:=by
    rw [e1]
    refine ⟨⟨hme,hn,hlt,h.up,h.nx,h.lv,h.own,fun e he=>?_,h.tp,h.tk⟩,⟨H1,rfl,l1,m1⟩,rfl,rfl⟩
    unfold mapG at he
    obtain ⟨e0,he0,rfl⟩:=List.mem_map.1 he
    exact h.rs e0 he0
  have a3:Adds p a s s.tick3 104:=a1.trans (skipF hp 4098 0 s.tick1 s.tick1.topA a1.back (topA_le a1.back.lv a1.back.tp).2) (by omega)
  have hl8:(s.tick3.late s.tick3.topA).length≤8:=by unfold Site.late;rw [List.length_take];omega
  have hlr:∀x∈s.tick3.late s.tick3.topA,0≤x∧x < (p.T:Int):=fun x hx=>by
    have:=Site.late_in _ hx;have:=(topA_le a3.back.lv a3.back.tp).2;omega
  have a4:Adds p a s s.tick4 160:=a3.trans (begins hp _ s.tick3 a3.back hlr) (by omega)
  have hfr:∀t:Site,t.lv=s.lv→t.taken=s.taken→t.front=s.front:=fun t h1 h2=>by unfold Site.front;rw [h1,h2]
  have hf4:=hfr s.tick4 a4.lv a4.taken
  have hA3:=(topA_le a3.back.lv a3.back.tp).2
  obtain ⟨H,hH,hHl,hHm⟩:=a4.held
  rw [hh,List.nil_append] at hH
  -- what is held behind the tick
  have hex:∃K,s.tick= {s.tick4 with held:=H ++ K}∧K.length≤6∧(∀m∈K,m.frm=(a:Int)∧(∃c:Nat,c < p.n∧c≠a∧m.to=c)∧m.kind=8∧(m.some_=true→m.slot < p.T))∧(s.front < p.T→∀c:Nat,c < p.n→c≠a→∃m∈K,m.kind=8∧m.slot=s.front∧m.to=c):=by
    rw [Site.tick_eq _ h.up,hf4]
    by_cases hc:s.front < 4096
    · rw [if_pos hc,Site.others_eq,hH]
      refine ⟨_,rfl,a4.back.tell_len6 hp _,fun m hm=>?_,fun _ c c1 c2=>⟨_,Site.mem_tell.2 ⟨c,by rw [a4.back.n];exact c1,by rw [a4.back.me];exact c2,rfl⟩,rfl,rfl,rfl⟩⟩
      obtain ⟨c,c1,c2,rfl⟩:=Site.mem_tell.1 hm
      refine ⟨by show (s.tick4.me:Int)=_;rw [a4.back.me],⟨c,by rw [←a4.back.n];exact c1,by rw [←a4.back.me];exact c2,rfl⟩,rfl,fun hb=>?_⟩
      have hb:decide ((s.front:Int) < s.tick3.topA)=true:=hb
      have:=of_decide_eq_true hb
      show ((s.front:Nat):Int) < _
      omega
    · rw [if_neg hc]
      refine ⟨[],by rw [List.append_nil,←hH],by simp,fun m hm=>(by cases hm),fun hx=>by omega⟩
  obtain ⟨K,hK,hKl,hKm,hKf⟩:=hex
  have hmay:∀m∈H ++ K,m.May:=fun m hm=>hok.held m (by rw [hK];exact hm)
  have hown:∀m∈(H ++ K).filter fun m=>decide (m.to=(a:Int)),MsgB p a m∧m.to=(a:Int):=fun m hm=>by
    obtain ⟨hm,ht⟩:=List.mem_filter.1 hm
    have ht:=of_decide_eq_true ht
    rcases List.mem_append.1 hm with hm | hm
    · exact ⟨hHm m hm,ht⟩
    · obtain ⟨-,⟨c,c1,c2,c3⟩,-⟩:=hKm m hm
      exact absurd (by omega) c2
  have hB:=a4.back.flush [] s.tick4.db.length
  obtain ⟨b1,b2,b3⟩:=ownTakes hp _ _ hB hown
  have hsync:s.tick.sync=(((H ++ K).filter fun m=>decide (m.to=(a:Int))).foldl Site.take {s.tick4 with dn:=s.tick4.db.length,held:=[]},(H ++ K).filter fun m=>decide (m.to≠(a:Int))):=by
    rw [hK]
    unfold Site.sync
    rw [if_neg (by show ¬ s.tick4.down=true;rw [a4.back.up];simp)]
    dsimp only
    rw [a4.back.me]
  refine ⟨_,_,hsync,b1,b2,fun x w hx=>b3 x w ?_,?_,fun m hm=>?_,fun hf c c1 c2=>?_⟩
  · show s.tick4.dec x=_
    unfold Site.dec at hx ⊢
    rw [a4.lv];exact hx
  · have q1:=wgs2_le (H.filter fun m=>decide (m.to≠(a:Int))) 2 fun m hm=>by
      obtain ⟨-,-,⟨k,-⟩ | ⟨k,-⟩ | ⟨k,-⟩⟩:=hHm m (List.mem_filter.1 hm).1 <;> unfold Ms.wg2 <;> rw [if_neg (by omega)] <;> split <;> omega
    have q2:=wgs2_le (K.filter fun m=>decide (m.to≠(a:Int))) 17 fun m hm=>by unfold Ms.wg2;split <;> (try split) <;> omega
    have q3:=List.length_filter_le (fun m:Ms=>decide (m.to≠(a:Int))) H
    have q4:=List.length_filter_le (fun m:Ms=>decide (m.to≠(a:Int))) K
    rw [List.filter_append,wgs2_append]
    omega
  · obtain ⟨hm,ht⟩:=List.mem_filter.1 hm
    have ht:=of_decide_eq_true ht
    refine ⟨hmay m hm,?_⟩
    rcases List.mem_append.1 hm with hm | hm
    · obtain ⟨f1,⟨c,c1,c2⟩,f3⟩:=hHm m hm
      refine ⟨f1,⟨c,c1,by rintro rfl;exact ht c2,c2⟩,?_⟩
      rcases f3 with f3 | ⟨f3,-,f4⟩ | ⟨-,f3⟩
      · exact .inl f3
      · exact .inr (.inl ⟨f3,f4⟩)
      · exact absurd f3 ht
    · obtain ⟨f1,f2,f3,f4⟩:=hKm m hm
      exact ⟨f1,f2,.inr (.inr ⟨f3,f4⟩)⟩
  · obtain ⟨m,k1,k2,k3,k4⟩:=hKf hf c c1 c2
    refine ⟨m,List.mem_filter.2 ⟨List.mem_append_right _ k1,decide_eq_true ?_⟩,k2,k3,k4⟩
    rw [k4];omega
theorem handle (hp:p.Ok) (h:Back p a s) (hh:s.held= []) {g:Nat} (hg:g < p.n) (hga:g≠a) {m:Ms} (hm:m.May) (hto:m.to=(a:Int)) (hfr:m.frm=(g:Int))
    (hk:(m.kind=7∧m.some_=true∧∃x:Nat,m.slot=x∧x < p.T∧m.val=p.val x)∨m.kind=8∧m.some_=false∧(p.T:Int)≤m.slot) :
    ∃t,(s.handle m).1.sync=(t,[])∧Back p a t∧t.held= []∧(∀(x:Int) w,s.dec x=some w→t.dec x=some w)∧(m.kind=7→t.dec m.slot≠none):=by
  have h3:=hp.n3;have h7:=hp.n7;have hlt:=h.lt;have hT:=hp.T
  have hw:=h.wts (s.wt.set m.frm.toNat 0)
  have hh0:s.handle m=(({s with wt:=s.wt.set m.frm.toNat 0} :Site).take m,0):=by
    unfold Site.handle
    rw [if_neg (by rw [h.up];simp),if_neg (fun hn=>hn hm),if_neg (by rw [h.me,h.n];omega)]
  rw [hh0]
  obtain ⟨s0,hs0⟩:∃s0:Site,({s with wt:=s.wt.set m.frm.toNat 0} :Site)=s0:=⟨_,rfl⟩
  rw [hs0] at hw ⊢
  have hheld:s0.held= []:=by subst hs0;exact hh
  have hdec0:∀x,s0.dec x=s.dec x:=fun x=>by subst hs0;rfl
  rcases hk with ⟨k7,hso,y,y1,y2,y3⟩ | ⟨k8,hso,hsl⟩
  · have e:s0.take m=s0.decide_ (y:Int) (p.val y):=by
      have h1:s0.take m=s0.does m:=by unfold Site.take;rw [if_neg];omega
      rw [h1]
      unfold Site.does
      rw [if_neg (by omega),if_neg (by omega),if_neg (by omega),if_neg (by omega),if_neg (by omega),if_neg (by omega),if_pos k7]
      unfold Site.learned
      rw [if_pos hso,y1,y3]
    have hd0:s0.dec (y:Int)=none∨s0.dec (y:Int)=some (p.val y):=by
      cases hc:s0.dec (y:Int) with
      | none=>exact .inl rfl
      | some w=>
        obtain ⟨k',e1,-,rfl⟩:=hw.lv _ w hc
        have:y=k':=by omega
        subst this
        exact .inr rfl
    have hd:=Site.Dcd.one (s:=s0) (x:=(y:Int)) (v:=p.val y) (by have:=hp.lt4 y2;omega) (by have:=hp.valLen y;omega) hd0
    have lg:=Site.lg_decide s0 (y:Int) (p.val y)
    have hrs:∀z∈(s0.decide_ (y:Int) (p.val y)).rs,z∈s0.rs:=fun z hz=>by
      rw [Site.decide_ok (by have:=hp.lt4 y2;omega) (by have:=hp.valLen y;omega) hd0] at hz
      exact (delG_mem.1 hz).1
    rw [e]
    obtain ⟨u,hu⟩:∃u,s0.decide_ (y:Int) (p.val y)=u:=⟨_,rfl⟩
    rw [hu] at hd lg hrs ⊢
    have hB:Back p a u:=by
      refine ⟨hd.kin.me.trans hw.me,hd.kin.n.trans hw.n,hlt,hd.kin.down.trans hw.up,by rw [hd.nx];exact hw.nx,fun x w hx=>?_,fun k v hv hk=>?_,fun z hz=>?_,by rw [hd.top];exact hw.tp,fun x hx=>?_⟩
      · by_cases c:x=(y:Int)
        · rw [(hd.at_ x c).1] at hx
          injection hx with hx
          exact ⟨y,c,y2,hx.symm⟩
        · rw [(hd.off x c).1] at hx;exact hw.lv x w hx
      · have:∀x,u.stat x=s0.stat x:=fun x=>by unfold Site.stat;rw [hd.st]
        rw [this];exact hw.own k v hv hk
      · exact hw.rs z (hrs z hz)
      · rw [hd.kin.taken] at hx
        obtain ⟨v,hv⟩:=ne_none (hw.tk x hx)
        rw [lg.dec _ v hv];simp
    refine ⟨_,Calm.sync0 hB.up (by rw [hB.n];omega) (by rw [hB.n];exact h7) (A:=[]) (fun m hm=>by cases hm) (by rw [hd.held];exact hheld),hB.flush _ _,rfl,fun x w hx=>lg.dec x w (by rw [hdec0];exact hx),fun _=>?_⟩
    show u.dec m.slot≠none
    rw [y1,(hd.at_ _ rfl).1];simp
  · have e:s0.take m=s0:=by
      have h1:s0.take m=s0.does m:=by unfold Site.take;rw [if_neg];omega
      rw [h1]
      unfold Site.does
      rw [if_neg (by omega),if_neg (by omega),if_neg (by omega),if_neg (by omega),if_neg (by omega),if_neg (by omega),if_neg (by omega),if_pos k8]
      unfold Site.wanted
      dsimp only
      rw [if_neg (by rw [hso];simp)]
      have:=(topA_le hw.lv hw.tp).1
      have e0:(topG s0.lv).toNat - m.slot.toNat=0:=by omega
      rw [e0];rfl
    rw [e]
    exact ⟨_,Calm.sync0 hw.up (by rw [hw.n];omega) (by rw [hw.n];exact h7) (A:=[]) (fun m hm=>by cases hm) hheld,hw.flush _ _,rfl,fun x w hx=>by show s0.dec x=_;rw [hdec0];exact hx,fun h=>by omega⟩
end Back
end Agio
namespace Agio
open Go Go.Proofs.YtijhlbeipglieaaGreat
def MsgW (p:Plan) (a:Nat) (m:Ms):Prop:=
  m.May∧(∃g c:Nat,g < p.n∧c < p.n∧g≠c∧m.frm=(g:Int)∧m.to=(c:Int))∧
    (m.frm=(a:Int)∧(SkipM p a m∨(m.kind=3∧∃y:Nat,m.slot=y∧y < p.T)∨m.kind=8∧(m.some_=true→m.slot < p.T))∨m.frm≠(a:Int)∧m.kind=8∧m.some_=false∧(p.T:Int)≤m.slot∨
      m.frm≠(a:Int)∧m.to=(a:Int)∧m.kind=7∧m.some_=true∧∃x:Nat,m.slot=x∧x < p.T∧m.val=p.val x)
structure PW (p:Plan) (a f:Nat) (w:Wd):Prop where
  len:w.ss.length=p.n
  full:∀(i:Nat) s,w.ss[i]? =some s→i≠a→Full p i s∧s.held= []
  back:∀s,w.ss[a]? =some s→Back p a s∧s.held= []∧∀x:Nat,x < f→s.dec (x:Int)≠none
  ms:∀m∈w.net,MsgW p a m
  pot:wgs2 w.net≤4000
  prog:∀s,w.ss[a]? =some s→∀x:Nat,f≤x→x < p.T→x < f + 16→s.dec (x:Int)≠none∨(∃m∈w.net,m.kind=8∧m.slot=f∧m.frm=(a:Int))∨∃m∈w.net,m.kind=7∧m.slot=x
namespace PW
variable {p:Plan} {a f:Nat} {w:Wd}
theorem deal (hp:p.Ok) (h:PW p a f w) {m:Ms} {l:List Ms} (hn:w.net=m :: l):PW p a f (w.deal m)∧wgs2 (w.deal m).net + 1≤wgs2 w.net:=by
  have hmn:m∈w.net:=by rw [hn];simp
  obtain ⟨hmay,⟨g,c,hg,hc,hgc,hfr,hto⟩,hk⟩:=h.ms m hmn
  have hclt:c < w.ss.length:=by rw [h.len];exact hc
  obtain ⟨s,hs⟩:∃s,w.ss[c]? =some s:=⟨_,List.getElem?_eq_getElem hclt⟩
  have hwn:wgs2 w.net=m.wg2 + wgs2 l:=by rw [hn];simp [wgs2]
  have hpos:=m.wg2_pos
  have look:∀(t:Site) (net:List Ms) (i:Nat) u,({w with ss:=w.ss.set c t,net:=net} :Wd).ss[i]? =some u→(i=c∧u=t)∨(i≠c∧w.ss[i]? =some u):=fun t net i u hu=>by
    have hu:(w.ss.set c t)[i]? =some u:=hu
    by_cases e:i=c
    · subst e
      rw [List.getElem?_set_self hclt] at hu
      injection hu with hu
      exact .inl ⟨rfl,hu.symm⟩
    · rw [List.getElem?_set_ne (fun e'=>e e'.symm)] at hu
      exact .inr ⟨e,hu⟩
  have hl:∀x∈l,x∈w.net:=fun x hx=>by rw [hn];simp [hx]
  by_cases hca:c=a
  · -- who comes back is told
    subst hca
    obtain ⟨hB,hh,hF⟩:=h.back s hs
    have hk':(m.kind=7∧m.some_=true∧∃x:Nat,m.slot=x∧x < p.T∧m.val=p.val x)∨m.kind=8∧m.some_=false∧(p.T:Int)≤m.slot:=by
      rcases hk with ⟨e,-⟩ | ⟨-,k⟩ | ⟨-,-,k⟩
      · omega
      · exact .inr k
      · exact .inl k
    obtain ⟨t,t1,t2,t3,t4,t5⟩:=hB.handle hp hh hg hgc hmay hto hfr hk'
    have hle:l.length + ([]:List Ms).length≤4096:=by have:=wgs2_len l;have:=h.pot;simp;omega
    rw [Wd.deal_eq hn hto hs t1 hle,List.append_nil]
    have mono:∀x:Int,s.dec x≠none→t.dec x≠none:=fun x hx=>by
      obtain ⟨v,hv⟩:=ne_none hx
      rw [t4 x v hv];simp
    refine ⟨⟨by simp [h.len],fun i u hu hi=>?_,fun u hu=>?_,fun x hx=>h.ms x (hl x hx),?_,fun u hu x x1 x2 x3=>?_⟩,by dsimp only;omega⟩
    · rcases look t l i u hu with ⟨e,-⟩ | ⟨-,e⟩
      · exact absurd e hi
      · exact h.full i u e hi
    · rcases look t l c u hu with ⟨-,rfl⟩ | ⟨e,-⟩
      · exact ⟨t2,t3,fun x hx=>mono _ (hF x hx)⟩
      · exact absurd rfl e
    · have:=h.pot
      show wgs2 l≤_
      omega
    · rcases look t l c u hu with ⟨-,rfl⟩ | ⟨e,-⟩
      · rcases h.prog s hs x x1 x2 x3 with q | ⟨m',q1,q2,q3,q4⟩ | ⟨m',q1,q2,q3⟩
        · exact .inl (mono _ q)
        · rw [hn] at q1
          rcases List.mem_cons.1 q1 with rfl | q1
          · omega
          · exact .inr (.inl ⟨m',q1,q2,q3,q4⟩)
        · rw [hn] at q1
          rcases List.mem_cons.1 q1 with rfl | q1
          · left
            have:=t5 q2
            rw [q3] at this;exact this
          · exact .inr (.inr ⟨m',q1,q2,q3⟩)
      · exact absurd rfl e
  · -- one that knows all
    obtain ⟨hF,hh⟩:=h.full c s hs hca
    have hk':SkipM p g m∨(m.kind=3∧∃y:Nat,m.slot=y∧y < p.T)∨m.kind=8∧(m.some_=true→m.slot < p.T):=by
      rcases hk with ⟨e,k⟩ | ⟨-,k1,k2,-⟩ | ⟨-,k,-⟩
      · have:a=g:=by omega
        subst this;exact k
      · exact .inr (.inr ⟨k1,fun e=>by rw [k2] at e;cases e⟩)
      · omega
    obtain ⟨t,out,t1,t2,t3,t4,t5,t6,t7⟩:=hF.handle hp hh hg hgc hmay hto hfr hk'
    have hle:l.length + out.length≤4096:=by have:=wgs2_len l;have:=wgs2_len out;have:=h.pot;omega
    rw [Wd.deal_eq hn hto hs t1 hle]
    have hga:g≠a→out= []:=fun hga=>by
      rcases hk with ⟨e,-⟩ | ⟨-,k1,-,k2⟩ | ⟨-,k,-⟩
      · omega
      · exact t6 k1 k2
      · omega
    refine ⟨⟨by simp [h.len],fun i u hu hi=>?_,fun u hu=>?_,fun x hx=>?_,?_,fun u hu x x1 x2 x3=>?_⟩,?_⟩
    · rcases look t _ i u hu with ⟨rfl,rfl⟩ | ⟨-,e⟩
      · exact ⟨t2,t3⟩
      · exact h.full i u e hi
    · rcases look t _ a u hu with ⟨e,-⟩ | ⟨-,e⟩
      · exact absurd e.symm hca
      · exact h.back u e
    · rcases List.mem_append.1 hx with hx | hx
      · exact h.ms x (hl x hx)
      · by_cases e:g=a
        · subst e
          obtain ⟨y1,y2,y3,y4,y5,y6⟩:=t5 x hx
          exact ⟨y1,⟨c,g,hc,hg,hgc.symm,y2,y3⟩,.inr (.inr ⟨by omega,y3,y4,y5,y6⟩)⟩
        · rw [hga e] at hx;cases hx
    · have:=h.pot
      show wgs2 (l ++ out)≤_
      rw [wgs2_append];omega
    · rcases look t _ a u hu with ⟨e,-⟩ | ⟨-,e⟩
      · exact absurd e.symm hca
      · rcases h.prog u e x x1 x2 x3 with q | ⟨m',q1,q2,q3,q4⟩ | ⟨m',q1,q2,q3⟩
        · exact .inl q
        · rw [hn] at q1
          rcases List.mem_cons.1 q1 with rfl | q1
          · obtain ⟨m2,z1,z2⟩:=t7 q2 x (by omega) x2 (by omega)
            obtain ⟨-,-,-,y4,-⟩:=t5 m2 z1
            exact .inr (.inr ⟨m2,List.mem_append_right _ z1,y4,z2⟩)
          · exact .inr (.inl ⟨m',List.mem_append_left _ q1,q2,q3,q4⟩)
        · rw [hn] at q1
          rcases List.mem_cons.1 q1 with rfl | q1
          · exfalso
            rcases hk with ⟨-,⟨k,-⟩ | ⟨k,-⟩ | ⟨k,-⟩⟩ | ⟨-,k,-⟩ | ⟨-,k,-⟩ <;> omega
          · exact .inr (.inr ⟨m',List.mem_append_left _ q1,q2,q3⟩)
    · show wgs2 (l ++ out) + 1≤_
      rw [wgs2_append];omega
theorem drain (hp:p.Ok):∀(k:Nat) {w:Wd},PW p a f w→wgs2 w.net≤k→PW p a f (Wd.drain k w).1∧(Wd.drain k w).1.net= []
  | 0,w,h,hk=>by
    have hnil:w.net= []:=by have:=wgs2_len w.net;exact List.eq_nil_of_length_eq_zero (by omega)
    rw [Wd.drain_nil _ hnil]
    exact ⟨h,hnil⟩
  | k + 1,w,h,hk=>by
    cases hn:w.net with
    | nil=>rw [Wd.drain_nil _ hn];exact ⟨h,hn⟩
    | cons m l=>
      rw [Wd.drain_cons _ hn]
      obtain ⟨h1,h2⟩:=h.deal hp hn
      exact drain hp k h1 (by omega)
end PW
structure PR (p:Plan) (a f:Nat) (w:Wd):Prop where
  len:w.ss.length=p.n
  net:w.net= []
  full:∀(i:Nat) s,w.ss[i]? =some s→i≠a→Full p i s∧s.held= []
  back:∀s,w.ss[a]? =some s→Back p a s∧s.held= []∧∀x:Nat,x < f→x < p.T→s.dec (x:Int)≠none
structure PT (p:Plan) (a f:Nat) (w:Wd) (j:Nat):Prop where
  len:w.ss.length=p.n
  full:∀(i:Nat) s,w.ss[i]? =some s→i≠a→Full p i s∧s.held= []
  back:∀s,w.ss[a]? =some s→Back p a s∧s.held= []∧(∀x:Nat,x < f→s.dec (x:Int)≠none)∧(j≤a→s.front=f)
  ms:∀m∈w.net,MsgW p a m
  pot:wgs2 w.net≤500 * j
  prog:a < j→f < p.T→∃m∈w.net,m.kind=8∧m.slot=f∧m.frm=(a:Int)
theorem PT.step {p:Plan} {a f:Nat} {w:Wd} {j:Nat} (hp:p.Ok) (h:PT p a f w j) (hj:j < p.n) (ha:a < p.n) (hok:∀s,w.ss[j]? =some s→s.tick.Ok):PT p a f ((w.deed j Site.tick).tell j) (j + 1):=by
  have h7:=hp.n7;have h3:=hp.n3
  have hlt:j < w.ss.length:=by rw [h.len];exact hj
  obtain ⟨s,hs⟩:∃s,w.ss[j]? =some s:=⟨_,List.getElem?_eq_getElem hlt⟩
  have hjn:500 * j≤500 * 6:=Nat.mul_le_mul_left _ (by omega)
  have hpot:=h.pot
  have e:∀t out,s.tick.sync=(t,out)→out.length≤1000→(w.deed j Site.tick).tell j= {w with ss:=w.ss.set j t,net:=w.net ++ out}:=fun t out h1 h2=>by
    unfold Wd.deed
    rw [hs]
    dsimp only
    unfold Wd.tell
    dsimp only
    rw [List.getElem?_set_self hlt]
    dsimp only
    rw [h1,List.set_set]
    dsimp only
    rw [sends_all]
    have:=wgs2_len w.net
    omega
  have look:∀(t:Site) (i:Nat) u,(w.ss.set j t)[i]? =some u→(i=j∧u=t)∨(i≠j∧w.ss[i]? =some u):=fun t i u hu=>by
    by_cases c:i=j
    · subst c
      rw [List.getElem?_set_self hlt] at hu
      injection hu with hu
      exact .inl ⟨rfl,hu.symm⟩
    · rw [List.getElem?_set_ne (fun e=>c e.symm)] at hu
      exact .inr ⟨c,hu⟩
  by_cases hja:j=a
  · subst hja
    obtain ⟨hB,hh,hF,hfr⟩:=h.back s hs
    obtain ⟨t,out,t1,t2,t3,t4,t5,t6,t7⟩:=hB.tick hp hh (hok s hs)
    rw [e t out t1 (by have:=wgs2_len out;omega)]
    refine ⟨by simp [h.len],fun i u hu hi=>?_,fun u hu=>?_,fun m hm=>?_,?_,fun _ hf=>?_⟩
    · rcases look t i u hu with ⟨q,-⟩ | ⟨-,q⟩
      · exact absurd q hi
      · exact h.full i u q hi
    · rcases look t j u hu with ⟨-,rfl⟩ | ⟨q,-⟩
      · refine ⟨t2,t3,fun x hx=>?_,fun q=>by omega⟩
        obtain ⟨v,hv⟩:=ne_none (hF x hx)
        rw [t4 _ v hv];simp
      · exact absurd rfl q
    · rcases List.mem_append.1 hm with hm | hm
      · exact h.ms m hm
      · obtain ⟨q1,q2,⟨c,q3,q4,q5⟩,q6⟩:=t6 m hm
        exact ⟨q1,⟨j,c,hj,q3,fun e=>q4 e.symm,q2,q5⟩,.inl ⟨q2,q6⟩⟩
    · show wgs2 (w.net ++ out)≤_
      rw [wgs2_append];omega
    · have hfj:=hfr (Nat.le_refl _)
      obtain ⟨c,c1,c2⟩:∃c:Nat,c < p.n∧c≠j:=by
        by_cases q:j=0
        · exact ⟨1,by omega,by omega⟩
        · exact ⟨0,by omega,by omega⟩
      obtain ⟨m,m1,m2,m3,-⟩:=t7 (by rw [hfj];exact hf) c c1 c2
      exact ⟨m,List.mem_append_right _ m1,m2,by rw [m3,hfj],(t6 m m1).2.1⟩
  · obtain ⟨hF,hh⟩:=h.full j s hs hja
    obtain ⟨t,out,t1,t2,t3,t4,t5⟩:=hF.tick hp hh
    rw [e t out t1 (by omega)]
    have hw:=wgs2_le out 17 fun m _=>by unfold Ms.wg2;split <;> (try split) <;> omega
    refine ⟨by simp [h.len],fun i u hu hi=>?_,fun u hu=>?_,fun m hm=>?_,?_,fun q hf=>?_⟩
    · rcases look t i u hu with ⟨rfl,rfl⟩ | ⟨-,q⟩
      · exact ⟨t2,t3⟩
      · exact h.full i u q hi
    · rcases look t a u hu with ⟨q,-⟩ | ⟨-,q⟩
      · exact absurd q.symm hja
      · obtain ⟨b1,b2,b3,b4⟩:=h.back u q
        exact ⟨b1,b2,b3,fun z=>b4 (by omega)⟩
    · rcases List.mem_append.1 hm with hm | hm
      · exact h.ms m hm
      · obtain ⟨q1,q2,⟨c,q3,q4,q5⟩,q6,q7,q8⟩:=t5 m hm
        exact ⟨q1,⟨j,c,hj,q3,fun e=>q4 e.symm,q2,q5⟩,.inr (.inl ⟨by omega,q6,q7,q8⟩)⟩
    · show wgs2 (w.net ++ out)≤_
      rw [wgs2_append];omega
    · obtain ⟨m,m1,m2⟩:=h.prog (by omega) hf
      exact ⟨m,List.mem_append_left _ m1,m2⟩
theorem WInv.siteOk {w:Wd} {n c:Nat} {P:Int→List UInt8→Prop} {G:Int→List Rc} (h:WInv w n P c G) {i:Nat} {s:Site} (hs:w.ss[i]? =some s):s.Ok:=by
  rcases (h.site i s hs).2.2 with ⟨R,z,h1,-⟩ | h1
  · exact h1.al.ok
  · exact h1.dn.ok
theorem PT.ticks {p:Plan} {a f:Nat} {w:Wd} {P:Int→List UInt8→Prop} {G:Int→List Rc} (hp:p.Ok) (ha:a < p.n) (h:PT p a f w 0):∀j c,j≤p.n→WInv w p.n P (300 * j + c) G→PT p a f (w.ticks j) j
  | 0,_,_,_=>h
  | j + 1,c,hj,hI=>by
    have h1:=PT.ticks hp ha h j (300 + c) (by omega) (by
                                                           have e:300 * j + (300 + c)=300 * (j + 1) + c:=by omega
                                                           rw [e];exact hI)
    obtain ⟨G1,-,h2⟩:=WInv.ticks j (300 + c) (hI.less (d:=300 * j + (300 + c)) (by omega))
    refine h1.step hp (by omega) ha fun s hs=>?_
    have h3:=h2.tick j
    refine h3.siteOk (i:=j) ?_
    unfold Wd.deed
    rw [hs]
    dsimp only
    exact List.getElem?_set_self (List.getElem?_eq_some_iff.1 hs).1
theorem PR.round {p:Plan} {a f:Nat} {w:Wd} {P:Int→List UInt8→Prop} {G:Int→List Rc} {c:Nat} (hp:p.Ok) (ha:a < p.n) (h:PR p a f w) (hI:WInv w p.n P (300 * p.n + c) G):PR p a (f + 16) w.round.1:=by
  have h7:=hp.n7
  have halt:a < w.ss.length:=by rw [h.len];exact ha
  obtain ⟨s,hs⟩:∃s,w.ss[a]? =some s:=⟨_,List.getElem?_eq_getElem halt⟩
  obtain ⟨hB,hh,hF⟩:=h.back s hs
  have hfront:∀x:Nat,x < s.front→s.dec (x:Int)≠none:=fun x hx=>by
    by_cases c:x < s.taken
    · exact hB.tk x c
    · obtain ⟨v,hv⟩:=frontG_has s.lv _ _ x (by omega) hx
      unfold Site.dec;rw [hv];simp
  have hfge:min f p.T≤s.front:=by
    unfold Site.front
    by_cases c:s.taken≤4096
    · refine frontG_ge _ _ _ _ (fun x _ hx=>?_) (by have:=hp.T;omega)
      obtain ⟨v,hv⟩:=ne_none (hF x (by omega) (by omega))
      unfold Site.dec at hv;rw [hv];rfl
    · have:=frontG_lo s.lv (4096 - s.taken) s.taken;have:=hp.T;omega
  have h0:PT p a s.front w 0:=⟨h.len,h.full,fun u hu=>by
    rw [hs] at hu;injection hu with hu;subst hu
    exact ⟨hB,hh,hfront,fun _=>rfl⟩,fun m hm=>(by rw [h.net] at hm;cases hm),by rw [h.net];simp [wgs2],fun q=>by omega⟩
  have h1:=PT.ticks hp ha h0 p.n c (Nat.le_refl _) hI
  have hpw:PW p a s.front (w.ticks p.n):=⟨h1.len,h1.full,fun u hu=>by
      obtain ⟨b1,b2,b3,-⟩:=h1.back u hu
      exact ⟨b1,b2,b3⟩,h1.ms,by have:=h1.pot;have:500 * p.n≤500 * 7:=Nat.mul_le_mul_left _ h7;omega,fun u hu x x1 x2 x3=>.inr (.inl (h1.prog ha (by omega)))⟩
  have e:w.round=Wd.drain 20000 (w.ticks p.n):=by rw [Wd.round,h.len]
  obtain ⟨h2,h4⟩:=hpw.drain hp 20000 (by have:=hpw.pot;omega)
  rw [e]
  refine ⟨h2.len,h4,h2.full,fun u hu=>?_⟩
  obtain ⟨b1,b2,b3⟩:=h2.back u hu
  refine ⟨b1,b2,fun x hx hxT=>?_⟩
  by_cases c:x < s.front
  · exact b3 x c
  · rcases h2.prog u hu x (by omega) hxT (by omega) with q | ⟨m,q,-⟩ | ⟨m,q,-⟩
    · exact q
    · rw [h4] at q;cases q
    · rw [h4] at q;cases q
end Agio
namespace Agio
open Go Go.Proofs.YtijhlbeipglieaaGreat
theorem frontG_idem {α:Type} (L:AL α):∀k s:Nat,frontG L (k - (frontG L k s - s)) (frontG L k s)=frontG L k s
  | 0,s=>by rw [Nat.zero_sub];rfl
  | k + 1,s=>by
    by_cases h:(lookG (s:Int) L).isSome=true
    · have e:frontG L (k + 1) s=frontG L k (s + 1):=by conv=>lhs;unfold frontG;rw [if_pos h]
      have h1:=frontG_lo L k (s + 1)
      rw [e]
      have e2:k + 1 - (frontG L k (s + 1) - s)=k - (frontG L k (s + 1) - (s + 1)):=by omega
      rw [e2]
      exact frontG_idem L k (s + 1)
    · have e:∀k,frontG L (k + 1) s=s:=fun k=>by unfold frontG;rw [if_neg h]
      rw [e,Nat.sub_self,Nat.sub_zero,e]
namespace Site
def vals (s:Site):List (List UInt8):=valsF s.val s.front
theorem takes_front (s:Site):s.takes.1.front=s.front:=by
  have h:=frontG_idem s.lv (4096 - s.taken) s.taken
  have h1:=frontG_lo s.lv (4096 - s.taken) s.taken
  have e:4096 - frontG s.lv (4096 - s.taken) s.taken=(4096 - s.taken) - (frontG s.lv (4096 - s.taken) s.taken - s.taken):=by omega
  show frontG s.lv (4096 - frontG s.lv (4096 - s.taken) s.taken) (frontG s.lv (4096 - s.taken) s.taken)=frontG s.lv (4096 - s.taken) s.taken
  rw [e];exact h
theorem takes_vals (s:Site):s.takes.1.vals=s.vals:=by
  unfold vals
  rw [takes_front]
  rfl
end Site
namespace Wd
def topM (w:Wd):Nat→Int
  | 0=>0
  | i + 1=>max (w.topM i) (match w.ss[i]? with | some s=>s.topA | none=>0)
def lvlAt (w:Wd) (t:Int) (i:Nat):Bool:=match w.ss[i]? with
  | none=>false
  | some s=>decide (t≤(s.front:Int)) && !s.down && decide (s.vals=match w.ss[0]? with | some o=>o.vals | none=>[])
def level (w:Wd):Bool:=(List.range w.ss.length).all (w.lvlAt (w.topM w.ss.length))
theorem take_len (w:Wd) (i:Nat):(w.take i).ss.length=w.ss.length:=by unfold take;split <;> simp
theorem take_net (w:Wd) (i:Nat):(w.take i).net=w.net:=by unfold take;split <;> rfl
theorem take_at (w:Wd) (i j:Nat):(w.take i).ss[j]? =if i=j then (w.ss[j]?).map fun s=>s.takes.1 else w.ss[j]?:=by
  unfold take
  cases h:w.ss[i]? with
  | none=>
    dsimp only
    split
    · rename_i e;subst e;rw [h];rfl
    · rfl
  | some s=>
    dsimp only
    split
    · rename_i e;subst e
      rw [List.getElem?_set_self (List.getElem?_eq_some_iff.1 h).1,h];rfl
    · rename_i e;exact List.getElem?_set_ne e
inductive Tks:Wd→Wd→Prop
  | refl (w:Wd):Tks w w
  | take {w w':Wd} (i:Nat):Tks w w'→Tks w (w'.take i)
theorem Tks.ind {I:Wd→Prop} (hI:∀w i,I w→I (w.take i)) {w w':Wd} (h:Tks w w') (h0:I w):I w':=by
  induction h with
  | refl=>exact h0
  | take i _ ih=>exact hI _ i ih
theorem Tks.trans {u v w:Wd} (h:Tks u v) (k:Tks v w):Tks u w:=by
  induction k with
  | refl=>exact h
  | take i _ ih=>exact .take i ih
theorem Tks.look {w w':Wd} (h:Tks w w'):w'.ss.length=w.ss.length∧∀(j:Nat) s,w.ss[j]? =some s→∃t,w'.ss[j]? =some t∧t.topA=s.topA∧t.front=s.front∧t.down=s.down∧t.vals=s.vals:=by
  induction h with
  | refl=>exact ⟨rfl,fun j s hs=>⟨s,hs,rfl,rfl,rfl,rfl⟩⟩
  | @take w' i _ ih=>
    obtain ⟨h1,h2⟩:=ih
    refine ⟨(take_len _ _).trans h1,fun j s hs=>?_⟩
    obtain ⟨t,t1,t2,t3,t4,t5⟩:=h2 j s hs
    rw [take_at]
    split
    · exact ⟨t.takes.1,by rw [t1];rfl,t2,(Site.takes_front t).trans t3,t4,(Site.takes_vals t).trans t5⟩
    · exact ⟨t,t1,t2,t3,t4,t5⟩
end Wd
def cntV (V:Nat→Option (List UInt8)) (t:Nat):Nat:=((List.range t).filter fun x=>(V x).isSome).length
theorem cntV_succ (V:Nat→Option (List UInt8)) (t:Nat):cntV V (t + 1)=cntV V t + (if (V t).isSome then 1 else 0):=by
  unfold cntV
  rw [List.range_succ,List.filter_append,List.length_append]
  congr 1
  rw [List.filter_cons]
  split <;> rfl
theorem cntV_upd {V:Nat→Option (List UInt8)} {x:Nat} {v:List UInt8} (hx:V x=none):∀t,cntV (updV V x v) t=cntV V t + (if x < t then 1 else 0)
  | 0=>by simp [cntV]
  | t + 1=>by
    rw [cntV_succ,cntV_succ,cntV_upd hx t]
    by_cases e:t=x
    · subst e
      rw [if_neg (Nat.lt_irrefl _),if_pos (Nat.lt_succ_self _),hx]
      simp [updV]
    · have e2:updV V x v t=V t:=if_neg e
      rw [e2]
      by_cases h:x < t
      · rw [if_pos h,if_pos (Nat.lt_succ_of_lt h)];omega
      · have h':¬ x < t + 1:=by omega
        rw [if_neg h,if_neg h'];omega
theorem cntV_ext {V:Nat→Option (List UInt8)} {a:Nat} (h:∀x,a≤x→V x=none):∀b,a≤b→cntV V b=cntV V a:=by
  intro b hb
  induction b with
  | zero=>rw [show a=0 by omega]
  | succ b ih=>
    by_cases e:a=b + 1
    · rw [e]
    · rw [cntV_succ,ih (by omega),h b (by omega)];rfl
theorem valsF_cnt {p:Plan} (hp:p.Ok) (t:Nat):(valsF p.val t).length=cntV p.V t:=by
  induction t with
  | zero=>rfl
  | succ t ih=>
    rw [valsF_add,List.length_append,ih,cntV_succ]
    congr 1
    cases h:p.V t with
    | none=>simp [List.range',Plan.val,h]
    | some v=>
      have:=(hp.V t v h).2
      have hv:v≠[]:=by rintro rfl;simp at this
      simp [List.range',Plan.val,h,hv]
structure PreW (n q:Nat) (V:Nat→Option (List UInt8)) (w:Wd):Prop where
  len:w.ss.length=n
  net:w.net= []
  site:∀(i:Nat) s,w.ss[i]? =some s→Pre n V q i s
  vlen:∀x v,V x=some v→v.length=2∧x < n * q
  cnt:cntV V (n * q)=q
namespace PreW
variable {n q:Nat} {V:Nat→Option (List UInt8)} {w:Wd}
theorem new (n:Nat):PreW n 0 (fun _=>none) (Wd.new n 2):=by
  refine ⟨by simp [Wd.new],rfl,fun i s hs=>?_,fun x v h=>(by cases h),rfl⟩
  unfold Wd.new at hs
  simp only at hs
  obtain ⟨hi,he⟩:=List.getElem?_eq_some_iff.1 hs
  rw [List.length_map,List.length_range] at hi
  rw [List.getElem_map,List.getElem_range] at he
  subst he
  exact Pre.new n hi
theorem submit (h3:3≤n) (h7:n≤7) (h:PreW n q V w) (hq:q≤5) {i:Nat} (hi:i < n) {v:List UInt8} (hv:v.length=2) (a m:Int):(w.do_ 1 i a m v).2.2=0∧∃V',PreW n (q + 1) V' (w.do_ 1 i a m v).1:=by
  have hlt:i < w.ss.length:=by rw [h.len];exact hi
  obtain ⟨s,hs⟩:∃s,w.ss[i]? =some s:=⟨_,List.getElem?_eq_getElem hlt⟩
  obtain ⟨x,x1,x2,x3,x4,x5⟩:=(h.site i s hs).submit h3 h7 hq hv
  have e:w.do_ 1 i a m v=({w with ss:=w.ss.set i (s.submit v).1},(s.submit v).2.1,(s.submit v).2.2):=by
    unfold Wd.do_ Wd.atSite Wd.place
    rw [if_pos rfl,if_pos (by omega)]
    dsimp only
    unfold Wd.subm
    rw [show (i:Int).toNat=i by omega,hs]
  rw [e]
  have hVn:∀y,n * q≤y→V y=none:=fun y hy=>by
    cases c:V y with
    | none=>rfl
    | some u=>have:=(h.vlen y u c).2;omega
  have hnq:n * (q + 1)=n * q + n:=Nat.mul_succ _ _
  refine ⟨by dsimp only;rw [x1],updV V x v,by simp [h.len],h.net,fun j t ht=>?_,fun y u hu=>?_,?_⟩
  · have ht:(w.ss.set i (s.submit v).1)[j]? =some t:=ht
    by_cases c:i=j
    · subst c
      rw [List.getElem?_set_self hlt] at ht
      injection ht with ht
      rw [←ht];exact x5
    · rw [List.getElem?_set_ne c] at ht
      exact (h.site j t ht).other (by rw [x2];exact c)
  · unfold updV at hu
    split at hu
    · rename_i c
      injection hu with hu
      subst hu c
      exact ⟨hv,x4⟩
    · have:=h.vlen y u hu
      exact ⟨this.1,by omega⟩
  · rw [cntV_upd x3,if_pos x4,cntV_ext hVn _ (by omega),h.cnt]
theorem plan (h3:3≤n) (h7:n≤7) (h:PreW n q V w) (hq:q≤6):∃T,(Plan.mk n T V).Ok∧cntV V T=q∧(∀x,x < T→V x=none→∃z,x < z∧V z≠none)∧(∀x z,x % n=z % n→x < z→V z≠none→V x≠none)∧(q=0→T=0):=by
  have key:∀N,(∀x,N≤x→V x=none)→∃T,T≤N∧(∀x,T≤x→V x=none)∧(T=0∨V (T - 1)≠none):=by
    intro N
    induction N with
    | zero=>exact fun hN=>⟨0,Nat.le_refl _,hN,.inl rfl⟩
    | succ N ih=>
      intro hN
      cases c:V N with
      | some u=>exact ⟨N + 1,Nat.le_refl _,hN,.inr (by rw [Nat.add_sub_cancel,c];simp)⟩
      | none=>
        obtain ⟨T,t1,t2,t3⟩:=ih fun x hx=>by
          by_cases e:x=N
          · rw [e];exact c
          · exact hN x (by omega)
        exact ⟨T,by omega,t2,t3⟩
  have hVn:∀y,n * q≤y→V y=none:=fun y hy=>by
    cases c:V y with
    | none=>rfl
    | some u=>have:=(h.vlen y u c).2;omega
  obtain ⟨T,t1,t2,t3⟩:=key _ hVn
  have hnq:n * q≤n * 6:=Nat.mul_le_mul_left _ hq
  refine ⟨T,⟨h3,h7,by show T≤6 * n;omega,fun x v hx=>⟨?_,(h.vlen x v hx).1⟩⟩,?_,fun x hx hv=>⟨T - 1,?_,?_⟩,fun x z hxz hlt hz=>?_,fun e=>by subst e;simpa using t1⟩
  · apply Classical.byContradiction;intro c
    have hx:V x=some v:=hx
    rw [t2 x (Nat.le_of_not_lt c)] at hx;cases hx
  · rw [←cntV_ext t2 _ t1,h.cnt]
  · rcases t3 with t3 | t3
    · omega
    · have:x≠T - 1:=by rintro rfl;exact t3 hv
      omega
  · rcases t3 with t3 | t3
    · omega
    · exact t3
  · have hzn:z % n < n:=Nat.mod_lt _ (by omega)
    have hlt':z % n < w.ss.length:=by rw [h.len];exact hzn
    have hP:=h.site (z % n) _ (List.getElem?_eq_getElem hlt')
    exact (hP.iff x hxz).2 (by have:=(hP.iff z rfl).1 hz;omega)
theorem round (h:PreW n q V w) (hq:q≤6) {T:Nat} (hp:(Plan.mk n T V).Ok) (hz:∀x,x < T→V x=none→∃z,x < z∧V z≠none) (hc:∀x z,x % n=z % n→x < z→V z≠none→V x≠none):CW (Plan.mk n T V) w.round.1 [] []:=by
  have h0:TW (Plan.mk n T V) q w 0:=⟨h.len,fun i s hs _=>h.site i s hs,fun i s _ hi=>by omega,by rw [h.net];simp [wgs],fun m hm=>(by rw [h.net] at hm;cases hm),fun i hi=>by omega⟩
  have h1:=TW.ticks hp hq h0 n (Nat.le_refl _)
  have h2:=h1.calm hp hq hz hc
  have e:w.round=Wd.drain 20000 (w.ticks n):=by rw [Wd.round,h.len]
  rw [e]
  exact h2.drain hp 20000 (by have:=h2.pot;omega)
theorem take (h:PreW n q V w) (i:Nat):PreW n q V (w.take i):=by
  refine ⟨(Wd.take_len _ _).trans h.len,(Wd.take_net _ _).trans h.net,fun j s hs=>?_,h.vlen,h.cnt⟩
  rw [Wd.take_at] at hs
  split at hs
  · obtain ⟨s0,h0,rfl⟩:=Option.map_eq_some_iff.1 hs
    have k:=h.site j s0 h0
    refine ⟨k.me,k.n,k.pat,k.up,k.lt,k.nxq,k.iff,k.st0,k.st1,k.lv,?_,k.dn,k.rs0,k.rs1,k.held0,k.held1,k.hlen,k.wt,k.db,k.top,k.topge⟩
    show s0.front=0
    unfold Site.front
    rw [k.lv,k.taken]
    rfl
  · exact h.site j s hs
end PreW
structure LW (p:Plan) (w:Wd):Prop where
  len:w.ss.length=p.n
  net:w.net= []
  full:∀(i:Nat) s,w.ss[i]? =some s→Full p i s∧s.held= []∧s.dn=s.db.length∧(∀x:Int,(p.T:Int)≤x→s.stat x=Sp.zero)∧∀(k:Nat) v,p.V k=some v→k % p.n=i→s.stat (k:Int)≠Sp.zero
theorem CW.level {p:Plan} {w:Wd} (hp:p.Ok) (h:CW p w [] []):LW p w:=by
  refine ⟨h.len,by rw [h.net];rfl,fun i s hs=>?_⟩
  obtain ⟨hc,hh,-⟩:=h.site i s hs
  have hall:∀x:Nat,x < p.T→s.dec (x:Int)=some (p.val x):=fun x hx=>h.all hp hs hx
  refine ⟨⟨hc.me,hc.n,hc.lt,hc.up,hc.nx,hall,hc.lv,?_,hc.tp⟩,hh.1,hh.2,hc.stT,fun k v hv hk e=>?_⟩
  · cases c:s.rs with
    | nil=>rfl
    | cons e l=>
      exfalso
      have h1:lookG e.1 s.rs≠none:=fun hn=>lookG_none.1 hn e (by rw [c];simp) rfl
      obtain ⟨r,hr⟩:=ne_none h1
      obtain ⟨hd,k,v,e1,e2,-⟩:=hc.rs _ r hr
      rw [e1,hall k (hp.V k v e2).1] at hd;cases hd
  · rw [(hc.own k v hv hk).1] at e
    simp [Sp.zero] at e
theorem PreW.lw0 {n:Nat} {V:Nat→Option (List UInt8)} {w:Wd} (h:PreW n 0 V w):LW (Plan.mk n 0 V) w:=by
  have hV:∀x,V x=none:=fun x=>by
    cases c:V x with
    | none=>rfl
    | some v=>have:=(h.vlen x v c).2;simp at this
  refine ⟨h.len,h.net,fun i s hs=>?_⟩
  have k:=h.site i s hs
  have hd:∀x,s.dec x=none:=fun x=>by unfold Site.dec;rw [k.lv];rfl
  have hb:s.db.length=0:=by have:=k.db;omega
  have hnx:s.nx=0:=by have:=k.nxq;omega
  refine ⟨⟨k.me,k.n,k.lt,k.up,by omega,fun x hx=>absurd hx (Nat.not_lt_zero _),fun x w hx=>?_,?_,?_⟩,?_,by rw [k.dn,hb],fun x _=>k.st0 x fun ⟨k',v,_,e,_⟩=>?_,fun x v hv=>?_⟩
  · rw [hd] at hx;cases hx
  · cases c:s.rs with
    | nil=>rfl
    | cons e l=>
      obtain ⟨k',v,e1,-⟩:=k.rs0 e (by rw [c];simp)
      rw [hV] at e1;cases e1
  · show s.top≤((0:Nat):Int)
    rcases k.top with e | ⟨k',e,-⟩
    · omega
    · exact absurd (hV k') e
  · cases c:s.held with
    | nil=>rfl
    | cons e l=>
      obtain ⟨k',v,e1,-⟩:=k.held0 e (by rw [c];simp)
      rw [hV] at e1;cases e1
  · rw [hV] at e;cases e
  · have hv:V x=some v:=hv
    rw [hV] at hv;cases hv
theorem LW.take {p:Plan} {w:Wd} (h:LW p w) (i:Nat):LW p (w.take i):=by
  refine ⟨(Wd.take_len _ _).trans h.len,(Wd.take_net _ _).trans h.net,fun j s hs=>?_⟩
  rw [Wd.take_at] at hs
  split at hs
  · obtain ⟨s0,h0,rfl⟩:=Option.map_eq_some_iff.1 hs
    obtain ⟨k1,k2,k3,k4,k5⟩:=h.full j s0 h0
    exact ⟨k1.take,k2,k3,k4,k5⟩
  · exact h.full j s hs
theorem Full.front_eq {p:Plan} {i:Nat} {s:Site} (hp:p.Ok) (h:Full p i s) (ht:∀x:Nat,x < s.taken→s.dec (x:Int)≠none):s.front=p.T:=by
  have h1:p.T≤s.front:=by
    unfold Site.front
    by_cases hc:s.taken≤4096
    · exact frontG_ge _ _ _ _ (fun x _ hx=>by have:=h.all x hx;unfold Site.dec at this;rw [this];rfl) (by have:=hp.T;have:=hp.n7;omega)
    · have:=frontG_lo s.lv (4096 - s.taken) s.taken;have:=hp.T;have:=hp.n7;omega
  have h2:s.front≤p.T:=by
    apply Classical.byContradiction;intro c
    have h3:s.dec ((p.T:Nat):Int)≠none:=by
      by_cases c2:p.T < s.taken
      · exact ht _ c2
      · obtain ⟨v,hv⟩:=frontG_has s.lv (4096 - s.taken) s.taken p.T (by omega) (by unfold Site.front at c;omega)
        unfold Site.dec;rw [hv];simp
    obtain ⟨v,hv⟩:=ne_none h3
    obtain ⟨k,e,hk,-⟩:=h.lv _ v hv
    omega
  omega
theorem Full.vals_eq {p:Plan} {i:Nat} {s:Site} (hp:p.Ok) (h:Full p i s) (ht:∀x:Nat,x < s.taken→s.dec (x:Int)≠none):s.vals=valsF p.val p.T:=by
  unfold Site.vals
  rw [h.front_eq hp ht]
  exact valsF_congr fun x hx=>by unfold Site.val;rw [h.all x hx];rfl
theorem DInv.tk {w:Wd} (h:DInv w) {i:Nat} {s:Site} (hs:w.ss[i]? =some s):∀x:Nat,x < s.taken→s.dec (x:Int)≠none:=fun x hx=>by
  obtain ⟨d,-,h2⟩:=h.one i s hs
  obtain ⟨v,hv⟩:=h2.all x hx
  rw [hv];simp
theorem DInv.doneAt {w:Wd} (h:DInv w) {i:Nat} {s:Site} (hs:w.ss[i]? =some s):(w.take i).done.getD i []=s.vals:=by
  obtain ⟨d,h1,h2⟩:=(h.take i).one i s.takes.1 (by rw [Wd.take_at,if_pos rfl,hs];rfl)
  rw [List.getD_eq_getElem?_getD,h1,Option.getD_some,h2.eq]
  rfl
theorem Wd.topM_le {w:Wd} {T:Int} (h0:0≤T) (h:∀(i:Nat) s,w.ss[i]? =some s→s.topA≤T):∀i,w.topM i≤T
  | 0=>h0
  | i + 1=>by
    unfold Wd.topM
    have:=Wd.topM_le h0 h i
    cases c:w.ss[i]? with
    | none=>dsimp only;omega
    | some s=>have:=h i s c;dsimp only;omega
theorem LW.lvl {p:Plan} {w:Wd} (hp:p.Ok) (h:LW p w) (hD:DInv w):w.level=true:=by
  have h3:=hp.n3
  have htop:=Wd.topM_le (w:=w) (T:=p.T) (by omega) (fun i s hs=>(topA_le (h.full i s hs).1.lv (h.full i s hs).1.tp).2) w.ss.length
  unfold Wd.level
  rw [List.all_eq_true]
  intro i hi
  have hi:=List.mem_range.1 hi
  have hs:=List.getElem?_eq_getElem hi
  have h0:0 < w.ss.length:=by rw [h.len];omega
  have ho:=List.getElem?_eq_getElem h0
  obtain ⟨k1,-⟩:=h.full i _ hs
  obtain ⟨k2,-⟩:=h.full 0 _ ho
  unfold Wd.lvlAt
  rw [hs,ho]
  dsimp only
  have e1:=k1.vals_eq hp (hD.tk hs)
  have e2:=k2.vals_eq hp (hD.tk ho)
  rw [k1.front_eq hp (hD.tk hs),k1.up,decide_eq_true htop,decide_eq_true (e1.trans e2.symm)]
  rfl
theorem PreW.lvl {n q:Nat} {V:Nat→Option (List UInt8)} {w:Wd} (h3:3≤n) (h:PreW n q V w):w.level=decide (q=0):=by
  have hfr:∀(i:Nat) s,w.ss[i]? =some s→s.front=0∧s.vals= []:=fun i s hs=>by
    have k:=h.site i s hs
    have e:s.front=0:=by unfold Site.front;rw [k.lv,k.taken];rfl
    exact ⟨e,by unfold Site.vals;rw [e];rfl⟩
  have htA:∀(i:Nat) s,w.ss[i]? =some s→s.topA=s.top:=fun i s hs=>by
    have k:=h.site i s hs
    unfold Site.topA
    rw [k.lv]
    show max s.top 0=_
    rcases k.top with e | ⟨k',-,-,e⟩ <;> omega
  by_cases hq:q=0
  · subst hq
    have hV:∀x,V x=none:=fun x=>by
      cases c:V x with
      | none=>rfl
      | some v=>have:=(h.vlen x v c).2;simp at this
    have htop:=Wd.topM_le (w:=w) (T:=0) (Int.le_refl _) (fun i s hs=>by
      rw [htA i s hs]
      rcases (h.site i s hs).top with e | ⟨k',e,-⟩
      · omega
      · exact absurd (hV k') e) w.ss.length
    rw [decide_eq_true rfl]
    unfold Wd.level
    rw [List.all_eq_true]
    intro i hi
    have hi:=List.mem_range.1 hi
    have hs:=List.getElem?_eq_getElem hi
    have h0:0 < w.ss.length:=by rw [h.len];omega
    have ho:=List.getElem?_eq_getElem h0
    unfold Wd.lvlAt
    rw [hs,ho]
    dsimp only
    rw [(hfr i _ hs).1,(h.site i _ hs).up,decide_eq_true (show w.topM w.ss.length≤((0:Nat):Int) from htop),decide_eq_true ((hfr i _ hs).2.trans (hfr 0 _ ho).2.symm)]
    rfl
  · rw [decide_eq_false hq]
    -- some slot has a value
    have hex:∃x v,V x=some v:=by
      apply Classical.byContradiction;intro hn
      have hz:∀x,V x=none:=fun x=>by
        cases c:V x with
        | none=>rfl
        | some v=>exact absurd ⟨x,v,c⟩ hn
      have:=cntV_ext (V:=V) (a:=0) (fun x _=>hz x) (n * q) (Nat.zero_le _)
      rw [h.cnt] at this
      exact hq this
    obtain ⟨x,v,hv⟩:=hex
    have hxn:x % n < n:=Nat.mod_lt _ (by omega)
    have hlt:x % n < w.ss.length:=by rw [h.len];exact hxn
    have hs:=List.getElem?_eq_getElem hlt
    have hpos:0 < w.topM w.ss.length:=by
      have key:∀j,x % n < j→0 < w.topM j:=by
        intro j hj
        induction j with
        | zero=>omega
        | succ j ih=>
          unfold Wd.topM
          by_cases e:x % n=j
          · subst e
            have k:=h.site _ _ hs
            have h1:0 < (w.ss[x % n]).topA:=by
              rw [htA _ _ hs]
              have:=k.topge x v hv rfl;omega
            rw [hs]
            dsimp only
            omega
          · have:=ih (by omega);omega
      exact key _ hlt
    unfold Wd.level
    rw [Bool.eq_false_iff]
    intro hc
    rw [List.all_eq_true] at hc
    have h1:=hc _ (List.mem_range.2 hlt)
    unfold Wd.lvlAt at h1
    rw [hs] at h1
    dsimp only at h1
    rw [(hfr _ _ hs).1] at h1
    simp only [Bool.and_eq_true,decide_eq_true_eq] at h1
    omega
end Agio
namespace Agio
open Go Go.Proofs.YtijhlbeipglieaaGreat
theorem rec_nz {R:List Rc} (hg:Good R) (hm:∀r∈R,r.May) {r:Rc} (hr:r∈R):stOf R r.slot≠Sp.zero:=by
  obtain ⟨l1,l2,rfl⟩:=List.append_of_mem hr
  have e:l1 ++ r :: l2=(l1 ++ [r]) ++ l2:=by simp
  rw [e] at hg ⊢
  have h1:=Good.le l2 _ hg r.slot
  have h2:=(hg.pre).last
  have h3:=(hg l1 r l2 (by simp)).2
  rw [stOf_snoc,if_pos rfl] at h1
  intro hz
  rw [hz] at h1
  unfold upd1 at h1
  by_cases hk:r.kind=1
  · rw [if_pos hk] at h1
    have:=h1.p
    have:=h3 hk
    unfold Rc.bal Bl.lt Sp.zero at *
    dsimp only at *
    omega
  · rw [if_neg hk,if_neg (fun h=>h2 ((cmpB_lt _ _).1 h))] at h1
    have:=(h1.so rfl).1
    simp [Sp.zero] at this
theorem recall_top {T:Int} :∀(l:List Rc) (s:Site),(∀r∈l,r.slot < T)→s.top≤T→(l.foldl Site.recall s).top≤T
  | [],_,_,h=>h
  | r :: l,s,hl,h=>by
    rw [List.foldl_cons]
    refine recall_top l _ (fun x hx=>hl x (by simp [hx])) ?_
    have:=hl r (by simp)
    have ht:∀y,(s.turn r.slot y).top≤T:=fun y=>by
      show max s.top (r.slot + 1)≤T
      omega
    unfold Site.recall
    split
    · exact ht _
    split
    · exact h
    · exact ht _
theorem Full.crash {p:Plan} {a:Nat} {s:Site} {S R:List Rc} {z:Nat} (h:Full p a s) (hA:Alive s S R z) (hdn:s.dn=s.db.length) (hst:∀x:Int,(p.T:Int)≤x→s.stat x=Sp.zero) (hown:∀(k:Nat) v,p.V k=some v→k % p.n=a→s.stat (k:Int)≠Sp.zero) :
    Back p a (s.crash 0).restart∧(s.crash 0).restart.held= []:=by
  have hk:s.kept 0=s.db.length:=by
    unfold Site.kept
    rw [hdn];omega
  have e1:s.crash 0= {s with db:=s.db,dn:=s.db.length,down:=true}:=by
    unfold Site.crash
    rw [if_neg (by rw [h.up];simp),hk,List.take_length]
  have hrd:readB s.db=(R,(layB R).length):=by rw [hA.db];exact readB_lay' hA.may
  have e2:(s.crash 0).restart=R.foldl Site.recall {Site.new s.me s.n s.pat with db:=s.db.take (layB R).length,dn:=min s.db.length (layB R).length}:=by
    rw [e1]
    unfold Site.restart
    rw [if_pos rfl]
    dsimp only
    rw [hrd]
  have h0:({Site.new s.me s.n s.pat with db:=s.db.take (layB R).length,dn:=min s.db.length (layB R).length} :Site).Ok:=(Go.Proofs.YtijhlbeipglieaaGreat.Site.new_ok hA.ok.newOk).disk _ _
  have h1:=recall_all R [] _ h0 hA.may (fun x=>rfl)
  rw [List.nil_append] at h1
  have hsl:∀r∈R,r.slot < p.T:=fun r hr=>by
    apply Classical.byContradiction;intro hc
    refine rec_nz hA.good hA.may hr ?_
    rw [←hA.st]
    exact hst _ (by omega)
  have htop:=recall_top (T:=p.T) R {Site.new s.me s.n s.pat with db:=s.db.take (layB R).length,dn:=min s.db.length (layB R).length} hsl (by show (0:Int)≤_;omega)
  rw [e2]
  obtain ⟨t,ht⟩:∃t,R.foldl Site.recall {Site.new s.me s.n s.pat with db:=s.db.take (layB R).length,dn:=min s.db.length (layB R).length} =t:=⟨_,rfl⟩
  rw [ht] at h1 htop ⊢
  have hlv:t.lv= []:=h1.lv
  have hdec:∀x,t.dec x=none:=fun x=>by unfold Site.dec;rw [hlv];rfl
  refine ⟨⟨h1.me.trans h.me,h1.n.trans h.n,h.lt,h1.down,by rw [h1.nx];show 0≤4096;omega,fun x w hx=>?_,fun k v hv hk=>?_,fun e he=>?_,htop,fun x hx=>?_⟩,h1.held⟩
  · rw [hdec] at hx;cases hx
  · rw [h1.st,←hA.st];exact hown k v hv hk
  · have:t.rs= []:=h1.rs
    rw [this] at he;cases he
  · have:t.taken=0:=h1.taken
    omega
theorem WInv.alive {w:Wd} {n c:Nat} {P:Int→List UInt8→Prop} {G:Int→List Rc} (h:WInv w n P c G) {i:Nat} {s:Site} (hs:w.ss[i]? =some s) (hup:s.down=false):∃S R z,Alive s S R z:=by
  rcases (h.site i s hs).2.2 with ⟨R,z,h1,-⟩ | h1
  · exact ⟨_,R,z,h1.al⟩
  · have:=h1.dn.down;rw [hup] at this;cases this
theorem LW.back {p:Plan} {w:Wd} {P:Int→List UInt8→Prop} {G:Int→List Rc} {c:Nat} (h:LW p w) (hI:WInv w p.n P c G) {a:Nat} (ha:a < p.n) (x1 x2 y1 y2:Int) (v1 v2:List UInt8) (hy:y1=0) :
    PR p a 0 (((w.do_ 7 a x1 y1 v1).1).do_ 8 a x2 y2 v2).1:=by
  subst hy
  have halt:a < w.ss.length:=by rw [h.len];exact ha
  obtain ⟨s,hs⟩:∃s,w.ss[a]? =some s:=⟨_,List.getElem?_eq_getElem halt⟩
  obtain ⟨k1,k2,k3,k4,k5⟩:=h.full a s hs
  obtain ⟨S,R,z,hA⟩:=hI.alive hs k1.up
  obtain ⟨b1,b2⟩:=k1.crash hA k3 k4 k5
  have e1:(w.do_ 7 a x1 0 v1).1= {w with ss:=w.ss.set a (s.crash 0)}:=by
    unfold Wd.do_ Wd.atSite Wd.place
    rw [if_neg (by omega),if_neg (by omega),if_neg (by omega),if_neg (by omega),if_neg (by omega),if_neg (by omega),if_pos rfl,if_pos (by omega)]
    dsimp only
    unfold Wd.deed
    rw [show (a:Int).toNat=a by omega,hs]
  obtain ⟨d,hd⟩:∃d,(((w.do_ 7 a x1 0 v1).1).do_ 8 a x2 y2 v2).1= {w with ss:=w.ss.set a (s.crash 0).restart,done:=d}:=by
    rw [e1]
    unfold Wd.do_ Wd.atSite Wd.place
    rw [if_neg (by omega),if_neg (by omega),if_neg (by omega),if_neg (by omega),if_neg (by omega),if_neg (by omega),if_neg (by omega),if_pos rfl,if_pos (by dsimp only;rw [List.length_set];omega)]
    dsimp only
    unfold Wd.restart
    dsimp only
    rw [show (a:Int).toNat=a by omega,List.getElem?_set_self halt]
    dsimp only
    rw [List.set_set]
    exact ⟨_,rfl⟩
  rw [hd]
  refine ⟨by simp [h.len],h.net,fun i u hu hi=>?_,fun u hu=>?_⟩
  · have hu:(w.ss.set a (s.crash 0).restart)[i]? =some u:=hu
    rw [List.getElem?_set_ne (fun e=>hi e.symm)] at hu
    obtain ⟨j1,j2,-⟩:=h.full i u hu
    exact ⟨j1,j2⟩
  · have hu:(w.ss.set a (s.crash 0).restart)[a]? =some u:=hu
    rw [List.getElem?_set_self halt] at hu
    injection hu with hu
    subst hu
    exact ⟨b1,b2,fun x hx=>by omega⟩
theorem Back.take {p:Plan} {a:Nat} {s:Site} (h:Back p a s):Back p a s.takes.1:=by
  refine ⟨h.me,h.n,h.lt,h.up,h.nx,h.lv,h.own,h.rs,h.tp,fun x hx=>?_⟩
  have hx:x < s.front:=hx
  show s.dec (x:Int)≠none
  by_cases c:x < s.taken
  · exact h.tk x c
  · obtain ⟨v,hv⟩:=frontG_has s.lv _ _ x (by omega) hx
    unfold Site.dec;rw [hv];simp
theorem PR.take {p:Plan} {a f:Nat} {w:Wd} (h:PR p a f w) (i:Nat):PR p a f (w.take i):=by
  refine ⟨(Wd.take_len _ _).trans h.len,(Wd.take_net _ _).trans h.net,fun j s hs hj=>?_,fun s hs=>?_⟩
  · rw [Wd.take_at] at hs
    split at hs
    · obtain ⟨s0,h0,rfl⟩:=Option.map_eq_some_iff.1 hs
      obtain ⟨k1,k2⟩:=h.full j s0 h0 hj
      exact ⟨k1.take,k2⟩
    · exact h.full j s hs hj
  · rw [Wd.take_at] at hs
    split at hs
    · obtain ⟨s0,h0,rfl⟩:=Option.map_eq_some_iff.1 hs
      obtain ⟨k1,k2,k3⟩:=h.back s0 h0
      exact ⟨k1.take,k2,k3⟩
    · exact h.back s hs
theorem PR.vals {p:Plan} {a f:Nat} {w:Wd} (hp:p.Ok) (h:PR p a f w) {s:Site} (hs:w.ss[a]? =some s) (hc:p.T≤f∨cntV p.V p.T≤s.vals.length):s.vals=valsF p.val p.T:=by
  obtain ⟨hB,-,hF⟩:=h.back s hs
  have h7:=hp.n7;have hT:=hp.T
  have hfr:∀x:Nat,x < s.front→s.dec (x:Int)=some (p.val x)∧x < p.T:=fun x hx=>by
    have h1:s.dec (x:Int)≠none:=by
      by_cases c:x < s.taken
      · exact hB.tk x c
      · obtain ⟨v,hv⟩:=frontG_has s.lv _ _ x (by omega) hx
        unfold Site.dec;rw [hv];simp
    obtain ⟨v,hv⟩:=ne_none h1
    obtain ⟨k,e1,e2,rfl⟩:=hB.lv _ v hv
    have:x=k:=by omega
    subst this
    exact ⟨hv,e2⟩
  have hle:s.front≤p.T:=by
    cases hq:s.front with
    | zero=>omega
    | succ q=>have:=(hfr q (by omega)).2;omega
  have hv:s.vals=valsF p.val s.front:=by
    unfold Site.vals
    exact valsF_congr fun x hx=>by unfold Site.val;rw [(hfr x hx).1];rfl
  obtain ⟨k,hk⟩:∃k,p.T=s.front + k:=⟨p.T - s.front,by omega⟩
  rcases hc with hc | hc
  · have:p.T≤s.front:=by
      unfold Site.front
      by_cases c:s.taken≤4096
      · refine frontG_ge _ _ _ _ (fun x _ hx=>?_) (by omega)
        obtain ⟨v,hv⟩:=ne_none (hF x (by omega) hx)
        unfold Site.dec at hv;rw [hv];rfl
      · have:=frontG_lo s.lv (4096 - s.taken) s.taken;omega
    rw [hv,show s.front=p.T by omega]
  · have h1:=valsF_cnt hp p.T
    rw [hk,valsF_add,←hv] at h1 ⊢
    rw [List.length_append] at h1
    rw [←hk] at h1
    have h2:(((List.range' s.front k).map p.val).filter fun v=>decide (v≠[])).length=0:=by omega
    rw [List.eq_nil_of_length_eq_zero h2,List.append_nil]
end Agio
