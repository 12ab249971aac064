/- For WorldCalm. -/
import Derived.Test.YtijhlbeipglieaaGreatPkCalmH
import Derived.Test.YtijhlbeipglieaaGreatPkCalmG
set_option linter.all false
namespace aL
open Go Go.Proofs.YtijhlbeipglieaaGreat List
def F2(n:Nat):Fw n:=Fa 2 (by decide) n fun _ _=>true
def Fw.Vt{n:Nat}(F:Fw n)(T:Nat)(w:Wd):Nat:=F.ws w.aI+iv (fun i s=>(F.P i).V T s) 0 w.ss
structure Sx(n T E i:Nat)(s:Site):Prop where
  sm:Sm n T E i {s with down:=false}
  hk:HK n i ia s.held
  own:s.wt.getD i 0≤1
  back:s.down=true→∃R,(cg s.db).1 <+:R∧Good R∧∀x,s.stat x=dU R x
theorem Site.Sb{s:Site}(h:s.down=false):({s with down:=false} :Site)=s:=by rw[←h]
theorem Sx.up{n T E i:Nat}{s:Site}(h:Sx n T E i s)(hd:s.down=false):Sm n T E i s:=by
  have:=h.sm
  rwa [Site.Sb hd]at this
theorem Sx.mk'{n T E i:Nat}{s:Site}(h:Sm n T E i s)(hk:HK n i ia s.held)(ho:s.wt.getD i 0≤1):Sx n T E i s:=
  ⟨by rw[Site.Sb h.up];exact h,hk,ho,fun e=>by rw[h.up]at e;cases e⟩
structure Sc(n T E A B:Nat)(w:Wd):Prop where
  len:w.ss.length=n
  site:∀(i:Nat) s,w.ss[i]? =some s→Sx n T E i s
  aI:∀m∈w.aI,cj T E m∧∃i:Nat,i<n∧m.eS n i
  a:(F2 n).Vt T w≤A
  b:∀(j:Nat) s,w.ss[j]? =some s→s.db.length+16*(Fd j n).Vt T w≤B
theorem rz(f:Ms→Nat):∀(l:List Ms)(k:Nat)(m:Ms),l[k]? =some m→(l.map f).sum=f m+((l.eraseIdx k).map f).sum
  |[],k,m,h=>by simp at h
  |x::l,0,m,h=>by
    simp only[List.getElem?_cons_zero,Option.some.injEq]at h
    subst h;simp
  |x::l,k+1,m,h=>by
    simp only[List.getElem?_cons_succ]at h
    have:=rz f l k m h
    rw[eraseIdx_cons_succ,map_cons,sum_cons,map_cons,sum_cons]
    omega
theorem JU(m:Ms)(i n:Nat):(m.kind=1∨m.kind=3∨m.kind=5→((F2 n).P i).w m≤2)∧(m.kind=8→((F2 n).P i).w m≤17):=by
  have e:((F2 n).P i).w m=wa 2 m:=rfl
  rw[e];unfold wa
  constructor
  · intro h;rw[if_neg (by omega),if_pos h];exact Nat.le_refl _
  · intro h;rw[if_pos h];exact Nat.le_refl _
theorem Dk(m:Ms)(j i n:Nat):((Fd j n).P i).w m≤1∧(m.kind=8→((Fd j n).P i).w m≤0):=by
  have e:((Fd j n).P i).w m=wd j m:=rfl
  rw[e];unfold wd
  constructor
  · split<;>omega
  · intro h;rw[if_neg (by omega)];exact Nat.le_refl _
theorem zw(j i n:Nat):((Fd j n).P i).ρ≤1∧((Fd j n).P i).φ≤1∧((Fd j n).P i).tF=1∧((Fd j n).P i).tT=0:=by
  refine⟨?_,?_,rfl,rfl⟩
  · show(if i=j then 1 else 0)≤1;split<;>omega
  · show(if i=j then 1 else 0)≤1;split<;>omega
theorem Fw.Sd{n:Nat}(F:Fw n)(i:Nat)(l:List Ms):(F.P i).ws l=F.ws l:=F.Pu i l
namespace Sc
variable {n T E A B:Nat} {w:Wd}
theorem some_(h:Sc n T E A B w){i:Nat}(hi:i<n):∃s,w.ss[i]? =some s:=⟨_,List.getElem?_eq_getElem (by rw[h.len];exact hi)⟩
theorem pd(h:Sc n T E A B w){E':Nat}(hE:E≤E')(VE:E'≤126):Sc n T E' A B w:=
  ⟨h.len,fun i s hs=>⟨(h.site i s hs).sm.pd hE VE,(h.site i s hs).hk,(h.site i s hs).own,(h.site i s hs).back⟩,fun m hm=>⟨(h.aI m hm).1.mono (Nat.le_refl _) hE,(h.aI m hm).2⟩,h.a,h.b⟩
theorem more(h:Sc n T E A B w){A' B':Nat}(hA:A≤A')(hB:B≤B'):Sc n T E A' B' w:=
  ⟨h.len,h.site,h.aI,by have:=h.a;omega,fun j s hs=>by have:=h.b j s hs;omega⟩
theorem put(h:Sc n T E A B w){i:Nat}{s t:Site}(hs:w.ss[i]? =some s)(hx:Sx n T E i t){net':List Ms}(hn:∀m∈net',m∈w.aI∨cj T E m∧∃i:Nat,i<n∧m.eS n i)(rA:List (List (List UInt8))){A' b k:Nat}(pa:(F2 n).ws net'+((F2 n).P i).V T t+A≤(F2 n).ws w.aI+((F2 n).P i).V T s+A')(pO:t.db.length≤s.db.length+16*k)(pb:∀j,(Fd j n).ws net'+((Fd j n).P i).V T t+((Fd j n).P i).ρ*k≤(Fd j n).ws w.aI+((Fd j n).P i).V T s+b):Sc n T E A' (B+16*b) {w with ss:=w.ss.set i t,aI:=net',done:=rA}:=by
  have hi:i<w.ss.length:=(List.getElem?_eq_some_iff.1 hs).1
  refine⟨by rw[length_set];exact h.len,fun j u hu=>?_,fun m hm=>?_,?_,fun j u hu=>?_⟩
  · have hu:(w.ss.set i t)[j]? =some u:=hu
    by_cases c:i=j
    · subst c
      rw[List.getElem?_set_self hi]at hu
      injection hu with hu;subst hu;exact hx
    · rw[List.getElem?_set_ne c]at hu
      exact h.site j u hu
  · rcases hn m hm with q|q
    · exact h.aI m q
    · exact q
  · have q1:=tE (fun i s=>((F2 n).P i).V T s) w.ss 0 i s t hs
    rw[Nat.zero_add]at q1
    have q2:=h.a
    unfold Fw.Vt at q2 ⊢
    dsimp only at q1 ⊢
    omega
  · have hu:(w.ss.set i t)[j]? =some u:=hu
    have q1:=tE (fun i s=>((Fd j n).P i).V T s) w.ss 0 i s t hs
    rw[Nat.zero_add]at q1
    have q2:=pb j
    by_cases c:i=j
    · subst c
      rw[List.getElem?_set_self hi]at hu
      injection hu with hu;subst hu
      have q3:=h.b i s hs
      have q4:((Fd i n).P i).ρ=1:=by show(if i=i then 1 else 0)=1;rw[if_pos rfl]
      rw[q4]at q2
      unfold Fw.Vt at q3 ⊢
      dsimp only at q1 ⊢
      omega
    · rw[List.getElem?_set_ne c]at hu
      have q3:=h.b j u hu
      unfold Fw.Vt at q3 ⊢
      dsimp only at q1 ⊢
      omega
theorem WB(h:Sc n T E A B w){net':List Ms}(hn:∀m∈net',m∈w.aI){A' b:Nat}(pa:(F2 n).ws net'+A≤(F2 n).ws w.aI+A')(pb:∀j,(Fd j n).ws net'≤(Fd j n).ws w.aI+b):Sc n T E A' (B+16*b) {w with aI:=net'}:=by
  refine⟨h.len,h.site,fun m hm=>h.aI m (hn m hm),?_,fun j s hs=>?_⟩
  · have q:=h.a
    unfold Fw.Vt at q ⊢
    dsimp only;omega
  · have q:=h.b j s hs
    have q2:=pb j
    unfold Fw.Vt at q ⊢
    dsimp only;omega
theorem tell(h:Sc n T E A B w)(i:Nat):Sc n T E A B (w.tell i):=by
  unfold Wd.tell
  cases hs:w.ss[i]? with
  |none=>exact h
  |some s=>
    dsimp only
    have hx:=h.site i s hs
    cases hd:s.down with
    |true=>
      have e:s.sync=(s,[]):=by unfold Site.sync;rw[if_pos hd]
      rw[e]
      have:=h.put (k:=0) (b:=0) hs hx (net':=w.aI) (fun m hm=>.inl hm) w.done (A':=A) (Nat.le_refl _) (by omega) (fun j=>by omega)
      exact this
    |false=>
      have hS:=hx.up hd
      obtain⟨r1,r2,-,r4,r5,k,r6,r7⟩:=hS.Ex hx.hk fun m hm ht=>(hx.hk.own hm ht).2.2
      obtain⟨p,p1,p2,p3,p4⟩:=o9 s.sync.2 w.aI
      rw[p1]
      have hK:HK n i ia s.sync.1.held:=r2.mono fun m _ _ q=>.inr (.inr q.1)
      have:=h.put (k:=k) (b:=0) hs (.mk' r1 hK (by rw[r5.1];exact hx.own)) (net':=w.aI++p) (fun m hm=>by
        rcases mem_append.1 hm with hm|hm
        · exact .inl hm
        · have hm:=p2 m hm
          rw[r4]at hm
          obtain⟨m1,m2⟩:=mem_filter.1 hm
          exact .inr ⟨hS.held m m1,hx.hk.fB m1 (of_decide_eq_true m2) hS.lt⟩) w.done (A':=A) (by
          have q1:=r7 ((F2 n).P i) fun _=>rfl
          rw[Fw.Sd]at q1
          have q2:(F2 n).ws p≤(F2 n).ws s.sync.2:=p4 (F2 n).w
          rw[Fw.ff]
          omega) r6 (fun j=>by
          have q1:=r7 ((Fd j n).P i) fun _=>rfl
          rw[Fw.Sd]at q1
          have q2:(Fd j n).ws p≤(Fd j n).ws s.sync.2:=p4 (Fd j n).w
          rw[Fw.ff]
          omega)
      exact this
theorem tick(h:Sc n T E A B w)(hE:E≤126)(hB:B+2000≤1048576){i:Nat}(hp:∀s,w.ss[i]? =some s→s.down=false→∀x,0≤(s.stat x).p.r∧(s.stat x).p.r+1≤E):Sc n T E (A+438) (B+16*112) (w.eJ i Site.tick):=by
  unfold Wd.eJ
  cases hs:w.ss[i]? with
  |none=>exact h.more (by omega) (by omega)
  |some s=>
    dsimp only
    have hx:=h.site i s hs
    cases hd:s.down with
    |true=>
      have e:s.tick=s:=by unfold Site.tick;rw[if_pos hd]
      rw[e]
      exact h.put (k:=0) (b:=112) hs hx (net':=w.aI) (fun m hm=>.inl hm) w.done (A':=A+438) (by omega) (by omega) (fun j=>by omega)
    |false=>
      have hS:=hx.up hd
      have pO:=h.b i s hs
      obtain⟨N,k⟩:=hS.MH (Nat.le_refl E) hE (fun x=>(hp s hs hd x).1) (fun x=>(hp s hs hd x).2) (by omega)
      obtain⟨c,c1,c2,c3⟩:=k.uF
      have hK:HK n i ia s.tick.held:=fun m hm=>by
        rw[k.held]at hm
        rcases mem_append.1 hm with hm|hm
        · exact hx.hk m hm
        · exact(k.hk.mono (K':=ia) fun m _ _ q=>by unfold ia;omega) m hm
      have ho:s.tick.wt.getD i 0≤1:=by
        rw[k.wt.1,hS.me,pg];exact hx.own
      exact h.put (k:=c) (b:=112) hs (.mk' k.sm hK ho) (net':=w.aI) (fun m hm=>.inl hm) w.done (A':=A+438) (by
        have q:=c3 ((F2 n).P i) 2 17 (fun m hm=>(JU m i n).1 hm) (fun m hm=>(JU m i n).2 hm)
        have e1:((F2 n).P i).tF=18:=rfl
        have e2:((F2 n).P i).ρ=0:=rfl
        rw[e1,e2]at q
        omega) c1 (fun j=>by
        have q:=c3 ((Fd j n).P i) 1 0 (fun m _=>(Dk m j i n).1) (fun m hm=>(Dk m j i n).2 hm)
        have e1:=zw j i n
        omega)
theorem hand(h:Sc n T E A B w)(hB:B+2000≤1048576){k:Nat}{m:Ms}(hk:w.aI[k]? =some m)(hm:m.bL){i:Nat}{s:Site}(hs:w.ss[i]? =some s)(hg:m.eS n i):∃A',Sc n T E A' B {w with aI:=w.aI.eraseIdx k,ss:=w.ss.set i (s.handle m).1}∧(s.down=false→A'+1≤A)∧A'≤A:=by
  have hx:=h.site i s hs
  have lz:m∈w.aI:=mem_of_getElem? hk
  have kQ:∀x∈w.aI.eraseIdx k,x∈w.aI:=fun x hx=>mem_of_mem_eraseIdx hx
  have w2:(F2 n).ws w.aI=(F2 n).w m+(F2 n).ws (w.aI.eraseIdx k):=rz _ _ _ _ hk
  have wj:∀j,(Fd j n).ws w.aI=(Fd j n).w m+(Fd j n).ws (w.aI.eraseIdx k):=fun j=>rz _ _ _ _ hk
  cases hd:s.down with
  |true=>
    have e:(s.handle m).1=s:=by unfold Site.handle;rw[if_pos hd]
    rw[e]
    have:=h.put (k:=0) (b:=0) hs hx (net':=w.aI.eraseIdx k) (fun x hx=>.inl (kQ x hx)) w.done (A':=A) (by omega) (by omega) (fun j=>by have:=wj j;omega)
    exact⟨A,this,fun e=>(by cases e),Nat.le_refl _⟩
  |false=>
    have hS:=hx.up hd
    have pO:=h.b i s hs
    obtain⟨eF,-⟩:=h.aI m lz
    have hS1:=hS.Vp (l:=s.wt.set m.aR.toNat 0) (by rw[length_set];exact hS.pM)
    have e:(s.handle m).1=({s with wt:=s.wt.set m.aR.toNat 0} :Site).take m:=by
      obtain⟨h1,c,h2,h3,h4⟩:=hg
      unfold Site.handle
      rw[if_neg (by rw[hd];simp),if_neg (fun hn=>hn hm),if_neg (by rw[hS.me,hS.nn];omega)]
    have q:=hS1.ME (x:=m) (by show s.db.length+1000≤_;omega) hm eF hg
    have vB:=Site.qz ({s with wt:=s.wt.set m.aR.toNat 0} :Site) m
    rw[e]
    have hK:HK n i ia (({s with wt:=s.wt.set m.aR.toNat 0} :Site).take m).held:=fun x hx2=>by
      rcases q.zq x hx2 with q1|⟨q1,c,q2,q3,q4⟩
      · exact hx.hk x q1
      · refine⟨q1,c,q2,q3,fun e=>⟨(q4 e).1,?_⟩⟩
        have:=(q4 e).2
        unfold ia;omega
    have ho:(({s with wt:=s.wt.set m.aR.toNat 0} :Site).take m).wt.getD i 0≤1:=by
      rw[vB.wt]
      show(s.wt.set m.aR.toNat 0).getD i 0≤1
      rcases yo s.wt m.aR.toNat i with q|q
      · rw[q];decide
      · rw[q];exact hx.own
    obtain⟨c,c1,c2,c3⟩:=q.uF
    have hne:¬ m.aR=(i:Int):=by obtain⟨-,d,d1,d2,d3⟩:=hg;omega
    have c4:∀P:Pw n i,(∀z,P.A z=true)→P.V T (({s with wt:=s.wt.set m.aR.toNat 0} :Site).take m)+P.ρ*c+P.δ≤P.V T s+P.w m:=fun P hA=>by
      have:=c3 P hA
      unfold Pw.ind Pw.sH at this
      rw[if_neg hne,if_neg hne]at this
      exact this
    have f2:=c4 ((F2 n).P i) fun _=>rfl
    have e1:((F2 n).P i).δ=1:=rfl
    have e2:((F2 n).P i).ρ=0:=rfl
    have e3:((F2 n).P i).w m=(F2 n).w m:=rfl
    rw[e1,e2,e3]at f2
    have uJ:1≤A:=by
      have:=h.a
      have h1:1≤(F2 n).w m:=(JQ 2 (by decide) m).1
      unfold Fw.Vt at this
      omega
    have:=h.put (k:=c) (b:=0) hs (.mk' q.sm hK ho) (net':=w.aI.eraseIdx k) (fun x hx=>.inl (kQ x hx)) w.done (A':=A-1) (by omega) c1 (fun j=>by
      have f3:=c4 ((Fd j n).P i) fun _=>rfl
      have e4:((Fd j n).P i).w m=(Fd j n).w m:=rfl
      rw[e4]at f3
      have:=wj j
      omega)
    exact⟨A-1,this,fun _=>by omega,by omega⟩
theorem Iw(h:Sc n T E A B w)(h3:3≤n)(h7:n≤7)(h6:T+n≤6*n):Sc n (T+n) E (A+42) (B+16*7) w:=by
  have hV:∀(F:Fw n)(c:Nat),(∀i,(F.P i).φ≤c)→F.Vt (T+n) w≤F.Vt T w+c*n:=fun F c hc=>by
    unfold Fw.Vt
    have q1:=sB (fun i s=>(F.P i).V (T+n) s) (fun i s=>(F.P i).V T s+c) w.ss 0 fun i s hs=>by
      have q2:=EA n (0+i) s h3 h7 T
      have q3:=Nat.mul_le_mul_left (F.P (0+i)).φ q2
      rw[Nat.mul_add,Nat.mul_one]at q3
      have q4:=hc (0+i)
      unfold Pw.V Pw.pt
      omega
    have q5:∀(l:List Site)(k:Nat),iv (fun i s=>(F.P i).V T s+c) k l=iv (fun i s=>(F.P i).V T s) k l+c*l.length:=by
      intro l
      induction l with
      |nil=>intro k;simp[iv]
      |cons x l ih=>
        intro k
        simp only[iv,length_cons]
        rw[ih,Nat.mul_succ];omega
    rw[q5,h.len]at q1
    omega
  refine⟨h.len,fun i s hs=>⟨(h.site i s hs).sm.Iw (by omega) h6,(h.site i s hs).hk,(h.site i s hs).own,(h.site i s hs).back⟩,fun m hm=>⟨(h.aI m hm).1.mono (by omega) (Nat.le_refl _),(h.aI m hm).2⟩,?_,fun j s hs=>?_⟩
  · have:=hV (F2 n) 6 fun _=>Nat.le_refl _
    have:=h.a
    omega
  · have:=hV (Fd j n) 1 fun i=>(zw j i n).2.1
    have:=h.b j s hs
    omega
theorem Se{i:Nat}(P:Pw n i)(s:Site):P.V T s≤P.V (T+n) s:=by
  have:jh n T i s≤jh n (T+n) i s:=by
    unfold jh
    rw[range_add,filter_append,length_append];omega
  have:=Nat.mul_le_mul_left P.φ this
  unfold Pw.V Pw.pt
  omega
end Sc
namespace Sc
variable {n T E A B c:Nat} {w:Wd} {P:Int→List UInt8→Prop} {G:Int→List Rc}
theorem p0(hI:bR w n P c G){i:Nat}{s:Site}(hs:w.ss[i]? =some s)(hd:s.down=false):∀x,0≤(s.stat x).p.r:=fun x=>by
  obtain⟨-,-,⟨R,z,h,-⟩|h⟩:=hI.site i s hs
  · exact(Bl.jk.1 (h.al.ok.stat x).2.1).1.1
  · have:=h.dn.down;rw[hd]at this;cases this
theorem fc(h:Sc n T E A B w){T' E' A' B':Nat}(hno:Sc n T' E' A' B' w)(s:Int)(f:Nat→Wd × Int × Int)(hf:∀(i:Nat) t,w.ss[i]? =some t→Sc n T' E' A' B' (f i).1):Sc n T' E' A' B' (w.fc s f).1:=by
  unfold Wd.fc
  cases hp:w.place s with
  |none=>exact hno
  |some i=>
    obtain⟨-,t,ht⟩:=Wd.tS hp
    exact hf i t ht
theorem dB(h:Sc n T E A B w)(hI:bR w n P c G){i:Nat}{s:Site}(hs:w.ss[i]? =some s)(k:Int):Sc n T E A B (w.eJ i fun t=>t.dB k):=by
  unfold Wd.eJ
  rw[hs]
  dsimp only
  have hx:=h.site i s hs
  cases hd:s.down with
  |true=>
    have e:s.dB k=s:=by unfold Site.dB;rw[if_pos hd]
    rw[e]
    exact h.put (k:=0) (b:=0) hs hx (net':=w.aI) (fun m hm=>.inl hm) w.done (A':=A) (by omega) (by omega) (fun j=>by omega)
  |false=>
    obtain⟨-,-,⟨R,z,Iy,-⟩|WC⟩:=hI.site i s hs
    case inr=>have:=WC.dn.down;rw[hd]at this;cases this
    have hb:=Iy.al.back k
    have e:s.dB k= {s with db:=s.db.take (s.kept k),dn:=s.kept k,down:=true}:=by
      unfold Site.dB
      rw[if_neg (by rw[hd];simp)]
    rw[e]at hb ⊢
    have hS:=hx.up hd
    have gz:Sm n T E i ({({s with db:=s.db.take (s.kept k),dn:=s.kept k,down:=true} :Site)with down:=false} :Site):=
      ⟨hS.me,hS.nn,hS.lt,hS.n3,hS.n7,hS.T6,hS.E1,hS.pat,rfl,hS.nx,hS.pM,hS.st,hS.lv,fun x r hr=>(hS.rs x r hr).mono rfl (hS.rs x r hr).dec (hS.rs x r hr).nz (Bl.lt_irrefl _),hS.mb,hS.kz,hS.used,hS.top,hS.held⟩
    refine h.put (k:=0) (b:=0) hs ⟨gz,hx.hk,hx.own,fun _=>⟨R,hb⟩⟩ (net':=w.aI) (fun m hm=>.inl hm) w.done (A':=A) ?_ ?_ (fun j=>?_)
    · exact Nat.le_refl _
    · show(s.db.take _).length≤_
      rw[length_take];omega
    · exact Nat.le_refl _
theorem bC(h:Sc n T E A B w)(hI:bR w n P c G)(hP:∀x v,P x v→v.length≤3)(i:Nat):Sc n T E (A+36) (B+16*6) (w.bC i)∧∀s,(w.bC i).ss[i]? =some s→s.down=false:=by
  unfold Wd.bC
  cases hs:w.ss[i]? with
  |none=>exact⟨h.more (by omega) (by omega),fun s e=>by rw[hs]at e;cases e⟩
  |some s=>
    dsimp only
    have hi:i<w.ss.length:=(List.getElem?_eq_some_iff.1 hs).1
    have hx:=h.site i s hs
    cases hd:s.down with
    |false=>
      have e:s.bC=s:=by unfold Site.bC;rw[if_neg (by rw[hd];simp)]
      rw[e]
      refine⟨h.put (k:=0) (b:=6) hs hx (net':=w.aI) (fun m hm=>.inl hm) _ (A':=A+36) (by omega) (by omega) (fun j=>by omega),fun t ht=>?_⟩
      have ht:(w.ss.set i s)[i]? =some t:=ht
      rw[List.getElem?_set_self hi]at ht
      injection ht with ht;subst ht;exact hd
    |true=>
      obtain⟨ca,hn,⟨R,z,Iy,-⟩|WC⟩:=hI.site i s hs
      · have:=Iy.al.up;rw[hd]at this;cases this
      obtain⟨R,b1,b2,b3⟩:=hx.back hd
      obtain⟨r1,r2,r3,r4,r5,r6⟩:=hx.sm.MJ (by rw[hn];exact hI.qG) hP WC b1 b2 b3
      have hV:∀Q:Pw n i,Q.V T s.bC≤Q.φ*6:=fun Q=>by
        have e1:Q.tok s.bC=0:=by unfold Pw.tok;rw[r3];rfl
        have e2:=Nat.mul_le_mul_left Q.φ (Di (i:=i) (s:=s.bC) r1.T6 r1.n3)
        unfold Pw.V Pw.pt
        rw[r2,e1,Q.qH];omega
      refine⟨h.put (k:=0) (b:=6) hs (.mk' r1 (by rw[r2];intro m hm;cases hm) (by
                                                                                         rw[r4];have:=r1.lt;have:=r1.n7;have:i=0∨i=1∨i=2∨i=3∨i=4∨i=5∨i=6:=by omega
                                                                                         rcases this with rfl|rfl|rfl|rfl|rfl|rfl|rfl<;>decide)) (net':=w.aI) (fun m hm=>.inl hm) _ (A':=A+36) ?_ (by omega) (fun j=>?_),fun t ht=>?_⟩
      · have:=hV ((F2 n).P i)
        have e:((F2 n).P i).φ=6:=rfl
        rw[e]at this;omega
      · have:=hV ((Fd j n).P i)
        have e:=(zw j i n).2.1
        omega
      · have ht:(w.ss.set i s.bC)[i]? =some t:=ht
        rw[List.getElem?_set_self hi]at ht
        injection ht with ht;subst ht;exact r1.up
theorem oC(h:Sc n T E A B w)(h6:T+n≤6*n){v:List UInt8}(hv:v.length≤3){i:Nat}{s:Site}(hs:w.ss[i]? =some s) :
    ((w.oC v i).2.2≠0∧Sc n T E A B (w.oC v i).1)∨(w.oC v i).2.2=0∧Sc n (T+n) E (A+70) (B+16*20) (w.oC v i).1:=by
  unfold Wd.oC
  rw[hs]
  dsimp only
  have hx:=h.site i s hs
  have same:Sc n T E A B {w with ss:=w.ss.set i s}:=h.put (k:=0) (b:=0) hs hx (net':=w.aI) (fun m hm=>.inl hm) w.done (A':=A) (by omega) (by omega) (fun j=>by omega)
  cases hd:s.down with
  |true=>
    have e:s.cm v=(s,0,14):=by unfold Site.cm;rw[if_pos hd]
    rw[e]
    exact .inl ⟨by show(14:Int)≠0;decide,same⟩
  |false=>
    have hS:=hx.up hd
    rcases hS.PJ h6 hv with⟨q1,q2⟩|⟨q1,q2,⟨N,q3,q4⟩,q5,q6,q7,q8⟩
    · rw[q2];exact .inl ⟨q1,same⟩
    · refine .inr ⟨q1,?_⟩
      have hK:HK n i ia (s.cm v).1.held:=fun m hm=>by
        rw[q3]at hm
        rcases mem_append.1 hm with hm|hm
        · exact hx.hk m hm
        · exact(q4.mono (K':=ia) fun m _ _ q=>by unfold ia;omega) m hm
      have hU:=h.Iw hS.n3 hS.n7 h6
      have:=hU.put (k:=1) (b:=8) hs (.mk' q2 hK (by rw[q5];exact hx.own)) (net':=w.aI) (fun m hm=>.inl hm) w.done (A':=A+42+24) (by
        have a1:=q8 ((F2 n).P i) 2 fun m hm=>(JU m i n).1 hm
        have a2:=Se (T:=T) ((F2 n).P i) s
        have e1:((F2 n).P i).φ=6:=rfl
        have e2:((F2 n).P i).tT=6:=rfl
        rw[e1,e2]at a1
        omega) (by omega) (fun j=>by
        have a1:=q8 ((Fd j n).P i) 1 fun m _=>(Dk m j i n).1
        have a2:=Se (T:=T) ((Fd j n).P i) s
        have e:=zw j i n
        omega)
      exact this.more (by omega) (by omega)
theorem fC(h:Sc n T E A B w)(hI:bR w n P c G)(hP:∀x v,P x v→v.length≤3)(hE:E+1≤126)(hB:B+2000≤1048576)(k s a m:Int){v:List UInt8}(hv:k=1→v.length≤3)(h6:k=1→T+n≤6*n) :
    ((w.fC k s a m v).2.2=0∧k=1→Sc n (T+n) E (A+440) (B+2000) (w.fC k s a m v).1)∧(¬ ((w.fC k s a m v).2.2=0∧k=1)→Sc n T (E+1) (A+440) (B+2000) (w.fC k s a m v).1):=by
  have uK:Sc n T (E+1) (A+440) (B+2000) w:=(h.pd (by omega) hE).more (by omega) (by omega)
  by_cases k1:k=1
  · subst k1
    have e:w.fC 1 s a m v=w.fc s (w.oC v):=by unfold Wd.fC;rw[if_pos rfl]
    rw[e]
    unfold Wd.fc
    cases hp:w.place s with
    |none=>exact⟨fun q=>absurd q.1 (by show ¬ (1:Int)=0;decide),fun _=>uK⟩
    |some i=>
      obtain⟨-,t,ht⟩:=Wd.tS hp
      dsimp only
      rcases h.oC (h6 rfl) (hv rfl) ht with⟨q1,q2⟩|⟨q1,q2⟩
      · exact⟨fun q=>absurd q.1 q1,fun _=>(q2.pd (by omega) hE).more (by omega) (by omega)⟩
      · exact⟨fun _=>q2.more (by omega) (by omega),fun q=>absurd ⟨q1,rfl⟩ q⟩
  refine⟨fun q=>absurd q.2 k1,fun _=>?_⟩
  unfold Wd.fC
  rw[if_neg k1]
  by_cases k2:k=2
  · rw[if_pos k2]
    split
    · -- a afg is aaV
      cases hk:w.aI[a.toNat]? with
      |none=>
        have e:w.du a.toNat=w:=by unfold Wd.du;rw[hk]
        rw[e];exact uK
      |some x=>
        have uL:=mem_of_getElem? hk
        obtain⟨-,i,hi,hg⟩:=h.aI x uL
        obtain⟨t,ht⟩:=h.some_ hi
        have ei:x.to.toNat=i:=by have:=hg.1;omega
        have e:w.du a.toNat= {w with aI:=w.aI.eraseIdx a.toNat,ss:=w.ss.set i (t.handle x).1}:=by
          unfold Wd.du
          rw[hk]
          dsimp only
          rw[ei,ht]
        rw[e]
        obtain⟨A',q1,-,q3⟩:=h.hand hB hk (hI.aI x uL).1 ht hg
        exact(q1.pd (by omega) hE).more (by omega) (by omega)
    · exact uK
  rw[if_neg k2]
  by_cases k3:k=3
  · rw[if_pos k3]
    split
    · have hle:∀f:Ms→Nat,((w.aI.eraseIdx a.toNat).map f).sum≤(w.aI.map f).sum:=fun f=>by
        cases hk:w.aI[a.toNat]? with
        |none=>rw[eraseIdx_of_length_le (by simpa using hk)];exact Nat.le_refl _
        |some x=>have:=rz f _ _ _ hk;omega
      have:=h.WB (net':=w.aI.eraseIdx a.toNat) (fun x hx=>mem_of_mem_eraseIdx hx) (A':=A) (b:=0) (by have:=hle (F2 n).w;unfold Fw.ws;omega) (fun j=>by have:=hle (Fd j n).w;unfold Fw.ws;omega)
      exact(this.pd (by omega) hE).more (by omega) (by omega)
    · exact uK
  rw[if_neg k3]
  by_cases k4:k=4
  · rw[if_pos k4]
    split
    · unfold Wd.double
      cases hk:w.aI[a.toNat]? with
      |none=>exact uK
      |some x=>
        dsimp only
        have uL:=mem_of_getElem? hk
        split
        · have:=h.WB (net':=w.aI++[x]) (fun y hy=>by
            rcases mem_append.1 hy with hy|hy
            · exact hy
            · rw[mem_singleton]at hy;subst hy;exact uL) (A':=A+17) (b:=1) (by
            rw[Fw.ff]
            have:(F2 n).ws [x]≤17:=by
              show(F2 n).w x+0≤17
              have e:(F2 n).w x=wa 2 x:=rfl
              rw[e];unfold wa
              split
              · omega
              split<;>omega
            omega) (fun j=>by
            rw[Fw.ff]
            have:(Fd j n).ws [x]≤1:=(Dk x j 0 n).1
            omega)
          exact(this.pd (by omega) hE).more (by omega) (by omega)
        · exact uK
    · exact uK
  rw[if_neg k4]
  by_cases k5:k=5
  · rw[if_pos k5]
    refine h.fc uK _ _ fun i t ht=>?_
    have:=(h.pd (E':=E+1) (by omega) hE).tick hE hB (i:=i) fun s hs hd x=>by
      have q:=((h.site i s hs).up hd).st x
      exact⟨p0 hI hs hd x,by have:=q.1;omega⟩
    exact this.more (by omega) (by omega)
  rw[if_neg k5]
  by_cases k6:k=6
  · rw[if_pos k6]
    refine h.fc uK _ _ fun i t ht=>?_
    exact((h.tell i).pd (by omega) hE).more (by omega) (by omega)
  rw[if_neg k6]
  by_cases k7:k=7
  · rw[if_pos k7]
    refine h.fc uK _ _ fun i t ht=>?_
    exact((h.dB hI ht m).pd (by omega) hE).more (by omega) (by omega)
  rw[if_neg k7]
  by_cases k8:k=8
  · rw[if_pos k8]
    refine h.fc uK _ _ fun i t ht=>?_
    exact((h.bC hI hP i).1.pd (by omega) hE).more (by omega) (by omega)
  · rw[if_neg k8];exact uK
theorem new(h3:3≤n)(h7:n≤7):Sc n 0 0 0 0 (Wd.new n 2):=by
  have hat:∀(i:Nat) s,(Wd.new n 2).ss[i]? =some s→i<n∧s=Site.new i n 2:=fun i s hs=>by
    unfold Wd.new at hs
    simp only at hs
    obtain⟨hi,he⟩:=List.getElem?_eq_some_iff.1 hs
    rw[length_map,length_range]at hi
    rw[getElem_map,getElem_range]at he
    exact⟨hi,he.symm⟩
  have hV:∀F:Fw n,F.Vt 0 (Wd.new n 2)=0:=fun F=>by
    unfold Fw.Vt
    have e:F.ws (Wd.new n 2).aI=0:=rfl
    rw[e]
    have:=sB (fun i s=>(F.P i).V 0 s) (fun _ _=>0) (Wd.new n 2).ss 0 fun i s hs=>by
      obtain⟨-,rfl⟩:=hat i s hs
      exact Nat.le_refl _
    rw[tG]at this
    omega
  refine⟨by simp[Wd.new],fun i s hs=>?_,fun m hm=>(by cases hm),by rw[hV];exact Nat.le_refl _,fun j s hs=>?_⟩
  · obtain⟨hi,rfl⟩:=hat i s hs
    have h0:∀x:Int,(Site.new i n 2).stat x=Sp.zero:=fun _=>rfl
    refine .mk' ⟨rfl,rfl,hi,h3,h7,by omega,by omega,rfl,rfl,Nat.le_refl _,rfl,fun x=>?_,fun x w hw=>(by cases hw),fun x r hr=>(by cases hr),fun e he=>(by cases he),List.Pairwise.nil,fun k _ hk=>absurd hk (Nat.not_lt_zero _),⟨Int.le_refl _,Int.le_refl _⟩,fun m hm=>(by cases hm)⟩ (fun m hm=>by cases hm) ?_
    · rw[h0]
      exact⟨Int.le_refl _,Int.le_refl _,Nat.zero_le _,fun e=>absurd rfl e⟩
    · show([0,0,0,0,0,0,0]:List Int).getD i 0≤1
      have:i=0∨i=1∨i=2∨i=3∨i=4∨i=5∨i=6:=by omega
      rcases this with rfl|rfl|rfl|rfl|rfl|rfl|rfl<;>decide
  · obtain⟨-,rfl⟩:=hat j s hs
    rw[hV]
    exact Nat.le_refl _
end Sc
def Iz(z i:Nat)(s:Site):Prop:=(z=1→∀m∈s.held,m.to=(i:Int)→m.kind=6)∧(z=2→∀m∈s.held,m.to≠(i:Int))∧(3≤z→s.held= [])
namespace Sx
variable {n T E i z:Nat} {s:Site}
theorem PM(h:Sx n T E i s)(hd:s.down=false)(pO:s.db.length+2000≤1048576){m:Ms}(hm:m.bL)(eF:cj T E m)(hg:m.eS n i)(hl:Iz z i s):(s.handle m).1.sync.1.down=false∧Iz z i (s.handle m).1.sync.1:=by
  have hS:=h.up hd
  have hS1:=hS.Vp (l:=s.wt.set m.aR.toNat 0) (by rw[length_set];exact hS.pM)
  have e:(s.handle m).1=({s with wt:=s.wt.set m.aR.toNat 0} :Site).take m:=by
    obtain⟨h1,c,h2,h3,h4⟩:=hg
    unfold Site.handle
    rw[if_neg (by rw[hd];simp),if_neg (fun hn=>hn hm),if_neg (by rw[hS.me,hS.nn];omega)]
  have q:=hS1.ME (x:=m) (by show s.db.length+1000≤_;omega) hm eF hg
  rw[←e]at q
  have hK:HK n i ia (s.handle m).1.held:=fun x hx2=>by
    rcases q.zq x hx2 with q1|⟨q1,c,q2,q3,q4⟩
    · exact h.hk x q1
    · refine⟨q1,c,q2,q3,fun e=>⟨(q4 e).1,?_⟩⟩
      have:=(q4 e).2
      unfold ia;omega
  obtain⟨r1,r2,r3,-⟩:=q.sm.Ex hK fun m hm ht=>(hK.own hm ht).2.2
  have hno:(∀x∈s.held,x.to=(i:Int)→x.kind=6)→∀x∈(s.handle m).1.sync.1.held,x.to≠(i:Int):=fun h6 x hx ht=>by
    obtain⟨-,-,-,y,y1,y2,y3⟩:=r2.own hx ht
    rcases q.zq y y1 with q1|⟨q1,c,q2,q3,q4⟩
    · have:=h6 y q1 y2;omega
    · have:=(q4 (by omega)).2;omega
  refine⟨r1.up,fun hz x hx ht=>?_,fun hz=>?_,fun hz=>?_⟩
  · exact(r2.own hx ht).2.2.1
  · exact hno fun x hx ht=>absurd ht (hl.2.1 hz x hx)
  · obtain⟨t,out,k,h1,h2,-⟩:=hS.Ik (hl.2.2 hz) pO hm eF hg
    rw[h1];exact h2.held
theorem PN(h:Sx n T E i s)(hd:s.down=false){N:List Ms}(k:Wq n T E i s s.tick N)(hl:Iz z i s):s.tick.sync.1.down=false∧Iz (z+1) i s.tick.sync.1:=by
  have hS:=h.up hd
  have hK:HK n i ia s.tick.held:=fun m hm=>by
    rw[k.held]at hm
    rcases mem_append.1 hm with hm|hm
    · exact h.hk m hm
    · exact(k.hk.mono (K':=ia) fun m _ _ q=>by unfold ia;omega) m hm
  obtain⟨r1,r2,r3,-⟩:=k.sm.Ex hK fun m hm ht=>(hK.own hm ht).2.2
  refine⟨r1.up,fun hz x hx ht=>(r2.own hx ht).2.2.1,fun hz=>?_,fun hz=>?_⟩
  · exact(hS.Ez k (K:=fun c=>c=6) (h.hk.mono fun m hm ht _=>hl.1 (by omega) m hm ht) fun c e=>e).1
  · refine(hS.Ez k (K:=fun c=>c=6) (h.hk.mono fun m hm ht _=>?_) fun c e=>e).2 fun m hm ht=>?_
    · by_cases c:z=2
      · exact absurd ht (hl.2.1 c m hm)
      · rw[hl.2.2 (by omega)]at hm;cases hm
    · by_cases c:z=2
      · exact absurd ht (hl.2.1 c m hm)
      · rw[hl.2.2 (by omega)]at hm;cases hm
end Sx
def qK(z:Nat)(w:Wd):Prop:=∀(i:Nat) s,w.ss[i]? =some s→s.down=false∧Iz z i s
namespace Sc
variable {n T E A B c z:Nat} {w:Wd} {P:Int→List UInt8→Prop} {G:Int→List Rc}
theorem fa(h:Sc n T E A B w)(hu:qK z w)(hB:B+2000≤1048576){m:Ms}{l:List Ms}(hn:w.aI=m::l)(hm:m.bL):∃A',A'+1≤A∧Sc n T E A' B (w.fa m)∧qK z (w.fa m):=by
  have hk:w.aI[0]? =some m:=by rw[hn];rfl
  have lz:m∈w.aI:=by rw[hn];simp
  obtain⟨eF,i,hi,hg⟩:=h.aI m lz
  obtain⟨s,hs⟩:=h.some_ hi
  obtain⟨hd,hl⟩:=hu i s hs
  have Ec:i<w.ss.length:=(List.getElem?_eq_some_iff.1 hs).1
  have et:m.to.toNat=i:=by have:=hg.1;omega
  obtain⟨A',q1,q2,-⟩:=h.hand hB hk hm hs hg
  have e:w.du 0= {w with aI:=w.aI.eraseIdx 0,ss:=w.ss.set i (s.handle m).1}:=by
    unfold Wd.du
    rw[hk]
    dsimp only
    rw[et,hs]
  have e2:(w.fa m).ss=w.ss.set i (s.handle m).1.sync.1:=by
    unfold Wd.fa Wd.tell
    rw[e,et]
    dsimp only
    rw[List.getElem?_set_self Ec]
    dsimp only
    rw[set_set]
  refine⟨A',q2 hd,?_,fun j u bh=>?_⟩
  · unfold Wd.fa
    rw[et,e]
    exact q1.tell i
  · rw[e2]at bh
    by_cases c:i=j
    · subst c
      rw[List.getElem?_set_self Ec]at bh
      injection bh with bh;subst bh
      exact(h.site i s hs).PM hd (by have:=h.b i s hs;omega) hm eF hg hl
    · rw[List.getElem?_set_ne c]at bh
      exact hu j u bh
theorem drain:∀(r:Nat){w:Wd}{A:Nat},Sc n T E A B w→qK z w→B+2000≤1048576→(∀k,k<r→∀x∈(Wd.drain k w).1.aI,x.bL)→∃A',A'≤A∧Sc n T E A' B (Wd.drain r w).1∧qK z (Wd.drain r w).1∧((Wd.drain r w).1.aI= []∨A'+r≤A)
  |0,w,A,h,hu,_,_=>⟨A,Nat.le_refl _,h,hu,.inr (by omega)⟩
  |r+1,w,A,h,hu,hB,hm=>by
    cases hn:w.aI with
    |nil=>rw[Wd.jY _ hn];exact⟨A,Nat.le_refl _,h,hu,.inl hn⟩
    |cons m l=>
      have si:m.bL:=hm 0 (by omega) m (by show m∈w.aI;rw[hn];simp)
      obtain⟨A1,a1,a2,a3⟩:=h.fa hu hB hn si
      obtain⟨A2,b1,b2,b3,b4⟩:=drain r a2 a3 hB fun k hk x hx=>hm (k+1) (by omega) x (by rw[Wd.fX k hn];exact hx)
      rw[Wd.fX _ hn]
      exact⟨A2,by omega,b2,b3,b4.imp id (by omega)⟩
theorem aU(h:Sc n T E A B w)(hu:qK z w)(hE:E≤126)(hp:∀(i:Nat) s,w.ss[i]? =some s→∀x,0≤(s.stat x).p.r∧(s.stat x).p.r+1≤E):∀j,B+1792*j+2000≤1048576→
    Sc n T E (A+438*j) (B+1792*j) (w.aU j)∧∀(i:Nat) t,(w.aU j).ss[i]? =some t→(i<j→t.down=false∧Iz (z+1) i t)∧(j≤i→w.ss[i]? =some t)
  |0,_=>⟨h,fun i t ht=>⟨fun hi=>absurd hi (Nat.not_lt_zero _),fun _=>ht⟩⟩
  |j+1,hB=>by
    obtain⟨h1,h2⟩:=aU h hu hE hp j (by omega)
    have e:w.aU (j+1)=((w.aU j).eJ j Site.tick).tell j:=rfl
    rw[e]
    have k1:=(h1.tick hE (by omega) (i:=j) fun s hs _=>hp j s ((h2 j s hs).2 (Nat.le_refl _))).tell j
    refine⟨k1.more (by omega) (by omega),fun i t ht=>?_⟩
    cases hs:(w.aU j).ss[j]? with
    |none=>
      have e1:(w.aU j).eJ j Site.tick=w.aU j:=by unfold Wd.eJ;rw[hs]
      have e2:(w.aU j).tell j=w.aU j:=by unfold Wd.tell;rw[hs]
      rw[e1,e2]at ht
      obtain⟨a,b⟩:=h2 i t ht
      have hne:i≠j:=fun e=>by rw[e,hs]at ht;cases ht
      exact⟨fun hi=>a (by omega),fun hi=>b (by omega)⟩
    |some s=>
      have hj:j<(w.aU j).ss.length:=(List.getElem?_eq_some_iff.1 hs).1
      have e1:(((w.aU j).eJ j Site.tick).tell j).ss=(w.aU j).ss.set j s.tick.sync.1:=by
        have e0:(w.aU j).eJ j Site.tick= {w.aU j with ss:=(w.aU j).ss.set j s.tick}:=by unfold Wd.eJ;rw[hs]
        rw[e0]
        unfold Wd.tell
        dsimp only
        rw[List.getElem?_set_self hj]
        dsimp only
        rw[set_set]
      rw[e1]at ht
      by_cases c:j=i
      · subst c
        rw[List.getElem?_set_self hj]at ht
        injection ht with ht;subst ht
        refine⟨fun _=>?_,fun hi=>by omega⟩
        have hs0:=(h2 j s hs).2 (Nat.le_refl _)
        obtain⟨hd,hl⟩:=hu j s hs0
        have hx:=h.site j s hs0
        obtain⟨N,k⟩:=(hx.up hd).MH (Nat.le_refl E) hE (fun x=>(hp j s hs0 x).1) (fun x=>(hp j s hs0 x).2) (by have:=h.b j s hs0;omega)
        exact hx.PN hd k hl
      · rw[List.getElem?_set_ne c]at ht
        obtain⟨a,b⟩:=h2 i t ht
        exact⟨fun hi=>a (by omega),fun hi=>b (by omega)⟩
theorem round(h:Sc n T E A B w)(vC:n≤7)(hu:qK z w)(hI:bR w n P (300*n+2000000+c) G)(hE:E+1≤126)(hB:B+12544+2000≤1048576) :
    ∃A',A'≤A+3066∧Sc n T (E+1) A' (B+12544) w.round.1∧qK (z+1) w.round.1∧(w.round.1.aI= []∨A'+20000≤A+3066):=by
  obtain⟨h1,h2⟩:=(h.pd (E':=E+1) (by omega) hE).aU hu hE (fun i s hs x=>by
    have hd:=(hu i s hs).1
    have:=(((h.site i s hs).up hd).st x).1
    exact⟨p0 hI hs hd x,by omega⟩) n (by omega)
  have h3:=h1.more (A':=A+3066) (B':=B+12544) (by omega) (by omega)
  have bn:qK (z+1) (w.aU n):=fun i t ht=>(h2 i t ht).1 (by rw[←h1.len];exact(List.getElem?_eq_some_iff.1 ht).1)
  obtain⟨G1,-,BS⟩:=bR.aU n (2000000+c) (hI.less (by omega))
  obtain⟨A',a1,a2,a3,a4⟩:=h3.drain 20000 bn (by omega) fun k hk x hx=>by
    obtain⟨G2,-,MK⟩:=bR.drain (c:=0) k (BS.less (by omega))
    exact(MK.aI x hx).1
  rw[hI.round_eq]
  exact⟨A',a1,a2,a3,a4⟩
theorem take(h:Sc n T E A B w)(i:Nat):Sc n T E A B (w.take i):=by
  have hV:∀F:Fw n,F.Vt T (w.take i)=F.Vt T w:=fun F=>by
    unfold Fw.Vt
    rw[oA,oA,Wd.take_len,Wd.ow,w.tM i _ fun _ _ _=>rfl]
  refine⟨(w.take_len i).trans h.len,fun j t ht=>?_,fun m hm=>h.aI m (by rw[←w.ow i];exact hm),by rw[hV];exact h.a,fun j t ht=>?_⟩
  · obtain⟨s,hs,e⟩:=w.iS i ht
    have hx:=h.site j s hs
    rcases e with rfl|rfl
    · exact hx
    · exact⟨hx.sm.kv _,hx.hk,hx.own,hx.back⟩
  · rw[hV]
    obtain⟨s,hs,e⟩:=w.iS i ht
    have:=h.b j s hs
    rcases e with rfl|rfl<;>exact this
end Sc
theorem qK.take{z:Nat}{w:Wd}(h:qK z w)(i:Nat):qK z (w.take i):=fun j t ht=>by
  obtain⟨s,hs,e⟩:=w.iS i ht
  have:=h j s hs
  rcases e with rfl|rfl<;>exact this
theorem Sc.rest{n T E A B z:Nat}{w:Wd}(h:Sc n T E A B w)(hu:qK z w)(hz:3≤z)(hn:w.aI= [])(vC:n≤7):Sc n T E 5600 B w:=by
  refine⟨h.len,h.site,h.aI,?_,h.b⟩
  unfold Fw.Vt
  have q:=sB (fun i s=>((F2 n).P i).V T s) (fun _ _=>792) w.ss 0 fun i s hs=>by
    obtain⟨hd,hl⟩:=hu i s hs
    have hS:=(h.site i s hs).up hd
    have q1:=((F2 n).P i).Mm hS.kz (L:=(List.range T).map fun(k:Nat)=>(k:Int)) fun x hx _=>by
      obtain⟨r,hr⟩:=fG hx
      have:=(hS.rs x r hr).x0
      exact mem_map.2 ⟨x.toNat,mem_range.2 (by omega),by omega⟩
    rw[length_map,length_range]at q1
    have q2:=Di (i:=i) (s:=s) hS.T6 hS.n3
    have e1:((F2 n).P i).tF=18:=rfl
    have e2:((F2 n).P i).φ=6:=rfl
    have hT:=hS.T6
    rw[Nat.zero_add]
    unfold Pw.V Pw.pt
    rw[hl.2.2 hz,Pw.qH,e2]
    rw[e1]at q1
    omega
  rw[tG,h.len]at q
  rw[hn]
  have e:(F2 n).ws []=0:=rfl
  omega
namespace Qt
variable {n T E:Nat} {w:Wd}
theorem iw(h:Qt n T E w)(hD:da w){i:Nat}{s:Site}(hs:w.ss[i]? =some s):s.front≤T∧T<4096:=by
  obtain⟨hS,-⟩:=h.site i s hs
  have hT:s.dec (T:Int)=none:=by
    cases hc:s.dec (T:Int) with
    |none=>rfl
    |some v=>have:=(hS.lv _ v hc).2.1;omega
  have h1:s.taken≤T:=by
    apply Classical.byContradiction;intro hc
    exact hD.tk hs T (by omega) hT
  refine⟨oN s.lv T hT _ _ h1,?_⟩
  have:=hS.T6;have:=hS.n7;omega
theorem calm(h:Qt n T E w)(h3:3≤n)(h7:n≤7)(hO:vw w)(hD:da w)(hE:E+2≤126)(hd:∀j,j<n→Qt.cZ n T w j+128*n+32*w.begun+4000≤1048576)(dL:∀k,k≤4326→∀x∈(Wd.drain k (w.aU n)).1.aI,x.bL) :
    ∃d w',d≤4326∧w.round=(w',d)∧Cw n T (E+2) w'∧∀j,j<n→Qt.cZ n T w' j≤Qt.cZ n T w j+128*n+32*w.begun:=by
  have dF:Lo (E+1) w:=fun i s hs x _=>by
    have:=((h.site i s hs).1.st x).1;omega
  have dm:=(h.aU h3 h7 dF (by omega) (by omega) (fun j hj=>by have:=hd j hj;omega) (fun x hx=>dL 0 (by omega) x hx)).1
  have hW0:∀o c:Nat,o<n→c<n→o≠c→xu o c (w.aU n):=fun o c ho hc hne=>by
    obtain⟨s,hs⟩:=h.some_ hc
    have:=h.iw hD hs
    exact h.Mr dF (by omega) (by omega) dm hs ho hne (by omega)
  have Wg:vw (w.aU n):=fun i t ht=>by
    have hi:i<n:=by
      have q:=(List.getElem?_eq_some_iff.1 ht).1
      rw[Wd.gZ,h.len]at q;exact q
    obtain⟨s,hs⟩:=h.some_ hi
    obtain⟨t',ys,zs,b,f,fy,k⟩:=h.mi dF (by omega) (by omega) hs
    rw[ht]at fy;injection fy with fy;subst fy
    have ca:=(h.site i s hs).1.me
    rw[k.gj.1]
    have:=pg s.me s.wt s.n
    rw[ca]at this ⊢
    rw[this]
    exact hO i s hs
  obtain⟨d,w',d1,d2,d3,d4,⟨j3,j4⟩,d6⟩:=h.round (J:=fun v=>(∀o c:Nat,o<n→c<n→o≠c→xu o c v)∧vw v) h3 h7 dF (by omega) (by omega) hd dL ⟨hW0,Wg⟩
    (fun v v' m l i s t out k c mo ⟨a3,a4⟩ dv hn c'=>⟨fun o c ho hc hne=>(a3 o c ho hc hne).step dv hn,fun j u hu=>by
      rcases dv.other hu with⟨e1,e2⟩|⟨-,e2⟩
      · subst e1 e2
        rw[dv.wt]
        rcases yo s.wt m.aR.toNat j with q|q
        · rw[q];decide
        · rw[q];exact a4 j s dv.hs
      · exact a4 j u e2⟩)
  have hD':da w':=by
    have:=hD.round
    rw[d2]at this;exact this
  refine⟨d,w',d1,d2,⟨⟨d3.len,fun i s hs=>?_,d3.aI⟩,h3,h7,by omega,by omega,fun i s hs c hc hne=>?_,j4,fun i s hs x hx=>hD'.tk hs x hx,fun x o _ _ j s hs=>?_⟩,d6⟩
  · obtain⟨a1,a2,a3,a4⟩:=d3.site i s hs
    exact⟨a1.pd (by omega) (by omega),a2,a3,a4⟩
  · have hi:i<n:=by rw[←d3.len];exact(List.getElem?_eq_some_iff.1 hs).1
    obtain⟨u,hu,hz⟩:=(j3 i c hi hc (fun e=>hne e.symm)).done d3.aI
    rw[hs]at hu;injection hu with hu;subst hu
    omega
  · have:=((d3.site j s hs).1.st x).1
    omega
end Qt
theorem ML{n T i:Nat}(hT:T≤6*n)(h3:3≤n):((List.range T).filter fun(k:Nat)=>decide (k % n=i)).length≤6:=by
  have h:=Di (n:=n) (T:=T) (i:=i) (s:=Site.new i n 2) hT h3
  unfold jh at h
  refine Nat.le_trans (Nat.le_of_eq ?_) h
  congr 1
  refine filter_congr fun k _=>?_
  have:(Site.new i n 2).fresh (k:Int)=true:=Site.bo.2 ⟨rfl,rfl⟩
  rw[this,Bool.and_true]
theorem Cw.TK{n T F:Nat}{w:Wd}(h:Cw n T F w):w.jA n T F≤42*F:=by
  have hn:=h.n7
  have hT:T≤6*n:=by
    obtain⟨s,hs⟩:=h.qt.some_ (show 0<n by have:=h.n3;omega)
    exact(h.qt.site 0 s hs).1.T6
  have h1:w.jA n T F≤ft (fun _=>6*F) n:=by
    unfold Wd.jA
    refine kL fun i hi=>?_
    obtain⟨s,hs⟩:=h.qt.some_ hi
    rw[eU hs]
    have h2:s.jA n T F i≤ft (fun x:Nat=>F*(if decide (x % n=i)=true then 1 else 0)) T:=by
      unfold Site.jA
      refine kL fun x _=>?_
      have hp:=(h.qt.site i s hs).2.2.1 (x:Int)
      by_cases c:x % n=i
      · rw[if_pos c,if_pos (dJ c),Nat.mul_one];omega
      · rw[if_neg c];exact Nat.zero_le _
    rw[qD,←rZ (fun x:Nat=>decide (x % n=i))]at h2
    have h3:=Nat.mul_le_mul_left F (ML (i:=i) hT h.n3)
    omega
  rw[nG]at h1
  have:=Nat.mul_le_mul_left (6*F) hn
  omega
theorem Qt.PO{n T E:Nat}{w:Wd}(h:Qt n T E w):w.begun≤8*n:=by
  unfold Wd.begun
  have:ft (nH (fun _ s=>(s.ck.late s.ck.bF).length) w.ss) w.ss.length≤ft (fun _=>8) w.ss.length:=by
    refine kL fun i hi=>?_
    rw[eU (List.getElem?_eq_getElem hi)]
    unfold Site.late
    rw[length_take];omega
  rw[nG,h.len]at this
  rw[h.len]
  exact this
theorem Sc.qt{n T E A B c z:Nat}{w:Wd}{P:Int→List UInt8→Prop}{G:Int→List Rc}(h:Sc n T E A B w)(hu:qK z w)(hz:3≤z)(hn:w.aI= [])(hI:bR w n P c G)(hB:B+4000≤1048576):Qt n T E w∧Qt.vw w∧∀j,j<n→Qt.cZ n T w j≤B:=by
  refine⟨⟨h.len,fun i s hs=>?_,hn⟩,fun i s hs=>(h.site i s hs).own,fun j hj=>?_⟩
  · obtain⟨hd,hl⟩:=hu i s hs
    have:=h.b i s hs
    exact⟨(h.site i s hs).up hd,hl.2.2 hz,Sc.p0 hI hs hd,by omega⟩
  · obtain⟨s,hs⟩:=h.some_ hj
    have q:=h.b j s hs
    unfold Qt.cZ
    rw[eU hs]
    have:(Fd j n).ji T w≤(Fd j n).Vt T w:=by
      unfold Fw.ji Fw.Vt
      have:=sB (fun i s=>((Fd j n).P i).pt T s) (fun i s=>((Fd j n).P i).V T s) w.ss 0 fun i s _=>by
        unfold Pw.V;omega
      omega
    omega
theorem sa.start{n T F q N D:Nat}{w:Wd}(h:Cw n T F w)(hq:q*(3*F+17)≤N)(hD:∀j,j<n→Qt.cZ n T w j≤D)(hN:D+1344*F+896*N+4000≤1048576):sa n T F q N w:=by
  refine⟨h,.a 0 q (by omega) (fun x hx=>absurd hx (by omega)) hq,fun j hj=>?_⟩
  have q1:=hD j hj
  have q2:=h.TK
  have q3:=Nat.mul_le_mul_right N (show 128*n≤896 by have:=h.n7;omega)
  omega
def Ph(n T E B q N i:Nat)(w:Wd):Prop:=
  (i≤3∧∃A,A≤20680+3066*i∧Sc n T (E+i) A (B+12544*i) w∧qK i w∧(i=3→w.aI= []∨A≤9878))∨
  (i=4∧∃A,Sc n T (E+4) A (B+50176) w∧qK 4 w∧w.aI= [])∨
  (5≤i∧∃M,i+M≤5+N∧sa n T (E+6) q M w)
def wL(i:Nat):Nat:=if i≤3 then 2002100 else 434700
theorem Wd.zx:∀(k:Nat)(w:Wd),Wd.drain (Wd.drain k w).2 w=Wd.drain k w
  |0,w=>rfl
  |k+1,w=>by
    cases hn:w.aI with
    |nil=>rw[Wd.jY _ hn,Wd.jY _ hn]
    |cons m l=>
      rw[Wd.fX k hn]
      dsimp only
      rw[Wd.fX _ hn,Wd.zx k]
theorem Wd.JV{K d:Nat}{w:Wd}(h:(Wd.drain K w).2=d):Wd.drain d w=Wd.drain K w:=by
  rw[←h];exact Wd.zx K w
namespace Ph
variable {n T E B q N i c:Nat} {w:Wd} {P:Int→List UInt8→Prop} {G:Int→List Rc}
theorem take(h:Ph n T E B q N i w)(j:Nat):Ph n T E B q N i (w.take j):=by
  rcases h with⟨h1,A,h2,h3,h4,h5⟩|⟨h1,A,h3,h4,h5⟩|⟨h1,M,h2,h3⟩
  · exact .inl ⟨h1,A,h2,h3.take j,h4.take j,fun e=>by rw[Wd.ow];exact h5 e⟩
  · exact .inr (.inl ⟨h1,A,h3.take j,h4.take j,by rw[Wd.ow];exact h5⟩)
  · exact .inr (.inr ⟨h1,M,h2,h3.take j⟩)
theorem round(h:Ph n T E B q N i w)(h3:3≤n)(h7:n≤7)(hE:E+7≤126)(hB:B+60000≤1048576)(hT:T≤8*q)(hN:q*(3*(E+6)+17)≤N)(hND:B+53000+1344*(E+6)+896*N+4000≤1048576)(hI:bR w n P (2002100+(wL i+c)) G)(hD:da w)(hl:5≤i→¬ ry n w):Ph n T E B q N (i+1) w.round.1∧(∃G',bR w.round.1 n P (2002100+c) G'):=by
  have IA:bR w n P (300*n+2000000+0) G:=hI.less (by omega)
  have dL:∀k,k≤4326→∀x∈(Wd.drain k (w.aU n)).1.aI,x.bL:=fun k hk x hx=>by
    obtain⟨G1,-,BS⟩:=bR.aU n 2000000 (IA.less (by omega))
    obtain⟨G2,-,MK⟩:=bR.drain (c:=0) k (BS.less (by omega))
    exact(MK.aI x hx).1
  have adA:i≤3→∃G',bR w.round.1 n P (2002100+c) G':=fun hi=>by
    obtain⟨G',-,h9⟩:=bR.round (c:=2002100+c) (hI.less (d:=300*n+2000000+(2002100+c)) (by unfold wL;rw[if_pos hi];omega))
    exact⟨G',h9⟩
  have MM:4≤i→(∃d w',d≤4326∧w.round=(w',d))→∃G',bR w.round.1 n P (2002100+c) G':=fun hi ⟨d,w',d1,d2⟩=>by
    have e:w.round=Wd.drain 20000 (w.aU n):=hI.round_eq
    have hc:wL i=434700:=by unfold wL;rw[if_neg (by omega)]
    obtain⟨G1,-,BS⟩:=bR.aU n (100*d+(2002100+c)) (hI.less (by omega))
    obtain⟨G2,-,MK⟩:=bR.drain d BS
    refine⟨G2,?_⟩
    have h2:(Wd.drain 20000 (w.aU n)).2=d:=by rw[←e,d2]
    rw[e,←Wd.JV h2];exact MK
  rcases h with⟨h1,A,h2,h4,h5,h6⟩|⟨h1,A,h4,h5,h6⟩|⟨h1,M,h2,h4⟩
  · refine⟨?_,adA h1⟩
    by_cases hi:i≤2
    · obtain⟨A',a1,a2,a3,a4⟩:=h4.round h7 h5 IA (by omega) (by omega)
      have L0:A'≤20680+3066*(i+1):=by
        have e:∀X:Nat,X*(i+1)=X*i+X:=fun X=>Nat.mul_succ X i
        rw[e,←Nat.add_assoc]
        exact Nat.le_trans a1 (Nat.add_le_add_right h2 3066)
      refine .inl ⟨by omega,A',L0,a2.more (Nat.le_refl _) (by omega),a3,fun e=>a4.imp id (fun q=>?_)⟩
      have xz:i=2:=by omega
      subst xz
      omega
    · have hi3:i=3:=by omega
      subst hi3
      have RE:∃A0,A0≤9878∧Sc n T (E+3) A0 (B+12544*3) w:=by
        rcases h6 rfl with q|q
        · exact⟨5600,by omega,h4.rest h5 (Nat.le_refl _) q h7⟩
        · exact⟨A,q,h4⟩
      obtain⟨A0,b1,b2⟩:=RE
      obtain⟨A',a1,a2,a3,a4⟩:=b2.round h7 h5 IA (by omega) (by omega)
      refine .inr (.inl ⟨rfl,A',a2.more (Nat.le_refl _) (by omega),a3,?_⟩)
      rcases a4 with q|q
      · exact q
      · omega
  · subst h1
    obtain⟨k1,k2,k3⟩:=h4.qt h5 (by omega) h6 hI (by omega)
    have hb:=k1.PO
    obtain⟨d,w',d1,d2,d3,d4⟩:=k1.calm h3 h7 k2 hD (by omega) (fun j hj=>by have:=k3 j hj;omega) dL
    refine⟨?_,MM (by omega) ⟨d,w',d1,d2⟩⟩
    rw[d2]
    dsimp only
    refine .inr (.inr ⟨by omega,N,by omega,sa.start (D:=B+53000) d3 hN (fun j hj=>?_) (by omega)⟩)
    have q1:=k3 j hj
    have q2:=d4 j hj
    omega
  · have ng:=hl h1
    obtain⟨M',d,w',e1,d1,d2,d3⟩:=h4.round (by omega) hT ng dL
    refine⟨?_,MM (by omega) ⟨d,w',d1,d2⟩⟩
    rw[d2]
    exact .inr (.inr ⟨by omega,M',by omega,d3⟩)
theorem IB(h:Ph n T E B q N i w)(hI:bR w n P c G)(hl:w.level=false)(hi:5≤i):¬ ry n w:=fun hc=>by
  rcases h with⟨h1,-⟩|⟨h1,-⟩|⟨h1,M,h2,h4⟩
  · omega
  · omega
  · rw[hc.level h4.cw hI]at hl;cases hl
theorem le(h:Ph n T E B q N i w):i≤5+N:=by
  rcases h with⟨h1,-⟩|⟨h1,-⟩|⟨h1,M,h2,-⟩<;>omega
end Ph
theorem Wd.qx.IB{n:Nat}{w w':Wd}(h:Wd.qx w w')(hl:ry n w'):ry n w:=by
  induction h with
  |refl=>exact hl
  |take i _ ih=>exact ih (Wd.TI _ i hl)
def sb(N i:Nat):Nat:=2002100*(4-i)+434700*(N+6-i)
theorem MN{N i:Nat}(h:i≤5+N):wL i+sb N (i+1)≤sb N i:=by
  unfold wL sb
  split<;>omega
theorem TL{p E:Nat}(hp:p≤6)(he:p+E≤40):5+p*(3*(E+6)+17)≤8*(p+E)*4+(7*p+4)*8∧(2000*(p+E)+672)+53000+1344*(E+6)+896*(p*(3*(E+6)+17))+4000≤1048576∧2002100+sb (p*(3*(E+6)+17)) 0≤390000000:=by
  unfold sb
  have:p=0∨p=1∨p=2∨p=3∨p=4∨p=5∨p=6:=by omega
  rcases this with rfl|rfl|rfl|rfl|rfl|rfl|rfl<;>omega
theorem Ph.start{n T E A B q N:Nat}{w:Wd}(h:Sc n T E A B w)(hA:A≤20680)(hu:∀(i:Nat) s,w.ss[i]? =some s→s.down=false):Ph n T E B q N 0 w:=
  .inl ⟨by omega,A,by omega,h,fun i s hs=>⟨hu i s hs,fun e=>(by cases e),fun e=>(by cases e),fun e=>absurd e (by omega)⟩,fun e=>(by cases e)⟩
