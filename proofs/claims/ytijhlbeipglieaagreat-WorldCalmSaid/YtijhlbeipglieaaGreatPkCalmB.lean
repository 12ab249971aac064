/- For WorldCalm. -/
import Derived.Test.YtijhlbeipglieaaGreatPkCalmA
set_option linter.all false
namespace aL
open Go Go.Proofs.YtijhlbeipglieaaGreat List
namespace Vm
variable {n q i:Nat} {V:Nat→Option (List UInt8)} {s:Site}
end Vm
namespace Site
theorem rW:∀(l:List (Int × Rn))(u:Site),l.foldl (fun u p=>u.others (asks p.2 p.1) u.n) u= {u with held:=u.held++l.flatMap fun p=>u.tell (asks p.2 p.1) u.n}
 |[],u=>by simp
 |p::l,u=>by
  rw[foldl_cons,rW l,bH]
  have e:∀m,({u with held:=u.held++u.tell (asks p.2 p.1) u.n} :Site).tell m u.n=u.tell m u.n:=fun m=>rfl
  simp only[e,flatMap_cons,append_assoc]
theorem tC{vt:List (Int × Bl)}{me:Int}{b:Bl}{n:Nat}(h3:3≤n)(h:∀z∈vt,z=(me,b)):most vt b n=false:=by
 unfold most fN
 rw[if_neg (by omega)]
 refine decide_eq_false ?_
 have hl:((dE ((vt.filter fun v=>decide (v.2=b)).map Prod.fst) (n:Int)).map Prod.fst).length≤[me].length:=iZ (lq _ _) fun x hx=>by
  obtain⟨z,hz,rfl⟩:=mem_map.1 (lM hx).1
  rw[h z (mem_filter.1 hz).1];simp
 rw[length_map,length_singleton]at hl
 unfold mW
 rw[if_neg (by omega)]
 omega
end Site
namespace Vm
variable {q i:Nat} {s:Site}
end Vm
theorem ov{α:Type}(L:AL α):(∀p∈L,p.1+1≤eT L)∧∀q:Int,0≤q→(∀p∈L,p.1+1≤q)→eT L≤q:=by
 have key:∀(L:AL α)(m:Int),(m≤L.foldl (fun m p=>max m (p.1+1)) m)∧(∀p∈L,p.1+1≤L.foldl (fun m p=>max m (p.1+1)) m)∧∀q:Int,m≤q→(∀p∈L,p.1+1≤q)→L.foldl (fun m p=>max m (p.1+1)) m≤q:=by
  intro L
  induction L with
  |nil=>intro m;exact⟨Int.le_refl _,fun p hp=>(by cases hp),fun q h _=>h⟩
  |cons e L ih=>
   intro m
   obtain⟨h1,h2,h3⟩:=ih (max m (e.1+1))
   rw[foldl_cons]
   refine⟨by omega,fun p hp=>?_,fun q hq hp=>h3 q ?_ fun p pN=>hp p (by simp[pN])⟩
   ·rcases mem_cons.1 hp with rfl|hp
    ·omega
    ·exact h2 p hp
   ·have:=hp e (by simp);omega
 obtain⟨-,h2,h3⟩:=key L 0
 exact⟨h2,h3⟩
namespace Site
theorem AB{s:Site}{x:Int}(hd:s.dec x≠none):∃e∈s.lv,e.1=x:=by
 obtain⟨v,hv⟩:=fG hd
 exact⟨_,bG hv,rfl⟩
end Site
namespace Full
variable {i:Nat} {s:Site}
end Full
theorem Site.oM{s t:Site}{x:Int}{b:Bl}{v:List UInt8}(h:s.accept x b v=some t):t=({s with db:=s.db++bX [⟨2,x,b.r,b.s,v⟩]} :Site).turn x ⟨b,true,b,v⟩:=by
 unfold Site.accept Site.note at h
 split at h
 ·cases h
 split at h
 ·injection h with h;exact h.symm
 ·cases h
theorem Site.lr{s t:Site}{x:Int}{b:Bl}(h:s.promise x b=some t):1≤b.r∧t=({s with db:=s.db++bX [⟨1,x,b.r,b.s,[]⟩]} :Site).turn x {s.stat x with p:=b}:=by
 unfold Site.promise Site.note at h
 split at h
 ·cases h
 rename_i hc
 split at h
 ·injection h with h;exact⟨by omega,h.symm⟩
 ·cases h
namespace adi
variable {a:Nat} {s:Site}
end adi
namespace PW
variable {a f:Nat} {w:Wd}
end PW
theorem xi{α:Type}(L:AL α):∀k s:Nat,cN L (k-(cN L k s-s)) (cN L k s)=cN L k s
 |0,s=>by rw[Nat.zero_sub];rfl
 |k+1,s=>by
  by_cases h:(aD (s:Int) L).isSome=true
  ·have e:cN L (k+1) s=cN L k (s+1):=by conv=>lhs;unfold cN;rw[if_pos h]
   have h1:=ri L k (s+1)
   rw[e]
   have e2:k+1-(cN L k (s+1)-s)=k-(cN L k (s+1)-(s+1)):=by omega
   rw[e2]
   exact xi L k (s+1)
  ·have e:∀k,cN L (k+1) s=s:=fun k=>by unfold cN;rw[if_neg h]
   rw[e,Nat.sub_self,Nat.sub_zero,e]
namespace Site
def kg(s:Site):List (List UInt8):=lN s.val s.front
theorem xj(s:Site):s.ey.1.front=s.front:=by
 have h:=xi s.lv (4096-s.taken) s.taken
 have h1:=ri s.lv (4096-s.taken) s.taken
 have e:4096-cN s.lv (4096-s.taken) s.taken=(4096-s.taken)-(cN s.lv (4096-s.taken) s.taken-s.taken):=by omega
 show cN s.lv (4096-cN s.lv (4096-s.taken) s.taken) (cN s.lv (4096-s.taken) s.taken)=cN s.lv (4096-s.taken) s.taken
 rw[e];exact h
theorem JJ(s:Site):s.ey.1.kg=s.kg:=by
 unfold kg
 rw[xj]
 rfl
end Site
namespace Wd
def nt(w:Wd):Nat→Int
 |0=>0
 |i+1=>max (w.nt i) (match w.ss[i]? with|some s=>s.bF|none=>0)
def tD(w:Wd)(t:Int)(i:Nat):Bool:=match w.ss[i]? with
 |none=>false
 |some s=>decide (t≤(s.front:Int)) && !s.down&&decide (s.kg=match w.ss[0]? with|some o=>o.kg|none=>[])
def level(w:Wd):Bool:=(List.range w.ss.length).all (w.tD (w.nt w.ss.length))
theorem take_len(w:Wd)(i:Nat):(w.take i).ss.length=w.ss.length:=by unfold take;split<;>simp
theorem ow(w:Wd)(i:Nat):(w.take i).aI=w.aI:=by unfold take;split<;>rfl
theorem qg(w:Wd)(i j:Nat):(w.take i).ss[j]? =if i=j then(w.ss[j]?).map fun s=>s.ey.1 else w.ss[j]?:=by
 unfold take
 cases h:w.ss[i]? with
 |none=>
  dsimp only
  split
  ·rename_i e;subst e;rw[h];rfl
  ·rfl
 |some s=>
  dsimp only
  split
  ·rename_i e;subst e
   rw[List.getElem?_set_self (List.getElem?_eq_some_iff.1 h).1,h];rfl
  ·rename_i e;exact List.getElem?_set_ne e
inductive qx:Wd→Wd→Prop
 |refl (w:Wd):qx w w
 |take {w w':Wd} (i:Nat):qx w w'→qx w (w'.take i)
theorem qx.ind{I:Wd→Prop}(hI:∀w i,I w→I (w.take i)){w w':Wd}(h:qx w w')(h0:I w):I w':=by
 induction h with
 |refl=>exact h0
 |take i _ ih=>exact hI _ i ih
theorem qx.look{w w':Wd}(h:qx w w'):w'.ss.length=w.ss.length∧∀(j:Nat) s,w.ss[j]? =some s→∃t,w'.ss[j]? =some t∧t.bF=s.bF∧t.front=s.front∧t.down=s.down∧t.kg=s.kg:=by
 induction h with
 |refl=>exact⟨rfl,fun j s hs=>⟨s,hs,rfl,rfl,rfl,rfl⟩⟩
 | @take w' i _ ih=>
  obtain⟨h1,h2⟩:=ih
  refine⟨(take_len _ _).trans h1,fun j s hs=>?_⟩
  obtain⟨t,t1,t2,t3,t4,t5⟩:=h2 j s hs
  rw[qg]
  split
  ·exact⟨t.ey.1,by rw[t1];rfl,t2,(Site.xj t).trans t3,t4,(Site.JJ t).trans t5⟩
  ·exact⟨t,t1,t2,t3,t4,t5⟩
end Wd
namespace adj
variable {n q:Nat} {V:Nat→Option (List UInt8)} {w:Wd}
end adj
theorem da.tk{w:Wd}(h:da w){i:Nat}{s:Site}(hs:w.ss[i]? =some s):∀x:Nat,x<s.taken→s.dec (x:Int)≠none:=fun x hx=>by
 obtain⟨d,-,h2⟩:=h.one i s hs
 obtain⟨v,hv⟩:=h2.all x hx
 rw[hv];simp
theorem da.sv{w:Wd}(h:da w){i:Nat}{s:Site}(hs:w.ss[i]? =some s):(w.take i).done.getD i []=s.kg:=by
 obtain⟨d,h1,h2⟩:=(h.take i).one i s.ey.1 (by rw[Wd.qg,if_pos rfl,hs];rfl)
 rw[List.getD_eq_getElem?_getD,h1,Option.getD_some,h2.eq]
 rfl
theorem Wd.Hz{w:Wd}{T:Int}(h0:0≤T)(h:∀(i:Nat) s,w.ss[i]? =some s→s.bF≤T):∀i,w.nt i≤T
 |0=>h0
 |i+1=>by
  unfold Wd.nt
  have:=Wd.Hz h0 h i
  cases c:w.ss[i]? with
  |none=>dsimp only;omega
  |some s=>have:=h i s c;dsimp only;omega
