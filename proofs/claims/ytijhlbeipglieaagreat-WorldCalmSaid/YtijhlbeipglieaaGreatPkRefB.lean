/- For WorldCalm. -/
import Derived.Test.YtijhlbeipglieaaGreatPkWrldM
set_option linter.all false
set_option maxRecDepth 100000
set_option maxHeartbeats 4000000
namespace Go.Proofs.YtijhlbeipglieaaGreat
open Go.RowKit aL Go.Maps Go.Proofs.Tryz List
structure Cv(w:World)(A:Option Addr)(l:List bO):Prop where
 row:Rd w 1 A l.length (l.map bO.val)
 each:∀x∈l,bE w x.A x.n x.b
theorem Cv.aN{w w':World}{A:Option Addr}{l:List bO}{b:List Nat}(h:Cv w A l)(hu:ab [] b w w'):Cv w' A l:=⟨h.row.aq hu (by simp),fun x hx=>(h.each x hx).aq hu (by simp)⟩
theorem jm.Ip{w:World}{A:Option Addr}{c:Nat}{l:List bO}(h:jm w A c l):Cv w A l:=⟨h.own.rd,fun x hx=>(h.each x hx).rd⟩
structure Kx(p:Prop):Prop where
 out:p
theorem Cv.at_{w:World}{A:Option Addr}{l:List bO}(h:Cv w A l){i:Nat}(hi:i<l.length):∃ad,A=some ad∧w.cell? (ad.add i)=some l[i].val∧bE w l[i].A l[i].n l[i].b:=by
 obtain⟨ad,hA,hc⟩:=h.row.2 (by omega)
 exact⟨ad,hA,hc i _ (by rw[List.getElem?_map,List.getElem?_eq_getElem hi];rfl),h.each _ (getElem_mem hi)⟩
theorem N6(w:World)(A B:Option Addr)(c d:Nat)(l r:List bO)(hl:Cv w A l)(hr:Cv w B r)(hb:l.length≤1099511627776) :
  Calls prog 42 #[.slice A l.length c,.slice B r.length d] w fun e w'=>e=.returned (.bool (l.map bO.b==r.map bO.b))∧ab [] [] w w':=by
 obtain⟨F,hF⟩:=bk ((l.map bO.b==r.map bO.b))
 have HF:=aA hF
 rw[hF]
 clear hF
 obtain⟨m,hm⟩:=bk r.length
 have HM:=aA hm
 rw[hm]
 clear hm
 go_enter func42,ntmps42
 by_cases hlen:l.length=m
 case neg=>
  have d1:((l.length:Int) != (m:Int))=true:=by simp only[bne_iff_ne];omega
  have d2:(l.length != m)=true:=by simp only[bne_iff_ne];exact hlen
  have hFf:F=false:=by
   rw[←HF.out,beq_eq_false_iff_ne]
   intro e
   have:=congrArg length e
   rw[length_map,length_map,HM.out]at this
   exact hlen this
  subst hFf
  repeat' first|go_values|go_skip|go_guarded|go_step|go_upon|simp only[];go_at_K
  go_ret
  exact⟨rfl,ab.refl _ _⟩
 subst hlen
 have n1:((l.length:Int) != (l.length:Int))=false:=bne_self_eq_false _
 have n2:(l.length != l.length)=false:=bne_self_eq_false _
 repeat' first|go_values|go_skip|go_guarded|go_step|go_upon|simp only[];go_at_K
 go_loopw [5] (fun v5 wr=>Kx (∃i:Nat,i≤l.length∧v5=.int .i64 (i:Int)∧((l.drop i).map bO.b==(r.drop i).map bO.b)=F∧ab [] [] w wr)) (fun v5 _=>l.length-(intOf v5).toNat)
 case atStart=>exact Kx.mk ⟨0,by omega,rfl,HF.out,ab.refl _ _⟩
 case round=>
  obtain⟨i,hi,rfl,hd,U⟩:=hrel.out
  clear hrel
  have HD:=aA hd
  clear hd
  by_cases hlt:i<l.length
  ·have dK:(i:Int)<(l.length:Int):=by omega
   have dC:=aL.wr ((i:Int)+1)
   have hrt:i<r.length:=by rw[HM.out];exact hlt
   obtain⟨ad,rfl,cx,hx⟩:=(hl.aN U).at_ hlt
   obtain⟨bd,rfl,cy,hy⟩:=(hr.aN U).at_ hrt
   have HS:=aA (show((l.drop i).map bO.b==(r.drop i).map bO.b)=((l[i].b==r[i].b)&&((l.drop (i+1)).map bO.b==(r.drop (i+1)).map bO.b)) by
    rw[drop_eq_getElem_cons hlt,drop_eq_getElem_cons hrt,map_cons,map_cons,cons_beq_cons])
   generalize l[i]=x at *
   generalize r[i]=y at *
   unfold bO.val at cx cy
   have c1:=fun N=>((ab.refl [] wr).drewN N).cell cx (by simp)
   have c2:=fun N=>((ab.refl [] wr).drewN N).cell cy (by simp)
   have s1:=fun N=>strOf (hx.drewN N) x.c
   have s2:=fun N=>strOf (hy.drewN N) y.c
   clear cx cy hx hy hrt
   repeat' first|go_values|go_skip|go_guarded|go_step|go_upon|simp only[];go_at_K
   cases t2:(x.b==y.b) with
   |true=>
    have t3:(x.b != y.b)=false:=by unfold bne;rw[t2];rfl
    go_quiet (fail)
    clear s1 s2 c1 c2
    repeat' first|go_values|go_skip|go_guarded|go_step|go_upon|simp only[];go_at_K
    refine⟨Kx.mk ⟨i+1,by omega,by simp,?_,U.drewN _⟩,by simp[intOf];omega⟩
    have:=HS.out
    rw[t2,HD.out,Bool.true_and]at this
    exact this.symm
   |false=>
    have t3:(x.b != y.b)=true:=by unfold bne;rw[t2];rfl
    go_quiet (fail)
    clear s1 s2 c1 c2
    repeat' first|go_values|go_skip|go_guarded|go_step|go_upon|simp only[];go_at_K
    go_ret
    have:=HS.out
    rw[t2,HD.out,Bool.false_and]at this
    exact⟨by rw[this];rfl,U.drewN _⟩
  ·obtain rfl:i=l.length:=by omega
   have dK:¬ ((l.length:Int)<(l.length:Int)):=by omega
   have hFt:F=true:=by rw[←HD.out,drop_length,show r.drop l.length= []from drop_eq_nil_of_le (by rw[HM.out];exact Nat.le_refl _)];rfl
   subst hFt
   repeat' first|go_values|go_skip|go_guarded|go_step|go_upon|simp only[];go_at_K
   go_ret
   exact⟨rfl,U⟩
