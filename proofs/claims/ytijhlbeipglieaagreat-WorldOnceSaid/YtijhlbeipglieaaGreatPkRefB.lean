/- Layer 12, the document's: Same. -/
import Derived.Test.YtijhlbeipglieaaGreatPkWrldM
set_option linter.all false
set_option maxRecDepth 100000
set_option maxHeartbeats 4000000
namespace Go.Proofs.YtijhlbeipglieaaGreat
open Go.RowKit Agio Go.Maps
structure RdR (w:World) (A:Option Addr) (l:List Bsl):Prop where
 row:Rd w 1 A l.length (l.map Bsl.val)
 each:∀x∈l,RdB w x.A x.n x.b
theorem RdR.upd0 {w w':World} {A:Option Addr} {l:List Bsl} {b:List Nat} (h:RdR w A l) (hu:Upd [] b w w'):RdR w' A l:=⟨h.row.upd hu (by simp),fun x hx=>(h.each x hx).upd hu (by simp)⟩
theorem RdR.take {w:World} {A:Option Addr} {l:List Bsl} (h:RdR w A l) {n:Nat} (hn:n≤l.length):RdR w A (l.take n):=by
 refine ⟨?_,fun x hx=>h.each x (List.mem_of_mem_take hx)⟩
 have:=Rd.take (k:=n) h.row hn
 rw [Nat.mul_one,←List.map_take] at this
 rw [List.length_take,Nat.min_eq_left hn]
 exact this
theorem OwnS.rdr {w:World} {A:Option Addr} {c:Nat} {l:List Bsl} (h:OwnS w A c l):RdR w A l:=⟨h.own.rd,fun x hx=>(h.each x hx).rd⟩
structure KeptV (p:Prop):Prop where
 out:p
theorem RdR.at_ {w:World} {A:Option Addr} {l:List Bsl} (h:RdR w A l) {i:Nat} (hi:i < l.length):∃ad,A=some ad∧w.cell? (ad.add i)=some l[i].val∧RdB w l[i].A l[i].n l[i].b:=by
 obtain ⟨ad,hA,hc⟩:=h.row.2 (by omega)
 exact ⟨ad,hA,hc i _ (by rw [List.getElem?_map,List.getElem?_eq_getElem hi];rfl),h.each _ (List.getElem_mem hi)⟩
theorem ref12Same (w:World) (A B:Option Addr) (c d:Nat) (l r:List Bsl) (hl:RdR w A l) (hr:RdR w B r) (hb:l.length≤1099511627776) :
  Calls Tryz.prog 42 #[.slice A l.length c,.slice B r.length d] w fun e w'=>e= .returned (.bool (l.map Bsl.b == r.map Bsl.b))∧Upd [] [] w w':=by
 obtain ⟨F,hF⟩:∃F,(l.map Bsl.b == r.map Bsl.b)=F:=⟨_,rfl⟩
 have HF:=Lib.hid hF
 rw [hF]
 clear hF
 obtain ⟨m,hm⟩:∃m,r.length=m:=⟨_,rfl⟩
 have HM:=Lib.hid hm
 rw [hm]
 clear hm
 go_enter Tryz.func42,Tryz.ntmps42
 by_cases hlen:l.length=m
 case neg=>
  have d1:((l.length:Int) != (m:Int))=true:=by simp only [bne_iff_ne];omega
  have d2:(l.length != m)=true:=by simp only [bne_iff_ne];exact hlen
  have hFf:F=false:=by
   rw [←HF.out,beq_eq_false_iff_ne]
   intro e
   have:=congrArg List.length e
   rw [List.length_map,List.length_map,HM.out] at this
   exact hlen this
  subst hFf
  repeat' (first|go_values|go_skip|go_guarded|go_step|go_upon|(simp only [];go_at_K))
  go_ret
  exact ⟨rfl,Upd.refl _ _⟩
 subst hlen
 have n1:((l.length:Int) != (l.length:Int))=false:=bne_self_eq_false _
 have n2:(l.length != l.length)=false:=bne_self_eq_false _
 repeat' (first|go_values|go_skip|go_guarded|go_step|go_upon|(simp only [];go_at_K))
 go_loopw [5] (fun v5 wr=>KeptV (∃i:Nat,i≤l.length∧v5= .int .i64 (i:Int)∧((l.drop i).map Bsl.b == (r.drop i).map Bsl.b)=F∧Upd [] [] w wr)) (fun v5 _=>l.length - (intOf v5).toNat)
 case atStart=>exact KeptV.mk ⟨0,by omega,rfl,HF.out,Upd.refl _ _⟩
 case round=>
  obtain ⟨i,hi,rfl,hd,U⟩:=hrel.out
  clear hrel
  have HD:=Lib.hid hd
  clear hd
  by_cases hlt:i < l.length
  ·have hil:(i:Int) < (l.length:Int):=by omega
   have hw1:IntKind.i64.wrap ((i:Int) + 1)=(i:Int) + 1:=by rw [IntKind.wrap_i64];omega
   have hrt:i < r.length:=by rw [HM.out];exact hlt
   obtain ⟨ad,rfl,cx,hx⟩:=(hl.upd0 U).at_ hlt
   obtain ⟨bd,rfl,cy,hy⟩:=(hr.upd0 U).at_ hrt
   have HS:=Lib.hid (show ((l.drop i).map Bsl.b == (r.drop i).map Bsl.b)=((l[i].b == r[i].b) && ((l.drop (i + 1)).map Bsl.b == (r.drop (i + 1)).map Bsl.b)) by
    rw [List.drop_eq_getElem_cons hlt,List.drop_eq_getElem_cons hrt,List.map_cons,List.map_cons,List.cons_beq_cons])
   generalize l[i]=x at *
   generalize r[i]=y at *
   unfold Bsl.val at cx cy
   have c1:=fun N=>((Upd.refl [] wr).drewN N).cell cx (by simp)
   have c2:=fun N=>((Upd.refl [] wr).drewN N).cell cy (by simp)
   have s1:=fun N=>strOf (hx.drewN N) x.c
   have s2:=fun N=>strOf (hy.drewN N) y.c
   clear cx cy hx hy hrt
   repeat' (first|go_values|go_skip|go_guarded|go_step|go_upon|(simp only [];go_at_K))
   cases t2:(x.b == y.b) with
   | true=>
    have t3:(x.b != y.b)=false:=by unfold bne;rw [t2];rfl
    go_quiet (fail)
    clear s1 s2 c1 c2
    repeat' (first|go_values|go_skip|go_guarded|go_step|go_upon|(simp only [];go_at_K))
    refine ⟨KeptV.mk ⟨i + 1,by omega,by simp,?_,U.drewN _⟩,by simp [intOf];omega⟩
    have:=HS.out
    rw [t2,HD.out,Bool.true_and] at this
    exact this.symm
   | false=>
    have t3:(x.b != y.b)=true:=by unfold bne;rw [t2];rfl
    go_quiet (fail)
    clear s1 s2 c1 c2
    repeat' (first|go_values|go_skip|go_guarded|go_step|go_upon|(simp only [];go_at_K))
    go_ret
    have:=HS.out
    rw [t2,HD.out,Bool.false_and] at this
    exact ⟨by rw [this];rfl,U.drewN _⟩
  ·obtain rfl:i=l.length:=by omega
   have hil:¬ ((l.length:Int) < (l.length:Int)):=by omega
   have hFt:F=true:=by rw [←HD.out,List.drop_length,show r.drop l.length= [] from List.drop_eq_nil_of_le (by rw [HM.out];exact Nat.le_refl _)];rfl
   subst hFt
   repeat' (first|go_values|go_skip|go_guarded|go_step|go_upon|(simp only [];go_at_K))
   go_ret
   exact ⟨rfl,U⟩
end Go.Proofs.YtijhlbeipglieaaGreat
