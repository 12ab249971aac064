/- For SitePlays. -/
import Derived.Test.YtijhlbeipglieaaGreatPkSiteP
set_option linter.all false
set_option maxRecDepth 100000
set_option maxHeartbeats 4000000
namespace Go.Proofs.YtijhlbeipglieaaGreat
open Go.RowKit aA Tryz List
theorem sK(w:World)(s n:Int):Calls prog 46 #[.int .i64 s,.int .i64 n] w fun e w'=>e=.returned (.int .i64 (aV s n))∧w=w':=by
 have HA:=hdn (aV.eq_def s n)
 go_enter func46,ntmps46
 by_cases h1:s<0
 ·have d1:decide (s<0)=true:=dTx h1
  refine wk ?_
  go_ret
  exact⟨by rw[HA.out,if_pos (by omega)];rfl,rfl⟩
 have d1:decide (s<0)=false:=dFx h1
 by_cases h2:4095<s
 ·have d2:decide (4095<s)=true:=dTx h2
  refine wk ?_
  go_ret
  exact⟨by rw[HA.out,if_pos (by omega)];rfl,rfl⟩
 have d2:decide (4095<s)=false:=dFx h2
 by_cases h3:n<1
 ·have d3:decide (n<1)=true:=dTx h3
  refine wk ?_
  go_ret
  exact⟨by rw[HA.out,if_pos (by omega)];rfl,rfl⟩
 have d3:decide (n<1)=false:=dFx h3
 by_cases h4:64<n
 ·have d4:decide (64<n)=true:=dTx h4
  refine wk ?_
  go_ret
  exact⟨by rw[HA.out,if_pos (by omega)];rfl,rfl⟩
 have d4:decide (64<n)=false:=dFx h4
 have hn0:(n==0)=false:=beq_false_of_ne (by omega)
 have hnn:¬ n=0:=by omega
 have hx:s.tmod n=s % n:=Int.tmod_eq_emod_of_nonneg (by omega)
 rw[hx]at HA
 refine wk ?_
 go_ret
 exact⟨by rw[HA.out,if_neg (by omega)];rfl,rfl⟩
open Go.Maps
theorem oU(w:World)(s n:Int):Calls prog 132 #[.int .i64 s,.int .i64 n] w fun e w'=>e=.returned (.bool (bz s n))∧w=w':=by
 unfold bz
 go_enter func132,ntmps132
 by_cases h:0≤s
 ·have d1:decide (0≤s)=true:=dTx h
  rw[d1]
  refine wk ?_
  go_ret
  exact⟨rfl,rfl⟩
 ·have d1:decide (0≤s)=false:=dFx h
  rw[d1]
  refine wk ?_
  go_ret
  exact⟨rfl,rfl⟩
theorem OL(w:World)(n:Nat)(hn:n≤1000):Calls prog 298 #[.int .i64 (n:Int)] w fun e w'=>e=.returned (.int .i64 (sU n))∧w=w':=by
 have HM:=hdn (sU.eq_def n)
 by_cases h:(n:Int)<1
 ·have d1:decide ((n:Int)<1)=true:=dTx h
  go_enter func298,ntmps298
  refine wk ?_
  go_ret
  exact⟨by rw[HM.out,if_pos h];rfl,rfl⟩
 ·have d1:decide ((n:Int)<1)=false:=dFx h
  have e1:(n:Int).tdiv 2=(n:Int) / 2:=Int.tdiv_eq_ediv_of_nonneg (by omega)
  have w1:=aA.wr ((n:Int) / 2)
  have w2:=aA.wr ((n:Int) / 2+1)
  go_enter func298,ntmps298
  refine wk ?_
  go_ret
  exact⟨by rw[HM.out,if_neg h];rfl,rfl⟩
theorem Vw{l:List Int}{k:Nat}(h:k<l.length)(x:Int):decide (x∈l.take (k+1))=(decide (x∈l.take k)||decide (l[k]=x)):=by
 rw[take_succ_eq_append_getElem h]
 simp only[mem_append,mem_singleton]
 by_cases h1:x∈l.take k<;>by_cases h2:l[k]=x<;>simp[h1,h2,eq_comm]
 ·exact fun h3=>h2 h3.symm
theorem OM(w:World)(A:Option Addr)(c:Nat)(l:List Int)(n:Int)(ha:Rd w 1 A l.length (l.map (Value.int .i64)))(hl:l.length≤1000000000) :
  Calls prog 297 #[.slice A l.length c,.int .i64 n] w fun e w'=>e=.returned (.int .i64 ((eX l n).length:Int))∧aa [] [] w w':=by
 have hcn:∀i,lJ l n i≤i:=by
  intro i
  induction i with
  |zero=>simp[lJ]
  |succ i ih=>unfold lJ;split<;>omega
 have HV:=hdn (ym l n l.length (Nat.le_refl _))
 have HC:=hdn hcn
 clear hcn
 go_enter func297,ntmps297
 repeat' go_step
 go_loopw [5,6] (fun v5 v6 wr=>∃i:Nat,i≤l.length∧v6=.int .i64 (i:Int)∧v5=.int .i64 (lJ l n i:Int)∧aa [] [] w wr) (fun _ v6 _=>l.length-(intOf v6).toNat)
 case atStart=>exact⟨0,by omega,rfl,rfl,aa.refl _ _⟩
 case round=>
  obtain⟨i,hi,rfl,rfl,U⟩:=hrel
  by_cases hlt:i<l.length
  ·have hil:(i:Int)<(l.length:Int):=by omega
   have hw1:=aA.wr ((i:Int)+1)
   have hcl:=HC.out i
   have hw2:=aA.wr ((lJ l n i:Int)+1)
   have hr:=ha.upd U
   obtain⟨ad,u,rfl,hu,hc⟩:=hr.at_ hlt
   have hxi:u=.int .i64 l[i]:=by
    rw[List.getElem?_map,List.getElem?_eq_getElem hlt]at hu
    injection hu with hu;exact hu.symm
   subst hxi
   have hS:=hdn (show lJ l n (i+1)=lJ l n i+(if bz l[i] n && !decide (l[i]∈l.take i)then 1 else 0) by
    rw[lJ,List.getD_eq_getElem?_getD,List.getElem?_eq_getElem hlt];rfl)
   obtain⟨x,hx⟩:=ex1 (l[i])
   rw[hx]at hc hS
   have C:=oU wr x n
   have HX:=hdn hx
   have HL:=hdn hlt
   clear hx hu hi
   repeat' go_step
   refine C.mono ?_;rintro e w1 ⟨rfl,rfl⟩
   clear C
   repeat' first|go_step|simp only[];go_at_K
   obtain⟨wo,rfl⟩:∃x,x=wr:=⟨_,rfl⟩
   go_loopw [7,8] (fun v7 v8 wr=>∃k:Nat,k≤i∧v8=.int .i64 (k:Int)∧v7=.bool (bz x n && !decide (x∈l.take k))∧aa [] [] wo wr) (fun _ v8 _=>i-(intOf v8).toNat)
   case atStart=>exact⟨0,by omega,rfl,by simp,aa.refl _ _⟩
   case round=>
    obtain⟨k,hk,rfl,rfl,U2⟩:=hrel
    by_cases hki:k<i
    ·have hkl:(k:Int)<(i:Int):=by omega
     have aix:(k:Int)<(l.length:Int):=by have:=HL.out;omega
     have hlk:k<l.length:=by have:=HL.out;omega
     have hw3:=aA.wr ((k:Int)+1)
     have hr2:=hr.upd U2
     obtain⟨ZN,u2,e2,hu2,hc2⟩:=hr2.at_ hlk
     injection e2 with e2
     subst e2
     have hxk:u2=.int .i64 l[k]:=by
      rw[List.getElem?_map,List.getElem?_eq_getElem hlk]at hu2
      injection hu2 with hu2;exact hu2.symm
     subst hxk
     have HT:=hdn (Vw hlk x)
     obtain⟨y,hy⟩:=ex1 (l[k])
     rw[hy]at hc2 HT
     have hcN:=fun N=>(U2.drewN N).cell hc (by simp)
     have aiy:=fun N=>((aa.refl [] wr).drewN N).cell hc2 (by simp)
     obtain⟨F,hF⟩:=ex1 ((bz x n && !decide (x∈l.take k)))
     have HF:=hdn hF
     rw[hF]
     clear hF hu2 hy hr2 hk hc2 hc
     cases F with
     |false=>
      repeat' go_step
      go_quiet (fail)
      refine wk ?_
      refine⟨⟨k+1,by omega,by simp,?_,U2.drewN _⟩,by simp[intOf];omega⟩
      rw[HT.out]
      have:=HF.out
      cases h1:bz x n<;>cases h2:decide (x∈l.take k)<;>simp_all
     |true=>
      cases hb:(y != x) with
      |true=>
       repeat' go_step
       go_quiet (fail)
       refine wk ?_
       refine⟨⟨k+1,by omega,by simp,?_,U2.drewN _⟩,by simp[intOf];omega⟩
       rw[HT.out]
       have:=HF.out
       have hne:¬ y=x:=by simpa using hb
       rw[dFx hne]
       simpa using this.symm
      |false=>
       repeat' go_step
       go_quiet (fail)
       refine wk ?_
       refine⟨⟨k+1,by omega,by simp,?_,U2.drewN _⟩,by simp[intOf];omega⟩
       rw[HT.out]
       have he:y=x:=by simpa using hb
       rw[dTx he]
       simp
    ·obtain rfl:k=i:=by omega
     have hkl:¬ ((k:Int)<(k:Int)):=by omega
     have UU:=U.trans U2
     obtain⟨F,hF⟩:=ex1 ((bz x n && !decide (x∈l.take k)))
     rw[hF]at hS
     rw[hF]
     clear hF hc U2 U hr
     cases F with
     |false=>
      refine wk ?_
      exact⟨⟨k+1,HL.out,by simp,by rw[hS.out];simp,UU⟩,by have:=HL.out;simp[intOf];omega⟩
     |true=>
      refine wk ?_
      exact⟨⟨k+1,HL.out,by simp,by rw[hS.out];simp,UU⟩,by have:=HL.out;simp[intOf];omega⟩
  ·obtain rfl:i=l.length:=by omega
   have hil:¬ ((l.length:Int)<(l.length:Int)):=by omega
   refine wk ?_
   go_ret
   refine⟨?_,U⟩
   rw[HV.out,take_length];rfl
theorem FL(w:World)(A:Option Addr)(c:Nat)(l:List Int)(n:Nat)(hn:1≤n∧n≤1000)(ha:Rd w 1 A l.length (l.map (Value.int .i64)))(hl:l.length≤1000000000) :
  Calls prog 282 #[.slice A l.length c,.int .i64 (n:Int)] w fun e w'=>e=.returned (.bool (fU l n))∧aa [] [] w w':=by
 have C1:=OM w A c l n ha hl
 have C2:=fun w=>OL w n hn.2
 have d1:decide (1≤(n:Int))=true:=dTo
 have HM:=hdn (show fU l n=decide (sU n≤((eX l n).length:Int)) by unfold fU;rw[if_neg (by omega)])
 clear hn
 go_enter func282,ntmps282
 repeat' first|go_guarded|go_step
 refine C1.mono ?_;rintro e w1 ⟨rfl,u1⟩
 repeat' first|go_guarded|go_step|simp only[];go_at_K
 refine(C2 w1).mono ?_;rintro e w2 ⟨rfl,rfl⟩
 refine wk ?_
 go_ret
 exact⟨by rw[HM.out];rfl,u1⟩
