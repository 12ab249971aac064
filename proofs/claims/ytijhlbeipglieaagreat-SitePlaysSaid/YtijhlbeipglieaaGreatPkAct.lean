/- For SitePlays. -/
import Derived.Test.YtijhlbeipglieaaGreatPkDeed
import Derived.Test.YtijhlbeipglieaaGreatPkUp
set_option linter.all false
set_option maxRecDepth 100000
set_option maxHeartbeats 2000000
namespace Go.Proofs.YtijhlbeipglieaaGreat
open Go.RowKit aA Go.Maps Go.Proofs.Tryz List
section
variable [eU]
end
theorem abX(a b:Bl):bg a b=if decide (a.r<b.r)||(decide (a.r=b.r)&&decide (a.s<b.s))then -1 else if(a.r==b.r)&&(a.s==b.s)then 0 else 1:=by
 unfold bg Ps vJ
 by_cases h1:a.r<b.r
 ·simp[h1]
 ·by_cases h2:b.r<a.r
  ·have h3:¬ a.r=b.r:=by omega
   simp[h1,h2,h3]
  ·have h3:a.r=b.r:=by omega
   by_cases h4:a.s<b.s
   ·simp[h3,h4]
   ·by_cases h5:b.s<a.s
    ·have h6:¬ a.s=b.s:=by omega
     simp[h3,h4,h5,h6]
    ·have h6:a.s=b.s:=by omega
     simp[h3,h6]
theorem mD(w:World)(a b:Bl):Calls prog 27 #[a.val,b.val] w fun e w'=>e=.returned (.int .i64 (bg a b))∧aa [] [] w w':=by
 obtain⟨W,H,G,eW,hH,hG,hB1,hB2,U0⟩:=vY w 30 30 #[.int .i64 a.r,.int .i64 a.s] #[.int .i64 b.r,.int .i64 b.s]
 have U:aa [] [] w W:=U0.gives
 have HC:=hdn (abX a b)
 obtain⟨R,hR⟩:=ex1 (bg a b)
 rw[hR]at HC ⊢
 obtain⟨⟨q0,q1⟩,-⟩:=hB1.c2
 obtain⟨⟨r0,r1⟩,-⟩:=hB2.c2
 have E1:=mR a.r a.s b.r b.s
 rw[Bl.val,Bl.val]
 clear hR hB1 hB2 U0
 go_enter func27,ntmps27
 by_cases h1:a.r<b.r
 ·have d1:decide (a.r<b.r)=true:=dTx h1
  rw[d1]at HC
  refine wk ?_
  go_ret
  exact⟨by rw[HC.out];rfl,U⟩
 ·have d1:decide (a.r<b.r)=false:=dFx h1
  rw[d1]at HC
  by_cases h2:a.r=b.r
  ·have d2:(a.r==b.r)=true:=by simpa using h2
   have Wo:decide (a.r=b.r)=true:=dTx h2
   rw[Wo]at HC
   have HH:=hdn h2
   clear h2
   by_cases h3:a.s<b.s
   ·have d3:decide (a.s<b.s)=true:=dTx h3
    rw[d3]at HC
    refine wk ?_
    go_ret
    exact⟨by rw[HC.out];rfl,U⟩
   ·have d3:decide (a.s<b.s)=false:=dFx h3
    rw[d3]at HC
    cases d4:(a.s==b.s) with
    |true=>
     refine wk ?_
     go_ret
     exact⟨by rw[HC.out,d2,d4];rfl,U⟩
    |false=>
     refine wk ?_
     go_ret
     exact⟨by rw[HC.out,d2,d4];rfl,U⟩
  ·have d2:(a.r==b.r)=false:=by simpa using h2
   have Wo:decide (a.r=b.r)=false:=dFx h2
   rw[Wo]at HC
   have HH:=hdn h2
   clear h2
   refine wk ?_
   go_ret
   exact⟨by rw[HC.out,d2];rfl,U⟩
