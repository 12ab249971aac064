/- For WorldCalm. -/
import Derived.Test.YtijhlbeipglieaaGreatPkFrame
set_option linter.all false
set_option maxRecDepth 100000
set_option maxHeartbeats 2000000
namespace Go.Proofs.YtijhlbeipglieaaGreat
open Go.RowKit aL Tryz List
def Rs(b:List UInt8)(w':World)(e:Ending):Prop:=
 (∃bad:Nat,fst b=(0,bad)∧bad≠0∧e=.returned (.tuple #[.slice none 0 0,.slice none 0 0,.int .i64 (bad:Int)]))∨
 ∃(m:Nat)(A1:Option Addr)(n1 c1:Nat)(A2:Option Addr)(n2 c2:Nat),fst b=(m,0)∧bW 5 w' A1 n1 c1 ((b.drop 8).take m)∧bW 5 w' A2 n2 c2 (b.drop (8+m))∧
  e=.returned (.tuple #[.slice A1 n1 c1,.slice A2 n2 c2,.int .i64 0])
theorem LG(w:World)(A:Option Addr)(n c:Nat)(b:List UInt8)(hr:bE w A n b)(hc:n≤c)(hcm:c≤maxLen)(hb:b.length≤140737488355328) :
  Calls prog 233 #[.slice A n c] w fun e w'=>Rs b w' e∧ab [] [] w w':=by
 obtain rfl:=hr.len
 have C:=yL w A _ c b hr hc hcm hb
 obtain⟨m,bad,hf⟩:∃m bad,fst b=(m,bad):=⟨_,_,rfl⟩
 rw[hf]at C
 by_cases h0:bad=0
 ·subst h0
  obtain⟨h1,h2,-⟩:=sg hf
  have HF:=aA hf;clear hf
  have aZ:(c:Int)≤9223372036854775807:=by unfold maxLen at hcm;omega
  have hp:=hr.part hc 8 m (by omega)
  have hq:=hr.rest hc (8+m) (by omega)
  obtain⟨A8,LH⟩:=bk ((if c=8 then A else A.map (fun x=>⟨x.block,x.off+8,none⟩)))
  have e8:(fun x:Addr=>x.add 8)=(fun x=>⟨x.block,x.off+8,none⟩):=by funext x;simp[Addr.add]
  rw[e8,LH]at hp
  obtain⟨m8,Uv⟩:=bk (8+m)
  have Rt:(8:Int)+(m:Int)=(m8:Int):=by omega
  rw[Uv]at hq
  obtain⟨Ar,hAr⟩:=bk ((if c=m8 then A else A.map (fun x=>x.add m8)))
  rw[hAr]at hq
  have dC:IntKind.i64.wrap (8+(m:Int))=(m8:Int):=by rw[IntKind.wrap_i64];omega
  have hw2:(8:Int)≤(m8:Int):=by omega
  have hw3:(m8:Int)≤(c:Int):=by omega
  have hw4:(m8:Int)≤(b.length:Int):=by omega
  rw[show m=m8-8 by omega]at hp
  have hpl:((b.drop 8).take (m8-8))=(b.drop 8).take m:=by congr 1;omega
  rw[hpl]at hp
  clear hpl
  have yN:(8:Int)≤(c:Int):=by omega
  have Uw:(b.length:Int)≤(c:Int):=by omega
  have hlp:((b.drop 8).take m).length≤140737488355328:=by simp;omega
  have hlq:(b.drop m8).length≤140737488355328:=by simp;omega
  have HFT:Hid (∀w' A1 n1 c1 A2 n2 c2,bW 5 w' A1 n1 c1 ((b.drop 8).take m)→bW 5 w' A2 n2 c2 (b.drop m8)→Rs b w' (.returned (.tuple #[.slice A1 n1 c1,.slice A2 n2 c2,.int .i64 0]))):=fun w' A1 n1 c1 A2 n2 c2 h1 h2=>.inr ⟨m,A1,n1,c1,A2,n2,c2,HF.out,h1,by rw[Uv];exact h2,rfl⟩
  generalize (b.drop 8).take m=bp at *
  generalize b.drop m8=bq at *
  clear Uv e8 HF h2 Rt
  go_enter func233,ntmps233
  repeat' go_step
  refine C.mono ?_;rintro e w1 ⟨rfl,bn⟩
  have ee:=hp.aq bn (by simp)
  have Ux:=hq.aq bn (by simp)
  have hpd:bE w1.drew A8 (m8-8) bp:=Rd.drew ee
  have hqd:bE w1.drew Ar (b.length-m8) bq:=Rd.drew Ux
  clear C hp hq ee Ux
  repeat' first|go_step|simp only[];go_at_K
  go_region_with (first
   |(go_at_call 58;(with_reducible refine(di _ A8 (m8 - 8) _ bp (by assumption) hlp).mono ?_);rintro e w5 ⟨A5,k5,c5,rfl,fI,cF⟩;try have uY:=bE.aq hqd cF (by simp))
   |(go_at_call 58;(with_reducible refine(di _ Ar _ _ bq (by assumption) hlq).mono ?_);rintro e w6 ⟨A6,k6,c6,rfl,oe,dN⟩;try have gS:=bE.aq hpd dN (by simp)))
  all_goals (refine wk ?_)
  go_ret3
  exact⟨HFT.out _ _ _ _ _ _ _ (fI.aq dN (by simp)) oe,(((bn.drew.trans cF).gives (b':=[]) (by simp)).trans dN).gives (by simp)⟩
 ·obtain⟨rfl,gY⟩:m=0∧_:=by have:=Ts (b:=b) (by rw[hf];exact h0);rw[hf]at this;exact this
  have HF:=aA hf;clear hf gY
  have hz:((bad:Int) != 0)=true:=by simp;omega
  go_enter func233,ntmps233
  repeat' go_step
  refine C.mono ?_;rintro e w1 ⟨rfl,bn⟩
  refine wk ?_
  go_ret3
  exact⟨.inl ⟨bad,HF.out,h0,rfl⟩,bn⟩
