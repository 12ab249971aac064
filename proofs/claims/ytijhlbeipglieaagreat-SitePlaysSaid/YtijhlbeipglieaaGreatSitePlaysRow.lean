/- The statement SitePlays of layer 23 holds. -/
import Derived.Test.YtijhlbeipglieaaGreatLawPlay
import Derived.Test.YtijhlbeipglieaaGreatPlaysSF
set_option linter.all false
set_option maxRecDepth 100000
set_option maxHeartbeats 1000000
namespace Go.Proofs.YtijhlbeipglieaaGreat
open Go.ChangeShapes Go.WideShapes Go.RowKit aA Go.Proofs.Tryz List
theorem BQ(os:Os)(started:os.Started)(H:Type)(enc:TypeId × Value→H) :
  ReturnsInHanded {} Tryz.checked os 5 .any (Rows.sitePlaysSpec.pre6 enc prog Tryz.f5 Rows.sitePlaysRow.domain false)
   (Rows.sitePlaysSpec.post enc prog Tryz.f5 false true false false):=by
 refine returnsInHanded_of_change_shaped (C:=Tryz.checked) own started (by kernel_rfl) func5
  (ChangeSpec.witness6 (enc:=enc) (C:=Tryz.checked) false ⟨#[],#[.agg #[.int .i64 0,.int .i64 0,.int .i64 0],.slice none 0 0],[]⟩ 8 (by kernel_rfl) (by kernel_rfl) (by kernel_rfl) (by kernel_rfl)) ?_
 intro W base args ds gs before amE hW _ apW _ _
 have hsz:(DataW.weightsEach prog (Tryz.f5.params.toList++Rows.sitePlaysSpec.plain.varTypes prog) (ds++gs)).all (·≤reachBytes)=true:=apW
 have aj4:∀(j:Nat) t v,Tryz.f5.params[j]? =some t→args[j]? =some v→Value.okWide prog W .any base t v:=amE
 have hW':=hW
 obtain⟨p,q,hA0,hV0,rfl,hfz,hnd⟩:=hW
 have hA:DataW.TrodAll enc prog W 0 (fun _=>true) true Tryz.f5.params.toList args.toList ds p:=hA0
 rw[Tryz.params5]at hA aj4 hsz
 obtain⟨v0,vs0,d0,ds0,p0,q0,atI,rfl,rfl,h0,r0⟩:=trodAll_cons hA
 obtain⟨v1,vs1,d1,ds1,p1,q1,rfl,rfl,rfl,h1,r1⟩:=trodAll_cons r0
 obtain⟨rfl,rfl,rfl⟩:=trodAll_nil r1
 obtain rfl:args=#[v0,v1]:=by cases args;simp_all
 obtain⟨rfl,rfl⟩:=trodVars_none hV0
 have k0:=h0
 have lt0:∀x∈p0,x.block<W.heap.size:=by obtain⟨m,hm⟩:=k0;exact DataW.trod_lt m _ _ _ hm
 obtain⟨a0,b0,c0,hx0⟩:∃a b c:Int,v0=.agg #[.int .i64 a,.int .i64 b,.int .i64 c]:=by
  obtain⟨l,hl,hn,hw⟩:=Zh (n:=3) ⟨underlying51,by kernel_rfl,by kernel_rfl,by kernel_rfl⟩ underlying3 (aj4 0 51 v0 rfl rfl) h0
  match l,hn with
  |[x,y,z],_=>exact⟨x,y,z,hl⟩
 subst hx0
 have k1:=h1
 have lt1:∀x∈p1,x.block<W.heap.size:=by obtain⟨m,hm⟩:=k1;exact DataW.trod_lt m _ _ _ hm
 obtain⟨a1,Es,afA,rfl⟩:=okWide_slice underlying22 (aj4 1 22 v1 rfl rfl)
 obtain⟨l1,hl1,he1⟩:=XR h1 (fun k hk=>by simpa using all_eq_true.1 hsz k (DataW.weights_mem_each (j:=1) (t:=22) rfl rfl k hk))
 refine(Gr W a0 b0 c0 a1 Es afA l1 hl1 he1).mono fun e W' ⟨he,hu⟩=>?_
 have bel:=hu.below (B:=W.heap.size) (Nat.le_refl _) (by simp)
 subst he
 exact⟨_,rfl,_,_,_,[],_,[],hW',trodAll_mk1 (shut_bool underlying4 _),(trodAll_cons_mk (Below.trod laidOut (by kernel_rfl) (of_decide_eq_true (by kernel_rfl)) k0 bel lt0) (trodAll_cons_mk (Below.trod laidOut (by kernel_rfl) (of_decide_eq_true (by kernel_rfl)) k1 bel lt1) trodAll_mk0)),rfl,bel.frame _,fun h=>by cases h⟩
theorem GG:Rows.SitePlaysSaid:=
 OpenClaim.holds_of_wide 5 Tryz.f5 rfl rfl rfl rfl rfl rfl rfl ⟨rfl,rfl,rfl,rfl,rfl⟩ rfl rfl rfl rfl rfl (by kernel_rfl) func5 Ea
  (of_decide_eq_true (by kernel_rfl)) (by unfold Func.isWrapper;rw[if_neg (of_decide_eq_false (by kernel_rfl))];exact⟨rfl,rfl⟩)
  (fun os started H enc _=>BQ os started H enc)
theorem sitePlays_holds:Rows.SitePlaysSaid:=GG
#print axioms sitePlays_holds
end Go.Proofs.YtijhlbeipglieaaGreat
