/-
 agiolaw24.WorldNobody:for every event and every site the law returns true:a world that is nil has no sites,and a site that is none is down.
-/
import Derived.Test.YtijhlbeipglieaaGreatPkWrldK
import Derived.Test.YtijhlbeipglieaaGreatNobodyF
set_option linter.all false
set_option maxRecDepth 100000
set_option maxHeartbeats 1000000
namespace Go.Proofs.YtijhlbeipglieaaGreat
open Go.ChangeShapes Go.WideShapes Go.RowKit Agio
theorem worldNobody_lifted (os:Os) (started:os.Started) (H:Type) (enc:TypeId × Value→H) :
  ReturnsInHanded {} Tryz.checked os 13 .any (Rows.worldNobodySpec.pre6 enc Tryz.prog Tryz.f13 Rows.worldNobodyRow.domain false)
   (Rows.worldNobodySpec.post enc Tryz.prog Tryz.f13 false true false false):=by
 refine returnsInHanded_of_change_shaped (C:=Tryz.checked) own started (by kernel_rfl) Tryz.func13
  (ChangeSpec.witness6 (enc:=enc) (C:=Tryz.checked) false ⟨#[],#[.agg #[.int .i64 0,.int .i64 0,.int .i64 0,.int .i64 0,.slice none 0 0],.int .i64 0],[]⟩ 8 (by kernel_rfl) (by kernel_rfl) (by kernel_rfl) (by kernel_rfl)) ?_
 intro W base args ds gs before hval0 hW _ hsz0 _ _
 have hsz:(DataW.weightsEach Tryz.prog (Tryz.f13.params.toList ++ Rows.worldNobodySpec.plain.varTypes Tryz.prog) (ds ++ gs)).all (·≤reachBytes)=true:=hsz0
 have hval:∀(j:Nat) t v,Tryz.f13.params[j]? =some t→args[j]? =some v→Value.okWide Tryz.prog W .any base t v:=hval0
 have hW':=hW
 obtain ⟨p,q,hA0,hV0,rfl,hfz,hnd⟩:=hW
 have hA:DataW.TrodAll enc Tryz.prog W 0 (fun _=>true) true Tryz.f13.params.toList args.toList ds p:=hA0
 rw [Tryz.params13] at hA hval hsz
 obtain ⟨v0,vs0,d0,ds0,p0,q0,hargs,rfl,rfl,h0,r0⟩:=trodAll_cons hA
 obtain ⟨v1,vs1,d1,ds1,p1,q1,rfl,rfl,rfl,h1,r1⟩:=trodAll_cons r0
 obtain ⟨rfl,rfl,rfl⟩:=trodAll_nil r1
 obtain rfl:args=#[v0,v1]:=by cases args;simp_all
 obtain ⟨rfl,rfl⟩:=trodVars_none hV0
 have k0:=h0
 have lt0:∀x∈p0,x.block < W.heap.size:=by obtain ⟨m,hm⟩:=k0;exact DataW.trod_lt m _ _ _ hm
 obtain ⟨x0,hx0,hr0⟩:∃x:Ev,v0=x.val∧Ev.Rds W x:=by
  obtain ⟨cs,hcs,-⟩:=okWide_struct Tryz.underlying85 (hval 0 85 v0 rfl rfl)
  subst hcs
  exact ev_in h0 (fun k hk=>by simpa using List.all_eq_true.1 hsz k (DataW.weights_mem_each (j:=0) (t:=85) rfl rfl k hk))
 subst hx0
 have k1:=h1
 have lt1:∀x∈p1,x.block < W.heap.size:=by obtain ⟨m,hm⟩:=k1;exact DataW.trod_lt m _ _ _ hm
 obtain ⟨n1,hv1,-,-,hw1⟩:=open_int Tryz.underlying3 (hval 1 3 v1 rfl rfl) h1
 subst hv1
 have hb1:=bounds_i64 hw1
 refine (worldNobody_any W x0 hr0 n1 hw1).mono fun e W' ⟨he,hu⟩=>?_
 have bel:=hu.below (B:=W.heap.size) (Nat.le_refl _) (by simp)
 subst he
 exact ⟨_,rfl,_,_,_,[],_,[],hW',trodAll_mk1 (shut_bool Tryz.underlying4 _),(trodAll_cons_mk (Below.trod laidOut (by kernel_rfl) (of_decide_eq_true (by kernel_rfl)) k0 bel lt0) (trodAll_cons_mk (Below.trod laidOut (by kernel_rfl) (of_decide_eq_true (by kernel_rfl)) k1 bel lt1) trodAll_mk0)),rfl,bel.frame _,fun h=>by cases h⟩
theorem worldNobody_row:Rows.WorldNobodySaid:=
 OpenClaim.holds_of_wide 13 Tryz.f13 rfl rfl rfl rfl rfl rfl rfl ⟨rfl,rfl,rfl,rfl,rfl⟩ rfl rfl rfl rfl rfl (by kernel_rfl) Tryz.func13 worldNobody_facts
  (of_decide_eq_true (by kernel_rfl)) (by unfold Func.isWrapper;rw [if_neg (of_decide_eq_false (by kernel_rfl))];exact ⟨rfl,rfl⟩)
  (fun os started H enc _=>worldNobody_lifted os started H enc)
theorem worldNobody_holds:Rows.WorldNobodySaid:=worldNobody_row
#print axioms worldNobody_holds
end Go.Proofs.YtijhlbeipglieaaGreat
