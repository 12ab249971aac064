/- agiolaw24.WorldCalm: for every number and all events the law returns true: behind whatever script, with all sites restarted, some rounds let all sites have decided all slots that any of them knows of, and all have done the same. -/
import Derived.Test.YtijhlbeipglieaaGreatPkWrldU
import Derived.Test.YtijhlbeipglieaaGreatCalmF
set_option linter.all false
set_option maxRecDepth 100000
set_option maxHeartbeats 1000000
namespace Go.Proofs.YtijhlbeipglieaaGreat
open Go.ChangeShapes Go.WideShapes Go.RowKit aL Go.Proofs.Tryz List
theorem yJ(os:Os)(started:os.Started)(H:Type)(enc:TypeId × Value→H) :
  ReturnsInHanded {} Tryz.checked os 9 .any (Rows.worldCalmSpec.pre6 enc prog Tryz.f9 Rows.worldCalmRow.domain false)
   (Rows.worldCalmSpec.post enc prog Tryz.f9 false true false false):=by
 refine returnsInHanded_of_change_shaped (C:=Tryz.checked) own started (by kernel_rfl) func9
  (ChangeSpec.witness6 (enc:=enc) (C:=Tryz.checked) false ⟨#[],#[.int .u8 0,.slice none 0 0],[]⟩ 8 (by kernel_rfl) (by kernel_rfl) (by kernel_rfl) (by kernel_rfl)) ?_
 intro W base args ds gs before aag hW _ aeq _ _
 have hsz:(DataW.weightsEach prog (Tryz.f9.params.toList++Rows.worldCalmSpec.plain.varTypes prog) (ds++gs)).all (·≤reachBytes)=true:=aeq
 have hval:∀(j:Nat) t v,Tryz.f9.params[j]? =some t→args[j]? =some v→Value.okWide prog W .any base t v:=aag
 have hW':=hW
 obtain⟨p,q,hA0,hV0,rfl,hfz,om⟩:=hW
 have hA:DataW.TrodAll enc prog W 0 (fun _=>true) true Tryz.f9.params.toList args.toList ds p:=hA0
 rw[Tryz.params9]at hA hval hsz
 obtain⟨v0,vs0,d0,ds0,p0,q0,ahy,rfl,rfl,h0,r0⟩:=trodAll_cons hA
 obtain⟨v1,vs1,d1,ds1,p1,q1,rfl,rfl,rfl,h1,r1⟩:=trodAll_cons r0
 obtain⟨rfl,rfl,rfl⟩:=trodAll_nil r1
 obtain rfl:args=#[v0,v1]:=by cases args;simp_all
 obtain⟨rfl,rfl⟩:=trodVars_none hV0
 have k0:=h0
 have lt0:∀x∈p0,x.block<W.heap.size:=by obtain⟨m,hm⟩:=k0;exact DataW.trod_lt m _ _ _ hm
 obtain⟨n0,hv0,-,-,hw0⟩:=open_int underlying5 (hval 0 5 v0 rfl rfl) h0
 subst hv0
 have hb0:=bounds_u8 hw0
 obtain⟨m0,rfl⟩:∃m:UInt8,n0=(m.toNat:Int):=⟨UInt8.ofNat n0.toNat,by simp;omega⟩
 have k1:=h1
 have lt1:∀x∈p1,x.block<W.heap.size:=by obtain⟨m,hm⟩:=k1;exact DataW.trod_lt m _ _ _ hm
 obtain⟨a1,aer,aes,rfl⟩:=okWide_slice underlying76 (hval 1 76 v1 rfl rfl)
 obtain⟨l1,fR,he1⟩:=Y8 h1 (fun k hk=>by simpa using all_eq_true.1 hsz k (DataW.weights_mem_each (j:=1) (t:=76) rfl rfl k hk))
 refine(De W m0.toNat m0.toNat_lt a1 aer aes l1 fR he1).mono fun e W' ⟨he,hu⟩=>?_
 have Zw:=hu.below (B:=W.heap.size) (Nat.le_refl _) (by simp)
 subst he
 exact⟨_,rfl,_,_,_,[],_,[],hW',trodAll_mk1 (shut_bool underlying4 _),(trodAll_cons_mk (Below.trod laidOut (by kernel_rfl) (of_decide_eq_true (by kernel_rfl)) k0 Zw lt0) (trodAll_cons_mk (Below.trod laidOut (by kernel_rfl) (of_decide_eq_true (by kernel_rfl)) k1 Zw lt1) trodAll_mk0)),rfl,Zw.frame _,fun h=>by cases h⟩
theorem Uu:Rows.WorldCalmSaid:=
 OpenClaim.holds_of_wide 9 Tryz.f9 rfl rfl rfl rfl rfl rfl rfl ⟨rfl,rfl,rfl,rfl,rfl⟩ rfl rfl rfl rfl rfl (by kernel_rfl) func9 yK
  (of_decide_eq_true (by kernel_rfl)) (by unfold Func.isWrapper;rw[if_neg (of_decide_eq_false (by kernel_rfl))];exact⟨rfl,rfl⟩)
  (fun os started H enc _=>yJ os started H enc)
theorem worldCalm_holds:Rows.WorldCalmSaid:=Uu
#print axioms worldCalm_holds
end Go.Proofs.YtijhlbeipglieaaGreat
