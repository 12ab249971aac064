/-
 agiolaw24.WorldAgrees:for every number and all events the law returns true:whatever the script,two sites,in any lives,that have decided a slot have decided one value,which is nothing,or was submitted at the slot's owner.
-/
import Derived.Test.YtijhlbeipglieaaGreatPkSiteD
import Derived.Test.YtijhlbeipglieaaGreatAgreesF
set_option linter.all false
set_option maxRecDepth 100000
set_option maxHeartbeats 1000000
namespace Go.Proofs.YtijhlbeipglieaaGreat
open Go.ChangeShapes Go.WideShapes Go.RowKit Agio
theorem worldAgrees_lifted (os:Os) (started:os.Started) (H:Type) (enc:TypeId × Value→H) :
  ReturnsInHanded {} Tryz.checked os 11 .any (Rows.worldAgreesSpec.pre6 enc Tryz.prog Tryz.f11 Rows.worldAgreesRow.domain false)
   (Rows.worldAgreesSpec.post enc Tryz.prog Tryz.f11 false true false false):=by
 refine returnsInHanded_of_change_shaped (C:=Tryz.checked) own started (by kernel_rfl) Tryz.func11
  (ChangeSpec.witness6 (enc:=enc) (C:=Tryz.checked) false ⟨#[],#[.int .u8 0,.slice none 0 0],[]⟩ 8 (by kernel_rfl) (by kernel_rfl) (by kernel_rfl) (by kernel_rfl)) ?_
 intro W base args ds gs before hval0 hW _ hsz0 _ _
 have hsz:(DataW.weightsEach Tryz.prog (Tryz.f11.params.toList ++ Rows.worldAgreesSpec.plain.varTypes Tryz.prog) (ds ++ gs)).all (·≤reachBytes)=true:=hsz0
 have hval:∀(j:Nat) t v,Tryz.f11.params[j]? =some t→args[j]? =some v→Value.okWide Tryz.prog W .any base t v:=hval0
 have hW':=hW
 obtain ⟨p,q,hA0,hV0,rfl,hfz,hnd⟩:=hW
 have hA:DataW.TrodAll enc Tryz.prog W 0 (fun _=>true) true Tryz.f11.params.toList args.toList ds p:=hA0
 rw [Tryz.params11] at hA hval hsz
 obtain ⟨v0,vs0,d0,ds0,p0,q0,hargs,rfl,rfl,h0,r0⟩:=trodAll_cons hA
 obtain ⟨v1,vs1,d1,ds1,p1,q1,rfl,rfl,rfl,h1,r1⟩:=trodAll_cons r0
 obtain ⟨rfl,rfl,rfl⟩:=trodAll_nil r1
 obtain rfl:args=#[v0,v1]:=by cases args;simp_all
 obtain ⟨rfl,rfl⟩:=trodVars_none hV0
 have k0:=h0
 have lt0:∀x∈p0,x.block < W.heap.size:=by obtain ⟨m,hm⟩:=k0;exact DataW.trod_lt m _ _ _ hm
 obtain ⟨n0,hv0,-,-,hw0⟩:=open_int Tryz.underlying5 (hval 0 5 v0 rfl rfl) h0
 subst hv0
 have hb0:=bounds_u8 hw0
 obtain ⟨m0,rfl⟩:∃m:UInt8,n0=(m.toNat:Int):=⟨UInt8.ofNat n0.toNat,by simp;omega⟩
 have k1:=h1
 have lt1:∀x∈p1,x.block < W.heap.size:=by obtain ⟨m,hm⟩:=k1;exact DataW.trod_lt m _ _ _ hm
 obtain ⟨a1,len1,cap1,rfl⟩:=okWide_slice Tryz.underlying76 (hval 1 76 v1 rfl rfl)
 obtain ⟨l1,hl1,he1⟩:=evs_in h1 (fun k hk=>by simpa using List.all_eq_true.1 hsz k (DataW.weights_mem_each (j:=1) (t:=76) rfl rfl k hk))
 refine (worldAgrees_any W m0.toNat m0.toNat_lt a1 len1 cap1 l1 hl1 he1).mono fun e W' ⟨he,hu⟩=>?_
 have bel:=hu.below (B:=W.heap.size) (Nat.le_refl _) (by simp)
 subst he
 exact ⟨_,rfl,_,_,_,[],_,[],hW',trodAll_mk1 (shut_bool Tryz.underlying4 _),(trodAll_cons_mk (Below.trod laidOut (by kernel_rfl) (of_decide_eq_true (by kernel_rfl)) k0 bel lt0) (trodAll_cons_mk (Below.trod laidOut (by kernel_rfl) (of_decide_eq_true (by kernel_rfl)) k1 bel lt1) trodAll_mk0)),rfl,bel.frame _,fun h=>by cases h⟩
theorem worldAgrees_row:Rows.WorldAgreesSaid:=
 OpenClaim.holds_of_wide 11 Tryz.f11 rfl rfl rfl rfl rfl rfl rfl ⟨rfl,rfl,rfl,rfl,rfl⟩ rfl rfl rfl rfl rfl (by kernel_rfl) Tryz.func11 worldAgrees_facts
  (of_decide_eq_true (by kernel_rfl)) (by unfold Func.isWrapper;rw [if_neg (of_decide_eq_false (by kernel_rfl))];exact ⟨rfl,rfl⟩)
  (fun os started H enc _=>worldAgrees_lifted os started H enc)
theorem worldAgrees_holds:Rows.WorldAgreesSaid:=worldAgrees_row
#print axioms worldAgrees_holds
end Go.Proofs.YtijhlbeipglieaaGreat
