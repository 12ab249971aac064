/-
 agiolaw23.SiteWaits:for both numbers and all deeds the law returns true:down a site tells nothing,and behind a crash that keeps nothing its acceptors know no less than behind the sync ahead.
-/
import Derived.Test.YtijhlbeipglieaaGreatWaits
import Derived.Test.YtijhlbeipglieaaGreatWaitsF
set_option linter.all false
set_option maxRecDepth 100000
set_option maxHeartbeats 1000000
namespace Go.Proofs.YtijhlbeipglieaaGreat
open Go.ChangeShapes Go.WideShapes Go.RowKit Agio
theorem siteWaits_lifted (os:Os) (started:os.Started) (H:Type) (enc:TypeId × Value→H) :
  ReturnsInHanded {} Tryz.checked os 4 .any (Rows.siteWaitsSpec.pre6 enc Tryz.prog Tryz.f4 Rows.siteWaitsRow.domain false)
   (Rows.siteWaitsSpec.post enc Tryz.prog Tryz.f4 false true false false):=by
 refine returnsInHanded_of_change_shaped (C:=Tryz.checked) own started (by kernel_rfl) Tryz.func4
  (ChangeSpec.witness6 (enc:=enc) (C:=Tryz.checked) false ⟨#[],#[.int .u8 0,.int .u8 0,.slice none 0 0],[]⟩ 8 (by kernel_rfl) (by kernel_rfl) (by kernel_rfl) (by kernel_rfl)) ?_
 intro W base args ds gs before hval0 hW _ hsz0 _ _
 have hsz:(DataW.weightsEach Tryz.prog (Tryz.f4.params.toList ++ Rows.siteWaitsSpec.plain.varTypes Tryz.prog) (ds ++ gs)).all (·≤reachBytes)=true:=hsz0
 have hval:∀(j:Nat) t v,Tryz.f4.params[j]? =some t→args[j]? =some v→Value.okWide Tryz.prog W .any base t v:=hval0
 have hW':=hW
 obtain ⟨p,q,hA0,hV0,rfl,hfz,hnd⟩:=hW
 have hA:DataW.TrodAll enc Tryz.prog W 0 (fun _=>true) true Tryz.f4.params.toList args.toList ds p:=hA0
 rw [Tryz.params4] at hA hval hsz
 obtain ⟨v0,vs0,d0,ds0,p0,q0,hargs,rfl,rfl,h0,r0⟩:=trodAll_cons hA
 obtain ⟨v1,vs1,d1,ds1,p1,q1,rfl,rfl,rfl,h1,r1⟩:=trodAll_cons r0
 obtain ⟨v2,vs2,d2,ds2,p2,q2,rfl,rfl,rfl,h2,r2⟩:=trodAll_cons r1
 obtain ⟨rfl,rfl,rfl⟩:=trodAll_nil r2
 obtain rfl:args=#[v0,v1,v2]:=by cases args;simp_all
 obtain ⟨rfl,rfl⟩:=trodVars_none hV0
 have k0:=h0
 have lt0:∀x∈p0,x.block < W.heap.size:=by obtain ⟨m,hm⟩:=k0;exact DataW.trod_lt m _ _ _ hm
 obtain ⟨n0,hv0,-,-,hw0⟩:=open_int Tryz.underlying5 (hval 0 5 v0 rfl rfl) h0
 subst hv0
 have hb0:=bounds_u8 hw0
 obtain ⟨m0,rfl⟩:∃m:UInt8,n0=(m.toNat:Int):=⟨UInt8.ofNat n0.toNat,by simp;omega⟩
 have k1:=h1
 have lt1:∀x∈p1,x.block < W.heap.size:=by obtain ⟨m,hm⟩:=k1;exact DataW.trod_lt m _ _ _ hm
 obtain ⟨n1,hv1,-,-,hw1⟩:=open_int Tryz.underlying5 (hval 1 5 v1 rfl rfl) h1
 subst hv1
 have hb1:=bounds_u8 hw1
 obtain ⟨m1,rfl⟩:∃m:UInt8,n1=(m.toNat:Int):=⟨UInt8.ofNat n1.toNat,by simp;omega⟩
 have k2:=h2
 have lt2:∀x∈p2,x.block < W.heap.size:=by obtain ⟨m,hm⟩:=k2;exact DataW.trod_lt m _ _ _ hm
 obtain ⟨a2,len2,cap2,rfl⟩:=okWide_slice Tryz.underlying22 (hval 2 22 v2 rfl rfl)
 obtain ⟨l2,hl2,he2⟩:=dts_in h2 (fun k hk=>by simpa using List.all_eq_true.1 hsz k (DataW.weights_mem_each (j:=2) (t:=22) rfl rfl k hk))
 refine (siteWaits_any W m0.toNat m1.toNat m0.toNat_lt m1.toNat_lt a2 len2 cap2 l2 hl2 he2).mono fun e W' ⟨he,hu⟩=>?_
 have bel:=hu.below (B:=W.heap.size) (Nat.le_refl _) (by simp)
 subst he
 exact ⟨_,rfl,_,_,_,[],_,[],hW',trodAll_mk1 (shut_bool Tryz.underlying4 _),(trodAll_cons_mk (Below.trod laidOut (by kernel_rfl) (of_decide_eq_true (by kernel_rfl)) k0 bel lt0) (trodAll_cons_mk (Below.trod laidOut (by kernel_rfl) (of_decide_eq_true (by kernel_rfl)) k1 bel lt1) (trodAll_cons_mk (Below.trod laidOut (by kernel_rfl) (of_decide_eq_true (by kernel_rfl)) k2 bel lt2) trodAll_mk0))),rfl,bel.frame _,fun h=>by cases h⟩
theorem siteWaits_row:Rows.SiteWaitsSaid:=
 OpenClaim.holds_of_wide 4 Tryz.f4 rfl rfl rfl rfl rfl rfl rfl ⟨rfl,rfl,rfl,rfl,rfl⟩ rfl rfl rfl rfl rfl (by kernel_rfl) Tryz.func4 siteWaits_facts
  (of_decide_eq_true (by kernel_rfl)) (by unfold Func.isWrapper;rw [if_neg (of_decide_eq_false (by kernel_rfl))];exact ⟨rfl,rfl⟩)
  (fun os started H enc _=>siteWaits_lifted os started H enc)
theorem siteWaits_holds:Rows.SiteWaitsSaid:=siteWaits_row
#print axioms siteWaits_holds
end Go.Proofs.YtijhlbeipglieaaGreat
