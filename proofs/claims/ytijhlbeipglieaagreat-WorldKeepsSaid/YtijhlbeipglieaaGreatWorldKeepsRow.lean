/-
 agiolaw24.WorldKeeps:for both numbers and all bytes the law returns true:in a calm world all that is submitted is done everywhere,in one order,behind some rounds,and whoever crashes then,and comes back,does the same again.
-/
import Derived.Test.YtijhlbeipglieaaGreatPkWrldU
import Derived.Test.YtijhlbeipglieaaGreatKeepsWF
set_option linter.all false
set_option maxRecDepth 100000
set_option maxHeartbeats 1000000
namespace Go.Proofs.YtijhlbeipglieaaGreat
open Go.ChangeShapes Go.WideShapes Go.RowKit Agio
theorem worldKeeps_lifted (os:Os) (started:os.Started) (H:Type) (enc:TypeId × Value→H) :
  ReturnsInHanded {} Tryz.checked os 10 .any (Rows.worldKeepsSpec.pre6 enc Tryz.prog Tryz.f10 Rows.worldKeepsRow.domain false)
   (Rows.worldKeepsSpec.post enc Tryz.prog Tryz.f10 false true false false):=by
 refine returnsInHanded_of_change_shaped (C:=Tryz.checked) own started (by kernel_rfl) Tryz.func10
  (ChangeSpec.witness6 (enc:=enc) (C:=Tryz.checked) false ⟨#[],#[.int .u8 0,.slice none 0 0,.int .u8 0],[]⟩ 8 (by kernel_rfl) (by kernel_rfl) (by kernel_rfl) (by kernel_rfl)) ?_
 intro W base args ds gs before hval0 hW _ hsz0 _ _
 have hsz:(DataW.weightsEach Tryz.prog (Tryz.f10.params.toList ++ Rows.worldKeepsSpec.plain.varTypes Tryz.prog) (ds ++ gs)).all (·≤reachBytes)=true:=hsz0
 have hval:∀(j:Nat) t v,Tryz.f10.params[j]? =some t→args[j]? =some v→Value.okWide Tryz.prog W .any base t v:=hval0
 have hW':=hW
 obtain ⟨p,q,hA0,hV0,rfl,hfz,hnd⟩:=hW
 have hA:DataW.TrodAll enc Tryz.prog W 0 (fun _=>true) true Tryz.f10.params.toList args.toList ds p:=hA0
 rw [Tryz.params10] at hA hval hsz
 obtain ⟨v0,vs0,d0,ds0,p0,q0,hargs,rfl,rfl,h0,r0⟩:=trodAll_cons hA
 obtain ⟨v1,vs1,d1,ds1,p1,q1,rfl,rfl,rfl,h1,r1⟩:=trodAll_cons r0
 obtain ⟨v2,vs2,d2,ds2,p2,q2,rfl,rfl,rfl,h2,r2⟩:=trodAll_cons r1
 obtain ⟨rfl,rfl,rfl⟩:=trodAll_nil r2
 obtain rfl:args=#[v0,v1,v2]:=by cases args;simp_all
 obtain ⟨rfl,rfl⟩:=trodVars_none hV0
 have k0:=h0
 have lt0:∀x∈p0,x.block < W.heap.size:=by obtain ⟨m,hm⟩:=k0;exact DataW.trod_lt m _ _ _ hm
 obtain ⟨n0,hv0,-,-,hw0⟩:=open_int Tryz.underlying5 (hval 0 5 v0 rfl rfl) h0
 subst hv0
 have hb0:=bounds_u8 hw0
 obtain ⟨m0,rfl⟩:∃m:UInt8,n0=(m.toNat:Int):=⟨UInt8.ofNat n0.toNat,by simp;omega⟩
 have k1:=h1
 have lt1:∀x∈p1,x.block < W.heap.size:=by obtain ⟨m,hm⟩:=k1;exact DataW.trod_lt m _ _ _ hm
 obtain ⟨a1,len1,cap1,rfl⟩:=okWide_slice Tryz.underlying28 (hval 1 28 v1 rfl rfl)
 obtain ⟨b1,hrd1,hlc1,hcm1,hnone1,hd1⟩:=bytes_in h1
 have hb1:b1.length≤140737488351232:=by
  rcases hd1 with ⟨_,rfl⟩ | ⟨sp,rfl⟩
  ·simp
  ·have:=sized_slice hsz (j:=1) (t:=28) (e:=5) rfl rfl Tryz.underlying28
   rw [show Tryz.prog.bytesOf 5=1 by kernel_rfl] at this
   simp only [List.length_map,reachBytes] at this
   omega
 have k2:=h2
 have lt2:∀x∈p2,x.block < W.heap.size:=by obtain ⟨m,hm⟩:=k2;exact DataW.trod_lt m _ _ _ hm
 obtain ⟨n2,hv2,-,-,hw2⟩:=open_int Tryz.underlying5 (hval 2 5 v2 rfl rfl) h2
 subst hv2
 have hb2:=bounds_u8 hw2
 obtain ⟨m2,rfl⟩:∃m:UInt8,n2=(m.toNat:Int):=⟨UInt8.ofNat n2.toNat,by simp;omega⟩
 refine (worldKeeps_any W m0.toNat m0.toNat_lt a1 len1 cap1 b1 hrd1 m2.toNat m2.toNat_lt).mono fun e W' ⟨he,hu⟩=>?_
 have bel:=hu.below (B:=W.heap.size) (Nat.le_refl _) (by simp)
 subst he
 exact ⟨_,rfl,_,_,_,[],_,[],hW',trodAll_mk1 (shut_bool Tryz.underlying4 _),(trodAll_cons_mk (Below.trod laidOut (by kernel_rfl) (of_decide_eq_true (by kernel_rfl)) k0 bel lt0) (trodAll_cons_mk (Below.trod laidOut (by kernel_rfl) (of_decide_eq_true (by kernel_rfl)) k1 bel lt1) (trodAll_cons_mk (Below.trod laidOut (by kernel_rfl) (of_decide_eq_true (by kernel_rfl)) k2 bel lt2) trodAll_mk0))),rfl,bel.frame _,fun h=>by cases h⟩
theorem worldKeeps_row:Rows.WorldKeepsSaid:=
 OpenClaim.holds_of_wide 10 Tryz.f10 rfl rfl rfl rfl rfl rfl rfl ⟨rfl,rfl,rfl,rfl,rfl⟩ rfl rfl rfl rfl rfl (by kernel_rfl) Tryz.func10 worldKeeps_facts
  (of_decide_eq_true (by kernel_rfl)) (by unfold Func.isWrapper;rw [if_neg (of_decide_eq_false (by kernel_rfl))];exact ⟨rfl,rfl⟩)
  (fun os started H enc _=>worldKeeps_lifted os started H enc)
theorem worldKeeps_holds:Rows.WorldKeepsSaid:=worldKeeps_row
#print axioms worldKeeps_holds
end Go.Proofs.YtijhlbeipglieaaGreat
