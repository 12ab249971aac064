/-
  agiolaw02.WireBack, the second form: for every slice of items that holds at most 1048576 values and letters the law returns true and leaves its argument as it was: what is laid down is read as it was, with nothing left. Conditions: the bound; the package-level variable errors.errorType is laid as the program's text lays it (the card ties it).
-/
import Derived.Test.YtchlceolccfdhaaDoorItemsIn
import Derived.Test.YtchlceolccfdhaaDoorBack
import Derived.Test.YtchlceolccfdhaaDoorAwake2
import Derived.Test.YtchlceolccfdhaaDoorCards
import Derived.Test.YtchlceolccfdhaaDoorTie
import Derived.SevenTiedAt
import Derived.Deep.DeepHandedRow
namespace Go.Proofs.YtchlceolccfdhaaDoor
open Go.ChangeShapes Go.WideShapes Go.RowKit Agio

theorem mem_le_sum {l : List Nat} {x : Nat} (h : x ∈ l) : x ≤ l.sum := by
  induction l with
  | nil => cases h
  | cons y r ih =>
    rw [List.sum_cons]
    cases List.mem_cons.1 h with
    | inl e => omega
    | inr e => have := ih e; omega
theorem backReads (os : Os) {H : Type} (enc : TypeId × Value → H) : ∃ places, DataW.whole enc Tryd.prog ((laidWorld os).forCall (fun _ _ => 0) ⟨#[], #[.slice none 0 0], []⟩).memory Tryd.f5.params.toList Rows.wireBackSpec.vars false #[Value.slice none 0 0].toList 8 = some ([.nil], [], places) :=
  ⟨[], by kernel_rfl⟩

set_option maxRecDepth 100000 in
theorem wireBack_lifted (os : Os) (started : os.Started) (H : Type) (enc : TypeId × Value → H) (F : Stop.Interp) :
    ReturnsInHanded {} Tryd.checked os 5 .any ((Rows.OpenSpec.upto Rows.wireBackSpec).preRow enc Tryd.prog Tryd.f5 Rows.wireBackUptoRow.domain false Rows.wireBackUptoRow.laid) (((Rows.OpenSpec.upto Rows.wireBackSpec).at F).post enc Tryd.prog Tryd.f5 false true false false) := by
  obtain ⟨places, hx⟩ := backReads os enc
  refine returnsInHanded_of_row (C := Tryd.checked) (s := Rows.OpenSpec.upto Rows.wireBackSpec) own started (by kernel_rfl) Tryd.func5
    (witness_row_at (enc := enc) (C := Tryd.checked) false (laidWorld os) #[.slice none 0 0] rfl (by kernel_rfl) (by kernel_rfl) (by kernel_rfl)
      (OpenSpec.preRow_of_cond 8 hx (by kernel_rfl) (fun k hk => by cases hk; kernel_rfl) (by kernel_rfl) (laidWorld_met os _))) ?_
  intro W base args ds gs before hval0 hW hc1 hc2 hc3 hL hc5 hc6
  have hk := hc2 _ rfl
  have hval : ∀ (j : Nat) t v, Tryd.f5.params[j]? = some t → args[j]? = some v → Value.okWide Tryd.prog W .any base t v := hval0
  have hW' := hW
  obtain ⟨p, q, hA0, hV0, rfl, hfz, hnd⟩ := hW
  have hA : DataW.TrodAll enc Tryd.prog W 0 (fun _ => true) true Tryd.f5.params.toList args.toList ds p := hA0
  rw [Tryd.params5] at hA hval
  obtain ⟨v0, vs0, d0, ds0, p0, q0, hargs, rfl, rfl, h0, r0⟩ := trodAll_cons hA
  obtain ⟨rfl, rfl, rfl⟩ := trodAll_nil r0
  obtain rfl : args = #[v0] := by cases args; simp_all
  obtain ⟨rfl, rfl⟩ := trodVars_none hV0
  obtain ⟨a0, len0, cap0, rfl⟩ := okWide_slice Tryd.underlying22 (hval 0 22 v0 rfl rfl)
  have k0 := h0
  have lt0 : ∀ x ∈ p0, x.block < W.heap.size := by obtain ⟨m, hm⟩ := k0; exact DataW.trod_lt m _ _ _ hm
  obtain ⟨l, hl, hlc, hcm, hb1, hb2⟩ := items_in h0
  have hbound : Rows.uptoBulk d0 ≤ 1048576 := by
    have h : Rows.uptoBulkAll [d0] ≤ 1048576 := of_decide_eq_true hk
    simp only [Rows.uptoBulkAll] at h
    omega
  have hll := hl.len
  have hbb : ∀ x ∈ l, x.b.length ≤ (l.map fun x => x.b.length).sum := fun x hx => mem_le_sum (List.mem_map.2 ⟨x, hx, rfl⟩)
  have hb : ∀ i, i ≤ l.length → i ≤ 100 → (laidBytes l i).length + 32 ≤ 140737488355328 := by
    intro i _ hi
    have h1 := laid_len (l.take i) (fun x hx => ⟨(hl.each x (List.mem_of_mem_take hx)).2, by have := hbb x (List.mem_of_mem_take hx); omega⟩)
    have h2 := sum_take (l.map fun x => x.b.length) i
    rw [← List.map_take] at h2
    have h3 : (l.take i).length ≤ i := List.length_take_le _ _
    unfold laidBytes
    omega
  have hG := good_of_laid hL
  refine (wireBack_any W (awake02 W hG) a0 len0 cap0 l hl hb (by omega) (fun x hx => by have := hbb x hx; omega)).mono fun e W' ⟨he, hu⟩ => ?_
  have bel := hu.below (B := W.heap.size) (Nat.le_refl _) (by simp)
  subst he
  exact ⟨_, rfl, _, _, _, [], _, [], hW', trodAll_mk1 (shut_bool Tryd.underlying4 _), (trodAll_cons_mk (Below.trod laidOut (by kernel_rfl) (of_decide_eq_true (by kernel_rfl)) k0 bel lt0) trodAll_mk0), rfl, bel.frame _, fun h => by cases h⟩

theorem wireBack_row : Rows.WireBackUptoSaid :=
  OpenClaim.holds_of_cond 5 Tryd.f5 rfl rfl rfl rfl rfl rfl rfl ⟨rfl, rfl, rfl, rfl, rfl⟩ rfl rfl rfl rfl rfl (by kernel_rfl) Tryd.func5 (by kernel_rfl)
    (of_decide_eq_true (by kernel_rfl)) (by unfold Func.isWrapper; rw [if_neg (of_decide_eq_false (by kernel_rfl))]; exact ⟨rfl, rfl⟩)
    (fun os started H enc _ F => by rw [OpenClaim.pre_eq_preRow]; exact wireBack_lifted os started H enc F)

theorem wireBack_holds : Rows.WireBackUptoCardSaid :=
  Claim7.holds_tied_plain_at .later [] _ _ _ _ wireBack_row (fun _ h => by cases h) (by kernel_rfl) (fun _ h => by cases h) wireBackUpto_row_tie rfl ⟨rfl, rfl⟩ (by kernel_rfl) rfl
    (fun f fn hf hfn => by
      obtain rfl : f = 5 := Option.some.inj ((show Tryd.prog.funcNamed "agio/agiolaw02.WireBack" = some 5 by kernel_rfl).symm.trans hf) |>.symm
      obtain rfl : fn = Tryd.f5 := (Option.some.inj (Tryd.func5.symm.trans hfn)).symm
      exact ⟨by kernel_rfl, fun j t ht => by
        rw [Tryd.params5] at ht
        obtain rfl : t = 22 := by simpa using Array.mem_of_getElem? ht
        exact (show Tryd.prog.wantsStandIn 22 = false by kernel_rfl)⟩)
    (by kernel_rfl)
#print axioms wireBack_holds
end Go.Proofs.YtchlceolccfdhaaDoor
