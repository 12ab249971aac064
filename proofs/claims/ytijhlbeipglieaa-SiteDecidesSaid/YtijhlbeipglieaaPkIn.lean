/- Merged: RowIn, ArrIn. -/
import Derived.Test.YtijhlbeipglieaaRows
import Derived.Test.YtijhlbeipglieaaPkBase
import Derived.ChangeSame
import Derived.ChangeVars
import Derived.JoinedOf
import Derived.Stop.Joined
import Derived.ProofKit
import Derived.OpenShut
import Derived.ShutString
import Derived.ChangeOld
import Derived.SizedLaws
import Derived.HandedShaped
import Derived.WideKeyArr2
/- What a row of a seat without cards starts with: its arguments as the walk takes them. -/
namespace Go.Proofs.Ytijhlbeipglieaa
open Go.ChangeShapes Go.WideShapes Go.RowKit Agio

theorem own : ownKnob Try.prog.godebug = none := by kernel_rfl
theorem laidOut : laidOutB Try.prog = true := by kernel_rfl

/-- A slice of bytes that came in, as the walk takes it. -/
theorem bytes_in {H : Type} {enc : TypeId × Value → H} {W : World} {base : Nat} {spare : Nat → Bool} {held : Bool} {a0 : Option Addr} {len cap : Nat} {d : DataW H} {p : List MemPlace}
    (h : DataW.Trod enc Try.prog W base spare held 23 (.slice a0 len cap) d p) :
    ∃ b : List UInt8, RdB W a0 len b ∧ len ≤ cap ∧ cap ≤ maxLen ∧ (a0 = none → cap = 0) ∧ (d = .nil ∧ b = [] ∨ ∃ sp, d = .slice (b.map fun c => .lit (.int .u8 (c.toNat : Int))) sp) := by
  obtain ⟨fuel, hf⟩ := h
  rcases open_ints Try.underlying23 Try.underlying5 (by kernel_rfl) hf with ⟨hcs, hx⟩ | ⟨x, l, c, zs, hcs, _, hl, hm, hz, hx, hcell, hwz⟩
  · simp [Value.cells] at hcs
    obtain ⟨rfl, rfl, rfl⟩ := hcs
    simp only [Prod.mk.injEq] at hx
    exact ⟨[], RdB.nil _ _, by omega, by simp [maxLen], fun _ => rfl, .inl ⟨hx.1, rfl⟩⟩
  · simp [Value.cells] at hcs
    obtain ⟨rfl, rfl, rfl⟩ := hcs
    simp only [Prod.mk.injEq] at hx
    have hlz : len ≤ zs.length := by rw [hz]; split <;> omega
    have hb : ∀ n ∈ zs, B8 (UInt8.ofNat n.toNat) = .int .u8 n := by
      intro n hn
      have hw := bounds_u8 (hwz n hn)
      rw [B8_ofNat (by omega)]; congr 1; omega
    refine ⟨(zs.take len).map fun n => UInt8.ofNat n.toNat, ⟨by simp; omega, fun _ => ⟨x, rfl, fun j u hu => ?_⟩⟩, hl, hm, (fun h => by cases h), .inr ⟨lits .u8 (zs.drop len), ?_⟩⟩
    · have hj : j < len := by
        rcases Nat.lt_or_ge j len with h | h
        · exact h
        · rw [List.getElem?_eq_none (by simp; omega)] at hu; cases hu
      rw [hcell j (by omega)]
      have hjz : j < zs.length := by omega
      simp only [b8s, List.map_map, List.getElem?_map, List.getElem?_take, hj, if_true, List.getElem?_eq_getElem hjz, Option.map_some, Option.some.injEq] at hu
      rw [← hu]
      simp only [Function.comp, hb _ (List.getElem_mem hjz), List.getD, List.getElem?_eq_getElem hjz, Option.getD_some]
    · rw [hx.1]
      congr 1
      simp only [lits, List.map_map]
      refine List.map_congr_left fun n hn => ?_
      have hw := bounds_u8 (hwz n (List.mem_of_mem_take hn))
      simp
      omega
end Go.Proofs.Ytijhlbeipglieaa

/- Arrays of whole numbers that came in. -/
namespace Go.Proofs.Ytijhlbeipglieaa
open Go.ChangeShapes Go.WideShapes Go.RowKit Go.WideMaps Agio

theorem mapM_all {α β : Type} {f : α → Option β} : ∀ {L : List α} {xs : List β}, L.mapM f = some xs → ∀ i ∈ L, ∃ y, f i = some y
  | [], _, _, i, hi => by cases hi
  | a :: L, xs, h, i, hi => by
    rw [List.mapM_cons] at h
    simp only [bind, Option.bind_eq_some_iff, pure, Option.some.injEq] at h
    obtain ⟨y, hy, ys, hys, -⟩ := h
    rcases List.mem_cons.1 hi with rfl | hi
    · exact ⟨y, hy⟩
    · exact mapM_all hys i hi
theorem arr_in {H : Type} {enc : TypeId × Value → H} {P : Program} {k e : TypeId} {n : Nat} {q : IntKind} {W : World} {base : Nat} {sp : Nat → Bool} {held : Bool} {r : Reach} {b0 : Nat} {v : Value} {d : DataW H} {ps : List MemPlace}
    (A : ArrKey P k e n) (he : P.underlying e = some (.int q)) (hv : Value.okWide P W r b0 k v) (hd : DataW.Trod enc P W base sp held k v d ps) :
    ∃ l : List Int, v = .agg (l.map (Value.int q)).toArray ∧ l.length = n ∧ ∀ x ∈ l, (Lit.int q x).wf = true := by
  obtain ⟨xs, rfl, hn⟩ := okWide_arr A hv
  obtain ⟨fuel, hf⟩ := hd
  cases fuel with
  | zero => simp [DataW.trod] at hf
  | succ m =>
    rw [DataW.trod_step] at hf
    unfold DataW.trodStep at hf
    simp only [A.hu, Value.cells] at hf
    rw [if_pos (by rw [A.size]; simpa using hn)] at hf
    simp only [Option.map_eq_some_iff] at hf
    obtain ⟨ys, hy, -⟩ := hf
    have key : ∀ i, i < n → ∃ a, xs[i]? = some (.int q a) ∧ (Lit.int q a).wf = true := by
      intro i hi
      obtain ⟨y, hy⟩ := mapM_all hy i (by simpa using hi)
      obtain ⟨a, ea, -, wa⟩ := DataW.trod_int he hy
      refine ⟨a, ?_, wa⟩
      rw [A.one, Nat.mul_one] at ea
      have := congrArg (fun l => l[0]?) ea
      simpa [List.getElem?_take, List.getElem?_drop] using this
    refine ⟨xs.toList.map fun v => match v with | .int _ a => a | _ => 0, ?_, by simpa using hn, ?_⟩
    · congr 1
      apply Array.ext'
      simp only [List.map_map]
      apply List.ext_getElem?
      intro i
      rw [List.getElem?_map]
      rcases Nat.lt_or_ge i n with hi | hi
      · obtain ⟨a, ha, -⟩ := key i hi
        simp [ha]
      · rw [List.getElem?_eq_none (by simp; omega)]
        rfl
    · intro x hx
      obtain ⟨v, hv, rfl⟩ := List.mem_map.1 hx
      obtain ⟨i, hi, rfl⟩ := List.mem_iff_getElem.1 hv
      obtain ⟨a, ha, wa⟩ := key i (by simp at hi; omega)
      have : xs.toList[i] = .int q a := by
        have h2 : xs[i]? = some xs.toList[i] := by simp at hi; simp [hi]
        rw [h2] at ha; injection ha
      rw [this]; exact wa
end Go.Proofs.Ytijhlbeipglieaa
