/- A side's operations, each as one contract: Put, Cut, Drop, whatever the answer. -/
import Derived.Test.YtdmmpcdilkcfjaaRef20d
import Derived.Test.YtdmmpcdilkcfjaaSideA
import Derived.Test.YtdmmpcdilkcfjaaOrdIn
namespace Go.Proofs.Ytdmmpcdilkcfjaa
open Go.RowKit Agio

theorem SideS.stay {w w' : World} {g bo br : Nat} {s : Int} {R : List Rw} {L : List Ord} (h : SideS w g s bo br R L) (hu : Upd [] [] w w') : SideS w' g s bo br R L ∧ Upd (fpS g bo br R) (fpS g bo br R) w w' := ⟨h.upd0 hu, hu.up _⟩
section
variable (w : World) (g bo br : Nat) (s : Int) (R : List Rw) (L : List Ord) (h : SideS w g s bo br R L)
include h
theorem sidePut_any (o : Ord) (hw : OrdWf o) : Calls Try.prog 14 #[.pointer (some ⟨g, 0, none⟩), o.val] w fun e w' =>
    ∃ R', e = .returned (.int .i64 (putE s o L)) ∧ SideS w' g s bo br R' (putL s o L) ∧ Upd (fpS g bo br R) (fpS g bo br R') w w' := by
  by_cases hm : mayO s o = true
  · cases hf : findO o.id L with
    | some x =>
      have he : putE s o L = 7 := by rw [putE, if_pos hm, hf, if_pos (by rfl)]
      have hx : putL s o L = L := by rw [putL, if_neg (by rw [he]; decide)]
      refine (sidePut_there w g bo br s R L h o hm (by rw [hf]; rfl) hw.id).mono ?_
      rintro e w' ⟨rfl, hu⟩
      exact ⟨R, by rw [he], by rw [hx]; exact (h.stay hu).1, (h.stay hu).2⟩
    | none =>
      by_cases hl : 256 ≤ L.length
      · have he : putE s o L = 5 := by rw [putE, if_pos hm, hf, if_neg (by simp), if_pos hl]
        have hx : putL s o L = L := by rw [putL, if_neg (by rw [he]; decide)]
        refine (sidePut_full w g bo br s R L h o hm hf hw.id hl).mono ?_
        rintro e w' ⟨rfl, hu⟩
        exact ⟨R, by rw [he], by rw [hx]; exact (h.stay hu).1, (h.stay hu).2⟩
      · have he : putE s o L = 0 := putE_zero.2 ⟨hm, hf, by omega⟩
        have hx : putL s o L = insO s o L := by rw [putL, if_pos he]
        refine (sidePut w g bo br s R L h o hm hf hw.id (by omega)).mono ?_
        rintro e w' ⟨R', rfl, h', hu⟩
        exact ⟨R', by rw [he], by rw [hx]; exact h', hu⟩
  · have hm' : mayO s o = false := by simpa using hm
    have he : putE s o L = 1 := by rw [putE, if_neg hm]
    have hx : putL s o L = L := by rw [putL, if_neg (by rw [he]; decide)]
    refine (sidePut_arg w g bo br s R L h o hm').mono ?_
    rintro e w' ⟨rfl, hu⟩
    exact ⟨R, by rw [he], by rw [hx]; exact (h.stay hu).1, (h.stay hu).2⟩
theorem sideCut_any (id q : Int) (hw : (Lit.int .i64 id).wf = true) : Calls Try.prog 12 #[.pointer (some ⟨g, 0, none⟩), .int .i64 id, .int .i64 q] w fun e w' =>
    e = .returned (.bool (cutE id q L)) ∧ SideS w' g s bo br R (cutL id q L) ∧ Upd (fpS g bo br R) (fpS g bo br R) w w' := by
  cases hf : findO id L with
  | none =>
    have he : cutE id q L = false := by rw [cutE, hf]
    have hx : cutL id q L = L := by rw [cutL, he, if_neg (by simp)]
    refine (sideCut_none w g bo br s R L h id q hw hf).mono ?_
    rintro e w' ⟨rfl, hu⟩
    exact ⟨by rw [he], by rw [hx]; exact (h.stay hu).1, (h.stay hu).2⟩
  | some o =>
    have he : cutE id q L = lessB q o.qty := by rw [cutE, hf]; rfl
    cases hc : lessB q o.qty with
    | true =>
      have hx : cutL id q L = cutO id q L := by rw [cutL, he, hc, if_pos rfl]
      refine (sideCut w g bo br s R L h id q hw o hf hc).mono ?_
      rintro e w' ⟨rfl, h', hu⟩
      exact ⟨by rw [he, hc], by rw [hx]; exact h', hu⟩
    | false =>
      have hx : cutL id q L = L := by rw [cutL, he, hc, if_neg (by simp)]
      refine (sideCut_no w g bo br s R L h id q hw o hf hc).mono ?_
      rintro e w' ⟨rfl, hu⟩
      exact ⟨by rw [he, hc], by rw [hx]; exact (h.stay hu).1, (h.stay hu).2⟩
theorem sideDrop_any (id : Int) (hw : (Lit.int .i64 id).wf = true) : Calls Try.prog 13 #[.pointer (some ⟨g, 0, none⟩), .int .i64 id] w fun e w' =>
    ∃ R', e = .returned (.tuple #[(getO id L).val, .bool (findO id L).isSome]) ∧ SideS w' g s bo br R' (dropO id L) ∧ Upd (fpS g bo br R) (fpS g bo br R') w w' := by
  cases hf : findO id L with
  | none =>
    have hg : getO id L = ord0 := by rw [getO, hf]; rfl
    refine (sideDrop_none w g bo br s R L h id hw hf).mono ?_
    rintro e w' ⟨rfl, hu⟩
    exact ⟨R, by rw [hg]; rfl, by rw [dropO_self hf]; exact (h.stay hu).1, (h.stay hu).2⟩
  | some o =>
    have hg : getO id L = o := by rw [getO, hf]; rfl
    refine (sideDrop w g bo br s R L h id hw o hf).mono ?_
    rintro e w' ⟨R', rfl, h', hu⟩
    rw [(findO_some hf).2] at h'
    exact ⟨R', by rw [hg]; rfl, h', hu⟩
end

theorem refPut_any (w : World) (A : Option Addr) (n c : Nat) (L : List Ord) (h : RfL w A n c L) (s : Int) (o : Ord) (hr : Rising s L) (hl : L.length ≤ 1000) : Calls Try.prog 16 #[.slice A n c, .int .i64 s, o.val] w fun e w' =>
    ∃ A' n' c', e = .returned (.tuple #[.slice A' n' c', .int .i64 (putE s o L)]) ∧ RefL w A w' A' n' c' (putL s o L) := by
  by_cases hm : mayO s o = true
  · exact refPut_may w A n c L h s o hm hr hl
  · have he : putE s o L = 1 := by rw [putE, if_neg hm]
    have hx : putL s o L = L := by rw [putL, if_neg (by rw [he]; decide)]
    refine (refPut_arg w A n c L h s o (by simpa using hm)).mono ?_
    rintro e w' ⟨rfl, h'⟩
    exact ⟨A, n, c, by rw [he], by rw [hx]; exact h'⟩

set_option maxRecDepth 100000 in
theorem law20Real (w : World) (o : Ord) : Calls Try.prog 17 #[o.val] w fun e w' => e = .returned o.val ∧ Upd [] [] w w' := by
  have hU := fun o o' => ((Upd.refl [] w).alloc o).alloc o'
  have hB := Blk.new w 32 #[.int .i64 o.id, .int .i64 o.client, .int .i64 o.side, .int .i64 o.price, .int .i64 o.qty, .bool o.peg, .int .i64 o.off]
  obtain ⟨⟨p0, p1, p2, p3, p4, p5, p6⟩, -⟩ := (hB.alloc (.cells #[.int .i64 0, .int .i64 0, .int .i64 0, .int .i64 0, .int .i64 0, .bool false, .int .i64 0] 45)).c7
  rw [Ord.val]
  go_enter Try.func17, Try.ntmps17
  repeat' ((fail_if_success (with_reducible refine stop_append rfl ?_)); (fail_if_success (with_reducible refine stop_copy rfl ?_)); first | go_values | go_skip | go_guarded | go_step | go_upon | (simp only []; go_at_K))
  refine bodyPost_ret (v := .agg #[.int .i64 o.id, .int .i64 o.client, .int .i64 o.side, .int .i64 o.price, .int .i64 o.qty, .bool o.peg, .int .i64 o.off]) ?_ rfl ⟨rfl, hU _ _⟩
  have hN := Blk.new (w.alloc (.cells #[.int .i64 o.id, .int .i64 o.client, .int .i64 o.side, .int .i64 o.price, .int .i64 o.qty, .bool o.peg, .int .i64 o.off] 32)) 45 #[.int .i64 o.id, .int .i64 o.client, .int .i64 o.side, .int .i64 o.price, .int .i64 o.qty, .bool o.peg, .int .i64 o.off]
  rw [show (w.alloc (.cells #[.int .i64 o.id, .int .i64 o.client, .int .i64 o.side, .int .i64 o.price, .int .i64 o.qty, .bool o.peg, .int .i64 o.off] 32)).heap.size = w.heap.size + 1 by simp] at hN
  obtain ⟨⟨q0, q1, q2, q3, q4, q5, q6⟩, -⟩ := hN.c7
  simp [results, Try.results17, go_sem, q0, q1, q2, q3, q4, q5, q6]
end Go.Proofs.Ytdmmpcdilkcfjaa
