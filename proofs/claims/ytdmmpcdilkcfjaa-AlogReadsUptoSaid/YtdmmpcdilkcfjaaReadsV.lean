/- What AlogReads is given, as the walk takes it. -/
import Derived.Test.YtdmmpcdilkcfjaaRecV
import Derived.Test.YtdmmpcdilkcfjaaBulk
namespace Go.Proofs.Ytdmmpcdilkcfjaa
open Go.ChangeShapes Go.WideShapes Go.RowKit Go.Deep Agio

theorem bulk_mem {H : Type} {d : DataW H} : ∀ {l : List (DataW H)}, d ∈ l → Rows.uptoBulk d ≤ Rows.uptoBulkAll l
  | [], h => by cases h
  | x :: l, h => by
    rcases List.mem_cons.1 h with rfl | h
    · simp only [Rows.uptoBulkAll]; omega
    · have := bulk_mem h; simp only [Rows.uptoBulkAll]; omega
section
variable {H : Type} {enc : TypeId × Value → H} {W : World} {base : Nat} {spare : Nat → Bool} {held : Bool} {d : DataW H} {p : List MemPlace}
set_option maxRecDepth 100000 in
theorem reads07_in {cs : Array Value} (h : DataW.Trod enc Try.prog W base spare held 63 (.agg cs) d p) (hw : ∀ k ∈ d.weights Try.prog 63, k ≤ reachBytes) (hbk : Rows.uptoBulk d ≤ 1048576) :
    ∃ (A : Option Addr) (n c : Nat) (B : Option Addr) (m e : Nat) (l : List Rv) (b : List UInt8) (k s : Int), Value.agg cs = .agg #[.slice A n c, .slice B m e, .int .i64 k, .int .i64 s] ∧ RdS Rv.cells 5 W A n l ∧
      (∀ x ∈ l, RdB W x.A x.n x.b ∧ x.b.length ≤ 140737488351232 ∧ (Lit.int .i64 x.s).wf = true) ∧ RdB W B m b ∧ m ≤ e ∧ e ≤ maxLen ∧ b.length ≤ 1048576 := by
  obtain ⟨fuel, ht⟩ := h
  have hc : (Value.agg cs).cells = cs := rfl
  rw [hc] at ht
  obtain ⟨lcs, hl⟩ : ∃ lcs, cs.toList = lcs := ⟨_, rfl⟩
  rw [hl] at ht
  obtain ⟨ys, n, hn, hy, hlen, hyl, hfl⟩ := DataW.trod_struct Try.underlying63 ht
  obtain ⟨rfl, -⟩ := Prod.mk.inj hy
  simp only [DataW.weights, Try.underlying63] at hw
  simp only [Rows.uptoBulk] at hbk
  have hlen2 : lcs.length = 4 := by rw [hlen]; kernel_rfl
  have hyl2 : ys.length = 4 := by rw [hyl]; rfl
  have i1 : Try.prog.cellsOf 3 = 1 := by kernel_rfl
  have i2 : Try.prog.cellsOf 61 = 1 := by kernel_rfl
  have i4 : Try.prog.cellsOf 22 = 1 := by kernel_rfl
  match lcs, hlen2, ys, hyl2 with
  | [a0, a1, a2, a3], _, [y0, y1, y2, y3], _ =>
    have t0 : DataW.trod enc Try.prog W base spare held n 61 (([a0, a1, a2, a3].drop 0).take (Try.prog.cellsOf 61)) = some y0 := hfl 0 _ rfl
    have t1 : DataW.trod enc Try.prog W base spare held n 22 (([a0, a1, a2, a3].drop 1).take (Try.prog.cellsOf 22)) = some y1 := hfl 1 _ rfl
    have t2 : DataW.trod enc Try.prog W base spare held n 3 (([a0, a1, a2, a3].drop 2).take (Try.prog.cellsOf 3)) = some y2 := hfl 2 _ rfl
    have t3 : DataW.trod enc Try.prog W base spare held n 3 (([a0, a1, a2, a3].drop 3).take (Try.prog.cellsOf 3)) = some y3 := hfl 3 _ rfl
    rw [i2] at t0
    rw [i4] at t1
    rw [i1] at t2 t3
    simp only [List.drop_succ_cons, List.drop_zero, List.take_succ_cons, List.take_zero] at t0 t1 t2 t3
    obtain ⟨x2, e2, -, -⟩ := DataW.trod_int Try.underlying3 t2
    obtain ⟨x3, e3, -, -⟩ := DataW.trod_int Try.underlying3 t3
    simp only [List.cons.injEq, and_true] at e2 e3
    obtain ⟨A, k, c, e0⟩ : ∃ A k c, a0 = .slice A k c := by
      rcases DataW.trod_slice Try.underlying61 t0 with ⟨e, _⟩ | ⟨a, len, cap, _, _, _, _, e, _⟩
      · simp at e; exact ⟨_, _, _, e⟩
      · simp at e; exact ⟨_, _, _, e⟩
    subst e0
    obtain ⟨B, m, e, e1⟩ := slice_formV t1
    subst e1
    have hw0 : ∀ k ∈ y0.1.weights Try.prog 61, k ≤ reachBytes := fun k hk => hw k (DataW.weights_mem_each (j := 0) (t := 61) (d := y0.1) rfl rfl k hk)
    obtain ⟨l, h1, h2, -⟩ := recs_inV (d := y0.1) (p := y0.2) ⟨n, t0⟩ hw0
    obtain ⟨b, hb, hm, hem, _, hdd⟩ := bytes_in (d := y1.1) (p := y1.2) ⟨n, t1⟩
    have hbl := bulk_bytes hdd
    have hbm := bulk_mem (d := y1.1) (l := [y0, y1, y2, y3].map (·.1)) (by simp)
    refine ⟨A, k, c, B, m, e, l, b, x2, x3, ?_, h1, h2, hb, hm, hem, by omega⟩
    have : cs = #[.slice A k c, .slice B m e, .int .i64 x2, .int .i64 x3] := by
      apply Array.ext'
      rw [hl, e2, e3]
    rw [this]
end
end Go.Proofs.Ytdmmpcdilkcfjaa
