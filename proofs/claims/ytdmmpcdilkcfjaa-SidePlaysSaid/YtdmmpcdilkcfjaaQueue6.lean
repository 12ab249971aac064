/- A queue: Drop. -/
import Derived.Test.YtdmmpcdilkcfjaaQueue5
namespace Go.Proofs.Ytdmmpcdilkcfjaa
open Go.RowKit Agio

/-- What Drop tells. -/
def Dropped (id q : Int) (w : World) (g : Nat) (A : Option Addr) (l : Its) (e : Ending) (w' : World) : Prop :=
  ∃ A' n' c', e = .returned (.tuple #[.int .i64 q, .bool true]) ∧ QuS w' g A' n' c' (dropQ id l) ∧ Upd (fpQ g A) (fpQ g A') w w'
set_option maxRecDepth 100000 in
set_option maxHeartbeats 2000000 in
theorem queueDrop (w : World) (g : Nat) (A : Option Addr) (n c : Nat) (l : Its) (h : QuS w g A n c l) (id : Int) (x : Itm) (hx : x ∈ l) (hid : x.1 = id) :
    Calls Try.prog 43 #[.pointer (some ⟨g, 0, none⟩), .int .i64 id] w (Dropped id x.2 w g A l) := by
  rcases idxQ_cases id l with ⟨hno, _⟩ | ⟨k, hk, -, hki, hix⟩
  · exact absurd hid (hno x hx)
  have hxk : l[k] = x := by
    obtain ⟨j, hj, rfl⟩ := List.getElem_of_mem hx
    have := List.getElem_inj (h₀ := by simpa using hk) (h₁ := by simpa using hj) h.ok.ids |>.1 (by rw [List.getElem_map, List.getElem_map, hki, hid])
    subst this; rfl
  have C := queueFind w _ l h.val id
  rw [hix] at C
  have hok := h.ok.drop id
  have hers := erase_dropQ hk h.ok.ids hki
  have hle := h.ok.len
  obtain ⟨m, hm⟩ : ∃ m, n = m + 1 := ⟨n - 1, by have := h.len; omega⟩
  have hn := h.len
  subst hm
  have hkl : (k : Int) < ((m + 1 : Nat) : Int) := by omega
  have hw1 : IntKind.i64.wrap ((k : Int) + 1) = (k : Int) + 1 := by rw [IntKind.wrap_i64]; omega
  have HE := Lib.hid hers
  have HN := Lib.hid hn
  have HO := Lib.hid hok
  have HX := Lib.hid hxk
  clear hx hid hix hki hers hok hn hxk
  go_enter Try.func43, Try.ntmps43
  repeat' ((fail_if_success (with_reducible refine stop_append rfl ?_)); (fail_if_success (with_reducible refine stop_copy rfl ?_)); first | go_values | go_skip | go_guarded | go_step | go_upon | (simp only []; go_at_K))
  ((with_reducible refine C.mono ?_); rintro e w1 ⟨rfl, hu1⟩)
  have hh := h.upd0 hu1
  obtain ⟨ad, rfl, p0', p1'⟩ := RdS.at_ itC_len hh.rd hk
  rw [HX.out] at p0' p1'
  have p0 := p0' _ rfl
  have p1 := p1' 1 _ (by omega) rfl
  have q0 := hh.blk.cell 0
  simp only [List.getElem?_toArray, List.getElem?_cons_zero] at q0
  have D := slicesDelete w1 (some ad) m c l hh.row HN.out k hk hle
  clear p0' p1' C h
  repeat' ((fail_if_success (with_reducible refine stop_append rfl ?_)); (fail_if_success (with_reducible refine stop_copy rfl ?_)); first | go_values | go_skip | go_guarded | go_step | go_upon | (simp only []; go_at_K))
  ((with_reducible refine D.mono ?_); rintro e w2 ⟨rfl, ho, hu2⟩)
  have hb2 := hh.blk.upd hu2 hh.out
  obtain ⟨q2, f2⟩ := hb2.c1
  rw [HE.out] at ho
  have hml : m = (dropQ id l).length := by
    rw [← HE.out, List.length_eraseIdx, if_pos hk]; have := HN.out; omega
  have P := hh.set_ (l' := dropQ id l) ho hu2 hml HO.out
  have HP := Lib.hid P
  clear D q0 p0 p1 P hml
  repeat' ((fail_if_success (with_reducible refine stop_append rfl ?_)); (fail_if_success (with_reducible refine stop_copy rfl ?_)); first | go_values | go_skip | go_guarded | go_step | go_upon | (simp only []; go_at_K))
  go_ret2
  exact ⟨some ad, m, c, rfl, HP.out.1, (hu1.up _).trans HP.out.2⟩
end Go.Proofs.Ytdmmpcdilkcfjaa
