/- Numbers that are read one behind the other, each not above its own bound, and bytes behind them, with nothing left: plain mathematics. -/
import Derived.Test.YtdmmpcdilkcfjaaPlainCmd
namespace Agio
open Go

def nums (b : List UInt8) : List Int → Nat → Option (List Nat × Nat)
  | [], a => some ([], a)
  | m :: ms, a => if (upt m (b.drop a)).2.2 = 0 then (nums b ms (a + (upt m (b.drop a)).2.1)).map fun p => ((upt m (b.drop a)).1 :: p.1, p.2) else none
/-- Numbers under their bounds. -/
def Fits : List Nat → List Int → Prop
  | [], [] => True
  | n :: l, m :: ms => (n : Int) ≤ m ∧ Fits l ms
  | _, _ => False
/-- Behind the numbers l the reader stands at a. -/
def NumSt (b : List UInt8) (ms : List Int) (l : List Nat) (a : Nat) : Prop :=
  nums b ms 0 = (nums b (ms.drop l.length) a).map (fun p => (l ++ p.1, p.2)) ∧ a ≤ b.length
theorem NumSt.zero (b : List UInt8) (ms : List Int) : NumSt b ms [] 0 := ⟨by simp [Option.map_id'], by omega⟩
theorem NumSt.more {b : List UInt8} {ms : List Int} {l : List Nat} {a : Nat} (h : NumSt b ms l a) {m : Int} (hm : ms[l.length]? = some m) {n k : Nat} (hu : upt m (b.drop a) = (n, k, 0)) : NumSt b ms (l ++ [n]) (a + k) := by
  obtain ⟨hlt, e⟩ := List.getElem?_eq_some_iff.1 hm
  obtain ⟨_, _, hk⟩ := upt_once hu
  refine ⟨?_, by rw [List.length_drop] at hk; have := h.2; omega⟩
  rw [h.1, List.drop_eq_getElem_cons hlt, e]
  simp only [nums, hu, if_true, List.length_append, List.length_cons, List.length_nil, Option.map_map]
  congr 1
  funext p
  simp
theorem NumSt.bad {b : List UInt8} {ms : List Int} {l : List Nat} {a : Nat} (h : NumSt b ms l a) {m : Int} (hm : ms[l.length]? = some m) {n k bad : Nat} (hu : upt m (b.drop a) = (n, k, bad)) (h0 : bad ≠ 0) : nums b ms 0 = none := by
  obtain ⟨hlt, e⟩ := List.getElem?_eq_some_iff.1 hm
  rw [h.1, List.drop_eq_getElem_cons hlt, e]
  simp only [nums, hu, if_neg h0, Option.map_none]
theorem NumSt.all {b : List UInt8} {ms : List Int} {l : List Nat} {a : Nat} (h : NumSt b ms l a) (hl : l.length = ms.length) : nums b ms 0 = some (l, a) := by
  rw [h.1, List.drop_of_length_le (by omega)]; simp [nums]
theorem nums_ok (b : List UInt8) : ∀ (ms : List Int) (a : Nat) (l : List Nat) (e : Nat), a ≤ b.length → nums b ms a = some (l, e) → b.drop a = l.flatMap leb ++ b.drop e ∧ Fits l ms ∧ l.length = ms.length ∧ e ≤ b.length
  | [], a, l, e, ha, h => by simp [nums] at h; obtain ⟨rfl, rfl⟩ := h; simp [Fits, ha]
  | m :: ms, a, l, e, ha, h => by
    simp only [nums] at h
    split at h
    · rename_i h0
      obtain ⟨n, k, bad, hu⟩ : ∃ n k bad, upt m (b.drop a) = (n, k, bad) := ⟨_, _, _, rfl⟩
      rw [hu] at h h0
      simp only at h0 h
      subst h0
      obtain ⟨h1, h2, h3⟩ := upt_once hu
      rw [Option.map_eq_some_iff] at h
      obtain ⟨⟨l', e'⟩, hn, he⟩ := h
      simp only [Prod.mk.injEq] at he
      obtain ⟨rfl, rfl⟩ := he
      obtain ⟨i1, i2, i3, i4⟩ := nums_ok b ms (a + k) l' e' (by rw [List.length_drop] at h3; omega) hn
      refine ⟨?_, ⟨h2, i2⟩, by simp [i3], i4⟩
      rw [drop_take_app h3, h1, i1]; simp
    · cases h
theorem nums_back (b : List UInt8) : ∀ (ms : List Int) (l : List Nat) (a : Nat) (r : List UInt8), (∀ m ∈ ms, m ≤ 9223372036854775807) → Fits l ms → b.drop a = l.flatMap leb ++ r → nums b ms a = some (l, a + (l.flatMap leb).length)
  | [], [], a, r, _, _, _ => by simp [nums]
  | [], _ :: _, _, _, _, h, _ => h.elim
  | _ :: _, [], _, _, _, h, _ => h.elim
  | m :: ms, n :: l, a, r, hm, h, hb => by
    rw [List.flatMap_cons, List.append_assoc] at hb
    have hu := upt_back (l.flatMap leb ++ r) h.1 (hm m (by simp))
    have hd : b.drop (a + (leb n).length) = l.flatMap leb ++ r := by rw [← List.drop_drop, hb, List.drop_left]
    have ih := nums_back b ms l (a + (leb n).length) r (fun x hx => hm x (by simp [hx])) h.2 hd
    simp only [nums, hb, hu, if_true, ih, Option.map_some, List.flatMap_cons, List.length_append, Nat.add_assoc]

/-- Numbers, and bytes, with nothing left. -/
def body (b : List UInt8) (ms : List Int) : Option (List Nat × List UInt8) :=
  match nums b ms 0 with
  | none => none
  | some p => if (tk 2048 (b.drop p.2)).2.2 = 0 ∧ p.2 + (tk 2048 (b.drop p.2)).2.1 = b.length then some (p.1, (tk 2048 (b.drop p.2)).1) else none
def bodyB (l : List Nat) (v : List UInt8) : List UInt8 := l.flatMap leb ++ (leb v.length ++ v)
theorem tk_once {l : List UInt8} {v : List UInt8} {k : Nat} (h : tk 2048 l = (v, k, 0)) : l.take k = leb v.length ++ v ∧ v.length ≤ 2048 ∧ k ≤ l.length := by
  obtain ⟨n, sz, bad, hu⟩ : ∃ n sz bad, upt 2048 l = (n, sz, bad) := ⟨_, _, _, rfl⟩
  by_cases h0 : bad = 0
  · subst h0
    obtain ⟨h1, h2, h3⟩ := upt_once hu
    by_cases hs : l.length - sz < n
    · rw [tk_short hu hs] at h; simp at h
    · rw [tk_ok hu hs] at h
      simp only [Prod.mk.injEq, and_true] at h
      obtain ⟨rfl, rfl⟩ := h
      have hl : ((l.drop sz).take n).length = n := by rw [List.length_take, List.length_drop]; omega
      refine ⟨?_, by omega, by omega⟩
      rw [hl, ← h1]
      conv => lhs; rw [← List.take_append_drop sz l]
      rw [List.take_append, List.length_take, List.take_of_length_le (by rw [List.length_take]; omega)]
      congr 2; omega
  · rw [tk_bad hu h0] at h; simp at h; exact absurd h.2.2 h0
theorem tk_back {v r : List UInt8} (h : v.length ≤ 2048) : tk 2048 (leb v.length ++ v ++ r) = (v, (leb v.length).length + v.length, 0) := by
  have hu := upt_back (most := 2048) (n := v.length) (v ++ r) (by omega) (by omega)
  rw [← List.append_assoc] at hu
  rw [tk_ok hu (by simp)]
  simp
theorem body_ok {b : List UInt8} {ms : List Int} {l : List Nat} {v : List UInt8} (h : body b ms = some (l, v)) : Fits l ms ∧ v.length ≤ 2048 ∧ b = bodyB l v := by
  unfold body at h
  split at h
  · cases h
  · rename_i p hp
    split at h
    · rename_i hc
      obtain ⟨h0, he⟩ := hc
      simp only [Option.some.injEq, Prod.mk.injEq] at h
      obtain ⟨rfl, rfl⟩ := h
      obtain ⟨h1, h2, h3, h4⟩ := nums_ok b ms 0 p.1 p.2 (by omega) (by rw [hp])
      obtain ⟨v, k, bad, hu⟩ : ∃ v k bad, tk 2048 (b.drop p.2) = (v, k, bad) := ⟨_, _, _, rfl⟩
      rw [hu] at h0 he ⊢
      simp only at h0 he ⊢
      subst h0
      obtain ⟨q1, q2, q3⟩ := tk_once hu
      refine ⟨h2, q2, ?_⟩
      rw [List.take_of_length_le (by rw [List.length_drop]; omega)] at q1
      rw [List.drop_zero] at h1
      unfold bodyB
      rw [← q1]; exact h1
    · cases h
theorem body_back {ms : List Int} {l : List Nat} {v : List UInt8} (hm : ∀ m ∈ ms, m ≤ 9223372036854775807) (hf : Fits l ms) (hv : v.length ≤ 2048) : body (bodyB l v) ms = some (l, v) := by
  have hn := nums_back (bodyB l v) ms l 0 (leb v.length ++ v) hm hf (by rw [List.drop_zero]; rfl)
  rw [Nat.zero_add] at hn
  have hd : (bodyB l v).drop (l.flatMap leb).length = leb v.length ++ v ++ [] := by unfold bodyB; rw [List.drop_left, List.append_nil]
  have hl : (bodyB l v).length = (l.flatMap leb).length + ((leb v.length).length + v.length) := by simp [bodyB]
  unfold body
  rw [hn]
  simp only [hd, tk_back hv, hl, and_self, if_true]
theorem body_none {b : List UInt8} {ms : List Int} (hm : ∀ m ∈ ms, m ≤ 9223372036854775807) (h : body b ms = none) {l : List Nat} {v : List UInt8} (hf : Fits l ms) (hv : v.length ≤ 2048) : b ≠ bodyB l v := by
  rintro rfl
  rw [body_back hm hf hv] at h; cases h
theorem bodyB_inj {ms : List Int} (hm : ∀ m ∈ ms, m ≤ 9223372036854775807) {l l' : List Nat} {v v' : List UInt8} (hf : Fits l ms) (hf' : Fits l' ms) (hv : v.length ≤ 2048) (hv' : v'.length ≤ 2048) (h : bodyB l v = bodyB l' v') : l = l' ∧ v = v' := by
  have h1 := body_back hm hf hv
  rw [h, body_back hm hf' hv'] at h1
  simp only [Option.some.injEq, Prod.mk.injEq] at h1
  exact ⟨h1.1.symm, h1.2.symm⟩
theorem lebs_len {l : List Nat} (h : ∀ n ∈ l, U64 n) : (l.flatMap leb).length ≤ 10 * l.length := by
  induction l with
  | nil => simp
  | cons n l ih =>
    have h0 := leb_len (h n (by simp))
    have h1 := ih fun m hm => h m (by simp [hm])
    simp only [List.flatMap_cons, List.length_append, List.length_cons]
    omega
theorem bodyB_len {l : List Nat} {v : List UInt8} (h : ∀ n ∈ l, U64 n) (hv : v.length ≤ 2048) : (bodyB l v).length ≤ 10 * l.length + 10 + v.length := by
  have h1 := lebs_len h
  have h2 := leb_len (n := v.length) (U64.small (by omega))
  unfold bodyB
  simp only [List.length_append]
  omega
end Agio
