/- No beginning of a command's bytes is a command: plain mathematics. -/
import Derived.Test.YtchlceolccfdhaaDoorPlainCmd
import Derived.Test.YtchlceolccfdhaaDoorPlainGet
namespace Agio
open Go

theorem leb_hi : ∀ (n i : Nat) (h : i < (leb n).length), i + 1 < (leb n).length → 128 ≤ (leb n)[i].toNat := by
  intro n
  induction n using Nat.strongRecOn with
  | _ n ih =>
    intro i h h1
    by_cases hn : n < 128
    · rw [leb_lt hn] at h1; simp at h1
    · have e := leb_ge (n := n) (by omega)
      rw [e] at h1
      simp only [List.length_cons] at h1
      cases i with
      | zero =>
        have : (leb n)[0] = UInt8.ofNat (n % 128 + 128) := by simp [e]
        rw [this]; simp; omega
      | succ i =>
        have hi : i < (leb (n / 128)).length := by omega
        have : (leb n)[i + 1] = (leb (n / 128))[i] := by simp [e]
        rw [this]
        exact ih (n / 128) (by omega) i hi (by omega)
theorem uv_cut {n j : Nat} (hn : U64 n) (hj : j < (leb n).length) : uv ((leb n).take j) = (0, 0, 3) := by
  have hl := leb_len hn
  have ht : ((leb n).take j).length = j := by rw [List.length_take]; omega
  refine get_short (k := j) ⟨by omega, fun i hi hij => ?_⟩ (by omega) (by omega)
  rw [List.getElem_take]
  exact leb_hi n i (by omega) (by omega)
theorem upt_cut {most : Int} {n j : Nat} (hn : U64 n) (hj : j < (leb n).length) : upt most ((leb n).take j) = (0, 0, 3) := by
  unfold upt; rw [uv_cut hn hj]; rfl
theorem ints_cut (l : List Int) : ∀ (b : List UInt8) (a j : Nat), (∀ m ∈ l, I64 m) → b.drop a = (zigs l).take j → j < (zigs l).length → ∃ e, ints b l.length a = .inl (3, e) := by
  induction l with
  | nil => intro b a j _ _ h; simp [zigs] at h
  | cons n l ih =>
    intro b a j hI hb hj
    have hz := zig_U64 (hI n (by simp))
    rw [zigs_cons] at hb hj
    by_cases h : j < (leb (zig n)).length
    · rw [List.take_append_of_le_length (by omega)] at hb
      refine ⟨a, ?_⟩
      simp only [List.length_cons, ints]
      rw [hb, uv_cut hz h]
      simp
    · have hb2 : b.drop a = leb (zig n) ++ (zigs l).take (j - (leb (zig n)).length) := by
        rw [hb, List.take_append]
        rw [List.take_of_length_le (by omega)]
      have hu := uv_back hz ((zigs l).take (j - (leb (zig n)).length))
      rw [List.length_append] at hj
      obtain ⟨e, he⟩ := ih b (a + (leb (zig n)).length) (j - (leb (zig n)).length) (fun m hm => hI m (by simp [hm])) (by rw [← List.drop_drop, hb2, List.drop_left]) (by omega)
      refine ⟨e, ?_⟩
      simp only [List.length_cons, ints]
      rw [hb2, hu, if_pos rfl, he]
theorem cmdRead_cut {k cl : Nat} {l : List Int} {j : Nat} (hk : k ≤ 1000) (hc : cl ≤ 1000) (hl : l.length = 7) (hI : ∀ m ∈ l, I64 m) (hj : j < (leb k ++ leb cl ++ zigs l).length) :
    ∃ e, cmdRead ((leb k ++ leb cl ++ zigs l).take j) = .inl (3, e) := by
  rw [List.append_assoc] at hj ⊢
  by_cases h0 : j < (leb k).length
  · rw [List.take_append_of_le_length (by omega)]
    refine ⟨0, ?_⟩
    unfold cmdRead
    rw [upt_cut (U64.small (by omega)) h0]
    rfl
  · have e0 : (leb k ++ (leb cl ++ zigs l)).take j = leb k ++ (leb cl ++ zigs l).take (j - (leb k).length) := by rw [List.take_append, List.take_of_length_le (by omega)]
    rw [e0]
    have hu0 : upt 1000 (leb k ++ (leb cl ++ zigs l).take (j - (leb k).length)) = (k, (leb k).length, 0) := upt_back _ (by omega) (by omega)
    have hd0 : (leb k ++ (leb cl ++ zigs l).take (j - (leb k).length)).drop (leb k).length = (leb cl ++ zigs l).take (j - (leb k).length) := List.drop_left
    rw [List.length_append] at hj
    by_cases h1 : j - (leb k).length < (leb cl).length
    · refine ⟨(leb k).length, ?_⟩
      unfold cmdRead
      rw [hu0]
      simp only [hd0]
      rw [List.take_append_of_le_length (by omega), upt_cut (U64.small (by omega)) h1]
      rfl
    · have e1 : (leb cl ++ zigs l).take (j - (leb k).length) = leb cl ++ (zigs l).take (j - (leb k).length - (leb cl).length) := by rw [List.take_append, List.take_of_length_le (by omega)]
      rw [e1] at hu0 hd0 ⊢
      have hu1 : upt 1000 (leb cl ++ (zigs l).take (j - (leb k).length - (leb cl).length)) = (cl, (leb cl).length, 0) := upt_back _ (by omega) (by omega)
      have hd1 : (leb k ++ (leb cl ++ (zigs l).take (j - (leb k).length - (leb cl).length))).drop ((leb k).length + (leb cl).length) = (zigs l).take (j - (leb k).length - (leb cl).length) := by rw [← List.drop_drop, hd0, List.drop_left]
      rw [List.length_append] at hj
      obtain ⟨e, he⟩ := ints_cut l _ _ _ hI hd1 (by omega)
      rw [hl] at he
      refine ⟨e, ?_⟩
      unfold cmdRead
      rw [hu0]
      simp only [hd0, hu1, if_true, he]
end Agio
