/- NetPlays: each deed, on the net and on the document's list, by what it does to the packets' places and bytes. -/
import Derived.Test.YtlkgmedkphcjpaaPlayL
import Derived.Test.YtlkgmedkphcjpaaPlayB
import Derived.Test.YtlkgmedkphcjpaaPlayC
import Derived.Test.YtlkgmedkphcjpaaPlayE
import Derived.Test.YtlkgmedkphcjpaaNetT
import Derived.Test.YtlkgmedkphcjpaaNetU
import Derived.Test.YtlkgmedkphcjpaaNetP
namespace Go.Proofs.Ytlkgmedkphcjpaa
open Go.RowKit Agio

/-- Packets as numbers and bytes. -/
abbrev Mm := List (Int × List UInt8)
def Pk.pr (x : Pk) : Int × List UInt8 := (x.to, x.b)
def prs (l : List Pk) : Mm := l.map Pk.pr
theorem prs_len (l : List Pk) : (prs l).length = l.length := by simp [prs]
theorem prs_push (l : List Pk) (x : Pk) : prs (l ++ [x]) = prs l ++ [x.pr] := by simp [prs]
theorem prs_erase (l : List Pk) (i : Nat) : prs (l.eraseIdx i) = (prs l).eraseIdx i := map_erase_ _ _ _
theorem prs_set (l : List Pk) (i : Nat) (x : Pk) : prs (l.set i x) = (prs l).set i x.pr := List.map_set
theorem prs_tos (l : List Pk) : l.map Pk.to = (prs l).map Prod.fst := by simp [prs, Pk.pr]
/-- The packet at a place. -/
def atM (M : Mm) (i : Int) : Option (Int × List UInt8) := if 0 ≤ i then M[i.toNat]? else none
theorem atM_cases (l : List Pk) (i : Int) : (thereB l.length i = false ∧ atM (prs l) i = none) ∨ ∃ k : Nat, ∃ h : k < l.length, i = (k : Int) ∧ atM (prs l) i = some l[k].pr := by
  unfold thereB atM
  by_cases h0 : 0 ≤ i
  · by_cases h1 : i < (l.length : Int)
    · refine .inr ⟨i.toNat, by omega, by omega, ?_⟩
      rw [if_pos h0]
      simp [prs, show i.toNat < l.length by omega]
    · refine .inl ⟨by simp [h1], ?_⟩
      rw [if_pos h0]
      exact List.getElem?_eq_none (by rw [prs_len]; omega)
  · exact .inl ⟨by simp [h0], by rw [if_neg h0]⟩
def sendM (M : Mm) (to : Int) (b : List UInt8) : Int × Mm := if siteB to = true then (0, M ++ [(to, b)]) else (1, M)
def takeM (M : Mm) (i : Int) : (Int × List UInt8 × Bool) × Mm := match atM M i with
  | some y => ((y.1, y.2, true), M.eraseIdx i.toNat)
  | none => ((0, [], false), M)
def doubleM (M : Mm) (i : Int) : Int × Mm := match atM M i with
  | some y => (0, M ++ [y])
  | none => (6, M)
def spoilM (M : Mm) (i p : Int) (v : UInt8) : Int × Mm := match atM M i with
  | some y => if 0 ≤ p ∧ p < (y.2.length : Int) ∧ v ≠ 0 then (0, M.set i.toNat (y.1, y.2.set p.toNat (y.2.getD p.toNat 0 ^^^ v))) else (1, M)
  | none => (6, M)
theorem unturned {k : Nat} {p : Int} {v : UInt8} (h : ¬ (0 ≤ p ∧ p < (k : Int) ∧ v ≠ 0)) : Unturned k p (v.toNat : Int) := by
  unfold Unturned
  by_cases h0 : p < 0
  · exact .inl h0
  by_cases h1 : p < (k : Int)
  · refine .inr (.inr ⟨by omega, h1, ?_⟩)
    by_cases hv : v = 0
    · subst hv; rfl
    · exact absurd ⟨by omega, h1, hv⟩ h
  · exact .inr (.inl ⟨by omega, by omega⟩)
theorem sendM_len (M : Mm) (to : Int) (b : List UInt8) : (sendM M to b).2.length ≤ M.length + 1 := by
  unfold sendM; split <;> simp
theorem takeM_len (M : Mm) (i : Int) : (takeM M i).2.length ≤ M.length := by
  unfold takeM; split
  · rw [List.length_eraseIdx]; split <;> omega
  · exact Nat.le_refl _
theorem doubleM_len (M : Mm) (i : Int) : (doubleM M i).2.length ≤ M.length + 1 := by
  unfold doubleM; split <;> simp
theorem spoilM_len (M : Mm) (i p : Int) (v : UInt8) : (spoilM M i p v).2.length ≤ M.length := by
  unfold spoilM; split
  · split <;> simp
  · exact Nat.le_refl _

section
variable {w0 w : World} {g nn cn n c : Nat} {An A : Option Addr} {P L : List Pk}
/-- The net behind a deed. -/
def NetM (w0 : World) (g : Nat) (A : Option Addr) (n c : Nat) (L : List Pk) (w : World) (F : List Nat) (r : Int × Mm) (e : Ending) (w' : World) : Prop :=
  ∃ An' nn' cn' P' b, e = .returned (.int .i64 r.1) ∧ Play w0 w' g An' nn' cn' P' A n c L ∧ prs P' = r.2 ∧ Upd F b w w'
/-- The document's list behind a deed. -/
def RefM (w0 : World) (g : Nat) (An : Option Addr) (nn cn : Nat) (P : List Pk) (r : Int × Mm) (e : Ending) (w' : World) : Prop :=
  ∃ A' n' c' L', e = .returned (.tuple #[.slice A' n' c', .int .i64 r.1]) ∧ Play w0 w' g An nn cn P A' n' c' L' ∧ prs L' = r.2

theorem netSend_m (h : Play w0 w g An nn cn P A n c L) (hl : P.length ≤ 4000) (to : Int) (B : Option Addr) (m d : Nat) (b : List UInt8) (hB : RdB w0 B m b) (hb : b.length ≤ 140737488355328) :
    Calls Try.prog 14 #[.pointer (some ⟨g, 0, none⟩), .int .i64 to, .slice B m d] w (NetM w0 g A n c L w (fpN g An P) (sendM (prs P) to b)) := by
  unfold sendM
  by_cases hs : siteB to = true
  · rw [if_pos hs]
    refine (netSend w g An nn cn P h.net to B m d b (h.inn (by omega) hB).1 hb hs (by omega)).mono ?_
    rintro e w' ⟨A', n', c', x, rfl, h1, h2, hn, hu⟩
    exact ⟨A', n', c', P ++ [x], _, rfl, h.turn hn hu, by rw [prs_push, Pk.pr, h1, h2], hu⟩
  · rw [if_neg hs]
    refine (netSend_site w g to B m d (by simpa using hs)).mono ?_
    rintro e w' ⟨rfl, rfl⟩
    exact ⟨An, nn, cn, P, _, rfl, h, rfl, Upd.refl _ _⟩
theorem refSend_m (h : Play w0 w g An nn cn P A n c L) (hl : L.length ≤ 4000) (to : Int) (B : Option Addr) (m d : Nat) (b : List UInt8) (hB : RdB w0 B m b) (hb : b.length ≤ 140737488355328) :
    Calls Try.prog 15 #[.slice A n c, .int .i64 to, .slice B m d] w (RefM w0 g An nn cn P (sendM (prs L) to b)) := by
  unfold sendM
  by_cases hs : siteB to = true
  · rw [if_pos hs]
    obtain ⟨hr, ha⟩ := h.inn (by omega) hB
    refine (refSend w A n c L h.ref to B m d b hs (by omega)).mono ?_
    rintro e w' ⟨A', n', c', rfl, ho, hn, hu⟩
    refine ⟨A', n', c', _, rfl, h.list hu ⟨hn, ho.rd⟩ ho.cap.1 (fun k hk => hk) (fun x hx => ?_), by rw [prs_push, Pk.pr]⟩
    rcases List.mem_append.1 hx with hx | hx
    · exact .inl hx
    · obtain rfl := List.mem_singleton.1 hx
      exact .inr ⟨hr.updx hu (fun _ => by simp), ha, hs, hb⟩
  · rw [if_neg hs]
    refine (refSend_no w A n c to B m d (by simpa using hs)).mono ?_
    rintro e w' ⟨rfl, rfl⟩
    exact ⟨A, n, c, L, rfl, h, rfl⟩
theorem netDouble_m (h : Play w0 w g An nn cn P A n c L) (hs : prs P = prs L) (hl : P.length ≤ 4000) (i : Int) :
    Calls Try.prog 18 #[.pointer (some ⟨g, 0, none⟩), .int .i64 i] w (NetM w0 g A n c L w (fpN g An P) (doubleM (prs P) i)) := by
  unfold doubleM
  rcases atM_cases P i with ⟨ht, ha⟩ | ⟨k, hk, rfl, ha⟩
  · rw [ha]
    have C := netThere w g An nn cn P h.net i
    rw [ht] at C
    refine (doubleNo _ i w C).mono ?_
    rintro e w' ⟨rfl, rfl⟩
    exact ⟨An, nn, cn, P, _, rfl, h, rfl, Upd.refl _ _⟩
  · rw [ha]
    have hkL : k < L.length := by have := congrArg List.length hs; rw [prs_len, prs_len] at this; omega
    have hb : P[k].b = L[k].b := by have := congrArg (fun z => z[k]?) hs; simp [prs, hk, hkL, Pk.pr] at this; exact this.2
    refine (netDouble w g An nn cn P h.net k hk (by omega) (by rw [hb]; exact h.bytes _ (List.getElem_mem hkL))).mono ?_
    rintro e w' ⟨A', n', c', x, rfl, h1, h2, hn, hu⟩
    exact ⟨A', n', c', P ++ [x], _, rfl, h.turn hn hu, by rw [prs_push, Pk.pr, Pk.pr, h1, h2], hu⟩
theorem refDouble_m (h : Play w0 w g An nn cn P A n c L) (hl : L.length ≤ 4000) (i : Int) :
    Calls Try.prog 19 #[.slice A n c, .int .i64 i] w (RefM w0 g An nn cn P (doubleM (prs L) i)) := by
  unfold doubleM
  rcases atM_cases L i with ⟨ht, ha⟩ | ⟨k, hk, rfl, ha⟩
  · rw [ha]
    refine (refDouble_no w A n c i (by rw [h.ref.len]; exact ht)).mono ?_
    rintro e w' ⟨rfl, rfl⟩
    exact ⟨A, n, c, L, rfl, h, rfl⟩
  · rw [ha]
    have hm := List.getElem_mem hk
    refine (refDouble w A n c L h.ref k hk (by omega) L[k] rfl (h.sites _ hm)).mono ?_
    rintro e w' ⟨A', n', c', rfl, ho, hn, hu⟩
    refine ⟨A', n', c', _, rfl, h.list hu ⟨hn, ho.rd⟩ ho.cap.1 (fun k hk => hk) (fun x hx => ?_), by rw [prs_push]⟩
    rcases List.mem_append.1 hx with hx | hx
    · exact .inl hx
    · obtain rfl := List.mem_singleton.1 hx
      exact .inl hm
/-- What is taken. -/
def TakeN (w0 : World) (g : Nat) (A : Option Addr) (n c : Nat) (L : List Pk) (w : World) (F : List Nat) (r : (Int × List UInt8 × Bool) × Mm) (e : Ending) (w' : World) : Prop :=
  ∃ An' nn' cn' P' B m d b, e = .returned (.tuple #[.int .i64 r.1.1, .slice B m d, .bool r.1.2.2]) ∧ RdB w' B m r.1.2.1 ∧ Play w0 w' g An' nn' cn' P' A n c L ∧ prs P' = r.2 ∧ Upd F b w w'
def TakeR (w0 : World) (g : Nat) (An : Option Addr) (nn cn : Nat) (P : List Pk) (r : (Int × List UInt8 × Bool) × Mm) (w : World) (e : Ending) (w' : World) : Prop :=
  ∃ A' n' c' L' B m d b', e = .returned (.tuple #[.slice A' n' c', .agg #[.int .i64 r.1.1, .slice B m d], .bool r.1.2.2]) ∧ RdB w' B m r.1.2.1 ∧ Play w0 w' g An nn cn P A' n' c' L' ∧ prs L' = r.2 ∧ Upd [] b' w w'
theorem netTake_m (h : Play w0 w g An nn cn P A n c L) (i : Int) :
    Calls Try.prog 16 #[.pointer (some ⟨g, 0, none⟩), .int .i64 i] w (TakeN w0 g A n c L w (fpN g An P) (takeM (prs P) i)) := by
  unfold takeM
  rcases atM_cases P i with ⟨ht, ha⟩ | ⟨k, hk, rfl, ha⟩
  · rw [ha]
    have C := netThere w g An nn cn P h.net i
    rw [ht] at C
    refine (takeNo _ i w C).mono ?_
    rintro e w' ⟨rfl, rfl⟩
    exact ⟨An, nn, cn, P, none, 0, 0, _, rfl, RdB.nil _ _, h, rfl, Upd.refl _ _⟩
  · rw [ha]
    refine (netTake w g An nn cn P h.net k hk P[k] rfl).mono ?_
    rintro e w' ⟨A', n', c', rfl, hn, ho, -, hu⟩
    exact ⟨A', n', c', _, _, _, _, _, rfl, ho.rd, h.turn hn hu, by rw [prs_erase]; rfl, hu⟩
theorem refTake_m (h : Play w0 w g An nn cn P A n c L) (hl : L.length ≤ 4000) (i : Int) :
    Calls Try.prog 17 #[.slice A n c, .int .i64 i] w (TakeR w0 g An nn cn P (takeM (prs L) i) w) := by
  unfold takeM
  rcases atM_cases L i with ⟨ht, ha⟩ | ⟨k, hk, rfl, ha⟩
  · rw [ha]
    refine (refTake_no w A n c i (by rw [h.ref.len]; exact ht)).mono ?_
    rintro e w' ⟨rfl, hu⟩
    exact ⟨A, n, c, L, none, 0, 0, [], rfl, RdB.nil _ _, h.made hu, rfl, hu⟩
  · rw [ha]
    have hm := List.getElem_mem hk
    refine (refTake w A n c L h.ref h.cap k hk (by omega) L[k] rfl).mono ?_
    rintro e w' ⟨A', n', c', rfl, ho, hn, hu⟩
    exact ⟨A', n', c', _, _, _, _, _, rfl, (h.each _ hm).updx hu (fun _ => by simp), h.list hu ⟨hn, ho.rd⟩ ho.cap.1 (fun k hk => hk) (fun x hx => .inl ((List.eraseIdx_sublist L k).subset hx)), by rw [prs_erase]; rfl, hu⟩
theorem netSpoil_m (h : Play w0 w g An nn cn P A n c L) (i p : Int) (v : UInt8) :
    Calls Try.prog 20 #[.pointer (some ⟨g, 0, none⟩), .int .i64 i, .int .i64 p, .int .u8 (v.toNat : Int)] w (NetM w0 g A n c L w (fpN g An P) (spoilM (prs P) i p v)) := by
  unfold spoilM
  rcases atM_cases P i with ⟨ht, ha⟩ | ⟨k, hk, rfl, ha⟩
  · rw [ha]
    have C := netThere w g An nn cn P h.net i
    rw [ht] at C
    refine (spoilNo _ i w C p (v.toNat : Int)).mono ?_
    rintro e w' ⟨rfl, rfl⟩
    exact ⟨An, nn, cn, P, _, rfl, h, rfl, Upd.refl _ _⟩
  · rw [ha]
    have hxn := (h.net.each _ (List.getElem_mem hk)).len
    by_cases hq : 0 ≤ p ∧ p < ((P[k].pr).2.length : Int) ∧ v ≠ 0
    · simp only [if_pos hq]
      obtain ⟨q, rfl⟩ : ∃ q : Nat, p = (q : Int) := ⟨p.toNat, by omega⟩
      have hql : q < P[k].b.length := by have := hq.2.1; simp only [Pk.pr] at this; omega
      refine (netSpoil w g An nn cn P h.net k hk q hql v hq.2.2).mono ?_
      rintro e w' ⟨rfl, hn, hu⟩
      refine ⟨An, nn, cn, _, _, rfl, h.turn hn hu, ?_, hu⟩
      rw [prs_set]
      simp [Pk.pr, Pk.turn, hql]
    · simp only [if_neg hq]
      refine (netSpoil_arg w g An nn cn P h.net k hk p (v.toNat : Int) P[k] rfl (by rw [hxn]; exact unturned hq)).mono ?_
      rintro e w' ⟨rfl, rfl⟩
      exact ⟨An, nn, cn, P, _, rfl, h, rfl, Upd.refl _ _⟩
theorem refSpoil_m (h : Play w0 w g An nn cn P A n c L) (hl : L.length ≤ 4000) (i p : Int) (v : UInt8) :
    Calls Try.prog 21 #[.slice A n c, .int .i64 i, .int .i64 p, .int .u8 (v.toNat : Int)] w (RefM w0 g An nn cn P (spoilM (prs L) i p v)) := by
  unfold spoilM
  rcases atM_cases L i with ⟨ht, ha⟩ | ⟨k, hk, rfl, ha⟩
  · rw [ha]
    refine (refSpoil_no w A n c i p (v.toNat : Int) (by rw [h.ref.len]; exact ht)).mono ?_
    rintro e w' ⟨rfl, rfl⟩
    exact ⟨A, n, c, L, rfl, h, rfl⟩
  · rw [ha]
    have hm := List.getElem_mem hk
    have hxn := (h.each _ hm).len
    by_cases hq : 0 ≤ p ∧ p < ((L[k].pr).2.length : Int) ∧ v ≠ 0
    · simp only [if_pos hq]
      obtain ⟨q, rfl⟩ : ∃ q : Nat, p = (q : Int) := ⟨p.toNat, by omega⟩
      have hql : q < L[k].b.length := by have := hq.2.1; simp only [Pk.pr] at this; omega
      refine (refSpoil w A n c L h.ref k hk (by omega) L[k] rfl (h.each _ hm) (h.bytes _ hm) q L[k].b[q] (by simp [hql]) v hq.2.2).mono ?_
      rintro e w' ⟨A', n', c', B, m, d, rfl, ho, hn, hB, hu⟩
      have hlen : (L[k].b.set q (L[k].b[q] ^^^ v)).length ≤ 140737488355328 := by rw [List.length_set]; exact h.bytes _ hm
      refine ⟨A', n', c', _, rfl, h.list hu ⟨by rw [List.length_set]; exact hn, ho.rd⟩ ho.cap.1 (fun j hj => List.mem_append_left _ hj) (fun x hx => ?_), ?_⟩
      · rcases List.mem_or_eq_of_mem_set hx with hx | rfl
        · exact .inl hx
        · exact .inr ⟨hB.rd, Apart.fresh h.net.lt hu (fun j hj => List.mem_append_right _ hj), h.sites L[k] hm, hlen⟩
      · rw [prs_set]
        simp [Pk.pr, Pk.at_, hql]
    · simp only [if_neg hq]
      refine (refSpoil_arg w A n c L h.ref k hk p (v.toNat : Int) L[k] rfl (by rw [hxn]; exact unturned hq)).mono ?_
      rintro e w' ⟨rfl, rfl⟩
      exact ⟨A, n, c, L, rfl, h, rfl⟩
end
end Go.Proofs.Ytlkgmedkphcjpaa
