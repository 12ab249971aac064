/- NetPlays: what the law carries from deed to deed. -/
import Derived.Test.YtlkgmedkphcjpaaNetM
namespace Go.Proofs.Ytlkgmedkphcjpaa
open Go.RowKit Agio

theorem _root_.Agio.Rd.updx {w w' : World} {size n : Nat} {A : Option Addr} {xs : List Value} {a b : List Nat} (h : Rd w size A n xs) (hu : Upd a b w w') (hd : 0 < n → ∀ k ∈ ablk A, k ∉ a) : Rd w' size A n xs := by
  rcases Nat.eq_zero_or_pos n with h0 | h0
  · subst h0; exact ⟨h.1, fun h => absurd h (by omega)⟩
  · exact h.upd hu (hd h0)
theorem _root_.Agio.Rd.ltx {w : World} {size n : Nat} {A : Option Addr} {xs : List Value} (h : Rd w size A n xs) (hs : 0 < size) (hn : 0 < n) : ∀ k ∈ ablk A, k < w.heap.size := by
  obtain ⟨ad, rfl, hc⟩ := h.2 hn
  have hl : 0 < xs.length := by rw [h.1]; exact Nat.mul_pos hn hs
  have := hc 0 xs[0] (List.getElem?_eq_getElem hl)
  intro k hk
  simp [ablk] at hk
  subst hk
  have h2 := World.block_lt_of_cell? w _ this
  rwa [block_of_add] at h2

/-- A slice that lies apart from blocks F. -/
def Apart (F : List Nat) (A : Option Addr) (n : Nat) : Prop := 0 < n → ∀ k ∈ ablk A, k ∉ F
theorem Apart.turn {F F' : List Nat} {A : Option Addr} {n size : Nat} {xs : List Value} {w w' : World} (h : Apart F A n) (hr : Rd w size A n xs) (hs : 0 < size) (hu : Upd F F' w w') : Apart F' A n := by
  intro hn k hk hm
  rcases hu.fresh k hm with h1 | h1
  · exact h hn k hk h1
  · have := hr.ltx hs hn k hk; omega
theorem Apart.fresh {F : List Nat} {A : Option Addr} {n : Nat} {w w' : World} {b : List Nat} (hF : ∀ k ∈ F, k < w.heap.size) (hu : Upd [] b w w') (hb : ∀ k ∈ ablk A, k ∈ b) : Apart F A n := by
  intro _ k hk hm
  rcases hu.fresh k (hb k hk) with h1 | h1
  · cases h1
  · have := hF k hm; omega

/-- What the law carries: a net, and the document's packets. -/
structure Play (w0 w : World) (g : Nat) (An : Option Addr) (nn cn : Nat) (P : List Pk) (A : Option Addr) (n c : Nat) (L : List Pk) : Prop where
  net : NetS w g An nn cn P
  ref : RdS Pk.cells 2 w A n L
  cap : n ≤ c
  each : ∀ x ∈ L, RdB w x.A x.n x.b
  far : Apart (fpN g An P) A n
  fars : ∀ x ∈ L, Apart (fpN g An P) x.A x.n
  sites : ∀ x ∈ L, siteB x.to = true
  bytes : ∀ x ∈ L, x.b.length ≤ 140737488355328
  upd : Upd [] (fpN g An P) w0 w
/-- The two lists are the same. -/
def Same (P L : List Pk) : Prop := P.map (fun x => (x.to, x.b)) = L.map (fun x => (x.to, x.b))
section
variable {P L : List Pk}
theorem Same.len (h : Same P L) : P.length = L.length := by have := congrArg List.length h; simpa using this
theorem Same.at_ (h : Same P L) {i : Nat} (hi : i < P.length) (hj : i < L.length) : P[i].to = L[i].to ∧ P[i].b = L[i].b := by
  have := congrArg (fun z => z[i]?) h
  simpa [hi, hj] using this
theorem Same.push (h : Same P L) {x y : Pk} (h1 : x.to = y.to) (h2 : x.b = y.b) : Same (P ++ [x]) (L ++ [y]) := by
  unfold Same at *
  simp [h, h1, h2]
theorem map_erase_ {α β : Type} (f : α → β) (l : List α) (i : Nat) : (l.eraseIdx i).map f = (l.map f).eraseIdx i := by
  rw [List.eraseIdx_eq_take_drop_succ, List.eraseIdx_eq_take_drop_succ, List.map_append, List.map_take, List.map_drop]
theorem Same.erase (h : Same P L) (i : Nat) : Same (P.eraseIdx i) (L.eraseIdx i) := by
  unfold Same at *
  rw [map_erase_, map_erase_, h]
theorem Same.set_ (h : Same P L) (i : Nat) {x y : Pk} (h1 : x.to = y.to) (h2 : x.b = y.b) : Same (P.set i x) (L.set i y) := by
  unfold Same at *
  rw [List.map_set, List.map_set, h, h1, h2]
theorem Same.tos (h : Same P L) : P.map Pk.to = L.map Pk.to := by
  have := congrArg (List.map Prod.fst) h
  simpa [List.map_map, Function.comp_def] using this
end
section
variable {w0 w w' : World} {g nn cn nn' cn' n c n' c' : Nat} {An An' A A' : Option Addr} {P P' L L' : List Pk}
theorem Play.start (h : NetS w g none 0 0 []) (hu : Upd [] (fpN g none []) w0 w) : Play w0 w g none 0 0 [] none 0 0 [] :=
  ⟨h, ⟨rfl, Rd.none_⟩, Nat.le_refl _, by simp, fun h => absurd h (by omega), by simp, by simp, by simp, hu⟩
/-- The net turns. -/
theorem Play.turn (h : Play w0 w g An nn cn P A n c L) (hn : NetS w' g An' nn' cn' P') (hu : Upd (fpN g An P) (fpN g An' P') w w') : Play w0 w' g An' nn' cn' P' A n c L :=
  ⟨hn, ⟨h.ref.len, h.ref.rd.updx hu h.far⟩, h.cap, fun x hx => Rd.updx (h.each x hx) hu (h.fars x hx), h.far.turn h.ref.rd (by omega) hu, fun x hx => (h.fars x hx).turn (h.each x hx) (by omega) hu, h.sites, h.bytes, h.upd.trans hu⟩
/-- Memory is made. -/
theorem Play.made {b : List Nat} (h : Play w0 w g An nn cn P A n c L) (hu : Upd [] b w w') : Play w0 w' g An nn cn P A n c L :=
  h.turn (h.net.upd0 hu) (hu.mono (by simp) (fun k hk => .inr (.inl hk)))
/-- The document's list is another. -/
theorem Play.list {b : List Nat} (h : Play w0 w g An nn cn P A n c L) (hu : Upd [] b w w') (hr : RdS Pk.cells 2 w' A' n' L') (hc : n' ≤ c') (hA : ∀ k ∈ ablk A', k ∈ b)
    (he : ∀ x ∈ L', x ∈ L ∨ (RdB w' x.A x.n x.b ∧ Apart (fpN g An P) x.A x.n ∧ siteB x.to = true ∧ x.b.length ≤ 140737488355328)) : Play w0 w' g An nn cn P A' n' c' L' := by
  have h' := h.made hu
  refine ⟨h'.net, hr, hc, fun x hx => ?_, Apart.fresh h.net.lt hu hA, fun x hx => ?_, fun x hx => ?_, fun x hx => ?_, h'.upd⟩
  · rcases he x hx with h1 | h1
    · exact h'.each x h1
    · exact h1.1
  · rcases he x hx with h1 | h1
    · exact h'.fars x h1
    · exact h1.2.1
  · rcases he x hx with h1 | h1
    · exact h'.sites x h1
    · exact h1.2.2.1
  · rcases he x hx with h1 | h1
    · exact h'.bytes x h1
    · exact h1.2.2.2
/-- What came in lies apart from the net. -/
theorem Play.inn (h : Play w0 w g An nn cn P A n c L) {B : Option Addr} {m size : Nat} {xs : List Value} (hs : 0 < size) (hB : Rd w0 size B m xs) : Rd w size B m xs ∧ Apart (fpN g An P) B m := by
  refine ⟨hB.updx h.upd (fun _ => by simp), fun hm k hk hf => ?_⟩
  rcases h.upd.fresh k hf with h1 | h1
  · cases h1
  · have := hB.ltx hs hm k hk; omega
end
end Go.Proofs.Ytlkgmedkphcjpaa
