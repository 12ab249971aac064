/- Layer 24: agiolaw24.WorldOrder. -/
import Derived.Test.YtijhlbeipglieaaGreatPkWrldL
import Derived.Test.YtijhlbeipglieaaGreatRef12
namespace Go.Proofs.YtijhlbeipglieaaGreat
open Go.RowKit Agio Go.Maps

theorem OwnS.turn {w w' : World} {A : Option Addr} {c : Nat} {l : List Bsl} {a b : List Nat} (h : OwnS w A c l) (hu : Upd a b w w') (h1 : ∀ k ∈ ablk A, k ∉ a) (h2 : ∀ x ∈ l, ∀ k ∈ ablk x.A, k ∉ a) : OwnS w' A c l :=
  ⟨h.own.upd hu h1, fun x hx => (h.each x hx).upd hu (h2 x hx)⟩
def DoneP (G : Int → List Rc) (k : Nat) (d : List (List UInt8)) : Prop := ∃ (f : Nat → List UInt8) (t : Nat), d = valsF f t ∧ ∀ x, x < t → Dec G k (x : Int) (f x)
theorem DoneP.meet {G : Int → List Rc} {k : Nat} {P : Int → List UInt8 → Prop} (hG : Glob G k P) {d e : List (List UInt8)} (hd : DoneP G k d) (he : DoneP G k e) : d.take (min d.length e.length) = e.take (min d.length e.length) := by
  obtain ⟨f, t, rfl, h2⟩ := hd
  obtain ⟨g, u, rfl, h4⟩ := he
  exact valsF_meet fun x h5 h6 => hG.agree (h2 x h5) (h4 x h6)
theorem _root_.Agio.WInv.doneP {w : Wd} {n c : Nat} {P : Int → List UInt8 → Prop} {G : Int → List Rc} (h : WInv w n P c G) (hD : DInv w) {i : Nat} (hi : i < w.ss.length) : DoneP G n (w.done.getD i []) := by
  obtain ⟨d, h1, h2⟩ := hD.one i w.ss[i] (List.getElem?_eq_getElem hi)
  rw [List.getD_eq_getElem?_getD, h1]
  refine ⟨w.ss[i].val, w.ss[i].taken, h2.eq, fun x hx => ?_⟩
  obtain ⟨v, hv⟩ := h2.all x hx
  have e : w.ss[i].val x = v := by unfold Site.val; rw [hv]; rfl
  rw [e]
  exact h.dec (List.getElem?_eq_getElem hi) hv
structure OrS (w wr : World) (V : WV) (k i : Nat) (A : Option Addr) (c : Nat) (all : List Bsl) : Prop where
  ws : WS wr V
  inv : ∃ G, WInv V.pl k (fun _ _ => True) (300 * (150 - i)) G ∧ DoneP G k (all.map Bsl.b)
  din : DInv V.pl
  own : OwnS wr A c all
  far : (∀ q ∈ ablk A, q ∉ V.fp) ∧ ∀ x ∈ all, ∀ q ∈ ablk x.A, q ∉ V.fp
  up : Upd [] V.fp w wr
namespace OrS
variable {w wr w' : World} {V V' : WV} {k i : Nat} {A A' : Option Addr} {c c' : Nat} {all l : List Bsl}
theorem len (h : OrS w wr V k i A c all) : V.pl.ss.length = k := by
  obtain ⟨G, h1, -⟩ := h.inv
  exact h1.len
theorem turn (h : OrS w wr V k i A c all) {j : Nat} (hw : WS w' V') (hu : Upd V.fp V'.fp wr w') (hi : ∃ G, WInv V'.pl k (fun _ _ => True) (300 * (150 - j)) G ∧ DoneP G k (all.map Bsl.b)) (hd : DInv V'.pl) : OrS w w' V' k j A c all :=
  ⟨hw, hi, hd, h.own.turn hu h.far.1 h.far.2, ⟨fun q hq => hu.notin (h.far.1 q hq) (h.own.own.lt q hq), fun x hx q hq => hu.notin (h.far.2 x hx q hq) ((h.own.each x hx).own.lt q hq)⟩, h.up.trans hu⟩
theorem done (h : OrS w wr V k i A c all) {s : Nat} (hs : s < k) (hl : l.map Bsl.b = (V.pl.take s).done.getD s []) (ho : OwnS w' A' c' l) (hf : (∀ q ∈ ablk A', q ∉ V'.fp) ∧ ∀ x ∈ l, ∀ q ∈ ablk x.A, q ∉ V'.fp) (hw : WS w' V') (hp : V'.pl = V.pl.take s) (hu : Upd V.fp V'.fp wr w') :
    OrS w w' V' k i A c all ∧ OrS w w' V' k i A' c' l ∧ l.length ≤ 4096 ∧ (l.map Bsl.b).take (min l.length all.length) = (all.map Bsl.b).take (min l.length all.length) := by
  obtain ⟨G, h1, h2⟩ := h.inv
  have h3 := h1.take s
  have hd := h.din.take s
  rw [← hp] at h3 hd hl
  have hsl : s < V'.pl.ss.length := by rw [h3.len]; exact hs
  have h4 := h3.doneP hd hsl
  rw [← hl] at h4
  have k1 := h.turn hw hu ⟨G, h3, h2⟩ hd
  have hlen : l.length ≤ 4096 := by
    obtain ⟨d, e1, e2⟩ := hd.one s _ (List.getElem?_eq_getElem hsl)
    have e3 := congrArg List.length hl
    rw [List.length_map, List.getD_eq_getElem?_getD, e1, Option.getD_some] at e3
    have e4 := e2.len
    have hsV : s < V'.ss.length := by unfold WV.pl at hsl; simpa using hsl
    have e5 : V'.pl.ss[s] = V'.ss[s].pl := List.getElem_map _
    rw [e5] at e4
    have e6 : V'.ss[s].taken ≤ 4096 := (@SiteS.lrn ⟨[]⟩ _ _ (hw.sites _ (List.getElem_mem hsV))).t
    have e7 : V'.ss[s].pl.taken = V'.ss[s].taken := rfl
    omega
  refine ⟨k1, ⟨hw, ⟨G, h3, h4⟩, hd, ho, hf, k1.up⟩, hlen, ?_⟩
  have := DoneP.meet h3.glob h4 h2
  rwa [List.length_map, List.length_map] at this
end OrS
end Go.Proofs.YtijhlbeipglieaaGreat
