/- A drawn region whose operations read, and whose callees read or make memory: walked once, in the order of the text (guarded operations and all). -/
import Derived.Test.YtdmmpcdilkcfjaaBase3
import Derived.BigQuiet
import Derived.Deep.Quiet
namespace Go.Proofs.Ytdmmpcdilkcfjaa
open Go.RowKit Agio

/-- A world grown from W: older blocks stand. -/
structure GU (W : World) where
  w : World
  u : Upd [] [] W w
instance (W : World) : Inhabited (GU W) := ⟨⟨W, Upd.refl [] W⟩⟩

theorem quiet_gu {P : Program} {id : Nat} {Q : Exit → Act → World → Prop} {a : Act} {w : World} {l : List Oper} (hm : P.follows .mixedOrders = true) (hB : Region.lexB .any l.toArray = true)
    (h : wpQuiet P l.toArray (fun w' => ∃ p : GU w, w' = p.w) (fun a' => ∀ w', (∃ p : GU w, w' = p.w) → Q .normal a' w') l a) : (Code.region id l.toArray true).wp P Q a w :=
  wp_region_quiet (C := fun w' => ∃ p : GU w, w' = p.w) hm hB ⟨⟨_, (Upd.refl [] w).drew⟩, rfl⟩ (by simpa using h)

theorem GU.call {P : Program} {f : FuncId} {args : Array Value} {w : World} {v : Value} (p : GU w)
    (h : Calls P f args p.w fun e w' => e = .returned v ∧ Upd [] [] p.w w') : Calls P f args p.w fun e w'' => e = .returned v ∧ ∃ q : GU w, w'' = q.w :=
  h.mono fun _ _ ⟨he, hu⟩ => ⟨he, ⟨⟨_, p.u.trans hu⟩, rfl⟩⟩
end Go.Proofs.Ytdmmpcdilkcfjaa
