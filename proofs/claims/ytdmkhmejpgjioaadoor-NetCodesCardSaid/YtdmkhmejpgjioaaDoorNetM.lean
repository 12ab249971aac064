/- A net: (agio/net).New, there, Len, Send. -/
import Derived.Test.YtdmkhmejpgjioaaDoorNetL
set_option linter.all false
namespace Go.Proofs.YtdmkhmejpgjioaaDoor
open Go.RowKit Agio

/-- The blocks of a net. -/
def fpN (g : Nat) (A : Option Addr) (l : List Pk) : List Nat := g :: (ablk A ++ l.flatMap fun x => ablk x.A)
/-- A net. -/
structure NetS (w : World) (g : Nat) (A : Option Addr) (n c : Nat) (l : List Pk) : Prop where
  blk : Blk w g 160 #[.slice A n c]
  row : PkL w A n c l
  each : ∀ x ∈ l, OwnB 5 w x.A x.n x.c x.b
  far : l.Pairwise fun x y => ∀ k ∈ ablk x.A, k ∉ ablk y.A
  le : l.length ≤ 4096
section
variable {w w' : World} {g : Nat} {A : Option Addr} {n c : Nat} {l : List Pk}
theorem NetS.upd {a b : List Nat} (h : NetS w g A n c l) (hu : Upd a b w w') (hd : ∀ k ∈ fpN g A l, k ∉ a) : NetS w' g A n c l :=
  ⟨h.blk.upd hu (hd g (by simp [fpN])), h.row.upd hu (fun k hk => hd k (by simp [fpN, hk])), fun x hx => (h.each x hx).upd hu (fun k hk => hd k (by simp only [fpN, List.mem_cons, List.mem_append, List.mem_flatMap]; exact .inr (.inr ⟨x, hx, hk⟩))), h.far, h.le⟩
theorem NetS.upd0 {b : List Nat} (h : NetS w g A n c l) (hu : Upd [] b w w') : NetS w' g A n c l := h.upd hu (by simp)
theorem NetS.len (h : NetS w g A n c l) : n = l.length := h.row.len
theorem NetS.lt (h : NetS w g A n c l) : ∀ k ∈ fpN g A l, k < w.heap.size := by
  intro k hk
  simp only [fpN, List.mem_cons, List.mem_append, List.mem_flatMap] at hk
  rcases hk with rfl | hk | ⟨x, hx, hk⟩
  · exact h.blk.lt
  · exact h.row.lt k hk
  · exact (h.each x hx).own.lt k hk
end

set_option maxRecDepth 100000 in
theorem netNew (w : World) : Calls Tryd.prog 52 #[] w fun e w' => ∃ g, e = .returned (.pointer (some ⟨g, 0, none⟩)) ∧ NetS w' g none 0 0 [] ∧ Upd [] (fpN g none []) w w' := by
  go_enter Tryd.func52, Tryd.ntmps52
  repeat' ((fail_if_success (with_reducible refine stop_append rfl ?_)); (fail_if_success (with_reducible refine stop_copy rfl ?_)); first | go_values | go_skip | go_guarded | go_step | go_upon | (simp only []; go_at_K))
  go_ret
  exact ⟨w.heap.size, rfl, ⟨Blk.new _ _ _, (PkL.nil w).alloc _, by simp, .nil, by simp⟩, ((Upd.refl [] w).alloc _).gives (by simp [fpN, ablk])⟩

set_option maxRecDepth 100000 in
theorem netLen (w : World) (g : Nat) (A : Option Addr) (n c : Nat) (l : List Pk) (h : NetS w g A n c l) :
    Calls Tryd.prog 56 #[.pointer (some ⟨g, 0, none⟩)] w fun e w' => e = .returned (.int .i64 (l.length : Int)) ∧ w = w' := by
  obtain rfl := h.len
  have q := h.blk.cell 0
  simp only [List.getElem?_toArray, List.getElem?_cons_zero] at q
  go_enter Tryd.func56, Tryd.ntmps56
  repeat' ((fail_if_success (with_reducible refine stop_append rfl ?_)); (fail_if_success (with_reducible refine stop_copy rfl ?_)); first | go_values | go_skip | go_guarded | go_step | go_upon | (simp only []; go_at_K))
  go_ret
  exact ⟨rfl, rfl⟩

/-- Is there a packet at a place? -/
def thereB (n : Nat) (i : Int) : Bool := decide (0 ≤ i) && decide (i < (n : Int))
set_option maxRecDepth 100000 in
theorem netThere (w : World) (g : Nat) (A : Option Addr) (n c : Nat) (l : List Pk) (h : NetS w g A n c l) (i : Int) :
    Calls Tryd.prog 80 #[.pointer (some ⟨g, 0, none⟩), .int .i64 i] w fun e w' => e = .returned (.bool (thereB l.length i)) ∧ w = w' := by
  obtain rfl := h.len
  have q := h.blk.cell 0
  simp only [List.getElem?_toArray, List.getElem?_cons_zero] at q
  go_enter Tryd.func80, Tryd.ntmps80
  repeat' ((fail_if_success (with_reducible refine stop_append rfl ?_)); (fail_if_success (with_reducible refine stop_copy rfl ?_)); first | go_values | go_skip | go_guarded | go_step | go_upon | (simp only []; go_at_K))
  all_goals go_ret
  all_goals exact ⟨by simp [thereB, *], rfl⟩

/-- A packet more, in memory. -/
theorem NetS.push {w w1 w2 : World} {g : Nat} {A A' : Option Addr} {n c n' c' : Nat} {l : List Pk} {x : Pk} (h : NetS w g A n c l) (hu1 : Upd [] (ablk x.A) w w1) (hx : OwnB 5 w1 x.A x.n x.c x.b)
    (hr : PkL w2 A' n' c' (l ++ [x])) (hu2 : Upd (ablk A) (ablk A') w1 w2) (hl : l.length < 4096) :
    NetS (w2.setCell ⟨g, 0, none⟩ (.slice A' n' c')) g A' n' c' (l ++ [x]) ∧ Upd (fpN g A l) (fpN g A' (l ++ [x])) w (w2.setCell ⟨g, 0, none⟩ (.slice A' n' c')) := by
  have h1 := h.upd0 hu1
  have hgA : g ∉ ablk A := h1.row.ne h1.blk (by decide)
  have hb2 := h1.blk.upd hu2 hgA
  have hgA' : g ∉ ablk A' := hr.ne hb2 (by decide)
  have hset : Upd [g] [g] w2 (w2.setCell ⟨g, 0, none⟩ (.slice A' n' c')) := (Upd.refl _ _).setCell (.inl (by simp)) _
  have hold : ∀ y ∈ l, OwnB 5 w2 y.A y.n y.c y.b := fun y hy => (h1.each y hy).upd hu2 (h1.row.apart (h1.each y hy).own (by decide))
  have hx2 : OwnB 5 w2 x.A x.n x.c x.b := hx.upd hu2 (h1.row.apart hx.own (by decide))
  refine ⟨⟨by simpa using hb2.set_ 0 (.slice A' n' c'), hr.upd hset (fun k hk => by simp; rintro rfl; exact hgA' hk), fun y hy => ?_, ?_, by simp; omega⟩, ?_⟩
  · have hy2 : OwnB 5 w2 y.A y.n y.c y.b := by
      rcases List.mem_append.1 hy with hy | hy
      · exact hold y hy
      · obtain rfl := List.mem_singleton.1 hy; exact hx2
    exact hy2.upd hset (fun k hk => by simp; rintro rfl; exact hy2.own.ne hb2 (by decide) hk)
  · refine List.pairwise_append.2 ⟨h.far, List.pairwise_singleton _ _, fun y hy z hz => ?_⟩
    obtain rfl := List.mem_singleton.1 hz
    intro k hk hm
    have h1 := (h.each y hy).own.lt k hk
    rcases hu1.fresh k hm with h2 | h2
    · cases h2
    · omega
  · have e1 : Upd (fpN g A l) (fpN g A l ++ ablk x.A) w w1 := hu1.mono (by simp) (fun k hk => by
      rcases List.mem_append.1 hk with hk | hk
      · exact .inr (.inl hk)
      · exact .inl hk)
    have e2 : Upd (fpN g A l ++ ablk x.A) (fpN g A' (l ++ [x])) w1 w2 := hu2.mono (fun k hk => by simp [fpN, hk]) (fun k hk => by
      simp only [fpN, List.mem_cons, List.mem_append, List.flatMap_append, List.flatMap_cons, List.flatMap_nil, List.append_nil] at hk
      rcases hk with rfl | hk | hk | hk
      · exact .inr (.inl (by simp [fpN]))
      · exact .inl hk
      · exact .inr (.inl (by simp only [fpN, List.mem_cons, List.mem_append]; exact .inl (.inr (.inr hk))))
      · exact .inr (.inl (by simp only [List.mem_append]; exact .inr hk)))
    exact (e1.trans e2).setCell (.inl (by simp [fpN])) _

/-- What Send and Double tell: an error's number, or the list with one packet more. -/
def Sent (to : Int) (b : List UInt8) (w : World) (g : Nat) (A : Option Addr) (l : List Pk) (e : Ending) (w' : World) : Prop :=
  ∃ A' n' c' x, e = .returned (.int .i64 0) ∧ x.to = to ∧ x.b = b ∧ NetS w' g A' n' c' (l ++ [x]) ∧ Upd (fpN g A l) (fpN g A' (l ++ [x])) w w'

set_option maxRecDepth 100000 in
set_option maxHeartbeats 2000000 in
theorem netSend_site (w : World) (g : Nat) (to : Int) (B : Option Addr) (m d : Nat) (hs : siteB to = false) :
    Calls Tryd.prog 53 #[.pointer (some ⟨g, 0, none⟩), .int .i64 to, .slice B m d] w fun e w' => e = .returned (.int .i64 1) ∧ w = w' := by
  go_enter Tryd.func53, Tryd.ntmps53
  repeat' ((fail_if_success (with_reducible refine stop_append rfl ?_)); (fail_if_success (with_reducible refine stop_copy rfl ?_)); first | go_values | go_skip | go_guarded | go_step | go_upon | (simp only []; go_at_K))
  ((with_reducible refine (netSite to _).mono ?_); rintro e w1 ⟨rfl, rfl⟩)
  repeat' ((fail_if_success (with_reducible refine stop_append rfl ?_)); (fail_if_success (with_reducible refine stop_copy rfl ?_)); first | go_values | go_skip | go_guarded | go_step | go_upon | (simp only []; go_at_K))
  go_ret
  exact ⟨rfl, rfl⟩
set_option maxRecDepth 100000 in
set_option maxHeartbeats 2000000 in
theorem netSend_full (w : World) (g : Nat) (A : Option Addr) (n c : Nat) (l : List Pk) (h : NetS w g A n c l) (to : Int) (B : Option Addr) (m d : Nat) (hs : siteB to = true) (hl : 4096 ≤ l.length) :
    Calls Tryd.prog 53 #[.pointer (some ⟨g, 0, none⟩), .int .i64 to, .slice B m d] w fun e w' => e = .returned (.int .i64 5) ∧ w = w' := by
  have hn := h.len
  have hnl : (4096 : Int) ≤ (n : Int) := by omega
  have q := h.blk.cell 0
  simp only [List.getElem?_toArray, List.getElem?_cons_zero] at q
  clear hn hl
  go_enter Tryd.func53, Tryd.ntmps53
  repeat' ((fail_if_success (with_reducible refine stop_append rfl ?_)); (fail_if_success (with_reducible refine stop_copy rfl ?_)); first | go_values | go_skip | go_guarded | go_step | go_upon | (simp only []; go_at_K))
  ((with_reducible refine (netSite to _).mono ?_); rintro e w1 ⟨rfl, rfl⟩)
  repeat' ((fail_if_success (with_reducible refine stop_append rfl ?_)); (fail_if_success (with_reducible refine stop_copy rfl ?_)); first | go_values | go_skip | go_guarded | go_step | go_upon | (simp only []; go_at_K))
  go_ret
  exact ⟨rfl, rfl⟩
set_option maxRecDepth 100000 in
set_option maxHeartbeats 2000000 in
theorem netSend (w : World) (g : Nat) (A : Option Addr) (n c : Nat) (l : List Pk) (h : NetS w g A n c l) (to : Int) (B : Option Addr) (m d : Nat) (b : List UInt8) (hB : RdB w B m b) (hb : b.length ≤ 140737488355328) (hs : siteB to = true) (hl : l.length < 4096) :
    Calls Tryd.prog 53 #[.pointer (some ⟨g, 0, none⟩), .int .i64 to, .slice B m d] w (Sent to b w g A l) := by
  have hn := h.len
  have hnl : (n : Int) < 4096 := by omega
  have q := h.blk.cell 0
  have q' : w.drew.cell? ⟨g, 0, none⟩ = some (.slice A n c) := q
  simp only [List.getElem?_toArray, List.getElem?_cons_zero] at q
  have hBd : RdB w.drew B m b := Rd.drew hB
  have hd := h.upd0 (Upd.refl [] w).drew
  clear hn
  go_enter Tryd.func53, Tryd.ntmps53
  repeat' ((fail_if_success (with_reducible refine stop_append rfl ?_)); (fail_if_success (with_reducible refine stop_copy rfl ?_)); first | go_values | go_skip | go_guarded | go_step | go_upon | (simp only []; go_at_K))
  ((with_reducible refine (netSite to _).mono ?_); rintro e w1 ⟨rfl, rfl⟩)
  repeat' ((fail_if_success (with_reducible refine stop_append rfl ?_)); (fail_if_success (with_reducible refine stop_copy rfl ?_)); first | go_values | go_skip | go_guarded | go_step | go_upon | (simp only []; go_at_K))
  go_region_law (first
    | (go_simp; go_at_call 72; (with_reducible refine (bytesClone _ B m d b hBd hb).mono ?_); rintro e w2 ⟨A2, k2, c2, rfl, ho2, hu2⟩; have q2 := hu2.cell q' (by simp); have h2 := hd.upd0 hu2; have hgl := h2.blk.lt)
    | (obtain ⟨A3, c3, w3, hrun, hr3, hu3⟩ := (h2.row.alloc (.cells #[.int .i64 to, .slice A2 k2 c2] 163)).push ⟨to, A2, k2, c2, b⟩ w2.heap.size 1 1 (Blk.new _ _ _) (by omega) 158; have hb3 := (h2.blk.alloc (.cells #[.int .i64 to, .slice A2 k2 c2] 163)).upd hu3 (h2.row.ne h2.blk (by decide)); obtain ⟨q3, f3⟩ := hb3.c1; refine step_run rfl (.tmp 22) (.tmp 27) 158 rfl (.slice A n c) (.slice (some ⟨w2.heap.size, 0, none⟩) 1 1) _ w3 rfl rfl hrun ?_))
  all_goals (repeat' ((fail_if_success (with_reducible refine stop_append rfl ?_)); (fail_if_success (with_reducible refine stop_copy rfl ?_)); first | go_values | go_skip | go_guarded | go_step | go_upon | (simp only []; go_at_K)))
  all_goals go_ret
  all_goals
    have P := h.push (x := ⟨to, A2, k2, c2, b⟩) ((Upd.refl [] w).drew.trans hu2) ho2 hr3 (((Upd.refl (ablk A) w2).alloc _).trans hu3) hl
    exact ⟨A3, _, c3, _, rfl, rfl, rfl, P.1, P.2⟩
end Go.Proofs.YtdmkhmejpgjioaaDoor
