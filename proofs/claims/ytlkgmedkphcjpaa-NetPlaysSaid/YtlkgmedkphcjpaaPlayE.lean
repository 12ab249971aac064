/- agioref13.Spoil, of a byte that can be turned. -/
import Derived.Test.YtlkgmedkphcjpaaPlayD
import Derived.Test.YtlkgmedkphcjpaaNetP
import Derived.Test.YtlkgmedkphcjpaaNetU
namespace Go.Proofs.Ytlkgmedkphcjpaa
open Go.RowKit Agio

/-- A cell of a slice of its own is written. -/
theorem _root_.Agio.Own.put {e : TypeId} {size : Nat} {w : World} {A : Option Addr} {n c : Nat} {xs : List Value} (h : Own e size w A n c xs) {k : Nat} (hk : k < n * size) (v : Value) :
    ∃ g, A = some ⟨g, 0, none⟩ ∧ w.frozen? ⟨g, k, none⟩ = false ∧ Own e size (w.setCell ⟨g, k, none⟩ v) A n c (xs.set k v) := by
  rcases h.2 with ⟨_, hn⟩ | ⟨g, cap, cur, hv, hb, hg, hnc, hcm, hcs, htk⟩
  · subst hn; simp at hk
  · injection hv with hA _ hc
    subst hA hc
    have hB : Blk w g e cur := hg
    have h' := hB.set_ k v
    refine ⟨g, rfl, hB.frozen k, by rw [List.length_set]; exact h.len, .inr ⟨g, c, _, rfl, hb, h', hnc, hcm, by simpa using hcs, ?_⟩⟩
    rw [Array.toList_setIfInBounds, List.take_set, htk]

/-- The packet's bytes are elsewhere. -/
def Pk.at_ (x : Pk) (B : Option Addr) (m d : Nat) (b : List UInt8) : Pk := ⟨x.to, B, m, d, b⟩
theorem flat_set (l : List Pk) {i : Nat} (hi : i < l.length) (B : Option Addr) (m d : Nat) (b : List UInt8) :
    (l.flatMap Pk.cells).set (i * 2 + 1) (.slice B m d) = (l.set i (l[i].at_ B m d b)).flatMap Pk.cells := by
  induction l generalizing i with
  | nil => simp at hi
  | cons y l ih =>
    cases i with
    | zero => simp [Pk.cells, Pk.at_]
    | succ i =>
      have hi' : i < l.length := by simpa using hi
      have := ih hi'
      rw [List.flatMap_cons, show (i + 1) * 2 + 1 = (i * 2 + 1) + 2 by omega]
      simp only [List.getElem_cons_succ, List.set_cons_succ, List.flatMap_cons, ← this]
      simp [Pk.cells]

/-- What the document's Spoil tells. -/
def Spoilt (x : Pk) (i : Nat) (k : Nat) (v : UInt8) (l : List Pk) (w : World) (e : Ending) (w' : World) : Prop :=
  ∃ A' n' c' B m d, e = .returned (.tuple #[.slice A' n' c', .int .i64 0]) ∧ Own 37 2 w' A' n' c' ((l.set i (x.at_ B m d (x.b.set k v))).flatMap Pk.cells) ∧ n' = l.length ∧
    OwnB 5 w' B m d (x.b.set k v) ∧ Upd [] (ablk A' ++ ablk B) w w'

set_option maxRecDepth 100000 in
set_option maxHeartbeats 4000000 in
theorem refSpoil (w : World) (A : Option Addr) (n c : Nat) (l : List Pk) (h : RdS Pk.cells 2 w A n l) (i : Nat) (hi : i < l.length) (hl : l.length ≤ 5000) (x : Pk) (hx : l[i] = x) (hb : RdB w x.A x.n x.b) (hbl : x.b.length ≤ 140737488355328) (k : Nat) (y : UInt8) (hy : x.b[k]? = some y) (v : UInt8) (hv : v ≠ 0) :
    Calls Try.prog 21 #[.slice A n c, .int .i64 (i : Int), .int .i64 (k : Int), .int .u8 (v.toNat : Int)] w (Spoilt x i k (y ^^^ v) l w) := by
  have hk : k < x.b.length := (List.getElem?_eq_some_iff.1 hy).1
  have hn := h.len
  have hxn := hb.len
  have hin : (i : Int) < (n : Int) := by omega
  have hkn : (k : Int) < (x.n : Int) := by omega
  have ht : thereB n (i : Int) = true := by unfold thereB; simp; omega
  have C := refHas w A n c (i : Int)
  rw [ht] at C
  obtain ⟨ad, rfl, p0', p1'⟩ := RdS.at_ Pk.cells_len h hi
  rw [hx] at p0' p1'
  have p0 := p0' _ rfl
  have p1 := p1' 1 _ (by omega) rfl
  have hv0 : ((v.toNat : Int) == 0) = false := by
    simp only [beq_eq_false_iff_ne, ne_eq]
    intro h0
    exact hv (UInt8.toNat_inj.1 (by simpa using h0))
  have HK := Lib.hid hk
  have HN := Lib.hid hn
  have HX := Lib.hid hxn
  have HI := Lib.hid hi
  have HL := Lib.hid hl
  have HB := Lib.hid hbl
  have HY := Lib.hid hy
  have hx' : l[i]? = some x := by rw [List.getElem?_eq_getElem hi, hx]
  have HZ := Lib.hid hx'
  clear ht p0' p1' hv hk hn hxn hl hbl hx hx' hi hy
  go_enter Try.func21, Try.ntmps21
  repeat' ((fail_if_success (with_reducible refine stop_append rfl ?_)); (fail_if_success (with_reducible refine stop_copy rfl ?_)); first | go_values | go_skip | go_guarded | go_step | go_upon | (simp only []; go_at_K))
  ((with_reducible refine C.mono ?_); rintro e w1 ⟨rfl, rfl⟩)
  repeat' ((fail_if_success (with_reducible refine stop_append rfl ?_)); (fail_if_success (with_reducible refine stop_copy rfl ?_)); first | go_values | go_skip | go_guarded | go_step | go_upon | (simp only []; go_at_K))
  clear C
  refine wpList_app _ rfl _ _ 26 rfl 37 Try.underlying26 infoPk2 rfl (by decide) (Own.made 37 2 w) rfl (h.rd.alloc _) rfl (Pk.one l) (by have := HN.out; have := HL.out; unfold maxLen; omega) (by have := HN.out; have := HL.out; omega) ?_
  intro A1 c1 w1 ho1 hu1
  rw [Nat.zero_add] at ho1
  have U1 : Upd [] (ablk A1) w w1 := (((Upd.refl [] w).alloc (.cells #[] 37)).gives (b' := ablk (some ⟨w.heap.size, 0, none⟩)) (by intro k hk; simp [ablk] at hk; subst hk; exact .inr (Nat.le_refl _))).trans hu1
  have hb1 : RdB w1 x.A x.n x.b := hb.upd U1 (by simp)
  have p1a := (U1.alloc (.cells #[] 5)).cell p1 (by simp)
  clear hu1 hb p0 p1
  repeat' ((fail_if_success (with_reducible refine stop_append rfl ?_)); (fail_if_success (with_reducible refine stop_copy rfl ?_)); first | go_values | go_skip | go_guarded | go_step | go_upon | (simp only []; go_at_K))
  have O2 := OwnB.made 5 w1
  refine wpList_appB rfl _ _ 27 rfl 5 Try.underlying27 infoU8 O2 rfl (hb1.alloc _) rfl (by have := HB.out; simp; omega) ?_
  intro B m2 d w2 ho2 hu2
  simp only [List.nil_append] at ho1 ho2
  have U2 : Upd [] (ablk B) w1 w2 := (((Upd.refl [] w1).alloc (.cells #[] 5)).gives (b' := ablk (some ⟨w1.heap.size, 0, none⟩)) (by intro k hk; simp [ablk] at hk; subst hk; exact .inr (Nat.le_refl _))).trans hu2
  have UU : Upd [] (ablk A1 ++ ablk B) w w2 := U1.trans (U2.mono (by simp) (fun k hk => by
    rcases List.mem_append.1 hk with h1 | h1
    · exact .inr (.inl h1)
    · exact .inl h1))
  have ho3 : Own 37 2 w2 A1 n c1 (l.flatMap Pk.cells) := ho1.upd U2 (by simp)
  have hm2 : m2 = x.b.length := ho2.len
  have hkm : (k : Int) < (m2 : Int) := by have := HK.out; omega
  obtain ⟨gB, rfl, hf, ho4⟩ := ho2.put (k := k) (by omega) (y ^^^ v)
  have hmd : (k : Int) < (d : Int) := by have := ho2.own.cap.1; omega
  have hcB : w2.cell? ⟨gB, k, none⟩ = some (.int .u8 (y.toNat : Int)) := by
    obtain ⟨a, ha, hcc⟩ := ho2.rd.2 (by omega)
    injection ha with ha
    subst ha
    have hy' := HY.out
    have := hcc k (B8 y) (by simp [b8s, hy'])
    rw [show (⟨gB, 0, none⟩ : Addr).add k = ⟨gB, k, none⟩ by cases k <;> simp [Addr.add]] at this
    exact this
  have hxor : bits .xor .u8 (y.toNat : Int) (v.toNat : Int) = (((y ^^^ v).toNat : Nat) : Int) := by
    rw [u8_xor_nat _ _ y.toNat_lt v.toNat_lt]; simp
  have U3 : Upd [] (ablk A1 ++ ablk (some ⟨gB, 0, none⟩)) w (w2.setCell ⟨gB, k, none⟩ (B8 (y ^^^ v))) := by
    refine UU.setCell ?_ _
    rcases UU.fresh gB (by simp [ablk]) with h1 | h1
    · cases h1
    · exact .inr h1
  have hne := Own.disj ho3 ho2.own (by decide)
  have hS3 : Upd [gB] [gB] w2 (w2.setCell ⟨gB, k, none⟩ (B8 (y ^^^ v))) := (Upd.refl _ _).setCell (.inl (by simp)) _
  have ho5 := ho3.upd hS3 (fun q hq => by simp; rintro rfl; exact hne _ hq (by simp [ablk]))
  rw [show B8 (y ^^^ v) = .int .u8 ((y ^^^ v).toNat : Int) from rfl] at ho4 U3 ho5
  obtain ⟨gA, hA1, hfA, hoA⟩ := ho5.put (k := i * 2 + 1) (by have := HN.out; have := HI.out; omega) (.slice (some ⟨gB, 0, none⟩) m2 d)
  have hgne : gA ≠ gB := fun e => hne gA (by rw [hA1]; simp [ablk]) (by simp [ablk, e])
  obtain ⟨ad1, had⟩ : ∃ ad1 : Addr, ad1 = ⟨gA, 0, none⟩ := ⟨_, rfl⟩
  rw [← had] at hA1
  have hp : (⟨(ad1.add (i * 2)).block, (ad1.add (i * 2)).off + 1, none⟩ : Addr) = ⟨gA, i * 2 + 1, none⟩ := by
    subst had
    unfold Addr.add
    split <;> simp <;> omega
  obtain ⟨gA', hA1', hfA2, -⟩ := ho3.put (k := i * 2 + 1) (by have := HN.out; have := HI.out; omega) (.slice (some ⟨gB, 0, none⟩) m2 d)
  rw [show gA' = gA by rw [hA1, had] at hA1'; injection hA1' with e; injection e with e; exact e.symm, ← hp] at hfA2
  clear hA1'
  rw [← hp] at hfA hoA
  subst hA1
  obtain ⟨u9, hcA⟩ : ∃ u, (w2.setCell ⟨gB, k, none⟩ (.int .u8 ((y ^^^ v).toNat : Int))).cell? ⟨(ad1.add (i * 2)).block, (ad1.add (i * 2)).off + 1, none⟩ = some u := by
    obtain ⟨ad9, h9, -, p9⟩ := RdS.at_ Pk.cells_len (⟨HN.out, ho5.rd⟩ : RdS Pk.cells 2 _ _ n l) HI.out
    injection h9 with h9
    subst h9
    exact ⟨_, p9 1 _ (by omega) rfl⟩
  have hnc : (n : Int) ≤ (c1 : Int) := by have := ho3.cap.1; omega
  have hin' : (i : Int) < (c1 : Int) := by omega
  have HO := Lib.hid hoA
  have HP := Lib.hid hp
  have HA := Lib.hid had
  have HM := Lib.hid hm2
  clear hoA hp had hm2 ho3 ho5 ho1 hb1 p1a O2 hu2 U2 UU U1 hS3 hne h
  generalize (y ^^^ v).toNat = z at *
  generalize y.toNat = y0 at *
  generalize v.toNat = v0 at *
  repeat' ((fail_if_success (with_reducible refine stop_append rfl ?_)); (fail_if_success (with_reducible refine stop_copy rfl ?_)); first | go_values | go_skip | go_guarded | go_step | go_upon | (simp only []; go_at_K))
  go_ret2
  have hi := HI.out
  have hx : l[i] = x := by have := HZ.out; rw [List.getElem?_eq_getElem hi] at this; injection this
  have hO := HO.out
  rw [flat_set l hi _ _ _ (x.b.set k (y ^^^ v)), hx] at hO
  have hpp := HP.out
  have hgA : ∀ (W : World) (u : Value), Upd [gA] [gA] W (W.setCell ⟨(ad1.add (i * 2)).block, (ad1.add (i * 2)).off + 1, none⟩ u) := fun W u => by rw [hpp]; exact (Upd.refl _ _).setCell (.inl (by simp)) _
  refine ⟨some ad1, n, c1, some ⟨gB, 0, none⟩, m2, d, rfl, hO, HN.out, ho4.upd (hgA _ _) (fun q hq => by simp [ablk] at hq; subst hq; simp; exact fun e => hgne e.symm), ?_⟩
  refine U3.setCell ?_ _
  rw [hpp]
  rcases U3.fresh gA (by rw [HA.out]; simp [ablk]) with h1 | h1
  · cases h1
  · exact .inr h1
end Go.Proofs.Ytlkgmedkphcjpaa
