/- Merged: Made, Ref08, Decides. -/
import Derived.Test.YtijhlbeipglieaaPkSiteP
import Derived.Test.YtijhlbeipglieaaPkSiteI
import Derived.Test.YtijhlbeipglieaaPkBase
import Derived.BigQuiet
import Derived.Test.YtijhlbeipglieaaPkSiteQ
/- Layer 23: agiolaw23's made, a site of some. -/
namespace Go.Proofs.Ytijhlbeipglieaa
open Go.RowKit Agio Go.Maps

def cntN (n : Nat) : Nat := 3 + n % 5
set_option maxRecDepth 100000 in
set_option maxHeartbeats 1000000 in
theorem siteMade (w : World) (a b : Nat) (ha : a < 256) (hb : b < 256) :
    Calls Try.prog 5 #[.int .u8 (a : Int), .int .u8 (b : Int)] w fun e w' => ∃ M : SiteV, e = .returned M.ptr ∧ SiteS w' M ∧ M.pl = Site.new (a % cntN b) (cntN b) 3 ∧ Upd [] M.fp w w' := by
  obtain ⟨k, hk⟩ : ∃ k, cntN b = k := ⟨_, rfl⟩
  have hk3 : 3 ≤ k ∧ k ≤ 7 := by unfold cntN at hk; omega
  obtain ⟨r, hr⟩ : ∃ r, a % k = r := ⟨_, rfl⟩
  have hrk : r < k := by rw [← hr]; exact Nat.mod_lt _ (by omega)
  obtain ⟨q, hq⟩ : ∃ q, b % 5 = q := ⟨_, rfl⟩
  have hkq : k = 3 + q := by rw [← hk, ← hq]; rfl
  have e1 : (b : Int).tmod 5 = (q : Int) := by rw [← hq]; rfl
  have e2 : IntKind.u8.wrap (q : Int) = (q : Int) := by rw [IntKind.wrap_u8]; omega
  have e3 : IntKind.i64.wrap (q : Int) = (q : Int) := by rw [IntKind.wrap_i64]; omega
  have e4 : IntKind.i64.wrap (3 + (q : Int)) = (k : Int) := by rw [IntKind.wrap_i64]; omega
  have e5 : IntKind.i64.wrap (a : Int) = (a : Int) := by rw [IntKind.wrap_i64]; omega
  have e6 : (a : Int).tmod (k : Int) = (r : Int) := by rw [← hr]; rfl
  have e7 : IntKind.i64.wrap (r : Int) = (r : Int) := by rw [IntKind.wrap_i64]; omega
  have hk0 : ((k : Int) == 0) = false := beq_false_of_ne (by omega)
  have hk1 : ((k : Int) == -1) = false := beq_false_of_ne (by omega)
  have C := siteNew w r k 3 (by simp only [newOk, Bool.and_eq_true, decide_eq_true_eq]; omega)
  rw [hk, hr]
  rw [show ((3 : Nat) : Int) = 3 from rfl] at C
  have HK := Lib.hid hkq
  clear hk hr hq hkq
  go_enter Try.func5, Try.ntmps5
  repeat' ((fail_if_success (with_reducible refine stop_append rfl ?_)); (fail_if_success (with_reducible refine stop_copy rfl ?_)); first | go_values | go_skip | go_guarded | go_step | go_upon | (simp only []; go_at_K))
  ((with_reducible refine C.mono ?_); rintro e w1 ⟨M, rfl, h1, hp, u⟩)
  simp only [SiteV.ptr]
  repeat' ((fail_if_success (with_reducible refine stop_append rfl ?_)); (fail_if_success (with_reducible refine stop_copy rfl ?_)); first | go_values | go_skip | go_guarded | go_step | go_upon | (simp only []; go_at_K))
  go_ret
  exact ⟨M, rfl, h1, hp, u⟩
end Go.Proofs.Ytijhlbeipglieaa

/- Layer 8, the document's: Site, Major, Count, Most. -/
namespace Go.Proofs.Ytijhlbeipglieaa
open Go.RowKit Agio Go.Maps

set_option maxRecDepth 100000 in
theorem ref08Site (w : World) (s n : Int) : Calls Try.prog 43 #[.int .i64 s, .int .i64 n] w fun e w' => e = .returned (.bool (isSite s n)) ∧ w = w' := by
  unfold isSite
  go_enter Try.func43, Try.ntmps43
  by_cases h : 0 ≤ s
  · have d1 : decide (0 ≤ s) = true := decide_eq_true h
    rw [d1]
    repeat' ((fail_if_success (with_reducible refine stop_append rfl ?_)); (fail_if_success (with_reducible refine stop_copy rfl ?_)); first | go_values | go_skip | go_guarded | go_step | go_upon | (simp only []; go_at_K))
    go_ret
    exact ⟨rfl, rfl⟩
  · have d1 : decide (0 ≤ s) = false := decide_eq_false h
    rw [d1]
    repeat' ((fail_if_success (with_reducible refine stop_append rfl ?_)); (fail_if_success (with_reducible refine stop_copy rfl ?_)); first | go_values | go_skip | go_guarded | go_step | go_upon | (simp only []; go_at_K))
    go_ret
    exact ⟨rfl, rfl⟩
set_option maxRecDepth 100000 in
theorem ref08Major (w : World) (n : Nat) (hn : n ≤ 1000) : Calls Try.prog 26 #[.int .i64 (n : Int)] w fun e w' => e = .returned (.int .i64 (majorI n)) ∧ w = w' := by
  have HM := Lib.hid (majorI.eq_def n)
  by_cases h : (n : Int) < 1
  · have d1 : decide ((n : Int) < 1) = true := decide_eq_true h
    go_enter Try.func26, Try.ntmps26
    repeat' ((fail_if_success (with_reducible refine stop_append rfl ?_)); (fail_if_success (with_reducible refine stop_copy rfl ?_)); first | go_values | go_skip | go_guarded | go_step | go_upon | (simp only []; go_at_K))
    go_ret
    exact ⟨by rw [HM.out, if_pos h]; rfl, rfl⟩
  · have d1 : decide ((n : Int) < 1) = false := decide_eq_false h
    have e1 : (n : Int).tdiv 2 = (n : Int) / 2 := Int.tdiv_eq_ediv_of_nonneg (by omega)
    have w1 : IntKind.i64.wrap ((n : Int) / 2) = (n : Int) / 2 := by rw [IntKind.wrap_i64]; omega
    have w2 : IntKind.i64.wrap ((n : Int) / 2 + 1) = (n : Int) / 2 + 1 := by rw [IntKind.wrap_i64]; omega
    go_enter Try.func26, Try.ntmps26
    repeat' ((fail_if_success (with_reducible refine stop_append rfl ?_)); (fail_if_success (with_reducible refine stop_copy rfl ?_)); first | go_values | go_skip | go_guarded | go_step | go_upon | (simp only []; go_at_K))
    go_ret
    exact ⟨by rw [HM.out, if_neg h]; rfl, rfl⟩

theorem take_mem {l : List Int} {k : Nat} (h : k < l.length) (x : Int) : decide (x ∈ l.take (k + 1)) = (decide (x ∈ l.take k) || decide (l[k] = x)) := by
  rw [List.take_succ_eq_append_getElem h]
  simp only [List.mem_append, List.mem_singleton]
  by_cases h1 : x ∈ l.take k <;> by_cases h2 : l[k] = x <;> simp [h1, h2, eq_comm]
  · exact fun h3 => h2 h3.symm
set_option maxRecDepth 100000 in
set_option maxHeartbeats 4000000 in
theorem ref08Count (w : World) (A : Option Addr) (c : Nat) (l : List Int) (n : Int) (ha : Rd w 1 A l.length (l.map (Value.int .i64))) (hl : l.length ≤ 1000000) :
    Calls Try.prog 25 #[.slice A l.length c, .int .i64 n] w fun e w' => e = .returned (.int .i64 ((voters l n).length : Int)) ∧ Upd [] [] w w' := by
  have hcn : ∀ i, countG l n i ≤ i := by
    intro i
    induction i with
    | zero => simp [countG]
    | succ i ih => unfold countG; split <;> omega
  have HV := Lib.hid (countG_voters l n l.length (Nat.le_refl _))
  have HC := Lib.hid hcn
  clear hcn
  go_enter Try.func25, Try.ntmps25
  repeat' ((fail_if_success (with_reducible refine stop_append rfl ?_)); (fail_if_success (with_reducible refine stop_copy rfl ?_)); first | go_values | go_skip | go_guarded | go_step | go_upon | (simp only []; go_at_K))
  go_loopw [5, 6] (fun v5 v6 wr => ∃ i : Nat, i ≤ l.length ∧ v6 = .int .i64 (i : Int) ∧ v5 = .int .i64 (countG l n i : Int) ∧ Upd [] [] w wr) (fun _ v6 _ => l.length - (intOf v6).toNat)
  case atStart => exact ⟨0, by omega, rfl, rfl, Upd.refl _ _⟩
  case round =>
    obtain ⟨i, hi, rfl, rfl, U⟩ := hrel
    by_cases hlt : i < l.length
    · have hil : (i : Int) < (l.length : Int) := by omega
      have hw1 : IntKind.i64.wrap ((i : Int) + 1) = (i : Int) + 1 := by rw [IntKind.wrap_i64]; omega
      have hcl := HC.out i
      have hw2 : IntKind.i64.wrap ((countG l n i : Int) + 1) = (countG l n i : Int) + 1 := by rw [IntKind.wrap_i64]; omega
      have hr := ha.upd U (by simp)
      obtain ⟨ad, u, rfl, hu, hc⟩ := hr.at_ hlt
      have hxi : u = .int .i64 l[i] := by
        rw [List.getElem?_map, List.getElem?_eq_getElem hlt] at hu
        injection hu with hu; exact hu.symm
      subst hxi
      have hS := Lib.hid (show countG l n (i + 1) = countG l n i + (if isSite l[i] n && !decide (l[i] ∈ l.take i) then 1 else 0) by
        rw [countG, List.getD_eq_getElem?_getD, List.getElem?_eq_getElem hlt]; rfl)
      obtain ⟨x, hx⟩ : ∃ x, l[i] = x := ⟨_, rfl⟩
      rw [hx] at hc hS
      have C := ref08Site wr x n
      have HX := Lib.hid hx
      have HL := Lib.hid hlt
      clear hx hu hi
      repeat' ((fail_if_success (with_reducible refine stop_append rfl ?_)); (fail_if_success (with_reducible refine stop_copy rfl ?_)); first | go_values | go_skip | go_guarded | go_step | go_upon | (simp only []; go_at_K))
      ((with_reducible refine C.mono ?_); rintro e w1 ⟨rfl, rfl⟩)
      clear C
      repeat' ((fail_if_success (with_reducible refine stop_append rfl ?_)); (fail_if_success (with_reducible refine stop_copy rfl ?_)); first | go_values | go_skip | go_guarded | go_step | go_upon | (simp only []; go_at_K))
      obtain ⟨wo, rfl⟩ : ∃ x, x = wr := ⟨_, rfl⟩
      go_loopw [7, 8] (fun v7 v8 wr => ∃ k : Nat, k ≤ i ∧ v8 = .int .i64 (k : Int) ∧ v7 = .bool (isSite x n && !decide (x ∈ l.take k)) ∧ Upd [] [] wo wr) (fun _ v8 _ => i - (intOf v8).toNat)
      case atStart => exact ⟨0, by omega, rfl, by simp, Upd.refl _ _⟩
      case round =>
        obtain ⟨k, hk, rfl, rfl, U2⟩ := hrel
        by_cases hki : k < i
        · have hkl : (k : Int) < (i : Int) := by omega
          have hkl2 : (k : Int) < (l.length : Int) := by have := HL.out; omega
          have hlk : k < l.length := by have := HL.out; omega
          have hw3 : IntKind.i64.wrap ((k : Int) + 1) = (k : Int) + 1 := by rw [IntKind.wrap_i64]; omega
          have hr2 := hr.upd U2 (by simp)
          obtain ⟨ad2, u2, e2, hu2, hc2⟩ := hr2.at_ hlk
          injection e2 with e2
          subst e2
          have hxk : u2 = .int .i64 l[k] := by
            rw [List.getElem?_map, List.getElem?_eq_getElem hlk] at hu2
            injection hu2 with hu2; exact hu2.symm
          subst hxk
          have HT := Lib.hid (take_mem hlk x)
          obtain ⟨y, hy⟩ : ∃ y, l[k] = y := ⟨_, rfl⟩
          rw [hy] at hc2 HT
          have hcN := fun N => (U2.drewN N).cell hc (by simp)
          have hc2N := fun N => ((Upd.refl [] wr).drewN N).cell hc2 (by simp)
          obtain ⟨F, hF⟩ : ∃ F, (isSite x n && !decide (x ∈ l.take k)) = F := ⟨_, rfl⟩
          have HF := Lib.hid hF
          rw [hF]
          clear hF hu2 hy hr2 hk hc2 hc
          cases F with
          | false =>
            repeat' ((fail_if_success (with_reducible refine stop_append rfl ?_)); (fail_if_success (with_reducible refine stop_copy rfl ?_)); first | go_values | go_skip | go_guarded | go_step | go_upon | (simp only []; go_at_K))
            go_quiet (fail)
            repeat' ((fail_if_success (with_reducible refine stop_append rfl ?_)); (fail_if_success (with_reducible refine stop_copy rfl ?_)); first | go_values | go_skip | go_guarded | go_step | go_upon | (simp only []; go_at_K))
            refine ⟨⟨k + 1, by omega, by simp, ?_, U2.drewN _⟩, by simp [intOf]; omega⟩
            rw [HT.out]
            have := HF.out
            cases h1 : isSite x n <;> cases h2 : decide (x ∈ l.take k) <;> simp_all
          | true =>
            cases hb : (y != x) with
            | true =>
              repeat' ((fail_if_success (with_reducible refine stop_append rfl ?_)); (fail_if_success (with_reducible refine stop_copy rfl ?_)); first | go_values | go_skip | go_guarded | go_step | go_upon | (simp only []; go_at_K))
              go_quiet (fail)
              repeat' ((fail_if_success (with_reducible refine stop_append rfl ?_)); (fail_if_success (with_reducible refine stop_copy rfl ?_)); first | go_values | go_skip | go_guarded | go_step | go_upon | (simp only []; go_at_K))
              refine ⟨⟨k + 1, by omega, by simp, ?_, U2.drewN _⟩, by simp [intOf]; omega⟩
              rw [HT.out]
              have := HF.out
              have hne : ¬ y = x := by simpa using hb
              rw [decide_eq_false hne]
              simpa using this.symm
            | false =>
              repeat' ((fail_if_success (with_reducible refine stop_append rfl ?_)); (fail_if_success (with_reducible refine stop_copy rfl ?_)); first | go_values | go_skip | go_guarded | go_step | go_upon | (simp only []; go_at_K))
              go_quiet (fail)
              repeat' ((fail_if_success (with_reducible refine stop_append rfl ?_)); (fail_if_success (with_reducible refine stop_copy rfl ?_)); first | go_values | go_skip | go_guarded | go_step | go_upon | (simp only []; go_at_K))
              refine ⟨⟨k + 1, by omega, by simp, ?_, U2.drewN _⟩, by simp [intOf]; omega⟩
              rw [HT.out]
              have he : y = x := by simpa using hb
              rw [decide_eq_true he]
              simp
        · obtain rfl : k = i := by omega
          have hkl : ¬ ((k : Int) < (k : Int)) := by omega
          have UU := U.trans U2
          obtain ⟨F, hF⟩ : ∃ F, (isSite x n && !decide (x ∈ l.take k)) = F := ⟨_, rfl⟩
          rw [hF] at hS
          rw [hF]
          clear hF hc U2 U hr
          cases F with
          | false =>
            repeat' ((fail_if_success (with_reducible refine stop_append rfl ?_)); (fail_if_success (with_reducible refine stop_copy rfl ?_)); first | go_values | go_skip | go_guarded | go_step | go_upon | (simp only []; go_at_K))
            exact ⟨⟨k + 1, HL.out, by simp, by rw [hS.out]; simp, UU⟩, by have := HL.out; simp [intOf]; omega⟩
          | true =>
            repeat' ((fail_if_success (with_reducible refine stop_append rfl ?_)); (fail_if_success (with_reducible refine stop_copy rfl ?_)); first | go_values | go_skip | go_guarded | go_step | go_upon | (simp only []; go_at_K))
            exact ⟨⟨k + 1, HL.out, by simp, by rw [hS.out]; simp, UU⟩, by have := HL.out; simp [intOf]; omega⟩
    · obtain rfl : i = l.length := by omega
      have hil : ¬ ((l.length : Int) < (l.length : Int)) := by omega
      repeat' ((fail_if_success (with_reducible refine stop_append rfl ?_)); (fail_if_success (with_reducible refine stop_copy rfl ?_)); first | go_values | go_skip | go_guarded | go_step | go_upon | (simp only []; go_at_K))
      go_ret
      refine ⟨?_, U⟩
      rw [HV.out, List.take_length]; rfl
set_option maxRecDepth 100000 in
set_option maxHeartbeats 1000000 in
theorem ref08Most (w : World) (A : Option Addr) (c : Nat) (l : List Int) (n : Nat) (hn : 1 ≤ n ∧ n ≤ 1000) (ha : Rd w 1 A l.length (l.map (Value.int .i64))) (hl : l.length ≤ 1000000) :
    Calls Try.prog 10 #[.slice A l.length c, .int .i64 (n : Int)] w fun e w' => e = .returned (.bool (mostI l n)) ∧ Upd [] [] w w' := by
  have C1 := ref08Count w A c l n ha hl
  have C2 := fun w => ref08Major w n hn.2
  have d1 : decide (1 ≤ (n : Int)) = true := decide_eq_true (by omega)
  have HM := Lib.hid (show mostI l n = decide (majorI n ≤ ((voters l n).length : Int)) by unfold mostI; rw [if_neg (by omega)])
  clear hn
  go_enter Try.func10, Try.ntmps10
  repeat' ((fail_if_success (with_reducible refine stop_append rfl ?_)); (fail_if_success (with_reducible refine stop_copy rfl ?_)); first | go_values | go_skip | go_guarded | go_step | go_upon | (simp only []; go_at_K))
  ((with_reducible refine C1.mono ?_); rintro e w1 ⟨rfl, u1⟩)
  repeat' ((fail_if_success (with_reducible refine stop_append rfl ?_)); (fail_if_success (with_reducible refine stop_copy rfl ?_)); first | go_values | go_skip | go_guarded | go_step | go_upon | (simp only []; go_at_K))
  ((with_reducible refine (C2 w1).mono ?_); rintro e w2 ⟨rfl, rfl⟩)
  repeat' ((fail_if_success (with_reducible refine stop_append rfl ?_)); (fail_if_success (with_reducible refine stop_copy rfl ?_)); first | go_values | go_skip | go_guarded | go_step | go_upon | (simp only []; go_at_K))
  go_ret
  exact ⟨by rw [HM.out]; rfl, u1⟩
end Go.Proofs.Ytijhlbeipglieaa

/- Layer 23: agiolaw23.SiteDecides. -/
namespace Go.Proofs.Ytijhlbeipglieaa
open Go.RowKit Agio Go.Maps Agio.Site

theorem _root_.Agio.Upd.ownS {a b X Y : List Nat} {w w1 w2 : World} (h : Upd a b w w1) (hX : ∀ x ∈ X, w.heap.size ≤ x) (k : Upd X Y w1 w2) : Upd a b w w2 :=
  ⟨k.os.trans h.os, k.tape.trans h.tape, k.output.trans h.output, Nat.le_trans h.size k.size, fun x hx hn => (k.block x (Nat.lt_of_lt_of_le hx h.size) (fun hm => by have := hX x hm; omega)).trans (h.block x hx hn), h.fresh⟩
theorem new_submit_no {me n pat : Nat} {v : List UInt8} (h : v.length = 0 ∨ 2048 < v.length) : (Site.new me n pat).submit v = (Site.new me n pat, 0, 1) := by
  unfold Site.submit
  rw [if_neg (by simp [Site.new]), if_pos h]
theorem subD_dec (me n pat : Nat) (v : List UInt8) (dn : Nat) (rs : AL Rn) (wt : List Int) (held : List Ms) (x : Int) : (subD me n pat v dn [] rs wt held).dec x = none := rfl
set_option maxRecDepth 100000 in
set_option maxHeartbeats 8000000 in
theorem siteDecides_any (w : World) (a b : Nat) (ha : a < 256) (hb : b < 256) (A : Option Addr) (n c : Nat) (v : List UInt8) (hv : RdB w A n v) (hvl : v.length ≤ 140737488355328) (B : Option Addr) (m d : Nat) (fr : List UInt8) (hf : RdB w B m fr) (hmd : m ≤ d) (hdm : d ≤ maxLen) :
    Calls Try.prog 3 #[.agg #[.int .u8 (a : Int), .int .u8 (b : Int)], .slice A n c, .slice B m d] w fun e w' => e = .returned (.bool true) ∧ Upd [] [] w w' := by
  obtain ⟨W, H, eW, hH, hB, U0⟩ := boxes1 w 22 #[.int .u8 (a : Int), .int .u8 (b : Int)]
  have C1 := siteAwake W
  have U0' := U0.gives (b' := []) (by simp)
  obtain ⟨k, hk⟩ : ∃ k, cntN b = k := ⟨_, rfl⟩
  have hk3 : 3 ≤ k ∧ k ≤ 7 := by unfold cntN at hk; omega
  obtain ⟨me, hme⟩ : ∃ r, a % k = r := ⟨_, rfl⟩
  have hrk : me < k := by rw [← hme]; exact Nat.mod_lt _ (by omega)
  obtain ⟨q, hq⟩ : ∃ q, b % 5 = q := ⟨_, rfl⟩
  have hkq : k = 3 + q := by rw [← hk, ← hq]; rfl
  have e1 : (b : Int).tmod 5 = (q : Int) := by rw [← hq]; rfl
  have e2 : IntKind.u8.wrap (q : Int) = (q : Int) := by rw [IntKind.wrap_u8]; omega
  have e3 : IntKind.i64.wrap (q : Int) = (q : Int) := by rw [IntKind.wrap_i64]; omega
  have e4 : IntKind.i64.wrap (3 + (q : Int)) = (k : Int) := by rw [IntKind.wrap_i64]; omega
  have e5 : IntKind.i64.wrap (a : Int) = (a : Int) := by rw [IntKind.wrap_i64]; omega
  have e6 : (a : Int).tmod (k : Int) = (me : Int) := by rw [← hme]; rfl
  have e7 : IntKind.i64.wrap (me : Int) = (me : Int) := by rw [IntKind.wrap_i64]; omega
  have hk0 : ((k : Int) == 0) = false := beq_false_of_ne (by omega)
  have hk1 : ((k : Int) == -1) = false := beq_false_of_ne (by omega)
  have HK := Lib.hid hk
  have HME := Lib.hid hme
  have hn := hv.len
  have HMM := Lib.hid hf.len
  have C2 := fun w => siteMade w a b ha hb
  rw [hk, hme] at C2
  clear hk hme hq hkq
  go_enter Try.func3, Try.ntmps3
  repeat' ((fail_if_success (with_reducible refine stop_append rfl ?_)); (fail_if_success (with_reducible refine stop_copy rfl ?_)); first | go_values | go_skip | go_guarded | go_step | go_upon | (simp only []; go_at_K))
  ((with_reducible refine C1.mono ?_); rintro e w1 ⟨rfl, u1⟩)
  have K1 := hB.upd u1 (by simp)
  have U1 := U0'.trans u1
  obtain ⟨⟨a0, a1⟩, -⟩ := K1.c2
  clear C1 hB U0 u1
  repeat' ((fail_if_success (with_reducible refine stop_append rfl ?_)); (fail_if_success (with_reducible refine stop_copy rfl ?_)); first | go_values | go_skip | go_guarded | go_step | go_upon | (simp only []; go_at_K))
  ((with_reducible refine (C2 w1).mono ?_); rintro e w2 ⟨M, rfl, h2, hp2, u2⟩)
  have U2 := U1.trans (u2.gives (b' := []) (by simp))
  have K2 := K1.upd u2 (by simp)
  have hnew := U1.new u2
  simp only [SiteV.ptr]
  have hv2 := hv.upd U2 (by simp)
  have hh2 : M.held.length ≤ 800000000 := by rw [← SiteV.held_len, hp2]; simp [Site.new]
  have C3 := siteSubmit w2 M h2 A n c v hv2 hvl hh2
  rw [hp2, SiteV.ptr] at C3
  clear C2 a0 a1 K1
  by_cases h0 : v.length = 0
  · have e0 : ((n : Int) == 0) = true := by rw [hn, h0]; rfl
    rw [new_submit_no (.inl h0)] at C3
    have HN := Lib.hid hn
    clear hn h0
    repeat' ((fail_if_success (with_reducible refine stop_append rfl ?_)); (fail_if_success (with_reducible refine stop_copy rfl ?_)); first | go_values | go_skip | go_guarded | go_step | go_upon | (simp only []; go_at_K))
    ((with_reducible refine C3.mono ?_); rintro e w3 ⟨rfl, M3, -, -, -, u3⟩)
    repeat' ((fail_if_success (with_reducible refine stop_append rfl ?_)); (fail_if_success (with_reducible refine stop_copy rfl ?_)); first | go_values | go_skip | go_guarded | go_step | go_upon | (simp only []; go_at_K))
    go_ret
    exact ⟨rfl, U1.trans ((u2.trans u3).gives (by simp))⟩
  have e0 : ((n : Int) == 0) = false := beq_false_of_ne (by omega)
  by_cases h1 : 2048 < v.length
  · have e8 : decide (2048 < (n : Int)) = true := decide_eq_true (by omega)
    rw [new_submit_no (.inr h1)] at C3
    have HN := Lib.hid hn
    clear hn h1 h0
    repeat' ((fail_if_success (with_reducible refine stop_append rfl ?_)); (fail_if_success (with_reducible refine stop_copy rfl ?_)); first | go_values | go_skip | go_guarded | go_step | go_upon | (simp only []; go_at_K))
    ((with_reducible refine C3.mono ?_); rintro e w3 ⟨rfl, M3, -, -, -, u3⟩)
    repeat' ((fail_if_success (with_reducible refine stop_append rfl ?_)); (fail_if_success (with_reducible refine stop_copy rfl ?_)); first | go_values | go_skip | go_guarded | go_step | go_upon | (simp only []; go_at_K))
    go_ret
    exact ⟨rfl, U1.trans ((u2.trans u3).gives (by simp))⟩
  have e8 : decide (2048 < (n : Int)) = false := decide_eq_false (by omega)
  have hvl2 : v.length ≤ 2048 := by omega
  have HH0 := Lib.hid h0
  rw [submit_new 3 hrk hk3.2 h0 hvl2] at C3
  have HN := Lib.hid hn
  clear hn h0 h1
  obtain ⟨S, hS⟩ : ∃ S, subD me k 3 v 0 [] [((me : Int), rnD me v [])] wt0 (tellD me k (asks (rnD me v []) me) ++ [voteD me me me]) = S := ⟨_, rfl⟩
  rw [hS] at C3
  repeat' ((fail_if_success (with_reducible refine stop_append rfl ?_)); (fail_if_success (with_reducible refine stop_copy rfl ?_)); first | go_values | go_skip | go_guarded | go_step | go_upon | (simp only []; go_at_K))
  ((with_reducible refine C3.mono ?_); rintro e w3 ⟨rfl, M3, h3, hp3, hg3, u3⟩)
  clear C3
  obtain ⟨W3, Hb, eW3, hHb, hBb, Ub⟩ := boxes1 w3 31 #[.int .i64 0, .int .i64 (me : Int)]
  have h3' := h3.upd0 Ub
  have C4 := siteDecided W3 M3 h3' (me : Int) (wfI (by omega) (by omega))
  have hd4 : M3.pl.dec (me : Int) = none := by rw [hp3, ← hS]; rfl
  rw [hd4, SiteV.ptr, hg3] at C4
  simp only [Option.isSome_none, Option.getD_none] at C4
  repeat' ((fail_if_success (with_reducible refine stop_append rfl ?_)); (fail_if_success (with_reducible refine stop_copy rfl ?_)); first | go_values | go_skip | go_guarded | go_step | go_upon | (simp only []; go_at_K))
  ((with_reducible refine C4.mono ?_); rintro e w4 ⟨A4, n4, c4, rfl, -, u4⟩)
  clear C4
  have h4 := h3'.upd0 u4
  have K4 := hBb.upd u4 (by simp)
  have C5 := syncNew w4 M3 h4 me k 3 v hvl2 hrk hk3.1 hk3.2 (hp3.trans hS.symm)
  rw [SiteV.ptr, hg3] at C5
  repeat' ((fail_if_success (with_reducible refine stop_append rfl ?_)); (fail_if_success (with_reducible refine stop_copy rfl ?_)); first | go_values | go_skip | go_guarded | go_step | go_upon | (simp only []; go_at_K))
  ((with_reducible refine C5.mono ?_); rintro e w5 ⟨A5, c5, told5, M5, rfl, -, -, -, h5, hp5, hg5, u5⟩)
  clear C5
  have hHbf : Hb ∉ M3.fp := fun hx => by have := h3.lt Hb hx; omega
  have K5 := K4.upd u5 hHbf
  have hHb5 : Hb ∉ M5.fp := u5.notin hHbf K4.lt
  have Ub' : Upd M3.fp M3.fp w3 w4 := ((Ub.gives (b' := []) (by simp)).trans (u4.gives (b' := []) (by simp))).up _
  have U5 : Upd [] M5.fp w w5 := (((((U1.trans u2).trans u3).trans Ub').trans u5).gives (fun x hx => ((((U1.trans u2).trans u3).trans Ub').trans u5).fresh x hx))
  have hv5 := hv.upd U5 (by simp)
  have hf5 := hf.upd U5 (by simp)
  clear hv2 hh2 Ub u4 u5 u3 h4 h3' h3 hBb K4 U2 K2 hd4
  obtain ⟨W6, G, eW6, hG, hBG, U6⟩ := boxes1 w5 3 #[.int .i64 (me : Int)]
  have hOw : Own 3 1 W6 (some ⟨G, 0, none⟩) 1 1 ([(me : Int)].map (Value.int .i64)) := Own.of_block (cur := []) hBG rfl rfl (by omega) (by unfold maxLen; omega)
  have h6 := h5.upd0 U6
  have K6 := K5.upd U6 (by simp)
  have U6' : Upd [] M5.fp w W6 := U5.trans ((U6.gives (b' := []) (by simp)).up _)
  have hGf : G ∉ M5.fp := fun hx => by have := h5.lt G hx; omega
  have hwG : w.heap.size ≤ G := by have := U5.size; omega
  have gg5 : M5.gs = M.gs := hg5
  have hHb6 : Hb ≠ G := by have := K5.lt; omega
  repeat' ((fail_if_success (with_reducible refine stop_append rfl ?_)); (fail_if_success (with_reducible refine stop_copy rfl ?_)); first | go_values | go_skip | go_guarded | go_step | go_upon | (simp only []; go_at_K))
  go_loopw [20, 21] (fun v20 v21 wr => ∃ (i : Nat) (fs wt : List Int) (M' : SiteV) (A1 : Option Addr) (c1 : Nat), i ≤ m ∧ i ≤ 20 ∧ v21 = .int .i64 (i : Int) ∧ v20 = .slice A1 fs.length c1 ∧ Own 3 1 wr A1 fs.length c1 (fs.map (Value.int .i64)) ∧ fs.length ≤ i + 1 ∧
      SiteS wr M' ∧ M'.pl = doneD me k 3 v (len1 me v) wt fs ∧ M'.gs = M.gs ∧ (∀ x ∈ ablk A1, x ∉ M'.fp ∧ x ≠ Hb ∧ w.heap.size ≤ x) ∧ Hb ∉ M'.fp ∧ Blk wr Hb 31 #[.int .i64 0, .int .i64 (me : Int)] ∧ Upd [] M'.fp w wr) (fun _ v21 _ => 20 - (intOf v21).toNat)
  case atStart => exact ⟨0, [(me : Int)], wt0, M5, _, 1, by omega, by omega, rfl, rfl, hOw, by simp, h6, hp5, gg5, fun x hx => by simp [ablk] at hx; subst hx; exact ⟨hGf, hHb6.symm, hwG⟩, hHb5, K6, U6'⟩
  case round =>
    obtain ⟨i, fs, wt, M', A1, c1, hi, hi20, rfl, rfl, ho, hfl, h7, hp7, hg7, hA1, hHb7, K7, U7⟩ := hrel
    clear h6 hp5 h5 hg5 K5 K6 hOw U6' U6 hBG hv5 hf5 U5 U1 u2
    have hil20 : decide ((i : Int) < 20) = decide (i < 20) := by by_cases hh : i < 20 <;> simp [hh] <;> omega
    have hcase : (decide (i < m) = false ∧ ¬ (i : Int) < (m : Int)) ∨ ((decide (i < m) = true ∧ (i : Int) < (m : Int)) ∧ (decide ((i : Int) < 20) = false ∧ ¬ (i : Int) < 20)) ∨ (i < m ∧ i < 20) := by
      by_cases h1 : i < m
      · by_cases h2 : i < 20
        · exact .inr (.inr ⟨h1, h2⟩)
        · exact .inr (.inl ⟨⟨decide_eq_true h1, by omega⟩, decide_eq_false (by omega), by omega⟩)
      · exact .inl ⟨decide_eq_false h1, by omega⟩
    rcases hcase with ⟨hd1, hlt⟩ | ⟨⟨hd1, hlt⟩, hd2, hlt2⟩ | ⟨hlt, h20⟩
    rotate_right
    · have hil : (i : Int) < (m : Int) := by omega
      · have hi2 : (i : Int) < 20 := by omega
        have hd2 : decide ((i : Int) < 20) = true := decide_eq_true hi2
        have hd1 : decide (i < m) = true := decide_eq_true hlt
        have hw1 : IntKind.i64.wrap ((i : Int) + 1) = (i : Int) + 1 := by rw [IntKind.wrap_i64]; omega
        have hr := (hf.upd U7 (by simp))
        have hlf : i < fr.length := by have := HMM.out; omega
        obtain ⟨ad, u, rfl, hu, hc⟩ := Rd.at_ hr hlt
        have hxu : u = .int .u8 (fr[i].toNat : Int) := by
          rw [b8s_get fr i hlf] at hu; injection hu with hu; exact hu.symm
        subst hxu
        obtain ⟨y, hy⟩ : ∃ y, fr[i].toNat = y := ⟨_, rfl⟩
        have hy256 : y < 256 := by rw [← hy]; exact fr[i].toNat_lt
        rw [hy] at hc
        obtain ⟨r, hre⟩ : ∃ r, y % k = r := ⟨_, rfl⟩
        have hrr : r < k := by rw [← hre]; exact Nat.mod_lt _ (by omega)
        have e15 : IntKind.i64.wrap (y : Int) = (y : Int) := by rw [IntKind.wrap_i64]; omega
        have e16 : (y : Int).tmod (k : Int) = (r : Int) := by rw [← hre]; rfl
        have e17 : IntKind.i64.wrap (r : Int) = (r : Int) := by rw [IntKind.wrap_i64]; omega
        clear hu hr hre hy
        cases hm : ((r : Int) != (me : Int)) with
        | false =>
          have HM := Lib.hid hm
          repeat' ((fail_if_success (with_reducible refine stop_append rfl ?_)); (fail_if_success (with_reducible refine stop_copy rfl ?_)); first | go_values | go_skip | go_guarded | go_step | go_upon | (simp only []; go_at_K))
          exact ⟨⟨i + 1, fs, wt, M', A1, c1, by omega, by omega, by simp, rfl, ho, by omega, h7, hp7, hg7, hA1, hHb7, K7, U7⟩, by simp [intOf]; omega⟩
        | true =>
          have hne : (r : Int) ≠ me := by simpa using hm
          have C := handleD wr M' h7 me k 3 v _ wt fs hrk hk3.2 hvl2 (by omega) hp7 (r : Int) (by omega) (by omega) hne
          rw [SiteV.ptr, hg7, Mv.val_eq] at C
          obtain ⟨⟨b0, b1⟩, -⟩ := K7.c2
          repeat' ((fail_if_success (with_reducible refine stop_append rfl ?_)); (fail_if_success (with_reducible refine stop_copy rfl ?_)); first | go_values | go_skip | go_guarded | go_step | go_upon | (simp only []; go_at_K))
          ((with_reducible refine C.mono ?_); rintro e w8 ⟨rfl, M8, h8, hp8, hg8, u8⟩)
          have K8 := K7.upd u8 hHb7
          have hHb8 : Hb ∉ M8.fp := u8.notin hHb7 K7.lt
          have ho8 := ho.upd u8 (fun x hx => (hA1 x hx).1)
          have hA8 : ∀ x ∈ ablk A1, x ∉ M8.fp ∧ x ≠ Hb ∧ w.heap.size ≤ x := fun x hx => ⟨u8.notin (hA1 x hx).1 (ho.lt x hx), (hA1 x hx).2⟩
          have U8 := U7.trans u8
          clear C h7 ho K7 b0 b1 u8 hHb7 hA1 hp7 U7
          repeat' ((fail_if_success (with_reducible refine stop_append rfl ?_)); (fail_if_success (with_reducible refine stop_copy rfl ?_)); first | go_values | go_skip | go_guarded | go_step | go_upon | (simp only []; go_at_K))
          refine wpList_push rfl _ _ 36 rfl 3 Try.underlying36 infoI64 rfl (by decide) ho8 rfl w8.heap.size rfl rfl rfl rfl (by unfold maxLen; omega) (by omega) ?_
          intro A9 c9 w9 ho9 hu9
          have hl8 := h8.lt
          have h9 := h8.upd hu9 (fun x hx hm => (hA8 x hm).1 hx) (fun x hx y hy => tag_offs (h8.byt x hx).tag ho8.tag (by decide) y hy)
          have K9 := K8.upd hu9 (fun hm => (hA8 _ hm).2.1 rfl)
          have hA9 : ∀ x ∈ ablk A9, x ∉ M8.fp ∧ x ≠ Hb ∧ w.heap.size ≤ x := fun x hx => by
            rcases hu9.fresh x hx with hh | hh
            · exact hA8 x hh
            · have hs8 := U8.size
              refine ⟨fun hm => ?_, ?_, by omega⟩
              · have := hl8 x hm; omega
              · have := K8.lt; omega
          have U9 : Upd [] M8.fp w w9 := U8.ownS (fun x hx => (hA8 x hx).2.2) hu9
          clear h8 ho8 hA8 K8 U8 hu9
          repeat' ((fail_if_success (with_reducible refine stop_append rfl ?_)); (fail_if_success (with_reducible refine stop_copy rfl ?_)); first | go_values | go_skip | go_guarded | go_step | go_upon | (simp only []; go_at_K))
          exact ⟨⟨i + 1, fs ++ [(r : Int)], _, M8, A9, c9, by omega, by omega, by simp, by simp, by simpa using ho9, by simp; omega, h9, hp8, hg8.trans hg7, hA9, hHb8, K9, U9⟩, by simp [intOf]; omega⟩
    all_goals
      (repeat' ((fail_if_success (with_reducible refine stop_append rfl ?_)); (fail_if_success (with_reducible refine stop_copy rfl ?_)); first | go_values | go_skip | go_guarded | go_step | go_upon | (simp only []; go_at_K))
       have C10 := siteDecided wr M' h7 (me : Int) (wfI (by omega) (by omega))
       have hdec : M'.pl.dec (me : Int) = if mostI fs k = true then some v else none := by rw [hp7]; exact doneD_dec me k 3 v _ wt fs
       rw [hdec, SiteV.ptr, hg7] at C10
       ((with_reducible refine C10.mono ?_); rintro e w10 ⟨AD, nD, cD, rfl, hoD, u10⟩)
       have h10 := h7.upd0 u10
       have ho10 := ho.upd u10 (by simp)
       have C11 := ref08Most w10 A1 c1 fs k (by omega) ho10.rd (by omega)
       clear C10
       repeat' ((fail_if_success (with_reducible refine stop_append rfl ?_)); (fail_if_success (with_reducible refine stop_copy rfl ?_)); first | go_values | go_skip | go_guarded | go_step | go_upon | (simp only []; go_at_K))
       ((with_reducible refine C11.mono ?_); rintro e w11 ⟨rfl, u11⟩)
       have h11 := h10.upd0 u11
       have C12 := syncD w11 M' h11 me k 3 v _ wt fs hrk hk3.2 hp7
       rw [SiteV.ptr, hg7] at C12
       clear C11
       repeat' ((fail_if_success (with_reducible refine stop_append rfl ?_)); (fail_if_success (with_reducible refine stop_copy rfl ?_)); first | go_values | go_skip | go_guarded | go_step | go_upon | (simp only []; go_at_K))
       ((with_reducible refine C12.mono ?_); rintro e w12 ⟨AT, cT, told, M12, rfl, hT, hoT, hAT, hyT, h12, -, u12⟩)
       clear C12
       have hADn := (Upd.refl [] wr).new u10
       have hf7 := h7.lt
       have hoD12 := (hoD.upd u11 (by simp)).upd u12 (fun x hx hm => by have h1 := hADn x hx; have h2 := hf7 x hm; omega)
       have U12 : Upd [] [] w w12 := ((U7.trans ((u10.gives (b' := []) (by simp)).up _)).trans (u11.up _)).trans u12 |>.gives (by simp)
       have hv12 := hv.upd U12 (by simp)
       have HTall : ∀ x ∈ told, x.k = 7 ∧ x.s = (me : Int) ∧ x.b = v := fun x hx => by
         have hm : x.ms ∈ told.map Mv.ms := List.mem_map_of_mem hx
         rw [hT] at hm
         split at hm
         · unfold tellD at hm
           obtain ⟨j, -, hj⟩ := List.mem_map.1 hm
           exact ⟨(congrArg Ms.kind hj).symm, (congrArg Ms.slot hj).symm, (congrArg Ms.val hj).symm⟩
         · cases hm
       have HTlen : told.length + (if mostI fs k = true then 1 else 0) = if mostI fs k = true then k else 0 := by
         have := congrArg List.length hT
         rw [List.length_map] at this
         rw [this]
         split
         · exact tellD_len hrk _
         · rfl
       obtain ⟨mo, hmo⟩ : ∃ b, mostI fs k = b := ⟨_, rfl⟩
       rw [hmo] at hoD12 HTlen
       rw [hmo]
       have HRT : RdS Mv.cells 10 w12 AT told.length told := ⟨rfl, hoT.rd⟩
       have HTA := Lib.hid HTall
       have HTL := Lib.hid HTlen
       clear hT hoT hAT h12 u12 h11 h10 u11 u10 hoD ho10 ho h7 hA1 hHb7 K7 U7 hp7 hdec hmo HTall HTlen hADn hf7
       repeat' ((fail_if_success (with_reducible refine stop_append rfl ?_)); (fail_if_success (with_reducible refine stop_copy rfl ?_)); first | go_values | go_skip | go_guarded | go_step | go_upon | (simp only []; go_at_K))
       go_loopw [27, 28] (fun v27 v28 wr => ∃ j : Nat, j ≤ told.length ∧ v28 = .int .i64 (j : Int) ∧ v27 = .int .i64 (j : Int) ∧ Upd [] [] w12 wr) (fun _ v28 _ => told.length - (intOf v28).toNat)
       case atStart => exact ⟨0, by omega, rfl, rfl, Upd.refl _ _⟩
       case round =>
         obtain ⟨j, hj, rfl, rfl, U⟩ := hrel
         by_cases hjl : j < told.length
         · have hjl' : (j : Int) < (told.length : Int) := by omega
           have hw1 : IntKind.i64.wrap ((j : Int) + 1) = (j : Int) + 1 := by have := HTL.out; rw [IntKind.wrap_i64]; split at this <;> omega
           have hvr := HRT.upd0 U
           obtain ⟨ad, rfl, h0, hjc⟩ := RdS.at_ (f := Mv.cells) (s := 10) (fun _ => rfl) hvr hjl
           obtain ⟨hk7, hks, hkb⟩ := HTA.out _ (List.getElem_mem hjl)
           have hby := (hyT _ (List.getElem_mem hjl)).upd0 U
           generalize told[j] = y at *
           have d0 := h0 _ rfl
           have d3 := hjc 3 _ (by omega) rfl
           have d9 := hjc 9 _ (by omega) rfl
           rw [hk7] at d0
           rw [hks] at d3
           have hrb := hby.rd
           rw [Bsl.rd] at hrb
           change RdB wr y.A y.n y.b at hrb
           rw [hkb] at hrb
           have s1 := fun N => strOf (hrb.drewN N) y.c
           have s2 := fun N => strOf ((hv12.upd U (by simp)).drewN N) c
           have d0N := fun N => (U.drewN N |> fun _ => ((Upd.refl [] wr).drewN N).cell d0 (by simp))
           have d3N := fun N => ((Upd.refl [] wr).drewN N).cell d3 (by simp)
           have d9N := fun N => ((Upd.refl [] wr).drewN N).cell d9 (by simp)
           clear d0 d3 d9 h0 hjc hvr hk7 hks hkb hby hrb
           repeat' ((fail_if_success (with_reducible refine stop_append rfl ?_)); (fail_if_success (with_reducible refine stop_copy rfl ?_)); first | go_values | go_skip | go_guarded | go_step | go_upon | (simp only []; go_at_K))
           go_quiet (fail)
           repeat' ((fail_if_success (with_reducible refine stop_append rfl ?_)); (fail_if_success (with_reducible refine stop_copy rfl ?_)); first | go_values | go_skip | go_guarded | go_step | go_upon | (simp only []; go_at_K))
           exact ⟨⟨j + 1, by omega, by simp, by simp, U.drewN _⟩, by simp [intOf]; omega⟩
         · obtain rfl : j = told.length := by omega
           have hjl' : ¬ ((told.length : Int) < (told.length : Int)) := by omega
           have s1 := strOf (hoD12.rd.upd U (by simp)) cD
           have s2 := strOf (hv12.upd U (by simp)) c
           cases mo with
           | false =>
             repeat' ((fail_if_success (with_reducible refine stop_append rfl ?_)); (fail_if_success (with_reducible refine stop_copy rfl ?_)); first | go_values | go_skip | go_guarded | go_step | go_upon | (simp only []; go_at_K))
             go_ret
             exact ⟨rfl, U12.trans U⟩
           | true =>
             have hle := HTL.out
             simp only [if_true] at hle
             have hw2 : IntKind.i64.wrap ((k : Int) - 1) = (k : Int) - 1 := by rw [IntKind.wrap_i64]; omega
             have hge : decide ((k : Int) - 1 ≤ (told.length : Int)) = true := decide_eq_true (by omega)
             repeat' ((fail_if_success (with_reducible refine stop_append rfl ?_)); (fail_if_success (with_reducible refine stop_copy rfl ?_)); first | go_values | go_skip | go_guarded | go_step | go_upon | (simp only []; go_at_K))
             go_ret
             exact ⟨rfl, U12.trans U⟩)
end Go.Proofs.Ytijhlbeipglieaa
