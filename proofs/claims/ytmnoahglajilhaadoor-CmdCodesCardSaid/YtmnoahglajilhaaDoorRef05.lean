/- Commands: agioref05.within, Uses, May. -/
import Derived.Test.YtmnoahglajilhaaDoorCmd7
import Derived.Deep.Cut
set_option linter.all false
namespace Go.Proofs.YtmnoahglajilhaaDoor
open Go.RowKit Agio

set_option maxRecDepth 100000 in
theorem ref05Within (n a b : Int) (w : World) : Calls Tryd.prog 38 #[.int .i64 n, .int .i64 a, .int .i64 b] w fun e w' => e = .returned (.bool (wi n a b)) ∧ w = w' := by
  go_enter Tryd.func38, Tryd.ntmps38
  repeat' ((fail_if_success (with_reducible refine stop_append rfl ?_)); (fail_if_success (with_reducible refine stop_copy rfl ?_)); first | go_values | go_skip | go_guarded | go_step | go_upon | (simp only []; go_at_K))
  all_goals go_ret
  all_goals exact ⟨by simp [wi, *], rfl⟩
def uS (k : Int) : Bool := decide (1 ≤ k) && decide (k ≤ 6)
def uA (k : Int) : Bool := decide (k = 9) || decide (k = 10)
def uP (k : Int) : Bool := decide (k = 1) || (decide (3 ≤ k) && decide (k ≤ 6)) || decide (k = 8) || decide (k = 11)
def uQ (k : Int) : Bool := (decide (1 ≤ k) && decide (k ≤ 6)) || decide (k = 8) || decide (k = 9) || decide (k = 10)
def uI (k : Int) : Bool := decide (k = 7) || decide (k = 8)
def usesV (k : Int) : Value := .agg #[.bool (uS k), .bool (uA k), .bool (uP k), .bool (uQ k), .bool (uI k)]
theorem uses_of {k : Int} {a b c d e : Bool} (h1 : uS k = a) (h2 : uA k = b) (h3 : uP k = c) (h4 : uQ k = d) (h5 : uI k = e) : usesV k = .agg #[.bool a, .bool b, .bool c, .bool d, .bool e] := by
  unfold usesV; rw [h1, h2, h3, h4, h5]

/-- agioref05's answer, as a Boolean. -/
def mayR (c : Cm) : Bool :=
  (wi c.k 0 11 && wi c.cl 1 64 && wi c.sq 1 1099511627776 && wi c.tm 0 1099511627776) &&
  (((c.s == 0 || uS c.k) && (c.a == 0 || uA c.k) && (c.p == 0 || uP c.k) && (c.q == 0 || uQ c.k) && (c.i == 0 || uI c.k)) &&
   (!uS c.k || wi c.s 1 2) && (!uA c.k || wi c.a 0 1) && (!uP c.k || wi c.p (if c.k = 6 then -1073741824 else 1) 1073741824)) &&
  !(uQ c.k && !wi c.q 1 1073741824) && !(uI c.k && !wi c.i 1 1099511627776)
theorem mayR_k0 (cl sq tm s a p q i : Int) : mayR ⟨0, cl, sq, tm, s, a, p, q, i⟩ = Cm.may ⟨0, cl, sq, tm, s, a, p, q, i⟩ := by
  have F : flds 0 s a p q i = ((s == 0) && ((a == 0) && ((p == 0) && ((q == 0) && ((i == 0)))))) := rfl
  have h0 : wi 0 0 11 = true := rfl
  have h1 : uS 0 = false := rfl
  have h2 : uA 0 = false := rfl
  have h3 : uP 0 = false := rfl
  have h4 : uQ 0 = false := rfl
  have h5 : uI 0 = false := rfl
  have h6 : (if (0 : Int) = 6 then (-1073741824 : Int) else 1) = 1 := rfl
  unfold mayR Cm.may
  simp only
  rw [F, h0, h1, h2, h3, h4, h5, h6]
  generalize wi cl 1 64 = x1
  generalize wi sq 1 1099511627776 = x2
  generalize wi tm 0 1099511627776 = x3
  generalize wi s 1 2 = y1
  generalize wi a 0 1 = y2
  generalize wi p 1 1073741824 = y3
  generalize wi q 1 1073741824 = y4
  generalize wi i 1 1099511627776 = y5
  generalize (s == 0) = z1
  generalize (a == 0) = z2
  generalize (p == 0) = z3
  generalize (q == 0) = z4
  generalize (i == 0) = z5
  cases x1 <;> cases x2 <;> cases x3 <;> simp only [Bool.and_true, Bool.true_and, Bool.and_false, Bool.false_and, Bool.or_true, Bool.or_false, Bool.true_or, Bool.false_or, Bool.not_true, Bool.not_false] <;>
    (cases y1 <;> cases y2 <;> cases y3 <;> cases y4 <;> cases y5 <;> cases z1 <;> cases z2 <;> cases z3 <;> cases z4 <;> cases z5 <;> rfl)
theorem mayR_k1 (cl sq tm s a p q i : Int) : mayR ⟨1, cl, sq, tm, s, a, p, q, i⟩ = Cm.may ⟨1, cl, sq, tm, s, a, p, q, i⟩ := by
  have F : flds 1 s a p q i = (wi s 1 2 && (wi p 1 1073741824 && (wi q 1 1073741824 && ((a == 0) && ((i == 0)))))) := rfl
  have h0 : wi 1 0 11 = true := rfl
  have h1 : uS 1 = true := rfl
  have h2 : uA 1 = false := rfl
  have h3 : uP 1 = true := rfl
  have h4 : uQ 1 = true := rfl
  have h5 : uI 1 = false := rfl
  have h6 : (if (1 : Int) = 6 then (-1073741824 : Int) else 1) = 1 := rfl
  unfold mayR Cm.may
  simp only
  rw [F, h0, h1, h2, h3, h4, h5, h6]
  generalize wi cl 1 64 = x1
  generalize wi sq 1 1099511627776 = x2
  generalize wi tm 0 1099511627776 = x3
  generalize wi s 1 2 = y1
  generalize wi a 0 1 = y2
  generalize wi p 1 1073741824 = y3
  generalize wi q 1 1073741824 = y4
  generalize wi i 1 1099511627776 = y5
  generalize (s == 0) = z1
  generalize (a == 0) = z2
  generalize (p == 0) = z3
  generalize (q == 0) = z4
  generalize (i == 0) = z5
  cases x1 <;> cases x2 <;> cases x3 <;> simp only [Bool.and_true, Bool.true_and, Bool.and_false, Bool.false_and, Bool.or_true, Bool.or_false, Bool.true_or, Bool.false_or, Bool.not_true, Bool.not_false] <;>
    (cases y1 <;> cases y2 <;> cases y3 <;> cases y4 <;> cases y5 <;> cases z1 <;> cases z2 <;> cases z3 <;> cases z4 <;> cases z5 <;> rfl)
theorem mayR_k2 (cl sq tm s a p q i : Int) : mayR ⟨2, cl, sq, tm, s, a, p, q, i⟩ = Cm.may ⟨2, cl, sq, tm, s, a, p, q, i⟩ := by
  have F : flds 2 s a p q i = (wi s 1 2 && (wi q 1 1073741824 && ((a == 0) && ((p == 0) && ((i == 0)))))) := rfl
  have h0 : wi 2 0 11 = true := rfl
  have h1 : uS 2 = true := rfl
  have h2 : uA 2 = false := rfl
  have h3 : uP 2 = false := rfl
  have h4 : uQ 2 = true := rfl
  have h5 : uI 2 = false := rfl
  have h6 : (if (2 : Int) = 6 then (-1073741824 : Int) else 1) = 1 := rfl
  unfold mayR Cm.may
  simp only
  rw [F, h0, h1, h2, h3, h4, h5, h6]
  generalize wi cl 1 64 = x1
  generalize wi sq 1 1099511627776 = x2
  generalize wi tm 0 1099511627776 = x3
  generalize wi s 1 2 = y1
  generalize wi a 0 1 = y2
  generalize wi p 1 1073741824 = y3
  generalize wi q 1 1073741824 = y4
  generalize wi i 1 1099511627776 = y5
  generalize (s == 0) = z1
  generalize (a == 0) = z2
  generalize (p == 0) = z3
  generalize (q == 0) = z4
  generalize (i == 0) = z5
  cases x1 <;> cases x2 <;> cases x3 <;> simp only [Bool.and_true, Bool.true_and, Bool.and_false, Bool.false_and, Bool.or_true, Bool.or_false, Bool.true_or, Bool.false_or, Bool.not_true, Bool.not_false] <;>
    (cases y1 <;> cases y2 <;> cases y3 <;> cases y4 <;> cases y5 <;> cases z1 <;> cases z2 <;> cases z3 <;> cases z4 <;> cases z5 <;> rfl)
theorem mayR_k3 (cl sq tm s a p q i : Int) : mayR ⟨3, cl, sq, tm, s, a, p, q, i⟩ = Cm.may ⟨3, cl, sq, tm, s, a, p, q, i⟩ := by
  have F : flds 3 s a p q i = (wi s 1 2 && (wi p 1 1073741824 && (wi q 1 1073741824 && ((a == 0) && ((i == 0)))))) := rfl
  have h0 : wi 3 0 11 = true := rfl
  have h1 : uS 3 = true := rfl
  have h2 : uA 3 = false := rfl
  have h3 : uP 3 = true := rfl
  have h4 : uQ 3 = true := rfl
  have h5 : uI 3 = false := rfl
  have h6 : (if (3 : Int) = 6 then (-1073741824 : Int) else 1) = 1 := rfl
  unfold mayR Cm.may
  simp only
  rw [F, h0, h1, h2, h3, h4, h5, h6]
  generalize wi cl 1 64 = x1
  generalize wi sq 1 1099511627776 = x2
  generalize wi tm 0 1099511627776 = x3
  generalize wi s 1 2 = y1
  generalize wi a 0 1 = y2
  generalize wi p 1 1073741824 = y3
  generalize wi q 1 1073741824 = y4
  generalize wi i 1 1099511627776 = y5
  generalize (s == 0) = z1
  generalize (a == 0) = z2
  generalize (p == 0) = z3
  generalize (q == 0) = z4
  generalize (i == 0) = z5
  cases x1 <;> cases x2 <;> cases x3 <;> simp only [Bool.and_true, Bool.true_and, Bool.and_false, Bool.false_and, Bool.or_true, Bool.or_false, Bool.true_or, Bool.false_or, Bool.not_true, Bool.not_false] <;>
    (cases y1 <;> cases y2 <;> cases y3 <;> cases y4 <;> cases y5 <;> cases z1 <;> cases z2 <;> cases z3 <;> cases z4 <;> cases z5 <;> rfl)
theorem mayR_k4 (cl sq tm s a p q i : Int) : mayR ⟨4, cl, sq, tm, s, a, p, q, i⟩ = Cm.may ⟨4, cl, sq, tm, s, a, p, q, i⟩ := by
  have F : flds 4 s a p q i = (wi s 1 2 && (wi p 1 1073741824 && (wi q 1 1073741824 && ((a == 0) && ((i == 0)))))) := rfl
  have h0 : wi 4 0 11 = true := rfl
  have h1 : uS 4 = true := rfl
  have h2 : uA 4 = false := rfl
  have h3 : uP 4 = true := rfl
  have h4 : uQ 4 = true := rfl
  have h5 : uI 4 = false := rfl
  have h6 : (if (4 : Int) = 6 then (-1073741824 : Int) else 1) = 1 := rfl
  unfold mayR Cm.may
  simp only
  rw [F, h0, h1, h2, h3, h4, h5, h6]
  generalize wi cl 1 64 = x1
  generalize wi sq 1 1099511627776 = x2
  generalize wi tm 0 1099511627776 = x3
  generalize wi s 1 2 = y1
  generalize wi a 0 1 = y2
  generalize wi p 1 1073741824 = y3
  generalize wi q 1 1073741824 = y4
  generalize wi i 1 1099511627776 = y5
  generalize (s == 0) = z1
  generalize (a == 0) = z2
  generalize (p == 0) = z3
  generalize (q == 0) = z4
  generalize (i == 0) = z5
  cases x1 <;> cases x2 <;> cases x3 <;> simp only [Bool.and_true, Bool.true_and, Bool.and_false, Bool.false_and, Bool.or_true, Bool.or_false, Bool.true_or, Bool.false_or, Bool.not_true, Bool.not_false] <;>
    (cases y1 <;> cases y2 <;> cases y3 <;> cases y4 <;> cases y5 <;> cases z1 <;> cases z2 <;> cases z3 <;> cases z4 <;> cases z5 <;> rfl)
theorem mayR_k5 (cl sq tm s a p q i : Int) : mayR ⟨5, cl, sq, tm, s, a, p, q, i⟩ = Cm.may ⟨5, cl, sq, tm, s, a, p, q, i⟩ := by
  have F : flds 5 s a p q i = (wi s 1 2 && (wi p 1 1073741824 && (wi q 1 1073741824 && ((a == 0) && ((i == 0)))))) := rfl
  have h0 : wi 5 0 11 = true := rfl
  have h1 : uS 5 = true := rfl
  have h2 : uA 5 = false := rfl
  have h3 : uP 5 = true := rfl
  have h4 : uQ 5 = true := rfl
  have h5 : uI 5 = false := rfl
  have h6 : (if (5 : Int) = 6 then (-1073741824 : Int) else 1) = 1 := rfl
  unfold mayR Cm.may
  simp only
  rw [F, h0, h1, h2, h3, h4, h5, h6]
  generalize wi cl 1 64 = x1
  generalize wi sq 1 1099511627776 = x2
  generalize wi tm 0 1099511627776 = x3
  generalize wi s 1 2 = y1
  generalize wi a 0 1 = y2
  generalize wi p 1 1073741824 = y3
  generalize wi q 1 1073741824 = y4
  generalize wi i 1 1099511627776 = y5
  generalize (s == 0) = z1
  generalize (a == 0) = z2
  generalize (p == 0) = z3
  generalize (q == 0) = z4
  generalize (i == 0) = z5
  cases x1 <;> cases x2 <;> cases x3 <;> simp only [Bool.and_true, Bool.true_and, Bool.and_false, Bool.false_and, Bool.or_true, Bool.or_false, Bool.true_or, Bool.false_or, Bool.not_true, Bool.not_false] <;>
    (cases y1 <;> cases y2 <;> cases y3 <;> cases y4 <;> cases y5 <;> cases z1 <;> cases z2 <;> cases z3 <;> cases z4 <;> cases z5 <;> rfl)
theorem mayR_k6 (cl sq tm s a p q i : Int) : mayR ⟨6, cl, sq, tm, s, a, p, q, i⟩ = Cm.may ⟨6, cl, sq, tm, s, a, p, q, i⟩ := by
  have F : flds 6 s a p q i = (wi s 1 2 && (wi p (-1073741824) 1073741824 && (wi q 1 1073741824 && ((a == 0) && ((i == 0)))))) := rfl
  have h0 : wi 6 0 11 = true := rfl
  have h1 : uS 6 = true := rfl
  have h2 : uA 6 = false := rfl
  have h3 : uP 6 = true := rfl
  have h4 : uQ 6 = true := rfl
  have h5 : uI 6 = false := rfl
  have h6 : (if (6 : Int) = 6 then (-1073741824 : Int) else 1) = -1073741824 := rfl
  unfold mayR Cm.may
  simp only
  rw [F, h0, h1, h2, h3, h4, h5]
  simp only [if_true]
  generalize wi cl 1 64 = x1
  generalize wi sq 1 1099511627776 = x2
  generalize wi tm 0 1099511627776 = x3
  generalize wi s 1 2 = y1
  generalize wi a 0 1 = y2
  generalize wi p (-1073741824) 1073741824 = y3
  generalize wi q 1 1073741824 = y4
  generalize wi i 1 1099511627776 = y5
  generalize (s == 0) = z1
  generalize (a == 0) = z2
  generalize (p == 0) = z3
  generalize (q == 0) = z4
  generalize (i == 0) = z5
  cases x1 <;> cases x2 <;> cases x3 <;> simp only [Bool.and_true, Bool.true_and, Bool.and_false, Bool.false_and, Bool.or_true, Bool.or_false, Bool.true_or, Bool.false_or, Bool.not_true, Bool.not_false] <;>
    (cases y1 <;> cases y2 <;> cases y3 <;> cases y4 <;> cases y5 <;> cases z1 <;> cases z2 <;> cases z3 <;> cases z4 <;> cases z5 <;> rfl)
theorem mayR_k7 (cl sq tm s a p q i : Int) : mayR ⟨7, cl, sq, tm, s, a, p, q, i⟩ = Cm.may ⟨7, cl, sq, tm, s, a, p, q, i⟩ := by
  have F : flds 7 s a p q i = (wi i 1 1099511627776 && ((s == 0) && ((a == 0) && ((p == 0) && ((q == 0)))))) := rfl
  have h0 : wi 7 0 11 = true := rfl
  have h1 : uS 7 = false := rfl
  have h2 : uA 7 = false := rfl
  have h3 : uP 7 = false := rfl
  have h4 : uQ 7 = false := rfl
  have h5 : uI 7 = true := rfl
  have h6 : (if (7 : Int) = 6 then (-1073741824 : Int) else 1) = 1 := rfl
  unfold mayR Cm.may
  simp only
  rw [F, h0, h1, h2, h3, h4, h5, h6]
  generalize wi cl 1 64 = x1
  generalize wi sq 1 1099511627776 = x2
  generalize wi tm 0 1099511627776 = x3
  generalize wi s 1 2 = y1
  generalize wi a 0 1 = y2
  generalize wi p 1 1073741824 = y3
  generalize wi q 1 1073741824 = y4
  generalize wi i 1 1099511627776 = y5
  generalize (s == 0) = z1
  generalize (a == 0) = z2
  generalize (p == 0) = z3
  generalize (q == 0) = z4
  generalize (i == 0) = z5
  cases x1 <;> cases x2 <;> cases x3 <;> simp only [Bool.and_true, Bool.true_and, Bool.and_false, Bool.false_and, Bool.or_true, Bool.or_false, Bool.true_or, Bool.false_or, Bool.not_true, Bool.not_false] <;>
    (cases y1 <;> cases y2 <;> cases y3 <;> cases y4 <;> cases y5 <;> cases z1 <;> cases z2 <;> cases z3 <;> cases z4 <;> cases z5 <;> rfl)
theorem mayR_k8 (cl sq tm s a p q i : Int) : mayR ⟨8, cl, sq, tm, s, a, p, q, i⟩ = Cm.may ⟨8, cl, sq, tm, s, a, p, q, i⟩ := by
  have F : flds 8 s a p q i = (wi i 1 1099511627776 && (wi p 1 1073741824 && (wi q 1 1073741824 && ((s == 0) && ((a == 0)))))) := rfl
  have h0 : wi 8 0 11 = true := rfl
  have h1 : uS 8 = false := rfl
  have h2 : uA 8 = false := rfl
  have h3 : uP 8 = true := rfl
  have h4 : uQ 8 = true := rfl
  have h5 : uI 8 = true := rfl
  have h6 : (if (8 : Int) = 6 then (-1073741824 : Int) else 1) = 1 := rfl
  unfold mayR Cm.may
  simp only
  rw [F, h0, h1, h2, h3, h4, h5, h6]
  generalize wi cl 1 64 = x1
  generalize wi sq 1 1099511627776 = x2
  generalize wi tm 0 1099511627776 = x3
  generalize wi s 1 2 = y1
  generalize wi a 0 1 = y2
  generalize wi p 1 1073741824 = y3
  generalize wi q 1 1073741824 = y4
  generalize wi i 1 1099511627776 = y5
  generalize (s == 0) = z1
  generalize (a == 0) = z2
  generalize (p == 0) = z3
  generalize (q == 0) = z4
  generalize (i == 0) = z5
  cases x1 <;> cases x2 <;> cases x3 <;> simp only [Bool.and_true, Bool.true_and, Bool.and_false, Bool.false_and, Bool.or_true, Bool.or_false, Bool.true_or, Bool.false_or, Bool.not_true, Bool.not_false] <;>
    (cases y1 <;> cases y2 <;> cases y3 <;> cases y4 <;> cases y5 <;> cases z1 <;> cases z2 <;> cases z3 <;> cases z4 <;> cases z5 <;> rfl)
theorem mayR_k9 (cl sq tm s a p q i : Int) : mayR ⟨9, cl, sq, tm, s, a, p, q, i⟩ = Cm.may ⟨9, cl, sq, tm, s, a, p, q, i⟩ := by
  have F : flds 9 s a p q i = (wi a 0 1 && (wi q 1 1073741824 && ((s == 0) && ((p == 0) && ((i == 0)))))) := rfl
  have h0 : wi 9 0 11 = true := rfl
  have h1 : uS 9 = false := rfl
  have h2 : uA 9 = true := rfl
  have h3 : uP 9 = false := rfl
  have h4 : uQ 9 = true := rfl
  have h5 : uI 9 = false := rfl
  have h6 : (if (9 : Int) = 6 then (-1073741824 : Int) else 1) = 1 := rfl
  unfold mayR Cm.may
  simp only
  rw [F, h0, h1, h2, h3, h4, h5, h6]
  generalize wi cl 1 64 = x1
  generalize wi sq 1 1099511627776 = x2
  generalize wi tm 0 1099511627776 = x3
  generalize wi s 1 2 = y1
  generalize wi a 0 1 = y2
  generalize wi p 1 1073741824 = y3
  generalize wi q 1 1073741824 = y4
  generalize wi i 1 1099511627776 = y5
  generalize (s == 0) = z1
  generalize (a == 0) = z2
  generalize (p == 0) = z3
  generalize (q == 0) = z4
  generalize (i == 0) = z5
  cases x1 <;> cases x2 <;> cases x3 <;> simp only [Bool.and_true, Bool.true_and, Bool.and_false, Bool.false_and, Bool.or_true, Bool.or_false, Bool.true_or, Bool.false_or, Bool.not_true, Bool.not_false] <;>
    (cases y1 <;> cases y2 <;> cases y3 <;> cases y4 <;> cases y5 <;> cases z1 <;> cases z2 <;> cases z3 <;> cases z4 <;> cases z5 <;> rfl)
theorem mayR_k10 (cl sq tm s a p q i : Int) : mayR ⟨10, cl, sq, tm, s, a, p, q, i⟩ = Cm.may ⟨10, cl, sq, tm, s, a, p, q, i⟩ := by
  have F : flds 10 s a p q i = (wi a 0 1 && (wi q 1 1073741824 && ((s == 0) && ((p == 0) && ((i == 0)))))) := rfl
  have h0 : wi 10 0 11 = true := rfl
  have h1 : uS 10 = false := rfl
  have h2 : uA 10 = true := rfl
  have h3 : uP 10 = false := rfl
  have h4 : uQ 10 = true := rfl
  have h5 : uI 10 = false := rfl
  have h6 : (if (10 : Int) = 6 then (-1073741824 : Int) else 1) = 1 := rfl
  unfold mayR Cm.may
  simp only
  rw [F, h0, h1, h2, h3, h4, h5, h6]
  generalize wi cl 1 64 = x1
  generalize wi sq 1 1099511627776 = x2
  generalize wi tm 0 1099511627776 = x3
  generalize wi s 1 2 = y1
  generalize wi a 0 1 = y2
  generalize wi p 1 1073741824 = y3
  generalize wi q 1 1073741824 = y4
  generalize wi i 1 1099511627776 = y5
  generalize (s == 0) = z1
  generalize (a == 0) = z2
  generalize (p == 0) = z3
  generalize (q == 0) = z4
  generalize (i == 0) = z5
  cases x1 <;> cases x2 <;> cases x3 <;> simp only [Bool.and_true, Bool.true_and, Bool.and_false, Bool.false_and, Bool.or_true, Bool.or_false, Bool.true_or, Bool.false_or, Bool.not_true, Bool.not_false] <;>
    (cases y1 <;> cases y2 <;> cases y3 <;> cases y4 <;> cases y5 <;> cases z1 <;> cases z2 <;> cases z3 <;> cases z4 <;> cases z5 <;> rfl)
theorem mayR_k11 (cl sq tm s a p q i : Int) : mayR ⟨11, cl, sq, tm, s, a, p, q, i⟩ = Cm.may ⟨11, cl, sq, tm, s, a, p, q, i⟩ := by
  have F : flds 11 s a p q i = (wi p 1 1073741824 && ((s == 0) && ((a == 0) && ((q == 0) && ((i == 0)))))) := rfl
  have h0 : wi 11 0 11 = true := rfl
  have h1 : uS 11 = false := rfl
  have h2 : uA 11 = false := rfl
  have h3 : uP 11 = true := rfl
  have h4 : uQ 11 = false := rfl
  have h5 : uI 11 = false := rfl
  have h6 : (if (11 : Int) = 6 then (-1073741824 : Int) else 1) = 1 := rfl
  unfold mayR Cm.may
  simp only
  rw [F, h0, h1, h2, h3, h4, h5, h6]
  generalize wi cl 1 64 = x1
  generalize wi sq 1 1099511627776 = x2
  generalize wi tm 0 1099511627776 = x3
  generalize wi s 1 2 = y1
  generalize wi a 0 1 = y2
  generalize wi p 1 1073741824 = y3
  generalize wi q 1 1073741824 = y4
  generalize wi i 1 1099511627776 = y5
  generalize (s == 0) = z1
  generalize (a == 0) = z2
  generalize (p == 0) = z3
  generalize (q == 0) = z4
  generalize (i == 0) = z5
  cases x1 <;> cases x2 <;> cases x3 <;> simp only [Bool.and_true, Bool.true_and, Bool.and_false, Bool.false_and, Bool.or_true, Bool.or_false, Bool.true_or, Bool.false_or, Bool.not_true, Bool.not_false] <;>
    (cases y1 <;> cases y2 <;> cases y3 <;> cases y4 <;> cases y5 <;> cases z1 <;> cases z2 <;> cases z3 <;> cases z4 <;> cases z5 <;> rfl)
theorem mayR_eq (c : Cm) : mayR c = c.may := by
  obtain ⟨k, cl, sq, tm, s, a, p, q, i⟩ := c
  by_cases hk : 0 ≤ k ∧ k ≤ 11
  · have : k = 0 ∨ k = 1 ∨ k = 2 ∨ k = 3 ∨ k = 4 ∨ k = 5 ∨ k = 6 ∨ k = 7 ∨ k = 8 ∨ k = 9 ∨ k = 10 ∨ k = 11 := by omega
    rcases this with rfl | rfl | rfl | rfl | rfl | rfl | rfl | rfl | rfl | rfl | rfl | rfl
    · exact mayR_k0 cl sq tm s a p q i
    · exact mayR_k1 cl sq tm s a p q i
    · exact mayR_k2 cl sq tm s a p q i
    · exact mayR_k3 cl sq tm s a p q i
    · exact mayR_k4 cl sq tm s a p q i
    · exact mayR_k5 cl sq tm s a p q i
    · exact mayR_k6 cl sq tm s a p q i
    · exact mayR_k7 cl sq tm s a p q i
    · exact mayR_k8 cl sq tm s a p q i
    · exact mayR_k9 cl sq tm s a p q i
    · exact mayR_k10 cl sq tm s a p q i
    · exact mayR_k11 cl sq tm s a p q i
  · unfold mayR Cm.may
    simp only
    have hf : flds k s a p q i = false := by
      cases h : flds k s a p q i with
      | false => rfl
      | true => exact absurd (flds_kind h) hk
    have hw : wi k 0 11 = false := by simp [wi]; omega
    rw [hf, hw]; simp
end Go.Proofs.YtmnoahglajilhaaDoor
