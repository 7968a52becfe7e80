/- Floats that stand for whole numbers: sums, differences, products of small ones are exact. Plain facts on Ieee, no program. -/
import Derived.Test.YtgmpekkoffkphaaRows
import Derived.WalkKit
import Derived.WalkLawsBesides
import Derived.Lib.Hide
namespace Go.Proofs.Ytgmpekkoffkphaa.flt
open Ieee

/-- What a datum stands for is the whole number n. -/
def dat (d : Datum) (n : Int) : Prop := ∃ s m e, d = .number s m e ∧ signed s m e.toNat = n * 2 ^ (-e).toNat
/-- The word b stands for the whole number n. -/
def rep (b : Nat) (n : Int) : Prop := dat (double.read b) n

theorem signed_def (s : Bool) (m k : Nat) : signed s m k = (if s then -((m * 2 ^ k : Nat) : Int) else ((m * 2 ^ k : Nat) : Int)) := by
  unfold signed
  rw [Nat.shiftLeft_eq]

theorem log2_of {n k : Nat} (h1 : 2 ^ k ≤ n) (h2 : n < 2 ^ (k + 1)) : n.log2 = k := by
  have hn : n ≠ 0 := by have := Nat.two_pow_pos k; omega
  have a := Nat.le_log2 hn (k := k) |>.2 h1
  have b := Nat.log2_lt hn (k := k + 1) |>.2 h2
  omega
theorem log2_mul_pow (n k : Nat) (hn : n ≠ 0) : (n * 2 ^ k).log2 = n.log2 + k := by
  have h1 := Nat.log2_self_le hn
  have h2 := Nat.lt_log2_self (n := n)
  refine log2_of ?_ ?_
  · rw [Nat.pow_add]; exact Nat.mul_le_mul_right _ h1
  · rw [show n.log2 + k + 1 = (n.log2 + 1) + k by omega, Nat.pow_add]
    exact (Nat.mul_lt_mul_right (Nat.two_pow_pos k)).2 h2

/-- A cut that drops nothing but noughts. -/
theorem cut_exact (s : Bool) (n d : Nat) (hn : n ≠ 0) (h : 2 ^ d ∣ n) : Toward.even.cut s n d = n / 2 ^ d := by
  have hd : d ≤ n.log2 := (Nat.le_log2 hn).2 (Nat.le_of_dvd (Nat.pos_of_ne_zero hn) h)
  have hm : min d (n.log2 + 2) = d := Nat.min_eq_left (by omega)
  unfold Toward.cut
  have hr : n % 2 ^ d = 0 := Nat.mod_eq_zero_of_dvd h
  have hp := Nat.two_pow_pos d
  simp only [hm, Nat.shiftLeft_eq, Nat.one_mul, hr]
  have h1 : ¬ (2 ^ d < 2 * 0) := by omega
  have h2 : ¬ (2 ^ d = 2 * 0) := by omega
  simp [h1]

theorem read_word (s : Bool) (r : Nat) (h : r < double.signWeight) : double.read (double.word s r) =
    (if r < double.binade then .number s r double.leastPlace else if r < double.infRung then .number s (double.binade + r % double.binade) (double.leastPlace + (r / double.binade - 1 : Nat)) else if r = double.infRung then .infinity s else .nan s (r - double.infRung)) := by
  have hs : 0 < double.signWeight := Nat.two_pow_pos _
  have h1 : (double.word s r / double.signWeight % 2 == 1) = s := by
    unfold Format.word
    cases s
    · simp [Nat.div_eq_of_lt h]
    · simp only [if_true]
      rw [Nat.add_div_left _ hs, Nat.div_eq_of_lt h]
      rfl
  have h2 : double.word s r % double.signWeight = r := by
    unfold Format.word
    cases s
    · simp [Nat.mod_eq_of_lt h]
    · simp only [if_true, Nat.add_mod_left, Nat.mod_eq_of_lt h]
  unfold Format.read
  rw [h1, h2]

theorem binade_eq : double.binade = 2 ^ 52 := rfl
theorem signWeight_eq : double.signWeight = 2 ^ 63 := rfl
theorem infRung_eq : double.infRung = 2047 * 2 ^ 52 := by decide
theorem least_eq : double.leastPlace = -1074 := by decide

theorem sw_eq : double.signWeight = 2048 * double.binade := by decide
theorem ir_eq : double.infRung = 2047 * double.binade := by decide
theorem read_normal (s : Bool) (t K : Nat) (ht : t ≤ 1075) (hK1 : double.binade ≤ K) (hK2 : K < 2 * double.binade) :
    double.read (double.word s (min (t * double.binade + K) double.infRung)) = .number s K ((t : Int) - 1074) := by
  have hpos : 0 < double.binade := Nat.two_pow_pos _
  have h1 := sw_eq
  have h2 := ir_eq
  have h3 := least_eq
  have hread := fun R => read_word s R
  generalize double.binade = B at *
  have htB : t * B ≤ 1075 * B := Nat.mul_le_mul_right _ ht
  obtain ⟨R, hR⟩ : ∃ R, R = t * B + K := ⟨_, rfl⟩
  have hm : min (t * B + K) double.infRung = R := by rw [h2, hR]; exact Nat.min_eq_left (by omega)
  have hdiv : R / B = t + 1 := by
    rw [hR, show t * B + K = (K - B) + B * (t + 1) by rw [Nat.mul_succ, Nat.mul_comm t]; omega, Nat.add_mul_div_left _ _ hpos, Nat.div_eq_of_lt (by omega), Nat.zero_add]
  have hmod : R % B = K - B := by
    rw [hR, show t * B + K = (K - B) + B * (t + 1) by rw [Nat.mul_succ, Nat.mul_comm t]; omega, Nat.add_mul_mod_self_left, Nat.mod_eq_of_lt (by omega)]
  rw [hm, hread R (by rw [h1]; omega), if_neg (by omega), if_pos (by rw [h2]; omega), hmod, hdiv, h3]
  congr 1
  · omega

/-- Writing a whole number of at most 53 digits keeps it. -/
theorem rep_write {d : Datum} {n : Int} (h : dat d n) (hn : n.natAbs ≤ 2 ^ 53) : rep (double.write d) n := by
  obtain ⟨s, m, e, rfl, hv⟩ := h
  show rep (double.nearest s m e) n
  unfold Format.nearest
  by_cases hm : m = 0
  · rw [if_pos hm]
    subst hm
    have hn0 : n = 0 := by
      rw [signed_def] at hv
      have h2 : n * 2 ^ (-e).toNat = 0 := by cases s <;> simpa using hv.symm
      rcases Int.mul_eq_zero.1 h2 with h | h
      · exact h
      · exact absurd h (by have := Int.pow_pos (n := 2) (m := (-e).toNat) (by omega); omega)
    subst hn0
    unfold rep
    rw [read_word s 0 (Nat.two_pow_pos _), if_pos (show 0 < double.binade from Nat.two_pow_pos _)]
    exact ⟨s, 0, _, rfl, by rw [signed_def]; cases s <;> simp⟩
  · rw [if_neg hm]
    -- the sign and the magnitude
    have hp1 := Nat.two_pow_pos e.toNat
    have hp2 := Nat.two_pow_pos (-e).toNat
    have hab : m * 2 ^ e.toNat = n.natAbs * 2 ^ (-e).toNat := by
      have h1 := congrArg Int.natAbs hv
      rw [Int.natAbs_mul, Int.natAbs_pow, signed_def] at h1
      cases s
      · simp only [Bool.false_eq_true, if_false, Int.natAbs_natCast] at h1
        exact h1
      · simp only [if_true, Int.natAbs_neg, Int.natAbs_natCast] at h1
        exact h1
    have hsg : n = if s then -(n.natAbs : Int) else (n.natAbs : Int) := by
      rw [signed_def] at hv
      have hmp : (0 : Int) < ((m * 2 ^ e.toNat : Nat) : Int) := by
        have := Nat.mul_pos (Nat.pos_of_ne_zero hm) hp1
        omega
      have hpz : (0 : Int) < 2 ^ (-e).toNat := Int.pow_pos (by omega)
      cases s
      · simp only [Bool.false_eq_true, if_false] at hv ⊢
        rw [hv] at hmp
        have := Int.pos_of_mul_pos_left hmp hpz
        omega
      · simp only [if_true] at hv ⊢
        have h0 : 0 < (-n) * 2 ^ (-e).toNat := by rw [Int.neg_mul, ← hv]; omega
        have := Int.pos_of_mul_pos_left h0 hpz
        omega
    generalize hN : n.natAbs = N at *
    have hN0 : N ≠ 0 := by
      intro h0
      rw [h0, Nat.zero_mul] at hab
      rcases Nat.mul_eq_zero.1 hab with h | h <;> omega
    obtain ⟨k, hk⟩ : ∃ k, k = N.log2 := ⟨_, rfl⟩
    have hk1 : 2 ^ k ≤ N := by rw [hk]; exact Nat.log2_self_le hN0
    have hk2 : N < 2 ^ (k + 1) := by rw [hk]; exact Nat.lt_log2_self
    have hk53 : k ≤ 53 := by
      rcases Nat.lt_or_ge 53 k with h | h
      · have := Nat.pow_lt_pow_right (a := 2) (by omega) h
        omega
      · exact h
    have hlog : m.log2 + e.toNat = k + (-e).toNat := by
      have h1 := log2_mul_pow m e.toNat hm
      have h2 := log2_mul_pow N (-e).toNat hN0
      rw [hab, h2, ← hk] at h1
      omega
    have hlast : max (e + m.log2 - double.fractionBits) double.leastPlace = (k : Int) - 52 := by
      rw [least_eq]
      show max (e + m.log2 - (52 : Nat)) (-1074) = _
      omega
    rw [hlast]
    obtain ⟨l, hl⟩ : ∃ l : Int, l = (k : Int) - 52 := ⟨_, rfl⟩
    rw [← hl]
    -- the digits that are kept
    obtain ⟨K, hK, hK1, hK2⟩ : ∃ K : Nat, K * 2 ^ l.toNat = N * 2 ^ (-l).toNat ∧ 2 ^ 52 ≤ K ∧ K < 2 ^ 53 := by
      by_cases h52 : k ≤ 52
      · refine ⟨N * 2 ^ (52 - k), ?_, ?_, ?_⟩
        · rw [show l.toNat = 0 by omega, show (-l).toNat = 52 - k by omega, Nat.pow_zero, Nat.mul_one]
        · calc 2 ^ 52 = 2 ^ k * 2 ^ (52 - k) := by rw [← Nat.pow_add]; congr 1; omega
            _ ≤ N * 2 ^ (52 - k) := Nat.mul_le_mul_right _ hk1
        · calc N * 2 ^ (52 - k) < 2 ^ (k + 1) * 2 ^ (52 - k) := (Nat.mul_lt_mul_right (Nat.two_pow_pos _)).2 hk2
            _ = 2 ^ 53 := by rw [← Nat.pow_add]; congr 1; omega
      · obtain rfl : k = 53 := by omega
        have hNe : N = 2 ^ 53 := by omega
        refine ⟨2 ^ 52, ?_, by omega, by omega⟩
        rw [show l.toNat = 1 by omega, show (-l).toNat = 0 by omega, hNe]
    have hkey : m * 2 ^ (e - l).toNat = K * 2 ^ (l - e).toNat := by
      have hexp : (e - l).toNat + ((-e).toNat + l.toNat) = (l - e).toNat + (e.toNat + (-l).toNat) := by omega
      have h1 : m * 2 ^ (e.toNat + (-l).toNat) = K * 2 ^ (l.toNat + (-e).toNat) := by
        rw [Nat.pow_add, ← Nat.mul_assoc, hab, Nat.pow_add, ← Nat.mul_assoc, hK, Nat.mul_assoc, Nat.mul_assoc, Nat.mul_comm (2 ^ (-e).toNat)]
      have hpos := Nat.two_pow_pos ((-e).toNat + l.toNat)
      apply Nat.eq_of_mul_eq_mul_right hpos
      rw [Nat.mul_assoc, ← Nat.pow_add, hexp, Nat.pow_add, Nat.mul_comm (2 ^ (l - e).toNat), ← Nat.mul_assoc, h1, Nat.mul_assoc, Nat.mul_assoc, Nat.mul_comm (2 ^ (l.toNat + (-e).toNat)), Nat.add_comm l.toNat]
    have hcut : Toward.even.cut s (m <<< (e - l).toNat) (l - e).toNat = K := by
      rw [Nat.shiftLeft_eq, hkey, cut_exact s _ _ _ ⟨K, Nat.mul_comm _ _⟩, Nat.mul_div_cancel _ (Nat.two_pow_pos _)]
      exact Nat.mul_ne_zero (by omega) (by have := Nat.two_pow_pos (l - e).toNat; omega)
    show rep (double.word s (min ((l - double.leastPlace).toNat * double.binade + Toward.even.cut s (m <<< (e - l).toNat) (l - e).toNat) double.infRung)) n
    rw [hcut, least_eq]
    obtain ⟨t, ht⟩ : ∃ t : Nat, t = (l - -1074).toNat := ⟨_, rfl⟩
    rw [← ht]
    have ht1 : t ≤ 1075 := by omega
    have hpl : (t : Int) - 1074 = l := by omega
    unfold rep
    rw [read_normal s t K ht1 hK1 (Nat.lt_of_lt_of_le hK2 (Nat.le_refl _)), hpl]
    refine ⟨s, K, l, rfl, ?_⟩
    rw [signed_def, hK, hsg]
    cases s <;> simp [Int.neg_mul]

theorem signed_add (s : Bool) (m p q : Nat) : signed s m (p + q) = signed s m p * 2 ^ q := by
  rw [signed_def, signed_def, Nat.pow_add, ← Nat.mul_assoc]
  cases s <;> simp [Int.neg_mul]
theorem pw_pos (k : Nat) : (0 : Int) < 2 ^ k := Int.pow_pos (by omega)
theorem pw_cancel {a b : Int} (k : Nat) (h : a * 2 ^ k = b * 2 ^ k) : a = b := Int.eq_of_mul_eq_mul_right (Int.ne_of_gt (pw_pos k)) h
theorem signed_shift {s : Bool} {m : Nat} {i base a : Int} (hb : base ≤ i) (h : signed s m i.toNat = a * 2 ^ (-i).toNat) :
    signed s m (i - base).toNat * 2 ^ base.toNat = a * 2 ^ (-base).toNat := by
  apply pw_cancel (-i).toNat
  rw [← signed_add, ← signed_add, show (i - base).toNat + base.toNat + (-i).toNat = i.toNat + (-base).toNat by omega, signed_add, h, Int.mul_assoc, Int.mul_assoc, Int.mul_comm (2 ^ (-i).toNat)]
theorem signed_abs (s : Bool) (z : Int) (k : Nat) : signed (if z = 0 then s else decide (z < 0)) z.natAbs k = z * 2 ^ k := by
  rw [signed_def]
  by_cases h0 : z = 0
  · subst h0
    simp
  · rw [if_neg h0]
    by_cases h1 : z < 0
    · have h2 : ((z.natAbs : Nat) : Int) = -z := by omega
      simp only [h1, decide_true, if_true, Int.natCast_mul, h2, Int.neg_mul, Int.neg_neg]
      simp
    · have h2 : ((z.natAbs : Nat) : Int) = z := by omega
      simp only [h1, decide_false, Bool.false_eq_true, if_false, Int.natCast_mul, h2]
      simp

theorem dat_sum {d e : Datum} {a b : Int} (h1 : dat d a) (h2 : dat e b) : ∃ r, d.sum e = some r ∧ dat r (a + b) := by
  obtain ⟨s, m, i, rfl, hs⟩ := h1
  obtain ⟨t, n, j, rfl, ht⟩ := h2
  refine ⟨_, rfl, _, _, _, rfl, ?_⟩
  rw [signed_abs, Int.add_mul, signed_shift (by omega) hs, signed_shift (by omega) ht, ← Int.add_mul]

theorem dat_product {d e : Datum} {a b : Int} (h1 : dat d a) (h2 : dat e b) : ∃ r, d.product e = some r ∧ dat r (a * b) := by
  obtain ⟨s, m, i, rfl, hs⟩ := h1
  obtain ⟨t, n, j, rfl, ht⟩ := h2
  refine ⟨_, rfl, _, _, _, rfl, ?_⟩
  have hm : ∀ p q, signed (s ^^ t) (m * n) (p + q) = signed s m p * signed t n q := by
    intro p q
    rw [signed_def, signed_def, signed_def, Nat.pow_add, show m * n * (2 ^ p * 2 ^ q) = (m * 2 ^ p) * (n * 2 ^ q) by ac_rfl]
    cases s <;> cases t <;> simp [Int.neg_mul, Int.mul_neg]
  apply pw_cancel ((-i).toNat + (-j).toNat)
  rw [← signed_add, show (i + j).toNat + ((-i).toNat + (-j).toNat) = (i.toNat + j.toNat) + (-(i + j)).toNat by omega, signed_add, hm, hs, ht, Int.pow_add]
  ac_rfl

theorem dat_opposite {d : Datum} {a : Int} (h : dat d a) : dat d.opposite (-a) := by
  obtain ⟨s, m, i, rfl, hs⟩ := h
  refine ⟨_, _, _, rfl, ?_⟩
  rw [Int.neg_mul, ← hs, signed_def, signed_def]
  cases s <;> simp

theorem cmp_scale (a b : Int) (k : Nat) : compare (a * 2 ^ k) (b * 2 ^ k) = compare a b := by
  have hp := pw_pos k
  have h1 : a * 2 ^ k < b * 2 ^ k ↔ a < b := ⟨fun h => Int.lt_of_mul_lt_mul_right h (Int.le_of_lt hp), fun h => Int.mul_lt_mul_of_pos_right h hp⟩
  have h2 : a * 2 ^ k = b * 2 ^ k ↔ a = b := ⟨pw_cancel k, fun h => by rw [h]⟩
  simp only [compareOfLessAndEq, compare, h1, h2]

theorem dat_order {d e : Datum} {a b : Int} (h1 : dat d a) (h2 : dat e b) : d.order e = some (compare a b) := by
  obtain ⟨s, m, i, rfl, hs⟩ := h1
  obtain ⟨t, n, j, rfl, ht⟩ := h2
  show some (compare _ _) = _
  rw [← cmp_scale _ _ (min i j).toNat, signed_shift (by omega) hs, signed_shift (by omega) ht, cmp_scale]
end Go.Proofs.Ytgmpekkoffkphaa.flt

namespace Go.Proofs.Ytgmpekkoffkphaa.flt
open Ieee
theorem rep_add {x y : Nat} {a b : Int} (h1 : rep x a) (h2 : rep y b) (h : (a + b).natAbs ≤ 2 ^ 53) : ∃ r, floatBits .add .f64 x y = some r ∧ rep r (a + b) := by
  obtain ⟨d, hd, hr⟩ := dat_sum h1 h2
  refine ⟨double.write d, ?_, rep_write hr h⟩
  show ((double.read x).sum (double.read y)).map double.write = _
  rw [hd]; rfl
theorem rep_sub {x y : Nat} {a b : Int} (h1 : rep x a) (h2 : rep y b) (h : (a - b).natAbs ≤ 2 ^ 53) : ∃ r, floatBits .sub .f64 x y = some r ∧ rep r (a - b) := by
  obtain ⟨d, hd, hr⟩ := dat_sum h1 (dat_opposite h2)
  rw [← Int.sub_eq_add_neg] at hr
  refine ⟨double.write d, ?_, rep_write hr h⟩
  show ((double.read x).sum (double.read y).opposite).map double.write = _
  rw [hd]; rfl
theorem rep_mul {x y : Nat} {a b : Int} (h1 : rep x a) (h2 : rep y b) (h : (a * b).natAbs ≤ 2 ^ 53) : ∃ r, floatBits .mul .f64 x y = some r ∧ rep r (a * b) := by
  obtain ⟨d, hd, hr⟩ := dat_product h1 h2
  refine ⟨double.write d, ?_, rep_write hr h⟩
  show ((double.read x).product (double.read y)).map double.write = _
  rw [hd]; rfl
theorem rep_order {x y : Nat} {a b : Int} (h1 : rep x a) (h2 : rep y b) : FloatKind.f64.format.order x y = some (compare a b) := dat_order h1 h2
theorem rep_ofInt {n : Int} (h : n.natAbs ≤ 2 ^ 53) : rep (floatOfInt .f64 n) n := by
  refine rep_write (d := .number (n < 0) n.natAbs 0) ⟨_, _, _, rfl, ?_⟩ h
  have h1 := signed_abs false n 0
  by_cases h0 : n = 0
  · subst h0; rfl
  · rw [if_neg h0] at h1; exact h1
theorem rep_neg {x : Nat} {a : Int} (h : rep x a) : rep (Op.negFloat .f64 x) (-a) := by
  have h1 : double.read (Op.negFloat .f64 x) = (double.read x).opposite := by
    unfold Op.negFloat
    show double.read (x ^^^ 2 ^ 63) = _
    have e1 : (x ^^^ 2 ^ 63) % 2 ^ 63 = x % 2 ^ 63 := by
      rw [Nat.xor_mod_two_pow, Nat.mod_self, Nat.xor_zero]
    have e2 : ((x ^^^ 2 ^ 63) / 2 ^ 63 % 2 == 1) = !(x / 2 ^ 63 % 2 == 1) := by
      rw [← Nat.shiftRight_eq_div_pow, Nat.shiftRight_xor_distrib, Nat.shiftRight_eq_div_pow, show 2 ^ 63 >>> 63 = 1 by decide]
      have h2 := Nat.xor_mod_two_pow (a := x / 2 ^ 63) (b := 1) (n := 1)
      rw [Nat.pow_one] at h2
      rw [h2]
      have h3 : x / 2 ^ 63 % 2 = 0 ∨ x / 2 ^ 63 % 2 = 1 := by omega
      rcases h3 with h3 | h3 <;> rw [h3] <;> decide
    unfold Format.read
    rw [signWeight_eq, e1, e2]
    dsimp only
    split
    · rfl
    · split
      · rfl
      · split <;> rfl
  unfold rep
  rw [h1]
  exact dat_opposite h
theorem rep_zero : rep 0 0 := ⟨false, 0, -1074, by decide, by rw [signed_def, Int.zero_mul, Nat.zero_mul]; rfl⟩
theorem rep_one : rep 4607182418800017408 1 := ⟨false, 2 ^ 52, -52, by decide, by decide⟩
theorem rep_four : rep 4616189618054758400 4 := ⟨false, 2 ^ 52, -50, by decide, by decide⟩
end Go.Proofs.Ytgmpekkoffkphaa.flt
