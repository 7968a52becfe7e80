/- The walks of package policy over numbers that stand for whole ones: Fuller, Fraction; the reference's own. -/
import Derived.Test.YtgmpekkoffkphaaFloat
import Derived.WalkSpells
import Derived.ChangeKeysEq
import Derived.Laws.Tables
import Derived.Maps.RangeWalk
import Derived.Deep.RegionWith
namespace Go.Proofs.Ytgmpekkoffkphaa
open Go.RowKit flt
set_option linter.unusedSimpArgs false

theorem wpList_want {ops : Array Oper} {rest : List Oper} {o : Oper} {a : Act} {W : World} {Q : Exit → Act → World → Prop} (hw : Region.wanted o (yielded ops a.tmps) = true)
    (h : ∀ K : Act → World → Prop, (∀ a w, wpList Try.prog ops Q rest a w → K a w) → o.wp Try.prog a W K Q) : wpList Try.prog ops Q (o :: rest) a W :=
  wpList_step fun K hK => by rw [if_pos hw]; exact h K hK
theorem mem0 {α : Type} {p : α} {l : List α} : p ∈ p :: l := List.mem_cons_self
theorem mem1 {α : Type} {p a : α} {l : List α} : p ∈ a :: p :: l := List.mem_cons_of_mem _ mem0
theorem mem2 {α : Type} {p a b : α} {l : List α} : p ∈ a :: b :: p :: l := List.mem_cons_of_mem _ mem1
theorem mem3 {α : Type} {p a b c : α} {l : List α} : p ∈ a :: b :: c :: p :: l := List.mem_cons_of_mem _ mem2

section
variable {ops : Array Oper} {rest : List Oper} {o : Oper} {a : Act} {W : World} {Q : Exit → Act → World → Prop}
/-- A binary operation whose answer is known. -/
theorem wl_bin (hw : Region.wanted o (yielded ops a.tmps) = true) (b : BinOp) (t t' : TypeId) (x y : Operand) (ho : o.op = .binOp b t x y t') (vx vy v : Value) (hrun : ∀ w, (binOp b t vx vy).run Try.prog w = .ok v w)
    (hx : a.eval x = vx) (hy : a.eval y = vy) (hne : b ≠ .eql ∧ b ≠ .neq) (hK : wpList Try.prog ops Q rest (a.put o.dst v) W) : wpList Try.prog ops Q (o :: rest) a W := by
  refine wpList_want hw fun K hK' => ?_
  unfold Oper.wp execOp
  obtain ⟨h1, h2⟩ := hne
  cases b <;> first | exact absurd rfl h1 | exact absurd rfl h2 | (simp only [ho, hx, hy, Sem.run_bind, hrun, Result.andThen_ok, Sem.run_pure]; exact hK' _ _ hK)
theorem wl_negf (hw : Region.wanted o (yielded ops a.tmps) = true) (x : Operand) (ho : o.op = .unOp .neg 39 x) (d : Nat) (hx : a.eval x = .float .f64 d)
    (hK : wpList Try.prog ops Q rest (a.put o.dst (.float .f64 (Op.negFloat .f64 d))) W) : wpList Try.prog ops Q (o :: rest) a W := by
  refine wpList_want hw fun K hK' => ?_
  unfold Oper.wp execOp
  simp only [ho, hx, Op.unary, Sem.run_bind, Sem.run_pure, Result.andThen_ok]
  exact hK' _ _ hK
end

theorem ret_tmp {fn : Func} {t : Tmp} {R : Ending → World → Prop} {a : Act} {W : World} (h : fn.results = #[.tmp t]) (v : Value) (hv : a.tmps.getD t undef = v) (hd : a.defers = []) (hR : R (.returned v) W) : bodyPost Try.prog fn R .ret a W :=
  bodyPost_ret (v := v) (by rw [results_tmp h, hv]) hd hR

/-- Who is the fuller of x/u and y/v? -/
def ful (x u y v : Int) : Int := if y * u < x * v then 1 else if x * v < y * u then -1 else 0

def small (x : Int) : Prop := -2097152 ≤ x ∧ x ≤ 2097152
theorem small_mul {x y : Int} (hx : small x) (hy : small y) : -4398046511104 ≤ x * y ∧ x * y ≤ 4398046511104 := by
  have h1 : (x * y).natAbs ≤ 2097152 * 2097152 := by
    rw [Int.natAbs_mul]
    exact Nat.mul_le_mul (by have := hx.1; have := hx.2; omega) (by have := hy.1; have := hy.2; omega)
  omega

theorem rep_cmul {a b c d : Nat} {x u y v : Int} (ha : rep a x) (hb : rep b u) (hc : rep c y) (hd : rep d v) (hx : small x) (hu : small u) (hy : small y) (hv : small v) :
    ∃ re im, cMulBits a b c d = some (re, im) ∧ rep re (x * y - u * v) ∧ rep im (x * v + u * y) := by
  have m1 := small_mul hx hy
  have m2 := small_mul hu hv
  have m3 := small_mul hx hv
  have m4 := small_mul hu hy
  obtain ⟨p, hp, rp⟩ := rep_mul ha hc (by omega)
  obtain ⟨q, hq, rq⟩ := rep_mul hb hd (by omega)
  obtain ⟨r, hr, rr⟩ := rep_sub rp rq (by omega)
  obtain ⟨s, hs, rs⟩ := rep_mul ha hd (by omega)
  obtain ⟨t, ht, rt⟩ := rep_mul hb hc (by omega)
  obtain ⟨z, hz, rz⟩ := rep_add rs rt (by omega)
  exact ⟨r, z, by simp only [cMulBits, hp, hq, hr, hs, ht, hz, Option.bind_some], rr, rz⟩

theorem run_flss {x y : Nat} {a b : Int} (t : TypeId) (h1 : rep x a) (h2 : rep y b) (w : World) : (binOp .lss t (.float .f64 x) (.float .f64 y)).run Try.prog w = .ok (.bool (decide (a < b))) w := by
  rw [binOp_float_cmp_lss, rep_order h1 h2]
  show Result.ok _ _ = _
  congr 2
  by_cases h : a < b
  · rw [show compare a b = .lt by simp [compare, compareOfLessAndEq, h]]; simp [h]
  · rw [decide_eq_false h]
    by_cases e : a = b
    · subst e; simp [compare, compareOfLessAndEq]
    · simp [compare, compareOfLessAndEq, h, e]
theorem run_fgtr {x y : Nat} {a b : Int} (t : TypeId) (h1 : rep x a) (h2 : rep y b) (w : World) : (binOp .gtr t (.float .f64 x) (.float .f64 y)).run Try.prog w = .ok (.bool (decide (b < a))) w := by
  rw [binOp_float_cmp_gtr, rep_order h1 h2]
  show Result.ok _ _ = _
  congr 2
  by_cases h : a < b
  · rw [show compare a b = .lt by simp [compare, compareOfLessAndEq, h], decide_eq_false (by omega)]; rfl
  · by_cases e : a = b
    · subst e; simp [compare, compareOfLessAndEq]
    · rw [decide_eq_true (by omega)]; simp [compare, compareOfLessAndEq, h, e]

set_option maxHeartbeats 400000 in
theorem fuller_any {a b c d : Nat} {x u y v : Int} (ha : rep a x) (hb : rep b u) (hc : rep c y) (hd : rep d v) (hx : small x) (hu : small u) (hy : small y) (hv : small v) (w : World) :
    Calls Try.prog 11 #[.complex .f64 a b, .complex .f64 c d] w fun e w' => e = .returned (.int .i64 (ful x u y v)) ∧ w' = w := by
  obtain ⟨re, im, hm, _, him⟩ := rep_cmul ha hb hc (rep_neg hd) hx hu hy (show small (-v) by have := hv.1; have := hv.2; constructor <;> omega)
  have r1 := fun t w => run_flss t him rep_zero w
  have r2 := fun t w => run_fgtr t him rep_zero w
  have hmul := fun t w => run_complex_mul (P := Try.prog) w t _ _ _ _ _ _ hm
  rw [Int.mul_neg, Int.mul_comm u y] at r1 r2
  clear ha hb hc hd hm him
  by_cases h1 : y * u < x * v
  · rw [ful, if_pos h1]
    rw [decide_eq_true (by omega)] at r1
    go_enter Try.func11, Try.ntmps11
    go_wp2_with (first
      | (refine wl_negf rfl _ rfl d rfl ?_; go_frame)
      | (refine wl_bin rfl .mul 33 33 _ _ rfl _ _ _ (hmul 33) rfl rfl (by decide) ?_; go_frame)
      | (refine wl_bin rfl .lss 39 39 _ _ rfl _ _ _ (r1 39) rfl rfl (by decide) ?_; go_frame))
    exact ret_tmp rfl _ rfl rfl ⟨rfl, rfl⟩
  · rw [ful, if_neg h1]
    rw [decide_eq_false (by omega)] at r1
    by_cases h2 : x * v < y * u
    · rw [if_pos h2]
      rw [decide_eq_true (by omega)] at r2
      go_enter Try.func11, Try.ntmps11
      go_wp2_with (first
        | (refine wl_negf rfl _ rfl d rfl ?_; go_frame)
        | (refine wl_bin rfl .mul 33 33 _ _ rfl _ _ _ (hmul 33) rfl rfl (by decide) ?_; go_frame)
        | (refine wl_bin rfl .lss 39 39 _ _ rfl _ _ _ (r1 39) rfl rfl (by decide) ?_; go_frame)
        | (refine wl_bin rfl .gtr 39 39 _ _ rfl _ _ _ (r2 39) rfl rfl (by decide) ?_; go_frame))
      exact ret_tmp rfl _ rfl rfl ⟨rfl, rfl⟩
    · rw [if_neg h2]
      rw [decide_eq_false (by omega)] at r2
      go_enter Try.func11, Try.ntmps11
      go_wp2_with (first
        | (refine wl_negf rfl _ rfl d rfl ?_; go_frame)
        | (refine wl_bin rfl .mul 33 33 _ _ rfl _ _ _ (hmul 33) rfl rfl (by decide) ?_; go_frame)
        | (refine wl_bin rfl .lss 39 39 _ _ rfl _ _ _ (r1 39) rfl rfl (by decide) ?_; go_frame)
        | (refine wl_bin rfl .gtr 39 39 _ _ rfl _ _ _ (r2 39) rfl rfl (by decide) ?_; go_frame))
      exact ret_tmp rfl _ rfl rfl ⟨rfl, rfl⟩

/-- A fraction's two whole numbers. -/
def den (b : Int) : Int := if b < 1 then 1 else if b < 1048576 then b else 1048576
def num (a b : Int) : Int := if b < 1 then 1 else if (if a < 0 then 0 else a) < den b then (if a < 0 then 0 else a) else den b
theorem den_le (b : Int) : 1 ≤ den b ∧ den b ≤ 1048576 := by 
  unfold den
  repeat' split
  all_goals omega
theorem num_le (a b : Int) : 0 ≤ num a b ∧ num a b ≤ den b := by
  have h := den_le b
  unfold num
  split
  · rename_i h0
    rw [den, if_pos h0]; omega
  · split <;> split <;> omega

/-- A value that is the complex number x + u·i. -/
def IsC (v : Value) (x u : Int) : Prop := ∃ a b, v = .complex .f64 a b ∧ rep a x ∧ rep b u

theorem rep_of {n m : Int} (h : n = m) (hb : -2 ≤ m ∧ m ≤ 1048577) : rep (floatOfInt .f64 n) m := by
  subst h; exact rep_ofInt (by omega)

set_option maxHeartbeats 400000 in
theorem fraction_any (a b : Int) (w : World) :
    Calls Try.prog 13 #[.int .i64 a, .int .i64 b] w fun e w' => (∃ v, e = .returned v ∧ IsC v (num a b) (den b)) ∧ w' = w := by
  by_cases h : b < 1
  · go_enter Try.func13, Try.ntmps13
    go_wp2
    refine ret_tmp rfl _ rfl rfl ⟨⟨_, rfl, _, _, rfl, ?_, ?_⟩, rfl⟩
    · rw [num, if_pos h]; exact rep_one
    · rw [den, if_pos h]; exact rep_one
  · have hn := num_le a b
    have hd := den_le b
    go_enter Try.func13, Try.ntmps13
    go_wp2
    all_goals
      refine ret_tmp rfl _ rfl rfl ⟨⟨_, rfl, _, _, rfl, ?_, ?_⟩, rfl⟩
      · refine rep_of ?_ (by omega)
        simp only [num, den]
        repeat' split
        all_goals first | omega | (split at * <;> omega)
      · refine rep_of ?_ (by omega)
        simp only [den]
        repeat' split
        all_goals omega
theorem number_any (a b : Int) (w : World) :
    Calls Try.prog 20 #[.int .i64 a, .int .i64 b] w fun e w' => e = .returned (.int .i64 (if a < b then b else if 1048576 < a then 1048576 else a)) ∧ w' = w := by
  by_cases h : a < b
  · rw [if_pos h]
    go_enter Try.func20, Try.ntmps20
    go_wp2
    exact ret_tmp rfl _ rfl rfl ⟨rfl, rfl⟩
  · rw [if_neg h]
    by_cases h2 : 1048576 < a
    · rw [if_pos h2]
      go_enter Try.func20, Try.ntmps20
      go_wp2
      exact ret_tmp rfl _ rfl rfl ⟨rfl, rfl⟩
    · rw [if_neg h2]
      go_enter Try.func20, Try.ntmps20
      go_wp2
      exact ret_tmp rfl _ rfl rfl ⟨rfl, rfl⟩
end Go.Proofs.Ytgmpekkoffkphaa
