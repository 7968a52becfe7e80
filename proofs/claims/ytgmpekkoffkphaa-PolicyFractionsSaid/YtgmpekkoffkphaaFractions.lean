/- PolicyFractions: fractions are compared as the numbers that they are. The statement holds as it stands: no condition. -/
import Derived.Test.YtgmpekkoffkphaaPlain
namespace Go.Proofs.Ytgmpekkoffkphaa.fractions
open Go.RowKit Go.ChangeShapes Go.WideShapes Go.ChangeAt flt
set_option linter.unusedSimpArgs false

theorem run_feq_op {a b : Nat} {m : Int} {ρ : Operand → Value} {o : Oper} {x y : Operand} {w : World} (ho : o.op = .binOp .eql 39 x y 39) (hx : ρ x = .float .f64 a) (hy : ρ y = .float .f64 b) (h1 : rep a m) (h2 : rep b m) :
    (execOp ρ o).run Try.prog w = .ok (.value (.bool true)) w := by
  unfold execOp
  have hg : (eqGuard .eql 39 x y (.float .f64 a) (.float .f64 b)).run Try.prog w = .ok () w := rfl
  have hr : (binOp .eql 39 (.float .f64 a) (.float .f64 b)).run Try.prog w = .ok (.bool true) w := by
    rw [binOp_float_cmp_eql, rep_order h1 h2]
    show Result.ok _ _ = _
    congr 2
    simp [compare, compareOfLessAndEq]
  simp only [ho, hx, hy, Sem.run_bind, hg, hr, Result.andThen_ok, Sem.run_pure]
theorem run_ceq_op {p q r s : Nat} {m n : Int} {ρ : Operand → Value} {o : Oper} {x y : Operand} {w : World} (ho : o.op = .binOp .eql 33 x y 33) (hx : ρ x = .complex .f64 p q) (hy : ρ y = .complex .f64 r s) (h1 : rep p m) (h2 : rep q n) (h3 : rep r m) (h4 : rep s n) :
    (execOp ρ o).run Try.prog w = .ok (.value (.bool true)) w := by
  unfold execOp
  have hg : (eqGuard .eql 33 x y (.complex .f64 p q) (.complex .f64 r s)).run Try.prog w = .ok () w := rfl
  simp only [ho, hx, hy, Sem.run_bind, hg, run_ceq 33 h1 h2 h3 h4, Result.andThen_ok, Sem.run_pure]
set_option maxRecDepth 100000 in
set_option maxHeartbeats 2000000 in
theorem walk (x1 y1 x2 y2 : Int) (w : World) :
    Calls Try.prog 4 #[prV x1 y1, prV x2 y2] w fun e w' => e = .returned (.bool true) ∧ Below w.heap.size w w' := by
  unfold prV prC
  have hw1 := heap_alloc_new w (.cells #[.int .i64 x1, .int .i64 y1] 23)
  have hb1 := below_alloc w (.cells #[.int .i64 x1, .int .i64 y1] 23)
  have hz1 : (w.alloc (.cells #[.int .i64 x1, .int .i64 y1] 23)).heap.size = w.heap.size + 1 := by simp
  generalize hA : w.alloc (.cells #[.int .i64 x1, .int .i64 y1] 23) = WA at *
  have hw2 := heap_alloc_new WA (.cells #[.int .i64 x2, .int .i64 y2] 23)
  have hb2 := below_alloc WA (.cells #[.int .i64 x2, .int .i64 y2] 23)
  rw [hz1] at hw2
  generalize hB : WA.alloc (.cells #[.int .i64 x2, .int .i64 y2] 23) = WB at *
  have hst : Below w.heap.size w WB := hb1.trans (hb2.mono hb1.size)
  have c1 : WB.cell? ⟨w.heap.size, 0, none⟩ = some (.int .i64 x1) := Below.at hb2 (by rw [cell_of_row _ _ _ _ _ _ hw1]; rfl)
  have c2 : WB.cell? ⟨w.heap.size, 1, none⟩ = some (.int .i64 y1) := Below.at hb2 (by rw [cell_of_row _ _ _ _ _ _ hw1]; rfl)
  have c3 : WB.cell? ⟨w.heap.size + 1, 0, none⟩ = some (.int .i64 x2) := by rw [cell_of_row _ _ _ _ _ _ hw2]; rfl
  have c4 : WB.cell? ⟨w.heap.size + 1, 1, none⟩ = some (.int .i64 y2) := by rw [cell_of_row _ _ _ _ _ _ hw2]; rfl
  have HW : Hid ((w.alloc (.cells #[.int .i64 x1, .int .i64 y1] 23)).alloc (.cells #[.int .i64 x2, .int .i64 y2] 23) = WB) := Lib.hid (by rw [hA, hB])
  clear hw1 hb1 hz1 hw2 hb2 hA hB WA
  go_enter Try.func4, Try.ntmps4
  go_wp2_with fail
  rw [HW.out]
  refine (shown_any _).mono ?_
  rintro e W6 ⟨rfl, hb6⟩
  replace c1 := Below.at hb6 c1
  replace c2 := Below.at hb6 c2
  replace c3 := Below.at hb6 c3
  replace c4 := Below.at hb6 c4
  replace hst := hst.trans (hb6.mono hst.size)
  clear hb6 HW
  have ok1 : Fr.ok (num x1 y1, den y1) := frs_ok [(x1, y1)] 1 _ List.mem_cons_self
  have ok2 : Fr.ok (num x2 y2, den y2) := frs_ok [(x2, y2)] 1 _ List.mem_cons_self
  have s11 := Fr.small1 ok1
  have s12 := Fr.small2 ok1
  have s21 := Fr.small1 ok2
  have s22 := Fr.small2 ok2
  have r1 : rep (floatOfInt .f64 (num x1 y1)) (num x1 y1) := rep_of rfl (by have := s11.1; have := s11.2; have := ok1.1; have := ok1.2.1; omega)
  have r2 : rep (floatOfInt .f64 (den y1)) (den y1) := rep_of rfl (by have := ok1.2.2.1; have := ok1.2.2.2; omega)
  have r3 : rep (floatOfInt .f64 (num x2 y2)) (num x2 y2) := rep_of rfl (by have := ok2.1; have := ok2.2.1; omega)
  have r4 : rep (floatOfInt .f64 (den y2)) (den y2) := rep_of rfl (by have := ok2.2.2.1; have := ok2.2.2.2; omega)
  clear ok1 ok2
  go_wp2_with fail
  refine (frk x1 y1 _).mono ?_
  rintro e W7 ⟨⟨v1, rfl, a1, b1, rfl, p1, q1⟩, rfl⟩
  go_wp2_with fail
  refine (frk x2 y2 _).mono ?_
  rintro e W8 ⟨⟨v2, rfl, a2, b2, rfl, p2, q2⟩, rfl⟩
  go_wp2_with fail
  refine (rfraction_any x1 y1 _).mono ?_
  rintro e W9 ⟨rfl, hb9⟩
  replace c3 := Below.at hb9 c3
  replace c4 := Below.at hb9 c4
  replace hst := hst.trans (hb9.mono hst.size)
  clear hb9 c1 c2
  have hf1 := fun W => fuk p1 q1 p2 q2 s11 s12 s21 s22 W
  have hf2 := fun W => rfuller_any _ _ _ _ s11 s12 s21 s22 W
  generalize ful (num x1 y1) (den y1) (num x2 y2) (den y2) = f at *
  clear s11 s12 s21 s22
  generalize num x1 y1 = m1 at *
  generalize den y1 = n1 at *
  generalize hM : num x2 y2 = m2 at *
  generalize hN : den y2 = n2 at *
  have HM := Lib.hid hM
  have HN := Lib.hid hN
  clear hM hN
  have hz : w.heap.size + 1 < W9.heap.size := World.block_lt_of_cell? _ _ c3
  unfold prV prC
  go_wp2_with fail
  have hw10 := heap_alloc_new W9 (.cells #[.int .i64 m1, .int .i64 n1] 37)
  have hb10 := below_alloc W9 (.cells #[.int .i64 m1, .int .i64 n1] 37)
  have d1 : (W9.alloc (.cells #[.int .i64 m1, .int .i64 n1] 37)).cell? ⟨W9.heap.size, 0, none⟩ = some (.int .i64 m1) := by rw [cell_of_row _ _ _ _ _ _ hw10]; rfl
  have d2 : (W9.alloc (.cells #[.int .i64 m1, .int .i64 n1] 37)).cell? ⟨W9.heap.size, 1, none⟩ = some (.int .i64 n1) := by rw [cell_of_row _ _ _ _ _ _ hw10]; rfl
  replace hst := hst.trans (hb10.mono hst.size)
  clear hw10 hb10 c3 c4 hz
  generalize W9.alloc (.cells #[.int .i64 m1, .int .i64 n1] 37) = W10 at *
  generalize W9.heap.size = g8 at *
  have hrf := rfraction_any x2 y2 W10
  rw [HM.out, HN.out] at hrf
  refine hrf.mono ?_
  clear hrf
  rintro e W11 ⟨rfl, hb11⟩
  replace d1 := Below.at hb11 d1
  replace d2 := Below.at hb11 d2
  replace hst := hst.trans (hb11.mono hst.size)
  clear hb11
  have hz : g8 < W11.heap.size := World.block_lt_of_cell? _ _ d1
  unfold prV prC
  go_wp2_with fail
  have hw12 := heap_alloc_new W11 (.cells #[.int .i64 m2, .int .i64 n2] 37)
  have hb12 := below_alloc W11 (.cells #[.int .i64 m2, .int .i64 n2] 37)
  have d3 : (W11.alloc (.cells #[.int .i64 m2, .int .i64 n2] 37)).cell? ⟨W11.heap.size, 0, none⟩ = some (.int .i64 m2) := by rw [cell_of_row _ _ _ _ _ _ hw12]; rfl
  have d4 : (W11.alloc (.cells #[.int .i64 m2, .int .i64 n2] 37)).cell? ⟨W11.heap.size, 1, none⟩ = some (.int .i64 n2) := by rw [cell_of_row _ _ _ _ _ _ hw12]; rfl
  replace d1 := Below.at hb12 d1
  replace d2 := Below.at hb12 d2
  replace hst := (hst.trans (hb12.mono hst.size)).drew
  clear hw12 hb12 hz
  generalize W11.alloc (.cells #[.int .i64 m2, .int .i64 n2] 37) = W13 at *
  generalize W11.heap.size = g9 at *
  replace d1 : W13.drew.cell? ⟨g8, 0, none⟩ = some (.int .i64 m1) := d1
  replace d2 : W13.drew.cell? ⟨g8, 1, none⟩ = some (.int .i64 n1) := d2
  replace d3 : W13.drew.cell? ⟨g9, 0, none⟩ = some (.int .i64 m2) := d3
  replace d4 : W13.drew.cell? ⟨g9, 1, none⟩ = some (.int .i64 n2) := d4
  generalize hg1 : floatOfInt .f64 m1 = f1 at *
  generalize hg2 : floatOfInt .f64 n1 = f2 at *
  generalize hg3 : floatOfInt .f64 m2 = f3 at *
  generalize hg4 : floatOfInt .f64 n2 = f4 at *
  have F1 := Lib.hid hg1
  have F2 := Lib.hid hg2
  have F3 := Lib.hid hg3
  have F4 := Lib.hid hg4
  clear hg1 hg2 hg3 hg4
  refine Reg.region_ord (S := fun w' => Below W13.drew.heap.size W13.drew w') [(0, 1), (1, 1), (2, 1), (4, 1), (5, 1), (6, 1), (3, 0), (7, 1), (8, 1), (9, 1), (10, 1), (12, 1), (13, 1), (14, 1), (11, 0), (15, 1), (16, 1), (17, 1), (18, 1), (19, 1), (20, 1), (21, 1), (22, 1), (23, 1), (24, 1), (25, 0), (26, 1), (27, 1), (28, 1), (29, 1), (30, 1), (32, 1), (33, 1), (31, 0), (34, 0), (35, 1), (36, 1), (37, 1)] (by kernel_rfl) (by kernel_rfl) (by decide) (by kernel_rfl) (fun _ _ _ _ _ h => h) ?_
  generalize W13.drew = W at *
  refine Reg.ord_move rfl _ rfl rfl (Below.refl _ _) ?_; simp only [Act.put, Act.eval, List.setIfInBounds_toArray, List.set_cons_succ, List.set_cons_zero, Array.getD_eq_getD_getElem?, List.getElem?_toArray, List.getElem?_cons_succ, List.getElem?_cons_zero, Option.getD_some]
  refine Reg.ord_move rfl _ rfl rfl (Below.refl _ _) ?_; simp only [Act.put, Act.eval, List.setIfInBounds_toArray, List.set_cons_succ, List.set_cons_zero, Array.getD_eq_getD_getElem?, List.getElem?_toArray, List.getElem?_cons_succ, List.getElem?_cons_zero, Option.getD_some]
  refine Reg.ord_move rfl _ rfl rfl (Below.refl _ _) ?_; simp only [Act.put, Act.eval, List.setIfInBounds_toArray, List.set_cons_succ, List.set_cons_zero, Array.getD_eq_getD_getElem?, List.getElem?_toArray, List.getElem?_cons_succ, List.getElem?_cons_zero, Option.getD_some]
  refine Reg.ord_val rfl rfl (Below.refl _ _) (.pointer (some ⟨g8, 0, none⟩)) (fun w' _ => by go_simp) ?_; simp only [Act.put, Act.eval, List.setIfInBounds_toArray, List.set_cons_succ, List.set_cons_zero, Array.getD_eq_getD_getElem?, List.getElem?_toArray, List.getElem?_cons_succ, List.getElem?_cons_zero, Option.getD_some]
  refine Reg.ord_val rfl rfl (Below.refl _ _) (.int .i64 m1) (fun w' h => run_load_i _ rfl (by simp [Act.eval]) (Below.at h d1)) ?_; simp only [Act.put, Act.eval, List.setIfInBounds_toArray, List.set_cons_succ, List.set_cons_zero, Array.getD_eq_getD_getElem?, List.getElem?_toArray, List.getElem?_cons_succ, List.getElem?_cons_zero, Option.getD_some]
  refine Reg.ord_val rfl rfl (Below.refl _ _) (.float .f64 f1) (fun w' _ => by go_simp; rw [F1.out]) ?_; simp only [Act.put, Act.eval, List.setIfInBounds_toArray, List.set_cons_succ, List.set_cons_zero, Array.getD_eq_getD_getElem?, List.getElem?_toArray, List.getElem?_cons_succ, List.getElem?_cons_zero, Option.getD_some]
  refine Reg.ord_step rfl ?_
  go_wp2_with fail
  refine ⟨Below.refl _ _, ?_⟩
  refine Reg.ord_val rfl rfl (Below.refl _ _) (.bool true) (fun w' _ => run_feq_op rfl (by simp [Act.eval] <;> rfl) (by simp [Act.eval] <;> rfl) p1 r1) ?_; simp only [Act.put, Act.eval, List.setIfInBounds_toArray, List.set_cons_succ, List.set_cons_zero, Array.getD_eq_getD_getElem?, List.getElem?_toArray, List.getElem?_cons_succ, List.getElem?_cons_zero, Option.getD_some]
  refine Reg.ord_pick rfl _ _ _ rfl rfl (Below.refl _ _) true (by simp [Act.eval]) ?_; simp only [Act.put, Act.eval, List.setIfInBounds_toArray, List.set_cons_succ, List.set_cons_zero, Array.getD_eq_getD_getElem?, List.getElem?_toArray, List.getElem?_cons_succ, List.getElem?_cons_zero, Option.getD_some]
  refine Reg.ord_move rfl _ rfl rfl (Below.refl _ _) ?_; simp only [Act.put, Act.eval, List.setIfInBounds_toArray, List.set_cons_succ, List.set_cons_zero, Array.getD_eq_getD_getElem?, List.getElem?_toArray, List.getElem?_cons_succ, List.getElem?_cons_zero, Option.getD_some]
  refine Reg.ord_move rfl _ rfl rfl (Below.refl _ _) ?_; simp only [Act.put, Act.eval, List.setIfInBounds_toArray, List.set_cons_succ, List.set_cons_zero, Array.getD_eq_getD_getElem?, List.getElem?_toArray, List.getElem?_cons_succ, List.getElem?_cons_zero, Option.getD_some]
  refine Reg.ord_val rfl rfl (Below.refl _ _) (.pointer (some ⟨g8, 1, none⟩)) (fun w' _ => by go_simp) ?_; simp only [Act.put, Act.eval, List.setIfInBounds_toArray, List.set_cons_succ, List.set_cons_zero, Array.getD_eq_getD_getElem?, List.getElem?_toArray, List.getElem?_cons_succ, List.getElem?_cons_zero, Option.getD_some]
  refine Reg.ord_val rfl rfl (Below.refl _ _) (.int .i64 n1) (fun w' h => run_load_i _ rfl (by simp [Act.eval]) (Below.at h d2)) ?_; simp only [Act.put, Act.eval, List.setIfInBounds_toArray, List.set_cons_succ, List.set_cons_zero, Array.getD_eq_getD_getElem?, List.getElem?_toArray, List.getElem?_cons_succ, List.getElem?_cons_zero, Option.getD_some]
  refine Reg.ord_val rfl rfl (Below.refl _ _) (.float .f64 f2) (fun w' _ => by go_simp; rw [F2.out]) ?_; simp only [Act.put, Act.eval, List.setIfInBounds_toArray, List.set_cons_succ, List.set_cons_zero, Array.getD_eq_getD_getElem?, List.getElem?_toArray, List.getElem?_cons_succ, List.getElem?_cons_zero, Option.getD_some]
  refine Reg.ord_step rfl ?_
  go_wp2_with fail
  refine ⟨Below.refl _ _, ?_⟩
  refine Reg.ord_val rfl rfl (Below.refl _ _) (.bool true) (fun w' _ => run_feq_op rfl (by simp [Act.eval] <;> rfl) (by simp [Act.eval] <;> rfl) q1 r2) ?_; simp only [Act.put, Act.eval, List.setIfInBounds_toArray, List.set_cons_succ, List.set_cons_zero, Array.getD_eq_getD_getElem?, List.getElem?_toArray, List.getElem?_cons_succ, List.getElem?_cons_zero, Option.getD_some]
  refine Reg.ord_pick rfl _ _ _ rfl rfl (Below.refl _ _) true (by simp [Act.eval]) ?_; simp only [Act.put, Act.eval, List.setIfInBounds_toArray, List.set_cons_succ, List.set_cons_zero, Array.getD_eq_getD_getElem?, List.getElem?_toArray, List.getElem?_cons_succ, List.getElem?_cons_zero, Option.getD_some]
  refine Reg.ord_move rfl _ rfl rfl (Below.refl _ _) ?_; simp only [Act.put, Act.eval, List.setIfInBounds_toArray, List.set_cons_succ, List.set_cons_zero, Array.getD_eq_getD_getElem?, List.getElem?_toArray, List.getElem?_cons_succ, List.getElem?_cons_zero, Option.getD_some]
  refine Reg.ord_move rfl _ rfl rfl (Below.refl _ _) ?_; simp only [Act.put, Act.eval, List.setIfInBounds_toArray, List.set_cons_succ, List.set_cons_zero, Array.getD_eq_getD_getElem?, List.getElem?_toArray, List.getElem?_cons_succ, List.getElem?_cons_zero, Option.getD_some]
  refine Reg.ord_val rfl rfl (Below.refl _ _) (.pointer (some ⟨g9, 0, none⟩)) (fun w' _ => by go_simp) ?_; simp only [Act.put, Act.eval, List.setIfInBounds_toArray, List.set_cons_succ, List.set_cons_zero, Array.getD_eq_getD_getElem?, List.getElem?_toArray, List.getElem?_cons_succ, List.getElem?_cons_zero, Option.getD_some]
  refine Reg.ord_val rfl rfl (Below.refl _ _) (.int .i64 m2) (fun w' h => run_load_i _ rfl (by simp [Act.eval]) (Below.at h d3)) ?_; simp only [Act.put, Act.eval, List.setIfInBounds_toArray, List.set_cons_succ, List.set_cons_zero, Array.getD_eq_getD_getElem?, List.getElem?_toArray, List.getElem?_cons_succ, List.getElem?_cons_zero, Option.getD_some]
  refine Reg.ord_val rfl rfl (Below.refl _ _) (.float .f64 f3) (fun w' _ => by go_simp; rw [F3.out]) ?_; simp only [Act.put, Act.eval, List.setIfInBounds_toArray, List.set_cons_succ, List.set_cons_zero, Array.getD_eq_getD_getElem?, List.getElem?_toArray, List.getElem?_cons_succ, List.getElem?_cons_zero, Option.getD_some]
  refine Reg.ord_val rfl rfl (Below.refl _ _) (.pointer (some ⟨g9, 1, none⟩)) (fun w' _ => by go_simp) ?_; simp only [Act.put, Act.eval, List.setIfInBounds_toArray, List.set_cons_succ, List.set_cons_zero, Array.getD_eq_getD_getElem?, List.getElem?_toArray, List.getElem?_cons_succ, List.getElem?_cons_zero, Option.getD_some]
  refine Reg.ord_val rfl rfl (Below.refl _ _) (.int .i64 n2) (fun w' h => run_load_i _ rfl (by simp [Act.eval]) (Below.at h d4)) ?_; simp only [Act.put, Act.eval, List.setIfInBounds_toArray, List.set_cons_succ, List.set_cons_zero, Array.getD_eq_getD_getElem?, List.getElem?_toArray, List.getElem?_cons_succ, List.getElem?_cons_zero, Option.getD_some]
  refine Reg.ord_val rfl rfl (Below.refl _ _) (.float .f64 f4) (fun w' _ => by go_simp; rw [F4.out]) ?_; simp only [Act.put, Act.eval, List.setIfInBounds_toArray, List.set_cons_succ, List.set_cons_zero, Array.getD_eq_getD_getElem?, List.getElem?_toArray, List.getElem?_cons_succ, List.getElem?_cons_zero, Option.getD_some]
  refine Reg.ord_step rfl ?_
  go_wp2_with fail
  refine ⟨Below.refl _ _, ?_⟩
  refine Reg.ord_val rfl rfl (Below.refl _ _) (.bool true) (fun w' _ => run_ceq_op rfl (by simp [Act.eval] <;> rfl) (by simp [Act.eval] <;> rfl) p2 q2 r3 r4) ?_; simp only [Act.put, Act.eval, List.setIfInBounds_toArray, List.set_cons_succ, List.set_cons_zero, Array.getD_eq_getD_getElem?, List.getElem?_toArray, List.getElem?_cons_succ, List.getElem?_cons_zero, Option.getD_some]
  refine Reg.ord_pick rfl _ _ _ rfl rfl (Below.refl _ _) true (by simp [Act.eval]) ?_; simp only [Act.put, Act.eval, List.setIfInBounds_toArray, List.set_cons_succ, List.set_cons_zero, Array.getD_eq_getD_getElem?, List.getElem?_toArray, List.getElem?_cons_succ, List.getElem?_cons_zero, Option.getD_some]
  refine Reg.ord_move rfl _ rfl rfl (Below.refl _ _) ?_; simp only [Act.put, Act.eval, List.setIfInBounds_toArray, List.set_cons_succ, List.set_cons_zero, Array.getD_eq_getD_getElem?, List.getElem?_toArray, List.getElem?_cons_succ, List.getElem?_cons_zero, Option.getD_some]
  refine Reg.ord_move rfl _ rfl rfl (Below.refl _ _) ?_; simp only [Act.put, Act.eval, List.setIfInBounds_toArray, List.set_cons_succ, List.set_cons_zero, Array.getD_eq_getD_getElem?, List.getElem?_toArray, List.getElem?_cons_succ, List.getElem?_cons_zero, Option.getD_some]
  refine Reg.ord_move rfl _ rfl rfl (Below.refl _ _) ?_; simp only [Act.put, Act.eval, List.setIfInBounds_toArray, List.set_cons_succ, List.set_cons_zero, Array.getD_eq_getD_getElem?, List.getElem?_toArray, List.getElem?_cons_succ, List.getElem?_cons_zero, Option.getD_some]
  refine Reg.ord_val rfl rfl (Below.refl _ _) (prV m1 n1) (fun w' h => run_load_p _ rfl (by simp [Act.eval]) (Below.at h d1) (Below.at h d2)) ?_; simp only [Act.put, Act.eval, List.setIfInBounds_toArray, List.set_cons_succ, List.set_cons_zero, Array.getD_eq_getD_getElem?, List.getElem?_toArray, List.getElem?_cons_succ, List.getElem?_cons_zero, Option.getD_some]
  refine Reg.ord_val rfl rfl (Below.refl _ _) (prV m2 n2) (fun w' h => run_load_p _ rfl (by simp [Act.eval]) (Below.at h d3) (Below.at h d4)) ?_; simp only [Act.put, Act.eval, List.setIfInBounds_toArray, List.set_cons_succ, List.set_cons_zero, Array.getD_eq_getD_getElem?, List.getElem?_toArray, List.getElem?_cons_succ, List.getElem?_cons_zero, Option.getD_some]
  refine Reg.ord_call rfl rfl 11 _ (by go_simp) (hf1 _) (fun W4 hb4 => ⟨by subst hb4; exact Below.refl _ _, ?_⟩)
  subst hb4
  simp only [Act.put, Act.eval, List.setIfInBounds_toArray, List.set_cons_succ, List.set_cons_zero, Array.getD_eq_getD_getElem?, List.getElem?_toArray, List.getElem?_cons_succ, List.getElem?_cons_zero, Option.getD_some]
  refine Reg.ord_call rfl rfl 15 _ (by go_simp) (hf2 _) (fun W14 hb14 => ⟨hb14, ?_⟩)
  replace hst := hst.trans (hb14.mono hst.size)
  simp only [Act.put, Act.eval, List.setIfInBounds_toArray, List.set_cons_succ, List.set_cons_zero, Array.getD_eq_getD_getElem?, List.getElem?_toArray, List.getElem?_cons_succ, List.getElem?_cons_zero, Option.getD_some]
  have hee : ((f : Int) == f) = true := by simp
  refine Reg.ord_val rfl rfl hb14 (.bool true) (fun w' _ => by go_simp) ?_; simp only [Act.put, Act.eval, List.setIfInBounds_toArray, List.set_cons_succ, List.set_cons_zero, Array.getD_eq_getD_getElem?, List.getElem?_toArray, List.getElem?_cons_succ, List.getElem?_cons_zero, Option.getD_some]
  refine Reg.ord_pick rfl _ _ _ rfl rfl hb14 true (by simp [Act.eval]) ?_; simp only [Act.put, Act.eval, List.setIfInBounds_toArray, List.set_cons_succ, List.set_cons_zero, Array.getD_eq_getD_getElem?, List.getElem?_toArray, List.getElem?_cons_succ, List.getElem?_cons_zero, Option.getD_some]
  refine Reg.ord_assign rfl _ rfl rfl hb14 ?_; simp only [Act.put, Act.eval, List.setIfInBounds_toArray, List.set_cons_succ, List.set_cons_zero, Array.getD_eq_getD_getElem?, List.getElem?_toArray, List.getElem?_cons_succ, List.getElem?_cons_zero, Option.getD_some]
  refine Reg.ord_nil ?_
  go_wp2_with fail
  exact ret_tmp rfl _ rfl rfl ⟨rfl, hst⟩
/-! ### The row's step -/
set_option maxRecDepth 100000 in
theorem lifted (os : Os) (started : os.Started) (H : Type) (enc : TypeId × Value → H) :
    ReturnsInHanded {} Try.checked os 4 .any (Rows.policyFractionsSpec.pre6 enc Try.prog Try.f4 Rows.policyFractionsRow.domain false) (Rows.policyFractionsSpec.post enc Try.prog Try.f4 false true false false) := by
  refine returnsInHanded_of_change (C := Try.checked) own started (by kernel_rfl) Try.func4
    (ChangeSpec.witness6 (enc := enc) (C := Try.checked) false ⟨#[], #[.agg #[.int .i64 0, .int .i64 0], .agg #[.int .i64 0, .int .i64 0]], []⟩ 8 (by kernel_rfl) (by kernel_rfl) (by kernel_rfl) (by kernel_rfl)) ?_
  intro W base args ds gs before hval0 hW hcnd _
  have hval : ∀ (j : Nat) t v, Try.f4.params[j]? = some t → args[j]? = some v → Value.okWide Try.prog W .any base t v := hval0
  have hW' := hW
  obtain ⟨p, q, hA0, hV, rfl, hfz, hnd⟩ := hW
  have hA : DataW.TrodAll enc Try.prog W 0 (fun _ => true) true Try.f4.params.toList args.toList ds p := hA0
  rw [Try.params4] at hA hval
  obtain ⟨v0, vs0, d0, ds0, p0, q0, hargs, rfl, rfl, h0, r0⟩ := trodAll_cons hA
  obtain ⟨v1, vs1, d1, ds1, p1, q1, rfl, rfl, rfl, h1, r1⟩ := trodAll_cons r0
  obtain ⟨rfl, rfl, rfl⟩ := trodAll_nil r1
  obtain rfl : args = #[v0, v1] := by cases args; simp_all
  obtain ⟨rfl, rfl⟩ := trodVars_none hV
  have k0 := h0
  have lt0 : ∀ x ∈ p0, x.block < W.heap.size := by obtain ⟨m, hm⟩ := k0; exact DataW.trod_lt m _ _ _ hm
  obtain ⟨x0, y0, rfl⟩ := open_part (hval 0 23 v0 rfl rfl) k0
  have k1 := h1
  have lt1 : ∀ x ∈ p1, x.block < W.heap.size := by obtain ⟨m, hm⟩ := k1; exact DataW.trod_lt m _ _ _ hm
  obtain ⟨x1, y1, rfl⟩ := open_part (hval 1 23 v1 rfl rfl) k1
  clear hA0 hval0
  refine (walk x0 y0 x1 y1 W ).mono fun e W' ⟨he, bel⟩ => ?_
  subst he
  exact ⟨_, rfl, _, _, _, [], _, [], hW', trodAll_mk1 (shut_bool Try.underlying4 _), (trodAll_cons_mk (Below.trod laidOut (by kernel_rfl) (of_decide_eq_true (by kernel_rfl)) k0 bel lt0) (trodAll_cons_mk (Below.trod laidOut (by kernel_rfl) (of_decide_eq_true (by kernel_rfl)) k1 bel lt1) trodAll_mk0)), rfl, bel.frame _, fun h => by cases h⟩

theorem over : Rows.policyFractionsRow.holds Try.pinned (OpenSpec.ofChange Rows.policyFractionsSpec) :=
  OpenClaim.holds_of_wide 4 Try.f4 rfl rfl rfl rfl rfl rfl rfl ⟨rfl, rfl, rfl, rfl, rfl⟩ rfl rfl rfl rfl rfl (by kernel_rfl) Try.func4 (by kernel_rfl)
    (of_decide_eq_true (by kernel_rfl)) (by unfold Func.isWrapper; first | (rw [if_pos (by decide +kernel)]; kernel_rfl) | (rw [if_neg (by decide +kernel)]; exact ⟨rfl, rfl⟩))
    (fun os started H enc _ => lifted os started H enc)

/-- The statement. -/
theorem proved : Rows.PolicyFractionsSaid := over
#print axioms proved
end Go.Proofs.Ytgmpekkoffkphaa.fractions
