/- The walks of the chain: cut, push, made. -/
import Derived.Test.YtbbdbcgmeffchaaBase
namespace Go.Proofs.Ytbbdbcgmeffchaa
open Go.RowKit
set_option linter.unusedSimpArgs false

theorem at_ne {b o b' o' : Nat} (h : b ≠ b' ∨ o ≠ o') : (⟨b, o, none⟩ : Addr) ≠ ⟨b', o', none⟩ := by
  intro e
  simp only [Addr.mk.injEq] at e
  rcases h with h | h
  · exact h e.1
  · exact h e.2.1
theorem cell_other {w : World} {a b : Addr} {v : Value} (h : a ≠ b) : (w.setCell a v).cell? b = w.cell? b := World.cell?_setCell_other _ _ _ _ h
set_option maxHeartbeats 1000000 in
theorem cut_any (g p q : Nat) (x y : Value) (w : World) (h1 : w.cell? ⟨g, 1, none⟩ = some (ptr p)) (h2 : w.cell? ⟨g, 2, none⟩ = some (ptr q)) (h3 : w.cell? ⟨p, 2, none⟩ = some x) (h4 : w.cell? ⟨q, 1, none⟩ = some y)
    (f3 : w.frozen? ⟨p, 2, none⟩ = false) (f4 : w.frozen? ⟨q, 1, none⟩ = false) (hp : p ≠ g) (hq : q ≠ g) :
    Calls Try.prog 26 #[ptr g] w fun e w' => e = .returned (.tuple #[]) ∧ w' = (w.drew.setCell ⟨p, 2, none⟩ (ptr q)).setCell ⟨q, 1, none⟩ (ptr p) := by
  go_enter Try.func26, Try.ntmps26
  go_wp2_with fail
  replace h1 : w.drew.cell? ⟨g, 1, none⟩ = some (ptr p) := h1
  replace h2 : w.drew.cell? ⟨g, 2, none⟩ = some (ptr q) := h2
  replace h3 : w.drew.cell? ⟨p, 2, none⟩ = some x := h3
  replace h4 : w.drew.cell? ⟨q, 1, none⟩ = some y := h4
  replace f3 : w.drew.frozen? ⟨p, 2, none⟩ = false := f3
  replace f4 : w.drew.frozen? ⟨q, 1, none⟩ = false := f4
  obtain ⟨y', h4'⟩ := cell?_setCell_some (p := ⟨p, 2, none⟩) (x := ptr q) h4
  have f4' : (w.drew.setCell ⟨p, 2, none⟩ (ptr q)).frozen? ⟨q, 1, none⟩ = false := by rw [World.frozen?_setCell]; exact f4
  have hS0 : w.drew.cell? ⟨g, 1, none⟩ = some (ptr p) ∧ w.drew.cell? ⟨g, 2, none⟩ = some (ptr q) := ⟨h1, h2⟩
  have hS1 : (w.drew.setCell ⟨p, 2, none⟩ (ptr q)).cell? ⟨g, 1, none⟩ = some (ptr p) ∧ (w.drew.setCell ⟨p, 2, none⟩ (ptr q)).cell? ⟨g, 2, none⟩ = some (ptr q) :=
    ⟨by rw [cell_other (at_ne (.inl hp))]; exact h1, by rw [cell_other (at_ne (.inl hp))]; exact h2⟩
  have hS2 : ((w.drew.setCell ⟨p, 2, none⟩ (ptr q)).setCell ⟨q, 1, none⟩ (ptr p)).cell? ⟨g, 1, none⟩ = some (ptr p) ∧ ((w.drew.setCell ⟨p, 2, none⟩ (ptr q)).setCell ⟨q, 1, none⟩ (ptr p)).cell? ⟨g, 2, none⟩ = some (ptr q) :=
    ⟨by rw [cell_other (at_ne (.inl hq))]; exact hS1.1, by rw [cell_other (at_ne (.inl hq))]; exact hS1.2⟩
  refine Reg.region_ord (S := fun w' => w'.cell? ⟨g, 1, none⟩ = some (ptr p) ∧ w'.cell? ⟨g, 2, none⟩ = some (ptr q)) [(0, 1), (1, 1), (2, 1), (3, 1), (4, 1), (5, 1), (6, 1), (7, 1), (8, 1), (9, 1), (10, 1), (11, 1), (12, 1), (13, 1), (14, 1), (15, 1), (16, 1), (17, 1), (18, 0), (19, 1), (20, 1), (21, 0)] (by kernel_rfl) (by kernel_rfl) (by decide) (by kernel_rfl) (fun _ _ _ _ _ h => h) ?_
  refine Reg.ord_move rfl _ rfl rfl hS0 ?_; simp only [Act.put, Act.eval, List.setIfInBounds_toArray, List.set_cons_succ, List.set_cons_zero, Array.getD_eq_getD_getElem?, List.getElem?_toArray, List.getElem?_cons_succ, List.getElem?_cons_zero, Option.getD_some]
  refine Reg.ord_val rfl rfl hS0 (ptr g) (fun w' _ => by go_simp) ?_; simp only [Act.put, Act.eval, List.setIfInBounds_toArray, List.set_cons_succ, List.set_cons_zero, Array.getD_eq_getD_getElem?, List.getElem?_toArray, List.getElem?_cons_succ, List.getElem?_cons_zero, Option.getD_some]
  refine Reg.ord_val rfl rfl hS0 (.pointer (some ⟨g, 1, none⟩)) (fun w' _ => by go_simp) ?_; simp only [Act.put, Act.eval, List.setIfInBounds_toArray, List.set_cons_succ, List.set_cons_zero, Array.getD_eq_getD_getElem?, List.getElem?_toArray, List.getElem?_cons_succ, List.getElem?_cons_zero, Option.getD_some]
  refine Reg.ord_val rfl rfl hS0 (ptr p) (fun w' h => run_ld agg46 _ rfl (by simp [Act.eval]) h.1) ?_; simp only [Act.put, Act.eval, List.setIfInBounds_toArray, List.set_cons_succ, List.set_cons_zero, Array.getD_eq_getD_getElem?, List.getElem?_toArray, List.getElem?_cons_succ, List.getElem?_cons_zero, Option.getD_some]
  refine Reg.ord_move rfl _ rfl rfl hS0 ?_; simp only [Act.put, Act.eval, List.setIfInBounds_toArray, List.set_cons_succ, List.set_cons_zero, Array.getD_eq_getD_getElem?, List.getElem?_toArray, List.getElem?_cons_succ, List.getElem?_cons_zero, Option.getD_some]
  refine Reg.ord_val rfl rfl hS0 (ptr g) (fun w' _ => by go_simp) ?_; simp only [Act.put, Act.eval, List.setIfInBounds_toArray, List.set_cons_succ, List.set_cons_zero, Array.getD_eq_getD_getElem?, List.getElem?_toArray, List.getElem?_cons_succ, List.getElem?_cons_zero, Option.getD_some]
  refine Reg.ord_val rfl rfl hS0 (.pointer (some ⟨g, 2, none⟩)) (fun w' _ => by go_simp) ?_; simp only [Act.put, Act.eval, List.setIfInBounds_toArray, List.set_cons_succ, List.set_cons_zero, Array.getD_eq_getD_getElem?, List.getElem?_toArray, List.getElem?_cons_succ, List.getElem?_cons_zero, Option.getD_some]
  refine Reg.ord_val rfl rfl hS0 (ptr q) (fun w' h => run_ld agg46 _ rfl (by simp [Act.eval]) h.2) ?_; simp only [Act.put, Act.eval, List.setIfInBounds_toArray, List.set_cons_succ, List.set_cons_zero, Array.getD_eq_getD_getElem?, List.getElem?_toArray, List.getElem?_cons_succ, List.getElem?_cons_zero, Option.getD_some]
  refine Reg.ord_move rfl _ rfl rfl hS0 ?_; simp only [Act.put, Act.eval, List.setIfInBounds_toArray, List.set_cons_succ, List.set_cons_zero, Array.getD_eq_getD_getElem?, List.getElem?_toArray, List.getElem?_cons_succ, List.getElem?_cons_zero, Option.getD_some]
  refine Reg.ord_val rfl rfl hS0 (ptr g) (fun w' _ => by go_simp) ?_; simp only [Act.put, Act.eval, List.setIfInBounds_toArray, List.set_cons_succ, List.set_cons_zero, Array.getD_eq_getD_getElem?, List.getElem?_toArray, List.getElem?_cons_succ, List.getElem?_cons_zero, Option.getD_some]
  refine Reg.ord_val rfl rfl hS0 (.pointer (some ⟨g, 2, none⟩)) (fun w' _ => by go_simp) ?_; simp only [Act.put, Act.eval, List.setIfInBounds_toArray, List.set_cons_succ, List.set_cons_zero, Array.getD_eq_getD_getElem?, List.getElem?_toArray, List.getElem?_cons_succ, List.getElem?_cons_zero, Option.getD_some]
  refine Reg.ord_val rfl rfl hS0 (ptr q) (fun w' h => run_ld agg46 _ rfl (by simp [Act.eval]) h.2) ?_; simp only [Act.put, Act.eval, List.setIfInBounds_toArray, List.set_cons_succ, List.set_cons_zero, Array.getD_eq_getD_getElem?, List.getElem?_toArray, List.getElem?_cons_succ, List.getElem?_cons_zero, Option.getD_some]
  refine Reg.ord_move rfl _ rfl rfl hS0 ?_; simp only [Act.put, Act.eval, List.setIfInBounds_toArray, List.set_cons_succ, List.set_cons_zero, Array.getD_eq_getD_getElem?, List.getElem?_toArray, List.getElem?_cons_succ, List.getElem?_cons_zero, Option.getD_some]
  refine Reg.ord_val rfl rfl hS0 (ptr g) (fun w' _ => by go_simp) ?_; simp only [Act.put, Act.eval, List.setIfInBounds_toArray, List.set_cons_succ, List.set_cons_zero, Array.getD_eq_getD_getElem?, List.getElem?_toArray, List.getElem?_cons_succ, List.getElem?_cons_zero, Option.getD_some]
  refine Reg.ord_val rfl rfl hS0 (.pointer (some ⟨g, 1, none⟩)) (fun w' _ => by go_simp) ?_; simp only [Act.put, Act.eval, List.setIfInBounds_toArray, List.set_cons_succ, List.set_cons_zero, Array.getD_eq_getD_getElem?, List.getElem?_toArray, List.getElem?_cons_succ, List.getElem?_cons_zero, Option.getD_some]
  refine Reg.ord_val rfl rfl hS0 (ptr p) (fun w' h => run_ld agg46 _ rfl (by simp [Act.eval]) h.1) ?_; simp only [Act.put, Act.eval, List.setIfInBounds_toArray, List.set_cons_succ, List.set_cons_zero, Array.getD_eq_getD_getElem?, List.getElem?_toArray, List.getElem?_cons_succ, List.getElem?_cons_zero, Option.getD_some]
  refine Reg.ord_val rfl rfl hS0 (ptr p) (fun w' _ => by go_simp) ?_; simp only [Act.put, Act.eval, List.setIfInBounds_toArray, List.set_cons_succ, List.set_cons_zero, Array.getD_eq_getD_getElem?, List.getElem?_toArray, List.getElem?_cons_succ, List.getElem?_cons_zero, Option.getD_some]
  refine Reg.ord_val rfl rfl hS0 (.pointer (some ⟨p, 2, none⟩)) (fun w' _ => by go_simp) ?_; simp only [Act.put, Act.eval, List.setIfInBounds_toArray, List.set_cons_succ, List.set_cons_zero, Array.getD_eq_getD_getElem?, List.getElem?_toArray, List.getElem?_cons_succ, List.getElem?_cons_zero, Option.getD_some]
  refine Reg.ord_step rfl ?_
  refine wl_st rfl size46 _ _ rfl ⟨p, 2, none⟩ (ptr q) x (by simp [Act.eval]) (by simp [Act.eval]) rfl h3 f3 ?_
  refine wpList_nil ⟨hS1, ?_⟩
  simp only [Act.put, Act.eval, List.setIfInBounds_toArray, List.set_cons_succ, List.set_cons_zero, Array.getD_eq_getD_getElem?, List.getElem?_toArray, List.getElem?_cons_succ, List.getElem?_cons_zero, Option.getD_some]
  refine Reg.ord_val rfl rfl hS1 (ptr q) (fun w' _ => by go_simp) ?_; simp only [Act.put, Act.eval, List.setIfInBounds_toArray, List.set_cons_succ, List.set_cons_zero, Array.getD_eq_getD_getElem?, List.getElem?_toArray, List.getElem?_cons_succ, List.getElem?_cons_zero, Option.getD_some]
  refine Reg.ord_val rfl rfl hS1 (.pointer (some ⟨q, 1, none⟩)) (fun w' _ => by go_simp) ?_; simp only [Act.put, Act.eval, List.setIfInBounds_toArray, List.set_cons_succ, List.set_cons_zero, Array.getD_eq_getD_getElem?, List.getElem?_toArray, List.getElem?_cons_succ, List.getElem?_cons_zero, Option.getD_some]
  refine Reg.ord_step rfl ?_
  refine wl_st rfl size46 _ _ rfl ⟨q, 1, none⟩ (ptr p) y' (by simp [Act.eval]) (by simp [Act.eval]) rfl h4' f4' ?_
  refine wpList_nil ⟨hS2, ?_⟩
  simp only [Act.put, Act.eval, List.setIfInBounds_toArray, List.set_cons_succ, List.set_cons_zero, Array.getD_eq_getD_getElem?, List.getElem?_toArray, List.getElem?_cons_succ, List.getElem?_cons_zero, Option.getD_some]
  refine Reg.ord_nil ?_
  refine bodyPost_end (by simp [results, Try.results26, go_sem]) rfl ⟨rfl, rfl⟩
set_option maxHeartbeats 1000000 in
theorem push_any (c p : Nat) (b : Int) (x : Value) (w : World) (h1 : w.cell? ⟨c, 1, none⟩ = some (ptr p)) (h3 : w.cell? ⟨p, 2, none⟩ = some x) (f3 : w.frozen? ⟨p, 2, none⟩ = false) (f4 : w.frozen? ⟨c, 1, none⟩ = false) :
    Calls Try.prog 25 #[ptr c, .int .i64 b] w fun e w' => e = .returned (ptr w.heap.size) ∧ w' = ((w.alloc (.cells #[.int .i64 b, ptr p, ptr c] 49)).drew.drew.setCell ⟨p, 2, none⟩ (ptr w.heap.size)).setCell ⟨c, 1, none⟩ (ptr w.heap.size) := by
  go_enter Try.func25, Try.ntmps25
  go_wp2_with fail
  have hS0 : w.drew.cell? ⟨c, 1, none⟩ = some (ptr p) := h1
  refine Reg.region_ord (S := fun w' => w'.cell? ⟨c, 1, none⟩ = some (ptr p)) [(0, 1), (1, 1), (2, 1), (3, 1), (4, 1), (5, 1), (6, 1), (7, 1), (8, 1), (9, 1), (10, 0), (11, 1)] (by kernel_rfl) (by kernel_rfl) (by decide) (by kernel_rfl) (fun _ _ _ _ _ h => h) ?_
  refine Reg.ord_move rfl _ rfl rfl hS0 ?_; simp only [Act.put, Act.eval, List.setIfInBounds_toArray, List.set_cons_succ, List.set_cons_zero, Array.getD_eq_getD_getElem?, List.getElem?_toArray, List.getElem?_cons_succ, List.getElem?_cons_zero, Option.getD_some]
  refine Reg.ord_move rfl _ rfl rfl hS0 ?_; simp only [Act.put, Act.eval, List.setIfInBounds_toArray, List.set_cons_succ, List.set_cons_zero, Array.getD_eq_getD_getElem?, List.getElem?_toArray, List.getElem?_cons_succ, List.getElem?_cons_zero, Option.getD_some]
  refine Reg.ord_val rfl rfl hS0 (ptr c) (fun w' _ => by go_simp) ?_; simp only [Act.put, Act.eval, List.setIfInBounds_toArray, List.set_cons_succ, List.set_cons_zero, Array.getD_eq_getD_getElem?, List.getElem?_toArray, List.getElem?_cons_succ, List.getElem?_cons_zero, Option.getD_some]
  refine Reg.ord_val rfl rfl hS0 (ptr c) (fun w' _ => by go_simp) ?_; simp only [Act.put, Act.eval, List.setIfInBounds_toArray, List.set_cons_succ, List.set_cons_zero, Array.getD_eq_getD_getElem?, List.getElem?_toArray, List.getElem?_cons_succ, List.getElem?_cons_zero, Option.getD_some]
  refine Reg.ord_val rfl rfl hS0 (.pointer (some ⟨c, 1, none⟩)) (fun w' _ => by go_simp) ?_; simp only [Act.put, Act.eval, List.setIfInBounds_toArray, List.set_cons_succ, List.set_cons_zero, Array.getD_eq_getD_getElem?, List.getElem?_toArray, List.getElem?_cons_succ, List.getElem?_cons_zero, Option.getD_some]
  refine Reg.ord_val rfl rfl hS0 (ptr p) (fun w' h => run_ld agg46 _ rfl (by simp [Act.eval]) h) ?_; simp only [Act.put, Act.eval, List.setIfInBounds_toArray, List.set_cons_succ, List.set_cons_zero, Array.getD_eq_getD_getElem?, List.getElem?_toArray, List.getElem?_cons_succ, List.getElem?_cons_zero, Option.getD_some]
  refine Reg.ord_move rfl _ rfl rfl hS0 ?_; simp only [Act.put, Act.eval, List.setIfInBounds_toArray, List.set_cons_succ, List.set_cons_zero, Array.getD_eq_getD_getElem?, List.getElem?_toArray, List.getElem?_cons_succ, List.getElem?_cons_zero, Option.getD_some]
  refine Reg.ord_val rfl rfl hS0 (ptr c) (fun w' _ => by go_simp) ?_; simp only [Act.put, Act.eval, List.setIfInBounds_toArray, List.set_cons_succ, List.set_cons_zero, Array.getD_eq_getD_getElem?, List.getElem?_toArray, List.getElem?_cons_succ, List.getElem?_cons_zero, Option.getD_some]
  refine Reg.ord_val rfl rfl hS0 (ptr c) (fun w' _ => by go_simp) ?_; simp only [Act.put, Act.eval, List.setIfInBounds_toArray, List.set_cons_succ, List.set_cons_zero, Array.getD_eq_getD_getElem?, List.getElem?_toArray, List.getElem?_cons_succ, List.getElem?_cons_zero, Option.getD_some]
  refine Reg.ord_val rfl rfl hS0 (.agg #[.int .i64 b, ptr p, ptr c]) (fun w' _ => by go_simp) ?_; simp only [Act.put, Act.eval, List.setIfInBounds_toArray, List.set_cons_succ, List.set_cons_zero, Array.getD_eq_getD_getElem?, List.getElem?_toArray, List.getElem?_cons_succ, List.getElem?_cons_zero, Option.getD_some]
  refine Reg.ord_step rfl ?_
  go_wp2_with fail
  have hb1 := below_alloc w (.cells #[.int .i64 b, ptr p, ptr c] 49)
  have hw1 := heap_alloc_new w (.cells #[.int .i64 b, ptr p, ptr c] 49)
  have hS1 := Below.at hb1 h1
  refine ⟨hS1, ?_⟩
  refine Reg.ord_assign rfl _ rfl rfl hS1 ?_; simp only [Act.put, Act.eval, List.setIfInBounds_toArray, List.set_cons_succ, List.set_cons_zero, Array.getD_eq_getD_getElem?, List.getElem?_toArray, List.getElem?_cons_succ, List.getElem?_cons_zero, Option.getD_some]
  refine Reg.ord_nil ?_
  go_wp2_with fail
  refine Reg.region_ord (S := fun w' => w'.cell? ⟨w.heap.size, 1, none⟩ = some (ptr p) ∧ w'.cell? ⟨w.heap.size, 2, none⟩ = some (ptr c)) [(0, 1), (1, 1), (2, 1), (3, 1), (4, 1), (5, 1), (6, 1), (7, 1), (8, 1), (9, 1), (10, 1), (11, 1), (12, 0), (13, 1), (14, 1), (15, 0)] (by kernel_rfl) (by kernel_rfl) (by decide) (by kernel_rfl) (fun _ _ _ _ _ h => h) ?_
  have hg : p < w.heap.size := World.block_lt_of_cell? _ _ h3
  have hgc : c < w.heap.size := World.block_lt_of_cell? _ _ h1
  have d1 : (w.alloc (.cells #[.int .i64 b, ptr p, ptr c] 49)).drew.drew.cell? ⟨w.heap.size, 1, none⟩ = some (ptr p) := by show (w.alloc _).cell? _ = _; rw [cell_of_row _ _ _ _ _ _ hw1]; rfl
  have d2 : (w.alloc (.cells #[.int .i64 b, ptr p, ptr c] 49)).drew.drew.cell? ⟨w.heap.size, 2, none⟩ = some (ptr c) := by show (w.alloc _).cell? _ = _; rw [cell_of_row _ _ _ _ _ _ hw1]; rfl
  have d3 : (w.alloc (.cells #[.int .i64 b, ptr p, ptr c] 49)).drew.drew.cell? ⟨p, 2, none⟩ = some x := Below.at hb1.drew.drew h3
  have d4 : (w.alloc (.cells #[.int .i64 b, ptr p, ptr c] 49)).drew.drew.cell? ⟨c, 1, none⟩ = some (ptr p) := hS1
  have e3 : (w.alloc (.cells #[.int .i64 b, ptr p, ptr c] 49)).drew.drew.frozen? ⟨p, 2, none⟩ = false := (hb1.drew.drew.frozen (p := ⟨p, 2, none⟩) hg).trans f3
  have e4 : (w.alloc (.cells #[.int .i64 b, ptr p, ptr c] 49)).drew.drew.frozen? ⟨c, 1, none⟩ = false := (hb1.drew.drew.frozen (p := ⟨c, 1, none⟩) hgc).trans f4
  have HW : ∃ W2, W2 = (w.alloc (.cells #[.int .i64 b, ptr p, ptr c] 49)).drew.drew := ⟨_, rfl⟩
  obtain ⟨W2, hW2⟩ := HW
  rw [← hW2] at d1 d2 d3 d4 e3 e4 ⊢
  clear h1 h3 f3 f4 hS0 hb1 hw1 hS1
  obtain ⟨y', d4'⟩ := cell?_setCell_some (p := ⟨p, 2, none⟩) (x := ptr w.heap.size) d4
  have e4' : (W2.setCell ⟨p, 2, none⟩ (ptr w.heap.size)).frozen? ⟨c, 1, none⟩ = false := by rw [World.frozen?_setCell]; exact e4
  have hS0 : W2.cell? ⟨w.heap.size, 1, none⟩ = some (ptr p) ∧ W2.cell? ⟨w.heap.size, 2, none⟩ = some (ptr c) := ⟨d1, d2⟩
  have hS1 : (W2.setCell ⟨p, 2, none⟩ (ptr w.heap.size)).cell? ⟨w.heap.size, 1, none⟩ = some (ptr p) ∧ (W2.setCell ⟨p, 2, none⟩ (ptr w.heap.size)).cell? ⟨w.heap.size, 2, none⟩ = some (ptr c) := ⟨by rw [cell_other (at_ne (.inl (by omega)))]; exact d1, by rw [cell_other (at_ne (.inl (by omega)))]; exact d2⟩
  have hS2 : ((W2.setCell ⟨p, 2, none⟩ (ptr w.heap.size)).setCell ⟨c, 1, none⟩ (ptr w.heap.size)).cell? ⟨w.heap.size, 1, none⟩ = some (ptr p) ∧ ((W2.setCell ⟨p, 2, none⟩ (ptr w.heap.size)).setCell ⟨c, 1, none⟩ (ptr w.heap.size)).cell? ⟨w.heap.size, 2, none⟩ = some (ptr c) := ⟨by rw [cell_other (at_ne (.inl (by omega)))]; exact hS1.1, by rw [cell_other (at_ne (.inl (by omega)))]; exact hS1.2⟩
  refine Reg.ord_move rfl _ rfl rfl hS0 ?_; simp only [Act.put, Act.eval, List.setIfInBounds_toArray, List.set_cons_succ, List.set_cons_zero, Array.getD_eq_getD_getElem?, List.getElem?_toArray, List.getElem?_cons_succ, List.getElem?_cons_zero, Option.getD_some]
  refine Reg.ord_val rfl rfl hS0 (ptr w.heap.size) (fun w' _ => by go_simp) ?_; simp only [Act.put, Act.eval, List.setIfInBounds_toArray, List.set_cons_succ, List.set_cons_zero, Array.getD_eq_getD_getElem?, List.getElem?_toArray, List.getElem?_cons_succ, List.getElem?_cons_zero, Option.getD_some]
  refine Reg.ord_val rfl rfl hS0 (.pointer (some ⟨w.heap.size, 1, none⟩)) (fun w' _ => by go_simp) ?_; simp only [Act.put, Act.eval, List.setIfInBounds_toArray, List.set_cons_succ, List.set_cons_zero, Array.getD_eq_getD_getElem?, List.getElem?_toArray, List.getElem?_cons_succ, List.getElem?_cons_zero, Option.getD_some]
  refine Reg.ord_val rfl rfl hS0 (ptr p) (fun w' h => run_ld agg46 _ rfl (by simp [Act.eval]) h.1) ?_; simp only [Act.put, Act.eval, List.setIfInBounds_toArray, List.set_cons_succ, List.set_cons_zero, Array.getD_eq_getD_getElem?, List.getElem?_toArray, List.getElem?_cons_succ, List.getElem?_cons_zero, Option.getD_some]
  refine Reg.ord_move rfl _ rfl rfl hS0 ?_; simp only [Act.put, Act.eval, List.setIfInBounds_toArray, List.set_cons_succ, List.set_cons_zero, Array.getD_eq_getD_getElem?, List.getElem?_toArray, List.getElem?_cons_succ, List.getElem?_cons_zero, Option.getD_some]
  refine Reg.ord_val rfl rfl hS0 (ptr w.heap.size) (fun w' _ => by go_simp) ?_; simp only [Act.put, Act.eval, List.setIfInBounds_toArray, List.set_cons_succ, List.set_cons_zero, Array.getD_eq_getD_getElem?, List.getElem?_toArray, List.getElem?_cons_succ, List.getElem?_cons_zero, Option.getD_some]
  refine Reg.ord_val rfl rfl hS0 (.pointer (some ⟨w.heap.size, 2, none⟩)) (fun w' _ => by go_simp) ?_; simp only [Act.put, Act.eval, List.setIfInBounds_toArray, List.set_cons_succ, List.set_cons_zero, Array.getD_eq_getD_getElem?, List.getElem?_toArray, List.getElem?_cons_succ, List.getElem?_cons_zero, Option.getD_some]
  refine Reg.ord_val rfl rfl hS0 (ptr c) (fun w' h => run_ld agg46 _ rfl (by simp [Act.eval]) h.2) ?_; simp only [Act.put, Act.eval, List.setIfInBounds_toArray, List.set_cons_succ, List.set_cons_zero, Array.getD_eq_getD_getElem?, List.getElem?_toArray, List.getElem?_cons_succ, List.getElem?_cons_zero, Option.getD_some]
  refine Reg.ord_move rfl _ rfl rfl hS0 ?_; simp only [Act.put, Act.eval, List.setIfInBounds_toArray, List.set_cons_succ, List.set_cons_zero, Array.getD_eq_getD_getElem?, List.getElem?_toArray, List.getElem?_cons_succ, List.getElem?_cons_zero, Option.getD_some]
  refine Reg.ord_move rfl _ rfl rfl hS0 ?_; simp only [Act.put, Act.eval, List.setIfInBounds_toArray, List.set_cons_succ, List.set_cons_zero, Array.getD_eq_getD_getElem?, List.getElem?_toArray, List.getElem?_cons_succ, List.getElem?_cons_zero, Option.getD_some]
  refine Reg.ord_val rfl rfl hS0 (ptr p) (fun w' _ => by go_simp) ?_; simp only [Act.put, Act.eval, List.setIfInBounds_toArray, List.set_cons_succ, List.set_cons_zero, Array.getD_eq_getD_getElem?, List.getElem?_toArray, List.getElem?_cons_succ, List.getElem?_cons_zero, Option.getD_some]
  refine Reg.ord_val rfl rfl hS0 (.pointer (some ⟨p, 2, none⟩)) (fun w' _ => by go_simp) ?_; simp only [Act.put, Act.eval, List.setIfInBounds_toArray, List.set_cons_succ, List.set_cons_zero, Array.getD_eq_getD_getElem?, List.getElem?_toArray, List.getElem?_cons_succ, List.getElem?_cons_zero, Option.getD_some]
  refine Reg.ord_step rfl ?_
  refine wl_st rfl size46 _ _ rfl ⟨p, 2, none⟩ (ptr w.heap.size) x (by simp [Act.eval]) (by simp [Act.eval]) rfl d3 e3 ?_
  refine wpList_nil ⟨hS1, ?_⟩
  simp only [Act.put, Act.eval, List.setIfInBounds_toArray, List.set_cons_succ, List.set_cons_zero, Array.getD_eq_getD_getElem?, List.getElem?_toArray, List.getElem?_cons_succ, List.getElem?_cons_zero, Option.getD_some]
  refine Reg.ord_val rfl rfl hS1 (ptr c) (fun w' _ => by go_simp) ?_; simp only [Act.put, Act.eval, List.setIfInBounds_toArray, List.set_cons_succ, List.set_cons_zero, Array.getD_eq_getD_getElem?, List.getElem?_toArray, List.getElem?_cons_succ, List.getElem?_cons_zero, Option.getD_some]
  refine Reg.ord_val rfl rfl hS1 (.pointer (some ⟨c, 1, none⟩)) (fun w' _ => by go_simp) ?_; simp only [Act.put, Act.eval, List.setIfInBounds_toArray, List.set_cons_succ, List.set_cons_zero, Array.getD_eq_getD_getElem?, List.getElem?_toArray, List.getElem?_cons_succ, List.getElem?_cons_zero, Option.getD_some]
  refine Reg.ord_step rfl ?_
  refine wl_st rfl size46 _ _ rfl ⟨c, 1, none⟩ (ptr w.heap.size) y' (by simp [Act.eval]) (by simp [Act.eval]) rfl d4' e4' ?_
  refine wpList_nil ⟨hS2, ?_⟩
  simp only [Act.put, Act.eval, List.setIfInBounds_toArray, List.set_cons_succ, List.set_cons_zero, Array.getD_eq_getD_getElem?, List.getElem?_toArray, List.getElem?_cons_succ, List.getElem?_cons_zero, Option.getD_some]
  refine Reg.ord_nil ?_
  go_wp2_with fail
  exact ret_tmp rfl _ rfl rfl ⟨rfl, by rw [hW2]⟩
set_option maxHeartbeats 1000000 in
theorem made_any (w : World) :
    Calls Try.prog 24 #[] w fun e w' => e = .returned (ptr w.heap.size) ∧ w' = ((w.alloc (.cells #[.int .i64 0, .pointer none, .pointer none] 51)).drew.setCell ⟨w.heap.size, 1, none⟩ (ptr w.heap.size)).setCell ⟨w.heap.size, 2, none⟩ (ptr w.heap.size) := by
  go_enter Try.func24, Try.ntmps24
  go_wp2_with fail
  have hw1 := heap_alloc_new w (.cells #[.int .i64 0, .pointer none, .pointer none] 51)
  have d1 : (w.alloc (.cells #[.int .i64 0, .pointer none, .pointer none] 51)).drew.cell? ⟨w.heap.size, 1, none⟩ = some (.pointer none) := by show (w.alloc _).cell? _ = _; rw [cell_of_row _ _ _ _ _ _ hw1]; rfl
  have d2 : (w.alloc (.cells #[.int .i64 0, .pointer none, .pointer none] 51)).drew.cell? ⟨w.heap.size, 2, none⟩ = some (.pointer none) := by show (w.alloc _).cell? _ = _; rw [cell_of_row _ _ _ _ _ _ hw1]; rfl
  have e1 : (w.alloc (.cells #[.int .i64 0, .pointer none, .pointer none] 51)).drew.frozen? ⟨w.heap.size, 1, none⟩ = false := by show (w.alloc _).frozen? _ = _; exact frozen_of_row _ _ _ _ _ hw1
  have e2 : (w.alloc (.cells #[.int .i64 0, .pointer none, .pointer none] 51)).drew.frozen? ⟨w.heap.size, 2, none⟩ = false := by show (w.alloc _).frozen? _ = _; exact frozen_of_row _ _ _ _ _ hw1
  refine Reg.region_ord (S := fun _ => True) [(0, 1), (1, 1), (2, 1), (3, 1), (4, 1), (5, 1), (6, 1), (7, 1), (8, 1), (9, 1), (10, 1), (11, 0), (12, 1), (13, 1), (14, 1), (15, 0)] (by kernel_rfl) (by kernel_rfl) (by decide) (by kernel_rfl) (fun _ _ _ _ _ h => h) ?_
  have HW : ∃ W2, W2 = (w.alloc (.cells #[.int .i64 0, .pointer none, .pointer none] 51)).drew := ⟨_, rfl⟩
  obtain ⟨W2, hW2⟩ := HW
  rw [← hW2] at d1 d2 e1 e2 ⊢
  obtain ⟨y', d2'⟩ := cell?_setCell_some (p := ⟨w.heap.size, 1, none⟩) (x := ptr w.heap.size) d2
  have e2' : (W2.setCell ⟨w.heap.size, 1, none⟩ (ptr w.heap.size)).frozen? ⟨w.heap.size, 2, none⟩ = false := by rw [World.frozen?_setCell]; exact e2
  clear hw1 d2 e2
  refine Reg.ord_move rfl _ rfl rfl trivial ?_; simp only [Act.put, Act.eval, List.setIfInBounds_toArray, List.set_cons_succ, List.set_cons_zero, Array.getD_eq_getD_getElem?, List.getElem?_toArray, List.getElem?_cons_succ, List.getElem?_cons_zero, Option.getD_some]
  refine Reg.ord_move rfl _ rfl rfl trivial ?_; simp only [Act.put, Act.eval, List.setIfInBounds_toArray, List.set_cons_succ, List.set_cons_zero, Array.getD_eq_getD_getElem?, List.getElem?_toArray, List.getElem?_cons_succ, List.getElem?_cons_zero, Option.getD_some]
  refine Reg.ord_move rfl _ rfl rfl trivial ?_; simp only [Act.put, Act.eval, List.setIfInBounds_toArray, List.set_cons_succ, List.set_cons_zero, Array.getD_eq_getD_getElem?, List.getElem?_toArray, List.getElem?_cons_succ, List.getElem?_cons_zero, Option.getD_some]
  refine Reg.ord_val rfl rfl trivial (ptr w.heap.size) (fun w' _ => by go_simp) ?_; simp only [Act.put, Act.eval, List.setIfInBounds_toArray, List.set_cons_succ, List.set_cons_zero, Array.getD_eq_getD_getElem?, List.getElem?_toArray, List.getElem?_cons_succ, List.getElem?_cons_zero, Option.getD_some]
  refine Reg.ord_val rfl rfl trivial (ptr w.heap.size) (fun w' _ => by go_simp) ?_; simp only [Act.put, Act.eval, List.setIfInBounds_toArray, List.set_cons_succ, List.set_cons_zero, Array.getD_eq_getD_getElem?, List.getElem?_toArray, List.getElem?_cons_succ, List.getElem?_cons_zero, Option.getD_some]
  refine Reg.ord_move rfl _ rfl rfl trivial ?_; simp only [Act.put, Act.eval, List.setIfInBounds_toArray, List.set_cons_succ, List.set_cons_zero, Array.getD_eq_getD_getElem?, List.getElem?_toArray, List.getElem?_cons_succ, List.getElem?_cons_zero, Option.getD_some]
  refine Reg.ord_val rfl rfl trivial (ptr w.heap.size) (fun w' _ => by go_simp) ?_; simp only [Act.put, Act.eval, List.setIfInBounds_toArray, List.set_cons_succ, List.set_cons_zero, Array.getD_eq_getD_getElem?, List.getElem?_toArray, List.getElem?_cons_succ, List.getElem?_cons_zero, Option.getD_some]
  refine Reg.ord_val rfl rfl trivial (ptr w.heap.size) (fun w' _ => by go_simp) ?_; simp only [Act.put, Act.eval, List.setIfInBounds_toArray, List.set_cons_succ, List.set_cons_zero, Array.getD_eq_getD_getElem?, List.getElem?_toArray, List.getElem?_cons_succ, List.getElem?_cons_zero, Option.getD_some]
  refine Reg.ord_val rfl rfl trivial (ptr w.heap.size) (fun w' _ => by go_simp) ?_; simp only [Act.put, Act.eval, List.setIfInBounds_toArray, List.set_cons_succ, List.set_cons_zero, Array.getD_eq_getD_getElem?, List.getElem?_toArray, List.getElem?_cons_succ, List.getElem?_cons_zero, Option.getD_some]
  refine Reg.ord_val rfl rfl trivial (ptr w.heap.size) (fun w' _ => by go_simp) ?_; simp only [Act.put, Act.eval, List.setIfInBounds_toArray, List.set_cons_succ, List.set_cons_zero, Array.getD_eq_getD_getElem?, List.getElem?_toArray, List.getElem?_cons_succ, List.getElem?_cons_zero, Option.getD_some]
  refine Reg.ord_val rfl rfl trivial (.pointer (some ⟨w.heap.size, 1, none⟩)) (fun w' _ => by go_simp) ?_; simp only [Act.put, Act.eval, List.setIfInBounds_toArray, List.set_cons_succ, List.set_cons_zero, Array.getD_eq_getD_getElem?, List.getElem?_toArray, List.getElem?_cons_succ, List.getElem?_cons_zero, Option.getD_some]
  refine Reg.ord_step rfl ?_
  refine wl_st rfl size46 _ _ rfl ⟨w.heap.size, 1, none⟩ (ptr w.heap.size) _ (by simp [Act.eval]) (by simp [Act.eval]) rfl d1 e1 ?_
  refine wpList_nil ⟨trivial, ?_⟩
  simp only [Act.put, Act.eval, List.setIfInBounds_toArray, List.set_cons_succ, List.set_cons_zero, Array.getD_eq_getD_getElem?, List.getElem?_toArray, List.getElem?_cons_succ, List.getElem?_cons_zero, Option.getD_some]
  refine Reg.ord_val rfl rfl trivial (ptr w.heap.size) (fun w' _ => by go_simp) ?_; simp only [Act.put, Act.eval, List.setIfInBounds_toArray, List.set_cons_succ, List.set_cons_zero, Array.getD_eq_getD_getElem?, List.getElem?_toArray, List.getElem?_cons_succ, List.getElem?_cons_zero, Option.getD_some]
  refine Reg.ord_val rfl rfl trivial (ptr w.heap.size) (fun w' _ => by go_simp) ?_; simp only [Act.put, Act.eval, List.setIfInBounds_toArray, List.set_cons_succ, List.set_cons_zero, Array.getD_eq_getD_getElem?, List.getElem?_toArray, List.getElem?_cons_succ, List.getElem?_cons_zero, Option.getD_some]
  refine Reg.ord_val rfl rfl trivial (.pointer (some ⟨w.heap.size, 2, none⟩)) (fun w' _ => by go_simp) ?_; simp only [Act.put, Act.eval, List.setIfInBounds_toArray, List.set_cons_succ, List.set_cons_zero, Array.getD_eq_getD_getElem?, List.getElem?_toArray, List.getElem?_cons_succ, List.getElem?_cons_zero, Option.getD_some]
  refine Reg.ord_step rfl ?_
  refine wl_st rfl size46 _ _ rfl ⟨w.heap.size, 2, none⟩ (ptr w.heap.size) y' (by simp [Act.eval]) (by simp [Act.eval]) rfl d2' e2' ?_
  refine wpList_nil ⟨trivial, ?_⟩
  simp only [Act.put, Act.eval, List.setIfInBounds_toArray, List.set_cons_succ, List.set_cons_zero, Array.getD_eq_getD_getElem?, List.getElem?_toArray, List.getElem?_cons_succ, List.getElem?_cons_zero, Option.getD_some]
  refine Reg.ord_nil ?_
  go_wp2_with fail
  exact ret_tmp rfl _ rfl rfl ⟨rfl, by rw [hW2]⟩
end Go.Proofs.Ytbbdbcgmeffchaa
