/- The walks of Choose at two inputs, and of what must be in any case (shown). -/
import Derived.Test.YtgmpekkoffkphaaWalk7
import Derived.ScopeJumps
namespace Go.Proofs.Ytgmpekkoffkphaa
open Go.RowKit flt
set_option linter.unusedSimpArgs false

def clp (n : Int) : Int := if (if n < -1 then -1 else n) < 1048576 then (if n < -1 then -1 else n) else 1048576
theorem clamp_any (n : Int) (w : World) : Calls Try.prog 21 #[.int .i64 n] w fun e w' => e = .returned (.int .i64 (clp n)) ∧ w' = w := by
  go_enter Try.func21, Try.ntmps21
  go_wp2
  all_goals
    refine ret_tmp rfl (.int .i64 (clp n)) (congrArg (Value.int .i64) ?_) rfl ⟨rfl, rfl⟩
    unfold clp
    repeat' split
    all_goals omega
/-- A scope with one jump onwards: the rest is walked once more from the label. -/
theorem wp_scope_once {P : Program} {c rest : Code} {Q : Exit → Act → World → Prop} {a : Act} {w : World} (l : Nat) (hf : findLabel c l = some rest)
    (h : c.wp P (Exit.jump l (fun a w => rest.wp P (Exit.noGoto Q) a w) Q) a w) : (Code.scope c).wp P Q a w :=
  wp_scope_jumps l (fun a w => rest.wp P (Exit.noGoto Q) a w) (fun _ _ => 0) hf h fun _ _ hJ => Code.wp_mono (fun e _ _ hq => by cases e <;> first | exact hq.elim | exact hq) hJ
set_option maxHeartbeats 1000000 in
theorem choose_one (w : World) : Calls Try.prog 18 #[.agg #[.int .i64 3, .int .i64 2, .int .i64 1, .int .i64 0, .int .i64 0, .int .i64 0, .slice none 0 0]] w fun e w' => e = .returned (.int .i64 1) ∧ Below w.heap.size w w' := by
  go_enter Try.func18, Try.ntmps18
  go_wp2_with fail
  go_step3
  go_wp2_with fail
  have hc0 : (w.alloc (.cells #[.int .i64 3, .int .i64 2, .int .i64 1, .int .i64 0, .int .i64 0, .int .i64 0, .slice none 0 0] 49)).drew.cell? ⟨w.heap.size, 0, none⟩ = some (.int .i64 3) := by show (w.alloc _).cell? _ = _; rw [cell_of_row _ _ _ _ _ _ (heap_alloc_new w _)]; rfl
  have hc1 : (w.alloc (.cells #[.int .i64 3, .int .i64 2, .int .i64 1, .int .i64 0, .int .i64 0, .int .i64 0, .slice none 0 0] 49)).drew.cell? ⟨w.heap.size, 1, none⟩ = some (.int .i64 2) := by show (w.alloc _).cell? _ = _; rw [cell_of_row _ _ _ _ _ _ (heap_alloc_new w _)]; rfl
  have hc2 : (w.alloc (.cells #[.int .i64 3, .int .i64 2, .int .i64 1, .int .i64 0, .int .i64 0, .int .i64 0, .slice none 0 0] 49)).drew.cell? ⟨w.heap.size, 2, none⟩ = some (.int .i64 1) := by show (w.alloc _).cell? _ = _; rw [cell_of_row _ _ _ _ _ _ (heap_alloc_new w _)]; rfl
  have hc3 : (w.alloc (.cells #[.int .i64 3, .int .i64 2, .int .i64 1, .int .i64 0, .int .i64 0, .int .i64 0, .slice none 0 0] 49)).drew.cell? ⟨w.heap.size, 3, none⟩ = some (.int .i64 0) := by show (w.alloc _).cell? _ = _; rw [cell_of_row _ _ _ _ _ _ (heap_alloc_new w _)]; rfl
  have hc4 : (w.alloc (.cells #[.int .i64 3, .int .i64 2, .int .i64 1, .int .i64 0, .int .i64 0, .int .i64 0, .slice none 0 0] 49)).drew.cell? ⟨w.heap.size, 4, none⟩ = some (.int .i64 0) := by show (w.alloc _).cell? _ = _; rw [cell_of_row _ _ _ _ _ _ (heap_alloc_new w _)]; rfl
  have hc5 : (w.alloc (.cells #[.int .i64 3, .int .i64 2, .int .i64 1, .int .i64 0, .int .i64 0, .int .i64 0, .slice none 0 0] 49)).drew.cell? ⟨w.heap.size, 5, none⟩ = some (.int .i64 0) := by show (w.alloc _).cell? _ = _; rw [cell_of_row _ _ _ _ _ _ (heap_alloc_new w _)]; rfl
  have hc6 : (w.alloc (.cells #[.int .i64 3, .int .i64 2, .int .i64 1, .int .i64 0, .int .i64 0, .int .i64 0, .slice none 0 0] 49)).drew.cell? ⟨w.heap.size, 6, none⟩ = some (.slice none 0 0) := by show (w.alloc _).cell? _ = _; rw [cell_of_row _ _ _ _ _ _ (heap_alloc_new w _)]; rfl
  have hb := (below_alloc w (.cells #[.int .i64 3, .int .i64 2, .int .i64 1, .int .i64 0, .int .i64 0, .int .i64 0, .slice none 0 0] 49)).drew
  refine Reg.region_ord (S := fun w' => w' = (w.alloc (.cells #[.int .i64 3, .int .i64 2, .int .i64 1, .int .i64 0, .int .i64 0, .int .i64 0, .slice none 0 0] 49)).drew) [(0, 1), (1, 1), (2, 1), (4, 1), (5, 1), (6, 1), (8, 1), (9, 1), (10, 1), (12, 1), (13, 1), (14, 1), (16, 1), (17, 1), (18, 1), (20, 1), (21, 1), (22, 1), (3, 0), (7, 0), (11, 0), (15, 0), (19, 0), (23, 0), (24, 1), (25, 1), (26, 1), (27, 1), (28, 1), (29, 1)] (by kernel_rfl) (by kernel_rfl) (by decide) (by kernel_rfl) (fun _ _ _ _ _ h => h) ?_
  generalize (w.alloc (.cells #[.int .i64 3, .int .i64 2, .int .i64 1, .int .i64 0, .int .i64 0, .int .i64 0, .slice none 0 0] 49)).drew = W at *
  refine Reg.ord_move rfl _ rfl rfl rfl ?_; simp only [Act.put, Act.eval, List.setIfInBounds_toArray, List.set_cons_succ, List.set_cons_zero, Array.getD_eq_getD_getElem?, List.getElem?_toArray, List.getElem?_cons_succ, List.getElem?_cons_zero, Option.getD_some]
  refine Reg.ord_val rfl rfl rfl (.pointer (some ⟨w.heap.size, 0, none⟩)) (fun w' h => by go_simp) ?_; simp only [Act.put, Act.eval, List.setIfInBounds_toArray, List.set_cons_succ, List.set_cons_zero, Array.getD_eq_getD_getElem?, List.getElem?_toArray, List.getElem?_cons_succ, List.getElem?_cons_zero, Option.getD_some]
  refine Reg.ord_val rfl rfl rfl (.int .i64 3) (fun w' h => by subst h; exact run_load_i _ rfl (by simp [Act.eval]) hc0) ?_; simp only [Act.put, Act.eval, List.setIfInBounds_toArray, List.set_cons_succ, List.set_cons_zero, Array.getD_eq_getD_getElem?, List.getElem?_toArray, List.getElem?_cons_succ, List.getElem?_cons_zero, Option.getD_some]
  refine Reg.ord_move rfl _ rfl rfl rfl ?_; simp only [Act.put, Act.eval, List.setIfInBounds_toArray, List.set_cons_succ, List.set_cons_zero, Array.getD_eq_getD_getElem?, List.getElem?_toArray, List.getElem?_cons_succ, List.getElem?_cons_zero, Option.getD_some]
  refine Reg.ord_val rfl rfl rfl (.pointer (some ⟨w.heap.size, 1, none⟩)) (fun w' h => by go_simp) ?_; simp only [Act.put, Act.eval, List.setIfInBounds_toArray, List.set_cons_succ, List.set_cons_zero, Array.getD_eq_getD_getElem?, List.getElem?_toArray, List.getElem?_cons_succ, List.getElem?_cons_zero, Option.getD_some]
  refine Reg.ord_val rfl rfl rfl (.int .i64 2) (fun w' h => by subst h; exact run_load_i _ rfl (by simp [Act.eval]) hc1) ?_; simp only [Act.put, Act.eval, List.setIfInBounds_toArray, List.set_cons_succ, List.set_cons_zero, Array.getD_eq_getD_getElem?, List.getElem?_toArray, List.getElem?_cons_succ, List.getElem?_cons_zero, Option.getD_some]
  refine Reg.ord_move rfl _ rfl rfl rfl ?_; simp only [Act.put, Act.eval, List.setIfInBounds_toArray, List.set_cons_succ, List.set_cons_zero, Array.getD_eq_getD_getElem?, List.getElem?_toArray, List.getElem?_cons_succ, List.getElem?_cons_zero, Option.getD_some]
  refine Reg.ord_val rfl rfl rfl (.pointer (some ⟨w.heap.size, 2, none⟩)) (fun w' h => by go_simp) ?_; simp only [Act.put, Act.eval, List.setIfInBounds_toArray, List.set_cons_succ, List.set_cons_zero, Array.getD_eq_getD_getElem?, List.getElem?_toArray, List.getElem?_cons_succ, List.getElem?_cons_zero, Option.getD_some]
  refine Reg.ord_val rfl rfl rfl (.int .i64 1) (fun w' h => by subst h; exact run_load_i _ rfl (by simp [Act.eval]) hc2) ?_; simp only [Act.put, Act.eval, List.setIfInBounds_toArray, List.set_cons_succ, List.set_cons_zero, Array.getD_eq_getD_getElem?, List.getElem?_toArray, List.getElem?_cons_succ, List.getElem?_cons_zero, Option.getD_some]
  refine Reg.ord_move rfl _ rfl rfl rfl ?_; simp only [Act.put, Act.eval, List.setIfInBounds_toArray, List.set_cons_succ, List.set_cons_zero, Array.getD_eq_getD_getElem?, List.getElem?_toArray, List.getElem?_cons_succ, List.getElem?_cons_zero, Option.getD_some]
  refine Reg.ord_val rfl rfl rfl (.pointer (some ⟨w.heap.size, 3, none⟩)) (fun w' h => by go_simp) ?_; simp only [Act.put, Act.eval, List.setIfInBounds_toArray, List.set_cons_succ, List.set_cons_zero, Array.getD_eq_getD_getElem?, List.getElem?_toArray, List.getElem?_cons_succ, List.getElem?_cons_zero, Option.getD_some]
  refine Reg.ord_val rfl rfl rfl (.int .i64 0) (fun w' h => by subst h; exact run_load_i _ rfl (by simp [Act.eval]) hc3) ?_; simp only [Act.put, Act.eval, List.setIfInBounds_toArray, List.set_cons_succ, List.set_cons_zero, Array.getD_eq_getD_getElem?, List.getElem?_toArray, List.getElem?_cons_succ, List.getElem?_cons_zero, Option.getD_some]
  refine Reg.ord_move rfl _ rfl rfl rfl ?_; simp only [Act.put, Act.eval, List.setIfInBounds_toArray, List.set_cons_succ, List.set_cons_zero, Array.getD_eq_getD_getElem?, List.getElem?_toArray, List.getElem?_cons_succ, List.getElem?_cons_zero, Option.getD_some]
  refine Reg.ord_val rfl rfl rfl (.pointer (some ⟨w.heap.size, 4, none⟩)) (fun w' h => by go_simp) ?_; simp only [Act.put, Act.eval, List.setIfInBounds_toArray, List.set_cons_succ, List.set_cons_zero, Array.getD_eq_getD_getElem?, List.getElem?_toArray, List.getElem?_cons_succ, List.getElem?_cons_zero, Option.getD_some]
  refine Reg.ord_val rfl rfl rfl (.int .i64 0) (fun w' h => by subst h; exact run_load_i _ rfl (by simp [Act.eval]) hc4) ?_; simp only [Act.put, Act.eval, List.setIfInBounds_toArray, List.set_cons_succ, List.set_cons_zero, Array.getD_eq_getD_getElem?, List.getElem?_toArray, List.getElem?_cons_succ, List.getElem?_cons_zero, Option.getD_some]
  refine Reg.ord_move rfl _ rfl rfl rfl ?_; simp only [Act.put, Act.eval, List.setIfInBounds_toArray, List.set_cons_succ, List.set_cons_zero, Array.getD_eq_getD_getElem?, List.getElem?_toArray, List.getElem?_cons_succ, List.getElem?_cons_zero, Option.getD_some]
  refine Reg.ord_val rfl rfl rfl (.pointer (some ⟨w.heap.size, 5, none⟩)) (fun w' h => by go_simp) ?_; simp only [Act.put, Act.eval, List.setIfInBounds_toArray, List.set_cons_succ, List.set_cons_zero, Array.getD_eq_getD_getElem?, List.getElem?_toArray, List.getElem?_cons_succ, List.getElem?_cons_zero, Option.getD_some]
  refine Reg.ord_val rfl rfl rfl (.int .i64 0) (fun w' h => by subst h; exact run_load_i _ rfl (by simp [Act.eval]) hc5) ?_; simp only [Act.put, Act.eval, List.setIfInBounds_toArray, List.set_cons_succ, List.set_cons_zero, Array.getD_eq_getD_getElem?, List.getElem?_toArray, List.getElem?_cons_succ, List.getElem?_cons_zero, Option.getD_some]
  refine Reg.ord_call rfl rfl 21 #[.int .i64 3] (by go_simp) (clamp_any _ _) (fun W4 hb4 => ⟨hb4, ?_⟩)
  subst hb4
  simp only [Act.put, Act.eval, List.setIfInBounds_toArray, List.set_cons_succ, List.set_cons_zero, Array.getD_eq_getD_getElem?, List.getElem?_toArray, List.getElem?_cons_succ, List.getElem?_cons_zero, Option.getD_some]
  refine Reg.ord_call rfl rfl 21 #[.int .i64 2] (by go_simp) (clamp_any _ _) (fun W4 hb4 => ⟨hb4, ?_⟩)
  subst hb4
  simp only [Act.put, Act.eval, List.setIfInBounds_toArray, List.set_cons_succ, List.set_cons_zero, Array.getD_eq_getD_getElem?, List.getElem?_toArray, List.getElem?_cons_succ, List.getElem?_cons_zero, Option.getD_some]
  refine Reg.ord_call rfl rfl 21 #[.int .i64 1] (by go_simp) (clamp_any _ _) (fun W4 hb4 => ⟨hb4, ?_⟩)
  subst hb4
  simp only [Act.put, Act.eval, List.setIfInBounds_toArray, List.set_cons_succ, List.set_cons_zero, Array.getD_eq_getD_getElem?, List.getElem?_toArray, List.getElem?_cons_succ, List.getElem?_cons_zero, Option.getD_some]
  refine Reg.ord_call rfl rfl 21 #[.int .i64 0] (by go_simp) (clamp_any _ _) (fun W4 hb4 => ⟨hb4, ?_⟩)
  subst hb4
  simp only [Act.put, Act.eval, List.setIfInBounds_toArray, List.set_cons_succ, List.set_cons_zero, Array.getD_eq_getD_getElem?, List.getElem?_toArray, List.getElem?_cons_succ, List.getElem?_cons_zero, Option.getD_some]
  refine Reg.ord_call rfl rfl 21 #[.int .i64 0] (by go_simp) (clamp_any _ _) (fun W4 hb4 => ⟨hb4, ?_⟩)
  subst hb4
  simp only [Act.put, Act.eval, List.setIfInBounds_toArray, List.set_cons_succ, List.set_cons_zero, Array.getD_eq_getD_getElem?, List.getElem?_toArray, List.getElem?_cons_succ, List.getElem?_cons_zero, Option.getD_some]
  refine Reg.ord_call rfl rfl 21 #[.int .i64 0] (by go_simp) (clamp_any _ _) (fun W4 hb4 => ⟨hb4, ?_⟩)
  subst hb4
  simp only [Act.put, Act.eval, List.setIfInBounds_toArray, List.set_cons_succ, List.set_cons_zero, Array.getD_eq_getD_getElem?, List.getElem?_toArray, List.getElem?_cons_succ, List.getElem?_cons_zero, Option.getD_some]
  refine Reg.ord_assign rfl _ rfl rfl rfl ?_; simp only [Act.put, Act.eval, List.setIfInBounds_toArray, List.set_cons_succ, List.set_cons_zero, Array.getD_eq_getD_getElem?, List.getElem?_toArray, List.getElem?_cons_succ, List.getElem?_cons_zero, Option.getD_some]
  refine Reg.ord_assign rfl _ rfl rfl rfl ?_; simp only [Act.put, Act.eval, List.setIfInBounds_toArray, List.set_cons_succ, List.set_cons_zero, Array.getD_eq_getD_getElem?, List.getElem?_toArray, List.getElem?_cons_succ, List.getElem?_cons_zero, Option.getD_some]
  refine Reg.ord_assign rfl _ rfl rfl rfl ?_; simp only [Act.put, Act.eval, List.setIfInBounds_toArray, List.set_cons_succ, List.set_cons_zero, Array.getD_eq_getD_getElem?, List.getElem?_toArray, List.getElem?_cons_succ, List.getElem?_cons_zero, Option.getD_some]
  refine Reg.ord_assign rfl _ rfl rfl rfl ?_; simp only [Act.put, Act.eval, List.setIfInBounds_toArray, List.set_cons_succ, List.set_cons_zero, Array.getD_eq_getD_getElem?, List.getElem?_toArray, List.getElem?_cons_succ, List.getElem?_cons_zero, Option.getD_some]
  refine Reg.ord_assign rfl _ rfl rfl rfl ?_; simp only [Act.put, Act.eval, List.setIfInBounds_toArray, List.set_cons_succ, List.set_cons_zero, Array.getD_eq_getD_getElem?, List.getElem?_toArray, List.getElem?_cons_succ, List.getElem?_cons_zero, Option.getD_some]
  refine Reg.ord_assign rfl _ rfl rfl rfl ?_; simp only [Act.put, Act.eval, List.setIfInBounds_toArray, List.set_cons_succ, List.set_cons_zero, Array.getD_eq_getD_getElem?, List.getElem?_toArray, List.getElem?_cons_succ, List.getElem?_cons_zero, Option.getD_some]
  refine Reg.ord_nil ?_
  rw [show clp 0 = 0 from rfl]
  rw [show clp 1 = 1 from rfl]
  rw [show clp 2 = 2 from rfl]
  rw [show clp 3 = 3 from rfl]
  go_wp2_with fail
  rw [Exit.noGoto_ret]
  exact ret_tmp rfl _ rfl rfl ⟨rfl, hb⟩

set_option maxHeartbeats 1000000 in
theorem choose_two (w : World) (v : Value) (l : List Fr) (hok : ∀ p ∈ l, p.ok) (hs : IsCs w v l) (hne : 0 < l.length) (hwb : worthB l (wrs l l.length) (bst l l.length) = true) :
    Calls Try.prog 18 #[.agg #[.int .i64 0, .int .i64 0, .int .i64 0, .int .i64 0, .int .i64 0, .int .i64 0, v]] w fun e w' => e = .returned (.int .i64 4) ∧ Below w.heap.size w w' := by
  go_enter Try.func18, Try.ntmps18
  go_wp2_with fail
  refine wp_scope_once 0 rfl ?_
  go_wp2_with fail
  have hc0 : (w.alloc (.cells #[.int .i64 0, .int .i64 0, .int .i64 0, .int .i64 0, .int .i64 0, .int .i64 0, v] 49)).drew.cell? ⟨w.heap.size, 0, none⟩ = some (.int .i64 0) := by show (w.alloc _).cell? _ = _; rw [cell_of_row _ _ _ _ _ _ (heap_alloc_new w _)]; rfl
  have hc1 : (w.alloc (.cells #[.int .i64 0, .int .i64 0, .int .i64 0, .int .i64 0, .int .i64 0, .int .i64 0, v] 49)).drew.cell? ⟨w.heap.size, 1, none⟩ = some (.int .i64 0) := by show (w.alloc _).cell? _ = _; rw [cell_of_row _ _ _ _ _ _ (heap_alloc_new w _)]; rfl
  have hc2 : (w.alloc (.cells #[.int .i64 0, .int .i64 0, .int .i64 0, .int .i64 0, .int .i64 0, .int .i64 0, v] 49)).drew.cell? ⟨w.heap.size, 2, none⟩ = some (.int .i64 0) := by show (w.alloc _).cell? _ = _; rw [cell_of_row _ _ _ _ _ _ (heap_alloc_new w _)]; rfl
  have hc3 : (w.alloc (.cells #[.int .i64 0, .int .i64 0, .int .i64 0, .int .i64 0, .int .i64 0, .int .i64 0, v] 49)).drew.cell? ⟨w.heap.size, 3, none⟩ = some (.int .i64 0) := by show (w.alloc _).cell? _ = _; rw [cell_of_row _ _ _ _ _ _ (heap_alloc_new w _)]; rfl
  have hc4 : (w.alloc (.cells #[.int .i64 0, .int .i64 0, .int .i64 0, .int .i64 0, .int .i64 0, .int .i64 0, v] 49)).drew.cell? ⟨w.heap.size, 4, none⟩ = some (.int .i64 0) := by show (w.alloc _).cell? _ = _; rw [cell_of_row _ _ _ _ _ _ (heap_alloc_new w _)]; rfl
  have hc5 : (w.alloc (.cells #[.int .i64 0, .int .i64 0, .int .i64 0, .int .i64 0, .int .i64 0, .int .i64 0, v] 49)).drew.cell? ⟨w.heap.size, 5, none⟩ = some (.int .i64 0) := by show (w.alloc _).cell? _ = _; rw [cell_of_row _ _ _ _ _ _ (heap_alloc_new w _)]; rfl
  have hc6 : (w.alloc (.cells #[.int .i64 0, .int .i64 0, .int .i64 0, .int .i64 0, .int .i64 0, .int .i64 0, v] 49)).drew.cell? ⟨w.heap.size, 6, none⟩ = some (v) := by show (w.alloc _).cell? _ = _; rw [cell_of_row _ _ _ _ _ _ (heap_alloc_new w _)]; rfl
  have hb := (below_alloc w (.cells #[.int .i64 0, .int .i64 0, .int .i64 0, .int .i64 0, .int .i64 0, .int .i64 0, v] 49)).drew
  refine Reg.region_ord (S := fun w' => w' = (w.alloc (.cells #[.int .i64 0, .int .i64 0, .int .i64 0, .int .i64 0, .int .i64 0, .int .i64 0, v] 49)).drew) [(0, 1), (1, 1), (2, 1), (4, 1), (5, 1), (6, 1), (8, 1), (9, 1), (10, 1), (12, 1), (13, 1), (14, 1), (16, 1), (17, 1), (18, 1), (20, 1), (21, 1), (22, 1), (3, 0), (7, 0), (11, 0), (15, 0), (19, 0), (23, 0), (24, 1), (25, 1), (26, 1), (27, 1), (28, 1), (29, 1)] (by kernel_rfl) (by kernel_rfl) (by decide) (by kernel_rfl) (fun _ _ _ _ _ h => h) ?_
  have hsW := hs.step hb
  generalize (w.alloc (.cells #[.int .i64 0, .int .i64 0, .int .i64 0, .int .i64 0, .int .i64 0, .int .i64 0, v] 49)).drew = W at *
  refine Reg.ord_move rfl _ rfl rfl rfl ?_; simp only [Act.put, Act.eval, List.setIfInBounds_toArray, List.set_cons_succ, List.set_cons_zero, Array.getD_eq_getD_getElem?, List.getElem?_toArray, List.getElem?_cons_succ, List.getElem?_cons_zero, Option.getD_some]
  refine Reg.ord_val rfl rfl rfl (.pointer (some ⟨w.heap.size, 0, none⟩)) (fun w' h => by go_simp) ?_; simp only [Act.put, Act.eval, List.setIfInBounds_toArray, List.set_cons_succ, List.set_cons_zero, Array.getD_eq_getD_getElem?, List.getElem?_toArray, List.getElem?_cons_succ, List.getElem?_cons_zero, Option.getD_some]
  refine Reg.ord_val rfl rfl rfl (.int .i64 0) (fun w' h => by subst h; exact run_load_i _ rfl (by simp [Act.eval]) hc0) ?_; simp only [Act.put, Act.eval, List.setIfInBounds_toArray, List.set_cons_succ, List.set_cons_zero, Array.getD_eq_getD_getElem?, List.getElem?_toArray, List.getElem?_cons_succ, List.getElem?_cons_zero, Option.getD_some]
  refine Reg.ord_move rfl _ rfl rfl rfl ?_; simp only [Act.put, Act.eval, List.setIfInBounds_toArray, List.set_cons_succ, List.set_cons_zero, Array.getD_eq_getD_getElem?, List.getElem?_toArray, List.getElem?_cons_succ, List.getElem?_cons_zero, Option.getD_some]
  refine Reg.ord_val rfl rfl rfl (.pointer (some ⟨w.heap.size, 1, none⟩)) (fun w' h => by go_simp) ?_; simp only [Act.put, Act.eval, List.setIfInBounds_toArray, List.set_cons_succ, List.set_cons_zero, Array.getD_eq_getD_getElem?, List.getElem?_toArray, List.getElem?_cons_succ, List.getElem?_cons_zero, Option.getD_some]
  refine Reg.ord_val rfl rfl rfl (.int .i64 0) (fun w' h => by subst h; exact run_load_i _ rfl (by simp [Act.eval]) hc1) ?_; simp only [Act.put, Act.eval, List.setIfInBounds_toArray, List.set_cons_succ, List.set_cons_zero, Array.getD_eq_getD_getElem?, List.getElem?_toArray, List.getElem?_cons_succ, List.getElem?_cons_zero, Option.getD_some]
  refine Reg.ord_move rfl _ rfl rfl rfl ?_; simp only [Act.put, Act.eval, List.setIfInBounds_toArray, List.set_cons_succ, List.set_cons_zero, Array.getD_eq_getD_getElem?, List.getElem?_toArray, List.getElem?_cons_succ, List.getElem?_cons_zero, Option.getD_some]
  refine Reg.ord_val rfl rfl rfl (.pointer (some ⟨w.heap.size, 2, none⟩)) (fun w' h => by go_simp) ?_; simp only [Act.put, Act.eval, List.setIfInBounds_toArray, List.set_cons_succ, List.set_cons_zero, Array.getD_eq_getD_getElem?, List.getElem?_toArray, List.getElem?_cons_succ, List.getElem?_cons_zero, Option.getD_some]
  refine Reg.ord_val rfl rfl rfl (.int .i64 0) (fun w' h => by subst h; exact run_load_i _ rfl (by simp [Act.eval]) hc2) ?_; simp only [Act.put, Act.eval, List.setIfInBounds_toArray, List.set_cons_succ, List.set_cons_zero, Array.getD_eq_getD_getElem?, List.getElem?_toArray, List.getElem?_cons_succ, List.getElem?_cons_zero, Option.getD_some]
  refine Reg.ord_move rfl _ rfl rfl rfl ?_; simp only [Act.put, Act.eval, List.setIfInBounds_toArray, List.set_cons_succ, List.set_cons_zero, Array.getD_eq_getD_getElem?, List.getElem?_toArray, List.getElem?_cons_succ, List.getElem?_cons_zero, Option.getD_some]
  refine Reg.ord_val rfl rfl rfl (.pointer (some ⟨w.heap.size, 3, none⟩)) (fun w' h => by go_simp) ?_; simp only [Act.put, Act.eval, List.setIfInBounds_toArray, List.set_cons_succ, List.set_cons_zero, Array.getD_eq_getD_getElem?, List.getElem?_toArray, List.getElem?_cons_succ, List.getElem?_cons_zero, Option.getD_some]
  refine Reg.ord_val rfl rfl rfl (.int .i64 0) (fun w' h => by subst h; exact run_load_i _ rfl (by simp [Act.eval]) hc3) ?_; simp only [Act.put, Act.eval, List.setIfInBounds_toArray, List.set_cons_succ, List.set_cons_zero, Array.getD_eq_getD_getElem?, List.getElem?_toArray, List.getElem?_cons_succ, List.getElem?_cons_zero, Option.getD_some]
  refine Reg.ord_move rfl _ rfl rfl rfl ?_; simp only [Act.put, Act.eval, List.setIfInBounds_toArray, List.set_cons_succ, List.set_cons_zero, Array.getD_eq_getD_getElem?, List.getElem?_toArray, List.getElem?_cons_succ, List.getElem?_cons_zero, Option.getD_some]
  refine Reg.ord_val rfl rfl rfl (.pointer (some ⟨w.heap.size, 4, none⟩)) (fun w' h => by go_simp) ?_; simp only [Act.put, Act.eval, List.setIfInBounds_toArray, List.set_cons_succ, List.set_cons_zero, Array.getD_eq_getD_getElem?, List.getElem?_toArray, List.getElem?_cons_succ, List.getElem?_cons_zero, Option.getD_some]
  refine Reg.ord_val rfl rfl rfl (.int .i64 0) (fun w' h => by subst h; exact run_load_i _ rfl (by simp [Act.eval]) hc4) ?_; simp only [Act.put, Act.eval, List.setIfInBounds_toArray, List.set_cons_succ, List.set_cons_zero, Array.getD_eq_getD_getElem?, List.getElem?_toArray, List.getElem?_cons_succ, List.getElem?_cons_zero, Option.getD_some]
  refine Reg.ord_move rfl _ rfl rfl rfl ?_; simp only [Act.put, Act.eval, List.setIfInBounds_toArray, List.set_cons_succ, List.set_cons_zero, Array.getD_eq_getD_getElem?, List.getElem?_toArray, List.getElem?_cons_succ, List.getElem?_cons_zero, Option.getD_some]
  refine Reg.ord_val rfl rfl rfl (.pointer (some ⟨w.heap.size, 5, none⟩)) (fun w' h => by go_simp) ?_; simp only [Act.put, Act.eval, List.setIfInBounds_toArray, List.set_cons_succ, List.set_cons_zero, Array.getD_eq_getD_getElem?, List.getElem?_toArray, List.getElem?_cons_succ, List.getElem?_cons_zero, Option.getD_some]
  refine Reg.ord_val rfl rfl rfl (.int .i64 0) (fun w' h => by subst h; exact run_load_i _ rfl (by simp [Act.eval]) hc5) ?_; simp only [Act.put, Act.eval, List.setIfInBounds_toArray, List.set_cons_succ, List.set_cons_zero, Array.getD_eq_getD_getElem?, List.getElem?_toArray, List.getElem?_cons_succ, List.getElem?_cons_zero, Option.getD_some]
  refine Reg.ord_call rfl rfl 21 #[.int .i64 0] (by go_simp) (clamp_any _ _) (fun W4 hb4 => ⟨hb4, ?_⟩)
  subst hb4
  simp only [Act.put, Act.eval, List.setIfInBounds_toArray, List.set_cons_succ, List.set_cons_zero, Array.getD_eq_getD_getElem?, List.getElem?_toArray, List.getElem?_cons_succ, List.getElem?_cons_zero, Option.getD_some]
  refine Reg.ord_call rfl rfl 21 #[.int .i64 0] (by go_simp) (clamp_any _ _) (fun W4 hb4 => ⟨hb4, ?_⟩)
  subst hb4
  simp only [Act.put, Act.eval, List.setIfInBounds_toArray, List.set_cons_succ, List.set_cons_zero, Array.getD_eq_getD_getElem?, List.getElem?_toArray, List.getElem?_cons_succ, List.getElem?_cons_zero, Option.getD_some]
  refine Reg.ord_call rfl rfl 21 #[.int .i64 0] (by go_simp) (clamp_any _ _) (fun W4 hb4 => ⟨hb4, ?_⟩)
  subst hb4
  simp only [Act.put, Act.eval, List.setIfInBounds_toArray, List.set_cons_succ, List.set_cons_zero, Array.getD_eq_getD_getElem?, List.getElem?_toArray, List.getElem?_cons_succ, List.getElem?_cons_zero, Option.getD_some]
  refine Reg.ord_call rfl rfl 21 #[.int .i64 0] (by go_simp) (clamp_any _ _) (fun W4 hb4 => ⟨hb4, ?_⟩)
  subst hb4
  simp only [Act.put, Act.eval, List.setIfInBounds_toArray, List.set_cons_succ, List.set_cons_zero, Array.getD_eq_getD_getElem?, List.getElem?_toArray, List.getElem?_cons_succ, List.getElem?_cons_zero, Option.getD_some]
  refine Reg.ord_call rfl rfl 21 #[.int .i64 0] (by go_simp) (clamp_any _ _) (fun W4 hb4 => ⟨hb4, ?_⟩)
  subst hb4
  simp only [Act.put, Act.eval, List.setIfInBounds_toArray, List.set_cons_succ, List.set_cons_zero, Array.getD_eq_getD_getElem?, List.getElem?_toArray, List.getElem?_cons_succ, List.getElem?_cons_zero, Option.getD_some]
  refine Reg.ord_call rfl rfl 21 #[.int .i64 0] (by go_simp) (clamp_any _ _) (fun W4 hb4 => ⟨hb4, ?_⟩)
  subst hb4
  simp only [Act.put, Act.eval, List.setIfInBounds_toArray, List.set_cons_succ, List.set_cons_zero, Array.getD_eq_getD_getElem?, List.getElem?_toArray, List.getElem?_cons_succ, List.getElem?_cons_zero, Option.getD_some]
  refine Reg.ord_assign rfl _ rfl rfl rfl ?_; simp only [Act.put, Act.eval, List.setIfInBounds_toArray, List.set_cons_succ, List.set_cons_zero, Array.getD_eq_getD_getElem?, List.getElem?_toArray, List.getElem?_cons_succ, List.getElem?_cons_zero, Option.getD_some]
  refine Reg.ord_assign rfl _ rfl rfl rfl ?_; simp only [Act.put, Act.eval, List.setIfInBounds_toArray, List.set_cons_succ, List.set_cons_zero, Array.getD_eq_getD_getElem?, List.getElem?_toArray, List.getElem?_cons_succ, List.getElem?_cons_zero, Option.getD_some]
  refine Reg.ord_assign rfl _ rfl rfl rfl ?_; simp only [Act.put, Act.eval, List.setIfInBounds_toArray, List.set_cons_succ, List.set_cons_zero, Array.getD_eq_getD_getElem?, List.getElem?_toArray, List.getElem?_cons_succ, List.getElem?_cons_zero, Option.getD_some]
  refine Reg.ord_assign rfl _ rfl rfl rfl ?_; simp only [Act.put, Act.eval, List.setIfInBounds_toArray, List.set_cons_succ, List.set_cons_zero, Array.getD_eq_getD_getElem?, List.getElem?_toArray, List.getElem?_cons_succ, List.getElem?_cons_zero, Option.getD_some]
  refine Reg.ord_assign rfl _ rfl rfl rfl ?_; simp only [Act.put, Act.eval, List.setIfInBounds_toArray, List.set_cons_succ, List.set_cons_zero, Array.getD_eq_getD_getElem?, List.getElem?_toArray, List.getElem?_cons_succ, List.getElem?_cons_zero, Option.getD_some]
  refine Reg.ord_assign rfl _ rfl rfl rfl ?_; simp only [Act.put, Act.eval, List.setIfInBounds_toArray, List.set_cons_succ, List.set_cons_zero, Array.getD_eq_getD_getElem?, List.getElem?_toArray, List.getElem?_cons_succ, List.getElem?_cons_zero, Option.getD_some]
  refine Reg.ord_nil ?_
  rw [show clp 0 = 0 from rfl]
  go_wp2_with fail
  go_step3
  refine ⟨rfl, ?_⟩
  go_wp2_with fail
  refine (spread_any v l hok _ hsW).mono ?_
  rintro e W5 ⟨rfl, hb5⟩
  have hc7 := Below.at hb5 hc6
  have hs5 := hsW.step hb5
  have hst5 := hb.trans (hb5.mono hb.size)
  have hd : decide (0 < l.length) = true := decide_eq_true hne
  rw [hd]
  clear hc0 hc1 hc2 hc3 hc4 hc5 hc6 hsW hb5 hb
  go_wp2_with fail
  refine (worth_any v l hok _ _ _ hs5).mono ?_
  rintro e W6 ⟨rfl, hb6⟩
  rw [hwb]
  have hst6 := hst5.trans (hb6.mono hst5.size)
  clear hb6 hst5
  go_wp2_with fail
  rw [Exit.noGoto_ret]
  exact ret_tmp rfl _ rfl rfl ⟨rfl, hst6⟩
end Go.Proofs.Ytgmpekkoffkphaa
