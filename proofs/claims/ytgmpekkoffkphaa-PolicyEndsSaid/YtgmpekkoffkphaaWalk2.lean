/- The walks of the document's own Fraction and Fuller. -/
import Derived.Test.YtgmpekkoffkphaaWalk1
namespace Go.Proofs.Ytgmpekkoffkphaa
open Go.RowKit flt
set_option linter.unusedSimpArgs false
def prC (a b : Int) : Array Value := #[.int .i64 a, .int .i64 b]
def prV (a b : Int) : Value := .agg (prC a b)
theorem below_alloc (W : World) (o : Obj) : Below W.heap.size W (W.alloc o) := (Below.refl _ _).alloc (Nat.le_refl _) o
theorem below_setRow (W : World) (B g : Nat) (cs : Array Value) (h : B ≤ g) : Below B W (W.setRow g cs) :=
  ⟨rfl, rfl, rfl, by simp, fun k hk => setRow_other W g k cs (by omega)⟩
set_option maxHeartbeats 400000 in
theorem rfuller_any (x u y v : Int) (hx : small x) (hu : small u) (hy : small y) (hv : small v) (w : World) :
    Calls Try.prog 15 #[prV x u, prV y v] w fun e w' => e = .returned (.int .i64 (ful x u y v)) ∧ Below w.heap.size w w' := by
  have m1 := small_mul hx hv
  have m2 := small_mul hy hu
  unfold prV prC
  clear hx hu hy hv
  go_enter Try.func15, Try.ntmps15
  go_wp2
  all_goals
    refine ret_tmp rfl _ rfl rfl ⟨?_, (below_alloc w _).trans ((below_alloc _ _).mono (by simp))⟩
    unfold ful
    repeat' split
    all_goals first | rfl | omega
theorem ret_pair {fn : Func} {p : Tmp} {R : Ending → World → Prop} {a : Act} {W : World} (h : fn.results = #[.cell p 37]) (b : Nat) (x y : Int) (hp : a.tmps.getD p undef = .pointer (some ⟨b, 0, none⟩)) (hm : W.heap[b]? = some (.cells (prC x y) 37))
    (hd : a.defers = []) (hR : R (.returned (prV x y)) W) : bodyPost Try.prog fn R .ret a W :=
  bodyPost_ret (v := prV x y) (results_cell_row h _ _ b 37 (prC x y) (0, 0) _ hp hm Try.underlying37 rfl (by kernel_rfl)) hd hR
set_option maxHeartbeats 400000 in
theorem rfraction_any (a b : Int) (w : World) :
    Calls Try.prog 14 #[.int .i64 a, .int .i64 b] w fun e w' => e = .returned (prV (num a b) (den b)) ∧ Below w.heap.size w w' := by
  by_cases h : b < 1
  · have h1 : num a b = 1 := by rw [num, if_pos h]
    have h2 : den b = 1 := by rw [den, if_pos h]
    rw [h1, h2]
    go_enter Try.func14, Try.ntmps14
    go_wp2
    exact ret_pair rfl _ 1 1 rfl (heap_alloc_new w _) rfl ⟨rfl, below_alloc w _⟩
  · have hn : (if b < 1 then 1 else if 1048576 < b then 1048576 else b) = den b := by unfold den; split <;> (try split) <;> (try split) <;> omega
    have hm : num a b = if den b < (if a < 0 then 0 else if 1048576 < a then 1048576 else a) then den b else (if a < 0 then 0 else if 1048576 < a then 1048576 else a) := by
      have := den_le b
      unfold num
      rw [if_neg h]
      repeat' split
      all_goals omega
    go_enter Try.func14, Try.ntmps14
    go_wp2_with fail
    refine (number_any _ _ _).mono ?_
    rintro e W4 ⟨rfl, rfl⟩
    rw [hn]
    generalize hdd : den b = d at *
    go_wp2_with fail
    refine (number_any _ _ _).mono ?_
    rintro e W4 ⟨rfl, rfl⟩
    generalize (if a < 0 then 0 else if 1048576 < a then 1048576 else a) = p at *
    clear hn
    by_cases hp : d < p
    · rw [if_pos hp] at hm
      go_wp2
      exact ret_pair rfl _ _ _ rfl (heap_alloc_new w _) rfl ⟨by rw [hm, hdd], below_alloc w _⟩
    · rw [if_neg hp] at hm
      go_wp2
      exact ret_pair rfl _ _ _ rfl (heap_alloc_new w _) rfl ⟨by rw [hm, hdd], below_alloc w _⟩
end Go.Proofs.Ytgmpekkoffkphaa
