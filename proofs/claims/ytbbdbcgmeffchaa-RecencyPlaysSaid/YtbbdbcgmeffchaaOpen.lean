/- The arguments of the statements of layer 16, opened: a slice of ints; parts of slices. -/
import Derived.Test.YtbbdbcgmeffchaaShown
import Derived.Test.YtbbdbcgmeffchaaChecked
import Derived.Deep.Slices
import Derived.Deep.SlicePairs
import Derived.Lib.SmallJoins
import Derived.ProofKit
import Derived.OpenShut
import Derived.ShutString
import Derived.ChangeOld
namespace Go.Proofs.Ytbbdbcgmeffchaa
open Go.RowKit Go.ChangeShapes Go.WideShapes
set_option linter.unusedSimpArgs false

theorem own : ownKnob Try.prog.godebug = none := by kernel_rfl
theorem laidOut : laidOutB Try.prog = true := by kernel_rfl
theorem cells_get {W : World} {b : Nat} {a : Addr} : ∀ {n : Nat} {cs : List Value}, W.cells? b a n = some cs → ∀ j, j < n → W.cell? (a.add j) = cs[j]? := by
  intro n cs h j hj
  unfold World.cells? at h
  split at h
  · exact (mapM_some_get h j j (by simp [hj])).trans (by rfl)
  · cases h
section
variable {H : Type} {enc : TypeId × Value → H} {w : World} {base : Nat} {spare : Nat → Bool} {held : Bool}
theorem open_is {r : Reach} {b0 : Nat} {v : Value} {d : DataW H} {p : List MemPlace} (hv : Value.okWide Try.prog w r b0 22 v) (h : DataW.Trod enc Try.prog w base spare held 22 v d p) : ∃ l : List Int, IsI w v l ∧ ∀ x ∈ l, wf64 x := by
  obtain ⟨a0, len0, cap0, rfl⟩ := okWide_slice Try.underlying22 hv
  obtain ⟨fuel, hf⟩ := h
  rcases Deep.open_slice Try.underlying22 hf with ⟨hcs, _⟩ | ⟨a, len, cap, m, n, D, Pl, hcs, _, hl, hmax, hm, _, hel⟩
  · simp [Value.cells] at hcs
    obtain ⟨rfl, rfl, rfl⟩ := hcs
    exact ⟨[], ⟨none, 0, rfl, by simp, by simp, fun h => absurd h (by simp)⟩, fun x hx => absurd hx List.not_mem_nil⟩
  · simp [Value.cells] at hcs
    obtain ⟨rfl, rfl, rfl⟩ := hcs
    have hlm : len0 ≤ m := by rw [hm]; split <;> omega
    have hc1 : Try.prog.cellsOf 3 = 1 := by kernel_rfl
    rw [hc1] at hel
    have hint : ∀ i : Fin len0, ∃ x : Int, w.cell? (a.add i.val) = some (.int .i64 x) ∧ wf64 x := by
      intro i
      obtain ⟨cs', hc, ht⟩ := hel i.val (by have := i.isLt; omega)
      obtain ⟨x, hx, _, hwf⟩ := DataW.trod_int Try.underlying3 ht
      refine ⟨x, ?_, hwf⟩
      have h1 := cells_get hc 0 (by omega)
      rw [hx, Nat.mul_one] at h1
      simpa [Addr.add_zero'] using h1
    by_cases h0 : len0 = 0
    · subst h0; exact ⟨[], ⟨some a, cap0, rfl, by simp, by simp, fun h => absurd h (by simp)⟩, fun x hx => absurd hx List.not_mem_nil⟩
    · have hspot : a.spot = none := by
        have h1 := (Classical.choose_spec (hint ⟨0, by omega⟩)).1
        have h2 := World.cell?_spot h1
        simpa [Addr.add] using h2
      obtain ⟨b, o, sp⟩ := a
      subst hspot
      have hint' : ∀ i : Fin len0, ∃ x : Int, w.cell? ⟨b, o + i.val, none⟩ = some (.int .i64 x) ∧ wf64 x := fun i => by
        obtain ⟨x, h1, h2⟩ := hint i
        rw [addr_add] at h1
        exact ⟨x, h1, h2⟩
      refine ⟨List.ofFn fun i : Fin len0 => Classical.choose (hint' i), ⟨some ⟨b, o, none⟩, cap0, by rw [List.length_ofFn], by rw [List.length_ofFn]; omega, by rw [List.length_ofFn]; omega, fun _ => ⟨b, o, rfl, fun i hi => ?_⟩⟩, fun x hx => ?_⟩
      · rw [List.length_ofFn] at hi
        rw [List.getElem_ofFn]
        exact (Classical.choose_spec (hint' ⟨i, hi⟩)).1
      · obtain ⟨i, rfl⟩ := List.mem_ofFn.1 hx
        exact (Classical.choose_spec (hint' i)).2
end
theorem slice22 : Try.prog.underlying 22 = some (.slice (Try.prog.elem 22)) := by kernel_rfl
theorem size_elem22 (w : World) : (sizeOf (Try.prog.elem 22)).run Try.prog w = .ok 1 w := by kernel_rfl
theorem run_sl_lo (a : Option Addr) (n c k : Nat) (h : k ≤ n) (w : World) : (Instr.sliceAt 22 (.slice a n c) (some (.int .i64 k)) none none).run Try.prog w = .ok (sliced a k n c 1) w := by
  rw [run_sliceAt_slice w 22 _ _ _ _ slice22, run_slice_l w 22 a n c slice22 .i64 k (by omega) (by omega), size_elem22]; rfl
theorem run_sl_hi (a : Option Addr) (n c k : Nat) (h : k ≤ c) (w : World) : (Instr.sliceAt 22 (.slice a n c) none (some (.int .i64 k)) none).run Try.prog w = .ok (sliced a 0 k c 1) w := by
  rw [run_sliceAt_slice w 22 _ _ _ _ slice22, run_slice_h w 22 a n c slice22 .i64 k (by omega) (by omega), size_elem22]; rfl
theorem IsI.hi {w : World} {a : Option Addr} {n c : Nat} {l : List Int} (h : IsI w (.slice a n c) l) (k : Nat) (hk : k ≤ l.length) : IsI w (sliced a 0 k c 1) (l.take k) := by
  obtain ⟨a', c', hv, hm, hc, hs⟩ := h
  simp only [Value.slice.injEq] at hv
  obtain ⟨rfl, rfl, rfl⟩ := hv
  have hlen : (l.take k).length = k := by rw [List.length_take]; omega
  unfold sliced
  refine ⟨_, _, by rw [hlen]; rfl, by omega, by omega, fun h0 => ?_⟩
  obtain ⟨b, o, rfl, hat⟩ := hs (by omega)
  refine ⟨b, o, by split <;> simp [Addr.add], fun i hi => ?_⟩
  rw [hat i (by omega), List.getElem_take]
theorem IsI.lo {w : World} {a : Option Addr} {n c : Nat} {l : List Int} (h : IsI w (.slice a n c) l) (k : Nat) (hk : k ≤ l.length) : IsI w (sliced a k n c 1) (l.drop k) := by
  obtain ⟨a', c', hv, hm, hc, hs⟩ := h
  simp only [Value.slice.injEq] at hv
  obtain ⟨rfl, rfl, rfl⟩ := hv
  have hlen : (l.drop k).length = l.length - k := by rw [List.length_drop]
  unfold sliced
  refine ⟨_, _, by rw [hlen], by omega, by omega, fun h0 => ?_⟩
  obtain ⟨b, o, rfl, hat⟩ := hs (by omega)
  refine ⟨b, o + k, by rw [if_neg (by omega), Option.map_some, addr_add, Nat.mul_one], fun i hi => ?_⟩
  rw [Nat.add_assoc, hat (k + i) (by omega), List.getElem_drop]
section
variable {ops : Array Oper} {rest : List Oper} {o : Oper} {a : Act} {W : World} {Q : Exit → Act → World → Prop}
theorem wl_hi (hw : Region.wanted o (yielded ops a.tmps) = true) (x y : Operand) (ho : o.op = .slice 22 x none (some y) none) (b : Option Addr) (n c k : Nat) (hx : a.eval x = .slice b n c) (hy : a.eval y = .int .i64 k) (hk : k ≤ c) (v : Value) (hv : sliced b 0 k c 1 = v)
    (hK : wpList Try.prog ops Q rest (a.put o.dst v) W) : wpList Try.prog ops Q (o :: rest) a W := by
  subst hv
  refine wpList_want hw fun K hK' => ?_
  unfold Oper.wp execOp
  simp only [ho, hx, hy, Option.map, Sem.run_bind, run_sl_hi b n c k hk, Result.andThen_ok, Sem.run_pure]
  exact hK' _ _ hK
theorem wl_lo (hw : Region.wanted o (yielded ops a.tmps) = true) (x y : Operand) (ho : o.op = .slice 22 x (some y) none none) (b : Option Addr) (n c k : Nat) (hx : a.eval x = .slice b n c) (hy : a.eval y = .int .i64 k) (hk : k ≤ n) (v : Value) (hv : sliced b k n c 1 = v)
    (hK : wpList Try.prog ops Q rest (a.put o.dst v) W) : wpList Try.prog ops Q (o :: rest) a W := by
  subst hv
  refine wpList_want hw fun K hK' => ?_
  unfold Oper.wp execOp
  simp only [ho, hx, hy, Option.map, Sem.run_bind, run_sl_lo b n c k hk, Result.andThen_ok, Sem.run_pure]
  exact hK' _ _ hK
theorem run_min200 (n : Nat) (t : TypeId) (w : World) : (Builtin.min_ #[3, 3] t #[.int .i64 n, .int .i64 200]).run Try.prog w = .ok (.int .i64 ((min n 200 : Nat) : Int)) w := by
  by_cases h : n ≤ 200
  · rw [Nat.min_eq_left h]
    go_simp
    omega
  · rw [Nat.min_eq_right (by omega)]
    go_simp
    omega
theorem wl_min200 (hw : Region.wanted o (yielded ops a.tmps) = true) (x : Operand) (ho : o.op = .call { callee := .builtin .min, args := #[x, .const (.int .i64 200)], argTypes := #[3, 3] }) (n : Nat) (hx : a.eval x = .int .i64 n)
    (hK : wpList Try.prog ops Q rest (a.put o.dst (.int .i64 ((min n 200 : Nat) : Int))) W) : wpList Try.prog ops Q (o :: rest) a W := by
  refine wpList_want hw fun K hK' => ?_
  unfold Oper.wp
  have hc : a.eval (.const (.int .i64 200)) = .int .i64 200 := rfl
  simp [execOp, ho, resolve, invoke, builtin, hx, hc, run_min200, Result.andThen]
  exact hK' _ _ hK
end
end Go.Proofs.Ytbbdbcgmeffchaa
