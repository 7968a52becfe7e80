/- A slice of steps, opened; the 77s laid into what was told. -/
import Derived.Test.YtbbdbcgmeffchaaRef
namespace Go.Proofs.Ytbbdbcgmeffchaa
open Go.RowKit Go.ChangeShapes Go.WideShapes
set_option linter.unusedSimpArgs false

def OpsAt (w : World) (b o : Nat) (l : List (Int × Int)) : Prop := ∀ i (hi : i < l.length), w.cell? ⟨b, o + i * 2, none⟩ = some (.int .i64 l[i].1) ∧ w.cell? ⟨b, o + i * 2 + 1, none⟩ = some (.int .i64 l[i].2)
/-- A slice value that reads as these steps. -/
def IsOps (w : World) (v : Value) (l : List (Int × Int)) : Prop :=
  ∃ a c, v = .slice a l.length c ∧ l.length ≤ maxLen ∧ l.length ≤ c ∧ (0 < l.length → ∃ b o, a = some ⟨b, o, none⟩ ∧ OpsAt w b o l)
section
variable {H : Type} {enc : TypeId × Value → H} {w : World} {base : Nat} {spare : Nat → Bool} {held : Bool}
theorem open_ops {r : Reach} {b0 : Nat} {v : Value} {d : DataW H} {p : List MemPlace} (hv : Value.okWide Try.prog w r b0 33 v) (h : DataW.Trod enc Try.prog w base spare held 33 v d p) : ∃ l : List (Int × Int), IsOps w v l ∧ ∀ q ∈ l, wf64 q.2 := by
  obtain ⟨a0, len0, cap0, rfl⟩ := okWide_slice Try.underlying33 hv
  obtain ⟨fuel, hf⟩ := h
  rcases Deep.open_slice_pairs Try.underlying33 Try.underlying37 (by kernel_rfl) rfl rfl (by kernel_rfl) (by kernel_rfl) hf with ⟨hcs, _⟩ | ⟨a, len, cap, m, n, V0, V1, D0, D1, P0, P1, hcs, _, hl, hmax, hm, _, hel⟩
  · simp [Value.cells] at hcs
    obtain ⟨rfl, rfl, rfl⟩ := hcs
    exact ⟨[], ⟨none, 0, rfl, by simp, by simp, fun h => absurd h (by simp)⟩, fun x hx => absurd hx List.not_mem_nil⟩
  · simp [Value.cells] at hcs
    obtain ⟨rfl, rfl, rfl⟩ := hcs
    have hlm : len0 ≤ m := by rw [hm]; split <;> omega
    by_cases h0 : len0 = 0
    · subst h0; exact ⟨[], ⟨some a, cap0, rfl, by simp, by simp, fun h => absurd h (by simp)⟩, fun x hx => absurd hx List.not_mem_nil⟩
    · have hpair : ∀ i : Fin len0, ∃ q : Int × Int, w.cell? (a.add (i.val * 2)) = some (.int .i64 q.1) ∧ w.cell? (a.add (i.val * 2 + 1)) = some (.int .i64 q.2) ∧ wf64 q.2 := by
        intro i
        obtain ⟨h1, h2, h3, h4⟩ := hel i.val (by have := i.isLt; omega)
        obtain ⟨x, hx, _, _⟩ := DataW.trod_int Try.underlying3 h3
        obtain ⟨y, hy, _, hw⟩ := DataW.trod_int Try.underlying3 h4
        simp only [List.cons.injEq, and_true] at hx hy
        exact ⟨(x, y), by rw [h1, hx], by rw [h2, hy], hw⟩
      have hspot : a.spot = none := by
        have h1 := (Classical.choose_spec (hpair ⟨0, by omega⟩)).1
        have h2 := World.cell?_spot h1
        simpa [Addr.add] using h2
      obtain ⟨b, o, sp⟩ := a
      subst hspot
      have hpair' : ∀ i : Fin len0, ∃ q : Int × Int, w.cell? ⟨b, o + i.val * 2, none⟩ = some (.int .i64 q.1) ∧ w.cell? ⟨b, o + i.val * 2 + 1, none⟩ = some (.int .i64 q.2) ∧ wf64 q.2 := fun i => by
        obtain ⟨q, h1, h2, h3⟩ := hpair i
        rw [addr_add] at h1 h2
        exact ⟨q, h1, by rw [Nat.add_assoc]; exact h2, h3⟩
      refine ⟨List.ofFn fun i : Fin len0 => Classical.choose (hpair' i), ⟨some ⟨b, o, none⟩, cap0, ?_, ?_, ?_, fun _ => ⟨b, o, rfl, ?_⟩⟩, ?_⟩
      · rw [List.length_ofFn]
      · rw [List.length_ofFn]; omega
      · rw [List.length_ofFn]; omega
      · intro i hi
        rw [List.length_ofFn] at hi
        have h1 := Classical.choose_spec (hpair' ⟨i, hi⟩)
        rw [List.getElem_ofFn]
        exact ⟨h1.1, h1.2.1⟩
      · intro q hq
        obtain ⟨i, rfl⟩ := List.mem_ofFn.1 hq
        exact (Classical.choose_spec (hpair' i)).2.2
end
theorem IsOps.form {w : World} {v : Value} {l : List (Int × Int)} (h : IsOps w v l) : ∃ a c, v = .slice a l.length c ∧ l.length ≤ maxLen ∧ l.length ≤ c := by
  obtain ⟨a, c, hv, h1, h2, _⟩ := h
  exact ⟨a, c, hv, h1, h2⟩
theorem IsOps.at {w : World} {a : Option Addr} {n c : Nat} {l : List (Int × Int)} (h : IsOps w (.slice a n c) l) (hp : 0 < l.length) : ∃ b o, a = some ⟨b, o, none⟩ ∧ OpsAt w b o l := by
  obtain ⟨a', c', hv, _, _, hs⟩ := h
  simp only [Value.slice.injEq] at hv
  obtain ⟨rfl, rfl, rfl⟩ := hv
  exact hs hp
/-- An own list, whatever it holds: one of its places can be written. -/
def OwnN (w : World) (base : Nat) (v : Value) (n : Nat) : Prop := ∃ l : List Int, l.length = n ∧ OwnI w base v l
theorem OwnN.lay {w : World} {base : Nat} {a : Option Addr} {n c j : Nat} (h : OwnN w base (.slice a n c) n) (hj : j < n) :
    ∃ b old, a = some ⟨b, 0, none⟩ ∧ w.cell? ⟨b, j, none⟩ = some old ∧ w.frozen? ⟨b, j, none⟩ = false ∧ ∀ x, OwnN (w.setCell ⟨b, j, none⟩ (.int .i64 x)) base (.slice a n c) n ∧ Below base w (w.setCell ⟨b, j, none⟩ (.int .i64 x)) := by
  obtain ⟨l, hl, h1, h2⟩ := h
  rcases h2 with ⟨h2, h0⟩ | ⟨g, cap, cur, h2, hb, hg, hc, hm, hs, ht⟩
  · omega
  · simp only [Value.slice.injEq] at h2
    obtain ⟨rfl, hn, rfl⟩ := h2
    have hjc : j < cur.size := by omega
    refine ⟨g, cur[j]'hjc, rfl, by rw [cell_of_row _ _ _ _ _ _ hg, Array.getElem?_eq_getElem hjc], frozen_of_row _ _ _ _ _ hg, fun x => ⟨⟨l.set j x, by rw [List.length_set]; exact hl, ?_, ?_⟩, ?_⟩⟩
    · rw [List.length_map, List.length_set, Nat.mul_one]
    · refine .inr ⟨g, c, cur.setIfInBounds j (.int .i64 x), by rw [List.length_set, hl], hb, heap_setCell_same w g j cur 3 _ hg, by rw [List.length_set]; exact hc, hm, by simpa using hs, ?_⟩
      rw [List.length_set, Nat.mul_one, List.map_set, ← ht, Array.toList_setIfInBounds, Nat.mul_one, List.take_set]
    · exact ⟨rfl, rfl, rfl, by rw [World.size_setCell]; exact Nat.le_refl _, fun k hk => by rw [Below.heap_setCell _ _ _ _ (show k ≠ g by omega)]⟩
end Go.Proofs.Ytbbdbcgmeffchaa
