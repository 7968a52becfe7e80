/- The arguments of the statements of layer 17, opened: a part, a slice of parts. -/
import Derived.Test.YtgmpekkoffkphaaWalk9
import Derived.Test.YtgmpekkoffkphaaChecked
import Derived.Deep.Slices
import Derived.Deep.SlicePairs
import Derived.Lib.SmallJoins
import Derived.ProofKit
import Derived.OpenShut
import Derived.ShutString
import Derived.ChangeOld
namespace Go.Proofs.Ytgmpekkoffkphaa
open Go.RowKit Go.ChangeShapes Go.WideShapes flt

theorem own : ownKnob Try.prog.godebug = none := by kernel_rfl
theorem laidOut : laidOutB Try.prog = true := by kernel_rfl

section
variable {H : Type} {enc : TypeId × Value → H} {w : World} {base : Nat} {spare : Nat → Bool} {held : Bool}
theorem open_part {r : Reach} {b0 : Nat} {v : Value} {d : DataW H} {p : List MemPlace} (hv : Value.okWide Try.prog w r b0 23 v) (h : DataW.Trod enc Try.prog w base spare held 23 v d p) : ∃ x y : Int, v = prV x y := by
  obtain ⟨v0, v1, y0, y1, n, rfl, _, _, h0, h1⟩ := Joins.open_agg2 Try.underlying23 (by kernel_rfl) (by kernel_rfl) hv h
  obtain ⟨a, ha, _, _⟩ := DataW.trod_int Try.underlying3 h0
  obtain ⟨b, hb, _, _⟩ := DataW.trod_int Try.underlying3 h1
  simp only [List.cons.injEq, and_true] at ha hb
  subst ha
  subst hb
  exact ⟨a, b, rfl⟩
theorem open_parts {r : Reach} {b0 : Nat} {v : Value} {d : DataW H} {p : List MemPlace} (hv : Value.okWide Try.prog w r b0 29 v) (h : DataW.Trod enc Try.prog w base spare held 29 v d p) : ∃ K : List Fr, IsPs w v K := by
  obtain ⟨a0, len0, cap0, rfl⟩ := okWide_slice Try.underlying29 hv
  obtain ⟨fuel, hf⟩ := h
  rcases Deep.open_slice_pairs Try.underlying29 Try.underlying23 (by kernel_rfl) rfl rfl (by kernel_rfl) (by kernel_rfl) hf with ⟨hcs, _⟩ | ⟨a, len, cap, m, n, V0, V1, D0, D1, P0, P1, hcs, _, hl, hmax, hm, _, hel⟩
  · simp [Value.cells] at hcs
    obtain ⟨rfl, rfl, rfl⟩ := hcs
    exact ⟨[], .inl ⟨_, _, rfl, fun _ => rfl, rfl⟩⟩
  · simp [Value.cells] at hcs
    obtain ⟨rfl, rfl, rfl⟩ := hcs
    have hlm : len0 ≤ m := by rw [hm]; split <;> omega
    by_cases h0 : len0 = 0
    · subst h0; exact ⟨[], .inl ⟨_, _, rfl, fun h => (by cases h), rfl⟩⟩
    · have hpair : ∀ i : Fin len0, ∃ q : Fr, w.cell? (a.add (i.val * 2)) = some (.int .i64 q.1) ∧ w.cell? (a.add (i.val * 2 + 1)) = some (.int .i64 q.2) := by
        intro i
        obtain ⟨h1, h2, h3, h4⟩ := hel i.val (by have := i.isLt; omega)
        obtain ⟨x, hx, _, _⟩ := DataW.trod_int Try.underlying3 h3
        obtain ⟨y, hy, _, _⟩ := DataW.trod_int Try.underlying3 h4
        simp only [List.cons.injEq, and_true] at hx hy
        exact ⟨(x, y), by rw [h1, hx], by rw [h2, hy]⟩
      have hspot : a.spot = none := by
        have h1 := (Classical.choose_spec (hpair ⟨0, by omega⟩)).1
        have h2 := World.cell?_spot h1
        simpa [Addr.add] using h2
      obtain ⟨b, o, sp⟩ := a
      subst hspot
      have hpair' : ∀ i : Fin len0, ∃ q : Fr, w.cell? ⟨b, o + i.val * 2, none⟩ = some (.int .i64 q.1) ∧ w.cell? ⟨b, o + i.val * 2 + 1, none⟩ = some (.int .i64 q.2) := fun i => by
        obtain ⟨q, h1, h2⟩ := hpair i
        rw [addr_add] at h1 h2
        exact ⟨q, h1, by rw [Nat.add_assoc]; exact h2⟩
      refine ⟨List.ofFn fun i : Fin len0 => Classical.choose (hpair' i), .inr ⟨b, o, cap0, ?_, ?_, ?_, ?_, ?_⟩⟩
      · rw [List.length_ofFn]
      · intro e; have := congrArg List.length e; rw [List.length_ofFn] at this; exact h0 this
      · rw [List.length_ofFn]; omega
      · rw [List.length_ofFn]; omega
      · intro i hi
        rw [List.length_ofFn] at hi
        have h1 := Classical.choose_spec (hpair' ⟨i, hi⟩)
        rw [List.getElem_ofFn]
        exact h1
end
end Go.Proofs.Ytgmpekkoffkphaa
