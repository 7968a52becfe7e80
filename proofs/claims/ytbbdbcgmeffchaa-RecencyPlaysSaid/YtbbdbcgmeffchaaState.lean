/- The state of the play: the row, the document's row, the old ones; no walk. -/
import Derived.Test.YtbbdbcgmeffchaaSteps
namespace Go.Proofs.Ytbbdbcgmeffchaa
open Go.RowKit
set_option linter.unusedSimpArgs false
def Dis (F G : Nat → Prop) : Prop := ∀ k, F k → ¬ G k
def New (w : World) (F F' : Nat → Prop) : Prop := ∀ k, F' k → F k ∨ w.heap.size ≤ k
def Old (w : World) (B : Nat) (F G : Nat → Prop) (s6 s7 : Value) : Prop :=
  (s6 = .pointer none ∧ s7 = .pointer none) ∨ ∃ r g bs Fo Go, s6 = ptr r ∧ s7 = ptr g ∧ Row w B r bs Fo ∧ Ref w B g bs Go ∧ bs.length ≤ 200 ∧ Dis F Fo ∧ Dis F Go ∧ Dis G Fo ∧ Dis G Go
theorem Dis.new {w : World} {F F' G : Nat → Prop} (h : Dis F G) (hn : New w F F') (hl : ∀ k, G k → k < w.heap.size) : Dis F' G := fun k hF hG => by
  rcases hn k hF with h1 | h1
  · exact h k h1 hG
  · have := hl k hG
    omega
theorem Dis.symm {F G : Nat → Prop} (h : Dis F G) : Dis G F := fun k hG hF => h k hF hG
theorem New.refl (w : World) (F : Nat → Prop) : New w F F := fun _ h => .inl h
theorem Old.upd {w w' : World} {B : Nat} {F F' G G' X : Nat → Prop} {s6 s7 : Value} (h : Old w B F G s6 s7) (hu : Upd X w w') (hX : ∀ k, X k → F k ∨ G k) (hF : New w F F') (hG : New w G G') : Old w' B F' G' s6 s7 := by
  rcases h with h | ⟨r, g, bs, Fo, Go, h6, h7, hr, hg, hl, d1, d2, d3, d4⟩
  · exact .inl h
  · have l1 := fun k hk => (hr.low k hk).2
    have l2 := fun k hk => (hg.low k hk).2
    refine .inr ⟨r, g, bs, Fo, Go, h6, h7, hr.upd hu fun k hk hx => ?_, hg.upd hu fun k hk hx => ?_, hl, d1.new hF l1, d2.new hF l2, d3.new hG l1, d4.new hG l2⟩
    · rcases hX k hx with h | h
      · exact d1 k h hk
      · exact d3 k h hk
    · rcases hX k hx with h | h
      · exact d2 k h hk
      · exact d4 k h hk
structure St (w0 w : World) (r g : Nat) (bs cs : List Int) (F G : Nat → Prop) (s6 s7 : Value) : Prop where
  row : Row w w0.heap.size r bs F
  ref : Ref w w0.heap.size g cs G
  dis : Dis F G
  old : Old w w0.heap.size F G s6 s7
  low : Below w0.heap.size w0 w
section
variable {w0 w w' : World} {r g : Nat} {bs cs : List Int} {F F' G G' : Nat → Prop} {s6 s7 : Value}
theorem St.onRow (h : St w0 w r g bs cs F G s6 s7) {bs' : List Int} (hr : Row w' w0.heap.size r bs' F') (hF : New w F F') (hu : Upd F w w') : St w0 w' r g bs' cs F' G s6 s7 :=
  ⟨hr, h.ref.upd hu h.dis.symm, h.dis.new hF fun k hk => (h.ref.low k hk).2, h.old.upd hu (fun _ h => .inl h) hF (New.refl _ _), hu.below h.low h.low.size fun k hk => (h.row.low k hk).1⟩
theorem St.onRef (h : St w0 w r g bs cs F G s6 s7) {cs' : List Int} (hr : Ref w' w0.heap.size g cs' G') (hG : New w G G') (hu : Upd G w w') : St w0 w' r g bs cs' F G' s6 s7 :=
  ⟨h.row.upd hu h.dis, hr, (h.dis.symm.new hG fun k hk => (h.row.low k hk).2).symm, h.old.upd hu (fun _ h => .inr h) (New.refl _ _) hG, hu.below h.low h.low.size fun k hk => (h.ref.low k hk).1⟩
theorem St.step (h : St w0 w r g bs cs F G s6 s7) (hb : Below w.heap.size w w') : St w0 w' r g bs cs F G s6 s7 :=
  ⟨h.row.step hb, h.ref.step hb, h.dis, h.old.upd (Upd.of_below hb fun _ => False) (fun _ h => h.elim) (New.refl _ _) (New.refl _ _), h.low.trans (hb.mono h.low.size)⟩
/-- The row is cloned, and so is the document's; the clone goes on. -/
theorem St.cloned {w1 w2 : World} {r' g' : Nat} (h : St w0 w r g bs bs F G s6 s7) (hl : bs.length ≤ 200) (hg : Ref w1 w.heap.size g' bs G') (hb1 : Below w.heap.size w w1) (hr : Row w2 w1.heap.size r' bs F') (hb2 : Below w1.heap.size w1 w2) :
    St w0 w2 r' g bs bs F' G (ptr r) (ptr g') := by
  have h1 := h.step hb1
  have h2 := h1.step hb2
  have lF := fun k hk => (h1.row.low k hk).2
  have lG := fun k hk => (h1.ref.low k hk).2
  have lF0 := fun k hk => (h.row.low k hk).2
  have lG0 := fun k hk => (h.ref.low k hk).2
  have nF := fun k hk => (hr.low k hk).1
  have nG := fun k hk => (hg.low k hk)
  have hg2 := hg.step hb2
  refine ⟨Row.down hr h1.low.size, h2.ref, fun k hk hG => ?_, .inr ⟨r, g', bs, F, G', rfl, rfl, h2.row, hg2.down h.low.size, hl, fun k hk hF => ?_, fun k hk hG => ?_, h.dis.symm, fun k hk hG => ?_⟩, h2.low⟩
  · have := nF k hk; have := lG k hG; omega
  · have := nF k hk; have := lF k hF; omega
  · have := nF k hk; have := nG k hG; omega
  · have := nG k hG; have := lG0 k hk; omega
end
end Go.Proofs.Ytbbdbcgmeffchaa
