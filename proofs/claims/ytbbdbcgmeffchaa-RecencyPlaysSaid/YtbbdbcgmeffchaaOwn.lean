/- What is the call's own, further; a list built out of another one without a block. -/
import Derived.Test.YtbbdbcgmeffchaaPlain3
namespace Go.Proofs.Ytbbdbcgmeffchaa
open Go.RowKit
set_option linter.unusedSimpArgs false
theorem OwnI.down {w : World} {base base' : Nat} {v : Value} {l : List Int} (h : OwnI w base v l) (hb : base' ≤ base) : OwnI w base' v l := by
  obtain ⟨h1, h2⟩ := h
  refine ⟨h1, ?_⟩
  rcases h2 with h2 | ⟨g, cap, cur, rfl, hbb, hr⟩
  · exact .inl h2
  · exact .inr ⟨g, cap, cur, rfl, Nat.le_trans hb hbb, hr⟩
theorem below_own {w0 w w' : World} {B : Nat} {v : Value} {l : List Int} (h : Below B w0 w) (ho : OwnI w B v l) (hB : B ≤ w.heap.size) (hg : w.grownBy w' v.ownBlock) : Below B w0 w' :=
  h.grown hg hB (fun q hq => (ho.block q hq).1)
end Go.Proofs.Ytbbdbcgmeffchaa
