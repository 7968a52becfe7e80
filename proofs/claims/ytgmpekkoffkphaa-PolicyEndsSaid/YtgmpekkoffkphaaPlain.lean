/- Plain facts on fractions: whole numbers crosswise multiplied; no program. -/
import Derived.Test.YtgmpekkoffkphaaOpen
namespace Go.Proofs.Ytgmpekkoffkphaa
open Go.RowKit flt

theorem ful_pos (x u y v : Int) : 0 < ful x u y v ↔ y * u < x * v := by unfold ful; repeat' split <;> omega
theorem ful_lt (x u y v : Int) : ful x u y v < 0 ↔ x * v < y * u := by unfold ful; repeat' split <;> omega
theorem ful_nil (x u y v : Int) : ful x u y v = 0 ↔ x * v = y * u := by unfold ful; repeat' split <;> omega
theorem ful_neg (x u y v : Int) : ful y v x u = -ful x u y v := by unfold ful; repeat' split <;> omega
theorem ful_self (x u : Int) : ful x u x u = 0 := by unfold ful; repeat' split <;> omega
/-- p is no fuller than q. -/
def leF (p q : Fr) : Prop := p.1 * q.2 ≤ q.1 * p.2
theorem leF_trans {p q r : Fr} (hp : 0 < p.2) (hq : 0 < q.2) (hr : 0 < r.2) (h1 : leF p q) (h2 : leF q r) : leF p r := by
  have a := Int.mul_le_mul_of_nonneg_right h1 (Int.le_of_lt hr)
  have b := Int.mul_le_mul_of_nonneg_right h2 (Int.le_of_lt hp)
  refine Int.le_of_mul_le_mul_right (a := q.2) ?_ hq
  calc p.1 * r.2 * q.2 = p.1 * q.2 * r.2 := by rw [Int.mul_assoc, Int.mul_comm r.2, ← Int.mul_assoc]
    _ ≤ q.1 * p.2 * r.2 := a
    _ = q.1 * r.2 * p.2 := by rw [Int.mul_assoc, Int.mul_comm p.2, ← Int.mul_assoc]
    _ ≤ r.1 * q.2 * p.2 := b
    _ = r.1 * p.2 * q.2 := by rw [Int.mul_assoc, Int.mul_comm q.2, ← Int.mul_assoc]
theorem ful_le (p q : Fr) : ful p.1 p.2 q.1 q.2 ≤ 0 ↔ leF p q := by
  have := ful_pos p.1 p.2 q.1 q.2
  unfold leF
  omega
theorem leF_total (p q : Fr) : leF p q ∨ leF q p := by unfold leF; omega
end Go.Proofs.Ytgmpekkoffkphaa
