/- Laws on max, min; the walk's steps. -/
import Derived.Test.YtbbdbcgmeffchaaPlain2
namespace Go.Proofs.Ytbbdbcgmeffchaa
open Go.RowKit
set_option linter.unusedSimpArgs false
theorem run_min_i (x y : Int) (t : TypeId) (w : World) : (Builtin.min_ #[3, 3] t #[.int .i64 x, .int .i64 y]).run Try.prog w = .ok (.int .i64 (min x y)) w := by
  rcases Int.le_total x y with h | h
  · rw [Int.min_eq_left h]
    go_simp
    omega
  · rw [Int.min_eq_right h]
    go_simp
    omega
theorem run_max_i (x y : Int) (t : TypeId) (w : World) : (Builtin.max_ #[3, 3] t #[.int .i64 x, .int .i64 y]).run Try.prog w = .ok (.int .i64 (max x y)) w := by
  rcases Int.le_total x y with h | h
  · rw [Int.max_eq_right h]
    go_simp
    omega
  · rw [Int.max_eq_left h]
    go_simp
    omega
section
variable {ops : Array Oper} {rest : List Oper} {o : Oper} {a : Act} {W : World} {Q : Exit → Act → World → Prop}
theorem wl_min (hw : Region.wanted o (yielded ops a.tmps) = true) (p q : Operand) (ho : o.op = .call { callee := .builtin .min, args := #[p, q], argTypes := #[3, 3] }) (x y z : Int) (hx : a.eval p = .int .i64 x) (hy : a.eval q = .int .i64 y) (hz : min x y = z)
    (hK : wpList Try.prog ops Q rest (a.put o.dst (.int .i64 z)) W) : wpList Try.prog ops Q (o :: rest) a W := by
  subst hz
  refine wpList_want hw fun K hK' => ?_
  unfold Oper.wp
  simp [execOp, ho, resolve, invoke, builtin, hx, hy, run_min_i, Result.andThen]
  exact hK' _ _ hK
theorem wl_max (hw : Region.wanted o (yielded ops a.tmps) = true) (p q : Operand) (ho : o.op = .call { callee := .builtin .max, args := #[p, q], argTypes := #[3, 3] }) (x y z : Int) (hx : a.eval p = .int .i64 x) (hy : a.eval q = .int .i64 y) (hz : max x y = z)
    (hK : wpList Try.prog ops Q rest (a.put o.dst (.int .i64 z)) W) : wpList Try.prog ops Q (o :: rest) a W := by
  subst hz
  refine wpList_want hw fun K hK' => ?_
  unfold Oper.wp
  simp [execOp, ho, resolve, invoke, builtin, hx, hy, run_max_i, Result.andThen]
  exact hK' _ _ hK
end
theorem run_lo {ρ : Operand → Value} {o : Oper} (x y : Operand) (ho : o.op = .slice 22 x (some y) none none) (b : Option Addr) (n c k : Nat) (hx : ρ x = .slice b n c) (hy : ρ y = .int .i64 k) (hk : k ≤ n) (w : World) :
    (execOp ρ o).run Try.prog w = .ok (.value (sliced b k n c 1)) w := by
  unfold execOp
  simp only [ho, hx, hy, Option.map, Sem.run_bind, run_sl_lo b n c k hk, Result.andThen_ok, Sem.run_pure]
theorem take_one {bs : List Int} (k : Nat) (hk : k < bs.length) : (bs.drop k).take (1 : Int).toNat = [bs[k]] := by
  rw [List.drop_eq_getElem_cons hk]
  rfl
theorem clamp (n : Int) (L : Nat) : max 0 (min n L) = ((min n.toNat L : Nat) : Int) := by omega
theorem take_clamp (bs : List Int) (n : Nat) : bs.take n = bs.take (min n bs.length) := by
  rcases Nat.le_total n bs.length with h1 | h1
  · rw [Nat.min_eq_left h1]
  · rw [Nat.min_eq_right h1, List.take_of_length_le h1, List.take_length]
end Go.Proofs.Ytbbdbcgmeffchaa
