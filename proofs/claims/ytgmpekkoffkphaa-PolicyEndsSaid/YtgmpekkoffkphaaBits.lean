/- Masks and remainders of ints. -/
import Derived.Test.YtgmpekkoffkphaaPlain
namespace Go.Proofs.Ytgmpekkoffkphaa
open Go.RowKit flt
set_option linter.unusedSimpArgs false
/-- The last k bits of an int. -/
theorem i64_mask (k : Nat) (hk : k ≤ 32) (n : Int) : bits .and .i64 n ((2 ^ k - 1 : Nat) : Int) = n % (2 ^ k : Nat) := by
  have hlt : 2 ^ k ≤ 2 ^ 32 := Nat.pow_le_pow_right (by omega) hk
  have hpos : 0 < 2 ^ k := Nat.two_pow_pos k
  have h1 : (BitVec.ofInt 64 ((2 ^ k - 1 : Nat) : Int)).toNat = 2 ^ k - 1 := by
    rw [BitVec.toNat_ofInt]
    omega
  have h2 : (BitVec.ofInt 64 n).toNat = (n % (2 ^ 64 : Nat)).toNat := BitVec.toNat_ofInt n
  have h3 : ((BitVec.ofInt 64 n) &&& (BitVec.ofInt 64 ((2 ^ k - 1 : Nat) : Int))).toNat = (n % (2 ^ k : Nat)).toNat := by
    rw [BitVec.toNat_and, h1, h2, Nat.and_two_pow_sub_one_eq_mod]
    have hd : ((2 ^ k : Nat) : Int) ∣ ((2 ^ 64 : Nat) : Int) := Int.natCast_dvd_natCast.2 (Nat.pow_dvd_pow 2 (by omega))
    have h4 := Int.emod_emod_of_dvd n hd
    have h5 : 0 ≤ n % ((2 ^ 64 : Nat) : Int) := Int.emod_nonneg _ (by omega)
    have h6 : 0 ≤ n % ((2 ^ k : Nat) : Int) := Int.emod_nonneg _ (by omega)
    apply Int.ofNat_inj.1
    rw [Int.natCast_emod, Int.toNat_of_nonneg h5, Int.toNat_of_nonneg h6]
    exact h4
  have h6 : 0 ≤ n % ((2 ^ k : Nat) : Int) := Int.emod_nonneg _ (by omega)
  have h7 : n % ((2 ^ k : Nat) : Int) < (2 ^ k : Nat) := Int.emod_lt_of_pos _ (by omega)
  unfold bits
  show IntKind.i64.wrap (((BitVec.ofInt 64 n) &&& (BitVec.ofInt 64 ((2 ^ k - 1 : Nat) : Int))).toNat : Int) = _
  rw [h3, Int.toNat_of_nonneg h6]
  exact IntWalk.i64_in _ (by omega)
section
variable {ops : Array Oper} {rest : List Oper} {o : Oper} {a : Act} {W : World} {Q : Exit → Act → World → Prop}
theorem run_mask (k : Nat) (hk : k ≤ 32) (i : Int) (y : Int) (hy : y = ((2 ^ k - 1 : Nat) : Int)) (w : World) : (binOp .and 3 (.int .i64 i) (.int .i64 y)).run Try.prog w = .ok (.int .i64 (((i % (2 ^ k : Nat)).toNat : Nat) : Int)) w := by
  subst hy
  have hpos : 0 < 2 ^ k := Nat.two_pow_pos k
  have h6 : 0 ≤ i % ((2 ^ k : Nat) : Int) := Int.emod_nonneg _ (by omega)
  rw [Int.toNat_of_nonneg h6, ← i64_mask k hk i]
  rfl
theorem wl_mask (hw : Region.wanted o (yielded ops a.tmps) = true) (k : Nat) (hk : k ≤ 32) (x : Operand) (y : Int) (ho : o.op = .binOp .and 3 x (.const (.int .i64 y)) 3) (hy : y = ((2 ^ k - 1 : Nat) : Int)) (i : Int) (hx : a.eval x = .int .i64 i)
    (hK : wpList Try.prog ops Q rest (a.put o.dst (.int .i64 (((i % (2 ^ k : Nat)).toNat : Nat) : Int))) W) : wpList Try.prog ops Q (o :: rest) a W := by
  refine wpList_want hw fun K hK' => ?_
  unfold Oper.wp execOp
  have hg : ∀ p q u v, (eqGuard .and 3 p q u v).run Try.prog W = .ok () W := fun _ _ _ _ => rfl
  have hc : a.eval (.const (.int .i64 y)) = .int .i64 y := rfl
  simp only [ho, hx, hc, Sem.run_bind, hg, Result.andThen_ok, run_mask k hk i y hy, Sem.run_pure]
  exact hK' _ _ hK
theorem run_rem (e m : Nat) (hm : 0 < m) (w : World) : (binOp .rem 3 (.int .i64 e) (.int .i64 m)).run Try.prog w = .ok (.int .i64 ((e % m : Nat) : Int)) w := by
  have hne : ¬ ((m : Int) = 0) := by omega
  have ht : (e : Int).tmod (m : Int) = ((e % m : Nat) : Int) := by rw [Int.tmod_eq_emod_of_nonneg (by omega)]; rfl
  simp only [binOp, Op.intDiv, ne_eq, not_true_eq_false, if_false, hne]
  rw [ht]
  rfl
theorem wl_rem (hw : Region.wanted o (yielded ops a.tmps) = true) (x y : Operand) (ho : o.op = .binOp .rem 3 x y 3) (e m : Nat) (hx : a.eval x = .int .i64 e) (hy : a.eval y = .int .i64 m) (hm : 0 < m)
    (hK : wpList Try.prog ops Q rest (a.put o.dst (.int .i64 ((e % m : Nat) : Int))) W) : wpList Try.prog ops Q (o :: rest) a W := by
  refine wpList_want hw fun K hK' => ?_
  unfold Oper.wp execOp
  have hg : ∀ p q u v, (eqGuard .rem 3 p q u v).run Try.prog W = .ok () W := fun _ _ _ _ => rfl
  simp only [ho, hx, hy, Sem.run_bind, hg, Result.andThen_ok, run_rem e m hm, Sem.run_pure]
  exact hK' _ _ hK
end
end Go.Proofs.Ytgmpekkoffkphaa
