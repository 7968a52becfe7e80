/- More of the slices that a call has made. -/
import Derived.Test.YtpmhhfphbackdaaOwn
namespace Go.Proofs.Ytpmhhfphbackdaa
open Go.RowKit
set_option linter.unusedSimpArgs false

theorem Owned.step {w w' : World} {base : Nat} {v : Value} {ss : List Sec} (h : Owned w base v ss) (hb : Below w.heap.size w w') : Owned w' base v ss := by
  obtain ⟨h1, h2⟩ := h
  refine ⟨h1, ?_⟩
  rcases h2 with h2 | ⟨g, cap, cur, h3, h4, h5, h6⟩
  · exact .inl h2
  · exact .inr ⟨g, cap, cur, h3, h4, by rw [hb.block g (Array.getElem?_eq_some_iff.1 h5).1]; exact h5, h6⟩
theorem Owned.nil (w : World) (base : Nat) : Owned w base (.slice none 0 0) [] := ⟨rfl, .inl ⟨rfl, rfl⟩⟩
theorem Owned.block {w : World} {base : Nat} {v : Value} {ss : List Sec} (h : Owned w base v ss) : ∀ k, v.ownBlock = some k → base ≤ k ∧ k < w.heap.size := by
  obtain ⟨_, h2⟩ := h
  intro k hk
  rcases h2 with ⟨h2, _⟩ | ⟨g, cap, cur, h3, h4, h5, _⟩
  · subst h2; cases hk
  · subst h3
    simp only [Value.ownBlock, Option.some.injEq] at hk
    subst hk
    exact ⟨h4, (Array.getElem?_eq_some_iff.1 h5).1⟩
theorem Owned.isSecs {w : World} {base : Nat} {v : Value} {ss : List Sec} (h : Owned w base v ss) : IsSecs w v ss := by
  rcases h.cases with ⟨a, c, rfl, hac, rfl⟩ | ⟨g, cap, rfl, _, hrow, _⟩
  · exact .inl ⟨a, c, rfl, hac, rfl⟩
  · exact hrow.isSecs
theorem IsSecs.at {w : World} {a : Option Addr} {n c : Nat} {ss : List Sec} (h : IsSecs w (.slice a n c) ss) (hn : 0 < n) : ∃ b o, a = some ⟨b, o, none⟩ ∧ SecsAt w b o ss := by
  rcases h with ⟨a', c', hv, hac, rfl⟩ | ⟨b, o, c', hv, hne, hm, hc, hs⟩
  · simp only [Value.slice.injEq] at hv
    omega
  · simp only [Value.slice.injEq] at hv
    exact ⟨b, o, hv.1, hs⟩
section
variable {ops : Array Oper} {rest : List Oper} {o : Oper} {a : Act} {W : World} {Q : Exit → Act → World → Prop}
theorem wl_cut' (hw : Region.wanted o (yielded ops a.tmps) = true) (x y : Operand) (ho : o.op = .slice 22 x none (some y) none) (b : Option Addr) (n c k : Nat) (hx : a.eval x = .slice b n c) (hy : a.eval y = .int .i64 k) (hk : k ≤ c) (v : Value) (hv : sliced b 0 k c 64 = v)
    (hK : wpList Try.prog ops Q rest (a.put o.dst v) W) : wpList Try.prog ops Q (o :: rest) a W := by
  subst hv
  exact wl_cut hw x y ho b n c k hx hy hk hK
end

/-- Turned round, with zeros between: the first j of it. -/
def backOf (L : List Sec) (j : Nat) : List Sec := (L.reverse.take j).flatMap fun s => [s, zeroS]
theorem back_zero (L : List Sec) : backOf L 0 = [] := by simp [backOf]
theorem back_succ (L : List Sec) (j : Nat) (hj : j < L.length) : backOf L (j + 1) = backOf L j ++ [L[L.length - 1 - j], zeroS] := by
  have h : L.reverse.take (j + 1) = L.reverse.take j ++ [L.reverse[j]'(by simpa using hj)] := List.take_succ_eq_append_getElem (by simpa using hj)
  rw [backOf, h, List.flatMap_append, List.getElem_reverse]
  simp [backOf]
theorem back_len (L : List Sec) (j : Nat) (hj : j ≤ L.length) : (backOf L j).length = 2 * j := by
  induction j with
  | zero => simp [backOf]
  | succ j ih => rw [back_succ L j hj, List.length_append, ih (by omega)]; simp; omega
theorem par_pad : ∀ l : List Sec, par (l.flatMap fun s => [s, zeroS]) = par l
  | [] => rfl
  | s :: l => by rw [List.flatMap_cons, par_append, par_pad l, par_cons, par_cons, par_cons]; simp [show par [] = zeroS from rfl, sxor_zero]
theorem par_reverse (l : List Sec) : par l.reverse = par l := by
  induction l with
  | nil => rfl
  | cons s l ih => rw [List.reverse_cons, par_snoc, ih, par_cons, sxor_comm]
theorem par_back (L : List Sec) : par (backOf L L.length) = par L := by
  rw [backOf, par_pad, List.take_of_length_le (by simp), par_reverse]
end Go.Proofs.Ytpmhhfphbackdaa
