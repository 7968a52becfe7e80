/- Slices of complex numbers and of pairs that a call itself makes; the walk of 'both'. -/
import Derived.Test.YtgmpekkoffkphaaWalk5
import Derived.Laws.AppendOwnNone
namespace Go.Proofs.Ytgmpekkoffkphaa
open Go.RowKit flt
set_option linter.unusedSimpArgs false
def Stop (p : Prop) : Prop := p
theorem stop {p : Prop} (h : Stop p) : p := h

def CL (xs : List Value) (l : List Fr) : Prop := xs.length = l.length ∧ ∀ i (h : i < l.length), ∃ v, xs[i]? = some v ∧ IsC v l[i].1 l[i].2
def flatP : List Fr → List Value
  | [] => []
  | p :: l => .int .i64 p.1 :: .int .i64 p.2 :: flatP l
theorem flatP_len : ∀ l : List Fr, (flatP l).length = l.length * 2
  | [] => rfl
  | p :: l => by simp only [flatP, List.length_cons, flatP_len l]; omega
theorem flatP_append : ∀ l m : List Fr, flatP (l ++ m) = flatP l ++ flatP m
  | [], m => rfl
  | p :: l, m => by simp only [List.cons_append, flatP, flatP_append l m]
theorem flatP_get : ∀ (l : List Fr) (i : Nat) (h : i < l.length), (flatP l)[i * 2]? = some (.int .i64 l[i].1) ∧ (flatP l)[i * 2 + 1]? = some (.int .i64 l[i].2)
  | p :: l, 0, _ => ⟨rfl, rfl⟩
  | p :: l, i + 1, h => by
    have := flatP_get l i (by simpa using h)
    rw [show (i + 1) * 2 = i * 2 + 1 + 1 by omega, show i * 2 + 1 + 1 + 1 = i * 2 + 1 + 1 + 1 by omega]
    simpa [flatP] using this
def OwnC (w : World) (base : Nat) (v : Value) (l : List Fr) : Prop := ∃ xs, w.ownsRow base 33 1 v l.length xs ∧ CL xs l
def OwnP (w : World) (base : Nat) (v : Value) (l : List Fr) : Prop := w.ownsRow base 37 2 v l.length (flatP l)
theorem OwnC.isCs {w : World} {base : Nat} {v : Value} {l : List Fr} (h : OwnC w base v l) : IsCs w v l := by
  obtain ⟨xs, ⟨h1, h2⟩, h3, h4⟩ := h
  rcases h2 with ⟨rfl, h0⟩ | ⟨g, cap, cur, rfl, _, hg, hc, hm, hs, ht⟩
  · exact .inl ⟨none, 0, rfl, fun _ => rfl, List.eq_nil_of_length_eq_zero h0⟩
  · by_cases h0 : l = []
    · subst h0; exact .inl ⟨_, _, rfl, fun h => (by cases h), rfl⟩
    · refine .inr ⟨g, 0, cap, rfl, h0, by omega, hc, fun i hi => ?_⟩
      obtain ⟨v, hv, hv'⟩ := h4 i hi
      refine ⟨v, ?_, hv'⟩
      rw [cell_of_row w g _ _ _ _ hg, Nat.zero_add, ← hv, ← ht, List.getElem?_take, if_pos (by omega), Array.getElem?_toList]
theorem OwnP.isPs {w : World} {base : Nat} {v : Value} {l : List Fr} (h : OwnP w base v l) : IsPs w v l := by
  obtain ⟨h1, h2⟩ := h
  rcases h2 with ⟨rfl, h0⟩ | ⟨g, cap, cur, rfl, _, hg, hc, hm, hs, ht⟩
  · exact .inl ⟨none, 0, rfl, fun _ => rfl, List.eq_nil_of_length_eq_zero h0⟩
  · by_cases h0 : l = []
    · subst h0; exact .inl ⟨_, _, rfl, fun h => (by cases h), rfl⟩
    · refine .inr ⟨g, 0, cap, rfl, h0, by omega, hc, fun i hi => ?_⟩
      have := flatP_get l i hi
      constructor
      · rw [cell_of_row w g _ _ _ _ hg, Nat.zero_add, ← this.1, ← ht, List.getElem?_take, if_pos (by omega), Array.getElem?_toList]
      · rw [cell_of_row w g _ _ _ _ hg, Nat.zero_add, ← this.2, ← ht, List.getElem?_take, if_pos (by omega), Array.getElem?_toList]

theorem run_sl25 (a b : Nat) (w : World) : (Instr.buildSlice 25 1 #[(0, .complex .f64 a b)]).run Try.prog w = .ok (.slice (some ⟨w.heap.size, 0, none⟩) 1 1) (w.alloc (.cells #[.complex .f64 a b] 33)) := by kernel_rfl
theorem run_sl26 (x u : Int) (w : World) : (Instr.buildSlice 26 1 #[(0, prV x u)]).run Try.prog w = .ok (.slice (some ⟨w.heap.size, 0, none⟩) 1 1) (w.alloc (.cells (prC x u) 37)) := by kernel_rfl
theorem infoC : ∃ i, Try.prog.info? 33 = some i ∧ i.zero = some (.complex .f64 0 0) ∧ i.size = 1 ∧ i.bytes = 16 := info_parts (by kernel_rfl)
theorem infoP : ∃ i, Try.prog.info? 37 = some i ∧ i.zero = some (prV 0 0) ∧ i.size = 2 ∧ i.bytes = 16 := info_parts (by kernel_rfl)
theorem CL.append {xs ys : List Value} {l m : List Fr} (h : CL xs l) (h' : CL ys m) : CL (xs ++ ys) (l ++ m) := by
  refine ⟨by rw [List.length_append, List.length_append, h.1, h'.1], fun i hi => ?_⟩
  rw [List.length_append] at hi
  by_cases hlt : i < l.length
  · obtain ⟨v, h1, h2⟩ := h.2 i hlt
    exact ⟨v, by rw [List.getElem?_append_left (by rw [h.1]; exact hlt)]; exact h1, by rw [List.getElem_append_left hlt]; exact h2⟩
  · obtain ⟨v, h1, h2⟩ := h'.2 (i - l.length) (by omega)
    exact ⟨v, by rw [List.getElem?_append_right (by rw [h.1]; omega), h.1]; exact h1, by rw [List.getElem_append_right (by omega)]; exact h2⟩

section
variable {ops : Array Oper} {rest : List Oper} {o : Oper} {a : Act} {W : World} {Q : Exit → Act → World → Prop}
theorem wl_slC (hw : Region.wanted o (yielded ops a.tmps) = true) (x : Operand) (ho : o.op = .buildSlice 25 1 #[(0, x)]) (p q : Nat) (hx : a.eval x = .complex .f64 p q)
    (hK : wpList Try.prog ops Q rest (a.put o.dst (.slice (some ⟨W.heap.size, 0, none⟩) 1 1)) (W.alloc (.cells #[.complex .f64 p q] 33))) : wpList Try.prog ops Q (o :: rest) a W := by
  refine wpList_want hw fun K hK' => ?_
  unfold Oper.wp execOp
  simp only [ho, List.map_toArray, List.map_cons, List.map_nil, hx, Sem.run_bind, run_sl25, Result.andThen_ok, Sem.run_pure]
  exact hK' _ _ hK
theorem wl_slP (hw : Region.wanted o (yielded ops a.tmps) = true) (x : Operand) (ho : o.op = .buildSlice 26 1 #[(0, x)]) (p q : Int) (hx : a.eval x = prV p q)
    (hK : wpList Try.prog ops Q rest (a.put o.dst (.slice (some ⟨W.heap.size, 0, none⟩) 1 1)) (W.alloc (.cells (prC p q) 37))) : wpList Try.prog ops Q (o :: rest) a W := by
  refine wpList_want hw fun K hK' => ?_
  unfold Oper.wp execOp
  simp only [ho, List.map_toArray, List.map_cons, List.map_nil, hx, Sem.run_bind, run_sl26, Result.andThen_ok, Sem.run_pure]
  exact hK' _ _ hK
theorem wl_apC (hg : o.guard = none) (s x : Operand) (ho : o.op = .call { callee := .builtin .append, args := #[s, x], argTypes := #[25, 25] }) (base : Nat) (v : Value) (l : List Fr) (hs : a.eval s = v) (hown : OwnC W base v l)
    (g : Nat) (hx : a.eval x = .slice (some ⟨g, 0, none⟩) 1 1) (u : Value) (p : Fr) (hu : W.cell? ⟨g, 0, none⟩ = some u) (hc : IsC u p.1 p.2) (hn : l.length ≤ 1000) (hbase : base ≤ W.heap.size)
    (hK : ∀ v' W', OwnC W' base v' (l ++ [p]) → W.grownBy W' v.ownBlock → wpList Try.prog ops Q rest (a.put o.dst v') W') : wpList Try.prog ops Q (o :: rest) a W := by
  obtain ⟨i, hi, hz0, hz1, hz2⟩ := infoC
  obtain ⟨xs, hown, hcl⟩ := hown
  refine wpList_append_own W hg s x 25 ho base 33 i _ 1 16 Try.underlying25 hi hz0 hz1 hz2 rfl (by omega) v l.length xs hs hown ⟨g, 0, none⟩ 1 1 [u] hx rfl ?_ ?_ (by unfold maxLen; omega) (by omega) hbase ?_
  · intro j y hj
    match j, hj with
    | 0, hj => cases hj; exact hu
  · intro y hy
    rw [List.mem_singleton] at hy
    subst hy
    obtain ⟨_, _, rfl, _⟩ := hc
    rfl
  · intro v' W' h1 h2 _
    refine hK v' W' ⟨xs ++ [u], by rw [List.length_append]; exact h1, hcl.append ⟨rfl, fun i hi => ?_⟩⟩ h2
    obtain rfl : i = 0 := by simp at hi; exact hi
    exact ⟨u, rfl, hc⟩
theorem wl_apP (hg : o.guard = none) (s x : Operand) (ho : o.op = .call { callee := .builtin .append, args := #[s, x], argTypes := #[26, 26] }) (base : Nat) (v : Value) (l : List Fr) (hs : a.eval s = v) (hown : OwnP W base v l)
    (g : Nat) (hx : a.eval x = .slice (some ⟨g, 0, none⟩) 1 1) (p : Fr) (hu : W.cell? ⟨g, 0, none⟩ = some (.int .i64 p.1)) (hu' : W.cell? ⟨g, 1, none⟩ = some (.int .i64 p.2)) (hn : l.length ≤ 1000) (hbase : base ≤ W.heap.size)
    (hK : ∀ v' W', OwnP W' base v' (l ++ [p]) → W.grownBy W' v.ownBlock → wpList Try.prog ops Q rest (a.put o.dst v') W') : wpList Try.prog ops Q (o :: rest) a W := by
  obtain ⟨i, hi, hz0, hz1, hz2⟩ := infoP
  refine wpList_append_own W hg s x 26 ho base 37 i _ 2 16 Try.underlying26 hi hz0 hz1 hz2 rfl (by omega) v l.length _ hs hown ⟨g, 0, none⟩ 1 1 (flatP [p]) hx rfl ?_ ?_ (by unfold maxLen; omega) (by omega) hbase ?_
  · intro j y hj
    match j, hj with
    | 0, hj => cases hj; exact hu
    | 1, hj => cases hj; rw [addr_add]; exact hu'
  · intro y hy
    simp only [flatP, List.mem_cons, List.not_mem_nil, or_false] at hy
    rcases hy with rfl | rfl <;> rfl
  · intro v' W' h1 h2 _
    refine hK v' W' ?_ h2
    rw [OwnP, List.length_append, flatP_append]
    exact h1
end
end Go.Proofs.Ytgmpekkoffkphaa
