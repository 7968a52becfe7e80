/- Slices of parts and of bools that a call itself has made: appended to, read, stored into. -/
import Derived.Test.YtgmpekkoffkphaaEven
namespace Go.Proofs.Ytgmpekkoffkphaa
open Go.RowKit flt
set_option linter.unusedSimpArgs false

def OwnQ (w : World) (base : Nat) (v : Value) (n : Nat) (l : List Fr) : Prop := l.length = n ∧ w.ownsRow base 23 2 v n (flatP l)
def OwnB (w : World) (base : Nat) (v : Value) (n : Nat) (g : List Bool) : Prop := g.length = n ∧ w.ownsRow base 4 1 v n (g.map Value.bool)
theorem own_at {w : World} {base e s : Nat} {v : Value} {n : Nat} {xs : List Value} (h : w.ownsRow base e s v n xs) : (v = .slice none 0 0 ∧ n = 0) ∨ ∃ g c cur, v = .slice (some ⟨g, 0, none⟩) n c ∧ base ≤ g ∧ g < w.heap.size ∧ w.heap[g]? = some (.cells cur e) ∧ n ≤ maxLen ∧ n ≤ c := by
  rcases h.2 with h0 | ⟨g, cap, cur, rfl, hb, hg, hc, hm, _, _⟩
  · exact .inl h0
  · exact .inr ⟨g, cap, cur, rfl, hb, (Array.getElem?_eq_some_iff.1 hg).1, hg, by omega, hc⟩
theorem own_apart {w : World} {base base' e e' s s' : Nat} {v v' : Value} {n n' : Nat} {xs xs' : List Value} (h : w.ownsRow base e s v n xs) (h' : w.ownsRow base' e' s' v' n' xs') (he : e ≠ e') : v.ownBlock = none ∨ v.ownBlock ≠ v'.ownBlock := by
  rcases own_at h with ⟨rfl, _⟩ | ⟨g, c, cur, rfl, _, _, hg, _⟩
  · exact .inl rfl
  · refine .inr fun hh => ?_
    rcases own_at h' with ⟨rfl, _⟩ | ⟨g', c', cur', rfl, _, _, hg', _⟩
    · cases hh
    · simp only [Value.ownBlock, Option.some.injEq] at hh
      subst hh
      rw [hg] at hg'
      simp only [Option.some.injEq, Obj.cells.injEq] at hg'
      exact he hg'.2.1
theorem own_below {w w' : World} {base e s : Nat} {v : Value} {n : Nat} {xs : List Value} (h : w.ownsRow base e s v n xs) (hb : Below w.heap.size w w') : w'.ownsRow base e s v n xs :=
  h.kept (row := none) ⟨hb.os, hb.tape, hb.output, hb.size, fun k hk _ => hb.block k hk⟩ (by cases hh : v.ownBlock <;> simp)
theorem OwnQ.step {w w' : World} {base : Nat} {v : Value} {n : Nat} {l : List Fr} (h : OwnQ w base v n l) (hb : Below w.heap.size w w') : OwnQ w' base v n l := ⟨h.1, own_below h.2 hb⟩
theorem OwnB.step {w w' : World} {base : Nat} {v : Value} {n : Nat} {l : List Bool} (h : OwnB w base v n l) (hb : Below w.heap.size w w') : OwnB w' base v n l := ⟨h.1, own_below h.2 hb⟩
theorem OwnQ.isPs {w : World} {base : Nat} {v : Value} {n : Nat} {l : List Fr} (h : OwnQ w base v n l) : IsPs w v l := by
  obtain ⟨hl, h1, h2⟩ := h
  subst hl
  rcases h2 with ⟨rfl, h0⟩ | ⟨g, cap, cur, rfl, _, hg, hc, hm, hs, ht⟩
  · exact .inl ⟨none, 0, rfl, fun _ => rfl, List.eq_nil_of_length_eq_zero h0⟩
  · by_cases h0 : l = []
    · subst h0; exact .inl ⟨_, _, rfl, fun h => (by cases h), rfl⟩
    · refine .inr ⟨g, 0, cap, rfl, h0, by omega, hc, fun i hi => ?_⟩
      have := flatP_get l i hi
      constructor
      · rw [cell_of_row w g _ _ _ _ hg, Nat.zero_add, ← this.1, ← ht, List.getElem?_take, if_pos (by omega), Array.getElem?_toList]
      · rw [cell_of_row w g _ _ _ _ hg, Nat.zero_add, ← this.2, ← ht, List.getElem?_take, if_pos (by omega), Array.getElem?_toList]
theorem flatP_set : ∀ (l : List Fr) (i : Nat) (a : Int), i < l.length → (flatP l).set (i * 2) (.int .i64 a) = flatP (l.set i (a, (at0 l i).2))
  | p :: l, 0, a, _ => rfl
  | p :: l, i + 1, a, h => by
    have ih := flatP_set l i a (by simpa using h)
    have e : at0 (p :: l) (i + 1) = at0 l i := rfl
    rw [show (i + 1) * 2 = i * 2 + 1 + 1 by omega, e]
    simp only [flatP, List.set_cons_succ, ih]
/-- The cells of an own slice of parts. -/
theorem OwnQ.cells {w : World} {base g n c : Nat} {l : List Fr} (h : OwnQ w base (.slice (some ⟨g, 0, none⟩) n c) n l) (i : Nat) (hi : i < n) :
    w.cell? ⟨g, i * 2, none⟩ = some (.int .i64 (at0 l i).1) ∧ w.cell? ⟨g, i * 2 + 1, none⟩ = some (.int .i64 (at0 l i).2) := by
  have hl := h.1
  rw [h.2.cellAt _ (by omega), h.2.cellAt _ (by omega)]
  have := flatP_get l i (by omega)
  rw [at0_eq (by omega)]
  exact this
theorem OwnB.cells {w : World} {base g n c : Nat} {l : List Bool} (h : OwnB w base (.slice (some ⟨g, 0, none⟩) n c) n l) (i : Nat) (hi : i < n) : w.cell? ⟨g, i, none⟩ = some (.bool (l.getD i false)) := by
  have hl := h.1
  rw [h.2.cellAt _ (by omega), List.getElem?_map, List.getD_eq_getElem?_getD, List.getElem?_eq_getElem (by omega)]
  rfl
theorem OwnQ.stored {w : World} {base g n c : Nat} {l : List Fr} (h : OwnQ w base (.slice (some ⟨g, 0, none⟩) n c) n l) (i : Nat) (hi : i < n) (a : Int) :
    OwnQ (w.setCell ⟨g, i * 2, none⟩ (.int .i64 a)) base (.slice (some ⟨g, 0, none⟩) n c) n (l.set i (a, (at0 l i).2)) ∧ w.grownBy (w.setCell ⟨g, i * 2, none⟩ (.int .i64 a)) (some g) := by
  obtain ⟨h1, h2⟩ := h.2.stored (i * 2) (.int .i64 a)
  rw [flatP_set l i a (by have := h.1; omega)] at h1
  exact ⟨⟨by rw [List.length_set]; exact h.1, h1⟩, h2⟩
theorem OwnB.stored {w : World} {base g n c : Nat} {l : List Bool} (h : OwnB w base (.slice (some ⟨g, 0, none⟩) n c) n l) (i : Nat) (a : Bool) :
    OwnB (w.setCell ⟨g, i, none⟩ (.bool a)) base (.slice (some ⟨g, 0, none⟩) n c) n (l.set i a) ∧ w.grownBy (w.setCell ⟨g, i, none⟩ (.bool a)) (some g) := by
  obtain ⟨h1, h2⟩ := h.2.stored i (.bool a)
  rw [← List.map_set] at h1
  exact ⟨⟨by rw [List.length_set]; exact h.1, h1⟩, h2⟩
theorem infoQ : ∃ i, Try.prog.info? 23 = some i ∧ i.zero = some (prV 0 0) ∧ i.size = 2 ∧ i.bytes = 16 := info_parts (by kernel_rfl)
theorem infoB : ∃ i, Try.prog.info? 4 = some i ∧ i.zero = some (.bool false) ∧ i.size = 1 ∧ i.bytes = 1 := info_parts (by kernel_rfl)
section
variable {ops : Array Oper} {rest : List Oper} {o : Oper} {a : Act} {W : World} {Q : Exit → Act → World → Prop}
theorem wl_apQ (hg : o.guard = none) (s x : Operand) (ho : o.op = .call { callee := .builtin .append, args := #[s, x], argTypes := #[29, 29] }) (base n : Nat) (v : Value) (l : List Fr) (hs : a.eval s = v) (hown : OwnQ W base v n l)
    (g : Nat) (hx : a.eval x = .slice (some ⟨g, 0, none⟩) 1 1) (p : Fr) (hu : W.cell? ⟨g, 0, none⟩ = some (.int .i64 p.1)) (hu' : W.cell? ⟨g, 1, none⟩ = some (.int .i64 p.2)) (hn : n ≤ 1000) (hbase : base ≤ W.heap.size)
    (hK : ∀ v' W', OwnQ W' base v' (n + 1) (l ++ [p]) → W.grownBy W' v.ownBlock → wpList Try.prog ops Q rest (a.put o.dst v') W') : wpList Try.prog ops Q (o :: rest) a W := by
  obtain ⟨i, hi, hz0, hz1, hz2⟩ := infoQ
  obtain ⟨hl, hown⟩ := hown
  refine wpList_append_own W hg s x 29 ho base 23 i _ 2 16 Try.underlying29 hi hz0 hz1 hz2 rfl (by omega) v n _ hs hown ⟨g, 0, none⟩ 1 1 (flatP [p]) hx rfl ?_ ?_ (by unfold maxLen; omega) (by omega) hbase ?_
  · intro j y hj
    match j, hj with
    | 0, hj => cases hj; exact hu
    | 1, hj => cases hj; rw [addr_add]; exact hu'
  · intro y hy
    simp only [flatP, List.mem_cons, List.not_mem_nil, or_false] at hy
    rcases hy with rfl | rfl <;> rfl
  · intro v' W' h1 h2 _
    refine hK v' W' ⟨by rw [List.length_append, hl]; rfl, ?_⟩ h2
    rw [flatP_append]
    exact h1
theorem wl_apB (hg : o.guard = none) (s x : Operand) (ho : o.op = .call { callee := .builtin .append, args := #[s, x], argTypes := #[45, 45] }) (base n : Nat) (v : Value) (l : List Bool) (hs : a.eval s = v) (hown : OwnB W base v n l)
    (g : Nat) (hx : a.eval x = .slice (some ⟨g, 0, none⟩) 1 1) (p : Bool) (hu : W.cell? ⟨g, 0, none⟩ = some (.bool p)) (hn : n ≤ 1000) (hbase : base ≤ W.heap.size)
    (hK : ∀ v' W', OwnB W' base v' (n + 1) (l ++ [p]) → W.grownBy W' v.ownBlock → wpList Try.prog ops Q rest (a.put o.dst v') W') : wpList Try.prog ops Q (o :: rest) a W := by
  obtain ⟨i, hi, hz0, hz1, hz2⟩ := infoB
  obtain ⟨hl, hown⟩ := hown
  refine wpList_append_own W hg s x 45 ho base 4 i _ 1 1 Try.underlying45 hi hz0 hz1 hz2 rfl (by omega) v n _ hs hown ⟨g, 0, none⟩ 1 1 [.bool p] hx rfl ?_ ?_ (by unfold maxLen; omega) (by omega) hbase ?_
  · intro j y hj
    match j, hj with
    | 0, hj => cases hj; exact hu
  · intro y hy
    rw [List.mem_singleton] at hy
    subst hy
    rfl
  · intro v' W' h1 h2 _
    refine hK v' W' ⟨by rw [List.length_append, hl]; rfl, ?_⟩ h2
    rw [List.map_append]
    exact h1
theorem run_st {t : TypeId} (hsz : ∀ w, (sizeOf t).run Try.prog w = .ok 1 w) (ad : Addr) (v old : Value) (hv : v.oneCell' = true) (w : World) (hc : w.cell? ad = some old) (hf : w.frozen? ad = false) : (storeVar t ad v).run Try.prog w = .ok () (w.setCell ad v) := by
  have hcs : v.cells = #[v] := by cases v <;> first | rfl | simp [Value.oneCell'] at hv
  simp [storeVar, hcs, hsz, storeCells, run_store Try.prog _ _ v _ hv, Addr.add_zero', hc, hf, Result.andThen]
theorem wl_st (hw : Region.wanted o (yielded ops a.tmps) = true) {t : TypeId} (hsz : ∀ w, (sizeOf t).run Try.prog w = .ok 1 w) (x y : Operand) (ho : o.op = .store t x y) (ad : Addr) (v old : Value) (hx : a.eval x = .pointer (some ad)) (hy : a.eval y = v) (hv : v.oneCell' = true)
    (hc : W.cell? ad = some old) (hf : W.frozen? ad = false) (hK : wpList Try.prog ops Q rest (a.put o.dst undef) (W.setCell ad v)) : wpList Try.prog ops Q (o :: rest) a W := by
  refine wpList_want hw fun K hK' => ?_
  unfold Oper.wp execOp
  simp only [ho, hx, hy, Instr.storeAt, Instr.sureAddr, Sem.run_bind, Sem.run_pure, Result.andThen_ok, run_st hsz ad v old hv W hc hf]
  exact hK' _ _ hK
theorem size3 (w : World) : (sizeOf 3).run Try.prog w = .ok 1 w := by kernel_rfl
theorem size4 (w : World) : (sizeOf 4).run Try.prog w = .ok 1 w := by kernel_rfl
end
end Go.Proofs.Ytgmpekkoffkphaa
